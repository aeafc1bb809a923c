/- Parts of a proof, joined: VG, VH, VI, VJ, VY, LO, TA, TB, TC, TD, TE, VZ. -/
import Derived.Test.YtalagilebkaegaaGreatJ1
import Derived.WalkKit
import Derived.WalkLawsBesides
import Derived.Scope
set_option linter.unusedVariables false
set_option linter.unusedSimpArgs false
namespace Go.Proofs.YtalagilebkaegaaGreat
open Go.RowKit
section
theorem BD.{u}{α:Type u}{i:Nat}{l:List α}:(l.drop i).length=l.length-i:=List.length_drop
theorem Bg(b:Bool):((!b)=true)=(b=false):=Bool.not_eq_true' b
theorem Dg.{u}{α:Type u}{a b:α}:(some a).getD b=a:=rfl
theorem Bl.{u}{α:Type u}{p:α->Bool}{l:List α}:l.all p=true↔∀x,x∈l->p x=true:=List.all_eq_true
theorem AS:(false=true)=False:=Bool.false_eq_true
theorem As.{u,v}{α:Type u}{β:Type v}{b:β}{x:Option α}{f:α->β}:x.map f=some b↔∃a,x=some a/\f a=b:=Option.map_eq_some_iff
theorem Aa.{u,v}{α:Type u}{β:Type v}(a:α)(f:α->Option β):(some a).bind f=f a:=rfl
structure GI where
 top:List Nat
 O:List Nat
def GI.own(g:GI):List Nat:=g.top++g.O
def Bu(ρ:List AV)(gs:Gd):Prop:= ∀g∈gs,g.1.den ρ= .bool g.2
structure Al where
 ok:Nat->Prop
 pin:Nat->Option Value
 lo:Value->AV->Prop
instance:CoeFun Al (λ_=>Nat->Prop):=⟨Al.ok⟩
structure Cx where
 ρ:List AV
 w:World
 G:Nat->GI
 K:Nat->Nat->Prop
 H:Nat->Nat->Value
 A:Al
 w0:World
 Mu:Nat->Prop
 U:Nat->Prop
 E:Nat->Nat
def Cx.B(c:Cx):Nat:=c.w0.heap.size
def Cx.M(c:Cx)(b:Nat):Prop:= ∃t,b∈(c.G t).top
def Cx.ok(c:Cx)(b:Nat):Prop:= ¬c.M b/\(c.A b\/c.B<=b\/c.Mu b)
def CH(ρ:List AV)(o:Option Af)(e:Af):Prop:=match o with
 |some (.gd gs e')=>Bu ρ gs/\e'=e
 |some e'=>e'=e
 |none=>False
def Tf(_:World)(f:List Nat):Prop:=f=[]
def IU(c:Cx)(t g:Nat)(p:NZ)(v:Value):Prop:=match p with
 |none=>True
 |some (i,z,o)=> ∃b n cap C ty fz kk k,c.H t g= .slice (some ⟨b,0,none⟩) n cap/\b∈(c.G t).top/\c.w.heap[b]?=some (.cells C ty fz)/\i.den c.ρ= .int kk k/\0<=k/\k<n/\C[k.toNat*z+o]?=some v
def Qp(c:Cx)(t:Nat)(v:Value)(x:AV):Prop:= ∃f,Rd c.w [v] [x] f/\ ∀b∈f,c.ok b\/b∈(c.G t).top
inductive SR(c:Cx):List SV->List Value->Prop where
 |nil:SR c [] []
 |undef {v ss vs}:SR c ss vs->SR c (.undef::ss) (v::vs)
 |e {x v f ss vs}:Rd c.w [v] [x.den c.ρ] f->(∀b∈f,c.ok b)->SR c ss vs->SR c (.e x::ss) (v::vs)
 |cd {ss vs}:SR c ss vs->SR c (.cd::ss) (.slice none 0 0::vs)
 |emp {a ss vs}:SR c ss vs->SR c (.emp::ss) (.slice a 0 0::vs)
 |own {t g p q r ss vs}:c.K t g->c.H t g= .slice p q r->SR c ss vs->SR c (.own t g::ss) (.slice p q r::vs)
 |cj {t o b ss vs}:c.K t 0->c.H t 0= .pointer (some ⟨b,0,none⟩)->SR c ss vs->SR c (.cj t o::ss) (.pointer (some ⟨b,o,none⟩)::vs)
 |cr {t g:Nat} {i:E} {sz o b n cap kk} {k:Int} {ss vs}:c.K t g->c.H t g= .slice (some ⟨b,0,none⟩) n cap->i.den c.ρ= .int kk k->0<=k->k<n->SR c ss vs->
   SR c (.cr t g i sz o::ss) (.pointer (some ⟨b,k.toNat*sz+o,none⟩)::vs)
 |de {x i:E} {sz o b off n cap:Nat} {f kk} {k:Int} {ss vs}:Rd c.w [.slice (some ⟨b,off,none⟩) n cap] [x.den c.ρ] f->(∀b∈f,c.ok b)->i.den c.ρ= .int kk k->0<=k->k<n->((x.den c.ρ).nth k.toNat).cells.length=sz->
   SR c ss vs->SR c (.de x i sz o::ss) (.pointer (some ⟨b,off+k.toNat*sz+o,none⟩)::vs)
 |db {x:E} {o b:Nat} {f ss vs}:Rd c.w [.pointer (some ⟨b,0,none⟩)] [x.den c.ρ] f->(∀b∈f,c.ok b)->SR c ss vs->SR c (.db x o::ss) (.pointer (some ⟨b,o,none⟩)::vs)
 |agg {cs as_ ss vs}:(∀u∈as_,u.oneCell'=true)->SR c cs.toList as_->SR c ss vs->SR c (.agg cs::ss) (.agg as_.toArray::vs)
 |tup {cs as_ ss vs}:SR c cs.toList as_->SR c ss vs->SR c (.tup cs::ss) (.tuple as_.toArray::vs)
 |fn {g cs as_ ss vs}:SR c cs.toList as_->SR c ss vs->SR c (.fn g cs::ss) (.func (.func g) #[] as_.toArray::vs)
 |gd {gs s v ss vs}:(Bu c.ρ gs->SR c [s] [v])->(¬Bu c.ρ gs->v=undef)->SR c ss vs->SR c (.gd gs s::ss) (v::vs)
 |via {t g n p x v ss vs}:c.K t g->n<=c.E t->(c.E t=n->Qp c t v (x.den c.ρ)/\IU c t g p v)->SR c ss vs->SR c (.via t g n p x::ss) (v::vs)
 |vptr {t g n p x i sz o v ss vs}:c.K t g->n<=c.E t->(c.E t=n-> ∃(b off len cap:Nat) (kk:IntKind) (k:Int),Qp c t (.slice (some ⟨b,off,none⟩) len cap) (x.den c.ρ)/\IU c t g p (.slice (some ⟨b,off,none⟩) len cap)/\i.den c.ρ= .int kk k/\0<=k/\k<len/\
   ((x.den c.ρ).nth k.toNat).cells.length=sz/\v= .pointer (some ⟨b,off+k.toNat*sz+o,none⟩))->SR c ss vs->SR c (.vptr t g n p x i sz o::ss) (v::vs)
 |wown {t g:Nat} {lo:E} {sz:Nat} {q:Option Addr} {n cap:Nat} {q':Option Addr} {r:Nat} {kk:IntKind} {k:Int} {ss vs}:c.K t g->c.H t g= .slice q n cap->lo.den c.ρ= .int kk k->0<=k->k<=n->(k<n-> ∃b,q=some ⟨b,0,none⟩/\q'=some ⟨b,k.toNat*sz,none⟩/\r=cap-k.toNat)->SR c ss vs->SR c (.wown t g lo sz::ss) (.slice q' (n-k.toNat) r::vs)
 |lent {i v ss vs}:c.A.lo v ((E.var i).den c.ρ)->SR c ss vs->SR c (.lent i::ss) (v::vs)
def zHB(c:Cx)(e z:Nat)(l:List DT)(v:Value)(x i:AV)(o u:Nat)(N:List Nat):Prop:=
 ∃(b cap:Nat) (C:Array Value) (ys:List AV) (kk:IntKind) (k:Int) (N1 N2:List Nat),v= .slice (some ⟨b,0,none⟩) ys.length cap/\x= .sl ys/\i= .int kk k/\0<=k/\k<ys.length/\o<z/\0<z/\l.length=z/\c.w.heap[b]?=some (.cells C e (0,0))/\ys.length<=cap/\cap<=maxLen/\C.size=cap*z/\(∀y∈ys,y.cells.length=z)/\
  (∀w∈C.toList.take (ys.length*z),w.oneCell'=true)/\N=b::(N1++N2)/\c.K u 0/\C[k.toNat*z+o]?=some (c.H u 0)/\
  DC c.w ((BJ ys.length l).take (k.toNat*z+o)) ((C.toList.take (ys.length*z)).take (k.toNat*z+o)) ((Aq ys).take (k.toNat*z+o)) N1/\
  DC c.w ((BJ ys.length l).drop (k.toNat*z+o+1)) ((C.toList.take (ys.length*z)).drop (k.toNat*z+o+1)) ((Aq ys).drop (k.toNat*z+o+1)) N2
def zHt(c:Cx)(e z:Nat)(l:List DT)(v:Value)(x k:AV)(N:List Nat):Prop:=
 ∃(p:Option Addr) (cap:Nat) (ys:List AV) (kk:IntKind) (kv:Nat),v= .slice p ys.length cap/\x= .sl ys/\k= .int kk kv/\kv<=ys.length/\ys.length<=cap/\DC c.w [.row e z (Az.of l)] [.slice p kv cap] [.sl (ys.take kv)] N
def Dv(c:Cx)(t:Nat):Af->Prop
 | .box ty _ cs=> ∃b C,c.K t 0/\c.H t 0= .pointer (some ⟨b,0,none⟩)/\(c.G t).top=[b]/\(c.G t).O=[]/\c.w.heap[b]?=some (.cells C ty (0,0))/\(∀u∈C.toList,u.oneCell'=true)/\SR c cs C.toList
 | .row ety sz g x d=>c.K t g/\(∀g',c.K t g'->g'<=g)/\ ∃N,C3 c.w ety sz (c.H t g) (x.den c.ρ) (c.G t).top N/\(∀b∈N,c.ok b)/\(d=true->Tf c.w N/\(c.G t).O=N)/\(d=false->(c.G t).O=[])
 | .bu g x=>c.K t g/\(∃f,Rd c.w [c.H t g] [x.den c.ρ] f/\ ∀b∈f,c.ok b)/\(c.G t).top=[]/\(c.G t).O=[]
 | .gd .. =>(c.G t).top=[]/\(c.G t).O=[]
 | .dead=>(c.G t).top=[]/\(c.G t).O=[]
 | .deep e z l g ep x=>c.K t g/\(∀g',c.K t g'->g'<=g)/\c.E t=ep/\DC c.w [.row e z (Az.of l)] [c.H t g] [x.den c.ρ] (c.G t).top/\(c.G t).O=[]
 | .hol e z l g ep x i o u=>c.K t g/\(∀g',c.K t g'->g'<=g)/\c.E t=ep/\zHB c e z l (c.H t g) (x.den c.ρ) (i.den c.ρ) o u (c.G t).top/\(c.G t).O=[]
 | .pre e z l g ep x k=>c.K t g/\(∀g',c.K t g'->g'<=g)/\c.E t=ep/\zHt c e z l (c.H t g) (x.den c.ρ) (k.den c.ρ) (c.G t).top/\(c.G t).O=[]
structure GW(c:Cx):Prop where
 nodup:∀t,(c.G t).own.Nodup
 cq:∀t u,t≠u-> ∀b∈(c.G t).own,b∉(c.G u).own
 allow:∀t,∀b∈(c.G t).own,c.B<=b\/c.Mu b
 inb:∀t,∀b∈(c.G t).own,b<c.w.heap.size
structure Qt(c:Cx):Prop where
 os:c.w.os=c.w0.os
 tape:c.w.tape=c.w0.tape
 output:c.w.output=c.w0.output
 size:c.w0.heap.size<=c.w.heap.size
 pins:∀t v,c.A.pin t=some v->c.U t/\(c.K t 0->c.H t 0=v)
 block:∀b,b<c.w0.heap.size-> ¬c.Mu b->c.w.heap[b]?=c.w0.heap[b]?
 pk:gP c.w0 c.Mu
 lo:∀v y,c.A.lo v y-> ∃f,Rd c.w0 [v] [y] f/\ ∀b∈f,¬c.Mu b
structure Rel(c:Cx)(n:Nat)(sl:Nat->SV)(hp:Nat->Option Af)(a:Act):Prop where
 defers:a.defers=[]
 size:a.tmps.size=n
 base:Qt c
 cz:∀i,SR c [sl i] [a.tmps.getD i undef]
 ents:∀t e,CH c.ρ (hp t) e->Dv c t e
 off:∀t,(∀e,¬CH c.ρ (hp t) e)->(c.G t).top=[]/\(c.G t).O=[]
 gw:GW c
 bq:∀t g,c.K t g->c.U t
 ct:∀t e,hp t=some e->c.U t
theorem SR.app{c:Cx}{ss:List SV}{vs:List Value}(h:SR c ss vs){ss':List SV}{vs':List Value}(k:SR c ss' vs'):SR c (ss++ss') (vs++vs'):=by
 induction h with
 |nil=>exact k
 |undef _ ih=>exact .undef ih
 |e h1 h2 _ ih=>exact .e h1 h2 ih
 |cd _ ih=>exact .cd ih
 |emp _ ih=>exact .emp ih
 |own h1 h2 _ ih=>exact .own h1 h2 ih
 |cj h1 h2 _ ih=>exact .cj h1 h2 ih
 |cr h1 h2 h3 h4 h5 _ ih=>exact .cr h1 h2 h3 h4 h5 ih
 |de h1 h2 h3 h4 h5 h6 _ ih=>exact .de h1 h2 h3 h4 h5 h6 ih
 |db h1 h2 _ ih=>exact .db h1 h2 ih
 |agg h9 h1 _ _ ih=>exact .agg h9 h1 ih
 |tup h1 _ _ ih=>exact .tup h1 ih
 |fn h1 _ _ ih=>exact .fn h1 ih
 |gd h1 h2 _ _ ih=>exact .gd h1 h2 ih
 |via h1 h2 h3 _ ih=>exact .via h1 h2 h3 ih
 |vptr h1 h2 h3 _ ih=>exact .vptr h1 h2 h3 ih
 |wown h1 h2 h3 h4 h5 h6 _ ih=>exact .wown h1 h2 h3 h4 h5 h6 ih
 |lent h1 _ ih=>exact .lent h1 ih
theorem SR.len{c:Cx}{ss:List SV}{vs:List Value}(h:SR c ss vs):ss.length=vs.length:=by induction h<;>simp_all
theorem SR.cf{c:Cx}{s:SV}{ss:List SV}{v:Value}{vs:List Value}(h:SR c (s::ss) (v::vs)):SR c [s] [v]/\SR c ss vs:=by
 cases h with
 |undef h=>exact⟨.undef .nil,h⟩
 |e h1 h2 h=>exact⟨.e h1 h2 .nil,h⟩
 |cd h=>exact⟨.cd .nil,h⟩
 |emp h=>exact⟨.emp .nil,h⟩
 |own h1 h2 h=>exact⟨.own h1 h2 .nil,h⟩
 |cj h1 h2 h=>exact⟨.cj h1 h2 .nil,h⟩
 |cr h1 h2 h3 h4 h5 h=>exact⟨.cr h1 h2 h3 h4 h5 .nil,h⟩
 |de h1 h2 h3 h4 h5 h6 h=>exact⟨.de h1 h2 h3 h4 h5 h6 .nil,h⟩
 |db h1 h2 h=>exact⟨.db h1 h2 .nil,h⟩
 |agg h9 h1 h=>exact⟨.agg h9 h1 .nil,h⟩
 |tup h1 h=>exact⟨.tup h1 .nil,h⟩
 |fn h1 h=>exact⟨.fn h1 .nil,h⟩
 |gd h1 h2 h=>exact⟨.gd h1 h2 .nil,h⟩
 |via h1 h2 h3 h=>exact⟨.via h1 h2 h3 .nil,h⟩
 |vptr h1 h2 h3 h=>exact⟨.vptr h1 h2 h3 .nil,h⟩
 |wown h1 h2 h3 h4 h5 h6 h=>exact⟨.wown h1 h2 h3 h4 h5 h6 .nil,h⟩
 |lent h1 h=>exact⟨.lent h1 .nil,h⟩
theorem SR.cons{c:Cx}{s:SV}{ss:List SV}{v:Value}{vs:List Value}(h:SR c [s] [v])(k:SR c ss vs):SR c (s::ss) (v::vs):=h.app k
theorem SR.get{c:Cx}:∀{ss:List SV} {vs:List Value},SR c ss vs-> ∀{i:Nat} {s:SV},ss[i]?=some s-> ∃v,vs[i]?=some v/\SR c [s] [v]
 | [],vs,h,i,s,hs=>by simp at hs
 |s0::ss,[],h,_,_,_=>by have:=h.len;simp at this
 |s0::ss,v0::vs,h,i,s,hs=>by
  obtain⟨h1,h2⟩:=h.cf;cases i with
  |zero=>simp at hs;subst hs;exact⟨v0,rfl,h1⟩
  |succ i=>simpa using h2.get (by simpa using hs)
theorem SR.split{c:Cx}:∀{ss:List SV} {vs:List Value} (n:Nat),SR c ss vs->SR c (ss.take n) (vs.take n)/\SR c (ss.drop n) (vs.drop n)
 |ss,vs,0,h=>by simpa using⟨SR.nil,h⟩
 | [],vs,n+1,h=>by
  have:=h.len;cases vs with
  |nil=>simpa using SR.nil
  |cons=>simp at this
 |s::ss,[],n+1,h=>by have:=h.len;simp at this
 |s::ss,v::vs,n+1,h=>by obtain⟨h1,h2⟩:=h.cf;obtain⟨h3,h4⟩:=h2.split n;exact⟨h1.app h3,h4⟩
structure DY(c c':Cx):Prop where
 ρ:c'.ρ=c.ρ
 A:c'.A=c.A
 ok:∀b,b<c.w.heap.size->c.ok b->c'.ok b
 mem:∀b,b<c.w.heap.size->c.ok b->c'.w.heap[b]?=c.w.heap[b]?
 K:∀t g,c.K t g->c'.K t g/\c'.H t g=c.H t g
 E:∀t g,c.K t g->c.E t<=c'.E t/\(c'.E t=c.E t->c'.G t=c.G t/\ ∀b∈(c.G t).top,b<c.w.heap.size->c'.w.heap[b]?=c.w.heap[b]?)
theorem Qp.keep{c c':Cx}(k:DY c c'){t g:Nat}(hK:c.K t g)(he:c'.E t=c.E t){v:Value}{x:AV}(h:Qp c t v x):Qp c' t v x:=by
 obtain⟨f,h1,h2⟩:=h;obtain⟨e1,e2⟩:=(k.E t g hK).2 he;refine⟨f,h1.frame λb hb=> ?_,λb hb=> ?_⟩
 ·rcases h2 b hb with h|h
  ·exact k.mem b (h1.inb b hb) h
  ·exact e2 b h (h1.inb b hb)
 ·rcases h2 b hb with h|h
  ·exact .inl (k.ok b (h1.inb b hb) h)
  ·exact .inr (by rw[e1];exact h)
theorem IU.keep{c c':Cx}(k:DY c c'){t g:Nat}(hK:c.K t g)(he:c'.E t=c.E t){p:NZ}{v:Value}(h:IU c t g p v):IU c' t g p v:=by
 cases p with
 |none=>exact trivial
 |some p=>obtain⟨i,z,o⟩:=p;obtain⟨b,n,cap,C,ty,fz,kk,q,h1,h2,h3,h4,h5,h6,h7⟩:=h;obtain⟨e1,e2⟩:=(k.E t g hK).2 he;exact⟨b,n,cap,C,ty,fz,kk,q,by rw[(k.K t g hK).2];exact h1,by rw[e1];exact h2,by rw[e2 b h2 (Dq h3)];exact h3,by rw[k.ρ];exact h4,h5,h6,h7⟩
theorem Rd.gv{c c':Cx}(k:DY c c'){vs:List Value}{xs:List AV}{f:List Nat}(h:Rd c.w vs xs f)(hf:∀b∈f,c.ok b):Rd c'.w vs xs f/\ ∀b∈f,c'.ok b:=
 ⟨h.frame λb hb=>k.mem b (h.inb b hb) (hf b hb),λb hb=>k.ok b (h.inb b hb) (hf b hb)⟩
theorem DY.refl(c:Cx):DY c c:=⟨rfl,rfl,λ_ _ h=>h,λ_ _ _=>rfl,λ_ _ h=>⟨h,rfl⟩,λ_ _ _=>⟨AJ _,λ_=>⟨rfl,λ_ _ _=>rfl⟩⟩⟩
theorem SR.keep{c c':Cx}(k:DY c c'){ss:List SV}{vs:List Value}(h:SR c ss vs):SR c' ss vs:=by
 have hρ:=k.ρ
 induction h with
 |nil=>exact .nil
 |undef _ ih=>exact .undef ih
 |e h1 h2 _ ih=>obtain⟨a,b⟩:=Rd.gv k h1 h2;exact .e (by rw[hρ];exact a) b ih
 |cd _ ih=>exact .cd ih
 |emp _ ih=>exact .emp ih
 |own h1 h2 _ ih=>obtain⟨a,b⟩:=k.K _ _ h1;exact .own a (b.trans h2) ih
 |cj h1 h2 _ ih=>obtain⟨a,b⟩:=k.K _ _ h1;exact .cj a (b.trans h2) ih
 |cr h1 h2 h3 h4 h5 _ ih=>obtain⟨a,b⟩:=k.K _ _ h1;exact .cr a (b.trans h2) (by rw[hρ];exact h3) h4 h5 ih
 |de h1 h2 h3 h4 h5 h6 _ ih=>obtain⟨a,b⟩:=Rd.gv k h1 h2;exact .de (by rw[hρ];exact a) b (by rw[hρ];exact h3) h4 h5 (by rw[hρ];exact h6) ih
 |db h1 h2 _ ih=>obtain⟨a,b⟩:=Rd.gv k h1 h2;exact .db (by rw[hρ];exact a) b ih
 |agg h9 _ _ ih1 ih2=>exact .agg h9 ih1 ih2
 |tup _ _ ih1 ih2=>exact .tup ih1 ih2
 |fn _ _ ih1 ih2=>exact .fn ih1 ih2
 |gd _ h2 _ ih1 ih2=>exact .gd (λhg=>ih1 (by rw[<-hρ];exact hg)) (λhg=>h2 (by rw[<-hρ];exact hg)) ih2
 | @via t g n p x v ss vs h1 h2 h3 _ ih=>
  obtain⟨a,b⟩:=k.K _ _ h1;have hle:=(k.E t g h1).1;refine .via a (Nat.le_trans h2 hle) (λhe=> ?_) ih;have Ll:c.E t=n:=by omega
  have Ol:c'.E t=c.E t:=by omega
  obtain⟨q1,q2⟩:=h3 Ll;exact⟨by rw[hρ];exact q1.keep k h1 Ol,q2.keep k h1 Ol⟩
 | @vptr t g n p x i sz o v ss vs h1 h2 h3 _ ih=>
  obtain⟨a,b⟩:=k.K _ _ h1;have hle:=(k.E t g h1).1;refine .vptr a (Nat.le_trans h2 hle) (λhe=> ?_) ih;have Ll:c.E t=n:=by omega
  have Ol:c'.E t=c.E t:=by omega
  obtain⟨b,off,len,cap,kk,q,q1,q2,q3⟩:=h3 Ll;exact⟨b,off,len,cap,kk,q,by rw[hρ];exact q1.keep k h1 Ol,q2.keep k h1 Ol,by rw[hρ];exact q3⟩
 |wown h1 h2 h3 h4 h5 h6 _ ih=>obtain⟨a,b⟩:=k.K _ _ h1;exact .wown a (b.trans h2) (by rw[hρ];exact h3) h4 h5 h6 ih
 |lent h1 _ ih=>exact .lent (by rw[hρ,k.A];exact h1) ih
theorem C3.frame{w w':World}{ety sz:Nat}{v:Value}{x:AV}{top N:List Nat}(h:C3 w ety sz v x top N)(ht:∀b∈top,w'.heap[b]?=w.heap[b]?)(hN:∀b∈N,w'.heap[b]?=w.heap[b]?):C3 w' ety sz v x top N:=by
 obtain⟨xs,h1,h2,h3,h4|⟨g,cap,C,h5,h6,h7,h8,h9,Fj,K8,EE⟩⟩:=h
 ·exact⟨xs,h1,h2,h3, .inl h4⟩
 ·exact⟨xs,h1,h2,h3, .inr ⟨g,cap,C,h5,h6,h7,by rw[ht g (by simp[Fj])];exact h8,h9,Fj,K8,EE.frame hN⟩⟩
theorem Tf.frame{w w':World}{f:List Nat}(h:Tf w f)(hf:∀b∈f,w'.heap[b]?=w.heap[b]?):Tf w' f:=have _:=hf;h
theorem C3.ln{w:World}{ety sz:Nat}{v:Value}{x:AV}{top N:List Nat}(h:C3 w ety sz v x top N):∀b∈N,b<w.heap.size:=by
 obtain⟨xs,h1,h2,h3,h4|⟨g,cap,C,h5,h6,h7,h8,h9,Fj,K8,EE⟩⟩:=h
 ·simp[h4.2.2.2]
 ·exact EE.inb
theorem Dv.keep{c c':Cx}(k:DY c c'){t:Nat}{e:Af}(h:Dv c t e)(hG:c'.G t=c.G t)(hE:c'.E t=c.E t)(hK:∀g,c'.K t g->c.K t g)(hm:∀b∈(c.G t).top,c'.w.heap[b]?=c.w.heap[b]?):Dv c' t e:=by
 cases e with
 |box ty g cs=>obtain⟨b,C,h1,h2,h3,h4,h5,h5',h6⟩:=h;obtain⟨a1,a2⟩:=k.K _ _ h1;exact⟨b,C,a1,a2.trans h2,by rw[hG];exact h3,by rw[hG];exact h4,by rw[hm b (by simp[h3])];exact h5,h5',h6.keep k⟩
 |row ety sz g x d=>
  obtain⟨h1,h0,N,h2,h3,h4,h5⟩:=h;obtain⟨a1,a2⟩:=k.K _ _ h1;have hN:=h2.ln;refine⟨a1,λg' Cu=>h0 g' (hK g' Cu),N,?_,λb hb=>k.ok b (hN b hb) (h3 b hb),λhd=> ?_,λhd=>by rw[hG];exact h5 hd⟩
  ·rw[a2,k.ρ,hG];exact h2.frame hm λb hb=>k.mem b (hN b hb) (h3 b hb)
  ·obtain⟨a,b⟩:=h4 hd;exact⟨a.frame λb hb=>k.mem b (hN b hb) (h3 b hb),by rw[hG];exact b⟩
 |bu g x=>obtain⟨h1,⟨f,h2,h3⟩,h4,h5⟩:=h;obtain⟨a1,a2⟩:=k.K _ _ h1;obtain⟨a,b⟩:=Rd.gv k h2 h3;exact⟨a1,⟨f,by rw[a2,k.ρ];exact a,b⟩,by rw[hG];exact h4,by rw[hG];exact h5⟩
 |gd gs e=>exact by rw[Dv,hG];exact h
 |dead=>exact by rw[Dv,hG];exact h
 |deep e z l g ep x=>obtain⟨h1,h0,h2,h3,h4⟩:=h;obtain⟨a1,a2⟩:=k.K _ _ h1;exact⟨a1,λg' Cu=>h0 g' (hK g' Cu),hE.trans h2,by rw[a2,k.ρ,hG];exact h3.frame hm,by rw[hG];exact h4⟩
 |hol e z l g ep x i o u=>
  obtain⟨h1,h0,h2,⟨b,cap,C,ys,kk,kv,N1,N2,p1,p2,p3,p4,p5,p6,p7,p7',p8,p9,p10,p11,p12,p13,p14,p15,p16,p17,p18⟩,h4⟩:=h;obtain⟨a1,a2⟩:=k.K _ _ h1;obtain⟨a3,a4⟩:=k.K _ _ p15;refine⟨a1,λg' Cu=>h0 g' (hK g' Cu),hE.trans h2,⟨b,cap,C,ys,kk,kv,N1,N2,by rw[a2];exact p1,by rw[k.ρ];exact p2,by rw[k.ρ];exact p3,p4,p5,p6,p7,p7',by rw[hm b (by rw[p14];simp)];exact p8,p9,p10,p11,p12,p13,by rw[hG];exact p14,a3,by rw[a4];exact p16,
   p17.frame λq hq=>hm q (by rw[p14];simp[hq]),p18.frame λq hq=>hm q (by rw[p14];simp[hq])⟩,by rw[hG];exact h4⟩
 |pre e z l g ep x kx=>obtain⟨h1,h0,h2,⟨p,cap,ys,kk,kv,p1,p2,p3,p4,p5,p6⟩,h4⟩:=h;obtain⟨a1,a2⟩:=k.K _ _ h1;exact⟨a1,λg' Cu=>h0 g' (hK g' Cu),hE.trans h2,⟨p,cap,ys,kk,kv,by rw[a2];exact p1,by rw[k.ρ];exact p2,by rw[k.ρ];exact p3,p4,p5,by rw[hG];exact p6.frame hm⟩,by rw[hG];exact h4⟩
theorem zx6{ρ:List AV}{g:E × Bool}{gs:Gd}(h:PZ g gs=true)(k:Bu ρ gs):g.1.den ρ= .bool g.2:=by simp only[PZ,List.any_eq_true,Ab,AM]at h;obtain⟨x,hx,h1,h2⟩:=h;rw[<-E.az ρ _ _ h1,<-h2];exact k x hx
theorem Z7{ρ:List AV}{hs gs:Gd}(h:Mq hs gs=true)(k:Bu ρ gs):Bu ρ hs:=by simp only[Mq,Bl]at h;exact λg hg=>zx6 (h g hg) k
theorem E1(ρ:List AV):Bu ρ []:=by simp[Bu]
def EH(c:Cx)(hp:Nat->Option Af):Prop:= ∀t e,CH c.ρ (hp t) e->Dv c t e
theorem CJ{ρ:List AV}{hp:Nat->Option Af}{gs:Gd}{t:Nat}{e:Af}(h:Di hp gs t=some e)(k:Bu ρ gs):CH ρ (hp t) e:=by
 unfold Di at h;cases ho:hp t with
 |none=>rw[ho]at h;simp at h
 |some o=>
  rw[ho]at h;simp only[Aa]at h;cases o with
  |gd hs e'=>
   simp only[K5]at h;split at h
   ·rename_i BZ;simp at h;subst h;exact⟨Z7 BZ k,rfl⟩
   ·cases h
  |box=>simp[K5]at h;subst h;rfl
  |row=>simp[K5]at h;subst h;rfl
  |bu=>simp[K5]at h;subst h;rfl
  |dead=>simp[K5]at h;subst h;rfl
  |deep=>simp[K5]at h;subst h;rfl
  |hol=>simp[K5]at h;subst h;rfl
  |pre=>simp[K5]at h;subst h;rfl
theorem SR.ungd{c:Cx}{s s':SV}{v:Value}{gs:Gd}(h:SR c [s] [v])(hu:ungd gs s=some s')(k:Bu c.ρ gs):SR c [s'] [v]:=by
 cases s<;>simp only[Go.Proofs.YtalagilebkaegaaGreat.ungd]at hu<;>first
  |(cases hu;done)
  |(split at hu
    ·rename_i BZ;simp at hu;subst hu;cases h with
     |gd h1 _ _=>exact h1 (Z7 BZ k)
    ·cases hu)
  |(simp at hu;subst hu;exact h)
theorem BP.ax(l:List SV):(BP.of l).toList=l:=by induction l<;>simp[BP.of,BP.toList, *]
theorem EL.dd(ρ:List AV)(l:List E):(EL.of l).den ρ=l.map (E.den ρ):=by induction l<;>simp[EL.of,EL.den, *]
theorem Sc{c:Cx}:∀(vs:List Value) (l:List SV),Fc.go vs=some l->SR c l vs
 | [],l,h=>by simp[Fc.go]at h;subst h;exact .nil
 |v::vs,l,h=>by
  unfold Fc.go at h;split at h
  ·rename_i h0;cases h0
  ·rename_i k n vs' h0;cases h0;split at h
   ·rename_i hk;obtain⟨l',hl,rfl⟩:=As.1 h;exact .e (.int hk .nil) (by simp) (Sc _ _ hl)
   ·cases h
  ·rename_i h0;cases h0;obtain⟨l',hl,rfl⟩:=As.1 h;exact .e (.bool .nil) (by simp) (Sc _ _ hl)
  ·rename_i h0;cases h0;split at h
   ·rename_i hk;obtain⟨l',hl,rfl⟩:=As.1 h;exact .e (.str hk .nil) (by simp) (Sc _ _ hl)
   ·cases h
  ·rename_i h0;cases h0;obtain⟨l',hl,rfl⟩:=As.1 h;exact .cd (Sc _ _ hl)
  ·rename_i h0;cases h0;obtain⟨l',hl,rfl⟩:=As.1 h;exact .e (.dk .nil) (by simp) (Sc _ _ hl)
  ·cases h
theorem mH:∀(vs:List Value) (l:List SV),Fc.go vs=some l-> ∀u∈vs,u.oneCell'=true
 | [],l,h,u,hu=>by simp at hu
 |v::vs,l,h,u,hu=>by
  unfold Fc.go at h;split at h
  ·rename_i h0;cases h0
  all_goals (try (cases h;done))
  all_goals
   rename_i h0;cases h0
   (try split at h)
   all_goals (try (cases h;done))
   all_goals
    obtain⟨l',hl,rfl⟩:=As.1 h;rcases Ae.1 hu with rfl|hu
    ·rfl
    ·exact mH _ _ hl u hu
theorem ZH{c:Cx}{v:Value}{s:SV}(h:Fc v=some s):SR c [s] [v]:=by
 unfold Fc at h;split at h
 ·split at h
  ·rename_i hk;simp at h;subst h;exact .e (.int hk .nil) (by simp) .nil
  ·cases h
 ·simp at h;subst h;exact .e (.bool .nil) (by simp) .nil
 ·split at h
  ·rename_i hk;simp at h;subst h;exact .e (.str hk .nil) (by simp) .nil
  ·cases h
 ·simp at h;subst h;exact .cd .nil
 ·simp at h;subst h;exact .e (.dk .nil) (by simp) .nil
 ·rename_i cs;simp only[Option.bind_eq_bind,Av]at h;obtain⟨l,hl,h⟩:=h;simp at h;subst h;have:=SR.agg (cs:=BP.of l) (as_:=cs.toList) (mH _ _ hl) (by rw[BP.ax];exact Sc (c:=c) _ _ hl) .nil;simpa using this
 ·cases h
theorem Zp{c:Cx}{sl:Nat->SV}{gs:Gd}{x:Operand}{s:SV}{a:Act}(h:BL sl gs x=some s)(hs:∀t,x= .tmp t->SR c [sl t] [a.tmps.getD t undef])(k:Bu c.ρ gs):SR c [s] [a.eval x]:=by
 cases x with
 |tmp t=>exact(hs t rfl).ungd h k
 |const v=>exact ZH h
 |func f=>simp[BL]at h;subst h;exact SR.fn (as_:=[]) .nil .nil
 |global g=>simp[BL]at h
theorem C3.rd{w:World}{ety sz:Nat}{v:Value}{x:AV}{top N:List Nat}(h:C3 w ety sz v x top N):∃f,Rd w [v] [x] f/\(∀b∈f,b∈top\/b∈N)/\ ∀b∈f.tail,b∈N:=by
 obtain⟨xs,rfl,h2,h3,⟨rfl,⟨a,rfl⟩,rfl,rfl⟩|⟨g,cap,C,rfl,h6,h7,h8,h9,rfl,K8,EE⟩⟩:=h
 ·exact⟨_, .dv .nil,by simp⟩
 ·rcases Nat.eq_zero_or_pos xs.length with h0|h0
  ·have:xs=[]:=List.eq_nil_of_length_eq_zero h0;subst this;exact⟨_, .dv .nil,by simp⟩
  ·have:=Rd.scons (o:=0) (c:=cap) (cs:=C.toList.take (xs.length*sz)) h8 h0 ⟨by have:maxLen=9223372036854775807:=rfl;omega,by omega⟩ rfl h2 h3 (λj u hu=>by
    rw[Nat.zero_add];rw[List.getElem?_take]at hu;split at hu
    ·simpa using hu
    ·cases hu) K8 EE .nil
   exact⟨_,this,by simp⟩
def Cx.dy(c:Cx)(ts:List Nat)(b:Nat):Prop:=c.ok b\/ ∃t∈ts,b∈(c.G t).top
theorem Cx.dy.mono{c:Cx}{ts us:List Nat}{b:Nat}(h:c.dy ts b)(hs:∀t∈ts,t∈us):c.dy us b:=h.imp id λ⟨t,h1,h2⟩=>⟨t,hs t h1,h2⟩
theorem zwx{c:Cx}{hp:Nat->Option Af}{gs:Gd}(eh:EH c hp)(k:Bu c.ρ gs){t g:Nat}{x:E}(h:IK hp gs t g=some x):
  ∃f,Rd c.w [c.H t g] [x.den c.ρ] f/\ ∀b∈f,c.dy [t] b:=by
 unfold IK at h;split at h
 ·rename_i e z g' y d hl;split at h
  ·rename_i hg;subst hg;simp at h;subst h;obtain⟨h1,h0,N,h2,h3,h4,h5⟩:=eh t _ (CJ hl k);obtain⟨f,hr,hf,_⟩:=h2.rd;exact⟨f,hr,λb hb=>(hf b hb).elim (λh=> .inr ⟨t,by simp,h⟩) λh=> .inl (h3 b h)⟩
  ·cases h
 ·rename_i g' y hl;split at h
  ·rename_i hg;subst hg;simp at h;subst h;obtain⟨h1,⟨f,h2,h3⟩,h4,h5⟩:=eh t _ (CJ hl k);exact⟨f,h2,λb hb=> .inl (h3 b hb)⟩
  ·cases h
 ·rename_i e z l g' ep y hl;split at h
  ·rename_i hg;subst hg;simp at h;subst h;obtain⟨h1,h0,h2,h3,h4⟩:=eh t _ (CJ hl k);obtain⟨f,k1,k2⟩:=h3.rd;exact⟨f,k1,λb hb=> .inr ⟨t,by simp,k2 b hb⟩⟩
  ·cases h
 ·cases h
theorem SE{c:Cx}{hp:Nat->Option Af}{gs:Gd}(eh:EH c hp)(k:Bu c.ρ gs){t n:Nat}(h:NR hp gs t n=true):c.E t=n:=by
 unfold NR at h;split at h
 ·rename_i hl;obtain⟨_,_,h2,_⟩:=eh t _ (CJ hl k);rw[h2];exact(by simpa using h:n=_).symm
 ·cases h
theorem x7(hp:Nat->Option Af)(gs:Gd)(n:Nat)(s:SV)(l:List SV):∀t,t∈Ca hp gs (n+1) (s::l)↔t∈Ca hp gs (n+1) [s]\/t∈Ca hp gs n l:=by
 intro t;have h0:∀m,Ca hp gs m []=[]:=λm=>by cases m<;>simp[Ca]
 simp only[Ca,Ac,h0,List.not_mem_nil,or_false]
theorem Z3(hp:Nat->Option Af)(gs:Gd):∀n,Ca hp gs n []=[]:=λm=>by cases m<;>simp[Ca]
theorem zBJ(hp:Nat->Option Af)(gs:Gd)(n:Nat)(cs:BP):Ca hp gs (n+1) [.agg cs]=Ca hp gs n cs.toList:=by simp only[Ca,Z3,AE]
theorem zA1(hp:Nat->Option Af)(gs:Gd)(n:Nat)(cs:BP):Ca hp gs (n+1) [.tup cs]=Ca hp gs n cs.toList:=by simp only[Ca,Z3,AE]
theorem zCk(hp:Nat->Option Af)(gs:Gd)(n f:Nat)(cs:BP):Ca hp gs (n+1) [.fn f cs]=Ca hp gs n cs.toList:=by simp only[Ca,Z3,AE]
theorem zCD(hp:Nat->Option Af)(gs hs:Gd)(n:Nat)(s:SV):Ca hp gs (n+1) [.gd hs s]=Ca hp gs n [s]:=by simp only[Ca,Z3,AE]
mutual
theorem H8{c:Cx}{hp:Nat->Option Af}{gs:Gd}(eh:EH c hp)(k:Bu c.ρ gs):∀(n:Nat) {s:SV} {x:E} {v:Value},BB hp gs n s=some x->SR c [s] [v]-> ∀m,n<=m->
  ∃f,Rd c.w [v] [x.den c.ρ] f/\ ∀b∈f,c.dy (Ca hp gs (m+1) [s]) b
 |0,s,x,v,h,_,m,_=>by simp[BB]at h
 |n+1,s,x,v,h,hr,m,hm=>by
  obtain⟨m,rfl⟩:∃m',m=m'+1:=⟨m-1,by omega⟩
  have CX:n<=m:=by omega
  have h0:∀m,Ca hp gs m []=[]:=λm=>by cases m<;>simp[Ca]
  unfold BB at h;split at h
  ·cases h
  ·simp at h;subst h;cases hr with
   |e h1 h2 _=>exact⟨_,h1,λb hb=> .inl (h2 b hb)⟩
  ·simp at h;subst h;cases hr with
   |cd _=>exact⟨_, .dv .nil,by simp⟩
  ·simp at h;subst h;cases hr with
   |emp _=>exact⟨_, .dv .nil,by simp⟩
  ·cases hr with
   |own _ h8 _=>obtain⟨f,h1,h2⟩:=zwx eh k h;rw[h8]at h1;exact⟨f,h1,λb hb=>(h2 b hb).mono (by simp[Ca])⟩
  ·rename_i t;split at h
   ·rename_i ty g0 cs hl;obtain⟨l,BH,rfl⟩:=As.1 h;cases hr with
    |cj h1 h2 _=>
     obtain⟨b,C,_,e2,e3,e4,e5,e5',e6⟩:=eh t _ (CJ hl k);rw[h2]at e2;cases e2;obtain⟨f,g1,g2⟩:=Sx eh k n BH e6 (m+1) (by omega);refine⟨_, .ref e5 e5' (by simpa[E.den,AV.cells]using g1) .nil,λq hq=> ?_⟩;simp only[AE,Ae]at hq;rcases hq with rfl|hq
     ·exact .inr ⟨t,by simp[Ca],by simp[e3]⟩
     ·exact(g2 q hq).mono λu hu=>by simp only[Ca,hl,h0,AE,Ae];exact .inr hu
   ·cases h
  ·cases h
  ·cases h
  ·cases h
  ·rename_i y;simp at h;subst h;cases hr with
   |db h1 h2 _=>exact⟨_,h1,λb hb=> .inl (h2 b hb)⟩
  ·cases h
  ·rename_i cs;obtain⟨l,BH,rfl⟩:=As.1 h;cases hr with
   |agg h9 h1 _=>obtain⟨f,g1,g2⟩:=Sx eh k n BH h1 (m+1) (by omega);exact⟨_, .agg h9 g1 .nil,λq hq=>by rw[zBJ];exact g2 q (by simpa using hq)⟩
  ·rename_i cs;obtain⟨l,BH,rfl⟩:=As.1 h;cases hr with
   |tup h1 _=>obtain⟨f,g1,g2⟩:=Sx eh k n BH h1 (m+1) (by omega);exact⟨_, .tup g1 .nil,λq hq=>by rw[zA1];exact g2 q (by simpa using hq)⟩
  ·rename_i g cs;obtain⟨l,BH,rfl⟩:=As.1 h;cases hr with
   |fn h1 _=>obtain⟨f,g1,g2⟩:=Sx eh k n BH h1 (m+1) (by omega);exact⟨_, .fn g1 .nil,λq hq=>by rw[zCk];exact g2 q (by simpa using hq)⟩
  ·rename_i hs s;split at h
   ·rename_i BZ;cases hr with
    |gd h1 _ _=>obtain⟨f,g1,g2⟩:=H8 eh k n h (h1 (Z7 BZ k)) m CX;exact⟨f,g1,λq hq=>by rw[zCD];exact g2 q hq⟩
   ·cases h
  ·rename_i t g n' p y;split at h
   ·rename_i hv;simp at h;subst h;cases hr with
    |via h1 h2 h3 _=>obtain⟨⟨f,q1,q2⟩,_⟩:=h3 (SE eh k hv);exact⟨f,q1,λb hb=>(q2 b hb).imp id λhh=>⟨t,by simp[Ca],hh⟩⟩
   ·cases h
  ·cases h
  ·rename_i t g lo z;split at h
   ·rename_i e z' g' y d hl;split at h
    ·rename_i hh;obtain⟨rfl,rfl⟩:=hh;simp at h;subst h;cases hr with
     | @wown _ _ _ _ _ nn _ _ _ _ kv _ _ h1 h2 h3 h4 h5 h6 _=>
      obtain⟨p1,p0,N,p2,p3,_⟩:=eh t _ (CJ hl k);rw[h2]at p2;obtain⟨xs,f,q1,q2,q3,q4⟩:=p2.win (k:=kv.toNat) (by omega) (λAH=>h6 (by omega))
      refine⟨f,?_,λb hb=>(q4 b hb).elim (λhh=> .inr ⟨t,by simp[Ca],hh⟩) λhh=> .inl (p3 b hh)⟩;have e1:(E.win y lo (.len y)).den c.ρ= .sl (xs.drop kv.toNat):=by simp only[E.den,q1,AV.len,h3,AV.win];rw[List.take_of_length_le (by simp)]
      rw[e1];exact q3
    ·cases h
   ·cases h
  ·cases h
theorem Sx{c:Cx}{hp:Nat->Option Af}{gs:Gd}(eh:EH c hp)(k:Bu c.ρ gs):∀(n:Nat) {ss:List SV} {xs:EL} {vs:List Value},CF hp gs n ss=some xs->SR c ss vs-> ∀m,n<=m->
  ∃f,Rd c.w vs (xs.den c.ρ) f/\ ∀b∈f,c.dy (Ca hp gs m ss) b
 |0,ss,xs,vs,h,_,m,_=>by simp[CF]at h
 |n+1,[],xs,vs,h,hr,m,_=>by simp[CF]at h;subst h;cases hr;exact⟨[], .nil,by simp⟩
 |n+1,s::ss,xs,[],h,hr,m,_=>by have:=hr.len;simp at this
 |n+1,s::ss,xs,v::vs,h,hr,m,hm=>by
  obtain⟨m,rfl⟩:∃m',m=m'+1:=⟨m-1,by omega⟩
  obtain⟨r1,r2⟩:=hr.cf;unfold CF at h;split at h
  ·rename_i x ys h1 h2;simp at h;subst h;obtain⟨f,a1,a2⟩:=H8 eh k n h1 r1 m (by omega);obtain⟨g,b1,b2⟩:=Sx eh k n h2 r2 m (by omega);refine⟨f++g,a1.app b1,λq hq=> ?_⟩;rcases Ac.1 hq with hq|hq
   ·exact(a2 q hq).mono λt ht=>(x7 hp gs m s ss t).2 (.inl ht)
   ·exact(b2 q hq).mono λt ht=>(x7 hp gs m s ss t).2 (.inr ht)
  ·cases h
end
def CQ(n:Nat)(sl:Nat->SV)(d:Option Nat)(s:SV)(i:Nat):SV:=if d=some i/\i<n then s else sl i
def Bk(hp:Nat->Option Af)(l:List (Nat × Af)):Nat->Option Af:=l.foldl (λh (t,e)=>λu=>if u=t then some e else h u) hp
theorem Rel.put{c:Cx}{n:Nat}{sl:Nat->SV}{hp:Nat->Option Af}{a:Act}(h:Rel c n sl hp a){s:SV}{v:Value}(hv:SR c [s] [v])(d:Option Nat):Rel c n (CQ n sl d s) hp (a.put d v):=by
 cases d with
 |none=>
  have e:CQ n sl none s=sl:=by funext i;simp[CQ]
  rw[e];exact h
 |some d=>
  refine⟨h.defers,by simpa[Act.put]using h.size,h.base,λi=> ?_,h.ents,h.off,h.gw,h.bq,h.ct⟩;simp only[CQ,Ad,Act.put];by_cases hi:d=i/\i<n
  ·rw[if_pos hi];obtain⟨rfl,hi⟩:=hi;have:(a.tmps.setIfInBounds d v).getD d undef=v:=by
    rw[Array.getD_eq_getD_getElem?,Array.getElem?_setIfInBounds];simp[h.size,hi]
   rw[this];exact hv
  ·rw[if_neg hi];have:(a.tmps.setIfInBounds d v).getD i undef=a.tmps.getD i undef:=by
    rw[Array.getD_eq_getD_getElem?,Array.getD_eq_getD_getElem?,Array.getElem?_setIfInBounds];by_cases hd:d=i
    ·subst hd;have: ¬d<a.tmps.size:=λh'=>hi ⟨rfl,by rw[<-h.size];exact h'⟩;simp[this,Array.getElem?_eq_none (Nat.le_of_not_lt this)]
    ·simp[hd]
   rw[this];exact h.cz i
theorem Rel.change{c c':Cx}{n:Nat}{sl:Nat->SV}{hp hp':Nat->Option Af}{a:Act}(h:Rel c n sl hp a)(T:Nat->Prop)(k:DY c c')(hb:Qt c')
  (h1:∀t,¬T t->hp' t=hp t/\c'.G t=c.G t/\c'.E t=c.E t/\ ∀g,c'.K t g->c.K t g) (h2:∀t,¬T t-> ∀b∈(c.G t).top,c'.w.heap[b]?=c.w.heap[b]?)
  (h3:∀t,T t->(∀e,CH c.ρ (hp' t) e->Dv c' t e)/\((∀e,¬CH c.ρ (hp' t) e)->(c'.G t).top=[]/\(c'.G t).O=[]))
  (h4:GW c') (h5:∀t g,c'.K t g->c'.U t) (h6:∀t e,hp' t=some e->c'.U t):Rel c' n sl hp' a:=by
 refine⟨h.defers,h.size,hb,λi=>(h.cz i).keep k,λt e hr=> ?_,λt hn=> ?_,h4,h5,h6⟩
 ·rw[k.ρ]at hr;by_cases ht:T t
  ·exact(h3 t ht).1 e hr
  ·obtain⟨e1,e2,e0,e3⟩:=h1 t ht;rw[e1]at hr;exact(h.ents t e hr).keep k e2 e0 e3 (h2 t ht)
 ·rw[k.ρ]at hn;by_cases ht:T t
  ·exact(h3 t ht).2 hn
  ·obtain⟨e1,e2,_,e3⟩:=h1 t ht;rw[e1]at hn;rw[e2];exact h.off t hn
theorem Sn{ρ:List AV}{gs:Gd}{e e':Af}(k:Bu ρ gs)(hn:∀hs f,e≠ .gd hs f):CH ρ (some (CS gs e)) e'↔e'=e:=by
 cases gs with
 |nil=>cases e<;>first|(simp[CS,CH,eq_comm];done)|exact absurd rfl (hn _ _)
 |cons g gs=>simp[CS,CH,k,eq_comm]
theorem SR.mkGd{c:Cx}{s:SV}{v:Value}(h:SR c [s] [v])(gs:Gd)(k:Bu c.ρ gs:=by exact λ_ hh=>absurd hh List.not_mem_nil):SR c [mkGd gs s] [v]:=by
 cases gs with
 |nil=>exact h
 |cons g gs=>exact .gd (λ_=>h) (λhn=>absurd k hn) .nil
def Cx.new(c:Cx)(t:Nat)(o:Obj)(hv:Value)(O:List Nat):Cx:=
 {c with w:=c.w.alloc o,G:=λu=>if u=t then⟨[c.w.heap.size],O⟩else c.G u,K:=λu g=>c.K u g\/(u=t/\g=0),H:=λu g=>if u=t then hv else c.H u g,U:=λu=>c.U u\/u=t,E:=λu=>if u=t then 0 else c.E u}
theorem Cx.lz{c:Cx}{t:Nat}{o:Obj}{hv:Value}{O:List Nat}{b:Nat}(h:(c.new t o hv O).M b):c.M b\/b=c.w.heap.size:=by
 obtain⟨u,hu⟩:=h;simp only[Cx.new]at hu;split at hu
 ·simp at hu;exact .inr hu
 ·exact .inl ⟨u,hu⟩
theorem Cx.ga{c:Cx}{t:Nat}{o:Obj}{hv:Value}{O:List Nat}(hk:∀g,¬c.K t g):DY c (c.new t o hv O):=by
 refine⟨rfl,rfl,λb hb AZ=>⟨λhm=> ?_,AZ.2⟩,λb hb _=>Below.heap_alloc _ _ _ hb,λu g h=>⟨.inl h,?_⟩,λu g h=> ?_⟩
 ·rcases Cx.lz hm with h|h
  ·exact AZ.1 h
  ·omega
 ·simp only[Cx.new];rw[if_neg];rintro rfl;exact hk g h
 ·have hu:u≠t:=by rintro rfl;exact hk g h
  have e1:(c.new t o hv O).E u=c.E u:=by simp only[Cx.new,if_neg hu]
  have e2:(c.new t o hv O).G u=c.G u:=by simp only[Cx.new,if_neg hu]
  rw[e1];exact⟨AJ _,λ_=>⟨e2,λb _ hb=>Below.heap_alloc _ _ _ hb⟩⟩
theorem Qt.new{c:Cx}(h:Qt c)(t:Nat)(ht: ¬c.U t)(o:Obj)(hv:Value)(O:List Nat):Qt (c.new t o hv O):=
 ⟨h.os,h.tape,h.output,Nat.le_trans h.size (by simp[Cx.new]),λu v hp=>⟨.inl (h.pins u v hp).1,λhk=>by have hu:u≠t:=λhh=>ht (hh▸(h.pins u v hp).1);simp only[Cx.new,if_neg hu];exact(h.pins u v hp).2 (hk.resolve_right λhh=>hu hh.1)⟩,λb hb hm=>(Below.heap_alloc _ _ _ (Nat.lt_of_lt_of_le hb h.size)).trans (h.block b hb hm),h.pk,h.lo⟩
theorem Rel.new{c:Cx}{n:Nat}{sl:Nat->SV}{hp:Nat->Option Af}{a:Act}(h:Rel c n sl hp a){t:Nat}(ht: ¬c.U t)(o:Obj)(hv:Value)(e:Af)(gs:Gd)(k:Bu c.ρ gs)(BF:∀hs f,e≠ .gd hs f)
  (he:Dv (c.new t o hv []) t e):Rel (c.new t o hv []) n sl (Bk hp [(t,CS gs e)]) a:=by
 have hk:∀g,¬c.K t g:=λg hg=>ht (h.bq t g hg);have DU:hp t=none:=by
  cases hh:hp t with
  |none=>rfl
  |some e=>exact absurd (h.ct t e hh) ht
 have Lm:=h.off t (by rw[DU];simp[CH]);have D4:∀u,Bk hp [(t,CS gs e)] u=if u=t then some (CS gs e)else hp u:=λu=>rfl;refine h.change (λu=>u=t) (Cx.ga hk) (h.base.new t ht ..) (λu hu=>⟨by rw[D4,if_neg hu],by simp[Cx.new,hu],by simp[Cx.new,hu],λg hg=>hg.resolve_right (λhh=>hu hh.1)⟩)
  (λu hu b hb=>Below.heap_alloc _ _ _ (h.gw.inb u b (by simp[GI.own,hb]))) (λu hu=> ?_) ?_ (λu g hg=>hg.imp (h.bq u g) (·.1)) (λu e' hh=> ?_)
 ·subst hu;rw[D4,if_pos rfl];exact⟨λe' hr=>by rw[(Sn k BF).1 hr];exact he,λhn=>absurd ((Sn k BF).2 rfl) (hn e)⟩
 ·have hG:∀u,((c.new t o hv []).G u)=if u=t then⟨[c.w.heap.size],[]⟩else c.G u:=λu=>rfl;refine⟨λu=> ?_,λu u' LD b hb=> ?_,λu b hb=> ?_,λu b hb=> ?_⟩
  ·rw[hG];split
   ·simp[GI.own]
   ·exact h.gw.nodup u
  ·rw[hG]at hb ⊢;split at hb
   ·rename_i hu;simp[GI.own]at hb;rw[if_neg (λhh=>LD (hu.trans hh.symm))];intro Cb;have:=h.gw.inb u' b Cb;omega
   ·split
    ·simp only[GI.own,AE,List.mem_singleton];intro hh;have:=h.gw.inb u b hb;omega
    ·exact h.gw.cq u u' LD b hb
  ·rw[hG]at hb;split at hb
   ·simp[GI.own]at hb;exact .inl (by rw[hb];exact h.base.size)
   ·exact h.gw.allow u b hb
  ·rw[hG]at hb;simp only[Cx.new,World.size_alloc];split at hb
   ·simp[GI.own]at hb;omega
   ·have:=h.gw.inb u b hb;omega
 ·rw[D4]at hh;split at hh
  ·rename_i hu;exact .inr hu
  ·exact .inl (h.ct u e' hh)
def AV.scalar:AV->Bool
 | .int .. =>true
 | .bool _=>true
 | .str _=>true
 |_=>false
def Cn.den(ρ:List AV):Cn->Prop
 | .dfd x=>x.den ρ≠ .undef
 | .agg x n=> ∃cs,x.den ρ= .agg cs/\cs.length=n
 | .cells x _=>(∀cs,x.den ρ≠ .agg cs)/\ ∀cs,x.den ρ≠ .tup cs
 | .inb i x sz=> ∃kk k m,i.den ρ= .int kk k/\0<=k/\(x.den ρ).len= .int .i64 m/\k<m/\((x.den ρ).nth k.toNat).cells.length=sz
 | .inbS i x=> ∃kk k s,i.den ρ= .int kk k/\x.den ρ= .str s/\0<=k/\k<s.length
 | .winS x lo hi=> ∃ka a kb b s,lo.den ρ= .int ka a/\hi.den ρ= .int kb b/\x.den ρ= .str s/\0<=a/\a<=b/\b<=s.length
 | .win x lo hi=> ∃ka a kb b m,lo.den ρ= .int ka a/\hi.den ρ= .int kb b/\(x.den ρ).len= .int .i64 m/\0<=a/\a<=b/\b<=m
 | .room x y bytes=> ∃m k,(x.den ρ).len= .int .i64 m/\(y.den ρ).len= .int .i64 k/\(m+k)*bytes<=140737488355328/\m+k<=140737488355328
 | .roomS x y=> ∃a b,x.den ρ= .str a/\y.den ρ= .str b/\a.length+b.length<=9223372036854775807
 | .mkroom n bytes=> ∃kk k,n.den ρ= .int kk k/\0<=k/\k*bytes<=140737488355328/\k<=140737488355328
 | .nz x=> ∃k n,x.den ρ= .int k n/\n≠0
 | .nn x=> ∃k n,x.den ρ= .int k n/\0<=n
 | .isref x n=> ∃y,x.den ρ= .ref y/\n<=y.cells.length
 | .issl x sz=> ∃xs,x.den ρ= .sl xs/\ ∀y∈xs,y.cells.length=sz
 | .flat x n g=>(x.den ρ).cells.length=n/\(∀y∈(x.den ρ).cells,y.scalar=true)/\(g=true-> ∃cs,x.den ρ= .agg cs)/\(g=false->(x.den ρ).scalar=true)
 | .flatS x sz=> ∃xs,x.den ρ= .sl xs/\ ∀y∈xs,y.cells.length=sz/\ ∀z∈y.cells,z.scalar=true
 | .kinds x ks=> ∃cs,x.den ρ= .agg cs/\cs.map AV.sk=ks.map some
theorem Ci{ρ:List AV}{q:Cn}{l:List Cn}(h:∀r∈q::l,r.den ρ):q.den ρ:=h q (by simp)
theorem Hw{w:World}{vs:List Value}{xs:List AV}{f:List Nat}(h:Rd w vs xs f)(hx:∀x∈xs,x.scalar=true):f=[]:=by
 induction h with
 |nil=>rfl
 |int _ _ ih=>exact ih λx hm=>hx x (by simp[hm])
 |bool _ ih=>exact ih λx hm=>hx x (by simp[hm])
 |str _ _ ih=>exact ih λx hm=>hx x (by simp[hm])
 |dv _ _=>have:=hx _ List.mem_cons_self;simp[AV.scalar]at this
 |scons _ _ _ _ _ _ _ _ _ _ _ _=>have:=hx _ List.mem_cons_self;simp[AV.scalar]at this
 |agg _ _ _ _ _=>have:=hx _ List.mem_cons_self;simp[AV.scalar]at this
 |tup _ _ _ _=>have:=hx _ List.mem_cons_self;simp[AV.scalar]at this
 |ref _ _ _ _ _ _=>have:=hx _ List.mem_cons_self;simp[AV.scalar]at this
 |fn _ _ _ _=>have:=hx _ List.mem_cons_self;simp[AV.scalar]at this
 |dk _ _=>have:=hx _ List.mem_cons_self;simp[AV.scalar]at this
structure BA(P:Program)(c:Cx)(n nx:Nat)(sl:Nat->SV)(hp:Nat->Option Af)(a:Act)(sl0:Nat->SV)(hp0:Nat->Option Af)(o:Oper)(gs:Gd):Prop where
 rel:Rel c n sl hp a
 gs:Bu c.ρ gs
 sl:∀t,Operand.tmp t∈o.op.operands->sl0 t=sl t
 hp:∀t e,hp0 t=some e->hp t=some e
 new:∀t,nx<=t->t<nx+999-> ¬c.U t
structure M3(c c':Cx)(nx:Nat):Prop where
 ρ:c'.ρ=c.ρ
 A:c'.A=c.A
 w0:c'.w0=c.w0
 Mu:c'.Mu=c.Mu
 U:∀t,c'.U t->c.U t\/(nx<=t/\t<nx+BV)
theorem M3.refl(c:Cx)(nx:Nat):M3 c c nx:=⟨rfl,rfl,rfl,rfl,λ_ h=> .inl h⟩
def AB(P:Program)(o:Oper)(c:Cx)(n nx:Nat)(sl:Nat->SV)(hp:Nat->Option Af)(gs:Gd)(a:Act)(e:Bb):Prop:=
 ∀(next:Act->World->Prop) (Q:Exit->Act->World->Prop),(∀a' c',M3 c c' nx->Rel c' n (CQ n sl o.dst (mkGd gs e.val)) (Bk hp e.bk) a'->next a' c'.w)->o.wp P a c.w next Q
section
variable {P:Program} {c:Cx} {n nx:Nat} {sl sl0:Nat->SV} {hp hp0:Nat->Option Af} {a:Act} {o:Oper} {gs:Gd}
theorem BA.eh(h:BA P c n nx sl hp a sl0 hp0 o gs):EH c hp0:=λt e hr=>h.rel.ents t e (by
 cases ho:hp0 t with
 |none=>rw[ho]at hr;exact hr.elim
 |some e'=>rw[h.hp t e' ho];rwa[ho]at hr)
theorem BA.cu(h:BA P c n nx sl hp a sl0 hp0 o gs){x:Operand}{s:SV}(hx:BL sl0 gs x=some s)(hm:x∈o.op.operands):SR c [s] [a.eval x]:=
 Zp hx (λt ht=>by subst ht;rw[h.sl t hm];exact h.rel.cz t) h.gs
theorem AB.pure(h:BA P c n nx sl hp a sl0 hp0 o gs){e:Bb}{v:Value}(hr:(execOp a.eval o).run P c.w= .ok (.value v) c.w)(hv:SR c [e.val] [v])(he:e.bk=[]):AB P o c n nx sl hp gs a e:=by
 intro next Q hk
 unfold Oper.wp;rw[hr,Oper.upon_value];exact hk _ c (M3.refl _ _) (by rw[he];exact h.rel.put (hv.mkGd gs h.gs) o.dst)
theorem AB.skip(h:BA P c n nx sl hp a sl0 hp0 o gs){e:Bb}(hr:(execOp a.eval o).run P c.w= .ok .skip c.w)(hv:e.val= .undef)(he:e.bk=[]):AB P o c n nx sl hp gs a e:=by
 intro next Q hk
 unfold Oper.wp;rw[hr,Oper.upon_skip];exact hk _ c (M3.refl _ _) (by rw[he,hv];exact h.rel.put ((SR.undef .nil).mkGd gs h.gs) o.dst)
theorem Kt{v:Value}{x:AV}{cs:List AV}{w:World}{f:List Nat}(h:Rd w [v] [x] f)(hx:x= .agg cs):∃as_,v= .agg as_.toArray/\(∀u∈as_,u.oneCell'=true)/\Rd w as_ cs f:=by
 subst hx;rcases h.kind with h|h|h|h|h|h|h|h|h|h
 ·obtain⟨_,_,_,h,_⟩:=h;cases h
 ·obtain⟨_,_,h,_⟩:=h;cases h
 ·obtain⟨_,_,h,_⟩:=h;cases h
 ·obtain⟨_,_,_,h,_⟩:=h;cases h
 ·obtain⟨_,_,_,_,_,_,_,_,_,_,_,_,h,_⟩:=h;cases h
 ·obtain⟨as_,cs',h1,h2,h3⟩:=h;cases h2;exact⟨as_,h1,h3⟩
 ·obtain⟨_,_,_,h,_⟩:=h;cases h
 ·obtain⟨_,_,_,_,_,_,_,h,_⟩:=h;cases h
 ·obtain⟨_,_,_,_,h,_⟩:=h;cases h
 ·obtain⟨_,h,_⟩:=h;cases h
theorem F2{v:Value}{x:AV}{k:IntKind}{m:Int}{w:World}{f:List Nat}(h:Rd w [v] [x] f)(hx:x= .int k m):v= .int k m/\E4 k m:=by subst hx;cases h;exact⟨rfl,by assumption⟩
theorem IM{v:Value}{x:AV}{b:Bool}{w:World}{f:List Nat}(h:Rd w [v] [x] f)(hx:x= .bool b):v= .bool b:=by subst hx;cases h;rfl
theorem S4{v:Value}{x:AV}{l:List UInt8}{w:World}{f:List Nat}(h:Rd w [v] [x] f)(hx:x= .str l):∃s:ByteArray,v= .string s/\l=s.data.toList/\s.size<=9223372036854775807:=by generalize hy:AV.str l=y at hx;subst hx;cases h<;>cases hy;exact⟨_,rfl,rfl,by assumption⟩
theorem tS{v:Value}{x:AV}{y:AV}{w:World}{f:List Nat}(h:Rd w [v] [x] f)(hx:x= .ref y):∃b,v= .pointer (some ⟨b,0,none⟩):=by subst hx;cases h;exact⟨_,rfl⟩
theorem zF6{v:Value}{x:AV}{cs:List AV}{w:World}{f:List Nat}(h:Rd w [v] [x] f)(hx:x= .tup cs):∃as_,v= .tuple as_.toArray/\Rd w as_ cs f:=by
 subst hx;cases h with
 |tup h1 h2=>cases h2;exact⟨_,rfl,by simpa using h1⟩
theorem zO(h:BA P c n nx sl hp a sl0 hp0 o gs){x:Operand}(ho:o.op= .move x\/o.op= .assign x){s:SV}(hx:BL sl0 gs x=some s):AB P o c n nx sl hp gs a {val:=s}:=by refine AB.pure h (v:=a.eval x) ?_ (h.cu hx (by rcases ho with ho|ho<;>simp[ho,Op.operands])) rfl;rcases ho with ho|ho<;>simp[execOp,ho]
theorem zub(h:BA P c n nx sl hp a sl0 hp0 o gs){x:Operand}(ho:o.op= .nilCheck x){e:Bb}{sg:B1}{nv:Nat}(he:BW P sg sl0 hp0 nv nx gs o=some e)(hc:∀q∈e.cc,Cn.den c.ρ q):AB P o c n nx sl hp gs a e:=by
 have hm:x∈o.op.operands:=by simp[ho,Op.operands]
 simp only[BW,ho,Av]at he;obtain⟨s,hs,he⟩:=he;have hr:=h.cu hs hm;have key:∀(v:Value),a.eval x=v->(∃b:Addr,v= .pointer (some b))->(execOp a.eval o).run P c.w= .ok (.value v) c.w:=by rintro v hv ⟨b,rfl⟩;simp only[execOp,ho,hv];rfl
 split at he
 ·simp at he;subst he;obtain⟨y,hy,_⟩:=Ci hc;generalize ha:a.eval x=v at hr;cases hr with
  |e h1 h2 _=>obtain⟨b,rfl⟩:=tS h1 hy;exact AB.pure h (key _ ha ⟨_,rfl⟩) (.db h1 h2 .nil) rfl
 ·simp at he;subst he;generalize ha:a.eval x=v at hr;cases hr with
  |cj h1 h2 _=>exact AB.pure h (key _ ha ⟨_,rfl⟩) (.cj h1 h2 .nil) rfl
 ·simp at he;subst he;generalize ha:a.eval x=v at hr;cases hr with
  |cr h1 h2 h3 h4 h5 _=>exact AB.pure h (key _ ha ⟨_,rfl⟩) (.cr h1 h2 h3 h4 h5 .nil) rfl
 ·simp at he;subst he;generalize ha:a.eval x=v at hr;cases hr with
  |de h1 h2 h3 h4 h5 h6 _=>exact AB.pure h (key _ ha ⟨_,rfl⟩) (.de h1 h2 h3 h4 h5 h6 .nil) rfl
 ·simp at he;subst he;generalize ha:a.eval x=v at hr;cases hr with
  |db h1 h2 _=>exact AB.pure h (key _ ha ⟨_,rfl⟩) (.db h1 h2 .nil) rfl
 ·rename_i b g m q y i sz p;split at he
  ·rename_i hv;simp at he;subst he;have hE:=SE h.eh h.gs hv;generalize ha:a.eval x=v at hr;cases hr with
   |vptr h1 h2 h3 _=>obtain⟨_,_,_,_,_,_,_,_,_,_,_,_,rfl⟩:=h3 hE;exact AB.pure h (key _ ha ⟨_,rfl⟩) (.vptr h1 h2 h3 .nil) rfl
  ·cases he
 ·cases he
theorem yL{t:TypeId}(h:P.cellsOf t≠0)(w:World):(sizeOf t).run P w= .ok (P.cellsOf t) w:=by
 unfold Program.cellsOf at h ⊢;cases hi:P.info? t with
 |none=>simp[hi]at h
 |some i=>simp[sizeOf,typeInfo,hi]
theorem Pq{t:TypeId}(h:Du P t=true)(w:World):(sizeOf t).run P w= .ok (P.cellsOf t) w:=by
 unfold Du at h;unfold Program.cellsOf;cases hi:P.info? t with
 |none=>simp[hi]at h
 |some i=>simp[sizeOf,typeInfo,hi]
theorem VW{t:TypeId}(h:Du P t=true)(w:World):(isAgg t).run P w= .ok (Ao P t) w:=by
 unfold Du at h;cases hu:P.underlying t with
 |none=>simp[hu]at h
 |some d=>simp only[isAgg,Ao,hu];cases d<;>simp[run_underlying hu]
theorem zG{w:World}{p:Addr}{v:Value}(h:w.cell? p=some v):(load p).run P w= .ok v w:=by simp only[load,Sem.run,h]
theorem vM{w:World}{b:Nat}:∀(vs:List Value) (off i:Nat) (acc:Array Value),(∀j u,vs[j]?=some u->w.cell? ⟨b,off+i+j,none⟩=some u)->
  (loadCellsFrom ⟨b,off,none⟩ i vs.length acc).run P w= .ok (acc++vs.toArray) w
 | [],off,i,acc,h=>by simp[loadCellsFrom]
 |v::vs,off,i,acc,h=>by
  have h0:=h 0 v rfl;have ih:=vM (w:=w) (b:=b) vs off (i+1) (acc.push v) (λj u hu=>by have:=h (j+1) u (by simpa using hu);rw[show off+(i+1)+j=off+i+(j+1)from by omega];exact this)
  simp only[Nat.add_zero]at h0;simp only[A3,loadCellsFrom,Addr.add_lit];simp[zG h0,ih]
theorem Sa{w:World}{t:TypeId}{b off:Nat}(h:Du P t=true)(vs:List Value)(hl:Ao P t=true->vs.length=P.cellsOf t)(BH:Ao P t=false->vs.length=1)
  (hc:∀j u,vs[j]?=some u->w.cell? ⟨b,off+j,none⟩=some u):(Instr.loadAt t (.pointer (some ⟨b,off,none⟩))).run P w= .ok (if Ao P t then .agg vs.toArray else vs.headD undef) w:=by
 simp only[Instr.loadAt,Instr.sureAddr,loadVar];cases ha:Ao P t with
 |true=>have:=vM (P:=P) (w:=w) (b:=b) vs off 0 #[] (by simpa using hc);rw[hl ha]at this;simp[VW h,ha,Pq h,loadCells,this]
 |false=>obtain⟨v,rfl⟩:=List.length_eq_one_iff.1 (BH ha);have:=hc 0 v rfl;simp only[Nat.add_zero]at this;simp[VW h,ha,zG this,this]
theorem SR.ptrOff{s s':SV}{v:Value}{k:Nat}(h:SR c [s] [v])(hv:∀t g m q y i sz p,s= .vptr t g m q y i sz p->c.E t=m)(hp:Go.Proofs.YtalagilebkaegaaGreat.ptrOff s k=some s'):∃b off,v= .pointer (some ⟨b,off,none⟩)/\SR c [s'] [.pointer (some ⟨b,off+k,none⟩)]:=by
 cases h with
 |cj h1 h2 _=>simp[Go.Proofs.YtalagilebkaegaaGreat.ptrOff]at hp;subst hp;exact⟨_,_,rfl, .cj h1 h2 .nil⟩
 |cr h1 h2 h3 h4 h5 _=>simp[Go.Proofs.YtalagilebkaegaaGreat.ptrOff]at hp;subst hp;have:=SR.cr (c:=c) (sz:=‹_›) (o:=‹_›) h1 h2 h3 h4 h5 .nil;refine⟨_,_,rfl,?_⟩;rw[Nat.add_assoc];exact .cr h1 h2 h3 h4 h5 .nil
 |de h1 h2 h3 h4 h5 h6 _=>simp[Go.Proofs.YtalagilebkaegaaGreat.ptrOff]at hp;subst hp;exact⟨_,_,rfl,by rw[Nat.add_assoc];exact .de h1 h2 h3 h4 h5 h6 .nil⟩
 |db h1 h2 _=>simp[Go.Proofs.YtalagilebkaegaaGreat.ptrOff]at hp;subst hp;exact⟨_,_,rfl, .db h1 h2 .nil⟩
 |vptr h1 h2 h3 _=>simp[Go.Proofs.YtalagilebkaegaaGreat.ptrOff]at hp;subst hp;obtain⟨b,off,len,cap,kk,kv,q1,q2,q3,q4,q5,q6,rfl⟩:=h3 (hv _ _ _ _ _ _ _ _ rfl);exact⟨_,_,rfl, .vptr h1 h2 (λ_=>⟨b,off,len,cap,kk,kv,q1,q2,q3,q4,q5,q6,by rw[Nat.add_assoc]⟩) .nil⟩
 |_=>simp[Go.Proofs.YtalagilebkaegaaGreat.ptrOff]at hp
theorem SR.asPtr{s:SV}{v:Value}(h:SR c [s] [v])(hc:∀q∈(Go.Proofs.YtalagilebkaegaaGreat.asPtr s).2,q.den c.ρ):SR c [(Go.Proofs.YtalagilebkaegaaGreat.asPtr s).1] [v]:=by
 cases s with
 |e x=>
  cases h with
  |e h1 h2 _=>obtain⟨y,hy,_⟩:=Ci hc;obtain⟨b,rfl⟩:=tS h1 hy;exact .db h1 h2 .nil
 |_=>exact h
theorem zsx(h:BA P c n nx sl hp a sl0 hp0 o gs){t:TypeId}{x:Operand}{f:Nat}(ho:o.op= .fieldAddr t x f){e:Bb}{sg:B1}{nv:Nat}(he:BW P sg sl0 hp0 nv nx gs o=some e)(hc:∀q∈e.cc,Cn.den c.ρ q):AB P o c n nx sl hp gs a e:=by
 have hm:x∈o.op.operands:=by simp[ho,Op.operands]
 simp only[BW,ho,Av]at he;obtain⟨s,hs,he⟩:=he;have hr:=h.cu hs hm;split at he
 ·rename_i fs hu;split at he
  ·rename_i fd hf;split at he
   ·cases he
   ·rename_i hz;simp only[not_or,Bg,Bool.not_eq_false]at hz;obtain⟨hz,hpo⟩:=hz;obtain⟨s',A5,rfl⟩:=As.1 he;obtain⟨b,off,hv,CB⟩:=(hr.asPtr hc).ptrOff (λt g m q y i sz p hh=>SE (t:=t) h.eh h.gs (by
     cases s with
     |vptr=>simp only[asPtr,SV.vptr.injEq]at hh;obtain⟨rfl,_,rfl,_⟩:=hh;exact hpo
     |e=>simp[asPtr]at hh
     |_=>simp[asPtr]at hh)) A5
    refine AB.pure h ?_ CB rfl;simp[execOp,ho,Instr.fieldAt,run_underlying hu,hf,hv,Instr.sureAddr,fieldPlace,yL hz,hz,Addr.add_lit]
  ·cases he
 ·cases he
theorem VY{sz:Nat}:∀(ys:List AV),(∀y∈ys,y.cells.length=sz)-> ∀k y,ys[k]?=some y-> ∀o m,o+m<=sz->((Aq ys).drop (k*sz+o)).take m=(y.cells.drop o).take m
 | [],_,k,y,h,_,_,_=>by simp at h
 |z::ys,hs,0,y,h,o,m,hm=>by simp at h;subst h;have hz:=hs z (by simp);simp only[Aq,List.flatMap_cons,Nat.zero_mul,Nat.zero_add];rw[List.drop_append_of_le_length (by omega),List.take_append_of_le_length (by simp;omega)]
 |z::ys,hs,k+1,y,h,o,m,hm=>by have hz:=hs z (by simp);have ih:=VY ys (λq hq=>hs q (by simp[hq])) k y (by simpa using h) o m hm;rw[<-ih];simp only[Aq,List.flatMap_cons];rw[show(k+1)*sz+o=z.cells.length+(k*sz+o)from by rw[hz,Nat.add_mul];omega,List.drop_append,List.drop_eq_nil_of_le (by omega)];simp
theorem KQ{sz:Nat}:∀(ys:List AV),(∀y∈ys,y.cells.length=sz)->(Aq ys).length=ys.length*sz
 | [],_=>by simp[Aq]
 |z::ys,hs=>by have:=KQ ys (λq hq=>hs q (by simp[hq]));simp only[Aq,List.flatMap_cons,AP,A3]at this ⊢;rw[this,hs z (by simp),Nat.add_mul];omega
theorem NM{xs:List AV}{k:Nat}(h:k<xs.length):xs[k]?=some ((AV.sl xs).nth k):=by simp[AV.nth,h]
theorem Rd.gz{w:World}{vs:List Value}{x:AV}{f:List Nat}(h:Rd w vs x.cells f)(h9:∀u∈vs,u.oneCell'=true)(o m:Nat)(g:Bool)(hm:o+m<=x.cells.length)(h1:g=false->m=1):
  ∃q,(∀b∈q,b∈f)/\Rd w [if g then .agg ((vs.drop o).take m).toArray else((vs.drop o).take m).headD undef] [x.fld o m g] q:=by
 obtain⟨q,hq,hr⟩:=h.piece o m;cases g with
 |true=>exact⟨q,hq,by have:=Rd.agg (λu hu=>h9 u (BO (Bt hu))) hr .nil;simpa[AV.fld]using this⟩
 |false=>
  have:=h1 rfl;subst this;have hl:=h.len;have e1:(vs.drop o).take 1=[vs[o]'(by omega)]:=by rw[Bw (by omega),List.take_succ_cons,List.take_zero]
  have e2:(x.cells.drop o).take 1=[x.cells[o]'(by omega)]:=by rw[Bw (by omega),List.take_succ_cons,List.take_zero]
  rw[e1,e2]at hr;refine⟨q,hq,?_⟩;simpa[e1,AV.fld,show o<x.cells.length by omega]using hr
theorem nU{w:World}{b off len cap:Nat}{xs:AV}{f:List Nat}{t:TypeId}{k sz fo:Nat}(hr:Rd w [.slice (some ⟨b,off,none⟩) len cap] [xs] f)(hk:k<len)(Bz:(xs.nth k).cells.length=sz)(ht:Du P t=true)(hfo:fo+P.cellsOf t<=sz)(hg:Ao P t=true\/P.cellsOf t=1):
  ∃v q,(Instr.loadAt t (.pointer (some ⟨b,off+k*sz+fo,none⟩))).run P w= .ok v w/\(∀c∈q,c∈f.tail)/\Rd w [v] [(xs.nth k).fld fo (P.cellsOf t) (Ao P t)] q:=by
 cases hr with
 |dv=>omega
 |scons hb h1 h2 h3 h4 h5 h6 HN h7 h8=>
  rename_i ys cs C ty fz sz' f1 f2;have hy:=NM (xs:=ys) (k:=k) (by omega);have A5:sz'=sz:=by rw[<-Bz];exact(h4 _ (List.mem_of_getElem? hy)).symm
  subst A5;have B7:=KQ ys h4;have MF:(k+1)*sz'<=ys.length*sz':=Br _ (by omega);rw[Nat.add_mul]at MF;have hp:=VY ys h4 k _ hy 0 sz' (by omega);obtain⟨q0,hq0,I8⟩:=h7.piece (k*sz'+0) sz';rw[hp]at I8;have Ax:(((AV.sl ys).nth k).cells.drop 0).take sz'=((AV.sl ys).nth k).cells:=by rw[List.drop_zero,List.take_of_length_le (by omega)]
  rw[Ax]at I8;have hlen:=h7.len;obtain⟨q,hq,hv⟩:=I8.gz (λu hu=>HN u (BO (Bt hu))) fo (P.cellsOf t) (Ao P t) (by omega) (λh=>by rcases hg with h'|h';rw[h]at h';cases h';exact h');have By:(((cs.drop (k*sz'+0)).take sz').drop fo).take (P.cellsOf t)=(cs.drop (k*sz'+fo)).take (P.cellsOf t):=by rw[List.drop_take,List.take_take,List.drop_drop,Nat.add_zero,Nat.min_eq_left (by omega)]
  rw[By]at hv;have MG:((cs.drop (k*sz'+fo)).take (P.cellsOf t)).length=P.cellsOf t:=by rw[Aw,BD];omega
  refine⟨_,q,Sa ht ((cs.drop (k*sz'+fo)).take (P.cellsOf t)) (λ_=>MG) (λh=> ?_) (λj u hu=> ?_),λz hz=> ?_,hv⟩
  ·rw[MG];rcases hg with h'|h';rw[h]at h';cases h';exact h'
  ·rw[EA hb];rw[List.getElem?_take]at hu;split at hu
   ·rw[List.getElem?_drop]at hu;have:=h6 _ _ hu;rw[<-this];congr 1;omega
   ·cases hu
  ·have:=hq0 z (hq z hz);simp[this]
end
abbrev JK:=List AV->Prop
abbrev LK:=List JK->Xt->St->List AV->Prop
def Jl(body:JK->List AV->Prop):Nat->List AV->Prop
 |0,_=>False
 |n+1,vs=>body (Jl body n) vs
section
variable (Rt:Nat->List AV->AV->Prop) (R:AV->Prop)
def IN(f:Nat ⊕ E)(args:List AV)(ρ:List AV)(r:AV):Prop:=
 match f with
 | .inl f=>Rt f args r
 | .inr x=> ∃g caps,x.den ρ= .fn g caps/\Rt (1000000+g) (args++caps) r/\ ∀y∈r.cells,y.scalar=true
def Tr.den:Tr->LK->List JK->List AV->Prop
 | .leaf x σ,L,js,ρ=>L js x σ ρ
 | .ret r,_,_,ρ=>R (r.den ρ)
 | .jmp d es,_,js,ρ=>match js[d]? with|some j=>j (es.den ρ)|none=>False
 | .ite c a b,L,js,ρ=> ∃t,c.den ρ= .bool t/\(t=true->a.den L js ρ)/\(t=false->b.den L js ρ)
 | .cc gs c k,L,js,ρ=>(Bu ρ gs->c.den ρ)/\k.den L js ρ
 | .call gs f args k,L,js,ρ=> ∃r,(Bu ρ gs->IN Rt f (args.den ρ) ρ r)/\k.den L js (ρ++ [r])
 | .ca gs x k,L,js,ρ=> ∀b,(Bu ρ gs->b=true->x.den ρ= .sl [])->k.den L js (ρ++ [.bool b])
 | .stuck,_,_,_=>False
 | .join t k,L,js,ρ=>t.den L ((λvs=>k.den L js (ρ++vs))::js) ρ
 | .loop i b k,L,js,ρ=> ∃n,Jl (λW vs=>b.den L (W::(λus=>k.den L js (ρ++us))::js) (ρ++vs)) n (i.den ρ)
end
def Tr.ed:Tr->Xt->St->Prop
 | .leaf x σ,y,τ=>x=y/\σ=τ
 | .ret _,_,_=>False
 | .jmp ..,_,_=>False
 | .stuck,_,_=>False
 | .ite _ a b,y,τ=>a.ed y τ\/b.ed y τ
 | .cc _ _ k,y,τ=>k.ed y τ
 | .call _ _ _ k,y,τ=>k.ed y τ
 | .ca _ _ k,y,τ=>k.ed y τ
 | .join t k,y,τ=>t.ed y τ\/k.ed y τ
 | .loop _ b k,y,τ=>b.ed y τ\/k.ed y τ
theorem Tr.ed.norm{t:Tr}{τ:St}(h:t.ed .normal τ):τ∈t.c6:=by
 induction t with
 |leaf x σ=>obtain⟨rfl,rfl⟩:=h;simp[Tr.c6]
 |ret|jmp|stuck=>exact h.elim
 |ite c a b iha ihb=>simp only[Tr.c6,Ac];exact h.imp iha ihb
 |cc _ _ k ih|call _ _ _ k ih|ca _ _ k ih=>exact ih h
 |join t k iht ihk=>simp only[Tr.c6,Ac];exact h.imp iht ihk
 |loop _ b k ihb ihk=>simp only[Tr.c6,Ac];exact h.imp ihb ihk
inductive Ef:List JK->List JK->Prop where
 |nil:Ef [] []
 |cons {j j' js js'}:(∀vs,j vs->j' vs)->Ef js js'->Ef (j::js) (j'::js')
theorem Ef.refl:∀js,Ef js js
 | []=> .nil
 |_::js=> .cons (λ_ h=>h) (Ef.refl js)
theorem Ef.get{js js':List JK}(h:Ef js js'):∀{d:Nat} {j:JK},js[d]?=some j-> ∃j',js'[d]?=some j'/\ ∀vs,j vs->j' vs:=by
 induction h with
 |nil=>intro d j hd;simp at hd
 |cons h1 _ ih=>
  intro d j hd;cases d with
  |zero=>simp at hd;subst hd;exact⟨_,rfl,h1⟩
  |succ d=>simpa using ih (by simpa using hd)
theorem Ef.app{a b c d:List JK}(h:Ef a b)(k:Ef c d):Ef (a++c) (b++d):=by
 induction h with
 |nil=>exact k
 |cons h1 _ ih=>exact .cons h1 ih
theorem Ef.len{a b:List JK}(h:Ef a b):a.length=b.length:=by induction h<;>simp_all
theorem nD{b b':JK->List AV->Prop}(h:∀W W',(∀vs,W vs->W' vs)-> ∀vs,b W vs->b' W' vs):∀n vs,Jl b n vs->Jl b' n vs
 |0,_,hh=>hh.elim
 |n+1,vs,hh=>h _ _ (nD h n) vs hh
def Kw(L:LK):Prop:= ∀js js' x τ ρ,Ef js js'->L js x τ ρ->L js' x τ ρ
section
variable {Rt:Nat->List AV->AV->Prop} {R:AV->Prop}
theorem Tr.eg(t:Tr):∀{L L':LK} {js js':List JK} {ρ:List AV},t.den Rt R L js ρ->Ef js js'->
  (∀i i' x τ ρ',t.ed x τ->Ef i i'->L (i++js) x τ ρ'->L' (i'++js') x τ ρ')->t.den Rt R L' js' ρ:=by
 induction t with
 |leaf x σ=>intro L L' js js' ρ h hj hl;exact hl [] [] x σ ρ ⟨rfl,rfl⟩ .nil h
 |ret r=>intro L L' js js' ρ h hj hl;exact h
 |stuck=>intro L L' js js' ρ h hj hl;exact h
 |jmp d es=>
  intro L L' js js' ρ h hj hl;simp only[Tr.den]at h ⊢;cases hd:js[d]? with
  |none=>rw[hd]at h;exact h.elim
  |some j=>rw[hd]at h;obtain⟨j',Lk,hjj⟩:=hj.get hd;rw[Lk];exact hjj _ h
 |ite c a b iha ihb=>intro L L' js js' ρ h hj hl;obtain⟨t,h1,h2,h3⟩:=h;exact⟨t,h1,λht=>iha (h2 ht) hj λi i' x τ ρ' hf=>hl i i' x τ ρ' (.inl hf),λht=>ihb (h3 ht) hj λi i' x τ ρ' hf=>hl i i' x τ ρ' (.inr hf)⟩
 |cc gs c k ih=>intro L L' js js' ρ h hj hl;exact⟨h.1,ih h.2 hj hl⟩
 |call gs f args k ih=>intro L L' js js' ρ h hj hl;obtain⟨r,h1,h2⟩:=h;exact⟨r,h1,ih h2 hj hl⟩
 |ca gs x k ih=>intro L L' js js' ρ h hj hl;exact λb hb=>ih (h b hb) hj hl
 |join t k iht ihk=>intro L L' js js' ρ h hj hl;refine iht (js':=(λvs=>k.den Rt R L' js' (ρ++vs))::js') h (.cons (λvs hv=>ihk hv hj λi i' x τ ρ' hf=>hl i i' x τ ρ' (.inr hf)) hj) λi i' x τ ρ' hf hi hL=> ?_;have:=hl (i++ [_]) (i'++ [_]) x τ ρ' (.inl hf) (hi.app (.cons (λvs hv=>ihk hv hj λi i' x τ ρ' hf=>hl i i' x τ ρ' (.inr hf)) .nil)) (by simpa using hL);simpa using this
 |loop i0 b k ihb ihk=>intro L L' js js' ρ h hj hl;obtain⟨n,hn⟩:=h;refine⟨n,nD (λW W' hW vs hv=> ?_) n _ hn⟩;have hk:∀us,k.den Rt R L js (ρ++us)->k.den Rt R L' js' (ρ++us):=λus hu=>ihk hu hj λi i' x τ ρ' hf=>hl i i' x τ ρ' (.inr hf);refine ihb hv (.cons hW (.cons hk hj)) λi i' x τ ρ' hf hi hL=> ?_;have:=hl (i++ [W,_]) (i'++ [W',_]) x τ ρ' (.inl hf) (hi.app (.cons hW (.cons hk .nil))) (by simpa using hL);simpa using this
theorem Tr.fg(t:Tr){L:LK}(hL:Kw L){js js':List JK}{ρ:List AV}(h:t.den Rt R L js ρ)(hj:Ef js js'):t.den Rt R L js' ρ:=
 t.eg h hj λ_ _ x τ ρ' _ hi hl=>hL _ _ x τ ρ' (hi.app hj) hl
def XI(Rt:Nat->List AV->AV->Prop)(R:AV->Prop)(f:Nat->Xt->St->Option Tr)(L:LK)(m d:Nat):LK:=λjs x τ ρ=> ∃r d',f d' x τ=some r/\js.length+d=m+d'/\r.den Rt R L js ρ
theorem VU{f:Nat->Xt->St->Option Tr}{L:LK}(hL:Kw L)(m d:Nat):Kw (XI Rt R f L m d):=by rintro js js' x τ ρ hj ⟨r,d',h1,h2,h3⟩;exact⟨r,d',h1,by rw[<-hj.len];exact h2,r.fg hL h3 hj⟩
theorem Tr.ee(f:Nat->Xt->St->Option Tr){L:LK}(hL:Kw L)(t:Tr):∀{d:Nat} {t':Tr} {js:List JK} {ρ:List AV},t.sub f d=some t'->t'.den Rt R L js ρ->t.den Rt R (XI Rt R f L js.length d) js ρ:=by
 induction t with
 |leaf x σ=>intro d t' js ρ h hd;exact⟨t',d,h,rfl,hd⟩
 |ret r=>intro d t' js ρ h hd;simp only[Tr.sub,Ad]at h;subst h;exact hd
 |stuck=>intro d t' js ρ h hd;simp only[Tr.sub,Ad]at h;subst h;exact hd
 |jmp i es=>intro d t' js ρ h hd;simp only[Tr.sub,Ad]at h;subst h;exact hd
 |ite c a b iha ihb=>
  intro d t' js ρ h hd;simp only[Tr.sub]at h;split at h
  ·rename_i x y hx hy;simp at h;subst h;obtain⟨t,h1,h2,h3⟩:=hd;exact⟨t,h1,λht=>iha hx (h2 ht),λht=>ihb hy (h3 ht)⟩
  ·cases h
 |cc g c k ih=>intro d t' js ρ h hd;obtain⟨k',hk,rfl⟩:=As.1 h;exact⟨hd.1,ih hk hd.2⟩
 |call g h0 as_ k ih=>intro d t' js ρ h hd;obtain⟨k',hk,rfl⟩:=As.1 h;obtain⟨r,h1,h2⟩:=hd;exact⟨r,h1,ih hk h2⟩
 |ca g x k ih=>intro d t' js ρ h hd;obtain⟨k',hk,rfl⟩:=As.1 h;exact λb hb=>ih hk (hd b hb)
 |join t k iht ihk=>
  intro d t' js ρ h hd;simp only[Tr.sub]at h;split at h
  ·rename_i x y hx hy;simp at h;subst h;have h1:=iht hx hd;have hk:∀vs,y.den Rt R L js (ρ++vs)->k.den Rt R (XI Rt R f L js.length d) js (ρ++vs):=λvs hv=>ihk hy hv;refine t.eg h1 (.cons hk (Ef.refl js)) λi i' x τ ρ' _ hi hl=> ?_;obtain⟨r,d',e1,e2,e3⟩:=hl;refine⟨r,d',e1,?_,r.fg hL e3 (hi.app (.cons hk (Ef.refl js)))⟩;have:=hi.len;simp only[AP,A3]at e2 ⊢;omega
  ·cases h
 |loop i0 b k ihb ihk=>
  intro d t' js ρ h hd;simp only[Tr.sub]at h;split at h
  ·rename_i x y hx hy;simp at h;subst h;obtain⟨n,hn⟩:=hd;refine⟨n,nD (λW W' hW vs hv=> ?_) n _ hn⟩;have h1:=ihb hx hv;have hk:∀vs,y.den Rt R L js (ρ++vs)->k.den Rt R (XI Rt R f L js.length d) js (ρ++vs):=λvs hv=>ihk hy hv;refine b.eg h1 (.cons hW (.cons hk (Ef.refl js))) λi i' x τ ρ' _ hi hl=> ?_;obtain⟨r,d',e1,e2,e3⟩:=hl;refine⟨r,d',e1,?_,r.fg hL e3 (hi.app (.cons hW (.cons hk (Ef.refl js))))⟩;have:=hi.len;simp only[AP,A3]at e2 ⊢;omega
  ·cases h
end
def Am{α:Type}(xs:List α)(i:Int):Option α:=if 0<=i then xs[i.toNat]? else none
open Classical in
noncomputable def AK{α:Type}(p:Prop)(k:Option α):Option α:= @ite _ p (propDecidable p) k none
def A4{α:Type}(xs:List α)(lo hi:Int):List α:=(xs.take hi.toNat).drop lo.toNat
def FH{σ α:Type}(body:σ->Option (σ ⊕ Option α)):Nat->σ->Option α
 |0,_=>none
 |n+1,s=>match body s with
  |none=>none
  |some (.inl s')=>FH body n s'
  |some (.inr o)=>o
theorem x8{σ α:Type}{body:σ->Option (σ ⊕ Option α)}:∀{n:Nat} {s:σ} {r:α},FH body n s=some r->FH body (n+1) s=some r
 |0,_,_,h=>by cases h
 |n+1,s,r,h=>by
  rcases hb:body s with _|s'|o
  ·simp[FH,hb]at h
  ·have h':FH body n s'=some r:=by simpa[FH,hb]using h
   have:=x8 h';simp only[FH,hb]at this ⊢;exact this
  ·have h':o=some r:=by simpa[FH,hb]using h
   simp[FH,hb,h']
theorem zym{σ α:Type}{body:σ->Option (σ ⊕ Option α)}{n m:Nat}(hm:n<=m){s:σ}{r:α}(h:FH body n s=some r):FH body m s=some r:=by
 induction hm with
 |refl=>exact h
 |step _ ih=>exact x8 ih
open Classical in
noncomputable def Au{σ α:Type}(body:σ->Option (σ ⊕ Option α))(s:σ):Option α:=
 if h:∃n r,FH body n s=some r then some (Classical.choose (Classical.choose_spec h))else none
theorem ZB{σ α:Type}{body:σ->Option (σ ⊕ Option α)}{s:σ}{r:α}:Au body s=some r↔ ∃n,FH body n s=some r:=by
 unfold Au;constructor
 ·intro h;split at h
  ·rename_i hx;simp only[Ad]at h;exact⟨_,h▸Classical.choose_spec (Classical.choose_spec hx)⟩
  ·cases h
 ·rintro⟨n,hn⟩;have hx:∃n r,FH body n s=some r:=⟨n,r,hn⟩
  rw[dif_pos hx];have h2:=Classical.choose_spec (Classical.choose_spec hx);have h3:=zym (Nat.le_max_left n (Classical.choose hx)) hn;have h4:=zym (Nat.le_max_right n (Classical.choose hx)) h2;rw[h3]at h4;exact h4.symm
theorem DK{σ α:Type}(body:σ->Option (σ ⊕ Option α))(s:σ):Au body s=match body s with|none=>none|some (.inl s')=>Au body s'|some (.inr o)=>o:=by
 apply Option.ext;intro r;rw[ZB];constructor
 ·rintro⟨n,hn⟩;cases n with
  |zero=>cases hn
  |succ n=>
   rcases hb:body s with _|s'|o
   ·simp[FH,hb]at hn
   ·exact ZB.2 ⟨n,by simpa[FH,hb]using hn⟩
   ·simpa[FH,hb]using hn
 ·intro h;rcases hb:body s with _|s'|o
  ·simp[hb]at h
  ·simp only[hb]at h;obtain⟨n,hn⟩:=ZB.1 h;exact⟨n+1,by simpa[FH,hb]using hn⟩
  ·exact⟨1,by simpa[FH,hb]using h⟩
def uI{σ α:Type}(t:Option (σ ⊕ Option α))(k:σ->Option α):Option α:=match t with
 |none=>none
 |some (.inl s)=>k s
 |some (.inr o)=>o
theorem K6{α β:Type}{o:Option α}{k:α->Option β}{r:β}(h:o.bind k=some r):∃x,o=some x/\k x=some r:=by
 cases o with
 |none=>cases h
 |some x=>exact⟨x,rfl,h⟩
theorem F7{α:Type}{p:Prop}{k:Option α}{r:α}(h:AK p k=some r):p/\k=some r:=by
 unfold AK at h;split at h
 ·exact⟨‹_›,h⟩
 ·cases h
theorem Xs{α:Type}{xs:List α}{i:Int}{x:α}(h:Am xs i=some x):0<=i/\i<xs.length/\xs[i.toNat]?=some x:=by
 unfold Am at h;split at h
 ·rename_i h0;have:=(List.getElem?_eq_some_iff.1 h).1;exact⟨h0,by omega,h⟩
 ·cases h
end
section
inductive Ty where
 |i (k:IntKind)
 |b
 |s
 |l (t:Ty)
 |st (n:Nat)
@[reducible] def DZ(car:Nat->Type):Ty->Type
 | .i _=>Int
 | .b=>Bool
 | .s=>List UInt8
 | .l t=>List (DZ car t)
 | .st n=>car n
@[reducible] def HL(car:Nat->Type):List Ty->Type
 | []=>Unit
 |t::ts=>DZ car t × HL car ts
def B3{car:Nat->Type}(av:∀n,car n->AV):(t:Ty)->DZ car t->AV
 | .i k,n=> .int k n
 | .b,x=> .bool x
 | .s,x=> .str x
 | .l t,xs=> .sl (xs.map (B3 av t))
 | .st n,x=>av n x
def Ij{car:Nat->Type}(av:∀n,car n->AV):(ts:List Ty)->HL car ts->List AV
 | [],_=> []
 |t::ts,x=>B3 av t x.1::Ij av ts x.2
structure P2(car:Nat->Type)(aa:List Ty)(r:Ty)where
 φ:HL car aa->Option (DZ car r)
 g:Nat
 caps:List AV
structure IZ where
 Rt:Nat->List AV->AV->Prop
 car:Nat->Type
 av:∀n,car n->AV
 tys:Nat->List Ty
 out:∀n,car n->HL car (tys n)
 mi:∀n,HL car (tys n)->car n
 gu:∀n x,av n x= .agg (Ij av (tys n) (out n x))
 l8:∀n h,out n (mi n h)=h
def Ty.lk:(x y:Ty)->Option (PLift (x=y))
 | .i k, .i k'=>if h:k=k' then some ⟨by rw[h]⟩else none
 | .b, .b=>some ⟨rfl⟩
 | .s, .s=>some ⟨rfl⟩
 | .l x, .l y=>match Ty.lk x y with
  |some ⟨h⟩=>some ⟨by rw[h]⟩
  |none=>none
 | .st n, .st m=>if h:n=m then some ⟨by rw[h]⟩else none
 |_,_=>none
section
variable (T:IZ)
def uZ(aa:List Ty)(r:Ty)(c:P2 T.car aa r):Prop:= ∀ys z,c.φ ys=some z->T.Rt (1000000+c.g) (Ij T.av aa ys++c.caps) (B3 T.av r z)
mutual
inductive V where
 |v (t:Ty) (x:DZ T.car t)
 |nl
 |li (vs:VL)
 |rp (n:Int) (z:V)
 |ag (vs:VL)
 |tu (vs:VL)
 |rf (x:V)
 |cl (f:Nat) (vs:VL)
 |pf (aa:List Ty) (r:Ty) (c:P2 T.car aa r) (h:uZ T aa r c)
 |no
inductive VL where
 |nil
 |cons (x:V) (vs:VL)
end
end
variable {T:IZ}
def VL.app:VL T->VL T->VL T
 | .nil,b=>b
 | .cons x a,b=> .cons x (a.app b)
def VL.toL:VL T->List (V T)
 | .nil=> []
 | .cons x a=>x::a.toL
def VL.of:List (V T)->VL T
 | []=> .nil
 |x::a=> .cons x (VL.of a)
mutual
def V.den:V T->AV
 | .v t x=>B3 T.av t x
 | .nl=> .sl []
 | .li vs=> .sl vs.den
 | .rp n z=> .sl (List.replicate n.toNat z.den)
 | .ag vs=> .agg vs.den
 | .tu vs=> .tup vs.den
 | .rf x=> .ref x.den
 | .cl f vs=> .fn f vs.den
 | .pf _ _ c _=> .fn c.g c.caps
 | .no=> .undef
def VL.den:VL T->List AV
 | .nil=> []
 | .cons x vs=>x.den::vs.den
end
theorem VL.den_app:∀(a b:VL T),(a.app b).den=a.den++b.den
 | .nil,b=>rfl
 | .cons x a,b=>by simp[VL.app,VL.den,VL.den_app a b]
theorem VL.bj:∀(a:VL T),a.toL.map V.den=a.den
 | .nil=>rfl
 | .cons x a=>by simp[VL.toL,VL.den,VL.bj a]
theorem VL.dd:∀(a:List (V T)),(VL.of a).den=a.map V.den
 | []=>rfl
 |x::a=>by simp[VL.of,VL.den,VL.dd a]
theorem VL.dg(a:VL T):a.toL.length=a.den.length:=by rw[<-VL.bj];simp
mutual
def V.to:V T->(t:Ty)->Option (DZ T.car t)
 | .v a x,t=>match Ty.lk a t with
  |some ⟨h⟩=>some (h▸x)
  |none=>none
 | .nl, .l _=>some []
 | .li vs, .l t=>vs.fu t
 | .rp n z, .l t=>match z.to t with
  |some x=>some (List.replicate n.toNat x)
  |none=>none
 | .ag vs, .st n=>match vs.kp (T.tys n)with
  |some h=>some (T.mi n h)
  |none=>none
 |_,_=>none
def VL.fu:VL T->(t:Ty)->Option (List (DZ T.car t))
 | .nil,_=>some []
 | .cons x vs,t=>match x.to t,vs.fu t with
  |some y,some ys=>some (y::ys)
  |_,_=>none
def VL.kp:VL T->(ts:List Ty)->Option (HL T.car ts)
 | .nil,[]=>some ()
 | .cons x vs,t::ts=>match x.to t,vs.kp ts with
  |some y,some ys=>some (y,ys)
  |_,_=>none
 |_,_=>none
end
mutual
theorem V.cm:∀(v:V T) {t:Ty} {x:DZ T.car t},v.to t=some x->v.den=B3 T.av t x
 | .v a y,t,x,h=>by
  simp only[V.to]at h;split at h
  ·rename_i e _;cases e;cases h;rfl
  ·cases h
 | .nl, .l _,x,h=>by cases h;rfl
 | .nl, .i _,x,h| .nl, .b,x,h| .nl, .s,x,h| .nl, .st _,x,h=>by simp[V.to]at h
 | .li vs, .l t,x,h=>by simp only[V.to]at h;simp only[V.den,B3];rw[VL.ei vs h]
 | .li _, .i _,x,h| .li _, .b,x,h| .li _, .s,x,h| .li _, .st _,x,h=>by simp[V.to]at h
 | .rp n z, .l t,x,h=>by
  simp only[V.to]at h;split at h
  ·rename_i y hy;cases h;simp[V.den,B3,V.cm z hy]
  ·cases h
 | .rp _ _, .i _,x,h| .rp _ _, .b,x,h| .rp _ _, .s,x,h| .rp _ _, .st _,x,h=>by simp[V.to]at h
 | .ag vs, .st n,x,h=>by
  simp only[V.to]at h;split at h
  ·rename_i y hy;cases h;simp only[V.den,B3];rw[T.gu,T.l8,VL.fj vs hy]
  ·cases h
 | .ag _, .i _,x,h| .ag _, .b,x,h| .ag _, .s,x,h| .ag _, .l _,x,h=>by simp[V.to]at h
 | .tu _,t,x,h| .rf _,t,x,h| .cl _ _,t,x,h| .pf ..,t,x,h| .no,t,x,h=>by cases t<;>simp[V.to]at h
theorem VL.ei:∀(vs:VL T) {t:Ty} {xs:List (DZ T.car t)},vs.fu t=some xs->vs.den=xs.map (B3 T.av t)
 | .nil,t,xs,h=>by cases h;rfl
 | .cons x vs,t,xs,h=>by
  simp only[VL.fu]at h;split at h
  ·rename_i y ys h1 h2;cases h;simp[VL.den,V.cm x h1,VL.ei vs h2]
  ·cases h
theorem VL.fj:∀(vs:VL T) {ts:List Ty} {xs:HL T.car ts},vs.kp ts=some xs->vs.den=Ij T.av ts xs
 | .nil,[],xs,h=>by cases h;rfl
 | .nil,_::_,xs,h=>by simp[VL.kp]at h
 | .cons _ _,[],xs,h=>by simp[VL.kp]at h
 | .cons x vs,t::ts,xs,h=>by
  simp only[VL.kp]at h;split at h
  ·rename_i y ys h1 h2;cases h;simp[VL.den,Ij,V.cm x h1,VL.fj vs h2]
  ·cases h
end
def XB:(ts:List Ty)->HL T.car ts->VL T
 | [],_=> .nil
 |t::ts,x=> .cons (.v t x.1) (XB ts x.2)
theorem zxK:∀(ts:List Ty) (x:HL T.car ts),(XB ts x).den=Ij T.av ts x
 | [],_=>rfl
 |t::ts,x=>by simp[XB,VL.den,V.den,Ij,zxK ts x.2]
def V.lv:V T->Option (VL T)
 | .v (.st n) x=>some (XB (T.tys n) (T.out n x))
 | .ag vs=>some vs
 |_=>none
theorem V.da{v:V T}{vs:VL T}(h:v.lv=some vs):v.den= .agg vs.den:=by
 unfold V.lv at h;split at h
 ·cases h;simp only[V.den,B3];rw[T.gu,zxK]
 ·cases h;rfl
 ·cases h
def V.one:V T->Bool
 | .v (.st _) _=>false
 | .v _ _=>true
 | .nl| .li _| .rp _ _=>true
 |_=>false
theorem V.one_cells{v:V T}(h:v.one=true):v.den.cells=[v.den]/\(∀cs,v.den≠ .agg cs)/\(∀cs,v.den≠ .tup cs):=by
 cases v with
 |v t x=>cases t<;>first|(simp[V.one]at h;done)|(refine⟨rfl,?_,?_⟩<;>intro cs h'<;>cases h')
 |nl|li|rp=>simp[V.den,AV.cells]
 |ag|tu|rf|cl|pf|no=>simp[V.one]at h
def V.scalar:V T->Bool
 | .v (.i _) _| .v .b _| .v .s _=>true
 |_=>false
theorem V.dw{v:V T}(h:v.scalar=true):v.den.scalar=true:=by unfold V.scalar at h;split at h<;>first|rfl|cases h
def V.nc(v:V T):Option Nat:=match v.lv with
 |some vs=>some vs.toL.length
 |none=>if v.one then some 1 else none
theorem V.eu{v:V T}{n:Nat}(h:v.nc=some n):v.den.cells.length=n:=by
 unfold V.nc at h;split at h
 ·rename_i vs hv;cases h;rw[V.da hv,VL.dg];rfl
 ·split at h
  ·rename_i h1;cases h;rw[(V.one_cells h1).1];rfl
  ·cases h
def V.flat(v:V T):Bool:=match v.lv with
 |some vs=>vs.toL.all V.scalar
 |none=>v.scalar
theorem V.ew{v:V T}(h:v.flat=true):∀y∈v.den.cells,y.scalar=true:=by
 unfold V.flat at h;split at h
 ·rename_i vs hv;rw[V.da hv];intro y hy;have:y∈vs.den:=hy;rw[<-VL.bj,List.mem_map]at this;obtain⟨x,hx,rfl⟩:=this;exact V.dw (Bl.1 h x hx)
 ·have hs:=V.dw h;intro y hy;cases hd:v.den<;>rw[hd]at hs hy<;>simp[AV.scalar]at hs<;>(simp only[AV.cells,List.mem_singleton]at hy;subst hy;rfl)
def Xv:Ty->Bool
 | .st _=>false
 |_=>true
def Xl(T:IZ):Ty->Nat
 | .st n=>(T.tys n).length
 |_=>1
def qE(T:IZ):Ty->Bool
 | .st n=>(T.tys n).all λt=>match t with| .i _| .b| .s=>true|_=>false
 | .i _| .b| .s=>true
 |_=>false
theorem zyh{car:Nat->Type}(av:∀n,car n->AV):∀(ts:List Ty) (x:HL car ts),(Ij av ts x).length=ts.length
 | [],_=>rfl
 |t::ts,x=>by simp[Ij,zyh av ts x.2]
theorem NF(t:Ty)(x:DZ T.car t):(B3 T.av t x).cells.length=Xl T t:=by
 cases t with
 |st n=>simp only[B3,Xl];rw[T.gu];exact zyh _ _ _
 |_=>rfl
theorem zM{car:Nat->Type}(av:∀n,car n->AV):∀(ts:List Ty) (x:HL car ts),(ts.all λt=>match t with| .i _| .b| .s=>true|_=>false)=true-> ∀y∈Ij av ts x,y.scalar=true
 | [],_,_,y,hy=>by cases hy
 |t::ts,x,h,y,hy=>by
  simp only[List.all_cons,Ab]at h;rcases Ae.1 hy with rfl|hy
  ·cases t<;>first|rfl|(simp at h)
  ·exact zM av ts x.2 h.2 y hy
theorem Pt{t:Ty}(h:qE T t=true)(x:DZ T.car t):∀y∈(B3 T.av t x).cells,y.scalar=true:=by
 cases t with
 |st n=>simp only[B3];rw[T.gu];exact zM _ _ _ h
 |l t=>cases h
 |_=>intro y hy;simp only[B3,AV.cells,List.mem_singleton]at hy;subst hy;rfl
def V.l4:V T->Nat->Bool
 | .v (.l t) _,n=>Xl T t==n
 | .nl,_=>true
 | .li vs,n=>vs.toL.all λv=>v.nc==some n
 | .rp _ z,n=>z.nc==some n
 |_,_=>false
def V.gm:V T->Bool
 | .v (.l t) _=>qE T t
 | .nl=>true
 | .li vs=>vs.toL.all V.flat
 | .rp _ z=>z.flat
 |_=>false
def V.me:V T->Bool
 | .v (.l _) _| .nl| .li _| .rp _ _=>true
 |_=>false
theorem V.jy{v:V T}(h:v.me=true):∃xs,v.den= .sl xs:=by unfold V.me at h;split at h<;>first|exact⟨_,rfl⟩|cases h
theorem V.gn{v:V T}{n:Nat}(h:v.l4 n=true):∃xs,v.den= .sl xs/\ ∀y∈xs,y.cells.length=n:=by
 unfold V.l4 at h;split at h
 ·simp only[AM]at h;refine⟨_,rfl,λy hy=> ?_⟩;obtain⟨x,_,rfl⟩:=List.mem_map.1 hy;rw[NF,h]
 ·exact⟨_,rfl,by simp⟩
 ·rename_i vs _;refine⟨_,rfl,λy hy=> ?_⟩;rw[<-VL.bj]at hy;obtain⟨x,hx,rfl⟩:=List.mem_map.1 hy;exact V.eu (by simpa using Bl.1 h x hx)
 ·refine⟨_,rfl,λy hy=> ?_⟩;rw[List.eq_of_mem_replicate hy];exact V.eu (by simpa using h)
 ·cases h
theorem V.gl{v:V T}(h:v.gm=true):∃xs,v.den= .sl xs/\ ∀y∈xs,∀z∈y.cells,z.scalar=true:=by
 unfold V.gm at h;split at h
 ·refine⟨_,rfl,λy hy=> ?_⟩;obtain⟨x,_,rfl⟩:=List.mem_map.1 hy;exact Pt h x
 ·exact⟨_,rfl,by simp⟩
 ·rename_i vs;refine⟨_,rfl,λy hy=> ?_⟩;rw[<-VL.bj]at hy;obtain⟨x,hx,rfl⟩:=List.mem_map.1 hy;exact V.ew (Bl.1 h x hx)
 ·refine⟨_,rfl,λy hy=> ?_⟩;rw[List.eq_of_mem_replicate hy];exact V.ew h
 ·cases h
def V.fld(v:V T)(o n:Nat)(g:Bool):Option (V T):=match v.lv with
 |some vs=>if g then(if o=0/\n=vs.toL.length then some v else if o+n<=vs.toL.length then some (.ag (.of ((vs.toL.drop o).take n)))else none)else vs.toL[o]?
 |none=>if g=false/\o=0/\v.one=true then some v else none
theorem V.jt{v x:V T}{o n:Nat}{g:Bool}(h:v.fld o n g=some x):v.den.fld o n g=x.den:=by
 unfold V.fld at h;split at h
 ·rename_i vs hv;rw[V.da hv];cases g with
  |true=>
   simp only[if_true]at h;split at h
   ·rename_i h1;cases h;obtain⟨rfl,rfl⟩:=h1;rw[V.da hv];simp[AV.fld,AV.cells,VL.dg]
   ·split at h
    ·cases h;simp only[AV.fld,AV.cells,if_true,V.den,VL.dd];rw[<-VL.bj,List.map_take,List.map_drop]
    ·cases h
  |false=>simp only[AS,if_false]at h;simp[AV.fld,AV.cells,<-VL.bj,h]
 ·split at h
  ·rename_i h1;cases h;obtain⟨rfl,rfl,h1⟩:=h1;simp[AV.fld,(V.one_cells h1).1]
  ·cases h
end
section
variable {T:IZ}
inductive Fa(T:IZ)where
 |ix (x i:E) (v:V T)
 |sx (x i:E) (y:UInt8)
 |tx (y:E)
 |bo (c:E) (b:Bool)
def Fa.OK(ρ:List AV):Fa T->Prop
 | .ix x i v=> ∃k n xs,i.den ρ= .int k n/\x.den ρ= .sl xs/\0<=n/\n<xs.length/\xs[n.toNat]?=some v.den
 | .sx x i y=> ∃k n s,i.den ρ= .int k n/\x.den ρ= .str s/\0<=n/\n<s.length/\s[n.toNat]?=some y
 | .tx y=>(y.den ρ).text≠ .undef
 | .bo c b=>c.den ρ= .bool b
def Fa.sc(n:Nat):Fa T->Bool
 | .ix x i _=>x.sc n&&i.sc n
 | .sx x i _=>x.sc n&&i.sc n
 | .tx y=>y.sc n
 | .bo c _=>c.sc n
theorem Fa.move{f:Fa T}{ρ τ τ':List AV}(hs:f.sc ρ.length=true)(h:f.OK (ρ++τ)):f.OK (ρ++τ'):=by
 cases f with
 |ix x i v=>simp only[Fa.sc,Ab]at hs;simp only[Fa.OK]at h ⊢;rw[E.bd ρ τ' τ x hs.1,E.bd ρ τ' τ i hs.2];exact h
 |sx x i y=>simp only[Fa.sc,Ab]at hs;simp only[Fa.OK]at h ⊢;rw[E.bd ρ τ' τ x hs.1,E.bd ρ τ' τ i hs.2];exact h
 |tx y=>simp only[Fa.OK]at h ⊢;rw[E.bd ρ τ' τ y hs];exact h
 |bo c b=>simp only[Fa.OK]at h ⊢;rw[E.bd ρ τ' τ c hs];exact h
def K1(x i:E):List (Fa T)->Option (V T)
 | []=>none
 | .ix y j v::l=>if y.beq x&&j.beq i then some v else K1 x i l
 |_::l=>K1 x i l
def S1(x i:E):List (Fa T)->Option UInt8
 | []=>none
 | .sx y j v::l=>if y.beq x&&j.beq i then some v else S1 x i l
 |_::l=>S1 x i l
def ED(x:E):List (Fa T)->Bool
 | []=>false
 | .tx y::l=>y.beq x||ED x l
 |_::l=>ED x l
def Uz(c:E):List (Fa T)->Option Bool
 | []=>none
 | .bo d b::l=>if d.beq c then some b else Uz c l
 |_::l=>Uz c l
abbrev DI(ρ:List AV)(fa:List (Fa T)):Prop:= ∀f∈fa,f.OK ρ
theorem ZS{x i:E}{ρ:List AV}:∀{fa:List (Fa T)} {v:V T},K1 x i fa=some v->DI ρ fa-> ∃k n xs,i.den ρ= .int k n/\x.den ρ= .sl xs/\0<=n/\n<xs.length/\xs[n.toNat]?=some v.den
 |f::l,v,h,ho=>by
  cases f with
  |ix y j w=>
   simp only[K1]at h;split at h
   ·rename_i hb;cases h;simp only[Ab]at hb;rw[<-E.az ρ _ _ hb.1,<-E.az ρ _ _ hb.2];exact ho (.ix y j v) (by simp)
   ·exact ZS h λf hf=>ho f (by simp[hf])
  |sx|tx|bo=>exact ZS (fa:=l) h λf hf=>ho f (by simp[hf])
theorem Z1{x i:E}{ρ:List AV}:∀{fa:List (Fa T)} {y:UInt8},S1 x i fa=some y->DI ρ fa-> ∃k n s,i.den ρ= .int k n/\x.den ρ= .str s/\0<=n/\n<s.length/\s[n.toNat]?=some y
 |f::l,v,h,ho=>by
  cases f with
  |sx y j w=>
   simp only[S1]at h;split at h
   ·rename_i hb;cases h;simp only[Ab]at hb;rw[<-E.az ρ _ _ hb.1,<-E.az ρ _ _ hb.2];exact ho (.sx y j v) (by simp)
   ·exact Z1 h λf hf=>ho f (by simp[hf])
  |ix|tx|bo=>exact Z1 (fa:=l) h λf hf=>ho f (by simp[hf])
theorem nR{x:E}{ρ:List AV}:∀{fa:List (Fa T)},ED x fa=true->DI ρ fa->(x.den ρ).text≠ .undef
 |f::l,h,ho=>by
  cases f with
  |tx y=>
   simp only[ED,Bool.or_eq_true]at h;rcases h with h|h
   ·rw[<-E.az ρ _ _ h];exact ho (.tx y) (by simp)
   ·exact nR h λf hf=>ho f (by simp[hf])
  |ix|sx|bo=>exact nR (fa:=l) h λf hf=>ho f (by simp[hf])
theorem oB{c:E}{ρ:List AV}:∀{fa:List (Fa T)} {b:Bool},Uz c fa=some b->DI ρ fa->c.den ρ= .bool b
 |f::l,v,h,ho=>by
  cases f with
  |bo d w=>
   simp only[Uz]at h;split at h
   ·rename_i hb;cases h;rw[<-E.az ρ _ _ hb];exact ho (.bo d v) (by simp)
   ·exact oB h λf hf=>ho f (by simp[hf])
  |ix|sx|tx=>exact oB (fa:=l) h λf hf=>ho f (by simp[hf])
def Jo(fa:List (Fa T)):E->Option Bool
 | .bool b=>some b
 | .not a=>(Jo fa a).map (!·)
 | .ite c a b=>match Jo fa c with
  |some true=>Jo fa a
  |some false=>Jo fa b
  |none=>none
 |e=>Uz e fa
theorem Kn{fa:List (Fa T)}{ρ:List AV}(ho:DI ρ fa):∀{e:E} {b:Bool},Jo fa e=some b->e.den ρ= .bool b
 |e,b,h=>by
  cases e
  case bool=>cases h;rfl
  case not a=>
   simp only[Jo,As]at h;obtain⟨x,hx,rfl⟩:=h;simp only[E.den,Kn ho hx,AV.ek]
  case ite c x y=>
   simp only[Jo]at h;split at h
   ·rename_i hc;simp only[E.den,Kn ho hc,AV.cond,Kn ho h]
   ·rename_i hc;simp only[E.den,Kn ho hc,AV.cond,Kn ho h]
   ·cases h
  all_goals exact oB h ho
def LN(n:Nat)(fa:List (Fa T)):E->Bool->List (Fa T)
 | .not a,b=>LN n fa a (!b)
 |c,b=>if c.sc n then .bo c b::fa else fa
theorem Wp{n:Nat}{fa:List (Fa T)}{ρ:List AV}(ho:DI ρ fa):∀{e:E} {b:Bool},e.den ρ= .bool b->DI ρ (LN n fa e b)
 |e,b,h=>by
  cases e
  case not a=>
   refine Wp ho (e:=a) ?_;simp only[E.den]at h;cases ha:a.den ρ<;>simp only[ha,AV.ek]at h<;>cases h;simp
  all_goals
   simp only[LN];split
   ·intro f hf;rcases Ae.1 hf with rfl|hf
    ·exact h
    ·exact ho f hf
   ·exact ho
theorem Wq{n:Nat}{fa:List (Fa T)}(hs:∀f∈fa,f.sc n=true):∀{e:E} {b:Bool},∀f∈LN n fa e b,f.sc n=true
 |e,b=>by
  cases e
  case not a=>exact Wq hs (e:=a)
  all_goals
   simp only[LN];split
   ·rename_i hc;intro f hf;rcases Ae.1 hf with rfl|hf
    ·exact hc
    ·exact hs f hf
   ·exact hs
def V.int?:V T->Option (IntKind × Int)
 | .v (.i k) n=>some (k,n)
 |_=>none
def V.bool?:V T->Option Bool
 | .v .b x=>some x
 |_=>none
def V.str?:V T->Option (List UInt8)
 | .v .s x=>some x
 |_=>none
theorem V.int?_den{v:V T}{k:IntKind}{n:Int}(h:v.int?=some (k,n)):v.den= .int k n:=by unfold V.int? at h;split at h<;>cases h;rfl
theorem V.bool?_den{v:V T}{b:Bool}(h:v.bool?=some b):v.den= .bool b:=by unfold V.bool? at h;split at h<;>cases h;rfl
theorem V.str?_den{v:V T}{s:List UInt8}(h:v.str?=some s):v.den= .str s:=by unfold V.str? at h;split at h<;>cases h;rfl
def vI(k:IntKind)(n:Int):V T:= .v (.i k) n
def vB(b:Bool):V T:= .v .b b
def vS(s:List UInt8):V T:= .v .s s
@[simp] theorem Wy(k:IntKind)(n:Int):(vI k n:V T).den= .int k n:=rfl
@[simp] theorem WK(b:Bool):(vB b:V T).den= .bool b:=rfl
@[simp] theorem zGq(s:List UInt8):(vS s:V T).den= .str s:=rfl
def uW(op:BinOp)(k:IntKind)(a b:Int):V T:=
 match op with
 | .add=>vI k (k.wrap (a+b))
 | .sub=>vI k (k.wrap (a-b))
 | .mul=>vI k (k.wrap (a*b))
 | .quo=>vI k (k.wrap (a.tdiv b))
 | .rem=>vI k (a.tmod b)
 | .eql=>vB (a==b)
 | .neq=>vB (a !=b)
 | .lss=>vB (a<b)
 | .leq=>vB (a<=b)
 | .gtr=>vB (a>b)
 | .geq=>vB (a>=b)
 | .and=>vI k (k.wrap (BitVec.ofInt k.bits a&&&BitVec.ofInt k.bits b).toNat)
 | .or=>vI k (k.wrap (BitVec.ofInt k.bits a|||BitVec.ofInt k.bits b).toNat)
 | .xor=>vI k (k.wrap (BitVec.ofInt k.bits a^^^BitVec.ofInt k.bits b).toNat)
 | .andNot=>vI k (k.wrap (BitVec.ofInt k.bits a&&& ~~~BitVec.ofInt k.bits b).toNat)
 | .shl=>vI k (k.wrap (a*2^(min b.toNat k.bits)))
 | .shr=>vI k (a.fdiv (2^(min b.toNat k.bits)))
theorem zC1(op:BinOp)(k:IntKind)(a b:Int):(uW op k a b:V T).den=Cy op k a b:=by cases op<;>rfl
def fW(op:BinOp)(a b:List UInt8):Option (V T):=
 match op with
 | .add=>some (vS (a++b))
 | .eql=>some (vB (a==b))
 | .neq=>some (vB (a !=b))
 | .lss=>some (vB (Op.bytesLess a b))
 | .leq=>some (vB (Op.bytesLess a b||a==b))
 | .gtr=>some (vB (!(Op.bytesLess a b||a==b)))
 | .geq=>some (vB (!Op.bytesLess a b))
 |_=>none
theorem zA9{op:BinOp}{a b:List UInt8}{v:V T}(h:fW op a b=some v):v.den=S2 op a b:=by cases op<;>simp only[fW,Ad,reduceCtorEq]at h<;>subst h<;>rfl
def V.gk:V T->Option Int
 | .v (.l _) xs=>some (xs.length:Int)
 | .nl=>some ((0:Nat):Int)
 | .li vs=>some (vs.toL.length:Int)
 | .rp n _=>some (n.toNat:Int)
 |_=>none
theorem V.fq{v:V T}{n:Int}(h:v.gk=some n):∃xs:List AV,v.den= .sl xs/\(xs.length:Int)=n:=by
 unfold V.gk at h;split at h
 ·cases h;exact⟨_,rfl,by simp⟩
 ·cases h;exact⟨_,rfl,by simp⟩
 ·cases h;exact⟨_,rfl,by rw[VL.dg]⟩
 ·cases h;exact⟨_,rfl,by simp⟩
 ·cases h
def V.kt:V T->V T->Option (V T)
 | .v (.l t) xs,y=>match y.to (.l t)with
  |some ys=>some (.v (.l t) (xs++ys))
  |none=>none
 | .nl,y=>if y.me then some y else none
 | .li vs, .li ws=>some (.li (vs.app ws))
 | .li vs, .v (.l t) ys=>match vs.fu t with
  |some xs=>some (.v (.l t) (xs++ys))
  |none=>none
 |_,_=>none
theorem V.ir{a b c:V T}(h:a.kt b=some c):a.den.app b.den=c.den:=by
 unfold V.kt at h;split at h
 ·split at h
  ·rename_i t xs y ys hy;cases h;rw[V.cm _ hy];simp[V.den,B3,AV.app]
  ·cases h
 ·split at h
  ·rename_i hi;cases h;obtain⟨ys,hy⟩:=V.jy hi;rw[hy];rfl
  ·cases h
 ·cases h;simp[V.den,AV.app,VL.den_app]
 ·split at h
  ·rename_i hx;cases h;simp[V.den,B3,AV.app,VL.ei _ hx]
  ·cases h
 ·cases h
def VL.mf:VL T->Option Ty
 | .cons (.v t _) _=>some t
 |_=>none
def V.mc:V T->Option ((t:Ty) × List (DZ T.car t))
 | .v (.l t) xs=>some ⟨t,xs⟩
 | .li vs=>match vs.mf with
  |some t=>(match V.to (.li vs) (.l t)with
   |some xs=>some ⟨t,xs⟩
   |none=>none)
  |none=>none
 |_=>none
theorem V.jm{v:V T}{t:Ty}{xs:List (DZ T.car t)}(h:v.mc=some ⟨t,xs⟩):v.den= .sl (xs.map (B3 T.av t)):=by
 unfold V.mc at h;split at h
 ·simp only[Ad,Sigma.mk.injEq]at h;obtain⟨rfl,h⟩:=h;cases h;simp[V.den,B3]
 ·split at h
  ·split at h
   ·rename_i ys hy;simp only[Ad,Sigma.mk.injEq]at h;obtain⟨rfl,h⟩:=h;cases h;rw[V.cm _ hy];simp[B3]
   ·cases h
  ·cases h
 ·cases h
def V.la:V T->Int->Int->Option (V T)
 | .v (.l t) xs,a,b=>some (.v (.l t) (A4 xs a b))
 | .nl,_,_=>some .nl
 | .li vs,a,b=>match vs.mf with
  |some t=>(match V.to (.li vs) (.l t)with
   |some xs=>some (.v (.l t) (A4 xs a b))
   |none=>none)
  |none=>none
 |_,_,_=>none
theorem V.jc{v x:V T}{a b:Int}(h:v.la a b=some x)(ka kb:IntKind):v.den.win (.int ka a) (.int kb b)=x.den:=by
 unfold V.la at h;split at h
 ·cases h;simp[V.den,B3,AV.win,A4,List.map_take,List.map_drop]
 ·cases h;simp[V.den,AV.win]
 ·split at h
  ·split at h
   ·rename_i xs hx;cases h;rw[V.cm _ hx];simp[V.den,B3,AV.win,A4,List.map_take,List.map_drop]
   ·cases h
  ·cases h
 ·cases h
def V.ld:V T->Int->V T->Option (V T)
 | .v (.l t) xs,i,w=>match w.to t with
  |some y=>some (.v (.l t) (xs.set i.toNat y))
  |none=>none
 |_,_,_=>none
theorem V.jg{v w x:V T}{i:Int}(h:v.ld i w=some x)(k:IntKind):v.den.c7 (.int k i) w.den=x.den:=by
 unfold V.ld at h;split at h
 ·split at h
  ·rename_i hy;cases h;simp[V.den,B3,AV.c7,V.cm _ hy,List.map_set]
  ·cases h
 ·cases h
def V.kq(x:V T)(o:Nat)(v:V T)(g:Bool):Option (V T):=
 if g then match x.lv,(match v.lv with|some l=>some l|none=>if v.one then some (.cons v .nil)else none)with
  |some xs,some vs=>some (.ag (.of (xs.toL.take o++vs.toL++xs.toL.drop (o+vs.toL.length))))
  |_,_=>none
 else some v
theorem V.iu{x v y:V T}{o:Nat}{g:Bool}(h:x.kq o v g=some y):x.den.c9 o v.den g=y.den:=by
 unfold V.kq at h;cases g with
 |false=>simp at h;subst h;rfl
 |true=>
  simp only[if_true]at h;split at h
  ·rename_i xs vs hx hv;cases h;have hc:v.den.cells=vs.den:=by
    split at hv
    ·rename_i l hl;cases hv;rw[V.da hl];rfl
    ·split at hv
     ·rename_i h1;cases hv;rw[(V.one_cells h1).1];rfl
     ·cases hv
   rw[V.da hx];simp only[AV.c9,if_true,hc,V.den,VL.dd,List.map_append,List.map_take,List.map_drop,VL.bj,VL.dg];rfl
  ·cases h
def V.ku(n:Int):V T->V T
 | .v t z=> .v (.l t) (List.replicate n.toNat z)
 |z=> .rp n z
theorem V.ig(n:Int)(z:V T)(k:IntKind):(V.ku n z).den=AV.rep (.int k n) z.den:=by cases z<;>simp[V.ku,V.den,B3,AV.rep]
def V.l5:V T->V T->Option Bool
 | .v (.i _) a, .v (.i _) b=>some (a==b)
 | .v .b a, .v .b b=>some (a==b)
 | .v .s a, .v .s b=>some (a==b)
 |_,_=>none
def OW:List (V T)->List (V T)->Option Bool
 | [],[]=>some true
 | [x],[y]=>x.l5 y
 |x::xs,y::ys=>match x.l5 y,OW xs ys with
  |some a,some b=>some (a&&b)
  |_,_=>none
 |_,_=>none
theorem V.gx{x y:V T}{b:Bool}(h:x.l5 y=some b):x.den.seq y.den=b:=by unfold V.l5 at h;split at h<;>cases h<;>rfl
theorem zxO:∀{xs ys:List (V T)} {b:Bool},OW xs ys=some b->AV.leq (xs.map V.den) (ys.map V.den)=b
 | [],[],b,h=>by cases h;rfl
 | [x],[y],b,h=>by simp only[List.map_cons,List.map_nil,AV.leq,Bool.and_true];exact V.gx (x:=x) (y:=y) h
 |x::x'::xs,y::ys,b,h=>by
  simp only[OW]at h;split at h
  ·rename_i h1 h2;cases h;have:=zxO h2;simp only[List.map_cons]at this ⊢;rw[AV.leq,V.gx h1,this]
  ·cases h
 | [x],y::y'::ys,b,h=>by
  simp only[OW]at h;split at h
  ·rename_i h1 h2;cases h2
  ·cases h
 | [],_::_,b,h=>by simp[OW]at h
 |_::_,[],b,h=>by simp[OW]at h
def V.ko(x y:V T):Option Bool:=match x.lv,y.lv with
 |some a,some b=>OW a.toL b.toL
 |_,_=>none
theorem V.iy{x y:V T}{b:Bool}(h:x.ko y=some b):AV.aeq x.den y.den= .bool b:=by
 unfold V.ko at h;split at h
 ·rename_i h1 h2;rw[V.da h1,V.da h2];simp only[AV.aeq,<-VL.bj,zxO h]
 ·cases h
def VL.get(i:Nat)(vs:VL T):Option (V T):=vs.toL[i]?
def WM(fa:List (Fa T))(i:E):E->Bool
 | .set b j v=>(K1 (.set b j v) i fa).isSome||(j.beq i&&WM fa i b)
 |b=>(K1 b i fa).isSome
section
variable (env:List (V T)) (fa:List (Fa T))
mutual
def AT:E->Option (V T)
 | .var i=>match env[i]? with
  |some .no=>none
  |some v=>some v
  |none=>none
 | .int k n=>some (vI k n)
 | .bool b=>some (vB b)
 | .str s=>some (vS s.data.toList)
 | .dk=>none
 | .lst es=>match es with
  | .nil=>some .nl
  |es=>(Ju es).map .li
 | .mk es=>(Ju es).map .ag
 | .tup es=>(Ju es).map .tu
 | .ref e=>(AT e).map .rf
 | .fn f es=>(Ju es).map (.cl f)
 | .fld e o n g=>(AT e).bind λv=>v.fld o n g
 | .proj e i=>match AT e with
  |some (.tu vs)=>vs.get i
  |_=>none
 | .deref e=>match AT e with
  |some (.rf x)=>some x
  |_=>none
 | .len e=>((AT e).bind V.gk).map (vI .i64)
 | .slen e=>((AT e).bind V.str?).map λs=>vI .i64 s.length
 | .idx x i=>match K1 x i fa with
  |some v=>some v
  |none=>match x with
   | .set b j v=>if j.beq i&&WM fa i b then AT v else none
   |_=>none
 | .sidx x i=>(S1 x i fa).map λy=>vI .u8 y.toNat
 | .win e a b=>match AT e,(AT a).bind V.int?,(AT b).bind V.int? with
  |some x,some p,some q=>x.la p.2 q.2
  |_,_,_=>none
 | .swin e a b=>match(AT e).bind V.str?,(AT a).bind V.int?,(AT b).bind V.int? with
  |some x,some p,some q=>some (vS (A4 x p.2 q.2))
  |_,_,_=>none
 | .app a b=>match AT a,AT b with
  |some x,some y=>x.kt y
  |_,_=>none
 | .set x i v=>match AT x,(AT i).bind V.int?,AT v with
  |some x,some p,some w=>x.ld p.2 w
  |_,_,_=>none
 | .put x o v g=>match AT x,AT v with
  |some x,some w=>x.kq o w g
  |_,_=>none
 | .rep n z=>match(AT n).bind V.int?,AT z with
  |some p,some w=>some (.ku p.2 w)
  |_,_=>none
 | .conv k e=>((AT e).bind V.int?).map λp=>vI k (k.wrap p.2)
 | .bin op a b=>match(AT a).bind V.int?,(AT b).bind V.int? with
  |some p,some q=>if p.1=q.1\/op= .shl\/op= .shr then some (uW op p.1 p.2 q.2)else none
  |_,_=>none
 | .sbin op a b=>match(AT a).bind V.str?,(AT b).bind V.str? with
  |some p,some q=>fW op p q
  |_,_=>none
 | .bbin op a b=>match(AT a).bind V.bool?,(AT b).bind V.bool? with
  |some p,some q=>(match op with
   | .eql=>some (vB (p==q))
   | .neq=>some (vB (p !=q))
   |_=>none)
  |_,_=>none
 | .aeq a b=>match AT a,AT b with
  |some x,some y=>(x.ko y).map vB
  |_,_=>none
 | .not a=>match Jo fa a with
  |some b=>some (vB (!b))
  |none=>((AT a).bind V.bool?).map λb=>vB (!b)
 | .neg a=>((AT a).bind V.int?).map λp=>vI p.1 (p.1.wrap (0-p.2))
 | .ite c a b=>match Jo fa c with
  |some true=>AT a
  |some false=>AT b
  |none=>match(AT c).bind V.bool? with
   |none=>none
   |some x=>
    if b.beq (.bool false)then((AT a).bind V.bool?).map λp=>vB (x&&p)else
    if a.beq (.bool true)then((AT b).bind V.bool?).map λp=>vB (x||p)else
    match AT a,AT b with
    |some (.v t p),some q=>(q.to t).map λq=> .v t (bif x then p else q)
    |_,_=>none
 | .bytes a=>((AT a).bind V.str?).map λx=> .v (.l (.i .u8)) (x.map λb=>(b.toNat:Int))
 | .text a=>if ED a fa then(match AT a with
   |some x=>(x.to (.l (.i .u8))).map λl=>vS (l.map λn=>UInt8.ofNat n.toNat)
   |none=>none)else none
def Ju:EL->Option (VL T)
 | .nil=>some .nil
 | .cons e es=>match AT e,Ju es with
  |some x,some xs=>some (.cons x xs)
  |_,_=>none
end
end
theorem yW{fa:List (Fa T)}{x i:E}{ρ:List AV}(ho:DI ρ fa){v:V T}(h:K1 x i fa=some v):(x.den ρ).idx (i.den ρ)=v.den:=by obtain⟨k,n,xs,h1,h2,_,_,h5⟩:=ZS h ho;simp only[h1,h2,AV.idx,AV.nth,h5,Dg]
theorem zxR{fa:List (Fa T)}{i:E}{ρ:List AV}(ho:DI ρ fa):∀{b:E},WM fa i b=true-> ∃xs k n,b.den ρ= .sl xs/\i.den ρ= .int k n/\0<=n/\n<xs.length:=by
 have base:∀{b:E},(K1 b i fa).isSome=true-> ∃xs k n,b.den ρ= .sl xs/\i.den ρ= .int k n/\0<=n/\n<xs.length:=by intro b h;obtain⟨v,hv⟩:=Option.isSome_iff_exists.1 h;obtain⟨k,n,xs,h1,h2,h3,h4,_⟩:=ZS hv ho;exact⟨xs,k,n,h2,h1,h3,h4⟩
 intro b h
 induction b using E.rec (motive_2:=λ_=>True)with
 |set b j v ihb _ _=>
  simp only[WM,Bool.or_eq_true,Ab]at h;rcases h with h|h
  ·exact base h
  ·obtain⟨xs,k,n,h1,h2,h3,h4⟩:=ihb h.2;refine⟨xs.set n.toNat (v.den ρ),k,n,?_,h2,h3,by simpa using h4⟩;simp only[E.den,h1,E.az ρ _ _ h.1,h2,AV.c7]
 |nil|cons=>trivial
 |_=>exact base h
mutual
theorem BT{env:List (V T)}{fa:List (Fa T)}(ho:DI (env.map V.den) fa):∀(e:E) {v:V T},AT env fa e=some v->e.den (env.map V.den)=v.den
 | .var i,v,h=>by
  simp only[AT]at h;simp only[E.den,List.getElem?_map];split at h
  ·cases h
  ·rename_i w _ hw;cases h;rw[hw];rfl
  ·cases h
 | .int k n,v,h=>by cases h;rfl
 | .bool b,v,h=>by cases h;rfl
 | .str s,v,h=>by cases h;rfl
 | .dk,v,h=>by simp[AT]at h
 | .lst .nil,v,h=>by simp only[AT]at h;cases h;rfl
 | .lst (.cons e es),v,h=>by simp only[AT,As]at h;obtain⟨vs,hv,rfl⟩:=h;simp only[E.den,V.den,Ma ho (.cons e es) hv]
 | .mk es,v,h=>by simp only[AT,As]at h;obtain⟨vs,hv,rfl⟩:=h;simp only[E.den,V.den,Ma ho es hv]
 | .tup es,v,h=>by simp only[AT,As]at h;obtain⟨vs,hv,rfl⟩:=h;simp only[E.den,V.den,Ma ho es hv]
 | .ref e,v,h=>by simp only[AT,As]at h;obtain⟨w,hv,rfl⟩:=h;simp only[E.den,V.den,BT ho e hv]
 | .fn f es,v,h=>by simp only[AT,As]at h;obtain⟨vs,hv,rfl⟩:=h;simp only[E.den,V.den,Ma ho es hv]
 | .fld e o n g,v,h=>by simp only[AT,Av]at h;obtain⟨w,hw,h⟩:=h;simp only[E.den,BT ho e hw,V.jt h]
 | .proj e i,v,h=>by
  simp only[AT]at h;split at h
  ·rename_i vs hw;simp only[E.den,BT ho e hw,V.den,AV.proj];unfold VL.get at h;rw[<-VL.bj,List.getElem?_map,h];rfl
  ·cases h
 | .deref e,v,h=>by
  simp only[AT]at h;split at h
  ·rename_i x hw;cases h;simp only[E.den,BT ho e hw,V.den,AV.deref]
  ·cases h
 | .len e,v,h=>by simp only[AT,As,Av]at h;obtain⟨n,⟨w,hw,hn⟩,rfl⟩:=h;obtain⟨xs,h1,h2⟩:=V.fq hn;simp only[E.den,BT ho e hw,h1,AV.len,h2,Wy]
 | .slen e,v,h=>by simp only[AT,As,Av]at h;obtain⟨n,⟨w,hw,hn⟩,rfl⟩:=h;simp only[E.den,BT ho e hw,V.str?_den hn,AV.slen,Wy]
 | .idx x i,v,h=>by
  have key:∀o,K1 x i fa=o->(match o with|some v=>some v|none=>none)=some v->(x.den (env.map V.den)).idx (i.den (env.map V.den))=v.den:=by
   intro o T5 h;cases o with
   |none=>cases h
   |some w=>cases h;exact yW ho T5
  by_cases hs:∃b j u,x= .set b j u
  ·obtain⟨b,j,u,hx⟩:=hs;have AH:SizeOf.sizeOf u<SizeOf.sizeOf x:=by rw[hx];simp;omega
   have ih:∀{v:V T},AT env fa u=some v->u.den (env.map V.den)=v.den:=λhv=>BT ho u hv;clear AH;subst hx;simp only[AT]at h;split at h
   ·rename_i w hw;cases h;exact yW ho hw
   ·split at h
    ·rename_i hb;simp only[Ab]at hb;obtain⟨xs,k,n,h1,h2,h3,h4⟩:=zxR ho hb.2;have h5:n.toNat<xs.length:=by omega
     have:=ih h;simp only[E.den,h1,E.az _ _ _ hb.1,h2,AV.c7,AV.idx,AV.nth];simp[h5,this]
    ·cases h
  ·cases x
   case set b j u=>exact absurd ⟨b,j,u,rfl⟩ hs
   all_goals
    simp only[AT]at h;exact key _ rfl h
 | .sidx x i,v,h=>by simp only[AT,As]at h;obtain⟨y,hy,rfl⟩:=h;obtain⟨k,n,s,h1,h2,_,_,h5⟩:=Z1 hy ho;simp only[E.den,h1,h2,AV.sidx,h5,Wy]
 | .win e a b,v,h=>by
  simp only[AT]at h;split at h
  ·rename_i x p q hx hp hq;obtain⟨w1,ha,hp⟩:=Av.1 hp;obtain⟨w2,hb,hq⟩:=Av.1 hq;simp only[E.den,BT ho e hx,BT ho a ha,BT ho b hb,V.int?_den hp,V.int?_den hq];exact V.jc h _ _
  ·cases h
 | .swin e a b,v,h=>by
  simp only[AT]at h;split at h
  ·rename_i x p q hx hp hq;obtain⟨w0,he,hx⟩:=Av.1 hx;obtain⟨w1,ha,hp⟩:=Av.1 hp;obtain⟨w2,hb,hq⟩:=Av.1 hq;cases h;simp only[E.den,BT ho e he,BT ho a ha,BT ho b hb,V.str?_den hx,V.int?_den hp,V.int?_den hq];rfl
  ·cases h
 | .app a b,v,h=>by
  simp only[AT]at h;split at h
  ·rename_i x y hx hy;simp only[E.den,BT ho a hx,BT ho b hy];exact V.ir h
  ·cases h
 | .set x i u,v,h=>by
  simp only[AT]at h;split at h
  ·rename_i y p w hy hp hw;obtain⟨w1,hi,hp⟩:=Av.1 hp;simp only[E.den,BT ho x hy,BT ho i hi,V.int?_den hp,BT ho u hw];exact V.jg h _
  ·cases h
 | .put x o u g,v,h=>by
  simp only[AT]at h;split at h
  ·rename_i y w hy hw;simp only[E.den,BT ho x hy,BT ho u hw];exact V.iu h
  ·cases h
 | .rep n z,v,h=>by
  simp only[AT]at h;split at h
  ·rename_i p w hp hw;obtain⟨w1,hi,hp⟩:=Av.1 hp;cases h;simp only[E.den,BT ho n hi,V.int?_den hp,BT ho z hw];exact(V.ig _ _ _).symm
  ·cases h
 | .conv k e,v,h=>by simp only[AT,As,Av]at h;obtain⟨p,⟨w,hw,hp⟩,rfl⟩:=h;simp only[E.den,BT ho e hw,V.int?_den hp,AV.conv,Wy]
 | .bin op a b,v,h=>by
  simp only[AT]at h;split at h
  ·rename_i p q hp hq;obtain⟨w1,ha,hp⟩:=Av.1 hp;obtain⟨w2,hb,hq⟩:=Av.1 hq;split at h
   ·rename_i hk;cases h;simp only[E.den,BT ho a ha,BT ho b hb,V.int?_den hp,V.int?_den hq,AV.bin,if_pos hk,zC1]
   ·cases h
  ·cases h
 | .sbin op a b,v,h=>by
  simp only[AT]at h;split at h
  ·rename_i p q hp hq;obtain⟨w1,ha,hp⟩:=Av.1 hp;obtain⟨w2,hb,hq⟩:=Av.1 hq;simp only[E.den,BT ho a ha,BT ho b hb,V.str?_den hp,V.str?_den hq,AV.sbin,zA9 h]
  ·cases h
 | .bbin op a b,v,h=>by
  simp only[AT]at h;split at h
  ·rename_i p q hp hq;obtain⟨w1,ha,hp⟩:=Av.1 hp;obtain⟨w2,hb,hq⟩:=Av.1 hq;simp only[E.den,BT ho a ha,BT ho b hb,V.bool?_den hp,V.bool?_den hq,AV.bbin];split at h<;>cases h<;>rfl
  ·cases h
 | .aeq a b,v,h=>by
  simp only[AT]at h;split at h
  ·rename_i x y hx hy;simp only[As]at h;obtain⟨c,hc,rfl⟩:=h;simp only[E.den,BT ho a hx,BT ho b hy,V.iy hc,WK]
  ·cases h
 | .not a,v,h=>by
  simp only[AT]at h;split at h
  ·rename_i b hb;cases h;simp only[E.den,Kn ho hb,AV.ek,WK]
  ·simp only[As,Av]at h;obtain⟨c,⟨w,hw,hc⟩,rfl⟩:=h;simp only[E.den,BT ho a hw,V.bool?_den hc,AV.ek,WK]
 | .neg a,v,h=>by simp only[AT,As,Av]at h;obtain⟨p,⟨w,hw,hp⟩,rfl⟩:=h;simp only[E.den,BT ho a hw,V.int?_den hp,AV.ic,Wy]
 | .ite c a b,v,h=>by
  simp only[AT]at h;split at h
  ·rename_i hc;simp only[E.den,Kn ho hc,AV.cond];exact BT ho a h
  ·rename_i hc;simp only[E.den,Kn ho hc,AV.cond];exact BT ho b h
  ·split at h
   ·cases h
   ·rename_i x hx;obtain⟨w,hw,hx⟩:=Av.1 hx;have hc:=BT ho c hw;rw[V.bool?_den hx]at hc;split at h
    ·rename_i hb;simp only[As,Av]at h;obtain⟨p,⟨w,hw,hp⟩,rfl⟩:=h;have h2:=E.az (env.map V.den) _ _ hb;simp only[E.den]at h2;simp only[E.den,hc,BT ho a hw,V.bool?_den hp,h2,WK];cases x<;>rfl
    ·split at h
     ·rename_i hb;simp only[As,Av]at h;obtain⟨p,⟨w,hw,hp⟩,rfl⟩:=h;have h2:=E.az (env.map V.den) _ _ hb;simp only[E.den]at h2;simp only[E.den,hc,BT ho b hw,V.bool?_den hp,h2,WK];cases x<;>rfl
     ·split at h
      ·rename_i t p q hp hq;simp only[As]at h;obtain⟨q',GO,rfl⟩:=h;simp only[E.den,hc,BT ho a hp,BT ho b hq,V.cm _ GO];cases x<;>rfl
      ·cases h
 | .bytes a,v,h=>by simp only[AT,As,Av]at h;obtain⟨p,⟨w,hw,hp⟩,rfl⟩:=h;simp[E.den,BT ho a hw,V.str?_den hp,AV.bytes,V.den,B3]
 | .text a,v,h=>by
  simp only[AT]at h;split at h
  ·rename_i ht;split at h
   ·rename_i x hx;simp only[As]at h;obtain⟨l,hl,rfl⟩:=h;have h1:=nR ht ho;have h2:=BT ho a hx;rw[V.cm _ hl]at h2;have key:∀l:List Int,M1 (l.map λn=>AV.int .u8 n)=some (l.map λn=>UInt8.ofNat n.toNat):=by
     intro l
     induction l with
     |nil=>rfl
     |cons n l ih=>simp[M1,ih]
    simp only[E.den,h2,AV.text,B3,zGq]at h1 ⊢;have key2:=key l;simp only[show(List.map (B3 T.av (.i .u8)) l)=l.map (λn=>AV.int .u8 n)from rfl,key2]at h1 ⊢;split at h1
    ·rename_i hle;rw[if_pos hle]
    ·simp at h1
   ·cases h
  ·cases h
termination_by e=>SizeOf.sizeOf e
decreasing_by all_goals first|(simp_wf;done)|(simp_wf;omega)|omega
theorem Ma{env:List (V T)}{fa:List (Fa T)}(ho:DI (env.map V.den) fa):∀(es:EL) {vs:VL T},Ju env fa es=some vs->es.den (env.map V.den)=vs.den
 | .nil,vs,h=>by cases h;rfl
 | .cons e es,vs,h=>by
  simp only[Ju]at h;split at h
  ·rename_i x xs hx Cl;cases h;simp only[EL.den,VL.den,BT ho e hx,Ma ho es Cl]
  ·cases h
termination_by es=>SizeOf.sizeOf es
decreasing_by all_goals first|(simp_wf;done)|(simp_wf;omega)|omega
end
end
section
inductive PT where
 |v (t:Ty)
 |rf (t:Ty)
 |rr (t:Ty)
 |fn (aa:List Ty) (r:Ty)
@[reducible] def P3(car:Nat->Type):PT->Type
 | .v t=>DZ car t
 | .rf t=>DZ car t
 | .rr t=>DZ car t
 | .fn aa r=>P2 car aa r
@[reducible] def HP(car:Nat->Type):List PT->Type
 | []=>Unit
 |p::ps=>P3 car p × HP car ps
def M4(t:Ty)(a:AV):AV:=if Xv t then .ref (.agg [a])else .ref a
mutual
inductive RT where
 |v (t:Ty)
 |bo (t:Ty)
 |tu (l:RL)
inductive RL where
 |nil
 |cons (r:RT) (l:RL)
end
mutual
@[reducible] def Im(car:Nat->Type):RT->Type
 | .v t=>DZ car t
 | .bo t=>DZ car t
 | .tu l=>N4 car l
@[reducible] def N4(car:Nat->Type):RL->Type
 | .nil=>Unit
 | .cons r .nil=>Im car r
 | .cons r (.cons q l)=>Im car r × N4 car (.cons q l)
end
section
variable (T:IZ)
def LG:(p:PT)->P3 T.car p->AV
 | .v t,x=>B3 T.av t x
 | .rf t,x=>M4 t (B3 T.av t x)
 | .rr t,x=> .ref (.agg [M4 t (B3 T.av t x)])
 | .fn _ _,c=> .fn c.g c.caps
def F5:(ps:List PT)->HP T.car ps->List AV
 | [],_=> []
 |p::ps,x=>LG T p x.1::F5 ps x.2
mutual
def GF:(r:RT)->Im T.car r->AV
 | .v t,x=>B3 T.av t x
 | .bo t,x=> .agg [B3 T.av t x]
 | .tu l,x=> .tup (NS l x)
def NS:(l:RL)->N4 T.car l->List AV
 | .nil,_=> []
 | .cons r .nil,x=> [GF r x]
 | .cons r (.cons q l),x=>GF r x.1::NS (.cons q l) x.2
end
def US:(p:PT)->P3 T.car p->Prop
 | .fn aa r,c=>uZ T aa r c
 |_,_=>True
def IX:(ps:List PT)->HP T.car ps->Prop
 | [],_=>True
 |p::ps,x=>US T p x.1/\IX ps x.2
structure FN where
 f:Nat
 ps:List PT
 r:RT
 φ:HP T.car ps->Option (Im T.car r)
 ok:∀xs y,IX T ps xs->φ xs=some y->T.Rt f (F5 T ps xs) (GF T r y)
 pl:Bool
 okp:pl=true-> ∀xs y,IX T ps xs->φ xs=some y->T.Rt (1000000+f) (F5 T ps xs) (GF T r y)
end
variable {T:IZ}
mutual
def vR:(r:RT)->Im T.car r->V T
 | .v t,x=> .v t x
 | .bo t,x=> .ag (.cons (.v t x) .nil)
 | .tu l,x=> .tu (Uw l x)
def Uw:(l:RL)->N4 T.car l->VL T
 | .nil,_=> .nil
 | .cons r .nil,x=> .cons (vR r x) .nil
 | .cons r (.cons q l),x=> .cons (vR r x.1) (Uw (.cons q l) x.2)
end
mutual
theorem Wv:∀(r:RT) (x:Im T.car r),(vR r x).den=GF T r x
 | .v t,x=>rfl
 | .bo t,x=>rfl
 | .tu l,x=>by simp only[vR,V.den,GF,sN l x]
theorem sN:∀(l:RL) (x:N4 T.car l),(Uw l x).den=NS T l x
 | .nil,_=>rfl
 | .cons r .nil,x=>by simp only[Uw,VL.den,NS,Wv r x]
 | .cons r (.cons q l),x=>by simp only[Uw,VL.den,NS,Wv r x.1,sN (.cons q l) x.2]
end
mutual
def Qm:(r:RT)->V T->Option (Im T.car r)
 | .v t,x=>x.to t
 | .bo t,x=>match x with
  | .ag (.cons y .nil)=>y.to t
  |_=>none
 | .tu l,x=>match x with
  | .tu vs=>Qu l vs.toL
  |_=>none
def Qu:(l:RL)->List (V T)->Option (N4 T.car l)
 | .nil,vs=>match vs with
  | []=>some ()
  |_=>none
 | .cons r .nil,vs=>match vs with
  | [x]=>Qm r x
  |_=>none
 | .cons r (.cons q l),vs=>match vs with
  |x::xs=>(match Qm r x,Qu (.cons q l) xs with
   |some a,some b=>some (a,b)
   |_,_=>none)
  |_=>none
end
mutual
theorem pQ:∀(r:RT) {v:V T} {x:Im T.car r},Qm r v=some x->v.den=GF T r x
 | .v t,v,x,h=>V.cm v h
 | .bo t,v,x,h=>by
  simp only[Qm]at h;split at h
  ·simp only[V.den,VL.den,GF,V.cm _ h]
  ·cases h
 | .tu l,v,x,h=>by
  simp only[Qm]at h;split at h
  ·rename_i vs;simp only[V.den,GF,<-zyp l h,VL.bj]
  ·cases h
theorem zyp:∀(l:RL) {vs:List (V T)} {x:N4 T.car l},Qu l vs=some x->vs.map V.den=NS T l x
 | .nil,vs,x,h=>by
  simp only[Qu]at h;split at h
  ·rfl
  ·cases h
 | .cons r .nil,vs,x,h=>by
  simp only[Qu]at h;split at h
  ·simp only[List.map_cons,List.map_nil,NS,pQ r h]
  ·cases h
 | .cons r (.cons q l),vs,x,h=>by
  simp only[Qu]at h;split at h
  ·split at h
   ·rename_i h1 h2;cases h;simp only[List.map_cons,NS,pQ r h1,zyp (.cons q l) h2]
   ·cases h
  ·cases h
end
@[reducible] def HS(car:Nat->Type):List Ty->Type
 | []=>Unit
 | [t]=>DZ car t
 |t::u::ts=>DZ car t × HS car (u::ts)
def Ho:(ts:List Ty)->HS T.car ts->List (V T)
 | [],_=> []
 | [t],x=> [.v t x]
 |t::u::ts,x=> .v t x.1::Ho (u::ts) x.2
def M0:(ts:List Ty)->List (V T)->Option (HS T.car ts)
 | [],vs=>match vs with
  | []=>some ()
  |_=>none
 | [t],vs=>match vs with
  | [x]=>x.to t
  |_=>none
 |t::u::ts,vs=>match vs with
  |x::xs=>(match x.to t,M0 (u::ts) xs with
   |some a,some b=>some (a,b)
   |_,_=>none)
  |_=>none
theorem aK:∀(ts:List Ty) {vs:List (V T)} {s:HS T.car ts},M0 ts vs=some s->vs.map V.den=(Ho ts s).map V.den
 | [],vs,s,h=>by
  simp only[M0]at h;split at h
  ·rfl
  ·cases h
 | [t],vs,s,h=>by
  simp only[M0]at h;split at h
  ·simp only[List.map_cons,List.map_nil,Ho,V.den,V.cm _ h]
  ·cases h
 |t::u::ts,vs,s,h=>by
  simp only[M0]at h;split at h
  ·split at h
   ·rename_i h1 h2;cases h;simp only[List.map_cons,Ho,V.den,V.cm _ h1,aK (u::ts) h2]
   ·cases h
  ·cases h
def Ty.lp:(xs ys:List Ty)->Option (PLift (xs=ys))
 | [],[]=>some ⟨rfl⟩
 |x::xs,y::ys=>match Ty.lk x y,Ty.lp xs ys with
  |some ⟨h⟩,some ⟨k⟩=>some ⟨by rw[h,k]⟩
  |_,_=>none
 |_,_=>none
def WD(f:Nat):List (FN T)->Option (FN T)
 | []=>none
 |e::l=>if e.f=f then some e else WD f l
theorem pC{f:Nat}:∀{l:List (FN T)} {e:FN T},WD f l=some e->e.f=f
 |d::l,e,h=>by
  simp only[WD]at h;split at h
  ·cases h;assumption
  ·exact pC h
def V.lj:V T->(t:Ty)->Option (DZ T.car t)
 | .rf x,t=>if Xv t then(match x with
  | .ag (.cons y .nil)=>y.to t
  |_=>none)else x.to t
 |_,_=>none
theorem V.fm:∀{w:V T} {t:Ty} {x:DZ T.car t},w.lj t=some x->w.den=M4 t (B3 T.av t x)
 | .rf y,t,x,h=>by
  simp only[V.lj]at h;split at h
  ·rename_i h1;split at h
   ·simp only[V.den,VL.den,M4,if_pos h1,V.cm _ h]
   ·cases h
  ·rename_i h1;simp only[V.den,M4,h1,V.cm _ h,AS,if_false]
 | .v _ _,_,x,h| .nl,_,x,h| .li _,_,x,h| .rp _ _,_,x,h| .ag _,_,x,h| .tu _,_,x,h| .cl _ _,_,x,h| .pf ..,_,x,h| .no,_,x,h=>by simp[V.lj]at h
def V.jx:V T->(t:Ty)->Option (DZ T.car t)
 | .rf (.ag (.cons y .nil)),t=>y.lj t
 |_,_=>none
theorem V.gb{w:V T}{t:Ty}{x:DZ T.car t}(h:w.jx t=some x):w.den= .ref (.agg [M4 t (B3 T.av t x)]):=by
 unfold V.jx at h;split at h
 ·simp only[V.den,VL.den,V.fm h]
 ·cases h
def Ih:(ps:List PT)->VL T->Option (HP T.car ps)
 | [], .nil=>some ()
 | .v t::ps, .cons x vs=>match x.to t,Ih ps vs with
  |some a,some b=>some (a,b)
  |_,_=>none
 | .rf t::ps, .cons x vs=>match x.lj t,Ih ps vs with
  |some a,some b=>some (a,b)
  |_,_=>none
 | .rr t::ps, .cons x vs=>match x.jx t,Ih ps vs with
  |some a,some b=>some (a,b)
  |_,_=>none
 |_,_=>none
theorem ZK:∀(ps:List PT) (vs:VL T) {x:HP T.car ps},Ih ps vs=some x->vs.den=F5 T ps x/\IX T ps x
 | [], .nil,x,h=>⟨rfl,trivial⟩
 | .v t::ps, .cons y vs,x,h=>by
  simp only[Ih]at h;split at h
  ·rename_i h1 h2;cases h;obtain⟨h3,h4⟩:=ZK ps vs h2;exact⟨by simp only[VL.den,F5,LG,V.cm _ h1,h3],trivial,h4⟩
  ·cases h
 | .rf t::ps, .cons y vs,x,h=>by
  simp only[Ih]at h;split at h
  ·rename_i h1 h2;cases h;obtain⟨h3,h4⟩:=ZK ps vs h2;exact⟨by simp only[VL.den,F5,LG,V.fm h1,h3],trivial,h4⟩
  ·cases h
 | .rr t::ps, .cons y vs,x,h=>by
  simp only[Ih]at h;split at h
  ·rename_i h1 h2;cases h;obtain⟨h3,h4⟩:=ZK ps vs h2;exact⟨by simp only[VL.den,F5,LG,V.gb h1,h3],trivial,h4⟩
  ·cases h
 | [], .cons _ _,x,h=>by simp[Ih]at h
 | .v _::_, .nil,x,h=>by simp[Ih]at h
 | .rf _::_, .nil,x,h=>by simp[Ih]at h
 | .rr _::_, .nil,x,h=>by simp[Ih]at h
 | .fn _ _::_,_,x,h=>by simp[Ih]at h
def K0:(ps:List PT)->(aa:List Ty)->VL T->Option (HL T.car aa->HP T.car ps)
 |ps,[],vs=>match Ih ps vs with
  |some h=>some λ_=>h
  |none=>none
 | .v t::ps,a::aa,vs=>match Ty.lk a t,K0 ps aa vs with
  |some ⟨h⟩,some k=>some λys=>(h▸ys.1,k ys.2)
  |_,_=>none
 |_,_,_=>none
theorem yU:∀(ps:List PT) (aa:List Ty) (vs:VL T) {k:HL T.car aa->HP T.car ps},K0 ps aa vs=some k-> ∀ys,Ij T.av aa ys++vs.den=F5 T ps (k ys)/\IX T ps (k ys)
 |ps,[],vs,k,h,ys=>by
  have h':(match Ih ps vs with|some h=>some λ_=>h|none=>none)=some k:=by
   cases ps with
   |nil=>simpa[K0]using h
   |cons p ps=>cases p<;>simpa[K0]using h
  split at h'
  ·rename_i x hx;cases h';obtain⟨h1,h2⟩:=ZK ps vs hx;exact⟨by simp[Ij,h1],h2⟩
  ·cases h'
 | .v t::ps,a::aa,vs,k,h,ys=>by
  simp only[K0]at h;split at h
  ·rename_i e k' _ hk;cases e;cases h;obtain⟨h1,h2⟩:=yU ps aa vs hk ys.2;exact⟨by simp only[Ij,List.cons_append,h1,F5,LG],trivial,h2⟩
  ·cases h
 | [],_::_,vs,k,h,ys=>by simp[K0]at h
 | .rf _::_,_::_,vs,k,h,ys=>by simp[K0]at h
 | .rr _::_,_::_,vs,k,h,ys=>by simp[K0]at h
 | .fn _ _::_,_::_,vs,k,h,ys=>by simp[K0]at h
def WL(e:FN T)(t:Ty):Option (HP T.car e.ps->Option (DZ T.car t)):=
 match e with
 |⟨_,_, .v u,φ,_,_,_⟩=>match Ty.lk u t with
  |some ⟨h⟩=>some (h▸φ)
  |none=>none
 |_=>none
theorem zCh{e:FN T}{t:Ty}{φ:HP T.car e.ps->Option (DZ T.car t)}(h:WL e t=some φ)(hp:e.pl=true){xs:HP T.car e.ps}{z:DZ T.car t}(hx:IX T e.ps xs)(hz:φ xs=some z):T.Rt (1000000+e.f) (F5 T e.ps xs) (B3 T.av t z):=by
 obtain⟨f,ps,r,φ0,ok,pl,okp⟩:=e;cases r with
 |tu l=>simp[WL]at h
 |bo u=>simp[WL]at h
 |v u=>
  simp only[WL]at h;split at h
  ·rename_i e _;cases e;cases h;exact okp hp xs z hx hz
  ·cases h
def gL(tb:List (FN T))(f:Nat)(vs:VL T)(aa:List Ty)(t:Ty):Option (P2 T.car aa t):=
 match WD f tb with
 |some e=>if e.pl=true then(match K0 e.ps aa vs,WL e t with
  |some k,some φ=>some ⟨λys=>φ (k ys),f,vs.den⟩
  |_,_=>none)else none
 |none=>none
theorem zE6{tb:List (FN T)}{f:Nat}{vs:VL T}{aa:List Ty}{t:Ty}{c:P2 T.car aa t}(h:gL tb f vs aa t=some c):c.g=f/\c.caps=vs.den/\US T (.fn aa t) c:=by
 unfold gL at h;split at h
 ·rename_i e he;split at h
  ·rename_i hp;split at h
   ·rename_i k φ hk hφ;cases h;refine⟨rfl,rfl,λys z hz=> ?_⟩;obtain⟨h1,h2⟩:=yU e.ps aa vs hk ys;have:=zCh hφ hp h2 hz;rw[pC he]at this;rw[show(P2.mk (λys=>φ (k ys)) f vs.den).caps=vs.den from rfl,h1];exact this
   ·cases h
  ·cases h
 ·cases h
def V.l7(tb:List (FN T))(w:V T):(p:PT)->Option (P3 T.car p)
 | .v t=>w.to t
 | .rf t=>w.lj t
 | .rr t=>w.jx t
 | .fn aa t=>match w with
  | .cl f vs=>gL tb f vs aa t
  | .pf bs u c _=>match Ty.lp bs aa,Ty.lk u t with
   |some ⟨h⟩,some ⟨e⟩=>some (h▸e▸c)
   |_,_=>none
  |_=>none
theorem V.ky{tb:List (FN T)}{w:V T}:∀{p:PT} {x:P3 T.car p},w.l7 tb p=some x->w.den=LG T p x/\US T p x
 | .v t,x,h=>⟨V.cm w h,trivial⟩
 | .rf t,x,h=>⟨V.fm h,trivial⟩
 | .rr t,x,h=>⟨V.gb h,trivial⟩
 | .fn aa t,x,h=>by
  simp only[V.l7]at h;split at h
  ·obtain⟨h1,h2,h3⟩:=zE6 h;exact⟨by simp only[V.den,LG,h1,h2],h3⟩
  ·rename_i bs u c hc;split at h
   ·rename_i h1 h2 _ _;cases h1;cases h2;cases h;exact⟨rfl,hc⟩
   ·cases h
  ·cases h
def Qv(tb:List (FN T)):VL T->(ps:List PT)->Option (HP T.car ps)
 | .nil,[]=>some ()
 | .cons x vs,p::ps=>match x.l7 tb p,Qv tb vs ps with
  |some a,some b=>some (a,b)
  |_,_=>none
 |_,_=>none
theorem sO{tb:List (FN T)}:∀{vs:VL T} {ps:List PT} {x:HP T.car ps},Qv tb vs ps=some x->vs.den=F5 T ps x/\IX T ps x
 | .nil,[],x,h=>⟨rfl,trivial⟩
 | .cons y vs,p::ps,x,h=>by
  simp only[Qv]at h;split at h
  ·rename_i h1 h2;cases h;obtain⟨h3,h4⟩:=V.ky h1;obtain⟨h5,h6⟩:=sO h2;exact⟨by simp only[VL.den,F5,h3,h5],h4,h6⟩
  ·cases h
 | .nil,_::_,x,h=>by simp[Qv]at h
 | .cons _ _,[],x,h=>by simp[Qv]at h
def vP:(p:PT)->(x:P3 T.car p)->US T p x->V T
 | .v t,x,_=> .v t x
 | .rf t,x,_=>if Xv t then .rf (.ag (.cons (.v t x) .nil))else .rf (.v t x)
 | .rr t,x,_=> .rf (.ag (.cons (if Xv t then .rf (.ag (.cons (.v t x) .nil))else .rf (.v t x)) .nil))
 | .fn aa r,c,h=> .pf aa r c h
def Xm:(ps:List PT)->(x:HP T.car ps)->IX T ps x->List (V T)
 | [],_,_=> []
 |p::ps,x,h=>vP p x.1 h.1::Xm ps x.2 h.2
theorem sU:∀(ps:List PT) (x:HP T.car ps) (h:IX T ps x),(Xm ps x h).map V.den=F5 T ps x
 | [],_,_=>rfl
 |p::ps,x,h=>by
  simp only[Xm,List.map_cons,F5,sU ps x.2 h.2];congr 1;cases p with
  |v t=>rfl
  |rf t=>simp only[vP,LG,M4];split<;>simp[V.den,VL.den]
  |rr t=>simp only[vP,LG,M4];split<;>simp[V.den,VL.den]
  |fn aa t=>rfl
end
section
variable {T:IZ}
mutual
theorem E.bz{n m:Nat}(hm:n<=m):∀(a:E),a.sc n=true->a.sc m=true
 |a,h=>by
  cases a<;>simp only[E.sc,Ab,AR]at h ⊢
  case var=>omega
  case lst|mk|tup|fn=>exact EL.bz hm _ h
  case ref|fld|proj|deref|len|slen|conv|not|neg|bytes|text=>exact E.bz hm _ h
  case idx|sidx|app|put|rep|bin|sbin|bbin|aeq=>exact⟨E.bz hm _ h.1,E.bz hm _ h.2⟩
  case win|swin|set|ite=>exact⟨⟨E.bz hm _ h.1.1,E.bz hm _ h.1.2⟩,E.bz hm _ h.2⟩
theorem EL.bz{n m:Nat}(hm:n<=m):∀(a:EL),a.sc n=true->a.sc m=true
 | .nil,_=>rfl
 | .cons a aa,h=>by simp only[EL.sc,Ab]at h ⊢;exact⟨E.bz hm _ h.1,EL.bz hm _ h.2⟩
end
theorem Fa.bz{n m:Nat}(hm:n<=m){f:Fa T}(h:f.sc n=true):f.sc m=true:=by
 cases f<;>simp only[Fa.sc,Ab]at h ⊢
 ·exact⟨E.bz hm _ h.1,E.bz hm _ h.2⟩
 ·exact⟨E.bz hm _ h.1,E.bz hm _ h.2⟩
 ·exact E.bz hm _ h
 ·exact E.bz hm _ h
inductive GS where
 |yes
 |no
 |ask (c:E)
def S9(fa:List (Fa T)):E->E
 | .not a=>S9 fa a
 | .ite c a b=>match Jo fa c with
  |none=>S9 fa c
  |some true=>S9 fa a
  |some false=>S9 fa b
 |e=>e
def SL(fa:List (Fa T)):Gd->GS
 | []=> .yes
 |(e,b)::gs=>match Jo fa e with
  |some v=>if v=b then SL fa gs else .no
  |none=>match SL fa gs with
   | .no=> .no
   |_=> .ask (S9 fa e)
theorem ZI{fa:List (Fa T)}{ρ:List AV}(ho:DI ρ fa):∀{gs:Gd},SL fa gs= .no-> ¬Bu ρ gs
 | [],h=>by cases h
 |(e,b)::gs,h=>by
  simp only[SL]at h;intro hg;have h1:=hg (e,b) (by simp);have h2:Bu ρ gs:=λg hm=>hg g (by simp[hm]);split at h
  ·rename_i v hv;split at h
   ·exact ZI ho h h2
   ·rename_i BF;have:=Kn ho hv;rw[this]at h1;cases h1;exact BF rfl
  ·split at h
   ·rename_i hn;exact ZI ho hn h2
   ·cases h
def V.sk:V T->SK->Bool
 | .v (.i k) _, .int k'=>k==k'
 | .v .b _, .bool=>true
 | .v .s _, .str=>true
 |_,_=>false
def Ql:List (V T)->List SK->Bool
 | [],[]=>true
 |v::vs,k::ks=>v.sk k&&Ql vs ks
 |_,_=>false
theorem tZ:∀{vs:List (V T)} {ks:List SK},Ql vs ks=true->(vs.map V.den).map AV.sk=ks.map some
 | [],[],_=>rfl
 |v::vs,k::ks,h=>by
  simp only[Ql,Ab]at h;simp only[List.map_cons,tZ h.2];congr 1;unfold V.sk at h;have h1:=h.1;split at h1
  ·simp only[AM]at h1;subst h1;rfl
  ·rfl
  ·rfl
  ·cases h1
 | [],_::_,h=>by simp[Ql]at h
 |_::_,[],h=>by simp[Ql]at h
def V.l6:V T->Bool
 | .rf _=>true
 | .cl _ _=>true
 | .pf .. =>true
 |x=>x.one
theorem V.kr{v:V T}(h:v.l6=true):(∀cs,v.den≠ .agg cs)/\ ∀cs,v.den≠ .tup cs:=by
 cases v with
 |rf x=>simp[V.den]
 |cl f vs=>simp[V.den]
 |pf=>simp[V.den]
 |v t x=>exact(V.one_cells (v:= .v t x) h).2
 |nl=>exact(V.one_cells (v:= .nl) rfl).2
 |li vs=>exact(V.one_cells (v:= .li vs) rfl).2
 |rp n z=>exact(V.one_cells (v:= .rp n z) rfl).2
 |ag|tu|no=>simp[V.l6,V.one]at h
def V.there:V T->Bool
 | .no=>false
 |_=>true
section
variable (env:List (V T)) (fa:List (Fa T))
def XE:Cn->Bool
 | .dfd x=>match AT env fa x with
  |some v=>v.there
  |none=>false
 | .agg x n=>match(AT env fa x).bind V.lv with
  |some l=>l.toL.length==n
  |none=>false
 | .cells x _=>match AT env fa x with
  |some v=>v.l6
  |none=>false
 | .isref x n=>match AT env fa x with
  |some (.rf y)=>(match y.nc with
   |some m=>decide (n<=m)
   |none=>false)
  |_=>false
 | .issl x sz=>match AT env fa x with
  |some v=>v.l4 sz
  |none=>false
 | .flat x n g=>match AT env fa x with
  |some v=>v.nc==some n&&v.flat&&(if g then v.lv.isSome else v.scalar)
  |none=>false
 | .flatS x sz=>match AT env fa x with
  |some v=>v.l4 sz&&v.gm
  |none=>false
 | .kinds x ks=>match(AT env fa x).bind V.lv with
  |some l=>Ql l.toL ks
  |none=>false
 | .inb i x sz=>match AT env fa (.idx x i)with
  |some v=>v.nc==some sz&&(WM fa i x)
  |none=>false
 | .inbS i x=>(S1 x i fa).isSome
 | .nz x=>match x with
  | .int _ n=>decide (n≠0)
  |_=>false
 | .nn x=>match x with
  | .int _ n=>decide (0<=n)
  |_=>false
 |_=>false
end
theorem V.iv{v:V T}(h:v.there=true):v.den≠ .undef:=by
 cases v with
 |v t x=>
  cases t with
  |st n=>simp only[V.den,B3];rw[T.gu];intro h;cases h
  |_=>intro h;cases h
 |no=>cases h
 |_=>intro h;cases h
theorem zz9{env:List (V T)}{fa:List (Fa T)}(ho:DI (env.map V.den) fa){c:Cn}(h:XE env fa c=true):c.den (env.map V.den):=by
 cases c<;>simp only[XE]at h
 case dfd x=>
  split at h
  ·rename_i v hv;simp only[Cn.den,BT ho x hv];exact V.iv h
  ·cases h
 case agg x n=>
  split at h
  ·rename_i l hl;obtain⟨v,hv,hl⟩:=Av.1 hl;exact⟨l.den,by rw[BT ho x hv,V.da hl],by rw[<-VL.dg];simpa using h⟩
  ·cases h
 case cells x n=>
  split at h
  ·rename_i v hv;simp only[Cn.den,BT ho x hv];exact V.kr h
  ·cases h
 case isref x n=>
  split at h
  ·rename_i y hv;split at h
   ·rename_i m hm;exact⟨y.den,BT ho x hv,by rw[V.eu hm];simpa using h⟩
   ·cases h
  ·cases h
 case issl x sz=>
  split at h
  ·rename_i v hv;simp only[Cn.den,BT ho x hv];exact V.gn h
  ·cases h
 case flat x n g=>
  split at h
  ·rename_i v hv;simp only[Ab,AM]at h;simp only[Cn.den,BT ho x hv];refine⟨V.eu h.1.1,V.ew h.1.2,λhg=> ?_,λhg=> ?_⟩
   ·rw[if_pos hg]at h;obtain⟨l,hl⟩:=Option.isSome_iff_exists.1 h.2;exact⟨_,V.da hl⟩
   ·rw[if_neg (by rw[hg];simp)]at h;exact V.dw h.2
  ·cases h
 case flatS x sz=>
  split at h
  ·rename_i v hv;simp only[Ab]at h;simp only[Cn.den,BT ho x hv];obtain⟨xs,h1,h2⟩:=V.gn h.1;obtain⟨ys,h3,h4⟩:=V.gl h.2;rw[h1]at h3;cases h3;exact⟨xs,h1,λy hy=>⟨h2 y hy,h4 y hy⟩⟩
  ·cases h
 case kinds x ks=>
  split at h
  ·rename_i l hl;obtain⟨v,hv,hl⟩:=Av.1 hl;exact⟨l.den,by rw[BT ho x hv,V.da hl],by rw[<-VL.bj];exact tZ h⟩
  ·cases h
 case inb i x sz=>
  split at h
  ·rename_i v hv;simp only[Ab,AM]at h;obtain⟨xs,k,n,h1,h2,h3,h4⟩:=zxR ho h.2;have h5:=BT ho (.idx x i) hv;simp only[E.den,h1,h2,AV.idx]at h5;refine⟨k,n,xs.length,h2,h3,by rw[h1];rfl,h4,?_⟩;rw[h1,h5];exact V.eu h.1
  ·cases h
 case inbS i x=>
  obtain⟨y,hy⟩:=Option.isSome_iff_exists.1 h;obtain⟨k,n,s,h1,h2,h3,h4,_⟩:=Z1 hy ho;exact⟨k,n,s,h1,h2,h3,h4⟩
 case nz x=>
  split at h
  ·rename_i k n;exact⟨k,n,rfl,by simpa using h⟩
  ·cases h
 case nn x=>
  split at h
  ·rename_i k n;exact⟨k,n,rfl,by simpa using h⟩
  ·cases h
 all_goals cases h
def Tr.jl:Tr->Nat
 | .ite _ a b=>a.jl+b.jl
 | .cc _ _ k=>k.jl
 | .call _ _ _ k=>k.jl
 | .ca _ _ k=>k.jl
 | .join t k=>t.jl+k.jl+1
 | .loop _ b k=>b.jl+k.jl+1
 |_=>0
abbrev JT(T:IZ)(X:Type):=List (Fa T)->VL T->Option X
def Tb{X σ:Type}(j:JT T X):JT T (σ ⊕ Option X):=λfa vs=>some (.inr (j fa vs))
def ask{X:Type}(env:List (V T))(fa:List (Fa T))(c:E)(go:List (Fa T)->Option X):Option X:=
 match(AT env fa c).bind V.bool? with
 |some x=>if x=true then go (LN env.length fa c true)else go (LN env.length fa c false)
 |none=>none
def Qr(n:Nat)(fa:List (Fa T))(f:Fa T):List (Fa T):=if f.sc n then f::fa else fa
noncomputable def gH{X:Type}(env:List (V T))(fa:List (Fa T))(c:Cn)(go:List (Fa T)->Option X):Option X:=
 match c with
 | .inb i x sz=>match(AT env fa x).bind V.mc,(AT env fa i).bind V.int? with
  |some ⟨t,xs⟩,some p=>if Xl T t=sz then(Am xs p.2).bind λy=>go (Qr env.length fa (.ix x i (.v t y)))else none
  |_,_=>none
 | .inbS i x=>match(AT env fa x).bind V.str?,(AT env fa i).bind V.int? with
  |some s,some p=>(Am s p.2).bind λy=>go (Qr env.length fa (.sx x i y))
  |_,_=>none
 | .win x a b=>match(AT env fa x).bind V.gk,(AT env fa a).bind V.int?,(AT env fa b).bind V.int? with
  |some m,some p,some q=>AK (0<=p.2/\p.2<=q.2/\q.2<=m) (go fa)
  |_,_,_=>none
 | .winS x a b=>match(AT env fa x).bind V.str?,(AT env fa a).bind V.int?,(AT env fa b).bind V.int? with
  |some s,some p,some q=>AK (0<=p.2/\p.2<=q.2/\q.2<=(s.length:Int)) (go fa)
  |_,_,_=>none
 | .room x y bytes=>match(AT env fa x).bind V.gk,(AT env fa y).bind V.gk with
  |some m,some k=>AK ((m+k)*bytes<=140737488355328/\m+k<=140737488355328) (go fa)
  |_,_=>none
 | .roomS x y=>match(AT env fa x).bind V.str?,(AT env fa y).bind V.str? with
  |some a,some b=>AK (a.length+b.length<=9223372036854775807) (go fa)
  |_,_=>none
 | .mkroom n bytes=>match(AT env fa n).bind V.int? with
  |some p=>AK (0<=p.2/\p.2*bytes<=140737488355328/\p.2<=140737488355328) (go fa)
  |none=>none
 | .nz x=>match(AT env fa x).bind V.int? with
  |some p=>AK (p.2≠0) (go fa)
  |none=>none
 | .nn x=>match(AT env fa x).bind V.int? with
  |some p=>AK (0<=p.2) (go fa)
  |none=>none
 | .dfd (.text y)=>match AT env fa y with
  |some v=>(match v.to (.l (.i .u8))with
   |some l=>AK (l.length<=9223372036854775807) (go (Qr env.length fa (.tx y)))
   |none=>none)
  |none=>none
 |_=>none
inductive JM where
 |inl
 |pt
 |sp (ts:List Ty)
def Xr(n:Nat)(fa:List (Fa T)):List (Fa T):=fa.filter λf=>f.sc n
noncomputable def CE(tb:List (FN T)):Nat->{X:Type}->(V T->Option X)->Tr->List JM->List (V T)->List (Fa T)->List (JT T X)->Option X
 |0,_,_,_,_,_,_,_=>none
 |n+1,X,rt,t,h,env,fa,js=>match t with
  | .ret r=>match AT env fa r with
   |some v=>rt v
   |none=>none
  | .jmp d es=>match js[d]?,Ju env fa es with
   |some j,some vs=>j fa vs
   |_,_=>none
  | .ite c a b=>match Jo fa c with
   |some true=>CE tb n rt a h env fa js
   |some false=>CE tb n rt b (h.drop a.jl) env fa js
   |none=>match(AT env fa c).bind V.bool? with
    |some x=>if x=true then CE tb n rt a h env (LN env.length fa c true) js else CE tb n rt b (h.drop a.jl) env (LN env.length fa c false) js
    |none=>ask env fa (S9 fa c) λfa=>CE tb n rt t h env fa js
  | .cc gs c k=>match SL fa gs with
   | .no=>CE tb n rt k h env fa js
   | .yes=>(match XE env fa c with
    |true=>CE tb n rt k h env fa js
    |false=>gH env fa c λfa=>CE tb n rt k h env fa js)
   | .ask a=>(match XE env fa c with
    |true=>CE tb n rt k h env fa js
    |false=>ask env fa a λfa=>CE tb n rt t h env fa js)
  | .call gs f args k=>match SL fa gs with
   | .no=>CE tb n rt k h (env++ [.no]) fa js
   | .ask a=>ask env fa a λfa=>CE tb n rt t h env fa js
   | .yes=>match f with
    | .inl g=>(match WD g tb,Ju env fa args with
     |some e,some vs=>(match Qv tb vs e.ps with
      |some xs=>(e.φ xs).bind λy=>CE tb n rt k h (env++ [vR e.r y]) fa js
      |none=>none)
     |_,_=>none)
    | .inr x=>(match x with
     | .var i=>(match env[i]? with
      |some (.pf aa r c _)=>if qE T r then(match(Ju env fa args).bind λvs=>vs.kp aa with
       |some ys=>(c.φ ys).bind λy=>CE tb n rt k h (env++ [.v r y]) fa js
       |none=>none)else none
      |_=>none)
     |_=>none)
  | .join t k=>match h with
   | .sp ts::h=>uI (σ:=HS T.car ts) (CE tb n (λv=>some (.inr (rt v))) t h env fa ((λ_ vs=>match M0 ts vs.toL with
     |some s=>some (.inl s)
     |none=>none)::js.map Tb)) λs=>CE tb n rt k (h.drop t.jl) (env++Ho ts s) fa js
   | .pt::h=>CE tb n rt t h env fa ((λ_ vs=>CE tb n rt k (h.drop t.jl) (env++vs.toL) fa js)::js)
   |h=>CE tb n rt t h.tail env fa ((λfa' vs=>CE tb n rt k (h.tail.drop t.jl) (env++vs.toL) (Xr env.length fa') js)::js)
  | .loop i b k=>match h with
   | .sp ts::h=>(match(Ju env fa i).bind λvs=>M0 ts vs.toL with
    |some s=>Au (σ:=HS T.car ts) (λs=>CE tb n (λv=>some (.inr (rt v))) b h (env++Ho ts s) fa ((λ_ vs=>match M0 ts vs.toL with
      |some s=>some (.inl s)
      |none=>none)::(λ_ vs=>some (.inr (CE tb n rt k (h.drop b.jl) (env++vs.toL) fa js)))::js.map Tb)) s
    |none=>none)
   |_=>none
  |_=>none
end
section
variable {T:IZ}
inductive HJ(ρ:List AV){X:Type}(x:X):List (JT T X)->List JK->Prop where
 |nil:HJ ρ x [] []
 |cons {j:JT T X} {jk:JK} {js jks}:(∀fa vs τ,DI (ρ++τ) fa->(∀f∈fa,f.sc (ρ++τ).length=true)->j fa vs=some x->jk vs.den)->HJ ρ x js jks->HJ ρ x (j::js) (jk::jks)
theorem HJ.get{ρ:List AV}{X:Type}{x:X}{js:List (JT T X)}{jks:List JK}(h:HJ ρ x js jks):∀{d:Nat} {j:JT T X},js[d]?=some j-> ∃jk,jks[d]?=some jk/\ ∀fa vs τ,DI (ρ++τ) fa->(∀f∈fa,f.sc (ρ++τ).length=true)->j fa vs=some x->jk vs.den:=by
 induction h with
 |nil=>intro d j hd;simp at hd
 |cons h1 _ ih=>
  intro d j hd;cases d with
  |zero=>simp at hd;subst hd;exact⟨_,rfl,h1⟩
  |succ d=>simpa using ih (by simpa using hd)
theorem HJ.ext{ρ σ:List AV}{X:Type}{x:X}{js:List (JT T X)}{jks:List JK}(h:HJ ρ x js jks):HJ (ρ++σ) x js jks:=by
 induction h with
 |nil=>exact .nil
 |cons h1 _ ih=>exact .cons (λfa vs τ ha hs hj=>h1 fa vs (σ++τ) (by rwa[<-List.append_assoc]) (by rwa[<-List.append_assoc]) hj) ih
theorem HJ.lift{ρ:List AV}{X σ:Type}{x:X}{js:List (JT T X)}{jks:List JK}(h:HJ ρ x js jks):HJ ρ (.inr (some x):σ ⊕ Option X) (js.map Tb) jks:=by
 induction h with
 |nil=>exact .nil
 |cons h1 _ ih=>exact .cons (λfa vs τ ha hs hj=>h1 fa vs τ ha hs (by simpa[Tb]using hj)) ih
theorem HJ.kj{ρ:List AV}{X σ:Type}{x:X}{s:σ}{js:List (JT T X)}{jks:List JK}(h:HJ ρ x js jks):HJ ρ (.inl s:σ ⊕ Option X) (js.map Tb) jks:=by
 induction h with
 |nil=>exact .nil
 |cons h1 _ ih=>exact .cons (λfa vs τ ha hs hj=>by simp[Tb]at hj) ih
theorem Pv{ρ τ:List AV}{fa:List (Fa T)}(ho:DI ρ fa)(hs:∀f∈fa,f.sc ρ.length=true):DI (ρ++τ) fa/\ ∀f∈fa,f.sc (ρ++τ).length=true:=
 ⟨λf hf=>Fa.move (τ:=[]) (hs f hf) (by simpa using ho f hf),λf hf=>Fa.bz (by simp) (hs f hf)⟩
theorem zDr{ρ τ τ':List AV}{fa:List (Fa T)}(ho:DI (ρ++τ) fa):DI (ρ++τ') (Xr ρ.length fa)/\ ∀f∈Xr ρ.length fa,f.sc (ρ++τ').length=true:=by
 constructor
 ·intro f hf;obtain⟨h1,h2⟩:=List.mem_filter.1 hf;exact Fa.move h2 (ho f h1)
 ·intro f hf;obtain⟨h1,h2⟩:=List.mem_filter.1 hf;exact Fa.bz (by simp) h2
theorem pL{ρ:List AV}{fa:List (Fa T)}{f:Fa T}(ho:DI ρ fa)(hs:∀g∈fa,g.sc ρ.length=true)(hf:f.OK ρ):DI ρ (Qr ρ.length fa f)/\ ∀g∈Qr ρ.length fa f,g.sc ρ.length=true:=by
 unfold Qr;split
 ·rename_i hc;exact⟨λg hg=>by rcases Ae.1 hg with rfl|hg;exact hf;exact ho g hg,λg hg=>by rcases Ae.1 hg with rfl|hg;exact hc;exact hs g hg⟩
 ·exact⟨ho,hs⟩
section
variable {env:List (V T)} {fa:List (Fa T)} {X:Type} {x:X}
theorem zFL(ho:DI (env.map V.den) fa)(hs:∀f∈fa,f.sc env.length=true){c:E}{go:List (Fa T)->Option X}(h:ask env fa c go=some x):∃fa',DI (env.map V.den) fa'/\(∀f∈fa',f.sc env.length=true)/\go fa'=some x:=by
 unfold ask at h;split at h
 ·rename_i b hb;obtain⟨v,hv,hb⟩:=Av.1 hb;have hc:c.den (env.map V.den)= .bool b:=by rw[BT ho c hv,V.bool?_den hb]
  cases b with
  |true=>rw[if_pos rfl]at h;exact⟨_,Wp ho hc,Wq hs,h⟩
  |false=>rw[if_neg (by simp)]at h;exact⟨_,Wp ho hc,Wq hs,h⟩
 ·cases h
theorem L7(ho:DI (env.map V.den) fa){e:E}{p:IntKind × Int}(h:(AT env fa e).bind V.int?=some p):e.den (env.map V.den)= .int p.1 p.2:=by obtain⟨v,hv,hp⟩:=Av.1 h;rw[BT ho e hv,V.int?_den (k:=p.1) (n:=p.2) hp]
theorem aS(ho:DI (env.map V.den) fa){e:E}{s:List UInt8}(h:(AT env fa e).bind V.str?=some s):e.den (env.map V.den)= .str s:=by obtain⟨v,hv,hp⟩:=Av.1 h;rw[BT ho e hv,V.str?_den hp]
theorem pM(ho:DI (env.map V.den) fa){e:E}{m:Int}(h:(AT env fa e).bind V.gk=some m):(e.den (env.map V.den)).len= .int .i64 m:=by obtain⟨v,hv,hp⟩:=Av.1 h;obtain⟨xs,h1,h2⟩:=V.fq hp;rw[BT ho e hv,h1,<-h2];rfl
theorem zCW(ho:DI (env.map V.den) fa)(hs:∀f∈fa,f.sc env.length=true){c:Cn}{go:List (Fa T)->Option X}(h:gH env fa c go=some x):c.den (env.map V.den)/\ ∃fa',DI (env.map V.den) fa'/\(∀f∈fa',f.sc env.length=true)/\go fa'=some x:=by
 have hl:(env.map V.den).length=env.length:=by simp
 have A5:∀f∈fa,f.sc (env.map V.den).length=true:=by rwa[hl]
 unfold gH at h;split at h
 case h_1 i y sz=>
  split at h
  ·rename_i t xs p hx hp;split at h
   ·rename_i ht;obtain⟨z,hz,h⟩:=K6 h;obtain⟨h1,h2,h3⟩:=Xs hz;obtain⟨vx,Xe,hx2⟩:=Av.1 hx;have DW:=(BT ho y Xe).trans (V.jm hx2);have BR:=L7 ho hp;have Qk:(xs.map (B3 T.av t))[p.2.toNat]?=some (B3 T.av t z):=by rw[List.getElem?_map,h3];rfl
    refine⟨⟨p.1,p.2,xs.length,BR,h1,by rw[DW];simp[AV.len],h2,?_⟩,?_⟩
    ·rw[DW];simp only[AV.nth,Qk,Dg];rw[NF,ht]
    ·rw[<-hl]at h;obtain⟨g1,g2⟩:=pL (f:= .ix y i (.v t z)) ho A5 ⟨p.1,p.2,_,BR,DW,h1,by simpa using h2,Qk⟩;rw[hl]at g1 g2;exact⟨_,g1,g2,by rw[hl]at h;exact h⟩
   ·cases h
  ·cases h
 case h_2 i y=>
  split at h
  ·rename_i s p hx hp;obtain⟨z,hz,h⟩:=K6 h;obtain⟨h1,h2,h3⟩:=Xs hz;have DW:=aS ho hx;have BR:=L7 ho hp;refine⟨⟨p.1,p.2,s,BR,DW,h1,h2⟩,?_⟩;rw[<-hl]at h;obtain⟨g1,g2⟩:=pL (f:= .sx y i z) ho A5 ⟨p.1,p.2,_,BR,DW,h1,h2,h3⟩;rw[hl]at g1 g2;exact⟨_,g1,g2,by rw[hl]at h;exact h⟩
  ·cases h
 case h_3 y a b=>
  split at h
  ·rename_i m p q hm hp hq;obtain⟨hr,h⟩:=F7 h;exact⟨⟨_,_,_,_,m,L7 ho hp,L7 ho hq,pM ho hm,hr.1,hr.2.1,hr.2.2⟩,fa,ho,hs,h⟩
  ·cases h
 case h_4 y a b=>
  split at h
  ·rename_i s p q hm hp hq;obtain⟨hr,h⟩:=F7 h;exact⟨⟨_,_,_,_,s,L7 ho hp,L7 ho hq,aS ho hm,hr.1,hr.2.1,hr.2.2⟩,fa,ho,hs,h⟩
  ·cases h
 case h_5 a b bytes=>
  split at h
  ·rename_i m k hm hk;obtain⟨hr,h⟩:=F7 h;exact⟨⟨m,k,pM ho hm,pM ho hk,hr.1,hr.2⟩,fa,ho,hs,h⟩
  ·cases h
 case h_6 a b=>
  split at h
  ·rename_i m k hm hk;obtain⟨hr,h⟩:=F7 h;exact⟨⟨m,k,aS ho hm,aS ho hk,hr⟩,fa,ho,hs,h⟩
  ·cases h
 case h_7 a bytes=>
  split at h
  ·rename_i p hp;obtain⟨hr,h⟩:=F7 h;exact⟨⟨p.1,p.2,L7 ho hp,hr.1,hr.2.1,hr.2.2⟩,fa,ho,hs,h⟩
  ·cases h
 case h_8 a=>
  split at h
  ·rename_i p hp;obtain⟨hr,h⟩:=F7 h;exact⟨⟨p.1,p.2,L7 ho hp,hr⟩,fa,ho,hs,h⟩
  ·cases h
 case h_9 a=>
  split at h
  ·rename_i p hp;obtain⟨hr,h⟩:=F7 h;exact⟨⟨p.1,p.2,L7 ho hp,hr⟩,fa,ho,hs,h⟩
  ·cases h
 case h_10 y=>
  split at h
  ·rename_i v hv;split at h
   ·rename_i l Iz;obtain⟨hr,h⟩:=F7 h;have h2:=BT ho y hv;rw[V.cm _ Iz]at h2;have key:∀l:List Int,M1 (l.map λn=>AV.int .u8 n)=some (l.map λn=>UInt8.ofNat n.toNat):=by
     intro l
     induction l with
     |nil=>rfl
     |cons n l ih=>simp[M1,ih]
    have ht:(y.den (env.map V.den)).text≠ .undef:=by rw[h2];simp only[AV.text,B3,show(List.map (B3 T.av (.i .u8)) l)=l.map (λn=>AV.int .u8 n)from rfl,key l,List.length_map];rw[if_pos hr];intro h;cases h
    refine⟨by simpa[Cn.den,E.den]using ht,?_⟩;rw[<-hl]at h;obtain⟨g1,g2⟩:=pL (f:= .tx y) ho A5 ht;rw[hl]at g1 g2;exact⟨_,g1,g2,by rw[hl]at h;exact h⟩
   ·cases h
  ·cases h
 case h_11=>cases h
end
theorem E3(tb:List (FN T)){R:AV->Prop}{L:LK}:∀(n:Nat) {X:Type} {rt:V T->Option X} {t:Tr} {h:List JM} {env:List (V T)} {fa:List (Fa T)} {js:List (JT T X)} {jks:List JK} {x:X},
  DI (env.map V.den) fa->(∀f∈fa,f.sc env.length=true)->(∀v,rt v=some x->R v.den)->HJ (env.map V.den) x js jks->CE tb n rt t h env fa js=some x->t.den T.Rt R L jks (env.map V.den)
 |0,_,_,_,_,_,_,_,_,_,_,_,_,_,e=>by simp[CE]at e
 |n+1,X,rt,t,h,env,fa,js,jks,x,ho,hs,hr,hj,e=>by
  have hl:(env.map V.den).length=env.length:=by simp
  have A5:∀f∈fa,f.sc (env.map V.den).length=true:=by rwa[hl]
  have Lg:∀{c:E},(ask env fa c λfa=>CE tb n rt t h env fa js)=some x->t.den T.Rt R L jks (env.map V.den):=λe=>by obtain⟨fa',h1,h2,h3⟩:=zFL ho hs e;exact E3 tb n h1 h2 hr hj h3
  cases t with
  |leaf|stuck|ca=>simp[CE]at e
  |ret r=>
   simp only[CE]at e;split at e
   ·rename_i v hv;show R (r.den _);rw[BT ho r hv];exact hr v e
   ·cases e
  |jmp d es=>
   simp only[CE]at e;split at e
   ·rename_i j vs hd hv;obtain⟨jk,hk,hq⟩:=hj.get hd;show match jks[d]? with|some j=>j (es.den _)|none=>False
    rw[hk,Ma ho es hv];exact hq fa vs [] (by simpa using ho) (by simpa using hs) e
   ·cases e
  |ite c a b=>
   simp only[CE]at e;split at e
   ·rename_i hc;exact⟨true,Kn ho hc,λ_=>E3 tb n ho hs hr hj e,λh=>by cases h⟩
   ·rename_i hc;exact⟨false,Kn ho hc,λh=>(by cases h),λ_=>E3 tb n ho hs hr hj e⟩
   ·split at e
    ·rename_i y hy;obtain⟨v,hv,hy⟩:=Av.1 hy;have hc:c.den (env.map V.den)= .bool y:=by rw[BT ho c hv,V.bool?_den hy]
     cases y with
     |true=>rw[if_pos rfl]at e;exact⟨true,hc,λ_=>E3 tb n (Wp ho hc) (Wq hs) hr hj e,λh=>by cases h⟩
     |false=>rw[if_neg (by simp)]at e;exact⟨false,hc,λh=>(by cases h),λ_=>E3 tb n (Wp ho hc) (Wq hs) hr hj e⟩
    ·exact Lg e
  |cc gs c k=>
   simp only[CE]at e;split at e
   ·rename_i hg;exact⟨λh=>absurd h (ZI ho hg),E3 tb n ho hs hr hj e⟩
   ·split at e
    ·rename_i hc;exact⟨λ_=>zz9 ho hc,E3 tb n ho hs hr hj e⟩
    ·obtain⟨hc,fa',h1,h2,h3⟩:=zCW ho hs e;exact⟨λ_=>hc,E3 tb n h1 h2 hr hj h3⟩
   ·split at e
    ·rename_i hc;exact⟨λ_=>zz9 ho hc,E3 tb n ho hs hr hj e⟩
    ·exact Lg e
  |call gs f args k=>
   simp only[CE]at e;split at e
   ·rename_i hg;refine⟨.undef,λh=>absurd h (ZI ho hg),?_⟩;obtain⟨h1,h2⟩:=Pv (τ:=[AV.undef]) ho A5;have:=E3 tb n (R:=R) (L:=L) (env:=env++ [.no]) (by simpa[V.den]using h1) (by simpa using h2) hr (by simpa[V.den]using hj.ext (σ:=[AV.undef])) e;simpa[V.den]using this
   ·exact Lg e
   ·split at e
    ·rename_i g;split at e
     ·rename_i d vs hd hv;split at e
      ·rename_i xs Cl;obtain⟨y,hy,e⟩:=K6 e;obtain⟨g1,g2⟩:=sO Cl;refine⟨GF T d.r y,λ_=> ?_,?_⟩
       ·show T.Rt g (args.den _) _;rw[Ma ho args hv,g1,<-pC hd];exact d.ok xs y g2 hy
       ·obtain⟨h1,h2⟩:=Pv (τ:=[GF T d.r y]) ho A5;have:=E3 tb n (R:=R) (L:=L) (env:=env++ [vR d.r y]) (by simpa[Wv]using h1) (by simpa using h2) hr (by simpa[Wv]using hj.ext (σ:=[GF T d.r y])) e;simpa[Wv]using this
      ·cases e
     ·cases e
    ·rename_i z;split at e
     ·rename_i i;split at e
      ·rename_i aa r c hc hi;split at e
       ·rename_i B7;split at e
        ·rename_i ys Dp;obtain⟨vs,hv,Dp⟩:=Av.1 Dp;obtain⟨y,hy,e⟩:=K6 e;refine⟨B3 T.av r y,λ_=>⟨c.g,c.caps,?_,?_,Pt B7 y⟩,?_⟩
         ·simp only[E.den,List.getElem?_map,hi];rfl
         ·rw[Ma ho args hv,VL.fj vs Dp];exact hc ys y hy
         ·obtain⟨h1,h2⟩:=Pv (τ:=[B3 T.av r y]) ho A5;have:=E3 tb n (R:=R) (L:=L) (env:=env++ [.v r y]) (by simpa[V.den]using h1) (by simpa using h2) hr (by simpa[V.den]using hj.ext (σ:=[B3 T.av r y])) e;simpa[V.den]using this
        ·cases e
       ·cases e
      ·cases e
     ·cases e
  |join a k=>
   have inl:∀h',CE tb n rt a h' env fa ((λfa' vs=>CE tb n rt k (h'.drop a.jl) (env++vs.toL) (Xr env.length fa') js)::js)=some x->(Tr.join a k).den T.Rt R L jks (env.map V.den):=by intro h' e;show a.den T.Rt R L _ _;refine E3 tb n ho hs hr (.cons (λfa' vs τ h1 h2 h3=> ?_) hj) e;have hf:=zDr (τ':=vs.den) h1;rw[hl]at hf;have:=E3 tb n (R:=R) (L:=L) (env:=env++vs.toL) (by simpa[VL.bj]using hf.1) (by have:=hf.2;simpa[VL.dg]using this) hr (by simpa[VL.bj]using hj.ext (σ:=vs.den)) h3;simpa[VL.bj]using this
   cases h with
   |nil=>exact inl [] (by simpa[CE]using e)
   |cons o h=>
    cases o with
    |inl=>exact inl h (by simpa[CE]using e)
    |pt=>simp only[CE]at e;show a.den T.Rt R L _ _;refine E3 tb n ho hs hr (.cons (λfa' vs τ h1 h2 h3=> ?_) hj) e;obtain⟨h4,h5⟩:=Pv (τ:=vs.den) ho A5;have:=E3 tb n (R:=R) (L:=L) (env:=env++vs.toL) (by simpa[VL.bj]using h4) (by simpa[VL.dg]using h5) hr (by simpa[VL.bj]using hj.ext (σ:=vs.den)) h3;simpa[VL.bj]using this
    |sp ts=>
     simp only[CE]at e;show a.den T.Rt R L _ _;unfold uI at e;split at e
     ·cases e
     ·rename_i s BM;have hk:k.den T.Rt R L jks (env.map V.den++(Ho ts s).map V.den):=by
       obtain⟨h1,h2⟩:=Pv (τ:=(Ho ts s).map V.den) ho A5;have:=E3 tb n (R:=R) (L:=L) (env:=env++Ho ts s) (by simpa using h1) (by simpa using h2) hr (by simpa using hj.ext (σ:=(Ho ts s).map V.den)) e;simpa using this
      refine E3 tb n ho hs (λv hv=>by simp at hv) (.cons (λfa' vs τ h1 h2 h3=> ?_) hj.kj) BM;split at h3
      ·rename_i s' A5;simp only[Ad,Sum.inl.injEq]at h3;subst h3;rw[<-VL.bj,aK ts A5];exact hk
      ·cases h3
     ·rename_i o W5;subst e;refine E3 tb n ho hs (λv hv=>hr v (by simpa using hv)) (.cons (λfa' vs τ h1 h2 h3=> ?_) hj.lift) W5;split at h3<;>simp at h3
  |loop i b k=>
   cases h with
   |nil=>simp[CE]at e
   |cons o h=>
    cases o with
    |inl|pt=>simp[CE]at e
    |sp ts=>
     simp only[CE]at e;split at e
     ·rename_i s Uc;obtain⟨vs,hv,BM⟩:=Av.1 Uc;clear Uc;obtain⟨m,hm⟩:=ZB.1 e;refine⟨m,?_⟩;rw[Ma ho i hv,<-VL.bj,aK ts BM];clear BM e hv Lg;have fx:∀s:HS T.car ts,DI ((env++Ho ts s).map V.den) fa/\(∀f∈fa,f.sc (env++Ho ts s).length=true)/\HJ ((env++Ho ts s).map V.den) x js jks:=λs=>by
       obtain⟨h1,h2⟩:=Pv (τ:=(Ho ts s).map V.den) ho A5;exact⟨by simpa using h1,by simpa using h2,by simpa using hj.ext (σ:=(Ho ts s).map V.den)⟩
      have hA:∀(vs:VL T),CE tb n rt k (h.drop b.jl) (env++vs.toL) fa js=some x->k.den T.Rt R L jks (env.map V.den++vs.den):=λvs h3=>by obtain⟨h4,h5⟩:=Pv (τ:=vs.den) ho A5;have:=E3 tb n (R:=R) (L:=L) (env:=env++vs.toL) (by simpa[VL.bj]using h4) (by simpa[VL.dg]using h5) hr (by simpa[VL.bj]using hj.ext (σ:=vs.den)) h3;simpa[VL.bj]using this
      induction m generalizing s with
      |zero=>cases hm
      |succ m ihm=>
       obtain⟨h1,h2,h3⟩:=fx s;show b.den T.Rt R L _ _;rw[<-List.map_append];simp only[FH]at hm;split at hm
       ·cases hm
       ·rename_i s' hb;refine E3 tb n h1 h2 (λv hv=>by simp at hv) (.cons (λfa' vs τ q1 q2 q3=> ?_) (.cons (λfa' vs τ q1 q2 q3=>by simp at q3) h3.kj)) hb;split at q3
        ·rename_i s2 A8;simp only[Ad,Sum.inl.injEq]at q3;subst q3;rw[<-VL.bj,aK ts A8];exact ihm _ hm
        ·cases q3
       ·rename_i o hb;subst hm;refine E3 tb n h1 h2 (λv hv=>hr v (by simpa using hv)) (.cons (λfa' vs τ q1 q2 q3=> ?_) (.cons (λfa' vs τ q1 q2 q3=> ?_) h3.lift)) hb
        ·split at q3<;>simp at q3
        ·exact hA vs (by simpa using q3)
     ·cases e
end
section
structure Fix where
 w0:World
 A:Al
 Mu:Nat->Prop
 lq:∀t v,A.pin t=some v->NV t=true
def G5(F:Fix)(ρ:List AV)(σ:St)(a:Act)(w:World):Prop:=
 ∃c:Cx,c.ρ=ρ/\c.w=w/\c.w0=F.w0/\c.A=F.A/\c.Mu=F.Mu/\ρ.length=σ.nv/\(∀t,c.U t->t<σ.nx)/\Rel c σ.sl.length (BS σ) (AL σ.hp) a
def Xt.ex:Xt->Exit
 | .normal=> .normal
 | .exit i=> .exit i
 | .ret=> .ret
section
variable (P:Program) (sg:B1) (Rt:Nat->List AV->AV->Prop)
def zyC:Prop:= ∀(id:Nat) (ops:Array Oper) (draw:Bool) (σ:St) (t:Tr),uE ops=false->σ.sc=true->(σ.hp.all λ(t,_)=>decide (t<σ.nx))=true->
 Ml P sg ops draw σ.nx (List.range ops.size) [] σ=some t-> ∀(F:Fix) (R:AV->Prop) (L:LK) (js:List JK) (ρ:List AV) (a:Act) (w:World),Kw L->t.den Rt R L js ρ->G5 F ρ σ a w->
 ∀Q,(∀i x τ ρ' a' w',ρ<+:ρ'->L (i++js) x τ ρ'->G5 F ρ' τ a' w'->Q x.ex a' w')->(Code.region id ops draw).wp P Q a w
def bE:Prop:= ∀(F:Fix) (nv:Nat) (pat τ:St) (es:List E) (ρ ρ':List AV) (a:Act) (w:World),KG nv pat τ=some es->ρ.length=nv->ρ<+:ρ'->G5 F ρ' τ a w->G5 F (ρ++(EL.of es).den ρ') pat a w
end
section
variable {P:Program} {sg:B1} {Rt:Nat->List AV->AV->Prop} {rs:Nat}
theorem G5.cu{F:Fix}{ρ:List AV}{σ:St}{a:Act}{w:World}(h:G5 F ρ σ a w){x:Operand}{s:SV}(hx:BL (BS σ) [] x=some s):∃c:Cx,c.ρ=ρ/\SR c [s] [a.eval x]:=by obtain⟨c,rfl,_,_,_,_,_,_,hr⟩:=h;exact⟨c,rfl,Zp hx (λt _=>hr.cz t) (E1 _)⟩
theorem xD{run:St->Option Tr}{nv live:Nat}{σ:St}:∀(n:Nat) (p:St × Nat) {pat:St} {t:Tr},Wi run nv live σ n p=some (pat,t)->run pat=some t
 |0,p,pat,t,h=>by simp[Wi]at h
 |n+1,p,pat,t,h=>by
  simp only[Wi]at h;split at h
  ·cases h
  ·rename_i t' ht;split at h
   ·simp at h;obtain⟨rfl,rfl⟩:=h;exact ht
   ·exact xD n _ h
theorem sR{i js:List JK}{j:JK}{d:Nat}(h:d=i.length):(i++j::js)[d]?=some j:=by subst h;simp
theorem zDK{i js:List JK}{j k:JK}{d:Nat}(h:d=i.length):(i++j::k::js)[d+1]?=some k:=by subst h;rw[List.getElem?_append_right (by omega)];simp
def IQ(P:Program)(sg:B1)(Rt:Nat->List AV->AV->Prop)(rs:Nat)(c:Code):Prop:=
 ∀(ex:List (Nat × Nat)) (l:Nat) (σ:St) (t:Tr),EC P sg rs c ex l σ=some t-> ∀(F:Fix) (R:AV->Prop) (L:LK) (js:List JK) (ρ:List AV) (a:Act) (w:World),Kw L->t.den Rt R L js ρ->G5 F ρ σ a w->
  ∀Q,(∀i x τ ρ' a' w',ρ<+:ρ'->L (i++js) x τ ρ'->G5 F ρ' τ a' w'->Q x.ex a' w')->c.wp P Q a w
theorem IQ.leaf{c:Code}(h:IQ P sg Rt rs c){ex:List (Nat × Nat)}{l:Nat}{σ:St}{t:Tr}(he:EC P sg rs c ex l σ=some t){F:Fix}{R:AV->Prop}{L:LK}{js:List JK}{ρ:List AV}{a:Act}{w:World}(hL:Kw L)(hd:t.den Rt R L js ρ)(hr:G5 F ρ σ a w)
  {Q:Exit->Act->World->Prop} (hq:∀i x τ ρ' a' w',ρ<+:ρ'->t.ed x τ->L (i++js) x τ ρ'->G5 F ρ' τ a' w'->Q x.ex a' w'):c.wp P Q a w:=
 h ex l σ t he F R (λjs x τ ρ=>t.ed x τ/\L js x τ ρ) js ρ a w (λ_ _ _ _ _ hj hh=>⟨hh.1,hL _ _ _ _ _ hj hh.2⟩) (t.eg hd (Ef.refl js) λ_ _ _ _ _ hf hi hl=>⟨hf,hL _ _ _ _ _ (hi.app (Ef.refl js)) hl⟩) hr Q λi x τ ρ' a' w' hp hh hs=>hq i x τ ρ' a' w' hp hh.1 hh.2 hs
theorem zyN{id:Nat}{b:Code}(ih:IQ P sg Rt rs b):IQ P sg Rt rs (.block id b):=by
 intro ex l σ t he F R L js ρ a w hL hd hr Q hq;simp only[EC,Av]at he;obtain⟨t0,h0,hs⟩:=he;have h1:=Tr.ee _ hL t0 hs hd;refine wp_block (ih _ _ _ _ h0 F R _ js ρ a w (VU hL _ _) h1 hr _ λi x τ ρ' a' w' hp hl hrel=> ?_);obtain⟨r,d',e1,e2,e3⟩:=hl;simp only[Ad]at e1;subst e1;have:=hq i _ τ ρ' a' w' hp e3 hrel;cases x with
 |normal=>exact this
 |ret=>exact this
 |exit j=>
  simp only[Xt.ex,Exit.inBlock]at this ⊢;split
  ·rename_i hj;simpa[hj,Xt.ex]using this
  ·rename_i hj;simpa[hj,Xt.ex]using this
theorem zDd(hi:bE){x y:Code}(ihx:IQ P sg Rt rs x)(ihy:IQ P sg Rt rs y):IQ P sg Rt rs (.seq x y):=by
 intro ex l σ t he F R L js ρ a w hL hd hr Q hq;simp only[EC]at he;split at he
 ·cases he
 ·rename_i t0 h0;refine wp_seq ?_;split at he
  ·rename_i hn;simp at he;subst he;refine ihx.leaf h0 hL hd hr λi x τ ρ' a' w' hp hf hl hrel=> ?_;cases x with
   |normal=>have:=hf.norm;rw[hn]at this;simp at this
   |exit j=>exact hq i _ τ ρ' a' w' hp hl hrel
   |ret=>exact hq i _ τ ρ' a' w' hp hl hrel
  ·rename_i τ0 hn;split at he
   ·cases he
   ·rename_i k hk;have h1:=Tr.ee _ hL t0 he hd;refine ihx.leaf h0 (VU hL _ _) h1 hr λi x τ ρ' a' w' hp hf hl hrel=> ?_;obtain⟨r,d',e1,e2,e3⟩:=hl;simp only[Ad]at e1;subst e1;cases x with
    |normal=>have:=hf.norm;rw[hn]at this;simp at this;subst this;exact ihy _ _ _ _ hk F R L _ ρ' a' w' hL e3 hrel Q λi' x' τ' ρ'' a'' w'' hp' BH Dc=>hq (i'++i) x' τ' ρ'' a'' w'' (hp.trans hp') (by simpa using BH) Dc
    |exit j=>exact hq i _ τ ρ' a' w' hp e3 hrel
    |ret=>exact hq i _ τ ρ' a' w' hp e3 hrel
  ·split at he
   ·cases he
   ·rename_i pat hpat
    split at he
    ·cases he
    ·rename_i k hk;obtain⟨t',MR,rfl⟩:=As.1 he;have h1:=Tr.ee _ hL t0 MR hd;refine ihx _ _ _ _ h0 F R _ _ ρ a w (VU hL _ _) h1 hr _ λi x τ ρ' a' w' hp hl hrel=> ?_;obtain⟨r,d',e1,e2,e3⟩:=hl;cases x with
     |normal=>
      obtain⟨es,It,rfl⟩:=As.1 e1;have Lk:d'=i.length:=by simp only[AP,A3]at e2;omega
      simp only[Tr.den,sR Lk]at e3;obtain⟨c0,Ci,_,_,_,_,Gl,_⟩:=hr;have Dc:=hi F _ pat τ es ρ ρ' a' w' It Gl hp hrel;refine ihy _ _ _ _ hk F R L js _ a' w' hL e3 Dc Q λi' x' τ' ρ'' a'' w'' hp' BH Dc=>hq i' x' τ' ρ'' a'' w'' ((List.prefix_append _ _).trans hp') BH Dc
     |exit j=>simp only[Ad]at e1;subst e1;exact hq (i++ [_]) _ τ ρ' a' w' hp (by simpa[Tr.den]using e3) hrel
     |ret=>simp only[Ad]at e1;subst e1;exact hq (i++ [_]) _ τ ρ' a' w' hp (by simpa[Tr.den]using e3) hrel
theorem zAY{x:Operand}{p q:Code}(ihp:IQ P sg Rt rs p)(ihq:IQ P sg Rt rs q):IQ P sg Rt rs (.cond x p q):=by
 intro ex l σ t he F R L js ρ a w hL hd hr Q hq;simp only[EC]at he;split at he
 ·rename_i hx;obtain⟨c,rfl,hs⟩:=hr.cu hx;have:a.eval x= .bool true:=by
   generalize a.eval x=v at hs;cases hs with
   |e h1 _ _=>exact IM h1 rfl
  exact wp_cond_true this (ihp _ _ _ _ he F R L js _ a w hL hd hr Q hq)
 ·rename_i hx;obtain⟨c,rfl,hs⟩:=hr.cu hx;have:a.eval x= .bool false:=by
   generalize a.eval x=v at hs;cases hs with
   |e h1 _ _=>exact IM h1 rfl
  exact wp_cond_false this (ihq _ _ _ _ he F R L js _ a w hL hd hr Q hq)
 ·rename_i y _ _ hx;split at he
  ·rename_i ta tb MT Xc;simp at he;subst he;obtain⟨b,hb,d1,d2⟩:=hd;obtain⟨c,rfl,hs⟩:=hr.cu hx;have:a.eval x= .bool b:=by
    generalize a.eval x=v at hs;cases hs with
    |e h1 _ _=>exact IM h1 hb
   exact wp_cond_split this (λhh=>ihp _ _ _ _ MT F R L js _ a w hL (d1 hh) hr Q hq) (λhh=>ihq _ _ _ _ Xc F R L js _ a w hL (d2 hh) hr Q hq)
  ·cases he
 ·cases he
theorem UH{p:Nat->Prop}(h:∃n,p n):∃n,p n/\ ∀m,p m->n<=m:=by
 obtain⟨n,hn⟩:=h
 induction n using Nat.strongRecOn with
 |_ n ih=>
  by_cases hh:∃m,m<n/\p m
  ·obtain⟨m,hm,hp⟩:=hh;exact ih m hm hp
  ·exact⟨n,hn,λm hm=>Nat.le_of_not_lt λAH=>hh ⟨m,AH,hm⟩⟩
theorem zzZ(hi:bE){b:Code}(ih:IQ P sg Rt rs b):IQ P sg Rt rs (.loop b):=by
 intro ex l σ tr he F R L js ρ a w hL hd hr Q hq;simp only[EC]at he;split at he
 ·cases he
 ·rename_i pat t El;have AQ:=xD _ _ El;split at he
  ·cases he
  ·rename_i i0 hi0;obtain⟨k,f,t',BZ,htr,Iu,On,hk⟩:∃(k:Tr) (f:Nat->Xt->St->Option Tr) (t':Tr),t.sub f 0=some t'/\tr= .loop (EL.of i0) t' k/\
     (∀d τ,f d .normal τ=(KG σ.nv pat τ).map λes=> .jmp d (EL.of es))/\
     (∀d x τ r,x≠ .normal->f d x τ=some r->r= .leaf x τ\/ ∃post es,k= .leaf x post/\KG σ.nv post τ=some es/\r= .jmp (d+1) (EL.of es))/\True:=by
    split at he
    ·obtain⟨t',MR,rfl⟩:=As.1 he;refine⟨_,_,t',MR,rfl,λ_ _=>rfl,λd x τ r hx hr=> .inl ?_,trivial⟩;cases x with
     |normal=>exact absurd rfl hx
     |exit j=>simpa using hr.symm
     |ret=>simpa using hr.symm
    ·rename_i id hid;split at he
     ·cases he
     ·rename_i post rS;obtain⟨t',MR,rfl⟩:=As.1 he;refine⟨_,_,t',MR,rfl,λ_ _=>rfl,λd x τ r hx hr=> ?_,trivial⟩;cases x with
      |normal=>exact absurd rfl hx
      |exit j=>
       simp only at hr;split at hr
       ·rename_i hj;subst hj;obtain⟨es,It,rfl⟩:=As.1 hr;exact .inr ⟨post,es,rfl,It,rfl⟩
       ·exact .inl (by simpa using hr.symm)
      |ret=>exact .inl (by simpa using hr.symm)
   subst htr;obtain⟨n0,rO⟩:=hd;obtain⟨c0,Ci,hc2,hc3,hc4,hc5,Gl,hc7,hc8⟩:=id hr;generalize D8:(λ(W:JK) (vs:List AV)=>t'.den Rt R L (W::(λus=>k.den Rt R L js (ρ++us))::js) (ρ++vs))=body at rO;let J:Nat->Act->World->Prop:=λn a w=> ∃vs,Jl body n vs/\G5 F (ρ++vs) pat a w;have hJ0:J n0 a w:=⟨_,rO,hi F _ pat σ i0 ρ ρ a w hi0 Gl (List.prefix_refl _) hr⟩
   classical
   let μ:Act->World->Nat:=λa w=>if h:∃n,J n a w then Classical.choose (UH h)else 0;refine wp_loop (λa w=> ∃n,J n a w) μ ⟨n0,hJ0⟩ λa1 w1 hI=> ?_;have hμ:μ a1 w1=Classical.choose (UH hI):=by simp only[μ];rw[dif_pos hI]
   have hJ:=(Classical.choose_spec (UH hI)).1;rw[hμ];generalize Classical.choose (UH hI)=m at hJ;obtain⟨vs,KE,hrel⟩:=hJ;cases m with
   |zero=>exact KE.elim
   |succ m=>
    have hb:t'.den Rt R L (Jl body m::(λus=>k.den Rt R L js (ρ++us))::js) (ρ++vs):=by have h9:Jl body (m+1) vs=body (Jl body m) vs:=rfl;rw[h9]at KE;have:=congrFun (congrFun D8 (Jl body m)) vs;rw[<-this]at KE;exact KE
    have h1:=Tr.ee _ hL t BZ hb;refine ih _ _ _ _ AQ F R _ _ _ a1 w1 (VU hL _ _) h1 hrel _ λi x τ ρ' a' w' hp hl Dc=> ?_;obtain⟨r,d',e1,e2,e3⟩:=hl;have Lk:d'=i.length:=by simp only[AP,A3]at e2;omega
    have hp':ρ<+:ρ':=(List.prefix_append _ _).trans hp;by_cases hx:x= .normal
    ·subst hx;rw[Iu]at e1;obtain⟨es,It,rfl⟩:=As.1 e1;simp only[Tr.den,sR Lk]at e3;have WT:J m a' w':=⟨_,e3,hi F _ pat τ es ρ ρ' a' w' It Gl hp' Dc⟩
     refine⟨⟨m,WT⟩,?_⟩;simp only[μ];rw[dif_pos ⟨m,WT⟩];exact Nat.lt_succ_of_le ((Classical.choose_spec (UH ⟨m,WT⟩)).2 _ WT)
    ·have Uh:Q x.ex a' w'->Exit.then (λa' w'=>(∃n,J n a' w')/\μ a' w'<m+1) Q x.ex a' w':=by
      cases x with
      |normal=>exact absurd rfl hx
      |exit j=>exact id
      |ret=>exact id
     apply Uh;rcases On _ _ _ _ hx e1 with rfl|⟨post,es,rfl,It,rfl⟩
     ·exact hq (i++ [_,_]) x τ ρ' a' w' hp' (by simpa[Tr.den]using e3) Dc
     ·simp only[Tr.den,zDK Lk]at e3;have:=hi F _ post τ es ρ ρ' a' w' It Gl hp' Dc;exact hq [] x post _ a' w' (List.prefix_append _ _) e3 this
theorem zzr(hr:zyC P sg Rt)(hi:bE):∀c,IQ P sg Rt rs c:=by
 intro c
 induction c with
 |skip=>intro ex l σ t he F R L js ρ a w hL hd hr Q hq;simp only[EC,Ad]at he;subst he;exact wp_skip (hq [] _ _ _ _ _ (List.prefix_refl _) hd hr)
 |label=>intro ex l σ t he F R L js ρ a w hL hd hr Q hq;simp only[EC,Ad]at he;subst he;exact wp_label (hq [] _ _ _ _ _ (List.prefix_refl _) hd hr)
 |ret=>intro ex l σ t he F R L js ρ a w hL hd hr Q hq;simp only[EC,Ad]at he;subst he;exact wp_ret (hq [] _ _ _ _ _ (List.prefix_refl _) hd hr)
 |exit id=>intro ex l σ t he F R L js ρ a w hL hd hr Q hq;simp only[EC,Ad]at he;subst he;exact wp_exit (hq [] _ _ _ _ _ (List.prefix_refl _) hd hr)
 |region id ops draw=>
  intro ex l σ t he F R L js ρ a w hL hd hrel Q hq;simp only[EC]at he;split at he
  ·simp at he;subst he;exact hd.elim
  ·rename_i hp;split at he
   ·cases he
   ·rename_i hs;simp only[Bool.or_eq_true,Bg,not_or,Bool.not_eq_false]at hs;exact hr id ops draw σ t (by simpa using hp) hs.1 hs.2 he F R L js ρ a w hL hd hrel Q hq
 |scope b ih=>intro ex l σ t he F R L js ρ a w hL hd hr Q hq;simp only[EC]at he;refine wp_scope_straight (ih _ _ _ _ he F R L js ρ a w hL hd hr _ λi x τ ρ' a' w' hp hl hrel=> ?_);have:=hq i x τ ρ' a' w' hp hl hrel;cases x<;>exact this
 |cond x p q ihp ihq=>exact zAY ihp ihq
 |block id b ih=>exact zyN ih
 |seq x y ihx ihy=>exact zDd hi ihx ihy
 |loop b ih=>exact zzZ hi ih
 |_=>intro ex l σ t he;simp[EC]at he
end
end
end Go.Proofs.YtalagilebkaegaaGreat

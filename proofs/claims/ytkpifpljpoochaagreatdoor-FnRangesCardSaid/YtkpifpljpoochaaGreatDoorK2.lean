/- Parts of a proof, joined: VG, VH, VI, VJ, VY, LO, TA, TB, TC, TD, TE, VZ. -/
import Derived.Test.YtkpifpljpoochaaGreatDoorK1
import Derived.WalkKit
import Derived.WalkLawsBesides
import Derived.Scope
set_option linter.unusedVariables false
set_option linter.unusedSimpArgs false
namespace Go.Proofs.YtkpifpljpoochaaGreatDoor
open Go.RowKit
section
theorem Dp.{u}{α:Type u}{i:Nat}{l:List α}:(l.drop i).length=l.length-i:=List.length_drop
theorem Bt(b:Bool):((!b)=true)=(b=false):=Bool.not_eq_true' b
theorem BC.{u}{α:Type u}{a b:α}:(some a).getD b=a:=rfl
theorem A0.{u}{α:Type u}{p:α->Bool}{l:List α}:l.all p=true↔∀x,x∈l->p x=true:=List.all_eq_true
theorem BX:(false=true)=False:=Bool.false_eq_true
theorem Aq.{u,v}{α:Type u}{β:Type v}{b:β}{x:Option α}{f:α->β}:x.map f=some b↔∃a,x=some a/\f a=b:=Option.map_eq_some_iff
theorem Aa.{u,v}{α:Type u}{β:Type v}(a:α)(f:α->Option β):(some a).bind f=f a:=rfl
structure GI where
 top:List Nat
 O:List Nat
def GI.own(g:GI):List Nat:=g.top++g.O
def Bc(ρ:List AV)(gs:Gd):Prop:= ∀g∈gs,g.1.den ρ= .bool g.2
structure Al where
 ok:Nat->Prop
 pin:Nat->Option Value
 lo:Value->AV->Prop
instance:CoeFun Al (λ_=>Nat->Prop):=⟨Al.ok⟩
structure Cx where
 ρ:List AV
 w:World
 G:Nat->GI
 K:Nat->Nat->Prop
 H:Nat->Nat->Value
 A:Al
 w0:World
 Mu:Nat->Prop
 U:Nat->Prop
 E:Nat->Nat
def Cx.B(c:Cx):Nat:=c.w0.heap.size
def Cx.M(c:Cx)(b:Nat):Prop:= ∃t,b∈(c.G t).top
def Cx.ok(c:Cx)(b:Nat):Prop:= ¬c.M b/\(c.A b\/c.B<=b\/c.Mu b)
def Cp(ρ:List AV)(o:Option Ah)(e:Ah):Prop:=match o with
 |some (.gd gs e')=>Bc ρ gs/\e'=e
 |some e'=>e'=e
 |none=>False
def PZ(_:World)(f:List Nat):Prop:=f=[]
def HO(c:Cx)(t g:Nat)(p:L8)(v:Value):Prop:=match p with
 |none=>True
 |some (i,z,o)=> ∃b n cap C ty fz kk k,c.H t g= .slice (some ⟨b,0,none⟩) n cap/\b∈(c.G t).top/\c.w.heap[b]?=some (.cells C ty fz)/\i.den c.ρ= .int kk k/\0<=k/\k<n/\C[k.toNat*z+o]?=some v
def PX(c:Cx)(t:Nat)(v:Value)(x:AV):Prop:= ∃f,Rd c.w [v] [x] f/\ ∀b∈f,c.ok b\/b∈(c.G t).top
inductive SR(c:Cx):List SV->List Value->Prop where
 |nil:SR c [] []
 |undef {v ss vs}:SR c ss vs->SR c (.undef::ss) (v::vs)
 |e {x v f ss vs}:Rd c.w [v] [x.den c.ρ] f->(∀b∈f,c.ok b)->SR c ss vs->SR c (.e x::ss) (v::vs)
 |bq {ss vs}:SR c ss vs->SR c (.bq::ss) (.slice none 0 0::vs)
 |emp {a ss vs}:SR c ss vs->SR c (.emp::ss) (.slice a 0 0::vs)
 |own {t g p q r ss vs}:c.K t g->c.H t g= .slice p q r->SR c ss vs->SR c (.own t g::ss) (.slice p q r::vs)
 |ca {t o b ss vs}:c.K t 0->c.H t 0= .pointer (some ⟨b,0,none⟩)->SR c ss vs->SR c (.ca t o::ss) (.pointer (some ⟨b,o,none⟩)::vs)
 |cd {t g:Nat} {i:E} {sz o b n cap kk} {k:Int} {ss vs}:c.K t g->c.H t g= .slice (some ⟨b,0,none⟩) n cap->i.den c.ρ= .int kk k->0<=k->k<n->SR c ss vs->
   SR c (.cd t g i sz o::ss) (.pointer (some ⟨b,k.toNat*sz+o,none⟩)::vs)
 |cz {x i:E} {sz o b off n cap:Nat} {f kk} {k:Int} {ss vs}:Rd c.w [.slice (some ⟨b,off,none⟩) n cap] [x.den c.ρ] f->(∀b∈f,c.ok b)->i.den c.ρ= .int kk k->0<=k->k<n->((x.den c.ρ).nth k.toNat).cells.length=sz->
   SR c ss vs->SR c (.cz x i sz o::ss) (.pointer (some ⟨b,off+k.toNat*sz+o,none⟩)::vs)
 |c7 {x:E} {o b:Nat} {f ss vs}:Rd c.w [.pointer (some ⟨b,0,none⟩)] [x.den c.ρ] f->(∀b∈f,c.ok b)->SR c ss vs->SR c (.c7 x o::ss) (.pointer (some ⟨b,o,none⟩)::vs)
 |agg {cs as_ ss vs}:(∀u∈as_,u.oneCell'=true)->SR c cs.toList as_->SR c ss vs->SR c (.agg cs::ss) (.agg as_.toArray::vs)
 |tup {cs as_ ss vs}:SR c cs.toList as_->SR c ss vs->SR c (.tup cs::ss) (.tuple as_.toArray::vs)
 |fn {g cs as_ ss vs}:SR c cs.toList as_->SR c ss vs->SR c (.fn g cs::ss) (.func (.func g) #[] as_.toArray::vs)
 |gd {gs s v ss vs}:(Bc c.ρ gs->SR c [s] [v])->(¬Bc c.ρ gs->v=undef)->SR c ss vs->SR c (.gd gs s::ss) (v::vs)
 |via {t g n p x v ss vs}:c.K t g->n<=c.E t->(c.E t=n->PX c t v (x.den c.ρ)/\HO c t g p v)->SR c ss vs->SR c (.via t g n p x::ss) (v::vs)
 |vptr {t g n p x i sz o v ss vs}:c.K t g->n<=c.E t->(c.E t=n-> ∃(b off len cap:Nat) (kk:IntKind) (k:Int),PX c t (.slice (some ⟨b,off,none⟩) len cap) (x.den c.ρ)/\HO c t g p (.slice (some ⟨b,off,none⟩) len cap)/\i.den c.ρ= .int kk k/\0<=k/\k<len/\
   ((x.den c.ρ).nth k.toNat).cells.length=sz/\v= .pointer (some ⟨b,off+k.toNat*sz+o,none⟩))->SR c ss vs->SR c (.vptr t g n p x i sz o::ss) (v::vs)
 |wown {t g:Nat} {lo:E} {sz:Nat} {q:Option Addr} {n cap:Nat} {q':Option Addr} {r:Nat} {kk:IntKind} {k:Int} {ss vs}:c.K t g->c.H t g= .slice q n cap->lo.den c.ρ= .int kk k->0<=k->k<=n->(k<n-> ∃b,q=some ⟨b,0,none⟩/\q'=some ⟨b,k.toNat*sz,none⟩/\r=cap-k.toNat)->SR c ss vs->SR c (.wown t g lo sz::ss) (.slice q' (n-k.toNat) r::vs)
 |lent {i v ss vs}:c.A.lo v ((E.var i).den c.ρ)->SR c ss vs->SR c (.lent i::ss) (v::vs)
def sK(c:Cx)(e z:Nat)(l:List DT)(v:Value)(x i:AV)(o u:Nat)(N:List Nat):Prop:=
 ∃(b cap:Nat) (C:Array Value) (ys:List AV) (kk:IntKind) (k:Int) (N1 N2:List Nat),v= .slice (some ⟨b,0,none⟩) ys.length cap/\x= .sl ys/\i= .int kk k/\0<=k/\k<ys.length/\o<z/\0<z/\l.length=z/\c.w.heap[b]?=some (.cells C e (0,0))/\ys.length<=cap/\cap<=maxLen/\C.size=cap*z/\(∀y∈ys,y.cells.length=z)/\
  (∀w∈C.toList.take (ys.length*z),w.oneCell'=true)/\N=b::(N1++N2)/\c.K u 0/\C[k.toNat*z+o]?=some (c.H u 0)/\
  DC c.w ((Ci ys.length l).take (k.toNat*z+o)) ((C.toList.take (ys.length*z)).take (k.toNat*z+o)) ((AA ys).take (k.toNat*z+o)) N1/\
  DC c.w ((Ci ys.length l).drop (k.toNat*z+o+1)) ((C.toList.take (ys.length*z)).drop (k.toNat*z+o+1)) ((AA ys).drop (k.toNat*z+o+1)) N2
def sG(c:Cx)(e z:Nat)(l:List DT)(v:Value)(x k:AV)(N:List Nat):Prop:=
 ∃(p:Option Addr) (cap:Nat) (ys:List AV) (kk:IntKind) (kv:Nat),v= .slice p ys.length cap/\x= .sl ys/\k= .int kk kv/\kv<=ys.length/\ys.length<=cap/\DC c.w [.row e z (AG.of l)] [.slice p kv cap] [.sl (ys.take kv)] N
def C3(c:Cx)(t:Nat):Ah->Prop
 | .box ty _ cs=> ∃b C,c.K t 0/\c.H t 0= .pointer (some ⟨b,0,none⟩)/\(c.G t).top=[b]/\(c.G t).O=[]/\c.w.heap[b]?=some (.cells C ty (0,0))/\(∀u∈C.toList,u.oneCell'=true)/\SR c cs C.toList
 | .row ety sz g x d=>c.K t g/\(∀g',c.K t g'->g'<=g)/\ ∃N,CQ c.w ety sz (c.H t g) (x.den c.ρ) (c.G t).top N/\(∀b∈N,c.ok b)/\(d=true->PZ c.w N/\(c.G t).O=N)/\(d=false->(c.G t).O=[])
 | .bh g x=>c.K t g/\(∃f,Rd c.w [c.H t g] [x.den c.ρ] f/\ ∀b∈f,c.ok b)/\(c.G t).top=[]/\(c.G t).O=[]
 | .gd .. =>(c.G t).top=[]/\(c.G t).O=[]
 | .dead=>(c.G t).top=[]/\(c.G t).O=[]
 | .deep e z l g ep x=>c.K t g/\(∀g',c.K t g'->g'<=g)/\c.E t=ep/\DC c.w [.row e z (AG.of l)] [c.H t g] [x.den c.ρ] (c.G t).top/\(c.G t).O=[]
 | .hol e z l g ep x i o u=>c.K t g/\(∀g',c.K t g'->g'<=g)/\c.E t=ep/\sK c e z l (c.H t g) (x.den c.ρ) (i.den c.ρ) o u (c.G t).top/\(c.G t).O=[]
 | .pre e z l g ep x k=>c.K t g/\(∀g',c.K t g'->g'<=g)/\c.E t=ep/\sG c e z l (c.H t g) (x.den c.ρ) (k.den c.ρ) (c.G t).top/\(c.G t).O=[]
structure GW(c:Cx):Prop where
 nodup:∀t,(c.G t).own.Nodup
 cc:∀t u,t≠u-> ∀b∈(c.G t).own,b∉(c.G u).own
 allow:∀t,∀b∈(c.G t).own,c.B<=b\/c.Mu b
 inb:∀t,∀b∈(c.G t).own,b<c.w.heap.size
structure PR(c:Cx):Prop where
 os:c.w.os=c.w0.os
 tape:c.w.tape=c.w0.tape
 output:c.w.output=c.w0.output
 size:c.w0.heap.size<=c.w.heap.size
 pins:∀t v,c.A.pin t=some v->c.U t/\(c.K t 0->c.H t 0=v)
 block:∀b,b<c.w0.heap.size-> ¬c.Mu b->c.w.heap[b]?=c.w0.heap[b]?
 pk:bY c.w0 c.Mu
 lo:∀v y,c.A.lo v y-> ∃f,Rd c.w0 [v] [y] f/\ ∀b∈f,¬c.Mu b
structure Rel(c:Cx)(n:Nat)(sl:Nat->SV)(hp:Nat->Option Ah)(a:Act):Prop where
 defers:a.defers=[]
 size:a.tmps.size=n
 base:PR c
 cv:∀i,SR c [sl i] [a.tmps.getD i undef]
 ents:∀t e,Cp c.ρ (hp t) e->C3 c t e
 off:∀t,(∀e,¬Cp c.ρ (hp t) e)->(c.G t).top=[]/\(c.G t).O=[]
 gw:GW c
 bc:∀t g,c.K t g->c.U t
 cg:∀t e,hp t=some e->c.U t
theorem SR.app{c:Cx}{ss:List SV}{vs:List Value}(h:SR c ss vs){ss':List SV}{vs':List Value}(k:SR c ss' vs'):SR c (ss++ss') (vs++vs'):=by
 induction h with
 |nil=>exact k
 |undef _ ih=>exact .undef ih
 |e h1 h2 _ ih=>exact .e h1 h2 ih
 |bq _ ih=>exact .bq ih
 |emp _ ih=>exact .emp ih
 |own h1 h2 _ ih=>exact .own h1 h2 ih
 |ca h1 h2 _ ih=>exact .ca h1 h2 ih
 |cd h1 h2 h3 h4 h5 _ ih=>exact .cd h1 h2 h3 h4 h5 ih
 |cz h1 h2 h3 h4 h5 h6 _ ih=>exact .cz h1 h2 h3 h4 h5 h6 ih
 |c7 h1 h2 _ ih=>exact .c7 h1 h2 ih
 |agg h9 h1 _ _ ih=>exact .agg h9 h1 ih
 |tup h1 _ _ ih=>exact .tup h1 ih
 |fn h1 _ _ ih=>exact .fn h1 ih
 |gd h1 h2 _ _ ih=>exact .gd h1 h2 ih
 |via h1 h2 h3 _ ih=>exact .via h1 h2 h3 ih
 |vptr h1 h2 h3 _ ih=>exact .vptr h1 h2 h3 ih
 |wown h1 h2 h3 h4 h5 h6 _ ih=>exact .wown h1 h2 h3 h4 h5 h6 ih
 |lent h1 _ ih=>exact .lent h1 ih
theorem SR.len{c:Cx}{ss:List SV}{vs:List Value}(h:SR c ss vs):ss.length=vs.length:=by induction h<;>simp_all
theorem SR.bu{c:Cx}{s:SV}{ss:List SV}{v:Value}{vs:List Value}(h:SR c (s::ss) (v::vs)):SR c [s] [v]/\SR c ss vs:=by
 cases h with
 |undef h=>exact⟨.undef .nil,h⟩
 |e h1 h2 h=>exact⟨.e h1 h2 .nil,h⟩
 |bq h=>exact⟨.bq .nil,h⟩
 |emp h=>exact⟨.emp .nil,h⟩
 |own h1 h2 h=>exact⟨.own h1 h2 .nil,h⟩
 |ca h1 h2 h=>exact⟨.ca h1 h2 .nil,h⟩
 |cd h1 h2 h3 h4 h5 h=>exact⟨.cd h1 h2 h3 h4 h5 .nil,h⟩
 |cz h1 h2 h3 h4 h5 h6 h=>exact⟨.cz h1 h2 h3 h4 h5 h6 .nil,h⟩
 |c7 h1 h2 h=>exact⟨.c7 h1 h2 .nil,h⟩
 |agg h9 h1 h=>exact⟨.agg h9 h1 .nil,h⟩
 |tup h1 h=>exact⟨.tup h1 .nil,h⟩
 |fn h1 h=>exact⟨.fn h1 .nil,h⟩
 |gd h1 h2 h=>exact⟨.gd h1 h2 .nil,h⟩
 |via h1 h2 h3 h=>exact⟨.via h1 h2 h3 .nil,h⟩
 |vptr h1 h2 h3 h=>exact⟨.vptr h1 h2 h3 .nil,h⟩
 |wown h1 h2 h3 h4 h5 h6 h=>exact⟨.wown h1 h2 h3 h4 h5 h6 .nil,h⟩
 |lent h1 h=>exact⟨.lent h1 .nil,h⟩
theorem SR.cons{c:Cx}{s:SV}{ss:List SV}{v:Value}{vs:List Value}(h:SR c [s] [v])(k:SR c ss vs):SR c (s::ss) (v::vs):=h.app k
theorem SR.get{c:Cx}:∀{ss:List SV} {vs:List Value},SR c ss vs-> ∀{i:Nat} {s:SV},ss[i]?=some s-> ∃v,vs[i]?=some v/\SR c [s] [v]
 | [],vs,h,i,s,hs=>by simp at hs
 |s0::ss,[],h,_,_,_=>by have:=h.len;simp at this
 |s0::ss,v0::vs,h,i,s,hs=>by
  obtain⟨h1,h2⟩:=h.bu;cases i with
  |zero=>simp at hs;subst hs;exact⟨v0,rfl,h1⟩
  |succ i=>simpa using h2.get (by simpa using hs)
theorem SR.split{c:Cx}:∀{ss:List SV} {vs:List Value} (n:Nat),SR c ss vs->SR c (ss.take n) (vs.take n)/\SR c (ss.drop n) (vs.drop n)
 |ss,vs,0,h=>by simpa using⟨SR.nil,h⟩
 | [],vs,n+1,h=>by
  have:=h.len;cases vs with
  |nil=>simpa using SR.nil
  |cons=>simp at this
 |s::ss,[],n+1,h=>by have:=h.len;simp at this
 |s::ss,v::vs,n+1,h=>by obtain⟨h1,h2⟩:=h.bu;obtain⟨h3,h4⟩:=h2.split n;exact⟨h1.app h3,h4⟩
structure DD(c c':Cx):Prop where
 ρ:c'.ρ=c.ρ
 A:c'.A=c.A
 ok:∀b,b<c.w.heap.size->c.ok b->c'.ok b
 mem:∀b,b<c.w.heap.size->c.ok b->c'.w.heap[b]?=c.w.heap[b]?
 K:∀t g,c.K t g->c'.K t g/\c'.H t g=c.H t g
 E:∀t g,c.K t g->c.E t<=c'.E t/\(c'.E t=c.E t->c'.G t=c.G t/\ ∀b∈(c.G t).top,b<c.w.heap.size->c'.w.heap[b]?=c.w.heap[b]?)
theorem PX.keep{c c':Cx}(k:DD c c'){t g:Nat}(hK:c.K t g)(he:c'.E t=c.E t){v:Value}{x:AV}(h:PX c t v x):PX c' t v x:=by
 obtain⟨f,h1,h2⟩:=h;obtain⟨e1,e2⟩:=(k.E t g hK).2 he;refine⟨f,h1.frame λb hb=> ?_,λb hb=> ?_⟩
 ·rcases h2 b hb with h|h
  ·exact k.mem b (h1.inb b hb) h
  ·exact e2 b h (h1.inb b hb)
 ·rcases h2 b hb with h|h
  ·exact .inl (k.ok b (h1.inb b hb) h)
  ·exact .inr (by rw[e1];exact h)
theorem HO.keep{c c':Cx}(k:DD c c'){t g:Nat}(hK:c.K t g)(he:c'.E t=c.E t){p:L8}{v:Value}(h:HO c t g p v):HO c' t g p v:=by
 cases p with
 |none=>exact trivial
 |some p=>obtain⟨i,z,o⟩:=p;obtain⟨b,n,cap,C,ty,fz,kk,q,h1,h2,h3,h4,h5,h6,h7⟩:=h;obtain⟨e1,e2⟩:=(k.E t g hK).2 he;exact⟨b,n,cap,C,ty,fz,kk,q,by rw[(k.K t g hK).2];exact h1,by rw[e1];exact h2,by rw[e2 b h2 (Fv h3)];exact h3,by rw[k.ρ];exact h4,h5,h6,h7⟩
theorem Rd.gp{c c':Cx}(k:DD c c'){vs:List Value}{xs:List AV}{f:List Nat}(h:Rd c.w vs xs f)(hf:∀b∈f,c.ok b):Rd c'.w vs xs f/\ ∀b∈f,c'.ok b:=
 ⟨h.frame λb hb=>k.mem b (h.inb b hb) (hf b hb),λb hb=>k.ok b (h.inb b hb) (hf b hb)⟩
theorem DD.refl(c:Cx):DD c c:=⟨rfl,rfl,λ_ _ h=>h,λ_ _ _=>rfl,λ_ _ h=>⟨h,rfl⟩,λ_ _ _=>⟨Ay _,λ_=>⟨rfl,λ_ _ _=>rfl⟩⟩⟩
theorem SR.keep{c c':Cx}(k:DD c c'){ss:List SV}{vs:List Value}(h:SR c ss vs):SR c' ss vs:=by
 have hρ:=k.ρ
 induction h with
 |nil=>exact .nil
 |undef _ ih=>exact .undef ih
 |e h1 h2 _ ih=>obtain⟨a,b⟩:=Rd.gp k h1 h2;exact .e (by rw[hρ];exact a) b ih
 |bq _ ih=>exact .bq ih
 |emp _ ih=>exact .emp ih
 |own h1 h2 _ ih=>obtain⟨a,b⟩:=k.K _ _ h1;exact .own a (b.trans h2) ih
 |ca h1 h2 _ ih=>obtain⟨a,b⟩:=k.K _ _ h1;exact .ca a (b.trans h2) ih
 |cd h1 h2 h3 h4 h5 _ ih=>obtain⟨a,b⟩:=k.K _ _ h1;exact .cd a (b.trans h2) (by rw[hρ];exact h3) h4 h5 ih
 |cz h1 h2 h3 h4 h5 h6 _ ih=>obtain⟨a,b⟩:=Rd.gp k h1 h2;exact .cz (by rw[hρ];exact a) b (by rw[hρ];exact h3) h4 h5 (by rw[hρ];exact h6) ih
 |c7 h1 h2 _ ih=>obtain⟨a,b⟩:=Rd.gp k h1 h2;exact .c7 (by rw[hρ];exact a) b ih
 |agg h9 _ _ ih1 ih2=>exact .agg h9 ih1 ih2
 |tup _ _ ih1 ih2=>exact .tup ih1 ih2
 |fn _ _ ih1 ih2=>exact .fn ih1 ih2
 |gd _ h2 _ ih1 ih2=>exact .gd (λhg=>ih1 (by rw[<-hρ];exact hg)) (λhg=>h2 (by rw[<-hρ];exact hg)) ih2
 | @via t g n p x v ss vs h1 h2 h3 _ ih=>
  obtain⟨a,b⟩:=k.K _ _ h1;have hle:=(k.E t g h1).1;refine .via a (Nat.le_trans h2 hle) (λhe=> ?_) ih;have J2:c.E t=n:=by omega
  have Mq:c'.E t=c.E t:=by omega
  obtain⟨q1,q2⟩:=h3 J2;exact⟨by rw[hρ];exact q1.keep k h1 Mq,q2.keep k h1 Mq⟩
 | @vptr t g n p x i sz o v ss vs h1 h2 h3 _ ih=>
  obtain⟨a,b⟩:=k.K _ _ h1;have hle:=(k.E t g h1).1;refine .vptr a (Nat.le_trans h2 hle) (λhe=> ?_) ih;have J2:c.E t=n:=by omega
  have Mq:c'.E t=c.E t:=by omega
  obtain⟨b,off,len,cap,kk,q,q1,q2,q3⟩:=h3 J2;exact⟨b,off,len,cap,kk,q,by rw[hρ];exact q1.keep k h1 Mq,q2.keep k h1 Mq,by rw[hρ];exact q3⟩
 |wown h1 h2 h3 h4 h5 h6 _ ih=>obtain⟨a,b⟩:=k.K _ _ h1;exact .wown a (b.trans h2) (by rw[hρ];exact h3) h4 h5 h6 ih
 |lent h1 _ ih=>exact .lent (by rw[hρ,k.A];exact h1) ih
theorem CQ.frame{w w':World}{ety sz:Nat}{v:Value}{x:AV}{top N:List Nat}(h:CQ w ety sz v x top N)(ht:∀b∈top,w'.heap[b]?=w.heap[b]?)(hN:∀b∈N,w'.heap[b]?=w.heap[b]?):CQ w' ety sz v x top N:=by
 obtain⟨xs,h1,h2,h3,h4|⟨g,cap,C,h5,h6,h7,h8,h9,EM,JR,Ea⟩⟩:=h
 ·exact⟨xs,h1,h2,h3, .inl h4⟩
 ·exact⟨xs,h1,h2,h3, .inr ⟨g,cap,C,h5,h6,h7,by rw[ht g (by simp[EM])];exact h8,h9,EM,JR,Ea.frame hN⟩⟩
theorem PZ.frame{w w':World}{f:List Nat}(h:PZ w f)(hf:∀b∈f,w'.heap[b]?=w.heap[b]?):PZ w' f:=have _:=hf;h
theorem CQ.ll{w:World}{ety sz:Nat}{v:Value}{x:AV}{top N:List Nat}(h:CQ w ety sz v x top N):∀b∈N,b<w.heap.size:=by
 obtain⟨xs,h1,h2,h3,h4|⟨g,cap,C,h5,h6,h7,h8,h9,EM,JR,Ea⟩⟩:=h
 ·simp[h4.2.2.2]
 ·exact Ea.inb
theorem C3.keep{c c':Cx}(k:DD c c'){t:Nat}{e:Ah}(h:C3 c t e)(hG:c'.G t=c.G t)(hE:c'.E t=c.E t)(hK:∀g,c'.K t g->c.K t g)(hm:∀b∈(c.G t).top,c'.w.heap[b]?=c.w.heap[b]?):C3 c' t e:=by
 cases e with
 |box ty g cs=>obtain⟨b,C,h1,h2,h3,h4,h5,oV,h6⟩:=h;obtain⟨a1,a2⟩:=k.K _ _ h1;exact⟨b,C,a1,a2.trans h2,by rw[hG];exact h3,by rw[hG];exact h4,by rw[hm b (by simp[h3])];exact h5,oV,h6.keep k⟩
 |row ety sz g x d=>
  obtain⟨h1,h0,N,h2,h3,h4,h5⟩:=h;obtain⟨a1,a2⟩:=k.K _ _ h1;have hN:=h2.ll;refine⟨a1,λg' Cg=>h0 g' (hK g' Cg),N,?_,λb hb=>k.ok b (hN b hb) (h3 b hb),λhd=> ?_,λhd=>by rw[hG];exact h5 hd⟩
  ·rw[a2,k.ρ,hG];exact h2.frame hm λb hb=>k.mem b (hN b hb) (h3 b hb)
  ·obtain⟨a,b⟩:=h4 hd;exact⟨a.frame λb hb=>k.mem b (hN b hb) (h3 b hb),by rw[hG];exact b⟩
 |bh g x=>obtain⟨h1,⟨f,h2,h3⟩,h4,h5⟩:=h;obtain⟨a1,a2⟩:=k.K _ _ h1;obtain⟨a,b⟩:=Rd.gp k h2 h3;exact⟨a1,⟨f,by rw[a2,k.ρ];exact a,b⟩,by rw[hG];exact h4,by rw[hG];exact h5⟩
 |gd gs e=>exact by rw[C3,hG];exact h
 |dead=>exact by rw[C3,hG];exact h
 |deep e z l g ep x=>obtain⟨h1,h0,h2,h3,h4⟩:=h;obtain⟨a1,a2⟩:=k.K _ _ h1;exact⟨a1,λg' Cg=>h0 g' (hK g' Cg),hE.trans h2,by rw[a2,k.ρ,hG];exact h3.frame hm,by rw[hG];exact h4⟩
 |hol e z l g ep x i o u=>
  obtain⟨h1,h0,h2,⟨b,cap,C,ys,kk,kv,N1,N2,p1,p2,p3,p4,p5,p6,p7,p7',p8,p9,p10,p11,p12,p13,p14,p15,p16,p17,p18⟩,h4⟩:=h;obtain⟨a1,a2⟩:=k.K _ _ h1;obtain⟨a3,a4⟩:=k.K _ _ p15;refine⟨a1,λg' Cg=>h0 g' (hK g' Cg),hE.trans h2,⟨b,cap,C,ys,kk,kv,N1,N2,by rw[a2];exact p1,by rw[k.ρ];exact p2,by rw[k.ρ];exact p3,p4,p5,p6,p7,p7',by rw[hm b (by rw[p14];simp)];exact p8,p9,p10,p11,p12,p13,by rw[hG];exact p14,a3,by rw[a4];exact p16,
   p17.frame λq hq=>hm q (by rw[p14];simp[hq]),p18.frame λq hq=>hm q (by rw[p14];simp[hq])⟩,by rw[hG];exact h4⟩
 |pre e z l g ep x kx=>obtain⟨h1,h0,h2,⟨p,cap,ys,kk,kv,p1,p2,p3,p4,p5,p6⟩,h4⟩:=h;obtain⟨a1,a2⟩:=k.K _ _ h1;exact⟨a1,λg' Cg=>h0 g' (hK g' Cg),hE.trans h2,⟨p,cap,ys,kk,kv,by rw[a2];exact p1,by rw[k.ρ];exact p2,by rw[k.ρ];exact p3,p4,p5,by rw[hG];exact p6.frame hm⟩,by rw[hG];exact h4⟩
theorem kT{ρ:List AV}{g:E × Bool}{gs:Gd}(h:NC g gs=true)(k:Bc ρ gs):g.1.den ρ= .bool g.2:=by simp only[NC,List.any_eq_true,Ae,Ax]at h;obtain⟨x,hx,h1,h2⟩:=h;rw[<-E.aj ρ _ _ h1,<-h2];exact k x hx
theorem Vt{ρ:List AV}{hs gs:Gd}(h:KT hs gs=true)(k:Bc ρ gs):Bc ρ hs:=by simp only[KT,A0]at h;exact λg hg=>kT (h g hg) k
theorem Et(ρ:List AV):Bc ρ []:=by simp[Bc]
def EH(c:Cx)(hp:Nat->Option Ah):Prop:= ∀t e,Cp c.ρ (hp t) e->C3 c t e
theorem Cv{ρ:List AV}{hp:Nat->Option Ah}{gs:Gd}{t:Nat}{e:Ah}(h:CR hp gs t=some e)(k:Bc ρ gs):Cp ρ (hp t) e:=by
 unfold CR at h;cases ho:hp t with
 |none=>rw[ho]at h;simp at h
 |some o=>
  rw[ho]at h;simp only[Aa]at h;cases o with
  |gd hs e'=>
   simp only[JI]at h;split at h
   ·rename_i BJ;simp at h;subst h;exact⟨Vt BJ k,rfl⟩
   ·cases h
  |box=>simp[JI]at h;subst h;rfl
  |row=>simp[JI]at h;subst h;rfl
  |bh=>simp[JI]at h;subst h;rfl
  |dead=>simp[JI]at h;subst h;rfl
  |deep=>simp[JI]at h;subst h;rfl
  |hol=>simp[JI]at h;subst h;rfl
  |pre=>simp[JI]at h;subst h;rfl
theorem SR.ungd{c:Cx}{s s':SV}{v:Value}{gs:Gd}(h:SR c [s] [v])(hu:ungd gs s=some s')(k:Bc c.ρ gs):SR c [s'] [v]:=by
 cases s<;>simp only[Go.Proofs.YtkpifpljpoochaaGreatDoor.ungd]at hu<;>first
  |(cases hu;done)
  |(split at hu
    ·rename_i BJ;simp at hu;subst hu;cases h with
     |gd h1 _ _=>exact h1 (Vt BJ k)
    ·cases hu)
  |(simp at hu;subst hu;exact h)
theorem Bp.ak(l:List SV):(Bp.of l).toList=l:=by induction l<;>simp[Bp.of,Bp.toList, *]
theorem EL.c8(ρ:List AV)(l:List E):(EL.of l).den ρ=l.map (E.den ρ):=by induction l<;>simp[EL.of,EL.den, *]
theorem OT{c:Cx}:∀(vs:List Value) (l:List SV),ED.go vs=some l->SR c l vs
 | [],l,h=>by simp[ED.go]at h;subst h;exact .nil
 |v::vs,l,h=>by
  unfold ED.go at h;split at h
  ·rename_i h0;cases h0
  ·rename_i k n vs' h0;cases h0;split at h
   ·rename_i hk;obtain⟨l',hl,rfl⟩:=Aq.1 h;exact .e (.int hk .nil) (by simp) (OT _ _ hl)
   ·cases h
  ·rename_i h0;cases h0;obtain⟨l',hl,rfl⟩:=Aq.1 h;exact .e (.bool .nil) (by simp) (OT _ _ hl)
  ·rename_i h0;cases h0;split at h
   ·rename_i hk;obtain⟨l',hl,rfl⟩:=Aq.1 h;exact .e (.str hk .nil) (by simp) (OT _ _ hl)
   ·cases h
  ·rename_i h0;cases h0;obtain⟨l',hl,rfl⟩:=Aq.1 h;exact .bq (OT _ _ hl)
  ·rename_i h0;cases h0;obtain⟨l',hl,rfl⟩:=Aq.1 h;exact .e (.dd .nil) (by simp) (OT _ _ hl)
  ·cases h
theorem YY:∀(vs:List Value) (l:List SV),ED.go vs=some l-> ∀u∈vs,u.oneCell'=true
 | [],l,h,u,hu=>by simp at hu
 |v::vs,l,h,u,hu=>by
  unfold ED.go at h;split at h
  ·rename_i h0;cases h0
  all_goals (try (cases h;done))
  all_goals
   rename_i h0;cases h0
   (try split at h)
   all_goals (try (cases h;done))
   all_goals
    obtain⟨l',hl,rfl⟩:=Aq.1 h;rcases Ad.1 hu with rfl|hu
    ·rfl
    ·exact YY _ _ hl u hu
theorem U2{c:Cx}{v:Value}{s:SV}(h:ED v=some s):SR c [s] [v]:=by
 unfold ED at h;split at h
 ·split at h
  ·rename_i hk;simp at h;subst h;exact .e (.int hk .nil) (by simp) .nil
  ·cases h
 ·simp at h;subst h;exact .e (.bool .nil) (by simp) .nil
 ·split at h
  ·rename_i hk;simp at h;subst h;exact .e (.str hk .nil) (by simp) .nil
  ·cases h
 ·simp at h;subst h;exact .bq .nil
 ·simp at h;subst h;exact .e (.dd .nil) (by simp) .nil
 ·rename_i cs;simp only[Option.bind_eq_bind,As]at h;obtain⟨l,hl,h⟩:=h;simp at h;subst h;have:=SR.agg (cs:=Bp.of l) (as_:=cs.toList) (YY _ _ hl) (by rw[Bp.ak];exact OT (c:=c) _ _ hl) .nil;simpa using this
 ·cases h
theorem Uz{c:Cx}{sl:Nat->SV}{gs:Gd}{x:Operand}{s:SV}{a:Act}(h:Bn sl gs x=some s)(hs:∀t,x= .tmp t->SR c [sl t] [a.tmps.getD t undef])(k:Bc c.ρ gs):SR c [s] [a.eval x]:=by
 cases x with
 |tmp t=>exact(hs t rfl).ungd h k
 |const v=>exact U2 h
 |func f=>simp[Bn]at h;subst h;exact SR.fn (as_:=[]) .nil .nil
 |global g=>simp[Bn]at h
theorem CQ.rd{w:World}{ety sz:Nat}{v:Value}{x:AV}{top N:List Nat}(h:CQ w ety sz v x top N):∃f,Rd w [v] [x] f/\(∀b∈f,b∈top\/b∈N)/\ ∀b∈f.tail,b∈N:=by
 obtain⟨xs,rfl,h2,h3,⟨rfl,⟨a,rfl⟩,rfl,rfl⟩|⟨g,cap,C,rfl,h6,h7,h8,h9,rfl,JR,Ea⟩⟩:=h
 ·exact⟨_, .di .nil,by simp⟩
 ·rcases Nat.eq_zero_or_pos xs.length with h0|h0
  ·have:xs=[]:=List.eq_nil_of_length_eq_zero h0;subst this;exact⟨_, .di .nil,by simp⟩
  ·have:=Rd.en (o:=0) (c:=cap) (cs:=C.toList.take (xs.length*sz)) h8 h0 ⟨by have:maxLen=9223372036854775807:=rfl;omega,by omega⟩ rfl h2 h3 (λj u hu=>by
    rw[Nat.zero_add];rw[List.getElem?_take]at hu;split at hu
    ·simpa using hu
    ·cases hu) JR Ea .nil
   exact⟨_,this,by simp⟩
def Cx.dq(c:Cx)(ts:List Nat)(b:Nat):Prop:=c.ok b\/ ∃t∈ts,b∈(c.G t).top
theorem Cx.dq.mono{c:Cx}{ts us:List Nat}{b:Nat}(h:c.dq ts b)(hs:∀t∈ts,t∈us):c.dq us b:=h.imp id λ⟨t,h1,h2⟩=>⟨t,hs t h1,h2⟩
theorem yD{c:Cx}{hp:Nat->Option Ah}{gs:Gd}(eh:EH c hp)(k:Bc c.ρ gs){t g:Nat}{x:E}(h:HE hp gs t g=some x):
  ∃f,Rd c.w [c.H t g] [x.den c.ρ] f/\ ∀b∈f,c.dq [t] b:=by
 unfold HE at h;split at h
 ·rename_i e z g' y d hl;split at h
  ·rename_i hg;subst hg;simp at h;subst h;obtain⟨h1,h0,N,h2,h3,h4,h5⟩:=eh t _ (Cv hl k);obtain⟨f,hr,hf,_⟩:=h2.rd;exact⟨f,hr,λb hb=>(hf b hb).elim (λh=> .inr ⟨t,by simp,h⟩) λh=> .inl (h3 b h)⟩
  ·cases h
 ·rename_i g' y hl;split at h
  ·rename_i hg;subst hg;simp at h;subst h;obtain⟨h1,⟨f,h2,h3⟩,h4,h5⟩:=eh t _ (Cv hl k);exact⟨f,h2,λb hb=> .inl (h3 b hb)⟩
  ·cases h
 ·rename_i e z l g' ep y hl;split at h
  ·rename_i hg;subst hg;simp at h;subst h;obtain⟨h1,h0,h2,h3,h4⟩:=eh t _ (Cv hl k);obtain⟨f,k1,k2⟩:=h3.rd;exact⟨f,k1,λb hb=> .inr ⟨t,by simp,k2 b hb⟩⟩
  ·cases h
 ·cases h
theorem Pl{c:Cx}{hp:Nat->Option Ah}{gs:Gd}(eh:EH c hp)(k:Bc c.ρ gs){t n:Nat}(h:LX hp gs t n=true):c.E t=n:=by
 unfold LX at h;split at h
 ·rename_i hl;obtain⟨_,_,h2,_⟩:=eh t _ (Cv hl k);rw[h2];exact(by simpa using h:n=_).symm
 ·cases h
theorem iQ(hp:Nat->Option Ah)(gs:Gd)(n:Nat)(s:SV)(l:List SV):∀t,t∈BN hp gs (n+1) (s::l)↔t∈BN hp gs (n+1) [s]\/t∈BN hp gs n l:=by
 intro t;have h0:∀m,BN hp gs m []=[]:=λm=>by cases m<;>simp[BN]
 simp only[BN,Ag,h0,List.not_mem_nil,or_false]
theorem Ve(hp:Nat->Option Ah)(gs:Gd):∀n,BN hp gs n []=[]:=λm=>by cases m<;>simp[BN]
theorem zvl(hp:Nat->Option Ah)(gs:Gd)(n:Nat)(cs:Bp):BN hp gs (n+1) [.agg cs]=BN hp gs n cs.toList:=by simp only[BN,Ve,AJ]
theorem zuN(hp:Nat->Option Ah)(gs:Gd)(n:Nat)(cs:Bp):BN hp gs (n+1) [.tup cs]=BN hp gs n cs.toList:=by simp only[BN,Ve,AJ]
theorem zvM(hp:Nat->Option Ah)(gs:Gd)(n f:Nat)(cs:Bp):BN hp gs (n+1) [.fn f cs]=BN hp gs n cs.toList:=by simp only[BN,Ve,AJ]
theorem zvX(hp:Nat->Option Ah)(gs hs:Gd)(n:Nat)(s:SV):BN hp gs (n+1) [.gd hs s]=BN hp gs n [s]:=by simp only[BN,Ve,AJ]
mutual
theorem Hd{c:Cx}{hp:Nat->Option Ah}{gs:Gd}(eh:EH c hp)(k:Bc c.ρ gs):∀(n:Nat) {s:SV} {x:E} {v:Value},Bj hp gs n s=some x->SR c [s] [v]-> ∀m,n<=m->
  ∃f,Rd c.w [v] [x.den c.ρ] f/\ ∀b∈f,c.dq (BN hp gs (m+1) [s]) b
 |0,s,x,v,h,_,m,_=>by simp[Bj]at h
 |n+1,s,x,v,h,hr,m,hm=>by
  obtain⟨m,rfl⟩:∃m',m=m'+1:=⟨m-1,by omega⟩
  have EZ:n<=m:=by omega
  have h0:∀m,BN hp gs m []=[]:=λm=>by cases m<;>simp[BN]
  unfold Bj at h;split at h
  ·cases h
  ·simp at h;subst h;cases hr with
   |e h1 h2 _=>exact⟨_,h1,λb hb=> .inl (h2 b hb)⟩
  ·simp at h;subst h;cases hr with
   |bq _=>exact⟨_, .di .nil,by simp⟩
  ·simp at h;subst h;cases hr with
   |emp _=>exact⟨_, .di .nil,by simp⟩
  ·cases hr with
   |own _ h8 _=>obtain⟨f,h1,h2⟩:=yD eh k h;rw[h8]at h1;exact⟨f,h1,λb hb=>(h2 b hb).mono (by simp[BN])⟩
  ·rename_i t;split at h
   ·rename_i ty g0 cs hl;obtain⟨l,Bw,rfl⟩:=Aq.1 h;cases hr with
    |ca h1 h2 _=>
     obtain⟨b,C,_,e2,e3,e4,e5,e5',e6⟩:=eh t _ (Cv hl k);rw[h2]at e2;cases e2;obtain⟨f,g1,g2⟩:=Pa eh k n Bw e6 (m+1) (by omega);refine⟨_, .ref e5 e5' (by simpa[E.den,AV.cells]using g1) .nil,λq hq=> ?_⟩;simp only[AJ,Ad]at hq;rcases hq with rfl|hq
     ·exact .inr ⟨t,by simp[BN],by simp[e3]⟩
     ·exact(g2 q hq).mono λu hu=>by simp only[BN,hl,h0,AJ,Ad];exact .inr hu
   ·cases h
  ·cases h
  ·cases h
  ·cases h
  ·rename_i y;simp at h;subst h;cases hr with
   |c7 h1 h2 _=>exact⟨_,h1,λb hb=> .inl (h2 b hb)⟩
  ·cases h
  ·rename_i cs;obtain⟨l,Bw,rfl⟩:=Aq.1 h;cases hr with
   |agg h9 h1 _=>obtain⟨f,g1,g2⟩:=Pa eh k n Bw h1 (m+1) (by omega);exact⟨_, .agg h9 g1 .nil,λq hq=>by rw[zvl];exact g2 q (by simpa using hq)⟩
  ·rename_i cs;obtain⟨l,Bw,rfl⟩:=Aq.1 h;cases hr with
   |tup h1 _=>obtain⟨f,g1,g2⟩:=Pa eh k n Bw h1 (m+1) (by omega);exact⟨_, .tup g1 .nil,λq hq=>by rw[zuN];exact g2 q (by simpa using hq)⟩
  ·rename_i g cs;obtain⟨l,Bw,rfl⟩:=Aq.1 h;cases hr with
   |fn h1 _=>obtain⟨f,g1,g2⟩:=Pa eh k n Bw h1 (m+1) (by omega);exact⟨_, .fn g1 .nil,λq hq=>by rw[zvM];exact g2 q (by simpa using hq)⟩
  ·rename_i hs s;split at h
   ·rename_i BJ;cases hr with
    |gd h1 _ _=>obtain⟨f,g1,g2⟩:=Hd eh k n h (h1 (Vt BJ k)) m EZ;exact⟨f,g1,λq hq=>by rw[zvX];exact g2 q hq⟩
   ·cases h
  ·rename_i t g n' p y;split at h
   ·rename_i hv;simp at h;subst h;cases hr with
    |via h1 h2 h3 _=>obtain⟨⟨f,q1,q2⟩,_⟩:=h3 (Pl eh k hv);exact⟨f,q1,λb hb=>(q2 b hb).imp id λhh=>⟨t,by simp[BN],hh⟩⟩
   ·cases h
  ·cases h
  ·rename_i t g lo z;split at h
   ·rename_i e z' g' y d hl;split at h
    ·rename_i hh;obtain⟨rfl,rfl⟩:=hh;simp at h;subst h;cases hr with
     | @wown _ _ _ _ _ nn _ _ _ _ kv _ _ h1 h2 h3 h4 h5 h6 _=>
      obtain⟨p1,p0,N,p2,p3,_⟩:=eh t _ (Cv hl k);rw[h2]at p2;obtain⟨xs,f,q1,q2,q3,q4⟩:=p2.win (k:=kv.toNat) (by omega) (λAI=>h6 (by omega))
      refine⟨f,?_,λb hb=>(q4 b hb).elim (λhh=> .inr ⟨t,by simp[BN],hh⟩) λhh=> .inl (p3 b hh)⟩;have e1:(E.win y lo (.len y)).den c.ρ= .sl (xs.drop kv.toNat):=by simp only[E.den,q1,AV.len,h3,AV.win];rw[List.take_of_length_le (by simp)]
      rw[e1];exact q3
    ·cases h
   ·cases h
  ·cases h
theorem Pa{c:Cx}{hp:Nat->Option Ah}{gs:Gd}(eh:EH c hp)(k:Bc c.ρ gs):∀(n:Nat) {ss:List SV} {xs:EL} {vs:List Value},Cm hp gs n ss=some xs->SR c ss vs-> ∀m,n<=m->
  ∃f,Rd c.w vs (xs.den c.ρ) f/\ ∀b∈f,c.dq (BN hp gs m ss) b
 |0,ss,xs,vs,h,_,m,_=>by simp[Cm]at h
 |n+1,[],xs,vs,h,hr,m,_=>by simp[Cm]at h;subst h;cases hr;exact⟨[], .nil,by simp⟩
 |n+1,s::ss,xs,[],h,hr,m,_=>by have:=hr.len;simp at this
 |n+1,s::ss,xs,v::vs,h,hr,m,hm=>by
  obtain⟨m,rfl⟩:∃m',m=m'+1:=⟨m-1,by omega⟩
  obtain⟨r1,r2⟩:=hr.bu;unfold Cm at h;split at h
  ·rename_i x ys h1 h2;simp at h;subst h;obtain⟨f,a1,a2⟩:=Hd eh k n h1 r1 m (by omega);obtain⟨g,b1,b2⟩:=Pa eh k n h2 r2 m (by omega);refine⟨f++g,a1.app b1,λq hq=> ?_⟩;rcases Ag.1 hq with hq|hq
   ·exact(a2 q hq).mono λt ht=>(iQ hp gs m s ss t).2 (.inl ht)
   ·exact(b2 q hq).mono λt ht=>(iQ hp gs m s ss t).2 (.inr ht)
  ·cases h
end
def zip(n:Nat)(sl:Nat->SV)(d:Option Nat)(s:SV)(i:Nat):SV:=if d=some i/\i<n then s else sl i
def A8(hp:Nat->Option Ah)(l:List (Nat × Ah)):Nat->Option Ah:=l.foldl (λh (t,e)=>λu=>if u=t then some e else h u) hp
theorem Rel.put{c:Cx}{n:Nat}{sl:Nat->SV}{hp:Nat->Option Ah}{a:Act}(h:Rel c n sl hp a){s:SV}{v:Value}(hv:SR c [s] [v])(d:Option Nat):Rel c n (zip n sl d s) hp (a.put d v):=by
 cases d with
 |none=>
  have e:zip n sl none s=sl:=by funext i;simp[zip]
  rw[e];exact h
 |some d=>
  refine⟨h.defers,by simpa[Act.put]using h.size,h.base,λi=> ?_,h.ents,h.off,h.gw,h.bc,h.cg⟩;simp only[zip,Af,Act.put];by_cases hi:d=i/\i<n
  ·rw[if_pos hi];obtain⟨rfl,hi⟩:=hi;have:(a.tmps.setIfInBounds d v).getD d undef=v:=by
    rw[Array.getD_eq_getD_getElem?,Array.getElem?_setIfInBounds];simp[h.size,hi]
   rw[this];exact hv
  ·rw[if_neg hi];have:(a.tmps.setIfInBounds d v).getD i undef=a.tmps.getD i undef:=by
    rw[Array.getD_eq_getD_getElem?,Array.getD_eq_getD_getElem?,Array.getElem?_setIfInBounds];by_cases hd:d=i
    ·subst hd;have: ¬d<a.tmps.size:=λh'=>hi ⟨rfl,by rw[<-h.size];exact h'⟩;simp[this,Array.getElem?_eq_none (Nat.le_of_not_lt this)]
    ·simp[hd]
   rw[this];exact h.cv i
theorem Rel.change{c c':Cx}{n:Nat}{sl:Nat->SV}{hp hp':Nat->Option Ah}{a:Act}(h:Rel c n sl hp a)(T:Nat->Prop)(k:DD c c')(hb:PR c')
  (h1:∀t,¬T t->hp' t=hp t/\c'.G t=c.G t/\c'.E t=c.E t/\ ∀g,c'.K t g->c.K t g) (h2:∀t,¬T t-> ∀b∈(c.G t).top,c'.w.heap[b]?=c.w.heap[b]?)
  (h3:∀t,T t->(∀e,Cp c.ρ (hp' t) e->C3 c' t e)/\((∀e,¬Cp c.ρ (hp' t) e)->(c'.G t).top=[]/\(c'.G t).O=[]))
  (h4:GW c') (h5:∀t g,c'.K t g->c'.U t) (h6:∀t e,hp' t=some e->c'.U t):Rel c' n sl hp' a:=by
 refine⟨h.defers,h.size,hb,λi=>(h.cv i).keep k,λt e hr=> ?_,λt hn=> ?_,h4,h5,h6⟩
 ·rw[k.ρ]at hr;by_cases ht:T t
  ·exact(h3 t ht).1 e hr
  ·obtain⟨e1,e2,e0,e3⟩:=h1 t ht;rw[e1]at hr;exact(h.ents t e hr).keep k e2 e0 e3 (h2 t ht)
 ·rw[k.ρ]at hn;by_cases ht:T t
  ·exact(h3 t ht).2 hn
  ·obtain⟨e1,e2,_,e3⟩:=h1 t ht;rw[e1]at hn;rw[e2];exact h.off t hn
theorem O5{ρ:List AV}{gs:Gd}{e e':Ah}(k:Bc ρ gs)(hn:∀hs f,e≠ .gd hs f):Cp ρ (some (CC gs e)) e'↔e'=e:=by
 cases gs with
 |nil=>cases e<;>first|(simp[CC,Cp,eq_comm];done)|exact absurd rfl (hn _ _)
 |cons g gs=>simp[CC,Cp,k,eq_comm]
theorem SR.mkGd{c:Cx}{s:SV}{v:Value}(h:SR c [s] [v])(gs:Gd)(k:Bc c.ρ gs:=by exact λ_ hh=>absurd hh List.not_mem_nil):SR c [mkGd gs s] [v]:=by
 cases gs with
 |nil=>exact h
 |cons g gs=>exact .gd (λ_=>h) (λhn=>absurd k hn) .nil
def Cx.new(c:Cx)(t:Nat)(o:Obj)(hv:Value)(O:List Nat):Cx:=
 {c with w:=c.w.alloc o,G:=λu=>if u=t then⟨[c.w.heap.size],O⟩else c.G u,K:=λu g=>c.K u g\/(u=t/\g=0),H:=λu g=>if u=t then hv else c.H u g,U:=λu=>c.U u\/u=t,E:=λu=>if u=t then 0 else c.E u}
theorem Cx.l0{c:Cx}{t:Nat}{o:Obj}{hv:Value}{O:List Nat}{b:Nat}(h:(c.new t o hv O).M b):c.M b\/b=c.w.heap.size:=by
 obtain⟨u,hu⟩:=h;simp only[Cx.new]at hu;split at hu
 ·simp at hu;exact .inr hu
 ·exact .inl ⟨u,hu⟩
theorem Cx.fy{c:Cx}{t:Nat}{o:Obj}{hv:Value}{O:List Nat}(hk:∀g,¬c.K t g):DD c (c.new t o hv O):=by
 refine⟨rfl,rfl,λb hb AR=>⟨λhm=> ?_,AR.2⟩,λb hb _=>Below.heap_alloc _ _ _ hb,λu g h=>⟨.inl h,?_⟩,λu g h=> ?_⟩
 ·rcases Cx.l0 hm with h|h
  ·exact AR.1 h
  ·omega
 ·simp only[Cx.new];rw[if_neg];rintro rfl;exact hk g h
 ·have hu:u≠t:=by rintro rfl;exact hk g h
  have e1:(c.new t o hv O).E u=c.E u:=by simp only[Cx.new,if_neg hu]
  have e2:(c.new t o hv O).G u=c.G u:=by simp only[Cx.new,if_neg hu]
  rw[e1];exact⟨Ay _,λ_=>⟨e2,λb _ hb=>Below.heap_alloc _ _ _ hb⟩⟩
theorem PR.new{c:Cx}(h:PR c)(t:Nat)(ht: ¬c.U t)(o:Obj)(hv:Value)(O:List Nat):PR (c.new t o hv O):=
 ⟨h.os,h.tape,h.output,Nat.le_trans h.size (by simp[Cx.new]),λu v hp=>⟨.inl (h.pins u v hp).1,λhk=>by have hu:u≠t:=λhh=>ht (hh▸(h.pins u v hp).1);simp only[Cx.new,if_neg hu];exact(h.pins u v hp).2 (hk.resolve_right λhh=>hu hh.1)⟩,λb hb hm=>(Below.heap_alloc _ _ _ (Nat.lt_of_lt_of_le hb h.size)).trans (h.block b hb hm),h.pk,h.lo⟩
theorem Rel.new{c:Cx}{n:Nat}{sl:Nat->SV}{hp:Nat->Option Ah}{a:Act}(h:Rel c n sl hp a){t:Nat}(ht: ¬c.U t)(o:Obj)(hv:Value)(e:Ah)(gs:Gd)(k:Bc c.ρ gs)(BI:∀hs f,e≠ .gd hs f)
  (he:C3 (c.new t o hv []) t e):Rel (c.new t o hv []) n sl (A8 hp [(t,CC gs e)]) a:=by
 have hk:∀g,¬c.K t g:=λg hg=>ht (h.bc t g hg);have DL:hp t=none:=by
  cases hh:hp t with
  |none=>rfl
  |some e=>exact absurd (h.cg t e hh) ht
 have J3:=h.off t (by rw[DL];simp[Cp]);have DN:∀u,A8 hp [(t,CC gs e)] u=if u=t then some (CC gs e)else hp u:=λu=>rfl;refine h.change (λu=>u=t) (Cx.fy hk) (h.base.new t ht ..) (λu hu=>⟨by rw[DN,if_neg hu],by simp[Cx.new,hu],by simp[Cx.new,hu],λg hg=>hg.resolve_right (λhh=>hu hh.1)⟩)
  (λu hu b hb=>Below.heap_alloc _ _ _ (h.gw.inb u b (by simp[GI.own,hb]))) (λu hu=> ?_) ?_ (λu g hg=>hg.imp (h.bc u g) (·.1)) (λu e' hh=> ?_)
 ·subst hu;rw[DN,if_pos rfl];exact⟨λe' hr=>by rw[(O5 k BI).1 hr];exact he,λhn=>absurd ((O5 k BI).2 rfl) (hn e)⟩
 ·have hG:∀u,((c.new t o hv []).G u)=if u=t then⟨[c.w.heap.size],[]⟩else c.G u:=λu=>rfl;refine⟨λu=> ?_,λu u' Ki b hb=> ?_,λu b hb=> ?_,λu b hb=> ?_⟩
  ·rw[hG];split
   ·simp[GI.own]
   ·exact h.gw.nodup u
  ·rw[hG]at hb ⊢;split at hb
   ·rename_i hu;simp[GI.own]at hb;rw[if_neg (λhh=>Ki (hu.trans hh.symm))];intro BF;have:=h.gw.inb u' b BF;omega
   ·split
    ·simp only[GI.own,AJ,List.mem_singleton];intro hh;have:=h.gw.inb u b hb;omega
    ·exact h.gw.cc u u' Ki b hb
  ·rw[hG]at hb;split at hb
   ·simp[GI.own]at hb;exact .inl (by rw[hb];exact h.base.size)
   ·exact h.gw.allow u b hb
  ·rw[hG]at hb;simp only[Cx.new,World.size_alloc];split at hb
   ·simp[GI.own]at hb;omega
   ·have:=h.gw.inb u b hb;omega
 ·rw[DN]at hh;split at hh
  ·rename_i hu;exact .inr hu
  ·exact .inl (h.cg u e' hh)
def AV.scalar:AV->Bool
 | .int .. =>true
 | .bool _=>true
 | .str _=>true
 |_=>false
def Cn.den(ρ:List AV):Cn->Prop
 | .dfd x=>x.den ρ≠ .undef
 | .agg x n=> ∃cs,x.den ρ= .agg cs/\cs.length=n
 | .cells x _=>(∀cs,x.den ρ≠ .agg cs)/\ ∀cs,x.den ρ≠ .tup cs
 | .inb i x sz=> ∃kk k m,i.den ρ= .int kk k/\0<=k/\(x.den ρ).len= .int .i64 m/\k<m/\((x.den ρ).nth k.toNat).cells.length=sz
 | .inbS i x=> ∃kk k s,i.den ρ= .int kk k/\x.den ρ= .str s/\0<=k/\k<s.length
 | .winS x lo hi=> ∃ka a kb b s,lo.den ρ= .int ka a/\hi.den ρ= .int kb b/\x.den ρ= .str s/\0<=a/\a<=b/\b<=s.length
 | .win x lo hi=> ∃ka a kb b m,lo.den ρ= .int ka a/\hi.den ρ= .int kb b/\(x.den ρ).len= .int .i64 m/\0<=a/\a<=b/\b<=m
 | .room x y bytes=> ∃m k,(x.den ρ).len= .int .i64 m/\(y.den ρ).len= .int .i64 k/\(m+k)*bytes<=140737488355328/\m+k<=140737488355328
 | .roomS x y=> ∃a b,x.den ρ= .str a/\y.den ρ= .str b/\a.length+b.length<=9223372036854775807
 | .mkroom n bytes=> ∃kk k,n.den ρ= .int kk k/\0<=k/\k*bytes<=140737488355328/\k<=140737488355328
 | .nz x=> ∃k n,x.den ρ= .int k n/\n≠0
 | .nn x=> ∃k n,x.den ρ= .int k n/\0<=n
 | .isref x n=> ∃y,x.den ρ= .ref y/\n<=y.cells.length
 | .issl x sz=> ∃xs,x.den ρ= .sl xs/\ ∀y∈xs,y.cells.length=sz
 | .flat x n g=>(x.den ρ).cells.length=n/\(∀y∈(x.den ρ).cells,y.scalar=true)/\(g=true-> ∃cs,x.den ρ= .agg cs)/\(g=false->(x.den ρ).scalar=true)
 | .flatS x sz=> ∃xs,x.den ρ= .sl xs/\ ∀y∈xs,y.cells.length=sz/\ ∀z∈y.cells,z.scalar=true
 | .kinds x ks=> ∃cs,x.den ρ= .agg cs/\cs.map AV.sk=ks.map some
theorem BG{ρ:List AV}{q:Cn}{l:List Cn}(h:∀r∈q::l,r.den ρ):q.den ρ:=h q (by simp)
theorem Ha{w:World}{vs:List Value}{xs:List AV}{f:List Nat}(h:Rd w vs xs f)(hx:∀x∈xs,x.scalar=true):f=[]:=by
 induction h with
 |nil=>rfl
 |int _ _ ih=>exact ih λx hm=>hx x (by simp[hm])
 |bool _ ih=>exact ih λx hm=>hx x (by simp[hm])
 |str _ _ ih=>exact ih λx hm=>hx x (by simp[hm])
 |di _ _=>have:=hx _ List.mem_cons_self;simp[AV.scalar]at this
 |en _ _ _ _ _ _ _ _ _ _ _ _=>have:=hx _ List.mem_cons_self;simp[AV.scalar]at this
 |agg _ _ _ _ _=>have:=hx _ List.mem_cons_self;simp[AV.scalar]at this
 |tup _ _ _ _=>have:=hx _ List.mem_cons_self;simp[AV.scalar]at this
 |ref _ _ _ _ _ _=>have:=hx _ List.mem_cons_self;simp[AV.scalar]at this
 |fn _ _ _ _=>have:=hx _ List.mem_cons_self;simp[AV.scalar]at this
 |dd _ _=>have:=hx _ List.mem_cons_self;simp[AV.scalar]at this
structure Bh(P:Program)(c:Cx)(n nx:Nat)(sl:Nat->SV)(hp:Nat->Option Ah)(a:Act)(sl0:Nat->SV)(hp0:Nat->Option Ah)(o:Oper)(gs:Gd):Prop where
 rel:Rel c n sl hp a
 gs:Bc c.ρ gs
 sl:∀t,Operand.tmp t∈o.op.operands->sl0 t=sl t
 hp:∀t e,hp0 t=some e->hp t=some e
 new:∀t,nx<=t->t<nx+999-> ¬c.U t
structure L3(c c':Cx)(nx:Nat):Prop where
 ρ:c'.ρ=c.ρ
 A:c'.A=c.A
 w0:c'.w0=c.w0
 Mu:c'.Mu=c.Mu
 U:∀t,c'.U t->c.U t\/(nx<=t/\t<nx+Bx)
theorem L3.refl(c:Cx)(nx:Nat):L3 c c nx:=⟨rfl,rfl,rfl,rfl,λ_ h=> .inl h⟩
def Aw(P:Program)(o:Oper)(c:Cx)(n nx:Nat)(sl:Nat->SV)(hp:Nat->Option Ah)(gs:Gd)(a:Act)(e:A2):Prop:=
 ∀(next:Act->World->Prop) (Q:Exit->Act->World->Prop),(∀a' c',L3 c c' nx->Rel c' n (zip n sl o.dst (mkGd gs e.val)) (A8 hp e.a6) a'->next a' c'.w)->o.wp P a c.w next Q
section
variable {P:Program} {c:Cx} {n nx:Nat} {sl sl0:Nat->SV} {hp hp0:Nat->Option Ah} {a:Act} {o:Oper} {gs:Gd}
theorem Bh.eh(h:Bh P c n nx sl hp a sl0 hp0 o gs):EH c hp0:=λt e hr=>h.rel.ents t e (by
 cases ho:hp0 t with
 |none=>rw[ho]at hr;exact hr.elim
 |some e'=>rw[h.hp t e' ho];rwa[ho]at hr)
theorem Bh.ch(h:Bh P c n nx sl hp a sl0 hp0 o gs){x:Operand}{s:SV}(hx:Bn sl0 gs x=some s)(hm:x∈o.op.operands):SR c [s] [a.eval x]:=
 Uz hx (λt ht=>by subst ht;rw[h.sl t hm];exact h.rel.cv t) h.gs
theorem Aw.pure(h:Bh P c n nx sl hp a sl0 hp0 o gs){e:A2}{v:Value}(hr:(execOp a.eval o).run P c.w= .ok (.value v) c.w)(hv:SR c [e.val] [v])(he:e.a6=[]):Aw P o c n nx sl hp gs a e:=by
 intro next Q hk
 unfold Oper.wp;rw[hr,Oper.upon_value];exact hk _ c (L3.refl _ _) (by rw[he];exact h.rel.put (hv.mkGd gs h.gs) o.dst)
theorem Aw.skip(h:Bh P c n nx sl hp a sl0 hp0 o gs){e:A2}(hr:(execOp a.eval o).run P c.w= .ok .skip c.w)(hv:e.val= .undef)(he:e.a6=[]):Aw P o c n nx sl hp gs a e:=by
 intro next Q hk
 unfold Oper.wp;rw[hr,Oper.upon_skip];exact hk _ c (L3.refl _ _) (by rw[he,hv];exact h.rel.put ((SR.undef .nil).mkGd gs h.gs) o.dst)
theorem Jc{v:Value}{x:AV}{cs:List AV}{w:World}{f:List Nat}(h:Rd w [v] [x] f)(hx:x= .agg cs):∃as_,v= .agg as_.toArray/\(∀u∈as_,u.oneCell'=true)/\Rd w as_ cs f:=by
 subst hx;rcases h.kind with h|h|h|h|h|h|h|h|h|h
 ·obtain⟨_,_,_,h,_⟩:=h;cases h
 ·obtain⟨_,_,h,_⟩:=h;cases h
 ·obtain⟨_,_,h,_⟩:=h;cases h
 ·obtain⟨_,_,_,h,_⟩:=h;cases h
 ·obtain⟨_,_,_,_,_,_,_,_,_,_,_,_,h,_⟩:=h;cases h
 ·obtain⟨as_,cs',h1,h2,h3⟩:=h;cases h2;exact⟨as_,h1,h3⟩
 ·obtain⟨_,_,_,h,_⟩:=h;cases h
 ·obtain⟨_,_,_,_,_,_,_,h,_⟩:=h;cases h
 ·obtain⟨_,_,_,_,h,_⟩:=h;cases h
 ·obtain⟨_,h,_⟩:=h;cases h
theorem FC{v:Value}{x:AV}{k:IntKind}{m:Int}{w:World}{f:List Nat}(h:Rd w [v] [x] f)(hx:x= .int k m):v= .int k m/\EV k m:=by subst hx;cases h;exact⟨rfl,by assumption⟩
theorem HF{v:Value}{x:AV}{b:Bool}{w:World}{f:List Nat}(h:Rd w [v] [x] f)(hx:x= .bool b):v= .bool b:=by subst hx;cases h;rfl
theorem Py{v:Value}{x:AV}{l:List UInt8}{w:World}{f:List Nat}(h:Rd w [v] [x] f)(hx:x= .str l):∃s:ByteArray,v= .string s/\l=s.data.toList/\s.size<=9223372036854775807:=by generalize hy:AV.str l=y at hx;subst hx;cases h<;>cases hy;exact⟨_,rfl,rfl,by assumption⟩
theorem mU{v:Value}{x:AV}{y:AV}{w:World}{f:List Nat}(h:Rd w [v] [x] f)(hx:x= .ref y):∃b,v= .pointer (some ⟨b,0,none⟩):=by subst hx;cases h;exact⟨_,rfl⟩
theorem zyU{v:Value}{x:AV}{cs:List AV}{w:World}{f:List Nat}(h:Rd w [v] [x] f)(hx:x= .tup cs):∃as_,v= .tuple as_.toArray/\Rd w as_ cs f:=by
 subst hx;cases h with
 |tup h1 h2=>cases h2;exact⟨_,rfl,by simpa using h1⟩
theorem jN(h:Bh P c n nx sl hp a sl0 hp0 o gs){x:Operand}(ho:o.op= .move x\/o.op= .assign x){s:SV}(hx:Bn sl0 gs x=some s):Aw P o c n nx sl hp gs a {val:=s}:=by refine Aw.pure h (v:=a.eval x) ?_ (h.ch hx (by rcases ho with ho|ho<;>simp[ho,Op.operands])) rfl;rcases ho with ho|ho<;>simp[execOp,ho]
theorem xR(h:Bh P c n nx sl hp a sl0 hp0 o gs){x:Operand}(ho:o.op= .nilCheck x){e:A2}{sg:BR}{nv:Nat}(he:Bz P sg sl0 hp0 nv nx gs o=some e)(hc:∀q∈e.bg,Cn.den c.ρ q):Aw P o c n nx sl hp gs a e:=by
 have hm:x∈o.op.operands:=by simp[ho,Op.operands]
 simp only[Bz,ho,As]at he;obtain⟨s,hs,he⟩:=he;have hr:=h.ch hs hm;have key:∀(v:Value),a.eval x=v->(∃b:Addr,v= .pointer (some b))->(execOp a.eval o).run P c.w= .ok (.value v) c.w:=by rintro v hv ⟨b,rfl⟩;simp only[execOp,ho,hv];rfl
 split at he
 ·simp at he;subst he;obtain⟨y,hy,_⟩:=BG hc;generalize ha:a.eval x=v at hr;cases hr with
  |e h1 h2 _=>obtain⟨b,rfl⟩:=mU h1 hy;exact Aw.pure h (key _ ha ⟨_,rfl⟩) (.c7 h1 h2 .nil) rfl
 ·simp at he;subst he;generalize ha:a.eval x=v at hr;cases hr with
  |ca h1 h2 _=>exact Aw.pure h (key _ ha ⟨_,rfl⟩) (.ca h1 h2 .nil) rfl
 ·simp at he;subst he;generalize ha:a.eval x=v at hr;cases hr with
  |cd h1 h2 h3 h4 h5 _=>exact Aw.pure h (key _ ha ⟨_,rfl⟩) (.cd h1 h2 h3 h4 h5 .nil) rfl
 ·simp at he;subst he;generalize ha:a.eval x=v at hr;cases hr with
  |cz h1 h2 h3 h4 h5 h6 _=>exact Aw.pure h (key _ ha ⟨_,rfl⟩) (.cz h1 h2 h3 h4 h5 h6 .nil) rfl
 ·simp at he;subst he;generalize ha:a.eval x=v at hr;cases hr with
  |c7 h1 h2 _=>exact Aw.pure h (key _ ha ⟨_,rfl⟩) (.c7 h1 h2 .nil) rfl
 ·rename_i b g m q y i sz p;split at he
  ·rename_i hv;simp at he;subst he;have hE:=Pl h.eh h.gs hv;generalize ha:a.eval x=v at hr;cases hr with
   |vptr h1 h2 h3 _=>obtain⟨_,_,_,_,_,_,_,_,_,_,_,_,rfl⟩:=h3 hE;exact Aw.pure h (key _ ha ⟨_,rfl⟩) (.vptr h1 h2 h3 .nil) rfl
  ·cases he
 ·cases he
theorem iP{t:TypeId}(h:P.cellsOf t≠0)(w:World):(sizeOf t).run P w= .ok (P.cellsOf t) w:=by
 unfold Program.cellsOf at h ⊢;cases hi:P.info? t with
 |none=>simp[hi]at h
 |some i=>simp[sizeOf,typeInfo,hi]
theorem M5{t:TypeId}(h:C2 P t=true)(w:World):(sizeOf t).run P w= .ok (P.cellsOf t) w:=by
 unfold C2 at h;unfold Program.cellsOf;cases hi:P.info? t with
 |none=>simp[hi]at h
 |some i=>simp[sizeOf,typeInfo,hi]
theorem RM{t:TypeId}(h:C2 P t=true)(w:World):(isAgg t).run P w= .ok (An P t) w:=by
 unfold C2 at h;cases hu:P.underlying t with
 |none=>simp[hu]at h
 |some d=>simp only[isAgg,An,hu];cases d<;>simp[run_underlying hu]
theorem jT{w:World}{p:Addr}{v:Value}(h:w.cell? p=some v):(load p).run P w= .ok v w:=by simp only[load,Sem.run,h]
theorem eS{w:World}{b:Nat}:∀(vs:List Value) (off i:Nat) (acc:Array Value),(∀j u,vs[j]?=some u->w.cell? ⟨b,off+i+j,none⟩=some u)->
  (loadCellsFrom ⟨b,off,none⟩ i vs.length acc).run P w= .ok (acc++vs.toArray) w
 | [],off,i,acc,h=>by simp[loadCellsFrom]
 |v::vs,off,i,acc,h=>by
  have h0:=h 0 v rfl;have ih:=eS (w:=w) (b:=b) vs off (i+1) (acc.push v) (λj u hu=>by have:=h (j+1) u (by simpa using hu);rw[show off+(i+1)+j=off+i+(j+1)from by omega];exact this)
  simp only[Nat.add_zero]at h0;simp only[Ao,loadCellsFrom,Addr.add_lit];simp[jT h0,ih]
theorem OS{w:World}{t:TypeId}{b off:Nat}(h:C2 P t=true)(vs:List Value)(hl:An P t=true->vs.length=P.cellsOf t)(Bw:An P t=false->vs.length=1)
  (hc:∀j u,vs[j]?=some u->w.cell? ⟨b,off+j,none⟩=some u):(Instr.loadAt t (.pointer (some ⟨b,off,none⟩))).run P w= .ok (if An P t then .agg vs.toArray else vs.headD undef) w:=by
 simp only[Instr.loadAt,Instr.sureAddr,loadVar];cases ha:An P t with
 |true=>have:=eS (P:=P) (w:=w) (b:=b) vs off 0 #[] (by simpa using hc);rw[hl ha]at this;simp[RM h,ha,M5 h,loadCells,this]
 |false=>obtain⟨v,rfl⟩:=List.length_eq_one_iff.1 (Bw ha);have:=hc 0 v rfl;simp only[Nat.add_zero]at this;simp[RM h,ha,jT this,this]
theorem SR.ptrOff{s s':SV}{v:Value}{k:Nat}(h:SR c [s] [v])(hv:∀t g m q y i sz p,s= .vptr t g m q y i sz p->c.E t=m)(hp:Go.Proofs.YtkpifpljpoochaaGreatDoor.ptrOff s k=some s'):∃b off,v= .pointer (some ⟨b,off,none⟩)/\SR c [s'] [.pointer (some ⟨b,off+k,none⟩)]:=by
 cases h with
 |ca h1 h2 _=>simp[Go.Proofs.YtkpifpljpoochaaGreatDoor.ptrOff]at hp;subst hp;exact⟨_,_,rfl, .ca h1 h2 .nil⟩
 |cd h1 h2 h3 h4 h5 _=>simp[Go.Proofs.YtkpifpljpoochaaGreatDoor.ptrOff]at hp;subst hp;have:=SR.cd (c:=c) (sz:=‹_›) (o:=‹_›) h1 h2 h3 h4 h5 .nil;refine⟨_,_,rfl,?_⟩;rw[Nat.add_assoc];exact .cd h1 h2 h3 h4 h5 .nil
 |cz h1 h2 h3 h4 h5 h6 _=>simp[Go.Proofs.YtkpifpljpoochaaGreatDoor.ptrOff]at hp;subst hp;exact⟨_,_,rfl,by rw[Nat.add_assoc];exact .cz h1 h2 h3 h4 h5 h6 .nil⟩
 |c7 h1 h2 _=>simp[Go.Proofs.YtkpifpljpoochaaGreatDoor.ptrOff]at hp;subst hp;exact⟨_,_,rfl, .c7 h1 h2 .nil⟩
 |vptr h1 h2 h3 _=>simp[Go.Proofs.YtkpifpljpoochaaGreatDoor.ptrOff]at hp;subst hp;obtain⟨b,off,len,cap,kk,kv,q1,q2,q3,q4,q5,q6,rfl⟩:=h3 (hv _ _ _ _ _ _ _ _ rfl);exact⟨_,_,rfl, .vptr h1 h2 (λ_=>⟨b,off,len,cap,kk,kv,q1,q2,q3,q4,q5,q6,by rw[Nat.add_assoc]⟩) .nil⟩
 |_=>simp[Go.Proofs.YtkpifpljpoochaaGreatDoor.ptrOff]at hp
theorem SR.asPtr{s:SV}{v:Value}(h:SR c [s] [v])(hc:∀q∈(Go.Proofs.YtkpifpljpoochaaGreatDoor.asPtr s).2,q.den c.ρ):SR c [(Go.Proofs.YtkpifpljpoochaaGreatDoor.asPtr s).1] [v]:=by
 cases s with
 |e x=>
  cases h with
  |e h1 h2 _=>obtain⟨y,hy,_⟩:=BG hc;obtain⟨b,rfl⟩:=mU h1 hy;exact .c7 h1 h2 .nil
 |_=>exact h
theorem vY(h:Bh P c n nx sl hp a sl0 hp0 o gs){t:TypeId}{x:Operand}{f:Nat}(ho:o.op= .fieldAddr t x f){e:A2}{sg:BR}{nv:Nat}(he:Bz P sg sl0 hp0 nv nx gs o=some e)(hc:∀q∈e.bg,Cn.den c.ρ q):Aw P o c n nx sl hp gs a e:=by
 have hm:x∈o.op.operands:=by simp[ho,Op.operands]
 simp only[Bz,ho,As]at he;obtain⟨s,hs,he⟩:=he;have hr:=h.ch hs hm;split at he
 ·rename_i fs hu;split at he
  ·rename_i fd hf;split at he
   ·cases he
   ·rename_i hz;simp only[not_or,Bt,Bool.not_eq_false]at hz;obtain⟨hz,rF⟩:=hz;obtain⟨s',Bd,rfl⟩:=Aq.1 he;obtain⟨b,off,hv,CL⟩:=(hr.asPtr hc).ptrOff (λt g m q y i sz p hh=>Pl (t:=t) h.eh h.gs (by
     cases s with
     |vptr=>simp only[asPtr,SV.vptr.injEq]at hh;obtain⟨rfl,_,rfl,_⟩:=hh;exact rF
     |e=>simp[asPtr]at hh
     |_=>simp[asPtr]at hh)) Bd
    refine Aw.pure h ?_ CL rfl;simp[execOp,ho,Instr.fieldAt,run_underlying hu,hf,hv,Instr.sureAddr,fieldPlace,iP hz,hz,Addr.add_lit]
  ·cases he
 ·cases he
theorem RO{sz:Nat}:∀(ys:List AV),(∀y∈ys,y.cells.length=sz)-> ∀k y,ys[k]?=some y-> ∀o m,o+m<=sz->((AA ys).drop (k*sz+o)).take m=(y.cells.drop o).take m
 | [],_,k,y,h,_,_,_=>by simp at h
 |z::ys,hs,0,y,h,o,m,hm=>by simp at h;subst h;have hz:=hs z (by simp);simp only[AA,List.flatMap_cons,Nat.zero_mul,Nat.zero_add];rw[List.drop_append_of_le_length (by omega),List.take_append_of_le_length (by simp;omega)]
 |z::ys,hs,k+1,y,h,o,m,hm=>by have hz:=hs z (by simp);have ih:=RO ys (λq hq=>hs q (by simp[hq])) k y (by simpa using h) o m hm;rw[<-ih];simp only[AA,List.flatMap_cons];rw[show(k+1)*sz+o=z.cells.length+(k*sz+o)from by rw[hz,Nat.add_mul];omega,List.drop_append,List.drop_eq_nil_of_le (by omega)];simp
theorem M8{sz:Nat}:∀(ys:List AV),(∀y∈ys,y.cells.length=sz)->(AA ys).length=ys.length*sz
 | [],_=>by simp[AA]
 |z::ys,hs=>by have:=M8 ys (λq hq=>hs q (by simp[hq]));simp only[AA,List.flatMap_cons,Ap,Ao]at this ⊢;rw[this,hs z (by simp),Nat.add_mul];omega
theorem LL{xs:List AV}{k:Nat}(h:k<xs.length):xs[k]?=some ((AV.sl xs).nth k):=by simp[AV.nth,h]
theorem Rd.gv{w:World}{vs:List Value}{x:AV}{f:List Nat}(h:Rd w vs x.cells f)(h9:∀u∈vs,u.oneCell'=true)(o m:Nat)(g:Bool)(hm:o+m<=x.cells.length)(h1:g=false->m=1):
  ∃q,(∀b∈q,b∈f)/\Rd w [if g then .agg ((vs.drop o).take m).toArray else((vs.drop o).take m).headD undef] [x.fld o m g] q:=by
 obtain⟨q,hq,hr⟩:=h.piece o m;cases g with
 |true=>exact⟨q,hq,by have:=Rd.agg (λu hu=>h9 u (Cd (BM hu))) hr .nil;simpa[AV.fld]using this⟩
 |false=>
  have:=h1 rfl;subst this;have hl:=h.len;have e1:(vs.drop o).take 1=[vs[o]'(by omega)]:=by rw[BL (by omega),List.take_succ_cons,List.take_zero]
  have e2:(x.cells.drop o).take 1=[x.cells[o]'(by omega)]:=by rw[BL (by omega),List.take_succ_cons,List.take_zero]
  rw[e1,e2]at hr;refine⟨q,hq,?_⟩;simpa[e1,AV.fld,show o<x.cells.length by omega]using hr
theorem ZG{w:World}{b off len cap:Nat}{xs:AV}{f:List Nat}{t:TypeId}{k sz fo:Nat}(hr:Rd w [.slice (some ⟨b,off,none⟩) len cap] [xs] f)(hk:k<len)(BY:(xs.nth k).cells.length=sz)(ht:C2 P t=true)(hfo:fo+P.cellsOf t<=sz)(hg:An P t=true\/P.cellsOf t=1):
  ∃v q,(Instr.loadAt t (.pointer (some ⟨b,off+k*sz+fo,none⟩))).run P w= .ok v w/\(∀c∈q,c∈f.tail)/\Rd w [v] [(xs.nth k).fld fo (P.cellsOf t) (An P t)] q:=by
 cases hr with
 |di=>omega
 |en hb h1 h2 h3 h4 h5 h6 Gi h7 h8=>
  rename_i ys cs C ty fz sz' f1 f2;have hy:=LL (xs:=ys) (k:=k) (by omega);have Bd:sz'=sz:=by rw[<-BY];exact(h4 _ (List.mem_of_getElem? hy)).symm
  subst Bd;have F3:=M8 ys h4;have HW:(k+1)*sz'<=ys.length*sz':=BB _ (by omega);rw[Nat.add_mul]at HW;have hp:=RO ys h4 k _ hy 0 sz' (by omega);obtain⟨q0,rG,F7⟩:=h7.piece (k*sz'+0) sz';rw[hp]at F7;have AF:(((AV.sl ys).nth k).cells.drop 0).take sz'=((AV.sl ys).nth k).cells:=by rw[List.drop_zero,List.take_of_length_le (by omega)]
  rw[AF]at F7;have hlen:=h7.len;obtain⟨q,hq,hv⟩:=F7.gv (λu hu=>Gi u (Cd (BM hu))) fo (P.cellsOf t) (An P t) (by omega) (λh=>by rcases hg with h'|h';rw[h]at h';cases h';exact h');have Bi:(((cs.drop (k*sz'+0)).take sz').drop fo).take (P.cellsOf t)=(cs.drop (k*sz'+fo)).take (P.cellsOf t):=by rw[List.drop_take,List.take_take,List.drop_drop,Nat.add_zero,Nat.min_eq_left (by omega)]
  rw[Bi]at hv;have K8:((cs.drop (k*sz'+fo)).take (P.cellsOf t)).length=P.cellsOf t:=by rw[A1,Dp];omega
  refine⟨_,q,OS ht ((cs.drop (k*sz'+fo)).take (P.cellsOf t)) (λ_=>K8) (λh=> ?_) (λj u hu=> ?_),λz hz=> ?_,hv⟩
  ·rw[K8];rcases hg with h'|h';rw[h]at h';cases h';exact h'
  ·rw[D5 hb];rw[List.getElem?_take]at hu;split at hu
   ·rw[List.getElem?_drop]at hu;have:=h6 _ _ hu;rw[<-this];congr 1;omega
   ·cases hu
  ·have:=rG z (hq z hz);simp[this]
end
abbrev JK:=List AV->Prop
abbrev LK:=List JK->Xt->St->List AV->Prop
def Ia(body:JK->List AV->Prop):Nat->List AV->Prop
 |0,_=>False
 |n+1,vs=>body (Ia body n) vs
section
variable (Rt:Nat->List AV->AV->Prop) (R:AV->Prop)
def HG(f:Nat ⊕ E)(args:List AV)(ρ:List AV)(r:AV):Prop:=
 match f with
 | .inl f=>Rt f args r
 | .inr x=> ∃g caps,x.den ρ= .fn g caps/\Rt (1000000+g) (args++caps) r/\ ∀y∈r.cells,y.scalar=true
def Tr.den:Tr->LK->List JK->List AV->Prop
 | .leaf x σ,L,js,ρ=>L js x σ ρ
 | .ret r,_,_,ρ=>R (r.den ρ)
 | .jmp d es,_,js,ρ=>match js[d]? with|some j=>j (es.den ρ)|none=>False
 | .ite c a b,L,js,ρ=> ∃t,c.den ρ= .bool t/\(t=true->a.den L js ρ)/\(t=false->b.den L js ρ)
 | .bg gs c k,L,js,ρ=>(Bc ρ gs->c.den ρ)/\k.den L js ρ
 | .call gs f args k,L,js,ρ=> ∃r,(Bc ρ gs->HG Rt f (args.den ρ) ρ r)/\k.den L js (ρ++ [r])
 | .br gs x k,L,js,ρ=> ∀b,(Bc ρ gs->b=true->x.den ρ= .sl [])->k.den L js (ρ++ [.bool b])
 | .stuck,_,_,_=>False
 | .join t k,L,js,ρ=>t.den L ((λvs=>k.den L js (ρ++vs))::js) ρ
 | .loop i b k,L,js,ρ=> ∃n,Ia (λW vs=>b.den L (W::(λus=>k.den L js (ρ++us))::js) (ρ++vs)) n (i.den ρ)
end
def Tr.dr:Tr->Xt->St->Prop
 | .leaf x σ,y,τ=>x=y/\σ=τ
 | .ret _,_,_=>False
 | .jmp ..,_,_=>False
 | .stuck,_,_=>False
 | .ite _ a b,y,τ=>a.dr y τ\/b.dr y τ
 | .bg _ _ k,y,τ=>k.dr y τ
 | .call _ _ _ k,y,τ=>k.dr y τ
 | .br _ _ k,y,τ=>k.dr y τ
 | .join t k,y,τ=>t.dr y τ\/k.dr y τ
 | .loop _ b k,y,τ=>b.dr y τ\/k.dr y τ
theorem Tr.dr.norm{t:Tr}{τ:St}(h:t.dr .normal τ):τ∈t.cw:=by
 induction t with
 |leaf x σ=>obtain⟨rfl,rfl⟩:=h;simp[Tr.cw]
 |ret|jmp|stuck=>exact h.elim
 |ite c a b iha ihb=>simp only[Tr.cw,Ag];exact h.imp iha ihb
 |bg _ _ k ih|call _ _ _ k ih|br _ _ k ih=>exact ih h
 |join t k iht ihk=>simp only[Tr.cw,Ag];exact h.imp iht ihk
 |loop _ b k ihb ihk=>simp only[Tr.cw,Ag];exact h.imp ihb ihk
inductive DU:List JK->List JK->Prop where
 |nil:DU [] []
 |cons {j j' js js'}:(∀vs,j vs->j' vs)->DU js js'->DU (j::js) (j'::js')
theorem DU.refl:∀js,DU js js
 | []=> .nil
 |_::js=> .cons (λ_ h=>h) (DU.refl js)
theorem DU.get{js js':List JK}(h:DU js js'):∀{d:Nat} {j:JK},js[d]?=some j-> ∃j',js'[d]?=some j'/\ ∀vs,j vs->j' vs:=by
 induction h with
 |nil=>intro d j hd;simp at hd
 |cons h1 _ ih=>
  intro d j hd;cases d with
  |zero=>simp at hd;subst hd;exact⟨_,rfl,h1⟩
  |succ d=>simpa using ih (by simpa using hd)
theorem DU.app{a b c d:List JK}(h:DU a b)(k:DU c d):DU (a++c) (b++d):=by
 induction h with
 |nil=>exact k
 |cons h1 _ ih=>exact .cons h1 ih
theorem DU.len{a b:List JK}(h:DU a b):a.length=b.length:=by induction h<;>simp_all
theorem Y8{b b':JK->List AV->Prop}(h:∀W W',(∀vs,W vs->W' vs)-> ∀vs,b W vs->b' W' vs):∀n vs,Ia b n vs->Ia b' n vs
 |0,_,hh=>hh.elim
 |n+1,vs,hh=>h _ _ (Y8 h n) vs hh
def Je(L:LK):Prop:= ∀js js' x τ ρ,DU js js'->L js x τ ρ->L js' x τ ρ
section
variable {Rt:Nat->List AV->AV->Prop} {R:AV->Prop}
theorem Tr.du(t:Tr):∀{L L':LK} {js js':List JK} {ρ:List AV},t.den Rt R L js ρ->DU js js'->
  (∀i i' x τ ρ',t.dr x τ->DU i i'->L (i++js) x τ ρ'->L' (i'++js') x τ ρ')->t.den Rt R L' js' ρ:=by
 induction t with
 |leaf x σ=>intro L L' js js' ρ h hj hl;exact hl [] [] x σ ρ ⟨rfl,rfl⟩ .nil h
 |ret r=>intro L L' js js' ρ h hj hl;exact h
 |stuck=>intro L L' js js' ρ h hj hl;exact h
 |jmp d es=>
  intro L L' js js' ρ h hj hl;simp only[Tr.den]at h ⊢;cases hd:js[d]? with
  |none=>rw[hd]at h;exact h.elim
  |some j=>rw[hd]at h;obtain⟨j',J1,qF⟩:=hj.get hd;rw[J1];exact qF _ h
 |ite c a b iha ihb=>intro L L' js js' ρ h hj hl;obtain⟨t,h1,h2,h3⟩:=h;exact⟨t,h1,λht=>iha (h2 ht) hj λi i' x τ ρ' hf=>hl i i' x τ ρ' (.inl hf),λht=>ihb (h3 ht) hj λi i' x τ ρ' hf=>hl i i' x τ ρ' (.inr hf)⟩
 |bg gs c k ih=>intro L L' js js' ρ h hj hl;exact⟨h.1,ih h.2 hj hl⟩
 |call gs f args k ih=>intro L L' js js' ρ h hj hl;obtain⟨r,h1,h2⟩:=h;exact⟨r,h1,ih h2 hj hl⟩
 |br gs x k ih=>intro L L' js js' ρ h hj hl;exact λb hb=>ih (h b hb) hj hl
 |join t k iht ihk=>intro L L' js js' ρ h hj hl;refine iht (js':=(λvs=>k.den Rt R L' js' (ρ++vs))::js') h (.cons (λvs hv=>ihk hv hj λi i' x τ ρ' hf=>hl i i' x τ ρ' (.inr hf)) hj) λi i' x τ ρ' hf hi hL=> ?_;have:=hl (i++ [_]) (i'++ [_]) x τ ρ' (.inl hf) (hi.app (.cons (λvs hv=>ihk hv hj λi i' x τ ρ' hf=>hl i i' x τ ρ' (.inr hf)) .nil)) (by simpa using hL);simpa using this
 |loop i0 b k ihb ihk=>intro L L' js js' ρ h hj hl;obtain⟨n,hn⟩:=h;refine⟨n,Y8 (λW W' hW vs hv=> ?_) n _ hn⟩;have hk:∀us,k.den Rt R L js (ρ++us)->k.den Rt R L' js' (ρ++us):=λus hu=>ihk hu hj λi i' x τ ρ' hf=>hl i i' x τ ρ' (.inr hf);refine ihb hv (.cons hW (.cons hk hj)) λi i' x τ ρ' hf hi hL=> ?_;have:=hl (i++ [W,_]) (i'++ [W',_]) x τ ρ' (.inl hf) (hi.app (.cons hW (.cons hk .nil))) (by simpa using hL);simpa using this
theorem Tr.fc(t:Tr){L:LK}(hL:Je L){js js':List JK}{ρ:List AV}(h:t.den Rt R L js ρ)(hj:DU js js'):t.den Rt R L js' ρ:=
 t.du h hj λ_ _ x τ ρ' _ hi hl=>hL _ _ x τ ρ' (hi.app hj) hl
def VW(Rt:Nat->List AV->AV->Prop)(R:AV->Prop)(f:Nat->Xt->St->Option Tr)(L:LK)(m d:Nat):LK:=λjs x τ ρ=> ∃r d',f d' x τ=some r/\js.length+d=m+d'/\r.den Rt R L js ρ
theorem RJ{f:Nat->Xt->St->Option Tr}{L:LK}(hL:Je L)(m d:Nat):Je (VW Rt R f L m d):=by rintro js js' x τ ρ hj ⟨r,d',h1,h2,h3⟩;exact⟨r,d',h1,by rw[<-hj.len];exact h2,r.fc hL h3 hj⟩
theorem Tr.dt(f:Nat->Xt->St->Option Tr){L:LK}(hL:Je L)(t:Tr):∀{d:Nat} {t':Tr} {js:List JK} {ρ:List AV},t.sub f d=some t'->t'.den Rt R L js ρ->t.den Rt R (VW Rt R f L js.length d) js ρ:=by
 induction t with
 |leaf x σ=>intro d t' js ρ h hd;exact⟨t',d,h,rfl,hd⟩
 |ret r=>intro d t' js ρ h hd;simp only[Tr.sub,Af]at h;subst h;exact hd
 |stuck=>intro d t' js ρ h hd;simp only[Tr.sub,Af]at h;subst h;exact hd
 |jmp i es=>intro d t' js ρ h hd;simp only[Tr.sub,Af]at h;subst h;exact hd
 |ite c a b iha ihb=>
  intro d t' js ρ h hd;simp only[Tr.sub]at h;split at h
  ·rename_i x y hx hy;simp at h;subst h;obtain⟨t,h1,h2,h3⟩:=hd;exact⟨t,h1,λht=>iha hx (h2 ht),λht=>ihb hy (h3 ht)⟩
  ·cases h
 |bg g c k ih=>intro d t' js ρ h hd;obtain⟨k',hk,rfl⟩:=Aq.1 h;exact⟨hd.1,ih hk hd.2⟩
 |call g h0 as_ k ih=>intro d t' js ρ h hd;obtain⟨k',hk,rfl⟩:=Aq.1 h;obtain⟨r,h1,h2⟩:=hd;exact⟨r,h1,ih hk h2⟩
 |br g x k ih=>intro d t' js ρ h hd;obtain⟨k',hk,rfl⟩:=Aq.1 h;exact λb hb=>ih hk (hd b hb)
 |join t k iht ihk=>
  intro d t' js ρ h hd;simp only[Tr.sub]at h;split at h
  ·rename_i x y hx hy;simp at h;subst h;have h1:=iht hx hd;have hk:∀vs,y.den Rt R L js (ρ++vs)->k.den Rt R (VW Rt R f L js.length d) js (ρ++vs):=λvs hv=>ihk hy hv;refine t.du h1 (.cons hk (DU.refl js)) λi i' x τ ρ' _ hi hl=> ?_;obtain⟨r,d',e1,e2,e3⟩:=hl;refine⟨r,d',e1,?_,r.fc hL e3 (hi.app (.cons hk (DU.refl js)))⟩;have:=hi.len;simp only[Ap,Ao]at e2 ⊢;omega
  ·cases h
 |loop i0 b k ihb ihk=>
  intro d t' js ρ h hd;simp only[Tr.sub]at h;split at h
  ·rename_i x y hx hy;simp at h;subst h;obtain⟨n,hn⟩:=hd;refine⟨n,Y8 (λW W' hW vs hv=> ?_) n _ hn⟩;have h1:=ihb hx hv;have hk:∀vs,y.den Rt R L js (ρ++vs)->k.den Rt R (VW Rt R f L js.length d) js (ρ++vs):=λvs hv=>ihk hy hv;refine b.du h1 (.cons hW (.cons hk (DU.refl js))) λi i' x τ ρ' _ hi hl=> ?_;obtain⟨r,d',e1,e2,e3⟩:=hl;refine⟨r,d',e1,?_,r.fc hL e3 (hi.app (.cons hW (.cons hk (DU.refl js))))⟩;have:=hi.len;simp only[Ap,Ao]at e2 ⊢;omega
  ·cases h
end
def getI{α:Type}(xs:List α)(i:Int):Option α:=if 0<=i then xs[i.toNat]? else none
open Classical in
noncomputable def req{α:Type}(p:Prop)(k:Option α):Option α:= @ite _ p (propDecidable p) k none
def Bg{α:Type}(xs:List α)(lo hi:Int):List α:=(xs.take hi.toNat).drop lo.toNat
def Fe{σ α:Type}(body:σ->Option (σ ⊕ Option α)):Nat->σ->Option α
 |0,_=>none
 |n+1,s=>match body s with
  |none=>none
  |some (.inl s')=>Fe body n s'
  |some (.inr o)=>o
theorem iR{σ α:Type}{body:σ->Option (σ ⊕ Option α)}:∀{n:Nat} {s:σ} {r:α},Fe body n s=some r->Fe body (n+1) s=some r
 |0,_,_,h=>by cases h
 |n+1,s,r,h=>by
  rcases hb:body s with _|s'|o
  ·simp[Fe,hb]at h
  ·have h':Fe body n s'=some r:=by simpa[Fe,hb]using h
   have:=iR h';simp only[Fe,hb]at this ⊢;exact this
  ·have h':o=some r:=by simpa[Fe,hb]using h
   simp[Fe,hb,h']
theorem lF{σ α:Type}{body:σ->Option (σ ⊕ Option α)}{n m:Nat}(hm:n<=m){s:σ}{r:α}(h:Fe body n s=some r):Fe body m s=some r:=by
 induction hm with
 |refl=>exact h
 |step _ ih=>exact iR ih
open Classical in
noncomputable def AX{σ α:Type}(body:σ->Option (σ ⊕ Option α))(s:σ):Option α:=
 if h:∃n r,Fe body n s=some r then some (Classical.choose (Classical.choose_spec h))else none
theorem UQ{σ α:Type}{body:σ->Option (σ ⊕ Option α)}{s:σ}{r:α}:AX body s=some r↔ ∃n,Fe body n s=some r:=by
 unfold AX;constructor
 ·intro h;split at h
  ·rename_i hx;simp only[Af]at h;exact⟨_,h▸Classical.choose_spec (Classical.choose_spec hx)⟩
  ·cases h
 ·rintro⟨n,hn⟩;have hx:∃n r,Fe body n s=some r:=⟨n,r,hn⟩
  rw[dif_pos hx];have h2:=Classical.choose_spec (Classical.choose_spec hx);have h3:=lF (Nat.le_max_left n (Classical.choose hx)) hn;have h4:=lF (Nat.le_max_right n (Classical.choose hx)) h2;rw[h3]at h4;exact h4.symm
theorem G8{σ α:Type}(body:σ->Option (σ ⊕ Option α))(s:σ):AX body s=match body s with|none=>none|some (.inl s')=>AX body s'|some (.inr o)=>o:=by
 apply Option.ext;intro r;rw[UQ];constructor
 ·rintro⟨n,hn⟩;cases n with
  |zero=>cases hn
  |succ n=>
   rcases hb:body s with _|s'|o
   ·simp[Fe,hb]at hn
   ·exact UQ.2 ⟨n,by simpa[Fe,hb]using hn⟩
   ·simpa[Fe,hb]using hn
 ·intro h;rcases hb:body s with _|s'|o
  ·simp[hb]at h
  ·simp only[hb]at h;obtain⟨n,hn⟩:=UQ.1 h;exact⟨n+1,by simpa[Fe,hb]using hn⟩
  ·exact⟨1,by simpa[Fe,hb]using h⟩
def bQ{σ α:Type}(t:Option (σ ⊕ Option α))(k:σ->Option α):Option α:=match t with
 |none=>none
 |some (.inl s)=>k s
 |some (.inr o)=>o
noncomputable def nT:Nat:=Classical.choose (⟨100000,Ay _⟩:∃n,100000<=n)
theorem JJ{α β:Type}{o:Option α}{k:α->Option β}{r:β}(h:o.bind k=some r):∃x,o=some x/\k x=some r:=by
 cases o with
 |none=>cases h
 |some x=>exact⟨x,rfl,h⟩
theorem GL{α:Type}{p:Prop}{k:Option α}{r:α}(h:req p k=some r):p/\k=some r:=by
 unfold req at h;split at h
 ·exact⟨‹_›,h⟩
 ·cases h
theorem bG{α:Type}{xs:List α}{i:Int}{x:α}(h:getI xs i=some x):0<=i/\i<xs.length/\xs[i.toNat]?=some x:=by
 unfold getI at h;split at h
 ·rename_i h0;have:=(List.getElem?_eq_some_iff.1 h).1;exact⟨h0,by omega,h⟩
 ·cases h
end
section
inductive Ty where
 |i (k:IntKind)
 |b
 |s
 |l (t:Ty)
 |st (n:Nat)
@[reducible] def DG(car:Nat->Type):Ty->Type
 | .i _=>Int
 | .b=>Bool
 | .s=>List UInt8
 | .l t=>List (DG car t)
 | .st n=>car n
@[reducible] def HL(car:Nat->Type):List Ty->Type
 | []=>Unit
 |t::ts=>DG car t × HL car ts
def BP{car:Nat->Type}(av:∀n,car n->AV):(t:Ty)->DG car t->AV
 | .i k,n=> .int k n
 | .b,x=> .bool x
 | .s,x=> .str x
 | .l t,xs=> .sl (xs.map (BP av t))
 | .st n,x=>av n x
def Hm{car:Nat->Type}(av:∀n,car n->AV):(ts:List Ty)->HL car ts->List AV
 | [],_=> []
 |t::ts,x=>BP av t x.1::Hm av ts x.2
structure NK(car:Nat->Type)(aa:List Ty)(r:Ty)where
 φ:HL car aa->Option (DG car r)
 g:Nat
 caps:List AV
structure HU where
 Rt:Nat->List AV->AV->Prop
 car:Nat->Type
 av:∀n,car n->AV
 tys:Nat->List Ty
 out:∀n,car n->HL car (tys n)
 mn:∀n,HL car (tys n)->car n
 gn:∀n x,av n x= .agg (Hm av (tys n) (out n x))
 me:∀n h,out n (mn n h)=h
def Ty.lk:(x y:Ty)->Option (PLift (x=y))
 | .i k, .i k'=>if h:k=k' then some ⟨by rw[h]⟩else none
 | .b, .b=>some ⟨rfl⟩
 | .s, .s=>some ⟨rfl⟩
 | .l x, .l y=>match Ty.lk x y with
  |some ⟨h⟩=>some ⟨by rw[h]⟩
  |none=>none
 | .st n, .st m=>if h:n=m then some ⟨by rw[h]⟩else none
 |_,_=>none
section
variable (T:HU)
def oL(aa:List Ty)(r:Ty)(c:NK T.car aa r):Prop:= ∀ys z,c.φ ys=some z->T.Rt (1000000+c.g) (Hm T.av aa ys++c.caps) (BP T.av r z)
mutual
inductive V where
 |v (t:Ty) (x:DG T.car t)
 |nl
 |li (vs:VL)
 |rp (n:Int) (z:V)
 |ag (vs:VL)
 |tu (vs:VL)
 |rf (x:V)
 |cl (f:Nat) (vs:VL)
 |pf (aa:List Ty) (r:Ty) (c:NK T.car aa r) (h:oL T aa r c)
 |no
inductive VL where
 |nil
 |cons (x:V) (vs:VL)
end
end
variable {T:HU}
def VL.app:VL T->VL T->VL T
 | .nil,b=>b
 | .cons x a,b=> .cons x (a.app b)
def VL.dg:VL T->List (V T)
 | .nil=> []
 | .cons x a=>x::a.dg
def VL.of:List (V T)->VL T
 | []=> .nil
 |x::a=> .cons x (VL.of a)
mutual
def V.den:V T->AV
 | .v t x=>BP T.av t x
 | .nl=> .sl []
 | .li vs=> .sl vs.den
 | .rp n z=> .sl (List.replicate n.toNat z.den)
 | .ag vs=> .agg vs.den
 | .tu vs=> .tup vs.den
 | .rf x=> .ref x.den
 | .cl f vs=> .fn f vs.den
 | .pf _ _ c _=> .fn c.g c.caps
 | .no=> .undef
def VL.den:VL T->List AV
 | .nil=> []
 | .cons x vs=>x.den::vs.den
end
theorem VL.den_app:∀(a b:VL T),(a.app b).den=a.den++b.den
 | .nil,b=>rfl
 | .cons x a,b=>by simp[VL.app,VL.den,VL.den_app a b]
theorem VL.az:∀(a:VL T),a.dg.map V.den=a.den
 | .nil=>rfl
 | .cons x a=>by simp[VL.dg,VL.den,VL.az a]
theorem VL.c8:∀(a:List (V T)),(VL.of a).den=a.map V.den
 | []=>rfl
 |x::a=>by simp[VL.of,VL.den,VL.c8 a]
theorem VL.db(a:VL T):a.dg.length=a.den.length:=by rw[<-VL.az];simp
mutual
def V.to:V T->(t:Ty)->Option (DG T.car t)
 | .v a x,t=>match Ty.lk a t with
  |some ⟨h⟩=>some (h▸x)
  |none=>none
 | .nl, .l _=>some []
 | .li vs, .l t=>vs.fm t
 | .rp n z, .l t=>match z.to t with
  |some x=>some (List.replicate n.toNat x)
  |none=>none
 | .ag vs, .st n=>match vs.kj (T.tys n)with
  |some h=>some (T.mn n h)
  |none=>none
 |_,_=>none
def VL.fm:VL T->(t:Ty)->Option (List (DG T.car t))
 | .nil,_=>some []
 | .cons x vs,t=>match x.to t,vs.fm t with
  |some y,some ys=>some (y::ys)
  |_,_=>none
def VL.kj:VL T->(ts:List Ty)->Option (HL T.car ts)
 | .nil,[]=>some ()
 | .cons x vs,t::ts=>match x.to t,vs.kj ts with
  |some y,some ys=>some (y,ys)
  |_,_=>none
 |_,_=>none
end
mutual
theorem V.cb:∀(v:V T) {t:Ty} {x:DG T.car t},v.to t=some x->v.den=BP T.av t x
 | .v a y,t,x,h=>by
  simp only[V.to]at h;split at h
  ·rename_i e _;cases e;cases h;rfl
  ·cases h
 | .nl, .l _,x,h=>by cases h;rfl
 | .nl, .i _,x,h| .nl, .b,x,h| .nl, .s,x,h| .nl, .st _,x,h=>by simp[V.to]at h
 | .li vs, .l t,x,h=>by simp only[V.to]at h;simp only[V.den,BP];rw[VL.dv vs h]
 | .li _, .i _,x,h| .li _, .b,x,h| .li _, .s,x,h| .li _, .st _,x,h=>by simp[V.to]at h
 | .rp n z, .l t,x,h=>by
  simp only[V.to]at h;split at h
  ·rename_i y hy;cases h;simp[V.den,BP,V.cb z hy]
  ·cases h
 | .rp _ _, .i _,x,h| .rp _ _, .b,x,h| .rp _ _, .s,x,h| .rp _ _, .st _,x,h=>by simp[V.to]at h
 | .ag vs, .st n,x,h=>by
  simp only[V.to]at h;split at h
  ·rename_i y hy;cases h;simp only[V.den,BP];rw[T.gn,T.me,VL.fg vs hy]
  ·cases h
 | .ag _, .i _,x,h| .ag _, .b,x,h| .ag _, .s,x,h| .ag _, .l _,x,h=>by simp[V.to]at h
 | .tu _,t,x,h| .rf _,t,x,h| .cl _ _,t,x,h| .pf ..,t,x,h| .no,t,x,h=>by cases t<;>simp[V.to]at h
theorem VL.dv:∀(vs:VL T) {t:Ty} {xs:List (DG T.car t)},vs.fm t=some xs->vs.den=xs.map (BP T.av t)
 | .nil,t,xs,h=>by cases h;rfl
 | .cons x vs,t,xs,h=>by
  simp only[VL.fm]at h;split at h
  ·rename_i y ys h1 h2;cases h;simp[VL.den,V.cb x h1,VL.dv vs h2]
  ·cases h
theorem VL.fg:∀(vs:VL T) {ts:List Ty} {xs:HL T.car ts},vs.kj ts=some xs->vs.den=Hm T.av ts xs
 | .nil,[],xs,h=>by cases h;rfl
 | .nil,_::_,xs,h=>by simp[VL.kj]at h
 | .cons _ _,[],xs,h=>by simp[VL.kj]at h
 | .cons x vs,t::ts,xs,h=>by
  simp only[VL.kj]at h;split at h
  ·rename_i y ys h1 h2;cases h;simp[VL.den,Hm,V.cb x h1,VL.fg vs h2]
  ·cases h
end
def VZ:(ts:List Ty)->HL T.car ts->VL T
 | [],_=> .nil
 |t::ts,x=> .cons (.v t x.1) (VZ ts x.2)
theorem kF:∀(ts:List Ty) (x:HL T.car ts),(VZ ts x).den=Hm T.av ts x
 | [],_=>rfl
 |t::ts,x=>by simp[VZ,VL.den,V.den,Hm,kF ts x.2]
def V.lv:V T->Option (VL T)
 | .v (.st n) x=>some (VZ (T.tys n) (T.out n x))
 | .ag vs=>some vs
 |_=>none
theorem V.c6{v:V T}{vs:VL T}(h:v.lv=some vs):v.den= .agg vs.den:=by
 unfold V.lv at h;split at h
 ·cases h;simp only[V.den,BP];rw[T.gn,kF]
 ·cases h;rfl
 ·cases h
def V.one:V T->Bool
 | .v (.st _) _=>false
 | .v _ _=>true
 | .nl| .li _| .rp _ _=>true
 |_=>false
theorem V.one_cells{v:V T}(h:v.one=true):v.den.cells=[v.den]/\(∀cs,v.den≠ .agg cs)/\(∀cs,v.den≠ .tup cs):=by
 cases v with
 |v t x=>cases t<;>first|(simp[V.one]at h;done)|(refine⟨rfl,?_,?_⟩<;>intro cs h'<;>cases h')
 |nl|li|rp=>simp[V.den,AV.cells]
 |ag|tu|rf|cl|pf|no=>simp[V.one]at h
def V.scalar:V T->Bool
 | .v (.i _) _| .v .b _| .v .s _=>true
 |_=>false
theorem V.dj{v:V T}(h:v.scalar=true):v.den.scalar=true:=by unfold V.scalar at h;split at h<;>first|rfl|cases h
def V.nc(v:V T):Option Nat:=match v.lv with
 |some vs=>some vs.dg.length
 |none=>if v.one then some 1 else none
theorem V.eo{v:V T}{n:Nat}(h:v.nc=some n):v.den.cells.length=n:=by
 unfold V.nc at h;split at h
 ·rename_i vs hv;cases h;rw[V.c6 hv,VL.db];rfl
 ·split at h
  ·rename_i h1;cases h;rw[(V.one_cells h1).1];rfl
  ·cases h
def V.flat(v:V T):Bool:=match v.lv with
 |some vs=>vs.dg.all V.scalar
 |none=>v.scalar
theorem V.er{v:V T}(h:v.flat=true):∀y∈v.den.cells,y.scalar=true:=by
 unfold V.flat at h;split at h
 ·rename_i vs hv;rw[V.c6 hv];intro y hy;have:y∈vs.den:=hy;rw[<-VL.az,List.mem_map]at this;obtain⟨x,hx,rfl⟩:=this;exact V.dj (A0.1 h x hx)
 ·have hs:=V.dj h;intro y hy;cases hd:v.den<;>rw[hd]at hs hy<;>simp[AV.scalar]at hs<;>(simp only[AV.cells,List.mem_singleton]at hy;subst hy;rfl)
def VU:Ty->Bool
 | .st _=>false
 |_=>true
def Tq(T:HU):Ty->Nat
 | .st n=>(T.tys n).length
 |_=>1
def aR(T:HU):Ty->Bool
 | .st n=>(T.tys n).all λt=>match t with| .i _| .b| .s=>true|_=>false
 | .i _| .b| .s=>true
 |_=>false
theorem lB{car:Nat->Type}(av:∀n,car n->AV):∀(ts:List Ty) (x:HL car ts),(Hm av ts x).length=ts.length
 | [],_=>rfl
 |t::ts,x=>by simp[Hm,lB av ts x.2]
theorem Sb(t:Ty)(x:DG T.car t):(BP T.av t x).cells.length=Tq T t:=by
 cases t with
 |st n=>simp only[BP,Tq];rw[T.gn];exact lB _ _ _
 |_=>rfl
theorem jM{car:Nat->Type}(av:∀n,car n->AV):∀(ts:List Ty) (x:HL car ts),(ts.all λt=>match t with| .i _| .b| .s=>true|_=>false)=true-> ∀y∈Hm av ts x,y.scalar=true
 | [],_,_,y,hy=>by cases hy
 |t::ts,x,h,y,hy=>by
  simp only[List.all_cons,Ae]at h;rcases Ad.1 hy with rfl|hy
  ·cases t<;>first|rfl|(simp at h)
  ·exact jM av ts x.2 h.2 y hy
theorem U1{t:Ty}(h:aR T t=true)(x:DG T.car t):∀y∈(BP T.av t x).cells,y.scalar=true:=by
 cases t with
 |st n=>simp only[BP];rw[T.gn];exact jM _ _ _ h
 |l t=>cases h
 |_=>intro y hy;simp only[BP,AV.cells,List.mem_singleton]at hy;subst hy;rfl
def V.l6:V T->Nat->Bool
 | .v (.l t) _,n=>Tq T t==n
 | .nl,_=>true
 | .li vs,n=>vs.dg.all λv=>v.nc==some n
 | .rp _ z,n=>z.nc==some n
 |_,_=>false
def V.gi:V T->Bool
 | .v (.l t) _=>aR T t
 | .nl=>true
 | .li vs=>vs.dg.all V.flat
 | .rp _ z=>z.flat
 |_=>false
def V.mi:V T->Bool
 | .v (.l _) _| .nl| .li _| .rp _ _=>true
 |_=>false
theorem V.ju{v:V T}(h:v.mi=true):∃xs,v.den= .sl xs:=by unfold V.mi at h;split at h<;>first|exact⟨_,rfl⟩|cases h
theorem V.gj{v:V T}{n:Nat}(h:v.l6 n=true):∃xs,v.den= .sl xs/\ ∀y∈xs,y.cells.length=n:=by
 unfold V.l6 at h;split at h
 ·simp only[Ax]at h;refine⟨_,rfl,λy hy=> ?_⟩;obtain⟨x,_,rfl⟩:=List.mem_map.1 hy;rw[Sb,h]
 ·exact⟨_,rfl,by simp⟩
 ·rename_i vs _;refine⟨_,rfl,λy hy=> ?_⟩;rw[<-VL.az]at hy;obtain⟨x,hx,rfl⟩:=List.mem_map.1 hy;exact V.eo (by simpa using A0.1 h x hx)
 ·refine⟨_,rfl,λy hy=> ?_⟩;rw[List.eq_of_mem_replicate hy];exact V.eo (by simpa using h)
 ·cases h
theorem V.gh{v:V T}(h:v.gi=true):∃xs,v.den= .sl xs/\ ∀y∈xs,∀z∈y.cells,z.scalar=true:=by
 unfold V.gi at h;split at h
 ·refine⟨_,rfl,λy hy=> ?_⟩;obtain⟨x,_,rfl⟩:=List.mem_map.1 hy;exact U1 h x
 ·exact⟨_,rfl,by simp⟩
 ·rename_i vs;refine⟨_,rfl,λy hy=> ?_⟩;rw[<-VL.az]at hy;obtain⟨x,hx,rfl⟩:=List.mem_map.1 hy;exact V.er (A0.1 h x hx)
 ·refine⟨_,rfl,λy hy=> ?_⟩;rw[List.eq_of_mem_replicate hy];exact V.er h
 ·cases h
def V.fld(v:V T)(o n:Nat)(g:Bool):Option (V T):=match v.lv with
 |some vs=>if g then(if o=0/\n=vs.dg.length then some v else if o+n<=vs.dg.length then some (.ag (.of ((vs.dg.drop o).take n)))else none)else vs.dg[o]?
 |none=>if g=false/\o=0/\v.one=true then some v else none
theorem V.jn{v x:V T}{o n:Nat}{g:Bool}(h:v.fld o n g=some x):v.den.fld o n g=x.den:=by
 unfold V.fld at h;split at h
 ·rename_i vs hv;rw[V.c6 hv];cases g with
  |true=>
   simp only[if_true]at h;split at h
   ·rename_i h1;cases h;obtain⟨rfl,rfl⟩:=h1;rw[V.c6 hv];simp[AV.fld,AV.cells,VL.db]
   ·split at h
    ·cases h;simp only[AV.fld,AV.cells,if_true,V.den,VL.c8];rw[<-VL.az,List.map_take,List.map_drop]
    ·cases h
  |false=>simp only[BX,if_false]at h;simp[AV.fld,AV.cells,<-VL.az,h]
 ·split at h
  ·rename_i h1;cases h;obtain⟨rfl,rfl,h1⟩:=h1;simp[AV.fld,(V.one_cells h1).1]
  ·cases h
end
section
variable {T:HU}
inductive Fa(T:HU)where
 |ix (x i:E) (v:V T)
 |sx (x i:E) (y:UInt8)
 |tx (y:E)
 |bo (c:E) (b:Bool)
def Fa.OK(ρ:List AV):Fa T->Prop
 | .ix x i v=> ∃k n xs,i.den ρ= .int k n/\x.den ρ= .sl xs/\0<=n/\n<xs.length/\xs[n.toNat]?=some v.den
 | .sx x i y=> ∃k n s,i.den ρ= .int k n/\x.den ρ= .str s/\0<=n/\n<s.length/\s[n.toNat]?=some y
 | .tx y=>(y.den ρ).text≠ .undef
 | .bo c b=>c.den ρ= .bool b
def Fa.sc(n:Nat):Fa T->Bool
 | .ix x i _=>x.sc n&&i.sc n
 | .sx x i _=>x.sc n&&i.sc n
 | .tx y=>y.sc n
 | .bo c _=>c.sc n
theorem Fa.move{f:Fa T}{ρ τ τ':List AV}(hs:f.sc ρ.length=true)(h:f.OK (ρ++τ)):f.OK (ρ++τ'):=by
 cases f with
 |ix x i v=>simp only[Fa.sc,Ae]at hs;simp only[Fa.OK]at h ⊢;rw[E.ao ρ τ' τ x hs.1,E.ao ρ τ' τ i hs.2];exact h
 |sx x i y=>simp only[Fa.sc,Ae]at hs;simp only[Fa.OK]at h ⊢;rw[E.ao ρ τ' τ x hs.1,E.ao ρ τ' τ i hs.2];exact h
 |tx y=>simp only[Fa.OK]at h ⊢;rw[E.ao ρ τ' τ y hs];exact h
 |bo c b=>simp only[Fa.OK]at h ⊢;rw[E.ao ρ τ' τ c hs];exact h
def JG(x i:E):List (Fa T)->Option (V T)
 | []=>none
 | .ix y j v::l=>if y.beq x&&j.beq i then some v else JG x i l
 |_::l=>JG x i l
def Pw(x i:E):List (Fa T)->Option UInt8
 | []=>none
 | .sx y j v::l=>if y.beq x&&j.beq i then some v else Pw x i l
 |_::l=>Pw x i l
def D9(x:E):List (Fa T)->Bool
 | []=>false
 | .tx y::l=>y.beq x||D9 x l
 |_::l=>D9 x l
def SD(c:E):List (Fa T)->Option Bool
 | []=>none
 | .bo d b::l=>if d.beq c then some b else SD c l
 |_::l=>SD c l
abbrev Dh(ρ:List AV)(fa:List (Fa T)):Prop:= ∀f∈fa,f.OK ρ
theorem U6{x i:E}{ρ:List AV}:∀{fa:List (Fa T)} {v:V T},JG x i fa=some v->Dh ρ fa-> ∃k n xs,i.den ρ= .int k n/\x.den ρ= .sl xs/\0<=n/\n<xs.length/\xs[n.toNat]?=some v.den
 |f::l,v,h,ho=>by
  cases f with
  |ix y j w=>
   simp only[JG]at h;split at h
   ·rename_i hb;cases h;simp only[Ae]at hb;rw[<-E.aj ρ _ _ hb.1,<-E.aj ρ _ _ hb.2];exact ho (.ix y j v) (by simp)
   ·exact U6 h λf hf=>ho f (by simp[hf])
  |sx|tx|bo=>exact U6 (fa:=l) h λf hf=>ho f (by simp[hf])
theorem Vd{x i:E}{ρ:List AV}:∀{fa:List (Fa T)} {y:UInt8},Pw x i fa=some y->Dh ρ fa-> ∃k n s,i.den ρ= .int k n/\x.den ρ= .str s/\0<=n/\n<s.length/\s[n.toNat]?=some y
 |f::l,v,h,ho=>by
  cases f with
  |sx y j w=>
   simp only[Pw]at h;split at h
   ·rename_i hb;cases h;simp only[Ae]at hb;rw[<-E.aj ρ _ _ hb.1,<-E.aj ρ _ _ hb.2];exact ho (.sx y j v) (by simp)
   ·exact Vd h λf hf=>ho f (by simp[hf])
  |ix|tx|bo=>exact Vd (fa:=l) h λf hf=>ho f (by simp[hf])
theorem Zy{x:E}{ρ:List AV}:∀{fa:List (Fa T)},D9 x fa=true->Dh ρ fa->(x.den ρ).text≠ .undef
 |f::l,h,ho=>by
  cases f with
  |tx y=>
   simp only[D9,Bool.or_eq_true]at h;rcases h with h|h
   ·rw[<-E.aj ρ _ _ h];exact ho (.tx y) (by simp)
   ·exact Zy h λf hf=>ho f (by simp[hf])
  |ix|sx|bo=>exact Zy (fa:=l) h λf hf=>ho f (by simp[hf])
theorem Z0{c:E}{ρ:List AV}:∀{fa:List (Fa T)} {b:Bool},SD c fa=some b->Dh ρ fa->c.den ρ= .bool b
 |f::l,v,h,ho=>by
  cases f with
  |bo d w=>
   simp only[SD]at h;split at h
   ·rename_i hb;cases h;rw[<-E.aj ρ _ _ hb];exact ho (.bo d v) (by simp)
   ·exact Z0 h λf hf=>ho f (by simp[hf])
  |ix|sx|tx=>exact Z0 (fa:=l) h λf hf=>ho f (by simp[hf])
def Ic(fa:List (Fa T)):E->Option Bool
 | .bool b=>some b
 | .not a=>(Ic fa a).map (!·)
 | .ite c a b=>match Ic fa c with
  |some true=>Ic fa a
  |some false=>Ic fa b
  |none=>none
 |e=>SD e fa
theorem I7{fa:List (Fa T)}{ρ:List AV}(ho:Dh ρ fa):∀{e:E} {b:Bool},Ic fa e=some b->e.den ρ= .bool b
 |e,b,h=>by
  cases e
  case bool=>cases h;rfl
  case not a=>
   simp only[Ic,Aq]at h;obtain⟨x,hx,rfl⟩:=h;simp only[E.den,I7 ho hx,AV.dz]
  case ite c x y=>
   simp only[Ic]at h;split at h
   ·rename_i hc;simp only[E.den,I7 ho hc,AV.cond,I7 ho h]
   ·rename_i hc;simp only[E.den,I7 ho hc,AV.cond,I7 ho h]
   ·cases h
  all_goals exact Z0 h ho
def KW(n:Nat)(fa:List (Fa T)):E->Bool->List (Fa T)
 | .not a,b=>KW n fa a (!b)
 |c,b=>if c.sc n then .bo c b::fa else fa
theorem R2{n:Nat}{fa:List (Fa T)}{ρ:List AV}(ho:Dh ρ fa):∀{e:E} {b:Bool},e.den ρ= .bool b->Dh ρ (KW n fa e b)
 |e,b,h=>by
  cases e
  case not a=>
   refine R2 ho (e:=a) ?_;simp only[E.den]at h;cases ha:a.den ρ<;>simp only[ha,AV.dz]at h<;>cases h;simp
  all_goals
   simp only[KW];split
   ·intro f hf;rcases Ad.1 hf with rfl|hf
    ·exact h
    ·exact ho f hf
   ·exact ho
theorem R3{n:Nat}{fa:List (Fa T)}(hs:∀f∈fa,f.sc n=true):∀{e:E} {b:Bool},∀f∈KW n fa e b,f.sc n=true
 |e,b=>by
  cases e
  case not a=>exact R3 hs (e:=a)
  all_goals
   simp only[KW];split
   ·rename_i hc;intro f hf;rcases Ad.1 hf with rfl|hf
    ·exact hc
    ·exact hs f hf
   ·exact hs
def V.int?:V T->Option (IntKind × Int)
 | .v (.i k) n=>some (k,n)
 |_=>none
def V.bool?:V T->Option Bool
 | .v .b x=>some x
 |_=>none
def V.str?:V T->Option (List UInt8)
 | .v .s x=>some x
 |_=>none
theorem V.int?_den{v:V T}{k:IntKind}{n:Int}(h:v.int?=some (k,n)):v.den= .int k n:=by unfold V.int? at h;split at h<;>cases h;rfl
theorem V.bool?_den{v:V T}{b:Bool}(h:v.bool?=some b):v.den= .bool b:=by unfold V.bool? at h;split at h<;>cases h;rfl
theorem V.str?_den{v:V T}{s:List UInt8}(h:v.str?=some s):v.den= .str s:=by unfold V.str? at h;split at h<;>cases h;rfl
def vI(k:IntKind)(n:Int):V T:= .v (.i k) n
def vB(b:Bool):V T:= .v .b b
def vS(s:List UInt8):V T:= .v .s s
@[simp] theorem Su(k:IntKind)(n:Int):(vI k n:V T).den= .int k n:=rfl
@[simp] theorem Sn(b:Bool):(vB b:V T).den= .bool b:=rfl
@[simp] theorem zzd(s:List UInt8):(vS s:V T).den= .str s:=rfl
def oF(op:BinOp)(k:IntKind)(a b:Int):V T:=
 match op with
 | .add=>vI k (k.wrap (a+b))
 | .sub=>vI k (k.wrap (a-b))
 | .mul=>vI k (k.wrap (a*b))
 | .quo=>vI k (k.wrap (a.tdiv b))
 | .rem=>vI k (a.tmod b)
 | .eql=>vB (a==b)
 | .neq=>vB (a !=b)
 | .lss=>vB (a<b)
 | .leq=>vB (a<=b)
 | .gtr=>vB (a>b)
 | .geq=>vB (a>=b)
 | .and=>vI k (k.wrap (BitVec.ofInt k.bits a&&&BitVec.ofInt k.bits b).toNat)
 | .or=>vI k (k.wrap (BitVec.ofInt k.bits a|||BitVec.ofInt k.bits b).toNat)
 | .xor=>vI k (k.wrap (BitVec.ofInt k.bits a^^^BitVec.ofInt k.bits b).toNat)
 | .andNot=>vI k (k.wrap (BitVec.ofInt k.bits a&&& ~~~BitVec.ofInt k.bits b).toNat)
 | .shl=>vI k (k.wrap (a*2^(min b.toNat k.bits)))
 | .shr=>vI k (a.fdiv (2^(min b.toNat k.bits)))
theorem zwd(op:BinOp)(k:IntKind)(a b:Int):(oF op k a b:V T).den=BD op k a b:=by cases op<;>rfl
def bK(op:BinOp)(a b:List UInt8):Option (V T):=
 match op with
 | .add=>some (vS (a++b))
 | .eql=>some (vB (a==b))
 | .neq=>some (vB (a !=b))
 | .lss=>some (vB (Op.bytesLess a b))
 | .leq=>some (vB (Op.bytesLess a b||a==b))
 | .gtr=>some (vB (!(Op.bytesLess a b||a==b)))
 | .geq=>some (vB (!Op.bytesLess a b))
 |_=>none
theorem zuS{op:BinOp}{a b:List UInt8}{v:V T}(h:bK op a b=some v):v.den=Px op a b:=by cases op<;>simp only[bK,Af,reduceCtorEq]at h<;>subst h<;>rfl
def V.gg:V T->Option Int
 | .v (.l _) xs=>some (xs.length:Int)
 | .nl=>some ((0:Nat):Int)
 | .li vs=>some (vs.dg.length:Int)
 | .rp n _=>some (n.toNat:Int)
 |_=>none
theorem V.fj{v:V T}{n:Int}(h:v.gg=some n):∃xs:List AV,v.den= .sl xs/\(xs.length:Int)=n:=by
 unfold V.gg at h;split at h
 ·cases h;exact⟨_,rfl,by simp⟩
 ·cases h;exact⟨_,rfl,by simp⟩
 ·cases h;exact⟨_,rfl,by rw[VL.db]⟩
 ·cases h;exact⟨_,rfl,by simp⟩
 ·cases h
def V.kp:V T->V T->Option (V T)
 | .v (.l t) xs,y=>match y.to (.l t)with
  |some ys=>some (.v (.l t) (xs++ys))
  |none=>none
 | .nl,y=>if y.mi then some y else none
 | .li vs, .li ws=>some (.li (vs.app ws))
 | .li vs, .v (.l t) ys=>match vs.fm t with
  |some xs=>some (.v (.l t) (xs++ys))
  |none=>none
 |_,_=>none
theorem V.ik{a b c:V T}(h:a.kp b=some c):a.den.app b.den=c.den:=by
 unfold V.kp at h;split at h
 ·split at h
  ·rename_i t xs y ys hy;cases h;rw[V.cb _ hy];simp[V.den,BP,AV.app]
  ·cases h
 ·split at h
  ·rename_i hi;cases h;obtain⟨ys,hy⟩:=V.ju hi;rw[hy];rfl
  ·cases h
 ·cases h;simp[V.den,AV.app,VL.den_app]
 ·split at h
  ·rename_i hx;cases h;simp[V.den,BP,AV.app,VL.dv _ hx]
  ·cases h
 ·cases h
mutual
def V.ml:V T->Option Ty
 | .v t _=>some t
 | .li vs=>match vs.mf with
  |some t=>some (.l t)
  |none=>none
 |_=>none
def VL.mf:VL T->Option Ty
 | .cons x _=>x.ml
 | .nil=>none
end
def V.mh:V T->Option ((t:Ty) × List (DG T.car t))
 | .v (.l t) xs=>some ⟨t,xs⟩
 | .li vs=>match vs.mf with
  |some t=>(match V.to (.li vs) (.l t)with
   |some xs=>some ⟨t,xs⟩
   |none=>none)
  |none=>none
 |_=>none
theorem V.jh{v:V T}{t:Ty}{xs:List (DG T.car t)}(h:v.mh=some ⟨t,xs⟩):v.den= .sl (xs.map (BP T.av t)):=by
 unfold V.mh at h;split at h
 ·simp only[Af,Sigma.mk.injEq]at h;obtain⟨rfl,h⟩:=h;cases h;simp[V.den,BP]
 ·split at h
  ·split at h
   ·rename_i ys hy;simp only[Af,Sigma.mk.injEq]at h;obtain⟨rfl,h⟩:=h;cases h;rw[V.cb _ hy];simp[BP]
   ·cases h
  ·cases h
 ·cases h
def V.ky:V T->Int->Int->Option (V T)
 | .v (.l t) xs,a,b=>some (.v (.l t) (Bg xs a b))
 | .nl,_,_=>some .nl
 | .li vs,a,b=>match vs.mf with
  |some t=>(match V.to (.li vs) (.l t)with
   |some xs=>some (.v (.l t) (Bg xs a b))
   |none=>none)
  |none=>none
 |_,_,_=>none
theorem V.iz{v x:V T}{a b:Int}(h:v.ky a b=some x)(ka kb:IntKind):v.den.win (.int ka a) (.int kb b)=x.den:=by
 unfold V.ky at h;split at h
 ·cases h;simp[V.den,BP,AV.win,Bg,List.map_take,List.map_drop]
 ·cases h;simp[V.den,AV.win]
 ·split at h
  ·split at h
   ·rename_i xs hx;cases h;rw[V.cb _ hx];simp[V.den,BP,AV.win,Bg,List.map_take,List.map_drop]
   ·cases h
  ·cases h
 ·cases h
def V.kz:V T->Int->V T->Option (V T)
 | .v (.l t) xs,i,w=>match w.to t with
  |some y=>some (.v (.l t) (xs.set i.toNat y))
  |none=>none
 |_,_,_=>none
theorem V.jd{v w x:V T}{i:Int}(h:v.kz i w=some x)(k:IntKind):v.den.cr (.int k i) w.den=x.den:=by
 unfold V.kz at h;split at h
 ·split at h
  ·rename_i hy;cases h;simp[V.den,BP,AV.cr,V.cb _ hy,List.map_set]
  ·cases h
 ·cases h
def V.km(x:V T)(o:Nat)(v:V T)(g:Bool):Option (V T):=
 if g then match x.lv,(match v.lv with|some l=>some l|none=>if v.one then some (.cons v .nil)else none)with
  |some xs,some vs=>some (.ag (.of (xs.dg.take o++vs.dg++xs.dg.drop (o+vs.dg.length))))
  |_,_=>none
 else some v
theorem V.im{x v y:V T}{o:Nat}{g:Bool}(h:x.km o v g=some y):x.den.cx o v.den g=y.den:=by
 unfold V.km at h;cases g with
 |false=>simp at h;subst h;rfl
 |true=>
  simp only[if_true]at h;split at h
  ·rename_i xs vs hx hv;cases h;have hc:v.den.cells=vs.den:=by
    split at hv
    ·rename_i l hl;cases hv;rw[V.c6 hl];rfl
    ·split at hv
     ·rename_i h1;cases hv;rw[(V.one_cells h1).1];rfl
     ·cases hv
   rw[V.c6 hx];simp only[AV.cx,if_true,hc,V.den,VL.c8,List.map_append,List.map_take,List.map_drop,VL.az,VL.db];rfl
  ·cases h
def V.kq(n:Int):V T->V T
 | .v t z=> .v (.l t) (List.replicate n.toNat z)
 |z=> .rp n z
theorem V.ib(n:Int)(z:V T)(k:IntKind):(V.kq n z).den=AV.rep (.int k n) z.den:=by cases z<;>simp[V.kq,V.den,BP,AV.rep]
def V.l7:V T->V T->Option Bool
 | .v (.i _) a, .v (.i _) b=>some (a==b)
 | .v .b a, .v .b b=>some (a==b)
 | .v .s a, .v .s b=>some (a==b)
 |_,_=>none
def NH:List (V T)->List (V T)->Option Bool
 | [],[]=>some true
 | [x],[y]=>x.l7 y
 |x::xs,y::ys=>match x.l7 y,NH xs ys with
  |some a,some b=>some (a&&b)
  |_,_=>none
 |_,_=>none
theorem V.gq{x y:V T}{b:Bool}(h:x.l7 y=some b):x.den.seq y.den=b:=by unfold V.l7 at h;split at h<;>cases h<;>rfl
theorem kJ:∀{xs ys:List (V T)} {b:Bool},NH xs ys=some b->AV.leq (xs.map V.den) (ys.map V.den)=b
 | [],[],b,h=>by cases h;rfl
 | [x],[y],b,h=>by simp only[List.map_cons,List.map_nil,AV.leq,Bool.and_true];exact V.gq (x:=x) (y:=y) h
 |x::x'::xs,y::ys,b,h=>by
  simp only[NH]at h;split at h
  ·rename_i h1 h2;cases h;have:=kJ h2;simp only[List.map_cons]at this ⊢;rw[AV.leq,V.gq h1,this]
  ·cases h
 | [x],y::y'::ys,b,h=>by
  simp only[NH]at h;split at h
  ·rename_i h1 h2;cases h2
  ·cases h
 | [],_::_,b,h=>by simp[NH]at h
 |_::_,[],b,h=>by simp[NH]at h
def V.ki(x y:V T):Option Bool:=match x.lv,y.lv with
 |some a,some b=>NH a.dg b.dg
 |_,_=>none
theorem V.iu{x y:V T}{b:Bool}(h:x.ki y=some b):AV.aeq x.den y.den= .bool b:=by
 unfold V.ki at h;split at h
 ·rename_i h1 h2;rw[V.c6 h1,V.c6 h2];simp only[AV.aeq,<-VL.az,kJ h]
 ·cases h
def VL.get(i:Nat)(vs:VL T):Option (V T):=vs.dg[i]?
def Sx(fa:List (Fa T))(i:E):E->Bool
 | .set b j v=>(JG (.set b j v) i fa).isSome||(j.beq i&&Sx fa i b)
 |b=>(JG b i fa).isSome
section
variable (env:List (V T)) (fa:List (Fa T))
mutual
def AK:E->Option (V T)
 | .var i=>match env[i]? with
  |some .no=>none
  |some v=>some v
  |none=>none
 | .int k n=>some (vI k n)
 | .bool b=>some (vB b)
 | .str s=>some (vS s.data.toList)
 | .dd=>none
 | .lst es=>match es with
  | .nil=>some .nl
  |es=>(Ii es).map .li
 | .mk es=>(Ii es).map .ag
 | .tup es=>(Ii es).map .tu
 | .ref e=>(AK e).map .rf
 | .fn f es=>(Ii es).map (.cl f)
 | .fld e o n g=>(AK e).bind λv=>v.fld o n g
 | .proj e i=>match AK e with
  |some (.tu vs)=>vs.get i
  |_=>none
 | .deref e=>match AK e with
  |some (.rf x)=>some x
  |_=>none
 | .len e=>((AK e).bind V.gg).map (vI .i64)
 | .slen e=>((AK e).bind V.str?).map λs=>vI .i64 s.length
 | .idx x i=>match JG x i fa with
  |some v=>some v
  |none=>match x with
   | .set b j v=>if j.beq i&&Sx fa i b then AK v else none
   |_=>none
 | .sidx x i=>(Pw x i fa).map λy=>vI .u8 y.toNat
 | .win e a b=>match AK e,(AK a).bind V.int?,(AK b).bind V.int? with
  |some x,some p,some q=>x.ky p.2 q.2
  |_,_,_=>none
 | .swin e a b=>match(AK e).bind V.str?,(AK a).bind V.int?,(AK b).bind V.int? with
  |some x,some p,some q=>some (vS (Bg x p.2 q.2))
  |_,_,_=>none
 | .app a b=>match AK a,AK b with
  |some x,some y=>x.kp y
  |_,_=>none
 | .set x i v=>match AK x,(AK i).bind V.int?,AK v with
  |some x,some p,some w=>x.kz p.2 w
  |_,_,_=>none
 | .put x o v g=>match AK x,AK v with
  |some x,some w=>x.km o w g
  |_,_=>none
 | .rep n z=>match(AK n).bind V.int?,AK z with
  |some p,some w=>some (.kq p.2 w)
  |_,_=>none
 | .conv k e=>((AK e).bind V.int?).map λp=>vI k (k.wrap p.2)
 | .bin op a b=>match(AK a).bind V.int?,(AK b).bind V.int? with
  |some p,some q=>if p.1=q.1\/op= .shl\/op= .shr then some (oF op p.1 p.2 q.2)else none
  |_,_=>none
 | .sbin op a b=>match(AK a).bind V.str?,(AK b).bind V.str? with
  |some p,some q=>bK op p q
  |_,_=>none
 | .bbin op a b=>match(AK a).bind V.bool?,(AK b).bind V.bool? with
  |some p,some q=>(match op with
   | .eql=>some (vB (p==q))
   | .neq=>some (vB (p !=q))
   |_=>none)
  |_,_=>none
 | .aeq a b=>match AK a,AK b with
  |some x,some y=>(x.ki y).map vB
  |_,_=>none
 | .not a=>match Ic fa a with
  |some b=>some (vB (!b))
  |none=>((AK a).bind V.bool?).map λb=>vB (!b)
 | .neg a=>((AK a).bind V.int?).map λp=>vI p.1 (p.1.wrap (0-p.2))
 | .ite c a b=>match Ic fa c with
  |some true=>AK a
  |some false=>AK b
  |none=>match(AK c).bind V.bool? with
   |none=>none
   |some x=>
    if b.beq (.bool false)then((AK a).bind V.bool?).map λp=>vB (x&&p)else
    if a.beq (.bool true)then((AK b).bind V.bool?).map λp=>vB (x||p)else
    match AK a,AK b with
    |some (.v t p),some q=>(q.to t).map λq=> .v t (bif x then p else q)
    |_,_=>none
 | .bytes a=>((AK a).bind V.str?).map λx=> .v (.l (.i .u8)) (x.map λb=>(b.toNat:Int))
 | .text a=>if D9 a fa then(match AK a with
   |some x=>(x.to (.l (.i .u8))).map λl=>vS (l.map λn=>UInt8.ofNat n.toNat)
   |none=>none)else none
def Ii:EL->Option (VL T)
 | .nil=>some .nil
 | .cons e es=>match AK e,Ii es with
  |some x,some xs=>some (.cons x xs)
  |_,_=>none
end
end
theorem hY{fa:List (Fa T)}{x i:E}{ρ:List AV}(ho:Dh ρ fa){v:V T}(h:JG x i fa=some v):(x.den ρ).idx (i.den ρ)=v.den:=by obtain⟨k,n,xs,h1,h2,_,_,h5⟩:=U6 h ho;simp only[h1,h2,AV.idx,AV.nth,h5,BC]
theorem jX{fa:List (Fa T)}{i:E}{ρ:List AV}(ho:Dh ρ fa):∀{b:E},Sx fa i b=true-> ∃xs k n,b.den ρ= .sl xs/\i.den ρ= .int k n/\0<=n/\n<xs.length:=by
 have base:∀{b:E},(JG b i fa).isSome=true-> ∃xs k n,b.den ρ= .sl xs/\i.den ρ= .int k n/\0<=n/\n<xs.length:=by intro b h;obtain⟨v,hv⟩:=Option.isSome_iff_exists.1 h;obtain⟨k,n,xs,h1,h2,h3,h4,_⟩:=U6 hv ho;exact⟨xs,k,n,h2,h1,h3,h4⟩
 intro b h
 induction b using E.rec (motive_2:=λ_=>True)with
 |set b j v ihb _ _=>
  simp only[Sx,Bool.or_eq_true,Ae]at h;rcases h with h|h
  ·exact base h
  ·obtain⟨xs,k,n,h1,h2,h3,h4⟩:=ihb h.2;refine⟨xs.set n.toNat (v.den ρ),k,n,?_,h2,h3,by simpa using h4⟩;simp only[E.den,h1,E.aj ρ _ _ h.1,h2,AV.cr]
 |nil|cons=>trivial
 |_=>exact base h
mutual
theorem By{env:List (V T)}{fa:List (Fa T)}(ho:Dh (env.map V.den) fa):∀(e:E) {v:V T},AK env fa e=some v->e.den (env.map V.den)=v.den
 | .var i,v,h=>by
  simp only[AK]at h;simp only[E.den,List.getElem?_map];split at h
  ·cases h
  ·rename_i w _ hw;cases h;rw[hw];rfl
  ·cases h
 | .int k n,v,h=>by cases h;rfl
 | .bool b,v,h=>by cases h;rfl
 | .str s,v,h=>by cases h;rfl
 | .dd,v,h=>by simp[AK]at h
 | .lst .nil,v,h=>by simp only[AK]at h;cases h;rfl
 | .lst (.cons e es),v,h=>by simp only[AK,Aq]at h;obtain⟨vs,hv,rfl⟩:=h;simp only[E.den,V.den,KF ho (.cons e es) hv]
 | .mk es,v,h=>by simp only[AK,Aq]at h;obtain⟨vs,hv,rfl⟩:=h;simp only[E.den,V.den,KF ho es hv]
 | .tup es,v,h=>by simp only[AK,Aq]at h;obtain⟨vs,hv,rfl⟩:=h;simp only[E.den,V.den,KF ho es hv]
 | .ref e,v,h=>by simp only[AK,Aq]at h;obtain⟨w,hv,rfl⟩:=h;simp only[E.den,V.den,By ho e hv]
 | .fn f es,v,h=>by simp only[AK,Aq]at h;obtain⟨vs,hv,rfl⟩:=h;simp only[E.den,V.den,KF ho es hv]
 | .fld e o n g,v,h=>by simp only[AK,As]at h;obtain⟨w,hw,h⟩:=h;simp only[E.den,By ho e hw,V.jn h]
 | .proj e i,v,h=>by
  simp only[AK]at h;split at h
  ·rename_i vs hw;simp only[E.den,By ho e hw,V.den,AV.proj];unfold VL.get at h;rw[<-VL.az,List.getElem?_map,h];rfl
  ·cases h
 | .deref e,v,h=>by
  simp only[AK]at h;split at h
  ·rename_i x hw;cases h;simp only[E.den,By ho e hw,V.den,AV.deref]
  ·cases h
 | .len e,v,h=>by simp only[AK,Aq,As]at h;obtain⟨n,⟨w,hw,hn⟩,rfl⟩:=h;obtain⟨xs,h1,h2⟩:=V.fj hn;simp only[E.den,By ho e hw,h1,AV.len,h2,Su]
 | .slen e,v,h=>by simp only[AK,Aq,As]at h;obtain⟨n,⟨w,hw,hn⟩,rfl⟩:=h;simp only[E.den,By ho e hw,V.str?_den hn,AV.slen,Su]
 | .idx x i,v,h=>by
  have key:∀o,JG x i fa=o->(match o with|some v=>some v|none=>none)=some v->(x.den (env.map V.den)).idx (i.den (env.map V.den))=v.den:=by
   intro o QJ h;cases o with
   |none=>cases h
   |some w=>cases h;exact hY ho QJ
  by_cases hs:∃b j u,x= .set b j u
  ·obtain⟨b,j,u,hx⟩:=hs;have AI:SizeOf.sizeOf u<SizeOf.sizeOf x:=by rw[hx];simp;omega
   have ih:∀{v:V T},AK env fa u=some v->u.den (env.map V.den)=v.den:=λhv=>By ho u hv;clear AI;subst hx;simp only[AK]at h;split at h
   ·rename_i w hw;cases h;exact hY ho hw
   ·split at h
    ·rename_i hb;simp only[Ae]at hb;obtain⟨xs,k,n,h1,h2,h3,h4⟩:=jX ho hb.2;have h5:n.toNat<xs.length:=by omega
     have:=ih h;simp only[E.den,h1,E.aj _ _ _ hb.1,h2,AV.cr,AV.idx,AV.nth];simp[h5,this]
    ·cases h
  ·cases x
   case set b j u=>exact absurd ⟨b,j,u,rfl⟩ hs
   all_goals
    simp only[AK]at h;exact key _ rfl h
 | .sidx x i,v,h=>by simp only[AK,Aq]at h;obtain⟨y,hy,rfl⟩:=h;obtain⟨k,n,s,h1,h2,_,_,h5⟩:=Vd hy ho;simp only[E.den,h1,h2,AV.sidx,h5,Su]
 | .win e a b,v,h=>by
  simp only[AK]at h;split at h
  ·rename_i x p q hx hp hq;obtain⟨w1,ha,hp⟩:=As.1 hp;obtain⟨w2,hb,hq⟩:=As.1 hq;simp only[E.den,By ho e hx,By ho a ha,By ho b hb,V.int?_den hp,V.int?_den hq];exact V.iz h _ _
  ·cases h
 | .swin e a b,v,h=>by
  simp only[AK]at h;split at h
  ·rename_i x p q hx hp hq;obtain⟨w0,he,hx⟩:=As.1 hx;obtain⟨w1,ha,hp⟩:=As.1 hp;obtain⟨w2,hb,hq⟩:=As.1 hq;cases h;simp only[E.den,By ho e he,By ho a ha,By ho b hb,V.str?_den hx,V.int?_den hp,V.int?_den hq];rfl
  ·cases h
 | .app a b,v,h=>by
  simp only[AK]at h;split at h
  ·rename_i x y hx hy;simp only[E.den,By ho a hx,By ho b hy];exact V.ik h
  ·cases h
 | .set x i u,v,h=>by
  simp only[AK]at h;split at h
  ·rename_i y p w hy hp hw;obtain⟨w1,hi,hp⟩:=As.1 hp;simp only[E.den,By ho x hy,By ho i hi,V.int?_den hp,By ho u hw];exact V.jd h _
  ·cases h
 | .put x o u g,v,h=>by
  simp only[AK]at h;split at h
  ·rename_i y w hy hw;simp only[E.den,By ho x hy,By ho u hw];exact V.im h
  ·cases h
 | .rep n z,v,h=>by
  simp only[AK]at h;split at h
  ·rename_i p w hp hw;obtain⟨w1,hi,hp⟩:=As.1 hp;cases h;simp only[E.den,By ho n hi,V.int?_den hp,By ho z hw];exact(V.ib _ _ _).symm
  ·cases h
 | .conv k e,v,h=>by simp only[AK,Aq,As]at h;obtain⟨p,⟨w,hw,hp⟩,rfl⟩:=h;simp only[E.den,By ho e hw,V.int?_den hp,AV.conv,Su]
 | .bin op a b,v,h=>by
  simp only[AK]at h;split at h
  ·rename_i p q hp hq;obtain⟨w1,ha,hp⟩:=As.1 hp;obtain⟨w2,hb,hq⟩:=As.1 hq;split at h
   ·rename_i hk;cases h;simp only[E.den,By ho a ha,By ho b hb,V.int?_den hp,V.int?_den hq,AV.bin,if_pos hk,zwd]
   ·cases h
  ·cases h
 | .sbin op a b,v,h=>by
  simp only[AK]at h;split at h
  ·rename_i p q hp hq;obtain⟨w1,ha,hp⟩:=As.1 hp;obtain⟨w2,hb,hq⟩:=As.1 hq;simp only[E.den,By ho a ha,By ho b hb,V.str?_den hp,V.str?_den hq,AV.sbin,zuS h]
  ·cases h
 | .bbin op a b,v,h=>by
  simp only[AK]at h;split at h
  ·rename_i p q hp hq;obtain⟨w1,ha,hp⟩:=As.1 hp;obtain⟨w2,hb,hq⟩:=As.1 hq;simp only[E.den,By ho a ha,By ho b hb,V.bool?_den hp,V.bool?_den hq,AV.bbin];split at h<;>cases h<;>rfl
  ·cases h
 | .aeq a b,v,h=>by
  simp only[AK]at h;split at h
  ·rename_i x y hx hy;simp only[Aq]at h;obtain⟨c,hc,rfl⟩:=h;simp only[E.den,By ho a hx,By ho b hy,V.iu hc,Sn]
  ·cases h
 | .not a,v,h=>by
  simp only[AK]at h;split at h
  ·rename_i b hb;cases h;simp only[E.den,I7 ho hb,AV.dz,Sn]
  ·simp only[Aq,As]at h;obtain⟨c,⟨w,hw,hc⟩,rfl⟩:=h;simp only[E.den,By ho a hw,V.bool?_den hc,AV.dz,Sn]
 | .neg a,v,h=>by simp only[AK,Aq,As]at h;obtain⟨p,⟨w,hw,hp⟩,rfl⟩:=h;simp only[E.den,By ho a hw,V.int?_den hp,AV.gz,Su]
 | .ite c a b,v,h=>by
  simp only[AK]at h;split at h
  ·rename_i hc;simp only[E.den,I7 ho hc,AV.cond];exact By ho a h
  ·rename_i hc;simp only[E.den,I7 ho hc,AV.cond];exact By ho b h
  ·split at h
   ·cases h
   ·rename_i x hx;obtain⟨w,hw,hx⟩:=As.1 hx;have hc:=By ho c hw;rw[V.bool?_den hx]at hc;split at h
    ·rename_i hb;simp only[Aq,As]at h;obtain⟨p,⟨w,hw,hp⟩,rfl⟩:=h;have h2:=E.aj (env.map V.den) _ _ hb;simp only[E.den]at h2;simp only[E.den,hc,By ho a hw,V.bool?_den hp,h2,Sn];cases x<;>rfl
    ·split at h
     ·rename_i hb;simp only[Aq,As]at h;obtain⟨p,⟨w,hw,hp⟩,rfl⟩:=h;have h2:=E.aj (env.map V.den) _ _ hb;simp only[E.den]at h2;simp only[E.den,hc,By ho b hw,V.bool?_den hp,h2,Sn];cases x<;>rfl
     ·split at h
      ·rename_i t p q hp hq;simp only[Aq]at h;obtain⟨q',Ka,rfl⟩:=h;simp only[E.den,hc,By ho a hp,By ho b hq,V.cb _ Ka];cases x<;>rfl
      ·cases h
 | .bytes a,v,h=>by simp only[AK,Aq,As]at h;obtain⟨p,⟨w,hw,hp⟩,rfl⟩:=h;simp[E.den,By ho a hw,V.str?_den hp,AV.bytes,V.den,BP]
 | .text a,v,h=>by
  simp only[AK]at h;split at h
  ·rename_i ht;split at h
   ·rename_i x hx;simp only[Aq]at h;obtain⟨l,hl,rfl⟩:=h;have h1:=Zy ht ho;have h2:=By ho a hx;rw[V.cb _ hl]at h2;have key:∀l:List Int,Lr (l.map λn=>AV.int .u8 n)=some (l.map λn=>UInt8.ofNat n.toNat):=by
     intro l
     induction l with
     |nil=>rfl
     |cons n l ih=>simp[Lr,ih]
    simp only[E.den,h2,AV.text,BP,zzd]at h1 ⊢;have key2:=key l;simp only[show(List.map (BP T.av (.i .u8)) l)=l.map (λn=>AV.int .u8 n)from rfl,key2]at h1 ⊢;split at h1
    ·rename_i hle;rw[if_pos hle]
    ·simp at h1
   ·cases h
  ·cases h
termination_by e=>SizeOf.sizeOf e
decreasing_by all_goals first|(simp_wf;done)|(simp_wf;omega)|omega
theorem KF{env:List (V T)}{fa:List (Fa T)}(ho:Dh (env.map V.den) fa):∀(es:EL) {vs:VL T},Ii env fa es=some vs->es.den (env.map V.den)=vs.den
 | .nil,vs,h=>by cases h;rfl
 | .cons e es,vs,h=>by
  simp only[Ii]at h;split at h
  ·rename_i x xs hx B9;cases h;simp only[EL.den,VL.den,By ho e hx,KF ho es B9]
  ·cases h
termination_by es=>SizeOf.sizeOf es
decreasing_by all_goals first|(simp_wf;done)|(simp_wf;omega)|omega
end
end
section
inductive PT where
 |v (t:Ty)
 |rf (t:Ty)
 |rr (t:Ty)
 |fn (aa:List Ty) (r:Ty)
@[reducible] def NL(car:Nat->Type):PT->Type
 | .v t=>DG car t
 | .rf t=>DG car t
 | .rr t=>DG car t
 | .fn aa r=>NK car aa r
@[reducible] def HP(car:Nat->Type):List PT->Type
 | []=>Unit
 |p::ps=>NL car p × HP car ps
def L5(t:Ty)(a:AV):AV:=if VU t then .ref (.agg [a])else .ref a
mutual
inductive RT where
 |v (t:Ty)
 |bo (t:Ty)
 |tu (l:RL)
inductive RL where
 |nil
 |cons (r:RT) (l:RL)
end
mutual
@[reducible] def Gg(car:Nat->Type):RT->Type
 | .v t=>DG car t
 | .bo t=>DG car t
 | .tu l=>L9 car l
@[reducible] def L9(car:Nat->Type):RL->Type
 | .nil=>Unit
 | .cons r .nil=>Gg car r
 | .cons r (.cons q l)=>Gg car r × L9 car (.cons q l)
end
section
variable (T:HU)
def KU:(p:PT)->NL T.car p->AV
 | .v t,x=>BP T.av t x
 | .rf t,x=>L5 t (BP T.av t x)
 | .rr t,x=> .ref (.agg [L5 t (BP T.av t x)])
 | .fn _ _,c=> .fn c.g c.caps
def Fw:(ps:List PT)->HP T.car ps->List AV
 | [],_=> []
 |p::ps,x=>KU T p x.1::Fw ps x.2
mutual
def FE:(r:RT)->Gg T.car r->AV
 | .v t,x=>BP T.av t x
 | .bo t,x=> .agg [BP T.av t x]
 | .tu l,x=> .tup (LW l x)
def LW:(l:RL)->L9 T.car l->List AV
 | .nil,_=> []
 | .cons r .nil,x=> [FE r x]
 | .cons r (.cons q l),x=>FE r x.1::LW (.cons q l) x.2
end
def SM:(p:PT)->NL T.car p->Prop
 | .fn aa r,c=>oL T aa r c
 |_,_=>True
def Hk:(ps:List PT)->HP T.car ps->Prop
 | [],_=>True
 |p::ps,x=>SM T p x.1/\Hk ps x.2
structure FN where
 f:Nat
 ps:List PT
 r:RT
 φ:HP T.car ps->Option (Gg T.car r)
 ok:∀xs y,Hk T ps xs->φ xs=some y->T.Rt f (Fw T ps xs) (FE T r y)
 pl:Bool
 okp:pl=true-> ∀xs y,Hk T ps xs->φ xs=some y->T.Rt (1000000+f) (Fw T ps xs) (FE T r y)
end
variable {T:HU}
mutual
def vR:(r:RT)->Gg T.car r->V T
 | .v t,x=> .v t x
 | .bo t,x=> .ag (.cons (.v t x) .nil)
 | .tu l,x=> .tu (Q5 l x)
def Q5:(l:RL)->L9 T.car l->VL T
 | .nil,_=> .nil
 | .cons r .nil,x=> .cons (vR r x) .nil
 | .cons r (.cons q l),x=> .cons (vR r x.1) (Q5 (.cons q l) x.2)
end
mutual
theorem Ss:∀(r:RT) (x:Gg T.car r),(vR r x).den=FE T r x
 | .v t,x=>rfl
 | .bo t,x=>rfl
 | .tu l,x=>by simp only[vR,V.den,FE,mJ l x]
theorem mJ:∀(l:RL) (x:L9 T.car l),(Q5 l x).den=LW T l x
 | .nil,_=>rfl
 | .cons r .nil,x=>by simp only[Q5,VL.den,LW,Ss r x]
 | .cons r (.cons q l),x=>by simp only[Q5,VL.den,LW,Ss r x.1,mJ (.cons q l) x.2]
end
mutual
def NZ:(r:RT)->V T->Option (Gg T.car r)
 | .v t,x=>x.to t
 | .bo t,x=>match x with
  | .ag (.cons y .nil)=>y.to t
  |_=>none
 | .tu l,x=>match x with
  | .tu vs=>PS l vs.dg
  |_=>none
def PS:(l:RL)->List (V T)->Option (L9 T.car l)
 | .nil,vs=>match vs with
  | []=>some ()
  |_=>none
 | .cons r .nil,vs=>match vs with
  | [x]=>NZ r x
  |_=>none
 | .cons r (.cons q l),vs=>match vs with
  |x::xs=>(match NZ r x,PS (.cons q l) xs with
   |some a,some b=>some (a,b)
   |_,_=>none)
  |_=>none
end
mutual
theorem aJ:∀(r:RT) {v:V T} {x:Gg T.car r},NZ r v=some x->v.den=FE T r x
 | .v t,v,x,h=>V.cb v h
 | .bo t,v,x,h=>by
  simp only[NZ]at h;split at h
  ·simp only[V.den,VL.den,FE,V.cb _ h]
  ·cases h
 | .tu l,v,x,h=>by
  simp only[NZ]at h;split at h
  ·rename_i vs;simp only[V.den,FE,<-lJ l h,VL.az]
  ·cases h
theorem lJ:∀(l:RL) {vs:List (V T)} {x:L9 T.car l},PS l vs=some x->vs.map V.den=LW T l x
 | .nil,vs,x,h=>by
  simp only[PS]at h;split at h
  ·rfl
  ·cases h
 | .cons r .nil,vs,x,h=>by
  simp only[PS]at h;split at h
  ·simp only[List.map_cons,List.map_nil,LW,aJ r h]
  ·cases h
 | .cons r (.cons q l),vs,x,h=>by
  simp only[PS]at h;split at h
  ·split at h
   ·rename_i h1 h2;cases h;simp only[List.map_cons,LW,aJ r h1,lJ (.cons q l) h2]
   ·cases h
  ·cases h
end
@[reducible] def HS(car:Nat->Type):List Ty->Type
 | []=>Unit
 | [t]=>DG car t
 |t::u::ts=>DG car t × HS car (u::ts)
def Gz:(ts:List Ty)->HS T.car ts->List (V T)
 | [],_=> []
 | [t],x=> [.v t x]
 |t::u::ts,x=> .v t x.1::Gz (u::ts) x.2
def Lq:(ts:List Ty)->List (V T)->Option (HS T.car ts)
 | [],vs=>match vs with
  | []=>some ()
  |_=>none
 | [t],vs=>match vs with
  | [x]=>x.to t
  |_=>none
 |t::u::ts,vs=>match vs with
  |x::xs=>(match x.to t,Lq (u::ts) xs with
   |some a,some b=>some (a,b)
   |_,_=>none)
  |_=>none
theorem VB:∀(ts:List Ty) {vs:List (V T)} {s:HS T.car ts},Lq ts vs=some s->vs.map V.den=(Gz ts s).map V.den
 | [],vs,s,h=>by
  simp only[Lq]at h;split at h
  ·rfl
  ·cases h
 | [t],vs,s,h=>by
  simp only[Lq]at h;split at h
  ·simp only[List.map_cons,List.map_nil,Gz,V.den,V.cb _ h]
  ·cases h
 |t::u::ts,vs,s,h=>by
  simp only[Lq]at h;split at h
  ·split at h
   ·rename_i h1 h2;cases h;simp only[List.map_cons,Gz,V.den,V.cb _ h1,VB (u::ts) h2]
   ·cases h
  ·cases h
def Ty.lp:(xs ys:List Ty)->Option (PLift (xs=ys))
 | [],[]=>some ⟨rfl⟩
 |x::xs,y::ys=>match Ty.lk x y,Ty.lp xs ys with
  |some ⟨h⟩,some ⟨k⟩=>some ⟨by rw[h,k]⟩
  |_,_=>none
 |_,_=>none
def Sq(f:Nat):List (FN T)->Option (FN T)
 | []=>none
 |e::l=>if e.f=f then some e else Sq f l
theorem aA{f:Nat}:∀{l:List (FN T)} {e:FN T},Sq f l=some e->e.f=f
 |d::l,e,h=>by
  simp only[Sq]at h;split at h
  ·cases h;assumption
  ·exact aA h
def V.lj:V T->(t:Ty)->Option (DG T.car t)
 | .rf x,t=>if VU t then(match x with
  | .ag (.cons y .nil)=>y.to t
  |_=>none)else x.to t
 |_,_=>none
theorem V.fh:∀{w:V T} {t:Ty} {x:DG T.car t},w.lj t=some x->w.den=L5 t (BP T.av t x)
 | .rf y,t,x,h=>by
  simp only[V.lj]at h;split at h
  ·rename_i h1;split at h
   ·simp only[V.den,VL.den,L5,if_pos h1,V.cb _ h]
   ·cases h
  ·rename_i h1;simp only[V.den,L5,h1,V.cb _ h,BX,if_false]
 | .v _ _,_,x,h| .nl,_,x,h| .li _,_,x,h| .rp _ _,_,x,h| .ag _,_,x,h| .tu _,_,x,h| .cl _ _,_,x,h| .pf ..,_,x,h| .no,_,x,h=>by simp[V.lj]at h
def V.jt:V T->(t:Ty)->Option (DG T.car t)
 | .rf (.ag (.cons y .nil)),t=>y.lj t
 |_,_=>none
theorem V.gb{w:V T}{t:Ty}{x:DG T.car t}(h:w.jt t=some x):w.den= .ref (.agg [L5 t (BP T.av t x)]):=by
 unfold V.jt at h;split at h
 ·simp only[V.den,VL.den,V.fh h]
 ·cases h
def Hh:(ps:List PT)->VL T->Option (HP T.car ps)
 | [], .nil=>some ()
 | .v t::ps, .cons x vs=>match x.to t,Hh ps vs with
  |some a,some b=>some (a,b)
  |_,_=>none
 | .rf t::ps, .cons x vs=>match x.lj t,Hh ps vs with
  |some a,some b=>some (a,b)
  |_,_=>none
 | .rr t::ps, .cons x vs=>match x.jt t,Hh ps vs with
  |some a,some b=>some (a,b)
  |_,_=>none
 |_,_=>none
theorem Vb:∀(ps:List PT) (vs:VL T) {x:HP T.car ps},Hh ps vs=some x->vs.den=Fw T ps x/\Hk T ps x
 | [], .nil,x,h=>⟨rfl,trivial⟩
 | .v t::ps, .cons y vs,x,h=>by
  simp only[Hh]at h;split at h
  ·rename_i h1 h2;cases h;obtain⟨h3,h4⟩:=Vb ps vs h2;exact⟨by simp only[VL.den,Fw,KU,V.cb _ h1,h3],trivial,h4⟩
  ·cases h
 | .rf t::ps, .cons y vs,x,h=>by
  simp only[Hh]at h;split at h
  ·rename_i h1 h2;cases h;obtain⟨h3,h4⟩:=Vb ps vs h2;exact⟨by simp only[VL.den,Fw,KU,V.fh h1,h3],trivial,h4⟩
  ·cases h
 | .rr t::ps, .cons y vs,x,h=>by
  simp only[Hh]at h;split at h
  ·rename_i h1 h2;cases h;obtain⟨h3,h4⟩:=Vb ps vs h2;exact⟨by simp only[VL.den,Fw,KU,V.gb h1,h3],trivial,h4⟩
  ·cases h
 | [], .cons _ _,x,h=>by simp[Hh]at h
 | .v _::_, .nil,x,h=>by simp[Hh]at h
 | .rf _::_, .nil,x,h=>by simp[Hh]at h
 | .rr _::_, .nil,x,h=>by simp[Hh]at h
 | .fn _ _::_,_,x,h=>by simp[Hh]at h
def JE:(ps:List PT)->(aa:List Ty)->VL T->Option (HL T.car aa->HP T.car ps)
 |ps,[],vs=>match Hh ps vs with
  |some h=>some λ_=>h
  |none=>none
 | .v t::ps,a::aa,vs=>match Ty.lk a t,JE ps aa vs with
  |some ⟨h⟩,some k=>some λys=>(h▸ys.1,k ys.2)
  |_,_=>none
 |_,_,_=>none
theorem gZ:∀(ps:List PT) (aa:List Ty) (vs:VL T) {k:HL T.car aa->HP T.car ps},JE ps aa vs=some k-> ∀ys,Hm T.av aa ys++vs.den=Fw T ps (k ys)/\Hk T ps (k ys)
 |ps,[],vs,k,h,ys=>by
  have h':(match Hh ps vs with|some h=>some λ_=>h|none=>none)=some k:=by
   cases ps with
   |nil=>simpa[JE]using h
   |cons p ps=>cases p<;>simpa[JE]using h
  split at h'
  ·rename_i x hx;cases h';obtain⟨h1,h2⟩:=Vb ps vs hx;exact⟨by simp[Hm,h1],h2⟩
  ·cases h'
 | .v t::ps,a::aa,vs,k,h,ys=>by
  simp only[JE]at h;split at h
  ·rename_i e k' _ hk;cases e;cases h;obtain⟨h1,h2⟩:=gZ ps aa vs hk ys.2;exact⟨by simp only[Hm,List.cons_append,h1,Fw,KU],trivial,h2⟩
  ·cases h
 | [],_::_,vs,k,h,ys=>by simp[JE]at h
 | .rf _::_,_::_,vs,k,h,ys=>by simp[JE]at h
 | .rr _::_,_::_,vs,k,h,ys=>by simp[JE]at h
 | .fn _ _::_,_::_,vs,k,h,ys=>by simp[JE]at h
def Sz(e:FN T)(t:Ty):Option (HP T.car e.ps->Option (DG T.car t)):=
 match e with
 |⟨_,_, .v u,φ,_,_,_⟩=>match Ty.lk u t with
  |some ⟨h⟩=>some (h▸φ)
  |none=>none
 |_=>none
theorem zvK{e:FN T}{t:Ty}{φ:HP T.car e.ps->Option (DG T.car t)}(h:Sz e t=some φ)(hp:e.pl=true){xs:HP T.car e.ps}{z:DG T.car t}(hx:Hk T e.ps xs)(hz:φ xs=some z):T.Rt (1000000+e.f) (Fw T e.ps xs) (BP T.av t z):=by
 obtain⟨f,ps,r,φ0,ok,pl,okp⟩:=e;cases r with
 |tu l=>simp[Sz]at h
 |bo u=>simp[Sz]at h
 |v u=>
  simp only[Sz]at h;split at h
  ·rename_i e _;cases e;cases h;exact okp hp xs z hx hz
  ·cases h
def cC(tb:List (FN T))(f:Nat)(vs:VL T)(aa:List Ty)(t:Ty):Option (NK T.car aa t):=
 match Sq f tb with
 |some e=>if e.pl=true then(match JE e.ps aa vs,Sz e t with
  |some k,some φ=>some ⟨λys=>φ (k ys),f,vs.den⟩
  |_,_=>none)else none
 |none=>none
theorem zxR{tb:List (FN T)}{f:Nat}{vs:VL T}{aa:List Ty}{t:Ty}{c:NK T.car aa t}(h:cC tb f vs aa t=some c):c.g=f/\c.caps=vs.den/\SM T (.fn aa t) c:=by
 unfold cC at h;split at h
 ·rename_i e he;split at h
  ·rename_i hp;split at h
   ·rename_i k φ hk hφ;cases h;refine⟨rfl,rfl,λys z hz=> ?_⟩;obtain⟨h1,h2⟩:=gZ e.ps aa vs hk ys;have:=zvK hφ hp h2 hz;rw[aA he]at this;rw[show(NK.mk (λys=>φ (k ys)) f vs.den).caps=vs.den from rfl,h1];exact this
   ·cases h
  ·cases h
 ·cases h
def V.mc(tb:List (FN T))(w:V T):(p:PT)->Option (NL T.car p)
 | .v t=>w.to t
 | .rf t=>w.lj t
 | .rr t=>w.jt t
 | .fn aa t=>match w with
  | .cl f vs=>cC tb f vs aa t
  | .pf bs u c _=>match Ty.lp bs aa,Ty.lk u t with
   |some ⟨h⟩,some ⟨e⟩=>some (h▸e▸c)
   |_,_=>none
  |_=>none
theorem V.kr{tb:List (FN T)}{w:V T}:∀{p:PT} {x:NL T.car p},w.mc tb p=some x->w.den=KU T p x/\SM T p x
 | .v t,x,h=>⟨V.cb w h,trivial⟩
 | .rf t,x,h=>⟨V.fh h,trivial⟩
 | .rr t,x,h=>⟨V.gb h,trivial⟩
 | .fn aa t,x,h=>by
  simp only[V.mc]at h;split at h
  ·obtain⟨h1,h2,h3⟩:=zxR h;exact⟨by simp only[V.den,KU,h1,h2],h3⟩
  ·rename_i bs u c hc;split at h
   ·rename_i h1 h2 _ _;cases h1;cases h2;cases h;exact⟨rfl,hc⟩
   ·cases h
  ·cases h
def PU(tb:List (FN T)):VL T->(ps:List PT)->Option (HP T.car ps)
 | .nil,[]=>some ()
 | .cons x vs,p::ps=>match x.mc tb p,PU tb vs ps with
  |some a,some b=>some (a,b)
  |_,_=>none
 |_,_=>none
theorem mK{tb:List (FN T)}:∀{vs:VL T} {ps:List PT} {x:HP T.car ps},PU tb vs ps=some x->vs.den=Fw T ps x/\Hk T ps x
 | .nil,[],x,h=>⟨rfl,trivial⟩
 | .cons y vs,p::ps,x,h=>by
  simp only[PU]at h;split at h
  ·rename_i h1 h2;cases h;obtain⟨h3,h4⟩:=V.kr h1;obtain⟨h5,h6⟩:=mK h2;exact⟨by simp only[VL.den,Fw,h3,h5],h4,h6⟩
  ·cases h
 | .nil,_::_,x,h=>by simp[PU]at h
 | .cons _ _,[],x,h=>by simp[PU]at h
def vP:(p:PT)->(x:NL T.car p)->SM T p x->V T
 | .v t,x,_=> .v t x
 | .rf t,x,_=>if VU t then .rf (.ag (.cons (.v t x) .nil))else .rf (.v t x)
 | .rr t,x,_=> .rf (.ag (.cons (if VU t then .rf (.ag (.cons (.v t x) .nil))else .rf (.v t x)) .nil))
 | .fn aa r,c,h=> .pf aa r c h
def Ts:(ps:List PT)->(x:HP T.car ps)->Hk T ps x->List (V T)
 | [],_,_=> []
 |p::ps,x,h=>vP p x.1 h.1::Ts ps x.2 h.2
theorem mE:∀(ps:List PT) (x:HP T.car ps) (h:Hk T ps x),(Ts ps x h).map V.den=Fw T ps x
 | [],_,_=>rfl
 |p::ps,x,h=>by
  simp only[Ts,List.map_cons,Fw,mE ps x.2 h.2];congr 1;cases p with
  |v t=>rfl
  |rf t=>simp only[vP,KU,L5];split<;>simp[V.den,VL.den]
  |rr t=>simp only[vP,KU,L5];split<;>simp[V.den,VL.den]
  |fn aa t=>rfl
end
section
variable {T:HU}
mutual
theorem E.bm{n m:Nat}(hm:n<=m):∀(a:E),a.sc n=true->a.sc m=true
 |a,h=>by
  cases a<;>simp only[E.sc,Ae,AN]at h ⊢
  case var=>omega
  case lst|mk|tup|fn=>exact EL.bm hm _ h
  case ref|fld|proj|deref|len|slen|conv|not|neg|bytes|text=>exact E.bm hm _ h
  case idx|sidx|app|put|rep|bin|sbin|bbin|aeq=>exact⟨E.bm hm _ h.1,E.bm hm _ h.2⟩
  case win|swin|set|ite=>exact⟨⟨E.bm hm _ h.1.1,E.bm hm _ h.1.2⟩,E.bm hm _ h.2⟩
theorem EL.bm{n m:Nat}(hm:n<=m):∀(a:EL),a.sc n=true->a.sc m=true
 | .nil,_=>rfl
 | .cons a aa,h=>by simp only[EL.sc,Ae]at h ⊢;exact⟨E.bm hm _ h.1,EL.bm hm _ h.2⟩
end
theorem Fa.bm{n m:Nat}(hm:n<=m){f:Fa T}(h:f.sc n=true):f.sc m=true:=by
 cases f<;>simp only[Fa.sc,Ae]at h ⊢
 ·exact⟨E.bm hm _ h.1,E.bm hm _ h.2⟩
 ·exact⟨E.bm hm _ h.1,E.bm hm _ h.2⟩
 ·exact E.bm hm _ h
 ·exact E.bm hm _ h
inductive GS where
 |yes
 |no
 |ask (c:E)
def PH(fa:List (Fa T)):E->E
 | .not a=>PH fa a
 | .ite c a b=>match Ic fa c with
  |none=>PH fa c
  |some true=>PH fa a
  |some false=>PH fa b
 |e=>e
def Pj(fa:List (Fa T)):Gd->GS
 | []=> .yes
 |(e,b)::gs=>match Ic fa e with
  |some v=>if v=b then Pj fa gs else .no
  |none=>match Pj fa gs with
   | .no=> .no
   |_=> .ask (PH fa e)
theorem U4{fa:List (Fa T)}{ρ:List AV}(ho:Dh ρ fa):∀{gs:Gd},Pj fa gs= .no-> ¬Bc ρ gs
 | [],h=>by cases h
 |(e,b)::gs,h=>by
  simp only[Pj]at h;intro hg;have h1:=hg (e,b) (by simp);have h2:Bc ρ gs:=λg hm=>hg g (by simp[hm]);split at h
  ·rename_i v hv;split at h
   ·exact U4 ho h h2
   ·rename_i BI;have:=I7 ho hv;rw[this]at h1;cases h1;exact BI rfl
  ·split at h
   ·rename_i hn;exact U4 ho hn h2
   ·cases h
def V.sk:V T->SK->Bool
 | .v (.i k) _, .int k'=>k==k'
 | .v .b _, .bool=>true
 | .v .s _, .str=>true
 |_,_=>false
def NY:List (V T)->List SK->Bool
 | [],[]=>true
 |v::vs,k::ks=>v.sk k&&NY vs ks
 |_,_=>false
theorem mY:∀{vs:List (V T)} {ks:List SK},NY vs ks=true->(vs.map V.den).map AV.sk=ks.map some
 | [],[],_=>rfl
 |v::vs,k::ks,h=>by
  simp only[NY,Ae]at h;simp only[List.map_cons,mY h.2];congr 1;unfold V.sk at h;have h1:=h.1;split at h1
  ·simp only[Ax]at h1;subst h1;rfl
  ·rfl
  ·rfl
  ·cases h1
 | [],_::_,h=>by simp[NY]at h
 |_::_,[],h=>by simp[NY]at h
def V.l8:V T->Bool
 | .rf _=>true
 | .cl _ _=>true
 | .pf .. =>true
 |x=>x.one
theorem V.ko{v:V T}(h:v.l8=true):(∀cs,v.den≠ .agg cs)/\ ∀cs,v.den≠ .tup cs:=by
 cases v with
 |rf x=>simp[V.den]
 |cl f vs=>simp[V.den]
 |pf=>simp[V.den]
 |v t x=>exact(V.one_cells (v:= .v t x) h).2
 |nl=>exact(V.one_cells (v:= .nl) rfl).2
 |li vs=>exact(V.one_cells (v:= .li vs) rfl).2
 |rp n z=>exact(V.one_cells (v:= .rp n z) rfl).2
 |ag|tu|no=>simp[V.l8,V.one]at h
def V.there:V T->Bool
 | .no=>false
 |_=>true
section
variable (env:List (V T)) (fa:List (Fa T))
def V3:Cn->Bool
 | .dfd x=>match AK env fa x with
  |some v=>v.there
  |none=>false
 | .agg x n=>match(AK env fa x).bind V.lv with
  |some l=>l.dg.length==n
  |none=>false
 | .cells x _=>match AK env fa x with
  |some v=>v.l8
  |none=>false
 | .isref x n=>match AK env fa x with
  |some (.rf y)=>(match y.nc with
   |some m=>decide (n<=m)
   |none=>false)
  |_=>false
 | .issl x sz=>match AK env fa x with
  |some v=>v.l6 sz
  |none=>false
 | .flat x n g=>match AK env fa x with
  |some v=>v.nc==some n&&v.flat&&(if g then v.lv.isSome else v.scalar)
  |none=>false
 | .flatS x sz=>match AK env fa x with
  |some v=>v.l6 sz&&v.gi
  |none=>false
 | .kinds x ks=>match(AK env fa x).bind V.lv with
  |some l=>NY l.dg ks
  |none=>false
 | .inb i x sz=>match AK env fa (.idx x i)with
  |some v=>v.nc==some sz&&(Sx fa i x)
  |none=>false
 | .inbS i x=>(Pw x i fa).isSome
 | .nz x=>match x with
  | .int _ n=>decide (n≠0)
  |_=>false
 | .nn x=>match x with
  | .int _ n=>decide (0<=n)
  |_=>false
 |_=>false
end
theorem V.iq{v:V T}(h:v.there=true):v.den≠ .undef:=by
 cases v with
 |v t x=>
  cases t with
  |st n=>simp only[V.den,BP];rw[T.gn];intro h;cases h
  |_=>intro h;cases h
 |no=>cases h
 |_=>intro h;cases h
theorem lW{env:List (V T)}{fa:List (Fa T)}(ho:Dh (env.map V.den) fa){c:Cn}(h:V3 env fa c=true):c.den (env.map V.den):=by
 cases c<;>simp only[V3]at h
 case dfd x=>
  split at h
  ·rename_i v hv;simp only[Cn.den,By ho x hv];exact V.iq h
  ·cases h
 case agg x n=>
  split at h
  ·rename_i l hl;obtain⟨v,hv,hl⟩:=As.1 hl;exact⟨l.den,by rw[By ho x hv,V.c6 hl],by rw[<-VL.db];simpa using h⟩
  ·cases h
 case cells x n=>
  split at h
  ·rename_i v hv;simp only[Cn.den,By ho x hv];exact V.ko h
  ·cases h
 case isref x n=>
  split at h
  ·rename_i y hv;split at h
   ·rename_i m hm;exact⟨y.den,By ho x hv,by rw[V.eo hm];simpa using h⟩
   ·cases h
  ·cases h
 case issl x sz=>
  split at h
  ·rename_i v hv;simp only[Cn.den,By ho x hv];exact V.gj h
  ·cases h
 case flat x n g=>
  split at h
  ·rename_i v hv;simp only[Ae,Ax]at h;simp only[Cn.den,By ho x hv];refine⟨V.eo h.1.1,V.er h.1.2,λhg=> ?_,λhg=> ?_⟩
   ·rw[if_pos hg]at h;obtain⟨l,hl⟩:=Option.isSome_iff_exists.1 h.2;exact⟨_,V.c6 hl⟩
   ·rw[if_neg (by rw[hg];simp)]at h;exact V.dj h.2
  ·cases h
 case flatS x sz=>
  split at h
  ·rename_i v hv;simp only[Ae]at h;simp only[Cn.den,By ho x hv];obtain⟨xs,h1,h2⟩:=V.gj h.1;obtain⟨ys,h3,h4⟩:=V.gh h.2;rw[h1]at h3;cases h3;exact⟨xs,h1,λy hy=>⟨h2 y hy,h4 y hy⟩⟩
  ·cases h
 case kinds x ks=>
  split at h
  ·rename_i l hl;obtain⟨v,hv,hl⟩:=As.1 hl;exact⟨l.den,by rw[By ho x hv,V.c6 hl],by rw[<-VL.az];exact mY h⟩
  ·cases h
 case inb i x sz=>
  split at h
  ·rename_i v hv;simp only[Ae,Ax]at h;obtain⟨xs,k,n,h1,h2,h3,h4⟩:=jX ho h.2;have h5:=By ho (.idx x i) hv;simp only[E.den,h1,h2,AV.idx]at h5;refine⟨k,n,xs.length,h2,h3,by rw[h1];rfl,h4,?_⟩;rw[h1,h5];exact V.eo h.1
  ·cases h
 case inbS i x=>
  obtain⟨y,hy⟩:=Option.isSome_iff_exists.1 h;obtain⟨k,n,s,h1,h2,h3,h4,_⟩:=Vd hy ho;exact⟨k,n,s,h1,h2,h3,h4⟩
 case nz x=>
  split at h
  ·rename_i k n;exact⟨k,n,rfl,by simpa using h⟩
  ·cases h
 case nn x=>
  split at h
  ·rename_i k n;exact⟨k,n,rfl,by simpa using h⟩
  ·cases h
 all_goals cases h
def Tr.jl:Tr->Nat
 | .ite _ a b=>a.jl+b.jl
 | .bg _ _ k=>k.jl
 | .call _ _ _ k=>k.jl
 | .br _ _ k=>k.jl
 | .join t k=>t.jl+k.jl+1
 | .loop _ b k=>b.jl+k.jl+1
 |_=>0
abbrev JT(T:HU)(X:Type):=List (Fa T)->VL T->Option X
def PJ{X σ:Type}(j:JT T X):JT T (σ ⊕ Option X):=λfa vs=>some (.inr (j fa vs))
def ask{X:Type}(env:List (V T))(fa:List (Fa T))(c:E)(go:List (Fa T)->Option X):Option X:=
 match(AK env fa c).bind V.bool? with
 |some x=>if x=true then go (KW env.length fa c true)else go (KW env.length fa c false)
 |none=>none
def PO(n:Nat)(fa:List (Fa T))(f:Fa T):List (Fa T):=if f.sc n then f::fa else fa
noncomputable def bN{X:Type}(env:List (V T))(fa:List (Fa T))(c:Cn)(go:List (Fa T)->Option X):Option X:=
 match c with
 | .inb i x sz=>match(AK env fa x).bind V.mh,(AK env fa i).bind V.int? with
  |some ⟨t,xs⟩,some p=>if Tq T t=sz then(getI xs p.2).bind λy=>go (PO env.length fa (.ix x i (.v t y)))else none
  |_,_=>none
 | .inbS i x=>match(AK env fa x).bind V.str?,(AK env fa i).bind V.int? with
  |some s,some p=>(getI s p.2).bind λy=>go (PO env.length fa (.sx x i y))
  |_,_=>none
 | .win x a b=>match(AK env fa x).bind V.gg,(AK env fa a).bind V.int?,(AK env fa b).bind V.int? with
  |some m,some p,some q=>req (0<=p.2/\p.2<=q.2/\q.2<=m) (go fa)
  |_,_,_=>none
 | .winS x a b=>match(AK env fa x).bind V.str?,(AK env fa a).bind V.int?,(AK env fa b).bind V.int? with
  |some s,some p,some q=>req (0<=p.2/\p.2<=q.2/\q.2<=(s.length:Int)) (go fa)
  |_,_,_=>none
 | .room x y bytes=>match(AK env fa x).bind V.gg,(AK env fa y).bind V.gg with
  |some m,some k=>req ((m+k)*bytes<=140737488355328/\m+k<=140737488355328) (go fa)
  |_,_=>none
 | .roomS x y=>match(AK env fa x).bind V.str?,(AK env fa y).bind V.str? with
  |some a,some b=>req (a.length+b.length<=9223372036854775807) (go fa)
  |_,_=>none
 | .mkroom n bytes=>match(AK env fa n).bind V.int? with
  |some p=>req (0<=p.2/\p.2*bytes<=140737488355328/\p.2<=140737488355328) (go fa)
  |none=>none
 | .nz x=>match(AK env fa x).bind V.int? with
  |some p=>req (p.2≠0) (go fa)
  |none=>none
 | .nn x=>match(AK env fa x).bind V.int? with
  |some p=>req (0<=p.2) (go fa)
  |none=>none
 | .dfd (.text y)=>match AK env fa y with
  |some v=>(match v.to (.l (.i .u8))with
   |some l=>req (l.length<=9223372036854775807) (go (PO env.length fa (.tx y)))
   |none=>none)
  |none=>none
 |_=>none
inductive JM where
 |inl
 |pt
 |sp (ts:List Ty)
def VS(n:Nat)(fa:List (Fa T)):List (Fa T):=fa.filter λf=>f.sc n
noncomputable def Cl(tb:List (FN T)):Nat->{X:Type}->(V T->Option X)->Tr->List JM->List (V T)->List (Fa T)->List (JT T X)->Option X
 |0,_,_,_,_,_,_,_=>none
 |n+1,X,rt,t,h,env,fa,js=>match t with
  | .ret r=>match AK env fa r with
   |some v=>rt v
   |none=>none
  | .jmp d es=>match js[d]?,Ii env fa es with
   |some j,some vs=>j fa vs
   |_,_=>none
  | .ite c a b=>match Ic fa c with
   |some true=>Cl tb n rt a h env fa js
   |some false=>Cl tb n rt b (h.drop a.jl) env fa js
   |none=>match(AK env fa c).bind V.bool? with
    |some x=>if x=true then Cl tb n rt a h env (KW env.length fa c true) js else Cl tb n rt b (h.drop a.jl) env (KW env.length fa c false) js
    |none=>ask env fa (PH fa c) λfa=>Cl tb n rt t h env fa js
  | .bg gs c k=>match Pj fa gs with
   | .no=>Cl tb n rt k h env fa js
   | .yes=>(match V3 env fa c with
    |true=>Cl tb n rt k h env fa js
    |false=>bN env fa c λfa=>Cl tb n rt k h env fa js)
   | .ask a=>(match V3 env fa c with
    |true=>Cl tb n rt k h env fa js
    |false=>ask env fa a λfa=>Cl tb n rt t h env fa js)
  | .call gs f args k=>match Pj fa gs with
   | .no=>Cl tb n rt k h (env++ [.no]) fa js
   | .ask a=>ask env fa a λfa=>Cl tb n rt t h env fa js
   | .yes=>match f with
    | .inl g=>(match Sq g tb,Ii env fa args with
     |some e,some vs=>(match PU tb vs e.ps with
      |some xs=>(e.φ xs).bind λy=>Cl tb n rt k h (env++ [vR e.r y]) fa js
      |none=>none)
     |_,_=>none)
    | .inr x=>(match x with
     | .var i=>(match env[i]? with
      |some (.pf aa r c _)=>if aR T r then(match(Ii env fa args).bind λvs=>vs.kj aa with
       |some ys=>(c.φ ys).bind λy=>Cl tb n rt k h (env++ [.v r y]) fa js
       |none=>none)else none
      |_=>none)
     |_=>none)
  | .join t k=>match h with
   | .sp ts::h=>bQ (σ:=HS T.car ts) (Cl tb n (λv=>some (.inr (rt v))) t h env fa ((λ_ vs=>match Lq ts vs.dg with
     |some s=>some (.inl s)
     |none=>none)::js.map PJ)) λs=>Cl tb n rt k (h.drop t.jl) (env++Gz ts s) fa js
   | .pt::h=>Cl tb n rt t h env fa ((λ_ vs=>Cl tb n rt k (h.drop t.jl) (env++vs.dg) fa js)::js)
   |h=>Cl tb n rt t h.tail env fa ((λfa' vs=>Cl tb n rt k (h.tail.drop t.jl) (env++vs.dg) (VS env.length fa') js)::js)
  | .loop i b k=>match h with
   | .sp ts::h=>(match(Ii env fa i).bind λvs=>Lq ts vs.dg with
    |some s=>AX (σ:=HS T.car ts) (λs=>Cl tb n (λv=>some (.inr (rt v))) b h (env++Gz ts s) fa ((λ_ vs=>match Lq ts vs.dg with
      |some s=>some (.inl s)
      |none=>none)::(λ_ vs=>some (.inr (Cl tb n rt k (h.drop b.jl) (env++vs.dg) fa js)))::js.map PJ)) s
    |none=>none)
   |_=>none
  |_=>none
end
section
variable {T:HU}
inductive HJ(ρ:List AV){X:Type}(x:X):List (JT T X)->List JK->Prop where
 |nil:HJ ρ x [] []
 |cons {j:JT T X} {jk:JK} {js jks}:(∀fa vs τ,Dh (ρ++τ) fa->(∀f∈fa,f.sc (ρ++τ).length=true)->j fa vs=some x->jk vs.den)->HJ ρ x js jks->HJ ρ x (j::js) (jk::jks)
theorem HJ.get{ρ:List AV}{X:Type}{x:X}{js:List (JT T X)}{jks:List JK}(h:HJ ρ x js jks):∀{d:Nat} {j:JT T X},js[d]?=some j-> ∃jk,jks[d]?=some jk/\ ∀fa vs τ,Dh (ρ++τ) fa->(∀f∈fa,f.sc (ρ++τ).length=true)->j fa vs=some x->jk vs.den:=by
 induction h with
 |nil=>intro d j hd;simp at hd
 |cons h1 _ ih=>
  intro d j hd;cases d with
  |zero=>simp at hd;subst hd;exact⟨_,rfl,h1⟩
  |succ d=>simpa using ih (by simpa using hd)
theorem HJ.ext{ρ σ:List AV}{X:Type}{x:X}{js:List (JT T X)}{jks:List JK}(h:HJ ρ x js jks):HJ (ρ++σ) x js jks:=by
 induction h with
 |nil=>exact .nil
 |cons h1 _ ih=>exact .cons (λfa vs τ ha hs hj=>h1 fa vs (σ++τ) (by rwa[<-List.append_assoc]) (by rwa[<-List.append_assoc]) hj) ih
theorem HJ.lift{ρ:List AV}{X σ:Type}{x:X}{js:List (JT T X)}{jks:List JK}(h:HJ ρ x js jks):HJ ρ (.inr (some x):σ ⊕ Option X) (js.map PJ) jks:=by
 induction h with
 |nil=>exact .nil
 |cons h1 _ ih=>exact .cons (λfa vs τ ha hs hj=>h1 fa vs τ ha hs (by simpa[PJ]using hj)) ih
theorem HJ.kd{ρ:List AV}{X σ:Type}{x:X}{s:σ}{js:List (JT T X)}{jks:List JK}(h:HJ ρ x js jks):HJ ρ (.inl s:σ ⊕ Option X) (js.map PJ) jks:=by
 induction h with
 |nil=>exact .nil
 |cons h1 _ ih=>exact .cons (λfa vs τ ha hs hj=>by simp[PJ]at hj) ih
theorem M9{ρ τ:List AV}{fa:List (Fa T)}(ho:Dh ρ fa)(hs:∀f∈fa,f.sc ρ.length=true):Dh (ρ++τ) fa/\ ∀f∈fa,f.sc (ρ++τ).length=true:=
 ⟨λf hf=>Fa.move (τ:=[]) (hs f hf) (by simpa using ho f hf),λf hf=>Fa.bm (by simp) (hs f hf)⟩
theorem zwv{ρ τ τ':List AV}{fa:List (Fa T)}(ho:Dh (ρ++τ) fa):Dh (ρ++τ') (VS ρ.length fa)/\ ∀f∈VS ρ.length fa,f.sc (ρ++τ').length=true:=by
 constructor
 ·intro f hf;obtain⟨h1,h2⟩:=List.mem_filter.1 hf;exact Fa.move h2 (ho f h1)
 ·intro f hf;obtain⟨h1,h2⟩:=List.mem_filter.1 hf;exact Fa.bm (by simp) h2
theorem aP{ρ:List AV}{fa:List (Fa T)}{f:Fa T}(ho:Dh ρ fa)(hs:∀g∈fa,g.sc ρ.length=true)(hf:f.OK ρ):Dh ρ (PO ρ.length fa f)/\ ∀g∈PO ρ.length fa f,g.sc ρ.length=true:=by
 unfold PO;split
 ·rename_i hc;exact⟨λg hg=>by rcases Ad.1 hg with rfl|hg;exact hf;exact ho g hg,λg hg=>by rcases Ad.1 hg with rfl|hg;exact hc;exact hs g hg⟩
 ·exact⟨ho,hs⟩
section
variable {env:List (V T)} {fa:List (Fa T)} {X:Type} {x:X}
theorem zyw(ho:Dh (env.map V.den) fa)(hs:∀f∈fa,f.sc env.length=true){c:E}{go:List (Fa T)->Option X}(h:ask env fa c go=some x):∃fa',Dh (env.map V.den) fa'/\(∀f∈fa',f.sc env.length=true)/\go fa'=some x:=by
 unfold ask at h;split at h
 ·rename_i b hb;obtain⟨v,hv,hb⟩:=As.1 hb;have hc:c.den (env.map V.den)= .bool b:=by rw[By ho c hv,V.bool?_den hb]
  cases b with
  |true=>rw[if_pos rfl]at h;exact⟨_,R2 ho hc,R3 hs,h⟩
  |false=>rw[if_neg (by simp)]at h;exact⟨_,R2 ho hc,R3 hs,h⟩
 ·cases h
theorem KC(ho:Dh (env.map V.den) fa){e:E}{p:IntKind × Int}(h:(AK env fa e).bind V.int?=some p):e.den (env.map V.den)= .int p.1 p.2:=by obtain⟨v,hv,hp⟩:=As.1 h;rw[By ho e hv,V.int?_den (k:=p.1) (n:=p.2) hp]
theorem Vy(ho:Dh (env.map V.den) fa){e:E}{s:List UInt8}(h:(AK env fa e).bind V.str?=some s):e.den (env.map V.den)= .str s:=by obtain⟨v,hv,hp⟩:=As.1 h;rw[By ho e hv,V.str?_den hp]
theorem aK(ho:Dh (env.map V.den) fa){e:E}{m:Int}(h:(AK env fa e).bind V.gg=some m):(e.den (env.map V.den)).len= .int .i64 m:=by obtain⟨v,hv,hp⟩:=As.1 h;obtain⟨xs,h1,h2⟩:=V.fj hp;rw[By ho e hv,h1,<-h2];rfl
theorem zv9(ho:Dh (env.map V.den) fa)(hs:∀f∈fa,f.sc env.length=true){c:Cn}{go:List (Fa T)->Option X}(h:bN env fa c go=some x):c.den (env.map V.den)/\ ∃fa',Dh (env.map V.den) fa'/\(∀f∈fa',f.sc env.length=true)/\go fa'=some x:=by
 have hl:(env.map V.den).length=env.length:=by simp
 have Bd:∀f∈fa,f.sc (env.map V.den).length=true:=by rwa[hl]
 unfold bN at h;split at h
 case h_1 i y sz=>
  split at h
  ·rename_i t xs p hx hp;split at h
   ·rename_i ht;obtain⟨z,hz,h⟩:=JJ h;obtain⟨h1,h2,h3⟩:=bG hz;obtain⟨vx,NU,NV⟩:=As.1 hx;have CT:=(By ho y NU).trans (V.jh NV);have Fm:=KC ho hp;have NW:(xs.map (BP T.av t))[p.2.toNat]?=some (BP T.av t z):=by rw[List.getElem?_map,h3];rfl
    refine⟨⟨p.1,p.2,xs.length,Fm,h1,by rw[CT];simp[AV.len],h2,?_⟩,?_⟩
    ·rw[CT];simp only[AV.nth,NW,BC];rw[Sb,ht]
    ·rw[<-hl]at h;obtain⟨g1,g2⟩:=aP (f:= .ix y i (.v t z)) ho Bd ⟨p.1,p.2,_,Fm,CT,h1,by simpa using h2,NW⟩;rw[hl]at g1 g2;exact⟨_,g1,g2,by rw[hl]at h;exact h⟩
   ·cases h
  ·cases h
 case h_2 i y=>
  split at h
  ·rename_i s p hx hp;obtain⟨z,hz,h⟩:=JJ h;obtain⟨h1,h2,h3⟩:=bG hz;have CT:=Vy ho hx;have Fm:=KC ho hp;refine⟨⟨p.1,p.2,s,Fm,CT,h1,h2⟩,?_⟩;rw[<-hl]at h;obtain⟨g1,g2⟩:=aP (f:= .sx y i z) ho Bd ⟨p.1,p.2,_,Fm,CT,h1,h2,h3⟩;rw[hl]at g1 g2;exact⟨_,g1,g2,by rw[hl]at h;exact h⟩
  ·cases h
 case h_3 y a b=>
  split at h
  ·rename_i m p q hm hp hq;obtain⟨hr,h⟩:=GL h;exact⟨⟨_,_,_,_,m,KC ho hp,KC ho hq,aK ho hm,hr.1,hr.2.1,hr.2.2⟩,fa,ho,hs,h⟩
  ·cases h
 case h_4 y a b=>
  split at h
  ·rename_i s p q hm hp hq;obtain⟨hr,h⟩:=GL h;exact⟨⟨_,_,_,_,s,KC ho hp,KC ho hq,Vy ho hm,hr.1,hr.2.1,hr.2.2⟩,fa,ho,hs,h⟩
  ·cases h
 case h_5 a b bytes=>
  split at h
  ·rename_i m k hm hk;obtain⟨hr,h⟩:=GL h;exact⟨⟨m,k,aK ho hm,aK ho hk,hr.1,hr.2⟩,fa,ho,hs,h⟩
  ·cases h
 case h_6 a b=>
  split at h
  ·rename_i m k hm hk;obtain⟨hr,h⟩:=GL h;exact⟨⟨m,k,Vy ho hm,Vy ho hk,hr⟩,fa,ho,hs,h⟩
  ·cases h
 case h_7 a bytes=>
  split at h
  ·rename_i p hp;obtain⟨hr,h⟩:=GL h;exact⟨⟨p.1,p.2,KC ho hp,hr.1,hr.2.1,hr.2.2⟩,fa,ho,hs,h⟩
  ·cases h
 case h_8 a=>
  split at h
  ·rename_i p hp;obtain⟨hr,h⟩:=GL h;exact⟨⟨p.1,p.2,KC ho hp,hr⟩,fa,ho,hs,h⟩
  ·cases h
 case h_9 a=>
  split at h
  ·rename_i p hp;obtain⟨hr,h⟩:=GL h;exact⟨⟨p.1,p.2,KC ho hp,hr⟩,fa,ho,hs,h⟩
  ·cases h
 case h_10 y=>
  split at h
  ·rename_i v hv;split at h
   ·rename_i l S7;obtain⟨hr,h⟩:=GL h;have h2:=By ho y hv;rw[V.cb _ S7]at h2;have key:∀l:List Int,Lr (l.map λn=>AV.int .u8 n)=some (l.map λn=>UInt8.ofNat n.toNat):=by
     intro l
     induction l with
     |nil=>rfl
     |cons n l ih=>simp[Lr,ih]
    have ht:(y.den (env.map V.den)).text≠ .undef:=by rw[h2];simp only[AV.text,BP,show(List.map (BP T.av (.i .u8)) l)=l.map (λn=>AV.int .u8 n)from rfl,key l,List.length_map];rw[if_pos hr];intro h;cases h
    refine⟨by simpa[Cn.den,E.den]using ht,?_⟩;rw[<-hl]at h;obtain⟨g1,g2⟩:=aP (f:= .tx y) ho Bd ht;rw[hl]at g1 g2;exact⟨_,g1,g2,by rw[hl]at h;exact h⟩
   ·cases h
  ·cases h
 case h_11=>cases h
end
theorem Er(tb:List (FN T)){R:AV->Prop}{L:LK}:∀(n:Nat) {X:Type} {rt:V T->Option X} {t:Tr} {h:List JM} {env:List (V T)} {fa:List (Fa T)} {js:List (JT T X)} {jks:List JK} {x:X},
  Dh (env.map V.den) fa->(∀f∈fa,f.sc env.length=true)->(∀v,rt v=some x->R v.den)->HJ (env.map V.den) x js jks->Cl tb n rt t h env fa js=some x->t.den T.Rt R L jks (env.map V.den)
 |0,_,_,_,_,_,_,_,_,_,_,_,_,_,e=>by simp[Cl]at e
 |n+1,X,rt,t,h,env,fa,js,jks,x,ho,hs,hr,hj,e=>by
  have hl:(env.map V.den).length=env.length:=by simp
  have Bd:∀f∈fa,f.sc (env.map V.den).length=true:=by rwa[hl]
  have JY:∀{c:E},(ask env fa c λfa=>Cl tb n rt t h env fa js)=some x->t.den T.Rt R L jks (env.map V.den):=λe=>by obtain⟨fa',h1,h2,h3⟩:=zyw ho hs e;exact Er tb n h1 h2 hr hj h3
  cases t with
  |leaf|stuck|br=>simp[Cl]at e
  |ret r=>
   simp only[Cl]at e;split at e
   ·rename_i v hv;show R (r.den _);rw[By ho r hv];exact hr v e
   ·cases e
  |jmp d es=>
   simp only[Cl]at e;split at e
   ·rename_i j vs hd hv;obtain⟨jk,hk,hq⟩:=hj.get hd;show match jks[d]? with|some j=>j (es.den _)|none=>False
    rw[hk,KF ho es hv];exact hq fa vs [] (by simpa using ho) (by simpa using hs) e
   ·cases e
  |ite c a b=>
   simp only[Cl]at e;split at e
   ·rename_i hc;exact⟨true,I7 ho hc,λ_=>Er tb n ho hs hr hj e,λh=>by cases h⟩
   ·rename_i hc;exact⟨false,I7 ho hc,λh=>(by cases h),λ_=>Er tb n ho hs hr hj e⟩
   ·split at e
    ·rename_i y hy;obtain⟨v,hv,hy⟩:=As.1 hy;have hc:c.den (env.map V.den)= .bool y:=by rw[By ho c hv,V.bool?_den hy]
     cases y with
     |true=>rw[if_pos rfl]at e;exact⟨true,hc,λ_=>Er tb n (R2 ho hc) (R3 hs) hr hj e,λh=>by cases h⟩
     |false=>rw[if_neg (by simp)]at e;exact⟨false,hc,λh=>(by cases h),λ_=>Er tb n (R2 ho hc) (R3 hs) hr hj e⟩
    ·exact JY e
  |bg gs c k=>
   simp only[Cl]at e;split at e
   ·rename_i hg;exact⟨λh=>absurd h (U4 ho hg),Er tb n ho hs hr hj e⟩
   ·split at e
    ·rename_i hc;exact⟨λ_=>lW ho hc,Er tb n ho hs hr hj e⟩
    ·obtain⟨hc,fa',h1,h2,h3⟩:=zv9 ho hs e;exact⟨λ_=>hc,Er tb n h1 h2 hr hj h3⟩
   ·split at e
    ·rename_i hc;exact⟨λ_=>lW ho hc,Er tb n ho hs hr hj e⟩
    ·exact JY e
  |call gs f args k=>
   simp only[Cl]at e;split at e
   ·rename_i hg;refine⟨.undef,λh=>absurd h (U4 ho hg),?_⟩;obtain⟨h1,h2⟩:=M9 (τ:=[AV.undef]) ho Bd;have:=Er tb n (R:=R) (L:=L) (env:=env++ [.no]) (by simpa[V.den]using h1) (by simpa using h2) hr (by simpa[V.den]using hj.ext (σ:=[AV.undef])) e;simpa[V.den]using this
   ·exact JY e
   ·split at e
    ·rename_i g;split at e
     ·rename_i d vs hd hv;split at e
      ·rename_i xs B9;obtain⟨y,hy,e⟩:=JJ e;obtain⟨g1,g2⟩:=mK B9;refine⟨FE T d.r y,λ_=> ?_,?_⟩
       ·show T.Rt g (args.den _) _;rw[KF ho args hv,g1,<-aA hd];exact d.ok xs y g2 hy
       ·obtain⟨h1,h2⟩:=M9 (τ:=[FE T d.r y]) ho Bd;have:=Er tb n (R:=R) (L:=L) (env:=env++ [vR d.r y]) (by simpa[Ss]using h1) (by simpa using h2) hr (by simpa[Ss]using hj.ext (σ:=[FE T d.r y])) e;simpa[Ss]using this
      ·cases e
     ·cases e
    ·rename_i z;split at e
     ·rename_i i;split at e
      ·rename_i aa r c hc hi;split at e
       ·rename_i F3;split at e
        ·rename_i ys CX;obtain⟨vs,hv,CX⟩:=As.1 CX;obtain⟨y,hy,e⟩:=JJ e;refine⟨BP T.av r y,λ_=>⟨c.g,c.caps,?_,?_,U1 F3 y⟩,?_⟩
         ·simp only[E.den,List.getElem?_map,hi];rfl
         ·rw[KF ho args hv,VL.fg vs CX];exact hc ys y hy
         ·obtain⟨h1,h2⟩:=M9 (τ:=[BP T.av r y]) ho Bd;have:=Er tb n (R:=R) (L:=L) (env:=env++ [.v r y]) (by simpa[V.den]using h1) (by simpa using h2) hr (by simpa[V.den]using hj.ext (σ:=[BP T.av r y])) e;simpa[V.den]using this
        ·cases e
       ·cases e
      ·cases e
     ·cases e
  |join a k=>
   have inl:∀h',Cl tb n rt a h' env fa ((λfa' vs=>Cl tb n rt k (h'.drop a.jl) (env++vs.dg) (VS env.length fa') js)::js)=some x->(Tr.join a k).den T.Rt R L jks (env.map V.den):=by intro h' e;show a.den T.Rt R L _ _;refine Er tb n ho hs hr (.cons (λfa' vs τ h1 h2 h3=> ?_) hj) e;have hf:=zwv (τ':=vs.den) h1;rw[hl]at hf;have:=Er tb n (R:=R) (L:=L) (env:=env++vs.dg) (by simpa[VL.az]using hf.1) (by have:=hf.2;simpa[VL.db]using this) hr (by simpa[VL.az]using hj.ext (σ:=vs.den)) h3;simpa[VL.az]using this
   cases h with
   |nil=>exact inl [] (by simpa[Cl]using e)
   |cons o h=>
    cases o with
    |inl=>exact inl h (by simpa[Cl]using e)
    |pt=>simp only[Cl]at e;show a.den T.Rt R L _ _;refine Er tb n ho hs hr (.cons (λfa' vs τ h1 h2 h3=> ?_) hj) e;obtain⟨h4,h5⟩:=M9 (τ:=vs.den) ho Bd;have:=Er tb n (R:=R) (L:=L) (env:=env++vs.dg) (by simpa[VL.az]using h4) (by simpa[VL.db]using h5) hr (by simpa[VL.az]using hj.ext (σ:=vs.den)) h3;simpa[VL.az]using this
    |sp ts=>
     simp only[Cl]at e;show a.den T.Rt R L _ _;unfold bQ at e;split at e
     ·cases e
     ·rename_i s BA;have hk:k.den T.Rt R L jks (env.map V.den++(Gz ts s).map V.den):=by
       obtain⟨h1,h2⟩:=M9 (τ:=(Gz ts s).map V.den) ho Bd;have:=Er tb n (R:=R) (L:=L) (env:=env++Gz ts s) (by simpa using h1) (by simpa using h2) hr (by simpa using hj.ext (σ:=(Gz ts s).map V.den)) e;simpa using this
      refine Er tb n ho hs (λv hv=>by simp at hv) (.cons (λfa' vs τ h1 h2 h3=> ?_) hj.kd) BA;split at h3
      ·rename_i s' Bd;simp only[Af,Sum.inl.injEq]at h3;subst h3;rw[<-VL.az,VB ts Bd];exact hk
      ·cases h3
     ·rename_i o Tb;subst e;refine Er tb n ho hs (λv hv=>hr v (by simpa using hv)) (.cons (λfa' vs τ h1 h2 h3=> ?_) hj.lift) Tb;split at h3<;>simp at h3
  |loop i b k=>
   cases h with
   |nil=>simp[Cl]at e
   |cons o h=>
    cases o with
    |inl|pt=>simp[Cl]at e
    |sp ts=>
     simp only[Cl]at e;split at e
     ·rename_i s dJ;obtain⟨vs,hv,BA⟩:=As.1 dJ;clear dJ;obtain⟨m,hm⟩:=UQ.1 e;refine⟨m,?_⟩;rw[KF ho i hv,<-VL.az,VB ts BA];clear BA e hv JY;have fx:∀s:HS T.car ts,Dh ((env++Gz ts s).map V.den) fa/\(∀f∈fa,f.sc (env++Gz ts s).length=true)/\HJ ((env++Gz ts s).map V.den) x js jks:=λs=>by
       obtain⟨h1,h2⟩:=M9 (τ:=(Gz ts s).map V.den) ho Bd;exact⟨by simpa using h1,by simpa using h2,by simpa using hj.ext (σ:=(Gz ts s).map V.den)⟩
      have hA:∀(vs:VL T),Cl tb n rt k (h.drop b.jl) (env++vs.dg) fa js=some x->k.den T.Rt R L jks (env.map V.den++vs.den):=λvs h3=>by obtain⟨h4,h5⟩:=M9 (τ:=vs.den) ho Bd;have:=Er tb n (R:=R) (L:=L) (env:=env++vs.dg) (by simpa[VL.az]using h4) (by simpa[VL.db]using h5) hr (by simpa[VL.az]using hj.ext (σ:=vs.den)) h3;simpa[VL.az]using this
      induction m generalizing s with
      |zero=>cases hm
      |succ m ihm=>
       obtain⟨h1,h2,h3⟩:=fx s;show b.den T.Rt R L _ _;rw[<-List.map_append];simp only[Fe]at hm;split at hm
       ·cases hm
       ·rename_i s' hb;refine Er tb n h1 h2 (λv hv=>by simp at hv) (.cons (λfa' vs τ q1 q2 q3=> ?_) (.cons (λfa' vs τ q1 q2 q3=>by simp at q3) h3.kd)) hb;split at q3
        ·rename_i s2 AY;simp only[Af,Sum.inl.injEq]at q3;subst q3;rw[<-VL.az,VB ts AY];exact ihm _ hm
        ·cases q3
       ·rename_i o hb;subst hm;refine Er tb n h1 h2 (λv hv=>hr v (by simpa using hv)) (.cons (λfa' vs τ q1 q2 q3=> ?_) (.cons (λfa' vs τ q1 q2 q3=> ?_) h3.lift)) hb
        ·split at q3<;>simp at q3
        ·exact hA vs (by simpa using q3)
     ·cases e
end
section
structure Fix where
 w0:World
 A:Al
 Mu:Nat->Prop
 lr:∀t v,A.pin t=some v->LU t=true
def Gf(F:Fix)(ρ:List AV)(σ:St)(a:Act)(w:World):Prop:=
 ∃c:Cx,c.ρ=ρ/\c.w=w/\c.w0=F.w0/\c.A=F.A/\c.Mu=F.Mu/\ρ.length=σ.nv/\(∀t,c.U t->t<σ.nx)/\Rel c σ.sl.length (Bv σ) (AD σ.hp) a
def Xt.ex:Xt->Exit
 | .normal=> .normal
 | .exit i=> .exit i
 | .ret=> .ret
section
variable (P:Program) (sg:BR) (Rt:Nat->List AV->AV->Prop)
def kQ:Prop:= ∀(id:Nat) (ops:Array Oper) (draw:Bool) (σ:St) (t:Tr),nN ops=false->σ.sc=true->(σ.hp.all λ(t,_)=>decide (t<σ.nx))=true->
 KQ P sg ops draw σ.nx (List.range ops.size) [] σ=some t-> ∀(F:Fix) (R:AV->Prop) (L:LK) (js:List JK) (ρ:List AV) (a:Act) (w:World),Je L->t.den Rt R L js ρ->Gf F ρ σ a w->
 ∀Q,(∀i x τ ρ' a' w',ρ<+:ρ'->L (i++js) x τ ρ'->Gf F ρ' τ a' w'->Q x.ex a' w')->(Code.region id ops draw).wp P Q a w
def VC:Prop:= ∀(F:Fix) (nv:Nat) (pat τ:St) (es:List E) (ρ ρ':List AV) (a:Act) (w:World),JN nv pat τ=some es->ρ.length=nv->ρ<+:ρ'->Gf F ρ' τ a w->Gf F (ρ++(EL.of es).den ρ') pat a w
end
section
variable {P:Program} {sg:BR} {Rt:Nat->List AV->AV->Prop} {rs:Nat}
theorem Gf.ch{F:Fix}{ρ:List AV}{σ:St}{a:Act}{w:World}(h:Gf F ρ σ a w){x:Operand}{s:SV}(hx:Bn (Bv σ) [] x=some s):∃c:Cx,c.ρ=ρ/\SR c [s] [a.eval x]:=by obtain⟨c,rfl,_,_,_,_,_,_,hr⟩:=h;exact⟨c,rfl,Uz hx (λt _=>hr.cv t) (Et _)⟩
theorem fY{run:St->Option Tr}{nv live:Nat}{σ:St}:∀(n:Nat) (p:St × Nat) {pat:St} {t:Tr},Sf run nv live σ n p=some (pat,t)->run pat=some t
 |0,p,pat,t,h=>by simp[Sf]at h
 |n+1,p,pat,t,h=>by
  simp only[Sf]at h;split at h
  ·cases h
  ·rename_i t' ht;split at h
   ·simp at h;obtain⟨rfl,rfl⟩:=h;exact ht
   ·exact fY n _ h
theorem mN{i js:List JK}{j:JK}{d:Nat}(h:d=i.length):(i++j::js)[d]?=some j:=by subst h;simp
theorem zwF{i js:List JK}{j k:JK}{d:Nat}(h:d=i.length):(i++j::k::js)[d+1]?=some k:=by subst h;rw[List.getElem?_append_right (by omega)];simp
def HH(P:Program)(sg:BR)(Rt:Nat->List AV->AV->Prop)(rs:Nat)(c:Code):Prop:=
 ∀(ex:List (Nat × Nat)) (l:Nat) (σ:St) (t:Tr),D8 P sg rs c ex l σ=some t-> ∀(F:Fix) (R:AV->Prop) (L:LK) (js:List JK) (ρ:List AV) (a:Act) (w:World),Je L->t.den Rt R L js ρ->Gf F ρ σ a w->
  ∀Q,(∀i x τ ρ' a' w',ρ<+:ρ'->L (i++js) x τ ρ'->Gf F ρ' τ a' w'->Q x.ex a' w')->c.wp P Q a w
theorem HH.leaf{c:Code}(h:HH P sg Rt rs c){ex:List (Nat × Nat)}{l:Nat}{σ:St}{t:Tr}(he:D8 P sg rs c ex l σ=some t){F:Fix}{R:AV->Prop}{L:LK}{js:List JK}{ρ:List AV}{a:Act}{w:World}(hL:Je L)(hd:t.den Rt R L js ρ)(hr:Gf F ρ σ a w)
  {Q:Exit->Act->World->Prop} (hq:∀i x τ ρ' a' w',ρ<+:ρ'->t.dr x τ->L (i++js) x τ ρ'->Gf F ρ' τ a' w'->Q x.ex a' w'):c.wp P Q a w:=
 h ex l σ t he F R (λjs x τ ρ=>t.dr x τ/\L js x τ ρ) js ρ a w (λ_ _ _ _ _ hj hh=>⟨hh.1,hL _ _ _ _ _ hj hh.2⟩) (t.du hd (DU.refl js) λ_ _ _ _ _ hf hi hl=>⟨hf,hL _ _ _ _ _ (hi.app (DU.refl js)) hl⟩) hr Q λi x τ ρ' a' w' hp hh hs=>hq i x τ ρ' a' w' hp hh.1 hh.2 hs
theorem zV{id:Nat}{b:Code}(ih:HH P sg Rt rs b):HH P sg Rt rs (.block id b):=by
 intro ex l σ t he F R L js ρ a w hL hd hr Q hq;simp only[D8,As]at he;obtain⟨t0,h0,hs⟩:=he;have h1:=Tr.dt _ hL t0 hs hd;refine wp_block (ih _ _ _ _ h0 F R _ js ρ a w (RJ hL _ _) h1 hr _ λi x τ ρ' a' w' hp hl hrel=> ?_);obtain⟨r,d',e1,e2,e3⟩:=hl;simp only[Af]at e1;subst e1;have:=hq i _ τ ρ' a' w' hp e3 hrel;cases x with
 |normal=>exact this
 |ret=>exact this
 |exit j=>
  simp only[Xt.ex,Exit.inBlock]at this ⊢;split
  ·rename_i hj;simpa[hj,Xt.ex]using this
  ·rename_i hj;simpa[hj,Xt.ex]using this
theorem zwm(hi:VC){x y:Code}(ihx:HH P sg Rt rs x)(ihy:HH P sg Rt rs y):HH P sg Rt rs (.seq x y):=by
 intro ex l σ t he F R L js ρ a w hL hd hr Q hq;simp only[D8]at he;split at he
 ·cases he
 ·rename_i t0 h0;refine wp_seq ?_;split at he
  ·rename_i hn;simp at he;subst he;refine ihx.leaf h0 hL hd hr λi x τ ρ' a' w' hp hf hl hrel=> ?_;cases x with
   |normal=>have:=hf.norm;rw[hn]at this;simp at this
   |exit j=>exact hq i _ τ ρ' a' w' hp hl hrel
   |ret=>exact hq i _ τ ρ' a' w' hp hl hrel
  ·rename_i τ0 hn;split at he
   ·cases he
   ·rename_i k hk;have h1:=Tr.dt _ hL t0 he hd;refine ihx.leaf h0 (RJ hL _ _) h1 hr λi x τ ρ' a' w' hp hf hl hrel=> ?_;obtain⟨r,d',e1,e2,e3⟩:=hl;simp only[Af]at e1;subst e1;cases x with
    |normal=>have:=hf.norm;rw[hn]at this;simp at this;subst this;exact ihy _ _ _ _ hk F R L _ ρ' a' w' hL e3 hrel Q λi' x' τ' ρ'' a'' w'' hp' Bw CM=>hq (i'++i) x' τ' ρ'' a'' w'' (hp.trans hp') (by simpa using Bw) CM
    |exit j=>exact hq i _ τ ρ' a' w' hp e3 hrel
    |ret=>exact hq i _ τ ρ' a' w' hp e3 hrel
  ·split at he
   ·cases he
   ·rename_i pat rD;split at he
    ·cases he
    ·rename_i k hk;obtain⟨t',Lj,rfl⟩:=Aq.1 he;have h1:=Tr.dt _ hL t0 Lj hd;refine ihx _ _ _ _ h0 F R _ _ ρ a w (RJ hL _ _) h1 hr _ λi x τ ρ' a' w' hp hl hrel=> ?_;obtain⟨r,d',e1,e2,e3⟩:=hl;cases x with
     |normal=>
      obtain⟨es,Hs,rfl⟩:=Aq.1 e1;have J1:d'=i.length:=by simp only[Ap,Ao]at e2;omega
      simp only[Tr.den,mN J1]at e3;obtain⟨c0,BG,_,_,_,_,FR,_⟩:=hr;have CM:=hi F _ pat τ es ρ ρ' a' w' Hs FR hp hrel;refine ihy _ _ _ _ hk F R L js _ a' w' hL e3 CM Q λi' x' τ' ρ'' a'' w'' hp' Bw CM=>hq i' x' τ' ρ'' a'' w'' ((List.prefix_append _ _).trans hp') Bw CM
     |exit j=>simp only[Af]at e1;subst e1;exact hq (i++ [_]) _ τ ρ' a' w' hp (by simpa[Tr.den]using e3) hrel
     |ret=>simp only[Af]at e1;subst e1;exact hq (i++ [_]) _ τ ρ' a' w' hp (by simpa[Tr.den]using e3) hrel
theorem zuJ{x:Operand}{p q:Code}(ihp:HH P sg Rt rs p)(ihq:HH P sg Rt rs q):HH P sg Rt rs (.cond x p q):=by
 intro ex l σ t he F R L js ρ a w hL hd hr Q hq;simp only[D8]at he;split at he
 ·rename_i hx;obtain⟨c,rfl,hs⟩:=hr.ch hx;have:a.eval x= .bool true:=by
   generalize a.eval x=v at hs;cases hs with
   |e h1 _ _=>exact HF h1 rfl
  exact wp_cond_true this (ihp _ _ _ _ he F R L js _ a w hL hd hr Q hq)
 ·rename_i hx;obtain⟨c,rfl,hs⟩:=hr.ch hx;have:a.eval x= .bool false:=by
   generalize a.eval x=v at hs;cases hs with
   |e h1 _ _=>exact HF h1 rfl
  exact wp_cond_false this (ihq _ _ _ _ he F R L js _ a w hL hd hr Q hq)
 ·rename_i y _ _ hx;split at he
  ·rename_i ta tb QV Ti;simp at he;subst he;obtain⟨b,hb,d1,d2⟩:=hd;obtain⟨c,rfl,hs⟩:=hr.ch hx;have:a.eval x= .bool b:=by
    generalize a.eval x=v at hs;cases hs with
    |e h1 _ _=>exact HF h1 hb
   exact wp_cond_split this (λhh=>ihp _ _ _ _ QV F R L js _ a w hL (d1 hh) hr Q hq) (λhh=>ihq _ _ _ _ Ti F R L js _ a w hL (d2 hh) hr Q hq)
  ·cases he
 ·cases he
theorem SG{p:Nat->Prop}(h:∃n,p n):∃n,p n/\ ∀m,p m->n<=m:=by
 obtain⟨n,hn⟩:=h
 induction n using Nat.strongRecOn with
 |_ n ih=>
  by_cases hh:∃m,m<n/\p m
  ·obtain⟨m,hm,hp⟩:=hh;exact ih m hm hp
  ·exact⟨n,hn,λm hm=>Nat.le_of_not_lt λAI=>hh ⟨m,AI,hm⟩⟩
theorem ztL(hi:VC){b:Code}(ih:HH P sg Rt rs b):HH P sg Rt rs (.loop b):=by
 intro ex l σ tr he F R L js ρ a w hL hd hr Q hq;simp only[D8]at he;split at he
 ·cases he
 ·rename_i pat t Dx;have AH:=fY _ _ Dx;split at he
  ·cases he
  ·rename_i i0 qB;obtain⟨k,f,t',BJ,rM,FJ,S3,hk⟩:∃(k:Tr) (f:Nat->Xt->St->Option Tr) (t':Tr),t.sub f 0=some t'/\tr= .loop (EL.of i0) t' k/\
     (∀d τ,f d .normal τ=(JN σ.nv pat τ).map λes=> .jmp d (EL.of es))/\
     (∀d x τ r,x≠ .normal->f d x τ=some r->r= .leaf x τ\/ ∃post es,k= .leaf x post/\JN σ.nv post τ=some es/\r= .jmp (d+1) (EL.of es))/\True:=by
    split at he
    ·obtain⟨t',Lj,rfl⟩:=Aq.1 he;refine⟨_,_,t',Lj,rfl,λ_ _=>rfl,λd x τ r hx hr=> .inl ?_,trivial⟩;cases x with
     |normal=>exact absurd rfl hx
     |exit j=>simpa using hr.symm
     |ret=>simpa using hr.symm
    ·rename_i id hid;split at he
     ·cases he
     ·rename_i post dF;obtain⟨t',Lj,rfl⟩:=Aq.1 he;refine⟨_,_,t',Lj,rfl,λ_ _=>rfl,λd x τ r hx hr=> ?_,trivial⟩;cases x with
      |normal=>exact absurd rfl hx
      |exit j=>
       simp only at hr;split at hr
       ·rename_i hj;subst hj;obtain⟨es,Hs,rfl⟩:=Aq.1 hr;exact .inr ⟨post,es,rfl,Hs,rfl⟩
       ·exact .inl (by simpa using hr.symm)
      |ret=>exact .inl (by simpa using hr.symm)
   subst rM;obtain⟨n0,dD⟩:=hd;obtain⟨c0,BG,S1,hc3,hc4,hc5,FR,hc7,hc8⟩:=id hr;generalize DO:(λ(W:JK) (vs:List AV)=>t'.den Rt R L (W::(λus=>k.den Rt R L js (ρ++us))::js) (ρ++vs))=body at dD;let J:Nat->Act->World->Prop:=λn a w=> ∃vs,Ia body n vs/\Gf F (ρ++vs) pat a w;have o0:J n0 a w:=⟨_,dD,hi F _ pat σ i0 ρ ρ a w qB FR (List.prefix_refl _) hr⟩
   classical
   let μ:Act->World->Nat:=λa w=>if h:∃n,J n a w then Classical.choose (SG h)else 0;refine wp_loop (λa w=> ∃n,J n a w) μ ⟨n0,o0⟩ λa1 w1 hI=> ?_;have hμ:μ a1 w1=Classical.choose (SG hI):=by simp only[μ];rw[dif_pos hI]
   have hJ:=(Classical.choose_spec (SG hI)).1;rw[hμ];generalize Classical.choose (SG hI)=m at hJ;obtain⟨vs,Jn,hrel⟩:=hJ;cases m with
   |zero=>exact Jn.elim
   |succ m=>
    have hb:t'.den Rt R L (Ia body m::(λus=>k.den Rt R L js (ρ++us))::js) (ρ++vs):=by have h9:Ia body (m+1) vs=body (Ia body m) vs:=rfl;rw[h9]at Jn;have:=congrFun (congrFun DO (Ia body m)) vs;rw[<-this]at Jn;exact Jn
    have h1:=Tr.dt _ hL t BJ hb;refine ih _ _ _ _ AH F R _ _ _ a1 w1 (RJ hL _ _) h1 hrel _ λi x τ ρ' a' w' hp hl CM=> ?_;obtain⟨r,d',e1,e2,e3⟩:=hl;have J1:d'=i.length:=by simp only[Ap,Ao]at e2;omega
    have hp':ρ<+:ρ':=(List.prefix_append _ _).trans hp;by_cases hx:x= .normal
    ·subst hx;rw[FJ]at e1;obtain⟨es,Hs,rfl⟩:=Aq.1 e1;simp only[Tr.den,mN J1]at e3;have SU:J m a' w':=⟨_,e3,hi F _ pat τ es ρ ρ' a' w' Hs FR hp' CM⟩
     refine⟨⟨m,SU⟩,?_⟩;simp only[μ];rw[dif_pos ⟨m,SU⟩];exact Nat.lt_succ_of_le ((Classical.choose_spec (SG ⟨m,SU⟩)).2 _ SU)
    ·have QW:Q x.ex a' w'->Exit.then (λa' w'=>(∃n,J n a' w')/\μ a' w'<m+1) Q x.ex a' w':=by
      cases x with
      |normal=>exact absurd rfl hx
      |exit j=>exact id
      |ret=>exact id
     apply QW;rcases S3 _ _ _ _ hx e1 with rfl|⟨post,es,rfl,Hs,rfl⟩
     ·exact hq (i++ [_,_]) x τ ρ' a' w' hp' (by simpa[Tr.den]using e3) CM
     ·simp only[Tr.den,zwF J1]at e3;have:=hi F _ post τ es ρ ρ' a' w' Hs FR hp' CM;exact hq [] x post _ a' w' (List.prefix_append _ _) e3 this
theorem ztl(hr:kQ P sg Rt)(hi:VC):∀c,HH P sg Rt rs c:=by
 intro c
 induction c with
 |skip=>intro ex l σ t he F R L js ρ a w hL hd hr Q hq;simp only[D8,Af]at he;subst he;exact wp_skip (hq [] _ _ _ _ _ (List.prefix_refl _) hd hr)
 |label=>intro ex l σ t he F R L js ρ a w hL hd hr Q hq;simp only[D8,Af]at he;subst he;exact wp_label (hq [] _ _ _ _ _ (List.prefix_refl _) hd hr)
 |ret=>intro ex l σ t he F R L js ρ a w hL hd hr Q hq;simp only[D8,Af]at he;subst he;exact wp_ret (hq [] _ _ _ _ _ (List.prefix_refl _) hd hr)
 |exit id=>intro ex l σ t he F R L js ρ a w hL hd hr Q hq;simp only[D8,Af]at he;subst he;exact wp_exit (hq [] _ _ _ _ _ (List.prefix_refl _) hd hr)
 |region id ops draw=>
  intro ex l σ t he F R L js ρ a w hL hd hrel Q hq;simp only[D8]at he;split at he
  ·simp at he;subst he;exact hd.elim
  ·rename_i hp;split at he
   ·cases he
   ·rename_i hs;simp only[Bool.or_eq_true,Bt,not_or,Bool.not_eq_false]at hs;exact hr id ops draw σ t (by simpa using hp) hs.1 hs.2 he F R L js ρ a w hL hd hrel Q hq
 |scope b ih=>intro ex l σ t he F R L js ρ a w hL hd hr Q hq;simp only[D8]at he;refine wp_scope_straight (ih _ _ _ _ he F R L js ρ a w hL hd hr _ λi x τ ρ' a' w' hp hl hrel=> ?_);have:=hq i x τ ρ' a' w' hp hl hrel;cases x<;>exact this
 |cond x p q ihp ihq=>exact zuJ ihp ihq
 |block id b ih=>exact zV ih
 |seq x y ihx ihy=>exact zwm hi ihx ihy
 |loop b ih=>exact ztL hi ih
 |_=>intro ex l σ t he;simp[D8]at he
end
end
end Go.Proofs.YtkpifpljpoochaaGreatDoor

/- Parts of a proof, joined: WA, VJa, VK, VL, VM, VN, VO, VP, VQ, VR, VS, VT, VU, VV, VW. -/
import Derived.Test.YtlmjpjceiefpoaaGreatDoorL2
import Derived.WalkSpells
import Derived.Laws.BytesArg
set_option linter.unusedVariables false
set_option linter.unusedSimpArgs false
namespace Go.Proofs.YtlmjpjceiefpoaaGreatDoor
open Go.RowKit
section
theorem BF.{u}{α:Type u}{a:Array α}:a.toList.length=a.size:=Array.length_toList
theorem A0.{u,v}{α:Type u}{β:Type v}(a:α)(b:β)(c:α)(d:β):((a,b)=(c,d))=(a=c/\b=d):=Prod.mk.injEq a b c d
theorem Kj:∀{l:List (Nat × Ai)} {t:Nat} {e:Ai},AQ l t=some e->(t,e)∈l
 | [],_,_,h=>by simp[AQ]at h
 |(u,f)::l,t,e,h=>by
  simp only[AQ]at h;split at h
  ·rename_i hu;subst hu;simp at h;subst h;simp
  ·exact List.mem_cons_of_mem _ (Kj h)
theorem OW{α:Type}:∀{l:List (Nat × α)} {t:Nat} {e:α},l.lookup t=some e->(t,e)∈l
 | [],_,_,h=>by simp at h
 |(u,f)::l,t,e,h=>by
  simp only[List.lookup_cons]at h;split at h
  ·rename_i hu;simp at h hu;subst h;subst hu;simp
  ·exact List.mem_cons_of_mem _ (OW h)
theorem jR:∀{θ:List (Nat × Option Nat)},Ph θ=true-> ∀{t u v:Nat},(t,some v)∈θ->(u,some v)∈θ->t=u
 | [],_,t,u,v,h,_=>by simp at h
 |(p,q)::θ,hn,t,u,v,h1,h2=>by
  have hn':Ph θ=true:=by cases q<;>(simp only[Ph,Ac]at hn;exact hn.2)
  have key:∀x,(p,some v)=(p,q)->(x,some v)∈θ->False:=by intro x hq hx;cases hq;simp only[Ph,Ac,Ba]at hn;have:=hn.1 _ hx;simp at this
  rcases Ag.1 h1 with h3|h3<;>rcases Ag.1 h2 with h4|h4
  ·cases h3;cases h4;rfl
  ·cases h3;exact(key u rfl h4).elim
  ·cases h4;exact(key t rfl h3).elim
  ·exact jR hn' h3 h4
def Cq(hp:List (Nat × Ai))(t:Nat):Option Nat:=match AQ hp t with
 |some (.box ..)=>some 0
 |some (.row _ _ g _ _)=>some g
 |some (.da g _)=>some g
 |some (.deep _ _ _ g _ _)=>some g
 |_=>none
def IH(hp:List (Nat × Ai))(t:Nat):Bool:=match AQ hp t with
 |some (.box ..)=>true
 |some (.row ..)=>true
 |some (.deep ..)=>true
 |_=>false
def M0(pat leaf:Option Ai)(g:GI):GI:=match pat,leaf with
 |some (.row ..),some (.deep ..)=>⟨g.top.take 1,[]⟩
 |_,_=>g
theorem zLk{p l:Option Ai}{g:GI}{b:Nat}(h:b∈(M0 p l g).top):b∈g.top:=by
 unfold M0 at h;split at h
 ·exact BD h
 ·exact h
theorem zKA{p l:Option Ai}{g:GI}{b:Nat}(h:b∈(M0 p l g).own):b∈g.own:=by
 unfold M0 at h;split at h
 ·simp only[GI.own,AG]at h;simp[GI.own,BD h]
 ·exact h
theorem zGR{p l:Option Ai}{g:GI}(h:g.own.Nodup):(M0 p l g).own.Nodup:=by
 unfold M0;split
 ·simp only[GI.own,AG]at h ⊢;exact List.Sublist.nodup (List.Sublist.trans (List.take_sublist _ _) (List.sublist_append_left _ _)) h
 ·exact h
def DG(c:Cx)(ρ:List AV)(θ:List (Nat × Option Nat))(pat leaf:St):Cx:=
 {c with
  ρ:=ρ
  G:=λt=>if IH pat.hp t then(match θ.lookup t with|some (some t')=>M0 (AQ pat.hp t) (AQ leaf.hp t') (c.G t')|_=>⟨[],[]⟩)else⟨[],[]⟩
  K:=λt g=>Cq pat.hp t=some g
  H:=λt _=>match θ.lookup t with|some (some t')=>c.H t' ((Cq leaf.hp t').getD 0)|_=> .slice none 0 0
  U:=λt=>t<pat.nx
  E:=λt=>match AQ pat.hp t with|some (.deep _ _ _ _ ep _)=>ep|_=>0}
section
variable {c:Cx} {ρ:List AV} {nv n:Nat} {es:List E} {θ:List (Nat × Option Nat)} {pat leaf:St} {sl:Nat->SV} {a:Act}
theorem Pe{t b:Nat}(h:b∈((DG c ρ θ pat leaf).G t).own):IH pat.hp t=true/\ ∃t',θ.lookup t=some (some t')/\(b∈((DG c ρ θ pat leaf).G t).top->b∈(c.G t').top)/\b∈(c.G t').own:=by
 simp only[DG]at h ⊢;split at h
 ·rename_i ho;split at h
  ·rename_i t' ht;exact⟨ho,t',ht,λhb=>by rw[if_pos ho]at hb;exact zLk hb,zKA h⟩
  ·simp[GI.own]at h
 ·simp[GI.own]at h
theorem Uw{b:Nat}(h:c.ok b):(DG c ρ θ pat leaf).ok b:=by refine⟨λ⟨t,ht⟩=> ?_,h.2⟩;obtain⟨_,t',_,hg,_⟩:=Pe (b:=b) (by simp only[GI.own,Ae];exact .inl ht);exact h.1 ⟨t',hg ht⟩
theorem Nx(hp:ρ<+:c.ρ)(hn:ρ.length=nv){x y:E}(h:K6 nv es x y=true):x.den (ρ++(EL.of es).den c.ρ)=y.den c.ρ:=by
 obtain⟨τ,hτ⟩:=hp;have Mz:x.sc nv=true->x.beq y=true->x.den (ρ++(EL.of es).den c.ρ)=y.den c.ρ:=by intro h1 h2;rw[<-E.bb c.ρ x y h2];subst hn;generalize hq:(EL.of es).den c.ρ=q;rw[E.bp ρ q τ x h1,hτ]
 unfold K6 at h;split at h
 ·rename_i i;split at h
  ·rename_i hi;exact Mz (by simpa[E.sc]using hi) h
  ·rename_i hi;split at h
   ·rename_i z hz;rw[<-E.bb c.ρ z y h];simp only[E.den,EL.ez];rw[List.getElem?_append_right (by omega),hn,List.getElem?_map,hz];rfl
   ·cases h
 ·simp only[Ac]at h;exact Mz h.1 h.2
theorem zL0(hrel:Rel c n sl (AQ leaf.hp) a){s:SV}{v:Value}{y:E}(hs:SR c [s] [v])(h:Ky leaf s=some y):∃f,Rd c.w [v] [y.den c.ρ] f/\ ∀b∈f,c.gp (Cg (AQ leaf.hp) [] (Bb+1) [s]) b:=
 Je (λt e hr=>hrel.ents t e hr) (Fw _) Bb h hs Bb (AB _)
mutual
theorem zMH(hrel:Rel c n sl (AQ leaf.hp) a)(hp:ρ<+:c.ρ)(hn:ρ.length=nv)(CJ:∀t e,(t,e)∈pat.hp->Jm nv es θ pat leaf t e=true):∀(m:Nat) {p s:SV} {v:Value},V4 nv es θ pat leaf m p s=true->SR c [s] [v]->SR (DG c (ρ++(EL.of es).den c.ρ) θ pat leaf) [p] [v]
 |0,p,s,v,h,_=>by simp[V4]at h
 |m+1,p,s,v,h,hs=>by
  unfold V4 at h;split at h
  ·exact .undef .nil
  ·rename_i x;split at h
   ·rename_i y hy;simp only[Ac,Ba,Bool.or_eq_true]at h;obtain⟨f,hf,JD⟩:=zL0 hrel hs hy;have hx:=Nx (c:=c) hp hn h.1;refine .e (by rw[show(DG c (ρ++(EL.of es).den c.ρ) θ pat leaf).ρ=ρ++(EL.of es).den c.ρ from rfl,hx];exact hf) (λb hb=> ?_) .nil;rcases JD b hb with hb|⟨t',Oa,hb⟩
    ·exact Uw hb
    ·refine⟨λ⟨u,hu⟩=> ?_, .inr (hrel.gw.allow t' b (by simp[GI.own,hb]))⟩;obtain⟨ho,v',hl,hg,U5⟩:=Pe (b:=b) (by simp only[GI.own,Ae];exact .inl hu);have hv:v'=t':=by
      refine Classical.byContradiction λBU=>hrel.gw.dt v' t' BU b U5 (by simp[GI.own,hb])
     subst hv;have:=h.2 _ Oa _ (OW hl);simp only[bne_self_eq_false,A7,false_or]at this;unfold IH at ho;split at this
     ·rename_i hh;rw[hh]at ho;simp at ho
     ·rename_i hh;rw[hh]at ho;simp at ho
     ·cases this
   ·cases h
  ·split at h
   ·cases hs with
    |dg _=>exact .dg .nil
   ·cases h
  ·split at h
   ·cases hs with
    |emp _=>exact .emp .nil
   ·cases hs with
    |dg _=>exact .emp .nil
   ·cases h
  ·rename_i t g;have key:∀t' v',Cq pat.hp t=some g->θ.lookup t=some (some t')->L2 leaf.hp t' v'=true->SR c [.own t' v'] [v]->SR (DG c (ρ++(EL.of es).den c.ρ) θ pat leaf) [.own t g] [v]:=by
    intro t' v' hg hl hv hs;cases hs with
    |own h1 h2 _=>
     refine .own hg ?_ .nil;show(match θ.lookup t with|some (some t')=>c.H t' ((Cq leaf.hp t').getD 0)|_=>Value.slice none 0 0)=_;rw[hl];have:(Cq leaf.hp t').getD 0=v':=by
      unfold L2 at hv;unfold Cq;split at hv
      ·rename_i hh;rw[hh];simpa using(Ay.1 hv).symm
      ·rename_i hh;rw[hh];simpa using(Ay.1 hv).symm
      ·rename_i hh;rw[hh];simpa using(Ay.1 hv).symm
      ·cases hv
     show c.H t' ((Cq leaf.hp t').getD 0)=_;rw[this];exact h2
   split at h
   ·rename_i g' _ _ EK;simp only[Ac,Ay]at h;obtain⟨rfl,h⟩:=h;split at h
    ·simp only[Ac,Ay]at h;exact key _ _ (by simp[Cq,EK]) h.1 h.2 hs
    ·rw[Ay]at h;cases hs with
     |dg _=>refine .own (p:=none) (q:=0) (r:=0) (by show Cq pat.hp t=some g;simp[Cq,EK]) ?_ .nil;show(match θ.lookup t with|some (some t')=>c.H t' ((Cq leaf.hp t').getD 0)|_=>Value.slice none 0 0)=_;rw[h]
    ·cases h
   ·rename_i g' _ EK;simp only[Ac,Ay]at h;obtain⟨rfl,h⟩:=h;split at h
    ·simp only[Ac,Ay]at h;exact key _ _ (by simp[Cq,EK]) h.1 h.2 hs
    ·cases h
   ·rename_i g' _ _ EK;simp only[Ac,Ay]at h;obtain⟨rfl,h⟩:=h;split at h
    ·simp only[Ac,Ay]at h;exact key _ _ (by simp[Cq,EK]) h.1 h.2 hs
    ·rw[Ay]at h;cases hs with
     |dg _=>refine .own (p:=none) (q:=0) (r:=0) (by show Cq pat.hp t=some g;simp[Cq,EK]) ?_ .nil;show(match θ.lookup t with|some (some t')=>c.H t' ((Cq leaf.hp t').getD 0)|_=>Value.slice none 0 0)=_;rw[h]
    ·cases h
   ·cases h
  ·rename_i t o;split at h
   ·rename_i ty g cs EK;split at h
    ·rename_i t' o';simp only[Ac,Ay]at h;obtain⟨rfl,hl⟩:=h;have Ju:=CJ t _ (Kj EK);simp only[Jm,hl]at Ju;split at Ju
     ·rename_i DD;cases hs with
      |dq h1 h2 _=>
       refine .dq (by show Cq pat.hp t=some 0;simp[Cq,EK]) ?_ .nil;show(match θ.lookup t with|some (some t')=>c.H t' ((Cq leaf.hp t').getD 0)|_=>Value.slice none 0 0)=_;rw[hl];have:(Cq leaf.hp t').getD 0=0:=by simp[Cq,DD]
       simp only[this];exact h2
     ·cases Ju
    ·cases h
   ·cases h
  ·cases h
  ·rename_i x i z o;split at h
   ·rename_i y j z' o';simp only[Ac,Ay]at h;obtain⟨⟨⟨⟨⟨rfl,rfl⟩,h1⟩,h2⟩,h3⟩,h4⟩:=h;have hx:x.den (ρ++(EL.of es).den c.ρ)=y.den c.ρ:=by
     obtain⟨τ,hτ⟩:=hp;rw[<-E.bb c.ρ x y h2];subst hn;generalize (EL.of es).den c.ρ=q;rw[E.bp ρ q τ x h1,hτ]
    have hi:i.den (ρ++(EL.of es).den c.ρ)=j.den c.ρ:=by obtain⟨τ,hτ⟩:=hp;rw[<-E.bb c.ρ i j h4];subst hn;generalize (EL.of es).den c.ρ=q;rw[E.bp ρ q τ i h3,hτ]
    cases hs with
    |fb g1 g2 g3 g4 g5 g6 _=>refine .fb (f:=_) (by show Rd c.w _ [x.den (ρ++(EL.of es).den c.ρ)] _;rw[hx];exact g1) (λb hb=>Uw (g2 b hb)) (by show i.den (ρ++(EL.of es).den c.ρ)=_;rw[hi];exact g3) g4 g5 (by show((x.den (ρ++(EL.of es).den c.ρ)).nth _).cells.length=_;rw[hx];exact g6) .nil
   ·cases h
  ·rename_i x o;split at h
   ·rename_i y o';simp only[Ac,Ay]at h;obtain⟨⟨rfl,h1⟩,h2⟩:=h;have hx:x.den (ρ++(EL.of es).den c.ρ)=y.den c.ρ:=by
     obtain⟨τ,hτ⟩:=hp;rw[<-E.bb c.ρ x y h2];subst hn;generalize (EL.of es).den c.ρ=q;rw[E.bp ρ q τ x h1,hτ]
    cases hs with
    |ey g1 g2 _=>exact .ey (by show Rd c.w _ [x.den (ρ++(EL.of es).den c.ρ)] _;rw[hx];exact g1) (λb hb=>Uw (g2 b hb)) .nil
   ·cases h
  ·split at h
   ·cases hs with
    |agg h9 h1 _=>exact .agg h9 (YD hrel hp hn CJ m h h1) .nil
   ·cases h
  ·split at h
   ·cases hs with
    |tup h1 _=>exact .tup (YD hrel hp hn CJ m h h1) .nil
   ·cases h
  ·split at h
   ·simp only[Ac,Ay]at h;obtain⟨rfl,h⟩:=h;cases hs with
    |fn h1 _=>exact .fn (YD hrel hp hn CJ m h h1) .nil
   ·cases h
  ·cases h
  ·cases h
  ·cases h
  ·cases h
  ·rename_i i;split at h
   ·rename_i j;simp only[Ac,Ay,AR]at h;obtain⟨rfl,hi⟩:=h;cases hs with
    |lent g1 _=>
     have hx:(E.var i).den (ρ++(EL.of es).den c.ρ)=(E.var i).den c.ρ:=by obtain⟨τ,hτ⟩:=hp;subst hn;generalize (EL.of es).den c.ρ=q;rw[E.bp ρ q τ (.var i) (by simpa[E.sc]using hi),hτ]
     exact .lent (show c.A.lo v ((E.var i).den (ρ++(EL.of es).den c.ρ)) by rw[hx];exact g1) .nil
   ·cases h
theorem YD(hrel:Rel c n sl (AQ leaf.hp) a)(hp:ρ<+:c.ρ)(hn:ρ.length=nv)(CJ:∀t e,(t,e)∈pat.hp->Jm nv es θ pat leaf t e=true):∀(m:Nat) {ps ss:List SV} {vs:List Value},Ir nv es θ pat leaf m ps ss=true->SR c ss vs->SR (DG c (ρ++(EL.of es).den c.ρ) θ pat leaf) ps vs
 |0,ps,ss,vs,h,_=>by simp[Ir]at h
 |m+1,[],[],vs,h,hs=>by cases hs;exact .nil
 |m+1,p::ps,[],vs,h,hs=>by simp[Ir]at h
 |m+1,[],s::ss,vs,h,hs=>by simp[Ir]at h
 |m+1,p::ps,s::ss,[],h,hs=>by have:=hs.len;simp at this
 |m+1,p::ps,s::ss,v::vs,h,hs=>by simp only[Ir,Ac]at h;obtain⟨h1,h2⟩:=hs.dh;exact(zMH hrel hp hn CJ m h.1 h1).cons (YD hrel hp hn CJ m h.2 h2)
end
theorem zG6(hrel:Rel c n sl (AQ leaf.hp) a)(hp:ρ<+:c.ρ)(hn:ρ.length=nv)(CJ:∀t e,(t,e)∈pat.hp->Jm nv es θ pat leaf t e=true)(hθ:Ph θ=true){t:Nat}{e:Ai}(ht:AQ pat.hp t=some e):DH (DG c (ρ++(EL.of es).den c.ρ) θ pat leaf) t e:=by
 have h:=CJ t e (Kj ht);have hG0:IH pat.hp t=false->(DG c (ρ++(EL.of es).den c.ρ) θ pat leaf).G t=⟨[],[]⟩:=by intro h0;simp only[DG];rw[if_neg (by rw[h0];simp)]
 have hG2:∀t',IH pat.hp t=true->θ.lookup t=some (some t')->(DG c (ρ++(EL.of es).den c.ρ) θ pat leaf).G t=M0 (AQ pat.hp t) (AQ leaf.hp t') (c.G t'):=by intro t' h0 hl;simp only[DG];rw[if_pos h0,hl]
 have UT:∀t',IH pat.hp t=true->θ.lookup t=some (some t')->(∀q1 q2 q3 q4 q5 q6,AQ leaf.hp t'=some (.deep q1 q2 q3 q4 q5 q6)-> ∀p1 p2 p3 p4 p5,e≠ .row p1 p2 p3 p4 p5)->(DG c (ρ++(EL.of es).den c.ρ) θ pat leaf).G t=c.G t':=by
  intro t' h0 hl DW;rw[hG2 t' h0 hl,ht];unfold M0;split
  ·rename_i h1 h2;simp only[Af]at h1;exact absurd h1 (DW _ _ _ _ _ _ h2 _ _ _ _ _)
  ·rfl
 have Ml:∀t' g,θ.lookup t=some (some t')->Cq leaf.hp t'=some g-> ∀g',(DG c (ρ++(EL.of es).den c.ρ) θ pat leaf).H t g'=c.H t' g:=by intro t' g hl hg g';simp only[DG,hl,hg,Be]
 have E1:∀g,Cq pat.hp t=some g-> ∀g',(DG c (ρ++(EL.of es).den c.ρ) θ pat leaf).K t g'->g'<=g:=by intro g hg g' hk;have Ce:Cq pat.hp t=some g':=hk;rw[hg]at Ce;cases Ce;exact AB _
 cases e with
 |box ty g cs=>
  simp only[Jm]at h;split at h
  ·rename_i t' hl;split at h
   ·rename_i ty' g' ds DD;simp only[Ac,Ay]at h;obtain⟨⟨rfl,rfl⟩,h⟩:=h;obtain⟨b,C,h1,h2,h3,h4,h5,h6,h7⟩:=hrel.ents t' _ (by rw[DD];rfl);have hg:=UT t' (by simp[IH,ht]) hl (by intros;simp);exact⟨b,C,by show Cq pat.hp t=some 0;simp[Cq,ht],by rw[Ml t' 0 hl (by simp[Cq,DD])];exact h2,by rw[hg];exact h3,by rw[hg];exact h4,h5,h6,YD hrel hp hn CJ _ h h7⟩
   ·cases h
  ·cases h
 |row et z g x d=>
  simp only[Jm]at h;split at h
  ·rename_i t' hl;split at h
   ·rename_i et' z' g' y d' DD;simp only[Ac,Ay,Bool.or_eq_true,Bk]at h;obtain⟨⟨⟨rfl,rfl⟩,hx⟩,hd⟩:=h;obtain⟨h1,h2,N,h3,h4,h5,h6⟩:=hrel.ents t' _ (by rw[DD];rfl);have hg:=UT t' (by simp[IH,ht]) hl (λ_ _ _ _ _ _ hh=>by rw[DD]at hh;cases hh);have Dz:=Nx hp hn hx;have hK:Cq pat.hp t=some g:=by simp[Cq,ht]
    refine⟨hK,E1 g hK,N,?_,λb hb=>Uw (h4 b hb),λD2=> ?_,λhdf=> ?_⟩
    ·rw[Ml t' g' hl (by simp[Cq,DD]),hg];show Dd c.w et z _ (x.den (ρ++(EL.of es).den c.ρ)) _ N;rw[Dz];exact h3
    ·rw[hg];exact h5 (by rcases hd with hd|hd;rw[D2]at hd;cases hd;exact hd)
    ·rw[hg];cases d' with
     |false=>exact h6 rfl
     |true=>obtain⟨u1,u2⟩:=h5 rfl;rw[u2];exact u1
   ·rename_i et' z' l' g' ep' y DD;simp only[Ac,Ay,Bk]at h;obtain⟨⟨⟨rfl,rfl⟩,hx⟩,rfl⟩:=h;obtain⟨h1,h2,_,h3,h4⟩:=hrel.ents t' _ (by rw[DD];rfl);have hg:(DG c (ρ++(EL.of es).den c.ρ) θ pat leaf).G t=⟨(c.G t').top.take 1,[]⟩:=by
     rw[hG2 t' (by simp[IH,ht]) hl,ht,DD];rfl
    have Dz:=Nx hp hn hx;have hK:Cq pat.hp t=some g:=by simp[Cq,ht]
    obtain⟨f,k1,k2⟩:=h3.ownRow;have Cb:((c.G t').top.take 1++(c.G t').top.drop 1).Nodup:=by rw[B6];have:=hrel.gw.nodup t';simp only[GI.own,h4,AG]at this;exact this
    refine⟨hK,E1 g hK,f,?_,λb hb=> ?_,λD2=>(by cases D2),λ_=>by rw[hg]⟩
    ·rw[Ml t' g' hl (by simp[Cq,DD]),hg];show Dd c.w et z _ (x.den (ρ++(EL.of es).den c.ρ)) _ f;rw[Dz];exact k1
    ·have C6:b∈(c.G t').top:=BR (k2 b hb);refine⟨λ⟨u,hu⟩=> ?_, .inr (hrel.gw.allow t' b (by simp[GI.own,C6]))⟩;obtain⟨_,v',BP,_,U5⟩:=Pe (b:=b) (by simp only[GI.own,Ae];exact .inl hu);have hv:v'=t':=Classical.byContradiction λBU=>hrel.gw.dt v' t' BU b U5 (by simp[GI.own,C6]);subst hv;have:=jR hθ (OW BP) (OW hl);subst this;rw[hg]at hu;exact(List.nodup_append.1 Cb).2.2 b hu b (k2 b hb) rfl
   ·cases h
  ·rename_i hl;simp only[Ac,AR]at h;have Dz:=Nx hp hn h.1;have hK:Cq pat.hp t=some g:=by simp[Cq,ht]
   have hg:(DG c (ρ++(EL.of es).den c.ρ) θ pat leaf).G t=⟨[],[]⟩:=by simp[DG,hl]
   refine⟨hK,E1 g hK,[],⟨[],?_,by simp,h.2, .inl ⟨rfl,⟨none,?_⟩,by rw[hg],rfl⟩⟩,by simp,λ_=>⟨rfl,by rw[hg]⟩,λ_=>by rw[hg]⟩
   ·show x.den (ρ++(EL.of es).den c.ρ)=_;rw[Dz];rfl
   ·simp[DG,hl]
  ·cases h
 |da g x=>
  have hg:=hG0 (by simp[IH,ht]);have hK:Cq pat.hp t=some g:=by simp[Cq,ht]
  simp only[Jm]at h;split at h
  ·rename_i t' hl;have JD:∀b,b∈(c.G t').top->(DG c (ρ++(EL.of es).den c.ρ) θ pat leaf).ok b:=by
    intro b hb;refine⟨λ⟨u,hu⟩=> ?_, .inr (hrel.gw.allow t' b (by simp[GI.own,hb]))⟩;obtain⟨ho,v',BP,CK,U5⟩:=Pe (b:=b) (by simp only[GI.own,Ae];exact .inl hu);have hv:v'=t':=Classical.byContradiction λBU=>hrel.gw.dt v' t' BU b U5 (by simp[GI.own,hb]);subst hv;have:=jR hθ (OW BP) (OW hl);subst this;simp[IH,ht]at ho
   split at h
   ·rename_i et' z' g' y d' DD;obtain⟨h1,h2,N,h3,h4,h5,h6⟩:=hrel.ents t' _ (by rw[DD];rfl);obtain⟨f,r1,r2,_⟩:=h3.rd;refine⟨hK,⟨f,?_,λb hb=>(r2 b hb).elim (JD b) λhb=>Uw (h4 b hb)⟩,by rw[hg],by rw[hg]⟩;rw[Ml t' g' hl (by simp[Cq,DD])];show Rd c.w _ [x.den (ρ++(EL.of es).den c.ρ)] f;rw[Nx hp hn h];exact r1
   ·rename_i g' y DD;obtain⟨h1,⟨f,r1,r2⟩,_,_⟩:=hrel.ents t' _ (by rw[DD];rfl);refine⟨hK,⟨f,?_,λb hb=>Uw (r2 b hb)⟩,by rw[hg],by rw[hg]⟩;rw[Ml t' g' hl (by simp[Cq,DD])];show Rd c.w _ [x.den (ρ++(EL.of es).den c.ρ)] f;rw[Nx hp hn h];exact r1
   ·rename_i et' z' l' g' ep' y DD;obtain⟨h1,h2,_,h3,h4⟩:=hrel.ents t' _ (by rw[DD];rfl);obtain⟨f,r1,r2⟩:=h3.rd;refine⟨hK,⟨f,?_,λb hb=>JD b (r2 b hb)⟩,by rw[hg],by rw[hg]⟩;rw[Ml t' g' hl (by simp[Cq,DD])];show Rd c.w _ [x.den (ρ++(EL.of es).den c.ρ)] f;rw[Nx hp hn h];exact r1
   ·cases h
  ·cases h
 |hol=>simp[Jm]at h
 |pre=>simp[Jm]at h
 |deep et z dl g ep x=>
  have hE:(DG c (ρ++(EL.of es).den c.ρ) θ pat leaf).E t=ep:=by simp[DG,ht]
  have hK:Cq pat.hp t=some g:=by simp[Cq,ht]
  simp only[Jm]at h;split at h
  ·rename_i t' hl;split at h
   ·rename_i et' z' dl' g' ep' y DD;simp only[Ac,Ay]at h;obtain⟨⟨⟨rfl,rfl⟩,Px⟩,hx⟩:=h;have Px:=AM.ij Px;subst Px;obtain⟨h1,h2,_,h3,h4⟩:=hrel.ents t' _ (by rw[DD];rfl);have hg:=UT t' (by simp[IH,ht]) hl (by intros;simp);refine⟨hK,E1 g hK,hE,?_,by rw[hg];exact h4⟩;rw[Ml t' g' hl (by simp[Cq,DD]),hg];show DC c.w _ _ [x.den (ρ++(EL.of es).den c.ρ)] _;rw[Nx hp hn hx];exact h3
   ·cases h
  ·rename_i hl;have hg:(DG c (ρ++(EL.of es).den c.ρ) θ pat leaf).G t=⟨[],[]⟩:=by simp[DG,hl]
   simp only[Ac,AR,Ay]at h;refine⟨hK,E1 g hK,hE,?_,by rw[hg]⟩;have e1:(DG c (ρ++(EL.of es).den c.ρ) θ pat leaf).H t g= .slice none 0 0:=by simp[DG,hl]
   rw[e1,hg];show DC c.w _ _ [x.den (ρ++(EL.of es).den c.ρ)] _;rw[Nx hp hn h.1.1];exact .void h.1.2 (by rw[AM.ax];exact h.2) .nil
  ·cases h
 |gd gs e=>simp[Jm]at h
 |dead=>have hg:=hG0 (by simp[IH,ht]);exact⟨by rw[hg],by rw[hg]⟩
end
theorem zFT{nv:Nat}{es:List E}{θ:List (Nat × Option Nat)}{pat leaf:St}:∀(m:Nat) {ps ss:List SV},Ir nv es θ pat leaf m ps ss=true-> ∀{i:Nat} {p:SV},ps[i]?=some p-> ∃s k,ss[i]?=some s/\V4 nv es θ pat leaf k p s=true
 |0,ps,ss,h,_,_,_=>by simp[Ir]at h
 |m+1,[],ss,h,i,p,hp=>by simp at hp
 |m+1,q::ps,[],h,i,p,hp=>by simp[Ir]at h
 |m+1,q::ps,s::ss,h,i,p,hp=>by
  simp only[Ir,Ac]at h;cases i with
  |zero=>simp at hp;subst hp;exact⟨s,m,rfl,h.1⟩
  |succ i=>simpa using zFT m h.2 (by simpa using hp)
theorem zLY:ZS:=by
 intro F nv pat τ es ρ ρ' a w hi hn hp hr;obtain⟨c,rfl,rfl,Of,hA,lQ,GQ,hU,hrel⟩:=hr;unfold LR at hi;simp only at hi;split at hi
 ·rename_i A3;simp only[Af]at hi;generalize mQ:(List.range (pat.nv-nv)).map (λj=>((Ra nv pat τ true pat.hp (Ra nv pat τ false pat.hp (OD nv pat τ 2000 ⟨[],[]⟩ pat.sl τ.sl))).as_.lookup (nv+j)).getD (.int .i64 0))=es0 at A3 hi;subst hi;generalize (Ra nv pat τ true pat.hp (Ra nv pat τ false pat.hp (OD nv pat τ 2000 ⟨[],[]⟩ pat.sl τ.sl))).θ=θ at A3;clear mQ;simp only[zQ8,Ac,Ay,Ba,AR]at A3;obtain⟨⟨⟨⟨⟨⟨h1,hθ⟩,hlen⟩,Dw⟩,Ck⟩,PW⟩,VM⟩:=A3;have CJ:∀t e,(t,e)∈pat.hp->Jm nv es0 θ pat τ t e=true:=λt e he=>(Ck _ he).1;have AP:∀t e,(t,e)∈pat.hp->t<pat.nx:=λt e he=>(Ck _ he).2;have VF:∀t e,AQ pat.hp t=some e-> ∀gs e',e≠ .gd gs e':=by
   rintro t e he gs e' rfl;have:=CJ t _ (Kj he);simp[Jm]at this
  have A1:∀t e e',AQ pat.hp t=some e->(C3 (ρ++(EL.of es0).den c.ρ) (AQ pat.hp t) e'↔e'=e):=by
   intro t e e' he;rw[he];cases e with
   |gd gs e9=>exact absurd rfl (VF t _ he gs e9)
   |_=>simp[C3,eq_comm]
  refine⟨DG c (ρ++(EL.of es0).den c.ρ) θ pat τ,rfl,rfl,Of,hA,lQ,?_,λt ht=>ht,hrel.defers,by rw[hlen];exact hrel.size,⟨hrel.base.os,hrel.base.tape,hrel.base.output,hrel.base.size,λt v Rp=> ?_,hrel.base.block,hrel.base.pk,hrel.base.lo⟩,λi=> ?_,λt e hr=> ?_,λt DW=> ?_,⟨λt=> ?_,λt u Od b hb Cc=> ?_,λt b hb=> ?_,λt b hb=> ?_⟩,λt g hk=> ?_,λt e he=>AP t e (Kj he)⟩
  ·rw[h1,EL.ez];simp[hn]
  ·have PI:Ow t=true:=F.oq t v (by rw[<-hA];exact Rp);refine⟨by
    show t<pat.nx;unfold Ow at PI;simp only[Ac,AR]at PI;omega,λhk=> ?_⟩
   have Ce:Cq pat.hp t=some 0:=hk;obtain⟨e,oC⟩:∃e,AQ pat.hp t=some e:=by
    unfold Cq at Ce;cases hh:AQ pat.hp t with
    |none=>rw[hh]at Ce;cases Ce
    |some e=>exact⟨e,rfl⟩
   have D5:=VM _ (Kj oC);simp only[PI,Bool.not_true,Bool.false_or]at D5;have main:θ.lookup t=some (some t)->Cq τ.hp t=some 0->c.K t 0->(DG c (ρ++(EL.of es0).den c.ρ) θ pat τ).H t 0=v:=by intro hl hg hK;simp only[DG,hl,hg,Be];exact(hrel.base.pins t v Rp).2 hK
   unfold Og at D5;simp only[Cq,oC]at Ce;rw[oC]at D5;cases e with
   |box ty g cs=>
    simp only[Ac,Ay]at D5;obtain⟨hl,hb⟩:=D5;split at hb
    ·rename_i ty' g' cs' DD;obtain⟨b,C,q1,_⟩:=hrel.ents t _ (by rw[DD];rfl);exact main hl (by simp[Cq,DD]) q1
    ·cases hb
   |row ety sz g x d=>
    simp only[Af]at Ce;subst Ce;simp only[bne_self_eq_false,Bool.false_or,Ac,Ay]at D5;obtain⟨hl,hb⟩:=D5;split at hb
    ·rename_i ety' sz' g' x' d' DD;rw[Ay]at hb;subst hb;obtain⟨q1,_⟩:=hrel.ents t _ (by rw[DD];rfl);exact main hl (by simp[Cq,DD]) q1
    ·cases hb
   |da g x=>simp only[Af]at Ce;subst Ce;simp at D5
   |gd=>simp at Ce
   |dead=>simp at Ce
   |hol=>simp at Ce
   |pre=>simp at Ce
   |deep ety sz l g ep x=>
    simp only[Af]at Ce;subst Ce;simp only[bne_self_eq_false,Bool.false_or,Ac,Ay]at D5;obtain⟨hl,hb⟩:=D5;split at hb
    ·rename_i DD;rw[Ay]at hb;subst hb;obtain⟨q1,_⟩:=hrel.ents t _ (by rw[DD];rfl);exact main hl (by simp[Cq,DD]) q1
    ·cases hb
  ·unfold BX;cases PY:pat.sl[i]? with
   |none=>exact .undef .nil
   |some p=>obtain⟨s,k,hs,hk⟩:=zFT _ Dw PY;have:=hrel.ee i;unfold BX at this;rw[hs]at this;exact zMH hrel hp hn CJ k hk this
  ·cases he:AQ pat.hp t with
   |none=>rw[he]at hr;exact hr.elim
   |some e9=>have Pz:=(A1 t e9 e he).1 hr;subst Pz;exact zG6 hrel hp hn CJ hθ he
  ·have:IH pat.hp t=false:=by
    cases he:AQ pat.hp t with
    |none=>simp[IH,he]
    |some e9=>exact absurd ((A1 t e9 e9 he).2 rfl) (DW e9)
   simp[DG,this]
  ·simp only[DG];split
   ·split
    ·exact zGR (hrel.gw.nodup _)
    ·simp[GI.own]
   ·simp[GI.own]
  ·obtain⟨_,t',hl,_,C6⟩:=Pe hb;obtain⟨_,u',BP,_,Jv⟩:=Pe Cc;by_cases hh:t'=u'
   ·subst hh;exact Od (jR hθ (OW hl) (OW BP))
   ·exact hrel.gw.dt t' u' hh b C6 Jv
  ·obtain⟨_,t',hl,_,C6⟩:=Pe hb;exact hrel.gw.allow t' b C6
  ·obtain⟨_,t',hl,_,C6⟩:=Pe hb;exact hrel.gw.inb t' b C6
  ·have Ce:Cq pat.hp t=some g:=hk;unfold Cq at Ce;show t<pat.nx;split at Ce
   ·rename_i hh;exact AP t _ (Kj hh)
   ·rename_i hh;exact AP t _ (Kj hh)
   ·rename_i hh;exact AP t _ (Kj hh)
   ·rename_i hh;exact AP t _ (Kj hh)
   ·cases Ce
 ·cases hi
theorem Yb(l:List DT):∀(n k o m:Nat),k<n->o+m<=l.length->((B9 n l).drop (k*l.length+o)).take m=(l.drop o).take m
 |0,k,_,_,h,_=>by omega
 |n+1,0,o,m,_,hm=>by rw[QS,Nat.zero_mul,Nat.zero_add,List.drop_append_of_le_length (by omega),List.take_append_of_le_length (by simp;omega)]
 |n+1,k+1,o,m,h,hm=>by have ih:=Yb l n k o m (by omega) hm;rw[<-ih,QS,show(k+1)*l.length+o=l.length+(k*l.length+o)from by rw[Nat.add_mul];omega,List.drop_append,List.drop_eq_nil_of_le (by omega)];simp
theorem DC.elem{w:World}{ys:List AV}{l:List DT}{cells:List Value}{N:List Nat}{z:Nat}(h:DC w (B9 ys.length l) cells (Az ys) N)(hl:l.length=z)(h7:∀y∈ys,y.cells.length=z){k o m:Nat}(hk:k<ys.length)(hm:o+m<=z):
  ∃M,(∀b∈M,b∈N)/\DC w ((l.drop o).take m) ((cells.drop (k*z+o)).take m) ((((AV.sl ys).nth k).cells.drop o).take m) M:=by
 obtain⟨N1,N2,N3,rfl,_,h2,_⟩:=h.split (k*z+o) m;subst hl;rw[Yb l _ _ _ _ hk hm,Yg ys h7 k _ (Pf hk) o m hm]at h2;exact⟨N2,λb hb=>by simp[hb],h2⟩
theorem Rd.nd{w:World}{vs:List Value}{x:AV}{f:List Nat}{o m:Nat}{g:Bool}(h:Rd w vs ((x.cells.drop o).take m) f)(h9:∀u∈vs,u.oneCell'=true)(hm:o+m<=x.cells.length)(h1:g=false->m=1):
  Rd w [if g then .agg vs.toArray else vs.headD undef] [x.fld o m g] f:=by
 cases g with
 |true=>have:=Rd.agg h9 h .nil;simpa[AV.fld]using this
 |false=>
  have:=h1 rfl;subst this;have e2:(x.cells.drop o).take 1=[x.cells[o]'(by omega)]:=by rw[By (by omega),List.take_succ_cons,List.take_zero]
  rw[e2]at h;have hl:=h.len
  match vs,hl with
  | [v],_=>simpa[AV.fld,show o<x.cells.length by omega]using h
section
variable {P:Program} {c:Cx} {n nx:Nat} {sl sl0:Nat->SV} {hp hp0:Nat->Option Ai} {a:Act} {o:Oper} {gs:Gd} {e:Bf} {sg:BY} {nv:Nat}
theorem zAN{w:World}{b p:Nat}{t:TypeId}{C:Array Value}{ty:TypeId}{fz:Nat × Nat}(hb:w.heap[b]?=some (.cells C ty fz))(ht:DV P t=true)(hg:Aq P t=true\/P.cellsOf t=1)(hp:p+P.cellsOf t<=C.size):
  (Instr.loadAt t (.pointer (some ⟨b,p,none⟩))).run P w= .ok (if Aq P t then .agg ((C.toList.drop p).take (P.cellsOf t)).toArray else((C.toList.drop p).take (P.cellsOf t)).headD undef) w:=by
 have NW:((C.toList.drop p).take (P.cellsOf t)).length=P.cellsOf t:=by rw[AE,Bn,BF];omega
 refine TR ht _ (λ_=>NW) (λh=> ?_) (λj u hu=> ?_)
 ·rw[NW];rcases hg with h'|h';rw[h]at h';cases h';exact h'
 ·rw[EO hb];rw[List.getElem?_take]at hu;split at hu
  ·simpa using hu
  ·cases hu
theorem zHY{b g e z ep:Nat}{l:List DT}{c0 i:E}{t:TypeId}{k':Nat}{v:Value}(hE:DH c b (.deep e z l g ep c0))(hr:SR c [.du b g i z k'] [v])(BC:DV P t=true)(hle:k'+P.cellsOf t<=z)(AN:Aq P t=true\/P.cellsOf t=1):
  ∃u,(Instr.loadAt t v).run P c.w= .ok u c.w/\(((l.drop k').take (P.cellsOf t)).all DT.db=true->Rd c.w [u] [(E.fld (.idx c0 i) k' (P.cellsOf t) (Aq P t)).den c.ρ] [])/\RQ c b u ((E.fld (.idx c0 i) k' (P.cellsOf t) (Aq P t)).den c.ρ)/\(Aq P t=false->J1 c b g (some (i,z,k')) u):=by
 obtain⟨q1,q2,q3,q4,q5⟩:=hE;cases hr with
 |du h1 h2 h3 h4 h5 _=>
  rename_i q len cap kk k h6;obtain⟨d1,d2,⟨a9,d3,_⟩|⟨g9,cap9,C,ys,N1,d3,d4,d5,d6,d7,d8,d9,d10,d11,d12⟩⟩:=q4.inv
  ·rw[h2]at d3;cases d3;omega
  ·rw[h2]at d3;cases d3;rw[AM.ax]at d2 d12;have hk:k.toNat<ys.length:=by omega
   have hmul:(k.toNat+1)*z<=ys.length*z:=Bz _ (by omega);have E6:ys.length*z<=cap*z:=Bz _ d7;rw[Nat.add_mul]at hmul;have A6:=zAN (P:=P) (t:=t) (p:=k.toNat*z+k') d6 BC AN (by omega);obtain⟨M,m1,m2⟩:=d12.elem d2 d10 hk hle;have GD:((C.toList.take (ys.length*z)).drop (k.toNat*z+k')).take (P.cellsOf t)=(C.toList.drop (k.toNat*z+k')).take (P.cellsOf t):=by rw[List.drop_take,List.take_take,Nat.min_eq_left (by omega)]
   rw[GD]at m2;have C8:∀u∈(C.toList.drop (k.toNat*z+k')).take (P.cellsOf t),u.oneCell'=true:=λu hu=>d11 u (by rw[<-GD]at hu;exact BR (BD hu))
   have hylen:((AV.sl ys).nth k.toNat).cells.length=z:=d10 _ (List.mem_of_getElem? (Pf hk));have CN:(E.fld (.idx c0 i) k' (P.cellsOf t) (Aq P t)).den c.ρ=((AV.sl ys).nth k.toNat).fld k' (P.cellsOf t) (Aq P t):=by simp only[E.den,d4,h3,AV.idx]
   have IQ:Aq P t=false->P.cellsOf t=1:=λh=>by rcases AN with h'|h';rw[h]at h';cases h';exact h'
   refine⟨_,A6,λhf=> ?_,?_,λhf=> ?_⟩
   ·rw[CN];exact(m2.ln hf).nd C8 (by omega) IQ
   ·obtain⟨f,r1,r2⟩:=m2.rd;rw[CN];exact⟨f,r1.nd C8 (by omega) IQ,λb hb=> .inr (by rw[d5];simp[m1 b (r2 b hb)])⟩
   ·refine⟨_,_,_,C,_,_,kk,k,h2,by rw[d5];simp,d6,h3,h4,h5,?_⟩;have Cl:=IQ hf;have AP:k.toNat*z+k'<C.size:=by omega
    have e1:(C.toList.drop (k.toNat*z+k')).take 1=[C[k.toNat*z+k']]:=by rw[By (by simpa using AP),List.take_succ_cons,List.take_zero];simp
    rw[hf,Cl,e1];simp[AP]
end
section
variable {P:Program} {c:Cx} {n nx:Nat} {sl sl0:Nat->SV} {hp hp0:Nat->Option Ai} {a:Act} {o:Oper} {gs:Gd} {e:Bf} {sg:BY} {nv:Nat}
theorem BS.dw:∀l:BS,BS.of l.toList=l
 | .nil=>rfl
 | .cons s l=>by simp[BS.toList,BS.of,BS.dw l]
theorem zJL(h:BB P c n nx sl hp a sl0 hp0 o gs){t:TypeId}{x:Operand}(ho:o.op= .load t x)(he:B2 P sg sl0 hp0 nv nx gs o=some e)(hc:∀q∈e.dn,Cn.den c.ρ q):AJ P o c n nx sl hp gs a e:=by
 have hm:x∈o.op.operands:=by simp[ho,Op.operands]
 simp only[B2,ho,AA,Aw]at he;obtain⟨s,hs,e1,he,rfl⟩:=he;have hr:=(h.dy hs hm).asPtr (λq hq=>hc q (by simp[hq]));have U6:∀q∈e1.dn,Cn.den c.ρ q:=λq hq=>hc q (by simp[hq]);have ex:(execOp a.eval o).run P c.w=((Instr.loadAt t (a.eval x)).run P c.w).andThen λv w=> .ok (.value v) w:=by simp[execOp,ho]
 unfold zKd at he;split at he
 ·cases he
 rename_i BC;have BC:DV P t=true:=by simpa using BC
 generalize A9:(asPtr s).1=s1 at he hr;split at he
 ·rename_i b o';split at he
  ·rename_i ty g cs hl;obtain⟨s2,Bd,rfl⟩:=Aw.1 he;generalize ha:a.eval x=v at hr ex;cases hr with
   |dq h1 h2 _=>
    rename_i q;obtain⟨q',C,_,e2,e3,e4,e5,e5',e6⟩:=h.eh b _ (Df hl h.gs);rw[h2]at e2;cases e2;unfold Qd at Bd;have hlen:=e6.len;split at Bd
    ·rename_i AN;split at Bd
     ·rename_i hle;simp at Bd;subst Bd;obtain⟨r1,r2⟩:=e6.split o';obtain⟨r3,r4⟩:=r2.split (P.cellsOf t);have:=SR.agg (cs:=BS.of ((cs.drop o').take (P.cellsOf t))) (λu hu=>e5' u (BR (BD hu))) (by rw[BS.ax];exact r3) .nil;refine AJ.pure h (v:= .agg ((C.toList.drop o').take (P.cellsOf t)).toArray) ?_ this rfl;rw[ex,TR BC ((C.toList.drop o').take (P.cellsOf t)) (λ_=>by simp at hlen ⊢;omega) (λh=>by rw[AN]at h;cases h) (λj u hu=>by
       rw[EO e5];rw[List.getElem?_take]at hu;split at hu
       ·simpa using hu
       ·cases hu)]
      simp[AN]
     ·cases Bd
    ·rename_i AN;have AN:Aq P t=false:=by simpa using AN
     obtain⟨u,hu,r⟩:=e6.get Bd;refine AJ.pure h (v:=u) ?_ r rfl;rw[ex,TR BC [u] (λh=>by rw[AN]at h;cases h) (λ_=>rfl) (λj z hz=>by
      cases j with
      |zero=>simp at hz;subst hz;rw[EO e5];simpa using hu
      |succ j=>simp at hz)]
     simp[AN]
  ·cases he
 ·rename_i b g i sz o';split at he
  ·rename_i e0 sz' g' c0 d hl;split at he
   ·rename_i hh;obtain⟨rfl,rfl,hle,AN⟩:=hh;simp at he;subst he;generalize ha:a.eval x=v at hr ex;cases hr with
    |du h1 h2 h3 h4 h5 _=>
     rename_i q len cap kk k h6;obtain⟨_,_,N,r1,r2,_,_⟩:=h.eh b _ (Df hl h.gs);obtain⟨f,r3,_,r4⟩:=r1.rd;obtain⟨xs,Da,AD,h0,Bv⟩:=r1;rw[h2]at r3 Bv;have hk:k.toNat<len:=by omega
     have MO:xs.length=len:=by
      rcases Bv with⟨_,⟨_,hv⟩,_⟩|⟨_,_,_,hv,_⟩
      ·cases hv;omega
      ·simp at hv;exact hv.2.1.symm
     have BJ:((c0.den c.ρ).nth k.toNat).cells.length=sz:=by rw[Da];exact AD _ (List.mem_of_getElem? (Pf (xs:=xs) (by omega)))
     obtain⟨v',q',g1,g2,g3⟩:=zwG r3 hk BJ BC hle AN;refine AJ.pure h (v:=v') ?_ (.e (f:=q') ?_ ?_ .nil) rfl
     ·rw[ex];rw[Nat.zero_add]at g1;simp[g1]
     ·simpa[E.den,AV.idx,h3]using g3
     ·exact λz hz=>r2 z (r4 z (g2 z hz))
   ·cases he
  ·rename_i e0 sz' l g' ep c0 hl;split at he
   ·rename_i hh;obtain⟨rfl,rfl,hle,AN⟩:=hh;generalize ha:a.eval x=v at hr ex;have hE:=h.eh b _ (Df hl h.gs);obtain⟨u,k1,k2,k3,k4⟩:=zHY (P:=P) (t:=t) hE hr BC hle AN;have A6:(execOp a.eval o).run P c.w= .ok (.value u) c.w:=by rw[ex,k1];rfl
    split at he
    ·rename_i hf;simp only[Af]at he;subst he;exact AJ.pure h A6 (.e (k2 hf) (by simp) .nil) rfl
    ·simp only[Af]at he;subst he;cases hr with
     |du h1 _ _ _ _ _=>
      refine AJ.pure h A6 (.via h1 (Nat.le_of_eq hE.2.2.1.symm) (λ_=>⟨k3,?_⟩) .nil) rfl;split
      ·exact trivial
      ·rename_i H0;exact k4 (by simpa using H0)
   ·cases he
  ·cases he
 ·rename_i b g m pth y i sz o';split at he
  ·rename_i hh;obtain⟨hle,AN,hv⟩:=hh;have hE:=Uk h.eh h.gs hv;generalize ha:a.eval x=v at hr ex;cases hr with
   |vptr h1 h2 h3 _=>
    obtain⟨q,off,len,cap,kk,k,⟨f,p1,p2⟩,_,p4,p5,p6,p7,rfl⟩:=h3 hE;obtain⟨v',q',g1,g2,g3⟩:=zwG (fo:=o') p1 (by omega) p7 BC hle AN;have A6:(execOp a.eval o).run P c.w= .ok (.value v') c.w:=by rw[ex];simp[g1]
    have CN:Rd c.w [v'] [(E.fld (.idx y i) o' (P.cellsOf t) (Aq P t)).den c.ρ] q':=by simpa[E.den,AV.idx,p4]using g3
    split at he
    ·simp only[Af]at he;subst he;obtain⟨f1,f2,f3,f4⟩:=Cl U6;have hq:q'=[]:=by
      cases hg:Aq P t with
      |true=>obtain⟨cs,BE⟩:=f3 hg;obtain⟨as_,rfl,_,r⟩:=Kq CN BE;exact IG r (by rw[BE]at f2;exact f2)
      |false=>exact IG CN (by simpa using f4 hg)
     subst hq;exact AJ.pure h A6 (.e CN (by simp) .nil) rfl
    ·simp only[Af]at he;subst he;exact AJ.pure h A6 (.via h1 h2 (λ_=>⟨⟨q',CN,λz hz=>p2 z (List.mem_of_mem_tail (g2 z hz))⟩,trivial⟩) .nil) rfl
  ·cases he
 ·rename_i y i sz o';split at he
  ·rename_i hh;obtain⟨hle,AN⟩:=hh;simp at he;subst he;generalize ha:a.eval x=v at hr ex;cases hr with
   |fb h1 h2 h3 h4 h5 h6 _=>rename_i q off len cap f kk k;obtain⟨v',q',g1,g2,g3⟩:=zwG (fo:=o') h1 (by omega) h6 BC hle AN;refine AJ.pure h (v:=v') ?_ (.e (f:=q') (by simpa[E.den,AV.idx,h3]using g3) (λz hz=>h2 z (List.mem_of_mem_tail (g2 z hz))) .nil) rfl;rw[ex];simp[g1]
  ·cases he
 ·rename_i y o';split at he
  ·rename_i AN;simp at he;subst he;generalize ha:a.eval x=v at hr ex;cases hr with
   |ey h1 h2 _=>
    rename_i q f;obtain⟨z,hz,hle⟩:=Cl U6;rw[hz]at h1;cases h1 with
    |ref hb Cc Ho D6=>
     rename_i C ty fz f1 f2;obtain⟨q',g1,g2⟩:=Ho.ko Cc o' (P.cellsOf t) (Aq P t) hle (λh=>by rcases AN with h'|h';rw[h]at h';cases h';exact h');have NW:((C.toList.drop o').take (P.cellsOf t)).length=P.cellsOf t:=by have:=Ho.len;rw[AE,Bn];omega
     refine AJ.pure h ?_ (.e (f:=q') (by simpa[E.den,hz,AV.deref]using g2) (λz hz=>h2 z (by simp[g1 z hz])) .nil) rfl;rw[ex,TR BC ((C.toList.drop o').take (P.cellsOf t)) (λ_=>NW) (λh=>by rw[NW];rcases AN with h'|h';rw[h]at h';cases h';exact h') (λj u hu=>by
       rw[EO hb];rw[List.getElem?_take]at hu;split at hu
       ·simpa using hu
       ·cases hu)]
     simp
  ·cases he
 ·cases he
end
theorem Uq(k:IntKind)(n:Int):FM k n↔k.min<=n/\n<=k.max:=by unfold FM;cases k<;>simp only[IntKind.wrap,IntKind.bits,IntKind.signed,IntKind.min,IntKind.max]<;>simp<;>(try split)<;>omega
theorem zz5(k:IntKind)(n:Int):FM k (k.wrap n):=by rw[Uq];cases k<;>simp only[IntKind.wrap,IntKind.bits,IntKind.signed,IntKind.min,IntKind.max]<;>simp<;>(try split)<;>omega
theorem zKY{k:IntKind}{x y:Int}(h:FM k x):FM k (x.tmod y):=by
 rw[Uq]at h ⊢;have h1:(x.tmod y).natAbs<=x.natAbs:=by rw[Int.natAbs_tmod];exact Nat.mod_le _ _
 have h2:0<=x->0<=x.tmod y:=Int.tmod_nonneg y;have MC:k.min<=0:=by cases k<;>decide
 have KV:0<=k.max:=by cases k<;>decide
 constructor
 ·by_cases h0:0<=x
  ·have:=h2 h0;omega
  ·omega
 ·by_cases h0:0<=x
  ·omega
  ·have h3:x.tmod y<=0:=by
    have:=Int.tmod_nonneg (a:= -x) y (by omega);rw[Int.neg_tmod]at this;omega
   omega
theorem zLN{k:IntKind}{x:Int}(m:Nat)(h:FM k x):FM k (x.fdiv (2^m)):=by
 rw[Uq]at h ⊢;have hp:(0:Int)<2^m:=Int.pow_pos (by decide);rw[Int.fdiv_eq_ediv_of_nonneg _ (Int.le_of_lt hp)];have MC:k.min<=0:=by cases k<;>decide
 have KV:0<=k.max:=by cases k<;>decide
 have h1:(1:Int)<=2^m:=hp;constructor
 ·rcases Int.le_total 0 x with h0|h0
  ·have:=Int.ediv_nonneg h0 (Int.le_of_lt hp);omega
  ·have:x<=x/2^m:=by
    rw[Int.le_ediv_iff_mul_le hp];have:=Int.mul_le_mul_of_nonpos_left h0 h1;omega
   omega
 ·rcases Int.le_total 0 x with h0|h0
  ·have:=Int.ediv_le_self (2^m) h0;omega
  ·have h2:x/2^m<=0:=by
    have:=Int.ediv_le_ediv hp h0;simpa using this
   omega
section
variable {P:Program} {c:Cx} {n nx:Nat} {sl sl0:Nat->SV} {hp hp0:Nat->Option Ai} {a:Act} {o:Oper} {gs:Gd} {e:Bf} {sg:BY} {nv:Nat}
def AV.val:AV->Value
 | .int k n=> .int k n
 | .bool b=> .bool b
 | .str s=> .string ⟨s.toArray⟩
 |_=>Go.undef
theorem zGX{op:BinOp}{k k':IntKind}{x y:Int}(hk:k=k'\/op= .shl\/op= .shr)(hz:op= .quo\/op= .rem->y≠0)(hs:op= .shl\/op= .shr->0<=y)(t:TypeId)(p q:Operand)(w:World):
  (do eqGuard op t p q (.int k x) (.int k' y);binOp op t (.int k x) (.int k' y):Sem Value).run P w= .ok (Ei op k x y).val w:=by
 have hg:=eqGuard_at_int op t p q (.int k' y) k x;cases op<;>simp only[reduceCtorEq,or_false,or_true,or_self]at hk hz hs<;>simp only[hg]
 all_goals first
  |(subst hk;simp[binOp,Op.intArith,Op.intCmp,Op.intBits,Ei,AV.val];done)
  |(subst hk;have:=hz trivial;simp[binOp,Op.intDiv,Ei,AV.val,this];done)
  |(have:=hs trivial;simp[binOp,Op.shift,Ei,AV.val,Int.not_lt.2 this];done)
theorem zIG{op:BinOp}{k:IntKind}{x y:Int}(hx:FM k x)(w:World):Rd w [(Ei op k x y).val] [Ei op k x y] []:=by
 cases op<;>simp only[Ei,AV.val]<;>first
  |exact .int (zz5 _ _) .nil
  |exact .bool .nil
  |exact .int (zKY hx) .nil
  |exact .int (zLN _ hx) .nil
theorem Rd.jt{w:World}{v:Value}{x:AV}{f:List Nat}(h:Rd w [v] [x] f):x≠ .undef:=by rintro rfl;cases h
theorem zxL{ρ:List AV}:∀(x:E) {k:IntKind},CR x=some k->x.den ρ≠ .undef-> ∃m,x.den ρ= .int k m
 | .int k n,_,h,_=>by simp[CR]at h;subst h;exact⟨n,rfl⟩
 | .len y,_,h,hd=>by
  simp[CR]at h;subst h;simp only[E.den,AV.len]at hd ⊢;split at hd
  ·exact⟨_,rfl⟩
  ·exact absurd rfl hd
 | .slen y,_,h,hd=>by
  simp[CR]at h;subst h;simp only[E.den,AV.slen]at hd ⊢;split at hd
  ·exact⟨_,rfl⟩
  ·exact absurd rfl hd
 | .conv k y,_,h,hd=>by
  simp[CR]at h;subst h;simp only[E.den,AV.conv]at hd ⊢;split at hd
  ·exact⟨_,rfl⟩
  ·exact absurd rfl hd
 | .bin op x y,k,h,hd=>by
  simp only[E.den]at hd ⊢;have hx:x.den ρ≠ .undef:=by rintro hh;rw[hh]at hd;exact hd (by simp[AV.bin])
  cases op<;>simp only[CR,reduceCtorEq]at h
  all_goals
   obtain⟨m,hm⟩:=zxL x h hx;rw[hm]at hd ⊢;cases hy:y.den ρ<;>rw[hy]at hd<;>simp only[AV.bin]at hd ⊢ <;>first
    |exact absurd rfl hd
    |(split at hd
      ·rename_i hk;rw[if_pos hk];exact⟨_,rfl⟩
      ·exact absurd rfl hd)
 | .var _,_,h,_=>by simp[CR]at h
 | .bool _,_,h,_=>by simp[CR]at h
 | .str _,_,h,_=>by simp[CR]at h
 | .fu,_,h,_=>by simp[CR]at h
 | .lst _,_,h,_=>by simp[CR]at h
 | .mk _,_,h,_=>by simp[CR]at h
 | .tup _,_,h,_=>by simp[CR]at h
 | .ref _,_,h,_=>by simp[CR]at h
 | .fn ..,_,h,_=>by simp[CR]at h
 | .fld ..,_,h,_=>by simp[CR]at h
 | .proj ..,_,h,_=>by simp[CR]at h
 | .deref _,_,h,_=>by simp[CR]at h
 | .idx ..,_,h,_=>by simp[CR]at h
 | .sidx ..,_,h,_=>by simp[CR]at h
 | .win ..,_,h,_=>by simp[CR]at h
 | .swin ..,_,h,_=>by simp[CR]at h
 | .app ..,_,h,_=>by simp[CR]at h
 | .set ..,_,h,_=>by simp[CR]at h
 | .put ..,_,h,_=>by simp[CR]at h
 | .rep ..,_,h,_=>by simp[CR]at h
 | .sbin ..,_,h,_=>by simp[CR]at h
 | .bbin ..,_,h,_=>by simp[CR]at h
 | .not _,_,h,_=>by simp[CR]at h
 | .neg _,_,h,_=>by simp[CR]at h
 | .ite ..,_,h,_=>by simp[CR]at h
 | .bytes _,_,h,_=>by simp[CR]at h
 | .text _,_,h,_=>by simp[CR]at h
end
section
variable {P:Program} {c:Cx} {n nx:Nat} {sl sl0:Nat->SV} {hp hp0:Nat->Option Ai} {a:Act} {o:Oper} {gs:Gd} {e:Bf} {sg:BY} {nv:Nat}
theorem I9{s:SV}{v:Value}{x:E}(h:SR c [s] [v])(hx:F0 s=some x):∃f,Rd c.w [v] [x.den c.ρ] f/\ ∀b∈f,c.ok b:=by
 cases s<;>simp only[F0,Af,reduceCtorEq]at hx;subst hx;cases h with
 |e h1 h2 _=>exact⟨_,h1,h2⟩
theorem SR.ed{v:Value}{x:E}(h:Rd c.w [v] [x.den c.ρ] []):SR c [.e x] [v]:= .e h (by simp) .nil
theorem zGK{ρ:List AV}{op:BinOp}{x y:E}{w:World}{v u:Value}{f g:List Nat}(h1:Rd w [v] [x.den ρ] f)(h2:Rd w [u] [y.den ρ] g)(hd:Ua (.bin op x y)=true->(E.bin op x y).den ρ≠ .undef):
  ∃k k' p q,x.den ρ= .int k p/\y.den ρ= .int k' q/\(k=k'\/op= .shl\/op= .shr)/\(E.bin op x y).den ρ=Ei op k p q/\FM k p/\v= .int k p/\u= .int k' q:=by
 have key:(∃k k' p q,x.den ρ= .int k p/\y.den ρ= .int k' q/\(k=k'\/op= .shl\/op= .shr)):=by
  by_cases hn:Ua (.bin op x y)=true
  ·have:=hd hn;simp only[E.den]at this;cases hx:x.den ρ<;>cases hy:y.den ρ<;>simp only[hx,hy,AV.bin,ne_eq,not_true_eq_false]at this;split at this
   ·exact⟨_,_,_,_,rfl,rfl,by assumption⟩
   ·exact absurd rfl this
  ·have hn:Ua (.bin op x y)=false:=by simpa using hn
   have hk:(CR x).isSome=true/\(CR x==CR y)=true:=by cases op<;>simp[Ua]at hn<;>simpa using hn
   obtain⟨k,Hl⟩:=Option.isSome_iff_exists.1 hk.1;have hk2:CR y=some k:=by rw[<-Ay.1 hk.2,Hl]
   obtain⟨p,hp⟩:=zxL x Hl h1.jt;obtain⟨q,hq⟩:=zxL y hk2 h2.jt;exact⟨k,k,p,q,hp,hq, .inl rfl⟩
 obtain⟨k,k',p,q,hp,hq,Ro⟩:=key;obtain⟨hv,Cs⟩:=Hd h1 hp;obtain⟨hu,_⟩:=Hd h2 hq;exact⟨k,k',p,q,hp,hq,Ro,by simp only[E.den,hp,hq,AV.bin,if_pos Ro],Cs,hv,hu⟩
theorem zAg(a b:ByteArray):(a.toList==b.toList)=(a.data.toList==b.data.toList):=by rw[ByteArray.toList_eq,ByteArray.toList_eq]
theorem zBq{α β γ:Type}(r:Result α)(f:α->World->Result β)(g:β->World->Result γ):(r.andThen f).andThen g=r.andThen λa w=>(f a w).andThen g:=by cases r<;>rfl
theorem zut(d:Nat){t:TypeId}(p q:Bool)(h:P.underlying t=some .bool)(w:World):(Op.equalIn (d+1) t (.bool p) (.bool q)).run P w= .ok (p==q) w:=by simp[Op.equalIn,run_underlying h]
theorem zHc{t:TypeId}(p q:Bool)(h:P.underlying t=some .bool)(w:World):(binOp .eql t (.bool p) (.bool q)).run P w= .ok (.bool (p==q)) w:=by simp only[binOp];simp[Op.equal,Op.maxDepth,zut 9999 p q h]
theorem zGu{t:TypeId}(p q:Bool)(h:P.underlying t=some .bool)(w:World):(binOp .neq t (.bool p) (.bool q)).run P w= .ok (.bool (!(p==q))) w:=by simp only[binOp];simp[Op.equal,Op.maxDepth,zut 9999 p q h]
theorem Q7{op:BinOp}{t ty:TypeId}{x y:Operand}(ho:o.op= .binOp op t x y ty)(w:World){v u:Value}(hv:a.eval x=v)(hu:a.eval y=u):
  (execOp a.eval o).run P w=((do eqGuard op t x y v u;binOp op t v u:Sem Value).run P w).andThen λv w=> .ok (.value v) w:=by
 simp only[execOp,ho,hv,hu,Sem.run_bind,zBq,Sem.run_pure]
theorem zrp(h:BB P c n nx sl hp a sl0 hp0 o gs){op:BinOp}{t el:TypeId}{x y:Operand}{ty:TypeId}(ho:o.op= .binOp op t x y ty)(hu:P.underlying t=some (.slice el))(r1:SR c [.dg] [a.eval x])(r2:SR c [.dg] [a.eval y])
  (AY:op= .eql\/op= .neq):AJ P o c n nx sl hp gs a {val:= .e (.bool (op== .eql))}:=by
 have ex:=λ(v u:Value) (hv:a.eval x=v) (hu:a.eval y=u)=>Q7 (P:=P) (o:=o) ho c.w hv hu;generalize Fu:a.eval x=v1 at r1;generalize Dh:a.eval y=v2 at r2;cases r1 with
 |dg _=>cases r2 with
  |dg _=>
   refine AJ.pure h (v:= .bool (op== .eql)) ?_ (.ed (.bool .nil)) rfl;rw[ex _ _ Fu Dh,eqGuard_at_slice];rcases AY with rfl|rfl
   ·simp[run_eql_nil_slice c.w t el none 0 0 0 0 hu]
   ·simp[run_neq_nil_slice c.w t el none 0 0 0 0 hu]
theorem zCT(h:BB P c n nx sl hp a sl0 hp0 o gs){op:BinOp}{t:TypeId}{x y:Operand}{ty:TypeId}(ho:o.op= .binOp op t x y ty){s1 s2:SV}(r1:SR c [s1] [a.eval x])(r2:SR c [s2] [a.eval y])
  {x' y':E} (Dz:F0 s1=some x') (BQ:F0 s2=some y') (hd:Ua (.bin op x' y')=true->Cn.den c.ρ (.dfd (.bin op x' y'))) (hnz:op= .quo\/op= .rem->Cn.den c.ρ (.nz y')) (hnn:op= .shl\/op= .shr->Cn.den c.ρ (.nn y')) {ck:List Cn}:
  AJ P o c n nx sl hp gs a {dn:=ck,val:= .e (.bin op x' y')}:=by
 obtain⟨f1,g1,_⟩:=I9 r1 Dz;obtain⟨f2,g2,_⟩:=I9 r2 BQ;obtain⟨k,k',p,q,e1,e2,Ro,e3,Cs,hv,Ga⟩:=zGK (op:=op) g1 g2 hd;refine AJ.pure h (v:=(Ei op k p q).val) ?_ (.ed (by rw[e3];exact zIG Cs _)) rfl;rw[Q7 ho c.w hv Ga,zGX Ro (λAY=> ?_) (λAY=> ?_)]
 ·simp
 ·obtain⟨_,m,hm,CF⟩:=hnz AY;rw[e2]at hm;cases hm;exact CF
 ·obtain⟨_,m,hm,CF⟩:=hnn AY;rw[e2]at hm;cases hm;exact CF
theorem zCg(h:BB P c n nx sl hp a sl0 hp0 o gs){op:BinOp}{t:TypeId}{x y:Operand}{ty:TypeId}(ho:o.op= .binOp op t x y ty){s1 s2:SV}(r1:SR c [s1] [a.eval x])(r2:SR c [s2] [a.eval y])
  {x' y':E} (Dz:F0 s1=some x') (BQ:F0 s2=some y') (hd:Cn.den c.ρ (.dfd (.sbin op x' y'))) (BV:op= .add->Cn.den c.ρ (.roomS x' y')) {ck:List Cn}:
  AJ P o c n nx sl hp gs a {dn:=ck,val:= .e (.sbin op x' y')}:=by
 obtain⟨f1,g1,_⟩:=I9 r1 Dz;obtain⟨f2,g2,_⟩:=I9 r2 BQ;have hd:AV.sbin op (x'.den c.ρ) (y'.den c.ρ)≠ .undef:=hd;cases hx:x'.den c.ρ<;>cases hy:y'.den c.ρ<;>simp only[hx,hy,AV.sbin,ne_eq,not_true_eq_false]at hd;obtain⟨b1,Fu,rfl,_⟩:=UL g1 hx;obtain⟨b2,Dh,rfl,_⟩:=UL g2 hy;have hle:op= .add->b1.size+b2.size<=9223372036854775807:=λAY=>by obtain⟨p,q,hp,hq,hle⟩:=BV AY;rw[hx]at hp;rw[hy]at hq;cases hp;cases hq;simpa using hle
 refine AJ.pure h (v:=match op with| .add=> .string (b1++b2)|_=>(UG op b1.data.toList b2.data.toList).val) ?_ (.ed ?_) rfl
 ·rw[Q7 ho c.w Fu Dh,eqGuard_at_string];cases op<;>first
   |(exact absurd rfl hd)
   |(have:=hle rfl;simp[binOp,Op.stringOp];omega)
   |(simp[binOp,Op.stringOp,UG,AV.val,ByteArray.toList_eq,bne];done)
 ·simp only[E.den,hx,hy,AV.sbin];cases op<;>simp only[UG,AV.val,ne_eq,not_true_eq_false]at hd ⊢ <;>first
   |exact .bool .nil
   |(have:=hle rfl
     have h9:=Rd.str (w:=c.w) (s:=b1++b2) (by simpa using this) .nil;simpa using h9)
theorem zBY(h:BB P c n nx sl hp a sl0 hp0 o gs){op:BinOp}{t:TypeId}{x y:Operand}{ty:TypeId}(ho:o.op= .binOp op t x y ty)(hu:P.underlying t=some .bool){s1 s2:SV}(r1:SR c [s1] [a.eval x])(r2:SR c [s2] [a.eval y])
  {x' y':E} (Dz:F0 s1=some x') (BQ:F0 s2=some y') (hd:Cn.den c.ρ (.dfd (.bbin op x' y'))) {ck:List Cn}:
  AJ P o c n nx sl hp gs a {dn:=ck,val:= .e (.bbin op x' y')}:=by
 obtain⟨f1,g1,_⟩:=I9 r1 Dz;obtain⟨f2,g2,_⟩:=I9 r2 BQ;have hd:AV.bbin op (x'.den c.ρ) (y'.den c.ρ)≠ .undef:=hd;cases hx:x'.den c.ρ<;>cases hy:y'.den c.ρ<;>simp only[hx,hy,AV.bbin,ne_eq,not_true_eq_false]at hd;rename_i p q;have Fu:=JO g1 hx;have Dh:=JO g2 hy;refine AJ.pure h (v:=(AV.bbin op (.bool p) (.bool q)).val) ?_ (.ed ?_) rfl
 ·rw[Q7 ho c.w Fu Dh,eqGuard_at_bool];cases op<;>simp only[ne_eq,not_true_eq_false]at hd
  ·simp[zHc p q hu,AV.bbin,AV.val]
  ·simp[zGu p q hu,AV.bbin,AV.val,bne]
 ·simp only[E.den,hx,hy];cases op<;>simp only[AV.bbin,AV.val,ne_eq,not_true_eq_false]at hd ⊢ <;>exact .bool .nil
theorem zKN(h:BB P c n nx sl hp a sl0 hp0 o gs){op:BinOp}{t:TypeId}{x y:Operand}{ty:TypeId}(ho:o.op= .binOp op t x y ty)(NZ:∀fs,P.underlying t≠some (.struct fs))(he:B2 P sg sl0 hp0 nv nx gs o=some e)(hq:e.df=none)(hc:∀q∈e.dn,Cn.den c.ρ q):AJ P o c n nx sl hp gs a e:=by
 have DL:x∈o.op.operands:=by simp[ho,Op.operands]
 have C7:y∈o.op.operands:=by simp[ho,Op.operands]
 simp only[B2,ho,AA]at he;obtain⟨s1,BO,s2,Bd,he⟩:=he;have r1:=h.dy BO DL;have r2:=h.dy Bd C7;unfold UH at he;split at he
 ·rename_i el hu;split at he
  ·simp at he;subst he;exact zrp h ho hu r1 r2 (.inl rfl)
  ·simp at he;subst he;exact zrp h ho hu r1 r2 (.inr rfl)
  ·obtain⟨_,_,rfl⟩:=Aw.1 he;cases hq
  ·obtain⟨_,_,rfl⟩:=Aw.1 he;cases hq
  ·cases he
 ·rename_i kk hu;split at he
  ·rename_i x' y' Dz BQ;simp at he;subst he;exact zCT h ho r1 r2 Dz BQ (λhn=>hc _ (by simp[hn])) (λAY=>hc _ (by rcases AY with rfl|rfl<;>simp)) (λAY=>hc _ (by rcases AY with rfl|rfl<;>simp))
  ·cases he
 ·rename_i hu;split at he
  ·rename_i x' y' Dz BQ;simp at he;subst he;exact zCg h ho r1 r2 Dz BQ (hc _ (by simp)) (λAY=>hc _ (by subst AY;simp))
  ·cases he
 ·rename_i hu;split at he
  ·rename_i x' y' Dz BQ;simp at he;subst he;exact zBY h ho hu r1 r2 Dz BQ (hc _ (by simp))
  ·cases he
 ·rename_i fs hu;exact absurd hu (NZ fs)
 ·cases he
end
section
variable {P:Program} {c:Cx} {n nx:Nat} {sl sl0:Nat->SV} {hp hp0:Nat->Option Ai} {a:Act} {o:Oper} {gs:Gd} {e:Bf} {sg:BY} {nv:Nat}
theorem Yo{t:TypeId}(h:DV P t=true)(cs:List Value)(off:Nat)(hle:off+P.cellsOf t<=cs.length)(hg:Aq P t=true\/P.cellsOf t=1)(w:World):
  (part t cs.toArray off).run P w= .ok (if Aq P t then .agg ((cs.drop off).take (P.cellsOf t)).toArray else((cs.drop off).take (P.cellsOf t)).headD Go.undef) w:=by
 cases ha:Aq P t with
 |true=>simp only[part,Sem.run_bind,Ym h,ha,QP h,Result.andThen_ok,if_true,Sem.run_pure];congr 2;apply Array.ext';rw[Array.toList_extract];simp[Nat.add_sub_cancel_left,List.extract_eq_take_drop]
 |false=>
  have h1:P.cellsOf t=1:=by rcases hg with h'|h';rw[ha]at h';cases h';exact h'
  have AP:off<cs.length:=by omega
  have e1:(cs.drop off).take (P.cellsOf t)=[cs[off]]:=by rw[h1,By AP,List.take_succ_cons,List.take_zero]
  rw[e1];simp[part,Ym h,ha,AP]
theorem zGU(h:BB P c n nx sl hp a sl0 hp0 o gs){t:TypeId}{x:Operand}{f:Nat}(ho:o.op= .field t x f)(he:B2 P sg sl0 hp0 nv nx gs o=some e)(hc:∀q∈e.dn,Cn.den c.ρ q):AJ P o c n nx sl hp gs a e:=by
 have hm:x∈o.op.operands:=by simp[ho,Op.operands]
 simp only[B2,ho,AA]at he;obtain⟨s,hs,he⟩:=he;have hr:=h.dy hs hm;split at he
 ·rename_i fs hu;split at he
  ·rename_i fd hf;split at he
   ·cases he
   ·rename_i BC;have BC:DV P fd.type=true:=by simpa using BC
    have ex:∀as_:List Value,a.eval x= .agg as_.toArray->(execOp a.eval o).run P c.w=((part fd.type as_.toArray fd.offset).run P c.w).andThen λv w=> .ok (.value v) w:=λas_ hv=>by simp[execOp,ho,Instr.field,run_underlying hu,hf,hv,asAgg]
    split at he
    ·rename_i cs;obtain⟨s2,Bd,rfl⟩:=Aw.1 he;generalize hv:a.eval x=v at hr;cases hr with
     |agg r8 r1 r9=>
      rename_i as_;have hlen:=r1.len;unfold Qd at Bd;split at Bd
      ·rename_i AN;split at Bd
       ·rename_i hle;simp at Bd;subst Bd;obtain⟨q1,q2⟩:=r1.split fd.offset;obtain⟨q3,q4⟩:=q2.split (P.cellsOf fd.type);have:=SR.agg (cs:=BS.of ((cs.toList.drop fd.offset).take (P.cellsOf fd.type))) (λu hu=>r8 u (BR (BD hu))) (by rw[BS.ax];exact q3) .nil;refine AJ.pure h (v:= .agg ((as_.drop fd.offset).take (P.cellsOf fd.type)).toArray) ?_ this rfl;rw[ex as_ hv,Yo BC as_ fd.offset (by omega) (.inl AN)];simp[AN]
       ·cases Bd
      ·rename_i AN;have AN:Aq P fd.type=false:=by simpa using AN
       obtain⟨u,Ga,r⟩:=r1.get Bd;refine AJ.pure h (v:=u) ?_ r rfl;rw[ex as_ hv];simp[part,Ym BC,AN,Ga]
    ·rename_i y;split at he
     ·rename_i hh;obtain⟨hle,AN⟩:=hh;simp at he;subst he;generalize hv:a.eval x=v at hr;cases hr with
      |e h1 h2 _=>
       rename_i f1;obtain⟨cs,BE,AD⟩:=Cl hc;obtain⟨as_,rfl,P0,D6⟩:=Kq h1 BE;have hlen:=D6.len;have GD:(y.den c.ρ).cells=cs:=by rw[BE];rfl
       rw[<-GD]at D6;obtain⟨q,g1,g2⟩:=D6.ko P0 fd.offset (P.cellsOf fd.type) (Aq P fd.type) (by rw[GD];omega) (λhh=>by rcases AN with h'|h';rw[hh]at h';cases h';exact h');refine AJ.pure h ?_ (.e (f:=q) (by simpa[E.den]using g2) (λz hz=>h2 z (g1 z hz)) .nil) rfl;rw[ex as_ hv,Yo BC as_ fd.offset (by omega) AN];simp
     ·cases he
    ·rename_i b g m pth y;split at he
     ·rename_i hh;obtain⟨hle,AN,V1⟩:=hh;have hE:=Uk h.eh h.gs V1;generalize hv:a.eval x=v at hr;have Jt:Cn.den c.ρ (.agg y (P.cellsOf t)):=by
       split at he<;>(simp only[Af]at he;subst he;exact Cl hc)
      cases hr with
      |via h1 h2 h3 _=>
       obtain⟨⟨f1,p1,p2⟩,_⟩:=h3 hE;obtain⟨cs,BE,AD⟩:=Jt;obtain⟨as_,rfl,P0,D6⟩:=Kq p1 BE;have hlen:=D6.len;have GD:(y.den c.ρ).cells=cs:=by rw[BE];rfl
       rw[<-GD]at D6;obtain⟨q,g1,g2⟩:=D6.ko P0 fd.offset (P.cellsOf fd.type) (Aq P fd.type) (by rw[GD];omega) (λhh=>by rcases AN with h'|h';rw[hh]at h';cases h';exact h');have A6:=ex as_ hv;rw[Yo BC as_ fd.offset (by omega) AN]at A6;simp only[Result.andThen_ok]at A6;have CN:Rd c.w _ [(E.fld y fd.offset (P.cellsOf fd.type) (Aq P fd.type)).den c.ρ] q:=g2;split at he
       ·simp only[Af]at he;subst he;obtain⟨e1,e2,e3,e4⟩:=hc (.flat (.fld y fd.offset (P.cellsOf fd.type) (Aq P fd.type)) (P.cellsOf fd.type) (Aq P fd.type)) (by simp);have hq:q=[]:=by
         cases hg:Aq P fd.type with
         |true=>obtain⟨cs,BE⟩:=e3 hg;obtain⟨as_,_,_,r⟩:=Kq CN BE;exact IG r (by rw[BE]at e2;exact e2)
         |false=>exact IG CN (by simpa using e4 hg)
        subst hq;exact AJ.pure h A6 (.e CN (by simp) .nil) rfl
       ·simp only[Af]at he;subst he;exact AJ.pure h A6 (.via h1 h2 (λ_=>⟨⟨q,CN,λz hz=>p2 z (g1 z hz)⟩,trivial⟩) .nil) rfl
     ·cases he
    ·cases he
  ·cases he
 ·cases he
theorem Ue{v:Value}{x:AV}{m:Int}{w:World}{f:List Nat}(h:Rd w [v] [x] f)(hx:x.len= .int .i64 m):(∃a c,v= .slice a 0 c/\m=0)\/ ∃b o k c,v= .slice (some ⟨b,o,none⟩) k c/\m=k:=by
 rcases h.kind with h|h|h|h|h|h|h|h|h|h
 ·obtain⟨_,_,_,rfl,_⟩:=h;simp[AV.len]at hx
 ·obtain⟨_,_,rfl,_⟩:=h;simp[AV.len]at hx
 ·obtain⟨_,_,rfl,_⟩:=h;simp[AV.len]at hx
 ·obtain⟨q,r,rfl,rfl,_⟩:=h;simp[AV.len]at hx;exact .inl ⟨q,r,rfl,by omega⟩
 ·obtain⟨b,o,k,r,ys,_,_,_,_,_,_,rfl,rfl,_,_,_,_,hl,_⟩:=h;simp[AV.len]at hx;exact .inr ⟨b,o,k,r,rfl,by omega⟩
 ·obtain⟨_,_,_,rfl,_⟩:=h;simp[AV.len]at hx
 ·obtain⟨_,_,_,rfl,_⟩:=h;simp[AV.len]at hx
 ·obtain⟨_,_,_,_,_,_,_,rfl,_⟩:=h;simp[AV.len]at hx
 ·obtain⟨_,_,_,_,rfl,_⟩:=h;simp[AV.len]at hx
 ·obtain⟨_,rfl,_⟩:=h;simp[AV.len]at hx
theorem TS{t el:TypeId}(hu:P.underlying t=some (.slice el))(hz:P.cellsOf el≠0){b off len cap:Nat}{kk:IntKind}{k:Int}(h0:0<=k)(h1:k<len)(w:World):
  (Instr.indexAt t (.slice (some ⟨b,off,none⟩) len cap) (.int kk k)).run P w= .ok (.pointer (some ⟨b,off+k.toNat*P.cellsOf el,none⟩)) w:=by
 simp[Instr.indexAt,run_underlying hu,asIntOf,h0,h1,zzB hz,Addr.add_lit]
theorem zzY(h:BB P c n nx sl hp a sl0 hp0 o gs){t:TypeId}{x i:Operand}(ho:o.op= .indexAddr t x i\/o.op= .index t x i){s1 s2:SV}(BO:BW sl0 gs x=some s1)(Bd:BW sl0 gs i=some s2)
  (AY:(∃el,P.underlying t=some (.slice el))->o.op= .indexAddr t x i) (nZ:P.underlying t=some .string->o.op= .index t x i)
  (he:kV P hp0 gs t s1 s2=some e) (hc:∀q∈e.dn,Cn.den c.ρ q):AJ P o c n nx sl hp gs a e:=by
 have DL:x∈o.op.operands:=by rcases ho with ho|ho<;>simp[ho,Op.operands]
 have C7:i∈o.op.operands:=by rcases ho with ho|ho<;>simp[ho,Op.operands]
 have r1:=h.dy BO DL;have r2:=h.dy Bd C7;unfold kV at he;split at he
 ·rename_i el k hu;have VG:=AY ⟨el,hu⟩;have ex:(execOp a.eval o).run P c.w=((Instr.indexAt t (a.eval x) (a.eval i)).run P c.w).andThen λv w=> .ok (.value v) w:=by simp[execOp,VG]
  split at he
  ·cases he
  rename_i hz;obtain⟨fk,Hl,_⟩:∃f,Rd c.w [a.eval i] [k.den c.ρ] f/\ ∀b∈f,c.ok b:=by
   generalize a.eval i=v at r2;cases r2 with
   |e h1 h2 _=>exact⟨_,h1,h2⟩
  split at he
  ·rename_i b g;split at he
   ·rename_i e0 sz g' c0 d hl;split at he
    ·rename_i hh;obtain⟨rfl,rfl⟩:=hh;simp at he;subst he;obtain⟨kk,kv,m,e1,e2,e3,e4,e5⟩:=Cl hc;obtain⟨Jz,_⟩:=Hd Hl e1;generalize hv:a.eval x=v at r1 ex;cases r1 with
     |own hK NN _=>
      obtain⟨_,_,N,q1,q2,_,_⟩:=h.eh b _ (Df hl h.gs);obtain⟨xs,Da,AD,h0,Bv⟩:=q1;rw[Da]at e3;simp only[AV.len,AV.int.injEq,true_and]at e3;rcases Bv with⟨rfl,_⟩|⟨g9,cap,C,hH,_⟩
      ·simp at e3;omega
      ·refine AJ.pure h (v:= .pointer (some ⟨g9,kv.toNat*P.cellsOf el+0,none⟩)) ?_ (.du hK hH e1 e2 (by omega) .nil) rfl;rw[NN]at hH;cases hH;rw[ex,Jz,TS hu hz e2 (by omega)];simp
    ·cases he
   ·rename_i g' c0 hl;split at he
    ·rename_i hh;subst hh;simp at he;subst he;obtain⟨kk,kv,m,e1,e2,e3,e4,e5⟩:=Cl hc;obtain⟨Jz,_⟩:=Hd Hl e1;generalize hv:a.eval x=v at r1 ex;cases r1 with
     |own hK NN _=>
      obtain⟨_,⟨f,q1,q2⟩,_,_⟩:=h.eh b _ (Df hl h.gs);rcases Ue q1 e3 with⟨_,_,_,hm⟩|⟨b9,off9,len9,cap9,hH,hm⟩
      ·omega
      ·rw[NN]at hH;cases hH;rw[NN]at q1;refine AJ.pure h (v:= .pointer (some ⟨b9,off9+kv.toNat*P.cellsOf el+0,none⟩)) ?_ (.fb q1 q2 e1 e2 (by omega) e5 .nil) rfl;rw[ex,Jz,TS hu hz e2 (by omega)];simp
    ·cases he
   ·rename_i e0 sz dl g' ep c0 hl;split at he
    ·rename_i hh;obtain⟨rfl,rfl⟩:=hh;simp at he;subst he;obtain⟨kk,kv,m,e1,e2,e3,e4,e5⟩:=Cl hc;obtain⟨Jz,_⟩:=Hd Hl e1;generalize hv:a.eval x=v at r1 ex;cases r1 with
     |own hK NN _=>
      obtain⟨_,_,_,q1,_⟩:=h.eh b _ (Df hl h.gs);obtain⟨_,_,⟨a9,d3,d4,_⟩|⟨g9,cap,C,ys,N1,hH,d4,_⟩⟩:=q1.inv
      ·rw[d4]at e3;simp[AV.len]at e3;omega
      ·rw[d4]at e3;simp only[AV.len,AV.int.injEq,true_and]at e3;refine AJ.pure h (v:= .pointer (some ⟨g9,kv.toNat*P.cellsOf el+0,none⟩)) ?_ (.du hK hH e1 e2 (by omega) .nil) rfl;rw[NN]at hH;cases hH;rw[ex,Jz,TS hu hz e2 (by omega)];simp
    ·cases he
   ·rename_i e0 sz dl g' ep c0 ih oh uh hl;split at he
    ·rename_i hh;obtain⟨rfl,rfl⟩:=hh;simp at he;subst he;obtain⟨kk,kv,m,e1,e2,e3,e4,e5⟩:=Cl hc;obtain⟨Jz,_⟩:=Hd Hl e1;generalize hv:a.eval x=v at r1 ex;cases r1 with
     |own hK NN _=>obtain⟨_,_,_,⟨g9,cap,C,ys,_,_,_,_,hH,d4,_⟩,_⟩:=h.eh b _ (Df hl h.gs);rw[d4]at e3;simp only[AV.len,AV.int.injEq,true_and]at e3;refine AJ.pure h (v:= .pointer (some ⟨g9,kv.toNat*P.cellsOf el+0,none⟩)) ?_ (.du hK hH e1 e2 (by omega) .nil) rfl;rw[NN]at hH;cases hH;rw[ex,Jz,TS hu hz e2 (by omega)];simp
    ·cases he
   ·cases he
  ·rename_i y;simp at he;subst he;obtain⟨kk,kv,m,e1,e2,e3,e4,e5⟩:=Cl hc;obtain⟨Jz,_⟩:=Hd Hl e1;generalize hv:a.eval x=v at r1 ex;cases r1 with
   |e q1 q2 _=>
    rcases Ue q1 e3 with⟨_,_,_,hm⟩|⟨b9,off9,len9,cap9,rfl,hm⟩
    ·omega
    ·refine AJ.pure h (v:= .pointer (some ⟨b9,off9+kv.toNat*P.cellsOf el+0,none⟩)) ?_ (.fb q1 q2 e1 e2 (by omega) e5 .nil) rfl;rw[ex,Jz,TS hu hz e2 (by omega)];simp
  ·rename_i b g m pth y;split at he
   ·rename_i V1;simp at he;subst he;have hE:=Uk h.eh h.gs V1;obtain⟨kk,kv,mm,e1,e2,e3,e4,e5⟩:=Cl hc;obtain⟨Jz,_⟩:=Hd Hl e1;generalize hv:a.eval x=v at r1 ex;cases r1 with
    |via q1 q2 q3 _=>
     obtain⟨⟨f,p1,p2⟩,p3⟩:=q3 hE;rcases Ue p1 e3 with⟨_,_,_,hm⟩|⟨b9,off9,len9,cap9,rfl,hm⟩
     ·omega
     ·refine AJ.pure h (v:= .pointer (some ⟨b9,off9+kv.toNat*P.cellsOf el+0,none⟩)) ?_ (.vptr q1 q2 (λ_=>⟨b9,off9,len9,cap9,kk,kv,⟨f,p1,p2⟩,p3,e1,e2,by omega,e5,rfl⟩) .nil) rfl;rw[ex,Jz,TS hu hz e2 (by omega)];simp
   ·cases he
  ·cases he
 ·rename_i k hu;have VG:=nZ hu;obtain⟨fk,Hl,_⟩:∃f,Rd c.w [a.eval i] [k.den c.ρ] f/\ ∀b∈f,c.ok b:=by
   generalize a.eval i=v at r2;cases r2 with
   |e h1 h2 _=>exact⟨_,h1,h2⟩
  split at he
  ·rename_i y;simp at he;subst he;obtain⟨kk,kv,s,e1,e2,e3,e4⟩:=Cl hc;obtain⟨Jz,_⟩:=Hd Hl e1;generalize hv:a.eval x=v at r1;cases r1 with
   |e q1 q2 _=>
    obtain⟨bs,rfl,rfl,hle⟩:=UL q1 e2;have AP:kv.toNat<bs.data.toList.length:=by omega
    have nO:kv.toNat<bs.size:=by simpa using AP
    refine AJ.pure h (v:= .int .u8 (bs[kv.toNat]).toNat) ?_ (.ed ?_) rfl
    ·simp[execOp,VG,Instr.index,hv,Jz,asIntOf,run_underlying hu,e3,nO]
    ·simp only[E.den,e1,e2,AV.sidx];have:bs.data.toList[kv.toNat]?=some (bs[kv.toNat]):=by
      rw[AL AP];simp[ByteArray.getElem_eq_getElem_data]
     rw[this];refine .int ?_ .nil;rw[Uq];have:=(bs[kv.toNat]).toNat_lt;simp[IntKind.min,IntKind.max,IntKind.signed,IntKind.bits];omega
  ·cases he
 ·cases he
theorem zyr(h:BB P c n nx sl hp a sl0 hp0 o gs){t:TypeId}{x i:Operand}(ho:o.op= .indexAddr t x i)(NZ:P.underlying t≠some .string)(he:B2 P sg sl0 hp0 nv nx gs o=some e)(hc:∀q∈e.dn,Cn.den c.ρ q):AJ P o c n nx sl hp gs a e:=by
 simp only[B2,ho,AA]at he;obtain⟨s1,BO,s2,Bd,he⟩:=he;split at he
 ·cases he
 exact zzY h (.inl ho) BO Bd (λ_=>ho) (λhh=>absurd hh NZ) he hc
theorem zCt(h:BB P c n nx sl hp a sl0 hp0 o gs){t:TypeId}{x i:Operand}(ho:o.op= .index t x i)(NZ:P.underlying t=some .string)(he:B2 P sg sl0 hp0 nv nx gs o=some e)(hc:∀q∈e.dn,Cn.den c.ρ q):AJ P o c n nx sl hp gs a e:=by
 simp only[B2,ho,AA]at he;obtain⟨s1,BO,s2,Bd,he⟩:=he;split at he
 ·exact zzY h (.inr ho) BO Bd (λ⟨el,hh⟩=>by rw[NZ]at hh;cases hh) (λ_=>ho) he hc
 ·cases he
theorem zCC(h:BB P c n nx sl hp a sl0 hp0 o gs){x:Operand}{i:Nat}(ho:o.op= .extract x i)(he:B2 P sg sl0 hp0 nv nx gs o=some e)(hc:∀q∈e.dn,Cn.den c.ρ q):AJ P o c n nx sl hp gs a e:=by
 have hm:x∈o.op.operands:=by simp[ho,Op.operands]
 simp only[B2,ho,AA]at he;obtain⟨s,hs,he⟩:=he;have hr:=h.dy hs hm;generalize hv:a.eval x=v at hr;have ex:∀(as_:List Value) u,v= .tuple as_.toArray->as_[i]?=some u->(execOp a.eval o).run P c.w= .ok (.value u) c.w:=λas_ u VZ hu=>by simp[execOp,ho,Instr.extract,hv,VZ,hu]
 split at he
 ·rename_i vs;obtain⟨s2,Bd,rfl⟩:=Aw.1 he;cases hr with
  |tup r1 r9=>obtain⟨u,hu,r⟩:=r1.get Bd;exact AJ.pure h (ex _ u rfl hu) r rfl
 ·rename_i y;simp at he;subst he;cases hr with
  |e q1 q2 _=>
   have hd:(y.den c.ρ).proj i≠ .undef:=Cl hc;cases hy:y.den c.ρ<;>simp only[hy,AV.proj,ne_eq,not_true_eq_false]at hd;rename_i cs;obtain⟨as_,rfl,r1⟩:=zPW q1 hy;cases Vd:cs[i]? with
   |none=>simp[Vd]at hd
   |some z=>obtain⟨u,g,hu,hg,DX⟩:=r1.at Vd;exact AJ.pure h (ex as_ u rfl hu) (.e (f:=g) (by simpa[E.den,hy,AV.proj,Vd]using DX) (λb hb=>q2 b (hg b hb)) .nil) rfl
 ·cases he
theorem zLp(h:BB P c n nx sl hp a sl0 hp0 o gs){x:Operand}{t:TypeId}(ho:o.op= .unOp .not t x)(he:B2 P sg sl0 hp0 nv nx gs o=some e)(hc:∀q∈e.dn,Cn.den c.ρ q):AJ P o c n nx sl hp gs a e:=by
 have hm:x∈o.op.operands:=by simp[ho,Op.operands]
 simp only[B2,ho,AA,Aw]at he;obtain⟨s,hs,y,hy,he⟩:=he;obtain⟨f,q1,_⟩:=I9 (h.dy hs hm) hy;split at he
 ·subst he;have hv:=JO q1 rfl;rename_i b;exact AJ.pure h (v:= .bool (!b)) (by simp[execOp,ho,hv,Op.unary]) (.ed (.bool .nil)) rfl
 ·subst he;have hd:(y.den c.ρ).ie≠ .undef:=Cl hc;cases BQ:y.den c.ρ<;>simp only[BQ,AV.ie,ne_eq,not_true_eq_false]at hd;have hv:=JO q1 BQ;rename_i b;exact AJ.pure h (v:= .bool (!b)) (by simp[execOp,ho,hv,Op.unary]) (.ed (by simp only[E.den,BQ,AV.ie];exact .bool .nil)) rfl
theorem zMs(h:BB P c n nx sl hp a sl0 hp0 o gs){x:Operand}{t:TypeId}(ho:o.op= .unOp .neg t x)(he:B2 P sg sl0 hp0 nv nx gs o=some e)(hc:∀q∈e.dn,Cn.den c.ρ q):AJ P o c n nx sl hp gs a e:=by
 have hm:x∈o.op.operands:=by simp[ho,Op.operands]
 simp only[B2,ho,AA,Aw]at he;obtain⟨s,hs,y,hy,rfl⟩:=he;obtain⟨f,q1,_⟩:=I9 (h.dy hs hm) hy;have hd:(y.den c.ρ).kr≠ .undef:=Cl hc;cases BQ:y.den c.ρ<;>simp only[BQ,AV.kr,ne_eq,not_true_eq_false]at hd;rename_i k m;obtain⟨hv,_⟩:=Hd q1 BQ;exact AJ.pure h (v:= .int k (k.wrap (0-m))) (by simp[execOp,ho,hv,Op.unary,Op.intArith]) (.ed (by simp only[E.den,BQ,AV.kr];exact .int (zz5 _ _) .nil)) rfl
theorem zHy{L:List Operand}{sl0:Nat->SV}{gs:Gd}(h:∀x s,BW sl0 gs x=some s->x∈L->SR c [s] [a.eval x]):∀{xs:List Operand} {ss:List SV},(∀x∈xs,x∈L)->xs.mapM (BW sl0 gs)=some ss->SR c ss (xs.map a.eval)
 | [],ss,_,hm=>by simp at hm;subst hm;exact .nil
 |x::xs,ss,hL,hm=>by rw[List.mapM_cons]at hm;simp only[Option.bind_eq_bind,AA]at hm;obtain⟨s,hs,ss',GV,hm⟩:=hm;simp at hm;subst hm;exact(h x s hs (hL x (by simp))).app (zHy h (λy hy=>hL y (by simp[hy])) GV)
theorem zBE(h:BB P c n nx sl hp a sl0 hp0 o gs){f:FuncId}{fst caps:Array Operand}(ho:o.op= .makeFunc (.func f) fst caps)(he:B2 P sg sl0 hp0 nv nx gs o=some e):AJ P o c n nx sl hp gs a e:=by
 simp only[B2,ho]at he;split at he
 ·rename_i hf;obtain⟨ss,GV,rfl⟩:=Aw.1 he;have hf:fst= #[]:=by simpa using hf
  have r:=zHy (a:=a) (c:=c) (L:=caps.toList) (λx s hx hm=>h.dy hx (by simp only[ho,Op.operands,Array.mem_append];exact .inr (Array.mem_toList_iff.1 hm))) (λx hx=>hx) GV;refine AJ.pure h (v:= .func (.func f) #[] (caps.toList.map a.eval).toArray) ?_ (.fn (by rw[BS.ax];exact r) .nil) rfl;simp[execOp,ho,Instr.makeFunc,hf];apply Array.ext';simp
 ·cases he
end
section
variable {P:Program} {c:Cx} {n nx:Nat} {sl sl0:Nat->SV} {hp hp0:Nat->Option Ai} {a:Act} {o:Oper} {gs:Gd} {e:Bf} {sg:BY} {nv:Nat}
theorem BB.l7(h:BB P c n nx sl hp a sl0 hp0 o gs){x:Operand}{s:SV}(hs:BW sl0 gs x=some s)(hm:x∈o.op.operands){y:E}(hy:BI hp0 gs Bb s=some y):
  ∃f,Rd c.w [a.eval x] [y.den c.ρ] f/\ ∀b∈f,c.gp (Cg hp0 gs (Bb+1) [s]) b:=Je h.eh h.gs Bb hy (h.dy hs hm) Bb (AB _)
theorem zK4(h:BB P c n nx sl hp a sl0 hp0 o gs){x:Operand}{t:TypeId}{cl:Call}(ho:o.op= .call cl)(AD:cl.callee= .builtin .len)(Dk:cl.args.toList=[x])(Eo:cl.argTypes.toList=[t])(he:B2 P sg sl0 hp0 nv nx gs o=some e)(hc:∀q∈e.dn,Cn.den c.ρ q):AJ P o c n nx sl hp gs a e:=by
 have Aj:cl.args= #[x]:=by apply Array.ext';simp[Dk]
 have Io:cl.argTypes= #[t]:=by apply Array.ext';simp[Eo]
 have hm:x∈o.op.operands:=by simp[ho,Op.operands,Call.operands,AD,Aj]
 simp only[B2,ho,AD,Dk,Eo,AA]at he;obtain⟨s,hs,he⟩:=he;unfold zM6 at he;have ex:(execOp a.eval o).run P c.w=((Builtin.len_ #[t] o.type #[a.eval x]).run P c.w).andThen λv w=> .ok (.value v) w:=by simp[execOp,ho,resolve,AD,Aj,Io,invoke,builtin]
 split at he
 ·rename_i el hu;obtain⟨y,hy,rfl⟩:=Aw.1 he;obtain⟨f,q1,q2⟩:=h.l7 hs hm hy;have hd:(y.den c.ρ).len≠ .undef:=Cl hc;cases BQ:y.den c.ρ<;>simp only[BQ,AV.len,ne_eq,not_true_eq_false]at hd;rename_i xs;have hl:(y.den c.ρ).len= .int .i64 (xs.length:Int):=by rw[BQ];rfl
  have Cs:FM .i64 (xs.length:Int):=by
   rw[Uq];rcases q1.kind with hh|hh|hh|hh|hh|hh|hh|hh|hh|hh
   all_goals first
    |(obtain⟨_,_,_,hh,_⟩:=hh;rw[BQ]at hh;cases hh;done)
    |(obtain⟨_,_,hh,_⟩:=hh;rw[BQ]at hh;cases hh;done)
    |skip
   ·obtain⟨_,_,_,hh,_⟩:=hh;rw[BQ]at hh;cases hh;simp[IntKind.min,IntKind.max,IntKind.signed,IntKind.bits]
   ·obtain⟨_,_,_,_,_,_,_,_,_,_,_,_,hh,_,_,_,hle,hlen,_⟩:=hh;rw[BQ]at hh;cases hh;simp[IntKind.min,IntKind.max,IntKind.signed,IntKind.bits];omega
   all_goals first
    |(obtain⟨_,_,_,hh,_⟩:=hh;rw[BQ]at hh;cases hh;done)
    |(obtain⟨_,_,_,_,_,_,_,hh,_⟩:=hh;rw[BQ]at hh;cases hh;done)
    |(obtain⟨_,_,_,_,hh,_⟩:=hh;rw[BQ]at hh;cases hh;done)
    |(obtain⟨_,hh,_⟩:=hh;rw[BQ]at hh;cases hh;done)
  refine AJ.pure h (v:= .int .i64 xs.length) ?_ (.ed (by simp only[E.den,BQ,AV.len];exact .int Cs .nil)) rfl;rcases Ue q1 hl with⟨p,q,hv,CF⟩|⟨b,o',k,q,hv,CF⟩
  ·rw[ex,hv,CF];simp[Builtin.len_,run_underlying hu,goInt]
  ·rw[ex,hv,CF];simp[Builtin.len_,run_underlying hu,goInt]
 ·rename_i hu;obtain⟨y,hy,rfl⟩:=Aw.1 he;obtain⟨f,q1,q2⟩:=h.l7 hs hm hy;have hd:(y.den c.ρ).slen≠ .undef:=Cl hc;cases BQ:y.den c.ρ<;>simp only[BQ,AV.slen,ne_eq,not_true_eq_false]at hd;obtain⟨bs,hv,rfl,hle⟩:=UL q1 BQ;refine AJ.pure h (v:= .int .i64 bs.size) ?_ (.ed ?_) rfl
  ·rw[ex,hv];simp[Builtin.len_,run_underlying hu,goInt]
  ·simp only[E.den,BQ,AV.slen];have:(bs.data.toList.length:Int)=(bs.size:Int):=by simp
   rw[this];refine .int ?_ .nil;rw[Uq];simp[IntKind.min,IntKind.max,IntKind.signed,IntKind.bits];omega
 ·cases he
theorem zCu(h:BB P c n nx sl hp a sl0 hp0 o gs){x:Operand}{src dst:TypeId}{k0 k:IntKind}(ho:o.op= .convert src dst x)(h1:P.underlying src=some (.int k0))(h2:P.underlying dst=some (.int k))(he:B2 P sg sl0 hp0 nv nx gs o=some e)(hc:∀q∈e.dn,Cn.den c.ρ q):AJ P o c n nx sl hp gs a e:=by
 have hm:x∈o.op.operands:=by simp[ho,Op.operands]
 simp only[B2,ho,AA]at he;obtain⟨s,hs,he⟩:=he;simp only[YF,h1,h2,Aw]at he;obtain⟨y,hy,rfl⟩:=he;obtain⟨f,q1,_⟩:=I9 (h.dy hs hm) hy;have hd:(y.den c.ρ).conv k≠ .undef:=Cl hc;cases BQ:y.den c.ρ<;>simp only[BQ,AV.conv,ne_eq,not_true_eq_false]at hd;rename_i k1 m;obtain⟨hv,_⟩:=Hd q1 BQ;exact AJ.pure h (v:= .int k (k.wrap m)) (by simp[execOp,ho,hv,convert,run_underlying h1,run_underlying h2,Conv.intToInt]) (.ed (by simp only[E.den,BQ,AV.conv];exact .int (zz5 _ _) .nil)) rfl
theorem zCd(h:BB P c n nx sl hp a sl0 hp0 o gs){x:Operand}{src dst:TypeId}(ho:o.op= .convert src dst x)(h1:P.underlying src=some .string)(h2:P.underlying dst=some .string)(he:B2 P sg sl0 hp0 nv nx gs o=some e)(hc:∀q∈e.dn,Cn.den c.ρ q):AJ P o c n nx sl hp gs a e:=by
 have hm:x∈o.op.operands:=by simp[ho,Op.operands]
 simp only[B2,ho,AA]at he;obtain⟨s,hs,he⟩:=he;simp only[YF,h1,h2,Aw]at he;obtain⟨y,hy,rfl⟩:=he;obtain⟨f,q1,_⟩:=I9 (h.dy hs hm) hy;have hd:(y.den c.ρ).slen≠ .undef:=Cl hc;cases hl:y.den c.ρ<;>simp only[hl,AV.slen,ne_eq,not_true_eq_false]at hd;obtain⟨bs,hv,hle,nM⟩:=UL q1 hl;exact AJ.pure h (v:= .string bs) (by simp[execOp,ho,hv,convert,run_underlying h1,run_underlying h2]) (.ed (by rw[hl,hle];exact Rd.str nM .nil)) rfl
theorem zM3{w:World}:∀{ys:List AV} {s:List UInt8} {cs:List Value} {f:List Nat},Oi ys=some s->Rd w cs (Az ys) f-> ∃ns:List Int,cs=ns.map (Value.int .u8)/\s=ns.map (λn=>UInt8.ofNat n.toNat)/\ns.length=ys.length
 | [],s,cs,f,h,hr=>by have:Az ([]:List AV)=[]:=rfl;rw[this]at hr;cases hr;cases h;exact⟨[],rfl,rfl,rfl⟩
 |y::ys,s,cs,f,h,hr=>by
  unfold Oi at h;split at h
  ·rename_i h0;cases h0
  ·rename_i n xs he;cases he;obtain⟨s',h1,rfl⟩:=Aw.1 h;have Er:Rd w cs (.int .u8 n::Az ys) f:=by simpa[Az,AV.cells]using hr
   cases Er with
   |int hk D6=>obtain⟨ns,rfl,rfl,hl⟩:=zM3 h1 D6;exact⟨n::ns,rfl,rfl,by simp[hl]⟩
  ·cases h
theorem zBx(h:BB P c n nx sl hp a sl0 hp0 o gs){x:Operand}{src dst el:TypeId}(ho:o.op= .convert src dst x)(h1:P.underlying src=some (.slice el))(h2:P.underlying dst=some .string)(he:B2 P sg sl0 hp0 nv nx gs o=some e)(hc:∀q∈e.dn,Cn.den c.ρ q):AJ P o c n nx sl hp gs a e:=by
 have hm:x∈o.op.operands:=by simp[ho,Op.operands]
 simp only[B2,ho,AA]at he;obtain⟨s,hs,he⟩:=he;simp only[YF,h1,h2]at he;split at he
 ·rename_i hu;obtain⟨y,hy,rfl⟩:=Aw.1 he;obtain⟨f,q1,q2⟩:=h.l7 hs hm hy;have hd:(y.den c.ρ).text≠ .undef:=Cl hc;cases BQ:y.den c.ρ<;>simp only[BQ,AV.text,ne_eq,not_true_eq_false]at hd;rename_i xs;split at hd
  ·rename_i t ht;split at hd
   ·rename_i hle;have CN:(E.text y).den c.ρ= .str t:=by
     simp only[E.den,BQ,AV.text,ht];rw[if_pos hle]
    have fin:∀ns:List Int,t=ns.map (λn=>UInt8.ofNat n.toNat)->ns.length=xs.length->(convert src dst (a.eval x)).run P c.w= .ok (.string (ns.foldl (λr n=>r.push (UInt8.ofNat n.toNat)) ByteArray.empty)) c.w->AJ P o c n nx sl hp gs a {dn:=[.dfd (.text y)],val:= .e (.text y)}:=λns e1 e2 e3=>by
     have e4:(ns.foldl (λr n=>r.push (UInt8.ofNat n.toNat)) ByteArray.empty)=⟨t.toArray⟩:=by
      rw[foldl_push_bytes,e1];simp[ByteArray.empty,ByteArray.emptyWithCapacity]
      try rfl
     rw[e4]at e3;refine AJ.pure h (v:= .string ⟨t.toArray⟩) (by simp[execOp,ho,e3]) (.ed ?_) rfl;rw[CN];have BJ:(ByteArray.mk t.toArray).size<=9223372036854775807:=by simp only[ByteArray.size,List.size_toArray];rw[e1,List.length_map];omega
     have:=Rd.str (w:=c.w) (s:=⟨t.toArray⟩) BJ .nil;simpa using this
    rw[BQ]at q1;rcases q1.kind with hh|hh|hh|hh|hh|hh|hh|hh|hh|hh
    all_goals first
     |(obtain⟨_,_,_,hh,_⟩:=hh;cases hh;done)
     |(obtain⟨_,_,hh,_⟩:=hh;cases hh;done)
     |skip
    ·obtain⟨p,q,hv,hx,_⟩:=hh;cases hx;cases ht;refine fin [] rfl rfl ?_;rw[hv];cases p with
     |none=>rw[run_convert_bytes_nil c.w src el h1 hu _ _ dst h2];rfl
     |some ad=>rw[run_convert_bytes_string c.w src dst el _ 0 q h1 hu h2,run_bytesToString c.w ad 0 q [] (by simp[loadCells,loadCellsFrom])]
    ·obtain⟨b,o',k,q,ys,cs,C,t',fz,sz,f1,hv,hx,_,hb,_,hle',hlen,_,_,BE,hr⟩:=hh;cases hx;obtain⟨ns,rfl,e1,e2⟩:=zM3 ht hr.2;refine fin ns e1 e2 ?_;have hl:ns.length=k:=by omega
     have Bw:∀i,i<k->c.w.cell? ⟨b,o'+i,none⟩=some (.int .u8 (ns.getD i 0)):=λi hi=>by
      have BT:i<ns.length:=by omega
      have:=BE i (.int .u8 ns[i]) (by simp[BT]);rw[EO hb,this];simp[BT]
     have:=run_convert_bytes_arg c.w src el h1 hu b o' k q ns hl Bw dst h2;rw[hv,this];congr 2;rw[foldl_push_bytes];simp[strOfNums,ByteArray.empty,ByteArray.emptyWithCapacity]
     try rfl
    all_goals first
     |(obtain⟨_,_,_,hh,_⟩:=hh;cases hh;done)
     |(obtain⟨_,_,_,_,_,_,_,hh,_⟩:=hh;cases hh;done)
     |(obtain⟨_,_,_,_,hh,_⟩:=hh;cases hh;done)
     |(obtain⟨_,hh,_⟩:=hh;cases hh;done)
   ·exact absurd rfl hd
  ·exact absurd rfl hd
 ·cases he
theorem zDf{ρ:List AV}{x:E}{b:Bool}{gs:Gd}(h1:x.den ρ= .bool b)(h2:Bu ρ gs):Bu ρ ((x,b)::gs):=by
 intro g hg;rcases Ag.1 hg with rfl|hg
 ·exact h1
 ·exact h2 g hg
theorem zHU(h:BB P c n nx sl hp a sl0 hp0 o gs){x y z:Operand}(ho:o.op= .pick x y z)(he:B2 P sg sl0 hp0 nv nx gs o=some e)(hc:∀q∈e.dn,Cn.den c.ρ q):AJ P o c n nx sl hp gs a e:=by
 have DL:x∈o.op.operands:=by simp[ho,Op.operands]
 have C7:y∈o.op.operands:=by simp[ho,Op.operands]
 have hm3:z∈o.op.operands:=by simp[ho,Op.operands]
 simp only[B2,ho,AA]at he;obtain⟨s,hs,he⟩:=he;have hr:=h.dy hs DL;split at he
 ·rename_i q;have ex:∀b,a.eval x= .bool b->(execOp a.eval o).run P c.w= .ok (.value (if b then a.eval y else a.eval z)) c.w:=λb hb=>by
   simp[execOp,ho,hb,asBool]
  obtain⟨f,q1⟩:∃f,Rd c.w [a.eval x] [q.den c.ρ] f:=by
   generalize a.eval x=v at hr;cases hr with
   |e h1 _ _=>exact⟨_,h1⟩
  unfold zJ2 at he;split at he
  ·obtain⟨s',A9,rfl⟩:=Aw.1 he;exact AJ.pure h (v:=a.eval y) (ex true (JO q1 rfl)) (h.dy A9 C7) rfl
  ·obtain⟨s',A9,rfl⟩:=Aw.1 he;exact AJ.pure h (v:=a.eval z) (ex false (JO q1 rfl)) (h.dy A9 hm3) rfl
  ·split at he
   ·rename_i y' z' hy hz;simp at he;subst he;simp only[AA]at hy hz;obtain⟨sy,hsy,hy⟩:=hy;obtain⟨sz,BJ,hz⟩:=hz;have hd:(q.den c.ρ).ie≠ .undef:=Cl hc;cases hq:q.den c.ρ<;>simp only[hq,AV.ie,ne_eq,not_true_eq_false]at hd;rename_i b;cases b with
    |true=>have r:=jB (a:=a) hsy (λt ht=>by subst ht;rw[h.sl t C7];exact h.rel.ee t) (zDf hq h.gs);obtain⟨f',g1,g2⟩:=I9 r hy;exact AJ.pure h (v:=a.eval y) (ex true (JO q1 hq)) (.e (f:=f') (by simpa[E.den,hq,AV.cond]using g1) g2 .nil) rfl
    |false=>have r:=jB (a:=a) BJ (λt ht=>by subst ht;rw[h.sl t hm3];exact h.rel.ee t) (zDf hq h.gs);obtain⟨f',g1,g2⟩:=I9 r hz;exact AJ.pure h (v:=a.eval z) (ex false (JO q1 hq)) (.e (f:=f') (by simpa[E.den,hq,AV.cond]using g1) g2 .nil) rfl
   ·cases he
 ·cases he
end
section
variable {P:Program} {c:Cx} {n nx:Nat} {sl sl0:Nat->SV} {hp hp0:Nat->Option Ai} {a:Act} {o:Oper} {gs:Gd} {e:Bf} {sg:BY} {nv:Nat}
theorem zrW{w:World}{v:Value}{x:AV}{f:List Nat}(h:Rd w [v] [x] f)(h1:∀cs,x≠ .agg cs)(h2:∀cs,x≠ .tup cs):v.oneCell'=true:=by
 cases h<;>first
  |rfl
  |exact absurd rfl (h1 _)
  |exact absurd rfl (h2 _)
theorem one_cells{v:Value}(h:v.oneCell'=true):v.cells= #[v]:=by cases v<;>first|rfl|(simp[Value.oneCell']at h)
theorem jU{t:TypeId}{s:SV}{v:Value}{cs:List SV}{ck:List Cn}(h:SR c [s] [v])(hc:Uo P t s=some (cs,ck))(hk:∀q∈ck,q.den c.ρ):
  SR c cs v.cells.toList/\(∀u∈v.cells.toList,u.oneCell'=true):=by
 unfold Uo at hc;split at hc
 ·split at hc
  ·simp at hc;obtain⟨rfl,rfl⟩:=hc;cases h with
   |agg h1 h2 _=>exact⟨by simpa[Value.cells]using h2,by simpa[Value.cells]using h1⟩
  ·rename_i x;simp at hc;obtain⟨rfl,rfl⟩:=hc;cases h with
   |e h1 h2 _=>
    obtain⟨as_,has,hl⟩:=Cl hk;obtain⟨vs,rfl,h3,h4⟩:=Kq h1 has;refine⟨?_,by simpa[Value.cells]using h3⟩;have hlen:=h4.len;have key:∀k,k<=as_.length->SR c ((List.range k).map λj=>SV.e (.fld x j 1 false)) (vs.take k):=by
     intro k
     induction k with
     |zero=>intro _;simpa using SR.nil
     |succ k ih=>
      intro hk;have Ce:k<as_.length:=by omega
      obtain⟨u,g,hu,hg,hr⟩:=h4.at (show as_[k]?=some as_[k] by simp[Ce])
      rw[List.range_succ,List.map_append,List.take_succ_eq_append_getElem (by omega)];refine(ih (by omega)).app ?_;have Ga:vs[k]'(by omega)=u:=by simpa[show k<vs.length by omega]using hu
      rw[Ga];exact .e (f:=g) (by simpa[E.den,AV.fld,has,AV.cells,Ce]using hr) (λb hb=>h2 b (hg b hb)) .nil
    have:=key as_.length (AB _);rw[<-hlen,List.take_length,hlen,hl]at this;simpa[Value.cells]using this
  ·cases hc
 ·split at hc
  ·rename_i x;simp at hc;obtain⟨rfl,rfl⟩:=hc;cases h with
   |e h1 h2 _=>
    have hq:(∀cs,x.den c.ρ≠ .agg cs)/\ ∀cs,x.den c.ρ≠ .tup cs:=by
     cases x<;>first
      |exact(Cl hk:Cn.den c.ρ (.cells _ 1))
      |exact⟨by simp[E.den],by simp[E.den]⟩
    have Hg:=zrW h1 hq.1 hq.2;rw[one_cells Hg];exact⟨.e h1 h2 .nil,by simpa using Hg⟩
  ·cases hc
  ·cases hc
  ·cases hc
  ·cases hc
  ·cases hc
  ·cases hc
  ·cases hc
  ·cases hc
  ·simp at hc;obtain⟨rfl,rfl⟩:=hc;have Hg:v.oneCell'=true:=by
    cases h<;>first|rfl|(rename_i hh _ _ _ _ _;exact absurd rfl (hh _))|skip
    all_goals first
     |rfl
     |exact(show∀(i:Nat),SV.lent _=SV.lent i->False from by assumption) _ rfl|>.elim
     |exact(show∀(t g n:Nat) (p:Pk) (x:E),SV.via _ _ _ _ _=SV.via t g n p x->False from by assumption) _ _ _ _ _ rfl|>.elim
     |exact(show∀(t g n:Nat) (p:Pk) (x i:E) (sz o:Nat),SV.vptr _ _ _ _ _ _ _ _=SV.vptr t g n p x i sz o->False from by assumption) _ _ _ _ _ _ _ _ rfl|>.elim
     |(exfalso;simp_all;done)
   rw[one_cells Hg];exact⟨h,by simpa using Hg⟩
theorem zP0(h:BB P c n nx sl hp a sl0 hp0 o gs)(ob:Obj)(hv:Value):Ql c (c.new nx ob hv []) nx:=
 ⟨rfl,rfl,rfl,rfl,λt ht=>ht.imp id (λhh=>by subst hh;exact⟨AB _,by simp[B1]⟩)⟩
theorem O5(h:BB P c n nx sl hp a sl0 hp0 o gs): ¬c.U nx:=h.new nx (AB _) (by omega)
theorem AJ.box(h:BB P c n nx sl hp a sl0 hp0 o gs){ty:TypeId}{g:Bool}{cs:List SV}{v:Value}{ck:List Cn}(hr:(execOp a.eval o).run P c.w= .ok (.value (.pointer (some ⟨c.w.heap.size,0,none⟩))) (c.w.alloc (.cells v.cells ty)))
  (hs:SR c cs v.cells.toList) (h1:∀u∈v.cells.toList,u.oneCell'=true):AJ P o c n nx sl hp gs a {dn:=ck,val:= .dq nx 0,cx:=[(nx,Dg gs (.box ty g cs))]}:=by
 intro next Q hk
 unfold Oper.wp;rw[hr,Oper.upon_value];have hU:=O5 h;have keep:Ev c (c.new nx (.cells v.cells ty) (.pointer (some ⟨c.w.heap.size,0,none⟩)) []):=Cx.jj (λg hg=>hU (h.rel.de _ _ hg));have hH:(c.new nx (.cells v.cells ty) (.pointer (some ⟨c.w.heap.size,0,none⟩)) []).H nx 0= .pointer (some ⟨c.w.heap.size,0,none⟩):=by simp[Cx.new]
 have hK:(c.new nx (.cells v.cells ty) (.pointer (some ⟨c.w.heap.size,0,none⟩)) []).K nx 0:= .inr ⟨rfl,rfl⟩;have hrel:=h.rel.new hU (.cells v.cells ty) (.pointer (some ⟨c.w.heap.size,0,none⟩)) (.box ty g cs) gs h.gs (by intros;simp)
  ⟨c.w.heap.size,v.cells,hK,hH,by simp[Cx.new],by simp[Cx.new],heap_alloc_new _ _,h1,hs.keep keep⟩
 exact hk _ _ (zP0 h _ _) (hrel.put ((SR.dq hK hH .nil).mkGd gs h.gs) o.dst)
theorem zGD(h:BB P c n nx sl hp a sl0 hp0 o gs){t:TypeId}(ho:o.op= .alloc t)(he:B2 P sg sl0 hp0 nv nx gs o=some e)(hc:∀q∈e.dn,Cn.den c.ρ q):AJ P o c n nx sl hp gs a e:=by
 simp only[B2,ho,AA]at he;obtain⟨z,⟨i,hi,hz⟩,s,hs,⟨cs,ck⟩,BE,he⟩:=he;split at he
 ·cases he
 ·split at he
  ·cases he
  ·rename_i KG;have KG:ck=[]:=by simpa using KG
   simp at he;subst he;have A9:F1 z=some s:=by simpa[zNh,hi,hz]using hs
   obtain⟨q1,q2⟩:=jU (jY (c:=c) A9) BE (by simp[KG]);refine AJ.box h (v:=z) ?_ q1 q2;simp[execOp,ho,Instr.alloc,zeroValue,typeInfo,hi,hz,newVar,newRow]
theorem zMr(h:BB P c n nx sl hp a sl0 hp0 o gs){t:TypeId}{x:Operand}(ho:o.op= .box t x)(he:B2 P sg sl0 hp0 nv nx gs o=some e)(hc:∀q∈e.dn,Cn.den c.ρ q):AJ P o c n nx sl hp gs a e:=by
 have hm:x∈o.op.operands:=by simp[ho,Op.operands]
 simp only[B2,ho,AA]at he;obtain⟨s,hs,⟨cs,ck⟩,BE,he⟩:=he;split at he
 ·cases he
 ·simp at he;subst he;obtain⟨q1,q2⟩:=jU (h.dy hs hm) BE hc;refine AJ.box h (v:=a.eval x) ?_ q1 q2;simp[execOp,ho,Instr.box,newVar,newRow]
end
section
variable {P:Program} {c:Cx} {n nx:Nat} {sl sl0:Nat->SV} {hp hp0:Nat->Option Ai} {a:Act} {o:Oper} {gs:Gd} {e:Bf} {sg:BY} {nv:Nat}
def setVs{α:Type}(cs:List α)(o:Nat)(vs:List α):List α:=cs.take o++vs++cs.drop (o+vs.length)
theorem T7{α:Type}(cs vs:List α)(o:Nat)(h:o+vs.length<=cs.length)(i:Nat):(setVs cs o vs)[i]?=if o<=i/\i<o+vs.length then vs[i-o]? else cs[i]?:=by
 unfold setVs;have ht:(cs.take o).length=o:=by rw[AE];omega
 rw[List.append_assoc];by_cases h1:i<o
 ·rw[if_neg (by omega),List.getElem?_append_left (by omega),List.getElem?_take,if_pos h1]
 ·rw[List.getElem?_append_right (by omega),ht];by_cases h2:i<o+vs.length
  ·rw[if_pos (by omega),List.getElem?_append_left (by omega)]
  ·rw[if_neg (by omega),List.getElem?_append_right (by omega),List.getElem?_drop];congr 1;omega
theorem Yk{α:Type}(cs vs:List α)(o:Nat)(h:o+vs.length<=cs.length):(setVs cs o vs).length=cs.length:=by simp[setVs];omega
theorem SR.setVs{cs vs:List SV}{C V:List Value}{k:Nat}(h:SR c cs C)(hv:SR c vs V):SR c (RD cs k vs) (Go.Proofs.YtlmjpjceiefpoaaGreatDoor.setVs C k V):=by unfold RD Go.Proofs.YtlmjpjceiefpoaaGreatDoor.setVs;have hl:=hv.len;rw[<-hl];exact((h.split k).1.app hv).app (h.split _).2
theorem zGc(vs:List Value):∀(k off:Nat) (C:Array Value),off+k+vs.length<=C.size->
  ((vs.zipIdx k).foldl (λcs (p:Value × Nat)=>cs.setIfInBounds (off+p.2) p.1) C).toList=setVs C.toList (off+k) vs:=by
 induction vs with
 |nil=>intro k off C _;simp[setVs]
 |cons v vs ih=>
  intro k off C h;simp only[AH]at h;simp only[List.zipIdx_cons,List.foldl_cons];rw[ih (k+1) off _ (by simp;omega)];apply List.ext_getElem?;intro i;rw[T7 _ _ _ (by simp;omega),T7 _ _ _ (by simp;omega)];simp only[Array.toList_setIfInBounds,List.getElem?_set,AH,BF];by_cases h1:i=off+k
  ·subst h1;rw[if_neg (by omega),if_pos rfl,if_pos (by omega),if_pos (by omega)];simp
  ·by_cases h2:off+(k+1)<=i/\i<off+(k+1)+vs.length
   ·rw[if_pos h2,if_pos (by omega),show i-(off+k)=(i-(off+(k+1)))+1 by omega,List.getElem?_cons_succ]
   ·rw[if_neg h2,if_neg (by omega),if_neg (by omega)]
theorem zuW{b off:Nat}{t:TypeId}:∀(vs:List Value) (i:Nat) (w:World) (C:Array Value),w.heap[b]?=some (.cells C t (0,0))->off+i+vs.length<=C.size->(∀v∈vs,v.oneCell'=true)->
  (storeCells ⟨b,off,none⟩ vs i).run P w= .ok () (putCells w b (off+i) vs)
 | [],i,w,C,_,_,_=>by simp[storeCells,putCells]
 |v::vs,i,w,C,hb,hl,h1=>by
  simp only[AH]at hl;have hi:off+i<C.size:=by omega
  have Bw:w.cell? ⟨b,off+i,none⟩=some C[off+i]:=by simp[World.cell?,hb,hi]
  have mT:w.frozen? ⟨b,off+i,none⟩=false:=by simp[World.frozen?,hb]
  have FG:(store ((⟨b,off,none⟩:Addr).add i) v).run P w= .ok () (w.setCell ⟨b,off+i,none⟩ v):=by rw[Addr.add_lit,run_store P w _ v _ (h1 v (by simp)),Bw];simp[mT]
  have h2:=heap_setCell_same w b (off+i) C t v hb;have ih:=zuW (off:=off) vs (i+1) (w.setCell ⟨b,off+i,none⟩ v) _ h2 (by simp;omega) (λx hx=>h1 x (by simp[hx]));simp only[storeCells,Sem.run_bind,FG,Result.andThen_ok,ih,putCells];rw[Nat.add_assoc]
theorem yI{w:World}{b off:Nat}{t:TypeId}{vs:List Value}{C:Array Value}(hb:w.heap[b]?=some (.cells C t (0,0)))(hl:off+vs.length<=C.size):
  Mod [b] w (putCells w b off vs)/\(putCells w b off vs).heap[b]?=some (.cells (setVs C.toList off vs).toArray t (0,0))/\(putCells w b off vs).heap.size=w.heap.size:=by
 obtain⟨hm,C',h1,h2,h3,h4⟩:=zV vs w b off C t hb hl;refine⟨hm,?_,?_⟩
 ·rw[h1];congr 2;apply Array.ext';apply List.ext_getElem?;intro i;rw[T7 _ _ _ (by simpa using hl)];by_cases hi:off<=i/\i<off+vs.length
  ·rw[if_pos hi];have AP:i-off<vs.length:=by omega
   have:=h3 (i-off) vs[i-off] (by simp[AP]);rw[show off+(i-off)=i by omega]at this;rw[Array.getElem?_toList,this];simp[AP]
  ·rw[if_neg hi,Array.getElem?_toList,Array.getElem?_toList];exact h4 i (by omega)
 ·clear hm h1 h2 h3 h4 hl
  induction vs generalizing w off C with
  |nil=>rfl
  |cons v vs ih=>simp only[putCells];rw[ih (heap_setCell_same w b off C t v hb)];simp[World.setCell]
theorem zrV{w:World}{b off:Nat}{t ty:TypeId}{v:Value}{C:Array Value}(hb:w.heap[b]?=some (.cells C ty (0,0)))(ht:DV P t=true)(hs:v.cells.size=P.cellsOf t)(hl:off+v.cells.size<=C.size)(h1:∀u∈v.cells.toList,u.oneCell'=true):
  (Instr.storeAt t (.pointer (some ⟨b,off,none⟩)) v).run P w= .ok () (putCells w b off v.cells.toList):=by
 have:=zuW (P:=P) (off:=off) v.cells.toList 0 w C hb (by simpa using hl) h1;simp only[Nat.add_zero]at this;simp[Instr.storeAt,Instr.sureAddr,storeVar,QP ht,hs,this]
def Cx.wr(c:Cx)(w':World)(t:Nat):Cx:={c with w:=w',E:=λu=>if u=t then c.E u+1 else c.E u}
theorem Cx.j9{c:Cx}{w':World}{t b:Nat}(gw:GW c)(Ct:b∈(c.G t).top)(hm:Mod [b] c.w w'):Ev c (c.wr w' t):=by
 have Bj:b∈(c.G t).own:=by simp[GI.own,Ct]
 refine⟨rfl,rfl,λq _ hq=>hq,λq hq A3=>hm.block q hq ?_,λu g hu=>⟨hu,rfl⟩,λu g hu=> ?_⟩
 ·simp only[List.mem_singleton];rintro rfl;exact A3.1 ⟨t,Ct⟩
 ·by_cases Hq:u=t
  ·have e1:(c.wr w' t).E u=c.E u+1:=by simp only[Cx.wr,if_pos Hq]
   exact⟨by omega,λh=>by omega⟩
  ·have e1:(c.wr w' t).E u=c.E u:=by simp only[Cx.wr,if_neg Hq]
   rw[e1];refine⟨AB _,λ_=>⟨rfl,λq hq IX=>hm.block q IX ?_⟩⟩;simp only[List.mem_singleton];rintro rfl;exact gw.dt t u (Ne.symm Hq) q Bj (by simp[GI.own,hq])
theorem Rel.write(h:Rel c n sl hp a){t:Nat}{e0:Ai}{b:Nat}{w':World}(A1:C3 c.ρ (hp t) e0)(Ct:b∈(c.G t).top)(hm:Mod [b] c.w w')(BJ:w'.heap.size=c.w.heap.size)(e1:Ai)(BU:∀hs f,e1≠ .gd hs f)
  (he:DH (c.wr w' t) t e1):Rel (c.wr w' t) n sl (Bq hp [(t,e1)]) a/\Ev c (c.wr w' t):=by
 have Bj:b∈(c.G t).own:=by simp[GI.own,Ct]
 have Cm:Ev c (c.wr w' t):=Cx.j9 h.gw Ct hm;have Ff:∀u,Bq hp [(t,e1)] u=if u=t then some e1 else hp u:=λu=>rfl;refine⟨h.change (λu=>u=t) Cm ⟨hm.os.trans h.base.os,hm.tape.trans h.base.tape,hm.output.trans h.base.output,Nat.le_trans h.base.size hm.size,h.base.pins,λq hq GK=> ?_,h.base.pk,h.base.lo⟩
  (λu hu=>⟨by rw[Ff,if_neg hu],rfl,by simp[Cx.wr,hu],λg hg=>hg⟩) (λu hu q hq=>hm.block q (h.gw.inb u q (by simp[GI.own,hq])) ?_) (λu hu=> ?_) ⟨h.gw.nodup,h.gw.dt,h.gw.allow,λu q hq=> ?_⟩ h.de (λu f hf=> ?_),Cm⟩
 ·refine(hm.block q (Nat.lt_of_lt_of_le hq h.base.size) ?_).trans (h.base.block q hq GK);simp only[List.mem_singleton];rintro rfl;rcases h.gw.allow t q Bj with hh|hh
  ·exact absurd hh (Nat.not_le.2 hq)
  ·exact GK hh
 ·simp only[List.mem_singleton];rintro rfl;exact h.gw.dt t u (Ne.symm hu) q Bj (by simp[GI.own,hq])
 ·subst hu;rw[Ff,if_pos rfl];refine⟨λe' hr=> ?_,λhn=> ?_⟩
  ·cases e1<;>first
    |(simp only[C3]at hr;subst hr;exact he)
    |exact absurd rfl (BU _ _)
  ·cases e1<;>first
    |exact absurd rfl (BU _ _)
    |exact absurd rfl (hn _)
 ·show q<w'.heap.size;rw[BJ];exact h.gw.inb u q hq
 ·rw[Ff]at hf;split at hf
  ·rename_i hu;subst hu;cases hh:hp u with
   |none=>rw[hh]at A1;exact A1.elim
   |some e9=>exact h.dv u e9 hh
  ·exact h.dv u f hf
end
section
variable {P:Program} {c:Cx} {n nx:Nat} {sl sl0:Nat->SV} {hp hp0:Nat->Option Ai} {a:Act} {o:Oper} {gs:Gd} {e:Bf} {sg:BY} {nv:Nat}
theorem zBJ(h:BB P c n nx sl hp a sl0 hp0 o gs){t:TypeId}{x y:Operand}(ho:o.op= .store t x y){b k:Nat}{s:SV}(hx:BW sl0 gs x=some (.dq b k))(hy:BW sl0 gs y=some s)
  (he:O8 P hp0 gs t (.dq b k) s=some e) (hc:∀q∈e.dn,Cn.den c.ρ q):AJ P o c n nx sl hp gs a e:=by
 have r1:=h.dy hx (by simp[ho,Op.operands]);have r2:=h.dy hy (by simp[ho,Op.operands]);simp only[O8]at he;split at he
 ·rename_i ty g cs vs ck hl BE;split at he
  ·rename_i hh;obtain⟨BC,hlen,hle,rfl⟩:=hh;simp at he;subst he;obtain⟨q1,q2⟩:=jU r2 BE hc;generalize hv:a.eval x=v at r1;cases r1 with
   |dq h1 h2 h3=>
    rename_i q;have FT:=Df hl h.gs;obtain⟨q',C,e1,e2,e3,e4,e5,e5',e6⟩:=h.eh b _ FT;rw[h2]at e2;cases e2;have A1:C3 c.ρ (hp b) (.box ty g cs):=by
     cases hh:hp0 b with
     |none=>rw[hh]at FT;exact FT.elim
     |some e9=>rw[h.hp b e9 hh];rwa[hh]at FT
    have Vt:=e6.len;have nL:=q1.len;obtain⟨m1,m2,m3⟩:=yI (vs:=(a.eval y).cells.toList) e5 (show k+_<=C.size by simp at Vt nL ⊢;omega);obtain⟨hrel,Cm⟩:=h.rel.write A1 (by rw[e3];simp) m1 m3 (.box ty g (RD cs k vs)) (by intros;simp) (w':=putCells c.w q k (a.eval y).cells.toList) (by
     have Ce:Ev c (c.wr (putCells c.w q k (a.eval y).cells.toList) b):=Cx.j9 h.rel.gw (by rw[e3];simp) m1;refine⟨q,_,e1,h2,e3,e4,m2,?_,?_⟩
     ·intro u hu;simp only[List.toList_toArray]at hu;unfold setVs at hu;simp only[Ae]at hu;rcases hu with(hu|hu)|hu
      ·exact e5' u (BD hu)
      ·exact q2 u hu
      ·exact e5' u (BR hu)
     ·simpa using(e6.setVs q1 (k:=k)).keep Ce)
    intro next Q hk
    unfold Oper.wp;have hr:(execOp a.eval o).run P c.w= .ok .skip (putCells c.w q k (a.eval y).cells.toList):=by have:=zrV (P:=P) (t:=t) (v:=a.eval y) (off:=k) e5 BC (by simp at nL;omega) (by simp at Vt nL;omega) q2;simp[execOp,ho,hv,this]
    rw[hr,Oper.upon_skip];exact hk _ (c.wr (putCells c.w q k (a.eval y).cells.toList) b) ⟨rfl,rfl,rfl,rfl,λt ht=> .inl ht⟩ (hrel.put ((SR.undef .nil).mkGd []) o.dst)
  ·cases he
 ·cases he
theorem zFQ{places:List (Nat × Nat)}{tys:List TypeId}:∀(ps:List (Nat × SV)) (vs:List (Nat × Value)) (cs:List SV) (C:Array Value) (r:List SV × List Cn),WD P places tys ps cs=some r->(∀q∈r.2,q.den c.ρ)->
  ps.map (·.1)=vs.map (·.1)->SR c (ps.map (·.2)) (vs.map (·.2))->SR c cs C.toList->(∀u∈C.toList,u.oneCell'=true)->
  ∃C',Instr.fill (places.toArray[·]?) C vs=some C'/\SR c r.1 C'.toList/\ ∀u∈C'.toList,u.oneCell'=true
 | [],vs,cs,C,r,h,hk,he,_,hC,h1=>by
  have:vs=[]:=by simpa using he.symm
  subst this;simp[WD]at h;subst h;exact⟨C,rfl,hC,h1⟩
 |(i,s)::ps,[],cs,C,r,h,hk,he,_,hC,h1=>by simp at he
 |(i,s)::ps,(j,v)::vs,cs,C,r,h,hk,he,hs,hC,h1=>by
  simp only[List.map_cons,List.cons.injEq]at he;obtain⟨rfl,he⟩:=he;simp only[List.map_cons]at hs;obtain⟨BO,Bd⟩:=hs.dh;unfold WD at h;split at h
  ·rename_i off sz t GU BC;split at h
   ·rename_i us ck BE;split at h
    ·rename_i hh;obtain⟨BJ,hle⟩:=hh;obtain⟨r',Er,rfl⟩:=Aw.1 h;obtain⟨q1,q2⟩:=jU BO BE (λq hq=>hk q (by simp[hq]));have KR:=q1.len;have Ig:=hC.len;have NQ:(v.cells.zipIdx.foldl (λcs (p:Value × Nat)=>cs.setIfInBounds (off+p.2) p.1) C).toList=setVs C.toList off v.cells.toList:=by
      have:=zGc v.cells.toList 0 off C (by simp at KR Ig ⊢;omega);rw[<-Array.foldl_toList,Array.toList_zipIdx];simpa using this
     obtain⟨C',g1,g2,g3⟩:=zFQ ps vs (RD cs off us) (v.cells.zipIdx.foldl (λcs (p:Value × Nat)=>cs.setIfInBounds (off+p.2) p.1) C) r' Er (λq hq=>hk q (by simp[hq])) he Bd (by rw[NQ];exact hC.setVs q1) (by
      rw[NQ];intro u hu;unfold setVs at hu;simp only[Ae]at hu;rcases hu with(hu|hu)|hu
      ·exact h1 u (BD hu)
      ·exact q2 u hu
      ·exact h1 u (BR hu))
     refine⟨C',?_,g2,g3⟩;unfold Instr.fill;have oD:places.toArray[i]?=some (off,sz):=by simpa using GU
     simp only[oD];rw[if_neg (by simp at KR Ig ⊢;omega)];exact g1
    ·cases h
   ·cases h
  ·cases h
theorem jT{sl0:Nat->SV}{gs:Gd}(L:List Operand)(h:∀x s,BW sl0 gs x=some s->x∈L->SR c [s] [a.eval x]):∀{xs:List (Nat × Operand)} {ss:List (Nat × SV)},(∀x∈xs,x.2∈L)->xs.mapM (λ(p:Nat × Operand)=>(BW sl0 gs p.2).map λs=>(p.1,s))=some ss->
  ss.map (·.1)=xs.map (·.1)/\SR c (ss.map (·.2)) (xs.map λp=>a.eval p.2)
 | [],ss,_,hm=>by simp at hm;subst hm;exact⟨rfl, .nil⟩
 |x::xs,ss,hL,hm=>by rw[List.mapM_cons]at hm;simp only[Option.bind_eq_bind,AA,Aw]at hm;obtain⟨_,⟨s,hs,rfl⟩,ss',GV,hm⟩:=hm;simp at hm;subst hm;obtain⟨e1,e2⟩:=jT L h (λy hy=>hL y (by simp[hy])) GV;exact⟨by simp[e1],(h _ s hs (hL x (by simp))).app e2⟩
theorem zG4(h:BB P c n nx sl hp a sl0 hp0 o gs){t:TypeId}{parts:Array (Nat × Operand)}(ho:o.op= .build t parts)(he:B2 P sg sl0 hp0 nv nx gs o=some e)(hc:∀q∈e.dn,Cn.den c.ρ q):AJ P o c n nx sl hp gs a e:=by
 simp only[B2,ho,AA]at he;obtain⟨ps,N5,he⟩:=he;obtain⟨e1,e2⟩:=jT (c:=c) (a:=a) (parts.toList.map (·.2)) (λx s hx hm=>h.dy hx (by simpa[ho,Op.operands]using hm)) (λx hx=>List.mem_map.2 ⟨x,hx,rfl⟩) N5;unfold zF8 at he;split at he
 ·rename_i it fs hit hu;split at he
  ·rename_i zs places hz GU;obtain⟨r,hr,rfl⟩:=Aw.1 he;obtain⟨z,Zo,Zp⟩:=AA.1 hz;have hzr:=jY (c:=c) Zp;obtain⟨cells,g1,g2,g3⟩:=zFQ (c:=c) (P:=P) ps (parts.toList.map λp=>(p.1,a.eval p.2)) zs.toList z.cells r hr hc (by rw[e1];simp) (by rw[List.map_map];exact e2)
    (by cases hzr with|agg h1 h2 _=>simpa[Value.cells]using h2) (by cases hzr with|agg h1 h2 _=>simpa[Value.cells]using h1)
   have hb:P.built t (parts.map λ(x:Nat × Operand)=>(x.1,a.eval x.2)).toList=some cells:=by simp only[Program.built,hit,hu,Zo,GU];simpa using g1
   have:=SR.agg (c:=c) (cs:=BS.of r.1) (as_:=cells.toList) g3 (by rw[BS.ax];exact g2) .nil;refine AJ.pure h (v:= .agg cells) ?_ (by simpa using this) rfl;have A6:=run_build c.w t _ cells hb;simp only[execOp,ho,Sem.run_bind];rw[A6];rfl
  ·cases he
 ·cases he
end
section
variable {P:Program} {c:Cx} {n nx:Nat} {sl sl0:Nat->SV} {hp hp0:Nat->Option Ai} {a:Act} {o:Oper} {gs:Gd} {e:Bf} {sg:BY} {nv:Nat}
def Cx.da(c:Cx)(ts:List Nat):Cx:={c with G:=λu=>if u∈ts then⟨[],[]⟩else c.G u,E:=λu=>if u∈ts then c.E u+1 else c.E u}
theorem Cx.kz{c:Cx}{ts:List Nat}{b:Nat}(h:(c.da ts).M b):∃u,u∉ts/\b∈(c.G u).top:=by
 obtain⟨u,hu⟩:=h;simp only[Cx.da]at hu;split at hu
 ·simp at hu
 ·exact⟨u,by assumption,hu⟩
theorem Cx.ia{c:Cx}{ts:List Nat}{b:Nat}(h:c.ok b):(c.da ts).ok b:=⟨λhm=>by obtain⟨u,_,hu⟩:=Cx.kz hm;exact h.1 ⟨u,hu⟩,h.2⟩
theorem Cx.lr(c:Cx)(ts:List Nat):Ev c (c.da ts):=⟨rfl,rfl,λ_ _ h=>Cx.ia h,λ_ _ _=>rfl,λ_ _ h=>⟨h,rfl⟩,λt g _=>by
 by_cases ht:t∈ts
 ·have e1:(c.da ts).E t=c.E t+1:=by simp only[Cx.da,if_pos ht]
  exact⟨by omega,λh=>by omega⟩
 ·have e1:(c.da ts).E t=c.E t:=by simp only[Cx.da,if_neg ht]
  have e2:(c.da ts).G t=c.G t:=by simp only[Cx.da,if_neg ht]
  rw[e1];exact⟨AB _,λ_=>⟨e2,λ_ _ _=>rfl⟩⟩⟩
theorem zHM{c:Cx}(gw:GW c){ts us:List Nat}(hs:∀t∈us,t∈ts){b:Nat}(h:c.gp us b):(c.da ts).ok b:=by
 rcases h with h|⟨t,ht,hb⟩
 ·exact Cx.ia h
 ·have Bj:b∈(c.G t).own:=by simp[GI.own,hb]
  refine⟨λhm=> ?_, .inr (gw.allow t b Bj)⟩;obtain⟨u,hu,Jv⟩:=Cx.kz hm;have:t≠u:=λhh=>hu (hh▸hs t ht);exact gw.dt t u this b Bj (by simp[GI.own,Jv])
def Nw(e:Ai)(g:Nat)(x:E):Prop:=(∃ety sz d,e= .row ety sz g x d)\/ ∃ety sz l ep,e= .deep ety sz l g ep x
theorem Nw.ne{e:Ai}{g:Nat}{x:E}(h:Nw e g x):∀hs f,e≠ .gd hs f:=by rcases h with⟨_,_,_,rfl⟩|⟨_,_,_,_,rfl⟩<;>intros<;>simp
theorem Nw.rd{e:Ai}{g t:Nat}{x:E}(h:Nw e g x)(k:DH c t e):c.K t g/\ ∃f,Rd c.w [c.H t g] [x.den c.ρ] f/\ ∀b∈f,b∈(c.G t).top\/c.ok b:=by
 rcases h with⟨_,_,_,rfl⟩|⟨_,_,_,_,rfl⟩
 ·obtain⟨q1,q2,N,q3,q4,_⟩:=k;obtain⟨f,r1,r2,_⟩:=q3.rd;exact⟨q1,f,r1,λb hb=>(r2 b hb).imp id (q4 b)⟩
 ·obtain⟨q1,q2,_,q3,_⟩:=k;obtain⟨f,r1,r2⟩:=q3.rd;exact⟨q1,f,r1,λb hb=> .inl (r2 b hb)⟩
theorem Nw.fun{e:Ai}{g g':Nat}{x x':E}(h:Nw e g x)(k:Nw e g' x'):g=g'/\x=x':=by rcases h with⟨_,_,_,rfl⟩|⟨_,_,_,_,rfl⟩<;>rcases k with⟨_,_,_,hh⟩|⟨_,_,_,_,hh⟩<;>cases hh<;>exact⟨rfl,rfl⟩
theorem QI{gs:Gd}{ρ:List AV}(k:Bu ρ gs):∀{ts:List Nat} {l:List (Nat × Ai)},Eg hp0 gs ts=some l->
  (∀t e,(t,e)∈l->t∈ts/\gs=[]/\ ∃g x f,e= .da g x/\C3 ρ (hp0 t) f/\Nw f g x)/\
  (∀t∈ts,(∃g x,(t,Ai.da g x)∈l)\/(∃g x,C3 ρ (hp0 t) (.da g x))\/ ∃ty g cs,C3 ρ (hp0 t) (.box ty g cs))
 | [],l,h=>by simp[Eg]at h;subst h;simp
 |t::ts,l,h=>by
  unfold Eg at h;split at h
  ·rename_i ety sz g x d l' hl BP;split at h
   ·rename_i hg;simp at h;subst h;obtain⟨h1,h2⟩:=QI k BP;refine⟨λu e hu=> ?_,λu hu=> ?_⟩
    ·rcases Ag.1 hu with hu|hu
     ·cases hu;exact⟨by simp,by simpa using hg,g,x,_,rfl,Df hl k, .inl ⟨_,_,_,rfl⟩⟩
     ·obtain⟨p,q,r⟩:=h1 u e hu;exact⟨by simp[p],q,r⟩
    ·rcases Ag.1 hu with rfl|hu
     ·exact .inl ⟨g,x,by simp⟩
     ·rcases h2 u hu with⟨g',x',hh⟩|hh
      ·exact .inl ⟨g',x',by simp[hh]⟩
      ·exact .inr hh
   ·cases h
  ·rename_i ety sz dl g ep x l' hl BP;split at h
   ·rename_i hg;simp at h;subst h;obtain⟨h1,h2⟩:=QI k BP;refine⟨λu e hu=> ?_,λu hu=> ?_⟩
    ·rcases Ag.1 hu with hu|hu
     ·cases hu;exact⟨by simp,by simpa using hg,g,x,_,rfl,Df hl k, .inr ⟨_,_,_,_,rfl⟩⟩
     ·obtain⟨p,q,r⟩:=h1 u e hu;exact⟨by simp[p],q,r⟩
    ·rcases Ag.1 hu with rfl|hu
     ·exact .inl ⟨g,x,by simp⟩
     ·rcases h2 u hu with⟨g',x',hh⟩|hh
      ·exact .inl ⟨g',x',by simp[hh]⟩
      ·exact .inr hh
   ·cases h
  ·rename_i g x l' hl BP;simp at h;subst h;obtain⟨h1,h2⟩:=QI k BP;refine⟨λu e hu=> ?_,λu hu=> ?_⟩
   ·obtain⟨p,q,r⟩:=h1 u e hu;exact⟨by simp[p],q,r⟩
   ·rcases Ag.1 hu with rfl|hu
    ·exact .inr (.inl ⟨g,x,Df hl k⟩)
    ·exact h2 u hu
  ·rename_i ty g cs l' hl BP;simp at h;subst h;obtain⟨h1,h2⟩:=QI k BP;refine⟨λu e hu=> ?_,λu hu=> ?_⟩
   ·obtain⟨p,q,r⟩:=h1 u e hu;exact⟨by simp[p],q,r⟩
   ·rcases Ag.1 hu with rfl|hu
    ·exact .inr (.inr ⟨ty,g,cs,Df hl k⟩)
    ·exact h2 u hu
  ·cases h
theorem Nj{hp:Nat->Option Ai}:∀{l:List (Nat × Ai)} {t:Nat},(∀e,(t,e)∉l)->Bq hp l t=hp t
 | [],_,_=>rfl
 |(u,e)::l,t,h=>by
  have ht:t≠u:=by rintro rfl;exact h e (by simp)
  have:=Nj (hp:=λv=>if v=u then some e else hp v) (l:=l) (t:=t) (λe' Fp=>h e' (by simp[Fp]));simp only[Bq,List.foldl_cons]at this ⊢;rw[this,if_neg ht]
theorem qI{hp:Nat->Option Ai}:∀{l:List (Nat × Ai)} {t:Nat} {e:Ai},(t,e)∈l->(∀e',(t,e')∈l->e'=e)->Bq hp l t=some e
 | [],_,_,h,_=>by simp at h
 |(u,f)::l,t,e,h,hu=>by
  simp only[Bq,List.foldl_cons];by_cases hm:∃e',(t,e')∈l
  ·obtain⟨e',Fp⟩:=hm;have:=hu e' (by simp[Fp]);subst this;exact qI (hp:=λv=>if v=u then some f else hp v) Fp (λe'' h''=>hu e'' (by simp[h'']))
  ·have hn:∀e',(t,e')∉l:=λe' Fp=>hm ⟨e',Fp⟩;have:=Nj (hp:=λv=>if v=u then some f else hp v) (l:=l) (t:=t) hn;simp only[Bq]at this;rw[this];rcases Ag.1 h with h|h
   ·cases h;simp
   ·exact absurd h (hn e)
theorem Pa(hs:∀t e,hp0 t=some e->hp t=some e){ρ:List AV}{t:Nat}{e:Ai}(h:C3 ρ (hp0 t) e):C3 ρ (hp t) e:=by
 cases hh:hp0 t with
 |none=>rw[hh]at h;exact h.elim
 |some e9=>rw[hs t e9 hh];rwa[hh]at h
theorem zNP{ρ:List AV}{o:Option Ai}{e f:Ai}(h:C3 ρ o e)(k:C3 ρ o f):e=f:=by
 cases o with
 |none=>exact h.elim
 |some o=>
  cases o with
  |gd gs x=>exact h.2.symm.trans k.2
  |box=>exact h.symm.trans k
  |row=>exact h.symm.trans k
  |da=>exact h.symm.trans k
  |dead=>exact h.symm.trans k
  |deep=>exact h.symm.trans k
  |hol=>exact h.symm.trans k
  |pre=>exact h.symm.trans k
theorem Rel.freeze(h:Rel c n sl hp a)(hs:∀t e,hp0 t=some e->hp t=some e)(k:Bu c.ρ gs){ts:List Nat}{l:List (Nat × Ai)}(hf:Eg hp0 gs ts=some l):
  Rel (c.da (l.map (·.1))) n sl (Bq hp l) a:=by
 obtain⟨h1,h2⟩:=QI k hf;have hG:∀u,(c.da (l.map (·.1))).G u=if u∈l.map (·.1)then⟨[],[]⟩else c.G u:=λu=>rfl;have K1:∀t e e',(t,e)∈l->(t,e')∈l->e'=e:=by intro t e e' he Fp;obtain⟨_,_,g,x,_,rfl,r,rl⟩:=h1 t e he;obtain⟨_,_,g',x',_,rfl,r',rl'⟩:=h1 t e' Fp;have:=zNP r r';subst this;obtain⟨rfl,rfl⟩:=rl.fun rl';rfl
 refine h.change (λu=>u∈l.map (·.1)) (Cx.lr c _) ⟨h.base.os,h.base.tape,h.base.output,h.base.size,h.base.pins,h.base.block,h.base.pk,h.base.lo⟩ (λu hu=>⟨Nj (λe he=>hu (List.mem_map.2 ⟨_,he,rfl⟩)),by rw[hG,if_neg hu],by simp only[Cx.da,if_neg hu],λg hg=>hg⟩) (λu hu b hb=>rfl) (λu hu=> ?_) ?_ h.de (λu e hu=> ?_)
 ·obtain⟨⟨u',e⟩,he,rfl⟩:=List.mem_map.1 hu;have Ff:=qI (hp:=hp) he (λe' Fp=>K1 _ _ _ he Fp);obtain⟨_,_,g,x,f0,rfl,r,rl⟩:=h1 u' e he;obtain⟨q1,f,r1,r2⟩:=rl.rd (h.ents u' _ (Pa hs r));have My:((c.da (l.map (·.1))).G u').top=[]/\((c.da (l.map (·.1))).G u').O=[]:=by rw[hG,if_pos hu];simp
  rw[Ff];refine⟨λe' hr=> ?_,λ_=>My⟩;have:e'= .da g x:=hr.symm;subst this;exact⟨q1,⟨f,r1,λb hb=>by
   refine zHM h.gw (ts:=l.map (·.1)) (us:=[u']) (by simpa using hu) ?_;rcases r2 b hb with hb|hb
   ·exact .inr ⟨u',by simp,hb⟩
   ·exact .inl hb⟩,My.1,My.2⟩
 ·refine⟨λu=> ?_,λu v oR b hb=> ?_,λu b hb=> ?_,λu b hb=> ?_⟩
  ·rw[hG];split
   ·simp[GI.own]
   ·exact h.gw.nodup u
  ·rw[hG]at hb ⊢;split at hb
   ·simp[GI.own]at hb
   ·split
    ·simp[GI.own]
    ·exact h.gw.dt u v oR b hb
  ·rw[hG]at hb;split at hb
   ·simp[GI.own]at hb
   ·exact h.gw.allow u b hb
  ·rw[hG]at hb;split at hb
   ·simp[GI.own]at hb
   ·exact h.gw.inb u b hb
 ·by_cases hm:∃e',(u,e')∈l
  ·obtain⟨e',Fp⟩:=hm;obtain⟨_,_,g,x,f0,rfl,r,rl⟩:=h1 u e' Fp;have r':=Pa hs r;cases hh:hp u with
   |none=>rw[hh]at r';exact r'.elim
   |some e9=>exact h.dv u e9 hh
  ·rw[Nj (λe' Fp=>hm ⟨e',Fp⟩)]at hu;exact h.dv u e hu
theorem zGW{ts:List Nat}(h:Ol hp0 gs ts=true){t:Nat}(ht:t∈ts){ty:Nat}{g:Bool}{cs:List SV}:look hp0 gs t≠some (.box ty g cs):=by intro hl;simp only[Ol,Bk,List.any_eq_false]at h;have:=h t ht;rw[hl]at this;simp at this
theorem zEE{ρ:List AV}(k:Bu ρ gs){ts:List Nat}{l:List (Nat × Ai)}(hf:Eg hp0 gs ts=some l){t:Nat}(ht:t∈ts):(∃g x,(t,Ai.da g x)∈l)\/(∃g x,look hp0 gs t=some (.da g x))\/ ∃ty g cs,look hp0 gs t=some (.box ty g cs):=by
 induction ts generalizing l with
 |nil=>simp at ht
 |cons u ts ih=>
  unfold Eg at hf;split at hf
  ·rename_i ety sz g x d l' hl BP;split at hf
   ·simp at hf;subst hf;rcases Ag.1 ht with rfl|ht
    ·exact .inl ⟨g,x,by simp⟩
    ·rcases ih BP ht with⟨g',x',hh⟩|hh
     ·exact .inl ⟨g',x',by simp[hh]⟩
     ·exact .inr hh
   ·cases hf
  ·rename_i ety sz dl g ep x l' hl BP;split at hf
   ·simp at hf;subst hf;rcases Ag.1 ht with rfl|ht
    ·exact .inl ⟨g,x,by simp⟩
    ·rcases ih BP ht with⟨g',x',hh⟩|hh
     ·exact .inl ⟨g',x',by simp[hh]⟩
     ·exact .inr hh
   ·cases hf
  ·rename_i g x l' hl BP;simp at hf;subst hf;rcases Ag.1 ht with rfl|ht
   ·exact .inr (.inl ⟨g,x,hl⟩)
   ·exact ih BP ht
  ·rename_i ty g cs l' hl BP;simp at hf;subst hf;rcases Ag.1 ht with rfl|ht
   ·exact .inr (.inr ⟨ty,g,cs,hl⟩)
   ·exact ih BP ht
  ·cases hf
theorem X5(h:Rel c n sl hp a)(eh:EH c hp0)(k:Bu c.ρ gs){ts:List Nat}{l:List (Nat × Ai)}(hf:Eg hp0 gs ts=some l)(hb:Ol hp0 gs ts=true){b:Nat}(hs:c.gp ts b):(c.da (l.map (·.1))).ok b:=by
 rcases hs with hs|⟨t,ht,C6⟩
 ·exact Cx.ia hs
 ·rcases zEE k hf ht with⟨g,x,hh⟩|⟨g,x,hh⟩|⟨ty,g,cs,hh⟩
  ·exact zHM h.gw (us:=[t]) (by simpa using⟨_,hh⟩) (.inr ⟨t,by simp,C6⟩)
  ·obtain⟨_,_,Ct,_⟩:=eh t _ (Df hh k);rw[Ct]at C6;simp at C6
  ·exact absurd hh (zGW hb ht)
theorem zvZ(h:Rel c n sl hp a)(hs:∀t e,hp0 t=some e->hp t=some e)(k:Bu c.ρ gs){t:TypeId}{s:SV}{v:Value}(hr:SR c [s] [v]){x:E}{fz:List (Nat × Ai)}{d:Bool}{ck:List Cn}(ht:ZT P hp0 gs t s=some (x,fz,d,ck))(hc:∀q∈ck,q.den c.ρ):
  ∃f,Rd c.w [v] [x.den c.ρ] f/\(d=true->f=[])/\(∃ts,Eg hp0 gs ts=some fz/\ ∀b∈f,(c.da (fz.map (·.1))).ok b)/\
   (if Aq P t then∃cs,x.den c.ρ= .agg cs/\cs.length=P.cellsOf t else(∀cs,x.den c.ρ≠ .agg cs)/\ ∀cs,x.den c.ρ≠ .tup cs):=by
 have eh:EH c hp0:=λt e hr=>h.ents t e (Pa hs hr);unfold ZT at ht;split at ht
 ·cases ht
 ·rename_i y hy;obtain⟨f,q1,q2⟩:=Je eh k Bb hy hr Bb (AB _);split at ht
  ·simp at ht;obtain⟨rfl,rfl,rfl,rfl⟩:=ht;obtain⟨c1,c2,c3,c4⟩:=Cl hc;have hf:f=[]:=by
    cases hg:Aq P t with
    |true=>obtain⟨cs,BE⟩:=c3 hg;obtain⟨as_,rfl,_,r⟩:=Kq q1 BE;exact IG r (by rw[BE]at c2;exact c2)
    |false=>exact IG q1 (by simpa using c4 hg)
   subst hf;refine⟨[],q1,λ_=>rfl,⟨[],rfl,by simp⟩,?_⟩;split
   ·rename_i hg;obtain⟨cs,BE⟩:=c3 hg;exact⟨cs,BE,by rw[BE]at c1;exact c1⟩
   ·rename_i hg;have:=c4 (by simpa using hg);exact⟨λcs BE=>by rw[BE]at this;simp[AV.scalar]at this,λcs BE=>by rw[BE]at this;simp[AV.scalar]at this⟩
  ·split at ht
   ·rename_i JC;split at ht
    ·cases ht
    ·rename_i l hl;simp only[Af,A0]at ht;obtain⟨rfl,rfl,rfl,rfl⟩:=ht;refine⟨f,q1,by simp,⟨_,hl,λb hb=>X5 h eh k hl JC (q2 b hb)⟩,?_⟩;have hq:=Cl hc;unfold zP9 at hq;split
     ·rename_i hg;rw[if_pos hg]at hq;obtain⟨cs,BE,hl⟩:=hq;exact⟨cs,BE,hl⟩
     ·rename_i hg;rw[if_neg hg]at hq;exact hq
   ·cases ht
end
section
variable {P:Program} {c:Cx} {n nx:Nat} {sl sl0:Nat->SV} {hp hp0:Nat->Option Ai} {a:Act} {o:Oper} {gs:Gd} {e:Bf} {sg:BY} {nv:Nat}
theorem Un(w:World)(t ty el:TypeId)(i:TypeInfo)(z:Value)(ht:P.underlying t=some (.slice el))(hi:P.info? el=some i)(hz:i.zero=some z)(DA:z.cells.size=i.size)(BJ:0<i.size)
  (Own:Nat->Prop) (v:Value) (k:Nat) (old:List Value) (ho:old.length=k*i.size)
  (A2:(k=0/\ ∃q,v= .slice q 0 0)\/ ∃g cap C,v= .slice (some ⟨g,0,none⟩) k cap/\k<=cap/\cap<=maxLen/\w.heap[g]?=some (.cells C el (0,0))/\C.size=cap*i.size/\old=C.toList.take (k*i.size)/\Own g)
  (q:Option Addr) (m r:Nat) (news:List Value) (hs:Src w i.size q m news) (YY:k+m<=maxLen) (hb:(k+m)*i.bytes<=140737488355328):
  ∃v' w',(Builtin.append_ #[t,t] ty #[v, .slice q m r]).run P w= .ok v' w'/\
   ((v'=v/\w'=w/\m=0)\/ ∃g cap C,v'= .slice (some ⟨g,0,none⟩) (k+m) cap/\k+m<=cap/\cap<=maxLen/\w'.heap[g]?=some (.cells C el (0,0))/\C.size=cap*i.size/\C.toList.take ((k+m)*i.size)=old++news/\
    w.grownBy w' (some g)/\((g=w.heap.size/\g<w'.heap.size)\/Own g)):=by
 have KW:news.length=m*i.size:=by
  rcases hs with⟨rfl,rfl,rfl⟩|⟨ad,rfl,h1,_⟩
  ·simp
  ·exact h1
 have hlen:(old++news).length=(k+m)*i.size:=by rw[Av,ho,KW,Nat.add_mul]
 have grown:∀(cp:Nat),cp<k+m-> ∀(X:Array Value),X.toList=old++news-> ∃C,C=X++Builtin.zeroCells z.cells (grownCap w (k+m) cp el-(k+m))/\
   k+m<=grownCap w (k+m) cp el/\grownCap w (k+m) cp el<=maxLen/\C.size=grownCap w (k+m) cp el*i.size/\C.toList.take ((k+m)*i.size)=old++news:=by
  intro cp hcp X hX;have Za:=grownCap_ge w (k+m) cp el;have Gk:=grownCap_le_maxLen w (k+m) cp el YY;refine⟨_,rfl,Za,Gk,?_,?_⟩
  ·have hXs:X.size=(k+m)*i.size:=by rw[<-BF,hX,hlen]
   rw[Array.size_append,hXs,size_zeroCells,DA,<-Nat.add_mul];congr 1;omega
  ·rw[Array.toList_append,hX,<-hlen];exact List.take_left
 have newb:∀C:Array Value,w.grownBy (w.drew.alloc (.cells C el)) (some w.heap.size)/\w.heap.size<(w.drew.alloc (.cells C el)).heap.size/\(w.drew.alloc (.cells C el)).heap[w.heap.size]?=some (.cells C el (0,0)):=
  λC=>⟨⟨rfl,rfl,rfl,by simp,λj hj _=>Below.heap_alloc w.drew _ _ hj⟩,by simp,heap_alloc_new w.drew _⟩
 rcases A2 with⟨rfl,p,rfl⟩|⟨g,cap,C,rfl,MD,Gk,hg,BE,hold,lT⟩
 ·have hold:old=[]:=List.eq_nil_of_length_eq_zero (by simpa using ho);subst hold;by_cases hm:m=0
  ·subst hm;have hn:news=[]:=List.eq_nil_of_length_eq_zero (by simpa using KW);subst hn;refine⟨_,w,?_, .inl ⟨rfl,rfl,rfl⟩⟩;rcases hs with⟨rfl,_,_⟩|⟨ad,rfl,_⟩<;>cases p<;>
    simp[Builtin.append_,run_underlying ht,sizeOf,typeInfo,hi,Builtin.lenOf,Builtin.firstCells,loadCells,loadCellsFrom,storeCells]
  ·rcases hs with⟨_,rfl,_⟩|⟨ad,rfl,h1,h2,h3⟩
   ·exact absurd rfl hm
   ·obtain⟨C',Ri,g1,g2,g3,g4⟩:=grown 0 (by omega) news.toArray (by simp);cases p with
    |none=>have hr:=run_append_nil (P:=P) w t ty el i z ht hi hz ad m r news h1 h2 (by omega) (by simp only[maxLen]at YY;omega) (by have hb:=hb;simp only[Nat.zero_add]at hb;omega);simp only[Nat.zero_add]at g1 g2 g3 g4 Ri ⊢;obtain⟨n1,n2,n3⟩:=newb C';refine⟨_,_,hr, .inr ⟨_,_,C',rfl,g1,g2,?_,g3,g4,?_, .inl ⟨rfl,?_⟩⟩⟩<;>rw[<-Ri]<;>first|exact n3|exact n1|exact n2
    |some p=>have hr:=run_append_grow (P:=P) w t ty el i z ht hi hz p 0 0 [] (by simp) (by simp) ad m r news h1 h2 (by omega) (by simp only[maxLen]at YY;omega) (growslice_fits (by omega) hb);rw[show(([]:List Value).toArray++news.toArray)=news.toArray by simp]at hr;simp only[Nat.zero_add]at g1 g2 g3 g4 Ri hr ⊢;obtain⟨n1,n2,n3⟩:=newb C';refine⟨_,_,hr, .inr ⟨_,_,C',rfl,g1,g2,?_,g3,g4,?_, .inl ⟨rfl,?_⟩⟩⟩<;>rw[<-Ri]<;>first|exact n3|exact n1|exact n2
 ·rcases hs with⟨rfl,rfl,rfl⟩|⟨ad,rfl,h1,h2,h3⟩
  ·refine⟨_,w,?_, .inl ⟨rfl,rfl,rfl⟩⟩;simp[Builtin.append_,run_underlying ht,sizeOf,typeInfo,hi,Builtin.lenOf,Builtin.firstCells,MD,storeCells]
  ·by_cases BV:k+m<=cap
   ·have H9:k*i.size+news.length<=C.size:=by rw[h1,BE,<-Nat.add_mul];exact Bz _ BV
    have hr:=run_append_room (P:=P) w t ty el i ht hi g k cap C hg ad m r news h1 h2 h3 BV H9;refine⟨_,_,hr, .inr ⟨g,cap,_,rfl,BV,Gk,setRow_heap w g C _ el _ hg,?_,?_,⟨rfl,rfl,rfl,by simp,λj _ hj=>setRow_other w g j _ (λhh=>hj (by rw[hh]))⟩, .inr lT⟩⟩
    ·simp only[List.size_toArray,Av,AE,Bn,BF];omega
    ·rw[<-hold,<-hlen];exact List.take_left
   ·have holds:∀j u,old[j]?=some u->w.cell? ((⟨g,0,none⟩:Addr).add j)=some u:=λj u hu=>by
     rw[Addr.add_lit,Nat.zero_add,EO hg];rw[hold,List.getElem?_take]at hu;split at hu
     ·simpa using hu
     ·cases hu
    have hr:=run_append_grow (P:=P) w t ty el i z ht hi hz ⟨g,0,none⟩ k cap old ho holds ad m r news h1 h2 (by omega) (by simp only[maxLen]at YY;omega) (growslice_fits (by omega) hb);obtain⟨C',Ri,g1,g2,g3,g4⟩:=grown cap (by omega) (old.toArray++news.toArray) (by simp);obtain⟨n1,n2,n3⟩:=newb C';refine⟨_,_,hr, .inr ⟨_,_,C',rfl,g1,g2,?_,g3,g4,?_, .inl ⟨rfl,?_⟩⟩⟩<;>rw[<-Ri]<;>first|exact n3|exact n1|exact n2
def Cx.cg(c:Cx)(t g':Nat)(w':World)(v:Value)(top O:List Nat):Cx:=
 {c with w:=w',G:=λu=>if u=t then⟨top,O⟩else c.G u,K:=λu g=>c.K u g\/(u=t/\g=g'),H:=λu g=>if u=t/\g=g' then v else c.H u g,U:=λu=>c.U u\/u=t,E:=λu=>if u=t then c.E u+1 else c.E u}
theorem Rel.cg(h:Rel c n sl hp a){t g:Nat}(E7:c.A.pin t=none\/g≠0)(Bo: ¬c.K t g){w':World}{row:Option Nat}(hg:c.w.grownBy w' row)
  (FF:∀g0,row=some g0->g0∈(c.G t).top\/(g0=c.w.heap.size/\g0<w'.heap.size)) {top O:List Nat} (Ct:top=[]\/ ∃g0,row=some g0/\top=[g0]) (hO:O=[]\/O=(c.G t).O) {v:Value} (e1:Ai) (BU:∀hs f,e1≠ .gd hs f) (k:Bu c.ρ gs)
  (he:Ev c (c.cg t g w' v top O)->DH (c.cg t g w' v top O) t e1):Rel (c.cg t g w' v top O) n sl (Bq hp [(t,Dg gs e1)]) a:=by
 have hG:∀u,(c.cg t g w' v top O).G u=if u=t then⟨top,O⟩else c.G u:=λu=>rfl;have hM:∀b,(c.cg t g w' v top O).M b->c.M b\/row=some b:=by
  rintro b ⟨u,hu⟩;rw[hG]at hu;split at hu
  ·rcases Ct with rfl|⟨g0,hr,rfl⟩
   ·simp at hu
   ·simp at hu;subst hu;exact .inr hr
  ·exact .inl ⟨u,hu⟩
 have Vo:∀b,b<c.w.heap.size->c.ok b->row≠some b:=by
  intro b hb A3 hr;rcases FF b hr with hh|⟨hh,_⟩
  ·exact A3.1 ⟨t,hh⟩
  ·omega
 have Cm:Ev c (c.cg t g w' v top O):=by
  refine⟨rfl,rfl,λb hb A3=>⟨λhm=>(hM b hm).elim A3.1 (Vo b hb A3),A3.2⟩,λb hb A3=>hg.block b hb (λhh=>Vo b hb A3 hh.symm),λu g1 hu=>⟨.inl hu,?_⟩,λu g1 hu=> ?_⟩
  ·simp only[Cx.cg];rw[if_neg];rintro⟨rfl,rfl⟩;exact Bo hu
  ·by_cases Hq:u=t
   ·have e1:(c.cg t g w' v top O).E u=c.E u+1:=by simp only[Cx.cg,if_pos Hq]
    exact⟨by omega,λh=>by omega⟩
   ·have e1:(c.cg t g w' v top O).E u=c.E u:=by simp only[Cx.cg,if_neg Hq]
    have e2:(c.cg t g w' v top O).G u=c.G u:=by simp only[Cx.cg,if_neg Hq]
    rw[e1];refine⟨AB _,λ_=>⟨e2,λb hb FC=>hg.block b FC λhh=> ?_⟩⟩;rcases FF b hh.symm with h1|⟨h1,_⟩
    ·exact h.gw.dt u t Hq b (by simp[GI.own,hb]) (by simp[GI.own,h1])
    ·omega
 have Ff:∀u,Bq hp [(t,Dg gs e1)] u=if u=t then some (Dg gs e1)else hp u:=λu=>rfl;have PU:∀u,u≠t-> ∀b∈(c.G u).own,row≠some b:=by
  intro u hu b hb hr;rcases FF b hr with hh|⟨hh,_⟩
  ·exact h.gw.dt u t hu b hb (by simp[GI.own,hh])
  ·have:=h.gw.inb u b hb;omega
 have Co:∀b∈(⟨top,O⟩:GI).own,row=some b\/b∈(c.G t).own:=by
  intro b hb;simp only[GI.own,Ae]at hb ⊢;rcases hb with hb|hb
  ·rcases Ct with rfl|⟨g0,hr,rfl⟩
   ·simp at hb
   ·simp at hb;subst hb;exact .inl hr
  ·rcases hO with rfl|rfl
   ·simp at hb
   ·exact .inr (.inr hb)
 refine h.change (λu=>u=t) Cm ⟨hg.os.trans h.base.os,hg.tape.trans h.base.tape,hg.output.trans h.base.output,Nat.le_trans h.base.size hg.size,λu v' hp=>⟨.inl (h.base.pins u v' hp).1,λhk=> ?_⟩,λb hb GK=> ?_,h.base.pk,h.base.lo⟩
  (λu hu=>⟨by rw[Ff,if_neg hu],by rw[hG,if_neg hu],by simp[Cx.cg,hu],λg1 hh=>hh.resolve_right (λhh=>hu hh.1)⟩) (λu hu b hb=>hg.block b (h.gw.inb u b (by simp[GI.own,hb])) (λhh=>PU u hu b (by simp[GI.own,hb]) hh.symm)) (λu hu=> ?_) ?_ (λu g1 hh=> ?_) (λu f hf=> ?_)
 ·have Hq: ¬(u=t/\0=g):=by
   rintro⟨rfl,rfl⟩;rcases E7 with hh|hh
   ·have hp':c.A.pin u=some v':=hp;rw[hh]at hp';cases hp'
   ·exact hh rfl
  have Ce:=hk.resolve_right Hq;simp only[Cx.cg];rw[if_neg Hq];exact(h.base.pins u v' hp).2 Ce
 ·refine(hg.block b (Nat.lt_of_lt_of_le hb h.base.size) (λhh=> ?_)).trans (h.base.block b hb GK);rcases FF b hh.symm with hh|⟨hh,_⟩
  ·rcases h.gw.allow t b (by simp[GI.own,hh])with h1|h1
   ·exact absurd h1 (Nat.not_le.2 hb)
   ·exact GK h1
  ·have:=h.base.size;have h9:b<c.w0.heap.size:=hb;omega
 ·subst hu;rw[Ff,if_pos rfl];exact⟨λe' hr=>by rw[(T4 k BU).1 hr];exact he Cm,λhn=>absurd ((T4 k BU).2 rfl) (hn e1)⟩
 ·have Cb:(⟨top,O⟩:GI).own.Nodup:=by
   have h0:=h.gw.nodup t;simp only[GI.own]at h0 ⊢;rw[List.nodup_append]at h0 ⊢;refine⟨by rcases Ct with rfl|⟨g0,hr,rfl⟩<;>simp,by rcases hO with rfl|rfl;simp;exact h0.2.1,λp hp q hq=> ?_⟩;rcases Ct with rfl|⟨g0,hr,rfl⟩
   ·simp at hp
   ·simp at hp;subst hp;rcases hO with rfl|rfl
    ·simp at hq
    ·rcases FF p hr with hh|⟨hh,_⟩
     ·exact h0.2.2 p hh q hq
     ·have:=h.gw.inb t q (by simp[GI.own,hq]);omega
  refine⟨λu=> ?_,λu u' ML b hb=> ?_,λu b hb=> ?_,λu b hb=> ?_⟩
  ·rw[hG];split
   ·exact Cb
   ·exact h.gw.nodup u
  ·rw[hG]at hb ⊢;by_cases h1:u=t
   ·rw[if_pos h1]at hb;rw[if_neg (λhh=>ML (h1.trans hh.symm))];rcases Co b hb with hr|hb
    ·exact λhh=>PU u' (λh2=>ML (h1.trans h2.symm)) b hh hr
    ·exact h.gw.dt t u' (λhh=>ML (h1.trans hh)) b hb
   ·rw[if_neg h1]at hb;by_cases h2:u'=t
    ·rw[if_pos h2];intro Cc;rcases Co b Cc with hr|Cc
     ·exact PU u h1 b hb hr
     ·exact h.gw.dt u t h1 b hb Cc
    ·rw[if_neg h2];exact h.gw.dt u u' ML b hb
  ·rw[hG]at hb;split at hb
   ·rcases Co b hb with hr|hb
    ·rcases FF b hr with hh|⟨hh,_⟩
     ·exact h.gw.allow t b (by simp[GI.own,hh])
     ·exact .inl (by rw[hh];exact h.base.size)
    ·exact h.gw.allow t b hb
   ·exact h.gw.allow u b hb
  ·rw[hG]at hb;show b<w'.heap.size;split at hb
   ·rcases Co b hb with hr|hb
    ·rcases FF b hr with hh|⟨_,hh⟩
     ·exact Nat.lt_of_lt_of_le (h.gw.inb t b (by simp[GI.own,hh])) hg.size
     ·exact hh
    ·exact Nat.lt_of_lt_of_le (h.gw.inb t b hb) hg.size
   ·exact Nat.lt_of_lt_of_le (h.gw.inb u b hb) hg.size
 ·rcases hh with hh|⟨rfl,_⟩
  ·exact .inl (h.de u g1 hh)
  ·exact .inr rfl
 ·rw[Ff]at hf;split at hf
  ·rename_i hu;exact .inr hu
  ·exact .inl (h.dv u f hf)
theorem zMK{w:World}{v:Value}{ys:List AV}{f:List Nat}{sz:Nat}(h:Rd w [v] [.sl ys] f)(hs:∀y∈ys,y.cells.length=sz):
  ∃q r news N,v= .slice q ys.length r/\Src w sz q ys.length news/\Rd w news (Az ys) N/\(∀b∈N,b∈f)/\news.length=ys.length*sz/\(∀u∈news,u.oneCell'=true):=by
 rcases h.kind with hh|hh|hh|hh|hh|hh|hh|hh|hh|hh
 ·obtain⟨_,_,_,hh,_⟩:=hh;cases hh
 ·obtain⟨_,_,hh,_⟩:=hh;cases hh
 ·obtain⟨_,_,hh,_⟩:=hh;cases hh
 ·obtain⟨p,r,rfl,hh,rfl⟩:=hh;cases hh;refine⟨p,r,[],[],rfl,?_, .nil,by simp,by simp,by simp⟩;cases p with
  |none=>exact .inl ⟨rfl,rfl,rfl⟩
  |some p=>exact .inr ⟨p,rfl,by simp,by simp,by simp⟩
 ·obtain⟨b,off,m,r,ys',cs,C,t,fz,sz',f1,rfl,hh,rfl,hb,h1,h2,h3,h4,h5,h6,HZ,h7⟩:=hh;cases hh;subst h3;have GV:sz'=sz:=by
   cases ys with
   |nil=>simp at h1
   |cons y ys=>rw[<-h4 y (by simp),hs y (by simp)]
  subst GV;have hl:=h7.len;rw[Lf ys h4]at hl;exact⟨_,r,cs,f1,rfl, .inr ⟨_,rfl,hl,λj u hu=>by rw[Addr.add_lit,EO hb];exact h6 j u hu,HZ⟩,h7,λq hq=>by simp[hq],hl,HZ⟩
 ·obtain⟨_,_,_,hh,_⟩:=hh;cases hh
 ·obtain⟨_,_,_,hh,_⟩:=hh;cases hh
 ·obtain⟨_,_,_,_,_,_,_,hh,_⟩:=hh;cases hh
 ·obtain⟨_,_,_,_,hh,_⟩:=hh;cases hh
 ·obtain⟨_,hh,_⟩:=hh;cases hh
end
section
variable {P:Program} {c:Cx} {n nx:Nat} {sl sl0:Nat->SV} {hp hp0:Nat->Option Ai} {a:Act} {o:Oper} {gs:Gd} {e:Bf} {sg:BY} {nv:Nat}
theorem QV(hp:Nat->Option Ai)(l m:List (Nat × Ai)):Bq hp (l++m)=Bq (Bq hp l) m:=by simp[Bq,List.foldl_append]
theorem zCZ(h:Rel c n sl hp a)(hs:∀t e,hp0 t=some e->hp t=some e)(k:Bu c.ρ gs){el:TypeId}{s:SV}{v:Value}(hr:SR c [s] [v]){y:E}(hy:BI hp0 gs Bb s=some y){fz:List (Nat × Ai)}{d:Bool}{ck:Cn}(ht:YB P hp0 gs el s y=some (fz,d,ck))(hc:ck.den c.ρ):
  ∃ts ys q r news N,Eg hp0 gs ts=some fz/\y.den c.ρ= .sl ys/\(∀z∈ys,z.cells.length=P.cellsOf el)/\v= .slice q ys.length r/\Src c.w (P.cellsOf el) q ys.length news/\Rd c.w news (Az ys) N/\(∀b∈N,(c.da (fz.map (·.1))).ok b)/\(d=true->N=[])/\news.length=ys.length*P.cellsOf el/\ ∀u∈news,u.oneCell'=true:=by
 have eh:EH c hp0:=λt e hr=>h.ents t e (Pa hs hr);obtain⟨f,q1,q2⟩:=Je eh k Bb hy hr Bb (AB _);unfold YB at ht;split at ht
 ·simp only[Af,A0]at ht;obtain⟨rfl,rfl,rfl⟩:=ht;obtain⟨ys,DF,AD⟩:=hc;rw[DF]at q1;obtain⟨q,r,news,N,hv,g1,g2,g3,g4,g5⟩:=zMK q1 (λz hz=>(AD z hz).1);have hN:N=[]:=IG g2 (λx hx=>by
   obtain⟨z,hz,hx⟩:=List.mem_flatMap.1 hx;exact(AD z hz).2 x hx)
  exact⟨[],ys,q,r,news,N,rfl,DF,λz hz=>(AD z hz).1,hv,g1,g2,by simp[hN],λ_=>hN,g4,g5⟩
 ·split at ht
  ·rename_i JC;obtain⟨l,hl,ht⟩:=Aw.1 ht;simp only[A0]at ht;obtain⟨rfl,rfl,rfl⟩:=ht;obtain⟨ys,DF,AD⟩:=hc;rw[DF]at q1;obtain⟨q,r,news,N,hv,g1,g2,g3,g4,g5⟩:=zMK q1 AD;exact⟨_,ys,q,r,news,N,hl,DF,AD,hv,g1,g2,λb hb=>X5 h eh k hl JC (q2 b (g3 b hb)),by simp,g4,g5⟩
  ·cases ht
theorem Nd{el:TypeId}(h:Jh P el=true):∃i z,P.info? el=some i/\i.zero=some z/\z.cells.size=i.size/\0<i.size/\P.cellsOf el=i.size/\P.bytesOf el=i.bytes:=by
 unfold Jh at h;cases hi:P.info? el with
 |none=>simp[hi]at h
 |some i=>
  cases hz:i.zero with
  |none=>simp[hi,hz]at h
  |some z=>simp only[hi,hz,Ac,Ay,bne_iff_ne]at h;exact⟨i,z,rfl,hz,h.1,by omega,by simp[Program.cellsOf,hi],by simp[Program.bytesOf,hi]⟩
theorem jA(xs ys:List AV):Az (xs++ys)=Az xs++Az ys:=by simp[Az]
theorem zA(h:BB P c n nx sl hp a sl0 hp0 o gs){x y:Operand}{tx:TypeId}{cl:Call}(ho:o.op= .call cl)(AD:cl.callee= .builtin .append)(Dk:cl.args.toList=[x,y])(Eo:cl.argTypes.toList=[tx,tx])
  {el:TypeId} (BK:P.underlying tx=some (.slice el)) (hz:Jh P el=true) {s2:SV} {ye:E} (Bd:BW sl0 gs y=some s2) (hy:BI hp0 gs Bb s2=some ye) {fz:List (Nat × Ai)} {d:Bool} {ck:Cn} (CG:YB P hp0 gs el s2 ye=some (fz,d,ck)) (KG:ck.den c.ρ)
  {t g:Nat} (E7:c.A.pin t=none\/g≠0) {c0:E} {d':Bool} (BV:Cn.den c.ρ (.room c0 ye (P.bytesOf el))) (D4:∀f,(t,f)∉fz) (Bo: ¬c.K t g)
  {top N0:List Nat} {v:Value} (hv:a.eval x=v) (A2:Dd c.w el (P.cellsOf el) v (c0.den c.ρ) top N0) (Ct:(c.G t).top=top) (lR:∀b∈N0,c.ok b) (Y7:d'=true->UN c.w N0/\(c.G t).O=N0) (Mz:∀g',c.K t g'->g'<=g) (hU:∀u,u=t->c.U u\/(nx<=u/\u<nx+B1)) {ckl:List Cn}:
  AJ P o c n nx sl hp gs a {dn:=ckl,val:= .own t g,cx:=fz++ [(t,Dg gs (.row el (P.cellsOf el) g (.app c0 ye) (d&&d')))]}:=by
 have Aj:cl.args= #[x,y]:=by apply Array.ext';simp[Dk]
 have Io:cl.argTypes= #[tx,tx]:=by apply Array.ext';simp[Eo]
 have C7:y∈o.op.operands:=by simp[ho,Op.operands,Call.operands,AD,Aj]
 obtain⟨i,z,hi,Hk,DA,BJ,CI,FD⟩:=Nd hz;obtain⟨ts,ys,q,r,news,N,IT,DF,Kd,Dh,Dx,Dt,GB,hdN,KW,PR⟩:=zCZ h.rel h.hp h.gs (h.dy Bd C7) hy CG KG;have DM:=h.rel.freeze h.hp h.gs IT;obtain⟨xs,Da,Hr,_,Bv⟩:=A2;obtain⟨mm,kk,Ho,D6,N6,Zi⟩:=BV;rw[Da]at Ho;rw[DF]at D6;simp only[AV.len,AV.int.injEq,true_and]at Ho D6;have CE:(xs.length+ys.length)*i.bytes<=140737488355328:=by
  rw[<-Ho,<-D6,FD]at N6;have h9:(((xs.length+ys.length)*i.bytes:Nat):Int)<=140737488355328:=by rw[Int.natCast_mul,Int.natCast_add];exact N6
  omega
 have FC:xs.length+ys.length<=140737488355328:=by rw[<-Ho,<-D6]at Zi;omega
 rw[CI]at Dx KW Hr Kd Bv;obtain⟨old,hold,FU,DX,C8⟩:∃old,old.length=xs.length*i.size/\((xs.length=0/\ ∃q,v= .slice q 0 0)\/ ∃g cap C,v= .slice (some ⟨g,0,none⟩) xs.length cap/\xs.length<=cap/\cap<=maxLen/\c.w.heap[g]?=some (.cells C el (0,0))/\C.size=cap*i.size/\old=C.toList.take (xs.length*i.size)/\g∈(c.G t).top)/\Rd c.w old (Az xs) N0/\ ∀u∈old,u.oneCell'=true:=by
  rcases Bv with⟨rfl,⟨p,rfl⟩,rfl,rfl⟩|⟨g9,cap,C,rfl,h6,h7,h8,h9,rfl,EX,EE⟩
  ·exact⟨[],by simp, .inl ⟨rfl,p,rfl⟩, .nil,by simp⟩
  ·refine⟨_,?_, .inr ⟨g9,cap,C,rfl,h6,h7,h8,h9,rfl,by rw[Ct];simp⟩,EE,EX⟩;have e9:C.toList.length=cap*i.size:=by rw[<-h9];simp
   rw[AE,e9];exact Nat.min_eq_left (Bz _ h6)
 obtain⟨v',w',A6,A1⟩:=Un (P:=P) c.w tx o.type el i z BK hi Hk DA BJ (λg9=>g9∈(c.G t).top) v xs.length old hold FU q ys.length r news Dx (by simp only[maxLen];omega) CE;have D7:(execOp a.eval o).run P c.w= .ok (.value v') w':=by simp[execOp,ho,resolve,AD,Aj,Io,invoke,builtin,hv,Dh,A6]
 intro next Q hk
 unfold Oper.wp;rw[D7,Oper.upon_value];have hc1w:(c.da (fz.map (·.1))).w=c.w:=rfl;have hGt:(c.da (fz.map (·.1))).G t=c.G t:=by simp only[Cx.da];rw[if_neg];rintro hh;obtain⟨⟨u,f⟩,hf,rfl⟩:=List.mem_map.1 hh;exact D4 f hf
 obtain⟨row,top',Vq,FF,VW,Bj,Dw⟩:∃row top',c.w.grownBy w' row/\(∀g0,row=some g0->g0∈(c.G t).top\/(g0=c.w.heap.size/\g0<w'.heap.size))/\(top'=[]\/ ∃g0,row=some g0/\top'=[g0])/\
   (Ev (c.da (fz.map (·.1))) ((c.da (fz.map (·.1))).cg t g w' v' top' (if(d&&d')=true then(c.G t).O else []))-> ∃N',Dd w' el (P.cellsOf el) v' (.sl (xs++ys)) top' N'/\(∀b∈N',b∈N0\/b∈N)/\((d&&d')=true->N'=N0))/\ ∃p m r,v'= .slice p m r:=by
  rcases A1 with⟨rfl,rfl,CF⟩|⟨g9,cap,C,rfl,h1,h2,h3,h4,h5,h6,h7⟩
  ·have I0:ys=[]:=List.eq_nil_of_length_eq_zero CF;subst I0;refine⟨if top=[]then none else top.head?,top,⟨rfl,rfl,rfl,AB _,λ_ _ _=>rfl⟩,λg0 FF=> .inl ?_,?_,λ_=>⟨N0,?_,λb hb=> .inl hb,λ_=>rfl⟩,?_⟩
   ·rw[Ct];split at FF
    ·cases FF
    ·exact List.mem_of_mem_head? FF
   ·rcases Bv with⟨_,_,rfl,_⟩|⟨g9,_,_,_,_,_,_,_,rfl,_⟩
    ·exact .inl rfl
    ·exact .inr ⟨g9,by simp,rfl⟩
   ·rw[CI];exact⟨xs,by simp,Hr,BJ,Bv⟩
   ·rcases FU with⟨_,p,rfl⟩|⟨g9,cap,C,rfl,_⟩
    ·exact⟨_,_,_,rfl⟩
    ·exact⟨_,_,_,rfl⟩
  ·refine⟨some g9,[g9],h6,λg0 FF=> ?_, .inr ⟨g9,rfl,rfl⟩,λJ9=>⟨N0++N,⟨xs++ys,rfl,λz hz=> ?_,by rw[CI];exact BJ, .inr ⟨g9,cap,C,by simp,by simpa using h1,h2,h3,by rw[CI];exact h4,rfl,?_,?_⟩⟩,λb hb=>Ae.1 hb,λFo=> ?_⟩,_,_,_,rfl⟩
   ·cases FF;exact h7.symm
   ·rcases Ae.1 hz with hz|hz
    ·rw[CI];exact Hr z hz
    ·rw[CI];exact Kd z hz
   ·rw[CI];simp only[Av];rw[h5];intro u hu;rcases Ae.1 hu with hu|hu
    ·exact C8 u hu
    ·exact PR u hu
   ·rw[CI];simp only[Av];rw[h5,jA];refine Rd.app (DX.frame λb hb=> ?_) (Dt.frame λb hb=> ?_)
    ·have CE:=DX.inb b hb;exact J9.mem b CE (Cx.ia (lR b hb))
    ·have CE:=Dt.inb b hb;exact J9.mem b CE (GB b hb)
   ·simp only[Ac]at Fo;rw[hdN Fo.1];simp
 obtain⟨p9,m9,r9,hv9⟩:=Dw;have H8:=DM.cg (gs:=gs) (t:=t) (g:=g) (w':=w') (row:=row) (top:=top') (O:=if(d&&d')=true then(c.G t).O else []) (v:=v') E7 Bo Vq (by rw[hGt];exact FF) VW (by split;exact .inr (by rw[hGt]);exact .inl rfl)
  (.row el (P.cellsOf el) g (.app c0 ye) (d&&d')) (by intros;simp) h.gs (λJ9=>by
   obtain⟨N',o1,o2,o3⟩:=Bj J9;have A3:∀b∈N',((c.da (fz.map (·.1))).cg t g w' v' top' (if(d&&d')=true then(c.G t).O else [])).ok b:=by
    intro b hb;rcases o2 b hb with hb|hb
    ·exact J9.ok b (DX.inb b hb) (Cx.ia (lR b hb))
    ·exact J9.ok b (Dt.inb b hb) (GB b hb)
   refine⟨.inr ⟨rfl,rfl⟩,λg' CK=> ?_,N',?_,A3,λFo=> ?_,λFo=> ?_⟩
   ·rcases CK with CK|⟨_,rfl⟩
    ·exact Mz g' CK
    ·exact AB _
   ·have e1:((c.da (fz.map (·.1))).cg t g w' v' top' (if(d&&d')=true then(c.G t).O else [])).H t g=v':=by simp[Cx.cg]
    have e2:(((c.da (fz.map (·.1))).cg t g w' v' top' (if(d&&d')=true then(c.G t).O else [])).G t).top=top':=by simp[Cx.cg]
    rw[e1,e2];show Dd w' el (P.cellsOf el) v' (AV.app (c0.den c.ρ) (ye.den c.ρ)) top' N';rw[Da,DF];exact o1
   ·have hN':=o3 Fo;have mO:d'=true:=by simp only[Ac]at Fo;exact Fo.2
    obtain⟨u1,u2⟩:=Y7 mO;subst hN';refine⟨u1.frame λb hb=>J9.mem b (DX.inb b hb) (Cx.ia (lR b hb)),?_⟩;simp only[Cx.cg,if_true,Fo];exact u2
   ·simp[Cx.cg,Fo])
 have lX:SR ((c.da (fz.map (·.1))).cg t g w' v' top' (if(d&&d')=true then(c.G t).O else [])) [.own t g] [v']:=by rw[hv9];exact .own (.inr ⟨rfl,rfl⟩) (by simp[Cx.cg]) .nil
 refine hk _ ((c.da (fz.map (·.1))).cg t g w' v' top' (if(d&&d')=true then(c.G t).O else [])) ⟨rfl,rfl,rfl,rfl,λu hu=> ?_⟩ ?_
 ·rcases hu with hu|rfl
  ·exact .inl hu
  ·exact hU u rfl
 ·have:=H8.put (lX.mkGd gs h.gs) o.dst;rw[QV];exact this
end
section
variable {P:Program} {c:Cx} {n nx:Nat} {sl sl0:Nat->SV} {hp hp0:Nat->Option Ai} {a:Act} {o:Oper} {gs:Gd} {e:Bf} {sg:BY} {nv:Nat}
theorem LY{t el:TypeId}(h:CH P t=some el):P.underlying t=some (.slice el):=by
 unfold CH at h;split at h
 ·simp at h;subst h;assumption
 ·cases h
theorem zBn{ts:List Nat}{l:List (Nat × Ai)}(k:Bu c.ρ gs)(h:Eg hp0 gs ts=some l):∀t f,(t,f)∈l-> ∃g x f',C3 c.ρ (hp0 t) f'/\Nw f' g x:=by intro t f hf;obtain⟨_,_,g,x,f',_,r⟩:=(QI k h).1 t f hf;exact⟨g,x,f',r⟩
theorem zB4(h:BB P c n nx sl hp a sl0 hp0 o gs){x y:Operand}{tx ty:TypeId}{cl:Call}(ho:o.op= .call cl)(AD:cl.callee= .builtin .append)(Dk:cl.args.toList=[x,y])(Eo:cl.argTypes.toList=[tx,ty])
  {s1 s2:SV} (BO:BW sl0 gs x=some s1) (Bd:BW sl0 gs y=some s2) (he:zv1 P hp0 gs nx tx ty s1 s2=some e) (hc:∀q∈e.dn,Cn.den c.ρ q):AJ P o c n nx sl hp gs a e:=by
 have Aj:cl.args= #[x,y]:=by apply Array.ext';simp[Dk]
 have DL:x∈o.op.operands:=by simp[ho,Op.operands,Call.operands,AD,Aj]
 unfold zv1 at he;split at he
 ·cases he
 rename_i K0;have K0:tx=ty:=by simpa using K0
 subst K0;split at he
 ·rename_i el BK;have BK:=LY BK;split at he
  ·cases he
  rename_i hz;have hz:Jh P el=true:=by simpa using hz
  split at he
  ·cases he
  rename_i ye hy;split at he
  ·cases he
  rename_i fz d ck CG;obtain⟨ts,IT⟩:∃ts,Eg hp0 gs ts=some fz:=by
   unfold YB at CG;split at CG
   ·simp only[Af,A0]at CG;obtain⟨rfl,_⟩:=CG;exact⟨[],rfl⟩
   ·split at CG
    ·obtain⟨l,hl,CG⟩:=Aw.1 CG;simp only[A0]at CG;obtain⟨rfl,_⟩:=CG;exact⟨_,hl⟩
    ·cases CG
  have r1:=h.dy BO DL;have fresh:∀f,(nx,f)∉fz:=λf hf=>by
   obtain⟨_,_,_,r,_⟩:=zBn (c:=c) h.gs IT nx f hf;have r:=Pa h.hp r;cases hh:hp nx with
   |none=>rw[hh]at r;exact r.elim
   |some e9=>exact O5 h (h.rel.dv nx e9 hh)
  have hK:∀g,¬c.K nx g:=λg hg=>O5 h (h.rel.de _ _ hg);have GR:=h.rel.off nx (λe9 hr=>by
   cases hh:hp nx with
   |none=>rw[hh]at hr;exact hr.elim
   |some e8=>exact O5 h (h.rel.dv nx e8 hh))
  have Ze:c.A.pin nx=none:=by
   cases hh:c.A.pin nx with
   |none=>rfl
   |some v=>exact absurd (h.rel.base.pins nx v hh).1 (O5 h)
  have Rk:∀u,u=nx->c.U u\/(nx<=u/\u<nx+B1):=λu hu=> .inr ⟨by omega,by rw[hu];simp[B1]⟩;have hzc:P.cellsOf el≠0:=by obtain⟨i,_,_,_,_,h1,h2,_⟩:=Nd hz;omega
  split at he
  ·rename_i t g;split at he
   ·rename_i e' sz' g' c0 d' hl;split at he
    ·rename_i hh;obtain⟨rfl,rfl,rfl,rfl,D4⟩:=hh;simp only[Af]at he;subst he;have FT:=Df hl h.gs;obtain⟨q1,q2,N,q3,q4,q5,q6⟩:=h.eh t _ FT;generalize hv:a.eval x=v at r1;cases r1 with
     |own k1 k2 _=>
      have:=zA (nx:=nx) h ho AD Dk Eo BK hz Bd hy CG (hc _ (by simp)) (t:=t) (g:=g+1) (.inr (by omega)) (c0:=c0) (d':=d') (hc _ (by simp)) (λf hf=>by simp only[Bk,List.contains_eq_mem,decide_eq_false_iff_not]at D4;exact D4 (List.mem_map.2 ⟨_,hf,rfl⟩)) (λhh=>by have:=q2 _ hh;omega) hv (by rw[<-k2];exact q3) rfl q4 q5 (λg' CK=>by have:=q2 _ CK;omega) (λu hu=> .inl (by rw[hu];exact h.rel.de t g q1)) (ckl:=[.room c0 ye (P.bytesOf el),ck])
      exact this
    ·cases he
   ·cases he
  ·simp only[Af]at he;subst he;generalize hv:a.eval x=v at r1;cases r1 with
   |emp _=>have:=zA (nx:=nx) h ho AD Dk Eo BK hz Bd hy CG (hc _ (by simp)) (t:=nx) (g:=0) (.inl Ze) (c0:= .lst .nil) (d':=true) (top:=[]) (N0:=[]) (hc _ (by simp)) fresh (hK 0) hv ⟨[],rfl,by simp,by omega, .inl ⟨rfl,⟨_,rfl⟩,rfl,rfl⟩⟩ GR.1 (by simp) (λ_=>⟨rfl,GR.2⟩) (λg' CK=>absurd CK (hK g')) Rk (ckl:=[.room (.lst .nil) ye (P.bytesOf el),ck]);rw[Bool.and_true]at this;exact this
  ·simp only[Af]at he;subst he;generalize hv:a.eval x=v at r1;cases r1 with
   |dg _=>have:=zA (nx:=nx) h ho AD Dk Eo BK hz Bd hy CG (hc _ (by simp)) (t:=nx) (g:=0) (.inl Ze) (c0:= .lst .nil) (d':=true) (top:=[]) (N0:=[]) (hc _ (by simp)) fresh (hK 0) hv ⟨[],rfl,by simp,by omega, .inl ⟨rfl,⟨_,rfl⟩,rfl,rfl⟩⟩ GR.1 (by simp) (λ_=>⟨rfl,GR.2⟩) (λg' CK=>absurd CK (hK g')) Rk (ckl:=[.room (.lst .nil) ye (P.bytesOf el),ck]);rw[Bool.and_true]at this;exact this
  ·cases he
 ·cases he
end
section
variable {P:Program} {c:Cx} {n nx:Nat} {sl sl0:Nat->SV} {hp hp0:Nat->Option Ai} {a:Act} {o:Oper} {gs:Gd} {e:Bf} {sg:BY} {nv:Nat}
theorem Xz:∀{ts us:List Nat} {l m:List (Nat × Ai)},Eg hp0 gs ts=some l->Eg hp0 gs us=some m->Eg hp0 gs (ts++us)=some (l++m)
 | [],us,l,m,h,k=>by simp[Eg]at h;subst h;simpa using k
 |t::ts,us,l,m,h,k=>by
  unfold Eg at h;simp only[List.cons_append];unfold Eg;split at h
  ·rename_i ety sz g x d l' hl BP;have ih:=Xz BP k;split at h
   ·rename_i hg;simp at h;subst h;simp[hl,ih,hg]
   ·cases h
  ·rename_i ety sz dl g ep x l' hl BP;have ih:=Xz BP k;split at h
   ·rename_i hg;simp at h;subst h;simp[hl,ih,hg]
   ·cases h
  ·rename_i g x l' hl BP;have ih:=Xz BP k;simp at h;subst h;simp[hl,ih]
  ·rename_i ty g cs l' hl BP;have ih:=Xz BP k;simp at h;subst h;simp[hl,ih]
  ·cases h
theorem zxN{ts us:List Nat}(hs:∀t∈ts,t∈us){b:Nat}(h:(c.da ts).ok b):(c.da us).ok b:=by refine⟨λhm=>h.1 ?_,h.2⟩;obtain⟨u,hu,hb⟩:=Cx.kz hm;exact⟨u,by simp only[Cx.da];rw[if_neg (λhh=>hu (hs u hh))];exact hb⟩
theorem zvY{w:World}{v:Value}{x:AV}{f:List Nat}{t:TypeId}(h:Rd w [v] [x] f)(hg:Aq P t=true\/P.cellsOf t=1)(hx:if Aq P t then∃cs,x= .agg cs/\cs.length=P.cellsOf t else(∀cs,x≠ .agg cs)/\ ∀cs,x≠ .tup cs):
  Rd w v.cells.toList x.cells f/\(∀u∈v.cells.toList,u.oneCell'=true)/\x.cells.length=P.cellsOf t/\v.cells.size=P.cellsOf t:=by
 split at hx
 ·obtain⟨cs,rfl,hl⟩:=hx;obtain⟨as_,rfl,h1,h2⟩:=Kq h rfl;have:=h2.len;exact⟨by simpa[Value.cells,AV.cells]using h2,by simpa[Value.cells]using h1,hl,by simp[Value.cells];omega⟩
 ·rename_i hna;have h1:P.cellsOf t=1:=by rcases hg with h'|h';exact absurd h' hna;exact h'
  have C8:=zrW h hx.1 hx.2;have Hr:x.cells=[x]:=by cases x<;>first|rfl|exact absurd rfl (hx.1 _)
  rw[one_cells C8,Hr];exact⟨by simpa using h,by simpa using C8,by simp[h1],by simp[h1]⟩
theorem zuR(h:Rel c n sl hp a)(hs:∀t e,hp0 t=some e->hp t=some e)(k:Bu c.ρ gs){t:TypeId}(hg:Aq P t=true\/P.cellsOf t=1):∀(ss:List SV) (vs:List Value) {xs:List E} {fz:List (Nat × Ai)} {d:Bool} {ck:List Cn},SR c ss vs->YA P hp0 gs t ss=some (xs,fz,d,ck)->(∀q∈ck,q.den c.ρ)->
  ∃N,Rd c.w (vs.flatMap λv=>v.cells.toList) (Az (xs.map (E.den c.ρ))) N/\(d=true->N=[])/\(∃ts,Eg hp0 gs ts=some fz)/\(∀b∈N,(c.da (fz.map (·.1))).ok b)/\(∀v∈vs,v.cells.size=P.cellsOf t/\ ∀u∈v.cells.toList,u.oneCell'=true)/\(∀x∈xs,(x.den c.ρ).cells.length=P.cellsOf t)/\xs.length=vs.length
 | [],vs,xs,fz,d,ck,hr,ht,hc=>by simp[YA]at ht;obtain⟨rfl,rfl,rfl,rfl⟩:=ht;cases hr;exact⟨[],by simpa[Az]using Rd.nil,λ_=>rfl,⟨[],rfl⟩,by simp,by simp,by simp,rfl⟩
 |s::ss,[],xs,fz,d,ck,hr,ht,hc=>by have:=hr.len;simp at this
 |s::ss,v::vs,xs,fz,d,ck,hr,ht,hc=>by
  obtain⟨r1,r2⟩:=hr.dh;unfold YA at ht;split at ht
  ·rename_i x fz1 d1 ck1 xs2 fz2 d2 ck2 h1 h2;simp only[Af,A0]at ht;obtain⟨rfl,rfl,rfl,rfl⟩:=ht;obtain⟨f,q1,q2,⟨ts1,q3,q4⟩,q5⟩:=zvZ h hs k r1 h1 (λq hq=>hc q (by simp[hq]));obtain⟨N,p1,p2,⟨ts2,p3⟩,p4,p5,p6,p7⟩:=zuR h hs k hg ss vs r2 h2 (λq hq=>hc q (by simp[hq]));obtain⟨o1,o2,o3,o4⟩:=zvY (P:=P) q1 hg q5;refine⟨f++N,?_,λhd=> ?_,⟨_,Xz q3 p3⟩,λb hb=> ?_,?_,?_,by simp[p7]⟩
   ·simpa[Az]using o1.app p1
   ·simp only[Ac]at hd;rw[q2 hd.1,p2 hd.2];rfl
   ·rcases Ae.1 hb with hb|hb
    ·exact zxN (λt ht=>by simp only[List.map_append,Ae];exact .inl ht) (q4 b hb)
    ·exact zxN (λt ht=>by simp only[List.map_append,Ae];exact .inr ht) (p4 b hb)
   ·intro u hu;rcases Ag.1 hu with rfl|hu
    ·exact⟨o4,o2⟩
    ·exact p5 u hu
   ·intro u hu;rcases Ag.1 hu with rfl|hu
    ·exact o3
    ·exact p6 u hu
  ·cases ht
theorem zuB{sz:Nat}(place:Nat->Option (Nat × Nat))(GU:∀i,place i=some (i*sz,sz)):∀(vs:List Value) (k:Nat) (C:Array Value) (pre suf:List Value),C.toList=pre++suf->pre.length=k*sz->suf.length=vs.length*sz->(∀v∈vs,v.cells.size=sz)->
  ∃C',Instr.fill place C ((vs.zipIdx k).map λp=>(p.2,p.1))=some C'/\C'.toList=pre++vs.flatMap λv=>v.cells.toList
 | [],k,C,pre,suf,h,_,h2,_=>by have:suf=[]:=List.eq_nil_of_length_eq_zero (by simpa using h2);subst this;exact⟨C,rfl,by simpa using h⟩
 |v::vs,k,C,pre,suf,h,h1,h2,h3=>by
  have hv:=h3 v (by simp);simp only[AH,Nat.add_mul,Nat.one_mul]at h2;have hC:C.size=pre.length+suf.length:=by rw[<-BF,h,Av]
  have NQ:(v.cells.zipIdx.foldl (λcs (p:Value × Nat)=>cs.setIfInBounds (k*sz+p.2) p.1) C).toList=setVs C.toList (k*sz) v.cells.toList:=by have:=zGc v.cells.toList 0 (k*sz) C (by simp;omega);rw[<-Array.foldl_toList,Array.toList_zipIdx];simpa using this
  have oL:setVs C.toList (k*sz) v.cells.toList=(pre++v.cells.toList)++suf.drop sz:=by unfold setVs;rw[h,<-h1,List.take_left' rfl];congr 1;rw[List.drop_append,List.drop_eq_nil_of_le (by omega)];simp[hv]
  obtain⟨C',g1,g2⟩:=zuB place GU vs (k+1) (v.cells.zipIdx.foldl (λcs (p:Value × Nat)=>cs.setIfInBounds (k*sz+p.2) p.1) C) (pre++v.cells.toList) (suf.drop sz) (by rw[NQ,oL]) (by simp[h1,hv,Nat.add_mul]) (by simp;omega) (λu hu=>h3 u (by simp[hu]));refine⟨C',?_,by rw[g2];simp⟩;simp only[List.zipIdx_cons,List.map_cons];unfold Instr.fill;simp only[GU];rw[if_neg (by simp[hv];omega)];exact g1
theorem AJ.newRow(h:BB P c n nx sl hp a sl0 hp0 o gs){ts:List Nat}{fz:List (Nat × Ai)}(IT:Eg hp0 gs ts=some fz){el:TypeId}{C:Array Value}{cap:Nat}{xs:List AV}{x:E}{d:Bool}{N:List Nat}{ckl:List Cn}{wd:World}(hwd:wd.heap=c.w.heap/\wd.os=c.w.os/\wd.tape=c.w.tape/\wd.output=c.w.output)
  (hr:(execOp a.eval o).run P c.w= .ok (.value (.slice (some ⟨c.w.heap.size,0,none⟩) xs.length cap)) (wd.alloc (.cells C el))) (hx:x.den c.ρ= .sl xs) (BJ:P.cellsOf el≠0) (AD:∀y∈xs,y.cells.length=P.cellsOf el) (hle:xs.length<=cap) (FE:cap<=maxLen) (hC:C.size=cap*P.cellsOf el)
  (h1:∀u∈C.toList.take (xs.length*P.cellsOf el),u.oneCell'=true) (hN:Rd c.w (C.toList.take (xs.length*P.cellsOf el)) (Az xs) N) (GB:∀b∈N,(c.da (fz.map (·.1))).ok b) (hd:d=true->N=[]):
  AJ P o c n nx sl hp gs a {dn:=ckl,val:= .own nx 0,cx:=fz++ [(nx,Dg gs (.row el (P.cellsOf el) 0 x d))]}:=by
 intro next Q hk
 unfold Oper.wp;rw[hr,Oper.upon_value];have hU:=O5 h;have DM:=h.rel.freeze h.hp h.gs IT;have hK:∀g,¬c.K nx g:=λg hg=>hU (h.rel.de _ _ hg);have Ze:c.A.pin nx=none:=by
  cases hh:c.A.pin nx with
  |none=>rfl
  |some v=>exact absurd (h.rel.base.pins nx v hh).1 hU
 have GR:=h.rel.off nx (λe9 hr=>by
  cases hh:hp nx with
  |none=>rw[hh]at hr;exact hr.elim
  |some e8=>exact hU (h.rel.dv nx e8 hh))
 obtain⟨w1,w2,w3,w4⟩:=hwd;have PD:c.w.grownBy (wd.alloc (.cells C el)) (some c.w.heap.size):=by
  refine⟨w2,w3,w4,?_,λk hk _=> ?_⟩
  ·show c.w.heap.size<=(wd.heap.push _).size;simp[w1]
  ·have:=Below.heap_alloc wd (.cells C el) k (by rw[w1];exact hk);rw[this,w1]
 have NX:(wd.alloc (.cells C el)).heap[c.w.heap.size]?=some (.cells C el (0,0)):=by have:=heap_alloc_new wd (.cells C el);rw[w1]at this;exact this
 have AP:c.w.heap.size<(wd.alloc (.cells C el)).heap.size:=Di NX;have hO:(c.da (fz.map (·.1))).G nx=⟨[],[]⟩\/((c.da (fz.map (·.1))).G nx).O=[]:=by
  right;simp only[Cx.da];split
  ·rfl
  ·exact GR.2
 have H8:=DM.cg (gs:=gs) (t:=nx) (g:=0) (w':=wd.alloc (.cells C el)) (row:=some c.w.heap.size) (top:=[c.w.heap.size]) (O:=[]) (v:= .slice (some ⟨c.w.heap.size,0,none⟩) xs.length cap) (.inl Ze) (hK 0) PD (λg0 FF=>by cases FF;exact .inr ⟨rfl,AP⟩) (.inr ⟨_,rfl,rfl⟩) (.inl rfl)
  (.row el (P.cellsOf el) 0 x d) (by intros;simp) h.gs (λJ9=>by
   refine⟨.inr ⟨rfl,rfl⟩,λg' CK=> ?_,N,?_,λb hb=>J9.ok b (hN.inb b hb) (GB b hb),λFo=> ?_,λ_=>by simp[Cx.cg]⟩
   ·rcases CK with CK|⟨_,rfl⟩
    ·exact absurd CK (hK g')
    ·exact AB _
   ·have e1:((c.da (fz.map (·.1))).cg nx 0 (wd.alloc (.cells C el)) (.slice (some ⟨c.w.heap.size,0,none⟩) xs.length cap) [c.w.heap.size] []).H nx 0= .slice (some ⟨c.w.heap.size,0,none⟩) xs.length cap:=by simp[Cx.cg]
    have e2:(((c.da (fz.map (·.1))).cg nx 0 (wd.alloc (.cells C el)) (.slice (some ⟨c.w.heap.size,0,none⟩) xs.length cap) [c.w.heap.size] []).G nx).top=[c.w.heap.size]:=by simp[Cx.cg]
    rw[e1,e2];show Dd (wd.alloc (.cells C el)) el (P.cellsOf el) _ (x.den c.ρ) _ N;rw[hx];exact⟨xs,rfl,AD,by omega, .inr ⟨_,cap,C,rfl,hle,FE,NX,hC,rfl,h1,hN.frame λb hb=>J9.mem b (hN.inb b hb) (GB b hb)⟩⟩
   ·rw[hd Fo];exact⟨rfl,by simp[Cx.cg]⟩)
 have lX:SR ((c.da (fz.map (·.1))).cg nx 0 (wd.alloc (.cells C el)) (.slice (some ⟨c.w.heap.size,0,none⟩) xs.length cap) [c.w.heap.size] []) [.own nx 0] [.slice (some ⟨c.w.heap.size,0,none⟩) xs.length cap]:=
  .own (.inr ⟨rfl,rfl⟩) (by simp[Cx.cg]) .nil
 refine hk _ ((c.da (fz.map (·.1))).cg nx 0 (wd.alloc (.cells C el)) (.slice (some ⟨c.w.heap.size,0,none⟩) xs.length cap) [c.w.heap.size] []) ⟨rfl,rfl,rfl,rfl,λu hu=> ?_⟩ ?_
 ·rcases hu with hu|rfl
  ·exact .inl hu
  ·exact .inr ⟨AB _,by simp[B1]⟩
 ·have:=H8.put (lX.mkGd gs h.gs) o.dst;rw[QV];exact this
theorem zri{t el:TypeId}(hu:P.underlying t=some (.slice el))(BC:DV P el=true){i:TypeInfo}{z:Value}(hi:P.info? el=some i)(hz:i.zero=some z)(CI:P.cellsOf el=i.size)(m:Nat)(hle:m*i.size<=2^24)(parts:Array (Nat × Value))(C:Array Value)
  (hf:Instr.fill (λj=>some (j*i.size,i.size)) ((Array.range (m*i.size)).map (λj=>(if m*i.size=0 then #[]else z.cells)[j % (if m*i.size=0 then #[]else z.cells).size]!)) parts.toList=some C) (w:World):
  (Instr.buildSlice t m parts).run P w= .ok (.slice (some ⟨w.heap.size,0,none⟩) m m) (w.alloc (.cells C el)):=by
 have nN: ¬(2^24<m*i.size):=by omega
 have IY:Array.range 0= #[]:=rfl;by_cases h0:m*i.size=0
 ·simp only[h0,if_true,IY]at hf;have Vh:∀f:Nat->Value,Array.map f #[]= #[]:=λf=>by simp
  rw[Vh]at hf;simp only[Instr.buildSlice,Sem.run_bind,run_underlying hu,Result.andThen_ok,QP BC,CI];simp[h0,IY,hf,newRow]
 ·simp only[h0,if_false]at hf;simp only[Instr.buildSlice,Sem.run_bind,run_underlying hu,Result.andThen_ok,QP BC,CI];simp[h0,nN,zeroValue,typeInfo,hi,hz,hf,newRow]
theorem zvl(h:BB P c n nx sl hp a sl0 hp0 o gs){t:TypeId}{m:Nat}{parts:Array (Nat × Operand)}(ho:o.op= .buildSlice t m parts){ps:List (Nat × SV)}(N5:parts.toList.mapM (λ(p:Nat × Operand)=>(BW sl0 gs p.2).map λs=>(p.1,s))=some ps)(he:zpj P hp0 gs nx t m ps=some e)(hc:∀q∈e.dn,Cn.den c.ρ q):AJ P o c n nx sl hp gs a e:=by
 obtain⟨e1,e2⟩:=jT (c:=c) (a:=a) (parts.toList.map (·.2)) (λx s hx hm=>h.dy hx (by simpa[ho,Op.operands]using hm)) (λx hx=>List.mem_map.2 ⟨x,hx,rfl⟩) N5;unfold zpj at he;split at he
 ·rename_i el BK;have BK:=LY BK;split at he
  ·cases he
  rename_i AT;simp only[not_or,Bk,Bool.not_eq_false',ne_eq,Bool.not_eq_false,Nat.not_lt,Decidable.not_not]at AT;obtain⟨hz,BC,AN,hle,EZ⟩:=AT;have AN:Aq P el=true\/P.cellsOf el=1:=by simpa using AN
  obtain⟨i,z,hi,Hk,DA,BJ,CI,FD⟩:=Nd hz;split at he
  ·rename_i xs fz d ck VU;split at he
   ·simp only[Af]at he;subst he;obtain⟨N,p1,p2,⟨ts,p3⟩,p4,p5,p6,p7⟩:=zuR h.rel h.hp h.gs AN (ps.map (·.2)) (parts.toList.map λp=>a.eval p.2) e2 VU hc;have hlen:(parts.toList.map λp=>a.eval p.2).length=m:=by
     have:ps.length=m:=by have:=congrArg List.length EZ;simpa using this
     have h9:=congrArg List.length e1;simp at h9 ⊢;omega
    have Ik:(parts.map λ(x:Nat × Operand)=>(x.1,a.eval x.2)).toList=((parts.toList.map λp=>a.eval p.2).zipIdx 0).map λp=>(p.2,p.1):=by
     have KP:parts.toList.map (·.1)=List.range m:=by rw[<-e1,EZ]
     apply List.ext_getElem?;intro j;have hj:(parts.toList.map (·.1))[j]?=(List.range m)[j]?:=by rw[KP]
     simp only[Array.toList_map,List.getElem?_map,List.getElem?_zipIdx]at hj ⊢;cases hp:parts.toList[j]? with
     |none=>simp
     |some p=>
      rw[hp]at hj;simp only[Option.map_some,Af]at hj ⊢;have nG:j<m:=by
       rcases Nat.lt_or_ge j m with hh|hh
       ·exact hh
       ·rw[List.getElem?_eq_none (by simpa using hh)]at hj;cases hj
      rw[List.getElem?_range nG]at hj;simp at hj;simp[hj]
    obtain⟨C',f1,f2⟩:=zuB (sz:=i.size) (λj=>some (j*i.size,i.size)) (λj=>rfl) (parts.toList.map λp=>a.eval p.2) 0 ((Array.range (m*i.size)).map (λj=>(if m*i.size=0 then #[]else z.cells)[j % (if m*i.size=0 then #[]else z.cells).size]!)) [] _ (by simp;rfl) (by simp) (by simp[hlen]) (λv hv=>by rw[<-CI];exact(p5 v hv).1);have Ew:C'.toList.length=m*P.cellsOf el:=by
     rw[f2,CI];simp only[List.nil_append];have:∀(L:List Value),(∀v∈L,v.cells.size=i.size)->(L.flatMap λv=>v.cells.toList).length=L.length*i.size:=by
      intro L
      induction L with
      |nil=>intro _;simp
      |cons v L ih=>intro hL;simp only[List.flatMap_cons,Av,AH,BF];rw[ih (λu hu=>hL u (by simp[hu])),hL v (by simp),Nat.add_mul];omega
     rw[this _ (λv hv=>by rw[<-CI];exact(p5 v hv).1),hlen]
    have MO:(xs.map (E.den c.ρ)).length=m:=by rw[List.length_map,p7,hlen]
    have B4:C'.toList.take ((xs.map (E.den c.ρ)).length*P.cellsOf el)=(parts.toList.map λp=>a.eval p.2).flatMap λv=>v.cells.toList:=by rw[MO,<-Ew,List.take_length,f2];simp
    refine AJ.newRow (xs:=xs.map (E.den c.ρ)) (N:=N) (C:=C') (cap:=m) (wd:=c.w) h p3 ⟨rfl,rfl,rfl,rfl⟩ ?_ (by simp[E.den,EL.ez]) (by omega) (λy hy=> ?_) (by omega) (by simp only[maxLen];have:m*1<=m*P.cellsOf el:=Nat.mul_le_mul_left _ (by omega);omega) (by rw[<-BF,Ew]) ?_ (by rw[B4];exact p1) p4 p2
    ·rw[MO];have A6:=zri (P:=P) BK BC hi Hk CI m (by rw[<-CI];omega) (parts.map λ(x:Nat × Operand)=>(x.1,a.eval x.2)) C' (by rw[Ik];exact f1) c.w;simp only[execOp,ho,Sem.run_bind];rw[A6];rfl
    ·obtain⟨q,hq,rfl⟩:=List.mem_map.1 hy;exact p6 q hq
    ·rw[B4];intro u hu;obtain⟨v,hv,hu⟩:=List.mem_flatMap.1 hu;exact(p5 v hv).2 u hu
   ·cases he
  ·cases he
 ·cases he
end
end
end Go.Proofs.YtlmjpjceiefpoaaGreatDoor

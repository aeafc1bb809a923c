/- Parts of a proof, joined: WA, VJa, VK, VL, VM, VN, VO, VP, VQ, VR, VS, VT, VU, VV, VW. -/
import Derived.Test.YteeafhlnofapaaaGreatC2
import Derived.WalkSpells
import Derived.Laws.BytesArg
set_option linter.unusedVariables false
set_option linter.unusedSimpArgs false
namespace Go.Proofs.YteeafhlnofapaaaGreat
open Go.RowKit
section
theorem Bp.{u}{α:Type u}{a:Array α}:a.toList.length=a.size:=Array.length_toList
theorem AG.{u,v}{α:Type u}{β:Type v}(a:α)(b:β)(c:α)(d:β):((a,b)=(c,d))=(a=c/\b=d):=Prod.mk.injEq a b c d
theorem Ht:∀{l:List (Nat × Ab)} {t:Nat} {e:Ab},Av l t=some e->(t,e)∈l
 | [],_,_,h=>by simp[Av]at h
 |(u,f)::l,t,e,h=>by
  simp only[Av]at h;split at h
  ·rename_i hu;subst hu;simp at h;subst h;simp
  ·exact List.mem_cons_of_mem _ (Ht h)
theorem KJ{α:Type}:∀{l:List (Nat × α)} {t:Nat} {e:α},l.lookup t=some e->(t,e)∈l
 | [],_,_,h=>by simp at h
 |(u,f)::l,t,e,h=>by
  simp only[List.lookup_cons]at h;split at h
  ·rename_i hu;simp at h hu;subst h;subst hu;simp
  ·exact List.mem_cons_of_mem _ (KJ h)
theorem Te:∀{θ:List (Nat × Option Nat)},zip θ=true-> ∀{t u v:Nat},(t,some v)∈θ->(u,some v)∈θ->t=u
 | [],_,t,u,v,h,_=>by simp at h
 |(p,q)::θ,hn,t,u,v,h1,h2=>by
  have kX:zip θ=true:=by cases q<;>(simp only[zip,Ad]at hn;exact hn.2)
  have key:∀x,(p,some v)=(p,q)->(x,some v)∈θ->False:=by intro x hq hx;cases hq;simp only[zip,Ad,Bg]at hn;have:=hn.1 _ hx;simp at this
  rcases Ac.1 h1 with h3|h3<;>rcases Ac.1 h2 with h4|h4
  ·cases h3;cases h4;rfl
  ·cases h3;exact(key u rfl h4).elim
  ·cases h4;exact(key t rfl h3).elim
  ·exact Te kX h3 h4
def BO(hp:List (Nat × Ab))(t:Nat):Option Nat:=match Av hp t with
 |some (.box ..)=>some 0
 |some (.row _ _ g _ _)=>some g
 |some (.a6 g _)=>some g
 |some (.deep _ _ _ g _ _)=>some g
 |_=>none
def F6(hp:List (Nat × Ab))(t:Nat):Bool:=match Av hp t with
 |some (.box ..)=>true
 |some (.row ..)=>true
 |some (.deep ..)=>true
 |_=>false
def J6(pat leaf:Option Ab)(g:GI):GI:=match pat,leaf with
 |some (.row ..),some (.deep ..)=>⟨g.top.take 1,[]⟩
 |_,_=>g
theorem xJ{p l:Option Ab}{g:GI}{b:Nat}(h:b∈(J6 p l g).top):b∈g.top:=by
 unfold J6 at h;split at h
 ·exact BA h
 ·exact h
theorem vD{p l:Option Ab}{g:GI}{b:Nat}(h:b∈(J6 p l g).own):b∈g.own:=by
 unfold J6 at h;split at h
 ·simp only[GI.own,AE]at h;simp[GI.own,BA h]
 ·exact h
theorem sI{p l:Option Ab}{g:GI}(h:g.own.Nodup):(J6 p l g).own.Nodup:=by
 unfold J6;split
 ·simp only[GI.own,AE]at h ⊢;exact List.Sublist.nodup (List.Sublist.trans (List.take_sublist _ _) (List.sublist_append_left _ _)) h
 ·exact h
def CK(c:Cx)(ρ:List AV)(θ:List (Nat × Option Nat))(pat leaf:St):Cx:=
 {c with
  ρ:=ρ
  G:=λt=>if F6 pat.hp t then(match θ.lookup t with|some (some t')=>J6 (Av pat.hp t) (Av leaf.hp t') (c.G t')|_=>⟨[],[]⟩)else⟨[],[]⟩
  K:=λt g=>BO pat.hp t=some g
  H:=λt _=>match θ.lookup t with|some (some t')=>c.H t' ((BO leaf.hp t').getD 0)|_=> .slice none 0 0
  U:=λt=>t<pat.nx
  E:=λt=>match Av pat.hp t with|some (.deep _ _ _ _ ep _)=>ep|_=>0}
section
variable {c:Cx} {ρ:List AV} {nv n:Nat} {es:List E} {θ:List (Nat × Option Nat)} {pat leaf:St} {sl:Nat->SV} {a:Act}
theorem KV{t b:Nat}(h:b∈((CK c ρ θ pat leaf).G t).own):F6 pat.hp t=true/\ ∃t',θ.lookup t=some (some t')/\(b∈((CK c ρ θ pat leaf).G t).top->b∈(c.G t').top)/\b∈(c.G t').own:=by
 simp only[CK]at h ⊢;split at h
 ·rename_i ho;split at h
  ·rename_i t' ht;exact⟨ho,t',ht,λhb=>by rw[if_pos ho]at hb;exact xJ hb,vD h⟩
  ·simp[GI.own]at h
 ·simp[GI.own]at h
theorem NR{b:Nat}(h:c.ok b):(CK c ρ θ pat leaf).ok b:=by refine⟨λ⟨t,ht⟩=> ?_,h.2⟩;obtain⟨_,t',_,hg,_⟩:=KV (b:=b) (by simp only[GI.own,Ae];exact .inl ht);exact h.1 ⟨t',hg ht⟩
theorem JL(hp:ρ<+:c.ρ)(hn:ρ.length=nv){x y:E}(h:Ii nv es x y=true):x.den (ρ++(EL.of es).den c.ρ)=y.den c.ρ:=by
 obtain⟨τ,hτ⟩:=hp;have Jn:x.sc nv=true->x.beq y=true->x.den (ρ++(EL.of es).den c.ρ)=y.den c.ρ:=by intro h1 h2;rw[<-E.ah c.ρ x y h2];subst hn;generalize hq:(EL.of es).den c.ρ=q;rw[E.ao ρ q τ x h1,hτ]
 unfold Ii at h;split at h
 ·rename_i i;split at h
  ·rename_i hi;exact Jn (by simpa[E.sc]using hi) h
  ·rename_i hi;split at h
   ·rename_i z hz;rw[<-E.ah c.ρ z y h];simp only[E.den,EL.ct];rw[List.getElem?_append_right (by omega),hn,List.getElem?_map,hz];rfl
   ·cases h
 ·simp only[Ad]at h;exact Jn h.1 h.2
theorem uS(hrel:Rel c n sl (Av leaf.hp) a){s:SV}{v:Value}{y:E}(hs:SR c [s] [v])(h:Hy leaf s=some y):∃f,Rd c.w [v] [y.den c.ρ] f/\ ∀b∈f,c.de (BI (Av leaf.hp) [] (AN+1) [s]) b:=
 Gx (λt e hr=>hrel.ents t e hr) (Ed _) AN h hs AN (Ar _)
mutual
theorem gQ(hrel:Rel c n sl (Av leaf.hp) a)(hp:ρ<+:c.ρ)(hn:ρ.length=nv)(B6:∀t e,(t,e)∈pat.hp->GA nv es θ pat leaf t e=true):∀(m:Nat) {p s:SV} {v:Value},PK nv es θ pat leaf m p s=true->SR c [s] [v]->SR (CK c (ρ++(EL.of es).den c.ρ) θ pat leaf) [p] [v]
 |0,p,s,v,h,_=>by simp[PK]at h
 |m+1,p,s,v,h,hs=>by
  unfold PK at h;split at h
  ·exact .undef .nil
  ·rename_i x;split at h
   ·rename_i y hy;simp only[Ad,Bg,Bool.or_eq_true]at h;obtain⟨f,hf,G0⟩:=uS hrel hs hy;have hx:=JL (c:=c) hp hn h.1;refine .e (by rw[show(CK c (ρ++(EL.of es).den c.ρ) θ pat leaf).ρ=ρ++(EL.of es).den c.ρ from rfl,hx];exact hf) (λb hb=> ?_) .nil;rcases G0 b hb with hb|⟨t',Ky,hb⟩
    ·exact NR hb
    ·refine⟨λ⟨u,hu⟩=> ?_, .inr (hrel.gw.allow t' b (by simp[GI.own,hb]))⟩;obtain⟨ho,v',hl,hg,ON⟩:=KV (b:=b) (by simp only[GI.own,Ae];exact .inl hu);have hv:v'=t':=by
      refine Classical.byContradiction λBM=>hrel.gw.br v' t' BM b ON (by simp[GI.own,hb])
     subst hv;have:=h.2 _ Ky _ (KJ hl);simp only[bne_self_eq_false,B0,false_or]at this;unfold F6 at ho;split at this
     ·rename_i hh;rw[hh]at ho;simp at ho
     ·rename_i hh;rw[hh]at ho;simp at ho
     ·cases this
   ·cases h
  ·split at h
   ·cases hs with
    |bc _=>exact .bc .nil
   ·cases h
  ·split at h
   ·cases hs with
    |emp _=>exact .emp .nil
   ·cases hs with
    |bc _=>exact .emp .nil
   ·cases h
  ·rename_i t g;have key:∀t' v',BO pat.hp t=some g->θ.lookup t=some (some t')->IV leaf.hp t' v'=true->SR c [.own t' v'] [v]->SR (CK c (ρ++(EL.of es).den c.ρ) θ pat leaf) [.own t g] [v]:=by
    intro t' v' hg hl hv hs;cases hs with
    |own h1 h2 _=>
     refine .own hg ?_ .nil;show(match θ.lookup t with|some (some t')=>c.H t' ((BO leaf.hp t').getD 0)|_=>Value.slice none 0 0)=_;rw[hl];have:(BO leaf.hp t').getD 0=v':=by
      unfold IV at hv;unfold BO;split at hv
      ·rename_i hh;rw[hh];simpa using(AB.1 hv).symm
      ·rename_i hh;rw[hh];simpa using(AB.1 hv).symm
      ·rename_i hh;rw[hh];simpa using(AB.1 hv).symm
      ·cases hv
     show c.H t' ((BO leaf.hp t').getD 0)=_;rw[this];exact h2
   split at h
   ·rename_i g' _ _ DG;simp only[Ad,AB]at h;obtain⟨rfl,h⟩:=h;split at h
    ·simp only[Ad,AB]at h;exact key _ _ (by simp[BO,DG]) h.1 h.2 hs
    ·rw[AB]at h;cases hs with
     |bc _=>refine .own (p:=none) (q:=0) (r:=0) (by show BO pat.hp t=some g;simp[BO,DG]) ?_ .nil;show(match θ.lookup t with|some (some t')=>c.H t' ((BO leaf.hp t').getD 0)|_=>Value.slice none 0 0)=_;rw[h]
    ·cases h
   ·rename_i g' _ DG;simp only[Ad,AB]at h;obtain⟨rfl,h⟩:=h;split at h
    ·simp only[Ad,AB]at h;exact key _ _ (by simp[BO,DG]) h.1 h.2 hs
    ·cases h
   ·rename_i g' _ _ DG;simp only[Ad,AB]at h;obtain⟨rfl,h⟩:=h;split at h
    ·simp only[Ad,AB]at h;exact key _ _ (by simp[BO,DG]) h.1 h.2 hs
    ·rw[AB]at h;cases hs with
     |bc _=>refine .own (p:=none) (q:=0) (r:=0) (by show BO pat.hp t=some g;simp[BO,DG]) ?_ .nil;show(match θ.lookup t with|some (some t')=>c.H t' ((BO leaf.hp t').getD 0)|_=>Value.slice none 0 0)=_;rw[h]
    ·cases h
   ·cases h
  ·rename_i t o;split at h
   ·rename_i ty g cs DG;split at h
    ·rename_i t' o';simp only[Ad,AB]at h;obtain⟨rfl,hl⟩:=h;have GM:=B6 t _ (Ht DG);simp only[GA,hl]at GM;split at GM
     ·rename_i CG;cases hs with
      |bp h1 h2 _=>
       refine .bp (by show BO pat.hp t=some 0;simp[BO,DG]) ?_ .nil;show(match θ.lookup t with|some (some t')=>c.H t' ((BO leaf.hp t').getD 0)|_=>Value.slice none 0 0)=_;rw[hl];have:(BO leaf.hp t').getD 0=0:=by simp[BO,CG]
       simp only[this];exact h2
     ·cases GM
    ·cases h
   ·cases h
  ·cases h
  ·rename_i x i z o;split at h
   ·rename_i y j z' o';simp only[Ad,AB]at h;obtain⟨⟨⟨⟨⟨rfl,rfl⟩,h1⟩,h2⟩,h3⟩,h4⟩:=h;have hx:x.den (ρ++(EL.of es).den c.ρ)=y.den c.ρ:=by
     obtain⟨τ,hτ⟩:=hp;rw[<-E.ah c.ρ x y h2];subst hn;generalize (EL.of es).den c.ρ=q;rw[E.ao ρ q τ x h1,hτ]
    have hi:i.den (ρ++(EL.of es).den c.ρ)=j.den c.ρ:=by obtain⟨τ,hτ⟩:=hp;rw[<-E.ah c.ρ i j h4];subst hn;generalize (EL.of es).den c.ρ=q;rw[E.ao ρ q τ i h3,hτ]
    cases hs with
    |cu g1 g2 g3 g4 g5 g6 _=>refine .cu (f:=_) (by show Rd c.w _ [x.den (ρ++(EL.of es).den c.ρ)] _;rw[hx];exact g1) (λb hb=>NR (g2 b hb)) (by show i.den (ρ++(EL.of es).den c.ρ)=_;rw[hi];exact g3) g4 g5 (by show((x.den (ρ++(EL.of es).den c.ρ)).nth _).cells.length=_;rw[hx];exact g6) .nil
   ·cases h
  ·rename_i x o;split at h
   ·rename_i y o';simp only[Ad,AB]at h;obtain⟨⟨rfl,h1⟩,h2⟩:=h;have hx:x.den (ρ++(EL.of es).den c.ρ)=y.den c.ρ:=by
     obtain⟨τ,hτ⟩:=hp;rw[<-E.ah c.ρ x y h2];subst hn;generalize (EL.of es).den c.ρ=q;rw[E.ao ρ q τ x h1,hτ]
    cases hs with
    |cr g1 g2 _=>exact .cr (by show Rd c.w _ [x.den (ρ++(EL.of es).den c.ρ)] _;rw[hx];exact g1) (λb hb=>NR (g2 b hb)) .nil
   ·cases h
  ·split at h
   ·cases hs with
    |agg h9 h1 _=>exact .agg h9 (QT hrel hp hn B6 m h h1) .nil
   ·cases h
  ·split at h
   ·cases hs with
    |tup h1 _=>exact .tup (QT hrel hp hn B6 m h h1) .nil
   ·cases h
  ·split at h
   ·simp only[Ad,AB]at h;obtain⟨rfl,h⟩:=h;cases hs with
    |fn h1 _=>exact .fn (QT hrel hp hn B6 m h h1) .nil
   ·cases h
  ·cases h
  ·cases h
  ·cases h
  ·cases h
  ·rename_i i;split at h
   ·rename_i j;simp only[Ad,AB,Au]at h;obtain⟨rfl,hi⟩:=h;cases hs with
    |lent g1 _=>
     have hx:(E.var i).den (ρ++(EL.of es).den c.ρ)=(E.var i).den c.ρ:=by obtain⟨τ,hτ⟩:=hp;subst hn;generalize (EL.of es).den c.ρ=q;rw[E.ao ρ q τ (.var i) (by simpa[E.sc]using hi),hτ]
     exact .lent (show c.A.lo v ((E.var i).den (ρ++(EL.of es).den c.ρ)) by rw[hx];exact g1) .nil
   ·cases h
theorem QT(hrel:Rel c n sl (Av leaf.hp) a)(hp:ρ<+:c.ρ)(hn:ρ.length=nv)(B6:∀t e,(t,e)∈pat.hp->GA nv es θ pat leaf t e=true):∀(m:Nat) {ps ss:List SV} {vs:List Value},Ga nv es θ pat leaf m ps ss=true->SR c ss vs->SR (CK c (ρ++(EL.of es).den c.ρ) θ pat leaf) ps vs
 |0,ps,ss,vs,h,_=>by simp[Ga]at h
 |m+1,[],[],vs,h,hs=>by cases hs;exact .nil
 |m+1,p::ps,[],vs,h,hs=>by simp[Ga]at h
 |m+1,[],s::ss,vs,h,hs=>by simp[Ga]at h
 |m+1,p::ps,s::ss,[],h,hs=>by have:=hs.len;simp at this
 |m+1,p::ps,s::ss,v::vs,h,hs=>by simp only[Ga,Ad]at h;obtain⟨h1,h2⟩:=hs.bd;exact(gQ hrel hp hn B6 m h.1 h1).cons (QT hrel hp hn B6 m h.2 h2)
end
theorem s8(hrel:Rel c n sl (Av leaf.hp) a)(hp:ρ<+:c.ρ)(hn:ρ.length=nv)(B6:∀t e,(t,e)∈pat.hp->GA nv es θ pat leaf t e=true)(hθ:zip θ=true){t:Nat}{e:Ab}(ht:Av pat.hp t=some e):CM (CK c (ρ++(EL.of es).den c.ρ) θ pat leaf) t e:=by
 have h:=B6 t e (Ht ht);have Y6:F6 pat.hp t=false->(CK c (ρ++(EL.of es).den c.ρ) θ pat leaf).G t=⟨[],[]⟩:=by intro h0;simp only[CK];rw[if_neg (by rw[h0];simp)]
 have Y7:∀t',F6 pat.hp t=true->θ.lookup t=some (some t')->(CK c (ρ++(EL.of es).den c.ρ) θ pat leaf).G t=J6 (Av pat.hp t) (Av leaf.hp t') (c.G t'):=by intro t' h0 hl;simp only[CK];rw[if_pos h0,hl]
 have OC:∀t',F6 pat.hp t=true->θ.lookup t=some (some t')->(∀q1 q2 q3 q4 q5 q6,Av leaf.hp t'=some (.deep q1 q2 q3 q4 q5 q6)-> ∀p1 p2 p3 p4 p5,e≠ .row p1 p2 p3 p4 p5)->(CK c (ρ++(EL.of es).den c.ρ) θ pat leaf).G t=c.G t':=by
  intro t' h0 hl Du;rw[Y7 t' h0 hl,ht];unfold J6;split
  ·rename_i h1 h2;simp only[Aa]at h1;exact absurd h1 (Du _ _ _ _ _ _ h2 _ _ _ _ _)
  ·rfl
 have Ja:∀t' g,θ.lookup t=some (some t')->BO leaf.hp t'=some g-> ∀g',(CK c (ρ++(EL.of es).den c.ρ) θ pat leaf).H t g'=c.H t' g:=by intro t' g hl hg g';simp only[CK,hl,hg,C7]
 have D0:∀g,BO pat.hp t=some g-> ∀g',(CK c (ρ++(EL.of es).den c.ρ) θ pat leaf).K t g'->g'<=g:=by intro g hg g' hk;have BV:BO pat.hp t=some g':=hk;rw[hg]at BV;cases BV;exact Ar _
 cases e with
 |box ty g cs=>
  simp only[GA]at h;split at h
  ·rename_i t' hl;split at h
   ·rename_i ty' g' ds CG;simp only[Ad,AB]at h;obtain⟨⟨rfl,rfl⟩,h⟩:=h;obtain⟨b,C,h1,h2,h3,h4,h5,h6,h7⟩:=hrel.ents t' _ (by rw[CG];rfl);have hg:=OC t' (by simp[F6,ht]) hl (by intros;simp);exact⟨b,C,by show BO pat.hp t=some 0;simp[BO,ht],by rw[Ja t' 0 hl (by simp[BO,CG])];exact h2,by rw[hg];exact h3,by rw[hg];exact h4,h5,h6,QT hrel hp hn B6 _ h h7⟩
   ·cases h
  ·cases h
 |row et z g x d=>
  simp only[GA]at h;split at h
  ·rename_i t' hl;split at h
   ·rename_i et' z' g' y d' CG;simp only[Ad,AB,Bool.or_eq_true,Bh]at h;obtain⟨⟨⟨rfl,rfl⟩,hx⟩,hd⟩:=h;obtain⟨h1,h2,N,h3,h4,h5,h6⟩:=hrel.ents t' _ (by rw[CG];rfl);have hg:=OC t' (by simp[F6,ht]) hl (λ_ _ _ _ _ _ hh=>by rw[CG]at hh;cases hh);have Dh:=JL hp hn hx;have hK:BO pat.hp t=some g:=by simp[BO,ht]
    refine⟨hK,D0 g hK,N,?_,λb hb=>NR (h4 b hb),λCZ=> ?_,λhdf=> ?_⟩
    ·rw[Ja t' g' hl (by simp[BO,CG]),hg];show Cy c.w et z _ (x.den (ρ++(EL.of es).den c.ρ)) _ N;rw[Dh];exact h3
    ·rw[hg];exact h5 (by rcases hd with hd|hd;rw[CZ]at hd;cases hd;exact hd)
    ·rw[hg];cases d' with
     |false=>exact h6 rfl
     |true=>obtain⟨u1,u2⟩:=h5 rfl;rw[u2];exact u1
   ·rename_i et' z' l' g' ep' y CG;simp only[Ad,AB,Bh]at h;obtain⟨⟨⟨rfl,rfl⟩,hx⟩,rfl⟩:=h;obtain⟨h1,h2,_,h3,h4⟩:=hrel.ents t' _ (by rw[CG];rfl);have hg:(CK c (ρ++(EL.of es).den c.ρ) θ pat leaf).G t=⟨(c.G t').top.take 1,[]⟩:=by
     rw[Y7 t' (by simp[F6,ht]) hl,ht,CG];rfl
    have Dh:=JL hp hn hx;have hK:BO pat.hp t=some g:=by simp[BO,ht]
    obtain⟨f,k1,k2⟩:=h3.ownRow;have BT:((c.G t').top.take 1++(c.G t').top.drop 1).Nodup:=by rw[Bq];have:=hrel.gw.nodup t';simp only[GI.own,h4,AE]at this;exact this
    refine⟨hK,D0 g hK,f,?_,λb hb=> ?_,λCZ=>(by cases CZ),λ_=>by rw[hg]⟩
    ·rw[Ja t' g' hl (by simp[BO,CG]),hg];show Cy c.w et z _ (x.den (ρ++(EL.of es).den c.ρ)) _ f;rw[Dh];exact k1
    ·have Ck:b∈(c.G t').top:=BP (k2 b hb);refine⟨λ⟨u,hu⟩=> ?_, .inr (hrel.gw.allow t' b (by simp[GI.own,Ck]))⟩;obtain⟨_,v',Bm,_,ON⟩:=KV (b:=b) (by simp only[GI.own,Ae];exact .inl hu);have hv:v'=t':=Classical.byContradiction λBM=>hrel.gw.br v' t' BM b ON (by simp[GI.own,Ck]);subst hv;have:=Te hθ (KJ Bm) (KJ hl);subst this;rw[hg]at hu;exact(List.nodup_append.1 BT).2.2 b hu b (k2 b hb) rfl
   ·cases h
  ·rename_i hl;simp only[Ad,Au]at h;have Dh:=JL hp hn h.1;have hK:BO pat.hp t=some g:=by simp[BO,ht]
   have hg:(CK c (ρ++(EL.of es).den c.ρ) θ pat leaf).G t=⟨[],[]⟩:=by simp[CK,hl]
   refine⟨hK,D0 g hK,[],⟨[],?_,by simp,h.2, .inl ⟨rfl,⟨none,?_⟩,by rw[hg],rfl⟩⟩,by simp,λ_=>⟨rfl,by rw[hg]⟩,λ_=>by rw[hg]⟩
   ·show x.den (ρ++(EL.of es).den c.ρ)=_;rw[Dh];rfl
   ·simp[CK,hl]
  ·cases h
 |a6 g x=>
  have hg:=Y6 (by simp[F6,ht]);have hK:BO pat.hp t=some g:=by simp[BO,ht]
  simp only[GA]at h;split at h
  ·rename_i t' hl;have G0:∀b,b∈(c.G t').top->(CK c (ρ++(EL.of es).den c.ρ) θ pat leaf).ok b:=by
    intro b hb;refine⟨λ⟨u,hu⟩=> ?_, .inr (hrel.gw.allow t' b (by simp[GI.own,hb]))⟩;obtain⟨ho,v',Bm,B7,ON⟩:=KV (b:=b) (by simp only[GI.own,Ae];exact .inl hu);have hv:v'=t':=Classical.byContradiction λBM=>hrel.gw.br v' t' BM b ON (by simp[GI.own,hb]);subst hv;have:=Te hθ (KJ Bm) (KJ hl);subst this;simp[F6,ht]at ho
   split at h
   ·rename_i et' z' g' y d' CG;obtain⟨h1,h2,N,h3,h4,h5,h6⟩:=hrel.ents t' _ (by rw[CG];rfl);obtain⟨f,r1,r2,_⟩:=h3.rd;refine⟨hK,⟨f,?_,λb hb=>(r2 b hb).elim (G0 b) λhb=>NR (h4 b hb)⟩,by rw[hg],by rw[hg]⟩;rw[Ja t' g' hl (by simp[BO,CG])];show Rd c.w _ [x.den (ρ++(EL.of es).den c.ρ)] f;rw[JL hp hn h];exact r1
   ·rename_i g' y CG;obtain⟨h1,⟨f,r1,r2⟩,_,_⟩:=hrel.ents t' _ (by rw[CG];rfl);refine⟨hK,⟨f,?_,λb hb=>NR (r2 b hb)⟩,by rw[hg],by rw[hg]⟩;rw[Ja t' g' hl (by simp[BO,CG])];show Rd c.w _ [x.den (ρ++(EL.of es).den c.ρ)] f;rw[JL hp hn h];exact r1
   ·rename_i et' z' l' g' ep' y CG;obtain⟨h1,h2,_,h3,h4⟩:=hrel.ents t' _ (by rw[CG];rfl);obtain⟨f,r1,r2⟩:=h3.rd;refine⟨hK,⟨f,?_,λb hb=>G0 b (r2 b hb)⟩,by rw[hg],by rw[hg]⟩;rw[Ja t' g' hl (by simp[BO,CG])];show Rd c.w _ [x.den (ρ++(EL.of es).den c.ρ)] f;rw[JL hp hn h];exact r1
   ·cases h
  ·cases h
 |hol=>simp[GA]at h
 |pre=>simp[GA]at h
 |deep et z dl g ep x=>
  have hE:(CK c (ρ++(EL.of es).den c.ρ) θ pat leaf).E t=ep:=by simp[CK,ht]
  have hK:BO pat.hp t=some g:=by simp[BO,ht]
  simp only[GA]at h;split at h
  ·rename_i t' hl;split at h
   ·rename_i et' z' dl' g' ep' y CG;simp only[Ad,AB]at h;obtain⟨⟨⟨rfl,rfl⟩,Lq⟩,hx⟩:=h;have Lq:=Ax.dt Lq;subst Lq;obtain⟨h1,h2,_,h3,h4⟩:=hrel.ents t' _ (by rw[CG];rfl);have hg:=OC t' (by simp[F6,ht]) hl (by intros;simp);refine⟨hK,D0 g hK,hE,?_,by rw[hg];exact h4⟩;rw[Ja t' g' hl (by simp[BO,CG]),hg];show DC c.w _ _ [x.den (ρ++(EL.of es).den c.ρ)] _;rw[JL hp hn hx];exact h3
   ·cases h
  ·rename_i hl;have hg:(CK c (ρ++(EL.of es).den c.ρ) θ pat leaf).G t=⟨[],[]⟩:=by simp[CK,hl]
   simp only[Ad,Au,AB]at h;refine⟨hK,D0 g hK,hE,?_,by rw[hg]⟩;have e1:(CK c (ρ++(EL.of es).den c.ρ) θ pat leaf).H t g= .slice none 0 0:=by simp[CK,hl]
   rw[e1,hg];show DC c.w _ _ [x.den (ρ++(EL.of es).den c.ρ)] _;rw[JL hp hn h.1.1];exact .void h.1.2 (by rw[Ax.ak];exact h.2) .nil
  ·cases h
 |gd gs e=>simp[GA]at h
 |dead=>have hg:=Y6 (by simp[F6,ht]);exact⟨by rw[hg],by rw[hg]⟩
end
theorem eF{nv:Nat}{es:List E}{θ:List (Nat × Option Nat)}{pat leaf:St}:∀(m:Nat) {ps ss:List SV},Ga nv es θ pat leaf m ps ss=true-> ∀{i:Nat} {p:SV},ps[i]?=some p-> ∃s k,ss[i]?=some s/\PK nv es θ pat leaf k p s=true
 |0,ps,ss,h,_,_,_=>by simp[Ga]at h
 |m+1,[],ss,h,i,p,hp=>by simp at hp
 |m+1,q::ps,[],h,i,p,hp=>by simp[Ga]at h
 |m+1,q::ps,s::ss,h,i,p,hp=>by
  simp only[Ga,Ad]at h;cases i with
  |zero=>simp at hp;subst hp;exact⟨s,m,rfl,h.1⟩
  |succ i=>simpa using eF m h.2 (by simpa using hp)
theorem vM:T5:=by
 intro F nv pat τ es ρ ρ' a w hi hn hp hr;obtain⟨c,rfl,rfl,KC,hA,UA,Fq,hU,hrel⟩:=hr;unfold I4 at hi;simp only at hi;split at hi
 ·rename_i AI;simp only[Aa]at hi;generalize U5:(List.range (pat.nv-nv)).map (λj=>((Mw nv pat τ true pat.hp (Mw nv pat τ false pat.hp (K5 nv pat τ 2000 ⟨[],[]⟩ pat.sl τ.sl))).as_.lookup (nv+j)).getD (.int .i64 0))=es0 at AI hi;subst hi;generalize (Mw nv pat τ true pat.hp (Mw nv pat τ false pat.hp (K5 nv pat τ 2000 ⟨[],[]⟩ pat.sl τ.sl))).θ=θ at AI;clear U5;simp only[iP,Ad,AB,Bg,Au]at AI;obtain⟨⟨⟨⟨⟨⟨h1,hθ⟩,hlen⟩,CF⟩,Ct⟩,LQ⟩,Pp⟩:=AI;have B6:∀t e,(t,e)∈pat.hp->GA nv es0 θ pat τ t e=true:=λt e he=>(Ct _ he).1;have AA:∀t e,(t,e)∈pat.hp->t<pat.nx:=λt e he=>(Ct _ he).2;have Pk:∀t e,Av pat.hp t=some e-> ∀gs e',e≠ .gd gs e':=by
   rintro t e he gs e' rfl;have:=B6 t _ (Ht he);simp[GA]at this
  have AJ:∀t e e',Av pat.hp t=some e->(Cg (ρ++(EL.of es0).den c.ρ) (Av pat.hp t) e'↔e'=e):=by
   intro t e e' he;rw[he];cases e with
   |gd gs e9=>exact absurd rfl (Pk t _ he gs e9)
   |_=>simp[Cg,eq_comm]
  refine⟨CK c (ρ++(EL.of es0).den c.ρ) θ pat τ,rfl,rfl,KC,hA,UA,?_,λt ht=>ht,hrel.defers,by rw[hlen];exact hrel.size,⟨hrel.base.os,hrel.base.tape,hrel.base.output,hrel.base.size,λt v MW=> ?_,hrel.base.block,hrel.base.pk,hrel.base.lo⟩,λi=> ?_,λt e hr=> ?_,λt Du=> ?_,⟨λt=> ?_,λt u KA b hb BF=> ?_,λt b hb=> ?_,λt b hb=> ?_⟩,λt g hk=> ?_,λt e he=>AA t e (Ht he)⟩
  ·rw[h1,EL.ct];simp[hn]
  ·have LB:K0 t=true:=F.kr t v (by rw[<-hA];exact MW);refine⟨by
    show t<pat.nx;unfold K0 at LB;simp only[Ad,Au]at LB;omega,λhk=> ?_⟩
   have BV:BO pat.hp t=some 0:=hk;obtain⟨e,VJ⟩:∃e,Av pat.hp t=some e:=by
    unfold BO at BV;cases hh:Av pat.hp t with
    |none=>rw[hh]at BV;cases BV
    |some e=>exact⟨e,rfl⟩
   have DO:=Pp _ (Ht VJ);simp only[LB,Bool.not_true,Bool.false_or]at DO;have main:θ.lookup t=some (some t)->BO τ.hp t=some 0->c.K t 0->(CK c (ρ++(EL.of es0).den c.ρ) θ pat τ).H t 0=v:=by intro hl hg hK;simp only[CK,hl,hg,C7];exact(hrel.base.pins t v MW).2 hK
   unfold KE at DO;simp only[BO,VJ]at BV;rw[VJ]at DO;cases e with
   |box ty g cs=>
    simp only[Ad,AB]at DO;obtain⟨hl,hb⟩:=DO;split at hb
    ·rename_i ty' g' cs' CG;obtain⟨b,C,q1,_⟩:=hrel.ents t _ (by rw[CG];rfl);exact main hl (by simp[BO,CG]) q1
    ·cases hb
   |row ety sz g x d=>
    simp only[Aa]at BV;subst BV;simp only[bne_self_eq_false,Bool.false_or,Ad,AB]at DO;obtain⟨hl,hb⟩:=DO;split at hb
    ·rename_i ety' sz' g' x' d' CG;rw[AB]at hb;subst hb;obtain⟨q1,_⟩:=hrel.ents t _ (by rw[CG];rfl);exact main hl (by simp[BO,CG]) q1
    ·cases hb
   |a6 g x=>simp only[Aa]at BV;subst BV;simp at DO
   |gd=>simp at BV
   |dead=>simp at BV
   |hol=>simp at BV
   |pre=>simp at BV
   |deep ety sz l g ep x=>
    simp only[Aa]at BV;subst BV;simp only[bne_self_eq_false,Bool.false_or,Ad,AB]at DO;obtain⟨hl,hb⟩:=DO;split at hb
    ·rename_i CG;rw[AB]at hb;subst hb;obtain⟨q1,_⟩:=hrel.ents t _ (by rw[CG];rfl);exact main hl (by simp[BO,CG]) q1
    ·cases hb
  ·unfold Br;cases lI:pat.sl[i]? with
   |none=>exact .undef .nil
   |some p=>obtain⟨s,k,hs,hk⟩:=eF _ CF lI;have:=hrel.cf i;unfold Br at this;rw[hs]at this;exact gQ hrel hp hn B6 k hk this
  ·cases he:Av pat.hp t with
   |none=>rw[he]at hr;exact hr.elim
   |some e9=>have Lt:=(AJ t e9 e he).1 hr;subst Lt;exact s8 hrel hp hn B6 hθ he
  ·have:F6 pat.hp t=false:=by
    cases he:Av pat.hp t with
    |none=>simp[F6,he]
    |some e9=>exact absurd ((AJ t e9 e9 he).2 rfl) (Du e9)
   simp[CK,this]
  ·simp only[CK];split
   ·split
    ·exact sI (hrel.gw.nodup _)
    ·simp[GI.own]
   ·simp[GI.own]
  ·obtain⟨_,t',hl,_,Ck⟩:=KV hb;obtain⟨_,u',Bm,_,GN⟩:=KV BF;by_cases hh:t'=u'
   ·subst hh;exact KA (Te hθ (KJ hl) (KJ Bm))
   ·exact hrel.gw.br t' u' hh b Ck GN
  ·obtain⟨_,t',hl,_,Ck⟩:=KV hb;exact hrel.gw.allow t' b Ck
  ·obtain⟨_,t',hl,_,Ck⟩:=KV hb;exact hrel.gw.inb t' b Ck
  ·have BV:BO pat.hp t=some g:=hk;unfold BO at BV;show t<pat.nx;split at BV
   ·rename_i hh;exact AA t _ (Ht hh)
   ·rename_i hh;exact AA t _ (Ht hh)
   ·rename_i hh;exact AA t _ (Ht hh)
   ·rename_i hh;exact AA t _ (Ht hh)
   ·cases BV
 ·cases hi
theorem Qn(l:List DT):∀(n k o m:Nat),k<n->o+m<=l.length->((BS n l).drop (k*l.length+o)).take m=(l.drop o).take m
 |0,k,_,_,h,_=>by omega
 |n+1,0,o,m,_,hm=>by rw[Md,Nat.zero_mul,Nat.zero_add,List.drop_append_of_le_length (by omega),List.take_append_of_le_length (by simp;omega)]
 |n+1,k+1,o,m,h,hm=>by have ih:=Qn l n k o m (by omega) hm;rw[<-ih,Md,show(k+1)*l.length+o=l.length+(k*l.length+o)from by rw[Nat.add_mul];omega,List.drop_append,List.drop_eq_nil_of_le (by omega)];simp
theorem DC.elem{w:World}{ys:List AV}{l:List DT}{cells:List Value}{N:List Nat}{z:Nat}(h:DC w (BS ys.length l) cells (Am ys) N)(hl:l.length=z)(h7:∀y∈ys,y.cells.length=z){k o m:Nat}(hk:k<ys.length)(hm:o+m<=z):
  ∃M,(∀b∈M,b∈N)/\DC w ((l.drop o).take m) ((cells.drop (k*z+o)).take m) ((((AV.sl ys).nth k).cells.drop o).take m) M:=by
 obtain⟨N1,N2,N3,rfl,_,h2,_⟩:=h.split (k*z+o) m;subst hl;rw[Qn l _ _ _ _ hk hm,Qv ys h7 k _ (KR hk) o m hm]at h2;exact⟨N2,λb hb=>by simp[hb],h2⟩
theorem Rd.ji{w:World}{vs:List Value}{x:AV}{f:List Nat}{o m:Nat}{g:Bool}(h:Rd w vs ((x.cells.drop o).take m) f)(h9:∀u∈vs,u.oneCell'=true)(hm:o+m<=x.cells.length)(h1:g=false->m=1):
  Rd w [if g then .agg vs.toArray else vs.headD undef] [x.fld o m g] f:=by
 cases g with
 |true=>have:=Rd.agg h9 h .nil;simpa[AV.fld]using this
 |false=>
  have:=h1 rfl;subst this;have e2:(x.cells.drop o).take 1=[x.cells[o]'(by omega)]:=by rw[A7 (by omega),List.take_succ_cons,List.take_zero]
  rw[e2]at h;have hl:=h.len
  match vs,hl with
  | [v],_=>simpa[AV.fld,show o<x.cells.length by omega]using h
section
variable {P:Program} {c:Cx} {n nx:Nat} {sl sl0:Nat->SV} {hp hp0:Nat->Option Ab} {a:Act} {o:Oper} {gs:Gd} {e:AS} {sg:BE} {nv:Nat}
theorem qD{w:World}{b p:Nat}{t:TypeId}{C:Array Value}{ty:TypeId}{fz:Nat × Nat}(hb:w.heap[b]?=some (.cells C ty fz))(ht:CL P t=true)(hg:Ah P t=true\/P.cellsOf t=1)(hp:p+P.cellsOf t<=C.size):
  (Instr.loadAt t (.pointer (some ⟨b,p,none⟩))).run P w= .ok (if Ah P t then .agg ((C.toList.drop p).take (P.cellsOf t)).toArray else((C.toList.drop p).take (P.cellsOf t)).headD undef) w:=by
 have Ko:((C.toList.drop p).take (P.cellsOf t)).length=P.cellsOf t:=by rw[AF,B1,Bp];omega
 refine Nr ht _ (λ_=>Ko) (λh=> ?_) (λj u hu=> ?_)
 ·rw[Ko];rcases hg with h'|h';rw[h]at h';cases h';exact h'
 ·rw[DR hb];rw[List.getElem?_take]at hu;split at hu
  ·simpa using hu
  ·cases hu
theorem uK{b g e z ep:Nat}{l:List DT}{c0 i:E}{t:TypeId}{k':Nat}{v:Value}(hE:CM c b (.deep e z l g ep c0))(hr:SR c [.bz b g i z k'] [v])(A2:CL P t=true)(hle:k'+P.cellsOf t<=z)(As:Ah P t=true\/P.cellsOf t=1):
  ∃u,(Instr.loadAt t v).run P c.w= .ok u c.w/\(((l.drop k').take (P.cellsOf t)).all DT.a7=true->Rd c.w [u] [(E.fld (.idx c0 i) k' (P.cellsOf t) (Ah P t)).den c.ρ] [])/\Oh c b u ((E.fld (.idx c0 i) k' (P.cellsOf t) (Ah P t)).den c.ρ)/\(Ah P t=false->Hc c b g (some (i,z,k')) u):=by
 obtain⟨q1,q2,q3,q4,q5⟩:=hE;cases hr with
 |bz h1 h2 h3 h4 h5 _=>
  rename_i q len cap kk k h6;obtain⟨d1,d2,⟨a9,d3,_⟩|⟨g9,cap9,C,ys,N1,d3,d4,d5,d6,d7,d8,d9,d10,d11,d12⟩⟩:=q4.inv
  ·rw[h2]at d3;cases d3;omega
  ·rw[h2]at d3;cases d3;rw[Ax.ak]at d2 d12;have hk:k.toNat<ys.length:=by omega
   have hmul:(k.toNat+1)*z<=ys.length*z:=A3 _ (by omega);have D3:ys.length*z<=cap*z:=A3 _ d7;rw[Nat.add_mul]at hmul;have Ay:=qD (P:=P) (t:=t) (p:=k.toNat*z+k') d6 A2 As (by omega);obtain⟨M,m1,m2⟩:=d12.elem d2 d10 hk hle;have Fg:((C.toList.take (ys.length*z)).drop (k.toNat*z+k')).take (P.cellsOf t)=(C.toList.drop (k.toNat*z+k')).take (P.cellsOf t):=by rw[List.drop_take,List.take_take,Nat.min_eq_left (by omega)]
   rw[Fg]at m2;have Cl:∀u∈(C.toList.drop (k.toNat*z+k')).take (P.cellsOf t),u.oneCell'=true:=λu hu=>d11 u (by rw[<-Fg]at hu;exact BP (BA hu))
   have ZK:((AV.sl ys).nth k.toNat).cells.length=z:=d10 _ (List.mem_of_getElem? (KR hk));have BY:(E.fld (.idx c0 i) k' (P.cellsOf t) (Ah P t)).den c.ρ=((AV.sl ys).nth k.toNat).fld k' (P.cellsOf t) (Ah P t):=by simp only[E.den,d4,h3,AV.idx]
   have Rn:Ah P t=false->P.cellsOf t=1:=λh=>by rcases As with h'|h';rw[h]at h';cases h';exact h'
   refine⟨_,Ay,λhf=> ?_,?_,λhf=> ?_⟩
   ·rw[BY];exact(m2.gv hf).ji Cl (by omega) Rn
   ·obtain⟨f,r1,r2⟩:=m2.rd;rw[BY];exact⟨f,r1.ji Cl (by omega) Rn,λb hb=> .inr (by rw[d5];simp[m1 b (r2 b hb)])⟩
   ·refine⟨_,_,_,C,_,_,kk,k,h2,by rw[d5];simp,d6,h3,h4,h5,?_⟩;have BK:=Rn hf;have AA:k.toNat*z+k'<C.size:=by omega
    have e1:(C.toList.drop (k.toNat*z+k')).take 1=[C[k.toNat*z+k']]:=by rw[A7 (by simpa using AA),List.take_succ_cons,List.take_zero];simp
    rw[hf,BK,e1];simp[AA]
end
section
variable {P:Program} {c:Cx} {n nx:Nat} {sl sl0:Nat->SV} {hp hp0:Nat->Option Ab} {a:Act} {o:Oper} {gs:Gd} {e:AS} {sg:BE} {nv:Nat}
theorem Bo.cc:∀l:Bo,Bo.of l.toList=l
 | .nil=>rfl
 | .cons s l=>by simp[Bo.toList,Bo.of,Bo.cc l]
theorem uC(h:A5 P c n nx sl hp a sl0 hp0 o gs){t:TypeId}{x:Operand}(ho:o.op= .load t x)(he:Bv P sg sl0 hp0 nv nx gs o=some e)(hc:∀q∈e.bf,Cn.den c.ρ q):Ap P o c n nx sl hp gs a e:=by
 have hm:x∈o.op.operands:=by simp[ho,Op.operands]
 simp only[Bv,ho,Ak,Aj]at he;obtain⟨s,hs,e1,he,rfl⟩:=he;have hr:=(h.ca hs hm).asPtr (λq hq=>hc q (by simp[hq]));have OO:∀q∈e1.bf,Cn.den c.ρ q:=λq hq=>hc q (by simp[hq]);have ex:(execOp a.eval o).run P c.w=((Instr.loadAt t (a.eval x)).run P c.w).andThen λv w=> .ok (.value v) w:=by simp[execOp,ho]
 unfold gE at he;split at he
 ·cases he
 rename_i A2;have A2:CL P t=true:=by simpa using A2
 generalize A1:(asPtr s).1=s1 at he hr;split at he
 ·rename_i b o';split at he
  ·rename_i ty g cs hl;obtain⟨s2,AQ,rfl⟩:=Aj.1 he;generalize ha:a.eval x=v at hr ex;cases hr with
   |bp h1 h2 _=>
    rename_i q;obtain⟨q',C,_,e2,e3,e4,e5,e5',e6⟩:=h.eh b _ (Ci hl h.gs);rw[h2]at e2;cases e2;unfold MI at AQ;have hlen:=e6.len;split at AQ
    ·rename_i As;split at AQ
     ·rename_i hle;simp at AQ;subst AQ;obtain⟨r1,r2⟩:=e6.split o';obtain⟨r3,r4⟩:=r2.split (P.cellsOf t);have:=SR.agg (cs:=Bo.of ((cs.drop o').take (P.cellsOf t))) (λu hu=>e5' u (BP (BA hu))) (by rw[Bo.ak];exact r3) .nil;refine Ap.pure h (v:= .agg ((C.toList.drop o').take (P.cellsOf t)).toArray) ?_ this rfl;rw[ex,Nr A2 ((C.toList.drop o').take (P.cellsOf t)) (λ_=>by simp at hlen ⊢;omega) (λh=>by rw[As]at h;cases h) (λj u hu=>by
       rw[DR e5];rw[List.getElem?_take]at hu;split at hu
       ·simpa using hu
       ·cases hu)]
      simp[As]
     ·cases AQ
    ·rename_i As;have As:Ah P t=false:=by simpa using As
     obtain⟨u,hu,r⟩:=e6.get AQ;refine Ap.pure h (v:=u) ?_ r rfl;rw[ex,Nr A2 [u] (λh=>by rw[As]at h;cases h) (λ_=>rfl) (λj z hz=>by
      cases j with
      |zero=>simp at hz;subst hz;rw[DR e5];simpa using hu
      |succ j=>simp at hz)]
     simp[As]
  ·cases he
 ·rename_i b g i sz o';split at he
  ·rename_i e0 sz' g' c0 d hl;split at he
   ·rename_i hh;obtain⟨rfl,rfl,hle,As⟩:=hh;simp at he;subst he;generalize ha:a.eval x=v at hr ex;cases hr with
    |bz h1 h2 h3 h4 h5 _=>
     rename_i q len cap kk k h6;obtain⟨_,_,N,r1,r2,_,_⟩:=h.eh b _ (Ci hl h.gs);obtain⟨f,r3,_,r4⟩:=r1.rd;obtain⟨xs,B3,Aq,h0,AK⟩:=r1;rw[h2]at r3 AK;have hk:k.toNat<len:=by omega
     have Gn:xs.length=len:=by
      rcases AK with⟨_,⟨_,hv⟩,_⟩|⟨_,_,_,hv,_⟩
      ·cases hv;omega
      ·simp at hv;exact hv.2.1.symm
     have BB:((c0.den c.ρ).nth k.toNat).cells.length=sz:=by rw[B3];exact Aq _ (List.mem_of_getElem? (KR (xs:=xs) (by omega)))
     obtain⟨v',q',g1,g2,g3⟩:=Xq r3 hk BB A2 hle As;refine Ap.pure h (v:=v') ?_ (.e (f:=q') ?_ ?_ .nil) rfl
     ·rw[ex];rw[Nat.zero_add]at g1;simp[g1]
     ·simpa[E.den,AV.idx,h3]using g3
     ·exact λz hz=>r2 z (r4 z (g2 z hz))
   ·cases he
  ·rename_i e0 sz' l g' ep c0 hl;split at he
   ·rename_i hh;obtain⟨rfl,rfl,hle,As⟩:=hh;generalize ha:a.eval x=v at hr ex;have hE:=h.eh b _ (Ci hl h.gs);obtain⟨u,k1,k2,k3,k4⟩:=uK (P:=P) (t:=t) hE hr A2 hle As;have Ay:(execOp a.eval o).run P c.w= .ok (.value u) c.w:=by rw[ex,k1];rfl
    split at he
    ·rename_i hf;simp only[Aa]at he;subst he;exact Ap.pure h Ay (.e (k2 hf) (by simp) .nil) rfl
    ·simp only[Aa]at he;subst he;cases hr with
     |bz h1 _ _ _ _ _=>
      refine Ap.pure h Ay (.via h1 (Nat.le_of_eq hE.2.2.1.symm) (λ_=>⟨k3,?_⟩) .nil) rfl;split
      ·exact trivial
      ·rename_i FO;exact k4 (by simpa using FO)
   ·cases he
  ·cases he
 ·rename_i b g m pth y i sz o';split at he
  ·rename_i hh;obtain⟨hle,As,hv⟩:=hh;have hE:=NO h.eh h.gs hv;generalize ha:a.eval x=v at hr ex;cases hr with
   |vptr h1 h2 h3 _=>
    obtain⟨q,off,len,cap,kk,k,⟨f,p1,p2⟩,_,p4,p5,p6,p7,rfl⟩:=h3 hE;obtain⟨v',q',g1,g2,g3⟩:=Xq (fo:=o') p1 (by omega) p7 A2 hle As;have Ay:(execOp a.eval o).run P c.w= .ok (.value v') c.w:=by rw[ex];simp[g1]
    have BY:Rd c.w [v'] [(E.fld (.idx y i) o' (P.cellsOf t) (Ah P t)).den c.ρ] q':=by simpa[E.den,AV.idx,p4]using g3
    split at he
    ·simp only[Aa]at he;subst he;obtain⟨f1,f2,f3,f4⟩:=BK OO;have hq:q'=[]:=by
      cases hg:Ah P t with
      |true=>obtain⟨cs,Bb⟩:=f3 hg;obtain⟨as_,rfl,_,r⟩:=Hv BY Bb;exact Gt r (by rw[Bb]at f2;exact f2)
      |false=>exact Gt BY (by simpa using f4 hg)
     subst hq;exact Ap.pure h Ay (.e BY (by simp) .nil) rfl
    ·simp only[Aa]at he;subst he;exact Ap.pure h Ay (.via h1 h2 (λ_=>⟨⟨q',BY,λz hz=>p2 z (List.mem_of_mem_tail (g2 z hz))⟩,trivial⟩) .nil) rfl
  ·cases he
 ·rename_i y i sz o';split at he
  ·rename_i hh;obtain⟨hle,As⟩:=hh;simp at he;subst he;generalize ha:a.eval x=v at hr ex;cases hr with
   |cu h1 h2 h3 h4 h5 h6 _=>rename_i q off len cap f kk k;obtain⟨v',q',g1,g2,g3⟩:=Xq (fo:=o') h1 (by omega) h6 A2 hle As;refine Ap.pure h (v:=v') ?_ (.e (f:=q') (by simpa[E.den,AV.idx,h3]using g3) (λz hz=>h2 z (List.mem_of_mem_tail (g2 z hz))) .nil) rfl;rw[ex];simp[g1]
  ·cases he
 ·rename_i y o';split at he
  ·rename_i As;simp at he;subst he;generalize ha:a.eval x=v at hr ex;cases hr with
   |cr h1 h2 _=>
    rename_i q f;obtain⟨z,hz,hle⟩:=BK OO;rw[hz]at h1;cases h1 with
    |ref hb BF Gl Dv=>
     rename_i C ty fz f1 f2;obtain⟨q',g1,g2⟩:=Gl.ga BF o' (P.cellsOf t) (Ah P t) hle (λh=>by rcases As with h'|h';rw[h]at h';cases h';exact h');have Ko:((C.toList.drop o').take (P.cellsOf t)).length=P.cellsOf t:=by have:=Gl.len;rw[AF,B1];omega
     refine Ap.pure h ?_ (.e (f:=q') (by simpa[E.den,hz,AV.deref]using g2) (λz hz=>h2 z (by simp[g1 z hz])) .nil) rfl;rw[ex,Nr A2 ((C.toList.drop o').take (P.cellsOf t)) (λ_=>Ko) (λh=>by rw[Ko];rcases As with h'|h';rw[h]at h';cases h';exact h') (λj u hu=>by
       rw[DR hb];rw[List.getElem?_take]at hu;split at hu
       ·simpa using hu
       ·cases hu)]
     simp
  ·cases he
 ·cases he
end
theorem Mt(k:IntKind)(n:Int):Ex k n↔k.min<=n/\n<=k.max:=by unfold Ex;cases k<;>simp only[IntKind.wrap,IntKind.bits,IntKind.signed,IntKind.min,IntKind.max]<;>simp<;>(try split)<;>omega
theorem XW(k:IntKind)(n:Int):Ex k (k.wrap n):=by rw[Mt];cases k<;>simp only[IntKind.wrap,IntKind.bits,IntKind.signed,IntKind.min,IntKind.max]<;>simp<;>(try split)<;>omega
theorem wT{k:IntKind}{x y:Int}(h:Ex k x):Ex k (x.tmod y):=by
 rw[Mt]at h ⊢;have h1:(x.tmod y).natAbs<=x.natAbs:=by rw[Int.natAbs_tmod];exact Nat.mod_le _ _
 have h2:0<=x->0<=x.tmod y:=Int.tmod_nonneg y;have Jq:k.min<=0:=by cases k<;>decide
 have Et:0<=k.max:=by cases k<;>decide
 constructor
 ·by_cases h0:0<=x
  ·have:=h2 h0;omega
  ·omega
 ·by_cases h0:0<=x
  ·omega
  ·have h3:x.tmod y<=0:=by
    have:=Int.tmod_nonneg (a:= -x) y (by omega);rw[Int.neg_tmod]at this;omega
   omega
theorem u6{k:IntKind}{x:Int}(m:Nat)(h:Ex k x):Ex k (x.fdiv (2^m)):=by
 rw[Mt]at h ⊢;have hp:(0:Int)<2^m:=Int.pow_pos (by decide);rw[Int.fdiv_eq_ediv_of_nonneg _ (Int.le_of_lt hp)];have Jq:k.min<=0:=by cases k<;>decide
 have Et:0<=k.max:=by cases k<;>decide
 have h1:(1:Int)<=2^m:=hp;constructor
 ·rcases Int.le_total 0 x with h0|h0
  ·have:=Int.ediv_nonneg h0 (Int.le_of_lt hp);omega
  ·have:x<=x/2^m:=by
    rw[Int.le_ediv_iff_mul_le hp];have:=Int.mul_le_mul_of_nonpos_left h0 h1;omega
   omega
 ·rcases Int.le_total 0 x with h0|h0
  ·have:=Int.ediv_le_self (2^m) h0;omega
  ·have h2:x/2^m<=0:=by
    have:=Int.ediv_le_ediv hp h0;simpa using this
   omega
section
variable {P:Program} {c:Cx} {n nx:Nat} {sl sl0:Nat->SV} {hp hp0:Nat->Option Ab} {a:Act} {o:Oper} {gs:Gd} {e:AS} {sg:BE} {nv:Nat}
def AV.val:AV->Value
 | .int k n=> .int k n
 | .bool b=> .bool b
 | .str s=> .string ⟨s.toArray⟩
 |_=>Go.undef
theorem sU{op:BinOp}{k k':IntKind}{x y:Int}(hk:k=k'\/op= .shl\/op= .shr)(hz:op= .quo\/op= .rem->y≠0)(hs:op= .shl\/op= .shr->0<=y)(t:TypeId)(p q:Operand)(w:World):
  (do eqGuard op t p q (.int k x) (.int k' y);binOp op t (.int k x) (.int k' y):Sem Value).run P w= .ok (Cv op k x y).val w:=by
 have hg:=eqGuard_at_int op t p q (.int k' y) k x;cases op<;>simp only[reduceCtorEq,or_false,or_true,or_self]at hk hz hs<;>simp only[hg]
 all_goals first
  |(subst hk;simp[binOp,Op.intArith,Op.intCmp,Op.intBits,Cv,AV.val];done)
  |(subst hk;have:=hz trivial;simp[binOp,Op.intDiv,Cv,AV.val,this];done)
  |(have:=hs trivial;simp[binOp,Op.shift,Cv,AV.val,Int.not_lt.2 this];done)
theorem vQ{op:BinOp}{k:IntKind}{x y:Int}(hx:Ex k x)(w:World):Rd w [(Cv op k x y).val] [Cv op k x y] []:=by
 cases op<;>simp only[Cv,AV.val]<;>first
  |exact .int (XW _ _) .nil
  |exact .bool .nil
  |exact .int (wT hx) .nil
  |exact .int (u6 _ hx) .nil
theorem Rd.ez{w:World}{v:Value}{x:AV}{f:List Nat}(h:Rd w [v] [x] f):x≠ .undef:=by rintro rfl;cases h
theorem XA{ρ:List AV}:∀(x:E) {k:IntKind},Cb x=some k->x.den ρ≠ .undef-> ∃m,x.den ρ= .int k m
 | .int k n,_,h,_=>by simp[Cb]at h;subst h;exact⟨n,rfl⟩
 | .len y,_,h,hd=>by
  simp[Cb]at h;subst h;simp only[E.den,AV.len]at hd ⊢;split at hd
  ·exact⟨_,rfl⟩
  ·exact absurd rfl hd
 | .slen y,_,h,hd=>by
  simp[Cb]at h;subst h;simp only[E.den,AV.slen]at hd ⊢;split at hd
  ·exact⟨_,rfl⟩
  ·exact absurd rfl hd
 | .conv k y,_,h,hd=>by
  simp[Cb]at h;subst h;simp only[E.den,AV.conv]at hd ⊢;split at hd
  ·exact⟨_,rfl⟩
  ·exact absurd rfl hd
 | .bin op x y,k,h,hd=>by
  simp only[E.den]at hd ⊢;have hx:x.den ρ≠ .undef:=by rintro hh;rw[hh]at hd;exact hd (by simp[AV.bin])
  cases op<;>simp only[Cb,reduceCtorEq]at h
  all_goals
   obtain⟨m,hm⟩:=XA x h hx;rw[hm]at hd ⊢;cases hy:y.den ρ<;>rw[hy]at hd<;>simp only[AV.bin]at hd ⊢ <;>first
    |exact absurd rfl hd
    |(split at hd
      ·rename_i hk;rw[if_pos hk];exact⟨_,rfl⟩
      ·exact absurd rfl hd)
 | .var _,_,h,_=>by simp[Cb]at h
 | .bool _,_,h,_=>by simp[Cb]at h
 | .str _,_,h,_=>by simp[Cb]at h
 | .c6,_,h,_=>by simp[Cb]at h
 | .lst _,_,h,_=>by simp[Cb]at h
 | .mk _,_,h,_=>by simp[Cb]at h
 | .tup _,_,h,_=>by simp[Cb]at h
 | .ref _,_,h,_=>by simp[Cb]at h
 | .fn ..,_,h,_=>by simp[Cb]at h
 | .fld ..,_,h,_=>by simp[Cb]at h
 | .proj ..,_,h,_=>by simp[Cb]at h
 | .deref _,_,h,_=>by simp[Cb]at h
 | .idx ..,_,h,_=>by simp[Cb]at h
 | .sidx ..,_,h,_=>by simp[Cb]at h
 | .win ..,_,h,_=>by simp[Cb]at h
 | .swin ..,_,h,_=>by simp[Cb]at h
 | .app ..,_,h,_=>by simp[Cb]at h
 | .set ..,_,h,_=>by simp[Cb]at h
 | .put ..,_,h,_=>by simp[Cb]at h
 | .rep ..,_,h,_=>by simp[Cb]at h
 | .sbin ..,_,h,_=>by simp[Cb]at h
 | .bbin ..,_,h,_=>by simp[Cb]at h
 | .not _,_,h,_=>by simp[Cb]at h
 | .neg _,_,h,_=>by simp[Cb]at h
 | .ite ..,_,h,_=>by simp[Cb]at h
 | .bytes _,_,h,_=>by simp[Cb]at h
 | .text _,_,h,_=>by simp[Cb]at h
end
section
variable {P:Program} {c:Cx} {n nx:Nat} {sl sl0:Nat->SV} {hp hp0:Nat->Option Ab} {a:Act} {o:Oper} {gs:Gd} {e:AS} {sg:BE} {nv:Nat}
theorem Gs{s:SV}{v:Value}{x:E}(h:SR c [s] [v])(hx:EM s=some x):∃f,Rd c.w [v] [x.den c.ρ] f/\ ∀b∈f,c.ok b:=by
 cases s<;>simp only[EM,Aa,reduceCtorEq]at hx;subst hx;cases h with
 |e h1 h2 _=>exact⟨_,h1,h2⟩
theorem SR.cd{v:Value}{x:E}(h:Rd c.w [v] [x.den c.ρ] []):SR c [.e x] [v]:= .e h (by simp) .nil
theorem tG{ρ:List AV}{op:BinOp}{x y:E}{w:World}{v u:Value}{f g:List Nat}(h1:Rd w [v] [x.den ρ] f)(h2:Rd w [u] [y.den ρ] g)(hd:NI (.bin op x y)=true->(E.bin op x y).den ρ≠ .undef):
  ∃k k' p q,x.den ρ= .int k p/\y.den ρ= .int k' q/\(k=k'\/op= .shl\/op= .shr)/\(E.bin op x y).den ρ=Cv op k p q/\Ex k p/\v= .int k p/\u= .int k' q:=by
 have key:(∃k k' p q,x.den ρ= .int k p/\y.den ρ= .int k' q/\(k=k'\/op= .shl\/op= .shr)):=by
  by_cases hn:NI (.bin op x y)=true
  ·have:=hd hn;simp only[E.den]at this;cases hx:x.den ρ<;>cases hy:y.den ρ<;>simp only[hx,hy,AV.bin,ne_eq,not_true_eq_false]at this;split at this
   ·exact⟨_,_,_,_,rfl,rfl,by assumption⟩
   ·exact absurd rfl this
  ·have hn:NI (.bin op x y)=false:=by simpa using hn
   have hk:(Cb x).isSome=true/\(Cb x==Cb y)=true:=by cases op<;>simp[NI]at hn<;>simpa using hn
   obtain⟨k,GU⟩:=Option.isSome_iff_exists.1 hk.1;have kK:Cb y=some k:=by rw[<-AB.1 hk.2,GU]
   obtain⟨p,hp⟩:=XA x GU h1.ez;obtain⟨q,hq⟩:=XA y kK h2.ez;exact⟨k,k,p,q,hp,hq, .inl rfl⟩
 obtain⟨k,k',p,q,hp,hq,Kn⟩:=key;obtain⟨hv,B8⟩:=Fb h1 hp;obtain⟨hu,_⟩:=Fb h2 hq;exact⟨k,k',p,q,hp,hq,Kn,by simp only[E.den,hp,hq,AV.bin,if_pos Kn],B8,hv,hu⟩
theorem pQ(a b:ByteArray):(a.toList==b.toList)=(a.data.toList==b.data.toList):=by rw[ByteArray.toList_eq,ByteArray.toList_eq]
theorem pI{α β γ:Type}(r:Result α)(f:α->World->Result β)(g:β->World->Result γ):(r.andThen f).andThen g=r.andThen λa w=>(f a w).andThen g:=by cases r<;>rfl
theorem Xc(d:Nat){t:TypeId}(p q:Bool)(h:P.underlying t=some .bool)(w:World):(Op.equalIn (d+1) t (.bool p) (.bool q)).run P w= .ok (p==q) w:=by simp[Op.equalIn,run_underlying h]
theorem tA{t:TypeId}(p q:Bool)(h:P.underlying t=some .bool)(w:World):(binOp .eql t (.bool p) (.bool q)).run P w= .ok (.bool (p==q)) w:=by simp only[binOp];simp[Op.equal,Op.maxDepth,Xc 9999 p q h]
theorem s7{t:TypeId}(p q:Bool)(h:P.underlying t=some .bool)(w:World):(binOp .neq t (.bool p) (.bool q)).run P w= .ok (.bool (!(p==q))) w:=by simp only[binOp];simp[Op.equal,Op.maxDepth,Xc 9999 p q h]
theorem Mv{op:BinOp}{t ty:TypeId}{x y:Operand}(ho:o.op= .binOp op t x y ty)(w:World){v u:Value}(hv:a.eval x=v)(hu:a.eval y=u):
  (execOp a.eval o).run P w=((do eqGuard op t x y v u;binOp op t v u:Sem Value).run P w).andThen λv w=> .ok (.value v) w:=by
 simp only[execOp,ho,hv,hu,Sem.run_bind,pI,Sem.run_pure]
theorem Z9(h:A5 P c n nx sl hp a sl0 hp0 o gs){op:BinOp}{t el:TypeId}{x y:Operand}{ty:TypeId}(ho:o.op= .binOp op t x y ty)(hu:P.underlying t=some (.slice el))(r1:SR c [.bc] [a.eval x])(r2:SR c [.bc] [a.eval y])
  (AH:op= .eql\/op= .neq):Ap P o c n nx sl hp gs a {val:= .e (.bool (op== .eql))}:=by
 have ex:=λ(v u:Value) (hv:a.eval x=v) (hu:a.eval y=u)=>Mv (P:=P) (o:=o) ho c.w hv hu;generalize E7:a.eval x=v1 at r1;generalize CR:a.eval y=v2 at r2;cases r1 with
 |bc _=>cases r2 with
  |bc _=>
   refine Ap.pure h (v:= .bool (op== .eql)) ?_ (.cd (.bool .nil)) rfl;rw[ex _ _ E7 CR,eqGuard_at_slice];rcases AH with rfl|rfl
   ·simp[run_eql_nil_slice c.w t el none 0 0 0 0 hu]
   ·simp[run_neq_nil_slice c.w t el none 0 0 0 0 hu]
theorem qV(h:A5 P c n nx sl hp a sl0 hp0 o gs){op:BinOp}{t:TypeId}{x y:Operand}{ty:TypeId}(ho:o.op= .binOp op t x y ty){s1 s2:SV}(r1:SR c [s1] [a.eval x])(r2:SR c [s2] [a.eval y])
  {x' y':E} (Dh:EM s1=some x') (Bn:EM s2=some y') (hd:NI (.bin op x' y')=true->Cn.den c.ρ (.dfd (.bin op x' y'))) (lC:op= .quo\/op= .rem->Cn.den c.ρ (.nz y')) (lB:op= .shl\/op= .shr->Cn.den c.ρ (.nn y')) {ck:List Cn}:
  Ap P o c n nx sl hp gs a {bf:=ck,val:= .e (.bin op x' y')}:=by
 obtain⟨f1,g1,_⟩:=Gs r1 Dh;obtain⟨f2,g2,_⟩:=Gs r2 Bn;obtain⟨k,k',p,q,e1,e2,Kn,e3,B8,hv,EZ⟩:=tG (op:=op) g1 g2 hd;refine Ap.pure h (v:=(Cv op k p q).val) ?_ (.cd (by rw[e3];exact vQ B8 _)) rfl;rw[Mv ho c.w hv EZ,sU Kn (λAH=> ?_) (λAH=> ?_)]
 ·simp
 ·obtain⟨_,m,hm,Dg⟩:=lC AH;rw[e2]at hm;cases hm;exact Dg
 ·obtain⟨_,m,hm,Dg⟩:=lB AH;rw[e2]at hm;cases hm;exact Dg
theorem pZ(h:A5 P c n nx sl hp a sl0 hp0 o gs){op:BinOp}{t:TypeId}{x y:Operand}{ty:TypeId}(ho:o.op= .binOp op t x y ty){s1 s2:SV}(r1:SR c [s1] [a.eval x])(r2:SR c [s2] [a.eval y])
  {x' y':E} (Dh:EM s1=some x') (Bn:EM s2=some y') (hd:Cn.den c.ρ (.dfd (.sbin op x' y'))) (BD:op= .add->Cn.den c.ρ (.roomS x' y')) {ck:List Cn}:
  Ap P o c n nx sl hp gs a {bf:=ck,val:= .e (.sbin op x' y')}:=by
 obtain⟨f1,g1,_⟩:=Gs r1 Dh;obtain⟨f2,g2,_⟩:=Gs r2 Bn;have hd:AV.sbin op (x'.den c.ρ) (y'.den c.ρ)≠ .undef:=hd;cases hx:x'.den c.ρ<;>cases hy:y'.den c.ρ<;>simp only[hx,hy,AV.sbin,ne_eq,not_true_eq_false]at hd;obtain⟨b1,E7,rfl,_⟩:=NX g1 hx;obtain⟨b2,CR,rfl,_⟩:=NX g2 hy;have hle:op= .add->b1.size+b2.size<=9223372036854775807:=λAH=>by obtain⟨p,q,hp,hq,hle⟩:=BD AH;rw[hx]at hp;rw[hy]at hq;cases hp;cases hq;simpa using hle
 refine Ap.pure h (v:=match op with| .add=> .string (b1++b2)|_=>(NW op b1.data.toList b2.data.toList).val) ?_ (.cd ?_) rfl
 ·rw[Mv ho c.w E7 CR,eqGuard_at_string];cases op<;>first
   |(exact absurd rfl hd)
   |(have:=hle rfl;simp[binOp,Op.stringOp];omega)
   |(simp[binOp,Op.stringOp,NW,AV.val,ByteArray.toList_eq,bne];done)
 ·simp only[E.den,hx,hy,AV.sbin];cases op<;>simp only[NW,AV.val,ne_eq,not_true_eq_false]at hd ⊢ <;>first
   |exact .bool .nil
   |(have:=hle rfl
     have h9:=Rd.str (w:=c.w) (s:=b1++b2) (by simpa using this) .nil;simpa using h9)
theorem qM(h:A5 P c n nx sl hp a sl0 hp0 o gs){op:BinOp}{t:TypeId}{x y:Operand}{ty:TypeId}(ho:o.op= .binOp op t x y ty)(hu:P.underlying t=some .bool){s1 s2:SV}(r1:SR c [s1] [a.eval x])(r2:SR c [s2] [a.eval y])
  {x' y':E} (Dh:EM s1=some x') (Bn:EM s2=some y') (hd:Cn.den c.ρ (.dfd (.bbin op x' y'))) {ck:List Cn}:
  Ap P o c n nx sl hp gs a {bf:=ck,val:= .e (.bbin op x' y')}:=by
 obtain⟨f1,g1,_⟩:=Gs r1 Dh;obtain⟨f2,g2,_⟩:=Gs r2 Bn;have hd:AV.bbin op (x'.den c.ρ) (y'.den c.ρ)≠ .undef:=hd;cases hx:x'.den c.ρ<;>cases hy:y'.den c.ρ<;>simp only[hx,hy,AV.bbin,ne_eq,not_true_eq_false]at hd;rename_i p q;have E7:=G7 g1 hx;have CR:=G7 g2 hy;refine Ap.pure h (v:=(AV.bbin op (.bool p) (.bool q)).val) ?_ (.cd ?_) rfl
 ·rw[Mv ho c.w E7 CR,eqGuard_at_bool];cases op<;>simp only[ne_eq,not_true_eq_false]at hd
  ·simp[tA p q hu,AV.bbin,AV.val]
  ·simp[s7 p q hu,AV.bbin,AV.val,bne]
 ·simp only[E.den,hx,hy];cases op<;>simp only[AV.bbin,AV.val,ne_eq,not_true_eq_false]at hd ⊢ <;>exact .bool .nil
theorem vN(h:A5 P c n nx sl hp a sl0 hp0 o gs){op:BinOp}{t:TypeId}{x y:Operand}{ty:TypeId}(ho:o.op= .binOp op t x y ty)(Kr:∀fs,P.underlying t≠some (.struct fs))(he:Bv P sg sl0 hp0 nv nx gs o=some e)(hq:e.bb=none)(hc:∀q∈e.bf,Cn.den c.ρ q):Ap P o c n nx sl hp gs a e:=by
 have Dp:x∈o.op.operands:=by simp[ho,Op.operands]
 have C3:y∈o.op.operands:=by simp[ho,Op.operands]
 simp only[Bv,ho,Ak]at he;obtain⟨s1,Bu,s2,AQ,he⟩:=he;have r1:=h.ca Bu Dp;have r2:=h.ca AQ C3;unfold N5 at he;split at he
 ·rename_i el hu;split at he
  ·simp at he;subst he;exact Z9 h ho hu r1 r2 (.inl rfl)
  ·simp at he;subst he;exact Z9 h ho hu r1 r2 (.inr rfl)
  ·obtain⟨_,_,rfl⟩:=Aj.1 he;cases hq
  ·obtain⟨_,_,rfl⟩:=Aj.1 he;cases hq
  ·cases he
 ·rename_i kk hu;split at he
  ·rename_i x' y' Dh Bn;simp at he;subst he;exact qV h ho r1 r2 Dh Bn (λhn=>hc _ (by simp[hn])) (λAH=>hc _ (by rcases AH with rfl|rfl<;>simp)) (λAH=>hc _ (by rcases AH with rfl|rfl<;>simp))
  ·cases he
 ·rename_i hu;split at he
  ·rename_i x' y' Dh Bn;simp at he;subst he;exact pZ h ho r1 r2 Dh Bn (hc _ (by simp)) (λAH=>hc _ (by subst AH;simp))
  ·cases he
 ·rename_i hu;split at he
  ·rename_i x' y' Dh Bn;simp at he;subst he;exact qM h ho hu r1 r2 Dh Bn (hc _ (by simp))
  ·cases he
 ·rename_i fs hu;exact absurd hu (Kr fs)
 ·cases he
end
section
variable {P:Program} {c:Cx} {n nx:Nat} {sl sl0:Nat->SV} {hp hp0:Nat->Option Ab} {a:Act} {o:Oper} {gs:Gd} {e:AS} {sg:BE} {nv:Nat}
theorem QA{t:TypeId}(h:CL P t=true)(cs:List Value)(off:Nat)(hle:off+P.cellsOf t<=cs.length)(hg:Ah P t=true\/P.cellsOf t=1)(w:World):
  (part t cs.toArray off).run P w= .ok (if Ah P t then .agg ((cs.drop off).take (P.cellsOf t)).toArray else((cs.drop off).take (P.cellsOf t)).headD Go.undef) w:=by
 cases ha:Ah P t with
 |true=>simp only[part,Sem.run_bind,Qt h,ha,Mc h,Result.andThen_ok,if_true,Sem.run_pure];congr 2;apply Array.ext';rw[Array.toList_extract];simp[Nat.add_sub_cancel_left,List.extract_eq_take_drop]
 |false=>
  have h1:P.cellsOf t=1:=by rcases hg with h'|h';rw[ha]at h';cases h';exact h'
  have AA:off<cs.length:=by omega
  have e1:(cs.drop off).take (P.cellsOf t)=[cs[off]]:=by rw[h1,A7 AA,List.take_succ_cons,List.take_zero]
  rw[e1];simp[part,Qt h,ha,AA]
theorem sJ(h:A5 P c n nx sl hp a sl0 hp0 o gs){t:TypeId}{x:Operand}{f:Nat}(ho:o.op= .field t x f)(he:Bv P sg sl0 hp0 nv nx gs o=some e)(hc:∀q∈e.bf,Cn.den c.ρ q):Ap P o c n nx sl hp gs a e:=by
 have hm:x∈o.op.operands:=by simp[ho,Op.operands]
 simp only[Bv,ho,Ak]at he;obtain⟨s,hs,he⟩:=he;have hr:=h.ca hs hm;split at he
 ·rename_i fs hu;split at he
  ·rename_i fd hf;split at he
   ·cases he
   ·rename_i A2;have A2:CL P fd.type=true:=by simpa using A2
    have ex:∀as_:List Value,a.eval x= .agg as_.toArray->(execOp a.eval o).run P c.w=((part fd.type as_.toArray fd.offset).run P c.w).andThen λv w=> .ok (.value v) w:=λas_ hv=>by simp[execOp,ho,Instr.field,run_underlying hu,hf,hv,asAgg]
    split at he
    ·rename_i cs;obtain⟨s2,AQ,rfl⟩:=Aj.1 he;generalize hv:a.eval x=v at hr;cases hr with
     |agg r8 r1 r9=>
      rename_i as_;have hlen:=r1.len;unfold MI at AQ;split at AQ
      ·rename_i As;split at AQ
       ·rename_i hle;simp at AQ;subst AQ;obtain⟨q1,q2⟩:=r1.split fd.offset;obtain⟨q3,q4⟩:=q2.split (P.cellsOf fd.type);have:=SR.agg (cs:=Bo.of ((cs.toList.drop fd.offset).take (P.cellsOf fd.type))) (λu hu=>r8 u (BP (BA hu))) (by rw[Bo.ak];exact q3) .nil;refine Ap.pure h (v:= .agg ((as_.drop fd.offset).take (P.cellsOf fd.type)).toArray) ?_ this rfl;rw[ex as_ hv,QA A2 as_ fd.offset (by omega) (.inl As)];simp[As]
       ·cases AQ
      ·rename_i As;have As:Ah P fd.type=false:=by simpa using As
       obtain⟨u,EZ,r⟩:=r1.get AQ;refine Ap.pure h (v:=u) ?_ r rfl;rw[ex as_ hv];simp[part,Qt A2,As,EZ]
    ·rename_i y;split at he
     ·rename_i hh;obtain⟨hle,As⟩:=hh;simp at he;subst he;generalize hv:a.eval x=v at hr;cases hr with
      |e h1 h2 _=>
       rename_i f1;obtain⟨cs,Bb,Aq⟩:=BK hc;obtain⟨as_,rfl,LU,Dv⟩:=Hv h1 Bb;have hlen:=Dv.len;have Fg:(y.den c.ρ).cells=cs:=by rw[Bb];rfl
       rw[<-Fg]at Dv;obtain⟨q,g1,g2⟩:=Dv.ga LU fd.offset (P.cellsOf fd.type) (Ah P fd.type) (by rw[Fg];omega) (λhh=>by rcases As with h'|h';rw[hh]at h';cases h';exact h');refine Ap.pure h ?_ (.e (f:=q) (by simpa[E.den]using g2) (λz hz=>h2 z (g1 z hz)) .nil) rfl;rw[ex as_ hv,QA A2 as_ fd.offset (by omega) As];simp
     ·cases he
    ·rename_i b g m pth y;split at he
     ·rename_i hh;obtain⟨hle,As,PF⟩:=hh;have hE:=NO h.eh h.gs PF;generalize hv:a.eval x=v at hr;have GK:Cn.den c.ρ (.agg y (P.cellsOf t)):=by
       split at he<;>(simp only[Aa]at he;subst he;exact BK hc)
      cases hr with
      |via h1 h2 h3 _=>
       obtain⟨⟨f1,p1,p2⟩,_⟩:=h3 hE;obtain⟨cs,Bb,Aq⟩:=GK;obtain⟨as_,rfl,LU,Dv⟩:=Hv p1 Bb;have hlen:=Dv.len;have Fg:(y.den c.ρ).cells=cs:=by rw[Bb];rfl
       rw[<-Fg]at Dv;obtain⟨q,g1,g2⟩:=Dv.ga LU fd.offset (P.cellsOf fd.type) (Ah P fd.type) (by rw[Fg];omega) (λhh=>by rcases As with h'|h';rw[hh]at h';cases h';exact h');have Ay:=ex as_ hv;rw[QA A2 as_ fd.offset (by omega) As]at Ay;simp only[Result.andThen_ok]at Ay;have BY:Rd c.w _ [(E.fld y fd.offset (P.cellsOf fd.type) (Ah P fd.type)).den c.ρ] q:=g2;split at he
       ·simp only[Aa]at he;subst he;obtain⟨e1,e2,e3,e4⟩:=hc (.flat (.fld y fd.offset (P.cellsOf fd.type) (Ah P fd.type)) (P.cellsOf fd.type) (Ah P fd.type)) (by simp);have hq:q=[]:=by
         cases hg:Ah P fd.type with
         |true=>obtain⟨cs,Bb⟩:=e3 hg;obtain⟨as_,_,_,r⟩:=Hv BY Bb;exact Gt r (by rw[Bb]at e2;exact e2)
         |false=>exact Gt BY (by simpa using e4 hg)
        subst hq;exact Ap.pure h Ay (.e BY (by simp) .nil) rfl
       ·simp only[Aa]at he;subst he;exact Ap.pure h Ay (.via h1 h2 (λ_=>⟨⟨q,BY,λz hz=>p2 z (g1 z hz)⟩,trivial⟩) .nil) rfl
     ·cases he
    ·cases he
  ·cases he
 ·cases he
theorem NF{v:Value}{x:AV}{m:Int}{w:World}{f:List Nat}(h:Rd w [v] [x] f)(hx:x.len= .int .i64 m):(∃a c,v= .slice a 0 c/\m=0)\/ ∃b o k c,v= .slice (some ⟨b,o,none⟩) k c/\m=k:=by
 rcases h.kind with h|h|h|h|h|h|h|h|h|h
 ·obtain⟨_,_,_,rfl,_⟩:=h;simp[AV.len]at hx
 ·obtain⟨_,_,rfl,_⟩:=h;simp[AV.len]at hx
 ·obtain⟨_,_,rfl,_⟩:=h;simp[AV.len]at hx
 ·obtain⟨q,r,rfl,rfl,_⟩:=h;simp[AV.len]at hx;exact .inl ⟨q,r,rfl,by omega⟩
 ·obtain⟨b,o,k,r,ys,_,_,_,_,_,_,rfl,rfl,_,_,_,_,hl,_⟩:=h;simp[AV.len]at hx;exact .inr ⟨b,o,k,r,rfl,by omega⟩
 ·obtain⟨_,_,_,rfl,_⟩:=h;simp[AV.len]at hx
 ·obtain⟨_,_,_,rfl,_⟩:=h;simp[AV.len]at hx
 ·obtain⟨_,_,_,_,_,_,_,rfl,_⟩:=h;simp[AV.len]at hx
 ·obtain⟨_,_,_,_,rfl,_⟩:=h;simp[AV.len]at hx
 ·obtain⟨_,rfl,_⟩:=h;simp[AV.len]at hx
theorem Np{t el:TypeId}(hu:P.underlying t=some (.slice el))(hz:P.cellsOf el≠0){b off len cap:Nat}{kk:IntKind}{k:Int}(h0:0<=k)(h1:k<len)(w:World):
  (Instr.indexAt t (.slice (some ⟨b,off,none⟩) len cap) (.int kk k)).run P w= .ok (.pointer (some ⟨b,off+k.toNat*P.cellsOf el,none⟩)) w:=by
 simp[Instr.indexAt,run_underlying hu,asIntOf,h0,h1,cJ hz,Addr.add_lit]
theorem bJ(h:A5 P c n nx sl hp a sl0 hp0 o gs){t:TypeId}{x i:Operand}(ho:o.op= .indexAddr t x i\/o.op= .index t x i){s1 s2:SV}(Bu:Bl sl0 gs x=some s1)(AQ:Bl sl0 gs i=some s2)
  (AH:(∃el,P.underlying t=some (.slice el))->o.op= .indexAddr t x i) (VH:P.underlying t=some .string->o.op= .index t x i)
  (he:TE P hp0 gs t s1 s2=some e) (hc:∀q∈e.bf,Cn.den c.ρ q):Ap P o c n nx sl hp gs a e:=by
 have Dp:x∈o.op.operands:=by rcases ho with ho|ho<;>simp[ho,Op.operands]
 have C3:i∈o.op.operands:=by rcases ho with ho|ho<;>simp[ho,Op.operands]
 have r1:=h.ca Bu Dp;have r2:=h.ca AQ C3;unfold TE at he;split at he
 ·rename_i el k hu;have Pl:=AH ⟨el,hu⟩;have ex:(execOp a.eval o).run P c.w=((Instr.indexAt t (a.eval x) (a.eval i)).run P c.w).andThen λv w=> .ok (.value v) w:=by simp[execOp,Pl]
  split at he
  ·cases he
  rename_i hz;obtain⟨fk,GU,_⟩:∃f,Rd c.w [a.eval i] [k.den c.ρ] f/\ ∀b∈f,c.ok b:=by
   generalize a.eval i=v at r2;cases r2 with
   |e h1 h2 _=>exact⟨_,h1,h2⟩
  split at he
  ·rename_i b g;split at he
   ·rename_i e0 sz g' c0 d hl;split at he
    ·rename_i hh;obtain⟨rfl,rfl⟩:=hh;simp at he;subst he;obtain⟨kk,kv,m,e1,e2,e3,e4,e5⟩:=BK hc;obtain⟨GR,_⟩:=Fb GU e1;generalize hv:a.eval x=v at r1 ex;cases r1 with
     |own hK Kb _=>
      obtain⟨_,_,N,q1,q2,_,_⟩:=h.eh b _ (Ci hl h.gs);obtain⟨xs,B3,Aq,h0,AK⟩:=q1;rw[B3]at e3;simp only[AV.len,AV.int.injEq,true_and]at e3;rcases AK with⟨rfl,_⟩|⟨g9,cap,C,hH,_⟩
      ·simp at e3;omega
      ·refine Ap.pure h (v:= .pointer (some ⟨g9,kv.toNat*P.cellsOf el+0,none⟩)) ?_ (.bz hK hH e1 e2 (by omega) .nil) rfl;rw[Kb]at hH;cases hH;rw[ex,GR,Np hu hz e2 (by omega)];simp
    ·cases he
   ·rename_i g' c0 hl;split at he
    ·rename_i hh;subst hh;simp at he;subst he;obtain⟨kk,kv,m,e1,e2,e3,e4,e5⟩:=BK hc;obtain⟨GR,_⟩:=Fb GU e1;generalize hv:a.eval x=v at r1 ex;cases r1 with
     |own hK Kb _=>
      obtain⟨_,⟨f,q1,q2⟩,_,_⟩:=h.eh b _ (Ci hl h.gs);rcases NF q1 e3 with⟨_,_,_,hm⟩|⟨b9,off9,len9,cap9,hH,hm⟩
      ·omega
      ·rw[Kb]at hH;cases hH;rw[Kb]at q1;refine Ap.pure h (v:= .pointer (some ⟨b9,off9+kv.toNat*P.cellsOf el+0,none⟩)) ?_ (.cu q1 q2 e1 e2 (by omega) e5 .nil) rfl;rw[ex,GR,Np hu hz e2 (by omega)];simp
    ·cases he
   ·rename_i e0 sz dl g' ep c0 hl;split at he
    ·rename_i hh;obtain⟨rfl,rfl⟩:=hh;simp at he;subst he;obtain⟨kk,kv,m,e1,e2,e3,e4,e5⟩:=BK hc;obtain⟨GR,_⟩:=Fb GU e1;generalize hv:a.eval x=v at r1 ex;cases r1 with
     |own hK Kb _=>
      obtain⟨_,_,_,q1,_⟩:=h.eh b _ (Ci hl h.gs);obtain⟨_,_,⟨a9,d3,d4,_⟩|⟨g9,cap,C,ys,N1,hH,d4,_⟩⟩:=q1.inv
      ·rw[d4]at e3;simp[AV.len]at e3;omega
      ·rw[d4]at e3;simp only[AV.len,AV.int.injEq,true_and]at e3;refine Ap.pure h (v:= .pointer (some ⟨g9,kv.toNat*P.cellsOf el+0,none⟩)) ?_ (.bz hK hH e1 e2 (by omega) .nil) rfl;rw[Kb]at hH;cases hH;rw[ex,GR,Np hu hz e2 (by omega)];simp
    ·cases he
   ·rename_i e0 sz dl g' ep c0 ih oh uh hl;split at he
    ·rename_i hh;obtain⟨rfl,rfl⟩:=hh;simp at he;subst he;obtain⟨kk,kv,m,e1,e2,e3,e4,e5⟩:=BK hc;obtain⟨GR,_⟩:=Fb GU e1;generalize hv:a.eval x=v at r1 ex;cases r1 with
     |own hK Kb _=>obtain⟨_,_,_,⟨g9,cap,C,ys,_,_,_,_,hH,d4,_⟩,_⟩:=h.eh b _ (Ci hl h.gs);rw[d4]at e3;simp only[AV.len,AV.int.injEq,true_and]at e3;refine Ap.pure h (v:= .pointer (some ⟨g9,kv.toNat*P.cellsOf el+0,none⟩)) ?_ (.bz hK hH e1 e2 (by omega) .nil) rfl;rw[Kb]at hH;cases hH;rw[ex,GR,Np hu hz e2 (by omega)];simp
    ·cases he
   ·cases he
  ·rename_i y;simp at he;subst he;obtain⟨kk,kv,m,e1,e2,e3,e4,e5⟩:=BK hc;obtain⟨GR,_⟩:=Fb GU e1;generalize hv:a.eval x=v at r1 ex;cases r1 with
   |e q1 q2 _=>
    rcases NF q1 e3 with⟨_,_,_,hm⟩|⟨b9,off9,len9,cap9,rfl,hm⟩
    ·omega
    ·refine Ap.pure h (v:= .pointer (some ⟨b9,off9+kv.toNat*P.cellsOf el+0,none⟩)) ?_ (.cu q1 q2 e1 e2 (by omega) e5 .nil) rfl;rw[ex,GR,Np hu hz e2 (by omega)];simp
  ·rename_i b g m pth y;split at he
   ·rename_i PF;simp at he;subst he;have hE:=NO h.eh h.gs PF;obtain⟨kk,kv,mm,e1,e2,e3,e4,e5⟩:=BK hc;obtain⟨GR,_⟩:=Fb GU e1;generalize hv:a.eval x=v at r1 ex;cases r1 with
    |via q1 q2 q3 _=>
     obtain⟨⟨f,p1,p2⟩,p3⟩:=q3 hE;rcases NF p1 e3 with⟨_,_,_,hm⟩|⟨b9,off9,len9,cap9,rfl,hm⟩
     ·omega
     ·refine Ap.pure h (v:= .pointer (some ⟨b9,off9+kv.toNat*P.cellsOf el+0,none⟩)) ?_ (.vptr q1 q2 (λ_=>⟨b9,off9,len9,cap9,kk,kv,⟨f,p1,p2⟩,p3,e1,e2,by omega,e5,rfl⟩) .nil) rfl;rw[ex,GR,Np hu hz e2 (by omega)];simp
   ·cases he
  ·cases he
 ·rename_i k hu;have Pl:=VH hu;obtain⟨fk,GU,_⟩:∃f,Rd c.w [a.eval i] [k.den c.ρ] f/\ ∀b∈f,c.ok b:=by
   generalize a.eval i=v at r2;cases r2 with
   |e h1 h2 _=>exact⟨_,h1,h2⟩
  split at he
  ·rename_i y;simp at he;subst he;obtain⟨kk,kv,s,e1,e2,e3,e4⟩:=BK hc;obtain⟨GR,_⟩:=Fb GU e1;generalize hv:a.eval x=v at r1;cases r1 with
   |e q1 q2 _=>
    obtain⟨bs,rfl,rfl,hle⟩:=NX q1 e2;have AA:kv.toNat<bs.data.toList.length:=by omega
    have Vv:kv.toNat<bs.size:=by simpa using AA
    refine Ap.pure h (v:= .int .u8 (bs[kv.toNat]).toNat) ?_ (.cd ?_) rfl
    ·simp[execOp,Pl,Instr.index,hv,GR,asIntOf,run_underlying hu,e3,Vv]
    ·simp only[E.den,e1,e2,AV.sidx];have:bs.data.toList[kv.toNat]?=some (bs[kv.toNat]):=by
      rw[CJ AA];simp[ByteArray.getElem_eq_getElem_data]
     rw[this];refine .int ?_ .nil;rw[Mt];have:=(bs[kv.toNat]).toNat_lt;simp[IntKind.min,IntKind.max,IntKind.signed,IntKind.bits];omega
  ·cases he
 ·cases he
theorem oZ(h:A5 P c n nx sl hp a sl0 hp0 o gs){t:TypeId}{x i:Operand}(ho:o.op= .indexAddr t x i)(Kr:P.underlying t≠some .string)(he:Bv P sg sl0 hp0 nv nx gs o=some e)(hc:∀q∈e.bf,Cn.den c.ρ q):Ap P o c n nx sl hp gs a e:=by
 simp only[Bv,ho,Ak]at he;obtain⟨s1,Bu,s2,AQ,he⟩:=he;split at he
 ·cases he
 exact bJ h (.inl ho) Bu AQ (λ_=>ho) (λhh=>absurd hh Kr) he hc
theorem pS(h:A5 P c n nx sl hp a sl0 hp0 o gs){t:TypeId}{x i:Operand}(ho:o.op= .index t x i)(Kr:P.underlying t=some .string)(he:Bv P sg sl0 hp0 nv nx gs o=some e)(hc:∀q∈e.bf,Cn.den c.ρ q):Ap P o c n nx sl hp gs a e:=by
 simp only[Bv,ho,Ak]at he;obtain⟨s1,Bu,s2,AQ,he⟩:=he;split at he
 ·exact bJ h (.inr ho) Bu AQ (λ⟨el,hh⟩=>by rw[Kr]at hh;cases hh) (λ_=>ho) he hc
 ·cases he
theorem rK(h:A5 P c n nx sl hp a sl0 hp0 o gs){x:Operand}{i:Nat}(ho:o.op= .extract x i)(he:Bv P sg sl0 hp0 nv nx gs o=some e)(hc:∀q∈e.bf,Cn.den c.ρ q):Ap P o c n nx sl hp gs a e:=by
 have hm:x∈o.op.operands:=by simp[ho,Op.operands]
 simp only[Bv,ho,Ak]at he;obtain⟨s,hs,he⟩:=he;have hr:=h.ca hs hm;generalize hv:a.eval x=v at hr;have ex:∀(as_:List Value) u,v= .tuple as_.toArray->as_[i]?=some u->(execOp a.eval o).run P c.w= .ok (.value u) c.w:=λas_ u VZ hu=>by simp[execOp,ho,Instr.extract,hv,VZ,hu]
 split at he
 ·rename_i vs;obtain⟨s2,AQ,rfl⟩:=Aj.1 he;cases hr with
  |tup r1 r9=>obtain⟨u,hu,r⟩:=r1.get AQ;exact Ap.pure h (ex _ u rfl hu) r rfl
 ·rename_i y;simp at he;subst he;cases hr with
  |e q1 q2 _=>
   have hd:(y.den c.ρ).proj i≠ .undef:=BK hc;cases hy:y.den c.ρ<;>simp only[hy,AV.proj,ne_eq,not_true_eq_false]at hd;rename_i cs;obtain⟨as_,rfl,r1⟩:=yR q1 hy;cases Ke:cs[i]? with
   |none=>simp[Ke]at hd
   |some z=>obtain⟨u,g,hu,hg,CQ⟩:=r1.at Ke;exact Ap.pure h (ex as_ u rfl hu) (.e (f:=g) (by simpa[E.den,hy,AV.proj,Ke]using CQ) (λb hb=>q2 b (hg b hb)) .nil) rfl
 ·cases he
theorem wC(h:A5 P c n nx sl hp a sl0 hp0 o gs){x:Operand}{t:TypeId}(ho:o.op= .unOp .not t x)(he:Bv P sg sl0 hp0 nv nx gs o=some e)(hc:∀q∈e.bf,Cn.den c.ρ q):Ap P o c n nx sl hp gs a e:=by
 have hm:x∈o.op.operands:=by simp[ho,Op.operands]
 simp only[Bv,ho,Ak,Aj]at he;obtain⟨s,hs,y,hy,he⟩:=he;obtain⟨f,q1,_⟩:=Gs (h.ca hs hm) hy;split at he
 ·subst he;have hv:=G7 q1 rfl;rename_i b;exact Ap.pure h (v:= .bool (!b)) (by simp[execOp,ho,hv,Op.unary]) (.cd (.bool .nil)) rfl
 ·subst he;have hd:(y.den c.ρ).dq≠ .undef:=BK hc;cases Bn:y.den c.ρ<;>simp only[Bn,AV.dq,ne_eq,not_true_eq_false]at hd;have hv:=G7 q1 Bn;rename_i b;exact Ap.pure h (v:= .bool (!b)) (by simp[execOp,ho,hv,Op.unary]) (.cd (by simp only[E.den,Bn,AV.dq];exact .bool .nil)) rfl
theorem wI(h:A5 P c n nx sl hp a sl0 hp0 o gs){x:Operand}{t:TypeId}(ho:o.op= .unOp .neg t x)(he:Bv P sg sl0 hp0 nv nx gs o=some e)(hc:∀q∈e.bf,Cn.den c.ρ q):Ap P o c n nx sl hp gs a e:=by
 have hm:x∈o.op.operands:=by simp[ho,Op.operands]
 simp only[Bv,ho,Ak,Aj]at he;obtain⟨s,hs,y,hy,rfl⟩:=he;obtain⟨f,q1,_⟩:=Gs (h.ca hs hm) hy;have hd:(y.den c.ρ).gb≠ .undef:=BK hc;cases Bn:y.den c.ρ<;>simp only[Bn,AV.gb,ne_eq,not_true_eq_false]at hd;rename_i k m;obtain⟨hv,_⟩:=Fb q1 Bn;exact Ap.pure h (v:= .int k (k.wrap (0-m))) (by simp[execOp,ho,hv,Op.unary,Op.intArith]) (.cd (by simp only[E.den,Bn,AV.gb];exact .int (XW _ _) .nil)) rfl
theorem fL{L:List Operand}{sl0:Nat->SV}{gs:Gd}(h:∀x s,Bl sl0 gs x=some s->x∈L->SR c [s] [a.eval x]):∀{xs:List Operand} {ss:List SV},(∀x∈xs,x∈L)->xs.mapM (Bl sl0 gs)=some ss->SR c ss (xs.map a.eval)
 | [],ss,_,hm=>by simp at hm;subst hm;exact .nil
 |x::xs,ss,hL,hm=>by rw[List.mapM_cons]at hm;simp only[Option.bind_eq_bind,Ak]at hm;obtain⟨s,hs,ss',Ft,hm⟩:=hm;simp at hm;subst hm;exact(h x s hs (hL x (by simp))).app (fL h (λy hy=>hL y (by simp[hy])) Ft)
theorem o7(h:A5 P c n nx sl hp a sl0 hp0 o gs){f:FuncId}{fst caps:Array Operand}(ho:o.op= .makeFunc (.func f) fst caps)(he:Bv P sg sl0 hp0 nv nx gs o=some e):Ap P o c n nx sl hp gs a e:=by
 simp only[Bv,ho]at he;split at he
 ·rename_i hf;obtain⟨ss,Ft,rfl⟩:=Aj.1 he;have hf:fst= #[]:=by simpa using hf
  have r:=fL (a:=a) (c:=c) (L:=caps.toList) (λx s hx hm=>h.ca hx (by simp only[ho,Op.operands,Array.mem_append];exact .inr (Array.mem_toList_iff.1 hm))) (λx hx=>hx) Ft;refine Ap.pure h (v:= .func (.func f) #[] (caps.toList.map a.eval).toArray) ?_ (.fn (by rw[Bo.ak];exact r) .nil) rfl;simp[execOp,ho,Instr.makeFunc,hf];apply Array.ext';simp
 ·cases he
end
section
variable {P:Program} {c:Cx} {n nx:Nat} {sl sl0:Nat->SV} {hp hp0:Nat->Option Ab} {a:Act} {o:Oper} {gs:Gd} {e:AS} {sg:BE} {nv:Nat}
theorem A5.il(h:A5 P c n nx sl hp a sl0 hp0 o gs){x:Operand}{s:SV}(hs:Bl sl0 gs x=some s)(hm:x∈o.op.operands){y:E}(hy:Ba hp0 gs AN s=some y):
  ∃f,Rd c.w [a.eval x] [y.den c.ρ] f/\ ∀b∈f,c.de (BI hp0 gs (AN+1) [s]) b:=Gx h.eh h.gs AN hy (h.ca hs hm) AN (Ar _)
theorem wY(h:A5 P c n nx sl hp a sl0 hp0 o gs){x:Operand}{t:TypeId}{cl:Call}(ho:o.op= .call cl)(Aq:cl.callee= .builtin .len)(Cs:cl.args.toList=[x])(Df:cl.argTypes.toList=[t])(he:Bv P sg sl0 hp0 nv nx gs o=some e)(hc:∀q∈e.bf,Cn.den c.ρ q):Ap P o c n nx sl hp gs a e:=by
 have Ai:cl.args= #[x]:=by apply Array.ext';simp[Cs]
 have EY:cl.argTypes= #[t]:=by apply Array.ext';simp[Df]
 have hm:x∈o.op.operands:=by simp[ho,Op.operands,Call.operands,Aq,Ai]
 simp only[Bv,ho,Aq,Cs,Df,Ak]at he;obtain⟨s,hs,he⟩:=he;unfold gI at he;have ex:(execOp a.eval o).run P c.w=((Builtin.len_ #[t] o.type #[a.eval x]).run P c.w).andThen λv w=> .ok (.value v) w:=by simp[execOp,ho,resolve,Aq,Ai,EY,invoke,builtin]
 split at he
 ·rename_i el hu;obtain⟨y,hy,rfl⟩:=Aj.1 he;obtain⟨f,q1,q2⟩:=h.il hs hm hy;have hd:(y.den c.ρ).len≠ .undef:=BK hc;cases Bn:y.den c.ρ<;>simp only[Bn,AV.len,ne_eq,not_true_eq_false]at hd;rename_i xs;have hl:(y.den c.ρ).len= .int .i64 (xs.length:Int):=by rw[Bn];rfl
  have B8:Ex .i64 (xs.length:Int):=by
   rw[Mt];rcases q1.kind with hh|hh|hh|hh|hh|hh|hh|hh|hh|hh
   all_goals first
    |(obtain⟨_,_,_,hh,_⟩:=hh;rw[Bn]at hh;cases hh;done)
    |(obtain⟨_,_,hh,_⟩:=hh;rw[Bn]at hh;cases hh;done)
    |skip
   ·obtain⟨_,_,_,hh,_⟩:=hh;rw[Bn]at hh;cases hh;simp[IntKind.min,IntKind.max,IntKind.signed,IntKind.bits]
   ·obtain⟨_,_,_,_,_,_,_,_,_,_,_,_,hh,_,_,_,hle,hlen,_⟩:=hh;rw[Bn]at hh;cases hh;simp[IntKind.min,IntKind.max,IntKind.signed,IntKind.bits];omega
   all_goals first
    |(obtain⟨_,_,_,hh,_⟩:=hh;rw[Bn]at hh;cases hh;done)
    |(obtain⟨_,_,_,_,_,_,_,hh,_⟩:=hh;rw[Bn]at hh;cases hh;done)
    |(obtain⟨_,_,_,_,hh,_⟩:=hh;rw[Bn]at hh;cases hh;done)
    |(obtain⟨_,hh,_⟩:=hh;rw[Bn]at hh;cases hh;done)
  refine Ap.pure h (v:= .int .i64 xs.length) ?_ (.cd (by simp only[E.den,Bn,AV.len];exact .int B8 .nil)) rfl;rcases NF q1 hl with⟨p,q,hv,Dg⟩|⟨b,o',k,q,hv,Dg⟩
  ·rw[ex,hv,Dg];simp[Builtin.len_,run_underlying hu,goInt]
  ·rw[ex,hv,Dg];simp[Builtin.len_,run_underlying hu,goInt]
 ·rename_i hu;obtain⟨y,hy,rfl⟩:=Aj.1 he;obtain⟨f,q1,q2⟩:=h.il hs hm hy;have hd:(y.den c.ρ).slen≠ .undef:=BK hc;cases Bn:y.den c.ρ<;>simp only[Bn,AV.slen,ne_eq,not_true_eq_false]at hd;obtain⟨bs,hv,rfl,hle⟩:=NX q1 Bn;refine Ap.pure h (v:= .int .i64 bs.size) ?_ (.cd ?_) rfl
  ·rw[ex,hv];simp[Builtin.len_,run_underlying hu,goInt]
  ·simp only[E.den,Bn,AV.slen];have:(bs.data.toList.length:Int)=(bs.size:Int):=by simp
   rw[this];refine .int ?_ .nil;rw[Mt];simp[IntKind.min,IntKind.max,IntKind.signed,IntKind.bits];omega
 ·cases he
theorem pU(h:A5 P c n nx sl hp a sl0 hp0 o gs){x:Operand}{src dst:TypeId}{k0 k:IntKind}(ho:o.op= .convert src dst x)(h1:P.underlying src=some (.int k0))(h2:P.underlying dst=some (.int k))(he:Bv P sg sl0 hp0 nv nx gs o=some e)(hc:∀q∈e.bf,Cn.den c.ρ q):Ap P o c n nx sl hp gs a e:=by
 have hm:x∈o.op.operands:=by simp[ho,Op.operands]
 simp only[Bv,ho,Ak]at he;obtain⟨s,hs,he⟩:=he;simp only[QR,h1,h2,Aj]at he;obtain⟨y,hy,rfl⟩:=he;obtain⟨f,q1,_⟩:=Gs (h.ca hs hm) hy;have hd:(y.den c.ρ).conv k≠ .undef:=BK hc;cases Bn:y.den c.ρ<;>simp only[Bn,AV.conv,ne_eq,not_true_eq_false]at hd;rename_i k1 m;obtain⟨hv,_⟩:=Fb q1 Bn;exact Ap.pure h (v:= .int k (k.wrap m)) (by simp[execOp,ho,hv,convert,run_underlying h1,run_underlying h2,Conv.intToInt]) (.cd (by simp only[E.den,Bn,AV.conv];exact .int (XW _ _) .nil)) rfl
theorem pX(h:A5 P c n nx sl hp a sl0 hp0 o gs){x:Operand}{src dst:TypeId}(ho:o.op= .convert src dst x)(h1:P.underlying src=some .string)(h2:P.underlying dst=some .string)(he:Bv P sg sl0 hp0 nv nx gs o=some e)(hc:∀q∈e.bf,Cn.den c.ρ q):Ap P o c n nx sl hp gs a e:=by
 have hm:x∈o.op.operands:=by simp[ho,Op.operands]
 simp only[Bv,ho,Ak]at he;obtain⟨s,hs,he⟩:=he;simp only[QR,h1,h2,Aj]at he;obtain⟨y,hy,rfl⟩:=he;obtain⟨f,q1,_⟩:=Gs (h.ca hs hm) hy;have hd:(y.den c.ρ).slen≠ .undef:=BK hc;cases hl:y.den c.ρ<;>simp only[hl,AV.slen,ne_eq,not_true_eq_false]at hd;obtain⟨bs,hv,hle,Vt⟩:=NX q1 hl;exact Ap.pure h (v:= .string bs) (by simp[execOp,ho,hv,convert,run_underlying h1,run_underlying h2]) (.cd (by rw[hl,hle];exact Rd.str Vt .nil)) rfl
theorem gF{w:World}:∀{ys:List AV} {s:List UInt8} {cs:List Value} {f:List Nat},KG ys=some s->Rd w cs (Am ys) f-> ∃ns:List Int,cs=ns.map (Value.int .u8)/\s=ns.map (λn=>UInt8.ofNat n.toNat)/\ns.length=ys.length
 | [],s,cs,f,h,hr=>by have:Am ([]:List AV)=[]:=rfl;rw[this]at hr;cases hr;cases h;exact⟨[],rfl,rfl,rfl⟩
 |y::ys,s,cs,f,h,hr=>by
  unfold KG at h;split at h
  ·rename_i h0;cases h0
  ·rename_i n xs he;cases he;obtain⟨s',h1,rfl⟩:=Aj.1 h;have CP:Rd w cs (.int .u8 n::Am ys) f:=by simpa[Am,AV.cells]using hr
   cases CP with
   |int hk Dv=>obtain⟨ns,rfl,rfl,hl⟩:=gF h1 Dv;exact⟨n::ns,rfl,rfl,by simp[hl]⟩
  ·cases h
theorem pK(h:A5 P c n nx sl hp a sl0 hp0 o gs){x:Operand}{src dst el:TypeId}(ho:o.op= .convert src dst x)(h1:P.underlying src=some (.slice el))(h2:P.underlying dst=some .string)(he:Bv P sg sl0 hp0 nv nx gs o=some e)(hc:∀q∈e.bf,Cn.den c.ρ q):Ap P o c n nx sl hp gs a e:=by
 have hm:x∈o.op.operands:=by simp[ho,Op.operands]
 simp only[Bv,ho,Ak]at he;obtain⟨s,hs,he⟩:=he;simp only[QR,h1,h2]at he;split at he
 ·rename_i hu;obtain⟨y,hy,rfl⟩:=Aj.1 he;obtain⟨f,q1,q2⟩:=h.il hs hm hy;have hd:(y.den c.ρ).text≠ .undef:=BK hc;cases Bn:y.den c.ρ<;>simp only[Bn,AV.text,ne_eq,not_true_eq_false]at hd;rename_i xs;split at hd
  ·rename_i t ht;split at hd
   ·rename_i hle;have BY:(E.text y).den c.ρ= .str t:=by
     simp only[E.den,Bn,AV.text,ht];rw[if_pos hle]
    have fin:∀ns:List Int,t=ns.map (λn=>UInt8.ofNat n.toNat)->ns.length=xs.length->(convert src dst (a.eval x)).run P c.w= .ok (.string (ns.foldl (λr n=>r.push (UInt8.ofNat n.toNat)) ByteArray.empty)) c.w->Ap P o c n nx sl hp gs a {bf:=[.dfd (.text y)],val:= .e (.text y)}:=λns e1 e2 e3=>by
     have e4:(ns.foldl (λr n=>r.push (UInt8.ofNat n.toNat)) ByteArray.empty)=⟨t.toArray⟩:=by
      rw[foldl_push_bytes,e1];simp[ByteArray.empty,ByteArray.emptyWithCapacity]
      try rfl
     rw[e4]at e3;refine Ap.pure h (v:= .string ⟨t.toArray⟩) (by simp[execOp,ho,e3]) (.cd ?_) rfl;rw[BY];have BB:(ByteArray.mk t.toArray).size<=9223372036854775807:=by simp only[ByteArray.size,List.size_toArray];rw[e1,List.length_map];omega
     have:=Rd.str (w:=c.w) (s:=⟨t.toArray⟩) BB .nil;simpa using this
    rw[Bn]at q1;rcases q1.kind with hh|hh|hh|hh|hh|hh|hh|hh|hh|hh
    all_goals first
     |(obtain⟨_,_,_,hh,_⟩:=hh;cases hh;done)
     |(obtain⟨_,_,hh,_⟩:=hh;cases hh;done)
     |skip
    ·obtain⟨p,q,hv,hx,_⟩:=hh;cases hx;cases ht;refine fin [] rfl rfl ?_;rw[hv];cases p with
     |none=>rw[run_convert_bytes_nil c.w src el h1 hu _ _ dst h2];rfl
     |some ad=>rw[run_convert_bytes_string c.w src dst el _ 0 q h1 hu h2,run_bytesToString c.w ad 0 q [] (by simp[loadCells,loadCellsFrom])]
    ·obtain⟨b,o',k,q,ys,cs,C,t',fz,sz,f1,hv,hx,_,hb,_,kS,hlen,_,_,Bb,hr⟩:=hh;cases hx;obtain⟨ns,rfl,e1,e2⟩:=gF ht hr.2;refine fin ns e1 e2 ?_;have hl:ns.length=k:=by omega
     have Bz:∀i,i<k->c.w.cell? ⟨b,o'+i,none⟩=some (.int .u8 (ns.getD i 0)):=λi hi=>by
      have IE:i<ns.length:=by omega
      have:=Bb i (.int .u8 ns[i]) (by simp[IE]);rw[DR hb,this];simp[IE]
     have:=run_convert_bytes_arg c.w src el h1 hu b o' k q ns hl Bz dst h2;rw[hv,this];congr 2;rw[foldl_push_bytes];simp[strOfNums,ByteArray.empty,ByteArray.emptyWithCapacity]
     try rfl
    all_goals first
     |(obtain⟨_,_,_,hh,_⟩:=hh;cases hh;done)
     |(obtain⟨_,_,_,_,_,_,_,hh,_⟩:=hh;cases hh;done)
     |(obtain⟨_,_,_,_,hh,_⟩:=hh;cases hh;done)
     |(obtain⟨_,hh,_⟩:=hh;cases hh;done)
   ·exact absurd rfl hd
  ·exact absurd rfl hd
 ·cases he
theorem dF{ρ:List AV}{x:E}{b:Bool}{gs:Gd}(h1:x.den ρ= .bool b)(h2:A4 ρ gs):A4 ρ ((x,b)::gs):=by
 intro g hg;rcases Ac.1 hg with rfl|hg
 ·exact h1
 ·exact h2 g hg
theorem uE(h:A5 P c n nx sl hp a sl0 hp0 o gs){x y z:Operand}(ho:o.op= .pick x y z)(he:Bv P sg sl0 hp0 nv nx gs o=some e)(hc:∀q∈e.bf,Cn.den c.ρ q):Ap P o c n nx sl hp gs a e:=by
 have Dp:x∈o.op.operands:=by simp[ho,Op.operands]
 have C3:y∈o.op.operands:=by simp[ho,Op.operands]
 have Zt:z∈o.op.operands:=by simp[ho,Op.operands]
 simp only[Bv,ho,Ak]at he;obtain⟨s,hs,he⟩:=he;have hr:=h.ca hs Dp;split at he
 ·rename_i q;have ex:∀b,a.eval x= .bool b->(execOp a.eval o).run P c.w= .ok (.value (if b then a.eval y else a.eval z)) c.w:=λb hb=>by
   simp[execOp,ho,hb,asBool]
  obtain⟨f,q1⟩:∃f,Rd c.w [a.eval x] [q.den c.ρ] f:=by
   generalize a.eval x=v at hr;cases hr with
   |e h1 _ _=>exact⟨_,h1⟩
  unfold gB at he;split at he
  ·obtain⟨s',A1,rfl⟩:=Aj.1 he;exact Ap.pure h (v:=a.eval y) (ex true (G7 q1 rfl)) (h.ca A1 C3) rfl
  ·obtain⟨s',A1,rfl⟩:=Aj.1 he;exact Ap.pure h (v:=a.eval z) (ex false (G7 q1 rfl)) (h.ca A1 Zt) rfl
  ·split at he
   ·rename_i y' z' hy hz;simp at he;subst he;simp only[Ak]at hy hz;obtain⟨sy,lQ,hy⟩:=hy;obtain⟨sz,BB,hz⟩:=hz;have hd:(q.den c.ρ).dq≠ .undef:=BK hc;cases hq:q.den c.ρ<;>simp only[hq,AV.dq,ne_eq,not_true_eq_false]at hd;rename_i b;cases b with
    |true=>have r:=SP (a:=a) lQ (λt ht=>by subst ht;rw[h.sl t C3];exact h.rel.cf t) (dF hq h.gs);obtain⟨f',g1,g2⟩:=Gs r hy;exact Ap.pure h (v:=a.eval y) (ex true (G7 q1 hq)) (.e (f:=f') (by simpa[E.den,hq,AV.cond]using g1) g2 .nil) rfl
    |false=>have r:=SP (a:=a) BB (λt ht=>by subst ht;rw[h.sl t Zt];exact h.rel.cf t) (dF hq h.gs);obtain⟨f',g1,g2⟩:=Gs r hz;exact Ap.pure h (v:=a.eval z) (ex false (G7 q1 hq)) (.e (f:=f') (by simpa[E.den,hq,AV.cond]using g1) g2 .nil) rfl
   ·cases he
 ·cases he
end
section
variable {P:Program} {c:Cx} {n nx:Nat} {sl sl0:Nat->SV} {hp hp0:Nat->Option Ab} {a:Act} {o:Oper} {gs:Gd} {e:AS} {sg:BE} {nv:Nat}
theorem WZ{w:World}{v:Value}{x:AV}{f:List Nat}(h:Rd w [v] [x] f)(h1:∀cs,x≠ .agg cs)(h2:∀cs,x≠ .tup cs):v.oneCell'=true:=by
 cases h<;>first
  |rfl
  |exact absurd rfl (h1 _)
  |exact absurd rfl (h2 _)
theorem one_cells{v:Value}(h:v.oneCell'=true):v.cells= #[v]:=by cases v<;>first|rfl|(simp[Value.oneCell']at h)
theorem Td{t:TypeId}{s:SV}{v:Value}{cs:List SV}{ck:List Cn}(h:SR c [s] [v])(hc:NL P t s=some (cs,ck))(hk:∀q∈ck,q.den c.ρ):
  SR c cs v.cells.toList/\(∀u∈v.cells.toList,u.oneCell'=true):=by
 unfold NL at hc;split at hc
 ·split at hc
  ·simp at hc;obtain⟨rfl,rfl⟩:=hc;cases h with
   |agg h1 h2 _=>exact⟨by simpa[Value.cells]using h2,by simpa[Value.cells]using h1⟩
  ·rename_i x;simp at hc;obtain⟨rfl,rfl⟩:=hc;cases h with
   |e h1 h2 _=>
    obtain⟨as_,has,hl⟩:=BK hk;obtain⟨vs,rfl,h3,h4⟩:=Hv h1 has;refine⟨?_,by simpa[Value.cells]using h3⟩;have hlen:=h4.len;have key:∀k,k<=as_.length->SR c ((List.range k).map λj=>SV.e (.fld x j 1 false)) (vs.take k):=by
     intro k
     induction k with
     |zero=>intro _;simpa using SR.nil
     |succ k ih=>
      intro hk;have BV:k<as_.length:=by omega
      obtain⟨u,g,hu,hg,hr⟩:=h4.at (show as_[k]?=some as_[k] by simp[BV])
      rw[List.range_succ,List.map_append,List.take_succ_eq_append_getElem (by omega)];refine(ih (by omega)).app ?_;have EZ:vs[k]'(by omega)=u:=by simpa[show k<vs.length by omega]using hu
      rw[EZ];exact .e (f:=g) (by simpa[E.den,AV.fld,has,AV.cells,BV]using hr) (λb hb=>h2 b (hg b hb)) .nil
    have:=key as_.length (Ar _);rw[<-hlen,List.take_length,hlen,hl]at this;simpa[Value.cells]using this
  ·cases hc
 ·split at hc
  ·rename_i x;simp at hc;obtain⟨rfl,rfl⟩:=hc;cases h with
   |e h1 h2 _=>
    have hq:(∀cs,x.den c.ρ≠ .agg cs)/\ ∀cs,x.den c.ρ≠ .tup cs:=by
     cases x<;>first
      |exact(BK hk:Cn.den c.ρ (.cells _ 1))
      |exact⟨by simp[E.den],by simp[E.den]⟩
    have FB:=WZ h1 hq.1 hq.2;rw[one_cells FB];exact⟨.e h1 h2 .nil,by simpa using FB⟩
  ·cases hc
  ·cases hc
  ·cases hc
  ·cases hc
  ·cases hc
  ·cases hc
  ·cases hc
  ·cases hc
  ·simp at hc;obtain⟨rfl,rfl⟩:=hc;have FB:v.oneCell'=true:=by
    cases h<;>first|rfl|(rename_i hh _ _ _ _ _;exact absurd rfl (hh _))|skip
    all_goals first
     |rfl
     |exact(show∀(i:Nat),SV.lent _=SV.lent i->False from by assumption) _ rfl|>.elim
     |exact(show∀(t g n:Nat) (p:Lb) (x:E),SV.via _ _ _ _ _=SV.via t g n p x->False from by assumption) _ _ _ _ _ rfl|>.elim
     |exact(show∀(t g n:Nat) (p:Lb) (x i:E) (sz o:Nat),SV.vptr _ _ _ _ _ _ _ _=SV.vptr t g n p x i sz o->False from by assumption) _ _ _ _ _ _ _ _ rfl|>.elim
     |(exfalso;simp_all;done)
   rw[one_cells FB];exact⟨h,by simpa using FB⟩
theorem yV(h:A5 P c n nx sl hp a sl0 hp0 o gs)(ob:Obj)(hv:Value):K9 c (c.new nx ob hv []) nx:=
 ⟨rfl,rfl,rfl,rfl,λt ht=>ht.imp id (λhh=>by subst hh;exact⟨Ar _,by simp[Bw]⟩)⟩
theorem KN(h:A5 P c n nx sl hp a sl0 hp0 o gs): ¬c.U nx:=h.new nx (Ar _) (by omega)
theorem Ap.box(h:A5 P c n nx sl hp a sl0 hp0 o gs){ty:TypeId}{g:Bool}{cs:List SV}{v:Value}{ck:List Cn}(hr:(execOp a.eval o).run P c.w= .ok (.value (.pointer (some ⟨c.w.heap.size,0,none⟩))) (c.w.alloc (.cells v.cells ty)))
  (hs:SR c cs v.cells.toList) (h1:∀u∈v.cells.toList,u.oneCell'=true):Ap P o c n nx sl hp gs a {bf:=ck,val:= .bp nx 0,ay:=[(nx,Cq gs (.box ty g cs))]}:=by
 intro next Q hk
 unfold Oper.wp;rw[hr,Oper.upon_value];have hU:=KN h;have keep:Dj c (c.new nx (.cells v.cells ty) (.pointer (some ⟨c.w.heap.size,0,none⟩)) []):=Cx.eu (λg hg=>hU (h.rel.az _ _ hg));have hH:(c.new nx (.cells v.cells ty) (.pointer (some ⟨c.w.heap.size,0,none⟩)) []).H nx 0= .pointer (some ⟨c.w.heap.size,0,none⟩):=by simp[Cx.new]
 have hK:(c.new nx (.cells v.cells ty) (.pointer (some ⟨c.w.heap.size,0,none⟩)) []).K nx 0:= .inr ⟨rfl,rfl⟩;have hrel:=h.rel.new hU (.cells v.cells ty) (.pointer (some ⟨c.w.heap.size,0,none⟩)) (.box ty g cs) gs h.gs (by intros;simp)
  ⟨c.w.heap.size,v.cells,hK,hH,by simp[Cx.new],by simp[Cx.new],heap_alloc_new _ _,h1,hs.keep keep⟩
 exact hk _ _ (yV h _ _) (hrel.put ((SR.bp hK hH .nil).mkGd gs h.gs) o.dst)
theorem tE(h:A5 P c n nx sl hp a sl0 hp0 o gs){t:TypeId}(ho:o.op= .alloc t)(he:Bv P sg sl0 hp0 nv nx gs o=some e)(hc:∀q∈e.bf,Cn.den c.ρ q):Ap P o c n nx sl hp gs a e:=by
 simp only[Bv,ho,Ak]at he;obtain⟨z,⟨i,hi,hz⟩,s,hs,⟨cs,ck⟩,Bb,he⟩:=he;split at he
 ·cases he
 ·split at he
  ·cases he
  ·rename_i Ji;have Ji:ck=[]:=by simpa using Ji
   simp at he;subst he;have A1:Ej z=some s:=by simpa[gY,hi,hz]using hs
   obtain⟨q1,q2⟩:=Td (Tj (c:=c) A1) Bb (by simp[Ji]);refine Ap.box h (v:=z) ?_ q1 q2;simp[execOp,ho,Instr.alloc,zeroValue,typeInfo,hi,hz,newVar,newRow]
theorem wG(h:A5 P c n nx sl hp a sl0 hp0 o gs){t:TypeId}{x:Operand}(ho:o.op= .box t x)(he:Bv P sg sl0 hp0 nv nx gs o=some e)(hc:∀q∈e.bf,Cn.den c.ρ q):Ap P o c n nx sl hp gs a e:=by
 have hm:x∈o.op.operands:=by simp[ho,Op.operands]
 simp only[Bv,ho,Ak]at he;obtain⟨s,hs,⟨cs,ck⟩,Bb,he⟩:=he;split at he
 ·cases he
 ·simp at he;subst he;obtain⟨q1,q2⟩:=Td (h.ca hs hm) Bb hc;refine Ap.box h (v:=a.eval x) ?_ q1 q2;simp[execOp,ho,Instr.box,newVar,newRow]
end
section
variable {P:Program} {c:Cx} {n nx:Nat} {sl sl0:Nat->SV} {hp hp0:Nat->Option Ab} {a:Act} {o:Oper} {gs:Gd} {e:AS} {sg:BE} {nv:Nat}
def setVs{α:Type}(cs:List α)(o:Nat)(vs:List α):List α:=cs.take o++vs++cs.drop (o+vs.length)
theorem Nv{α:Type}(cs vs:List α)(o:Nat)(h:o+vs.length<=cs.length)(i:Nat):(setVs cs o vs)[i]?=if o<=i/\i<o+vs.length then vs[i-o]? else cs[i]?:=by
 unfold setVs;have ht:(cs.take o).length=o:=by rw[AF];omega
 rw[List.append_assoc];by_cases h1:i<o
 ·rw[if_neg (by omega),List.getElem?_append_left (by omega),List.getElem?_take,if_pos h1]
 ·rw[List.getElem?_append_right (by omega),ht];by_cases h2:i<o+vs.length
  ·rw[if_pos (by omega),List.getElem?_append_left (by omega)]
  ·rw[if_neg (by omega),List.getElem?_append_right (by omega),List.getElem?_drop];congr 1;omega
theorem Nx{α:Type}(cs vs:List α)(o:Nat)(h:o+vs.length<=cs.length):(setVs cs o vs).length=cs.length:=by simp[setVs];omega
theorem SR.setVs{cs vs:List SV}{C V:List Value}{k:Nat}(h:SR c cs C)(hv:SR c vs V):SR c (Od cs k vs) (Go.Proofs.YteeafhlnofapaaaGreat.setVs C k V):=by unfold Od Go.Proofs.YteeafhlnofapaaaGreat.setVs;have hl:=hv.len;rw[<-hl];exact((h.split k).1.app hv).app (h.split _).2
theorem dZ(vs:List Value):∀(k off:Nat) (C:Array Value),off+k+vs.length<=C.size->
  ((vs.zipIdx k).foldl (λcs (p:Value × Nat)=>cs.setIfInBounds (off+p.2) p.1) C).toList=setVs C.toList (off+k) vs:=by
 induction vs with
 |nil=>intro k off C _;simp[setVs]
 |cons v vs ih=>
  intro k off C h;simp only[AM]at h;simp only[List.zipIdx_cons,List.foldl_cons];rw[ih (k+1) off _ (by simp;omega)];apply List.ext_getElem?;intro i;rw[Nv _ _ _ (by simp;omega),Nv _ _ _ (by simp;omega)];simp only[Array.toList_setIfInBounds,List.getElem?_set,AM,Bp];by_cases h1:i=off+k
  ·subst h1;rw[if_neg (by omega),if_pos rfl,if_pos (by omega),if_pos (by omega)];simp
  ·by_cases h2:off+(k+1)<=i/\i<off+(k+1)+vs.length
   ·rw[if_pos h2,if_pos (by omega),show i-(off+k)=(i-(off+(k+1)))+1 by omega,List.getElem?_cons_succ]
   ·rw[if_neg h2,if_neg (by omega),if_neg (by omega)]
theorem WG{b off:Nat}{t:TypeId}:∀(vs:List Value) (i:Nat) (w:World) (C:Array Value),w.heap[b]?=some (.cells C t (0,0))->off+i+vs.length<=C.size->(∀v∈vs,v.oneCell'=true)->
  (storeCells ⟨b,off,none⟩ vs i).run P w= .ok () (putCells w b (off+i) vs)
 | [],i,w,C,_,_,_=>by simp[storeCells,putCells]
 |v::vs,i,w,C,hb,hl,h1=>by
  simp only[AM]at hl;have hi:off+i<C.size:=by omega
  have Bz:w.cell? ⟨b,off+i,none⟩=some C[off+i]:=by simp[World.cell?,hb,hi]
  have Vb:w.frozen? ⟨b,off+i,none⟩=false:=by simp[World.frozen?,hb]
  have Ib:(store ((⟨b,off,none⟩:Addr).add i) v).run P w= .ok () (w.setCell ⟨b,off+i,none⟩ v):=by rw[Addr.add_lit,run_store P w _ v _ (h1 v (by simp)),Bz];simp[Vb]
  have h2:=heap_setCell_same w b (off+i) C t v hb;have ih:=WG (off:=off) vs (i+1) (w.setCell ⟨b,off+i,none⟩ v) _ h2 (by simp;omega) (λx hx=>h1 x (by simp[hx]));simp only[storeCells,Sem.run_bind,Ib,Result.andThen_ok,ih,putCells];rw[Nat.add_assoc]
theorem SC{w:World}{b off:Nat}{t:TypeId}{vs:List Value}{C:Array Value}(hb:w.heap[b]?=some (.cells C t (0,0)))(hl:off+vs.length<=C.size):
  Mod [b] w (putCells w b off vs)/\(putCells w b off vs).heap[b]?=some (.cells (setVs C.toList off vs).toArray t (0,0))/\(putCells w b off vs).heap.size=w.heap.size:=by
 obtain⟨hm,C',h1,h2,h3,h4⟩:=WO vs w b off C t hb hl;refine⟨hm,?_,?_⟩
 ·rw[h1];congr 2;apply Array.ext';apply List.ext_getElem?;intro i;rw[Nv _ _ _ (by simpa using hl)];by_cases hi:off<=i/\i<off+vs.length
  ·rw[if_pos hi];have AA:i-off<vs.length:=by omega
   have:=h3 (i-off) vs[i-off] (by simp[AA]);rw[show off+(i-off)=i by omega]at this;rw[Array.getElem?_toList,this];simp[AA]
  ·rw[if_neg hi,Array.getElem?_toList,Array.getElem?_toList];exact h4 i (by omega)
 ·clear hm h1 h2 h3 h4 hl
  induction vs generalizing w off C with
  |nil=>rfl
  |cons v vs ih=>simp only[putCells];rw[ih (heap_setCell_same w b off C t v hb)];simp[World.setCell]
theorem WY{w:World}{b off:Nat}{t ty:TypeId}{v:Value}{C:Array Value}(hb:w.heap[b]?=some (.cells C ty (0,0)))(ht:CL P t=true)(hs:v.cells.size=P.cellsOf t)(hl:off+v.cells.size<=C.size)(h1:∀u∈v.cells.toList,u.oneCell'=true):
  (Instr.storeAt t (.pointer (some ⟨b,off,none⟩)) v).run P w= .ok () (putCells w b off v.cells.toList):=by
 have:=WG (P:=P) (off:=off) v.cells.toList 0 w C hb (by simpa using hl) h1;simp only[Nat.add_zero]at this;simp[Instr.storeAt,Instr.sureAddr,storeVar,Mc ht,hs,this]
def Cx.wr(c:Cx)(w':World)(t:Nat):Cx:={c with w:=w',E:=λu=>if u=t then c.E u+1 else c.E u}
theorem Cx.fm{c:Cx}{w':World}{t b:Nat}(gw:GW c)(B5:b∈(c.G t).top)(hm:Mod [b] c.w w'):Dj c (c.wr w' t):=by
 have Bf:b∈(c.G t).own:=by simp[GI.own,B5]
 refine⟨rfl,rfl,λq _ hq=>hq,λq hq AI=>hm.block q hq ?_,λu g hu=>⟨hu,rfl⟩,λu g hu=> ?_⟩
 ·simp only[List.mem_singleton];rintro rfl;exact AI.1 ⟨t,B5⟩
 ·by_cases FF:u=t
  ·have e1:(c.wr w' t).E u=c.E u+1:=by simp only[Cx.wr,if_pos FF]
   exact⟨by omega,λh=>by omega⟩
  ·have e1:(c.wr w' t).E u=c.E u:=by simp only[Cx.wr,if_neg FF]
   rw[e1];refine⟨Ar _,λ_=>⟨rfl,λq hq Hj=>hm.block q Hj ?_⟩⟩;simp only[List.mem_singleton];rintro rfl;exact gw.br t u (Ne.symm FF) q Bf (by simp[GI.own,hq])
theorem Rel.write(h:Rel c n sl hp a){t:Nat}{e0:Ab}{b:Nat}{w':World}(AJ:Cg c.ρ (hp t) e0)(B5:b∈(c.G t).top)(hm:Mod [b] c.w w')(BB:w'.heap.size=c.w.heap.size)(e1:Ab)(BM:∀hs f,e1≠ .gd hs f)
  (he:CM (c.wr w' t) t e1):Rel (c.wr w' t) n sl (AZ hp [(t,e1)]) a/\Dj c (c.wr w' t):=by
 have Bf:b∈(c.G t).own:=by simp[GI.own,B5]
 have BL:Dj c (c.wr w' t):=Cx.fm h.gw B5 hm;have Dr:∀u,AZ hp [(t,e1)] u=if u=t then some e1 else hp u:=λu=>rfl;refine⟨h.change (λu=>u=t) BL ⟨hm.os.trans h.base.os,hm.tape.trans h.base.tape,hm.output.trans h.base.output,Nat.le_trans h.base.size hm.size,h.base.pins,λq hq Fk=> ?_,h.base.pk,h.base.lo⟩
  (λu hu=>⟨by rw[Dr,if_neg hu],rfl,by simp[Cx.wr,hu],λg hg=>hg⟩) (λu hu q hq=>hm.block q (h.gw.inb u q (by simp[GI.own,hq])) ?_) (λu hu=> ?_) ⟨h.gw.nodup,h.gw.br,h.gw.allow,λu q hq=> ?_⟩ h.az (λu f hf=> ?_),BL⟩
 ·refine(hm.block q (Nat.lt_of_lt_of_le hq h.base.size) ?_).trans (h.base.block q hq Fk);simp only[List.mem_singleton];rintro rfl;rcases h.gw.allow t q Bf with hh|hh
  ·exact absurd hh (Nat.not_le.2 hq)
  ·exact Fk hh
 ·simp only[List.mem_singleton];rintro rfl;exact h.gw.br t u (Ne.symm hu) q Bf (by simp[GI.own,hq])
 ·subst hu;rw[Dr,if_pos rfl];refine⟨λe' hr=> ?_,λhn=> ?_⟩
  ·cases e1<;>first
    |(simp only[Cg]at hr;subst hr;exact he)
    |exact absurd rfl (BM _ _)
  ·cases e1<;>first
    |exact absurd rfl (BM _ _)
    |exact absurd rfl (hn _)
 ·show q<w'.heap.size;rw[BB];exact h.gw.inb u q hq
 ·rw[Dr]at hf;split at hf
  ·rename_i hu;subst hu;cases hh:hp u with
   |none=>rw[hh]at AJ;exact AJ.elim
   |some e9=>exact h.b8 u e9 hh
  ·exact h.b8 u f hf
end
section
variable {P:Program} {c:Cx} {n nx:Nat} {sl sl0:Nat->SV} {hp hp0:Nat->Option Ab} {a:Act} {o:Oper} {gs:Gd} {e:AS} {sg:BE} {nv:Nat}
theorem pA(h:A5 P c n nx sl hp a sl0 hp0 o gs){t:TypeId}{x y:Operand}(ho:o.op= .store t x y){b k:Nat}{s:SV}(hx:Bl sl0 gs x=some (.bp b k))(hy:Bl sl0 gs y=some s)
  (he:KO P hp0 gs t (.bp b k) s=some e) (hc:∀q∈e.bf,Cn.den c.ρ q):Ap P o c n nx sl hp gs a e:=by
 have r1:=h.ca hx (by simp[ho,Op.operands]);have r2:=h.ca hy (by simp[ho,Op.operands]);simp only[KO]at he;split at he
 ·rename_i ty g cs vs ck hl Bb;split at he
  ·rename_i hh;obtain⟨A2,hlen,hle,rfl⟩:=hh;simp at he;subst he;obtain⟨q1,q2⟩:=Td r2 Bb hc;generalize hv:a.eval x=v at r1;cases r1 with
   |bp h1 h2 h3=>
    rename_i q;have EE:=Ci hl h.gs;obtain⟨q',C,e1,e2,e3,e4,e5,e5',e6⟩:=h.eh b _ EE;rw[h2]at e2;cases e2;have AJ:Cg c.ρ (hp b) (.box ty g cs):=by
     cases hh:hp0 b with
     |none=>rw[hh]at EE;exact EE.elim
     |some e9=>rw[h.hp b e9 hh];rwa[hh]at EE
    have LD:=e6.len;have Vs:=q1.len;obtain⟨m1,m2,m3⟩:=SC (vs:=(a.eval y).cells.toList) e5 (show k+_<=C.size by simp at LD Vs ⊢;omega);obtain⟨hrel,BL⟩:=h.rel.write AJ (by rw[e3];simp) m1 m3 (.box ty g (Od cs k vs)) (by intros;simp) (w':=putCells c.w q k (a.eval y).cells.toList) (by
     have BV:Dj c (c.wr (putCells c.w q k (a.eval y).cells.toList) b):=Cx.fm h.rel.gw (by rw[e3];simp) m1;refine⟨q,_,e1,h2,e3,e4,m2,?_,?_⟩
     ·intro u hu;simp only[List.toList_toArray]at hu;unfold setVs at hu;simp only[Ae]at hu;rcases hu with(hu|hu)|hu
      ·exact e5' u (BA hu)
      ·exact q2 u hu
      ·exact e5' u (BP hu)
     ·simpa using(e6.setVs q1 (k:=k)).keep BV)
    intro next Q hk
    unfold Oper.wp;have hr:(execOp a.eval o).run P c.w= .ok .skip (putCells c.w q k (a.eval y).cells.toList):=by have:=WY (P:=P) (t:=t) (v:=a.eval y) (off:=k) e5 A2 (by simp at Vs;omega) (by simp at LD Vs;omega) q2;simp[execOp,ho,hv,this]
    rw[hr,Oper.upon_skip];exact hk _ (c.wr (putCells c.w q k (a.eval y).cells.toList) b) ⟨rfl,rfl,rfl,rfl,λt ht=> .inl ht⟩ (hrel.put ((SR.undef .nil).mkGd []) o.dst)
  ·cases he
 ·cases he
theorem fE{places:List (Nat × Nat)}{tys:List TypeId}:∀(ps:List (Nat × SV)) (vs:List (Nat × Value)) (cs:List SV) (C:Array Value) (r:List SV × List Cn),Q6 P places tys ps cs=some r->(∀q∈r.2,q.den c.ρ)->
  ps.map (·.1)=vs.map (·.1)->SR c (ps.map (·.2)) (vs.map (·.2))->SR c cs C.toList->(∀u∈C.toList,u.oneCell'=true)->
  ∃C',Instr.fill (places.toArray[·]?) C vs=some C'/\SR c r.1 C'.toList/\ ∀u∈C'.toList,u.oneCell'=true
 | [],vs,cs,C,r,h,hk,he,_,hC,h1=>by
  have:vs=[]:=by simpa using he.symm
  subst this;simp[Q6]at h;subst h;exact⟨C,rfl,hC,h1⟩
 |(i,s)::ps,[],cs,C,r,h,hk,he,_,hC,h1=>by simp at he
 |(i,s)::ps,(j,v)::vs,cs,C,r,h,hk,he,hs,hC,h1=>by
  simp only[List.map_cons,List.cons.injEq]at he;obtain⟨rfl,he⟩:=he;simp only[List.map_cons]at hs;obtain⟨Bu,AQ⟩:=hs.bd;unfold Q6 at h;split at h
  ·rename_i off sz t F0 A2;split at h
   ·rename_i us ck Bb;split at h
    ·rename_i hh;obtain⟨BB,hle⟩:=hh;obtain⟨r',CP,rfl⟩:=Aj.1 h;obtain⟨q1,q2⟩:=Td Bu Bb (λq hq=>hk q (by simp[hq]));have Jo:=q1.len;have MV:=hC.len;have Kh:(v.cells.zipIdx.foldl (λcs (p:Value × Nat)=>cs.setIfInBounds (off+p.2) p.1) C).toList=setVs C.toList off v.cells.toList:=by
      have:=dZ v.cells.toList 0 off C (by simp at Jo MV ⊢;omega);rw[<-Array.foldl_toList,Array.toList_zipIdx];simpa using this
     obtain⟨C',g1,g2,g3⟩:=fE ps vs (Od cs off us) (v.cells.zipIdx.foldl (λcs (p:Value × Nat)=>cs.setIfInBounds (off+p.2) p.1) C) r' CP (λq hq=>hk q (by simp[hq])) he AQ (by rw[Kh];exact hC.setVs q1) (by
      rw[Kh];intro u hu;unfold setVs at hu;simp only[Ae]at hu;rcases hu with(hu|hu)|hu
      ·exact h1 u (BA hu)
      ·exact q2 u hu
      ·exact h1 u (BP hu))
     refine⟨C',?_,g2,g3⟩;unfold Instr.fill;have VK:places.toArray[i]?=some (off,sz):=by simpa using F0
     simp only[VK];rw[if_neg (by simp at Jo MV ⊢;omega)];exact g1
    ·cases h
   ·cases h
  ·cases h
theorem Tc{sl0:Nat->SV}{gs:Gd}(L:List Operand)(h:∀x s,Bl sl0 gs x=some s->x∈L->SR c [s] [a.eval x]):∀{xs:List (Nat × Operand)} {ss:List (Nat × SV)},(∀x∈xs,x.2∈L)->xs.mapM (λ(p:Nat × Operand)=>(Bl sl0 gs p.2).map λs=>(p.1,s))=some ss->
  ss.map (·.1)=xs.map (·.1)/\SR c (ss.map (·.2)) (xs.map λp=>a.eval p.2)
 | [],ss,_,hm=>by simp at hm;subst hm;exact⟨rfl, .nil⟩
 |x::xs,ss,hL,hm=>by rw[List.mapM_cons]at hm;simp only[Option.bind_eq_bind,Ak,Aj]at hm;obtain⟨_,⟨s,hs,rfl⟩,ss',Ft,hm⟩:=hm;simp at hm;subst hm;obtain⟨e1,e2⟩:=Tc L h (λy hy=>hL y (by simp[hy])) Ft;exact⟨by simp[e1],(h _ s hs (hL x (by simp))).app e2⟩
theorem s6(h:A5 P c n nx sl hp a sl0 hp0 o gs){t:TypeId}{parts:Array (Nat × Operand)}(ho:o.op= .build t parts)(he:Bv P sg sl0 hp0 nv nx gs o=some e)(hc:∀q∈e.bf,Cn.den c.ρ q):Ap P o c n nx sl hp gs a e:=by
 simp only[Bv,ho,Ak]at he;obtain⟨ps,Kt,he⟩:=he;obtain⟨e1,e2⟩:=Tc (c:=c) (a:=a) (parts.toList.map (·.2)) (λx s hx hm=>h.ca hx (by simpa[ho,Op.operands]using hm)) (λx hx=>List.mem_map.2 ⟨x,hx,rfl⟩) Kt;unfold dX at he;split at he
 ·rename_i it fs RD hu;split at he
  ·rename_i zs places hz F0;obtain⟨r,hr,rfl⟩:=Aj.1 he;obtain⟨z,RX,RY⟩:=Ak.1 hz;have ZO:=Tj (c:=c) RY;obtain⟨cells,g1,g2,g3⟩:=fE (c:=c) (P:=P) ps (parts.toList.map λp=>(p.1,a.eval p.2)) zs.toList z.cells r hr hc (by rw[e1];simp) (by rw[List.map_map];exact e2)
    (by cases ZO with|agg h1 h2 _=>simpa[Value.cells]using h2) (by cases ZO with|agg h1 h2 _=>simpa[Value.cells]using h1)
   have hb:P.built t (parts.map λ(x:Nat × Operand)=>(x.1,a.eval x.2)).toList=some cells:=by simp only[Program.built,RD,hu,RX,F0];simpa using g1
   have:=SR.agg (c:=c) (cs:=Bo.of r.1) (as_:=cells.toList) g3 (by rw[Bo.ak];exact g2) .nil;refine Ap.pure h (v:= .agg cells) ?_ (by simpa using this) rfl;have Ay:=run_build c.w t _ cells hb;simp only[execOp,ho,Sem.run_bind];rw[Ay];rfl
  ·cases he
 ·cases he
end
section
variable {P:Program} {c:Cx} {n nx:Nat} {sl sl0:Nat->SV} {hp hp0:Nat->Option Ab} {a:Act} {o:Oper} {gs:Gd} {e:AS} {sg:BE} {nv:Nat}
def Cx.a6(c:Cx)(ts:List Nat):Cx:={c with G:=λu=>if u∈ts then⟨[],[]⟩else c.G u,E:=λu=>if u∈ts then c.E u+1 else c.E u}
theorem Cx.gk{c:Cx}{ts:List Nat}{b:Nat}(h:(c.a6 ts).M b):∃u,u∉ts/\b∈(c.G u).top:=by
 obtain⟨u,hu⟩:=h;simp only[Cx.a6]at hu;split at hu
 ·simp at hu
 ·exact⟨u,by assumption,hu⟩
theorem Cx.dn{c:Cx}{ts:List Nat}{b:Nat}(h:c.ok b):(c.a6 ts).ok b:=⟨λhm=>by obtain⟨u,_,hu⟩:=Cx.gk hm;exact h.1 ⟨u,hu⟩,h.2⟩
theorem Cx.gz(c:Cx)(ts:List Nat):Dj c (c.a6 ts):=⟨rfl,rfl,λ_ _ h=>Cx.dn h,λ_ _ _=>rfl,λ_ _ h=>⟨h,rfl⟩,λt g _=>by
 by_cases ht:t∈ts
 ·have e1:(c.a6 ts).E t=c.E t+1:=by simp only[Cx.a6,if_pos ht]
  exact⟨by omega,λh=>by omega⟩
 ·have e1:(c.a6 ts).E t=c.E t:=by simp only[Cx.a6,if_neg ht]
  have e2:(c.a6 ts).G t=c.G t:=by simp only[Cx.a6,if_neg ht]
  rw[e1];exact⟨Ar _,λ_=>⟨e2,λ_ _ _=>rfl⟩⟩⟩
theorem fJ{c:Cx}(gw:GW c){ts us:List Nat}(hs:∀t∈us,t∈ts){b:Nat}(h:c.de us b):(c.a6 ts).ok b:=by
 rcases h with h|⟨t,ht,hb⟩
 ·exact Cx.dn h
 ·have Bf:b∈(c.G t).own:=by simp[GI.own,hb]
  refine⟨λhm=> ?_, .inr (gw.allow t b Bf)⟩;obtain⟨u,hu,GN⟩:=Cx.gk hm;have:t≠u:=λhh=>hu (hh▸hs t ht);exact gw.br t u this b Bf (by simp[GI.own,GN])
def JJ(e:Ab)(g:Nat)(x:E):Prop:=(∃ety sz d,e= .row ety sz g x d)\/ ∃ety sz l ep,e= .deep ety sz l g ep x
theorem JJ.ne{e:Ab}{g:Nat}{x:E}(h:JJ e g x):∀hs f,e≠ .gd hs f:=by rcases h with⟨_,_,_,rfl⟩|⟨_,_,_,_,rfl⟩<;>intros<;>simp
theorem JJ.rd{e:Ab}{g t:Nat}{x:E}(h:JJ e g x)(k:CM c t e):c.K t g/\ ∃f,Rd c.w [c.H t g] [x.den c.ρ] f/\ ∀b∈f,b∈(c.G t).top\/c.ok b:=by
 rcases h with⟨_,_,_,rfl⟩|⟨_,_,_,_,rfl⟩
 ·obtain⟨q1,q2,N,q3,q4,_⟩:=k;obtain⟨f,r1,r2,_⟩:=q3.rd;exact⟨q1,f,r1,λb hb=>(r2 b hb).imp id (q4 b)⟩
 ·obtain⟨q1,q2,_,q3,_⟩:=k;obtain⟨f,r1,r2⟩:=q3.rd;exact⟨q1,f,r1,λb hb=> .inl (r2 b hb)⟩
theorem JJ.fun{e:Ab}{g g':Nat}{x x':E}(h:JJ e g x)(k:JJ e g' x'):g=g'/\x=x':=by rcases h with⟨_,_,_,rfl⟩|⟨_,_,_,_,rfl⟩<;>rcases k with⟨_,_,_,hh⟩|⟨_,_,_,_,hh⟩<;>cases hh<;>exact⟨rfl,rfl⟩
theorem L8{gs:Gd}{ρ:List AV}(k:A4 ρ gs):∀{ts:List Nat} {l:List (Nat × Ab)},Di hp0 gs ts=some l->
  (∀t e,(t,e)∈l->t∈ts/\gs=[]/\ ∃g x f,e= .a6 g x/\Cg ρ (hp0 t) f/\JJ f g x)/\
  (∀t∈ts,(∃g x,(t,Ab.a6 g x)∈l)\/(∃g x,Cg ρ (hp0 t) (.a6 g x))\/ ∃ty g cs,Cg ρ (hp0 t) (.box ty g cs))
 | [],l,h=>by simp[Di]at h;subst h;simp
 |t::ts,l,h=>by
  unfold Di at h;split at h
  ·rename_i ety sz g x d l' hl Bm;split at h
   ·rename_i hg;simp at h;subst h;obtain⟨h1,h2⟩:=L8 k Bm;refine⟨λu e hu=> ?_,λu hu=> ?_⟩
    ·rcases Ac.1 hu with hu|hu
     ·cases hu;exact⟨by simp,by simpa using hg,g,x,_,rfl,Ci hl k, .inl ⟨_,_,_,rfl⟩⟩
     ·obtain⟨p,q,r⟩:=h1 u e hu;exact⟨by simp[p],q,r⟩
    ·rcases Ac.1 hu with rfl|hu
     ·exact .inl ⟨g,x,by simp⟩
     ·rcases h2 u hu with⟨g',x',hh⟩|hh
      ·exact .inl ⟨g',x',by simp[hh]⟩
      ·exact .inr hh
   ·cases h
  ·rename_i ety sz dl g ep x l' hl Bm;split at h
   ·rename_i hg;simp at h;subst h;obtain⟨h1,h2⟩:=L8 k Bm;refine⟨λu e hu=> ?_,λu hu=> ?_⟩
    ·rcases Ac.1 hu with hu|hu
     ·cases hu;exact⟨by simp,by simpa using hg,g,x,_,rfl,Ci hl k, .inr ⟨_,_,_,_,rfl⟩⟩
     ·obtain⟨p,q,r⟩:=h1 u e hu;exact⟨by simp[p],q,r⟩
    ·rcases Ac.1 hu with rfl|hu
     ·exact .inl ⟨g,x,by simp⟩
     ·rcases h2 u hu with⟨g',x',hh⟩|hh
      ·exact .inl ⟨g',x',by simp[hh]⟩
      ·exact .inr hh
   ·cases h
  ·rename_i g x l' hl Bm;simp at h;subst h;obtain⟨h1,h2⟩:=L8 k Bm;refine⟨λu e hu=> ?_,λu hu=> ?_⟩
   ·obtain⟨p,q,r⟩:=h1 u e hu;exact⟨by simp[p],q,r⟩
   ·rcases Ac.1 hu with rfl|hu
    ·exact .inr (.inl ⟨g,x,Ci hl k⟩)
    ·exact h2 u hu
  ·rename_i ty g cs l' hl Bm;simp at h;subst h;obtain⟨h1,h2⟩:=L8 k Bm;refine⟨λu e hu=> ?_,λu hu=> ?_⟩
   ·obtain⟨p,q,r⟩:=h1 u e hu;exact⟨by simp[p],q,r⟩
   ·rcases Ac.1 hu with rfl|hu
    ·exact .inr (.inr ⟨ty,g,cs,Ci hl k⟩)
    ·exact h2 u hu
  ·cases h
theorem JG{hp:Nat->Option Ab}:∀{l:List (Nat × Ab)} {t:Nat},(∀e,(t,e)∉l)->AZ hp l t=hp t
 | [],_,_=>rfl
 |(u,e)::l,t,h=>by
  have ht:t≠u:=by rintro rfl;exact h e (by simp)
  have:=JG (hp:=λv=>if v=u then some e else hp v) (l:=l) (t:=t) (λe' Eh=>h e' (by simp[Eh]));simp only[AZ,List.foldl_cons]at this ⊢;rw[this,if_neg ht]
theorem X6{hp:Nat->Option Ab}:∀{l:List (Nat × Ab)} {t:Nat} {e:Ab},(t,e)∈l->(∀e',(t,e')∈l->e'=e)->AZ hp l t=some e
 | [],_,_,h,_=>by simp at h
 |(u,f)::l,t,e,h,hu=>by
  simp only[AZ,List.foldl_cons];by_cases hm:∃e',(t,e')∈l
  ·obtain⟨e',Eh⟩:=hm;have:=hu e' (by simp[Eh]);subst this;exact X6 (hp:=λv=>if v=u then some f else hp v) Eh (λe'' iV=>hu e'' (by simp[iV]))
  ·have hn:∀e',(t,e')∉l:=λe' Eh=>hm ⟨e',Eh⟩;have:=JG (hp:=λv=>if v=u then some f else hp v) (l:=l) (t:=t) hn;simp only[AZ]at this;rw[this];rcases Ac.1 h with h|h
   ·cases h;simp
   ·exact absurd h (hn e)
theorem JQ(hs:∀t e,hp0 t=some e->hp t=some e){ρ:List AV}{t:Nat}{e:Ab}(h:Cg ρ (hp0 t) e):Cg ρ (hp t) e:=by
 cases hh:hp0 t with
 |none=>rw[hh]at h;exact h.elim
 |some e9=>rw[hs t e9 hh];rwa[hh]at h
theorem xQ{ρ:List AV}{o:Option Ab}{e f:Ab}(h:Cg ρ o e)(k:Cg ρ o f):e=f:=by
 cases o with
 |none=>exact h.elim
 |some o=>
  cases o with
  |gd gs x=>exact h.2.symm.trans k.2
  |box=>exact h.symm.trans k
  |row=>exact h.symm.trans k
  |a6=>exact h.symm.trans k
  |dead=>exact h.symm.trans k
  |deep=>exact h.symm.trans k
  |hol=>exact h.symm.trans k
  |pre=>exact h.symm.trans k
theorem Rel.freeze(h:Rel c n sl hp a)(hs:∀t e,hp0 t=some e->hp t=some e)(k:A4 c.ρ gs){ts:List Nat}{l:List (Nat × Ab)}(hf:Di hp0 gs ts=some l):
  Rel (c.a6 (l.map (·.1))) n sl (AZ hp l) a:=by
 obtain⟨h1,h2⟩:=L8 k hf;have hG:∀u,(c.a6 (l.map (·.1))).G u=if u∈l.map (·.1)then⟨[],[]⟩else c.G u:=λu=>rfl;have Ie:∀t e e',(t,e)∈l->(t,e')∈l->e'=e:=by intro t e e' he Eh;obtain⟨_,_,g,x,_,rfl,r,rl⟩:=h1 t e he;obtain⟨_,_,g',x',_,rfl,r',rl'⟩:=h1 t e' Eh;have:=xQ r r';subst this;obtain⟨rfl,rfl⟩:=rl.fun rl';rfl
 refine h.change (λu=>u∈l.map (·.1)) (Cx.gz c _) ⟨h.base.os,h.base.tape,h.base.output,h.base.size,h.base.pins,h.base.block,h.base.pk,h.base.lo⟩ (λu hu=>⟨JG (λe he=>hu (List.mem_map.2 ⟨_,he,rfl⟩)),by rw[hG,if_neg hu],by simp only[Cx.a6,if_neg hu],λg hg=>hg⟩) (λu hu b hb=>rfl) (λu hu=> ?_) ?_ h.az (λu e hu=> ?_)
 ·obtain⟨⟨u',e⟩,he,rfl⟩:=List.mem_map.1 hu;have Dr:=X6 (hp:=hp) he (λe' Eh=>Ie _ _ _ he Eh);obtain⟨_,_,g,x,f0,rfl,r,rl⟩:=h1 u' e he;obtain⟨q1,f,r1,r2⟩:=rl.rd (h.ents u' _ (JQ hs r));have Jl:((c.a6 (l.map (·.1))).G u').top=[]/\((c.a6 (l.map (·.1))).G u').O=[]:=by rw[hG,if_pos hu];simp
  rw[Dr];refine⟨λe' hr=> ?_,λ_=>Jl⟩;have:e'= .a6 g x:=hr.symm;subst this;exact⟨q1,⟨f,r1,λb hb=>by
   refine fJ h.gw (ts:=l.map (·.1)) (us:=[u']) (by simpa using hu) ?_;rcases r2 b hb with hb|hb
   ·exact .inr ⟨u',by simp,hb⟩
   ·exact .inl hb⟩,Jl.1,Jl.2⟩
 ·refine⟨λu=> ?_,λu v VY b hb=> ?_,λu b hb=> ?_,λu b hb=> ?_⟩
  ·rw[hG];split
   ·simp[GI.own]
   ·exact h.gw.nodup u
  ·rw[hG]at hb ⊢;split at hb
   ·simp[GI.own]at hb
   ·split
    ·simp[GI.own]
    ·exact h.gw.br u v VY b hb
  ·rw[hG]at hb;split at hb
   ·simp[GI.own]at hb
   ·exact h.gw.allow u b hb
  ·rw[hG]at hb;split at hb
   ·simp[GI.own]at hb
   ·exact h.gw.inb u b hb
 ·by_cases hm:∃e',(u,e')∈l
  ·obtain⟨e',Eh⟩:=hm;obtain⟨_,_,g,x,f0,rfl,r,rl⟩:=h1 u e' Eh;have r':=JQ hs r;cases hh:hp u with
   |none=>rw[hh]at r';exact r'.elim
   |some e9=>exact h.b8 u e9 hh
  ·rw[JG (λe' Eh=>hm ⟨e',Eh⟩)]at hu;exact h.b8 u e hu
theorem sK{ts:List Nat}(h:K1 hp0 gs ts=true){t:Nat}(ht:t∈ts){ty:Nat}{g:Bool}{cs:List SV}:CE hp0 gs t≠some (.box ty g cs):=by intro hl;simp only[K1,Bh,List.any_eq_false]at h;have:=h t ht;rw[hl]at this;simp at this
theorem rI{ρ:List AV}(k:A4 ρ gs){ts:List Nat}{l:List (Nat × Ab)}(hf:Di hp0 gs ts=some l){t:Nat}(ht:t∈ts):(∃g x,(t,Ab.a6 g x)∈l)\/(∃g x,CE hp0 gs t=some (.a6 g x))\/ ∃ty g cs,CE hp0 gs t=some (.box ty g cs):=by
 induction ts generalizing l with
 |nil=>simp at ht
 |cons u ts ih=>
  unfold Di at hf;split at hf
  ·rename_i ety sz g x d l' hl Bm;split at hf
   ·simp at hf;subst hf;rcases Ac.1 ht with rfl|ht
    ·exact .inl ⟨g,x,by simp⟩
    ·rcases ih Bm ht with⟨g',x',hh⟩|hh
     ·exact .inl ⟨g',x',by simp[hh]⟩
     ·exact .inr hh
   ·cases hf
  ·rename_i ety sz dl g ep x l' hl Bm;split at hf
   ·simp at hf;subst hf;rcases Ac.1 ht with rfl|ht
    ·exact .inl ⟨g,x,by simp⟩
    ·rcases ih Bm ht with⟨g',x',hh⟩|hh
     ·exact .inl ⟨g',x',by simp[hh]⟩
     ·exact .inr hh
   ·cases hf
  ·rename_i g x l' hl Bm;simp at hf;subst hf;rcases Ac.1 ht with rfl|ht
   ·exact .inr (.inl ⟨g,x,hl⟩)
   ·exact ih Bm ht
  ·rename_i ty g cs l' hl Bm;simp at hf;subst hf;rcases Ac.1 ht with rfl|ht
   ·exact .inr (.inr ⟨ty,g,cs,hl⟩)
   ·exact ih Bm ht
  ·cases hf
theorem Qm(h:Rel c n sl hp a)(eh:EH c hp0)(k:A4 c.ρ gs){ts:List Nat}{l:List (Nat × Ab)}(hf:Di hp0 gs ts=some l)(hb:K1 hp0 gs ts=true){b:Nat}(hs:c.de ts b):(c.a6 (l.map (·.1))).ok b:=by
 rcases hs with hs|⟨t,ht,Ck⟩
 ·exact Cx.dn hs
 ·rcases rI k hf ht with⟨g,x,hh⟩|⟨g,x,hh⟩|⟨ty,g,cs,hh⟩
  ·exact fJ h.gw (us:=[t]) (by simpa using⟨_,hh⟩) (.inr ⟨t,by simp,Ck⟩)
  ·obtain⟨_,_,B5,_⟩:=eh t _ (Ci hh k);rw[B5]at Ck;simp at Ck
  ·exact absurd hh (sK hb ht)
theorem aX(h:Rel c n sl hp a)(hs:∀t e,hp0 t=some e->hp t=some e)(k:A4 c.ρ gs){t:TypeId}{s:SV}{v:Value}(hr:SR c [s] [v]){x:E}{fz:List (Nat × Ab)}{d:Bool}{ck:List Cn}(ht:TZ P hp0 gs t s=some (x,fz,d,ck))(hc:∀q∈ck,q.den c.ρ):
  ∃f,Rd c.w [v] [x.den c.ρ] f/\(d=true->f=[])/\(∃ts,Di hp0 gs ts=some fz/\ ∀b∈f,(c.a6 (fz.map (·.1))).ok b)/\
   (if Ah P t then∃cs,x.den c.ρ= .agg cs/\cs.length=P.cellsOf t else(∀cs,x.den c.ρ≠ .agg cs)/\ ∀cs,x.den c.ρ≠ .tup cs):=by
 have eh:EH c hp0:=λt e hr=>h.ents t e (JQ hs hr);unfold TZ at ht;split at ht
 ·cases ht
 ·rename_i y hy;obtain⟨f,q1,q2⟩:=Gx eh k AN hy hr AN (Ar _);split at ht
  ·simp at ht;obtain⟨rfl,rfl,rfl,rfl⟩:=ht;obtain⟨c1,c2,c3,c4⟩:=BK hc;have hf:f=[]:=by
    cases hg:Ah P t with
    |true=>obtain⟨cs,Bb⟩:=c3 hg;obtain⟨as_,rfl,_,r⟩:=Hv q1 Bb;exact Gt r (by rw[Bb]at c2;exact c2)
    |false=>exact Gt q1 (by simpa using c4 hg)
   subst hf;refine⟨[],q1,λ_=>rfl,⟨[],rfl,by simp⟩,?_⟩;split
   ·rename_i hg;obtain⟨cs,Bb⟩:=c3 hg;exact⟨cs,Bb,by rw[Bb]at c1;exact c1⟩
   ·rename_i hg;have:=c4 (by simpa using hg);exact⟨λcs Bb=>by rw[Bb]at this;simp[AV.scalar]at this,λcs Bb=>by rw[Bb]at this;simp[AV.scalar]at this⟩
  ·split at ht
   ·rename_i GY;split at ht
    ·cases ht
    ·rename_i l hl;simp only[Aa,AG]at ht;obtain⟨rfl,rfl,rfl,rfl⟩:=ht;refine⟨f,q1,by simp,⟨_,hl,λb hb=>Qm h eh k hl GY (q2 b hb)⟩,?_⟩;have hq:=BK hc;unfold iR at hq;split
     ·rename_i hg;rw[if_pos hg]at hq;obtain⟨cs,Bb,hl⟩:=hq;exact⟨cs,Bb,hl⟩
     ·rename_i hg;rw[if_neg hg]at hq;exact hq
   ·cases ht
end
section
variable {P:Program} {c:Cx} {n nx:Nat} {sl sl0:Nat->SV} {hp hp0:Nat->Option Ab} {a:Act} {o:Oper} {gs:Gd} {e:AS} {sg:BE} {nv:Nat}
theorem TN(w:World)(t ty el:TypeId)(i:TypeInfo)(z:Value)(ht:P.underlying t=some (.slice el))(hi:P.info? el=some i)(hz:i.zero=some z)(C5:z.cells.size=i.size)(BB:0<i.size)
  (Own:Nat->Prop) (v:Value) (k:Nat) (old:List Value) (ho:old.length=k*i.size)
  (AY:(k=0/\ ∃q,v= .slice q 0 0)\/ ∃g cap C,v= .slice (some ⟨g,0,none⟩) k cap/\k<=cap/\cap<=maxLen/\w.heap[g]?=some (.cells C el (0,0))/\C.size=cap*i.size/\old=C.toList.take (k*i.size)/\Own g)
  (q:Option Addr) (m r:Nat) (news:List Value) (hs:Src w i.size q m news) (Ro:k+m<=maxLen) (hb:(k+m)*i.bytes<=140737488355328):
  ∃v' w',(Builtin.append_ #[t,t] ty #[v, .slice q m r]).run P w= .ok v' w'/\
   ((v'=v/\w'=w/\m=0)\/ ∃g cap C,v'= .slice (some ⟨g,0,none⟩) (k+m) cap/\k+m<=cap/\cap<=maxLen/\w'.heap[g]?=some (.cells C el (0,0))/\C.size=cap*i.size/\C.toList.take ((k+m)*i.size)=old++news/\
    w.grownBy w' (some g)/\((g=w.heap.size/\g<w'.heap.size)\/Own g)):=by
 have RG:news.length=m*i.size:=by
  rcases hs with⟨rfl,rfl,rfl⟩|⟨ad,rfl,h1,_⟩
  ·simp
  ·exact h1
 have hlen:(old++news).length=(k+m)*i.size:=by rw[AO,ho,RG,Nat.add_mul]
 have grown:∀(cp:Nat),cp<k+m-> ∀(X:Array Value),X.toList=old++news-> ∃C,C=X++Builtin.zeroCells z.cells (grownCap w (k+m) cp el-(k+m))/\
   k+m<=grownCap w (k+m) cp el/\grownCap w (k+m) cp el<=maxLen/\C.size=grownCap w (k+m) cp el*i.size/\C.toList.take ((k+m)*i.size)=old++news:=by
  intro cp hcp X hX;have RC:=grownCap_ge w (k+m) cp el;have HH:=grownCap_le_maxLen w (k+m) cp el Ro;refine⟨_,rfl,RC,HH,?_,?_⟩
  ·have jN:X.size=(k+m)*i.size:=by rw[<-Bp,hX,hlen]
   rw[Array.size_append,jN,size_zeroCells,C5,<-Nat.add_mul];congr 1;omega
  ·rw[Array.toList_append,hX,<-hlen];exact List.take_left
 have newb:∀C:Array Value,w.grownBy (w.drew.alloc (.cells C el)) (some w.heap.size)/\w.heap.size<(w.drew.alloc (.cells C el)).heap.size/\(w.drew.alloc (.cells C el)).heap[w.heap.size]?=some (.cells C el (0,0)):=
  λC=>⟨⟨rfl,rfl,rfl,by simp,λj hj _=>Below.heap_alloc w.drew _ _ hj⟩,by simp,heap_alloc_new w.drew _⟩
 rcases AY with⟨rfl,p,rfl⟩|⟨g,cap,C,rfl,LL,HH,hg,Bb,hold,UD⟩
 ·have hold:old=[]:=List.eq_nil_of_length_eq_zero (by simpa using ho);subst hold;by_cases hm:m=0
  ·subst hm;have hn:news=[]:=List.eq_nil_of_length_eq_zero (by simpa using RG);subst hn;refine⟨_,w,?_, .inl ⟨rfl,rfl,rfl⟩⟩;rcases hs with⟨rfl,_,_⟩|⟨ad,rfl,_⟩<;>cases p<;>
    simp[Builtin.append_,run_underlying ht,sizeOf,typeInfo,hi,Builtin.lenOf,Builtin.firstCells,loadCells,loadCellsFrom,storeCells]
  ·rcases hs with⟨_,rfl,_⟩|⟨ad,rfl,h1,h2,h3⟩
   ·exact absurd rfl hm
   ·obtain⟨C',MQ,g1,g2,g3,g4⟩:=grown 0 (by omega) news.toArray (by simp);cases p with
    |none=>have hr:=run_append_nil (P:=P) w t ty el i z ht hi hz ad m r news h1 h2 (by omega) (by simp only[maxLen]at Ro;omega) (by have hb:=hb;simp only[Nat.zero_add]at hb;omega);simp only[Nat.zero_add]at g1 g2 g3 g4 MQ ⊢;obtain⟨n1,n2,n3⟩:=newb C';refine⟨_,_,hr, .inr ⟨_,_,C',rfl,g1,g2,?_,g3,g4,?_, .inl ⟨rfl,?_⟩⟩⟩<;>rw[<-MQ]<;>first|exact n3|exact n1|exact n2
    |some p=>have hr:=run_append_grow (P:=P) w t ty el i z ht hi hz p 0 0 [] (by simp) (by simp) ad m r news h1 h2 (by omega) (by simp only[maxLen]at Ro;omega) (growslice_fits (by omega) hb);rw[show(([]:List Value).toArray++news.toArray)=news.toArray by simp]at hr;simp only[Nat.zero_add]at g1 g2 g3 g4 MQ hr ⊢;obtain⟨n1,n2,n3⟩:=newb C';refine⟨_,_,hr, .inr ⟨_,_,C',rfl,g1,g2,?_,g3,g4,?_, .inl ⟨rfl,?_⟩⟩⟩<;>rw[<-MQ]<;>first|exact n3|exact n1|exact n2
 ·rcases hs with⟨rfl,rfl,rfl⟩|⟨ad,rfl,h1,h2,h3⟩
  ·refine⟨_,w,?_, .inl ⟨rfl,rfl,rfl⟩⟩;simp[Builtin.append_,run_underlying ht,sizeOf,typeInfo,hi,Builtin.lenOf,Builtin.firstCells,LL,storeCells]
  ·by_cases BD:k+m<=cap
   ·have Lv:k*i.size+news.length<=C.size:=by rw[h1,Bb,<-Nat.add_mul];exact A3 _ BD
    have hr:=run_append_room (P:=P) w t ty el i ht hi g k cap C hg ad m r news h1 h2 h3 BD Lv;refine⟨_,_,hr, .inr ⟨g,cap,_,rfl,BD,HH,setRow_heap w g C _ el _ hg,?_,?_,⟨rfl,rfl,rfl,by simp,λj _ hj=>setRow_other w g j _ (λhh=>hj (by rw[hh]))⟩, .inr UD⟩⟩
    ·simp only[List.size_toArray,AO,AF,B1,Bp];omega
    ·rw[<-hold,<-hlen];exact List.take_left
   ·have holds:∀j u,old[j]?=some u->w.cell? ((⟨g,0,none⟩:Addr).add j)=some u:=λj u hu=>by
     rw[Addr.add_lit,Nat.zero_add,DR hg];rw[hold,List.getElem?_take]at hu;split at hu
     ·simpa using hu
     ·cases hu
    have hr:=run_append_grow (P:=P) w t ty el i z ht hi hz ⟨g,0,none⟩ k cap old ho holds ad m r news h1 h2 (by omega) (by simp only[maxLen]at Ro;omega) (growslice_fits (by omega) hb);obtain⟨C',MQ,g1,g2,g3,g4⟩:=grown cap (by omega) (old.toArray++news.toArray) (by simp);obtain⟨n1,n2,n3⟩:=newb C';refine⟨_,_,hr, .inr ⟨_,_,C',rfl,g1,g2,?_,g3,g4,?_, .inl ⟨rfl,?_⟩⟩⟩<;>rw[<-MQ]<;>first|exact n3|exact n1|exact n2
def Cx.aq(c:Cx)(t g':Nat)(w':World)(v:Value)(top O:List Nat):Cx:=
 {c with w:=w',G:=λu=>if u=t then⟨top,O⟩else c.G u,K:=λu g=>c.K u g\/(u=t/\g=g'),H:=λu g=>if u=t/\g=g' then v else c.H u g,U:=λu=>c.U u\/u=t,E:=λu=>if u=t then c.E u+1 else c.E u}
theorem Rel.aq(h:Rel c n sl hp a){t g:Nat}(D5:c.A.pin t=none\/g≠0)(AP: ¬c.K t g){w':World}{row:Option Nat}(hg:c.w.grownBy w' row)
  (Es:∀g0,row=some g0->g0∈(c.G t).top\/(g0=c.w.heap.size/\g0<w'.heap.size)) {top O:List Nat} (B5:top=[]\/ ∃g0,row=some g0/\top=[g0]) (hO:O=[]\/O=(c.G t).O) {v:Value} (e1:Ab) (BM:∀hs f,e1≠ .gd hs f) (k:A4 c.ρ gs)
  (he:Dj c (c.aq t g w' v top O)->CM (c.aq t g w' v top O) t e1):Rel (c.aq t g w' v top O) n sl (AZ hp [(t,Cq gs e1)]) a:=by
 have hG:∀u,(c.aq t g w' v top O).G u=if u=t then⟨top,O⟩else c.G u:=λu=>rfl;have hM:∀b,(c.aq t g w' v top O).M b->c.M b\/row=some b:=by
  rintro b ⟨u,hu⟩;rw[hG]at hu;split at hu
  ·rcases B5 with rfl|⟨g0,hr,rfl⟩
   ·simp at hu
   ·simp at hu;subst hu;exact .inr hr
  ·exact .inl ⟨u,hu⟩
 have O4:∀b,b<c.w.heap.size->c.ok b->row≠some b:=by
  intro b hb AI hr;rcases Es b hr with hh|⟨hh,_⟩
  ·exact AI.1 ⟨t,hh⟩
  ·omega
 have BL:Dj c (c.aq t g w' v top O):=by
  refine⟨rfl,rfl,λb hb AI=>⟨λhm=>(hM b hm).elim AI.1 (O4 b hb AI),AI.2⟩,λb hb AI=>hg.block b hb (λhh=>O4 b hb AI hh.symm),λu g1 hu=>⟨.inl hu,?_⟩,λu g1 hu=> ?_⟩
  ·simp only[Cx.aq];rw[if_neg];rintro⟨rfl,rfl⟩;exact AP hu
  ·by_cases FF:u=t
   ·have e1:(c.aq t g w' v top O).E u=c.E u+1:=by simp only[Cx.aq,if_pos FF]
    exact⟨by omega,λh=>by omega⟩
   ·have e1:(c.aq t g w' v top O).E u=c.E u:=by simp only[Cx.aq,if_neg FF]
    have e2:(c.aq t g w' v top O).G u=c.G u:=by simp only[Cx.aq,if_neg FF]
    rw[e1];refine⟨Ar _,λ_=>⟨e2,λb hb Gg=>hg.block b Gg λhh=> ?_⟩⟩;rcases Es b hh.symm with h1|⟨h1,_⟩
    ·exact h.gw.br u t FF b (by simp[GI.own,hb]) (by simp[GI.own,h1])
    ·omega
 have Dr:∀u,AZ hp [(t,Cq gs e1)] u=if u=t then some (Cq gs e1)else hp u:=λu=>rfl;have LN:∀u,u≠t-> ∀b∈(c.G u).own,row≠some b:=by
  intro u hu b hb hr;rcases Es b hr with hh|⟨hh,_⟩
  ·exact h.gw.br u t hu b hb (by simp[GI.own,hh])
  ·have:=h.gw.inb u b hb;omega
 have BG:∀b∈(⟨top,O⟩:GI).own,row=some b\/b∈(c.G t).own:=by
  intro b hb;simp only[GI.own,Ae]at hb ⊢;rcases hb with hb|hb
  ·rcases B5 with rfl|⟨g0,hr,rfl⟩
   ·simp at hb
   ·simp at hb;subst hb;exact .inl hr
  ·rcases hO with rfl|rfl
   ·simp at hb
   ·exact .inr (.inr hb)
 refine h.change (λu=>u=t) BL ⟨hg.os.trans h.base.os,hg.tape.trans h.base.tape,hg.output.trans h.base.output,Nat.le_trans h.base.size hg.size,λu v' hp=>⟨.inl (h.base.pins u v' hp).1,λhk=> ?_⟩,λb hb Fk=> ?_,h.base.pk,h.base.lo⟩
  (λu hu=>⟨by rw[Dr,if_neg hu],by rw[hG,if_neg hu],by simp[Cx.aq,hu],λg1 hh=>hh.resolve_right (λhh=>hu hh.1)⟩) (λu hu b hb=>hg.block b (h.gw.inb u b (by simp[GI.own,hb])) (λhh=>LN u hu b (by simp[GI.own,hb]) hh.symm)) (λu hu=> ?_) ?_ (λu g1 hh=> ?_) (λu f hf=> ?_)
 ·have FF: ¬(u=t/\0=g):=by
   rintro⟨rfl,rfl⟩;rcases D5 with hh|hh
   ·have hp':c.A.pin u=some v':=hp;rw[hh]at hp';cases hp'
   ·exact hh rfl
  have BV:=hk.resolve_right FF;simp only[Cx.aq];rw[if_neg FF];exact(h.base.pins u v' hp).2 BV
 ·refine(hg.block b (Nat.lt_of_lt_of_le hb h.base.size) (λhh=> ?_)).trans (h.base.block b hb Fk);rcases Es b hh.symm with hh|⟨hh,_⟩
  ·rcases h.gw.allow t b (by simp[GI.own,hh])with h1|h1
   ·exact absurd h1 (Nat.not_le.2 hb)
   ·exact Fk h1
  ·have:=h.base.size;have h9:b<c.w0.heap.size:=hb;omega
 ·subst hu;rw[Dr,if_pos rfl];exact⟨λe' hr=>by rw[(NG k BM).1 hr];exact he BL,λhn=>absurd ((NG k BM).2 rfl) (hn e1)⟩
 ·have BT:(⟨top,O⟩:GI).own.Nodup:=by
   have h0:=h.gw.nodup t;simp only[GI.own]at h0 ⊢;rw[List.nodup_append]at h0 ⊢;refine⟨by rcases B5 with rfl|⟨g0,hr,rfl⟩<;>simp,by rcases hO with rfl|rfl;simp;exact h0.2.1,λp hp q hq=> ?_⟩;rcases B5 with rfl|⟨g0,hr,rfl⟩
   ·simp at hp
   ·simp at hp;subst hp;rcases hO with rfl|rfl
    ·simp at hq
    ·rcases Es p hr with hh|⟨hh,_⟩
     ·exact h0.2.2 p hh q hq
     ·have:=h.gw.inb t q (by simp[GI.own,hq]);omega
  refine⟨λu=> ?_,λu u' Jz b hb=> ?_,λu b hb=> ?_,λu b hb=> ?_⟩
  ·rw[hG];split
   ·exact BT
   ·exact h.gw.nodup u
  ·rw[hG]at hb ⊢;by_cases h1:u=t
   ·rw[if_pos h1]at hb;rw[if_neg (λhh=>Jz (h1.trans hh.symm))];rcases BG b hb with hr|hb
    ·exact λhh=>LN u' (λh2=>Jz (h1.trans h2.symm)) b hh hr
    ·exact h.gw.br t u' (λhh=>Jz (h1.trans hh)) b hb
   ·rw[if_neg h1]at hb;by_cases h2:u'=t
    ·rw[if_pos h2];intro BF;rcases BG b BF with hr|BF
     ·exact LN u h1 b hb hr
     ·exact h.gw.br u t h1 b hb BF
    ·rw[if_neg h2];exact h.gw.br u u' Jz b hb
  ·rw[hG]at hb;split at hb
   ·rcases BG b hb with hr|hb
    ·rcases Es b hr with hh|⟨hh,_⟩
     ·exact h.gw.allow t b (by simp[GI.own,hh])
     ·exact .inl (by rw[hh];exact h.base.size)
    ·exact h.gw.allow t b hb
   ·exact h.gw.allow u b hb
  ·rw[hG]at hb;show b<w'.heap.size;split at hb
   ·rcases BG b hb with hr|hb
    ·rcases Es b hr with hh|⟨_,hh⟩
     ·exact Nat.lt_of_lt_of_le (h.gw.inb t b (by simp[GI.own,hh])) hg.size
     ·exact hh
    ·exact Nat.lt_of_lt_of_le (h.gw.inb t b hb) hg.size
   ·exact Nat.lt_of_lt_of_le (h.gw.inb u b hb) hg.size
 ·rcases hh with hh|⟨rfl,_⟩
  ·exact .inl (h.az u g1 hh)
  ·exact .inr rfl
 ·rw[Dr]at hf;split at hf
  ·rename_i hu;exact .inr hu
  ·exact .inl (h.b8 u f hf)
theorem gR{w:World}{v:Value}{ys:List AV}{f:List Nat}{sz:Nat}(h:Rd w [v] [.sl ys] f)(hs:∀y∈ys,y.cells.length=sz):
  ∃q r news N,v= .slice q ys.length r/\Src w sz q ys.length news/\Rd w news (Am ys) N/\(∀b∈N,b∈f)/\news.length=ys.length*sz/\(∀u∈news,u.oneCell'=true):=by
 rcases h.kind with hh|hh|hh|hh|hh|hh|hh|hh|hh|hh
 ·obtain⟨_,_,_,hh,_⟩:=hh;cases hh
 ·obtain⟨_,_,hh,_⟩:=hh;cases hh
 ·obtain⟨_,_,hh,_⟩:=hh;cases hh
 ·obtain⟨p,r,rfl,hh,rfl⟩:=hh;cases hh;refine⟨p,r,[],[],rfl,?_, .nil,by simp,by simp,by simp⟩;cases p with
  |none=>exact .inl ⟨rfl,rfl,rfl⟩
  |some p=>exact .inr ⟨p,rfl,by simp,by simp,by simp⟩
 ·obtain⟨b,off,m,r,ys',cs,C,t,fz,sz',f1,rfl,hh,rfl,hb,h1,h2,h3,h4,h5,h6,Gf,h7⟩:=hh;cases hh;subst h3;have Ft:sz'=sz:=by
   cases ys with
   |nil=>simp at h1
   |cons y ys=>rw[<-h4 y (by simp),hs y (by simp)]
  subst Ft;have hl:=h7.len;rw[IQ ys h4]at hl;exact⟨_,r,cs,f1,rfl, .inr ⟨_,rfl,hl,λj u hu=>by rw[Addr.add_lit,DR hb];exact h6 j u hu,Gf⟩,h7,λq hq=>by simp[hq],hl,Gf⟩
 ·obtain⟨_,_,_,hh,_⟩:=hh;cases hh
 ·obtain⟨_,_,_,hh,_⟩:=hh;cases hh
 ·obtain⟨_,_,_,_,_,_,_,hh,_⟩:=hh;cases hh
 ·obtain⟨_,_,_,_,hh,_⟩:=hh;cases hh
 ·obtain⟨_,hh,_⟩:=hh;cases hh
end
section
variable {P:Program} {c:Cx} {n nx:Nat} {sl sl0:Nat->SV} {hp hp0:Nat->Option Ab} {a:Act} {o:Oper} {gs:Gd} {e:AS} {sg:BE} {nv:Nat}
theorem Ml(hp:Nat->Option Ab)(l m:List (Nat × Ab)):AZ hp (l++m)=AZ (AZ hp l) m:=by simp[AZ,List.foldl_append]
theorem rB(h:Rel c n sl hp a)(hs:∀t e,hp0 t=some e->hp t=some e)(k:A4 c.ρ gs){el:TypeId}{s:SV}{v:Value}(hr:SR c [s] [v]){y:E}(hy:Ba hp0 gs AN s=some y){fz:List (Nat × Ab)}{d:Bool}{ck:Cn}(ht:QJ P hp0 gs el s y=some (fz,d,ck))(hc:ck.den c.ρ):
  ∃ts ys q r news N,Di hp0 gs ts=some fz/\y.den c.ρ= .sl ys/\(∀z∈ys,z.cells.length=P.cellsOf el)/\v= .slice q ys.length r/\Src c.w (P.cellsOf el) q ys.length news/\Rd c.w news (Am ys) N/\(∀b∈N,(c.a6 (fz.map (·.1))).ok b)/\(d=true->N=[])/\news.length=ys.length*P.cellsOf el/\ ∀u∈news,u.oneCell'=true:=by
 have eh:EH c hp0:=λt e hr=>h.ents t e (JQ hs hr);obtain⟨f,q1,q2⟩:=Gx eh k AN hy hr AN (Ar _);unfold QJ at ht;split at ht
 ·simp only[Aa,AG]at ht;obtain⟨rfl,rfl,rfl⟩:=ht;obtain⟨ys,CI,Aq⟩:=hc;rw[CI]at q1;obtain⟨q,r,news,N,hv,g1,g2,g3,g4,g5⟩:=gR q1 (λz hz=>(Aq z hz).1);have hN:N=[]:=Gt g2 (λx hx=>by
   obtain⟨z,hz,hx⟩:=List.mem_flatMap.1 hx;exact(Aq z hz).2 x hx)
  exact⟨[],ys,q,r,news,N,rfl,CI,λz hz=>(Aq z hz).1,hv,g1,g2,by simp[hN],λ_=>hN,g4,g5⟩
 ·split at ht
  ·rename_i GY;obtain⟨l,hl,ht⟩:=Aj.1 ht;simp only[AG]at ht;obtain⟨rfl,rfl,rfl⟩:=ht;obtain⟨ys,CI,Aq⟩:=hc;rw[CI]at q1;obtain⟨q,r,news,N,hv,g1,g2,g3,g4,g5⟩:=gR q1 Aq;exact⟨_,ys,q,r,news,N,hl,CI,Aq,hv,g1,g2,λb hb=>Qm h eh k hl GY (q2 b (g3 b hb)),by simp,g4,g5⟩
  ·cases ht
theorem IP{el:TypeId}(h:F7 P el=true):∃i z,P.info? el=some i/\i.zero=some z/\z.cells.size=i.size/\0<i.size/\P.cellsOf el=i.size/\P.bytesOf el=i.bytes:=by
 unfold F7 at h;cases hi:P.info? el with
 |none=>simp[hi]at h
 |some i=>
  cases hz:i.zero with
  |none=>simp[hi,hz]at h
  |some z=>simp only[hi,hz,Ad,AB,bne_iff_ne]at h;exact⟨i,z,rfl,hz,h.1,by omega,by simp[Program.cellsOf,hi],by simp[Program.bytesOf,hi]⟩
theorem Qg(xs ys:List AV):Am (xs++ys)=Am xs++Am ys:=by simp[Am]
theorem WL(h:A5 P c n nx sl hp a sl0 hp0 o gs){x y:Operand}{tx:TypeId}{cl:Call}(ho:o.op= .call cl)(Aq:cl.callee= .builtin .append)(Cs:cl.args.toList=[x,y])(Df:cl.argTypes.toList=[tx,tx])
  {el:TypeId} (A6:P.underlying tx=some (.slice el)) (hz:F7 P el=true) {s2:SV} {ye:E} (AQ:Bl sl0 gs y=some s2) (hy:Ba hp0 gs AN s2=some ye) {fz:List (Nat × Ab)} {d:Bool} {ck:Cn} (B9:QJ P hp0 gs el s2 ye=some (fz,d,ck)) (Ji:ck.den c.ρ)
  {t g:Nat} (D5:c.A.pin t=none\/g≠0) {c0:E} {d':Bool} (BD:Cn.den c.ρ (.room c0 ye (P.bytesOf el))) (D4:∀f,(t,f)∉fz) (AP: ¬c.K t g)
  {top N0:List Nat} {v:Value} (hv:a.eval x=v) (AY:Cy c.w el (P.cellsOf el) v (c0.den c.ρ) top N0) (B5:(c.G t).top=top) (Le:∀b∈N0,c.ok b) (U2:d'=true->Ow c.w N0/\(c.G t).O=N0) (Jn:∀g',c.K t g'->g'<=g) (hU:∀u,u=t->c.U u\/(nx<=u/\u<nx+Bw)) {ckl:List Cn}:
  Ap P o c n nx sl hp gs a {bf:=ckl,val:= .own t g,ay:=fz++ [(t,Cq gs (.row el (P.cellsOf el) g (.app c0 ye) (d&&d')))]}:=by
 have Ai:cl.args= #[x,y]:=by apply Array.ext';simp[Cs]
 have EY:cl.argTypes= #[tx,tx]:=by apply Array.ext';simp[Df]
 have C3:y∈o.op.operands:=by simp[ho,Op.operands,Call.operands,Aq,Ai]
 obtain⟨i,z,hi,EW,C5,BB,BX,E6⟩:=IP hz;obtain⟨ts,ys,q,r,news,N,Gh,CI,Hm,CR,C4,H3,Ff,jY,RG,LJ⟩:=rB h.rel h.hp h.gs (h.ca AQ C3) hy B9 Ji;have CN:=h.rel.freeze h.hp h.gs Gh;obtain⟨xs,B3,FG,_,AK⟩:=AY;obtain⟨mm,kk,Gl,Dv,Ku,RQ⟩:=BD;rw[B3]at Gl;rw[CI]at Dv;simp only[AV.len,AV.int.injEq,true_and]at Gl Dv;have GL:(xs.length+ys.length)*i.bytes<=140737488355328:=by
  rw[<-Gl,<-Dv,E6]at Ku;have h9:(((xs.length+ys.length)*i.bytes:Nat):Int)<=140737488355328:=by rw[Int.natCast_mul,Int.natCast_add];exact Ku
  omega
 have Gg:xs.length+ys.length<=140737488355328:=by rw[<-Gl,<-Dv]at RQ;omega
 rw[BX]at C4 RG FG Hm AK;obtain⟨old,hold,EF,CQ,Cl⟩:∃old,old.length=xs.length*i.size/\((xs.length=0/\ ∃q,v= .slice q 0 0)\/ ∃g cap C,v= .slice (some ⟨g,0,none⟩) xs.length cap/\xs.length<=cap/\cap<=maxLen/\c.w.heap[g]?=some (.cells C el (0,0))/\C.size=cap*i.size/\old=C.toList.take (xs.length*i.size)/\g∈(c.G t).top)/\Rd c.w old (Am xs) N0/\ ∀u∈old,u.oneCell'=true:=by
  rcases AK with⟨rfl,⟨p,rfl⟩,rfl,rfl⟩|⟨g9,cap,C,rfl,h6,h7,h8,h9,rfl,Er,DW⟩
  ·exact⟨[],by simp, .inl ⟨rfl,p,rfl⟩, .nil,by simp⟩
  ·refine⟨_,?_, .inr ⟨g9,cap,C,rfl,h6,h7,h8,h9,rfl,by rw[B5];simp⟩,DW,Er⟩;have e9:C.toList.length=cap*i.size:=by rw[<-h9];simp
   rw[AF,e9];exact Nat.min_eq_left (A3 _ h6)
 obtain⟨v',w',Ay,AJ⟩:=TN (P:=P) c.w tx o.type el i z A6 hi EW C5 BB (λg9=>g9∈(c.G t).top) v xs.length old hold EF q ys.length r news C4 (by simp only[maxLen];omega) GL;have CD:(execOp a.eval o).run P c.w= .ok (.value v') w':=by simp[execOp,ho,resolve,Aq,Ai,EY,invoke,builtin,hv,CR,Ay]
 intro next Q hk
 unfold Oper.wp;rw[CD,Oper.upon_value];have jT:(c.a6 (fz.map (·.1))).w=c.w:=rfl;have Y8:(c.a6 (fz.map (·.1))).G t=c.G t:=by simp only[Cx.a6];rw[if_neg];rintro hh;obtain⟨⟨u,f⟩,hf,rfl⟩:=List.mem_map.1 hh;exact D4 f hf
 obtain⟨row,top',O6,Es,PB,Bf,CF⟩:∃row top',c.w.grownBy w' row/\(∀g0,row=some g0->g0∈(c.G t).top\/(g0=c.w.heap.size/\g0<w'.heap.size))/\(top'=[]\/ ∃g0,row=some g0/\top'=[g0])/\
   (Dj (c.a6 (fz.map (·.1))) ((c.a6 (fz.map (·.1))).aq t g w' v' top' (if(d&&d')=true then(c.G t).O else []))-> ∃N',Cy w' el (P.cellsOf el) v' (.sl (xs++ys)) top' N'/\(∀b∈N',b∈N0\/b∈N)/\((d&&d')=true->N'=N0))/\ ∃p m r,v'= .slice p m r:=by
  rcases AJ with⟨rfl,rfl,Dg⟩|⟨g9,cap,C,rfl,h1,h2,h3,h4,h5,h6,h7⟩
  ·have Gp:ys=[]:=List.eq_nil_of_length_eq_zero Dg;subst Gp;refine⟨if top=[]then none else top.head?,top,⟨rfl,rfl,rfl,Ar _,λ_ _ _=>rfl⟩,λg0 Es=> .inl ?_,?_,λ_=>⟨N0,?_,λb hb=> .inl hb,λ_=>rfl⟩,?_⟩
   ·rw[B5];split at Es
    ·cases Es
    ·exact List.mem_of_mem_head? Es
   ·rcases AK with⟨_,_,rfl,_⟩|⟨g9,_,_,_,_,_,_,_,rfl,_⟩
    ·exact .inl rfl
    ·exact .inr ⟨g9,by simp,rfl⟩
   ·rw[BX];exact⟨xs,by simp,FG,BB,AK⟩
   ·rcases EF with⟨_,p,rfl⟩|⟨g9,cap,C,rfl,_⟩
    ·exact⟨_,_,_,rfl⟩
    ·exact⟨_,_,_,rfl⟩
  ·refine⟨some g9,[g9],h6,λg0 Es=> ?_, .inr ⟨g9,rfl,rfl⟩,λFE=>⟨N0++N,⟨xs++ys,rfl,λz hz=> ?_,by rw[BX];exact BB, .inr ⟨g9,cap,C,by simp,by simpa using h1,h2,h3,by rw[BX];exact h4,rfl,?_,?_⟩⟩,λb hb=>Ae.1 hb,λEg=> ?_⟩,_,_,_,rfl⟩
   ·cases Es;exact h7.symm
   ·rcases Ae.1 hz with hz|hz
    ·rw[BX];exact FG z hz
    ·rw[BX];exact Hm z hz
   ·rw[BX];simp only[AO];rw[h5];intro u hu;rcases Ae.1 hu with hu|hu
    ·exact Cl u hu
    ·exact LJ u hu
   ·rw[BX];simp only[AO];rw[h5,Qg];refine Rd.app (CQ.frame λb hb=> ?_) (H3.frame λb hb=> ?_)
    ·have GL:=CQ.inb b hb;exact FE.mem b GL (Cx.dn (Le b hb))
    ·have GL:=H3.inb b hb;exact FE.mem b GL (Ff b hb)
   ·simp only[Ad]at Eg;rw[jY Eg.1];simp
 obtain⟨p9,m9,r9,lV⟩:=CF;have Dm:=CN.aq (gs:=gs) (t:=t) (g:=g) (w':=w') (row:=row) (top:=top') (O:=if(d&&d')=true then(c.G t).O else []) (v:=v') D5 AP O6 (by rw[Y8];exact Es) PB (by split;exact .inr (by rw[Y8]);exact .inl rfl)
  (.row el (P.cellsOf el) g (.app c0 ye) (d&&d')) (by intros;simp) h.gs (λFE=>by
   obtain⟨N',o1,o2,o3⟩:=Bf FE;have AI:∀b∈N',((c.a6 (fz.map (·.1))).aq t g w' v' top' (if(d&&d')=true then(c.G t).O else [])).ok b:=by
    intro b hb;rcases o2 b hb with hb|hb
    ·exact FE.ok b (CQ.inb b hb) (Cx.dn (Le b hb))
    ·exact FE.ok b (H3.inb b hb) (Ff b hb)
   refine⟨.inr ⟨rfl,rfl⟩,λg' B7=> ?_,N',?_,AI,λEg=> ?_,λEg=> ?_⟩
   ·rcases B7 with B7|⟨_,rfl⟩
    ·exact Jn g' B7
    ·exact Ar _
   ·have e1:((c.a6 (fz.map (·.1))).aq t g w' v' top' (if(d&&d')=true then(c.G t).O else [])).H t g=v':=by simp[Cx.aq]
    have e2:(((c.a6 (fz.map (·.1))).aq t g w' v' top' (if(d&&d')=true then(c.G t).O else [])).G t).top=top':=by simp[Cx.aq]
    rw[e1,e2];show Cy w' el (P.cellsOf el) v' (AV.app (c0.den c.ρ) (ye.den c.ρ)) top' N';rw[B3,CI];exact o1
   ·have UB:=o3 Eg;have U3:d'=true:=by simp only[Ad]at Eg;exact Eg.2
    obtain⟨u1,u2⟩:=U2 U3;subst UB;refine⟨u1.frame λb hb=>FE.mem b (CQ.inb b hb) (Cx.dn (Le b hb)),?_⟩;simp only[Cx.aq,if_true,Eg];exact u2
   ·simp[Cx.aq,Eg])
 have UH:SR ((c.a6 (fz.map (·.1))).aq t g w' v' top' (if(d&&d')=true then(c.G t).O else [])) [.own t g] [v']:=by rw[lV];exact .own (.inr ⟨rfl,rfl⟩) (by simp[Cx.aq]) .nil
 refine hk _ ((c.a6 (fz.map (·.1))).aq t g w' v' top' (if(d&&d')=true then(c.G t).O else [])) ⟨rfl,rfl,rfl,rfl,λu hu=> ?_⟩ ?_
 ·rcases hu with hu|rfl
  ·exact .inl hu
  ·exact hU u rfl
 ·have:=Dm.put (UH.mkGd gs h.gs) o.dst;rw[Ml];exact this
end
section
variable {P:Program} {c:Cx} {n nx:Nat} {sl sl0:Nat->SV} {hp hp0:Nat->Option Ab} {a:Act} {o:Oper} {gs:Gd} {e:AS} {sg:BE} {nv:Nat}
theorem Hq{t el:TypeId}(h:Cj P t=some el):P.underlying t=some (.slice el):=by
 unfold Cj at h;split at h
 ·simp at h;subst h;assumption
 ·cases h
theorem pH{ts:List Nat}{l:List (Nat × Ab)}(k:A4 c.ρ gs)(h:Di hp0 gs ts=some l):∀t f,(t,f)∈l-> ∃g x f',Cg c.ρ (hp0 t) f'/\JJ f' g x:=by intro t f hf;obtain⟨_,_,g,x,f',_,r⟩:=(L8 k h).1 t f hf;exact⟨g,x,f',r⟩
theorem qP(h:A5 P c n nx sl hp a sl0 hp0 o gs){x y:Operand}{tx ty:TypeId}{cl:Call}(ho:o.op= .call cl)(Aq:cl.callee= .builtin .append)(Cs:cl.args.toList=[x,y])(Df:cl.argTypes.toList=[tx,ty])
  {s1 s2:SV} (Bu:Bl sl0 gs x=some s1) (AQ:Bl sl0 gs y=some s2) (he:XF P hp0 gs nx tx ty s1 s2=some e) (hc:∀q∈e.bf,Cn.den c.ρ q):Ap P o c n nx sl hp gs a e:=by
 have Ai:cl.args= #[x,y]:=by apply Array.ext';simp[Cs]
 have Dp:x∈o.op.operands:=by simp[ho,Op.operands,Call.operands,Aq,Ai]
 unfold XF at he;split at he
 ·cases he
 rename_i Ic;have Ic:tx=ty:=by simpa using Ic
 subst Ic;split at he
 ·rename_i el A6;have A6:=Hq A6;split at he
  ·cases he
  rename_i hz;have hz:F7 P el=true:=by simpa using hz
  split at he
  ·cases he
  rename_i ye hy;split at he
  ·cases he
  rename_i fz d ck B9;obtain⟨ts,Gh⟩:∃ts,Di hp0 gs ts=some fz:=by
   unfold QJ at B9;split at B9
   ·simp only[Aa,AG]at B9;obtain⟨rfl,_⟩:=B9;exact⟨[],rfl⟩
   ·split at B9
    ·obtain⟨l,hl,B9⟩:=Aj.1 B9;simp only[AG]at B9;obtain⟨rfl,_⟩:=B9;exact⟨_,hl⟩
    ·cases B9
  have r1:=h.ca Bu Dp;have fresh:∀f,(nx,f)∉fz:=λf hf=>by
   obtain⟨_,_,_,r,_⟩:=pH (c:=c) h.gs Gh nx f hf;have r:=JQ h.hp r;cases hh:hp nx with
   |none=>rw[hh]at r;exact r.elim
   |some e9=>exact KN h (h.rel.b8 nx e9 hh)
  have hK:∀g,¬c.K nx g:=λg hg=>KN h (h.rel.az _ _ hg);have Fs:=h.rel.off nx (λe9 hr=>by
   cases hh:hp nx with
   |none=>rw[hh]at hr;exact hr.elim
   |some e8=>exact KN h (h.rel.b8 nx e8 hh))
  have RM:c.A.pin nx=none:=by
   cases hh:c.A.pin nx with
   |none=>rfl
   |some v=>exact absurd (h.rel.base.pins nx v hh).1 (KN h)
  have MS:∀u,u=nx->c.U u\/(nx<=u/\u<nx+Bw):=λu hu=> .inr ⟨by omega,by rw[hu];simp[Bw]⟩;have ZL:P.cellsOf el≠0:=by obtain⟨i,_,_,_,_,h1,h2,_⟩:=IP hz;omega
  split at he
  ·rename_i t g;split at he
   ·rename_i e' sz' g' c0 d' hl;split at he
    ·rename_i hh;obtain⟨rfl,rfl,rfl,rfl,D4⟩:=hh;simp only[Aa]at he;subst he;have EE:=Ci hl h.gs;obtain⟨q1,q2,N,q3,q4,q5,q6⟩:=h.eh t _ EE;generalize hv:a.eval x=v at r1;cases r1 with
     |own k1 k2 _=>
      have:=WL (nx:=nx) h ho Aq Cs Df A6 hz AQ hy B9 (hc _ (by simp)) (t:=t) (g:=g+1) (.inr (by omega)) (c0:=c0) (d':=d') (hc _ (by simp)) (λf hf=>by simp only[Bh,List.contains_eq_mem,decide_eq_false_iff_not]at D4;exact D4 (List.mem_map.2 ⟨_,hf,rfl⟩)) (λhh=>by have:=q2 _ hh;omega) hv (by rw[<-k2];exact q3) rfl q4 q5 (λg' B7=>by have:=q2 _ B7;omega) (λu hu=> .inl (by rw[hu];exact h.rel.az t g q1)) (ckl:=[.room c0 ye (P.bytesOf el),ck])
      exact this
    ·cases he
   ·cases he
  ·simp only[Aa]at he;subst he;generalize hv:a.eval x=v at r1;cases r1 with
   |emp _=>have:=WL (nx:=nx) h ho Aq Cs Df A6 hz AQ hy B9 (hc _ (by simp)) (t:=nx) (g:=0) (.inl RM) (c0:= .lst .nil) (d':=true) (top:=[]) (N0:=[]) (hc _ (by simp)) fresh (hK 0) hv ⟨[],rfl,by simp,by omega, .inl ⟨rfl,⟨_,rfl⟩,rfl,rfl⟩⟩ Fs.1 (by simp) (λ_=>⟨rfl,Fs.2⟩) (λg' B7=>absurd B7 (hK g')) MS (ckl:=[.room (.lst .nil) ye (P.bytesOf el),ck]);rw[Bool.and_true]at this;exact this
  ·simp only[Aa]at he;subst he;generalize hv:a.eval x=v at r1;cases r1 with
   |bc _=>have:=WL (nx:=nx) h ho Aq Cs Df A6 hz AQ hy B9 (hc _ (by simp)) (t:=nx) (g:=0) (.inl RM) (c0:= .lst .nil) (d':=true) (top:=[]) (N0:=[]) (hc _ (by simp)) fresh (hK 0) hv ⟨[],rfl,by simp,by omega, .inl ⟨rfl,⟨_,rfl⟩,rfl,rfl⟩⟩ Fs.1 (by simp) (λ_=>⟨rfl,Fs.2⟩) (λg' B7=>absurd B7 (hK g')) MS (ckl:=[.room (.lst .nil) ye (P.bytesOf el),ck]);rw[Bool.and_true]at this;exact this
  ·cases he
 ·cases he
end
section
variable {P:Program} {c:Cx} {n nx:Nat} {sl sl0:Nat->SV} {hp hp0:Nat->Option Ab} {a:Act} {o:Oper} {gs:Gd} {e:AS} {sg:BE} {nv:Nat}
theorem PV:∀{ts us:List Nat} {l m:List (Nat × Ab)},Di hp0 gs ts=some l->Di hp0 gs us=some m->Di hp0 gs (ts++us)=some (l++m)
 | [],us,l,m,h,k=>by simp[Di]at h;subst h;simpa using k
 |t::ts,us,l,m,h,k=>by
  unfold Di at h;simp only[List.cons_append];unfold Di;split at h
  ·rename_i ety sz g x d l' hl Bm;have ih:=PV Bm k;split at h
   ·rename_i hg;simp at h;subst h;simp[hl,ih,hg]
   ·cases h
  ·rename_i ety sz dl g ep x l' hl Bm;have ih:=PV Bm k;split at h
   ·rename_i hg;simp at h;subst h;simp[hl,ih,hg]
   ·cases h
  ·rename_i g x l' hl Bm;have ih:=PV Bm k;simp at h;subst h;simp[hl,ih]
  ·rename_i ty g cs l' hl Bm;have ih:=PV Bm k;simp at h;subst h;simp[hl,ih]
  ·cases h
theorem aW{ts us:List Nat}(hs:∀t∈ts,t∈us){b:Nat}(h:(c.a6 ts).ok b):(c.a6 us).ok b:=by refine⟨λhm=>h.1 ?_,h.2⟩;obtain⟨u,hu,hb⟩:=Cx.gk hm;exact⟨u,by simp only[Cx.a6];rw[if_neg (λhh=>hu (hs u hh))];exact hb⟩
theorem XD{w:World}{v:Value}{x:AV}{f:List Nat}{t:TypeId}(h:Rd w [v] [x] f)(hg:Ah P t=true\/P.cellsOf t=1)(hx:if Ah P t then∃cs,x= .agg cs/\cs.length=P.cellsOf t else(∀cs,x≠ .agg cs)/\ ∀cs,x≠ .tup cs):
  Rd w v.cells.toList x.cells f/\(∀u∈v.cells.toList,u.oneCell'=true)/\x.cells.length=P.cellsOf t/\v.cells.size=P.cellsOf t:=by
 split at hx
 ·obtain⟨cs,rfl,hl⟩:=hx;obtain⟨as_,rfl,h1,h2⟩:=Hv h rfl;have:=h2.len;exact⟨by simpa[Value.cells,AV.cells]using h2,by simpa[Value.cells]using h1,hl,by simp[Value.cells];omega⟩
 ·rename_i kZ;have h1:P.cellsOf t=1:=by rcases hg with h'|h';exact absurd h' kZ;exact h'
  have Cl:=WZ h hx.1 hx.2;have FG:x.cells=[x]:=by cases x<;>first|rfl|exact absurd rfl (hx.1 _)
  rw[one_cells Cl,FG];exact⟨by simpa using h,by simpa using Cl,by simp[h1],by simp[h1]⟩
theorem aK(h:Rel c n sl hp a)(hs:∀t e,hp0 t=some e->hp t=some e)(k:A4 c.ρ gs){t:TypeId}(hg:Ah P t=true\/P.cellsOf t=1):∀(ss:List SV) (vs:List Value) {xs:List E} {fz:List (Nat × Ab)} {d:Bool} {ck:List Cn},SR c ss vs->QQ P hp0 gs t ss=some (xs,fz,d,ck)->(∀q∈ck,q.den c.ρ)->
  ∃N,Rd c.w (vs.flatMap λv=>v.cells.toList) (Am (xs.map (E.den c.ρ))) N/\(d=true->N=[])/\(∃ts,Di hp0 gs ts=some fz)/\(∀b∈N,(c.a6 (fz.map (·.1))).ok b)/\(∀v∈vs,v.cells.size=P.cellsOf t/\ ∀u∈v.cells.toList,u.oneCell'=true)/\(∀x∈xs,(x.den c.ρ).cells.length=P.cellsOf t)/\xs.length=vs.length
 | [],vs,xs,fz,d,ck,hr,ht,hc=>by simp[QQ]at ht;obtain⟨rfl,rfl,rfl,rfl⟩:=ht;cases hr;exact⟨[],by simpa[Am]using Rd.nil,λ_=>rfl,⟨[],rfl⟩,by simp,by simp,by simp,rfl⟩
 |s::ss,[],xs,fz,d,ck,hr,ht,hc=>by have:=hr.len;simp at this
 |s::ss,v::vs,xs,fz,d,ck,hr,ht,hc=>by
  obtain⟨r1,r2⟩:=hr.bd;unfold QQ at ht;split at ht
  ·rename_i x fz1 d1 ck1 xs2 fz2 d2 ck2 h1 h2;simp only[Aa,AG]at ht;obtain⟨rfl,rfl,rfl,rfl⟩:=ht;obtain⟨f,q1,q2,⟨ts1,q3,q4⟩,q5⟩:=aX h hs k r1 h1 (λq hq=>hc q (by simp[hq]));obtain⟨N,p1,p2,⟨ts2,p3⟩,p4,p5,p6,p7⟩:=aK h hs k hg ss vs r2 h2 (λq hq=>hc q (by simp[hq]));obtain⟨o1,o2,o3,o4⟩:=XD (P:=P) q1 hg q5;refine⟨f++N,?_,λhd=> ?_,⟨_,PV q3 p3⟩,λb hb=> ?_,?_,?_,by simp[p7]⟩
   ·simpa[Am]using o1.app p1
   ·simp only[Ad]at hd;rw[q2 hd.1,p2 hd.2];rfl
   ·rcases Ae.1 hb with hb|hb
    ·exact aW (λt ht=>by simp only[List.map_append,Ae];exact .inl ht) (q4 b hb)
    ·exact aW (λt ht=>by simp only[List.map_append,Ae];exact .inr ht) (p4 b hb)
   ·intro u hu;rcases Ac.1 hu with rfl|hu
    ·exact⟨o4,o2⟩
    ·exact p5 u hu
   ·intro u hu;rcases Ac.1 hu with rfl|hu
    ·exact o3
    ·exact p6 u hu
  ·cases ht
theorem Xp{sz:Nat}(place:Nat->Option (Nat × Nat))(F0:∀i,place i=some (i*sz,sz)):∀(vs:List Value) (k:Nat) (C:Array Value) (pre suf:List Value),C.toList=pre++suf->pre.length=k*sz->suf.length=vs.length*sz->(∀v∈vs,v.cells.size=sz)->
  ∃C',Instr.fill place C ((vs.zipIdx k).map λp=>(p.2,p.1))=some C'/\C'.toList=pre++vs.flatMap λv=>v.cells.toList
 | [],k,C,pre,suf,h,_,h2,_=>by have:suf=[]:=List.eq_nil_of_length_eq_zero (by simpa using h2);subst this;exact⟨C,rfl,by simpa using h⟩
 |v::vs,k,C,pre,suf,h,h1,h2,h3=>by
  have hv:=h3 v (by simp);simp only[AM,Nat.add_mul,Nat.one_mul]at h2;have hC:C.size=pre.length+suf.length:=by rw[<-Bp,h,AO]
  have Kh:(v.cells.zipIdx.foldl (λcs (p:Value × Nat)=>cs.setIfInBounds (k*sz+p.2) p.1) C).toList=setVs C.toList (k*sz) v.cells.toList:=by have:=dZ v.cells.toList 0 (k*sz) C (by simp;omega);rw[<-Array.foldl_toList,Array.toList_zipIdx];simpa using this
  have H9:setVs C.toList (k*sz) v.cells.toList=(pre++v.cells.toList)++suf.drop sz:=by unfold setVs;rw[h,<-h1,List.take_left' rfl];congr 1;rw[List.drop_append,List.drop_eq_nil_of_le (by omega)];simp[hv]
  obtain⟨C',g1,g2⟩:=Xp place F0 vs (k+1) (v.cells.zipIdx.foldl (λcs (p:Value × Nat)=>cs.setIfInBounds (k*sz+p.2) p.1) C) (pre++v.cells.toList) (suf.drop sz) (by rw[Kh,H9]) (by simp[h1,hv,Nat.add_mul]) (by simp;omega) (λu hu=>h3 u (by simp[hu]));refine⟨C',?_,by rw[g2];simp⟩;simp only[List.zipIdx_cons,List.map_cons];unfold Instr.fill;simp only[F0];rw[if_neg (by simp[hv];omega)];exact g1
theorem Ap.newRow(h:A5 P c n nx sl hp a sl0 hp0 o gs){ts:List Nat}{fz:List (Nat × Ab)}(Gh:Di hp0 gs ts=some fz){el:TypeId}{C:Array Value}{cap:Nat}{xs:List AV}{x:E}{d:Bool}{N:List Nat}{ckl:List Cn}{wd:World}(mA:wd.heap=c.w.heap/\wd.os=c.w.os/\wd.tape=c.w.tape/\wd.output=c.w.output)
  (hr:(execOp a.eval o).run P c.w= .ok (.value (.slice (some ⟨c.w.heap.size,0,none⟩) xs.length cap)) (wd.alloc (.cells C el))) (hx:x.den c.ρ= .sl xs) (BB:P.cellsOf el≠0) (Aq:∀y∈xs,y.cells.length=P.cellsOf el) (hle:xs.length<=cap) (Ln:cap<=maxLen) (hC:C.size=cap*P.cellsOf el)
  (h1:∀u∈C.toList.take (xs.length*P.cellsOf el),u.oneCell'=true) (hN:Rd c.w (C.toList.take (xs.length*P.cellsOf el)) (Am xs) N) (Ff:∀b∈N,(c.a6 (fz.map (·.1))).ok b) (hd:d=true->N=[]):
  Ap P o c n nx sl hp gs a {bf:=ckl,val:= .own nx 0,ay:=fz++ [(nx,Cq gs (.row el (P.cellsOf el) 0 x d))]}:=by
 intro next Q hk
 unfold Oper.wp;rw[hr,Oper.upon_value];have hU:=KN h;have CN:=h.rel.freeze h.hp h.gs Gh;have hK:∀g,¬c.K nx g:=λg hg=>hU (h.rel.az _ _ hg);have RM:c.A.pin nx=none:=by
  cases hh:c.A.pin nx with
  |none=>rfl
  |some v=>exact absurd (h.rel.base.pins nx v hh).1 hU
 have Fs:=h.rel.off nx (λe9 hr=>by
  cases hh:hp nx with
  |none=>rw[hh]at hr;exact hr.elim
  |some e8=>exact hU (h.rel.b8 nx e8 hh))
 obtain⟨w1,w2,w3,w4⟩:=mA;have Ve:c.w.grownBy (wd.alloc (.cells C el)) (some c.w.heap.size):=by
  refine⟨w2,w3,w4,?_,λk hk _=> ?_⟩
  ·show c.w.heap.size<=(wd.heap.push _).size;simp[w1]
  ·have:=Below.heap_alloc wd (.cells C el) k (by rw[w1];exact hk);rw[this,w1]
 have Kp:(wd.alloc (.cells C el)).heap[c.w.heap.size]?=some (.cells C el (0,0)):=by have:=heap_alloc_new wd (.cells C el);rw[w1]at this;exact this
 have AA:c.w.heap.size<(wd.alloc (.cells C el)).heap.size:=Dy Kp;have hO:(c.a6 (fz.map (·.1))).G nx=⟨[],[]⟩\/((c.a6 (fz.map (·.1))).G nx).O=[]:=by
  right;simp only[Cx.a6];split
  ·rfl
  ·exact Fs.2
 have Dm:=CN.aq (gs:=gs) (t:=nx) (g:=0) (w':=wd.alloc (.cells C el)) (row:=some c.w.heap.size) (top:=[c.w.heap.size]) (O:=[]) (v:= .slice (some ⟨c.w.heap.size,0,none⟩) xs.length cap) (.inl RM) (hK 0) Ve (λg0 Es=>by cases Es;exact .inr ⟨rfl,AA⟩) (.inr ⟨_,rfl,rfl⟩) (.inl rfl)
  (.row el (P.cellsOf el) 0 x d) (by intros;simp) h.gs (λFE=>by
   refine⟨.inr ⟨rfl,rfl⟩,λg' B7=> ?_,N,?_,λb hb=>FE.ok b (hN.inb b hb) (Ff b hb),λEg=> ?_,λ_=>by simp[Cx.aq]⟩
   ·rcases B7 with B7|⟨_,rfl⟩
    ·exact absurd B7 (hK g')
    ·exact Ar _
   ·have e1:((c.a6 (fz.map (·.1))).aq nx 0 (wd.alloc (.cells C el)) (.slice (some ⟨c.w.heap.size,0,none⟩) xs.length cap) [c.w.heap.size] []).H nx 0= .slice (some ⟨c.w.heap.size,0,none⟩) xs.length cap:=by simp[Cx.aq]
    have e2:(((c.a6 (fz.map (·.1))).aq nx 0 (wd.alloc (.cells C el)) (.slice (some ⟨c.w.heap.size,0,none⟩) xs.length cap) [c.w.heap.size] []).G nx).top=[c.w.heap.size]:=by simp[Cx.aq]
    rw[e1,e2];show Cy (wd.alloc (.cells C el)) el (P.cellsOf el) _ (x.den c.ρ) _ N;rw[hx];exact⟨xs,rfl,Aq,by omega, .inr ⟨_,cap,C,rfl,hle,Ln,Kp,hC,rfl,h1,hN.frame λb hb=>FE.mem b (hN.inb b hb) (Ff b hb)⟩⟩
   ·rw[hd Eg];exact⟨rfl,by simp[Cx.aq]⟩)
 have UH:SR ((c.a6 (fz.map (·.1))).aq nx 0 (wd.alloc (.cells C el)) (.slice (some ⟨c.w.heap.size,0,none⟩) xs.length cap) [c.w.heap.size] []) [.own nx 0] [.slice (some ⟨c.w.heap.size,0,none⟩) xs.length cap]:=
  .own (.inr ⟨rfl,rfl⟩) (by simp[Cx.aq]) .nil
 refine hk _ ((c.a6 (fz.map (·.1))).aq nx 0 (wd.alloc (.cells C el)) (.slice (some ⟨c.w.heap.size,0,none⟩) xs.length cap) [c.w.heap.size] []) ⟨rfl,rfl,rfl,rfl,λu hu=> ?_⟩ ?_
 ·rcases hu with hu|rfl
  ·exact .inl hu
  ·exact .inr ⟨Ar _,by simp[Bw]⟩
 ·have:=Dm.put (UH.mkGd gs h.gs) o.dst;rw[Ml];exact this
theorem Z8{t el:TypeId}(hu:P.underlying t=some (.slice el))(A2:CL P el=true){i:TypeInfo}{z:Value}(hi:P.info? el=some i)(hz:i.zero=some z)(BX:P.cellsOf el=i.size)(m:Nat)(hle:m*i.size<=2^24)(parts:Array (Nat × Value))(C:Array Value)
  (hf:Instr.fill (λj=>some (j*i.size,i.size)) ((Array.range (m*i.size)).map (λj=>(if m*i.size=0 then #[]else z.cells)[j % (if m*i.size=0 then #[]else z.cells).size]!)) parts.toList=some C) (w:World):
  (Instr.buildSlice t m parts).run P w= .ok (.slice (some ⟨w.heap.size,0,none⟩) m m) (w.alloc (.cells C el)):=by
 have Vu: ¬(2^24<m*i.size):=by omega
 have Hk:Array.range 0= #[]:=rfl;by_cases h0:m*i.size=0
 ·simp only[h0,if_true,Hk]at hf;have OY:∀f:Nat->Value,Array.map f #[]= #[]:=λf=>by simp
  rw[OY]at hf;simp only[Instr.buildSlice,Sem.run_bind,run_underlying hu,Result.andThen_ok,Mc A2,BX];simp[h0,Hk,hf,newRow]
 ·simp only[h0,if_false]at hf;simp only[Instr.buildSlice,Sem.run_bind,run_underlying hu,Result.andThen_ok,Mc A2,BX];simp[h0,Vu,zeroValue,typeInfo,hi,hz,hf,newRow]
theorem oB(h:A5 P c n nx sl hp a sl0 hp0 o gs){t:TypeId}{m:Nat}{parts:Array (Nat × Operand)}(ho:o.op= .buildSlice t m parts){ps:List (Nat × SV)}(Kt:parts.toList.mapM (λ(p:Nat × Operand)=>(Bl sl0 gs p.2).map λs=>(p.1,s))=some ps)(he:WS P hp0 gs nx t m ps=some e)(hc:∀q∈e.bf,Cn.den c.ρ q):Ap P o c n nx sl hp gs a e:=by
 obtain⟨e1,e2⟩:=Tc (c:=c) (a:=a) (parts.toList.map (·.2)) (λx s hx hm=>h.ca hx (by simpa[ho,Op.operands]using hm)) (λx hx=>List.mem_map.2 ⟨x,hx,rfl⟩) Kt;unfold WS at he;split at he
 ·rename_i el A6;have A6:=Hq A6;split at he
  ·cases he
  rename_i Ao;simp only[not_or,Bh,Bool.not_eq_false',ne_eq,Bool.not_eq_false,Nat.not_lt,Decidable.not_not]at Ao;obtain⟨hz,A2,As,hle,DY⟩:=Ao;have As:Ah P el=true\/P.cellsOf el=1:=by simpa using As
  obtain⟨i,z,hi,EW,C5,BB,BX,E6⟩:=IP hz;split at he
  ·rename_i xs fz d ck Py;split at he
   ·simp only[Aa]at he;subst he;obtain⟨N,p1,p2,⟨ts,p3⟩,p4,p5,p6,p7⟩:=aK h.rel h.hp h.gs As (ps.map (·.2)) (parts.toList.map λp=>a.eval p.2) e2 Py hc;have hlen:(parts.toList.map λp=>a.eval p.2).length=m:=by
     have:ps.length=m:=by have:=congrArg List.length DY;simpa using this
     have h9:=congrArg List.length e1;simp at h9 ⊢;omega
    have FZ:(parts.map λ(x:Nat × Operand)=>(x.1,a.eval x.2)).toList=((parts.toList.map λp=>a.eval p.2).zipIdx 0).map λp=>(p.2,p.1):=by
     have Lz:parts.toList.map (·.1)=List.range m:=by rw[<-e1,DY]
     apply List.ext_getElem?;intro j;have hj:(parts.toList.map (·.1))[j]?=(List.range m)[j]?:=by rw[Lz]
     simp only[Array.toList_map,List.getElem?_map,List.getElem?_zipIdx]at hj ⊢;cases hp:parts.toList[j]? with
     |none=>simp
     |some p=>
      rw[hp]at hj;simp only[Option.map_some,Aa]at hj ⊢;have Vp:j<m:=by
       rcases Nat.lt_or_ge j m with hh|hh
       ·exact hh
       ·rw[List.getElem?_eq_none (by simpa using hh)]at hj;cases hj
      rw[List.getElem?_range Vp]at hj;simp at hj;simp[hj]
    obtain⟨C',f1,f2⟩:=Xp (sz:=i.size) (λj=>some (j*i.size,i.size)) (λj=>rfl) (parts.toList.map λp=>a.eval p.2) 0 ((Array.range (m*i.size)).map (λj=>(if m*i.size=0 then #[]else z.cells)[j % (if m*i.size=0 then #[]else z.cells).size]!)) [] _ (by simp;rfl) (by simp) (by simp[hlen]) (λv hv=>by rw[<-BX];exact(p5 v hv).1);have De:C'.toList.length=m*P.cellsOf el:=by
     rw[f2,BX];simp only[List.nil_append];have:∀(L:List Value),(∀v∈L,v.cells.size=i.size)->(L.flatMap λv=>v.cells.toList).length=L.length*i.size:=by
      intro L
      induction L with
      |nil=>intro _;simp
      |cons v L ih=>intro hL;simp only[List.flatMap_cons,AO,AM,Bp];rw[ih (λu hu=>hL u (by simp[hu])),hL v (by simp),Nat.add_mul];omega
     rw[this _ (λv hv=>by rw[<-BX];exact(p5 v hv).1),hlen]
    have Gn:(xs.map (E.den c.ρ)).length=m:=by rw[List.length_map,p7,hlen]
    have BZ:C'.toList.take ((xs.map (E.den c.ρ)).length*P.cellsOf el)=(parts.toList.map λp=>a.eval p.2).flatMap λv=>v.cells.toList:=by rw[Gn,<-De,List.take_length,f2];simp
    refine Ap.newRow (xs:=xs.map (E.den c.ρ)) (N:=N) (C:=C') (cap:=m) (wd:=c.w) h p3 ⟨rfl,rfl,rfl,rfl⟩ ?_ (by simp[E.den,EL.ct]) (by omega) (λy hy=> ?_) (by omega) (by simp only[maxLen];have:m*1<=m*P.cellsOf el:=Nat.mul_le_mul_left _ (by omega);omega) (by rw[<-Bp,De]) ?_ (by rw[BZ];exact p1) p4 p2
    ·rw[Gn];have Ay:=Z8 (P:=P) A6 A2 hi EW BX m (by rw[<-BX];omega) (parts.map λ(x:Nat × Operand)=>(x.1,a.eval x.2)) C' (by rw[FZ];exact f1) c.w;simp only[execOp,ho,Sem.run_bind];rw[Ay];rfl
    ·obtain⟨q,hq,rfl⟩:=List.mem_map.1 hy;exact p6 q hq
    ·rw[BZ];intro u hu;obtain⟨v,hv,hu⟩:=List.mem_flatMap.1 hu;exact(p5 v hv).2 u hu
   ·cases he
  ·cases he
 ·cases he
end
end
end Go.Proofs.YteeafhlnofapaaaGreat

/- Parts of a proof, joined: WA, VJa, VK, VL, VM, VN, VO, VP, VQ, VR, VS, VT, VU, VV, VW. -/
import Derived.Test.YteeafhlnofapaaaJ2
import Derived.WalkSpells
import Derived.Laws.BytesArg
set_option linter.unusedVariables false
set_option linter.unusedSimpArgs false
namespace Go.Proofs.Yteeafhlnofapaaa
open Go.RowKit
section
theorem BF.{u}{α:Type u}{a:Array α}:a.toList.length=a.size:=Array.length_toList
theorem AB.{u,v}{α:Type u}{β:Type v}(a:α)(b:β)(c:α)(d:β):((a,b)=(c,d))=(a=c/\b=d):=Prod.mk.injEq a b c d
theorem GY:∀{l:List (Nat × Ab)} {t:Nat} {e:Ab},Aq l t=some e->(t,e)∈l
 | [],_,_,h=>by simp[Aq]at h
 |(u,f)::l,t,e,h=>by
  simp only[Aq]at h;split at h
  ·rename_i hu;subst hu;simp at h;subst h;simp
  ·exact List.mem_cons_of_mem _ (GY h)
theorem JW{α:Type}:∀{l:List (Nat × α)} {t:Nat} {e:α},l.lookup t=some e->(t,e)∈l
 | [],_,_,h=>by simp at h
 |(u,f)::l,t,e,h=>by
  simp only[List.lookup_cons]at h;split at h
  ·rename_i hu;simp at h hu;subst h;subst hu;simp
  ·exact List.mem_cons_of_mem _ (JW h)
theorem Rr:∀{θ:List (Nat × Option Nat)},J3 θ=true-> ∀{t u v:Nat},(t,some v)∈θ->(u,some v)∈θ->t=u
 | [],_,t,u,v,h,_=>by simp at h
 |(p,q)::θ,hn,t,u,v,h1,h2=>by
  have cR:J3 θ=true:=by cases q<;>(simp only[J3,Ad]at hn;exact hn.2)
  have key:∀x,(p,some v)=(p,q)->(x,some v)∈θ->False:=by intro x hq hx;cases hq;simp only[J3,Ad,Bz]at hn;have:=hn.1 _ hx;simp at this
  rcases Ac.1 h1 with h3|h3<;>rcases Ac.1 h2 with h4|h4
  ·cases h3;cases h4;rfl
  ·cases h3;exact(key u rfl h4).elim
  ·cases h4;exact(key t rfl h3).elim
  ·exact Rr cR h3 h4
def BC(hp:List (Nat × Ab))(t:Nat):Option Nat:=match Aq hp t with
 |some (.box ..)=>some 0
 |some (.row _ _ g _ _)=>some g
 |some (.a6 g _)=>some g
 |some (.deep _ _ _ g _ _)=>some g
 |_=>none
def FK(hp:List (Nat × Ab))(t:Nat):Bool:=match Aq hp t with
 |some (.box ..)=>true
 |some (.row ..)=>true
 |some (.deep ..)=>true
 |_=>false
def Jn(pat leaf:Option Ab)(g:GI):GI:=match pat,leaf with
 |some (.row ..),some (.deep ..)=>⟨g.top.take 1,[]⟩
 |_,_=>g
theorem oI{p l:Option Ab}{g:GI}{b:Nat}(h:b∈(Jn p l g).top):b∈g.top:=by
 unfold Jn at h;split at h
 ·exact BA h
 ·exact h
theorem mR{p l:Option Ab}{g:GI}{b:Nat}(h:b∈(Jn p l g).own):b∈g.own:=by
 unfold Jn at h;split at h
 ·simp only[GI.own,AG]at h;simp[GI.own,BA h]
 ·exact h
theorem jX{p l:Option Ab}{g:GI}(h:g.own.Nodup):(Jn p l g).own.Nodup:=by
 unfold Jn;split
 ·simp only[GI.own,AG]at h ⊢;exact List.Sublist.nodup (List.Sublist.trans (List.take_sublist _ _) (List.sublist_append_left _ _)) h
 ·exact h
def CD(c:Cx)(ρ:List AV)(θ:List (Nat × Option Nat))(pat leaf:St):Cx:=
 {c with
  ρ:=ρ
  G:=λt=>if FK pat.hp t then(match θ.lookup t with|some (some t')=>Jn (Aq pat.hp t) (Aq leaf.hp t') (c.G t')|_=>⟨[],[]⟩)else⟨[],[]⟩
  K:=λt g=>BC pat.hp t=some g
  H:=λt _=>match θ.lookup t with|some (some t')=>c.H t' ((BC leaf.hp t').getD 0)|_=> .slice none 0 0
  U:=λt=>t<pat.nx
  E:=λt=>match Aq pat.hp t with|some (.deep _ _ _ _ ep _)=>ep|_=>0}
section
variable {c:Cx} {ρ:List AV} {nv n:Nat} {es:List E} {θ:List (Nat × Option Nat)} {pat leaf:St} {sl:Nat->SV} {a:Act}
theorem J4{t b:Nat}(h:b∈((CD c ρ θ pat leaf).G t).own):FK pat.hp t=true/\ ∃t',θ.lookup t=some (some t')/\(b∈((CD c ρ θ pat leaf).G t).top->b∈(c.G t').top)/\b∈(c.G t').own:=by
 simp only[CD]at h ⊢;split at h
 ·rename_i ho;split at h
  ·rename_i t' ht;exact⟨ho,t',ht,λhb=>by rw[if_pos ho]at hb;exact oI hb,mR h⟩
  ·simp[GI.own]at h
 ·simp[GI.own]at h
theorem MB{b:Nat}(h:c.ok b):(CD c ρ θ pat leaf).ok b:=by refine⟨λ⟨t,ht⟩=> ?_,h.2⟩;obtain⟨_,t',_,hg,_⟩:=J4 (b:=b) (by simp only[GI.own,Ae];exact .inl ht);exact h.1 ⟨t',hg ht⟩
theorem I7(hp:ρ<+:c.ρ)(hn:ρ.length=nv){x y:E}(h:HC nv es x y=true):x.den (ρ++(EL.of es).den c.ρ)=y.den c.ρ:=by
 obtain⟨τ,hτ⟩:=hp;have IF:x.sc nv=true->x.beq y=true->x.den (ρ++(EL.of es).den c.ρ)=y.den c.ρ:=by intro h1 h2;rw[<-E.af c.ρ x y h2];subst hn;generalize hq:(EL.of es).den c.ρ=q;rw[E.al ρ q τ x h1,hτ]
 unfold HC at h;split at h
 ·rename_i i;split at h
  ·rename_i hi;exact IF (by simpa[E.sc]using hi) h
  ·rename_i hi;split at h
   ·rename_i z hz;rw[<-E.af c.ρ z y h];simp only[E.den,EL.ch];rw[List.getElem?_append_right (by omega),hn,List.getElem?_map,hz];rfl
   ·cases h
 ·simp only[Ad]at h;exact IF h.1 h.2
theorem nD(hrel:Rel c n sl (Aq leaf.hp) a){s:SV}{v:Value}{y:E}(hs:SR c [s] [v])(h:G3 leaf s=some y):∃f,Rd c.w [v] [y.den c.ρ] f/\ ∀b∈f,c.c9 (Bw (Aq leaf.hp) [] (AJ+1) [s]) b:=
 Gb (λt e hr=>hrel.ents t e hr) (DY _) AJ h hs AJ (Ax _)
mutual
theorem ZZ(hrel:Rel c n sl (Aq leaf.hp) a)(hp:ρ<+:c.ρ)(hn:ρ.length=nv)(BV:∀t e,(t,e)∈pat.hp->Gf nv es θ pat leaf t e=true):∀(m:Nat) {p s:SV} {v:Value},On nv es θ pat leaf m p s=true->SR c [s] [v]->SR (CD c (ρ++(EL.of es).den c.ρ) θ pat leaf) [p] [v]
 |0,p,s,v,h,_=>by simp[On]at h
 |m+1,p,s,v,h,hs=>by
  unfold On at h;split at h
  ·exact .undef .nil
  ·rename_i x;split at h
   ·rename_i y hy;simp only[Ad,Bz,Bool.or_eq_true]at h;obtain⟨f,hf,Gy⟩:=nD hrel hs hy;have hx:=I7 (c:=c) hp hn h.1;refine .e (by rw[show(CD c (ρ++(EL.of es).den c.ρ) θ pat leaf).ρ=ρ++(EL.of es).den c.ρ from rfl,hx];exact hf) (λb hb=> ?_) .nil;rcases Gy b hb with hb|⟨t',JL,hb⟩
    ·exact MB hb
    ·refine⟨λ⟨u,hu⟩=> ?_, .inr (hrel.gw.allow t' b (by simp[GI.own,hb]))⟩;obtain⟨ho,v',hl,hg,No⟩:=J4 (b:=b) (by simp only[GI.own,Ae];exact .inl hu);have hv:v'=t':=by
      refine Classical.byContradiction λBE=>hrel.gw.bm v' t' BE b No (by simp[GI.own,hb])
     subst hv;have:=h.2 _ JL _ (JW hl);simp only[bne_self_eq_false,B1,false_or]at this;unfold FK at ho;split at this
     ·rename_i hh;rw[hh]at ho;simp at ho
     ·rename_i hh;rw[hh]at ho;simp at ho
     ·cases this
   ·cases h
  ·split at h
   ·cases hs with
    |bb _=>exact .bb .nil
   ·cases h
  ·split at h
   ·cases hs with
    |emp _=>exact .emp .nil
   ·cases hs with
    |bb _=>exact .emp .nil
   ·cases h
  ·rename_i t g;have key:∀t' v',BC pat.hp t=some g->θ.lookup t=some (some t')->H9 leaf.hp t' v'=true->SR c [.own t' v'] [v]->SR (CD c (ρ++(EL.of es).den c.ρ) θ pat leaf) [.own t g] [v]:=by
    intro t' v' hg hl hv hs;cases hs with
    |own h1 h2 _=>
     refine .own hg ?_ .nil;show(match θ.lookup t with|some (some t')=>c.H t' ((BC leaf.hp t').getD 0)|_=>Value.slice none 0 0)=_;rw[hl];have:(BC leaf.hp t').getD 0=v':=by
      unfold H9 at hv;unfold BC;split at hv
      ·rename_i hh;rw[hh];simpa using(AA.1 hv).symm
      ·rename_i hh;rw[hh];simpa using(AA.1 hv).symm
      ·rename_i hh;rw[hh];simpa using(AA.1 hv).symm
      ·cases hv
     show c.H t' ((BC leaf.hp t').getD 0)=_;rw[this];exact h2
   split at h
   ·rename_i g' _ _ Dt;simp only[Ad,AA]at h;obtain⟨rfl,h⟩:=h;split at h
    ·simp only[Ad,AA]at h;exact key _ _ (by simp[BC,Dt]) h.1 h.2 hs
    ·rw[AA]at h;cases hs with
     |bb _=>refine .own (p:=none) (q:=0) (r:=0) (by show BC pat.hp t=some g;simp[BC,Dt]) ?_ .nil;show(match θ.lookup t with|some (some t')=>c.H t' ((BC leaf.hp t').getD 0)|_=>Value.slice none 0 0)=_;rw[h]
    ·cases h
   ·rename_i g' _ Dt;simp only[Ad,AA]at h;obtain⟨rfl,h⟩:=h;split at h
    ·simp only[Ad,AA]at h;exact key _ _ (by simp[BC,Dt]) h.1 h.2 hs
    ·cases h
   ·rename_i g' _ _ Dt;simp only[Ad,AA]at h;obtain⟨rfl,h⟩:=h;split at h
    ·simp only[Ad,AA]at h;exact key _ _ (by simp[BC,Dt]) h.1 h.2 hs
    ·rw[AA]at h;cases hs with
     |bb _=>refine .own (p:=none) (q:=0) (r:=0) (by show BC pat.hp t=some g;simp[BC,Dt]) ?_ .nil;show(match θ.lookup t with|some (some t')=>c.H t' ((BC leaf.hp t').getD 0)|_=>Value.slice none 0 0)=_;rw[h]
    ·cases h
   ·cases h
  ·rename_i t o;split at h
   ·rename_i ty g cs Dt;split at h
    ·rename_i t' o';simp only[Ad,AA]at h;obtain⟨rfl,hl⟩:=h;have Gm:=BV t _ (GY Dt);simp only[Gf,hl]at Gm;split at Gm
     ·rename_i Cz;cases hs with
      |bj h1 h2 _=>
       refine .bj (by show BC pat.hp t=some 0;simp[BC,Dt]) ?_ .nil;show(match θ.lookup t with|some (some t')=>c.H t' ((BC leaf.hp t').getD 0)|_=>Value.slice none 0 0)=_;rw[hl];have:(BC leaf.hp t').getD 0=0:=by simp[BC,Cz]
       simp only[this];exact h2
     ·cases Gm
    ·cases h
   ·cases h
  ·cases h
  ·rename_i x i z o;split at h
   ·rename_i y j z' o';simp only[Ad,AA]at h;obtain⟨⟨⟨⟨⟨rfl,rfl⟩,h1⟩,h2⟩,h3⟩,h4⟩:=h;have hx:x.den (ρ++(EL.of es).den c.ρ)=y.den c.ρ:=by
     obtain⟨τ,hτ⟩:=hp;rw[<-E.af c.ρ x y h2];subst hn;generalize (EL.of es).den c.ρ=q;rw[E.al ρ q τ x h1,hτ]
    have hi:i.den (ρ++(EL.of es).den c.ρ)=j.den c.ρ:=by obtain⟨τ,hτ⟩:=hp;rw[<-E.af c.ρ i j h4];subst hn;generalize (EL.of es).den c.ρ=q;rw[E.al ρ q τ i h3,hτ]
    cases hs with
    |cj g1 g2 g3 g4 g5 g6 _=>refine .cj (f:=_) (by show Rd c.w _ [x.den (ρ++(EL.of es).den c.ρ)] _;rw[hx];exact g1) (λb hb=>MB (g2 b hb)) (by show i.den (ρ++(EL.of es).den c.ρ)=_;rw[hi];exact g3) g4 g5 (by show((x.den (ρ++(EL.of es).den c.ρ)).nth _).cells.length=_;rw[hx];exact g6) .nil
   ·cases h
  ·rename_i x o;split at h
   ·rename_i y o';simp only[Ad,AA]at h;obtain⟨⟨rfl,h1⟩,h2⟩:=h;have hx:x.den (ρ++(EL.of es).den c.ρ)=y.den c.ρ:=by
     obtain⟨τ,hτ⟩:=hp;rw[<-E.af c.ρ x y h2];subst hn;generalize (EL.of es).den c.ρ=q;rw[E.al ρ q τ x h1,hτ]
    cases hs with
    |cg g1 g2 _=>exact .cg (by show Rd c.w _ [x.den (ρ++(EL.of es).den c.ρ)] _;rw[hx];exact g1) (λb hb=>MB (g2 b hb)) .nil
   ·cases h
  ·split at h
   ·cases hs with
    |agg h9 h1 _=>exact .agg h9 (Pn hrel hp hn BV m h h1) .nil
   ·cases h
  ·split at h
   ·cases hs with
    |tup h1 _=>exact .tup (Pn hrel hp hn BV m h h1) .nil
   ·cases h
  ·split at h
   ·simp only[Ad,AA]at h;obtain⟨rfl,h⟩:=h;cases hs with
    |fn h1 _=>exact .fn (Pn hrel hp hn BV m h h1) .nil
   ·cases h
  ·cases h
  ·cases h
  ·cases h
  ·cases h
  ·rename_i i;split at h
   ·rename_i j;simp only[Ad,AA,Au]at h;obtain⟨rfl,hi⟩:=h;cases hs with
    |lent g1 _=>
     have hx:(E.var i).den (ρ++(EL.of es).den c.ρ)=(E.var i).den c.ρ:=by obtain⟨τ,hτ⟩:=hp;subst hn;generalize (EL.of es).den c.ρ=q;rw[E.al ρ q τ (.var i) (by simpa[E.sc]using hi),hτ]
     exact .lent (show c.A.lo v ((E.var i).den (ρ++(EL.of es).den c.ρ)) by rw[hx];exact g1) .nil
   ·cases h
theorem Pn(hrel:Rel c n sl (Aq leaf.hp) a)(hp:ρ<+:c.ρ)(hn:ρ.length=nv)(BV:∀t e,(t,e)∈pat.hp->Gf nv es θ pat leaf t e=true):∀(m:Nat) {ps ss:List SV} {vs:List Value},FP nv es θ pat leaf m ps ss=true->SR c ss vs->SR (CD c (ρ++(EL.of es).den c.ρ) θ pat leaf) ps vs
 |0,ps,ss,vs,h,_=>by simp[FP]at h
 |m+1,[],[],vs,h,hs=>by cases hs;exact .nil
 |m+1,p::ps,[],vs,h,hs=>by simp[FP]at h
 |m+1,[],s::ss,vs,h,hs=>by simp[FP]at h
 |m+1,p::ps,s::ss,[],h,hs=>by have:=hs.len;simp at this
 |m+1,p::ps,s::ss,v::vs,h,hs=>by simp only[FP,Ad]at h;obtain⟨h1,h2⟩:=hs.bd;exact(ZZ hrel hp hn BV m h.1 h1).cons (Pn hrel hp hn BV m h.2 h2)
end
theorem kU(hrel:Rel c n sl (Aq leaf.hp) a)(hp:ρ<+:c.ρ)(hn:ρ.length=nv)(BV:∀t e,(t,e)∈pat.hp->Gf nv es θ pat leaf t e=true)(hθ:J3 θ=true){t:Nat}{e:Ab}(ht:Aq pat.hp t=some e):CF (CD c (ρ++(EL.of es).den c.ρ) θ pat leaf) t e:=by
 have h:=BV t e (GY ht);have WG:FK pat.hp t=false->(CD c (ρ++(EL.of es).den c.ρ) θ pat leaf).G t=⟨[],[]⟩:=by intro h0;simp only[CD];rw[if_neg (by rw[h0];simp)]
 have WH:∀t',FK pat.hp t=true->θ.lookup t=some (some t')->(CD c (ρ++(EL.of es).den c.ρ) θ pat leaf).G t=Jn (Aq pat.hp t) (Aq leaf.hp t') (c.G t'):=by intro t' h0 hl;simp only[CD];rw[if_pos h0,hl]
 have Nf:∀t',FK pat.hp t=true->θ.lookup t=some (some t')->(∀q1 q2 q3 q4 q5 q6,Aq leaf.hp t'=some (.deep q1 q2 q3 q4 q5 q6)-> ∀p1 p2 p3 p4 p5,e≠ .row p1 p2 p3 p4 p5)->(CD c (ρ++(EL.of es).den c.ρ) θ pat leaf).G t=c.G t':=by
  intro t' h0 hl Di;rw[WH t' h0 hl,ht];unfold Jn;split
  ·rename_i h1 h2;simp only[Aa]at h1;exact absurd h1 (Di _ _ _ _ _ _ h2 _ _ _ _ _)
  ·rfl
 have Is:∀t' g,θ.lookup t=some (some t')->BC leaf.hp t'=some g-> ∀g',(CD c (ρ++(EL.of es).den c.ρ) θ pat leaf).H t g'=c.H t' g:=by intro t' g hl hg g';simp only[CD,hl,hg,CT]
 have DJ:∀g,BC pat.hp t=some g-> ∀g',(CD c (ρ++(EL.of es).den c.ρ) θ pat leaf).K t g'->g'<=g:=by intro g hg g' hk;have BJ:BC pat.hp t=some g':=hk;rw[hg]at BJ;cases BJ;exact Ax _
 cases e with
 |box ty g cs=>
  simp only[Gf]at h;split at h
  ·rename_i t' hl;split at h
   ·rename_i ty' g' ds Cz;simp only[Ad,AA]at h;obtain⟨⟨rfl,rfl⟩,h⟩:=h;obtain⟨b,C,h1,h2,h3,h4,h5,h6,h7⟩:=hrel.ents t' _ (by rw[Cz];rfl);have hg:=Nf t' (by simp[FK,ht]) hl (by intros;simp);exact⟨b,C,by show BC pat.hp t=some 0;simp[BC,ht],by rw[Is t' 0 hl (by simp[BC,Cz])];exact h2,by rw[hg];exact h3,by rw[hg];exact h4,h5,h6,Pn hrel hp hn BV _ h h7⟩
   ·cases h
  ·cases h
 |row et z g x d=>
  simp only[Gf]at h;split at h
  ·rename_i t' hl;split at h
   ·rename_i et' z' g' y d' Cz;simp only[Ad,AA,Bool.or_eq_true,Bn]at h;obtain⟨⟨⟨rfl,rfl⟩,hx⟩,hd⟩:=h;obtain⟨h1,h2,N,h3,h4,h5,h6⟩:=hrel.ents t' _ (by rw[Cz];rfl);have hg:=Nf t' (by simp[FK,ht]) hl (λ_ _ _ _ _ _ hh=>by rw[Cz]at hh;cases hh);have C1:=I7 hp hn hx;have hK:BC pat.hp t=some g:=by simp[BC,ht]
    refine⟨hK,DJ g hK,N,?_,λb hb=>MB (h4 b hb),λCP=> ?_,λrY=> ?_⟩
    ·rw[Is t' g' hl (by simp[BC,Cz]),hg];show Cp c.w et z _ (x.den (ρ++(EL.of es).den c.ρ)) _ N;rw[C1];exact h3
    ·rw[hg];exact h5 (by rcases hd with hd|hd;rw[CP]at hd;cases hd;exact hd)
    ·rw[hg];cases d' with
     |false=>exact h6 rfl
     |true=>obtain⟨u1,u2⟩:=h5 rfl;rw[u2];exact u1
   ·rename_i et' z' l' g' ep' y Cz;simp only[Ad,AA,Bn]at h;obtain⟨⟨⟨rfl,rfl⟩,hx⟩,rfl⟩:=h;obtain⟨h1,h2,_,h3,h4⟩:=hrel.ents t' _ (by rw[Cz];rfl);have hg:(CD c (ρ++(EL.of es).den c.ρ) θ pat leaf).G t=⟨(c.G t').top.take 1,[]⟩:=by
     rw[WH t' (by simp[FK,ht]) hl,ht,Cz];rfl
    have C1:=I7 hp hn hx;have hK:BC pat.hp t=some g:=by simp[BC,ht]
    obtain⟨f,k1,k2⟩:=h3.ownRow;have BP:((c.G t').top.take 1++(c.G t').top.drop 1).Nodup:=by rw[BB];have:=hrel.gw.nodup t';simp only[GI.own,h4,AG]at this;exact this
    refine⟨hK,DJ g hK,f,?_,λb hb=> ?_,λCP=>(by cases CP),λ_=>by rw[hg]⟩
    ·rw[Is t' g' hl (by simp[BC,Cz]),hg];show Cp c.w et z _ (x.den (ρ++(EL.of es).den c.ρ)) _ f;rw[C1];exact k1
    ·have Ce:b∈(c.G t').top:=B2 (k2 b hb);refine⟨λ⟨u,hu⟩=> ?_, .inr (hrel.gw.allow t' b (by simp[GI.own,Ce]))⟩;obtain⟨_,v',Bd,_,No⟩:=J4 (b:=b) (by simp only[GI.own,Ae];exact .inl hu);have hv:v'=t':=Classical.byContradiction λBE=>hrel.gw.bm v' t' BE b No (by simp[GI.own,Ce]);subst hv;have:=Rr hθ (JW Bd) (JW hl);subst this;rw[hg]at hu;exact(List.nodup_append.1 BP).2.2 b hu b (k2 b hb) rfl
   ·cases h
  ·rename_i hl;simp only[Ad,Au]at h;have C1:=I7 hp hn h.1;have hK:BC pat.hp t=some g:=by simp[BC,ht]
   have hg:(CD c (ρ++(EL.of es).den c.ρ) θ pat leaf).G t=⟨[],[]⟩:=by simp[CD,hl]
   refine⟨hK,DJ g hK,[],⟨[],?_,by simp,h.2, .inl ⟨rfl,⟨none,?_⟩,by rw[hg],rfl⟩⟩,by simp,λ_=>⟨rfl,by rw[hg]⟩,λ_=>by rw[hg]⟩
   ·show x.den (ρ++(EL.of es).den c.ρ)=_;rw[C1];rfl
   ·simp[CD,hl]
  ·cases h
 |a6 g x=>
  have hg:=WG (by simp[FK,ht]);have hK:BC pat.hp t=some g:=by simp[BC,ht]
  simp only[Gf]at h;split at h
  ·rename_i t' hl;have Gy:∀b,b∈(c.G t').top->(CD c (ρ++(EL.of es).den c.ρ) θ pat leaf).ok b:=by
    intro b hb;refine⟨λ⟨u,hu⟩=> ?_, .inr (hrel.gw.allow t' b (by simp[GI.own,hb]))⟩;obtain⟨ho,v',Bd,BW,No⟩:=J4 (b:=b) (by simp only[GI.own,Ae];exact .inl hu);have hv:v'=t':=Classical.byContradiction λBE=>hrel.gw.bm v' t' BE b No (by simp[GI.own,hb]);subst hv;have:=Rr hθ (JW Bd) (JW hl);subst this;simp[FK,ht]at ho
   split at h
   ·rename_i et' z' g' y d' Cz;obtain⟨h1,h2,N,h3,h4,h5,h6⟩:=hrel.ents t' _ (by rw[Cz];rfl);obtain⟨f,r1,r2,_⟩:=h3.rd;refine⟨hK,⟨f,?_,λb hb=>(r2 b hb).elim (Gy b) λhb=>MB (h4 b hb)⟩,by rw[hg],by rw[hg]⟩;rw[Is t' g' hl (by simp[BC,Cz])];show Rd c.w _ [x.den (ρ++(EL.of es).den c.ρ)] f;rw[I7 hp hn h];exact r1
   ·rename_i g' y Cz;obtain⟨h1,⟨f,r1,r2⟩,_,_⟩:=hrel.ents t' _ (by rw[Cz];rfl);refine⟨hK,⟨f,?_,λb hb=>MB (r2 b hb)⟩,by rw[hg],by rw[hg]⟩;rw[Is t' g' hl (by simp[BC,Cz])];show Rd c.w _ [x.den (ρ++(EL.of es).den c.ρ)] f;rw[I7 hp hn h];exact r1
   ·rename_i et' z' l' g' ep' y Cz;obtain⟨h1,h2,_,h3,h4⟩:=hrel.ents t' _ (by rw[Cz];rfl);obtain⟨f,r1,r2⟩:=h3.rd;refine⟨hK,⟨f,?_,λb hb=>Gy b (r2 b hb)⟩,by rw[hg],by rw[hg]⟩;rw[Is t' g' hl (by simp[BC,Cz])];show Rd c.w _ [x.den (ρ++(EL.of es).den c.ρ)] f;rw[I7 hp hn h];exact r1
   ·cases h
  ·cases h
 |hol=>simp[Gf]at h
 |pre=>simp[Gf]at h
 |deep et z dl g ep x=>
  have hE:(CD c (ρ++(EL.of es).den c.ρ) θ pat leaf).E t=ep:=by simp[CD,ht]
  have hK:BC pat.hp t=some g:=by simp[BC,ht]
  simp only[Gf]at h;split at h
  ·rename_i t' hl;split at h
   ·rename_i et' z' dl' g' ep' y Cz;simp only[Ad,AA]at h;obtain⟨⟨⟨rfl,rfl⟩,Kw⟩,hx⟩:=h;have Kw:=Av.dm Kw;subst Kw;obtain⟨h1,h2,_,h3,h4⟩:=hrel.ents t' _ (by rw[Cz];rfl);have hg:=Nf t' (by simp[FK,ht]) hl (by intros;simp);refine⟨hK,DJ g hK,hE,?_,by rw[hg];exact h4⟩;rw[Is t' g' hl (by simp[BC,Cz]),hg];show DC c.w _ _ [x.den (ρ++(EL.of es).den c.ρ)] _;rw[I7 hp hn hx];exact h3
   ·cases h
  ·rename_i hl;have hg:(CD c (ρ++(EL.of es).den c.ρ) θ pat leaf).G t=⟨[],[]⟩:=by simp[CD,hl]
   simp only[Ad,Au,AA]at h;refine⟨hK,DJ g hK,hE,?_,by rw[hg]⟩;have e1:(CD c (ρ++(EL.of es).den c.ρ) θ pat leaf).H t g= .slice none 0 0:=by simp[CD,hl]
   rw[e1,hg];show DC c.w _ _ [x.den (ρ++(EL.of es).den c.ρ)] _;rw[I7 hp hn h.1.1];exact .void h.1.2 (by rw[Av.aj];exact h.2) .nil
  ·cases h
 |gd gs e=>simp[Gf]at h
 |dead=>have hg:=WG (by simp[FK,ht]);exact⟨by rw[hg],by rw[hg]⟩
end
theorem Zb{nv:Nat}{es:List E}{θ:List (Nat × Option Nat)}{pat leaf:St}:∀(m:Nat) {ps ss:List SV},FP nv es θ pat leaf m ps ss=true-> ∀{i:Nat} {p:SV},ps[i]?=some p-> ∃s k,ss[i]?=some s/\On nv es θ pat leaf k p s=true
 |0,ps,ss,h,_,_,_=>by simp[FP]at h
 |m+1,[],ss,h,i,p,hp=>by simp at hp
 |m+1,q::ps,[],h,i,p,hp=>by simp[FP]at h
 |m+1,q::ps,s::ss,h,i,p,hp=>by
  simp only[FP,Ad]at h;cases i with
  |zero=>simp at hp;subst hp;exact⟨s,m,rfl,h.1⟩
  |succ i=>simpa using Zb m h.2 (by simpa using hp)
theorem mZ:R8:=by
 intro F nv pat τ es ρ ρ' a w hi hn hp hr;obtain⟨c,rfl,rfl,JQ,hA,Sz,E6,hU,hrel⟩:=hr;unfold Il at hi;simp only at hi;split at hi
 ·rename_i AF;simp only[Aa]at hi;generalize S4:(List.range (pat.nv-nv)).map (λj=>((Lx nv pat τ true pat.hp (Lx nv pat τ false pat.hp (Kf nv pat τ 2000 ⟨[],[]⟩ pat.sl τ.sl))).as_.lookup (nv+j)).getD (.int .i64 0))=es0 at AF hi;subst hi;generalize (Lx nv pat τ true pat.hp (Lx nv pat τ false pat.hp (Kf nv pat τ 2000 ⟨[],[]⟩ pat.sl τ.sl))).θ=θ at AF;clear S4;simp only[aK,Ad,AA,Bz,Au]at AF;obtain⟨⟨⟨⟨⟨⟨h1,hθ⟩,hlen⟩,Cy⟩,Cl⟩,cV⟩,N4⟩:=AF;have BV:∀t e,(t,e)∈pat.hp->Gf nv es0 θ pat τ t e=true:=λt e he=>(Cl _ he).1;have AE:∀t e,(t,e)∈pat.hp->t<pat.nx:=λt e he=>(Cl _ he).2;have NV:∀t e,Aq pat.hp t=some e-> ∀gs e',e≠ .gd gs e':=by
   rintro t e he gs e' rfl;have:=BV t _ (GY he);simp[Gf]at this
  have AK:∀t e e',Aq pat.hp t=some e->(B9 (ρ++(EL.of es0).den c.ρ) (Aq pat.hp t) e'↔e'=e):=by
   intro t e e' he;rw[he];cases e with
   |gd gs e9=>exact absurd rfl (NV t _ he gs e9)
   |_=>simp[B9,eq_comm]
  refine⟨CD c (ρ++(EL.of es0).den c.ρ) θ pat τ,rfl,rfl,JQ,hA,Sz,?_,λt ht=>ht,hrel.defers,by rw[hlen];exact hrel.size,⟨hrel.base.os,hrel.base.tape,hrel.base.output,hrel.base.size,λt v LU=> ?_,hrel.base.block,hrel.base.pk,hrel.base.lo⟩,λi=> ?_,λt e hr=> ?_,λt Di=> ?_,⟨λt=> ?_,λt u JO b hb Bt=> ?_,λt b hb=> ?_,λt b hb=> ?_⟩,λt g hk=> ?_,λt e he=>AE t e (GY he)⟩
  ·rw[h1,EL.ch];simp[hn]
  ·have KF:Ka t=true:=F.j9 t v (by rw[<-hA];exact LU);refine⟨by
    show t<pat.nx;unfold Ka at KF;simp only[Ad,Au]at KF;omega,λhk=> ?_⟩
   have BJ:BC pat.hp t=some 0:=hk;obtain⟨e,TK⟩:∃e,Aq pat.hp t=some e:=by
    unfold BC at BJ;cases hh:Aq pat.hp t with
    |none=>rw[hh]at BJ;cases BJ
    |some e=>exact⟨e,rfl⟩
   have DP:=N4 _ (GY TK);simp only[KF,Bool.not_true,Bool.false_or]at DP;have main:θ.lookup t=some (some t)->BC τ.hp t=some 0->c.K t 0->(CD c (ρ++(EL.of es0).den c.ρ) θ pat τ).H t 0=v:=by intro hl hg hK;simp only[CD,hl,hg,CT];exact(hrel.base.pins t v LU).2 hK
   unfold JS at DP;simp only[BC,TK]at BJ;rw[TK]at DP;cases e with
   |box ty g cs=>
    simp only[Ad,AA]at DP;obtain⟨hl,hb⟩:=DP;split at hb
    ·rename_i ty' g' cs' Cz;obtain⟨b,C,q1,_⟩:=hrel.ents t _ (by rw[Cz];rfl);exact main hl (by simp[BC,Cz]) q1
    ·cases hb
   |row ety sz g x d=>
    simp only[Aa]at BJ;subst BJ;simp only[bne_self_eq_false,Bool.false_or,Ad,AA]at DP;obtain⟨hl,hb⟩:=DP;split at hb
    ·rename_i ety' sz' g' x' d' Cz;rw[AA]at hb;subst hb;obtain⟨q1,_⟩:=hrel.ents t _ (by rw[Cz];rfl);exact main hl (by simp[BC,Cz]) q1
    ·cases hb
   |a6 g x=>simp only[Aa]at BJ;subst BJ;simp at DP
   |gd=>simp at BJ
   |dead=>simp at BJ
   |hol=>simp at BJ
   |pre=>simp at BJ
   |deep ety sz l g ep x=>
    simp only[Aa]at BJ;subst BJ;simp only[bne_self_eq_false,Bool.false_or,Ad,AA]at DP;obtain⟨hl,hb⟩:=DP;split at hb
    ·rename_i Cz;rw[AA]at hb;subst hb;obtain⟨q1,_⟩:=hrel.ents t _ (by rw[Cz];rfl);exact main hl (by simp[BC,Cz]) q1
    ·cases hb
  ·unfold Bi;cases dB:pat.sl[i]? with
   |none=>exact .undef .nil
   |some p=>obtain⟨s,k,hs,hk⟩:=Zb _ Cy dB;have:=hrel.cb i;unfold Bi at this;rw[hs]at this;exact ZZ hrel hp hn BV k hk this
  ·cases he:Aq pat.hp t with
   |none=>rw[he]at hr;exact hr.elim
   |some e9=>have Ky:=(AK t e9 e he).1 hr;subst Ky;exact kU hrel hp hn BV hθ he
  ·have:FK pat.hp t=false:=by
    cases he:Aq pat.hp t with
    |none=>simp[FK,he]
    |some e9=>exact absurd ((AK t e9 e9 he).2 rfl) (Di e9)
   simp[CD,this]
  ·simp only[CD];split
   ·split
    ·exact jX (hrel.gw.nodup _)
    ·simp[GI.own]
   ·simp[GI.own]
  ·obtain⟨_,t',hl,_,Ce⟩:=J4 hb;obtain⟨_,u',Bd,_,Gn⟩:=J4 Bt;by_cases hh:t'=u'
   ·subst hh;exact JO (Rr hθ (JW hl) (JW Bd))
   ·exact hrel.gw.bm t' u' hh b Ce Gn
  ·obtain⟨_,t',hl,_,Ce⟩:=J4 hb;exact hrel.gw.allow t' b Ce
  ·obtain⟨_,t',hl,_,Ce⟩:=J4 hb;exact hrel.gw.inb t' b Ce
  ·have BJ:BC pat.hp t=some g:=hk;unfold BC at BJ;show t<pat.nx;split at BJ
   ·rename_i hh;exact AE t _ (GY hh)
   ·rename_i hh;exact AE t _ (GY hh)
   ·rename_i hh;exact AE t _ (GY hh)
   ·rename_i hh;exact AE t _ (GY hh)
   ·cases BJ
 ·cases hi
theorem O5(l:List DT):∀(n k o m:Nat),k<n->o+m<=l.length->((BX n l).drop (k*l.length+o)).take m=(l.drop o).take m
 |0,k,_,_,h,_=>by omega
 |n+1,0,o,m,_,hm=>by rw[Le,Nat.zero_mul,Nat.zero_add,List.drop_append_of_le_length (by omega),List.take_append_of_le_length (by simp;omega)]
 |n+1,k+1,o,m,h,hm=>by have ih:=O5 l n k o m (by omega) hm;rw[<-ih,Le,show(k+1)*l.length+o=l.length+(k*l.length+o)from by rw[Nat.add_mul];omega,List.drop_append,List.drop_eq_nil_of_le (by omega)];simp
theorem DC.elem{w:World}{ys:List AV}{l:List DT}{cells:List Value}{N:List Nat}{z:Nat}(h:DC w (BX ys.length l) cells (Ar ys) N)(hl:l.length=z)(h7:∀y∈ys,y.cells.length=z){k o m:Nat}(hk:k<ys.length)(hm:o+m<=z):
  ∃M,(∀b∈M,b∈N)/\DC w ((l.drop o).take m) ((cells.drop (k*z+o)).take m) ((((AV.sl ys).nth k).cells.drop o).take m) M:=by
 obtain⟨N1,N2,N3,rfl,_,h2,_⟩:=h.split (k*z+o) m;subst hl;rw[O5 l _ _ _ _ hk hm,O3 ys h7 k _ (J5 hk) o m hm]at h2;exact⟨N2,λb hb=>by simp[hb],h2⟩
theorem Rd.ja{w:World}{vs:List Value}{x:AV}{f:List Nat}{o m:Nat}{g:Bool}(h:Rd w vs ((x.cells.drop o).take m) f)(h9:∀u∈vs,u.oneCell'=true)(hm:o+m<=x.cells.length)(h1:g=false->m=1):
  Rd w [if g then .agg vs.toArray else vs.headD undef] [x.fld o m g] f:=by
 cases g with
 |true=>have:=Rd.agg h9 h .nil;simpa[AV.fld]using this
 |false=>
  have:=h1 rfl;subst this;have e2:(x.cells.drop o).take 1=[x.cells[o]'(by omega)]:=by rw[A7 (by omega),List.take_succ_cons,List.take_zero]
  rw[e2]at h;have hl:=h.len
  match vs,hl with
  | [v],_=>simpa[AV.fld,show o<x.cells.length by omega]using h
section
variable {P:Program} {c:Cx} {n nx:Nat} {sl sl0:Nat->SV} {hp hp0:Nat->Option Ab} {a:Act} {o:Oper} {gs:Gd} {e:AO} {sg:Br} {nv:Nat}
theorem iE{w:World}{b p:Nat}{t:TypeId}{C:Array Value}{ty:TypeId}{fz:Nat × Nat}(hb:w.heap[b]?=some (.cells C ty fz))(ht:CE P t=true)(hg:Ag P t=true\/P.cellsOf t=1)(hp:p+P.cellsOf t<=C.size):
  (Instr.loadAt t (.pointer (some ⟨b,p,none⟩))).run P w= .ok (if Ag P t then .agg ((C.toList.drop p).take (P.cellsOf t)).toArray else((C.toList.drop p).take (P.cellsOf t)).headD undef) w:=by
 have JA:((C.toList.drop p).take (P.cellsOf t)).length=P.cellsOf t:=by rw[AU,Dv,BF];omega
 refine L8 ht _ (λ_=>JA) (λh=> ?_) (λj u hu=> ?_)
 ·rw[JA];rcases hg with h'|h';rw[h]at h';cases h';exact h'
 ·rw[DZ hb];rw[List.getElem?_take]at hu;split at hu
  ·simpa using hu
  ·cases hu
theorem lZ{b g e z ep:Nat}{l:List DT}{c0 i:E}{t:TypeId}{k':Nat}{v:Value}(hE:CF c b (.deep e z l g ep c0))(hr:SR c [.br b g i z k'] [v])(AX:CE P t=true)(hle:k'+P.cellsOf t<=z)(Ap:Ag P t=true\/P.cellsOf t=1):
  ∃u,(Instr.loadAt t v).run P c.w= .ok u c.w/\(((l.drop k').take (P.cellsOf t)).all DT.a7=true->Rd c.w [u] [(E.fld (.idx c0 i) k' (P.cellsOf t) (Ag P t)).den c.ρ] [])/\M1 c b u ((E.fld (.idx c0 i) k' (P.cellsOf t) (Ag P t)).den c.ρ)/\(Ag P t=false->GL c b g (some (i,z,k')) u):=by
 obtain⟨q1,q2,q3,q4,q5⟩:=hE;cases hr with
 |br h1 h2 h3 h4 h5 _=>
  rename_i q len cap kk k h6;obtain⟨d1,d2,⟨a9,d3,_⟩|⟨g9,cap9,C,ys,N1,d3,d4,d5,d6,d7,d8,d9,d10,d11,d12⟩⟩:=q4.inv
  ·rw[h2]at d3;cases d3;omega
  ·rw[h2]at d3;cases d3;rw[Av.aj]at d2 d12;have hk:k.toNat<ys.length:=by omega
   have hmul:(k.toNat+1)*z<=ys.length*z:=Bo _ (by omega);have DM:ys.length*z<=cap*z:=Bo _ d7;rw[Nat.add_mul]at hmul;have Aw:=iE (P:=P) (t:=t) (p:=k.toNat*z+k') d6 AX Ap (by omega);obtain⟨M,m1,m2⟩:=d12.elem d2 d10 hk hle;have EX:((C.toList.take (ys.length*z)).drop (k.toNat*z+k')).take (P.cellsOf t)=(C.toList.drop (k.toNat*z+k')).take (P.cellsOf t):=by rw[List.drop_take,List.take_take,Nat.min_eq_left (by omega)]
   rw[EX]at m2;have Cf:∀u∈(C.toList.drop (k.toNat*z+k')).take (P.cellsOf t),u.oneCell'=true:=λu hu=>d11 u (by rw[<-EX]at hu;exact B2 (BA hu))
   have Xh:((AV.sl ys).nth k.toNat).cells.length=z:=d10 _ (List.mem_of_getElem? (J5 hk));have BN:(E.fld (.idx c0 i) k' (P.cellsOf t) (Ag P t)).den c.ρ=((AV.sl ys).nth k.toNat).fld k' (P.cellsOf t) (Ag P t):=by simp only[E.den,d4,h3,AV.idx]
   have P1:Ag P t=false->P.cellsOf t=1:=λh=>by rcases Ap with h'|h';rw[h]at h';cases h';exact h'
   refine⟨_,Aw,λhf=> ?_,?_,λhf=> ?_⟩
   ·rw[BN];exact(m2.gj hf).ja Cf (by omega) P1
   ·obtain⟨f,r1,r2⟩:=m2.rd;rw[BN];exact⟨f,r1.ja Cf (by omega) P1,λb hb=> .inr (by rw[d5];simp[m1 b (r2 b hb)])⟩
   ·refine⟨_,_,_,C,_,_,kk,k,h2,by rw[d5];simp,d6,h3,h4,h5,?_⟩;have BD:=P1 hf;have AE:k.toNat*z+k'<C.size:=by omega
    have e1:(C.toList.drop (k.toNat*z+k')).take 1=[C[k.toNat*z+k']]:=by rw[A7 (by simpa using AE),List.take_succ_cons,List.take_zero];simp
    rw[hf,BD,e1];simp[AE]
end
section
variable {P:Program} {c:Cx} {n nx:Nat} {sl sl0:Nat->SV} {hp hp0:Nat->Option Ab} {a:Act} {o:Oper} {gs:Gd} {e:AO} {sg:Br} {nv:Nat}
theorem Bf.b8:∀l:Bf,Bf.of l.toList=l
 | .nil=>rfl
 | .cons s l=>by simp[Bf.toList,Bf.of,Bf.b8 l]
theorem lS(h:A1 P c n nx sl hp a sl0 hp0 o gs){t:TypeId}{x:Operand}(ho:o.op= .load t x)(he:Bk P sg sl0 hp0 nv nx gs o=some e)(hc:∀q∈e.bu,Cn.den c.ρ q):Ao P o c n nx sl hp gs a e:=by
 have hm:x∈o.op.operands:=by simp[ho,Op.operands]
 simp only[Bk,ho,Ak,Aj]at he;obtain⟨s,hs,e1,he,rfl⟩:=he;have hr:=(h.bz hs hm).asPtr (λq hq=>hc q (by simp[hq]));have WS:∀q∈e1.bu,Cn.den c.ρ q:=λq hq=>hc q (by simp[hq]);have ex:(execOp a.eval o).run P c.w=((Instr.loadAt t (a.eval x)).run P c.w).andThen λv w=> .ok (.value v) w:=by simp[execOp,ho]
 unfold ZO at he;split at he
 ·cases he
 rename_i AX;have AX:CE P t=true:=by simpa using AX
 generalize AY:(asPtr s).1=s1 at he hr;split at he
 ·rename_i b o';split at he
  ·rename_i ty g cs hl;obtain⟨s2,AN,rfl⟩:=Aj.1 he;generalize ha:a.eval x=v at hr ex;cases hr with
   |bj h1 h2 _=>
    rename_i q;obtain⟨q',C,_,e2,e3,e4,e5,e5',e6⟩:=h.eh b _ (Cc hl h.gs);rw[h2]at e2;cases e2;unfold LF at AN;have hlen:=e6.len;split at AN
    ·rename_i Ap;split at AN
     ·rename_i hle;simp at AN;subst AN;obtain⟨r1,r2⟩:=e6.split o';obtain⟨r3,r4⟩:=r2.split (P.cellsOf t);have:=SR.agg (cs:=Bf.of ((cs.drop o').take (P.cellsOf t))) (λu hu=>e5' u (B2 (BA hu))) (by rw[Bf.aj];exact r3) .nil;refine Ao.pure h (v:= .agg ((C.toList.drop o').take (P.cellsOf t)).toArray) ?_ this rfl;rw[ex,L8 AX ((C.toList.drop o').take (P.cellsOf t)) (λ_=>by simp at hlen ⊢;omega) (λh=>by rw[Ap]at h;cases h) (λj u hu=>by
       rw[DZ e5];rw[List.getElem?_take]at hu;split at hu
       ·simpa using hu
       ·cases hu)]
      simp[Ap]
     ·cases AN
    ·rename_i Ap;have Ap:Ag P t=false:=by simpa using Ap
     obtain⟨u,hu,r⟩:=e6.get AN;refine Ao.pure h (v:=u) ?_ r rfl;rw[ex,L8 AX [u] (λh=>by rw[Ap]at h;cases h) (λ_=>rfl) (λj z hz=>by
      cases j with
      |zero=>simp at hz;subst hz;rw[DZ e5];simpa using hu
      |succ j=>simp at hz)]
     simp[Ap]
  ·cases he
 ·rename_i b g i sz o';split at he
  ·rename_i e0 sz' g' c0 d hl;split at he
   ·rename_i hh;obtain⟨rfl,rfl,hle,Ap⟩:=hh;simp at he;subst he;generalize ha:a.eval x=v at hr ex;cases hr with
    |br h1 h2 h3 h4 h5 _=>
     rename_i q len cap kk k h6;obtain⟨_,_,N,r1,r2,_,_⟩:=h.eh b _ (Cc hl h.gs);obtain⟨f,r3,_,r4⟩:=r1.rd;obtain⟨xs,BS,As,h0,AH⟩:=r1;rw[h2]at r3 AH;have hk:k.toNat<len:=by omega
     have F3:xs.length=len:=by
      rcases AH with⟨_,⟨_,hv⟩,_⟩|⟨_,_,_,hv,_⟩
      ·cases hv;omega
      ·simp at hv;exact hv.2.1.symm
     have BK:((c0.den c.ρ).nth k.toNat).cells.length=sz:=by rw[BS];exact As _ (List.mem_of_getElem? (J5 (xs:=xs) (by omega)))
     obtain⟨v',q',g1,g2,g3⟩:=Vn r3 hk BK AX hle Ap;refine Ao.pure h (v:=v') ?_ (.e (f:=q') ?_ ?_ .nil) rfl
     ·rw[ex];rw[Nat.zero_add]at g1;simp[g1]
     ·simpa[E.den,AV.idx,h3]using g3
     ·exact λz hz=>r2 z (r4 z (g2 z hz))
   ·cases he
  ·rename_i e0 sz' l g' ep c0 hl;split at he
   ·rename_i hh;obtain⟨rfl,rfl,hle,Ap⟩:=hh;generalize ha:a.eval x=v at hr ex;have hE:=h.eh b _ (Cc hl h.gs);obtain⟨u,k1,k2,k3,k4⟩:=lZ (P:=P) (t:=t) hE hr AX hle Ap;have Aw:(execOp a.eval o).run P c.w= .ok (.value u) c.w:=by rw[ex,k1];rfl
    split at he
    ·rename_i hf;simp only[Aa]at he;subst he;exact Ao.pure h Aw (.e (k2 hf) (by simp) .nil) rfl
    ·simp only[Aa]at he;subst he;cases hr with
     |br h1 _ _ _ _ _=>
      refine Ao.pure h Aw (.via h1 (Nat.le_of_eq hE.2.2.1.symm) (λ_=>⟨k3,?_⟩) .nil) rfl;split
      ·exact trivial
      ·rename_i Fq;exact k4 (by simpa using Fq)
   ·cases he
  ·cases he
 ·rename_i b g m pth y i sz o';split at he
  ·rename_i hh;obtain⟨hle,Ap,hv⟩:=hh;have hE:=My h.eh h.gs hv;generalize ha:a.eval x=v at hr ex;cases hr with
   |vptr h1 h2 h3 _=>
    obtain⟨q,off,len,cap,kk,k,⟨f,p1,p2⟩,_,p4,p5,p6,p7,rfl⟩:=h3 hE;obtain⟨v',q',g1,g2,g3⟩:=Vn (fo:=o') p1 (by omega) p7 AX hle Ap;have Aw:(execOp a.eval o).run P c.w= .ok (.value v') c.w:=by rw[ex];simp[g1]
    have BN:Rd c.w [v'] [(E.fld (.idx y i) o' (P.cellsOf t) (Ag P t)).den c.ρ] q':=by simpa[E.den,AV.idx,p4]using g3
    split at he
    ·simp only[Aa]at he;subst he;obtain⟨f1,f2,f3,f4⟩:=BD WS;have hq:q'=[]:=by
      cases hg:Ag P t with
      |true=>obtain⟨cs,Bg⟩:=f3 hg;obtain⟨as_,rfl,_,r⟩:=HH BN Bg;exact F9 r (by rw[Bg]at f2;exact f2)
      |false=>exact F9 BN (by simpa using f4 hg)
     subst hq;exact Ao.pure h Aw (.e BN (by simp) .nil) rfl
    ·simp only[Aa]at he;subst he;exact Ao.pure h Aw (.via h1 h2 (λ_=>⟨⟨q',BN,λz hz=>p2 z (List.mem_of_mem_tail (g2 z hz))⟩,trivial⟩) .nil) rfl
  ·cases he
 ·rename_i y i sz o';split at he
  ·rename_i hh;obtain⟨hle,Ap⟩:=hh;simp at he;subst he;generalize ha:a.eval x=v at hr ex;cases hr with
   |cj h1 h2 h3 h4 h5 h6 _=>rename_i q off len cap f kk k;obtain⟨v',q',g1,g2,g3⟩:=Vn (fo:=o') h1 (by omega) h6 AX hle Ap;refine Ao.pure h (v:=v') ?_ (.e (f:=q') (by simpa[E.den,AV.idx,h3]using g3) (λz hz=>h2 z (List.mem_of_mem_tail (g2 z hz))) .nil) rfl;rw[ex];simp[g1]
  ·cases he
 ·rename_i y o';split at he
  ·rename_i Ap;simp at he;subst he;generalize ha:a.eval x=v at hr ex;cases hr with
   |cg h1 h2 _=>
    rename_i q f;obtain⟨z,hz,hle⟩:=BD WS;rw[hz]at h1;cases h1 with
    |ref hb Bt F1 Dy=>
     rename_i C ty fz f1 f2;obtain⟨q',g1,g2⟩:=F1.fq Bt o' (P.cellsOf t) (Ag P t) hle (λh=>by rcases Ap with h'|h';rw[h]at h';cases h';exact h');have JA:((C.toList.drop o').take (P.cellsOf t)).length=P.cellsOf t:=by have:=F1.len;rw[AU,Dv];omega
     refine Ao.pure h ?_ (.e (f:=q') (by simpa[E.den,hz,AV.deref]using g2) (λz hz=>h2 z (by simp[g1 z hz])) .nil) rfl;rw[ex,L8 AX ((C.toList.drop o').take (P.cellsOf t)) (λ_=>JA) (λh=>by rw[JA];rcases Ap with h'|h';rw[h]at h';cases h';exact h') (λj u hu=>by
       rw[DZ hb];rw[List.getElem?_take]at hu;split at hu
       ·simpa using hu
       ·cases hu)]
     simp
  ·cases he
 ·cases he
end
theorem Ln(k:IntKind)(n:Int):Eg k n↔k.min<=n/\n<=k.max:=by unfold Eg;cases k<;>simp only[IntKind.wrap,IntKind.bits,IntKind.signed,IntKind.min,IntKind.max]<;>simp<;>(try split)<;>omega
theorem Vq(k:IntKind)(n:Int):Eg k (k.wrap n):=by rw[Ln];cases k<;>simp only[IntKind.wrap,IntKind.bits,IntKind.signed,IntKind.min,IntKind.max]<;>simp<;>(try split)<;>omega
theorem nG{k:IntKind}{x y:Int}(h:Eg k x):Eg k (x.tmod y):=by
 rw[Ln]at h ⊢;have h1:(x.tmod y).natAbs<=x.natAbs:=by rw[Int.natAbs_tmod];exact Nat.mod_le _ _
 have h2:0<=x->0<=x.tmod y:=Int.tmod_nonneg y;have Tz:k.min<=0:=by cases k<;>decide
 have Ea:0<=k.max:=by cases k<;>decide
 constructor
 ·by_cases h0:0<=x
  ·have:=h2 h0;omega
  ·omega
 ·by_cases h0:0<=x
  ·omega
  ·have h3:x.tmod y<=0:=by
    have:=Int.tmod_nonneg (a:= -x) y (by omega);rw[Int.neg_tmod]at this;omega
   omega
theorem mO{k:IntKind}{x:Int}(m:Nat)(h:Eg k x):Eg k (x.fdiv (2^m)):=by
 rw[Ln]at h ⊢;have hp:(0:Int)<2^m:=Int.pow_pos (by decide);rw[Int.fdiv_eq_ediv_of_nonneg _ (Int.le_of_lt hp)];have Tz:k.min<=0:=by cases k<;>decide
 have Ea:0<=k.max:=by cases k<;>decide
 have h1:(1:Int)<=2^m:=hp;constructor
 ·rcases Int.le_total 0 x with h0|h0
  ·have:=Int.ediv_nonneg h0 (Int.le_of_lt hp);omega
  ·have:x<=x/2^m:=by
    rw[Int.le_ediv_iff_mul_le hp];have:=Int.mul_le_mul_of_nonpos_left h0 h1;omega
   omega
 ·rcases Int.le_total 0 x with h0|h0
  ·have:=Int.ediv_le_self (2^m) h0;omega
  ·have h2:x/2^m<=0:=by
    have:=Int.ediv_le_ediv hp h0;simpa using this
   omega
section
variable {P:Program} {c:Cx} {n nx:Nat} {sl sl0:Nat->SV} {hp hp0:Nat->Option Ab} {a:Act} {o:Oper} {gs:Gd} {e:AO} {sg:Br} {nv:Nat}
def AV.val:AV->Value
 | .int k n=> .int k n
 | .bool b=> .bool b
 | .str s=> .string ⟨s.toArray⟩
 |_=>Go.undef
theorem kJ{op:BinOp}{k k':IntKind}{x y:Int}(hk:k=k'\/op= .shl\/op= .shr)(hz:op= .quo\/op= .rem->y≠0)(hs:op= .shl\/op= .shr->0<=y)(t:TypeId)(p q:Operand)(w:World):
  (do eqGuard op t p q (.int k x) (.int k' y);binOp op t (.int k x) (.int k' y):Sem Value).run P w= .ok (D0 op k x y).val w:=by
 have hg:=eqGuard_at_int op t p q (.int k' y) k x;cases op<;>simp only[reduceCtorEq,or_false,or_true,or_self]at hk hz hs<;>simp only[hg]
 all_goals first
  |(subst hk;simp[binOp,Op.intArith,Op.intCmp,Op.intBits,D0,AV.val];done)
  |(subst hk;have:=hz trivial;simp[binOp,Op.intDiv,D0,AV.val,this];done)
  |(have:=hs trivial;simp[binOp,Op.shift,D0,AV.val,Int.not_lt.2 this];done)
theorem lE{op:BinOp}{k:IntKind}{x y:Int}(hx:Eg k x)(w:World):Rd w [(D0 op k x y).val] [D0 op k x y] []:=by
 cases op<;>simp only[D0,AV.val]<;>first
  |exact .int (Vq _ _) .nil
  |exact .bool .nil
  |exact .int (nG hx) .nil
  |exact .int (mO _ hx) .nil
theorem Rd.er{w:World}{v:Value}{x:AV}{f:List Nat}(h:Rd w [v] [x] f):x≠ .undef:=by rintro rfl;cases h
theorem Vl{ρ:List AV}:∀(x:E) {k:IntKind},B3 x=some k->x.den ρ≠ .undef-> ∃m,x.den ρ= .int k m
 | .int k n,_,h,_=>by simp[B3]at h;subst h;exact⟨n,rfl⟩
 | .len y,_,h,hd=>by
  simp[B3]at h;subst h;simp only[E.den,AV.len]at hd ⊢;split at hd
  ·exact⟨_,rfl⟩
  ·exact absurd rfl hd
 | .slen y,_,h,hd=>by
  simp[B3]at h;subst h;simp only[E.den,AV.slen]at hd ⊢;split at hd
  ·exact⟨_,rfl⟩
  ·exact absurd rfl hd
 | .conv k y,_,h,hd=>by
  simp[B3]at h;subst h;simp only[E.den,AV.conv]at hd ⊢;split at hd
  ·exact⟨_,rfl⟩
  ·exact absurd rfl hd
 | .bin op x y,k,h,hd=>by
  simp only[E.den]at hd ⊢;have hx:x.den ρ≠ .undef:=by rintro hh;rw[hh]at hd;exact hd (by simp[AV.bin])
  cases op<;>simp only[B3,reduceCtorEq]at h
  all_goals
   obtain⟨m,hm⟩:=Vl x h hx;rw[hm]at hd ⊢;cases hy:y.den ρ<;>rw[hy]at hd<;>simp only[AV.bin]at hd ⊢ <;>first
    |exact absurd rfl hd
    |(split at hd
      ·rename_i hk;rw[if_pos hk];exact⟨_,rfl⟩
      ·exact absurd rfl hd)
 | .var _,_,h,_=>by simp[B3]at h
 | .bool _,_,h,_=>by simp[B3]at h
 | .str _,_,h,_=>by simp[B3]at h
 | .cv,_,h,_=>by simp[B3]at h
 | .lst _,_,h,_=>by simp[B3]at h
 | .mk _,_,h,_=>by simp[B3]at h
 | .tup _,_,h,_=>by simp[B3]at h
 | .ref _,_,h,_=>by simp[B3]at h
 | .fn ..,_,h,_=>by simp[B3]at h
 | .fld ..,_,h,_=>by simp[B3]at h
 | .proj ..,_,h,_=>by simp[B3]at h
 | .deref _,_,h,_=>by simp[B3]at h
 | .idx ..,_,h,_=>by simp[B3]at h
 | .sidx ..,_,h,_=>by simp[B3]at h
 | .win ..,_,h,_=>by simp[B3]at h
 | .swin ..,_,h,_=>by simp[B3]at h
 | .app ..,_,h,_=>by simp[B3]at h
 | .set ..,_,h,_=>by simp[B3]at h
 | .put ..,_,h,_=>by simp[B3]at h
 | .rep ..,_,h,_=>by simp[B3]at h
 | .sbin ..,_,h,_=>by simp[B3]at h
 | .bbin ..,_,h,_=>by simp[B3]at h
 | .not _,_,h,_=>by simp[B3]at h
 | .neg _,_,h,_=>by simp[B3]at h
 | .ite ..,_,h,_=>by simp[B3]at h
 | .bytes _,_,h,_=>by simp[B3]at h
 | .text _,_,h,_=>by simp[B3]at h
end
section
variable {P:Program} {c:Cx} {n nx:Nat} {sl sl0:Nat->SV} {hp hp0:Nat->Option Ab} {a:Act} {o:Oper} {gs:Gd} {e:AO} {sg:Br} {nv:Nat}
theorem F8{s:SV}{v:Value}{x:E}(h:SR c [s] [v])(hx:Eu s=some x):∃f,Rd c.w [v] [x.den c.ρ] f/\ ∀b∈f,c.ok b:=by
 cases s<;>simp only[Eu,Aa,reduceCtorEq]at hx;subst hx;cases h with
 |e h1 h2 _=>exact⟨_,h1,h2⟩
theorem SR.ca{v:Value}{x:E}(h:Rd c.w [v] [x.den c.ρ] []):SR c [.e x] [v]:= .e h (by simp) .nil
theorem jP{ρ:List AV}{op:BinOp}{x y:E}{w:World}{v u:Value}{f g:List Nat}(h1:Rd w [v] [x.den ρ] f)(h2:Rd w [u] [y.den ρ] g)(hd:Ms (.bin op x y)=true->(E.bin op x y).den ρ≠ .undef):
  ∃k k' p q,x.den ρ= .int k p/\y.den ρ= .int k' q/\(k=k'\/op= .shl\/op= .shr)/\(E.bin op x y).den ρ=D0 op k p q/\Eg k p/\v= .int k p/\u= .int k' q:=by
 have key:(∃k k' p q,x.den ρ= .int k p/\y.den ρ= .int k' q/\(k=k'\/op= .shl\/op= .shr)):=by
  by_cases hn:Ms (.bin op x y)=true
  ·have:=hd hn;simp only[E.den]at this;cases hx:x.den ρ<;>cases hy:y.den ρ<;>simp only[hx,hy,AV.bin,ne_eq,not_true_eq_false]at this;split at this
   ·exact⟨_,_,_,_,rfl,rfl,by assumption⟩
   ·exact absurd rfl this
  ·have hn:Ms (.bin op x y)=false:=by simpa using hn
   have hk:(B3 x).isSome=true/\(B3 x==B3 y)=true:=by cases op<;>simp[Ms]at hn<;>simpa using hn
   obtain⟨k,Gu⟩:=Option.isSome_iff_exists.1 hk.1;have cF:B3 y=some k:=by rw[<-AA.1 hk.2,Gu]
   obtain⟨p,hp⟩:=Vl x Gu h1.er;obtain⟨q,hq⟩:=Vl y cF h2.er;exact⟨k,k,p,q,hp,hq, .inl rfl⟩
 obtain⟨k,k',p,q,hp,hq,Jz⟩:=key;obtain⟨hv,Cm⟩:=ET h1 hp;obtain⟨hu,_⟩:=ET h2 hq;exact⟨k,k',p,q,hp,hq,Jz,by simp only[E.den,hp,hq,AV.bin,if_pos Jz],Cm,hv,hu⟩
theorem gF(a b:ByteArray):(a.toList==b.toList)=(a.data.toList==b.data.toList):=by rw[ByteArray.toList_eq,ByteArray.toList_eq]
theorem gX{α β γ:Type}(r:Result α)(f:α->World->Result β)(g:β->World->Result γ):(r.andThen f).andThen g=r.andThen λa w=>(f a w).andThen g:=by cases r<;>rfl
theorem UO(d:Nat){t:TypeId}(p q:Bool)(h:P.underlying t=some .bool)(w:World):(Op.equalIn (d+1) t (.bool p) (.bool q)).run P w= .ok (p==q) w:=by simp[Op.equalIn,run_underlying h]
theorem kX{t:TypeId}(p q:Bool)(h:P.underlying t=some .bool)(w:World):(binOp .eql t (.bool p) (.bool q)).run P w= .ok (.bool (p==q)) w:=by simp only[binOp];simp[Op.equal,Op.maxDepth,UO 9999 p q h]
theorem kT{t:TypeId}(p q:Bool)(h:P.underlying t=some .bool)(w:World):(binOp .neq t (.bool p) (.bool q)).run P w= .ok (.bool (!(p==q))) w:=by simp only[binOp];simp[Op.equal,Op.maxDepth,UO 9999 p q h]
theorem Lu{op:BinOp}{t ty:TypeId}{x y:Operand}(ho:o.op= .binOp op t x y ty)(w:World){v u:Value}(hv:a.eval x=v)(hu:a.eval y=u):
  (execOp a.eval o).run P w=((do eqGuard op t x y v u;binOp op t v u:Sem Value).run P w).andThen λv w=> .ok (.value v) w:=by
 simp only[execOp,ho,hv,hu,Sem.run_bind,gX,Sem.run_pure]
theorem Xv(h:A1 P c n nx sl hp a sl0 hp0 o gs){op:BinOp}{t el:TypeId}{x y:Operand}{ty:TypeId}(ho:o.op= .binOp op t x y ty)(hu:P.underlying t=some (.slice el))(r1:SR c [.bb] [a.eval x])(r2:SR c [.bb] [a.eval y])
  (AD:op= .eql\/op= .neq):Ao P o c n nx sl hp gs a {val:= .e (.bool (op== .eql))}:=by
 have ex:=λ(v u:Value) (hv:a.eval x=v) (hu:a.eval y=u)=>Lu (P:=P) (o:=o) ho c.w hv hu;generalize EO:a.eval x=v1 at r1;generalize CK:a.eval y=v2 at r2;cases r1 with
 |bb _=>cases r2 with
  |bb _=>
   refine Ao.pure h (v:= .bool (op== .eql)) ?_ (.ca (.bool .nil)) rfl;rw[ex _ _ EO CK,eqGuard_at_slice];rcases AD with rfl|rfl
   ·simp[run_eql_nil_slice c.w t el none 0 0 0 0 hu]
   ·simp[run_neq_nil_slice c.w t el none 0 0 0 0 hu]
theorem iL(h:A1 P c n nx sl hp a sl0 hp0 o gs){op:BinOp}{t:TypeId}{x y:Operand}{ty:TypeId}(ho:o.op= .binOp op t x y ty){s1 s2:SV}(r1:SR c [s1] [a.eval x])(r2:SR c [s2] [a.eval y])
  {x' y':E} (C1:Eu s1=some x') (Be:Eu s2=some y') (hd:Ms (.bin op x' y')=true->Cn.den c.ρ (.dfd (.bin op x' y'))) (cW:op= .quo\/op= .rem->Cn.den c.ρ (.nz y')) (cU:op= .shl\/op= .shr->Cn.den c.ρ (.nn y')) {ck:List Cn}:
  Ao P o c n nx sl hp gs a {bu:=ck,val:= .e (.bin op x' y')}:=by
 obtain⟨f1,g1,_⟩:=F8 r1 C1;obtain⟨f2,g2,_⟩:=F8 r2 Be;obtain⟨k,k',p,q,e1,e2,Jz,e3,Cm,hv,EF⟩:=jP (op:=op) g1 g2 hd;refine Ao.pure h (v:=(D0 op k p q).val) ?_ (.ca (by rw[e3];exact lE Cm _)) rfl;rw[Lu ho c.w hv EF,kJ Jz (λAD=> ?_) (λAD=> ?_)]
 ·simp
 ·obtain⟨_,m,hm,CZ⟩:=cW AD;rw[e2]at hm;cases hm;exact CZ
 ·obtain⟨_,m,hm,CZ⟩:=cU AD;rw[e2]at hm;cases hm;exact CZ
theorem gJ(h:A1 P c n nx sl hp a sl0 hp0 o gs){op:BinOp}{t:TypeId}{x y:Operand}{ty:TypeId}(ho:o.op= .binOp op t x y ty){s1 s2:SV}(r1:SR c [s1] [a.eval x])(r2:SR c [s2] [a.eval y])
  {x' y':E} (C1:Eu s1=some x') (Be:Eu s2=some y') (hd:Cn.den c.ρ (.dfd (.sbin op x' y'))) (Cu:op= .add->Cn.den c.ρ (.roomS x' y')) {ck:List Cn}:
  Ao P o c n nx sl hp gs a {bu:=ck,val:= .e (.sbin op x' y')}:=by
 obtain⟨f1,g1,_⟩:=F8 r1 C1;obtain⟨f2,g2,_⟩:=F8 r2 Be;have hd:AV.sbin op (x'.den c.ρ) (y'.den c.ρ)≠ .undef:=hd;cases hx:x'.den c.ρ<;>cases hy:y'.den c.ρ<;>simp only[hx,hy,AV.sbin,ne_eq,not_true_eq_false]at hd;obtain⟨b1,EO,rfl,_⟩:=MQ g1 hx;obtain⟨b2,CK,rfl,_⟩:=MQ g2 hy;have hle:op= .add->b1.size+b2.size<=9223372036854775807:=λAD=>by obtain⟨p,q,hp,hq,hle⟩:=Cu AD;rw[hx]at hp;rw[hy]at hq;cases hp;cases hq;simpa using hle
 refine Ao.pure h (v:=match op with| .add=> .string (b1++b2)|_=>(MP op b1.data.toList b2.data.toList).val) ?_ (.ca ?_) rfl
 ·rw[Lu ho c.w EO CK,eqGuard_at_string];cases op<;>first
   |(exact absurd rfl hd)
   |(have:=hle rfl;simp[binOp,Op.stringOp];omega)
   |(simp[binOp,Op.stringOp,MP,AV.val,ByteArray.toList_eq,bne];done)
 ·simp only[E.den,hx,hy,AV.sbin];cases op<;>simp only[MP,AV.val,ne_eq,not_true_eq_false]at hd ⊢ <;>first
   |exact .bool .nil
   |(have:=hle rfl
     have h9:=Rd.str (w:=c.w) (s:=b1++b2) (by simpa using this) .nil;simpa using h9)
theorem gR(h:A1 P c n nx sl hp a sl0 hp0 o gs){op:BinOp}{t:TypeId}{x y:Operand}{ty:TypeId}(ho:o.op= .binOp op t x y ty)(hu:P.underlying t=some .bool){s1 s2:SV}(r1:SR c [s1] [a.eval x])(r2:SR c [s2] [a.eval y])
  {x' y':E} (C1:Eu s1=some x') (Be:Eu s2=some y') (hd:Cn.den c.ρ (.dfd (.bbin op x' y'))) {ck:List Cn}:
  Ao P o c n nx sl hp gs a {bu:=ck,val:= .e (.bbin op x' y')}:=by
 obtain⟨f1,g1,_⟩:=F8 r1 C1;obtain⟨f2,g2,_⟩:=F8 r2 Be;have hd:AV.bbin op (x'.den c.ρ) (y'.den c.ρ)≠ .undef:=hd;cases hx:x'.den c.ρ<;>cases hy:y'.den c.ρ<;>simp only[hx,hy,AV.bbin,ne_eq,not_true_eq_false]at hd;rename_i p q;have EO:=GB g1 hx;have CK:=GB g2 hy;refine Ao.pure h (v:=(AV.bbin op (.bool p) (.bool q)).val) ?_ (.ca ?_) rfl
 ·rw[Lu ho c.w EO CK,eqGuard_at_bool];cases op<;>simp only[ne_eq,not_true_eq_false]at hd
  ·simp[kX p q hu,AV.bbin,AV.val]
  ·simp[kT p q hu,AV.bbin,AV.val,bne]
 ·simp only[E.den,hx,hy];cases op<;>simp only[AV.bbin,AV.val,ne_eq,not_true_eq_false]at hd ⊢ <;>exact .bool .nil
theorem nA(h:A1 P c n nx sl hp a sl0 hp0 o gs){op:BinOp}{t:TypeId}{x y:Operand}{ty:TypeId}(ho:o.op= .binOp op t x y ty)(JD:∀fs,P.underlying t≠some (.struct fs))(he:Bk P sg sl0 hp0 nv nx gs o=some e)(hq:e.bc=none)(hc:∀q∈e.bu,Cn.den c.ρ q):Ao P o c n nx sl hp gs a e:=by
 have Dc:x∈o.op.operands:=by simp[ho,Op.operands]
 have CQ:y∈o.op.operands:=by simp[ho,Op.operands]
 simp only[Bk,ho,Ak]at he;obtain⟨s1,Bj,s2,AN,he⟩:=he;have r1:=h.bz Bj Dc;have r2:=h.bz AN CQ;unfold MJ at he;split at he
 ·rename_i el hu;split at he
  ·simp at he;subst he;exact Xv h ho hu r1 r2 (.inl rfl)
  ·simp at he;subst he;exact Xv h ho hu r1 r2 (.inr rfl)
  ·obtain⟨_,_,rfl⟩:=Aj.1 he;cases hq
  ·obtain⟨_,_,rfl⟩:=Aj.1 he;cases hq
  ·cases he
 ·rename_i kk hu;split at he
  ·rename_i x' y' C1 Be;simp at he;subst he;exact iL h ho r1 r2 C1 Be (λhn=>hc _ (by simp[hn])) (λAD=>hc _ (by rcases AD with rfl|rfl<;>simp)) (λAD=>hc _ (by rcases AD with rfl|rfl<;>simp))
  ·cases he
 ·rename_i hu;split at he
  ·rename_i x' y' C1 Be;simp at he;subst he;exact gJ h ho r1 r2 C1 Be (hc _ (by simp)) (λAD=>hc _ (by subst AD;simp))
  ·cases he
 ·rename_i hu;split at he
  ·rename_i x' y' C1 Be;simp at he;subst he;exact gR h ho hu r1 r2 C1 Be (hc _ (by simp))
  ·cases he
 ·rename_i fs hu;exact absurd hu (JD fs)
 ·cases he
end
section
variable {P:Program} {c:Cx} {n nx:Nat} {sl sl0:Nat->SV} {hp hp0:Nat->Option Ab} {a:Act} {o:Oper} {gs:Gd} {e:AO} {sg:Br} {nv:Nat}
theorem Pd{t:TypeId}(h:CE P t=true)(cs:List Value)(off:Nat)(hle:off+P.cellsOf t<=cs.length)(hg:Ag P t=true\/P.cellsOf t=1)(w:World):
  (part t cs.toArray off).run P w= .ok (if Ag P t then .agg ((cs.drop off).take (P.cellsOf t)).toArray else((cs.drop off).take (P.cellsOf t)).headD Go.undef) w:=by
 cases ha:Ag P t with
 |true=>simp only[part,Sem.run_bind,O1 h,ha,Ld h,Result.andThen_ok,if_true,Sem.run_pure];congr 2;apply Array.ext';rw[Array.toList_extract];simp[Nat.add_sub_cancel_left,List.extract_eq_take_drop]
 |false=>
  have h1:P.cellsOf t=1:=by rcases hg with h'|h';rw[ha]at h';cases h';exact h'
  have AE:off<cs.length:=by omega
  have e1:(cs.drop off).take (P.cellsOf t)=[cs[off]]:=by rw[h1,A7 AE,List.take_succ_cons,List.take_zero]
  rw[e1];simp[part,O1 h,ha,AE]
theorem jY(h:A1 P c n nx sl hp a sl0 hp0 o gs){t:TypeId}{x:Operand}{f:Nat}(ho:o.op= .field t x f)(he:Bk P sg sl0 hp0 nv nx gs o=some e)(hc:∀q∈e.bu,Cn.den c.ρ q):Ao P o c n nx sl hp gs a e:=by
 have hm:x∈o.op.operands:=by simp[ho,Op.operands]
 simp only[Bk,ho,Ak]at he;obtain⟨s,hs,he⟩:=he;have hr:=h.bz hs hm;split at he
 ·rename_i fs hu;split at he
  ·rename_i fd hf;split at he
   ·cases he
   ·rename_i AX;have AX:CE P fd.type=true:=by simpa using AX
    have ex:∀as_:List Value,a.eval x= .agg as_.toArray->(execOp a.eval o).run P c.w=((part fd.type as_.toArray fd.offset).run P c.w).andThen λv w=> .ok (.value v) w:=λas_ hv=>by simp[execOp,ho,Instr.field,run_underlying hu,hf,hv,asAgg]
    split at he
    ·rename_i cs;obtain⟨s2,AN,rfl⟩:=Aj.1 he;generalize hv:a.eval x=v at hr;cases hr with
     |agg r8 r1 r9=>
      rename_i as_;have hlen:=r1.len;unfold LF at AN;split at AN
      ·rename_i Ap;split at AN
       ·rename_i hle;simp at AN;subst AN;obtain⟨q1,q2⟩:=r1.split fd.offset;obtain⟨q3,q4⟩:=q2.split (P.cellsOf fd.type);have:=SR.agg (cs:=Bf.of ((cs.toList.drop fd.offset).take (P.cellsOf fd.type))) (λu hu=>r8 u (B2 (BA hu))) (by rw[Bf.aj];exact q3) .nil;refine Ao.pure h (v:= .agg ((as_.drop fd.offset).take (P.cellsOf fd.type)).toArray) ?_ this rfl;rw[ex as_ hv,Pd AX as_ fd.offset (by omega) (.inl Ap)];simp[Ap]
       ·cases AN
      ·rename_i Ap;have Ap:Ag P fd.type=false:=by simpa using Ap
       obtain⟨u,EF,r⟩:=r1.get AN;refine Ao.pure h (v:=u) ?_ r rfl;rw[ex as_ hv];simp[part,O1 AX,Ap,EF]
    ·rename_i y;split at he
     ·rename_i hh;obtain⟨hle,Ap⟩:=hh;simp at he;subst he;generalize hv:a.eval x=v at hr;cases hr with
      |e h1 h2 _=>
       rename_i f1;obtain⟨cs,Bg,As⟩:=BD hc;obtain⟨as_,rfl,KT,Dy⟩:=HH h1 Bg;have hlen:=Dy.len;have EX:(y.den c.ρ).cells=cs:=by rw[Bg];rfl
       rw[<-EX]at Dy;obtain⟨q,g1,g2⟩:=Dy.fq KT fd.offset (P.cellsOf fd.type) (Ag P fd.type) (by rw[EX];omega) (λhh=>by rcases Ap with h'|h';rw[hh]at h';cases h';exact h');refine Ao.pure h ?_ (.e (f:=q) (by simpa[E.den]using g2) (λz hz=>h2 z (g1 z hz)) .nil) rfl;rw[ex as_ hv,Pd AX as_ fd.offset (by omega) Ap];simp
     ·cases he
    ·rename_i b g m pth y;split at he
     ·rename_i hh;obtain⟨hle,Ap,Oj⟩:=hh;have hE:=My h.eh h.gs Oj;generalize hv:a.eval x=v at hr;have Gl:Cn.den c.ρ (.agg y (P.cellsOf t)):=by
       split at he<;>(simp only[Aa]at he;subst he;exact BD hc)
      cases hr with
      |via h1 h2 h3 _=>
       obtain⟨⟨f1,p1,p2⟩,_⟩:=h3 hE;obtain⟨cs,Bg,As⟩:=Gl;obtain⟨as_,rfl,KT,Dy⟩:=HH p1 Bg;have hlen:=Dy.len;have EX:(y.den c.ρ).cells=cs:=by rw[Bg];rfl
       rw[<-EX]at Dy;obtain⟨q,g1,g2⟩:=Dy.fq KT fd.offset (P.cellsOf fd.type) (Ag P fd.type) (by rw[EX];omega) (λhh=>by rcases Ap with h'|h';rw[hh]at h';cases h';exact h');have Aw:=ex as_ hv;rw[Pd AX as_ fd.offset (by omega) Ap]at Aw;simp only[Result.andThen_ok]at Aw;have BN:Rd c.w _ [(E.fld y fd.offset (P.cellsOf fd.type) (Ag P fd.type)).den c.ρ] q:=g2;split at he
       ·simp only[Aa]at he;subst he;obtain⟨e1,e2,e3,e4⟩:=hc (.flat (.fld y fd.offset (P.cellsOf fd.type) (Ag P fd.type)) (P.cellsOf fd.type) (Ag P fd.type)) (by simp);have hq:q=[]:=by
         cases hg:Ag P fd.type with
         |true=>obtain⟨cs,Bg⟩:=e3 hg;obtain⟨as_,_,_,r⟩:=HH BN Bg;exact F9 r (by rw[Bg]at e2;exact e2)
         |false=>exact F9 BN (by simpa using e4 hg)
        subst hq;exact Ao.pure h Aw (.e BN (by simp) .nil) rfl
       ·simp only[Aa]at he;subst he;exact Ao.pure h Aw (.via h1 h2 (λ_=>⟨⟨q,BN,λz hz=>p2 z (g1 z hz)⟩,trivial⟩) .nil) rfl
     ·cases he
    ·cases he
  ·cases he
 ·cases he
theorem Mp{v:Value}{x:AV}{m:Int}{w:World}{f:List Nat}(h:Rd w [v] [x] f)(hx:x.len= .int .i64 m):(∃a c,v= .slice a 0 c/\m=0)\/ ∃b o k c,v= .slice (some ⟨b,o,none⟩) k c/\m=k:=by
 rcases h.kind with h|h|h|h|h|h|h|h|h|h
 ·obtain⟨_,_,_,rfl,_⟩:=h;simp[AV.len]at hx
 ·obtain⟨_,_,rfl,_⟩:=h;simp[AV.len]at hx
 ·obtain⟨_,_,rfl,_⟩:=h;simp[AV.len]at hx
 ·obtain⟨q,r,rfl,rfl,_⟩:=h;simp[AV.len]at hx;exact .inl ⟨q,r,rfl,by omega⟩
 ·obtain⟨b,o,k,r,ys,_,_,_,_,_,_,rfl,rfl,_,_,_,_,hl,_⟩:=h;simp[AV.len]at hx;exact .inr ⟨b,o,k,r,rfl,by omega⟩
 ·obtain⟨_,_,_,rfl,_⟩:=h;simp[AV.len]at hx
 ·obtain⟨_,_,_,rfl,_⟩:=h;simp[AV.len]at hx
 ·obtain⟨_,_,_,_,_,_,_,rfl,_⟩:=h;simp[AV.len]at hx
 ·obtain⟨_,_,_,_,rfl,_⟩:=h;simp[AV.len]at hx
 ·obtain⟨_,rfl,_⟩:=h;simp[AV.len]at hx
theorem L6{t el:TypeId}(hu:P.underlying t=some (.slice el))(hz:P.cellsOf el≠0){b off len cap:Nat}{kk:IntKind}{k:Int}(h0:0<=k)(h1:k<len)(w:World):
  (Instr.indexAt t (.slice (some ⟨b,off,none⟩) len cap) (.int kk k)).run P w= .ok (.pointer (some ⟨b,off+k.toNat*P.cellsOf el,none⟩)) w:=by
 simp[Instr.indexAt,run_underlying hu,asIntOf,h0,h1,Yd hz,Addr.add_lit]
theorem Yw(h:A1 P c n nx sl hp a sl0 hp0 o gs){t:TypeId}{x i:Operand}(ho:o.op= .indexAddr t x i\/o.op= .index t x i){s1 s2:SV}(Bj:Bc sl0 gs x=some s1)(AN:Bc sl0 gs i=some s2)
  (AD:(∃el,P.underlying t=some (.slice el))->o.op= .indexAddr t x i) (TI:P.underlying t=some .string->o.op= .index t x i)
  (he:RM P hp0 gs t s1 s2=some e) (hc:∀q∈e.bu,Cn.den c.ρ q):Ao P o c n nx sl hp gs a e:=by
 have Dc:x∈o.op.operands:=by rcases ho with ho|ho<;>simp[ho,Op.operands]
 have CQ:i∈o.op.operands:=by rcases ho with ho|ho<;>simp[ho,Op.operands]
 have r1:=h.bz Bj Dc;have r2:=h.bz AN CQ;unfold RM at he;split at he
 ·rename_i el k hu;have NW:=AD ⟨el,hu⟩;have ex:(execOp a.eval o).run P c.w=((Instr.indexAt t (a.eval x) (a.eval i)).run P c.w).andThen λv w=> .ok (.value v) w:=by simp[execOp,NW]
  split at he
  ·cases he
  rename_i hz;obtain⟨fk,Gu,_⟩:∃f,Rd c.w [a.eval i] [k.den c.ρ] f/\ ∀b∈f,c.ok b:=by
   generalize a.eval i=v at r2;cases r2 with
   |e h1 h2 _=>exact⟨_,h1,h2⟩
  split at he
  ·rename_i b g;split at he
   ·rename_i e0 sz g' c0 d hl;split at he
    ·rename_i hh;obtain⟨rfl,rfl⟩:=hh;simp at he;subst he;obtain⟨kk,kv,m,e1,e2,e3,e4,e5⟩:=BD hc;obtain⟨Gt,_⟩:=ET Gu e1;generalize hv:a.eval x=v at r1 ex;cases r1 with
     |own hK Jp _=>
      obtain⟨_,_,N,q1,q2,_,_⟩:=h.eh b _ (Cc hl h.gs);obtain⟨xs,BS,As,h0,AH⟩:=q1;rw[BS]at e3;simp only[AV.len,AV.int.injEq,true_and]at e3;rcases AH with⟨rfl,_⟩|⟨g9,cap,C,hH,_⟩
      ·simp at e3;omega
      ·refine Ao.pure h (v:= .pointer (some ⟨g9,kv.toNat*P.cellsOf el+0,none⟩)) ?_ (.br hK hH e1 e2 (by omega) .nil) rfl;rw[Jp]at hH;cases hH;rw[ex,Gt,L6 hu hz e2 (by omega)];simp
    ·cases he
   ·rename_i g' c0 hl;split at he
    ·rename_i hh;subst hh;simp at he;subst he;obtain⟨kk,kv,m,e1,e2,e3,e4,e5⟩:=BD hc;obtain⟨Gt,_⟩:=ET Gu e1;generalize hv:a.eval x=v at r1 ex;cases r1 with
     |own hK Jp _=>
      obtain⟨_,⟨f,q1,q2⟩,_,_⟩:=h.eh b _ (Cc hl h.gs);rcases Mp q1 e3 with⟨_,_,_,hm⟩|⟨b9,off9,len9,cap9,hH,hm⟩
      ·omega
      ·rw[Jp]at hH;cases hH;rw[Jp]at q1;refine Ao.pure h (v:= .pointer (some ⟨b9,off9+kv.toNat*P.cellsOf el+0,none⟩)) ?_ (.cj q1 q2 e1 e2 (by omega) e5 .nil) rfl;rw[ex,Gt,L6 hu hz e2 (by omega)];simp
    ·cases he
   ·rename_i e0 sz dl g' ep c0 hl;split at he
    ·rename_i hh;obtain⟨rfl,rfl⟩:=hh;simp at he;subst he;obtain⟨kk,kv,m,e1,e2,e3,e4,e5⟩:=BD hc;obtain⟨Gt,_⟩:=ET Gu e1;generalize hv:a.eval x=v at r1 ex;cases r1 with
     |own hK Jp _=>
      obtain⟨_,_,_,q1,_⟩:=h.eh b _ (Cc hl h.gs);obtain⟨_,_,⟨a9,d3,d4,_⟩|⟨g9,cap,C,ys,N1,hH,d4,_⟩⟩:=q1.inv
      ·rw[d4]at e3;simp[AV.len]at e3;omega
      ·rw[d4]at e3;simp only[AV.len,AV.int.injEq,true_and]at e3;refine Ao.pure h (v:= .pointer (some ⟨g9,kv.toNat*P.cellsOf el+0,none⟩)) ?_ (.br hK hH e1 e2 (by omega) .nil) rfl;rw[Jp]at hH;cases hH;rw[ex,Gt,L6 hu hz e2 (by omega)];simp
    ·cases he
   ·rename_i e0 sz dl g' ep c0 ih oh uh hl;split at he
    ·rename_i hh;obtain⟨rfl,rfl⟩:=hh;simp at he;subst he;obtain⟨kk,kv,m,e1,e2,e3,e4,e5⟩:=BD hc;obtain⟨Gt,_⟩:=ET Gu e1;generalize hv:a.eval x=v at r1 ex;cases r1 with
     |own hK Jp _=>obtain⟨_,_,_,⟨g9,cap,C,ys,_,_,_,_,hH,d4,_⟩,_⟩:=h.eh b _ (Cc hl h.gs);rw[d4]at e3;simp only[AV.len,AV.int.injEq,true_and]at e3;refine Ao.pure h (v:= .pointer (some ⟨g9,kv.toNat*P.cellsOf el+0,none⟩)) ?_ (.br hK hH e1 e2 (by omega) .nil) rfl;rw[Jp]at hH;cases hH;rw[ex,Gt,L6 hu hz e2 (by omega)];simp
    ·cases he
   ·cases he
  ·rename_i y;simp at he;subst he;obtain⟨kk,kv,m,e1,e2,e3,e4,e5⟩:=BD hc;obtain⟨Gt,_⟩:=ET Gu e1;generalize hv:a.eval x=v at r1 ex;cases r1 with
   |e q1 q2 _=>
    rcases Mp q1 e3 with⟨_,_,_,hm⟩|⟨b9,off9,len9,cap9,rfl,hm⟩
    ·omega
    ·refine Ao.pure h (v:= .pointer (some ⟨b9,off9+kv.toNat*P.cellsOf el+0,none⟩)) ?_ (.cj q1 q2 e1 e2 (by omega) e5 .nil) rfl;rw[ex,Gt,L6 hu hz e2 (by omega)];simp
  ·rename_i b g m pth y;split at he
   ·rename_i Oj;simp at he;subst he;have hE:=My h.eh h.gs Oj;obtain⟨kk,kv,mm,e1,e2,e3,e4,e5⟩:=BD hc;obtain⟨Gt,_⟩:=ET Gu e1;generalize hv:a.eval x=v at r1 ex;cases r1 with
    |via q1 q2 q3 _=>
     obtain⟨⟨f,p1,p2⟩,p3⟩:=q3 hE;rcases Mp p1 e3 with⟨_,_,_,hm⟩|⟨b9,off9,len9,cap9,rfl,hm⟩
     ·omega
     ·refine Ao.pure h (v:= .pointer (some ⟨b9,off9+kv.toNat*P.cellsOf el+0,none⟩)) ?_ (.vptr q1 q2 (λ_=>⟨b9,off9,len9,cap9,kk,kv,⟨f,p1,p2⟩,p3,e1,e2,by omega,e5,rfl⟩) .nil) rfl;rw[ex,Gt,L6 hu hz e2 (by omega)];simp
   ·cases he
  ·cases he
 ·rename_i k hu;have NW:=TI hu;obtain⟨fk,Gu,_⟩:∃f,Rd c.w [a.eval i] [k.den c.ρ] f/\ ∀b∈f,c.ok b:=by
   generalize a.eval i=v at r2;cases r2 with
   |e h1 h2 _=>exact⟨_,h1,h2⟩
  split at he
  ·rename_i y;simp at he;subst he;obtain⟨kk,kv,s,e1,e2,e3,e4⟩:=BD hc;obtain⟨Gt,_⟩:=ET Gu e1;generalize hv:a.eval x=v at r1;cases r1 with
   |e q1 q2 _=>
    obtain⟨bs,rfl,rfl,hle⟩:=MQ q1 e2;have AE:kv.toNat<bs.data.toList.length:=by omega
    have Tu:kv.toNat<bs.size:=by simpa using AE
    refine Ao.pure h (v:= .int .u8 (bs[kv.toNat]).toNat) ?_ (.ca ?_) rfl
    ·simp[execOp,NW,Instr.index,hv,Gt,asIntOf,run_underlying hu,e3,Tu]
    ·simp only[E.den,e1,e2,AV.sidx];have:bs.data.toList[kv.toNat]?=some (bs[kv.toNat]):=by
      rw[CS AE];simp[ByteArray.getElem_eq_getElem_data]
     rw[this];refine .int ?_ .nil;rw[Ln];have:=(bs[kv.toNat]).toNat_lt;simp[IntKind.min,IntKind.max,IntKind.signed,IntKind.bits];omega
  ·cases he
 ·cases he
theorem fM(h:A1 P c n nx sl hp a sl0 hp0 o gs){t:TypeId}{x i:Operand}(ho:o.op= .indexAddr t x i)(JD:P.underlying t≠some .string)(he:Bk P sg sl0 hp0 nv nx gs o=some e)(hc:∀q∈e.bu,Cn.den c.ρ q):Ao P o c n nx sl hp gs a e:=by
 simp only[Bk,ho,Ak]at he;obtain⟨s1,Bj,s2,AN,he⟩:=he;split at he
 ·cases he
 exact Yw h (.inl ho) Bj AN (λ_=>ho) (λhh=>absurd hh JD) he hc
theorem iW(h:A1 P c n nx sl hp a sl0 hp0 o gs){t:TypeId}{x i:Operand}(ho:o.op= .index t x i)(JD:P.underlying t=some .string)(he:Bk P sg sl0 hp0 nv nx gs o=some e)(hc:∀q∈e.bu,Cn.den c.ρ q):Ao P o c n nx sl hp gs a e:=by
 simp only[Bk,ho,Ak]at he;obtain⟨s1,Bj,s2,AN,he⟩:=he;split at he
 ·exact Yw h (.inr ho) Bj AN (λ⟨el,hh⟩=>by rw[JD]at hh;cases hh) (λ_=>ho) he hc
 ·cases he
theorem iZ(h:A1 P c n nx sl hp a sl0 hp0 o gs){x:Operand}{i:Nat}(ho:o.op= .extract x i)(he:Bk P sg sl0 hp0 nv nx gs o=some e)(hc:∀q∈e.bu,Cn.den c.ρ q):Ao P o c n nx sl hp gs a e:=by
 have hm:x∈o.op.operands:=by simp[ho,Op.operands]
 simp only[Bk,ho,Ak]at he;obtain⟨s,hs,he⟩:=he;have hr:=h.bz hs hm;generalize hv:a.eval x=v at hr;have ex:∀(as_:List Value) u,v= .tuple as_.toArray->as_[i]?=some u->(execOp a.eval o).run P c.w= .ok (.value u) c.w:=λas_ u TY hu=>by simp[execOp,ho,Instr.extract,hv,TY,hu]
 split at he
 ·rename_i vs;obtain⟨s2,AN,rfl⟩:=Aj.1 he;cases hr with
  |tup r1 r9=>obtain⟨u,hu,r⟩:=r1.get AN;exact Ao.pure h (ex _ u rfl hu) r rfl
 ·rename_i y;simp at he;subst he;cases hr with
  |e q1 q2 _=>
   have hd:(y.den c.ρ).proj i≠ .undef:=BD hc;cases hy:y.den c.ρ<;>simp only[hy,AV.proj,ne_eq,not_true_eq_false]at hd;rename_i cs;obtain⟨as_,rfl,r1⟩:=qT q1 hy;cases LS:cs[i]? with
   |none=>simp[LS]at hd
   |some z=>obtain⟨u,g,hu,hg,CR⟩:=r1.at LS;exact Ao.pure h (ex as_ u rfl hu) (.e (f:=g) (by simpa[E.den,hy,AV.proj,LS]using CR) (λb hb=>q2 b (hg b hb)) .nil) rfl
 ·cases he
theorem oL(h:A1 P c n nx sl hp a sl0 hp0 o gs){x:Operand}{t:TypeId}(ho:o.op= .unOp .not t x)(he:Bk P sg sl0 hp0 nv nx gs o=some e)(hc:∀q∈e.bu,Cn.den c.ρ q):Ao P o c n nx sl hp gs a e:=by
 have hm:x∈o.op.operands:=by simp[ho,Op.operands]
 simp only[Bk,ho,Ak,Aj]at he;obtain⟨s,hs,y,hy,he⟩:=he;obtain⟨f,q1,_⟩:=F8 (h.bz hs hm) hy;split at he
 ·subst he;have hv:=GB q1 rfl;rename_i b;exact Ao.pure h (v:= .bool (!b)) (by simp[execOp,ho,hv,Op.unary]) (.ca (.bool .nil)) rfl
 ·subst he;have hd:(y.den c.ρ).di≠ .undef:=BD hc;cases Be:y.den c.ρ<;>simp only[Be,AV.di,ne_eq,not_true_eq_false]at hd;have hv:=GB q1 Be;rename_i b;exact Ao.pure h (v:= .bool (!b)) (by simp[execOp,ho,hv,Op.unary]) (.ca (by simp only[E.den,Be,AV.di];exact .bool .nil)) rfl
theorem oP(h:A1 P c n nx sl hp a sl0 hp0 o gs){x:Operand}{t:TypeId}(ho:o.op= .unOp .neg t x)(he:Bk P sg sl0 hp0 nv nx gs o=some e)(hc:∀q∈e.bu,Cn.den c.ρ q):Ao P o c n nx sl hp gs a e:=by
 have hm:x∈o.op.operands:=by simp[ho,Op.operands]
 simp only[Bk,ho,Ak,Aj]at he;obtain⟨s,hs,y,hy,rfl⟩:=he;obtain⟨f,q1,_⟩:=F8 (h.bz hs hm) hy;have hd:(y.den c.ρ).fu≠ .undef:=BD hc;cases Be:y.den c.ρ<;>simp only[Be,AV.fu,ne_eq,not_true_eq_false]at hd;rename_i k m;obtain⟨hv,_⟩:=ET q1 Be;exact Ao.pure h (v:= .int k (k.wrap (0-m))) (by simp[execOp,ho,hv,Op.unary,Op.intArith]) (.ca (by simp only[E.den,Be,AV.fu];exact .int (Vq _ _) .nil)) rfl
theorem Zs{L:List Operand}{sl0:Nat->SV}{gs:Gd}(h:∀x s,Bc sl0 gs x=some s->x∈L->SR c [s] [a.eval x]):∀{xs:List Operand} {ss:List SV},(∀x∈xs,x∈L)->xs.mapM (Bc sl0 gs)=some ss->SR c ss (xs.map a.eval)
 | [],ss,_,hm=>by simp at hm;subst hm;exact .nil
 |x::xs,ss,hL,hm=>by rw[List.mapM_cons]at hm;simp only[Option.bind_eq_bind,Ak]at hm;obtain⟨s,hs,ss',E8,hm⟩:=hm;simp at hm;subst hm;exact(h x s hs (hL x (by simp))).app (Zs h (λy hy=>hL y (by simp[hy])) E8)
theorem iA(h:A1 P c n nx sl hp a sl0 hp0 o gs){f:FuncId}{fst caps:Array Operand}(ho:o.op= .makeFunc (.func f) fst caps)(he:Bk P sg sl0 hp0 nv nx gs o=some e):Ao P o c n nx sl hp gs a e:=by
 simp only[Bk,ho]at he;split at he
 ·rename_i hf;obtain⟨ss,E8,rfl⟩:=Aj.1 he;have hf:fst= #[]:=by simpa using hf
  have r:=Zs (a:=a) (c:=c) (L:=caps.toList) (λx s hx hm=>h.bz hx (by simp only[ho,Op.operands,Array.mem_append];exact .inr (Array.mem_toList_iff.1 hm))) (λx hx=>hx) E8;refine Ao.pure h (v:= .func (.func f) #[] (caps.toList.map a.eval).toArray) ?_ (.fn (by rw[Bf.aj];exact r) .nil) rfl;simp[execOp,ho,Instr.makeFunc,hf];apply Array.ext';simp
 ·cases he
end
section
variable {P:Program} {c:Cx} {n nx:Nat} {sl sl0:Nat->SV} {hp hp0:Nat->Option Ab} {a:Act} {o:Oper} {gs:Gd} {e:AO} {sg:Br} {nv:Nat}
theorem A1.gz(h:A1 P c n nx sl hp a sl0 hp0 o gs){x:Operand}{s:SV}(hs:Bc sl0 gs x=some s)(hm:x∈o.op.operands){y:E}(hy:A5 hp0 gs AJ s=some y):
  ∃f,Rd c.w [a.eval x] [y.den c.ρ] f/\ ∀b∈f,c.c9 (Bw hp0 gs (AJ+1) [s]) b:=Gb h.eh h.gs AJ hy (h.bz hs hm) AJ (Ax _)
theorem mE(h:A1 P c n nx sl hp a sl0 hp0 o gs){x:Operand}{t:TypeId}{cl:Call}(ho:o.op= .call cl)(As:cl.callee= .builtin .len)(Ck:cl.args.toList=[x])(CY:cl.argTypes.toList=[t])(he:Bk P sg sl0 hp0 nv nx gs o=some e)(hc:∀q∈e.bu,Cn.den c.ρ q):Ao P o c n nx sl hp gs a e:=by
 have Ai:cl.args= #[x]:=by apply Array.ext';simp[Ck]
 have EE:cl.argTypes= #[t]:=by apply Array.ext';simp[CY]
 have hm:x∈o.op.operands:=by simp[ho,Op.operands,Call.operands,As,Ai]
 simp only[Bk,ho,As,Ck,CY,Ak]at he;obtain⟨s,hs,he⟩:=he;unfold Z4 at he;have ex:(execOp a.eval o).run P c.w=((Builtin.len_ #[t] o.type #[a.eval x]).run P c.w).andThen λv w=> .ok (.value v) w:=by simp[execOp,ho,resolve,As,Ai,EE,invoke,builtin]
 split at he
 ·rename_i el hu;obtain⟨y,hy,rfl⟩:=Aj.1 he;obtain⟨f,q1,q2⟩:=h.gz hs hm hy;have hd:(y.den c.ρ).len≠ .undef:=BD hc;cases Be:y.den c.ρ<;>simp only[Be,AV.len,ne_eq,not_true_eq_false]at hd;rename_i xs;have hl:(y.den c.ρ).len= .int .i64 (xs.length:Int):=by rw[Be];rfl
  have Cm:Eg .i64 (xs.length:Int):=by
   rw[Ln];rcases q1.kind with hh|hh|hh|hh|hh|hh|hh|hh|hh|hh
   all_goals first
    |(obtain⟨_,_,_,hh,_⟩:=hh;rw[Be]at hh;cases hh;done)
    |(obtain⟨_,_,hh,_⟩:=hh;rw[Be]at hh;cases hh;done)
    |skip
   ·obtain⟨_,_,_,hh,_⟩:=hh;rw[Be]at hh;cases hh;simp[IntKind.min,IntKind.max,IntKind.signed,IntKind.bits]
   ·obtain⟨_,_,_,_,_,_,_,_,_,_,_,_,hh,_,_,_,hle,hlen,_⟩:=hh;rw[Be]at hh;cases hh;simp[IntKind.min,IntKind.max,IntKind.signed,IntKind.bits];omega
   all_goals first
    |(obtain⟨_,_,_,hh,_⟩:=hh;rw[Be]at hh;cases hh;done)
    |(obtain⟨_,_,_,_,_,_,_,hh,_⟩:=hh;rw[Be]at hh;cases hh;done)
    |(obtain⟨_,_,_,_,hh,_⟩:=hh;rw[Be]at hh;cases hh;done)
    |(obtain⟨_,hh,_⟩:=hh;rw[Be]at hh;cases hh;done)
  refine Ao.pure h (v:= .int .i64 xs.length) ?_ (.ca (by simp only[E.den,Be,AV.len];exact .int Cm .nil)) rfl;rcases Mp q1 hl with⟨p,q,hv,CZ⟩|⟨b,o',k,q,hv,CZ⟩
  ·rw[ex,hv,CZ];simp[Builtin.len_,run_underlying hu,goInt]
  ·rw[ex,hv,CZ];simp[Builtin.len_,run_underlying hu,goInt]
 ·rename_i hu;obtain⟨y,hy,rfl⟩:=Aj.1 he;obtain⟨f,q1,q2⟩:=h.gz hs hm hy;have hd:(y.den c.ρ).slen≠ .undef:=BD hc;cases Be:y.den c.ρ<;>simp only[Be,AV.slen,ne_eq,not_true_eq_false]at hd;obtain⟨bs,hv,rfl,hle⟩:=MQ q1 Be;refine Ao.pure h (v:= .int .i64 bs.size) ?_ (.ca ?_) rfl
  ·rw[ex,hv];simp[Builtin.len_,run_underlying hu,goInt]
  ·simp only[E.den,Be,AV.slen];have:(bs.data.toList.length:Int)=(bs.size:Int):=by simp
   rw[this];refine .int ?_ .nil;rw[Ln];simp[IntKind.min,IntKind.max,IntKind.signed,IntKind.bits];omega
 ·cases he
theorem iY(h:A1 P c n nx sl hp a sl0 hp0 o gs){x:Operand}{src dst:TypeId}{k0 k:IntKind}(ho:o.op= .convert src dst x)(h1:P.underlying src=some (.int k0))(h2:P.underlying dst=some (.int k))(he:Bk P sg sl0 hp0 nv nx gs o=some e)(hc:∀q∈e.bu,Cn.den c.ρ q):Ao P o c n nx sl hp gs a e:=by
 have hm:x∈o.op.operands:=by simp[ho,Op.operands]
 simp only[Bk,ho,Ak]at he;obtain⟨s,hs,he⟩:=he;simp only[Po,h1,h2,Aj]at he;obtain⟨y,hy,rfl⟩:=he;obtain⟨f,q1,_⟩:=F8 (h.bz hs hm) hy;have hd:(y.den c.ρ).conv k≠ .undef:=BD hc;cases Be:y.den c.ρ<;>simp only[Be,AV.conv,ne_eq,not_true_eq_false]at hd;rename_i k1 m;obtain⟨hv,_⟩:=ET q1 Be;exact Ao.pure h (v:= .int k (k.wrap m)) (by simp[execOp,ho,hv,convert,run_underlying h1,run_underlying h2,Conv.intToInt]) (.ca (by simp only[E.den,Be,AV.conv];exact .int (Vq _ _) .nil)) rfl
theorem gH(h:A1 P c n nx sl hp a sl0 hp0 o gs){x:Operand}{src dst:TypeId}(ho:o.op= .convert src dst x)(h1:P.underlying src=some .string)(h2:P.underlying dst=some .string)(he:Bk P sg sl0 hp0 nv nx gs o=some e)(hc:∀q∈e.bu,Cn.den c.ρ q):Ao P o c n nx sl hp gs a e:=by
 have hm:x∈o.op.operands:=by simp[ho,Op.operands]
 simp only[Bk,ho,Ak]at he;obtain⟨s,hs,he⟩:=he;simp only[Po,h1,h2,Aj]at he;obtain⟨y,hy,rfl⟩:=he;obtain⟨f,q1,_⟩:=F8 (h.bz hs hm) hy;have hd:(y.den c.ρ).slen≠ .undef:=BD hc;cases hl:y.den c.ρ<;>simp only[hl,AV.slen,ne_eq,not_true_eq_false]at hd;obtain⟨bs,hv,hle,Ts⟩:=MQ q1 hl;exact Ao.pure h (v:= .string bs) (by simp[execOp,ho,hv,convert,run_underlying h1,run_underlying h2]) (.ca (by rw[hl,hle];exact Rd.str Ts .nil)) rfl
theorem Z1{w:World}:∀{ys:List AV} {s:List UInt8} {cs:List Value} {f:List Nat},JV ys=some s->Rd w cs (Ar ys) f-> ∃ns:List Int,cs=ns.map (Value.int .u8)/\s=ns.map (λn=>UInt8.ofNat n.toNat)/\ns.length=ys.length
 | [],s,cs,f,h,hr=>by have:Ar ([]:List AV)=[]:=rfl;rw[this]at hr;cases hr;cases h;exact⟨[],rfl,rfl,rfl⟩
 |y::ys,s,cs,f,h,hr=>by
  unfold JV at h;split at h
  ·rename_i h0;cases h0
  ·rename_i n xs he;cases he;obtain⟨s',h1,rfl⟩:=Aj.1 h;have Dd:Rd w cs (.int .u8 n::Ar ys) f:=by simpa[Ar,AV.cells]using hr
   cases Dd with
   |int hk Dy=>obtain⟨ns,rfl,rfl,hl⟩:=Z1 h1 Dy;exact⟨n::ns,rfl,rfl,by simp[hl]⟩
  ·cases h
theorem hF(h:A1 P c n nx sl hp a sl0 hp0 o gs){x:Operand}{src dst el:TypeId}(ho:o.op= .convert src dst x)(h1:P.underlying src=some (.slice el))(h2:P.underlying dst=some .string)(he:Bk P sg sl0 hp0 nv nx gs o=some e)(hc:∀q∈e.bu,Cn.den c.ρ q):Ao P o c n nx sl hp gs a e:=by
 have hm:x∈o.op.operands:=by simp[ho,Op.operands]
 simp only[Bk,ho,Ak]at he;obtain⟨s,hs,he⟩:=he;simp only[Po,h1,h2]at he;split at he
 ·rename_i hu;obtain⟨y,hy,rfl⟩:=Aj.1 he;obtain⟨f,q1,q2⟩:=h.gz hs hm hy;have hd:(y.den c.ρ).text≠ .undef:=BD hc;cases Be:y.den c.ρ<;>simp only[Be,AV.text,ne_eq,not_true_eq_false]at hd;rename_i xs;split at hd
  ·rename_i t ht;split at hd
   ·rename_i hle;have BN:(E.text y).den c.ρ= .str t:=by
     simp only[E.den,Be,AV.text,ht];rw[if_pos hle]
    have fin:∀ns:List Int,t=ns.map (λn=>UInt8.ofNat n.toNat)->ns.length=xs.length->(convert src dst (a.eval x)).run P c.w= .ok (.string (ns.foldl (λr n=>r.push (UInt8.ofNat n.toNat)) ByteArray.empty)) c.w->Ao P o c n nx sl hp gs a {bu:=[.dfd (.text y)],val:= .e (.text y)}:=λns e1 e2 e3=>by
     have e4:(ns.foldl (λr n=>r.push (UInt8.ofNat n.toNat)) ByteArray.empty)=⟨t.toArray⟩:=by
      rw[foldl_push_bytes,e1];simp[ByteArray.empty,ByteArray.emptyWithCapacity]
      try rfl
     rw[e4]at e3;refine Ao.pure h (v:= .string ⟨t.toArray⟩) (by simp[execOp,ho,e3]) (.ca ?_) rfl;rw[BN];have BK:(ByteArray.mk t.toArray).size<=9223372036854775807:=by simp only[ByteArray.size,List.size_toArray];rw[e1,List.length_map];omega
     have:=Rd.str (w:=c.w) (s:=⟨t.toArray⟩) BK .nil;simpa using this
    rw[Be]at q1;rcases q1.kind with hh|hh|hh|hh|hh|hh|hh|hh|hh|hh
    all_goals first
     |(obtain⟨_,_,_,hh,_⟩:=hh;cases hh;done)
     |(obtain⟨_,_,hh,_⟩:=hh;cases hh;done)
     |skip
    ·obtain⟨p,q,hv,hx,_⟩:=hh;cases hx;cases ht;refine fin [] rfl rfl ?_;rw[hv];cases p with
     |none=>rw[run_convert_bytes_nil c.w src el h1 hu _ _ dst h2];rfl
     |some ad=>rw[run_convert_bytes_string c.w src dst el _ 0 q h1 hu h2,run_bytesToString c.w ad 0 q [] (by simp[loadCells,loadCellsFrom])]
    ·obtain⟨b,o',k,q,ys,cs,C,t',fz,sz,f1,hv,hx,_,hb,_,cM,hlen,_,_,Bg,hr⟩:=hh;cases hx;obtain⟨ns,rfl,e1,e2⟩:=Z1 ht hr.2;refine fin ns e1 e2 ?_;have hl:ns.length=k:=by omega
     have BL:∀i,i<k->c.w.cell? ⟨b,o'+i,none⟩=some (.int .u8 (ns.getD i 0)):=λi hi=>by
      have HW:i<ns.length:=by omega
      have:=Bg i (.int .u8 ns[i]) (by simp[HW]);rw[DZ hb,this];simp[HW]
     have:=run_convert_bytes_arg c.w src el h1 hu b o' k q ns hl BL dst h2;rw[hv,this];congr 2;rw[foldl_push_bytes];simp[strOfNums,ByteArray.empty,ByteArray.emptyWithCapacity]
     try rfl
    all_goals first
     |(obtain⟨_,_,_,hh,_⟩:=hh;cases hh;done)
     |(obtain⟨_,_,_,_,_,_,_,hh,_⟩:=hh;cases hh;done)
     |(obtain⟨_,_,_,_,hh,_⟩:=hh;cases hh;done)
     |(obtain⟨_,hh,_⟩:=hh;cases hh;done)
   ·exact absurd rfl hd
  ·exact absurd rfl hd
 ·cases he
theorem YM{ρ:List AV}{x:E}{b:Bool}{gs:Gd}(h1:x.den ρ= .bool b)(h2:A0 ρ gs):A0 ρ ((x,b)::gs):=by
 intro g hg;rcases Ac.1 hg with rfl|hg
 ·exact h1
 ·exact h2 g hg
theorem lU(h:A1 P c n nx sl hp a sl0 hp0 o gs){x y z:Operand}(ho:o.op= .pick x y z)(he:Bk P sg sl0 hp0 nv nx gs o=some e)(hc:∀q∈e.bu,Cn.den c.ρ q):Ao P o c n nx sl hp gs a e:=by
 have Dc:x∈o.op.operands:=by simp[ho,Op.operands]
 have CQ:y∈o.op.operands:=by simp[ho,Op.operands]
 have W1:z∈o.op.operands:=by simp[ho,Op.operands]
 simp only[Bk,ho,Ak]at he;obtain⟨s,hs,he⟩:=he;have hr:=h.bz hs Dc;split at he
 ·rename_i q;have ex:∀b,a.eval x= .bool b->(execOp a.eval o).run P c.w= .ok (.value (if b then a.eval y else a.eval z)) c.w:=λb hb=>by
   simp[execOp,ho,hb,asBool]
  obtain⟨f,q1⟩:∃f,Rd c.w [a.eval x] [q.den c.ρ] f:=by
   generalize a.eval x=v at hr;cases hr with
   |e h1 _ _=>exact⟨_,h1⟩
  unfold ZL at he;split at he
  ·obtain⟨s',AY,rfl⟩:=Aj.1 he;exact Ao.pure h (v:=a.eval y) (ex true (GB q1 rfl)) (h.bz AY CQ) rfl
  ·obtain⟨s',AY,rfl⟩:=Aj.1 he;exact Ao.pure h (v:=a.eval z) (ex false (GB q1 rfl)) (h.bz AY W1) rfl
  ·split at he
   ·rename_i y' z' hy hz;simp at he;subst he;simp only[Ak]at hy hz;obtain⟨sy,dI,hy⟩:=hy;obtain⟨sz,BK,hz⟩:=hz;have hd:(q.den c.ρ).di≠ .undef:=BD hc;cases hq:q.den c.ρ<;>simp only[hq,AV.di,ne_eq,not_true_eq_false]at hd;rename_i b;cases b with
    |true=>have r:=QZ (a:=a) dI (λt ht=>by subst ht;rw[h.sl t CQ];exact h.rel.cb t) (YM hq h.gs);obtain⟨f',g1,g2⟩:=F8 r hy;exact Ao.pure h (v:=a.eval y) (ex true (GB q1 hq)) (.e (f:=f') (by simpa[E.den,hq,AV.cond]using g1) g2 .nil) rfl
    |false=>have r:=QZ (a:=a) BK (λt ht=>by subst ht;rw[h.sl t W1];exact h.rel.cb t) (YM hq h.gs);obtain⟨f',g1,g2⟩:=F8 r hz;exact Ao.pure h (v:=a.eval z) (ex false (GB q1 hq)) (.e (f:=f') (by simpa[E.den,hq,AV.cond]using g1) g2 .nil) rfl
   ·cases he
 ·cases he
end
section
variable {P:Program} {c:Cx} {n nx:Nat} {sl sl0:Nat->SV} {hp hp0:Nat->Option Ab} {a:Act} {o:Oper} {gs:Gd} {e:AO} {sg:Br} {nv:Nat}
theorem UJ{w:World}{v:Value}{x:AV}{f:List Nat}(h:Rd w [v] [x] f)(h1:∀cs,x≠ .agg cs)(h2:∀cs,x≠ .tup cs):v.oneCell'=true:=by
 cases h<;>first
  |rfl
  |exact absurd rfl (h1 _)
  |exact absurd rfl (h2 _)
theorem one_cells{v:Value}(h:v.oneCell'=true):v.cells= #[v]:=by cases v<;>first|rfl|(simp[Value.oneCell']at h)
theorem Rq{t:TypeId}{s:SV}{v:Value}{cs:List SV}{ck:List Cn}(h:SR c [s] [v])(hc:MC P t s=some (cs,ck))(hk:∀q∈ck,q.den c.ρ):
  SR c cs v.cells.toList/\(∀u∈v.cells.toList,u.oneCell'=true):=by
 unfold MC at hc;split at hc
 ·split at hc
  ·simp at hc;obtain⟨rfl,rfl⟩:=hc;cases h with
   |agg h1 h2 _=>exact⟨by simpa[Value.cells]using h2,by simpa[Value.cells]using h1⟩
  ·rename_i x;simp at hc;obtain⟨rfl,rfl⟩:=hc;cases h with
   |e h1 h2 _=>
    obtain⟨as_,has,hl⟩:=BD hk;obtain⟨vs,rfl,h3,h4⟩:=HH h1 has;refine⟨?_,by simpa[Value.cells]using h3⟩;have hlen:=h4.len;have key:∀k,k<=as_.length->SR c ((List.range k).map λj=>SV.e (.fld x j 1 false)) (vs.take k):=by
     intro k
     induction k with
     |zero=>intro _;simpa using SR.nil
     |succ k ih=>
      intro hk;have BJ:k<as_.length:=by omega
      obtain⟨u,g,hu,hg,hr⟩:=h4.at (show as_[k]?=some as_[k] by simp[BJ])
      rw[List.range_succ,List.map_append,List.take_succ_eq_append_getElem (by omega)];refine(ih (by omega)).app ?_;have EF:vs[k]'(by omega)=u:=by simpa[show k<vs.length by omega]using hu
      rw[EF];exact .e (f:=g) (by simpa[E.den,AV.fld,has,AV.cells,BJ]using hr) (λb hb=>h2 b (hg b hb)) .nil
    have:=key as_.length (Ax _);rw[<-hlen,List.take_length,hlen,hl]at this;simpa[Value.cells]using this
  ·cases hc
 ·split at hc
  ·rename_i x;simp at hc;obtain⟨rfl,rfl⟩:=hc;cases h with
   |e h1 h2 _=>
    have hq:(∀cs,x.den c.ρ≠ .agg cs)/\ ∀cs,x.den c.ρ≠ .tup cs:=by
     cases x<;>first
      |exact(BD hk:Cn.den c.ρ (.cells _ 1))
      |exact⟨by simp[E.den],by simp[E.den]⟩
    have Na:=UJ h1 hq.1 hq.2;rw[one_cells Na];exact⟨.e h1 h2 .nil,by simpa using Na⟩
  ·cases hc
  ·cases hc
  ·cases hc
  ·cases hc
  ·cases hc
  ·cases hc
  ·cases hc
  ·cases hc
  ·simp at hc;obtain⟨rfl,rfl⟩:=hc;have Na:v.oneCell'=true:=by
    cases h<;>first|rfl|(rename_i hh _ _ _ _ _;exact absurd rfl (hh _))|skip
    all_goals first
     |rfl
     |exact(show∀(i:Nat),SV.lent _=SV.lent i->False from by assumption) _ rfl|>.elim
     |exact(show∀(t g n:Nat) (p:Ki) (x:E),SV.via _ _ _ _ _=SV.via t g n p x->False from by assumption) _ _ _ _ _ rfl|>.elim
     |exact(show∀(t g n:Nat) (p:Ki) (x i:E) (sz o:Nat),SV.vptr _ _ _ _ _ _ _ _=SV.vptr t g n p x i sz o->False from by assumption) _ _ _ _ _ _ _ _ rfl|>.elim
     |(exfalso;simp_all;done)
   rw[one_cells Na];exact⟨h,by simpa using Na⟩
theorem pW(h:A1 P c n nx sl hp a sl0 hp0 o gs)(ob:Obj)(hv:Value):Kc c (c.new nx ob hv []) nx:=
 ⟨rfl,rfl,rfl,rfl,λt ht=>ht.imp id (λhh=>by subst hh;exact⟨Ax _,by simp[Bl]⟩)⟩
theorem JY(h:A1 P c n nx sl hp a sl0 hp0 o gs): ¬c.U nx:=h.new nx (Ax _) (by omega)
theorem Ao.box(h:A1 P c n nx sl hp a sl0 hp0 o gs){ty:TypeId}{g:Bool}{cs:List SV}{v:Value}{ck:List Cn}(hr:(execOp a.eval o).run P c.w= .ok (.value (.pointer (some ⟨c.w.heap.size,0,none⟩))) (c.w.alloc (.cells v.cells ty)))
  (hs:SR c cs v.cells.toList) (h1:∀u∈v.cells.toList,u.oneCell'=true):Ao P o c n nx sl hp gs a {bu:=ck,val:= .bj nx 0,au:=[(nx,Cj gs (.box ty g cs))]}:=by
 intro next Q hk
 unfold Oper.wp;rw[hr,Oper.upon_value];have hU:=JY h;have keep:C6 c (c.new nx (.cells v.cells ty) (.pointer (some ⟨c.w.heap.size,0,none⟩)) []):=Cx.en (λg hg=>hU (h.rel.az _ _ hg));have hH:(c.new nx (.cells v.cells ty) (.pointer (some ⟨c.w.heap.size,0,none⟩)) []).H nx 0= .pointer (some ⟨c.w.heap.size,0,none⟩):=by simp[Cx.new]
 have hK:(c.new nx (.cells v.cells ty) (.pointer (some ⟨c.w.heap.size,0,none⟩)) []).K nx 0:= .inr ⟨rfl,rfl⟩;have hrel:=h.rel.new hU (.cells v.cells ty) (.pointer (some ⟨c.w.heap.size,0,none⟩)) (.box ty g cs) gs h.gs (by intros;simp)
  ⟨c.w.heap.size,v.cells,hK,hH,by simp[Cx.new],by simp[Cx.new],heap_alloc_new _ _,h1,hs.keep keep⟩
 exact hk _ _ (pW h _ _) (hrel.put ((SR.bj hK hH .nil).mkGd gs h.gs) o.dst)
theorem kY(h:A1 P c n nx sl hp a sl0 hp0 o gs){t:TypeId}(ho:o.op= .alloc t)(he:Bk P sg sl0 hp0 nv nx gs o=some e)(hc:∀q∈e.bu,Cn.den c.ρ q):Ao P o c n nx sl hp gs a e:=by
 simp only[Bk,ho,Ak]at he;obtain⟨z,⟨i,hi,hz⟩,s,hs,⟨cs,ck⟩,Bg,he⟩:=he;split at he
 ·cases he
 ·split at he
  ·cases he
  ·rename_i Kt;have Kt:ck=[]:=by simpa using Kt
   simp at he;subst he;have AY:D5 z=some s:=by simpa[ZR,hi,hz]using hs
   obtain⟨q1,q2⟩:=Rq (Rw (c:=c) AY) Bg (by simp[Kt]);refine Ao.box h (v:=z) ?_ q1 q2;simp[execOp,ho,Instr.alloc,zeroValue,typeInfo,hi,hz,newVar,newRow]
theorem oN(h:A1 P c n nx sl hp a sl0 hp0 o gs){t:TypeId}{x:Operand}(ho:o.op= .box t x)(he:Bk P sg sl0 hp0 nv nx gs o=some e)(hc:∀q∈e.bu,Cn.den c.ρ q):Ao P o c n nx sl hp gs a e:=by
 have hm:x∈o.op.operands:=by simp[ho,Op.operands]
 simp only[Bk,ho,Ak]at he;obtain⟨s,hs,⟨cs,ck⟩,Bg,he⟩:=he;split at he
 ·cases he
 ·simp at he;subst he;obtain⟨q1,q2⟩:=Rq (h.bz hs hm) Bg hc;refine Ao.box h (v:=a.eval x) ?_ q1 q2;simp[execOp,ho,Instr.box,newVar,newRow]
end
section
variable {P:Program} {c:Cx} {n nx:Nat} {sl sl0:Nat->SV} {hp hp0:Nat->Option Ab} {a:Act} {o:Oper} {gs:Gd} {e:AO} {sg:Br} {nv:Nat}
def setVs{α:Type}(cs:List α)(o:Nat)(vs:List α):List α:=cs.take o++vs++cs.drop (o+vs.length)
theorem Ml{α:Type}(cs vs:List α)(o:Nat)(h:o+vs.length<=cs.length)(i:Nat):(setVs cs o vs)[i]?=if o<=i/\i<o+vs.length then vs[i-o]? else cs[i]?:=by
 unfold setVs;have ht:(cs.take o).length=o:=by rw[AU];omega
 rw[List.append_assoc];by_cases h1:i<o
 ·rw[if_neg (by omega),List.getElem?_append_left (by omega),List.getElem?_take,if_pos h1]
 ·rw[List.getElem?_append_right (by omega),ht];by_cases h2:i<o+vs.length
  ·rw[if_pos (by omega),List.getElem?_append_left (by omega)]
  ·rw[if_neg (by omega),List.getElem?_append_right (by omega),List.getElem?_drop];congr 1;omega
theorem Mh{α:Type}(cs vs:List α)(o:Nat)(h:o+vs.length<=cs.length):(setVs cs o vs).length=cs.length:=by simp[setVs];omega
theorem SR.setVs{cs vs:List SV}{C V:List Value}{k:Nat}(h:SR c cs C)(hv:SR c vs V):SR c (MT cs k vs) (Go.Proofs.Yteeafhlnofapaaa.setVs C k V):=by unfold MT Go.Proofs.Yteeafhlnofapaaa.setVs;have hl:=hv.len;rw[<-hl];exact((h.split k).1.app hv).app (h.split _).2
theorem Y2(vs:List Value):∀(k off:Nat) (C:Array Value),off+k+vs.length<=C.size->
  ((vs.zipIdx k).foldl (λcs (p:Value × Nat)=>cs.setIfInBounds (off+p.2) p.1) C).toList=setVs C.toList (off+k) vs:=by
 induction vs with
 |nil=>intro k off C _;simp[setVs]
 |cons v vs ih=>
  intro k off C h;simp only[AQ]at h;simp only[List.zipIdx_cons,List.foldl_cons];rw[ih (k+1) off _ (by simp;omega)];apply List.ext_getElem?;intro i;rw[Ml _ _ _ (by simp;omega),Ml _ _ _ (by simp;omega)];simp only[Array.toList_setIfInBounds,List.getElem?_set,AQ,BF];by_cases h1:i=off+k
  ·subst h1;rw[if_neg (by omega),if_pos rfl,if_pos (by omega),if_pos (by omega)];simp
  ·by_cases h2:off+(k+1)<=i/\i<off+(k+1)+vs.length
   ·rw[if_pos h2,if_pos (by omega),show i-(off+k)=(i-(off+(k+1)))+1 by omega,List.getElem?_cons_succ]
   ·rw[if_neg h2,if_neg (by omega),if_neg (by omega)]
theorem UM{b off:Nat}{t:TypeId}:∀(vs:List Value) (i:Nat) (w:World) (C:Array Value),w.heap[b]?=some (.cells C t (0,0))->off+i+vs.length<=C.size->(∀v∈vs,v.oneCell'=true)->
  (storeCells ⟨b,off,none⟩ vs i).run P w= .ok () (putCells w b (off+i) vs)
 | [],i,w,C,_,_,_=>by simp[storeCells,putCells]
 |v::vs,i,w,C,hb,hl,h1=>by
  simp only[AQ]at hl;have hi:off+i<C.size:=by omega
  have BL:w.cell? ⟨b,off+i,none⟩=some C[off+i]:=by simp[World.cell?,hb,hi]
  have Ta:w.frozen? ⟨b,off+i,none⟩=false:=by simp[World.frozen?,hb]
  have IN:(store ((⟨b,off,none⟩:Addr).add i) v).run P w= .ok () (w.setCell ⟨b,off+i,none⟩ v):=by rw[Addr.add_lit,run_store P w _ v _ (h1 v (by simp)),BL];simp[Ta]
  have h2:=heap_setCell_same w b (off+i) C t v hb;have ih:=UM (off:=off) vs (i+1) (w.setCell ⟨b,off+i,none⟩ v) _ h2 (by simp;omega) (λx hx=>h1 x (by simp[hx]));simp only[storeCells,Sem.run_bind,IN,Result.andThen_ok,ih,putCells];rw[Nat.add_assoc]
theorem Q9{w:World}{b off:Nat}{t:TypeId}{vs:List Value}{C:Array Value}(hb:w.heap[b]?=some (.cells C t (0,0)))(hl:off+vs.length<=C.size):
  Mod [b] w (putCells w b off vs)/\(putCells w b off vs).heap[b]?=some (.cells (setVs C.toList off vs).toArray t (0,0))/\(putCells w b off vs).heap.size=w.heap.size:=by
 obtain⟨hm,C',h1,h2,h3,h4⟩:=Ux vs w b off C t hb hl;refine⟨hm,?_,?_⟩
 ·rw[h1];congr 2;apply Array.ext';apply List.ext_getElem?;intro i;rw[Ml _ _ _ (by simpa using hl)];by_cases hi:off<=i/\i<off+vs.length
  ·rw[if_pos hi];have AE:i-off<vs.length:=by omega
   have:=h3 (i-off) vs[i-off] (by simp[AE]);rw[show off+(i-off)=i by omega]at this;rw[Array.getElem?_toList,this];simp[AE]
  ·rw[if_neg hi,Array.getElem?_toList,Array.getElem?_toList];exact h4 i (by omega)
 ·clear hm h1 h2 h3 h4 hl
  induction vs generalizing w off C with
  |nil=>rfl
  |cons v vs ih=>simp only[putCells];rw[ih (heap_setCell_same w b off C t v hb)];simp[World.setCell]
theorem UI{w:World}{b off:Nat}{t ty:TypeId}{v:Value}{C:Array Value}(hb:w.heap[b]?=some (.cells C ty (0,0)))(ht:CE P t=true)(hs:v.cells.size=P.cellsOf t)(hl:off+v.cells.size<=C.size)(h1:∀u∈v.cells.toList,u.oneCell'=true):
  (Instr.storeAt t (.pointer (some ⟨b,off,none⟩)) v).run P w= .ok () (putCells w b off v.cells.toList):=by
 have:=UM (P:=P) (off:=off) v.cells.toList 0 w C hb (by simpa using hl) h1;simp only[Nat.add_zero]at this;simp[Instr.storeAt,Instr.sureAddr,storeVar,Ld ht,hs,this]
def Cx.wr(c:Cx)(w':World)(t:Nat):Cx:={c with w:=w',E:=λu=>if u=t then c.E u+1 else c.E u}
theorem Cx.ff{c:Cx}{w':World}{t b:Nat}(gw:GW c)(BU:b∈(c.G t).top)(hm:Mod [b] c.w w'):C6 c (c.wr w' t):=by
 have A9:b∈(c.G t).own:=by simp[GI.own,BU]
 refine⟨rfl,rfl,λq _ hq=>hq,λq hq AF=>hm.block q hq ?_,λu g hu=>⟨hu,rfl⟩,λu g hu=> ?_⟩
 ·simp only[List.mem_singleton];rintro rfl;exact AF.1 ⟨t,BU⟩
 ·by_cases Fj:u=t
  ·have e1:(c.wr w' t).E u=c.E u+1:=by simp only[Cx.wr,if_pos Fj]
   exact⟨by omega,λh=>by omega⟩
  ·have e1:(c.wr w' t).E u=c.E u:=by simp only[Cx.wr,if_neg Fj]
   rw[e1];refine⟨Ax _,λ_=>⟨rfl,λq hq GQ=>hm.block q GQ ?_⟩⟩;simp only[List.mem_singleton];rintro rfl;exact gw.bm t u (Ne.symm Fj) q A9 (by simp[GI.own,hq])
theorem Rel.write(h:Rel c n sl hp a){t:Nat}{e0:Ab}{b:Nat}{w':World}(AK:B9 c.ρ (hp t) e0)(BU:b∈(c.G t).top)(hm:Mod [b] c.w w')(BK:w'.heap.size=c.w.heap.size)(e1:Ab)(BE:∀hs f,e1≠ .gd hs f)
  (he:CF (c.wr w' t) t e1):Rel (c.wr w' t) n sl (AT hp [(t,e1)]) a/\C6 c (c.wr w' t):=by
 have A9:b∈(c.G t).own:=by simp[GI.own,BU]
 have By:C6 c (c.wr w' t):=Cx.ff h.gw BU hm;have Df:∀u,AT hp [(t,e1)] u=if u=t then some e1 else hp u:=λu=>rfl;refine⟨h.change (λu=>u=t) By ⟨hm.os.trans h.base.os,hm.tape.trans h.base.tape,hm.output.trans h.base.output,Nat.le_trans h.base.size hm.size,h.base.pins,λq hq E1=> ?_,h.base.pk,h.base.lo⟩
  (λu hu=>⟨by rw[Df,if_neg hu],rfl,by simp[Cx.wr,hu],λg hg=>hg⟩) (λu hu q hq=>hm.block q (h.gw.inb u q (by simp[GI.own,hq])) ?_) (λu hu=> ?_) ⟨h.gw.nodup,h.gw.bm,h.gw.allow,λu q hq=> ?_⟩ h.az (λu f hf=> ?_),By⟩
 ·refine(hm.block q (Nat.lt_of_lt_of_le hq h.base.size) ?_).trans (h.base.block q hq E1);simp only[List.mem_singleton];rintro rfl;rcases h.gw.allow t q A9 with hh|hh
  ·exact absurd hh (Nat.not_le.2 hq)
  ·exact E1 hh
 ·simp only[List.mem_singleton];rintro rfl;exact h.gw.bm t u (Ne.symm hu) q A9 (by simp[GI.own,hq])
 ·subst hu;rw[Df,if_pos rfl];refine⟨λe' hr=> ?_,λhn=> ?_⟩
  ·cases e1<;>first
    |(simp only[B9]at hr;subst hr;exact he)
    |exact absurd rfl (BE _ _)
  ·cases e1<;>first
    |exact absurd rfl (BE _ _)
    |exact absurd rfl (hn _)
 ·show q<w'.heap.size;rw[BK];exact h.gw.inb u q hq
 ·rw[Df]at hf;split at hf
  ·rename_i hu;subst hu;cases hh:hp u with
   |none=>rw[hh]at AK;exact AK.elim
   |some e9=>exact h.bw u e9 hh
  ·exact h.bw u f hf
end
section
variable {P:Program} {c:Cx} {n nx:Nat} {sl sl0:Nat->SV} {hp hp0:Nat->Option Ab} {a:Act} {o:Oper} {gs:Gd} {e:AO} {sg:Br} {nv:Nat}
theorem iD(h:A1 P c n nx sl hp a sl0 hp0 o gs){t:TypeId}{x y:Operand}(ho:o.op= .store t x y){b k:Nat}{s:SV}(hx:Bc sl0 gs x=some (.bj b k))(hy:Bc sl0 gs y=some s)
  (he:JZ P hp0 gs t (.bj b k) s=some e) (hc:∀q∈e.bu,Cn.den c.ρ q):Ao P o c n nx sl hp gs a e:=by
 have r1:=h.bz hx (by simp[ho,Op.operands]);have r2:=h.bz hy (by simp[ho,Op.operands]);simp only[JZ]at he;split at he
 ·rename_i ty g cs vs ck hl Bg;split at he
  ·rename_i hh;obtain⟨AX,hlen,hle,rfl⟩:=hh;simp at he;subst he;obtain⟨q1,q2⟩:=Rq r2 Bg hc;generalize hv:a.eval x=v at r1;cases r1 with
   |bj h1 h2 h3=>
    rename_i q;have En:=Cc hl h.gs;obtain⟨q',C,e1,e2,e3,e4,e5,e5',e6⟩:=h.eh b _ En;rw[h2]at e2;cases e2;have AK:B9 c.ρ (hp b) (.box ty g cs):=by
     cases hh:hp0 b with
     |none=>rw[hh]at En;exact En.elim
     |some e9=>rw[h.hp b e9 hh];rwa[hh]at En
    have KH:=e6.len;have Tq:=q1.len;obtain⟨m1,m2,m3⟩:=Q9 (vs:=(a.eval y).cells.toList) e5 (show k+_<=C.size by simp at KH Tq ⊢;omega);obtain⟨hrel,By⟩:=h.rel.write AK (by rw[e3];simp) m1 m3 (.box ty g (MT cs k vs)) (by intros;simp) (w':=putCells c.w q k (a.eval y).cells.toList) (by
     have BJ:C6 c (c.wr (putCells c.w q k (a.eval y).cells.toList) b):=Cx.ff h.rel.gw (by rw[e3];simp) m1;refine⟨q,_,e1,h2,e3,e4,m2,?_,?_⟩
     ·intro u hu;simp only[List.toList_toArray]at hu;unfold setVs at hu;simp only[Ae]at hu;rcases hu with(hu|hu)|hu
      ·exact e5' u (BA hu)
      ·exact q2 u hu
      ·exact e5' u (B2 hu)
     ·simpa using(e6.setVs q1 (k:=k)).keep BJ)
    intro next Q hk
    unfold Oper.wp;have hr:(execOp a.eval o).run P c.w= .ok .skip (putCells c.w q k (a.eval y).cells.toList):=by have:=UI (P:=P) (t:=t) (v:=a.eval y) (off:=k) e5 AX (by simp at Tq;omega) (by simp at KH Tq;omega) q2;simp[execOp,ho,hv,this]
    rw[hr,Oper.upon_skip];exact hk _ (c.wr (putCells c.w q k (a.eval y).cells.toList) b) ⟨rfl,rfl,rfl,rfl,λt ht=> .inl ht⟩ (hrel.put ((SR.undef .nil).mkGd []) o.dst)
  ·cases he
 ·cases he
theorem Y9{places:List (Nat × Nat)}{tys:List TypeId}:∀(ps:List (Nat × SV)) (vs:List (Nat × Value)) (cs:List SV) (C:Array Value) (r:List SV × List Cn),PI P places tys ps cs=some r->(∀q∈r.2,q.den c.ρ)->
  ps.map (·.1)=vs.map (·.1)->SR c (ps.map (·.2)) (vs.map (·.2))->SR c cs C.toList->(∀u∈C.toList,u.oneCell'=true)->
  ∃C',Instr.fill (places.toArray[·]?) C vs=some C'/\SR c r.1 C'.toList/\ ∀u∈C'.toList,u.oneCell'=true
 | [],vs,cs,C,r,h,hk,he,_,hC,h1=>by
  have:vs=[]:=by simpa using he.symm
  subst this;simp[PI]at h;subst h;exact⟨C,rfl,hC,h1⟩
 |(i,s)::ps,[],cs,C,r,h,hk,he,_,hC,h1=>by simp at he
 |(i,s)::ps,(j,v)::vs,cs,C,r,h,hk,he,hs,hC,h1=>by
  simp only[List.map_cons,List.cons.injEq]at he;obtain⟨rfl,he⟩:=he;simp only[List.map_cons]at hs;obtain⟨Bj,AN⟩:=hs.bd;unfold PI at h;split at h
  ·rename_i off sz t FE AX;split at h
   ·rename_i us ck Bg;split at h
    ·rename_i hh;obtain⟨BK,hle⟩:=hh;obtain⟨r',Dd,rfl⟩:=Aj.1 h;obtain⟨q1,q2⟩:=Rq Bj Bg (λq hq=>hk q (by simp[hq]));have IG:=q1.len;have Qd:=hC.len;have Jt:(v.cells.zipIdx.foldl (λcs (p:Value × Nat)=>cs.setIfInBounds (off+p.2) p.1) C).toList=setVs C.toList off v.cells.toList:=by
      have:=Y2 v.cells.toList 0 off C (by simp at IG Qd ⊢;omega);rw[<-Array.foldl_toList,Array.toList_zipIdx];simpa using this
     obtain⟨C',g1,g2,g3⟩:=Y9 ps vs (MT cs off us) (v.cells.zipIdx.foldl (λcs (p:Value × Nat)=>cs.setIfInBounds (off+p.2) p.1) C) r' Dd (λq hq=>hk q (by simp[hq])) he AN (by rw[Jt];exact hC.setVs q1) (by
      rw[Jt];intro u hu;unfold setVs at hu;simp only[Ae]at hu;rcases hu with(hu|hu)|hu
      ·exact h1 u (BA hu)
      ·exact q2 u hu
      ·exact h1 u (B2 hu))
     refine⟨C',?_,g2,g3⟩;unfold Instr.fill;have TL:places.toArray[i]?=some (off,sz):=by simpa using FE
     simp only[TL];rw[if_neg (by simp at IG Qd ⊢;omega)];exact g1
    ·cases h
   ·cases h
  ·cases h
theorem Rp{sl0:Nat->SV}{gs:Gd}(L:List Operand)(h:∀x s,Bc sl0 gs x=some s->x∈L->SR c [s] [a.eval x]):∀{xs:List (Nat × Operand)} {ss:List (Nat × SV)},(∀x∈xs,x.2∈L)->xs.mapM (λ(p:Nat × Operand)=>(Bc sl0 gs p.2).map λs=>(p.1,s))=some ss->
  ss.map (·.1)=xs.map (·.1)/\SR c (ss.map (·.2)) (xs.map λp=>a.eval p.2)
 | [],ss,_,hm=>by simp at hm;subst hm;exact⟨rfl, .nil⟩
 |x::xs,ss,hL,hm=>by rw[List.mapM_cons]at hm;simp only[Option.bind_eq_bind,Ak,Aj]at hm;obtain⟨_,⟨s,hs,rfl⟩,ss',E8,hm⟩:=hm;simp at hm;subst hm;obtain⟨e1,e2⟩:=Rp L h (λy hy=>hL y (by simp[hy])) E8;exact⟨by simp[e1],(h _ s hs (hL x (by simp))).app e2⟩
theorem kS(h:A1 P c n nx sl hp a sl0 hp0 o gs){t:TypeId}{parts:Array (Nat × Operand)}(ho:o.op= .build t parts)(he:Bk P sg sl0 hp0 nv nx gs o=some e)(hc:∀q∈e.bu,Cn.den c.ρ q):Ao P o c n nx sl hp gs a e:=by
 simp only[Bk,ho,Ak]at he;obtain⟨ps,JF,he⟩:=he;obtain⟨e1,e2⟩:=Rp (c:=c) (a:=a) (parts.toList.map (·.2)) (λx s hx hm=>h.bz hx (by simpa[ho,Op.operands]using hm)) (λx hx=>List.mem_map.2 ⟨x,hx,rfl⟩) JF;unfold Y1 at he;split at he
 ·rename_i it fs Qc hu;split at he
  ·rename_i zs places hz FE;obtain⟨r,hr,rfl⟩:=Aj.1 he;obtain⟨z,Qt,dV⟩:=Ak.1 hz;have Xj:=Rw (c:=c) dV;obtain⟨cells,g1,g2,g3⟩:=Y9 (c:=c) (P:=P) ps (parts.toList.map λp=>(p.1,a.eval p.2)) zs.toList z.cells r hr hc (by rw[e1];simp) (by rw[List.map_map];exact e2)
    (by cases Xj with|agg h1 h2 _=>simpa[Value.cells]using h2) (by cases Xj with|agg h1 h2 _=>simpa[Value.cells]using h1)
   have hb:P.built t (parts.map λ(x:Nat × Operand)=>(x.1,a.eval x.2)).toList=some cells:=by simp only[Program.built,Qc,hu,Qt,FE];simpa using g1
   have:=SR.agg (c:=c) (cs:=Bf.of r.1) (as_:=cells.toList) g3 (by rw[Bf.aj];exact g2) .nil;refine Ao.pure h (v:= .agg cells) ?_ (by simpa using this) rfl;have Aw:=run_build c.w t _ cells hb;simp only[execOp,ho,Sem.run_bind];rw[Aw];rfl
  ·cases he
 ·cases he
end
section
variable {P:Program} {c:Cx} {n nx:Nat} {sl sl0:Nat->SV} {hp hp0:Nat->Option Ab} {a:Act} {o:Oper} {gs:Gd} {e:AO} {sg:Br} {nv:Nat}
def Cx.a6(c:Cx)(ts:List Nat):Cx:={c with G:=λu=>if u∈ts then⟨[],[]⟩else c.G u,E:=λu=>if u∈ts then c.E u+1 else c.E u}
theorem Cx.ga{c:Cx}{ts:List Nat}{b:Nat}(h:(c.a6 ts).M b):∃u,u∉ts/\b∈(c.G u).top:=by
 obtain⟨u,hu⟩:=h;simp only[Cx.a6]at hu;split at hu
 ·simp at hu
 ·exact⟨u,by assumption,hu⟩
theorem Cx.dh{c:Cx}{ts:List Nat}{b:Nat}(h:c.ok b):(c.a6 ts).ok b:=⟨λhm=>by obtain⟨u,_,hu⟩:=Cx.ga hm;exact h.1 ⟨u,hu⟩,h.2⟩
theorem Cx.gm(c:Cx)(ts:List Nat):C6 c (c.a6 ts):=⟨rfl,rfl,λ_ _ h=>Cx.dh h,λ_ _ _=>rfl,λ_ _ h=>⟨h,rfl⟩,λt g _=>by
 by_cases ht:t∈ts
 ·have e1:(c.a6 ts).E t=c.E t+1:=by simp only[Cx.a6,if_pos ht]
  exact⟨by omega,λh=>by omega⟩
 ·have e1:(c.a6 ts).E t=c.E t:=by simp only[Cx.a6,if_neg ht]
  have e2:(c.a6 ts).G t=c.G t:=by simp only[Cx.a6,if_neg ht]
  rw[e1];exact⟨Ax _,λ_=>⟨e2,λ_ _ _=>rfl⟩⟩⟩
theorem Zp{c:Cx}(gw:GW c){ts us:List Nat}(hs:∀t∈us,t∈ts){b:Nat}(h:c.c9 us b):(c.a6 ts).ok b:=by
 rcases h with h|⟨t,ht,hb⟩
 ·exact Cx.dh h
 ·have A9:b∈(c.G t).own:=by simp[GI.own,hb]
  refine⟨λhm=> ?_, .inr (gw.allow t b A9)⟩;obtain⟨u,hu,Gn⟩:=Cx.ga hm;have:t≠u:=λhh=>hu (hh▸hs t ht);exact gw.bm t u this b A9 (by simp[GI.own,Gn])
def I6(e:Ab)(g:Nat)(x:E):Prop:=(∃ety sz d,e= .row ety sz g x d)\/ ∃ety sz l ep,e= .deep ety sz l g ep x
theorem I6.ne{e:Ab}{g:Nat}{x:E}(h:I6 e g x):∀hs f,e≠ .gd hs f:=by rcases h with⟨_,_,_,rfl⟩|⟨_,_,_,_,rfl⟩<;>intros<;>simp
theorem I6.rd{e:Ab}{g t:Nat}{x:E}(h:I6 e g x)(k:CF c t e):c.K t g/\ ∃f,Rd c.w [c.H t g] [x.den c.ρ] f/\ ∀b∈f,b∈(c.G t).top\/c.ok b:=by
 rcases h with⟨_,_,_,rfl⟩|⟨_,_,_,_,rfl⟩
 ·obtain⟨q1,q2,N,q3,q4,_⟩:=k;obtain⟨f,r1,r2,_⟩:=q3.rd;exact⟨q1,f,r1,λb hb=>(r2 b hb).imp id (q4 b)⟩
 ·obtain⟨q1,q2,_,q3,_⟩:=k;obtain⟨f,r1,r2⟩:=q3.rd;exact⟨q1,f,r1,λb hb=> .inl (r2 b hb)⟩
theorem I6.fun{e:Ab}{g g':Nat}{x x':E}(h:I6 e g x)(k:I6 e g' x'):g=g'/\x=x':=by rcases h with⟨_,_,_,rfl⟩|⟨_,_,_,_,rfl⟩<;>rcases k with⟨_,_,_,hh⟩|⟨_,_,_,_,hh⟩<;>cases hh<;>exact⟨rfl,rfl⟩
theorem Lb{gs:Gd}{ρ:List AV}(k:A0 ρ gs):∀{ts:List Nat} {l:List (Nat × Ab)},C3 hp0 gs ts=some l->
  (∀t e,(t,e)∈l->t∈ts/\gs=[]/\ ∃g x f,e= .a6 g x/\B9 ρ (hp0 t) f/\I6 f g x)/\
  (∀t∈ts,(∃g x,(t,Ab.a6 g x)∈l)\/(∃g x,B9 ρ (hp0 t) (.a6 g x))\/ ∃ty g cs,B9 ρ (hp0 t) (.box ty g cs))
 | [],l,h=>by simp[C3]at h;subst h;simp
 |t::ts,l,h=>by
  unfold C3 at h;split at h
  ·rename_i ety sz g x d l' hl Bd;split at h
   ·rename_i hg;simp at h;subst h;obtain⟨h1,h2⟩:=Lb k Bd;refine⟨λu e hu=> ?_,λu hu=> ?_⟩
    ·rcases Ac.1 hu with hu|hu
     ·cases hu;exact⟨by simp,by simpa using hg,g,x,_,rfl,Cc hl k, .inl ⟨_,_,_,rfl⟩⟩
     ·obtain⟨p,q,r⟩:=h1 u e hu;exact⟨by simp[p],q,r⟩
    ·rcases Ac.1 hu with rfl|hu
     ·exact .inl ⟨g,x,by simp⟩
     ·rcases h2 u hu with⟨g',x',hh⟩|hh
      ·exact .inl ⟨g',x',by simp[hh]⟩
      ·exact .inr hh
   ·cases h
  ·rename_i ety sz dl g ep x l' hl Bd;split at h
   ·rename_i hg;simp at h;subst h;obtain⟨h1,h2⟩:=Lb k Bd;refine⟨λu e hu=> ?_,λu hu=> ?_⟩
    ·rcases Ac.1 hu with hu|hu
     ·cases hu;exact⟨by simp,by simpa using hg,g,x,_,rfl,Cc hl k, .inr ⟨_,_,_,_,rfl⟩⟩
     ·obtain⟨p,q,r⟩:=h1 u e hu;exact⟨by simp[p],q,r⟩
    ·rcases Ac.1 hu with rfl|hu
     ·exact .inl ⟨g,x,by simp⟩
     ·rcases h2 u hu with⟨g',x',hh⟩|hh
      ·exact .inl ⟨g',x',by simp[hh]⟩
      ·exact .inr hh
   ·cases h
  ·rename_i g x l' hl Bd;simp at h;subst h;obtain⟨h1,h2⟩:=Lb k Bd;refine⟨λu e hu=> ?_,λu hu=> ?_⟩
   ·obtain⟨p,q,r⟩:=h1 u e hu;exact⟨by simp[p],q,r⟩
   ·rcases Ac.1 hu with rfl|hu
    ·exact .inr (.inl ⟨g,x,Cc hl k⟩)
    ·exact h2 u hu
  ·rename_i ty g cs l' hl Bd;simp at h;subst h;obtain⟨h1,h2⟩:=Lb k Bd;refine⟨λu e hu=> ?_,λu hu=> ?_⟩
   ·obtain⟨p,q,r⟩:=h1 u e hu;exact⟨by simp[p],q,r⟩
   ·rcases Ac.1 hu with rfl|hu
    ·exact .inr (.inr ⟨ty,g,cs,Cc hl k⟩)
    ·exact h2 u hu
  ·cases h
theorem I0{hp:Nat->Option Ab}:∀{l:List (Nat × Ab)} {t:Nat},(∀e,(t,e)∉l)->AT hp l t=hp t
 | [],_,_=>rfl
 |(u,e)::l,t,h=>by
  have ht:t≠u:=by rintro rfl;exact h e (by simp)
  have:=I0 (hp:=λv=>if v=u then some e else hp v) (l:=l) (t:=t) (λe' D3=>h e' (by simp[D3]));simp only[AT,List.foldl_cons]at this ⊢;rw[this,if_neg ht]
theorem Vy{hp:Nat->Option Ab}:∀{l:List (Nat × Ab)} {t:Nat} {e:Ab},(t,e)∈l->(∀e',(t,e')∈l->e'=e)->AT hp l t=some e
 | [],_,_,h,_=>by simp at h
 |(u,f)::l,t,e,h,hu=>by
  simp only[AT,List.foldl_cons];by_cases hm:∃e',(t,e')∈l
  ·obtain⟨e',D3⟩:=hm;have:=hu e' (by simp[D3]);subst this;exact Vy (hp:=λv=>if v=u then some f else hp v) D3 (λe'' aV=>hu e'' (by simp[aV]))
  ·have hn:∀e',(t,e')∉l:=λe' D3=>hm ⟨e',D3⟩;have:=I0 (hp:=λv=>if v=u then some f else hp v) (l:=l) (t:=t) hn;simp only[AT]at this;rw[this];rcases Ac.1 h with h|h
   ·cases h;simp
   ·exact absurd h (hn e)
theorem I4(hs:∀t e,hp0 t=some e->hp t=some e){ρ:List AV}{t:Nat}{e:Ab}(h:B9 ρ (hp0 t) e):B9 ρ (hp t) e:=by
 cases hh:hp0 t with
 |none=>rw[hh]at h;exact h.elim
 |some e9=>rw[hs t e9 hh];rwa[hh]at h
theorem oY{ρ:List AV}{o:Option Ab}{e f:Ab}(h:B9 ρ o e)(k:B9 ρ o f):e=f:=by
 cases o with
 |none=>exact h.elim
 |some o=>
  cases o with
  |gd gs x=>exact h.2.symm.trans k.2
  |box=>exact h.symm.trans k
  |row=>exact h.symm.trans k
  |a6=>exact h.symm.trans k
  |dead=>exact h.symm.trans k
  |deep=>exact h.symm.trans k
  |hol=>exact h.symm.trans k
  |pre=>exact h.symm.trans k
theorem Rel.freeze(h:Rel c n sl hp a)(hs:∀t e,hp0 t=some e->hp t=some e)(k:A0 c.ρ gs){ts:List Nat}{l:List (Nat × Ab)}(hf:C3 hp0 gs ts=some l):
  Rel (c.a6 (l.map (·.1))) n sl (AT hp l) a:=by
 obtain⟨h1,h2⟩:=Lb k hf;have hG:∀u,(c.a6 (l.map (·.1))).G u=if u∈l.map (·.1)then⟨[],[]⟩else c.G u:=λu=>rfl;have Hz:∀t e e',(t,e)∈l->(t,e')∈l->e'=e:=by intro t e e' he D3;obtain⟨_,_,g,x,_,rfl,r,rl⟩:=h1 t e he;obtain⟨_,_,g',x',_,rfl,r',rl'⟩:=h1 t e' D3;have:=oY r r';subst this;obtain⟨rfl,rfl⟩:=rl.fun rl';rfl
 refine h.change (λu=>u∈l.map (·.1)) (Cx.gm c _) ⟨h.base.os,h.base.tape,h.base.output,h.base.size,h.base.pins,h.base.block,h.base.pk,h.base.lo⟩ (λu hu=>⟨I0 (λe he=>hu (List.mem_map.2 ⟨_,he,rfl⟩)),by rw[hG,if_neg hu],by simp only[Cx.a6,if_neg hu],λg hg=>hg⟩) (λu hu b hb=>rfl) (λu hu=> ?_) ?_ h.az (λu e hu=> ?_)
 ·obtain⟨⟨u',e⟩,he,rfl⟩:=List.mem_map.1 hu;have Df:=Vy (hp:=hp) he (λe' D3=>Hz _ _ _ he D3);obtain⟨_,_,g,x,f0,rfl,r,rl⟩:=h1 u' e he;obtain⟨q1,f,r1,r2⟩:=rl.rd (h.ents u' _ (I4 hs r));have ID:((c.a6 (l.map (·.1))).G u').top=[]/\((c.a6 (l.map (·.1))).G u').O=[]:=by rw[hG,if_pos hu];simp
  rw[Df];refine⟨λe' hr=> ?_,λ_=>ID⟩;have:e'= .a6 g x:=hr.symm;subst this;exact⟨q1,⟨f,r1,λb hb=>by
   refine Zp h.gw (ts:=l.map (·.1)) (us:=[u']) (by simpa using hu) ?_;rcases r2 b hb with hb|hb
   ·exact .inr ⟨u',by simp,hb⟩
   ·exact .inl hb⟩,ID.1,ID.2⟩
 ·refine⟨λu=> ?_,λu v TX b hb=> ?_,λu b hb=> ?_,λu b hb=> ?_⟩
  ·rw[hG];split
   ·simp[GI.own]
   ·exact h.gw.nodup u
  ·rw[hG]at hb ⊢;split at hb
   ·simp[GI.own]at hb
   ·split
    ·simp[GI.own]
    ·exact h.gw.bm u v TX b hb
  ·rw[hG]at hb;split at hb
   ·simp[GI.own]at hb
   ·exact h.gw.allow u b hb
  ·rw[hG]at hb;split at hb
   ·simp[GI.own]at hb
   ·exact h.gw.inb u b hb
 ·by_cases hm:∃e',(u,e')∈l
  ·obtain⟨e',D3⟩:=hm;obtain⟨_,_,g,x,f0,rfl,r,rl⟩:=h1 u e' D3;have r':=I4 hs r;cases hh:hp u with
   |none=>rw[hh]at r';exact r'.elim
   |some e9=>exact h.bw u e9 hh
  ·rw[I0 (λe' D3=>hm ⟨e',D3⟩)]at hu;exact h.bw u e hu
theorem jZ{ts:List Nat}(h:Kb hp0 gs ts=true){t:Nat}(ht:t∈ts){ty:Nat}{g:Bool}{cs:List SV}:Cw hp0 gs t≠some (.box ty g cs):=by intro hl;simp only[Kb,Bn,List.any_eq_false]at h;have:=h t ht;rw[hl]at this;simp at this
theorem iH{ρ:List AV}(k:A0 ρ gs){ts:List Nat}{l:List (Nat × Ab)}(hf:C3 hp0 gs ts=some l){t:Nat}(ht:t∈ts):(∃g x,(t,Ab.a6 g x)∈l)\/(∃g x,Cw hp0 gs t=some (.a6 g x))\/ ∃ty g cs,Cw hp0 gs t=some (.box ty g cs):=by
 induction ts generalizing l with
 |nil=>simp at ht
 |cons u ts ih=>
  unfold C3 at hf;split at hf
  ·rename_i ety sz g x d l' hl Bd;split at hf
   ·simp at hf;subst hf;rcases Ac.1 ht with rfl|ht
    ·exact .inl ⟨g,x,by simp⟩
    ·rcases ih Bd ht with⟨g',x',hh⟩|hh
     ·exact .inl ⟨g',x',by simp[hh]⟩
     ·exact .inr hh
   ·cases hf
  ·rename_i ety sz dl g ep x l' hl Bd;split at hf
   ·simp at hf;subst hf;rcases Ac.1 ht with rfl|ht
    ·exact .inl ⟨g,x,by simp⟩
    ·rcases ih Bd ht with⟨g',x',hh⟩|hh
     ·exact .inl ⟨g',x',by simp[hh]⟩
     ·exact .inr hh
   ·cases hf
  ·rename_i g x l' hl Bd;simp at hf;subst hf;rcases Ac.1 ht with rfl|ht
   ·exact .inr (.inl ⟨g,x,hl⟩)
   ·exact ih Bd ht
  ·rename_i ty g cs l' hl Bd;simp at hf;subst hf;rcases Ac.1 ht with rfl|ht
   ·exact .inr (.inr ⟨ty,g,cs,hl⟩)
   ·exact ih Bd ht
  ·cases hf
theorem O4(h:Rel c n sl hp a)(eh:EH c hp0)(k:A0 c.ρ gs){ts:List Nat}{l:List (Nat × Ab)}(hf:C3 hp0 gs ts=some l)(hb:Kb hp0 gs ts=true){b:Nat}(hs:c.c9 ts b):(c.a6 (l.map (·.1))).ok b:=by
 rcases hs with hs|⟨t,ht,Ce⟩
 ·exact Cx.dh hs
 ·rcases iH k hf ht with⟨g,x,hh⟩|⟨g,x,hh⟩|⟨ty,g,cs,hh⟩
  ·exact Zp h.gw (us:=[t]) (by simpa using⟨_,hh⟩) (.inr ⟨t,by simp,Ce⟩)
  ·obtain⟨_,_,BU,_⟩:=eh t _ (Cc hh k);rw[BU]at Ce;simp at Ce
  ·exact absurd hh (jZ hb ht)
theorem XN(h:Rel c n sl hp a)(hs:∀t e,hp0 t=some e->hp t=some e)(k:A0 c.ρ gs){t:TypeId}{s:SV}{v:Value}(hr:SR c [s] [v]){x:E}{fz:List (Nat × Ab)}{d:Bool}{ck:List Cn}(ht:R9 P hp0 gs t s=some (x,fz,d,ck))(hc:∀q∈ck,q.den c.ρ):
  ∃f,Rd c.w [v] [x.den c.ρ] f/\(d=true->f=[])/\(∃ts,C3 hp0 gs ts=some fz/\ ∀b∈f,(c.a6 (fz.map (·.1))).ok b)/\
   (if Ag P t then∃cs,x.den c.ρ= .agg cs/\cs.length=P.cellsOf t else(∀cs,x.den c.ρ≠ .agg cs)/\ ∀cs,x.den c.ρ≠ .tup cs):=by
 have eh:EH c hp0:=λt e hr=>h.ents t e (I4 hs hr);unfold R9 at ht;split at ht
 ·cases ht
 ·rename_i y hy;obtain⟨f,q1,q2⟩:=Gb eh k AJ hy hr AJ (Ax _);split at ht
  ·simp at ht;obtain⟨rfl,rfl,rfl,rfl⟩:=ht;obtain⟨c1,c2,c3,c4⟩:=BD hc;have hf:f=[]:=by
    cases hg:Ag P t with
    |true=>obtain⟨cs,Bg⟩:=c3 hg;obtain⟨as_,rfl,_,r⟩:=HH q1 Bg;exact F9 r (by rw[Bg]at c2;exact c2)
    |false=>exact F9 q1 (by simpa using c4 hg)
   subst hf;refine⟨[],q1,λ_=>rfl,⟨[],rfl,by simp⟩,?_⟩;split
   ·rename_i hg;obtain⟨cs,Bg⟩:=c3 hg;exact⟨cs,Bg,by rw[Bg]at c1;exact c1⟩
   ·rename_i hg;have:=c4 (by simpa using hg);exact⟨λcs Bg=>by rw[Bg]at this;simp[AV.scalar]at this,λcs Bg=>by rw[Bg]at this;simp[AV.scalar]at this⟩
  ·split at ht
   ·rename_i Gx;split at ht
    ·cases ht
    ·rename_i l hl;simp only[Aa,AB]at ht;obtain⟨rfl,rfl,rfl,rfl⟩:=ht;refine⟨f,q1,by simp,⟨_,hl,λb hb=>O4 h eh k hl Gx (q2 b hb)⟩,?_⟩;have hq:=BD hc;unfold aC at hq;split
     ·rename_i hg;rw[if_pos hg]at hq;obtain⟨cs,Bg,hl⟩:=hq;exact⟨cs,Bg,hl⟩
     ·rename_i hg;rw[if_neg hg]at hq;exact hq
   ·cases ht
end
section
variable {P:Program} {c:Cx} {n nx:Nat} {sl sl0:Nat->SV} {hp hp0:Nat->Option Ab} {a:Act} {o:Oper} {gs:Gd} {e:AO} {sg:Br} {nv:Nat}
theorem VO(w:World)(t ty el:TypeId)(i:TypeInfo)(z:Value)(ht:P.underlying t=some (.slice el))(hi:P.info? el=some i)(hz:i.zero=some z)(Du:z.cells.size=i.size)(BK:0<i.size)
  (Own:Nat->Prop) (v:Value) (k:Nat) (old:List Value) (ho:old.length=k*i.size)
  (CB:(k=0/\ ∃q,v= .slice q 0 0)\/ ∃g cap C,v= .slice (some ⟨g,0,none⟩) k cap/\k<=cap/\cap<=maxLen/\w.heap[g]?=some (.cells C el (0,0))/\C.size=cap*i.size/\old=C.toList.take (k*i.size)/\Own g)
  (q:Option Addr) (m r:Nat) (news:List Value) (hs:Src w i.size q m news) (P2:k+m<=maxLen) (hb:(k+m)*i.bytes<=140737488355328):
  ∃v' w',(Builtin.append_ #[t,t] ty #[v, .slice q m r]).run P w= .ok v' w'/\
   ((v'=v/\w'=w/\m=0)\/ ∃g cap C,v'= .slice (some ⟨g,0,none⟩) (k+m) cap/\k+m<=cap/\cap<=maxLen/\w'.heap[g]?=some (.cells C el (0,0))/\C.size=cap*i.size/\C.toList.take ((k+m)*i.size)=old++news/\
    w.grownBy w' (some g)/\((g=w.heap.size/\g<w'.heap.size)\/Own g)):=by
 have Qg:news.length=m*i.size:=by
  rcases hs with⟨rfl,rfl,rfl⟩|⟨ad,rfl,h1,_⟩
  ·simp
  ·exact h1
 have hlen:(old++news).length=(k+m)*i.size:=by rw[AZ,ho,Qg,Nat.add_mul]
 have grown:∀(cp:Nat),cp<k+m-> ∀(X:Array Value),X.toList=old++news-> ∃C,C=X++Builtin.zeroCells z.cells (grownCap w (k+m) cp el-(k+m))/\
   k+m<=grownCap w (k+m) cp el/\grownCap w (k+m) cp el<=maxLen/\C.size=grownCap w (k+m) cp el*i.size/\C.toList.take ((k+m)*i.size)=old++news:=by
  intro cp rX X hX;have Qb:=grownCap_ge w (k+m) cp el;have IA:=grownCap_le_maxLen w (k+m) cp el P2;refine⟨_,rfl,Qb,IA,?_,?_⟩
  ·have bL:X.size=(k+m)*i.size:=by rw[<-BF,hX,hlen]
   rw[Array.size_append,bL,size_zeroCells,Du,<-Nat.add_mul];congr 1;omega
  ·rw[Array.toList_append,hX,<-hlen];exact List.take_left
 have newb:∀C:Array Value,w.grownBy (w.drew.alloc (.cells C el)) (some w.heap.size)/\w.heap.size<(w.drew.alloc (.cells C el)).heap.size/\(w.drew.alloc (.cells C el)).heap[w.heap.size]?=some (.cells C el (0,0)):=
  λC=>⟨⟨rfl,rfl,rfl,by simp,λj hj _=>Below.heap_alloc w.drew _ _ hj⟩,by simp,heap_alloc_new w.drew _⟩
 rcases CB with⟨rfl,p,rfl⟩|⟨g,cap,C,rfl,TC,IA,hg,Bg,hold,SD⟩
 ·have hold:old=[]:=List.eq_nil_of_length_eq_zero (by simpa using ho);subst hold;by_cases hm:m=0
  ·subst hm;have hn:news=[]:=List.eq_nil_of_length_eq_zero (by simpa using Qg);subst hn;refine⟨_,w,?_, .inl ⟨rfl,rfl,rfl⟩⟩;rcases hs with⟨rfl,_,_⟩|⟨ad,rfl,_⟩<;>cases p<;>
    simp[Builtin.append_,run_underlying ht,sizeOf,typeInfo,hi,Builtin.lenOf,Builtin.firstCells,loadCells,loadCellsFrom,storeCells]
  ·rcases hs with⟨_,rfl,_⟩|⟨ad,rfl,h1,h2,h3⟩
   ·exact absurd rfl hm
   ·obtain⟨C',LN,g1,g2,g3,g4⟩:=grown 0 (by omega) news.toArray (by simp);cases p with
    |none=>have hr:=run_append_nil (P:=P) w t ty el i z ht hi hz ad m r news h1 h2 (by omega) (by simp only[maxLen]at P2;omega) (by have hb:=hb;simp only[Nat.zero_add]at hb;omega);simp only[Nat.zero_add]at g1 g2 g3 g4 LN ⊢;obtain⟨n1,n2,n3⟩:=newb C';refine⟨_,_,hr, .inr ⟨_,_,C',rfl,g1,g2,?_,g3,g4,?_, .inl ⟨rfl,?_⟩⟩⟩<;>rw[<-LN]<;>first|exact n3|exact n1|exact n2
    |some p=>have hr:=run_append_grow (P:=P) w t ty el i z ht hi hz p 0 0 [] (by simp) (by simp) ad m r news h1 h2 (by omega) (by simp only[maxLen]at P2;omega) (growslice_fits (by omega) hb);rw[show(([]:List Value).toArray++news.toArray)=news.toArray by simp]at hr;simp only[Nat.zero_add]at g1 g2 g3 g4 LN hr ⊢;obtain⟨n1,n2,n3⟩:=newb C';refine⟨_,_,hr, .inr ⟨_,_,C',rfl,g1,g2,?_,g3,g4,?_, .inl ⟨rfl,?_⟩⟩⟩<;>rw[<-LN]<;>first|exact n3|exact n1|exact n2
 ·rcases hs with⟨rfl,rfl,rfl⟩|⟨ad,rfl,h1,h2,h3⟩
  ·refine⟨_,w,?_, .inl ⟨rfl,rfl,rfl⟩⟩;simp[Builtin.append_,run_underlying ht,sizeOf,typeInfo,hi,Builtin.lenOf,Builtin.firstCells,TC,storeCells]
  ·by_cases Cu:k+m<=cap
   ·have S8:k*i.size+news.length<=C.size:=by rw[h1,Bg,<-Nat.add_mul];exact Bo _ Cu
    have hr:=run_append_room (P:=P) w t ty el i ht hi g k cap C hg ad m r news h1 h2 h3 Cu S8;refine⟨_,_,hr, .inr ⟨g,cap,_,rfl,Cu,IA,setRow_heap w g C _ el _ hg,?_,?_,⟨rfl,rfl,rfl,by simp,λj _ hj=>setRow_other w g j _ (λhh=>hj (by rw[hh]))⟩, .inr SD⟩⟩
    ·simp only[List.size_toArray,AZ,AU,Dv,BF];omega
    ·rw[<-hold,<-hlen];exact List.take_left
   ·have holds:∀j u,old[j]?=some u->w.cell? ((⟨g,0,none⟩:Addr).add j)=some u:=λj u hu=>by
     rw[Addr.add_lit,Nat.zero_add,DZ hg];rw[hold,List.getElem?_take]at hu;split at hu
     ·simpa using hu
     ·cases hu
    have hr:=run_append_grow (P:=P) w t ty el i z ht hi hz ⟨g,0,none⟩ k cap old ho holds ad m r news h1 h2 (by omega) (by simp only[maxLen]at P2;omega) (growslice_fits (by omega) hb);obtain⟨C',LN,g1,g2,g3,g4⟩:=grown cap (by omega) (old.toArray++news.toArray) (by simp);obtain⟨n1,n2,n3⟩:=newb C';refine⟨_,_,hr, .inr ⟨_,_,C',rfl,g1,g2,?_,g3,g4,?_, .inl ⟨rfl,?_⟩⟩⟩<;>rw[<-LN]<;>first|exact n3|exact n1|exact n2
def Cx.ao(c:Cx)(t g':Nat)(w':World)(v:Value)(top O:List Nat):Cx:=
 {c with w:=w',G:=λu=>if u=t then⟨top,O⟩else c.G u,K:=λu g=>c.K u g\/(u=t/\g=g'),H:=λu g=>if u=t/\g=g' then v else c.H u g,U:=λu=>c.U u\/u=t,E:=λu=>if u=t then c.E u+1 else c.E u}
theorem Rel.ao(h:Rel c n sl hp a){t g:Nat}(DO:c.A.pin t=none\/g≠0)(AM: ¬c.K t g){w':World}{row:Option Nat}(hg:c.w.grownBy w' row)
  (D9:∀g0,row=some g0->g0∈(c.G t).top\/(g0=c.w.heap.size/\g0<w'.heap.size)) {top O:List Nat} (BU:top=[]\/ ∃g0,row=some g0/\top=[g0]) (hO:O=[]\/O=(c.G t).O) {v:Value} (e1:Ab) (BE:∀hs f,e1≠ .gd hs f) (k:A0 c.ρ gs)
  (he:C6 c (c.ao t g w' v top O)->CF (c.ao t g w' v top O) t e1):Rel (c.ao t g w' v top O) n sl (AT hp [(t,Cj gs e1)]) a:=by
 have hG:∀u,(c.ao t g w' v top O).G u=if u=t then⟨top,O⟩else c.G u:=λu=>rfl;have hM:∀b,(c.ao t g w' v top O).M b->c.M b\/row=some b:=by
  rintro b ⟨u,hu⟩;rw[hG]at hu;split at hu
  ·rcases BU with rfl|⟨g0,hr,rfl⟩
   ·simp at hu
   ·simp at hu;subst hu;exact .inr hr
  ·exact .inl ⟨u,hu⟩
 have NF:∀b,b<c.w.heap.size->c.ok b->row≠some b:=by
  intro b hb AF hr;rcases D9 b hr with hh|⟨hh,_⟩
  ·exact AF.1 ⟨t,hh⟩
  ·omega
 have By:C6 c (c.ao t g w' v top O):=by
  refine⟨rfl,rfl,λb hb AF=>⟨λhm=>(hM b hm).elim AF.1 (NF b hb AF),AF.2⟩,λb hb AF=>hg.block b hb (λhh=>NF b hb AF hh.symm),λu g1 hu=>⟨.inl hu,?_⟩,λu g1 hu=> ?_⟩
  ·simp only[Cx.ao];rw[if_neg];rintro⟨rfl,rfl⟩;exact AM hu
  ·by_cases Fj:u=t
   ·have e1:(c.ao t g w' v top O).E u=c.E u+1:=by simp only[Cx.ao,if_pos Fj]
    exact⟨by omega,λh=>by omega⟩
   ·have e1:(c.ao t g w' v top O).E u=c.E u:=by simp only[Cx.ao,if_neg Fj]
    have e2:(c.ao t g w' v top O).G u=c.G u:=by simp only[Cx.ao,if_neg Fj]
    rw[e1];refine⟨Ax _,λ_=>⟨e2,λb hb FW=>hg.block b FW λhh=> ?_⟩⟩;rcases D9 b hh.symm with h1|⟨h1,_⟩
    ·exact h.gw.bm u t Fj b (by simp[GI.own,hb]) (by simp[GI.own,h1])
    ·omega
 have Df:∀u,AT hp [(t,Cj gs e1)] u=if u=t then some (Cj gs e1)else hp u:=λu=>rfl;have KN:∀u,u≠t-> ∀b∈(c.G u).own,row≠some b:=by
  intro u hu b hb hr;rcases D9 b hr with hh|⟨hh,_⟩
  ·exact h.gw.bm u t hu b hb (by simp[GI.own,hh])
  ·have:=h.gw.inb u b hb;omega
 have Bu:∀b∈(⟨top,O⟩:GI).own,row=some b\/b∈(c.G t).own:=by
  intro b hb;simp only[GI.own,Ae]at hb ⊢;rcases hb with hb|hb
  ·rcases BU with rfl|⟨g0,hr,rfl⟩
   ·simp at hb
   ·simp at hb;subst hb;exact .inl hr
  ·rcases hO with rfl|rfl
   ·simp at hb
   ·exact .inr (.inr hb)
 refine h.change (λu=>u=t) By ⟨hg.os.trans h.base.os,hg.tape.trans h.base.tape,hg.output.trans h.base.output,Nat.le_trans h.base.size hg.size,λu v' hp=>⟨.inl (h.base.pins u v' hp).1,λhk=> ?_⟩,λb hb E1=> ?_,h.base.pk,h.base.lo⟩
  (λu hu=>⟨by rw[Df,if_neg hu],by rw[hG,if_neg hu],by simp[Cx.ao,hu],λg1 hh=>hh.resolve_right (λhh=>hu hh.1)⟩) (λu hu b hb=>hg.block b (h.gw.inb u b (by simp[GI.own,hb])) (λhh=>KN u hu b (by simp[GI.own,hb]) hh.symm)) (λu hu=> ?_) ?_ (λu g1 hh=> ?_) (λu f hf=> ?_)
 ·have Fj: ¬(u=t/\0=g):=by
   rintro⟨rfl,rfl⟩;rcases DO with hh|hh
   ·have hp':c.A.pin u=some v':=hp;rw[hh]at hp';cases hp'
   ·exact hh rfl
  have BJ:=hk.resolve_right Fj;simp only[Cx.ao];rw[if_neg Fj];exact(h.base.pins u v' hp).2 BJ
 ·refine(hg.block b (Nat.lt_of_lt_of_le hb h.base.size) (λhh=> ?_)).trans (h.base.block b hb E1);rcases D9 b hh.symm with hh|⟨hh,_⟩
  ·rcases h.gw.allow t b (by simp[GI.own,hh])with h1|h1
   ·exact absurd h1 (Nat.not_le.2 hb)
   ·exact E1 h1
  ·have:=h.base.size;have h9:b<c.w0.heap.size:=hb;omega
 ·subst hu;rw[Df,if_pos rfl];exact⟨λe' hr=>by rw[(Mn k BE).1 hr];exact he By,λhn=>absurd ((Mn k BE).2 rfl) (hn e1)⟩
 ·have BP:(⟨top,O⟩:GI).own.Nodup:=by
   have h0:=h.gw.nodup t;simp only[GI.own]at h0 ⊢;rw[List.nodup_append]at h0 ⊢;refine⟨by rcases BU with rfl|⟨g0,hr,rfl⟩<;>simp,by rcases hO with rfl|rfl;simp;exact h0.2.1,λp hp q hq=> ?_⟩;rcases BU with rfl|⟨g0,hr,rfl⟩
   ·simp at hp
   ·simp at hp;subst hp;rcases hO with rfl|rfl
    ·simp at hq
    ·rcases D9 p hr with hh|⟨hh,_⟩
     ·exact h0.2.2 p hh q hq
     ·have:=h.gw.inb t q (by simp[GI.own,hq]);omega
  refine⟨λu=> ?_,λu u' IT b hb=> ?_,λu b hb=> ?_,λu b hb=> ?_⟩
  ·rw[hG];split
   ·exact BP
   ·exact h.gw.nodup u
  ·rw[hG]at hb ⊢;by_cases h1:u=t
   ·rw[if_pos h1]at hb;rw[if_neg (λhh=>IT (h1.trans hh.symm))];rcases Bu b hb with hr|hb
    ·exact λhh=>KN u' (λh2=>IT (h1.trans h2.symm)) b hh hr
    ·exact h.gw.bm t u' (λhh=>IT (h1.trans hh)) b hb
   ·rw[if_neg h1]at hb;by_cases h2:u'=t
    ·rw[if_pos h2];intro Bt;rcases Bu b Bt with hr|Bt
     ·exact KN u h1 b hb hr
     ·exact h.gw.bm u t h1 b hb Bt
    ·rw[if_neg h2];exact h.gw.bm u u' IT b hb
  ·rw[hG]at hb;split at hb
   ·rcases Bu b hb with hr|hb
    ·rcases D9 b hr with hh|⟨hh,_⟩
     ·exact h.gw.allow t b (by simp[GI.own,hh])
     ·exact .inl (by rw[hh];exact h.base.size)
    ·exact h.gw.allow t b hb
   ·exact h.gw.allow u b hb
  ·rw[hG]at hb;show b<w'.heap.size;split at hb
   ·rcases Bu b hb with hr|hb
    ·rcases D9 b hr with hh|⟨_,hh⟩
     ·exact Nat.lt_of_lt_of_le (h.gw.inb t b (by simp[GI.own,hh])) hg.size
     ·exact hh
    ·exact Nat.lt_of_lt_of_le (h.gw.inb t b hb) hg.size
   ·exact Nat.lt_of_lt_of_le (h.gw.inb u b hb) hg.size
 ·rcases hh with hh|⟨rfl,_⟩
  ·exact .inl (h.az u g1 hh)
  ·exact .inr rfl
 ·rw[Df]at hf;split at hf
  ·rename_i hu;exact .inr hu
  ·exact .inl (h.bw u f hf)
theorem Z0{w:World}{v:Value}{ys:List AV}{f:List Nat}{sz:Nat}(h:Rd w [v] [.sl ys] f)(hs:∀y∈ys,y.cells.length=sz):
  ∃q r news N,v= .slice q ys.length r/\Src w sz q ys.length news/\Rd w news (Ar ys) N/\(∀b∈N,b∈f)/\news.length=ys.length*sz/\(∀u∈news,u.oneCell'=true):=by
 rcases h.kind with hh|hh|hh|hh|hh|hh|hh|hh|hh|hh
 ·obtain⟨_,_,_,hh,_⟩:=hh;cases hh
 ·obtain⟨_,_,hh,_⟩:=hh;cases hh
 ·obtain⟨_,_,hh,_⟩:=hh;cases hh
 ·obtain⟨p,r,rfl,hh,rfl⟩:=hh;cases hh;refine⟨p,r,[],[],rfl,?_, .nil,by simp,by simp,by simp⟩;cases p with
  |none=>exact .inl ⟨rfl,rfl,rfl⟩
  |some p=>exact .inr ⟨p,rfl,by simp,by simp,by simp⟩
 ·obtain⟨b,off,m,r,ys',cs,C,t,fz,sz',f1,rfl,hh,rfl,hb,h1,h2,h3,h4,h5,h6,FV,h7⟩:=hh;cases hh;subst h3;have E8:sz'=sz:=by
   cases ys with
   |nil=>simp at h1
   |cons y ys=>rw[<-h4 y (by simp),hs y (by simp)]
  subst E8;have hl:=h7.len;rw[Lg ys h4]at hl;exact⟨_,r,cs,f1,rfl, .inr ⟨_,rfl,hl,λj u hu=>by rw[Addr.add_lit,DZ hb];exact h6 j u hu,FV⟩,h7,λq hq=>by simp[hq],hl,FV⟩
 ·obtain⟨_,_,_,hh,_⟩:=hh;cases hh
 ·obtain⟨_,_,_,hh,_⟩:=hh;cases hh
 ·obtain⟨_,_,_,_,_,_,_,hh,_⟩:=hh;cases hh
 ·obtain⟨_,_,_,_,hh,_⟩:=hh;cases hh
 ·obtain⟨_,hh,_⟩:=hh;cases hh
end
section
variable {P:Program} {c:Cx} {n nx:Nat} {sl sl0:Nat->SV} {hp hp0:Nat->Option Ab} {a:Act} {o:Oper} {gs:Gd} {e:AO} {sg:Br} {nv:Nat}
theorem Ll(hp:Nat->Option Ab)(l m:List (Nat × Ab)):AT hp (l++m)=AT (AT hp l) m:=by simp[AT,List.foldl_append]
theorem iN(h:Rel c n sl hp a)(hs:∀t e,hp0 t=some e->hp t=some e)(k:A0 c.ρ gs){el:TypeId}{s:SV}{v:Value}(hr:SR c [s] [v]){y:E}(hy:A5 hp0 gs AJ s=some y){fz:List (Nat × Ab)}{d:Bool}{ck:Cn}(ht:Pl P hp0 gs el s y=some (fz,d,ck))(hc:ck.den c.ρ):
  ∃ts ys q r news N,C3 hp0 gs ts=some fz/\y.den c.ρ= .sl ys/\(∀z∈ys,z.cells.length=P.cellsOf el)/\v= .slice q ys.length r/\Src c.w (P.cellsOf el) q ys.length news/\Rd c.w news (Ar ys) N/\(∀b∈N,(c.a6 (fz.map (·.1))).ok b)/\(d=true->N=[])/\news.length=ys.length*P.cellsOf el/\ ∀u∈news,u.oneCell'=true:=by
 have eh:EH c hp0:=λt e hr=>h.ents t e (I4 hs hr);obtain⟨f,q1,q2⟩:=Gb eh k AJ hy hr AJ (Ax _);unfold Pl at ht;split at ht
 ·simp only[Aa,AB]at ht;obtain⟨rfl,rfl,rfl⟩:=ht;obtain⟨ys,CC,As⟩:=hc;rw[CC]at q1;obtain⟨q,r,news,N,hv,g1,g2,g3,g4,g5⟩:=Z0 q1 (λz hz=>(As z hz).1);have hN:N=[]:=F9 g2 (λx hx=>by
   obtain⟨z,hz,hx⟩:=List.mem_flatMap.1 hx;exact(As z hz).2 x hx)
  exact⟨[],ys,q,r,news,N,rfl,CC,λz hz=>(As z hz).1,hv,g1,g2,by simp[hN],λ_=>hN,g4,g5⟩
 ·split at ht
  ·rename_i Gx;obtain⟨l,hl,ht⟩:=Aj.1 ht;simp only[AB]at ht;obtain⟨rfl,rfl,rfl⟩:=ht;obtain⟨ys,CC,As⟩:=hc;rw[CC]at q1;obtain⟨q,r,news,N,hv,g1,g2,g3,g4,g5⟩:=Z0 q1 As;exact⟨_,ys,q,r,news,N,hl,CC,As,hv,g1,g2,λb hb=>O4 h eh k hl Gx (q2 b (g3 b hb)),by simp,g4,g5⟩
  ·cases ht
theorem H8{el:TypeId}(h:FL P el=true):∃i z,P.info? el=some i/\i.zero=some z/\z.cells.size=i.size/\0<i.size/\P.cellsOf el=i.size/\P.bytesOf el=i.bytes:=by
 unfold FL at h;cases hi:P.info? el with
 |none=>simp[hi]at h
 |some i=>
  cases hz:i.zero with
  |none=>simp[hi,hz]at h
  |some z=>simp only[hi,hz,Ad,AA,bne_iff_ne]at h;exact⟨i,z,rfl,hz,h.1,by omega,by simp[Program.cellsOf,hi],by simp[Program.bytesOf,hi]⟩
theorem OV(xs ys:List AV):Ar (xs++ys)=Ar xs++Ar ys:=by simp[Ar]
theorem UC(h:A1 P c n nx sl hp a sl0 hp0 o gs){x y:Operand}{tx:TypeId}{cl:Call}(ho:o.op= .call cl)(As:cl.callee= .builtin .append)(Ck:cl.args.toList=[x,y])(CY:cl.argTypes.toList=[tx,tx])
  {el:TypeId} (A2:P.underlying tx=some (.slice el)) (hz:FL P el=true) {s2:SV} {ye:E} (AN:Bc sl0 gs y=some s2) (hy:A5 hp0 gs AJ s2=some ye) {fz:List (Nat × Ab)} {d:Bool} {ck:Cn} (BZ:Pl P hp0 gs el s2 ye=some (fz,d,ck)) (Kt:ck.den c.ρ)
  {t g:Nat} (DO:c.A.pin t=none\/g≠0) {c0:E} {d':Bool} (Cu:Cn.den c.ρ (.room c0 ye (P.bytesOf el))) (DN:∀f,(t,f)∉fz) (AM: ¬c.K t g)
  {top N0:List Nat} {v:Value} (hv:a.eval x=v) (CB:Cp c.w el (P.cellsOf el) v (c0.den c.ρ) top N0) (BU:(c.G t).top=top) (Kl:∀b∈N0,c.ok b) (S1:d'=true->M8 c.w N0/\(c.G t).O=N0) (IF:∀g',c.K t g'->g'<=g) (hU:∀u,u=t->c.U u\/(nx<=u/\u<nx+Bl)) {ckl:List Cn}:
  Ao P o c n nx sl hp gs a {bu:=ckl,val:= .own t g,au:=fz++ [(t,Cj gs (.row el (P.cellsOf el) g (.app c0 ye) (d&&d')))]}:=by
 have Ai:cl.args= #[x,y]:=by apply Array.ext';simp[Ck]
 have EE:cl.argTypes= #[tx,tx]:=by apply Array.ext';simp[CY]
 have CQ:y∈o.op.operands:=by simp[ho,Op.operands,Call.operands,As,Ai]
 obtain⟨i,z,hi,EC,Du,BK,BM,Ft⟩:=H8 hz;obtain⟨ts,ys,q,r,news,N,FX,CC,GU,CK,Eb,Hr,EW,bV,Qg,KL⟩:=iN h.rel h.hp h.gs (h.bz AN CQ) hy BZ Kt;have CG:=h.rel.freeze h.hp h.gs FX;obtain⟨xs,BS,Fk,_,AH⟩:=CB;obtain⟨mm,kk,F1,Dy,JG,Qm⟩:=Cu;rw[BS]at F1;rw[CC]at Dy;simp only[AV.len,AV.int.injEq,true_and]at F1 Dy;have Hc:(xs.length+ys.length)*i.bytes<=140737488355328:=by
  rw[<-F1,<-Dy,Ft]at JG;have h9:(((xs.length+ys.length)*i.bytes:Nat):Int)<=140737488355328:=by rw[Int.natCast_mul,Int.natCast_add];exact JG
  omega
 have FW:xs.length+ys.length<=140737488355328:=by rw[<-F1,<-Dy]at Qm;omega
 rw[BM]at Eb Qg Fk GU AH;obtain⟨old,hold,Eo,CR,Cf⟩:∃old,old.length=xs.length*i.size/\((xs.length=0/\ ∃q,v= .slice q 0 0)\/ ∃g cap C,v= .slice (some ⟨g,0,none⟩) xs.length cap/\xs.length<=cap/\cap<=maxLen/\c.w.heap[g]?=some (.cells C el (0,0))/\C.size=cap*i.size/\old=C.toList.take (xs.length*i.size)/\g∈(c.G t).top)/\Rd c.w old (Ar xs) N0/\ ∀u∈old,u.oneCell'=true:=by
  rcases AH with⟨rfl,⟨p,rfl⟩,rfl,rfl⟩|⟨g9,cap,C,rfl,h6,h7,h8,h9,rfl,D8,DF⟩
  ·exact⟨[],by simp, .inl ⟨rfl,p,rfl⟩, .nil,by simp⟩
  ·refine⟨_,?_, .inr ⟨g9,cap,C,rfl,h6,h7,h8,h9,rfl,by rw[BU];simp⟩,DF,D8⟩;have e9:C.toList.length=cap*i.size:=by rw[<-h9];simp
   rw[AU,e9];exact Nat.min_eq_left (Bo _ h6)
 obtain⟨v',w',Aw,AK⟩:=VO (P:=P) c.w tx o.type el i z A2 hi EC Du BK (λg9=>g9∈(c.G t).top) v xs.length old hold Eo q ys.length r news Eb (by simp only[maxLen];omega) Hc;have Cv:(execOp a.eval o).run P c.w= .ok (.value v') w':=by simp[execOp,ho,resolve,As,Ai,EE,invoke,builtin,hv,CK,Aw]
 intro next Q hk
 unfold Oper.wp;rw[Cv,Oper.upon_value];have bQ:(c.a6 (fz.map (·.1))).w=c.w:=rfl;have WI:(c.a6 (fz.map (·.1))).G t=c.G t:=by simp only[Cx.a6];rw[if_neg];rintro hh;obtain⟨⟨u,f⟩,hf,rfl⟩:=List.mem_map.1 hh;exact DN f hf
 obtain⟨row,top',NH,D9,Og,A9,Cy⟩:∃row top',c.w.grownBy w' row/\(∀g0,row=some g0->g0∈(c.G t).top\/(g0=c.w.heap.size/\g0<w'.heap.size))/\(top'=[]\/ ∃g0,row=some g0/\top'=[g0])/\
   (C6 (c.a6 (fz.map (·.1))) ((c.a6 (fz.map (·.1))).ao t g w' v' top' (if(d&&d')=true then(c.G t).O else []))-> ∃N',Cp w' el (P.cellsOf el) v' (.sl (xs++ys)) top' N'/\(∀b∈N',b∈N0\/b∈N)/\((d&&d')=true->N'=N0))/\ ∃p m r,v'= .slice p m r:=by
  rcases AK with⟨rfl,rfl,CZ⟩|⟨g9,cap,C,rfl,h1,h2,h3,h4,h5,h6,h7⟩
  ·have F4:ys=[]:=List.eq_nil_of_length_eq_zero CZ;subst F4;refine⟨if top=[]then none else top.head?,top,⟨rfl,rfl,rfl,Ax _,λ_ _ _=>rfl⟩,λg0 D9=> .inl ?_,?_,λ_=>⟨N0,?_,λb hb=> .inl hb,λ_=>rfl⟩,?_⟩
   ·rw[BU];split at D9
    ·cases D9
    ·exact List.mem_of_mem_head? D9
   ·rcases AH with⟨_,_,rfl,_⟩|⟨g9,_,_,_,_,_,_,_,rfl,_⟩
    ·exact .inl rfl
    ·exact .inr ⟨g9,by simp,rfl⟩
   ·rw[BM];exact⟨xs,by simp,Fk,BK,AH⟩
   ·rcases Eo with⟨_,p,rfl⟩|⟨g9,cap,C,rfl,_⟩
    ·exact⟨_,_,_,rfl⟩
    ·exact⟨_,_,_,rfl⟩
  ·refine⟨some g9,[g9],h6,λg0 D9=> ?_, .inr ⟨g9,rfl,rfl⟩,λFi=>⟨N0++N,⟨xs++ys,rfl,λz hz=> ?_,by rw[BM];exact BK, .inr ⟨g9,cap,C,by simp,by simpa using h1,h2,h3,by rw[BM];exact h4,rfl,?_,?_⟩⟩,λb hb=>Ae.1 hb,λD2=> ?_⟩,_,_,_,rfl⟩
   ·cases D9;exact h7.symm
   ·rcases Ae.1 hz with hz|hz
    ·rw[BM];exact Fk z hz
    ·rw[BM];exact GU z hz
   ·rw[BM];simp only[AZ];rw[h5];intro u hu;rcases Ae.1 hu with hu|hu
    ·exact Cf u hu
    ·exact KL u hu
   ·rw[BM];simp only[AZ];rw[h5,OV];refine Rd.app (CR.frame λb hb=> ?_) (Hr.frame λb hb=> ?_)
    ·have Hc:=CR.inb b hb;exact Fi.mem b Hc (Cx.dh (Kl b hb))
    ·have Hc:=Hr.inb b hb;exact Fi.mem b Hc (EW b hb)
   ·simp only[Ad]at D2;rw[bV D2.1];simp
 obtain⟨p9,m9,r9,dM⟩:=Cy;have Da:=CG.ao (gs:=gs) (t:=t) (g:=g) (w':=w') (row:=row) (top:=top') (O:=if(d&&d')=true then(c.G t).O else []) (v:=v') DO AM NH (by rw[WI];exact D9) Og (by split;exact .inr (by rw[WI]);exact .inl rfl)
  (.row el (P.cellsOf el) g (.app c0 ye) (d&&d')) (by intros;simp) h.gs (λFi=>by
   obtain⟨N',o1,o2,o3⟩:=A9 Fi;have AF:∀b∈N',((c.a6 (fz.map (·.1))).ao t g w' v' top' (if(d&&d')=true then(c.G t).O else [])).ok b:=by
    intro b hb;rcases o2 b hb with hb|hb
    ·exact Fi.ok b (CR.inb b hb) (Cx.dh (Kl b hb))
    ·exact Fi.ok b (Hr.inb b hb) (EW b hb)
   refine⟨.inr ⟨rfl,rfl⟩,λg' BW=> ?_,N',?_,AF,λD2=> ?_,λD2=> ?_⟩
   ·rcases BW with BW|⟨_,rfl⟩
    ·exact IF g' BW
    ·exact Ax _
   ·have e1:((c.a6 (fz.map (·.1))).ao t g w' v' top' (if(d&&d')=true then(c.G t).O else [])).H t g=v':=by simp[Cx.ao]
    have e2:(((c.a6 (fz.map (·.1))).ao t g w' v' top' (if(d&&d')=true then(c.G t).O else [])).G t).top=top':=by simp[Cx.ao]
    rw[e1,e2];show Cp w' el (P.cellsOf el) v' (AV.app (c0.den c.ρ) (ye.den c.ρ)) top' N';rw[BS,CC];exact o1
   ·have SA:=o3 D2;have S2:d'=true:=by simp only[Ad]at D2;exact D2.2
    obtain⟨u1,u2⟩:=S1 S2;subst SA;refine⟨u1.frame λb hb=>Fi.mem b (CR.inb b hb) (Cx.dh (Kl b hb)),?_⟩;simp only[Cx.ao,if_true,D2];exact u2
   ·simp[Cx.ao,D2])
 have SE:SR ((c.a6 (fz.map (·.1))).ao t g w' v' top' (if(d&&d')=true then(c.G t).O else [])) [.own t g] [v']:=by rw[dM];exact .own (.inr ⟨rfl,rfl⟩) (by simp[Cx.ao]) .nil
 refine hk _ ((c.a6 (fz.map (·.1))).ao t g w' v' top' (if(d&&d')=true then(c.G t).O else [])) ⟨rfl,rfl,rfl,rfl,λu hu=> ?_⟩ ?_
 ·rcases hu with hu|rfl
  ·exact .inl hu
  ·exact hU u rfl
 ·have:=Da.put (SE.mkGd gs h.gs) o.dst;rw[Ll];exact this
end
section
variable {P:Program} {c:Cx} {n nx:Nat} {sl sl0:Nat->SV} {hp hp0:Nat->Option Ab} {a:Act} {o:Oper} {gs:Gd} {e:AO} {sg:Br} {nv:Nat}
theorem GZ{t el:TypeId}(h:Cb P t=some el):P.underlying t=some (.slice el):=by
 unfold Cb at h;split at h
 ·simp at h;subst h;assumption
 ·cases h
theorem gD{ts:List Nat}{l:List (Nat × Ab)}(k:A0 c.ρ gs)(h:C3 hp0 gs ts=some l):∀t f,(t,f)∈l-> ∃g x f',B9 c.ρ (hp0 t) f'/\I6 f' g x:=by intro t f hf;obtain⟨_,_,g,x,f',_,r⟩:=(Lb k h).1 t f hf;exact⟨g,x,f',r⟩
theorem gV(h:A1 P c n nx sl hp a sl0 hp0 o gs){x y:Operand}{tx ty:TypeId}{cl:Call}(ho:o.op= .call cl)(As:cl.callee= .builtin .append)(Ck:cl.args.toList=[x,y])(CY:cl.argTypes.toList=[tx,ty])
  {s1 s2:SV} (Bj:Bc sl0 gs x=some s1) (AN:Bc sl0 gs y=some s2) (he:UZ P hp0 gs nx tx ty s1 s2=some e) (hc:∀q∈e.bu,Cn.den c.ρ q):Ao P o c n nx sl hp gs a e:=by
 have Ai:cl.args= #[x,y]:=by apply Array.ext';simp[Ck]
 have Dc:x∈o.op.operands:=by simp[ho,Op.operands,Call.operands,As,Ai]
 unfold UZ at he;split at he
 ·cases he
 rename_i Hy;have Hy:tx=ty:=by simpa using Hy
 subst Hy;split at he
 ·rename_i el A2;have A2:=GZ A2;split at he
  ·cases he
  rename_i hz;have hz:FL P el=true:=by simpa using hz
  split at he
  ·cases he
  rename_i ye hy;split at he
  ·cases he
  rename_i fz d ck BZ;obtain⟨ts,FX⟩:∃ts,C3 hp0 gs ts=some fz:=by
   unfold Pl at BZ;split at BZ
   ·simp only[Aa,AB]at BZ;obtain⟨rfl,_⟩:=BZ;exact⟨[],rfl⟩
   ·split at BZ
    ·obtain⟨l,hl,BZ⟩:=Aj.1 BZ;simp only[AB]at BZ;obtain⟨rfl,_⟩:=BZ;exact⟨_,hl⟩
    ·cases BZ
  have r1:=h.bz Bj Dc;have fresh:∀f,(nx,f)∉fz:=λf hf=>by
   obtain⟨_,_,_,r,_⟩:=gD (c:=c) h.gs FX nx f hf;have r:=I4 h.hp r;cases hh:hp nx with
   |none=>rw[hh]at r;exact r.elim
   |some e9=>exact JY h (h.rel.bw nx e9 hh)
  have hK:∀g,¬c.K nx g:=λg hg=>JY h (h.rel.az _ _ hg);have E7:=h.rel.off nx (λe9 hr=>by
   cases hh:hp nx with
   |none=>rw[hh]at hr;exact hr.elim
   |some e8=>exact JY h (h.rel.bw nx e8 hh))
  have Qj:c.A.pin nx=none:=by
   cases hh:c.A.pin nx with
   |none=>rfl
   |some v=>exact absurd (h.rel.base.pins nx v hh).1 (JY h)
  have LP:∀u,u=nx->c.U u\/(nx<=u/\u<nx+Bl):=λu hu=> .inr ⟨by omega,by rw[hu];simp[Bl]⟩;have Xi:P.cellsOf el≠0:=by obtain⟨i,_,_,_,_,h1,h2,_⟩:=H8 hz;omega
  split at he
  ·rename_i t g;split at he
   ·rename_i e' sz' g' c0 d' hl;split at he
    ·rename_i hh;obtain⟨rfl,rfl,rfl,rfl,DN⟩:=hh;simp only[Aa]at he;subst he;have En:=Cc hl h.gs;obtain⟨q1,q2,N,q3,q4,q5,q6⟩:=h.eh t _ En;generalize hv:a.eval x=v at r1;cases r1 with
     |own k1 k2 _=>
      have:=UC (nx:=nx) h ho As Ck CY A2 hz AN hy BZ (hc _ (by simp)) (t:=t) (g:=g+1) (.inr (by omega)) (c0:=c0) (d':=d') (hc _ (by simp)) (λf hf=>by simp only[Bn,List.contains_eq_mem,decide_eq_false_iff_not]at DN;exact DN (List.mem_map.2 ⟨_,hf,rfl⟩)) (λhh=>by have:=q2 _ hh;omega) hv (by rw[<-k2];exact q3) rfl q4 q5 (λg' BW=>by have:=q2 _ BW;omega) (λu hu=> .inl (by rw[hu];exact h.rel.az t g q1)) (ckl:=[.room c0 ye (P.bytesOf el),ck])
      exact this
    ·cases he
   ·cases he
  ·simp only[Aa]at he;subst he;generalize hv:a.eval x=v at r1;cases r1 with
   |emp _=>have:=UC (nx:=nx) h ho As Ck CY A2 hz AN hy BZ (hc _ (by simp)) (t:=nx) (g:=0) (.inl Qj) (c0:= .lst .nil) (d':=true) (top:=[]) (N0:=[]) (hc _ (by simp)) fresh (hK 0) hv ⟨[],rfl,by simp,by omega, .inl ⟨rfl,⟨_,rfl⟩,rfl,rfl⟩⟩ E7.1 (by simp) (λ_=>⟨rfl,E7.2⟩) (λg' BW=>absurd BW (hK g')) LP (ckl:=[.room (.lst .nil) ye (P.bytesOf el),ck]);rw[Bool.and_true]at this;exact this
  ·simp only[Aa]at he;subst he;generalize hv:a.eval x=v at r1;cases r1 with
   |bb _=>have:=UC (nx:=nx) h ho As Ck CY A2 hz AN hy BZ (hc _ (by simp)) (t:=nx) (g:=0) (.inl Qj) (c0:= .lst .nil) (d':=true) (top:=[]) (N0:=[]) (hc _ (by simp)) fresh (hK 0) hv ⟨[],rfl,by simp,by omega, .inl ⟨rfl,⟨_,rfl⟩,rfl,rfl⟩⟩ E7.1 (by simp) (λ_=>⟨rfl,E7.2⟩) (λg' BW=>absurd BW (hK g')) LP (ckl:=[.room (.lst .nil) ye (P.bytesOf el),ck]);rw[Bool.and_true]at this;exact this
  ·cases he
 ·cases he
end
section
variable {P:Program} {c:Cx} {n nx:Nat} {sl sl0:Nat->SV} {hp hp0:Nat->Option Ab} {a:Act} {o:Oper} {gs:Gd} {e:AO} {sg:Br} {nv:Nat}
theorem OC:∀{ts us:List Nat} {l m:List (Nat × Ab)},C3 hp0 gs ts=some l->C3 hp0 gs us=some m->C3 hp0 gs (ts++us)=some (l++m)
 | [],us,l,m,h,k=>by simp[C3]at h;subst h;simpa using k
 |t::ts,us,l,m,h,k=>by
  unfold C3 at h;simp only[List.cons_append];unfold C3;split at h
  ·rename_i ety sz g x d l' hl Bd;have ih:=OC Bd k;split at h
   ·rename_i hg;simp at h;subst h;simp[hl,ih,hg]
   ·cases h
  ·rename_i ety sz dl g ep x l' hl Bd;have ih:=OC Bd k;split at h
   ·rename_i hg;simp at h;subst h;simp[hl,ih,hg]
   ·cases h
  ·rename_i g x l' hl Bd;have ih:=OC Bd k;simp at h;subst h;simp[hl,ih]
  ·rename_i ty g cs l' hl Bd;have ih:=OC Bd k;simp at h;subst h;simp[hl,ih]
  ·cases h
theorem X8{ts us:List Nat}(hs:∀t∈ts,t∈us){b:Nat}(h:(c.a6 ts).ok b):(c.a6 us).ok b:=by refine⟨λhm=>h.1 ?_,h.2⟩;obtain⟨u,hu,hb⟩:=Cx.ga hm;exact⟨u,by simp only[Cx.a6];rw[if_neg (λhh=>hu (hs u hh))];exact hb⟩
theorem U4{w:World}{v:Value}{x:AV}{f:List Nat}{t:TypeId}(h:Rd w [v] [x] f)(hg:Ag P t=true\/P.cellsOf t=1)(hx:if Ag P t then∃cs,x= .agg cs/\cs.length=P.cellsOf t else(∀cs,x≠ .agg cs)/\ ∀cs,x≠ .tup cs):
  Rd w v.cells.toList x.cells f/\(∀u∈v.cells.toList,u.oneCell'=true)/\x.cells.length=P.cellsOf t/\v.cells.size=P.cellsOf t:=by
 split at hx
 ·obtain⟨cs,rfl,hl⟩:=hx;obtain⟨as_,rfl,h1,h2⟩:=HH h rfl;have:=h2.len;exact⟨by simpa[Value.cells,AV.cells]using h2,by simpa[Value.cells]using h1,hl,by simp[Value.cells];omega⟩
 ·rename_i cT;have h1:P.cellsOf t=1:=by rcases hg with h'|h';exact absurd h' cT;exact h'
  have Cf:=UJ h hx.1 hx.2;have Fk:x.cells=[x]:=by cases x<;>first|rfl|exact absurd rfl (hx.1 _)
  rw[one_cells Cf,Fk];exact⟨by simpa using h,by simpa using Cf,by simp[h1],by simp[h1]⟩
theorem XQ(h:Rel c n sl hp a)(hs:∀t e,hp0 t=some e->hp t=some e)(k:A0 c.ρ gs){t:TypeId}(hg:Ag P t=true\/P.cellsOf t=1):∀(ss:List SV) (vs:List Value) {xs:List E} {fz:List (Nat × Ab)} {d:Bool} {ck:List Cn},SR c ss vs->Pj P hp0 gs t ss=some (xs,fz,d,ck)->(∀q∈ck,q.den c.ρ)->
  ∃N,Rd c.w (vs.flatMap λv=>v.cells.toList) (Ar (xs.map (E.den c.ρ))) N/\(d=true->N=[])/\(∃ts,C3 hp0 gs ts=some fz)/\(∀b∈N,(c.a6 (fz.map (·.1))).ok b)/\(∀v∈vs,v.cells.size=P.cellsOf t/\ ∀u∈v.cells.toList,u.oneCell'=true)/\(∀x∈xs,(x.den c.ρ).cells.length=P.cellsOf t)/\xs.length=vs.length
 | [],vs,xs,fz,d,ck,hr,ht,hc=>by simp[Pj]at ht;obtain⟨rfl,rfl,rfl,rfl⟩:=ht;cases hr;exact⟨[],by simpa[Ar]using Rd.nil,λ_=>rfl,⟨[],rfl⟩,by simp,by simp,by simp,rfl⟩
 |s::ss,[],xs,fz,d,ck,hr,ht,hc=>by have:=hr.len;simp at this
 |s::ss,v::vs,xs,fz,d,ck,hr,ht,hc=>by
  obtain⟨r1,r2⟩:=hr.bd;unfold Pj at ht;split at ht
  ·rename_i x fz1 d1 ck1 xs2 fz2 d2 ck2 h1 h2;simp only[Aa,AB]at ht;obtain⟨rfl,rfl,rfl,rfl⟩:=ht;obtain⟨f,q1,q2,⟨ts1,q3,q4⟩,q5⟩:=XN h hs k r1 h1 (λq hq=>hc q (by simp[hq]));obtain⟨N,p1,p2,⟨ts2,p3⟩,p4,p5,p6,p7⟩:=XQ h hs k hg ss vs r2 h2 (λq hq=>hc q (by simp[hq]));obtain⟨o1,o2,o3,o4⟩:=U4 (P:=P) q1 hg q5;refine⟨f++N,?_,λhd=> ?_,⟨_,OC q3 p3⟩,λb hb=> ?_,?_,?_,by simp[p7]⟩
   ·simpa[Ar]using o1.app p1
   ·simp only[Ad]at hd;rw[q2 hd.1,p2 hd.2];rfl
   ·rcases Ae.1 hb with hb|hb
    ·exact X8 (λt ht=>by simp only[List.map_append,Ae];exact .inl ht) (q4 b hb)
    ·exact X8 (λt ht=>by simp only[List.map_append,Ae];exact .inr ht) (p4 b hb)
   ·intro u hu;rcases Ac.1 hu with rfl|hu
    ·exact⟨o4,o2⟩
    ·exact p5 u hu
   ·intro u hu;rcases Ac.1 hu with rfl|hu
    ·exact o3
    ·exact p6 u hu
  ·cases ht
theorem Va{sz:Nat}(place:Nat->Option (Nat × Nat))(FE:∀i,place i=some (i*sz,sz)):∀(vs:List Value) (k:Nat) (C:Array Value) (pre suf:List Value),C.toList=pre++suf->pre.length=k*sz->suf.length=vs.length*sz->(∀v∈vs,v.cells.size=sz)->
  ∃C',Instr.fill place C ((vs.zipIdx k).map λp=>(p.2,p.1))=some C'/\C'.toList=pre++vs.flatMap λv=>v.cells.toList
 | [],k,C,pre,suf,h,_,h2,_=>by have:suf=[]:=List.eq_nil_of_length_eq_zero (by simpa using h2);subst this;exact⟨C,rfl,by simpa using h⟩
 |v::vs,k,C,pre,suf,h,h1,h2,h3=>by
  have hv:=h3 v (by simp);simp only[AQ,Nat.add_mul,Nat.one_mul]at h2;have hC:C.size=pre.length+suf.length:=by rw[<-BF,h,AZ]
  have Jt:(v.cells.zipIdx.foldl (λcs (p:Value × Nat)=>cs.setIfInBounds (k*sz+p.2) p.1) C).toList=setVs C.toList (k*sz) v.cells.toList:=by have:=Y2 v.cells.toList 0 (k*sz) C (by simp;omega);rw[<-Array.foldl_toList,Array.toList_zipIdx];simpa using this
  have Hw:setVs C.toList (k*sz) v.cells.toList=(pre++v.cells.toList)++suf.drop sz:=by unfold setVs;rw[h,<-h1,List.take_left' rfl];congr 1;rw[List.drop_append,List.drop_eq_nil_of_le (by omega)];simp[hv]
  obtain⟨C',g1,g2⟩:=Va place FE vs (k+1) (v.cells.zipIdx.foldl (λcs (p:Value × Nat)=>cs.setIfInBounds (k*sz+p.2) p.1) C) (pre++v.cells.toList) (suf.drop sz) (by rw[Jt,Hw]) (by simp[h1,hv,Nat.add_mul]) (by simp;omega) (λu hu=>h3 u (by simp[hu]));refine⟨C',?_,by rw[g2];simp⟩;simp only[List.zipIdx_cons,List.map_cons];unfold Instr.fill;simp only[FE];rw[if_neg (by simp[hv];omega)];exact g1
theorem Ao.newRow(h:A1 P c n nx sl hp a sl0 hp0 o gs){ts:List Nat}{fz:List (Nat × Ab)}(FX:C3 hp0 gs ts=some fz){el:TypeId}{C:Array Value}{cap:Nat}{xs:List AV}{x:E}{d:Bool}{N:List Nat}{ckl:List Cn}{wd:World}(dQ:wd.heap=c.w.heap/\wd.os=c.w.os/\wd.tape=c.w.tape/\wd.output=c.w.output)
  (hr:(execOp a.eval o).run P c.w= .ok (.value (.slice (some ⟨c.w.heap.size,0,none⟩) xs.length cap)) (wd.alloc (.cells C el))) (hx:x.den c.ρ= .sl xs) (BK:P.cellsOf el≠0) (As:∀y∈xs,y.cells.length=P.cellsOf el) (hle:xs.length<=cap) (Ks:cap<=maxLen) (hC:C.size=cap*P.cellsOf el)
  (h1:∀u∈C.toList.take (xs.length*P.cellsOf el),u.oneCell'=true) (hN:Rd c.w (C.toList.take (xs.length*P.cellsOf el)) (Ar xs) N) (EW:∀b∈N,(c.a6 (fz.map (·.1))).ok b) (hd:d=true->N=[]):
  Ao P o c n nx sl hp gs a {bu:=ckl,val:= .own nx 0,au:=fz++ [(nx,Cj gs (.row el (P.cellsOf el) 0 x d))]}:=by
 intro next Q hk
 unfold Oper.wp;rw[hr,Oper.upon_value];have hU:=JY h;have CG:=h.rel.freeze h.hp h.gs FX;have hK:∀g,¬c.K nx g:=λg hg=>hU (h.rel.az _ _ hg);have Qj:c.A.pin nx=none:=by
  cases hh:c.A.pin nx with
  |none=>rfl
  |some v=>exact absurd (h.rel.base.pins nx v hh).1 hU
 have E7:=h.rel.off nx (λe9 hr=>by
  cases hh:hp nx with
  |none=>rw[hh]at hr;exact hr.elim
  |some e8=>exact hU (h.rel.bw nx e8 hh))
 obtain⟨w1,w2,w3,w4⟩:=dQ;have KB:c.w.grownBy (wd.alloc (.cells C el)) (some c.w.heap.size):=by
  refine⟨w2,w3,w4,?_,λk hk _=> ?_⟩
  ·show c.w.heap.size<=(wd.heap.push _).size;simp[w1]
  ·have:=Below.heap_alloc wd (.cells C el) k (by rw[w1];exact hk);rw[this,w1]
 have JB:(wd.alloc (.cells C el)).heap[c.w.heap.size]?=some (.cells C el (0,0)):=by have:=heap_alloc_new wd (.cells C el);rw[w1]at this;exact this
 have AE:c.w.heap.size<(wd.alloc (.cells C el)).heap.size:=EI JB;have hO:(c.a6 (fz.map (·.1))).G nx=⟨[],[]⟩\/((c.a6 (fz.map (·.1))).G nx).O=[]:=by
  right;simp only[Cx.a6];split
  ·rfl
  ·exact E7.2
 have Da:=CG.ao (gs:=gs) (t:=nx) (g:=0) (w':=wd.alloc (.cells C el)) (row:=some c.w.heap.size) (top:=[c.w.heap.size]) (O:=[]) (v:= .slice (some ⟨c.w.heap.size,0,none⟩) xs.length cap) (.inl Qj) (hK 0) KB (λg0 D9=>by cases D9;exact .inr ⟨rfl,AE⟩) (.inr ⟨_,rfl,rfl⟩) (.inl rfl)
  (.row el (P.cellsOf el) 0 x d) (by intros;simp) h.gs (λFi=>by
   refine⟨.inr ⟨rfl,rfl⟩,λg' BW=> ?_,N,?_,λb hb=>Fi.ok b (hN.inb b hb) (EW b hb),λD2=> ?_,λ_=>by simp[Cx.ao]⟩
   ·rcases BW with BW|⟨_,rfl⟩
    ·exact absurd BW (hK g')
    ·exact Ax _
   ·have e1:((c.a6 (fz.map (·.1))).ao nx 0 (wd.alloc (.cells C el)) (.slice (some ⟨c.w.heap.size,0,none⟩) xs.length cap) [c.w.heap.size] []).H nx 0= .slice (some ⟨c.w.heap.size,0,none⟩) xs.length cap:=by simp[Cx.ao]
    have e2:(((c.a6 (fz.map (·.1))).ao nx 0 (wd.alloc (.cells C el)) (.slice (some ⟨c.w.heap.size,0,none⟩) xs.length cap) [c.w.heap.size] []).G nx).top=[c.w.heap.size]:=by simp[Cx.ao]
    rw[e1,e2];show Cp (wd.alloc (.cells C el)) el (P.cellsOf el) _ (x.den c.ρ) _ N;rw[hx];exact⟨xs,rfl,As,by omega, .inr ⟨_,cap,C,rfl,hle,Ks,JB,hC,rfl,h1,hN.frame λb hb=>Fi.mem b (hN.inb b hb) (EW b hb)⟩⟩
   ·rw[hd D2];exact⟨rfl,by simp[Cx.ao]⟩)
 have SE:SR ((c.a6 (fz.map (·.1))).ao nx 0 (wd.alloc (.cells C el)) (.slice (some ⟨c.w.heap.size,0,none⟩) xs.length cap) [c.w.heap.size] []) [.own nx 0] [.slice (some ⟨c.w.heap.size,0,none⟩) xs.length cap]:=
  .own (.inr ⟨rfl,rfl⟩) (by simp[Cx.ao]) .nil
 refine hk _ ((c.a6 (fz.map (·.1))).ao nx 0 (wd.alloc (.cells C el)) (.slice (some ⟨c.w.heap.size,0,none⟩) xs.length cap) [c.w.heap.size] []) ⟨rfl,rfl,rfl,rfl,λu hu=> ?_⟩ ?_
 ·rcases hu with hu|rfl
  ·exact .inl hu
  ·exact .inr ⟨Ax _,by simp[Bl]⟩
 ·have:=Da.put (SE.mkGd gs h.gs) o.dst;rw[Ll];exact this
theorem Xu{t el:TypeId}(hu:P.underlying t=some (.slice el))(AX:CE P el=true){i:TypeInfo}{z:Value}(hi:P.info? el=some i)(hz:i.zero=some z)(BM:P.cellsOf el=i.size)(m:Nat)(hle:m*i.size<=2^24)(parts:Array (Nat × Value))(C:Array Value)
  (hf:Instr.fill (λj=>some (j*i.size,i.size)) ((Array.range (m*i.size)).map (λj=>(if m*i.size=0 then #[]else z.cells)[j % (if m*i.size=0 then #[]else z.cells).size]!)) parts.toList=some C) (w:World):
  (Instr.buildSlice t m parts).run P w= .ok (.slice (some ⟨w.heap.size,0,none⟩) m m) (w.alloc (.cells C el)):=by
 have Tt: ¬(2^24<m*i.size):=by omega
 have HY:Array.range 0= #[]:=rfl;by_cases h0:m*i.size=0
 ·simp only[h0,if_true,HY]at hf;have Nw:∀f:Nat->Value,Array.map f #[]= #[]:=λf=>by simp
  rw[Nw]at hf;simp only[Instr.buildSlice,Sem.run_bind,run_underlying hu,Result.andThen_ok,Ld AX,BM];simp[h0,HY,hf,newRow]
 ·simp only[h0,if_false]at hf;simp only[Instr.buildSlice,Sem.run_bind,run_underlying hu,Result.andThen_ok,Ld AX,BM];simp[h0,Tt,zeroValue,typeInfo,hi,hz,hf,newRow]
theorem fH(h:A1 P c n nx sl hp a sl0 hp0 o gs){t:TypeId}{m:Nat}{parts:Array (Nat × Operand)}(ho:o.op= .buildSlice t m parts){ps:List (Nat × SV)}(JF:parts.toList.mapM (λ(p:Nat × Operand)=>(Bc sl0 gs p.2).map λs=>(p.1,s))=some ps)(he:Uy P hp0 gs nx t m ps=some e)(hc:∀q∈e.bu,Cn.den c.ρ q):Ao P o c n nx sl hp gs a e:=by
 obtain⟨e1,e2⟩:=Rp (c:=c) (a:=a) (parts.toList.map (·.2)) (λx s hx hm=>h.bz hx (by simpa[ho,Op.operands]using hm)) (λx hx=>List.mem_map.2 ⟨x,hx,rfl⟩) JF;unfold Uy at he;split at he
 ·rename_i el A2;have A2:=GZ A2;split at he
  ·cases he
  rename_i An;simp only[not_or,Bn,Bool.not_eq_false',ne_eq,Bool.not_eq_false,Nat.not_lt,Decidable.not_not]at An;obtain⟨hz,AX,Ap,hle,DH⟩:=An;have Ap:Ag P el=true\/P.cellsOf el=1:=by simpa using Ap
  obtain⟨i,z,hi,EC,Du,BK,BM,Ft⟩:=H8 hz;split at he
  ·rename_i xs fz d ck Oe;split at he
   ·simp only[Aa]at he;subst he;obtain⟨N,p1,p2,⟨ts,p3⟩,p4,p5,p6,p7⟩:=XQ h.rel h.hp h.gs Ap (ps.map (·.2)) (parts.toList.map λp=>a.eval p.2) e2 Oe hc;have hlen:(parts.toList.map λp=>a.eval p.2).length=m:=by
     have:ps.length=m:=by have:=congrArg List.length DH;simpa using this
     have h9:=congrArg List.length e1;simp at h9 ⊢;omega
    have FD:(parts.map λ(x:Nat × Operand)=>(x.1,a.eval x.2)).toList=((parts.toList.map λp=>a.eval p.2).zipIdx 0).map λp=>(p.2,p.1):=by
     have KE:parts.toList.map (·.1)=List.range m:=by rw[<-e1,DH]
     apply List.ext_getElem?;intro j;have hj:(parts.toList.map (·.1))[j]?=(List.range m)[j]?:=by rw[KE]
     simp only[Array.toList_map,List.getElem?_map,List.getElem?_zipIdx]at hj ⊢;cases hp:parts.toList[j]? with
     |none=>simp
     |some p=>
      rw[hp]at hj;simp only[Option.map_some,Aa]at hj ⊢;have Tm:j<m:=by
       rcases Nat.lt_or_ge j m with hh|hh
       ·exact hh
       ·rw[List.getElem?_eq_none (by simpa using hh)]at hj;cases hj
      rw[List.getElem?_range Tm]at hj;simp at hj;simp[hj]
    obtain⟨C',f1,f2⟩:=Va (sz:=i.size) (λj=>some (j*i.size,i.size)) (λj=>rfl) (parts.toList.map λp=>a.eval p.2) 0 ((Array.range (m*i.size)).map (λj=>(if m*i.size=0 then #[]else z.cells)[j % (if m*i.size=0 then #[]else z.cells).size]!)) [] _ (by simp;rfl) (by simp) (by simp[hlen]) (λv hv=>by rw[<-BM];exact(p5 v hv).1);have CX:C'.toList.length=m*P.cellsOf el:=by
     rw[f2,BM];simp only[List.nil_append];have:∀(L:List Value),(∀v∈L,v.cells.size=i.size)->(L.flatMap λv=>v.cells.toList).length=L.length*i.size:=by
      intro L
      induction L with
      |nil=>intro _;simp
      |cons v L ih=>intro hL;simp only[List.flatMap_cons,AZ,AQ,BF];rw[ih (λu hu=>hL u (by simp[hu])),hL v (by simp),Nat.add_mul];omega
     rw[this _ (λv hv=>by rw[<-BM];exact(p5 v hv).1),hlen]
    have F3:(xs.map (E.den c.ρ)).length=m:=by rw[List.length_map,p7,hlen]
    have BQ:C'.toList.take ((xs.map (E.den c.ρ)).length*P.cellsOf el)=(parts.toList.map λp=>a.eval p.2).flatMap λv=>v.cells.toList:=by rw[F3,<-CX,List.take_length,f2];simp
    refine Ao.newRow (xs:=xs.map (E.den c.ρ)) (N:=N) (C:=C') (cap:=m) (wd:=c.w) h p3 ⟨rfl,rfl,rfl,rfl⟩ ?_ (by simp[E.den,EL.ch]) (by omega) (λy hy=> ?_) (by omega) (by simp only[maxLen];have:m*1<=m*P.cellsOf el:=Nat.mul_le_mul_left _ (by omega);omega) (by rw[<-BF,CX]) ?_ (by rw[BQ];exact p1) p4 p2
    ·rw[F3];have Aw:=Xu (P:=P) A2 AX hi EC BM m (by rw[<-BM];omega) (parts.map λ(x:Nat × Operand)=>(x.1,a.eval x.2)) C' (by rw[FD];exact f1) c.w;simp only[execOp,ho,Sem.run_bind];rw[Aw];rfl
    ·obtain⟨q,hq,rfl⟩:=List.mem_map.1 hy;exact p6 q hq
    ·rw[BQ];intro u hu;obtain⟨v,hv,hu⟩:=List.mem_flatMap.1 hu;exact(p5 v hv).2 u hu
   ·cases he
  ·cases he
 ·cases he
end
end
end Go.Proofs.Yteeafhlnofapaaa

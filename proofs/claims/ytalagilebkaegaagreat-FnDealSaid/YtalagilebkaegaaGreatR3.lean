/- Parts of a proof, joined: WA, VJa, VK, VL, VM, VN, VO, VP, VQ, VR, VS, VT, VU, VV, VW. -/
import Derived.Test.YtalagilebkaegaaGreatR2
import Derived.WalkSpells
import Derived.Laws.BytesArg
set_option linter.unusedVariables false
set_option linter.unusedSimpArgs false
namespace Go.Proofs.YtalagilebkaegaaGreat
open Go.RowKit
section
theorem BG.{u}{α:Type u}{a:Array α}:a.toList.length=a.size:=Array.length_toList
theorem AY.{u,v}{α:Type u}{β:Type v}(a:α)(b:β)(c:α)(d:β):((a,b)=(c,d))=(a=c/\b=d):=Prod.mk.injEq a b c d
theorem Jl:∀{l:List (Nat × Af)} {t:Nat} {e:Af},AO l t=some e->(t,e)∈l
 | [],_,_,h=>by simp[AO]at h
 |(u,f)::l,t,e,h=>by
  simp only[AO]at h;split at h
  ·rename_i hu;subst hu;simp at h;subst h;simp
  ·exact List.mem_cons_of_mem _ (Jl h)
theorem Ny{α:Type}:∀{l:List (Nat × α)} {t:Nat} {e:α},l.lookup t=some e->(t,e)∈l
 | [],_,_,h=>by simp at h
 |(u,f)::l,t,e,h=>by
  simp only[List.lookup_cons]at h;split at h
  ·rename_i hu;simp at h hu;subst h;subst hu;simp
  ·exact List.mem_cons_of_mem _ (Ny h)
theorem Zy:∀{θ:List (Nat × Option Nat)},NS θ=true-> ∀{t u v:Nat},(t,some v)∈θ->(u,some v)∈θ->t=u
 | [],_,t,u,v,h,_=>by simp at h
 |(p,q)::θ,hn,t,u,v,h1,h2=>by
  have hn':NS θ=true:=by cases q<;>(simp only[NS,Ab]at hn;exact hn.2)
  have key:∀x,(p,some v)=(p,q)->(x,some v)∈θ->False:=by intro x hq hx;cases hq;simp only[NS,Ab,A3]at hn;have:=hn.1 _ hx;simp at this
  rcases Ae.1 h1 with h3|h3<;>rcases Ae.1 h2 with h4|h4
  ·cases h3;cases h4;rfl
  ·cases h3;exact(key u rfl h4).elim
  ·cases h4;exact(key t rfl h3).elim
  ·exact Zy hn' h3 h4
def Ci(hp:List (Nat × Af))(t:Nat):Option Nat:=match AO hp t with
 |some (.box ..)=>some 0
 |some (.row _ _ g _ _)=>some g
 |some (.ca g _)=>some g
 |some (.deep _ _ _ g _ _)=>some g
 |_=>none
def Ht(hp:List (Nat × Af))(t:Nat):Bool:=match AO hp t with
 |some (.box ..)=>true
 |some (.row ..)=>true
 |some (.deep ..)=>true
 |_=>false
def L3(pat leaf:Option Af)(g:GI):GI:=match pat,leaf with
 |some (.row ..),some (.deep ..)=>⟨g.top.take 1,[]⟩
 |_,_=>g
theorem zCb{p l:Option Af}{g:GI}{b:Nat}(h:b∈(L3 p l g).top):b∈g.top:=by
 unfold L3 at h;split at h
 ·exact Bt h
 ·exact h
theorem zBm{p l:Option Af}{g:GI}{b:Nat}(h:b∈(L3 p l g).own):b∈g.own:=by
 unfold L3 at h;split at h
 ·simp only[GI.own,AB]at h;simp[GI.own,Bt h]
 ·exact h
theorem zyr{p l:Option Af}{g:GI}(h:g.own.Nodup):(L3 p l g).own.Nodup:=by
 unfold L3;split
 ·simp only[GI.own,AB]at h ⊢;exact List.Sublist.nodup (List.Sublist.trans (List.take_sublist _ _) (List.sublist_append_left _ _)) h
 ·exact h
def Dz(c:Cx)(ρ:List AV)(θ:List (Nat × Option Nat))(pat leaf:St):Cx:=
 {c with
  ρ:=ρ
  G:=λt=>if Ht pat.hp t then(match θ.lookup t with|some (some t')=>L3 (AO pat.hp t) (AO leaf.hp t') (c.G t')|_=>⟨[],[]⟩)else⟨[],[]⟩
  K:=λt g=>Ci pat.hp t=some g
  H:=λt _=>match θ.lookup t with|some (some t')=>c.H t' ((Ci leaf.hp t').getD 0)|_=> .slice none 0 0
  U:=λt=>t<pat.nx
  E:=λt=>match AO pat.hp t with|some (.deep _ _ _ _ ep _)=>ep|_=>0}
section
variable {c:Cx} {ρ:List AV} {nv n:Nat} {es:List E} {θ:List (Nat × Option Nat)} {pat leaf:St} {sl:Nat->SV} {a:Act}
theorem NW{t b:Nat}(h:b∈((Dz c ρ θ pat leaf).G t).own):Ht pat.hp t=true/\ ∃t',θ.lookup t=some (some t')/\(b∈((Dz c ρ θ pat leaf).G t).top->b∈(c.G t').top)/\b∈(c.G t').own:=by
 simp only[Dz]at h ⊢;split at h
 ·rename_i ho;split at h
  ·rename_i t' ht;exact⟨ho,t',ht,λhb=>by rw[if_pos ho]at hb;exact zCb hb,zBm h⟩
  ·simp[GI.own]at h
 ·simp[GI.own]at h
theorem SN{b:Nat}(h:c.ok b):(Dz c ρ θ pat leaf).ok b:=by refine⟨λ⟨t,ht⟩=> ?_,h.2⟩;obtain⟨_,t',_,hg,_⟩:=NW (b:=b) (by simp only[GI.own,Ac];exact .inl ht);exact h.1 ⟨t',hg ht⟩
theorem Mn(hp:ρ<+:c.ρ)(hn:ρ.length=nv){x y:E}(h:J8 nv es x y=true):x.den (ρ++(EL.of es).den c.ρ)=y.den c.ρ:=by
 obtain⟨τ,hτ⟩:=hp;have LD:x.sc nv=true->x.beq y=true->x.den (ρ++(EL.of es).den c.ρ)=y.den c.ρ:=by intro h1 h2;rw[<-E.ay c.ρ x y h2];subst hn;generalize hq:(EL.of es).den c.ρ=q;rw[E.bd ρ q τ x h1,hτ]
 unfold J8 at h;split at h
 ·rename_i i;split at h
  ·rename_i hi;exact LD (by simpa[E.sc]using hi) h
  ·rename_i hi;split at h
   ·rename_i z hz;rw[<-E.ay c.ρ z y h];simp only[E.den,EL.dq];rw[List.getElem?_append_right (by omega),hn,List.getElem?_map,hz];rfl
   ·cases h
 ·simp only[Ab]at h;exact LD h.1 h.2
theorem zBD(hrel:Rel c n sl (AO leaf.hp) a){s:SV}{v:Value}{y:E}(hs:SR c [s] [v])(h:Jw leaf s=some y):∃f,Rd c.w [v] [y.den c.ρ] f/\ ∀b∈f,c.ei (Cb (AO leaf.hp) [] (A8+1) [s]) b:=
 Ig (λt e hr=>hrel.ents t e hr) (E4 _) A8 h hs A8 (AN _)
mutual
theorem rX(hrel:Rel c n sl (AO leaf.hp) a)(hp:ρ<+:c.ρ)(hn:ρ.length=nv)(CD:∀t e,(t,e)∈pat.hp->Io nv es θ pat leaf t e=true):∀(m:Nat) {p s:SV} {v:Value},Uz nv es θ pat leaf m p s=true->SR c [s] [v]->SR (Dz c (ρ++(EL.of es).den c.ρ) θ pat leaf) [p] [v]
 |0,p,s,v,h,_=>by simp[Uz]at h
 |m+1,p,s,v,h,hs=>by
  unfold Uz at h;split at h
  ·exact .undef .nil
  ·rename_i x;split at h
   ·rename_i y hy;simp only[Ab,A3,Bool.or_eq_true]at h;obtain⟨f,hf,IL⟩:=zBD hrel hs hy;have hx:=Mn (c:=c) hp hn h.1;refine .e (by rw[show(Dz c (ρ++(EL.of es).den c.ρ) θ pat leaf).ρ=ρ++(EL.of es).den c.ρ from rfl,hx];exact hf) (λb hb=> ?_) .nil;rcases IL b hb with hb|⟨t',M5,hb⟩
    ·exact SN hb
    ·refine⟨λ⟨u,hu⟩=> ?_, .inr (hrel.gw.allow t' b (by simp[GI.own,hb]))⟩;obtain⟨ho,v',hl,hg,TA⟩:=NW (b:=b) (by simp only[GI.own,Ac];exact .inl hu);have hv:v'=t':=by
      refine Classical.byContradiction λBB=>hrel.gw.cy v' t' BB b TA (by simp[GI.own,hb])
     subst hv;have:=h.2 _ M5 _ (Ny hl);simp only[bne_self_eq_false,Ba,false_or]at this;unfold Ht at ho;split at this
     ·rename_i hh;rw[hh]at ho;simp at ho
     ·rename_i hh;rw[hh]at ho;simp at ho
     ·cases this
   ·cases h
  ·split at h
   ·cases hs with
    |cm _=>exact .cm .nil
   ·cases h
  ·split at h
   ·cases hs with
    |emp _=>exact .emp .nil
   ·cases hs with
    |cm _=>exact .emp .nil
   ·cases h
  ·rename_i t g;have key:∀t' v',Ci pat.hp t=some g->θ.lookup t=some (some t')->K5 leaf.hp t' v'=true->SR c [.own t' v'] [v]->SR (Dz c (ρ++(EL.of es).den c.ρ) θ pat leaf) [.own t g] [v]:=by
    intro t' v' hg hl hv hs;cases hs with
    |own h1 h2 _=>
     refine .own hg ?_ .nil;show(match θ.lookup t with|some (some t')=>c.H t' ((Ci leaf.hp t').getD 0)|_=>Value.slice none 0 0)=_;rw[hl];have:(Ci leaf.hp t').getD 0=v':=by
      unfold K5 at hv;unfold Ci;split at hv
      ·rename_i hh;rw[hh];simpa using(AM.1 hv).symm
      ·rename_i hh;rw[hh];simpa using(AM.1 hv).symm
      ·rename_i hh;rw[hh];simpa using(AM.1 hv).symm
      ·cases hv
     show c.H t' ((Ci leaf.hp t').getD 0)=_;rw[this];exact h2
   split at h
   ·rename_i g' _ _ Ev;simp only[Ab,AM]at h;obtain⟨rfl,h⟩:=h;split at h
    ·simp only[Ab,AM]at h;exact key _ _ (by simp[Ci,Ev]) h.1 h.2 hs
    ·rw[AM]at h;cases hs with
     |cm _=>refine .own (p:=none) (q:=0) (r:=0) (by show Ci pat.hp t=some g;simp[Ci,Ev]) ?_ .nil;show(match θ.lookup t with|some (some t')=>c.H t' ((Ci leaf.hp t').getD 0)|_=>Value.slice none 0 0)=_;rw[h]
    ·cases h
   ·rename_i g' _ Ev;simp only[Ab,AM]at h;obtain⟨rfl,h⟩:=h;split at h
    ·simp only[Ab,AM]at h;exact key _ _ (by simp[Ci,Ev]) h.1 h.2 hs
    ·cases h
   ·rename_i g' _ _ Ev;simp only[Ab,AM]at h;obtain⟨rfl,h⟩:=h;split at h
    ·simp only[Ab,AM]at h;exact key _ _ (by simp[Ci,Ev]) h.1 h.2 hs
    ·rw[AM]at h;cases hs with
     |cm _=>refine .own (p:=none) (q:=0) (r:=0) (by show Ci pat.hp t=some g;simp[Ci,Ev]) ?_ .nil;show(match θ.lookup t with|some (some t')=>c.H t' ((Ci leaf.hp t').getD 0)|_=>Value.slice none 0 0)=_;rw[h]
    ·cases h
   ·cases h
  ·rename_i t o;split at h
   ·rename_i ty g cs Ev;split at h
    ·rename_i t' o';simp only[Ab,AM]at h;obtain⟨rfl,hl⟩:=h;have Iz:=CD t _ (Jl Ev);simp only[Io,hl]at Iz;split at Iz
     ·rename_i Dv;cases hs with
      |cw h1 h2 _=>
       refine .cw (by show Ci pat.hp t=some 0;simp[Ci,Ev]) ?_ .nil;show(match θ.lookup t with|some (some t')=>c.H t' ((Ci leaf.hp t').getD 0)|_=>Value.slice none 0 0)=_;rw[hl];have:(Ci leaf.hp t').getD 0=0:=by simp[Ci,Dv]
       simp only[this];exact h2
     ·cases Iz
    ·cases h
   ·cases h
  ·cases h
  ·rename_i x i z o;split at h
   ·rename_i y j z' o';simp only[Ab,AM]at h;obtain⟨⟨⟨⟨⟨rfl,rfl⟩,h1⟩,h2⟩,h3⟩,h4⟩:=h;have hx:x.den (ρ++(EL.of es).den c.ρ)=y.den c.ρ:=by
     obtain⟨τ,hτ⟩:=hp;rw[<-E.ay c.ρ x y h2];subst hn;generalize (EL.of es).den c.ρ=q;rw[E.bd ρ q τ x h1,hτ]
    have hi:i.den (ρ++(EL.of es).den c.ρ)=j.den c.ρ:=by obtain⟨τ,hτ⟩:=hp;rw[<-E.ay c.ρ i j h4];subst hn;generalize (EL.of es).den c.ρ=q;rw[E.bd ρ q τ i h3,hτ]
    cases hs with
    |dj g1 g2 g3 g4 g5 g6 _=>refine .dj (f:=_) (by show Rd c.w _ [x.den (ρ++(EL.of es).den c.ρ)] _;rw[hx];exact g1) (λb hb=>SN (g2 b hb)) (by show i.den (ρ++(EL.of es).den c.ρ)=_;rw[hi];exact g3) g4 g5 (by show((x.den (ρ++(EL.of es).den c.ρ)).nth _).cells.length=_;rw[hx];exact g6) .nil
   ·cases h
  ·rename_i x o;split at h
   ·rename_i y o';simp only[Ab,AM]at h;obtain⟨⟨rfl,h1⟩,h2⟩:=h;have hx:x.den (ρ++(EL.of es).den c.ρ)=y.den c.ρ:=by
     obtain⟨τ,hτ⟩:=hp;rw[<-E.ay c.ρ x y h2];subst hn;generalize (EL.of es).den c.ρ=q;rw[E.bd ρ q τ x h1,hτ]
    cases hs with
    |dn g1 g2 _=>exact .dn (by show Rd c.w _ [x.den (ρ++(EL.of es).den c.ρ)] _;rw[hx];exact g1) (λb hb=>SN (g2 b hb)) .nil
   ·cases h
  ·split at h
   ·cases hs with
    |agg h9 h1 _=>exact .agg h9 (Wm hrel hp hn CD m h h1) .nil
   ·cases h
  ·split at h
   ·cases hs with
    |tup h1 _=>exact .tup (Wm hrel hp hn CD m h h1) .nil
   ·cases h
  ·split at h
   ·simp only[Ab,AM]at h;obtain⟨rfl,h⟩:=h;cases hs with
    |fn h1 _=>exact .fn (Wm hrel hp hn CD m h h1) .nil
   ·cases h
  ·cases h
  ·cases h
  ·cases h
  ·cases h
  ·rename_i i;split at h
   ·rename_i j;simp only[Ab,AM,AI]at h;obtain⟨rfl,hi⟩:=h;cases hs with
    |lent g1 _=>
     have hx:(E.var i).den (ρ++(EL.of es).den c.ρ)=(E.var i).den c.ρ:=by obtain⟨τ,hτ⟩:=hp;subst hn;generalize (EL.of es).den c.ρ=q;rw[E.bd ρ q τ (.var i) (by simpa[E.sc]using hi),hτ]
     exact .lent (show c.A.lo v ((E.var i).den (ρ++(EL.of es).den c.ρ)) by rw[hx];exact g1) .nil
   ·cases h
theorem Wm(hrel:Rel c n sl (AO leaf.hp) a)(hp:ρ<+:c.ρ)(hn:ρ.length=nv)(CD:∀t e,(t,e)∈pat.hp->Io nv es θ pat leaf t e=true):∀(m:Nat) {ps ss:List SV} {vs:List Value},Hz nv es θ pat leaf m ps ss=true->SR c ss vs->SR (Dz c (ρ++(EL.of es).den c.ρ) θ pat leaf) ps vs
 |0,ps,ss,vs,h,_=>by simp[Hz]at h
 |m+1,[],[],vs,h,hs=>by cases hs;exact .nil
 |m+1,p::ps,[],vs,h,hs=>by simp[Hz]at h
 |m+1,[],s::ss,vs,h,hs=>by simp[Hz]at h
 |m+1,p::ps,s::ss,[],h,hs=>by have:=hs.len;simp at this
 |m+1,p::ps,s::ss,v::vs,h,hs=>by simp only[Hz,Ab]at h;obtain⟨h1,h2⟩:=hs.cr;exact(rX hrel hp hn CD m h.1 h1).cons (Wm hrel hp hn CD m h.2 h2)
end
theorem zxX(hrel:Rel c n sl (AO leaf.hp) a)(hp:ρ<+:c.ρ)(hn:ρ.length=nv)(CD:∀t e,(t,e)∈pat.hp->Io nv es θ pat leaf t e=true)(hθ:NS θ=true){t:Nat}{e:Af}(ht:AO pat.hp t=some e):DE (Dz c (ρ++(EL.of es).den c.ρ) θ pat leaf) t e:=by
 have h:=CD t e (Jl ht);have o0:Ht pat.hp t=false->(Dz c (ρ++(EL.of es).den c.ρ) θ pat leaf).G t=⟨[],[]⟩:=by intro h0;simp only[Dz];rw[if_neg (by rw[h0];simp)]
 have o6:∀t',Ht pat.hp t=true->θ.lookup t=some (some t')->(Dz c (ρ++(EL.of es).den c.ρ) θ pat leaf).G t=L3 (AO pat.hp t) (AO leaf.hp t') (c.G t'):=by intro t' h0 hl;simp only[Dz];rw[if_pos h0,hl]
 have Tn:∀t',Ht pat.hp t=true->θ.lookup t=some (some t')->(∀q1 q2 q3 q4 q5 q6,AO leaf.hp t'=some (.deep q1 q2 q3 q4 q5 q6)-> ∀p1 p2 p3 p4 p5,e≠ .row p1 p2 p3 p4 p5)->(Dz c (ρ++(EL.of es).den c.ρ) θ pat leaf).G t=c.G t':=by
  intro t' h0 hl DI;rw[o6 t' h0 hl,ht];unfold L3;split
  ·rename_i h1 h2;simp only[Ad]at h1;exact absurd h1 (DI _ _ _ _ _ _ h2 _ _ _ _ _)
  ·rfl
 have Lr:∀t' g,θ.lookup t=some (some t')->Ci leaf.hp t'=some g-> ∀g',(Dz c (ρ++(EL.of es).den c.ρ) θ pat leaf).H t g'=c.H t' g:=by intro t' g hl hg g';simp only[Dz,hl,hg,Dp]
 have ES:∀g,Ci pat.hp t=some g-> ∀g',(Dz c (ρ++(EL.of es).den c.ρ) θ pat leaf).K t g'->g'<=g:=by intro g hg g' hk;have Cw:Ci pat.hp t=some g':=hk;rw[hg]at Cw;cases Cw;exact AN _
 cases e with
 |box ty g cs=>
  simp only[Io]at h;split at h
  ·rename_i t' hl;split at h
   ·rename_i ty' g' ds Dv;simp only[Ab,AM]at h;obtain⟨⟨rfl,rfl⟩,h⟩:=h;obtain⟨b,C,h1,h2,h3,h4,h5,h6,h7⟩:=hrel.ents t' _ (by rw[Dv];rfl);have hg:=Tn t' (by simp[Ht,ht]) hl (by intros;simp);exact⟨b,C,by show Ci pat.hp t=some 0;simp[Ci,ht],by rw[Lr t' 0 hl (by simp[Ci,Dv])];exact h2,by rw[hg];exact h3,by rw[hg];exact h4,h5,h6,Wm hrel hp hn CD _ h h7⟩
   ·cases h
  ·cases h
 |row et z g x d=>
  simp only[Io]at h;split at h
  ·rename_i t' hl;split at h
   ·rename_i et' z' g' y d' Dv;simp only[Ab,AM,Bool.or_eq_true,Bc]at h;obtain⟨⟨⟨rfl,rfl⟩,hx⟩,hd⟩:=h;obtain⟨h1,h2,N,h3,h4,h5,h6⟩:=hrel.ents t' _ (by rw[Dv];rfl);have hg:=Tn t' (by simp[Ht,ht]) hl (λ_ _ _ _ _ _ hh=>by rw[Dv]at hh;cases hh);have D2:=Mn hp hn hx;have hK:Ci pat.hp t=some g:=by simp[Ci,ht]
    refine⟨hK,ES g hK,N,?_,λb hb=>SN (h4 b hb),λDQ=> ?_,λhdf=> ?_⟩
    ·rw[Lr t' g' hl (by simp[Ci,Dv]),hg];show Db c.w et z _ (x.den (ρ++(EL.of es).den c.ρ)) _ N;rw[D2];exact h3
    ·rw[hg];exact h5 (by rcases hd with hd|hd;rw[DQ]at hd;cases hd;exact hd)
    ·rw[hg];cases d' with
     |false=>exact h6 rfl
     |true=>obtain⟨u1,u2⟩:=h5 rfl;rw[u2];exact u1
   ·rename_i et' z' l' g' ep' y Dv;simp only[Ab,AM,Bc]at h;obtain⟨⟨⟨rfl,rfl⟩,hx⟩,rfl⟩:=h;obtain⟨h1,h2,_,h3,h4⟩:=hrel.ents t' _ (by rw[Dv];rfl);have hg:(Dz c (ρ++(EL.of es).den c.ρ) θ pat leaf).G t=⟨(c.G t').top.take 1,[]⟩:=by
     rw[o6 t' (by simp[Ht,ht]) hl,ht,Dv];rfl
    have D2:=Mn hp hn hx;have hK:Ci pat.hp t=some g:=by simp[Ci,ht]
    obtain⟨f,k1,k2⟩:=h3.ownRow;have B6:((c.G t').top.take 1++(c.G t').top.drop 1).Nodup:=by rw[Cf];have:=hrel.gw.nodup t';simp only[GI.own,h4,AB]at this;exact this
    refine⟨hK,ES g hK,f,?_,λb hb=> ?_,λDQ=>(by cases DQ),λ_=>by rw[hg]⟩
    ·rw[Lr t' g' hl (by simp[Ci,Dv]),hg];show Db c.w et z _ (x.den (ρ++(EL.of es).den c.ρ)) _ f;rw[D2];exact k1
    ·have CS:b∈(c.G t').top:=BH (k2 b hb);refine⟨λ⟨u,hu⟩=> ?_, .inr (hrel.gw.allow t' b (by simp[GI.own,CS]))⟩;obtain⟨_,v',BS,_,TA⟩:=NW (b:=b) (by simp only[GI.own,Ac];exact .inl hu);have hv:v'=t':=Classical.byContradiction λBB=>hrel.gw.cy v' t' BB b TA (by simp[GI.own,CS]);subst hv;have:=Zy hθ (Ny BS) (Ny hl);subst this;rw[hg]at hu;exact(List.nodup_append.1 B6).2.2 b hu b (k2 b hb) rfl
   ·cases h
  ·rename_i hl;simp only[Ab,AI]at h;have D2:=Mn hp hn h.1;have hK:Ci pat.hp t=some g:=by simp[Ci,ht]
   have hg:(Dz c (ρ++(EL.of es).den c.ρ) θ pat leaf).G t=⟨[],[]⟩:=by simp[Dz,hl]
   refine⟨hK,ES g hK,[],⟨[],?_,by simp,h.2, .inl ⟨rfl,⟨none,?_⟩,by rw[hg],rfl⟩⟩,by simp,λ_=>⟨rfl,by rw[hg]⟩,λ_=>by rw[hg]⟩
   ·show x.den (ρ++(EL.of es).den c.ρ)=_;rw[D2];rfl
   ·simp[Dz,hl]
  ·cases h
 |ca g x=>
  have hg:=o0 (by simp[Ht,ht]);have hK:Ci pat.hp t=some g:=by simp[Ci,ht]
  simp only[Io]at h;split at h
  ·rename_i t' hl;have IL:∀b,b∈(c.G t').top->(Dz c (ρ++(EL.of es).den c.ρ) θ pat leaf).ok b:=by
    intro b hb;refine⟨λ⟨u,hu⟩=> ?_, .inr (hrel.gw.allow t' b (by simp[GI.own,hb]))⟩;obtain⟨ho,v',BS,CE,TA⟩:=NW (b:=b) (by simp only[GI.own,Ac];exact .inl hu);have hv:v'=t':=Classical.byContradiction λBB=>hrel.gw.cy v' t' BB b TA (by simp[GI.own,hb]);subst hv;have:=Zy hθ (Ny BS) (Ny hl);subst this;simp[Ht,ht]at ho
   split at h
   ·rename_i et' z' g' y d' Dv;obtain⟨h1,h2,N,h3,h4,h5,h6⟩:=hrel.ents t' _ (by rw[Dv];rfl);obtain⟨f,r1,r2,_⟩:=h3.rd;refine⟨hK,⟨f,?_,λb hb=>(r2 b hb).elim (IL b) λhb=>SN (h4 b hb)⟩,by rw[hg],by rw[hg]⟩;rw[Lr t' g' hl (by simp[Ci,Dv])];show Rd c.w _ [x.den (ρ++(EL.of es).den c.ρ)] f;rw[Mn hp hn h];exact r1
   ·rename_i g' y Dv;obtain⟨h1,⟨f,r1,r2⟩,_,_⟩:=hrel.ents t' _ (by rw[Dv];rfl);refine⟨hK,⟨f,?_,λb hb=>SN (r2 b hb)⟩,by rw[hg],by rw[hg]⟩;rw[Lr t' g' hl (by simp[Ci,Dv])];show Rd c.w _ [x.den (ρ++(EL.of es).den c.ρ)] f;rw[Mn hp hn h];exact r1
   ·rename_i et' z' l' g' ep' y Dv;obtain⟨h1,h2,_,h3,h4⟩:=hrel.ents t' _ (by rw[Dv];rfl);obtain⟨f,r1,r2⟩:=h3.rd;refine⟨hK,⟨f,?_,λb hb=>IL b (r2 b hb)⟩,by rw[hg],by rw[hg]⟩;rw[Lr t' g' hl (by simp[Ci,Dv])];show Rd c.w _ [x.den (ρ++(EL.of es).den c.ρ)] f;rw[Mn hp hn h];exact r1
   ·cases h
  ·cases h
 |hol=>simp[Io]at h
 |pre=>simp[Io]at h
 |deep et z dl g ep x=>
  have hE:(Dz c (ρ++(EL.of es).den c.ρ) θ pat leaf).E t=ep:=by simp[Dz,ht]
  have hK:Ci pat.hp t=some g:=by simp[Ci,ht]
  simp only[Io]at h;split at h
  ·rename_i t' hl;split at h
   ·rename_i et' z' dl' g' ep' y Dv;simp only[Ab,AM]at h;obtain⟨⟨⟨rfl,rfl⟩,Ow⟩,hx⟩:=h;have Ow:=Av.fb Ow;subst Ow;obtain⟨h1,h2,_,h3,h4⟩:=hrel.ents t' _ (by rw[Dv];rfl);have hg:=Tn t' (by simp[Ht,ht]) hl (by intros;simp);refine⟨hK,ES g hK,hE,?_,by rw[hg];exact h4⟩;rw[Lr t' g' hl (by simp[Ci,Dv]),hg];show DC c.w _ _ [x.den (ρ++(EL.of es).den c.ρ)] _;rw[Mn hp hn hx];exact h3
   ·cases h
  ·rename_i hl;have hg:(Dz c (ρ++(EL.of es).den c.ρ) θ pat leaf).G t=⟨[],[]⟩:=by simp[Dz,hl]
   simp only[Ab,AI,AM]at h;refine⟨hK,ES g hK,hE,?_,by rw[hg]⟩;have e1:(Dz c (ρ++(EL.of es).den c.ρ) θ pat leaf).H t g= .slice none 0 0:=by simp[Dz,hl]
   rw[e1,hg];show DC c.w _ _ [x.den (ρ++(EL.of es).den c.ρ)] _;rw[Mn hp hn h.1.1];exact .void h.1.2 (by rw[Av.ax];exact h.2) .nil
  ·cases h
 |gd gs e=>simp[Io]at h
 |dead=>have hg:=o0 (by simp[Ht,ht]);exact⟨by rw[hg],by rw[hg]⟩
end
theorem zwR{nv:Nat}{es:List E}{θ:List (Nat × Option Nat)}{pat leaf:St}:∀(m:Nat) {ps ss:List SV},Hz nv es θ pat leaf m ps ss=true-> ∀{i:Nat} {p:SV},ps[i]?=some p-> ∃s k,ss[i]?=some s/\Uz nv es θ pat leaf k p s=true
 |0,ps,ss,h,_,_,_=>by simp[Hz]at h
 |m+1,[],ss,h,i,p,hp=>by simp at hp
 |m+1,q::ps,[],h,i,p,hp=>by simp[Hz]at h
 |m+1,q::ps,s::ss,h,i,p,hp=>by
  simp only[Hz,Ab]at h;cases i with
  |zero=>simp at hp;subst hp;exact⟨s,m,rfl,h.1⟩
  |succ i=>simpa using zwR m h.2 (by simpa using hp)
theorem zBx:aO:=by
 intro F nv pat τ es ρ ρ' a w hi hn hp hr;obtain⟨c,rfl,rfl,Na,hA,aZ,Gu,hU,hrel⟩:=hr;unfold KT at hi;simp only at hi;split at hi
 ·rename_i AZ;simp only[Ad]at hi;generalize bZ:(List.range (pat.nv-nv)).map (λj=>((PV nv pat τ true pat.hp (PV nv pat τ false pat.hp (No nv pat τ 2000 ⟨[],[]⟩ pat.sl τ.sl))).as_.lookup (nv+j)).getD (.int .i64 0))=es0 at AZ hi;subst hi;generalize (PV nv pat τ true pat.hp (PV nv pat τ false pat.hp (No nv pat τ 2000 ⟨[],[]⟩ pat.sl τ.sl))).θ=θ at AZ;clear bZ;simp only[sW,Ab,AM,A3,AI]at AZ;obtain⟨⟨⟨⟨⟨⟨h1,hθ⟩,hlen⟩,Dr⟩,BZ⟩,hnx⟩,Ue⟩:=AZ;have CD:∀t e,(t,e)∈pat.hp->Io nv es0 θ pat τ t e=true:=λt e he=>(BZ _ he).1;have Ax:∀t e,(t,e)∈pat.hp->t<pat.nx:=λt e he=>(BZ _ he).2;have T9:∀t e,AO pat.hp t=some e-> ∀gs e',e≠ .gd gs e':=by
   rintro t e he gs e' rfl;have:=CD t _ (Jl he);simp[Io]at this
  have AL:∀t e e',AO pat.hp t=some e->(CN (ρ++(EL.of es0).den c.ρ) (AO pat.hp t) e'↔e'=e):=by
   intro t e e' he;rw[he];cases e with
   |gd gs e9=>exact absurd rfl (T9 t _ he gs e9)
   |_=>simp[CN,eq_comm]
  refine⟨Dz c (ρ++(EL.of es0).den c.ρ) θ pat τ,rfl,rfl,Na,hA,aZ,?_,λt ht=>ht,hrel.defers,by rw[hlen];exact hrel.size,⟨hrel.base.os,hrel.base.tape,hrel.base.output,hrel.base.size,λt v Qn=> ?_,hrel.base.block,hrel.base.pk,hrel.base.lo⟩,λi=> ?_,λt e hr=> ?_,λt DI=> ?_,⟨λt=> ?_,λt u M8 b hb Cl=> ?_,λt b hb=> ?_,λt b hb=> ?_⟩,λt g hk=> ?_,λt e he=>Ax t e (Jl he)⟩
  ·rw[h1,EL.dq];simp[hn]
  ·have OG:Oa t=true:=F.mb t v (by rw[<-hA];exact Qn);refine⟨by
    show t<pat.nx;unfold Oa at OG;simp only[Ab,AI]at OG;omega,λhk=> ?_⟩
   have Cw:Ci pat.hp t=some 0:=hk;obtain⟨e,dN⟩:∃e,AO pat.hp t=some e:=by
    unfold Ci at Cw;cases hh:AO pat.hp t with
    |none=>rw[hh]at Cw;cases Cw
    |some e=>exact⟨e,rfl⟩
   have D1:=Ue _ (Jl dN);simp only[OG,Bool.not_true,Bool.false_or]at D1;have main:θ.lookup t=some (some t)->Ci τ.hp t=some 0->c.K t 0->(Dz c (ρ++(EL.of es0).den c.ρ) θ pat τ).H t 0=v:=by intro hl hg hK;simp only[Dz,hl,hg,Dp];exact(hrel.base.pins t v Qn).2 hK
   unfold Nf at D1;simp only[Ci,dN]at Cw;rw[dN]at D1;cases e with
   |box ty g cs=>
    simp only[Ab,AM]at D1;obtain⟨hl,hb⟩:=D1;split at hb
    ·rename_i ty' g' cs' Dv;obtain⟨b,C,q1,_⟩:=hrel.ents t _ (by rw[Dv];rfl);exact main hl (by simp[Ci,Dv]) q1
    ·cases hb
   |row ety sz g x d=>
    simp only[Ad]at Cw;subst Cw;simp only[bne_self_eq_false,Bool.false_or,Ab,AM]at D1;obtain⟨hl,hb⟩:=D1;split at hb
    ·rename_i ety' sz' g' x' d' Dv;rw[AM]at hb;subst hb;obtain⟨q1,_⟩:=hrel.ents t _ (by rw[Dv];rfl);exact main hl (by simp[Ci,Dv]) q1
    ·cases hb
   |ca g x=>simp only[Ad]at Cw;subst Cw;simp at D1
   |gd=>simp at Cw
   |dead=>simp at Cw
   |hol=>simp at Cw
   |pre=>simp at Cw
   |deep ety sz l g ep x=>
    simp only[Ad]at Cw;subst Cw;simp only[bne_self_eq_false,Bool.false_or,Ab,AM]at D1;obtain⟨hl,hb⟩:=D1;split at hb
    ·rename_i Dv;rw[AM]at hb;subst hb;obtain⟨q1,_⟩:=hrel.ents t _ (by rw[Dv];rfl);exact main hl (by simp[Ci,Dv]) q1
    ·cases hb
  ·unfold BR;cases Ud:pat.sl[i]? with
   |none=>exact .undef .nil
   |some p=>obtain⟨s,k,hs,hk⟩:=zwR _ Dr Ud;have:=hrel.da i;unfold BR at this;rw[hs]at this;exact rX hrel hp hn CD k hk this
  ·cases he:AO pat.hp t with
   |none=>rw[he]at hr;exact hr.elim
   |some e9=>have Oy:=(AL t e9 e he).1 hr;subst Oy;exact zxX hrel hp hn CD hθ he
  ·have:Ht pat.hp t=false:=by
    cases he:AO pat.hp t with
    |none=>simp[Ht,he]
    |some e9=>exact absurd ((AL t e9 e9 he).2 rfl) (DI e9)
   simp[Dz,this]
  ·simp only[Dz];split
   ·split
    ·exact zyr (hrel.gw.nodup _)
    ·simp[GI.own]
   ·simp[GI.own]
  ·obtain⟨_,t',hl,_,CS⟩:=NW hb;obtain⟨_,u',BS,_,IA⟩:=NW Cl;by_cases hh:t'=u'
   ·subst hh;exact M8 (Zy hθ (Ny hl) (Ny BS))
   ·exact hrel.gw.cy t' u' hh b CS IA
  ·obtain⟨_,t',hl,_,CS⟩:=NW hb;exact hrel.gw.allow t' b CS
  ·obtain⟨_,t',hl,_,CS⟩:=NW hb;exact hrel.gw.inb t' b CS
  ·have Cw:Ci pat.hp t=some g:=hk;unfold Ci at Cw;show t<pat.nx;split at Cw
   ·rename_i hh;exact Ax t _ (Jl hh)
   ·rename_i hh;exact Ax t _ (Jl hh)
   ·rename_i hh;exact Ax t _ (Jl hh)
   ·rename_i hh;exact Ax t _ (Jl hh)
   ·cases Cw
 ·cases hi
theorem VI(l:List DT):∀(n k o m:Nat),k<n->o+m<=l.length->((Bq n l).drop (k*l.length+o)).take m=(l.drop o).take m
 |0,k,_,_,h,_=>by omega
 |n+1,0,o,m,_,hm=>by rw[PE,Nat.zero_mul,Nat.zero_add,List.drop_append_of_le_length (by omega),List.take_append_of_le_length (by simp;omega)]
 |n+1,k+1,o,m,h,hm=>by have ih:=VI l n k o m (by omega) hm;rw[<-ih,PE,show(k+1)*l.length+o=l.length+(k*l.length+o)from by rw[Nat.add_mul];omega,List.drop_append,List.drop_eq_nil_of_le (by omega)];simp
theorem DC.elem{w:World}{ys:List AV}{l:List DT}{cells:List Value}{N:List Nat}{z:Nat}(h:DC w (Bq ys.length l) cells (Ao ys) N)(hl:l.length=z)(h7:∀y∈ys,y.cells.length=z){k o m:Nat}(hk:k<ys.length)(hm:o+m<=z):
  ∃M,(∀b∈M,b∈N)/\DC w ((l.drop o).take m) ((cells.drop (k*z+o)).take m) ((((AV.sl ys).nth k).cells.drop o).take m) M:=by
 obtain⟨N1,N2,N3,rfl,_,h2,_⟩:=h.split (k*z+o) m;subst hl;rw[VI l _ _ _ _ hk hm,VY ys h7 k _ (NX hk) o m hm]at h2;exact⟨N2,λb hb=>by simp[hb],h2⟩
theorem Rd.kr{w:World}{vs:List Value}{x:AV}{f:List Nat}{o m:Nat}{g:Bool}(h:Rd w vs ((x.cells.drop o).take m) f)(h9:∀u∈vs,u.oneCell'=true)(hm:o+m<=x.cells.length)(h1:g=false->m=1):
  Rd w [if g then .agg vs.toArray else vs.headD undef] [x.fld o m g] f:=by
 cases g with
 |true=>have:=Rd.agg h9 h .nil;simpa[AV.fld]using this
 |false=>
  have:=h1 rfl;subst this;have e2:(x.cells.drop o).take 1=[x.cells[o]'(by omega)]:=by rw[Bl (by omega),List.take_succ_cons,List.take_zero]
  rw[e2]at h;have hl:=h.len
  match vs,hl with
  | [v],_=>simpa[AV.fld,show o<x.cells.length by omega]using h
section
variable {P:Program} {c:Cx} {n nx:Nat} {sl sl0:Nat->SV} {hp hp0:Nat->Option Af} {a:Act} {o:Oper} {gs:Gd} {e:Bh} {sg:BY} {nv:Nat}
theorem ztO{w:World}{b p:Nat}{t:TypeId}{C:Array Value}{ty:TypeId}{fz:Nat × Nat}(hb:w.heap[b]?=some (.cells C ty fz))(ht:DD P t=true)(hg:Am P t=true\/P.cellsOf t=1)(hp:p+P.cellsOf t<=C.size):
  (Instr.loadAt t (.pointer (some ⟨b,p,none⟩))).run P w= .ok (if Am P t then .agg ((C.toList.drop p).take (P.cellsOf t)).toArray else((C.toList.drop p).take (P.cellsOf t)).headD undef) w:=by
 have MT:((C.toList.drop p).take (P.cellsOf t)).length=P.cellsOf t:=by rw[Ar,BC,BG];omega
 refine Sc ht _ (λ_=>MT) (λh=> ?_) (λj u hu=> ?_)
 ·rw[MT];rcases hg with h'|h';rw[h]at h';cases h';exact h'
 ·rw[ED hb];rw[List.getElem?_take]at hu;split at hu
  ·simpa using hu
  ·cases hu
theorem zzu{b g e z ep:Nat}{l:List DT}{c0 i:E}{t:TypeId}{k':Nat}{v:Value}(hE:DE c b (.deep e z l g ep c0))(hr:SR c [.cz b g i z k'] [v])(Bv:DD P t=true)(hle:k'+P.cellsOf t<=z)(AK:Am P t=true\/P.cellsOf t=1):
  ∃u,(Instr.loadAt t v).run P c.w= .ok u c.w/\(((l.drop k').take (P.cellsOf t)).all DT.cc=true->Rd c.w [u] [(E.fld (.idx c0 i) k' (P.cellsOf t) (Am P t)).den c.ρ] [])/\QI c b u ((E.fld (.idx c0 i) k' (P.cellsOf t) (Am P t)).den c.ρ)/\(Am P t=false->I2 c b g (some (i,z,k')) u):=by
 obtain⟨q1,q2,q3,q4,q5⟩:=hE;cases hr with
 |cz h1 h2 h3 h4 h5 _=>
  rename_i q len cap kk k h6;obtain⟨d1,d2,⟨a9,d3,_⟩|⟨g9,cap9,C,ys,N1,d3,d4,d5,d6,d7,d8,d9,d10,d11,d12⟩⟩:=q4.inv
  ·rw[h2]at d3;cases d3;omega
  ·rw[h2]at d3;cases d3;rw[Av.ax]at d2 d12;have hk:k.toNat<ys.length:=by omega
   have hmul:(k.toNat+1)*z<=ys.length*z:=By _ (by omega);have EX:ys.length*z<=cap*z:=By _ d7;rw[Nat.add_mul]at hmul;have AR:=ztO (P:=P) (t:=t) (p:=k.toNat*z+k') d6 Bv AK (by omega);obtain⟨M,m1,m2⟩:=d12.elem d2 d10 hk hle;have Gj:((C.toList.take (ys.length*z)).drop (k.toNat*z+k')).take (P.cellsOf t)=(C.toList.drop (k.toNat*z+k')).take (P.cellsOf t):=by rw[List.drop_take,List.take_take,Nat.min_eq_left (by omega)]
   rw[Gj]at m2;have Cp:∀u∈(C.toList.drop (k.toNat*z+k')).take (P.cellsOf t),u.oneCell'=true:=λu hu=>d11 u (by rw[<-Gj]at hu;exact BH (Bt hu))
   have qM:((AV.sl ys).nth k.toNat).cells.length=z:=d10 _ (List.mem_of_getElem? (NX hk));have Cv:(E.fld (.idx c0 i) k' (P.cellsOf t) (Am P t)).den c.ρ=((AV.sl ys).nth k.toNat).fld k' (P.cellsOf t) (Am P t):=by simp only[E.den,d4,h3,AV.idx]
   have KM:Am P t=false->P.cellsOf t=1:=λh=>by rcases AK with h'|h';rw[h]at h';cases h';exact h'
   refine⟨_,AR,λhf=> ?_,?_,λhf=> ?_⟩
   ·rw[Cv];exact(m2.je hf).kr Cp (by omega) KM
   ·obtain⟨f,r1,r2⟩:=m2.rd;rw[Cv];exact⟨f,r1.kr Cp (by omega) KM,λb hb=> .inr (by rw[d5];simp[m1 b (r2 b hb)])⟩
   ·refine⟨_,_,_,C,_,_,kk,k,h2,by rw[d5];simp,d6,h3,h4,h5,?_⟩;have Cg:=KM hf;have Ax:k.toNat*z+k'<C.size:=by omega
    have e1:(C.toList.drop (k.toNat*z+k')).take 1=[C[k.toNat*z+k']]:=by rw[Bl (by simpa using Ax),List.take_succ_cons,List.take_zero];simp
    rw[hf,Cg,e1];simp[Ax]
end
section
variable {P:Program} {c:Cx} {n nx:Nat} {sl sl0:Nat->SV} {hp hp0:Nat->Option Af} {a:Act} {o:Oper} {gs:Gd} {e:Bh} {sg:BY} {nv:Nat}
theorem BP.c8:∀l:BP,BP.of l.toList=l
 | .nil=>rfl
 | .cons s l=>by simp[BP.toList,BP.of,BP.c8 l]
theorem zAj(h:BE P c n nx sl hp a sl0 hp0 o gs){t:TypeId}{x:Operand}(ho:o.op= .load t x)(he:BX P sg sl0 hp0 nv nx gs o=some e)(hc:∀q∈e.cj,Cn.den c.ρ q):AD P o c n nx sl hp gs a e:=by
 have hm:x∈o.op.operands:=by simp[ho,Op.operands]
 simp only[BX,ho,Au,As]at he;obtain⟨s,hs,e1,he,rfl⟩:=he;have hr:=(h.c7 hs hm).asPtr (λq hq=>hc q (by simp[hq]));have pH:∀q∈e1.cj,Cn.den c.ρ q:=λq hq=>hc q (by simp[hq]);have ex:(execOp a.eval o).run P c.w=((Instr.loadAt t (a.eval x)).run P c.w).andThen λv w=> .ok (.value v) w:=by simp[execOp,ho]
 unfold qY at he;split at he
 ·cases he
 rename_i Bv;have Bv:DD P t=true:=by simpa using Bv
 generalize A9:(asPtr s).1=s1 at he hr;split at he
 ·rename_i b o';split at he
  ·rename_i ty g cs hl;obtain⟨s2,Bb,rfl⟩:=As.1 he;generalize ha:a.eval x=v at hr ex;cases hr with
   |cw h1 h2 _=>
    rename_i q;obtain⟨q',C,_,e2,e3,e4,e5,e5',e6⟩:=h.eh b _ (CP hl h.gs);rw[h2]at e2;cases e2;unfold Qa at Bb;have hlen:=e6.len;split at Bb
    ·rename_i AK;split at Bb
     ·rename_i hle;simp at Bb;subst Bb;obtain⟨r1,r2⟩:=e6.split o';obtain⟨r3,r4⟩:=r2.split (P.cellsOf t);have:=SR.agg (cs:=BP.of ((cs.drop o').take (P.cellsOf t))) (λu hu=>e5' u (BH (Bt hu))) (by rw[BP.ax];exact r3) .nil;refine AD.pure h (v:= .agg ((C.toList.drop o').take (P.cellsOf t)).toArray) ?_ this rfl;rw[ex,Sc Bv ((C.toList.drop o').take (P.cellsOf t)) (λ_=>by simp at hlen ⊢;omega) (λh=>by rw[AK]at h;cases h) (λj u hu=>by
       rw[ED e5];rw[List.getElem?_take]at hu;split at hu
       ·simpa using hu
       ·cases hu)]
      simp[AK]
     ·cases Bb
    ·rename_i AK;have AK:Am P t=false:=by simpa using AK
     obtain⟨u,hu,r⟩:=e6.get Bb;refine AD.pure h (v:=u) ?_ r rfl;rw[ex,Sc Bv [u] (λh=>by rw[AK]at h;cases h) (λ_=>rfl) (λj z hz=>by
      cases j with
      |zero=>simp at hz;subst hz;rw[ED e5];simpa using hu
      |succ j=>simp at hz)]
     simp[AK]
  ·cases he
 ·rename_i b g i sz o';split at he
  ·rename_i e0 sz' g' c0 d hl;split at he
   ·rename_i hh;obtain⟨rfl,rfl,hle,AK⟩:=hh;simp at he;subst he;generalize ha:a.eval x=v at hr ex;cases hr with
    |cz h1 h2 h3 h4 h5 _=>
     rename_i q len cap kk k h6;obtain⟨_,_,N,r1,r2,_,_⟩:=h.eh b _ (CP hl h.gs);obtain⟨f,r3,_,r4⟩:=r1.rd;obtain⟨xs,Cs,Aw,h0,A4⟩:=r1;rw[h2]at r3 A4;have hk:k.toNat<len:=by omega
     have IN:xs.length=len:=by
      rcases A4 with⟨_,⟨_,hv⟩,_⟩|⟨_,_,_,hv,_⟩
      ·cases hv;omega
      ·simp at hv;exact hv.2.1.symm
     have Bo:((c0.den c.ρ).nth k.toNat).cells.length=sz:=by rw[Cs];exact Aw _ (List.mem_of_getElem? (NX (xs:=xs) (by omega)))
     obtain⟨v',q',g1,g2,g3⟩:=lW r3 hk Bo Bv hle AK;refine AD.pure h (v:=v') ?_ (.e (f:=q') ?_ ?_ .nil) rfl
     ·rw[ex];rw[Nat.zero_add]at g1;simp[g1]
     ·simpa[E.den,AV.idx,h3]using g3
     ·exact λz hz=>r2 z (r4 z (g2 z hz))
   ·cases he
  ·rename_i e0 sz' l g' ep c0 hl;split at he
   ·rename_i hh;obtain⟨rfl,rfl,hle,AK⟩:=hh;generalize ha:a.eval x=v at hr ex;have hE:=h.eh b _ (CP hl h.gs);obtain⟨u,k1,k2,k3,k4⟩:=zzu (P:=P) (t:=t) hE hr Bv hle AK;have AR:(execOp a.eval o).run P c.w= .ok (.value u) c.w:=by rw[ex,k1];rfl
    split at he
    ·rename_i hf;simp only[Ad]at he;subst he;exact AD.pure h AR (.e (k2 hf) (by simp) .nil) rfl
    ·simp only[Ad]at he;subst he;cases hr with
     |cz h1 _ _ _ _ _=>
      refine AD.pure h AR (.via h1 (Nat.le_of_eq hE.2.2.1.symm) (λ_=>⟨k3,?_⟩) .nil) rfl;split
      ·exact trivial
      ·rename_i G9;exact k4 (by simpa using G9)
   ·cases he
  ·cases he
 ·rename_i b g m pth y i sz o';split at he
  ·rename_i hh;obtain⟨hle,AK,hv⟩:=hh;have hE:=SX h.eh h.gs hv;generalize ha:a.eval x=v at hr ex;cases hr with
   |vptr h1 h2 h3 _=>
    obtain⟨q,off,len,cap,kk,k,⟨f,p1,p2⟩,_,p4,p5,p6,p7,rfl⟩:=h3 hE;obtain⟨v',q',g1,g2,g3⟩:=lW (fo:=o') p1 (by omega) p7 Bv hle AK;have AR:(execOp a.eval o).run P c.w= .ok (.value v') c.w:=by rw[ex];simp[g1]
    have Cv:Rd c.w [v'] [(E.fld (.idx y i) o' (P.cellsOf t) (Am P t)).den c.ρ] q':=by simpa[E.den,AV.idx,p4]using g3
    split at he
    ·simp only[Ad]at he;subst he;obtain⟨f1,f2,f3,f4⟩:=Cg pH;have hq:q'=[]:=by
      cases hg:Am P t with
      |true=>obtain⟨cs,BD⟩:=f3 hg;obtain⟨as_,rfl,_,r⟩:=KE Cv BD;exact Hs r (by rw[BD]at f2;exact f2)
      |false=>exact Hs Cv (by simpa using f4 hg)
     subst hq;exact AD.pure h AR (.e Cv (by simp) .nil) rfl
    ·simp only[Ad]at he;subst he;exact AD.pure h AR (.via h1 h2 (λ_=>⟨⟨q',Cv,λz hz=>p2 z (List.mem_of_mem_tail (g2 z hz))⟩,trivial⟩) .nil) rfl
  ·cases he
 ·rename_i y i sz o';split at he
  ·rename_i hh;obtain⟨hle,AK⟩:=hh;simp at he;subst he;generalize ha:a.eval x=v at hr ex;cases hr with
   |dj h1 h2 h3 h4 h5 h6 _=>rename_i q off len cap f kk k;obtain⟨v',q',g1,g2,g3⟩:=lW (fo:=o') h1 (by omega) h6 Bv hle AK;refine AD.pure h (v:=v') ?_ (.e (f:=q') (by simpa[E.den,AV.idx,h3]using g3) (λz hz=>h2 z (List.mem_of_mem_tail (g2 z hz))) .nil) rfl;rw[ex];simp[g1]
  ·cases he
 ·rename_i y o';split at he
  ·rename_i AK;simp at he;subst he;generalize ha:a.eval x=v at hr ex;cases hr with
   |dn h1 h2 _=>
    rename_i q f;obtain⟨z,hz,hle⟩:=Cg pH;rw[hz]at h1;cases h1 with
    |ref hb Cl FR DR=>
     rename_i C ty fz f1 f2;obtain⟨q',g1,g2⟩:=FR.il Cl o' (P.cellsOf t) (Am P t) hle (λh=>by rcases AK with h'|h';rw[h]at h';cases h';exact h');have MT:((C.toList.drop o').take (P.cellsOf t)).length=P.cellsOf t:=by have:=FR.len;rw[Ar,BC];omega
     refine AD.pure h ?_ (.e (f:=q') (by simpa[E.den,hz,AV.deref]using g2) (λz hz=>h2 z (by simp[g1 z hz])) .nil) rfl;rw[ex,Sc Bv ((C.toList.drop o').take (P.cellsOf t)) (λ_=>MT) (λh=>by rw[MT];rcases AK with h'|h';rw[h]at h';cases h';exact h') (λj u hu=>by
       rw[ED hb];rw[List.getElem?_take]at hu;split at hu
       ·simpa using hu
       ·cases hu)]
     simp
  ·cases he
 ·cases he
end
theorem PQ(k:IntKind)(n:Int):E9 k n↔k.min<=n/\n<=k.max:=by unfold E9;cases k<;>simp only[IntKind.wrap,IntKind.bits,IntKind.signed,IntKind.min,IntKind.max]<;>simp<;>(try split)<;>omega
theorem mJ(k:IntKind)(n:Int):E9 k (k.wrap n):=by rw[PQ];cases k<;>simp only[IntKind.wrap,IntKind.bits,IntKind.signed,IntKind.min,IntKind.max]<;>simp<;>(try split)<;>omega
theorem zBM{k:IntKind}{x y:Int}(h:E9 k x):E9 k (x.tmod y):=by
 rw[PQ]at h ⊢;have h1:(x.tmod y).natAbs<=x.natAbs:=by rw[Int.natAbs_tmod];exact Nat.mod_le _ _
 have h2:0<=x->0<=x.tmod y:=Int.tmod_nonneg y;have LH:k.min<=0:=by cases k<;>decide
 have Fp:0<=k.max:=by cases k<;>decide
 constructor
 ·by_cases h0:0<=x
  ·have:=h2 h0;omega
  ·omega
 ·by_cases h0:0<=x
  ·omega
  ·have h3:x.tmod y<=0:=by
    have:=Int.tmod_nonneg (a:= -x) y (by omega);rw[Int.neg_tmod]at this;omega
   omega
theorem zBg{k:IntKind}{x:Int}(m:Nat)(h:E9 k x):E9 k (x.fdiv (2^m)):=by
 rw[PQ]at h ⊢;have hp:(0:Int)<2^m:=Int.pow_pos (by decide);rw[Int.fdiv_eq_ediv_of_nonneg _ (Int.le_of_lt hp)];have LH:k.min<=0:=by cases k<;>decide
 have Fp:0<=k.max:=by cases k<;>decide
 have h1:(1:Int)<=2^m:=hp;constructor
 ·rcases Int.le_total 0 x with h0|h0
  ·have:=Int.ediv_nonneg h0 (Int.le_of_lt hp);omega
  ·have:x<=x/2^m:=by
    rw[Int.le_ediv_iff_mul_le hp];have:=Int.mul_le_mul_of_nonpos_left h0 h1;omega
   omega
 ·rcases Int.le_total 0 x with h0|h0
  ·have:=Int.ediv_le_self (2^m) h0;omega
  ·have h2:x/2^m<=0:=by
    have:=Int.ediv_le_ediv hp h0;simpa using this
   omega
section
variable {P:Program} {c:Cx} {n nx:Nat} {sl sl0:Nat->SV} {hp hp0:Nat->Option Af} {a:Act} {o:Oper} {gs:Gd} {e:Bh} {sg:BY} {nv:Nat}
def AV.val:AV->Value
 | .int k n=> .int k n
 | .bool b=> .bool b
 | .str s=> .string ⟨s.toArray⟩
 |_=>Go.undef
theorem zxH{op:BinOp}{k k':IntKind}{x y:Int}(hk:k=k'\/op= .shl\/op= .shr)(hz:op= .quo\/op= .rem->y≠0)(hs:op= .shl\/op= .shr->0<=y)(t:TypeId)(p q:Operand)(w:World):
  (do eqGuard op t p q (.int k x) (.int k' y);binOp op t (.int k x) (.int k' y):Sem Value).run P w= .ok (CH op k x y).val w:=by
 have hg:=eqGuard_at_int op t p q (.int k' y) k x;cases op<;>simp only[reduceCtorEq,or_false,or_true,or_self]at hk hz hs<;>simp only[hg]
 all_goals first
  |(subst hk;simp[binOp,Op.intArith,Op.intCmp,Op.intBits,CH,AV.val];done)
  |(subst hk;have:=hz trivial;simp[binOp,Op.intDiv,CH,AV.val,this];done)
  |(have:=hs trivial;simp[binOp,Op.shift,CH,AV.val,Int.not_lt.2 this];done)
theorem zAC{op:BinOp}{k:IntKind}{x y:Int}(hx:E9 k x)(w:World):Rd w [(CH op k x y).val] [CH op k x y] []:=by
 cases op<;>simp only[CH,AV.val]<;>first
  |exact .int (mJ _ _) .nil
  |exact .bool .nil
  |exact .int (zBM hx) .nil
  |exact .int (zBg _ hx) .nil
theorem Rd.gq{w:World}{v:Value}{x:AV}{f:List Nat}(h:Rd w [v] [x] f):x≠ .undef:=by rintro rfl;cases h
theorem lV{ρ:List AV}:∀(x:E) {k:IntKind},CI x=some k->x.den ρ≠ .undef-> ∃m,x.den ρ= .int k m
 | .int k n,_,h,_=>by simp[CI]at h;subst h;exact⟨n,rfl⟩
 | .len y,_,h,hd=>by
  simp[CI]at h;subst h;simp only[E.den,AV.len]at hd ⊢;split at hd
  ·exact⟨_,rfl⟩
  ·exact absurd rfl hd
 | .slen y,_,h,hd=>by
  simp[CI]at h;subst h;simp only[E.den,AV.slen]at hd ⊢;split at hd
  ·exact⟨_,rfl⟩
  ·exact absurd rfl hd
 | .conv k y,_,h,hd=>by
  simp[CI]at h;subst h;simp only[E.den,AV.conv]at hd ⊢;split at hd
  ·exact⟨_,rfl⟩
  ·exact absurd rfl hd
 | .bin op x y,k,h,hd=>by
  simp only[E.den]at hd ⊢;have hx:x.den ρ≠ .undef:=by rintro hh;rw[hh]at hd;exact hd (by simp[AV.bin])
  cases op<;>simp only[CI,reduceCtorEq]at h
  all_goals
   obtain⟨m,hm⟩:=lV x h hx;rw[hm]at hd ⊢;cases hy:y.den ρ<;>rw[hy]at hd<;>simp only[AV.bin]at hd ⊢ <;>first
    |exact absurd rfl hd
    |(split at hd
      ·rename_i hk;rw[if_pos hk];exact⟨_,rfl⟩
      ·exact absurd rfl hd)
 | .var _,_,h,_=>by simp[CI]at h
 | .bool _,_,h,_=>by simp[CI]at h
 | .str _,_,h,_=>by simp[CI]at h
 | .dv,_,h,_=>by simp[CI]at h
 | .lst _,_,h,_=>by simp[CI]at h
 | .mk _,_,h,_=>by simp[CI]at h
 | .tup _,_,h,_=>by simp[CI]at h
 | .ref _,_,h,_=>by simp[CI]at h
 | .fn ..,_,h,_=>by simp[CI]at h
 | .fld ..,_,h,_=>by simp[CI]at h
 | .proj ..,_,h,_=>by simp[CI]at h
 | .deref _,_,h,_=>by simp[CI]at h
 | .idx ..,_,h,_=>by simp[CI]at h
 | .sidx ..,_,h,_=>by simp[CI]at h
 | .win ..,_,h,_=>by simp[CI]at h
 | .swin ..,_,h,_=>by simp[CI]at h
 | .app ..,_,h,_=>by simp[CI]at h
 | .set ..,_,h,_=>by simp[CI]at h
 | .put ..,_,h,_=>by simp[CI]at h
 | .rep ..,_,h,_=>by simp[CI]at h
 | .sbin ..,_,h,_=>by simp[CI]at h
 | .bbin ..,_,h,_=>by simp[CI]at h
 | .not _,_,h,_=>by simp[CI]at h
 | .neg _,_,h,_=>by simp[CI]at h
 | .ite ..,_,h,_=>by simp[CI]at h
 | .bytes _,_,h,_=>by simp[CI]at h
 | .text _,_,h,_=>by simp[CI]at h
end
section
variable {P:Program} {c:Cx} {n nx:Nat} {sl sl0:Nat->SV} {hp hp0:Nat->Option Af} {a:Act} {o:Oper} {gs:Gd} {e:Bh} {sg:BY} {nv:Nat}
theorem Ia{s:SV}{v:Value}{x:E}(h:SR c [s] [v])(hx:FE s=some x):∃f,Rd c.w [v] [x.den c.ρ] f/\ ∀b∈f,c.ok b:=by
 cases s<;>simp only[FE,Ad,reduceCtorEq]at hx;subst hx;cases h with
 |e h1 h2 _=>exact⟨_,h1,h2⟩
theorem SR.c9{v:Value}{x:E}(h:Rd c.w [v] [x.den c.ρ] []):SR c [.e x] [v]:= .e h (by simp) .nil
theorem zyg{ρ:List AV}{op:BinOp}{x y:E}{w:World}{v u:Value}{f g:List Nat}(h1:Rd w [v] [x.den ρ] f)(h2:Rd w [u] [y.den ρ] g)(hd:SE (.bin op x y)=true->(E.bin op x y).den ρ≠ .undef):
  ∃k k' p q,x.den ρ= .int k p/\y.den ρ= .int k' q/\(k=k'\/op= .shl\/op= .shr)/\(E.bin op x y).den ρ=CH op k p q/\E9 k p/\v= .int k p/\u= .int k' q:=by
 have key:(∃k k' p q,x.den ρ= .int k p/\y.den ρ= .int k' q/\(k=k'\/op= .shl\/op= .shr)):=by
  by_cases hn:SE (.bin op x y)=true
  ·have:=hd hn;simp only[E.den]at this;cases hx:x.den ρ<;>cases hy:y.den ρ<;>simp only[hx,hy,AV.bin,ne_eq,not_true_eq_false]at this;split at this
   ·exact⟨_,_,_,_,rfl,rfl,by assumption⟩
   ·exact absurd rfl this
  ·have hn:SE (.bin op x y)=false:=by simpa using hn
   have hk:(CI x).isSome=true/\(CI x==CI y)=true:=by cases op<;>simp[SE]at hn<;>simpa using hn
   obtain⟨k,GN⟩:=Option.isSome_iff_exists.1 hk.1;have hk2:CI y=some k:=by rw[<-AM.1 hk.2,GN]
   obtain⟨p,hp⟩:=lV x GN h1.gq;obtain⟨q,hq⟩:=lV y hk2 h2.gq;exact⟨k,k,p,q,hp,hq, .inl rfl⟩
 obtain⟨k,k',p,q,hp,hq,MR⟩:=key;obtain⟨hv,Ch⟩:=Gb h1 hp;obtain⟨hu,_⟩:=Gb h2 hq;exact⟨k,k',p,q,hp,hq,MR,by simp only[E.den,hp,hq,AV.bin,if_pos MR],Ch,hv,hu⟩
theorem zs9(a b:ByteArray):(a.toList==b.toList)=(a.data.toList==b.data.toList):=by rw[ByteArray.toList_eq,ByteArray.toList_eq]
theorem ztl{α β γ:Type}(r:Result α)(f:α->World->Result β)(g:β->World->Result γ):(r.andThen f).andThen g=r.andThen λa w=>(f a w).andThen g:=by cases r<;>rfl
theorem lD(d:Nat){t:TypeId}(p q:Bool)(h:P.underlying t=some .bool)(w:World):(Op.equalIn (d+1) t (.bool p) (.bool q)).run P w= .ok (p==q) w:=by simp[Op.equalIn,run_underlying h]
theorem zx6{t:TypeId}(p q:Bool)(h:P.underlying t=some .bool)(w:World):(binOp .eql t (.bool p) (.bool q)).run P w= .ok (.bool (p==q)) w:=by simp only[binOp];simp[Op.equal,Op.maxDepth,lD 9999 p q h]
theorem zxV{t:TypeId}(p q:Bool)(h:P.underlying t=some .bool)(w:World):(binOp .neq t (.bool p) (.bool q)).run P w= .ok (.bool (!(p==q))) w:=by simp only[binOp];simp[Op.equal,Op.maxDepth,lD 9999 p q h]
theorem PY{op:BinOp}{t ty:TypeId}{x y:Operand}(ho:o.op= .binOp op t x y ty)(w:World){v u:Value}(hv:a.eval x=v)(hu:a.eval y=u):
  (execOp a.eval o).run P w=((do eqGuard op t x y v u;binOp op t v u:Sem Value).run P w).andThen λv w=> .ok (.value v) w:=by
 simp only[execOp,ho,hv,hu,Sem.run_bind,ztl,Sem.run_pure]
theorem uM(h:BE P c n nx sl hp a sl0 hp0 o gs){op:BinOp}{t el:TypeId}{x y:Operand}{ty:TypeId}(ho:o.op= .binOp op t x y ty)(hu:P.underlying t=some (.slice el))(r1:SR c [.cm] [a.eval x])(r2:SR c [.cm] [a.eval y])
  (AW:op= .eql\/op= .neq):AD P o c n nx sl hp gs a {val:= .e (.bool (op== .eql))}:=by
 have ex:=λ(v u:Value) (hv:a.eval x=v) (hu:a.eval y=u)=>PY (P:=P) (o:=o) ho c.w hv hu;generalize FB:a.eval x=v1 at r1;generalize Dn:a.eval y=v2 at r2;cases r1 with
 |cm _=>cases r2 with
  |cm _=>
   refine AD.pure h (v:= .bool (op== .eql)) ?_ (.c9 (.bool .nil)) rfl;rw[ex _ _ FB Dn,eqGuard_at_slice];rcases AW with rfl|rfl
   ·simp[run_eql_nil_slice c.w t el none 0 0 0 0 hu]
   ·simp[run_neq_nil_slice c.w t el none 0 0 0 0 hu]
theorem zvD(h:BE P c n nx sl hp a sl0 hp0 o gs){op:BinOp}{t:TypeId}{x y:Operand}{ty:TypeId}(ho:o.op= .binOp op t x y ty){s1 s2:SV}(r1:SR c [s1] [a.eval x])(r2:SR c [s2] [a.eval y])
  {x' y':E} (D2:FE s1=some x') (BN:FE s2=some y') (hd:SE (.bin op x' y')=true->Cn.den c.ρ (.dfd (.bin op x' y'))) (hnz:op= .quo\/op= .rem->Cn.den c.ρ (.nz y')) (hnn:op= .shl\/op= .shr->Cn.den c.ρ (.nn y')) {ck:List Cn}:
  AD P o c n nx sl hp gs a {cj:=ck,val:= .e (.bin op x' y')}:=by
 obtain⟨f1,g1,_⟩:=Ia r1 D2;obtain⟨f2,g2,_⟩:=Ia r2 BN;obtain⟨k,k',p,q,e1,e2,MR,e3,Ch,hv,FV⟩:=zyg (op:=op) g1 g2 hd;refine AD.pure h (v:=(CH op k p q).val) ?_ (.c9 (by rw[e3];exact zAC Ch _)) rfl;rw[PY ho c.w hv FV,zxH MR (λAW=> ?_) (λAW=> ?_)]
 ·simp
 ·obtain⟨_,m,hm,Cr⟩:=hnz AW;rw[e2]at hm;cases hm;exact Cr
 ·obtain⟨_,m,hm,Cr⟩:=hnn AW;rw[e2]at hm;cases hm;exact Cr
theorem zuu(h:BE P c n nx sl hp a sl0 hp0 o gs){op:BinOp}{t:TypeId}{x y:Operand}{ty:TypeId}(ho:o.op= .binOp op t x y ty){s1 s2:SV}(r1:SR c [s1] [a.eval x])(r2:SR c [s2] [a.eval y])
  {x' y':E} (D2:FE s1=some x') (BN:FE s2=some y') (hd:Cn.den c.ρ (.dfd (.sbin op x' y'))) (BQ:op= .add->Cn.den c.ρ (.roomS x' y')) {ck:List Cn}:
  AD P o c n nx sl hp gs a {cj:=ck,val:= .e (.sbin op x' y')}:=by
 obtain⟨f1,g1,_⟩:=Ia r1 D2;obtain⟨f2,g2,_⟩:=Ia r2 BN;have hd:AV.sbin op (x'.den c.ρ) (y'.den c.ρ)≠ .undef:=hd;cases hx:x'.den c.ρ<;>cases hy:y'.den c.ρ<;>simp only[hx,hy,AV.sbin,ne_eq,not_true_eq_false]at hd;obtain⟨b1,FB,rfl,_⟩:=S2 g1 hx;obtain⟨b2,Dn,rfl,_⟩:=S2 g2 hy;have hle:op= .add->b1.size+b2.size<=9223372036854775807:=λAW=>by obtain⟨p,q,hp,hq,hle⟩:=BQ AW;rw[hx]at hp;rw[hy]at hq;cases hp;cases hq;simpa using hle
 refine AD.pure h (v:=match op with| .add=> .string (b1++b2)|_=>(SZ op b1.data.toList b2.data.toList).val) ?_ (.c9 ?_) rfl
 ·rw[PY ho c.w FB Dn,eqGuard_at_string];cases op<;>first
   |(exact absurd rfl hd)
   |(have:=hle rfl;simp[binOp,Op.stringOp];omega)
   |(simp[binOp,Op.stringOp,SZ,AV.val,ByteArray.toList_eq,bne];done)
 ·simp only[E.den,hx,hy,AV.sbin];cases op<;>simp only[SZ,AV.val,ne_eq,not_true_eq_false]at hd ⊢ <;>first
   |exact .bool .nil
   |(have:=hle rfl
     have h9:=Rd.str (w:=c.w) (s:=b1++b2) (by simpa using this) .nil;simpa using h9)
theorem zt6(h:BE P c n nx sl hp a sl0 hp0 o gs){op:BinOp}{t:TypeId}{x y:Operand}{ty:TypeId}(ho:o.op= .binOp op t x y ty)(hu:P.underlying t=some .bool){s1 s2:SV}(r1:SR c [s1] [a.eval x])(r2:SR c [s2] [a.eval y])
  {x' y':E} (D2:FE s1=some x') (BN:FE s2=some y') (hd:Cn.den c.ρ (.dfd (.bbin op x' y'))) {ck:List Cn}:
  AD P o c n nx sl hp gs a {cj:=ck,val:= .e (.bbin op x' y')}:=by
 obtain⟨f1,g1,_⟩:=Ia r1 D2;obtain⟨f2,g2,_⟩:=Ia r2 BN;have hd:AV.bbin op (x'.den c.ρ) (y'.den c.ρ)≠ .undef:=hd;cases hx:x'.den c.ρ<;>cases hy:y'.den c.ρ<;>simp only[hx,hy,AV.bbin,ne_eq,not_true_eq_false]at hd;rename_i p q;have FB:=IV g1 hx;have Dn:=IV g2 hy;refine AD.pure h (v:=(AV.bbin op (.bool p) (.bool q)).val) ?_ (.c9 ?_) rfl
 ·rw[PY ho c.w FB Dn,eqGuard_at_bool];cases op<;>simp only[ne_eq,not_true_eq_false]at hd
  ·simp[zx6 p q hu,AV.bbin,AV.val]
  ·simp[zxV p q hu,AV.bbin,AV.val,bne]
 ·simp only[E.den,hx,hy];cases op<;>simp only[AV.bbin,AV.val,ne_eq,not_true_eq_false]at hd ⊢ <;>exact .bool .nil
theorem zBy(h:BE P c n nx sl hp a sl0 hp0 o gs){op:BinOp}{t:TypeId}{x y:Operand}{ty:TypeId}(ho:o.op= .binOp op t x y ty)(MW:∀fs,P.underlying t≠some (.struct fs))(he:BX P sg sl0 hp0 nv nx gs o=some e)(hq:e.ch=none)(hc:∀q∈e.cj,Cn.den c.ρ q):AD P o c n nx sl hp gs a e:=by
 have DH:x∈o.op.operands:=by simp[ho,Op.operands]
 have CT:y∈o.op.operands:=by simp[ho,Op.operands]
 simp only[BX,ho,Au]at he;obtain⟨s1,BL,s2,Bb,he⟩:=he;have r1:=h.c7 BL DH;have r2:=h.c7 Bb CT;unfold S8 at he;split at he
 ·rename_i el hu;split at he
  ·simp at he;subst he;exact uM h ho hu r1 r2 (.inl rfl)
  ·simp at he;subst he;exact uM h ho hu r1 r2 (.inr rfl)
  ·obtain⟨_,_,rfl⟩:=As.1 he;cases hq
  ·obtain⟨_,_,rfl⟩:=As.1 he;cases hq
  ·cases he
 ·rename_i kk hu;split at he
  ·rename_i x' y' D2 BN;simp at he;subst he;exact zvD h ho r1 r2 D2 BN (λhn=>hc _ (by simp[hn])) (λAW=>hc _ (by rcases AW with rfl|rfl<;>simp)) (λAW=>hc _ (by rcases AW with rfl|rfl<;>simp))
  ·cases he
 ·rename_i hu;split at he
  ·rename_i x' y' D2 BN;simp at he;subst he;exact zuu h ho r1 r2 D2 BN (hc _ (by simp)) (λAW=>hc _ (by subst AW;simp))
  ·cases he
 ·rename_i hu;split at he
  ·rename_i x' y' D2 BN;simp at he;subst he;exact zt6 h ho hu r1 r2 D2 BN (hc _ (by simp))
  ·cases he
 ·rename_i fs hu;exact absurd hu (MW fs)
 ·cases he
end
section
variable {P:Program} {c:Cx} {n nx:Nat} {sl sl0:Nat->SV} {hp hp0:Nat->Option Af} {a:Act} {o:Oper} {gs:Gd} {e:Bh} {sg:BY} {nv:Nat}
theorem V9{t:TypeId}(h:DD P t=true)(cs:List Value)(off:Nat)(hle:off+P.cellsOf t<=cs.length)(hg:Am P t=true\/P.cellsOf t=1)(w:World):
  (part t cs.toArray off).run P w= .ok (if Am P t then .agg ((cs.drop off).take (P.cellsOf t)).toArray else((cs.drop off).take (P.cellsOf t)).headD Go.undef) w:=by
 cases ha:Am P t with
 |true=>simp only[part,Sem.run_bind,VV h,ha,Py h,Result.andThen_ok,if_true,Sem.run_pure];congr 2;apply Array.ext';rw[Array.toList_extract];simp[Nat.add_sub_cancel_left,List.extract_eq_take_drop]
 |false=>
  have h1:P.cellsOf t=1:=by rcases hg with h'|h';rw[ha]at h';cases h';exact h'
  have Ax:off<cs.length:=by omega
  have e1:(cs.drop off).take (P.cellsOf t)=[cs[off]]:=by rw[h1,Bl Ax,List.take_succ_cons,List.take_zero]
  rw[e1];simp[part,VV h,ha,Ax]
theorem zyw(h:BE P c n nx sl hp a sl0 hp0 o gs){t:TypeId}{x:Operand}{f:Nat}(ho:o.op= .field t x f)(he:BX P sg sl0 hp0 nv nx gs o=some e)(hc:∀q∈e.cj,Cn.den c.ρ q):AD P o c n nx sl hp gs a e:=by
 have hm:x∈o.op.operands:=by simp[ho,Op.operands]
 simp only[BX,ho,Au]at he;obtain⟨s,hs,he⟩:=he;have hr:=h.c7 hs hm;split at he
 ·rename_i fs hu;split at he
  ·rename_i fd hf;split at he
   ·cases he
   ·rename_i Bv;have Bv:DD P fd.type=true:=by simpa using Bv
    have ex:∀as_:List Value,a.eval x= .agg as_.toArray->(execOp a.eval o).run P c.w=((part fd.type as_.toArray fd.offset).run P c.w).andThen λv w=> .ok (.value v) w:=λas_ hv=>by simp[execOp,ho,Instr.field,run_underlying hu,hf,hv,asAgg]
    split at he
    ·rename_i cs;obtain⟨s2,Bb,rfl⟩:=As.1 he;generalize hv:a.eval x=v at hr;cases hr with
     |agg r8 r1 r9=>
      rename_i as_;have hlen:=r1.len;unfold Qa at Bb;split at Bb
      ·rename_i AK;split at Bb
       ·rename_i hle;simp at Bb;subst Bb;obtain⟨q1,q2⟩:=r1.split fd.offset;obtain⟨q3,q4⟩:=q2.split (P.cellsOf fd.type);have:=SR.agg (cs:=BP.of ((cs.toList.drop fd.offset).take (P.cellsOf fd.type))) (λu hu=>r8 u (BH (Bt hu))) (by rw[BP.ax];exact q3) .nil;refine AD.pure h (v:= .agg ((as_.drop fd.offset).take (P.cellsOf fd.type)).toArray) ?_ this rfl;rw[ex as_ hv,V9 Bv as_ fd.offset (by omega) (.inl AK)];simp[AK]
       ·cases Bb
      ·rename_i AK;have AK:Am P fd.type=false:=by simpa using AK
       obtain⟨u,FV,r⟩:=r1.get Bb;refine AD.pure h (v:=u) ?_ r rfl;rw[ex as_ hv];simp[part,VV Bv,AK,FV]
    ·rename_i y;split at he
     ·rename_i hh;obtain⟨hle,AK⟩:=hh;simp at he;subst he;generalize hv:a.eval x=v at hr;cases hr with
      |e h1 h2 _=>
       rename_i f1;obtain⟨cs,BD,Aw⟩:=Cg hc;obtain⟨as_,rfl,OU,DR⟩:=KE h1 BD;have hlen:=DR.len;have Gj:(y.den c.ρ).cells=cs:=by rw[BD];rfl
       rw[<-Gj]at DR;obtain⟨q,g1,g2⟩:=DR.il OU fd.offset (P.cellsOf fd.type) (Am P fd.type) (by rw[Gj];omega) (λhh=>by rcases AK with h'|h';rw[hh]at h';cases h';exact h');refine AD.pure h ?_ (.e (f:=q) (by simpa[E.den]using g2) (λz hz=>h2 z (g1 z hz)) .nil) rfl;rw[ex as_ hv,V9 Bv as_ fd.offset (by omega) AK];simp
     ·cases he
    ·rename_i b g m pth y;split at he
     ·rename_i hh;obtain⟨hle,AK,Up⟩:=hh;have hE:=SX h.eh h.gs Up;generalize hv:a.eval x=v at hr;have Iy:Cn.den c.ρ (.agg y (P.cellsOf t)):=by
       split at he<;>(simp only[Ad]at he;subst he;exact Cg hc)
      cases hr with
      |via h1 h2 h3 _=>
       obtain⟨⟨f1,p1,p2⟩,_⟩:=h3 hE;obtain⟨cs,BD,Aw⟩:=Iy;obtain⟨as_,rfl,OU,DR⟩:=KE p1 BD;have hlen:=DR.len;have Gj:(y.den c.ρ).cells=cs:=by rw[BD];rfl
       rw[<-Gj]at DR;obtain⟨q,g1,g2⟩:=DR.il OU fd.offset (P.cellsOf fd.type) (Am P fd.type) (by rw[Gj];omega) (λhh=>by rcases AK with h'|h';rw[hh]at h';cases h';exact h');have AR:=ex as_ hv;rw[V9 Bv as_ fd.offset (by omega) AK]at AR;simp only[Result.andThen_ok]at AR;have Cv:Rd c.w _ [(E.fld y fd.offset (P.cellsOf fd.type) (Am P fd.type)).den c.ρ] q:=g2;split at he
       ·simp only[Ad]at he;subst he;obtain⟨e1,e2,e3,e4⟩:=hc (.flat (.fld y fd.offset (P.cellsOf fd.type) (Am P fd.type)) (P.cellsOf fd.type) (Am P fd.type)) (by simp);have hq:q=[]:=by
         cases hg:Am P fd.type with
         |true=>obtain⟨cs,BD⟩:=e3 hg;obtain⟨as_,_,_,r⟩:=KE Cv BD;exact Hs r (by rw[BD]at e2;exact e2)
         |false=>exact Hs Cv (by simpa using e4 hg)
        subst hq;exact AD.pure h AR (.e Cv (by simp) .nil) rfl
       ·simp only[Ad]at he;subst he;exact AD.pure h AR (.via h1 h2 (λ_=>⟨⟨q,Cv,λz hz=>p2 z (g1 z hz)⟩,trivial⟩) .nil) rfl
     ·cases he
    ·cases he
  ·cases he
 ·cases he
theorem SC{v:Value}{x:AV}{m:Int}{w:World}{f:List Nat}(h:Rd w [v] [x] f)(hx:x.len= .int .i64 m):(∃a c,v= .slice a 0 c/\m=0)\/ ∃b o k c,v= .slice (some ⟨b,o,none⟩) k c/\m=k:=by
 rcases h.kind with h|h|h|h|h|h|h|h|h|h
 ·obtain⟨_,_,_,rfl,_⟩:=h;simp[AV.len]at hx
 ·obtain⟨_,_,rfl,_⟩:=h;simp[AV.len]at hx
 ·obtain⟨_,_,rfl,_⟩:=h;simp[AV.len]at hx
 ·obtain⟨q,r,rfl,rfl,_⟩:=h;simp[AV.len]at hx;exact .inl ⟨q,r,rfl,by omega⟩
 ·obtain⟨b,o,k,r,ys,_,_,_,_,_,_,rfl,rfl,_,_,_,_,hl,_⟩:=h;simp[AV.len]at hx;exact .inr ⟨b,o,k,r,rfl,by omega⟩
 ·obtain⟨_,_,_,rfl,_⟩:=h;simp[AV.len]at hx
 ·obtain⟨_,_,_,rfl,_⟩:=h;simp[AV.len]at hx
 ·obtain⟨_,_,_,_,_,_,_,rfl,_⟩:=h;simp[AV.len]at hx
 ·obtain⟨_,_,_,_,rfl,_⟩:=h;simp[AV.len]at hx
 ·obtain⟨_,rfl,_⟩:=h;simp[AV.len]at hx
theorem Sa{t el:TypeId}(hu:P.underlying t=some (.slice el))(hz:P.cellsOf el≠0){b off len cap:Nat}{kk:IntKind}{k:Int}(h0:0<=k)(h1:k<len)(w:World):
  (Instr.indexAt t (.slice (some ⟨b,off,none⟩) len cap) (.int kk k)).run P w= .ok (.pointer (some ⟨b,off+k.toNat*P.cellsOf el,none⟩)) w:=by
 simp[Instr.indexAt,run_underlying hu,asIntOf,h0,h1,w8 hz,Addr.add_lit]
theorem wZ(h:BE P c n nx sl hp a sl0 hp0 o gs){t:TypeId}{x i:Operand}(ho:o.op= .indexAddr t x i\/o.op= .index t x i){s1 s2:SV}(BL:BM sl0 gs x=some s1)(Bb:BM sl0 gs i=some s2)
  (AW:(∃el,P.underlying t=some (.slice el))->o.op= .indexAddr t x i) (dL:P.underlying t=some .string->o.op= .index t x i)
  (he:ZX P hp0 gs t s1 s2=some e) (hc:∀q∈e.cj,Cn.den c.ρ q):AD P o c n nx sl hp gs a e:=by
 have DH:x∈o.op.operands:=by rcases ho with ho|ho<;>simp[ho,Op.operands]
 have CT:i∈o.op.operands:=by rcases ho with ho|ho<;>simp[ho,Op.operands]
 have r1:=h.c7 BL DH;have r2:=h.c7 Bb CT;unfold ZX at he;split at he
 ·rename_i el k hu;have Jb:=AW ⟨el,hu⟩;have ex:(execOp a.eval o).run P c.w=((Instr.indexAt t (a.eval x) (a.eval i)).run P c.w).andThen λv w=> .ok (.value v) w:=by simp[execOp,Jb]
  split at he
  ·cases he
  rename_i hz;obtain⟨fk,GN,_⟩:∃f,Rd c.w [a.eval i] [k.den c.ρ] f/\ ∀b∈f,c.ok b:=by
   generalize a.eval i=v at r2;cases r2 with
   |e h1 h2 _=>exact⟨_,h1,h2⟩
  split at he
  ·rename_i b g;split at he
   ·rename_i e0 sz g' c0 d hl;split at he
    ·rename_i hh;obtain⟨rfl,rfl⟩:=hh;simp at he;subst he;obtain⟨kk,kv,m,e1,e2,e3,e4,e5⟩:=Cg hc;obtain⟨IG,_⟩:=Gb GN e1;generalize hv:a.eval x=v at r1 ex;cases r1 with
     |own hK MG _=>
      obtain⟨_,_,N,q1,q2,_,_⟩:=h.eh b _ (CP hl h.gs);obtain⟨xs,Cs,Aw,h0,A4⟩:=q1;rw[Cs]at e3;simp only[AV.len,AV.int.injEq,true_and]at e3;rcases A4 with⟨rfl,_⟩|⟨g9,cap,C,hH,_⟩
      ·simp at e3;omega
      ·refine AD.pure h (v:= .pointer (some ⟨g9,kv.toNat*P.cellsOf el+0,none⟩)) ?_ (.cz hK hH e1 e2 (by omega) .nil) rfl;rw[MG]at hH;cases hH;rw[ex,IG,Sa hu hz e2 (by omega)];simp
    ·cases he
   ·rename_i g' c0 hl;split at he
    ·rename_i hh;subst hh;simp at he;subst he;obtain⟨kk,kv,m,e1,e2,e3,e4,e5⟩:=Cg hc;obtain⟨IG,_⟩:=Gb GN e1;generalize hv:a.eval x=v at r1 ex;cases r1 with
     |own hK MG _=>
      obtain⟨_,⟨f,q1,q2⟩,_,_⟩:=h.eh b _ (CP hl h.gs);rcases SC q1 e3 with⟨_,_,_,hm⟩|⟨b9,off9,len9,cap9,hH,hm⟩
      ·omega
      ·rw[MG]at hH;cases hH;rw[MG]at q1;refine AD.pure h (v:= .pointer (some ⟨b9,off9+kv.toNat*P.cellsOf el+0,none⟩)) ?_ (.dj q1 q2 e1 e2 (by omega) e5 .nil) rfl;rw[ex,IG,Sa hu hz e2 (by omega)];simp
    ·cases he
   ·rename_i e0 sz dl g' ep c0 hl;split at he
    ·rename_i hh;obtain⟨rfl,rfl⟩:=hh;simp at he;subst he;obtain⟨kk,kv,m,e1,e2,e3,e4,e5⟩:=Cg hc;obtain⟨IG,_⟩:=Gb GN e1;generalize hv:a.eval x=v at r1 ex;cases r1 with
     |own hK MG _=>
      obtain⟨_,_,_,q1,_⟩:=h.eh b _ (CP hl h.gs);obtain⟨_,_,⟨a9,d3,d4,_⟩|⟨g9,cap,C,ys,N1,hH,d4,_⟩⟩:=q1.inv
      ·rw[d4]at e3;simp[AV.len]at e3;omega
      ·rw[d4]at e3;simp only[AV.len,AV.int.injEq,true_and]at e3;refine AD.pure h (v:= .pointer (some ⟨g9,kv.toNat*P.cellsOf el+0,none⟩)) ?_ (.cz hK hH e1 e2 (by omega) .nil) rfl;rw[MG]at hH;cases hH;rw[ex,IG,Sa hu hz e2 (by omega)];simp
    ·cases he
   ·rename_i e0 sz dl g' ep c0 ih oh uh hl;split at he
    ·rename_i hh;obtain⟨rfl,rfl⟩:=hh;simp at he;subst he;obtain⟨kk,kv,m,e1,e2,e3,e4,e5⟩:=Cg hc;obtain⟨IG,_⟩:=Gb GN e1;generalize hv:a.eval x=v at r1 ex;cases r1 with
     |own hK MG _=>obtain⟨_,_,_,⟨g9,cap,C,ys,_,_,_,_,hH,d4,_⟩,_⟩:=h.eh b _ (CP hl h.gs);rw[d4]at e3;simp only[AV.len,AV.int.injEq,true_and]at e3;refine AD.pure h (v:= .pointer (some ⟨g9,kv.toNat*P.cellsOf el+0,none⟩)) ?_ (.cz hK hH e1 e2 (by omega) .nil) rfl;rw[MG]at hH;cases hH;rw[ex,IG,Sa hu hz e2 (by omega)];simp
    ·cases he
   ·cases he
  ·rename_i y;simp at he;subst he;obtain⟨kk,kv,m,e1,e2,e3,e4,e5⟩:=Cg hc;obtain⟨IG,_⟩:=Gb GN e1;generalize hv:a.eval x=v at r1 ex;cases r1 with
   |e q1 q2 _=>
    rcases SC q1 e3 with⟨_,_,_,hm⟩|⟨b9,off9,len9,cap9,rfl,hm⟩
    ·omega
    ·refine AD.pure h (v:= .pointer (some ⟨b9,off9+kv.toNat*P.cellsOf el+0,none⟩)) ?_ (.dj q1 q2 e1 e2 (by omega) e5 .nil) rfl;rw[ex,IG,Sa hu hz e2 (by omega)];simp
  ·rename_i b g m pth y;split at he
   ·rename_i Up;simp at he;subst he;have hE:=SX h.eh h.gs Up;obtain⟨kk,kv,mm,e1,e2,e3,e4,e5⟩:=Cg hc;obtain⟨IG,_⟩:=Gb GN e1;generalize hv:a.eval x=v at r1 ex;cases r1 with
    |via q1 q2 q3 _=>
     obtain⟨⟨f,p1,p2⟩,p3⟩:=q3 hE;rcases SC p1 e3 with⟨_,_,_,hm⟩|⟨b9,off9,len9,cap9,rfl,hm⟩
     ·omega
     ·refine AD.pure h (v:= .pointer (some ⟨b9,off9+kv.toNat*P.cellsOf el+0,none⟩)) ?_ (.vptr q1 q2 (λ_=>⟨b9,off9,len9,cap9,kk,kv,⟨f,p1,p2⟩,p3,e1,e2,by omega,e5,rfl⟩) .nil) rfl;rw[ex,IG,Sa hu hz e2 (by omega)];simp
   ·cases he
  ·simp at he;subst he;obtain⟨kk,kv,m,e1,e2,e3,e4,e5⟩:=Cg hc;simp only[E.den,EL.den,AV.len,List.length_nil,AV.int.injEq,true_and]at e3;omega
  ·cases he
 ·rename_i k hu;have Jb:=dL hu;obtain⟨fk,GN,_⟩:∃f,Rd c.w [a.eval i] [k.den c.ρ] f/\ ∀b∈f,c.ok b:=by
   generalize a.eval i=v at r2;cases r2 with
   |e h1 h2 _=>exact⟨_,h1,h2⟩
  split at he
  ·rename_i y;simp at he;subst he;obtain⟨kk,kv,s,e1,e2,e3,e4⟩:=Cg hc;obtain⟨IG,_⟩:=Gb GN e1;generalize hv:a.eval x=v at r1;cases r1 with
   |e q1 q2 _=>
    obtain⟨bs,rfl,rfl,hle⟩:=S2 q1 e2;have Ax:kv.toNat<bs.data.toList.length:=by omega
    have cY:kv.toNat<bs.size:=by simpa using Ax
    refine AD.pure h (v:= .int .u8 (bs[kv.toNat]).toNat) ?_ (.c9 ?_) rfl
    ·simp[execOp,Jb,Instr.index,hv,IG,asIntOf,run_underlying hu,e3,cY]
    ·simp only[E.den,e1,e2,AV.sidx];have:bs.data.toList[kv.toNat]?=some (bs[kv.toNat]):=by
      rw[Br Ax];simp[ByteArray.getElem_eq_getElem_data]
     rw[this];refine .int ?_ .nil;rw[PQ];have:=(bs[kv.toNat]).toNat_lt;simp[IntKind.min,IntKind.max,IntKind.signed,IntKind.bits];omega
  ·cases he
 ·cases he
theorem zr0(h:BE P c n nx sl hp a sl0 hp0 o gs){t:TypeId}{x i:Operand}(ho:o.op= .indexAddr t x i)(MW:P.underlying t≠some .string)(he:BX P sg sl0 hp0 nv nx gs o=some e)(hc:∀q∈e.cj,Cn.den c.ρ q):AD P o c n nx sl hp gs a e:=by
 simp only[BX,ho,Au]at he;obtain⟨s1,BL,s2,Bb,he⟩:=he;split at he
 ·cases he
 exact wZ h (.inl ho) BL Bb (λ_=>ho) (λhh=>absurd hh MW) he hc
theorem zuW(h:BE P c n nx sl hp a sl0 hp0 o gs){t:TypeId}{x i:Operand}(ho:o.op= .index t x i)(MW:P.underlying t=some .string)(he:BX P sg sl0 hp0 nv nx gs o=some e)(hc:∀q∈e.cj,Cn.den c.ρ q):AD P o c n nx sl hp gs a e:=by
 simp only[BX,ho,Au]at he;obtain⟨s1,BL,s2,Bb,he⟩:=he;split at he
 ·exact wZ h (.inr ho) BL Bb (λ⟨el,hh⟩=>by rw[MW]at hh;cases hh) (λ_=>ho) he hc
 ·cases he
theorem zve(h:BE P c n nx sl hp a sl0 hp0 o gs){x:Operand}{i:Nat}(ho:o.op= .extract x i)(he:BX P sg sl0 hp0 nv nx gs o=some e)(hc:∀q∈e.cj,Cn.den c.ρ q):AD P o c n nx sl hp gs a e:=by
 have hm:x∈o.op.operands:=by simp[ho,Op.operands]
 simp only[BX,ho,Au]at he;obtain⟨s,hs,he⟩:=he;have hr:=h.c7 hs hm;generalize hv:a.eval x=v at hr;have ex:∀(as_:List Value) u,v= .tuple as_.toArray->as_[i]?=some u->(execOp a.eval o).run P c.w= .ok (.value u) c.w:=λas_ u eJ hu=>by simp[execOp,ho,Instr.extract,hv,eJ,hu]
 split at he
 ·rename_i vs;obtain⟨s2,Bb,rfl⟩:=As.1 he;cases hr with
  |tup r1 r9=>obtain⟨u,hu,r⟩:=r1.get Bb;exact AD.pure h (ex _ u rfl hu) r rfl
 ·rename_i y;simp at he;subst he;cases hr with
  |e q1 q2 _=>
   have hd:(y.den c.ρ).proj i≠ .undef:=Cg hc;cases hy:y.den c.ρ<;>simp only[hy,AV.proj,ne_eq,not_true_eq_false]at hd;rename_i cs;obtain⟨as_,rfl,r1⟩:=zEJ q1 hy;cases TG:cs[i]? with
   |none=>simp[TG]at hd
   |some z=>obtain⟨u,g,hu,hg,Dj⟩:=r1.at TG;exact AD.pure h (ex as_ u rfl hu) (.e (f:=g) (by simpa[E.den,hy,AV.proj,TG]using Dj) (λb hb=>q2 b (hg b hb)) .nil) rfl
 ·cases he
theorem zCh(h:BE P c n nx sl hp a sl0 hp0 o gs){x:Operand}{t:TypeId}(ho:o.op= .unOp .not t x)(he:BX P sg sl0 hp0 nv nx gs o=some e)(hc:∀q∈e.cj,Cn.den c.ρ q):AD P o c n nx sl hp gs a e:=by
 have hm:x∈o.op.operands:=by simp[ho,Op.operands]
 simp only[BX,ho,Au,As]at he;obtain⟨s,hs,y,hy,he⟩:=he;obtain⟨f,q1,_⟩:=Ia (h.c7 hs hm) hy;split at he
 ·subst he;have hv:=IV q1 rfl;rename_i b;exact AD.pure h (v:= .bool (!b)) (by simp[execOp,ho,hv,Op.unary]) (.c9 (.bool .nil)) rfl
 ·subst he;have hd:(y.den c.ρ).ey≠ .undef:=Cg hc;cases BN:y.den c.ρ<;>simp only[BN,AV.ey,ne_eq,not_true_eq_false]at hd;have hv:=IV q1 BN;rename_i b;exact AD.pure h (v:= .bool (!b)) (by simp[execOp,ho,hv,Op.unary]) (.c9 (by simp only[E.den,BN,AV.ey];exact .bool .nil)) rfl
theorem zCq(h:BE P c n nx sl hp a sl0 hp0 o gs){x:Operand}{t:TypeId}(ho:o.op= .unOp .neg t x)(he:BX P sg sl0 hp0 nv nx gs o=some e)(hc:∀q∈e.cj,Cn.den c.ρ q):AD P o c n nx sl hp gs a e:=by
 have hm:x∈o.op.operands:=by simp[ho,Op.operands]
 simp only[BX,ho,Au,As]at he;obtain⟨s,hs,y,hy,rfl⟩:=he;obtain⟨f,q1,_⟩:=Ia (h.c7 hs hm) hy;have hd:(y.den c.ρ).ir≠ .undef:=Cg hc;cases BN:y.den c.ρ<;>simp only[BN,AV.ir,ne_eq,not_true_eq_false]at hd;rename_i k m;obtain⟨hv,_⟩:=Gb q1 BN;exact AD.pure h (v:= .int k (k.wrap (0-m))) (by simp[execOp,ho,hv,Op.unary,Op.intArith]) (.c9 (by simp only[E.den,BN,AV.ir];exact .int (mJ _ _) .nil)) rfl
theorem zyD{L:List Operand}{sl0:Nat->SV}{gs:Gd}(h:∀x s,BM sl0 gs x=some s->x∈L->SR c [s] [a.eval x]):∀{xs:List Operand} {ss:List SV},(∀x∈xs,x∈L)->xs.mapM (BM sl0 gs)=some ss->SR c ss (xs.map a.eval)
 | [],ss,_,hm=>by simp at hm;subst hm;exact .nil
 |x::xs,ss,hL,hm=>by rw[List.mapM_cons]at hm;simp only[Option.bind_eq_bind,Au]at hm;obtain⟨s,hs,ss',Gx,hm⟩:=hm;simp at hm;subst hm;exact(h x s hs (hL x (by simp))).app (zyD h (λy hy=>hL y (by simp[hy])) Gx)
theorem ztG(h:BE P c n nx sl hp a sl0 hp0 o gs){f:FuncId}{fst caps:Array Operand}(ho:o.op= .makeFunc (.func f) fst caps)(he:BX P sg sl0 hp0 nv nx gs o=some e):AD P o c n nx sl hp gs a e:=by
 simp only[BX,ho]at he;split at he
 ·rename_i hf;obtain⟨ss,Gx,rfl⟩:=As.1 he;have hf:fst= #[]:=by simpa using hf
  have r:=zyD (a:=a) (c:=c) (L:=caps.toList) (λx s hx hm=>h.c7 hx (by simp only[ho,Op.operands,Array.mem_append];exact .inr (Array.mem_toList_iff.1 hm))) (λx hx=>hx) Gx;refine AD.pure h (v:= .func (.func f) #[] (caps.toList.map a.eval).toArray) ?_ (.fn (by rw[BP.ax];exact r) .nil) rfl;simp[execOp,ho,Instr.makeFunc,hf];apply Array.ext';simp
 ·cases he
end
section
variable {P:Program} {c:Cx} {n nx:Nat} {sl sl0:Nat->SV} {hp hp0:Nat->Option Af} {a:Act} {o:Oper} {gs:Gd} {e:Bh} {sg:BY} {nv:Nat}
theorem BE.jv(h:BE P c n nx sl hp a sl0 hp0 o gs){x:Operand}{s:SV}(hs:BM sl0 gs x=some s)(hm:x∈o.op.operands){y:E}(hy:BF hp0 gs A8 s=some y):
  ∃f,Rd c.w [a.eval x] [y.den c.ρ] f/\ ∀b∈f,c.ei (Cb hp0 gs (A8+1) [s]) b:=Ig h.eh h.gs A8 hy (h.c7 hs hm) A8 (AN _)
theorem zBS(h:BE P c n nx sl hp a sl0 hp0 o gs){x:Operand}{t:TypeId}{cl:Call}(ho:o.op= .call cl)(Aw:cl.callee= .builtin .len)(C3:cl.args.toList=[x])(DZ:cl.argTypes.toList=[t])(he:BX P sg sl0 hp0 nv nx gs o=some e)(hc:∀q∈e.cj,Cn.den c.ρ q):AD P o c n nx sl hp gs a e:=by
 have Ah:cl.args= #[x]:=by apply Array.ext';simp[C3]
 have FU:cl.argTypes= #[t]:=by apply Array.ext';simp[DZ]
 have hm:x∈o.op.operands:=by simp[ho,Op.operands,Call.operands,Aw,Ah]
 simp only[BX,ho,Aw,C3,DZ,Au]at he;obtain⟨s,hs,he⟩:=he;unfold sD at he;have ex:(execOp a.eval o).run P c.w=((Builtin.len_ #[t] o.type #[a.eval x]).run P c.w).andThen λv w=> .ok (.value v) w:=by simp[execOp,ho,resolve,Aw,Ah,FU,invoke,builtin]
 split at he
 ·rename_i el hu;obtain⟨y,hy,rfl⟩:=As.1 he;obtain⟨f,q1,q2⟩:=h.jv hs hm hy;have hd:(y.den c.ρ).len≠ .undef:=Cg hc;cases BN:y.den c.ρ<;>simp only[BN,AV.len,ne_eq,not_true_eq_false]at hd;rename_i xs;have hl:(y.den c.ρ).len= .int .i64 (xs.length:Int):=by rw[BN];rfl
  have Ch:E9 .i64 (xs.length:Int):=by
   rw[PQ];rcases q1.kind with hh|hh|hh|hh|hh|hh|hh|hh|hh|hh
   all_goals first
    |(obtain⟨_,_,_,hh,_⟩:=hh;rw[BN]at hh;cases hh;done)
    |(obtain⟨_,_,hh,_⟩:=hh;rw[BN]at hh;cases hh;done)
    |skip
   ·obtain⟨_,_,_,hh,_⟩:=hh;rw[BN]at hh;cases hh;simp[IntKind.min,IntKind.max,IntKind.signed,IntKind.bits]
   ·obtain⟨_,_,_,_,_,_,_,_,_,_,_,_,hh,_,_,_,hle,hlen,_⟩:=hh;rw[BN]at hh;cases hh;simp[IntKind.min,IntKind.max,IntKind.signed,IntKind.bits];omega
   all_goals first
    |(obtain⟨_,_,_,hh,_⟩:=hh;rw[BN]at hh;cases hh;done)
    |(obtain⟨_,_,_,_,_,_,_,hh,_⟩:=hh;rw[BN]at hh;cases hh;done)
    |(obtain⟨_,_,_,_,hh,_⟩:=hh;rw[BN]at hh;cases hh;done)
    |(obtain⟨_,hh,_⟩:=hh;rw[BN]at hh;cases hh;done)
  refine AD.pure h (v:= .int .i64 xs.length) ?_ (.c9 (by simp only[E.den,BN,AV.len];exact .int Ch .nil)) rfl;rcases SC q1 hl with⟨p,q,hv,Cr⟩|⟨b,o',k,q,hv,Cr⟩
  ·rw[ex,hv,Cr];simp[Builtin.len_,run_underlying hu,goInt]
  ·rw[ex,hv,Cr];simp[Builtin.len_,run_underlying hu,goInt]
 ·rename_i hu;obtain⟨y,hy,rfl⟩:=As.1 he;obtain⟨f,q1,q2⟩:=h.jv hs hm hy;have hd:(y.den c.ρ).slen≠ .undef:=Cg hc;cases BN:y.den c.ρ<;>simp only[BN,AV.slen,ne_eq,not_true_eq_false]at hd;obtain⟨bs,hv,rfl,hle⟩:=S2 q1 BN;refine AD.pure h (v:= .int .i64 bs.size) ?_ (.c9 ?_) rfl
  ·rw[ex,hv];simp[Builtin.len_,run_underlying hu,goInt]
  ·simp only[E.den,BN,AV.slen];have:(bs.data.toList.length:Int)=(bs.size:Int):=by simp
   rw[this];refine .int ?_ .nil;rw[PQ];simp[IntKind.min,IntKind.max,IntKind.signed,IntKind.bits];omega
 ·cases he
theorem zuY(h:BE P c n nx sl hp a sl0 hp0 o gs){x:Operand}{src dst:TypeId}{k0 k:IntKind}(ho:o.op= .convert src dst x)(h1:P.underlying src=some (.int k0))(h2:P.underlying dst=some (.int k))(he:BX P sg sl0 hp0 nv nx gs o=some e)(hc:∀q∈e.cj,Cn.den c.ρ q):AD P o c n nx sl hp gs a e:=by
 have hm:x∈o.op.operands:=by simp[ho,Op.operands]
 simp only[BX,ho,Au]at he;obtain⟨s,hs,he⟩:=he;simp only[We,h1,h2,As]at he;obtain⟨y,hy,rfl⟩:=he;obtain⟨f,q1,_⟩:=Ia (h.c7 hs hm) hy;have hd:(y.den c.ρ).conv k≠ .undef:=Cg hc;cases BN:y.den c.ρ<;>simp only[BN,AV.conv,ne_eq,not_true_eq_false]at hd;rename_i k1 m;obtain⟨hv,_⟩:=Gb q1 BN;exact AD.pure h (v:= .int k (k.wrap m)) (by simp[execOp,ho,hv,convert,run_underlying h1,run_underlying h2,Conv.intToInt]) (.c9 (by simp only[E.den,BN,AV.conv];exact .int (mJ _ _) .nil)) rfl
theorem zut(h:BE P c n nx sl hp a sl0 hp0 o gs){x:Operand}{src dst:TypeId}(ho:o.op= .convert src dst x)(h1:P.underlying src=some .string)(h2:P.underlying dst=some .string)(he:BX P sg sl0 hp0 nv nx gs o=some e)(hc:∀q∈e.cj,Cn.den c.ρ q):AD P o c n nx sl hp gs a e:=by
 have hm:x∈o.op.operands:=by simp[ho,Op.operands]
 simp only[BX,ho,Au]at he;obtain⟨s,hs,he⟩:=he;simp only[We,h1,h2,As]at he;obtain⟨y,hy,rfl⟩:=he;obtain⟨f,q1,_⟩:=Ia (h.c7 hs hm) hy;have hd:(y.den c.ρ).slen≠ .undef:=Cg hc;cases hl:y.den c.ρ<;>simp only[hl,AV.slen,ne_eq,not_true_eq_false]at hd;obtain⟨bs,hv,hle,cW⟩:=S2 q1 hl;exact AD.pure h (v:= .string bs) (by simp[execOp,ho,hv,convert,run_underlying h1,run_underlying h2]) (.c9 (by rw[hl,hle];exact Rd.str cW .nil)) rfl
theorem sA{w:World}:∀{ys:List AV} {s:List UInt8} {cs:List Value} {f:List Nat},Nh ys=some s->Rd w cs (Ao ys) f-> ∃ns:List Int,cs=ns.map (Value.int .u8)/\s=ns.map (λn=>UInt8.ofNat n.toNat)/\ns.length=ys.length
 | [],s,cs,f,h,hr=>by have:Ao ([]:List AV)=[]:=rfl;rw[this]at hr;cases hr;cases h;exact⟨[],rfl,rfl,rfl⟩
 |y::ys,s,cs,f,h,hr=>by
  unfold Nh at h;split at h
  ·rename_i h0;cases h0
  ·rename_i n xs he;cases he;obtain⟨s',h1,rfl⟩:=As.1 h;have CJ:Rd w cs (.int .u8 n::Ao ys) f:=by simpa[Ao,AV.cells]using hr
   cases CJ with
   |int hk DR=>obtain⟨ns,rfl,rfl,hl⟩:=sA h1 DR;exact⟨n::ns,rfl,rfl,by simp[hl]⟩
  ·cases h
theorem ztr(h:BE P c n nx sl hp a sl0 hp0 o gs){x:Operand}{src dst el:TypeId}(ho:o.op= .convert src dst x)(h1:P.underlying src=some (.slice el))(h2:P.underlying dst=some .string)(he:BX P sg sl0 hp0 nv nx gs o=some e)(hc:∀q∈e.cj,Cn.den c.ρ q):AD P o c n nx sl hp gs a e:=by
 have hm:x∈o.op.operands:=by simp[ho,Op.operands]
 simp only[BX,ho,Au]at he;obtain⟨s,hs,he⟩:=he;simp only[We,h1,h2]at he;split at he
 ·rename_i hu;obtain⟨y,hy,rfl⟩:=As.1 he;obtain⟨f,q1,q2⟩:=h.jv hs hm hy;have hd:(y.den c.ρ).text≠ .undef:=Cg hc;cases BN:y.den c.ρ<;>simp only[BN,AV.text,ne_eq,not_true_eq_false]at hd;rename_i xs;split at hd
  ·rename_i t ht;split at hd
   ·rename_i hle;have Cv:(E.text y).den c.ρ= .str t:=by
     simp only[E.den,BN,AV.text,ht];rw[if_pos hle]
    have fin:∀ns:List Int,t=ns.map (λn=>UInt8.ofNat n.toNat)->ns.length=xs.length->(convert src dst (a.eval x)).run P c.w= .ok (.string (ns.foldl (λr n=>r.push (UInt8.ofNat n.toNat)) ByteArray.empty)) c.w->AD P o c n nx sl hp gs a {cj:=[.dfd (.text y)],val:= .e (.text y)}:=λns e1 e2 e3=>by
     have e4:(ns.foldl (λr n=>r.push (UInt8.ofNat n.toNat)) ByteArray.empty)=⟨t.toArray⟩:=by
      rw[foldl_push_bytes,e1];simp[ByteArray.empty,ByteArray.emptyWithCapacity]
      try rfl
     rw[e4]at e3;refine AD.pure h (v:= .string ⟨t.toArray⟩) (by simp[execOp,ho,e3]) (.c9 ?_) rfl;rw[Cv];have Bo:(ByteArray.mk t.toArray).size<=9223372036854775807:=by simp only[ByteArray.size,List.size_toArray];rw[e1,List.length_map];omega
     have:=Rd.str (w:=c.w) (s:=⟨t.toArray⟩) Bo .nil;simpa using this
    rw[BN]at q1;rcases q1.kind with hh|hh|hh|hh|hh|hh|hh|hh|hh|hh
    all_goals first
     |(obtain⟨_,_,_,hh,_⟩:=hh;cases hh;done)
     |(obtain⟨_,_,hh,_⟩:=hh;cases hh;done)
     |skip
    ·obtain⟨p,q,hv,hx,_⟩:=hh;cases hx;cases ht;refine fin [] rfl rfl ?_;rw[hv];cases p with
     |none=>rw[run_convert_bytes_nil c.w src el h1 hu _ _ dst h2];rfl
     |some ad=>rw[run_convert_bytes_string c.w src dst el _ 0 q h1 hu h2,run_bytesToString c.w ad 0 q [] (by simp[loadCells,loadCellsFrom])]
    ·obtain⟨b,o',k,q,ys,cs,C,t',fz,sz,f1,hv,hx,_,hb,_,hle',hlen,_,_,BD,hr⟩:=hh;cases hx;obtain⟨ns,rfl,e1,e2⟩:=sA ht hr.2;refine fin ns e1 e2 ?_;have hl:ns.length=k:=by omega
     have B0:∀i,i<k->c.w.cell? ⟨b,o'+i,none⟩=some (.int .u8 (ns.getD i 0)):=λi hi=>by
      have IF:i<ns.length:=by omega
      have:=BD i (.int .u8 ns[i]) (by simp[IF]);rw[ED hb,this];simp[IF]
     have:=run_convert_bytes_arg c.w src el h1 hu b o' k q ns hl B0 dst h2;rw[hv,this];congr 2;rw[foldl_push_bytes];simp[strOfNums,ByteArray.empty,ByteArray.emptyWithCapacity]
     try rfl
    all_goals first
     |(obtain⟨_,_,_,hh,_⟩:=hh;cases hh;done)
     |(obtain⟨_,_,_,_,_,_,_,hh,_⟩:=hh;cases hh;done)
     |(obtain⟨_,_,_,_,hh,_⟩:=hh;cases hh;done)
     |(obtain⟨_,hh,_⟩:=hh;cases hh;done)
   ·exact absurd rfl hd
  ·exact absurd rfl hd
 ·cases he
theorem yC{ρ:List AV}{x:E}{b:Bool}{gs:Gd}(h1:x.den ρ= .bool b)(h2:BA ρ gs):BA ρ ((x,b)::gs):=by
 intro g hg;rcases Ae.1 hg with rfl|hg
 ·exact h1
 ·exact h2 g hg
theorem zzj(h:BE P c n nx sl hp a sl0 hp0 o gs){x y z:Operand}(ho:o.op= .pick x y z)(he:BX P sg sl0 hp0 nv nx gs o=some e)(hc:∀q∈e.cj,Cn.den c.ρ q):AD P o c n nx sl hp gs a e:=by
 have DH:x∈o.op.operands:=by simp[ho,Op.operands]
 have CT:y∈o.op.operands:=by simp[ho,Op.operands]
 have pT:z∈o.op.operands:=by simp[ho,Op.operands]
 simp only[BX,ho,Au]at he;obtain⟨s,hs,he⟩:=he;have hr:=h.c7 hs DH;split at he
 ·rename_i q;have ex:∀b,a.eval x= .bool b->(execOp a.eval o).run P c.w= .ok (.value (if b then a.eval y else a.eval z)) c.w:=λb hb=>by
   simp[execOp,ho,hb,asBool]
  obtain⟨f,q1⟩:∃f,Rd c.w [a.eval x] [q.den c.ρ] f:=by
   generalize a.eval x=v at hr;cases hr with
   |e h1 _ _=>exact⟨_,h1⟩
  unfold qU at he;split at he
  ·obtain⟨s',A9,rfl⟩:=As.1 he;exact AD.pure h (v:=a.eval y) (ex true (IV q1 rfl)) (h.c7 A9 CT) rfl
  ·obtain⟨s',A9,rfl⟩:=As.1 he;exact AD.pure h (v:=a.eval z) (ex false (IV q1 rfl)) (h.c7 A9 pT) rfl
  ·split at he
   ·rename_i y' z' hy hz;simp at he;subst he;simp only[Au]at hy hz;obtain⟨sy,hsy,hy⟩:=hy;obtain⟨sz,Bo,hz⟩:=hz;have hd:(q.den c.ρ).ey≠ .undef:=Cg hc;cases hq:q.den c.ρ<;>simp only[hq,AV.ey,ne_eq,not_true_eq_false]at hd;rename_i b;cases b with
    |true=>have r:=Zr (a:=a) hsy (λt ht=>by subst ht;rw[h.sl t CT];exact h.rel.da t) (yC hq h.gs);obtain⟨f',g1,g2⟩:=Ia r hy;exact AD.pure h (v:=a.eval y) (ex true (IV q1 hq)) (.e (f:=f') (by simpa[E.den,hq,AV.cond]using g1) g2 .nil) rfl
    |false=>have r:=Zr (a:=a) Bo (λt ht=>by subst ht;rw[h.sl t pT];exact h.rel.da t) (yC hq h.gs);obtain⟨f',g1,g2⟩:=Ia r hz;exact AD.pure h (v:=a.eval z) (ex false (IV q1 hq)) (.e (f:=f') (by simpa[E.den,hq,AV.cond]using g1) g2 .nil) rfl
   ·cases he
 ·cases he
end
section
variable {P:Program} {c:Cx} {n nx:Nat} {sl sl0:Nat->SV} {hp hp0:Nat->Option Af} {a:Act} {o:Oper} {gs:Gd} {e:Bh} {sg:BY} {nv:Nat}
theorem kG{w:World}{v:Value}{x:AV}{f:List Nat}(h:Rd w [v] [x] f)(h1:∀cs,x≠ .agg cs)(h2:∀cs,x≠ .tup cs):v.oneCell'=true:=by
 cases h<;>first
  |rfl
  |exact absurd rfl (h1 _)
  |exact absurd rfl (h2 _)
theorem one_cells{v:Value}(h:v.oneCell'=true):v.cells= #[v]:=by cases v<;>first|rfl|(simp[Value.oneCell']at h)
theorem Zw{t:TypeId}{s:SV}{v:Value}{cs:List SV}{ck:List Cn}(h:SR c [s] [v])(hc:SO P t s=some (cs,ck))(hk:∀q∈ck,q.den c.ρ):
  SR c cs v.cells.toList/\(∀u∈v.cells.toList,u.oneCell'=true):=by
 unfold SO at hc;split at hc
 ·split at hc
  ·simp at hc;obtain⟨rfl,rfl⟩:=hc;cases h with
   |agg h1 h2 _=>exact⟨by simpa[Value.cells]using h2,by simpa[Value.cells]using h1⟩
  ·rename_i x;simp at hc;obtain⟨rfl,rfl⟩:=hc;cases h with
   |e h1 h2 _=>
    obtain⟨as_,has,hl⟩:=Cg hk;obtain⟨vs,rfl,h3,h4⟩:=KE h1 has;refine⟨?_,by simpa[Value.cells]using h3⟩;have hlen:=h4.len;have key:∀k,k<=as_.length->SR c ((List.range k).map λj=>SV.e (.fld x j 1 false)) (vs.take k):=by
     intro k
     induction k with
     |zero=>intro _;simpa using SR.nil
     |succ k ih=>
      intro hk;have Cw:k<as_.length:=by omega
      obtain⟨u,g,hu,hg,hr⟩:=h4.at (show as_[k]?=some as_[k] by simp[Cw])
      rw[List.range_succ,List.map_append,List.take_succ_eq_append_getElem (by omega)];refine(ih (by omega)).app ?_;have FV:vs[k]'(by omega)=u:=by simpa[show k<vs.length by omega]using hu
      rw[FV];exact .e (f:=g) (by simpa[E.den,AV.fld,has,AV.cells,Cw]using hr) (λb hb=>h2 b (hg b hb)) .nil
    have:=key as_.length (AN _);rw[<-hlen,List.take_length,hlen,hl]at this;simpa[Value.cells]using this
  ·cases hc
 ·split at hc
  ·rename_i x;simp at hc;obtain⟨rfl,rfl⟩:=hc;cases h with
   |e h1 h2 _=>
    have hq:(∀cs,x.den c.ρ≠ .agg cs)/\ ∀cs,x.den c.ρ≠ .tup cs:=by
     cases x<;>first
      |exact(Cg hk:Cn.den c.ρ (.cells _ 1))
      |exact⟨by simp[E.den],by simp[E.den]⟩
    have GK:=kG h1 hq.1 hq.2;rw[one_cells GK];exact⟨.e h1 h2 .nil,by simpa using GK⟩
  ·cases hc
  ·cases hc
  ·cases hc
  ·cases hc
  ·cases hc
  ·cases hc
  ·cases hc
  ·cases hc
  ·simp at hc;obtain⟨rfl,rfl⟩:=hc;have GK:v.oneCell'=true:=by
    cases h<;>first|rfl|(rename_i hh _ _ _ _ _;exact absurd rfl (hh _))|skip
    all_goals first
     |rfl
     |exact(show∀(i:Nat),SV.lent _=SV.lent i->False from by assumption) _ rfl|>.elim
     |exact(show∀(t g n:Nat) (p:Oe) (x:E),SV.via _ _ _ _ _=SV.via t g n p x->False from by assumption) _ _ _ _ _ rfl|>.elim
     |exact(show∀(t g n:Nat) (p:Oe) (x i:E) (sz o:Nat),SV.vptr _ _ _ _ _ _ _ _=SV.vptr t g n p x i sz o->False from by assumption) _ _ _ _ _ _ _ _ rfl|>.elim
     |(exfalso;simp_all;done)
   rw[one_cells GK];exact⟨h,by simpa using GK⟩
theorem zEN(h:BE P c n nx sl hp a sl0 hp0 o gs)(ob:Obj)(hv:Value):Nk c (c.new nx ob hv []) nx:=
 ⟨rfl,rfl,rfl,rfl,λt ht=>ht.imp id (λhh=>by subst hh;exact⟨AN _,by simp[BW]⟩)⟩
theorem ND(h:BE P c n nx sl hp a sl0 hp0 o gs): ¬c.U nx:=h.new nx (AN _) (by omega)
theorem AD.box(h:BE P c n nx sl hp a sl0 hp0 o gs){ty:TypeId}{g:Bool}{cs:List SV}{v:Value}{ck:List Cn}(hr:(execOp a.eval o).run P c.w= .ok (.value (.pointer (some ⟨c.w.heap.size,0,none⟩))) (c.w.alloc (.cells v.cells ty)))
  (hs:SR c cs v.cells.toList) (h1:∀u∈v.cells.toList,u.oneCell'=true):AD P o c n nx sl hp gs a {cj:=ck,val:= .cw nx 0,bq:=[(nx,C5 gs (.box ty g cs))]}:=by
 intro next Q hk
 unfold Oper.wp;rw[hr,Oper.upon_value];have hU:=ND h;have keep:D6 c (c.new nx (.cells v.cells ty) (.pointer (some ⟨c.w.heap.size,0,none⟩)) []):=Cx.gk (λg hg=>hU (h.rel.bz _ _ hg));have hH:(c.new nx (.cells v.cells ty) (.pointer (some ⟨c.w.heap.size,0,none⟩)) []).H nx 0= .pointer (some ⟨c.w.heap.size,0,none⟩):=by simp[Cx.new]
 have hK:(c.new nx (.cells v.cells ty) (.pointer (some ⟨c.w.heap.size,0,none⟩)) []).K nx 0:= .inr ⟨rfl,rfl⟩;have hrel:=h.rel.new hU (.cells v.cells ty) (.pointer (some ⟨c.w.heap.size,0,none⟩)) (.box ty g cs) gs h.gs (by intros;simp)
  ⟨c.w.heap.size,v.cells,hK,hH,by simp[Cx.new],by simp[Cx.new],heap_alloc_new _ _,h1,hs.keep keep⟩
 exact hk _ _ (zEN h _ _) (hrel.put ((SR.cw hK hH .nil).mkGd gs h.gs) o.dst)
theorem zyb(h:BE P c n nx sl hp a sl0 hp0 o gs){t:TypeId}(ho:o.op= .alloc t)(he:BX P sg sl0 hp0 nv nx gs o=some e)(hc:∀q∈e.cj,Cn.den c.ρ q):AD P o c n nx sl hp gs a e:=by
 simp only[BX,ho,Au]at he;obtain⟨z,⟨i,hi,hz⟩,s,hs,⟨cs,ck⟩,BD,he⟩:=he;split at he
 ·cases he
 ·split at he
  ·cases he
  ·rename_i IB;have IB:ck=[]:=by simpa using IB
   simp at he;subst he;have A9:Fg z=some s:=by simpa[rO,hi,hz]using hs
   obtain⟨q1,q2⟩:=Zw (ZC (c:=c) A9) BD (by simp[IB]);refine AD.box h (v:=z) ?_ q1 q2;simp[execOp,ho,Instr.alloc,zeroValue,typeInfo,hi,hz,newVar,newRow]
theorem zCm(h:BE P c n nx sl hp a sl0 hp0 o gs){t:TypeId}{x:Operand}(ho:o.op= .box t x)(he:BX P sg sl0 hp0 nv nx gs o=some e)(hc:∀q∈e.cj,Cn.den c.ρ q):AD P o c n nx sl hp gs a e:=by
 have hm:x∈o.op.operands:=by simp[ho,Op.operands]
 simp only[BX,ho,Au]at he;obtain⟨s,hs,⟨cs,ck⟩,BD,he⟩:=he;split at he
 ·cases he
 ·simp at he;subst he;obtain⟨q1,q2⟩:=Zw (h.c7 hs hm) BD hc;refine AD.box h (v:=a.eval x) ?_ q1 q2;simp[execOp,ho,Instr.box,newVar,newRow]
end
section
variable {P:Program} {c:Cx} {n nx:Nat} {sl sl0:Nat->SV} {hp hp0:Nat->Option Af} {a:Act} {o:Oper} {gs:Gd} {e:Bh} {sg:BY} {nv:Nat}
def setVs{α:Type}(cs:List α)(o:Nat)(vs:List α):List α:=cs.take o++vs++cs.drop (o+vs.length)
theorem Sn{α:Type}(cs vs:List α)(o:Nat)(h:o+vs.length<=cs.length)(i:Nat):(setVs cs o vs)[i]?=if o<=i/\i<o+vs.length then vs[i-o]? else cs[i]?:=by
 unfold setVs;have ht:(cs.take o).length=o:=by rw[Ar];omega
 rw[List.append_assoc];by_cases h1:i<o
 ·rw[if_neg (by omega),List.getElem?_append_left (by omega),List.getElem?_take,if_pos h1]
 ·rw[List.getElem?_append_right (by omega),ht];by_cases h2:i<o+vs.length
  ·rw[if_pos (by omega),List.getElem?_append_left (by omega)]
  ·rw[if_neg (by omega),List.getElem?_append_right (by omega),List.getElem?_drop];congr 1;omega
theorem Sm{α:Type}(cs vs:List α)(o:Nat)(h:o+vs.length<=cs.length):(setVs cs o vs).length=cs.length:=by simp[setVs];omega
theorem SR.setVs{cs vs:List SV}{C V:List Value}{k:Nat}(h:SR c cs C)(hv:SR c vs V):SR c (Th cs k vs) (Go.Proofs.YtalagilebkaegaaGreat.setVs C k V):=by unfold Th Go.Proofs.YtalagilebkaegaaGreat.setVs;have hl:=hv.len;rw[<-hl];exact((h.split k).1.app hv).app (h.split _).2
theorem zxq(vs:List Value):∀(k off:Nat) (C:Array Value),off+k+vs.length<=C.size->
  ((vs.zipIdx k).foldl (λcs (p:Value × Nat)=>cs.setIfInBounds (off+p.2) p.1) C).toList=setVs C.toList (off+k) vs:=by
 induction vs with
 |nil=>intro k off C _;simp[setVs]
 |cons v vs ih=>
  intro k off C h;simp only[Bd]at h;simp only[List.zipIdx_cons,List.foldl_cons];rw[ih (k+1) off _ (by simp;omega)];apply List.ext_getElem?;intro i;rw[Sn _ _ _ (by simp;omega),Sn _ _ _ (by simp;omega)];simp only[Array.toList_setIfInBounds,List.getElem?_set,Bd,BG];by_cases h1:i=off+k
  ·subst h1;rw[if_neg (by omega),if_pos rfl,if_pos (by omega),if_pos (by omega)];simp
  ·by_cases h2:off+(k+1)<=i/\i<off+(k+1)+vs.length
   ·rw[if_pos h2,if_pos (by omega),show i-(off+k)=(i-(off+(k+1)))+1 by omega,List.getElem?_cons_succ]
   ·rw[if_neg h2,if_neg (by omega),if_neg (by omega)]
theorem jS{b off:Nat}{t:TypeId}:∀(vs:List Value) (i:Nat) (w:World) (C:Array Value),w.heap[b]?=some (.cells C t (0,0))->off+i+vs.length<=C.size->(∀v∈vs,v.oneCell'=true)->
  (storeCells ⟨b,off,none⟩ vs i).run P w= .ok () (putCells w b (off+i) vs)
 | [],i,w,C,_,_,_=>by simp[storeCells,putCells]
 |v::vs,i,w,C,hb,hl,h1=>by
  simp only[Bd]at hl;have hi:off+i<C.size:=by omega
  have B0:w.cell? ⟨b,off+i,none⟩=some C[off+i]:=by simp[World.cell?,hb,hi]
  have cF:w.frozen? ⟨b,off+i,none⟩=false:=by simp[World.frozen?,hb]
  have Ew:(store ((⟨b,off,none⟩:Addr).add i) v).run P w= .ok () (w.setCell ⟨b,off+i,none⟩ v):=by rw[Addr.add_lit,run_store P w _ v _ (h1 v (by simp)),B0];simp[cF]
  have h2:=heap_setCell_same w b (off+i) C t v hb;have ih:=jS (off:=off) vs (i+1) (w.setCell ⟨b,off+i,none⟩ v) _ h2 (by simp;omega) (λx hx=>h1 x (by simp[hx]));simp only[storeCells,Sem.run_bind,Ew,Result.andThen_ok,ih,putCells];rw[Nat.add_assoc]
theorem Zg{w:World}{b off:Nat}{t:TypeId}{vs:List Value}{C:Array Value}(hb:w.heap[b]?=some (.cells C t (0,0)))(hl:off+vs.length<=C.size):
  Mod [b] w (putCells w b off vs)/\(putCells w b off vs).heap[b]?=some (.cells (setVs C.toList off vs).toArray t (0,0))/\(putCells w b off vs).heap.size=w.heap.size:=by
 obtain⟨hm,C',h1,h2,h3,h4⟩:=jI vs w b off C t hb hl;refine⟨hm,?_,?_⟩
 ·rw[h1];congr 2;apply Array.ext';apply List.ext_getElem?;intro i;rw[Sn _ _ _ (by simpa using hl)];by_cases hi:off<=i/\i<off+vs.length
  ·rw[if_pos hi];have Ax:i-off<vs.length:=by omega
   have:=h3 (i-off) vs[i-off] (by simp[Ax]);rw[show off+(i-off)=i by omega]at this;rw[Array.getElem?_toList,this];simp[Ax]
  ·rw[if_neg hi,Array.getElem?_toList,Array.getElem?_toList];exact h4 i (by omega)
 ·clear hm h1 h2 h3 h4 hl
  induction vs generalizing w off C with
  |nil=>rfl
  |cons v vs ih=>simp only[putCells];rw[ih (heap_setCell_same w b off C t v hb)];simp[World.setCell]
theorem kF{w:World}{b off:Nat}{t ty:TypeId}{v:Value}{C:Array Value}(hb:w.heap[b]?=some (.cells C ty (0,0)))(ht:DD P t=true)(hs:v.cells.size=P.cellsOf t)(hl:off+v.cells.size<=C.size)(h1:∀u∈v.cells.toList,u.oneCell'=true):
  (Instr.storeAt t (.pointer (some ⟨b,off,none⟩)) v).run P w= .ok () (putCells w b off v.cells.toList):=by
 have:=jS (P:=P) (off:=off) v.cells.toList 0 w C hb (by simpa using hl) h1;simp only[Nat.add_zero]at this;simp[Instr.storeAt,Instr.sureAddr,storeVar,Py ht,hs,this]
def Cx.wr(c:Cx)(w':World)(t:Nat):Cx:={c with w:=w',E:=λu=>if u=t then c.E u+1 else c.E u}
theorem Cx.ib{c:Cx}{w':World}{t b:Nat}(gw:GW c)(Ck:b∈(c.G t).top)(hm:Mod [b] c.w w'):D6 c (c.wr w' t):=by
 have Bk:b∈(c.G t).own:=by simp[GI.own,Ck]
 refine⟨rfl,rfl,λq _ hq=>hq,λq hq AZ=>hm.block q hq ?_,λu g hu=>⟨hu,rfl⟩,λu g hu=> ?_⟩
 ·simp only[List.mem_singleton];rintro rfl;exact AZ.1 ⟨t,Ck⟩
 ·by_cases GR:u=t
  ·have e1:(c.wr w' t).E u=c.E u+1:=by simp only[Cx.wr,if_pos GR]
   exact⟨by omega,λh=>by omega⟩
  ·have e1:(c.wr w' t).E u=c.E u:=by simp only[Cx.wr,if_neg GR]
   rw[e1];refine⟨AN _,λ_=>⟨rfl,λq hq Fu=>hm.block q Fu ?_⟩⟩;simp only[List.mem_singleton];rintro rfl;exact gw.cy t u (Ne.symm GR) q Bk (by simp[GI.own,hq])
theorem Rel.write(h:Rel c n sl hp a){t:Nat}{e0:Af}{b:Nat}{w':World}(AL:CN c.ρ (hp t) e0)(Ck:b∈(c.G t).top)(hm:Mod [b] c.w w')(Bo:w'.heap.size=c.w.heap.size)(e1:Af)(BB:∀hs f,e1≠ .gd hs f)
  (he:DE (c.wr w' t) t e1):Rel (c.wr w' t) n sl (Bp hp [(t,e1)]) a/\D6 c (c.wr w' t):=by
 have Bk:b∈(c.G t).own:=by simp[GI.own,Ck]
 have Ce:D6 c (c.wr w' t):=Cx.ib h.gw Ck hm;have Ec:∀u,Bp hp [(t,e1)] u=if u=t then some e1 else hp u:=λu=>rfl;refine⟨h.change (λu=>u=t) Ce ⟨hm.os.trans h.base.os,hm.tape.trans h.base.tape,hm.output.trans h.base.output,Nat.le_trans h.base.size hm.size,h.base.pins,λq hq Gn=> ?_,h.base.pk,h.base.lo⟩
  (λu hu=>⟨by rw[Ec,if_neg hu],rfl,by simp[Cx.wr,hu],λg hg=>hg⟩) (λu hu q hq=>hm.block q (h.gw.inb u q (by simp[GI.own,hq])) ?_) (λu hu=> ?_) ⟨h.gw.nodup,h.gw.cy,h.gw.allow,λu q hq=> ?_⟩ h.bz (λu f hf=> ?_),Ce⟩
 ·refine(hm.block q (Nat.lt_of_lt_of_le hq h.base.size) ?_).trans (h.base.block q hq Gn);simp only[List.mem_singleton];rintro rfl;rcases h.gw.allow t q Bk with hh|hh
  ·exact absurd hh (Nat.not_le.2 hq)
  ·exact Gn hh
 ·simp only[List.mem_singleton];rintro rfl;exact h.gw.cy t u (Ne.symm hu) q Bk (by simp[GI.own,hq])
 ·subst hu;rw[Ec,if_pos rfl];refine⟨λe' hr=> ?_,λhn=> ?_⟩
  ·cases e1<;>first
    |(simp only[CN]at hr;subst hr;exact he)
    |exact absurd rfl (BB _ _)
  ·cases e1<;>first
    |exact absurd rfl (BB _ _)
    |exact absurd rfl (hn _)
 ·show q<w'.heap.size;rw[Bo];exact h.gw.inb u q hq
 ·rw[Ec]at hf;split at hf
  ·rename_i hu;subst hu;cases hh:hp u with
   |none=>rw[hh]at AL;exact AL.elim
   |some e9=>exact h.c6 u e9 hh
  ·exact h.c6 u f hf
end
section
variable {P:Program} {c:Cx} {n nx:Nat} {sl sl0:Nat->SV} {hp hp0:Nat->Option Af} {a:Act} {o:Oper} {gs:Gd} {e:Bh} {sg:BY} {nv:Nat}
theorem ztJ(h:BE P c n nx sl hp a sl0 hp0 o gs){t:TypeId}{x y:Operand}(ho:o.op= .store t x y){b k:Nat}{s:SV}(hx:BM sl0 gs x=some (.cw b k))(hy:BM sl0 gs y=some s)
  (he:NF P hp0 gs t (.cw b k) s=some e) (hc:∀q∈e.cj,Cn.den c.ρ q):AD P o c n nx sl hp gs a e:=by
 have r1:=h.c7 hx (by simp[ho,Op.operands]);have r2:=h.c7 hy (by simp[ho,Op.operands]);simp only[NF]at he;split at he
 ·rename_i ty g cs vs ck hl BD;split at he
  ·rename_i hh;obtain⟨Bv,hlen,hle,rfl⟩:=hh;simp at he;subst he;obtain⟨q1,q2⟩:=Zw r2 BD hc;generalize hv:a.eval x=v at r1;cases r1 with
   |cw h1 h2 h3=>
    rename_i q;have Fw:=CP hl h.gs;obtain⟨q',C,e1,e2,e3,e4,e5,e5',e6⟩:=h.eh b _ Fw;rw[h2]at e2;cases e2;have AL:CN c.ρ (hp b) (.box ty g cs):=by
     cases hh:hp0 b with
     |none=>rw[hh]at Fw;exact Fw.elim
     |some e9=>rw[h.hp b e9 hh];rwa[hh]at Fw
    have OJ:=e6.len;have cV:=q1.len;obtain⟨m1,m2,m3⟩:=Zg (vs:=(a.eval y).cells.toList) e5 (show k+_<=C.size by simp at OJ cV ⊢;omega);obtain⟨hrel,Ce⟩:=h.rel.write AL (by rw[e3];simp) m1 m3 (.box ty g (Th cs k vs)) (by intros;simp) (w':=putCells c.w q k (a.eval y).cells.toList) (by
     have Cw:D6 c (c.wr (putCells c.w q k (a.eval y).cells.toList) b):=Cx.ib h.rel.gw (by rw[e3];simp) m1;refine⟨q,_,e1,h2,e3,e4,m2,?_,?_⟩
     ·intro u hu;simp only[List.toList_toArray]at hu;unfold setVs at hu;simp only[Ac]at hu;rcases hu with(hu|hu)|hu
      ·exact e5' u (Bt hu)
      ·exact q2 u hu
      ·exact e5' u (BH hu)
     ·simpa using(e6.setVs q1 (k:=k)).keep Cw)
    intro next Q hk
    unfold Oper.wp;have hr:(execOp a.eval o).run P c.w= .ok .skip (putCells c.w q k (a.eval y).cells.toList):=by have:=kF (P:=P) (t:=t) (v:=a.eval y) (off:=k) e5 Bv (by simp at cV;omega) (by simp at OJ cV;omega) q2;simp[execOp,ho,hv,this]
    rw[hr,Oper.upon_skip];exact hk _ (c.wr (putCells c.w q k (a.eval y).cells.toList) b) ⟨rfl,rfl,rfl,rfl,λt ht=> .inl ht⟩ (hrel.put ((SR.undef .nil).mkGd []) o.dst)
  ·cases he
 ·cases he
theorem zW{places:List (Nat × Nat)}{tys:List TypeId}:∀(ps:List (Nat × SV)) (vs:List (Nat × Value)) (cs:List SV) (C:Array Value) (r:List SV × List Cn),WI P places tys ps cs=some r->(∀q∈r.2,q.den c.ρ)->
  ps.map (·.1)=vs.map (·.1)->SR c (ps.map (·.2)) (vs.map (·.2))->SR c cs C.toList->(∀u∈C.toList,u.oneCell'=true)->
  ∃C',Instr.fill (places.toArray[·]?) C vs=some C'/\SR c r.1 C'.toList/\ ∀u∈C'.toList,u.oneCell'=true
 | [],vs,cs,C,r,h,hk,he,_,hC,h1=>by
  have:vs=[]:=by simpa using he.symm
  subst this;simp[WI]at h;subst h;exact⟨C,rfl,hC,h1⟩
 |(i,s)::ps,[],cs,C,r,h,hk,he,_,hC,h1=>by simp at he
 |(i,s)::ps,(j,v)::vs,cs,C,r,h,hk,he,hs,hC,h1=>by
  simp only[List.map_cons,List.cons.injEq]at he;obtain⟨rfl,he⟩:=he;simp only[List.map_cons]at hs;obtain⟨BL,Bb⟩:=hs.cr;unfold WI at h;split at h
  ·rename_i off sz t Gw Bv;split at h
   ·rename_i us ck BD;split at h
    ·rename_i hh;obtain⟨Bo,hle⟩:=hh;obtain⟨r',CJ,rfl⟩:=As.1 h;obtain⟨q1,q2⟩:=Zw BL BD (λq hq=>hk q (by simp[hq]));have Ja:=q1.len;have MS:=hC.len;have MK:(v.cells.zipIdx.foldl (λcs (p:Value × Nat)=>cs.setIfInBounds (off+p.2) p.1) C).toList=setVs C.toList off v.cells.toList:=by
      have:=zxq v.cells.toList 0 off C (by simp at Ja MS ⊢;omega);rw[<-Array.foldl_toList,Array.toList_zipIdx];simpa using this
     obtain⟨C',g1,g2,g3⟩:=zW ps vs (Th cs off us) (v.cells.zipIdx.foldl (λcs (p:Value × Nat)=>cs.setIfInBounds (off+p.2) p.1) C) r' CJ (λq hq=>hk q (by simp[hq])) he Bb (by rw[MK];exact hC.setVs q1) (by
      rw[MK];intro u hu;unfold setVs at hu;simp only[Ac]at hu;rcases hu with(hu|hu)|hu
      ·exact h1 u (Bt hu)
      ·exact q2 u hu
      ·exact h1 u (BH hu))
     refine⟨C',?_,g2,g3⟩;unfold Instr.fill;have dO:places.toArray[i]?=some (off,sz):=by simpa using Gw
     simp only[dO];rw[if_neg (by simp at Ja MS ⊢;omega)];exact g1
    ·cases h
   ·cases h
  ·cases h
theorem Zv{sl0:Nat->SV}{gs:Gd}(L:List Operand)(h:∀x s,BM sl0 gs x=some s->x∈L->SR c [s] [a.eval x]):∀{xs:List (Nat × Operand)} {ss:List (Nat × SV)},(∀x∈xs,x.2∈L)->xs.mapM (λ(p:Nat × Operand)=>(BM sl0 gs p.2).map λs=>(p.1,s))=some ss->
  ss.map (·.1)=xs.map (·.1)/\SR c (ss.map (·.2)) (xs.map λp=>a.eval p.2)
 | [],ss,_,hm=>by simp at hm;subst hm;exact⟨rfl, .nil⟩
 |x::xs,ss,hL,hm=>by rw[List.mapM_cons]at hm;simp only[Option.bind_eq_bind,Au,As]at hm;obtain⟨_,⟨s,hs,rfl⟩,ss',Gx,hm⟩:=hm;simp at hm;subst hm;obtain⟨e1,e2⟩:=Zv L h (λy hy=>hL y (by simp[hy])) Gx;exact⟨by simp[e1],(h _ s hs (hL x (by simp))).app e2⟩
theorem zxU(h:BE P c n nx sl hp a sl0 hp0 o gs){t:TypeId}{parts:Array (Nat × Operand)}(ho:o.op= .build t parts)(he:BX P sg sl0 hp0 nv nx gs o=some e)(hc:∀q∈e.cj,Cn.den c.ρ q):AD P o c n nx sl hp gs a e:=by
 simp only[BX,ho,Au]at he;obtain⟨ps,KO,he⟩:=he;obtain⟨e1,e2⟩:=Zv (c:=c) (a:=a) (parts.toList.map (·.2)) (λx s hx hm=>h.c7 hx (by simpa[ho,Op.operands]using hm)) (λx hx=>List.mem_map.2 ⟨x,hx,rfl⟩) KO;unfold zxj at he;split at he
 ·rename_i it fs MQ hu;split at he
  ·rename_i zs places hz Gw;obtain⟨r,hr,rfl⟩:=As.1 he;obtain⟨z,GX,Xf⟩:=Au.1 hz;have qQ:=ZC (c:=c) Xf;obtain⟨cells,g1,g2,g3⟩:=zW (c:=c) (P:=P) ps (parts.toList.map λp=>(p.1,a.eval p.2)) zs.toList z.cells r hr hc (by rw[e1];simp) (by rw[List.map_map];exact e2)
    (by cases qQ with|agg h1 h2 _=>simpa[Value.cells]using h2) (by cases qQ with|agg h1 h2 _=>simpa[Value.cells]using h1)
   have hb:P.built t (parts.map λ(x:Nat × Operand)=>(x.1,a.eval x.2)).toList=some cells:=by simp only[Program.built,MQ,hu,GX,Gw];simpa using g1
   have:=SR.agg (c:=c) (cs:=BP.of r.1) (as_:=cells.toList) g3 (by rw[BP.ax];exact g2) .nil;refine AD.pure h (v:= .agg cells) ?_ (by simpa using this) rfl;have AR:=run_build c.w t _ cells hb;simp only[execOp,ho,Sem.run_bind];rw[AR];rfl
  ·cases he
 ·cases he
end
section
variable {P:Program} {c:Cx} {n nx:Nat} {sl sl0:Nat->SV} {hp hp0:Nat->Option Af} {a:Act} {o:Oper} {gs:Gd} {e:Bh} {sg:BY} {nv:Nat}
def Cx.ca(c:Cx)(ts:List Nat):Cx:={c with G:=λu=>if u∈ts then⟨[],[]⟩else c.G u,E:=λu=>if u∈ts then c.E u+1 else c.E u}
theorem Cx.iw{c:Cx}{ts:List Nat}{b:Nat}(h:(c.ca ts).M b):∃u,u∉ts/\b∈(c.G u).top:=by
 obtain⟨u,hu⟩:=h;simp only[Cx.ca]at hu;split at hu
 ·simp at hu
 ·exact⟨u,by assumption,hu⟩
theorem Cx.ew{c:Cx}{ts:List Nat}{b:Nat}(h:c.ok b):(c.ca ts).ok b:=⟨λhm=>by obtain⟨u,_,hu⟩:=Cx.iw hm;exact h.1 ⟨u,hu⟩,h.2⟩
theorem Cx.ji(c:Cx)(ts:List Nat):D6 c (c.ca ts):=⟨rfl,rfl,λ_ _ h=>Cx.ew h,λ_ _ _=>rfl,λ_ _ h=>⟨h,rfl⟩,λt g _=>by
 by_cases ht:t∈ts
 ·have e1:(c.ca ts).E t=c.E t+1:=by simp only[Cx.ca,if_pos ht]
  exact⟨by omega,λh=>by omega⟩
 ·have e1:(c.ca ts).E t=c.E t:=by simp only[Cx.ca,if_neg ht]
  have e2:(c.ca ts).G t=c.G t:=by simp only[Cx.ca,if_neg ht]
  rw[e1];exact⟨AN _,λ_=>⟨e2,λ_ _ _=>rfl⟩⟩⟩
theorem zy3{c:Cx}(gw:GW c){ts us:List Nat}(hs:∀t∈us,t∈ts){b:Nat}(h:c.ei us b):(c.ca ts).ok b:=by
 rcases h with h|⟨t,ht,hb⟩
 ·exact Cx.ew h
 ·have Bk:b∈(c.G t).own:=by simp[GI.own,hb]
  refine⟨λhm=> ?_, .inr (gw.allow t b Bk)⟩;obtain⟨u,hu,IA⟩:=Cx.iw hm;have:t≠u:=λhh=>hu (hh▸hs t ht);exact gw.cy t u this b Bk (by simp[GI.own,IA])
def Mm(e:Af)(g:Nat)(x:E):Prop:=(∃ety sz d,e= .row ety sz g x d)\/ ∃ety sz l ep,e= .deep ety sz l g ep x
theorem Mm.ne{e:Af}{g:Nat}{x:E}(h:Mm e g x):∀hs f,e≠ .gd hs f:=by rcases h with⟨_,_,_,rfl⟩|⟨_,_,_,_,rfl⟩<;>intros<;>simp
theorem Mm.rd{e:Af}{g t:Nat}{x:E}(h:Mm e g x)(k:DE c t e):c.K t g/\ ∃f,Rd c.w [c.H t g] [x.den c.ρ] f/\ ∀b∈f,b∈(c.G t).top\/c.ok b:=by
 rcases h with⟨_,_,_,rfl⟩|⟨_,_,_,_,rfl⟩
 ·obtain⟨q1,q2,N,q3,q4,_⟩:=k;obtain⟨f,r1,r2,_⟩:=q3.rd;exact⟨q1,f,r1,λb hb=>(r2 b hb).imp id (q4 b)⟩
 ·obtain⟨q1,q2,_,q3,_⟩:=k;obtain⟨f,r1,r2⟩:=q3.rd;exact⟨q1,f,r1,λb hb=> .inl (r2 b hb)⟩
theorem Mm.fun{e:Af}{g g':Nat}{x x':E}(h:Mm e g x)(k:Mm e g' x'):g=g'/\x=x':=by rcases h with⟨_,_,_,rfl⟩|⟨_,_,_,_,rfl⟩<;>rcases k with⟨_,_,_,hh⟩|⟨_,_,_,_,hh⟩<;>cases hh<;>exact⟨rfl,rfl⟩
theorem Pq{gs:Gd}{ρ:List AV}(k:BA ρ gs):∀{ts:List Nat} {l:List (Nat × Af)},D3 hp0 gs ts=some l->
  (∀t e,(t,e)∈l->t∈ts/\gs=[]/\ ∃g x f,e= .ca g x/\CN ρ (hp0 t) f/\Mm f g x)/\
  (∀t∈ts,(∃g x,(t,Af.ca g x)∈l)\/(∃g x,CN ρ (hp0 t) (.ca g x))\/ ∃ty g cs,CN ρ (hp0 t) (.box ty g cs))
 | [],l,h=>by simp[D3]at h;subst h;simp
 |t::ts,l,h=>by
  unfold D3 at h;split at h
  ·rename_i ety sz g x d l' hl BS;split at h
   ·rename_i hg;simp at h;subst h;obtain⟨h1,h2⟩:=Pq k BS;refine⟨λu e hu=> ?_,λu hu=> ?_⟩
    ·rcases Ae.1 hu with hu|hu
     ·cases hu;exact⟨by simp,by simpa using hg,g,x,_,rfl,CP hl k, .inl ⟨_,_,_,rfl⟩⟩
     ·obtain⟨p,q,r⟩:=h1 u e hu;exact⟨by simp[p],q,r⟩
    ·rcases Ae.1 hu with rfl|hu
     ·exact .inl ⟨g,x,by simp⟩
     ·rcases h2 u hu with⟨g',x',hh⟩|hh
      ·exact .inl ⟨g',x',by simp[hh]⟩
      ·exact .inr hh
   ·cases h
  ·rename_i ety sz dl g ep x l' hl BS;split at h
   ·rename_i hg;simp at h;subst h;obtain⟨h1,h2⟩:=Pq k BS;refine⟨λu e hu=> ?_,λu hu=> ?_⟩
    ·rcases Ae.1 hu with hu|hu
     ·cases hu;exact⟨by simp,by simpa using hg,g,x,_,rfl,CP hl k, .inr ⟨_,_,_,_,rfl⟩⟩
     ·obtain⟨p,q,r⟩:=h1 u e hu;exact⟨by simp[p],q,r⟩
    ·rcases Ae.1 hu with rfl|hu
     ·exact .inl ⟨g,x,by simp⟩
     ·rcases h2 u hu with⟨g',x',hh⟩|hh
      ·exact .inl ⟨g',x',by simp[hh]⟩
      ·exact .inr hh
   ·cases h
  ·rename_i g x l' hl BS;simp at h;subst h;obtain⟨h1,h2⟩:=Pq k BS;refine⟨λu e hu=> ?_,λu hu=> ?_⟩
   ·obtain⟨p,q,r⟩:=h1 u e hu;exact⟨by simp[p],q,r⟩
   ·rcases Ae.1 hu with rfl|hu
    ·exact .inr (.inl ⟨g,x,CP hl k⟩)
    ·exact h2 u hu
  ·rename_i ty g cs l' hl BS;simp at h;subst h;obtain⟨h1,h2⟩:=Pq k BS;refine⟨λu e hu=> ?_,λu hu=> ?_⟩
   ·obtain⟨p,q,r⟩:=h1 u e hu;exact⟨by simp[p],q,r⟩
   ·rcases Ae.1 hu with rfl|hu
    ·exact .inr (.inr ⟨ty,g,cs,CP hl k⟩)
    ·exact h2 u hu
  ·cases h
theorem Mg{hp:Nat->Option Af}:∀{l:List (Nat × Af)} {t:Nat},(∀e,(t,e)∉l)->Bp hp l t=hp t
 | [],_,_=>rfl
 |(u,e)::l,t,h=>by
  have ht:t≠u:=by rintro rfl;exact h e (by simp)
  have:=Mg (hp:=λv=>if v=u then some e else hp v) (l:=l) (t:=t) (λe' Fc=>h e' (by simp[Fc]));simp only[Bp,List.foldl_cons]at this ⊢;rw[this,if_neg ht]
theorem mZ{hp:Nat->Option Af}:∀{l:List (Nat × Af)} {t:Nat} {e:Af},(t,e)∈l->(∀e',(t,e')∈l->e'=e)->Bp hp l t=some e
 | [],_,_,h,_=>by simp at h
 |(u,f)::l,t,e,h,hu=>by
  simp only[Bp,List.foldl_cons];by_cases hm:∃e',(t,e')∈l
  ·obtain⟨e',Fc⟩:=hm;have:=hu e' (by simp[Fc]);subst this;exact mZ (hp:=λv=>if v=u then some f else hp v) Fc (λe'' h''=>hu e'' (by simp[h'']))
  ·have hn:∀e',(t,e')∉l:=λe' Fc=>hm ⟨e',Fc⟩;have:=Mg (hp:=λv=>if v=u then some f else hp v) (l:=l) (t:=t) hn;simp only[Bp]at this;rw[this];rcases Ae.1 h with h|h
   ·cases h;simp
   ·exact absurd h (hn e)
theorem Mi(hs:∀t e,hp0 t=some e->hp t=some e){ρ:List AV}{t:Nat}{e:Af}(h:CN ρ (hp0 t) e):CN ρ (hp t) e:=by
 cases hh:hp0 t with
 |none=>rw[hh]at h;exact h.elim
 |some e9=>rw[hs t e9 hh];rwa[hh]at h
theorem zDU{ρ:List AV}{o:Option Af}{e f:Af}(h:CN ρ o e)(k:CN ρ o f):e=f:=by
 cases o with
 |none=>exact h.elim
 |some o=>
  cases o with
  |gd gs x=>exact h.2.symm.trans k.2
  |box=>exact h.symm.trans k
  |row=>exact h.symm.trans k
  |ca=>exact h.symm.trans k
  |dead=>exact h.symm.trans k
  |deep=>exact h.symm.trans k
  |hol=>exact h.symm.trans k
  |pre=>exact h.symm.trans k
theorem Rel.freeze(h:Rel c n sl hp a)(hs:∀t e,hp0 t=some e->hp t=some e)(k:BA c.ρ gs){ts:List Nat}{l:List (Nat × Af)}(hf:D3 hp0 gs ts=some l):
  Rel (c.ca (l.map (·.1))) n sl (Bp hp l) a:=by
 obtain⟨h1,h2⟩:=Pq k hf;have hG:∀u,(c.ca (l.map (·.1))).G u=if u∈l.map (·.1)then⟨[],[]⟩else c.G u:=λu=>rfl;have J4:∀t e e',(t,e)∈l->(t,e')∈l->e'=e:=by intro t e e' he Fc;obtain⟨_,_,g,x,_,rfl,r,rl⟩:=h1 t e he;obtain⟨_,_,g',x',_,rfl,r',rl'⟩:=h1 t e' Fc;have:=zDU r r';subst this;obtain⟨rfl,rfl⟩:=rl.fun rl';rfl
 refine h.change (λu=>u∈l.map (·.1)) (Cx.ji c _) ⟨h.base.os,h.base.tape,h.base.output,h.base.size,h.base.pins,h.base.block,h.base.pk,h.base.lo⟩ (λu hu=>⟨Mg (λe he=>hu (List.mem_map.2 ⟨_,he,rfl⟩)),by rw[hG,if_neg hu],by simp only[Cx.ca,if_neg hu],λg hg=>hg⟩) (λu hu b hb=>rfl) (λu hu=> ?_) ?_ h.bz (λu e hu=> ?_)
 ·obtain⟨⟨u',e⟩,he,rfl⟩:=List.mem_map.1 hu;have Ec:=mZ (hp:=hp) he (λe' Fc=>J4 _ _ _ he Fc);obtain⟨_,_,g,x,f0,rfl,r,rl⟩:=h1 u' e he;obtain⟨q1,f,r1,r2⟩:=rl.rd (h.ents u' _ (Mi hs r));have LC:((c.ca (l.map (·.1))).G u').top=[]/\((c.ca (l.map (·.1))).G u').O=[]:=by rw[hG,if_pos hu];simp
  rw[Ec];refine⟨λe' hr=> ?_,λ_=>LC⟩;have:e'= .ca g x:=hr.symm;subst this;exact⟨q1,⟨f,r1,λb hb=>by
   refine zy3 h.gw (ts:=l.map (·.1)) (us:=[u']) (by simpa using hu) ?_;rcases r2 b hb with hb|hb
   ·exact .inr ⟨u',by simp,hb⟩
   ·exact .inl hb⟩,LC.1,LC.2⟩
 ·refine⟨λu=> ?_,λu v eI b hb=> ?_,λu b hb=> ?_,λu b hb=> ?_⟩
  ·rw[hG];split
   ·simp[GI.own]
   ·exact h.gw.nodup u
  ·rw[hG]at hb ⊢;split at hb
   ·simp[GI.own]at hb
   ·split
    ·simp[GI.own]
    ·exact h.gw.cy u v eI b hb
  ·rw[hG]at hb;split at hb
   ·simp[GI.own]at hb
   ·exact h.gw.allow u b hb
  ·rw[hG]at hb;split at hb
   ·simp[GI.own]at hb
   ·exact h.gw.inb u b hb
 ·by_cases hm:∃e',(u,e')∈l
  ·obtain⟨e',Fc⟩:=hm;obtain⟨_,_,g,x,f0,rfl,r,rl⟩:=h1 u e' Fc;have r':=Mi hs r;cases hh:hp u with
   |none=>rw[hh]at r';exact r'.elim
   |some e9=>exact h.c6 u e9 hh
  ·rw[Mg (λe' Fc=>hm ⟨e',Fc⟩)]at hu;exact h.c6 u e hu
theorem zyz{ts:List Nat}(h:Oc hp0 gs ts=true){t:Nat}(ht:t∈ts){ty:Nat}{g:Bool}{cs:List SV}:Dq hp0 gs t≠some (.box ty g cs):=by intro hl;simp only[Oc,Bc,List.any_eq_false]at h;have:=h t ht;rw[hl]at this;simp at this
theorem zv1{ρ:List AV}(k:BA ρ gs){ts:List Nat}{l:List (Nat × Af)}(hf:D3 hp0 gs ts=some l){t:Nat}(ht:t∈ts):(∃g x,(t,Af.ca g x)∈l)\/(∃g x,Dq hp0 gs t=some (.ca g x))\/ ∃ty g cs,Dq hp0 gs t=some (.box ty g cs):=by
 induction ts generalizing l with
 |nil=>simp at ht
 |cons u ts ih=>
  unfold D3 at hf;split at hf
  ·rename_i ety sz g x d l' hl BS;split at hf
   ·simp at hf;subst hf;rcases Ae.1 ht with rfl|ht
    ·exact .inl ⟨g,x,by simp⟩
    ·rcases ih BS ht with⟨g',x',hh⟩|hh
     ·exact .inl ⟨g',x',by simp[hh]⟩
     ·exact .inr hh
   ·cases hf
  ·rename_i ety sz dl g ep x l' hl BS;split at hf
   ·simp at hf;subst hf;rcases Ae.1 ht with rfl|ht
    ·exact .inl ⟨g,x,by simp⟩
    ·rcases ih BS ht with⟨g',x',hh⟩|hh
     ·exact .inl ⟨g',x',by simp[hh]⟩
     ·exact .inr hh
   ·cases hf
  ·rename_i g x l' hl BS;simp at hf;subst hf;rcases Ae.1 ht with rfl|ht
   ·exact .inr (.inl ⟨g,x,hl⟩)
   ·exact ih BS ht
  ·rename_i ty g cs l' hl BS;simp at hf;subst hf;rcases Ae.1 ht with rfl|ht
   ·exact .inr (.inr ⟨ty,g,cs,hl⟩)
   ·exact ih BS ht
  ·cases hf
theorem VG(h:Rel c n sl hp a)(eh:EH c hp0)(k:BA c.ρ gs){ts:List Nat}{l:List (Nat × Af)}(hf:D3 hp0 gs ts=some l)(hb:Oc hp0 gs ts=true){b:Nat}(hs:c.ei ts b):(c.ca (l.map (·.1))).ok b:=by
 rcases hs with hs|⟨t,ht,CS⟩
 ·exact Cx.ew hs
 ·rcases zv1 k hf ht with⟨g,x,hh⟩|⟨g,x,hh⟩|⟨ty,g,cs,hh⟩
  ·exact zy3 h.gw (us:=[t]) (by simpa using⟨_,hh⟩) (.inr ⟨t,by simp,CS⟩)
  ·obtain⟨_,_,Ck,_⟩:=eh t _ (CP hh k);rw[Ck]at CS;simp at CS
  ·exact absurd hh (zyz hb ht)
theorem wF(h:Rel c n sl hp a)(hs:∀t e,hp0 t=some e->hp t=some e)(k:BA c.ρ gs){t:TypeId}{s:SV}{v:Value}(hr:SR c [s] [v]){x:E}{fz:List (Nat × Af)}{d:Bool}{ck:List Cn}(ht:aQ P hp0 gs t s=some (x,fz,d,ck))(hc:∀q∈ck,q.den c.ρ):
  ∃f,Rd c.w [v] [x.den c.ρ] f/\(d=true->f=[])/\(∃ts,D3 hp0 gs ts=some fz/\ ∀b∈f,(c.ca (fz.map (·.1))).ok b)/\
   (if Am P t then∃cs,x.den c.ρ= .agg cs/\cs.length=P.cellsOf t else(∀cs,x.den c.ρ≠ .agg cs)/\ ∀cs,x.den c.ρ≠ .tup cs):=by
 have eh:EH c hp0:=λt e hr=>h.ents t e (Mi hs hr);unfold aQ at ht;split at ht
 ·cases ht
 ·rename_i y hy;obtain⟨f,q1,q2⟩:=Ig eh k A8 hy hr A8 (AN _);split at ht
  ·simp at ht;obtain⟨rfl,rfl,rfl,rfl⟩:=ht;obtain⟨c1,c2,c3,c4⟩:=Cg hc;have hf:f=[]:=by
    cases hg:Am P t with
    |true=>obtain⟨cs,BD⟩:=c3 hg;obtain⟨as_,rfl,_,r⟩:=KE q1 BD;exact Hs r (by rw[BD]at c2;exact c2)
    |false=>exact Hs q1 (by simpa using c4 hg)
   subst hf;refine⟨[],q1,λ_=>rfl,⟨[],rfl,by simp⟩,?_⟩;split
   ·rename_i hg;obtain⟨cs,BD⟩:=c3 hg;exact⟨cs,BD,by rw[BD]at c1;exact c1⟩
   ·rename_i hg;have:=c4 (by simpa using hg);exact⟨λcs BD=>by rw[BD]at this;simp[AV.scalar]at this,λcs BD=>by rw[BD]at this;simp[AV.scalar]at this⟩
  ·split at ht
   ·rename_i IK;split at ht
    ·cases ht
    ·rename_i l hl;simp only[Ad,AY]at ht;obtain⟨rfl,rfl,rfl,rfl⟩:=ht;refine⟨f,q1,by simp,⟨_,hl,λb hb=>VG h eh k hl IK (q2 b hb)⟩,?_⟩;have hq:=Cg hc;unfold sO at hq;split
     ·rename_i hg;rw[if_pos hg]at hq;obtain⟨cs,BD,hl⟩:=hq;exact⟨cs,BD,hl⟩
     ·rename_i hg;rw[if_neg hg]at hq;exact hq
   ·cases ht
end
section
variable {P:Program} {c:Cx} {n nx:Nat} {sl sl0:Nat->SV} {hp hp0:Nat->Option Af} {a:Act} {o:Oper} {gs:Gd} {e:Bh} {sg:BY} {nv:Nat}
theorem PN(w:World)(t ty el:TypeId)(i:TypeInfo)(z:Value)(ht:P.underlying t=some (.slice el))(hi:P.info? el=some i)(hz:i.zero=some z)(CU:z.cells.size=i.size)(Bo:0<i.size)
  (Own:Nat->Prop) (v:Value) (k:Nat) (old:List Value) (ho:old.length=k*i.size)
  (AT:(k=0/\ ∃q,v= .slice q 0 0)\/ ∃g cap C,v= .slice (some ⟨g,0,none⟩) k cap/\k<=cap/\cap<=maxLen/\w.heap[g]?=some (.cells C el (0,0))/\C.size=cap*i.size/\old=C.toList.take (k*i.size)/\Own g)
  (q:Option Addr) (m r:Nat) (news:List Value) (hs:Src w i.size q m news) (WQ:k+m<=maxLen) (hb:(k+m)*i.bytes<=140737488355328):
  ∃v' w',(Builtin.append_ #[t,t] ty #[v, .slice q m r]).run P w= .ok v' w'/\
   ((v'=v/\w'=w/\m=0)\/ ∃g cap C,v'= .slice (some ⟨g,0,none⟩) (k+m) cap/\k+m<=cap/\cap<=maxLen/\w'.heap[g]?=some (.cells C el (0,0))/\C.size=cap*i.size/\C.toList.take ((k+m)*i.size)=old++news/\
    w.grownBy w' (some g)/\((g=w.heap.size/\g<w'.heap.size)\/Own g)):=by
 have JZ:news.length=m*i.size:=by
  rcases hs with⟨rfl,rfl,rfl⟩|⟨ad,rfl,h1,_⟩
  ·simp
  ·exact h1
 have hlen:(old++news).length=(k+m)*i.size:=by rw[AH,ho,JZ,Nat.add_mul]
 have grown:∀(cp:Nat),cp<k+m-> ∀(X:Array Value),X.toList=old++news-> ∃C,C=X++Builtin.zeroCells z.cells (grownCap w (k+m) cp el-(k+m))/\
   k+m<=grownCap w (k+m) cp el/\grownCap w (k+m) cp el<=maxLen/\C.size=grownCap w (k+m) cp el*i.size/\C.toList.take ((k+m)*i.size)=old++news:=by
  intro cp hcp X hX;have MM:=grownCap_ge w (k+m) cp el;have F6:=grownCap_le_maxLen w (k+m) cp el WQ;refine⟨_,rfl,MM,F6,?_,?_⟩
  ·have hXs:X.size=(k+m)*i.size:=by rw[<-BG,hX,hlen]
   rw[Array.size_append,hXs,size_zeroCells,CU,<-Nat.add_mul];congr 1;omega
  ·rw[Array.toList_append,hX,<-hlen];exact List.take_left
 have newb:∀C:Array Value,w.grownBy (w.drew.alloc (.cells C el)) (some w.heap.size)/\w.heap.size<(w.drew.alloc (.cells C el)).heap.size/\(w.drew.alloc (.cells C el)).heap[w.heap.size]?=some (.cells C el (0,0)):=
  λC=>⟨⟨rfl,rfl,rfl,by simp,λj hj _=>Below.heap_alloc w.drew _ _ hj⟩,by simp,heap_alloc_new w.drew _⟩
 rcases AT with⟨rfl,p,rfl⟩|⟨g,cap,C,rfl,LI,F6,hg,BD,hold,bD⟩
 ·have hold:old=[]:=List.eq_nil_of_length_eq_zero (by simpa using ho);subst hold;by_cases hm:m=0
  ·subst hm;have hn:news=[]:=List.eq_nil_of_length_eq_zero (by simpa using JZ);subst hn;refine⟨_,w,?_, .inl ⟨rfl,rfl,rfl⟩⟩;rcases hs with⟨rfl,_,_⟩|⟨ad,rfl,_⟩<;>cases p<;>
    simp[Builtin.append_,run_underlying ht,sizeOf,typeInfo,hi,Builtin.lenOf,Builtin.firstCells,loadCells,loadCellsFrom,storeCells]
  ·rcases hs with⟨_,rfl,_⟩|⟨ad,rfl,h1,h2,h3⟩
   ·exact absurd rfl hm
   ·obtain⟨C',Qf,g1,g2,g3,g4⟩:=grown 0 (by omega) news.toArray (by simp);cases p with
    |none=>have hr:=run_append_nil (P:=P) w t ty el i z ht hi hz ad m r news h1 h2 (by omega) (by simp only[maxLen]at WQ;omega) (by have hb:=hb;simp only[Nat.zero_add]at hb;omega);simp only[Nat.zero_add]at g1 g2 g3 g4 Qf ⊢;obtain⟨n1,n2,n3⟩:=newb C';refine⟨_,_,hr, .inr ⟨_,_,C',rfl,g1,g2,?_,g3,g4,?_, .inl ⟨rfl,?_⟩⟩⟩<;>rw[<-Qf]<;>first|exact n3|exact n1|exact n2
    |some p=>have hr:=run_append_grow (P:=P) w t ty el i z ht hi hz p 0 0 [] (by simp) (by simp) ad m r news h1 h2 (by omega) (by simp only[maxLen]at WQ;omega) (growslice_fits (by omega) hb);rw[show(([]:List Value).toArray++news.toArray)=news.toArray by simp]at hr;simp only[Nat.zero_add]at g1 g2 g3 g4 Qf hr ⊢;obtain⟨n1,n2,n3⟩:=newb C';refine⟨_,_,hr, .inr ⟨_,_,C',rfl,g1,g2,?_,g3,g4,?_, .inl ⟨rfl,?_⟩⟩⟩<;>rw[<-Qf]<;>first|exact n3|exact n1|exact n2
 ·rcases hs with⟨rfl,rfl,rfl⟩|⟨ad,rfl,h1,h2,h3⟩
  ·refine⟨_,w,?_, .inl ⟨rfl,rfl,rfl⟩⟩;simp[Builtin.append_,run_underlying ht,sizeOf,typeInfo,hi,Builtin.lenOf,Builtin.firstCells,LI,storeCells]
  ·by_cases BQ:k+m<=cap
   ·have EP:k*i.size+news.length<=C.size:=by rw[h1,BD,<-Nat.add_mul];exact By _ BQ
    have hr:=run_append_room (P:=P) w t ty el i ht hi g k cap C hg ad m r news h1 h2 h3 BQ EP;refine⟨_,_,hr, .inr ⟨g,cap,_,rfl,BQ,F6,setRow_heap w g C _ el _ hg,?_,?_,⟨rfl,rfl,rfl,by simp,λj _ hj=>setRow_other w g j _ (λhh=>hj (by rw[hh]))⟩, .inr bD⟩⟩
    ·simp only[List.size_toArray,AH,Ar,BC,BG];omega
    ·rw[<-hold,<-hlen];exact List.take_left
   ·have holds:∀j u,old[j]?=some u->w.cell? ((⟨g,0,none⟩:Addr).add j)=some u:=λj u hu=>by
     rw[Addr.add_lit,Nat.zero_add,ED hg];rw[hold,List.getElem?_take]at hu;split at hu
     ·simpa using hu
     ·cases hu
    have hr:=run_append_grow (P:=P) w t ty el i z ht hi hz ⟨g,0,none⟩ k cap old ho holds ad m r news h1 h2 (by omega) (by simp only[maxLen]at WQ;omega) (growslice_fits (by omega) hb);obtain⟨C',Qf,g1,g2,g3,g4⟩:=grown cap (by omega) (old.toArray++news.toArray) (by simp);obtain⟨n1,n2,n3⟩:=newb C';refine⟨_,_,hr, .inr ⟨_,_,C',rfl,g1,g2,?_,g3,g4,?_, .inl ⟨rfl,?_⟩⟩⟩<;>rw[<-Qf]<;>first|exact n3|exact n1|exact n2
def Cx.bf(c:Cx)(t g':Nat)(w':World)(v:Value)(top O:List Nat):Cx:=
 {c with w:=w',G:=λu=>if u=t then⟨top,O⟩else c.G u,K:=λu g=>c.K u g\/(u=t/\g=g'),H:=λu g=>if u=t/\g=g' then v else c.H u g,U:=λu=>c.U u\/u=t,E:=λu=>if u=t then c.E u+1 else c.E u}
theorem Rel.bf(h:Rel c n sl hp a){t g:Nat}(EY:c.A.pin t=none\/g≠0)(Bg: ¬c.K t g){w':World}{row:Option Nat}(hg:c.w.grownBy w' row)
  (Fm:∀g0,row=some g0->g0∈(c.G t).top\/(g0=c.w.heap.size/\g0<w'.heap.size)) {top O:List Nat} (Ck:top=[]\/ ∃g0,row=some g0/\top=[g0]) (hO:O=[]\/O=(c.G t).O) {v:Value} (e1:Af) (BB:∀hs f,e1≠ .gd hs f) (k:BA c.ρ gs)
  (he:D6 c (c.bf t g w' v top O)->DE (c.bf t g w' v top O) t e1):Rel (c.bf t g w' v top O) n sl (Bp hp [(t,C5 gs e1)]) a:=by
 have hG:∀u,(c.bf t g w' v top O).G u=if u=t then⟨top,O⟩else c.G u:=λu=>rfl;have hM:∀b,(c.bf t g w' v top O).M b->c.M b\/row=some b:=by
  rintro b ⟨u,hu⟩;rw[hG]at hu;split at hu
  ·rcases Ck with rfl|⟨g0,hr,rfl⟩
   ·simp at hu
   ·simp at hu;subst hu;exact .inr hr
  ·exact .inl ⟨u,hu⟩
 have TU:∀b,b<c.w.heap.size->c.ok b->row≠some b:=by
  intro b hb AZ hr;rcases Fm b hr with hh|⟨hh,_⟩
  ·exact AZ.1 ⟨t,hh⟩
  ·omega
 have Ce:D6 c (c.bf t g w' v top O):=by
  refine⟨rfl,rfl,λb hb AZ=>⟨λhm=>(hM b hm).elim AZ.1 (TU b hb AZ),AZ.2⟩,λb hb AZ=>hg.block b hb (λhh=>TU b hb AZ hh.symm),λu g1 hu=>⟨.inl hu,?_⟩,λu g1 hu=> ?_⟩
  ·simp only[Cx.bf];rw[if_neg];rintro⟨rfl,rfl⟩;exact Bg hu
  ·by_cases GR:u=t
   ·have e1:(c.bf t g w' v top O).E u=c.E u+1:=by simp only[Cx.bf,if_pos GR]
    exact⟨by omega,λh=>by omega⟩
   ·have e1:(c.bf t g w' v top O).E u=c.E u:=by simp only[Cx.bf,if_neg GR]
    have e2:(c.bf t g w' v top O).G u=c.G u:=by simp only[Cx.bf,if_neg GR]
    rw[e1];refine⟨AN _,λ_=>⟨e2,λb hb Gi=>hg.block b Gi λhh=> ?_⟩⟩;rcases Fm b hh.symm with h1|⟨h1,_⟩
    ·exact h.gw.cy u t GR b (by simp[GI.own,hb]) (by simp[GI.own,h1])
    ·omega
 have Ec:∀u,Bp hp [(t,C5 gs e1)] u=if u=t then some (C5 gs e1)else hp u:=λu=>rfl;have OP:∀u,u≠t-> ∀b∈(c.G u).own,row≠some b:=by
  intro u hu b hb hr;rcases Fm b hr with hh|⟨hh,_⟩
  ·exact h.gw.cy u t hu b hb (by simp[GI.own,hh])
  ·have:=h.gw.inb u b hb;omega
 have B1:∀b∈(⟨top,O⟩:GI).own,row=some b\/b∈(c.G t).own:=by
  intro b hb;simp only[GI.own,Ac]at hb ⊢;rcases hb with hb|hb
  ·rcases Ck with rfl|⟨g0,hr,rfl⟩
   ·simp at hb
   ·simp at hb;subst hb;exact .inl hr
  ·rcases hO with rfl|rfl
   ·simp at hb
   ·exact .inr (.inr hb)
 refine h.change (λu=>u=t) Ce ⟨hg.os.trans h.base.os,hg.tape.trans h.base.tape,hg.output.trans h.base.output,Nat.le_trans h.base.size hg.size,λu v' hp=>⟨.inl (h.base.pins u v' hp).1,λhk=> ?_⟩,λb hb Gn=> ?_,h.base.pk,h.base.lo⟩
  (λu hu=>⟨by rw[Ec,if_neg hu],by rw[hG,if_neg hu],by simp[Cx.bf,hu],λg1 hh=>hh.resolve_right (λhh=>hu hh.1)⟩) (λu hu b hb=>hg.block b (h.gw.inb u b (by simp[GI.own,hb])) (λhh=>OP u hu b (by simp[GI.own,hb]) hh.symm)) (λu hu=> ?_) ?_ (λu g1 hh=> ?_) (λu f hf=> ?_)
 ·have GR: ¬(u=t/\0=g):=by
   rintro⟨rfl,rfl⟩;rcases EY with hh|hh
   ·have hp':c.A.pin u=some v':=hp;rw[hh]at hp';cases hp'
   ·exact hh rfl
  have Cw:=hk.resolve_right GR;simp only[Cx.bf];rw[if_neg GR];exact(h.base.pins u v' hp).2 Cw
 ·refine(hg.block b (Nat.lt_of_lt_of_le hb h.base.size) (λhh=> ?_)).trans (h.base.block b hb Gn);rcases Fm b hh.symm with hh|⟨hh,_⟩
  ·rcases h.gw.allow t b (by simp[GI.own,hh])with h1|h1
   ·exact absurd h1 (Nat.not_le.2 hb)
   ·exact Gn h1
  ·have:=h.base.size;have h9:b<c.w0.heap.size:=hb;omega
 ·subst hu;rw[Ec,if_pos rfl];exact⟨λe' hr=>by rw[(Ss k BB).1 hr];exact he Ce,λhn=>absurd ((Ss k BB).2 rfl) (hn e1)⟩
 ·have B6:(⟨top,O⟩:GI).own.Nodup:=by
   have h0:=h.gw.nodup t;simp only[GI.own]at h0 ⊢;rw[List.nodup_append]at h0 ⊢;refine⟨by rcases Ck with rfl|⟨g0,hr,rfl⟩<;>simp,by rcases hO with rfl|rfl;simp;exact h0.2.1,λp hp q hq=> ?_⟩;rcases Ck with rfl|⟨g0,hr,rfl⟩
   ·simp at hp
   ·simp at hp;subst hp;rcases hO with rfl|rfl
    ·simp at hq
    ·rcases Fm p hr with hh|⟨hh,_⟩
     ·exact h0.2.2 p hh q hq
     ·have:=h.gw.inb t q (by simp[GI.own,hq]);omega
  refine⟨λu=> ?_,λu u' LW b hb=> ?_,λu b hb=> ?_,λu b hb=> ?_⟩
  ·rw[hG];split
   ·exact B6
   ·exact h.gw.nodup u
  ·rw[hG]at hb ⊢;by_cases h1:u=t
   ·rw[if_pos h1]at hb;rw[if_neg (λhh=>LW (h1.trans hh.symm))];rcases B1 b hb with hr|hb
    ·exact λhh=>OP u' (λh2=>LW (h1.trans h2.symm)) b hh hr
    ·exact h.gw.cy t u' (λhh=>LW (h1.trans hh)) b hb
   ·rw[if_neg h1]at hb;by_cases h2:u'=t
    ·rw[if_pos h2];intro Cl;rcases B1 b Cl with hr|Cl
     ·exact OP u h1 b hb hr
     ·exact h.gw.cy u t h1 b hb Cl
    ·rw[if_neg h2];exact h.gw.cy u u' LW b hb
  ·rw[hG]at hb;split at hb
   ·rcases B1 b hb with hr|hb
    ·rcases Fm b hr with hh|⟨hh,_⟩
     ·exact h.gw.allow t b (by simp[GI.own,hh])
     ·exact .inl (by rw[hh];exact h.base.size)
    ·exact h.gw.allow t b hb
   ·exact h.gw.allow u b hb
  ·rw[hG]at hb;show b<w'.heap.size;split at hb
   ·rcases B1 b hb with hr|hb
    ·rcases Fm b hr with hh|⟨_,hh⟩
     ·exact Nat.lt_of_lt_of_le (h.gw.inb t b (by simp[GI.own,hh])) hg.size
     ·exact hh
    ·exact Nat.lt_of_lt_of_le (h.gw.inb t b hb) hg.size
   ·exact Nat.lt_of_lt_of_le (h.gw.inb u b hb) hg.size
 ·rcases hh with hh|⟨rfl,_⟩
  ·exact .inl (h.bz u g1 hh)
  ·exact .inr rfl
 ·rw[Ec]at hf;split at hf
  ·rename_i hu;exact .inr hu
  ·exact .inl (h.c6 u f hf)
theorem rZ{w:World}{v:Value}{ys:List AV}{f:List Nat}{sz:Nat}(h:Rd w [v] [.sl ys] f)(hs:∀y∈ys,y.cells.length=sz):
  ∃q r news N,v= .slice q ys.length r/\Src w sz q ys.length news/\Rd w news (Ao ys) N/\(∀b∈N,b∈f)/\news.length=ys.length*sz/\(∀u∈news,u.oneCell'=true):=by
 rcases h.kind with hh|hh|hh|hh|hh|hh|hh|hh|hh|hh
 ·obtain⟨_,_,_,hh,_⟩:=hh;cases hh
 ·obtain⟨_,_,hh,_⟩:=hh;cases hh
 ·obtain⟨_,_,hh,_⟩:=hh;cases hh
 ·obtain⟨p,r,rfl,hh,rfl⟩:=hh;cases hh;refine⟨p,r,[],[],rfl,?_, .nil,by simp,by simp,by simp⟩;cases p with
  |none=>exact .inl ⟨rfl,rfl,rfl⟩
  |some p=>exact .inr ⟨p,rfl,by simp,by simp,by simp⟩
 ·obtain⟨b,off,m,r,ys',cs,C,t,fz,sz',f1,rfl,hh,rfl,hb,h1,h2,h3,h4,h5,h6,HQ,h7⟩:=hh;cases hh;subst h3;have Gx:sz'=sz:=by
   cases ys with
   |nil=>simp at h1
   |cons y ys=>rw[<-h4 y (by simp),hs y (by simp)]
  subst Gx;have hl:=h7.len;rw[K4 ys h4]at hl;exact⟨_,r,cs,f1,rfl, .inr ⟨_,rfl,hl,λj u hu=>by rw[Addr.add_lit,ED hb];exact h6 j u hu,HQ⟩,h7,λq hq=>by simp[hq],hl,HQ⟩
 ·obtain⟨_,_,_,hh,_⟩:=hh;cases hh
 ·obtain⟨_,_,_,hh,_⟩:=hh;cases hh
 ·obtain⟨_,_,_,_,_,_,_,hh,_⟩:=hh;cases hh
 ·obtain⟨_,_,_,_,hh,_⟩:=hh;cases hh
 ·obtain⟨_,hh,_⟩:=hh;cases hh
end
section
variable {P:Program} {c:Cx} {n nx:Nat} {sl sl0:Nat->SV} {hp hp0:Nat->Option Af} {a:Act} {o:Oper} {gs:Gd} {e:Bh} {sg:BY} {nv:Nat}
theorem PI(hp:Nat->Option Af)(l m:List (Nat × Af)):Bp hp (l++m)=Bp (Bp hp l) m:=by simp[Bp,List.foldl_append]
theorem zvJ(h:Rel c n sl hp a)(hs:∀t e,hp0 t=some e->hp t=some e)(k:BA c.ρ gs){el:TypeId}{s:SV}{v:Value}(hr:SR c [s] [v]){y:E}(hy:BF hp0 gs A8 s=some y){fz:List (Nat × Af)}{d:Bool}{ck:Cn}(ht:Wp P hp0 gs el s y=some (fz,d,ck))(hc:ck.den c.ρ):
  ∃ts ys q r news N,D3 hp0 gs ts=some fz/\y.den c.ρ= .sl ys/\(∀z∈ys,z.cells.length=P.cellsOf el)/\v= .slice q ys.length r/\Src c.w (P.cellsOf el) q ys.length news/\Rd c.w news (Ao ys) N/\(∀b∈N,(c.ca (fz.map (·.1))).ok b)/\(d=true->N=[])/\news.length=ys.length*P.cellsOf el/\ ∀u∈news,u.oneCell'=true:=by
 have eh:EH c hp0:=λt e hr=>h.ents t e (Mi hs hr);obtain⟨f,q1,q2⟩:=Ig eh k A8 hy hr A8 (AN _);unfold Wp at ht;split at ht
 ·simp only[Ad,AY]at ht;obtain⟨rfl,rfl,rfl⟩:=ht;obtain⟨ys,Dx,Aw⟩:=hc;rw[Dx]at q1;obtain⟨q,r,news,N,hv,g1,g2,g3,g4,g5⟩:=rZ q1 (λz hz=>(Aw z hz).1);have hN:N=[]:=Hs g2 (λx hx=>by
   obtain⟨z,hz,hx⟩:=List.mem_flatMap.1 hx;exact(Aw z hz).2 x hx)
  exact⟨[],ys,q,r,news,N,rfl,Dx,λz hz=>(Aw z hz).1,hv,g1,g2,by simp[hN],λ_=>hN,g4,g5⟩
 ·split at ht
  ·rename_i IK;obtain⟨l,hl,ht⟩:=As.1 ht;simp only[AY]at ht;obtain⟨rfl,rfl,rfl⟩:=ht;obtain⟨ys,Dx,Aw⟩:=hc;rw[Dx]at q1;obtain⟨q,r,news,N,hv,g1,g2,g3,g4,g5⟩:=rZ q1 Aw;exact⟨_,ys,q,r,news,N,hl,Dx,Aw,hv,g1,g2,λb hb=>VG h eh k hl IK (q2 b (g3 b hb)),by simp,g4,g5⟩
  ·cases ht
theorem K1{el:TypeId}(h:Hv P el=true):∃i z,P.info? el=some i/\i.zero=some z/\z.cells.size=i.size/\0<i.size/\P.cellsOf el=i.size/\P.bytesOf el=i.bytes:=by
 unfold Hv at h;cases hi:P.info? el with
 |none=>simp[hi]at h
 |some i=>
  cases hz:i.zero with
  |none=>simp[hi,hz]at h
  |some z=>simp only[hi,hz,Ab,AM,bne_iff_ne]at h;exact⟨i,z,rfl,hz,h.1,by omega,by simp[Program.cellsOf,hi],by simp[Program.bytesOf,hi]⟩
theorem VA(xs ys:List AV):Ao (xs++ys)=Ao xs++Ao ys:=by simp[Ao]
theorem jN(h:BE P c n nx sl hp a sl0 hp0 o gs){x y:Operand}{tx:TypeId}{cl:Call}(ho:o.op= .call cl)(Aw:cl.callee= .builtin .append)(C3:cl.args.toList=[x,y])(DZ:cl.argTypes.toList=[tx,tx])
  {el:TypeId} (Bx:P.underlying tx=some (.slice el)) (hz:Hv P el=true) {s2:SV} {ye:E} (Bb:BM sl0 gs y=some s2) (hy:BF hp0 gs A8 s2=some ye) {fz:List (Nat × Af)} {d:Bool} {ck:Cn} (CF:Wp P hp0 gs el s2 ye=some (fz,d,ck)) (IB:ck.den c.ρ)
  {t g:Nat} (EY:c.A.pin t=none\/g≠0) {c0:E} {d':Bool} (BQ:Cn.den c.ρ (.room c0 ye (P.bytesOf el))) (Eu:∀f,(t,f)∉fz) (Bg: ¬c.K t g)
  {top N0:List Nat} {v:Value} (hv:a.eval x=v) (AT:Db c.w el (P.cellsOf el) v (c0.den c.ρ) top N0) (Ck:(c.G t).top=top) (Oh:∀b∈N0,c.ok b) (W0:d'=true->Tj c.w N0/\(c.G t).O=N0) (LD:∀g',c.K t g'->g'<=g) (hU:∀u,u=t->c.U u\/(nx<=u/\u<nx+BW)) {ckl:List Cn}:
  AD P o c n nx sl hp gs a {cj:=ckl,val:= .own t g,bq:=fz++ [(t,C5 gs (.row el (P.cellsOf el) g (.app c0 ye) (d&&d')))]}:=by
 have Ah:cl.args= #[x,y]:=by apply Array.ext';simp[C3]
 have FU:cl.argTypes= #[tx,tx]:=by apply Array.ext';simp[DZ]
 have CT:y∈o.op.operands:=by simp[ho,Op.operands,Call.operands,Aw,Ah]
 obtain⟨i,z,hi,FP,CU,Bo,Cu,EB⟩:=K1 hz;obtain⟨ts,ys,q,r,news,N,HV,Dx,Jg,Dn,Dm,Dh,Gg,hdN,JZ,ON⟩:=zvJ h.rel h.hp h.gs (h.c7 Bb CT) hy CF IB;have DJ:=h.rel.freeze h.hp h.gs HV;obtain⟨xs,Cs,GU,_,A4⟩:=AT;obtain⟨mm,kk,FR,DR,MY,Xa⟩:=BQ;rw[Cs]at FR;rw[Dx]at DR;simp only[AV.len,AV.int.injEq,true_and]at FR DR;have Gh:(xs.length+ys.length)*i.bytes<=140737488355328:=by
  rw[<-FR,<-DR,EB]at MY;have h9:(((xs.length+ys.length)*i.bytes:Nat):Int)<=140737488355328:=by rw[Int.natCast_mul,Int.natCast_add];exact MY
  omega
 have Gi:xs.length+ys.length<=140737488355328:=by rw[<-FR,<-DR]at Xa;omega
 rw[Cu]at Dm JZ GU Jg A4;obtain⟨old,hold,Fx,Dj,Cp⟩:∃old,old.length=xs.length*i.size/\((xs.length=0/\ ∃q,v= .slice q 0 0)\/ ∃g cap C,v= .slice (some ⟨g,0,none⟩) xs.length cap/\xs.length<=cap/\cap<=maxLen/\c.w.heap[g]?=some (.cells C el (0,0))/\C.size=cap*i.size/\old=C.toList.take (xs.length*i.size)/\g∈(c.G t).top)/\Rd c.w old (Ao xs) N0/\ ∀u∈old,u.oneCell'=true:=by
  rcases A4 with⟨rfl,⟨p,rfl⟩,rfl,rfl⟩|⟨g9,cap,C,rfl,h6,h7,h8,h9,rfl,Fk,EM⟩
  ·exact⟨[],by simp, .inl ⟨rfl,p,rfl⟩, .nil,by simp⟩
  ·refine⟨_,?_, .inr ⟨g9,cap,C,rfl,h6,h7,h8,h9,rfl,by rw[Ck];simp⟩,EM,Fk⟩;have e9:C.toList.length=cap*i.size:=by rw[<-h9];simp
   rw[Ar,e9];exact Nat.min_eq_left (By _ h6)
 obtain⟨v',w',AR,AL⟩:=PN (P:=P) c.w tx o.type el i z Bx hi FP CU Bo (λg9=>g9∈(c.G t).top) v xs.length old hold Fx q ys.length r news Dm (by simp only[maxLen];omega) Gh;have Dl:(execOp a.eval o).run P c.w= .ok (.value v') w':=by simp[execOp,ho,resolve,Aw,Ah,FU,invoke,builtin,hv,Dn,AR]
 intro next Q hk
 unfold Oper.wp;rw[Dl,Oper.upon_value];have hc1w:(c.ca (fz.map (·.1))).w=c.w:=rfl;have o7:(c.ca (fz.map (·.1))).G t=c.G t:=by simp only[Cx.ca];rw[if_neg];rintro hh;obtain⟨⟨u,f⟩,hf,rfl⟩:=List.mem_map.1 hh;exact Eu f hf
 obtain⟨row,top',TX,Fm,Um,Bk,Dr⟩:∃row top',c.w.grownBy w' row/\(∀g0,row=some g0->g0∈(c.G t).top\/(g0=c.w.heap.size/\g0<w'.heap.size))/\(top'=[]\/ ∃g0,row=some g0/\top'=[g0])/\
   (D6 (c.ca (fz.map (·.1))) ((c.ca (fz.map (·.1))).bf t g w' v' top' (if(d&&d')=true then(c.G t).O else []))-> ∃N',Db w' el (P.cellsOf el) v' (.sl (xs++ys)) top' N'/\(∀b∈N',b∈N0\/b∈N)/\((d&&d')=true->N'=N0))/\ ∃p m r,v'= .slice p m r:=by
  rcases AL with⟨rfl,rfl,Cr⟩|⟨g9,cap,C,rfl,h1,h2,h3,h4,h5,h6,h7⟩
  ·have H7:ys=[]:=List.eq_nil_of_length_eq_zero Cr;subst H7;refine⟨if top=[]then none else top.head?,top,⟨rfl,rfl,rfl,AN _,λ_ _ _=>rfl⟩,λg0 Fm=> .inl ?_,?_,λ_=>⟨N0,?_,λb hb=> .inl hb,λ_=>rfl⟩,?_⟩
   ·rw[Ck];split at Fm
    ·cases Fm
    ·exact List.mem_of_mem_head? Fm
   ·rcases A4 with⟨_,_,rfl,_⟩|⟨g9,_,_,_,_,_,_,_,rfl,_⟩
    ·exact .inl rfl
    ·exact .inr ⟨g9,by simp,rfl⟩
   ·rw[Cu];exact⟨xs,by simp,GU,Bo,A4⟩
   ·rcases Fx with⟨_,p,rfl⟩|⟨g9,cap,C,rfl,_⟩
    ·exact⟨_,_,_,rfl⟩
    ·exact⟨_,_,_,rfl⟩
  ·refine⟨some g9,[g9],h6,λg0 Fm=> ?_, .inr ⟨g9,rfl,rfl⟩,λGO=>⟨N0++N,⟨xs++ys,rfl,λz hz=> ?_,by rw[Cu];exact Bo, .inr ⟨g9,cap,C,by simp,by simpa using h1,h2,h3,by rw[Cu];exact h4,rfl,?_,?_⟩⟩,λb hb=>Ac.1 hb,λFb=> ?_⟩,_,_,_,rfl⟩
   ·cases Fm;exact h7.symm
   ·rcases Ac.1 hz with hz|hz
    ·rw[Cu];exact GU z hz
    ·rw[Cu];exact Jg z hz
   ·rw[Cu];simp only[AH];rw[h5];intro u hu;rcases Ac.1 hu with hu|hu
    ·exact Cp u hu
    ·exact ON u hu
   ·rw[Cu];simp only[AH];rw[h5,VA];refine Rd.app (Dj.frame λb hb=> ?_) (Dh.frame λb hb=> ?_)
    ·have Gh:=Dj.inb b hb;exact GO.mem b Gh (Cx.ew (Oh b hb))
    ·have Gh:=Dh.inb b hb;exact GO.mem b Gh (Gg b hb)
   ·simp only[Ab]at Fb;rw[hdN Fb.1];simp
 obtain⟨p9,m9,r9,hv9⟩:=Dr;have D9:=DJ.bf (gs:=gs) (t:=t) (g:=g) (w':=w') (row:=row) (top:=top') (O:=if(d&&d')=true then(c.G t).O else []) (v:=v') EY Bg TX (by rw[o7];exact Fm) Um (by split;exact .inr (by rw[o7]);exact .inl rfl)
  (.row el (P.cellsOf el) g (.app c0 ye) (d&&d')) (by intros;simp) h.gs (λGO=>by
   obtain⟨N',o1,o2,o3⟩:=Bk GO;have AZ:∀b∈N',((c.ca (fz.map (·.1))).bf t g w' v' top' (if(d&&d')=true then(c.G t).O else [])).ok b:=by
    intro b hb;rcases o2 b hb with hb|hb
    ·exact GO.ok b (Dj.inb b hb) (Cx.ew (Oh b hb))
    ·exact GO.ok b (Dh.inb b hb) (Gg b hb)
   refine⟨.inr ⟨rfl,rfl⟩,λg' CE=> ?_,N',?_,AZ,λFb=> ?_,λFb=> ?_⟩
   ·rcases CE with CE|⟨_,rfl⟩
    ·exact LD g' CE
    ·exact AN _
   ·have e1:((c.ca (fz.map (·.1))).bf t g w' v' top' (if(d&&d')=true then(c.G t).O else [])).H t g=v':=by simp[Cx.bf]
    have e2:(((c.ca (fz.map (·.1))).bf t g w' v' top' (if(d&&d')=true then(c.G t).O else [])).G t).top=top':=by simp[Cx.bf]
    rw[e1,e2];show Db w' el (P.cellsOf el) v' (AV.app (c0.den c.ρ) (ye.den c.ρ)) top' N';rw[Cs,Dx];exact o1
   ·have bA:=o3 Fb;have bX:d'=true:=by simp only[Ab]at Fb;exact Fb.2
    obtain⟨u1,u2⟩:=W0 bX;subst bA;refine⟨u1.frame λb hb=>GO.mem b (Dj.inb b hb) (Cx.ew (Oh b hb)),?_⟩;simp only[Cx.bf,if_true,Fb];exact u2
   ·simp[Cx.bf,Fb])
 have bH:SR ((c.ca (fz.map (·.1))).bf t g w' v' top' (if(d&&d')=true then(c.G t).O else [])) [.own t g] [v']:=by rw[hv9];exact .own (.inr ⟨rfl,rfl⟩) (by simp[Cx.bf]) .nil
 refine hk _ ((c.ca (fz.map (·.1))).bf t g w' v' top' (if(d&&d')=true then(c.G t).O else [])) ⟨rfl,rfl,rfl,rfl,λu hu=> ?_⟩ ?_
 ·rcases hu with hu|rfl
  ·exact .inl hu
  ·exact hU u rfl
 ·have:=D9.put (bH.mkGd gs h.gs) o.dst;rw[PI];exact this
end
section
variable {P:Program} {c:Cx} {n nx:Nat} {sl sl0:Nat->SV} {hp hp0:Nat->Option Af} {a:Act} {o:Oper} {gs:Gd} {e:Bh} {sg:BY} {nv:Nat}
theorem Jk{t el:TypeId}(h:Hu P t=some el):P.underlying t=some (.slice el):=by
 unfold Hu at h;split at h
 ·simp at h;subst h;assumption
 ·cases h
theorem ZM{t el:TypeId}(h:Hu P t=some el):CX P t=some el:=by have hu:=Jk h;simp[CX,hu]
theorem zth{ts:List Nat}{l:List (Nat × Af)}(k:BA c.ρ gs)(h:D3 hp0 gs ts=some l):∀t f,(t,f)∈l-> ∃g x f',CN c.ρ (hp0 t) f'/\Mm f' g x:=by intro t f hf;obtain⟨_,_,g,x,f',_,r⟩:=(Pq k h).1 t f hf;exact⟨g,x,f',r⟩
theorem zud(h:BE P c n nx sl hp a sl0 hp0 o gs){x y:Operand}{tx ty:TypeId}{cl:Call}(ho:o.op= .call cl)(Aw:cl.callee= .builtin .append)(C3:cl.args.toList=[x,y])(DZ:cl.argTypes.toList=[tx,ty])
  {s1 s2:SV} (BL:BM sl0 gs x=some s1) (Bb:BM sl0 gs y=some s2) (he:lP P hp0 gs nx tx ty s1 s2=some e) (hc:∀q∈e.cj,Cn.den c.ρ q):AD P o c n nx sl hp gs a e:=by
 have Ah:cl.args= #[x,y]:=by apply Array.ext';simp[C3]
 have DH:x∈o.op.operands:=by simp[ho,Op.operands,Call.operands,Aw,Ah]
 unfold lP at he;split at he
 ·cases he
 rename_i J3;have J3:tx=ty:=by simpa using J3
 subst J3;split at he
 ·rename_i el Bx;have Bx:=Jk Bx;split at he
  ·cases he
  rename_i hz;have hz:Hv P el=true:=by simpa using hz
  split at he
  ·cases he
  rename_i ye hy;split at he
  ·cases he
  rename_i fz d ck CF;obtain⟨ts,HV⟩:∃ts,D3 hp0 gs ts=some fz:=by
   unfold Wp at CF;split at CF
   ·simp only[Ad,AY]at CF;obtain⟨rfl,_⟩:=CF;exact⟨[],rfl⟩
   ·split at CF
    ·obtain⟨l,hl,CF⟩:=As.1 CF;simp only[AY]at CF;obtain⟨rfl,_⟩:=CF;exact⟨_,hl⟩
    ·cases CF
  have r1:=h.c7 BL DH;have fresh:∀f,(nx,f)∉fz:=λf hf=>by
   obtain⟨_,_,_,r,_⟩:=zth (c:=c) h.gs HV nx f hf;have r:=Mi h.hp r;cases hh:hp nx with
   |none=>rw[hh]at r;exact r.elim
   |some e9=>exact ND h (h.rel.c6 nx e9 hh)
  have hK:∀g,¬c.K nx g:=λg hg=>ND h (h.rel.bz _ _ hg);have Gv:=h.rel.off nx (λe9 hr=>by
   cases hh:hp nx with
   |none=>rw[hh]at hr;exact hr.elim
   |some e8=>exact ND h (h.rel.c6 nx e8 hh))
  have W6:c.A.pin nx=none:=by
   cases hh:c.A.pin nx with
   |none=>rfl
   |some v=>exact absurd (h.rel.base.pins nx v hh).1 (ND h)
  have Qg:∀u,u=nx->c.U u\/(nx<=u/\u<nx+BW):=λu hu=> .inr ⟨by omega,by rw[hu];simp[BW]⟩;have qN:P.cellsOf el≠0:=by obtain⟨i,_,_,_,_,h1,h2,_⟩:=K1 hz;omega
  split at he
  ·rename_i t g;split at he
   ·rename_i e' sz' g' c0 d' hl;split at he
    ·rename_i hh;obtain⟨rfl,rfl,rfl,rfl,Eu⟩:=hh;simp only[Ad]at he;subst he;have Fw:=CP hl h.gs;obtain⟨q1,q2,N,q3,q4,q5,q6⟩:=h.eh t _ Fw;generalize hv:a.eval x=v at r1;cases r1 with
     |own k1 k2 _=>
      have:=jN (nx:=nx) h ho Aw C3 DZ Bx hz Bb hy CF (hc _ (by simp)) (t:=t) (g:=g+1) (.inr (by omega)) (c0:=c0) (d':=d') (hc _ (by simp)) (λf hf=>by simp only[Bc,List.contains_eq_mem,decide_eq_false_iff_not]at Eu;exact Eu (List.mem_map.2 ⟨_,hf,rfl⟩)) (λhh=>by have:=q2 _ hh;omega) hv (by rw[<-k2];exact q3) rfl q4 q5 (λg' CE=>by have:=q2 _ CE;omega) (λu hu=> .inl (by rw[hu];exact h.rel.bz t g q1)) (ckl:=[.room c0 ye (P.bytesOf el),ck])
      exact this
    ·cases he
   ·cases he
  ·simp only[Ad]at he;subst he;generalize hv:a.eval x=v at r1;cases r1 with
   |emp _=>have:=jN (nx:=nx) h ho Aw C3 DZ Bx hz Bb hy CF (hc _ (by simp)) (t:=nx) (g:=0) (.inl W6) (c0:= .lst .nil) (d':=true) (top:=[]) (N0:=[]) (hc _ (by simp)) fresh (hK 0) hv ⟨[],rfl,by simp,by omega, .inl ⟨rfl,⟨_,rfl⟩,rfl,rfl⟩⟩ Gv.1 (by simp) (λ_=>⟨rfl,Gv.2⟩) (λg' CE=>absurd CE (hK g')) Qg (ckl:=[.room (.lst .nil) ye (P.bytesOf el),ck]);rw[Bool.and_true]at this;exact this
  ·simp only[Ad]at he;subst he;generalize hv:a.eval x=v at r1;cases r1 with
   |cm _=>have:=jN (nx:=nx) h ho Aw C3 DZ Bx hz Bb hy CF (hc _ (by simp)) (t:=nx) (g:=0) (.inl W6) (c0:= .lst .nil) (d':=true) (top:=[]) (N0:=[]) (hc _ (by simp)) fresh (hK 0) hv ⟨[],rfl,by simp,by omega, .inl ⟨rfl,⟨_,rfl⟩,rfl,rfl⟩⟩ Gv.1 (by simp) (λ_=>⟨rfl,Gv.2⟩) (λg' CE=>absurd CE (hK g')) Qg (ckl:=[.room (.lst .nil) ye (P.bytesOf el),ck]);rw[Bool.and_true]at this;exact this
  ·cases he
 ·cases he
end
section
variable {P:Program} {c:Cx} {n nx:Nat} {sl sl0:Nat->SV} {hp hp0:Nat->Option Af} {a:Act} {o:Oper} {gs:Gd} {e:Bh} {sg:BY} {nv:Nat}
theorem Vf:∀{ts us:List Nat} {l m:List (Nat × Af)},D3 hp0 gs ts=some l->D3 hp0 gs us=some m->D3 hp0 gs (ts++us)=some (l++m)
 | [],us,l,m,h,k=>by simp[D3]at h;subst h;simpa using k
 |t::ts,us,l,m,h,k=>by
  unfold D3 at h;simp only[List.cons_append];unfold D3;split at h
  ·rename_i ety sz g x d l' hl BS;have ih:=Vf BS k;split at h
   ·rename_i hg;simp at h;subst h;simp[hl,ih,hg]
   ·cases h
  ·rename_i ety sz dl g ep x l' hl BS;have ih:=Vf BS k;split at h
   ·rename_i hg;simp at h;subst h;simp[hl,ih,hg]
   ·cases h
  ·rename_i g x l' hl BS;have ih:=Vf BS k;simp at h;subst h;simp[hl,ih]
  ·rename_i ty g cs l' hl BS;have ih:=Vf BS k;simp at h;subst h;simp[hl,ih]
  ·cases h
theorem wP{ts us:List Nat}(hs:∀t∈ts,t∈us){b:Nat}(h:(c.ca ts).ok b):(c.ca us).ok b:=by refine⟨λhm=>h.1 ?_,h.2⟩;obtain⟨u,hu,hb⟩:=Cx.iw hm;exact⟨u,by simp only[Cx.ca];rw[if_neg (λhh=>hu (hs u hh))];exact hb⟩
theorem lN{w:World}{v:Value}{x:AV}{f:List Nat}{t:TypeId}(h:Rd w [v] [x] f)(hg:Am P t=true\/P.cellsOf t=1)(hx:if Am P t then∃cs,x= .agg cs/\cs.length=P.cellsOf t else(∀cs,x≠ .agg cs)/\ ∀cs,x≠ .tup cs):
  Rd w v.cells.toList x.cells f/\(∀u∈v.cells.toList,u.oneCell'=true)/\x.cells.length=P.cellsOf t/\v.cells.size=P.cellsOf t:=by
 split at hx
 ·obtain⟨cs,rfl,hl⟩:=hx;obtain⟨as_,rfl,h1,h2⟩:=KE h rfl;have:=h2.len;exact⟨by simpa[Value.cells,AV.cells]using h2,by simpa[Value.cells]using h1,hl,by simp[Value.cells];omega⟩
 ·rename_i hna;have h1:P.cellsOf t=1:=by rcases hg with h'|h';exact absurd h' hna;exact h'
  have Cp:=kG h hx.1 hx.2;have GU:x.cells=[x]:=by cases x<;>first|rfl|exact absurd rfl (hx.1 _)
  rw[one_cells Cp,GU];exact⟨by simpa using h,by simpa using Cp,by simp[h1],by simp[h1]⟩
theorem u9(h:Rel c n sl hp a)(hs:∀t e,hp0 t=some e->hp t=some e)(k:BA c.ρ gs){t:TypeId}(hg:Am P t=true\/P.cellsOf t=1):∀(ss:List SV) (vs:List Value) {xs:List E} {fz:List (Nat × Af)} {d:Bool} {ck:List Cn},SR c ss vs->Wk P hp0 gs t ss=some (xs,fz,d,ck)->(∀q∈ck,q.den c.ρ)->
  ∃N,Rd c.w (vs.flatMap λv=>v.cells.toList) (Ao (xs.map (E.den c.ρ))) N/\(d=true->N=[])/\(∃ts,D3 hp0 gs ts=some fz)/\(∀b∈N,(c.ca (fz.map (·.1))).ok b)/\(∀v∈vs,v.cells.size=P.cellsOf t/\ ∀u∈v.cells.toList,u.oneCell'=true)/\(∀x∈xs,(x.den c.ρ).cells.length=P.cellsOf t)/\xs.length=vs.length
 | [],vs,xs,fz,d,ck,hr,ht,hc=>by simp[Wk]at ht;obtain⟨rfl,rfl,rfl,rfl⟩:=ht;cases hr;exact⟨[],by simpa[Ao]using Rd.nil,λ_=>rfl,⟨[],rfl⟩,by simp,by simp,by simp,rfl⟩
 |s::ss,[],xs,fz,d,ck,hr,ht,hc=>by have:=hr.len;simp at this
 |s::ss,v::vs,xs,fz,d,ck,hr,ht,hc=>by
  obtain⟨r1,r2⟩:=hr.cr;unfold Wk at ht;split at ht
  ·rename_i x fz1 d1 ck1 xs2 fz2 d2 ck2 h1 h2;simp only[Ad,AY]at ht;obtain⟨rfl,rfl,rfl,rfl⟩:=ht;obtain⟨f,q1,q2,⟨ts1,q3,q4⟩,q5⟩:=wF h hs k r1 h1 (λq hq=>hc q (by simp[hq]));obtain⟨N,p1,p2,⟨ts2,p3⟩,p4,p5,p6,p7⟩:=u9 h hs k hg ss vs r2 h2 (λq hq=>hc q (by simp[hq]));obtain⟨o1,o2,o3,o4⟩:=lN (P:=P) q1 hg q5;refine⟨f++N,?_,λhd=> ?_,⟨_,Vf q3 p3⟩,λb hb=> ?_,?_,?_,by simp[p7]⟩
   ·simpa[Ao]using o1.app p1
   ·simp only[Ab]at hd;rw[q2 hd.1,p2 hd.2];rfl
   ·rcases Ac.1 hb with hb|hb
    ·exact wP (λt ht=>by simp only[List.map_append,Ac];exact .inl ht) (q4 b hb)
    ·exact wP (λt ht=>by simp only[List.map_append,Ac];exact .inr ht) (p4 b hb)
   ·intro u hu;rcases Ae.1 hu with rfl|hu
    ·exact⟨o4,o2⟩
    ·exact p5 u hu
   ·intro u hu;rcases Ae.1 hu with rfl|hu
    ·exact o3
    ·exact p6 u hu
  ·cases ht
theorem lG{sz:Nat}(place:Nat->Option (Nat × Nat))(Gw:∀i,place i=some (i*sz,sz)):∀(vs:List Value) (k:Nat) (C:Array Value) (pre suf:List Value),C.toList=pre++suf->pre.length=k*sz->suf.length=vs.length*sz->(∀v∈vs,v.cells.size=sz)->
  ∃C',Instr.fill place C ((vs.zipIdx k).map λp=>(p.2,p.1))=some C'/\C'.toList=pre++vs.flatMap λv=>v.cells.toList
 | [],k,C,pre,suf,h,_,h2,_=>by have:suf=[]:=List.eq_nil_of_length_eq_zero (by simpa using h2);subst this;exact⟨C,rfl,by simpa using h⟩
 |v::vs,k,C,pre,suf,h,h1,h2,h3=>by
  have hv:=h3 v (by simp);simp only[Bd,Nat.add_mul,Nat.one_mul]at h2;have hC:C.size=pre.length+suf.length:=by rw[<-BG,h,AH]
  have MK:(v.cells.zipIdx.foldl (λcs (p:Value × Nat)=>cs.setIfInBounds (k*sz+p.2) p.1) C).toList=setVs C.toList (k*sz) v.cells.toList:=by have:=zxq v.cells.toList 0 (k*sz) C (by simp;omega);rw[<-Array.foldl_toList,Array.toList_zipIdx];simpa using this
  have dY:setVs C.toList (k*sz) v.cells.toList=(pre++v.cells.toList)++suf.drop sz:=by unfold setVs;rw[h,<-h1,List.take_left' rfl];congr 1;rw[List.drop_append,List.drop_eq_nil_of_le (by omega)];simp[hv]
  obtain⟨C',g1,g2⟩:=lG place Gw vs (k+1) (v.cells.zipIdx.foldl (λcs (p:Value × Nat)=>cs.setIfInBounds (k*sz+p.2) p.1) C) (pre++v.cells.toList) (suf.drop sz) (by rw[MK,dY]) (by simp[h1,hv,Nat.add_mul]) (by simp;omega) (λu hu=>h3 u (by simp[hu]));refine⟨C',?_,by rw[g2];simp⟩;simp only[List.zipIdx_cons,List.map_cons];unfold Instr.fill;simp only[Gw];rw[if_neg (by simp[hv];omega)];exact g1
theorem AD.newRow(h:BE P c n nx sl hp a sl0 hp0 o gs){ts:List Nat}{fz:List (Nat × Af)}(HV:D3 hp0 gs ts=some fz){el:TypeId}{C:Array Value}{cap:Nat}{xs:List AV}{x:E}{d:Bool}{N:List Nat}{ckl:List Cn}{wd:World}(hwd:wd.heap=c.w.heap/\wd.os=c.w.os/\wd.tape=c.w.tape/\wd.output=c.w.output)
  (hr:(execOp a.eval o).run P c.w= .ok (.value (.slice (some ⟨c.w.heap.size,0,none⟩) xs.length cap)) (wd.alloc (.cells C el))) (hx:x.den c.ρ= .sl xs) (Bo:P.cellsOf el≠0) (Aw:∀y∈xs,y.cells.length=P.cellsOf el) (hle:xs.length<=cap) (Fl:cap<=maxLen) (hC:C.size=cap*P.cellsOf el)
  (h1:∀u∈C.toList.take (xs.length*P.cellsOf el),u.oneCell'=true) (hN:Rd c.w (C.toList.take (xs.length*P.cellsOf el)) (Ao xs) N) (Gg:∀b∈N,(c.ca (fz.map (·.1))).ok b) (hd:d=true->N=[]):
  AD P o c n nx sl hp gs a {cj:=ckl,val:= .own nx 0,bq:=fz++ [(nx,C5 gs (.row el (P.cellsOf el) 0 x d))]}:=by
 intro next Q hk
 unfold Oper.wp;rw[hr,Oper.upon_value];have hU:=ND h;have DJ:=h.rel.freeze h.hp h.gs HV;have hK:∀g,¬c.K nx g:=λg hg=>hU (h.rel.bz _ _ hg);have W6:c.A.pin nx=none:=by
  cases hh:c.A.pin nx with
  |none=>rfl
  |some v=>exact absurd (h.rel.base.pins nx v hh).1 hU
 have Gv:=h.rel.off nx (λe9 hr=>by
  cases hh:hp nx with
  |none=>rw[hh]at hr;exact hr.elim
  |some e8=>exact hU (h.rel.c6 nx e8 hh))
 obtain⟨w1,w2,w3,w4⟩:=hwd;have OC:c.w.grownBy (wd.alloc (.cells C el)) (some c.w.heap.size):=by
  refine⟨w2,w3,w4,?_,λk hk _=> ?_⟩
  ·show c.w.heap.size<=(wd.heap.push _).size;simp[w1]
  ·have:=Below.heap_alloc wd (.cells C el) k (by rw[w1];exact hk);rw[this,w1]
 have MU:(wd.alloc (.cells C el)).heap[c.w.heap.size]?=some (.cells C el (0,0)):=by have:=heap_alloc_new wd (.cells C el);rw[w1]at this;exact this
 have Ax:c.w.heap.size<(wd.alloc (.cells C el)).heap.size:=De MU;have hO:(c.ca (fz.map (·.1))).G nx=⟨[],[]⟩\/((c.ca (fz.map (·.1))).G nx).O=[]:=by
  right;simp only[Cx.ca];split
  ·rfl
  ·exact Gv.2
 have D9:=DJ.bf (gs:=gs) (t:=nx) (g:=0) (w':=wd.alloc (.cells C el)) (row:=some c.w.heap.size) (top:=[c.w.heap.size]) (O:=[]) (v:= .slice (some ⟨c.w.heap.size,0,none⟩) xs.length cap) (.inl W6) (hK 0) OC (λg0 Fm=>by cases Fm;exact .inr ⟨rfl,Ax⟩) (.inr ⟨_,rfl,rfl⟩) (.inl rfl)
  (.row el (P.cellsOf el) 0 x d) (by intros;simp) h.gs (λGO=>by
   refine⟨.inr ⟨rfl,rfl⟩,λg' CE=> ?_,N,?_,λb hb=>GO.ok b (hN.inb b hb) (Gg b hb),λFb=> ?_,λ_=>by simp[Cx.bf]⟩
   ·rcases CE with CE|⟨_,rfl⟩
    ·exact absurd CE (hK g')
    ·exact AN _
   ·have e1:((c.ca (fz.map (·.1))).bf nx 0 (wd.alloc (.cells C el)) (.slice (some ⟨c.w.heap.size,0,none⟩) xs.length cap) [c.w.heap.size] []).H nx 0= .slice (some ⟨c.w.heap.size,0,none⟩) xs.length cap:=by simp[Cx.bf]
    have e2:(((c.ca (fz.map (·.1))).bf nx 0 (wd.alloc (.cells C el)) (.slice (some ⟨c.w.heap.size,0,none⟩) xs.length cap) [c.w.heap.size] []).G nx).top=[c.w.heap.size]:=by simp[Cx.bf]
    rw[e1,e2];show Db (wd.alloc (.cells C el)) el (P.cellsOf el) _ (x.den c.ρ) _ N;rw[hx];exact⟨xs,rfl,Aw,by omega, .inr ⟨_,cap,C,rfl,hle,Fl,MU,hC,rfl,h1,hN.frame λb hb=>GO.mem b (hN.inb b hb) (Gg b hb)⟩⟩
   ·rw[hd Fb];exact⟨rfl,by simp[Cx.bf]⟩)
 have bH:SR ((c.ca (fz.map (·.1))).bf nx 0 (wd.alloc (.cells C el)) (.slice (some ⟨c.w.heap.size,0,none⟩) xs.length cap) [c.w.heap.size] []) [.own nx 0] [.slice (some ⟨c.w.heap.size,0,none⟩) xs.length cap]:=
  .own (.inr ⟨rfl,rfl⟩) (by simp[Cx.bf]) .nil
 refine hk _ ((c.ca (fz.map (·.1))).bf nx 0 (wd.alloc (.cells C el)) (.slice (some ⟨c.w.heap.size,0,none⟩) xs.length cap) [c.w.heap.size] []) ⟨rfl,rfl,rfl,rfl,λu hu=> ?_⟩ ?_
 ·rcases hu with hu|rfl
  ·exact .inl hu
  ·exact .inr ⟨AN _,by simp[BW]⟩
 ·have:=D9.put (bH.mkGd gs h.gs) o.dst;rw[PI];exact this
theorem uJ{t el:TypeId}(hu:P.underlying t=some (.slice el))(Bv:DD P el=true){i:TypeInfo}{z:Value}(hi:P.info? el=some i)(hz:i.zero=some z)(Cu:P.cellsOf el=i.size)(m:Nat)(hle:m*i.size<=2^24)(parts:Array (Nat × Value))(C:Array Value)
  (hf:Instr.fill (λj=>some (j*i.size,i.size)) ((Array.range (m*i.size)).map (λj=>(if m*i.size=0 then #[]else z.cells)[j % (if m*i.size=0 then #[]else z.cells).size]!)) parts.toList=some C) (w:World):
  (Instr.buildSlice t m parts).run P w= .ok (.slice (some ⟨w.heap.size,0,none⟩) m m) (w.alloc (.cells C el)):=by
 have cX: ¬(2^24<m*i.size):=by omega
 have Jd:Array.range 0= #[]:=rfl;by_cases h0:m*i.size=0
 ·simp only[h0,if_true,Jd]at hf;have TM:∀f:Nat->Value,Array.map f #[]= #[]:=λf=>by simp
  rw[TM]at hf;simp only[Instr.buildSlice,Sem.run_bind,run_underlying hu,Result.andThen_ok,Py Bv,Cu];simp[h0,Jd,hf,newRow]
 ·simp only[h0,if_false]at hf;simp only[Instr.buildSlice,Sem.run_bind,run_underlying hu,Result.andThen_ok,Py Bv,Cu];simp[h0,cX,zeroValue,typeInfo,hi,hz,hf,newRow]
theorem zpS(h:BE P c n nx sl hp a sl0 hp0 o gs){t:TypeId}{m:Nat}{parts:Array (Nat × Operand)}(ho:o.op= .buildSlice t m parts){ps:List (Nat × SV)}(KO:parts.toList.mapM (λ(p:Nat × Operand)=>(BM sl0 gs p.2).map λs=>(p.1,s))=some ps)(he:jK P hp0 gs nx t m ps=some e)(hc:∀q∈e.cj,Cn.den c.ρ q):AD P o c n nx sl hp gs a e:=by
 obtain⟨e1,e2⟩:=Zv (c:=c) (a:=a) (parts.toList.map (·.2)) (λx s hx hm=>h.c7 hx (by simpa[ho,Op.operands]using hm)) (λx hx=>List.mem_map.2 ⟨x,hx,rfl⟩) KO;unfold jK at he;split at he
 ·rename_i el Bx;have Bx:=Jk Bx;split at he
  ·cases he
  rename_i AA;simp only[not_or,Bc,Bool.not_eq_false',ne_eq,Bool.not_eq_false,Nat.not_lt,Decidable.not_not]at AA;obtain⟨hz,Bv,AK,hle,EO⟩:=AA;have AK:Am P el=true\/P.cellsOf el=1:=by simpa using AK
  obtain⟨i,z,hi,FP,CU,Bo,Cu,EB⟩:=K1 hz;split at he
  ·rename_i xs fz d ck M7;split at he
   ·simp only[Ad]at he;subst he;obtain⟨N,p1,p2,⟨ts,p3⟩,p4,p5,p6,p7⟩:=u9 h.rel h.hp h.gs AK (ps.map (·.2)) (parts.toList.map λp=>a.eval p.2) e2 M7 hc;have hlen:(parts.toList.map λp=>a.eval p.2).length=m:=by
     have:ps.length=m:=by have:=congrArg List.length EO;simpa using this
     have h9:=congrArg List.length e1;simp at h9 ⊢;omega
    have Hk:(parts.map λ(x:Nat × Operand)=>(x.1,a.eval x.2)).toList=((parts.toList.map λp=>a.eval p.2).zipIdx 0).map λp=>(p.2,p.1):=by
     have OF:parts.toList.map (·.1)=List.range m:=by rw[<-e1,EO]
     apply List.ext_getElem?;intro j;have hj:(parts.toList.map (·.1))[j]?=(List.range m)[j]?:=by rw[OF]
     simp only[Array.toList_map,List.getElem?_map,List.getElem?_zipIdx]at hj ⊢;cases hp:parts.toList[j]? with
     |none=>simp
     |some p=>
      rw[hp]at hj;simp only[Option.map_some,Ad]at hj ⊢;have cS:j<m:=by
       rcases Nat.lt_or_ge j m with hh|hh
       ·exact hh
       ·rw[List.getElem?_eq_none (by simpa using hh)]at hj;cases hj
      rw[List.getElem?_range cS]at hj;simp at hj;simp[hj]
    obtain⟨C',f1,f2⟩:=lG (sz:=i.size) (λj=>some (j*i.size,i.size)) (λj=>rfl) (parts.toList.map λp=>a.eval p.2) 0 ((Array.range (m*i.size)).map (λj=>(if m*i.size=0 then #[]else z.cells)[j % (if m*i.size=0 then #[]else z.cells).size]!)) [] _ (by simp;rfl) (by simp) (by simp[hlen]) (λv hv=>by rw[<-Cu];exact(p5 v hv).1);have DL:C'.toList.length=m*P.cellsOf el:=by
     rw[f2,Cu];simp only[List.nil_append];have:∀(L:List Value),(∀v∈L,v.cells.size=i.size)->(L.flatMap λv=>v.cells.toList).length=L.length*i.size:=by
      intro L
      induction L with
      |nil=>intro _;simp
      |cons v L ih=>intro hL;simp only[List.flatMap_cons,AH,Bd,BG];rw[ih (λu hu=>hL u (by simp[hu])),hL v (by simp),Nat.add_mul];omega
     rw[this _ (λv hv=>by rw[<-Cu];exact(p5 v hv).1),hlen]
    have IN:(xs.map (E.den c.ρ)).length=m:=by rw[List.length_map,p7,hlen]
    have B2:C'.toList.take ((xs.map (E.den c.ρ)).length*P.cellsOf el)=(parts.toList.map λp=>a.eval p.2).flatMap λv=>v.cells.toList:=by rw[IN,<-DL,List.take_length,f2];simp
    refine AD.newRow (xs:=xs.map (E.den c.ρ)) (N:=N) (C:=C') (cap:=m) (wd:=c.w) h p3 ⟨rfl,rfl,rfl,rfl⟩ ?_ (by simp[E.den,EL.dq]) (by omega) (λy hy=> ?_) (by omega) (by simp only[maxLen];have:m*1<=m*P.cellsOf el:=Nat.mul_le_mul_left _ (by omega);omega) (by rw[<-BG,DL]) ?_ (by rw[B2];exact p1) p4 p2
    ·rw[IN];have AR:=uJ (P:=P) Bx Bv hi FP Cu m (by rw[<-Cu];omega) (parts.map λ(x:Nat × Operand)=>(x.1,a.eval x.2)) C' (by rw[Hk];exact f1) c.w;simp only[execOp,ho,Sem.run_bind];rw[AR];rfl
    ·obtain⟨q,hq,rfl⟩:=List.mem_map.1 hy;exact p6 q hq
    ·rw[B2];intro u hu;obtain⟨v,hv,hu⟩:=List.mem_flatMap.1 hu;exact(p5 v hv).2 u hu
   ·cases he
  ·cases he
 ·cases he
end
end
end Go.Proofs.YtalagilebkaegaaGreat

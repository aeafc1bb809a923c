/- Parts of a proof, joined: WA, VJa, VK, VL, VM, VN, VO, VP, VQ, VR, VS, VT, VU, VV, VW. -/
import Derived.Test.YtkpifpljpoochaaGreatDoorK2
import Derived.WalkSpells
import Derived.Laws.BytesArg
set_option linter.unusedVariables false
set_option linter.unusedSimpArgs false
namespace Go.Proofs.YtkpifpljpoochaaGreatDoor
open Go.RowKit
section
theorem Cc.{u}{α:Type u}{a:Array α}:a.toList.length=a.size:=Array.length_toList
theorem AO.{u,v}{α:Type u}{β:Type v}(a:α)(b:β)(c:α)(d:β):((a,b)=(c,d))=(a=c/\b=d):=Prod.mk.injEq a b c d
theorem H3:∀{l:List (Nat × Ah)} {t:Nat} {e:Ah},AD l t=some e->(t,e)∈l
 | [],_,_,h=>by simp[AD]at h
 |(u,f)::l,t,e,h=>by
  simp only[AD]at h;split at h
  ·rename_i hu;subst hu;simp at h;subst h;simp
  ·exact List.mem_cons_of_mem _ (H3 h)
theorem Lx{α:Type}:∀{l:List (Nat × α)} {t:Nat} {e:α},l.lookup t=some e->(t,e)∈l
 | [],_,_,h=>by simp at h
 |(u,f)::l,t,e,h=>by
  simp only[List.lookup_cons]at h;split at h
  ·rename_i hu;simp at h hu;subst h;subst hu;simp
  ·exact List.mem_cons_of_mem _ (Lx h)
theorem UT:∀{θ:List (Nat × Option Nat)},LN θ=true-> ∀{t u v:Nat},(t,some v)∈θ->(u,some v)∈θ->t=u
 | [],_,t,u,v,h,_=>by simp at h
 |(p,q)::θ,hn,t,u,v,h1,h2=>by
  have qS:LN θ=true:=by cases q<;>(simp only[LN,Ae]at hn;exact hn.2)
  have key:∀x,(p,some v)=(p,q)->(x,some v)∈θ->False:=by intro x hq hx;cases hq;simp only[LN,Ae,A0]at hn;have:=hn.1 _ hx;simp at this
  rcases Ad.1 h1 with h3|h3<;>rcases Ad.1 h2 with h4|h4
  ·cases h3;cases h4;rfl
  ·cases h3;exact(key u rfl h4).elim
  ·cases h4;exact(key t rfl h3).elim
  ·exact UT qS h3 h4
def BU(hp:List (Nat × Ah))(t:Nat):Option Nat:=match AD hp t with
 |some (.box ..)=>some 0
 |some (.row _ _ g _ _)=>some g
 |some (.bh g _)=>some g
 |some (.deep _ _ _ g _ _)=>some g
 |_=>none
def GC(hp:List (Nat × Ah))(t:Nat):Bool:=match AD hp t with
 |some (.box ..)=>true
 |some (.row ..)=>true
 |some (.deep ..)=>true
 |_=>false
def KV(pat leaf:Option Ah)(g:GI):GI:=match pat,leaf with
 |some (.row ..),some (.deep ..)=>⟨g.top.take 1,[]⟩
 |_,_=>g
theorem zwt{p l:Option Ah}{g:GI}{b:Nat}(h:b∈(KV p l g).top):b∈g.top:=by
 unfold KV at h;split at h
 ·exact BM h
 ·exact h
theorem zvN{p l:Option Ah}{g:GI}{b:Nat}(h:b∈(KV p l g).own):b∈g.own:=by
 unfold KV at h;split at h
 ·simp only[GI.own,AJ]at h;simp[GI.own,BM h]
 ·exact h
theorem ztq{p l:Option Ah}{g:GI}(h:g.own.Nodup):(KV p l g).own.Nodup:=by
 unfold KV;split
 ·simp only[GI.own,AJ]at h ⊢;exact List.Sublist.nodup (List.Sublist.trans (List.take_sublist _ _) (List.sublist_append_left _ _)) h
 ·exact h
def CZ(c:Cx)(ρ:List AV)(θ:List (Nat × Option Nat))(pat leaf:St):Cx:=
 {c with
  ρ:=ρ
  G:=λt=>if GC pat.hp t then(match θ.lookup t with|some (some t')=>KV (AD pat.hp t) (AD leaf.hp t') (c.G t')|_=>⟨[],[]⟩)else⟨[],[]⟩
  K:=λt g=>BU pat.hp t=some g
  H:=λt _=>match θ.lookup t with|some (some t')=>c.H t' ((BU leaf.hp t').getD 0)|_=> .slice none 0 0
  U:=λt=>t<pat.nx
  E:=λt=>match AD pat.hp t with|some (.deep _ _ _ _ ep _)=>ep|_=>0}
section
variable {c:Cx} {ρ:List AV} {nv n:Nat} {es:List E} {θ:List (Nat × Option Nat)} {pat leaf:St} {sl:Nat->SV} {a:Act}
theorem LP{t b:Nat}(h:b∈((CZ c ρ θ pat leaf).G t).own):GC pat.hp t=true/\ ∃t',θ.lookup t=some (some t')/\(b∈((CZ c ρ θ pat leaf).G t).top->b∈(c.G t').top)/\b∈(c.G t').own:=by
 simp only[CZ]at h ⊢;split at h
 ·rename_i ho;split at h
  ·rename_i t' ht;exact⟨ho,t',ht,λhb=>by rw[if_pos ho]at hb;exact zwt hb,zvN h⟩
  ·simp[GI.own]at h
 ·simp[GI.own]at h
theorem Pp{b:Nat}(h:c.ok b):(CZ c ρ θ pat leaf).ok b:=by refine⟨λ⟨t,ht⟩=> ?_,h.2⟩;obtain⟨_,t',_,hg,_⟩:=LP (b:=b) (by simp only[GI.own,Ag];exact .inl ht);exact h.1 ⟨t',hg ht⟩
theorem KA(hp:ρ<+:c.ρ)(hn:ρ.length=nv){x y:E}(h:IS nv es x y=true):x.den (ρ++(EL.of es).den c.ρ)=y.den c.ρ:=by
 obtain⟨τ,hτ⟩:=hp;have J5:x.sc nv=true->x.beq y=true->x.den (ρ++(EL.of es).den c.ρ)=y.den c.ρ:=by intro h1 h2;rw[<-E.aj c.ρ x y h2];subst hn;generalize hq:(EL.of es).den c.ρ=q;rw[E.ao ρ q τ x h1,hτ]
 unfold IS at h;split at h
 ·rename_i i;split at h
  ·rename_i hi;exact J5 (by simpa[E.sc]using hi) h
  ·rename_i hi;split at h
   ·rename_i z hz;rw[<-E.aj c.ρ z y h];simp only[E.den,EL.c8];rw[List.getElem?_append_right (by omega),hn,List.getElem?_map,hz];rfl
   ·cases h
 ·simp only[Ae]at h;exact J5 h.1 h.2
theorem zv2(hrel:Rel c n sl (AD leaf.hp) a){s:SV}{v:Value}{y:E}(hs:SR c [s] [v])(h:Ie leaf s=some y):∃f,Rd c.w [v] [y.den c.ρ] f/\ ∀b∈f,c.dq (BN (AD leaf.hp) [] (AW+1) [s]) b:=
 Hd (λt e hr=>hrel.ents t e hr) (Et _) AW h hs AW (Ay _)
mutual
theorem nH(hrel:Rel c n sl (AD leaf.hp) a)(hp:ρ<+:c.ρ)(hn:ρ.length=nv)(Cf:∀t e,(t,e)∈pat.hp->Hi nv es θ pat leaf t e=true):∀(m:Nat) {p s:SV} {v:Value},Q3 nv es θ pat leaf m p s=true->SR c [s] [v]->SR (CZ c (ρ++(EL.of es).den c.ρ) θ pat leaf) [p] [v]
 |0,p,s,v,h,_=>by simp[Q3]at h
 |m+1,p,s,v,h,hs=>by
  unfold Q3 at h;split at h
  ·exact .undef .nil
  ·rename_i x;split at h
   ·rename_i y hy;simp only[Ae,A0,Bool.or_eq_true]at h;obtain⟨f,hf,HB⟩:=zv2 hrel hs hy;have hx:=KA (c:=c) hp hn h.1;refine .e (by rw[show(CZ c (ρ++(EL.of es).den c.ρ) θ pat leaf).ρ=ρ++(EL.of es).den c.ρ from rfl,hx];exact hf) (λb hb=> ?_) .nil;rcases HB b hb with hb|⟨t',Lj,hb⟩
    ·exact Pp hb
    ·refine⟨λ⟨u,hu⟩=> ?_, .inr (hrel.gw.allow t' b (by simp[GI.own,hb]))⟩;obtain⟨ho,v',hl,hg,Qd⟩:=LP (b:=b) (by simp only[GI.own,Ag];exact .inl hu);have hv:v'=t':=by
      refine Classical.byContradiction λBI=>hrel.gw.cc v' t' BI b Qd (by simp[GI.own,hb])
     subst hv;have:=h.2 _ Lj _ (Lx hl);simp only[bne_self_eq_false,BX,false_or]at this;unfold GC at ho;split at this
     ·rename_i hh;rw[hh]at ho;simp at ho
     ·rename_i hh;rw[hh]at ho;simp at ho
     ·cases this
   ·cases h
  ·split at h
   ·cases hs with
    |bq _=>exact .bq .nil
   ·cases h
  ·split at h
   ·cases hs with
    |emp _=>exact .emp .nil
   ·cases hs with
    |bq _=>exact .emp .nil
   ·cases h
  ·rename_i t g;have key:∀t' v',BU pat.hp t=some g->θ.lookup t=some (some t')->Jy leaf.hp t' v'=true->SR c [.own t' v'] [v]->SR (CZ c (ρ++(EL.of es).den c.ρ) θ pat leaf) [.own t g] [v]:=by
    intro t' v' hg hl hv hs;cases hs with
    |own h1 h2 _=>
     refine .own hg ?_ .nil;show(match θ.lookup t with|some (some t')=>c.H t' ((BU leaf.hp t').getD 0)|_=>Value.slice none 0 0)=_;rw[hl];have:(BU leaf.hp t').getD 0=v':=by
      unfold Jy at hv;unfold BU;split at hv
      ·rename_i hh;rw[hh];simpa using(Ax.1 hv).symm
      ·rename_i hh;rw[hh];simpa using(Ax.1 hv).symm
      ·rename_i hh;rw[hh];simpa using(Ax.1 hv).symm
      ·cases hv
     show c.H t' ((BU leaf.hp t').getD 0)=_;rw[this];exact h2
   split at h
   ·rename_i g' _ _ Dx;simp only[Ae,Ax]at h;obtain⟨rfl,h⟩:=h;split at h
    ·simp only[Ae,Ax]at h;exact key _ _ (by simp[BU,Dx]) h.1 h.2 hs
    ·rw[Ax]at h;cases hs with
     |bq _=>refine .own (p:=none) (q:=0) (r:=0) (by show BU pat.hp t=some g;simp[BU,Dx]) ?_ .nil;show(match θ.lookup t with|some (some t')=>c.H t' ((BU leaf.hp t').getD 0)|_=>Value.slice none 0 0)=_;rw[h]
    ·cases h
   ·rename_i g' _ Dx;simp only[Ae,Ax]at h;obtain⟨rfl,h⟩:=h;split at h
    ·simp only[Ae,Ax]at h;exact key _ _ (by simp[BU,Dx]) h.1 h.2 hs
    ·cases h
   ·rename_i g' _ _ Dx;simp only[Ae,Ax]at h;obtain⟨rfl,h⟩:=h;split at h
    ·simp only[Ae,Ax]at h;exact key _ _ (by simp[BU,Dx]) h.1 h.2 hs
    ·rw[Ax]at h;cases hs with
     |bq _=>refine .own (p:=none) (q:=0) (r:=0) (by show BU pat.hp t=some g;simp[BU,Dx]) ?_ .nil;show(match θ.lookup t with|some (some t')=>c.H t' ((BU leaf.hp t').getD 0)|_=>Value.slice none 0 0)=_;rw[h]
    ·cases h
   ·cases h
  ·rename_i t o;split at h
   ·rename_i ty g cs Dx;split at h
    ·rename_i t' o';simp only[Ae,Ax]at h;obtain⟨rfl,hl⟩:=h;have Hp:=Cf t _ (H3 Dx);simp only[Hi,hl]at Hp;split at Hp
     ·rename_i CV;cases hs with
      |ca h1 h2 _=>
       refine .ca (by show BU pat.hp t=some 0;simp[BU,Dx]) ?_ .nil;show(match θ.lookup t with|some (some t')=>c.H t' ((BU leaf.hp t').getD 0)|_=>Value.slice none 0 0)=_;rw[hl];have:(BU leaf.hp t').getD 0=0:=by simp[BU,CV]
       simp only[this];exact h2
     ·cases Hp
    ·cases h
   ·cases h
  ·cases h
  ·rename_i x i z o;split at h
   ·rename_i y j z' o';simp only[Ae,Ax]at h;obtain⟨⟨⟨⟨⟨rfl,rfl⟩,h1⟩,h2⟩,h3⟩,h4⟩:=h;have hx:x.den (ρ++(EL.of es).den c.ρ)=y.den c.ρ:=by
     obtain⟨τ,hτ⟩:=hp;rw[<-E.aj c.ρ x y h2];subst hn;generalize (EL.of es).den c.ρ=q;rw[E.ao ρ q τ x h1,hτ]
    have hi:i.den (ρ++(EL.of es).den c.ρ)=j.den c.ρ:=by obtain⟨τ,hτ⟩:=hp;rw[<-E.aj c.ρ i j h4];subst hn;generalize (EL.of es).den c.ρ=q;rw[E.ao ρ q τ i h3,hτ]
    cases hs with
    |cz g1 g2 g3 g4 g5 g6 _=>refine .cz (f:=_) (by show Rd c.w _ [x.den (ρ++(EL.of es).den c.ρ)] _;rw[hx];exact g1) (λb hb=>Pp (g2 b hb)) (by show i.den (ρ++(EL.of es).den c.ρ)=_;rw[hi];exact g3) g4 g5 (by show((x.den (ρ++(EL.of es).den c.ρ)).nth _).cells.length=_;rw[hx];exact g6) .nil
   ·cases h
  ·rename_i x o;split at h
   ·rename_i y o';simp only[Ae,Ax]at h;obtain⟨⟨rfl,h1⟩,h2⟩:=h;have hx:x.den (ρ++(EL.of es).den c.ρ)=y.den c.ρ:=by
     obtain⟨τ,hτ⟩:=hp;rw[<-E.aj c.ρ x y h2];subst hn;generalize (EL.of es).den c.ρ=q;rw[E.ao ρ q τ x h1,hτ]
    cases hs with
    |c7 g1 g2 _=>exact .c7 (by show Rd c.w _ [x.den (ρ++(EL.of es).den c.ρ)] _;rw[hx];exact g1) (λb hb=>Pp (g2 b hb)) .nil
   ·cases h
  ·split at h
   ·cases hs with
    |agg h9 h1 _=>exact .agg h9 (Sd hrel hp hn Cf m h h1) .nil
   ·cases h
  ·split at h
   ·cases hs with
    |tup h1 _=>exact .tup (Sd hrel hp hn Cf m h h1) .nil
   ·cases h
  ·split at h
   ·simp only[Ae,Ax]at h;obtain⟨rfl,h⟩:=h;cases hs with
    |fn h1 _=>exact .fn (Sd hrel hp hn Cf m h h1) .nil
   ·cases h
  ·cases h
  ·cases h
  ·cases h
  ·cases h
  ·rename_i i;split at h
   ·rename_i j;simp only[Ae,Ax,AN]at h;obtain⟨rfl,hi⟩:=h;cases hs with
    |lent g1 _=>
     have hx:(E.var i).den (ρ++(EL.of es).den c.ρ)=(E.var i).den c.ρ:=by obtain⟨τ,hτ⟩:=hp;subst hn;generalize (EL.of es).den c.ρ=q;rw[E.ao ρ q τ (.var i) (by simpa[E.sc]using hi),hτ]
     exact .lent (show c.A.lo v ((E.var i).den (ρ++(EL.of es).den c.ρ)) by rw[hx];exact g1) .nil
   ·cases h
theorem Sd(hrel:Rel c n sl (AD leaf.hp) a)(hp:ρ<+:c.ρ)(hn:ρ.length=nv)(Cf:∀t e,(t,e)∈pat.hp->Hi nv es θ pat leaf t e=true):∀(m:Nat) {ps ss:List SV} {vs:List Value},GJ nv es θ pat leaf m ps ss=true->SR c ss vs->SR (CZ c (ρ++(EL.of es).den c.ρ) θ pat leaf) ps vs
 |0,ps,ss,vs,h,_=>by simp[GJ]at h
 |m+1,[],[],vs,h,hs=>by cases hs;exact .nil
 |m+1,p::ps,[],vs,h,hs=>by simp[GJ]at h
 |m+1,[],s::ss,vs,h,hs=>by simp[GJ]at h
 |m+1,p::ps,s::ss,[],h,hs=>by have:=hs.len;simp at this
 |m+1,p::ps,s::ss,v::vs,h,hs=>by simp only[GJ,Ae]at h;obtain⟨h1,h2⟩:=hs.bu;exact(nH hrel hp hn Cf m h.1 h1).cons (Sd hrel hp hn Cf m h.2 h2)
end
theorem zJ(hrel:Rel c n sl (AD leaf.hp) a)(hp:ρ<+:c.ρ)(hn:ρ.length=nv)(Cf:∀t e,(t,e)∈pat.hp->Hi nv es θ pat leaf t e=true)(hθ:LN θ=true){t:Nat}{e:Ah}(ht:AD pat.hp t=some e):C3 (CZ c (ρ++(EL.of es).den c.ρ) θ pat leaf) t e:=by
 have h:=Cf t e (H3 ht);have cI:GC pat.hp t=false->(CZ c (ρ++(EL.of es).den c.ρ) θ pat leaf).G t=⟨[],[]⟩:=by intro h0;simp only[CZ];rw[if_neg (by rw[h0];simp)]
 have cJ:∀t',GC pat.hp t=true->θ.lookup t=some (some t')->(CZ c (ρ++(EL.of es).den c.ρ) θ pat leaf).G t=KV (AD pat.hp t) (AD leaf.hp t') (c.G t'):=by intro t' h0 hl;simp only[CZ];rw[if_pos h0,hl]
 have P5:∀t',GC pat.hp t=true->θ.lookup t=some (some t')->(∀q1 q2 q3 q4 q5 q6,AD leaf.hp t'=some (.deep q1 q2 q3 q4 q5 q6)-> ∀p1 p2 p3 p4 p5,e≠ .row p1 p2 p3 p4 p5)->(CZ c (ρ++(EL.of es).den c.ρ) θ pat leaf).G t=c.G t':=by
  intro t' h0 hl DL;rw[cJ t' h0 hl,ht];unfold KV;split
  ·rename_i h1 h2;simp only[Af]at h1;exact absurd h1 (DL _ _ _ _ _ _ h2 _ _ _ _ _)
  ·rfl
 have JS:∀t' g,θ.lookup t=some (some t')->BU leaf.hp t'=some g-> ∀g',(CZ c (ρ++(EL.of es).den c.ρ) θ pat leaf).H t g'=c.H t' g:=by intro t' g hl hg g';simp only[CZ,hl,hg,BC]
 have Ee:∀g,BU pat.hp t=some g-> ∀g',(CZ c (ρ++(EL.of es).den c.ρ) θ pat leaf).K t g'->g'<=g:=by intro g hg g' hk;have BH:BU pat.hp t=some g':=hk;rw[hg]at BH;cases BH;exact Ay _
 cases e with
 |box ty g cs=>
  simp only[Hi]at h;split at h
  ·rename_i t' hl;split at h
   ·rename_i ty' g' ds CV;simp only[Ae,Ax]at h;obtain⟨⟨rfl,rfl⟩,h⟩:=h;obtain⟨b,C,h1,h2,h3,h4,h5,h6,h7⟩:=hrel.ents t' _ (by rw[CV];rfl);have hg:=P5 t' (by simp[GC,ht]) hl (by intros;simp);exact⟨b,C,by show BU pat.hp t=some 0;simp[BU,ht],by rw[JS t' 0 hl (by simp[BU,CV])];exact h2,by rw[hg];exact h3,by rw[hg];exact h4,h5,h6,Sd hrel hp hn Cf _ h h7⟩
   ·cases h
  ·cases h
 |row et z g x d=>
  simp only[Hi]at h;split at h
  ·rename_i t' hl;split at h
   ·rename_i et' z' g' y d' CV;simp only[Ae,Ax,Bool.or_eq_true,Bt]at h;obtain⟨⟨⟨rfl,rfl⟩,hx⟩,hd⟩:=h;obtain⟨h1,h2,N,h3,h4,h5,h6⟩:=hrel.ents t' _ (by rw[CV];rfl);have hg:=P5 t' (by simp[GC,ht]) hl (λ_ _ _ _ _ _ hh=>by rw[CV]at hh;cases hh);have CT:=KA hp hn hx;have hK:BU pat.hp t=some g:=by simp[BU,ht]
    refine⟨hK,Ee g hK,N,?_,λb hb=>Pp (h4 b hb),λDk=> ?_,λhdf=> ?_⟩
    ·rw[JS t' g' hl (by simp[BU,CV]),hg];show CQ c.w et z _ (x.den (ρ++(EL.of es).den c.ρ)) _ N;rw[CT];exact h3
    ·rw[hg];exact h5 (by rcases hd with hd|hd;rw[Dk]at hd;cases hd;exact hd)
    ·rw[hg];cases d' with
     |false=>exact h6 rfl
     |true=>obtain⟨u1,u2⟩:=h5 rfl;rw[u2];exact u1
   ·rename_i et' z' l' g' ep' y CV;simp only[Ae,Ax,Bt]at h;obtain⟨⟨⟨rfl,rfl⟩,hx⟩,rfl⟩:=h;obtain⟨h1,h2,_,h3,h4⟩:=hrel.ents t' _ (by rw[CV];rfl);have hg:(CZ c (ρ++(EL.of es).den c.ρ) θ pat leaf).G t=⟨(c.G t').top.take 1,[]⟩:=by
     rw[cJ t' (by simp[GC,ht]) hl,ht,CV];rfl
    have CT:=KA hp hn hx;have hK:BU pat.hp t=some g:=by simp[BU,ht]
    obtain⟨f,k1,k2⟩:=h3.ownRow;have B8:((c.G t').top.take 1++(c.G t').top.drop 1).Nodup:=by rw[BV];have:=hrel.gw.nodup t';simp only[GI.own,h4,AJ]at this;exact this
    refine⟨hK,Ee g hK,f,?_,λb hb=> ?_,λDk=>(by cases Dk),λ_=>by rw[hg]⟩
    ·rw[JS t' g' hl (by simp[BU,CV]),hg];show CQ c.w et z _ (x.den (ρ++(EL.of es).den c.ρ)) _ f;rw[CT];exact k1
    ·have Cz:b∈(c.G t').top:=Cd (k2 b hb);refine⟨λ⟨u,hu⟩=> ?_, .inr (hrel.gw.allow t' b (by simp[GI.own,Cz]))⟩;obtain⟨_,v',Bw,_,Qd⟩:=LP (b:=b) (by simp only[GI.own,Ag];exact .inl hu);have hv:v'=t':=Classical.byContradiction λBI=>hrel.gw.cc v' t' BI b Qd (by simp[GI.own,Cz]);subst hv;have:=UT hθ (Lx Bw) (Lx hl);subst this;rw[hg]at hu;exact(List.nodup_append.1 B8).2.2 b hu b (k2 b hb) rfl
   ·cases h
  ·rename_i hl;simp only[Ae,AN]at h;have CT:=KA hp hn h.1;have hK:BU pat.hp t=some g:=by simp[BU,ht]
   have hg:(CZ c (ρ++(EL.of es).den c.ρ) θ pat leaf).G t=⟨[],[]⟩:=by simp[CZ,hl]
   refine⟨hK,Ee g hK,[],⟨[],?_,by simp,h.2, .inl ⟨rfl,⟨none,?_⟩,by rw[hg],rfl⟩⟩,by simp,λ_=>⟨rfl,by rw[hg]⟩,λ_=>by rw[hg]⟩
   ·show x.den (ρ++(EL.of es).den c.ρ)=_;rw[CT];rfl
   ·simp[CZ,hl]
  ·cases h
 |bh g x=>
  have hg:=cI (by simp[GC,ht]);have hK:BU pat.hp t=some g:=by simp[BU,ht]
  simp only[Hi]at h;split at h
  ·rename_i t' hl;have HB:∀b,b∈(c.G t').top->(CZ c (ρ++(EL.of es).den c.ρ) θ pat leaf).ok b:=by
    intro b hb;refine⟨λ⟨u,hu⟩=> ?_, .inr (hrel.gw.allow t' b (by simp[GI.own,hb]))⟩;obtain⟨ho,v',Bw,Cg,Qd⟩:=LP (b:=b) (by simp only[GI.own,Ag];exact .inl hu);have hv:v'=t':=Classical.byContradiction λBI=>hrel.gw.cc v' t' BI b Qd (by simp[GI.own,hb]);subst hv;have:=UT hθ (Lx Bw) (Lx hl);subst this;simp[GC,ht]at ho
   split at h
   ·rename_i et' z' g' y d' CV;obtain⟨h1,h2,N,h3,h4,h5,h6⟩:=hrel.ents t' _ (by rw[CV];rfl);obtain⟨f,r1,r2,_⟩:=h3.rd;refine⟨hK,⟨f,?_,λb hb=>(r2 b hb).elim (HB b) λhb=>Pp (h4 b hb)⟩,by rw[hg],by rw[hg]⟩;rw[JS t' g' hl (by simp[BU,CV])];show Rd c.w _ [x.den (ρ++(EL.of es).den c.ρ)] f;rw[KA hp hn h];exact r1
   ·rename_i g' y CV;obtain⟨h1,⟨f,r1,r2⟩,_,_⟩:=hrel.ents t' _ (by rw[CV];rfl);refine⟨hK,⟨f,?_,λb hb=>Pp (r2 b hb)⟩,by rw[hg],by rw[hg]⟩;rw[JS t' g' hl (by simp[BU,CV])];show Rd c.w _ [x.den (ρ++(EL.of es).den c.ρ)] f;rw[KA hp hn h];exact r1
   ·rename_i et' z' l' g' ep' y CV;obtain⟨h1,h2,_,h3,h4⟩:=hrel.ents t' _ (by rw[CV];rfl);obtain⟨f,r1,r2⟩:=h3.rd;refine⟨hK,⟨f,?_,λb hb=>HB b (r2 b hb)⟩,by rw[hg],by rw[hg]⟩;rw[JS t' g' hl (by simp[BU,CV])];show Rd c.w _ [x.den (ρ++(EL.of es).den c.ρ)] f;rw[KA hp hn h];exact r1
   ·cases h
  ·cases h
 |hol=>simp[Hi]at h
 |pre=>simp[Hi]at h
 |deep et z dl g ep x=>
  have hE:(CZ c (ρ++(EL.of es).den c.ρ) θ pat leaf).E t=ep:=by simp[CZ,ht]
  have hK:BU pat.hp t=some g:=by simp[BU,ht]
  simp only[Hi]at h;split at h
  ·rename_i t' hl;split at h
   ·rename_i et' z' dl' g' ep' y CV;simp only[Ae,Ax]at h;obtain⟨⟨⟨rfl,rfl⟩,Mo⟩,hx⟩:=h;have Mo:=AG.ej Mo;subst Mo;obtain⟨h1,h2,_,h3,h4⟩:=hrel.ents t' _ (by rw[CV];rfl);have hg:=P5 t' (by simp[GC,ht]) hl (by intros;simp);refine⟨hK,Ee g hK,hE,?_,by rw[hg];exact h4⟩;rw[JS t' g' hl (by simp[BU,CV]),hg];show DC c.w _ _ [x.den (ρ++(EL.of es).den c.ρ)] _;rw[KA hp hn hx];exact h3
   ·cases h
  ·rename_i hl;have hg:(CZ c (ρ++(EL.of es).den c.ρ) θ pat leaf).G t=⟨[],[]⟩:=by simp[CZ,hl]
   simp only[Ae,AN,Ax]at h;refine⟨hK,Ee g hK,hE,?_,by rw[hg]⟩;have e1:(CZ c (ρ++(EL.of es).den c.ρ) θ pat leaf).H t g= .slice none 0 0:=by simp[CZ,hl]
   rw[e1,hg];show DC c.w _ _ [x.den (ρ++(EL.of es).den c.ρ)] _;rw[KA hp hn h.1.1];exact .void h.1.2 (by rw[AG.ak];exact h.2) .nil
  ·cases h
 |gd gs e=>simp[Hi]at h
 |dead=>have hg:=cI (by simp[GC,ht]);exact⟨by rw[hg],by rw[hg]⟩
end
theorem kA{nv:Nat}{es:List E}{θ:List (Nat × Option Nat)}{pat leaf:St}:∀(m:Nat) {ps ss:List SV},GJ nv es θ pat leaf m ps ss=true-> ∀{i:Nat} {p:SV},ps[i]?=some p-> ∃s k,ss[i]?=some s/\Q3 nv es θ pat leaf k p s=true
 |0,ps,ss,h,_,_,_=>by simp[GJ]at h
 |m+1,[],ss,h,i,p,hp=>by simp at hp
 |m+1,q::ps,[],h,i,p,hp=>by simp[GJ]at h
 |m+1,q::ps,s::ss,h,i,p,hp=>by
  simp only[GJ,Ae]at h;cases i with
  |zero=>simp at hp;subst hp;exact⟨s,m,rfl,h.1⟩
  |succ i=>simpa using kA m h.2 (by simpa using hp)
theorem zvY:VC:=by
 intro F nv pat τ es ρ ρ' a w hi hn hp hr;obtain⟨c,rfl,rfl,Ln,hA,V6,FR,hU,hrel⟩:=hr;unfold JN at hi;simp only at hi;split at hi
 ·rename_i AR;simp only[Af]at hi;generalize Wx:(List.range (pat.nv-nv)).map (λj=>((Nr nv pat τ true pat.hp (Nr nv pat τ false pat.hp (LZ nv pat τ 2000 ⟨[],[]⟩ pat.sl τ.sl))).as_.lookup (nv+j)).getD (.int .i64 0))=es0 at AR hi;subst hi;generalize (Nr nv pat τ true pat.hp (Nr nv pat τ false pat.hp (LZ nv pat τ 2000 ⟨[],[]⟩ pat.sl τ.sl))).θ=θ at AR;clear Wx;simp only[oE,Ae,Ax,A0,AN]at AR;obtain⟨⟨⟨⟨⟨⟨h1,hθ⟩,hlen⟩,CS⟩,Dj⟩,qW⟩,QN⟩:=AR;have Cf:∀t e,(t,e)∈pat.hp->Hi nv es0 θ pat τ t e=true:=λt e he=>(Dj _ he).1;have AI:∀t e,(t,e)∈pat.hp->t<pat.nx:=λt e he=>(Dj _ he).2;have QI:∀t e,AD pat.hp t=some e-> ∀gs e',e≠ .gd gs e':=by
   rintro t e he gs e' rfl;have:=Cf t _ (H3 he);simp[Hi]at this
  have AQ:∀t e e',AD pat.hp t=some e->(Cp (ρ++(EL.of es0).den c.ρ) (AD pat.hp t) e'↔e'=e):=by
   intro t e e' he;rw[he];cases e with
   |gd gs e9=>exact absurd rfl (QI t _ he gs e9)
   |_=>simp[Cp,eq_comm]
  refine⟨CZ c (ρ++(EL.of es0).den c.ρ) θ pat τ,rfl,rfl,Ln,hA,V6,?_,λt ht=>ht,hrel.defers,by rw[hlen];exact hrel.size,⟨hrel.base.os,hrel.base.tape,hrel.base.output,hrel.base.size,λt v Jm=> ?_,hrel.base.block,hrel.base.pk,hrel.base.lo⟩,λi=> ?_,λt e hr=> ?_,λt DL=> ?_,⟨λt=> ?_,λt u Ll b hb BF=> ?_,λt b hb=> ?_,λt b hb=> ?_⟩,λt g hk=> ?_,λt e he=>AI t e (H3 he)⟩
  ·rw[h1,EL.c8];simp[hn]
  ·have Mx:LU t=true:=F.lr t v (by rw[<-hA];exact Jm);refine⟨by
    show t<pat.nx;unfold LU at Mx;simp only[Ae,AN]at Mx;omega,λhk=> ?_⟩
   have BH:BU pat.hp t=some 0:=hk;obtain⟨e,Xg⟩:∃e,AD pat.hp t=some e:=by
    unfold BU at BH;cases hh:AD pat.hp t with
    |none=>rw[hh]at BH;cases BH
    |some e=>exact⟨e,rfl⟩
   have Ez:=QN _ (H3 Xg);simp only[Mx,Bool.not_true,Bool.false_or]at Ez;have main:θ.lookup t=some (some t)->BU τ.hp t=some 0->c.K t 0->(CZ c (ρ++(EL.of es0).den c.ρ) θ pat τ).H t 0=v:=by intro hl hg hK;simp only[CZ,hl,hg,BC];exact(hrel.base.pins t v Jm).2 hK
   unfold Lp at Ez;simp only[BU,Xg]at BH;rw[Xg]at Ez;cases e with
   |box ty g cs=>
    simp only[Ae,Ax]at Ez;obtain⟨hl,hb⟩:=Ez;split at hb
    ·rename_i ty' g' cs' CV;obtain⟨b,C,q1,_⟩:=hrel.ents t _ (by rw[CV];rfl);exact main hl (by simp[BU,CV]) q1
    ·cases hb
   |row ety sz g x d=>
    simp only[Af]at BH;subst BH;simp only[bne_self_eq_false,Bool.false_or,Ae,Ax]at Ez;obtain⟨hl,hb⟩:=Ez;split at hb
    ·rename_i ety' sz' g' x' d' CV;rw[Ax]at hb;subst hb;obtain⟨q1,_⟩:=hrel.ents t _ (by rw[CV];rfl);exact main hl (by simp[BU,CV]) q1
    ·cases hb
   |bh g x=>simp only[Af]at BH;subst BH;simp at Ez
   |gd=>simp at BH
   |dead=>simp at BH
   |hol=>simp at BH
   |pre=>simp at BH
   |deep ety sz l g ep x=>
    simp only[Af]at BH;subst BH;simp only[bne_self_eq_false,Bool.false_or,Ae,Ax]at Ez;obtain⟨hl,hb⟩:=Ez;split at hb
    ·rename_i CV;rw[Ax]at hb;subst hb;obtain⟨q1,_⟩:=hrel.ents t _ (by rw[CV];rfl);exact main hl (by simp[BU,CV]) q1
    ·cases hb
  ·unfold Bv;cases rE:pat.sl[i]? with
   |none=>exact .undef .nil
   |some p=>obtain⟨s,k,hs,hk⟩:=kA _ CS rE;have:=hrel.cv i;unfold Bv at this;rw[hs]at this;exact nH hrel hp hn Cf k hk this
  ·cases he:AD pat.hp t with
   |none=>rw[he]at hr;exact hr.elim
   |some e9=>have Mq:=(AQ t e9 e he).1 hr;subst Mq;exact zJ hrel hp hn Cf hθ he
  ·have:GC pat.hp t=false:=by
    cases he:AD pat.hp t with
    |none=>simp[GC,he]
    |some e9=>exact absurd ((AQ t e9 e9 he).2 rfl) (DL e9)
   simp[CZ,this]
  ·simp only[CZ];split
   ·split
    ·exact ztq (hrel.gw.nodup _)
    ·simp[GI.own]
   ·simp[GI.own]
  ·obtain⟨_,t',hl,_,Cz⟩:=LP hb;obtain⟨_,u',Bw,_,Hq⟩:=LP BF;by_cases hh:t'=u'
   ·subst hh;exact Ll (UT hθ (Lx hl) (Lx Bw))
   ·exact hrel.gw.cc t' u' hh b Cz Hq
  ·obtain⟨_,t',hl,_,Cz⟩:=LP hb;exact hrel.gw.allow t' b Cz
  ·obtain⟨_,t',hl,_,Cz⟩:=LP hb;exact hrel.gw.inb t' b Cz
  ·have BH:BU pat.hp t=some g:=hk;unfold BU at BH;show t<pat.nx;split at BH
   ·rename_i hh;exact AI t _ (H3 hh)
   ·rename_i hh;exact AI t _ (H3 hh)
   ·rename_i hh;exact AI t _ (H3 hh)
   ·rename_i hh;exact AI t _ (H3 hh)
   ·cases BH
 ·cases hi
theorem RC(l:List DT):∀(n k o m:Nat),k<n->o+m<=l.length->((Ci n l).drop (k*l.length+o)).take m=(l.drop o).take m
 |0,k,_,_,h,_=>by omega
 |n+1,0,o,m,_,hm=>by rw[Na,Nat.zero_mul,Nat.zero_add,List.drop_append_of_le_length (by omega),List.take_append_of_le_length (by simp;omega)]
 |n+1,k+1,o,m,h,hm=>by have ih:=RC l n k o m (by omega) hm;rw[<-ih,Na,show(k+1)*l.length+o=l.length+(k*l.length+o)from by rw[Nat.add_mul];omega,List.drop_append,List.drop_eq_nil_of_le (by omega)];simp
theorem DC.elem{w:World}{ys:List AV}{l:List DT}{cells:List Value}{N:List Nat}{z:Nat}(h:DC w (Ci ys.length l) cells (AA ys) N)(hl:l.length=z)(h7:∀y∈ys,y.cells.length=z){k o m:Nat}(hk:k<ys.length)(hm:o+m<=z):
  ∃M,(∀b∈M,b∈N)/\DC w ((l.drop o).take m) ((cells.drop (k*z+o)).take m) ((((AV.sl ys).nth k).cells.drop o).take m) M:=by
 obtain⟨N1,N2,N3,rfl,_,h2,_⟩:=h.split (k*z+o) m;subst hl;rw[RC l _ _ _ _ hk hm,RO ys h7 k _ (LL hk) o m hm]at h2;exact⟨N2,λb hb=>by simp[hb],h2⟩
theorem Rd.j8{w:World}{vs:List Value}{x:AV}{f:List Nat}{o m:Nat}{g:Bool}(h:Rd w vs ((x.cells.drop o).take m) f)(h9:∀u∈vs,u.oneCell'=true)(hm:o+m<=x.cells.length)(h1:g=false->m=1):
  Rd w [if g then .agg vs.toArray else vs.headD undef] [x.fld o m g] f:=by
 cases g with
 |true=>have:=Rd.agg h9 h .nil;simpa[AV.fld]using this
 |false=>
  have:=h1 rfl;subst this;have e2:(x.cells.drop o).take 1=[x.cells[o]'(by omega)]:=by rw[BL (by omega),List.take_succ_cons,List.take_zero]
  rw[e2]at h;have hl:=h.len
  match vs,hl with
  | [v],_=>simpa[AV.fld,show o<x.cells.length by omega]using h
section
variable {P:Program} {c:Cx} {n nx:Nat} {sl sl0:Nat->SV} {hp hp0:Nat->Option Ah} {a:Act} {o:Oper} {gs:Gd} {e:A2} {sg:BR} {nv:Nat}
theorem xH{w:World}{b p:Nat}{t:TypeId}{C:Array Value}{ty:TypeId}{fz:Nat × Nat}(hb:w.heap[b]?=some (.cells C ty fz))(ht:C2 P t=true)(hg:An P t=true\/P.cellsOf t=1)(hp:p+P.cellsOf t<=C.size):
  (Instr.loadAt t (.pointer (some ⟨b,p,none⟩))).run P w= .ok (if An P t then .agg ((C.toList.drop p).take (P.cellsOf t)).toArray else((C.toList.drop p).take (P.cellsOf t)).headD undef) w:=by
 have K8:((C.toList.drop p).take (P.cellsOf t)).length=P.cellsOf t:=by rw[A1,Dp,Cc];omega
 refine OS ht _ (λ_=>K8) (λh=> ?_) (λj u hu=> ?_)
 ·rw[K8];rcases hg with h'|h';rw[h]at h';cases h';exact h'
 ·rw[D5 hb];rw[List.getElem?_take]at hu;split at hu
  ·simpa using hu
  ·cases hu
theorem zt9{b g e z ep:Nat}{l:List DT}{c0 i:E}{t:TypeId}{k':Nat}{v:Value}(hE:C3 c b (.deep e z l g ep c0))(hr:SR c [.cd b g i z k'] [v])(Bb:C2 P t=true)(hle:k'+P.cellsOf t<=z)(Az:An P t=true\/P.cellsOf t=1):
  ∃u,(Instr.loadAt t v).run P c.w= .ok u c.w/\(((l.drop k').take (P.cellsOf t)).all DT.bj=true->Rd c.w [u] [(E.fld (.idx c0 i) k' (P.cellsOf t) (An P t)).den c.ρ] [])/\PX c b u ((E.fld (.idx c0 i) k' (P.cellsOf t) (An P t)).den c.ρ)/\(An P t=false->HO c b g (some (i,z,k')) u):=by
 obtain⟨q1,q2,q3,q4,q5⟩:=hE;cases hr with
 |cd h1 h2 h3 h4 h5 _=>
  rename_i q len cap kk k h6;obtain⟨d1,d2,⟨a9,d3,_⟩|⟨g9,cap9,C,ys,N1,d3,d4,d5,d6,d7,d8,d9,d10,d11,d12⟩⟩:=q4.inv
  ·rw[h2]at d3;cases d3;omega
  ·rw[h2]at d3;cases d3;rw[AG.ak]at d2 d12;have hk:k.toNat<ys.length:=by omega
   have hmul:(k.toNat+1)*z<=ys.length*z:=BB _ (by omega);have Eh:ys.length*z<=cap*z:=BB _ d7;rw[Nat.add_mul]at hmul;have AH:=xH (P:=P) (t:=t) (p:=k.toNat*z+k') d6 Bb Az (by omega);obtain⟨M,m1,m2⟩:=d12.elem d2 d10 hk hle;have FH:((C.toList.take (ys.length*z)).drop (k.toNat*z+k')).take (P.cellsOf t)=(C.toList.drop (k.toNat*z+k')).take (P.cellsOf t):=by rw[List.drop_take,List.take_take,Nat.min_eq_left (by omega)]
   rw[FH]at m2;have CA:∀u∈(C.toList.drop (k.toNat*z+k')).take (P.cellsOf t),u.oneCell'=true:=λu hu=>d11 u (by rw[<-FH]at hu;exact Cd (BM hu))
   have dP:((AV.sl ys).nth k.toNat).cells.length=z:=d10 _ (List.mem_of_getElem? (LL hk));have B4:(E.fld (.idx c0 i) k' (P.cellsOf t) (An P t)).den c.ρ=((AV.sl ys).nth k.toNat).fld k' (P.cellsOf t) (An P t):=by simp only[E.den,d4,h3,AV.idx]
   have SP:An P t=false->P.cellsOf t=1:=λh=>by rcases Az with h'|h';rw[h]at h';cases h';exact h'
   refine⟨_,AH,λhf=> ?_,?_,λhf=> ?_⟩
   ·rw[B4];exact(m2.ir hf).j8 CA (by omega) SP
   ·obtain⟨f,r1,r2⟩:=m2.rd;rw[B4];exact⟨f,r1.j8 CA (by omega) SP,λb hb=> .inr (by rw[d5];simp[m1 b (r2 b hb)])⟩
   ·refine⟨_,_,_,C,_,_,kk,k,h2,by rw[d5];simp,d6,h3,h4,h5,?_⟩;have BG:=SP hf;have AI:k.toNat*z+k'<C.size:=by omega
    have e1:(C.toList.drop (k.toNat*z+k')).take 1=[C[k.toNat*z+k']]:=by rw[BL (by simpa using AI),List.take_succ_cons,List.take_zero];simp
    rw[hf,BG,e1];simp[AI]
end
section
variable {P:Program} {c:Cx} {n nx:Nat} {sl sl0:Nat->SV} {hp hp0:Nat->Option Ah} {a:Act} {o:Oper} {gs:Gd} {e:A2} {sg:BR} {nv:Nat}
theorem Bp.cj:∀l:Bp,Bp.of l.toList=l
 | .nil=>rfl
 | .cons s l=>by simp[Bp.toList,Bp.of,Bp.cj l]
theorem zuY(h:Bh P c n nx sl hp a sl0 hp0 o gs){t:TypeId}{x:Operand}(ho:o.op= .load t x)(he:Bz P sg sl0 hp0 nv nx gs o=some e)(hc:∀q∈e.bg,Cn.den c.ρ q):Aw P o c n nx sl hp gs a e:=by
 have hm:x∈o.op.operands:=by simp[ho,Op.operands]
 simp only[Bz,ho,As,Aq]at he;obtain⟨s,hs,e1,he,rfl⟩:=he;have hr:=(h.ch hs hm).asPtr (λq hq=>hc q (by simp[hq]));have KZ:∀q∈e1.bg,Cn.den c.ρ q:=λq hq=>hc q (by simp[hq]);have ex:(execOp a.eval o).run P c.w=((Instr.loadAt t (a.eval x)).run P c.w).andThen λv w=> .ok (.value v) w:=by simp[execOp,ho]
 unfold mS at he;split at he
 ·cases he
 rename_i Bb;have Bb:C2 P t=true:=by simpa using Bb
 generalize Bd:(asPtr s).1=s1 at he hr;split at he
 ·rename_i b o';split at he
  ·rename_i ty g cs hl;obtain⟨s2,AY,rfl⟩:=Aq.1 he;generalize ha:a.eval x=v at hr ex;cases hr with
   |ca h1 h2 _=>
    rename_i q;obtain⟨q',C,_,e2,e3,e4,e5,e5',e6⟩:=h.eh b _ (Cv hl h.gs);rw[h2]at e2;cases e2;unfold Nx at AY;have hlen:=e6.len;split at AY
    ·rename_i Az;split at AY
     ·rename_i hle;simp at AY;subst AY;obtain⟨r1,r2⟩:=e6.split o';obtain⟨r3,r4⟩:=r2.split (P.cellsOf t);have:=SR.agg (cs:=Bp.of ((cs.drop o').take (P.cellsOf t))) (λu hu=>e5' u (Cd (BM hu))) (by rw[Bp.ak];exact r3) .nil;refine Aw.pure h (v:= .agg ((C.toList.drop o').take (P.cellsOf t)).toArray) ?_ this rfl;rw[ex,OS Bb ((C.toList.drop o').take (P.cellsOf t)) (λ_=>by simp at hlen ⊢;omega) (λh=>by rw[Az]at h;cases h) (λj u hu=>by
       rw[D5 e5];rw[List.getElem?_take]at hu;split at hu
       ·simpa using hu
       ·cases hu)]
      simp[Az]
     ·cases AY
    ·rename_i Az;have Az:An P t=false:=by simpa using Az
     obtain⟨u,hu,r⟩:=e6.get AY;refine Aw.pure h (v:=u) ?_ r rfl;rw[ex,OS Bb [u] (λh=>by rw[Az]at h;cases h) (λ_=>rfl) (λj z hz=>by
      cases j with
      |zero=>simp at hz;subst hz;rw[D5 e5];simpa using hu
      |succ j=>simp at hz)]
     simp[Az]
  ·cases he
 ·rename_i b g i sz o';split at he
  ·rename_i e0 sz' g' c0 d hl;split at he
   ·rename_i hh;obtain⟨rfl,rfl,hle,Az⟩:=hh;simp at he;subst he;generalize ha:a.eval x=v at hr ex;cases hr with
    |cd h1 h2 h3 h4 h5 _=>
     rename_i q len cap kk k h6;obtain⟨_,_,N,r1,r2,_,_⟩:=h.eh b _ (Cv hl h.gs);obtain⟨f,r3,_,r4⟩:=r1.rd;obtain⟨xs,B9,AF,h0,AT⟩:=r1;rw[h2]at r3 AT;have hk:k.toNat<len:=by omega
     have G2:xs.length=len:=by
      rcases AT with⟨_,⟨_,hv⟩,_⟩|⟨_,_,_,hv,_⟩
      ·cases hv;omega
      ·simp at hv;exact hv.2.1.symm
     have BY:((c0.den c.ρ).nth k.toNat).cells.length=sz:=by rw[B9];exact AF _ (List.mem_of_getElem? (LL (xs:=xs) (by omega)))
     obtain⟨v',q',g1,g2,g3⟩:=ZG r3 hk BY Bb hle Az;refine Aw.pure h (v:=v') ?_ (.e (f:=q') ?_ ?_ .nil) rfl
     ·rw[ex];rw[Nat.zero_add]at g1;simp[g1]
     ·simpa[E.den,AV.idx,h3]using g3
     ·exact λz hz=>r2 z (r4 z (g2 z hz))
   ·cases he
  ·rename_i e0 sz' l g' ep c0 hl;split at he
   ·rename_i hh;obtain⟨rfl,rfl,hle,Az⟩:=hh;generalize ha:a.eval x=v at hr ex;have hE:=h.eh b _ (Cv hl h.gs);obtain⟨u,k1,k2,k3,k4⟩:=zt9 (P:=P) (t:=t) hE hr Bb hle Az;have AH:(execOp a.eval o).run P c.w= .ok (.value u) c.w:=by rw[ex,k1];rfl
    split at he
    ·rename_i hf;simp only[Af]at he;subst he;exact Aw.pure h AH (.e (k2 hf) (by simp) .nil) rfl
    ·simp only[Af]at he;subst he;cases hr with
     |cd h1 _ _ _ _ _=>
      refine Aw.pure h AH (.via h1 (Nat.le_of_eq hE.2.2.1.symm) (λ_=>⟨k3,?_⟩) .nil) rfl;split
      ·exact trivial
      ·rename_i Gj;exact k4 (by simpa using Gj)
   ·cases he
  ·cases he
 ·rename_i b g m pth y i sz o';split at he
  ·rename_i hh;obtain⟨hle,Az,hv⟩:=hh;have hE:=Pl h.eh h.gs hv;generalize ha:a.eval x=v at hr ex;cases hr with
   |vptr h1 h2 h3 _=>
    obtain⟨q,off,len,cap,kk,k,⟨f,p1,p2⟩,_,p4,p5,p6,p7,rfl⟩:=h3 hE;obtain⟨v',q',g1,g2,g3⟩:=ZG (fo:=o') p1 (by omega) p7 Bb hle Az;have AH:(execOp a.eval o).run P c.w= .ok (.value v') c.w:=by rw[ex];simp[g1]
    have B4:Rd c.w [v'] [(E.fld (.idx y i) o' (P.cellsOf t) (An P t)).den c.ρ] q':=by simpa[E.den,AV.idx,p4]using g3
    split at he
    ·simp only[Af]at he;subst he;obtain⟨f1,f2,f3,f4⟩:=BG KZ;have hq:q'=[]:=by
      cases hg:An P t with
      |true=>obtain⟨cs,Bi⟩:=f3 hg;obtain⟨as_,rfl,_,r⟩:=Jc B4 Bi;exact Ha r (by rw[Bi]at f2;exact f2)
      |false=>exact Ha B4 (by simpa using f4 hg)
     subst hq;exact Aw.pure h AH (.e B4 (by simp) .nil) rfl
    ·simp only[Af]at he;subst he;exact Aw.pure h AH (.via h1 h2 (λ_=>⟨⟨q',B4,λz hz=>p2 z (List.mem_of_mem_tail (g2 z hz))⟩,trivial⟩) .nil) rfl
  ·cases he
 ·rename_i y i sz o';split at he
  ·rename_i hh;obtain⟨hle,Az⟩:=hh;simp at he;subst he;generalize ha:a.eval x=v at hr ex;cases hr with
   |cz h1 h2 h3 h4 h5 h6 _=>rename_i q off len cap f kk k;obtain⟨v',q',g1,g2,g3⟩:=ZG (fo:=o') h1 (by omega) h6 Bb hle Az;refine Aw.pure h (v:=v') ?_ (.e (f:=q') (by simpa[E.den,AV.idx,h3]using g3) (λz hz=>h2 z (List.mem_of_mem_tail (g2 z hz))) .nil) rfl;rw[ex];simp[g1]
  ·cases he
 ·rename_i y o';split at he
  ·rename_i Az;simp at he;subst he;generalize ha:a.eval x=v at hr ex;cases hr with
   |c7 h1 h2 _=>
    rename_i q f;obtain⟨z,hz,hle⟩:=BG KZ;rw[hz]at h1;cases h1 with
    |ref hb BF GX Dy=>
     rename_i C ty fz f1 f2;obtain⟨q',g1,g2⟩:=GX.gv BF o' (P.cellsOf t) (An P t) hle (λh=>by rcases Az with h'|h';rw[h]at h';cases h';exact h');have K8:((C.toList.drop o').take (P.cellsOf t)).length=P.cellsOf t:=by have:=GX.len;rw[A1,Dp];omega
     refine Aw.pure h ?_ (.e (f:=q') (by simpa[E.den,hz,AV.deref]using g2) (λz hz=>h2 z (by simp[g1 z hz])) .nil) rfl;rw[ex,OS Bb ((C.toList.drop o').take (P.cellsOf t)) (λ_=>K8) (λh=>by rw[K8];rcases Az with h'|h';rw[h]at h';cases h';exact h') (λj u hu=>by
       rw[D5 hb];rw[List.getElem?_take]at hu;split at hu
       ·simpa using hu
       ·cases hu)]
     simp
  ·cases he
 ·cases he
end
theorem Nj(k:IntKind)(n:Int):EV k n↔k.min<=n/\n<=k.max:=by unfold EV;cases k<;>simp only[IntKind.wrap,IntKind.bits,IntKind.signed,IntKind.min,IntKind.max]<;>simp<;>(try split)<;>omega
theorem ZH(k:IntKind)(n:Int):EV k (k.wrap n):=by rw[Nj];cases k<;>simp only[IntKind.wrap,IntKind.bits,IntKind.signed,IntKind.min,IntKind.max]<;>simp<;>(try split)<;>omega
theorem zv8{k:IntKind}{x y:Int}(h:EV k x):EV k (x.tmod y):=by
 rw[Nj]at h ⊢;have h1:(x.tmod y).natAbs<=x.natAbs:=by rw[Int.natAbs_tmod];exact Nat.mod_le _ _
 have h2:0<=x->0<=x.tmod y:=Int.tmod_nonneg y;have W5:k.min<=0:=by cases k<;>decide
 have EP:0<=k.max:=by cases k<;>decide
 constructor
 ·by_cases h0:0<=x
  ·have:=h2 h0;omega
  ·omega
 ·by_cases h0:0<=x
  ·omega
  ·have h3:x.tmod y<=0:=by
    have:=Int.tmod_nonneg (a:= -x) y (by omega);rw[Int.neg_tmod]at this;omega
   omega
theorem zvL{k:IntKind}{x:Int}(m:Nat)(h:EV k x):EV k (x.fdiv (2^m)):=by
 rw[Nj]at h ⊢;have hp:(0:Int)<2^m:=Int.pow_pos (by decide);rw[Int.fdiv_eq_ediv_of_nonneg _ (Int.le_of_lt hp)];have W5:k.min<=0:=by cases k<;>decide
 have EP:0<=k.max:=by cases k<;>decide
 have h1:(1:Int)<=2^m:=hp;constructor
 ·rcases Int.le_total 0 x with h0|h0
  ·have:=Int.ediv_nonneg h0 (Int.le_of_lt hp);omega
  ·have:x<=x/2^m:=by
    rw[Int.le_ediv_iff_mul_le hp];have:=Int.mul_le_mul_of_nonpos_left h0 h1;omega
   omega
 ·rcases Int.le_total 0 x with h0|h0
  ·have:=Int.ediv_le_self (2^m) h0;omega
  ·have h2:x/2^m<=0:=by
    have:=Int.ediv_le_ediv hp h0;simpa using this
   omega
section
variable {P:Program} {c:Cx} {n nx:Nat} {sl sl0:Nat->SV} {hp hp0:Nat->Option Ah} {a:Act} {o:Oper} {gs:Gd} {e:A2} {sg:BR} {nv:Nat}
def AV.val:AV->Value
 | .int k n=> .int k n
 | .bool b=> .bool b
 | .str s=> .string ⟨s.toArray⟩
 |_=>Go.undef
theorem zU{op:BinOp}{k k':IntKind}{x y:Int}(hk:k=k'\/op= .shl\/op= .shr)(hz:op= .quo\/op= .rem->y≠0)(hs:op= .shl\/op= .shr->0<=y)(t:TypeId)(p q:Operand)(w:World):
  (do eqGuard op t p q (.int k x) (.int k' y);binOp op t (.int k x) (.int k' y):Sem Value).run P w= .ok (BD op k x y).val w:=by
 have hg:=eqGuard_at_int op t p q (.int k' y) k x;cases op<;>simp only[reduceCtorEq,or_false,or_true,or_self]at hk hz hs<;>simp only[hg]
 all_goals first
  |(subst hk;simp[binOp,Op.intArith,Op.intCmp,Op.intBits,BD,AV.val];done)
  |(subst hk;have:=hz trivial;simp[binOp,Op.intDiv,BD,AV.val,this];done)
  |(have:=hs trivial;simp[binOp,Op.shift,BD,AV.val,Int.not_lt.2 this];done)
theorem zvf{op:BinOp}{k:IntKind}{x y:Int}(hx:EV k x)(w:World):Rd w [(BD op k x y).val] [BD op k x y] []:=by
 cases op<;>simp only[BD,AV.val]<;>first
  |exact .int (ZH _ _) .nil
  |exact .bool .nil
  |exact .int (zv8 hx) .nil
  |exact .int (zvL _ hx) .nil
theorem Rd.gf{w:World}{v:Value}{x:AV}{f:List Nat}(h:Rd w [v] [x] f):x≠ .undef:=by rintro rfl;cases h
theorem ZF{ρ:List AV}:∀(x:E) {k:IntKind},Ck x=some k->x.den ρ≠ .undef-> ∃m,x.den ρ= .int k m
 | .int k n,_,h,_=>by simp[Ck]at h;subst h;exact⟨n,rfl⟩
 | .len y,_,h,hd=>by
  simp[Ck]at h;subst h;simp only[E.den,AV.len]at hd ⊢;split at hd
  ·exact⟨_,rfl⟩
  ·exact absurd rfl hd
 | .slen y,_,h,hd=>by
  simp[Ck]at h;subst h;simp only[E.den,AV.slen]at hd ⊢;split at hd
  ·exact⟨_,rfl⟩
  ·exact absurd rfl hd
 | .conv k y,_,h,hd=>by
  simp[Ck]at h;subst h;simp only[E.den,AV.conv]at hd ⊢;split at hd
  ·exact⟨_,rfl⟩
  ·exact absurd rfl hd
 | .bin op x y,k,h,hd=>by
  simp only[E.den]at hd ⊢;have hx:x.den ρ≠ .undef:=by rintro hh;rw[hh]at hd;exact hd (by simp[AV.bin])
  cases op<;>simp only[Ck,reduceCtorEq]at h
  all_goals
   obtain⟨m,hm⟩:=ZF x h hx;rw[hm]at hd ⊢;cases hy:y.den ρ<;>rw[hy]at hd<;>simp only[AV.bin]at hd ⊢ <;>first
    |exact absurd rfl hd
    |(split at hd
      ·rename_i hk;rw[if_pos hk];exact⟨_,rfl⟩
      ·exact absurd rfl hd)
 | .var _,_,h,_=>by simp[Ck]at h
 | .bool _,_,h,_=>by simp[Ck]at h
 | .str _,_,h,_=>by simp[Ck]at h
 | .dd,_,h,_=>by simp[Ck]at h
 | .lst _,_,h,_=>by simp[Ck]at h
 | .mk _,_,h,_=>by simp[Ck]at h
 | .tup _,_,h,_=>by simp[Ck]at h
 | .ref _,_,h,_=>by simp[Ck]at h
 | .fn ..,_,h,_=>by simp[Ck]at h
 | .fld ..,_,h,_=>by simp[Ck]at h
 | .proj ..,_,h,_=>by simp[Ck]at h
 | .deref _,_,h,_=>by simp[Ck]at h
 | .idx ..,_,h,_=>by simp[Ck]at h
 | .sidx ..,_,h,_=>by simp[Ck]at h
 | .win ..,_,h,_=>by simp[Ck]at h
 | .swin ..,_,h,_=>by simp[Ck]at h
 | .app ..,_,h,_=>by simp[Ck]at h
 | .set ..,_,h,_=>by simp[Ck]at h
 | .put ..,_,h,_=>by simp[Ck]at h
 | .rep ..,_,h,_=>by simp[Ck]at h
 | .sbin ..,_,h,_=>by simp[Ck]at h
 | .bbin ..,_,h,_=>by simp[Ck]at h
 | .not _,_,h,_=>by simp[Ck]at h
 | .neg _,_,h,_=>by simp[Ck]at h
 | .ite ..,_,h,_=>by simp[Ck]at h
 | .bytes _,_,h,_=>by simp[Ck]at h
 | .text _,_,h,_=>by simp[Ck]at h
end
section
variable {P:Program} {c:Cx} {n nx:Nat} {sl sl0:Nat->SV} {hp hp0:Nat->Option Ah} {a:Act} {o:Oper} {gs:Gd} {e:A2} {sg:BR} {nv:Nat}
theorem G7{s:SV}{v:Value}{x:E}(h:SR c [s] [v])(hx:E9 s=some x):∃f,Rd c.w [v] [x.den c.ρ] f/\ ∀b∈f,c.ok b:=by
 cases s<;>simp only[E9,Af,reduceCtorEq]at hx;subst hx;cases h with
 |e h1 h2 _=>exact⟨_,h1,h2⟩
theorem SR.cu{v:Value}{x:E}(h:Rd c.w [v] [x.den c.ρ] []):SR c [.e x] [v]:= .e h (by simp) .nil
theorem ztf{ρ:List AV}{op:BinOp}{x y:E}{w:World}{v u:Value}{f g:List Nat}(h1:Rd w [v] [x.den ρ] f)(h2:Rd w [u] [y.den ρ] g)(hd:Pc (.bin op x y)=true->(E.bin op x y).den ρ≠ .undef):
  ∃k k' p q,x.den ρ= .int k p/\y.den ρ= .int k' q/\(k=k'\/op= .shl\/op= .shr)/\(E.bin op x y).den ρ=BD op k p q/\EV k p/\v= .int k p/\u= .int k' q:=by
 have key:(∃k k' p q,x.den ρ= .int k p/\y.den ρ= .int k' q/\(k=k'\/op= .shl\/op= .shr)):=by
  by_cases hn:Pc (.bin op x y)=true
  ·have:=hd hn;simp only[E.den]at this;cases hx:x.den ρ<;>cases hy:y.den ρ<;>simp only[hx,hy,AV.bin,ne_eq,not_true_eq_false]at this;split at this
   ·exact⟨_,_,_,_,rfl,rfl,by assumption⟩
   ·exact absurd rfl this
  ·have hn:Pc (.bin op x y)=false:=by simpa using hn
   have hk:(Ck x).isSome=true/\(Ck x==Ck y)=true:=by cases op<;>simp[Pc]at hn<;>simpa using hn
   obtain⟨k,Hw⟩:=Option.isSome_iff_exists.1 hk.1;have S5:Ck y=some k:=by rw[<-Ax.1 hk.2,Hw]
   obtain⟨p,hp⟩:=ZF x Hw h1.gf;obtain⟨q,hq⟩:=ZF y S5 h2.gf;exact⟨k,k,p,q,hp,hq, .inl rfl⟩
 obtain⟨k,k',p,q,hp,hq,HW⟩:=key;obtain⟨hv,BS⟩:=FC h1 hp;obtain⟨hu,_⟩:=FC h2 hq;exact⟨k,k',p,q,hp,hq,HW,by simp only[E.den,hp,hq,AV.bin,if_pos HW],BS,hv,hu⟩
theorem xP(a b:ByteArray):(a.toList==b.toList)=(a.data.toList==b.data.toList):=by rw[ByteArray.toList_eq,ByteArray.toList_eq]
theorem xU{α β γ:Type}(r:Result α)(f:α->World->Result β)(g:β->World->Result γ):(r.andThen f).andThen g=r.andThen λa w=>(f a w).andThen g:=by cases r<;>rfl
theorem Zm(d:Nat){t:TypeId}(p q:Bool)(h:P.underlying t=some .bool)(w:World):(Op.equalIn (d+1) t (.bool p) (.bool q)).run P w= .ok (p==q) w:=by simp[Op.equalIn,run_underlying h]
theorem zN{t:TypeId}(p q:Bool)(h:P.underlying t=some .bool)(w:World):(binOp .eql t (.bool p) (.bool q)).run P w= .ok (.bool (p==q)) w:=by simp only[binOp];simp[Op.equal,Op.maxDepth,Zm 9999 p q h]
theorem zsZ{t:TypeId}(p q:Bool)(h:P.underlying t=some .bool)(w:World):(binOp .neq t (.bool p) (.bool q)).run P w= .ok (.bool (!(p==q))) w:=by simp only[binOp];simp[Op.equal,Op.maxDepth,Zm 9999 p q h]
theorem Nt{op:BinOp}{t ty:TypeId}{x y:Operand}(ho:o.op= .binOp op t x y ty)(w:World){v u:Value}(hv:a.eval x=v)(hu:a.eval y=u):
  (execOp a.eval o).run P w=((do eqGuard op t x y v u;binOp op t v u:Sem Value).run P w).andThen λv w=> .ok (.value v) w:=by
 simp only[execOp,ho,hv,hu,Sem.run_bind,xU,Sem.run_pure]
theorem fD(h:Bh P c n nx sl hp a sl0 hp0 o gs){op:BinOp}{t el:TypeId}{x y:Operand}{ty:TypeId}(ho:o.op= .binOp op t x y ty)(hu:P.underlying t=some (.slice el))(r1:SR c [.bq] [a.eval x])(r2:SR c [.bq] [a.eval y])
  (AP:op= .eql\/op= .neq):Aw P o c n nx sl hp gs a {val:= .e (.bool (op== .eql))}:=by
 have ex:=λ(v u:Value) (hv:a.eval x=v) (hu:a.eval y=u)=>Nt (P:=P) (o:=o) ho c.w hv hu;generalize E5:a.eval x=v1 at r1;generalize C6:a.eval y=v2 at r2;cases r1 with
 |bq _=>cases r2 with
  |bq _=>
   refine Aw.pure h (v:= .bool (op== .eql)) ?_ (.cu (.bool .nil)) rfl;rw[ex _ _ E5 C6,eqGuard_at_slice];rcases AP with rfl|rfl
   ·simp[run_eql_nil_slice c.w t el none 0 0 0 0 hu]
   ·simp[run_neq_nil_slice c.w t el none 0 0 0 0 hu]
theorem xY(h:Bh P c n nx sl hp a sl0 hp0 o gs){op:BinOp}{t:TypeId}{x y:Operand}{ty:TypeId}(ho:o.op= .binOp op t x y ty){s1 s2:SV}(r1:SR c [s1] [a.eval x])(r2:SR c [s2] [a.eval y])
  {x' y':E} (CT:E9 s1=some x') (Bo:E9 s2=some y') (hd:Pc (.bin op x' y')=true->Cn.den c.ρ (.dfd (.bin op x' y'))) (qX:op= .quo\/op= .rem->Cn.den c.ρ (.nz y')) (qV:op= .shl\/op= .shr->Cn.den c.ρ (.nn y')) {ck:List Cn}:
  Aw P o c n nx sl hp gs a {bg:=ck,val:= .e (.bin op x' y')}:=by
 obtain⟨f1,g1,_⟩:=G7 r1 CT;obtain⟨f2,g2,_⟩:=G7 r2 Bo;obtain⟨k,k',p,q,e1,e2,HW,e3,BS,hv,Fs⟩:=ztf (op:=op) g1 g2 hd;refine Aw.pure h (v:=(BD op k p q).val) ?_ (.cu (by rw[e3];exact zvf BS _)) rfl;rw[Nt ho c.w hv Fs,zU HW (λAP=> ?_) (λAP=> ?_)]
 ·simp
 ·obtain⟨_,m,hm,Dw⟩:=qX AP;rw[e2]at hm;cases hm;exact Dw
 ·obtain⟨_,m,hm,Dw⟩:=qV AP;rw[e2]at hm;cases hm;exact Dw
theorem yJ(h:Bh P c n nx sl hp a sl0 hp0 o gs){op:BinOp}{t:TypeId}{x y:Operand}{ty:TypeId}(ho:o.op= .binOp op t x y ty){s1 s2:SV}(r1:SR c [s1] [a.eval x])(r2:SR c [s2] [a.eval y])
  {x' y':E} (CT:E9 s1=some x') (Bo:E9 s2=some y') (hd:Cn.den c.ρ (.dfd (.sbin op x' y'))) (Dn:op= .add->Cn.den c.ρ (.roomS x' y')) {ck:List Cn}:
  Aw P o c n nx sl hp gs a {bg:=ck,val:= .e (.sbin op x' y')}:=by
 obtain⟨f1,g1,_⟩:=G7 r1 CT;obtain⟨f2,g2,_⟩:=G7 r2 Bo;have hd:AV.sbin op (x'.den c.ρ) (y'.den c.ρ)≠ .undef:=hd;cases hx:x'.den c.ρ<;>cases hy:y'.den c.ρ<;>simp only[hx,hy,AV.sbin,ne_eq,not_true_eq_false]at hd;obtain⟨b1,E5,rfl,_⟩:=Py g1 hx;obtain⟨b2,C6,rfl,_⟩:=Py g2 hy;have hle:op= .add->b1.size+b2.size<=9223372036854775807:=λAP=>by obtain⟨p,q,hp,hq,hle⟩:=Dn AP;rw[hx]at hp;rw[hy]at hq;cases hp;cases hq;simpa using hle
 refine Aw.pure h (v:=match op with| .add=> .string (b1++b2)|_=>(Px op b1.data.toList b2.data.toList).val) ?_ (.cu ?_) rfl
 ·rw[Nt ho c.w E5 C6,eqGuard_at_string];cases op<;>first
   |(exact absurd rfl hd)
   |(have:=hle rfl;simp[binOp,Op.stringOp];omega)
   |(simp[binOp,Op.stringOp,Px,AV.val,ByteArray.toList_eq,bne];done)
 ·simp only[E.den,hx,hy,AV.sbin];cases op<;>simp only[Px,AV.val,ne_eq,not_true_eq_false]at hd ⊢ <;>first
   |exact .bool .nil
   |(have:=hle rfl
     have h9:=Rd.str (w:=c.w) (s:=b1++b2) (by simpa using this) .nil;simpa using h9)
theorem xO(h:Bh P c n nx sl hp a sl0 hp0 o gs){op:BinOp}{t:TypeId}{x y:Operand}{ty:TypeId}(ho:o.op= .binOp op t x y ty)(hu:P.underlying t=some .bool){s1 s2:SV}(r1:SR c [s1] [a.eval x])(r2:SR c [s2] [a.eval y])
  {x' y':E} (CT:E9 s1=some x') (Bo:E9 s2=some y') (hd:Cn.den c.ρ (.dfd (.bbin op x' y'))) {ck:List Cn}:
  Aw P o c n nx sl hp gs a {bg:=ck,val:= .e (.bbin op x' y')}:=by
 obtain⟨f1,g1,_⟩:=G7 r1 CT;obtain⟨f2,g2,_⟩:=G7 r2 Bo;have hd:AV.bbin op (x'.den c.ρ) (y'.den c.ρ)≠ .undef:=hd;cases hx:x'.den c.ρ<;>cases hy:y'.den c.ρ<;>simp only[hx,hy,AV.bbin,ne_eq,not_true_eq_false]at hd;rename_i p q;have E5:=HF g1 hx;have C6:=HF g2 hy;refine Aw.pure h (v:=(AV.bbin op (.bool p) (.bool q)).val) ?_ (.cu ?_) rfl
 ·rw[Nt ho c.w E5 C6,eqGuard_at_bool];cases op<;>simp only[ne_eq,not_true_eq_false]at hd
  ·simp[zN p q hu,AV.bbin,AV.val]
  ·simp[zsZ p q hu,AV.bbin,AV.val,bne]
 ·simp only[E.den,hx,hy];cases op<;>simp only[AV.bbin,AV.val,ne_eq,not_true_eq_false]at hd ⊢ <;>exact .bool .nil
theorem zvZ(h:Bh P c n nx sl hp a sl0 hp0 o gs){op:BinOp}{t:TypeId}{x y:Operand}{ty:TypeId}(ho:o.op= .binOp op t x y ty)(Lb:∀fs,P.underlying t≠some (.struct fs))(he:Bz P sg sl0 hp0 nv nx gs o=some e)(hq:e.br=none)(hc:∀q∈e.bg,Cn.den c.ρ q):Aw P o c n nx sl hp gs a e:=by
 have DK:x∈o.op.operands:=by simp[ho,Op.operands]
 have Dl:y∈o.op.operands:=by simp[ho,Op.operands]
 simp only[Bz,ho,As]at he;obtain⟨s1,BA,s2,AY,he⟩:=he;have r1:=h.ch BA DK;have r2:=h.ch AY Dl;unfold PG at he;split at he
 ·rename_i el hu;split at he
  ·simp at he;subst he;exact fD h ho hu r1 r2 (.inl rfl)
  ·simp at he;subst he;exact fD h ho hu r1 r2 (.inr rfl)
  ·obtain⟨_,_,rfl⟩:=Aq.1 he;cases hq
  ·obtain⟨_,_,rfl⟩:=Aq.1 he;cases hq
  ·cases he
 ·rename_i kk hu;split at he
  ·rename_i x' y' CT Bo;simp at he;subst he;exact xY h ho r1 r2 CT Bo (λhn=>hc _ (by simp[hn])) (λAP=>hc _ (by rcases AP with rfl|rfl<;>simp)) (λAP=>hc _ (by rcases AP with rfl|rfl<;>simp))
  ·cases he
 ·rename_i hu;split at he
  ·rename_i x' y' CT Bo;simp at he;subst he;exact yJ h ho r1 r2 CT Bo (hc _ (by simp)) (λAP=>hc _ (by subst AP;simp))
  ·cases he
 ·rename_i hu;split at he
  ·rename_i x' y' CT Bo;simp at he;subst he;exact xO h ho hu r1 r2 CT Bo (hc _ (by simp))
  ·cases he
 ·rename_i fs hu;exact absurd hu (Lb fs)
 ·cases he
end
section
variable {P:Program} {c:Cx} {n nx:Nat} {sl sl0:Nat->SV} {hp hp0:Nat->Option Ah} {a:Act} {o:Oper} {gs:Gd} {e:A2} {sg:BR} {nv:Nat}
theorem RV{t:TypeId}(h:C2 P t=true)(cs:List Value)(off:Nat)(hle:off+P.cellsOf t<=cs.length)(hg:An P t=true\/P.cellsOf t=1)(w:World):
  (part t cs.toArray off).run P w= .ok (if An P t then .agg ((cs.drop off).take (P.cellsOf t)).toArray else((cs.drop off).take (P.cellsOf t)).headD Go.undef) w:=by
 cases ha:An P t with
 |true=>simp only[part,Sem.run_bind,RM h,ha,M5 h,Result.andThen_ok,if_true,Sem.run_pure];congr 2;apply Array.ext';rw[Array.toList_extract];simp[Nat.add_sub_cancel_left,List.extract_eq_take_drop]
 |false=>
  have h1:P.cellsOf t=1:=by rcases hg with h'|h';rw[ha]at h';cases h';exact h'
  have AI:off<cs.length:=by omega
  have e1:(cs.drop off).take (P.cellsOf t)=[cs[off]]:=by rw[h1,BL AI,List.take_succ_cons,List.take_zero]
  rw[e1];simp[part,RM h,ha,AI]
theorem ztt(h:Bh P c n nx sl hp a sl0 hp0 o gs){t:TypeId}{x:Operand}{f:Nat}(ho:o.op= .field t x f)(he:Bz P sg sl0 hp0 nv nx gs o=some e)(hc:∀q∈e.bg,Cn.den c.ρ q):Aw P o c n nx sl hp gs a e:=by
 have hm:x∈o.op.operands:=by simp[ho,Op.operands]
 simp only[Bz,ho,As]at he;obtain⟨s,hs,he⟩:=he;have hr:=h.ch hs hm;split at he
 ·rename_i fs hu;split at he
  ·rename_i fd hf;split at he
   ·cases he
   ·rename_i Bb;have Bb:C2 P fd.type=true:=by simpa using Bb
    have ex:∀as_:List Value,a.eval x= .agg as_.toArray->(execOp a.eval o).run P c.w=((part fd.type as_.toArray fd.offset).run P c.w).andThen λv w=> .ok (.value v) w:=λas_ hv=>by simp[execOp,ho,Instr.field,run_underlying hu,hf,hv,asAgg]
    split at he
    ·rename_i cs;obtain⟨s2,AY,rfl⟩:=Aq.1 he;generalize hv:a.eval x=v at hr;cases hr with
     |agg r8 r1 r9=>
      rename_i as_;have hlen:=r1.len;unfold Nx at AY;split at AY
      ·rename_i Az;split at AY
       ·rename_i hle;simp at AY;subst AY;obtain⟨q1,q2⟩:=r1.split fd.offset;obtain⟨q3,q4⟩:=q2.split (P.cellsOf fd.type);have:=SR.agg (cs:=Bp.of ((cs.toList.drop fd.offset).take (P.cellsOf fd.type))) (λu hu=>r8 u (Cd (BM hu))) (by rw[Bp.ak];exact q3) .nil;refine Aw.pure h (v:= .agg ((as_.drop fd.offset).take (P.cellsOf fd.type)).toArray) ?_ this rfl;rw[ex as_ hv,RV Bb as_ fd.offset (by omega) (.inl Az)];simp[Az]
       ·cases AY
      ·rename_i Az;have Az:An P fd.type=false:=by simpa using Az
       obtain⟨u,Fs,r⟩:=r1.get AY;refine Aw.pure h (v:=u) ?_ r rfl;rw[ex as_ hv];simp[part,RM Bb,Az,Fs]
    ·rename_i y;split at he
     ·rename_i hh;obtain⟨hle,Az⟩:=hh;simp at he;subst he;generalize hv:a.eval x=v at hr;cases hr with
      |e h1 h2 _=>
       rename_i f1;obtain⟨cs,Bi,AF⟩:=BG hc;obtain⟨as_,rfl,MJ,Dy⟩:=Jc h1 Bi;have hlen:=Dy.len;have FH:(y.den c.ρ).cells=cs:=by rw[Bi];rfl
       rw[<-FH]at Dy;obtain⟨q,g1,g2⟩:=Dy.gv MJ fd.offset (P.cellsOf fd.type) (An P fd.type) (by rw[FH];omega) (λhh=>by rcases Az with h'|h';rw[hh]at h';cases h';exact h');refine Aw.pure h ?_ (.e (f:=q) (by simpa[E.den]using g2) (λz hz=>h2 z (g1 z hz)) .nil) rfl;rw[ex as_ hv,RV Bb as_ fd.offset (by omega) Az];simp
     ·cases he
    ·rename_i b g m pth y;split at he
     ·rename_i hh;obtain⟨hle,Az,XA⟩:=hh;have hE:=Pl h.eh h.gs XA;generalize hv:a.eval x=v at hr;have Hn:Cn.den c.ρ (.agg y (P.cellsOf t)):=by
       split at he<;>(simp only[Af]at he;subst he;exact BG hc)
      cases hr with
      |via h1 h2 h3 _=>
       obtain⟨⟨f1,p1,p2⟩,_⟩:=h3 hE;obtain⟨cs,Bi,AF⟩:=Hn;obtain⟨as_,rfl,MJ,Dy⟩:=Jc p1 Bi;have hlen:=Dy.len;have FH:(y.den c.ρ).cells=cs:=by rw[Bi];rfl
       rw[<-FH]at Dy;obtain⟨q,g1,g2⟩:=Dy.gv MJ fd.offset (P.cellsOf fd.type) (An P fd.type) (by rw[FH];omega) (λhh=>by rcases Az with h'|h';rw[hh]at h';cases h';exact h');have AH:=ex as_ hv;rw[RV Bb as_ fd.offset (by omega) Az]at AH;simp only[Result.andThen_ok]at AH;have B4:Rd c.w _ [(E.fld y fd.offset (P.cellsOf fd.type) (An P fd.type)).den c.ρ] q:=g2;split at he
       ·simp only[Af]at he;subst he;obtain⟨e1,e2,e3,e4⟩:=hc (.flat (.fld y fd.offset (P.cellsOf fd.type) (An P fd.type)) (P.cellsOf fd.type) (An P fd.type)) (by simp);have hq:q=[]:=by
         cases hg:An P fd.type with
         |true=>obtain⟨cs,Bi⟩:=e3 hg;obtain⟨as_,_,_,r⟩:=Jc B4 Bi;exact Ha r (by rw[Bi]at e2;exact e2)
         |false=>exact Ha B4 (by simpa using e4 hg)
        subst hq;exact Aw.pure h AH (.e B4 (by simp) .nil) rfl
       ·simp only[Af]at he;subst he;exact Aw.pure h AH (.via h1 h2 (λ_=>⟨⟨q,B4,λz hz=>p2 z (g1 z hz)⟩,trivial⟩) .nil) rfl
     ·cases he
    ·cases he
  ·cases he
 ·cases he
theorem O9{v:Value}{x:AV}{m:Int}{w:World}{f:List Nat}(h:Rd w [v] [x] f)(hx:x.len= .int .i64 m):(∃a c,v= .slice a 0 c/\m=0)\/ ∃b o k c,v= .slice (some ⟨b,o,none⟩) k c/\m=k:=by
 rcases h.kind with h|h|h|h|h|h|h|h|h|h
 ·obtain⟨_,_,_,rfl,_⟩:=h;simp[AV.len]at hx
 ·obtain⟨_,_,rfl,_⟩:=h;simp[AV.len]at hx
 ·obtain⟨_,_,rfl,_⟩:=h;simp[AV.len]at hx
 ·obtain⟨q,r,rfl,rfl,_⟩:=h;simp[AV.len]at hx;exact .inl ⟨q,r,rfl,by omega⟩
 ·obtain⟨b,o,k,r,ys,_,_,_,_,_,_,rfl,rfl,_,_,_,_,hl,_⟩:=h;simp[AV.len]at hx;exact .inr ⟨b,o,k,r,rfl,by omega⟩
 ·obtain⟨_,_,_,rfl,_⟩:=h;simp[AV.len]at hx
 ·obtain⟨_,_,_,rfl,_⟩:=h;simp[AV.len]at hx
 ·obtain⟨_,_,_,_,_,_,_,rfl,_⟩:=h;simp[AV.len]at hx
 ·obtain⟨_,_,_,_,rfl,_⟩:=h;simp[AV.len]at hx
 ·obtain⟨_,rfl,_⟩:=h;simp[AV.len]at hx
theorem OO{t el:TypeId}(hu:P.underlying t=some (.slice el))(hz:P.cellsOf el≠0){b off len cap:Nat}{kk:IntKind}{k:Int}(h0:0<=k)(h1:k<len)(w:World):
  (Instr.indexAt t (.slice (some ⟨b,off,none⟩) len cap) (.int kk k)).run P w= .ok (.pointer (some ⟨b,off+k.toNat*P.cellsOf el,none⟩)) w:=by
 simp[Instr.indexAt,run_underlying hu,asIntOf,h0,h1,iP hz,Addr.add_lit]
theorem iI(h:Bh P c n nx sl hp a sl0 hp0 o gs){t:TypeId}{x i:Operand}(ho:o.op= .indexAddr t x i\/o.op= .index t x i){s1 s2:SV}(BA:Bn sl0 gs x=some s1)(AY:Bn sl0 gs i=some s2)
  (AP:(∃el,P.underlying t=some (.slice el))->o.op= .indexAddr t x i) (Xe:P.underlying t=some .string->o.op= .index t x i)
  (he:Vm P hp0 gs t s1 s2=some e) (hc:∀q∈e.bg,Cn.den c.ρ q):Aw P o c n nx sl hp gs a e:=by
 have DK:x∈o.op.operands:=by rcases ho with ho|ho<;>simp[ho,Op.operands]
 have Dl:i∈o.op.operands:=by rcases ho with ho|ho<;>simp[ho,Op.operands]
 have r1:=h.ch BA DK;have r2:=h.ch AY Dl;unfold Vm at he;split at he
 ·rename_i el k hu;have QJ:=AP ⟨el,hu⟩;have ex:(execOp a.eval o).run P c.w=((Instr.indexAt t (a.eval x) (a.eval i)).run P c.w).andThen λv w=> .ok (.value v) w:=by simp[execOp,QJ]
  split at he
  ·cases he
  rename_i hz;obtain⟨fk,Hw,_⟩:∃f,Rd c.w [a.eval i] [k.den c.ρ] f/\ ∀b∈f,c.ok b:=by
   generalize a.eval i=v at r2;cases r2 with
   |e h1 h2 _=>exact⟨_,h1,h2⟩
  split at he
  ·rename_i b g;split at he
   ·rename_i e0 sz g' c0 d hl;split at he
    ·rename_i hh;obtain⟨rfl,rfl⟩:=hh;simp at he;subst he;obtain⟨kk,kv,m,e1,e2,e3,e4,e5⟩:=BG hc;obtain⟨Hv,_⟩:=FC Hw e1;generalize hv:a.eval x=v at r1 ex;cases r1 with
     |own hK KY _=>
      obtain⟨_,_,N,q1,q2,_,_⟩:=h.eh b _ (Cv hl h.gs);obtain⟨xs,B9,AF,h0,AT⟩:=q1;rw[B9]at e3;simp only[AV.len,AV.int.injEq,true_and]at e3;rcases AT with⟨rfl,_⟩|⟨g9,cap,C,hH,_⟩
      ·simp at e3;omega
      ·refine Aw.pure h (v:= .pointer (some ⟨g9,kv.toNat*P.cellsOf el+0,none⟩)) ?_ (.cd hK hH e1 e2 (by omega) .nil) rfl;rw[KY]at hH;cases hH;rw[ex,Hv,OO hu hz e2 (by omega)];simp
    ·cases he
   ·rename_i g' c0 hl;split at he
    ·rename_i hh;subst hh;simp at he;subst he;obtain⟨kk,kv,m,e1,e2,e3,e4,e5⟩:=BG hc;obtain⟨Hv,_⟩:=FC Hw e1;generalize hv:a.eval x=v at r1 ex;cases r1 with
     |own hK KY _=>
      obtain⟨_,⟨f,q1,q2⟩,_,_⟩:=h.eh b _ (Cv hl h.gs);rcases O9 q1 e3 with⟨_,_,_,hm⟩|⟨b9,off9,len9,cap9,hH,hm⟩
      ·omega
      ·rw[KY]at hH;cases hH;rw[KY]at q1;refine Aw.pure h (v:= .pointer (some ⟨b9,off9+kv.toNat*P.cellsOf el+0,none⟩)) ?_ (.cz q1 q2 e1 e2 (by omega) e5 .nil) rfl;rw[ex,Hv,OO hu hz e2 (by omega)];simp
    ·cases he
   ·rename_i e0 sz dl g' ep c0 hl;split at he
    ·rename_i hh;obtain⟨rfl,rfl⟩:=hh;simp at he;subst he;obtain⟨kk,kv,m,e1,e2,e3,e4,e5⟩:=BG hc;obtain⟨Hv,_⟩:=FC Hw e1;generalize hv:a.eval x=v at r1 ex;cases r1 with
     |own hK KY _=>
      obtain⟨_,_,_,q1,_⟩:=h.eh b _ (Cv hl h.gs);obtain⟨_,_,⟨a9,d3,d4,_⟩|⟨g9,cap,C,ys,N1,hH,d4,_⟩⟩:=q1.inv
      ·rw[d4]at e3;simp[AV.len]at e3;omega
      ·rw[d4]at e3;simp only[AV.len,AV.int.injEq,true_and]at e3;refine Aw.pure h (v:= .pointer (some ⟨g9,kv.toNat*P.cellsOf el+0,none⟩)) ?_ (.cd hK hH e1 e2 (by omega) .nil) rfl;rw[KY]at hH;cases hH;rw[ex,Hv,OO hu hz e2 (by omega)];simp
    ·cases he
   ·rename_i e0 sz dl g' ep c0 ih oh uh hl;split at he
    ·rename_i hh;obtain⟨rfl,rfl⟩:=hh;simp at he;subst he;obtain⟨kk,kv,m,e1,e2,e3,e4,e5⟩:=BG hc;obtain⟨Hv,_⟩:=FC Hw e1;generalize hv:a.eval x=v at r1 ex;cases r1 with
     |own hK KY _=>obtain⟨_,_,_,⟨g9,cap,C,ys,_,_,_,_,hH,d4,_⟩,_⟩:=h.eh b _ (Cv hl h.gs);rw[d4]at e3;simp only[AV.len,AV.int.injEq,true_and]at e3;refine Aw.pure h (v:= .pointer (some ⟨g9,kv.toNat*P.cellsOf el+0,none⟩)) ?_ (.cd hK hH e1 e2 (by omega) .nil) rfl;rw[KY]at hH;cases hH;rw[ex,Hv,OO hu hz e2 (by omega)];simp
    ·cases he
   ·cases he
  ·rename_i y;simp at he;subst he;obtain⟨kk,kv,m,e1,e2,e3,e4,e5⟩:=BG hc;obtain⟨Hv,_⟩:=FC Hw e1;generalize hv:a.eval x=v at r1 ex;cases r1 with
   |e q1 q2 _=>
    rcases O9 q1 e3 with⟨_,_,_,hm⟩|⟨b9,off9,len9,cap9,rfl,hm⟩
    ·omega
    ·refine Aw.pure h (v:= .pointer (some ⟨b9,off9+kv.toNat*P.cellsOf el+0,none⟩)) ?_ (.cz q1 q2 e1 e2 (by omega) e5 .nil) rfl;rw[ex,Hv,OO hu hz e2 (by omega)];simp
  ·rename_i b g m pth y;split at he
   ·rename_i XA;simp at he;subst he;have hE:=Pl h.eh h.gs XA;obtain⟨kk,kv,mm,e1,e2,e3,e4,e5⟩:=BG hc;obtain⟨Hv,_⟩:=FC Hw e1;generalize hv:a.eval x=v at r1 ex;cases r1 with
    |via q1 q2 q3 _=>
     obtain⟨⟨f,p1,p2⟩,p3⟩:=q3 hE;rcases O9 p1 e3 with⟨_,_,_,hm⟩|⟨b9,off9,len9,cap9,rfl,hm⟩
     ·omega
     ·refine Aw.pure h (v:= .pointer (some ⟨b9,off9+kv.toNat*P.cellsOf el+0,none⟩)) ?_ (.vptr q1 q2 (λ_=>⟨b9,off9,len9,cap9,kk,kv,⟨f,p1,p2⟩,p3,e1,e2,by omega,e5,rfl⟩) .nil) rfl;rw[ex,Hv,OO hu hz e2 (by omega)];simp
   ·cases he
  ·simp at he;subst he;obtain⟨kk,kv,m,e1,e2,e3,e4,e5⟩:=BG hc;simp only[E.den,EL.den,AV.len,List.length_nil,AV.int.injEq,true_and]at e3;omega
  ·cases he
 ·rename_i k hu;have QJ:=Xe hu;obtain⟨fk,Hw,_⟩:∃f,Rd c.w [a.eval i] [k.den c.ρ] f/\ ∀b∈f,c.ok b:=by
   generalize a.eval i=v at r2;cases r2 with
   |e h1 h2 _=>exact⟨_,h1,h2⟩
  split at he
  ·rename_i y;simp at he;subst he;obtain⟨kk,kv,s,e1,e2,e3,e4⟩:=BG hc;obtain⟨Hv,_⟩:=FC Hw e1;generalize hv:a.eval x=v at r1;cases r1 with
   |e q1 q2 _=>
    obtain⟨bs,rfl,rfl,hle⟩:=Py q1 e2;have AI:kv.toNat<bs.data.toList.length:=by omega
    have W0:kv.toNat<bs.size:=by simpa using AI
    refine Aw.pure h (v:= .int .u8 (bs[kv.toNat]).toNat) ?_ (.cu ?_) rfl
    ·simp[execOp,QJ,Instr.index,hv,Hv,asIntOf,run_underlying hu,e3,W0]
    ·simp only[E.den,e1,e2,AV.sidx];have:bs.data.toList[kv.toNat]?=some (bs[kv.toNat]):=by
      rw[Bl AI];simp[ByteArray.getElem_eq_getElem_data]
     rw[this];refine .int ?_ .nil;rw[Nj];have:=(bs[kv.toNat]).toNat_lt;simp[IntKind.min,IntKind.max,IntKind.signed,IntKind.bits];omega
  ·cases he
 ·cases he
theorem wC(h:Bh P c n nx sl hp a sl0 hp0 o gs){t:TypeId}{x i:Operand}(ho:o.op= .indexAddr t x i)(Lb:P.underlying t≠some .string)(he:Bz P sg sl0 hp0 nv nx gs o=some e)(hc:∀q∈e.bg,Cn.den c.ρ q):Aw P o c n nx sl hp gs a e:=by
 simp only[Bz,ho,As]at he;obtain⟨s1,BA,s2,AY,he⟩:=he;split at he
 ·cases he
 exact iI h (.inl ho) BA AY (λ_=>ho) (λhh=>absurd hh Lb) he hc
theorem x8(h:Bh P c n nx sl hp a sl0 hp0 o gs){t:TypeId}{x i:Operand}(ho:o.op= .index t x i)(Lb:P.underlying t=some .string)(he:Bz P sg sl0 hp0 nv nx gs o=some e)(hc:∀q∈e.bg,Cn.den c.ρ q):Aw P o c n nx sl hp gs a e:=by
 simp only[Bz,ho,As]at he;obtain⟨s1,BA,s2,AY,he⟩:=he;split at he
 ·exact iI h (.inr ho) BA AY (λ⟨el,hh⟩=>by rw[Lb]at hh;cases hh) (λ_=>ho) he hc
 ·cases he
theorem yC(h:Bh P c n nx sl hp a sl0 hp0 o gs){x:Operand}{i:Nat}(ho:o.op= .extract x i)(he:Bz P sg sl0 hp0 nv nx gs o=some e)(hc:∀q∈e.bg,Cn.den c.ρ q):Aw P o c n nx sl hp gs a e:=by
 have hm:x∈o.op.operands:=by simp[ho,Op.operands]
 simp only[Bz,ho,As]at he;obtain⟨s,hs,he⟩:=he;have hr:=h.ch hs hm;generalize hv:a.eval x=v at hr;have ex:∀(as_:List Value) u,v= .tuple as_.toArray->as_[i]?=some u->(execOp a.eval o).run P c.w= .ok (.value u) c.w:=λas_ u Xz hu=>by simp[execOp,ho,Instr.extract,hv,Xz,hu]
 split at he
 ·rename_i vs;obtain⟨s2,AY,rfl⟩:=Aq.1 he;cases hr with
  |tup r1 r9=>obtain⟨u,hu,r⟩:=r1.get AY;exact Aw.pure h (ex _ u rfl hu) r rfl
 ·rename_i y;simp at he;subst he;cases hr with
  |e q1 q2 _=>
   have hd:(y.den c.ρ).proj i≠ .undef:=BG hc;cases hy:y.den c.ρ<;>simp only[hy,AV.proj,ne_eq,not_true_eq_false]at hd;rename_i cs;obtain⟨as_,rfl,r1⟩:=zyU q1 hy;cases Wo:cs[i]? with
   |none=>simp[Wo]at hd
   |some z=>obtain⟨u,g,hu,hg,Dm⟩:=r1.at Wo;exact Aw.pure h (ex as_ u rfl hu) (.e (f:=g) (by simpa[E.den,hy,AV.proj,Wo]using Dm) (λb hb=>q2 b (hg b hb)) .nil) rfl
 ·cases he
theorem zwz(h:Bh P c n nx sl hp a sl0 hp0 o gs){x:Operand}{t:TypeId}(ho:o.op= .unOp .not t x)(he:Bz P sg sl0 hp0 nv nx gs o=some e)(hc:∀q∈e.bg,Cn.den c.ρ q):Aw P o c n nx sl hp gs a e:=by
 have hm:x∈o.op.operands:=by simp[ho,Op.operands]
 simp only[Bz,ho,As,Aq]at he;obtain⟨s,hs,y,hy,he⟩:=he;obtain⟨f,q1,_⟩:=G7 (h.ch hs hm) hy;split at he
 ·subst he;have hv:=HF q1 rfl;rename_i b;exact Aw.pure h (v:= .bool (!b)) (by simp[execOp,ho,hv,Op.unary]) (.cu (.bool .nil)) rfl
 ·subst he;have hd:(y.den c.ρ).dz≠ .undef:=BG hc;cases Bo:y.den c.ρ<;>simp only[Bo,AV.dz,ne_eq,not_true_eq_false]at hd;have hv:=HF q1 Bo;rename_i b;exact Aw.pure h (v:= .bool (!b)) (by simp[execOp,ho,hv,Op.unary]) (.cu (by simp only[E.den,Bo,AV.dz];exact .bool .nil)) rfl
theorem zwD(h:Bh P c n nx sl hp a sl0 hp0 o gs){x:Operand}{t:TypeId}(ho:o.op= .unOp .neg t x)(he:Bz P sg sl0 hp0 nv nx gs o=some e)(hc:∀q∈e.bg,Cn.den c.ρ q):Aw P o c n nx sl hp gs a e:=by
 have hm:x∈o.op.operands:=by simp[ho,Op.operands]
 simp only[Bz,ho,As,Aq]at he;obtain⟨s,hs,y,hy,rfl⟩:=he;obtain⟨f,q1,_⟩:=G7 (h.ch hs hm) hy;have hd:(y.den c.ρ).gz≠ .undef:=BG hc;cases Bo:y.den c.ρ<;>simp only[Bo,AV.gz,ne_eq,not_true_eq_false]at hd;rename_i k m;obtain⟨hv,_⟩:=FC q1 Bo;exact Aw.pure h (v:= .int k (k.wrap (0-m))) (by simp[execOp,ho,hv,Op.unary,Op.intArith]) (.cu (by simp only[E.den,Bo,AV.gz];exact .int (ZH _ _) .nil)) rfl
theorem lX{L:List Operand}{sl0:Nat->SV}{gs:Gd}(h:∀x s,Bn sl0 gs x=some s->x∈L->SR c [s] [a.eval x]):∀{xs:List Operand} {ss:List SV},(∀x∈xs,x∈L)->xs.mapM (Bn sl0 gs)=some ss->SR c ss (xs.map a.eval)
 | [],ss,_,hm=>by simp at hm;subst hm;exact .nil
 |x::xs,ss,hL,hm=>by rw[List.mapM_cons]at hm;simp only[Option.bind_eq_bind,As]at hm;obtain⟨s,hs,ss',FU,hm⟩:=hm;simp at hm;subst hm;exact(h x s hs (hL x (by simp))).app (lX h (λy hy=>hL y (by simp[hy])) FU)
theorem xE(h:Bh P c n nx sl hp a sl0 hp0 o gs){f:FuncId}{fst caps:Array Operand}(ho:o.op= .makeFunc (.func f) fst caps)(he:Bz P sg sl0 hp0 nv nx gs o=some e):Aw P o c n nx sl hp gs a e:=by
 simp only[Bz,ho]at he;split at he
 ·rename_i hf;obtain⟨ss,FU,rfl⟩:=Aq.1 he;have hf:fst= #[]:=by simpa using hf
  have r:=lX (a:=a) (c:=c) (L:=caps.toList) (λx s hx hm=>h.ch hx (by simp only[ho,Op.operands,Array.mem_append];exact .inr (Array.mem_toList_iff.1 hm))) (λx hx=>hx) FU;refine Aw.pure h (v:= .func (.func f) #[] (caps.toList.map a.eval).toArray) ?_ (.fn (by rw[Bp.ak];exact r) .nil) rfl;simp[execOp,ho,Instr.makeFunc,hf];apply Array.ext';simp
 ·cases he
end
section
variable {P:Program} {c:Cx} {n nx:Nat} {sl sl0:Nat->SV} {hp hp0:Nat->Option Ah} {a:Act} {o:Oper} {gs:Gd} {e:A2} {sg:BR} {nv:Nat}
theorem Bh.jg(h:Bh P c n nx sl hp a sl0 hp0 o gs){x:Operand}{s:SV}(hs:Bn sl0 gs x=some s)(hm:x∈o.op.operands){y:E}(hy:Bj hp0 gs AW s=some y):
  ∃f,Rd c.w [a.eval x] [y.den c.ρ] f/\ ∀b∈f,c.dq (BN hp0 gs (AW+1) [s]) b:=Hd h.eh h.gs AW hy (h.ch hs hm) AW (Ay _)
theorem zwc(h:Bh P c n nx sl hp a sl0 hp0 o gs){x:Operand}{t:TypeId}{cl:Call}(ho:o.op= .call cl)(AF:cl.callee= .builtin .len)(CD:cl.args.toList=[x])(Dv:cl.argTypes.toList=[t])(he:Bz P sg sl0 hp0 nv nx gs o=some e)(hc:∀q∈e.bg,Cn.den c.ρ q):Aw P o c n nx sl hp gs a e:=by
 have Au:cl.args= #[x]:=by apply Array.ext';simp[CD]
 have Fq:cl.argTypes= #[t]:=by apply Array.ext';simp[Dv]
 have hm:x∈o.op.operands:=by simp[ho,Op.operands,Call.operands,AF,Au]
 simp only[Bz,ho,AF,CD,Dv,As]at he;obtain⟨s,hs,he⟩:=he;unfold mX at he;have ex:(execOp a.eval o).run P c.w=((Builtin.len_ #[t] o.type #[a.eval x]).run P c.w).andThen λv w=> .ok (.value v) w:=by simp[execOp,ho,resolve,AF,Au,Fq,invoke,builtin]
 split at he
 ·rename_i el hu;obtain⟨y,hy,rfl⟩:=Aq.1 he;obtain⟨f,q1,q2⟩:=h.jg hs hm hy;have hd:(y.den c.ρ).len≠ .undef:=BG hc;cases Bo:y.den c.ρ<;>simp only[Bo,AV.len,ne_eq,not_true_eq_false]at hd;rename_i xs;have hl:(y.den c.ρ).len= .int .i64 (xs.length:Int):=by rw[Bo];rfl
  have BS:EV .i64 (xs.length:Int):=by
   rw[Nj];rcases q1.kind with hh|hh|hh|hh|hh|hh|hh|hh|hh|hh
   all_goals first
    |(obtain⟨_,_,_,hh,_⟩:=hh;rw[Bo]at hh;cases hh;done)
    |(obtain⟨_,_,hh,_⟩:=hh;rw[Bo]at hh;cases hh;done)
    |skip
   ·obtain⟨_,_,_,hh,_⟩:=hh;rw[Bo]at hh;cases hh;simp[IntKind.min,IntKind.max,IntKind.signed,IntKind.bits]
   ·obtain⟨_,_,_,_,_,_,_,_,_,_,_,_,hh,_,_,_,hle,hlen,_⟩:=hh;rw[Bo]at hh;cases hh;simp[IntKind.min,IntKind.max,IntKind.signed,IntKind.bits];omega
   all_goals first
    |(obtain⟨_,_,_,hh,_⟩:=hh;rw[Bo]at hh;cases hh;done)
    |(obtain⟨_,_,_,_,_,_,_,hh,_⟩:=hh;rw[Bo]at hh;cases hh;done)
    |(obtain⟨_,_,_,_,hh,_⟩:=hh;rw[Bo]at hh;cases hh;done)
    |(obtain⟨_,hh,_⟩:=hh;rw[Bo]at hh;cases hh;done)
  refine Aw.pure h (v:= .int .i64 xs.length) ?_ (.cu (by simp only[E.den,Bo,AV.len];exact .int BS .nil)) rfl;rcases O9 q1 hl with⟨p,q,hv,Dw⟩|⟨b,o',k,q,hv,Dw⟩
  ·rw[ex,hv,Dw];simp[Builtin.len_,run_underlying hu,goInt]
  ·rw[ex,hv,Dw];simp[Builtin.len_,run_underlying hu,goInt]
 ·rename_i hu;obtain⟨y,hy,rfl⟩:=Aq.1 he;obtain⟨f,q1,q2⟩:=h.jg hs hm hy;have hd:(y.den c.ρ).slen≠ .undef:=BG hc;cases Bo:y.den c.ρ<;>simp only[Bo,AV.slen,ne_eq,not_true_eq_false]at hd;obtain⟨bs,hv,rfl,hle⟩:=Py q1 Bo;refine Aw.pure h (v:= .int .i64 bs.size) ?_ (.cu ?_) rfl
  ·rw[ex,hv];simp[Builtin.len_,run_underlying hu,goInt]
  ·simp only[E.den,Bo,AV.slen];have:(bs.data.toList.length:Int)=(bs.size:Int):=by simp
   rw[this];refine .int ?_ .nil;rw[Nj];simp[IntKind.min,IntKind.max,IntKind.signed,IntKind.bits];omega
 ·cases he
theorem yA(h:Bh P c n nx sl hp a sl0 hp0 o gs){x:Operand}{src dst:TypeId}{k0 k:IntKind}(ho:o.op= .convert src dst x)(h1:P.underlying src=some (.int k0))(h2:P.underlying dst=some (.int k))(he:Bz P sg sl0 hp0 nv nx gs o=some e)(hc:∀q∈e.bg,Cn.den c.ρ q):Aw P o c n nx sl hp gs a e:=by
 have hm:x∈o.op.operands:=by simp[ho,Op.operands]
 simp only[Bz,ho,As]at he;obtain⟨s,hs,he⟩:=he;simp only[R6,h1,h2,Aq]at he;obtain⟨y,hy,rfl⟩:=he;obtain⟨f,q1,_⟩:=G7 (h.ch hs hm) hy;have hd:(y.den c.ρ).conv k≠ .undef:=BG hc;cases Bo:y.den c.ρ<;>simp only[Bo,AV.conv,ne_eq,not_true_eq_false]at hd;rename_i k1 m;obtain⟨hv,_⟩:=FC q1 Bo;exact Aw.pure h (v:= .int k (k.wrap m)) (by simp[execOp,ho,hv,convert,run_underlying h1,run_underlying h2,Conv.intToInt]) (.cu (by simp only[E.den,Bo,AV.conv];exact .int (ZH _ _) .nil)) rfl
theorem yH(h:Bh P c n nx sl hp a sl0 hp0 o gs){x:Operand}{src dst:TypeId}(ho:o.op= .convert src dst x)(h1:P.underlying src=some .string)(h2:P.underlying dst=some .string)(he:Bz P sg sl0 hp0 nv nx gs o=some e)(hc:∀q∈e.bg,Cn.den c.ρ q):Aw P o c n nx sl hp gs a e:=by
 have hm:x∈o.op.operands:=by simp[ho,Op.operands]
 simp only[Bz,ho,As]at he;obtain⟨s,hs,he⟩:=he;simp only[R6,h1,h2,Aq]at he;obtain⟨y,hy,rfl⟩:=he;obtain⟨f,q1,_⟩:=G7 (h.ch hs hm) hy;have hd:(y.den c.ρ).slen≠ .undef:=BG hc;cases hl:y.den c.ρ<;>simp only[hl,AV.slen,ne_eq,not_true_eq_false]at hd;obtain⟨bs,hv,hle,WY⟩:=Py q1 hl;exact Aw.pure h (v:= .string bs) (by simp[execOp,ho,hv,convert,run_underlying h1,run_underlying h2]) (.cu (by rw[hl,hle];exact Rd.str WY .nil)) rfl
theorem mT{w:World}:∀{ys:List AV} {s:List UInt8} {cs:List Value} {f:List Nat},Lr ys=some s->Rd w cs (AA ys) f-> ∃ns:List Int,cs=ns.map (Value.int .u8)/\s=ns.map (λn=>UInt8.ofNat n.toNat)/\ns.length=ys.length
 | [],s,cs,f,h,hr=>by have:AA ([]:List AV)=[]:=rfl;rw[this]at hr;cases hr;cases h;exact⟨[],rfl,rfl,rfl⟩
 |y::ys,s,cs,f,h,hr=>by
  unfold Lr at h;split at h
  ·rename_i h0;cases h0
  ·rename_i n xs he;cases he;obtain⟨s',h1,rfl⟩:=Aq.1 h;have CL:Rd w cs (.int .u8 n::AA ys) f:=by simpa[AA,AV.cells]using hr
   cases CL with
   |int hk Dy=>obtain⟨ns,rfl,rfl,hl⟩:=mT h1 Dy;exact⟨n::ns,rfl,rfl,by simp[hl]⟩
  ·cases h
theorem xX(h:Bh P c n nx sl hp a sl0 hp0 o gs){x:Operand}{src dst el:TypeId}(ho:o.op= .convert src dst x)(h1:P.underlying src=some (.slice el))(h2:P.underlying dst=some .string)(he:Bz P sg sl0 hp0 nv nx gs o=some e)(hc:∀q∈e.bg,Cn.den c.ρ q):Aw P o c n nx sl hp gs a e:=by
 have hm:x∈o.op.operands:=by simp[ho,Op.operands]
 simp only[Bz,ho,As]at he;obtain⟨s,hs,he⟩:=he;simp only[R6,h1,h2]at he;split at he
 ·rename_i hu;obtain⟨y,hy,rfl⟩:=Aq.1 he;obtain⟨f,q1,q2⟩:=h.jg hs hm hy;have hd:(y.den c.ρ).text≠ .undef:=BG hc;cases Bo:y.den c.ρ<;>simp only[Bo,AV.text,ne_eq,not_true_eq_false]at hd;rename_i xs;split at hd
  ·rename_i t ht;split at hd
   ·rename_i hle;have B4:(E.text y).den c.ρ= .str t:=by
     simp only[E.den,Bo,AV.text,ht];rw[if_pos hle]
    have fin:∀ns:List Int,t=ns.map (λn=>UInt8.ofNat n.toNat)->ns.length=xs.length->(convert src dst (a.eval x)).run P c.w= .ok (.string (ns.foldl (λr n=>r.push (UInt8.ofNat n.toNat)) ByteArray.empty)) c.w->Aw P o c n nx sl hp gs a {bg:=[.dfd (.text y)],val:= .e (.text y)}:=λns e1 e2 e3=>by
     have e4:(ns.foldl (λr n=>r.push (UInt8.ofNat n.toNat)) ByteArray.empty)=⟨t.toArray⟩:=by
      rw[foldl_push_bytes,e1];simp[ByteArray.empty,ByteArray.emptyWithCapacity]
      try rfl
     rw[e4]at e3;refine Aw.pure h (v:= .string ⟨t.toArray⟩) (by simp[execOp,ho,e3]) (.cu ?_) rfl;rw[B4];have BY:(ByteArray.mk t.toArray).size<=9223372036854775807:=by simp only[ByteArray.size,List.size_toArray];rw[e1,List.length_map];omega
     have:=Rd.str (w:=c.w) (s:=⟨t.toArray⟩) BY .nil;simpa using this
    rw[Bo]at q1;rcases q1.kind with hh|hh|hh|hh|hh|hh|hh|hh|hh|hh
    all_goals first
     |(obtain⟨_,_,_,hh,_⟩:=hh;cases hh;done)
     |(obtain⟨_,_,hh,_⟩:=hh;cases hh;done)
     |skip
    ·obtain⟨p,q,hv,hx,_⟩:=hh;cases hx;cases ht;refine fin [] rfl rfl ?_;rw[hv];cases p with
     |none=>rw[run_convert_bytes_nil c.w src el h1 hu _ _ dst h2];rfl
     |some ad=>rw[run_convert_bytes_string c.w src dst el _ 0 q h1 hu h2,run_bytesToString c.w ad 0 q [] (by simp[loadCells,loadCellsFrom])]
    ·obtain⟨b,o',k,q,ys,cs,C,t',fz,sz,f1,hv,hx,_,hb,_,qM,hlen,_,_,Bi,hr⟩:=hh;cases hx;obtain⟨ns,rfl,e1,e2⟩:=mT ht hr.2;refine fin ns e1 e2 ?_;have hl:ns.length=k:=by omega
     have B2:∀i,i<k->c.w.cell? ⟨b,o'+i,none⟩=some (.int .u8 (ns.getD i 0)):=λi hi=>by
      have Fm:i<ns.length:=by omega
      have:=Bi i (.int .u8 ns[i]) (by simp[Fm]);rw[D5 hb,this];simp[Fm]
     have:=run_convert_bytes_arg c.w src el h1 hu b o' k q ns hl B2 dst h2;rw[hv,this];congr 2;rw[foldl_push_bytes];simp[strOfNums,ByteArray.empty,ByteArray.emptyWithCapacity]
     try rfl
    all_goals first
     |(obtain⟨_,_,_,hh,_⟩:=hh;cases hh;done)
     |(obtain⟨_,_,_,_,_,_,_,hh,_⟩:=hh;cases hh;done)
     |(obtain⟨_,_,_,_,hh,_⟩:=hh;cases hh;done)
     |(obtain⟨_,hh,_⟩:=hh;cases hh;done)
   ·exact absurd rfl hd
  ·exact absurd rfl hd
 ·cases he
theorem jS{ρ:List AV}{x:E}{b:Bool}{gs:Gd}(h1:x.den ρ= .bool b)(h2:Bc ρ gs):Bc ρ ((x,b)::gs):=by
 intro g hg;rcases Ad.1 hg with rfl|hg
 ·exact h1
 ·exact h2 g hg
theorem zt4(h:Bh P c n nx sl hp a sl0 hp0 o gs){x y z:Operand}(ho:o.op= .pick x y z)(he:Bz P sg sl0 hp0 nv nx gs o=some e)(hc:∀q∈e.bg,Cn.den c.ρ q):Aw P o c n nx sl hp gs a e:=by
 have DK:x∈o.op.operands:=by simp[ho,Op.operands]
 have Dl:y∈o.op.operands:=by simp[ho,Op.operands]
 have dA:z∈o.op.operands:=by simp[ho,Op.operands]
 simp only[Bz,ho,As]at he;obtain⟨s,hs,he⟩:=he;have hr:=h.ch hs DK;split at he
 ·rename_i q;have ex:∀b,a.eval x= .bool b->(execOp a.eval o).run P c.w= .ok (.value (if b then a.eval y else a.eval z)) c.w:=λb hb=>by
   simp[execOp,ho,hb,asBool]
  obtain⟨f,q1⟩:∃f,Rd c.w [a.eval x] [q.den c.ρ] f:=by
   generalize a.eval x=v at hr;cases hr with
   |e h1 _ _=>exact⟨_,h1⟩
  unfold mO at he;split at he
  ·obtain⟨s',Bd,rfl⟩:=Aq.1 he;exact Aw.pure h (v:=a.eval y) (ex true (HF q1 rfl)) (h.ch Bd Dl) rfl
  ·obtain⟨s',Bd,rfl⟩:=Aq.1 he;exact Aw.pure h (v:=a.eval z) (ex false (HF q1 rfl)) (h.ch Bd dA) rfl
  ·split at he
   ·rename_i y' z' hy hz;simp at he;subst he;simp only[As]at hy hz;obtain⟨sy,rK,hy⟩:=hy;obtain⟨sz,BY,hz⟩:=hz;have hd:(q.den c.ρ).dz≠ .undef:=BG hc;cases hq:q.den c.ρ<;>simp only[hq,AV.dz,ne_eq,not_true_eq_false]at hd;rename_i b;cases b with
    |true=>have r:=Uz (a:=a) rK (λt ht=>by subst ht;rw[h.sl t Dl];exact h.rel.cv t) (jS hq h.gs);obtain⟨f',g1,g2⟩:=G7 r hy;exact Aw.pure h (v:=a.eval y) (ex true (HF q1 hq)) (.e (f:=f') (by simpa[E.den,hq,AV.cond]using g1) g2 .nil) rfl
    |false=>have r:=Uz (a:=a) BY (λt ht=>by subst ht;rw[h.sl t dA];exact h.rel.cv t) (jS hq h.gs);obtain⟨f',g1,g2⟩:=G7 r hz;exact Aw.pure h (v:=a.eval z) (ex false (HF q1 hq)) (.e (f:=f') (by simpa[E.den,hq,AV.cond]using g1) g2 .nil) rfl
   ·cases he
 ·cases he
end
section
variable {P:Program} {c:Cx} {n nx:Nat} {sl sl0:Nat->SV} {hp hp0:Nat->Option Ah} {a:Act} {o:Oper} {gs:Gd} {e:A2} {sg:BR} {nv:Nat}
theorem YV{w:World}{v:Value}{x:AV}{f:List Nat}(h:Rd w [v] [x] f)(h1:∀cs,x≠ .agg cs)(h2:∀cs,x≠ .tup cs):v.oneCell'=true:=by
 cases h<;>first
  |rfl
  |exact absurd rfl (h1 _)
  |exact absurd rfl (h2 _)
theorem one_cells{v:Value}(h:v.oneCell'=true):v.cells= #[v]:=by cases v<;>first|rfl|(simp[Value.oneCell']at h)
theorem US{t:TypeId}{s:SV}{v:Value}{cs:List SV}{ck:List Cn}(h:SR c [s] [v])(hc:Pq P t s=some (cs,ck))(hk:∀q∈ck,q.den c.ρ):
  SR c cs v.cells.toList/\(∀u∈v.cells.toList,u.oneCell'=true):=by
 unfold Pq at hc;split at hc
 ·split at hc
  ·simp at hc;obtain⟨rfl,rfl⟩:=hc;cases h with
   |agg h1 h2 _=>exact⟨by simpa[Value.cells]using h2,by simpa[Value.cells]using h1⟩
  ·rename_i x;simp at hc;obtain⟨rfl,rfl⟩:=hc;cases h with
   |e h1 h2 _=>
    obtain⟨as_,has,hl⟩:=BG hk;obtain⟨vs,rfl,h3,h4⟩:=Jc h1 has;refine⟨?_,by simpa[Value.cells]using h3⟩;have hlen:=h4.len;have key:∀k,k<=as_.length->SR c ((List.range k).map λj=>SV.e (.fld x j 1 false)) (vs.take k):=by
     intro k
     induction k with
     |zero=>intro _;simpa using SR.nil
     |succ k ih=>
      intro hk;have BH:k<as_.length:=by omega
      obtain⟨u,g,hu,hg,hr⟩:=h4.at (show as_[k]?=some as_[k] by simp[BH])
      rw[List.range_succ,List.map_append,List.take_succ_eq_append_getElem (by omega)];refine(ih (by omega)).app ?_;have Fs:vs[k]'(by omega)=u:=by simpa[show k<vs.length by omega]using hu
      rw[Fs];exact .e (f:=g) (by simpa[E.den,AV.fld,has,AV.cells,BH]using hr) (λb hb=>h2 b (hg b hb)) .nil
    have:=key as_.length (Ay _);rw[<-hlen,List.take_length,hlen,hl]at this;simpa[Value.cells]using this
  ·cases hc
 ·split at hc
  ·rename_i x;simp at hc;obtain⟨rfl,rfl⟩:=hc;cases h with
   |e h1 h2 _=>
    have hq:(∀cs,x.den c.ρ≠ .agg cs)/\ ∀cs,x.den c.ρ≠ .tup cs:=by
     cases x<;>first
      |exact(BG hk:Cn.den c.ρ (.cells _ 1))
      |exact⟨by simp[E.den],by simp[E.den]⟩
    have P1:=YV h1 hq.1 hq.2;rw[one_cells P1];exact⟨.e h1 h2 .nil,by simpa using P1⟩
  ·cases hc
  ·cases hc
  ·cases hc
  ·cases hc
  ·cases hc
  ·cases hc
  ·cases hc
  ·cases hc
  ·simp at hc;obtain⟨rfl,rfl⟩:=hc;have P1:v.oneCell'=true:=by
    cases h<;>first|rfl|(rename_i hh _ _ _ _ _;exact absurd rfl (hh _))|skip
    all_goals first
     |rfl
     |exact(show∀(i:Nat),SV.lent _=SV.lent i->False from by assumption) _ rfl|>.elim
     |exact(show∀(t g n:Nat) (p:L8) (x:E),SV.via _ _ _ _ _=SV.via t g n p x->False from by assumption) _ _ _ _ _ rfl|>.elim
     |exact(show∀(t g n:Nat) (p:L8) (x i:E) (sz o:Nat),SV.vptr _ _ _ _ _ _ _ _=SV.vptr t g n p x i sz o->False from by assumption) _ _ _ _ _ _ _ _ rfl|>.elim
     |(exfalso;simp_all;done)
   rw[one_cells P1];exact⟨h,by simpa using P1⟩
theorem zy0(h:Bh P c n nx sl hp a sl0 hp0 o gs)(ob:Obj)(hv:Value):L3 c (c.new nx ob hv []) nx:=
 ⟨rfl,rfl,rfl,rfl,λt ht=>ht.imp id (λhh=>by subst hh;exact⟨Ay _,by simp[Bx]⟩)⟩
theorem LF(h:Bh P c n nx sl hp a sl0 hp0 o gs): ¬c.U nx:=h.new nx (Ay _) (by omega)
theorem Aw.box(h:Bh P c n nx sl hp a sl0 hp0 o gs){ty:TypeId}{g:Bool}{cs:List SV}{v:Value}{ck:List Cn}(hr:(execOp a.eval o).run P c.w= .ok (.value (.pointer (some ⟨c.w.heap.size,0,none⟩))) (c.w.alloc (.cells v.cells ty)))
  (hs:SR c cs v.cells.toList) (h1:∀u∈v.cells.toList,u.oneCell'=true):Aw P o c n nx sl hp gs a {bg:=ck,val:= .ca nx 0,a6:=[(nx,CC gs (.box ty g cs))]}:=by
 intro next Q hk
 unfold Oper.wp;rw[hr,Oper.upon_value];have hU:=LF h;have keep:DD c (c.new nx (.cells v.cells ty) (.pointer (some ⟨c.w.heap.size,0,none⟩)) []):=Cx.fy (λg hg=>hU (h.rel.bc _ _ hg));have hH:(c.new nx (.cells v.cells ty) (.pointer (some ⟨c.w.heap.size,0,none⟩)) []).H nx 0= .pointer (some ⟨c.w.heap.size,0,none⟩):=by simp[Cx.new]
 have hK:(c.new nx (.cells v.cells ty) (.pointer (some ⟨c.w.heap.size,0,none⟩)) []).K nx 0:= .inr ⟨rfl,rfl⟩;have hrel:=h.rel.new hU (.cells v.cells ty) (.pointer (some ⟨c.w.heap.size,0,none⟩)) (.box ty g cs) gs h.gs (by intros;simp)
  ⟨c.w.heap.size,v.cells,hK,hH,by simp[Cx.new],by simp[Cx.new],heap_alloc_new _ _,h1,hs.keep keep⟩
 exact hk _ _ (zy0 h _ _) (hrel.put ((SR.ca hK hH .nil).mkGd gs h.gs) o.dst)
theorem zQ(h:Bh P c n nx sl hp a sl0 hp0 o gs){t:TypeId}(ho:o.op= .alloc t)(he:Bz P sg sl0 hp0 nv nx gs o=some e)(hc:∀q∈e.bg,Cn.den c.ρ q):Aw P o c n nx sl hp gs a e:=by
 simp only[Bz,ho,As]at he;obtain⟨z,⟨i,hi,hz⟩,s,hs,⟨cs,ck⟩,Bi,he⟩:=he;split at he
 ·cases he
 ·split at he
  ·cases he
  ·rename_i Ip;have Ip:ck=[]:=by simpa using Ip
   simp at he;subst he;have Bd:ED z=some s:=by simpa[nO,hi,hz]using hs
   obtain⟨q1,q2⟩:=US (U2 (c:=c) Bd) Bi (by simp[Ip]);refine Aw.box h (v:=z) ?_ q1 q2;simp[execOp,ho,Instr.alloc,zeroValue,typeInfo,hi,hz,newVar,newRow]
theorem zwB(h:Bh P c n nx sl hp a sl0 hp0 o gs){t:TypeId}{x:Operand}(ho:o.op= .box t x)(he:Bz P sg sl0 hp0 nv nx gs o=some e)(hc:∀q∈e.bg,Cn.den c.ρ q):Aw P o c n nx sl hp gs a e:=by
 have hm:x∈o.op.operands:=by simp[ho,Op.operands]
 simp only[Bz,ho,As]at he;obtain⟨s,hs,⟨cs,ck⟩,Bi,he⟩:=he;split at he
 ·cases he
 ·simp at he;subst he;obtain⟨q1,q2⟩:=US (h.ch hs hm) Bi hc;refine Aw.box h (v:=a.eval x) ?_ q1 q2;simp[execOp,ho,Instr.box,newVar,newRow]
end
section
variable {P:Program} {c:Cx} {n nx:Nat} {sl sl0:Nat->SV} {hp hp0:Nat->Option Ah} {a:Act} {o:Oper} {gs:Gd} {e:A2} {sg:BR} {nv:Nat}
def setVs{α:Type}(cs:List α)(o:Nat)(vs:List α):List α:=cs.take o++vs++cs.drop (o+vs.length)
theorem O3{α:Type}(cs vs:List α)(o:Nat)(h:o+vs.length<=cs.length)(i:Nat):(setVs cs o vs)[i]?=if o<=i/\i<o+vs.length then vs[i-o]? else cs[i]?:=by
 unfold setVs;have ht:(cs.take o).length=o:=by rw[A1];omega
 rw[List.append_assoc];by_cases h1:i<o
 ·rw[if_neg (by omega),List.getElem?_append_left (by omega),List.getElem?_take,if_pos h1]
 ·rw[List.getElem?_append_right (by omega),ht];by_cases h2:i<o+vs.length
  ·rw[if_pos (by omega),List.getElem?_append_left (by omega)]
  ·rw[if_neg (by omega),List.getElem?_append_right (by omega),List.getElem?_drop];congr 1;omega
theorem O8{α:Type}(cs vs:List α)(o:Nat)(h:o+vs.length<=cs.length):(setVs cs o vs).length=cs.length:=by simp[setVs];omega
theorem SR.setVs{cs vs:List SV}{C V:List Value}{k:Nat}(h:SR c cs C)(hv:SR c vs V):SR c (PL cs k vs) (Go.Proofs.YtkpifpljpoochaaGreatDoor.setVs C k V):=by unfold PL Go.Proofs.YtkpifpljpoochaaGreatDoor.setVs;have hl:=hv.len;rw[<-hl];exact((h.split k).1.app hv).app (h.split _).2
theorem kM(vs:List Value):∀(k off:Nat) (C:Array Value),off+k+vs.length<=C.size->
  ((vs.zipIdx k).foldl (λcs (p:Value × Nat)=>cs.setIfInBounds (off+p.2) p.1) C).toList=setVs C.toList (off+k) vs:=by
 induction vs with
 |nil=>intro k off C _;simp[setVs]
 |cons v vs ih=>
  intro k off C h;simp only[Ao]at h;simp only[List.zipIdx_cons,List.foldl_cons];rw[ih (k+1) off _ (by simp;omega)];apply List.ext_getElem?;intro i;rw[O3 _ _ _ (by simp;omega),O3 _ _ _ (by simp;omega)];simp only[Array.toList_setIfInBounds,List.getElem?_set,Ao,Cc];by_cases h1:i=off+k
  ·subst h1;rw[if_neg (by omega),if_pos rfl,if_pos (by omega),if_pos (by omega)];simp
  ·by_cases h2:off+(k+1)<=i/\i<off+(k+1)+vs.length
   ·rw[if_pos h2,if_pos (by omega),show i-(off+k)=(i-(off+(k+1)))+1 by omega,List.getElem?_cons_succ]
   ·rw[if_neg h2,if_neg (by omega),if_neg (by omega)]
theorem YJ{b off:Nat}{t:TypeId}:∀(vs:List Value) (i:Nat) (w:World) (C:Array Value),w.heap[b]?=some (.cells C t (0,0))->off+i+vs.length<=C.size->(∀v∈vs,v.oneCell'=true)->
  (storeCells ⟨b,off,none⟩ vs i).run P w= .ok () (putCells w b (off+i) vs)
 | [],i,w,C,_,_,_=>by simp[storeCells,putCells]
 |v::vs,i,w,C,hb,hl,h1=>by
  simp only[Ao]at hl;have hi:off+i<C.size:=by omega
  have B2:w.cell? ⟨b,off+i,none⟩=some C[off+i]:=by simp[World.cell?,hb,hi]
  have WD:w.frozen? ⟨b,off+i,none⟩=false:=by simp[World.frozen?,hb]
  have G1:(store ((⟨b,off,none⟩:Addr).add i) v).run P w= .ok () (w.setCell ⟨b,off+i,none⟩ v):=by rw[Addr.add_lit,run_store P w _ v _ (h1 v (by simp)),B2];simp[WD]
  have h2:=heap_setCell_same w b (off+i) C t v hb;have ih:=YJ (off:=off) vs (i+1) (w.setCell ⟨b,off+i,none⟩ v) _ h2 (by simp;omega) (λx hx=>h1 x (by simp[hx]));simp only[storeCells,Sem.run_bind,G1,Result.andThen_ok,ih,putCells];rw[Nat.add_assoc]
theorem UF{w:World}{b off:Nat}{t:TypeId}{vs:List Value}{C:Array Value}(hb:w.heap[b]?=some (.cells C t (0,0)))(hl:off+vs.length<=C.size):
  Mod [b] w (putCells w b off vs)/\(putCells w b off vs).heap[b]?=some (.cells (setVs C.toList off vs).toArray t (0,0))/\(putCells w b off vs).heap.size=w.heap.size:=by
 obtain⟨hm,C',h1,h2,h3,h4⟩:=YK vs w b off C t hb hl;refine⟨hm,?_,?_⟩
 ·rw[h1];congr 2;apply Array.ext';apply List.ext_getElem?;intro i;rw[O3 _ _ _ (by simpa using hl)];by_cases hi:off<=i/\i<off+vs.length
  ·rw[if_pos hi];have AI:i-off<vs.length:=by omega
   have:=h3 (i-off) vs[i-off] (by simp[AI]);rw[show off+(i-off)=i by omega]at this;rw[Array.getElem?_toList,this];simp[AI]
  ·rw[if_neg hi,Array.getElem?_toList,Array.getElem?_toList];exact h4 i (by omega)
 ·clear hm h1 h2 h3 h4 hl
  induction vs generalizing w off C with
  |nil=>rfl
  |cons v vs ih=>simp only[putCells];rw[ih (heap_setCell_same w b off C t v hb)];simp[World.setCell]
theorem YU{w:World}{b off:Nat}{t ty:TypeId}{v:Value}{C:Array Value}(hb:w.heap[b]?=some (.cells C ty (0,0)))(ht:C2 P t=true)(hs:v.cells.size=P.cellsOf t)(hl:off+v.cells.size<=C.size)(h1:∀u∈v.cells.toList,u.oneCell'=true):
  (Instr.storeAt t (.pointer (some ⟨b,off,none⟩)) v).run P w= .ok () (putCells w b off v.cells.toList):=by
 have:=YJ (P:=P) (off:=off) v.cells.toList 0 w C hb (by simpa using hl) h1;simp only[Nat.add_zero]at this;simp[Instr.storeAt,Instr.sureAddr,storeVar,M5 ht,hs,this]
def Cx.wr(c:Cx)(w':World)(t:Nat):Cx:={c with w:=w',E:=λu=>if u=t then c.E u+1 else c.E u}
theorem Cx.gl{c:Cx}{w':World}{t b:Nat}(gw:GW c)(Cb:b∈(c.G t).top)(hm:Mod [b] c.w w'):DD c (c.wr w' t):=by
 have Br:b∈(c.G t).own:=by simp[GI.own,Cb]
 refine⟨rfl,rfl,λq _ hq=>hq,λq hq AR=>hm.block q hq ?_,λu g hu=>⟨hu,rfl⟩,λu g hu=> ?_⟩
 ·simp only[List.mem_singleton];rintro rfl;exact AR.1 ⟨t,Cb⟩
 ·by_cases F8:u=t
  ·have e1:(c.wr w' t).E u=c.E u+1:=by simp only[Cx.wr,if_pos F8]
   exact⟨by omega,λh=>by omega⟩
  ·have e1:(c.wr w' t).E u=c.E u:=by simp only[Cx.wr,if_neg F8]
   rw[e1];refine⟨Ay _,λ_=>⟨rfl,λq hq FA=>hm.block q FA ?_⟩⟩;simp only[List.mem_singleton];rintro rfl;exact gw.cc t u (Ne.symm F8) q Br (by simp[GI.own,hq])
theorem Rel.write(h:Rel c n sl hp a){t:Nat}{e0:Ah}{b:Nat}{w':World}(AQ:Cp c.ρ (hp t) e0)(Cb:b∈(c.G t).top)(hm:Mod [b] c.w w')(BY:w'.heap.size=c.w.heap.size)(e1:Ah)(BI:∀hs f,e1≠ .gd hs f)
  (he:C3 (c.wr w' t) t e1):Rel (c.wr w' t) n sl (A8 hp [(t,e1)]) a/\DD c (c.wr w' t):=by
 have Br:b∈(c.G t).own:=by simp[GI.own,Cb]
 have BQ:DD c (c.wr w' t):=Cx.gl h.gw Cb hm;have DN:∀u,A8 hp [(t,e1)] u=if u=t then some e1 else hp u:=λu=>rfl;refine⟨h.change (λu=>u=t) BQ ⟨hm.os.trans h.base.os,hm.tape.trans h.base.tape,hm.output.trans h.base.output,Nat.le_trans h.base.size hm.size,h.base.pins,λq hq FM=> ?_,h.base.pk,h.base.lo⟩
  (λu hu=>⟨by rw[DN,if_neg hu],rfl,by simp[Cx.wr,hu],λg hg=>hg⟩) (λu hu q hq=>hm.block q (h.gw.inb u q (by simp[GI.own,hq])) ?_) (λu hu=> ?_) ⟨h.gw.nodup,h.gw.cc,h.gw.allow,λu q hq=> ?_⟩ h.bc (λu f hf=> ?_),BQ⟩
 ·refine(hm.block q (Nat.lt_of_lt_of_le hq h.base.size) ?_).trans (h.base.block q hq FM);simp only[List.mem_singleton];rintro rfl;rcases h.gw.allow t q Br with hh|hh
  ·exact absurd hh (Nat.not_le.2 hq)
  ·exact FM hh
 ·simp only[List.mem_singleton];rintro rfl;exact h.gw.cc t u (Ne.symm hu) q Br (by simp[GI.own,hq])
 ·subst hu;rw[DN,if_pos rfl];refine⟨λe' hr=> ?_,λhn=> ?_⟩
  ·cases e1<;>first
    |(simp only[Cp]at hr;subst hr;exact he)
    |exact absurd rfl (BI _ _)
  ·cases e1<;>first
    |exact absurd rfl (BI _ _)
    |exact absurd rfl (hn _)
 ·show q<w'.heap.size;rw[BY];exact h.gw.inb u q hq
 ·rw[DN]at hf;split at hf
  ·rename_i hu;subst hu;cases hh:hp u with
   |none=>rw[hh]at AQ;exact AQ.elim
   |some e9=>exact h.cg u e9 hh
  ·exact h.cg u f hf
end
section
variable {P:Program} {c:Cx} {n nx:Nat} {sl sl0:Nat->SV} {hp hp0:Nat->Option Ah} {a:Act} {o:Oper} {gs:Gd} {e:A2} {sg:BR} {nv:Nat}
theorem xF(h:Bh P c n nx sl hp a sl0 hp0 o gs){t:TypeId}{x y:Operand}(ho:o.op= .store t x y){b k:Nat}{s:SV}(hx:Bn sl0 gs x=some (.ca b k))(hy:Bn sl0 gs y=some s)
  (he:LG P hp0 gs t (.ca b k) s=some e) (hc:∀q∈e.bg,Cn.den c.ρ q):Aw P o c n nx sl hp gs a e:=by
 have r1:=h.ch hx (by simp[ho,Op.operands]);have r2:=h.ch hy (by simp[ho,Op.operands]);simp only[LG]at he;split at he
 ·rename_i ty g cs vs ck hl Bi;split at he
  ·rename_i hh;obtain⟨Bb,hlen,hle,rfl⟩:=hh;simp at he;subst he;obtain⟨q1,q2⟩:=US r2 Bi hc;generalize hv:a.eval x=v at r1;cases r1 with
   |ca h1 h2 h3=>
    rename_i q;have E1:=Cv hl h.gs;obtain⟨q',C,e1,e2,e3,e4,e5,e5',e6⟩:=h.eh b _ E1;rw[h2]at e2;cases e2;have AQ:Cp c.ρ (hp b) (.box ty g cs):=by
     cases hh:hp0 b with
     |none=>rw[hh]at E1;exact E1.elim
     |some e9=>rw[h.hp b e9 hh];rwa[hh]at E1
    have Mz:=e6.len;have WX:=q1.len;obtain⟨m1,m2,m3⟩:=UF (vs:=(a.eval y).cells.toList) e5 (show k+_<=C.size by simp at Mz WX ⊢;omega);obtain⟨hrel,BQ⟩:=h.rel.write AQ (by rw[e3];simp) m1 m3 (.box ty g (PL cs k vs)) (by intros;simp) (w':=putCells c.w q k (a.eval y).cells.toList) (by
     have BH:DD c (c.wr (putCells c.w q k (a.eval y).cells.toList) b):=Cx.gl h.rel.gw (by rw[e3];simp) m1;refine⟨q,_,e1,h2,e3,e4,m2,?_,?_⟩
     ·intro u hu;simp only[List.toList_toArray]at hu;unfold setVs at hu;simp only[Ag]at hu;rcases hu with(hu|hu)|hu
      ·exact e5' u (BM hu)
      ·exact q2 u hu
      ·exact e5' u (Cd hu)
     ·simpa using(e6.setVs q1 (k:=k)).keep BH)
    intro next Q hk
    unfold Oper.wp;have hr:(execOp a.eval o).run P c.w= .ok .skip (putCells c.w q k (a.eval y).cells.toList):=by have:=YU (P:=P) (t:=t) (v:=a.eval y) (off:=k) e5 Bb (by simp at WX;omega) (by simp at Mz WX;omega) q2;simp[execOp,ho,hv,this]
    rw[hr,Oper.upon_skip];exact hk _ (c.wr (putCells c.w q k (a.eval y).cells.toList) b) ⟨rfl,rfl,rfl,rfl,λt ht=> .inl ht⟩ (hrel.put ((SR.undef .nil).mkGd []) o.dst)
  ·cases he
 ·cases he
theorem jZ{places:List (Nat × Nat)}{tys:List TypeId}:∀(ps:List (Nat × SV)) (vs:List (Nat × Value)) (cs:List SV) (C:Array Value) (r:List SV × List Cn),SC P places tys ps cs=some r->(∀q∈r.2,q.den c.ρ)->
  ps.map (·.1)=vs.map (·.1)->SR c (ps.map (·.2)) (vs.map (·.2))->SR c cs C.toList->(∀u∈C.toList,u.oneCell'=true)->
  ∃C',Instr.fill (places.toArray[·]?) C vs=some C'/\SR c r.1 C'.toList/\ ∀u∈C'.toList,u.oneCell'=true
 | [],vs,cs,C,r,h,hk,he,_,hC,h1=>by
  have:vs=[]:=by simpa using he.symm
  subst this;simp[SC]at h;subst h;exact⟨C,rfl,hC,h1⟩
 |(i,s)::ps,[],cs,C,r,h,hk,he,_,hC,h1=>by simp at he
 |(i,s)::ps,(j,v)::vs,cs,C,r,h,hk,he,hs,hC,h1=>by
  simp only[List.map_cons,List.cons.injEq]at he;obtain⟨rfl,he⟩:=he;simp only[List.map_cons]at hs;obtain⟨BA,AY⟩:=hs.bu;unfold SC at h;split at h
  ·rename_i off sz t GV Bb;split at h
   ·rename_i us ck Bi;split at h
    ·rename_i hh;obtain⟨BY,hle⟩:=hh;obtain⟨r',CL,rfl⟩:=Aq.1 h;obtain⟨q1,q2⟩:=US BA Bi (λq hq=>hk q (by simp[hq]));have J7:=q1.len;have S7:=hC.len;have K3:(v.cells.zipIdx.foldl (λcs (p:Value × Nat)=>cs.setIfInBounds (off+p.2) p.1) C).toList=setVs C.toList off v.cells.toList:=by
      have:=kM v.cells.toList 0 off C (by simp at J7 S7 ⊢;omega);rw[<-Array.foldl_toList,Array.toList_zipIdx];simpa using this
     obtain⟨C',g1,g2,g3⟩:=jZ ps vs (PL cs off us) (v.cells.zipIdx.foldl (λcs (p:Value × Nat)=>cs.setIfInBounds (off+p.2) p.1) C) r' CL (λq hq=>hk q (by simp[hq])) he AY (by rw[K3];exact hC.setVs q1) (by
      rw[K3];intro u hu;unfold setVs at hu;simp only[Ag]at hu;rcases hu with(hu|hu)|hu
      ·exact h1 u (BM hu)
      ·exact q2 u hu
      ·exact h1 u (Cd hu))
     refine⟨C',?_,g2,g3⟩;unfold Instr.fill;have Xh:places.toArray[i]?=some (off,sz):=by simpa using GV
     simp only[Xh];rw[if_neg (by simp at J7 S7 ⊢;omega)];exact g1
    ·cases h
   ·cases h
  ·cases h
theorem UR{sl0:Nat->SV}{gs:Gd}(L:List Operand)(h:∀x s,Bn sl0 gs x=some s->x∈L->SR c [s] [a.eval x]):∀{xs:List (Nat × Operand)} {ss:List (Nat × SV)},(∀x∈xs,x.2∈L)->xs.mapM (λ(p:Nat × Operand)=>(Bn sl0 gs p.2).map λs=>(p.1,s))=some ss->
  ss.map (·.1)=xs.map (·.1)/\SR c (ss.map (·.2)) (xs.map λp=>a.eval p.2)
 | [],ss,_,hm=>by simp at hm;subst hm;exact⟨rfl, .nil⟩
 |x::xs,ss,hL,hm=>by rw[List.mapM_cons]at hm;simp only[Option.bind_eq_bind,As,Aq]at hm;obtain⟨_,⟨s,hs,rfl⟩,ss',FU,hm⟩:=hm;simp at hm;subst hm;obtain⟨e1,e2⟩:=UR L h (λy hy=>hL y (by simp[hy])) FU;exact⟨by simp[e1],(h _ s hs (hL x (by simp))).app e2⟩
theorem zsY(h:Bh P c n nx sl hp a sl0 hp0 o gs){t:TypeId}{parts:Array (Nat × Operand)}(ho:o.op= .build t parts)(he:Bz P sg sl0 hp0 nv nx gs o=some e)(hc:∀q∈e.bg,Cn.den c.ρ q):Aw P o c n nx sl hp gs a e:=by
 simp only[Bz,ho,As]at he;obtain⟨ps,Ld,he⟩:=he;obtain⟨e1,e2⟩:=UR (c:=c) (a:=a) (parts.toList.map (·.2)) (λx s hx hm=>h.ch hx (by simpa[ho,Op.operands]using hm)) (λx hx=>List.mem_map.2 ⟨x,hx,rfl⟩) Ld;unfold lL at he;split at he
 ·rename_i it fs hit hu;split at he
  ·rename_i zs places hz GV;obtain⟨r,hr,rfl⟩:=Aq.1 he;obtain⟨z,Tl,rX⟩:=As.1 hz;have dR:=U2 (c:=c) rX;obtain⟨cells,g1,g2,g3⟩:=jZ (c:=c) (P:=P) ps (parts.toList.map λp=>(p.1,a.eval p.2)) zs.toList z.cells r hr hc (by rw[e1];simp) (by rw[List.map_map];exact e2)
    (by cases dR with|agg h1 h2 _=>simpa[Value.cells]using h2) (by cases dR with|agg h1 h2 _=>simpa[Value.cells]using h1)
   have hb:P.built t (parts.map λ(x:Nat × Operand)=>(x.1,a.eval x.2)).toList=some cells:=by simp only[Program.built,hit,hu,Tl,GV];simpa using g1
   have:=SR.agg (c:=c) (cs:=Bp.of r.1) (as_:=cells.toList) g3 (by rw[Bp.ak];exact g2) .nil;refine Aw.pure h (v:= .agg cells) ?_ (by simpa using this) rfl;have AH:=run_build c.w t _ cells hb;simp only[execOp,ho,Sem.run_bind];rw[AH];rfl
  ·cases he
 ·cases he
end
section
variable {P:Program} {c:Cx} {n nx:Nat} {sl sl0:Nat->SV} {hp hp0:Nat->Option Ah} {a:Act} {o:Oper} {gs:Gd} {e:A2} {sg:BR} {nv:Nat}
def Cx.bh(c:Cx)(ts:List Nat):Cx:={c with G:=λu=>if u∈ts then⟨[],[]⟩else c.G u,E:=λu=>if u∈ts then c.E u+1 else c.E u}
theorem Cx.ie{c:Cx}{ts:List Nat}{b:Nat}(h:(c.bh ts).M b):∃u,u∉ts/\b∈(c.G u).top:=by
 obtain⟨u,hu⟩:=h;simp only[Cx.bh]at hu;split at hu
 ·simp at hu
 ·exact⟨u,by assumption,hu⟩
theorem Cx.dw{c:Cx}{ts:List Nat}{b:Nat}(h:c.ok b):(c.bh ts).ok b:=⟨λhm=>by obtain⟨u,_,hu⟩:=Cx.ie hm;exact h.1 ⟨u,hu⟩,h.2⟩
theorem Cx.iw(c:Cx)(ts:List Nat):DD c (c.bh ts):=⟨rfl,rfl,λ_ _ h=>Cx.dw h,λ_ _ _=>rfl,λ_ _ h=>⟨h,rfl⟩,λt g _=>by
 by_cases ht:t∈ts
 ·have e1:(c.bh ts).E t=c.E t+1:=by simp only[Cx.bh,if_pos ht]
  exact⟨by omega,λh=>by omega⟩
 ·have e1:(c.bh ts).E t=c.E t:=by simp only[Cx.bh,if_neg ht]
  have e2:(c.bh ts).G t=c.G t:=by simp only[Cx.bh,if_neg ht]
  rw[e1];exact⟨Ay _,λ_=>⟨e2,λ_ _ _=>rfl⟩⟩⟩
theorem lT{c:Cx}(gw:GW c){ts us:List Nat}(hs:∀t∈us,t∈ts){b:Nat}(h:c.dq us b):(c.bh ts).ok b:=by
 rcases h with h|⟨t,ht,hb⟩
 ·exact Cx.dw h
 ·have Br:b∈(c.G t).own:=by simp[GI.own,hb]
  refine⟨λhm=> ?_, .inr (gw.allow t b Br)⟩;obtain⟨u,hu,Hq⟩:=Cx.ie hm;have:t≠u:=λhh=>hu (hh▸hs t ht);exact gw.cc t u this b Br (by simp[GI.own,Hq])
def KE(e:Ah)(g:Nat)(x:E):Prop:=(∃ety sz d,e= .row ety sz g x d)\/ ∃ety sz l ep,e= .deep ety sz l g ep x
theorem KE.ne{e:Ah}{g:Nat}{x:E}(h:KE e g x):∀hs f,e≠ .gd hs f:=by rcases h with⟨_,_,_,rfl⟩|⟨_,_,_,_,rfl⟩<;>intros<;>simp
theorem KE.rd{e:Ah}{g t:Nat}{x:E}(h:KE e g x)(k:C3 c t e):c.K t g/\ ∃f,Rd c.w [c.H t g] [x.den c.ρ] f/\ ∀b∈f,b∈(c.G t).top\/c.ok b:=by
 rcases h with⟨_,_,_,rfl⟩|⟨_,_,_,_,rfl⟩
 ·obtain⟨q1,q2,N,q3,q4,_⟩:=k;obtain⟨f,r1,r2,_⟩:=q3.rd;exact⟨q1,f,r1,λb hb=>(r2 b hb).imp id (q4 b)⟩
 ·obtain⟨q1,q2,_,q3,_⟩:=k;obtain⟨f,r1,r2⟩:=q3.rd;exact⟨q1,f,r1,λb hb=> .inl (r2 b hb)⟩
theorem KE.fun{e:Ah}{g g':Nat}{x x':E}(h:KE e g x)(k:KE e g' x'):g=g'/\x=x':=by rcases h with⟨_,_,_,rfl⟩|⟨_,_,_,_,rfl⟩<;>rcases k with⟨_,_,_,hh⟩|⟨_,_,_,_,hh⟩<;>cases hh<;>exact⟨rfl,rfl⟩
theorem M0{gs:Gd}{ρ:List AV}(k:Bc ρ gs):∀{ts:List Nat} {l:List (Nat × Ah)},Dz hp0 gs ts=some l->
  (∀t e,(t,e)∈l->t∈ts/\gs=[]/\ ∃g x f,e= .bh g x/\Cp ρ (hp0 t) f/\KE f g x)/\
  (∀t∈ts,(∃g x,(t,Ah.bh g x)∈l)\/(∃g x,Cp ρ (hp0 t) (.bh g x))\/ ∃ty g cs,Cp ρ (hp0 t) (.box ty g cs))
 | [],l,h=>by simp[Dz]at h;subst h;simp
 |t::ts,l,h=>by
  unfold Dz at h;split at h
  ·rename_i ety sz g x d l' hl Bw;split at h
   ·rename_i hg;simp at h;subst h;obtain⟨h1,h2⟩:=M0 k Bw;refine⟨λu e hu=> ?_,λu hu=> ?_⟩
    ·rcases Ad.1 hu with hu|hu
     ·cases hu;exact⟨by simp,by simpa using hg,g,x,_,rfl,Cv hl k, .inl ⟨_,_,_,rfl⟩⟩
     ·obtain⟨p,q,r⟩:=h1 u e hu;exact⟨by simp[p],q,r⟩
    ·rcases Ad.1 hu with rfl|hu
     ·exact .inl ⟨g,x,by simp⟩
     ·rcases h2 u hu with⟨g',x',hh⟩|hh
      ·exact .inl ⟨g',x',by simp[hh]⟩
      ·exact .inr hh
   ·cases h
  ·rename_i ety sz dl g ep x l' hl Bw;split at h
   ·rename_i hg;simp at h;subst h;obtain⟨h1,h2⟩:=M0 k Bw;refine⟨λu e hu=> ?_,λu hu=> ?_⟩
    ·rcases Ad.1 hu with hu|hu
     ·cases hu;exact⟨by simp,by simpa using hg,g,x,_,rfl,Cv hl k, .inr ⟨_,_,_,_,rfl⟩⟩
     ·obtain⟨p,q,r⟩:=h1 u e hu;exact⟨by simp[p],q,r⟩
    ·rcases Ad.1 hu with rfl|hu
     ·exact .inl ⟨g,x,by simp⟩
     ·rcases h2 u hu with⟨g',x',hh⟩|hh
      ·exact .inl ⟨g',x',by simp[hh]⟩
      ·exact .inr hh
   ·cases h
  ·rename_i g x l' hl Bw;simp at h;subst h;obtain⟨h1,h2⟩:=M0 k Bw;refine⟨λu e hu=> ?_,λu hu=> ?_⟩
   ·obtain⟨p,q,r⟩:=h1 u e hu;exact⟨by simp[p],q,r⟩
   ·rcases Ad.1 hu with rfl|hu
    ·exact .inr (.inl ⟨g,x,Cv hl k⟩)
    ·exact h2 u hu
  ·rename_i ty g cs l' hl Bw;simp at h;subst h;obtain⟨h1,h2⟩:=M0 k Bw;refine⟨λu e hu=> ?_,λu hu=> ?_⟩
   ·obtain⟨p,q,r⟩:=h1 u e hu;exact⟨by simp[p],q,r⟩
   ·rcases Ad.1 hu with rfl|hu
    ·exact .inr (.inr ⟨ty,g,cs,Cv hl k⟩)
    ·exact h2 u hu
  ·cases h
theorem Kz{hp:Nat->Option Ah}:∀{l:List (Nat × Ah)} {t:Nat},(∀e,(t,e)∉l)->A8 hp l t=hp t
 | [],_,_=>rfl
 |(u,e)::l,t,h=>by
  have ht:t≠u:=by rintro rfl;exact h e (by simp)
  have:=Kz (hp:=λv=>if v=u then some e else hp v) (l:=l) (t:=t) (λe' Ey=>h e' (by simp[Ey]));simp only[A8,List.foldl_cons]at this ⊢;rw[this,if_neg ht]
theorem ZT{hp:Nat->Option Ah}:∀{l:List (Nat × Ah)} {t:Nat} {e:Ah},(t,e)∈l->(∀e',(t,e')∈l->e'=e)->A8 hp l t=some e
 | [],_,_,h,_=>by simp at h
 |(u,f)::l,t,e,h,hu=>by
  simp only[A8,List.foldl_cons];by_cases hm:∃e',(t,e')∈l
  ·obtain⟨e',Ey⟩:=hm;have:=hu e' (by simp[Ey]);subst this;exact ZT (hp:=λv=>if v=u then some f else hp v) Ey (λe'' oU=>hu e'' (by simp[oU]))
  ·have hn:∀e',(t,e')∉l:=λe' Ey=>hm ⟨e',Ey⟩;have:=Kz (hp:=λv=>if v=u then some f else hp v) (l:=l) (t:=t) hn;simp only[A8]at this;rw[this];rcases Ad.1 h with h|h
   ·cases h;simp
   ·exact absurd h (hn e)
theorem KH(hs:∀t e,hp0 t=some e->hp t=some e){ρ:List AV}{t:Nat}{e:Ah}(h:Cp ρ (hp0 t) e):Cp ρ (hp t) e:=by
 cases hh:hp0 t with
 |none=>rw[hh]at h;exact h.elim
 |some e9=>rw[hs t e9 hh];rwa[hh]at h
theorem zx2{ρ:List AV}{o:Option Ah}{e f:Ah}(h:Cp ρ o e)(k:Cp ρ o f):e=f:=by
 cases o with
 |none=>exact h.elim
 |some o=>
  cases o with
  |gd gs x=>exact h.2.symm.trans k.2
  |box=>exact h.symm.trans k
  |row=>exact h.symm.trans k
  |bh=>exact h.symm.trans k
  |dead=>exact h.symm.trans k
  |deep=>exact h.symm.trans k
  |hol=>exact h.symm.trans k
  |pre=>exact h.symm.trans k
theorem Rel.freeze(h:Rel c n sl hp a)(hs:∀t e,hp0 t=some e->hp t=some e)(k:Bc c.ρ gs){ts:List Nat}{l:List (Nat × Ah)}(hf:Dz hp0 gs ts=some l):
  Rel (c.bh (l.map (·.1))) n sl (A8 hp l) a:=by
 obtain⟨h1,h2⟩:=M0 k hf;have hG:∀u,(c.bh (l.map (·.1))).G u=if u∈l.map (·.1)then⟨[],[]⟩else c.G u:=λu=>rfl;have IM:∀t e e',(t,e)∈l->(t,e')∈l->e'=e:=by intro t e e' he Ey;obtain⟨_,_,g,x,_,rfl,r,rl⟩:=h1 t e he;obtain⟨_,_,g',x',_,rfl,r',rl'⟩:=h1 t e' Ey;have:=zx2 r r';subst this;obtain⟨rfl,rfl⟩:=rl.fun rl';rfl
 refine h.change (λu=>u∈l.map (·.1)) (Cx.iw c _) ⟨h.base.os,h.base.tape,h.base.output,h.base.size,h.base.pins,h.base.block,h.base.pk,h.base.lo⟩ (λu hu=>⟨Kz (λe he=>hu (List.mem_map.2 ⟨_,he,rfl⟩)),by rw[hG,if_neg hu],by simp only[Cx.bh,if_neg hu],λg hg=>hg⟩) (λu hu b hb=>rfl) (λu hu=> ?_) ?_ h.bc (λu e hu=> ?_)
 ·obtain⟨⟨u',e⟩,he,rfl⟩:=List.mem_map.1 hu;have DN:=ZT (hp:=hp) he (λe' Ey=>IM _ _ _ he Ey);obtain⟨_,_,g,x,f0,rfl,r,rl⟩:=h1 u' e he;obtain⟨q1,f,r1,r2⟩:=rl.rd (h.ents u' _ (KH hs r));have J3:((c.bh (l.map (·.1))).G u').top=[]/\((c.bh (l.map (·.1))).G u').O=[]:=by rw[hG,if_pos hu];simp
  rw[DN];refine⟨λe' hr=> ?_,λ_=>J3⟩;have:e'= .bh g x:=hr.symm;subst this;exact⟨q1,⟨f,r1,λb hb=>by
   refine lT h.gw (ts:=l.map (·.1)) (us:=[u']) (by simpa using hu) ?_;rcases r2 b hb with hb|hb
   ·exact .inr ⟨u',by simp,hb⟩
   ·exact .inl hb⟩,J3.1,J3.2⟩
 ·refine⟨λu=> ?_,λu v Xy b hb=> ?_,λu b hb=> ?_,λu b hb=> ?_⟩
  ·rw[hG];split
   ·simp[GI.own]
   ·exact h.gw.nodup u
  ·rw[hG]at hb ⊢;split at hb
   ·simp[GI.own]at hb
   ·split
    ·simp[GI.own]
    ·exact h.gw.cc u v Xy b hb
  ·rw[hG]at hb;split at hb
   ·simp[GI.own]at hb
   ·exact h.gw.allow u b hb
  ·rw[hG]at hb;split at hb
   ·simp[GI.own]at hb
   ·exact h.gw.inb u b hb
 ·by_cases hm:∃e',(u,e')∈l
  ·obtain⟨e',Ey⟩:=hm;obtain⟨_,_,g,x,f0,rfl,r,rl⟩:=h1 u e' Ey;have r':=KH hs r;cases hh:hp u with
   |none=>rw[hh]at r';exact r'.elim
   |some e9=>exact h.cg u e9 hh
  ·rw[Kz (λe' Ey=>hm ⟨e',Ey⟩)]at hu;exact h.cg u e hu
theorem ztu{ts:List Nat}(h:LV hp0 gs ts=true){t:Nat}(ht:t∈ts){ty:Nat}{g:Bool}{cs:List SV}:CR hp0 gs t≠some (.box ty g cs):=by intro hl;simp only[LV,Bt,List.any_eq_false]at h;have:=h t ht;rw[hl]at this;simp at this
theorem zC{ρ:List AV}(k:Bc ρ gs){ts:List Nat}{l:List (Nat × Ah)}(hf:Dz hp0 gs ts=some l){t:Nat}(ht:t∈ts):(∃g x,(t,Ah.bh g x)∈l)\/(∃g x,CR hp0 gs t=some (.bh g x))\/ ∃ty g cs,CR hp0 gs t=some (.box ty g cs):=by
 induction ts generalizing l with
 |nil=>simp at ht
 |cons u ts ih=>
  unfold Dz at hf;split at hf
  ·rename_i ety sz g x d l' hl Bw;split at hf
   ·simp at hf;subst hf;rcases Ad.1 ht with rfl|ht
    ·exact .inl ⟨g,x,by simp⟩
    ·rcases ih Bw ht with⟨g',x',hh⟩|hh
     ·exact .inl ⟨g',x',by simp[hh]⟩
     ·exact .inr hh
   ·cases hf
  ·rename_i ety sz dl g ep x l' hl Bw;split at hf
   ·simp at hf;subst hf;rcases Ad.1 ht with rfl|ht
    ·exact .inl ⟨g,x,by simp⟩
    ·rcases ih Bw ht with⟨g',x',hh⟩|hh
     ·exact .inl ⟨g',x',by simp[hh]⟩
     ·exact .inr hh
   ·cases hf
  ·rename_i g x l' hl Bw;simp at hf;subst hf;rcases Ad.1 ht with rfl|ht
   ·exact .inr (.inl ⟨g,x,hl⟩)
   ·exact ih Bw ht
  ·rename_i ty g cs l' hl Bw;simp at hf;subst hf;rcases Ad.1 ht with rfl|ht
   ·exact .inr (.inr ⟨ty,g,cs,hl⟩)
   ·exact ih Bw ht
  ·cases hf
theorem RH(h:Rel c n sl hp a)(eh:EH c hp0)(k:Bc c.ρ gs){ts:List Nat}{l:List (Nat × Ah)}(hf:Dz hp0 gs ts=some l)(hb:LV hp0 gs ts=true){b:Nat}(hs:c.dq ts b):(c.bh (l.map (·.1))).ok b:=by
 rcases hs with hs|⟨t,ht,Cz⟩
 ·exact Cx.dw hs
 ·rcases zC k hf ht with⟨g,x,hh⟩|⟨g,x,hh⟩|⟨ty,g,cs,hh⟩
  ·exact lT h.gw (us:=[t]) (by simpa using⟨_,hh⟩) (.inr ⟨t,by simp,Cz⟩)
  ·obtain⟨_,_,Cb,_⟩:=eh t _ (Cv hh k);rw[Cb]at Cz;simp at Cz
  ·exact absurd hh (ztu hb ht)
theorem gD(h:Rel c n sl hp a)(hs:∀t e,hp0 t=some e->hp t=some e)(k:Bc c.ρ gs){t:TypeId}{s:SV}{v:Value}(hr:SR c [s] [v]){x:E}{fz:List (Nat × Ah)}{d:Bool}{ck:List Cn}(ht:VD P hp0 gs t s=some (x,fz,d,ck))(hc:∀q∈ck,q.den c.ρ):
  ∃f,Rd c.w [v] [x.den c.ρ] f/\(d=true->f=[])/\(∃ts,Dz hp0 gs ts=some fz/\ ∀b∈f,(c.bh (fz.map (·.1))).ok b)/\
   (if An P t then∃cs,x.den c.ρ= .agg cs/\cs.length=P.cellsOf t else(∀cs,x.den c.ρ≠ .agg cs)/\ ∀cs,x.den c.ρ≠ .tup cs):=by
 have eh:EH c hp0:=λt e hr=>h.ents t e (KH hs hr);unfold VD at ht;split at ht
 ·cases ht
 ·rename_i y hy;obtain⟨f,q1,q2⟩:=Hd eh k AW hy hr AW (Ay _);split at ht
  ·simp at ht;obtain⟨rfl,rfl,rfl,rfl⟩:=ht;obtain⟨c1,c2,c3,c4⟩:=BG hc;have hf:f=[]:=by
    cases hg:An P t with
    |true=>obtain⟨cs,Bi⟩:=c3 hg;obtain⟨as_,rfl,_,r⟩:=Jc q1 Bi;exact Ha r (by rw[Bi]at c2;exact c2)
    |false=>exact Ha q1 (by simpa using c4 hg)
   subst hf;refine⟨[],q1,λ_=>rfl,⟨[],rfl,by simp⟩,?_⟩;split
   ·rename_i hg;obtain⟨cs,Bi⟩:=c3 hg;exact⟨cs,Bi,by rw[Bi]at c1;exact c1⟩
   ·rename_i hg;have:=c4 (by simpa using hg);exact⟨λcs Bi=>by rw[Bi]at this;simp[AV.scalar]at this,λcs Bi=>by rw[Bi]at this;simp[AV.scalar]at this⟩
  ·split at ht
   ·rename_i Hz;split at ht
    ·cases ht
    ·rename_i l hl;simp only[Af,AO]at ht;obtain⟨rfl,rfl,rfl,rfl⟩:=ht;refine⟨f,q1,by simp,⟨_,hl,λb hb=>RH h eh k hl Hz (q2 b hb)⟩,?_⟩;have hq:=BG hc;unfold oN at hq;split
     ·rename_i hg;rw[if_pos hg]at hq;obtain⟨cs,Bi,hl⟩:=hq;exact⟨cs,Bi,hl⟩
     ·rename_i hg;rw[if_neg hg]at hq;exact hq
   ·cases ht
end
section
variable {P:Program} {c:Cx} {n nx:Nat} {sl sl0:Nat->SV} {hp hp0:Nat->Option Ah} {a:Act} {o:Oper} {gs:Gd} {e:A2} {sg:BR} {nv:Nat}
theorem aM(w:World)(t ty el:TypeId)(i:TypeInfo)(z:Value)(ht:P.underlying t=some (.slice el))(hi:P.info? el=some i)(hz:i.zero=some z)(Eo:z.cells.size=i.size)(BY:0<i.size)
  (Own:Nat->Prop) (v:Value) (k:Nat) (old:List Value) (ho:old.length=k*i.size)
  (CE:(k=0/\ ∃q,v= .slice q 0 0)\/ ∃g cap C,v= .slice (some ⟨g,0,none⟩) k cap/\k<=cap/\cap<=maxLen/\w.heap[g]?=some (.cells C el (0,0))/\C.size=cap*i.size/\old=C.toList.take (k*i.size)/\Own g)
  (q:Option Addr) (m r:Nat) (news:List Value) (hs:Src w i.size q m news) (SQ:k+m<=maxLen) (hb:(k+m)*i.bytes<=140737488355328):
  ∃v' w',(Builtin.append_ #[t,t] ty #[v, .slice q m r]).run P w= .ok v' w'/\
   ((v'=v/\w'=w/\m=0)\/ ∃g cap C,v'= .slice (some ⟨g,0,none⟩) (k+m) cap/\k+m<=cap/\cap<=maxLen/\w'.heap[g]?=some (.cells C el (0,0))/\C.size=cap*i.size/\C.toList.take ((k+m)*i.size)=old++news/\
    w.grownBy w' (some g)/\((g=w.heap.size/\g<w'.heap.size)\/Own g)):=by
 have Ta:news.length=m*i.size:=by
  rcases hs with⟨rfl,rfl,rfl⟩|⟨ad,rfl,h1,_⟩
  ·simp
  ·exact h1
 have hlen:(old++news).length=(k+m)*i.size:=by rw[Ap,ho,Ta,Nat.add_mul]
 have grown:∀(cp:Nat),cp<k+m-> ∀(X:Array Value),X.toList=old++news-> ∃C,C=X++Builtin.zeroCells z.cells (grownCap w (k+m) cp el-(k+m))/\
   k+m<=grownCap w (k+m) cp el/\grownCap w (k+m) cp el<=maxLen/\C.size=grownCap w (k+m) cp el*i.size/\C.toList.take ((k+m)*i.size)=old++news:=by
  intro cp hcp X hX;have Iv:=grownCap_ge w (k+m) cp el;have Qh:=grownCap_le_maxLen w (k+m) cp el SQ;refine⟨_,rfl,Iv,Qh,?_,?_⟩
  ·have pH:X.size=(k+m)*i.size:=by rw[<-Cc,hX,hlen]
   rw[Array.size_append,pH,size_zeroCells,Eo,<-Nat.add_mul];congr 1;omega
  ·rw[Array.toList_append,hX,<-hlen];exact List.take_left
 have newb:∀C:Array Value,w.grownBy (w.drew.alloc (.cells C el)) (some w.heap.size)/\w.heap.size<(w.drew.alloc (.cells C el)).heap.size/\(w.drew.alloc (.cells C el)).heap[w.heap.size]?=some (.cells C el (0,0)):=
  λC=>⟨⟨rfl,rfl,rfl,by simp,λj hj _=>Below.heap_alloc w.drew _ _ hj⟩,by simp,heap_alloc_new w.drew _⟩
 rcases CE with⟨rfl,p,rfl⟩|⟨g,cap,C,rfl,W8,Qh,hg,Bi,hold,Wa⟩
 ·have hold:old=[]:=List.eq_nil_of_length_eq_zero (by simpa using ho);subst hold;by_cases hm:m=0
  ·subst hm;have hn:news=[]:=List.eq_nil_of_length_eq_zero (by simpa using Ta);subst hn;refine⟨_,w,?_, .inl ⟨rfl,rfl,rfl⟩⟩;rcases hs with⟨rfl,_,_⟩|⟨ad,rfl,_⟩<;>cases p<;>
    simp[Builtin.append_,run_underlying ht,sizeOf,typeInfo,hi,Builtin.lenOf,Builtin.firstCells,loadCells,loadCellsFrom,storeCells]
  ·rcases hs with⟨_,rfl,_⟩|⟨ad,rfl,h1,h2,h3⟩
   ·exact absurd rfl hm
   ·obtain⟨C',NN,g1,g2,g3,g4⟩:=grown 0 (by omega) news.toArray (by simp);cases p with
    |none=>have hr:=run_append_nil (P:=P) w t ty el i z ht hi hz ad m r news h1 h2 (by omega) (by simp only[maxLen]at SQ;omega) (by have hb:=hb;simp only[Nat.zero_add]at hb;omega);simp only[Nat.zero_add]at g1 g2 g3 g4 NN ⊢;obtain⟨n1,n2,n3⟩:=newb C';refine⟨_,_,hr, .inr ⟨_,_,C',rfl,g1,g2,?_,g3,g4,?_, .inl ⟨rfl,?_⟩⟩⟩<;>rw[<-NN]<;>first|exact n3|exact n1|exact n2
    |some p=>have hr:=run_append_grow (P:=P) w t ty el i z ht hi hz p 0 0 [] (by simp) (by simp) ad m r news h1 h2 (by omega) (by simp only[maxLen]at SQ;omega) (growslice_fits (by omega) hb);rw[show(([]:List Value).toArray++news.toArray)=news.toArray by simp]at hr;simp only[Nat.zero_add]at g1 g2 g3 g4 NN hr ⊢;obtain⟨n1,n2,n3⟩:=newb C';refine⟨_,_,hr, .inr ⟨_,_,C',rfl,g1,g2,?_,g3,g4,?_, .inl ⟨rfl,?_⟩⟩⟩<;>rw[<-NN]<;>first|exact n3|exact n1|exact n2
 ·rcases hs with⟨rfl,rfl,rfl⟩|⟨ad,rfl,h1,h2,h3⟩
  ·refine⟨_,w,?_, .inl ⟨rfl,rfl,rfl⟩⟩;simp[Builtin.append_,run_underlying ht,sizeOf,typeInfo,hi,Builtin.lenOf,Builtin.firstCells,W8,storeCells]
  ·by_cases Dn:k+m<=cap
   ·have WA:k*i.size+news.length<=C.size:=by rw[h1,Bi,<-Nat.add_mul];exact BB _ Dn
    have hr:=run_append_room (P:=P) w t ty el i ht hi g k cap C hg ad m r news h1 h2 h3 Dn WA;refine⟨_,_,hr, .inr ⟨g,cap,_,rfl,Dn,Qh,setRow_heap w g C _ el _ hg,?_,?_,⟨rfl,rfl,rfl,by simp,λj _ hj=>setRow_other w g j _ (λhh=>hj (by rw[hh]))⟩, .inr Wa⟩⟩
    ·simp only[List.size_toArray,Ap,A1,Dp,Cc];omega
    ·rw[<-hold,<-hlen];exact List.take_left
   ·have holds:∀j u,old[j]?=some u->w.cell? ((⟨g,0,none⟩:Addr).add j)=some u:=λj u hu=>by
     rw[Addr.add_lit,Nat.zero_add,D5 hg];rw[hold,List.getElem?_take]at hu;split at hu
     ·simpa using hu
     ·cases hu
    have hr:=run_append_grow (P:=P) w t ty el i z ht hi hz ⟨g,0,none⟩ k cap old ho holds ad m r news h1 h2 (by omega) (by simp only[maxLen]at SQ;omega) (growslice_fits (by omega) hb);obtain⟨C',NN,g1,g2,g3,g4⟩:=grown cap (by omega) (old.toArray++news.toArray) (by simp);obtain⟨n1,n2,n3⟩:=newb C';refine⟨_,_,hr, .inr ⟨_,_,C',rfl,g1,g2,?_,g3,g4,?_, .inl ⟨rfl,?_⟩⟩⟩<;>rw[<-NN]<;>first|exact n3|exact n1|exact n2
def Cx.ax(c:Cx)(t g':Nat)(w':World)(v:Value)(top O:List Nat):Cx:=
 {c with w:=w',G:=λu=>if u=t then⟨top,O⟩else c.G u,K:=λu g=>c.K u g\/(u=t/\g=g'),H:=λu g=>if u=t/\g=g' then v else c.H u g,U:=λu=>c.U u\/u=t,E:=λu=>if u=t then c.E u+1 else c.E u}
theorem Rel.ax(h:Rel c n sl hp a){t g:Nat}(Ek:c.A.pin t=none\/g≠0)(AZ: ¬c.K t g){w':World}{row:Option Nat}(hg:c.w.grownBy w' row)
  (EO:∀g0,row=some g0->g0∈(c.G t).top\/(g0=c.w.heap.size/\g0<w'.heap.size)) {top O:List Nat} (Cb:top=[]\/ ∃g0,row=some g0/\top=[g0]) (hO:O=[]\/O=(c.G t).O) {v:Value} (e1:Ah) (BI:∀hs f,e1≠ .gd hs f) (k:Bc c.ρ gs)
  (he:DD c (c.ax t g w' v top O)->C3 (c.ax t g w' v top O) t e1):Rel (c.ax t g w' v top O) n sl (A8 hp [(t,CC gs e1)]) a:=by
 have hG:∀u,(c.ax t g w' v top O).G u=if u=t then⟨top,O⟩else c.G u:=λu=>rfl;have hM:∀b,(c.ax t g w' v top O).M b->c.M b\/row=some b:=by
  rintro b ⟨u,hu⟩;rw[hG]at hu;split at hu
  ·rcases Cb with rfl|⟨g0,hr,rfl⟩
   ·simp at hu
   ·simp at hu;subst hu;exact .inr hr
  ·exact .inl ⟨u,hu⟩
 have Qr:∀b,b<c.w.heap.size->c.ok b->row≠some b:=by
  intro b hb AR hr;rcases EO b hr with hh|⟨hh,_⟩
  ·exact AR.1 ⟨t,hh⟩
  ·omega
 have BQ:DD c (c.ax t g w' v top O):=by
  refine⟨rfl,rfl,λb hb AR=>⟨λhm=>(hM b hm).elim AR.1 (Qr b hb AR),AR.2⟩,λb hb AR=>hg.block b hb (λhh=>Qr b hb AR hh.symm),λu g1 hu=>⟨.inl hu,?_⟩,λu g1 hu=> ?_⟩
  ·simp only[Cx.ax];rw[if_neg];rintro⟨rfl,rfl⟩;exact AZ hu
  ·by_cases F8:u=t
   ·have e1:(c.ax t g w' v top O).E u=c.E u+1:=by simp only[Cx.ax,if_pos F8]
    exact⟨by omega,λh=>by omega⟩
   ·have e1:(c.ax t g w' v top O).E u=c.E u:=by simp only[Cx.ax,if_neg F8]
    have e2:(c.ax t g w' v top O).G u=c.G u:=by simp only[Cx.ax,if_neg F8]
    rw[e1];refine⟨Ay _,λ_=>⟨e2,λb hb F2=>hg.block b F2 λhh=> ?_⟩⟩;rcases EO b hh.symm with h1|⟨h1,_⟩
    ·exact h.gw.cc u t F8 b (by simp[GI.own,hb]) (by simp[GI.own,h1])
    ·omega
 have DN:∀u,A8 hp [(t,CC gs e1)] u=if u=t then some (CC gs e1)else hp u:=λu=>rfl;have MF:∀u,u≠t-> ∀b∈(c.G u).own,row≠some b:=by
  intro u hu b hb hr;rcases EO b hr with hh|⟨hh,_⟩
  ·exact h.gw.cc u t hu b hb (by simp[GI.own,hh])
  ·have:=h.gw.inb u b hb;omega
 have BJ:∀b∈(⟨top,O⟩:GI).own,row=some b\/b∈(c.G t).own:=by
  intro b hb;simp only[GI.own,Ag]at hb ⊢;rcases hb with hb|hb
  ·rcases Cb with rfl|⟨g0,hr,rfl⟩
   ·simp at hb
   ·simp at hb;subst hb;exact .inl hr
  ·rcases hO with rfl|rfl
   ·simp at hb
   ·exact .inr (.inr hb)
 refine h.change (λu=>u=t) BQ ⟨hg.os.trans h.base.os,hg.tape.trans h.base.tape,hg.output.trans h.base.output,Nat.le_trans h.base.size hg.size,λu v' hp=>⟨.inl (h.base.pins u v' hp).1,λhk=> ?_⟩,λb hb FM=> ?_,h.base.pk,h.base.lo⟩
  (λu hu=>⟨by rw[DN,if_neg hu],by rw[hG,if_neg hu],by simp[Cx.ax,hu],λg1 hh=>hh.resolve_right (λhh=>hu hh.1)⟩) (λu hu b hb=>hg.block b (h.gw.inb u b (by simp[GI.own,hb])) (λhh=>MF u hu b (by simp[GI.own,hb]) hh.symm)) (λu hu=> ?_) ?_ (λu g1 hh=> ?_) (λu f hf=> ?_)
 ·have F8: ¬(u=t/\0=g):=by
   rintro⟨rfl,rfl⟩;rcases Ek with hh|hh
   ·have hp':c.A.pin u=some v':=hp;rw[hh]at hp';cases hp'
   ·exact hh rfl
  have BH:=hk.resolve_right F8;simp only[Cx.ax];rw[if_neg F8];exact(h.base.pins u v' hp).2 BH
 ·refine(hg.block b (Nat.lt_of_lt_of_le hb h.base.size) (λhh=> ?_)).trans (h.base.block b hb FM);rcases EO b hh.symm with hh|⟨hh,_⟩
  ·rcases h.gw.allow t b (by simp[GI.own,hh])with h1|h1
   ·exact absurd h1 (Nat.not_le.2 hb)
   ·exact FM h1
  ·have:=h.base.size;have h9:b<c.w0.heap.size:=hb;omega
 ·subst hu;rw[DN,if_pos rfl];exact⟨λe' hr=>by rw[(O5 k BI).1 hr];exact he BQ,λhn=>absurd ((O5 k BI).2 rfl) (hn e1)⟩
 ·have B8:(⟨top,O⟩:GI).own.Nodup:=by
   have h0:=h.gw.nodup t;simp only[GI.own]at h0 ⊢;rw[List.nodup_append]at h0 ⊢;refine⟨by rcases Cb with rfl|⟨g0,hr,rfl⟩<;>simp,by rcases hO with rfl|rfl;simp;exact h0.2.1,λp hp q hq=> ?_⟩;rcases Cb with rfl|⟨g0,hr,rfl⟩
   ·simp at hp
   ·simp at hp;subst hp;rcases hO with rfl|rfl
    ·simp at hq
    ·rcases EO p hr with hh|⟨hh,_⟩
     ·exact h0.2.2 p hh q hq
     ·have:=h.gw.inb t q (by simp[GI.own,hq]);omega
  refine⟨λu=> ?_,λu u' Ki b hb=> ?_,λu b hb=> ?_,λu b hb=> ?_⟩
  ·rw[hG];split
   ·exact B8
   ·exact h.gw.nodup u
  ·rw[hG]at hb ⊢;by_cases h1:u=t
   ·rw[if_pos h1]at hb;rw[if_neg (λhh=>Ki (h1.trans hh.symm))];rcases BJ b hb with hr|hb
    ·exact λhh=>MF u' (λh2=>Ki (h1.trans h2.symm)) b hh hr
    ·exact h.gw.cc t u' (λhh=>Ki (h1.trans hh)) b hb
   ·rw[if_neg h1]at hb;by_cases h2:u'=t
    ·rw[if_pos h2];intro BF;rcases BJ b BF with hr|BF
     ·exact MF u h1 b hb hr
     ·exact h.gw.cc u t h1 b hb BF
    ·rw[if_neg h2];exact h.gw.cc u u' Ki b hb
  ·rw[hG]at hb;split at hb
   ·rcases BJ b hb with hr|hb
    ·rcases EO b hr with hh|⟨hh,_⟩
     ·exact h.gw.allow t b (by simp[GI.own,hh])
     ·exact .inl (by rw[hh];exact h.base.size)
    ·exact h.gw.allow t b hb
   ·exact h.gw.allow u b hb
  ·rw[hG]at hb;show b<w'.heap.size;split at hb
   ·rcases BJ b hb with hr|hb
    ·rcases EO b hr with hh|⟨_,hh⟩
     ·exact Nat.lt_of_lt_of_le (h.gw.inb t b (by simp[GI.own,hh])) hg.size
     ·exact hh
    ·exact Nat.lt_of_lt_of_le (h.gw.inb t b hb) hg.size
   ·exact Nat.lt_of_lt_of_le (h.gw.inb u b hb) hg.size
 ·rcases hh with hh|⟨rfl,_⟩
  ·exact .inl (h.bc u g1 hh)
  ·exact .inr rfl
 ·rw[DN]at hf;split at hf
  ·rename_i hu;exact .inr hu
  ·exact .inl (h.cg u f hf)
theorem nI{w:World}{v:Value}{ys:List AV}{f:List Nat}{sz:Nat}(h:Rd w [v] [.sl ys] f)(hs:∀y∈ys,y.cells.length=sz):
  ∃q r news N,v= .slice q ys.length r/\Src w sz q ys.length news/\Rd w news (AA ys) N/\(∀b∈N,b∈f)/\news.length=ys.length*sz/\(∀u∈news,u.oneCell'=true):=by
 rcases h.kind with hh|hh|hh|hh|hh|hh|hh|hh|hh|hh
 ·obtain⟨_,_,_,hh,_⟩:=hh;cases hh
 ·obtain⟨_,_,hh,_⟩:=hh;cases hh
 ·obtain⟨_,_,hh,_⟩:=hh;cases hh
 ·obtain⟨p,r,rfl,hh,rfl⟩:=hh;cases hh;refine⟨p,r,[],[],rfl,?_, .nil,by simp,by simp,by simp⟩;cases p with
  |none=>exact .inl ⟨rfl,rfl,rfl⟩
  |some p=>exact .inr ⟨p,rfl,by simp,by simp,by simp⟩
 ·obtain⟨b,off,m,r,ys',cs,C,t,fz,sz',f1,rfl,hh,rfl,hb,h1,h2,h3,h4,h5,h6,Gi,h7⟩:=hh;cases hh;subst h3;have FU:sz'=sz:=by
   cases ys with
   |nil=>simp at h1
   |cons y ys=>rw[<-h4 y (by simp),hs y (by simp)]
  subst FU;have hl:=h7.len;rw[M8 ys h4]at hl;exact⟨_,r,cs,f1,rfl, .inr ⟨_,rfl,hl,λj u hu=>by rw[Addr.add_lit,D5 hb];exact h6 j u hu,Gi⟩,h7,λq hq=>by simp[hq],hl,Gi⟩
 ·obtain⟨_,_,_,hh,_⟩:=hh;cases hh
 ·obtain⟨_,_,_,hh,_⟩:=hh;cases hh
 ·obtain⟨_,_,_,_,_,_,_,hh,_⟩:=hh;cases hh
 ·obtain⟨_,_,_,_,hh,_⟩:=hh;cases hh
 ·obtain⟨_,hh,_⟩:=hh;cases hh
end
section
variable {P:Program} {c:Cx} {n nx:Nat} {sl sl0:Nat->SV} {hp hp0:Nat->Option Ah} {a:Act} {o:Oper} {gs:Gd} {e:A2} {sg:BR} {nv:Nat}
theorem Ng(hp:Nat->Option Ah)(l m:List (Nat × Ah)):A8 hp (l++m)=A8 (A8 hp l) m:=by simp[A8,List.foldl_append]
theorem x6(h:Rel c n sl hp a)(hs:∀t e,hp0 t=some e->hp t=some e)(k:Bc c.ρ gs){el:TypeId}{s:SV}{v:Value}(hr:SR c [s] [v]){y:E}(hy:Bj hp0 gs AW s=some y){fz:List (Nat × Ah)}{d:Bool}{ck:Cn}(ht:Sa P hp0 gs el s y=some (fz,d,ck))(hc:ck.den c.ρ):
  ∃ts ys q r news N,Dz hp0 gs ts=some fz/\y.den c.ρ= .sl ys/\(∀z∈ys,z.cells.length=P.cellsOf el)/\v= .slice q ys.length r/\Src c.w (P.cellsOf el) q ys.length news/\Rd c.w news (AA ys) N/\(∀b∈N,(c.bh (fz.map (·.1))).ok b)/\(d=true->N=[])/\news.length=ys.length*P.cellsOf el/\ ∀u∈news,u.oneCell'=true:=by
 have eh:EH c hp0:=λt e hr=>h.ents t e (KH hs hr);obtain⟨f,q1,q2⟩:=Hd eh k AW hy hr AW (Ay _);unfold Sa at ht;split at ht
 ·simp only[Af,AO]at ht;obtain⟨rfl,rfl,rfl⟩:=ht;obtain⟨ys,CX,AF⟩:=hc;rw[CX]at q1;obtain⟨q,r,news,N,hv,g1,g2,g3,g4,g5⟩:=nI q1 (λz hz=>(AF z hz).1);have hN:N=[]:=Ha g2 (λx hx=>by
   obtain⟨z,hz,hx⟩:=List.mem_flatMap.1 hx;exact(AF z hz).2 x hx)
  exact⟨[],ys,q,r,news,N,rfl,CX,λz hz=>(AF z hz).1,hv,g1,g2,by simp[hN],λ_=>hN,g4,g5⟩
 ·split at ht
  ·rename_i Hz;obtain⟨l,hl,ht⟩:=Aq.1 ht;simp only[AO]at ht;obtain⟨rfl,rfl,rfl⟩:=ht;obtain⟨ys,CX,AF⟩:=hc;rw[CX]at q1;obtain⟨q,r,news,N,hv,g1,g2,g3,g4,g5⟩:=nI q1 AF;exact⟨_,ys,q,r,news,N,hl,CX,AF,hv,g1,g2,λb hb=>RH h eh k hl Hz (q2 b (g3 b hb)),by simp,g4,g5⟩
  ·cases ht
theorem Ju{el:TypeId}(h:GB P el=true):∃i z,P.info? el=some i/\i.zero=some z/\z.cells.size=i.size/\0<i.size/\P.cellsOf el=i.size/\P.bytesOf el=i.bytes:=by
 unfold GB at h;cases hi:P.info? el with
 |none=>simp[hi]at h
 |some i=>
  cases hz:i.zero with
  |none=>simp[hi,hz]at h
  |some z=>simp only[hi,hz,Ae,Ax,bne_iff_ne]at h;exact⟨i,z,rfl,hz,h.1,by omega,by simp[Program.cellsOf,hi],by simp[Program.bytesOf,hi]⟩
theorem RA(xs ys:List AV):AA (xs++ys)=AA xs++AA ys:=by simp[AA]
theorem YA(h:Bh P c n nx sl hp a sl0 hp0 o gs){x y:Operand}{tx:TypeId}{cl:Call}(ho:o.op= .call cl)(AF:cl.callee= .builtin .append)(CD:cl.args.toList=[x,y])(Dv:cl.argTypes.toList=[tx,tx])
  {el:TypeId} (Ba:P.underlying tx=some (.slice el)) (hz:GB P el=true) {s2:SV} {ye:E} (AY:Bn sl0 gs y=some s2) (hy:Bj hp0 gs AW s2=some ye) {fz:List (Nat × Ah)} {d:Bool} {ck:Cn} (Ca:Sa P hp0 gs el s2 ye=some (fz,d,ck)) (Ip:ck.den c.ρ)
  {t g:Nat} (Ek:c.A.pin t=none\/g≠0) {c0:E} {d':Bool} (Dn:Cn.den c.ρ (.room c0 ye (P.bytesOf el))) (Ej:∀f,(t,f)∉fz) (AZ: ¬c.K t g)
  {top N0:List Nat} {v:Value} (hv:a.eval x=v) (CE:CQ c.w el (P.cellsOf el) v (c0.den c.ρ) top N0) (Cb:(c.G t).top=top) (Mb:∀b∈N0,c.ok b) (Wt:d'=true->PZ c.w N0/\(c.G t).O=N0) (J5:∀g',c.K t g'->g'<=g) (hU:∀u,u=t->c.U u\/(nx<=u/\u<nx+Bx)) {ckl:List Cn}:
  Aw P o c n nx sl hp gs a {bg:=ckl,val:= .own t g,a6:=fz++ [(t,CC gs (.row el (P.cellsOf el) g (.app c0 ye) (d&&d')))]}:=by
 have Au:cl.args= #[x,y]:=by apply Array.ext';simp[CD]
 have Fq:cl.argTypes= #[tx,tx]:=by apply Array.ext';simp[Dv]
 have Dl:y∈o.op.operands:=by simp[ho,Op.operands,Call.operands,AF,Au]
 obtain⟨i,z,hi,Fo,Eo,BY,B3,Hr⟩:=Ju hz;obtain⟨ts,ys,q,r,news,N,GP,CX,HY,C6,ES,IG,FG,pS,Ta,MD⟩:=x6 h.rel h.hp h.gs (h.ch AY Dl) hy Ca Ip;have C4:=h.rel.freeze h.hp h.gs GP;obtain⟨xs,B9,F9,_,AT⟩:=CE;obtain⟨mm,kk,GX,Dy,Le,Tf⟩:=Dn;rw[B9]at GX;rw[CX]at Dy;simp only[AV.len,AV.int.injEq,true_and]at GX Dy;have Ho:(xs.length+ys.length)*i.bytes<=140737488355328:=by
  rw[<-GX,<-Dy,Hr]at Le;have h9:(((xs.length+ys.length)*i.bytes:Nat):Int)<=140737488355328:=by rw[Int.natCast_mul,Int.natCast_add];exact Le
  omega
 have F2:xs.length+ys.length<=140737488355328:=by rw[<-GX,<-Dy]at Tf;omega
 rw[B3]at ES Ta F9 HY AT;obtain⟨old,hold,E2,Dm,CA⟩:∃old,old.length=xs.length*i.size/\((xs.length=0/\ ∃q,v= .slice q 0 0)\/ ∃g cap C,v= .slice (some ⟨g,0,none⟩) xs.length cap/\xs.length<=cap/\cap<=maxLen/\c.w.heap[g]?=some (.cells C el (0,0))/\C.size=cap*i.size/\old=C.toList.take (xs.length*i.size)/\g∈(c.G t).top)/\Rd c.w old (AA xs) N0/\ ∀u∈old,u.oneCell'=true:=by
  rcases AT with⟨rfl,⟨p,rfl⟩,rfl,rfl⟩|⟨g9,cap,C,rfl,h6,h7,h8,h9,rfl,EM,Ea⟩
  ·exact⟨[],by simp, .inl ⟨rfl,p,rfl⟩, .nil,by simp⟩
  ·refine⟨_,?_, .inr ⟨g9,cap,C,rfl,h6,h7,h8,h9,rfl,by rw[Cb];simp⟩,Ea,EM⟩;have e9:C.toList.length=cap*i.size:=by rw[<-h9];simp
   rw[A1,e9];exact Nat.min_eq_left (BB _ h6)
 obtain⟨v',w',AH,AQ⟩:=aM (P:=P) c.w tx o.type el i z Ba hi Fo Eo BY (λg9=>g9∈(c.G t).top) v xs.length old hold E2 q ys.length r news ES (by simp only[maxLen];omega) Ho;have CN:(execOp a.eval o).run P c.w= .ok (.value v') w':=by simp[execOp,ho,resolve,AF,Au,Fq,invoke,builtin,hv,C6,AH]
 intro next Q hk
 unfold Oper.wp;rw[CN,Oper.upon_value];have pN:(c.bh (fz.map (·.1))).w=c.w:=rfl;have cK:(c.bh (fz.map (·.1))).G t=c.G t:=by simp only[Cx.bh];rw[if_neg];rintro hh;obtain⟨⟨u,f⟩,hf,rfl⟩:=List.mem_map.1 hh;exact Ej f hf
 obtain⟨row,top',Qu,EO,QX,Br,CS⟩:∃row top',c.w.grownBy w' row/\(∀g0,row=some g0->g0∈(c.G t).top\/(g0=c.w.heap.size/\g0<w'.heap.size))/\(top'=[]\/ ∃g0,row=some g0/\top'=[g0])/\
   (DD (c.bh (fz.map (·.1))) ((c.bh (fz.map (·.1))).ax t g w' v' top' (if(d&&d')=true then(c.G t).O else []))-> ∃N',CQ w' el (P.cellsOf el) v' (.sl (xs++ys)) top' N'/\(∀b∈N',b∈N0\/b∈N)/\((d&&d')=true->N'=N0))/\ ∃p m r,v'= .slice p m r:=by
  rcases AQ with⟨rfl,rfl,Dw⟩|⟨g9,cap,C,rfl,h1,h2,h3,h4,h5,h6,h7⟩
  ·have G3:ys=[]:=List.eq_nil_of_length_eq_zero Dw;subst G3;refine⟨if top=[]then none else top.head?,top,⟨rfl,rfl,rfl,Ay _,λ_ _ _=>rfl⟩,λg0 EO=> .inl ?_,?_,λ_=>⟨N0,?_,λb hb=> .inl hb,λ_=>rfl⟩,?_⟩
   ·rw[Cb];split at EO
    ·cases EO
    ·exact List.mem_of_mem_head? EO
   ·rcases AT with⟨_,_,rfl,_⟩|⟨g9,_,_,_,_,_,_,_,rfl,_⟩
    ·exact .inl rfl
    ·exact .inr ⟨g9,by simp,rfl⟩
   ·rw[B3];exact⟨xs,by simp,F9,BY,AT⟩
   ·rcases E2 with⟨_,p,rfl⟩|⟨g9,cap,C,rfl,_⟩
    ·exact⟨_,_,_,rfl⟩
    ·exact⟨_,_,_,rfl⟩
  ·refine⟨some g9,[g9],h6,λg0 EO=> ?_, .inr ⟨g9,rfl,rfl⟩,λF5=>⟨N0++N,⟨xs++ys,rfl,λz hz=> ?_,by rw[B3];exact BY, .inr ⟨g9,cap,C,by simp,by simpa using h1,h2,h3,by rw[B3];exact h4,rfl,?_,?_⟩⟩,λb hb=>Ag.1 hb,λEx=> ?_⟩,_,_,_,rfl⟩
   ·cases EO;exact h7.symm
   ·rcases Ag.1 hz with hz|hz
    ·rw[B3];exact F9 z hz
    ·rw[B3];exact HY z hz
   ·rw[B3];simp only[Ap];rw[h5];intro u hu;rcases Ag.1 hu with hu|hu
    ·exact CA u hu
    ·exact MD u hu
   ·rw[B3];simp only[Ap];rw[h5,RA];refine Rd.app (Dm.frame λb hb=> ?_) (IG.frame λb hb=> ?_)
    ·have Ho:=Dm.inb b hb;exact F5.mem b Ho (Cx.dw (Mb b hb))
    ·have Ho:=IG.inb b hb;exact F5.mem b Ho (FG b hb)
   ·simp only[Ae]at Ex;rw[pS Ex.1];simp
 obtain⟨p9,m9,r9,rP⟩:=CS;have DI:=C4.ax (gs:=gs) (t:=t) (g:=g) (w':=w') (row:=row) (top:=top') (O:=if(d&&d')=true then(c.G t).O else []) (v:=v') Ek AZ Qu (by rw[cK];exact EO) QX (by split;exact .inr (by rw[cK]);exact .inl rfl)
  (.row el (P.cellsOf el) g (.app c0 ye) (d&&d')) (by intros;simp) h.gs (λF5=>by
   obtain⟨N',o1,o2,o3⟩:=Br F5;have AR:∀b∈N',((c.bh (fz.map (·.1))).ax t g w' v' top' (if(d&&d')=true then(c.G t).O else [])).ok b:=by
    intro b hb;rcases o2 b hb with hb|hb
    ·exact F5.ok b (Dm.inb b hb) (Cx.dw (Mb b hb))
    ·exact F5.ok b (IG.inb b hb) (FG b hb)
   refine⟨.inr ⟨rfl,rfl⟩,λg' Cg=> ?_,N',?_,AR,λEx=> ?_,λEx=> ?_⟩
   ·rcases Cg with Cg|⟨_,rfl⟩
    ·exact J5 g' Cg
    ·exact Ay _
   ·have e1:((c.bh (fz.map (·.1))).ax t g w' v' top' (if(d&&d')=true then(c.G t).O else [])).H t g=v':=by simp[Cx.ax]
    have e2:(((c.bh (fz.map (·.1))).ax t g w' v' top' (if(d&&d')=true then(c.G t).O else [])).G t).top=top':=by simp[Cx.ax]
    rw[e1,e2];show CQ w' el (P.cellsOf el) v' (AV.app (c0.den c.ρ) (ye.den c.ρ)) top' N';rw[B9,CX];exact o1
   ·have V7:=o3 Ex;have Wv:d'=true:=by simp only[Ae]at Ex;exact Ex.2
    obtain⟨u1,u2⟩:=Wt Wv;subst V7;refine⟨u1.frame λb hb=>F5.mem b (Dm.inb b hb) (Cx.dw (Mb b hb)),?_⟩;simp only[Cx.ax,if_true,Ex];exact u2
   ·simp[Cx.ax,Ex])
 have Wb:SR ((c.bh (fz.map (·.1))).ax t g w' v' top' (if(d&&d')=true then(c.G t).O else [])) [.own t g] [v']:=by rw[rP];exact .own (.inr ⟨rfl,rfl⟩) (by simp[Cx.ax]) .nil
 refine hk _ ((c.bh (fz.map (·.1))).ax t g w' v' top' (if(d&&d')=true then(c.G t).O else [])) ⟨rfl,rfl,rfl,rfl,λu hu=> ?_⟩ ?_
 ·rcases hu with hu|rfl
  ·exact .inl hu
  ·exact hU u rfl
 ·have:=DI.put (Wb.mkGd gs h.gs) o.dst;rw[Ng];exact this
end
section
variable {P:Program} {c:Cx} {n nx:Nat} {sl sl0:Nat->SV} {hp hp0:Nat->Option Ah} {a:Act} {o:Oper} {gs:Gd} {e:A2} {sg:BR} {nv:Nat}
theorem H2{t el:TypeId}(h:GD P t=some el):P.underlying t=some (.slice el):=by
 unfold GD at h;split at h
 ·simp at h;subst h;assumption
 ·cases h
theorem U9{t el:TypeId}(h:GD P t=some el):Da P t=some el:=by have hu:=H2 h;simp[Da,hu]
theorem xT{ts:List Nat}{l:List (Nat × Ah)}(k:Bc c.ρ gs)(h:Dz hp0 gs ts=some l):∀t f,(t,f)∈l-> ∃g x f',Cp c.ρ (hp0 t) f'/\KE f' g x:=by intro t f hf;obtain⟨_,_,g,x,f',_,r⟩:=(M0 k h).1 t f hf;exact⟨g,x,f',r⟩
theorem xB(h:Bh P c n nx sl hp a sl0 hp0 o gs){x y:Operand}{tx ty:TypeId}{cl:Call}(ho:o.op= .call cl)(AF:cl.callee= .builtin .append)(CD:cl.args.toList=[x,y])(Dv:cl.argTypes.toList=[tx,ty])
  {s1 s2:SV} (BA:Bn sl0 gs x=some s1) (AY:Bn sl0 gs y=some s2) (he:Zq P hp0 gs nx tx ty s1 s2=some e) (hc:∀q∈e.bg,Cn.den c.ρ q):Aw P o c n nx sl hp gs a e:=by
 have Au:cl.args= #[x,y]:=by apply Array.ext';simp[CD]
 have DK:x∈o.op.operands:=by simp[ho,Op.operands,Call.operands,AF,Au]
 unfold Zq at he;split at he
 ·cases he
 rename_i IL;have IL:tx=ty:=by simpa using IL
 subst IL;split at he
 ·rename_i el Ba;have Ba:=H2 Ba;split at he
  ·cases he
  rename_i hz;have hz:GB P el=true:=by simpa using hz
  split at he
  ·cases he
  rename_i ye hy;split at he
  ·cases he
  rename_i fz d ck Ca;obtain⟨ts,GP⟩:∃ts,Dz hp0 gs ts=some fz:=by
   unfold Sa at Ca;split at Ca
   ·simp only[Af,AO]at Ca;obtain⟨rfl,_⟩:=Ca;exact⟨[],rfl⟩
   ·split at Ca
    ·obtain⟨l,hl,Ca⟩:=Aq.1 Ca;simp only[AO]at Ca;obtain⟨rfl,_⟩:=Ca;exact⟨_,hl⟩
    ·cases Ca
  have r1:=h.ch BA DK;have fresh:∀f,(nx,f)∉fz:=λf hf=>by
   obtain⟨_,_,_,r,_⟩:=xT (c:=c) h.gs GP nx f hf;have r:=KH h.hp r;cases hh:hp nx with
   |none=>rw[hh]at r;exact r.elim
   |some e9=>exact LF h (h.rel.cg nx e9 hh)
  have hK:∀g,¬c.K nx g:=λg hg=>LF h (h.rel.bc _ _ hg);have FT:=h.rel.off nx (λe9 hr=>by
   cases hh:hp nx with
   |none=>rw[hh]at hr;exact hr.elim
   |some e8=>exact LF h (h.rel.cg nx e8 hh))
  have Tc:c.A.pin nx=none:=by
   cases hh:c.A.pin nx with
   |none=>rfl
   |some v=>exact absurd (h.rel.base.pins nx v hh).1 (LF h)
  have NO:∀u,u=nx->c.U u\/(nx<=u/\u<nx+Bx):=λu hu=> .inr ⟨by omega,by rw[hu];simp[Bx]⟩;have dQ:P.cellsOf el≠0:=by obtain⟨i,_,_,_,_,h1,h2,_⟩:=Ju hz;omega
  split at he
  ·rename_i t g;split at he
   ·rename_i e' sz' g' c0 d' hl;split at he
    ·rename_i hh;obtain⟨rfl,rfl,rfl,rfl,Ej⟩:=hh;simp only[Af]at he;subst he;have E1:=Cv hl h.gs;obtain⟨q1,q2,N,q3,q4,q5,q6⟩:=h.eh t _ E1;generalize hv:a.eval x=v at r1;cases r1 with
     |own k1 k2 _=>
      have:=YA (nx:=nx) h ho AF CD Dv Ba hz AY hy Ca (hc _ (by simp)) (t:=t) (g:=g+1) (.inr (by omega)) (c0:=c0) (d':=d') (hc _ (by simp)) (λf hf=>by simp only[Bt,List.contains_eq_mem,decide_eq_false_iff_not]at Ej;exact Ej (List.mem_map.2 ⟨_,hf,rfl⟩)) (λhh=>by have:=q2 _ hh;omega) hv (by rw[<-k2];exact q3) rfl q4 q5 (λg' Cg=>by have:=q2 _ Cg;omega) (λu hu=> .inl (by rw[hu];exact h.rel.bc t g q1)) (ckl:=[.room c0 ye (P.bytesOf el),ck])
      exact this
    ·cases he
   ·cases he
  ·simp only[Af]at he;subst he;generalize hv:a.eval x=v at r1;cases r1 with
   |emp _=>have:=YA (nx:=nx) h ho AF CD Dv Ba hz AY hy Ca (hc _ (by simp)) (t:=nx) (g:=0) (.inl Tc) (c0:= .lst .nil) (d':=true) (top:=[]) (N0:=[]) (hc _ (by simp)) fresh (hK 0) hv ⟨[],rfl,by simp,by omega, .inl ⟨rfl,⟨_,rfl⟩,rfl,rfl⟩⟩ FT.1 (by simp) (λ_=>⟨rfl,FT.2⟩) (λg' Cg=>absurd Cg (hK g')) NO (ckl:=[.room (.lst .nil) ye (P.bytesOf el),ck]);rw[Bool.and_true]at this;exact this
  ·simp only[Af]at he;subst he;generalize hv:a.eval x=v at r1;cases r1 with
   |bq _=>have:=YA (nx:=nx) h ho AF CD Dv Ba hz AY hy Ca (hc _ (by simp)) (t:=nx) (g:=0) (.inl Tc) (c0:= .lst .nil) (d':=true) (top:=[]) (N0:=[]) (hc _ (by simp)) fresh (hK 0) hv ⟨[],rfl,by simp,by omega, .inl ⟨rfl,⟨_,rfl⟩,rfl,rfl⟩⟩ FT.1 (by simp) (λ_=>⟨rfl,FT.2⟩) (λg' Cg=>absurd Cg (hK g')) NO (ckl:=[.room (.lst .nil) ye (P.bytesOf el),ck]);rw[Bool.and_true]at this;exact this
  ·cases he
 ·cases he
end
section
variable {P:Program} {c:Cx} {n nx:Nat} {sl sl0:Nat->SV} {hp hp0:Nat->Option Ah} {a:Act} {o:Oper} {gs:Gd} {e:A2} {sg:BR} {nv:Nat}
theorem Rr:∀{ts us:List Nat} {l m:List (Nat × Ah)},Dz hp0 gs ts=some l->Dz hp0 gs us=some m->Dz hp0 gs (ts++us)=some (l++m)
 | [],us,l,m,h,k=>by simp[Dz]at h;subst h;simpa using k
 |t::ts,us,l,m,h,k=>by
  unfold Dz at h;simp only[List.cons_append];unfold Dz;split at h
  ·rename_i ety sz g x d l' hl Bw;have ih:=Rr Bw k;split at h
   ·rename_i hg;simp at h;subst h;simp[hl,ih,hg]
   ·cases h
  ·rename_i ety sz dl g ep x l' hl Bw;have ih:=Rr Bw k;split at h
   ·rename_i hg;simp at h;subst h;simp[hl,ih,hg]
   ·cases h
  ·rename_i g x l' hl Bw;have ih:=Rr Bw k;simp at h;subst h;simp[hl,ih]
  ·rename_i ty g cs l' hl Bw;have ih:=Rr Bw k;simp at h;subst h;simp[hl,ih]
  ·cases h
theorem gV{ts us:List Nat}(hs:∀t∈ts,t∈us){b:Nat}(h:(c.bh ts).ok b):(c.bh us).ok b:=by refine⟨λhm=>h.1 ?_,h.2⟩;obtain⟨u,hu,hb⟩:=Cx.ie hm;exact⟨u,by simp only[Cx.bh];rw[if_neg (λhh=>hu (hs u hh))];exact hb⟩
theorem Zp{w:World}{v:Value}{x:AV}{f:List Nat}{t:TypeId}(h:Rd w [v] [x] f)(hg:An P t=true\/P.cellsOf t=1)(hx:if An P t then∃cs,x= .agg cs/\cs.length=P.cellsOf t else(∀cs,x≠ .agg cs)/\ ∀cs,x≠ .tup cs):
  Rd w v.cells.toList x.cells f/\(∀u∈v.cells.toList,u.oneCell'=true)/\x.cells.length=P.cellsOf t/\v.cells.size=P.cellsOf t:=by
 split at hx
 ·obtain⟨cs,rfl,hl⟩:=hx;obtain⟨as_,rfl,h1,h2⟩:=Jc h rfl;have:=h2.len;exact⟨by simpa[Value.cells,AV.cells]using h2,by simpa[Value.cells]using h1,hl,by simp[Value.cells];omega⟩
 ·rename_i qU;have h1:P.cellsOf t=1:=by rcases hg with h'|h';exact absurd h' qU;exact h'
  have CA:=YV h hx.1 hx.2;have F9:x.cells=[x]:=by cases x<;>first|rfl|exact absurd rfl (hx.1 _)
  rw[one_cells CA,F9];exact⟨by simpa using h,by simpa using CA,by simp[h1],by simp[h1]⟩
theorem fS(h:Rel c n sl hp a)(hs:∀t e,hp0 t=some e->hp t=some e)(k:Bc c.ρ gs){t:TypeId}(hg:An P t=true\/P.cellsOf t=1):∀(ss:List SV) (vs:List Value) {xs:List E} {fz:List (Nat × Ah)} {d:Bool} {ck:List Cn},SR c ss vs->R4 P hp0 gs t ss=some (xs,fz,d,ck)->(∀q∈ck,q.den c.ρ)->
  ∃N,Rd c.w (vs.flatMap λv=>v.cells.toList) (AA (xs.map (E.den c.ρ))) N/\(d=true->N=[])/\(∃ts,Dz hp0 gs ts=some fz)/\(∀b∈N,(c.bh (fz.map (·.1))).ok b)/\(∀v∈vs,v.cells.size=P.cellsOf t/\ ∀u∈v.cells.toList,u.oneCell'=true)/\(∀x∈xs,(x.den c.ρ).cells.length=P.cellsOf t)/\xs.length=vs.length
 | [],vs,xs,fz,d,ck,hr,ht,hc=>by simp[R4]at ht;obtain⟨rfl,rfl,rfl,rfl⟩:=ht;cases hr;exact⟨[],by simpa[AA]using Rd.nil,λ_=>rfl,⟨[],rfl⟩,by simp,by simp,by simp,rfl⟩
 |s::ss,[],xs,fz,d,ck,hr,ht,hc=>by have:=hr.len;simp at this
 |s::ss,v::vs,xs,fz,d,ck,hr,ht,hc=>by
  obtain⟨r1,r2⟩:=hr.bu;unfold R4 at ht;split at ht
  ·rename_i x fz1 d1 ck1 xs2 fz2 d2 ck2 h1 h2;simp only[Af,AO]at ht;obtain⟨rfl,rfl,rfl,rfl⟩:=ht;obtain⟨f,q1,q2,⟨ts1,q3,q4⟩,q5⟩:=gD h hs k r1 h1 (λq hq=>hc q (by simp[hq]));obtain⟨N,p1,p2,⟨ts2,p3⟩,p4,p5,p6,p7⟩:=fS h hs k hg ss vs r2 h2 (λq hq=>hc q (by simp[hq]));obtain⟨o1,o2,o3,o4⟩:=Zp (P:=P) q1 hg q5;refine⟨f++N,?_,λhd=> ?_,⟨_,Rr q3 p3⟩,λb hb=> ?_,?_,?_,by simp[p7]⟩
   ·simpa[AA]using o1.app p1
   ·simp only[Ae]at hd;rw[q2 hd.1,p2 hd.2];rfl
   ·rcases Ag.1 hb with hb|hb
    ·exact gV (λt ht=>by simp only[List.map_append,Ag];exact .inl ht) (q4 b hb)
    ·exact gV (λt ht=>by simp only[List.map_append,Ag];exact .inr ht) (p4 b hb)
   ·intro u hu;rcases Ad.1 hu with rfl|hu
    ·exact⟨o4,o2⟩
    ·exact p5 u hu
   ·intro u hu;rcases Ad.1 hu with rfl|hu
    ·exact o3
    ·exact p6 u hu
  ·cases ht
theorem Zd{sz:Nat}(place:Nat->Option (Nat × Nat))(GV:∀i,place i=some (i*sz,sz)):∀(vs:List Value) (k:Nat) (C:Array Value) (pre suf:List Value),C.toList=pre++suf->pre.length=k*sz->suf.length=vs.length*sz->(∀v∈vs,v.cells.size=sz)->
  ∃C',Instr.fill place C ((vs.zipIdx k).map λp=>(p.2,p.1))=some C'/\C'.toList=pre++vs.flatMap λv=>v.cells.toList
 | [],k,C,pre,suf,h,_,h2,_=>by have:suf=[]:=List.eq_nil_of_length_eq_zero (by simpa using h2);subst this;exact⟨C,rfl,by simpa using h⟩
 |v::vs,k,C,pre,suf,h,h1,h2,h3=>by
  have hv:=h3 v (by simp);simp only[Ao,Nat.add_mul,Nat.one_mul]at h2;have hC:C.size=pre.length+suf.length:=by rw[<-Cc,h,Ap]
  have K3:(v.cells.zipIdx.foldl (λcs (p:Value × Nat)=>cs.setIfInBounds (k*sz+p.2) p.1) C).toList=setVs C.toList (k*sz) v.cells.toList:=by have:=kM v.cells.toList 0 (k*sz) C (by simp;omega);rw[<-Array.foldl_toList,Array.toList_zipIdx];simpa using this
  have Xp:setVs C.toList (k*sz) v.cells.toList=(pre++v.cells.toList)++suf.drop sz:=by unfold setVs;rw[h,<-h1,List.take_left' rfl];congr 1;rw[List.drop_append,List.drop_eq_nil_of_le (by omega)];simp[hv]
  obtain⟨C',g1,g2⟩:=Zd place GV vs (k+1) (v.cells.zipIdx.foldl (λcs (p:Value × Nat)=>cs.setIfInBounds (k*sz+p.2) p.1) C) (pre++v.cells.toList) (suf.drop sz) (by rw[K3,Xp]) (by simp[h1,hv,Nat.add_mul]) (by simp;omega) (λu hu=>h3 u (by simp[hu]));refine⟨C',?_,by rw[g2];simp⟩;simp only[List.zipIdx_cons,List.map_cons];unfold Instr.fill;simp only[GV];rw[if_neg (by simp[hv];omega)];exact g1
theorem Aw.newRow(h:Bh P c n nx sl hp a sl0 hp0 o gs){ts:List Nat}{fz:List (Nat × Ah)}(GP:Dz hp0 gs ts=some fz){el:TypeId}{C:Array Value}{cap:Nat}{xs:List AV}{x:E}{d:Bool}{N:List Nat}{ckl:List Cn}{wd:World}(rT:wd.heap=c.w.heap/\wd.os=c.w.os/\wd.tape=c.w.tape/\wd.output=c.w.output)
  (hr:(execOp a.eval o).run P c.w= .ok (.value (.slice (some ⟨c.w.heap.size,0,none⟩) xs.length cap)) (wd.alloc (.cells C el))) (hx:x.den c.ρ= .sl xs) (BY:P.cellsOf el≠0) (AF:∀y∈xs,y.cells.length=P.cellsOf el) (hle:xs.length<=cap) (Io:cap<=maxLen) (hC:C.size=cap*P.cellsOf el)
  (h1:∀u∈C.toList.take (xs.length*P.cellsOf el),u.oneCell'=true) (hN:Rd c.w (C.toList.take (xs.length*P.cellsOf el)) (AA xs) N) (FG:∀b∈N,(c.bh (fz.map (·.1))).ok b) (hd:d=true->N=[]):
  Aw P o c n nx sl hp gs a {bg:=ckl,val:= .own nx 0,a6:=fz++ [(nx,CC gs (.row el (P.cellsOf el) 0 x d))]}:=by
 intro next Q hk
 unfold Oper.wp;rw[hr,Oper.upon_value];have hU:=LF h;have C4:=h.rel.freeze h.hp h.gs GP;have hK:∀g,¬c.K nx g:=λg hg=>hU (h.rel.bc _ _ hg);have Tc:c.A.pin nx=none:=by
  cases hh:c.A.pin nx with
  |none=>rfl
  |some v=>exact absurd (h.rel.base.pins nx v hh).1 hU
 have FT:=h.rel.off nx (λe9 hr=>by
  cases hh:hp nx with
  |none=>rw[hh]at hr;exact hr.elim
  |some e8=>exact hU (h.rel.cg nx e8 hh))
 obtain⟨w1,w2,w3,w4⟩:=rT;have WI:c.w.grownBy (wd.alloc (.cells C el)) (some c.w.heap.size):=by
  refine⟨w2,w3,w4,?_,λk hk _=> ?_⟩
  ·show c.w.heap.size<=(wd.heap.push _).size;simp[w1]
  ·have:=Below.heap_alloc wd (.cells C el) k (by rw[w1];exact hk);rw[this,w1]
 have K9:(wd.alloc (.cells C el)).heap[c.w.heap.size]?=some (.cells C el (0,0)):=by have:=heap_alloc_new wd (.cells C el);rw[w1]at this;exact this
 have AI:c.w.heap.size<(wd.alloc (.cells C el)).heap.size:=Fv K9;have hO:(c.bh (fz.map (·.1))).G nx=⟨[],[]⟩\/((c.bh (fz.map (·.1))).G nx).O=[]:=by
  right;simp only[Cx.bh];split
  ·rfl
  ·exact FT.2
 have DI:=C4.ax (gs:=gs) (t:=nx) (g:=0) (w':=wd.alloc (.cells C el)) (row:=some c.w.heap.size) (top:=[c.w.heap.size]) (O:=[]) (v:= .slice (some ⟨c.w.heap.size,0,none⟩) xs.length cap) (.inl Tc) (hK 0) WI (λg0 EO=>by cases EO;exact .inr ⟨rfl,AI⟩) (.inr ⟨_,rfl,rfl⟩) (.inl rfl)
  (.row el (P.cellsOf el) 0 x d) (by intros;simp) h.gs (λF5=>by
   refine⟨.inr ⟨rfl,rfl⟩,λg' Cg=> ?_,N,?_,λb hb=>F5.ok b (hN.inb b hb) (FG b hb),λEx=> ?_,λ_=>by simp[Cx.ax]⟩
   ·rcases Cg with Cg|⟨_,rfl⟩
    ·exact absurd Cg (hK g')
    ·exact Ay _
   ·have e1:((c.bh (fz.map (·.1))).ax nx 0 (wd.alloc (.cells C el)) (.slice (some ⟨c.w.heap.size,0,none⟩) xs.length cap) [c.w.heap.size] []).H nx 0= .slice (some ⟨c.w.heap.size,0,none⟩) xs.length cap:=by simp[Cx.ax]
    have e2:(((c.bh (fz.map (·.1))).ax nx 0 (wd.alloc (.cells C el)) (.slice (some ⟨c.w.heap.size,0,none⟩) xs.length cap) [c.w.heap.size] []).G nx).top=[c.w.heap.size]:=by simp[Cx.ax]
    rw[e1,e2];show CQ (wd.alloc (.cells C el)) el (P.cellsOf el) _ (x.den c.ρ) _ N;rw[hx];exact⟨xs,rfl,AF,by omega, .inr ⟨_,cap,C,rfl,hle,Io,K9,hC,rfl,h1,hN.frame λb hb=>F5.mem b (hN.inb b hb) (FG b hb)⟩⟩
   ·rw[hd Ex];exact⟨rfl,by simp[Cx.ax]⟩)
 have Wb:SR ((c.bh (fz.map (·.1))).ax nx 0 (wd.alloc (.cells C el)) (.slice (some ⟨c.w.heap.size,0,none⟩) xs.length cap) [c.w.heap.size] []) [.own nx 0] [.slice (some ⟨c.w.heap.size,0,none⟩) xs.length cap]:=
  .own (.inr ⟨rfl,rfl⟩) (by simp[Cx.ax]) .nil
 refine hk _ ((c.bh (fz.map (·.1))).ax nx 0 (wd.alloc (.cells C el)) (.slice (some ⟨c.w.heap.size,0,none⟩) xs.length cap) [c.w.heap.size] []) ⟨rfl,rfl,rfl,rfl,λu hu=> ?_⟩ ?_
 ·rcases hu with hu|rfl
  ·exact .inl hu
  ·exact .inr ⟨Ay _,by simp[Bx]⟩
 ·have:=DI.put (Wb.mkGd gs h.gs) o.dst;rw[Ng];exact this
theorem fB{t el:TypeId}(hu:P.underlying t=some (.slice el))(Bb:C2 P el=true){i:TypeInfo}{z:Value}(hi:P.info? el=some i)(hz:i.zero=some z)(B3:P.cellsOf el=i.size)(m:Nat)(hle:m*i.size<=2^24)(parts:Array (Nat × Value))(C:Array Value)
  (hf:Instr.fill (λj=>some (j*i.size,i.size)) ((Array.range (m*i.size)).map (λj=>(if m*i.size=0 then #[]else z.cells)[j % (if m*i.size=0 then #[]else z.cells).size]!)) parts.toList=some C) (w:World):
  (Instr.buildSlice t m parts).run P w= .ok (.slice (some ⟨w.heap.size,0,none⟩) m m) (w.alloc (.cells C el)):=by
 have WZ: ¬(2^24<m*i.size):=by omega
 have F7:Array.range 0= #[]:=rfl;by_cases h0:m*i.size=0
 ·simp only[h0,if_true,F7]at hf;have Ql:∀f:Nat->Value,Array.map f #[]= #[]:=λf=>by simp
  rw[Ql]at hf;simp only[Instr.buildSlice,Sem.run_bind,run_underlying hu,Result.andThen_ok,M5 Bb,B3];simp[h0,F7,hf,newRow]
 ·simp only[h0,if_false]at hf;simp only[Instr.buildSlice,Sem.run_bind,run_underlying hu,Result.andThen_ok,M5 Bb,B3];simp[h0,WZ,zeroValue,typeInfo,hi,hz,hf,newRow]
theorem vV(h:Bh P c n nx sl hp a sl0 hp0 o gs){t:TypeId}{m:Nat}{parts:Array (Nat × Operand)}(ho:o.op= .buildSlice t m parts){ps:List (Nat × SV)}(Ld:parts.toList.mapM (λ(p:Nat × Operand)=>(Bn sl0 gs p.2).map λs=>(p.1,s))=some ps)(he:YL P hp0 gs nx t m ps=some e)(hc:∀q∈e.bg,Cn.den c.ρ q):Aw P o c n nx sl hp gs a e:=by
 obtain⟨e1,e2⟩:=UR (c:=c) (a:=a) (parts.toList.map (·.2)) (λx s hx hm=>h.ch hx (by simpa[ho,Op.operands]using hm)) (λx hx=>List.mem_map.2 ⟨x,hx,rfl⟩) Ld;unfold YL at he;split at he
 ·rename_i el Ba;have Ba:=H2 Ba;split at he
  ·cases he
  rename_i Av;simp only[not_or,Bt,Bool.not_eq_false',ne_eq,Bool.not_eq_false,Nat.not_lt,Decidable.not_not]at Av;obtain⟨hz,Bb,Az,hle,Ec⟩:=Av;have Az:An P el=true\/P.cellsOf el=1:=by simpa using Az
  obtain⟨i,z,hi,Fo,Eo,BY,B3,Hr⟩:=Ju hz;split at he
  ·rename_i xs fz d ck QV;split at he
   ·simp only[Af]at he;subst he;obtain⟨N,p1,p2,⟨ts,p3⟩,p4,p5,p6,p7⟩:=fS h.rel h.hp h.gs Az (ps.map (·.2)) (parts.toList.map λp=>a.eval p.2) e2 QV hc;have hlen:(parts.toList.map λp=>a.eval p.2).length=m:=by
     have:ps.length=m:=by have:=congrArg List.length Ec;simpa using this
     have h9:=congrArg List.length e1;simp at h9 ⊢;omega
    have Gw:(parts.map λ(x:Nat × Operand)=>(x.1,a.eval x.2)).toList=((parts.toList.map λp=>a.eval p.2).zipIdx 0).map λp=>(p.2,p.1):=by
     have IA:parts.toList.map (·.1)=List.range m:=by rw[<-e1,Ec]
     apply List.ext_getElem?;intro j;have hj:(parts.toList.map (·.1))[j]?=(List.range m)[j]?:=by rw[IA]
     simp only[Array.toList_map,List.getElem?_map,List.getElem?_zipIdx]at hj ⊢;cases hp:parts.toList[j]? with
     |none=>simp
     |some p=>
      rw[hp]at hj;simp only[Option.map_some,Af]at hj ⊢;have WT:j<m:=by
       rcases Nat.lt_or_ge j m with hh|hh
       ·exact hh
       ·rw[List.getElem?_eq_none (by simpa using hh)]at hj;cases hj
      rw[List.getElem?_range WT]at hj;simp at hj;simp[hj]
    obtain⟨C',f1,f2⟩:=Zd (sz:=i.size) (λj=>some (j*i.size,i.size)) (λj=>rfl) (parts.toList.map λp=>a.eval p.2) 0 ((Array.range (m*i.size)).map (λj=>(if m*i.size=0 then #[]else z.cells)[j % (if m*i.size=0 then #[]else z.cells).size]!)) [] _ (by simp;rfl) (by simp) (by simp[hlen]) (λv hv=>by rw[<-B3];exact(p5 v hv).1);have Du:C'.toList.length=m*P.cellsOf el:=by
     rw[f2,B3];simp only[List.nil_append];have:∀(L:List Value),(∀v∈L,v.cells.size=i.size)->(L.flatMap λv=>v.cells.toList).length=L.length*i.size:=by
      intro L
      induction L with
      |nil=>intro _;simp
      |cons v L ih=>intro hL;simp only[List.flatMap_cons,Ap,Ao,Cc];rw[ih (λu hu=>hL u (by simp[hu])),hL v (by simp),Nat.add_mul];omega
     rw[this _ (λv hv=>by rw[<-B3];exact(p5 v hv).1),hlen]
    have G2:(xs.map (E.den c.ρ)).length=m:=by rw[List.length_map,p7,hlen]
    have B5:C'.toList.take ((xs.map (E.den c.ρ)).length*P.cellsOf el)=(parts.toList.map λp=>a.eval p.2).flatMap λv=>v.cells.toList:=by rw[G2,<-Du,List.take_length,f2];simp
    refine Aw.newRow (xs:=xs.map (E.den c.ρ)) (N:=N) (C:=C') (cap:=m) (wd:=c.w) h p3 ⟨rfl,rfl,rfl,rfl⟩ ?_ (by simp[E.den,EL.c8]) (by omega) (λy hy=> ?_) (by omega) (by simp only[maxLen];have:m*1<=m*P.cellsOf el:=Nat.mul_le_mul_left _ (by omega);omega) (by rw[<-Cc,Du]) ?_ (by rw[B5];exact p1) p4 p2
    ·rw[G2];have AH:=fB (P:=P) Ba Bb hi Fo B3 m (by rw[<-B3];omega) (parts.map λ(x:Nat × Operand)=>(x.1,a.eval x.2)) C' (by rw[Gw];exact f1) c.w;simp only[execOp,ho,Sem.run_bind];rw[AH];rfl
    ·obtain⟨q,hq,rfl⟩:=List.mem_map.1 hy;exact p6 q hq
    ·rw[B5];intro u hu;obtain⟨v,hv,hu⟩:=List.mem_flatMap.1 hu;exact(p5 v hv).2 u hu
   ·cases he
  ·cases he
 ·cases he
end
end
end Go.Proofs.YtkpifpljpoochaaGreatDoor

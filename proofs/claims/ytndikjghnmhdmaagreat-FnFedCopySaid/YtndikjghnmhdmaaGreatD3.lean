/- Parts of a proof, joined: WA, VJa, VK, VL, VM, VN, VO, VP, VQ, VR, VS, VT, VU, VV, VW. -/
import Derived.Test.YtndikjghnmhdmaaGreatD2
import Derived.WalkSpells
import Derived.Laws.BytesArg
set_option linter.unusedVariables false
set_option linter.unusedSimpArgs false
namespace Go.Proofs.YtndikjghnmhdmaaGreat
open Go.RowKit
section
theorem BG.{u}{α:Type u}{a:Array α}:a.toList.length=a.size:=Array.length_toList
theorem AP.{u,v}{α:Type u}{β:Type v}(a:α)(b:β)(c:α)(d:β):((a,b)=(c,d))=(a=c/\b=d):=Prod.mk.injEq a b c d
theorem Ih:∀{l:List (Nat × Ae)} {t:Nat} {e:Ae},AA l t=some e->(t,e)∈l
 | [],_,_,h=>by simp[AA]at h
 |(u,f)::l,t,e,h=>by
  simp only[AA]at h;split at h
  ·rename_i hu;subst hu;simp at h;subst h;simp
  ·exact List.mem_cons_of_mem _ (Ih h)
theorem L3{α:Type}:∀{l:List (Nat × α)} {t:Nat} {e:α},l.lookup t=some e->(t,e)∈l
 | [],_,_,h=>by simp at h
 |(u,f)::l,t,e,h=>by
  simp only[List.lookup_cons]at h;split at h
  ·rename_i hu;simp at h hu;subst h;subst hu;simp
  ·exact List.mem_cons_of_mem _ (L3 h)
theorem Wf:∀{θ:List (Nat × Option Nat)},Mc θ=true-> ∀{t u v:Nat},(t,some v)∈θ->(u,some v)∈θ->t=u
 | [],_,t,u,v,h,_=>by simp at h
 |(p,q)::θ,hn,t,u,v,h1,h2=>by
  have vA:Mc θ=true:=by cases q<;>(simp only[Mc,Ab]at hn;exact hn.2)
  have key:∀x,(p,some v)=(p,q)->(x,some v)∈θ->False:=by intro x hq hx;cases hq;simp only[Mc,Ab,A7]at hn;have:=hn.1 _ hx;simp at this
  rcases Ad.1 h1 with h3|h3<;>rcases Ad.1 h2 with h4|h4
  ·cases h3;cases h4;rfl
  ·cases h3;exact(key u rfl h4).elim
  ·cases h4;exact(key t rfl h3).elim
  ·exact Wf vA h3 h4
def BY(hp:List (Nat × Ae))(t:Nat):Option Nat:=match AA hp t with
 |some (.box ..)=>some 0
 |some (.row _ _ g _ _)=>some g
 |some (.bf g _)=>some g
 |some (.deep _ _ _ g _ _)=>some g
 |_=>none
def GG(hp:List (Nat × Ae))(t:Nat):Bool:=match AA hp t with
 |some (.box ..)=>true
 |some (.row ..)=>true
 |some (.deep ..)=>true
 |_=>false
def Lg(pat leaf:Option Ae)(g:GI):GI:=match pat,leaf with
 |some (.row ..),some (.deep ..)=>⟨g.top.take 1,[]⟩
 |_,_=>g
theorem zxe{p l:Option Ae}{g:GI}{b:Nat}(h:b∈(Lg p l g).top):b∈g.top:=by
 unfold Lg at h;split at h
 ·exact Bw h
 ·exact h
theorem zww{p l:Option Ae}{g:GI}{b:Nat}(h:b∈(Lg p l g).own):b∈g.own:=by
 unfold Lg at h;split at h
 ·simp only[GI.own,AB]at h;simp[GI.own,Bw h]
 ·exact h
theorem zt3{p l:Option Ae}{g:GI}(h:g.own.Nodup):(Lg p l g).own.Nodup:=by
 unfold Lg;split
 ·simp only[GI.own,AB]at h ⊢;exact List.Sublist.nodup (List.Sublist.trans (List.take_sublist _ _) (List.sublist_append_left _ _)) h
 ·exact h
def C3(c:Cx)(ρ:List AV)(θ:List (Nat × Option Nat))(pat leaf:St):Cx:=
 {c with
  ρ:=ρ
  G:=λt=>if GG pat.hp t then(match θ.lookup t with|some (some t')=>Lg (AA pat.hp t) (AA leaf.hp t') (c.G t')|_=>⟨[],[]⟩)else⟨[],[]⟩
  K:=λt g=>BY pat.hp t=some g
  H:=λt _=>match θ.lookup t with|some (some t')=>c.H t' ((BY leaf.hp t').getD 0)|_=> .slice none 0 0
  U:=λt=>t<pat.nx
  E:=λt=>match AA pat.hp t with|some (.deep _ _ _ _ ep _)=>ep|_=>0}
section
variable {c:Cx} {ρ:List AV} {nv n:Nat} {es:List E} {θ:List (Nat × Option Nat)} {pat leaf:St} {sl:Nat->SV} {a:Act}
theorem Mf{t b:Nat}(h:b∈((C3 c ρ θ pat leaf).G t).own):GG pat.hp t=true/\ ∃t',θ.lookup t=some (some t')/\(b∈((C3 c ρ θ pat leaf).G t).top->b∈(c.G t').top)/\b∈(c.G t').own:=by
 simp only[C3]at h ⊢;split at h
 ·rename_i ho;split at h
  ·rename_i t' ht;exact⟨ho,t',ht,λhb=>by rw[if_pos ho]at hb;exact zxe hb,zww h⟩
  ·simp[GI.own]at h
 ·simp[GI.own]at h
theorem P3{b:Nat}(h:c.ok b):(C3 c ρ θ pat leaf).ok b:=by refine⟨λ⟨t,ht⟩=> ?_,h.2⟩;obtain⟨_,t',_,hg,_⟩:=Mf (b:=b) (by simp only[GI.own,Af];exact .inl ht);exact h.1 ⟨t',hg ht⟩
theorem KV(hp:ρ<+:c.ρ)(hn:ρ.length=nv){x y:E}(h:I6 nv es x y=true):x.den (ρ++(EL.of es).den c.ρ)=y.den c.ρ:=by
 obtain⟨τ,hτ⟩:=hp;have Kn:x.sc nv=true->x.beq y=true->x.den (ρ++(EL.of es).den c.ρ)=y.den c.ρ:=by intro h1 h2;rw[<-E.ak c.ρ x y h2];subst hn;generalize hq:(EL.of es).den c.ρ=q;rw[E.ax ρ q τ x h1,hτ]
 unfold I6 at h;split at h
 ·rename_i i;split at h
  ·rename_i hi;exact Kn (by simpa[E.sc]using hi) h
  ·rename_i hi;split at h
   ·rename_i z hz;rw[<-E.ak c.ρ z y h];simp only[E.den,EL.c8];rw[List.getElem?_append_right (by omega),hn,List.getElem?_map,hz];rfl
   ·cases h
 ·simp only[Ab]at h;exact Kn h.1 h.2
theorem zwK(hrel:Rel c n sl (AA leaf.hp) a){s:SV}{v:Value}{y:E}(hs:SR c [s] [v])(h:Ir leaf s=some y):∃f,Rd c.w [v] [y.den c.ρ] f/\ ∀b∈f,c.dr (BV (AA leaf.hp) [] (AZ+1) [s]) b:=
 G8 (λt e hr=>hrel.ents t e hr) (ED _) AZ h hs AZ (Av _)
mutual
theorem sP(hrel:Rel c n sl (AA leaf.hp) a)(hp:ρ<+:c.ρ)(hn:ρ.length=nv)(Ce:∀t e,(t,e)∈pat.hp->Hb nv es θ pat leaf t e=true):∀(m:Nat) {p s:SV} {v:Value},R3 nv es θ pat leaf m p s=true->SR c [s] [v]->SR (C3 c (ρ++(EL.of es).den c.ρ) θ pat leaf) [p] [v]
 |0,p,s,v,h,_=>by simp[R3]at h
 |m+1,p,s,v,h,hs=>by
  unfold R3 at h;split at h
  ·exact .undef .nil
  ·rename_i x;split at h
   ·rename_i y hy;simp only[Ab,A7,Bool.or_eq_true]at h;obtain⟨f,hf,Hv⟩:=zwK hrel hs hy;have hx:=KV (c:=c) hp hn h.1;refine .e (by rw[show(C3 c (ρ++(EL.of es).den c.ρ) θ pat leaf).ρ=ρ++(EL.of es).den c.ρ from rfl,hx];exact hf) (λb hb=> ?_) .nil;rcases Hv b hb with hb|⟨t',LN,hb⟩
    ·exact P3 hb
    ·refine⟨λ⟨u,hu⟩=> ?_, .inr (hrel.gw.allow t' b (by simp[GI.own,hb]))⟩;obtain⟨ho,v',hl,hg,Q1⟩:=Mf (b:=b) (by simp only[GI.own,Af];exact .inl hu);have hv:v'=t':=by
      refine Classical.byContradiction λBM=>hrel.gw.cd v' t' BM b Q1 (by simp[GI.own,hb])
     subst hv;have:=h.2 _ LN _ (L3 hl);simp only[bne_self_eq_false,Bv,false_or]at this;unfold GG at ho;split at this
     ·rename_i hh;rw[hh]at ho;simp at ho
     ·rename_i hh;rw[hh]at ho;simp at ho
     ·cases this
   ·cases h
  ·split at h
   ·cases hs with
    |bq _=>exact .bq .nil
   ·cases h
  ·split at h
   ·cases hs with
    |emp _=>exact .emp .nil
   ·cases hs with
    |bq _=>exact .emp .nil
   ·cases h
  ·rename_i t g;have key:∀t' v',BY pat.hp t=some g->θ.lookup t=some (some t')->JJ leaf.hp t' v'=true->SR c [.own t' v'] [v]->SR (C3 c (ρ++(EL.of es).den c.ρ) θ pat leaf) [.own t g] [v]:=by
    intro t' v' hg hl hv hs;cases hs with
    |own h1 h2 _=>
     refine .own hg ?_ .nil;show(match θ.lookup t with|some (some t')=>c.H t' ((BY leaf.hp t').getD 0)|_=>Value.slice none 0 0)=_;rw[hl];have:(BY leaf.hp t').getD 0=v':=by
      unfold JJ at hv;unfold BY;split at hv
      ·rename_i hh;rw[hh];simpa using(AJ.1 hv).symm
      ·rename_i hh;rw[hh];simpa using(AJ.1 hv).symm
      ·rename_i hh;rw[hh];simpa using(AJ.1 hv).symm
      ·cases hv
     show c.H t' ((BY leaf.hp t').getD 0)=_;rw[this];exact h2
   split at h
   ·rename_i g' _ _ D3;simp only[Ab,AJ]at h;obtain⟨rfl,h⟩:=h;split at h
    ·simp only[Ab,AJ]at h;exact key _ _ (by simp[BY,D3]) h.1 h.2 hs
    ·rw[AJ]at h;cases hs with
     |bq _=>refine .own (p:=none) (q:=0) (r:=0) (by show BY pat.hp t=some g;simp[BY,D3]) ?_ .nil;show(match θ.lookup t with|some (some t')=>c.H t' ((BY leaf.hp t').getD 0)|_=>Value.slice none 0 0)=_;rw[h]
    ·cases h
   ·rename_i g' _ D3;simp only[Ab,AJ]at h;obtain⟨rfl,h⟩:=h;split at h
    ·simp only[Ab,AJ]at h;exact key _ _ (by simp[BY,D3]) h.1 h.2 hs
    ·cases h
   ·rename_i g' _ _ D3;simp only[Ab,AJ]at h;obtain⟨rfl,h⟩:=h;split at h
    ·simp only[Ab,AJ]at h;exact key _ _ (by simp[BY,D3]) h.1 h.2 hs
    ·rw[AJ]at h;cases hs with
     |bq _=>refine .own (p:=none) (q:=0) (r:=0) (by show BY pat.hp t=some g;simp[BY,D3]) ?_ .nil;show(match θ.lookup t with|some (some t')=>c.H t' ((BY leaf.hp t').getD 0)|_=>Value.slice none 0 0)=_;rw[h]
    ·cases h
   ·cases h
  ·rename_i t o;split at h
   ·rename_i ty g cs D3;split at h
    ·rename_i t' o';simp only[Ab,AJ]at h;obtain⟨rfl,hl⟩:=h;have Hk:=Ce t _ (Ih D3);simp only[Hb,hl]at Hk;split at Hk
     ·rename_i CV;cases hs with
      |ca h1 h2 _=>
       refine .ca (by show BY pat.hp t=some 0;simp[BY,D3]) ?_ .nil;show(match θ.lookup t with|some (some t')=>c.H t' ((BY leaf.hp t').getD 0)|_=>Value.slice none 0 0)=_;rw[hl];have:(BY leaf.hp t').getD 0=0:=by simp[BY,CV]
       simp only[this];exact h2
     ·cases Hk
    ·cases h
   ·cases h
  ·cases h
  ·rename_i x i z o;split at h
   ·rename_i y j z' o';simp only[Ab,AJ]at h;obtain⟨⟨⟨⟨⟨rfl,rfl⟩,h1⟩,h2⟩,h3⟩,h4⟩:=h;have hx:x.den (ρ++(EL.of es).den c.ρ)=y.den c.ρ:=by
     obtain⟨τ,hτ⟩:=hp;rw[<-E.ak c.ρ x y h2];subst hn;generalize (EL.of es).den c.ρ=q;rw[E.ax ρ q τ x h1,hτ]
    have hi:i.den (ρ++(EL.of es).den c.ρ)=j.den c.ρ:=by obtain⟨τ,hτ⟩:=hp;rw[<-E.ak c.ρ i j h4];subst hn;generalize (EL.of es).den c.ρ=q;rw[E.ax ρ q τ i h3,hτ]
    cases hs with
    |c9 g1 g2 g3 g4 g5 g6 _=>refine .c9 (f:=_) (by show Rd c.w _ [x.den (ρ++(EL.of es).den c.ρ)] _;rw[hx];exact g1) (λb hb=>P3 (g2 b hb)) (by show i.den (ρ++(EL.of es).den c.ρ)=_;rw[hi];exact g3) g4 g5 (by show((x.den (ρ++(EL.of es).den c.ρ)).nth _).cells.length=_;rw[hx];exact g6) .nil
   ·cases h
  ·rename_i x o;split at h
   ·rename_i y o';simp only[Ab,AJ]at h;obtain⟨⟨rfl,h1⟩,h2⟩:=h;have hx:x.den (ρ++(EL.of es).den c.ρ)=y.den c.ρ:=by
     obtain⟨τ,hτ⟩:=hp;rw[<-E.ak c.ρ x y h2];subst hn;generalize (EL.of es).den c.ρ=q;rw[E.ax ρ q τ x h1,hτ]
    cases hs with
    |c7 g1 g2 _=>exact .c7 (by show Rd c.w _ [x.den (ρ++(EL.of es).den c.ρ)] _;rw[hx];exact g1) (λb hb=>P3 (g2 b hb)) .nil
   ·cases h
  ·split at h
   ·cases hs with
    |agg h9 h1 _=>exact .agg h9 (Tp hrel hp hn Ce m h h1) .nil
   ·cases h
  ·split at h
   ·cases hs with
    |tup h1 _=>exact .tup (Tp hrel hp hn Ce m h h1) .nil
   ·cases h
  ·split at h
   ·simp only[Ab,AJ]at h;obtain⟨rfl,h⟩:=h;cases hs with
    |fn h1 _=>exact .fn (Tp hrel hp hn Ce m h h1) .nil
   ·cases h
  ·cases h
  ·cases h
  ·cases h
  ·cases h
  ·rename_i i;split at h
   ·rename_i j;simp only[Ab,AJ,Aq]at h;obtain⟨rfl,hi⟩:=h;cases hs with
    |lent g1 _=>
     have hx:(E.var i).den (ρ++(EL.of es).den c.ρ)=(E.var i).den c.ρ:=by obtain⟨τ,hτ⟩:=hp;subst hn;generalize (EL.of es).den c.ρ=q;rw[E.ax ρ q τ (.var i) (by simpa[E.sc]using hi),hτ]
     exact .lent (show c.A.lo v ((E.var i).den (ρ++(EL.of es).den c.ρ)) by rw[hx];exact g1) .nil
   ·cases h
theorem Tp(hrel:Rel c n sl (AA leaf.hp) a)(hp:ρ<+:c.ρ)(hn:ρ.length=nv)(Ce:∀t e,(t,e)∈pat.hp->Hb nv es θ pat leaf t e=true):∀(m:Nat) {ps ss:List SV} {vs:List Value},GN nv es θ pat leaf m ps ss=true->SR c ss vs->SR (C3 c (ρ++(EL.of es).den c.ρ) θ pat leaf) ps vs
 |0,ps,ss,vs,h,_=>by simp[GN]at h
 |m+1,[],[],vs,h,hs=>by cases hs;exact .nil
 |m+1,p::ps,[],vs,h,hs=>by simp[GN]at h
 |m+1,[],s::ss,vs,h,hs=>by simp[GN]at h
 |m+1,p::ps,s::ss,[],h,hs=>by have:=hs.len;simp at this
 |m+1,p::ps,s::ss,v::vs,h,hs=>by simp only[GN,Ab]at h;obtain⟨h1,h2⟩:=hs.br;exact(sP hrel hp hn Ce m h.1 h1).cons (Tp hrel hp hn Ce m h.2 h2)
end
theorem ztD(hrel:Rel c n sl (AA leaf.hp) a)(hp:ρ<+:c.ρ)(hn:ρ.length=nv)(Ce:∀t e,(t,e)∈pat.hp->Hb nv es θ pat leaf t e=true)(hθ:Mc θ=true){t:Nat}{e:Ae}(ht:AA pat.hp t=some e):C5 (C3 c (ρ++(EL.of es).den c.ρ) θ pat leaf) t e:=by
 have h:=Ce t e (Ih ht);have gE:GG pat.hp t=false->(C3 c (ρ++(EL.of es).den c.ρ) θ pat leaf).G t=⟨[],[]⟩:=by intro h0;simp only[C3];rw[if_neg (by rw[h0];simp)]
 have gF:∀t',GG pat.hp t=true->θ.lookup t=some (some t')->(C3 c (ρ++(EL.of es).den c.ρ) θ pat leaf).G t=Lg (AA pat.hp t) (AA leaf.hp t') (c.G t'):=by intro t' h0 hl;simp only[C3];rw[if_pos h0,hl]
 have QR:∀t',GG pat.hp t=true->θ.lookup t=some (some t')->(∀q1 q2 q3 q4 q5 q6,AA leaf.hp t'=some (.deep q1 q2 q3 q4 q5 q6)-> ∀p1 p2 p3 p4 p5,e≠ .row p1 p2 p3 p4 p5)->(C3 c (ρ++(EL.of es).den c.ρ) θ pat leaf).G t=c.G t':=by
  intro t' h0 hl DQ;rw[gF t' h0 hl,ht];unfold Lg;split
  ·rename_i h1 h2;simp only[Ac]at h1;exact absurd h1 (DQ _ _ _ _ _ _ h2 _ _ _ _ _)
  ·rfl
 have Ka:∀t' g,θ.lookup t=some (some t')->BY leaf.hp t'=some g-> ∀g',(C3 c (ρ++(EL.of es).den c.ρ) θ pat leaf).H t g'=c.H t' g:=by intro t' g hl hg g';simp only[C3,hl,hg,CR]
 have Ep:∀g,BY pat.hp t=some g-> ∀g',(C3 c (ρ++(EL.of es).den c.ρ) θ pat leaf).K t g'->g'<=g:=by intro g hg g' hk;have B7:BY pat.hp t=some g':=hk;rw[hg]at B7;cases B7;exact Av _
 cases e with
 |box ty g cs=>
  simp only[Hb]at h;split at h
  ·rename_i t' hl;split at h
   ·rename_i ty' g' ds CV;simp only[Ab,AJ]at h;obtain⟨⟨rfl,rfl⟩,h⟩:=h;obtain⟨b,C,h1,h2,h3,h4,h5,h6,h7⟩:=hrel.ents t' _ (by rw[CV];rfl);have hg:=QR t' (by simp[GG,ht]) hl (by intros;simp);exact⟨b,C,by show BY pat.hp t=some 0;simp[BY,ht],by rw[Ka t' 0 hl (by simp[BY,CV])];exact h2,by rw[hg];exact h3,by rw[hg];exact h4,h5,h6,Tp hrel hp hn Ce _ h h7⟩
   ·cases h
  ·cases h
 |row et z g x d=>
  simp only[Hb]at h;split at h
  ·rename_i t' hl;split at h
   ·rename_i et' z' g' y d' CV;simp only[Ab,AJ,Bool.or_eq_true,Br]at h;obtain⟨⟨⟨rfl,rfl⟩,hx⟩,hd⟩:=h;obtain⟨h1,h2,N,h3,h4,h5,h6⟩:=hrel.ents t' _ (by rw[CV];rfl);have hg:=QR t' (by simp[GG,ht]) hl (λ_ _ _ _ _ _ hh=>by rw[CV]at hh;cases hh);have DA:=KV hp hn hx;have hK:BY pat.hp t=some g:=by simp[BY,ht]
    refine⟨hK,Ep g hK,N,?_,λb hb=>P3 (h4 b hb),λDl=> ?_,λhdf=> ?_⟩
    ·rw[Ka t' g' hl (by simp[BY,CV]),hg];show CA c.w et z _ (x.den (ρ++(EL.of es).den c.ρ)) _ N;rw[DA];exact h3
    ·rw[hg];exact h5 (by rcases hd with hd|hd;rw[Dl]at hd;cases hd;exact hd)
    ·rw[hg];cases d' with
     |false=>exact h6 rfl
     |true=>obtain⟨u1,u2⟩:=h5 rfl;rw[u2];exact u1
   ·rename_i et' z' l' g' ep' y CV;simp only[Ab,AJ,Br]at h;obtain⟨⟨⟨rfl,rfl⟩,hx⟩,rfl⟩:=h;obtain⟨h1,h2,_,h3,h4⟩:=hrel.ents t' _ (by rw[CV];rfl);have hg:(C3 c (ρ++(EL.of es).den c.ρ) θ pat leaf).G t=⟨(c.G t').top.take 1,[]⟩:=by
     rw[gF t' (by simp[GG,ht]) hl,ht,CV];rfl
    have DA:=KV hp hn hx;have hK:BY pat.hp t=some g:=by simp[BY,ht]
    obtain⟨f,k1,k2⟩:=h3.ownRow;have BZ:((c.G t').top.take 1++(c.G t').top.drop 1).Nodup:=by rw[BC];have:=hrel.gw.nodup t';simp only[GI.own,h4,AB]at this;exact this
    refine⟨hK,Ep g hK,f,?_,λb hb=> ?_,λDl=>(by cases Dl),λ_=>by rw[hg]⟩
    ·rw[Ka t' g' hl (by simp[BY,CV]),hg];show CA c.w et z _ (x.den (ρ++(EL.of es).den c.ρ)) _ f;rw[DA];exact k1
    ·have Cv:b∈(c.G t').top:=B1 (k2 b hb);refine⟨λ⟨u,hu⟩=> ?_, .inr (hrel.gw.allow t' b (by simp[GI.own,Cv]))⟩;obtain⟨_,v',Bz,_,Q1⟩:=Mf (b:=b) (by simp only[GI.own,Af];exact .inl hu);have hv:v'=t':=Classical.byContradiction λBM=>hrel.gw.cd v' t' BM b Q1 (by simp[GI.own,Cv]);subst hv;have:=Wf hθ (L3 Bz) (L3 hl);subst this;rw[hg]at hu;exact(List.nodup_append.1 BZ).2.2 b hu b (k2 b hb) rfl
   ·cases h
  ·rename_i hl;simp only[Ab,Aq]at h;have DA:=KV hp hn h.1;have hK:BY pat.hp t=some g:=by simp[BY,ht]
   have hg:(C3 c (ρ++(EL.of es).den c.ρ) θ pat leaf).G t=⟨[],[]⟩:=by simp[C3,hl]
   refine⟨hK,Ep g hK,[],⟨[],?_,by simp,h.2, .inl ⟨rfl,⟨none,?_⟩,by rw[hg],rfl⟩⟩,by simp,λ_=>⟨rfl,by rw[hg]⟩,λ_=>by rw[hg]⟩
   ·show x.den (ρ++(EL.of es).den c.ρ)=_;rw[DA];rfl
   ·simp[C3,hl]
  ·cases h
 |bf g x=>
  have hg:=gE (by simp[GG,ht]);have hK:BY pat.hp t=some g:=by simp[BY,ht]
  simp only[Hb]at h;split at h
  ·rename_i t' hl;have Hv:∀b,b∈(c.G t').top->(C3 c (ρ++(EL.of es).den c.ρ) θ pat leaf).ok b:=by
    intro b hb;refine⟨λ⟨u,hu⟩=> ?_, .inr (hrel.gw.allow t' b (by simp[GI.own,hb]))⟩;obtain⟨ho,v',Bz,Cf,Q1⟩:=Mf (b:=b) (by simp only[GI.own,Af];exact .inl hu);have hv:v'=t':=Classical.byContradiction λBM=>hrel.gw.cd v' t' BM b Q1 (by simp[GI.own,hb]);subst hv;have:=Wf hθ (L3 Bz) (L3 hl);subst this;simp[GG,ht]at ho
   split at h
   ·rename_i et' z' g' y d' CV;obtain⟨h1,h2,N,h3,h4,h5,h6⟩:=hrel.ents t' _ (by rw[CV];rfl);obtain⟨f,r1,r2,_⟩:=h3.rd;refine⟨hK,⟨f,?_,λb hb=>(r2 b hb).elim (Hv b) λhb=>P3 (h4 b hb)⟩,by rw[hg],by rw[hg]⟩;rw[Ka t' g' hl (by simp[BY,CV])];show Rd c.w _ [x.den (ρ++(EL.of es).den c.ρ)] f;rw[KV hp hn h];exact r1
   ·rename_i g' y CV;obtain⟨h1,⟨f,r1,r2⟩,_,_⟩:=hrel.ents t' _ (by rw[CV];rfl);refine⟨hK,⟨f,?_,λb hb=>P3 (r2 b hb)⟩,by rw[hg],by rw[hg]⟩;rw[Ka t' g' hl (by simp[BY,CV])];show Rd c.w _ [x.den (ρ++(EL.of es).den c.ρ)] f;rw[KV hp hn h];exact r1
   ·rename_i et' z' l' g' ep' y CV;obtain⟨h1,h2,_,h3,h4⟩:=hrel.ents t' _ (by rw[CV];rfl);obtain⟨f,r1,r2⟩:=h3.rd;refine⟨hK,⟨f,?_,λb hb=>Hv b (r2 b hb)⟩,by rw[hg],by rw[hg]⟩;rw[Ka t' g' hl (by simp[BY,CV])];show Rd c.w _ [x.den (ρ++(EL.of es).den c.ρ)] f;rw[KV hp hn h];exact r1
   ·cases h
  ·cases h
 |hol=>simp[Hb]at h
 |pre=>simp[Hb]at h
 |deep et z dl g ep x=>
  have hE:(C3 c (ρ++(EL.of es).den c.ρ) θ pat leaf).E t=ep:=by simp[C3,ht]
  have hK:BY pat.hp t=some g:=by simp[BY,ht]
  simp only[Hb]at h;split at h
  ·rename_i t' hl;split at h
   ·rename_i et' z' dl' g' ep' y CV;simp only[Ab,AJ]at h;obtain⟨⟨⟨rfl,rfl⟩,MN⟩,hx⟩:=h;have MN:=AH.ei MN;subst MN;obtain⟨h1,h2,_,h3,h4⟩:=hrel.ents t' _ (by rw[CV];rfl);have hg:=QR t' (by simp[GG,ht]) hl (by intros;simp);refine⟨hK,Ep g hK,hE,?_,by rw[hg];exact h4⟩;rw[Ka t' g' hl (by simp[BY,CV]),hg];show DC c.w _ _ [x.den (ρ++(EL.of es).den c.ρ)] _;rw[KV hp hn hx];exact h3
   ·cases h
  ·rename_i hl;have hg:(C3 c (ρ++(EL.of es).den c.ρ) θ pat leaf).G t=⟨[],[]⟩:=by simp[C3,hl]
   simp only[Ab,Aq,AJ]at h;refine⟨hK,Ep g hK,hE,?_,by rw[hg]⟩;have e1:(C3 c (ρ++(EL.of es).den c.ρ) θ pat leaf).H t g= .slice none 0 0:=by simp[C3,hl]
   rw[e1,hg];show DC c.w _ _ [x.den (ρ++(EL.of es).den c.ρ)] _;rw[KV hp hn h.1.1];exact .void h.1.2 (by rw[AH.ar];exact h.2) .nil
  ·cases h
 |gd gs e=>simp[Hb]at h
 |dead=>have hg:=gE (by simp[GG,ht]);exact⟨by rw[hg],by rw[hg]⟩
end
theorem pA{nv:Nat}{es:List E}{θ:List (Nat × Option Nat)}{pat leaf:St}:∀(m:Nat) {ps ss:List SV},GN nv es θ pat leaf m ps ss=true-> ∀{i:Nat} {p:SV},ps[i]?=some p-> ∃s k,ss[i]?=some s/\R3 nv es θ pat leaf k p s=true
 |0,ps,ss,h,_,_,_=>by simp[GN]at h
 |m+1,[],ss,h,i,p,hp=>by simp at hp
 |m+1,q::ps,[],h,i,p,hp=>by simp[GN]at h
 |m+1,q::ps,s::ss,h,i,p,hp=>by
  simp only[GN,Ab]at h;cases i with
  |zero=>simp at hp;subst hp;exact⟨s,m,rfl,h.1⟩
  |succ i=>simpa using pA m h.2 (by simpa using hp)
theorem zwG:Xd:=by
 intro F nv pat τ es ρ ρ' a w hi hn hp hr;obtain⟨c,rfl,rfl,LU,hA,XB,FP,hU,hrel⟩:=hr;unfold J3 at hi;simp only at hi;split at hi
 ·rename_i AS;simp only[Ac]at hi;generalize X7:(List.range (pat.nv-nv)).map (λj=>((N8 nv pat τ true pat.hp (N8 nv pat τ false pat.hp (Ms nv pat τ 2000 ⟨[],[]⟩ pat.sl τ.sl))).as_.lookup (nv+j)).getD (.int .i64 0))=es0 at AS hi;subst hi;generalize (N8 nv pat τ true pat.hp (N8 nv pat τ false pat.hp (Ms nv pat τ 2000 ⟨[],[]⟩ pat.sl τ.sl))).θ=θ at AS;clear X7;simp only[iW,Ab,AJ,A7,Aq]at AS;obtain⟨⟨⟨⟨⟨⟨h1,hθ⟩,hlen⟩,CU⟩,CD⟩,Nc⟩,RH⟩:=AS;have Ce:∀t e,(t,e)∈pat.hp->Hb nv es0 θ pat τ t e=true:=λt e he=>(CD _ he).1;have AL:∀t e,(t,e)∈pat.hp->t<pat.nx:=λt e he=>(CD _ he).2;have RC:∀t e,AA pat.hp t=some e-> ∀gs e',e≠ .gd gs e':=by
   rintro t e he gs e' rfl;have:=Ce t _ (Ih he);simp[Hb]at this
  have AT:∀t e e',AA pat.hp t=some e->(Cq (ρ++(EL.of es0).den c.ρ) (AA pat.hp t) e'↔e'=e):=by
   intro t e e' he;rw[he];cases e with
   |gd gs e9=>exact absurd rfl (RC t _ he gs e9)
   |_=>simp[Cq,eq_comm]
  refine⟨C3 c (ρ++(EL.of es0).den c.ρ) θ pat τ,rfl,rfl,LU,hA,XB,?_,λt ht=>ht,hrel.defers,by rw[hlen];exact hrel.size,⟨hrel.base.os,hrel.base.tape,hrel.base.output,hrel.base.size,λt v OC=> ?_,hrel.base.block,hrel.base.pk,hrel.base.lo⟩,λi=> ?_,λt e hr=> ?_,λt DQ=> ?_,⟨λt=> ?_,λt u LR b hb BS=> ?_,λt b hb=> ?_,λt b hb=> ?_⟩,λt g hk=> ?_,λt e he=>AL t e (Ih he)⟩
  ·rw[h1,EL.c8];simp[hn]
  ·have MY:Mm t=true:=F.lq t v (by rw[<-hA];exact OC);refine⟨by
    show t<pat.nx;unfold Mm at MY;simp only[Ab,Aq]at MY;omega,λhk=> ?_⟩
   have B7:BY pat.hp t=some 0:=hk;obtain⟨e,YJ⟩:∃e,AA pat.hp t=some e:=by
    unfold BY at B7;cases hh:AA pat.hp t with
    |none=>rw[hh]at B7;cases B7
    |some e=>exact⟨e,rfl⟩
   have DR:=RH _ (Ih YJ);simp only[MY,Bool.not_true,Bool.false_or]at DR;have main:θ.lookup t=some (some t)->BY τ.hp t=some 0->c.K t 0->(C3 c (ρ++(EL.of es0).den c.ρ) θ pat τ).H t 0=v:=by intro hl hg hK;simp only[C3,hl,hg,CR];exact(hrel.base.pins t v OC).2 hK
   unfold LW at DR;simp only[BY,YJ]at B7;rw[YJ]at DR;cases e with
   |box ty g cs=>
    simp only[Ab,AJ]at DR;obtain⟨hl,hb⟩:=DR;split at hb
    ·rename_i ty' g' cs' CV;obtain⟨b,C,q1,_⟩:=hrel.ents t _ (by rw[CV];rfl);exact main hl (by simp[BY,CV]) q1
    ·cases hb
   |row ety sz g x d=>
    simp only[Ac]at B7;subst B7;simp only[bne_self_eq_false,Bool.false_or,Ab,AJ]at DR;obtain⟨hl,hb⟩:=DR;split at hb
    ·rename_i ety' sz' g' x' d' CV;rw[AJ]at hb;subst hb;obtain⟨q1,_⟩:=hrel.ents t _ (by rw[CV];rfl);exact main hl (by simp[BY,CV]) q1
    ·cases hb
   |bf g x=>simp only[Ac]at B7;subst B7;simp at DR
   |gd=>simp at B7
   |dead=>simp at B7
   |hol=>simp at B7
   |pre=>simp at B7
   |deep ety sz l g ep x=>
    simp only[Ac]at B7;subst B7;simp only[bne_self_eq_false,Bool.false_or,Ab,AJ]at DR;obtain⟨hl,hb⟩:=DR;split at hb
    ·rename_i CV;rw[AJ]at hb;subst hb;obtain⟨q1,_⟩:=hrel.ents t _ (by rw[CV];rfl);exact main hl (by simp[BY,CV]) q1
    ·cases hb
  ·unfold BI;cases YK:pat.sl[i]? with
   |none=>exact .undef .nil
   |some p=>obtain⟨s,k,hs,hk⟩:=pA _ CU YK;have:=hrel.ct i;unfold BI at this;rw[hs]at this;exact sP hrel hp hn Ce k hk this
  ·cases he:AA pat.hp t with
   |none=>rw[he]at hr;exact hr.elim
   |some e9=>have MP:=(AT t e9 e he).1 hr;subst MP;exact ztD hrel hp hn Ce hθ he
  ·have:GG pat.hp t=false:=by
    cases he:AA pat.hp t with
    |none=>simp[GG,he]
    |some e9=>exact absurd ((AT t e9 e9 he).2 rfl) (DQ e9)
   simp[C3,this]
  ·simp only[C3];split
   ·split
    ·exact zt3 (hrel.gw.nodup _)
    ·simp[GI.own]
   ·simp[GI.own]
  ·obtain⟨_,t',hl,_,Cv⟩:=Mf hb;obtain⟨_,u',Bz,_,Hl⟩:=Mf BS;by_cases hh:t'=u'
   ·subst hh;exact LR (Wf hθ (L3 hl) (L3 Bz))
   ·exact hrel.gw.cd t' u' hh b Cv Hl
  ·obtain⟨_,t',hl,_,Cv⟩:=Mf hb;exact hrel.gw.allow t' b Cv
  ·obtain⟨_,t',hl,_,Cv⟩:=Mf hb;exact hrel.gw.inb t' b Cv
  ·have B7:BY pat.hp t=some g:=hk;unfold BY at B7;show t<pat.nx;split at B7
   ·rename_i hh;exact AL t _ (Ih hh)
   ·rename_i hh;exact AL t _ (Ih hh)
   ·rename_i hh;exact AL t _ (Ih hh)
   ·rename_i hh;exact AL t _ (Ih hh)
   ·cases B7
 ·cases hi
theorem SY(l:List DT):∀(n k o m:Nat),k<n->o+m<=l.length->((B5 n l).drop (k*l.length+o)).take m=(l.drop o).take m
 |0,k,_,_,h,_=>by omega
 |n+1,0,o,m,_,hm=>by rw[NQ,Nat.zero_mul,Nat.zero_add,List.drop_append_of_le_length (by omega),List.take_append_of_le_length (by simp;omega)]
 |n+1,k+1,o,m,h,hm=>by have ih:=SY l n k o m (by omega) hm;rw[<-ih,NQ,show(k+1)*l.length+o=l.length+(k*l.length+o)from by rw[Nat.add_mul];omega,List.drop_append,List.drop_eq_nil_of_le (by omega)];simp
theorem DC.elem{w:World}{ys:List AV}{l:List DT}{cells:List Value}{N:List Nat}{z:Nat}(h:DC w (B5 ys.length l) cells (Ap ys) N)(hl:l.length=z)(h7:∀y∈ys,y.cells.length=z){k o m:Nat}(hk:k<ys.length)(hm:o+m<=z):
  ∃M,(∀b∈M,b∈N)/\DC w ((l.drop o).take m) ((cells.drop (k*z+o)).take m) ((((AV.sl ys).nth k).cells.drop o).take m) M:=by
 obtain⟨N1,N2,N3,rfl,_,h2,_⟩:=h.split (k*z+o) m;subst hl;rw[SY l _ _ _ _ hk hm,S6 ys h7 k _ (Mg hk) o m hm]at h2;exact⟨N2,λb hb=>by simp[hb],h2⟩
theorem Rd.j9{w:World}{vs:List Value}{x:AV}{f:List Nat}{o m:Nat}{g:Bool}(h:Rd w vs ((x.cells.drop o).take m) f)(h9:∀u∈vs,u.oneCell'=true)(hm:o+m<=x.cells.length)(h1:g=false->m=1):
  Rd w [if g then .agg vs.toArray else vs.headD undef] [x.fld o m g] f:=by
 cases g with
 |true=>have:=Rd.agg h9 h .nil;simpa[AV.fld]using this
 |false=>
  have:=h1 rfl;subst this;have e2:(x.cells.drop o).take 1=[x.cells[o]'(by omega)]:=by rw[Be (by omega),List.take_succ_cons,List.take_zero]
  rw[e2]at h;have hl:=h.len
  match vs,hl with
  | [v],_=>simpa[AV.fld,show o<x.cells.length by omega]using h
section
variable {P:Program} {c:Cx} {n nx:Nat} {sl sl0:Nat->SV} {hp hp0:Nat->Option Ae} {a:Act} {o:Oper} {gs:Gd} {e:A3} {sg:BN} {nv:Nat}
theorem zpR{w:World}{b p:Nat}{t:TypeId}{C:Array Value}{ty:TypeId}{fz:Nat × Nat}(hb:w.heap[b]?=some (.cells C ty fz))(ht:C4 P t=true)(hg:Aj P t=true\/P.cellsOf t=1)(hp:p+P.cellsOf t<=C.size):
  (Instr.loadAt t (.pointer (some ⟨b,p,none⟩))).run P w= .ok (if Aj P t then .agg ((C.toList.drop p).take (P.cellsOf t)).toArray else((C.toList.drop p).take (P.cellsOf t)).headD undef) w:=by
 have LA:((C.toList.drop p).take (P.cellsOf t)).length=P.cellsOf t:=by rw[Ax,BU,BG];omega
 refine PB ht _ (λ_=>LA) (λh=> ?_) (λj u hu=> ?_)
 ·rw[LA];rcases hg with h'|h';rw[h]at h';cases h';exact h'
 ·rw[Ef hb];rw[List.getElem?_take]at hu;split at hu
  ·simpa using hu
  ·cases hu
theorem zuO{b g e z ep:Nat}{l:List DT}{c0 i:E}{t:TypeId}{k':Nat}{v:Value}(hE:C5 c b (.deep e z l g ep c0))(hr:SR c [.cf b g i z k'] [v])(Bc:C4 P t=true)(hle:k'+P.cellsOf t<=z)(Ay:Aj P t=true\/P.cellsOf t=1):
  ∃u,(Instr.loadAt t v).run P c.w= .ok u c.w/\(((l.drop k').take (P.cellsOf t)).all DT.bg=true->Rd c.w [u] [(E.fld (.idx c0 i) k' (P.cellsOf t) (Aj P t)).den c.ρ] [])/\QK c b u ((E.fld (.idx c0 i) k' (P.cellsOf t) (Aj P t)).den c.ρ)/\(Aj P t=false->HU c b g (some (i,z,k')) u):=by
 obtain⟨q1,q2,q3,q4,q5⟩:=hE;cases hr with
 |cf h1 h2 h3 h4 h5 _=>
  rename_i q len cap kk k h6;obtain⟨d1,d2,⟨a9,d3,_⟩|⟨g9,cap9,C,ys,N1,d3,d4,d5,d6,d7,d8,d9,d10,d11,d12⟩⟩:=q4.inv
  ·rw[h2]at d3;cases d3;omega
  ·rw[h2]at d3;cases d3;rw[AH.ar]at d2 d12;have hk:k.toNat<ys.length:=by omega
   have hmul:(k.toNat+1)*z<=ys.length*z:=Bf _ (by omega);have Et:ys.length*z<=cap*z:=Bf _ d7;rw[Nat.add_mul]at hmul;have AI:=zpR (P:=P) (t:=t) (p:=k.toNat*z+k') d6 Bc Ay (by omega);obtain⟨M,m1,m2⟩:=d12.elem d2 d10 hk hle;have FG:((C.toList.take (ys.length*z)).drop (k.toNat*z+k')).take (P.cellsOf t)=(C.toList.drop (k.toNat*z+k')).take (P.cellsOf t):=by rw[List.drop_take,List.take_take,Nat.min_eq_left (by omega)]
   rw[FG]at m2;have Cw:∀u∈(C.toList.drop (k.toNat*z+k')).take (P.cellsOf t),u.oneCell'=true:=λu hu=>d11 u (by rw[<-FG]at hu;exact B1 (Bw hu))
   have iP:((AV.sl ys).nth k.toNat).cells.length=z:=d10 _ (List.mem_of_getElem? (Mg hk));have Ca:(E.fld (.idx c0 i) k' (P.cellsOf t) (Aj P t)).den c.ρ=((AV.sl ys).nth k.toNat).fld k' (P.cellsOf t) (Aj P t):=by simp only[E.den,d4,h3,AV.idx]
   have TY:Aj P t=false->P.cellsOf t=1:=λh=>by rcases Ay with h'|h';rw[h]at h';cases h';exact h'
   refine⟨_,AI,λhf=> ?_,?_,λhf=> ?_⟩
   ·rw[Ca];exact(m2.iv hf).j9 Cw (by omega) TY
   ·obtain⟨f,r1,r2⟩:=m2.rd;rw[Ca];exact⟨f,r1.j9 Cw (by omega) TY,λb hb=> .inr (by rw[d5];simp[m1 b (r2 b hb)])⟩
   ·refine⟨_,_,_,C,_,_,kk,k,h2,by rw[d5];simp,d6,h3,h4,h5,?_⟩;have BW:=TY hf;have AL:k.toNat*z+k'<C.size:=by omega
    have e1:(C.toList.drop (k.toNat*z+k')).take 1=[C[k.toNat*z+k']]:=by rw[Be (by simpa using AL),List.take_succ_cons,List.take_zero];simp
    rw[hf,BW,e1];simp[AL]
end
section
variable {P:Program} {c:Cx} {n nx:Nat} {sl sl0:Nat->SV} {hp hp0:Nat->Option Ae} {a:Act} {o:Oper} {gs:Gd} {e:A3} {sg:BN} {nv:Nat}
theorem BD.cm:∀l:BD,BD.of l.toList=l
 | .nil=>rfl
 | .cons s l=>by simp[BD.toList,BD.of,BD.cm l]
theorem zvz(h:Bk P c n nx sl hp a sl0 hp0 o gs){t:TypeId}{x:Operand}(ho:o.op= .load t x)(he:BL P sg sl0 hp0 nv nx gs o=some e)(hc:∀q∈e.bu,Cn.den c.ρ q):Aw P o c n nx sl hp gs a e:=by
 have hm:x∈o.op.operands:=by simp[ho,Op.operands]
 simp only[BL,ho,Ao,An]at he;obtain⟨s,hs,e1,he,rfl⟩:=he;have hr:=(h.cj hs hm).asPtr (λq hq=>hc q (by simp[hq]));have Q2:∀q∈e1.bu,Cn.den c.ρ q:=λq hq=>hc q (by simp[hq]);have ex:(execOp a.eval o).run P c.w=((Instr.loadAt t (a.eval x)).run P c.w).andThen λv w=> .ok (.value v) w:=by simp[execOp,ho]
 unfold rI at he;split at he
 ·cases he
 rename_i Bc;have Bc:C4 P t=true:=by simpa using Bc
 generalize Ba:(asPtr s).1=s1 at he hr;split at he
 ·rename_i b o';split at he
  ·rename_i ty g cs hl;obtain⟨s2,A1,rfl⟩:=An.1 he;generalize ha:a.eval x=v at hr ex;cases hr with
   |ca h1 h2 _=>
    rename_i q;obtain⟨q',C,_,e2,e3,e4,e5,e5',e6⟩:=h.eh b _ (Cu hl h.gs);rw[h2]at e2;cases e2;unfold Oh at A1;have hlen:=e6.len;split at A1
    ·rename_i Ay;split at A1
     ·rename_i hle;simp at A1;subst A1;obtain⟨r1,r2⟩:=e6.split o';obtain⟨r3,r4⟩:=r2.split (P.cellsOf t);have:=SR.agg (cs:=BD.of ((cs.drop o').take (P.cellsOf t))) (λu hu=>e5' u (B1 (Bw hu))) (by rw[BD.ar];exact r3) .nil;refine Aw.pure h (v:= .agg ((C.toList.drop o').take (P.cellsOf t)).toArray) ?_ this rfl;rw[ex,PB Bc ((C.toList.drop o').take (P.cellsOf t)) (λ_=>by simp at hlen ⊢;omega) (λh=>by rw[Ay]at h;cases h) (λj u hu=>by
       rw[Ef e5];rw[List.getElem?_take]at hu;split at hu
       ·simpa using hu
       ·cases hu)]
      simp[Ay]
     ·cases A1
    ·rename_i Ay;have Ay:Aj P t=false:=by simpa using Ay
     obtain⟨u,hu,r⟩:=e6.get A1;refine Aw.pure h (v:=u) ?_ r rfl;rw[ex,PB Bc [u] (λh=>by rw[Ay]at h;cases h) (λ_=>rfl) (λj z hz=>by
      cases j with
      |zero=>simp at hz;subst hz;rw[Ef e5];simpa using hu
      |succ j=>simp at hz)]
     simp[Ay]
  ·cases he
 ·rename_i b g i sz o';split at he
  ·rename_i e0 sz' g' c0 d hl;split at he
   ·rename_i hh;obtain⟨rfl,rfl,hle,Ay⟩:=hh;simp at he;subst he;generalize ha:a.eval x=v at hr ex;cases hr with
    |cf h1 h2 h3 h4 h5 _=>
     rename_i q len cap kk k h6;obtain⟨_,_,N,r1,r2,_,_⟩:=h.eh b _ (Cu hl h.gs);obtain⟨f,r3,_,r4⟩:=r1.rd;obtain⟨xs,B3,Ar,h0,AX⟩:=r1;rw[h2]at r3 AX;have hk:k.toNat<len:=by omega
     have Gz:xs.length=len:=by
      rcases AX with⟨_,⟨_,hv⟩,_⟩|⟨_,_,_,hv,_⟩
      ·cases hv;omega
      ·simp at hv;exact hv.2.1.symm
     have BF:((c0.den c.ρ).nth k.toNat).cells.length=sz:=by rw[B3];exact Ar _ (List.mem_of_getElem? (Mg (xs:=xs) (by omega)))
     obtain⟨v',q',g1,g2,g3⟩:=dD r3 hk BF Bc hle Ay;refine Aw.pure h (v:=v') ?_ (.e (f:=q') ?_ ?_ .nil) rfl
     ·rw[ex];rw[Nat.zero_add]at g1;simp[g1]
     ·simpa[E.den,AV.idx,h3]using g3
     ·exact λz hz=>r2 z (r4 z (g2 z hz))
   ·cases he
  ·rename_i e0 sz' l g' ep c0 hl;split at he
   ·rename_i hh;obtain⟨rfl,rfl,hle,Ay⟩:=hh;generalize ha:a.eval x=v at hr ex;have hE:=h.eh b _ (Cu hl h.gs);obtain⟨u,k1,k2,k3,k4⟩:=zuO (P:=P) (t:=t) hE hr Bc hle Ay;have AI:(execOp a.eval o).run P c.w= .ok (.value u) c.w:=by rw[ex,k1];rfl
    split at he
    ·rename_i hf;simp only[Ac]at he;subst he;exact Aw.pure h AI (.e (k2 hf) (by simp) .nil) rfl
    ·simp only[Ac]at he;subst he;cases hr with
     |cf h1 _ _ _ _ _=>
      refine Aw.pure h AI (.via h1 (Nat.le_of_eq hE.2.2.1.symm) (λ_=>⟨k3,?_⟩) .nil) rfl;split
      ·exact trivial
      ·rename_i Gm;exact k4 (by simpa using Gm)
   ·cases he
  ·cases he
 ·rename_i b g m pth y i sz o';split at he
  ·rename_i hh;obtain⟨hle,Ay,hv⟩:=hh;have hE:=P7 h.eh h.gs hv;generalize ha:a.eval x=v at hr ex;cases hr with
   |vptr h1 h2 h3 _=>
    obtain⟨q,off,len,cap,kk,k,⟨f,p1,p2⟩,_,p4,p5,p6,p7,rfl⟩:=h3 hE;obtain⟨v',q',g1,g2,g3⟩:=dD (fo:=o') p1 (by omega) p7 Bc hle Ay;have AI:(execOp a.eval o).run P c.w= .ok (.value v') c.w:=by rw[ex];simp[g1]
    have Ca:Rd c.w [v'] [(E.fld (.idx y i) o' (P.cellsOf t) (Aj P t)).den c.ρ] q':=by simpa[E.den,AV.idx,p4]using g3
    split at he
    ·simp only[Ac]at he;subst he;obtain⟨f1,f2,f3,f4⟩:=BW Q2;have hq:q'=[]:=by
      cases hg:Aj P t with
      |true=>obtain⟨cs,Bi⟩:=f3 hg;obtain⟨as_,rfl,_,r⟩:=Io Ca Bi;exact G9 r (by rw[Bi]at f2;exact f2)
      |false=>exact G9 Ca (by simpa using f4 hg)
     subst hq;exact Aw.pure h AI (.e Ca (by simp) .nil) rfl
    ·simp only[Ac]at he;subst he;exact Aw.pure h AI (.via h1 h2 (λ_=>⟨⟨q',Ca,λz hz=>p2 z (List.mem_of_mem_tail (g2 z hz))⟩,trivial⟩) .nil) rfl
  ·cases he
 ·rename_i y i sz o';split at he
  ·rename_i hh;obtain⟨hle,Ay⟩:=hh;simp at he;subst he;generalize ha:a.eval x=v at hr ex;cases hr with
   |c9 h1 h2 h3 h4 h5 h6 _=>rename_i q off len cap f kk k;obtain⟨v',q',g1,g2,g3⟩:=dD (fo:=o') h1 (by omega) h6 Bc hle Ay;refine Aw.pure h (v:=v') ?_ (.e (f:=q') (by simpa[E.den,AV.idx,h3]using g3) (λz hz=>h2 z (List.mem_of_mem_tail (g2 z hz))) .nil) rfl;rw[ex];simp[g1]
  ·cases he
 ·rename_i y o';split at he
  ·rename_i Ay;simp at he;subst he;generalize ha:a.eval x=v at hr ex;cases hr with
   |c7 h1 h2 _=>
    rename_i q f;obtain⟨z,hz,hle⟩:=BW Q2;rw[hz]at h1;cases h1 with
    |ref hb BS F6 Dz=>
     rename_i C ty fz f1 f2;obtain⟨q',g1,g2⟩:=F6.gy BS o' (P.cellsOf t) (Aj P t) hle (λh=>by rcases Ay with h'|h';rw[h]at h';cases h';exact h');have LA:((C.toList.drop o').take (P.cellsOf t)).length=P.cellsOf t:=by have:=F6.len;rw[Ax,BU];omega
     refine Aw.pure h ?_ (.e (f:=q') (by simpa[E.den,hz,AV.deref]using g2) (λz hz=>h2 z (by simp[g1 z hz])) .nil) rfl;rw[ex,PB Bc ((C.toList.drop o').take (P.cellsOf t)) (λ_=>LA) (λh=>by rw[LA];rcases Ay with h'|h';rw[h]at h';cases h';exact h') (λj u hu=>by
       rw[Ef hb];rw[List.getElem?_take]at hu;split at hu
       ·simpa using hu
       ·cases hu)]
     simp
  ·cases he
 ·cases he
end
theorem N4(k:IntKind)(n:Int):EX k n↔k.min<=n/\n<=k.max:=by unfold EX;cases k<;>simp only[IntKind.wrap,IntKind.bits,IntKind.signed,IntKind.min,IntKind.max]<;>simp<;>(try split)<;>omega
theorem dH(k:IntKind)(n:Int):EX k (k.wrap n):=by rw[N4];cases k<;>simp only[IntKind.wrap,IntKind.bits,IntKind.signed,IntKind.min,IntKind.max]<;>simp<;>(try split)<;>omega
theorem zwR{k:IntKind}{x y:Int}(h:EX k x):EX k (x.tmod y):=by
 rw[N4]at h ⊢;have h1:(x.tmod y).natAbs<=x.natAbs:=by rw[Int.natAbs_tmod];exact Nat.mod_le _ _
 have h2:0<=x->0<=x.tmod y:=Int.tmod_nonneg y;have Kr:k.min<=0:=by cases k<;>decide
 have ET:0<=k.max:=by cases k<;>decide
 constructor
 ·by_cases h0:0<=x
  ·have:=h2 h0;omega
  ·omega
 ·by_cases h0:0<=x
  ·omega
  ·have h3:x.tmod y<=0:=by
    have:=Int.tmod_nonneg (a:= -x) y (by omega);rw[Int.neg_tmod]at this;omega
   omega
theorem zwr{k:IntKind}{x:Int}(m:Nat)(h:EX k x):EX k (x.fdiv (2^m)):=by
 rw[N4]at h ⊢;have hp:(0:Int)<2^m:=Int.pow_pos (by decide);rw[Int.fdiv_eq_ediv_of_nonneg _ (Int.le_of_lt hp)];have Kr:k.min<=0:=by cases k<;>decide
 have ET:0<=k.max:=by cases k<;>decide
 have h1:(1:Int)<=2^m:=hp;constructor
 ·rcases Int.le_total 0 x with h0|h0
  ·have:=Int.ediv_nonneg h0 (Int.le_of_lt hp);omega
  ·have:x<=x/2^m:=by
    rw[Int.le_ediv_iff_mul_le hp];have:=Int.mul_le_mul_of_nonpos_left h0 h1;omega
   omega
 ·rcases Int.le_total 0 x with h0|h0
  ·have:=Int.ediv_le_self (2^m) h0;omega
  ·have h2:x/2^m<=0:=by
    have:=Int.ediv_le_ediv hp h0;simpa using this
   omega
section
variable {P:Program} {c:Cx} {n nx:Nat} {sl sl0:Nat->SV} {hp hp0:Nat->Option Ae} {a:Act} {o:Oper} {gs:Gd} {e:A3} {sg:BN} {nv:Nat}
def AV.val:AV->Value
 | .int k n=> .int k n
 | .bool b=> .bool b
 | .str s=> .string ⟨s.toArray⟩
 |_=>Go.undef
theorem zto{op:BinOp}{k k':IntKind}{x y:Int}(hk:k=k'\/op= .shl\/op= .shr)(hz:op= .quo\/op= .rem->y≠0)(hs:op= .shl\/op= .shr->0<=y)(t:TypeId)(p q:Operand)(w:World):
  (do eqGuard op t p q (.int k x) (.int k' y);binOp op t (.int k x) (.int k' y):Sem Value).run P w= .ok (CG op k x y).val w:=by
 have hg:=eqGuard_at_int op t p q (.int k' y) k x;cases op<;>simp only[reduceCtorEq,or_false,or_true,or_self]at hk hz hs<;>simp only[hg]
 all_goals first
  |(subst hk;simp[binOp,Op.intArith,Op.intCmp,Op.intBits,CG,AV.val];done)
  |(subst hk;have:=hz trivial;simp[binOp,Op.intDiv,CG,AV.val,this];done)
  |(have:=hs trivial;simp[binOp,Op.shift,CG,AV.val,Int.not_lt.2 this];done)
theorem zvQ{op:BinOp}{k:IntKind}{x y:Int}(hx:EX k x)(w:World):Rd w [(CG op k x y).val] [CG op k x y] []:=by
 cases op<;>simp only[CG,AV.val]<;>first
  |exact .int (dH _ _) .nil
  |exact .bool .nil
  |exact .int (zwR hx) .nil
  |exact .int (zwr _ hx) .nil
theorem Rd.gi{w:World}{v:Value}{x:AV}{f:List Nat}(h:Rd w [v] [x] f):x≠ .undef:=by rintro rfl;cases h
theorem cZ{ρ:List AV}:∀(x:E) {k:IntKind},Cl x=some k->x.den ρ≠ .undef-> ∃m,x.den ρ= .int k m
 | .int k n,_,h,_=>by simp[Cl]at h;subst h;exact⟨n,rfl⟩
 | .len y,_,h,hd=>by
  simp[Cl]at h;subst h;simp only[E.den,AV.len]at hd ⊢;split at hd
  ·exact⟨_,rfl⟩
  ·exact absurd rfl hd
 | .slen y,_,h,hd=>by
  simp[Cl]at h;subst h;simp only[E.den,AV.slen]at hd ⊢;split at hd
  ·exact⟨_,rfl⟩
  ·exact absurd rfl hd
 | .conv k y,_,h,hd=>by
  simp[Cl]at h;subst h;simp only[E.den,AV.conv]at hd ⊢;split at hd
  ·exact⟨_,rfl⟩
  ·exact absurd rfl hd
 | .bin op x y,k,h,hd=>by
  simp only[E.den]at hd ⊢;have hx:x.den ρ≠ .undef:=by rintro hh;rw[hh]at hd;exact hd (by simp[AV.bin])
  cases op<;>simp only[Cl,reduceCtorEq]at h
  all_goals
   obtain⟨m,hm⟩:=cZ x h hx;rw[hm]at hd ⊢;cases hy:y.den ρ<;>rw[hy]at hd<;>simp only[AV.bin]at hd ⊢ <;>first
    |exact absurd rfl hd
    |(split at hd
      ·rename_i hk;rw[if_pos hk];exact⟨_,rfl⟩
      ·exact absurd rfl hd)
 | .var _,_,h,_=>by simp[Cl]at h
 | .bool _,_,h,_=>by simp[Cl]at h
 | .str _,_,h,_=>by simp[Cl]at h
 | .de,_,h,_=>by simp[Cl]at h
 | .lst _,_,h,_=>by simp[Cl]at h
 | .mk _,_,h,_=>by simp[Cl]at h
 | .tup _,_,h,_=>by simp[Cl]at h
 | .ref _,_,h,_=>by simp[Cl]at h
 | .fn ..,_,h,_=>by simp[Cl]at h
 | .fld ..,_,h,_=>by simp[Cl]at h
 | .proj ..,_,h,_=>by simp[Cl]at h
 | .deref _,_,h,_=>by simp[Cl]at h
 | .idx ..,_,h,_=>by simp[Cl]at h
 | .sidx ..,_,h,_=>by simp[Cl]at h
 | .win ..,_,h,_=>by simp[Cl]at h
 | .swin ..,_,h,_=>by simp[Cl]at h
 | .app ..,_,h,_=>by simp[Cl]at h
 | .set ..,_,h,_=>by simp[Cl]at h
 | .put ..,_,h,_=>by simp[Cl]at h
 | .rep ..,_,h,_=>by simp[Cl]at h
 | .sbin ..,_,h,_=>by simp[Cl]at h
 | .bbin ..,_,h,_=>by simp[Cl]at h
 | .not _,_,h,_=>by simp[Cl]at h
 | .neg _,_,h,_=>by simp[Cl]at h
 | .ite ..,_,h,_=>by simp[Cl]at h
 | .bytes _,_,h,_=>by simp[Cl]at h
 | .text _,_,h,_=>by simp[Cl]at h
end
section
variable {P:Program} {c:Cx} {n nx:Nat} {sl sl0:Nat->SV} {hp hp0:Nat->Option Ae} {a:Act} {o:Oper} {gs:Gd} {e:A3} {sg:BN} {nv:Nat}
theorem G6{s:SV}{v:Value}{x:E}(h:SR c [s] [v])(hx:Fb s=some x):∃f,Rd c.w [v] [x.den c.ρ] f/\ ∀b∈f,c.ok b:=by
 cases s<;>simp only[Fb,Ac,reduceCtorEq]at hx;subst hx;cases h with
 |e h1 h2 _=>exact⟨_,h1,h2⟩
theorem SR.cr{v:Value}{x:E}(h:Rd c.w [v] [x.den c.ρ] []):SR c [.e x] [v]:= .e h (by simp) .nil
theorem ztP{ρ:List AV}{op:BinOp}{x y:E}{w:World}{v u:Value}{f g:List Nat}(h1:Rd w [v] [x.den ρ] f)(h2:Rd w [u] [y.den ρ] g)(hd:PR (.bin op x y)=true->(E.bin op x y).den ρ≠ .undef):
  ∃k k' p q,x.den ρ= .int k p/\y.den ρ= .int k' q/\(k=k'\/op= .shl\/op= .shr)/\(E.bin op x y).den ρ=CG op k p q/\EX k p/\v= .int k p/\u= .int k' q:=by
 have key:(∃k k' p q,x.den ρ= .int k p/\y.den ρ= .int k' q/\(k=k'\/op= .shl\/op= .shr)):=by
  by_cases hn:PR (.bin op x y)=true
  ·have:=hd hn;simp only[E.den]at this;cases hx:x.den ρ<;>cases hy:y.den ρ<;>simp only[hx,hy,AV.bin,ne_eq,not_true_eq_false]at this;split at this
   ·exact⟨_,_,_,_,rfl,rfl,by assumption⟩
   ·exact absurd rfl this
  ·have hn:PR (.bin op x y)=false:=by simpa using hn
   have hk:(Cl x).isSome=true/\(Cl x==Cl y)=true:=by cases op<;>simp[PR]at hn<;>simpa using hn
   obtain⟨k,Hq⟩:=Option.isSome_iff_exists.1 hk.1;have uU:Cl y=some k:=by rw[<-AJ.1 hk.2,Hq]
   obtain⟨p,hp⟩:=cZ x Hq h1.gi;obtain⟨q,hq⟩:=cZ y uU h2.gi;exact⟨k,k,p,q,hp,hq, .inl rfl⟩
 obtain⟨k,k',p,q,hp,hq,Lz⟩:=key;obtain⟨hv,Cc⟩:=FA h1 hp;obtain⟨hu,_⟩:=FA h2 hq;exact⟨k,k',p,q,hp,hq,Lz,by simp only[E.den,hp,hq,AV.bin,if_pos Lz],Cc,hv,hu⟩
theorem zpb(a b:ByteArray):(a.toList==b.toList)=(a.data.toList==b.data.toList):=by rw[ByteArray.toList_eq,ByteArray.toList_eq]
theorem zpp{α β γ:Type}(r:Result α)(f:α->World->Result β)(g:β->World->Result γ):(r.andThen f).andThen g=r.andThen λa w=>(f a w).andThen g:=by cases r<;>rfl
theorem bY(d:Nat){t:TypeId}(p q:Bool)(h:P.underlying t=some .bool)(w:World):(Op.equalIn (d+1) t (.bool p) (.bool q)).run P w= .ok (p==q) w:=by simp[Op.equalIn,run_underlying h]
theorem ztH{t:TypeId}(p q:Bool)(h:P.underlying t=some .bool)(w:World):(binOp .eql t (.bool p) (.bool q)).run P w= .ok (.bool (p==q)) w:=by simp only[binOp];simp[Op.equal,Op.maxDepth,bY 9999 p q h]
theorem ztC{t:TypeId}(p q:Bool)(h:P.underlying t=some .bool)(w:World):(binOp .neq t (.bool p) (.bool q)).run P w= .ok (.bool (!(p==q))) w:=by simp only[binOp];simp[Op.equal,Op.maxDepth,bY 9999 p q h]
theorem Og{op:BinOp}{t ty:TypeId}{x y:Operand}(ho:o.op= .binOp op t x y ty)(w:World){v u:Value}(hv:a.eval x=v)(hu:a.eval y=u):
  (execOp a.eval o).run P w=((do eqGuard op t x y v u;binOp op t v u:Sem Value).run P w).andThen λv w=> .ok (.value v) w:=by
 simp only[execOp,ho,hv,hu,Sem.run_bind,zpp,Sem.run_pure]
theorem kJ(h:Bk P c n nx sl hp a sl0 hp0 o gs){op:BinOp}{t el:TypeId}{x y:Operand}{ty:TypeId}(ho:o.op= .binOp op t x y ty)(hu:P.underlying t=some (.slice el))(r1:SR c [.bq] [a.eval x])(r2:SR c [.bq] [a.eval y])
  (AQ:op= .eql\/op= .neq):Aw P o c n nx sl hp gs a {val:= .e (.bool (op== .eql))}:=by
 have ex:=λ(v u:Value) (hv:a.eval x=v) (hu:a.eval y=u)=>Og (P:=P) (o:=o) ho c.w hv hu;generalize E8:a.eval x=v1 at r1;generalize CQ:a.eval y=v2 at r2;cases r1 with
 |bq _=>cases r2 with
  |bq _=>
   refine Aw.pure h (v:= .bool (op== .eql)) ?_ (.cr (.bool .nil)) rfl;rw[ex _ _ E8 CQ,eqGuard_at_slice];rcases AQ with rfl|rfl
   ·simp[run_eql_nil_slice c.w t el none 0 0 0 0 hu]
   ·simp[run_neq_nil_slice c.w t el none 0 0 0 0 hu]
theorem zrq(h:Bk P c n nx sl hp a sl0 hp0 o gs){op:BinOp}{t:TypeId}{x y:Operand}{ty:TypeId}(ho:o.op= .binOp op t x y ty){s1 s2:SV}(r1:SR c [s1] [a.eval x])(r2:SR c [s2] [a.eval y])
  {x' y':E} (DA:Fb s1=some x') (BA:Fb s2=some y') (hd:PR (.bin op x' y')=true->Cn.den c.ρ (.dfd (.bin op x' y'))) (vG:op= .quo\/op= .rem->Cn.den c.ρ (.nz y')) (vF:op= .shl\/op= .shr->Cn.den c.ρ (.nn y')) {ck:List Cn}:
  Aw P o c n nx sl hp gs a {bu:=ck,val:= .e (.bin op x' y')}:=by
 obtain⟨f1,g1,_⟩:=G6 r1 DA;obtain⟨f2,g2,_⟩:=G6 r2 BA;obtain⟨k,k',p,q,e1,e2,Lz,e3,Cc,hv,Fm⟩:=ztP (op:=op) g1 g2 hd;refine Aw.pure h (v:=(CG op k p q).val) ?_ (.cr (by rw[e3];exact zvQ Cc _)) rfl;rw[Og ho c.w hv Fm,zto Lz (λAQ=> ?_) (λAQ=> ?_)]
 ·simp
 ·obtain⟨_,m,hm,Dy⟩:=vG AQ;rw[e2]at hm;cases hm;exact Dy
 ·obtain⟨_,m,hm,Dy⟩:=vF AQ;rw[e2]at hm;cases hm;exact Dy
theorem zqr(h:Bk P c n nx sl hp a sl0 hp0 o gs){op:BinOp}{t:TypeId}{x y:Operand}{ty:TypeId}(ho:o.op= .binOp op t x y ty){s1 s2:SV}(r1:SR c [s1] [a.eval x])(r2:SR c [s2] [a.eval y])
  {x' y':E} (DA:Fb s1=some x') (BA:Fb s2=some y') (hd:Cn.den c.ρ (.dfd (.sbin op x' y'))) (BR:op= .add->Cn.den c.ρ (.roomS x' y')) {ck:List Cn}:
  Aw P o c n nx sl hp gs a {bu:=ck,val:= .e (.sbin op x' y')}:=by
 obtain⟨f1,g1,_⟩:=G6 r1 DA;obtain⟨f2,g2,_⟩:=G6 r2 BA;have hd:AV.sbin op (x'.den c.ρ) (y'.den c.ρ)≠ .undef:=hd;cases hx:x'.den c.ρ<;>cases hy:y'.den c.ρ<;>simp only[hx,hy,AV.sbin,ne_eq,not_true_eq_false]at hd;obtain⟨b1,E8,rfl,_⟩:=Qh g1 hx;obtain⟨b2,CQ,rfl,_⟩:=Qh g2 hy;have hle:op= .add->b1.size+b2.size<=9223372036854775807:=λAQ=>by obtain⟨p,q,hp,hq,hle⟩:=BR AQ;rw[hx]at hp;rw[hy]at hq;cases hp;cases hq;simpa using hle
 refine Aw.pure h (v:=match op with| .add=> .string (b1++b2)|_=>(Qg op b1.data.toList b2.data.toList).val) ?_ (.cr ?_) rfl
 ·rw[Og ho c.w E8 CQ,eqGuard_at_string];cases op<;>first
   |(exact absurd rfl hd)
   |(have:=hle rfl;simp[binOp,Op.stringOp];omega)
   |(simp[binOp,Op.stringOp,Qg,AV.val,ByteArray.toList_eq,bne];done)
 ·simp only[E.den,hx,hy,AV.sbin];cases op<;>simp only[Qg,AV.val,ne_eq,not_true_eq_false]at hd ⊢ <;>first
   |exact .bool .nil
   |(have:=hle rfl
     have h9:=Rd.str (w:=c.w) (s:=b1++b2) (by simpa using this) .nil;simpa using h9)
theorem zqb(h:Bk P c n nx sl hp a sl0 hp0 o gs){op:BinOp}{t:TypeId}{x y:Operand}{ty:TypeId}(ho:o.op= .binOp op t x y ty)(hu:P.underlying t=some .bool){s1 s2:SV}(r1:SR c [s1] [a.eval x])(r2:SR c [s2] [a.eval y])
  {x' y':E} (DA:Fb s1=some x') (BA:Fb s2=some y') (hd:Cn.den c.ρ (.dfd (.bbin op x' y'))) {ck:List Cn}:
  Aw P o c n nx sl hp gs a {bu:=ck,val:= .e (.bbin op x' y')}:=by
 obtain⟨f1,g1,_⟩:=G6 r1 DA;obtain⟨f2,g2,_⟩:=G6 r2 BA;have hd:AV.bbin op (x'.den c.ρ) (y'.den c.ρ)≠ .undef:=hd;cases hx:x'.den c.ρ<;>cases hy:y'.den c.ρ<;>simp only[hx,hy,AV.bbin,ne_eq,not_true_eq_false]at hd;rename_i p q;have E8:=HG g1 hx;have CQ:=HG g2 hy;refine Aw.pure h (v:=(AV.bbin op (.bool p) (.bool q)).val) ?_ (.cr ?_) rfl
 ·rw[Og ho c.w E8 CQ,eqGuard_at_bool];cases op<;>simp only[ne_eq,not_true_eq_false]at hd
  ·simp[ztH p q hu,AV.bbin,AV.val]
  ·simp[ztC p q hu,AV.bbin,AV.val,bne]
 ·simp only[E.den,hx,hy];cases op<;>simp only[AV.bbin,AV.val,ne_eq,not_true_eq_false]at hd ⊢ <;>exact .bool .nil
theorem zwH(h:Bk P c n nx sl hp a sl0 hp0 o gs){op:BinOp}{t:TypeId}{x y:Operand}{ty:TypeId}(ho:o.op= .binOp op t x y ty)(LF:∀fs,P.underlying t≠some (.struct fs))(he:BL P sg sl0 hp0 nv nx gs o=some e)(hq:e.bm=none)(hc:∀q∈e.bu,Cn.den c.ρ q):Aw P o c n nx sl hp gs a e:=by
 have DK:x∈o.op.operands:=by simp[ho,Op.operands]
 have Dn:y∈o.op.operands:=by simp[ho,Op.operands]
 simp only[BL,ho,Ao]at he;obtain⟨s1,BE,s2,A1,he⟩:=he;have r1:=h.cj BE DK;have r2:=h.cj A1 Dn;unfold Qn at he;split at he
 ·rename_i el hu;split at he
  ·simp at he;subst he;exact kJ h ho hu r1 r2 (.inl rfl)
  ·simp at he;subst he;exact kJ h ho hu r1 r2 (.inr rfl)
  ·obtain⟨_,_,rfl⟩:=An.1 he;cases hq
  ·obtain⟨_,_,rfl⟩:=An.1 he;cases hq
  ·cases he
 ·rename_i kk hu;split at he
  ·rename_i x' y' DA BA;simp at he;subst he;exact zrq h ho r1 r2 DA BA (λhn=>hc _ (by simp[hn])) (λAQ=>hc _ (by rcases AQ with rfl|rfl<;>simp)) (λAQ=>hc _ (by rcases AQ with rfl|rfl<;>simp))
  ·cases he
 ·rename_i hu;split at he
  ·rename_i x' y' DA BA;simp at he;subst he;exact zqr h ho r1 r2 DA BA (hc _ (by simp)) (λAQ=>hc _ (by subst AQ;simp))
  ·cases he
 ·rename_i hu;split at he
  ·rename_i x' y' DA BA;simp at he;subst he;exact zqb h ho hu r1 r2 DA BA (hc _ (by simp))
  ·cases he
 ·rename_i fs hu;exact absurd hu (LF fs)
 ·cases he
end
section
variable {P:Program} {c:Cx} {n nx:Nat} {sl sl0:Nat->SV} {hp hp0:Nat->Option Ae} {a:Act} {o:Oper} {gs:Gd} {e:A3} {sg:BN} {nv:Nat}
theorem S9{t:TypeId}(h:C4 P t=true)(cs:List Value)(off:Nat)(hle:off+P.cellsOf t<=cs.length)(hg:Aj P t=true\/P.cellsOf t=1)(w:World):
  (part t cs.toArray off).run P w= .ok (if Aj P t then .agg ((cs.drop off).take (P.cellsOf t)).toArray else((cs.drop off).take (P.cellsOf t)).headD Go.undef) w:=by
 cases ha:Aj P t with
 |true=>simp only[part,Sem.run_bind,S4 h,ha,NO h,Result.andThen_ok,if_true,Sem.run_pure];congr 2;apply Array.ext';rw[Array.toList_extract];simp[Nat.add_sub_cancel_left,List.extract_eq_take_drop]
 |false=>
  have h1:P.cellsOf t=1:=by rcases hg with h'|h';rw[ha]at h';cases h';exact h'
  have AL:off<cs.length:=by omega
  have e1:(cs.drop off).take (P.cellsOf t)=[cs[off]]:=by rw[h1,Be AL,List.take_succ_cons,List.take_zero]
  rw[e1];simp[part,S4 h,ha,AL]
theorem zt7(h:Bk P c n nx sl hp a sl0 hp0 o gs){t:TypeId}{x:Operand}{f:Nat}(ho:o.op= .field t x f)(he:BL P sg sl0 hp0 nv nx gs o=some e)(hc:∀q∈e.bu,Cn.den c.ρ q):Aw P o c n nx sl hp gs a e:=by
 have hm:x∈o.op.operands:=by simp[ho,Op.operands]
 simp only[BL,ho,Ao]at he;obtain⟨s,hs,he⟩:=he;have hr:=h.cj hs hm;split at he
 ·rename_i fs hu;split at he
  ·rename_i fd hf;split at he
   ·cases he
   ·rename_i Bc;have Bc:C4 P fd.type=true:=by simpa using Bc
    have ex:∀as_:List Value,a.eval x= .agg as_.toArray->(execOp a.eval o).run P c.w=((part fd.type as_.toArray fd.offset).run P c.w).andThen λv w=> .ok (.value v) w:=λas_ hv=>by simp[execOp,ho,Instr.field,run_underlying hu,hf,hv,asAgg]
    split at he
    ·rename_i cs;obtain⟨s2,A1,rfl⟩:=An.1 he;generalize hv:a.eval x=v at hr;cases hr with
     |agg r8 r1 r9=>
      rename_i as_;have hlen:=r1.len;unfold Oh at A1;split at A1
      ·rename_i Ay;split at A1
       ·rename_i hle;simp at A1;subst A1;obtain⟨q1,q2⟩:=r1.split fd.offset;obtain⟨q3,q4⟩:=q2.split (P.cellsOf fd.type);have:=SR.agg (cs:=BD.of ((cs.toList.drop fd.offset).take (P.cellsOf fd.type))) (λu hu=>r8 u (B1 (Bw hu))) (by rw[BD.ar];exact q3) .nil;refine Aw.pure h (v:= .agg ((as_.drop fd.offset).take (P.cellsOf fd.type)).toArray) ?_ this rfl;rw[ex as_ hv,S9 Bc as_ fd.offset (by omega) (.inl Ay)];simp[Ay]
       ·cases A1
      ·rename_i Ay;have Ay:Aj P fd.type=false:=by simpa using Ay
       obtain⟨u,Fm,r⟩:=r1.get A1;refine Aw.pure h (v:=u) ?_ r rfl;rw[ex as_ hv];simp[part,S4 Bc,Ay,Fm]
    ·rename_i y;split at he
     ·rename_i hh;obtain⟨hle,Ay⟩:=hh;simp at he;subst he;generalize hv:a.eval x=v at hr;cases hr with
      |e h1 h2 _=>
       rename_i f1;obtain⟨cs,Bi,Ar⟩:=BW hc;obtain⟨as_,rfl,Ni,Dz⟩:=Io h1 Bi;have hlen:=Dz.len;have FG:(y.den c.ρ).cells=cs:=by rw[Bi];rfl
       rw[<-FG]at Dz;obtain⟨q,g1,g2⟩:=Dz.gy Ni fd.offset (P.cellsOf fd.type) (Aj P fd.type) (by rw[FG];omega) (λhh=>by rcases Ay with h'|h';rw[hh]at h';cases h';exact h');refine Aw.pure h ?_ (.e (f:=q) (by simpa[E.den]using g2) (λz hz=>h2 z (g1 z hz)) .nil) rfl;rw[ex as_ hv,S9 Bc as_ fd.offset (by omega) Ay];simp
     ·cases he
    ·rename_i b g m pth y;split at he
     ·rename_i hh;obtain⟨hle,Ay,RX⟩:=hh;have hE:=P7 h.eh h.gs RX;generalize hv:a.eval x=v at hr;have Hi:Cn.den c.ρ (.agg y (P.cellsOf t)):=by
       split at he<;>(simp only[Ac]at he;subst he;exact BW hc)
      cases hr with
      |via h1 h2 h3 _=>
       obtain⟨⟨f1,p1,p2⟩,_⟩:=h3 hE;obtain⟨cs,Bi,Ar⟩:=Hi;obtain⟨as_,rfl,Ni,Dz⟩:=Io p1 Bi;have hlen:=Dz.len;have FG:(y.den c.ρ).cells=cs:=by rw[Bi];rfl
       rw[<-FG]at Dz;obtain⟨q,g1,g2⟩:=Dz.gy Ni fd.offset (P.cellsOf fd.type) (Aj P fd.type) (by rw[FG];omega) (λhh=>by rcases Ay with h'|h';rw[hh]at h';cases h';exact h');have AI:=ex as_ hv;rw[S9 Bc as_ fd.offset (by omega) Ay]at AI;simp only[Result.andThen_ok]at AI;have Ca:Rd c.w _ [(E.fld y fd.offset (P.cellsOf fd.type) (Aj P fd.type)).den c.ρ] q:=g2;split at he
       ·simp only[Ac]at he;subst he;obtain⟨e1,e2,e3,e4⟩:=hc (.flat (.fld y fd.offset (P.cellsOf fd.type) (Aj P fd.type)) (P.cellsOf fd.type) (Aj P fd.type)) (by simp);have hq:q=[]:=by
         cases hg:Aj P fd.type with
         |true=>obtain⟨cs,Bi⟩:=e3 hg;obtain⟨as_,_,_,r⟩:=Io Ca Bi;exact G9 r (by rw[Bi]at e2;exact e2)
         |false=>exact G9 Ca (by simpa using e4 hg)
        subst hq;exact Aw.pure h AI (.e Ca (by simp) .nil) rfl
       ·simp only[Ac]at he;subst he;exact Aw.pure h AI (.via h1 h2 (λ_=>⟨⟨q,Ca,λz hz=>p2 z (g1 z hz)⟩,trivial⟩) .nil) rfl
     ·cases he
    ·cases he
  ·cases he
 ·cases he
theorem PZ{v:Value}{x:AV}{m:Int}{w:World}{f:List Nat}(h:Rd w [v] [x] f)(hx:x.len= .int .i64 m):(∃a c,v= .slice a 0 c/\m=0)\/ ∃b o k c,v= .slice (some ⟨b,o,none⟩) k c/\m=k:=by
 rcases h.kind with h|h|h|h|h|h|h|h|h|h
 ·obtain⟨_,_,_,rfl,_⟩:=h;simp[AV.len]at hx
 ·obtain⟨_,_,rfl,_⟩:=h;simp[AV.len]at hx
 ·obtain⟨_,_,rfl,_⟩:=h;simp[AV.len]at hx
 ·obtain⟨q,r,rfl,rfl,_⟩:=h;simp[AV.len]at hx;exact .inl ⟨q,r,rfl,by omega⟩
 ·obtain⟨b,o,k,r,ys,_,_,_,_,_,_,rfl,rfl,_,_,_,_,hl,_⟩:=h;simp[AV.len]at hx;exact .inr ⟨b,o,k,r,rfl,by omega⟩
 ·obtain⟨_,_,_,rfl,_⟩:=h;simp[AV.len]at hx
 ·obtain⟨_,_,_,rfl,_⟩:=h;simp[AV.len]at hx
 ·obtain⟨_,_,_,_,_,_,_,rfl,_⟩:=h;simp[AV.len]at hx
 ·obtain⟨_,_,_,_,rfl,_⟩:=h;simp[AV.len]at hx
 ·obtain⟨_,rfl,_⟩:=h;simp[AV.len]at hx
theorem PD{t el:TypeId}(hu:P.underlying t=some (.slice el))(hz:P.cellsOf el≠0){b off len cap:Nat}{kk:IntKind}{k:Int}(h0:0<=k)(h1:k<len)(w:World):
  (Instr.indexAt t (.slice (some ⟨b,off,none⟩) len cap) (.int kk k)).run P w= .ok (.pointer (some ⟨b,off+k.toNat*P.cellsOf el,none⟩)) w:=by
 simp[Instr.indexAt,run_underlying hu,asIntOf,h0,h1,mR hz,Addr.add_lit]
theorem mM(h:Bk P c n nx sl hp a sl0 hp0 o gs){t:TypeId}{x i:Operand}(ho:o.op= .indexAddr t x i\/o.op= .index t x i){s1 s2:SV}(BE:By sl0 gs x=some s1)(A1:By sl0 gs i=some s2)
  (AQ:(∃el,P.underlying t=some (.slice el))->o.op= .indexAddr t x i) (YG:P.underlying t=some .string->o.op= .index t x i)
  (he:Ww P hp0 gs t s1 s2=some e) (hc:∀q∈e.bu,Cn.den c.ρ q):Aw P o c n nx sl hp gs a e:=by
 have DK:x∈o.op.operands:=by rcases ho with ho|ho<;>simp[ho,Op.operands]
 have Dn:i∈o.op.operands:=by rcases ho with ho|ho<;>simp[ho,Op.operands]
 have r1:=h.cj BE DK;have r2:=h.cj A1 Dn;unfold Ww at he;split at he
 ·rename_i el k hu;have RD:=AQ ⟨el,hu⟩;have ex:(execOp a.eval o).run P c.w=((Instr.indexAt t (a.eval x) (a.eval i)).run P c.w).andThen λv w=> .ok (.value v) w:=by simp[execOp,RD]
  split at he
  ·cases he
  rename_i hz;obtain⟨fk,Hq,_⟩:∃f,Rd c.w [a.eval i] [k.den c.ρ] f/\ ∀b∈f,c.ok b:=by
   generalize a.eval i=v at r2;cases r2 with
   |e h1 h2 _=>exact⟨_,h1,h2⟩
  split at he
  ·rename_i b g;split at he
   ·rename_i e0 sz g' c0 d hl;split at he
    ·rename_i hh;obtain⟨rfl,rfl⟩:=hh;simp at he;subst he;obtain⟨kk,kv,m,e1,e2,e3,e4,e5⟩:=BW hc;obtain⟨Hp,_⟩:=FA Hq e1;generalize hv:a.eval x=v at r1 ex;cases r1 with
     |own hK Lk _=>
      obtain⟨_,_,N,q1,q2,_,_⟩:=h.eh b _ (Cu hl h.gs);obtain⟨xs,B3,Ar,h0,AX⟩:=q1;rw[B3]at e3;simp only[AV.len,AV.int.injEq,true_and]at e3;rcases AX with⟨rfl,_⟩|⟨g9,cap,C,hH,_⟩
      ·simp at e3;omega
      ·refine Aw.pure h (v:= .pointer (some ⟨g9,kv.toNat*P.cellsOf el+0,none⟩)) ?_ (.cf hK hH e1 e2 (by omega) .nil) rfl;rw[Lk]at hH;cases hH;rw[ex,Hp,PD hu hz e2 (by omega)];simp
    ·cases he
   ·rename_i g' c0 hl;split at he
    ·rename_i hh;subst hh;simp at he;subst he;obtain⟨kk,kv,m,e1,e2,e3,e4,e5⟩:=BW hc;obtain⟨Hp,_⟩:=FA Hq e1;generalize hv:a.eval x=v at r1 ex;cases r1 with
     |own hK Lk _=>
      obtain⟨_,⟨f,q1,q2⟩,_,_⟩:=h.eh b _ (Cu hl h.gs);rcases PZ q1 e3 with⟨_,_,_,hm⟩|⟨b9,off9,len9,cap9,hH,hm⟩
      ·omega
      ·rw[Lk]at hH;cases hH;rw[Lk]at q1;refine Aw.pure h (v:= .pointer (some ⟨b9,off9+kv.toNat*P.cellsOf el+0,none⟩)) ?_ (.c9 q1 q2 e1 e2 (by omega) e5 .nil) rfl;rw[ex,Hp,PD hu hz e2 (by omega)];simp
    ·cases he
   ·rename_i e0 sz dl g' ep c0 hl;split at he
    ·rename_i hh;obtain⟨rfl,rfl⟩:=hh;simp at he;subst he;obtain⟨kk,kv,m,e1,e2,e3,e4,e5⟩:=BW hc;obtain⟨Hp,_⟩:=FA Hq e1;generalize hv:a.eval x=v at r1 ex;cases r1 with
     |own hK Lk _=>
      obtain⟨_,_,_,q1,_⟩:=h.eh b _ (Cu hl h.gs);obtain⟨_,_,⟨a9,d3,d4,_⟩|⟨g9,cap,C,ys,N1,hH,d4,_⟩⟩:=q1.inv
      ·rw[d4]at e3;simp[AV.len]at e3;omega
      ·rw[d4]at e3;simp only[AV.len,AV.int.injEq,true_and]at e3;refine Aw.pure h (v:= .pointer (some ⟨g9,kv.toNat*P.cellsOf el+0,none⟩)) ?_ (.cf hK hH e1 e2 (by omega) .nil) rfl;rw[Lk]at hH;cases hH;rw[ex,Hp,PD hu hz e2 (by omega)];simp
    ·cases he
   ·rename_i e0 sz dl g' ep c0 ih oh uh hl;split at he
    ·rename_i hh;obtain⟨rfl,rfl⟩:=hh;simp at he;subst he;obtain⟨kk,kv,m,e1,e2,e3,e4,e5⟩:=BW hc;obtain⟨Hp,_⟩:=FA Hq e1;generalize hv:a.eval x=v at r1 ex;cases r1 with
     |own hK Lk _=>obtain⟨_,_,_,⟨g9,cap,C,ys,_,_,_,_,hH,d4,_⟩,_⟩:=h.eh b _ (Cu hl h.gs);rw[d4]at e3;simp only[AV.len,AV.int.injEq,true_and]at e3;refine Aw.pure h (v:= .pointer (some ⟨g9,kv.toNat*P.cellsOf el+0,none⟩)) ?_ (.cf hK hH e1 e2 (by omega) .nil) rfl;rw[Lk]at hH;cases hH;rw[ex,Hp,PD hu hz e2 (by omega)];simp
    ·cases he
   ·cases he
  ·rename_i y;simp at he;subst he;obtain⟨kk,kv,m,e1,e2,e3,e4,e5⟩:=BW hc;obtain⟨Hp,_⟩:=FA Hq e1;generalize hv:a.eval x=v at r1 ex;cases r1 with
   |e q1 q2 _=>
    rcases PZ q1 e3 with⟨_,_,_,hm⟩|⟨b9,off9,len9,cap9,rfl,hm⟩
    ·omega
    ·refine Aw.pure h (v:= .pointer (some ⟨b9,off9+kv.toNat*P.cellsOf el+0,none⟩)) ?_ (.c9 q1 q2 e1 e2 (by omega) e5 .nil) rfl;rw[ex,Hp,PD hu hz e2 (by omega)];simp
  ·rename_i b g m pth y;split at he
   ·rename_i RX;simp at he;subst he;have hE:=P7 h.eh h.gs RX;obtain⟨kk,kv,mm,e1,e2,e3,e4,e5⟩:=BW hc;obtain⟨Hp,_⟩:=FA Hq e1;generalize hv:a.eval x=v at r1 ex;cases r1 with
    |via q1 q2 q3 _=>
     obtain⟨⟨f,p1,p2⟩,p3⟩:=q3 hE;rcases PZ p1 e3 with⟨_,_,_,hm⟩|⟨b9,off9,len9,cap9,rfl,hm⟩
     ·omega
     ·refine Aw.pure h (v:= .pointer (some ⟨b9,off9+kv.toNat*P.cellsOf el+0,none⟩)) ?_ (.vptr q1 q2 (λ_=>⟨b9,off9,len9,cap9,kk,kv,⟨f,p1,p2⟩,p3,e1,e2,by omega,e5,rfl⟩) .nil) rfl;rw[ex,Hp,PD hu hz e2 (by omega)];simp
   ·cases he
  ·cases he
 ·rename_i k hu;have RD:=YG hu;obtain⟨fk,Hq,_⟩:∃f,Rd c.w [a.eval i] [k.den c.ρ] f/\ ∀b∈f,c.ok b:=by
   generalize a.eval i=v at r2;cases r2 with
   |e h1 h2 _=>exact⟨_,h1,h2⟩
  split at he
  ·rename_i y;simp at he;subst he;obtain⟨kk,kv,s,e1,e2,e3,e4⟩:=BW hc;obtain⟨Hp,_⟩:=FA Hq e1;generalize hv:a.eval x=v at r1;cases r1 with
   |e q1 q2 _=>
    obtain⟨bs,rfl,rfl,hle⟩:=Qh q1 e2;have AL:kv.toNat<bs.data.toList.length:=by omega
    have Yw:kv.toNat<bs.size:=by simpa using AL
    refine Aw.pure h (v:= .int .u8 (bs[kv.toNat]).toNat) ?_ (.cr ?_) rfl
    ·simp[execOp,RD,Instr.index,hv,Hp,asIntOf,run_underlying hu,e3,Yw]
    ·simp only[E.den,e1,e2,AV.sidx];have:bs.data.toList[kv.toNat]?=some (bs[kv.toNat]):=by
      rw[BH AL];simp[ByteArray.getElem_eq_getElem_data]
     rw[this];refine .int ?_ .nil;rw[N4];have:=(bs[kv.toNat]).toNat_lt;simp[IntKind.min,IntKind.max,IntKind.signed,IntKind.bits];omega
  ·cases he
 ·cases he
theorem zn4(h:Bk P c n nx sl hp a sl0 hp0 o gs){t:TypeId}{x i:Operand}(ho:o.op= .indexAddr t x i)(LF:P.underlying t≠some .string)(he:BL P sg sl0 hp0 nv nx gs o=some e)(hc:∀q∈e.bu,Cn.den c.ρ q):Aw P o c n nx sl hp gs a e:=by
 simp only[BL,ho,Ao]at he;obtain⟨s1,BE,s2,A1,he⟩:=he;split at he
 ·cases he
 exact mM h (.inl ho) BE A1 (λ_=>ho) (λhh=>absurd hh LF) he hc
theorem zqO(h:Bk P c n nx sl hp a sl0 hp0 o gs){t:TypeId}{x i:Operand}(ho:o.op= .index t x i)(LF:P.underlying t=some .string)(he:BL P sg sl0 hp0 nv nx gs o=some e)(hc:∀q∈e.bu,Cn.den c.ρ q):Aw P o c n nx sl hp gs a e:=by
 simp only[BL,ho,Ao]at he;obtain⟨s1,BE,s2,A1,he⟩:=he;split at he
 ·exact mM h (.inr ho) BE A1 (λ⟨el,hh⟩=>by rw[LF]at hh;cases hh) (λ_=>ho) he hc
 ·cases he
theorem zq2(h:Bk P c n nx sl hp a sl0 hp0 o gs){x:Operand}{i:Nat}(ho:o.op= .extract x i)(he:BL P sg sl0 hp0 nv nx gs o=some e)(hc:∀q∈e.bu,Cn.den c.ρ q):Aw P o c n nx sl hp gs a e:=by
 have hm:x∈o.op.operands:=by simp[ho,Op.operands]
 simp only[BL,ho,Ao]at he;obtain⟨s,hs,he⟩:=he;have hr:=h.cj hs hm;generalize hv:a.eval x=v at hr;have ex:∀(as_:List Value) u,v= .tuple as_.toArray->as_[i]?=some u->(execOp a.eval o).run P c.w= .ok (.value u) c.w:=λas_ u Y1 hu=>by simp[execOp,ho,Instr.extract,hv,Y1,hu]
 split at he
 ·rename_i vs;obtain⟨s2,A1,rfl⟩:=An.1 he;cases hr with
  |tup r1 r9=>obtain⟨u,hu,r⟩:=r1.get A1;exact Aw.pure h (ex _ u rfl hu) r rfl
 ·rename_i y;simp at he;subst he;cases hr with
  |e q1 q2 _=>
   have hd:(y.den c.ρ).proj i≠ .undef:=BW hc;cases hy:y.den c.ρ<;>simp only[hy,AV.proj,ne_eq,not_true_eq_false]at hd;rename_i cs;obtain⟨as_,rfl,r1⟩:=zzV q1 hy;cases Lo:cs[i]? with
   |none=>simp[Lo]at hd
   |some z=>obtain⟨u,g,hu,hg,Db⟩:=r1.at Lo;exact Aw.pure h (ex as_ u rfl hu) (.e (f:=g) (by simpa[E.den,hy,AV.proj,Lo]using Db) (λb hb=>q2 b (hg b hb)) .nil) rfl
 ·cases he
theorem zxi(h:Bk P c n nx sl hp a sl0 hp0 o gs){x:Operand}{t:TypeId}(ho:o.op= .unOp .not t x)(he:BL P sg sl0 hp0 nv nx gs o=some e)(hc:∀q∈e.bu,Cn.den c.ρ q):Aw P o c n nx sl hp gs a e:=by
 have hm:x∈o.op.operands:=by simp[ho,Op.operands]
 simp only[BL,ho,Ao,An]at he;obtain⟨s,hs,y,hy,he⟩:=he;obtain⟨f,q1,_⟩:=G6 (h.cj hs hm) hy;split at he
 ·subst he;have hv:=HG q1 rfl;rename_i b;exact Aw.pure h (v:= .bool (!b)) (by simp[execOp,ho,hv,Op.unary]) (.cr (.bool .nil)) rfl
 ·subst he;have hd:(y.den c.ρ).ec≠ .undef:=BW hc;cases BA:y.den c.ρ<;>simp only[BA,AV.ec,ne_eq,not_true_eq_false]at hd;have hv:=HG q1 BA;rename_i b;exact Aw.pure h (v:= .bool (!b)) (by simp[execOp,ho,hv,Op.unary]) (.cr (by simp only[E.den,BA,AV.ec];exact .bool .nil)) rfl
theorem zxp(h:Bk P c n nx sl hp a sl0 hp0 o gs){x:Operand}{t:TypeId}(ho:o.op= .unOp .neg t x)(he:BL P sg sl0 hp0 nv nx gs o=some e)(hc:∀q∈e.bu,Cn.den c.ρ q):Aw P o c n nx sl hp gs a e:=by
 have hm:x∈o.op.operands:=by simp[ho,Op.operands]
 simp only[BL,ho,Ao,An]at he;obtain⟨s,hs,y,hy,rfl⟩:=he;obtain⟨f,q1,_⟩:=G6 (h.cj hs hm) hy;have hd:(y.den c.ρ).ib≠ .undef:=BW hc;cases BA:y.den c.ρ<;>simp only[BA,AV.ib,ne_eq,not_true_eq_false]at hd;rename_i k m;obtain⟨hv,_⟩:=FA q1 BA;exact Aw.pure h (v:= .int k (k.wrap (0-m))) (by simp[execOp,ho,hv,Op.unary,Op.intArith]) (.cr (by simp only[E.den,BA,AV.ib];exact .int (dH _ _) .nil)) rfl
theorem rA{L:List Operand}{sl0:Nat->SV}{gs:Gd}(h:∀x s,By sl0 gs x=some s->x∈L->SR c [s] [a.eval x]):∀{xs:List Operand} {ss:List SV},(∀x∈xs,x∈L)->xs.mapM (By sl0 gs)=some ss->SR c ss (xs.map a.eval)
 | [],ss,_,hm=>by simp at hm;subst hm;exact .nil
 |x::xs,ss,hL,hm=>by rw[List.mapM_cons]at hm;simp only[Option.bind_eq_bind,Ao]at hm;obtain⟨s,hs,ss',FR,hm⟩:=hm;simp at hm;subst hm;exact(h x s hs (hL x (by simp))).app (rA h (λy hy=>hL y (by simp[hy])) FR)
theorem zpH(h:Bk P c n nx sl hp a sl0 hp0 o gs){f:FuncId}{fst caps:Array Operand}(ho:o.op= .makeFunc (.func f) fst caps)(he:BL P sg sl0 hp0 nv nx gs o=some e):Aw P o c n nx sl hp gs a e:=by
 simp only[BL,ho]at he;split at he
 ·rename_i hf;obtain⟨ss,FR,rfl⟩:=An.1 he;have hf:fst= #[]:=by simpa using hf
  have r:=rA (a:=a) (c:=c) (L:=caps.toList) (λx s hx hm=>h.cj hx (by simp only[ho,Op.operands,Array.mem_append];exact .inr (Array.mem_toList_iff.1 hm))) (λx hx=>hx) FR;refine Aw.pure h (v:= .func (.func f) #[] (caps.toList.map a.eval).toArray) ?_ (.fn (by rw[BD.ar];exact r) .nil) rfl;simp[execOp,ho,Instr.makeFunc,hf];apply Array.ext';simp
 ·cases he
end
section
variable {P:Program} {c:Cx} {n nx:Nat} {sl sl0:Nat->SV} {hp hp0:Nat->Option Ae} {a:Act} {o:Oper} {gs:Gd} {e:A3} {sg:BN} {nv:Nat}
theorem Bk.ji(h:Bk P c n nx sl hp a sl0 hp0 o gs){x:Operand}{s:SV}(hs:By sl0 gs x=some s)(hm:x∈o.op.operands){y:E}(hy:Bp hp0 gs AZ s=some y):
  ∃f,Rd c.w [a.eval x] [y.den c.ρ] f/\ ∀b∈f,c.dr (BV hp0 gs (AZ+1) [s]) b:=G8 h.eh h.gs AZ hy (h.cj hs hm) AZ (Av _)
theorem zwW(h:Bk P c n nx sl hp a sl0 hp0 o gs){x:Operand}{t:TypeId}{cl:Call}(ho:o.op= .call cl)(Ar:cl.callee= .builtin .len)(CC:cl.args.toList=[x])(Dx:cl.argTypes.toList=[t])(he:BL P sg sl0 hp0 nv nx gs o=some e)(hc:∀q∈e.bu,Cn.den c.ρ q):Aw P o c n nx sl hp gs a e:=by
 have Ah:cl.args= #[x]:=by apply Array.ext';simp[CC]
 have Fl:cl.argTypes= #[t]:=by apply Array.ext';simp[Dx]
 have hm:x∈o.op.operands:=by simp[ho,Op.operands,Call.operands,Ar,Ah]
 simp only[BL,ho,Ar,CC,Dx,Ao]at he;obtain⟨s,hs,he⟩:=he;unfold sW at he;have ex:(execOp a.eval o).run P c.w=((Builtin.len_ #[t] o.type #[a.eval x]).run P c.w).andThen λv w=> .ok (.value v) w:=by simp[execOp,ho,resolve,Ar,Ah,Fl,invoke,builtin]
 split at he
 ·rename_i el hu;obtain⟨y,hy,rfl⟩:=An.1 he;obtain⟨f,q1,q2⟩:=h.ji hs hm hy;have hd:(y.den c.ρ).len≠ .undef:=BW hc;cases BA:y.den c.ρ<;>simp only[BA,AV.len,ne_eq,not_true_eq_false]at hd;rename_i xs;have hl:(y.den c.ρ).len= .int .i64 (xs.length:Int):=by rw[BA];rfl
  have Cc:EX .i64 (xs.length:Int):=by
   rw[N4];rcases q1.kind with hh|hh|hh|hh|hh|hh|hh|hh|hh|hh
   all_goals first
    |(obtain⟨_,_,_,hh,_⟩:=hh;rw[BA]at hh;cases hh;done)
    |(obtain⟨_,_,hh,_⟩:=hh;rw[BA]at hh;cases hh;done)
    |skip
   ·obtain⟨_,_,_,hh,_⟩:=hh;rw[BA]at hh;cases hh;simp[IntKind.min,IntKind.max,IntKind.signed,IntKind.bits]
   ·obtain⟨_,_,_,_,_,_,_,_,_,_,_,_,hh,_,_,_,hle,hlen,_⟩:=hh;rw[BA]at hh;cases hh;simp[IntKind.min,IntKind.max,IntKind.signed,IntKind.bits];omega
   all_goals first
    |(obtain⟨_,_,_,hh,_⟩:=hh;rw[BA]at hh;cases hh;done)
    |(obtain⟨_,_,_,_,_,_,_,hh,_⟩:=hh;rw[BA]at hh;cases hh;done)
    |(obtain⟨_,_,_,_,hh,_⟩:=hh;rw[BA]at hh;cases hh;done)
    |(obtain⟨_,hh,_⟩:=hh;rw[BA]at hh;cases hh;done)
  refine Aw.pure h (v:= .int .i64 xs.length) ?_ (.cr (by simp only[E.den,BA,AV.len];exact .int Cc .nil)) rfl;rcases PZ q1 hl with⟨p,q,hv,Dy⟩|⟨b,o',k,q,hv,Dy⟩
  ·rw[ex,hv,Dy];simp[Builtin.len_,run_underlying hu,goInt]
  ·rw[ex,hv,Dy];simp[Builtin.len_,run_underlying hu,goInt]
 ·rename_i hu;obtain⟨y,hy,rfl⟩:=An.1 he;obtain⟨f,q1,q2⟩:=h.ji hs hm hy;have hd:(y.den c.ρ).slen≠ .undef:=BW hc;cases BA:y.den c.ρ<;>simp only[BA,AV.slen,ne_eq,not_true_eq_false]at hd;obtain⟨bs,hv,rfl,hle⟩:=Qh q1 BA;refine Aw.pure h (v:= .int .i64 bs.size) ?_ (.cr ?_) rfl
  ·rw[ex,hv];simp[Builtin.len_,run_underlying hu,goInt]
  ·simp only[E.den,BA,AV.slen];have:(bs.data.toList.length:Int)=(bs.size:Int):=by simp
   rw[this];refine .int ?_ .nil;rw[N4];simp[IntKind.min,IntKind.max,IntKind.signed,IntKind.bits];omega
 ·cases he
theorem zqP(h:Bk P c n nx sl hp a sl0 hp0 o gs){x:Operand}{src dst:TypeId}{k0 k:IntKind}(ho:o.op= .convert src dst x)(h1:P.underlying src=some (.int k0))(h2:P.underlying dst=some (.int k))(he:BL P sg sl0 hp0 nv nx gs o=some e)(hc:∀q∈e.bu,Cn.den c.ρ q):Aw P o c n nx sl hp gs a e:=by
 have hm:x∈o.op.operands:=by simp[ho,Op.operands]
 simp only[BL,ho,Ao]at he;obtain⟨s,hs,he⟩:=he;simp only[Tl,h1,h2,An]at he;obtain⟨y,hy,rfl⟩:=he;obtain⟨f,q1,_⟩:=G6 (h.cj hs hm) hy;have hd:(y.den c.ρ).conv k≠ .undef:=BW hc;cases BA:y.den c.ρ<;>simp only[BA,AV.conv,ne_eq,not_true_eq_false]at hd;rename_i k1 m;obtain⟨hv,_⟩:=FA q1 BA;exact Aw.pure h (v:= .int k (k.wrap m)) (by simp[execOp,ho,hv,convert,run_underlying h1,run_underlying h2,Conv.intToInt]) (.cr (by simp only[E.den,BA,AV.conv];exact .int (dH _ _) .nil)) rfl
theorem zqq(h:Bk P c n nx sl hp a sl0 hp0 o gs){x:Operand}{src dst:TypeId}(ho:o.op= .convert src dst x)(h1:P.underlying src=some .string)(h2:P.underlying dst=some .string)(he:BL P sg sl0 hp0 nv nx gs o=some e)(hc:∀q∈e.bu,Cn.den c.ρ q):Aw P o c n nx sl hp gs a e:=by
 have hm:x∈o.op.operands:=by simp[ho,Op.operands]
 simp only[BL,ho,Ao]at he;obtain⟨s,hs,he⟩:=he;simp only[Tl,h1,h2,An]at he;obtain⟨y,hy,rfl⟩:=he;obtain⟨f,q1,_⟩:=G6 (h.cj hs hm) hy;have hd:(y.den c.ρ).slen≠ .undef:=BW hc;cases hl:y.den c.ρ<;>simp only[hl,AV.slen,ne_eq,not_true_eq_false]at hd;obtain⟨bs,hv,hle,Yu⟩:=Qh q1 hl;exact Aw.pure h (v:= .string bs) (by simp[execOp,ho,hv,convert,run_underlying h1,run_underlying h2]) (.cr (by rw[hl,hle];exact Rd.str Yu .nil)) rfl
theorem sS{w:World}:∀{ys:List AV} {s:List UInt8} {cs:List Value} {f:List Nat},LY ys=some s->Rd w cs (Ap ys) f-> ∃ns:List Int,cs=ns.map (Value.int .u8)/\s=ns.map (λn=>UInt8.ofNat n.toNat)/\ns.length=ys.length
 | [],s,cs,f,h,hr=>by have:Ap ([]:List AV)=[]:=rfl;rw[this]at hr;cases hr;cases h;exact⟨[],rfl,rfl,rfl⟩
 |y::ys,s,cs,f,h,hr=>by
  unfold LY at h;split at h
  ·rename_i h0;cases h0
  ·rename_i n xs he;cases he;obtain⟨s',h1,rfl⟩:=An.1 h;have CW:Rd w cs (.int .u8 n::Ap ys) f:=by simpa[Ap,AV.cells]using hr
   cases CW with
   |int hk Dz=>obtain⟨ns,rfl,rfl,hl⟩:=sS h1 Dz;exact⟨n::ns,rfl,rfl,by simp[hl]⟩
  ·cases h
theorem zpu(h:Bk P c n nx sl hp a sl0 hp0 o gs){x:Operand}{src dst el:TypeId}(ho:o.op= .convert src dst x)(h1:P.underlying src=some (.slice el))(h2:P.underlying dst=some .string)(he:BL P sg sl0 hp0 nv nx gs o=some e)(hc:∀q∈e.bu,Cn.den c.ρ q):Aw P o c n nx sl hp gs a e:=by
 have hm:x∈o.op.operands:=by simp[ho,Op.operands]
 simp only[BL,ho,Ao]at he;obtain⟨s,hs,he⟩:=he;simp only[Tl,h1,h2]at he;split at he
 ·rename_i hu;obtain⟨y,hy,rfl⟩:=An.1 he;obtain⟨f,q1,q2⟩:=h.ji hs hm hy;have hd:(y.den c.ρ).text≠ .undef:=BW hc;cases BA:y.den c.ρ<;>simp only[BA,AV.text,ne_eq,not_true_eq_false]at hd;rename_i xs;split at hd
  ·rename_i t ht;split at hd
   ·rename_i hle;have Ca:(E.text y).den c.ρ= .str t:=by
     simp only[E.den,BA,AV.text,ht];rw[if_pos hle]
    have fin:∀ns:List Int,t=ns.map (λn=>UInt8.ofNat n.toNat)->ns.length=xs.length->(convert src dst (a.eval x)).run P c.w= .ok (.string (ns.foldl (λr n=>r.push (UInt8.ofNat n.toNat)) ByteArray.empty)) c.w->Aw P o c n nx sl hp gs a {bu:=[.dfd (.text y)],val:= .e (.text y)}:=λns e1 e2 e3=>by
     have e4:(ns.foldl (λr n=>r.push (UInt8.ofNat n.toNat)) ByteArray.empty)=⟨t.toArray⟩:=by
      rw[foldl_push_bytes,e1];simp[ByteArray.empty,ByteArray.emptyWithCapacity]
      try rfl
     rw[e4]at e3;refine Aw.pure h (v:= .string ⟨t.toArray⟩) (by simp[execOp,ho,e3]) (.cr ?_) rfl;rw[Ca];have BF:(ByteArray.mk t.toArray).size<=9223372036854775807:=by simp only[ByteArray.size,List.size_toArray];rw[e1,List.length_map];omega
     have:=Rd.str (w:=c.w) (s:=⟨t.toArray⟩) BF .nil;simpa using this
    rw[BA]at q1;rcases q1.kind with hh|hh|hh|hh|hh|hh|hh|hh|hh|hh
    all_goals first
     |(obtain⟨_,_,_,hh,_⟩:=hh;cases hh;done)
     |(obtain⟨_,_,hh,_⟩:=hh;cases hh;done)
     |skip
    ·obtain⟨p,q,hv,hx,_⟩:=hh;cases hx;cases ht;refine fin [] rfl rfl ?_;rw[hv];cases p with
     |none=>rw[run_convert_bytes_nil c.w src el h1 hu _ _ dst h2];rfl
     |some ad=>rw[run_convert_bytes_string c.w src dst el _ 0 q h1 hu h2,run_bytesToString c.w ad 0 q [] (by simp[loadCells,loadCellsFrom])]
    ·obtain⟨b,o',k,q,ys,cs,C,t',fz,sz,f1,hv,hx,_,hb,_,u4,hlen,_,_,Bi,hr⟩:=hh;cases hx;obtain⟨ns,rfl,e1,e2⟩:=sS ht hr.2;refine fin ns e1 e2 ?_;have hl:ns.length=k:=by omega
     have Bh:∀i,i<k->c.w.cell? ⟨b,o'+i,none⟩=some (.int .u8 (ns.getD i 0)):=λi hi=>by
      have H4:i<ns.length:=by omega
      have:=Bi i (.int .u8 ns[i]) (by simp[H4]);rw[Ef hb,this];simp[H4]
     have:=run_convert_bytes_arg c.w src el h1 hu b o' k q ns hl Bh dst h2;rw[hv,this];congr 2;rw[foldl_push_bytes];simp[strOfNums,ByteArray.empty,ByteArray.emptyWithCapacity]
     try rfl
    all_goals first
     |(obtain⟨_,_,_,hh,_⟩:=hh;cases hh;done)
     |(obtain⟨_,_,_,_,_,_,_,hh,_⟩:=hh;cases hh;done)
     |(obtain⟨_,_,_,_,hh,_⟩:=hh;cases hh;done)
     |(obtain⟨_,hh,_⟩:=hh;cases hh;done)
   ·exact absurd rfl hd
  ·exact absurd rfl hd
 ·cases he
theorem nS{ρ:List AV}{x:E}{b:Bool}{gs:Gd}(h1:x.den ρ= .bool b)(h2:Bg ρ gs):Bg ρ ((x,b)::gs):=by
 intro g hg;rcases Ad.1 hg with rfl|hg
 ·exact h1
 ·exact h2 g hg
theorem zuH(h:Bk P c n nx sl hp a sl0 hp0 o gs){x y z:Operand}(ho:o.op= .pick x y z)(he:BL P sg sl0 hp0 nv nx gs o=some e)(hc:∀q∈e.bu,Cn.den c.ρ q):Aw P o c n nx sl hp gs a e:=by
 have DK:x∈o.op.operands:=by simp[ho,Op.operands]
 have Dn:y∈o.op.operands:=by simp[ho,Op.operands]
 have gZ:z∈o.op.operands:=by simp[ho,Op.operands]
 simp only[BL,ho,Ao]at he;obtain⟨s,hs,he⟩:=he;have hr:=h.cj hs DK;split at he
 ·rename_i q;have ex:∀b,a.eval x= .bool b->(execOp a.eval o).run P c.w= .ok (.value (if b then a.eval y else a.eval z)) c.w:=λb hb=>by
   simp[execOp,ho,hb,asBool]
  obtain⟨f,q1⟩:∃f,Rd c.w [a.eval x] [q.den c.ρ] f:=by
   generalize a.eval x=v at hr;cases hr with
   |e h1 _ _=>exact⟨_,h1⟩
  unfold rP at he;split at he
  ·obtain⟨s',Ba,rfl⟩:=An.1 he;exact Aw.pure h (v:=a.eval y) (ex true (HG q1 rfl)) (h.cj Ba Dn) rfl
  ·obtain⟨s',Ba,rfl⟩:=An.1 he;exact Aw.pure h (v:=a.eval z) (ex false (HG q1 rfl)) (h.cj Ba gZ) rfl
  ·split at he
   ·rename_i y' z' hy hz;simp at he;subst he;simp only[Ao]at hy hz;obtain⟨sy,vX,hy⟩:=hy;obtain⟨sz,BF,hz⟩:=hz;have hd:(q.den c.ρ).ec≠ .undef:=BW hc;cases hq:q.den c.ρ<;>simp only[hq,AV.ec,ne_eq,not_true_eq_false]at hd;rename_i b;cases b with
    |true=>have r:=VK (a:=a) vX (λt ht=>by subst ht;rw[h.sl t Dn];exact h.rel.ct t) (nS hq h.gs);obtain⟨f',g1,g2⟩:=G6 r hy;exact Aw.pure h (v:=a.eval y) (ex true (HG q1 hq)) (.e (f:=f') (by simpa[E.den,hq,AV.cond]using g1) g2 .nil) rfl
    |false=>have r:=VK (a:=a) BF (λt ht=>by subst ht;rw[h.sl t gZ];exact h.rel.ct t) (nS hq h.gs);obtain⟨f',g1,g2⟩:=G6 r hz;exact Aw.pure h (v:=a.eval z) (ex false (HG q1 hq)) (.e (f:=f') (by simpa[E.den,hq,AV.cond]using g1) g2 .nil) rfl
   ·cases he
 ·cases he
end
section
variable {P:Program} {c:Cx} {n nx:Nat} {sl sl0:Nat->SV} {hp hp0:Nat->Option Ae} {a:Act} {o:Oper} {gs:Gd} {e:A3} {sg:BN} {nv:Nat}
theorem bA{w:World}{v:Value}{x:AV}{f:List Nat}(h:Rd w [v] [x] f)(h1:∀cs,x≠ .agg cs)(h2:∀cs,x≠ .tup cs):v.oneCell'=true:=by
 cases h<;>first
  |rfl
  |exact absurd rfl (h1 _)
  |exact absurd rfl (h2 _)
theorem one_cells{v:Value}(h:v.oneCell'=true):v.cells= #[v]:=by cases v<;>first|rfl|(simp[Value.oneCell']at h)
theorem We{t:TypeId}{s:SV}{v:Value}{cs:List SV}{ck:List Cn}(h:SR c [s] [v])(hc:P4 P t s=some (cs,ck))(hk:∀q∈ck,q.den c.ρ):
  SR c cs v.cells.toList/\(∀u∈v.cells.toList,u.oneCell'=true):=by
 unfold P4 at hc;split at hc
 ·split at hc
  ·simp at hc;obtain⟨rfl,rfl⟩:=hc;cases h with
   |agg h1 h2 _=>exact⟨by simpa[Value.cells]using h2,by simpa[Value.cells]using h1⟩
  ·rename_i x;simp at hc;obtain⟨rfl,rfl⟩:=hc;cases h with
   |e h1 h2 _=>
    obtain⟨as_,has,hl⟩:=BW hk;obtain⟨vs,rfl,h3,h4⟩:=Io h1 has;refine⟨?_,by simpa[Value.cells]using h3⟩;have hlen:=h4.len;have key:∀k,k<=as_.length->SR c ((List.range k).map λj=>SV.e (.fld x j 1 false)) (vs.take k):=by
     intro k
     induction k with
     |zero=>intro _;simpa using SR.nil
     |succ k ih=>
      intro hk;have B7:k<as_.length:=by omega
      obtain⟨u,g,hu,hg,hr⟩:=h4.at (show as_[k]?=some as_[k] by simp[B7])
      rw[List.range_succ,List.map_append,List.take_succ_eq_append_getElem (by omega)];refine(ih (by omega)).app ?_;have Fm:vs[k]'(by omega)=u:=by simpa[show k<vs.length by omega]using hu
      rw[Fm];exact .e (f:=g) (by simpa[E.den,AV.fld,has,AV.cells,B7]using hr) (λb hb=>h2 b (hg b hb)) .nil
    have:=key as_.length (Av _);rw[<-hlen,List.take_length,hlen,hl]at this;simpa[Value.cells]using this
  ·cases hc
 ·split at hc
  ·rename_i x;simp at hc;obtain⟨rfl,rfl⟩:=hc;cases h with
   |e h1 h2 _=>
    have hq:(∀cs,x.den c.ρ≠ .agg cs)/\ ∀cs,x.den c.ρ≠ .tup cs:=by
     cases x<;>first
      |exact(BW hk:Cn.den c.ρ (.cells _ 1))
      |exact⟨by simp[E.den],by simp[E.den]⟩
    have F2:=bA h1 hq.1 hq.2;rw[one_cells F2];exact⟨.e h1 h2 .nil,by simpa using F2⟩
  ·cases hc
  ·cases hc
  ·cases hc
  ·cases hc
  ·cases hc
  ·cases hc
  ·cases hc
  ·cases hc
  ·simp at hc;obtain⟨rfl,rfl⟩:=hc;have F2:v.oneCell'=true:=by
    cases h<;>first|rfl|(rename_i hh _ _ _ _ _;exact absurd rfl (hh _))|skip
    all_goals first
     |rfl
     |exact(show∀(i:Nat),SV.lent _=SV.lent i->False from by assumption) _ rfl|>.elim
     |exact(show∀(t g n:Nat) (p:Mx) (x:E),SV.via _ _ _ _ _=SV.via t g n p x->False from by assumption) _ _ _ _ _ rfl|>.elim
     |exact(show∀(t g n:Nat) (p:Mx) (x i:E) (sz o:Nat),SV.vptr _ _ _ _ _ _ _ _=SV.vptr t g n p x i sz o->False from by assumption) _ _ _ _ _ _ _ _ rfl|>.elim
     |(exfalso;simp_all;done)
   rw[one_cells F2];exact⟨h,by simpa using F2⟩
theorem zz0(h:Bk P c n nx sl hp a sl0 hp0 o gs)(ob:Obj)(hv:Value):Mp c (c.new nx ob hv []) nx:=
 ⟨rfl,rfl,rfl,rfl,λt ht=>ht.imp id (λhh=>by subst hh;exact⟨Av _,by simp[BJ]⟩)⟩
theorem L9(h:Bk P c n nx sl hp a sl0 hp0 o gs): ¬c.U nx:=h.new nx (Av _) (by omega)
theorem Aw.box(h:Bk P c n nx sl hp a sl0 hp0 o gs){ty:TypeId}{g:Bool}{cs:List SV}{v:Value}{ck:List Cn}(hr:(execOp a.eval o).run P c.w= .ok (.value (.pointer (some ⟨c.w.heap.size,0,none⟩))) (c.w.alloc (.cells v.cells ty)))
  (hs:SR c cs v.cells.toList) (h1:∀u∈v.cells.toList,u.oneCell'=true):Aw P o c n nx sl hp gs a {bu:=ck,val:= .ca nx 0,bc:=[(nx,CB gs (.box ty g cs))]}:=by
 intro next Q hk
 unfold Oper.wp;rw[hr,Oper.upon_value];have hU:=L9 h;have keep:DE c (c.new nx (.cells v.cells ty) (.pointer (some ⟨c.w.heap.size,0,none⟩)) []):=Cx.fu (λg hg=>hU (h.rel.bd _ _ hg));have hH:(c.new nx (.cells v.cells ty) (.pointer (some ⟨c.w.heap.size,0,none⟩)) []).H nx 0= .pointer (some ⟨c.w.heap.size,0,none⟩):=by simp[Cx.new]
 have hK:(c.new nx (.cells v.cells ty) (.pointer (some ⟨c.w.heap.size,0,none⟩)) []).K nx 0:= .inr ⟨rfl,rfl⟩;have hrel:=h.rel.new hU (.cells v.cells ty) (.pointer (some ⟨c.w.heap.size,0,none⟩)) (.box ty g cs) gs h.gs (by intros;simp)
  ⟨c.w.heap.size,v.cells,hK,hH,by simp[Cx.new],by simp[Cx.new],heap_alloc_new _ _,h1,hs.keep keep⟩
 exact hk _ _ (zz0 h _ _) (hrel.put ((SR.ca hK hH .nil).mkGd gs h.gs) o.dst)
theorem ztN(h:Bk P c n nx sl hp a sl0 hp0 o gs){t:TypeId}(ho:o.op= .alloc t)(he:BL P sg sl0 hp0 nv nx gs o=some e)(hc:∀q∈e.bu,Cn.den c.ρ q):Aw P o c n nx sl hp gs a e:=by
 simp only[BL,ho,Ao]at he;obtain⟨z,⟨i,hi,hz⟩,s,hs,⟨cs,ck⟩,Bi,he⟩:=he;split at he
 ·cases he
 ·split at he
  ·cases he
  ·rename_i Ki;have Ki:ck=[]:=by simpa using Ki
   simp at he;subst he;have Ba:EK z=some s:=by simpa[sG,hi,hz]using hs
   obtain⟨q1,q2⟩:=We (V6 (c:=c) Ba) Bi (by simp[Ki]);refine Aw.box h (v:=z) ?_ q1 q2;simp[execOp,ho,Instr.alloc,zeroValue,typeInfo,hi,hz,newVar,newRow]
theorem zxm(h:Bk P c n nx sl hp a sl0 hp0 o gs){t:TypeId}{x:Operand}(ho:o.op= .box t x)(he:BL P sg sl0 hp0 nv nx gs o=some e)(hc:∀q∈e.bu,Cn.den c.ρ q):Aw P o c n nx sl hp gs a e:=by
 have hm:x∈o.op.operands:=by simp[ho,Op.operands]
 simp only[BL,ho,Ao]at he;obtain⟨s,hs,⟨cs,ck⟩,Bi,he⟩:=he;split at he
 ·cases he
 ·simp at he;subst he;obtain⟨q1,q2⟩:=We (h.cj hs hm) Bi hc;refine Aw.box h (v:=a.eval x) ?_ q1 q2;simp[execOp,ho,Instr.box,newVar,newRow]
end
section
variable {P:Program} {c:Cx} {n nx:Nat} {sl sl0:Nat->SV} {hp hp0:Nat->Option Ae} {a:Act} {o:Oper} {gs:Gd} {e:A3} {sg:BN} {nv:Nat}
def setVs{α:Type}(cs:List α)(o:Nat)(vs:List α):List α:=cs.take o++vs++cs.drop (o+vs.length)
theorem PH{α:Type}(cs vs:List α)(o:Nat)(h:o+vs.length<=cs.length)(i:Nat):(setVs cs o vs)[i]?=if o<=i/\i<o+vs.length then vs[i-o]? else cs[i]?:=by
 unfold setVs;have ht:(cs.take o).length=o:=by rw[Ax];omega
 rw[List.append_assoc];by_cases h1:i<o
 ·rw[if_neg (by omega),List.getElem?_append_left (by omega),List.getElem?_take,if_pos h1]
 ·rw[List.getElem?_append_right (by omega),ht];by_cases h2:i<o+vs.length
  ·rw[if_pos (by omega),List.getElem?_append_left (by omega)]
  ·rw[if_neg (by omega),List.getElem?_append_right (by omega),List.getElem?_drop];congr 1;omega
theorem PK{α:Type}(cs vs:List α)(o:Nat)(h:o+vs.length<=cs.length):(setVs cs o vs).length=cs.length:=by simp[setVs];omega
theorem SR.setVs{cs vs:List SV}{C V:List Value}{k:Nat}(h:SR c cs C)(hv:SR c vs V):SR c (Qr cs k vs) (Go.Proofs.YtndikjghnmhdmaaGreat.setVs C k V):=by unfold Qr Go.Proofs.YtndikjghnmhdmaaGreat.setVs;have hl:=hv.len;rw[<-hl];exact((h.split k).1.app hv).app (h.split _).2
theorem o8(vs:List Value):∀(k off:Nat) (C:Array Value),off+k+vs.length<=C.size->
  ((vs.zipIdx k).foldl (λcs (p:Value × Nat)=>cs.setIfInBounds (off+p.2) p.1) C).toList=setVs C.toList (off+k) vs:=by
 induction vs with
 |nil=>intro k off C _;simp[setVs]
 |cons v vs ih=>
  intro k off C h;simp only[AR]at h;simp only[List.zipIdx_cons,List.foldl_cons];rw[ih (k+1) off _ (by simp;omega)];apply List.ext_getElem?;intro i;rw[PH _ _ _ (by simp;omega),PH _ _ _ (by simp;omega)];simp only[Array.toList_setIfInBounds,List.getElem?_set,AR,BG];by_cases h1:i=off+k
  ·subst h1;rw[if_neg (by omega),if_pos rfl,if_pos (by omega),if_pos (by omega)];simp
  ·by_cases h2:off+(k+1)<=i/\i<off+(k+1)+vs.length
   ·rw[if_pos h2,if_pos (by omega),show i-(off+k)=(i-(off+(k+1)))+1 by omega,List.getElem?_cons_succ]
   ·rw[if_neg h2,if_neg (by omega),if_neg (by omega)]
theorem aR{b off:Nat}{t:TypeId}:∀(vs:List Value) (i:Nat) (w:World) (C:Array Value),w.heap[b]?=some (.cells C t (0,0))->off+i+vs.length<=C.size->(∀v∈vs,v.oneCell'=true)->
  (storeCells ⟨b,off,none⟩ vs i).run P w= .ok () (putCells w b (off+i) vs)
 | [],i,w,C,_,_,_=>by simp[storeCells,putCells]
 |v::vs,i,w,C,hb,hl,h1=>by
  simp only[AR]at hl;have hi:off+i<C.size:=by omega
  have Bh:w.cell? ⟨b,off+i,none⟩=some C[off+i]:=by simp[World.cell?,hb,hi]
  have Yd:w.frozen? ⟨b,off+i,none⟩=false:=by simp[World.frozen?,hb]
  have I1:(store ((⟨b,off,none⟩:Addr).add i) v).run P w= .ok () (w.setCell ⟨b,off+i,none⟩ v):=by rw[Addr.add_lit,run_store P w _ v _ (h1 v (by simp)),Bh];simp[Yd]
  have h2:=heap_setCell_same w b (off+i) C t v hb;have ih:=aR (off:=off) vs (i+1) (w.setCell ⟨b,off+i,none⟩ v) _ h2 (by simp;omega) (λx hx=>h1 x (by simp[hx]));simp only[storeCells,Sem.run_bind,I1,Result.andThen_ok,ih,putCells];rw[Nat.add_assoc]
theorem Vz{w:World}{b off:Nat}{t:TypeId}{vs:List Value}{C:Array Value}(hb:w.heap[b]?=some (.cells C t (0,0)))(hl:off+vs.length<=C.size):
  Mod [b] w (putCells w b off vs)/\(putCells w b off vs).heap[b]?=some (.cells (setVs C.toList off vs).toArray t (0,0))/\(putCells w b off vs).heap.size=w.heap.size:=by
 obtain⟨hm,C',h1,h2,h3,h4⟩:=aL vs w b off C t hb hl;refine⟨hm,?_,?_⟩
 ·rw[h1];congr 2;apply Array.ext';apply List.ext_getElem?;intro i;rw[PH _ _ _ (by simpa using hl)];by_cases hi:off<=i/\i<off+vs.length
  ·rw[if_pos hi];have AL:i-off<vs.length:=by omega
   have:=h3 (i-off) vs[i-off] (by simp[AL]);rw[show off+(i-off)=i by omega]at this;rw[Array.getElem?_toList,this];simp[AL]
  ·rw[if_neg hi,Array.getElem?_toList,Array.getElem?_toList];exact h4 i (by omega)
 ·clear hm h1 h2 h3 h4 hl
  induction vs generalizing w off C with
  |nil=>rfl
  |cons v vs ih=>simp only[putCells];rw[ih (heap_setCell_same w b off C t v hb)];simp[World.setCell]
theorem aZ{w:World}{b off:Nat}{t ty:TypeId}{v:Value}{C:Array Value}(hb:w.heap[b]?=some (.cells C ty (0,0)))(ht:C4 P t=true)(hs:v.cells.size=P.cellsOf t)(hl:off+v.cells.size<=C.size)(h1:∀u∈v.cells.toList,u.oneCell'=true):
  (Instr.storeAt t (.pointer (some ⟨b,off,none⟩)) v).run P w= .ok () (putCells w b off v.cells.toList):=by
 have:=aR (P:=P) (off:=off) v.cells.toList 0 w C hb (by simpa using hl) h1;simp only[Nat.add_zero]at this;simp[Instr.storeAt,Instr.sureAddr,storeVar,NO ht,hs,this]
def Cx.wr(c:Cx)(w':World)(t:Nat):Cx:={c with w:=w',E:=λu=>if u=t then c.E u+1 else c.E u}
theorem Cx.gq{c:Cx}{w':World}{t b:Nat}(gw:GW c)(B0:b∈(c.G t).top)(hm:Mod [b] c.w w'):DE c (c.wr w' t):=by
 have Bd:b∈(c.G t).own:=by simp[GI.own,B0]
 refine⟨rfl,rfl,λq _ hq=>hq,λq hq AS=>hm.block q hq ?_,λu g hu=>⟨hu,rfl⟩,λu g hu=> ?_⟩
 ·simp only[List.mem_singleton];rintro rfl;exact AS.1 ⟨t,B0⟩
 ·by_cases F7:u=t
  ·have e1:(c.wr w' t).E u=c.E u+1:=by simp only[Cx.wr,if_pos F7]
   exact⟨by omega,λh=>by omega⟩
  ·have e1:(c.wr w' t).E u=c.E u:=by simp only[Cx.wr,if_neg F7]
   rw[e1];refine⟨Av _,λ_=>⟨rfl,λq hq H6=>hm.block q H6 ?_⟩⟩;simp only[List.mem_singleton];rintro rfl;exact gw.cd t u (Ne.symm F7) q Bd (by simp[GI.own,hq])
theorem Rel.write(h:Rel c n sl hp a){t:Nat}{e0:Ae}{b:Nat}{w':World}(AT:Cq c.ρ (hp t) e0)(B0:b∈(c.G t).top)(hm:Mod [b] c.w w')(BF:w'.heap.size=c.w.heap.size)(e1:Ae)(BM:∀hs f,e1≠ .gd hs f)
  (he:C5 (c.wr w' t) t e1):Rel (c.wr w' t) n sl (A9 hp [(t,e1)]) a/\DE c (c.wr w' t):=by
 have Bd:b∈(c.G t).own:=by simp[GI.own,B0]
 have BX:DE c (c.wr w' t):=Cx.gq h.gw B0 hm;have DM:∀u,A9 hp [(t,e1)] u=if u=t then some e1 else hp u:=λu=>rfl;refine⟨h.change (λu=>u=t) BX ⟨hm.os.trans h.base.os,hm.tape.trans h.base.tape,hm.output.trans h.base.output,Nat.le_trans h.base.size hm.size,h.base.pins,λq hq EU=> ?_,h.base.pk,h.base.lo⟩
  (λu hu=>⟨by rw[DM,if_neg hu],rfl,by simp[Cx.wr,hu],λg hg=>hg⟩) (λu hu q hq=>hm.block q (h.gw.inb u q (by simp[GI.own,hq])) ?_) (λu hu=> ?_) ⟨h.gw.nodup,h.gw.cd,h.gw.allow,λu q hq=> ?_⟩ h.bd (λu f hf=> ?_),BX⟩
 ·refine(hm.block q (Nat.lt_of_lt_of_le hq h.base.size) ?_).trans (h.base.block q hq EU);simp only[List.mem_singleton];rintro rfl;rcases h.gw.allow t q Bd with hh|hh
  ·exact absurd hh (Nat.not_le.2 hq)
  ·exact EU hh
 ·simp only[List.mem_singleton];rintro rfl;exact h.gw.cd t u (Ne.symm hu) q Bd (by simp[GI.own,hq])
 ·subst hu;rw[DM,if_pos rfl];refine⟨λe' hr=> ?_,λhn=> ?_⟩
  ·cases e1<;>first
    |(simp only[Cq]at hr;subst hr;exact he)
    |exact absurd rfl (BM _ _)
  ·cases e1<;>first
    |exact absurd rfl (BM _ _)
    |exact absurd rfl (hn _)
 ·show q<w'.heap.size;rw[BF];exact h.gw.inb u q hq
 ·rw[DM]at hf;split at hf
  ·rename_i hu;subst hu;cases hh:hp u with
   |none=>rw[hh]at AT;exact AT.elim
   |some e9=>exact h.ch u e9 hh
  ·exact h.ch u f hf
end
section
variable {P:Program} {c:Cx} {n nx:Nat} {sl sl0:Nat->SV} {hp hp0:Nat->Option Ae} {a:Act} {o:Oper} {gs:Gd} {e:A3} {sg:BN} {nv:Nat}
theorem zpM(h:Bk P c n nx sl hp a sl0 hp0 o gs){t:TypeId}{x y:Operand}(ho:o.op= .store t x y){b k:Nat}{s:SV}(hx:By sl0 gs x=some (.ca b k))(hy:By sl0 gs y=some s)
  (he:Ma P hp0 gs t (.ca b k) s=some e) (hc:∀q∈e.bu,Cn.den c.ρ q):Aw P o c n nx sl hp gs a e:=by
 have r1:=h.cj hx (by simp[ho,Op.operands]);have r2:=h.cj hy (by simp[ho,Op.operands]);simp only[Ma]at he;split at he
 ·rename_i ty g cs vs ck hl Bi;split at he
  ·rename_i hh;obtain⟨Bc,hlen,hle,rfl⟩:=hh;simp at he;subst he;obtain⟨q1,q2⟩:=We r2 Bi hc;generalize hv:a.eval x=v at r1;cases r1 with
   |ca h1 h2 h3=>
    rename_i q;have E3:=Cu hl h.gs;obtain⟨q',C,e1,e2,e3,e4,e5,e5',e6⟩:=h.eh b _ E3;rw[h2]at e2;cases e2;have AT:Cq c.ρ (hp b) (.box ty g cs):=by
     cases hh:hp0 b with
     |none=>rw[hh]at E3;exact E3.elim
     |some e9=>rw[h.hp b e9 hh];rwa[hh]at E3
    have M1:=e6.len;have Yt:=q1.len;obtain⟨m1,m2,m3⟩:=Vz (vs:=(a.eval y).cells.toList) e5 (show k+_<=C.size by simp at M1 Yt ⊢;omega);obtain⟨hrel,BX⟩:=h.rel.write AT (by rw[e3];simp) m1 m3 (.box ty g (Qr cs k vs)) (by intros;simp) (w':=putCells c.w q k (a.eval y).cells.toList) (by
     have B7:DE c (c.wr (putCells c.w q k (a.eval y).cells.toList) b):=Cx.gq h.rel.gw (by rw[e3];simp) m1;refine⟨q,_,e1,h2,e3,e4,m2,?_,?_⟩
     ·intro u hu;simp only[List.toList_toArray]at hu;unfold setVs at hu;simp only[Af]at hu;rcases hu with(hu|hu)|hu
      ·exact e5' u (Bw hu)
      ·exact q2 u hu
      ·exact e5' u (B1 hu)
     ·simpa using(e6.setVs q1 (k:=k)).keep B7)
    intro next Q hk
    unfold Oper.wp;have hr:(execOp a.eval o).run P c.w= .ok .skip (putCells c.w q k (a.eval y).cells.toList):=by have:=aZ (P:=P) (t:=t) (v:=a.eval y) (off:=k) e5 Bc (by simp at Yt;omega) (by simp at M1 Yt;omega) q2;simp[execOp,ho,hv,this]
    rw[hr,Oper.upon_skip];exact hk _ (c.wr (putCells c.w q k (a.eval y).cells.toList) b) ⟨rfl,rfl,rfl,rfl,λt ht=> .inl ht⟩ (hrel.put ((SR.undef .nil).mkGd []) o.dst)
  ·cases he
 ·cases he
theorem qJ{places:List (Nat × Nat)}{tys:List TypeId}:∀(ps:List (Nat × SV)) (vs:List (Nat × Value)) (cs:List SV) (C:Array Value) (r:List SV × List Cn),TJ P places tys ps cs=some r->(∀q∈r.2,q.den c.ρ)->
  ps.map (·.1)=vs.map (·.1)->SR c (ps.map (·.2)) (vs.map (·.2))->SR c cs C.toList->(∀u∈C.toList,u.oneCell'=true)->
  ∃C',Instr.fill (places.toArray[·]?) C vs=some C'/\SR c r.1 C'.toList/\ ∀u∈C'.toList,u.oneCell'=true
 | [],vs,cs,C,r,h,hk,he,_,hC,h1=>by
  have:vs=[]:=by simpa using he.symm
  subst this;simp[TJ]at h;subst h;exact⟨C,rfl,hC,h1⟩
 |(i,s)::ps,[],cs,C,r,h,hk,he,_,hC,h1=>by simp at he
 |(i,s)::ps,(j,v)::vs,cs,C,r,h,hk,he,hs,hC,h1=>by
  simp only[List.map_cons,List.cons.injEq]at he;obtain⟨rfl,he⟩:=he;simp only[List.map_cons]at hs;obtain⟨BE,A1⟩:=hs.br;unfold TJ at h;split at h
  ·rename_i off sz t Ev Bc;split at h
   ·rename_i us ck Bi;split at h
    ·rename_i hh;obtain⟨BF,hle⟩:=hh;obtain⟨r',CW,rfl⟩:=An.1 h;obtain⟨q1,q2⟩:=We BE Bi (λq hq=>hk q (by simp[hq]));have IP:=q1.len;have Jy:=hC.len;have Lr:(v.cells.zipIdx.foldl (λcs (p:Value × Nat)=>cs.setIfInBounds (off+p.2) p.1) C).toList=setVs C.toList off v.cells.toList:=by
      have:=o8 v.cells.toList 0 off C (by simp at IP Jy ⊢;omega);rw[<-Array.foldl_toList,Array.toList_zipIdx];simpa using this
     obtain⟨C',g1,g2,g3⟩:=qJ ps vs (Qr cs off us) (v.cells.zipIdx.foldl (λcs (p:Value × Nat)=>cs.setIfInBounds (off+p.2) p.1) C) r' CW (λq hq=>hk q (by simp[hq])) he A1 (by rw[Lr];exact hC.setVs q1) (by
      rw[Lr];intro u hu;unfold setVs at hu;simp only[Af]at hu;rcases hu with(hu|hu)|hu
      ·exact h1 u (Bw hu)
      ·exact q2 u hu
      ·exact h1 u (B1 hu))
     refine⟨C',?_,g2,g3⟩;unfold Instr.fill;have YL:places.toArray[i]?=some (off,sz):=by simpa using Ev
     simp only[YL];rw[if_neg (by simp at IP Jy ⊢;omega)];exact g1
    ·cases h
   ·cases h
  ·cases h
theorem Wc{sl0:Nat->SV}{gs:Gd}(L:List Operand)(h:∀x s,By sl0 gs x=some s->x∈L->SR c [s] [a.eval x]):∀{xs:List (Nat × Operand)} {ss:List (Nat × SV)},(∀x∈xs,x.2∈L)->xs.mapM (λ(p:Nat × Operand)=>(By sl0 gs p.2).map λs=>(p.1,s))=some ss->
  ss.map (·.1)=xs.map (·.1)/\SR c (ss.map (·.2)) (xs.map λp=>a.eval p.2)
 | [],ss,_,hm=>by simp at hm;subst hm;exact⟨rfl, .nil⟩
 |x::xs,ss,hL,hm=>by rw[List.mapM_cons]at hm;simp only[Option.bind_eq_bind,Ao,An]at hm;obtain⟨_,⟨s,hs,rfl⟩,ss',FR,hm⟩:=hm;simp at hm;subst hm;obtain⟨e1,e2⟩:=Wc L h (λy hy=>hL y (by simp[hy])) FR;exact⟨by simp[e1],(h _ s hs (hL x (by simp))).app e2⟩
theorem ztB(h:Bk P c n nx sl hp a sl0 hp0 o gs){t:TypeId}{parts:Array (Nat × Operand)}(ho:o.op= .build t parts)(he:BL P sg sl0 hp0 nv nx gs o=some e)(hc:∀q∈e.bu,Cn.den c.ρ q):Aw P o c n nx sl hp gs a e:=by
 simp only[BL,ho,Ao]at he;obtain⟨ps,LH,he⟩:=he;obtain⟨e1,e2⟩:=Wc (c:=c) (a:=a) (parts.toList.map (·.2)) (λx s hx hm=>h.cj hx (by simpa[ho,Op.operands]using hm)) (λx hx=>List.mem_map.2 ⟨x,hx,rfl⟩) LH;unfold oZ at he;split at he
 ·rename_i it fs Lx hu;split at he
  ·rename_i zs places hz Ev;obtain⟨r,hr,rfl⟩:=An.1 he;obtain⟨z,Uo,Up⟩:=Ao.1 hz;have iS:=V6 (c:=c) Up;obtain⟨cells,g1,g2,g3⟩:=qJ (c:=c) (P:=P) ps (parts.toList.map λp=>(p.1,a.eval p.2)) zs.toList z.cells r hr hc (by rw[e1];simp) (by rw[List.map_map];exact e2)
    (by cases iS with|agg h1 h2 _=>simpa[Value.cells]using h2) (by cases iS with|agg h1 h2 _=>simpa[Value.cells]using h1)
   have hb:P.built t (parts.map λ(x:Nat × Operand)=>(x.1,a.eval x.2)).toList=some cells:=by simp only[Program.built,Lx,hu,Uo,Ev];simpa using g1
   have:=SR.agg (c:=c) (cs:=BD.of r.1) (as_:=cells.toList) g3 (by rw[BD.ar];exact g2) .nil;refine Aw.pure h (v:= .agg cells) ?_ (by simpa using this) rfl;have AI:=run_build c.w t _ cells hb;simp only[execOp,ho,Sem.run_bind];rw[AI];rfl
  ·cases he
 ·cases he
end
section
variable {P:Program} {c:Cx} {n nx:Nat} {sl sl0:Nat->SV} {hp hp0:Nat->Option Ae} {a:Act} {o:Oper} {gs:Gd} {e:A3} {sg:BN} {nv:Nat}
def Cx.bf(c:Cx)(ts:List Nat):Cx:={c with G:=λu=>if u∈ts then⟨[],[]⟩else c.G u,E:=λu=>if u∈ts then c.E u+1 else c.E u}
theorem Cx.ij{c:Cx}{ts:List Nat}{b:Nat}(h:(c.bf ts).M b):∃u,u∉ts/\b∈(c.G u).top:=by
 obtain⟨u,hu⟩:=h;simp only[Cx.bf]at hu;split at hu
 ·simp at hu
 ·exact⟨u,by assumption,hu⟩
theorem Cx.dz{c:Cx}{ts:List Nat}{b:Nat}(h:c.ok b):(c.bf ts).ok b:=⟨λhm=>by obtain⟨u,_,hu⟩:=Cx.ij hm;exact h.1 ⟨u,hu⟩,h.2⟩
theorem Cx.ja(c:Cx)(ts:List Nat):DE c (c.bf ts):=⟨rfl,rfl,λ_ _ h=>Cx.dz h,λ_ _ _=>rfl,λ_ _ h=>⟨h,rfl⟩,λt g _=>by
 by_cases ht:t∈ts
 ·have e1:(c.bf ts).E t=c.E t+1:=by simp only[Cx.bf,if_pos ht]
  exact⟨by omega,λh=>by omega⟩
 ·have e1:(c.bf ts).E t=c.E t:=by simp only[Cx.bf,if_neg ht]
  have e2:(c.bf ts).G t=c.G t:=by simp only[Cx.bf,if_neg ht]
  rw[e1];exact⟨Av _,λ_=>⟨e2,λ_ _ _=>rfl⟩⟩⟩
theorem rE{c:Cx}(gw:GW c){ts us:List Nat}(hs:∀t∈us,t∈ts){b:Nat}(h:c.dr us b):(c.bf ts).ok b:=by
 rcases h with h|⟨t,ht,hb⟩
 ·exact Cx.dz h
 ·have Bd:b∈(c.G t).own:=by simp[GI.own,hb]
  refine⟨λhm=> ?_, .inr (gw.allow t b Bd)⟩;obtain⟨u,hu,Hl⟩:=Cx.ij hm;have:t≠u:=λhh=>hu (hh▸hs t ht);exact gw.cd t u this b Bd (by simp[GI.own,Hl])
def KU(e:Ae)(g:Nat)(x:E):Prop:=(∃ety sz d,e= .row ety sz g x d)\/ ∃ety sz l ep,e= .deep ety sz l g ep x
theorem KU.ne{e:Ae}{g:Nat}{x:E}(h:KU e g x):∀hs f,e≠ .gd hs f:=by rcases h with⟨_,_,_,rfl⟩|⟨_,_,_,_,rfl⟩<;>intros<;>simp
theorem KU.rd{e:Ae}{g t:Nat}{x:E}(h:KU e g x)(k:C5 c t e):c.K t g/\ ∃f,Rd c.w [c.H t g] [x.den c.ρ] f/\ ∀b∈f,b∈(c.G t).top\/c.ok b:=by
 rcases h with⟨_,_,_,rfl⟩|⟨_,_,_,_,rfl⟩
 ·obtain⟨q1,q2,N,q3,q4,_⟩:=k;obtain⟨f,r1,r2,_⟩:=q3.rd;exact⟨q1,f,r1,λb hb=>(r2 b hb).imp id (q4 b)⟩
 ·obtain⟨q1,q2,_,q3,_⟩:=k;obtain⟨f,r1,r2⟩:=q3.rd;exact⟨q1,f,r1,λb hb=> .inl (r2 b hb)⟩
theorem KU.fun{e:Ae}{g g':Nat}{x x':E}(h:KU e g x)(k:KU e g' x'):g=g'/\x=x':=by rcases h with⟨_,_,_,rfl⟩|⟨_,_,_,_,rfl⟩<;>rcases k with⟨_,_,_,hh⟩|⟨_,_,_,_,hh⟩<;>cases hh<;>exact⟨rfl,rfl⟩
theorem NI{gs:Gd}{ρ:List AV}(k:Bg ρ gs):∀{ts:List Nat} {l:List (Nat × Ae)},DB hp0 gs ts=some l->
  (∀t e,(t,e)∈l->t∈ts/\gs=[]/\ ∃g x f,e= .bf g x/\Cq ρ (hp0 t) f/\KU f g x)/\
  (∀t∈ts,(∃g x,(t,Ae.bf g x)∈l)\/(∃g x,Cq ρ (hp0 t) (.bf g x))\/ ∃ty g cs,Cq ρ (hp0 t) (.box ty g cs))
 | [],l,h=>by simp[DB]at h;subst h;simp
 |t::ts,l,h=>by
  unfold DB at h;split at h
  ·rename_i ety sz g x d l' hl Bz;split at h
   ·rename_i hg;simp at h;subst h;obtain⟨h1,h2⟩:=NI k Bz;refine⟨λu e hu=> ?_,λu hu=> ?_⟩
    ·rcases Ad.1 hu with hu|hu
     ·cases hu;exact⟨by simp,by simpa using hg,g,x,_,rfl,Cu hl k, .inl ⟨_,_,_,rfl⟩⟩
     ·obtain⟨p,q,r⟩:=h1 u e hu;exact⟨by simp[p],q,r⟩
    ·rcases Ad.1 hu with rfl|hu
     ·exact .inl ⟨g,x,by simp⟩
     ·rcases h2 u hu with⟨g',x',hh⟩|hh
      ·exact .inl ⟨g',x',by simp[hh]⟩
      ·exact .inr hh
   ·cases h
  ·rename_i ety sz dl g ep x l' hl Bz;split at h
   ·rename_i hg;simp at h;subst h;obtain⟨h1,h2⟩:=NI k Bz;refine⟨λu e hu=> ?_,λu hu=> ?_⟩
    ·rcases Ad.1 hu with hu|hu
     ·cases hu;exact⟨by simp,by simpa using hg,g,x,_,rfl,Cu hl k, .inr ⟨_,_,_,_,rfl⟩⟩
     ·obtain⟨p,q,r⟩:=h1 u e hu;exact⟨by simp[p],q,r⟩
    ·rcases Ad.1 hu with rfl|hu
     ·exact .inl ⟨g,x,by simp⟩
     ·rcases h2 u hu with⟨g',x',hh⟩|hh
      ·exact .inl ⟨g',x',by simp[hh]⟩
      ·exact .inr hh
   ·cases h
  ·rename_i g x l' hl Bz;simp at h;subst h;obtain⟨h1,h2⟩:=NI k Bz;refine⟨λu e hu=> ?_,λu hu=> ?_⟩
   ·obtain⟨p,q,r⟩:=h1 u e hu;exact⟨by simp[p],q,r⟩
   ·rcases Ad.1 hu with rfl|hu
    ·exact .inr (.inl ⟨g,x,Cu hl k⟩)
    ·exact h2 u hu
  ·rename_i ty g cs l' hl Bz;simp at h;subst h;obtain⟨h1,h2⟩:=NI k Bz;refine⟨λu e hu=> ?_,λu hu=> ?_⟩
   ·obtain⟨p,q,r⟩:=h1 u e hu;exact⟨by simp[p],q,r⟩
   ·rcases Ad.1 hu with rfl|hu
    ·exact .inr (.inr ⟨ty,g,cs,Cu hl k⟩)
    ·exact h2 u hu
  ·cases h
theorem KO{hp:Nat->Option Ae}:∀{l:List (Nat × Ae)} {t:Nat},(∀e,(t,e)∉l)->A9 hp l t=hp t
 | [],_,_=>rfl
 |(u,e)::l,t,h=>by
  have ht:t≠u:=by rintro rfl;exact h e (by simp)
  have:=KO (hp:=λv=>if v=u then some e else hp v) (l:=l) (t:=t) (λe' EI=>h e' (by simp[EI]));simp only[A9,List.foldl_cons]at this ⊢;rw[this,if_neg ht]
theorem dY{hp:Nat->Option Ae}:∀{l:List (Nat × Ae)} {t:Nat} {e:Ae},(t,e)∈l->(∀e',(t,e')∈l->e'=e)->A9 hp l t=some e
 | [],_,_,h,_=>by simp at h
 |(u,f)::l,t,e,h,hu=>by
  simp only[A9,List.foldl_cons];by_cases hm:∃e',(t,e')∈l
  ·obtain⟨e',EI⟩:=hm;have:=hu e' (by simp[EI]);subst this;exact dY (hp:=λv=>if v=u then some f else hp v) EI (λe'' tI=>hu e'' (by simp[tI]))
  ·have hn:∀e',(t,e')∉l:=λe' EI=>hm ⟨e',EI⟩;have:=KO (hp:=λv=>if v=u then some f else hp v) (l:=l) (t:=t) hn;simp only[A9]at this;rw[this];rcases Ad.1 h with h|h
   ·cases h;simp
   ·exact absurd h (hn e)
theorem K0(hs:∀t e,hp0 t=some e->hp t=some e){ρ:List AV}{t:Nat}{e:Ae}(h:Cq ρ (hp0 t) e):Cq ρ (hp t) e:=by
 cases hh:hp0 t with
 |none=>rw[hh]at h;exact h.elim
 |some e9=>rw[hs t e9 hh];rwa[hh]at h
theorem zy4{ρ:List AV}{o:Option Ae}{e f:Ae}(h:Cq ρ o e)(k:Cq ρ o f):e=f:=by
 cases o with
 |none=>exact h.elim
 |some o=>
  cases o with
  |gd gs x=>exact h.2.symm.trans k.2
  |box=>exact h.symm.trans k
  |row=>exact h.symm.trans k
  |bf=>exact h.symm.trans k
  |dead=>exact h.symm.trans k
  |deep=>exact h.symm.trans k
  |hol=>exact h.symm.trans k
  |pre=>exact h.symm.trans k
theorem Rel.freeze(h:Rel c n sl hp a)(hs:∀t e,hp0 t=some e->hp t=some e)(k:Bg c.ρ gs){ts:List Nat}{l:List (Nat × Ae)}(hf:DB hp0 gs ts=some l):
  Rel (c.bf (l.map (·.1))) n sl (A9 hp l) a:=by
 obtain⟨h1,h2⟩:=NI k hf;have hG:∀u,(c.bf (l.map (·.1))).G u=if u∈l.map (·.1)then⟨[],[]⟩else c.G u:=λu=>rfl;have I3:∀t e e',(t,e)∈l->(t,e')∈l->e'=e:=by intro t e e' he EI;obtain⟨_,_,g,x,_,rfl,r,rl⟩:=h1 t e he;obtain⟨_,_,g',x',_,rfl,r',rl'⟩:=h1 t e' EI;have:=zy4 r r';subst this;obtain⟨rfl,rfl⟩:=rl.fun rl';rfl
 refine h.change (λu=>u∈l.map (·.1)) (Cx.ja c _) ⟨h.base.os,h.base.tape,h.base.output,h.base.size,h.base.pins,h.base.block,h.base.pk,h.base.lo⟩ (λu hu=>⟨KO (λe he=>hu (List.mem_map.2 ⟨_,he,rfl⟩)),by rw[hG,if_neg hu],by simp only[Cx.bf,if_neg hu],λg hg=>hg⟩) (λu hu b hb=>rfl) (λu hu=> ?_) ?_ h.bd (λu e hu=> ?_)
 ·obtain⟨⟨u',e⟩,he,rfl⟩:=List.mem_map.1 hu;have DM:=dY (hp:=hp) he (λe' EI=>I3 _ _ _ he EI);obtain⟨_,_,g,x,f0,rfl,r,rl⟩:=h1 u' e he;obtain⟨q1,f,r1,r2⟩:=rl.rd (h.ents u' _ (K0 hs r));have Kl:((c.bf (l.map (·.1))).G u').top=[]/\((c.bf (l.map (·.1))).G u').O=[]:=by rw[hG,if_pos hu];simp
  rw[DM];refine⟨λe' hr=> ?_,λ_=>Kl⟩;have:e'= .bf g x:=hr.symm;subst this;exact⟨q1,⟨f,r1,λb hb=>by
   refine rE h.gw (ts:=l.map (·.1)) (us:=[u']) (by simpa using hu) ?_;rcases r2 b hb with hb|hb
   ·exact .inr ⟨u',by simp,hb⟩
   ·exact .inl hb⟩,Kl.1,Kl.2⟩
 ·refine⟨λu=> ?_,λu v Y0 b hb=> ?_,λu b hb=> ?_,λu b hb=> ?_⟩
  ·rw[hG];split
   ·simp[GI.own]
   ·exact h.gw.nodup u
  ·rw[hG]at hb ⊢;split at hb
   ·simp[GI.own]at hb
   ·split
    ·simp[GI.own]
    ·exact h.gw.cd u v Y0 b hb
  ·rw[hG]at hb;split at hb
   ·simp[GI.own]at hb
   ·exact h.gw.allow u b hb
  ·rw[hG]at hb;split at hb
   ·simp[GI.own]at hb
   ·exact h.gw.inb u b hb
 ·by_cases hm:∃e',(u,e')∈l
  ·obtain⟨e',EI⟩:=hm;obtain⟨_,_,g,x,f0,rfl,r,rl⟩:=h1 u e' EI;have r':=K0 hs r;cases hh:hp u with
   |none=>rw[hh]at r';exact r'.elim
   |some e9=>exact h.ch u e9 hh
  ·rw[KO (λe' EI=>hm ⟨e',EI⟩)]at hu;exact h.ch u e hu
theorem zub{ts:List Nat}(h:Mj hp0 gs ts=true){t:Nat}(ht:t∈ts){ty:Nat}{g:Bool}{cs:List SV}:CT hp0 gs t≠some (.box ty g cs):=by intro hl;simp only[Mj,Br,List.any_eq_false]at h;have:=h t ht;rw[hl]at this;simp at this
theorem zrK{ρ:List AV}(k:Bg ρ gs){ts:List Nat}{l:List (Nat × Ae)}(hf:DB hp0 gs ts=some l){t:Nat}(ht:t∈ts):(∃g x,(t,Ae.bf g x)∈l)\/(∃g x,CT hp0 gs t=some (.bf g x))\/ ∃ty g cs,CT hp0 gs t=some (.box ty g cs):=by
 induction ts generalizing l with
 |nil=>simp at ht
 |cons u ts ih=>
  unfold DB at hf;split at hf
  ·rename_i ety sz g x d l' hl Bz;split at hf
   ·simp at hf;subst hf;rcases Ad.1 ht with rfl|ht
    ·exact .inl ⟨g,x,by simp⟩
    ·rcases ih Bz ht with⟨g',x',hh⟩|hh
     ·exact .inl ⟨g',x',by simp[hh]⟩
     ·exact .inr hh
   ·cases hf
  ·rename_i ety sz dl g ep x l' hl Bz;split at hf
   ·simp at hf;subst hf;rcases Ad.1 ht with rfl|ht
    ·exact .inl ⟨g,x,by simp⟩
    ·rcases ih Bz ht with⟨g',x',hh⟩|hh
     ·exact .inl ⟨g',x',by simp[hh]⟩
     ·exact .inr hh
   ·cases hf
  ·rename_i g x l' hl Bz;simp at hf;subst hf;rcases Ad.1 ht with rfl|ht
   ·exact .inr (.inl ⟨g,x,hl⟩)
   ·exact ih Bz ht
  ·rename_i ty g cs l' hl Bz;simp at hf;subst hf;rcases Ad.1 ht with rfl|ht
   ·exact .inr (.inr ⟨ty,g,cs,hl⟩)
   ·exact ih Bz ht
  ·cases hf
theorem SU(h:Rel c n sl hp a)(eh:EH c hp0)(k:Bg c.ρ gs){ts:List Nat}{l:List (Nat × Ae)}(hf:DB hp0 gs ts=some l)(hb:Mj hp0 gs ts=true){b:Nat}(hs:c.dr ts b):(c.bf (l.map (·.1))).ok b:=by
 rcases hs with hs|⟨t,ht,Cv⟩
 ·exact Cx.dz hs
 ·rcases zrK k hf ht with⟨g,x,hh⟩|⟨g,x,hh⟩|⟨ty,g,cs,hh⟩
  ·exact rE h.gw (us:=[t]) (by simpa using⟨_,hh⟩) (.inr ⟨t,by simp,Cv⟩)
  ·obtain⟨_,_,B0,_⟩:=eh t _ (Cu hh k);rw[B0]at Cv;simp at Cv
  ·exact absurd hh (zub hb ht)
theorem lK(h:Rel c n sl hp a)(hs:∀t e,hp0 t=some e->hp t=some e)(k:Bg c.ρ gs){t:TypeId}{s:SV}{v:Value}(hr:SR c [s] [v]){x:E}{fz:List (Nat × Ae)}{d:Bool}{ck:List Cn}(ht:Xe P hp0 gs t s=some (x,fz,d,ck))(hc:∀q∈ck,q.den c.ρ):
  ∃f,Rd c.w [v] [x.den c.ρ] f/\(d=true->f=[])/\(∃ts,DB hp0 gs ts=some fz/\ ∀b∈f,(c.bf (fz.map (·.1))).ok b)/\
   (if Aj P t then∃cs,x.den c.ρ= .agg cs/\cs.length=P.cellsOf t else(∀cs,x.den c.ρ≠ .agg cs)/\ ∀cs,x.den c.ρ≠ .tup cs):=by
 have eh:EH c hp0:=λt e hr=>h.ents t e (K0 hs hr);unfold Xe at ht;split at ht
 ·cases ht
 ·rename_i y hy;obtain⟨f,q1,q2⟩:=G8 eh k AZ hy hr AZ (Av _);split at ht
  ·simp at ht;obtain⟨rfl,rfl,rfl,rfl⟩:=ht;obtain⟨c1,c2,c3,c4⟩:=BW hc;have hf:f=[]:=by
    cases hg:Aj P t with
    |true=>obtain⟨cs,Bi⟩:=c3 hg;obtain⟨as_,rfl,_,r⟩:=Io q1 Bi;exact G9 r (by rw[Bi]at c2;exact c2)
    |false=>exact G9 q1 (by simpa using c4 hg)
   subst hf;refine⟨[],q1,λ_=>rfl,⟨[],rfl,by simp⟩,?_⟩;split
   ·rename_i hg;obtain⟨cs,Bi⟩:=c3 hg;exact⟨cs,Bi,by rw[Bi]at c1;exact c1⟩
   ·rename_i hg;have:=c4 (by simpa using hg);exact⟨λcs Bi=>by rw[Bi]at this;simp[AV.scalar]at this,λcs Bi=>by rw[Bi]at this;simp[AV.scalar]at this⟩
  ·split at ht
   ·rename_i Ht;split at ht
    ·cases ht
    ·rename_i l hl;simp only[Ac,AP]at ht;obtain⟨rfl,rfl,rfl,rfl⟩:=ht;refine⟨f,q1,by simp,⟨_,hl,λb hb=>SU h eh k hl Ht (q2 b hb)⟩,?_⟩;have hq:=BW hc;unfold jD at hq;split
     ·rename_i hg;rw[if_pos hg]at hq;obtain⟨cs,Bi,hl⟩:=hq;exact⟨cs,Bi,hl⟩
     ·rename_i hg;rw[if_neg hg]at hq;exact hq
   ·cases ht
end
section
variable {P:Program} {c:Cx} {n nx:Nat} {sl sl0:Nat->SV} {hp hp0:Nat->Option Ae} {a:Act} {o:Oper} {gs:Gd} {e:A3} {sg:BN} {nv:Nat}
theorem WW(w:World)(t ty el:TypeId)(i:TypeInfo)(z:Value)(ht:P.underlying t=some (.slice el))(hi:P.info? el=some i)(hz:i.zero=some z)(Dr:z.cells.size=i.size)(BF:0<i.size)
  (Own:Nat->Prop) (v:Value) (k:Nat) (old:List Value) (ho:old.length=k*i.size)
  (A6:(k=0/\ ∃q,v= .slice q 0 0)\/ ∃g cap C,v= .slice (some ⟨g,0,none⟩) k cap/\k<=cap/\cap<=maxLen/\w.heap[g]?=some (.cells C el (0,0))/\C.size=cap*i.size/\old=C.toList.take (k*i.size)/\Own g)
  (q:Option Addr) (m r:Nat) (news:List Value) (hs:Src w i.size q m news) (TZ:k+m<=maxLen) (hb:(k+m)*i.bytes<=140737488355328):
  ∃v' w',(Builtin.append_ #[t,t] ty #[v, .slice q m r]).run P w= .ok v' w'/\
   ((v'=v/\w'=w/\m=0)\/ ∃g cap C,v'= .slice (some ⟨g,0,none⟩) (k+m) cap/\k+m<=cap/\cap<=maxLen/\w'.heap[g]?=some (.cells C el (0,0))/\C.size=cap*i.size/\C.toList.take ((k+m)*i.size)=old++news/\
    w.grownBy w' (some g)/\((g=w.heap.size/\g<w'.heap.size)\/Own g)):=by
 have Ue:news.length=m*i.size:=by
  rcases hs with⟨rfl,rfl,rfl⟩|⟨ad,rfl,h1,_⟩
  ·simp
  ·exact h1
 have hlen:(old++news).length=(k+m)*i.size:=by rw[AE,ho,Ue,Nat.add_mul]
 have grown:∀(cp:Nat),cp<k+m-> ∀(X:Array Value),X.toList=old++news-> ∃C,C=X++Builtin.zeroCells z.cells (grownCap w (k+m) cp el-(k+m))/\
   k+m<=grownCap w (k+m) cp el/\grownCap w (k+m) cp el<=maxLen/\C.size=grownCap w (k+m) cp el*i.size/\C.toList.take ((k+m)*i.size)=old++news:=by
  intro cp hcp X hX;have Ua:=grownCap_ge w (k+m) cp el;have ID:=grownCap_le_maxLen w (k+m) cp el TZ;refine⟨_,rfl,Ua,ID,?_,?_⟩
  ·have tZ:X.size=(k+m)*i.size:=by rw[<-BG,hX,hlen]
   rw[Array.size_append,tZ,size_zeroCells,Dr,<-Nat.add_mul];congr 1;omega
  ·rw[Array.toList_append,hX,<-hlen];exact List.take_left
 have newb:∀C:Array Value,w.grownBy (w.drew.alloc (.cells C el)) (some w.heap.size)/\w.heap.size<(w.drew.alloc (.cells C el)).heap.size/\(w.drew.alloc (.cells C el)).heap[w.heap.size]?=some (.cells C el (0,0)):=
  λC=>⟨⟨rfl,rfl,rfl,by simp,λj hj _=>Below.heap_alloc w.drew _ _ hj⟩,by simp,heap_alloc_new w.drew _⟩
 rcases A6 with⟨rfl,p,rfl⟩|⟨g,cap,C,rfl,M8,ID,hg,Bi,hold,XE⟩
 ·have hold:old=[]:=List.eq_nil_of_length_eq_zero (by simpa using ho);subst hold;by_cases hm:m=0
  ·subst hm;have hn:news=[]:=List.eq_nil_of_length_eq_zero (by simpa using Ue);subst hn;refine⟨_,w,?_, .inl ⟨rfl,rfl,rfl⟩⟩;rcases hs with⟨rfl,_,_⟩|⟨ad,rfl,_⟩<;>cases p<;>
    simp[Builtin.append_,run_underlying ht,sizeOf,typeInfo,hi,Builtin.lenOf,Builtin.firstCells,loadCells,loadCellsFrom,storeCells]
  ·rcases hs with⟨_,rfl,_⟩|⟨ad,rfl,h1,h2,h3⟩
   ·exact absurd rfl hm
   ·obtain⟨C',Ox,g1,g2,g3,g4⟩:=grown 0 (by omega) news.toArray (by simp);cases p with
    |none=>have hr:=run_append_nil (P:=P) w t ty el i z ht hi hz ad m r news h1 h2 (by omega) (by simp only[maxLen]at TZ;omega) (by have hb:=hb;simp only[Nat.zero_add]at hb;omega);simp only[Nat.zero_add]at g1 g2 g3 g4 Ox ⊢;obtain⟨n1,n2,n3⟩:=newb C';refine⟨_,_,hr, .inr ⟨_,_,C',rfl,g1,g2,?_,g3,g4,?_, .inl ⟨rfl,?_⟩⟩⟩<;>rw[<-Ox]<;>first|exact n3|exact n1|exact n2
    |some p=>have hr:=run_append_grow (P:=P) w t ty el i z ht hi hz p 0 0 [] (by simp) (by simp) ad m r news h1 h2 (by omega) (by simp only[maxLen]at TZ;omega) (growslice_fits (by omega) hb);rw[show(([]:List Value).toArray++news.toArray)=news.toArray by simp]at hr;simp only[Nat.zero_add]at g1 g2 g3 g4 Ox hr ⊢;obtain⟨n1,n2,n3⟩:=newb C';refine⟨_,_,hr, .inr ⟨_,_,C',rfl,g1,g2,?_,g3,g4,?_, .inl ⟨rfl,?_⟩⟩⟩<;>rw[<-Ox]<;>first|exact n3|exact n1|exact n2
 ·rcases hs with⟨rfl,rfl,rfl⟩|⟨ad,rfl,h1,h2,h3⟩
  ·refine⟨_,w,?_, .inl ⟨rfl,rfl,rfl⟩⟩;simp[Builtin.append_,run_underlying ht,sizeOf,typeInfo,hi,Builtin.lenOf,Builtin.firstCells,M8,storeCells]
  ·by_cases BR:k+m<=cap
   ·have MS:k*i.size+news.length<=C.size:=by rw[h1,Bi,<-Nat.add_mul];exact Bf _ BR
    have hr:=run_append_room (P:=P) w t ty el i ht hi g k cap C hg ad m r news h1 h2 h3 BR MS;refine⟨_,_,hr, .inr ⟨g,cap,_,rfl,BR,ID,setRow_heap w g C _ el _ hg,?_,?_,⟨rfl,rfl,rfl,by simp,λj _ hj=>setRow_other w g j _ (λhh=>hj (by rw[hh]))⟩, .inr XE⟩⟩
    ·simp only[List.size_toArray,AE,Ax,BU,BG];omega
    ·rw[<-hold,<-hlen];exact List.take_left
   ·have holds:∀j u,old[j]?=some u->w.cell? ((⟨g,0,none⟩:Addr).add j)=some u:=λj u hu=>by
     rw[Addr.add_lit,Nat.zero_add,Ef hg];rw[hold,List.getElem?_take]at hu;split at hu
     ·simpa using hu
     ·cases hu
    have hr:=run_append_grow (P:=P) w t ty el i z ht hi hz ⟨g,0,none⟩ k cap old ho holds ad m r news h1 h2 (by omega) (by simp only[maxLen]at TZ;omega) (growslice_fits (by omega) hb);obtain⟨C',Ox,g1,g2,g3,g4⟩:=grown cap (by omega) (old.toArray++news.toArray) (by simp);obtain⟨n1,n2,n3⟩:=newb C';refine⟨_,_,hr, .inr ⟨_,_,C',rfl,g1,g2,?_,g3,g4,?_, .inl ⟨rfl,?_⟩⟩⟩<;>rw[<-Ox]<;>first|exact n3|exact n1|exact n2
def Cx.a6(c:Cx)(t g':Nat)(w':World)(v:Value)(top O:List Nat):Cx:=
 {c with w:=w',G:=λu=>if u=t then⟨top,O⟩else c.G u,K:=λu g=>c.K u g\/(u=t/\g=g'),H:=λu g=>if u=t/\g=g' then v else c.H u g,U:=λu=>c.U u\/u=t,E:=λu=>if u=t then c.E u+1 else c.E u}
theorem Rel.a6(h:Rel c n sl hp a){t g:Nat}(Eu:c.A.pin t=none\/g≠0)(A0: ¬c.K t g){w':World}{row:Option Nat}(hg:c.w.grownBy w' row)
  (ES:∀g0,row=some g0->g0∈(c.G t).top\/(g0=c.w.heap.size/\g0<w'.heap.size)) {top O:List Nat} (B0:top=[]\/ ∃g0,row=some g0/\top=[g0]) (hO:O=[]\/O=(c.G t).O) {v:Value} (e1:Ae) (BM:∀hs f,e1≠ .gd hs f) (k:Bg c.ρ gs)
  (he:DE c (c.a6 t g w' v top O)->C5 (c.a6 t g w' v top O) t e1):Rel (c.a6 t g w' v top O) n sl (A9 hp [(t,CB gs e1)]) a:=by
 have hG:∀u,(c.a6 t g w' v top O).G u=if u=t then⟨top,O⟩else c.G u:=λu=>rfl;have hM:∀b,(c.a6 t g w' v top O).M b->c.M b\/row=some b:=by
  rintro b ⟨u,hu⟩;rw[hG]at hu;split at hu
  ·rcases B0 with rfl|⟨g0,hr,rfl⟩
   ·simp at hu
   ·simp at hu;subst hu;exact .inr hr
  ·exact .inl ⟨u,hu⟩
 have Rj:∀b,b<c.w.heap.size->c.ok b->row≠some b:=by
  intro b hb AS hr;rcases ES b hr with hh|⟨hh,_⟩
  ·exact AS.1 ⟨t,hh⟩
  ·omega
 have BX:DE c (c.a6 t g w' v top O):=by
  refine⟨rfl,rfl,λb hb AS=>⟨λhm=>(hM b hm).elim AS.1 (Rj b hb AS),AS.2⟩,λb hb AS=>hg.block b hb (λhh=>Rj b hb AS hh.symm),λu g1 hu=>⟨.inl hu,?_⟩,λu g1 hu=> ?_⟩
  ·simp only[Cx.a6];rw[if_neg];rintro⟨rfl,rfl⟩;exact A0 hu
  ·by_cases F7:u=t
   ·have e1:(c.a6 t g w' v top O).E u=c.E u+1:=by simp only[Cx.a6,if_pos F7]
    exact⟨by omega,λh=>by omega⟩
   ·have e1:(c.a6 t g w' v top O).E u=c.E u:=by simp only[Cx.a6,if_neg F7]
    have e2:(c.a6 t g w' v top O).G u=c.G u:=by simp only[Cx.a6,if_neg F7]
    rw[e1];refine⟨Av _,λ_=>⟨e2,λb hb GX=>hg.block b GX λhh=> ?_⟩⟩;rcases ES b hh.symm with h1|⟨h1,_⟩
    ·exact h.gw.cd u t F7 b (by simp[GI.own,hb]) (by simp[GI.own,h1])
    ·omega
 have DM:∀u,A9 hp [(t,CB gs e1)] u=if u=t then some (CB gs e1)else hp u:=λu=>rfl;have Na:∀u,u≠t-> ∀b∈(c.G u).own,row≠some b:=by
  intro u hu b hb hr;rcases ES b hr with hh|⟨hh,_⟩
  ·exact h.gw.cd u t hu b hb (by simp[GI.own,hh])
  ·have:=h.gw.inb u b hb;omega
 have BT:∀b∈(⟨top,O⟩:GI).own,row=some b\/b∈(c.G t).own:=by
  intro b hb;simp only[GI.own,Af]at hb ⊢;rcases hb with hb|hb
  ·rcases B0 with rfl|⟨g0,hr,rfl⟩
   ·simp at hb
   ·simp at hb;subst hb;exact .inl hr
  ·rcases hO with rfl|rfl
   ·simp at hb
   ·exact .inr (.inr hb)
 refine h.change (λu=>u=t) BX ⟨hg.os.trans h.base.os,hg.tape.trans h.base.tape,hg.output.trans h.base.output,Nat.le_trans h.base.size hg.size,λu v' hp=>⟨.inl (h.base.pins u v' hp).1,λhk=> ?_⟩,λb hb EU=> ?_,h.base.pk,h.base.lo⟩
  (λu hu=>⟨by rw[DM,if_neg hu],by rw[hG,if_neg hu],by simp[Cx.a6,hu],λg1 hh=>hh.resolve_right (λhh=>hu hh.1)⟩) (λu hu b hb=>hg.block b (h.gw.inb u b (by simp[GI.own,hb])) (λhh=>Na u hu b (by simp[GI.own,hb]) hh.symm)) (λu hu=> ?_) ?_ (λu g1 hh=> ?_) (λu f hf=> ?_)
 ·have F7: ¬(u=t/\0=g):=by
   rintro⟨rfl,rfl⟩;rcases Eu with hh|hh
   ·have hp':c.A.pin u=some v':=hp;rw[hh]at hp';cases hp'
   ·exact hh rfl
  have B7:=hk.resolve_right F7;simp only[Cx.a6];rw[if_neg F7];exact(h.base.pins u v' hp).2 B7
 ·refine(hg.block b (Nat.lt_of_lt_of_le hb h.base.size) (λhh=> ?_)).trans (h.base.block b hb EU);rcases ES b hh.symm with hh|⟨hh,_⟩
  ·rcases h.gw.allow t b (by simp[GI.own,hh])with h1|h1
   ·exact absurd h1 (Nat.not_le.2 hb)
   ·exact EU h1
  ·have:=h.base.size;have h9:b<c.w0.heap.size:=hb;omega
 ·subst hu;rw[DM,if_pos rfl];exact⟨λe' hr=>by rw[(PJ k BM).1 hr];exact he BX,λhn=>absurd ((PJ k BM).2 rfl) (hn e1)⟩
 ·have BZ:(⟨top,O⟩:GI).own.Nodup:=by
   have h0:=h.gw.nodup t;simp only[GI.own]at h0 ⊢;rw[List.nodup_append]at h0 ⊢;refine⟨by rcases B0 with rfl|⟨g0,hr,rfl⟩<;>simp,by rcases hO with rfl|rfl;simp;exact h0.2.1,λp hp q hq=> ?_⟩;rcases B0 with rfl|⟨g0,hr,rfl⟩
   ·simp at hp
   ·simp at hp;subst hp;rcases hO with rfl|rfl
    ·simp at hq
    ·rcases ES p hr with hh|⟨hh,_⟩
     ·exact h0.2.2 p hh q hq
     ·have:=h.gw.inb t q (by simp[GI.own,hq]);omega
  refine⟨λu=> ?_,λu u' KB b hb=> ?_,λu b hb=> ?_,λu b hb=> ?_⟩
  ·rw[hG];split
   ·exact BZ
   ·exact h.gw.nodup u
  ·rw[hG]at hb ⊢;by_cases h1:u=t
   ·rw[if_pos h1]at hb;rw[if_neg (λhh=>KB (h1.trans hh.symm))];rcases BT b hb with hr|hb
    ·exact λhh=>Na u' (λh2=>KB (h1.trans h2.symm)) b hh hr
    ·exact h.gw.cd t u' (λhh=>KB (h1.trans hh)) b hb
   ·rw[if_neg h1]at hb;by_cases h2:u'=t
    ·rw[if_pos h2];intro BS;rcases BT b BS with hr|BS
     ·exact Na u h1 b hb hr
     ·exact h.gw.cd u t h1 b hb BS
    ·rw[if_neg h2];exact h.gw.cd u u' KB b hb
  ·rw[hG]at hb;split at hb
   ·rcases BT b hb with hr|hb
    ·rcases ES b hr with hh|⟨hh,_⟩
     ·exact h.gw.allow t b (by simp[GI.own,hh])
     ·exact .inl (by rw[hh];exact h.base.size)
    ·exact h.gw.allow t b hb
   ·exact h.gw.allow u b hb
  ·rw[hG]at hb;show b<w'.heap.size;split at hb
   ·rcases BT b hb with hr|hb
    ·rcases ES b hr with hh|⟨_,hh⟩
     ·exact Nat.lt_of_lt_of_le (h.gw.inb t b (by simp[GI.own,hh])) hg.size
     ·exact hh
    ·exact Nat.lt_of_lt_of_le (h.gw.inb t b hb) hg.size
   ·exact Nat.lt_of_lt_of_le (h.gw.inb u b hb) hg.size
 ·rcases hh with hh|⟨rfl,_⟩
  ·exact .inl (h.bd u g1 hh)
  ·exact .inr rfl
 ·rw[DM]at hf;split at hf
  ·rename_i hu;exact .inr hu
  ·exact .inl (h.ch u f hf)
theorem sQ{w:World}{v:Value}{ys:List AV}{f:List Nat}{sz:Nat}(h:Rd w [v] [.sl ys] f)(hs:∀y∈ys,y.cells.length=sz):
  ∃q r news N,v= .slice q ys.length r/\Src w sz q ys.length news/\Rd w news (Ap ys) N/\(∀b∈N,b∈f)/\news.length=ys.length*sz/\(∀u∈news,u.oneCell'=true):=by
 rcases h.kind with hh|hh|hh|hh|hh|hh|hh|hh|hh|hh
 ·obtain⟨_,_,_,hh,_⟩:=hh;cases hh
 ·obtain⟨_,_,hh,_⟩:=hh;cases hh
 ·obtain⟨_,_,hh,_⟩:=hh;cases hh
 ·obtain⟨p,r,rfl,hh,rfl⟩:=hh;cases hh;refine⟨p,r,[],[],rfl,?_, .nil,by simp,by simp,by simp⟩;cases p with
  |none=>exact .inl ⟨rfl,rfl,rfl⟩
  |some p=>exact .inr ⟨p,rfl,by simp,by simp,by simp⟩
 ·obtain⟨b,off,m,r,ys',cs,C,t,fz,sz',f1,rfl,hh,rfl,hb,h1,h2,h3,h4,h5,h6,GV,h7⟩:=hh;cases hh;subst h3;have FR:sz'=sz:=by
   cases ys with
   |nil=>simp at h1
   |cons y ys=>rw[<-h4 y (by simp),hs y (by simp)]
  subst FR;have hl:=h7.len;rw[JI ys h4]at hl;exact⟨_,r,cs,f1,rfl, .inr ⟨_,rfl,hl,λj u hu=>by rw[Addr.add_lit,Ef hb];exact h6 j u hu,GV⟩,h7,λq hq=>by simp[hq],hl,GV⟩
 ·obtain⟨_,_,_,hh,_⟩:=hh;cases hh
 ·obtain⟨_,_,_,hh,_⟩:=hh;cases hh
 ·obtain⟨_,_,_,_,_,_,_,hh,_⟩:=hh;cases hh
 ·obtain⟨_,_,_,_,hh,_⟩:=hh;cases hh
 ·obtain⟨_,hh,_⟩:=hh;cases hh
end
section
variable {P:Program} {c:Cx} {n nx:Nat} {sl sl0:Nat->SV} {hp hp0:Nat->Option Ae} {a:Act} {o:Oper} {gs:Gd} {e:A3} {sg:BN} {nv:Nat}
theorem NW(hp:Nat->Option Ae)(l m:List (Nat × Ae)):A9 hp (l++m)=A9 (A9 hp l) m:=by simp[A9,List.foldl_append]
theorem zrz(h:Rel c n sl hp a)(hs:∀t e,hp0 t=some e->hp t=some e)(k:Bg c.ρ gs){el:TypeId}{s:SV}{v:Value}(hr:SR c [s] [v]){y:E}(hy:Bp hp0 gs AZ s=some y){fz:List (Nat × Ae)}{d:Bool}{ck:Cn}(ht:Tv P hp0 gs el s y=some (fz,d,ck))(hc:ck.den c.ρ):
  ∃ts ys q r news N,DB hp0 gs ts=some fz/\y.den c.ρ= .sl ys/\(∀z∈ys,z.cells.length=P.cellsOf el)/\v= .slice q ys.length r/\Src c.w (P.cellsOf el) q ys.length news/\Rd c.w news (Ap ys) N/\(∀b∈N,(c.bf (fz.map (·.1))).ok b)/\(d=true->N=[])/\news.length=ys.length*P.cellsOf el/\ ∀u∈news,u.oneCell'=true:=by
 have eh:EH c hp0:=λt e hr=>h.ents t e (K0 hs hr);obtain⟨f,q1,q2⟩:=G8 eh k AZ hy hr AZ (Av _);unfold Tv at ht;split at ht
 ·simp only[Ac,AP]at ht;obtain⟨rfl,rfl,rfl⟩:=ht;obtain⟨ys,CY,Ar⟩:=hc;rw[CY]at q1;obtain⟨q,r,news,N,hv,g1,g2,g3,g4,g5⟩:=sQ q1 (λz hz=>(Ar z hz).1);have hN:N=[]:=G9 g2 (λx hx=>by
   obtain⟨z,hz,hx⟩:=List.mem_flatMap.1 hx;exact(Ar z hz).2 x hx)
  exact⟨[],ys,q,r,news,N,rfl,CY,λz hz=>(Ar z hz).1,hv,g1,g2,by simp[hN],λ_=>hN,g4,g5⟩
 ·split at ht
  ·rename_i Ht;obtain⟨l,hl,ht⟩:=An.1 ht;simp only[AP]at ht;obtain⟨rfl,rfl,rfl⟩:=ht;obtain⟨ys,CY,Ar⟩:=hc;rw[CY]at q1;obtain⟨q,r,news,N,hv,g1,g2,g3,g4,g5⟩:=sQ q1 Ar;exact⟨_,ys,q,r,news,N,hl,CY,Ar,hv,g1,g2,λb hb=>SU h eh k hl Ht (q2 b (g3 b hb)),by simp,g4,g5⟩
  ·cases ht
theorem JF{el:TypeId}(h:GH P el=true):∃i z,P.info? el=some i/\i.zero=some z/\z.cells.size=i.size/\0<i.size/\P.cellsOf el=i.size/\P.bytesOf el=i.bytes:=by
 unfold GH at h;cases hi:P.info? el with
 |none=>simp[hi]at h
 |some i=>
  cases hz:i.zero with
  |none=>simp[hi,hz]at h
  |some z=>simp only[hi,hz,Ab,AJ,bne_iff_ne]at h;exact⟨i,z,rfl,hz,h.1,by omega,by simp[Program.cellsOf,hi],by simp[Program.bytesOf,hi]⟩
theorem SM(xs ys:List AV):Ap (xs++ys)=Ap xs++Ap ys:=by simp[Ap]
theorem aI(h:Bk P c n nx sl hp a sl0 hp0 o gs){x y:Operand}{tx:TypeId}{cl:Call}(ho:o.op= .call cl)(Ar:cl.callee= .builtin .append)(CC:cl.args.toList=[x,y])(Dx:cl.argTypes.toList=[tx,tx])
  {el:TypeId} (Bm:P.underlying tx=some (.slice el)) (hz:GH P el=true) {s2:SV} {ye:E} (A1:By sl0 gs y=some s2) (hy:Bp hp0 gs AZ s2=some ye) {fz:List (Nat × Ae)} {d:Bool} {ck:Cn} (Ch:Tv P hp0 gs el s2 ye=some (fz,d,ck)) (Ki:ck.den c.ρ)
  {t g:Nat} (Eu:c.A.pin t=none\/g≠0) {c0:E} {d':Bool} (BR:Cn.den c.ρ (.room c0 ye (P.bytesOf el))) (D2:∀f,(t,f)∉fz) (A0: ¬c.K t g)
  {top N0:List Nat} {v:Value} (hv:a.eval x=v) (A6:CA c.w el (P.cellsOf el) v (c0.den c.ρ) top N0) (B0:(c.G t).top=top) (MB:∀b∈N0,c.ok b) (X4:d'=true->QM c.w N0/\(c.G t).O=N0) (Kn:∀g',c.K t g'->g'<=g) (hU:∀u,u=t->c.U u\/(nx<=u/\u<nx+BJ)) {ckl:List Cn}:
  Aw P o c n nx sl hp gs a {bu:=ckl,val:= .own t g,bc:=fz++ [(t,CB gs (.row el (P.cellsOf el) g (.app c0 ye) (d&&d')))]}:=by
 have Ah:cl.args= #[x,y]:=by apply Array.ext';simp[CC]
 have Fl:cl.argTypes= #[tx,tx]:=by apply Array.ext';simp[Dx]
 have Dn:y∈o.op.operands:=by simp[ho,Op.operands,Call.operands,Ar,Ah]
 obtain⟨i,z,hi,Fj,Dr,BF,B9,Fu⟩:=JF hz;obtain⟨ts,ys,q,r,news,N,GY,CY,H9,CQ,Dq,IW,FF,uJ,Ue,M7⟩:=zrz h.rel h.hp h.gs (h.cj A1 Dn) hy Ch Ki;have C7:=h.rel.freeze h.hp h.gs GY;obtain⟨xs,B3,F8,_,AX⟩:=A6;obtain⟨mm,kk,F6,Dz,LI,Ui⟩:=BR;rw[B3]at F6;rw[CY]at Dz;simp only[AV.len,AV.int.injEq,true_and]at F6 Dz;have Hj:(xs.length+ys.length)*i.bytes<=140737488355328:=by
  rw[<-F6,<-Dz,Fu]at LI;have h9:(((xs.length+ys.length)*i.bytes:Nat):Int)<=140737488355328:=by rw[Int.natCast_mul,Int.natCast_add];exact LI
  omega
 have GX:xs.length+ys.length<=140737488355328:=by rw[<-F6,<-Dz]at Ui;omega
 rw[B9]at Dq Ue F8 H9 AX;obtain⟨old,hold,E4,Db,Cw⟩:∃old,old.length=xs.length*i.size/\((xs.length=0/\ ∃q,v= .slice q 0 0)\/ ∃g cap C,v= .slice (some ⟨g,0,none⟩) xs.length cap/\xs.length<=cap/\cap<=maxLen/\c.w.heap[g]?=some (.cells C el (0,0))/\C.size=cap*i.size/\old=C.toList.take (xs.length*i.size)/\g∈(c.G t).top)/\Rd c.w old (Ap xs) N0/\ ∀u∈old,u.oneCell'=true:=by
  rcases AX with⟨rfl,⟨p,rfl⟩,rfl,rfl⟩|⟨g9,cap,C,rfl,h6,h7,h8,h9,rfl,ER,El⟩
  ·exact⟨[],by simp, .inl ⟨rfl,p,rfl⟩, .nil,by simp⟩
  ·refine⟨_,?_, .inr ⟨g9,cap,C,rfl,h6,h7,h8,h9,rfl,by rw[B0];simp⟩,El,ER⟩;have e9:C.toList.length=cap*i.size:=by rw[<-h9];simp
   rw[Ax,e9];exact Nat.min_eq_left (Bf _ h6)
 obtain⟨v',w',AI,AT⟩:=WW (P:=P) c.w tx o.type el i z Bm hi Fj Dr BF (λg9=>g9∈(c.G t).top) v xs.length old hold E4 q ys.length r news Dq (by simp only[maxLen];omega) Hj;have CP:(execOp a.eval o).run P c.w= .ok (.value v') w':=by simp[execOp,ho,resolve,Ar,Ah,Fl,invoke,builtin,hv,CQ,AI]
 intro next Q hk
 unfold Oper.wp;rw[CP,Oper.upon_value];have uE:(c.bf (fz.map (·.1))).w=c.w:=rfl;have gG:(c.bf (fz.map (·.1))).G t=c.G t:=by simp only[Cx.bf];rw[if_neg];rintro hh;obtain⟨⟨u,f⟩,hf,rfl⟩:=List.mem_map.1 hh;exact D2 f hf
 obtain⟨row,top',Rm,ES,RS,Bd,CU⟩:∃row top',c.w.grownBy w' row/\(∀g0,row=some g0->g0∈(c.G t).top\/(g0=c.w.heap.size/\g0<w'.heap.size))/\(top'=[]\/ ∃g0,row=some g0/\top'=[g0])/\
   (DE (c.bf (fz.map (·.1))) ((c.bf (fz.map (·.1))).a6 t g w' v' top' (if(d&&d')=true then(c.G t).O else []))-> ∃N',CA w' el (P.cellsOf el) v' (.sl (xs++ys)) top' N'/\(∀b∈N',b∈N0\/b∈N)/\((d&&d')=true->N'=N0))/\ ∃p m r,v'= .slice p m r:=by
  rcases AT with⟨rfl,rfl,Dy⟩|⟨g9,cap,C,rfl,h1,h2,h3,h4,h5,h6,h7⟩
  ·have G3:ys=[]:=List.eq_nil_of_length_eq_zero Dy;subst G3;refine⟨if top=[]then none else top.head?,top,⟨rfl,rfl,rfl,Av _,λ_ _ _=>rfl⟩,λg0 ES=> .inl ?_,?_,λ_=>⟨N0,?_,λb hb=> .inl hb,λ_=>rfl⟩,?_⟩
   ·rw[B0];split at ES
    ·cases ES
    ·exact List.mem_of_mem_head? ES
   ·rcases AX with⟨_,_,rfl,_⟩|⟨g9,_,_,_,_,_,_,_,rfl,_⟩
    ·exact .inl rfl
    ·exact .inr ⟨g9,by simp,rfl⟩
   ·rw[B9];exact⟨xs,by simp,F8,BF,AX⟩
   ·rcases E4 with⟨_,p,rfl⟩|⟨g9,cap,C,rfl,_⟩
    ·exact⟨_,_,_,rfl⟩
    ·exact⟨_,_,_,rfl⟩
  ·refine⟨some g9,[g9],h6,λg0 ES=> ?_, .inr ⟨g9,rfl,rfl⟩,λF5=>⟨N0++N,⟨xs++ys,rfl,λz hz=> ?_,by rw[B9];exact BF, .inr ⟨g9,cap,C,by simp,by simpa using h1,h2,h3,by rw[B9];exact h4,rfl,?_,?_⟩⟩,λb hb=>Af.1 hb,λEG=> ?_⟩,_,_,_,rfl⟩
   ·cases ES;exact h7.symm
   ·rcases Af.1 hz with hz|hz
    ·rw[B9];exact F8 z hz
    ·rw[B9];exact H9 z hz
   ·rw[B9];simp only[AE];rw[h5];intro u hu;rcases Af.1 hu with hu|hu
    ·exact Cw u hu
    ·exact M7 u hu
   ·rw[B9];simp only[AE];rw[h5,SM];refine Rd.app (Db.frame λb hb=> ?_) (IW.frame λb hb=> ?_)
    ·have Hj:=Db.inb b hb;exact F5.mem b Hj (Cx.dz (MB b hb))
    ·have Hj:=IW.inb b hb;exact F5.mem b Hj (FF b hb)
   ·simp only[Ab]at EG;rw[uJ EG.1];simp
 obtain⟨p9,m9,r9,wC⟩:=CU;have DI:=C7.a6 (gs:=gs) (t:=t) (g:=g) (w':=w') (row:=row) (top:=top') (O:=if(d&&d')=true then(c.G t).O else []) (v:=v') Eu A0 Rm (by rw[gG];exact ES) RS (by split;exact .inr (by rw[gG]);exact .inl rfl)
  (.row el (P.cellsOf el) g (.app c0 ye) (d&&d')) (by intros;simp) h.gs (λF5=>by
   obtain⟨N',o1,o2,o3⟩:=Bd F5;have AS:∀b∈N',((c.bf (fz.map (·.1))).a6 t g w' v' top' (if(d&&d')=true then(c.G t).O else [])).ok b:=by
    intro b hb;rcases o2 b hb with hb|hb
    ·exact F5.ok b (Db.inb b hb) (Cx.dz (MB b hb))
    ·exact F5.ok b (IW.inb b hb) (FF b hb)
   refine⟨.inr ⟨rfl,rfl⟩,λg' Cf=> ?_,N',?_,AS,λEG=> ?_,λEG=> ?_⟩
   ·rcases Cf with Cf|⟨_,rfl⟩
    ·exact Kn g' Cf
    ·exact Av _
   ·have e1:((c.bf (fz.map (·.1))).a6 t g w' v' top' (if(d&&d')=true then(c.G t).O else [])).H t g=v':=by simp[Cx.a6]
    have e2:(((c.bf (fz.map (·.1))).a6 t g w' v' top' (if(d&&d')=true then(c.G t).O else [])).G t).top=top':=by simp[Cx.a6]
    rw[e1,e2];show CA w' el (P.cellsOf el) v' (AV.app (c0.den c.ρ) (ye.den c.ρ)) top' N';rw[B3,CY];exact o1
   ·have XC:=o3 EG;have X5:d'=true:=by simp only[Ab]at EG;exact EG.2
    obtain⟨u1,u2⟩:=X4 X5;subst XC;refine⟨u1.frame λb hb=>F5.mem b (Db.inb b hb) (Cx.dz (MB b hb)),?_⟩;simp only[Cx.a6,if_true,EG];exact u2
   ·simp[Cx.a6,EG])
 have XJ:SR ((c.bf (fz.map (·.1))).a6 t g w' v' top' (if(d&&d')=true then(c.G t).O else [])) [.own t g] [v']:=by rw[wC];exact .own (.inr ⟨rfl,rfl⟩) (by simp[Cx.a6]) .nil
 refine hk _ ((c.bf (fz.map (·.1))).a6 t g w' v' top' (if(d&&d')=true then(c.G t).O else [])) ⟨rfl,rfl,rfl,rfl,λu hu=> ?_⟩ ?_
 ·rcases hu with hu|rfl
  ·exact .inl hu
  ·exact hU u rfl
 ·have:=DI.put (XJ.mkGd gs h.gs) o.dst;rw[NW];exact this
end
section
variable {P:Program} {c:Cx} {n nx:Nat} {sl sl0:Nat->SV} {hp hp0:Nat->Option Ae} {a:Act} {o:Oper} {gs:Gd} {e:A3} {sg:BN} {nv:Nat}
theorem Ig{t el:TypeId}(h:Co P t=some el):P.underlying t=some (.slice el):=by
 unfold Co at h;split at h
 ·simp at h;subst h;assumption
 ·cases h
theorem zpm{ts:List Nat}{l:List (Nat × Ae)}(k:Bg c.ρ gs)(h:DB hp0 gs ts=some l):∀t f,(t,f)∈l-> ∃g x f',Cq c.ρ (hp0 t) f'/\KU f' g x:=by intro t f hf;obtain⟨_,_,g,x,f',_,r⟩:=(NI k h).1 t f hf;exact⟨g,x,f',r⟩
theorem zqf(h:Bk P c n nx sl hp a sl0 hp0 o gs){x y:Operand}{tx ty:TypeId}{cl:Call}(ho:o.op= .call cl)(Ar:cl.callee= .builtin .append)(CC:cl.args.toList=[x,y])(Dx:cl.argTypes.toList=[tx,ty])
  {s1 s2:SV} (BE:By sl0 gs x=some s1) (A1:By sl0 gs y=some s2) (he:cJ P hp0 gs nx tx ty s1 s2=some e) (hc:∀q∈e.bu,Cn.den c.ρ q):Aw P o c n nx sl hp gs a e:=by
 have Ah:cl.args= #[x,y]:=by apply Array.ext';simp[CC]
 have DK:x∈o.op.operands:=by simp[ho,Op.operands,Call.operands,Ar,Ah]
 unfold cJ at he;split at he
 ·cases he
 rename_i I2;have I2:tx=ty:=by simpa using I2
 subst I2;split at he
 ·rename_i el Bm;have Bm:=Ig Bm;split at he
  ·cases he
  rename_i hz;have hz:GH P el=true:=by simpa using hz
  split at he
  ·cases he
  rename_i ye hy;split at he
  ·cases he
  rename_i fz d ck Ch;obtain⟨ts,GY⟩:∃ts,DB hp0 gs ts=some fz:=by
   unfold Tv at Ch;split at Ch
   ·simp only[Ac,AP]at Ch;obtain⟨rfl,_⟩:=Ch;exact⟨[],rfl⟩
   ·split at Ch
    ·obtain⟨l,hl,Ch⟩:=An.1 Ch;simp only[AP]at Ch;obtain⟨rfl,_⟩:=Ch;exact⟨_,hl⟩
    ·cases Ch
  have r1:=h.cj BE DK;have fresh:∀f,(nx,f)∉fz:=λf hf=>by
   obtain⟨_,_,_,r,_⟩:=zpm (c:=c) h.gs GY nx f hf;have r:=K0 h.hp r;cases hh:hp nx with
   |none=>rw[hh]at r;exact r.elim
   |some e9=>exact L9 h (h.rel.ch nx e9 hh)
  have hK:∀g,¬c.K nx g:=λg hg=>L9 h (h.rel.bd _ _ hg);have FQ:=h.rel.off nx (λe9 hr=>by
   cases hh:hp nx with
   |none=>rw[hh]at hr;exact hr.elim
   |some e8=>exact L9 h (h.rel.ch nx e8 hh))
  have Ug:c.A.pin nx=none:=by
   cases hh:c.A.pin nx with
   |none=>rfl
   |some v=>exact absurd (h.rel.base.pins nx v hh).1 (L9 h)
  have Oz:∀u,u=nx->c.U u\/(nx<=u/\u<nx+BJ):=λu hu=> .inr ⟨by omega,by rw[hu];simp[BJ]⟩;have iQ:P.cellsOf el≠0:=by obtain⟨i,_,_,_,_,h1,h2,_⟩:=JF hz;omega
  split at he
  ·rename_i t g;split at he
   ·rename_i e' sz' g' c0 d' hl;split at he
    ·rename_i hh;obtain⟨rfl,rfl,rfl,rfl,D2⟩:=hh;simp only[Ac]at he;subst he;have E3:=Cu hl h.gs;obtain⟨q1,q2,N,q3,q4,q5,q6⟩:=h.eh t _ E3;generalize hv:a.eval x=v at r1;cases r1 with
     |own k1 k2 _=>
      have:=aI (nx:=nx) h ho Ar CC Dx Bm hz A1 hy Ch (hc _ (by simp)) (t:=t) (g:=g+1) (.inr (by omega)) (c0:=c0) (d':=d') (hc _ (by simp)) (λf hf=>by simp only[Br,List.contains_eq_mem,decide_eq_false_iff_not]at D2;exact D2 (List.mem_map.2 ⟨_,hf,rfl⟩)) (λhh=>by have:=q2 _ hh;omega) hv (by rw[<-k2];exact q3) rfl q4 q5 (λg' Cf=>by have:=q2 _ Cf;omega) (λu hu=> .inl (by rw[hu];exact h.rel.bd t g q1)) (ckl:=[.room c0 ye (P.bytesOf el),ck])
      exact this
    ·cases he
   ·cases he
  ·simp only[Ac]at he;subst he;generalize hv:a.eval x=v at r1;cases r1 with
   |emp _=>have:=aI (nx:=nx) h ho Ar CC Dx Bm hz A1 hy Ch (hc _ (by simp)) (t:=nx) (g:=0) (.inl Ug) (c0:= .lst .nil) (d':=true) (top:=[]) (N0:=[]) (hc _ (by simp)) fresh (hK 0) hv ⟨[],rfl,by simp,by omega, .inl ⟨rfl,⟨_,rfl⟩,rfl,rfl⟩⟩ FQ.1 (by simp) (λ_=>⟨rfl,FQ.2⟩) (λg' Cf=>absurd Cf (hK g')) Oz (ckl:=[.room (.lst .nil) ye (P.bytesOf el),ck]);rw[Bool.and_true]at this;exact this
  ·simp only[Ac]at he;subst he;generalize hv:a.eval x=v at r1;cases r1 with
   |bq _=>have:=aI (nx:=nx) h ho Ar CC Dx Bm hz A1 hy Ch (hc _ (by simp)) (t:=nx) (g:=0) (.inl Ug) (c0:= .lst .nil) (d':=true) (top:=[]) (N0:=[]) (hc _ (by simp)) fresh (hK 0) hv ⟨[],rfl,by simp,by omega, .inl ⟨rfl,⟨_,rfl⟩,rfl,rfl⟩⟩ FQ.1 (by simp) (λ_=>⟨rfl,FQ.2⟩) (λg' Cf=>absurd Cf (hK g')) Oz (ckl:=[.room (.lst .nil) ye (P.bytesOf el),ck]);rw[Bool.and_true]at this;exact this
  ·cases he
 ·cases he
end
section
variable {P:Program} {c:Cx} {n nx:Nat} {sl sl0:Nat->SV} {hp hp0:Nat->Option Ae} {a:Act} {o:Oper} {gs:Gd} {e:A3} {sg:BN} {nv:Nat}
theorem Su:∀{ts us:List Nat} {l m:List (Nat × Ae)},DB hp0 gs ts=some l->DB hp0 gs us=some m->DB hp0 gs (ts++us)=some (l++m)
 | [],us,l,m,h,k=>by simp[DB]at h;subst h;simpa using k
 |t::ts,us,l,m,h,k=>by
  unfold DB at h;simp only[List.cons_append];unfold DB;split at h
  ·rename_i ety sz g x d l' hl Bz;have ih:=Su Bz k;split at h
   ·rename_i hg;simp at h;subst h;simp[hl,ih,hg]
   ·cases h
  ·rename_i ety sz dl g ep x l' hl Bz;have ih:=Su Bz k;split at h
   ·rename_i hg;simp at h;subst h;simp[hl,ih,hg]
   ·cases h
  ·rename_i g x l' hl Bz;have ih:=Su Bz k;simp at h;subst h;simp[hl,ih]
  ·rename_i ty g cs l' hl Bz;have ih:=Su Bz k;simp at h;subst h;simp[hl,ih]
  ·cases h
theorem lZ{ts us:List Nat}(hs:∀t∈ts,t∈us){b:Nat}(h:(c.bf ts).ok b):(c.bf us).ok b:=by refine⟨λhm=>h.1 ?_,h.2⟩;obtain⟨u,hu,hb⟩:=Cx.ij hm;exact⟨u,by simp only[Cx.bf];rw[if_neg (λhh=>hu (hs u hh))];exact hb⟩
theorem cI{w:World}{v:Value}{x:AV}{f:List Nat}{t:TypeId}(h:Rd w [v] [x] f)(hg:Aj P t=true\/P.cellsOf t=1)(hx:if Aj P t then∃cs,x= .agg cs/\cs.length=P.cellsOf t else(∀cs,x≠ .agg cs)/\ ∀cs,x≠ .tup cs):
  Rd w v.cells.toList x.cells f/\(∀u∈v.cells.toList,u.oneCell'=true)/\x.cells.length=P.cellsOf t/\v.cells.size=P.cellsOf t:=by
 split at hx
 ·obtain⟨cs,rfl,hl⟩:=hx;obtain⟨as_,rfl,h1,h2⟩:=Io h rfl;have:=h2.len;exact⟨by simpa[Value.cells,AV.cells]using h2,by simpa[Value.cells]using h1,hl,by simp[Value.cells];omega⟩
 ·rename_i vD;have h1:P.cellsOf t=1:=by rcases hg with h'|h';exact absurd h' vD;exact h'
  have Cw:=bA h hx.1 hx.2;have F8:x.cells=[x]:=by cases x<;>first|rfl|exact absurd rfl (hx.1 _)
  rw[one_cells Cw,F8];exact⟨by simpa using h,by simpa using Cw,by simp[h1],by simp[h1]⟩
theorem kX(h:Rel c n sl hp a)(hs:∀t e,hp0 t=some e->hp t=some e)(k:Bg c.ρ gs){t:TypeId}(hg:Aj P t=true\/P.cellsOf t=1):∀(ss:List SV) (vs:List Value) {xs:List E} {fz:List (Nat × Ae)} {d:Bool} {ck:List Cn},SR c ss vs->Tj P hp0 gs t ss=some (xs,fz,d,ck)->(∀q∈ck,q.den c.ρ)->
  ∃N,Rd c.w (vs.flatMap λv=>v.cells.toList) (Ap (xs.map (E.den c.ρ))) N/\(d=true->N=[])/\(∃ts,DB hp0 gs ts=some fz)/\(∀b∈N,(c.bf (fz.map (·.1))).ok b)/\(∀v∈vs,v.cells.size=P.cellsOf t/\ ∀u∈v.cells.toList,u.oneCell'=true)/\(∀x∈xs,(x.den c.ρ).cells.length=P.cellsOf t)/\xs.length=vs.length
 | [],vs,xs,fz,d,ck,hr,ht,hc=>by simp[Tj]at ht;obtain⟨rfl,rfl,rfl,rfl⟩:=ht;cases hr;exact⟨[],by simpa[Ap]using Rd.nil,λ_=>rfl,⟨[],rfl⟩,by simp,by simp,by simp,rfl⟩
 |s::ss,[],xs,fz,d,ck,hr,ht,hc=>by have:=hr.len;simp at this
 |s::ss,v::vs,xs,fz,d,ck,hr,ht,hc=>by
  obtain⟨r1,r2⟩:=hr.br;unfold Tj at ht;split at ht
  ·rename_i x fz1 d1 ck1 xs2 fz2 d2 ck2 h1 h2;simp only[Ac,AP]at ht;obtain⟨rfl,rfl,rfl,rfl⟩:=ht;obtain⟨f,q1,q2,⟨ts1,q3,q4⟩,q5⟩:=lK h hs k r1 h1 (λq hq=>hc q (by simp[hq]));obtain⟨N,p1,p2,⟨ts2,p3⟩,p4,p5,p6,p7⟩:=kX h hs k hg ss vs r2 h2 (λq hq=>hc q (by simp[hq]));obtain⟨o1,o2,o3,o4⟩:=cI (P:=P) q1 hg q5;refine⟨f++N,?_,λhd=> ?_,⟨_,Su q3 p3⟩,λb hb=> ?_,?_,?_,by simp[p7]⟩
   ·simpa[Ap]using o1.app p1
   ·simp only[Ab]at hd;rw[q2 hd.1,p2 hd.2];rfl
   ·rcases Af.1 hb with hb|hb
    ·exact lZ (λt ht=>by simp only[List.map_append,Af];exact .inl ht) (q4 b hb)
    ·exact lZ (λt ht=>by simp only[List.map_append,Af];exact .inr ht) (p4 b hb)
   ·intro u hu;rcases Ad.1 hu with rfl|hu
    ·exact⟨o4,o2⟩
    ·exact p5 u hu
   ·intro u hu;rcases Ad.1 hu with rfl|hu
    ·exact o3
    ·exact p6 u hu
  ·cases ht
theorem cF{sz:Nat}(place:Nat->Option (Nat × Nat))(Ev:∀i,place i=some (i*sz,sz)):∀(vs:List Value) (k:Nat) (C:Array Value) (pre suf:List Value),C.toList=pre++suf->pre.length=k*sz->suf.length=vs.length*sz->(∀v∈vs,v.cells.size=sz)->
  ∃C',Instr.fill place C ((vs.zipIdx k).map λp=>(p.2,p.1))=some C'/\C'.toList=pre++vs.flatMap λv=>v.cells.toList
 | [],k,C,pre,suf,h,_,h2,_=>by have:suf=[]:=List.eq_nil_of_length_eq_zero (by simpa using h2);subst this;exact⟨C,rfl,by simpa using h⟩
 |v::vs,k,C,pre,suf,h,h1,h2,h3=>by
  have hv:=h3 v (by simp);simp only[AR,Nat.add_mul,Nat.one_mul]at h2;have hC:C.size=pre.length+suf.length:=by rw[<-BG,h,AE]
  have Lr:(v.cells.zipIdx.foldl (λcs (p:Value × Nat)=>cs.setIfInBounds (k*sz+p.2) p.1) C).toList=setVs C.toList (k*sz) v.cells.toList:=by have:=o8 v.cells.toList 0 (k*sz) C (by simp;omega);rw[<-Array.foldl_toList,Array.toList_zipIdx];simpa using this
  have YS:setVs C.toList (k*sz) v.cells.toList=(pre++v.cells.toList)++suf.drop sz:=by unfold setVs;rw[h,<-h1,List.take_left' rfl];congr 1;rw[List.drop_append,List.drop_eq_nil_of_le (by omega)];simp[hv]
  obtain⟨C',g1,g2⟩:=cF place Ev vs (k+1) (v.cells.zipIdx.foldl (λcs (p:Value × Nat)=>cs.setIfInBounds (k*sz+p.2) p.1) C) (pre++v.cells.toList) (suf.drop sz) (by rw[Lr,YS]) (by simp[h1,hv,Nat.add_mul]) (by simp;omega) (λu hu=>h3 u (by simp[hu]));refine⟨C',?_,by rw[g2];simp⟩;simp only[List.zipIdx_cons,List.map_cons];unfold Instr.fill;simp only[Ev];rw[if_neg (by simp[hv];omega)];exact g1
theorem Aw.newRow(h:Bk P c n nx sl hp a sl0 hp0 o gs){ts:List Nat}{fz:List (Nat × Ae)}(GY:DB hp0 gs ts=some fz){el:TypeId}{C:Array Value}{cap:Nat}{xs:List AV}{x:E}{d:Bool}{N:List Nat}{ckl:List Cn}{wd:World}(wJ:wd.heap=c.w.heap/\wd.os=c.w.os/\wd.tape=c.w.tape/\wd.output=c.w.output)
  (hr:(execOp a.eval o).run P c.w= .ok (.value (.slice (some ⟨c.w.heap.size,0,none⟩) xs.length cap)) (wd.alloc (.cells C el))) (hx:x.den c.ρ= .sl xs) (BF:P.cellsOf el≠0) (Ar:∀y∈xs,y.cells.length=P.cellsOf el) (hle:xs.length<=cap) (IC:cap<=maxLen) (hC:C.size=cap*P.cellsOf el)
  (h1:∀u∈C.toList.take (xs.length*P.cellsOf el),u.oneCell'=true) (hN:Rd c.w (C.toList.take (xs.length*P.cellsOf el)) (Ap xs) N) (FF:∀b∈N,(c.bf (fz.map (·.1))).ok b) (hd:d=true->N=[]):
  Aw P o c n nx sl hp gs a {bu:=ckl,val:= .own nx 0,bc:=fz++ [(nx,CB gs (.row el (P.cellsOf el) 0 x d))]}:=by
 intro next Q hk
 unfold Oper.wp;rw[hr,Oper.upon_value];have hU:=L9 h;have C7:=h.rel.freeze h.hp h.gs GY;have hK:∀g,¬c.K nx g:=λg hg=>hU (h.rel.bd _ _ hg);have Ug:c.A.pin nx=none:=by
  cases hh:c.A.pin nx with
  |none=>rfl
  |some v=>exact absurd (h.rel.base.pins nx v hh).1 hU
 have FQ:=h.rel.off nx (λe9 hr=>by
  cases hh:hp nx with
  |none=>rw[hh]at hr;exact hr.elim
  |some e8=>exact hU (h.rel.ch nx e8 hh))
 obtain⟨w1,w2,w3,w4⟩:=wJ;have Yg:c.w.grownBy (wd.alloc (.cells C el)) (some c.w.heap.size):=by
  refine⟨w2,w3,w4,?_,λk hk _=> ?_⟩
  ·show c.w.heap.size<=(wd.heap.push _).size;simp[w1]
  ·have:=Below.heap_alloc wd (.cells C el) k (by rw[w1];exact hk);rw[this,w1]
 have LC:(wd.alloc (.cells C el)).heap[c.w.heap.size]?=some (.cells C el (0,0)):=by have:=heap_alloc_new wd (.cells C el);rw[w1]at this;exact this
 have AL:c.w.heap.size<(wd.alloc (.cells C el)).heap.size:=De LC;have hO:(c.bf (fz.map (·.1))).G nx=⟨[],[]⟩\/((c.bf (fz.map (·.1))).G nx).O=[]:=by
  right;simp only[Cx.bf];split
  ·rfl
  ·exact FQ.2
 have DI:=C7.a6 (gs:=gs) (t:=nx) (g:=0) (w':=wd.alloc (.cells C el)) (row:=some c.w.heap.size) (top:=[c.w.heap.size]) (O:=[]) (v:= .slice (some ⟨c.w.heap.size,0,none⟩) xs.length cap) (.inl Ug) (hK 0) Yg (λg0 ES=>by cases ES;exact .inr ⟨rfl,AL⟩) (.inr ⟨_,rfl,rfl⟩) (.inl rfl)
  (.row el (P.cellsOf el) 0 x d) (by intros;simp) h.gs (λF5=>by
   refine⟨.inr ⟨rfl,rfl⟩,λg' Cf=> ?_,N,?_,λb hb=>F5.ok b (hN.inb b hb) (FF b hb),λEG=> ?_,λ_=>by simp[Cx.a6]⟩
   ·rcases Cf with Cf|⟨_,rfl⟩
    ·exact absurd Cf (hK g')
    ·exact Av _
   ·have e1:((c.bf (fz.map (·.1))).a6 nx 0 (wd.alloc (.cells C el)) (.slice (some ⟨c.w.heap.size,0,none⟩) xs.length cap) [c.w.heap.size] []).H nx 0= .slice (some ⟨c.w.heap.size,0,none⟩) xs.length cap:=by simp[Cx.a6]
    have e2:(((c.bf (fz.map (·.1))).a6 nx 0 (wd.alloc (.cells C el)) (.slice (some ⟨c.w.heap.size,0,none⟩) xs.length cap) [c.w.heap.size] []).G nx).top=[c.w.heap.size]:=by simp[Cx.a6]
    rw[e1,e2];show CA (wd.alloc (.cells C el)) el (P.cellsOf el) _ (x.den c.ρ) _ N;rw[hx];exact⟨xs,rfl,Ar,by omega, .inr ⟨_,cap,C,rfl,hle,IC,LC,hC,rfl,h1,hN.frame λb hb=>F5.mem b (hN.inb b hb) (FF b hb)⟩⟩
   ·rw[hd EG];exact⟨rfl,by simp[Cx.a6]⟩)
 have XJ:SR ((c.bf (fz.map (·.1))).a6 nx 0 (wd.alloc (.cells C el)) (.slice (some ⟨c.w.heap.size,0,none⟩) xs.length cap) [c.w.heap.size] []) [.own nx 0] [.slice (some ⟨c.w.heap.size,0,none⟩) xs.length cap]:=
  .own (.inr ⟨rfl,rfl⟩) (by simp[Cx.a6]) .nil
 refine hk _ ((c.bf (fz.map (·.1))).a6 nx 0 (wd.alloc (.cells C el)) (.slice (some ⟨c.w.heap.size,0,none⟩) xs.length cap) [c.w.heap.size] []) ⟨rfl,rfl,rfl,rfl,λu hu=> ?_⟩ ?_
 ·rcases hu with hu|rfl
  ·exact .inl hu
  ·exact .inr ⟨Av _,by simp[BJ]⟩
 ·have:=DI.put (XJ.mkGd gs h.gs) o.dst;rw[NW];exact this
theorem kH{t el:TypeId}(hu:P.underlying t=some (.slice el))(Bc:C4 P el=true){i:TypeInfo}{z:Value}(hi:P.info? el=some i)(hz:i.zero=some z)(B9:P.cellsOf el=i.size)(m:Nat)(hle:m*i.size<=2^24)(parts:Array (Nat × Value))(C:Array Value)
  (hf:Instr.fill (λj=>some (j*i.size,i.size)) ((Array.range (m*i.size)).map (λj=>(if m*i.size=0 then #[]else z.cells)[j % (if m*i.size=0 then #[]else z.cells).size]!)) parts.toList=some C) (w:World):
  (Instr.buildSlice t m parts).run P w= .ok (.slice (some ⟨w.heap.size,0,none⟩) m m) (w.alloc (.cells C el)):=by
 have Yv: ¬(2^24<m*i.size):=by omega
 have H7:Array.range 0= #[]:=rfl;by_cases h0:m*i.size=0
 ·simp only[h0,if_true,H7]at hf;have Rc:∀f:Nat->Value,Array.map f #[]= #[]:=λf=>by simp
  rw[Rc]at hf;simp only[Instr.buildSlice,Sem.run_bind,run_underlying hu,Result.andThen_ok,NO Bc,B9];simp[h0,H7,hf,newRow]
 ·simp only[h0,if_false]at hf;simp only[Instr.buildSlice,Sem.run_bind,run_underlying hu,Result.andThen_ok,NO Bc,B9];simp[h0,Yv,zeroValue,typeInfo,hi,hz,hf,newRow]
theorem zW(h:Bk P c n nx sl hp a sl0 hp0 o gs){t:TypeId}{m:Nat}{parts:Array (Nat × Operand)}(ho:o.op= .buildSlice t m parts){ps:List (Nat × SV)}(LH:parts.toList.mapM (λ(p:Nat × Operand)=>(By sl0 gs p.2).map λs=>(p.1,s))=some ps)(he:aN P hp0 gs nx t m ps=some e)(hc:∀q∈e.bu,Cn.den c.ρ q):Aw P o c n nx sl hp gs a e:=by
 obtain⟨e1,e2⟩:=Wc (c:=c) (a:=a) (parts.toList.map (·.2)) (λx s hx hm=>h.cj hx (by simpa[ho,Op.operands]using hm)) (λx hx=>List.mem_map.2 ⟨x,hx,rfl⟩) LH;unfold aN at he;split at he
 ·rename_i el Bm;have Bm:=Ig Bm;split at he
  ·cases he
  rename_i As;simp only[not_or,Br,Bool.not_eq_false',ne_eq,Bool.not_eq_false,Nat.not_lt,Decidable.not_not]at As;obtain⟨hz,Bc,Ay,hle,En⟩:=As;have Ay:Aj P el=true\/P.cellsOf el=1:=by simpa using Ay
  obtain⟨i,z,hi,Fj,Dr,BF,B9,Fu⟩:=JF hz;split at he
  ·rename_i xs fz d ck RQ;split at he
   ·simp only[Ac]at he;subst he;obtain⟨N,p1,p2,⟨ts,p3⟩,p4,p5,p6,p7⟩:=kX h.rel h.hp h.gs Ay (ps.map (·.2)) (parts.toList.map λp=>a.eval p.2) e2 RQ hc;have hlen:(parts.toList.map λp=>a.eval p.2).length=m:=by
     have:ps.length=m:=by have:=congrArg List.length En;simpa using this
     have h9:=congrArg List.length e1;simp at h9 ⊢;omega
    have Gy:(parts.map λ(x:Nat × Operand)=>(x.1,a.eval x.2)).toList=((parts.toList.map λp=>a.eval p.2).zipIdx 0).map λp=>(p.2,p.1):=by
     have MW:parts.toList.map (·.1)=List.range m:=by rw[<-e1,En]
     apply List.ext_getElem?;intro j;have hj:(parts.toList.map (·.1))[j]?=(List.range m)[j]?:=by rw[MW]
     simp only[Array.toList_map,List.getElem?_map,List.getElem?_zipIdx]at hj ⊢;cases hp:parts.toList[j]? with
     |none=>simp
     |some p=>
      rw[hp]at hj;simp only[Option.map_some,Ac]at hj ⊢;have Yq:j<m:=by
       rcases Nat.lt_or_ge j m with hh|hh
       ·exact hh
       ·rw[List.getElem?_eq_none (by simpa using hh)]at hj;cases hj
      rw[List.getElem?_range Yq]at hj;simp at hj;simp[hj]
    obtain⟨C',f1,f2⟩:=cF (sz:=i.size) (λj=>some (j*i.size,i.size)) (λj=>rfl) (parts.toList.map λp=>a.eval p.2) 0 ((Array.range (m*i.size)).map (λj=>(if m*i.size=0 then #[]else z.cells)[j % (if m*i.size=0 then #[]else z.cells).size]!)) [] _ (by simp;rfl) (by simp) (by simp[hlen]) (λv hv=>by rw[<-B9];exact(p5 v hv).1);have Dw:C'.toList.length=m*P.cellsOf el:=by
     rw[f2,B9];simp only[List.nil_append];have:∀(L:List Value),(∀v∈L,v.cells.size=i.size)->(L.flatMap λv=>v.cells.toList).length=L.length*i.size:=by
      intro L
      induction L with
      |nil=>intro _;simp
      |cons v L ih=>intro hL;simp only[List.flatMap_cons,AE,AR,BG];rw[ih (λu hu=>hL u (by simp[hu])),hL v (by simp),Nat.add_mul];omega
     rw[this _ (λv hv=>by rw[<-B9];exact(p5 v hv).1),hlen]
    have Gz:(xs.map (E.den c.ρ)).length=m:=by rw[List.length_map,p7,hlen]
    have Bo:C'.toList.take ((xs.map (E.den c.ρ)).length*P.cellsOf el)=(parts.toList.map λp=>a.eval p.2).flatMap λv=>v.cells.toList:=by rw[Gz,<-Dw,List.take_length,f2];simp
    refine Aw.newRow (xs:=xs.map (E.den c.ρ)) (N:=N) (C:=C') (cap:=m) (wd:=c.w) h p3 ⟨rfl,rfl,rfl,rfl⟩ ?_ (by simp[E.den,EL.c8]) (by omega) (λy hy=> ?_) (by omega) (by simp only[maxLen];have:m*1<=m*P.cellsOf el:=Nat.mul_le_mul_left _ (by omega);omega) (by rw[<-BG,Dw]) ?_ (by rw[Bo];exact p1) p4 p2
    ·rw[Gz];have AI:=kH (P:=P) Bm Bc hi Fj B9 m (by rw[<-B9];omega) (parts.map λ(x:Nat × Operand)=>(x.1,a.eval x.2)) C' (by rw[Gy];exact f1) c.w;simp only[execOp,ho,Sem.run_bind];rw[AI];rfl
    ·obtain⟨q,hq,rfl⟩:=List.mem_map.1 hy;exact p6 q hq
    ·rw[Bo];intro u hu;obtain⟨v,hv,hu⟩:=List.mem_flatMap.1 hu;exact(p5 v hv).2 u hu
   ·cases he
  ·cases he
 ·cases he
end
end
end Go.Proofs.YtndikjghnmhdmaaGreat

/- Parts of a proof, joined: WA, VJa, VK, VL, VM, VN, VO, VP, VQ, VR, VS, VT, VU, VV, VW. -/
import Derived.Test.YtagokdejdanfcaaGreatDoorE2
import Derived.WalkSpells
import Derived.Laws.BytesArg
set_option linter.unusedVariables false
set_option linter.unusedSimpArgs false
section
namespace Go.Proofs.YtagokdejdanfcaaGreatDoor
open Go.RowKit
theorem GL: ∀{l:List (Nat × Af)} {t:Nat} {e:Af},Av l t=some e→(t,e)∈l
 | [],_,_,h=>by simp [Av]at h
 |(u,f)::l,t,e,h=>by
  simp only [Av]at h;split at h
  ·rename_i hu;subst hu;simp at h;subst h;simp
  ·exact List.mem_cons_of_mem _ (GL h)
theorem J9 {α:Type}: ∀{l:List (Nat × α)} {t:Nat} {e:α},l.lookup t=some e→(t,e)∈l
 | [],_,_,h=>by simp at h
 |(u,f)::l,t,e,h=>by
  simp only [List.lookup_cons]at h;split at h
  ·rename_i hu;simp at h hu;subst h;subst hu;simp
  ·exact List.mem_cons_of_mem _ (J9 h)
theorem RZ: ∀{θ:List (Nat × Option Nat)},Kj θ=true→ ∀{t u v:Nat},(t,some v)∈θ→(u,some v)∈θ→t=u
 | [],_,t,u,v,h,_=>by simp at h
 |(p,q)::θ,hn,t,u,v,h1,h2=>by
  have fU:Kj θ=true:=by cases q<;>(simp only [Kj,Ac]at hn;exact hn.2)
  have key: ∀x,(p,some v)=(p,q)→(x,some v)∈θ→False:=by intro x hq hx;cases hq;simp only [Kj,Ac,A1]at hn;have:=hn.1 _ hx;simp at this
  rcases Ad.1 h1 with h3|h3<;>rcases Ad.1 h2 with h4|h4
  ·cases h3;cases h4;rfl
  ·cases h3;exact(key u rfl h4).elim
  ·cases h4;exact(key t rfl h3).elim
  ·exact RZ fU h3 h4
def Bx (hp:List (Nat × Af)) (t:Nat):Option Nat:=match Av hp t with
 |some (.box ..)=>some 0
 |some (.row _ _ g _ _)=>some g
 |some (.bg g _)=>some g
 |some (.deep _ _ _ g _ _)=>some g
 |_=>none
def Fz (hp:List (Nat × Af)) (t:Nat):Bool:=match Av hp t with
 |some (.box ..)=>true
 |some (.row ..)=>true
 |some (.deep ..)=>true
 |_=>false
def Jx (pat leaf:Option Af) (g:GI):GI:=match pat,leaf with
 |some (.row ..),some (.deep ..)=>⟨g.top.take 1, []⟩
 |_,_=>g
theorem rG {p l:Option Af} {g:GI} {b:Nat} (h:b∈(Jx p l g).top):b∈g.top:=by
 unfold Jx at h;split at h
 ·exact List.mem_of_mem_take h
 ·exact h
theorem rX {p l:Option Af} {g:GI} {b:Nat} (h:b∈(Jx p l g).own):b∈g.own:=by
 unfold Jx at h;split at h
 ·simp only [GI.own,List.append_nil]at h;simp [GI.own,List.mem_of_mem_take h]
 ·exact h
theorem nM {p l:Option Af} {g:GI} (h:g.own.Nodup):(Jx p l g).own.Nodup:=by
 unfold Jx;split
 ·simp only [GI.own,List.append_nil]at h ⊢;exact List.Sublist.nodup (List.Sublist.trans (List.take_sublist _ _) (List.sublist_append_left _ _)) h
 ·exact h
def Cm (c:Cx) (ρ:List AV) (θ:List (Nat × Option Nat)) (pat leaf:St):Cx:=
 {c with
  ρ:=ρ
  G:=fun t=>if Fz pat.hp t then(match θ.lookup t with|some (some t')=>Jx (Av pat.hp t) (Av leaf.hp t') (c.G t')|_=>⟨[], []⟩)else⟨[], []⟩
  K:=fun t g=>Bx pat.hp t=some g
  H:=fun t _=>match θ.lookup t with|some (some t')=>c.H t' ((Bx leaf.hp t').getD 0)|_=> .slice none 0 0
  U:=fun t=>t<pat.nx
  E:=fun t=>match Av pat.hp t with|some (.deep _ _ _ _ ep _)=>ep|_=>0}
section
variable {c:Cx} {ρ:List AV} {nv n:Nat} {es:List E} {θ:List (Nat × Option Nat)} {pat leaf:St} {sl:Nat→SV} {a:Act}
theorem Kl {t b:Nat} (h:b∈((Cm c ρ θ pat leaf).G t).own):Fz pat.hp t=true∧ ∃t',θ.lookup t=some (some t')∧(b∈((Cm c ρ θ pat leaf).G t).top→b∈(c.G t').top)∧b∈(c.G t').own:=by
 simp only [Cm]at h ⊢;split at h
 ·rename_i ho;split at h
  ·rename_i t' ht;exact⟨ho,t',ht,fun hb=>by rw [if_pos ho]at hb;exact rG hb,rX h⟩
  ·simp [GI.own]at h
 ·simp [GI.own]at h
theorem MZ {b:Nat} (h:c.ok b):(Cm c ρ θ pat leaf).ok b:=by refine⟨fun⟨t,ht⟩=> ?_,h.2⟩;obtain⟨_,t',_,hg,_⟩:=Kl (b:=b) (by simp only [GI.own,Ag];exact .inl ht);exact h.1 ⟨t',hg ht⟩
theorem Jd (hp:ρ<+:c.ρ) (hn:ρ.length=nv) {x y:E} (h:Hx nv es x y=true):x.den (ρ++(EL.of es).den c.ρ)=y.den c.ρ:=by
 obtain⟨τ,hτ⟩:=hp;have IA:x.sc nv=true→x.beq y=true→x.den (ρ++(EL.of es).den c.ρ)=y.den c.ρ:=by intro h1 h2;rw [←E.aj c.ρ x y h2];subst hn;generalize hq:(EL.of es).den c.ρ=q;rw [E.ao ρ q τ x h1,hτ]
 unfold Hx at h;split at h
 ·rename_i i;split at h
  ·rename_i hi;exact IA (by simpa [E.sc]using hi) h
  ·rename_i hi;split at h
   ·rename_i z hz;rw [←E.aj c.ρ z y h];simp only [E.den,EL.cy];rw [List.getElem?_append_right (by omega),hn,List.getElem?_map,hz];rfl
   ·cases h
 ·simp only [Ac]at h;exact IA h.1 h.2
theorem sF (Am:Rel c n sl (Av leaf.hp) a) {s:SV} {v:Value} {y:E} (hs:SR c [s] [v]) (h:GY leaf s=some y): ∃f,Rd c.w [v] [y.den c.ρ] f∧ ∀b∈f,c.dj (Bt (Av leaf.hp) [] (AK+1) [s]) b:=
 FV (fun t e hr=>Am.ents t e hr) (DR _) AK h hs AK (Nat.le_refl _)
mutual
theorem cE (Am:Rel c n sl (Av leaf.hp) a) (hp:ρ<+:c.ρ) (hn:ρ.length=nv) (BJ: ∀t e,(t,e)∈pat.hp→Gp nv es θ pat leaf t e=true): ∀(m:Nat) {p s:SV} {v:Value},OJ nv es θ pat leaf m p s=true→SR c [s] [v]→SR (Cm c (ρ++(EL.of es).den c.ρ) θ pat leaf) [p] [v]
 |0,p,s,v,h,_=>by simp [OJ]at h
 |m+1,p,s,v,h,hs=>by
  unfold OJ at h;split at h
  ·exact .undef .nil
  ·rename_i x;split at h
   ·rename_i y hy;simp only [Ac,A1,Bool.or_eq_true]at h;obtain⟨f,hf,Ge⟩:=sF Am hs hy;have hx:=Jd (c:=c) hp hn h.1;refine .e (by rw [show(Cm c (ρ++(EL.of es).den c.ρ) θ pat leaf).ρ=ρ++(EL.of es).den c.ρ from rfl,hx];exact hf) (fun b hb=> ?_) .nil;rcases Ge b hb with hb|⟨t',JX,hb⟩
    ·exact MZ hb
    ·refine⟨fun⟨u,hu⟩=> ?_, .inr (Am.gw.allow t' b (by simp [GI.own,hb]))⟩;obtain⟨ho,v',hl,hg,NP⟩:=Kl (b:=b) (by simp only [GI.own,Ag];exact .inl hu);have hv:v'=t':=by
      refine Classical.byContradiction fun Bk=>Am.gw.cc v' t' Bk b NP (by simp [GI.own,hb])
     subst hv;have:=h.2 _ JX _ (J9 hl);simp only [bne_self_eq_false,BW,false_or]at this;unfold Fz at ho;split at this
     ·rename_i hh;rw [hh]at ho;simp at ho
     ·rename_i hh;rw [hh]at ho;simp at ho
     ·cases this
   ·cases h
  ·split at h
   ·cases hs with
    |bp _=>exact .bp .nil
   ·cases h
  ·split at h
   ·cases hs with
    |emp _=>exact .emp .nil
   ·cases hs with
    |bp _=>exact .emp .nil
   ·cases h
  ·rename_i t g;have key: ∀t' v',Bx pat.hp t=some g→θ.lookup t=some (some t')→H6 leaf.hp t' v'=true→SR c [.own t' v'] [v]→SR (Cm c (ρ++(EL.of es).den c.ρ) θ pat leaf) [.own t g] [v]:=by
    intro t' v' hg hl hv hs;cases hs with
    |own h1 h2 _=>
     refine .own hg ?_ .nil;show(match θ.lookup t with|some (some t')=>c.H t' ((Bx leaf.hp t').getD 0)|_=>Value.slice none 0 0)=_;rw [hl];have:(Bx leaf.hp t').getD 0=v':=by
      unfold H6 at hv;unfold Bx;split at hv
      ·rename_i hh;rw [hh];simpa using(beq_iff_eq.1 hv).symm
      ·rename_i hh;rw [hh];simpa using(beq_iff_eq.1 hv).symm
      ·rename_i hh;rw [hh];simpa using(beq_iff_eq.1 hv).symm
      ·cases hv
     show c.H t' ((Bx leaf.hp t').getD 0)=_;rw [this];exact h2
   split at h
   ·rename_i g' _ _ Dl;simp only [Ac,beq_iff_eq]at h;obtain⟨rfl,h⟩:=h;split at h
    ·simp only [Ac,beq_iff_eq]at h;exact key _ _ (by simp [Bx,Dl]) h.1 h.2 hs
    ·rw [beq_iff_eq]at h;cases hs with
     |bp _=>refine .own (p:=none) (q:=0) (r:=0) (by show Bx pat.hp t=some g;simp [Bx,Dl]) ?_ .nil;show(match θ.lookup t with|some (some t')=>c.H t' ((Bx leaf.hp t').getD 0)|_=>Value.slice none 0 0)=_;rw [h]
    ·cases h
   ·rename_i g' _ Dl;simp only [Ac,beq_iff_eq]at h;obtain⟨rfl,h⟩:=h;split at h
    ·simp only [Ac,beq_iff_eq]at h;exact key _ _ (by simp [Bx,Dl]) h.1 h.2 hs
    ·cases h
   ·rename_i g' _ _ Dl;simp only [Ac,beq_iff_eq]at h;obtain⟨rfl,h⟩:=h;split at h
    ·simp only [Ac,beq_iff_eq]at h;exact key _ _ (by simp [Bx,Dl]) h.1 h.2 hs
    ·rw [beq_iff_eq]at h;cases hs with
     |bp _=>refine .own (p:=none) (q:=0) (r:=0) (by show Bx pat.hp t=some g;simp [Bx,Dl]) ?_ .nil;show(match θ.lookup t with|some (some t')=>c.H t' ((Bx leaf.hp t').getD 0)|_=>Value.slice none 0 0)=_;rw [h]
    ·cases h
   ·cases h
  ·rename_i t o;split at h
   ·rename_i ty g cs Dl;split at h
    ·rename_i t' o';simp only [Ac,beq_iff_eq]at h;obtain⟨rfl,hl⟩:=h;have F6:=BJ t _ (GL Dl);simp only [Gp,hl]at F6;split at F6
     ·rename_i Ck;cases hs with
      |bz h1 h2 _=>
       refine .bz (by show Bx pat.hp t=some 0;simp [Bx,Dl]) ?_ .nil;show(match θ.lookup t with|some (some t')=>c.H t' ((Bx leaf.hp t').getD 0)|_=>Value.slice none 0 0)=_;rw [hl];have:(Bx leaf.hp t').getD 0=0:=by simp [Bx,Ck]
       simp only [this];exact h2
     ·cases F6
    ·cases h
   ·cases h
  ·cases h
  ·rename_i x i z o;split at h
   ·rename_i y j z' o';simp only [Ac,beq_iff_eq]at h;obtain⟨⟨⟨⟨⟨rfl,rfl⟩,h1⟩,h2⟩,h3⟩,h4⟩:=h;have hx:x.den (ρ++(EL.of es).den c.ρ)=y.den c.ρ:=by
     obtain⟨τ,hτ⟩:=hp;rw [←E.aj c.ρ x y h2];subst hn;generalize (EL.of es).den c.ρ=q;rw [E.ao ρ q τ x h1,hτ]
    have hi:i.den (ρ++(EL.of es).den c.ρ)=j.den c.ρ:=by obtain⟨τ,hτ⟩:=hp;rw [←E.aj c.ρ i j h4];subst hn;generalize (EL.of es).den c.ρ=q;rw [E.ao ρ q τ i h3,hτ]
    cases hs with
    |cz g1 g2 g3 g4 g5 g6 _=>refine .cz (f:=_) (by show Rd c.w _ [x.den (ρ++(EL.of es).den c.ρ)] _;rw [hx];exact g1) (fun b hb=>MZ (g2 b hb)) (by show i.den (ρ++(EL.of es).den c.ρ)=_;rw [hi];exact g3) g4 g5 (by show((x.den (ρ++(EL.of es).den c.ρ)).nth _).cells.length=_;rw [hx];exact g6) .nil
   ·cases h
  ·rename_i x o;split at h
   ·rename_i y o';simp only [Ac,beq_iff_eq]at h;obtain⟨⟨rfl,h1⟩,h2⟩:=h;have hx:x.den (ρ++(EL.of es).den c.ρ)=y.den c.ρ:=by
     obtain⟨τ,hτ⟩:=hp;rw [←E.aj c.ρ x y h2];subst hn;generalize (EL.of es).den c.ρ=q;rw [E.ao ρ q τ x h1,hτ]
    cases hs with
    |cx g1 g2 _=>exact .cx (by show Rd c.w _ [x.den (ρ++(EL.of es).den c.ρ)] _;rw [hx];exact g1) (fun b hb=>MZ (g2 b hb)) .nil
   ·cases h
  ·split at h
   ·cases hs with
    |agg h9 h1 _=>exact .agg h9 (PD Am hp hn BJ m h h1) .nil
   ·cases h
  ·split at h
   ·cases hs with
    |tup h1 _=>exact .tup (PD Am hp hn BJ m h h1) .nil
   ·cases h
  ·split at h
   ·simp only [Ac,beq_iff_eq]at h;obtain⟨rfl,h⟩:=h;cases hs with
    |fn h1 _=>exact .fn (PD Am hp hn BJ m h h1) .nil
   ·cases h
  ·cases h
  ·cases h
  ·cases h
  ·cases h
  ·rename_i i;split at h
   ·rename_i j;simp only [Ac,beq_iff_eq,decide_eq_true_eq]at h;obtain⟨rfl,hi⟩:=h;cases hs with
    |lent g1 _=>
     have hx:(E.var i).den (ρ++(EL.of es).den c.ρ)=(E.var i).den c.ρ:=by obtain⟨τ,hτ⟩:=hp;subst hn;generalize (EL.of es).den c.ρ=q;rw [E.ao ρ q τ (.var i) (by simpa [E.sc]using hi),hτ]
     exact .lent (show c.A.lo v ((E.var i).den (ρ++(EL.of es).den c.ρ)) by rw [hx];exact g1) .nil
   ·cases h
theorem PD (Am:Rel c n sl (Av leaf.hp) a) (hp:ρ<+:c.ρ) (hn:ρ.length=nv) (BJ: ∀t e,(t,e)∈pat.hp→Gp nv es θ pat leaf t e=true): ∀(m:Nat) {ps ss:List SV} {vs:List Value},FB nv es θ pat leaf m ps ss=true→SR c ss vs→SR (Cm c (ρ++(EL.of es).den c.ρ) θ pat leaf) ps vs
 |0,ps,ss,vs,h,_=>by simp [FB]at h
 |m+1, [], [],vs,h,hs=>by cases hs;exact .nil
 |m+1,p::ps, [],vs,h,hs=>by simp [FB]at h
 |m+1, [],s::ss,vs,h,hs=>by simp [FB]at h
 |m+1,p::ps,s::ss, [],h,hs=>by have:=hs.len;simp at this
 |m+1,p::ps,s::ss,v::vs,h,hs=>by simp only [FB,Ac]at h;obtain⟨h1,h2⟩:=hs.br;exact(cE Am hp hn BJ m h.1 h1).cons (PD Am hp hn BJ m h.2 h2)
end
theorem nX (Am:Rel c n sl (Av leaf.hp) a) (hp:ρ<+:c.ρ) (hn:ρ.length=nv) (BJ: ∀t e,(t,e)∈pat.hp→Gp nv es θ pat leaf t e=true) (hθ:Kj θ=true) {t:Nat} {e:Af} (ht:Av pat.hp t=some e):Co (Cm c (ρ++(EL.of es).den c.ρ) θ pat leaf) t e:=by
 have h:=BJ t e (GL ht);have Xy:Fz pat.hp t=false→(Cm c (ρ++(EL.of es).den c.ρ) θ pat leaf).G t=⟨[], []⟩:=by intro h0;simp only [Cm];rw [if_neg (by rw [h0];simp)]
 have Xz: ∀t',Fz pat.hp t=true→θ.lookup t=some (some t')→(Cm c (ρ++(EL.of es).den c.ρ) θ pat leaf).G t=Jx (Av pat.hp t) (Av leaf.hp t') (c.G t'):=by intro t' h0 hl;simp only [Cm];rw [if_pos h0,hl]
 have NG: ∀t',Fz pat.hp t=true→θ.lookup t=some (some t')→(∀q1 q2 q3 q4 q5 q6,Av leaf.hp t'=some (.deep q1 q2 q3 q4 q5 q6)→ ∀p1 p2 p3 p4 p5,e≠ .row p1 p2 p3 p4 p5)→(Cm c (ρ++(EL.of es).den c.ρ) θ pat leaf).G t=c.G t':=by
  intro t' h0 hl DE;rw [Xz t' h0 hl,ht];unfold Jx;split
  ·rename_i h1 h2;simp only [Ae]at h1;exact absurd h1 (DE _ _ _ _ _ _ h2 _ _ _ _ _)
  ·rfl
 have Ir: ∀t' g,θ.lookup t=some (some t')→Bx leaf.hp t'=some g→ ∀g',(Cm c (ρ++(EL.of es).den c.ρ) θ pat leaf).H t g'=c.H t' g:=by intro t' g hl hg g';simp only [Cm,hl,hg,Option.getD_some]
 have Dz: ∀g,Bx pat.hp t=some g→ ∀g',(Cm c (ρ++(EL.of es).den c.ρ) θ pat leaf).K t g'→g'≤g:=by intro g hg g' hk;have Bw:Bx pat.hp t=some g':=hk;rw [hg]at Bw;cases Bw;exact Nat.le_refl _
 cases e with
 |box ty g cs=>
  simp only [Gp]at h;split at h
  ·rename_i t' hl;split at h
   ·rename_i ty' g' ds Ck;simp only [Ac,beq_iff_eq]at h;obtain⟨⟨rfl,rfl⟩,h⟩:=h;obtain⟨b,C,h1,h2,h3,h4,h5,h6,h7⟩:=Am.ents t' _ (by rw [Ck];rfl);have hg:=NG t' (by simp [Fz,ht]) hl (by intros;simp);exact⟨b,C,by show Bx pat.hp t=some 0;simp [Bx,ht],by rw [Ir t' 0 hl (by simp [Bx,Ck])];exact h2,by rw [hg];exact h3,by rw [hg];exact h4,h5,h6,PD Am hp hn BJ _ h h7⟩
   ·cases h
  ·cases h
 |row et z g x d=>
  simp only [Gp]at h;split at h
  ·rename_i t' hl;split at h
   ·rename_i et' z' g' y d' Ck;simp only [Ac,beq_iff_eq,Bool.or_eq_true,Bool.not_eq_true']at h;obtain⟨⟨⟨rfl,rfl⟩,hx⟩,hd⟩:=h;obtain⟨h1,h2,N,h3,h4,h5,h6⟩:=Am.ents t' _ (by rw [Ck];rfl);have hg:=NG t' (by simp [Fz,ht]) hl (fun _ _ _ _ _ _ hh=>by rw [Ck]at hh;cases hh);have Cg:=Jd hp hn hx;have hK:Bx pat.hp t=some g:=by simp [Bx,ht]
    refine⟨hK,Dz g hK,N, ?_,fun b hb=>MZ (h4 b hb),fun CT=> ?_,fun vL=> ?_⟩
    ·rw [Ir t' g' hl (by simp [Bx,Ck]),hg];show Cy c.w et z _ (x.den (ρ++(EL.of es).den c.ρ)) _ N;rw [Cg];exact h3
    ·rw [hg];exact h5 (by rcases hd with hd|hd;rw [CT]at hd;cases hd;exact hd)
    ·rw [hg];cases d' with
     |false=>exact h6 rfl
     |true=>obtain⟨u1,u2⟩:=h5 rfl;rw [u2];exact u1
   ·rename_i et' z' l' g' ep' y Ck;simp only [Ac,beq_iff_eq,Bool.not_eq_true']at h;obtain⟨⟨⟨rfl,rfl⟩,hx⟩,rfl⟩:=h;obtain⟨h1,h2,_,h3,h4⟩:=Am.ents t' _ (by rw [Ck];rfl);have hg:(Cm c (ρ++(EL.of es).den c.ρ) θ pat leaf).G t=⟨(c.G t').top.take 1, []⟩:=by
     rw [Xz t' (by simp [Fz,ht]) hl,ht,Ck];rfl
    have Cg:=Jd hp hn hx;have hK:Bx pat.hp t=some g:=by simp [Bx,ht]
    obtain⟨f,k1,k2⟩:=h3.ownRow;have BO:((c.G t').top.take 1++(c.G t').top.drop 1).Nodup:=by rw [List.take_append_drop];have:=Am.gw.nodup t';simp only [GI.own,h4,List.append_nil]at this;exact this
    refine⟨hK,Dz g hK,f, ?_,fun b hb=> ?_,fun CT=>(by cases CT),fun _=>by rw [hg]⟩
    ·rw [Ir t' g' hl (by simp [Bx,Ck]),hg];show Cy c.w et z _ (x.den (ρ++(EL.of es).den c.ρ)) _ f;rw [Cg];exact k1
    ·have BZ:b∈(c.G t').top:=List.mem_of_mem_drop (k2 b hb);refine⟨fun⟨u,hu⟩=> ?_, .inr (Am.gw.allow t' b (by simp [GI.own,BZ]))⟩;obtain⟨_,v',Bm,_,NP⟩:=Kl (b:=b) (by simp only [GI.own,Ag];exact .inl hu);have hv:v'=t':=Classical.byContradiction fun Bk=>Am.gw.cc v' t' Bk b NP (by simp [GI.own,BZ]);subst hv;have:=RZ hθ (J9 Bm) (J9 hl);subst this;rw [hg]at hu;exact(List.nodup_append.1 BO).2.2 b hu b (k2 b hb) rfl
   ·cases h
  ·rename_i hl;simp only [Ac,decide_eq_true_eq]at h;have Cg:=Jd hp hn h.1;have hK:Bx pat.hp t=some g:=by simp [Bx,ht]
   have hg:(Cm c (ρ++(EL.of es).den c.ρ) θ pat leaf).G t=⟨[], []⟩:=by simp [Cm,hl]
   refine⟨hK,Dz g hK, [],⟨[], ?_,by simp,h.2, .inl ⟨rfl,⟨none, ?_⟩,by rw [hg],rfl⟩⟩,by simp,fun _=>⟨rfl,by rw [hg]⟩,fun _=>by rw [hg]⟩
   ·show x.den (ρ++(EL.of es).den c.ρ)=_;rw [Cg];rfl
   ·simp [Cm,hl]
  ·cases h
 |bg g x=>
  have hg:=Xy (by simp [Fz,ht]);have hK:Bx pat.hp t=some g:=by simp [Bx,ht]
  simp only [Gp]at h;split at h
  ·rename_i t' hl;have Ge: ∀b,b∈(c.G t').top→(Cm c (ρ++(EL.of es).den c.ρ) θ pat leaf).ok b:=by
    intro b hb;refine⟨fun⟨u,hu⟩=> ?_, .inr (Am.gw.allow t' b (by simp [GI.own,hb]))⟩;obtain⟨ho,v',Bm,B3,NP⟩:=Kl (b:=b) (by simp only [GI.own,Ag];exact .inl hu);have hv:v'=t':=Classical.byContradiction fun Bk=>Am.gw.cc v' t' Bk b NP (by simp [GI.own,hb]);subst hv;have:=RZ hθ (J9 Bm) (J9 hl);subst this;simp [Fz,ht]at ho
   split at h
   ·rename_i et' z' g' y d' Ck;obtain⟨h1,h2,N,h3,h4,h5,h6⟩:=Am.ents t' _ (by rw [Ck];rfl);obtain⟨f,r1,r2,_⟩:=h3.rd;refine⟨hK,⟨f, ?_,fun b hb=>(r2 b hb).elim (Ge b) fun hb=>MZ (h4 b hb)⟩,by rw [hg],by rw [hg]⟩;rw [Ir t' g' hl (by simp [Bx,Ck])];show Rd c.w _ [x.den (ρ++(EL.of es).den c.ρ)] f;rw [Jd hp hn h];exact r1
   ·rename_i g' y Ck;obtain⟨h1,⟨f,r1,r2⟩,_,_⟩:=Am.ents t' _ (by rw [Ck];rfl);refine⟨hK,⟨f, ?_,fun b hb=>MZ (r2 b hb)⟩,by rw [hg],by rw [hg]⟩;rw [Ir t' g' hl (by simp [Bx,Ck])];show Rd c.w _ [x.den (ρ++(EL.of es).den c.ρ)] f;rw [Jd hp hn h];exact r1
   ·rename_i et' z' l' g' ep' y Ck;obtain⟨h1,h2,_,h3,h4⟩:=Am.ents t' _ (by rw [Ck];rfl);obtain⟨f,r1,r2⟩:=h3.rd;refine⟨hK,⟨f, ?_,fun b hb=>Ge b (r2 b hb)⟩,by rw [hg],by rw [hg]⟩;rw [Ir t' g' hl (by simp [Bx,Ck])];show Rd c.w _ [x.den (ρ++(EL.of es).den c.ρ)] f;rw [Jd hp hn h];exact r1
   ·cases h
  ·cases h
 |hol=>simp [Gp]at h
 |deep et z dl g ep x=>
  have hE:(Cm c (ρ++(EL.of es).den c.ρ) θ pat leaf).E t=ep:=by simp [Cm,ht]
  have hK:Bx pat.hp t=some g:=by simp [Bx,ht]
  simp only [Gp]at h;split at h
  ·rename_i t' hl;split at h
   ·rename_i et' z' dl' g' ep' y Ck;simp only [Ac,beq_iff_eq]at h;obtain⟨⟨⟨rfl,rfl⟩,L4⟩,hx⟩:=h;have L4:=AF.fj L4;subst L4;obtain⟨h1,h2,_,h3,h4⟩:=Am.ents t' _ (by rw [Ck];rfl);have hg:=NG t' (by simp [Fz,ht]) hl (by intros;simp);refine⟨hK,Dz g hK,hE, ?_,by rw [hg];exact h4⟩;rw [Ir t' g' hl (by simp [Bx,Ck]),hg];show DC c.w _ _ [x.den (ρ++(EL.of es).den c.ρ)] _;rw [Jd hp hn hx];exact h3
   ·cases h
  ·rename_i hl;have hg:(Cm c (ρ++(EL.of es).den c.ρ) θ pat leaf).G t=⟨[], []⟩:=by simp [Cm,hl]
   simp only [Ac,decide_eq_true_eq,beq_iff_eq]at h;refine⟨hK,Dz g hK,hE, ?_,by rw [hg]⟩;have e1:(Cm c (ρ++(EL.of es).den c.ρ) θ pat leaf).H t g= .slice none 0 0:=by simp [Cm,hl]
   rw [e1,hg];show DC c.w _ _ [x.den (ρ++(EL.of es).den c.ρ)] _;rw [Jd hp hn h.1.1];exact .void h.1.2 (by rw [AF.aq];exact h.2) .nil
  ·cases h
 |gd gs e=>simp [Gp]at h
 |dead=>have hg:=Xy (by simp [Fz,ht]);exact⟨by rw [hg],by rw [hg]⟩
end
theorem Z8 {nv:Nat} {es:List E} {θ:List (Nat × Option Nat)} {pat leaf:St}: ∀(m:Nat) {ps ss:List SV},FB nv es θ pat leaf m ps ss=true→ ∀{i:Nat} {p:SV},ps[i]?=some p→ ∃s k,ss[i]?=some s∧OJ nv es θ pat leaf k p s=true
 |0,ps,ss,h,_,_,_=>by simp [FB]at h
 |m+1, [],ss,h,i,p,hp=>by simp at hp
 |m+1,q::ps, [],h,i,p,hp=>by simp [FB]at h
 |m+1,q::ps,s::ss,h,i,p,hp=>by
  simp only [FB,Ac]at h;cases i with
  |zero=>simp at hp;subst hp;exact⟨s,m,rfl,h.1⟩
  |succ i=>simpa using Z8 m h.2 (by simpa using hp)
theorem sC:SH:=by
 intro F nv pat τ es ρ ρ' a w hi hn hp hr;obtain⟨c,rfl,rfl,QF,hA,Tb,EN,hU,Am⟩:=hr;unfold Il at hi;simp only at hi;split at hi
 ·rename_i AE;simp only [Ae]at hi;generalize TA:(List.range (pat.nv-nv)).map (fun j=>((LL nv pat τ true pat.hp (LL nv pat τ false pat.hp (KA nv pat τ 2000 ⟨[], []⟩ pat.sl τ.sl))).as_.lookup (nv+j)).getD (.int .i64 0))=es0 at AE hi;subst hi;generalize (LL nv pat τ true pat.hp (LL nv pat τ false pat.hp (KA nv pat τ 2000 ⟨[], []⟩ pat.sl τ.sl))).θ=θ at AE;clear TA;simp only [dG,Ac,beq_iff_eq,A1,decide_eq_true_eq]at AE;obtain⟨⟨⟨⟨⟨⟨h1,hθ⟩,hlen⟩,Cr⟩,CF⟩,fY⟩,Ov⟩:=AE;have BJ: ∀t e,(t,e)∈pat.hp→Gp nv es0 θ pat τ t e=true:=fun t e he=>(CF _ he).1;have AD: ∀t e,(t,e)∈pat.hp→t<pat.nx:=fun t e he=>(CF _ he).2;have Oo: ∀t e,Av pat.hp t=some e→ ∀gs e',e≠ .gd gs e':=by
   rintro t e he gs e' rfl;have:=BJ t _ (GL he);simp [Gp]at this
  have AN: ∀t e e',Av pat.hp t=some e→(BR (ρ++(EL.of es0).den c.ρ) (Av pat.hp t) e'↔e'=e):=by
   intro t e e' he;rw [he];cases e with
   |gd gs e9=>exact absurd rfl (Oo t _ he gs e9)
   |_=>simp [BR,eq_comm]
  refine⟨Cm c (ρ++(EL.of es0).den c.ρ) θ pat τ,rfl,rfl,QF,hA,Tb, ?_,fun t ht=>ht,Am.defers,by rw [hlen];exact Am.size,⟨Am.base.os,Am.base.tape,Am.base.output,Am.base.size,fun t v L8=> ?_,Am.base.block,Am.base.pk,Am.base.lo⟩,fun i=> ?_,fun t e hr=> ?_,fun t DE=> ?_,⟨fun t=> ?_,fun t u JY b hb BE=> ?_,fun t b hb=> ?_,fun t b hb=> ?_⟩,fun t g hk=> ?_,fun t e he=>AD t e (GL he)⟩
  ·rw [h1,EL.cy];simp [hn]
  ·have KW:Ku t=true:=F.kq t v (by rw [←hA];exact L8);refine⟨by
    show t<pat.nx;unfold Ku at KW;simp only [Ac,decide_eq_true_eq]at KW;omega,fun hk=> ?_⟩
   have Bw:Bx pat.hp t=some 0:=hk;obtain⟨e,Ug⟩: ∃e,Av pat.hp t=some e:=by
    unfold Bx at Bw;cases hh:Av pat.hp t with
    |none=>rw [hh]at Bw;cases Bw
    |some e=>exact⟨e,rfl⟩
   have D1:=Ov _ (GL Ug);simp only [KW,Bool.not_true,Bool.false_or]at D1;have main:θ.lookup t=some (some t)→Bx τ.hp t=some 0→c.K t 0→(Cm c (ρ++(EL.of es0).den c.ρ) θ pat τ).H t 0=v:=by intro hl hg hK;simp only [Cm,hl,hg,Option.getD_some];exact(Am.base.pins t v L8).2 hK
   unfold J2 at D1;simp only [Bx,Ug]at Bw;rw [Ug]at D1;cases e with
   |box ty g cs=>
    simp only [Ac,beq_iff_eq]at D1;obtain⟨hl,hb⟩:=D1;split at hb
    ·rename_i ty' g' cs' Ck;obtain⟨b,C,q1,_⟩:=Am.ents t _ (by rw [Ck];rfl);exact main hl (by simp [Bx,Ck]) q1
    ·cases hb
   |row ety sz g x d=>
    simp only [Ae]at Bw;subst Bw;simp only [bne_self_eq_false,Bool.false_or,Ac,beq_iff_eq]at D1;obtain⟨hl,hb⟩:=D1;split at hb
    ·rename_i ety' sz' g' x' d' Ck;rw [beq_iff_eq]at hb;subst hb;obtain⟨q1,_⟩:=Am.ents t _ (by rw [Ck];rfl);exact main hl (by simp [Bx,Ck]) q1
    ·cases hb
   |bg g x=>simp only [Ae]at Bw;subst Bw;simp at D1
   |gd=>simp at Bw
   |dead=>simp at Bw
   |hol=>simp at Bw
   |deep ety sz l g ep x=>
    simp only [Ae]at Bw;subst Bw;simp only [bne_self_eq_false,Bool.false_or,Ac,beq_iff_eq]at D1;obtain⟨hl,hb⟩:=D1;split at hb
    ·rename_i Ck;rw [beq_iff_eq]at hb;subst hb;obtain⟨q1,_⟩:=Am.ents t _ (by rw [Ck];rfl);exact main hl (by simp [Bx,Ck]) q1
    ·cases hb
  ·unfold Bf;cases gF:pat.sl[i]? with
   |none=>exact .undef .nil
   |some p=>obtain⟨s,k,hs,hk⟩:=Z8 _ Cr gF;have:=Am.ct i;unfold Bf at this;rw [hs]at this;exact cE Am hp hn BJ k hk this
  ·cases he:Av pat.hp t with
   |none=>rw [he]at hr;exact hr.elim
   |some e9=>have KP:=(AN t e9 e he).1 hr;subst KP;exact nX Am hp hn BJ hθ he
  ·have:Fz pat.hp t=false:=by
    cases he:Av pat.hp t with
    |none=>simp [Fz,he]
    |some e9=>exact absurd ((AN t e9 e9 he).2 rfl) (DE e9)
   simp [Cm,this]
  ·simp only [Cm];split
   ·split
    ·exact nM (Am.gw.nodup _)
    ·simp [GI.own]
   ·simp [GI.own]
  ·obtain⟨_,t',hl,_,BZ⟩:=Kl hb;obtain⟨_,u',Bm,_,F7⟩:=Kl BE;by_cases hh:t'=u'
   ·subst hh;exact JY (RZ hθ (J9 hl) (J9 Bm))
   ·exact Am.gw.cc t' u' hh b BZ F7
  ·obtain⟨_,t',hl,_,BZ⟩:=Kl hb;exact Am.gw.allow t' b BZ
  ·obtain⟨_,t',hl,_,BZ⟩:=Kl hb;exact Am.gw.inb t' b BZ
  ·have Bw:Bx pat.hp t=some g:=hk;unfold Bx at Bw;show t<pat.nx;split at Bw
   ·rename_i hh;exact AD t _ (GL hh)
   ·rename_i hh;exact AD t _ (GL hh)
   ·rename_i hh;exact AD t _ (GL hh)
   ·rename_i hh;exact AD t _ (GL hh)
   ·cases Bw
 ·cases hi
theorem Pd (l:List DT): ∀(n k o m:Nat),k<n→o+m≤l.length→((Cp n l).drop (k*l.length+o)).take m=(l.drop o).take m
 |0,k,_,_,h,_=>by omega
 |n+1,0,o,m,_,hm=>by rw [Lx,Nat.zero_mul,Nat.zero_add,List.drop_append_of_le_length (by omega),List.take_append_of_le_length (by simp;omega)]
 |n+1,k+1,o,m,h,hm=>by have ih:=Pd l n k o m (by omega) hm;rw [←ih,Lx,show(k+1)*l.length+o=l.length+(k*l.length+o)from by rw [Nat.add_mul];omega,List.drop_append,List.drop_eq_nil_of_le (by omega)];simp
theorem DC.elem {w:World} {ys:List AV} {l:List DT} {cells:List Value} {N:List Nat} {z:Nat} (h:DC w (Cp ys.length l) cells (AH ys) N) (hl:l.length=z) (h7: ∀y∈ys,y.cells.length=z) {k o m:Nat} (hk:k<ys.length) (hm:o+m≤z):
  ∃M,(∀b∈M,b∈N)∧DC w ((l.drop o).take m) ((cells.drop (k*z+o)).take m) ((((AV.sl ys).nth k).cells.drop o).take m) M:=by
 obtain⟨N1,N2,N3,rfl,_,h2,_⟩:=h.split (k*z+o) m;subst hl;rw [Pd l _ _ _ _ hk hm,Po ys h7 k _ (Kn hk) o m hm]at h2;exact⟨N2,fun b hb=>by simp [hb],h2⟩
theorem Rd.jr {w:World} {vs:List Value} {x:AV} {f:List Nat} {o m:Nat} {g:Bool} (h:Rd w vs ((x.cells.drop o).take m) f) (h9: ∀u∈vs,u.oneCell'=true) (hm:o+m≤x.cells.length) (h1:g=false→m=1):
  Rd w [if g then .agg vs.toArray else vs.headD undef] [x.fld o m g] f:=by
 cases g with
 |true=>have:=Rd.agg h9 h .nil;simpa [AV.fld]using this
 |false=>
  have:=h1 rfl;subst this;have e2:(x.cells.drop o).take 1= [x.cells[o]'(by omega)]:=by rw [List.drop_eq_getElem_cons (by omega),List.take_succ_cons,List.take_zero]
  rw [e2]at h;have hl:=h.len
  match vs,hl with
  | [v],_=>simpa [AV.fld,show o<x.cells.length by omega]using h
section
variable {P:Program} {c:Cx} {n nx:Nat} {sl sl0:Nat→SV} {hp hp0:Nat→Option Af} {a:Act} {o:Oper} {gs:Gd} {e:AO} {sg:BB} {nv:Nat}
theorem lO {w:World} {b p:Nat} {t:TypeId} {C:Array Value} {ty:TypeId} {fz:Nat × Nat} (hb:w.heap[b]?=some (.cells C ty fz)) (ht:CA P t=true) (hg:Ak P t=true∨P.cellsOf t=1) (hp:p+P.cellsOf t≤C.size):
  (Instr.loadAt t (.pointer (some ⟨b,p,none⟩))).run P w= .ok (if Ak P t then .agg ((C.toList.drop p).take (P.cellsOf t)).toArray else((C.toList.drop p).take (P.cellsOf t)).headD undef) w:=by
 have JL:((C.toList.drop p).take (P.cellsOf t)).length=P.cellsOf t:=by rw [List.length_take,List.length_drop,Array.length_toList];omega
 refine Mz ht _ (fun _=>JL) (fun h=> ?_) (fun j u hu=> ?_)
 ·rw [JL];rcases hg with h'|h';rw [h]at h';cases h';exact h'
 ·rw [DS hb];rw [List.getElem?_take]at hu;split at hu
  ·simpa using hu
  ·cases hu
theorem oY {b g e z ep:Nat} {l:List DT} {c0 i:E} {t:TypeId} {k':Nat} {v:Value} (hE:Co c b (.deep e z l g ep c0)) (hr:SR c [.cg b g i z k'] [v]) (A8:CA P t=true) (hle:k'+P.cellsOf t≤z) (As:Ak P t=true∨P.cellsOf t=1):
  ∃u,(Instr.loadAt t v).run P c.w= .ok u c.w∧(((l.drop k').take (P.cellsOf t)).all DT.bh=true→Rd c.w [u] [(E.fld (.idx c0 i) k' (P.cellsOf t) (Ak P t)).den c.ρ] [])∧Ny c b u ((E.fld (.idx c0 i) k' (P.cellsOf t) (Ak P t)).den c.ρ)∧(Ak P t=false→Gu c b g (some (i,z,k')) u):=by
 obtain⟨q1,q2,q3,q4,q5⟩:=hE;cases hr with
 |cg h1 h2 h3 h4 h5 _=>
  rename_i q len cap kk k h6;obtain⟨d1,d2,⟨a9,d3,_⟩|⟨g9,cap9,C,ys,N1,d3,d4,d5,d6,d7,d8,d9,d10,d11,d12⟩⟩:=q4.inv
  ·rw [h2]at d3;cases d3;omega
  ·rw [h2]at d3;cases d3;rw [AF.aq]at d2 d12;have hk:k.toNat<ys.length:=by omega
   have hmul:(k.toNat+1)*z≤ys.length*z:=Nat.mul_le_mul_right _ (by omega);have EG:ys.length*z≤cap*z:=Nat.mul_le_mul_right _ d7;rw [Nat.add_mul]at hmul;have AG:=lO (P:=P) (t:=t) (p:=k.toNat*z+k') d6 A8 As (by omega);obtain⟨M,m1,m2⟩:=d12.elem d2 d10 hk hle;have EA:((C.toList.take (ys.length*z)).drop (k.toNat*z+k')).take (P.cellsOf t)=(C.toList.drop (k.toNat*z+k')).take (P.cellsOf t):=by rw [List.drop_take,List.take_take,Nat.min_eq_left (by omega)]
   rw [EA]at m2;have Cc: ∀u∈(C.toList.drop (k.toNat*z+k')).take (P.cellsOf t),u.oneCell'=true:=fun u hu=>d11 u (by rw [←EA]at hu;exact List.mem_of_mem_drop (List.mem_of_mem_take hu))
   have X4:((AV.sl ys).nth k.toNat).cells.length=z:=d10 _ (List.mem_of_getElem? (Kn hk));have BC:(E.fld (.idx c0 i) k' (P.cellsOf t) (Ak P t)).den c.ρ=((AV.sl ys).nth k.toNat).fld k' (P.cellsOf t) (Ak P t):=by simp only [E.den,d4,h3,AV.idx]
   have Ta:Ak P t=false→P.cellsOf t=1:=fun h=>by rcases As with h'|h';rw [h]at h';cases h';exact h'
   refine⟨_,AG,fun hf=> ?_, ?_,fun hf=> ?_⟩
   ·rw [BC];exact(m2.ib hf).jr Cc (by omega) Ta
   ·obtain⟨f,r1,r2⟩:=m2.rd;rw [BC];exact⟨f,r1.jr Cc (by omega) Ta,fun b hb=> .inr (by rw [d5];simp [m1 b (r2 b hb)])⟩
   ·refine⟨_,_,_,C,_,_,kk,k,h2,by rw [d5];simp,d6,h3,h4,h5, ?_⟩;have Bu:=Ta hf;have AD:k.toNat*z+k'<C.size:=by omega
    have e1:(C.toList.drop (k.toNat*z+k')).take 1= [C[k.toNat*z+k']]:=by rw [List.drop_eq_getElem_cons (by simpa using AD),List.take_succ_cons,List.take_zero];simp
    rw [hf,Bu,e1];simp [AD]
end
section
variable {P:Program} {c:Cx} {n nx:Nat} {sl sl0:Nat→SV} {hp hp0:Nat→Option Af} {a:Act} {o:Oper} {gs:Gd} {e:AO} {sg:BB} {nv:Nat}
theorem Be.cj: ∀l:Be,Be.of l.toList=l
 | .nil=>rfl
 | .cons s l=>by simp [Be.toList,Be.of,Be.cj l]
theorem qO (h:Ba P c n nx sl hp a sl0 hp0 o gs) {t:TypeId} {x:Operand} (ho:o.op= .load t x) (he:Bg P sg sl0 hp0 nv nx gs o=some e) (hc: ∀q∈e.cd,Cn.den c.ρ q):Ar P o c n nx sl hp gs a e:=by
 have hm:x∈o.op.operands:=by simp [ho,Op.operands]
 simp only [Bg,ho,Aq,Ap]at he;obtain⟨s,hs,e1,he,rfl⟩:=he;have hr:=(h.cm hs hm).asPtr (fun q hq=>hc q (by simp [hq]));have Jz: ∀q∈e1.cd,Cn.den c.ρ q:=fun q hq=>hc q (by simp [hq]);have ex:(execOp a.eval o).run P c.w=((Instr.loadAt t (a.eval x)).run P c.w).andThen fun v w=> .ok (.value v) w:=by simp [execOp,ho]
 unfold bQ at he;split at he
 ·cases he
 rename_i A8;have A8:CA P t=true:=by simpa using A8
 generalize A5:(asPtr s).1=s1 at he hr;split at he
 ·rename_i b o';split at he
  ·rename_i ty g cs hl;obtain⟨s2,AQ,rfl⟩:=Ap.1 he;generalize ha:a.eval x=v at hr ex;cases hr with
   |bz h1 h2 _=>
    rename_i q;obtain⟨q',C,_,e2,e3,e4,e5,e5',e6⟩:=h.eh b _ (Ce hl h.gs);rw [h2]at e2;cases e2;unfold LU at AQ;have hlen:=e6.len;split at AQ
    ·rename_i As;split at AQ
     ·rename_i hle;simp at AQ;subst AQ;obtain⟨r1,r2⟩:=e6.split o';obtain⟨r3,r4⟩:=r2.split (P.cellsOf t);have:=SR.agg (cs:=Be.of ((cs.drop o').take (P.cellsOf t))) (fun u hu=>e5' u (List.mem_of_mem_drop (List.mem_of_mem_take hu))) (by rw [Be.aq];exact r3) .nil;refine Ar.pure h (v:= .agg ((C.toList.drop o').take (P.cellsOf t)).toArray) ?_ this rfl;rw [ex,Mz A8 ((C.toList.drop o').take (P.cellsOf t)) (fun _=>by simp at hlen ⊢;omega) (fun h=>by rw [As]at h;cases h) (fun j u hu=>by
       rw [DS e5];rw [List.getElem?_take]at hu;split at hu
       ·simpa using hu
       ·cases hu)]
      simp [As]
     ·cases AQ
    ·rename_i As;have As:Ak P t=false:=by simpa using As
     obtain⟨u,hu,r⟩:=e6.get AQ;refine Ar.pure h (v:=u) ?_ r rfl;rw [ex,Mz A8 [u] (fun h=>by rw [As]at h;cases h) (fun _=>rfl) (fun j z hz=>by
      cases j with
      |zero=>simp at hz;subst hz;rw [DS e5];simpa using hu
      |succ j=>simp at hz)]
     simp [As]
  ·cases he
 ·rename_i b g i sz o';split at he
  ·rename_i e0 sz' g' c0 d hl;split at he
   ·rename_i hh;obtain⟨rfl,rfl,hle,As⟩:=hh;simp at he;subst he;generalize ha:a.eval x=v at hr ex;cases hr with
    |cg h1 h2 h3 h4 h5 _=>
     rename_i q len cap kk k h6;obtain⟨_,_,N,r1,r2,_,_⟩:=h.eh b _ (Ce hl h.gs);obtain⟨f,r3,_,r4⟩:=r1.rd;obtain⟨xs,B5,At,h0,A3⟩:=r1;rw [h2]at r3 A3;have hk:k.toNat<len:=by omega
     have Hu:xs.length=len:=by
      rcases A3 with⟨_,⟨_,hv⟩,_⟩|⟨_,_,_,hv,_⟩
      ·cases hv;omega
      ·simp at hv;exact hv.2.1.symm
     have BU:((c0.den c.ρ).nth k.toNat).cells.length=sz:=by rw [B5];exact At _ (List.mem_of_getElem? (Kn (xs:=xs) (by omega)))
     obtain⟨v',q',g1,g2,g3⟩:=Wc r3 hk BU A8 hle As;refine Ar.pure h (v:=v') ?_ (.e (f:=q') ?_ ?_ .nil) rfl
     ·rw [ex];rw [Nat.zero_add]at g1;simp [g1]
     ·simpa [E.den,AV.idx,h3]using g3
     ·exact fun z hz=>r2 z (r4 z (g2 z hz))
   ·cases he
  ·rename_i e0 sz' l g' ep c0 hl;split at he
   ·rename_i hh;obtain⟨rfl,rfl,hle,As⟩:=hh;generalize ha:a.eval x=v at hr ex;have hE:=h.eh b _ (Ce hl h.gs);obtain⟨u,k1,k2,k3,k4⟩:=oY (P:=P) (t:=t) hE hr A8 hle As;have AG:(execOp a.eval o).run P c.w= .ok (.value u) c.w:=by rw [ex,k1];rfl
    split at he
    ·rename_i hf;simp only [Ae]at he;subst he;exact Ar.pure h AG (.e (k2 hf) (by simp) .nil) rfl
    ·simp only [Ae]at he;subst he;cases hr with
     |cg h1 _ _ _ _ _=>
      refine Ar.pure h AG (.via h1 (Nat.le_of_eq hE.2.2.1.symm) (fun _=>⟨k3, ?_⟩) .nil) rfl;split
      ·exact trivial
      ·rename_i Fe;exact k4 (by simpa using Fe)
   ·cases he
  ·cases he
 ·rename_i b g m pth y i sz o';split at he
  ·rename_i hh;obtain⟨hle,As,hv⟩:=hh;have hE:=MV h.eh h.gs hv;generalize ha:a.eval x=v at hr ex;cases hr with
   |vptr h1 h2 h3 _=>
    obtain⟨q,off,len,cap,kk,k,⟨f,p1,p2⟩,_,p4,p5,p6,p7,rfl⟩:=h3 hE;obtain⟨v',q',g1,g2,g3⟩:=Wc (fo:=o') p1 (by omega) p7 A8 hle As;have AG:(execOp a.eval o).run P c.w= .ok (.value v') c.w:=by rw [ex];simp [g1]
    have BC:Rd c.w [v'] [(E.fld (.idx y i) o' (P.cellsOf t) (Ak P t)).den c.ρ] q':=by simpa [E.den,AV.idx,p4]using g3
    split at he
    ·simp only [Ae]at he;subst he;obtain⟨f1,f2,f3,f4⟩:=Bu Jz;have hq:q'= []:=by
      cases hg:Ak P t with
      |true=>obtain⟨cs,Bp⟩:=f3 hg;obtain⟨as_,rfl,_,r⟩:=HK BC Bp;exact FR r (by rw [Bp]at f2;exact f2)
      |false=>exact FR BC (by simpa using f4 hg)
     subst hq;exact Ar.pure h AG (.e BC (by simp) .nil) rfl
    ·simp only [Ae]at he;subst he;exact Ar.pure h AG (.via h1 h2 (fun _=>⟨⟨q',BC,fun z hz=>p2 z (List.mem_of_mem_tail (g2 z hz))⟩,trivial⟩) .nil) rfl
  ·cases he
 ·rename_i y i sz o';split at he
  ·rename_i hh;obtain⟨hle,As⟩:=hh;simp at he;subst he;generalize ha:a.eval x=v at hr ex;cases hr with
   |cz h1 h2 h3 h4 h5 h6 _=>rename_i q off len cap f kk k;obtain⟨v',q',g1,g2,g3⟩:=Wc (fo:=o') h1 (by omega) h6 A8 hle As;refine Ar.pure h (v:=v') ?_ (.e (f:=q') (by simpa [E.den,AV.idx,h3]using g3) (fun z hz=>h2 z (List.mem_of_mem_tail (g2 z hz))) .nil) rfl;rw [ex];simp [g1]
  ·cases he
 ·rename_i y o';split at he
  ·rename_i As;simp at he;subst he;generalize ha:a.eval x=v at hr ex;cases hr with
   |cx h1 h2 _=>
    rename_i q f;obtain⟨z,hz,hle⟩:=Bu Jz;rw [hz]at h1;cases h1 with
    |ref hb BE FK CY=>
     rename_i C ty fz f1 f2;obtain⟨q',g1,g2⟩:=FK.gl BE o' (P.cellsOf t) (Ak P t) hle (fun h=>by rcases As with h'|h';rw [h]at h';cases h';exact h');have JL:((C.toList.drop o').take (P.cellsOf t)).length=P.cellsOf t:=by have:=FK.len;rw [List.length_take,List.length_drop];omega
     refine Ar.pure h ?_ (.e (f:=q') (by simpa [E.den,hz,AV.deref]using g2) (fun z hz=>h2 z (by simp [g1 z hz])) .nil) rfl;rw [ex,Mz A8 ((C.toList.drop o').take (P.cellsOf t)) (fun _=>JL) (fun h=>by rw [JL];rcases As with h'|h';rw [h]at h';cases h';exact h') (fun j u hu=>by
       rw [DS hb];rw [List.getElem?_take]at hu;split at hu
       ·simpa using hu
       ·cases hu)]
     simp
  ·cases he
 ·cases he
end
theorem LD (k:IntKind) (n:Int):D7 k n↔k.min≤n∧n≤k.max:=by unfold D7;cases k<;>simp only [IntKind.wrap,IntKind.bits,IntKind.signed,IntKind.min,IntKind.max]<;>simp<;>(try split)<;>omega
theorem Wq (k:IntKind) (n:Int):D7 k (k.wrap n):=by rw [LD];cases k<;>simp only [IntKind.wrap,IntKind.bits,IntKind.signed,IntKind.min,IntKind.max]<;>simp<;>(try split)<;>omega
theorem sJ {k:IntKind} {x y:Int} (h:D7 k x):D7 k (x.tmod y):=by
 rw [LD]at h ⊢;have h1:(x.tmod y).natAbs≤x.natAbs:=by rw [Int.natAbs_tmod];exact Nat.mod_le _ _
 have h2:0≤x→0≤x.tmod y:=Int.tmod_nonneg y;have T4:k.min≤0:=by cases k<;>decide
 have DZ:0≤k.max:=by cases k<;>decide
 constructor
 ·by_cases h0:0≤x
  ·have:=h2 h0;omega
  ·omega
 ·by_cases h0:0≤x
  ·omega
  ·have h3:x.tmod y≤0:=by
    have:=Int.tmod_nonneg (a:= -x) y (by omega);rw [Int.neg_tmod]at this;omega
   omega
theorem rV {k:IntKind} {x:Int} (m:Nat) (h:D7 k x):D7 k (x.fdiv (2^m)):=by
 rw [LD]at h ⊢;have hp:(0:Int)<2^m:=Int.pow_pos (by decide);rw [Int.fdiv_eq_ediv_of_nonneg _ (Int.le_of_lt hp)];have T4:k.min≤0:=by cases k<;>decide
 have DZ:0≤k.max:=by cases k<;>decide
 have h1:(1:Int)≤2^m:=hp;constructor
 ·rcases Int.le_total 0 x with h0|h0
  ·have:=Int.ediv_nonneg h0 (Int.le_of_lt hp);omega
  ·have:x≤x/2^m:=by
    rw [Int.le_ediv_iff_mul_le hp];have:=Int.mul_le_mul_of_nonpos_left h0 h1;omega
   omega
 ·rcases Int.le_total 0 x with h0|h0
  ·have:=Int.ediv_le_self (2^m) h0;omega
  ·have h2:x/2^m≤0:=by
    have:=Int.ediv_le_ediv hp h0;simpa using this
   omega
section
variable {P:Program} {c:Cx} {n nx:Nat} {sl sl0:Nat→SV} {hp hp0:Nat→Option Af} {a:Act} {o:Oper} {gs:Gd} {e:AO} {sg:BB} {nv:Nat}
def AV.val:AV→Value
 | .int k n=> .int k n
 | .bool b=> .bool b
 | .str s=> .string ⟨s.toArray⟩
 |_=>Go.undef
theorem oI {op:BinOp} {k k':IntKind} {x y:Int} (hk:k=k'∨op= .shl∨op= .shr) (hz:op= .quo∨op= .rem→y≠0) (hs:op= .shl∨op= .shr→0≤y) (t:TypeId) (p q:Operand) (w:World):
  (do eqGuard op t p q (.int k x) (.int k' y);binOp op t (.int k x) (.int k' y):Sem Value).run P w= .ok (CH op k x y).val w:=by
 have hg:=eqGuard_at_int op t p q (.int k' y) k x;cases op<;>simp only [reduceCtorEq,or_false,or_true,or_self]at hk hz hs<;>simp only [hg]
 all_goals first
  |(subst hk;simp [binOp,Op.intArith,Op.intCmp,Op.intBits,CH,AV.val];done)
  |(subst hk;have:=hz trivial;simp [binOp,Op.intDiv,CH,AV.val,this];done)
  |(have:=hs trivial;simp [binOp,Op.shift,CH,AV.val,Int.not_lt.2 this];done)
theorem pR {op:BinOp} {k:IntKind} {x y:Int} (hx:D7 k x) (w:World):Rd w [(CH op k x y).val] [CH op k x y] []:=by
 cases op<;>simp only [CH,AV.val]<;>first
  |exact .int (Wq _ _) .nil
  |exact .bool .nil
  |exact .int (sJ hx) .nil
  |exact .int (rV _ hx) .nil
theorem Rd.fh {w:World} {v:Value} {x:AV} {f:List Nat} (h:Rd w [v] [x] f):x≠ .undef:=by rintro rfl;cases h
theorem Wj {ρ:List AV}: ∀(x:E) {k:IntKind},BL x=some k→x.den ρ≠ .undef→ ∃m,x.den ρ= .int k m
 | .int k n,_,h,_=>by simp [BL]at h;subst h;exact⟨n,rfl⟩
 | .len y,_,h,hd=>by
  simp [BL]at h;subst h;simp only [E.den,AV.len]at hd ⊢;split at hd
  ·exact⟨_,rfl⟩
  ·exact absurd rfl hd
 | .slen y,_,h,hd=>by
  simp [BL]at h;subst h;simp only [E.den,AV.slen]at hd ⊢;split at hd
  ·exact⟨_,rfl⟩
  ·exact absurd rfl hd
 | .conv k y,_,h,hd=>by
  simp [BL]at h;subst h;simp only [E.den,AV.conv]at hd ⊢;split at hd
  ·exact⟨_,rfl⟩
  ·exact absurd rfl hd
 | .bin op x y,k,h,hd=>by
  simp only [E.den]at hd ⊢;have hx:x.den ρ≠ .undef:=by rintro hh;rw [hh]at hd;exact hd (by simp [AV.bin])
  cases op<;>simp only [BL,reduceCtorEq]at h
  all_goals
   obtain⟨m,hm⟩:=Wj x h hx;rw [hm]at hd ⊢;cases hy:y.den ρ<;>rw [hy]at hd<;>simp only [AV.bin]at hd ⊢ <;>first
    |exact absurd rfl hd
    |(split at hd
      ·rename_i hk;rw [if_pos hk];exact⟨_,rfl⟩
      ·exact absurd rfl hd)
 | .var _,_,h,_=>by simp [BL]at h
 | .bool _,_,h,_=>by simp [BL]at h
 | .str _,_,h,_=>by simp [BL]at h
 | .dd,_,h,_=>by simp [BL]at h
 | .lst _,_,h,_=>by simp [BL]at h
 | .mk _,_,h,_=>by simp [BL]at h
 | .tup _,_,h,_=>by simp [BL]at h
 | .ref _,_,h,_=>by simp [BL]at h
 | .fn ..,_,h,_=>by simp [BL]at h
 | .fld ..,_,h,_=>by simp [BL]at h
 | .proj ..,_,h,_=>by simp [BL]at h
 | .deref _,_,h,_=>by simp [BL]at h
 | .idx ..,_,h,_=>by simp [BL]at h
 | .sidx ..,_,h,_=>by simp [BL]at h
 | .win ..,_,h,_=>by simp [BL]at h
 | .swin ..,_,h,_=>by simp [BL]at h
 | .app ..,_,h,_=>by simp [BL]at h
 | .set ..,_,h,_=>by simp [BL]at h
 | .put ..,_,h,_=>by simp [BL]at h
 | .rep ..,_,h,_=>by simp [BL]at h
 | .sbin ..,_,h,_=>by simp [BL]at h
 | .bbin ..,_,h,_=>by simp [BL]at h
 | .not _,_,h,_=>by simp [BL]at h
 | .neg _,_,h,_=>by simp [BL]at h
 | .ite ..,_,h,_=>by simp [BL]at h
 | .bytes _,_,h,_=>by simp [BL]at h
 | .text _,_,h,_=>by simp [BL]at h
end
section
variable {P:Program} {c:Cx} {n nx:Nat} {sl sl0:Nat→SV} {hp hp0:Nat→Option Af} {a:Act} {o:Oper} {gs:Gd} {e:AO} {sg:BB} {nv:Nat}
theorem FP {s:SV} {v:Value} {x:E} (h:SR c [s] [v]) (hx:Eh s=some x): ∃f,Rd c.w [v] [x.den c.ρ] f∧ ∀b∈f,c.ok b:=by
 cases s<;>simp only [Eh,Ae,reduceCtorEq]at hx;subst hx;cases h with
 |e h1 h2 _=>exact⟨_,h1,h2⟩
theorem SR.cr {v:Value} {x:E} (h:Rd c.w [v] [x.den c.ρ] []):SR c [.e x] [v]:= .e h (by simp) .nil
theorem oF {ρ:List AV} {op:BinOp} {x y:E} {w:World} {v u:Value} {f g:List Nat} (h1:Rd w [v] [x.den ρ] f) (h2:Rd w [u] [y.den ρ] g) (hd:MN (.bin op x y)=true→(E.bin op x y).den ρ≠ .undef):
  ∃k k' p q,x.den ρ= .int k p∧y.den ρ= .int k' q∧(k=k'∨op= .shl∨op= .shr)∧(E.bin op x y).den ρ=CH op k p q∧D7 k p∧v= .int k p∧u= .int k' q:=by
 have key:(∃k k' p q,x.den ρ= .int k p∧y.den ρ= .int k' q∧(k=k'∨op= .shl∨op= .shr)):=by
  by_cases hn:MN (.bin op x y)=true
  ·have:=hd hn;simp only [E.den]at this;cases hx:x.den ρ<;>cases hy:y.den ρ<;>simp only [hx,hy,AV.bin,ne_eq,not_true_eq_false]at this;split at this
   ·exact⟨_,_,_,_,rfl,rfl,by assumption⟩
   ·exact absurd rfl this
  ·have hn:MN (.bin op x y)=false:=by simpa using hn
   have hk:(BL x).isSome=true∧(BL x==BL y)=true:=by cases op<;>simp [MN]at hn<;>simpa using hn
   obtain⟨k,GA⟩:=Option.isSome_iff_exists.1 hk.1;have fI:BL y=some k:=by rw [←beq_iff_eq.1 hk.2,GA]
   obtain⟨p,hp⟩:=Wj x GA h1.fh;obtain⟨q,hq⟩:=Wj y fI h2.fh;exact⟨k,k,p,q,hp,hq, .inl rfl⟩
 obtain⟨k,k',p,q,hp,hq,JJ⟩:=key;obtain⟨hv,B6⟩:=E6 h1 hp;obtain⟨hu,_⟩:=E6 h2 hq;exact⟨k,k',p,q,hp,hq,JJ,by simp only [E.den,hp,hq,AV.bin,if_pos JJ],B6,hv,hu⟩
theorem lX (a b:ByteArray):(a.toList==b.toList)=(a.data.toList==b.data.toList):=by rw [ByteArray.toList_eq,ByteArray.toList_eq]
theorem l5 {α β γ:Type} (r:Result α) (f:α→World→Result β) (g:β→World→Result γ):(r.andThen f).andThen g=r.andThen fun a w=>(f a w).andThen g:=by cases r<;>rfl
theorem V1 (d:Nat) {t:TypeId} (p q:Bool) (h:P.underlying t=some .bool) (w:World):(Op.equalIn (d+1) t (.bool p) (.bool q)).run P w= .ok (p==q) w:=by simp [Op.equalIn,run_underlying h]
theorem n8 {t:TypeId} (p q:Bool) (h:P.underlying t=some .bool) (w:World):(binOp .eql t (.bool p) (.bool q)).run P w= .ok (.bool (p==q)) w:=by simp only [binOp];simp [Op.equal,Op.maxDepth,V1 9999 p q h]
theorem nV {t:TypeId} (p q:Bool) (h:P.underlying t=some .bool) (w:World):(binOp .neq t (.bool p) (.bool q)).run P w= .ok (.bool (!(p==q))) w:=by simp only [binOp];simp [Op.equal,Op.maxDepth,V1 9999 p q h]
theorem LI {op:BinOp} {t ty:TypeId} {x y:Operand} (ho:o.op= .binOp op t x y ty) (w:World) {v u:Value} (hv:a.eval x=v) (hu:a.eval y=u):
  (execOp a.eval o).run P w=((do eqGuard op t x y v u;binOp op t v u:Sem Value).run P w).andThen fun v w=> .ok (.value v) w:=by
 simp only [execOp,ho,hv,hu,Sem.run_bind,l5,Sem.run_pure]
theorem Yw (h:Ba P c n nx sl hp a sl0 hp0 o gs) {op:BinOp} {t el:TypeId} {x y:Operand} {ty:TypeId} (ho:o.op= .binOp op t x y ty) (hu:P.underlying t=some (.slice el)) (r1:SR c [.bp] [a.eval x]) (r2:SR c [.bp] [a.eval y])
  (AB:op= .eql∨op= .neq):Ar P o c n nx sl hp gs a {val:= .e (.bool (op== .eql))}:=by
 have ex:=fun(v u:Value) (hv:a.eval x=v) (hu:a.eval y=u)=>LI (P:=P) (o:=o) ho c.w hv hu;generalize Ee:a.eval x=v1 at r1;generalize CL:a.eval y=v2 at r2;cases r1 with
 |bp _=>cases r2 with
  |bp _=>
   refine Ar.pure h (v:= .bool (op== .eql)) ?_ (.cr (.bool .nil)) rfl;rw [ex _ _ Ee CL,eqGuard_at_slice];rcases AB with rfl|rfl
   ·simp [run_eql_nil_slice c.w t el none 0 0 0 0 hu]
   ·simp [run_neq_nil_slice c.w t el none 0 0 0 0 hu]
theorem mH (h:Ba P c n nx sl hp a sl0 hp0 o gs) {op:BinOp} {t:TypeId} {x y:Operand} {ty:TypeId} (ho:o.op= .binOp op t x y ty) {s1 s2:SV} (r1:SR c [s1] [a.eval x]) (r2:SR c [s2] [a.eval y])
  {x' y':E} (Cg:Eh s1=some x') (Bc:Eh s2=some y') (hd:MN (.bin op x' y')=true→Cn.den c.ρ (.dfd (.bin op x' y'))) (fZ:op= .quo∨op= .rem→Cn.den c.ρ (.nz y')) (fX:op= .shl∨op= .shr→Cn.den c.ρ (.nn y')) {ck:List Cn}:
  Ar P o c n nx sl hp gs a {cd:=ck,val:= .e (.bin op x' y')}:=by
 obtain⟨f1,g1,_⟩:=FP r1 Cg;obtain⟨f2,g2,_⟩:=FP r2 Bc;obtain⟨k,k',p,q,e1,e2,JJ,e3,B6,hv,Eo⟩:=oF (op:=op) g1 g2 hd;refine Ar.pure h (v:=(CH op k p q).val) ?_ (.cr (by rw [e3];exact pR B6 _)) rfl;rw [LI ho c.w hv Eo,oI JJ (fun AB=> ?_) (fun AB=> ?_)]
 ·simp
 ·obtain⟨_,m,hm,Dj⟩:=fZ AB;rw [e2]at hm;cases hm;exact Dj
 ·obtain⟨_,m,hm,Dj⟩:=fX AB;rw [e2]at hm;cases hm;exact Dj
theorem lK (h:Ba P c n nx sl hp a sl0 hp0 o gs) {op:BinOp} {t:TypeId} {x y:Operand} {ty:TypeId} (ho:o.op= .binOp op t x y ty) {s1 s2:SV} (r1:SR c [s1] [a.eval x]) (r2:SR c [s2] [a.eval y])
  {x' y':E} (Cg:Eh s1=some x') (Bc:Eh s2=some y') (hd:Cn.den c.ρ (.dfd (.sbin op x' y'))) (CG:op= .add→Cn.den c.ρ (.roomS x' y')) {ck:List Cn}:
  Ar P o c n nx sl hp gs a {cd:=ck,val:= .e (.sbin op x' y')}:=by
 obtain⟨f1,g1,_⟩:=FP r1 Cg;obtain⟨f2,g2,_⟩:=FP r2 Bc;have hd:AV.sbin op (x'.den c.ρ) (y'.den c.ρ)≠ .undef:=hd;cases hx:x'.den c.ρ<;>cases hy:y'.den c.ρ<;>simp only [hx,hy,AV.sbin,ne_eq,not_true_eq_false]at hd;obtain⟨b1,Ee,rfl,_⟩:=M9 g1 hx;obtain⟨b2,CL,rfl,_⟩:=M9 g2 hy;have hle:op= .add→b1.size+b2.size≤9223372036854775807:=fun AB=>by obtain⟨p,q,hp,hq,hle⟩:=CG AB;rw [hx]at hp;rw [hy]at hq;cases hp;cases hq;simpa using hle
 refine Ar.pure h (v:=match op with| .add=> .string (b1++b2)|_=>(M7 op b1.data.toList b2.data.toList).val) ?_ (.cr ?_) rfl
 ·rw [LI ho c.w Ee CL,eqGuard_at_string];cases op<;>first
   |(exact absurd rfl hd)
   |(have:=hle rfl;simp [binOp,Op.stringOp];omega)
   |(simp [binOp,Op.stringOp,M7,AV.val,ByteArray.toList_eq,bne];done)
 ·simp only [E.den,hx,hy,AV.sbin];cases op<;>simp only [M7,AV.val,ne_eq,not_true_eq_false]at hd ⊢ <;>first
   |exact .bool .nil
   |(have:=hle rfl
     have h9:=Rd.str (w:=c.w) (s:=b1++b2) (by simpa using this) .nil;simpa using h9)
theorem lS (h:Ba P c n nx sl hp a sl0 hp0 o gs) {op:BinOp} {t:TypeId} {x y:Operand} {ty:TypeId} (ho:o.op= .binOp op t x y ty) (hu:P.underlying t=some .bool) {s1 s2:SV} (r1:SR c [s1] [a.eval x]) (r2:SR c [s2] [a.eval y])
  {x' y':E} (Cg:Eh s1=some x') (Bc:Eh s2=some y') (hd:Cn.den c.ρ (.dfd (.bbin op x' y'))) {ck:List Cn}:
  Ar P o c n nx sl hp gs a {cd:=ck,val:= .e (.bbin op x' y')}:=by
 obtain⟨f1,g1,_⟩:=FP r1 Cg;obtain⟨f2,g2,_⟩:=FP r2 Bc;have hd:AV.bbin op (x'.den c.ρ) (y'.den c.ρ)≠ .undef:=hd;cases hx:x'.den c.ρ<;>cases hy:y'.den c.ρ<;>simp only [hx,hy,AV.bbin,ne_eq,not_true_eq_false]at hd;rename_i p q;have Ee:=Gi g1 hx;have CL:=Gi g2 hy;refine Ar.pure h (v:=(AV.bbin op (.bool p) (.bool q)).val) ?_ (.cr ?_) rfl
 ·rw [LI ho c.w Ee CL,eqGuard_at_bool];cases op<;>simp only [ne_eq,not_true_eq_false]at hd
  ·simp [n8 p q hu,AV.bbin,AV.val]
  ·simp [nV p q hu,AV.bbin,AV.val,bne]
 ·simp only [E.den,hx,hy];cases op<;>simp only [AV.bbin,AV.val,ne_eq,not_true_eq_false]at hd ⊢ <;>exact .bool .nil
theorem sD (h:Ba P c n nx sl hp a sl0 hp0 o gs) {op:BinOp} {t:TypeId} {x y:Operand} {ty:TypeId} (ho:o.op= .binOp op t x y ty) (JQ: ∀fs,P.underlying t≠some (.struct fs)) (he:Bg P sg sl0 hp0 nv nx gs o=some e) (hq:e.bq=none) (hc: ∀q∈e.cd,Cn.den c.ρ q):Ar P o c n nx sl hp gs a e:=by
 have Dk:x∈o.op.operands:=by simp [ho,Op.operands]
 have CV:y∈o.op.operands:=by simp [ho,Op.operands]
 simp only [Bg,ho,Aq]at he;obtain⟨s1,Bq,s2,AQ,he⟩:=he;have r1:=h.cm Bq Dk;have r2:=h.cm AQ CV;unfold Ng at he;split at he
 ·rename_i el hu;split at he
  ·simp at he;subst he;exact Yw h ho hu r1 r2 (.inl rfl)
  ·simp at he;subst he;exact Yw h ho hu r1 r2 (.inr rfl)
  ·obtain⟨_,_,rfl⟩:=Ap.1 he;cases hq
  ·obtain⟨_,_,rfl⟩:=Ap.1 he;cases hq
  ·cases he
 ·rename_i kk hu;split at he
  ·rename_i x' y' Cg Bc;simp at he;subst he;exact mH h ho r1 r2 Cg Bc (fun hn=>hc _ (by simp [hn])) (fun AB=>hc _ (by rcases AB with rfl|rfl<;>simp)) (fun AB=>hc _ (by rcases AB with rfl|rfl<;>simp))
  ·cases he
 ·rename_i hu;split at he
  ·rename_i x' y' Cg Bc;simp at he;subst he;exact lK h ho r1 r2 Cg Bc (hc _ (by simp)) (fun AB=>hc _ (by subst AB;simp))
  ·cases he
 ·rename_i hu;split at he
  ·rename_i x' y' Cg Bc;simp at he;subst he;exact lS h ho hu r1 r2 Cg Bc (hc _ (by simp))
  ·cases he
 ·rename_i fs hu;exact absurd hu (JQ fs)
 ·cases he
end
section
variable {P:Program} {c:Cx} {n nx:Nat} {sl sl0:Nat→SV} {hp hp0:Nat→Option Af} {a:Act} {o:Oper} {gs:Gd} {e:AO} {sg:BB} {nv:Nat}
theorem Ps {t:TypeId} (h:CA P t=true) (cs:List Value) (off:Nat) (hle:off+P.cellsOf t≤cs.length) (hg:Ak P t=true∨P.cellsOf t=1) (w:World):
  (part t cs.toArray off).run P w= .ok (if Ak P t then .agg ((cs.drop off).take (P.cellsOf t)).toArray else((cs.drop off).take (P.cellsOf t)).headD Go.undef) w:=by
 cases ha:Ak P t with
 |true=>simp only [part,Sem.run_bind,Pl h,ha,Lv h,Result.andThen_ok,if_true,Sem.run_pure];congr 2;apply Array.ext';rw [Array.toList_extract];simp [Nat.add_sub_cancel_left,List.extract_eq_take_drop]
 |false=>
  have h1:P.cellsOf t=1:=by rcases hg with h'|h';rw [ha]at h';cases h';exact h'
  have AD:off<cs.length:=by omega
  have e1:(cs.drop off).take (P.cellsOf t)= [cs[off]]:=by rw [h1,List.drop_eq_getElem_cons AD,List.take_succ_cons,List.take_zero]
  rw [e1];simp [part,Pl h,ha,AD]
theorem o8 (h:Ba P c n nx sl hp a sl0 hp0 o gs) {t:TypeId} {x:Operand} {f:Nat} (ho:o.op= .field t x f) (he:Bg P sg sl0 hp0 nv nx gs o=some e) (hc: ∀q∈e.cd,Cn.den c.ρ q):Ar P o c n nx sl hp gs a e:=by
 have hm:x∈o.op.operands:=by simp [ho,Op.operands]
 simp only [Bg,ho,Aq]at he;obtain⟨s,hs,he⟩:=he;have hr:=h.cm hs hm;split at he
 ·rename_i fs hu;split at he
  ·rename_i fd hf;split at he
   ·cases he
   ·rename_i A8;have A8:CA P fd.type=true:=by simpa using A8
    have ex: ∀as_:List Value,a.eval x= .agg as_.toArray→(execOp a.eval o).run P c.w=((part fd.type as_.toArray fd.offset).run P c.w).andThen fun v w=> .ok (.value v) w:=fun as_ hv=>by simp [execOp,ho,Instr.field,run_underlying hu,hf,hv,asAgg]
    split at he
    ·rename_i cs;obtain⟨s2,AQ,rfl⟩:=Ap.1 he;generalize hv:a.eval x=v at hr;cases hr with
     |agg r8 r1 r9=>
      rename_i as_;have hlen:=r1.len;unfold LU at AQ;split at AQ
      ·rename_i As;split at AQ
       ·rename_i hle;simp at AQ;subst AQ;obtain⟨q1,q2⟩:=r1.split fd.offset;obtain⟨q3,q4⟩:=q2.split (P.cellsOf fd.type);have:=SR.agg (cs:=Be.of ((cs.toList.drop fd.offset).take (P.cellsOf fd.type))) (fun u hu=>r8 u (List.mem_of_mem_drop (List.mem_of_mem_take hu))) (by rw [Be.aq];exact q3) .nil;refine Ar.pure h (v:= .agg ((as_.drop fd.offset).take (P.cellsOf fd.type)).toArray) ?_ this rfl;rw [ex as_ hv,Ps A8 as_ fd.offset (by omega) (.inl As)];simp [As]
       ·cases AQ
      ·rename_i As;have As:Ak P fd.type=false:=by simpa using As
       obtain⟨u,Eo,r⟩:=r1.get AQ;refine Ar.pure h (v:=u) ?_ r rfl;rw [ex as_ hv];simp [part,Pl A8,As,Eo]
    ·rename_i y;split at he
     ·rename_i hh;obtain⟨hle,As⟩:=hh;simp at he;subst he;generalize hv:a.eval x=v at hr;cases hr with
      |e h1 h2 _=>
       rename_i f1;obtain⟨cs,Bp,At⟩:=Bu hc;obtain⟨as_,rfl,K7,CY⟩:=HK h1 Bp;have hlen:=CY.len;have EA:(y.den c.ρ).cells=cs:=by rw [Bp];rfl
       rw [←EA]at CY;obtain⟨q,g1,g2⟩:=CY.gl K7 fd.offset (P.cellsOf fd.type) (Ak P fd.type) (by rw [EA];omega) (fun hh=>by rcases As with h'|h';rw [hh]at h';cases h';exact h');refine Ar.pure h ?_ (.e (f:=q) (by simpa [E.den]using g2) (fun z hz=>h2 z (g1 z hz)) .nil) rfl;rw [ex as_ hv,Ps A8 as_ fd.offset (by omega) As];simp
     ·cases he
    ·rename_i b g m pth y;split at he
     ·rename_i hh;obtain⟨hle,As,Uw⟩:=hh;have hE:=MV h.eh h.gs Uw;generalize hv:a.eval x=v at hr;have F5:Cn.den c.ρ (.agg y (P.cellsOf t)):=by
       split at he<;>(simp only [Ae]at he;subst he;exact Bu hc)
      cases hr with
      |via h1 h2 h3 _=>
       obtain⟨⟨f1,p1,p2⟩,_⟩:=h3 hE;obtain⟨cs,Bp,At⟩:=F5;obtain⟨as_,rfl,K7,CY⟩:=HK p1 Bp;have hlen:=CY.len;have EA:(y.den c.ρ).cells=cs:=by rw [Bp];rfl
       rw [←EA]at CY;obtain⟨q,g1,g2⟩:=CY.gl K7 fd.offset (P.cellsOf fd.type) (Ak P fd.type) (by rw [EA];omega) (fun hh=>by rcases As with h'|h';rw [hh]at h';cases h';exact h');have AG:=ex as_ hv;rw [Ps A8 as_ fd.offset (by omega) As]at AG;simp only [Result.andThen_ok]at AG;have BC:Rd c.w _ [(E.fld y fd.offset (P.cellsOf fd.type) (Ak P fd.type)).den c.ρ] q:=g2;split at he
       ·simp only [Ae]at he;subst he;obtain⟨e1,e2,e3,e4⟩:=hc (.flat (.fld y fd.offset (P.cellsOf fd.type) (Ak P fd.type)) (P.cellsOf fd.type) (Ak P fd.type)) (by simp);have hq:q= []:=by
         cases hg:Ak P fd.type with
         |true=>obtain⟨cs,Bp⟩:=e3 hg;obtain⟨as_,_,_,r⟩:=HK BC Bp;exact FR r (by rw [Bp]at e2;exact e2)
         |false=>exact FR BC (by simpa using e4 hg)
        subst hq;exact Ar.pure h AG (.e BC (by simp) .nil) rfl
       ·simp only [Ae]at he;subst he;exact Ar.pure h AG (.via h1 h2 (fun _=>⟨⟨q,BC,fun z hz=>p2 z (g1 z hz)⟩,trivial⟩) .nil) rfl
     ·cases he
    ·cases he
  ·cases he
 ·cases he
theorem MP {v:Value} {x:AV} {m:Int} {w:World} {f:List Nat} (h:Rd w [v] [x] f) (hx:x.len= .int .i64 m):(∃a c,v= .slice a 0 c∧m=0)∨ ∃b o k c,v= .slice (some ⟨b,o,none⟩) k c∧m=k:=by
 rcases h.kind with h|h|h|h|h|h|h|h|h|h
 ·obtain⟨_,_,_,rfl,_⟩:=h;simp [AV.len]at hx
 ·obtain⟨_,_,rfl,_⟩:=h;simp [AV.len]at hx
 ·obtain⟨_,_,rfl,_⟩:=h;simp [AV.len]at hx
 ·obtain⟨q,r,rfl,rfl,_⟩:=h;simp [AV.len]at hx;exact .inl ⟨q,r,rfl,by omega⟩
 ·obtain⟨b,o,k,r,ys,_,_,_,_,_,_,rfl,rfl,_,_,_,_,hl,_⟩:=h;simp [AV.len]at hx;exact .inr ⟨b,o,k,r,rfl,by omega⟩
 ·obtain⟨_,_,_,rfl,_⟩:=h;simp [AV.len]at hx
 ·obtain⟨_,_,_,rfl,_⟩:=h;simp [AV.len]at hx
 ·obtain⟨_,_,_,_,_,_,_,rfl,_⟩:=h;simp [AV.len]at hx
 ·obtain⟨_,_,_,_,rfl,_⟩:=h;simp [AV.len]at hx
 ·obtain⟨_,rfl,_⟩:=h;simp [AV.len]at hx
theorem O8 {t el:TypeId} (hu:P.underlying t=some (.slice el)) (hz:P.cellsOf el≠0) {b off len cap:Nat} {kk:IntKind} {k:Int} (h0:0≤k) (h1:k<len) (w:World):
  (Instr.indexAt t (.slice (some ⟨b,off,none⟩) len cap) (.int kk k)).run P w= .ok (.pointer (some ⟨b,off+k.toNat*P.cellsOf el,none⟩)) w:=by
 simp [Instr.indexAt,run_underlying hu,asIntOf,h0,h1,Zh hz,Addr.add_lit]
theorem Zc (h:Ba P c n nx sl hp a sl0 hp0 o gs) {t:TypeId} {x i:Operand} (ho:o.op= .indexAddr t x i∨o.op= .index t x i) {s1 s2:SV} (Bq:Bo sl0 gs x=some s1) (AQ:Bo sl0 gs i=some s2)
  (AB:(∃el,P.underlying t=some (.slice el))→o.op= .indexAddr t x i) (Ue:P.underlying t=some .string→o.op= .index t x i)
  (he:Sl P hp0 gs t s1 s2=some e) (hc: ∀q∈e.cd,Cn.den c.ρ q):Ar P o c n nx sl hp gs a e:=by
 have Dk:x∈o.op.operands:=by rcases ho with ho|ho<;>simp [ho,Op.operands]
 have CV:i∈o.op.operands:=by rcases ho with ho|ho<;>simp [ho,Op.operands]
 have r1:=h.cm Bq Dk;have r2:=h.cm AQ CV;unfold Sl at he;split at he
 ·rename_i el k hu;have Oq:=AB ⟨el,hu⟩;have ex:(execOp a.eval o).run P c.w=((Instr.indexAt t (a.eval x) (a.eval i)).run P c.w).andThen fun v w=> .ok (.value v) w:=by simp [execOp,Oq]
  split at he
  ·cases he
  rename_i hz;obtain⟨fk,GA,_⟩: ∃f,Rd c.w [a.eval i] [k.den c.ρ] f∧ ∀b∈f,c.ok b:=by
   generalize a.eval i=v at r2;cases r2 with
   |e h1 h2 _=>exact⟨_,h1,h2⟩
  split at he
  ·rename_i b g;split at he
   ·rename_i e0 sz g' c0 d hl;split at he
    ·rename_i hh;obtain⟨rfl,rfl⟩:=hh;simp at he;subst he;obtain⟨kk,kv,m,e1,e2,e3,e4,e5⟩:=Bu hc;obtain⟨Hh,_⟩:=E6 GA e1;generalize hv:a.eval x=v at r1 ex;cases r1 with
     |own hK L2 _=>
      obtain⟨_,_,N,q1,q2,_,_⟩:=h.eh b _ (Ce hl h.gs);obtain⟨xs,B5,At,h0,A3⟩:=q1;rw [B5]at e3;simp only [AV.len,AV.int.injEq,true_and]at e3;rcases A3 with⟨rfl,_⟩|⟨g9,cap,C,hH,_⟩
      ·simp at e3;omega
      ·refine Ar.pure h (v:= .pointer (some ⟨g9,kv.toNat*P.cellsOf el+0,none⟩)) ?_ (.cg hK hH e1 e2 (by omega) .nil) rfl;rw [L2]at hH;cases hH;rw [ex,Hh,O8 hu hz e2 (by omega)];simp
    ·cases he
   ·rename_i g' c0 hl;split at he
    ·rename_i hh;subst hh;simp at he;subst he;obtain⟨kk,kv,m,e1,e2,e3,e4,e5⟩:=Bu hc;obtain⟨Hh,_⟩:=E6 GA e1;generalize hv:a.eval x=v at r1 ex;cases r1 with
     |own hK L2 _=>
      obtain⟨_,⟨f,q1,q2⟩,_,_⟩:=h.eh b _ (Ce hl h.gs);rcases MP q1 e3 with⟨_,_,_,hm⟩|⟨b9,off9,len9,cap9,hH,hm⟩
      ·omega
      ·rw [L2]at hH;cases hH;rw [L2]at q1;refine Ar.pure h (v:= .pointer (some ⟨b9,off9+kv.toNat*P.cellsOf el+0,none⟩)) ?_ (.cz q1 q2 e1 e2 (by omega) e5 .nil) rfl;rw [ex,Hh,O8 hu hz e2 (by omega)];simp
    ·cases he
   ·rename_i e0 sz dl g' ep c0 hl;split at he
    ·rename_i hh;obtain⟨rfl,rfl⟩:=hh;simp at he;subst he;obtain⟨kk,kv,m,e1,e2,e3,e4,e5⟩:=Bu hc;obtain⟨Hh,_⟩:=E6 GA e1;generalize hv:a.eval x=v at r1 ex;cases r1 with
     |own hK L2 _=>
      obtain⟨_,_,_,q1,_⟩:=h.eh b _ (Ce hl h.gs);obtain⟨_,_,⟨a9,d3,d4,_⟩|⟨g9,cap,C,ys,N1,hH,d4,_⟩⟩:=q1.inv
      ·rw [d4]at e3;simp [AV.len]at e3;omega
      ·rw [d4]at e3;simp only [AV.len,AV.int.injEq,true_and]at e3;refine Ar.pure h (v:= .pointer (some ⟨g9,kv.toNat*P.cellsOf el+0,none⟩)) ?_ (.cg hK hH e1 e2 (by omega) .nil) rfl;rw [L2]at hH;cases hH;rw [ex,Hh,O8 hu hz e2 (by omega)];simp
    ·cases he
   ·cases he
  ·rename_i y;simp at he;subst he;obtain⟨kk,kv,m,e1,e2,e3,e4,e5⟩:=Bu hc;obtain⟨Hh,_⟩:=E6 GA e1;generalize hv:a.eval x=v at r1 ex;cases r1 with
   |e q1 q2 _=>
    rcases MP q1 e3 with⟨_,_,_,hm⟩|⟨b9,off9,len9,cap9,rfl,hm⟩
    ·omega
    ·refine Ar.pure h (v:= .pointer (some ⟨b9,off9+kv.toNat*P.cellsOf el+0,none⟩)) ?_ (.cz q1 q2 e1 e2 (by omega) e5 .nil) rfl;rw [ex,Hh,O8 hu hz e2 (by omega)];simp
  ·rename_i b g m pth y;split at he
   ·rename_i Uw;simp at he;subst he;have hE:=MV h.eh h.gs Uw;obtain⟨kk,kv,mm,e1,e2,e3,e4,e5⟩:=Bu hc;obtain⟨Hh,_⟩:=E6 GA e1;generalize hv:a.eval x=v at r1 ex;cases r1 with
    |via q1 q2 q3 _=>
     obtain⟨⟨f,p1,p2⟩,p3⟩:=q3 hE;rcases MP p1 e3 with⟨_,_,_,hm⟩|⟨b9,off9,len9,cap9,rfl,hm⟩
     ·omega
     ·refine Ar.pure h (v:= .pointer (some ⟨b9,off9+kv.toNat*P.cellsOf el+0,none⟩)) ?_ (.vptr q1 q2 (fun _=>⟨b9,off9,len9,cap9,kk,kv,⟨f,p1,p2⟩,p3,e1,e2,by omega,e5,rfl⟩) .nil) rfl;rw [ex,Hh,O8 hu hz e2 (by omega)];simp
   ·cases he
  ·cases he
 ·rename_i k hu;have Oq:=Ue hu;obtain⟨fk,GA,_⟩: ∃f,Rd c.w [a.eval i] [k.den c.ρ] f∧ ∀b∈f,c.ok b:=by
   generalize a.eval i=v at r2;cases r2 with
   |e h1 h2 _=>exact⟨_,h1,h2⟩
  split at he
  ·rename_i y;simp at he;subst he;obtain⟨kk,kv,s,e1,e2,e3,e4⟩:=Bu hc;obtain⟨Hh,_⟩:=E6 GA e1;generalize hv:a.eval x=v at r1;cases r1 with
   |e q1 q2 _=>
    obtain⟨bs,rfl,rfl,hle⟩:=M9 q1 e2;have AD:kv.toNat<bs.data.toList.length:=by omega
    have TZ:kv.toNat<bs.size:=by simpa using AD
    refine Ar.pure h (v:= .int .u8 (bs[kv.toNat]).toNat) ?_ (.cr ?_) rfl
    ·simp [execOp,Oq,Instr.index,hv,Hh,asIntOf,run_underlying hu,e3,TZ]
    ·simp only [E.den,e1,e2,AV.sidx];have:bs.data.toList[kv.toNat]?=some (bs[kv.toNat]):=by
      rw [List.getElem?_eq_getElem AD];simp [ByteArray.getElem_eq_getElem_data]
     rw [this];refine .int ?_ .nil;rw [LD];have:=(bs[kv.toNat]).toNat_lt;simp [IntKind.min,IntKind.max,IntKind.signed,IntKind.bits];omega
  ·cases he
 ·cases he
theorem kC (h:Ba P c n nx sl hp a sl0 hp0 o gs) {t:TypeId} {x i:Operand} (ho:o.op= .indexAddr t x i) (JQ:P.underlying t≠some .string) (he:Bg P sg sl0 hp0 nv nx gs o=some e) (hc: ∀q∈e.cd,Cn.den c.ρ q):Ar P o c n nx sl hp gs a e:=by
 simp only [Bg,ho,Aq]at he;obtain⟨s1,Bq,s2,AQ,he⟩:=he;split at he
 ·cases he
 exact Zc h (.inl ho) Bq AQ (fun _=>ho) (fun hh=>absurd hh JQ) he hc
theorem mO (h:Ba P c n nx sl hp a sl0 hp0 o gs) {t:TypeId} {x i:Operand} (ho:o.op= .index t x i) (JQ:P.underlying t=some .string) (he:Bg P sg sl0 hp0 nv nx gs o=some e) (hc: ∀q∈e.cd,Cn.den c.ρ q):Ar P o c n nx sl hp gs a e:=by
 simp only [Bg,ho,Aq]at he;obtain⟨s1,Bq,s2,AQ,he⟩:=he;split at he
 ·exact Zc h (.inr ho) Bq AQ (fun⟨el,hh⟩=>by rw [JQ]at hh;cases hh) (fun _=>ho) he hc
 ·cases he
theorem mS (h:Ba P c n nx sl hp a sl0 hp0 o gs) {x:Operand} {i:Nat} (ho:o.op= .extract x i) (he:Bg P sg sl0 hp0 nv nx gs o=some e) (hc: ∀q∈e.cd,Cn.den c.ρ q):Ar P o c n nx sl hp gs a e:=by
 have hm:x∈o.op.operands:=by simp [ho,Op.operands]
 simp only [Bg,ho,Aq]at he;obtain⟨s,hs,he⟩:=he;have hr:=h.cm hs hm;generalize hv:a.eval x=v at hr;have ex: ∀(as_:List Value) u,v= .tuple as_.toArray→as_[i]?=some u→(execOp a.eval o).run P c.w= .ok (.value u) c.w:=fun as_ u Uv hu=>by simp [execOp,ho,Instr.extract,hv,Uv,hu]
 split at he
 ·rename_i vs;obtain⟨s2,AQ,rfl⟩:=Ap.1 he;cases hr with
  |tup r1 r9=>obtain⟨u,hu,r⟩:=r1.get AQ;exact Ar.pure h (ex _ u rfl hu) r rfl
 ·rename_i y;simp at he;subst he;cases hr with
  |e q1 q2 _=>
   have hd:(y.den c.ρ).proj i≠ .undef:=Bu hc;cases hy:y.den c.ρ<;>simp only [hy,AV.proj,ne_eq,not_true_eq_false]at hd;rename_i cs;obtain⟨as_,rfl,r1⟩:=tW q1 hy;cases Tq:cs[i]? with
   |none=>simp [Tq]at hd
   |some z=>obtain⟨u,g,hu,hg,CZ⟩:=r1.at Tq;exact Ar.pure h (ex as_ u rfl hu) (.e (f:=g) (by simpa [E.den,hy,AV.proj,Tq]using CZ) (fun b hb=>q2 b (hg b hb)) .nil) rfl
 ·cases he
theorem rL (h:Ba P c n nx sl hp a sl0 hp0 o gs) {x:Operand} {t:TypeId} (ho:o.op= .unOp .not t x) (he:Bg P sg sl0 hp0 nv nx gs o=some e) (hc: ∀q∈e.cd,Cn.den c.ρ q):Ar P o c n nx sl hp gs a e:=by
 have hm:x∈o.op.operands:=by simp [ho,Op.operands]
 simp only [Bg,ho,Aq,Ap]at he;obtain⟨s,hs,y,hy,he⟩:=he;obtain⟨f,q1,_⟩:=FP (h.cm hs hm) hy;split at he
 ·subst he;have hv:=Gi q1 rfl;rename_i b;exact Ar.pure h (v:= .bool (!b)) (by simp [execOp,ho,hv,Op.unary]) (.cr (.bool .nil)) rfl
 ·subst he;have hd:(y.den c.ρ).dv≠ .undef:=Bu hc;cases Bc:y.den c.ρ<;>simp only [Bc,AV.dv,ne_eq,not_true_eq_false]at hd;have hv:=Gi q1 Bc;rename_i b;exact Ar.pure h (v:= .bool (!b)) (by simp [execOp,ho,hv,Op.unary]) (.cr (by simp only [E.den,Bc,AV.dv];exact .bool .nil)) rfl
theorem qQ (h:Ba P c n nx sl hp a sl0 hp0 o gs) {x:Operand} {t:TypeId} (ho:o.op= .unOp .neg t x) (he:Bg P sg sl0 hp0 nv nx gs o=some e) (hc: ∀q∈e.cd,Cn.den c.ρ q):Ar P o c n nx sl hp gs a e:=by
 have hm:x∈o.op.operands:=by simp [ho,Op.operands]
 simp only [Bg,ho,Aq,Ap]at he;obtain⟨s,hs,y,hy,rfl⟩:=he;obtain⟨f,q1,_⟩:=FP (h.cm hs hm) hy;have hd:(y.den c.ρ).gn≠ .undef:=Bu hc;cases Bc:y.den c.ρ<;>simp only [Bc,AV.gn,ne_eq,not_true_eq_false]at hd;rename_i k m;obtain⟨hv,_⟩:=E6 q1 Bc;exact Ar.pure h (v:= .int k (k.wrap (0-m))) (by simp [execOp,ho,hv,Op.unary,Op.intArith]) (.cr (by simp only [E.den,Bc,AV.gn];exact .int (Wq _ _) .nil)) rfl
theorem bG {L:List Operand} {sl0:Nat→SV} {gs:Gd} (h: ∀x s,Bo sl0 gs x=some s→x∈L→SR c [s] [a.eval x]): ∀{xs:List Operand} {ss:List SV},(∀x∈xs,x∈L)→xs.mapM (Bo sl0 gs)=some ss→SR c ss (xs.map a.eval)
 | [],ss,_,hm=>by simp at hm;subst hm;exact .nil
 |x::xs,ss,hL,hm=>by rw [List.mapM_cons]at hm;simp only [Option.bind_eq_bind,Aq]at hm;obtain⟨s,hs,ss',ES,hm⟩:=hm;simp at hm;subst hm;exact(h x s hs (hL x (by simp))).app (bG h (fun y hy=>hL y (by simp [hy])) ES)
theorem lL (h:Ba P c n nx sl hp a sl0 hp0 o gs) {f:FuncId} {fst caps:Array Operand} (ho:o.op= .makeFunc (.func f) fst caps) (he:Bg P sg sl0 hp0 nv nx gs o=some e):Ar P o c n nx sl hp gs a e:=by
 simp only [Bg,ho]at he;split at he
 ·rename_i hf;obtain⟨ss,ES,rfl⟩:=Ap.1 he;have hf:fst= #[]:=by simpa using hf
  have r:=bG (a:=a) (c:=c) (L:=caps.toList) (fun x s hx hm=>h.cm hx (by simp only [ho,Op.operands,Array.mem_append];exact .inr (Array.mem_toList_iff.1 hm))) (fun x hx=>hx) ES;refine Ar.pure h (v:= .func (.func f) #[] (caps.toList.map a.eval).toArray) ?_ (.fn (by rw [Be.aq];exact r) .nil) rfl;simp [execOp,ho,Instr.makeFunc,hf];apply Array.ext';simp
 ·cases he
end
section
variable {P:Program} {c:Cx} {n nx:Nat} {sl sl0:Nat→SV} {hp hp0:Nat→Option Af} {a:Act} {o:Oper} {gs:Gd} {e:AO} {sg:BB} {nv:Nat}
theorem Ba.iy (h:Ba P c n nx sl hp a sl0 hp0 o gs) {x:Operand} {s:SV} (hs:Bo sl0 gs x=some s) (hm:x∈o.op.operands) {y:E} (hy:A9 hp0 gs AK s=some y):
  ∃f,Rd c.w [a.eval x] [y.den c.ρ] f∧ ∀b∈f,c.dj (Bt hp0 gs (AK+1) [s]) b:=FV h.eh h.gs AK hy (h.cm hs hm) AK (Nat.le_refl _)
theorem sN (h:Ba P c n nx sl hp a sl0 hp0 o gs) {x:Operand} {t:TypeId} {cl:Call} (ho:o.op= .call cl) (At:cl.callee= .builtin .len) (Ct:cl.args.toList= [x]) (Dv:cl.argTypes.toList= [t]) (he:Bg P sg sl0 hp0 nv nx gs o=some e) (hc: ∀q∈e.cd,Cn.den c.ρ q):Ar P o c n nx sl hp gs a e:=by
 have Az:cl.args= #[x]:=by apply Array.ext';simp [Ct]
 have Fu:cl.argTypes= #[t]:=by apply Array.ext';simp [Dv]
 have hm:x∈o.op.operands:=by simp [ho,Op.operands,Call.operands,At,Az]
 simp only [Bg,ho,At,Ct,Dv,Aq]at he;obtain⟨s,hs,he⟩:=he;unfold cJ at he;have ex:(execOp a.eval o).run P c.w=((Builtin.len_ #[t] o.type #[a.eval x]).run P c.w).andThen fun v w=> .ok (.value v) w:=by simp [execOp,ho,resolve,At,Az,Fu,invoke,builtin]
 split at he
 ·rename_i el hu;obtain⟨y,hy,rfl⟩:=Ap.1 he;obtain⟨f,q1,q2⟩:=h.iy hs hm hy;have hd:(y.den c.ρ).len≠ .undef:=Bu hc;cases Bc:y.den c.ρ<;>simp only [Bc,AV.len,ne_eq,not_true_eq_false]at hd;rename_i xs;have hl:(y.den c.ρ).len= .int .i64 (xs.length:Int):=by rw [Bc];rfl
  have B6:D7 .i64 (xs.length:Int):=by
   rw [LD];rcases q1.kind with hh|hh|hh|hh|hh|hh|hh|hh|hh|hh
   all_goals first
    |(obtain⟨_,_,_,hh,_⟩:=hh;rw [Bc]at hh;cases hh;done)
    |(obtain⟨_,_,hh,_⟩:=hh;rw [Bc]at hh;cases hh;done)
    |skip
   ·obtain⟨_,_,_,hh,_⟩:=hh;rw [Bc]at hh;cases hh;simp [IntKind.min,IntKind.max,IntKind.signed,IntKind.bits]
   ·obtain⟨_,_,_,_,_,_,_,_,_,_,_,_,hh,_,_,_,hle,hlen,_⟩:=hh;rw [Bc]at hh;cases hh;simp [IntKind.min,IntKind.max,IntKind.signed,IntKind.bits];omega
   all_goals first
    |(obtain⟨_,_,_,hh,_⟩:=hh;rw [Bc]at hh;cases hh;done)
    |(obtain⟨_,_,_,_,_,_,_,hh,_⟩:=hh;rw [Bc]at hh;cases hh;done)
    |(obtain⟨_,_,_,_,hh,_⟩:=hh;rw [Bc]at hh;cases hh;done)
    |(obtain⟨_,hh,_⟩:=hh;rw [Bc]at hh;cases hh;done)
  refine Ar.pure h (v:= .int .i64 xs.length) ?_ (.cr (by simp only [E.den,Bc,AV.len];exact .int B6 .nil)) rfl;rcases MP q1 hl with⟨p,q,hv,Dj⟩|⟨b,o',k,q,hv,Dj⟩
  ·rw [ex,hv,Dj];simp [Builtin.len_,run_underlying hu,goInt]
  ·rw [ex,hv,Dj];simp [Builtin.len_,run_underlying hu,goInt]
 ·rename_i hu;obtain⟨y,hy,rfl⟩:=Ap.1 he;obtain⟨f,q1,q2⟩:=h.iy hs hm hy;have hd:(y.den c.ρ).slen≠ .undef:=Bu hc;cases Bc:y.den c.ρ<;>simp only [Bc,AV.slen,ne_eq,not_true_eq_false]at hd;obtain⟨bs,hv,rfl,hle⟩:=M9 q1 Bc;refine Ar.pure h (v:= .int .i64 bs.size) ?_ (.cr ?_) rfl
  ·rw [ex,hv];simp [Builtin.len_,run_underlying hu,goInt]
  ·simp only [E.den,Bc,AV.slen];have:(bs.data.toList.length:Int)=(bs.size:Int):=by simp
   rw [this];refine .int ?_ .nil;rw [LD];simp [IntKind.min,IntKind.max,IntKind.signed,IntKind.bits];omega
 ·cases he
theorem mP (h:Ba P c n nx sl hp a sl0 hp0 o gs) {x:Operand} {src dst:TypeId} {k0 k:IntKind} (ho:o.op= .convert src dst x) (h1:P.underlying src=some (.int k0)) (h2:P.underlying dst=some (.int k)) (he:Bg P sg sl0 hp0 nv nx gs o=some e) (hc: ∀q∈e.cd,Cn.den c.ρ q):Ar P o c n nx sl hp gs a e:=by
 have hm:x∈o.op.operands:=by simp [ho,Op.operands]
 simp only [Bg,ho,Aq]at he;obtain⟨s,hs,he⟩:=he;simp only [Pv,h1,h2,Ap]at he;obtain⟨y,hy,rfl⟩:=he;obtain⟨f,q1,_⟩:=FP (h.cm hs hm) hy;have hd:(y.den c.ρ).conv k≠ .undef:=Bu hc;cases Bc:y.den c.ρ<;>simp only [Bc,AV.conv,ne_eq,not_true_eq_false]at hd;rename_i k1 m;obtain⟨hv,_⟩:=E6 q1 Bc;exact Ar.pure h (v:= .int k (k.wrap m)) (by simp [execOp,ho,hv,convert,run_underlying h1,run_underlying h2,Conv.intToInt]) (.cr (by simp only [E.den,Bc,AV.conv];exact .int (Wq _ _) .nil)) rfl
theorem lJ (h:Ba P c n nx sl hp a sl0 hp0 o gs) {x:Operand} {src dst:TypeId} (ho:o.op= .convert src dst x) (h1:P.underlying src=some .string) (h2:P.underlying dst=some .string) (he:Bg P sg sl0 hp0 nv nx gs o=some e) (hc: ∀q∈e.cd,Cn.den c.ρ q):Ar P o c n nx sl hp gs a e:=by
 have hm:x∈o.op.operands:=by simp [ho,Op.operands]
 simp only [Bg,ho,Aq]at he;obtain⟨s,hs,he⟩:=he;simp only [Pv,h1,h2,Ap]at he;obtain⟨y,hy,rfl⟩:=he;obtain⟨f,q1,_⟩:=FP (h.cm hs hm) hy;have hd:(y.den c.ρ).slen≠ .undef:=Bu hc;cases hl:y.den c.ρ<;>simp only [hl,AV.slen,ne_eq,not_true_eq_false]at hd;obtain⟨bs,hv,hle,TX⟩:=M9 q1 hl;exact Ar.pure h (v:= .string bs) (by simp [execOp,ho,hv,convert,run_underlying h1,run_underlying h2]) (.cr (by rw [hl,hle];exact Rd.str TX .nil)) rfl
theorem cG {w:World}: ∀{ys:List AV} {s:List UInt8} {cs:List Value} {f:List Nat},J4 ys=some s→Rd w cs (AH ys) f→ ∃ns:List Int,cs=ns.map (Value.int .u8)∧s=ns.map (fun n=>UInt8.ofNat n.toNat)∧ns.length=ys.length
 | [],s,cs,f,h,hr=>by have:AH ([]:List AV)= []:=rfl;rw [this]at hr;cases hr;cases h;exact⟨[],rfl,rfl,rfl⟩
 |y::ys,s,cs,f,h,hr=>by
  unfold J4 at h;split at h
  ·rename_i h0;cases h0
  ·rename_i n xs he;cases he;obtain⟨s',h1,rfl⟩:=Ap.1 h;have CX:Rd w cs (.int .u8 n::AH ys) f:=by simpa [AH,AV.cells]using hr
   cases CX with
   |int hk CY=>obtain⟨ns,rfl,rfl,hl⟩:=cG h1 CY;exact⟨n::ns,rfl,rfl,by simp [hl]⟩
  ·cases h
theorem l7 (h:Ba P c n nx sl hp a sl0 hp0 o gs) {x:Operand} {src dst el:TypeId} (ho:o.op= .convert src dst x) (h1:P.underlying src=some (.slice el)) (h2:P.underlying dst=some .string) (he:Bg P sg sl0 hp0 nv nx gs o=some e) (hc: ∀q∈e.cd,Cn.den c.ρ q):Ar P o c n nx sl hp gs a e:=by
 have hm:x∈o.op.operands:=by simp [ho,Op.operands]
 simp only [Bg,ho,Aq]at he;obtain⟨s,hs,he⟩:=he;simp only [Pv,h1,h2]at he;split at he
 ·rename_i hu;obtain⟨y,hy,rfl⟩:=Ap.1 he;obtain⟨f,q1,q2⟩:=h.iy hs hm hy;have hd:(y.den c.ρ).text≠ .undef:=Bu hc;cases Bc:y.den c.ρ<;>simp only [Bc,AV.text,ne_eq,not_true_eq_false]at hd;rename_i xs;split at hd
  ·rename_i t ht;split at hd
   ·rename_i hle;have BC:(E.text y).den c.ρ= .str t:=by
     simp only [E.den,Bc,AV.text,ht];rw [if_pos hle]
    have fin: ∀ns:List Int,t=ns.map (fun n=>UInt8.ofNat n.toNat)→ns.length=xs.length→(convert src dst (a.eval x)).run P c.w= .ok (.string (ns.foldl (fun r n=>r.push (UInt8.ofNat n.toNat)) ByteArray.empty)) c.w→Ar P o c n nx sl hp gs a {cd:= [.dfd (.text y)],val:= .e (.text y)}:=fun ns e1 e2 e3=>by
     have e4:(ns.foldl (fun r n=>r.push (UInt8.ofNat n.toNat)) ByteArray.empty)=⟨t.toArray⟩:=by
      rw [foldl_push_bytes,e1];simp [ByteArray.empty,ByteArray.emptyWithCapacity]
      try rfl
     rw [e4]at e3;refine Ar.pure h (v:= .string ⟨t.toArray⟩) (by simp [execOp,ho,e3]) (.cr ?_) rfl;rw [BC];have BU:(ByteArray.mk t.toArray).size≤9223372036854775807:=by simp only [ByteArray.size,List.size_toArray];rw [e1,List.length_map];omega
     have:=Rd.str (w:=c.w) (s:=⟨t.toArray⟩) BU .nil;simpa using this
    rw [Bc]at q1;rcases q1.kind with hh|hh|hh|hh|hh|hh|hh|hh|hh|hh
    all_goals first
     |(obtain⟨_,_,_,hh,_⟩:=hh;cases hh;done)
     |(obtain⟨_,_,hh,_⟩:=hh;cases hh;done)
     |skip
    ·obtain⟨p,q,hv,hx,_⟩:=hh;cases hx;cases ht;refine fin [] rfl rfl ?_;rw [hv];cases p with
     |none=>rw [run_convert_bytes_nil c.w src el h1 hu _ _ dst h2];rfl
     |some ad=>rw [run_convert_bytes_string c.w src dst el _ 0 q h1 hu h2,run_bytesToString c.w ad 0 q [] (by simp [loadCells,loadCellsFrom])]
    ·obtain⟨b,o',k,q,ys,cs,C,t',fz,sz,f1,hv,hx,_,hb,_,fO,hlen,_,_,Bp,hr⟩:=hh;cases hx;obtain⟨ns,rfl,e1,e2⟩:=cG ht hr.2;refine fin ns e1 e2 ?_;have hl:ns.length=k:=by omega
     have BS: ∀i,i<k→c.w.cell? ⟨b,o'+i,none⟩=some (.int .u8 (ns.getD i 0)):=fun i hi=>by
      have Hf:i<ns.length:=by omega
      have:=Bp i (.int .u8 ns[i]) (by simp [Hf]);rw [DS hb,this];simp [Hf]
     have:=run_convert_bytes_arg c.w src el h1 hu b o' k q ns hl BS dst h2;rw [hv,this];congr 2;rw [foldl_push_bytes];simp [strOfNums,ByteArray.empty,ByteArray.emptyWithCapacity]
     try rfl
    all_goals first
     |(obtain⟨_,_,_,hh,_⟩:=hh;cases hh;done)
     |(obtain⟨_,_,_,_,_,_,_,hh,_⟩:=hh;cases hh;done)
     |(obtain⟨_,_,_,_,hh,_⟩:=hh;cases hh;done)
     |(obtain⟨_,hh,_⟩:=hh;cases hh;done)
   ·exact absurd rfl hd
  ·exact absurd rfl hd
 ·cases he
theorem ZI {ρ:List AV} {x:E} {b:Bool} {gs:Gd} (h1:x.den ρ= .bool b) (h2:A2 ρ gs):A2 ρ ((x,b)::gs):=by
 intro g hg;rcases Ad.1 hg with rfl|hg
 ·exact h1
 ·exact h2 g hg
theorem oT (h:Ba P c n nx sl hp a sl0 hp0 o gs) {x y z:Operand} (ho:o.op= .pick x y z) (he:Bg P sg sl0 hp0 nv nx gs o=some e) (hc: ∀q∈e.cd,Cn.den c.ρ q):Ar P o c n nx sl hp gs a e:=by
 have Dk:x∈o.op.operands:=by simp [ho,Op.operands]
 have CV:y∈o.op.operands:=by simp [ho,Op.operands]
 have XQ:z∈o.op.operands:=by simp [ho,Op.operands]
 simp only [Bg,ho,Aq]at he;obtain⟨s,hs,he⟩:=he;have hr:=h.cm hs Dk;split at he
 ·rename_i q;have ex: ∀b,a.eval x= .bool b→(execOp a.eval o).run P c.w= .ok (.value (if b then a.eval y else a.eval z)) c.w:=fun b hb=>by
   simp [execOp,ho,hb,asBool]
  obtain⟨f,q1⟩: ∃f,Rd c.w [a.eval x] [q.den c.ρ] f:=by
   generalize a.eval x=v at hr;cases hr with
   |e h1 _ _=>exact⟨_,h1⟩
  unfold bN at he;split at he
  ·obtain⟨s',A5,rfl⟩:=Ap.1 he;exact Ar.pure h (v:=a.eval y) (ex true (Gi q1 rfl)) (h.cm A5 CV) rfl
  ·obtain⟨s',A5,rfl⟩:=Ap.1 he;exact Ar.pure h (v:=a.eval z) (ex false (Gi q1 rfl)) (h.cm A5 XQ) rfl
  ·split at he
   ·rename_i y' z' hy hz;simp at he;subst he;simp only [Aq]at hy hz;obtain⟨sy,gN,hy⟩:=hy;obtain⟨sz,BU,hz⟩:=hz;have hd:(q.den c.ρ).dv≠ .undef:=Bu hc;cases hq:q.den c.ρ<;>simp only [hq,AV.dv,ne_eq,not_true_eq_false]at hd;rename_i b;cases b with
    |true=>have r:=Ro (a:=a) gN (fun t ht=>by subst ht;rw [h.sl t CV];exact h.rel.ct t) (ZI hq h.gs);obtain⟨f',g1,g2⟩:=FP r hy;exact Ar.pure h (v:=a.eval y) (ex true (Gi q1 hq)) (.e (f:=f') (by simpa [E.den,hq,AV.cond]using g1) g2 .nil) rfl
    |false=>have r:=Ro (a:=a) BU (fun t ht=>by subst ht;rw [h.sl t XQ];exact h.rel.ct t) (ZI hq h.gs);obtain⟨f',g1,g2⟩:=FP r hz;exact Ar.pure h (v:=a.eval z) (ex false (Gi q1 hq)) (.e (f:=f') (by simpa [E.den,hq,AV.cond]using g1) g2 .nil) rfl
   ·cases he
 ·cases he
end
section
variable {P:Program} {c:Cx} {n nx:Nat} {sl sl0:Nat→SV} {hp hp0:Nat→Option Af} {a:Act} {o:Oper} {gs:Gd} {e:AO} {sg:BB} {nv:Nat}
theorem Vw {w:World} {v:Value} {x:AV} {f:List Nat} (h:Rd w [v] [x] f) (h1: ∀cs,x≠ .agg cs) (h2: ∀cs,x≠ .tup cs):v.oneCell'=true:=by
 cases h<;>first
  |rfl
  |exact absurd rfl (h1 _)
  |exact absurd rfl (h2 _)
theorem one_cells {v:Value} (h:v.oneCell'=true):v.cells= #[v]:=by cases v<;>first|rfl|(simp [Value.oneCell']at h)
theorem RY {t:TypeId} {s:SV} {v:Value} {cs:List SV} {ck:List Cn} (h:SR c [s] [v]) (hc:M0 P t s=some (cs,ck)) (hk: ∀q∈ck,q.den c.ρ):
  SR c cs v.cells.toList∧(∀u∈v.cells.toList,u.oneCell'=true):=by
 unfold M0 at hc;split at hc
 ·split at hc
  ·simp at hc;obtain⟨rfl,rfl⟩:=hc;cases h with
   |agg h1 h2 _=>exact⟨by simpa [Value.cells]using h2,by simpa [Value.cells]using h1⟩
  ·rename_i x;simp at hc;obtain⟨rfl,rfl⟩:=hc;cases h with
   |e h1 h2 _=>
    obtain⟨as_,has,hl⟩:=Bu hk;obtain⟨vs,rfl,h3,h4⟩:=HK h1 has;refine⟨?_,by simpa [Value.cells]using h3⟩;have hlen:=h4.len;have key: ∀k,k≤as_.length→SR c ((List.range k).map fun j=>SV.e (.fld x j 1 false)) (vs.take k):=by
     intro k
     induction k with
     |zero=>intro _;simpa using SR.nil
     |succ k ih=>
      intro hk;have Bw:k<as_.length:=by omega
      obtain⟨u,g,hu,hg,hr⟩:=h4.at (show as_[k]?=some as_[k] by simp [Bw])
      rw [List.range_succ,List.map_append,List.take_succ_eq_append_getElem (by omega)];refine(ih (by omega)).app ?_;have Eo:vs[k]'(by omega)=u:=by simpa [show k<vs.length by omega]using hu
      rw [Eo];exact .e (f:=g) (by simpa [E.den,AV.fld,has,AV.cells,Bw]using hr) (fun b hb=>h2 b (hg b hb)) .nil
    have:=key as_.length (Nat.le_refl _);rw [←hlen,List.take_length,hlen,hl]at this;simpa [Value.cells]using this
  ·cases hc
 ·split at hc
  ·rename_i x;simp at hc;obtain⟨rfl,rfl⟩:=hc;cases h with
   |e h1 h2 _=>
    have hq:(∀cs,x.den c.ρ≠ .agg cs)∧ ∀cs,x.den c.ρ≠ .tup cs:=by
     cases x<;>first
      |exact(Bu hk:Cn.den c.ρ (.cells _ 1))
      |exact⟨by simp [E.den],by simp [E.den]⟩
    have NB:=Vw h1 hq.1 hq.2;rw [one_cells NB];exact⟨.e h1 h2 .nil,by simpa using NB⟩
  ·cases hc
  ·cases hc
  ·cases hc
  ·cases hc
  ·cases hc
  ·cases hc
  ·cases hc
  ·cases hc
  ·simp at hc;obtain⟨rfl,rfl⟩:=hc;have NB:v.oneCell'=true:=by
    cases h<;>first|rfl|(rename_i hh _ _ _ _ _;exact absurd rfl (hh _))|skip
    all_goals first
     |rfl
     |exact(show∀(i:Nat),SV.lent _=SV.lent i→False from by assumption) _ rfl|>.elim
     |exact(show∀(t g n:Nat) (p:KE) (x:E),SV.via _ _ _ _ _=SV.via t g n p x→False from by assumption) _ _ _ _ _ rfl|>.elim
     |exact(show∀(t g n:Nat) (p:KE) (x i:E) (sz o:Nat),SV.vptr _ _ _ _ _ _ _ _=SV.vptr t g n p x i sz o→False from by assumption) _ _ _ _ _ _ _ _ rfl|>.elim
     |(exfalso;simp_all;done)
   rw [one_cells NB];exact⟨h,by simpa using NB⟩
theorem tD (h:Ba P c n nx sl hp a sl0 hp0 o gs) (ob:Obj) (hv:Value):Kw c (c.new nx ob hv []) nx:=
 ⟨rfl,rfl,rfl,rfl,fun t ht=>ht.imp id (fun hh=>by subst hh;exact⟨Nat.le_refl _,by simp [Bj]⟩)⟩
theorem LC (h:Ba P c n nx sl hp a sl0 hp0 o gs): ¬c.U nx:=h.new nx (Nat.le_refl _) (by omega)
theorem Ar.box (h:Ba P c n nx sl hp a sl0 hp0 o gs) {ty:TypeId} {g:Bool} {cs:List SV} {v:Value} {ck:List Cn} (hr:(execOp a.eval o).run P c.w= .ok (.value (.pointer (some ⟨c.w.heap.size,0,none⟩))) (c.w.alloc (.cells v.cells ty)))
  (hs:SR c cs v.cells.toList) (h1: ∀u∈v.cells.toList,u.oneCell'=true):Ar P o c n nx sl hp gs a {cd:=ck,val:= .bz nx 0,bb:= [(nx,B9 gs (.box ty g cs))]}:=by
 intro next Q hk
 unfold Oper.wp;rw [hr,Oper.upon_value];have hU:=LC h;have keep:CQ c (c.new nx (.cells v.cells ty) (.pointer (some ⟨c.w.heap.size,0,none⟩)) []):=Cx.fc (fun g hg=>hU (h.rel.bm _ _ hg));have hH:(c.new nx (.cells v.cells ty) (.pointer (some ⟨c.w.heap.size,0,none⟩)) []).H nx 0= .pointer (some ⟨c.w.heap.size,0,none⟩):=by simp [Cx.new]
 have hK:(c.new nx (.cells v.cells ty) (.pointer (some ⟨c.w.heap.size,0,none⟩)) []).K nx 0:= .inr ⟨rfl,rfl⟩;have Am:=h.rel.new hU (.cells v.cells ty) (.pointer (some ⟨c.w.heap.size,0,none⟩)) (.box ty g cs) gs h.gs (by intros;simp)
  ⟨c.w.heap.size,v.cells,hK,hH,by simp [Cx.new],by simp [Cx.new],heap_alloc_new _ _,h1,hs.keep keep⟩
 exact hk _ _ (tD h _ _) (Am.put ((SR.bz hK hH .nil).mkGd gs h.gs) o.dst)
theorem oC (h:Ba P c n nx sl hp a sl0 hp0 o gs) {t:TypeId} (ho:o.op= .alloc t) (he:Bg P sg sl0 hp0 nv nx gs o=some e) (hc: ∀q∈e.cd,Cn.den c.ρ q):Ar P o c n nx sl hp gs a e:=by
 simp only [Bg,ho,Aq]at he;obtain⟨z,⟨i,hi,hz⟩,s,hs,⟨cs,ck⟩,Bp,he⟩:=he;split at he
 ·cases he
 ·split at he
  ·cases he
  ·rename_i KM;have KM:ck= []:=by simpa using KM
   simp at he;subst he;have A5:DU z=some s:=by simpa [bZ,hi,hz]using hs
   obtain⟨q1,q2⟩:=RY (R2 (c:=c) A5) Bp (by simp [KM]);refine Ar.box h (v:=z) ?_ q1 q2;simp [execOp,ho,Instr.alloc,zeroValue,typeInfo,hi,hz,newVar,newRow]
theorem rO (h:Ba P c n nx sl hp a sl0 hp0 o gs) {t:TypeId} {x:Operand} (ho:o.op= .box t x) (he:Bg P sg sl0 hp0 nv nx gs o=some e) (hc: ∀q∈e.cd,Cn.den c.ρ q):Ar P o c n nx sl hp gs a e:=by
 have hm:x∈o.op.operands:=by simp [ho,Op.operands]
 simp only [Bg,ho,Aq]at he;obtain⟨s,hs,⟨cs,ck⟩,Bp,he⟩:=he;split at he
 ·cases he
 ·simp at he;subst he;obtain⟨q1,q2⟩:=RY (h.cm hs hm) Bp hc;refine Ar.box h (v:=a.eval x) ?_ q1 q2;simp [execOp,ho,Instr.box,newVar,newRow]
end
section
variable {P:Program} {c:Cx} {n nx:Nat} {sl sl0:Nat→SV} {hp hp0:Nat→Option Af} {a:Act} {o:Oper} {gs:Gd} {e:AO} {sg:BB} {nv:Nat}
def setVs {α:Type} (cs:List α) (o:Nat) (vs:List α):List α:=cs.take o++vs++cs.drop (o+vs.length)
theorem MF {α:Type} (cs vs:List α) (o:Nat) (h:o+vs.length≤cs.length) (i:Nat):(setVs cs o vs)[i]?=if o≤i∧i<o+vs.length then vs[i-o]? else cs[i]?:=by
 unfold setVs;have ht:(cs.take o).length=o:=by rw [List.length_take];omega
 rw [List.append_assoc];by_cases h1:i<o
 ·rw [if_neg (by omega),List.getElem?_append_left (by omega),List.getElem?_take,if_pos h1]
 ·rw [List.getElem?_append_right (by omega),ht];by_cases h2:i<o+vs.length
  ·rw [if_pos (by omega),List.getElem?_append_left (by omega)]
  ·rw [if_neg (by omega),List.getElem?_append_right (by omega),List.getElem?_drop];congr 1;omega
theorem MJ {α:Type} (cs vs:List α) (o:Nat) (h:o+vs.length≤cs.length):(setVs cs o vs).length=cs.length:=by simp [setVs];omega
theorem SR.setVs {cs vs:List SV} {C V:List Value} {k:Nat} (h:SR c cs C) (hv:SR c vs V):SR c (Nk cs k vs) (Go.Proofs.YtagokdejdanfcaaGreatDoor.setVs C k V):=by unfold Nk Go.Proofs.YtagokdejdanfcaaGreatDoor.setVs;have hl:=hv.len;rw [←hl];exact((h.split k).1.app hv).app (h.split _).2
theorem aP (vs:List Value): ∀(k off:Nat) (C:Array Value),off+k+vs.length≤C.size→
  ((vs.zipIdx k).foldl (fun cs (p:Value × Nat)=>cs.setIfInBounds (off+p.2) p.1) C).toList=setVs C.toList (off+k) vs:=by
 induction vs with
 |nil=>intro k off C _;simp [setVs]
 |cons v vs ih=>
  intro k off C h;simp only [An]at h;simp only [List.zipIdx_cons,List.foldl_cons];rw [ih (k+1) off _ (by simp;omega)];apply List.ext_getElem?;intro i;rw [MF _ _ _ (by simp;omega),MF _ _ _ (by simp;omega)];simp only [Array.toList_setIfInBounds,List.getElem?_set,An,Array.length_toList];by_cases h1:i=off+k
  ·subst h1;rw [if_neg (by omega),if_pos rfl,if_pos (by omega),if_pos (by omega)];simp
  ·by_cases h2:off+(k+1)≤i∧i<off+(k+1)+vs.length
   ·rw [if_pos h2,if_pos (by omega),show i-(off+k)=(i-(off+(k+1)))+1 by omega,List.getElem?_cons_succ]
   ·rw [if_neg h2,if_neg (by omega),if_neg (by omega)]
theorem Vq {b off:Nat} {t:TypeId}: ∀(vs:List Value) (i:Nat) (w:World) (C:Array Value),w.heap[b]?=some (.cells C t (0,0))→off+i+vs.length≤C.size→(∀v∈vs,v.oneCell'=true)→
  (storeCells ⟨b,off,none⟩ vs i).run P w= .ok () (Ch w b (off+i) vs)
 | [],i,w,C,_,_,_=>by simp [storeCells,Ch]
 |v::vs,i,w,C,hb,hl,h1=>by
  simp only [An]at hl;have hi:off+i<C.size:=by omega
  have BS:w.cell? ⟨b,off+i,none⟩=some C[off+i]:=by simp [World.cell?,hb,hi]
  have TE:w.frozen? ⟨b,off+i,none⟩=false:=by simp [World.frozen?,hb]
  have IG:(store ((⟨b,off,none⟩:Addr).add i) v).run P w= .ok () (w.setCell ⟨b,off+i,none⟩ v):=by rw [Addr.add_lit,run_store P w _ v _ (h1 v (by simp)),BS];simp [TE]
  have h2:=heap_setCell_same w b (off+i) C t v hb;have ih:=Vq (off:=off) vs (i+1) (w.setCell ⟨b,off+i,none⟩ v) _ h2 (by simp;omega) (fun x hx=>h1 x (by simp [hx]));simp only [storeCells,Sem.run_bind,IG,Result.andThen_ok,ih,Ch];rw [Nat.add_assoc]
theorem RC {w:World} {b off:Nat} {t:TypeId} {vs:List Value} {C:Array Value} (hb:w.heap[b]?=some (.cells C t (0,0))) (hl:off+vs.length≤C.size):
  Mod [b] w (Ch w b off vs)∧(Ch w b off vs).heap[b]?=some (.cells (setVs C.toList off vs).toArray t (0,0))∧(Ch w b off vs).heap.size=w.heap.size:=by
 obtain⟨hm,C',h1,h2,h3,h4⟩:=Vk vs w b off C t hb hl;refine⟨hm, ?_, ?_⟩
 ·rw [h1];congr 2;apply Array.ext';apply List.ext_getElem?;intro i;rw [MF _ _ _ (by simpa using hl)];by_cases hi:off≤i∧i<off+vs.length
  ·rw [if_pos hi];have AD:i-off<vs.length:=by omega
   have:=h3 (i-off) vs[i-off] (by simp [AD]);rw [show off+(i-off)=i by omega]at this;rw [Array.getElem?_toList,this];simp [AD]
  ·rw [if_neg hi,Array.getElem?_toList,Array.getElem?_toList];exact h4 i (by omega)
 ·clear hm h1 h2 h3 h4 hl
  induction vs generalizing w off C with
  |nil=>rfl
  |cons v vs ih=>simp only [Ch];rw [ih (heap_setCell_same w b off C t v hb)];simp [World.setCell]
theorem VP {w:World} {b off:Nat} {t ty:TypeId} {v:Value} {C:Array Value} (hb:w.heap[b]?=some (.cells C ty (0,0))) (ht:CA P t=true) (hs:v.cells.size=P.cellsOf t) (hl:off+v.cells.size≤C.size) (h1: ∀u∈v.cells.toList,u.oneCell'=true):
  (Instr.storeAt t (.pointer (some ⟨b,off,none⟩)) v).run P w= .ok () (Ch w b off v.cells.toList):=by
 have:=Vq (P:=P) (off:=off) v.cells.toList 0 w C hb (by simpa using hl) h1;simp only [Nat.add_zero]at this;simp [Instr.storeAt,Instr.sureAddr,storeVar,Lv ht,hs,this]
def Cx.wr (c:Cx) (w':World) (t:Nat):Cx:={c with w:=w',E:=fun u=>if u=t then c.E u+1 else c.E u}
theorem Cx.gf {c:Cx} {w':World} {t b:Nat} (gw:GW c) (BV:b∈(c.G t).top) (hm:Mod [b] c.w w'):CQ c (c.wr w' t):=by
 have Bl:b∈(c.G t).own:=by simp [GI.own,BV]
 refine⟨rfl,rfl,fun q _ hq=>hq,fun q hq AE=>hm.block q hq ?_,fun u g hu=>⟨hu,rfl⟩,fun u g hu=> ?_⟩
 ·simp only [List.mem_singleton];rintro rfl;exact AE.1 ⟨t,BV⟩
 ·by_cases E5:u=t
  ·have e1:(c.wr w' t).E u=c.E u+1:=by simp only [Cx.wr,if_pos E5]
   exact⟨by omega,fun h=>by omega⟩
  ·have e1:(c.wr w' t).E u=c.E u:=by simp only [Cx.wr,if_neg E5]
   rw [e1];refine⟨Nat.le_refl _,fun _=>⟨rfl,fun q hq FJ=>hm.block q FJ ?_⟩⟩;simp only [List.mem_singleton];rintro rfl;exact gw.cc t u (Ne.symm E5) q Bl (by simp [GI.own,hq])
theorem Rel.write (h:Rel c n sl hp a) {t:Nat} {e0:Af} {b:Nat} {w':World} (AN:BR c.ρ (hp t) e0) (BV:b∈(c.G t).top) (hm:Mod [b] c.w w') (BU:w'.heap.size=c.w.heap.size) (e1:Af) (Bk: ∀hs f,e1≠ .gd hs f)
  (he:Co (c.wr w' t) t e1):Rel (c.wr w' t) n sl (AX hp [(t,e1)]) a∧CQ c (c.wr w' t):=by
 have Bl:b∈(c.G t).own:=by simp [GI.own,BV]
 have Bv:CQ c (c.wr w' t):=Cx.gf h.gw BV hm;have C1: ∀u,AX hp [(t,e1)] u=if u=t then some e1 else hp u:=fun u=>rfl;refine⟨h.change (fun u=>u=t) Bv ⟨hm.os.trans h.base.os,hm.tape.trans h.base.tape,hm.output.trans h.base.output,Nat.le_trans h.base.size hm.size,h.base.pins,fun q hq Gc=> ?_,h.base.pk,h.base.lo⟩
  (fun u hu=>⟨by rw [C1,if_neg hu],rfl,by simp [Cx.wr,hu],fun g hg=>hg⟩) (fun u hu q hq=>hm.block q (h.gw.inb u q (by simp [GI.own,hq])) ?_) (fun u hu=> ?_) ⟨h.gw.nodup,h.gw.cc,h.gw.allow,fun u q hq=> ?_⟩ h.bm (fun u f hf=> ?_),Bv⟩
 ·refine(hm.block q (Nat.lt_of_lt_of_le hq h.base.size) ?_).trans (h.base.block q hq Gc);simp only [List.mem_singleton];rintro rfl;rcases h.gw.allow t q Bl with hh|hh
  ·exact absurd hh (Nat.not_le.2 hq)
  ·exact Gc hh
 ·simp only [List.mem_singleton];rintro rfl;exact h.gw.cc t u (Ne.symm hu) q Bl (by simp [GI.own,hq])
 ·subst hu;rw [C1,if_pos rfl];refine⟨fun e' hr=> ?_,fun hn=> ?_⟩
  ·cases e1<;>first
    |(simp only [BR]at hr;subst hr;exact he)
    |exact absurd rfl (Bk _ _)
  ·cases e1<;>first
    |exact absurd rfl (Bk _ _)
    |exact absurd rfl (hn _)
 ·show q<w'.heap.size;rw [BU];exact h.gw.inb u q hq
 ·rw [C1]at hf;split at hf
  ·rename_i hu;subst hu;cases hh:hp u with
   |none=>rw [hh]at AN;exact AN.elim
   |some e9=>exact h.cf u e9 hh
  ·exact h.cf u f hf
end
section
variable {P:Program} {c:Cx} {n nx:Nat} {sl sl0:Nat→SV} {hp hp0:Nat→Option Af} {a:Act} {o:Oper} {gs:Gd} {e:AO} {sg:BB} {nv:Nat}
theorem lM (h:Ba P c n nx sl hp a sl0 hp0 o gs) {t:TypeId} {x y:Operand} (ho:o.op= .store t x y) {b k:Nat} {s:SV} (hx:Bo sl0 gs x=some (.bz b k)) (hy:Bo sl0 gs y=some s)
  (he:Kc P hp0 gs t (.bz b k) s=some e) (hc: ∀q∈e.cd,Cn.den c.ρ q):Ar P o c n nx sl hp gs a e:=by
 have r1:=h.cm hx (by simp [ho,Op.operands]);have r2:=h.cm hy (by simp [ho,Op.operands]);simp only [Kc]at he;split at he
 ·rename_i ty g cs vs ck hl Bp;split at he
  ·rename_i hh;obtain⟨A8,hlen,hle,rfl⟩:=hh;simp at he;subst he;obtain⟨q1,q2⟩:=RY r2 Bp hc;generalize hv:a.eval x=v at r1;cases r1 with
   |bz h1 h2 h3=>
    rename_i q;have Eb:=Ce hl h.gs;obtain⟨q',C,e1,e2,e3,e4,e5,e5',e6⟩:=h.eh b _ Eb;rw [h2]at e2;cases e2;have AN:BR c.ρ (hp b) (.box ty g cs):=by
     cases hh:hp0 b with
     |none=>rw [hh]at Eb;exact Eb.elim
     |some e9=>rw [h.hp b e9 hh];rwa [hh]at Eb
    have KY:=e6.len;have TW:=q1.len;obtain⟨m1,m2,m3⟩:=RC (vs:=(a.eval y).cells.toList) e5 (show k+_≤C.size by simp at KY TW ⊢;omega);obtain⟨Am,Bv⟩:=h.rel.write AN (by rw [e3];simp) m1 m3 (.box ty g (Nk cs k vs)) (by intros;simp) (w':=Ch c.w q k (a.eval y).cells.toList) (by
     have Bw:CQ c (c.wr (Ch c.w q k (a.eval y).cells.toList) b):=Cx.gf h.rel.gw (by rw [e3];simp) m1;refine⟨q,_,e1,h2,e3,e4,m2, ?_, ?_⟩
     ·intro u hu;simp only [List.toList_toArray]at hu;unfold setVs at hu;simp only [Ag]at hu;rcases hu with(hu|hu)|hu
      ·exact e5' u (List.mem_of_mem_take hu)
      ·exact q2 u hu
      ·exact e5' u (List.mem_of_mem_drop hu)
     ·simpa using(e6.setVs q1 (k:=k)).keep Bw)
    intro next Q hk
    unfold Oper.wp;have hr:(execOp a.eval o).run P c.w= .ok .skip (Ch c.w q k (a.eval y).cells.toList):=by have:=VP (P:=P) (t:=t) (v:=a.eval y) (off:=k) e5 A8 (by simp at TW;omega) (by simp at KY TW;omega) q2;simp [execOp,ho,hv,this]
    rw [hr,Oper.upon_skip];exact hk _ (c.wr (Ch c.w q k (a.eval y).cells.toList) b) ⟨rfl,rfl,rfl,rfl,fun t ht=> .inl ht⟩ (Am.put ((SR.undef .nil).mkGd []) o.dst)
  ·cases he
 ·cases he
theorem Z6 {places:List (Nat × Nat)} {tys:List TypeId}: ∀(ps:List (Nat × SV)) (vs:List (Nat × Value)) (cs:List SV) (C:Array Value) (r:List SV × List Cn),PY P places tys ps cs=some r→(∀q∈r.2,q.den c.ρ)→
  ps.map (·.1)=vs.map (·.1)→SR c (ps.map (·.2)) (vs.map (·.2))→SR c cs C.toList→(∀u∈C.toList,u.oneCell'=true)→
  ∃C',Instr.fill (places.toArray[·]?) C vs=some C'∧SR c r.1 C'.toList∧ ∀u∈C'.toList,u.oneCell'=true
 | [],vs,cs,C,r,h,hk,he,_,hC,h1=>by
  have:vs= []:=by simpa using he.symm
  subst this;simp [PY]at h;subst h;exact⟨C,rfl,hC,h1⟩
 |(i,s)::ps, [],cs,C,r,h,hk,he,_,hC,h1=>by simp at he
 |(i,s)::ps,(j,v)::vs,cs,C,r,h,hk,he,hs,hC,h1=>by
  simp only [List.map_cons,List.cons.injEq]at he;obtain⟨rfl,he⟩:=he;simp only [List.map_cons]at hs;obtain⟨Bq,AQ⟩:=hs.br;unfold PY at h;split at h
  ·rename_i off sz t K6 A8;split at h
   ·rename_i us ck Bp;split at h
    ·rename_i hh;obtain⟨BU,hle⟩:=hh;obtain⟨r',CX,rfl⟩:=Ap.1 h;obtain⟨q1,q2⟩:=RY Bq Bp (fun q hq=>hk q (by simp [hq]));have IB:=q1.len;have Qw:=hC.len;have JD:(v.cells.zipIdx.foldl (fun cs (p:Value × Nat)=>cs.setIfInBounds (off+p.2) p.1) C).toList=setVs C.toList off v.cells.toList:=by
      have:=aP v.cells.toList 0 off C (by simp at IB Qw ⊢;omega);rw [←Array.foldl_toList,Array.toList_zipIdx];simpa using this
     obtain⟨C',g1,g2,g3⟩:=Z6 ps vs (Nk cs off us) (v.cells.zipIdx.foldl (fun cs (p:Value × Nat)=>cs.setIfInBounds (off+p.2) p.1) C) r' CX (fun q hq=>hk q (by simp [hq])) he AQ (by rw [JD];exact hC.setVs q1) (by
      rw [JD];intro u hu;unfold setVs at hu;simp only [Ag]at hu;rcases hu with(hu|hu)|hu
      ·exact h1 u (List.mem_of_mem_take hu)
      ·exact q2 u hu
      ·exact h1 u (List.mem_of_mem_drop hu))
     refine⟨C', ?_,g2,g3⟩;unfold Instr.fill;have Uh:places.toArray[i]?=some (off,sz):=by simpa using K6
     simp only [Uh];rw [if_neg (by simp at IB Qw ⊢;omega)];exact g1
    ·cases h
   ·cases h
  ·cases h
theorem RX {sl0:Nat→SV} {gs:Gd} (L:List Operand) (h: ∀x s,Bo sl0 gs x=some s→x∈L→SR c [s] [a.eval x]): ∀{xs:List (Nat × Operand)} {ss:List (Nat × SV)},(∀x∈xs,x.2∈L)→xs.mapM (fun(p:Nat × Operand)=>(Bo sl0 gs p.2).map fun s=>(p.1,s))=some ss→
  ss.map (·.1)=xs.map (·.1)∧SR c (ss.map (·.2)) (xs.map fun p=>a.eval p.2)
 | [],ss,_,hm=>by simp at hm;subst hm;exact⟨rfl, .nil⟩
 |x::xs,ss,hL,hm=>by rw [List.mapM_cons]at hm;simp only [Option.bind_eq_bind,Aq,Ap]at hm;obtain⟨_,⟨s,hs,rfl⟩,ss',ES,hm⟩:=hm;simp at hm;subst hm;obtain⟨e1,e2⟩:=RX L h (fun y hy=>hL y (by simp [hy])) ES;exact⟨by simp [e1],(h _ s hs (hL x (by simp))).app e2⟩
theorem nU (h:Ba P c n nx sl hp a sl0 hp0 o gs) {t:TypeId} {parts:Array (Nat × Operand)} (ho:o.op= .build t parts) (he:Bg P sg sl0 hp0 nv nx gs o=some e) (hc: ∀q∈e.cd,Cn.den c.ρ q):Ar P o c n nx sl hp gs a e:=by
 simp only [Bg,ho,Aq]at he;obtain⟨ps,JS,he⟩:=he;obtain⟨e1,e2⟩:=RX (c:=c) (a:=a) (parts.toList.map (·.2)) (fun x s hx hm=>h.cm hx (by simpa [ho,Op.operands]using hm)) (fun x hx=>List.mem_map.2 ⟨x,hx,rfl⟩) JS;unfold aO at he;split at he
 ·rename_i it fs hit hu;split at he
  ·rename_i zs places hz K6;obtain⟨r,hr,rfl⟩:=Ap.1 he;obtain⟨z,QH,hF⟩:=Aq.1 hz;have X6:=R2 (c:=c) hF;obtain⟨cells,g1,g2,g3⟩:=Z6 (c:=c) (P:=P) ps (parts.toList.map fun p=>(p.1,a.eval p.2)) zs.toList z.cells r hr hc (by rw [e1];simp) (by rw [List.map_map];exact e2)
    (by cases X6 with|agg h1 h2 _=>simpa [Value.cells]using h2) (by cases X6 with|agg h1 h2 _=>simpa [Value.cells]using h1)
   have hb:P.built t (parts.map fun(x:Nat × Operand)=>(x.1,a.eval x.2)).toList=some cells:=by simp only [Program.built,hit,hu,QH,K6];simpa using g1
   have:=SR.agg (c:=c) (cs:=Be.of r.1) (as_:=cells.toList) g3 (by rw [Be.aq];exact g2) .nil;refine Ar.pure h (v:= .agg cells) ?_ (by simpa using this) rfl;have AG:=run_build c.w t _ cells hb;simp only [execOp,ho,Sem.run_bind];rw [AG];rfl
  ·cases he
 ·cases he
end
section
variable {P:Program} {c:Cx} {n nx:Nat} {sl sl0:Nat→SV} {hp hp0:Nat→Option Af} {a:Act} {o:Oper} {gs:Gd} {e:AO} {sg:BB} {nv:Nat}
def Cx.bg (c:Cx) (ts:List Nat):Cx:={c with G:=fun u=>if u∈ts then⟨[], []⟩else c.G u,E:=fun u=>if u∈ts then c.E u+1 else c.E u}
theorem Cx.gu {c:Cx} {ts:List Nat} {b:Nat} (h:(c.bg ts).M b): ∃u,u∉ts∧b∈(c.G u).top:=by
 obtain⟨u,hu⟩:=h;simp only [Cx.bg]at hu;split at hu
 ·simp at hu
 ·exact⟨u,by assumption,hu⟩
theorem Cx.dt {c:Cx} {ts:List Nat} {b:Nat} (h:c.ok b):(c.bg ts).ok b:=⟨fun hm=>by obtain⟨u,_,hu⟩:=Cx.gu hm;exact h.1 ⟨u,hu⟩,h.2⟩
theorem Cx.ig (c:Cx) (ts:List Nat):CQ c (c.bg ts):=⟨rfl,rfl,fun _ _ h=>Cx.dt h,fun _ _ _=>rfl,fun _ _ h=>⟨h,rfl⟩,fun t g _=>by
 by_cases ht:t∈ts
 ·have e1:(c.bg ts).E t=c.E t+1:=by simp only [Cx.bg,if_pos ht]
  exact⟨by omega,fun h=>by omega⟩
 ·have e1:(c.bg ts).E t=c.E t:=by simp only [Cx.bg,if_neg ht]
  have e2:(c.bg ts).G t=c.G t:=by simp only [Cx.bg,if_neg ht]
  rw [e1];exact⟨Nat.le_refl _,fun _=>⟨e2,fun _ _ _=>rfl⟩⟩⟩
theorem bH {c:Cx} (gw:GW c) {ts us:List Nat} (hs: ∀t∈us,t∈ts) {b:Nat} (h:c.dj us b):(c.bg ts).ok b:=by
 rcases h with h|⟨t,ht,hb⟩
 ·exact Cx.dt h
 ·have Bl:b∈(c.G t).own:=by simp [GI.own,hb]
  refine⟨fun hm=> ?_, .inr (gw.allow t b Bl)⟩;obtain⟨u,hu,F7⟩:=Cx.gu hm;have:t≠u:=fun hh=>hu (hh▸hs t ht);exact gw.cc t u this b Bl (by simp [GI.own,F7])
def Jc (e:Af) (g:Nat) (x:E):Prop:=(∃ety sz d,e= .row ety sz g x d)∨ ∃ety sz l ep,e= .deep ety sz l g ep x
theorem Jc.ne {e:Af} {g:Nat} {x:E} (h:Jc e g x): ∀hs f,e≠ .gd hs f:=by rcases h with⟨_,_,_,rfl⟩|⟨_,_,_,_,rfl⟩<;>intros<;>simp
theorem Jc.rd {e:Af} {g t:Nat} {x:E} (h:Jc e g x) (k:Co c t e):c.K t g∧ ∃f,Rd c.w [c.H t g] [x.den c.ρ] f∧ ∀b∈f,b∈(c.G t).top∨c.ok b:=by
 rcases h with⟨_,_,_,rfl⟩|⟨_,_,_,_,rfl⟩
 ·obtain⟨q1,q2,N,q3,q4,_⟩:=k;obtain⟨f,r1,r2,_⟩:=q3.rd;exact⟨q1,f,r1,fun b hb=>(r2 b hb).imp id (q4 b)⟩
 ·obtain⟨q1,q2,_,q3,_⟩:=k;obtain⟨f,r1,r2⟩:=q3.rd;exact⟨q1,f,r1,fun b hb=> .inl (r2 b hb)⟩
theorem Jc.fun {e:Af} {g g':Nat} {x x':E} (h:Jc e g x) (k:Jc e g' x'):g=g'∧x=x':=by rcases h with⟨_,_,_,rfl⟩|⟨_,_,_,_,rfl⟩<;>rcases k with⟨_,_,_,hh⟩|⟨_,_,_,_,hh⟩<;>cases hh<;>exact⟨rfl,rfl⟩
theorem Lr {gs:Gd} {ρ:List AV} (k:A2 ρ gs): ∀{ts:List Nat} {l:List (Nat × Af)},CN hp0 gs ts=some l→
  (∀t e,(t,e)∈l→t∈ts∧gs= []∧ ∃g x f,e= .bg g x∧BR ρ (hp0 t) f∧Jc f g x)∧
  (∀t∈ts,(∃g x,(t,Af.bg g x)∈l)∨(∃g x,BR ρ (hp0 t) (.bg g x))∨ ∃ty g cs,BR ρ (hp0 t) (.box ty g cs))
 | [],l,h=>by simp [CN]at h;subst h;simp
 |t::ts,l,h=>by
  unfold CN at h;split at h
  ·rename_i ety sz g x d l' hl Bm;split at h
   ·rename_i hg;simp at h;subst h;obtain⟨h1,h2⟩:=Lr k Bm;refine⟨fun u e hu=> ?_,fun u hu=> ?_⟩
    ·rcases Ad.1 hu with hu|hu
     ·cases hu;exact⟨by simp,by simpa using hg,g,x,_,rfl,Ce hl k, .inl ⟨_,_,_,rfl⟩⟩
     ·obtain⟨p,q,r⟩:=h1 u e hu;exact⟨by simp [p],q,r⟩
    ·rcases Ad.1 hu with rfl|hu
     ·exact .inl ⟨g,x,by simp⟩
     ·rcases h2 u hu with⟨g',x',hh⟩|hh
      ·exact .inl ⟨g',x',by simp [hh]⟩
      ·exact .inr hh
   ·cases h
  ·rename_i ety sz dl g ep x l' hl Bm;split at h
   ·rename_i hg;simp at h;subst h;obtain⟨h1,h2⟩:=Lr k Bm;refine⟨fun u e hu=> ?_,fun u hu=> ?_⟩
    ·rcases Ad.1 hu with hu|hu
     ·cases hu;exact⟨by simp,by simpa using hg,g,x,_,rfl,Ce hl k, .inr ⟨_,_,_,_,rfl⟩⟩
     ·obtain⟨p,q,r⟩:=h1 u e hu;exact⟨by simp [p],q,r⟩
    ·rcases Ad.1 hu with rfl|hu
     ·exact .inl ⟨g,x,by simp⟩
     ·rcases h2 u hu with⟨g',x',hh⟩|hh
      ·exact .inl ⟨g',x',by simp [hh]⟩
      ·exact .inr hh
   ·cases h
  ·rename_i g x l' hl Bm;simp at h;subst h;obtain⟨h1,h2⟩:=Lr k Bm;refine⟨fun u e hu=> ?_,fun u hu=> ?_⟩
   ·obtain⟨p,q,r⟩:=h1 u e hu;exact⟨by simp [p],q,r⟩
   ·rcases Ad.1 hu with rfl|hu
    ·exact .inr (.inl ⟨g,x,Ce hl k⟩)
    ·exact h2 u hu
  ·rename_i ty g cs l' hl Bm;simp at h;subst h;obtain⟨h1,h2⟩:=Lr k Bm;refine⟨fun u e hu=> ?_,fun u hu=> ?_⟩
   ·obtain⟨p,q,r⟩:=h1 u e hu;exact⟨by simp [p],q,r⟩
   ·rcases Ad.1 hu with rfl|hu
    ·exact .inr (.inr ⟨ty,g,cs,Ce hl k⟩)
    ·exact h2 u hu
  ·cases h
theorem I8 {hp:Nat→Option Af}: ∀{l:List (Nat × Af)} {t:Nat},(∀e,(t,e)∉l)→AX hp l t=hp t
 | [],_,_=>rfl
 |(u,e)::l,t,h=>by
  have ht:t≠u:=by rintro rfl;exact h e (by simp)
  have:=I8 (hp:=fun v=>if v=u then some e else hp v) (l:=l) (t:=t) (fun e' DP=>h e' (by simp [DP]));simp only [AX,List.foldl_cons]at this ⊢;rw [this,if_neg ht]
theorem Wu {hp:Nat→Option Af}: ∀{l:List (Nat × Af)} {t:Nat} {e:Af},(t,e)∈l→(∀e',(t,e')∈l→e'=e)→AX hp l t=some e
 | [],_,_,h,_=>by simp at h
 |(u,f)::l,t,e,h,hu=>by
  simp only [AX,List.foldl_cons];by_cases hm: ∃e',(t,e')∈l
  ·obtain⟨e',DP⟩:=hm;have:=hu e' (by simp [DP]);subst this;exact Wu (hp:=fun v=>if v=u then some f else hp v) DP (fun e'' dU=>hu e'' (by simp [dU]))
  ·have hn: ∀e',(t,e')∉l:=fun e' DP=>hm ⟨e',DP⟩;have:=I8 (hp:=fun v=>if v=u then some f else hp v) (l:=l) (t:=t) hn;simp only [AX]at this;rw [this];rcases Ad.1 h with h|h
   ·cases h;simp
   ·exact absurd h (hn e)
theorem I9 (hs: ∀t e,hp0 t=some e→hp t=some e) {ρ:List AV} {t:Nat} {e:Af} (h:BR ρ (hp0 t) e):BR ρ (hp t) e:=by
 cases hh:hp0 t with
 |none=>rw [hh]at h;exact h.elim
 |some e9=>rw [hs t e9 hh];rwa [hh]at h
theorem tY {ρ:List AV} {o:Option Af} {e f:Af} (h:BR ρ o e) (k:BR ρ o f):e=f:=by
 cases o with
 |none=>exact h.elim
 |some o=>
  cases o with
  |gd gs x=>exact h.2.symm.trans k.2
  |box=>exact h.symm.trans k
  |row=>exact h.symm.trans k
  |bg=>exact h.symm.trans k
  |dead=>exact h.symm.trans k
  |deep=>exact h.symm.trans k
  |hol=>exact h.symm.trans k
theorem Rel.freeze (h:Rel c n sl hp a) (hs: ∀t e,hp0 t=some e→hp t=some e) (k:A2 c.ρ gs) {ts:List Nat} {l:List (Nat × Af)} (hf:CN hp0 gs ts=some l):
  Rel (c.bg (l.map (·.1))) n sl (AX hp l) a:=by
 obtain⟨h1,h2⟩:=Lr k hf;have hG: ∀u,(c.bg (l.map (·.1))).G u=if u∈l.map (·.1)then⟨[], []⟩else c.G u:=fun u=>rfl;have Hr: ∀t e e',(t,e)∈l→(t,e')∈l→e'=e:=by intro t e e' he DP;obtain⟨_,_,g,x,_,rfl,r,rl⟩:=h1 t e he;obtain⟨_,_,g',x',_,rfl,r',rl'⟩:=h1 t e' DP;have:=tY r r';subst this;obtain⟨rfl,rfl⟩:=rl.fun rl';rfl
 refine h.change (fun u=>u∈l.map (·.1)) (Cx.ig c _) ⟨h.base.os,h.base.tape,h.base.output,h.base.size,h.base.pins,h.base.block,h.base.pk,h.base.lo⟩ (fun u hu=>⟨I8 (fun e he=>hu (List.mem_map.2 ⟨_,he,rfl⟩)),by rw [hG,if_neg hu],by simp only [Cx.bg,if_neg hu],fun g hg=>hg⟩) (fun u hu b hb=>rfl) (fun u hu=> ?_) ?_ h.bm (fun u e hu=> ?_)
 ·obtain⟨⟨u',e⟩,he,rfl⟩:=List.mem_map.1 hu;have C1:=Wu (hp:=hp) he (fun e' DP=>Hr _ _ _ he DP);obtain⟨_,_,g,x,f0,rfl,r,rl⟩:=h1 u' e he;obtain⟨q1,f,r1,r2⟩:=rl.rd (h.ents u' _ (I9 hs r));have Iy:((c.bg (l.map (·.1))).G u').top= []∧((c.bg (l.map (·.1))).G u').O= []:=by rw [hG,if_pos hu];simp
  rw [C1];refine⟨fun e' hr=> ?_,fun _=>Iy⟩;have:e'= .bg g x:=hr.symm;subst this;exact⟨q1,⟨f,r1,fun b hb=>by
   refine bH h.gw (ts:=l.map (·.1)) (us:= [u']) (by simpa using hu) ?_;rcases r2 b hb with hb|hb
   ·exact .inr ⟨u',by simp,hb⟩
   ·exact .inl hb⟩,Iy.1,Iy.2⟩
 ·refine⟨fun u=> ?_,fun u v Uu b hb=> ?_,fun u b hb=> ?_,fun u b hb=> ?_⟩
  ·rw [hG];split
   ·simp [GI.own]
   ·exact h.gw.nodup u
  ·rw [hG]at hb ⊢;split at hb
   ·simp [GI.own]at hb
   ·split
    ·simp [GI.own]
    ·exact h.gw.cc u v Uu b hb
  ·rw [hG]at hb;split at hb
   ·simp [GI.own]at hb
   ·exact h.gw.allow u b hb
  ·rw [hG]at hb;split at hb
   ·simp [GI.own]at hb
   ·exact h.gw.inb u b hb
 ·by_cases hm: ∃e',(u,e')∈l
  ·obtain⟨e',DP⟩:=hm;obtain⟨_,_,g,x,f0,rfl,r,rl⟩:=h1 u e' DP;have r':=I9 hs r;cases hh:hp u with
   |none=>rw [hh]at r';exact r'.elim
   |some e9=>exact h.cf u e9 hh
  ·rw [I8 (fun e' DP=>hm ⟨e',DP⟩)]at hu;exact h.cf u e hu
theorem o9 {ts:List Nat} (h:Kq hp0 gs ts=true) {t:Nat} (ht:t∈ts) {ty:Nat} {g:Bool} {cs:List SV}:Cs hp0 gs t≠some (.box ty g cs):=by intro hl;simp only [Kq,Bool.not_eq_true',List.any_eq_false]at h;have:=h t ht;rw [hl]at this;simp at this
theorem mE {ρ:List AV} (k:A2 ρ gs) {ts:List Nat} {l:List (Nat × Af)} (hf:CN hp0 gs ts=some l) {t:Nat} (ht:t∈ts):(∃g x,(t,Af.bg g x)∈l)∨(∃g x,Cs hp0 gs t=some (.bg g x))∨ ∃ty g cs,Cs hp0 gs t=some (.box ty g cs):=by
 induction ts generalizing l with
 |nil=>simp at ht
 |cons u ts ih=>
  unfold CN at hf;split at hf
  ·rename_i ety sz g x d l' hl Bm;split at hf
   ·simp at hf;subst hf;rcases Ad.1 ht with rfl|ht
    ·exact .inl ⟨g,x,by simp⟩
    ·rcases ih Bm ht with⟨g',x',hh⟩|hh
     ·exact .inl ⟨g',x',by simp [hh]⟩
     ·exact .inr hh
   ·cases hf
  ·rename_i ety sz dl g ep x l' hl Bm;split at hf
   ·simp at hf;subst hf;rcases Ad.1 ht with rfl|ht
    ·exact .inl ⟨g,x,by simp⟩
    ·rcases ih Bm ht with⟨g',x',hh⟩|hh
     ·exact .inl ⟨g',x',by simp [hh]⟩
     ·exact .inr hh
   ·cases hf
  ·rename_i g x l' hl Bm;simp at hf;subst hf;rcases Ad.1 ht with rfl|ht
   ·exact .inr (.inl ⟨g,x,hl⟩)
   ·exact ih Bm ht
  ·rename_i ty g cs l' hl Bm;simp at hf;subst hf;rcases Ad.1 ht with rfl|ht
   ·exact .inr (.inr ⟨ty,g,cs,hl⟩)
   ·exact ih Bm ht
  ·cases hf
theorem Pc (h:Rel c n sl hp a) (eh:EH c hp0) (k:A2 c.ρ gs) {ts:List Nat} {l:List (Nat × Af)} (hf:CN hp0 gs ts=some l) (hb:Kq hp0 gs ts=true) {b:Nat} (hs:c.dj ts b):(c.bg (l.map (·.1))).ok b:=by
 rcases hs with hs|⟨t,ht,BZ⟩
 ·exact Cx.dt hs
 ·rcases mE k hf ht with⟨g,x,hh⟩|⟨g,x,hh⟩|⟨ty,g,cs,hh⟩
  ·exact bH h.gw (us:= [t]) (by simpa using⟨_,hh⟩) (.inr ⟨t,by simp,BZ⟩)
  ·obtain⟨_,_,BV,_⟩:=eh t _ (Ce hh k);rw [BV]at BZ;simp at BZ
  ·exact absurd hh (o9 hb ht)
theorem YM (h:Rel c n sl hp a) (hs: ∀t e,hp0 t=some e→hp t=some e) (k:A2 c.ρ gs) {t:TypeId} {s:SV} {v:Value} (hr:SR c [s] [v]) {x:E} {fz:List (Nat × Af)} {d:Bool} {ck:List Cn} (ht:SI P hp0 gs t s=some (x,fz,d,ck)) (hc: ∀q∈ck,q.den c.ρ):
  ∃f,Rd c.w [v] [x.den c.ρ] f∧(d=true→f= [])∧(∃ts,CN hp0 gs ts=some fz∧ ∀b∈f,(c.bg (fz.map (·.1))).ok b)∧
   (if Ak P t then∃cs,x.den c.ρ= .agg cs∧cs.length=P.cellsOf t else(∀cs,x.den c.ρ≠ .agg cs)∧ ∀cs,x.den c.ρ≠ .tup cs):=by
 have eh:EH c hp0:=fun t e hr=>h.ents t e (I9 hs hr);unfold SI at ht;split at ht
 ·cases ht
 ·rename_i y hy;obtain⟨f,q1,q2⟩:=FV eh k AK hy hr AK (Nat.le_refl _);split at ht
  ·simp at ht;obtain⟨rfl,rfl,rfl,rfl⟩:=ht;obtain⟨c1,c2,c3,c4⟩:=Bu hc;have hf:f= []:=by
    cases hg:Ak P t with
    |true=>obtain⟨cs,Bp⟩:=c3 hg;obtain⟨as_,rfl,_,r⟩:=HK q1 Bp;exact FR r (by rw [Bp]at c2;exact c2)
    |false=>exact FR q1 (by simpa using c4 hg)
   subst hf;refine⟨[],q1,fun _=>rfl,⟨[],rfl,by simp⟩, ?_⟩;split
   ·rename_i hg;obtain⟨cs,Bp⟩:=c3 hg;exact⟨cs,Bp,by rw [Bp]at c1;exact c1⟩
   ·rename_i hg;have:=c4 (by simpa using hg);exact⟨fun cs Bp=>by rw [Bp]at this;simp [AV.scalar]at this,fun cs Bp=>by rw [Bp]at this;simp [AV.scalar]at this⟩
  ·split at ht
   ·rename_i Hj;split at ht
    ·cases ht
    ·rename_i l hl;simp only [Ae,Prod.mk.injEq]at ht;obtain⟨rfl,rfl,rfl,rfl⟩:=ht;refine⟨f,q1,by simp,⟨_,hl,fun b hb=>Pc h eh k hl Hj (q2 b hb)⟩, ?_⟩;have hq:=Bu hc;unfold dN at hq;split
     ·rename_i hg;rw [if_pos hg]at hq;obtain⟨cs,Bp,hl⟩:=hq;exact⟨cs,Bp,hl⟩
     ·rename_i hg;rw [if_neg hg]at hq;exact hq
   ·cases ht
end
section
variable {P:Program} {c:Cx} {n nx:Nat} {sl sl0:Nat→SV} {hp hp0:Nat→Option Af} {a:Act} {o:Oper} {gs:Gd} {e:AO} {sg:BB} {nv:Nat}
theorem bB (w:World) (t ty el:TypeId) (i:TypeInfo) (z:Value) (ht:P.underlying t=some (.slice el)) (hi:P.info? el=some i) (hz:i.zero=some z) (D3:z.cells.size=i.size) (BU:0<i.size)
  (Own:Nat→Prop) (v:Value) (k:Nat) (old:List Value) (ho:old.length=k*i.size)
  (Cu:(k=0∧ ∃q,v= .slice q 0 0)∨ ∃g cap C,v= .slice (some ⟨g,0,none⟩) k cap∧k≤cap∧cap≤maxLen∧w.heap[g]?=some (.cells C el (0,0))∧C.size=cap*i.size∧old=C.toList.take (k*i.size)∧Own g)
  (q:Option Addr) (m r:Nat) (news:List Value) (hs:Src w i.size q m news) (Qi:k+m≤maxLen) (hb:(k+m)*i.bytes≤140737488355328):
  ∃v' w',(Builtin.append_ #[t,t] ty #[v, .slice q m r]).run P w= .ok v' w'∧
   ((v'=v∧w'=w∧m=0)∨ ∃g cap C,v'= .slice (some ⟨g,0,none⟩) (k+m) cap∧k+m≤cap∧cap≤maxLen∧w'.heap[g]?=some (.cells C el (0,0))∧C.size=cap*i.size∧C.toList.take ((k+m)*i.size)=old++news∧
    w.grownBy w' (some g)∧((g=w.heap.size∧g<w'.heap.size)∨Own g)):=by
 have Qy:news.length=m*i.size:=by
  rcases hs with⟨rfl,rfl,rfl⟩|⟨ad,rfl,h1,_⟩
  ·simp
  ·exact h1
 have hlen:(old++news).length=(k+m)*i.size:=by rw [Aj,ho,Qy,Nat.add_mul]
 have grown: ∀(cp:Nat),cp<k+m→ ∀(X:Array Value),X.toList=old++news→ ∃C,C=X++Builtin.zeroCells z.cells (grownCap w (k+m) cp el-(k+m))∧
   k+m≤grownCap w (k+m) cp el∧grownCap w (k+m) cp el≤maxLen∧C.size=grownCap w (k+m) cp el*i.size∧C.toList.take ((k+m)*i.size)=old++news:=by
  intro cp vK X hX;have Hd:=grownCap_ge w (k+m) cp el;have NT:=grownCap_le_maxLen w (k+m) cp el Qi;refine⟨_,rfl,Hd,NT, ?_, ?_⟩
  ·have eK:X.size=(k+m)*i.size:=by rw [←Array.length_toList,hX,hlen]
   rw [Array.size_append,eK,size_zeroCells,D3,←Nat.add_mul];congr 1;omega
  ·rw [Array.toList_append,hX,←hlen];exact List.take_left
 have newb: ∀C:Array Value,w.grownBy (w.drew.alloc (.cells C el)) (some w.heap.size)∧w.heap.size<(w.drew.alloc (.cells C el)).heap.size∧(w.drew.alloc (.cells C el)).heap[w.heap.size]?=some (.cells C el (0,0)):=
  fun C=>⟨⟨rfl,rfl,rfl,by simp,fun j hj _=>Below.heap_alloc w.drew _ _ hj⟩,by simp,heap_alloc_new w.drew _⟩
 rcases Cu with⟨rfl,p,rfl⟩|⟨g,cap,C,rfl,T9,NT,hg,Bp,hold,Tf⟩
 ·have hold:old= []:=List.eq_nil_of_length_eq_zero (by simpa using ho);subst hold;by_cases hm:m=0
  ·subst hm;have hn:news= []:=List.eq_nil_of_length_eq_zero (by simpa using Qy);subst hn;refine⟨_,w, ?_, .inl ⟨rfl,rfl,rfl⟩⟩;rcases hs with⟨rfl,_,_⟩|⟨ad,rfl,_⟩<;>cases p<;>
    simp [Builtin.append_,run_underlying ht,sizeOf,typeInfo,hi,Builtin.lenOf,Builtin.firstCells,loadCells,loadCellsFrom,storeCells]
  ·rcases hs with⟨_,rfl,_⟩|⟨ad,rfl,h1,h2,h3⟩
   ·exact absurd rfl hm
   ·obtain⟨C',L1,g1,g2,g3,g4⟩:=grown 0 (by omega) news.toArray (by simp);cases p with
    |none=>have hr:=run_append_nil (P:=P) w t ty el i z ht hi hz ad m r news h1 h2 (by omega) (by simp only [maxLen]at Qi;omega) (by have hb:=hb;simp only [Nat.zero_add]at hb;omega);simp only [Nat.zero_add]at g1 g2 g3 g4 L1 ⊢;obtain⟨n1,n2,n3⟩:=newb C';refine⟨_,_,hr, .inr ⟨_,_,C',rfl,g1,g2, ?_,g3,g4, ?_, .inl ⟨rfl, ?_⟩⟩⟩<;>rw [←L1]<;>first|exact n3|exact n1|exact n2
    |some p=>have hr:=run_append_grow (P:=P) w t ty el i z ht hi hz p 0 0 [] (by simp) (by simp) ad m r news h1 h2 (by omega) (by simp only [maxLen]at Qi;omega) (growslice_fits (by omega) hb);rw [show(([]:List Value).toArray++news.toArray)=news.toArray by simp]at hr;simp only [Nat.zero_add]at g1 g2 g3 g4 L1 hr ⊢;obtain⟨n1,n2,n3⟩:=newb C';refine⟨_,_,hr, .inr ⟨_,_,C',rfl,g1,g2, ?_,g3,g4, ?_, .inl ⟨rfl, ?_⟩⟩⟩<;>rw [←L1]<;>first|exact n3|exact n1|exact n2
 ·rcases hs with⟨rfl,rfl,rfl⟩|⟨ad,rfl,h1,h2,h3⟩
  ·refine⟨_,w, ?_, .inl ⟨rfl,rfl,rfl⟩⟩;simp [Builtin.append_,run_underlying ht,sizeOf,typeInfo,hi,Builtin.lenOf,Builtin.firstCells,T9,storeCells]
  ·by_cases CG:k+m≤cap
   ·have TD:k*i.size+news.length≤C.size:=by rw [h1,Bp,←Nat.add_mul];exact Nat.mul_le_mul_right _ CG
    have hr:=run_append_room (P:=P) w t ty el i ht hi g k cap C hg ad m r news h1 h2 h3 CG TD;refine⟨_,_,hr, .inr ⟨g,cap,_,rfl,CG,NT,setRow_heap w g C _ el _ hg, ?_, ?_,⟨rfl,rfl,rfl,by simp,fun j _ hj=>setRow_other w g j _ (fun hh=>hj (by rw [hh]))⟩, .inr Tf⟩⟩
    ·simp only [List.size_toArray,Aj,List.length_take,List.length_drop,Array.length_toList];omega
    ·rw [←hold,←hlen];exact List.take_left
   ·have holds: ∀j u,old[j]?=some u→w.cell? ((⟨g,0,none⟩:Addr).add j)=some u:=fun j u hu=>by
     rw [Addr.add_lit,Nat.zero_add,DS hg];rw [hold,List.getElem?_take]at hu;split at hu
     ·simpa using hu
     ·cases hu
    have hr:=run_append_grow (P:=P) w t ty el i z ht hi hz ⟨g,0,none⟩ k cap old ho holds ad m r news h1 h2 (by omega) (by simp only [maxLen]at Qi;omega) (growslice_fits (by omega) hb);obtain⟨C',L1,g1,g2,g3,g4⟩:=grown cap (by omega) (old.toArray++news.toArray) (by simp);obtain⟨n1,n2,n3⟩:=newb C';refine⟨_,_,hr, .inr ⟨_,_,C',rfl,g1,g2, ?_,g3,g4, ?_, .inl ⟨rfl, ?_⟩⟩⟩<;>rw [←L1]<;>first|exact n3|exact n1|exact n2
def Cx.az (c:Cx) (t g':Nat) (w':World) (v:Value) (top O:List Nat):Cx:=
 {c with w:=w',G:=fun u=>if u=t then⟨top,O⟩else c.G u,K:=fun u g=>c.K u g∨(u=t∧g=g'),H:=fun u g=>if u=t∧g=g' then v else c.H u g,U:=fun u=>c.U u∨u=t,E:=fun u=>if u=t then c.E u+1 else c.E u}
theorem Rel.az (h:Rel c n sl hp a) {t g:Nat} (DF:c.A.pin t=none∨g≠0) (AS: ¬c.K t g) {w':World} {row:Option Nat} (hg:c.w.grownBy w' row)
  (DY: ∀g0,row=some g0→g0∈(c.G t).top∨(g0=c.w.heap.size∧g0<w'.heap.size)) {top O:List Nat} (BV:top= []∨ ∃g0,row=some g0∧top= [g0]) (hO:O= []∨O=(c.G t).O) {v:Value} (e1:Af) (Bk: ∀hs f,e1≠ .gd hs f) (k:A2 c.ρ gs)
  (he:CQ c (c.az t g w' v top O)→Co (c.az t g w' v top O) t e1):Rel (c.az t g w' v top O) n sl (AX hp [(t,B9 gs e1)]) a:=by
 have hG: ∀u,(c.az t g w' v top O).G u=if u=t then⟨top,O⟩else c.G u:=fun u=>rfl;have hM: ∀b,(c.az t g w' v top O).M b→c.M b∨row=some b:=by
  rintro b ⟨u,hu⟩;rw [hG]at hu;split at hu
  ·rcases BV with rfl|⟨g0,hr,rfl⟩
   ·simp at hu
   ·simp at hu;subst hu;exact .inr hr
  ·exact .inl ⟨u,hu⟩
 have N6: ∀b,b<c.w.heap.size→c.ok b→row≠some b:=by
  intro b hb AE hr;rcases DY b hr with hh|⟨hh,_⟩
  ·exact AE.1 ⟨t,hh⟩
  ·omega
 have Bv:CQ c (c.az t g w' v top O):=by
  refine⟨rfl,rfl,fun b hb AE=>⟨fun hm=>(hM b hm).elim AE.1 (N6 b hb AE),AE.2⟩,fun b hb AE=>hg.block b hb (fun hh=>N6 b hb AE hh.symm),fun u g1 hu=>⟨.inl hu, ?_⟩,fun u g1 hu=> ?_⟩
  ·simp only [Cx.az];rw [if_neg];rintro⟨rfl,rfl⟩;exact AS hu
  ·by_cases E5:u=t
   ·have e1:(c.az t g w' v top O).E u=c.E u+1:=by simp only [Cx.az,if_pos E5]
    exact⟨by omega,fun h=>by omega⟩
   ·have e1:(c.az t g w' v top O).E u=c.E u:=by simp only [Cx.az,if_neg E5]
    have e2:(c.az t g w' v top O).G u=c.G u:=by simp only [Cx.az,if_neg E5]
    rw [e1];refine⟨Nat.le_refl _,fun _=>⟨e2,fun b hb G6=>hg.block b G6 fun hh=> ?_⟩⟩;rcases DY b hh.symm with h1|⟨h1,_⟩
    ·exact h.gw.cc u t E5 b (by simp [GI.own,hb]) (by simp [GI.own,h1])
    ·omega
 have C1: ∀u,AX hp [(t,B9 gs e1)] u=if u=t then some (B9 gs e1)else hp u:=fun u=>rfl;have K2: ∀u,u≠t→ ∀b∈(c.G u).own,row≠some b:=by
  intro u hu b hb hr;rcases DY b hr with hh|⟨hh,_⟩
  ·exact h.gw.cc u t hu b hb (by simp [GI.own,hh])
  ·have:=h.gw.inb u b hb;omega
 have Br: ∀b∈(⟨top,O⟩:GI).own,row=some b∨b∈(c.G t).own:=by
  intro b hb;simp only [GI.own,Ag]at hb ⊢;rcases hb with hb|hb
  ·rcases BV with rfl|⟨g0,hr,rfl⟩
   ·simp at hb
   ·simp at hb;subst hb;exact .inl hr
  ·rcases hO with rfl|rfl
   ·simp at hb
   ·exact .inr (.inr hb)
 refine h.change (fun u=>u=t) Bv ⟨hg.os.trans h.base.os,hg.tape.trans h.base.tape,hg.output.trans h.base.output,Nat.le_trans h.base.size hg.size,fun u v' hp=>⟨.inl (h.base.pins u v' hp).1,fun hk=> ?_⟩,fun b hb Gc=> ?_,h.base.pk,h.base.lo⟩
  (fun u hu=>⟨by rw [C1,if_neg hu],by rw [hG,if_neg hu],by simp [Cx.az,hu],fun g1 hh=>hh.resolve_right (fun hh=>hu hh.1)⟩) (fun u hu b hb=>hg.block b (h.gw.inb u b (by simp [GI.own,hb])) (fun hh=>K2 u hu b (by simp [GI.own,hb]) hh.symm)) (fun u hu=> ?_) ?_ (fun u g1 hh=> ?_) (fun u f hf=> ?_)
 ·have E5: ¬(u=t∧0=g):=by
   rintro⟨rfl,rfl⟩;rcases DF with hh|hh
   ·have hp':c.A.pin u=some v':=hp;rw [hh]at hp';cases hp'
   ·exact hh rfl
  have Bw:=hk.resolve_right E5;simp only [Cx.az];rw [if_neg E5];exact(h.base.pins u v' hp).2 Bw
 ·refine(hg.block b (Nat.lt_of_lt_of_le hb h.base.size) (fun hh=> ?_)).trans (h.base.block b hb Gc);rcases DY b hh.symm with hh|⟨hh,_⟩
  ·rcases h.gw.allow t b (by simp [GI.own,hh])with h1|h1
   ·exact absurd h1 (Nat.not_le.2 hb)
   ·exact Gc h1
  ·have:=h.base.size;have h9:b<c.w0.heap.size:=hb;omega
 ·subst hu;rw [C1,if_pos rfl];exact⟨fun e' hr=>by rw [(MI k Bk).1 hr];exact he Bv,fun hn=>absurd ((MI k Bk).2 rfl) (hn e1)⟩
 ·have BO:(⟨top,O⟩:GI).own.Nodup:=by
   have h0:=h.gw.nodup t;simp only [GI.own]at h0 ⊢;rw [List.nodup_append]at h0 ⊢;refine⟨by rcases BV with rfl|⟨g0,hr,rfl⟩<;>simp,by rcases hO with rfl|rfl;simp;exact h0.2.1,fun p hp q hq=> ?_⟩;rcases BV with rfl|⟨g0,hr,rfl⟩
   ·simp at hp
   ·simp at hp;subst hp;rcases hO with rfl|rfl
    ·simp at hq
    ·rcases DY p hr with hh|⟨hh,_⟩
     ·exact h0.2.2 p hh q hq
     ·have:=h.gw.inb t q (by simp [GI.own,hq]);omega
  refine⟨fun u=> ?_,fun u u' IK b hb=> ?_,fun u b hb=> ?_,fun u b hb=> ?_⟩
  ·rw [hG];split
   ·exact BO
   ·exact h.gw.nodup u
  ·rw [hG]at hb ⊢;by_cases h1:u=t
   ·rw [if_pos h1]at hb;rw [if_neg (fun hh=>IK (h1.trans hh.symm))];rcases Br b hb with hr|hb
    ·exact fun hh=>K2 u' (fun h2=>IK (h1.trans h2.symm)) b hh hr
    ·exact h.gw.cc t u' (fun hh=>IK (h1.trans hh)) b hb
   ·rw [if_neg h1]at hb;by_cases h2:u'=t
    ·rw [if_pos h2];intro BE;rcases Br b BE with hr|BE
     ·exact K2 u h1 b hb hr
     ·exact h.gw.cc u t h1 b hb BE
    ·rw [if_neg h2];exact h.gw.cc u u' IK b hb
  ·rw [hG]at hb;split at hb
   ·rcases Br b hb with hr|hb
    ·rcases DY b hr with hh|⟨hh,_⟩
     ·exact h.gw.allow t b (by simp [GI.own,hh])
     ·exact .inl (by rw [hh];exact h.base.size)
    ·exact h.gw.allow t b hb
   ·exact h.gw.allow u b hb
  ·rw [hG]at hb;show b<w'.heap.size;split at hb
   ·rcases Br b hb with hr|hb
    ·rcases DY b hr with hh|⟨_,hh⟩
     ·exact Nat.lt_of_lt_of_le (h.gw.inb t b (by simp [GI.own,hh])) hg.size
     ·exact hh
    ·exact Nat.lt_of_lt_of_le (h.gw.inb t b hb) hg.size
   ·exact Nat.lt_of_lt_of_le (h.gw.inb u b hb) hg.size
 ·rcases hh with hh|⟨rfl,_⟩
  ·exact .inl (h.bm u g1 hh)
  ·exact .inr rfl
 ·rw [C1]at hf;split at hf
  ·rename_i hu;exact .inr hu
  ·exact .inl (h.cf u f hf)
theorem cF {w:World} {v:Value} {ys:List AV} {f:List Nat} {sz:Nat} (h:Rd w [v] [.sl ys] f) (hs: ∀y∈ys,y.cells.length=sz):
  ∃q r news N,v= .slice q ys.length r∧Src w sz q ys.length news∧Rd w news (AH ys) N∧(∀b∈N,b∈f)∧news.length=ys.length*sz∧(∀u∈news,u.oneCell'=true):=by
 rcases h.kind with hh|hh|hh|hh|hh|hh|hh|hh|hh|hh
 ·obtain⟨_,_,_,hh,_⟩:=hh;cases hh
 ·obtain⟨_,_,hh,_⟩:=hh;cases hh
 ·obtain⟨_,_,hh,_⟩:=hh;cases hh
 ·obtain⟨p,r,rfl,hh,rfl⟩:=hh;cases hh;refine⟨p,r, [], [],rfl, ?_, .nil,by simp,by simp,by simp⟩;cases p with
  |none=>exact .inl ⟨rfl,rfl,rfl⟩
  |some p=>exact .inr ⟨p,rfl,by simp,by simp,by simp⟩
 ·obtain⟨b,off,m,r,ys',cs,C,t,fz,sz',f1,rfl,hh,rfl,hb,h1,h2,h3,h4,h5,h6,Fc,h7⟩:=hh;cases hh;subst h3;have ES:sz'=sz:=by
   cases ys with
   |nil=>simp at h1
   |cons y ys=>rw [←h4 y (by simp),hs y (by simp)]
  subst ES;have hl:=h7.len;rw [MH ys h4]at hl;exact⟨_,r,cs,f1,rfl, .inr ⟨_,rfl,hl,fun j u hu=>by rw [Addr.add_lit,DS hb];exact h6 j u hu,Fc⟩,h7,fun q hq=>by simp [hq],hl,Fc⟩
 ·obtain⟨_,_,_,hh,_⟩:=hh;cases hh
 ·obtain⟨_,_,_,hh,_⟩:=hh;cases hh
 ·obtain⟨_,_,_,_,_,_,_,hh,_⟩:=hh;cases hh
 ·obtain⟨_,_,_,_,hh,_⟩:=hh;cases hh
 ·obtain⟨_,hh,_⟩:=hh;cases hh
end
section
variable {P:Program} {c:Cx} {n nx:Nat} {sl sl0:Nat→SV} {hp hp0:Nat→Option Af} {a:Act} {o:Oper} {gs:Gd} {e:AO} {sg:BB} {nv:Nat}
theorem LB (hp:Nat→Option Af) (l m:List (Nat × Af)):AX hp (l++m)=AX (AX hp l) m:=by simp [AX,List.foldl_append]
theorem mI (h:Rel c n sl hp a) (hs: ∀t e,hp0 t=some e→hp t=some e) (k:A2 c.ρ gs) {el:TypeId} {s:SV} {v:Value} (hr:SR c [s] [v]) {y:E} (hy:A9 hp0 gs AK s=some y) {fz:List (Nat × Af)} {d:Bool} {ck:Cn} (ht:PB P hp0 gs el s y=some (fz,d,ck)) (hc:ck.den c.ρ):
  ∃ts ys q r news N,CN hp0 gs ts=some fz∧y.den c.ρ= .sl ys∧(∀z∈ys,z.cells.length=P.cellsOf el)∧v= .slice q ys.length r∧Src c.w (P.cellsOf el) q ys.length news∧Rd c.w news (AH ys) N∧(∀b∈N,(c.bg (fz.map (·.1))).ok b)∧(d=true→N= [])∧news.length=ys.length*P.cellsOf el∧ ∀u∈news,u.oneCell'=true:=by
 have eh:EH c hp0:=fun t e hr=>h.ents t e (I9 hs hr);obtain⟨f,q1,q2⟩:=FV eh k AK hy hr AK (Nat.le_refl _);unfold PB at ht;split at ht
 ·simp only [Ae,Prod.mk.injEq]at ht;obtain⟨rfl,rfl,rfl⟩:=ht;obtain⟨ys,CC,At⟩:=hc;rw [CC]at q1;obtain⟨q,r,news,N,hv,g1,g2,g3,g4,g5⟩:=cF q1 (fun z hz=>(At z hz).1);have hN:N= []:=FR g2 (fun x hx=>by
   obtain⟨z,hz,hx⟩:=List.mem_flatMap.1 hx;exact(At z hz).2 x hx)
  exact⟨[],ys,q,r,news,N,rfl,CC,fun z hz=>(At z hz).1,hv,g1,g2,by simp [hN],fun _=>hN,g4,g5⟩
 ·split at ht
  ·rename_i Hj;obtain⟨l,hl,ht⟩:=Ap.1 ht;simp only [Prod.mk.injEq]at ht;obtain⟨rfl,rfl,rfl⟩:=ht;obtain⟨ys,CC,At⟩:=hc;rw [CC]at q1;obtain⟨q,r,news,N,hv,g1,g2,g3,g4,g5⟩:=cF q1 At;exact⟨_,ys,q,r,news,N,hl,CC,At,hv,g1,g2,fun b hb=>Pc h eh k hl Hj (q2 b (g3 b hb)),by simp,g4,g5⟩
  ·cases ht
theorem I0 {el:TypeId} (h:Gk P el=true): ∃i z,P.info? el=some i∧i.zero=some z∧z.cells.size=i.size∧0<i.size∧P.cellsOf el=i.size∧P.bytesOf el=i.bytes:=by
 unfold Gk at h;cases hi:P.info? el with
 |none=>simp [hi]at h
 |some i=>
  cases hz:i.zero with
  |none=>simp [hi,hz]at h
  |some z=>simp only [hi,hz,Ac,beq_iff_eq,bne_iff_ne]at h;exact⟨i,z,rfl,hz,h.1,by omega,by simp [Program.cellsOf,hi],by simp [Program.bytesOf,hi]⟩
theorem Vs (xs ys:List AV):AH (xs++ys)=AH xs++AH ys:=by simp [AH]
theorem Vj (h:Ba P c n nx sl hp a sl0 hp0 o gs) {x y:Operand} {tx:TypeId} {cl:Call} (ho:o.op= .call cl) (At:cl.callee= .builtin .append) (Ct:cl.args.toList= [x,y]) (Dv:cl.argTypes.toList= [tx,tx])
  {el:TypeId} (A7:P.underlying tx=some (.slice el)) (hz:Gk P el=true) {s2:SV} {ye:E} (AQ:Bo sl0 gs y=some s2) (hy:A9 hp0 gs AK s2=some ye) {fz:List (Nat × Af)} {d:Bool} {ck:Cn} (BF:PB P hp0 gs el s2 ye=some (fz,d,ck)) (KM:ck.den c.ρ)
  {t g:Nat} (DF:c.A.pin t=none∨g≠0) {c0:E} {d':Bool} (CG:Cn.den c.ρ (.room c0 ye (P.bytesOf el))) (D0: ∀f,(t,f)∉fz) (AS: ¬c.K t g)
  {top N0:List Nat} {v:Value} (hv:a.eval x=v) (Cu:Cy c.w el (P.cellsOf el) v (c0.den c.ρ) top N0) (BV:(c.G t).top=top) (KH: ∀b∈N0,c.ok b) (Tv:d'=true→NA c.w N0∧(c.G t).O=N0) (IA: ∀g',c.K t g'→g'≤g) (hU: ∀u,u=t→c.U u∨(nx≤u∧u<nx+Bj)) {ckl:List Cn}:
  Ar P o c n nx sl hp gs a {cd:=ckl,val:= .own t g,bb:=fz++ [(t,B9 gs (.row el (P.cellsOf el) g (.app c0 ye) (d&&d')))]}:=by
 have Az:cl.args= #[x,y]:=by apply Array.ext';simp [Ct]
 have Fu:cl.argTypes= #[tx,tx]:=by apply Array.ext';simp [Dv]
 have CV:y∈o.op.operands:=by simp [ho,Op.operands,Call.operands,At,Az]
 obtain⟨i,z,hi,EC,D3,BU,BY,G7⟩:=I0 hz;obtain⟨ts,ys,q,r,news,N,FF,CC,Lg,CL,Hp,Hk,Ez,eV,Qy,T8⟩:=mI h.rel h.hp h.gs (h.cm AQ CV) hy BF KM;have Cq:=h.rel.freeze h.hp h.gs FF;obtain⟨xs,B5,Gf,_,A3⟩:=Cu;obtain⟨mm,kk,FK,CY,Ox,Ul⟩:=CG;rw [B5]at FK;rw [CC]at CY;simp only [AV.len,AV.int.injEq,true_and]at FK CY;have G5:(xs.length+ys.length)*i.bytes≤140737488355328:=by
  rw [←FK,←CY,G7]at Ox;have h9:(((xs.length+ys.length)*i.bytes:Nat):Int)≤140737488355328:=by rw [Int.natCast_mul,Int.natCast_add];exact Ox
  omega
 have G6:xs.length+ys.length≤140737488355328:=by rw [←FK,←CY]at Ul;omega
 rw [BY]at Hp Qy Gf Lg A3;obtain⟨old,hold,FM,CZ,Cc⟩: ∃old,old.length=xs.length*i.size∧((xs.length=0∧ ∃q,v= .slice q 0 0)∨ ∃g cap C,v= .slice (some ⟨g,0,none⟩) xs.length cap∧xs.length≤cap∧cap≤maxLen∧c.w.heap[g]?=some (.cells C el (0,0))∧C.size=cap*i.size∧old=C.toList.take (xs.length*i.size)∧g∈(c.G t).top)∧Rd c.w old (AH xs) N0∧ ∀u∈old,u.oneCell'=true:=by
  rcases A3 with⟨rfl,⟨p,rfl⟩,rfl,rfl⟩|⟨g9,cap,C,rfl,h6,h7,h8,h9,rfl,F4,Fb⟩
  ·exact⟨[],by simp, .inl ⟨rfl,p,rfl⟩, .nil,by simp⟩
  ·refine⟨_, ?_, .inr ⟨g9,cap,C,rfl,h6,h7,h8,h9,rfl,by rw [BV];simp⟩,Fb,F4⟩;have e9:C.toList.length=cap*i.size:=by rw [←h9];simp
   rw [List.length_take,e9];exact Nat.min_eq_left (Nat.mul_le_mul_right _ h6)
 obtain⟨v',w',AG,AN⟩:=bB (P:=P) c.w tx o.type el i z A7 hi EC D3 BU (fun g9=>g9∈(c.G t).top) v xs.length old hold FM q ys.length r news Hp (by simp only [maxLen];omega) G5;have Ec:(execOp a.eval o).run P c.w= .ok (.value v') w':=by simp [execOp,ho,resolve,At,Az,Fu,invoke,builtin,hv,CL,AG]
 intro next Q hk
 unfold Oper.wp;rw [Ec,Oper.upon_value];have eS:(c.bg (fz.map (·.1))).w=c.w:=rfl;have XA:(c.bg (fz.map (·.1))).G t=c.G t:=by simp only [Cx.bg];rw [if_neg];rintro hh;obtain⟨⟨u,f⟩,hf,rfl⟩:=List.mem_map.1 hh;exact D0 f hf
 obtain⟨row,top',N8,DY,OG,Bl,Cr⟩: ∃row top',c.w.grownBy w' row∧(∀g0,row=some g0→g0∈(c.G t).top∨(g0=c.w.heap.size∧g0<w'.heap.size))∧(top'= []∨ ∃g0,row=some g0∧top'= [g0])∧
   (CQ (c.bg (fz.map (·.1))) ((c.bg (fz.map (·.1))).az t g w' v' top' (if(d&&d')=true then(c.G t).O else []))→ ∃N',Cy w' el (P.cellsOf el) v' (.sl (xs++ys)) top' N'∧(∀b∈N',b∈N0∨b∈N)∧((d&&d')=true→N'=N0))∧ ∃p m r,v'= .slice p m r:=by
  rcases AN with⟨rfl,rfl,Dj⟩|⟨g9,cap,C,rfl,h1,h2,h3,h4,h5,h6,h7⟩
  ·have GF:ys= []:=List.eq_nil_of_length_eq_zero Dj;subst GF;refine⟨if top= []then none else top.head?,top,⟨rfl,rfl,rfl,Nat.le_refl _,fun _ _ _=>rfl⟩,fun g0 DY=> .inl ?_, ?_,fun _=>⟨N0, ?_,fun b hb=> .inl hb,fun _=>rfl⟩, ?_⟩
   ·rw [BV];split at DY
    ·cases DY
    ·exact List.mem_of_mem_head? DY
   ·rcases A3 with⟨_,_,rfl,_⟩|⟨g9,_,_,_,_,_,_,_,rfl,_⟩
    ·exact .inl rfl
    ·exact .inr ⟨g9,by simp,rfl⟩
   ·rw [BY];exact⟨xs,by simp,Gf,BU,A3⟩
   ·rcases FM with⟨_,p,rfl⟩|⟨g9,cap,C,rfl,_⟩
    ·exact⟨_,_,_,rfl⟩
    ·exact⟨_,_,_,rfl⟩
  ·refine⟨some g9, [g9],h6,fun g0 DY=> ?_, .inr ⟨g9,rfl,rfl⟩,fun E3=>⟨N0++N,⟨xs++ys,rfl,fun z hz=> ?_,by rw [BY];exact BU, .inr ⟨g9,cap,C,by simp,by simpa using h1,h2,h3,by rw [BY];exact h4,rfl, ?_, ?_⟩⟩,fun b hb=>Ag.1 hb,fun DO=> ?_⟩,_,_,_,rfl⟩
   ·cases DY;exact h7.symm
   ·rcases Ag.1 hz with hz|hz
    ·rw [BY];exact Gf z hz
    ·rw [BY];exact Lg z hz
   ·rw [BY];simp only [Aj];rw [h5];intro u hu;rcases Ag.1 hu with hu|hu
    ·exact Cc u hu
    ·exact T8 u hu
   ·rw [BY];simp only [Aj];rw [h5,Vs];refine Rd.app (CZ.frame fun b hb=> ?_) (Hk.frame fun b hb=> ?_)
    ·have G5:=CZ.inb b hb;exact E3.mem b G5 (Cx.dt (KH b hb))
    ·have G5:=Hk.inb b hb;exact E3.mem b G5 (Ez b hb)
   ·simp only [Ac]at DO;rw [eV DO.1];simp
 obtain⟨p9,m9,r9,gS⟩:=Cr;have CU:=Cq.az (gs:=gs) (t:=t) (g:=g) (w':=w') (row:=row) (top:=top') (O:=if(d&&d')=true then(c.G t).O else []) (v:=v') DF AS N8 (by rw [XA];exact DY) OG (by split;exact .inr (by rw [XA]);exact .inl rfl)
  (.row el (P.cellsOf el) g (.app c0 ye) (d&&d')) (by intros;simp) h.gs (fun E3=>by
   obtain⟨N',o1,o2,o3⟩:=Bl E3;have AE: ∀b∈N',((c.bg (fz.map (·.1))).az t g w' v' top' (if(d&&d')=true then(c.G t).O else [])).ok b:=by
    intro b hb;rcases o2 b hb with hb|hb
    ·exact E3.ok b (CZ.inb b hb) (Cx.dt (KH b hb))
    ·exact E3.ok b (Hk.inb b hb) (Ez b hb)
   refine⟨.inr ⟨rfl,rfl⟩,fun g' B3=> ?_,N', ?_,AE,fun DO=> ?_,fun DO=> ?_⟩
   ·rcases B3 with B3|⟨_,rfl⟩
    ·exact IA g' B3
    ·exact Nat.le_refl _
   ·have e1:((c.bg (fz.map (·.1))).az t g w' v' top' (if(d&&d')=true then(c.G t).O else [])).H t g=v':=by simp [Cx.az]
    have e2:(((c.bg (fz.map (·.1))).az t g w' v' top' (if(d&&d')=true then(c.G t).O else [])).G t).top=top':=by simp [Cx.az]
    rw [e1,e2];show Cy w' el (P.cellsOf el) v' (AV.app (c0.den c.ρ) (ye.den c.ρ)) top' N';rw [B5,CC];exact o1
   ·have Tc:=o3 DO;have Tx:d'=true:=by simp only [Ac]at DO;exact DO.2
    obtain⟨u1,u2⟩:=Tv Tx;subst Tc;refine⟨u1.frame fun b hb=>E3.mem b (CZ.inb b hb) (Cx.dt (KH b hb)), ?_⟩;simp only [Cx.az,if_true,DO];exact u2
   ·simp [Cx.az,DO])
 have Tg:SR ((c.bg (fz.map (·.1))).az t g w' v' top' (if(d&&d')=true then(c.G t).O else [])) [.own t g] [v']:=by rw [gS];exact .own (.inr ⟨rfl,rfl⟩) (by simp [Cx.az]) .nil
 refine hk _ ((c.bg (fz.map (·.1))).az t g w' v' top' (if(d&&d')=true then(c.G t).O else [])) ⟨rfl,rfl,rfl,rfl,fun u hu=> ?_⟩ ?_
 ·rcases hu with hu|rfl
  ·exact .inl hu
  ·exact hU u rfl
 ·have:=CU.put (Tg.mkGd gs h.gs) o.dst;rw [LB];exact this
end
section
variable {P:Program} {c:Cx} {n nx:Nat} {sl sl0:Nat→SV} {hp hp0:Nat→Option Af} {a:Act} {o:Oper} {gs:Gd} {e:AO} {sg:BB} {nv:Nat}
theorem H3 {t el:TypeId} (h:Cf P t=some el):P.underlying t=some (.slice el):=by
 unfold Cf at h;split at h
 ·simp at h;subst h;assumption
 ·cases h
theorem l4 {ts:List Nat} {l:List (Nat × Af)} (k:A2 c.ρ gs) (h:CN hp0 gs ts=some l): ∀t f,(t,f)∈l→ ∃g x f',BR c.ρ (hp0 t) f'∧Jc f' g x:=by intro t f hf;obtain⟨_,_,g,x,f',_,r⟩:=(Lr k h).1 t f hf;exact⟨g,x,f',r⟩
theorem lV (h:Ba P c n nx sl hp a sl0 hp0 o gs) {x y:Operand} {tx ty:TypeId} {cl:Call} (ho:o.op= .call cl) (At:cl.callee= .builtin .append) (Ct:cl.args.toList= [x,y]) (Dv:cl.argTypes.toList= [tx,ty])
  {s1 s2:SV} (Bq:Bo sl0 gs x=some s1) (AQ:Bo sl0 gs y=some s2) (he:V9 P hp0 gs nx tx ty s1 s2=some e) (hc: ∀q∈e.cd,Cn.den c.ρ q):Ar P o c n nx sl hp gs a e:=by
 have Az:cl.args= #[x,y]:=by apply Array.ext';simp [Ct]
 have Dk:x∈o.op.operands:=by simp [ho,Op.operands,Call.operands,At,Az]
 unfold V9 at he;split at he
 ·cases he
 rename_i Lb;have Lb:tx=ty:=by simpa using Lb
 subst Lb;split at he
 ·rename_i el A7;have A7:=H3 A7;split at he
  ·cases he
  rename_i hz;have hz:Gk P el=true:=by simpa using hz
  split at he
  ·cases he
  rename_i ye hy;split at he
  ·cases he
  rename_i fz d ck BF;obtain⟨ts,FF⟩: ∃ts,CN hp0 gs ts=some fz:=by
   unfold PB at BF;split at BF
   ·simp only [Ae,Prod.mk.injEq]at BF;obtain⟨rfl,_⟩:=BF;exact⟨[],rfl⟩
   ·split at BF
    ·obtain⟨l,hl,BF⟩:=Ap.1 BF;simp only [Prod.mk.injEq]at BF;obtain⟨rfl,_⟩:=BF;exact⟨_,hl⟩
    ·cases BF
  have r1:=h.cm Bq Dk;have fresh: ∀f,(nx,f)∉fz:=fun f hf=>by
   obtain⟨_,_,_,r,_⟩:=l4 (c:=c) h.gs FF nx f hf;have r:=I9 h.hp r;cases hh:hp nx with
   |none=>rw [hh]at r;exact r.elim
   |some e9=>exact LC h (h.rel.cf nx e9 hh)
  have hK: ∀g,¬c.K nx g:=fun g hg=>LC h (h.rel.bm _ _ hg);have EO:=h.rel.off nx (fun e9 hr=>by
   cases hh:hp nx with
   |none=>rw [hh]at hr;exact hr.elim
   |some e8=>exact LC h (h.rel.cf nx e8 hh))
  have QA:c.A.pin nx=none:=by
   cases hh:c.A.pin nx with
   |none=>rfl
   |some v=>exact absurd (h.rel.base.pins nx v hh).1 (LC h)
  have XG: ∀u,u=nx→c.U u∨(nx≤u∧u<nx+Bj):=fun u hu=> .inr ⟨by omega,by rw [hu];simp [Bj]⟩;have X5:P.cellsOf el≠0:=by obtain⟨i,_,_,_,_,h1,h2,_⟩:=I0 hz;omega
  split at he
  ·rename_i t g;split at he
   ·rename_i e' sz' g' c0 d' hl;split at he
    ·rename_i hh;obtain⟨rfl,rfl,rfl,rfl,D0⟩:=hh;simp only [Ae]at he;subst he;have Eb:=Ce hl h.gs;obtain⟨q1,q2,N,q3,q4,q5,q6⟩:=h.eh t _ Eb;generalize hv:a.eval x=v at r1;cases r1 with
     |own k1 k2 _=>
      have:=Vj (nx:=nx) h ho At Ct Dv A7 hz AQ hy BF (hc _ (by simp)) (t:=t) (g:=g+1) (.inr (by omega)) (c0:=c0) (d':=d') (hc _ (by simp)) (fun f hf=>by simp only [Bool.not_eq_true',List.contains_eq_mem,decide_eq_false_iff_not]at D0;exact D0 (List.mem_map.2 ⟨_,hf,rfl⟩)) (fun hh=>by have:=q2 _ hh;omega) hv (by rw [←k2];exact q3) rfl q4 q5 (fun g' B3=>by have:=q2 _ B3;omega) (fun u hu=> .inl (by rw [hu];exact h.rel.bm t g q1)) (ckl:= [.room c0 ye (P.bytesOf el),ck])
      exact this
    ·cases he
   ·cases he
  ·simp only [Ae]at he;subst he;generalize hv:a.eval x=v at r1;cases r1 with
   |emp _=>have:=Vj (nx:=nx) h ho At Ct Dv A7 hz AQ hy BF (hc _ (by simp)) (t:=nx) (g:=0) (.inl QA) (c0:= .lst .nil) (d':=true) (top:= []) (N0:= []) (hc _ (by simp)) fresh (hK 0) hv ⟨[],rfl,by simp,by omega, .inl ⟨rfl,⟨_,rfl⟩,rfl,rfl⟩⟩ EO.1 (by simp) (fun _=>⟨rfl,EO.2⟩) (fun g' B3=>absurd B3 (hK g')) XG (ckl:= [.room (.lst .nil) ye (P.bytesOf el),ck]);rw [Bool.and_true]at this;exact this
  ·simp only [Ae]at he;subst he;generalize hv:a.eval x=v at r1;cases r1 with
   |bp _=>have:=Vj (nx:=nx) h ho At Ct Dv A7 hz AQ hy BF (hc _ (by simp)) (t:=nx) (g:=0) (.inl QA) (c0:= .lst .nil) (d':=true) (top:= []) (N0:= []) (hc _ (by simp)) fresh (hK 0) hv ⟨[],rfl,by simp,by omega, .inl ⟨rfl,⟨_,rfl⟩,rfl,rfl⟩⟩ EO.1 (by simp) (fun _=>⟨rfl,EO.2⟩) (fun g' B3=>absurd B3 (hK g')) XG (ckl:= [.room (.lst .nil) ye (P.bytesOf el),ck]);rw [Bool.and_true]at this;exact this
  ·cases he
 ·cases he
end
section
variable {P:Program} {c:Cx} {n nx:Nat} {sl sl0:Nat→SV} {hp hp0:Nat→Option Af} {a:Act} {o:Oper} {gs:Gd} {e:AO} {sg:BB} {nv:Nat}
theorem OY: ∀{ts us:List Nat} {l m:List (Nat × Af)},CN hp0 gs ts=some l→CN hp0 gs us=some m→CN hp0 gs (ts++us)=some (l++m)
 | [],us,l,m,h,k=>by simp [CN]at h;subst h;simpa using k
 |t::ts,us,l,m,h,k=>by
  unfold CN at h;simp only [List.cons_append];unfold CN;split at h
  ·rename_i ety sz g x d l' hl Bm;have ih:=OY Bm k;split at h
   ·rename_i hg;simp at h;subst h;simp [hl,ih,hg]
   ·cases h
  ·rename_i ety sz dl g ep x l' hl Bm;have ih:=OY Bm k;split at h
   ·rename_i hg;simp at h;subst h;simp [hl,ih,hg]
   ·cases h
  ·rename_i g x l' hl Bm;have ih:=OY Bm k;simp at h;subst h;simp [hl,ih]
  ·rename_i ty g cs l' hl Bm;have ih:=OY Bm k;simp at h;subst h;simp [hl,ih]
  ·cases h
theorem Y5 {ts us:List Nat} (hs: ∀t∈ts,t∈us) {b:Nat} (h:(c.bg ts).ok b):(c.bg us).ok b:=by refine⟨fun hm=>h.1 ?_,h.2⟩;obtain⟨u,hu,hb⟩:=Cx.gu hm;exact⟨u,by simp only [Cx.bg];rw [if_neg (fun hh=>hu (hs u hh))];exact hb⟩
theorem V8 {w:World} {v:Value} {x:AV} {f:List Nat} {t:TypeId} (h:Rd w [v] [x] f) (hg:Ak P t=true∨P.cellsOf t=1) (hx:if Ak P t then∃cs,x= .agg cs∧cs.length=P.cellsOf t else(∀cs,x≠ .agg cs)∧ ∀cs,x≠ .tup cs):
  Rd w v.cells.toList x.cells f∧(∀u∈v.cells.toList,u.oneCell'=true)∧x.cells.length=P.cellsOf t∧v.cells.size=P.cellsOf t:=by
 split at hx
 ·obtain⟨cs,rfl,hl⟩:=hx;obtain⟨as_,rfl,h1,h2⟩:=HK h rfl;have:=h2.len;exact⟨by simpa [Value.cells,AV.cells]using h2,by simpa [Value.cells]using h1,hl,by simp [Value.cells];omega⟩
 ·rename_i fW;have h1:P.cellsOf t=1:=by rcases hg with h'|h';exact absurd h' fW;exact h'
  have Cc:=Vw h hx.1 hx.2;have Gf:x.cells= [x]:=by cases x<;>first|rfl|exact absurd rfl (hx.1 _)
  rw [one_cells Cc,Gf];exact⟨by simpa using h,by simpa using Cc,by simp [h1],by simp [h1]⟩
theorem YP (h:Rel c n sl hp a) (hs: ∀t e,hp0 t=some e→hp t=some e) (k:A2 c.ρ gs) {t:TypeId} (hg:Ak P t=true∨P.cellsOf t=1): ∀(ss:List SV) (vs:List Value) {xs:List E} {fz:List (Nat × Af)} {d:Bool} {ck:List Cn},SR c ss vs→Px P hp0 gs t ss=some (xs,fz,d,ck)→(∀q∈ck,q.den c.ρ)→
  ∃N,Rd c.w (vs.flatMap fun v=>v.cells.toList) (AH (xs.map (E.den c.ρ))) N∧(d=true→N= [])∧(∃ts,CN hp0 gs ts=some fz)∧(∀b∈N,(c.bg (fz.map (·.1))).ok b)∧(∀v∈vs,v.cells.size=P.cellsOf t∧ ∀u∈v.cells.toList,u.oneCell'=true)∧(∀x∈xs,(x.den c.ρ).cells.length=P.cellsOf t)∧xs.length=vs.length
 | [],vs,xs,fz,d,ck,hr,ht,hc=>by simp [Px]at ht;obtain⟨rfl,rfl,rfl,rfl⟩:=ht;cases hr;exact⟨[],by simpa [AH]using Rd.nil,fun _=>rfl,⟨[],rfl⟩,by simp,by simp,by simp,rfl⟩
 |s::ss, [],xs,fz,d,ck,hr,ht,hc=>by have:=hr.len;simp at this
 |s::ss,v::vs,xs,fz,d,ck,hr,ht,hc=>by
  obtain⟨r1,r2⟩:=hr.br;unfold Px at ht;split at ht
  ·rename_i x fz1 d1 ck1 xs2 fz2 d2 ck2 h1 h2;simp only [Ae,Prod.mk.injEq]at ht;obtain⟨rfl,rfl,rfl,rfl⟩:=ht;obtain⟨f,q1,q2,⟨ts1,q3,q4⟩,q5⟩:=YM h hs k r1 h1 (fun q hq=>hc q (by simp [hq]));obtain⟨N,p1,p2,⟨ts2,p3⟩,p4,p5,p6,p7⟩:=YP h hs k hg ss vs r2 h2 (fun q hq=>hc q (by simp [hq]));obtain⟨o1,o2,o3,o4⟩:=V8 (P:=P) q1 hg q5;refine⟨f++N, ?_,fun hd=> ?_,⟨_,OY q3 p3⟩,fun b hb=> ?_, ?_, ?_,by simp [p7]⟩
   ·simpa [AH]using o1.app p1
   ·simp only [Ac]at hd;rw [q2 hd.1,p2 hd.2];rfl
   ·rcases Ag.1 hb with hb|hb
    ·exact Y5 (fun t ht=>by simp only [List.map_append,Ag];exact .inl ht) (q4 b hb)
    ·exact Y5 (fun t ht=>by simp only [List.map_append,Ag];exact .inr ht) (p4 b hb)
   ·intro u hu;rcases Ad.1 hu with rfl|hu
    ·exact⟨o4,o2⟩
    ·exact p5 u hu
   ·intro u hu;rcases Ad.1 hu with rfl|hu
    ·exact o3
    ·exact p6 u hu
  ·cases ht
theorem Wb {sz:Nat} (place:Nat→Option (Nat × Nat)) (K6: ∀i,place i=some (i*sz,sz)): ∀(vs:List Value) (k:Nat) (C:Array Value) (pre suf:List Value),C.toList=pre++suf→pre.length=k*sz→suf.length=vs.length*sz→(∀v∈vs,v.cells.size=sz)→
  ∃C',Instr.fill place C ((vs.zipIdx k).map fun p=>(p.2,p.1))=some C'∧C'.toList=pre++vs.flatMap fun v=>v.cells.toList
 | [],k,C,pre,suf,h,_,h2,_=>by have:suf= []:=List.eq_nil_of_length_eq_zero (by simpa using h2);subst this;exact⟨C,rfl,by simpa using h⟩
 |v::vs,k,C,pre,suf,h,h1,h2,h3=>by
  have hv:=h3 v (by simp);simp only [An,Nat.add_mul,Nat.one_mul]at h2;have hC:C.size=pre.length+suf.length:=by rw [←Array.length_toList,h,Aj]
  have JD:(v.cells.zipIdx.foldl (fun cs (p:Value × Nat)=>cs.setIfInBounds (k*sz+p.2) p.1) C).toList=setVs C.toList (k*sz) v.cells.toList:=by have:=aP v.cells.toList 0 (k*sz) C (by simp;omega);rw [←Array.foldl_toList,Array.toList_zipIdx];simpa using this
  have Uo:setVs C.toList (k*sz) v.cells.toList=(pre++v.cells.toList)++suf.drop sz:=by unfold setVs;rw [h,←h1,List.take_left' rfl];congr 1;rw [List.drop_append,List.drop_eq_nil_of_le (by omega)];simp [hv]
  obtain⟨C',g1,g2⟩:=Wb place K6 vs (k+1) (v.cells.zipIdx.foldl (fun cs (p:Value × Nat)=>cs.setIfInBounds (k*sz+p.2) p.1) C) (pre++v.cells.toList) (suf.drop sz) (by rw [JD,Uo]) (by simp [h1,hv,Nat.add_mul]) (by simp;omega) (fun u hu=>h3 u (by simp [hu]));refine⟨C', ?_,by rw [g2];simp⟩;simp only [List.zipIdx_cons,List.map_cons];unfold Instr.fill;simp only [K6];rw [if_neg (by simp [hv];omega)];exact g1
theorem Ar.newRow (h:Ba P c n nx sl hp a sl0 hp0 o gs) {ts:List Nat} {fz:List (Nat × Af)} (FF:CN hp0 gs ts=some fz) {el:TypeId} {C:Array Value} {cap:Nat} {xs:List AV} {x:E} {d:Bool} {N:List Nat} {ckl:List Cn} {wd:World} (gV:wd.heap=c.w.heap∧wd.os=c.w.os∧wd.tape=c.w.tape∧wd.output=c.w.output)
  (hr:(execOp a.eval o).run P c.w= .ok (.value (.slice (some ⟨c.w.heap.size,0,none⟩) xs.length cap)) (wd.alloc (.cells C el))) (hx:x.den c.ρ= .sl xs) (BU:P.cellsOf el≠0) (At: ∀y∈xs,y.cells.length=P.cellsOf el) (hle:xs.length≤cap) (G8:cap≤maxLen) (hC:C.size=cap*P.cellsOf el)
  (h1: ∀u∈C.toList.take (xs.length*P.cellsOf el),u.oneCell'=true) (hN:Rd c.w (C.toList.take (xs.length*P.cellsOf el)) (AH xs) N) (Ez: ∀b∈N,(c.bg (fz.map (·.1))).ok b) (hd:d=true→N= []):
  Ar P o c n nx sl hp gs a {cd:=ckl,val:= .own nx 0,bb:=fz++ [(nx,B9 gs (.row el (P.cellsOf el) 0 x d))]}:=by
 intro next Q hk
 unfold Oper.wp;rw [hr,Oper.upon_value];have hU:=LC h;have Cq:=h.rel.freeze h.hp h.gs FF;have hK: ∀g,¬c.K nx g:=fun g hg=>hU (h.rel.bm _ _ hg);have QA:c.A.pin nx=none:=by
  cases hh:c.A.pin nx with
  |none=>rfl
  |some v=>exact absurd (h.rel.base.pins nx v hh).1 hU
 have EO:=h.rel.off nx (fun e9 hr=>by
  cases hh:hp nx with
  |none=>rw [hh]at hr;exact hr.elim
  |some e8=>exact hU (h.rel.cf nx e8 hh))
 obtain⟨w1,w2,w3,w4⟩:=gV;have TJ:c.w.grownBy (wd.alloc (.cells C el)) (some c.w.heap.size):=by
  refine⟨w2,w3,w4, ?_,fun k hk _=> ?_⟩
  ·show c.w.heap.size≤(wd.heap.push _).size;simp [w1]
  ·have:=Below.heap_alloc wd (.cells C el) k (by rw [w1];exact hk);rw [this,w1]
 have JO:(wd.alloc (.cells C el)).heap[c.w.heap.size]?=some (.cells C el (0,0)):=by have:=heap_alloc_new wd (.cells C el);rw [w1]at this;exact this
 have AD:c.w.heap.size<(wd.alloc (.cells C el)).heap.size:=Fy JO;have hO:(c.bg (fz.map (·.1))).G nx=⟨[], []⟩∨((c.bg (fz.map (·.1))).G nx).O= []:=by
  right;simp only [Cx.bg];split
  ·rfl
  ·exact EO.2
 have CU:=Cq.az (gs:=gs) (t:=nx) (g:=0) (w':=wd.alloc (.cells C el)) (row:=some c.w.heap.size) (top:= [c.w.heap.size]) (O:= []) (v:= .slice (some ⟨c.w.heap.size,0,none⟩) xs.length cap) (.inl QA) (hK 0) TJ (fun g0 DY=>by cases DY;exact .inr ⟨rfl,AD⟩) (.inr ⟨_,rfl,rfl⟩) (.inl rfl)
  (.row el (P.cellsOf el) 0 x d) (by intros;simp) h.gs (fun E3=>by
   refine⟨.inr ⟨rfl,rfl⟩,fun g' B3=> ?_,N, ?_,fun b hb=>E3.ok b (hN.inb b hb) (Ez b hb),fun DO=> ?_,fun _=>by simp [Cx.az]⟩
   ·rcases B3 with B3|⟨_,rfl⟩
    ·exact absurd B3 (hK g')
    ·exact Nat.le_refl _
   ·have e1:((c.bg (fz.map (·.1))).az nx 0 (wd.alloc (.cells C el)) (.slice (some ⟨c.w.heap.size,0,none⟩) xs.length cap) [c.w.heap.size] []).H nx 0= .slice (some ⟨c.w.heap.size,0,none⟩) xs.length cap:=by simp [Cx.az]
    have e2:(((c.bg (fz.map (·.1))).az nx 0 (wd.alloc (.cells C el)) (.slice (some ⟨c.w.heap.size,0,none⟩) xs.length cap) [c.w.heap.size] []).G nx).top= [c.w.heap.size]:=by simp [Cx.az]
    rw [e1,e2];show Cy (wd.alloc (.cells C el)) el (P.cellsOf el) _ (x.den c.ρ) _ N;rw [hx];exact⟨xs,rfl,At,by omega, .inr ⟨_,cap,C,rfl,hle,G8,JO,hC,rfl,h1,hN.frame fun b hb=>E3.mem b (hN.inb b hb) (Ez b hb)⟩⟩
   ·rw [hd DO];exact⟨rfl,by simp [Cx.az]⟩)
 have Tg:SR ((c.bg (fz.map (·.1))).az nx 0 (wd.alloc (.cells C el)) (.slice (some ⟨c.w.heap.size,0,none⟩) xs.length cap) [c.w.heap.size] []) [.own nx 0] [.slice (some ⟨c.w.heap.size,0,none⟩) xs.length cap]:=
  .own (.inr ⟨rfl,rfl⟩) (by simp [Cx.az]) .nil
 refine hk _ ((c.bg (fz.map (·.1))).az nx 0 (wd.alloc (.cells C el)) (.slice (some ⟨c.w.heap.size,0,none⟩) xs.length cap) [c.w.heap.size] []) ⟨rfl,rfl,rfl,rfl,fun u hu=> ?_⟩ ?_
 ·rcases hu with hu|rfl
  ·exact .inl hu
  ·exact .inr ⟨Nat.le_refl _,by simp [Bj]⟩
 ·have:=CU.put (Tg.mkGd gs h.gs) o.dst;rw [LB];exact this
theorem Yv {t el:TypeId} (hu:P.underlying t=some (.slice el)) (A8:CA P el=true) {i:TypeInfo} {z:Value} (hi:P.info? el=some i) (hz:i.zero=some z) (BY:P.cellsOf el=i.size) (m:Nat) (hle:m*i.size≤2^24) (parts:Array (Nat × Value)) (C:Array Value)
  (hf:Instr.fill (fun j=>some (j*i.size,i.size)) ((Array.range (m*i.size)).map (fun j=>(if m*i.size=0 then #[]else z.cells)[j % (if m*i.size=0 then #[]else z.cells).size]!)) parts.toList=some C) (w:World):
  (Instr.buildSlice t m parts).run P w= .ok (.slice (some ⟨w.heap.size,0,none⟩) m m) (w.alloc (.cells C el)):=by
 have TY: ¬(2^24<m*i.size):=by omega
 have GC:Array.range 0= #[]:=rfl;by_cases h0:m*i.size=0
 ·simp only [h0,if_true,GC]at hf;have NW: ∀f:Nat→Value,Array.map f #[]= #[]:=fun f=>by simp
  rw [NW]at hf;simp only [Instr.buildSlice,Sem.run_bind,run_underlying hu,Result.andThen_ok,Lv A8,BY];simp [h0,GC,hf,newRow]
 ·simp only [h0,if_false]at hf;simp only [Instr.buildSlice,Sem.run_bind,run_underlying hu,Result.andThen_ok,Lv A8,BY];simp [h0,TY,zeroValue,typeInfo,hi,hz,hf,newRow]
theorem jZ (h:Ba P c n nx sl hp a sl0 hp0 o gs) {t:TypeId} {m:Nat} {parts:Array (Nat × Operand)} (ho:o.op= .buildSlice t m parts) {ps:List (Nat × SV)} (JS:parts.toList.mapM (fun(p:Nat × Operand)=>(Bo sl0 gs p.2).map fun s=>(p.1,s))=some ps) (he:Vi P hp0 gs nx t m ps=some e) (hc: ∀q∈e.cd,Cn.den c.ρ q):Ar P o c n nx sl hp gs a e:=by
 obtain⟨e1,e2⟩:=RX (c:=c) (a:=a) (parts.toList.map (·.2)) (fun x s hx hm=>h.cm hx (by simpa [ho,Op.operands]using hm)) (fun x hx=>List.mem_map.2 ⟨x,hx,rfl⟩) JS;unfold Vi at he;split at he
 ·rename_i el A7;have A7:=H3 A7;split at he
  ·cases he
  rename_i Ax;simp only [not_or,Bool.not_eq_true',Bool.not_eq_false',ne_eq,Bool.not_eq_false,Nat.not_lt,Decidable.not_not]at Ax;obtain⟨hz,A8,As,hle,Dx⟩:=Ax;have As:Ak P el=true∨P.cellsOf el=1:=by simpa using As
  obtain⟨i,z,hi,EC,D3,BU,BY,G7⟩:=I0 hz;split at he
  ·rename_i xs fz d ck OE;split at he
   ·simp only [Ae]at he;subst he;obtain⟨N,p1,p2,⟨ts,p3⟩,p4,p5,p6,p7⟩:=YP h.rel h.hp h.gs As (ps.map (·.2)) (parts.toList.map fun p=>a.eval p.2) e2 OE hc;have hlen:(parts.toList.map fun p=>a.eval p.2).length=m:=by
     have:ps.length=m:=by have:=congrArg List.length Dx;simpa using this
     have h9:=congrArg List.length e1;simp at h9 ⊢;omega
    have Ft:(parts.map fun(x:Nat × Operand)=>(x.1,a.eval x.2)).toList=((parts.toList.map fun p=>a.eval p.2).zipIdx 0).map fun p=>(p.2,p.1):=by
     have Hg:parts.toList.map (·.1)=List.range m:=by rw [←e1,Dx]
     apply List.ext_getElem?;intro j;have hj:(parts.toList.map (·.1))[j]?=(List.range m)[j]?:=by rw [Hg]
     simp only [Array.toList_map,List.getElem?_map,List.getElem?_zipIdx]at hj ⊢;cases hp:parts.toList[j]? with
     |none=>simp
     |some p=>
      rw [hp]at hj;simp only [Option.map_some,Ae]at hj ⊢;have TS:j<m:=by
       rcases Nat.lt_or_ge j m with hh|hh
       ·exact hh
       ·rw [List.getElem?_eq_none (by simpa using hh)]at hj;cases hj
      rw [List.getElem?_range TS]at hj;simp at hj;simp [hj]
    obtain⟨C',f1,f2⟩:=Wb (sz:=i.size) (fun j=>some (j*i.size,i.size)) (fun j=>rfl) (parts.toList.map fun p=>a.eval p.2) 0 ((Array.range (m*i.size)).map (fun j=>(if m*i.size=0 then #[]else z.cells)[j % (if m*i.size=0 then #[]else z.cells).size]!)) [] _ (by simp;rfl) (by simp) (by simp [hlen]) (fun v hv=>by rw [←BY];exact(p5 v hv).1);have C4:C'.toList.length=m*P.cellsOf el:=by
     rw [f2,BY];simp only [List.nil_append];have: ∀(L:List Value),(∀v∈L,v.cells.size=i.size)→(L.flatMap fun v=>v.cells.toList).length=L.length*i.size:=by
      intro L
      induction L with
      |nil=>intro _;simp
      |cons v L ih=>intro hL;simp only [List.flatMap_cons,Aj,An,Array.length_toList];rw [ih (fun u hu=>hL u (by simp [hu])),hL v (by simp),Nat.add_mul];omega
     rw [this _ (fun v hv=>by rw [←BY];exact(p5 v hv).1),hlen]
    have Hu:(xs.map (E.den c.ρ)).length=m:=by rw [List.length_map,p7,hlen]
    have B4:C'.toList.take ((xs.map (E.den c.ρ)).length*P.cellsOf el)=(parts.toList.map fun p=>a.eval p.2).flatMap fun v=>v.cells.toList:=by rw [Hu,←C4,List.take_length,f2];simp
    refine Ar.newRow (xs:=xs.map (E.den c.ρ)) (N:=N) (C:=C') (cap:=m) (wd:=c.w) h p3 ⟨rfl,rfl,rfl,rfl⟩ ?_ (by simp [E.den,EL.cy]) (by omega) (fun y hy=> ?_) (by omega) (by simp only [maxLen];have:m*1≤m*P.cellsOf el:=Nat.mul_le_mul_left _ (by omega);omega) (by rw [←Array.length_toList,C4]) ?_ (by rw [B4];exact p1) p4 p2
    ·rw [Hu];have AG:=Yv (P:=P) A7 A8 hi EC BY m (by rw [←BY];omega) (parts.map fun(x:Nat × Operand)=>(x.1,a.eval x.2)) C' (by rw [Ft];exact f1) c.w;simp only [execOp,ho,Sem.run_bind];rw [AG];rfl
    ·obtain⟨q,hq,rfl⟩:=List.mem_map.1 hy;exact p6 q hq
    ·rw [B4];intro u hu;obtain⟨v,hv,hu⟩:=List.mem_flatMap.1 hu;exact(p5 v hv).2 u hu
   ·cases he
  ·cases he
 ·cases he
end
end Go.Proofs.YtagokdejdanfcaaGreatDoor
end

/- Parts of a proof, joined: WA, VJa, VK, VL, VM, VN, VO, VP, VQ, VR, VS, VT, VU, VV, VW. -/
import Derived.Test.YtmbknelgbjlhnaaGreatG2
import Derived.WalkSpells
import Derived.Laws.BytesArg
set_option linter.unusedVariables false
set_option linter.unusedSimpArgs false
section
namespace Go.Proofs.YtmbknelgbjlhnaaGreat
open Go.RowKit
theorem Hr: ∀{l:List (Nat × Ad)} {t:Nat} {e:Ad},Aw l t=some e→(t,e)∈l
 | [],_,_,h=>by simp [Aw]at h
 |(u,f)::l,t,e,h=>by
  simp only [Aw]at h;split at h
  ·rename_i hu;subst hu;simp at h;subst h;simp
  ·exact List.mem_cons_of_mem _ (Hr h)
theorem K7 {α:Type}: ∀{l:List (Nat × α)} {t:Nat} {e:α},l.lookup t=some e→(t,e)∈l
 | [],_,_,h=>by simp at h
 |(u,f)::l,t,e,h=>by
  simp only [List.lookup_cons]at h;split at h
  ·rename_i hu;simp at h hu;subst h;subst hu;simp
  ·exact List.mem_cons_of_mem _ (K7 h)
theorem W3: ∀{θ:List (Nat × Option Nat)},Li θ=true→ ∀{t u v:Nat},(t,some v)∈θ→(u,some v)∈θ→t=u
 | [],_,t,u,v,h,_=>by simp at h
 |(p,q)::θ,hn,t,u,v,h1,h2=>by
  have sR:Li θ=true:=by cases q<;>(simp only [Li,Ac]at hn;exact hn.2)
  have key: ∀x,(p,some v)=(p,q)→(x,some v)∈θ→False:=by intro x hq hx;cases hq;simp only [Li,Ac,A9]at hn;have:=hn.1 _ hx;simp at this
  rcases Ae.1 h1 with h3|h3<;>rcases Ae.1 h2 with h4|h4
  ·cases h3;cases h4;rfl
  ·cases h3;exact(key u rfl h4).elim
  ·cases h4;exact(key t rfl h3).elim
  ·exact W3 sR h3 h4
def Bz (hp:List (Nat × Ad)) (t:Nat):Option Nat:=match Aw hp t with
 |some (.box ..)=>some 0
 |some (.row _ _ g _ _)=>some g
 |some (.cc g _)=>some g
 |some (.deep _ _ _ g _ _)=>some g
 |_=>none
def F2 (hp:List (Nat × Ad)) (t:Nat):Bool:=match Aw hp t with
 |some (.box ..)=>true
 |some (.row ..)=>true
 |some (.deep ..)=>true
 |_=>false
def JJ (pat leaf:Option Ad) (g:GI):GI:=match pat,leaf with
 |some (.row ..),some (.deep ..)=>⟨g.top.take 1, []⟩
 |_,_=>g
theorem wG {p l:Option Ad} {g:GI} {b:Nat} (h:b∈(JJ p l g).top):b∈g.top:=by
 unfold JJ at h;split at h
 ·exact List.mem_of_mem_take h
 ·exact h
theorem uX {p l:Option Ad} {g:GI} {b:Nat} (h:b∈(JJ p l g).own):b∈g.own:=by
 unfold JJ at h;split at h
 ·simp only [GI.own,List.append_nil]at h;simp [GI.own,List.mem_of_mem_take h]
 ·exact h
theorem zx9 {p l:Option Ad} {g:GI} (h:g.own.Nodup):(JJ p l g).own.Nodup:=by
 unfold JJ;split
 ·simp only [GI.own,List.append_nil]at h ⊢;exact List.Sublist.nodup (List.Sublist.trans (List.take_sublist _ _) (List.sublist_append_left _ _)) h
 ·exact h
def CC (c:Cx) (ρ:List AV) (θ:List (Nat × Option Nat)) (pat leaf:St):Cx:=
 {c with
  ρ:=ρ
  G:=fun t=>if F2 pat.hp t then(match θ.lookup t with|some (some t')=>JJ (Aw pat.hp t) (Aw leaf.hp t') (c.G t')|_=>⟨[], []⟩)else⟨[], []⟩
  K:=fun t g=>Bz pat.hp t=some g
  H:=fun t _=>match θ.lookup t with|some (some t')=>c.H t' ((Bz leaf.hp t').getD 0)|_=> .slice none 0 0
  U:=fun t=>t<pat.nx
  E:=fun t=>match Aw pat.hp t with|some (.deep _ _ _ _ ep _)=>ep|_=>0}
section
variable {c:Cx} {ρ:List AV} {nv n:Nat} {es:List E} {θ:List (Nat × Option Nat)} {pat leaf:St} {sl:Nat→SV} {a:Act}
theorem Le {t b:Nat} (h:b∈((CC c ρ θ pat leaf).G t).own):F2 pat.hp t=true∧ ∃t',θ.lookup t=some (some t')∧(b∈((CC c ρ θ pat leaf).G t).top→b∈(c.G t').top)∧b∈(c.G t').own:=by
 simp only [CC]at h ⊢;split at h
 ·rename_i ho;split at h
  ·rename_i t' ht;exact⟨ho,t',ht,fun hb=>by rw [if_pos ho]at hb;exact wG hb,uX h⟩
  ·simp [GI.own]at h
 ·simp [GI.own]at h
theorem OQ {b:Nat} (h:c.ok b):(CC c ρ θ pat leaf).ok b:=by refine⟨fun⟨t,ht⟩=> ?_,h.2⟩;obtain⟨_,t',_,hg,_⟩:=Le (b:=b) (by simp only [GI.own,Ag];exact .inl ht);exact h.1 ⟨t',hg ht⟩
theorem J1 (hp:ρ<+:c.ρ) (hn:ρ.length=nv) {x y:E} (h:Ia nv es x y=true):x.den (ρ++(EL.of es).den c.ρ)=y.den c.ρ:=by
 obtain⟨τ,hτ⟩:=hp;have Jt:x.sc nv=true→x.beq y=true→x.den (ρ++(EL.of es).den c.ρ)=y.den c.ρ:=by intro h1 h2;rw [←E.ah c.ρ x y h2];subst hn;generalize hq:(EL.of es).den c.ρ=q;rw [E.ar ρ q τ x h1,hτ]
 unfold Ia at h;split at h
 ·rename_i i;split at h
  ·rename_i hi;exact Jt (by simpa [E.sc]using hi) h
  ·rename_i hi;split at h
   ·rename_i z hz;rw [←E.ah c.ρ z y h];simp only [E.den,EL.du];rw [List.getElem?_append_right (by omega),hn,List.getElem?_map,hz];rfl
   ·cases h
 ·simp only [Ac]at h;exact Jt h.1 h.2
theorem uK (Am:Rel c n sl (Aw leaf.hp) a) {s:SV} {v:Value} {y:E} (hs:SR c [s] [v]) (h:Hy leaf s=some y): ∃f,Rd c.w [v] [y.den c.ρ] f∧ ∀b∈f,c.fg (Bv (Aw leaf.hp) [] (AN+1) [s]) b:=
 Gt (fun t e hr=>Am.ents t e hr) (D3 _) AN h hs AN (Nat.le_refl _)
mutual
theorem jQ (Am:Rel c n sl (Aw leaf.hp) a) (hp:ρ<+:c.ρ) (hn:ρ.length=nv) (BO: ∀t e,(t,e)∈pat.hp→G9 nv es θ pat leaf t e=true): ∀(m:Nat) {p s:SV} {v:Value},Qw nv es θ pat leaf m p s=true→SR c [s] [v]→SR (CC c (ρ++(EL.of es).den c.ρ) θ pat leaf) [p] [v]
 |0,p,s,v,h,_=>by simp [Qw]at h
 |m+1,p,s,v,h,hs=>by
  unfold Qw at h;split at h
  ·exact .undef .nil
  ·rename_i x;split at h
   ·rename_i y hy;simp only [Ac,A9,Bool.or_eq_true]at h;obtain⟨f,hf,GP⟩:=uK Am hs hy;have hx:=J1 (c:=c) hp hn h.1;refine .e (by rw [show(CC c (ρ++(EL.of es).den c.ρ) θ pat leaf).ρ=ρ++(EL.of es).den c.ρ from rfl,hx];exact hf) (fun b hb=> ?_) .nil;rcases GP b hb with hb|⟨t',KJ,hb⟩
    ·exact OQ hb
    ·refine⟨fun⟨u,hu⟩=> ?_, .inr (Am.gw.allow t' b (by simp [GI.own,hb]))⟩;obtain⟨ho,v',hl,hg,PD⟩:=Le (b:=b) (by simp only [GI.own,Ag];exact .inl hu);have hv:v'=t':=by
      refine Classical.byContradiction fun BE=>Am.gw.c7 v' t' BE b PD (by simp [GI.own,hb])
     subst hv;have:=h.2 _ KJ _ (K7 hl);simp only [bne_self_eq_false,Bu,false_or]at this;unfold F2 at ho;split at this
     ·rename_i hh;rw [hh]at ho;simp at ho
     ·rename_i hh;rw [hh]at ho;simp at ho
     ·cases this
   ·cases h
  ·split at h
   ·cases hs with
    |cr _=>exact .cr .nil
   ·cases h
  ·split at h
   ·cases hs with
    |emp _=>exact .emp .nil
   ·cases hs with
    |cr _=>exact .emp .nil
   ·cases h
  ·rename_i t g;have key: ∀t' v',Bz pat.hp t=some g→θ.lookup t=some (some t')→IZ leaf.hp t' v'=true→SR c [.own t' v'] [v]→SR (CC c (ρ++(EL.of es).den c.ρ) θ pat leaf) [.own t g] [v]:=by
    intro t' v' hg hl hv hs;cases hs with
    |own h1 h2 _=>
     refine .own hg ?_ .nil;show(match θ.lookup t with|some (some t')=>c.H t' ((Bz leaf.hp t').getD 0)|_=>Value.slice none 0 0)=_;rw [hl];have:(Bz leaf.hp t').getD 0=v':=by
      unfold IZ at hv;unfold Bz;split at hv
      ·rename_i hh;rw [hh];simpa using(beq_iff_eq.1 hv).symm
      ·rename_i hh;rw [hh];simpa using(beq_iff_eq.1 hv).symm
      ·rename_i hh;rw [hh];simpa using(beq_iff_eq.1 hv).symm
      ·cases hv
     show c.H t' ((Bz leaf.hp t').getD 0)=_;rw [this];exact h2
   split at h
   ·rename_i g' _ _ Dw;simp only [Ac,beq_iff_eq]at h;obtain⟨rfl,h⟩:=h;split at h
    ·simp only [Ac,beq_iff_eq]at h;exact key _ _ (by simp [Bz,Dw]) h.1 h.2 hs
    ·rw [beq_iff_eq]at h;cases hs with
     |cr _=>refine .own (p:=none) (q:=0) (r:=0) (by show Bz pat.hp t=some g;simp [Bz,Dw]) ?_ .nil;show(match θ.lookup t with|some (some t')=>c.H t' ((Bz leaf.hp t').getD 0)|_=>Value.slice none 0 0)=_;rw [h]
    ·cases h
   ·rename_i g' _ Dw;simp only [Ac,beq_iff_eq]at h;obtain⟨rfl,h⟩:=h;split at h
    ·simp only [Ac,beq_iff_eq]at h;exact key _ _ (by simp [Bz,Dw]) h.1 h.2 hs
    ·cases h
   ·rename_i g' _ _ Dw;simp only [Ac,beq_iff_eq]at h;obtain⟨rfl,h⟩:=h;split at h
    ·simp only [Ac,beq_iff_eq]at h;exact key _ _ (by simp [Bz,Dw]) h.1 h.2 hs
    ·rw [beq_iff_eq]at h;cases hs with
     |cr _=>refine .own (p:=none) (q:=0) (r:=0) (by show Bz pat.hp t=some g;simp [Bz,Dw]) ?_ .nil;show(match θ.lookup t with|some (some t')=>c.H t' ((Bz leaf.hp t').getD 0)|_=>Value.slice none 0 0)=_;rw [h]
    ·cases h
   ·cases h
  ·rename_i t o;split at h
   ·rename_i ty g cs Dw;split at h
    ·rename_i t' o';simp only [Ac,beq_iff_eq]at h;obtain⟨rfl,hl⟩:=h;have GG:=BO t _ (Hr Dw);simp only [G9,hl]at GG;split at GG
     ·rename_i CA;cases hs with
      |cy h1 h2 _=>
       refine .cy (by show Bz pat.hp t=some 0;simp [Bz,Dw]) ?_ .nil;show(match θ.lookup t with|some (some t')=>c.H t' ((Bz leaf.hp t').getD 0)|_=>Value.slice none 0 0)=_;rw [hl];have:(Bz leaf.hp t').getD 0=0:=by simp [Bz,CA]
       simp only [this];exact h2
     ·cases GG
    ·cases h
   ·cases h
  ·cases h
  ·rename_i x i z o;split at h
   ·rename_i y j z' o';simp only [Ac,beq_iff_eq]at h;obtain⟨⟨⟨⟨⟨rfl,rfl⟩,h1⟩,h2⟩,h3⟩,h4⟩:=h;have hx:x.den (ρ++(EL.of es).den c.ρ)=y.den c.ρ:=by
     obtain⟨τ,hτ⟩:=hp;rw [←E.ah c.ρ x y h2];subst hn;generalize (EL.of es).den c.ρ=q;rw [E.ar ρ q τ x h1,hτ]
    have hi:i.den (ρ++(EL.of es).den c.ρ)=j.den c.ρ:=by obtain⟨τ,hτ⟩:=hp;rw [←E.ah c.ρ i j h4];subst hn;generalize (EL.of es).den c.ρ=q;rw [E.ar ρ q τ i h3,hτ]
    cases hs with
    |dv g1 g2 g3 g4 g5 g6 _=>refine .dv (f:=_) (by show Rd c.w _ [x.den (ρ++(EL.of es).den c.ρ)] _;rw [hx];exact g1) (fun b hb=>OQ (g2 b hb)) (by show i.den (ρ++(EL.of es).den c.ρ)=_;rw [hi];exact g3) g4 g5 (by show((x.den (ρ++(EL.of es).den c.ρ)).nth _).cells.length=_;rw [hx];exact g6) .nil
   ·cases h
  ·rename_i x o;split at h
   ·rename_i y o';simp only [Ac,beq_iff_eq]at h;obtain⟨⟨rfl,h1⟩,h2⟩:=h;have hx:x.den (ρ++(EL.of es).den c.ρ)=y.den c.ρ:=by
     obtain⟨τ,hτ⟩:=hp;rw [←E.ah c.ρ x y h2];subst hn;generalize (EL.of es).den c.ρ=q;rw [E.ar ρ q τ x h1,hτ]
    cases hs with
    |dt g1 g2 _=>exact .dt (by show Rd c.w _ [x.den (ρ++(EL.of es).den c.ρ)] _;rw [hx];exact g1) (fun b hb=>OQ (g2 b hb)) .nil
   ·cases h
  ·split at h
   ·cases hs with
    |agg h9 h1 _=>exact .agg h9 (SJ Am hp hn BO m h h1) .nil
   ·cases h
  ·split at h
   ·cases hs with
    |tup h1 _=>exact .tup (SJ Am hp hn BO m h h1) .nil
   ·cases h
  ·split at h
   ·simp only [Ac,beq_iff_eq]at h;obtain⟨rfl,h⟩:=h;cases hs with
    |fn h1 _=>exact .fn (SJ Am hp hn BO m h h1) .nil
   ·cases h
  ·cases h
  ·cases h
  ·cases h
  ·cases h
  ·rename_i i;split at h
   ·rename_i j;simp only [Ac,beq_iff_eq,decide_eq_true_eq]at h;obtain⟨rfl,hi⟩:=h;cases hs with
    |lent g1 _=>
     have hx:(E.var i).den (ρ++(EL.of es).den c.ρ)=(E.var i).den c.ρ:=by obtain⟨τ,hτ⟩:=hp;subst hn;generalize (EL.of es).den c.ρ=q;rw [E.ar ρ q τ (.var i) (by simpa [E.sc]using hi),hτ]
     exact .lent (show c.A.lo v ((E.var i).den (ρ++(EL.of es).den c.ρ)) by rw [hx];exact g1) .nil
   ·cases h
theorem SJ (Am:Rel c n sl (Aw leaf.hp) a) (hp:ρ<+:c.ρ) (hn:ρ.length=nv) (BO: ∀t e,(t,e)∈pat.hp→G9 nv es θ pat leaf t e=true): ∀(m:Nat) {ps ss:List SV} {vs:List Value},F5 nv es θ pat leaf m ps ss=true→SR c ss vs→SR (CC c (ρ++(EL.of es).den c.ρ) θ pat leaf) ps vs
 |0,ps,ss,vs,h,_=>by simp [F5]at h
 |m+1, [], [],vs,h,hs=>by cases hs;exact .nil
 |m+1,p::ps, [],vs,h,hs=>by simp [F5]at h
 |m+1, [],s::ss,vs,h,hs=>by simp [F5]at h
 |m+1,p::ps,s::ss, [],h,hs=>by have:=hs.len;simp at this
 |m+1,p::ps,s::ss,v::vs,h,hs=>by simp only [F5,Ac]at h;obtain⟨h1,h2⟩:=hs.cv;exact(jQ Am hp hn BO m h.1 h1).cons (SJ Am hp hn BO m h.2 h2)
end
theorem zxH (Am:Rel c n sl (Aw leaf.hp) a) (hp:ρ<+:c.ρ) (hn:ρ.length=nv) (BO: ∀t e,(t,e)∈pat.hp→G9 nv es θ pat leaf t e=true) (hθ:Li θ=true) {t:Nat} {e:Ad} (ht:Aw pat.hp t=some e):CD (CC c (ρ++(EL.of es).den c.ρ) θ pat leaf) t e:=by
 have h:=BO t e (Hr ht);have gW:F2 pat.hp t=false→(CC c (ρ++(EL.of es).den c.ρ) θ pat leaf).G t=⟨[], []⟩:=by intro h0;simp only [CC];rw [if_neg (by rw [h0];simp)]
 have gX: ∀t',F2 pat.hp t=true→θ.lookup t=some (some t')→(CC c (ρ++(EL.of es).den c.ρ) θ pat leaf).G t=JJ (Aw pat.hp t) (Aw leaf.hp t') (c.G t'):=by intro t' h0 hl;simp only [CC];rw [if_pos h0,hl]
 have Pr: ∀t',F2 pat.hp t=true→θ.lookup t=some (some t')→(∀q1 q2 q3 q4 q5 q6,Aw leaf.hp t'=some (.deep q1 q2 q3 q4 q5 q6)→ ∀p1 p2 p3 p4 p5,e≠ .row p1 p2 p3 p4 p5)→(CC c (ρ++(EL.of es).den c.ρ) θ pat leaf).G t=c.G t':=by
  intro t' h0 hl DP;rw [gX t' h0 hl,ht];unfold JJ;split
  ·rename_i h1 h2;simp only [Ab]at h1;exact absurd h1 (DP _ _ _ _ _ _ h2 _ _ _ _ _)
  ·rfl
 have Jj: ∀t' g,θ.lookup t=some (some t')→Bz leaf.hp t'=some g→ ∀g',(CC c (ρ++(EL.of es).den c.ρ) θ pat leaf).H t g'=c.H t' g:=by intro t' g hl hg g';simp only [CC,hl,hg,Option.getD_some]
 have DM: ∀g,Bz pat.hp t=some g→ ∀g',(CC c (ρ++(EL.of es).den c.ρ) θ pat leaf).K t g'→g'≤g:=by intro g hg g' hk;have Bx:Bz pat.hp t=some g':=hk;rw [hg]at Bx;cases Bx;exact Nat.le_refl _
 cases e with
 |box ty g cs=>
  simp only [G9]at h;split at h
  ·rename_i t' hl;split at h
   ·rename_i ty' g' ds CA;simp only [Ac,beq_iff_eq]at h;obtain⟨⟨rfl,rfl⟩,h⟩:=h;obtain⟨b,C,h1,h2,h3,h4,h5,h6,h7⟩:=Am.ents t' _ (by rw [CA];rfl);have hg:=Pr t' (by simp [F2,ht]) hl (by intros;simp);exact⟨b,C,by show Bz pat.hp t=some 0;simp [Bz,ht],by rw [Jj t' 0 hl (by simp [Bz,CA])];exact h2,by rw [hg];exact h3,by rw [hg];exact h4,h5,h6,SJ Am hp hn BO _ h h7⟩
   ·cases h
  ·cases h
 |row et z g x d=>
  simp only [G9]at h;split at h
  ·rename_i t' hl;split at h
   ·rename_i et' z' g' y d' CA;simp only [Ac,beq_iff_eq,Bool.or_eq_true,Bool.not_eq_true']at h;obtain⟨⟨⟨rfl,rfl⟩,hx⟩,hd⟩:=h;obtain⟨h1,h2,N,h3,h4,h5,h6⟩:=Am.ents t' _ (by rw [CA];rfl);have hg:=Pr t' (by simp [F2,ht]) hl (fun _ _ _ _ _ _ hh=>by rw [CA]at hh;cases hh);have CV:=J1 hp hn hx;have hK:Bz pat.hp t=some g:=by simp [Bz,ht]
    refine⟨hK,DM g hK,N, ?_,fun b hb=>OQ (h4 b hb),fun C2=> ?_,fun hdf=> ?_⟩
    ·rw [Jj t' g' hl (by simp [Bz,CA]),hg];show CK c.w et z _ (x.den (ρ++(EL.of es).den c.ρ)) _ N;rw [CV];exact h3
    ·rw [hg];exact h5 (by rcases hd with hd|hd;rw [C2]at hd;cases hd;exact hd)
    ·rw [hg];cases d' with
     |false=>exact h6 rfl
     |true=>obtain⟨u1,u2⟩:=h5 rfl;rw [u2];exact u1
   ·rename_i et' z' l' g' ep' y CA;simp only [Ac,beq_iff_eq,Bool.not_eq_true']at h;obtain⟨⟨⟨rfl,rfl⟩,hx⟩,rfl⟩:=h;obtain⟨h1,h2,_,h3,h4⟩:=Am.ents t' _ (by rw [CA];rfl);have hg:(CC c (ρ++(EL.of es).den c.ρ) θ pat leaf).G t=⟨(c.G t').top.take 1, []⟩:=by
     rw [gX t' (by simp [F2,ht]) hl,ht,CA];rfl
    have CV:=J1 hp hn hx;have hK:Bz pat.hp t=some g:=by simp [Bz,ht]
    obtain⟨f,k1,k2⟩:=h3.ownRow;have BW:((c.G t').top.take 1++(c.G t').top.drop 1).Nodup:=by rw [List.take_append_drop];have:=Am.gw.nodup t';simp only [GI.own,h4,List.append_nil]at this;exact this
    refine⟨hK,DM g hK,f, ?_,fun b hb=> ?_,fun C2=>(by cases C2),fun _=>by rw [hg]⟩
    ·rw [Jj t' g' hl (by simp [Bz,CA]),hg];show CK c.w et z _ (x.den (ρ++(EL.of es).den c.ρ)) _ f;rw [CV];exact k1
    ·have B9:b∈(c.G t').top:=List.mem_of_mem_drop (k2 b hb);refine⟨fun⟨u,hu⟩=> ?_, .inr (Am.gw.allow t' b (by simp [GI.own,B9]))⟩;obtain⟨_,v',Bl,_,PD⟩:=Le (b:=b) (by simp only [GI.own,Ag];exact .inl hu);have hv:v'=t':=Classical.byContradiction fun BE=>Am.gw.c7 v' t' BE b PD (by simp [GI.own,B9]);subst hv;have:=W3 hθ (K7 Bl) (K7 hl);subst this;rw [hg]at hu;exact(List.nodup_append.1 BW).2.2 b hu b (k2 b hb) rfl
   ·cases h
  ·rename_i hl;simp only [Ac,decide_eq_true_eq]at h;have CV:=J1 hp hn h.1;have hK:Bz pat.hp t=some g:=by simp [Bz,ht]
   have hg:(CC c (ρ++(EL.of es).den c.ρ) θ pat leaf).G t=⟨[], []⟩:=by simp [CC,hl]
   refine⟨hK,DM g hK, [],⟨[], ?_,by simp,h.2, .inl ⟨rfl,⟨none, ?_⟩,by rw [hg],rfl⟩⟩,by simp,fun _=>⟨rfl,by rw [hg]⟩,fun _=>by rw [hg]⟩
   ·show x.den (ρ++(EL.of es).den c.ρ)=_;rw [CV];rfl
   ·simp [CC,hl]
  ·cases h
 |cc g x=>
  have hg:=gW (by simp [F2,ht]);have hK:Bz pat.hp t=some g:=by simp [Bz,ht]
  simp only [G9]at h;split at h
  ·rename_i t' hl;have GP: ∀b,b∈(c.G t').top→(CC c (ρ++(EL.of es).den c.ρ) θ pat leaf).ok b:=by
    intro b hb;refine⟨fun⟨u,hu⟩=> ?_, .inr (Am.gw.allow t' b (by simp [GI.own,hb]))⟩;obtain⟨ho,v',Bl,Cc,PD⟩:=Le (b:=b) (by simp only [GI.own,Ag];exact .inl hu);have hv:v'=t':=Classical.byContradiction fun BE=>Am.gw.c7 v' t' BE b PD (by simp [GI.own,hb]);subst hv;have:=W3 hθ (K7 Bl) (K7 hl);subst this;simp [F2,ht]at ho
   split at h
   ·rename_i et' z' g' y d' CA;obtain⟨h1,h2,N,h3,h4,h5,h6⟩:=Am.ents t' _ (by rw [CA];rfl);obtain⟨f,r1,r2,_⟩:=h3.rd;refine⟨hK,⟨f, ?_,fun b hb=>(r2 b hb).elim (GP b) fun hb=>OQ (h4 b hb)⟩,by rw [hg],by rw [hg]⟩;rw [Jj t' g' hl (by simp [Bz,CA])];show Rd c.w _ [x.den (ρ++(EL.of es).den c.ρ)] f;rw [J1 hp hn h];exact r1
   ·rename_i g' y CA;obtain⟨h1,⟨f,r1,r2⟩,_,_⟩:=Am.ents t' _ (by rw [CA];rfl);refine⟨hK,⟨f, ?_,fun b hb=>OQ (r2 b hb)⟩,by rw [hg],by rw [hg]⟩;rw [Jj t' g' hl (by simp [Bz,CA])];show Rd c.w _ [x.den (ρ++(EL.of es).den c.ρ)] f;rw [J1 hp hn h];exact r1
   ·rename_i et' z' l' g' ep' y CA;obtain⟨h1,h2,_,h3,h4⟩:=Am.ents t' _ (by rw [CA];rfl);obtain⟨f,r1,r2⟩:=h3.rd;refine⟨hK,⟨f, ?_,fun b hb=>GP b (r2 b hb)⟩,by rw [hg],by rw [hg]⟩;rw [Jj t' g' hl (by simp [Bz,CA])];show Rd c.w _ [x.den (ρ++(EL.of es).den c.ρ)] f;rw [J1 hp hn h];exact r1
   ·cases h
  ·cases h
 |hol=>simp [G9]at h
 |deep et z dl g ep x=>
  have hE:(CC c (ρ++(EL.of es).den c.ρ) θ pat leaf).E t=ep:=by simp [CC,ht]
  have hK:Bz pat.hp t=some g:=by simp [Bz,ht]
  simp only [G9]at h;split at h
  ·rename_i t' hl;split at h
   ·rename_i et' z' dl' g' ep' y CA;simp only [Ac,beq_iff_eq]at h;obtain⟨⟨⟨rfl,rfl⟩,Yp⟩,hx⟩:=h;have Yp:=AJ.ik Yp;subst Yp;obtain⟨h1,h2,_,h3,h4⟩:=Am.ents t' _ (by rw [CA];rfl);have hg:=Pr t' (by simp [F2,ht]) hl (by intros;simp);refine⟨hK,DM g hK,hE, ?_,by rw [hg];exact h4⟩;rw [Jj t' g' hl (by simp [Bz,CA]),hg];show DC c.w _ _ [x.den (ρ++(EL.of es).den c.ρ)] _;rw [J1 hp hn hx];exact h3
   ·cases h
  ·rename_i hl;have hg:(CC c (ρ++(EL.of es).den c.ρ) θ pat leaf).G t=⟨[], []⟩:=by simp [CC,hl]
   simp only [Ac,decide_eq_true_eq,beq_iff_eq]at h;refine⟨hK,DM g hK,hE, ?_,by rw [hg]⟩;have e1:(CC c (ρ++(EL.of es).den c.ρ) θ pat leaf).H t g= .slice none 0 0:=by simp [CC,hl]
   rw [e1,hg];show DC c.w _ _ [x.den (ρ++(EL.of es).den c.ρ)] _;rw [J1 hp hn h.1.1];exact .void h.1.2 (by rw [AJ.az];exact h.2) .nil
  ·cases h
 |gd gs e=>simp [G9]at h
 |dead=>have hg:=gW (by simp [F2,ht]);exact⟨by rw [hg],by rw [hg]⟩
end
theorem pA {nv:Nat} {es:List E} {θ:List (Nat × Option Nat)} {pat leaf:St}: ∀(m:Nat) {ps ss:List SV},F5 nv es θ pat leaf m ps ss=true→ ∀{i:Nat} {p:SV},ps[i]?=some p→ ∃s k,ss[i]?=some s∧Qw nv es θ pat leaf k p s=true
 |0,ps,ss,h,_,_,_=>by simp [F5]at h
 |m+1, [],ss,h,i,p,hp=>by simp at hp
 |m+1,q::ps, [],h,i,p,hp=>by simp [F5]at h
 |m+1,q::ps,s::ss,h,i,p,hp=>by
  simp only [F5,Ac]at h;cases i with
  |zero=>simp at hp;subst hp;exact⟨s,m,rfl,h.1⟩
  |succ i=>simpa using pA m h.2 (by simpa using hp)
theorem uG:XO:=by
 intro F nv pat τ es ρ ρ' a w hi hn hp hr;obtain⟨c,rfl,rfl,TN,hA,X4,E6,hU,Am⟩:=hr;unfold IF at hi;simp only at hi;split at hi
 ·rename_i AF;simp only [Ab]at hi;generalize Yr:(List.range (pat.nv-nv)).map (fun j=>((MN nv pat τ true pat.hp (MN nv pat τ false pat.hp (KU nv pat τ 2000 ⟨[], []⟩ pat.sl τ.sl))).as_.lookup (nv+j)).getD (.int .i64 0))=es0 at AF hi;subst hi;generalize (MN nv pat τ true pat.hp (MN nv pat τ false pat.hp (KU nv pat τ 2000 ⟨[], []⟩ pat.sl τ.sl))).θ=θ at AF;clear Yr;simp only [kM,Ac,beq_iff_eq,A9,decide_eq_true_eq]at AF;obtain⟨⟨⟨⟨⟨⟨h1,hθ⟩,hlen⟩,CG⟩,Dq⟩,sW⟩,Qf⟩:=AF;have BO: ∀t e,(t,e)∈pat.hp→G9 nv es0 θ pat τ t e=true:=fun t e he=>(Dq _ he).1;have AB: ∀t e,(t,e)∈pat.hp→t<pat.nx:=fun t e he=>(Dq _ he).2;have Qb: ∀t e,Aw pat.hp t=some e→ ∀gs e',e≠ .gd gs e':=by
   rintro t e he gs e' rfl;have:=BO t _ (Hr he);simp [G9]at this
  have AO: ∀t e e',Aw pat.hp t=some e→(B0 (ρ++(EL.of es0).den c.ρ) (Aw pat.hp t) e'↔e'=e):=by
   intro t e e' he;rw [he];cases e with
   |gd gs e9=>exact absurd rfl (Qb t _ he gs e9)
   |_=>simp [B0,eq_comm]
  refine⟨CC c (ρ++(EL.of es0).den c.ρ) θ pat τ,rfl,rfl,TN,hA,X4, ?_,fun t ht=>ht,Am.defers,by rw [hlen];exact Am.size,⟨Am.base.os,Am.base.tape,Am.base.output,Am.base.size,fun t v M6=> ?_,Am.base.block,Am.base.pk,Am.base.lo⟩,fun i=> ?_,fun t e hr=> ?_,fun t DP=> ?_,⟨fun t=> ?_,fun t u KK b hb BJ=> ?_,fun t b hb=> ?_,fun t b hb=> ?_⟩,fun t g hk=> ?_,fun t e he=>AB t e (Hr he)⟩
  ·rw [h1,EL.du];simp [hn]
  ·have LN:Lj t=true:=F.mh t v (by rw [←hA];exact M6);refine⟨by
    show t<pat.nx;unfold Lj at LN;simp only [Ac,decide_eq_true_eq]at LN;omega,fun hk=> ?_⟩
   have Bx:Bz pat.hp t=some 0:=hk;obtain⟨e,Y6⟩: ∃e,Aw pat.hp t=some e:=by
    unfold Bz at Bx;cases hh:Aw pat.hp t with
    |none=>rw [hh]at Bx;cases Bx
    |some e=>exact⟨e,rfl⟩
   have Eb:=Qf _ (Hr Y6);simp only [LN,Bool.not_true,Bool.false_or]at Eb;have main:θ.lookup t=some (some t)→Bz τ.hp t=some 0→c.K t 0→(CC c (ρ++(EL.of es0).den c.ρ) θ pat τ).H t 0=v:=by intro hl hg hK;simp only [CC,hl,hg,Option.getD_some];exact(Am.base.pins t v M6).2 hK
   unfold KN at Eb;simp only [Bz,Y6]at Bx;rw [Y6]at Eb;cases e with
   |box ty g cs=>
    simp only [Ac,beq_iff_eq]at Eb;obtain⟨hl,hb⟩:=Eb;split at hb
    ·rename_i ty' g' cs' CA;obtain⟨b,C,q1,_⟩:=Am.ents t _ (by rw [CA];rfl);exact main hl (by simp [Bz,CA]) q1
    ·cases hb
   |row ety sz g x d=>
    simp only [Ab]at Bx;subst Bx;simp only [bne_self_eq_false,Bool.false_or,Ac,beq_iff_eq]at Eb;obtain⟨hl,hb⟩:=Eb;split at hb
    ·rename_i ety' sz' g' x' d' CA;rw [beq_iff_eq]at hb;subst hb;obtain⟨q1,_⟩:=Am.ents t _ (by rw [CA];rfl);exact main hl (by simp [Bz,CA]) q1
    ·cases hb
   |cc g x=>simp only [Ab]at Bx;subst Bx;simp at Eb
   |gd=>simp at Bx
   |dead=>simp at Bx
   |hol=>simp at Bx
   |deep ety sz l g ep x=>
    simp only [Ab]at Bx;subst Bx;simp only [bne_self_eq_false,Bool.false_or,Ac,beq_iff_eq]at Eb;obtain⟨hl,hb⟩:=Eb;split at hb
    ·rename_i CA;rw [beq_iff_eq]at hb;subst hb;obtain⟨q1,_⟩:=Am.ents t _ (by rw [CA];rfl);exact main hl (by simp [Bz,CA]) q1
    ·cases hb
  ·unfold Bd;cases LY:pat.sl[i]? with
   |none=>exact .undef .nil
   |some p=>obtain⟨s,k,hs,hk⟩:=pA _ CG LY;have:=Am.dg i;unfold Bd at this;rw [hs]at this;exact jQ Am hp hn BO k hk this
  ·cases he:Aw pat.hp t with
   |none=>rw [he]at hr;exact hr.elim
   |some e9=>have LD:=(AO t e9 e he).1 hr;subst LD;exact zxH Am hp hn BO hθ he
  ·have:F2 pat.hp t=false:=by
    cases he:Aw pat.hp t with
    |none=>simp [F2,he]
    |some e9=>exact absurd ((AO t e9 e9 he).2 rfl) (DP e9)
   simp [CC,this]
  ·simp only [CC];split
   ·split
    ·exact zx9 (Am.gw.nodup _)
    ·simp [GI.own]
   ·simp [GI.own]
  ·obtain⟨_,t',hl,_,B9⟩:=Le hb;obtain⟨_,u',Bl,_,GH⟩:=Le BJ;by_cases hh:t'=u'
   ·subst hh;exact KK (W3 hθ (K7 hl) (K7 Bl))
   ·exact Am.gw.c7 t' u' hh b B9 GH
  ·obtain⟨_,t',hl,_,B9⟩:=Le hb;exact Am.gw.allow t' b B9
  ·obtain⟨_,t',hl,_,B9⟩:=Le hb;exact Am.gw.inb t' b B9
  ·have Bx:Bz pat.hp t=some g:=hk;unfold Bz at Bx;show t<pat.nx;split at Bx
   ·rename_i hh;exact AB t _ (Hr hh)
   ·rename_i hh;exact AB t _ (Hr hh)
   ·rename_i hh;exact AB t _ (Hr hh)
   ·rename_i hh;exact AB t _ (Hr hh)
   ·cases Bx
 ·cases hi
theorem R5 (l:List DT): ∀(n k o m:Nat),k<n→o+m≤l.length→((CE n l).drop (k*l.length+o)).take m=(l.drop o).take m
 |0,k,_,_,h,_=>by omega
 |n+1,0,o,m,_,hm=>by rw [Ms,Nat.zero_mul,Nat.zero_add,List.drop_append_of_le_length (by omega),List.take_append_of_le_length (by simp;omega)]
 |n+1,k+1,o,m,h,hm=>by have ih:=R5 l n k o m (by omega) hm;rw [←ih,Ms,show(k+1)*l.length+o=l.length+(k*l.length+o)from by rw [Nat.add_mul];omega,List.drop_append,List.drop_eq_nil_of_le (by omega)];simp
theorem DC.elem {w:World} {ys:List AV} {l:List DT} {cells:List Value} {N:List Nat} {z:Nat} (h:DC w (CE ys.length l) cells (AM ys) N) (hl:l.length=z) (h7: ∀y∈ys,y.cells.length=z) {k o m:Nat} (hk:k<ys.length) (hm:o+m≤z):
  ∃M,(∀b∈M,b∈N)∧DC w ((l.drop o).take m) ((cells.drop (k*z+o)).take m) ((((AV.sl ys).nth k).cells.drop o).take m) M:=by
 obtain⟨N1,N2,N3,rfl,_,h2,_⟩:=h.split (k*z+o) m;subst hl;rw [R5 l _ _ _ _ hk hm,Sc ys h7 k _ (Lf hk) o m hm]at h2;exact⟨N2,fun b hb=>by simp [hb],h2⟩
theorem Rd.la {w:World} {vs:List Value} {x:AV} {f:List Nat} {o m:Nat} {g:Bool} (h:Rd w vs ((x.cells.drop o).take m) f) (h9: ∀u∈vs,u.oneCell'=true) (hm:o+m≤x.cells.length) (h1:g=false→m=1):
  Rd w [if g then .agg vs.toArray else vs.headD undef] [x.fld o m g] f:=by
 cases g with
 |true=>have:=Rd.agg h9 h .nil;simpa [AV.fld]using this
 |false=>
  have:=h1 rfl;subst this;have e2:(x.cells.drop o).take 1= [x.cells[o]'(by omega)]:=by rw [List.drop_eq_getElem_cons (by omega),List.take_succ_cons,List.take_zero]
  rw [e2]at h;have hl:=h.len
  match vs,hl with
  | [v],_=>simpa [AV.fld,show o<x.cells.length by omega]using h
section
variable {P:Program} {c:Cx} {n nx:Nat} {sl sl0:Nat→SV} {hp hp0:Nat→Option Ad} {a:Act} {o:Oper} {gs:Gd} {e:AP} {sg:BB} {nv:Nat}
theorem zty {w:World} {b p:Nat} {t:TypeId} {C:Array Value} {ty:TypeId} {fz:Nat × Nat} (hb:w.heap[b]?=some (.cells C ty fz)) (ht:CM P t=true) (hg:Ak P t=true∨P.cellsOf t=1) (hp:p+P.cellsOf t≤C.size):
  (Instr.loadAt t (.pointer (some ⟨b,p,none⟩))).run P w= .ok (if Ak P t then .agg ((C.toList.drop p).take (P.cellsOf t)).toArray else((C.toList.drop p).take (P.cellsOf t)).headD undef) w:=by
 have Ky:((C.toList.drop p).take (P.cellsOf t)).length=P.cellsOf t:=by rw [List.length_take,List.length_drop,Array.length_toList];omega
 refine Ox ht _ (fun _=>Ky) (fun h=> ?_) (fun j u hu=> ?_)
 ·rw [Ky];rcases hg with h'|h';rw [h]at h';cases h';exact h'
 ·rw [D1 hb];rw [List.getElem?_take]at hu;split at hu
  ·simpa using hu
  ·cases hu
theorem zy3 {b g e z ep:Nat} {l:List DT} {c0 i:E} {t:TypeId} {k':Nat} {v:Value} (hE:CD c b (.deep e z l g ep c0)) (hr:SR c [.da b g i z k'] [v]) (A4:CM P t=true) (hle:k'+P.cellsOf t≤z) (Au:Ak P t=true∨P.cellsOf t=1):
  ∃u,(Instr.loadAt t v).run P c.w= .ok u c.w∧(((l.drop k').take (P.cellsOf t)).all DT.cd=true→Rd c.w [u] [(E.fld (.idx c0 i) k' (P.cellsOf t) (Ak P t)).den c.ρ] [])∧Nj c b u ((E.fld (.idx c0 i) k' (P.cellsOf t) (Ak P t)).den c.ρ)∧(Ak P t=false→Hd c b g (some (i,z,k')) u):=by
 obtain⟨q1,q2,q3,q4,q5⟩:=hE;cases hr with
 |da h1 h2 h3 h4 h5 _=>
  rename_i q len cap kk k h6;obtain⟨d1,d2,⟨a9,d3,_⟩|⟨g9,cap9,C,ys,N1,d3,d4,d5,d6,d7,d8,d9,d10,d11,d12⟩⟩:=q4.inv
  ·rw [h2]at d3;cases d3;omega
  ·rw [h2]at d3;cases d3;rw [AJ.az]at d2 d12;have hk:k.toNat<ys.length:=by omega
   have hmul:(k.toNat+1)*z≤ys.length*z:=Nat.mul_le_mul_right _ (by omega);have E0:ys.length*z≤cap*z:=Nat.mul_le_mul_right _ d7;rw [Nat.add_mul]at hmul;have AK:=zty (P:=P) (t:=t) (p:=k.toNat*z+k') d6 A4 Au (by omega);obtain⟨M,m1,m2⟩:=d12.elem d2 d10 hk hle;have EU:((C.toList.take (ys.length*z)).drop (k.toNat*z+k')).take (P.cellsOf t)=(C.toList.drop (k.toNat*z+k')).take (P.cellsOf t):=by rw [List.drop_take,List.take_take,Nat.min_eq_left (by omega)]
   rw [EU]at m2;have Cr: ∀u∈(C.toList.drop (k.toNat*z+k')).take (P.cellsOf t),u.oneCell'=true:=fun u hu=>d11 u (by rw [←EU]at hu;exact List.mem_of_mem_drop (List.mem_of_mem_take hu))
   have jA:((AV.sl ys).nth k.toNat).cells.length=z:=d10 _ (List.mem_of_getElem? (Lf hk));have BF:(E.fld (.idx c0 i) k' (P.cellsOf t) (Ak P t)).den c.ρ=((AV.sl ys).nth k.toNat).fld k' (P.cellsOf t) (Ak P t):=by simp only [E.den,d4,h3,AV.idx]
   have Lt:Ak P t=false→P.cellsOf t=1:=fun h=>by rcases Au with h'|h';rw [h]at h';cases h';exact h'
   refine⟨_,AK,fun hf=> ?_, ?_,fun hf=> ?_⟩
   ·rw [BF];exact(m2.jr hf).la Cr (by omega) Lt
   ·obtain⟨f,r1,r2⟩:=m2.rd;rw [BF];exact⟨f,r1.la Cr (by omega) Lt,fun b hb=> .inr (by rw [d5];simp [m1 b (r2 b hb)])⟩
   ·refine⟨_,_,_,C,_,_,kk,k,h2,by rw [d5];simp,d6,h3,h4,h5, ?_⟩;have BD:=Lt hf;have AB:k.toNat*z+k'<C.size:=by omega
    have e1:(C.toList.drop (k.toNat*z+k')).take 1= [C[k.toNat*z+k']]:=by rw [List.drop_eq_getElem_cons (by simpa using AB),List.take_succ_cons,List.take_zero];simp
    rw [hf,BD,e1];simp [AB]
end
section
variable {P:Program} {c:Cx} {n nx:Nat} {sl sl0:Nat→SV} {hp hp0:Nat→Option Ad} {a:Act} {o:Oper} {gs:Gd} {e:AP} {sg:BB} {nv:Nat}
theorem Bb.dd: ∀l:Bb,Bb.of l.toList=l
 | .nil=>rfl
 | .cons s l=>by simp [Bb.toList,Bb.of,Bb.dd l]
theorem zzM (h:A6 P c n nx sl hp a sl0 hp0 o gs) {t:TypeId} {x:Operand} (ho:o.op= .load t x) (he:Bg P sg sl0 hp0 nv nx gs o=some e) (hc: ∀q∈e.c6,Cn.den c.ρ q):As P o c n nx sl hp gs a e:=by
 have hm:x∈o.op.operands:=by simp [ho,Op.operands]
 simp only [Bg,ho,Ao,An]at he;obtain⟨s,hs,e1,he,rfl⟩:=he;have hr:=(h.de hs hm).asPtr (fun q hq=>hc q (by simp [hq]));have iG: ∀q∈e1.c6,Cn.den c.ρ q:=fun q hq=>hc q (by simp [hq]);have ex:(execOp a.eval o).run P c.w=((Instr.loadAt t (a.eval x)).run P c.w).andThen fun v w=> .ok (.value v) w:=by simp [execOp,ho]
 unfold jG at he;split at he
 ·cases he
 rename_i A4;have A4:CM P t=true:=by simpa using A4
 generalize AY:(asPtr s).1=s1 at he hr;split at he
 ·rename_i b o';split at he
  ·rename_i ty g cs hl;obtain⟨s2,AQ,rfl⟩:=An.1 he;generalize ha:a.eval x=v at hr ex;cases hr with
   |cy h1 h2 _=>
    rename_i q;obtain⟨q',C,_,e2,e3,e4,e5,e5',e6⟩:=h.eh b _ (Cu hl h.gs);rw [h2]at e2;cases e2;unfold MV at AQ;have hlen:=e6.len;split at AQ
    ·rename_i Au;split at AQ
     ·rename_i hle;simp at AQ;subst AQ;obtain⟨r1,r2⟩:=e6.split o';obtain⟨r3,r4⟩:=r2.split (P.cellsOf t);have:=SR.agg (cs:=Bb.of ((cs.drop o').take (P.cellsOf t))) (fun u hu=>e5' u (List.mem_of_mem_drop (List.mem_of_mem_take hu))) (by rw [Bb.az];exact r3) .nil;refine As.pure h (v:= .agg ((C.toList.drop o').take (P.cellsOf t)).toArray) ?_ this rfl;rw [ex,Ox A4 ((C.toList.drop o').take (P.cellsOf t)) (fun _=>by simp at hlen ⊢;omega) (fun h=>by rw [Au]at h;cases h) (fun j u hu=>by
       rw [D1 e5];rw [List.getElem?_take]at hu;split at hu
       ·simpa using hu
       ·cases hu)]
      simp [Au]
     ·cases AQ
    ·rename_i Au;have Au:Ak P t=false:=by simpa using Au
     obtain⟨u,hu,r⟩:=e6.get AQ;refine As.pure h (v:=u) ?_ r rfl;rw [ex,Ox A4 [u] (fun h=>by rw [Au]at h;cases h) (fun _=>rfl) (fun j z hz=>by
      cases j with
      |zero=>simp at hz;subst hz;rw [D1 e5];simpa using hu
      |succ j=>simp at hz)]
     simp [Au]
  ·cases he
 ·rename_i b g i sz o';split at he
  ·rename_i e0 sz' g' c0 d hl;split at he
   ·rename_i hh;obtain⟨rfl,rfl,hle,Au⟩:=hh;simp at he;subst he;generalize ha:a.eval x=v at hr ex;cases hr with
    |da h1 h2 h3 h4 h5 _=>
     rename_i q len cap kk k h6;obtain⟨_,_,N,r1,r2,_,_⟩:=h.eh b _ (Cu hl h.gs);obtain⟨f,r3,_,r4⟩:=r1.rd;obtain⟨xs,Ce,AA,h0,A2⟩:=r1;rw [h2]at r3 A2;have hk:k.toNat<len:=by omega
     have H7:xs.length=len:=by
      rcases A2 with⟨_,⟨_,hv⟩,_⟩|⟨_,_,_,hv,_⟩
      ·cases hv;omega
      ·simp at hv;exact hv.2.1.symm
     have B3:((c0.den c.ρ).nth k.toNat).cells.length=sz:=by rw [Ce];exact AA _ (List.mem_of_getElem? (Lf (xs:=xs) (by omega)))
     obtain⟨v',q',g1,g2,g3⟩:=eF r3 hk B3 A4 hle Au;refine As.pure h (v:=v') ?_ (.e (f:=q') ?_ ?_ .nil) rfl
     ·rw [ex];rw [Nat.zero_add]at g1;simp [g1]
     ·simpa [E.den,AV.idx,h3]using g3
     ·exact fun z hz=>r2 z (r4 z (g2 z hz))
   ·cases he
  ·rename_i e0 sz' l g' ep c0 hl;split at he
   ·rename_i hh;obtain⟨rfl,rfl,hle,Au⟩:=hh;generalize ha:a.eval x=v at hr ex;have hE:=h.eh b _ (Cu hl h.gs);obtain⟨u,k1,k2,k3,k4⟩:=zy3 (P:=P) (t:=t) hE hr A4 hle Au;have AK:(execOp a.eval o).run P c.w= .ok (.value u) c.w:=by rw [ex,k1];rfl
    split at he
    ·rename_i hf;simp only [Ab]at he;subst he;exact As.pure h AK (.e (k2 hf) (by simp) .nil) rfl
    ·simp only [Ab]at he;subst he;cases hr with
     |da h1 _ _ _ _ _=>
      refine As.pure h AK (.via h1 (Nat.le_of_eq hE.2.2.1.symm) (fun _=>⟨k3, ?_⟩) .nil) rfl;split
      ·exact trivial
      ·rename_i FG;exact k4 (by simpa using FG)
   ·cases he
  ·cases he
 ·rename_i b g m pth y i sz o';split at he
  ·rename_i hh;obtain⟨hle,Au,hv⟩:=hh;have hE:=OT h.eh h.gs hv;generalize ha:a.eval x=v at hr ex;cases hr with
   |vptr h1 h2 h3 _=>
    obtain⟨q,off,len,cap,kk,k,⟨f,p1,p2⟩,_,p4,p5,p6,p7,rfl⟩:=h3 hE;obtain⟨v',q',g1,g2,g3⟩:=eF (fo:=o') p1 (by omega) p7 A4 hle Au;have AK:(execOp a.eval o).run P c.w= .ok (.value v') c.w:=by rw [ex];simp [g1]
    have BF:Rd c.w [v'] [(E.fld (.idx y i) o' (P.cellsOf t) (Ak P t)).den c.ρ] q':=by simpa [E.den,AV.idx,p4]using g3
    split at he
    ·simp only [Ab]at he;subst he;obtain⟨f1,f2,f3,f4⟩:=BD iG;have hq:q'= []:=by
      cases hg:Ak P t with
      |true=>obtain⟨cs,Bp⟩:=f3 hg;obtain⟨as_,rfl,_,r⟩:=Iq BF Bp;exact Gu r (by rw [Bp]at f2;exact f2)
      |false=>exact Gu BF (by simpa using f4 hg)
     subst hq;exact As.pure h AK (.e BF (by simp) .nil) rfl
    ·simp only [Ab]at he;subst he;exact As.pure h AK (.via h1 h2 (fun _=>⟨⟨q',BF,fun z hz=>p2 z (List.mem_of_mem_tail (g2 z hz))⟩,trivial⟩) .nil) rfl
  ·cases he
 ·rename_i y i sz o';split at he
  ·rename_i hh;obtain⟨hle,Au⟩:=hh;simp at he;subst he;generalize ha:a.eval x=v at hr ex;cases hr with
   |dv h1 h2 h3 h4 h5 h6 _=>rename_i q off len cap f kk k;obtain⟨v',q',g1,g2,g3⟩:=eF (fo:=o') h1 (by omega) h6 A4 hle Au;refine As.pure h (v:=v') ?_ (.e (f:=q') (by simpa [E.den,AV.idx,h3]using g3) (fun z hz=>h2 z (List.mem_of_mem_tail (g2 z hz))) .nil) rfl;rw [ex];simp [g1]
  ·cases he
 ·rename_i y o';split at he
  ·rename_i Au;simp at he;subst he;generalize ha:a.eval x=v at hr ex;cases hr with
   |dt h1 h2 _=>
    rename_i q f;obtain⟨z,hz,hle⟩:=BD iG;rw [hz]at h1;cases h1 with
    |ref hb BJ Gg C7=>
     rename_i C ty fz f1 f2;obtain⟨q',g1,g2⟩:=Gg.jd BJ o' (P.cellsOf t) (Ak P t) hle (fun h=>by rcases Au with h'|h';rw [h]at h';cases h';exact h');have Ky:((C.toList.drop o').take (P.cellsOf t)).length=P.cellsOf t:=by have:=Gg.len;rw [List.length_take,List.length_drop];omega
     refine As.pure h ?_ (.e (f:=q') (by simpa [E.den,hz,AV.deref]using g2) (fun z hz=>h2 z (by simp [g1 z hz])) .nil) rfl;rw [ex,Ox A4 ((C.toList.drop o').take (P.cellsOf t)) (fun _=>Ky) (fun h=>by rw [Ky];rcases Au with h'|h';rw [h]at h';cases h';exact h') (fun j u hu=>by
       rw [D1 hb];rw [List.getElem?_take]at hu;split at hu
       ·simpa using hu
       ·cases hu)]
     simp
  ·cases he
 ·cases he
end
theorem MB (k:IntKind) (n:Int):Ei k n↔k.min≤n∧n≤k.max:=by unfold Ei;cases k<;>simp only [IntKind.wrap,IntKind.bits,IntKind.signed,IntKind.min,IntKind.max]<;>simp<;>(try split)<;>omega
theorem eZ (k:IntKind) (n:Int):Ei k (k.wrap n):=by rw [MB];cases k<;>simp only [IntKind.wrap,IntKind.bits,IntKind.signed,IntKind.min,IntKind.max]<;>simp<;>(try split)<;>omega
theorem w8 {k:IntKind} {x y:Int} (h:Ei k x):Ei k (x.tmod y):=by
 rw [MB]at h ⊢;have h1:(x.tmod y).natAbs≤x.natAbs:=by rw [Int.natAbs_tmod];exact Nat.mod_le _ _
 have h2:0≤x→0≤x.tmod y:=Int.tmod_nonneg y;have YU:k.min≤0:=by cases k<;>decide
 have Ea:0≤k.max:=by cases k<;>decide
 constructor
 ·by_cases h0:0≤x
  ·have:=h2 h0;omega
  ·omega
 ·by_cases h0:0≤x
  ·omega
  ·have h3:x.tmod y≤0:=by
    have:=Int.tmod_nonneg (a:= -x) y (by omega);rw [Int.neg_tmod]at this;omega
   omega
theorem uU {k:IntKind} {x:Int} (m:Nat) (h:Ei k x):Ei k (x.fdiv (2^m)):=by
 rw [MB]at h ⊢;have hp:(0:Int)<2^m:=Int.pow_pos (by decide);rw [Int.fdiv_eq_ediv_of_nonneg _ (Int.le_of_lt hp)];have YU:k.min≤0:=by cases k<;>decide
 have Ea:0≤k.max:=by cases k<;>decide
 have h1:(1:Int)≤2^m:=hp;constructor
 ·rcases Int.le_total 0 x with h0|h0
  ·have:=Int.ediv_nonneg h0 (Int.le_of_lt hp);omega
  ·have:x≤x/2^m:=by
    rw [Int.le_ediv_iff_mul_le hp];have:=Int.mul_le_mul_of_nonpos_left h0 h1;omega
   omega
 ·rcases Int.le_total 0 x with h0|h0
  ·have:=Int.ediv_le_self (2^m) h0;omega
  ·have h2:x/2^m≤0:=by
    have:=Int.ediv_le_ediv hp h0;simpa using this
   omega
section
variable {P:Program} {c:Cx} {n nx:Nat} {sl sl0:Nat→SV} {hp hp0:Nat→Option Ad} {a:Act} {o:Oper} {gs:Gd} {e:AP} {sg:BB} {nv:Nat}
def AV.val:AV→Value
 | .int k n=> .int k n
 | .bool b=> .bool b
 | .str s=> .string ⟨s.toArray⟩
 |_=>Go.undef
theorem zxv {op:BinOp} {k k':IntKind} {x y:Int} (hk:k=k'∨op= .shl∨op= .shr) (hz:op= .quo∨op= .rem→y≠0) (hs:op= .shl∨op= .shr→0≤y) (t:TypeId) (p q:Operand) (w:World):
  (do eqGuard op t p q (.int k x) (.int k' y);binOp op t (.int k x) (.int k' y):Sem Value).run P w= .ok (CR op k x y).val w:=by
 have hg:=eqGuard_at_int op t p q (.int k' y) k x;cases op<;>simp only [reduceCtorEq,or_false,or_true,or_self]at hk hz hs<;>simp only [hg]
 all_goals first
  |(subst hk;simp [binOp,Op.intArith,Op.intCmp,Op.intBits,CR,AV.val];done)
  |(subst hk;have:=hz trivial;simp [binOp,Op.intDiv,CR,AV.val,this];done)
  |(have:=hs trivial;simp [binOp,Op.shift,CR,AV.val,Int.not_lt.2 this];done)
theorem zz6 {op:BinOp} {k:IntKind} {x y:Int} (hx:Ei k x) (w:World):Rd w [(CR op k x y).val] [CR op k x y] []:=by
 cases op<;>simp only [CR,AV.val]<;>first
  |exact .int (eZ _ _) .nil
  |exact .bool .nil
  |exact .int (w8 hx) .nil
  |exact .int (uU _ hx) .nil
theorem Rd.ij {w:World} {v:Value} {x:AV} {f:List Nat} (h:Rd w [v] [x] f):x≠ .undef:=by rintro rfl;cases h
theorem eK {ρ:List AV}: ∀(x:E) {k:IntKind},BU x=some k→x.den ρ≠ .undef→ ∃m,x.den ρ= .int k m
 | .int k n,_,h,_=>by simp [BU]at h;subst h;exact⟨n,rfl⟩
 | .len y,_,h,hd=>by
  simp [BU]at h;subst h;simp only [E.den,AV.len]at hd ⊢;split at hd
  ·exact⟨_,rfl⟩
  ·exact absurd rfl hd
 | .slen y,_,h,hd=>by
  simp [BU]at h;subst h;simp only [E.den,AV.slen]at hd ⊢;split at hd
  ·exact⟨_,rfl⟩
  ·exact absurd rfl hd
 | .conv k y,_,h,hd=>by
  simp [BU]at h;subst h;simp only [E.den,AV.conv]at hd ⊢;split at hd
  ·exact⟨_,rfl⟩
  ·exact absurd rfl hd
 | .bin op x y,k,h,hd=>by
  simp only [E.den]at hd ⊢;have hx:x.den ρ≠ .undef:=by rintro hh;rw [hh]at hd;exact hd (by simp [AV.bin])
  cases op<;>simp only [BU,reduceCtorEq]at h
  all_goals
   obtain⟨m,hm⟩:=eK x h hx;rw [hm]at hd ⊢;cases hy:y.den ρ<;>rw [hy]at hd<;>simp only [AV.bin]at hd ⊢ <;>first
    |exact absurd rfl hd
    |(split at hd
      ·rename_i hk;rw [if_pos hk];exact⟨_,rfl⟩
      ·exact absurd rfl hd)
 | .var _,_,h,_=>by simp [BU]at h
 | .bool _,_,h,_=>by simp [BU]at h
 | .str _,_,h,_=>by simp [BU]at h
 | .ei,_,h,_=>by simp [BU]at h
 | .lst _,_,h,_=>by simp [BU]at h
 | .mk _,_,h,_=>by simp [BU]at h
 | .tup _,_,h,_=>by simp [BU]at h
 | .ref _,_,h,_=>by simp [BU]at h
 | .fn ..,_,h,_=>by simp [BU]at h
 | .fld ..,_,h,_=>by simp [BU]at h
 | .proj ..,_,h,_=>by simp [BU]at h
 | .deref _,_,h,_=>by simp [BU]at h
 | .idx ..,_,h,_=>by simp [BU]at h
 | .sidx ..,_,h,_=>by simp [BU]at h
 | .win ..,_,h,_=>by simp [BU]at h
 | .swin ..,_,h,_=>by simp [BU]at h
 | .app ..,_,h,_=>by simp [BU]at h
 | .set ..,_,h,_=>by simp [BU]at h
 | .put ..,_,h,_=>by simp [BU]at h
 | .rep ..,_,h,_=>by simp [BU]at h
 | .sbin ..,_,h,_=>by simp [BU]at h
 | .bbin ..,_,h,_=>by simp [BU]at h
 | .not _,_,h,_=>by simp [BU]at h
 | .neg _,_,h,_=>by simp [BU]at h
 | .ite ..,_,h,_=>by simp [BU]at h
 | .bytes _,_,h,_=>by simp [BU]at h
 | .text _,_,h,_=>by simp [BU]at h
end
section
variable {P:Program} {c:Cx} {n nx:Nat} {sl sl0:Nat→SV} {hp hp0:Nat→Option Ad} {a:Act} {o:Oper} {gs:Gd} {e:AP} {sg:BB} {nv:Nat}
theorem Gq {s:SV} {v:Value} {x:E} (h:SR c [s] [v]) (hx:Et s=some x): ∃f,Rd c.w [v] [x.den c.ρ] f∧ ∀b∈f,c.ok b:=by
 cases s<;>simp only [Et,Ab,reduceCtorEq]at hx;subst hx;cases h with
 |e h1 h2 _=>exact⟨_,h1,h2⟩
theorem SR.df {v:Value} {x:E} (h:Rd c.w [v] [x.den c.ρ] []):SR c [.e x] [v]:= .e h (by simp) .nil
theorem zxY {ρ:List AV} {op:BinOp} {x y:E} {w:World} {v u:Value} {f g:List Nat} (h1:Rd w [v] [x.den ρ] f) (h2:Rd w [u] [y.den ρ] g) (hd:OM (.bin op x y)=true→(E.bin op x y).den ρ≠ .undef):
  ∃k k' p q,x.den ρ= .int k p∧y.den ρ= .int k' q∧(k=k'∨op= .shl∨op= .shr)∧(E.bin op x y).den ρ=CR op k p q∧Ei k p∧v= .int k p∧u= .int k' q:=by
 have key:(∃k k' p q,x.den ρ= .int k p∧y.den ρ= .int k' q∧(k=k'∨op= .shl∨op= .shr)):=by
  by_cases hn:OM (.bin op x y)=true
  ·have:=hd hn;simp only [E.den]at this;cases hx:x.den ρ<;>cases hy:y.den ρ<;>simp only [hx,hy,AV.bin,ne_eq,not_true_eq_false]at this;split at this
   ·exact⟨_,_,_,_,rfl,rfl,by assumption⟩
   ·exact absurd rfl this
  ·have hn:OM (.bin op x y)=false:=by simpa using hn
   have hk:(BU x).isSome=true∧(BU x==BU y)=true:=by cases op<;>simp [OM]at hn<;>simpa using hn
   obtain⟨k,Hj⟩:=Option.isSome_iff_exists.1 hk.1;have sG:BU y=some k:=by rw [←beq_iff_eq.1 hk.2,Hj]
   obtain⟨p,hp⟩:=eK x Hj h1.ij;obtain⟨q,hq⟩:=eK y sG h2.ij;exact⟨k,k,p,q,hp,hq, .inl rfl⟩
 obtain⟨k,k',p,q,hp,hq,Kx⟩:=key;obtain⟨hv,BP⟩:=Fy h1 hp;obtain⟨hu,_⟩:=Fy h2 hq;exact⟨k,k',p,q,hp,hq,Kx,by simp only [E.den,hp,hq,AV.bin,if_pos Kx],BP,hv,hu⟩
theorem zsL (a b:ByteArray):(a.toList==b.toList)=(a.data.toList==b.data.toList):=by rw [ByteArray.toList_eq,ByteArray.toList_eq]
theorem zs0 {α β γ:Type} (r:Result α) (f:α→World→Result β) (g:β→World→Result γ):(r.andThen f).andThen g=r.andThen fun a w=>(f a w).andThen g:=by cases r<;>rfl
theorem dO (d:Nat) {t:TypeId} (p q:Bool) (h:P.underlying t=some .bool) (w:World):(Op.equalIn (d+1) t (.bool p) (.bool q)).run P w= .ok (p==q) w:=by simp [Op.equalIn,run_underlying h]
theorem zxO {t:TypeId} (p q:Bool) (h:P.underlying t=some .bool) (w:World):(binOp .eql t (.bool p) (.bool q)).run P w= .ok (.bool (p==q)) w:=by simp only [binOp];simp [Op.equal,Op.maxDepth,dO 9999 p q h]
theorem zxG {t:TypeId} (p q:Bool) (h:P.underlying t=some .bool) (w:World):(binOp .neq t (.bool p) (.bool q)).run P w= .ok (.bool (!(p==q))) w:=by simp only [binOp];simp [Op.equal,Op.maxDepth,dO 9999 p q h]
theorem MK {op:BinOp} {t ty:TypeId} {x y:Operand} (ho:o.op= .binOp op t x y ty) (w:World) {v u:Value} (hv:a.eval x=v) (hu:a.eval y=u):
  (execOp a.eval o).run P w=((do eqGuard op t x y v u;binOp op t v u:Sem Value).run P w).andThen fun v w=> .ok (.value v) w:=by
 simp only [execOp,ho,hv,hu,Sem.run_bind,zs0,Sem.run_pure]
theorem lL (h:A6 P c n nx sl hp a sl0 hp0 o gs) {op:BinOp} {t el:TypeId} {x y:Operand} {ty:TypeId} (ho:o.op= .binOp op t x y ty) (hu:P.underlying t=some (.slice el)) (r1:SR c [.cr] [a.eval x]) (r2:SR c [.cr] [a.eval y])
  (AE:op= .eql∨op= .neq):As P o c n nx sl hp gs a {val:= .e (.bool (op== .eql))}:=by
 have ex:=fun(v u:Value) (hv:a.eval x=v) (hu:a.eval y=u)=>MK (P:=P) (o:=o) ho c.w hv hu;generalize EK:a.eval x=v1 at r1;generalize CQ:a.eval y=v2 at r2;cases r1 with
 |cr _=>cases r2 with
  |cr _=>
   refine As.pure h (v:= .bool (op== .eql)) ?_ (.df (.bool .nil)) rfl;rw [ex _ _ EK CQ,eqGuard_at_slice];rcases AE with rfl|rfl
   ·simp [run_eql_nil_slice c.w t el none 0 0 0 0 hu]
   ·simp [run_neq_nil_slice c.w t el none 0 0 0 0 hu]
theorem zvd (h:A6 P c n nx sl hp a sl0 hp0 o gs) {op:BinOp} {t:TypeId} {x y:Operand} {ty:TypeId} (ho:o.op= .binOp op t x y ty) {s1 s2:SV} (r1:SR c [s1] [a.eval x]) (r2:SR c [s2] [a.eval y])
  {x' y':E} (CV:Et s1=some x') (Ba:Et s2=some y') (hd:OM (.bin op x' y')=true→Cn.den c.ρ (.dfd (.bin op x' y'))) (sX:op= .quo∨op= .rem→Cn.den c.ρ (.nz y')) (sV:op= .shl∨op= .shr→Cn.den c.ρ (.nn y')) {ck:List Cn}:
  As P o c n nx sl hp gs a {c6:=ck,val:= .e (.bin op x' y')}:=by
 obtain⟨f1,g1,_⟩:=Gq r1 CV;obtain⟨f2,g2,_⟩:=Gq r2 Ba;obtain⟨k,k',p,q,e1,e2,Kx,e3,BP,hv,EC⟩:=zxY (op:=op) g1 g2 hd;refine As.pure h (v:=(CR op k p q).val) ?_ (.df (by rw [e3];exact zz6 BP _)) rfl;rw [MK ho c.w hv EC,zxv Kx (fun AE=> ?_) (fun AE=> ?_)]
 ·simp
 ·obtain⟨_,m,hm,Dt⟩:=sX AE;rw [e2]at hm;cases hm;exact Dt
 ·obtain⟨_,m,hm,Dt⟩:=sV AE;rw [e2]at hm;cases hm;exact Dt
theorem zug (h:A6 P c n nx sl hp a sl0 hp0 o gs) {op:BinOp} {t:TypeId} {x y:Operand} {ty:TypeId} (ho:o.op= .binOp op t x y ty) {s1 s2:SV} (r1:SR c [s1] [a.eval x]) (r2:SR c [s2] [a.eval y])
  {x' y':E} (CV:Et s1=some x') (Ba:Et s2=some y') (hd:Cn.den c.ρ (.dfd (.sbin op x' y'))) (CP:op= .add→Cn.den c.ρ (.roomS x' y')) {ck:List Cn}:
  As P o c n nx sl hp gs a {c6:=ck,val:= .e (.sbin op x' y')}:=by
 obtain⟨f1,g1,_⟩:=Gq r1 CV;obtain⟨f2,g2,_⟩:=Gq r2 Ba;have hd:AV.sbin op (x'.den c.ρ) (y'.den c.ρ)≠ .undef:=hd;cases hx:x'.den c.ρ<;>cases hy:y'.den c.ρ<;>simp only [hx,hy,AV.sbin,ne_eq,not_true_eq_false]at hd;obtain⟨b1,EK,rfl,_⟩:=O8 g1 hx;obtain⟨b2,CQ,rfl,_⟩:=O8 g2 hy;have hle:op= .add→b1.size+b2.size≤9223372036854775807:=fun AE=>by obtain⟨p,q,hp,hq,hle⟩:=CP AE;rw [hx]at hp;rw [hy]at hq;cases hp;cases hq;simpa using hle
 refine As.pure h (v:=match op with| .add=> .string (b1++b2)|_=>(O7 op b1.data.toList b2.data.toList).val) ?_ (.df ?_) rfl
 ·rw [MK ho c.w EK CQ,eqGuard_at_string];cases op<;>first
   |(exact absurd rfl hd)
   |(have:=hle rfl;simp [binOp,Op.stringOp];omega)
   |(simp [binOp,Op.stringOp,O7,AV.val,ByteArray.toList_eq,bne];done)
 ·simp only [E.den,hx,hy,AV.sbin];cases op<;>simp only [O7,AV.val,ne_eq,not_true_eq_false]at hd ⊢ <;>first
   |exact .bool .nil
   |(have:=hle rfl
     have h9:=Rd.str (w:=c.w) (s:=b1++b2) (by simpa using this) .nil;simpa using h9)
theorem ztX (h:A6 P c n nx sl hp a sl0 hp0 o gs) {op:BinOp} {t:TypeId} {x y:Operand} {ty:TypeId} (ho:o.op= .binOp op t x y ty) (hu:P.underlying t=some .bool) {s1 s2:SV} (r1:SR c [s1] [a.eval x]) (r2:SR c [s2] [a.eval y])
  {x' y':E} (CV:Et s1=some x') (Ba:Et s2=some y') (hd:Cn.den c.ρ (.dfd (.bbin op x' y'))) {ck:List Cn}:
  As P o c n nx sl hp gs a {c6:=ck,val:= .e (.bbin op x' y')}:=by
 obtain⟨f1,g1,_⟩:=Gq r1 CV;obtain⟨f2,g2,_⟩:=Gq r2 Ba;have hd:AV.bbin op (x'.den c.ρ) (y'.den c.ρ)≠ .undef:=hd;cases hx:x'.den c.ρ<;>cases hy:y'.den c.ρ<;>simp only [hx,hy,AV.bbin,ne_eq,not_true_eq_false]at hd;rename_i p q;have EK:=G2 g1 hx;have CQ:=G2 g2 hy;refine As.pure h (v:=(AV.bbin op (.bool p) (.bool q)).val) ?_ (.df ?_) rfl
 ·rw [MK ho c.w EK CQ,eqGuard_at_bool];cases op<;>simp only [ne_eq,not_true_eq_false]at hd
  ·simp [zxO p q hu,AV.bbin,AV.val]
  ·simp [zxG p q hu,AV.bbin,AV.val,bne]
 ·simp only [E.den,hx,hy];cases op<;>simp only [AV.bbin,AV.val,ne_eq,not_true_eq_false]at hd ⊢ <;>exact .bool .nil
theorem uH (h:A6 P c n nx sl hp a sl0 hp0 o gs) {op:BinOp} {t:TypeId} {x y:Operand} {ty:TypeId} (ho:o.op= .binOp op t x y ty) (KC: ∀fs,P.underlying t≠some (.struct fs)) (he:Bg P sg sl0 hp0 nv nx gs o=some e) (hq:e.cq=none) (hc: ∀q∈e.c6,Cn.den c.ρ q):As P o c n nx sl hp gs a e:=by
 have Du:x∈o.op.operands:=by simp [ho,Op.operands]
 have C4:y∈o.op.operands:=by simp [ho,Op.operands]
 simp only [Bg,ho,Ao]at he;obtain⟨s1,Br,s2,AQ,he⟩:=he;have r1:=h.de Br Du;have r2:=h.de AQ C4;unfold O3 at he;split at he
 ·rename_i el hu;split at he
  ·simp at he;subst he;exact lL h ho hu r1 r2 (.inl rfl)
  ·simp at he;subst he;exact lL h ho hu r1 r2 (.inr rfl)
  ·obtain⟨_,_,rfl⟩:=An.1 he;cases hq
  ·obtain⟨_,_,rfl⟩:=An.1 he;cases hq
  ·cases he
 ·rename_i kk hu;split at he
  ·rename_i x' y' CV Ba;simp at he;subst he;exact zvd h ho r1 r2 CV Ba (fun hn=>hc _ (by simp [hn])) (fun AE=>hc _ (by rcases AE with rfl|rfl<;>simp)) (fun AE=>hc _ (by rcases AE with rfl|rfl<;>simp))
  ·cases he
 ·rename_i hu;split at he
  ·rename_i x' y' CV Ba;simp at he;subst he;exact zug h ho r1 r2 CV Ba (hc _ (by simp)) (fun AE=>hc _ (by subst AE;simp))
  ·cases he
 ·rename_i hu;split at he
  ·rename_i x' y' CV Ba;simp at he;subst he;exact ztX h ho hu r1 r2 CV Ba (hc _ (by simp))
  ·cases he
 ·rename_i fs hu;exact absurd hu (KC fs)
 ·cases he
end
section
variable {P:Program} {c:Cx} {n nx:Nat} {sl sl0:Nat→SV} {hp hp0:Nat→Option Ad} {a:Act} {o:Oper} {gs:Gd} {e:AP} {sg:BB} {nv:Nat}
theorem Sp {t:TypeId} (h:CM P t=true) (cs:List Value) (off:Nat) (hle:off+P.cellsOf t≤cs.length) (hg:Ak P t=true∨P.cellsOf t=1) (w:World):
  (part t cs.toArray off).run P w= .ok (if Ak P t then .agg ((cs.drop off).take (P.cellsOf t)).toArray else((cs.drop off).take (P.cellsOf t)).headD Go.undef) w:=by
 cases ha:Ak P t with
 |true=>simp only [part,Sem.run_bind,Sl h,ha,Mr h,Result.andThen_ok,if_true,Sem.run_pure];congr 2;apply Array.ext';rw [Array.toList_extract];simp [Nat.add_sub_cancel_left,List.extract_eq_take_drop]
 |false=>
  have h1:P.cellsOf t=1:=by rcases hg with h'|h';rw [ha]at h';cases h';exact h'
  have AB:off<cs.length:=by omega
  have e1:(cs.drop off).take (P.cellsOf t)= [cs[off]]:=by rw [h1,List.drop_eq_getElem_cons AB,List.take_succ_cons,List.take_zero]
  rw [e1];simp [part,Sl h,ha,AB]
theorem zyb (h:A6 P c n nx sl hp a sl0 hp0 o gs) {t:TypeId} {x:Operand} {f:Nat} (ho:o.op= .field t x f) (he:Bg P sg sl0 hp0 nv nx gs o=some e) (hc: ∀q∈e.c6,Cn.den c.ρ q):As P o c n nx sl hp gs a e:=by
 have hm:x∈o.op.operands:=by simp [ho,Op.operands]
 simp only [Bg,ho,Ao]at he;obtain⟨s,hs,he⟩:=he;have hr:=h.de hs hm;split at he
 ·rename_i fs hu;split at he
  ·rename_i fd hf;split at he
   ·cases he
   ·rename_i A4;have A4:CM P fd.type=true:=by simpa using A4
    have ex: ∀as_:List Value,a.eval x= .agg as_.toArray→(execOp a.eval o).run P c.w=((part fd.type as_.toArray fd.offset).run P c.w).andThen fun v w=> .ok (.value v) w:=fun as_ hv=>by simp [execOp,ho,Instr.field,run_underlying hu,hf,hv,asAgg]
    split at he
    ·rename_i cs;obtain⟨s2,AQ,rfl⟩:=An.1 he;generalize hv:a.eval x=v at hr;cases hr with
     |agg r8 r1 r9=>
      rename_i as_;have hlen:=r1.len;unfold MV at AQ;split at AQ
      ·rename_i Au;split at AQ
       ·rename_i hle;simp at AQ;subst AQ;obtain⟨q1,q2⟩:=r1.split fd.offset;obtain⟨q3,q4⟩:=q2.split (P.cellsOf fd.type);have:=SR.agg (cs:=Bb.of ((cs.toList.drop fd.offset).take (P.cellsOf fd.type))) (fun u hu=>r8 u (List.mem_of_mem_drop (List.mem_of_mem_take hu))) (by rw [Bb.az];exact q3) .nil;refine As.pure h (v:= .agg ((as_.drop fd.offset).take (P.cellsOf fd.type)).toArray) ?_ this rfl;rw [ex as_ hv,Sp A4 as_ fd.offset (by omega) (.inl Au)];simp [Au]
       ·cases AQ
      ·rename_i Au;have Au:Ak P fd.type=false:=by simpa using Au
       obtain⟨u,EC,r⟩:=r1.get AQ;refine As.pure h (v:=u) ?_ r rfl;rw [ex as_ hv];simp [part,Sl A4,Au,EC]
    ·rename_i y;split at he
     ·rename_i hh;obtain⟨hle,Au⟩:=hh;simp at he;subst he;generalize hv:a.eval x=v at hr;cases hr with
      |e h1 h2 _=>
       rename_i f1;obtain⟨cs,Bp,AA⟩:=BD hc;obtain⟨as_,rfl,L1,C7⟩:=Iq h1 Bp;have hlen:=C7.len;have EU:(y.den c.ρ).cells=cs:=by rw [Bp];rfl
       rw [←EU]at C7;obtain⟨q,g1,g2⟩:=C7.jd L1 fd.offset (P.cellsOf fd.type) (Ak P fd.type) (by rw [EU];omega) (fun hh=>by rcases Au with h'|h';rw [hh]at h';cases h';exact h');refine As.pure h ?_ (.e (f:=q) (by simpa [E.den]using g2) (fun z hz=>h2 z (g1 z hz)) .nil) rfl;rw [ex as_ hv,Sp A4 as_ fd.offset (by omega) Au];simp
     ·cases he
    ·rename_i b g m pth y;split at he
     ·rename_i hh;obtain⟨hle,Au,Zm⟩:=hh;have hE:=OT h.eh h.gs Zm;generalize hv:a.eval x=v at hr;have GF:Cn.den c.ρ (.agg y (P.cellsOf t)):=by
       split at he<;>(simp only [Ab]at he;subst he;exact BD hc)
      cases hr with
      |via h1 h2 h3 _=>
       obtain⟨⟨f1,p1,p2⟩,_⟩:=h3 hE;obtain⟨cs,Bp,AA⟩:=GF;obtain⟨as_,rfl,L1,C7⟩:=Iq p1 Bp;have hlen:=C7.len;have EU:(y.den c.ρ).cells=cs:=by rw [Bp];rfl
       rw [←EU]at C7;obtain⟨q,g1,g2⟩:=C7.jd L1 fd.offset (P.cellsOf fd.type) (Ak P fd.type) (by rw [EU];omega) (fun hh=>by rcases Au with h'|h';rw [hh]at h';cases h';exact h');have AK:=ex as_ hv;rw [Sp A4 as_ fd.offset (by omega) Au]at AK;simp only [Result.andThen_ok]at AK;have BF:Rd c.w _ [(E.fld y fd.offset (P.cellsOf fd.type) (Ak P fd.type)).den c.ρ] q:=g2;split at he
       ·simp only [Ab]at he;subst he;obtain⟨e1,e2,e3,e4⟩:=hc (.flat (.fld y fd.offset (P.cellsOf fd.type) (Ak P fd.type)) (P.cellsOf fd.type) (Ak P fd.type)) (by simp);have hq:q= []:=by
         cases hg:Ak P fd.type with
         |true=>obtain⟨cs,Bp⟩:=e3 hg;obtain⟨as_,_,_,r⟩:=Iq BF Bp;exact Gu r (by rw [Bp]at e2;exact e2)
         |false=>exact Gu BF (by simpa using e4 hg)
        subst hq;exact As.pure h AK (.e BF (by simp) .nil) rfl
       ·simp only [Ab]at he;subst he;exact As.pure h AK (.via h1 h2 (fun _=>⟨⟨q,BF,fun z hz=>p2 z (g1 z hz)⟩,trivial⟩) .nil) rfl
     ·cases he
    ·cases he
  ·cases he
 ·cases he
theorem OO {v:Value} {x:AV} {m:Int} {w:World} {f:List Nat} (h:Rd w [v] [x] f) (hx:x.len= .int .i64 m):(∃a c,v= .slice a 0 c∧m=0)∨ ∃b o k c,v= .slice (some ⟨b,o,none⟩) k c∧m=k:=by
 rcases h.kind with h|h|h|h|h|h|h|h|h|h
 ·obtain⟨_,_,_,rfl,_⟩:=h;simp [AV.len]at hx
 ·obtain⟨_,_,rfl,_⟩:=h;simp [AV.len]at hx
 ·obtain⟨_,_,rfl,_⟩:=h;simp [AV.len]at hx
 ·obtain⟨q,r,rfl,rfl,_⟩:=h;simp [AV.len]at hx;exact .inl ⟨q,r,rfl,by omega⟩
 ·obtain⟨b,o,k,r,ys,_,_,_,_,_,_,rfl,rfl,_,_,_,_,hl,_⟩:=h;simp [AV.len]at hx;exact .inr ⟨b,o,k,r,rfl,by omega⟩
 ·obtain⟨_,_,_,rfl,_⟩:=h;simp [AV.len]at hx
 ·obtain⟨_,_,_,rfl,_⟩:=h;simp [AV.len]at hx
 ·obtain⟨_,_,_,_,_,_,_,rfl,_⟩:=h;simp [AV.len]at hx
 ·obtain⟨_,_,_,_,rfl,_⟩:=h;simp [AV.len]at hx
 ·obtain⟨_,rfl,_⟩:=h;simp [AV.len]at hx
theorem RZ {t el:TypeId} (hu:P.underlying t=some (.slice el)) (hz:P.cellsOf el≠0) {b off len cap:Nat} {kk:IntKind} {k:Int} (h0:0≤k) (h1:k<len) (w:World):
  (Instr.indexAt t (.slice (some ⟨b,off,none⟩) len cap) (.int kk k)).run P w= .ok (.pointer (some ⟨b,off+k.toNat*P.cellsOf el,none⟩)) w:=by
 simp [Instr.indexAt,run_underlying hu,asIntOf,h0,h1,nQ hz,Addr.add_lit]
theorem nM (h:A6 P c n nx sl hp a sl0 hp0 o gs) {t:TypeId} {x i:Operand} (ho:o.op= .indexAddr t x i∨o.op= .index t x i) {s1 s2:SV} (Br:Bm sl0 gs x=some s1) (AQ:Bm sl0 gs i=some s2)
  (AE:(∃el,P.underlying t=some (.slice el))→o.op= .indexAddr t x i) (Y4:P.underlying t=some .string→o.op= .index t x i)
  (he:Xn P hp0 gs t s1 s2=some e) (hc: ∀q∈e.c6,Cn.den c.ρ q):As P o c n nx sl hp gs a e:=by
 have Du:x∈o.op.operands:=by rcases ho with ho|ho<;>simp [ho,Op.operands]
 have C4:i∈o.op.operands:=by rcases ho with ho|ho<;>simp [ho,Op.operands]
 have r1:=h.de Br Du;have r2:=h.de AQ C4;unfold Xn at he;split at he
 ·rename_i el k hu;have Qc:=AE ⟨el,hu⟩;have ex:(execOp a.eval o).run P c.w=((Instr.indexAt t (a.eval x) (a.eval i)).run P c.w).andThen fun v w=> .ok (.value v) w:=by simp [execOp,Qc]
  split at he
  ·cases he
  rename_i hz;obtain⟨fk,Hj,_⟩: ∃f,Rd c.w [a.eval i] [k.den c.ρ] f∧ ∀b∈f,c.ok b:=by
   generalize a.eval i=v at r2;cases r2 with
   |e h1 h2 _=>exact⟨_,h1,h2⟩
  split at he
  ·rename_i b g;split at he
   ·rename_i e0 sz g' c0 d hl;split at he
    ·rename_i hh;obtain⟨rfl,rfl⟩:=hh;simp at he;subst he;obtain⟨kk,kv,m,e1,e2,e3,e4,e5⟩:=BD hc;obtain⟨HU,_⟩:=Fy Hj e1;generalize hv:a.eval x=v at r1 ex;cases r1 with
     |own hK M1 _=>
      obtain⟨_,_,N,q1,q2,_,_⟩:=h.eh b _ (Cu hl h.gs);obtain⟨xs,Ce,AA,h0,A2⟩:=q1;rw [Ce]at e3;simp only [AV.len,AV.int.injEq,true_and]at e3;rcases A2 with⟨rfl,_⟩|⟨g9,cap,C,hH,_⟩
      ·simp at e3;omega
      ·refine As.pure h (v:= .pointer (some ⟨g9,kv.toNat*P.cellsOf el+0,none⟩)) ?_ (.da hK hH e1 e2 (by omega) .nil) rfl;rw [M1]at hH;cases hH;rw [ex,HU,RZ hu hz e2 (by omega)];simp
    ·cases he
   ·rename_i g' c0 hl;split at he
    ·rename_i hh;subst hh;simp at he;subst he;obtain⟨kk,kv,m,e1,e2,e3,e4,e5⟩:=BD hc;obtain⟨HU,_⟩:=Fy Hj e1;generalize hv:a.eval x=v at r1 ex;cases r1 with
     |own hK M1 _=>
      obtain⟨_,⟨f,q1,q2⟩,_,_⟩:=h.eh b _ (Cu hl h.gs);rcases OO q1 e3 with⟨_,_,_,hm⟩|⟨b9,off9,len9,cap9,hH,hm⟩
      ·omega
      ·rw [M1]at hH;cases hH;rw [M1]at q1;refine As.pure h (v:= .pointer (some ⟨b9,off9+kv.toNat*P.cellsOf el+0,none⟩)) ?_ (.dv q1 q2 e1 e2 (by omega) e5 .nil) rfl;rw [ex,HU,RZ hu hz e2 (by omega)];simp
    ·cases he
   ·rename_i e0 sz dl g' ep c0 hl;split at he
    ·rename_i hh;obtain⟨rfl,rfl⟩:=hh;simp at he;subst he;obtain⟨kk,kv,m,e1,e2,e3,e4,e5⟩:=BD hc;obtain⟨HU,_⟩:=Fy Hj e1;generalize hv:a.eval x=v at r1 ex;cases r1 with
     |own hK M1 _=>
      obtain⟨_,_,_,q1,_⟩:=h.eh b _ (Cu hl h.gs);obtain⟨_,_,⟨a9,d3,d4,_⟩|⟨g9,cap,C,ys,N1,hH,d4,_⟩⟩:=q1.inv
      ·rw [d4]at e3;simp [AV.len]at e3;omega
      ·rw [d4]at e3;simp only [AV.len,AV.int.injEq,true_and]at e3;refine As.pure h (v:= .pointer (some ⟨g9,kv.toNat*P.cellsOf el+0,none⟩)) ?_ (.da hK hH e1 e2 (by omega) .nil) rfl;rw [M1]at hH;cases hH;rw [ex,HU,RZ hu hz e2 (by omega)];simp
    ·cases he
   ·cases he
  ·rename_i y;simp at he;subst he;obtain⟨kk,kv,m,e1,e2,e3,e4,e5⟩:=BD hc;obtain⟨HU,_⟩:=Fy Hj e1;generalize hv:a.eval x=v at r1 ex;cases r1 with
   |e q1 q2 _=>
    rcases OO q1 e3 with⟨_,_,_,hm⟩|⟨b9,off9,len9,cap9,rfl,hm⟩
    ·omega
    ·refine As.pure h (v:= .pointer (some ⟨b9,off9+kv.toNat*P.cellsOf el+0,none⟩)) ?_ (.dv q1 q2 e1 e2 (by omega) e5 .nil) rfl;rw [ex,HU,RZ hu hz e2 (by omega)];simp
  ·rename_i b g m pth y;split at he
   ·rename_i Zm;simp at he;subst he;have hE:=OT h.eh h.gs Zm;obtain⟨kk,kv,mm,e1,e2,e3,e4,e5⟩:=BD hc;obtain⟨HU,_⟩:=Fy Hj e1;generalize hv:a.eval x=v at r1 ex;cases r1 with
    |via q1 q2 q3 _=>
     obtain⟨⟨f,p1,p2⟩,p3⟩:=q3 hE;rcases OO p1 e3 with⟨_,_,_,hm⟩|⟨b9,off9,len9,cap9,rfl,hm⟩
     ·omega
     ·refine As.pure h (v:= .pointer (some ⟨b9,off9+kv.toNat*P.cellsOf el+0,none⟩)) ?_ (.vptr q1 q2 (fun _=>⟨b9,off9,len9,cap9,kk,kv,⟨f,p1,p2⟩,p3,e1,e2,by omega,e5,rfl⟩) .nil) rfl;rw [ex,HU,RZ hu hz e2 (by omega)];simp
   ·cases he
  ·cases he
 ·rename_i k hu;have Qc:=Y4 hu;obtain⟨fk,Hj,_⟩: ∃f,Rd c.w [a.eval i] [k.den c.ρ] f∧ ∀b∈f,c.ok b:=by
   generalize a.eval i=v at r2;cases r2 with
   |e h1 h2 _=>exact⟨_,h1,h2⟩
  split at he
  ·rename_i y;simp at he;subst he;obtain⟨kk,kv,s,e1,e2,e3,e4⟩:=BD hc;obtain⟨HU,_⟩:=Fy Hj e1;generalize hv:a.eval x=v at r1;cases r1 with
   |e q1 q2 _=>
    obtain⟨bs,rfl,rfl,hle⟩:=O8 q1 e2;have AB:kv.toNat<bs.data.toList.length:=by omega
    have YP:kv.toNat<bs.size:=by simpa using AB
    refine As.pure h (v:= .int .u8 (bs[kv.toNat]).toNat) ?_ (.df ?_) rfl
    ·simp [execOp,Qc,Instr.index,hv,HU,asIntOf,run_underlying hu,e3,YP]
    ·simp only [E.den,e1,e2,AV.sidx];have:bs.data.toList[kv.toNat]?=some (bs[kv.toNat]):=by
      rw [List.getElem?_eq_getElem AB];simp [ByteArray.getElem_eq_getElem_data]
     rw [this];refine .int ?_ .nil;rw [MB];have:=(bs[kv.toNat]).toNat_lt;simp [IntKind.min,IntKind.max,IntKind.signed,IntKind.bits];omega
  ·cases he
 ·cases he
theorem zrC (h:A6 P c n nx sl hp a sl0 hp0 o gs) {t:TypeId} {x i:Operand} (ho:o.op= .indexAddr t x i) (KC:P.underlying t≠some .string) (he:Bg P sg sl0 hp0 nv nx gs o=some e) (hc: ∀q∈e.c6,Cn.den c.ρ q):As P o c n nx sl hp gs a e:=by
 simp only [Bg,ho,Ao]at he;obtain⟨s1,Br,s2,AQ,he⟩:=he;split at he
 ·cases he
 exact nM h (.inl ho) Br AQ (fun _=>ho) (fun hh=>absurd hh KC) he hc
theorem zuC (h:A6 P c n nx sl hp a sl0 hp0 o gs) {t:TypeId} {x i:Operand} (ho:o.op= .index t x i) (KC:P.underlying t=some .string) (he:Bg P sg sl0 hp0 nv nx gs o=some e) (hc: ∀q∈e.c6,Cn.den c.ρ q):As P o c n nx sl hp gs a e:=by
 simp only [Bg,ho,Ao]at he;obtain⟨s1,Br,s2,AQ,he⟩:=he;split at he
 ·exact nM h (.inr ho) Br AQ (fun⟨el,hh⟩=>by rw [KC]at hh;cases hh) (fun _=>ho) he hc
 ·cases he
theorem zuR (h:A6 P c n nx sl hp a sl0 hp0 o gs) {x:Operand} {i:Nat} (ho:o.op= .extract x i) (he:Bg P sg sl0 hp0 nv nx gs o=some e) (hc: ∀q∈e.c6,Cn.den c.ρ q):As P o c n nx sl hp gs a e:=by
 have hm:x∈o.op.operands:=by simp [ho,Op.operands]
 simp only [Bg,ho,Ao]at he;obtain⟨s,hs,he⟩:=he;have hr:=h.de hs hm;generalize hv:a.eval x=v at hr;have ex: ∀(as_:List Value) u,v= .tuple as_.toArray→as_[i]?=some u→(execOp a.eval o).run P c.w= .ok (.value u) c.w:=fun as_ u Qu hu=>by simp [execOp,ho,Instr.extract,hv,Qu,hu]
 split at he
 ·rename_i vs;obtain⟨s2,AQ,rfl⟩:=An.1 he;cases hr with
  |tup r1 r9=>obtain⟨u,hu,r⟩:=r1.get AQ;exact As.pure h (ex _ u rfl hu) r rfl
 ·rename_i y;simp at he;subst he;cases hr with
  |e q1 q2 _=>
   have hd:(y.den c.ρ).proj i≠ .undef:=BD hc;cases hy:y.den c.ρ<;>simp only [hy,AV.proj,ne_eq,not_true_eq_false]at hd;rename_i cs;obtain⟨as_,rfl,r1⟩:=zEf q1 hy;cases Yj:cs[i]? with
   |none=>simp [Yj]at hd
   |some z=>obtain⟨u,g,hu,hg,C8⟩:=r1.at Yj;exact As.pure h (ex as_ u rfl hu) (.e (f:=g) (by simpa [E.den,hy,AV.proj,Yj]using C8) (fun b hb=>q2 b (hg b hb)) .nil) rfl
 ·cases he
theorem wL (h:A6 P c n nx sl hp a sl0 hp0 o gs) {x:Operand} {t:TypeId} (ho:o.op= .unOp .not t x) (he:Bg P sg sl0 hp0 nv nx gs o=some e) (hc: ∀q∈e.c6,Cn.den c.ρ q):As P o c n nx sl hp gs a e:=by
 have hm:x∈o.op.operands:=by simp [ho,Op.operands]
 simp only [Bg,ho,Ao,An]at he;obtain⟨s,hs,y,hy,he⟩:=he;obtain⟨f,q1,_⟩:=Gq (h.de hs hm) hy;split at he
 ·subst he;have hv:=G2 q1 rfl;rename_i b;exact As.pure h (v:= .bool (!b)) (by simp [execOp,ho,hv,Op.unary]) (.df (.bool .nil)) rfl
 ·subst he;have hd:(y.den c.ρ).gh≠ .undef:=BD hc;cases Ba:y.den c.ρ<;>simp only [Ba,AV.gh,ne_eq,not_true_eq_false]at hd;have hv:=G2 q1 Ba;rename_i b;exact As.pure h (v:= .bool (!b)) (by simp [execOp,ho,hv,Op.unary]) (.df (by simp only [E.den,Ba,AV.gh];exact .bool .nil)) rfl
theorem wV (h:A6 P c n nx sl hp a sl0 hp0 o gs) {x:Operand} {t:TypeId} (ho:o.op= .unOp .neg t x) (he:Bg P sg sl0 hp0 nv nx gs o=some e) (hc: ∀q∈e.c6,Cn.den c.ρ q):As P o c n nx sl hp gs a e:=by
 have hm:x∈o.op.operands:=by simp [ho,Op.operands]
 simp only [Bg,ho,Ao,An]at he;obtain⟨s,hs,y,hy,rfl⟩:=he;obtain⟨f,q1,_⟩:=Gq (h.de hs hm) hy;have hd:(y.den c.ρ).je≠ .undef:=BD hc;cases Ba:y.den c.ρ<;>simp only [Ba,AV.je,ne_eq,not_true_eq_false]at hd;rename_i k m;obtain⟨hv,_⟩:=Fy q1 Ba;exact As.pure h (v:= .int k (k.wrap (0-m))) (by simp [execOp,ho,hv,Op.unary,Op.intArith]) (.df (by simp only [E.den,Ba,AV.je];exact .int (eZ _ _) .nil)) rfl
theorem qI {L:List Operand} {sl0:Nat→SV} {gs:Gd} (h: ∀x s,Bm sl0 gs x=some s→x∈L→SR c [s] [a.eval x]): ∀{xs:List Operand} {ss:List SV},(∀x∈xs,x∈L)→xs.mapM (Bm sl0 gs)=some ss→SR c ss (xs.map a.eval)
 | [],ss,_,hm=>by simp at hm;subst hm;exact .nil
 |x::xs,ss,hL,hm=>by rw [List.mapM_cons]at hm;simp only [Option.bind_eq_bind,Ao]at hm;obtain⟨s,hs,ss',E8,hm⟩:=hm;simp at hm;subst hm;exact(h x s hs (hL x (by simp))).app (qI h (fun y hy=>hL y (by simp [hy])) E8)
theorem ztp (h:A6 P c n nx sl hp a sl0 hp0 o gs) {f:FuncId} {fst caps:Array Operand} (ho:o.op= .makeFunc (.func f) fst caps) (he:Bg P sg sl0 hp0 nv nx gs o=some e):As P o c n nx sl hp gs a e:=by
 simp only [Bg,ho]at he;split at he
 ·rename_i hf;obtain⟨ss,E8,rfl⟩:=An.1 he;have hf:fst= #[]:=by simpa using hf
  have r:=qI (a:=a) (c:=c) (L:=caps.toList) (fun x s hx hm=>h.de hx (by simp only [ho,Op.operands,Array.mem_append];exact .inr (Array.mem_toList_iff.1 hm))) (fun x hx=>hx) E8;refine As.pure h (v:= .func (.func f) #[] (caps.toList.map a.eval).toArray) ?_ (.fn (by rw [Bb.az];exact r) .nil) rfl;simp [execOp,ho,Instr.makeFunc,hf];apply Array.ext';simp
 ·cases he
end
section
variable {P:Program} {c:Cx} {n nx:Nat} {sl sl0:Nat→SV} {hp hp0:Nat→Option Ad} {a:Act} {o:Oper} {gs:Gd} {e:AP} {sg:BB} {nv:Nat}
theorem A6.j9 (h:A6 P c n nx sl hp a sl0 hp0 o gs) {x:Operand} {s:SV} (hs:Bm sl0 gs x=some s) (hm:x∈o.op.operands) {y:E} (hy:A5 hp0 gs AN s=some y):
  ∃f,Rd c.w [a.eval x] [y.den c.ρ] f∧ ∀b∈f,c.fg (Bv hp0 gs (AN+1) [s]) b:=Gt h.eh h.gs AN hy (h.de hs hm) AN (Nat.le_refl _)
theorem xG (h:A6 P c n nx sl hp a sl0 hp0 o gs) {x:Operand} {t:TypeId} {cl:Call} (ho:o.op= .call cl) (AA:cl.callee= .builtin .len) (CI:cl.args.toList= [x]) (DI:cl.argTypes.toList= [t]) (he:Bg P sg sl0 hp0 nv nx gs o=some e) (hc: ∀q∈e.c6,Cn.den c.ρ q):As P o c n nx sl hp gs a e:=by
 have Az:cl.args= #[x]:=by apply Array.ext';simp [CI]
 have FV:cl.argTypes= #[t]:=by apply Array.ext';simp [DI]
 have hm:x∈o.op.operands:=by simp [ho,Op.operands,Call.operands,AA,Az]
 simp only [Bg,ho,AA,CI,DI,Ao]at he;obtain⟨s,hs,he⟩:=he;unfold jX at he;have ex:(execOp a.eval o).run P c.w=((Builtin.len_ #[t] o.type #[a.eval x]).run P c.w).andThen fun v w=> .ok (.value v) w:=by simp [execOp,ho,resolve,AA,Az,FV,invoke,builtin]
 split at he
 ·rename_i el hu;obtain⟨y,hy,rfl⟩:=An.1 he;obtain⟨f,q1,q2⟩:=h.j9 hs hm hy;have hd:(y.den c.ρ).len≠ .undef:=BD hc;cases Ba:y.den c.ρ<;>simp only [Ba,AV.len,ne_eq,not_true_eq_false]at hd;rename_i xs;have hl:(y.den c.ρ).len= .int .i64 (xs.length:Int):=by rw [Ba];rfl
  have BP:Ei .i64 (xs.length:Int):=by
   rw [MB];rcases q1.kind with hh|hh|hh|hh|hh|hh|hh|hh|hh|hh
   all_goals first
    |(obtain⟨_,_,_,hh,_⟩:=hh;rw [Ba]at hh;cases hh;done)
    |(obtain⟨_,_,hh,_⟩:=hh;rw [Ba]at hh;cases hh;done)
    |skip
   ·obtain⟨_,_,_,hh,_⟩:=hh;rw [Ba]at hh;cases hh;simp [IntKind.min,IntKind.max,IntKind.signed,IntKind.bits]
   ·obtain⟨_,_,_,_,_,_,_,_,_,_,_,_,hh,_,_,_,hle,hlen,_⟩:=hh;rw [Ba]at hh;cases hh;simp [IntKind.min,IntKind.max,IntKind.signed,IntKind.bits];omega
   all_goals first
    |(obtain⟨_,_,_,hh,_⟩:=hh;rw [Ba]at hh;cases hh;done)
    |(obtain⟨_,_,_,_,_,_,_,hh,_⟩:=hh;rw [Ba]at hh;cases hh;done)
    |(obtain⟨_,_,_,_,hh,_⟩:=hh;rw [Ba]at hh;cases hh;done)
    |(obtain⟨_,hh,_⟩:=hh;rw [Ba]at hh;cases hh;done)
  refine As.pure h (v:= .int .i64 xs.length) ?_ (.df (by simp only [E.den,Ba,AV.len];exact .int BP .nil)) rfl;rcases OO q1 hl with⟨p,q,hv,Dt⟩|⟨b,o',k,q,hv,Dt⟩
  ·rw [ex,hv,Dt];simp [Builtin.len_,run_underlying hu,goInt]
  ·rw [ex,hv,Dt];simp [Builtin.len_,run_underlying hu,goInt]
 ·rename_i hu;obtain⟨y,hy,rfl⟩:=An.1 he;obtain⟨f,q1,q2⟩:=h.j9 hs hm hy;have hd:(y.den c.ρ).slen≠ .undef:=BD hc;cases Ba:y.den c.ρ<;>simp only [Ba,AV.slen,ne_eq,not_true_eq_false]at hd;obtain⟨bs,hv,rfl,hle⟩:=O8 q1 Ba;refine As.pure h (v:= .int .i64 bs.size) ?_ (.df ?_) rfl
  ·rw [ex,hv];simp [Builtin.len_,run_underlying hu,goInt]
  ·simp only [E.den,Ba,AV.slen];have:(bs.data.toList.length:Int)=(bs.size:Int):=by simp
   rw [this];refine .int ?_ .nil;rw [MB];simp [IntKind.min,IntKind.max,IntKind.signed,IntKind.bits];omega
 ·cases he
theorem zuE (h:A6 P c n nx sl hp a sl0 hp0 o gs) {x:Operand} {src dst:TypeId} {k0 k:IntKind} (ho:o.op= .convert src dst x) (h1:P.underlying src=some (.int k0)) (h2:P.underlying dst=some (.int k)) (he:Bg P sg sl0 hp0 nv nx gs o=some e) (hc: ∀q∈e.c6,Cn.den c.ρ q):As P o c n nx sl hp gs a e:=by
 have hm:x∈o.op.operands:=by simp [ho,Op.operands]
 simp only [Bg,ho,Ao]at he;obtain⟨s,hs,he⟩:=he;simp only [SD,h1,h2,An]at he;obtain⟨y,hy,rfl⟩:=he;obtain⟨f,q1,_⟩:=Gq (h.de hs hm) hy;have hd:(y.den c.ρ).conv k≠ .undef:=BD hc;cases Ba:y.den c.ρ<;>simp only [Ba,AV.conv,ne_eq,not_true_eq_false]at hd;rename_i k1 m;obtain⟨hv,_⟩:=Fy q1 Ba;exact As.pure h (v:= .int k (k.wrap m)) (by simp [execOp,ho,hv,convert,run_underlying h1,run_underlying h2,Conv.intToInt]) (.df (by simp only [E.den,Ba,AV.conv];exact .int (eZ _ _) .nil)) rfl
theorem zud (h:A6 P c n nx sl hp a sl0 hp0 o gs) {x:Operand} {src dst:TypeId} (ho:o.op= .convert src dst x) (h1:P.underlying src=some .string) (h2:P.underlying dst=some .string) (he:Bg P sg sl0 hp0 nv nx gs o=some e) (hc: ∀q∈e.c6,Cn.den c.ρ q):As P o c n nx sl hp gs a e:=by
 have hm:x∈o.op.operands:=by simp [ho,Op.operands]
 simp only [Bg,ho,Ao]at he;obtain⟨s,hs,he⟩:=he;simp only [SD,h1,h2,An]at he;obtain⟨y,hy,rfl⟩:=he;obtain⟨f,q1,_⟩:=Gq (h.de hs hm) hy;have hd:(y.den c.ρ).slen≠ .undef:=BD hc;cases hl:y.den c.ρ<;>simp only [hl,AV.slen,ne_eq,not_true_eq_false]at hd;obtain⟨bs,hv,hle,YM⟩:=O8 q1 hl;exact As.pure h (v:= .string bs) (by simp [execOp,ho,hv,convert,run_underlying h1,run_underlying h2]) (.df (by rw [hl,hle];exact Rd.str YM .nil)) rfl
theorem jU {w:World}: ∀{ys:List AV} {s:List UInt8} {cs:List Value} {f:List Nat},KP ys=some s→Rd w cs (AM ys) f→ ∃ns:List Int,cs=ns.map (Value.int .u8)∧s=ns.map (fun n=>UInt8.ofNat n.toNat)∧ns.length=ys.length
 | [],s,cs,f,h,hr=>by have:AM ([]:List AV)= []:=rfl;rw [this]at hr;cases hr;cases h;exact⟨[],rfl,rfl,rfl⟩
 |y::ys,s,cs,f,h,hr=>by
  unfold KP at h;split at h
  ·rename_i h0;cases h0
  ·rename_i n xs he;cases he;obtain⟨s',h1,rfl⟩:=An.1 h;have C6:Rd w cs (.int .u8 n::AM ys) f:=by simpa [AM,AV.cells]using hr
   cases C6 with
   |int hk C7=>obtain⟨ns,rfl,rfl,hl⟩:=jU h1 C7;exact⟨n::ns,rfl,rfl,by simp [hl]⟩
  ·cases h
theorem ztb (h:A6 P c n nx sl hp a sl0 hp0 o gs) {x:Operand} {src dst el:TypeId} (ho:o.op= .convert src dst x) (h1:P.underlying src=some (.slice el)) (h2:P.underlying dst=some .string) (he:Bg P sg sl0 hp0 nv nx gs o=some e) (hc: ∀q∈e.c6,Cn.den c.ρ q):As P o c n nx sl hp gs a e:=by
 have hm:x∈o.op.operands:=by simp [ho,Op.operands]
 simp only [Bg,ho,Ao]at he;obtain⟨s,hs,he⟩:=he;simp only [SD,h1,h2]at he;split at he
 ·rename_i hu;obtain⟨y,hy,rfl⟩:=An.1 he;obtain⟨f,q1,q2⟩:=h.j9 hs hm hy;have hd:(y.den c.ρ).text≠ .undef:=BD hc;cases Ba:y.den c.ρ<;>simp only [Ba,AV.text,ne_eq,not_true_eq_false]at hd;rename_i xs;split at hd
  ·rename_i t ht;split at hd
   ·rename_i hle;have BF:(E.text y).den c.ρ= .str t:=by
     simp only [E.den,Ba,AV.text,ht];rw [if_pos hle]
    have fin: ∀ns:List Int,t=ns.map (fun n=>UInt8.ofNat n.toNat)→ns.length=xs.length→(convert src dst (a.eval x)).run P c.w= .ok (.string (ns.foldl (fun r n=>r.push (UInt8.ofNat n.toNat)) ByteArray.empty)) c.w→As P o c n nx sl hp gs a {c6:= [.dfd (.text y)],val:= .e (.text y)}:=fun ns e1 e2 e3=>by
     have e4:(ns.foldl (fun r n=>r.push (UInt8.ofNat n.toNat)) ByteArray.empty)=⟨t.toArray⟩:=by
      rw [foldl_push_bytes,e1];simp [ByteArray.empty,ByteArray.emptyWithCapacity]
      try rfl
     rw [e4]at e3;refine As.pure h (v:= .string ⟨t.toArray⟩) (by simp [execOp,ho,e3]) (.df ?_) rfl;rw [BF];have B3:(ByteArray.mk t.toArray).size≤9223372036854775807:=by simp only [ByteArray.size,List.size_toArray];rw [e1,List.length_map];omega
     have:=Rd.str (w:=c.w) (s:=⟨t.toArray⟩) B3 .nil;simpa using this
    rw [Ba]at q1;rcases q1.kind with hh|hh|hh|hh|hh|hh|hh|hh|hh|hh
    all_goals first
     |(obtain⟨_,_,_,hh,_⟩:=hh;cases hh;done)
     |(obtain⟨_,_,hh,_⟩:=hh;cases hh;done)
     |skip
    ·obtain⟨p,q,hv,hx,_⟩:=hh;cases hx;cases ht;refine fin [] rfl rfl ?_;rw [hv];cases p with
     |none=>rw [run_convert_bytes_nil c.w src el h1 hu _ _ dst h2];rfl
     |some ad=>rw [run_convert_bytes_string c.w src dst el _ 0 q h1 hu h2,run_bytesToString c.w ad 0 q [] (by simp [loadCells,loadCellsFrom])]
    ·obtain⟨b,o',k,q,ys,cs,C,t',fz,sz,f1,hv,hx,_,hb,_,sM,hlen,_,_,Bp,hr⟩:=hh;cases hx;obtain⟨ns,rfl,e1,e2⟩:=jU ht hr.2;refine fin ns e1 e2 ?_;have hl:ns.length=k:=by omega
     have B1: ∀i,i<k→c.w.cell? ⟨b,o'+i,none⟩=some (.int .u8 (ns.getD i 0)):=fun i hi=>by
      have Bq:i<ns.length:=by omega
      have:=Bp i (.int .u8 ns[i]) (by simp [Bq]);rw [D1 hb,this];simp [Bq]
     have:=run_convert_bytes_arg c.w src el h1 hu b o' k q ns hl B1 dst h2;rw [hv,this];congr 2;rw [foldl_push_bytes];simp [strOfNums,ByteArray.empty,ByteArray.emptyWithCapacity]
     try rfl
    all_goals first
     |(obtain⟨_,_,_,hh,_⟩:=hh;cases hh;done)
     |(obtain⟨_,_,_,_,_,_,_,hh,_⟩:=hh;cases hh;done)
     |(obtain⟨_,_,_,_,hh,_⟩:=hh;cases hh;done)
     |(obtain⟨_,hh,_⟩:=hh;cases hh;done)
   ·exact absurd rfl hd
  ·exact absurd rfl hd
 ·cases he
theorem oN {ρ:List AV} {x:E} {b:Bool} {gs:Gd} (h1:x.den ρ= .bool b) (h2:A1 ρ gs):A1 ρ ((x,b)::gs):=by
 intro g hg;rcases Ae.1 hg with rfl|hg
 ·exact h1
 ·exact h2 g hg
theorem zyU (h:A6 P c n nx sl hp a sl0 hp0 o gs) {x y z:Operand} (ho:o.op= .pick x y z) (he:Bg P sg sl0 hp0 nv nx gs o=some e) (hc: ∀q∈e.c6,Cn.den c.ρ q):As P o c n nx sl hp gs a e:=by
 have Du:x∈o.op.operands:=by simp [ho,Op.operands]
 have C4:y∈o.op.operands:=by simp [ho,Op.operands]
 have iN:z∈o.op.operands:=by simp [ho,Op.operands]
 simp only [Bg,ho,Ao]at he;obtain⟨s,hs,he⟩:=he;have hr:=h.de hs Du;split at he
 ·rename_i q;have ex: ∀b,a.eval x= .bool b→(execOp a.eval o).run P c.w= .ok (.value (if b then a.eval y else a.eval z)) c.w:=fun b hb=>by
   simp [execOp,ho,hb,asBool]
  obtain⟨f,q1⟩: ∃f,Rd c.w [a.eval x] [q.den c.ρ] f:=by
   generalize a.eval x=v at hr;cases hr with
   |e h1 _ _=>exact⟨_,h1⟩
  unfold qL at he;split at he
  ·obtain⟨s',AY,rfl⟩:=An.1 he;exact As.pure h (v:=a.eval y) (ex true (G2 q1 rfl)) (h.de AY C4) rfl
  ·obtain⟨s',AY,rfl⟩:=An.1 he;exact As.pure h (v:=a.eval z) (ex false (G2 q1 rfl)) (h.de AY iN) rfl
  ·split at he
   ·rename_i y' z' hy hz;simp at he;subst he;simp only [Ao]at hy hz;obtain⟨sy,tG,hy⟩:=hy;obtain⟨sz,B3,hz⟩:=hz;have hd:(q.den c.ρ).gh≠ .undef:=BD hc;cases hq:q.den c.ρ<;>simp only [hq,AV.gh,ne_eq,not_true_eq_false]at hd;rename_i b;cases b with
    |true=>have r:=WQ (a:=a) tG (fun t ht=>by subst ht;rw [h.sl t C4];exact h.rel.dg t) (oN hq h.gs);obtain⟨f',g1,g2⟩:=Gq r hy;exact As.pure h (v:=a.eval y) (ex true (G2 q1 hq)) (.e (f:=f') (by simpa [E.den,hq,AV.cond]using g1) g2 .nil) rfl
    |false=>have r:=WQ (a:=a) B3 (fun t ht=>by subst ht;rw [h.sl t iN];exact h.rel.dg t) (oN hq h.gs);obtain⟨f',g1,g2⟩:=Gq r hz;exact As.pure h (v:=a.eval z) (ex false (G2 q1 hq)) (.e (f:=f') (by simpa [E.den,hq,AV.cond]using g1) g2 .nil) rfl
   ·cases he
 ·cases he
end
section
variable {P:Program} {c:Cx} {n nx:Nat} {sl sl0:Nat→SV} {hp hp0:Nat→Option Ad} {a:Act} {o:Oper} {gs:Gd} {e:AP} {sg:BB} {nv:Nat}
theorem dE {w:World} {v:Value} {x:AV} {f:List Nat} (h:Rd w [v] [x] f) (h1: ∀cs,x≠ .agg cs) (h2: ∀cs,x≠ .tup cs):v.oneCell'=true:=by
 cases h<;>first
  |rfl
  |exact absurd rfl (h1 _)
  |exact absurd rfl (h2 _)
theorem one_cells {v:Value} (h:v.oneCell'=true):v.cells= #[v]:=by cases v<;>first|rfl|(simp [Value.oneCell']at h)
theorem W2 {t:TypeId} {s:SV} {v:Value} {cs:List SV} {ck:List Cn} (h:SR c [s] [v]) (hc:OR P t s=some (cs,ck)) (hk: ∀q∈ck,q.den c.ρ):
  SR c cs v.cells.toList∧(∀u∈v.cells.toList,u.oneCell'=true):=by
 unfold OR at hc;split at hc
 ·split at hc
  ·simp at hc;obtain⟨rfl,rfl⟩:=hc;cases h with
   |agg h1 h2 _=>exact⟨by simpa [Value.cells]using h2,by simpa [Value.cells]using h1⟩
  ·rename_i x;simp at hc;obtain⟨rfl,rfl⟩:=hc;cases h with
   |e h1 h2 _=>
    obtain⟨as_,has,hl⟩:=BD hk;obtain⟨vs,rfl,h3,h4⟩:=Iq h1 has;refine⟨?_,by simpa [Value.cells]using h3⟩;have hlen:=h4.len;have key: ∀k,k≤as_.length→SR c ((List.range k).map fun j=>SV.e (.fld x j 1 false)) (vs.take k):=by
     intro k
     induction k with
     |zero=>intro _;simpa using SR.nil
     |succ k ih=>
      intro hk;have Bx:k<as_.length:=by omega
      obtain⟨u,g,hu,hg,hr⟩:=h4.at (show as_[k]?=some as_[k] by simp [Bx])
      rw [List.range_succ,List.map_append,List.take_succ_eq_append_getElem (by omega)];refine(ih (by omega)).app ?_;have EC:vs[k]'(by omega)=u:=by simpa [show k<vs.length by omega]using hu
      rw [EC];exact .e (f:=g) (by simpa [E.den,AV.fld,has,AV.cells,Bx]using hr) (fun b hb=>h2 b (hg b hb)) .nil
    have:=key as_.length (Nat.le_refl _);rw [←hlen,List.take_length,hlen,hl]at this;simpa [Value.cells]using this
  ·cases hc
 ·split at hc
  ·rename_i x;simp at hc;obtain⟨rfl,rfl⟩:=hc;cases h with
   |e h1 h2 _=>
    have hq:(∀cs,x.den c.ρ≠ .agg cs)∧ ∀cs,x.den c.ρ≠ .tup cs:=by
     cases x<;>first
      |exact(BD hk:Cn.den c.ρ (.cells _ 1))
      |exact⟨by simp [E.den],by simp [E.den]⟩
    have Pm:=dE h1 hq.1 hq.2;rw [one_cells Pm];exact⟨.e h1 h2 .nil,by simpa using Pm⟩
  ·cases hc
  ·cases hc
  ·cases hc
  ·cases hc
  ·cases hc
  ·cases hc
  ·cases hc
  ·cases hc
  ·simp at hc;obtain⟨rfl,rfl⟩:=hc;have Pm:v.oneCell'=true:=by
    cases h<;>first|rfl|(rename_i hh _ _ _ _ _;exact absurd rfl (hh _))|skip
    all_goals first
     |rfl
     |exact(show∀(i:Nat),SV.lent _=SV.lent i→False from by assumption) _ rfl|>.elim
     |exact(show∀(t g n:Nat) (p:Lq) (x:E),SV.via _ _ _ _ _=SV.via t g n p x→False from by assumption) _ _ _ _ _ rfl|>.elim
     |exact(show∀(t g n:Nat) (p:Lq) (x i:E) (sz o:Nat),SV.vptr _ _ _ _ _ _ _ _=SV.vptr t g n p x i sz o→False from by assumption) _ _ _ _ _ _ _ _ rfl|>.elim
     |(exfalso;simp_all;done)
   rw [one_cells Pm];exact⟨h,by simpa using Pm⟩
theorem zEj (h:A6 P c n nx sl hp a sl0 hp0 o gs) (ob:Obj) (hv:Value):KR c (c.new nx ob hv []) nx:=
 ⟨rfl,rfl,rfl,rfl,fun t ht=>ht.imp id (fun hh=>by subst hh;exact⟨Nat.le_refl _,by simp [Bj]⟩)⟩
theorem Mz (h:A6 P c n nx sl hp a sl0 hp0 o gs): ¬c.U nx:=h.new nx (Nat.le_refl _) (by omega)
theorem As.box (h:A6 P c n nx sl hp a sl0 hp0 o gs) {ty:TypeId} {g:Bool} {cs:List SV} {v:Value} {ck:List Cn} (hr:(execOp a.eval o).run P c.w= .ok (.value (.pointer (some ⟨c.w.heap.size,0,none⟩))) (c.w.alloc (.cells v.cells ty)))
  (hs:SR c cs v.cells.toList) (h1: ∀u∈v.cells.toList,u.oneCell'=true):As P o c n nx sl hp gs a {c6:=ck,val:= .cy nx 0,bt:= [(nx,Co gs (.box ty g cs))]}:=by
 intro next Q hk
 unfold Oper.wp;rw [hr,Oper.upon_value];have hU:=Mz h;have keep:CX c (c.new nx (.cells v.cells ty) (.pointer (some ⟨c.w.heap.size,0,none⟩)) []):=Cx.ie (fun g hg=>hU (h.rel.cg _ _ hg));have hH:(c.new nx (.cells v.cells ty) (.pointer (some ⟨c.w.heap.size,0,none⟩)) []).H nx 0= .pointer (some ⟨c.w.heap.size,0,none⟩):=by simp [Cx.new]
 have hK:(c.new nx (.cells v.cells ty) (.pointer (some ⟨c.w.heap.size,0,none⟩)) []).K nx 0:= .inr ⟨rfl,rfl⟩;have Am:=h.rel.new hU (.cells v.cells ty) (.pointer (some ⟨c.w.heap.size,0,none⟩)) (.box ty g cs) gs h.gs (by intros;simp)
  ⟨c.w.heap.size,v.cells,hK,hH,by simp [Cx.new],by simp [Cx.new],heap_alloc_new _ _,h1,hs.keep keep⟩
 exact hk _ _ (zEj h _ _) (Am.put ((SR.cy hK hH .nil).mkGd gs h.gs) o.dst)
theorem zxR (h:A6 P c n nx sl hp a sl0 hp0 o gs) {t:TypeId} (ho:o.op= .alloc t) (he:Bg P sg sl0 hp0 nv nx gs o=some e) (hc: ∀q∈e.c6,Cn.den c.ρ q):As P o c n nx sl hp gs a e:=by
 simp only [Bg,ho,Ao]at he;obtain⟨z,⟨i,hi,hz⟩,s,hs,⟨cs,ck⟩,Bp,he⟩:=he;split at he
 ·cases he
 ·split at he
  ·cases he
  ·rename_i Lz;have Lz:ck= []:=by simpa using Lz
   simp at he;subst he;have AY:D4 z=some s:=by simpa [jK,hi,hz]using hs
   obtain⟨q1,q2⟩:=W2 (WX (c:=c) AY) Bp (by simp [Lz]);refine As.box h (v:=z) ?_ q1 q2;simp [execOp,ho,Instr.alloc,zeroValue,typeInfo,hi,hz,newVar,newRow]
theorem wR (h:A6 P c n nx sl hp a sl0 hp0 o gs) {t:TypeId} {x:Operand} (ho:o.op= .box t x) (he:Bg P sg sl0 hp0 nv nx gs o=some e) (hc: ∀q∈e.c6,Cn.den c.ρ q):As P o c n nx sl hp gs a e:=by
 have hm:x∈o.op.operands:=by simp [ho,Op.operands]
 simp only [Bg,ho,Ao]at he;obtain⟨s,hs,⟨cs,ck⟩,Bp,he⟩:=he;split at he
 ·cases he
 ·simp at he;subst he;obtain⟨q1,q2⟩:=W2 (h.de hs hm) Bp hc;refine As.box h (v:=a.eval x) ?_ q1 q2;simp [execOp,ho,Instr.box,newVar,newRow]
end
section
variable {P:Program} {c:Cx} {n nx:Nat} {sl sl0:Nat→SV} {hp hp0:Nat→Option Ad} {a:Act} {o:Oper} {gs:Gd} {e:AP} {sg:BB} {nv:Nat}
def setVs {α:Type} (cs:List α) (o:Nat) (vs:List α):List α:=cs.take o++vs++cs.drop (o+vs.length)
theorem OH {α:Type} (cs vs:List α) (o:Nat) (h:o+vs.length≤cs.length) (i:Nat):(setVs cs o vs)[i]?=if o≤i∧i<o+vs.length then vs[i-o]? else cs[i]?:=by
 unfold setVs;have ht:(cs.take o).length=o:=by rw [List.length_take];omega
 rw [List.append_assoc];by_cases h1:i<o
 ·rw [if_neg (by omega),List.getElem?_append_left (by omega),List.getElem?_take,if_pos h1]
 ·rw [List.getElem?_append_right (by omega),ht];by_cases h2:i<o+vs.length
  ·rw [if_pos (by omega),List.getElem?_append_left (by omega)]
  ·rw [if_neg (by omega),List.getElem?_append_right (by omega),List.getElem?_drop];congr 1;omega
theorem OC {α:Type} (cs vs:List α) (o:Nat) (h:o+vs.length≤cs.length):(setVs cs o vs).length=cs.length:=by simp [setVs];omega
theorem SR.setVs {cs vs:List SV} {C V:List Value} {k:Nat} (h:SR c cs C) (hv:SR c vs V):SR c (Ph cs k vs) (Go.Proofs.YtmbknelgbjlhnaaGreat.setVs C k V):=by unfold Ph Go.Proofs.YtmbknelgbjlhnaaGreat.setVs;have hl:=hv.len;rw [←hl];exact((h.split k).1.app hv).app (h.split _).2
theorem pR (vs:List Value): ∀(k off:Nat) (C:Array Value),off+k+vs.length≤C.size→
  ((vs.zipIdx k).foldl (fun cs (p:Value × Nat)=>cs.setIfInBounds (off+p.2) p.1) C).toList=setVs C.toList (off+k) vs:=by
 induction vs with
 |nil=>intro k off C _;simp [setVs]
 |cons v vs ih=>
  intro k off C h;simp only [AL]at h;simp only [List.zipIdx_cons,List.foldl_cons];rw [ih (k+1) off _ (by simp;omega)];apply List.ext_getElem?;intro i;rw [OH _ _ _ (by simp;omega),OH _ _ _ (by simp;omega)];simp only [Array.toList_setIfInBounds,List.getElem?_set,AL,Array.length_toList];by_cases h1:i=off+k
  ·subst h1;rw [if_neg (by omega),if_pos rfl,if_pos (by omega),if_pos (by omega)];simp
  ·by_cases h2:off+(k+1)≤i∧i<off+(k+1)+vs.length
   ·rw [if_pos h2,if_pos (by omega),show i-(off+k)=(i-(off+(k+1)))+1 by omega,List.getElem?_cons_succ]
   ·rw [if_neg h2,if_neg (by omega),if_neg (by omega)]
theorem cN {b off:Nat} {t:TypeId}: ∀(vs:List Value) (i:Nat) (w:World) (C:Array Value),w.heap[b]?=some (.cells C t (0,0))→off+i+vs.length≤C.size→(∀v∈vs,v.oneCell'=true)→
  (storeCells ⟨b,off,none⟩ vs i).run P w= .ok () (Cy w b (off+i) vs)
 | [],i,w,C,_,_,_=>by simp [storeCells,Cy]
 |v::vs,i,w,C,hb,hl,h1=>by
  simp only [AL]at hl;have hi:off+i<C.size:=by omega
  have B1:w.cell? ⟨b,off+i,none⟩=some C[off+i]:=by simp [World.cell?,hb,hi]
  have Yv:w.frozen? ⟨b,off+i,none⟩=false:=by simp [World.frozen?,hb]
  have GQ:(store ((⟨b,off,none⟩:Addr).add i) v).run P w= .ok () (w.setCell ⟨b,off+i,none⟩ v):=by rw [Addr.add_lit,run_store P w _ v _ (h1 v (by simp)),B1];simp [Yv]
  have h2:=heap_setCell_same w b (off+i) C t v hb;have ih:=cN (off:=off) vs (i+1) (w.setCell ⟨b,off+i,none⟩ v) _ h2 (by simp;omega) (fun x hx=>h1 x (by simp [hx]));simp only [storeCells,Sem.run_bind,GQ,Result.andThen_ok,ih,Cy];rw [Nat.add_assoc]
theorem VD {w:World} {b off:Nat} {t:TypeId} {vs:List Value} {C:Array Value} (hb:w.heap[b]?=some (.cells C t (0,0))) (hl:off+vs.length≤C.size):
  Mod [b] w (Cy w b off vs)∧(Cy w b off vs).heap[b]?=some (.cells (setVs C.toList off vs).toArray t (0,0))∧(Cy w b off vs).heap.size=w.heap.size:=by
 obtain⟨hm,C',h1,h2,h3,h4⟩:=cI vs w b off C t hb hl;refine⟨hm, ?_, ?_⟩
 ·rw [h1];congr 2;apply Array.ext';apply List.ext_getElem?;intro i;rw [OH _ _ _ (by simpa using hl)];by_cases hi:off≤i∧i<off+vs.length
  ·rw [if_pos hi];have AB:i-off<vs.length:=by omega
   have:=h3 (i-off) vs[i-off] (by simp [AB]);rw [show off+(i-off)=i by omega]at this;rw [Array.getElem?_toList,this];simp [AB]
  ·rw [if_neg hi,Array.getElem?_toList,Array.getElem?_toList];exact h4 i (by omega)
 ·clear hm h1 h2 h3 h4 hl
  induction vs generalizing w off C with
  |nil=>rfl
  |cons v vs ih=>simp only [Cy];rw [ih (heap_setCell_same w b off C t v hb)];simp [World.setCell]
theorem dD {w:World} {b off:Nat} {t ty:TypeId} {v:Value} {C:Array Value} (hb:w.heap[b]?=some (.cells C ty (0,0))) (ht:CM P t=true) (hs:v.cells.size=P.cellsOf t) (hl:off+v.cells.size≤C.size) (h1: ∀u∈v.cells.toList,u.oneCell'=true):
  (Instr.storeAt t (.pointer (some ⟨b,off,none⟩)) v).run P w= .ok () (Cy w b off v.cells.toList):=by
 have:=cN (P:=P) (off:=off) v.cells.toList 0 w C hb (by simpa using hl) h1;simp only [Nat.add_zero]at this;simp [Instr.storeAt,Instr.sureAddr,storeVar,Mr ht,hs,this]
def Cx.wr (c:Cx) (w':World) (t:Nat):Cx:={c with w:=w',E:=fun u=>if u=t then c.E u+1 else c.E u}
theorem Cx.iw {c:Cx} {w':World} {t b:Nat} (gw:GW c) (B4:b∈(c.G t).top) (hm:Mod [b] c.w w'):CX c (c.wr w' t):=by
 have Bk:b∈(c.G t).own:=by simp [GI.own,B4]
 refine⟨rfl,rfl,fun q _ hq=>hq,fun q hq AF=>hm.block q hq ?_,fun u g hu=>⟨hu,rfl⟩,fun u g hu=> ?_⟩
 ·simp only [List.mem_singleton];rintro rfl;exact AF.1 ⟨t,B4⟩
 ·by_cases Ft:u=t
  ·have e1:(c.wr w' t).E u=c.E u+1:=by simp only [Cx.wr,if_pos Ft]
   exact⟨by omega,fun h=>by omega⟩
  ·have e1:(c.wr w' t).E u=c.E u:=by simp only [Cx.wr,if_neg Ft]
   rw [e1];refine⟨Nat.le_refl _,fun _=>⟨rfl,fun q hq Gf=>hm.block q Gf ?_⟩⟩;simp only [List.mem_singleton];rintro rfl;exact gw.c7 t u (Ne.symm Ft) q Bk (by simp [GI.own,hq])
theorem Rel.write (h:Rel c n sl hp a) {t:Nat} {e0:Ad} {b:Nat} {w':World} (AO:B0 c.ρ (hp t) e0) (B4:b∈(c.G t).top) (hm:Mod [b] c.w w') (B3:w'.heap.size=c.w.heap.size) (e1:Ad) (BE: ∀hs f,e1≠ .gd hs f)
  (he:CD (c.wr w' t) t e1):Rel (c.wr w' t) n sl (AW hp [(t,e1)]) a∧CX c (c.wr w' t):=by
 have Bk:b∈(c.G t).own:=by simp [GI.own,B4]
 have Bw:CX c (c.wr w' t):=Cx.iw h.gw B4 hm;have Db: ∀u,AW hp [(t,e1)] u=if u=t then some e1 else hp u:=fun u=>rfl;refine⟨h.change (fun u=>u=t) Bw ⟨hm.os.trans h.base.os,hm.tape.trans h.base.tape,hm.output.trans h.base.output,Nat.le_trans h.base.size hm.size,h.base.pins,fun q hq GO=> ?_,h.base.pk,h.base.lo⟩
  (fun u hu=>⟨by rw [Db,if_neg hu],rfl,by simp [Cx.wr,hu],fun g hg=>hg⟩) (fun u hu q hq=>hm.block q (h.gw.inb u q (by simp [GI.own,hq])) ?_) (fun u hu=> ?_) ⟨h.gw.nodup,h.gw.c7,h.gw.allow,fun u q hq=> ?_⟩ h.cg (fun u f hf=> ?_),Bw⟩
 ·refine(hm.block q (Nat.lt_of_lt_of_le hq h.base.size) ?_).trans (h.base.block q hq GO);simp only [List.mem_singleton];rintro rfl;rcases h.gw.allow t q Bk with hh|hh
  ·exact absurd hh (Nat.not_le.2 hq)
  ·exact GO hh
 ·simp only [List.mem_singleton];rintro rfl;exact h.gw.c7 t u (Ne.symm hu) q Bk (by simp [GI.own,hq])
 ·subst hu;rw [Db,if_pos rfl];refine⟨fun e' hr=> ?_,fun hn=> ?_⟩
  ·cases e1<;>first
    |(simp only [B0]at hr;subst hr;exact he)
    |exact absurd rfl (BE _ _)
  ·cases e1<;>first
    |exact absurd rfl (BE _ _)
    |exact absurd rfl (hn _)
 ·show q<w'.heap.size;rw [B3];exact h.gw.inb u q hq
 ·rw [Db]at hf;split at hf
  ·rename_i hu;subst hu;cases hh:hp u with
   |none=>rw [hh]at AO;exact AO.elim
   |some e9=>exact h.c8 u e9 hh
  ·exact h.c8 u f hf
end
section
variable {P:Program} {c:Cx} {n nx:Nat} {sl sl0:Nat→SV} {hp hp0:Nat→Option Ad} {a:Act} {o:Oper} {gs:Gd} {e:AP} {sg:BB} {nv:Nat}
theorem ztv (h:A6 P c n nx sl hp a sl0 hp0 o gs) {t:TypeId} {x y:Operand} (ho:o.op= .store t x y) {b k:Nat} {s:SV} (hx:Bm sl0 gs x=some (.cy b k)) (hy:Bm sl0 gs y=some s)
  (he:Lc P hp0 gs t (.cy b k) s=some e) (hc: ∀q∈e.c6,Cn.den c.ρ q):As P o c n nx sl hp gs a e:=by
 have r1:=h.de hx (by simp [ho,Op.operands]);have r2:=h.de hy (by simp [ho,Op.operands]);simp only [Lc]at he;split at he
 ·rename_i ty g cs vs ck hl Bp;split at he
  ·rename_i hh;obtain⟨A4,hlen,hle,rfl⟩:=hh;simp at he;subst he;obtain⟨q1,q2⟩:=W2 r2 Bp hc;generalize hv:a.eval x=v at r1;cases r1 with
   |cy h1 h2 h3=>
    rename_i q;have Em:=Cu hl h.gs;obtain⟨q',C,e1,e2,e3,e4,e5,e5',e6⟩:=h.eh b _ Em;rw [h2]at e2;cases e2;have AO:B0 c.ρ (hp b) (.box ty g cs):=by
     cases hh:hp0 b with
     |none=>rw [hh]at Em;exact Em.elim
     |some e9=>rw [h.hp b e9 hh];rwa [hh]at Em
    have LQ:=e6.len;have YL:=q1.len;obtain⟨m1,m2,m3⟩:=VD (vs:=(a.eval y).cells.toList) e5 (show k+_≤C.size by simp at LQ YL ⊢;omega);obtain⟨Am,Bw⟩:=h.rel.write AO (by rw [e3];simp) m1 m3 (.box ty g (Ph cs k vs)) (by intros;simp) (w':=Cy c.w q k (a.eval y).cells.toList) (by
     have Bx:CX c (c.wr (Cy c.w q k (a.eval y).cells.toList) b):=Cx.iw h.rel.gw (by rw [e3];simp) m1;refine⟨q,_,e1,h2,e3,e4,m2, ?_, ?_⟩
     ·intro u hu;simp only [List.toList_toArray]at hu;unfold setVs at hu;simp only [Ag]at hu;rcases hu with(hu|hu)|hu
      ·exact e5' u (List.mem_of_mem_take hu)
      ·exact q2 u hu
      ·exact e5' u (List.mem_of_mem_drop hu)
     ·simpa using(e6.setVs q1 (k:=k)).keep Bx)
    intro next Q hk
    unfold Oper.wp;have hr:(execOp a.eval o).run P c.w= .ok .skip (Cy c.w q k (a.eval y).cells.toList):=by have:=dD (P:=P) (t:=t) (v:=a.eval y) (off:=k) e5 A4 (by simp at YL;omega) (by simp at LQ YL;omega) q2;simp [execOp,ho,hv,this]
    rw [hr,Oper.upon_skip];exact hk _ (c.wr (Cy c.w q k (a.eval y).cells.toList) b) ⟨rfl,rfl,rfl,rfl,fun t ht=> .inl ht⟩ (Am.put ((SR.undef .nil).mkGd []) o.dst)
  ·cases he
 ·cases he
theorem o7 {places:List (Nat × Nat)} {tys:List TypeId}: ∀(ps:List (Nat × SV)) (vs:List (Nat × Value)) (cs:List SV) (C:Array Value) (r:List SV × List Cn),Tl P places tys ps cs=some r→(∀q∈r.2,q.den c.ρ)→
  ps.map (·.1)=vs.map (·.1)→SR c (ps.map (·.2)) (vs.map (·.2))→SR c cs C.toList→(∀u∈C.toList,u.oneCell'=true)→
  ∃C',Instr.fill (places.toArray[·]?) C vs=some C'∧SR c r.1 C'.toList∧ ∀u∈C'.toList,u.oneCell'=true
 | [],vs,cs,C,r,h,hk,he,_,hC,h1=>by
  have:vs= []:=by simpa using he.symm
  subst this;simp [Tl]at h;subst h;exact⟨C,rfl,hC,h1⟩
 |(i,s)::ps, [],cs,C,r,h,hk,he,_,hC,h1=>by simp at he
 |(i,s)::ps,(j,v)::vs,cs,C,r,h,hk,he,hs,hC,h1=>by
  simp only [List.map_cons,List.cons.injEq]at he;obtain⟨rfl,he⟩:=he;simp only [List.map_cons]at hs;obtain⟨Br,AQ⟩:=hs.cv;unfold Tl at h;split at h
  ·rename_i off sz t L0 A4;split at h
   ·rename_i us ck Bp;split at h
    ·rename_i hh;obtain⟨B3,hle⟩:=hh;obtain⟨r',C6,rfl⟩:=An.1 h;obtain⟨q1,q2⟩:=W2 Br Bp (fun q hq=>hk q (by simp [hq]));have Jv:=q1.len;have PZ:=hC.len;have Kr:(v.cells.zipIdx.foldl (fun cs (p:Value × Nat)=>cs.setIfInBounds (off+p.2) p.1) C).toList=setVs C.toList off v.cells.toList:=by
      have:=pR v.cells.toList 0 off C (by simp at Jv PZ ⊢;omega);rw [←Array.foldl_toList,Array.toList_zipIdx];simpa using this
     obtain⟨C',g1,g2,g3⟩:=o7 ps vs (Ph cs off us) (v.cells.zipIdx.foldl (fun cs (p:Value × Nat)=>cs.setIfInBounds (off+p.2) p.1) C) r' C6 (fun q hq=>hk q (by simp [hq])) he AQ (by rw [Kr];exact hC.setVs q1) (by
      rw [Kr];intro u hu;unfold setVs at hu;simp only [Ag]at hu;rcases hu with(hu|hu)|hu
      ·exact h1 u (List.mem_of_mem_take hu)
      ·exact q2 u hu
      ·exact h1 u (List.mem_of_mem_drop hu))
     refine⟨C', ?_,g2,g3⟩;unfold Instr.fill;have Y7:places.toArray[i]?=some (off,sz):=by simpa using L0
     simp only [Y7];rw [if_neg (by simp at Jv PZ ⊢;omega)];exact g1
    ·cases h
   ·cases h
  ·cases h
theorem W1 {sl0:Nat→SV} {gs:Gd} (L:List Operand) (h: ∀x s,Bm sl0 gs x=some s→x∈L→SR c [s] [a.eval x]): ∀{xs:List (Nat × Operand)} {ss:List (Nat × SV)},(∀x∈xs,x.2∈L)→xs.mapM (fun(p:Nat × Operand)=>(Bm sl0 gs p.2).map fun s=>(p.1,s))=some ss→
  ss.map (·.1)=xs.map (·.1)∧SR c (ss.map (·.2)) (xs.map fun p=>a.eval p.2)
 | [],ss,_,hm=>by simp at hm;subst hm;exact⟨rfl, .nil⟩
 |x::xs,ss,hL,hm=>by rw [List.mapM_cons]at hm;simp only [Option.bind_eq_bind,Ao,An]at hm;obtain⟨_,⟨s,hs,rfl⟩,ss',E8,hm⟩:=hm;simp at hm;subst hm;obtain⟨e1,e2⟩:=W1 L h (fun y hy=>hL y (by simp [hy])) E8;exact⟨by simp [e1],(h _ s hs (hL x (by simp))).app e2⟩
theorem zxF (h:A6 P c n nx sl hp a sl0 hp0 o gs) {t:TypeId} {parts:Array (Nat × Operand)} (ho:o.op= .build t parts) (he:Bg P sg sl0 hp0 nv nx gs o=some e) (hc: ∀q∈e.c6,Cn.den c.ρ q):As P o c n nx sl hp gs a e:=by
 simp only [Bg,ho,Ao]at he;obtain⟨ps,KE,he⟩:=he;obtain⟨e1,e2⟩:=W1 (c:=c) (a:=a) (parts.toList.map (·.2)) (fun x s hx hm=>h.de hx (by simpa [ho,Op.operands]using hm)) (fun x hx=>List.mem_map.2 ⟨x,hx,rfl⟩) KE;unfold oZ at he;split at he
 ·rename_i it fs M4 hu;split at he
  ·rename_i zs places hz L0;obtain⟨r,hr,rfl⟩:=An.1 he;obtain⟨z,TP,tP⟩:=Ao.1 hz;have jC:=WX (c:=c) tP;obtain⟨cells,g1,g2,g3⟩:=o7 (c:=c) (P:=P) ps (parts.toList.map fun p=>(p.1,a.eval p.2)) zs.toList z.cells r hr hc (by rw [e1];simp) (by rw [List.map_map];exact e2)
    (by cases jC with|agg h1 h2 _=>simpa [Value.cells]using h2) (by cases jC with|agg h1 h2 _=>simpa [Value.cells]using h1)
   have hb:P.built t (parts.map fun(x:Nat × Operand)=>(x.1,a.eval x.2)).toList=some cells:=by simp only [Program.built,M4,hu,TP,L0];simpa using g1
   have:=SR.agg (c:=c) (cs:=Bb.of r.1) (as_:=cells.toList) g3 (by rw [Bb.az];exact g2) .nil;refine As.pure h (v:= .agg cells) ?_ (by simpa using this) rfl;have AK:=run_build c.w t _ cells hb;simp only [execOp,ho,Sem.run_bind];rw [AK];rfl
  ·cases he
 ·cases he
end
section
variable {P:Program} {c:Cx} {n nx:Nat} {sl sl0:Nat→SV} {hp hp0:Nat→Option Ad} {a:Act} {o:Oper} {gs:Gd} {e:AP} {sg:BB} {nv:Nat}
def Cx.cc (c:Cx) (ts:List Nat):Cx:={c with G:=fun u=>if u∈ts then⟨[], []⟩else c.G u,E:=fun u=>if u∈ts then c.E u+1 else c.E u}
theorem Cx.ji {c:Cx} {ts:List Nat} {b:Nat} (h:(c.cc ts).M b): ∃u,u∉ts∧b∈(c.G u).top:=by
 obtain⟨u,hu⟩:=h;simp only [Cx.cc]at hu;split at hu
 ·simp at hu
 ·exact⟨u,by assumption,hu⟩
theorem Cx.gb {c:Cx} {ts:List Nat} {b:Nat} (h:c.ok b):(c.cc ts).ok b:=⟨fun hm=>by obtain⟨u,_,hu⟩:=Cx.ji hm;exact h.1 ⟨u,hu⟩,h.2⟩
theorem Cx.jv (c:Cx) (ts:List Nat):CX c (c.cc ts):=⟨rfl,rfl,fun _ _ h=>Cx.gb h,fun _ _ _=>rfl,fun _ _ h=>⟨h,rfl⟩,fun t g _=>by
 by_cases ht:t∈ts
 ·have e1:(c.cc ts).E t=c.E t+1:=by simp only [Cx.cc,if_pos ht]
  exact⟨by omega,fun h=>by omega⟩
 ·have e1:(c.cc ts).E t=c.E t:=by simp only [Cx.cc,if_neg ht]
  have e2:(c.cc ts).G t=c.G t:=by simp only [Cx.cc,if_neg ht]
  rw [e1];exact⟨Nat.le_refl _,fun _=>⟨e2,fun _ _ _=>rfl⟩⟩⟩
theorem qD {c:Cx} (gw:GW c) {ts us:List Nat} (hs: ∀t∈us,t∈ts) {b:Nat} (h:c.fg us b):(c.cc ts).ok b:=by
 rcases h with h|⟨t,ht,hb⟩
 ·exact Cx.gb h
 ·have Bk:b∈(c.G t).own:=by simp [GI.own,hb]
  refine⟨fun hm=> ?_, .inr (gw.allow t b Bk)⟩;obtain⟨u,hu,GH⟩:=Cx.ji hm;have:t≠u:=fun hh=>hu (hh▸hs t ht);exact gw.c7 t u this b Bk (by simp [GI.own,GH])
def J0 (e:Ad) (g:Nat) (x:E):Prop:=(∃ety sz d,e= .row ety sz g x d)∨ ∃ety sz l ep,e= .deep ety sz l g ep x
theorem J0.ne {e:Ad} {g:Nat} {x:E} (h:J0 e g x): ∀hs f,e≠ .gd hs f:=by rcases h with⟨_,_,_,rfl⟩|⟨_,_,_,_,rfl⟩<;>intros<;>simp
theorem J0.rd {e:Ad} {g t:Nat} {x:E} (h:J0 e g x) (k:CD c t e):c.K t g∧ ∃f,Rd c.w [c.H t g] [x.den c.ρ] f∧ ∀b∈f,b∈(c.G t).top∨c.ok b:=by
 rcases h with⟨_,_,_,rfl⟩|⟨_,_,_,_,rfl⟩
 ·obtain⟨q1,q2,N,q3,q4,_⟩:=k;obtain⟨f,r1,r2,_⟩:=q3.rd;exact⟨q1,f,r1,fun b hb=>(r2 b hb).imp id (q4 b)⟩
 ·obtain⟨q1,q2,_,q3,_⟩:=k;obtain⟨f,r1,r2⟩:=q3.rd;exact⟨q1,f,r1,fun b hb=> .inl (r2 b hb)⟩
theorem J0.fun {e:Ad} {g g':Nat} {x x':E} (h:J0 e g x) (k:J0 e g' x'):g=g'∧x=x':=by rcases h with⟨_,_,_,rfl⟩|⟨_,_,_,_,rfl⟩<;>rcases k with⟨_,_,_,hh⟩|⟨_,_,_,_,hh⟩<;>cases hh<;>exact⟨rfl,rfl⟩
theorem Mp {gs:Gd} {ρ:List AV} (k:A1 ρ gs): ∀{ts:List Nat} {l:List (Nat × Ad)},CW hp0 gs ts=some l→
  (∀t e,(t,e)∈l→t∈ts∧gs= []∧ ∃g x f,e= .cc g x∧B0 ρ (hp0 t) f∧J0 f g x)∧
  (∀t∈ts,(∃g x,(t,Ad.cc g x)∈l)∨(∃g x,B0 ρ (hp0 t) (.cc g x))∨ ∃ty g cs,B0 ρ (hp0 t) (.box ty g cs))
 | [],l,h=>by simp [CW]at h;subst h;simp
 |t::ts,l,h=>by
  unfold CW at h;split at h
  ·rename_i ety sz g x d l' hl Bl;split at h
   ·rename_i hg;simp at h;subst h;obtain⟨h1,h2⟩:=Mp k Bl;refine⟨fun u e hu=> ?_,fun u hu=> ?_⟩
    ·rcases Ae.1 hu with hu|hu
     ·cases hu;exact⟨by simp,by simpa using hg,g,x,_,rfl,Cu hl k, .inl ⟨_,_,_,rfl⟩⟩
     ·obtain⟨p,q,r⟩:=h1 u e hu;exact⟨by simp [p],q,r⟩
    ·rcases Ae.1 hu with rfl|hu
     ·exact .inl ⟨g,x,by simp⟩
     ·rcases h2 u hu with⟨g',x',hh⟩|hh
      ·exact .inl ⟨g',x',by simp [hh]⟩
      ·exact .inr hh
   ·cases h
  ·rename_i ety sz dl g ep x l' hl Bl;split at h
   ·rename_i hg;simp at h;subst h;obtain⟨h1,h2⟩:=Mp k Bl;refine⟨fun u e hu=> ?_,fun u hu=> ?_⟩
    ·rcases Ae.1 hu with hu|hu
     ·cases hu;exact⟨by simp,by simpa using hg,g,x,_,rfl,Cu hl k, .inr ⟨_,_,_,_,rfl⟩⟩
     ·obtain⟨p,q,r⟩:=h1 u e hu;exact⟨by simp [p],q,r⟩
    ·rcases Ae.1 hu with rfl|hu
     ·exact .inl ⟨g,x,by simp⟩
     ·rcases h2 u hu with⟨g',x',hh⟩|hh
      ·exact .inl ⟨g',x',by simp [hh]⟩
      ·exact .inr hh
   ·cases h
  ·rename_i g x l' hl Bl;simp at h;subst h;obtain⟨h1,h2⟩:=Mp k Bl;refine⟨fun u e hu=> ?_,fun u hu=> ?_⟩
   ·obtain⟨p,q,r⟩:=h1 u e hu;exact⟨by simp [p],q,r⟩
   ·rcases Ae.1 hu with rfl|hu
    ·exact .inr (.inl ⟨g,x,Cu hl k⟩)
    ·exact h2 u hu
  ·rename_i ty g cs l' hl Bl;simp at h;subst h;obtain⟨h1,h2⟩:=Mp k Bl;refine⟨fun u e hu=> ?_,fun u hu=> ?_⟩
   ·obtain⟨p,q,r⟩:=h1 u e hu;exact⟨by simp [p],q,r⟩
   ·rcases Ae.1 hu with rfl|hu
    ·exact .inr (.inr ⟨ty,g,cs,Cu hl k⟩)
    ·exact h2 u hu
  ·cases h
theorem JV {hp:Nat→Option Ad}: ∀{l:List (Nat × Ad)} {t:Nat},(∀e,(t,e)∉l)→AW hp l t=hp t
 | [],_,_=>rfl
 |(u,e)::l,t,h=>by
  have ht:t≠u:=by rintro rfl;exact h e (by simp)
  have:=JV (hp:=fun v=>if v=u then some e else hp v) (l:=l) (t:=t) (fun e' D0=>h e' (by simp [D0]));simp only [AW,List.foldl_cons]at this ⊢;rw [this,if_neg ht]
theorem fB {hp:Nat→Option Ad}: ∀{l:List (Nat × Ad)} {t:Nat} {e:Ad},(t,e)∈l→(∀e',(t,e')∈l→e'=e)→AW hp l t=some e
 | [],_,_,h,_=>by simp at h
 |(u,f)::l,t,e,h,hu=>by
  simp only [AW,List.foldl_cons];by_cases hm: ∃e',(t,e')∈l
  ·obtain⟨e',D0⟩:=hm;have:=hu e' (by simp [D0]);subst this;exact fB (hp:=fun v=>if v=u then some f else hp v) D0 (fun e'' rA=>hu e'' (by simp [rA]))
  ·have hn: ∀e',(t,e')∉l:=fun e' D0=>hm ⟨e',D0⟩;have:=JV (hp:=fun v=>if v=u then some f else hp v) (l:=l) (t:=t) hn;simp only [AW]at this;rw [this];rcases Ae.1 h with h|h
   ·cases h;simp
   ·exact absurd h (hn e)
theorem J5 (hs: ∀t e,hp0 t=some e→hp t=some e) {ρ:List AV} {t:Nat} {e:Ad} (h:B0 ρ (hp0 t) e):B0 ρ (hp t) e:=by
 cases hh:hp0 t with
 |none=>rw [hh]at h;exact h.elim
 |some e9=>rw [hs t e9 hh];rwa [hh]at h
theorem zR {ρ:List AV} {o:Option Ad} {e f:Ad} (h:B0 ρ o e) (k:B0 ρ o f):e=f:=by
 cases o with
 |none=>exact h.elim
 |some o=>
  cases o with
  |gd gs x=>exact h.2.symm.trans k.2
  |box=>exact h.symm.trans k
  |row=>exact h.symm.trans k
  |cc=>exact h.symm.trans k
  |dead=>exact h.symm.trans k
  |deep=>exact h.symm.trans k
  |hol=>exact h.symm.trans k
theorem Rel.freeze (h:Rel c n sl hp a) (hs: ∀t e,hp0 t=some e→hp t=some e) (k:A1 c.ρ gs) {ts:List Nat} {l:List (Nat × Ad)} (hf:CW hp0 gs ts=some l):
  Rel (c.cc (l.map (·.1))) n sl (AW hp l) a:=by
 obtain⟨h1,h2⟩:=Mp k hf;have hG: ∀u,(c.cc (l.map (·.1))).G u=if u∈l.map (·.1)then⟨[], []⟩else c.G u:=fun u=>rfl;have H6: ∀t e e',(t,e)∈l→(t,e')∈l→e'=e:=by intro t e e' he D0;obtain⟨_,_,g,x,_,rfl,r,rl⟩:=h1 t e he;obtain⟨_,_,g',x',_,rfl,r',rl'⟩:=h1 t e' D0;have:=zR r r';subst this;obtain⟨rfl,rfl⟩:=rl.fun rl';rfl
 refine h.change (fun u=>u∈l.map (·.1)) (Cx.jv c _) ⟨h.base.os,h.base.tape,h.base.output,h.base.size,h.base.pins,h.base.block,h.base.pk,h.base.lo⟩ (fun u hu=>⟨JV (fun e he=>hu (List.mem_map.2 ⟨_,he,rfl⟩)),by rw [hG,if_neg hu],by simp only [Cx.cc,if_neg hu],fun g hg=>hg⟩) (fun u hu b hb=>rfl) (fun u hu=> ?_) ?_ h.cg (fun u e hu=> ?_)
 ·obtain⟨⟨u',e⟩,he,rfl⟩:=List.mem_map.1 hu;have Db:=fB (hp:=hp) he (fun e' D0=>H6 _ _ _ he D0);obtain⟨_,_,g,x,f0,rfl,r,rl⟩:=h1 u' e he;obtain⟨q1,f,r1,r2⟩:=rl.rd (h.ents u' _ (J5 hs r));have Jr:((c.cc (l.map (·.1))).G u').top= []∧((c.cc (l.map (·.1))).G u').O= []:=by rw [hG,if_pos hu];simp
  rw [Db];refine⟨fun e' hr=> ?_,fun _=>Jr⟩;have:e'= .cc g x:=hr.symm;subst this;exact⟨q1,⟨f,r1,fun b hb=>by
   refine qD h.gw (ts:=l.map (·.1)) (us:= [u']) (by simpa using hu) ?_;rcases r2 b hb with hb|hb
   ·exact .inr ⟨u',by simp,hb⟩
   ·exact .inl hb⟩,Jr.1,Jr.2⟩
 ·refine⟨fun u=> ?_,fun u v Zl b hb=> ?_,fun u b hb=> ?_,fun u b hb=> ?_⟩
  ·rw [hG];split
   ·simp [GI.own]
   ·exact h.gw.nodup u
  ·rw [hG]at hb ⊢;split at hb
   ·simp [GI.own]at hb
   ·split
    ·simp [GI.own]
    ·exact h.gw.c7 u v Zl b hb
  ·rw [hG]at hb;split at hb
   ·simp [GI.own]at hb
   ·exact h.gw.allow u b hb
  ·rw [hG]at hb;split at hb
   ·simp [GI.own]at hb
   ·exact h.gw.inb u b hb
 ·by_cases hm: ∃e',(u,e')∈l
  ·obtain⟨e',D0⟩:=hm;obtain⟨_,_,g,x,f0,rfl,r,rl⟩:=h1 u e' D0;have r':=J5 hs r;cases hh:hp u with
   |none=>rw [hh]at r';exact r'.elim
   |some e9=>exact h.c8 u e9 hh
  ·rw [JV (fun e' D0=>hm ⟨e',D0⟩)]at hu;exact h.c8 u e hu
theorem zyf {ts:List Nat} (h:Lk hp0 gs ts=true) {t:Nat} (ht:t∈ts) {ty:Nat} {g:Bool} {cs:List SV}:look hp0 gs t≠some (.box ty g cs):=by intro hl;simp only [Lk,Bool.not_eq_true',List.any_eq_false]at h;have:=h t ht;rw [hl]at this;simp at this
theorem zvM {ρ:List AV} (k:A1 ρ gs) {ts:List Nat} {l:List (Nat × Ad)} (hf:CW hp0 gs ts=some l) {t:Nat} (ht:t∈ts):(∃g x,(t,Ad.cc g x)∈l)∨(∃g x,look hp0 gs t=some (.cc g x))∨ ∃ty g cs,look hp0 gs t=some (.box ty g cs):=by
 induction ts generalizing l with
 |nil=>simp at ht
 |cons u ts ih=>
  unfold CW at hf;split at hf
  ·rename_i ety sz g x d l' hl Bl;split at hf
   ·simp at hf;subst hf;rcases Ae.1 ht with rfl|ht
    ·exact .inl ⟨g,x,by simp⟩
    ·rcases ih Bl ht with⟨g',x',hh⟩|hh
     ·exact .inl ⟨g',x',by simp [hh]⟩
     ·exact .inr hh
   ·cases hf
  ·rename_i ety sz dl g ep x l' hl Bl;split at hf
   ·simp at hf;subst hf;rcases Ae.1 ht with rfl|ht
    ·exact .inl ⟨g,x,by simp⟩
    ·rcases ih Bl ht with⟨g',x',hh⟩|hh
     ·exact .inl ⟨g',x',by simp [hh]⟩
     ·exact .inr hh
   ·cases hf
  ·rename_i g x l' hl Bl;simp at hf;subst hf;rcases Ae.1 ht with rfl|ht
   ·exact .inr (.inl ⟨g,x,hl⟩)
   ·exact ih Bl ht
  ·rename_i ty g cs l' hl Bl;simp at hf;subst hf;rcases Ae.1 ht with rfl|ht
   ·exact .inr (.inr ⟨ty,g,cs,hl⟩)
   ·exact ih Bl ht
  ·cases hf
theorem RY (h:Rel c n sl hp a) (eh:EH c hp0) (k:A1 c.ρ gs) {ts:List Nat} {l:List (Nat × Ad)} (hf:CW hp0 gs ts=some l) (hb:Lk hp0 gs ts=true) {b:Nat} (hs:c.fg ts b):(c.cc (l.map (·.1))).ok b:=by
 rcases hs with hs|⟨t,ht,B9⟩
 ·exact Cx.gb hs
 ·rcases zvM k hf ht with⟨g,x,hh⟩|⟨g,x,hh⟩|⟨ty,g,cs,hh⟩
  ·exact qD h.gw (us:= [t]) (by simpa using⟨_,hh⟩) (.inr ⟨t,by simp,B9⟩)
  ·obtain⟨_,_,B4,_⟩:=eh t _ (Cu hh k);rw [B4]at B9;simp at B9
  ·exact absurd hh (zyf hb ht)
theorem mN (h:Rel c n sl hp a) (hs: ∀t e,hp0 t=some e→hp t=some e) (k:A1 c.ρ gs) {t:TypeId} {s:SV} {v:Value} (hr:SR c [s] [v]) {x:E} {fz:List (Nat × Ad)} {d:Bool} {ck:List Cn} (ht:XQ P hp0 gs t s=some (x,fz,d,ck)) (hc: ∀q∈ck,q.den c.ρ):
  ∃f,Rd c.w [v] [x.den c.ρ] f∧(d=true→f= [])∧(∃ts,CW hp0 gs ts=some fz∧ ∀b∈f,(c.cc (fz.map (·.1))).ok b)∧
   (if Ak P t then∃cs,x.den c.ρ= .agg cs∧cs.length=P.cellsOf t else(∀cs,x.den c.ρ≠ .agg cs)∧ ∀cs,x.den c.ρ≠ .tup cs):=by
 have eh:EH c hp0:=fun t e hr=>h.ents t e (J5 hs hr);unfold XQ at ht;split at ht
 ·cases ht
 ·rename_i y hy;obtain⟨f,q1,q2⟩:=Gt eh k AN hy hr AN (Nat.le_refl _);split at ht
  ·simp at ht;obtain⟨rfl,rfl,rfl,rfl⟩:=ht;obtain⟨c1,c2,c3,c4⟩:=BD hc;have hf:f= []:=by
    cases hg:Ak P t with
    |true=>obtain⟨cs,Bp⟩:=c3 hg;obtain⟨as_,rfl,_,r⟩:=Iq q1 Bp;exact Gu r (by rw [Bp]at c2;exact c2)
    |false=>exact Gu q1 (by simpa using c4 hg)
   subst hf;refine⟨[],q1,fun _=>rfl,⟨[],rfl,by simp⟩, ?_⟩;split
   ·rename_i hg;obtain⟨cs,Bp⟩:=c3 hg;exact⟨cs,Bp,by rw [Bp]at c1;exact c1⟩
   ·rename_i hg;have:=c4 (by simpa using hg);exact⟨fun cs Bp=>by rw [Bp]at this;simp [AV.scalar]at this,fun cs Bp=>by rw [Bp]at this;simp [AV.scalar]at this⟩
  ·split at ht
   ·rename_i HX;split at ht
    ·cases ht
    ·rename_i l hl;simp only [Ab,Prod.mk.injEq]at ht;obtain⟨rfl,rfl,rfl,rfl⟩:=ht;refine⟨f,q1,by simp,⟨_,hl,fun b hb=>RY h eh k hl HX (q2 b hb)⟩, ?_⟩;have hq:=BD hc;unfold kJ at hq;split
     ·rename_i hg;rw [if_pos hg]at hq;obtain⟨cs,Bp,hl⟩:=hq;exact⟨cs,Bp,hl⟩
     ·rename_i hg;rw [if_neg hg]at hq;exact hq
   ·cases ht
end
section
variable {P:Program} {c:Cx} {n nx:Nat} {sl sl0:Nat→SV} {hp hp0:Nat→Option Ad} {a:Act} {o:Oper} {gs:Gd} {e:AP} {sg:BB} {nv:Nat}
theorem qH (w:World) (t ty el:TypeId) (i:TypeInfo) (z:Value) (ht:P.underlying t=some (.slice el)) (hi:P.info? el=some i) (hz:i.zero=some z) (Ed:z.cells.size=i.size) (B3:0<i.size)
  (Own:Nat→Prop) (v:Value) (k:Nat) (old:List Value) (ho:old.length=k*i.size)
  (Da:(k=0∧ ∃q,v= .slice q 0 0)∨ ∃g cap C,v= .slice (some ⟨g,0,none⟩) k cap∧k≤cap∧cap≤maxLen∧w.heap[g]?=some (.cells C el (0,0))∧C.size=cap*i.size∧old=C.toList.take (k*i.size)∧Own g)
  (q:Option Addr) (m r:Nat) (news:List Value) (hs:Src w i.size q m news) (Tq:k+m≤maxLen) (hb:(k+m)*i.bytes≤140737488355328):
  ∃v' w',(Builtin.append_ #[t,t] ty #[v, .slice q m r]).run P w= .ok v' w'∧
   ((v'=v∧w'=w∧m=0)∨ ∃g cap C,v'= .slice (some ⟨g,0,none⟩) (k+m) cap∧k+m≤cap∧cap≤maxLen∧w'.heap[g]?=some (.cells C el (0,0))∧C.size=cap*i.size∧C.toList.take ((k+m)*i.size)=old++news∧
    w.grownBy w' (some g)∧((g=w.heap.size∧g<w'.heap.size)∨Own g)):=by
 have TG:news.length=m*i.size:=by
  rcases hs with⟨rfl,rfl,rfl⟩|⟨ad,rfl,h1,_⟩
  ·simp
  ·exact h1
 have hlen:(old++news).length=(k+m)*i.size:=by rw [AG,ho,TG,Nat.add_mul]
 have grown: ∀(cp:Nat),cp<k+m→ ∀(X:Array Value),X.toList=old++news→ ∃C,C=X++Builtin.zeroCells z.cells (grownCap w (k+m) cp el-(k+m))∧
   k+m≤grownCap w (k+m) cp el∧grownCap w (k+m) cp el≤maxLen∧C.size=grownCap w (k+m) cp el*i.size∧C.toList.take ((k+m)*i.size)=old++news:=by
  intro cp hcp X hX;have TD:=grownCap_ge w (k+m) cp el;have PH:=grownCap_le_maxLen w (k+m) cp el Tq;refine⟨_,rfl,TD,PH, ?_, ?_⟩
  ·have rN:X.size=(k+m)*i.size:=by rw [←Array.length_toList,hX,hlen]
   rw [Array.size_append,rN,size_zeroCells,Ed,←Nat.add_mul];congr 1;omega
  ·rw [Array.toList_append,hX,←hlen];exact List.take_left
 have newb: ∀C:Array Value,w.grownBy (w.drew.alloc (.cells C el)) (some w.heap.size)∧w.heap.size<(w.drew.alloc (.cells C el)).heap.size∧(w.drew.alloc (.cells C el)).heap[w.heap.size]?=some (.cells C el (0,0)):=
  fun C=>⟨⟨rfl,rfl,rfl,by simp,fun j hj _=>Below.heap_alloc w.drew _ _ hj⟩,by simp,heap_alloc_new w.drew _⟩
 rcases Da with⟨rfl,p,rfl⟩|⟨g,cap,C,rfl,YZ,PH,hg,Bp,hold,X8⟩
 ·have hold:old= []:=List.eq_nil_of_length_eq_zero (by simpa using ho);subst hold;by_cases hm:m=0
  ·subst hm;have hn:news= []:=List.eq_nil_of_length_eq_zero (by simpa using TG);subst hn;refine⟨_,w, ?_, .inl ⟨rfl,rfl,rfl⟩⟩;rcases hs with⟨rfl,_,_⟩|⟨ad,rfl,_⟩<;>cases p<;>
    simp [Builtin.append_,run_underlying ht,sizeOf,typeInfo,hi,Builtin.lenOf,Builtin.firstCells,loadCells,loadCellsFrom,storeCells]
  ·rcases hs with⟨_,rfl,_⟩|⟨ad,rfl,h1,h2,h3⟩
   ·exact absurd rfl hm
   ·obtain⟨C',M0,g1,g2,g3,g4⟩:=grown 0 (by omega) news.toArray (by simp);cases p with
    |none=>have hr:=run_append_nil (P:=P) w t ty el i z ht hi hz ad m r news h1 h2 (by omega) (by simp only [maxLen]at Tq;omega) (by have hb:=hb;simp only [Nat.zero_add]at hb;omega);simp only [Nat.zero_add]at g1 g2 g3 g4 M0 ⊢;obtain⟨n1,n2,n3⟩:=newb C';refine⟨_,_,hr, .inr ⟨_,_,C',rfl,g1,g2, ?_,g3,g4, ?_, .inl ⟨rfl, ?_⟩⟩⟩<;>rw [←M0]<;>first|exact n3|exact n1|exact n2
    |some p=>have hr:=run_append_grow (P:=P) w t ty el i z ht hi hz p 0 0 [] (by simp) (by simp) ad m r news h1 h2 (by omega) (by simp only [maxLen]at Tq;omega) (growslice_fits (by omega) hb);rw [show(([]:List Value).toArray++news.toArray)=news.toArray by simp]at hr;simp only [Nat.zero_add]at g1 g2 g3 g4 M0 hr ⊢;obtain⟨n1,n2,n3⟩:=newb C';refine⟨_,_,hr, .inr ⟨_,_,C',rfl,g1,g2, ?_,g3,g4, ?_, .inl ⟨rfl, ?_⟩⟩⟩<;>rw [←M0]<;>first|exact n3|exact n1|exact n2
 ·rcases hs with⟨rfl,rfl,rfl⟩|⟨ad,rfl,h1,h2,h3⟩
  ·refine⟨_,w, ?_, .inl ⟨rfl,rfl,rfl⟩⟩;simp [Builtin.append_,run_underlying ht,sizeOf,typeInfo,hi,Builtin.lenOf,Builtin.firstCells,YZ,storeCells]
  ·by_cases CP:k+m≤cap
   ·have Yu:k*i.size+news.length≤C.size:=by rw [h1,Bp,←Nat.add_mul];exact Nat.mul_le_mul_right _ CP
    have hr:=run_append_room (P:=P) w t ty el i ht hi g k cap C hg ad m r news h1 h2 h3 CP Yu;refine⟨_,_,hr, .inr ⟨g,cap,_,rfl,CP,PH,setRow_heap w g C _ el _ hg, ?_, ?_,⟨rfl,rfl,rfl,by simp,fun j _ hj=>setRow_other w g j _ (fun hh=>hj (by rw [hh]))⟩, .inr X8⟩⟩
    ·simp only [List.size_toArray,AG,List.length_take,List.length_drop,Array.length_toList];omega
    ·rw [←hold,←hlen];exact List.take_left
   ·have holds: ∀j u,old[j]?=some u→w.cell? ((⟨g,0,none⟩:Addr).add j)=some u:=fun j u hu=>by
     rw [Addr.add_lit,Nat.zero_add,D1 hg];rw [hold,List.getElem?_take]at hu;split at hu
     ·simpa using hu
     ·cases hu
    have hr:=run_append_grow (P:=P) w t ty el i z ht hi hz ⟨g,0,none⟩ k cap old ho holds ad m r news h1 h2 (by omega) (by simp only [maxLen]at Tq;omega) (growslice_fits (by omega) hb);obtain⟨C',M0,g1,g2,g3,g4⟩:=grown cap (by omega) (old.toArray++news.toArray) (by simp);obtain⟨n1,n2,n3⟩:=newb C';refine⟨_,_,hr, .inr ⟨_,_,C',rfl,g1,g2, ?_,g3,g4, ?_, .inl ⟨rfl, ?_⟩⟩⟩<;>rw [←M0]<;>first|exact n3|exact n1|exact n2
def Cx.bb (c:Cx) (t g':Nat) (w':World) (v:Value) (top O:List Nat):Cx:=
 {c with w:=w',G:=fun u=>if u=t then⟨top,O⟩else c.G u,K:=fun u g=>c.K u g∨(u=t∧g=g'),H:=fun u g=>if u=t∧g=g' then v else c.H u g,U:=fun u=>c.U u∨u=t,E:=fun u=>if u=t then c.E u+1 else c.E u}
theorem Rel.bb (h:Rel c n sl hp a) {t g:Nat} (DQ:c.A.pin t=none∨g≠0) (AS: ¬c.K t g) {w':World} {row:Option Nat} (hg:c.w.grownBy w' row)
  (D9: ∀g0,row=some g0→g0∈(c.G t).top∨(g0=c.w.heap.size∧g0<w'.heap.size)) {top O:List Nat} (B4:top= []∨ ∃g0,row=some g0∧top= [g0]) (hO:O= []∨O=(c.G t).O) {v:Value} (e1:Ad) (BE: ∀hs f,e1≠ .gd hs f) (k:A1 c.ρ gs)
  (he:CX c (c.bb t g w' v top O)→CD (c.bb t g w' v top O) t e1):Rel (c.bb t g w' v top O) n sl (AW hp [(t,Co gs e1)]) a:=by
 have hG: ∀u,(c.bb t g w' v top O).G u=if u=t then⟨top,O⟩else c.G u:=fun u=>rfl;have hM: ∀b,(c.bb t g w' v top O).M b→c.M b∨row=some b:=by
  rintro b ⟨u,hu⟩;rw [hG]at hu;split at hu
  ·rcases B4 with rfl|⟨g0,hr,rfl⟩
   ·simp at hu
   ·simp at hu;subst hu;exact .inr hr
  ·exact .inl ⟨u,hu⟩
 have PU: ∀b,b<c.w.heap.size→c.ok b→row≠some b:=by
  intro b hb AF hr;rcases D9 b hr with hh|⟨hh,_⟩
  ·exact AF.1 ⟨t,hh⟩
  ·omega
 have Bw:CX c (c.bb t g w' v top O):=by
  refine⟨rfl,rfl,fun b hb AF=>⟨fun hm=>(hM b hm).elim AF.1 (PU b hb AF),AF.2⟩,fun b hb AF=>hg.block b hb (fun hh=>PU b hb AF hh.symm),fun u g1 hu=>⟨.inl hu, ?_⟩,fun u g1 hu=> ?_⟩
  ·simp only [Cx.bb];rw [if_neg];rintro⟨rfl,rfl⟩;exact AS hu
  ·by_cases Ft:u=t
   ·have e1:(c.bb t g w' v top O).E u=c.E u+1:=by simp only [Cx.bb,if_pos Ft]
    exact⟨by omega,fun h=>by omega⟩
   ·have e1:(c.bb t g w' v top O).E u=c.E u:=by simp only [Cx.bb,if_neg Ft]
    have e2:(c.bb t g w' v top O).G u=c.G u:=by simp only [Cx.bb,if_neg Ft]
    rw [e1];refine⟨Nat.le_refl _,fun _=>⟨e2,fun b hb FI=>hg.block b FI fun hh=> ?_⟩⟩;rcases D9 b hh.symm with h1|⟨h1,_⟩
    ·exact h.gw.c7 u t Ft b (by simp [GI.own,hb]) (by simp [GI.own,h1])
    ·omega
 have Db: ∀u,AW hp [(t,Co gs e1)] u=if u=t then some (Co gs e1)else hp u:=fun u=>rfl;have LV: ∀u,u≠t→ ∀b∈(c.G u).own,row≠some b:=by
  intro u hu b hb hr;rcases D9 b hr with hh|⟨hh,_⟩
  ·exact h.gw.c7 u t hu b hb (by simp [GI.own,hh])
  ·have:=h.gw.inb u b hb;omega
 have Bt: ∀b∈(⟨top,O⟩:GI).own,row=some b∨b∈(c.G t).own:=by
  intro b hb;simp only [GI.own,Ag]at hb ⊢;rcases hb with hb|hb
  ·rcases B4 with rfl|⟨g0,hr,rfl⟩
   ·simp at hb
   ·simp at hb;subst hb;exact .inl hr
  ·rcases hO with rfl|rfl
   ·simp at hb
   ·exact .inr (.inr hb)
 refine h.change (fun u=>u=t) Bw ⟨hg.os.trans h.base.os,hg.tape.trans h.base.tape,hg.output.trans h.base.output,Nat.le_trans h.base.size hg.size,fun u v' hp=>⟨.inl (h.base.pins u v' hp).1,fun hk=> ?_⟩,fun b hb GO=> ?_,h.base.pk,h.base.lo⟩
  (fun u hu=>⟨by rw [Db,if_neg hu],by rw [hG,if_neg hu],by simp [Cx.bb,hu],fun g1 hh=>hh.resolve_right (fun hh=>hu hh.1)⟩) (fun u hu b hb=>hg.block b (h.gw.inb u b (by simp [GI.own,hb])) (fun hh=>LV u hu b (by simp [GI.own,hb]) hh.symm)) (fun u hu=> ?_) ?_ (fun u g1 hh=> ?_) (fun u f hf=> ?_)
 ·have Ft: ¬(u=t∧0=g):=by
   rintro⟨rfl,rfl⟩;rcases DQ with hh|hh
   ·have hp':c.A.pin u=some v':=hp;rw [hh]at hp';cases hp'
   ·exact hh rfl
  have Bx:=hk.resolve_right Ft;simp only [Cx.bb];rw [if_neg Ft];exact(h.base.pins u v' hp).2 Bx
 ·refine(hg.block b (Nat.lt_of_lt_of_le hb h.base.size) (fun hh=> ?_)).trans (h.base.block b hb GO);rcases D9 b hh.symm with hh|⟨hh,_⟩
  ·rcases h.gw.allow t b (by simp [GI.own,hh])with h1|h1
   ·exact absurd h1 (Nat.not_le.2 hb)
   ·exact GO h1
  ·have:=h.base.size;have h9:b<c.w0.heap.size:=hb;omega
 ·subst hu;rw [Db,if_pos rfl];exact⟨fun e' hr=>by rw [(OL k BE).1 hr];exact he Bw,fun hn=>absurd ((OL k BE).2 rfl) (hn e1)⟩
 ·have BW:(⟨top,O⟩:GI).own.Nodup:=by
   have h0:=h.gw.nodup t;simp only [GI.own]at h0 ⊢;rw [List.nodup_append]at h0 ⊢;refine⟨by rcases B4 with rfl|⟨g0,hr,rfl⟩<;>simp,by rcases hO with rfl|rfl;simp;exact h0.2.1,fun p hp q hq=> ?_⟩;rcases B4 with rfl|⟨g0,hr,rfl⟩
   ·simp at hp
   ·simp at hp;subst hp;rcases hO with rfl|rfl
    ·simp at hq
    ·rcases D9 p hr with hh|⟨hh,_⟩
     ·exact h0.2.2 p hh q hq
     ·have:=h.gw.inb t q (by simp [GI.own,hq]);omega
  refine⟨fun u=> ?_,fun u u' JE b hb=> ?_,fun u b hb=> ?_,fun u b hb=> ?_⟩
  ·rw [hG];split
   ·exact BW
   ·exact h.gw.nodup u
  ·rw [hG]at hb ⊢;by_cases h1:u=t
   ·rw [if_pos h1]at hb;rw [if_neg (fun hh=>JE (h1.trans hh.symm))];rcases Bt b hb with hr|hb
    ·exact fun hh=>LV u' (fun h2=>JE (h1.trans h2.symm)) b hh hr
    ·exact h.gw.c7 t u' (fun hh=>JE (h1.trans hh)) b hb
   ·rw [if_neg h1]at hb;by_cases h2:u'=t
    ·rw [if_pos h2];intro BJ;rcases Bt b BJ with hr|BJ
     ·exact LV u h1 b hb hr
     ·exact h.gw.c7 u t h1 b hb BJ
    ·rw [if_neg h2];exact h.gw.c7 u u' JE b hb
  ·rw [hG]at hb;split at hb
   ·rcases Bt b hb with hr|hb
    ·rcases D9 b hr with hh|⟨hh,_⟩
     ·exact h.gw.allow t b (by simp [GI.own,hh])
     ·exact .inl (by rw [hh];exact h.base.size)
    ·exact h.gw.allow t b hb
   ·exact h.gw.allow u b hb
  ·rw [hG]at hb;show b<w'.heap.size;split at hb
   ·rcases Bt b hb with hr|hb
    ·rcases D9 b hr with hh|⟨_,hh⟩
     ·exact Nat.lt_of_lt_of_le (h.gw.inb t b (by simp [GI.own,hh])) hg.size
     ·exact hh
    ·exact Nat.lt_of_lt_of_le (h.gw.inb t b hb) hg.size
   ·exact Nat.lt_of_lt_of_le (h.gw.inb u b hb) hg.size
 ·rcases hh with hh|⟨rfl,_⟩
  ·exact .inl (h.cg u g1 hh)
  ·exact .inr rfl
 ·rw [Db]at hf;split at hf
  ·rename_i hu;exact .inr hu
  ·exact .inl (h.c8 u f hf)
theorem jR {w:World} {v:Value} {ys:List AV} {f:List Nat} {sz:Nat} (h:Rd w [v] [.sl ys] f) (hs: ∀y∈ys,y.cells.length=sz):
  ∃q r news N,v= .slice q ys.length r∧Src w sz q ys.length news∧Rd w news (AM ys) N∧(∀b∈N,b∈f)∧news.length=ys.length*sz∧(∀u∈news,u.oneCell'=true):=by
 rcases h.kind with hh|hh|hh|hh|hh|hh|hh|hh|hh|hh
 ·obtain⟨_,_,_,hh,_⟩:=hh;cases hh
 ·obtain⟨_,_,hh,_⟩:=hh;cases hh
 ·obtain⟨_,_,hh,_⟩:=hh;cases hh
 ·obtain⟨p,r,rfl,hh,rfl⟩:=hh;cases hh;refine⟨p,r, [], [],rfl, ?_, .nil,by simp,by simp,by simp⟩;cases p with
  |none=>exact .inl ⟨rfl,rfl,rfl⟩
  |some p=>exact .inr ⟨p,rfl,by simp,by simp,by simp⟩
 ·obtain⟨b,off,m,r,ys',cs,C,t,fz,sz',f1,rfl,hh,rfl,hb,h1,h2,h3,h4,h5,h6,FF,h7⟩:=hh;cases hh;subst h3;have E8:sz'=sz:=by
   cases ys with
   |nil=>simp at h1
   |cons y ys=>rw [←h4 y (by simp),hs y (by simp)]
  subst E8;have hl:=h7.len;rw [OJ ys h4]at hl;exact⟨_,r,cs,f1,rfl, .inr ⟨_,rfl,hl,fun j u hu=>by rw [Addr.add_lit,D1 hb];exact h6 j u hu,FF⟩,h7,fun q hq=>by simp [hq],hl,FF⟩
 ·obtain⟨_,_,_,hh,_⟩:=hh;cases hh
 ·obtain⟨_,_,_,hh,_⟩:=hh;cases hh
 ·obtain⟨_,_,_,_,_,_,_,hh,_⟩:=hh;cases hh
 ·obtain⟨_,_,_,_,hh,_⟩:=hh;cases hh
 ·obtain⟨_,hh,_⟩:=hh;cases hh
end
section
variable {P:Program} {c:Cx} {n nx:Nat} {sl sl0:Nat→SV} {hp hp0:Nat→Option Ad} {a:Act} {o:Oper} {gs:Gd} {e:AP} {sg:BB} {nv:Nat}
theorem My (hp:Nat→Option Ad) (l m:List (Nat × Ad)):AW hp (l++m)=AW (AW hp l) m:=by simp [AW,List.foldl_append]
theorem zvn (h:Rel c n sl hp a) (hs: ∀t e,hp0 t=some e→hp t=some e) (k:A1 c.ρ gs) {el:TypeId} {s:SV} {v:Value} (hr:SR c [s] [v]) {y:E} (hy:A5 hp0 gs AN s=some y) {fz:List (Nat × Ad)} {d:Bool} {ck:Cn} (ht:SM P hp0 gs el s y=some (fz,d,ck)) (hc:ck.den c.ρ):
  ∃ts ys q r news N,CW hp0 gs ts=some fz∧y.den c.ρ= .sl ys∧(∀z∈ys,z.cells.length=P.cellsOf el)∧v= .slice q ys.length r∧Src c.w (P.cellsOf el) q ys.length news∧Rd c.w news (AM ys) N∧(∀b∈N,(c.cc (fz.map (·.1))).ok b)∧(d=true→N= [])∧news.length=ys.length*P.cellsOf el∧ ∀u∈news,u.oneCell'=true:=by
 have eh:EH c hp0:=fun t e hr=>h.ents t e (J5 hs hr);obtain⟨f,q1,q2⟩:=Gt eh k AN hy hr AN (Nat.le_refl _);unfold SM at ht;split at ht
 ·simp only [Ab,Prod.mk.injEq]at ht;obtain⟨rfl,rfl,rfl⟩:=ht;obtain⟨ys,CN,AA⟩:=hc;rw [CN]at q1;obtain⟨q,r,news,N,hv,g1,g2,g3,g4,g5⟩:=jR q1 (fun z hz=>(AA z hz).1);have hN:N= []:=Gu g2 (fun x hx=>by
   obtain⟨z,hz,hx⟩:=List.mem_flatMap.1 hx;exact(AA z hz).2 x hx)
  exact⟨[],ys,q,r,news,N,rfl,CN,fun z hz=>(AA z hz).1,hv,g1,g2,by simp [hN],fun _=>hN,g4,g5⟩
 ·split at ht
  ·rename_i HX;obtain⟨l,hl,ht⟩:=An.1 ht;simp only [Prod.mk.injEq]at ht;obtain⟨rfl,rfl,rfl⟩:=ht;obtain⟨ys,CN,AA⟩:=hc;rw [CN]at q1;obtain⟨q,r,news,N,hv,g1,g2,g3,g4,g5⟩:=jR q1 AA;exact⟨_,ys,q,r,news,N,hl,CN,AA,hv,g1,g2,fun b hb=>RY h eh k hl HX (q2 b (g3 b hb)),by simp,g4,g5⟩
  ·cases ht
theorem JR {el:TypeId} (h:G7 P el=true): ∃i z,P.info? el=some i∧i.zero=some z∧z.cells.size=i.size∧0<i.size∧P.cellsOf el=i.size∧P.bytesOf el=i.bytes:=by
 unfold G7 at h;cases hi:P.info? el with
 |none=>simp [hi]at h
 |some i=>
  cases hz:i.zero with
  |none=>simp [hi,hz]at h
  |some z=>simp only [hi,hz,Ac,beq_iff_eq,bne_iff_ne]at h;exact⟨i,z,rfl,hz,h.1,by omega,by simp [Program.cellsOf,hi],by simp [Program.bytesOf,hi]⟩
theorem cR (xs ys:List AV):AM (xs++ys)=AM xs++AM ys:=by simp [AM]
theorem cD (h:A6 P c n nx sl hp a sl0 hp0 o gs) {x y:Operand} {tx:TypeId} {cl:Call} (ho:o.op= .call cl) (AA:cl.callee= .builtin .append) (CI:cl.args.toList= [x,y]) (DI:cl.argTypes.toList= [tx,tx])
  {el:TypeId} (Bc:P.underlying tx=some (.slice el)) (hz:G7 P el=true) {s2:SV} {ye:E} (AQ:Bm sl0 gs y=some s2) (hy:A5 hp0 gs AN s2=some ye) {fz:List (Nat × Ad)} {d:Bool} {ck:Cn} (BR:SM P hp0 gs el s2 ye=some (fz,d,ck)) (Lz:ck.den c.ρ)
  {t g:Nat} (DQ:c.A.pin t=none∨g≠0) {c0:E} {d':Bool} (CP:Cn.den c.ρ (.room c0 ye (P.bytesOf el))) (Dv: ∀f,(t,f)∉fz) (AS: ¬c.K t g)
  {top N0:List Nat} {v:Value} (hv:a.eval x=v) (Da:CK c.w el (P.cellsOf el) v (c0.den c.ρ) top N0) (B4:(c.G t).top=top) (Lv: ∀b∈N0,c.ok b) (Yn:d'=true→Pl c.w N0∧(c.G t).O=N0) (Jt: ∀g',c.K t g'→g'≤g) (hU: ∀u,u=t→c.U u∨(nx≤u∧u<nx+Bj)) {ckl:List Cn}:
  As P o c n nx sl hp gs a {c6:=ckl,val:= .own t g,bt:=fz++ [(t,Co gs (.row el (P.cellsOf el) g (.app c0 ye) (d&&d')))]}:=by
 have Az:cl.args= #[x,y]:=by apply Array.ext';simp [CI]
 have FV:cl.argTypes= #[tx,tx]:=by apply Array.ext';simp [DI]
 have C4:y∈o.op.operands:=by simp [ho,Op.operands,Call.operands,AA,Az]
 obtain⟨i,z,hi,EW,Ed,B3,B6,HK⟩:=JR hz;obtain⟨ts,ys,q,r,news,N,F9,CN,L8,CQ,H4,HY,ET,rV,TG,YY⟩:=zvn h.rel h.hp h.gs (h.de AQ C4) hy BR Lz;have CF:=h.rel.freeze h.hp h.gs F9;obtain⟨xs,Ce,GR,_,A2⟩:=Da;obtain⟨mm,kk,Gg,C7,Qh,Zb⟩:=CP;rw [Ce]at Gg;rw [CN]at C7;simp only [AV.len,AV.int.injEq,true_and]at Gg C7;have B8:(xs.length+ys.length)*i.bytes≤140737488355328:=by
  rw [←Gg,←C7,HK]at Qh;have h9:(((xs.length+ys.length)*i.bytes:Nat):Int)≤140737488355328:=by rw [Int.natCast_mul,Int.natCast_add];exact Qh
  omega
 have FI:xs.length+ys.length≤140737488355328:=by rw [←Gg,←C7]at Zb;omega
 rw [B6]at H4 TG GR L8 A2;obtain⟨old,hold,Gi,C8,Cr⟩: ∃old,old.length=xs.length*i.size∧((xs.length=0∧ ∃q,v= .slice q 0 0)∨ ∃g cap C,v= .slice (some ⟨g,0,none⟩) xs.length cap∧xs.length≤cap∧cap≤maxLen∧c.w.heap[g]?=some (.cells C el (0,0))∧C.size=cap*i.size∧old=C.toList.take (xs.length*i.size)∧g∈(c.G t).top)∧Rd c.w old (AM xs) N0∧ ∀u∈old,u.oneCell'=true:=by
  rcases A2 with⟨rfl,⟨p,rfl⟩,rfl,rfl⟩|⟨g9,cap,C,rfl,h6,h7,h8,h9,rfl,GD,FE⟩
  ·exact⟨[],by simp, .inl ⟨rfl,p,rfl⟩, .nil,by simp⟩
  ·refine⟨_, ?_, .inr ⟨g9,cap,C,rfl,h6,h7,h8,h9,rfl,by rw [B4];simp⟩,FE,GD⟩;have e9:C.toList.length=cap*i.size:=by rw [←h9];simp
   rw [List.length_take,e9];exact Nat.min_eq_left (Nat.mul_le_mul_right _ h6)
 obtain⟨v',w',AK,AO⟩:=qH (P:=P) c.w tx o.type el i z Bc hi EW Ed B3 (fun g9=>g9∈(c.G t).top) v xs.length old hold Gi q ys.length r news H4 (by simp only [maxLen];omega) B8;have Eo:(execOp a.eval o).run P c.w= .ok (.value v') w':=by simp [execOp,ho,resolve,AA,Az,FV,invoke,builtin,hv,CQ,AK]
 intro next Q hk
 unfold Oper.wp;rw [Eo,Oper.upon_value];have rR:(c.cc (fz.map (·.1))).w=c.w:=rfl;have gY:(c.cc (fz.map (·.1))).G t=c.G t:=by simp only [Cx.cc];rw [if_neg];rintro hh;obtain⟨⟨u,f⟩,hf,rfl⟩:=List.mem_map.1 hh;exact Dv f hf
 obtain⟨row,top',PW,D9,Qr,Bk,CG⟩: ∃row top',c.w.grownBy w' row∧(∀g0,row=some g0→g0∈(c.G t).top∨(g0=c.w.heap.size∧g0<w'.heap.size))∧(top'= []∨ ∃g0,row=some g0∧top'= [g0])∧
   (CX (c.cc (fz.map (·.1))) ((c.cc (fz.map (·.1))).bb t g w' v' top' (if(d&&d')=true then(c.G t).O else []))→ ∃N',CK w' el (P.cellsOf el) v' (.sl (xs++ys)) top' N'∧(∀b∈N',b∈N0∨b∈N)∧((d&&d')=true→N'=N0))∧ ∃p m r,v'= .slice p m r:=by
  rcases AO with⟨rfl,rfl,Dt⟩|⟨g9,cap,C,rfl,h1,h2,h3,h4,h5,h6,h7⟩
  ·have Hm:ys= []:=List.eq_nil_of_length_eq_zero Dt;subst Hm;refine⟨if top= []then none else top.head?,top,⟨rfl,rfl,rfl,Nat.le_refl _,fun _ _ _=>rfl⟩,fun g0 D9=> .inl ?_, ?_,fun _=>⟨N0, ?_,fun b hb=> .inl hb,fun _=>rfl⟩, ?_⟩
   ·rw [B4];split at D9
    ·cases D9
    ·exact List.mem_of_mem_head? D9
   ·rcases A2 with⟨_,_,rfl,_⟩|⟨g9,_,_,_,_,_,_,_,rfl,_⟩
    ·exact .inl rfl
    ·exact .inr ⟨g9,by simp,rfl⟩
   ·rw [B6];exact⟨xs,by simp,GR,B3,A2⟩
   ·rcases Gi with⟨_,p,rfl⟩|⟨g9,cap,C,rfl,_⟩
    ·exact⟨_,_,_,rfl⟩
    ·exact⟨_,_,_,rfl⟩
  ·refine⟨some g9, [g9],h6,fun g0 D9=> ?_, .inr ⟨g9,rfl,rfl⟩,fun Fs=>⟨N0++N,⟨xs++ys,rfl,fun z hz=> ?_,by rw [B6];exact B3, .inr ⟨g9,cap,C,by simp,by simpa using h1,h2,h3,by rw [B6];exact h4,rfl, ?_, ?_⟩⟩,fun b hb=>Ag.1 hb,fun DZ=> ?_⟩,_,_,_,rfl⟩
   ·cases D9;exact h7.symm
   ·rcases Ag.1 hz with hz|hz
    ·rw [B6];exact GR z hz
    ·rw [B6];exact L8 z hz
   ·rw [B6];simp only [AG];rw [h5];intro u hu;rcases Ag.1 hu with hu|hu
    ·exact Cr u hu
    ·exact YY u hu
   ·rw [B6];simp only [AG];rw [h5,cR];refine Rd.app (C8.frame fun b hb=> ?_) (HY.frame fun b hb=> ?_)
    ·have B8:=C8.inb b hb;exact Fs.mem b B8 (Cx.gb (Lv b hb))
    ·have B8:=HY.inb b hb;exact Fs.mem b B8 (ET b hb)
   ·simp only [Ac]at DZ;rw [rV DZ.1];simp
 obtain⟨p9,m9,r9,tK⟩:=CG;have C3:=CF.bb (gs:=gs) (t:=t) (g:=g) (w':=w') (row:=row) (top:=top') (O:=if(d&&d')=true then(c.G t).O else []) (v:=v') DQ AS PW (by rw [gY];exact D9) Qr (by split;exact .inr (by rw [gY]);exact .inl rfl)
  (.row el (P.cellsOf el) g (.app c0 ye) (d&&d')) (by intros;simp) h.gs (fun Fs=>by
   obtain⟨N',o1,o2,o3⟩:=Bk Fs;have AF: ∀b∈N',((c.cc (fz.map (·.1))).bb t g w' v' top' (if(d&&d')=true then(c.G t).O else [])).ok b:=by
    intro b hb;rcases o2 b hb with hb|hb
    ·exact Fs.ok b (C8.inb b hb) (Cx.gb (Lv b hb))
    ·exact Fs.ok b (HY.inb b hb) (ET b hb)
   refine⟨.inr ⟨rfl,rfl⟩,fun g' Cc=> ?_,N', ?_,AF,fun DZ=> ?_,fun DZ=> ?_⟩
   ·rcases Cc with Cc|⟨_,rfl⟩
    ·exact Jt g' Cc
    ·exact Nat.le_refl _
   ·have e1:((c.cc (fz.map (·.1))).bb t g w' v' top' (if(d&&d')=true then(c.G t).O else [])).H t g=v':=by simp [Cx.bb]
    have e2:(((c.cc (fz.map (·.1))).bb t g w' v' top' (if(d&&d')=true then(c.G t).O else [])).G t).top=top':=by simp [Cx.bb]
    rw [e1,e2];show CK w' el (P.cellsOf el) v' (AV.app (c0.den c.ρ) (ye.den c.ρ)) top' N';rw [Ce,CN];exact o1
   ·have X5:=o3 DZ;have Yo:d'=true:=by simp only [Ac]at DZ;exact DZ.2
    obtain⟨u1,u2⟩:=Yn Yo;subst X5;refine⟨u1.frame fun b hb=>Fs.mem b (C8.inb b hb) (Cx.gb (Lv b hb)), ?_⟩;simp only [Cx.bb,if_true,DZ];exact u2
   ·simp [Cx.bb,DZ])
 have X9:SR ((c.cc (fz.map (·.1))).bb t g w' v' top' (if(d&&d')=true then(c.G t).O else [])) [.own t g] [v']:=by rw [tK];exact .own (.inr ⟨rfl,rfl⟩) (by simp [Cx.bb]) .nil
 refine hk _ ((c.cc (fz.map (·.1))).bb t g w' v' top' (if(d&&d')=true then(c.G t).O else [])) ⟨rfl,rfl,rfl,rfl,fun u hu=> ?_⟩ ?_
 ·rcases hu with hu|rfl
  ·exact .inl hu
  ·exact hU u rfl
 ·have:=C3.put (X9.mkGd gs h.gs) o.dst;rw [My];exact this
end
section
variable {P:Program} {c:Cx} {n nx:Nat} {sl sl0:Nat→SV} {hp hp0:Nat→Option Ad} {a:Act} {o:Oper} {gs:Gd} {e:AP} {sg:BB} {nv:Nat}
theorem IU {t el:TypeId} (h:Cv P t=some el):P.underlying t=some (.slice el):=by
 unfold Cv at h;split at h
 ·simp at h;subst h;assumption
 ·cases h
theorem zsX {ts:List Nat} {l:List (Nat × Ad)} (k:A1 c.ρ gs) (h:CW hp0 gs ts=some l): ∀t f,(t,f)∈l→ ∃g x f',B0 c.ρ (hp0 t) f'∧J0 f' g x:=by intro t f hf;obtain⟨_,_,g,x,f',_,r⟩:=(Mp k h).1 t f hf;exact⟨g,x,f',r⟩
theorem zt4 (h:A6 P c n nx sl hp a sl0 hp0 o gs) {x y:Operand} {tx ty:TypeId} {cl:Call} (ho:o.op= .call cl) (AA:cl.callee= .builtin .append) (CI:cl.args.toList= [x,y]) (DI:cl.argTypes.toList= [tx,ty])
  {s1 s2:SV} (Br:Bm sl0 gs x=some s1) (AQ:Bm sl0 gs y=some s2) (he:eA P hp0 gs nx tx ty s1 s2=some e) (hc: ∀q∈e.c6,Cn.den c.ρ q):As P o c n nx sl hp gs a e:=by
 have Az:cl.args= #[x,y]:=by apply Array.ext';simp [CI]
 have Du:x∈o.op.operands:=by simp [ho,Op.operands,Call.operands,AA,Az]
 unfold eA at he;split at he
 ·cases he
 rename_i L4;have L4:tx=ty:=by simpa using L4
 subst L4;split at he
 ·rename_i el Bc;have Bc:=IU Bc;split at he
  ·cases he
  rename_i hz;have hz:G7 P el=true:=by simpa using hz
  split at he
  ·cases he
  rename_i ye hy;split at he
  ·cases he
  rename_i fz d ck BR;obtain⟨ts,F9⟩: ∃ts,CW hp0 gs ts=some fz:=by
   unfold SM at BR;split at BR
   ·simp only [Ab,Prod.mk.injEq]at BR;obtain⟨rfl,_⟩:=BR;exact⟨[],rfl⟩
   ·split at BR
    ·obtain⟨l,hl,BR⟩:=An.1 BR;simp only [Prod.mk.injEq]at BR;obtain⟨rfl,_⟩:=BR;exact⟨_,hl⟩
    ·cases BR
  have r1:=h.de Br Du;have fresh: ∀f,(nx,f)∉fz:=fun f hf=>by
   obtain⟨_,_,_,r,_⟩:=zsX (c:=c) h.gs F9 nx f hf;have r:=J5 h.hp r;cases hh:hp nx with
   |none=>rw [hh]at r;exact r.elim
   |some e9=>exact Mz h (h.rel.c8 nx e9 hh)
  have hK: ∀g,¬c.K nx g:=fun g hg=>Mz h (h.rel.cg _ _ hg);have E7:=h.rel.off nx (fun e9 hr=>by
   cases hh:hp nx with
   |none=>rw [hh]at hr;exact hr.elim
   |some e8=>exact Mz h (h.rel.c8 nx e8 hh))
  have TI:c.A.pin nx=none:=by
   cases hh:c.A.pin nx with
   |none=>rfl
   |some v=>exact absurd (h.rel.base.pins nx v hh).1 (Mz h)
  have iB: ∀u,u=nx→c.U u∨(nx≤u∧u<nx+Bj):=fun u hu=> .inr ⟨by omega,by rw [hu];simp [Bj]⟩;have jB:P.cellsOf el≠0:=by obtain⟨i,_,_,_,_,h1,h2,_⟩:=JR hz;omega
  split at he
  ·rename_i t g;split at he
   ·rename_i e' sz' g' c0 d' hl;split at he
    ·rename_i hh;obtain⟨rfl,rfl,rfl,rfl,Dv⟩:=hh;simp only [Ab]at he;subst he;have Em:=Cu hl h.gs;obtain⟨q1,q2,N,q3,q4,q5,q6⟩:=h.eh t _ Em;generalize hv:a.eval x=v at r1;cases r1 with
     |own k1 k2 _=>
      have:=cD (nx:=nx) h ho AA CI DI Bc hz AQ hy BR (hc _ (by simp)) (t:=t) (g:=g+1) (.inr (by omega)) (c0:=c0) (d':=d') (hc _ (by simp)) (fun f hf=>by simp only [Bool.not_eq_true',List.contains_eq_mem,decide_eq_false_iff_not]at Dv;exact Dv (List.mem_map.2 ⟨_,hf,rfl⟩)) (fun hh=>by have:=q2 _ hh;omega) hv (by rw [←k2];exact q3) rfl q4 q5 (fun g' Cc=>by have:=q2 _ Cc;omega) (fun u hu=> .inl (by rw [hu];exact h.rel.cg t g q1)) (ckl:= [.room c0 ye (P.bytesOf el),ck])
      exact this
    ·cases he
   ·cases he
  ·simp only [Ab]at he;subst he;generalize hv:a.eval x=v at r1;cases r1 with
   |emp _=>have:=cD (nx:=nx) h ho AA CI DI Bc hz AQ hy BR (hc _ (by simp)) (t:=nx) (g:=0) (.inl TI) (c0:= .lst .nil) (d':=true) (top:= []) (N0:= []) (hc _ (by simp)) fresh (hK 0) hv ⟨[],rfl,by simp,by omega, .inl ⟨rfl,⟨_,rfl⟩,rfl,rfl⟩⟩ E7.1 (by simp) (fun _=>⟨rfl,E7.2⟩) (fun g' Cc=>absurd Cc (hK g')) iB (ckl:= [.room (.lst .nil) ye (P.bytesOf el),ck]);rw [Bool.and_true]at this;exact this
  ·simp only [Ab]at he;subst he;generalize hv:a.eval x=v at r1;cases r1 with
   |cr _=>have:=cD (nx:=nx) h ho AA CI DI Bc hz AQ hy BR (hc _ (by simp)) (t:=nx) (g:=0) (.inl TI) (c0:= .lst .nil) (d':=true) (top:= []) (N0:= []) (hc _ (by simp)) fresh (hK 0) hv ⟨[],rfl,by simp,by omega, .inl ⟨rfl,⟨_,rfl⟩,rfl,rfl⟩⟩ E7.1 (by simp) (fun _=>⟨rfl,E7.2⟩) (fun g' Cc=>absurd Cc (hK g')) iB (ckl:= [.room (.lst .nil) ye (P.bytesOf el),ck]);rw [Bool.and_true]at this;exact this
  ·cases he
 ·cases he
end
section
variable {P:Program} {c:Cx} {n nx:Nat} {sl sl0:Nat→SV} {hp hp0:Nat→Option Ad} {a:Act} {o:Oper} {gs:Gd} {e:AP} {sg:BB} {nv:Nat}
theorem Rn: ∀{ts us:List Nat} {l m:List (Nat × Ad)},CW hp0 gs ts=some l→CW hp0 gs us=some m→CW hp0 gs (ts++us)=some (l++m)
 | [],us,l,m,h,k=>by simp [CW]at h;subst h;simpa using k
 |t::ts,us,l,m,h,k=>by
  unfold CW at h;simp only [List.cons_append];unfold CW;split at h
  ·rename_i ety sz g x d l' hl Bl;have ih:=Rn Bl k;split at h
   ·rename_i hg;simp at h;subst h;simp [hl,ih,hg]
   ·cases h
  ·rename_i ety sz dl g ep x l' hl Bl;have ih:=Rn Bl k;split at h
   ·rename_i hg;simp at h;subst h;simp [hl,ih,hg]
   ·cases h
  ·rename_i g x l' hl Bl;have ih:=Rn Bl k;simp at h;subst h;simp [hl,ih]
  ·rename_i ty g cs l' hl Bl;have ih:=Rn Bl k;simp at h;subst h;simp [hl,ih]
  ·cases h
theorem nC {ts us:List Nat} (hs: ∀t∈ts,t∈us) {b:Nat} (h:(c.cc ts).ok b):(c.cc us).ok b:=by refine⟨fun hm=>h.1 ?_,h.2⟩;obtain⟨u,hu,hb⟩:=Cx.ji hm;exact⟨u,by simp only [Cx.cc];rw [if_neg (fun hh=>hu (hs u hh))];exact hb⟩
theorem eE {w:World} {v:Value} {x:AV} {f:List Nat} {t:TypeId} (h:Rd w [v] [x] f) (hg:Ak P t=true∨P.cellsOf t=1) (hx:if Ak P t then∃cs,x= .agg cs∧cs.length=P.cellsOf t else(∀cs,x≠ .agg cs)∧ ∀cs,x≠ .tup cs):
  Rd w v.cells.toList x.cells f∧(∀u∈v.cells.toList,u.oneCell'=true)∧x.cells.length=P.cellsOf t∧v.cells.size=P.cellsOf t:=by
 split at hx
 ·obtain⟨cs,rfl,hl⟩:=hx;obtain⟨as_,rfl,h1,h2⟩:=Iq h rfl;have:=h2.len;exact⟨by simpa [Value.cells,AV.cells]using h2,by simpa [Value.cells]using h1,hl,by simp [Value.cells];omega⟩
 ·rename_i sT;have h1:P.cellsOf t=1:=by rcases hg with h'|h';exact absurd h' sT;exact h'
  have Cr:=dE h hx.1 hx.2;have GR:x.cells= [x]:=by cases x<;>first|rfl|exact absurd rfl (hx.1 _)
  rw [one_cells Cr,GR];exact⟨by simpa using h,by simpa using Cr,by simp [h1],by simp [h1]⟩
theorem lY (h:Rel c n sl hp a) (hs: ∀t e,hp0 t=some e→hp t=some e) (k:A1 c.ρ gs) {t:TypeId} (hg:Ak P t=true∨P.cellsOf t=1): ∀(ss:List SV) (vs:List Value) {xs:List E} {fz:List (Nat × Ad)} {d:Bool} {ck:List Cn},SR c ss vs→SG P hp0 gs t ss=some (xs,fz,d,ck)→(∀q∈ck,q.den c.ρ)→
  ∃N,Rd c.w (vs.flatMap fun v=>v.cells.toList) (AM (xs.map (E.den c.ρ))) N∧(d=true→N= [])∧(∃ts,CW hp0 gs ts=some fz)∧(∀b∈N,(c.cc (fz.map (·.1))).ok b)∧(∀v∈vs,v.cells.size=P.cellsOf t∧ ∀u∈v.cells.toList,u.oneCell'=true)∧(∀x∈xs,(x.den c.ρ).cells.length=P.cellsOf t)∧xs.length=vs.length
 | [],vs,xs,fz,d,ck,hr,ht,hc=>by simp [SG]at ht;obtain⟨rfl,rfl,rfl,rfl⟩:=ht;cases hr;exact⟨[],by simpa [AM]using Rd.nil,fun _=>rfl,⟨[],rfl⟩,by simp,by simp,by simp,rfl⟩
 |s::ss, [],xs,fz,d,ck,hr,ht,hc=>by have:=hr.len;simp at this
 |s::ss,v::vs,xs,fz,d,ck,hr,ht,hc=>by
  obtain⟨r1,r2⟩:=hr.cv;unfold SG at ht;split at ht
  ·rename_i x fz1 d1 ck1 xs2 fz2 d2 ck2 h1 h2;simp only [Ab,Prod.mk.injEq]at ht;obtain⟨rfl,rfl,rfl,rfl⟩:=ht;obtain⟨f,q1,q2,⟨ts1,q3,q4⟩,q5⟩:=mN h hs k r1 h1 (fun q hq=>hc q (by simp [hq]));obtain⟨N,p1,p2,⟨ts2,p3⟩,p4,p5,p6,p7⟩:=lY h hs k hg ss vs r2 h2 (fun q hq=>hc q (by simp [hq]));obtain⟨o1,o2,o3,o4⟩:=eE (P:=P) q1 hg q5;refine⟨f++N, ?_,fun hd=> ?_,⟨_,Rn q3 p3⟩,fun b hb=> ?_, ?_, ?_,by simp [p7]⟩
   ·simpa [AM]using o1.app p1
   ·simp only [Ac]at hd;rw [q2 hd.1,p2 hd.2];rfl
   ·rcases Ag.1 hb with hb|hb
    ·exact nC (fun t ht=>by simp only [List.map_append,Ag];exact .inl ht) (q4 b hb)
    ·exact nC (fun t ht=>by simp only [List.map_append,Ag];exact .inr ht) (p4 b hb)
   ·intro u hu;rcases Ae.1 hu with rfl|hu
    ·exact⟨o4,o2⟩
    ·exact p5 u hu
   ·intro u hu;rcases Ae.1 hu with rfl|hu
    ·exact o3
    ·exact p6 u hu
  ·cases ht
theorem dW {sz:Nat} (place:Nat→Option (Nat × Nat)) (L0: ∀i,place i=some (i*sz,sz)): ∀(vs:List Value) (k:Nat) (C:Array Value) (pre suf:List Value),C.toList=pre++suf→pre.length=k*sz→suf.length=vs.length*sz→(∀v∈vs,v.cells.size=sz)→
  ∃C',Instr.fill place C ((vs.zipIdx k).map fun p=>(p.2,p.1))=some C'∧C'.toList=pre++vs.flatMap fun v=>v.cells.toList
 | [],k,C,pre,suf,h,_,h2,_=>by have:suf= []:=List.eq_nil_of_length_eq_zero (by simpa using h2);subst this;exact⟨C,rfl,by simpa using h⟩
 |v::vs,k,C,pre,suf,h,h1,h2,h3=>by
  have hv:=h3 v (by simp);simp only [AL,Nat.add_mul,Nat.one_mul]at h2;have hC:C.size=pre.length+suf.length:=by rw [←Array.length_toList,h,AG]
  have Kr:(v.cells.zipIdx.foldl (fun cs (p:Value × Nat)=>cs.setIfInBounds (k*sz+p.2) p.1) C).toList=setVs C.toList (k*sz) v.cells.toList:=by have:=pR v.cells.toList 0 (k*sz) C (by simp;omega);rw [←Array.foldl_toList,Array.toList_zipIdx];simpa using this
  have Ze:setVs C.toList (k*sz) v.cells.toList=(pre++v.cells.toList)++suf.drop sz:=by unfold setVs;rw [h,←h1,List.take_left' rfl];congr 1;rw [List.drop_append,List.drop_eq_nil_of_le (by omega)];simp [hv]
  obtain⟨C',g1,g2⟩:=dW place L0 vs (k+1) (v.cells.zipIdx.foldl (fun cs (p:Value × Nat)=>cs.setIfInBounds (k*sz+p.2) p.1) C) (pre++v.cells.toList) (suf.drop sz) (by rw [Kr,Ze]) (by simp [h1,hv,Nat.add_mul]) (by simp;omega) (fun u hu=>h3 u (by simp [hu]));refine⟨C', ?_,by rw [g2];simp⟩;simp only [List.zipIdx_cons,List.map_cons];unfold Instr.fill;simp only [L0];rw [if_neg (by simp [hv];omega)];exact g1
theorem As.newRow (h:A6 P c n nx sl hp a sl0 hp0 o gs) {ts:List Nat} {fz:List (Nat × Ad)} (F9:CW hp0 gs ts=some fz) {el:TypeId} {C:Array Value} {cap:Nat} {xs:List AV} {x:E} {d:Bool} {N:List Nat} {ckl:List Cn} {wd:World} (tM:wd.heap=c.w.heap∧wd.os=c.w.os∧wd.tape=c.w.tape∧wd.output=c.w.output)
  (hr:(execOp a.eval o).run P c.w= .ok (.value (.slice (some ⟨c.w.heap.size,0,none⟩) xs.length cap)) (wd.alloc (.cells C el))) (hx:x.den c.ρ= .sl xs) (B3:P.cellsOf el≠0) (AA: ∀y∈xs,y.cells.length=P.cellsOf el) (hle:xs.length≤cap) (HM:cap≤maxLen) (hC:C.size=cap*P.cellsOf el)
  (h1: ∀u∈C.toList.take (xs.length*P.cellsOf el),u.oneCell'=true) (hN:Rd c.w (C.toList.take (xs.length*P.cellsOf el)) (AM xs) N) (ET: ∀b∈N,(c.cc (fz.map (·.1))).ok b) (hd:d=true→N= []):
  As P o c n nx sl hp gs a {c6:=ckl,val:= .own nx 0,bt:=fz++ [(nx,Co gs (.row el (P.cellsOf el) 0 x d))]}:=by
 intro next Q hk
 unfold Oper.wp;rw [hr,Oper.upon_value];have hU:=Mz h;have CF:=h.rel.freeze h.hp h.gs F9;have hK: ∀g,¬c.K nx g:=fun g hg=>hU (h.rel.cg _ _ hg);have TI:c.A.pin nx=none:=by
  cases hh:c.A.pin nx with
  |none=>rfl
  |some v=>exact absurd (h.rel.base.pins nx v hh).1 hU
 have E7:=h.rel.off nx (fun e9 hr=>by
  cases hh:hp nx with
  |none=>rw [hh]at hr;exact hr.elim
  |some e8=>exact hU (h.rel.c8 nx e8 hh))
 obtain⟨w1,w2,w3,w4⟩:=tM;have Yy:c.w.grownBy (wd.alloc (.cells C el)) (some c.w.heap.size):=by
  refine⟨w2,w3,w4, ?_,fun k hk _=> ?_⟩
  ·show c.w.heap.size≤(wd.heap.push _).size;simp [w1]
  ·have:=Below.heap_alloc wd (.cells C el) k (by rw [w1];exact hk);rw [this,w1]
 have KA:(wd.alloc (.cells C el)).heap[c.w.heap.size]?=some (.cells C el (0,0)):=by have:=heap_alloc_new wd (.cells C el);rw [w1]at this;exact this
 have AB:c.w.heap.size<(wd.alloc (.cells C el)).heap.size:=FX KA;have hO:(c.cc (fz.map (·.1))).G nx=⟨[], []⟩∨((c.cc (fz.map (·.1))).G nx).O= []:=by
  right;simp only [Cx.cc];split
  ·rfl
  ·exact E7.2
 have C3:=CF.bb (gs:=gs) (t:=nx) (g:=0) (w':=wd.alloc (.cells C el)) (row:=some c.w.heap.size) (top:= [c.w.heap.size]) (O:= []) (v:= .slice (some ⟨c.w.heap.size,0,none⟩) xs.length cap) (.inl TI) (hK 0) Yy (fun g0 D9=>by cases D9;exact .inr ⟨rfl,AB⟩) (.inr ⟨_,rfl,rfl⟩) (.inl rfl)
  (.row el (P.cellsOf el) 0 x d) (by intros;simp) h.gs (fun Fs=>by
   refine⟨.inr ⟨rfl,rfl⟩,fun g' Cc=> ?_,N, ?_,fun b hb=>Fs.ok b (hN.inb b hb) (ET b hb),fun DZ=> ?_,fun _=>by simp [Cx.bb]⟩
   ·rcases Cc with Cc|⟨_,rfl⟩
    ·exact absurd Cc (hK g')
    ·exact Nat.le_refl _
   ·have e1:((c.cc (fz.map (·.1))).bb nx 0 (wd.alloc (.cells C el)) (.slice (some ⟨c.w.heap.size,0,none⟩) xs.length cap) [c.w.heap.size] []).H nx 0= .slice (some ⟨c.w.heap.size,0,none⟩) xs.length cap:=by simp [Cx.bb]
    have e2:(((c.cc (fz.map (·.1))).bb nx 0 (wd.alloc (.cells C el)) (.slice (some ⟨c.w.heap.size,0,none⟩) xs.length cap) [c.w.heap.size] []).G nx).top= [c.w.heap.size]:=by simp [Cx.bb]
    rw [e1,e2];show CK (wd.alloc (.cells C el)) el (P.cellsOf el) _ (x.den c.ρ) _ N;rw [hx];exact⟨xs,rfl,AA,by omega, .inr ⟨_,cap,C,rfl,hle,HM,KA,hC,rfl,h1,hN.frame fun b hb=>Fs.mem b (hN.inb b hb) (ET b hb)⟩⟩
   ·rw [hd DZ];exact⟨rfl,by simp [Cx.bb]⟩)
 have X9:SR ((c.cc (fz.map (·.1))).bb nx 0 (wd.alloc (.cells C el)) (.slice (some ⟨c.w.heap.size,0,none⟩) xs.length cap) [c.w.heap.size] []) [.own nx 0] [.slice (some ⟨c.w.heap.size,0,none⟩) xs.length cap]:=
  .own (.inr ⟨rfl,rfl⟩) (by simp [Cx.bb]) .nil
 refine hk _ ((c.cc (fz.map (·.1))).bb nx 0 (wd.alloc (.cells C el)) (.slice (some ⟨c.w.heap.size,0,none⟩) xs.length cap) [c.w.heap.size] []) ⟨rfl,rfl,rfl,rfl,fun u hu=> ?_⟩ ?_
 ·rcases hu with hu|rfl
  ·exact .inl hu
  ·exact .inr ⟨Nat.le_refl _,by simp [Bj]⟩
 ·have:=C3.put (X9.mkGd gs h.gs) o.dst;rw [My];exact this
theorem lK {t el:TypeId} (hu:P.underlying t=some (.slice el)) (A4:CM P el=true) {i:TypeInfo} {z:Value} (hi:P.info? el=some i) (hz:i.zero=some z) (B6:P.cellsOf el=i.size) (m:Nat) (hle:m*i.size≤2^24) (parts:Array (Nat × Value)) (C:Array Value)
  (hf:Instr.fill (fun j=>some (j*i.size,i.size)) ((Array.range (m*i.size)).map (fun j=>(if m*i.size=0 then #[]else z.cells)[j % (if m*i.size=0 then #[]else z.cells).size]!)) parts.toList=some C) (w:World):
  (Instr.buildSlice t m parts).run P w= .ok (.slice (some ⟨w.heap.size,0,none⟩) m m) (w.alloc (.cells C el)):=by
 have YN: ¬(2^24<m*i.size):=by omega
 have IA:Array.range 0= #[]:=rfl;by_cases h0:m*i.size=0
 ·simp only [h0,if_true,IA]at hf;have PL: ∀f:Nat→Value,Array.map f #[]= #[]:=fun f=>by simp
  rw [PL]at hf;simp only [Instr.buildSlice,Sem.run_bind,run_underlying hu,Result.andThen_ok,Mr A4,B6];simp [h0,IA,hf,newRow]
 ·simp only [h0,if_false]at hf;simp only [Instr.buildSlice,Sem.run_bind,run_underlying hu,Result.andThen_ok,Mr A4,B6];simp [h0,YN,zeroValue,typeInfo,hi,hz,hf,newRow]
theorem zpa (h:A6 P c n nx sl hp a sl0 hp0 o gs) {t:TypeId} {m:Nat} {parts:Array (Nat × Operand)} (ho:o.op= .buildSlice t m parts) {ps:List (Nat × SV)} (KE:parts.toList.mapM (fun(p:Nat × Operand)=>(Bm sl0 gs p.2).map fun s=>(p.1,s))=some ps) (he:cA P hp0 gs nx t m ps=some e) (hc: ∀q∈e.c6,Cn.den c.ρ q):As P o c n nx sl hp gs a e:=by
 obtain⟨e1,e2⟩:=W1 (c:=c) (a:=a) (parts.toList.map (·.2)) (fun x s hx hm=>h.de hx (by simpa [ho,Op.operands]using hm)) (fun x hx=>List.mem_map.2 ⟨x,hx,rfl⟩) KE;unfold cA at he;split at he
 ·rename_i el Bc;have Bc:=IU Bc;split at he
  ·cases he
  rename_i Ax;simp only [not_or,Bool.not_eq_true',Bool.not_eq_false',ne_eq,Bool.not_eq_false,Nat.not_lt,Decidable.not_not]at Ax;obtain⟨hz,A4,Au,hle,DK⟩:=Ax;have Au:Ak P el=true∨P.cellsOf el=1:=by simpa using Au
  obtain⟨i,z,hi,EW,Ed,B3,B6,HK⟩:=JR hz;split at he
  ·rename_i xs fz d ck Qp;split at he
   ·simp only [Ab]at he;subst he;obtain⟨N,p1,p2,⟨ts,p3⟩,p4,p5,p6,p7⟩:=lY h.rel h.hp h.gs Au (ps.map (·.2)) (parts.toList.map fun p=>a.eval p.2) e2 Qp hc;have hlen:(parts.toList.map fun p=>a.eval p.2).length=m:=by
     have:ps.length=m:=by have:=congrArg List.length DK;simpa using this
     have h9:=congrArg List.length e1;simp at h9 ⊢;omega
    have FU:(parts.map fun(x:Nat × Operand)=>(x.1,a.eval x.2)).toList=((parts.toList.map fun p=>a.eval p.2).zipIdx 0).map fun p=>(p.2,p.1):=by
     have LM:parts.toList.map (·.1)=List.range m:=by rw [←e1,DK]
     apply List.ext_getElem?;intro j;have hj:(parts.toList.map (·.1))[j]?=(List.range m)[j]?:=by rw [LM]
     simp only [Array.toList_map,List.getElem?_map,List.getElem?_zipIdx]at hj ⊢;cases hp:parts.toList[j]? with
     |none=>simp
     |some p=>
      rw [hp]at hj;simp only [Option.map_some,Ab]at hj ⊢;have YH:j<m:=by
       rcases Nat.lt_or_ge j m with hh|hh
       ·exact hh
       ·rw [List.getElem?_eq_none (by simpa using hh)]at hj;cases hj
      rw [List.getElem?_range YH]at hj;simp at hj;simp [hj]
    obtain⟨C',f1,f2⟩:=dW (sz:=i.size) (fun j=>some (j*i.size,i.size)) (fun j=>rfl) (parts.toList.map fun p=>a.eval p.2) 0 ((Array.range (m*i.size)).map (fun j=>(if m*i.size=0 then #[]else z.cells)[j % (if m*i.size=0 then #[]else z.cells).size]!)) [] _ (by simp;rfl) (by simp) (by simp [hlen]) (fun v hv=>by rw [←B6];exact(p5 v hv).1);have Dg:C'.toList.length=m*P.cellsOf el:=by
     rw [f2,B6];simp only [List.nil_append];have: ∀(L:List Value),(∀v∈L,v.cells.size=i.size)→(L.flatMap fun v=>v.cells.toList).length=L.length*i.size:=by
      intro L
      induction L with
      |nil=>intro _;simp
      |cons v L ih=>intro hL;simp only [List.flatMap_cons,AG,AL,Array.length_toList];rw [ih (fun u hu=>hL u (by simp [hu])),hL v (by simp),Nat.add_mul];omega
     rw [this _ (fun v hv=>by rw [←B6];exact(p5 v hv).1),hlen]
    have H7:(xs.map (E.den c.ρ)).length=m:=by rw [List.length_map,p7,hlen]
    have Cd:C'.toList.take ((xs.map (E.den c.ρ)).length*P.cellsOf el)=(parts.toList.map fun p=>a.eval p.2).flatMap fun v=>v.cells.toList:=by rw [H7,←Dg,List.take_length,f2];simp
    refine As.newRow (xs:=xs.map (E.den c.ρ)) (N:=N) (C:=C') (cap:=m) (wd:=c.w) h p3 ⟨rfl,rfl,rfl,rfl⟩ ?_ (by simp [E.den,EL.du]) (by omega) (fun y hy=> ?_) (by omega) (by simp only [maxLen];have:m*1≤m*P.cellsOf el:=Nat.mul_le_mul_left _ (by omega);omega) (by rw [←Array.length_toList,Dg]) ?_ (by rw [Cd];exact p1) p4 p2
    ·rw [H7];have AK:=lK (P:=P) Bc A4 hi EW B6 m (by rw [←B6];omega) (parts.map fun(x:Nat × Operand)=>(x.1,a.eval x.2)) C' (by rw [FU];exact f1) c.w;simp only [execOp,ho,Sem.run_bind];rw [AK];rfl
    ·obtain⟨q,hq,rfl⟩:=List.mem_map.1 hy;exact p6 q hq
    ·rw [Cd];intro u hu;obtain⟨v,hv,hu⟩:=List.mem_flatMap.1 hu;exact(p5 v hv).2 u hu
   ·cases he
  ·cases he
 ·cases he
end
end Go.Proofs.YtmbknelgbjlhnaaGreat
end

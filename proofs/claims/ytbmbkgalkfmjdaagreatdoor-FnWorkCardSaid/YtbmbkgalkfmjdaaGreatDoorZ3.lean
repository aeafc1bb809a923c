/- Parts of a proof, joined: WA, VJa, VK, VL, VM, VN, VO, VP, VQ, VR, VS, VT, VU, VV, VW. -/
import Derived.Test.YtbmbkgalkfmjdaaGreatDoorZ2
import Derived.WalkSpells
import Derived.Laws.BytesArg
set_option linter.unusedVariables false
set_option linter.unusedSimpArgs false
section
namespace Go.Proofs.YtbmbkgalkfmjdaaGreatDoor
open Go.RowKit
theorem Jq: ∀{l:List (Nat × Aj)} {t:Nat} {e:Aj},AF l t=some e→(t,e)∈l
 | [],_,_,h=>by simp [AF]at h
 |(u,f)::l,t,e,h=>by
  simp only [AF]at h;split at h
  ·rename_i hu;subst hu;simp at h;subst h;simp
  ·exact List.mem_cons_of_mem _ (Jq h)
theorem NM {α:Type}: ∀{l:List (Nat × α)} {t:Nat} {e:α},l.lookup t=some e→(t,e)∈l
 | [],_,_,h=>by simp at h
 |(u,f)::l,t,e,h=>by
  simp only [List.lookup_cons]at h;split at h
  ·rename_i hu;simp at h hu;subst h;subst hu;simp
  ·exact List.mem_cons_of_mem _ (NM h)
theorem bK: ∀{θ:List (Nat × Option Nat)},Oc θ=true→ ∀{t u v:Nat},(t,some v)∈θ→(u,some v)∈θ→t=u
 | [],_,t,u,v,h,_=>by simp at h
 |(p,q)::θ,hn,t,u,v,h1,h2=>by
  have hn':Oc θ=true:=by cases q<;>(simp only [Oc,Ae]at hn;exact hn.2)
  have key: ∀x,(p,some v)=(p,q)→(x,some v)∈θ→False:=by intro x hq hx;cases hq;simp only [Oc,Ae,AJ]at hn;have:=hn.1 _ hx;simp at this
  rcases Ag.1 h1 with h3|h3<;>rcases Ag.1 h2 with h4|h4
  ·cases h3;cases h4;rfl
  ·cases h3;exact(key u rfl h4).elim
  ·cases h4;exact(key t rfl h3).elim
  ·exact bK hn' h3 h4
def B1 (hp:List (Nat × Aj)) (t:Nat):Option Nat:=match AF hp t with
 |some (.box ..)=>some 0
 |some (.row _ _ g _ _)=>some g
 |some (.cc g _)=>some g
 |some (.deep _ _ _ g _ _)=>some g
 |_=>none
def HQ (hp:List (Nat × Aj)) (t:Nat):Bool:=match AF hp t with
 |some (.box ..)=>true
 |some (.row ..)=>true
 |some (.deep ..)=>true
 |_=>false
def LY (pat leaf:Option Aj) (g:GI):GI:=match pat,leaf with
 |some (.row ..),some (.deep ..)=>⟨g.top.take 1, []⟩
 |_,_=>g
theorem zFd {p l:Option Aj} {g:GI} {b:Nat} (h:b∈(LY p l g).top):b∈g.top:=by
 unfold LY at h;split at h
 ·exact List.mem_of_mem_take h
 ·exact h
theorem zEo {p l:Option Aj} {g:GI} {b:Nat} (h:b∈(LY p l g).own):b∈g.own:=by
 unfold LY at h;split at h
 ·simp only [GI.own,List.append_nil]at h;simp [GI.own,List.mem_of_mem_take h]
 ·exact h
theorem zBC {p l:Option Aj} {g:GI} (h:g.own.Nodup):(LY p l g).own.Nodup:=by
 unfold LY;split
 ·simp only [GI.own,List.append_nil]at h ⊢;exact List.Sublist.nodup (List.Sublist.trans (List.take_sublist _ _) (List.sublist_append_left _ _)) h
 ·exact h
def Dl (c:Cx) (ρ:List AV) (θ:List (Nat × Option Nat)) (pat leaf:St):Cx:=
 {c with
  ρ:=ρ
  G:=fun t=>if HQ pat.hp t then(match θ.lookup t with|some (some t')=>LY (AF pat.hp t) (AF leaf.hp t') (c.G t')|_=>⟨[], []⟩)else⟨[], []⟩
  K:=fun t g=>B1 pat.hp t=some g
  H:=fun t _=>match θ.lookup t with|some (some t')=>c.H t' ((B1 leaf.hp t').getD 0)|_=> .slice none 0 0
  U:=fun t=>t<pat.nx
  E:=fun t=>match AF pat.hp t with|some (.deep _ _ _ _ ep _)=>ep|_=>0}
section
variable {c:Cx} {ρ:List AV} {nv n:Nat} {es:List E} {θ:List (Nat × Option Nat)} {pat leaf:St} {sl:Nat→SV} {a:Act}
theorem Od {t b:Nat} (h:b∈((Dl c ρ θ pat leaf).G t).own):HQ pat.hp t=true∧ ∃t',θ.lookup t=some (some t')∧(b∈((Dl c ρ θ pat leaf).G t).top→b∈(c.G t').top)∧b∈(c.G t').own:=by
 simp only [Dl]at h ⊢;split at h
 ·rename_i ho;split at h
  ·rename_i t' ht;exact⟨ho,t',ht,fun hb=>by rw [if_pos ho]at hb;exact zFd hb,zEo h⟩
  ·simp [GI.own]at h
 ·simp [GI.own]at h
theorem Tt {b:Nat} (h:c.ok b):(Dl c ρ θ pat leaf).ok b:=by refine⟨fun⟨t,ht⟩=> ?_,h.2⟩;obtain⟨_,t',_,hg,_⟩:=Od (b:=b) (by simp only [GI.own,Ai];exact .inl ht);exact h.1 ⟨t',hg ht⟩
theorem Mn (hp:ρ<+:c.ρ) (hn:ρ.length=nv) {x y:E} (h:Ke nv es x y=true):x.den (ρ++(EL.of es).den c.ρ)=y.den c.ρ:=by
 obtain⟨τ,hτ⟩:=hp;have LD:x.sc nv=true→x.beq y=true→x.den (ρ++(EL.of es).den c.ρ)=y.den c.ρ:=by intro h1 h2;rw [←E.au c.ρ x y h2];subst hn;generalize hq:(EL.of es).den c.ρ=q;rw [E.a8 ρ q τ x h1,hτ]
 unfold Ke at h;split at h
 ·rename_i i;split at h
  ·rename_i hi;exact LD (by simpa [E.sc]using hi) h
  ·rename_i hi;split at h
   ·rename_i z hz;rw [←E.au c.ρ z y h];simp only [E.den,EL.dt];rw [List.getElem?_append_right (by omega),hn,List.getElem?_map,hz];rfl
   ·cases h
 ·simp only [Ae]at h;exact LD h.1 h.2
theorem zEI (As:Rel c n sl (AF leaf.hp) a) {s:SV} {v:Value} {y:E} (hs:SR c [s] [v]) (h:JC leaf s=some y): ∃f,Rd c.w [v] [y.den c.ρ] f∧ ∀b∈f,c.fh (BV (AF leaf.hp) [] (A3+1) [s]) b:=
 Io (fun t e hr=>As.ents t e hr) (Ff _) A3 h hs A3 (Nat.le_refl _)
mutual
theorem yI (As:Rel c n sl (AF leaf.hp) a) (hp:ρ<+:c.ρ) (hn:ρ.length=nv) (Cq: ∀t e,(t,e)∈pat.hp→Ja nv es θ pat leaf t e=true): ∀(m:Nat) {p s:SV} {v:Value},UT nv es θ pat leaf m p s=true→SR c [s] [v]→SR (Dl c (ρ++(EL.of es).den c.ρ) θ pat leaf) [p] [v]
 |0,p,s,v,h,_=>by simp [UT]at h
 |m+1,p,s,v,h,hs=>by
  unfold UT at h;split at h
  ·exact .undef .nil
  ·rename_i x;split at h
   ·rename_i y hy;simp only [Ae,AJ,Bool.or_eq_true]at h;obtain⟨f,hf,IE⟩:=zEI As hs hy;have hx:=Mn (c:=c) hp hn h.1;refine .e (by rw [show(Dl c (ρ++(EL.of es).den c.ρ) θ pat leaf).ρ=ρ++(EL.of es).den c.ρ from rfl,hx];exact hf) (fun b hb=> ?_) .nil;rcases IE b hb with hb|⟨t',M7,hb⟩
    ·exact Tt hb
    ·refine⟨fun⟨u,hu⟩=> ?_, .inr (As.gw.allow t' b (by simp [GI.own,hb]))⟩;obtain⟨ho,v',hl,hg,T3⟩:=Od (b:=b) (by simp only [GI.own,Ai];exact .inl hu);have hv:v'=t':=by
      refine Classical.byContradiction fun A2=>As.gw.cz v' t' A2 b T3 (by simp [GI.own,hb])
     subst hv;have:=h.2 _ M7 _ (NM hl);simp only [bne_self_eq_false,AX,false_or]at this;unfold HQ at ho;split at this
     ·rename_i hh;rw [hh]at ho;simp at ho
     ·rename_i hh;rw [hh]at ho;simp at ho
     ·cases this
   ·cases h
  ·split at h
   ·cases hs with
    |cq _=>exact .cq .nil
   ·cases h
  ·split at h
   ·cases hs with
    |emp _=>exact .emp .nil
   ·cases hs with
    |cq _=>exact .emp .nil
   ·cases h
  ·rename_i t g;have key: ∀t' v',B1 pat.hp t=some g→θ.lookup t=some (some t')→K1 leaf.hp t' v'=true→SR c [.own t' v'] [v]→SR (Dl c (ρ++(EL.of es).den c.ρ) θ pat leaf) [.own t g] [v]:=by
    intro t' v' hg hl hv hs;cases hs with
    |own h1 h2 _=>
     refine .own hg ?_ .nil;show(match θ.lookup t with|some (some t')=>c.H t' ((B1 leaf.hp t').getD 0)|_=>Value.slice none 0 0)=_;rw [hl];have:(B1 leaf.hp t').getD 0=v':=by
      unfold K1 at hv;unfold B1;split at hv
      ·rename_i hh;rw [hh];simpa using(beq_iff_eq.1 hv).symm
      ·rename_i hh;rw [hh];simpa using(beq_iff_eq.1 hv).symm
      ·rename_i hh;rw [hh];simpa using(beq_iff_eq.1 hv).symm
      ·cases hv
     show c.H t' ((B1 leaf.hp t').getD 0)=_;rw [this];exact h2
   split at h
   ·rename_i g' _ _ Ev;simp only [Ae,beq_iff_eq]at h;obtain⟨rfl,h⟩:=h;split at h
    ·simp only [Ae,beq_iff_eq]at h;exact key _ _ (by simp [B1,Ev]) h.1 h.2 hs
    ·rw [beq_iff_eq]at h;cases hs with
     |cq _=>refine .own (p:=none) (q:=0) (r:=0) (by show B1 pat.hp t=some g;simp [B1,Ev]) ?_ .nil;show(match θ.lookup t with|some (some t')=>c.H t' ((B1 leaf.hp t').getD 0)|_=>Value.slice none 0 0)=_;rw [h]
    ·cases h
   ·rename_i g' _ Ev;simp only [Ae,beq_iff_eq]at h;obtain⟨rfl,h⟩:=h;split at h
    ·simp only [Ae,beq_iff_eq]at h;exact key _ _ (by simp [B1,Ev]) h.1 h.2 hs
    ·cases h
   ·rename_i g' _ _ Ev;simp only [Ae,beq_iff_eq]at h;obtain⟨rfl,h⟩:=h;split at h
    ·simp only [Ae,beq_iff_eq]at h;exact key _ _ (by simp [B1,Ev]) h.1 h.2 hs
    ·rw [beq_iff_eq]at h;cases hs with
     |cq _=>refine .own (p:=none) (q:=0) (r:=0) (by show B1 pat.hp t=some g;simp [B1,Ev]) ?_ .nil;show(match θ.lookup t with|some (some t')=>c.H t' ((B1 leaf.hp t').getD 0)|_=>Value.slice none 0 0)=_;rw [h]
    ·cases h
   ·cases h
  ·rename_i t o;split at h
   ·rename_i ty g cs Ev;split at h
    ·rename_i t' o';simp only [Ae,beq_iff_eq]at h;obtain⟨rfl,hl⟩:=h;have Iz:=Cq t _ (Jq Ev);simp only [Ja,hl]at Iz;split at Iz
     ·rename_i Df;cases hs with
      |cu h1 h2 _=>
       refine .cu (by show B1 pat.hp t=some 0;simp [B1,Ev]) ?_ .nil;show(match θ.lookup t with|some (some t')=>c.H t' ((B1 leaf.hp t').getD 0)|_=>Value.slice none 0 0)=_;rw [hl];have:(B1 leaf.hp t').getD 0=0:=by simp [B1,Df]
       simp only [this];exact h2
     ·cases Iz
    ·cases h
   ·cases h
  ·cases h
  ·rename_i x i z o;split at h
   ·rename_i y j z' o';simp only [Ae,beq_iff_eq]at h;obtain⟨⟨⟨⟨⟨rfl,rfl⟩,h1⟩,h2⟩,h3⟩,h4⟩:=h;have hx:x.den (ρ++(EL.of es).den c.ρ)=y.den c.ρ:=by
     obtain⟨τ,hτ⟩:=hp;rw [←E.au c.ρ x y h2];subst hn;generalize (EL.of es).den c.ρ=q;rw [E.a8 ρ q τ x h1,hτ]
    have hi:i.den (ρ++(EL.of es).den c.ρ)=j.den c.ρ:=by obtain⟨τ,hτ⟩:=hp;rw [←E.au c.ρ i j h4];subst hn;generalize (EL.of es).den c.ρ=q;rw [E.a8 ρ q τ i h3,hτ]
    cases hs with
    |du g1 g2 g3 g4 g5 g6 _=>refine .du (f:=_) (by show Rd c.w _ [x.den (ρ++(EL.of es).den c.ρ)] _;rw [hx];exact g1) (fun b hb=>Tt (g2 b hb)) (by show i.den (ρ++(EL.of es).den c.ρ)=_;rw [hi];exact g3) g4 g5 (by show((x.den (ρ++(EL.of es).den c.ρ)).nth _).cells.length=_;rw [hx];exact g6) .nil
   ·cases h
  ·rename_i x o;split at h
   ·rename_i y o';simp only [Ae,beq_iff_eq]at h;obtain⟨⟨rfl,h1⟩,h2⟩:=h;have hx:x.den (ρ++(EL.of es).den c.ρ)=y.den c.ρ:=by
     obtain⟨τ,hτ⟩:=hp;rw [←E.au c.ρ x y h2];subst hn;generalize (EL.of es).den c.ρ=q;rw [E.a8 ρ q τ x h1,hτ]
    cases hs with
    |dr g1 g2 _=>exact .dr (by show Rd c.w _ [x.den (ρ++(EL.of es).den c.ρ)] _;rw [hx];exact g1) (fun b hb=>Tt (g2 b hb)) .nil
   ·cases h
  ·split at h
   ·cases hs with
    |agg h9 h1 _=>exact .agg h9 (W4 As hp hn Cq m h h1) .nil
   ·cases h
  ·split at h
   ·cases hs with
    |tup h1 _=>exact .tup (W4 As hp hn Cq m h h1) .nil
   ·cases h
  ·split at h
   ·simp only [Ae,beq_iff_eq]at h;obtain⟨rfl,h⟩:=h;cases hs with
    |fn h1 _=>exact .fn (W4 As hp hn Cq m h h1) .nil
   ·cases h
  ·cases h
  ·cases h
  ·cases h
  ·cases h
  ·rename_i i;split at h
   ·rename_i j;simp only [Ae,beq_iff_eq,decide_eq_true_eq]at h;obtain⟨rfl,hi⟩:=h;cases hs with
    |lent g1 _=>
     have hx:(E.var i).den (ρ++(EL.of es).den c.ρ)=(E.var i).den c.ρ:=by obtain⟨τ,hτ⟩:=hp;subst hn;generalize (EL.of es).den c.ρ=q;rw [E.a8 ρ q τ (.var i) (by simpa [E.sc]using hi),hτ]
     exact .lent (show c.A.lo v ((E.var i).den (ρ++(EL.of es).den c.ρ)) by rw [hx];exact g1) .nil
   ·cases h
theorem W4 (As:Rel c n sl (AF leaf.hp) a) (hp:ρ<+:c.ρ) (hn:ρ.length=nv) (Cq: ∀t e,(t,e)∈pat.hp→Ja nv es θ pat leaf t e=true): ∀(m:Nat) {ps ss:List SV} {vs:List Value},HU nv es θ pat leaf m ps ss=true→SR c ss vs→SR (Dl c (ρ++(EL.of es).den c.ρ) θ pat leaf) ps vs
 |0,ps,ss,vs,h,_=>by simp [HU]at h
 |m+1, [], [],vs,h,hs=>by cases hs;exact .nil
 |m+1,p::ps, [],vs,h,hs=>by simp [HU]at h
 |m+1, [],s::ss,vs,h,hs=>by simp [HU]at h
 |m+1,p::ps,s::ss, [],h,hs=>by have:=hs.len;simp at this
 |m+1,p::ps,s::ss,v::vs,h,hs=>by simp only [HU,Ae]at h;obtain⟨h1,h2⟩:=hs.cr;exact(yI As hp hn Cq m h.1 h1).cons (W4 As hp hn Cq m h.2 h2)
end
theorem zA3 (As:Rel c n sl (AF leaf.hp) a) (hp:ρ<+:c.ρ) (hn:ρ.length=nv) (Cq: ∀t e,(t,e)∈pat.hp→Ja nv es θ pat leaf t e=true) (hθ:Oc θ=true) {t:Nat} {e:Aj} (ht:AF pat.hp t=some e):Dm (Dl c (ρ++(EL.of es).den c.ρ) θ pat leaf) t e:=by
 have h:=Cq t e (Jq ht);have tV:HQ pat.hp t=false→(Dl c (ρ++(EL.of es).den c.ρ) θ pat leaf).G t=⟨[], []⟩:=by intro h0;simp only [Dl];rw [if_neg (by rw [h0];simp)]
 have tW: ∀t',HQ pat.hp t=true→θ.lookup t=some (some t')→(Dl c (ρ++(EL.of es).den c.ρ) θ pat leaf).G t=LY (AF pat.hp t) (AF leaf.hp t') (c.G t'):=by intro t' h0 hl;simp only [Dl];rw [if_pos h0,hl]
 have TT: ∀t',HQ pat.hp t=true→θ.lookup t=some (some t')→(∀q1 q2 q3 q4 q5 q6,AF leaf.hp t'=some (.deep q1 q2 q3 q4 q5 q6)→ ∀p1 p2 p3 p4 p5,e≠ .row p1 p2 p3 p4 p5)→(Dl c (ρ++(EL.of es).den c.ρ) θ pat leaf).G t=c.G t':=by
  intro t' h0 hl Dq;rw [tW t' h0 hl,ht];unfold LY;split
  ·rename_i h1 h2;simp only [Ah]at h1;exact absurd h1 (Dq _ _ _ _ _ _ h2 _ _ _ _ _)
  ·rfl
 have Lq: ∀t' g,θ.lookup t=some (some t')→B1 leaf.hp t'=some g→ ∀g',(Dl c (ρ++(EL.of es).den c.ρ) θ pat leaf).H t g'=c.H t' g:=by intro t' g hl hg g';simp only [Dl,hl,hg,Option.getD_some]
 have EU: ∀g,B1 pat.hp t=some g→ ∀g',(Dl c (ρ++(EL.of es).den c.ρ) θ pat leaf).K t g'→g'≤g:=by intro g hg g' hk;have B0:B1 pat.hp t=some g':=hk;rw [hg]at B0;cases B0;exact Nat.le_refl _
 cases e with
 |box ty g cs=>
  simp only [Ja]at h;split at h
  ·rename_i t' hl;split at h
   ·rename_i ty' g' ds Df;simp only [Ae,beq_iff_eq]at h;obtain⟨⟨rfl,rfl⟩,h⟩:=h;obtain⟨b,C,h1,h2,h3,h4,h5,h6,h7⟩:=As.ents t' _ (by rw [Df];rfl);have hg:=TT t' (by simp [HQ,ht]) hl (by intros;simp);exact⟨b,C,by show B1 pat.hp t=some 0;simp [B1,ht],by rw [Lq t' 0 hl (by simp [B1,Df])];exact h2,by rw [hg];exact h3,by rw [hg];exact h4,h5,h6,W4 As hp hn Cq _ h h7⟩
   ·cases h
  ·cases h
 |row et z g x d=>
  simp only [Ja]at h;split at h
  ·rename_i t' hl;split at h
   ·rename_i et' z' g' y d' Df;simp only [Ae,beq_iff_eq,Bool.or_eq_true,Bool.not_eq_true']at h;obtain⟨⟨⟨rfl,rfl⟩,hx⟩,hd⟩:=h;obtain⟨h1,h2,N,h3,h4,h5,h6⟩:=As.ents t' _ (by rw [Df];rfl);have hg:=TT t' (by simp [HQ,ht]) hl (fun _ _ _ _ _ _ hh=>by rw [Df]at hh;cases hh);have Dc:=Mn hp hn hx;have hK:B1 pat.hp t=some g:=by simp [B1,ht]
    refine⟨hK,EU g hK,N, ?_,fun b hb=>Tt (h4 b hb),fun DX=> ?_,fun hdf=> ?_⟩
    ·rw [Lq t' g' hl (by simp [B1,Df]),hg];show C6 c.w et z _ (x.den (ρ++(EL.of es).den c.ρ)) _ N;rw [Dc];exact h3
    ·rw [hg];exact h5 (by rcases hd with hd|hd;rw [DX]at hd;cases hd;exact hd)
    ·rw [hg];cases d' with
     |false=>exact h6 rfl
     |true=>obtain⟨u1,u2⟩:=h5 rfl;rw [u2];exact u1
   ·rename_i et' z' l' g' ep' y Df;simp only [Ae,beq_iff_eq,Bool.not_eq_true']at h;obtain⟨⟨⟨rfl,rfl⟩,hx⟩,rfl⟩:=h;obtain⟨h1,h2,_,h3,h4⟩:=As.ents t' _ (by rw [Df];rfl);have hg:(Dl c (ρ++(EL.of es).den c.ρ) θ pat leaf).G t=⟨(c.G t').top.take 1, []⟩:=by
     rw [tW t' (by simp [HQ,ht]) hl,ht,Df];rfl
    have Dc:=Mn hp hn hx;have hK:B1 pat.hp t=some g:=by simp [B1,ht]
    obtain⟨f,k1,k2⟩:=h3.ownRow;have Cl:((c.G t').top.take 1++(c.G t').top.drop 1).Nodup:=by rw [List.take_append_drop];have:=As.gw.nodup t';simp only [GI.own,h4,List.append_nil]at this;exact this
    refine⟨hK,EU g hK,f, ?_,fun b hb=> ?_,fun DX=>(by cases DX),fun _=>by rw [hg]⟩
    ·rw [Lq t' g' hl (by simp [B1,Df]),hg];show C6 c.w et z _ (x.den (ρ++(EL.of es).den c.ρ)) _ f;rw [Dc];exact k1
    ·have CI:b∈(c.G t').top:=List.mem_of_mem_drop (k2 b hb);refine⟨fun⟨u,hu⟩=> ?_, .inr (As.gw.allow t' b (by simp [GI.own,CI]))⟩;obtain⟨_,v',BL,_,T3⟩:=Od (b:=b) (by simp only [GI.own,Ai];exact .inl hu);have hv:v'=t':=Classical.byContradiction fun A2=>As.gw.cz v' t' A2 b T3 (by simp [GI.own,CI]);subst hv;have:=bK hθ (NM BL) (NM hl);subst this;rw [hg]at hu;exact(List.nodup_append.1 Cl).2.2 b hu b (k2 b hb) rfl
   ·cases h
  ·rename_i hl;simp only [Ae,decide_eq_true_eq]at h;have Dc:=Mn hp hn h.1;have hK:B1 pat.hp t=some g:=by simp [B1,ht]
   have hg:(Dl c (ρ++(EL.of es).den c.ρ) θ pat leaf).G t=⟨[], []⟩:=by simp [Dl,hl]
   refine⟨hK,EU g hK, [],⟨[], ?_,by simp,h.2, .inl ⟨rfl,⟨none, ?_⟩,by rw [hg],rfl⟩⟩,by simp,fun _=>⟨rfl,by rw [hg]⟩,fun _=>by rw [hg]⟩
   ·show x.den (ρ++(EL.of es).den c.ρ)=_;rw [Dc];rfl
   ·simp [Dl,hl]
  ·cases h
 |cc g x=>
  have hg:=tV (by simp [HQ,ht]);have hK:B1 pat.hp t=some g:=by simp [B1,ht]
  simp only [Ja]at h;split at h
  ·rename_i t' hl;have IE: ∀b,b∈(c.G t').top→(Dl c (ρ++(EL.of es).den c.ρ) θ pat leaf).ok b:=by
    intro b hb;refine⟨fun⟨u,hu⟩=> ?_, .inr (As.gw.allow t' b (by simp [GI.own,hb]))⟩;obtain⟨ho,v',BL,Ck,T3⟩:=Od (b:=b) (by simp only [GI.own,Ai];exact .inl hu);have hv:v'=t':=Classical.byContradiction fun A2=>As.gw.cz v' t' A2 b T3 (by simp [GI.own,hb]);subst hv;have:=bK hθ (NM BL) (NM hl);subst this;simp [HQ,ht]at ho
   split at h
   ·rename_i et' z' g' y d' Df;obtain⟨h1,h2,N,h3,h4,h5,h6⟩:=As.ents t' _ (by rw [Df];rfl);obtain⟨f,r1,r2,_⟩:=h3.rd;refine⟨hK,⟨f, ?_,fun b hb=>(r2 b hb).elim (IE b) fun hb=>Tt (h4 b hb)⟩,by rw [hg],by rw [hg]⟩;rw [Lq t' g' hl (by simp [B1,Df])];show Rd c.w _ [x.den (ρ++(EL.of es).den c.ρ)] f;rw [Mn hp hn h];exact r1
   ·rename_i g' y Df;obtain⟨h1,⟨f,r1,r2⟩,_,_⟩:=As.ents t' _ (by rw [Df];rfl);refine⟨hK,⟨f, ?_,fun b hb=>Tt (r2 b hb)⟩,by rw [hg],by rw [hg]⟩;rw [Lq t' g' hl (by simp [B1,Df])];show Rd c.w _ [x.den (ρ++(EL.of es).den c.ρ)] f;rw [Mn hp hn h];exact r1
   ·rename_i et' z' l' g' ep' y Df;obtain⟨h1,h2,_,h3,h4⟩:=As.ents t' _ (by rw [Df];rfl);obtain⟨f,r1,r2⟩:=h3.rd;refine⟨hK,⟨f, ?_,fun b hb=>IE b (r2 b hb)⟩,by rw [hg],by rw [hg]⟩;rw [Lq t' g' hl (by simp [B1,Df])];show Rd c.w _ [x.den (ρ++(EL.of es).den c.ρ)] f;rw [Mn hp hn h];exact r1
   ·cases h
  ·cases h
 |hol=>simp [Ja]at h
 |deep et z dl g ep x=>
  have hE:(Dl c (ρ++(EL.of es).den c.ρ) θ pat leaf).E t=ep:=by simp [Dl,ht]
  have hK:B1 pat.hp t=some g:=by simp [B1,ht]
  simp only [Ja]at h;split at h
  ·rename_i t' hl;split at h
   ·rename_i et' z' dl' g' ep' y Df;simp only [Ae,beq_iff_eq]at h;obtain⟨⟨⟨rfl,rfl⟩,eX⟩,hx⟩:=h;have eX:=AY.jj eX;subst eX;obtain⟨h1,h2,_,h3,h4⟩:=As.ents t' _ (by rw [Df];rfl);have hg:=TT t' (by simp [HQ,ht]) hl (by intros;simp);refine⟨hK,EU g hK,hE, ?_,by rw [hg];exact h4⟩;rw [Lq t' g' hl (by simp [B1,Df]),hg];show DC c.w _ _ [x.den (ρ++(EL.of es).den c.ρ)] _;rw [Mn hp hn hx];exact h3
   ·cases h
  ·rename_i hl;have hg:(Dl c (ρ++(EL.of es).den c.ρ) θ pat leaf).G t=⟨[], []⟩:=by simp [Dl,hl]
   simp only [Ae,decide_eq_true_eq,beq_iff_eq]at h;refine⟨hK,EU g hK,hE, ?_,by rw [hg]⟩;have e1:(Dl c (ρ++(EL.of es).den c.ρ) θ pat leaf).H t g= .slice none 0 0:=by simp [Dl,hl]
   rw [e1,hg];show DC c.w _ _ [x.den (ρ++(EL.of es).den c.ρ)] _;rw [Mn hp hn h.1.1];exact .void h.1.2 (by rw [AY.bc];exact h.2) .nil
  ·cases h
 |gd gs e=>simp [Ja]at h
 |dead=>have hg:=tV (by simp [HQ,ht]);exact⟨by rw [hg],by rw [hg]⟩
end
theorem zzP {nv:Nat} {es:List E} {θ:List (Nat × Option Nat)} {pat leaf:St}: ∀(m:Nat) {ps ss:List SV},HU nv es θ pat leaf m ps ss=true→ ∀{i:Nat} {p:SV},ps[i]?=some p→ ∃s k,ss[i]?=some s∧UT nv es θ pat leaf k p s=true
 |0,ps,ss,h,_,_,_=>by simp [HU]at h
 |m+1, [],ss,h,i,p,hp=>by simp at hp
 |m+1,q::ps, [],h,i,p,hp=>by simp [HU]at h
 |m+1,q::ps,s::ss,h,i,p,hp=>by
  simp only [HU,Ae]at h;cases i with
  |zero=>simp at hp;subst hp;exact⟨s,m,rfl,h.1⟩
  |succ i=>simpa using zzP m h.2 (by simpa using hp)
theorem zEB:dJ:=by
 intro F nv pat τ es ρ ρ' a w hi hn hp hr;obtain⟨c,rfl,rfl,KK,hA,dX,GF,hU,As⟩:=hr;unfold KN at hi;simp only at hi;split at hi
 ·rename_i Ax;simp only [Ah]at hi;generalize fA:(List.range (pat.nv-nv)).map (fun j=>((Qo nv pat τ true pat.hp (Qo nv pat τ false pat.hp (Nl nv pat τ 2000 ⟨[], []⟩ pat.sl τ.sl))).as_.lookup (nv+j)).getD (.int .i64 0))=es0 at Ax hi;subst hi;generalize (Qo nv pat τ true pat.hp (Qo nv pat τ false pat.hp (Nl nv pat τ 2000 ⟨[], []⟩ pat.sl τ.sl))).θ=θ at Ax;clear fA;simp only [zY,Ae,beq_iff_eq,AJ,decide_eq_true_eq]at Ax;obtain⟨⟨⟨⟨⟨⟨h1,hθ⟩,hlen⟩,CQ⟩,Cj⟩,hnx⟩,UD⟩:=Ax;have Cq: ∀t e,(t,e)∈pat.hp→Ja nv es0 θ pat τ t e=true:=fun t e he=>(Cj _ he).1;have Am: ∀t e,(t,e)∈pat.hp→t<pat.nx:=fun t e he=>(Cj _ he).2;have Uy: ∀t e,AF pat.hp t=some e→ ∀gs e',e≠ .gd gs e':=by
   rintro t e he gs e' rfl;have:=Cq t _ (Jq he);simp [Ja]at this
  have AR: ∀t e e',AF pat.hp t=some e→(CA (ρ++(EL.of es0).den c.ρ) (AF pat.hp t) e'↔e'=e):=by
   intro t e e' he;rw [he];cases e with
   |gd gs e9=>exact absurd rfl (Uy t _ he gs e9)
   |_=>simp [CA,eq_comm]
  refine⟨Dl c (ρ++(EL.of es0).den c.ρ) θ pat τ,rfl,rfl,KK,hA,dX, ?_,fun t ht=>ht,As.defers,by rw [hlen];exact As.size,⟨As.base.os,As.base.tape,As.base.output,As.base.size,fun t v QW=> ?_,As.base.block,As.base.pk,As.base.lo⟩,fun i=> ?_,fun t e hr=> ?_,fun t Dq=> ?_,⟨fun t=> ?_,fun t u M8 b hb Ca=> ?_,fun t b hb=> ?_,fun t b hb=> ?_⟩,fun t g hk=> ?_,fun t e he=>Am t e (Jq he)⟩
  ·rw [h1,EL.dt];simp [hn]
  ·have OR:Oh t=true:=F.n7 t v (by rw [←hA];exact QW);refine⟨by
    show t<pat.nx;unfold Oh at OR;simp only [Ae,decide_eq_true_eq]at OR;omega,fun hk=> ?_⟩
   have B0:B1 pat.hp t=some 0:=hk;obtain⟨e,gU⟩: ∃e,AF pat.hp t=some e:=by
    unfold B1 at B0;cases hh:AF pat.hp t with
    |none=>rw [hh]at B0;cases B0
    |some e=>exact⟨e,rfl⟩
   have Eu:=UD _ (Jq gU);simp only [OR,Bool.not_true,Bool.false_or]at Eu;have main:θ.lookup t=some (some t)→B1 τ.hp t=some 0→c.K t 0→(Dl c (ρ++(EL.of es0).den c.ρ) θ pat τ).H t 0=v:=by intro hl hg hK;simp only [Dl,hl,hg,Option.getD_some];exact(As.base.pins t v QW).2 hK
   unfold Nh at Eu;simp only [B1,gU]at B0;rw [gU]at Eu;cases e with
   |box ty g cs=>
    simp only [Ae,beq_iff_eq]at Eu;obtain⟨hl,hb⟩:=Eu;split at hb
    ·rename_i ty' g' cs' Df;obtain⟨b,C,q1,_⟩:=As.ents t _ (by rw [Df];rfl);exact main hl (by simp [B1,Df]) q1
    ·cases hb
   |row ety sz g x d=>
    simp only [Ah]at B0;subst B0;simp only [bne_self_eq_false,Bool.false_or,Ae,beq_iff_eq]at Eu;obtain⟨hl,hb⟩:=Eu;split at hb
    ·rename_i ety' sz' g' x' d' Df;rw [beq_iff_eq]at hb;subst hb;obtain⟨q1,_⟩:=As.ents t _ (by rw [Df];rfl);exact main hl (by simp [B1,Df]) q1
    ·cases hb
   |cc g x=>simp only [Ah]at B0;subst B0;simp at Eu
   |gd=>simp at B0
   |dead=>simp at B0
   |hol=>simp at B0
   |deep ety sz l g ep x=>
    simp only [Ah]at B0;subst B0;simp only [bne_self_eq_false,Bool.false_or,Ae,beq_iff_eq]at Eu;obtain⟨hl,hb⟩:=Eu;split at hb
    ·rename_i Df;rw [beq_iff_eq]at hb;subst hb;obtain⟨q1,_⟩:=As.ents t _ (by rw [Df];rfl);exact main hl (by simp [B1,Df]) q1
    ·cases hb
  ·unfold BG;cases O5:pat.sl[i]? with
   |none=>exact .undef .nil
   |some p=>obtain⟨s,k,hs,hk⟩:=zzP _ CQ O5;have:=As.de i;unfold BG at this;rw [hs]at this;exact yI As hp hn Cq k hk this
  ·cases he:AF pat.hp t with
   |none=>rw [he]at hr;exact hr.elim
   |some e9=>have OG:=(AR t e9 e he).1 hr;subst OG;exact zA3 As hp hn Cq hθ he
  ·have:HQ pat.hp t=false:=by
    cases he:AF pat.hp t with
    |none=>simp [HQ,he]
    |some e9=>exact absurd ((AR t e9 e9 he).2 rfl) (Dq e9)
   simp [Dl,this]
  ·simp only [Dl];split
   ·split
    ·exact zBC (As.gw.nodup _)
    ·simp [GI.own]
   ·simp [GI.own]
  ·obtain⟨_,t',hl,_,CI⟩:=Od hb;obtain⟨_,u',BL,_,IA⟩:=Od Ca;by_cases hh:t'=u'
   ·subst hh;exact M8 (bK hθ (NM hl) (NM BL))
   ·exact As.gw.cz t' u' hh b CI IA
  ·obtain⟨_,t',hl,_,CI⟩:=Od hb;exact As.gw.allow t' b CI
  ·obtain⟨_,t',hl,_,CI⟩:=Od hb;exact As.gw.inb t' b CI
  ·have B0:B1 pat.hp t=some g:=hk;unfold B1 at B0;show t<pat.nx;split at B0
   ·rename_i hh;exact Am t _ (Jq hh)
   ·rename_i hh;exact Am t _ (Jq hh)
   ·rename_i hh;exact Am t _ (Jq hh)
   ·rename_i hh;exact Am t _ (Jq hh)
   ·cases B0
 ·cases hi
theorem Wn (l:List DT): ∀(n k o m:Nat),k<n→o+m≤l.length→((Dn n l).drop (k*l.length+o)).take m=(l.drop o).take m
 |0,k,_,_,h,_=>by omega
 |n+1,0,o,m,_,hm=>by rw [P7,Nat.zero_mul,Nat.zero_add,List.drop_append_of_le_length (by omega),List.take_append_of_le_length (by simp;omega)]
 |n+1,k+1,o,m,h,hm=>by have ih:=Wn l n k o m (by omega) hm;rw [←ih,P7,show(k+1)*l.length+o=l.length+(k*l.length+o)from by rw [Nat.add_mul];omega,List.drop_append,List.drop_eq_nil_of_le (by omega)];simp
theorem DC.elem {w:World} {ys:List AV} {l:List DT} {cells:List Value} {N:List Nat} {z:Nat} (h:DC w (Dn ys.length l) cells (AO ys) N) (hl:l.length=z) (h7: ∀y∈ys,y.cells.length=z) {k o m:Nat} (hk:k<ys.length) (hm:o+m≤z):
  ∃M,(∀b∈M,b∈N)∧DC w ((l.drop o).take m) ((cells.drop (k*z+o)).take m) ((((AV.sl ys).nth k).cells.drop o).take m) M:=by
 obtain⟨N1,N2,N3,rfl,_,h2,_⟩:=h.split (k*z+o) m;subst hl;rw [Wn l _ _ _ _ hk hm,Ww ys h7 k _ (Oe hk) o m hm]at h2;exact⟨N2,fun b hb=>by simp [hb],h2⟩
theorem Rd.mi {w:World} {vs:List Value} {x:AV} {f:List Nat} {o m:Nat} {g:Bool} (h:Rd w vs ((x.cells.drop o).take m) f) (h9: ∀u∈vs,u.oneCell'=true) (hm:o+m≤x.cells.length) (h1:g=false→m=1):
  Rd w [if g then .agg vs.toArray else vs.headD undef] [x.fld o m g] f:=by
 cases g with
 |true=>have:=Rd.agg h9 h .nil;simpa [AV.fld]using this
 |false=>
  have:=h1 rfl;subst this;have e2:(x.cells.drop o).take 1= [x.cells[o]'(by omega)]:=by rw [List.drop_eq_getElem_cons (by omega),List.take_succ_cons,List.take_zero]
  rw [e2]at h;have hl:=h.len
  match vs,hl with
  | [v],_=>simpa [AV.fld,show o<x.cells.length by omega]using h
section
variable {P:Program} {c:Cx} {n nx:Nat} {sl sl0:Nat→SV} {hp hp0:Nat→Option Aj} {a:Act} {o:Oper} {gs:Gd} {e:A7} {sg:BW} {nv:Nat}
theorem zwv {w:World} {b p:Nat} {t:TypeId} {C:Array Value} {ty:TypeId} {fz:Nat × Nat} (hb:w.heap[b]?=some (.cells C ty fz)) (ht:DE P t=true) (hg:Aq P t=true∨P.cellsOf t=1) (hp:p+P.cellsOf t≤C.size):
  (Instr.loadAt t (.pointer (some ⟨b,p,none⟩))).run P w= .ok (if Aq P t then .agg ((C.toList.drop p).take (P.cellsOf t)).toArray else((C.toList.drop p).take (P.cellsOf t)).headD undef) w:=by
 have MT:((C.toList.drop p).take (P.cellsOf t)).length=P.cellsOf t:=by rw [List.length_take,List.length_drop,Array.length_toList];omega
 refine SN ht _ (fun _=>MT) (fun h=> ?_) (fun j u hu=> ?_)
 ·rw [MT];rcases hg with h'|h';rw [h]at h';cases h';exact h'
 ·rw [Fe hb];rw [List.getElem?_take]at hu;split at hu
  ·simpa using hu
  ·cases hu
theorem zCs {b g e z ep:Nat} {l:List DT} {c0 i:E} {t:TypeId} {k':Nat} {v:Value} (hE:Dm c b (.deep e z l g ep c0)) (hr:SR c [.c7 b g i z k'] [v]) (Bt:DE P t=true) (hle:k'+P.cellsOf t≤z) (AE:Aq P t=true∨P.cellsOf t=1):
  ∃u,(Instr.loadAt t v).run P c.w= .ok u c.w∧(((l.drop k').take (P.cellsOf t)).all DT.cf=true→Rd c.w [u] [(E.fld (.idx c0 i) k' (P.cellsOf t) (Aq P t)).den c.ρ] [])∧Rl c b u ((E.fld (.idx c0 i) k' (P.cellsOf t) (Aq P t)).den c.ρ)∧(Aq P t=false→I7 c b g (some (i,z,k')) u):=by
 obtain⟨q1,q2,q3,q4,q5⟩:=hE;cases hr with
 |c7 h1 h2 h3 h4 h5 _=>
  rename_i q len cap kk k h6;obtain⟨d1,d2,⟨a9,d3,_⟩|⟨g9,cap9,C,ys,N1,d3,d4,d5,d6,d7,d8,d9,d10,d11,d12⟩⟩:=q4.inv
  ·rw [h2]at d3;cases d3;omega
  ·rw [h2]at d3;cases d3;rw [AY.bc]at d2 d12;have hk:k.toNat<ys.length:=by omega
   have hmul:(k.toNat+1)*z≤ys.length*z:=Nat.mul_le_mul_right _ (by omega);have Gz:ys.length*z≤cap*z:=Nat.mul_le_mul_right _ d7;rw [Nat.add_mul]at hmul;have AU:=zwv (P:=P) (t:=t) (p:=k.toNat*z+k') d6 Bt AE (by omega);obtain⟨M,m1,m2⟩:=d12.elem d2 d10 hk hle;have Gt:((C.toList.take (ys.length*z)).drop (k.toNat*z+k')).take (P.cellsOf t)=(C.toList.drop (k.toNat*z+k')).take (P.cellsOf t):=by rw [List.drop_take,List.take_take,Nat.min_eq_left (by omega)]
   rw [Gt]at m2;have CY: ∀u∈(C.toList.drop (k.toNat*z+k')).take (P.cellsOf t),u.oneCell'=true:=fun u hu=>d11 u (by rw [←Gt]at hu;exact List.mem_of_mem_drop (List.mem_of_mem_take hu))
   have u6:((AV.sl ys).nth k.toNat).cells.length=z:=d10 _ (List.mem_of_getElem? (Oe hk));have Cb:(E.fld (.idx c0 i) k' (P.cellsOf t) (Aq P t)).den c.ρ=((AV.sl ys).nth k.toNat).fld k' (P.cellsOf t) (Aq P t):=by simp only [E.den,d4,h3,AV.idx]
   have TN:Aq P t=false→P.cellsOf t=1:=fun h=>by rcases AE with h'|h';rw [h]at h';cases h';exact h'
   refine⟨_,AU,fun hf=> ?_, ?_,fun hf=> ?_⟩
   ·rw [Cb];exact(m2.kr hf).mi CY (by omega) TN
   ·obtain⟨f,r1,r2⟩:=m2.rd;rw [Cb];exact⟨f,r1.mi CY (by omega) TN,fun b hb=> .inr (by rw [d5];simp [m1 b (r2 b hb)])⟩
   ·refine⟨_,_,_,C,_,_,kk,k,h2,by rw [d5];simp,d6,h3,h4,h5, ?_⟩;have BX:=TN hf;have Am:k.toNat*z+k'<C.size:=by omega
    have e1:(C.toList.drop (k.toNat*z+k')).take 1= [C[k.toNat*z+k']]:=by rw [List.drop_eq_getElem_cons (by simpa using Am),List.take_succ_cons,List.take_zero];simp
    rw [hf,BX,e1];simp [Am]
end
section
variable {P:Program} {c:Cx} {n nx:Nat} {sl sl0:Nat→SV} {hp hp0:Nat→Option Aj} {a:Act} {o:Oper} {gs:Gd} {e:A7} {sg:BW} {nv:Nat}
theorem BA.c8: ∀l:BA,BA.of l.toList=l
 | .nil=>rfl
 | .cons s l=>by simp [BA.toList,BA.of,BA.c8 l]
theorem zDn (h:Bx P c n nx sl hp a sl0 hp0 o gs) {t:TypeId} {x:Operand} (ho:o.op= .load t x) (he:BJ P sg sl0 hp0 nv nx gs o=some e) (hc: ∀q∈e.ca,Cn.den c.ρ q):AB P o c n nx sl hp gs a e:=by
 have hm:x∈o.op.operands:=by simp [ho,Op.operands]
 simp only [BJ,ho,Aw,Av]at he;obtain⟨s,hs,e1,he,rfl⟩:=he;have hr:=(h.db hs hm).asPtr (fun q hq=>hc q (by simp [hq]));have MJ: ∀q∈e1.ca,Cn.den c.ρ q:=fun q hq=>hc q (by simp [hq]);have ex:(execOp a.eval o).run P c.w=((Instr.loadAt t (a.eval x)).run P c.w).andThen fun v w=> .ok (.value v) w:=by simp [execOp,ho]
 unfold xQ at he;split at he
 ·cases he
 rename_i Bt;have Bt:DE P t=true:=by simpa using Bt
 generalize Bk:(asPtr s).1=s1 at he hr;split at he
 ·rename_i b o';split at he
  ·rename_i ty g cs hl;obtain⟨s2,A6,rfl⟩:=Av.1 he;generalize ha:a.eval x=v at hr ex;cases hr with
   |cu h1 h2 _=>
    rename_i q;obtain⟨q',C,_,e2,e3,e4,e5,e5',e6⟩:=h.eh b _ (C5 hl h.gs);rw [h2]at e2;cases e2;unfold QC at A6;have hlen:=e6.len;split at A6
    ·rename_i AE;split at A6
     ·rename_i hle;simp at A6;subst A6;obtain⟨r1,r2⟩:=e6.split o';obtain⟨r3,r4⟩:=r2.split (P.cellsOf t);have:=SR.agg (cs:=BA.of ((cs.drop o').take (P.cellsOf t))) (fun u hu=>e5' u (List.mem_of_mem_drop (List.mem_of_mem_take hu))) (by rw [BA.bc];exact r3) .nil;refine AB.pure h (v:= .agg ((C.toList.drop o').take (P.cellsOf t)).toArray) ?_ this rfl;rw [ex,SN Bt ((C.toList.drop o').take (P.cellsOf t)) (fun _=>by simp at hlen ⊢;omega) (fun h=>by rw [AE]at h;cases h) (fun j u hu=>by
       rw [Fe e5];rw [List.getElem?_take]at hu;split at hu
       ·simpa using hu
       ·cases hu)]
      simp [AE]
     ·cases A6
    ·rename_i AE;have AE:Aq P t=false:=by simpa using AE
     obtain⟨u,hu,r⟩:=e6.get A6;refine AB.pure h (v:=u) ?_ r rfl;rw [ex,SN Bt [u] (fun h=>by rw [AE]at h;cases h) (fun _=>rfl) (fun j z hz=>by
      cases j with
      |zero=>simp at hz;subst hz;rw [Fe e5];simpa using hu
      |succ j=>simp at hz)]
     simp [AE]
  ·cases he
 ·rename_i b g i sz o';split at he
  ·rename_i e0 sz' g' c0 d hl;split at he
   ·rename_i hh;obtain⟨rfl,rfl,hle,AE⟩:=hh;simp at he;subst he;generalize ha:a.eval x=v at hr ex;cases hr with
    |c7 h1 h2 h3 h4 h5 _=>
     rename_i q len cap kk k h6;obtain⟨_,_,N,r1,r2,_,_⟩:=h.eh b _ (C5 hl h.gs);obtain⟨f,r3,_,r4⟩:=r1.rd;obtain⟨xs,CN,AG,h0,Bo⟩:=r1;rw [h2]at r3 Bo;have hk:k.toNat<len:=by omega
     have Kb:xs.length=len:=by
      rcases Bo with⟨_,⟨_,hv⟩,_⟩|⟨_,_,_,hv,_⟩
      ·cases hv;omega
      ·simp at hv;exact hv.2.1.symm
     have Cd:((c0.den c.ρ).nth k.toNat).cells.length=sz:=by rw [CN];exact AG _ (List.mem_of_getElem? (Oe (xs:=xs) (by omega)))
     obtain⟨v',q',g1,g2,g3⟩:=rJ r3 hk Cd Bt hle AE;refine AB.pure h (v:=v') ?_ (.e (f:=q') ?_ ?_ .nil) rfl
     ·rw [ex];rw [Nat.zero_add]at g1;simp [g1]
     ·simpa [E.den,AV.idx,h3]using g3
     ·exact fun z hz=>r2 z (r4 z (g2 z hz))
   ·cases he
  ·rename_i e0 sz' l g' ep c0 hl;split at he
   ·rename_i hh;obtain⟨rfl,rfl,hle,AE⟩:=hh;generalize ha:a.eval x=v at hr ex;have hE:=h.eh b _ (C5 hl h.gs);obtain⟨u,k1,k2,k3,k4⟩:=zCs (P:=P) (t:=t) hE hr Bt hle AE;have AU:(execOp a.eval o).run P c.w= .ok (.value u) c.w:=by rw [ex,k1];rfl
    split at he
    ·rename_i hf;simp only [Ah]at he;subst he;exact AB.pure h AU (.e (k2 hf) (by simp) .nil) rfl
    ·simp only [Ah]at he;subst he;cases hr with
     |c7 h1 _ _ _ _ _=>
      refine AB.pure h AU (.via h1 (Nat.le_of_eq hE.2.2.1.symm) (fun _=>⟨k3, ?_⟩) .nil) rfl;split
      ·exact trivial
      ·rename_i Ho;exact k4 (by simpa using Ho)
   ·cases he
  ·cases he
 ·rename_i b g m pth y i sz o';split at he
  ·rename_i hh;obtain⟨hle,AE,hv⟩:=hh;have hE:=To h.eh h.gs hv;generalize ha:a.eval x=v at hr ex;cases hr with
   |vptr h1 h2 h3 _=>
    obtain⟨q,off,len,cap,kk,k,⟨f,p1,p2⟩,_,p4,p5,p6,p7,rfl⟩:=h3 hE;obtain⟨v',q',g1,g2,g3⟩:=rJ (fo:=o') p1 (by omega) p7 Bt hle AE;have AU:(execOp a.eval o).run P c.w= .ok (.value v') c.w:=by rw [ex];simp [g1]
    have Cb:Rd c.w [v'] [(E.fld (.idx y i) o' (P.cellsOf t) (Aq P t)).den c.ρ] q':=by simpa [E.den,AV.idx,p4]using g3
    split at he
    ·simp only [Ah]at he;subst he;obtain⟨f1,f2,f3,f4⟩:=BX MJ;have hq:q'= []:=by
      cases hg:Aq P t with
      |true=>obtain⟨cs,Bp⟩:=f3 hg;obtain⟨as_,rfl,_,r⟩:=Kw Cb Bp;exact Im r (by rw [Bp]at f2;exact f2)
      |false=>exact Im Cb (by simpa using f4 hg)
     subst hq;exact AB.pure h AU (.e Cb (by simp) .nil) rfl
    ·simp only [Ah]at he;subst he;exact AB.pure h AU (.via h1 h2 (fun _=>⟨⟨q',Cb,fun z hz=>p2 z (List.mem_of_mem_tail (g2 z hz))⟩,trivial⟩) .nil) rfl
  ·cases he
 ·rename_i y i sz o';split at he
  ·rename_i hh;obtain⟨hle,AE⟩:=hh;simp at he;subst he;generalize ha:a.eval x=v at hr ex;cases hr with
   |du h1 h2 h3 h4 h5 h6 _=>rename_i q off len cap f kk k;obtain⟨v',q',g1,g2,g3⟩:=rJ (fo:=o') h1 (by omega) h6 Bt hle AE;refine AB.pure h (v:=v') ?_ (.e (f:=q') (by simpa [E.den,AV.idx,h3]using g3) (fun z hz=>h2 z (List.mem_of_mem_tail (g2 z hz))) .nil) rfl;rw [ex];simp [g1]
  ·cases he
 ·rename_i y o';split at he
  ·rename_i AE;simp at he;subst he;generalize ha:a.eval x=v at hr ex;cases hr with
   |dr h1 h2 _=>
    rename_i q f;obtain⟨z,hz,hle⟩:=BX MJ;rw [hz]at h1;cases h1 with
    |ref hb Ca H8 Db=>
     rename_i C ty fz f1 f2;obtain⟨q',g1,g2⟩:=H8.j4 Ca o' (P.cellsOf t) (Aq P t) hle (fun h=>by rcases AE with h'|h';rw [h]at h';cases h';exact h');have MT:((C.toList.drop o').take (P.cellsOf t)).length=P.cellsOf t:=by have:=H8.len;rw [List.length_take,List.length_drop];omega
     refine AB.pure h ?_ (.e (f:=q') (by simpa [E.den,hz,AV.deref]using g2) (fun z hz=>h2 z (by simp [g1 z hz])) .nil) rfl;rw [ex,SN Bt ((C.toList.drop o').take (P.cellsOf t)) (fun _=>MT) (fun h=>by rw [MT];rcases AE with h'|h';rw [h]at h';cases h';exact h') (fun j u hu=>by
       rw [Fe hb];rw [List.getElem?_take]at hu;split at hu
       ·simpa using hu
       ·cases hu)]
     simp
  ·cases he
 ·cases he
end
theorem Qi (k:IntKind) (n:Int):E7 k n↔k.min≤n∧n≤k.max:=by unfold E7;cases k<;>simp only [IntKind.wrap,IntKind.bits,IntKind.signed,IntKind.min,IntKind.max]<;>simp<;>(try split)<;>omega
theorem rZ (k:IntKind) (n:Int):E7 k (k.wrap n):=by rw [Qi];cases k<;>simp only [IntKind.wrap,IntKind.bits,IntKind.signed,IntKind.min,IntKind.max]<;>simp<;>(try split)<;>omega
theorem zER {k:IntKind} {x y:Int} (h:E7 k x):E7 k (x.tmod y):=by
 rw [Qi]at h ⊢;have h1:(x.tmod y).natAbs≤x.natAbs:=by rw [Int.natAbs_tmod];exact Nat.mod_le _ _
 have h2:0≤x→0≤x.tmod y:=Int.tmod_nonneg y;have gI:k.min≤0:=by cases k<;>decide
 have Et:0≤k.max:=by cases k<;>decide
 constructor
 ·by_cases h0:0≤x
  ·have:=h2 h0;omega
  ·omega
 ·by_cases h0:0≤x
  ·omega
  ·have h3:x.tmod y≤0:=by
    have:=Int.tmod_nonneg (a:= -x) y (by omega);rw [Int.neg_tmod]at this;omega
   omega
theorem zEl {k:IntKind} {x:Int} (m:Nat) (h:E7 k x):E7 k (x.fdiv (2^m)):=by
 rw [Qi]at h ⊢;have hp:(0:Int)<2^m:=Int.pow_pos (by decide);rw [Int.fdiv_eq_ediv_of_nonneg _ (Int.le_of_lt hp)];have gI:k.min≤0:=by cases k<;>decide
 have Et:0≤k.max:=by cases k<;>decide
 have h1:(1:Int)≤2^m:=hp;constructor
 ·rcases Int.le_total 0 x with h0|h0
  ·have:=Int.ediv_nonneg h0 (Int.le_of_lt hp);omega
  ·have:x≤x/2^m:=by
    rw [Int.le_ediv_iff_mul_le hp];have:=Int.mul_le_mul_of_nonpos_left h0 h1;omega
   omega
 ·rcases Int.le_total 0 x with h0|h0
  ·have:=Int.ediv_le_self (2^m) h0;omega
  ·have h2:x/2^m≤0:=by
    have:=Int.ediv_le_ediv hp h0;simpa using this
   omega
section
variable {P:Program} {c:Cx} {n nx:Nat} {sl sl0:Nat→SV} {hp hp0:Nat→Option Aj} {a:Act} {o:Oper} {gs:Gd} {e:A7} {sg:BW} {nv:Nat}
def AV.val:AV→Value
 | .int k n=> .int k n
 | .bool b=> .bool b
 | .str s=> .string ⟨s.toArray⟩
 |_=>Go.undef
theorem zAO {op:BinOp} {k k':IntKind} {x y:Int} (hk:k=k'∨op= .shl∨op= .shr) (hz:op= .quo∨op= .rem→y≠0) (hs:op= .shl∨op= .shr→0≤y) (t:TypeId) (p q:Operand) (w:World):
  (do eqGuard op t p q (.int k x) (.int k' y);binOp op t (.int k x) (.int k' y):Sem Value).run P w= .ok (BQ op k x y).val w:=by
 have hg:=eqGuard_at_int op t p q (.int k' y) k x;cases op<;>simp only [reduceCtorEq,or_false,or_true,or_self]at hk hz hs<;>simp only [hg]
 all_goals first
  |(subst hk;simp [binOp,Op.intArith,Op.intCmp,Op.intBits,BQ,AV.val];done)
  |(subst hk;have:=hz trivial;simp [binOp,Op.intDiv,BQ,AV.val,this];done)
  |(have:=hs trivial;simp [binOp,Op.shift,BQ,AV.val,Int.not_lt.2 this];done)
theorem zDF {op:BinOp} {k:IntKind} {x y:Int} (hx:E7 k x) (w:World):Rd w [(BQ op k x y).val] [BQ op k x y] []:=by
 cases op<;>simp only [BQ,AV.val]<;>first
  |exact .int (rZ _ _) .nil
  |exact .bool .nil
  |exact .int (zER hx) .nil
  |exact .int (zEl _ hx) .nil
theorem Rd.jh {w:World} {v:Value} {x:AV} {f:List Nat} (h:Rd w [v] [x] f):x≠ .undef:=by rintro rfl;cases h
theorem rI {ρ:List AV}: ∀(x:E) {k:IntKind},Cv x=some k→x.den ρ≠ .undef→ ∃m,x.den ρ= .int k m
 | .int k n,_,h,_=>by simp [Cv]at h;subst h;exact⟨n,rfl⟩
 | .len y,_,h,hd=>by
  simp [Cv]at h;subst h;simp only [E.den,AV.len]at hd ⊢;split at hd
  ·exact⟨_,rfl⟩
  ·exact absurd rfl hd
 | .slen y,_,h,hd=>by
  simp [Cv]at h;subst h;simp only [E.den,AV.slen]at hd ⊢;split at hd
  ·exact⟨_,rfl⟩
  ·exact absurd rfl hd
 | .conv k y,_,h,hd=>by
  simp [Cv]at h;subst h;simp only [E.den,AV.conv]at hd ⊢;split at hd
  ·exact⟨_,rfl⟩
  ·exact absurd rfl hd
 | .bin op x y,k,h,hd=>by
  simp only [E.den]at hd ⊢;have hx:x.den ρ≠ .undef:=by rintro hh;rw [hh]at hd;exact hd (by simp [AV.bin])
  cases op<;>simp only [Cv,reduceCtorEq]at h
  all_goals
   obtain⟨m,hm⟩:=rI x h hx;rw [hm]at hd ⊢;cases hy:y.den ρ<;>rw [hy]at hd<;>simp only [AV.bin]at hd ⊢ <;>first
    |exact absurd rfl hd
    |(split at hd
      ·rename_i hk;rw [if_pos hk];exact⟨_,rfl⟩
      ·exact absurd rfl hd)
 | .var _,_,h,_=>by simp [Cv]at h
 | .bool _,_,h,_=>by simp [Cv]at h
 | .str _,_,h,_=>by simp [Cv]at h
 | .ej,_,h,_=>by simp [Cv]at h
 | .lst _,_,h,_=>by simp [Cv]at h
 | .mk _,_,h,_=>by simp [Cv]at h
 | .tup _,_,h,_=>by simp [Cv]at h
 | .ref _,_,h,_=>by simp [Cv]at h
 | .fn ..,_,h,_=>by simp [Cv]at h
 | .fld ..,_,h,_=>by simp [Cv]at h
 | .proj ..,_,h,_=>by simp [Cv]at h
 | .deref _,_,h,_=>by simp [Cv]at h
 | .idx ..,_,h,_=>by simp [Cv]at h
 | .sidx ..,_,h,_=>by simp [Cv]at h
 | .win ..,_,h,_=>by simp [Cv]at h
 | .swin ..,_,h,_=>by simp [Cv]at h
 | .app ..,_,h,_=>by simp [Cv]at h
 | .set ..,_,h,_=>by simp [Cv]at h
 | .put ..,_,h,_=>by simp [Cv]at h
 | .rep ..,_,h,_=>by simp [Cv]at h
 | .sbin ..,_,h,_=>by simp [Cv]at h
 | .bbin ..,_,h,_=>by simp [Cv]at h
 | .not _,_,h,_=>by simp [Cv]at h
 | .neg _,_,h,_=>by simp [Cv]at h
 | .ite ..,_,h,_=>by simp [Cv]at h
 | .bytes _,_,h,_=>by simp [Cv]at h
 | .text _,_,h,_=>by simp [Cv]at h
end
section
variable {P:Program} {c:Cx} {n nx:Nat} {sl sl0:Nat→SV} {hp hp0:Nat→Option Aj} {a:Act} {o:Oper} {gs:Gd} {e:A7} {sg:BW} {nv:Nat}
theorem Ij {s:SV} {v:Value} {x:E} (h:SR c [s] [v]) (hx:FM s=some x): ∃f,Rd c.w [v] [x.den c.ρ] f∧ ∀b∈f,c.ok b:=by
 cases s<;>simp only [FM,Ah,reduceCtorEq]at hx;subst hx;cases h with
 |e h1 h2 _=>exact⟨_,h1,h2⟩
theorem SR.dd {v:Value} {x:E} (h:Rd c.w [v] [x.den c.ρ] []):SR c [.e x] [v]:= .e h (by simp) .nil
theorem zBm {ρ:List AV} {op:BinOp} {x y:E} {w:World} {v u:Value} {f g:List Nat} (h1:Rd w [v] [x.den ρ] f) (h2:Rd w [u] [y.den ρ] g) (hd:Th (.bin op x y)=true→(E.bin op x y).den ρ≠ .undef):
  ∃k k' p q,x.den ρ= .int k p∧y.den ρ= .int k' q∧(k=k'∨op= .shl∨op= .shr)∧(E.bin op x y).den ρ=BQ op k p q∧E7 k p∧v= .int k p∧u= .int k' q:=by
 have key:(∃k k' p q,x.den ρ= .int k p∧y.den ρ= .int k' q∧(k=k'∨op= .shl∨op= .shr)):=by
  by_cases hn:Th (.bin op x y)=true
  ·have:=hd hn;simp only [E.den]at this;cases hx:x.den ρ<;>cases hy:y.den ρ<;>simp only [hx,hy,AV.bin,ne_eq,not_true_eq_false]at this;split at this
   ·exact⟨_,_,_,_,rfl,rfl,by assumption⟩
   ·exact absurd rfl this
  ·have hn:Th (.bin op x y)=false:=by simpa using hn
   have hk:(Cv x).isSome=true∧(Cv x==Cv y)=true:=by cases op<;>simp [Th]at hn<;>simpa using hn
   obtain⟨k,Jf⟩:=Option.isSome_iff_exists.1 hk.1;have Jg:Cv y=some k:=by rw [←beq_iff_eq.1 hk.2,Jf]
   obtain⟨p,hp⟩:=rI x Jf h1.jh;obtain⟨q,hq⟩:=rI y Jg h2.jh;exact⟨k,k,p,q,hp,hq, .inl rfl⟩
 obtain⟨k,k',p,q,hp,hq,MS⟩:=key;obtain⟨hv,Cg⟩:=Hc h1 hp;obtain⟨hu,_⟩:=Hc h2 hq;exact⟨k,k',p,q,hp,hq,MS,by simp only [E.den,hp,hq,AV.bin,if_pos MS],Cg,hv,hu⟩
theorem zps (a b:ByteArray):(a.toList==b.toList)=(a.data.toList==b.data.toList):=by rw [ByteArray.toList_eq,ByteArray.toList_eq]
theorem zv1 {α β γ:Type} (r:Result α) (f:α→World→Result β) (g:β→World→Result γ):(r.andThen f).andThen g=r.andThen fun a w=>(f a w).andThen g:=by cases r<;>rfl
theorem pX (d:Nat) {t:TypeId} (p q:Bool) (h:P.underlying t=some .bool) (w:World):(Op.equalIn (d+1) t (.bool p) (.bool q)).run P w= .ok (p==q) w:=by simp [Op.equalIn,run_underlying h]
theorem zBc {t:TypeId} (p q:Bool) (h:P.underlying t=some .bool) (w:World):(binOp .eql t (.bool p) (.bool q)).run P w= .ok (.bool (p==q)) w:=by simp only [binOp];simp [Op.equal,Op.maxDepth,pX 9999 p q h]
theorem zA2 {t:TypeId} (p q:Bool) (h:P.underlying t=some .bool) (w:World):(binOp .neq t (.bool p) (.bool q)).run P w= .ok (.bool (!(p==q))) w:=by simp only [binOp];simp [Op.equal,Op.maxDepth,pX 9999 p q h]
theorem Qw {op:BinOp} {t ty:TypeId} {x y:Operand} (ho:o.op= .binOp op t x y ty) (w:World) {v u:Value} (hv:a.eval x=v) (hu:a.eval y=u):
  (execOp a.eval o).run P w=((do eqGuard op t x y v u;binOp op t v u:Sem Value).run P w).andThen fun v w=> .ok (.value v) w:=by
 simp only [execOp,ho,hv,hu,Sem.run_bind,zv1,Sem.run_pure]
theorem zok (h:Bx P c n nx sl hp a sl0 hp0 o gs) {op:BinOp} {t el:TypeId} {x y:Operand} {ty:TypeId} (ho:o.op= .binOp op t x y ty) (hu:P.underlying t=some (.slice el)) (r1:SR c [.cq] [a.eval x]) (r2:SR c [.cq] [a.eval y])
  (AS:op= .eql∨op= .neq):AB P o c n nx sl hp gs a {val:= .e (.bool (op== .eql))}:=by
 have ex:=fun(v u:Value) (hv:a.eval x=v) (hu:a.eval y=u)=>Qw (P:=P) (o:=o) ho c.w hv hu;generalize Fb:a.eval x=v1 at r1;generalize Dt:a.eval y=v2 at r2;cases r1 with
 |cq _=>cases r2 with
  |cq _=>
   refine AB.pure h (v:= .bool (op== .eql)) ?_ (.dd (.bool .nil)) rfl;rw [ex _ _ Fb Dt,eqGuard_at_slice];rcases AS with rfl|rfl
   ·simp [run_eql_nil_slice c.w t el none 0 0 0 0 hu]
   ·simp [run_neq_nil_slice c.w t el none 0 0 0 0 hu]
theorem zyu (h:Bx P c n nx sl hp a sl0 hp0 o gs) {op:BinOp} {t:TypeId} {x y:Operand} {ty:TypeId} (ho:o.op= .binOp op t x y ty) {s1 s2:SV} (r1:SR c [s1] [a.eval x]) (r2:SR c [s2] [a.eval y])
  {x' y':E} (Dc:FM s1=some x') (Bz:FM s2=some y') (hd:Th (.bin op x' y')=true→Cn.den c.ρ (.dfd (.bin op x' y'))) (hnz:op= .quo∨op= .rem→Cn.den c.ρ (.nz y')) (hnn:op= .shl∨op= .shr→Cn.den c.ρ (.nn y')) {ck:List Cn}:
  AB P o c n nx sl hp gs a {ca:=ck,val:= .e (.bin op x' y')}:=by
 obtain⟨f1,g1,_⟩:=Ij r1 Dc;obtain⟨f2,g2,_⟩:=Ij r2 Bz;obtain⟨k,k',p,q,e1,e2,MS,e3,Cg,hv,F0⟩:=zBm (op:=op) g1 g2 hd;refine AB.pure h (v:=(BQ op k p q).val) ?_ (.dd (by rw [e3];exact zDF Cg _)) rfl;rw [Qw ho c.w hv F0,zAO MS (fun AS=> ?_) (fun AS=> ?_)]
 ·simp
 ·obtain⟨_,m,hm,Er⟩:=hnz AS;rw [e2]at hm;cases hm;exact Er
 ·obtain⟨_,m,hm,Er⟩:=hnn AS;rw [e2]at hm;cases hm;exact Er
theorem zxn (h:Bx P c n nx sl hp a sl0 hp0 o gs) {op:BinOp} {t:TypeId} {x y:Operand} {ty:TypeId} (ho:o.op= .binOp op t x y ty) {s1 s2:SV} (r1:SR c [s1] [a.eval x]) (r2:SR c [s2] [a.eval y])
  {x' y':E} (Dc:FM s1=some x') (Bz:FM s2=some y') (hd:Cn.den c.ρ (.dfd (.sbin op x' y'))) (CE:op= .add→Cn.den c.ρ (.roomS x' y')) {ck:List Cn}:
  AB P o c n nx sl hp gs a {ca:=ck,val:= .e (.sbin op x' y')}:=by
 obtain⟨f1,g1,_⟩:=Ij r1 Dc;obtain⟨f2,g2,_⟩:=Ij r2 Bz;have hd:AV.sbin op (x'.den c.ρ) (y'.den c.ρ)≠ .undef:=hd;cases hx:x'.den c.ρ<;>cases hy:y'.den c.ρ<;>simp only [hx,hy,AV.sbin,ne_eq,not_true_eq_false]at hd;obtain⟨b1,Fb,rfl,_⟩:=TH g1 hx;obtain⟨b2,Dt,rfl,_⟩:=TH g2 hy;have hle:op= .add→b1.size+b2.size≤9223372036854775807:=fun AS=>by obtain⟨p,q,hp,hq,hle⟩:=CE AS;rw [hx]at hp;rw [hy]at hq;cases hp;cases hq;simpa using hle
 refine AB.pure h (v:=match op with| .add=> .string (b1++b2)|_=>(TG op b1.data.toList b2.data.toList).val) ?_ (.dd ?_) rfl
 ·rw [Qw ho c.w Fb Dt,eqGuard_at_string];cases op<;>first
   |(exact absurd rfl hd)
   |(have:=hle rfl;simp [binOp,Op.stringOp];omega)
   |(simp [binOp,Op.stringOp,TG,AV.val,ByteArray.toList_eq,bne];done)
 ·simp only [E.den,hx,hy,AV.sbin];cases op<;>simp only [TG,AV.val,ne_eq,not_true_eq_false]at hd ⊢ <;>first
   |exact .bool .nil
   |(have:=hle rfl
     have h9:=Rd.str (w:=c.w) (s:=b1++b2) (by simpa using this) .nil;simpa using h9)
theorem zwO (h:Bx P c n nx sl hp a sl0 hp0 o gs) {op:BinOp} {t:TypeId} {x y:Operand} {ty:TypeId} (ho:o.op= .binOp op t x y ty) (hu:P.underlying t=some .bool) {s1 s2:SV} (r1:SR c [s1] [a.eval x]) (r2:SR c [s2] [a.eval y])
  {x' y':E} (Dc:FM s1=some x') (Bz:FM s2=some y') (hd:Cn.den c.ρ (.dfd (.bbin op x' y'))) {ck:List Cn}:
  AB P o c n nx sl hp gs a {ca:=ck,val:= .e (.bbin op x' y')}:=by
 obtain⟨f1,g1,_⟩:=Ij r1 Dc;obtain⟨f2,g2,_⟩:=Ij r2 Bz;have hd:AV.bbin op (x'.den c.ρ) (y'.den c.ρ)≠ .undef:=hd;cases hx:x'.den c.ρ<;>cases hy:y'.den c.ρ<;>simp only [hx,hy,AV.bbin,ne_eq,not_true_eq_false]at hd;rename_i p q;have Fb:=IW g1 hx;have Dt:=IW g2 hy;refine AB.pure h (v:=(AV.bbin op (.bool p) (.bool q)).val) ?_ (.dd ?_) rfl
 ·rw [Qw ho c.w Fb Dt,eqGuard_at_bool];cases op<;>simp only [ne_eq,not_true_eq_false]at hd
  ·simp [zBc p q hu,AV.bbin,AV.val]
  ·simp [zA2 p q hu,AV.bbin,AV.val,bne]
 ·simp only [E.den,hx,hy];cases op<;>simp only [AV.bbin,AV.val,ne_eq,not_true_eq_false]at hd ⊢ <;>exact .bool .nil
theorem zEE (h:Bx P c n nx sl hp a sl0 hp0 o gs) {op:BinOp} {t:TypeId} {x y:Operand} {ty:TypeId} (ho:o.op= .binOp op t x y ty) (MY: ∀fs,P.underlying t≠some (.struct fs)) (he:BJ P sg sl0 hp0 nv nx gs o=some e) (hq:e.cm=none) (hc: ∀q∈e.ca,Cn.den c.ρ q):AB P o c n nx sl hp gs a e:=by
 have Es:x∈o.op.operands:=by simp [ho,Op.operands]
 have DZ:y∈o.op.operands:=by simp [ho,Op.operands]
 simp only [BJ,ho,Aw]at he;obtain⟨s1,BN,s2,A6,he⟩:=he;have r1:=h.db BN Es;have r2:=h.db A6 DZ;unfold TE at he;split at he
 ·rename_i el hu;split at he
  ·simp at he;subst he;exact zok h ho hu r1 r2 (.inl rfl)
  ·simp at he;subst he;exact zok h ho hu r1 r2 (.inr rfl)
  ·obtain⟨_,_,rfl⟩:=Av.1 he;cases hq
  ·obtain⟨_,_,rfl⟩:=Av.1 he;cases hq
  ·cases he
 ·rename_i kk hu;split at he
  ·rename_i x' y' Dc Bz;simp at he;subst he;exact zyu h ho r1 r2 Dc Bz (fun hn=>hc _ (by simp [hn])) (fun AS=>hc _ (by rcases AS with rfl|rfl<;>simp)) (fun AS=>hc _ (by rcases AS with rfl|rfl<;>simp))
  ·cases he
 ·rename_i hu;split at he
  ·rename_i x' y' Dc Bz;simp at he;subst he;exact zxn h ho r1 r2 Dc Bz (hc _ (by simp)) (fun AS=>hc _ (by subst AS;simp))
  ·cases he
 ·rename_i hu;split at he
  ·rename_i x' y' Dc Bz;simp at he;subst he;exact zwO h ho hu r1 r2 Dc Bz (hc _ (by simp))
  ·cases he
 ·rename_i fs hu;exact absurd hu (MY fs)
 ·cases he
end
section
variable {P:Program} {c:Cx} {n nx:Nat} {sl sl0:Nat→SV} {hp hp0:Nat→Option Aj} {a:Act} {o:Oper} {gs:Gd} {e:A7} {sg:BW} {nv:Nat}
theorem WM {t:TypeId} (h:DE P t=true) (cs:List Value) (off:Nat) (hle:off+P.cellsOf t≤cs.length) (hg:Aq P t=true∨P.cellsOf t=1) (w:World):
  (part t cs.toArray off).run P w= .ok (if Aq P t then .agg ((cs.drop off).take (P.cellsOf t)).toArray else((cs.drop off).take (P.cellsOf t)).headD Go.undef) w:=by
 cases ha:Aq P t with
 |true=>simp only [part,Sem.run_bind,Wt h,ha,P3 h,Result.andThen_ok,if_true,Sem.run_pure];congr 2;apply Array.ext';rw [Array.toList_extract];simp [Nat.add_sub_cancel_left,List.extract_eq_take_drop]
 |false=>
  have h1:P.cellsOf t=1:=by rcases hg with h'|h';rw [ha]at h';cases h';exact h'
  have Am:off<cs.length:=by omega
  have e1:(cs.drop off).take (P.cellsOf t)= [cs[off]]:=by rw [h1,List.drop_eq_getElem_cons Am,List.take_succ_cons,List.take_zero]
  rw [e1];simp [part,Wt h,ha,Am]
theorem zBF (h:Bx P c n nx sl hp a sl0 hp0 o gs) {t:TypeId} {x:Operand} {f:Nat} (ho:o.op= .field t x f) (he:BJ P sg sl0 hp0 nv nx gs o=some e) (hc: ∀q∈e.ca,Cn.den c.ρ q):AB P o c n nx sl hp gs a e:=by
 have hm:x∈o.op.operands:=by simp [ho,Op.operands]
 simp only [BJ,ho,Aw]at he;obtain⟨s,hs,he⟩:=he;have hr:=h.db hs hm;split at he
 ·rename_i fs hu;split at he
  ·rename_i fd hf;split at he
   ·cases he
   ·rename_i Bt;have Bt:DE P fd.type=true:=by simpa using Bt
    have ex: ∀as_:List Value,a.eval x= .agg as_.toArray→(execOp a.eval o).run P c.w=((part fd.type as_.toArray fd.offset).run P c.w).andThen fun v w=> .ok (.value v) w:=fun as_ hv=>by simp [execOp,ho,Instr.field,run_underlying hu,hf,hv,asAgg]
    split at he
    ·rename_i cs;obtain⟨s2,A6,rfl⟩:=Av.1 he;generalize hv:a.eval x=v at hr;cases hr with
     |agg r8 r1 r9=>
      rename_i as_;have hlen:=r1.len;unfold QC at A6;split at A6
      ·rename_i AE;split at A6
       ·rename_i hle;simp at A6;subst A6;obtain⟨q1,q2⟩:=r1.split fd.offset;obtain⟨q3,q4⟩:=q2.split (P.cellsOf fd.type);have:=SR.agg (cs:=BA.of ((cs.toList.drop fd.offset).take (P.cellsOf fd.type))) (fun u hu=>r8 u (List.mem_of_mem_drop (List.mem_of_mem_take hu))) (by rw [BA.bc];exact q3) .nil;refine AB.pure h (v:= .agg ((as_.drop fd.offset).take (P.cellsOf fd.type)).toArray) ?_ this rfl;rw [ex as_ hv,WM Bt as_ fd.offset (by omega) (.inl AE)];simp [AE]
       ·cases A6
      ·rename_i AE;have AE:Aq P fd.type=false:=by simpa using AE
       obtain⟨u,F0,r⟩:=r1.get A6;refine AB.pure h (v:=u) ?_ r rfl;rw [ex as_ hv];simp [part,Wt Bt,AE,F0]
    ·rename_i y;split at he
     ·rename_i hh;obtain⟨hle,AE⟩:=hh;simp at he;subst he;generalize hv:a.eval x=v at hr;cases hr with
      |e h1 h2 _=>
       rename_i f1;obtain⟨cs,Bp,AG⟩:=BX hc;obtain⟨as_,rfl,O8,Db⟩:=Kw h1 Bp;have hlen:=Db.len;have Gt:(y.den c.ρ).cells=cs:=by rw [Bp];rfl
       rw [←Gt]at Db;obtain⟨q,g1,g2⟩:=Db.j4 O8 fd.offset (P.cellsOf fd.type) (Aq P fd.type) (by rw [Gt];omega) (fun hh=>by rcases AE with h'|h';rw [hh]at h';cases h';exact h');refine AB.pure h ?_ (.e (f:=q) (by simpa [E.den]using g2) (fun z hz=>h2 z (g1 z hz)) .nil) rfl;rw [ex as_ hv,WM Bt as_ fd.offset (by omega) AE];simp
     ·cases he
    ·rename_i b g m pth y;split at he
     ·rename_i hh;obtain⟨hle,AE,iM⟩:=hh;have hE:=To h.eh h.gs iM;generalize hv:a.eval x=v at hr;have Ix:Cn.den c.ρ (.agg y (P.cellsOf t)):=by
       split at he<;>(simp only [Ah]at he;subst he;exact BX hc)
      cases hr with
      |via h1 h2 h3 _=>
       obtain⟨⟨f1,p1,p2⟩,_⟩:=h3 hE;obtain⟨cs,Bp,AG⟩:=Ix;obtain⟨as_,rfl,O8,Db⟩:=Kw p1 Bp;have hlen:=Db.len;have Gt:(y.den c.ρ).cells=cs:=by rw [Bp];rfl
       rw [←Gt]at Db;obtain⟨q,g1,g2⟩:=Db.j4 O8 fd.offset (P.cellsOf fd.type) (Aq P fd.type) (by rw [Gt];omega) (fun hh=>by rcases AE with h'|h';rw [hh]at h';cases h';exact h');have AU:=ex as_ hv;rw [WM Bt as_ fd.offset (by omega) AE]at AU;simp only [Result.andThen_ok]at AU;have Cb:Rd c.w _ [(E.fld y fd.offset (P.cellsOf fd.type) (Aq P fd.type)).den c.ρ] q:=g2;split at he
       ·simp only [Ah]at he;subst he;obtain⟨e1,e2,e3,e4⟩:=hc (.flat (.fld y fd.offset (P.cellsOf fd.type) (Aq P fd.type)) (P.cellsOf fd.type) (Aq P fd.type)) (by simp);have hq:q= []:=by
         cases hg:Aq P fd.type with
         |true=>obtain⟨cs,Bp⟩:=e3 hg;obtain⟨as_,_,_,r⟩:=Kw Cb Bp;exact Im r (by rw [Bp]at e2;exact e2)
         |false=>exact Im Cb (by simpa using e4 hg)
        subst hq;exact AB.pure h AU (.e Cb (by simp) .nil) rfl
       ·simp only [Ah]at he;subst he;exact AB.pure h AU (.via h1 h2 (fun _=>⟨⟨q,Cb,fun z hz=>p2 z (g1 z hz)⟩,trivial⟩) .nil) rfl
     ·cases he
    ·cases he
  ·cases he
 ·cases he
theorem Tc {v:Value} {x:AV} {m:Int} {w:World} {f:List Nat} (h:Rd w [v] [x] f) (hx:x.len= .int .i64 m):(∃a c,v= .slice a 0 c∧m=0)∨ ∃b o k c,v= .slice (some ⟨b,o,none⟩) k c∧m=k:=by
 rcases h.kind with h|h|h|h|h|h|h|h|h|h
 ·obtain⟨_,_,_,rfl,_⟩:=h;simp [AV.len]at hx
 ·obtain⟨_,_,rfl,_⟩:=h;simp [AV.len]at hx
 ·obtain⟨_,_,rfl,_⟩:=h;simp [AV.len]at hx
 ·obtain⟨q,r,rfl,rfl,_⟩:=h;simp [AV.len]at hx;exact .inl ⟨q,r,rfl,by omega⟩
 ·obtain⟨b,o,k,r,ys,_,_,_,_,_,_,rfl,rfl,_,_,_,_,hl,_⟩:=h;simp [AV.len]at hx;exact .inr ⟨b,o,k,r,rfl,by omega⟩
 ·obtain⟨_,_,_,rfl,_⟩:=h;simp [AV.len]at hx
 ·obtain⟨_,_,_,rfl,_⟩:=h;simp [AV.len]at hx
 ·obtain⟨_,_,_,_,_,_,_,rfl,_⟩:=h;simp [AV.len]at hx
 ·obtain⟨_,_,_,_,rfl,_⟩:=h;simp [AV.len]at hx
 ·obtain⟨_,rfl,_⟩:=h;simp [AV.len]at hx
theorem Wk {t el:TypeId} (hu:P.underlying t=some (.slice el)) (hz:P.cellsOf el≠0) {b off len cap:Nat} {kk:IntKind} {k:Int} (h0:0≤k) (h1:k<len) (w:World):
  (Instr.indexAt t (.slice (some ⟨b,off,none⟩) len cap) (.int kk k)).run P w= .ok (.pointer (some ⟨b,off+k.toNat*P.cellsOf el,none⟩)) w:=by
 simp [Instr.indexAt,run_underlying hu,asIntOf,h0,h1,zvn hz,Addr.add_lit]
theorem zvh (h:Bx P c n nx sl hp a sl0 hp0 o gs) {t:TypeId} {x i:Operand} (ho:o.op= .indexAddr t x i∨o.op= .index t x i) {s1 s2:SV} (BN:BS sl0 gs x=some s1) (A6:BS sl0 gs i=some s2)
  (AS:(∃el,P.underlying t=some (.slice el))→o.op= .indexAddr t x i) (gQ:P.underlying t=some .string→o.op= .index t x i)
  (he:cW P hp0 gs t s1 s2=some e) (hc: ∀q∈e.ca,Cn.den c.ρ q):AB P o c n nx sl hp gs a e:=by
 have Es:x∈o.op.operands:=by rcases ho with ho|ho<;>simp [ho,Op.operands]
 have DZ:i∈o.op.operands:=by rcases ho with ho|ho<;>simp [ho,Op.operands]
 have r1:=h.db BN Es;have r2:=h.db A6 DZ;unfold cW at he;split at he
 ·rename_i el k hu;have Uz:=AS ⟨el,hu⟩;have ex:(execOp a.eval o).run P c.w=((Instr.indexAt t (a.eval x) (a.eval i)).run P c.w).andThen fun v w=> .ok (.value v) w:=by simp [execOp,Uz]
  split at he
  ·cases he
  rename_i hz;obtain⟨fk,Jf,_⟩: ∃f,Rd c.w [a.eval i] [k.den c.ρ] f∧ ∀b∈f,c.ok b:=by
   generalize a.eval i=v at r2;cases r2 with
   |e h1 h2 _=>exact⟨_,h1,h2⟩
  split at he
  ·rename_i b g;split at he
   ·rename_i e0 sz g' c0 d hl;split at he
    ·rename_i hh;obtain⟨rfl,rfl⟩:=hh;simp at he;subst he;obtain⟨kk,kv,m,e1,e2,e3,e4,e5⟩:=BX hc;obtain⟨JW,_⟩:=Hc Jf e1;generalize hv:a.eval x=v at r1 ex;cases r1 with
     |own hK QJ _=>
      obtain⟨_,_,N,q1,q2,_,_⟩:=h.eh b _ (C5 hl h.gs);obtain⟨xs,CN,AG,h0,Bo⟩:=q1;rw [CN]at e3;simp only [AV.len,AV.int.injEq,true_and]at e3;rcases Bo with⟨rfl,_⟩|⟨g9,cap,C,hH,_⟩
      ·simp at e3;omega
      ·refine AB.pure h (v:= .pointer (some ⟨g9,kv.toNat*P.cellsOf el+0,none⟩)) ?_ (.c7 hK hH e1 e2 (by omega) .nil) rfl;rw [QJ]at hH;cases hH;rw [ex,JW,Wk hu hz e2 (by omega)];simp
    ·cases he
   ·rename_i g' c0 hl;split at he
    ·rename_i hh;subst hh;simp at he;subst he;obtain⟨kk,kv,m,e1,e2,e3,e4,e5⟩:=BX hc;obtain⟨JW,_⟩:=Hc Jf e1;generalize hv:a.eval x=v at r1 ex;cases r1 with
     |own hK QJ _=>
      obtain⟨_,⟨f,q1,q2⟩,_,_⟩:=h.eh b _ (C5 hl h.gs);rcases Tc q1 e3 with⟨_,_,_,hm⟩|⟨b9,off9,len9,cap9,hH,hm⟩
      ·omega
      ·rw [QJ]at hH;cases hH;rw [QJ]at q1;refine AB.pure h (v:= .pointer (some ⟨b9,off9+kv.toNat*P.cellsOf el+0,none⟩)) ?_ (.du q1 q2 e1 e2 (by omega) e5 .nil) rfl;rw [ex,JW,Wk hu hz e2 (by omega)];simp
    ·cases he
   ·rename_i e0 sz dl g' ep c0 hl;split at he
    ·rename_i hh;obtain⟨rfl,rfl⟩:=hh;simp at he;subst he;obtain⟨kk,kv,m,e1,e2,e3,e4,e5⟩:=BX hc;obtain⟨JW,_⟩:=Hc Jf e1;generalize hv:a.eval x=v at r1 ex;cases r1 with
     |own hK QJ _=>
      obtain⟨_,_,_,q1,_⟩:=h.eh b _ (C5 hl h.gs);obtain⟨_,_,⟨a9,d3,d4,_⟩|⟨g9,cap,C,ys,N1,hH,d4,_⟩⟩:=q1.inv
      ·rw [d4]at e3;simp [AV.len]at e3;omega
      ·rw [d4]at e3;simp only [AV.len,AV.int.injEq,true_and]at e3;refine AB.pure h (v:= .pointer (some ⟨g9,kv.toNat*P.cellsOf el+0,none⟩)) ?_ (.c7 hK hH e1 e2 (by omega) .nil) rfl;rw [QJ]at hH;cases hH;rw [ex,JW,Wk hu hz e2 (by omega)];simp
    ·cases he
   ·cases he
  ·rename_i y;simp at he;subst he;obtain⟨kk,kv,m,e1,e2,e3,e4,e5⟩:=BX hc;obtain⟨JW,_⟩:=Hc Jf e1;generalize hv:a.eval x=v at r1 ex;cases r1 with
   |e q1 q2 _=>
    rcases Tc q1 e3 with⟨_,_,_,hm⟩|⟨b9,off9,len9,cap9,rfl,hm⟩
    ·omega
    ·refine AB.pure h (v:= .pointer (some ⟨b9,off9+kv.toNat*P.cellsOf el+0,none⟩)) ?_ (.du q1 q2 e1 e2 (by omega) e5 .nil) rfl;rw [ex,JW,Wk hu hz e2 (by omega)];simp
  ·rename_i b g m pth y;split at he
   ·rename_i iM;simp at he;subst he;have hE:=To h.eh h.gs iM;obtain⟨kk,kv,mm,e1,e2,e3,e4,e5⟩:=BX hc;obtain⟨JW,_⟩:=Hc Jf e1;generalize hv:a.eval x=v at r1 ex;cases r1 with
    |via q1 q2 q3 _=>
     obtain⟨⟨f,p1,p2⟩,p3⟩:=q3 hE;rcases Tc p1 e3 with⟨_,_,_,hm⟩|⟨b9,off9,len9,cap9,rfl,hm⟩
     ·omega
     ·refine AB.pure h (v:= .pointer (some ⟨b9,off9+kv.toNat*P.cellsOf el+0,none⟩)) ?_ (.vptr q1 q2 (fun _=>⟨b9,off9,len9,cap9,kk,kv,⟨f,p1,p2⟩,p3,e1,e2,by omega,e5,rfl⟩) .nil) rfl;rw [ex,JW,Wk hu hz e2 (by omega)];simp
   ·cases he
  ·cases he
 ·rename_i k hu;have Uz:=gQ hu;obtain⟨fk,Jf,_⟩: ∃f,Rd c.w [a.eval i] [k.den c.ρ] f∧ ∀b∈f,c.ok b:=by
   generalize a.eval i=v at r2;cases r2 with
   |e h1 h2 _=>exact⟨_,h1,h2⟩
  split at he
  ·rename_i y;simp at he;subst he;obtain⟨kk,kv,s,e1,e2,e3,e4⟩:=BX hc;obtain⟨JW,_⟩:=Hc Jf e1;generalize hv:a.eval x=v at r1;cases r1 with
   |e q1 q2 _=>
    obtain⟨bs,rfl,rfl,hle⟩:=TH q1 e2;have Am:kv.toNat<bs.data.toList.length:=by omega
    have gC:kv.toNat<bs.size:=by simpa using Am
    refine AB.pure h (v:= .int .u8 (bs[kv.toNat]).toNat) ?_ (.dd ?_) rfl
    ·simp [execOp,Uz,Instr.index,hv,JW,asIntOf,run_underlying hu,e3,gC]
    ·simp only [E.den,e1,e2,AV.sidx];have:bs.data.toList[kv.toNat]?=some (bs[kv.toNat]):=by
      rw [List.getElem?_eq_getElem Am];simp [ByteArray.getElem_eq_getElem_data]
     rw [this];refine .int ?_ .nil;rw [Qi];have:=(bs[kv.toNat]).toNat_lt;simp [IntKind.min,IntKind.max,IntKind.signed,IntKind.bits];omega
  ·cases he
 ·cases he
theorem zuh (h:Bx P c n nx sl hp a sl0 hp0 o gs) {t:TypeId} {x i:Operand} (ho:o.op= .indexAddr t x i) (MY:P.underlying t≠some .string) (he:BJ P sg sl0 hp0 nv nx gs o=some e) (hc: ∀q∈e.ca,Cn.den c.ρ q):AB P o c n nx sl hp gs a e:=by
 simp only [BJ,ho,Aw]at he;obtain⟨s1,BN,s2,A6,he⟩:=he;split at he
 ·cases he
 exact zvh h (.inl ho) BN A6 (fun _=>ho) (fun hh=>absurd hh MY) he hc
theorem zxQ (h:Bx P c n nx sl hp a sl0 hp0 o gs) {t:TypeId} {x i:Operand} (ho:o.op= .index t x i) (MY:P.underlying t=some .string) (he:BJ P sg sl0 hp0 nv nx gs o=some e) (hc: ∀q∈e.ca,Cn.den c.ρ q):AB P o c n nx sl hp gs a e:=by
 simp only [BJ,ho,Aw]at he;obtain⟨s1,BN,s2,A6,he⟩:=he;split at he
 ·exact zvh h (.inr ho) BN A6 (fun⟨el,hh⟩=>by rw [MY]at hh;cases hh) (fun _=>ho) he hc
 ·cases he
theorem zx5 (h:Bx P c n nx sl hp a sl0 hp0 o gs) {x:Operand} {i:Nat} (ho:o.op= .extract x i) (he:BJ P sg sl0 hp0 nv nx gs o=some e) (hc: ∀q∈e.ca,Cn.den c.ρ q):AB P o c n nx sl hp gs a e:=by
 have hm:x∈o.op.operands:=by simp [ho,Op.operands]
 simp only [BJ,ho,Aw]at he;obtain⟨s,hs,he⟩:=he;have hr:=h.db hs hm;generalize hv:a.eval x=v at hr;have ex: ∀(as_:List Value) u,v= .tuple as_.toArray→as_[i]?=some u→(execOp a.eval o).run P c.w= .ok (.value u) c.w:=fun as_ u iL hu=>by simp [execOp,ho,Instr.extract,hv,iL,hu]
 split at he
 ·rename_i vs;obtain⟨s2,A6,rfl⟩:=Av.1 he;cases hr with
  |tup r1 r9=>obtain⟨u,hu,r⟩:=r1.get A6;exact AB.pure h (ex _ u rfl hu) r rfl
 ·rename_i y;simp at he;subst he;cases hr with
  |e q1 q2 _=>
   have hd:(y.den c.ρ).proj i≠ .undef:=BX hc;cases hy:y.den c.ρ<;>simp only [hy,AV.proj,ne_eq,not_true_eq_false]at hd;rename_i cs;obtain⟨as_,rfl,r1⟩:=zIB q1 hy;cases T8:cs[i]? with
   |none=>simp [T8]at hd
   |some z=>obtain⟨u,g,hu,hg,DJ⟩:=r1.at T8;exact AB.pure h (ex as_ u rfl hu) (.e (f:=g) (by simpa [E.den,hy,AV.proj,T8]using DJ) (fun b hb=>q2 b (hg b hb)) .nil) rfl
 ·cases he
theorem zFi (h:Bx P c n nx sl hp a sl0 hp0 o gs) {x:Operand} {t:TypeId} (ho:o.op= .unOp .not t x) (he:BJ P sg sl0 hp0 nv nx gs o=some e) (hc: ∀q∈e.ca,Cn.den c.ρ q):AB P o c n nx sl hp gs a e:=by
 have hm:x∈o.op.operands:=by simp [ho,Op.operands]
 simp only [BJ,ho,Aw,Av]at he;obtain⟨s,hs,y,hy,he⟩:=he;obtain⟨f,q1,_⟩:=Ij (h.db hs hm) hy;split at he
 ·subst he;have hv:=IW q1 rfl;rename_i b;exact AB.pure h (v:= .bool (!b)) (by simp [execOp,ho,hv,Op.unary]) (.dd (.bool .nil)) rfl
 ·subst he;have hd:(y.den c.ρ).gl≠ .undef:=BX hc;cases Bz:y.den c.ρ<;>simp only [Bz,AV.gl,ne_eq,not_true_eq_false]at hd;have hv:=IW q1 Bz;rename_i b;exact AB.pure h (v:= .bool (!b)) (by simp [execOp,ho,hv,Op.unary]) (.dd (by simp only [E.den,Bz,AV.gl];exact .bool .nil)) rfl
theorem zFs (h:Bx P c n nx sl hp a sl0 hp0 o gs) {x:Operand} {t:TypeId} (ho:o.op= .unOp .neg t x) (he:BJ P sg sl0 hp0 nv nx gs o=some e) (hc: ∀q∈e.ca,Cn.den c.ρ q):AB P o c n nx sl hp gs a e:=by
 have hm:x∈o.op.operands:=by simp [ho,Op.operands]
 simp only [BJ,ho,Aw,Av]at he;obtain⟨s,hs,y,hy,rfl⟩:=he;obtain⟨f,q1,_⟩:=Ij (h.db hs hm) hy;have hd:(y.den c.ρ).j5≠ .undef:=BX hc;cases Bz:y.den c.ρ<;>simp only [Bz,AV.j5,ne_eq,not_true_eq_false]at hd;rename_i k m;obtain⟨hv,_⟩:=Hc q1 Bz;exact AB.pure h (v:= .int k (k.wrap (0-m))) (by simp [execOp,ho,hv,Op.unary,Op.intArith]) (.dd (by simp only [E.den,Bz,AV.j5];exact .int (rZ _ _) .nil)) rfl
theorem wM {L:List Operand} {sl0:Nat→SV} {gs:Gd} (h: ∀x s,BS sl0 gs x=some s→x∈L→SR c [s] [a.eval x]): ∀{xs:List Operand} {ss:List SV},(∀x∈xs,x∈L)→xs.mapM (BS sl0 gs)=some ss→SR c ss (xs.map a.eval)
 | [],ss,_,hm=>by simp at hm;subst hm;exact .nil
 |x::xs,ss,hL,hm=>by rw [List.mapM_cons]at hm;simp only [Option.bind_eq_bind,Aw]at hm;obtain⟨s,hs,ss',GH,hm⟩:=hm;simp at hm;subst hm;exact(h x s hs (hL x (by simp))).app (wM h (fun y hy=>hL y (by simp [hy])) GH)
theorem zwn (h:Bx P c n nx sl hp a sl0 hp0 o gs) {f:FuncId} {fst caps:Array Operand} (ho:o.op= .makeFunc (.func f) fst caps) (he:BJ P sg sl0 hp0 nv nx gs o=some e):AB P o c n nx sl hp gs a e:=by
 simp only [BJ,ho]at he;split at he
 ·rename_i hf;obtain⟨ss,GH,rfl⟩:=Av.1 he;have hf:fst= #[]:=by simpa using hf
  have r:=wM (a:=a) (c:=c) (L:=caps.toList) (fun x s hx hm=>h.db hx (by simp only [ho,Op.operands,Array.mem_append];exact .inr (Array.mem_toList_iff.1 hm))) (fun x hx=>hx) GH;refine AB.pure h (v:= .func (.func f) #[] (caps.toList.map a.eval).toArray) ?_ (.fn (by rw [BA.bc];exact r) .nil) rfl;simp [execOp,ho,Instr.makeFunc,hf];apply Array.ext';simp
 ·cases he
end
section
variable {P:Program} {c:Cx} {n nx:Nat} {sl sl0:Nat→SV} {hp hp0:Nat→Option Aj} {a:Act} {o:Oper} {gs:Gd} {e:A7} {sg:BW} {nv:Nat}
theorem Bx.ln (h:Bx P c n nx sl hp a sl0 hp0 o gs) {x:Operand} {s:SV} (hs:BS sl0 gs x=some s) (hm:x∈o.op.operands) {y:E} (hy:Bw hp0 gs A3 s=some y):
  ∃f,Rd c.w [a.eval x] [y.den c.ρ] f∧ ∀b∈f,c.fh (BV hp0 gs (A3+1) [s]) b:=Io h.eh h.gs A3 hy (h.db hs hm) A3 (Nat.le_refl _)
theorem zEX (h:Bx P c n nx sl hp a sl0 hp0 o gs) {x:Operand} {t:TypeId} {cl:Call} (ho:o.op= .call cl) (AG:cl.callee= .builtin .len) (DA:cl.args.toList= [x]) (EO:cl.argTypes.toList= [t]) (he:BJ P sg sl0 hp0 nv nx gs o=some e) (hc: ∀q∈e.ca,Cn.den c.ρ q):AB P o c n nx sl hp gs a e:=by
 have Az:cl.args= #[x]:=by apply Array.ext';simp [DA]
 have HE:cl.argTypes= #[t]:=by apply Array.ext';simp [EO]
 have hm:x∈o.op.operands:=by simp [ho,Op.operands,Call.operands,AG,Az]
 simp only [BJ,ho,AG,DA,EO,Aw]at he;obtain⟨s,hs,he⟩:=he;unfold x7 at he;have ex:(execOp a.eval o).run P c.w=((Builtin.len_ #[t] o.type #[a.eval x]).run P c.w).andThen fun v w=> .ok (.value v) w:=by simp [execOp,ho,resolve,AG,Az,HE,invoke,builtin]
 split at he
 ·rename_i el hu;obtain⟨y,hy,rfl⟩:=Av.1 he;obtain⟨f,q1,q2⟩:=h.ln hs hm hy;have hd:(y.den c.ρ).len≠ .undef:=BX hc;cases Bz:y.den c.ρ<;>simp only [Bz,AV.len,ne_eq,not_true_eq_false]at hd;rename_i xs;have hl:(y.den c.ρ).len= .int .i64 (xs.length:Int):=by rw [Bz];rfl
  have Cg:E7 .i64 (xs.length:Int):=by
   rw [Qi];rcases q1.kind with hh|hh|hh|hh|hh|hh|hh|hh|hh|hh
   all_goals first
    |(obtain⟨_,_,_,hh,_⟩:=hh;rw [Bz]at hh;cases hh;done)
    |(obtain⟨_,_,hh,_⟩:=hh;rw [Bz]at hh;cases hh;done)
    |skip
   ·obtain⟨_,_,_,hh,_⟩:=hh;rw [Bz]at hh;cases hh;simp [IntKind.min,IntKind.max,IntKind.signed,IntKind.bits]
   ·obtain⟨_,_,_,_,_,_,_,_,_,_,_,_,hh,_,_,_,hle,hlen,_⟩:=hh;rw [Bz]at hh;cases hh;simp [IntKind.min,IntKind.max,IntKind.signed,IntKind.bits];omega
   all_goals first
    |(obtain⟨_,_,_,hh,_⟩:=hh;rw [Bz]at hh;cases hh;done)
    |(obtain⟨_,_,_,_,_,_,_,hh,_⟩:=hh;rw [Bz]at hh;cases hh;done)
    |(obtain⟨_,_,_,_,hh,_⟩:=hh;rw [Bz]at hh;cases hh;done)
    |(obtain⟨_,hh,_⟩:=hh;rw [Bz]at hh;cases hh;done)
  refine AB.pure h (v:= .int .i64 xs.length) ?_ (.dd (by simp only [E.den,Bz,AV.len];exact .int Cg .nil)) rfl;rcases Tc q1 hl with⟨p,q,hv,Er⟩|⟨b,o',k,q,hv,Er⟩
  ·rw [ex,hv,Er];simp [Builtin.len_,run_underlying hu,goInt]
  ·rw [ex,hv,Er];simp [Builtin.len_,run_underlying hu,goInt]
 ·rename_i hu;obtain⟨y,hy,rfl⟩:=Av.1 he;obtain⟨f,q1,q2⟩:=h.ln hs hm hy;have hd:(y.den c.ρ).slen≠ .undef:=BX hc;cases Bz:y.den c.ρ<;>simp only [Bz,AV.slen,ne_eq,not_true_eq_false]at hd;obtain⟨bs,hv,rfl,hle⟩:=TH q1 Bz;refine AB.pure h (v:= .int .i64 bs.size) ?_ (.dd ?_) rfl
  ·rw [ex,hv];simp [Builtin.len_,run_underlying hu,goInt]
  ·simp only [E.den,Bz,AV.slen];have:(bs.data.toList.length:Int)=(bs.size:Int):=by simp
   rw [this];refine .int ?_ .nil;rw [Qi];simp [IntKind.min,IntKind.max,IntKind.signed,IntKind.bits];omega
 ·cases he
theorem zxR (h:Bx P c n nx sl hp a sl0 hp0 o gs) {x:Operand} {src dst:TypeId} {k0 k:IntKind} (ho:o.op= .convert src dst x) (h1:P.underlying src=some (.int k0)) (h2:P.underlying dst=some (.int k)) (he:BJ P sg sl0 hp0 nv nx gs o=some e) (hc: ∀q∈e.ca,Cn.den c.ρ q):AB P o c n nx sl hp gs a e:=by
 have hm:x∈o.op.operands:=by simp [ho,Op.operands]
 simp only [BJ,ho,Aw]at he;obtain⟨s,hs,he⟩:=he;simp only [WR,h1,h2,Av]at he;obtain⟨y,hy,rfl⟩:=he;obtain⟨f,q1,_⟩:=Ij (h.db hs hm) hy;have hd:(y.den c.ρ).conv k≠ .undef:=BX hc;cases Bz:y.den c.ρ<;>simp only [Bz,AV.conv,ne_eq,not_true_eq_false]at hd;rename_i k1 m;obtain⟨hv,_⟩:=Hc q1 Bz;exact AB.pure h (v:= .int k (k.wrap m)) (by simp [execOp,ho,hv,convert,run_underlying h1,run_underlying h2,Conv.intToInt]) (.dd (by simp only [E.den,Bz,AV.conv];exact .int (rZ _ _) .nil)) rfl
theorem zxl (h:Bx P c n nx sl hp a sl0 hp0 o gs) {x:Operand} {src dst:TypeId} (ho:o.op= .convert src dst x) (h1:P.underlying src=some .string) (h2:P.underlying dst=some .string) (he:BJ P sg sl0 hp0 nv nx gs o=some e) (hc: ∀q∈e.ca,Cn.den c.ρ q):AB P o c n nx sl hp gs a e:=by
 have hm:x∈o.op.operands:=by simp [ho,Op.operands]
 simp only [BJ,ho,Aw]at he;obtain⟨s,hs,he⟩:=he;simp only [WR,h1,h2,Av]at he;obtain⟨y,hy,rfl⟩:=he;obtain⟨f,q1,_⟩:=Ij (h.db hs hm) hy;have hd:(y.den c.ρ).slen≠ .undef:=BX hc;cases hl:y.den c.ρ<;>simp only [hl,AV.slen,ne_eq,not_true_eq_false]at hd;obtain⟨bs,hv,hle,gA⟩:=TH q1 hl;exact AB.pure h (v:= .string bs) (by simp [execOp,ho,hv,convert,run_underlying h1,run_underlying h2]) (.dd (by rw [hl,hle];exact Rd.str gA .nil)) rfl
theorem yO {w:World}: ∀{ys:List AV} {s:List UInt8} {cs:List Value} {f:List Nat},Nj ys=some s→Rd w cs (AO ys) f→ ∃ns:List Int,cs=ns.map (Value.int .u8)∧s=ns.map (fun n=>UInt8.ofNat n.toNat)∧ns.length=ys.length
 | [],s,cs,f,h,hr=>by have:AO ([]:List AV)= []:=rfl;rw [this]at hr;cases hr;cases h;exact⟨[],rfl,rfl,rfl⟩
 |y::ys,s,cs,f,h,hr=>by
  unfold Nj at h;split at h
  ·rename_i h0;cases h0
  ·rename_i n xs he;cases he;obtain⟨s',h1,rfl⟩:=Av.1 h;have CZ:Rd w cs (.int .u8 n::AO ys) f:=by simpa [AO,AV.cells]using hr
   cases CZ with
   |int hk Db=>obtain⟨ns,rfl,rfl,hl⟩:=yO h1 Db;exact⟨n::ns,rfl,rfl,by simp [hl]⟩
  ·cases h
theorem zwd (h:Bx P c n nx sl hp a sl0 hp0 o gs) {x:Operand} {src dst el:TypeId} (ho:o.op= .convert src dst x) (h1:P.underlying src=some (.slice el)) (h2:P.underlying dst=some .string) (he:BJ P sg sl0 hp0 nv nx gs o=some e) (hc: ∀q∈e.ca,Cn.den c.ρ q):AB P o c n nx sl hp gs a e:=by
 have hm:x∈o.op.operands:=by simp [ho,Op.operands]
 simp only [BJ,ho,Aw]at he;obtain⟨s,hs,he⟩:=he;simp only [WR,h1,h2]at he;split at he
 ·rename_i hu;obtain⟨y,hy,rfl⟩:=Av.1 he;obtain⟨f,q1,q2⟩:=h.ln hs hm hy;have hd:(y.den c.ρ).text≠ .undef:=BX hc;cases Bz:y.den c.ρ<;>simp only [Bz,AV.text,ne_eq,not_true_eq_false]at hd;rename_i xs;split at hd
  ·rename_i t ht;split at hd
   ·rename_i hle;have Cb:(E.text y).den c.ρ= .str t:=by
     simp only [E.den,Bz,AV.text,ht];rw [if_pos hle]
    have fin: ∀ns:List Int,t=ns.map (fun n=>UInt8.ofNat n.toNat)→ns.length=xs.length→(convert src dst (a.eval x)).run P c.w= .ok (.string (ns.foldl (fun r n=>r.push (UInt8.ofNat n.toNat)) ByteArray.empty)) c.w→AB P o c n nx sl hp gs a {ca:= [.dfd (.text y)],val:= .e (.text y)}:=fun ns e1 e2 e3=>by
     have e4:(ns.foldl (fun r n=>r.push (UInt8.ofNat n.toNat)) ByteArray.empty)=⟨t.toArray⟩:=by
      rw [foldl_push_bytes,e1];simp [ByteArray.empty,ByteArray.emptyWithCapacity]
      try rfl
     rw [e4]at e3;refine AB.pure h (v:= .string ⟨t.toArray⟩) (by simp [execOp,ho,e3]) (.dd ?_) rfl;rw [Cb];have Cd:(ByteArray.mk t.toArray).size≤9223372036854775807:=by simp only [ByteArray.size,List.size_toArray];rw [e1,List.length_map];omega
     have:=Rd.str (w:=c.w) (s:=⟨t.toArray⟩) Cd .nil;simpa using this
    rw [Bz]at q1;rcases q1.kind with hh|hh|hh|hh|hh|hh|hh|hh|hh|hh
    all_goals first
     |(obtain⟨_,_,_,hh,_⟩:=hh;cases hh;done)
     |(obtain⟨_,_,hh,_⟩:=hh;cases hh;done)
     |skip
    ·obtain⟨p,q,hv,hx,_⟩:=hh;cases hx;cases ht;refine fin [] rfl rfl ?_;rw [hv];cases p with
     |none=>rw [run_convert_bytes_nil c.w src el h1 hu _ _ dst h2];rfl
     |some ad=>rw [run_convert_bytes_string c.w src dst el _ 0 q h1 hu h2,run_bytesToString c.w ad 0 q [] (by simp [loadCells,loadCellsFrom])]
    ·obtain⟨b,o',k,q,ys,cs,C,t',fz,sz,f1,hv,hx,_,hb,_,hle',hlen,_,_,Bp,hr⟩:=hh;cases hx;obtain⟨ns,rfl,e1,e2⟩:=yO ht hr.2;refine fin ns e1 e2 ?_;have hl:ns.length=k:=by omega
     have CB: ∀i,i<k→c.w.cell? ⟨b,o'+i,none⟩=some (.int .u8 (ns.getD i 0)):=fun i hi=>by
      have EF:i<ns.length:=by omega
      have:=Bp i (.int .u8 ns[i]) (by simp [EF]);rw [Fe hb,this];simp [EF]
     have:=run_convert_bytes_arg c.w src el h1 hu b o' k q ns hl CB dst h2;rw [hv,this];congr 2;rw [foldl_push_bytes];simp [strOfNums,ByteArray.empty,ByteArray.emptyWithCapacity]
     try rfl
    all_goals first
     |(obtain⟨_,_,_,hh,_⟩:=hh;cases hh;done)
     |(obtain⟨_,_,_,_,_,_,_,hh,_⟩:=hh;cases hh;done)
     |(obtain⟨_,_,_,_,hh,_⟩:=hh;cases hh;done)
     |(obtain⟨_,hh,_⟩:=hh;cases hh;done)
   ·exact absurd rfl hd
  ·exact absurd rfl hd
 ·cases he
theorem zxB {ρ:List AV} {x:E} {b:Bool} {gs:Gd} (h1:x.den ρ= .bool b) (h2:Bm ρ gs):Bm ρ ((x,b)::gs):=by
 intro g hg;rcases Ag.1 hg with rfl|hg
 ·exact h1
 ·exact h2 g hg
theorem zCn (h:Bx P c n nx sl hp a sl0 hp0 o gs) {x y z:Operand} (ho:o.op= .pick x y z) (he:BJ P sg sl0 hp0 nv nx gs o=some e) (hc: ∀q∈e.ca,Cn.den c.ρ q):AB P o c n nx sl hp gs a e:=by
 have Es:x∈o.op.operands:=by simp [ho,Op.operands]
 have DZ:y∈o.op.operands:=by simp [ho,Op.operands]
 have QU:z∈o.op.operands:=by simp [ho,Op.operands]
 simp only [BJ,ho,Aw]at he;obtain⟨s,hs,he⟩:=he;have hr:=h.db hs Es;split at he
 ·rename_i q;have ex: ∀b,a.eval x= .bool b→(execOp a.eval o).run P c.w= .ok (.value (if b then a.eval y else a.eval z)) c.w:=fun b hb=>by
   simp [execOp,ho,hb,asBool]
  obtain⟨f,q1⟩: ∃f,Rd c.w [a.eval x] [q.den c.ρ] f:=by
   generalize a.eval x=v at hr;cases hr with
   |e h1 _ _=>exact⟨_,h1⟩
  unfold xI at he;split at he
  ·obtain⟨s',Bk,rfl⟩:=Av.1 he;exact AB.pure h (v:=a.eval y) (ex true (IW q1 rfl)) (h.db Bk DZ) rfl
  ·obtain⟨s',Bk,rfl⟩:=Av.1 he;exact AB.pure h (v:=a.eval z) (ex false (IW q1 rfl)) (h.db Bk QU) rfl
  ·split at he
   ·rename_i y' z' hy hz;simp at he;subst he;simp only [Aw]at hy hz;obtain⟨sy,hsy,hy⟩:=hy;obtain⟨sz,Cd,hz⟩:=hz;have hd:(q.den c.ρ).gl≠ .undef:=BX hc;cases hq:q.den c.ρ<;>simp only [hq,AV.gl,ne_eq,not_true_eq_false]at hd;rename_i b;cases b with
    |true=>have r:=Z8 (a:=a) hsy (fun t ht=>by subst ht;rw [h.sl t DZ];exact h.rel.de t) (zxB hq h.gs);obtain⟨f',g1,g2⟩:=Ij r hy;exact AB.pure h (v:=a.eval y) (ex true (IW q1 hq)) (.e (f:=f') (by simpa [E.den,hq,AV.cond]using g1) g2 .nil) rfl
    |false=>have r:=Z8 (a:=a) Cd (fun t ht=>by subst ht;rw [h.sl t QU];exact h.rel.de t) (zxB hq h.gs);obtain⟨f',g1,g2⟩:=Ij r hz;exact AB.pure h (v:=a.eval z) (ex false (IW q1 hq)) (.e (f:=f') (by simpa [E.den,hq,AV.cond]using g1) g2 .nil) rfl
   ·cases he
 ·cases he
end
section
variable {P:Program} {c:Cx} {n nx:Nat} {sl sl0:Nat→SV} {hp hp0:Nat→Option Aj} {a:Act} {o:Oper} {gs:Gd} {e:A7} {sg:BW} {nv:Nat}
theorem oY {w:World} {v:Value} {x:AV} {f:List Nat} (h:Rd w [v] [x] f) (h1: ∀cs,x≠ .agg cs) (h2: ∀cs,x≠ .tup cs):v.oneCell'=true:=by
 cases h<;>first
  |rfl
  |exact absurd rfl (h1 _)
  |exact absurd rfl (h2 _)
theorem one_cells {v:Value} (h:v.oneCell'=true):v.cells= #[v]:=by cases v<;>first|rfl|(simp [Value.oneCell']at h)
theorem bJ {t:TypeId} {s:SV} {v:Value} {cs:List SV} {ck:List Cn} (h:SR c [s] [v]) (hc:Tu P t s=some (cs,ck)) (hk: ∀q∈ck,q.den c.ρ):
  SR c cs v.cells.toList∧(∀u∈v.cells.toList,u.oneCell'=true):=by
 unfold Tu at hc;split at hc
 ·split at hc
  ·simp at hc;obtain⟨rfl,rfl⟩:=hc;cases h with
   |agg h1 h2 _=>exact⟨by simpa [Value.cells]using h2,by simpa [Value.cells]using h1⟩
  ·rename_i x;simp at hc;obtain⟨rfl,rfl⟩:=hc;cases h with
   |e h1 h2 _=>
    obtain⟨as_,has,hl⟩:=BX hk;obtain⟨vs,rfl,h3,h4⟩:=Kw h1 has;refine⟨?_,by simpa [Value.cells]using h3⟩;have hlen:=h4.len;have key: ∀k,k≤as_.length→SR c ((List.range k).map fun j=>SV.e (.fld x j 1 false)) (vs.take k):=by
     intro k
     induction k with
     |zero=>intro _;simpa using SR.nil
     |succ k ih=>
      intro hk;have B0:k<as_.length:=by omega
      obtain⟨u,g,hu,hg,hr⟩:=h4.at (show as_[k]?=some as_[k] by simp [B0])
      rw [List.range_succ,List.map_append,List.take_succ_eq_append_getElem (by omega)];refine(ih (by omega)).app ?_;have F0:vs[k]'(by omega)=u:=by simpa [show k<vs.length by omega]using hu
      rw [F0];exact .e (f:=g) (by simpa [E.den,AV.fld,has,AV.cells,B0]using hr) (fun b hb=>h2 b (hg b hb)) .nil
    have:=key as_.length (Nat.le_refl _);rw [←hlen,List.take_length,hlen,hl]at this;simpa [Value.cells]using this
  ·cases hc
 ·split at hc
  ·rename_i x;simp at hc;obtain⟨rfl,rfl⟩:=hc;cases h with
   |e h1 h2 _=>
    have hq:(∀cs,x.den c.ρ≠ .agg cs)∧ ∀cs,x.den c.ρ≠ .tup cs:=by
     cases x<;>first
      |exact(BX hk:Cn.den c.ρ (.cells _ 1))
      |exact⟨by simp [E.den],by simp [E.den]⟩
    have Jd:=oY h1 hq.1 hq.2;rw [one_cells Jd];exact⟨.e h1 h2 .nil,by simpa using Jd⟩
  ·cases hc
  ·cases hc
  ·cases hc
  ·cases hc
  ·cases hc
  ·cases hc
  ·cases hc
  ·cases hc
  ·simp at hc;obtain⟨rfl,rfl⟩:=hc;have Jd:v.oneCell'=true:=by
    cases h<;>first|rfl|(rename_i hh _ _ _ _ _;exact absurd rfl (hh _))|skip
    all_goals first
     |rfl
     |exact(show∀(i:Nat),SV.lent _=SV.lent i→False from by assumption) _ rfl|>.elim
     |exact(show∀(t g n:Nat) (p:Ou) (x:E),SV.via _ _ _ _ _=SV.via t g n p x→False from by assumption) _ _ _ _ _ rfl|>.elim
     |exact(show∀(t g n:Nat) (p:Ou) (x i:E) (sz o:Nat),SV.vptr _ _ _ _ _ _ _ _=SV.vptr t g n p x i sz o→False from by assumption) _ _ _ _ _ _ _ _ rfl|>.elim
     |(exfalso;simp_all;done)
   rw [one_cells Jd];exact⟨h,by simpa using Jd⟩
theorem zIF (h:Bx P c n nx sl hp a sl0 hp0 o gs) (ob:Obj) (hv:Value):Ns c (c.new nx ob hv []) nx:=
 ⟨rfl,rfl,rfl,rfl,fun t ht=>ht.imp id (fun hh=>by subst hh;exact⟨Nat.le_refl _,by simp [BM]⟩)⟩
theorem Qg (h:Bx P c n nx sl hp a sl0 hp0 o gs): ¬c.U nx:=h.new nx (Nat.le_refl _) (by omega)
theorem AB.box (h:Bx P c n nx sl hp a sl0 hp0 o gs) {ty:TypeId} {g:Bool} {cs:List SV} {v:Value} {ck:List Cn} (hr:(execOp a.eval o).run P c.w= .ok (.value (.pointer (some ⟨c.w.heap.size,0,none⟩))) (c.w.alloc (.cells v.cells ty)))
  (hs:SR c cs v.cells.toList) (h1: ∀u∈v.cells.toList,u.oneCell'=true):AB P o c n nx sl hp gs a {ca:=ck,val:= .cu nx 0,bt:= [(nx,CU gs (.box ty g cs))]}:=by
 intro next Q hk
 unfold Oper.wp;rw [hr,Oper.upon_value];have hU:=Qg h;have keep:DU c (c.new nx (.cells v.cells ty) (.pointer (some ⟨c.w.heap.size,0,none⟩)) []):=Cx.je (fun g hg=>hU (h.rel.ch _ _ hg));have hH:(c.new nx (.cells v.cells ty) (.pointer (some ⟨c.w.heap.size,0,none⟩)) []).H nx 0= .pointer (some ⟨c.w.heap.size,0,none⟩):=by simp [Cx.new]
 have hK:(c.new nx (.cells v.cells ty) (.pointer (some ⟨c.w.heap.size,0,none⟩)) []).K nx 0:= .inr ⟨rfl,rfl⟩;have As:=h.rel.new hU (.cells v.cells ty) (.pointer (some ⟨c.w.heap.size,0,none⟩)) (.box ty g cs) gs h.gs (by intros;simp)
  ⟨c.w.heap.size,v.cells,hK,hH,by simp [Cx.new],by simp [Cx.new],heap_alloc_new _ _,h1,hs.keep keep⟩
 exact hk _ _ (zIF h _ _) (As.put ((SR.cu hK hH .nil).mkGd gs h.gs) o.dst)
theorem zBf (h:Bx P c n nx sl hp a sl0 hp0 o gs) {t:TypeId} (ho:o.op= .alloc t) (he:BJ P sg sl0 hp0 nv nx gs o=some e) (hc: ∀q∈e.ca,Cn.den c.ρ q):AB P o c n nx sl hp gs a e:=by
 simp only [BJ,ho,Aw]at he;obtain⟨z,⟨i,hi,hz⟩,s,hs,⟨cs,ck⟩,Bp,he⟩:=he;split at he
 ·cases he
 ·split at he
  ·cases he
  ·rename_i JN;have JN:ck= []:=by simpa using JN
   simp at he;subst he;have Bk:Fh z=some s:=by simpa [zC,hi,hz]using hs
   obtain⟨q1,q2⟩:=bJ (bQ (c:=c) Bk) Bp (by simp [JN]);refine AB.box h (v:=z) ?_ q1 q2;simp [execOp,ho,Instr.alloc,zeroValue,typeInfo,hi,hz,newVar,newRow]
theorem zFp (h:Bx P c n nx sl hp a sl0 hp0 o gs) {t:TypeId} {x:Operand} (ho:o.op= .box t x) (he:BJ P sg sl0 hp0 nv nx gs o=some e) (hc: ∀q∈e.ca,Cn.den c.ρ q):AB P o c n nx sl hp gs a e:=by
 have hm:x∈o.op.operands:=by simp [ho,Op.operands]
 simp only [BJ,ho,Aw]at he;obtain⟨s,hs,⟨cs,ck⟩,Bp,he⟩:=he;split at he
 ·cases he
 ·simp at he;subst he;obtain⟨q1,q2⟩:=bJ (h.db hs hm) Bp hc;refine AB.box h (v:=a.eval x) ?_ q1 q2;simp [execOp,ho,Instr.box,newVar,newRow]
end
section
variable {P:Program} {c:Cx} {n nx:Nat} {sl sl0:Nat→SV} {hp hp0:Nat→Option Aj} {a:Act} {o:Oper} {gs:Gd} {e:A7} {sg:BW} {nv:Nat}
def setVs {α:Type} (cs:List α) (o:Nat) (vs:List α):List α:=cs.take o++vs++cs.drop (o+vs.length)
theorem S6 {α:Type} (cs vs:List α) (o:Nat) (h:o+vs.length≤cs.length) (i:Nat):(setVs cs o vs)[i]?=if o≤i∧i<o+vs.length then vs[i-o]? else cs[i]?:=by
 unfold setVs;have ht:(cs.take o).length=o:=by rw [List.length_take];omega
 rw [List.append_assoc];by_cases h1:i<o
 ·rw [if_neg (by omega),List.getElem?_append_left (by omega),List.getElem?_take,if_pos h1]
 ·rw [List.getElem?_append_right (by omega),ht];by_cases h2:i<o+vs.length
  ·rw [if_pos (by omega),List.getElem?_append_left (by omega)]
  ·rw [if_neg (by omega),List.getElem?_append_right (by omega),List.getElem?_drop];congr 1;omega
theorem SZ {α:Type} (cs vs:List α) (o:Nat) (h:o+vs.length≤cs.length):(setVs cs o vs).length=cs.length:=by simp [setVs];omega
theorem SR.setVs {cs vs:List SV} {C V:List Value} {k:Nat} (h:SR c cs C) (hv:SR c vs V):SR c (Q8 cs k vs) (Go.Proofs.YtbmbkgalkfmjdaaGreatDoor.setVs C k V):=by unfold Q8 Go.Proofs.YtbmbkgalkfmjdaaGreatDoor.setVs;have hl:=hv.len;rw [←hl];exact((h.split k).1.app hv).app (h.split _).2
theorem wG (vs:List Value): ∀(k off:Nat) (C:Array Value),off+k+vs.length≤C.size→
  ((vs.zipIdx k).foldl (fun cs (p:Value × Nat)=>cs.setIfInBounds (off+p.2) p.1) C).toList=setVs C.toList (off+k) vs:=by
 induction vs with
 |nil=>intro k off C _;simp [setVs]
 |cons v vs ih=>
  intro k off C h;simp only [Ao]at h;simp only [List.zipIdx_cons,List.foldl_cons];rw [ih (k+1) off _ (by simp;omega)];apply List.ext_getElem?;intro i;rw [S6 _ _ _ (by simp;omega),S6 _ _ _ (by simp;omega)];simp only [Array.toList_setIfInBounds,List.getElem?_set,Ao,Array.length_toList];by_cases h1:i=off+k
  ·subst h1;rw [if_neg (by omega),if_pos rfl,if_pos (by omega),if_pos (by omega)];simp
  ·by_cases h2:off+(k+1)≤i∧i<off+(k+1)+vs.length
   ·rw [if_pos h2,if_pos (by omega),show i-(off+k)=(i-(off+(k+1)))+1 by omega,List.getElem?_cons_succ]
   ·rw [if_neg h2,if_neg (by omega),if_neg (by omega)]
theorem oP {b off:Nat} {t:TypeId}: ∀(vs:List Value) (i:Nat) (w:World) (C:Array Value),w.heap[b]?=some (.cells C t (0,0))→off+i+vs.length≤C.size→(∀v∈vs,v.oneCell'=true)→
  (storeCells ⟨b,off,none⟩ vs i).run P w= .ok () (Dd w b (off+i) vs)
 | [],i,w,C,_,_,_=>by simp [storeCells,Dd]
 |v::vs,i,w,C,hb,hl,h1=>by
  simp only [Ao]at hl;have hi:off+i<C.size:=by omega
  have CB:w.cell? ⟨b,off+i,none⟩=some C[off+i]:=by simp [World.cell?,hb,hi]
  have fE:w.frozen? ⟨b,off+i,none⟩=false:=by simp [World.frozen?,hb]
  have AZ:(store ((⟨b,off,none⟩:Addr).add i) v).run P w= .ok () (w.setCell ⟨b,off+i,none⟩ v):=by rw [Addr.add_lit,run_store P w _ v _ (h1 v (by simp)),CB];simp [fE]
  have h2:=heap_setCell_same w b (off+i) C t v hb;have ih:=oP (off:=off) vs (i+1) (w.setCell ⟨b,off+i,none⟩ v) _ h2 (by simp;omega) (fun x hx=>h1 x (by simp [hx]));simp only [storeCells,Sem.run_bind,AZ,Result.andThen_ok,ih,Dd];rw [Nat.add_assoc]
theorem ZV {w:World} {b off:Nat} {t:TypeId} {vs:List Value} {C:Array Value} (hb:w.heap[b]?=some (.cells C t (0,0))) (hl:off+vs.length≤C.size):
  Mod [b] w (Dd w b off vs)∧(Dd w b off vs).heap[b]?=some (.cells (setVs C.toList off vs).toArray t (0,0))∧(Dd w b off vs).heap.size=w.heap.size:=by
 obtain⟨hm,C',h1,h2,h3,h4⟩:=oH vs w b off C t hb hl;refine⟨hm, ?_, ?_⟩
 ·rw [h1];congr 2;apply Array.ext';apply List.ext_getElem?;intro i;rw [S6 _ _ _ (by simpa using hl)];by_cases hi:off≤i∧i<off+vs.length
  ·rw [if_pos hi];have Am:i-off<vs.length:=by omega
   have:=h3 (i-off) vs[i-off] (by simp [Am]);rw [show off+(i-off)=i by omega]at this;rw [Array.getElem?_toList,this];simp [Am]
  ·rw [if_neg hi,Array.getElem?_toList,Array.getElem?_toList];exact h4 i (by omega)
 ·clear hm h1 h2 h3 h4 hl
  induction vs generalizing w off C with
  |nil=>rfl
  |cons v vs ih=>simp only [Dd];rw [ih (heap_setCell_same w b off C t v hb)];simp [World.setCell]
theorem oX {w:World} {b off:Nat} {t ty:TypeId} {v:Value} {C:Array Value} (hb:w.heap[b]?=some (.cells C ty (0,0))) (ht:DE P t=true) (hs:v.cells.size=P.cellsOf t) (hl:off+v.cells.size≤C.size) (h1: ∀u∈v.cells.toList,u.oneCell'=true):
  (Instr.storeAt t (.pointer (some ⟨b,off,none⟩)) v).run P w= .ok () (Dd w b off v.cells.toList):=by
 have:=oP (P:=P) (off:=off) v.cells.toList 0 w C hb (by simpa using hl) h1;simp only [Nat.add_zero]at this;simp [Instr.storeAt,Instr.sureAddr,storeVar,P3 ht,hs,this]
def Cx.wr (c:Cx) (w':World) (t:Nat):Cx:={c with w:=w',E:=fun u=>if u=t then c.E u+1 else c.E u}
theorem Cx.jy {c:Cx} {w':World} {t b:Nat} (gw:GW c) (CF:b∈(c.G t).top) (hm:Mod [b] c.w w'):DU c (c.wr w' t):=by
 have BE:b∈(c.G t).own:=by simp [GI.own,CF]
 refine⟨rfl,rfl,fun q _ hq=>hq,fun q hq Ax=>hm.block q hq ?_,fun u g hu=>⟨hu,rfl⟩,fun u g hu=> ?_⟩
 ·simp only [List.mem_singleton];rintro rfl;exact Ax.1 ⟨t,CF⟩
 ·by_cases G4:u=t
  ·have e1:(c.wr w' t).E u=c.E u+1:=by simp only [Cx.wr,if_pos G4]
   exact⟨by omega,fun h=>by omega⟩
  ·have e1:(c.wr w' t).E u=c.E u:=by simp only [Cx.wr,if_neg G4]
   rw [e1];refine⟨Nat.le_refl _,fun _=>⟨rfl,fun q hq EG=>hm.block q EG ?_⟩⟩;simp only [List.mem_singleton];rintro rfl;exact gw.cz t u (Ne.symm G4) q BE (by simp [GI.own,hq])
theorem Rel.write (h:Rel c n sl hp a) {t:Nat} {e0:Aj} {b:Nat} {w':World} (AR:CA c.ρ (hp t) e0) (CF:b∈(c.G t).top) (hm:Mod [b] c.w w') (Cd:w'.heap.size=c.w.heap.size) (e1:Aj) (A2: ∀hs f,e1≠ .gd hs f)
  (he:Dm (c.wr w' t) t e1):Rel (c.wr w' t) n sl (Bb hp [(t,e1)]) a∧DU c (c.wr w' t):=by
 have BE:b∈(c.G t).own:=by simp [GI.own,CF]
 have BY:DU c (c.wr w' t):=Cx.jy h.gw CF hm;have D0: ∀u,Bb hp [(t,e1)] u=if u=t then some e1 else hp u:=fun u=>rfl;refine⟨h.change (fun u=>u=t) BY ⟨hm.os.trans h.base.os,hm.tape.trans h.base.tape,hm.output.trans h.base.output,Nat.le_trans h.base.size hm.size,h.base.pins,fun q hq IC=> ?_,h.base.pk,h.base.lo⟩
  (fun u hu=>⟨by rw [D0,if_neg hu],rfl,by simp [Cx.wr,hu],fun g hg=>hg⟩) (fun u hu q hq=>hm.block q (h.gw.inb u q (by simp [GI.own,hq])) ?_) (fun u hu=> ?_) ⟨h.gw.nodup,h.gw.cz,h.gw.allow,fun u q hq=> ?_⟩ h.ch (fun u f hf=> ?_),BY⟩
 ·refine(hm.block q (Nat.lt_of_lt_of_le hq h.base.size) ?_).trans (h.base.block q hq IC);simp only [List.mem_singleton];rintro rfl;rcases h.gw.allow t q BE with hh|hh
  ·exact absurd hh (Nat.not_le.2 hq)
  ·exact IC hh
 ·simp only [List.mem_singleton];rintro rfl;exact h.gw.cz t u (Ne.symm hu) q BE (by simp [GI.own,hq])
 ·subst hu;rw [D0,if_pos rfl];refine⟨fun e' hr=> ?_,fun hn=> ?_⟩
  ·cases e1<;>first
    |(simp only [CA]at hr;subst hr;exact he)
    |exact absurd rfl (A2 _ _)
  ·cases e1<;>first
    |exact absurd rfl (A2 _ _)
    |exact absurd rfl (hn _)
 ·show q<w'.heap.size;rw [Cd];exact h.gw.inb u q hq
 ·rw [D0]at hf;split at hf
  ·rename_i hu;subst hu;cases hh:hp u with
   |none=>rw [hh]at AR;exact AR.elim
   |some e9=>exact h.c6 u e9 hh
  ·exact h.c6 u f hf
end
section
variable {P:Program} {c:Cx} {n nx:Nat} {sl sl0:Nat→SV} {hp hp0:Nat→Option Aj} {a:Act} {o:Oper} {gs:Gd} {e:A7} {sg:BW} {nv:Nat}
theorem zwr (h:Bx P c n nx sl hp a sl0 hp0 o gs) {t:TypeId} {x y:Operand} (ho:o.op= .store t x y) {b k:Nat} {s:SV} (hx:BS sl0 gs x=some (.cu b k)) (hy:BS sl0 gs y=some s)
  (he:NZ P hp0 gs t (.cu b k) s=some e) (hc: ∀q∈e.ca,Cn.den c.ρ q):AB P o c n nx sl hp gs a e:=by
 have r1:=h.db hx (by simp [ho,Op.operands]);have r2:=h.db hy (by simp [ho,Op.operands]);simp only [NZ]at he;split at he
 ·rename_i ty g cs vs ck hl Bp;split at he
  ·rename_i hh;obtain⟨Bt,hlen,hle,rfl⟩:=hh;simp at he;subst he;obtain⟨q1,q2⟩:=bJ r2 Bp hc;generalize hv:a.eval x=v at r1;cases r1 with
   |cu h1 h2 h3=>
    rename_i q;have FH:=C5 hl h.gs;obtain⟨q',C,e1,e2,e3,e4,e5,e5',e6⟩:=h.eh b _ FH;rw [h2]at e2;cases e2;have AR:CA c.ρ (hp b) (.box ty g cs):=by
     cases hh:hp0 b with
     |none=>rw [hh]at FH;exact FH.elim
     |some e9=>rw [h.hp b e9 hh];rwa [hh]at FH
    have OU:=e6.len;have fZ:=q1.len;obtain⟨m1,m2,m3⟩:=ZV (vs:=(a.eval y).cells.toList) e5 (show k+_≤C.size by simp at OU fZ ⊢;omega);obtain⟨As,BY⟩:=h.rel.write AR (by rw [e3];simp) m1 m3 (.box ty g (Q8 cs k vs)) (by intros;simp) (w':=Dd c.w q k (a.eval y).cells.toList) (by
     have B0:DU c (c.wr (Dd c.w q k (a.eval y).cells.toList) b):=Cx.jy h.rel.gw (by rw [e3];simp) m1;refine⟨q,_,e1,h2,e3,e4,m2, ?_, ?_⟩
     ·intro u hu;simp only [List.toList_toArray]at hu;unfold setVs at hu;simp only [Ai]at hu;rcases hu with(hu|hu)|hu
      ·exact e5' u (List.mem_of_mem_take hu)
      ·exact q2 u hu
      ·exact e5' u (List.mem_of_mem_drop hu)
     ·simpa using(e6.setVs q1 (k:=k)).keep B0)
    intro next Q hk
    unfold Oper.wp;have hr:(execOp a.eval o).run P c.w= .ok .skip (Dd c.w q k (a.eval y).cells.toList):=by have:=oX (P:=P) (t:=t) (v:=a.eval y) (off:=k) e5 Bt (by simp at fZ;omega) (by simp at OU fZ;omega) q2;simp [execOp,ho,hv,this]
    rw [hr,Oper.upon_skip];exact hk _ (c.wr (Dd c.w q k (a.eval y).cells.toList) b) ⟨rfl,rfl,rfl,rfl,fun t ht=> .inl ht⟩ (As.put ((SR.undef .nil).mkGd []) o.dst)
  ·cases he
 ·cases he
theorem zzL {places:List (Nat × Nat)} {tys:List TypeId}: ∀(ps:List (Nat × SV)) (vs:List (Nat × Value)) (cs:List SV) (C:Array Value) (r:List SV × List Cn),U1 P places tys ps cs=some r→(∀q∈r.2,q.den c.ρ)→
  ps.map (·.1)=vs.map (·.1)→SR c (ps.map (·.2)) (vs.map (·.2))→SR c cs C.toList→(∀u∈C.toList,u.oneCell'=true)→
  ∃C',Instr.fill (places.toArray[·]?) C vs=some C'∧SR c r.1 C'.toList∧ ∀u∈C'.toList,u.oneCell'=true
 | [],vs,cs,C,r,h,hk,he,_,hC,h1=>by
  have:vs= []:=by simpa using he.symm
  subst this;simp [U1]at h;subst h;exact⟨C,rfl,hC,h1⟩
 |(i,s)::ps, [],cs,C,r,h,hk,he,_,hC,h1=>by simp at he
 |(i,s)::ps,(j,v)::vs,cs,C,r,h,hk,he,hs,hC,h1=>by
  simp only [List.map_cons,List.cons.injEq]at he;obtain⟨rfl,he⟩:=he;simp only [List.map_cons]at hs;obtain⟨BN,A6⟩:=hs.cr;unfold U1 at h;split at h
  ·rename_i off sz t O7 Bt;split at h
   ·rename_i us ck Bp;split at h
    ·rename_i hh;obtain⟨Cd,hle⟩:=hh;obtain⟨r',CZ,rfl⟩:=Av.1 h;obtain⟨q1,q2⟩:=bJ BN Bp (fun q hq=>hk q (by simp [hq]));have LG:=q1.len;have OT:=hC.len;have MM:(v.cells.zipIdx.foldl (fun cs (p:Value × Nat)=>cs.setIfInBounds (off+p.2) p.1) C).toList=setVs C.toList off v.cells.toList:=by
      have:=wG v.cells.toList 0 off C (by simp at LG OT ⊢;omega);rw [←Array.foldl_toList,Array.toList_zipIdx];simpa using this
     obtain⟨C',g1,g2,g3⟩:=zzL ps vs (Q8 cs off us) (v.cells.zipIdx.foldl (fun cs (p:Value × Nat)=>cs.setIfInBounds (off+p.2) p.1) C) r' CZ (fun q hq=>hk q (by simp [hq])) he A6 (by rw [MM];exact hC.setVs q1) (by
      rw [MM];intro u hu;unfold setVs at hu;simp only [Ai]at hu;rcases hu with(hu|hu)|hu
      ·exact h1 u (List.mem_of_mem_take hu)
      ·exact q2 u hu
      ·exact h1 u (List.mem_of_mem_drop hu))
     refine⟨C', ?_,g2,g3⟩;unfold Instr.fill;have gV:places.toArray[i]?=some (off,sz):=by simpa using O7
     simp only [gV];rw [if_neg (by simp at LG OT ⊢;omega)];exact g1
    ·cases h
   ·cases h
  ·cases h
theorem bI {sl0:Nat→SV} {gs:Gd} (L:List Operand) (h: ∀x s,BS sl0 gs x=some s→x∈L→SR c [s] [a.eval x]): ∀{xs:List (Nat × Operand)} {ss:List (Nat × SV)},(∀x∈xs,x.2∈L)→xs.mapM (fun(p:Nat × Operand)=>(BS sl0 gs p.2).map fun s=>(p.1,s))=some ss→
  ss.map (·.1)=xs.map (·.1)∧SR c (ss.map (·.2)) (xs.map fun p=>a.eval p.2)
 | [],ss,_,hm=>by simp at hm;subst hm;exact⟨rfl, .nil⟩
 |x::xs,ss,hL,hm=>by rw [List.mapM_cons]at hm;simp only [Option.bind_eq_bind,Aw,Av]at hm;obtain⟨_,⟨s,hs,rfl⟩,ss',GH,hm⟩:=hm;simp at hm;subst hm;obtain⟨e1,e2⟩:=bI L h (fun y hy=>hL y (by simp [hy])) GH;exact⟨by simp [e1],(h _ s hs (hL x (by simp))).app e2⟩
theorem zA0 (h:Bx P c n nx sl hp a sl0 hp0 o gs) {t:TypeId} {parts:Array (Nat × Operand)} (ho:o.op= .build t parts) (he:BJ P sg sl0 hp0 nv nx gs o=some e) (hc: ∀q∈e.ca,Cn.den c.ρ q):AB P o c n nx sl hp gs a e:=by
 simp only [BJ,ho,Aw]at he;obtain⟨ps,M0,he⟩:=he;obtain⟨e1,e2⟩:=bI (c:=c) (a:=a) (parts.toList.map (·.2)) (fun x s hx hm=>h.db hx (by simpa [ho,Op.operands]using hm)) (fun x hx=>List.mem_map.2 ⟨x,hx,rfl⟩) M0;unfold vZ at he;split at he
 ·rename_i it fs hit hu;split at he
  ·rename_i zs places hz O7;obtain⟨r,hr,rfl⟩:=Av.1 he;obtain⟨z,XZ,UQ⟩:=Aw.1 hz;have vA:=bQ (c:=c) UQ;obtain⟨cells,g1,g2,g3⟩:=zzL (c:=c) (P:=P) ps (parts.toList.map fun p=>(p.1,a.eval p.2)) zs.toList z.cells r hr hc (by rw [e1];simp) (by rw [List.map_map];exact e2)
    (by cases vA with|agg h1 h2 _=>simpa [Value.cells]using h2) (by cases vA with|agg h1 h2 _=>simpa [Value.cells]using h1)
   have hb:P.built t (parts.map fun(x:Nat × Operand)=>(x.1,a.eval x.2)).toList=some cells:=by simp only [Program.built,hit,hu,XZ,O7];simpa using g1
   have:=SR.agg (c:=c) (cs:=BA.of r.1) (as_:=cells.toList) g3 (by rw [BA.bc];exact g2) .nil;refine AB.pure h (v:= .agg cells) ?_ (by simpa using this) rfl;have AU:=run_build c.w t _ cells hb;simp only [execOp,ho,Sem.run_bind];rw [AU];rfl
  ·cases he
 ·cases he
end
section
variable {P:Program} {c:Cx} {n nx:Nat} {sl sl0:Nat→SV} {hp hp0:Nat→Option Aj} {a:Act} {o:Oper} {gs:Gd} {e:A7} {sg:BW} {nv:Nat}
def Cx.cc (c:Cx) (ts:List Nat):Cx:={c with G:=fun u=>if u∈ts then⟨[], []⟩else c.G u,E:=fun u=>if u∈ts then c.E u+1 else c.E u}
theorem Cx.kf {c:Cx} {ts:List Nat} {b:Nat} (h:(c.cc ts).M b): ∃u,u∉ts∧b∈(c.G u).top:=by
 obtain⟨u,hu⟩:=h;simp only [Cx.cc]at hu;split at hu
 ·simp at hu
 ·exact⟨u,by assumption,hu⟩
theorem Cx.gh {c:Cx} {ts:List Nat} {b:Nat} (h:c.ok b):(c.cc ts).ok b:=⟨fun hm=>by obtain⟨u,_,hu⟩:=Cx.kf hm;exact h.1 ⟨u,hu⟩,h.2⟩
theorem Cx.kx (c:Cx) (ts:List Nat):DU c (c.cc ts):=⟨rfl,rfl,fun _ _ h=>Cx.gh h,fun _ _ _=>rfl,fun _ _ h=>⟨h,rfl⟩,fun t g _=>by
 by_cases ht:t∈ts
 ·have e1:(c.cc ts).E t=c.E t+1:=by simp only [Cx.cc,if_pos ht]
  exact⟨by omega,fun h=>by omega⟩
 ·have e1:(c.cc ts).E t=c.E t:=by simp only [Cx.cc,if_neg ht]
  have e2:(c.cc ts).G t=c.G t:=by simp only [Cx.cc,if_neg ht]
  rw [e1];exact⟨Nat.le_refl _,fun _=>⟨e2,fun _ _ _=>rfl⟩⟩⟩
theorem wK {c:Cx} (gw:GW c) {ts us:List Nat} (hs: ∀t∈us,t∈ts) {b:Nat} (h:c.fh us b):(c.cc ts).ok b:=by
 rcases h with h|⟨t,ht,hb⟩
 ·exact Cx.gh h
 ·have BE:b∈(c.G t).own:=by simp [GI.own,hb]
  refine⟨fun hm=> ?_, .inr (gw.allow t b BE)⟩;obtain⟨u,hu,IA⟩:=Cx.kf hm;have:t≠u:=fun hh=>hu (hh▸hs t ht);exact gw.cz t u this b BE (by simp [GI.own,IA])
def Mj (e:Aj) (g:Nat) (x:E):Prop:=(∃ety sz d,e= .row ety sz g x d)∨ ∃ety sz l ep,e= .deep ety sz l g ep x
theorem Mj.ne {e:Aj} {g:Nat} {x:E} (h:Mj e g x): ∀hs f,e≠ .gd hs f:=by rcases h with⟨_,_,_,rfl⟩|⟨_,_,_,_,rfl⟩<;>intros<;>simp
theorem Mj.rd {e:Aj} {g t:Nat} {x:E} (h:Mj e g x) (k:Dm c t e):c.K t g∧ ∃f,Rd c.w [c.H t g] [x.den c.ρ] f∧ ∀b∈f,b∈(c.G t).top∨c.ok b:=by
 rcases h with⟨_,_,_,rfl⟩|⟨_,_,_,_,rfl⟩
 ·obtain⟨q1,q2,N,q3,q4,_⟩:=k;obtain⟨f,r1,r2,_⟩:=q3.rd;exact⟨q1,f,r1,fun b hb=>(r2 b hb).imp id (q4 b)⟩
 ·obtain⟨q1,q2,_,q3,_⟩:=k;obtain⟨f,r1,r2⟩:=q3.rd;exact⟨q1,f,r1,fun b hb=> .inl (r2 b hb)⟩
theorem Mj.fun {e:Aj} {g g':Nat} {x x':E} (h:Mj e g x) (k:Mj e g' x'):g=g'∧x=x':=by rcases h with⟨_,_,_,rfl⟩|⟨_,_,_,_,rfl⟩<;>rcases k with⟨_,_,_,hh⟩|⟨_,_,_,_,hh⟩<;>cases hh<;>exact⟨rfl,rfl⟩
theorem PV {gs:Gd} {ρ:List AV} (k:Bm ρ gs): ∀{ts:List Nat} {l:List (Nat × Aj)},DR hp0 gs ts=some l→
  (∀t e,(t,e)∈l→t∈ts∧gs= []∧ ∃g x f,e= .cc g x∧CA ρ (hp0 t) f∧Mj f g x)∧
  (∀t∈ts,(∃g x,(t,Aj.cc g x)∈l)∨(∃g x,CA ρ (hp0 t) (.cc g x))∨ ∃ty g cs,CA ρ (hp0 t) (.box ty g cs))
 | [],l,h=>by simp [DR]at h;subst h;simp
 |t::ts,l,h=>by
  unfold DR at h;split at h
  ·rename_i ety sz g x d l' hl BL;split at h
   ·rename_i hg;simp at h;subst h;obtain⟨h1,h2⟩:=PV k BL;refine⟨fun u e hu=> ?_,fun u hu=> ?_⟩
    ·rcases Ag.1 hu with hu|hu
     ·cases hu;exact⟨by simp,by simpa using hg,g,x,_,rfl,C5 hl k, .inl ⟨_,_,_,rfl⟩⟩
     ·obtain⟨p,q,r⟩:=h1 u e hu;exact⟨by simp [p],q,r⟩
    ·rcases Ag.1 hu with rfl|hu
     ·exact .inl ⟨g,x,by simp⟩
     ·rcases h2 u hu with⟨g',x',hh⟩|hh
      ·exact .inl ⟨g',x',by simp [hh]⟩
      ·exact .inr hh
   ·cases h
  ·rename_i ety sz dl g ep x l' hl BL;split at h
   ·rename_i hg;simp at h;subst h;obtain⟨h1,h2⟩:=PV k BL;refine⟨fun u e hu=> ?_,fun u hu=> ?_⟩
    ·rcases Ag.1 hu with hu|hu
     ·cases hu;exact⟨by simp,by simpa using hg,g,x,_,rfl,C5 hl k, .inr ⟨_,_,_,_,rfl⟩⟩
     ·obtain⟨p,q,r⟩:=h1 u e hu;exact⟨by simp [p],q,r⟩
    ·rcases Ag.1 hu with rfl|hu
     ·exact .inl ⟨g,x,by simp⟩
     ·rcases h2 u hu with⟨g',x',hh⟩|hh
      ·exact .inl ⟨g',x',by simp [hh]⟩
      ·exact .inr hh
   ·cases h
  ·rename_i g x l' hl BL;simp at h;subst h;obtain⟨h1,h2⟩:=PV k BL;refine⟨fun u e hu=> ?_,fun u hu=> ?_⟩
   ·obtain⟨p,q,r⟩:=h1 u e hu;exact⟨by simp [p],q,r⟩
   ·rcases Ag.1 hu with rfl|hu
    ·exact .inr (.inl ⟨g,x,C5 hl k⟩)
    ·exact h2 u hu
  ·rename_i ty g cs l' hl BL;simp at h;subst h;obtain⟨h1,h2⟩:=PV k BL;refine⟨fun u e hu=> ?_,fun u hu=> ?_⟩
   ·obtain⟨p,q,r⟩:=h1 u e hu;exact⟨by simp [p],q,r⟩
   ·rcases Ag.1 hu with rfl|hu
    ·exact .inr (.inr ⟨ty,g,cs,C5 hl k⟩)
    ·exact h2 u hu
  ·cases h
theorem Mi {hp:Nat→Option Aj}: ∀{l:List (Nat × Aj)} {t:Nat},(∀e,(t,e)∉l)→Bb hp l t=hp t
 | [],_,_=>rfl
 |(u,e)::l,t,h=>by
  have ht:t≠u:=by rintro rfl;exact h e (by simp)
  have:=Mi (hp:=fun v=>if v=u then some e else hp v) (l:=l) (t:=t) (fun e' E9=>h e' (by simp [E9]));simp only [Bb,List.foldl_cons]at this ⊢;rw [this,if_neg ht]
theorem sY {hp:Nat→Option Aj}: ∀{l:List (Nat × Aj)} {t:Nat} {e:Aj},(t,e)∈l→(∀e',(t,e')∈l→e'=e)→Bb hp l t=some e
 | [],_,_,h,_=>by simp at h
 |(u,f)::l,t,e,h,hu=>by
  simp only [Bb,List.foldl_cons];by_cases hm: ∃e',(t,e')∈l
  ·obtain⟨e',E9⟩:=hm;have:=hu e' (by simp [E9]);subst this;exact sY (hp:=fun v=>if v=u then some f else hp v) E9 (fun e'' h''=>hu e'' (by simp [h'']))
  ·have hn: ∀e',(t,e')∉l:=fun e' E9=>hm ⟨e',E9⟩;have:=Mi (hp:=fun v=>if v=u then some f else hp v) (l:=l) (t:=t) hn;simp only [Bb]at this;rw [this];rcases Ag.1 h with h|h
   ·cases h;simp
   ·exact absurd h (hn e)
theorem Ms (hs: ∀t e,hp0 t=some e→hp t=some e) {ρ:List AV} {t:Nat} {e:Aj} (h:CA ρ (hp0 t) e):CA ρ (hp t) e:=by
 cases hh:hp0 t with
 |none=>rw [hh]at h;exact h.elim
 |some e9=>rw [hs t e9 hh];rwa [hh]at h
theorem zHv {ρ:List AV} {o:Option Aj} {e f:Aj} (h:CA ρ o e) (k:CA ρ o f):e=f:=by
 cases o with
 |none=>exact h.elim
 |some o=>
  cases o with
  |gd gs x=>exact h.2.symm.trans k.2
  |box=>exact h.symm.trans k
  |row=>exact h.symm.trans k
  |cc=>exact h.symm.trans k
  |dead=>exact h.symm.trans k
  |deep=>exact h.symm.trans k
  |hol=>exact h.symm.trans k
theorem Rel.freeze (h:Rel c n sl hp a) (hs: ∀t e,hp0 t=some e→hp t=some e) (k:Bm c.ρ gs) {ts:List Nat} {l:List (Nat × Aj)} (hf:DR hp0 gs ts=some l):
  Rel (c.cc (l.map (·.1))) n sl (Bb hp l) a:=by
 obtain⟨h1,h2⟩:=PV k hf;have hG: ∀u,(c.cc (l.map (·.1))).G u=if u∈l.map (·.1)then⟨[], []⟩else c.G u:=fun u=>rfl;have J9: ∀t e e',(t,e)∈l→(t,e')∈l→e'=e:=by intro t e e' he E9;obtain⟨_,_,g,x,_,rfl,r,rl⟩:=h1 t e he;obtain⟨_,_,g',x',_,rfl,r',rl'⟩:=h1 t e' E9;have:=zHv r r';subst this;obtain⟨rfl,rfl⟩:=rl.fun rl';rfl
 refine h.change (fun u=>u∈l.map (·.1)) (Cx.kx c _) ⟨h.base.os,h.base.tape,h.base.output,h.base.size,h.base.pins,h.base.block,h.base.pk,h.base.lo⟩ (fun u hu=>⟨Mi (fun e he=>hu (List.mem_map.2 ⟨_,he,rfl⟩)),by rw [hG,if_neg hu],by simp only [Cx.cc,if_neg hu],fun g hg=>hg⟩) (fun u hu b hb=>rfl) (fun u hu=> ?_) ?_ h.ch (fun u e hu=> ?_)
 ·obtain⟨⟨u',e⟩,he,rfl⟩:=List.mem_map.1 hu;have D0:=sY (hp:=hp) he (fun e' E9=>J9 _ _ _ he E9);obtain⟨_,_,g,x,f0,rfl,r,rl⟩:=h1 u' e he;obtain⟨q1,f,r1,r2⟩:=rl.rd (h.ents u' _ (Ms hs r));have LB:((c.cc (l.map (·.1))).G u').top= []∧((c.cc (l.map (·.1))).G u').O= []:=by rw [hG,if_pos hu];simp
  rw [D0];refine⟨fun e' hr=> ?_,fun _=>LB⟩;have:e'= .cc g x:=hr.symm;subst this;exact⟨q1,⟨f,r1,fun b hb=>by
   refine wK h.gw (ts:=l.map (·.1)) (us:= [u']) (by simpa using hu) ?_;rcases r2 b hb with hb|hb
   ·exact .inr ⟨u',by simp,hb⟩
   ·exact .inl hb⟩,LB.1,LB.2⟩
 ·refine⟨fun u=> ?_,fun u v iK b hb=> ?_,fun u b hb=> ?_,fun u b hb=> ?_⟩
  ·rw [hG];split
   ·simp [GI.own]
   ·exact h.gw.nodup u
  ·rw [hG]at hb ⊢;split at hb
   ·simp [GI.own]at hb
   ·split
    ·simp [GI.own]
    ·exact h.gw.cz u v iK b hb
  ·rw [hG]at hb;split at hb
   ·simp [GI.own]at hb
   ·exact h.gw.allow u b hb
  ·rw [hG]at hb;split at hb
   ·simp [GI.own]at hb
   ·exact h.gw.inb u b hb
 ·by_cases hm: ∃e',(u,e')∈l
  ·obtain⟨e',E9⟩:=hm;obtain⟨_,_,g,x,f0,rfl,r,rl⟩:=h1 u e' E9;have r':=Ms hs r;cases hh:hp u with
   |none=>rw [hh]at r';exact r'.elim
   |some e9=>exact h.c6 u e9 hh
  ·rw [Mi (fun e' E9=>hm ⟨e',E9⟩)]at hu;exact h.c6 u e hu
theorem zBG {ts:List Nat} (h:Oi hp0 gs ts=true) {t:Nat} (ht:t∈ts) {ty:Nat} {g:Bool} {cs:List SV}:Dz hp0 gs t≠some (.box ty g cs):=by intro hl;simp only [Oi,Bool.not_eq_true',List.any_eq_false]at h;have:=h t ht;rw [hl]at this;simp at this
theorem zyW {ρ:List AV} (k:Bm ρ gs) {ts:List Nat} {l:List (Nat × Aj)} (hf:DR hp0 gs ts=some l) {t:Nat} (ht:t∈ts):(∃g x,(t,Aj.cc g x)∈l)∨(∃g x,Dz hp0 gs t=some (.cc g x))∨ ∃ty g cs,Dz hp0 gs t=some (.box ty g cs):=by
 induction ts generalizing l with
 |nil=>simp at ht
 |cons u ts ih=>
  unfold DR at hf;split at hf
  ·rename_i ety sz g x d l' hl BL;split at hf
   ·simp at hf;subst hf;rcases Ag.1 ht with rfl|ht
    ·exact .inl ⟨g,x,by simp⟩
    ·rcases ih BL ht with⟨g',x',hh⟩|hh
     ·exact .inl ⟨g',x',by simp [hh]⟩
     ·exact .inr hh
   ·cases hf
  ·rename_i ety sz dl g ep x l' hl BL;split at hf
   ·simp at hf;subst hf;rcases Ag.1 ht with rfl|ht
    ·exact .inl ⟨g,x,by simp⟩
    ·rcases ih BL ht with⟨g',x',hh⟩|hh
     ·exact .inl ⟨g',x',by simp [hh]⟩
     ·exact .inr hh
   ·cases hf
  ·rename_i g x l' hl BL;simp at hf;subst hf;rcases Ag.1 ht with rfl|ht
   ·exact .inr (.inl ⟨g,x,hl⟩)
   ·exact ih BL ht
  ·rename_i ty g cs l' hl BL;simp at hf;subst hf;rcases Ag.1 ht with rfl|ht
   ·exact .inr (.inr ⟨ty,g,cs,hl⟩)
   ·exact ih BL ht
  ·cases hf
theorem Wq (h:Rel c n sl hp a) (eh:EH c hp0) (k:Bm c.ρ gs) {ts:List Nat} {l:List (Nat × Aj)} (hf:DR hp0 gs ts=some l) (hb:Oi hp0 gs ts=true) {b:Nat} (hs:c.fh ts b):(c.cc (l.map (·.1))).ok b:=by
 rcases hs with hs|⟨t,ht,CI⟩
 ·exact Cx.gh hs
 ·rcases zyW k hf ht with⟨g,x,hh⟩|⟨g,x,hh⟩|⟨ty,g,cs,hh⟩
  ·exact wK h.gw (us:= [t]) (by simpa using⟨_,hh⟩) (.inr ⟨t,by simp,CI⟩)
  ·obtain⟨_,_,CF,_⟩:=eh t _ (C5 hh k);rw [CF]at CI;simp at CI
  ·exact absurd hh (zBG hb ht)
theorem zsn (h:Rel c n sl hp a) (hs: ∀t e,hp0 t=some e→hp t=some e) (k:Bm c.ρ gs) {t:TypeId} {s:SV} {v:Value} (hr:SR c [s] [v]) {x:E} {fz:List (Nat × Aj)} {d:Bool} {ck:List Cn} (ht:dK P hp0 gs t s=some (x,fz,d,ck)) (hc: ∀q∈ck,q.den c.ρ):
  ∃f,Rd c.w [v] [x.den c.ρ] f∧(d=true→f= [])∧(∃ts,DR hp0 gs ts=some fz∧ ∀b∈f,(c.cc (fz.map (·.1))).ok b)∧
   (if Aq P t then∃cs,x.den c.ρ= .agg cs∧cs.length=P.cellsOf t else(∀cs,x.den c.ρ≠ .agg cs)∧ ∀cs,x.den c.ρ≠ .tup cs):=by
 have eh:EH c hp0:=fun t e hr=>h.ents t e (Ms hs hr);unfold dK at ht;split at ht
 ·cases ht
 ·rename_i y hy;obtain⟨f,q1,q2⟩:=Io eh k A3 hy hr A3 (Nat.le_refl _);split at ht
  ·simp at ht;obtain⟨rfl,rfl,rfl,rfl⟩:=ht;obtain⟨c1,c2,c3,c4⟩:=BX hc;have hf:f= []:=by
    cases hg:Aq P t with
    |true=>obtain⟨cs,Bp⟩:=c3 hg;obtain⟨as_,rfl,_,r⟩:=Kw q1 Bp;exact Im r (by rw [Bp]at c2;exact c2)
    |false=>exact Im q1 (by simpa using c4 hg)
   subst hf;refine⟨[],q1,fun _=>rfl,⟨[],rfl,by simp⟩, ?_⟩;split
   ·rename_i hg;obtain⟨cs,Bp⟩:=c3 hg;exact⟨cs,Bp,by rw [Bp]at c1;exact c1⟩
   ·rename_i hg;have:=c4 (by simpa using hg);exact⟨fun cs Bp=>by rw [Bp]at this;simp [AV.scalar]at this,fun cs Bp=>by rw [Bp]at this;simp [AV.scalar]at this⟩
  ·split at ht
   ·rename_i JY;split at ht
    ·cases ht
    ·rename_i l hl;simp only [Ah,Prod.mk.injEq]at ht;obtain⟨rfl,rfl,rfl,rfl⟩:=ht;refine⟨f,q1,by simp,⟨_,hl,fun b hb=>Wq h eh k hl JY (q2 b hb)⟩, ?_⟩;have hq:=BX hc;unfold zN at hq;split
     ·rename_i hg;rw [if_pos hg]at hq;obtain⟨cs,Bp,hl⟩:=hq;exact⟨cs,Bp,hl⟩
     ·rename_i hg;rw [if_neg hg]at hq;exact hq
   ·cases ht
end
section
variable {P:Program} {c:Cx} {n nx:Nat} {sl sl0:Nat→SV} {hp hp0:Nat→Option Aj} {a:Act} {o:Oper} {gs:Gd} {e:A7} {sg:BW} {nv:Nat}
theorem tB (w:World) (t ty el:TypeId) (i:TypeInfo) (z:Value) (ht:P.underlying t=some (.slice el)) (hi:P.info? el=some i) (hz:i.zero=some z) (D4:z.cells.size=i.size) (Cd:0<i.size)
  (Own:Nat→Prop) (v:Value) (k:Nat) (old:List Value) (ho:old.length=k*i.size)
  (BF:(k=0∧ ∃q,v= .slice q 0 0)∨ ∃g cap C,v= .slice (some ⟨g,0,none⟩) k cap∧k≤cap∧cap≤maxLen∧w.heap[g]?=some (.cells C el (0,0))∧C.size=cap*i.size∧old=C.toList.take (k*i.size)∧Own g)
  (q:Option Addr) (m r:Nat) (news:List Value) (hs:Src w i.size q m news) (Xp:k+m≤maxLen) (hb:(k+m)*i.bytes≤140737488355328):
  ∃v' w',(Builtin.append_ #[t,t] ty #[v, .slice q m r]).run P w= .ok v' w'∧
   ((v'=v∧w'=w∧m=0)∨ ∃g cap C,v'= .slice (some ⟨g,0,none⟩) (k+m) cap∧k+m≤cap∧cap≤maxLen∧w'.heap[g]?=some (.cells C el (0,0))∧C.size=cap*i.size∧C.toList.take ((k+m)*i.size)=old++news∧
    w.grownBy w' (some g)∧((g=w.heap.size∧g<w'.heap.size)∨Own g)):=by
 have O3:news.length=m*i.size:=by
  rcases hs with⟨rfl,rfl,rfl⟩|⟨ad,rfl,h1,_⟩
  ·simp
  ·exact h1
 have hlen:(old++news).length=(k+m)*i.size:=by rw [Ar,ho,O3,Nat.add_mul]
 have grown: ∀(cp:Nat),cp<k+m→ ∀(X:Array Value),X.toList=old++news→ ∃C,C=X++Builtin.zeroCells z.cells (grownCap w (k+m) cp el-(k+m))∧
   k+m≤grownCap w (k+m) cp el∧grownCap w (k+m) cp el≤maxLen∧C.size=grownCap w (k+m) cp el*i.size∧C.toList.take ((k+m)*i.size)=old++news:=by
  intro cp hcp X hX;have ET:=grownCap_ge w (k+m) cp el;have Lx:=grownCap_le_maxLen w (k+m) cp el Xp;refine⟨_,rfl,ET,Lx, ?_, ?_⟩
  ·have hXs:X.size=(k+m)*i.size:=by rw [←Array.length_toList,hX,hlen]
   rw [Array.size_append,hXs,size_zeroCells,D4,←Nat.add_mul];congr 1;omega
  ·rw [Array.toList_append,hX,←hlen];exact List.take_left
 have newb: ∀C:Array Value,w.grownBy (w.drew.alloc (.cells C el)) (some w.heap.size)∧w.heap.size<(w.drew.alloc (.cells C el)).heap.size∧(w.drew.alloc (.cells C el)).heap[w.heap.size]?=some (.cells C el (0,0)):=
  fun C=>⟨⟨rfl,rfl,rfl,by simp,fun j hj _=>Below.heap_alloc w.drew _ _ hj⟩,by simp,heap_alloc_new w.drew _⟩
 rcases BF with⟨rfl,p,rfl⟩|⟨g,cap,C,rfl,Uu,Lx,hg,Bp,hold,eC⟩
 ·have hold:old= []:=List.eq_nil_of_length_eq_zero (by simpa using ho);subst hold;by_cases hm:m=0
  ·subst hm;have hn:news= []:=List.eq_nil_of_length_eq_zero (by simpa using O3);subst hn;refine⟨_,w, ?_, .inl ⟨rfl,rfl,rfl⟩⟩;rcases hs with⟨rfl,_,_⟩|⟨ad,rfl,_⟩<;>cases p<;>
    simp [Builtin.append_,run_underlying ht,sizeOf,typeInfo,hi,Builtin.lenOf,Builtin.firstCells,loadCells,loadCellsFrom,storeCells]
  ·rcases hs with⟨_,rfl,_⟩|⟨ad,rfl,h1,h2,h3⟩
   ·exact absurd rfl hm
   ·obtain⟨C',QH,g1,g2,g3,g4⟩:=grown 0 (by omega) news.toArray (by simp);cases p with
    |none=>have hr:=run_append_nil (P:=P) w t ty el i z ht hi hz ad m r news h1 h2 (by omega) (by simp only [maxLen]at Xp;omega) (by have hb:=hb;simp only [Nat.zero_add]at hb;omega);simp only [Nat.zero_add]at g1 g2 g3 g4 QH ⊢;obtain⟨n1,n2,n3⟩:=newb C';refine⟨_,_,hr, .inr ⟨_,_,C',rfl,g1,g2, ?_,g3,g4, ?_, .inl ⟨rfl, ?_⟩⟩⟩<;>rw [←QH]<;>first|exact n3|exact n1|exact n2
    |some p=>have hr:=run_append_grow (P:=P) w t ty el i z ht hi hz p 0 0 [] (by simp) (by simp) ad m r news h1 h2 (by omega) (by simp only [maxLen]at Xp;omega) (growslice_fits (by omega) hb);rw [show(([]:List Value).toArray++news.toArray)=news.toArray by simp]at hr;simp only [Nat.zero_add]at g1 g2 g3 g4 QH hr ⊢;obtain⟨n1,n2,n3⟩:=newb C';refine⟨_,_,hr, .inr ⟨_,_,C',rfl,g1,g2, ?_,g3,g4, ?_, .inl ⟨rfl, ?_⟩⟩⟩<;>rw [←QH]<;>first|exact n3|exact n1|exact n2
 ·rcases hs with⟨rfl,rfl,rfl⟩|⟨ad,rfl,h1,h2,h3⟩
  ·refine⟨_,w, ?_, .inl ⟨rfl,rfl,rfl⟩⟩;simp [Builtin.append_,run_underlying ht,sizeOf,typeInfo,hi,Builtin.lenOf,Builtin.firstCells,Uu,storeCells]
  ·by_cases CE:k+m≤cap
   ·have OJ:k*i.size+news.length≤C.size:=by rw [h1,Bp,←Nat.add_mul];exact Nat.mul_le_mul_right _ CE
    have hr:=run_append_room (P:=P) w t ty el i ht hi g k cap C hg ad m r news h1 h2 h3 CE OJ;refine⟨_,_,hr, .inr ⟨g,cap,_,rfl,CE,Lx,setRow_heap w g C _ el _ hg, ?_, ?_,⟨rfl,rfl,rfl,by simp,fun j _ hj=>setRow_other w g j _ (fun hh=>hj (by rw [hh]))⟩, .inr eC⟩⟩
    ·simp only [List.size_toArray,Ar,List.length_take,List.length_drop,Array.length_toList];omega
    ·rw [←hold,←hlen];exact List.take_left
   ·have holds: ∀j u,old[j]?=some u→w.cell? ((⟨g,0,none⟩:Addr).add j)=some u:=fun j u hu=>by
     rw [Addr.add_lit,Nat.zero_add,Fe hg];rw [hold,List.getElem?_take]at hu;split at hu
     ·simpa using hu
     ·cases hu
    have hr:=run_append_grow (P:=P) w t ty el i z ht hi hz ⟨g,0,none⟩ k cap old ho holds ad m r news h1 h2 (by omega) (by simp only [maxLen]at Xp;omega) (growslice_fits (by omega) hb);obtain⟨C',QH,g1,g2,g3,g4⟩:=grown cap (by omega) (old.toArray++news.toArray) (by simp);obtain⟨n1,n2,n3⟩:=newb C';refine⟨_,_,hr, .inr ⟨_,_,C',rfl,g1,g2, ?_,g3,g4, ?_, .inl ⟨rfl, ?_⟩⟩⟩<;>rw [←QH]<;>first|exact n3|exact n1|exact n2
def Cx.bm (c:Cx) (t g':Nat) (w':World) (v:Value) (top O:List Nat):Cx:=
 {c with w:=w',G:=fun u=>if u=t then⟨top,O⟩else c.G u,K:=fun u g=>c.K u g∨(u=t∧g=g'),H:=fun u g=>if u=t∧g=g' then v else c.H u g,U:=fun u=>c.U u∨u=t,E:=fun u=>if u=t then c.E u+1 else c.E u}
theorem Rel.bm (h:Rel c n sl hp a) {t g:Nat} (EZ:c.A.pin t=none∨g≠0) (A1: ¬c.K t g) {w':World} {row:Option Nat} (hg:c.w.grownBy w' row)
  (Fq: ∀g0,row=some g0→g0∈(c.G t).top∨(g0=c.w.heap.size∧g0<w'.heap.size)) {top O:List Nat} (CF:top= []∨ ∃g0,row=some g0∧top= [g0]) (hO:O= []∨O=(c.G t).O) {v:Value} (e1:Aj) (A2: ∀hs f,e1≠ .gd hs f) (k:Bm c.ρ gs)
  (he:DU c (c.bm t g w' v top O)→Dm (c.bm t g w' v top O) t e1):Rel (c.bm t g w' v top O) n sl (Bb hp [(t,CU gs e1)]) a:=by
 have hG: ∀u,(c.bm t g w' v top O).G u=if u=t then⟨top,O⟩else c.G u:=fun u=>rfl;have hM: ∀b,(c.bm t g w' v top O).M b→c.M b∨row=some b:=by
  rintro b ⟨u,hu⟩;rw [hG]at hu;split at hu
  ·rcases CF with rfl|⟨g0,hr,rfl⟩
   ·simp at hu
   ·simp at hu;subst hu;exact .inr hr
  ·exact .inl ⟨u,hu⟩
 have Uh: ∀b,b<c.w.heap.size→c.ok b→row≠some b:=by
  intro b hb Ax hr;rcases Fq b hr with hh|⟨hh,_⟩
  ·exact Ax.1 ⟨t,hh⟩
  ·omega
 have BY:DU c (c.bm t g w' v top O):=by
  refine⟨rfl,rfl,fun b hb Ax=>⟨fun hm=>(hM b hm).elim Ax.1 (Uh b hb Ax),Ax.2⟩,fun b hb Ax=>hg.block b hb (fun hh=>Uh b hb Ax hh.symm),fun u g1 hu=>⟨.inl hu, ?_⟩,fun u g1 hu=> ?_⟩
  ·simp only [Cx.bm];rw [if_neg];rintro⟨rfl,rfl⟩;exact A1 hu
  ·by_cases G4:u=t
   ·have e1:(c.bm t g w' v top O).E u=c.E u+1:=by simp only [Cx.bm,if_pos G4]
    exact⟨by omega,fun h=>by omega⟩
   ·have e1:(c.bm t g w' v top O).E u=c.E u:=by simp only [Cx.bm,if_neg G4]
    have e2:(c.bm t g w' v top O).G u=c.G u:=by simp only [Cx.bm,if_neg G4]
    rw [e1];refine⟨Nat.le_refl _,fun _=>⟨e2,fun b hb Hq=>hg.block b Hq fun hh=> ?_⟩⟩;rcases Fq b hh.symm with h1|⟨h1,_⟩
    ·exact h.gw.cz u t G4 b (by simp [GI.own,hb]) (by simp [GI.own,h1])
    ·omega
 have D0: ∀u,Bb hp [(t,CU gs e1)] u=if u=t then some (CU gs e1)else hp u:=fun u=>rfl;have O1: ∀u,u≠t→ ∀b∈(c.G u).own,row≠some b:=by
  intro u hu b hb hr;rcases Fq b hr with hh|⟨hh,_⟩
  ·exact h.gw.cz u t hu b hb (by simp [GI.own,hh])
  ·have:=h.gw.inb u b hb;omega
 have BU: ∀b∈(⟨top,O⟩:GI).own,row=some b∨b∈(c.G t).own:=by
  intro b hb;simp only [GI.own,Ai]at hb ⊢;rcases hb with hb|hb
  ·rcases CF with rfl|⟨g0,hr,rfl⟩
   ·simp at hb
   ·simp at hb;subst hb;exact .inl hr
  ·rcases hO with rfl|rfl
   ·simp at hb
   ·exact .inr (.inr hb)
 refine h.change (fun u=>u=t) BY ⟨hg.os.trans h.base.os,hg.tape.trans h.base.tape,hg.output.trans h.base.output,Nat.le_trans h.base.size hg.size,fun u v' hp=>⟨.inl (h.base.pins u v' hp).1,fun hk=> ?_⟩,fun b hb IC=> ?_,h.base.pk,h.base.lo⟩
  (fun u hu=>⟨by rw [D0,if_neg hu],by rw [hG,if_neg hu],by simp [Cx.bm,hu],fun g1 hh=>hh.resolve_right (fun hh=>hu hh.1)⟩) (fun u hu b hb=>hg.block b (h.gw.inb u b (by simp [GI.own,hb])) (fun hh=>O1 u hu b (by simp [GI.own,hb]) hh.symm)) (fun u hu=> ?_) ?_ (fun u g1 hh=> ?_) (fun u f hf=> ?_)
 ·have G4: ¬(u=t∧0=g):=by
   rintro⟨rfl,rfl⟩;rcases EZ with hh|hh
   ·have hp':c.A.pin u=some v':=hp;rw [hh]at hp';cases hp'
   ·exact hh rfl
  have B0:=hk.resolve_right G4;simp only [Cx.bm];rw [if_neg G4];exact(h.base.pins u v' hp).2 B0
 ·refine(hg.block b (Nat.lt_of_lt_of_le hb h.base.size) (fun hh=> ?_)).trans (h.base.block b hb IC);rcases Fq b hh.symm with hh|⟨hh,_⟩
  ·rcases h.gw.allow t b (by simp [GI.own,hh])with h1|h1
   ·exact absurd h1 (Nat.not_le.2 hb)
   ·exact IC h1
  ·have:=h.base.size;have h9:b<c.w0.heap.size:=hb;omega
 ·subst hu;rw [D0,if_pos rfl];exact⟨fun e' hr=>by rw [(S9 k A2).1 hr];exact he BY,fun hn=>absurd ((S9 k A2).2 rfl) (hn e1)⟩
 ·have Cl:(⟨top,O⟩:GI).own.Nodup:=by
   have h0:=h.gw.nodup t;simp only [GI.own]at h0 ⊢;rw [List.nodup_append]at h0 ⊢;refine⟨by rcases CF with rfl|⟨g0,hr,rfl⟩<;>simp,by rcases hO with rfl|rfl;simp;exact h0.2.1,fun p hp q hq=> ?_⟩;rcases CF with rfl|⟨g0,hr,rfl⟩
   ·simp at hp
   ·simp at hp;subst hp;rcases hO with rfl|rfl
    ·simp at hq
    ·rcases Fq p hr with hh|⟨hh,_⟩
     ·exact h0.2.2 p hh q hq
     ·have:=h.gw.inb t q (by simp [GI.own,hq]);omega
  refine⟨fun u=> ?_,fun u u' LQ b hb=> ?_,fun u b hb=> ?_,fun u b hb=> ?_⟩
  ·rw [hG];split
   ·exact Cl
   ·exact h.gw.nodup u
  ·rw [hG]at hb ⊢;by_cases h1:u=t
   ·rw [if_pos h1]at hb;rw [if_neg (fun hh=>LQ (h1.trans hh.symm))];rcases BU b hb with hr|hb
    ·exact fun hh=>O1 u' (fun h2=>LQ (h1.trans h2.symm)) b hh hr
    ·exact h.gw.cz t u' (fun hh=>LQ (h1.trans hh)) b hb
   ·rw [if_neg h1]at hb;by_cases h2:u'=t
    ·rw [if_pos h2];intro Ca;rcases BU b Ca with hr|Ca
     ·exact O1 u h1 b hb hr
     ·exact h.gw.cz u t h1 b hb Ca
    ·rw [if_neg h2];exact h.gw.cz u u' LQ b hb
  ·rw [hG]at hb;split at hb
   ·rcases BU b hb with hr|hb
    ·rcases Fq b hr with hh|⟨hh,_⟩
     ·exact h.gw.allow t b (by simp [GI.own,hh])
     ·exact .inl (by rw [hh];exact h.base.size)
    ·exact h.gw.allow t b hb
   ·exact h.gw.allow u b hb
  ·rw [hG]at hb;show b<w'.heap.size;split at hb
   ·rcases BU b hb with hr|hb
    ·rcases Fq b hr with hh|⟨_,hh⟩
     ·exact Nat.lt_of_lt_of_le (h.gw.inb t b (by simp [GI.own,hh])) hg.size
     ·exact hh
    ·exact Nat.lt_of_lt_of_le (h.gw.inb t b hb) hg.size
   ·exact Nat.lt_of_lt_of_le (h.gw.inb u b hb) hg.size
 ·rcases hh with hh|⟨rfl,_⟩
  ·exact .inl (h.ch u g1 hh)
  ·exact .inr rfl
 ·rw [D0]at hf;split at hf
  ·rename_i hu;exact .inr hu
  ·exact .inl (h.c6 u f hf)
theorem yK {w:World} {v:Value} {ys:List AV} {f:List Nat} {sz:Nat} (h:Rd w [v] [.sl ys] f) (hs: ∀y∈ys,y.cells.length=sz):
  ∃q r news N,v= .slice q ys.length r∧Src w sz q ys.length news∧Rd w news (AO ys) N∧(∀b∈N,b∈f)∧news.length=ys.length*sz∧(∀u∈news,u.oneCell'=true):=by
 rcases h.kind with hh|hh|hh|hh|hh|hh|hh|hh|hh|hh
 ·obtain⟨_,_,_,hh,_⟩:=hh;cases hh
 ·obtain⟨_,_,hh,_⟩:=hh;cases hh
 ·obtain⟨_,_,hh,_⟩:=hh;cases hh
 ·obtain⟨p,r,rfl,hh,rfl⟩:=hh;cases hh;refine⟨p,r, [], [],rfl, ?_, .nil,by simp,by simp,by simp⟩;cases p with
  |none=>exact .inl ⟨rfl,rfl,rfl⟩
  |some p=>exact .inr ⟨p,rfl,by simp,by simp,by simp⟩
 ·obtain⟨b,off,m,r,ys',cs,C,t,fz,sz',f1,rfl,hh,rfl,hb,h1,h2,h3,h4,h5,h6,Hn,h7⟩:=hh;cases hh;subst h3;have GH:sz'=sz:=by
   cases ys with
   |nil=>simp at h1
   |cons y ys=>rw [←h4 y (by simp),hs y (by simp)]
  subst GH;have hl:=h7.len;rw [NN ys h4]at hl;exact⟨_,r,cs,f1,rfl, .inr ⟨_,rfl,hl,fun j u hu=>by rw [Addr.add_lit,Fe hb];exact h6 j u hu,Hn⟩,h7,fun q hq=>by simp [hq],hl,Hn⟩
 ·obtain⟨_,_,_,hh,_⟩:=hh;cases hh
 ·obtain⟨_,_,_,hh,_⟩:=hh;cases hh
 ·obtain⟨_,_,_,_,_,_,_,hh,_⟩:=hh;cases hh
 ·obtain⟨_,_,_,_,hh,_⟩:=hh;cases hh
 ·obtain⟨_,hh,_⟩:=hh;cases hh
end
section
variable {P:Program} {c:Cx} {n nx:Nat} {sl sl0:Nat→SV} {hp hp0:Nat→Option Aj} {a:Act} {o:Oper} {gs:Gd} {e:A7} {sg:BW} {nv:Nat}
theorem Qf (hp:Nat→Option Aj) (l m:List (Nat × Aj)):Bb hp (l++m)=Bb (Bb hp l) m:=by simp [Bb,List.foldl_append]
theorem zyB (h:Rel c n sl hp a) (hs: ∀t e,hp0 t=some e→hp t=some e) (k:Bm c.ρ gs) {el:TypeId} {s:SV} {v:Value} (hr:SR c [s] [v]) {y:E} (hy:Bw hp0 gs A3 s=some y) {fz:List (Nat × Aj)} {d:Bool} {ck:Cn} (ht:W8 P hp0 gs el s y=some (fz,d,ck)) (hc:ck.den c.ρ):
  ∃ts ys q r news N,DR hp0 gs ts=some fz∧y.den c.ρ= .sl ys∧(∀z∈ys,z.cells.length=P.cellsOf el)∧v= .slice q ys.length r∧Src c.w (P.cellsOf el) q ys.length news∧Rd c.w news (AO ys) N∧(∀b∈N,(c.cc (fz.map (·.1))).ok b)∧(d=true→N= [])∧news.length=ys.length*P.cellsOf el∧ ∀u∈news,u.oneCell'=true:=by
 have eh:EH c hp0:=fun t e hr=>h.ents t e (Ms hs hr);obtain⟨f,q1,q2⟩:=Io eh k A3 hy hr A3 (Nat.le_refl _);unfold W8 at ht;split at ht
 ·simp only [Ah,Prod.mk.injEq]at ht;obtain⟨rfl,rfl,rfl⟩:=ht;obtain⟨ys,DF,AG⟩:=hc;rw [DF]at q1;obtain⟨q,r,news,N,hv,g1,g2,g3,g4,g5⟩:=yK q1 (fun z hz=>(AG z hz).1);have hN:N= []:=Im g2 (fun x hx=>by
   obtain⟨z,hz,hx⟩:=List.mem_flatMap.1 hx;exact(AG z hz).2 x hx)
  exact⟨[],ys,q,r,news,N,rfl,DF,fun z hz=>(AG z hz).1,hv,g1,g2,by simp [hN],fun _=>hN,g4,g5⟩
 ·split at ht
  ·rename_i JY;obtain⟨l,hl,ht⟩:=Av.1 ht;simp only [Prod.mk.injEq]at ht;obtain⟨rfl,rfl,rfl⟩:=ht;obtain⟨ys,DF,AG⟩:=hc;rw [DF]at q1;obtain⟨q,r,news,N,hv,g1,g2,g3,g4,g5⟩:=yK q1 AG;exact⟨_,ys,q,r,news,N,hl,DF,AG,hv,g1,g2,fun b hb=>Wq h eh k hl JY (q2 b (g3 b hb)),by simp,g4,g5⟩
  ·cases ht
theorem Mb {el:TypeId} (h:I5 P el=true): ∃i z,P.info? el=some i∧i.zero=some z∧z.cells.size=i.size∧0<i.size∧P.cellsOf el=i.size∧P.bytesOf el=i.bytes:=by
 unfold I5 at h;cases hi:P.info? el with
 |none=>simp [hi]at h
 |some i=>
  cases hz:i.zero with
  |none=>simp [hi,hz]at h
  |some z=>simp only [hi,hz,Ae,beq_iff_eq,bne_iff_ne]at h;exact⟨i,z,rfl,hz,h.1,by omega,by simp [Program.cellsOf,hi],by simp [Program.bytesOf,hi]⟩
theorem oB (xs ys:List AV):AO (xs++ys)=AO xs++AO ys:=by simp [AO]
theorem nM (h:Bx P c n nx sl hp a sl0 hp0 o gs) {x y:Operand} {tx:TypeId} {cl:Call} (ho:o.op= .call cl) (AG:cl.callee= .builtin .append) (DA:cl.args.toList= [x,y]) (EO:cl.argTypes.toList= [tx,tx])
  {el:TypeId} (BB:P.underlying tx=some (.slice el)) (hz:I5 P el=true) {s2:SV} {ye:E} (A6:BS sl0 gs y=some s2) (hy:Bw hp0 gs A3 s2=some ye) {fz:List (Nat × Aj)} {d:Bool} {ck:Cn} (Cm:W8 P hp0 gs el s2 ye=some (fz,d,ck)) (JN:ck.den c.ρ)
  {t g:Nat} (EZ:c.A.pin t=none∨g≠0) {c0:E} {d':Bool} (CE:Cn.den c.ρ (.room c0 ye (P.bytesOf el))) (Ft: ∀f,(t,f)∉fz) (A1: ¬c.K t g)
  {top N0:List Nat} {v:Value} (hv:a.eval x=v) (BF:C6 c.w el (P.cellsOf el) v (c0.den c.ρ) top N0) (CF:(c.G t).top=top) (Ox: ∀b∈N0,c.ok b) (eV:d'=true→TM c.w N0∧(c.G t).O=N0) (LD: ∀g',c.K t g'→g'≤g) (hU: ∀u,u=t→c.U u∨(nx≤u∧u<nx+BM)) {ckl:List Cn}:
  AB P o c n nx sl hp gs a {ca:=ckl,val:= .own t g,bt:=fz++ [(t,CU gs (.row el (P.cellsOf el) g (.app c0 ye) (d&&d')))]}:=by
 have Az:cl.args= #[x,y]:=by apply Array.ext';simp [DA]
 have HE:cl.argTypes= #[tx,tx]:=by apply Array.ext';simp [EO]
 have DZ:y∈o.op.operands:=by simp [ho,Op.operands,Call.operands,AG,Az]
 obtain⟨i,z,hi,Gv,D4,Cd,CH,GX⟩:=Mb hz;obtain⟨ts,ys,q,r,news,N,H4,DF,Pk,Dt,FZ,JZ,Gp,hdN,O3,gL⟩:=zyB h.rel h.hp h.gs (h.db A6 DZ) hy Cm JN;have Dr:=h.rel.freeze h.hp h.gs H4;obtain⟨xs,CN,IG,_,Bo⟩:=BF;obtain⟨mm,kk,H8,Db,UE,gZ⟩:=CE;rw [CN]at H8;rw [DF]at Db;simp only [AV.len,AV.int.injEq,true_and]at H8 Db;have Iy:(xs.length+ys.length)*i.bytes≤140737488355328:=by
  rw [←H8,←Db,GX]at UE;have h9:(((xs.length+ys.length)*i.bytes:Nat):Int)≤140737488355328:=by rw [Int.natCast_mul,Int.natCast_add];exact UE
  omega
 have Hq:xs.length+ys.length≤140737488355328:=by rw [←H8,←Db]at gZ;omega
 rw [CH]at FZ O3 IG Pk Bo;obtain⟨old,hold,Ia,DJ,CY⟩: ∃old,old.length=xs.length*i.size∧((xs.length=0∧ ∃q,v= .slice q 0 0)∨ ∃g cap C,v= .slice (some ⟨g,0,none⟩) xs.length cap∧xs.length≤cap∧cap≤maxLen∧c.w.heap[g]?=some (.cells C el (0,0))∧C.size=cap*i.size∧old=C.toList.take (xs.length*i.size)∧g∈(c.G t).top)∧Rd c.w old (AO xs) N0∧ ∀u∈old,u.oneCell'=true:=by
  rcases Bo with⟨rfl,⟨p,rfl⟩,rfl,rfl⟩|⟨g9,cap,C,rfl,h6,h7,h8,h9,rfl,Hm,Eo⟩
  ·exact⟨[],by simp, .inl ⟨rfl,p,rfl⟩, .nil,by simp⟩
  ·refine⟨_, ?_, .inr ⟨g9,cap,C,rfl,h6,h7,h8,h9,rfl,by rw [CF];simp⟩,Eo,Hm⟩;have e9:C.toList.length=cap*i.size:=by rw [←h9];simp
   rw [List.length_take,e9];exact Nat.min_eq_left (Nat.mul_le_mul_right _ h6)
 obtain⟨v',w',AU,AR⟩:=tB (P:=P) c.w tx o.type el i z BB hi Gv D4 Cd (fun g9=>g9∈(c.G t).top) v xs.length old hold Ia q ys.length r news FZ (by simp only [maxLen];omega) Iy;have FI:(execOp a.eval o).run P c.w= .ok (.value v') w':=by simp [execOp,ho,resolve,AG,Az,HE,invoke,builtin,hv,Dt,AU]
 intro next Q hk
 unfold Oper.wp;rw [FI,Oper.upon_value];have hc1w:(c.cc (fz.map (·.1))).w=c.w:=rfl;have tX:(c.cc (fz.map (·.1))).G t=c.G t:=by simp only [Cx.cc];rw [if_neg];rintro hh;obtain⟨⟨u,f⟩,hf,rfl⟩:=List.mem_map.1 hh;exact Ft f hf
 obtain⟨row,top',Uk,Fq,UM,BE,CQ⟩: ∃row top',c.w.grownBy w' row∧(∀g0,row=some g0→g0∈(c.G t).top∨(g0=c.w.heap.size∧g0<w'.heap.size))∧(top'= []∨ ∃g0,row=some g0∧top'= [g0])∧
   (DU (c.cc (fz.map (·.1))) ((c.cc (fz.map (·.1))).bm t g w' v' top' (if(d&&d')=true then(c.G t).O else []))→ ∃N',C6 w' el (P.cellsOf el) v' (.sl (xs++ys)) top' N'∧(∀b∈N',b∈N0∨b∈N)∧((d&&d')=true→N'=N0))∧ ∃p m r,v'= .slice p m r:=by
  rcases AR with⟨rfl,rfl,Er⟩|⟨g9,cap,C,rfl,h1,h2,h3,h4,h5,h6,h7⟩
  ·have Ib:ys= []:=List.eq_nil_of_length_eq_zero Er;subst Ib;refine⟨if top= []then none else top.head?,top,⟨rfl,rfl,rfl,Nat.le_refl _,fun _ _ _=>rfl⟩,fun g0 Fq=> .inl ?_, ?_,fun _=>⟨N0, ?_,fun b hb=> .inl hb,fun _=>rfl⟩, ?_⟩
   ·rw [CF];split at Fq
    ·cases Fq
    ·exact List.mem_of_mem_head? Fq
   ·rcases Bo with⟨_,_,rfl,_⟩|⟨g9,_,_,_,_,_,_,_,rfl,_⟩
    ·exact .inl rfl
    ·exact .inr ⟨g9,by simp,rfl⟩
   ·rw [CH];exact⟨xs,by simp,IG,Cd,Bo⟩
   ·rcases Ia with⟨_,p,rfl⟩|⟨g9,cap,C,rfl,_⟩
    ·exact⟨_,_,_,rfl⟩
    ·exact⟨_,_,_,rfl⟩
  ·refine⟨some g9, [g9],h6,fun g0 Fq=> ?_, .inr ⟨g9,rfl,rfl⟩,fun G1=>⟨N0++N,⟨xs++ys,rfl,fun z hz=> ?_,by rw [CH];exact Cd, .inr ⟨g9,cap,C,by simp,by simpa using h1,h2,h3,by rw [CH];exact h4,rfl, ?_, ?_⟩⟩,fun b hb=>Ai.1 hb,fun E8=> ?_⟩,_,_,_,rfl⟩
   ·cases Fq;exact h7.symm
   ·rcases Ai.1 hz with hz|hz
    ·rw [CH];exact IG z hz
    ·rw [CH];exact Pk z hz
   ·rw [CH];simp only [Ar];rw [h5];intro u hu;rcases Ai.1 hu with hu|hu
    ·exact CY u hu
    ·exact gL u hu
   ·rw [CH];simp only [Ar];rw [h5,oB];refine Rd.app (DJ.frame fun b hb=> ?_) (JZ.frame fun b hb=> ?_)
    ·have Iy:=DJ.inb b hb;exact G1.mem b Iy (Cx.gh (Ox b hb))
    ·have Iy:=JZ.inb b hb;exact G1.mem b Iy (Gp b hb)
   ·simp only [Ae]at E8;rw [hdN E8.1];simp
 obtain⟨p9,m9,r9,hv9⟩:=CQ;have DY:=Dr.bm (gs:=gs) (t:=t) (g:=g) (w':=w') (row:=row) (top:=top') (O:=if(d&&d')=true then(c.G t).O else []) (v:=v') EZ A1 Uk (by rw [tX];exact Fq) UM (by split;exact .inr (by rw [tX]);exact .inl rfl)
  (.row el (P.cellsOf el) g (.app c0 ye) (d&&d')) (by intros;simp) h.gs (fun G1=>by
   obtain⟨N',o1,o2,o3⟩:=BE G1;have Ax: ∀b∈N',((c.cc (fz.map (·.1))).bm t g w' v' top' (if(d&&d')=true then(c.G t).O else [])).ok b:=by
    intro b hb;rcases o2 b hb with hb|hb
    ·exact G1.ok b (DJ.inb b hb) (Cx.gh (Ox b hb))
    ·exact G1.ok b (JZ.inb b hb) (Gp b hb)
   refine⟨.inr ⟨rfl,rfl⟩,fun g' Ck=> ?_,N', ?_,Ax,fun E8=> ?_,fun E8=> ?_⟩
   ·rcases Ck with Ck|⟨_,rfl⟩
    ·exact LD g' Ck
    ·exact Nat.le_refl _
   ·have e1:((c.cc (fz.map (·.1))).bm t g w' v' top' (if(d&&d')=true then(c.G t).O else [])).H t g=v':=by simp [Cx.bm]
    have e2:(((c.cc (fz.map (·.1))).bm t g w' v' top' (if(d&&d')=true then(c.G t).O else [])).G t).top=top':=by simp [Cx.bm]
    rw [e1,e2];show C6 w' el (P.cellsOf el) v' (AV.app (c0.den c.ρ) (ye.den c.ρ)) top' N';rw [CN,DF];exact o1
   ·have dY:=o3 E8;have eW:d'=true:=by simp only [Ae]at E8;exact E8.2
    obtain⟨u1,u2⟩:=eV eW;subst dY;refine⟨u1.frame fun b hb=>G1.mem b (DJ.inb b hb) (Cx.gh (Ox b hb)), ?_⟩;simp only [Cx.bm,if_true,E8];exact u2
   ·simp [Cx.bm,E8])
 have eF:SR ((c.cc (fz.map (·.1))).bm t g w' v' top' (if(d&&d')=true then(c.G t).O else [])) [.own t g] [v']:=by rw [hv9];exact .own (.inr ⟨rfl,rfl⟩) (by simp [Cx.bm]) .nil
 refine hk _ ((c.cc (fz.map (·.1))).bm t g w' v' top' (if(d&&d')=true then(c.G t).O else [])) ⟨rfl,rfl,rfl,rfl,fun u hu=> ?_⟩ ?_
 ·rcases hu with hu|rfl
  ·exact .inl hu
  ·exact hU u rfl
 ·have:=DY.put (eF.mkGd gs h.gs) o.dst;rw [Qf];exact this
end
section
variable {P:Program} {c:Cx} {n nx:Nat} {sl sl0:Nat→SV} {hp hp0:Nat→Option Aj} {a:Act} {o:Oper} {gs:Gd} {e:A7} {sg:BW} {nv:Nat}
theorem KW {t el:TypeId} (h:CO P t=some el):P.underlying t=some (.slice el):=by
 unfold CO at h;split at h
 ·simp at h;subst h;assumption
 ·cases h
theorem zvX {ts:List Nat} {l:List (Nat × Aj)} (k:Bm c.ρ gs) (h:DR hp0 gs ts=some l): ∀t f,(t,f)∈l→ ∃g x f',CA c.ρ (hp0 t) f'∧Mj f' g x:=by intro t f hf;obtain⟨_,_,g,x,f',_,r⟩:=(PV k h).1 t f hf;exact⟨g,x,f',r⟩
theorem zwZ (h:Bx P c n nx sl hp a sl0 hp0 o gs) {x y:Operand} {tx ty:TypeId} {cl:Call} (ho:o.op= .call cl) (AG:cl.callee= .builtin .append) (DA:cl.args.toList= [x,y]) (EO:cl.argTypes.toList= [tx,ty])
  {s1 s2:SV} (BN:BS sl0 gs x=some s1) (A6:BS sl0 gs y=some s2) (he:rA P hp0 gs nx tx ty s1 s2=some e) (hc: ∀q∈e.ca,Cn.den c.ρ q):AB P o c n nx sl hp gs a e:=by
 have Az:cl.args= #[x,y]:=by apply Array.ext';simp [DA]
 have Es:x∈o.op.operands:=by simp [ho,Op.operands,Call.operands,AG,Az]
 unfold rA at he;split at he
 ·cases he
 rename_i Pe;have Pe:tx=ty:=by simpa using Pe
 subst Pe;split at he
 ·rename_i el BB;have BB:=KW BB;split at he
  ·cases he
  rename_i hz;have hz:I5 P el=true:=by simpa using hz
  split at he
  ·cases he
  rename_i ye hy;split at he
  ·cases he
  rename_i fz d ck Cm;obtain⟨ts,H4⟩: ∃ts,DR hp0 gs ts=some fz:=by
   unfold W8 at Cm;split at Cm
   ·simp only [Ah,Prod.mk.injEq]at Cm;obtain⟨rfl,_⟩:=Cm;exact⟨[],rfl⟩
   ·split at Cm
    ·obtain⟨l,hl,Cm⟩:=Av.1 Cm;simp only [Prod.mk.injEq]at Cm;obtain⟨rfl,_⟩:=Cm;exact⟨_,hl⟩
    ·cases Cm
  have r1:=h.db BN Es;have fresh: ∀f,(nx,f)∉fz:=fun f hf=>by
   obtain⟨_,_,_,r,_⟩:=zvX (c:=c) h.gs H4 nx f hf;have r:=Ms h.hp r;cases hh:hp nx with
   |none=>rw [hh]at r;exact r.elim
   |some e9=>exact Qg h (h.rel.c6 nx e9 hh)
  have hK: ∀g,¬c.K nx g:=fun g hg=>Qg h (h.rel.ch _ _ hg);have GG:=h.rel.off nx (fun e9 hr=>by
   cases hh:hp nx with
   |none=>rw [hh]at hr;exact hr.elim
   |some e8=>exact Qg h (h.rel.c6 nx e8 hh))
  have XO:c.A.pin nx=none:=by
   cases hh:c.A.pin nx with
   |none=>rfl
   |some v=>exact absurd (h.rel.base.pins nx v hh).1 (Qg h)
  have uG: ∀u,u=nx→c.U u∨(nx≤u∧u<nx+BM):=fun u hu=> .inr ⟨by omega,by rw [hu];simp [BM]⟩;have u7:P.cellsOf el≠0:=by obtain⟨i,_,_,_,_,h1,h2,_⟩:=Mb hz;omega
  split at he
  ·rename_i t g;split at he
   ·rename_i e' sz' g' c0 d' hl;split at he
    ·rename_i hh;obtain⟨rfl,rfl,rfl,rfl,Ft⟩:=hh;simp only [Ah]at he;subst he;have FH:=C5 hl h.gs;obtain⟨q1,q2,N,q3,q4,q5,q6⟩:=h.eh t _ FH;generalize hv:a.eval x=v at r1;cases r1 with
     |own k1 k2 _=>
      have:=nM (nx:=nx) h ho AG DA EO BB hz A6 hy Cm (hc _ (by simp)) (t:=t) (g:=g+1) (.inr (by omega)) (c0:=c0) (d':=d') (hc _ (by simp)) (fun f hf=>by simp only [Bool.not_eq_true',List.contains_eq_mem,decide_eq_false_iff_not]at Ft;exact Ft (List.mem_map.2 ⟨_,hf,rfl⟩)) (fun hh=>by have:=q2 _ hh;omega) hv (by rw [←k2];exact q3) rfl q4 q5 (fun g' Ck=>by have:=q2 _ Ck;omega) (fun u hu=> .inl (by rw [hu];exact h.rel.ch t g q1)) (ckl:= [.room c0 ye (P.bytesOf el),ck])
      exact this
    ·cases he
   ·cases he
  ·simp only [Ah]at he;subst he;generalize hv:a.eval x=v at r1;cases r1 with
   |emp _=>have:=nM (nx:=nx) h ho AG DA EO BB hz A6 hy Cm (hc _ (by simp)) (t:=nx) (g:=0) (.inl XO) (c0:= .lst .nil) (d':=true) (top:= []) (N0:= []) (hc _ (by simp)) fresh (hK 0) hv ⟨[],rfl,by simp,by omega, .inl ⟨rfl,⟨_,rfl⟩,rfl,rfl⟩⟩ GG.1 (by simp) (fun _=>⟨rfl,GG.2⟩) (fun g' Ck=>absurd Ck (hK g')) uG (ckl:= [.room (.lst .nil) ye (P.bytesOf el),ck]);rw [Bool.and_true]at this;exact this
  ·simp only [Ah]at he;subst he;generalize hv:a.eval x=v at r1;cases r1 with
   |cq _=>have:=nM (nx:=nx) h ho AG DA EO BB hz A6 hy Cm (hc _ (by simp)) (t:=nx) (g:=0) (.inl XO) (c0:= .lst .nil) (d':=true) (top:= []) (N0:= []) (hc _ (by simp)) fresh (hK 0) hv ⟨[],rfl,by simp,by omega, .inl ⟨rfl,⟨_,rfl⟩,rfl,rfl⟩⟩ GG.1 (by simp) (fun _=>⟨rfl,GG.2⟩) (fun g' Ck=>absurd Ck (hK g')) uG (ckl:= [.room (.lst .nil) ye (P.bytesOf el),ck]);rw [Bool.and_true]at this;exact this
  ·cases he
 ·cases he
end
section
variable {P:Program} {c:Cx} {n nx:Nat} {sl sl0:Nat→SV} {hp hp0:Nat→Option Aj} {a:Act} {o:Oper} {gs:Gd} {e:A7} {sg:BW} {nv:Nat}
theorem VA: ∀{ts us:List Nat} {l m:List (Nat × Aj)},DR hp0 gs ts=some l→DR hp0 gs us=some m→DR hp0 gs (ts++us)=some (l++m)
 | [],us,l,m,h,k=>by simp [DR]at h;subst h;simpa using k
 |t::ts,us,l,m,h,k=>by
  unfold DR at h;simp only [List.cons_append];unfold DR;split at h
  ·rename_i ety sz g x d l' hl BL;have ih:=VA BL k;split at h
   ·rename_i hg;simp at h;subst h;simp [hl,ih,hg]
   ·cases h
  ·rename_i ety sz dl g ep x l' hl BL;have ih:=VA BL k;split at h
   ·rename_i hg;simp at h;subst h;simp [hl,ih,hg]
   ·cases h
  ·rename_i g x l' hl BL;have ih:=VA BL k;simp at h;subst h;simp [hl,ih]
  ·rename_i ty g cs l' hl BL;have ih:=VA BL k;simp at h;subst h;simp [hl,ih]
  ·cases h
theorem ztl {ts us:List Nat} (hs: ∀t∈ts,t∈us) {b:Nat} (h:(c.cc ts).ok b):(c.cc us).ok b:=by refine⟨fun hm=>h.1 ?_,h.2⟩;obtain⟨u,hu,hb⟩:=Cx.kf hm;exact⟨u,by simp only [Cx.cc];rw [if_neg (fun hh=>hu (hs u hh))];exact hb⟩
theorem qX {w:World} {v:Value} {x:AV} {f:List Nat} {t:TypeId} (h:Rd w [v] [x] f) (hg:Aq P t=true∨P.cellsOf t=1) (hx:if Aq P t then∃cs,x= .agg cs∧cs.length=P.cellsOf t else(∀cs,x≠ .agg cs)∧ ∀cs,x≠ .tup cs):
  Rd w v.cells.toList x.cells f∧(∀u∈v.cells.toList,u.oneCell'=true)∧x.cells.length=P.cellsOf t∧v.cells.size=P.cellsOf t:=by
 split at hx
 ·obtain⟨cs,rfl,hl⟩:=hx;obtain⟨as_,rfl,h1,h2⟩:=Kw h rfl;have:=h2.len;exact⟨by simpa [Value.cells,AV.cells]using h2,by simpa [Value.cells]using h1,hl,by simp [Value.cells];omega⟩
 ·rename_i hna;have h1:P.cellsOf t=1:=by rcases hg with h'|h';exact absurd h' hna;exact h'
  have CY:=oY h hx.1 hx.2;have IG:x.cells= [x]:=by cases x<;>first|rfl|exact absurd rfl (hx.1 _)
  rw [one_cells CY,IG];exact⟨by simpa using h,by simpa using CY,by simp [h1],by simp [h1]⟩
theorem zre (h:Rel c n sl hp a) (hs: ∀t e,hp0 t=some e→hp t=some e) (k:Bm c.ρ gs) {t:TypeId} (hg:Aq P t=true∨P.cellsOf t=1): ∀(ss:List SV) (vs:List Value) {xs:List E} {fz:List (Nat × Aj)} {d:Bool} {ck:List Cn},SR c ss vs→WY P hp0 gs t ss=some (xs,fz,d,ck)→(∀q∈ck,q.den c.ρ)→
  ∃N,Rd c.w (vs.flatMap fun v=>v.cells.toList) (AO (xs.map (E.den c.ρ))) N∧(d=true→N= [])∧(∃ts,DR hp0 gs ts=some fz)∧(∀b∈N,(c.cc (fz.map (·.1))).ok b)∧(∀v∈vs,v.cells.size=P.cellsOf t∧ ∀u∈v.cells.toList,u.oneCell'=true)∧(∀x∈xs,(x.den c.ρ).cells.length=P.cellsOf t)∧xs.length=vs.length
 | [],vs,xs,fz,d,ck,hr,ht,hc=>by simp [WY]at ht;obtain⟨rfl,rfl,rfl,rfl⟩:=ht;cases hr;exact⟨[],by simpa [AO]using Rd.nil,fun _=>rfl,⟨[],rfl⟩,by simp,by simp,by simp,rfl⟩
 |s::ss, [],xs,fz,d,ck,hr,ht,hc=>by have:=hr.len;simp at this
 |s::ss,v::vs,xs,fz,d,ck,hr,ht,hc=>by
  obtain⟨r1,r2⟩:=hr.cr;unfold WY at ht;split at ht
  ·rename_i x fz1 d1 ck1 xs2 fz2 d2 ck2 h1 h2;simp only [Ah,Prod.mk.injEq]at ht;obtain⟨rfl,rfl,rfl,rfl⟩:=ht;obtain⟨f,q1,q2,⟨ts1,q3,q4⟩,q5⟩:=zsn h hs k r1 h1 (fun q hq=>hc q (by simp [hq]));obtain⟨N,p1,p2,⟨ts2,p3⟩,p4,p5,p6,p7⟩:=zre h hs k hg ss vs r2 h2 (fun q hq=>hc q (by simp [hq]));obtain⟨o1,o2,o3,o4⟩:=qX (P:=P) q1 hg q5;refine⟨f++N, ?_,fun hd=> ?_,⟨_,VA q3 p3⟩,fun b hb=> ?_, ?_, ?_,by simp [p7]⟩
   ·simpa [AO]using o1.app p1
   ·simp only [Ae]at hd;rw [q2 hd.1,p2 hd.2];rfl
   ·rcases Ai.1 hb with hb|hb
    ·exact ztl (fun t ht=>by simp only [List.map_append,Ai];exact .inl ht) (q4 b hb)
    ·exact ztl (fun t ht=>by simp only [List.map_append,Ai];exact .inr ht) (p4 b hb)
   ·intro u hu;rcases Ag.1 hu with rfl|hu
    ·exact⟨o4,o2⟩
    ·exact p5 u hu
   ·intro u hu;rcases Ag.1 hu with rfl|hu
    ·exact o3
    ·exact p6 u hu
  ·cases ht
theorem pP {sz:Nat} (place:Nat→Option (Nat × Nat)) (O7: ∀i,place i=some (i*sz,sz)): ∀(vs:List Value) (k:Nat) (C:Array Value) (pre suf:List Value),C.toList=pre++suf→pre.length=k*sz→suf.length=vs.length*sz→(∀v∈vs,v.cells.size=sz)→
  ∃C',Instr.fill place C ((vs.zipIdx k).map fun p=>(p.2,p.1))=some C'∧C'.toList=pre++vs.flatMap fun v=>v.cells.toList
 | [],k,C,pre,suf,h,_,h2,_=>by have:suf= []:=List.eq_nil_of_length_eq_zero (by simpa using h2);subst this;exact⟨C,rfl,by simpa using h⟩
 |v::vs,k,C,pre,suf,h,h1,h2,h3=>by
  have hv:=h3 v (by simp);simp only [Ao,Nat.add_mul,Nat.one_mul]at h2;have hC:C.size=pre.length+suf.length:=by rw [←Array.length_toList,h,Ar]
  have MM:(v.cells.zipIdx.foldl (fun cs (p:Value × Nat)=>cs.setIfInBounds (k*sz+p.2) p.1) C).toList=setVs C.toList (k*sz) v.cells.toList:=by have:=wG v.cells.toList 0 (k*sz) C (by simp;omega);rw [←Array.foldl_toList,Array.toList_zipIdx];simpa using this
  have J5:setVs C.toList (k*sz) v.cells.toList=(pre++v.cells.toList)++suf.drop sz:=by unfold setVs;rw [h,←h1,List.take_left' rfl];congr 1;rw [List.drop_append,List.drop_eq_nil_of_le (by omega)];simp [hv]
  obtain⟨C',g1,g2⟩:=pP place O7 vs (k+1) (v.cells.zipIdx.foldl (fun cs (p:Value × Nat)=>cs.setIfInBounds (k*sz+p.2) p.1) C) (pre++v.cells.toList) (suf.drop sz) (by rw [MM,J5]) (by simp [h1,hv,Nat.add_mul]) (by simp;omega) (fun u hu=>h3 u (by simp [hu]));refine⟨C', ?_,by rw [g2];simp⟩;simp only [List.zipIdx_cons,List.map_cons];unfold Instr.fill;simp only [O7];rw [if_neg (by simp [hv];omega)];exact g1
theorem AB.newRow (h:Bx P c n nx sl hp a sl0 hp0 o gs) {ts:List Nat} {fz:List (Nat × Aj)} (H4:DR hp0 gs ts=some fz) {el:TypeId} {C:Array Value} {cap:Nat} {xs:List AV} {x:E} {d:Bool} {N:List Nat} {ckl:List Cn} {wd:World} (hwd:wd.heap=c.w.heap∧wd.os=c.w.os∧wd.tape=c.w.tape∧wd.output=c.w.output)
  (hr:(execOp a.eval o).run P c.w= .ok (.value (.slice (some ⟨c.w.heap.size,0,none⟩) xs.length cap)) (wd.alloc (.cells C el))) (hx:x.den c.ρ= .sl xs) (Cd:P.cellsOf el≠0) (AG: ∀y∈xs,y.cells.length=P.cellsOf el) (hle:xs.length≤cap) (JL:cap≤maxLen) (hC:C.size=cap*P.cellsOf el)
  (h1: ∀u∈C.toList.take (xs.length*P.cellsOf el),u.oneCell'=true) (hN:Rd c.w (C.toList.take (xs.length*P.cellsOf el)) (AO xs) N) (Gp: ∀b∈N,(c.cc (fz.map (·.1))).ok b) (hd:d=true→N= []):
  AB P o c n nx sl hp gs a {ca:=ckl,val:= .own nx 0,bt:=fz++ [(nx,CU gs (.row el (P.cellsOf el) 0 x d))]}:=by
 intro next Q hk
 unfold Oper.wp;rw [hr,Oper.upon_value];have hU:=Qg h;have Dr:=h.rel.freeze h.hp h.gs H4;have hK: ∀g,¬c.K nx g:=fun g hg=>hU (h.rel.ch _ _ hg);have XO:c.A.pin nx=none:=by
  cases hh:c.A.pin nx with
  |none=>rfl
  |some v=>exact absurd (h.rel.base.pins nx v hh).1 hU
 have GG:=h.rel.off nx (fun e9 hr=>by
  cases hh:hp nx with
  |none=>rw [hh]at hr;exact hr.elim
  |some e8=>exact hU (h.rel.c6 nx e8 hh))
 obtain⟨w1,w2,w3,w4⟩:=hwd;have Ed:c.w.grownBy (wd.alloc (.cells C el)) (some c.w.heap.size):=by
  refine⟨w2,w3,w4, ?_,fun k hk _=> ?_⟩
  ·show c.w.heap.size≤(wd.heap.push _).size;simp [w1]
  ·have:=Below.heap_alloc wd (.cells C el) k (by rw [w1];exact hk);rw [this,w1]
 have MW:(wd.alloc (.cells C el)).heap[c.w.heap.size]?=some (.cells C el (0,0)):=by have:=heap_alloc_new wd (.cells C el);rw [w1]at this;exact this
 have Am:c.w.heap.size<(wd.alloc (.cells C el)).heap.size:=F5 MW;have hO:(c.cc (fz.map (·.1))).G nx=⟨[], []⟩∨((c.cc (fz.map (·.1))).G nx).O= []:=by
  right;simp only [Cx.cc];split
  ·rfl
  ·exact GG.2
 have DY:=Dr.bm (gs:=gs) (t:=nx) (g:=0) (w':=wd.alloc (.cells C el)) (row:=some c.w.heap.size) (top:= [c.w.heap.size]) (O:= []) (v:= .slice (some ⟨c.w.heap.size,0,none⟩) xs.length cap) (.inl XO) (hK 0) Ed (fun g0 Fq=>by cases Fq;exact .inr ⟨rfl,Am⟩) (.inr ⟨_,rfl,rfl⟩) (.inl rfl)
  (.row el (P.cellsOf el) 0 x d) (by intros;simp) h.gs (fun G1=>by
   refine⟨.inr ⟨rfl,rfl⟩,fun g' Ck=> ?_,N, ?_,fun b hb=>G1.ok b (hN.inb b hb) (Gp b hb),fun E8=> ?_,fun _=>by simp [Cx.bm]⟩
   ·rcases Ck with Ck|⟨_,rfl⟩
    ·exact absurd Ck (hK g')
    ·exact Nat.le_refl _
   ·have e1:((c.cc (fz.map (·.1))).bm nx 0 (wd.alloc (.cells C el)) (.slice (some ⟨c.w.heap.size,0,none⟩) xs.length cap) [c.w.heap.size] []).H nx 0= .slice (some ⟨c.w.heap.size,0,none⟩) xs.length cap:=by simp [Cx.bm]
    have e2:(((c.cc (fz.map (·.1))).bm nx 0 (wd.alloc (.cells C el)) (.slice (some ⟨c.w.heap.size,0,none⟩) xs.length cap) [c.w.heap.size] []).G nx).top= [c.w.heap.size]:=by simp [Cx.bm]
    rw [e1,e2];show C6 (wd.alloc (.cells C el)) el (P.cellsOf el) _ (x.den c.ρ) _ N;rw [hx];exact⟨xs,rfl,AG,by omega, .inr ⟨_,cap,C,rfl,hle,JL,MW,hC,rfl,h1,hN.frame fun b hb=>G1.mem b (hN.inb b hb) (Gp b hb)⟩⟩
   ·rw [hd E8];exact⟨rfl,by simp [Cx.bm]⟩)
 have eF:SR ((c.cc (fz.map (·.1))).bm nx 0 (wd.alloc (.cells C el)) (.slice (some ⟨c.w.heap.size,0,none⟩) xs.length cap) [c.w.heap.size] []) [.own nx 0] [.slice (some ⟨c.w.heap.size,0,none⟩) xs.length cap]:=
  .own (.inr ⟨rfl,rfl⟩) (by simp [Cx.bm]) .nil
 refine hk _ ((c.cc (fz.map (·.1))).bm nx 0 (wd.alloc (.cells C el)) (.slice (some ⟨c.w.heap.size,0,none⟩) xs.length cap) [c.w.heap.size] []) ⟨rfl,rfl,rfl,rfl,fun u hu=> ?_⟩ ?_
 ·rcases hu with hu|rfl
  ·exact .inl hu
  ·exact .inr ⟨Nat.le_refl _,by simp [BM]⟩
 ·have:=DY.put (eF.mkGd gs h.gs) o.dst;rw [Qf];exact this
theorem zoi {t el:TypeId} (hu:P.underlying t=some (.slice el)) (Bt:DE P el=true) {i:TypeInfo} {z:Value} (hi:P.info? el=some i) (hz:i.zero=some z) (CH:P.cellsOf el=i.size) (m:Nat) (hle:m*i.size≤2^24) (parts:Array (Nat × Value)) (C:Array Value)
  (hf:Instr.fill (fun j=>some (j*i.size,i.size)) ((Array.range (m*i.size)).map (fun j=>(if m*i.size=0 then #[]else z.cells)[j % (if m*i.size=0 then #[]else z.cells).size]!)) parts.toList=some C) (w:World):
  (Instr.buildSlice t m parts).run P w= .ok (.slice (some ⟨w.heap.size,0,none⟩) m m) (w.alloc (.cells C el)):=by
 have gB: ¬(2^24<m*i.size):=by omega
 have G3:Array.range 0= #[]:=rfl;by_cases h0:m*i.size=0
 ·simp only [h0,if_true,G3]at hf;have Ub: ∀f:Nat→Value,Array.map f #[]= #[]:=fun f=>by simp
  rw [Ub]at hf;simp only [Instr.buildSlice,Sem.run_bind,run_underlying hu,Result.andThen_ok,P3 Bt,CH];simp [h0,G3,hf,newRow]
 ·simp only [h0,if_false]at hf;simp only [Instr.buildSlice,Sem.run_bind,run_underlying hu,Result.andThen_ok,P3 Bt,CH];simp [h0,gB,zeroValue,typeInfo,hi,hz,hf,newRow]
theorem zrR (h:Bx P c n nx sl hp a sl0 hp0 o gs) {t:TypeId} {m:Nat} {parts:Array (Nat × Operand)} (ho:o.op= .buildSlice t m parts) {ps:List (Nat × SV)} (M0:parts.toList.mapM (fun(p:Nat × Operand)=>(BS sl0 gs p.2).map fun s=>(p.1,s))=some ps) (he:oJ P hp0 gs nx t m ps=some e) (hc: ∀q∈e.ca,Cn.den c.ρ q):AB P o c n nx sl hp gs a e:=by
 obtain⟨e1,e2⟩:=bI (c:=c) (a:=a) (parts.toList.map (·.2)) (fun x s hx hm=>h.db hx (by simpa [ho,Op.operands]using hm)) (fun x hx=>List.mem_map.2 ⟨x,hx,rfl⟩) M0;unfold oJ at he;split at he
 ·rename_i el BB;have BB:=KW BB;split at he
  ·cases he
  rename_i AK;simp only [not_or,Bool.not_eq_true',Bool.not_eq_false',ne_eq,Bool.not_eq_false,Nat.not_lt,Decidable.not_not]at AK;obtain⟨hz,Bt,AE,hle,ER⟩:=AK;have AE:Aq P el=true∨P.cellsOf el=1:=by simpa using AE
  obtain⟨i,z,hi,Gv,D4,Cd,CH,GX⟩:=Mb hz;split at he
  ·rename_i xs fz d ck UK;split at he
   ·simp only [Ah]at he;subst he;obtain⟨N,p1,p2,⟨ts,p3⟩,p4,p5,p6,p7⟩:=zre h.rel h.hp h.gs AE (ps.map (·.2)) (parts.toList.map fun p=>a.eval p.2) e2 UK hc;have hlen:(parts.toList.map fun p=>a.eval p.2).length=m:=by
     have:ps.length=m:=by have:=congrArg List.length ER;simpa using this
     have h9:=congrArg List.length e1;simp at h9 ⊢;omega
    have HB:(parts.map fun(x:Nat × Operand)=>(x.1,a.eval x.2)).toList=((parts.toList.map fun p=>a.eval p.2).zipIdx 0).map fun p=>(p.2,p.1):=by
     have JV:parts.toList.map (·.1)=List.range m:=by rw [←e1,ER]
     apply List.ext_getElem?;intro j;have hj:(parts.toList.map (·.1))[j]?=(List.range m)[j]?:=by rw [JV]
     simp only [Array.toList_map,List.getElem?_map,List.getElem?_zipIdx]at hj ⊢;cases hp:parts.toList[j]? with
     |none=>simp
     |some p=>
      rw [hp]at hj;simp only [Option.map_some,Ah]at hj ⊢;have fU:j<m:=by
       rcases Nat.lt_or_ge j m with hh|hh
       ·exact hh
       ·rw [List.getElem?_eq_none (by simpa using hh)]at hj;cases hj
      rw [List.getElem?_range fU]at hj;simp at hj;simp [hj]
    obtain⟨C',f1,f2⟩:=pP (sz:=i.size) (fun j=>some (j*i.size,i.size)) (fun j=>rfl) (parts.toList.map fun p=>a.eval p.2) 0 ((Array.range (m*i.size)).map (fun j=>(if m*i.size=0 then #[]else z.cells)[j % (if m*i.size=0 then #[]else z.cells).size]!)) [] _ (by simp;rfl) (by simp) (by simp [hlen]) (fun v hv=>by rw [←CH];exact(p5 v hv).1);have Eb:C'.toList.length=m*P.cellsOf el:=by
     rw [f2,CH];simp only [List.nil_append];have: ∀(L:List Value),(∀v∈L,v.cells.size=i.size)→(L.flatMap fun v=>v.cells.toList).length=L.length*i.size:=by
      intro L
      induction L with
      |nil=>intro _;simp
      |cons v L ih=>intro hL;simp only [List.flatMap_cons,Ar,Ao,Array.length_toList];rw [ih (fun u hu=>hL u (by simp [hu])),hL v (by simp),Nat.add_mul];omega
     rw [this _ (fun v hv=>by rw [←CH];exact(p5 v hv).1),hlen]
    have Kb:(xs.map (E.den c.ρ)).length=m:=by rw [List.length_map,p7,hlen]
    have CM:C'.toList.take ((xs.map (E.den c.ρ)).length*P.cellsOf el)=(parts.toList.map fun p=>a.eval p.2).flatMap fun v=>v.cells.toList:=by rw [Kb,←Eb,List.take_length,f2];simp
    refine AB.newRow (xs:=xs.map (E.den c.ρ)) (N:=N) (C:=C') (cap:=m) (wd:=c.w) h p3 ⟨rfl,rfl,rfl,rfl⟩ ?_ (by simp [E.den,EL.dt]) (by omega) (fun y hy=> ?_) (by omega) (by simp only [maxLen];have:m*1≤m*P.cellsOf el:=Nat.mul_le_mul_left _ (by omega);omega) (by rw [←Array.length_toList,Eb]) ?_ (by rw [CM];exact p1) p4 p2
    ·rw [Kb];have AU:=zoi (P:=P) BB Bt hi Gv CH m (by rw [←CH];omega) (parts.map fun(x:Nat × Operand)=>(x.1,a.eval x.2)) C' (by rw [HB];exact f1) c.w;simp only [execOp,ho,Sem.run_bind];rw [AU];rfl
    ·obtain⟨q,hq,rfl⟩:=List.mem_map.1 hy;exact p6 q hq
    ·rw [CM];intro u hu;obtain⟨v,hv,hu⟩:=List.mem_flatMap.1 hu;exact(p5 v hv).2 u hu
   ·cases he
  ·cases he
 ·cases he
end
end Go.Proofs.YtbmbkgalkfmjdaaGreatDoor
end

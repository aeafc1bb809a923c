/- Parts of a proof, joined: WA, VJa, VK, VL, VM, VN, VO, VP, VQ, VR, VS, VT, VU, VV, VW. -/
import Derived.Test.YtbmbkgalkfmjdaaGreatDoorJ2
import Derived.WalkSpells
import Derived.Laws.BytesArg
set_option linter.unusedVariables false
set_option linter.unusedSimpArgs false
section
namespace Go.Proofs.YtbmbkgalkfmjdaaGreatDoor
open Go.RowKit
theorem Jl: ∀{l:List (Nat × Aj)} {t:Nat} {e:Aj},AE l t=some e→(t,e)∈l
 | [],_,_,h=>by simp [AE]at h
 |(u,f)::l,t,e,h=>by
  simp only [AE]at h;split at h
  ·rename_i hu;subst hu;simp at h;subst h;simp
  ·exact List.mem_cons_of_mem _ (Jl h)
theorem NO {α:Type}: ∀{l:List (Nat × α)} {t:Nat} {e:α},l.lookup t=some e→(t,e)∈l
 | [],_,_,h=>by simp at h
 |(u,f)::l,t,e,h=>by
  simp only [List.lookup_cons]at h;split at h
  ·rename_i hu;simp at h hu;subst h;subst hu;simp
  ·exact List.mem_cons_of_mem _ (NO h)
theorem ZN: ∀{θ:List (Nat × Option Nat)},Oc θ=true→ ∀{t u v:Nat},(t,some v)∈θ→(u,some v)∈θ→t=u
 | [],_,t,u,v,h,_=>by simp at h
 |(p,q)::θ,hn,t,u,v,h1,h2=>by
  have hn':Oc θ=true:=by cases q<;>(simp only [Oc,Ae]at hn;exact hn.2)
  have key: ∀x,(p,some v)=(p,q)→(x,some v)∈θ→False:=by intro x hq hx;cases hq;simp only [Oc,Ae,AG]at hn;have:=hn.1 _ hx;simp at this
  rcases Ag.1 h1 with h3|h3<;>rcases Ag.1 h2 with h4|h4
  ·cases h3;cases h4;rfl
  ·cases h3;exact(key u rfl h4).elim
  ·cases h4;exact(key t rfl h3).elim
  ·exact ZN hn' h3 h4
def B6 (hp:List (Nat × Aj)) (t:Nat):Option Nat:=match AE hp t with
 |some (.box ..)=>some 0
 |some (.row _ _ g _ _)=>some g
 |some (.cf g _)=>some g
 |some (.deep _ _ _ g _ _)=>some g
 |_=>none
def HK (hp:List (Nat × Aj)) (t:Nat):Bool:=match AE hp t with
 |some (.box ..)=>true
 |some (.row ..)=>true
 |some (.deep ..)=>true
 |_=>false
def LY (pat leaf:Option Aj) (g:GI):GI:=match pat,leaf with
 |some (.row ..),some (.deep ..)=>⟨g.top.take 1, []⟩
 |_,_=>g
theorem zDV {p l:Option Aj} {g:GI} {b:Nat} (h:b∈(LY p l g).top):b∈g.top:=by
 unfold LY at h;split at h
 ·exact List.mem_of_mem_take h
 ·exact h
theorem zC4 {p l:Option Aj} {g:GI} {b:Nat} (h:b∈(LY p l g).own):b∈g.own:=by
 unfold LY at h;split at h
 ·simp only [GI.own,List.append_nil]at h;simp [GI.own,List.mem_of_mem_take h]
 ·exact h
theorem zAf {p l:Option Aj} {g:GI} (h:g.own.Nodup):(LY p l g).own.Nodup:=by
 unfold LY;split
 ·simp only [GI.own,List.append_nil]at h ⊢;exact List.Sublist.nodup (List.Sublist.trans (List.take_sublist _ _) (List.sublist_append_left _ _)) h
 ·exact h
def Dm (c:Cx) (ρ:List AV) (θ:List (Nat × Option Nat)) (pat leaf:St):Cx:=
 {c with
  ρ:=ρ
  G:=fun t=>if HK pat.hp t then(match θ.lookup t with|some (some t')=>LY (AE pat.hp t) (AE leaf.hp t') (c.G t')|_=>⟨[], []⟩)else⟨[], []⟩
  K:=fun t g=>B6 pat.hp t=some g
  H:=fun t _=>match θ.lookup t with|some (some t')=>c.H t' ((B6 leaf.hp t').getD 0)|_=> .slice none 0 0
  U:=fun t=>t<pat.nx
  E:=fun t=>match AE pat.hp t with|some (.deep _ _ _ _ ep _)=>ep|_=>0}
section
variable {c:Cx} {ρ:List AV} {nv n:Nat} {es:List E} {θ:List (Nat × Option Nat)} {pat leaf:St} {sl:Nat→SV} {a:Act}
theorem N7 {t b:Nat} (h:b∈((Dm c ρ θ pat leaf).G t).own):HK pat.hp t=true∧ ∃t',θ.lookup t=some (some t')∧(b∈((Dm c ρ θ pat leaf).G t).top→b∈(c.G t').top)∧b∈(c.G t').own:=by
 simp only [Dm]at h ⊢;split at h
 ·rename_i ho;split at h
  ·rename_i t' ht;exact⟨ho,t',ht,fun hb=>by rw [if_pos ho]at hb;exact zDV hb,zC4 h⟩
  ·simp [GI.own]at h
 ·simp [GI.own]at h
theorem SW {b:Nat} (h:c.ok b):(Dm c ρ θ pat leaf).ok b:=by refine⟨fun⟨t,ht⟩=> ?_,h.2⟩;obtain⟨_,t',_,hg,_⟩:=N7 (b:=b) (by simp only [GI.own,Ai];exact .inl ht);exact h.1 ⟨t',hg ht⟩
theorem Mt (hp:ρ<+:c.ρ) (hn:ρ.length=nv) {x y:E} (h:Kg nv es x y=true):x.den (ρ++(EL.of es).den c.ρ)=y.den c.ρ:=by
 obtain⟨τ,hτ⟩:=hp;have Lz:x.sc nv=true→x.beq y=true→x.den (ρ++(EL.of es).den c.ρ)=y.den c.ρ:=by intro h1 h2;rw [←E.au c.ρ x y h2];subst hn;generalize hq:(EL.of es).den c.ρ=q;rw [E.bb ρ q τ x h1,hτ]
 unfold Kg at h;split at h
 ·rename_i i;split at h
  ·rename_i hi;exact Lz (by simpa [E.sc]using hi) h
  ·rename_i hi;split at h
   ·rename_i z hz;rw [←E.au c.ρ z y h];simp only [E.den,EL.dt];rw [List.getElem?_append_right (by omega),hn,List.getElem?_map,hz];rfl
   ·cases h
 ·simp only [Ae]at h;exact Lz h.1 h.2
theorem zDq (As:Rel c n sl (AE leaf.hp) a) {s:SV} {v:Value} {y:E} (hs:SR c [s] [v]) (h:JA leaf s=some y): ∃f,Rd c.w [v] [y.den c.ρ] f∧ ∀b∈f,c.fj (BZ (AE leaf.hp) [] (A3+1) [s]) b:=
 Ii (fun t e hr=>As.ents t e hr) (Ff _) A3 h hs A3 (Nat.le_refl _)
mutual
theorem xF (As:Rel c n sl (AE leaf.hp) a) (hp:ρ<+:c.ρ) (hn:ρ.length=nv) (Cs: ∀t e,(t,e)∈pat.hp→I6 nv es θ pat leaf t e=true): ∀(m:Nat) {p s:SV} {v:Value},UF nv es θ pat leaf m p s=true→SR c [s] [v]→SR (Dm c (ρ++(EL.of es).den c.ρ) θ pat leaf) [p] [v]
 |0,p,s,v,h,_=>by simp [UF]at h
 |m+1,p,s,v,h,hs=>by
  unfold UF at h;split at h
  ·exact .undef .nil
  ·rename_i x;split at h
   ·rename_i y hy;simp only [Ae,AG,Bool.or_eq_true]at h;obtain⟨f,hf,IC⟩:=zDq As hs hy;have hx:=Mt (c:=c) hp hn h.1;refine .e (by rw [show(Dm c (ρ++(EL.of es).den c.ρ) θ pat leaf).ρ=ρ++(EL.of es).den c.ρ from rfl,hx];exact hf) (fun b hb=> ?_) .nil;rcases IC b hb with hb|⟨t',Na,hb⟩
    ·exact SW hb
    ·refine⟨fun⟨u,hu⟩=> ?_, .inr (As.gw.allow t' b (by simp [GI.own,hb]))⟩;obtain⟨ho,v',hl,hg,TQ⟩:=N7 (b:=b) (by simp only [GI.own,Ai];exact .inl hu);have hv:v'=t':=by
      refine Classical.byContradiction fun A5=>As.gw.cz v' t' A5 b TQ (by simp [GI.own,hb])
     subst hv;have:=h.2 _ Na _ (NO hl);simp only [bne_self_eq_false,AX,false_or]at this;unfold HK at ho;split at this
     ·rename_i hh;rw [hh]at ho;simp at ho
     ·rename_i hh;rw [hh]at ho;simp at ho
     ·cases this
   ·cases h
  ·split at h
   ·cases hs with
    |cq _=>exact .cq .nil
   ·cases h
  ·split at h
   ·cases hs with
    |emp _=>exact .emp .nil
   ·cases hs with
    |cq _=>exact .emp .nil
   ·cases h
  ·rename_i t g;have key: ∀t' v',B6 pat.hp t=some g→θ.lookup t=some (some t')→K1 leaf.hp t' v'=true→SR c [.own t' v'] [v]→SR (Dm c (ρ++(EL.of es).den c.ρ) θ pat leaf) [.own t g] [v]:=by
    intro t' v' hg hl hv hs;cases hs with
    |own h1 h2 _=>
     refine .own hg ?_ .nil;show(match θ.lookup t with|some (some t')=>c.H t' ((B6 leaf.hp t').getD 0)|_=>Value.slice none 0 0)=_;rw [hl];have:(B6 leaf.hp t').getD 0=v':=by
      unfold K1 at hv;unfold B6;split at hv
      ·rename_i hh;rw [hh];simpa using(beq_iff_eq.1 hv).symm
      ·rename_i hh;rw [hh];simpa using(beq_iff_eq.1 hv).symm
      ·rename_i hh;rw [hh];simpa using(beq_iff_eq.1 hv).symm
      ·cases hv
     show c.H t' ((B6 leaf.hp t').getD 0)=_;rw [this];exact h2
   split at h
   ·rename_i g' _ _ Ew;simp only [Ae,beq_iff_eq]at h;obtain⟨rfl,h⟩:=h;split at h
    ·simp only [Ae,beq_iff_eq]at h;exact key _ _ (by simp [B6,Ew]) h.1 h.2 hs
    ·rw [beq_iff_eq]at h;cases hs with
     |cq _=>refine .own (p:=none) (q:=0) (r:=0) (by show B6 pat.hp t=some g;simp [B6,Ew]) ?_ .nil;show(match θ.lookup t with|some (some t')=>c.H t' ((B6 leaf.hp t').getD 0)|_=>Value.slice none 0 0)=_;rw [h]
    ·cases h
   ·rename_i g' _ Ew;simp only [Ae,beq_iff_eq]at h;obtain⟨rfl,h⟩:=h;split at h
    ·simp only [Ae,beq_iff_eq]at h;exact key _ _ (by simp [B6,Ew]) h.1 h.2 hs
    ·cases h
   ·rename_i g' _ _ Ew;simp only [Ae,beq_iff_eq]at h;obtain⟨rfl,h⟩:=h;split at h
    ·simp only [Ae,beq_iff_eq]at h;exact key _ _ (by simp [B6,Ew]) h.1 h.2 hs
    ·rw [beq_iff_eq]at h;cases hs with
     |cq _=>refine .own (p:=none) (q:=0) (r:=0) (by show B6 pat.hp t=some g;simp [B6,Ew]) ?_ .nil;show(match θ.lookup t with|some (some t')=>c.H t' ((B6 leaf.hp t').getD 0)|_=>Value.slice none 0 0)=_;rw [h]
    ·cases h
   ·cases h
  ·rename_i t o;split at h
   ·rename_i ty g cs Ew;split at h
    ·rename_i t' o';simp only [Ae,beq_iff_eq]at h;obtain⟨rfl,hl⟩:=h;have Ix:=Cs t _ (Jl Ew);simp only [I6,hl]at Ix;split at Ix
     ·rename_i Di;cases hs with
      |cu h1 h2 _=>
       refine .cu (by show B6 pat.hp t=some 0;simp [B6,Ew]) ?_ .nil;show(match θ.lookup t with|some (some t')=>c.H t' ((B6 leaf.hp t').getD 0)|_=>Value.slice none 0 0)=_;rw [hl];have:(B6 leaf.hp t').getD 0=0:=by simp [B6,Di]
       simp only [this];exact h2
     ·cases Ix
    ·cases h
   ·cases h
  ·cases h
  ·rename_i x i z o;split at h
   ·rename_i y j z' o';simp only [Ae,beq_iff_eq]at h;obtain⟨⟨⟨⟨⟨rfl,rfl⟩,h1⟩,h2⟩,h3⟩,h4⟩:=h;have hx:x.den (ρ++(EL.of es).den c.ρ)=y.den c.ρ:=by
     obtain⟨τ,hτ⟩:=hp;rw [←E.au c.ρ x y h2];subst hn;generalize (EL.of es).den c.ρ=q;rw [E.bb ρ q τ x h1,hτ]
    have hi:i.den (ρ++(EL.of es).den c.ρ)=j.den c.ρ:=by obtain⟨τ,hτ⟩:=hp;rw [←E.au c.ρ i j h4];subst hn;generalize (EL.of es).den c.ρ=q;rw [E.bb ρ q τ i h3,hτ]
    cases hs with
    |du g1 g2 g3 g4 g5 g6 _=>refine .du (f:=_) (by show Rd c.w _ [x.den (ρ++(EL.of es).den c.ρ)] _;rw [hx];exact g1) (fun b hb=>SW (g2 b hb)) (by show i.den (ρ++(EL.of es).den c.ρ)=_;rw [hi];exact g3) g4 g5 (by show((x.den (ρ++(EL.of es).den c.ρ)).nth _).cells.length=_;rw [hx];exact g6) .nil
   ·cases h
  ·rename_i x o;split at h
   ·rename_i y o';simp only [Ae,beq_iff_eq]at h;obtain⟨⟨rfl,h1⟩,h2⟩:=h;have hx:x.den (ρ++(EL.of es).den c.ρ)=y.den c.ρ:=by
     obtain⟨τ,hτ⟩:=hp;rw [←E.au c.ρ x y h2];subst hn;generalize (EL.of es).den c.ρ=q;rw [E.bb ρ q τ x h1,hτ]
    cases hs with
    |dr g1 g2 _=>exact .dr (by show Rd c.w _ [x.den (ρ++(EL.of es).den c.ρ)] _;rw [hx];exact g1) (fun b hb=>SW (g2 b hb)) .nil
   ·cases h
  ·split at h
   ·cases hs with
    |agg h9 h1 _=>exact .agg h9 (WA As hp hn Cs m h h1) .nil
   ·cases h
  ·split at h
   ·cases hs with
    |tup h1 _=>exact .tup (WA As hp hn Cs m h h1) .nil
   ·cases h
  ·split at h
   ·simp only [Ae,beq_iff_eq]at h;obtain⟨rfl,h⟩:=h;cases hs with
    |fn h1 _=>exact .fn (WA As hp hn Cs m h h1) .nil
   ·cases h
  ·cases h
  ·cases h
  ·cases h
  ·cases h
  ·rename_i i;split at h
   ·rename_i j;simp only [Ae,beq_iff_eq,decide_eq_true_eq]at h;obtain⟨rfl,hi⟩:=h;cases hs with
    |lent g1 _=>
     have hx:(E.var i).den (ρ++(EL.of es).den c.ρ)=(E.var i).den c.ρ:=by obtain⟨τ,hτ⟩:=hp;subst hn;generalize (EL.of es).den c.ρ=q;rw [E.bb ρ q τ (.var i) (by simpa [E.sc]using hi),hτ]
     exact .lent (show c.A.lo v ((E.var i).den (ρ++(EL.of es).den c.ρ)) by rw [hx];exact g1) .nil
   ·cases h
theorem WA (As:Rel c n sl (AE leaf.hp) a) (hp:ρ<+:c.ρ) (hn:ρ.length=nv) (Cs: ∀t e,(t,e)∈pat.hp→I6 nv es θ pat leaf t e=true): ∀(m:Nat) {ps ss:List SV} {vs:List Value},HQ nv es θ pat leaf m ps ss=true→SR c ss vs→SR (Dm c (ρ++(EL.of es).den c.ρ) θ pat leaf) ps vs
 |0,ps,ss,vs,h,_=>by simp [HQ]at h
 |m+1, [], [],vs,h,hs=>by cases hs;exact .nil
 |m+1,p::ps, [],vs,h,hs=>by simp [HQ]at h
 |m+1, [],s::ss,vs,h,hs=>by simp [HQ]at h
 |m+1,p::ps,s::ss, [],h,hs=>by have:=hs.len;simp at this
 |m+1,p::ps,s::ss,v::vs,h,hs=>by simp only [HQ,Ae]at h;obtain⟨h1,h2⟩:=hs.cr;exact(xF As hp hn Cs m h.1 h1).cons (WA As hp hn Cs m h.2 h2)
end
theorem zzH (As:Rel c n sl (AE leaf.hp) a) (hp:ρ<+:c.ρ) (hn:ρ.length=nv) (Cs: ∀t e,(t,e)∈pat.hp→I6 nv es θ pat leaf t e=true) (hθ:Oc θ=true) {t:Nat} {e:Aj} (ht:AE pat.hp t=some e):Dn (Dm c (ρ++(EL.of es).den c.ρ) θ pat leaf) t e:=by
 have h:=Cs t e (Jl ht);have sX:HK pat.hp t=false→(Dm c (ρ++(EL.of es).den c.ρ) θ pat leaf).G t=⟨[], []⟩:=by intro h0;simp only [Dm];rw [if_neg (by rw [h0];simp)]
 have sY: ∀t',HK pat.hp t=true→θ.lookup t=some (some t')→(Dm c (ρ++(EL.of es).den c.ρ) θ pat leaf).G t=LY (AE pat.hp t) (AE leaf.hp t') (c.G t'):=by intro t' h0 hl;simp only [Dm];rw [if_pos h0,hl]
 have TF: ∀t',HK pat.hp t=true→θ.lookup t=some (some t')→(∀q1 q2 q3 q4 q5 q6,AE leaf.hp t'=some (.deep q1 q2 q3 q4 q5 q6)→ ∀p1 p2 p3 p4 p5,e≠ .row p1 p2 p3 p4 p5)→(Dm c (ρ++(EL.of es).den c.ρ) θ pat leaf).G t=c.G t':=by
  intro t' h0 hl Dt;rw [sY t' h0 hl,ht];unfold LY;split
  ·rename_i h1 h2;simp only [Ah]at h1;exact absurd h1 (Dt _ _ _ _ _ _ h2 _ _ _ _ _)
  ·rfl
 have Lm: ∀t' g,θ.lookup t=some (some t')→B6 leaf.hp t'=some g→ ∀g',(Dm c (ρ++(EL.of es).den c.ρ) θ pat leaf).H t g'=c.H t' g:=by intro t' g hl hg g';simp only [Dm,hl,hg,Option.getD_some]
 have ET: ∀g,B6 pat.hp t=some g→ ∀g',(Dm c (ρ++(EL.of es).den c.ρ) θ pat leaf).K t g'→g'≤g:=by intro g hg g' hk;have B5:B6 pat.hp t=some g':=hk;rw [hg]at B5;cases B5;exact Nat.le_refl _
 cases e with
 |box ty g cs=>
  simp only [I6]at h;split at h
  ·rename_i t' hl;split at h
   ·rename_i ty' g' ds Di;simp only [Ae,beq_iff_eq]at h;obtain⟨⟨rfl,rfl⟩,h⟩:=h;obtain⟨b,C,h1,h2,h3,h4,h5,h6,h7⟩:=As.ents t' _ (by rw [Di];rfl);have hg:=TF t' (by simp [HK,ht]) hl (by intros;simp);exact⟨b,C,by show B6 pat.hp t=some 0;simp [B6,ht],by rw [Lm t' 0 hl (by simp [B6,Di])];exact h2,by rw [hg];exact h3,by rw [hg];exact h4,h5,h6,WA As hp hn Cs _ h h7⟩
   ·cases h
  ·cases h
 |row et z g x d=>
  simp only [I6]at h;split at h
  ·rename_i t' hl;split at h
   ·rename_i et' z' g' y d' Di;simp only [Ae,beq_iff_eq,Bool.or_eq_true,Bool.not_eq_true']at h;obtain⟨⟨⟨rfl,rfl⟩,hx⟩,hd⟩:=h;obtain⟨h1,h2,N,h3,h4,h5,h6⟩:=As.ents t' _ (by rw [Di];rfl);have hg:=TF t' (by simp [HK,ht]) hl (fun _ _ _ _ _ _ hh=>by rw [Di]at hh;cases hh);have Df:=Mt hp hn hx;have hK:B6 pat.hp t=some g:=by simp [B6,ht]
    refine⟨hK,ET g hK,N, ?_,fun b hb=>SW (h4 b hb),fun DY=> ?_,fun hdf=> ?_⟩
    ·rw [Lm t' g' hl (by simp [B6,Di]),hg];show Dd c.w et z _ (x.den (ρ++(EL.of es).den c.ρ)) _ N;rw [Df];exact h3
    ·rw [hg];exact h5 (by rcases hd with hd|hd;rw [DY]at hd;cases hd;exact hd)
    ·rw [hg];cases d' with
     |false=>exact h6 rfl
     |true=>obtain⟨u1,u2⟩:=h5 rfl;rw [u2];exact u1
   ·rename_i et' z' l' g' ep' y Di;simp only [Ae,beq_iff_eq,Bool.not_eq_true']at h;obtain⟨⟨⟨rfl,rfl⟩,hx⟩,rfl⟩:=h;obtain⟨h1,h2,_,h3,h4⟩:=As.ents t' _ (by rw [Di];rfl);have hg:(Dm c (ρ++(EL.of es).den c.ρ) θ pat leaf).G t=⟨(c.G t').top.take 1, []⟩:=by
     rw [sY t' (by simp [HK,ht]) hl,ht,Di];rfl
    have Df:=Mt hp hn hx;have hK:B6 pat.hp t=some g:=by simp [B6,ht]
    obtain⟨f,k1,k2⟩:=h3.ownRow;have Co:((c.G t').top.take 1++(c.G t').top.drop 1).Nodup:=by rw [List.take_append_drop];have:=As.gw.nodup t';simp only [GI.own,h4,List.append_nil]at this;exact this
    refine⟨hK,ET g hK,f, ?_,fun b hb=> ?_,fun DY=>(by cases DY),fun _=>by rw [hg]⟩
    ·rw [Lm t' g' hl (by simp [B6,Di]),hg];show Dd c.w et z _ (x.den (ρ++(EL.of es).den c.ρ)) _ f;rw [Df];exact k1
    ·have CK:b∈(c.G t').top:=List.mem_of_mem_drop (k2 b hb);refine⟨fun⟨u,hu⟩=> ?_, .inr (As.gw.allow t' b (by simp [GI.own,CK]))⟩;obtain⟨_,v',BG,_,TQ⟩:=N7 (b:=b) (by simp only [GI.own,Ai];exact .inl hu);have hv:v'=t':=Classical.byContradiction fun A5=>As.gw.cz v' t' A5 b TQ (by simp [GI.own,CK]);subst hv;have:=ZN hθ (NO BG) (NO hl);subst this;rw [hg]at hu;exact(List.nodup_append.1 Co).2.2 b hu b (k2 b hb) rfl
   ·cases h
  ·rename_i hl;simp only [Ae,decide_eq_true_eq]at h;have Df:=Mt hp hn h.1;have hK:B6 pat.hp t=some g:=by simp [B6,ht]
   have hg:(Dm c (ρ++(EL.of es).den c.ρ) θ pat leaf).G t=⟨[], []⟩:=by simp [Dm,hl]
   refine⟨hK,ET g hK, [],⟨[], ?_,by simp,h.2, .inl ⟨rfl,⟨none, ?_⟩,by rw [hg],rfl⟩⟩,by simp,fun _=>⟨rfl,by rw [hg]⟩,fun _=>by rw [hg]⟩
   ·show x.den (ρ++(EL.of es).den c.ρ)=_;rw [Df];rfl
   ·simp [Dm,hl]
  ·cases h
 |cf g x=>
  have hg:=sX (by simp [HK,ht]);have hK:B6 pat.hp t=some g:=by simp [B6,ht]
  simp only [I6]at h;split at h
  ·rename_i t' hl;have IC: ∀b,b∈(c.G t').top→(Dm c (ρ++(EL.of es).den c.ρ) θ pat leaf).ok b:=by
    intro b hb;refine⟨fun⟨u,hu⟩=> ?_, .inr (As.gw.allow t' b (by simp [GI.own,hb]))⟩;obtain⟨ho,v',BG,Cm,TQ⟩:=N7 (b:=b) (by simp only [GI.own,Ai];exact .inl hu);have hv:v'=t':=Classical.byContradiction fun A5=>As.gw.cz v' t' A5 b TQ (by simp [GI.own,hb]);subst hv;have:=ZN hθ (NO BG) (NO hl);subst this;simp [HK,ht]at ho
   split at h
   ·rename_i et' z' g' y d' Di;obtain⟨h1,h2,N,h3,h4,h5,h6⟩:=As.ents t' _ (by rw [Di];rfl);obtain⟨f,r1,r2,_⟩:=h3.rd;refine⟨hK,⟨f, ?_,fun b hb=>(r2 b hb).elim (IC b) fun hb=>SW (h4 b hb)⟩,by rw [hg],by rw [hg]⟩;rw [Lm t' g' hl (by simp [B6,Di])];show Rd c.w _ [x.den (ρ++(EL.of es).den c.ρ)] f;rw [Mt hp hn h];exact r1
   ·rename_i g' y Di;obtain⟨h1,⟨f,r1,r2⟩,_,_⟩:=As.ents t' _ (by rw [Di];rfl);refine⟨hK,⟨f, ?_,fun b hb=>SW (r2 b hb)⟩,by rw [hg],by rw [hg]⟩;rw [Lm t' g' hl (by simp [B6,Di])];show Rd c.w _ [x.den (ρ++(EL.of es).den c.ρ)] f;rw [Mt hp hn h];exact r1
   ·rename_i et' z' l' g' ep' y Di;obtain⟨h1,h2,_,h3,h4⟩:=As.ents t' _ (by rw [Di];rfl);obtain⟨f,r1,r2⟩:=h3.rd;refine⟨hK,⟨f, ?_,fun b hb=>IC b (r2 b hb)⟩,by rw [hg],by rw [hg]⟩;rw [Lm t' g' hl (by simp [B6,Di])];show Rd c.w _ [x.den (ρ++(EL.of es).den c.ρ)] f;rw [Mt hp hn h];exact r1
   ·cases h
  ·cases h
 |hol=>simp [I6]at h
 |deep et z dl g ep x=>
  have hE:(Dm c (ρ++(EL.of es).den c.ρ) θ pat leaf).E t=ep:=by simp [Dm,ht]
  have hK:B6 pat.hp t=some g:=by simp [B6,ht]
  simp only [I6]at h;split at h
  ·rename_i t' hl;split at h
   ·rename_i et' z' dl' g' ep' y Di;simp only [Ae,beq_iff_eq]at h;obtain⟨⟨⟨rfl,rfl⟩,cX⟩,hx⟩:=h;have cX:=AZ.jn cX;subst cX;obtain⟨h1,h2,_,h3,h4⟩:=As.ents t' _ (by rw [Di];rfl);have hg:=TF t' (by simp [HK,ht]) hl (by intros;simp);refine⟨hK,ET g hK,hE, ?_,by rw [hg];exact h4⟩;rw [Lm t' g' hl (by simp [B6,Di]),hg];show DC c.w _ _ [x.den (ρ++(EL.of es).den c.ρ)] _;rw [Mt hp hn hx];exact h3
   ·cases h
  ·rename_i hl;have hg:(Dm c (ρ++(EL.of es).den c.ρ) θ pat leaf).G t=⟨[], []⟩:=by simp [Dm,hl]
   simp only [Ae,decide_eq_true_eq,beq_iff_eq]at h;refine⟨hK,ET g hK,hE, ?_,by rw [hg]⟩;have e1:(Dm c (ρ++(EL.of es).den c.ρ) θ pat leaf).H t g= .slice none 0 0:=by simp [Dm,hl]
   rw [e1,hg];show DC c.w _ _ [x.den (ρ++(EL.of es).den c.ρ)] _;rw [Mt hp hn h.1.1];exact .void h.1.2 (by rw [AZ.bc];exact h.2) .nil
  ·cases h
 |gd gs e=>simp [I6]at h
 |dead=>have hg:=sX (by simp [HK,ht]);exact⟨by rw [hg],by rw [hg]⟩
end
theorem zyq {nv:Nat} {es:List E} {θ:List (Nat × Option Nat)} {pat leaf:St}: ∀(m:Nat) {ps ss:List SV},HQ nv es θ pat leaf m ps ss=true→ ∀{i:Nat} {p:SV},ps[i]?=some p→ ∃s k,ss[i]?=some s∧UF nv es θ pat leaf k p s=true
 |0,ps,ss,h,_,_,_=>by simp [HQ]at h
 |m+1, [],ss,h,i,p,hp=>by simp at hp
 |m+1,q::ps, [],h,i,p,hp=>by simp [HQ]at h
 |m+1,q::ps,s::ss,h,i,p,hp=>by
  simp only [HQ,Ae]at h;cases i with
  |zero=>simp at hp;subst hp;exact⟨s,m,rfl,h.1⟩
  |succ i=>simpa using zyq m h.2 (by simpa using hp)
theorem zDi:bH:=by
 intro F nv pat τ es ρ ρ' a w hi hn hp hr;obtain⟨c,rfl,rfl,KL,hA,bV,GH,hU,As⟩:=hr;unfold KO at hi;simp only at hi;split at hi
 ·rename_i Aw;simp only [Ah]at hi;generalize dA:(List.range (pat.nv-nv)).map (fun j=>((Qh nv pat τ true pat.hp (Qh nv pat τ false pat.hp (Nq nv pat τ 2000 ⟨[], []⟩ pat.sl τ.sl))).as_.lookup (nv+j)).getD (.int .i64 0))=es0 at Aw hi;subst hi;generalize (Qh nv pat τ true pat.hp (Qh nv pat τ false pat.hp (Nq nv pat τ 2000 ⟨[], []⟩ pat.sl τ.sl))).θ=θ at Aw;clear dA;simp only [x5,Ae,beq_iff_eq,AG,decide_eq_true_eq]at Aw;obtain⟨⟨⟨⟨⟨⟨h1,hθ⟩,hlen⟩,CV⟩,Ck⟩,hnx⟩,Up⟩:=Aw;have Cs: ∀t e,(t,e)∈pat.hp→I6 nv es0 θ pat τ t e=true:=fun t e he=>(Ck _ he).1;have Ak: ∀t e,(t,e)∈pat.hp→t<pat.nx:=fun t e he=>(Ck _ he).2;have Ul: ∀t e,AE pat.hp t=some e→ ∀gs e',e≠ .gd gs e':=by
   rintro t e he gs e' rfl;have:=Cs t _ (Jl he);simp [I6]at this
  have AQ: ∀t e e',AE pat.hp t=some e→(CD (ρ++(EL.of es0).den c.ρ) (AE pat.hp t) e'↔e'=e):=by
   intro t e e' he;rw [he];cases e with
   |gd gs e9=>exact absurd rfl (Ul t _ he gs e9)
   |_=>simp [CD,eq_comm]
  refine⟨Dm c (ρ++(EL.of es0).den c.ρ) θ pat τ,rfl,rfl,KL,hA,bV, ?_,fun t ht=>ht,As.defers,by rw [hlen];exact As.size,⟨As.base.os,As.base.tape,As.base.output,As.base.size,fun t v QN=> ?_,As.base.block,As.base.pk,As.base.lo⟩,fun i=> ?_,fun t e hr=> ?_,fun t Dt=> ?_,⟨fun t=> ?_,fun t u Nb b hb Cd=> ?_,fun t b hb=> ?_,fun t b hb=> ?_⟩,fun t g hk=> ?_,fun t e he=>Ak t e (Jl he)⟩
  ·rw [h1,EL.dt];simp [hn]
  ·have OP:Oh t=true:=F.oc t v (by rw [←hA];exact QN);refine⟨by
    show t<pat.nx;unfold Oh at OP;simp only [Ae,decide_eq_true_eq]at OP;omega,fun hk=> ?_⟩
   have B5:B6 pat.hp t=some 0:=hk;obtain⟨e,eU⟩: ∃e,AE pat.hp t=some e:=by
    unfold B6 at B5;cases hh:AE pat.hp t with
    |none=>rw [hh]at B5;cases B5
    |some e=>exact⟨e,rfl⟩
   have Ev:=Up _ (Jl eU);simp only [OP,Bool.not_true,Bool.false_or]at Ev;have main:θ.lookup t=some (some t)→B6 τ.hp t=some 0→c.K t 0→(Dm c (ρ++(EL.of es0).den c.ρ) θ pat τ).H t 0=v:=by intro hl hg hK;simp only [Dm,hl,hg,Option.getD_some];exact(As.base.pins t v QN).2 hK
   unfold Nj at Ev;simp only [B6,eU]at B5;rw [eU]at Ev;cases e with
   |box ty g cs=>
    simp only [Ae,beq_iff_eq]at Ev;obtain⟨hl,hb⟩:=Ev;split at hb
    ·rename_i ty' g' cs' Di;obtain⟨b,C,q1,_⟩:=As.ents t _ (by rw [Di];rfl);exact main hl (by simp [B6,Di]) q1
    ·cases hb
   |row ety sz g x d=>
    simp only [Ah]at B5;subst B5;simp only [bne_self_eq_false,Bool.false_or,Ae,beq_iff_eq]at Ev;obtain⟨hl,hb⟩:=Ev;split at hb
    ·rename_i ety' sz' g' x' d' Di;rw [beq_iff_eq]at hb;subst hb;obtain⟨q1,_⟩:=As.ents t _ (by rw [Di];rfl);exact main hl (by simp [B6,Di]) q1
    ·cases hb
   |cf g x=>simp only [Ah]at B5;subst B5;simp at Ev
   |gd=>simp at B5
   |dead=>simp at B5
   |hol=>simp at B5
   |deep ety sz l g ep x=>
    simp only [Ah]at B5;subst B5;simp only [bne_self_eq_false,Bool.false_or,Ae,beq_iff_eq]at Ev;obtain⟨hl,hb⟩:=Ev;split at hb
    ·rename_i Di;rw [beq_iff_eq]at hb;subst hb;obtain⟨q1,_⟩:=As.ents t _ (by rw [Di];rfl);exact main hl (by simp [B6,Di]) q1
    ·cases hb
  ·unfold BJ;cases O2:pat.sl[i]? with
   |none=>exact .undef .nil
   |some p=>obtain⟨s,k,hs,hk⟩:=zyq _ CV O2;have:=As.de i;unfold BJ at this;rw [hs]at this;exact xF As hp hn Cs k hk this
  ·cases he:AE pat.hp t with
   |none=>rw [he]at hr;exact hr.elim
   |some e9=>have OE:=(AQ t e9 e he).1 hr;subst OE;exact zzH As hp hn Cs hθ he
  ·have:HK pat.hp t=false:=by
    cases he:AE pat.hp t with
    |none=>simp [HK,he]
    |some e9=>exact absurd ((AQ t e9 e9 he).2 rfl) (Dt e9)
   simp [Dm,this]
  ·simp only [Dm];split
   ·split
    ·exact zAf (As.gw.nodup _)
    ·simp [GI.own]
   ·simp [GI.own]
  ·obtain⟨_,t',hl,_,CK⟩:=N7 hb;obtain⟨_,u',BG,_,Iy⟩:=N7 Cd;by_cases hh:t'=u'
   ·subst hh;exact Nb (ZN hθ (NO hl) (NO BG))
   ·exact As.gw.cz t' u' hh b CK Iy
  ·obtain⟨_,t',hl,_,CK⟩:=N7 hb;exact As.gw.allow t' b CK
  ·obtain⟨_,t',hl,_,CK⟩:=N7 hb;exact As.gw.inb t' b CK
  ·have B5:B6 pat.hp t=some g:=hk;unfold B6 at B5;show t<pat.nx;split at B5
   ·rename_i hh;exact Ak t _ (Jl hh)
   ·rename_i hh;exact Ak t _ (Jl hh)
   ·rename_i hh;exact Ak t _ (Jl hh)
   ·rename_i hh;exact Ak t _ (Jl hh)
   ·cases B5
 ·cases hi
theorem V1 (l:List DT): ∀(n k o m:Nat),k<n→o+m≤l.length→((Dp n l).drop (k*l.length+o)).take m=(l.drop o).take m
 |0,k,_,_,h,_=>by omega
 |n+1,0,o,m,_,hm=>by rw [P3,Nat.zero_mul,Nat.zero_add,List.drop_append_of_le_length (by omega),List.take_append_of_le_length (by simp;omega)]
 |n+1,k+1,o,m,h,hm=>by have ih:=V1 l n k o m (by omega) hm;rw [←ih,P3,show(k+1)*l.length+o=l.length+(k*l.length+o)from by rw [Nat.add_mul];omega,List.drop_append,List.drop_eq_nil_of_le (by omega)];simp
theorem DC.elem {w:World} {ys:List AV} {l:List DT} {cells:List Value} {N:List Nat} {z:Nat} (h:DC w (Dp ys.length l) cells (AL ys) N) (hl:l.length=z) (h7: ∀y∈ys,y.cells.length=z) {k o m:Nat} (hk:k<ys.length) (hm:o+m≤z):
  ∃M,(∀b∈M,b∈N)∧DC w ((l.drop o).take m) ((cells.drop (k*z+o)).take m) ((((AV.sl ys).nth k).cells.drop o).take m) M:=by
 obtain⟨N1,N2,N3,rfl,_,h2,_⟩:=h.split (k*z+o) m;subst hl;rw [V1 l _ _ _ _ hk hm,We ys h7 k _ (N8 hk) o m hm]at h2;exact⟨N2,fun b hb=>by simp [hb],h2⟩
theorem Rd.mn {w:World} {vs:List Value} {x:AV} {f:List Nat} {o m:Nat} {g:Bool} (h:Rd w vs ((x.cells.drop o).take m) f) (h9: ∀u∈vs,u.oneCell'=true) (hm:o+m≤x.cells.length) (h1:g=false→m=1):
  Rd w [if g then .agg vs.toArray else vs.headD undef] [x.fld o m g] f:=by
 cases g with
 |true=>have:=Rd.agg h9 h .nil;simpa [AV.fld]using this
 |false=>
  have:=h1 rfl;subst this;have e2:(x.cells.drop o).take 1= [x.cells[o]'(by omega)]:=by rw [List.drop_eq_getElem_cons (by omega),List.take_succ_cons,List.take_zero]
  rw [e2]at h;have hl:=h.len
  match vs,hl with
  | [v],_=>simpa [AV.fld,show o<x.cells.length by omega]using h
section
variable {P:Program} {c:Cx} {n nx:Nat} {sl sl0:Nat→SV} {hp hp0:Nat→Option Aj} {a:Act} {o:Oper} {gs:Gd} {e:A7} {sg:B0} {nv:Nat}
theorem zvd {w:World} {b p:Nat} {t:TypeId} {C:Array Value} {ty:TypeId} {fz:Nat × Nat} (hb:w.heap[b]?=some (.cells C ty fz)) (ht:DE P t=true) (hg:Ao P t=true∨P.cellsOf t=1) (hp:p+P.cellsOf t≤C.size):
  (Instr.loadAt t (.pointer (some ⟨b,p,none⟩))).run P w= .ok (if Ao P t then .agg ((C.toList.drop p).take (P.cellsOf t)).toArray else((C.toList.drop p).take (P.cellsOf t)).headD undef) w:=by
 have MX:((C.toList.drop p).take (P.cellsOf t)).length=P.cellsOf t:=by rw [List.length_take,List.length_drop,Array.length_toList];omega
 refine So ht _ (fun _=>MX) (fun h=> ?_) (fun j u hu=> ?_)
 ·rw [MX];rcases hg with h'|h';rw [h]at h';cases h';exact h'
 ·rw [Fe hb];rw [List.getElem?_take]at hu;split at hu
  ·simpa using hu
  ·cases hu
theorem zA7 {b g e z ep:Nat} {l:List DT} {c0 i:E} {t:TypeId} {k':Nat} {v:Value} (hE:Dn c b (.deep e z l g ep c0)) (hr:SR c [.c7 b g i z k'] [v]) (Bp:DE P t=true) (hle:k'+P.cellsOf t≤z) (AD:Ao P t=true∨P.cellsOf t=1):
  ∃u,(Instr.loadAt t v).run P c.w= .ok u c.w∧(((l.drop k').take (P.cellsOf t)).all DT.cg=true→Rd c.w [u] [(E.fld (.idx c0 i) k' (P.cellsOf t) (Ao P t)).den c.ρ] [])∧Q5 c b u ((E.fld (.idx c0 i) k' (P.cellsOf t) (Ao P t)).den c.ρ)∧(Ao P t=false→I0 c b g (some (i,z,k')) u):=by
 obtain⟨q1,q2,q3,q4,q5⟩:=hE;cases hr with
 |c7 h1 h2 h3 h4 h5 _=>
  rename_i q len cap kk k h6;obtain⟨d1,d2,⟨a9,d3,_⟩|⟨g9,cap9,C,ys,N1,d3,d4,d5,d6,d7,d8,d9,d10,d11,d12⟩⟩:=q4.inv
  ·rw [h2]at d3;cases d3;omega
  ·rw [h2]at d3;cases d3;rw [AZ.bc]at d2 d12;have hk:k.toNat<ys.length:=by omega
   have hmul:(k.toNat+1)*z≤ys.length*z:=Nat.mul_le_mul_right _ (by omega);have GB:ys.length*z≤cap*z:=Nat.mul_le_mul_right _ d7;rw [Nat.add_mul]at hmul;have AN:=zvd (P:=P) (t:=t) (p:=k.toNat*z+k') d6 Bp AD (by omega);obtain⟨M,m1,m2⟩:=d12.elem d2 d10 hk hle;have Gv:((C.toList.take (ys.length*z)).drop (k.toNat*z+k')).take (P.cellsOf t)=(C.toList.drop (k.toNat*z+k')).take (P.cellsOf t):=by rw [List.drop_take,List.take_take,Nat.min_eq_left (by omega)]
   rw [Gv]at m2;have C6: ∀u∈(C.toList.drop (k.toNat*z+k')).take (P.cellsOf t),u.oneCell'=true:=fun u hu=>d11 u (by rw [←Gv]at hu;exact List.mem_of_mem_drop (List.mem_of_mem_take hu))
   have tZ:((AV.sl ys).nth k.toNat).cells.length=z:=d10 _ (List.mem_of_getElem? (N8 hk));have Ce:(E.fld (.idx c0 i) k' (P.cellsOf t) (Ao P t)).den c.ρ=((AV.sl ys).nth k.toNat).fld k' (P.cellsOf t) (Ao P t):=by simp only [E.den,d4,h3,AV.idx]
   have Tz:Ao P t=false→P.cellsOf t=1:=fun h=>by rcases AD with h'|h';rw [h]at h';cases h';exact h'
   refine⟨_,AN,fun hf=> ?_, ?_,fun hf=> ?_⟩
   ·rw [Ce];exact(m2.ku hf).mn C6 (by omega) Tz
   ·obtain⟨f,r1,r2⟩:=m2.rd;rw [Ce];exact⟨f,r1.mn C6 (by omega) Tz,fun b hb=> .inr (by rw [d5];simp [m1 b (r2 b hb)])⟩
   ·refine⟨_,_,_,C,_,_,kk,k,h2,by rw [d5];simp,d6,h3,h4,h5, ?_⟩;have B2:=Tz hf;have Ak:k.toNat*z+k'<C.size:=by omega
    have e1:(C.toList.drop (k.toNat*z+k')).take 1= [C[k.toNat*z+k']]:=by rw [List.drop_eq_getElem_cons (by simpa using Ak),List.take_succ_cons,List.take_zero];simp
    rw [hf,B2,e1];simp [Ak]
end
section
variable {P:Program} {c:Cx} {n nx:Nat} {sl sl0:Nat→SV} {hp hp0:Nat→Option Aj} {a:Act} {o:Oper} {gs:Gd} {e:A7} {sg:B0} {nv:Nat}
theorem BD.c8: ∀l:BD,BD.of l.toList=l
 | .nil=>rfl
 | .cons s l=>by simp [BD.toList,BD.of,BD.c8 l]
theorem zB0 (h:Bt P c n nx sl hp a sl0 hp0 o gs) {t:TypeId} {x:Operand} (ho:o.op= .load t x) (he:BL P sg sl0 hp0 nv nx gs o=some e) (hc: ∀q∈e.ca,Cn.den c.ρ q):AB P o c n nx sl hp gs a e:=by
 have hm:x∈o.op.operands:=by simp [ho,Op.operands]
 simp only [BL,ho,Av,Au]at he;obtain⟨s,hs,e1,he,rfl⟩:=he;have hr:=(h.db hs hm).asPtr (fun q hq=>hc q (by simp [hq]));have MM: ∀q∈e1.ca,Cn.den c.ρ q:=fun q hq=>hc q (by simp [hq]);have ex:(execOp a.eval o).run P c.w=((Instr.loadAt t (a.eval x)).run P c.w).andThen fun v w=> .ok (.value v) w:=by simp [execOp,ho]
 unfold vH at he;split at he
 ·cases he
 rename_i Bp;have Bp:DE P t=true:=by simpa using Bp
 generalize Bh:(asPtr s).1=s1 at he hr;split at he
 ·rename_i b o';split at he
  ·rename_i ty g cs hl;obtain⟨s2,A6,rfl⟩:=Au.1 he;generalize ha:a.eval x=v at hr ex;cases hr with
   |cu h1 h2 _=>
    rename_i q;obtain⟨q',C,_,e2,e3,e4,e5,e5',e6⟩:=h.eh b _ (Db hl h.gs);rw [h2]at e2;cases e2;unfold Qp at A6;have hlen:=e6.len;split at A6
    ·rename_i AD;split at A6
     ·rename_i hle;simp at A6;subst A6;obtain⟨r1,r2⟩:=e6.split o';obtain⟨r3,r4⟩:=r2.split (P.cellsOf t);have:=SR.agg (cs:=BD.of ((cs.drop o').take (P.cellsOf t))) (fun u hu=>e5' u (List.mem_of_mem_drop (List.mem_of_mem_take hu))) (by rw [BD.bc];exact r3) .nil;refine AB.pure h (v:= .agg ((C.toList.drop o').take (P.cellsOf t)).toArray) ?_ this rfl;rw [ex,So Bp ((C.toList.drop o').take (P.cellsOf t)) (fun _=>by simp at hlen ⊢;omega) (fun h=>by rw [AD]at h;cases h) (fun j u hu=>by
       rw [Fe e5];rw [List.getElem?_take]at hu;split at hu
       ·simpa using hu
       ·cases hu)]
      simp [AD]
     ·cases A6
    ·rename_i AD;have AD:Ao P t=false:=by simpa using AD
     obtain⟨u,hu,r⟩:=e6.get A6;refine AB.pure h (v:=u) ?_ r rfl;rw [ex,So Bp [u] (fun h=>by rw [AD]at h;cases h) (fun _=>rfl) (fun j z hz=>by
      cases j with
      |zero=>simp at hz;subst hz;rw [Fe e5];simpa using hu
      |succ j=>simp at hz)]
     simp [AD]
  ·cases he
 ·rename_i b g i sz o';split at he
  ·rename_i e0 sz' g' c0 d hl;split at he
   ·rename_i hh;obtain⟨rfl,rfl,hle,AD⟩:=hh;simp at he;subst he;generalize ha:a.eval x=v at hr ex;cases hr with
    |c7 h1 h2 h3 h4 h5 _=>
     rename_i q len cap kk k h6;obtain⟨_,_,N,r1,r2,_,_⟩:=h.eh b _ (Db hl h.gs);obtain⟨f,r3,_,r4⟩:=r1.rd;obtain⟨xs,CP,AF,h0,Bl⟩:=r1;rw [h2]at r3 Bl;have hk:k.toNat<len:=by omega
     have Kc:xs.length=len:=by
      rcases Bl with⟨_,⟨_,hv⟩,_⟩|⟨_,_,_,hv,_⟩
      ·cases hv;omega
      ·simp at hv;exact hv.2.1.symm
     have Cf:((c0.den c.ρ).nth k.toNat).cells.length=sz:=by rw [CP];exact AF _ (List.mem_of_getElem? (N8 (xs:=xs) (by omega)))
     obtain⟨v',q',g1,g2,g3⟩:=qE r3 hk Cf Bp hle AD;refine AB.pure h (v:=v') ?_ (.e (f:=q') ?_ ?_ .nil) rfl
     ·rw [ex];rw [Nat.zero_add]at g1;simp [g1]
     ·simpa [E.den,AV.idx,h3]using g3
     ·exact fun z hz=>r2 z (r4 z (g2 z hz))
   ·cases he
  ·rename_i e0 sz' l g' ep c0 hl;split at he
   ·rename_i hh;obtain⟨rfl,rfl,hle,AD⟩:=hh;generalize ha:a.eval x=v at hr ex;have hE:=h.eh b _ (Db hl h.gs);obtain⟨u,k1,k2,k3,k4⟩:=zA7 (P:=P) (t:=t) hE hr Bp hle AD;have AN:(execOp a.eval o).run P c.w= .ok (.value u) c.w:=by rw [ex,k1];rfl
    split at he
    ·rename_i hf;simp only [Ah]at he;subst he;exact AB.pure h AN (.e (k2 hf) (by simp) .nil) rfl
    ·simp only [Ah]at he;subst he;cases hr with
     |c7 h1 _ _ _ _ _=>
      refine AB.pure h AN (.via h1 (Nat.le_of_eq hE.2.2.1.symm) (fun _=>⟨k3, ?_⟩) .nil) rfl;split
      ·exact trivial
      ·rename_i Hk;exact k4 (by simpa using Hk)
   ·cases he
  ·cases he
 ·rename_i b g m pth y i sz o';split at he
  ·rename_i hh;obtain⟨hle,AD,hv⟩:=hh;have hE:=SZ h.eh h.gs hv;generalize ha:a.eval x=v at hr ex;cases hr with
   |vptr h1 h2 h3 _=>
    obtain⟨q,off,len,cap,kk,k,⟨f,p1,p2⟩,_,p4,p5,p6,p7,rfl⟩:=h3 hE;obtain⟨v',q',g1,g2,g3⟩:=qE (fo:=o') p1 (by omega) p7 Bp hle AD;have AN:(execOp a.eval o).run P c.w= .ok (.value v') c.w:=by rw [ex];simp [g1]
    have Ce:Rd c.w [v'] [(E.fld (.idx y i) o' (P.cellsOf t) (Ao P t)).den c.ρ] q':=by simpa [E.den,AV.idx,p4]using g3
    split at he
    ·simp only [Ah]at he;subst he;obtain⟨f1,f2,f3,f4⟩:=B2 MM;have hq:q'= []:=by
      cases hg:Ao P t with
      |true=>obtain⟨cs,Bm⟩:=f3 hg;obtain⟨as_,rfl,_,r⟩:=Kw Ce Bm;exact Ij r (by rw [Bm]at f2;exact f2)
      |false=>exact Ij Ce (by simpa using f4 hg)
     subst hq;exact AB.pure h AN (.e Ce (by simp) .nil) rfl
    ·simp only [Ah]at he;subst he;exact AB.pure h AN (.via h1 h2 (fun _=>⟨⟨q',Ce,fun z hz=>p2 z (List.mem_of_mem_tail (g2 z hz))⟩,trivial⟩) .nil) rfl
  ·cases he
 ·rename_i y i sz o';split at he
  ·rename_i hh;obtain⟨hle,AD⟩:=hh;simp at he;subst he;generalize ha:a.eval x=v at hr ex;cases hr with
   |du h1 h2 h3 h4 h5 h6 _=>rename_i q off len cap f kk k;obtain⟨v',q',g1,g2,g3⟩:=qE (fo:=o') h1 (by omega) h6 Bp hle AD;refine AB.pure h (v:=v') ?_ (.e (f:=q') (by simpa [E.den,AV.idx,h3]using g3) (fun z hz=>h2 z (List.mem_of_mem_tail (g2 z hz))) .nil) rfl;rw [ex];simp [g1]
  ·cases he
 ·rename_i y o';split at he
  ·rename_i AD;simp at he;subst he;generalize ha:a.eval x=v at hr ex;cases hr with
   |dr h1 h2 _=>
    rename_i q f;obtain⟨z,hz,hle⟩:=B2 MM;rw [hz]at h1;cases h1 with
    |ref hb Cd H6 CR=>
     rename_i C ty fz f1 f2;obtain⟨q',g1,g2⟩:=H6.j6 Cd o' (P.cellsOf t) (Ao P t) hle (fun h=>by rcases AD with h'|h';rw [h]at h';cases h';exact h');have MX:((C.toList.drop o').take (P.cellsOf t)).length=P.cellsOf t:=by have:=H6.len;rw [List.length_take,List.length_drop];omega
     refine AB.pure h ?_ (.e (f:=q') (by simpa [E.den,hz,AV.deref]using g2) (fun z hz=>h2 z (by simp [g1 z hz])) .nil) rfl;rw [ex,So Bp ((C.toList.drop o').take (P.cellsOf t)) (fun _=>MX) (fun h=>by rw [MX];rcases AD with h'|h';rw [h]at h';cases h';exact h') (fun j u hu=>by
       rw [Fe hb];rw [List.getElem?_take]at hu;split at hu
       ·simpa using hu
       ·cases hu)]
     simp
  ·cases he
 ·cases he
end
theorem Qd (k:IntKind) (n:Int):E7 k n↔k.min≤n∧n≤k.max:=by unfold E7;cases k<;>simp only [IntKind.wrap,IntKind.bits,IntKind.signed,IntKind.min,IntKind.max]<;>simp<;>(try split)<;>omega
theorem qU (k:IntKind) (n:Int):E7 k (k.wrap n):=by rw [Qd];cases k<;>simp only [IntKind.wrap,IntKind.bits,IntKind.signed,IntKind.min,IntKind.max]<;>simp<;>(try split)<;>omega
theorem zDy {k:IntKind} {x y:Int} (h:E7 k x):E7 k (x.tmod y):=by
 rw [Qd]at h ⊢;have h1:(x.tmod y).natAbs≤x.natAbs:=by rw [Int.natAbs_tmod];exact Nat.mod_le _ _
 have h2:0≤x→0≤x.tmod y:=Int.tmod_nonneg y;have eJ:k.min≤0:=by cases k<;>decide
 have Eu:0≤k.max:=by cases k<;>decide
 constructor
 ·by_cases h0:0≤x
  ·have:=h2 h0;omega
  ·omega
 ·by_cases h0:0≤x
  ·omega
  ·have h3:x.tmod y≤0:=by
    have:=Int.tmod_nonneg (a:= -x) y (by omega);rw [Int.neg_tmod]at this;omega
   omega
theorem zC0 {k:IntKind} {x:Int} (m:Nat) (h:E7 k x):E7 k (x.fdiv (2^m)):=by
 rw [Qd]at h ⊢;have hp:(0:Int)<2^m:=Int.pow_pos (by decide);rw [Int.fdiv_eq_ediv_of_nonneg _ (Int.le_of_lt hp)];have eJ:k.min≤0:=by cases k<;>decide
 have Eu:0≤k.max:=by cases k<;>decide
 have h1:(1:Int)≤2^m:=hp;constructor
 ·rcases Int.le_total 0 x with h0|h0
  ·have:=Int.ediv_nonneg h0 (Int.le_of_lt hp);omega
  ·have:x≤x/2^m:=by
    rw [Int.le_ediv_iff_mul_le hp];have:=Int.mul_le_mul_of_nonpos_left h0 h1;omega
   omega
 ·rcases Int.le_total 0 x with h0|h0
  ·have:=Int.ediv_le_self (2^m) h0;omega
  ·have h2:x/2^m≤0:=by
    have:=Int.ediv_le_ediv hp h0;simpa using this
   omega
section
variable {P:Program} {c:Cx} {n nx:Nat} {sl sl0:Nat→SV} {hp hp0:Nat→Option Aj} {a:Act} {o:Oper} {gs:Gd} {e:A7} {sg:B0} {nv:Nat}
def AV.val:AV→Value
 | .int k n=> .int k n
 | .bool b=> .bool b
 | .str s=> .string ⟨s.toArray⟩
 |_=>Go.undef
theorem zzr {op:BinOp} {k k':IntKind} {x y:Int} (hk:k=k'∨op= .shl∨op= .shr) (hz:op= .quo∨op= .rem→y≠0) (hs:op= .shl∨op= .shr→0≤y) (t:TypeId) (p q:Operand) (w:World):
  (do eqGuard op t p q (.int k x) (.int k' y);binOp op t (.int k x) (.int k' y):Sem Value).run P w= .ok (BT op k x y).val w:=by
 have hg:=eqGuard_at_int op t p q (.int k' y) k x;cases op<;>simp only [reduceCtorEq,or_false,or_true,or_self]at hk hz hs<;>simp only [hg]
 all_goals first
  |(subst hk;simp [binOp,Op.intArith,Op.intCmp,Op.intBits,BT,AV.val];done)
  |(subst hk;have:=hz trivial;simp [binOp,Op.intDiv,BT,AV.val,this];done)
  |(have:=hs trivial;simp [binOp,Op.shift,BT,AV.val,Int.not_lt.2 this];done)
theorem zCj {op:BinOp} {k:IntKind} {x y:Int} (hx:E7 k x) (w:World):Rd w [(BT op k x y).val] [BT op k x y] []:=by
 cases op<;>simp only [BT,AV.val]<;>first
  |exact .int (qU _ _) .nil
  |exact .bool .nil
  |exact .int (zDy hx) .nil
  |exact .int (zC0 _ hx) .nil
theorem Rd.jj {w:World} {v:Value} {x:AV} {f:List Nat} (h:Rd w [v] [x] f):x≠ .undef:=by rintro rfl;cases h
theorem qC {ρ:List AV}: ∀(x:E) {k:IntKind},Cz x=some k→x.den ρ≠ .undef→ ∃m,x.den ρ= .int k m
 | .int k n,_,h,_=>by simp [Cz]at h;subst h;exact⟨n,rfl⟩
 | .len y,_,h,hd=>by
  simp [Cz]at h;subst h;simp only [E.den,AV.len]at hd ⊢;split at hd
  ·exact⟨_,rfl⟩
  ·exact absurd rfl hd
 | .slen y,_,h,hd=>by
  simp [Cz]at h;subst h;simp only [E.den,AV.slen]at hd ⊢;split at hd
  ·exact⟨_,rfl⟩
  ·exact absurd rfl hd
 | .conv k y,_,h,hd=>by
  simp [Cz]at h;subst h;simp only [E.den,AV.conv]at hd ⊢;split at hd
  ·exact⟨_,rfl⟩
  ·exact absurd rfl hd
 | .bin op x y,k,h,hd=>by
  simp only [E.den]at hd ⊢;have hx:x.den ρ≠ .undef:=by rintro hh;rw [hh]at hd;exact hd (by simp [AV.bin])
  cases op<;>simp only [Cz,reduceCtorEq]at h
  all_goals
   obtain⟨m,hm⟩:=qC x h hx;rw [hm]at hd ⊢;cases hy:y.den ρ<;>rw [hy]at hd<;>simp only [AV.bin]at hd ⊢ <;>first
    |exact absurd rfl hd
    |(split at hd
      ·rename_i hk;rw [if_pos hk];exact⟨_,rfl⟩
      ·exact absurd rfl hd)
 | .var _,_,h,_=>by simp [Cz]at h
 | .bool _,_,h,_=>by simp [Cz]at h
 | .str _,_,h,_=>by simp [Cz]at h
 | .ej,_,h,_=>by simp [Cz]at h
 | .lst _,_,h,_=>by simp [Cz]at h
 | .mk _,_,h,_=>by simp [Cz]at h
 | .tup _,_,h,_=>by simp [Cz]at h
 | .ref _,_,h,_=>by simp [Cz]at h
 | .fn ..,_,h,_=>by simp [Cz]at h
 | .fld ..,_,h,_=>by simp [Cz]at h
 | .proj ..,_,h,_=>by simp [Cz]at h
 | .deref _,_,h,_=>by simp [Cz]at h
 | .idx ..,_,h,_=>by simp [Cz]at h
 | .sidx ..,_,h,_=>by simp [Cz]at h
 | .win ..,_,h,_=>by simp [Cz]at h
 | .swin ..,_,h,_=>by simp [Cz]at h
 | .app ..,_,h,_=>by simp [Cz]at h
 | .set ..,_,h,_=>by simp [Cz]at h
 | .put ..,_,h,_=>by simp [Cz]at h
 | .rep ..,_,h,_=>by simp [Cz]at h
 | .sbin ..,_,h,_=>by simp [Cz]at h
 | .bbin ..,_,h,_=>by simp [Cz]at h
 | .not _,_,h,_=>by simp [Cz]at h
 | .neg _,_,h,_=>by simp [Cz]at h
 | .ite ..,_,h,_=>by simp [Cz]at h
 | .bytes _,_,h,_=>by simp [Cz]at h
 | .text _,_,h,_=>by simp [Cz]at h
end
section
variable {P:Program} {c:Cx} {n nx:Nat} {sl sl0:Nat→SV} {hp hp0:Nat→Option Aj} {a:Act} {o:Oper} {gs:Gd} {e:A7} {sg:B0} {nv:Nat}
theorem Ig {s:SV} {v:Value} {x:E} (h:SR c [s] [v]) (hx:FP s=some x): ∃f,Rd c.w [v] [x.den c.ρ] f∧ ∀b∈f,c.ok b:=by
 cases s<;>simp only [FP,Ah,reduceCtorEq]at hx;subst hx;cases h with
 |e h1 h2 _=>exact⟨_,h1,h2⟩
theorem SR.dd {v:Value} {x:E} (h:Rd c.w [v] [x.den c.ρ] []):SR c [.e x] [v]:= .e h (by simp) .nil
theorem zz0 {ρ:List AV} {op:BinOp} {x y:E} {w:World} {v u:Value} {f g:List Nat} (h1:Rd w [v] [x.den ρ] f) (h2:Rd w [u] [y.den ρ] g) (hd:SJ (.bin op x y)=true→(E.bin op x y).den ρ≠ .undef):
  ∃k k' p q,x.den ρ= .int k p∧y.den ρ= .int k' q∧(k=k'∨op= .shl∨op= .shr)∧(E.bin op x y).den ρ=BT op k p q∧E7 k p∧v= .int k p∧u= .int k' q:=by
 have key:(∃k k' p q,x.den ρ= .int k p∧y.den ρ= .int k' q∧(k=k'∨op= .shl∨op= .shr)):=by
  by_cases hn:SJ (.bin op x y)=true
  ·have:=hd hn;simp only [E.den]at this;cases hx:x.den ρ<;>cases hy:y.den ρ<;>simp only [hx,hy,AV.bin,ne_eq,not_true_eq_false]at this;split at this
   ·exact⟨_,_,_,_,rfl,rfl,by assumption⟩
   ·exact absurd rfl this
  ·have hn:SJ (.bin op x y)=false:=by simpa using hn
   have hk:(Cz x).isSome=true∧(Cz x==Cz y)=true:=by cases op<;>simp [SJ]at hn<;>simpa using hn
   obtain⟨k,Jc⟩:=Option.isSome_iff_exists.1 hk.1;have JY:Cz y=some k:=by rw [←beq_iff_eq.1 hk.2,Jc]
   obtain⟨p,hp⟩:=qC x Jc h1.jj;obtain⟨q,hq⟩:=qC y JY h2.jj;exact⟨k,k,p,q,hp,hq, .inl rfl⟩
 obtain⟨k,k',p,q,hp,hq,MW⟩:=key;obtain⟨hv,Ch⟩:=Ha h1 hp;obtain⟨hu,_⟩:=Ha h2 hq;exact⟨k,k',p,q,hp,hq,MW,by simp only [E.den,hp,hq,AV.bin,if_pos MW],Ch,hv,hu⟩
theorem z8 (a b:ByteArray):(a.toList==b.toList)=(a.data.toList==b.data.toList):=by rw [ByteArray.toList_eq,ByteArray.toList_eq]
theorem zuO {α β γ:Type} (r:Result α) (f:α→World→Result β) (g:β→World→Result γ):(r.andThen f).andThen g=r.andThen fun a w=>(f a w).andThen g:=by cases r<;>rfl
theorem oP (d:Nat) {t:TypeId} (p q:Bool) (h:P.underlying t=some .bool) (w:World):(Op.equalIn (d+1) t (.bool p) (.bool q)).run P w= .ok (p==q) w:=by simp [Op.equalIn,run_underlying h]
theorem zzP {t:TypeId} (p q:Bool) (h:P.underlying t=some .bool) (w:World):(binOp .eql t (.bool p) (.bool q)).run P w= .ok (.bool (p==q)) w:=by simp only [binOp];simp [Op.equal,Op.maxDepth,oP 9999 p q h]
theorem zzG {t:TypeId} (p q:Bool) (h:P.underlying t=some .bool) (w:World):(binOp .neq t (.bool p) (.bool q)).run P w= .ok (.bool (!(p==q))) w:=by simp only [binOp];simp [Op.equal,Op.maxDepth,oP 9999 p q h]
theorem Qj {op:BinOp} {t ty:TypeId} {x y:Operand} (ho:o.op= .binOp op t x y ty) (w:World) {v u:Value} (hv:a.eval x=v) (hu:a.eval y=u):
  (execOp a.eval o).run P w=((do eqGuard op t x y v u;binOp op t v u:Sem Value).run P w).andThen fun v w=> .ok (.value v) w:=by
 simp only [execOp,ho,hv,hu,Sem.run_bind,zuO,Sem.run_pure]
theorem zZ (h:Bt P c n nx sl hp a sl0 hp0 o gs) {op:BinOp} {t el:TypeId} {x y:Operand} {ty:TypeId} (ho:o.op= .binOp op t x y ty) (hu:P.underlying t=some (.slice el)) (r1:SR c [.cq] [a.eval x]) (r2:SR c [.cq] [a.eval y])
  (AS:op= .eql∨op= .neq):AB P o c n nx sl hp gs a {val:= .e (.bool (op== .eql))}:=by
 have ex:=fun(v u:Value) (hv:a.eval x=v) (hu:a.eval y=u)=>Qj (P:=P) (o:=o) ho c.w hv hu;generalize Fc:a.eval x=v1 at r1;generalize DB:a.eval y=v2 at r2;cases r1 with
 |cq _=>cases r2 with
  |cq _=>
   refine AB.pure h (v:= .bool (op== .eql)) ?_ (.dd (.bool .nil)) rfl;rw [ex _ _ Fc DB,eqGuard_at_slice];rcases AS with rfl|rfl
   ·simp [run_eql_nil_slice c.w t el none 0 0 0 0 hu]
   ·simp [run_neq_nil_slice c.w t el none 0 0 0 0 hu]
theorem zw6 (h:Bt P c n nx sl hp a sl0 hp0 o gs) {op:BinOp} {t:TypeId} {x y:Operand} {ty:TypeId} (ho:o.op= .binOp op t x y ty) {s1 s2:SV} (r1:SR c [s1] [a.eval x]) (r2:SR c [s2] [a.eval y])
  {x' y':E} (Df:FP s1=some x') (Bz:FP s2=some y') (hd:SJ (.bin op x' y')=true→Cn.den c.ρ (.dfd (.bin op x' y'))) (hnz:op= .quo∨op= .rem→Cn.den c.ρ (.nz y')) (hnn:op= .shl∨op= .shr→Cn.den c.ρ (.nn y')) {ck:List Cn}:
  AB P o c n nx sl hp gs a {ca:=ck,val:= .e (.bin op x' y')}:=by
 obtain⟨f1,g1,_⟩:=Ig r1 Df;obtain⟨f2,g2,_⟩:=Ig r2 Bz;obtain⟨k,k',p,q,e1,e2,MW,e3,Ch,hv,F4⟩:=zz0 (op:=op) g1 g2 hd;refine AB.pure h (v:=(BT op k p q).val) ?_ (.dd (by rw [e3];exact zCj Ch _)) rfl;rw [Qj ho c.w hv F4,zzr MW (fun AS=> ?_) (fun AS=> ?_)]
 ·simp
 ·obtain⟨_,m,hm,Es⟩:=hnz AS;rw [e2]at hm;cases hm;exact Es
 ·obtain⟨_,m,hm,Es⟩:=hnn AS;rw [e2]at hm;cases hm;exact Es
theorem zvX (h:Bt P c n nx sl hp a sl0 hp0 o gs) {op:BinOp} {t:TypeId} {x y:Operand} {ty:TypeId} (ho:o.op= .binOp op t x y ty) {s1 s2:SV} (r1:SR c [s1] [a.eval x]) (r2:SR c [s2] [a.eval y])
  {x' y':E} (Df:FP s1=some x') (Bz:FP s2=some y') (hd:Cn.den c.ρ (.dfd (.sbin op x' y'))) (CF:op= .add→Cn.den c.ρ (.roomS x' y')) {ck:List Cn}:
  AB P o c n nx sl hp gs a {ca:=ck,val:= .e (.sbin op x' y')}:=by
 obtain⟨f1,g1,_⟩:=Ig r1 Df;obtain⟨f2,g2,_⟩:=Ig r2 Bz;have hd:AV.sbin op (x'.den c.ρ) (y'.den c.ρ)≠ .undef:=hd;cases hx:x'.den c.ρ<;>cases hy:y'.den c.ρ<;>simp only [hx,hy,AV.sbin,ne_eq,not_true_eq_false]at hd;obtain⟨b1,Fc,rfl,_⟩:=Tb g1 hx;obtain⟨b2,DB,rfl,_⟩:=Tb g2 hy;have hle:op= .add→b1.size+b2.size≤9223372036854775807:=fun AS=>by obtain⟨p,q,hp,hq,hle⟩:=CF AS;rw [hx]at hp;rw [hy]at hq;cases hp;cases hq;simpa using hle
 refine AB.pure h (v:=match op with| .add=> .string (b1++b2)|_=>(Ta op b1.data.toList b2.data.toList).val) ?_ (.dd ?_) rfl
 ·rw [Qj ho c.w Fc DB,eqGuard_at_string];cases op<;>first
   |(exact absurd rfl hd)
   |(have:=hle rfl;simp [binOp,Op.stringOp];omega)
   |(simp [binOp,Op.stringOp,Ta,AV.val,ByteArray.toList_eq,bne];done)
 ·simp only [E.den,hx,hy,AV.sbin];cases op<;>simp only [Ta,AV.val,ne_eq,not_true_eq_false]at hd ⊢ <;>first
   |exact .bool .nil
   |(have:=hle rfl
     have h9:=Rd.str (w:=c.w) (s:=b1++b2) (by simpa using this) .nil;simpa using h9)
theorem zvu (h:Bt P c n nx sl hp a sl0 hp0 o gs) {op:BinOp} {t:TypeId} {x y:Operand} {ty:TypeId} (ho:o.op= .binOp op t x y ty) (hu:P.underlying t=some .bool) {s1 s2:SV} (r1:SR c [s1] [a.eval x]) (r2:SR c [s2] [a.eval y])
  {x' y':E} (Df:FP s1=some x') (Bz:FP s2=some y') (hd:Cn.den c.ρ (.dfd (.bbin op x' y'))) {ck:List Cn}:
  AB P o c n nx sl hp gs a {ca:=ck,val:= .e (.bbin op x' y')}:=by
 obtain⟨f1,g1,_⟩:=Ig r1 Df;obtain⟨f2,g2,_⟩:=Ig r2 Bz;have hd:AV.bbin op (x'.den c.ρ) (y'.den c.ρ)≠ .undef:=hd;cases hx:x'.den c.ρ<;>cases hy:y'.den c.ρ<;>simp only [hx,hy,AV.bbin,ne_eq,not_true_eq_false]at hd;rename_i p q;have Fc:=IQ g1 hx;have DB:=IQ g2 hy;refine AB.pure h (v:=(AV.bbin op (.bool p) (.bool q)).val) ?_ (.dd ?_) rfl
 ·rw [Qj ho c.w Fc DB,eqGuard_at_bool];cases op<;>simp only [ne_eq,not_true_eq_false]at hd
  ·simp [zzP p q hu,AV.bbin,AV.val]
  ·simp [zzG p q hu,AV.bbin,AV.val,bne]
 ·simp only [E.den,hx,hy];cases op<;>simp only [AV.bbin,AV.val,ne_eq,not_true_eq_false]at hd ⊢ <;>exact .bool .nil
theorem zDl (h:Bt P c n nx sl hp a sl0 hp0 o gs) {op:BinOp} {t:TypeId} {x y:Operand} {ty:TypeId} (ho:o.op= .binOp op t x y ty) (M3: ∀fs,P.underlying t≠some (.struct fs)) (he:BL P sg sl0 hp0 nv nx gs o=some e) (hq:e.cm=none) (hc: ∀q∈e.ca,Cn.den c.ρ q):AB P o c n nx sl hp gs a e:=by
 have Et:x∈o.op.operands:=by simp [ho,Op.operands]
 have DF:y∈o.op.operands:=by simp [ho,Op.operands]
 simp only [BL,ho,Av]at he;obtain⟨s1,BO,s2,A6,he⟩:=he;have r1:=h.db BO Et;have r2:=h.db A6 DF;unfold Tf at he;split at he
 ·rename_i el hu;split at he
  ·simp at he;subst he;exact zZ h ho hu r1 r2 (.inl rfl)
  ·simp at he;subst he;exact zZ h ho hu r1 r2 (.inr rfl)
  ·obtain⟨_,_,rfl⟩:=Au.1 he;cases hq
  ·obtain⟨_,_,rfl⟩:=Au.1 he;cases hq
  ·cases he
 ·rename_i kk hu;split at he
  ·rename_i x' y' Df Bz;simp at he;subst he;exact zw6 h ho r1 r2 Df Bz (fun hn=>hc _ (by simp [hn])) (fun AS=>hc _ (by rcases AS with rfl|rfl<;>simp)) (fun AS=>hc _ (by rcases AS with rfl|rfl<;>simp))
  ·cases he
 ·rename_i hu;split at he
  ·rename_i x' y' Df Bz;simp at he;subst he;exact zvX h ho r1 r2 Df Bz (hc _ (by simp)) (fun AS=>hc _ (by subst AS;simp))
  ·cases he
 ·rename_i hu;split at he
  ·rename_i x' y' Df Bz;simp at he;subst he;exact zvu h ho hu r1 r2 Df Bz (hc _ (by simp))
  ·cases he
 ·rename_i fs hu;exact absurd hu (M3 fs)
 ·cases he
end
section
variable {P:Program} {c:Cx} {n nx:Nat} {sl sl0:Nat→SV} {hp hp0:Nat→Option Aj} {a:Act} {o:Oper} {gs:Gd} {e:A7} {sg:B0} {nv:Nat}
theorem Wp {t:TypeId} (h:DE P t=true) (cs:List Value) (off:Nat) (hle:off+P.cellsOf t≤cs.length) (hg:Ao P t=true∨P.cellsOf t=1) (w:World):
  (part t cs.toArray off).run P w= .ok (if Ao P t then .agg ((cs.drop off).take (P.cellsOf t)).toArray else((cs.drop off).take (P.cellsOf t)).headD Go.undef) w:=by
 cases ha:Ao P t with
 |true=>simp only [part,Sem.run_bind,Wa h,ha,PX h,Result.andThen_ok,if_true,Sem.run_pure];congr 2;apply Array.ext';rw [Array.toList_extract];simp [Nat.add_sub_cancel_left,List.extract_eq_take_drop]
 |false=>
  have h1:P.cellsOf t=1:=by rcases hg with h'|h';rw [ha]at h';cases h';exact h'
  have Ak:off<cs.length:=by omega
  have e1:(cs.drop off).take (P.cellsOf t)= [cs[off]]:=by rw [h1,List.drop_eq_getElem_cons Ak,List.take_succ_cons,List.take_zero]
  rw [e1];simp [part,Wa h,ha,Ak]
theorem zAi (h:Bt P c n nx sl hp a sl0 hp0 o gs) {t:TypeId} {x:Operand} {f:Nat} (ho:o.op= .field t x f) (he:BL P sg sl0 hp0 nv nx gs o=some e) (hc: ∀q∈e.ca,Cn.den c.ρ q):AB P o c n nx sl hp gs a e:=by
 have hm:x∈o.op.operands:=by simp [ho,Op.operands]
 simp only [BL,ho,Av]at he;obtain⟨s,hs,he⟩:=he;have hr:=h.db hs hm;split at he
 ·rename_i fs hu;split at he
  ·rename_i fd hf;split at he
   ·cases he
   ·rename_i Bp;have Bp:DE P fd.type=true:=by simpa using Bp
    have ex: ∀as_:List Value,a.eval x= .agg as_.toArray→(execOp a.eval o).run P c.w=((part fd.type as_.toArray fd.offset).run P c.w).andThen fun v w=> .ok (.value v) w:=fun as_ hv=>by simp [execOp,ho,Instr.field,run_underlying hu,hf,hv,asAgg]
    split at he
    ·rename_i cs;obtain⟨s2,A6,rfl⟩:=Au.1 he;generalize hv:a.eval x=v at hr;cases hr with
     |agg r8 r1 r9=>
      rename_i as_;have hlen:=r1.len;unfold Qp at A6;split at A6
      ·rename_i AD;split at A6
       ·rename_i hle;simp at A6;subst A6;obtain⟨q1,q2⟩:=r1.split fd.offset;obtain⟨q3,q4⟩:=q2.split (P.cellsOf fd.type);have:=SR.agg (cs:=BD.of ((cs.toList.drop fd.offset).take (P.cellsOf fd.type))) (fun u hu=>r8 u (List.mem_of_mem_drop (List.mem_of_mem_take hu))) (by rw [BD.bc];exact q3) .nil;refine AB.pure h (v:= .agg ((as_.drop fd.offset).take (P.cellsOf fd.type)).toArray) ?_ this rfl;rw [ex as_ hv,Wp Bp as_ fd.offset (by omega) (.inl AD)];simp [AD]
       ·cases A6
      ·rename_i AD;have AD:Ao P fd.type=false:=by simpa using AD
       obtain⟨u,F4,r⟩:=r1.get A6;refine AB.pure h (v:=u) ?_ r rfl;rw [ex as_ hv];simp [part,Wa Bp,AD,F4]
    ·rename_i y;split at he
     ·rename_i hh;obtain⟨hle,AD⟩:=hh;simp at he;subst he;generalize hv:a.eval x=v at hr;cases hr with
      |e h1 h2 _=>
       rename_i f1;obtain⟨cs,Bm,AF⟩:=B2 hc;obtain⟨as_,rfl,O6,CR⟩:=Kw h1 Bm;have hlen:=CR.len;have Gv:(y.den c.ρ).cells=cs:=by rw [Bm];rfl
       rw [←Gv]at CR;obtain⟨q,g1,g2⟩:=CR.j6 O6 fd.offset (P.cellsOf fd.type) (Ao P fd.type) (by rw [Gv];omega) (fun hh=>by rcases AD with h'|h';rw [hh]at h';cases h';exact h');refine AB.pure h ?_ (.e (f:=q) (by simpa [E.den]using g2) (fun z hz=>h2 z (g1 z hz)) .nil) rfl;rw [ex as_ hv,Wp Bp as_ fd.offset (by omega) AD];simp
     ·cases he
    ·rename_i b g m pth y;split at he
     ·rename_i hh;obtain⟨hle,AD,fO⟩:=hh;have hE:=SZ h.eh h.gs fO;generalize hv:a.eval x=v at hr;have Iv:Cn.den c.ρ (.agg y (P.cellsOf t)):=by
       split at he<;>(simp only [Ah]at he;subst he;exact B2 hc)
      cases hr with
      |via h1 h2 h3 _=>
       obtain⟨⟨f1,p1,p2⟩,_⟩:=h3 hE;obtain⟨cs,Bm,AF⟩:=Iv;obtain⟨as_,rfl,O6,CR⟩:=Kw p1 Bm;have hlen:=CR.len;have Gv:(y.den c.ρ).cells=cs:=by rw [Bm];rfl
       rw [←Gv]at CR;obtain⟨q,g1,g2⟩:=CR.j6 O6 fd.offset (P.cellsOf fd.type) (Ao P fd.type) (by rw [Gv];omega) (fun hh=>by rcases AD with h'|h';rw [hh]at h';cases h';exact h');have AN:=ex as_ hv;rw [Wp Bp as_ fd.offset (by omega) AD]at AN;simp only [Result.andThen_ok]at AN;have Ce:Rd c.w _ [(E.fld y fd.offset (P.cellsOf fd.type) (Ao P fd.type)).den c.ρ] q:=g2;split at he
       ·simp only [Ah]at he;subst he;obtain⟨e1,e2,e3,e4⟩:=hc (.flat (.fld y fd.offset (P.cellsOf fd.type) (Ao P fd.type)) (P.cellsOf fd.type) (Ao P fd.type)) (by simp);have hq:q= []:=by
         cases hg:Ao P fd.type with
         |true=>obtain⟨cs,Bm⟩:=e3 hg;obtain⟨as_,_,_,r⟩:=Kw Ce Bm;exact Ij r (by rw [Bm]at e2;exact e2)
         |false=>exact Ij Ce (by simpa using e4 hg)
        subst hq;exact AB.pure h AN (.e Ce (by simp) .nil) rfl
       ·simp only [Ah]at he;subst he;exact AB.pure h AN (.via h1 h2 (fun _=>⟨⟨q,Ce,fun z hz=>p2 z (g1 z hz)⟩,trivial⟩) .nil) rfl
     ·cases he
    ·cases he
  ·cases he
 ·cases he
theorem SL {v:Value} {x:AV} {m:Int} {w:World} {f:List Nat} (h:Rd w [v] [x] f) (hx:x.len= .int .i64 m):(∃a c,v= .slice a 0 c∧m=0)∨ ∃b o k c,v= .slice (some ⟨b,o,none⟩) k c∧m=k:=by
 rcases h.kind with h|h|h|h|h|h|h|h|h|h
 ·obtain⟨_,_,_,rfl,_⟩:=h;simp [AV.len]at hx
 ·obtain⟨_,_,rfl,_⟩:=h;simp [AV.len]at hx
 ·obtain⟨_,_,rfl,_⟩:=h;simp [AV.len]at hx
 ·obtain⟨q,r,rfl,rfl,_⟩:=h;simp [AV.len]at hx;exact .inl ⟨q,r,rfl,by omega⟩
 ·obtain⟨b,o,k,r,ys,_,_,_,_,_,_,rfl,rfl,_,_,_,_,hl,_⟩:=h;simp [AV.len]at hx;exact .inr ⟨b,o,k,r,rfl,by omega⟩
 ·obtain⟨_,_,_,rfl,_⟩:=h;simp [AV.len]at hx
 ·obtain⟨_,_,_,rfl,_⟩:=h;simp [AV.len]at hx
 ·obtain⟨_,_,_,_,_,_,_,rfl,_⟩:=h;simp [AV.len]at hx
 ·obtain⟨_,_,_,_,rfl,_⟩:=h;simp [AV.len]at hx
 ·obtain⟨_,rfl,_⟩:=h;simp [AV.len]at hx
theorem VX {t el:TypeId} (hu:P.underlying t=some (.slice el)) (hz:P.cellsOf el≠0) {b off len cap:Nat} {kk:IntKind} {k:Int} (h0:0≤k) (h1:k<len) (w:World):
  (Instr.indexAt t (.slice (some ⟨b,off,none⟩) len cap) (.int kk k)).run P w= .ok (.pointer (some ⟨b,off+k.toNat*P.cellsOf el,none⟩)) w:=by
 simp [Instr.indexAt,run_underlying hu,asIntOf,h0,h1,zug hz,Addr.add_lit]
theorem zua (h:Bt P c n nx sl hp a sl0 hp0 o gs) {t:TypeId} {x i:Operand} (ho:o.op= .indexAddr t x i∨o.op= .index t x i) {s1 s2:SV} (BO:BV sl0 gs x=some s1) (A6:BV sl0 gs i=some s2)
  (AS:(∃el,P.underlying t=some (.slice el))→o.op= .indexAddr t x i) (eR:P.underlying t=some .string→o.op= .index t x i)
  (he:aC P hp0 gs t s1 s2=some e) (hc: ∀q∈e.ca,Cn.den c.ρ q):AB P o c n nx sl hp gs a e:=by
 have Et:x∈o.op.operands:=by rcases ho with ho|ho<;>simp [ho,Op.operands]
 have DF:i∈o.op.operands:=by rcases ho with ho|ho<;>simp [ho,Op.operands]
 have r1:=h.db BO Et;have r2:=h.db A6 DF;unfold aC at he;split at he
 ·rename_i el k hu;have Um:=AS ⟨el,hu⟩;have ex:(execOp a.eval o).run P c.w=((Instr.indexAt t (a.eval x) (a.eval i)).run P c.w).andThen fun v w=> .ok (.value v) w:=by simp [execOp,Um]
  split at he
  ·cases he
  rename_i hz;obtain⟨fk,Jc,_⟩: ∃f,Rd c.w [a.eval i] [k.den c.ρ] f∧ ∀b∈f,c.ok b:=by
   generalize a.eval i=v at r2;cases r2 with
   |e h1 h2 _=>exact⟨_,h1,h2⟩
  split at he
  ·rename_i b g;split at he
   ·rename_i e0 sz g' c0 d hl;split at he
    ·rename_i hh;obtain⟨rfl,rfl⟩:=hh;simp at he;subst he;obtain⟨kk,kv,m,e1,e2,e3,e4,e5⟩:=B2 hc;obtain⟨JX,_⟩:=Ha Jc e1;generalize hv:a.eval x=v at r1 ex;cases r1 with
     |own hK QA _=>
      obtain⟨_,_,N,q1,q2,_,_⟩:=h.eh b _ (Db hl h.gs);obtain⟨xs,CP,AF,h0,Bl⟩:=q1;rw [CP]at e3;simp only [AV.len,AV.int.injEq,true_and]at e3;rcases Bl with⟨rfl,_⟩|⟨g9,cap,C,hH,_⟩
      ·simp at e3;omega
      ·refine AB.pure h (v:= .pointer (some ⟨g9,kv.toNat*P.cellsOf el+0,none⟩)) ?_ (.c7 hK hH e1 e2 (by omega) .nil) rfl;rw [QA]at hH;cases hH;rw [ex,JX,VX hu hz e2 (by omega)];simp
    ·cases he
   ·rename_i g' c0 hl;split at he
    ·rename_i hh;subst hh;simp at he;subst he;obtain⟨kk,kv,m,e1,e2,e3,e4,e5⟩:=B2 hc;obtain⟨JX,_⟩:=Ha Jc e1;generalize hv:a.eval x=v at r1 ex;cases r1 with
     |own hK QA _=>
      obtain⟨_,⟨f,q1,q2⟩,_,_⟩:=h.eh b _ (Db hl h.gs);rcases SL q1 e3 with⟨_,_,_,hm⟩|⟨b9,off9,len9,cap9,hH,hm⟩
      ·omega
      ·rw [QA]at hH;cases hH;rw [QA]at q1;refine AB.pure h (v:= .pointer (some ⟨b9,off9+kv.toNat*P.cellsOf el+0,none⟩)) ?_ (.du q1 q2 e1 e2 (by omega) e5 .nil) rfl;rw [ex,JX,VX hu hz e2 (by omega)];simp
    ·cases he
   ·rename_i e0 sz dl g' ep c0 hl;split at he
    ·rename_i hh;obtain⟨rfl,rfl⟩:=hh;simp at he;subst he;obtain⟨kk,kv,m,e1,e2,e3,e4,e5⟩:=B2 hc;obtain⟨JX,_⟩:=Ha Jc e1;generalize hv:a.eval x=v at r1 ex;cases r1 with
     |own hK QA _=>
      obtain⟨_,_,_,q1,_⟩:=h.eh b _ (Db hl h.gs);obtain⟨_,_,⟨a9,d3,d4,_⟩|⟨g9,cap,C,ys,N1,hH,d4,_⟩⟩:=q1.inv
      ·rw [d4]at e3;simp [AV.len]at e3;omega
      ·rw [d4]at e3;simp only [AV.len,AV.int.injEq,true_and]at e3;refine AB.pure h (v:= .pointer (some ⟨g9,kv.toNat*P.cellsOf el+0,none⟩)) ?_ (.c7 hK hH e1 e2 (by omega) .nil) rfl;rw [QA]at hH;cases hH;rw [ex,JX,VX hu hz e2 (by omega)];simp
    ·cases he
   ·cases he
  ·rename_i y;simp at he;subst he;obtain⟨kk,kv,m,e1,e2,e3,e4,e5⟩:=B2 hc;obtain⟨JX,_⟩:=Ha Jc e1;generalize hv:a.eval x=v at r1 ex;cases r1 with
   |e q1 q2 _=>
    rcases SL q1 e3 with⟨_,_,_,hm⟩|⟨b9,off9,len9,cap9,rfl,hm⟩
    ·omega
    ·refine AB.pure h (v:= .pointer (some ⟨b9,off9+kv.toNat*P.cellsOf el+0,none⟩)) ?_ (.du q1 q2 e1 e2 (by omega) e5 .nil) rfl;rw [ex,JX,VX hu hz e2 (by omega)];simp
  ·rename_i b g m pth y;split at he
   ·rename_i fO;simp at he;subst he;have hE:=SZ h.eh h.gs fO;obtain⟨kk,kv,mm,e1,e2,e3,e4,e5⟩:=B2 hc;obtain⟨JX,_⟩:=Ha Jc e1;generalize hv:a.eval x=v at r1 ex;cases r1 with
    |via q1 q2 q3 _=>
     obtain⟨⟨f,p1,p2⟩,p3⟩:=q3 hE;rcases SL p1 e3 with⟨_,_,_,hm⟩|⟨b9,off9,len9,cap9,rfl,hm⟩
     ·omega
     ·refine AB.pure h (v:= .pointer (some ⟨b9,off9+kv.toNat*P.cellsOf el+0,none⟩)) ?_ (.vptr q1 q2 (fun _=>⟨b9,off9,len9,cap9,kk,kv,⟨f,p1,p2⟩,p3,e1,e2,by omega,e5,rfl⟩) .nil) rfl;rw [ex,JX,VX hu hz e2 (by omega)];simp
   ·cases he
  ·cases he
 ·rename_i k hu;have Um:=eR hu;obtain⟨fk,Jc,_⟩: ∃f,Rd c.w [a.eval i] [k.den c.ρ] f∧ ∀b∈f,c.ok b:=by
   generalize a.eval i=v at r2;cases r2 with
   |e h1 h2 _=>exact⟨_,h1,h2⟩
  split at he
  ·rename_i y;simp at he;subst he;obtain⟨kk,kv,s,e1,e2,e3,e4⟩:=B2 hc;obtain⟨JX,_⟩:=Ha Jc e1;generalize hv:a.eval x=v at r1;cases r1 with
   |e q1 q2 _=>
    obtain⟨bs,rfl,rfl,hle⟩:=Tb q1 e2;have Ak:kv.toNat<bs.data.toList.length:=by omega
    have eC:kv.toNat<bs.size:=by simpa using Ak
    refine AB.pure h (v:= .int .u8 (bs[kv.toNat]).toNat) ?_ (.dd ?_) rfl
    ·simp [execOp,Um,Instr.index,hv,JX,asIntOf,run_underlying hu,e3,eC]
    ·simp only [E.den,e1,e2,AV.sidx];have:bs.data.toList[kv.toNat]?=some (bs[kv.toNat]):=by
      rw [List.getElem?_eq_getElem Ak];simp [ByteArray.getElem_eq_getElem_data]
     rw [this];refine .int ?_ .nil;rw [Qd];have:=(bs[kv.toNat]).toNat_lt;simp [IntKind.min,IntKind.max,IntKind.signed,IntKind.bits];omega
  ·cases he
 ·cases he
theorem ztj (h:Bt P c n nx sl hp a sl0 hp0 o gs) {t:TypeId} {x i:Operand} (ho:o.op= .indexAddr t x i) (M3:P.underlying t≠some .string) (he:BL P sg sl0 hp0 nv nx gs o=some e) (hc: ∀q∈e.ca,Cn.den c.ρ q):AB P o c n nx sl hp gs a e:=by
 simp only [BL,ho,Av]at he;obtain⟨s1,BO,s2,A6,he⟩:=he;split at he
 ·cases he
 exact zua h (.inl ho) BO A6 (fun _=>ho) (fun hh=>absurd hh M3) he hc
theorem zwo (h:Bt P c n nx sl hp a sl0 hp0 o gs) {t:TypeId} {x i:Operand} (ho:o.op= .index t x i) (M3:P.underlying t=some .string) (he:BL P sg sl0 hp0 nv nx gs o=some e) (hc: ∀q∈e.ca,Cn.den c.ρ q):AB P o c n nx sl hp gs a e:=by
 simp only [BL,ho,Av]at he;obtain⟨s1,BO,s2,A6,he⟩:=he;split at he
 ·exact zua h (.inr ho) BO A6 (fun⟨el,hh⟩=>by rw [M3]at hh;cases hh) (fun _=>ho) he hc
 ·cases he
theorem zwH (h:Bt P c n nx sl hp a sl0 hp0 o gs) {x:Operand} {i:Nat} (ho:o.op= .extract x i) (he:BL P sg sl0 hp0 nv nx gs o=some e) (hc: ∀q∈e.ca,Cn.den c.ρ q):AB P o c n nx sl hp gs a e:=by
 have hm:x∈o.op.operands:=by simp [ho,Op.operands]
 simp only [BL,ho,Av]at he;obtain⟨s,hs,he⟩:=he;have hr:=h.db hs hm;generalize hv:a.eval x=v at hr;have ex: ∀(as_:List Value) u,v= .tuple as_.toArray→as_[i]?=some u→(execOp a.eval o).run P c.w= .ok (.value u) c.w:=fun as_ u fN hu=>by simp [execOp,ho,Instr.extract,hv,fN,hu]
 split at he
 ·rename_i vs;obtain⟨s2,A6,rfl⟩:=Au.1 he;cases hr with
  |tup r1 r9=>obtain⟨u,hu,r⟩:=r1.get A6;exact AB.pure h (ex _ u rfl hu) r rfl
 ·rename_i y;simp at he;subst he;cases hr with
  |e q1 q2 _=>
   have hd:(y.den c.ρ).proj i≠ .undef:=B2 hc;cases hy:y.den c.ρ<;>simp only [hy,AV.proj,ne_eq,not_true_eq_false]at hd;rename_i cs;obtain⟨as_,rfl,r1⟩:=zG2 q1 hy;cases TV:cs[i]? with
   |none=>simp [TV]at hd
   |some z=>obtain⟨u,g,hu,hg,DJ⟩:=r1.at TV;exact AB.pure h (ex as_ u rfl hu) (.e (f:=g) (by simpa [E.den,hy,AV.proj,TV]using DJ) (fun b hb=>q2 b (hg b hb)) .nil) rfl
 ·cases he
theorem zDZ (h:Bt P c n nx sl hp a sl0 hp0 o gs) {x:Operand} {t:TypeId} (ho:o.op= .unOp .not t x) (he:BL P sg sl0 hp0 nv nx gs o=some e) (hc: ∀q∈e.ca,Cn.den c.ρ q):AB P o c n nx sl hp gs a e:=by
 have hm:x∈o.op.operands:=by simp [ho,Op.operands]
 simp only [BL,ho,Av,Au]at he;obtain⟨s,hs,y,hy,he⟩:=he;obtain⟨f,q1,_⟩:=Ig (h.db hs hm) hy;split at he
 ·subst he;have hv:=IQ q1 rfl;rename_i b;exact AB.pure h (v:= .bool (!b)) (by simp [execOp,ho,hv,Op.unary]) (.dd (.bool .nil)) rfl
 ·subst he;have hd:(y.den c.ρ).gq≠ .undef:=B2 hc;cases Bz:y.den c.ρ<;>simp only [Bz,AV.gq,ne_eq,not_true_eq_false]at hd;have hv:=IQ q1 Bz;rename_i b;exact AB.pure h (v:= .bool (!b)) (by simp [execOp,ho,hv,Op.unary]) (.dd (by simp only [E.den,Bz,AV.gq];exact .bool .nil)) rfl
theorem zD7 (h:Bt P c n nx sl hp a sl0 hp0 o gs) {x:Operand} {t:TypeId} (ho:o.op= .unOp .neg t x) (he:BL P sg sl0 hp0 nv nx gs o=some e) (hc: ∀q∈e.ca,Cn.den c.ρ q):AB P o c n nx sl hp gs a e:=by
 have hm:x∈o.op.operands:=by simp [ho,Op.operands]
 simp only [BL,ho,Av,Au]at he;obtain⟨s,hs,y,hy,rfl⟩:=he;obtain⟨f,q1,_⟩:=Ig (h.db hs hm) hy;have hd:(y.den c.ρ).j7≠ .undef:=B2 hc;cases Bz:y.den c.ρ<;>simp only [Bz,AV.j7,ne_eq,not_true_eq_false]at hd;rename_i k m;obtain⟨hv,_⟩:=Ha q1 Bz;exact AB.pure h (v:= .int k (k.wrap (0-m))) (by simp [execOp,ho,hv,Op.unary,Op.intArith]) (.dd (by simp only [E.den,Bz,AV.j7];exact .int (qU _ _) .nil)) rfl
theorem uO {L:List Operand} {sl0:Nat→SV} {gs:Gd} (h: ∀x s,BV sl0 gs x=some s→x∈L→SR c [s] [a.eval x]): ∀{xs:List Operand} {ss:List SV},(∀x∈xs,x∈L)→xs.mapM (BV sl0 gs)=some ss→SR c ss (xs.map a.eval)
 | [],ss,_,hm=>by simp at hm;subst hm;exact .nil
 |x::xs,ss,hL,hm=>by rw [List.mapM_cons]at hm;simp only [Option.bind_eq_bind,Av]at hm;obtain⟨s,hs,ss',F3,hm⟩:=hm;simp at hm;subst hm;exact(h x s hs (hL x (by simp))).app (uO h (fun y hy=>hL y (by simp [hy])) F3)
theorem zu5 (h:Bt P c n nx sl hp a sl0 hp0 o gs) {f:FuncId} {fst caps:Array Operand} (ho:o.op= .makeFunc (.func f) fst caps) (he:BL P sg sl0 hp0 nv nx gs o=some e):AB P o c n nx sl hp gs a e:=by
 simp only [BL,ho]at he;split at he
 ·rename_i hf;obtain⟨ss,F3,rfl⟩:=Au.1 he;have hf:fst= #[]:=by simpa using hf
  have r:=uO (a:=a) (c:=c) (L:=caps.toList) (fun x s hx hm=>h.db hx (by simp only [ho,Op.operands,Array.mem_append];exact .inr (Array.mem_toList_iff.1 hm))) (fun x hx=>hx) F3;refine AB.pure h (v:= .func (.func f) #[] (caps.toList.map a.eval).toArray) ?_ (.fn (by rw [BD.bc];exact r) .nil) rfl;simp [execOp,ho,Instr.makeFunc,hf];apply Array.ext';simp
 ·cases he
end
section
variable {P:Program} {c:Cx} {n nx:Nat} {sl sl0:Nat→SV} {hp hp0:Nat→Option Aj} {a:Act} {o:Oper} {gs:Gd} {e:A7} {sg:B0} {nv:Nat}
theorem Bt.lr (h:Bt P c n nx sl hp a sl0 hp0 o gs) {x:Operand} {s:SV} (hs:BV sl0 gs x=some s) (hm:x∈o.op.operands) {y:E} (hy:Br hp0 gs A3 s=some y):
  ∃f,Rd c.w [a.eval x] [y.den c.ρ] f∧ ∀b∈f,c.fj (BZ hp0 gs (A3+1) [s]) b:=Ii h.eh h.gs A3 hy (h.db hs hm) A3 (Nat.le_refl _)
theorem zDE (h:Bt P c n nx sl hp a sl0 hp0 o gs) {x:Operand} {t:TypeId} {cl:Call} (ho:o.op= .call cl) (AF:cl.callee= .builtin .len) (Dz:cl.args.toList= [x]) (EN:cl.argTypes.toList= [t]) (he:BL P sg sl0 hp0 nv nx gs o=some e) (hc: ∀q∈e.ca,Cn.den c.ρ q):AB P o c n nx sl hp gs a e:=by
 have Ay:cl.args= #[x]:=by apply Array.ext';simp [Dz]
 have Hz:cl.argTypes= #[t]:=by apply Array.ext';simp [EN]
 have hm:x∈o.op.operands:=by simp [ho,Op.operands,Call.operands,AF,Ay]
 simp only [BL,ho,AF,Dz,EN,Av]at he;obtain⟨s,hs,he⟩:=he;unfold wO at he;have ex:(execOp a.eval o).run P c.w=((Builtin.len_ #[t] o.type #[a.eval x]).run P c.w).andThen fun v w=> .ok (.value v) w:=by simp [execOp,ho,resolve,AF,Ay,Hz,invoke,builtin]
 split at he
 ·rename_i el hu;obtain⟨y,hy,rfl⟩:=Au.1 he;obtain⟨f,q1,q2⟩:=h.lr hs hm hy;have hd:(y.den c.ρ).len≠ .undef:=B2 hc;cases Bz:y.den c.ρ<;>simp only [Bz,AV.len,ne_eq,not_true_eq_false]at hd;rename_i xs;have hl:(y.den c.ρ).len= .int .i64 (xs.length:Int):=by rw [Bz];rfl
  have Ch:E7 .i64 (xs.length:Int):=by
   rw [Qd];rcases q1.kind with hh|hh|hh|hh|hh|hh|hh|hh|hh|hh
   all_goals first
    |(obtain⟨_,_,_,hh,_⟩:=hh;rw [Bz]at hh;cases hh;done)
    |(obtain⟨_,_,hh,_⟩:=hh;rw [Bz]at hh;cases hh;done)
    |skip
   ·obtain⟨_,_,_,hh,_⟩:=hh;rw [Bz]at hh;cases hh;simp [IntKind.min,IntKind.max,IntKind.signed,IntKind.bits]
   ·obtain⟨_,_,_,_,_,_,_,_,_,_,_,_,hh,_,_,_,hle,hlen,_⟩:=hh;rw [Bz]at hh;cases hh;simp [IntKind.min,IntKind.max,IntKind.signed,IntKind.bits];omega
   all_goals first
    |(obtain⟨_,_,_,hh,_⟩:=hh;rw [Bz]at hh;cases hh;done)
    |(obtain⟨_,_,_,_,_,_,_,hh,_⟩:=hh;rw [Bz]at hh;cases hh;done)
    |(obtain⟨_,_,_,_,hh,_⟩:=hh;rw [Bz]at hh;cases hh;done)
    |(obtain⟨_,hh,_⟩:=hh;rw [Bz]at hh;cases hh;done)
  refine AB.pure h (v:= .int .i64 xs.length) ?_ (.dd (by simp only [E.den,Bz,AV.len];exact .int Ch .nil)) rfl;rcases SL q1 hl with⟨p,q,hv,Es⟩|⟨b,o',k,q,hv,Es⟩
  ·rw [ex,hv,Es];simp [Builtin.len_,run_underlying hu,goInt]
  ·rw [ex,hv,Es];simp [Builtin.len_,run_underlying hu,goInt]
 ·rename_i hu;obtain⟨y,hy,rfl⟩:=Au.1 he;obtain⟨f,q1,q2⟩:=h.lr hs hm hy;have hd:(y.den c.ρ).slen≠ .undef:=B2 hc;cases Bz:y.den c.ρ<;>simp only [Bz,AV.slen,ne_eq,not_true_eq_false]at hd;obtain⟨bs,hv,rfl,hle⟩:=Tb q1 Bz;refine AB.pure h (v:= .int .i64 bs.size) ?_ (.dd ?_) rfl
  ·rw [ex,hv];simp [Builtin.len_,run_underlying hu,goInt]
  ·simp only [E.den,Bz,AV.slen];have:(bs.data.toList.length:Int)=(bs.size:Int):=by simp
   rw [this];refine .int ?_ .nil;rw [Qd];simp [IntKind.min,IntKind.max,IntKind.signed,IntKind.bits];omega
 ·cases he
theorem zwq (h:Bt P c n nx sl hp a sl0 hp0 o gs) {x:Operand} {src dst:TypeId} {k0 k:IntKind} (ho:o.op= .convert src dst x) (h1:P.underlying src=some (.int k0)) (h2:P.underlying dst=some (.int k)) (he:BL P sg sl0 hp0 nv nx gs o=some e) (hc: ∀q∈e.ca,Cn.den c.ρ q):AB P o c n nx sl hp gs a e:=by
 have hm:x∈o.op.operands:=by simp [ho,Op.operands]
 simp only [BL,ho,Av]at he;obtain⟨s,hs,he⟩:=he;simp only [Wv,h1,h2,Au]at he;obtain⟨y,hy,rfl⟩:=he;obtain⟨f,q1,_⟩:=Ig (h.db hs hm) hy;have hd:(y.den c.ρ).conv k≠ .undef:=B2 hc;cases Bz:y.den c.ρ<;>simp only [Bz,AV.conv,ne_eq,not_true_eq_false]at hd;rename_i k1 m;obtain⟨hv,_⟩:=Ha q1 Bz;exact AB.pure h (v:= .int k (k.wrap m)) (by simp [execOp,ho,hv,convert,run_underlying h1,run_underlying h2,Conv.intToInt]) (.dd (by simp only [E.den,Bz,AV.conv];exact .int (qU _ _) .nil)) rfl
theorem zvW (h:Bt P c n nx sl hp a sl0 hp0 o gs) {x:Operand} {src dst:TypeId} (ho:o.op= .convert src dst x) (h1:P.underlying src=some .string) (h2:P.underlying dst=some .string) (he:BL P sg sl0 hp0 nv nx gs o=some e) (hc: ∀q∈e.ca,Cn.den c.ρ q):AB P o c n nx sl hp gs a e:=by
 have hm:x∈o.op.operands:=by simp [ho,Op.operands]
 simp only [BL,ho,Av]at he;obtain⟨s,hs,he⟩:=he;simp only [Wv,h1,h2,Au]at he;obtain⟨y,hy,rfl⟩:=he;obtain⟨f,q1,_⟩:=Ig (h.db hs hm) hy;have hd:(y.den c.ρ).slen≠ .undef:=B2 hc;cases hl:y.den c.ρ<;>simp only [hl,AV.slen,ne_eq,not_true_eq_false]at hd;obtain⟨bs,hv,hle,eA⟩:=Tb q1 hl;exact AB.pure h (v:= .string bs) (by simp [execOp,ho,hv,convert,run_underlying h1,run_underlying h2]) (.dd (by rw [hl,hle];exact Rd.str eA .nil)) rfl
theorem wI {w:World}: ∀{ys:List AV} {s:List UInt8} {cs:List Value} {f:List Nat},Nl ys=some s→Rd w cs (AL ys) f→ ∃ns:List Int,cs=ns.map (Value.int .u8)∧s=ns.map (fun n=>UInt8.ofNat n.toNat)∧ns.length=ys.length
 | [],s,cs,f,h,hr=>by have:AL ([]:List AV)= []:=rfl;rw [this]at hr;cases hr;cases h;exact⟨[],rfl,rfl,rfl⟩
 |y::ys,s,cs,f,h,hr=>by
  unfold Nl at h;split at h
  ·rename_i h0;cases h0
  ·rename_i n xs he;cases he;obtain⟨s',h1,rfl⟩:=Au.1 h;have C7:Rd w cs (.int .u8 n::AL ys) f:=by simpa [AL,AV.cells]using hr
   cases C7 with
   |int hk CR=>obtain⟨ns,rfl,rfl,hl⟩:=wI h1 CR;exact⟨n::ns,rfl,rfl,by simp [hl]⟩
  ·cases h
theorem zuV (h:Bt P c n nx sl hp a sl0 hp0 o gs) {x:Operand} {src dst el:TypeId} (ho:o.op= .convert src dst x) (h1:P.underlying src=some (.slice el)) (h2:P.underlying dst=some .string) (he:BL P sg sl0 hp0 nv nx gs o=some e) (hc: ∀q∈e.ca,Cn.den c.ρ q):AB P o c n nx sl hp gs a e:=by
 have hm:x∈o.op.operands:=by simp [ho,Op.operands]
 simp only [BL,ho,Av]at he;obtain⟨s,hs,he⟩:=he;simp only [Wv,h1,h2]at he;split at he
 ·rename_i hu;obtain⟨y,hy,rfl⟩:=Au.1 he;obtain⟨f,q1,q2⟩:=h.lr hs hm hy;have hd:(y.den c.ρ).text≠ .undef:=B2 hc;cases Bz:y.den c.ρ<;>simp only [Bz,AV.text,ne_eq,not_true_eq_false]at hd;rename_i xs;split at hd
  ·rename_i t ht;split at hd
   ·rename_i hle;have Ce:(E.text y).den c.ρ= .str t:=by
     simp only [E.den,Bz,AV.text,ht];rw [if_pos hle]
    have fin: ∀ns:List Int,t=ns.map (fun n=>UInt8.ofNat n.toNat)→ns.length=xs.length→(convert src dst (a.eval x)).run P c.w= .ok (.string (ns.foldl (fun r n=>r.push (UInt8.ofNat n.toNat)) ByteArray.empty)) c.w→AB P o c n nx sl hp gs a {ca:= [.dfd (.text y)],val:= .e (.text y)}:=fun ns e1 e2 e3=>by
     have e4:(ns.foldl (fun r n=>r.push (UInt8.ofNat n.toNat)) ByteArray.empty)=⟨t.toArray⟩:=by
      rw [foldl_push_bytes,e1];simp [ByteArray.empty,ByteArray.emptyWithCapacity]
      try rfl
     rw [e4]at e3;refine AB.pure h (v:= .string ⟨t.toArray⟩) (by simp [execOp,ho,e3]) (.dd ?_) rfl;rw [Ce];have Cf:(ByteArray.mk t.toArray).size≤9223372036854775807:=by simp only [ByteArray.size,List.size_toArray];rw [e1,List.length_map];omega
     have:=Rd.str (w:=c.w) (s:=⟨t.toArray⟩) Cf .nil;simpa using this
    rw [Bz]at q1;rcases q1.kind with hh|hh|hh|hh|hh|hh|hh|hh|hh|hh
    all_goals first
     |(obtain⟨_,_,_,hh,_⟩:=hh;cases hh;done)
     |(obtain⟨_,_,hh,_⟩:=hh;cases hh;done)
     |skip
    ·obtain⟨p,q,hv,hx,_⟩:=hh;cases hx;cases ht;refine fin [] rfl rfl ?_;rw [hv];cases p with
     |none=>rw [run_convert_bytes_nil c.w src el h1 hu _ _ dst h2];rfl
     |some ad=>rw [run_convert_bytes_string c.w src dst el _ 0 q h1 hu h2,run_bytesToString c.w ad 0 q [] (by simp [loadCells,loadCellsFrom])]
    ·obtain⟨b,o',k,q,ys,cs,C,t',fz,sz,f1,hv,hx,_,hb,_,hle',hlen,_,_,Bm,hr⟩:=hh;cases hx;obtain⟨ns,rfl,e1,e2⟩:=wI ht hr.2;refine fin ns e1 e2 ?_;have hl:ns.length=k:=by omega
     have CE: ∀i,i<k→c.w.cell? ⟨b,o'+i,none⟩=some (.int .u8 (ns.getD i 0)):=fun i hi=>by
      have EE:i<ns.length:=by omega
      have:=Bm i (.int .u8 ns[i]) (by simp [EE]);rw [Fe hb,this];simp [EE]
     have:=run_convert_bytes_arg c.w src el h1 hu b o' k q ns hl CE dst h2;rw [hv,this];congr 2;rw [foldl_push_bytes];simp [strOfNums,ByteArray.empty,ByteArray.emptyWithCapacity]
     try rfl
    all_goals first
     |(obtain⟨_,_,_,hh,_⟩:=hh;cases hh;done)
     |(obtain⟨_,_,_,_,_,_,_,hh,_⟩:=hh;cases hh;done)
     |(obtain⟨_,_,_,_,hh,_⟩:=hh;cases hh;done)
     |(obtain⟨_,hh,_⟩:=hh;cases hh;done)
   ·exact absurd rfl hd
  ·exact absurd rfl hd
 ·cases he
theorem zwa {ρ:List AV} {x:E} {b:Bool} {gs:Gd} (h1:x.den ρ= .bool b) (h2:Bj ρ gs):Bj ρ ((x,b)::gs):=by
 intro g hg;rcases Ag.1 hg with rfl|hg
 ·exact h1
 ·exact h2 g hg
theorem zA1 (h:Bt P c n nx sl hp a sl0 hp0 o gs) {x y z:Operand} (ho:o.op= .pick x y z) (he:BL P sg sl0 hp0 nv nx gs o=some e) (hc: ∀q∈e.ca,Cn.den c.ρ q):AB P o c n nx sl hp gs a e:=by
 have Et:x∈o.op.operands:=by simp [ho,Op.operands]
 have DF:y∈o.op.operands:=by simp [ho,Op.operands]
 have QL:z∈o.op.operands:=by simp [ho,Op.operands]
 simp only [BL,ho,Av]at he;obtain⟨s,hs,he⟩:=he;have hr:=h.db hs Et;split at he
 ·rename_i q;have ex: ∀b,a.eval x= .bool b→(execOp a.eval o).run P c.w= .ok (.value (if b then a.eval y else a.eval z)) c.w:=fun b hb=>by
   simp [execOp,ho,hb,asBool]
  obtain⟨f,q1⟩: ∃f,Rd c.w [a.eval x] [q.den c.ρ] f:=by
   generalize a.eval x=v at hr;cases hr with
   |e h1 _ _=>exact⟨_,h1⟩
  unfold vN at he;split at he
  ·obtain⟨s',Bh,rfl⟩:=Au.1 he;exact AB.pure h (v:=a.eval y) (ex true (IQ q1 rfl)) (h.db Bh DF) rfl
  ·obtain⟨s',Bh,rfl⟩:=Au.1 he;exact AB.pure h (v:=a.eval z) (ex false (IQ q1 rfl)) (h.db Bh QL) rfl
  ·split at he
   ·rename_i y' z' hy hz;simp at he;subst he;simp only [Av]at hy hz;obtain⟨sy,hsy,hy⟩:=hy;obtain⟨sz,Cf,hz⟩:=hz;have hd:(q.den c.ρ).gq≠ .undef:=B2 hc;cases hq:q.den c.ρ<;>simp only [hq,AV.gq,ne_eq,not_true_eq_false]at hd;rename_i b;cases b with
    |true=>have r:=Zo (a:=a) hsy (fun t ht=>by subst ht;rw [h.sl t DF];exact h.rel.de t) (zwa hq h.gs);obtain⟨f',g1,g2⟩:=Ig r hy;exact AB.pure h (v:=a.eval y) (ex true (IQ q1 hq)) (.e (f:=f') (by simpa [E.den,hq,AV.cond]using g1) g2 .nil) rfl
    |false=>have r:=Zo (a:=a) Cf (fun t ht=>by subst ht;rw [h.sl t QL];exact h.rel.de t) (zwa hq h.gs);obtain⟨f',g1,g2⟩:=Ig r hz;exact AB.pure h (v:=a.eval z) (ex false (IQ q1 hq)) (.e (f:=f') (by simpa [E.den,hq,AV.cond]using g1) g2 .nil) rfl
   ·cases he
 ·cases he
end
section
variable {P:Program} {c:Cx} {n nx:Nat} {sl sl0:Nat→SV} {hp hp0:Nat→Option Aj} {a:Act} {o:Oper} {gs:Gd} {e:A7} {sg:B0} {nv:Nat}
theorem nN {w:World} {v:Value} {x:AV} {f:List Nat} (h:Rd w [v] [x] f) (h1: ∀cs,x≠ .agg cs) (h2: ∀cs,x≠ .tup cs):v.oneCell'=true:=by
 cases h<;>first
  |rfl
  |exact absurd rfl (h1 _)
  |exact absurd rfl (h2 _)
theorem one_cells {v:Value} (h:v.oneCell'=true):v.cells= #[v]:=by cases v<;>first|rfl|(simp [Value.oneCell']at h)
theorem ZM {t:TypeId} {s:SV} {v:Value} {cs:List SV} {ck:List Cn} (h:SR c [s] [v]) (hc:SX P t s=some (cs,ck)) (hk: ∀q∈ck,q.den c.ρ):
  SR c cs v.cells.toList∧(∀u∈v.cells.toList,u.oneCell'=true):=by
 unfold SX at hc;split at hc
 ·split at hc
  ·simp at hc;obtain⟨rfl,rfl⟩:=hc;cases h with
   |agg h1 h2 _=>exact⟨by simpa [Value.cells]using h2,by simpa [Value.cells]using h1⟩
  ·rename_i x;simp at hc;obtain⟨rfl,rfl⟩:=hc;cases h with
   |e h1 h2 _=>
    obtain⟨as_,has,hl⟩:=B2 hk;obtain⟨vs,rfl,h3,h4⟩:=Kw h1 has;refine⟨?_,by simpa [Value.cells]using h3⟩;have hlen:=h4.len;have key: ∀k,k≤as_.length→SR c ((List.range k).map fun j=>SV.e (.fld x j 1 false)) (vs.take k):=by
     intro k
     induction k with
     |zero=>intro _;simpa using SR.nil
     |succ k ih=>
      intro hk;have B5:k<as_.length:=by omega
      obtain⟨u,g,hu,hg,hr⟩:=h4.at (show as_[k]?=some as_[k] by simp [B5])
      rw [List.range_succ,List.map_append,List.take_succ_eq_append_getElem (by omega)];refine(ih (by omega)).app ?_;have F4:vs[k]'(by omega)=u:=by simpa [show k<vs.length by omega]using hu
      rw [F4];exact .e (f:=g) (by simpa [E.den,AV.fld,has,AV.cells,B5]using hr) (fun b hb=>h2 b (hg b hb)) .nil
    have:=key as_.length (Nat.le_refl _);rw [←hlen,List.take_length,hlen,hl]at this;simpa [Value.cells]using this
  ·cases hc
 ·split at hc
  ·rename_i x;simp at hc;obtain⟨rfl,rfl⟩:=hc;cases h with
   |e h1 h2 _=>
    have hq:(∀cs,x.den c.ρ≠ .agg cs)∧ ∀cs,x.den c.ρ≠ .tup cs:=by
     cases x<;>first
      |exact(B2 hk:Cn.den c.ρ (.cells _ 1))
      |exact⟨by simp [E.den],by simp [E.den]⟩
    have Ja:=nN h1 hq.1 hq.2;rw [one_cells Ja];exact⟨.e h1 h2 .nil,by simpa using Ja⟩
  ·cases hc
  ·cases hc
  ·cases hc
  ·cases hc
  ·cases hc
  ·cases hc
  ·cases hc
  ·cases hc
  ·simp at hc;obtain⟨rfl,rfl⟩:=hc;have Ja:v.oneCell'=true:=by
    cases h<;>first|rfl|(rename_i hh _ _ _ _ _;exact absurd rfl (hh _))|skip
    all_goals first
     |rfl
     |exact(show∀(i:Nat),SV.lent _=SV.lent i→False from by assumption) _ rfl|>.elim
     |exact(show∀(t g n:Nat) (p:Ot) (x:E),SV.via _ _ _ _ _=SV.via t g n p x→False from by assumption) _ _ _ _ _ rfl|>.elim
     |exact(show∀(t g n:Nat) (p:Ot) (x i:E) (sz o:Nat),SV.vptr _ _ _ _ _ _ _ _=SV.vptr t g n p x i sz o→False from by assumption) _ _ _ _ _ _ _ _ rfl|>.elim
     |(exfalso;simp_all;done)
   rw [one_cells Ja];exact⟨h,by simpa using Ja⟩
theorem zG6 (h:Bt P c n nx sl hp a sl0 hp0 o gs) (ob:Obj) (hv:Value):Nv c (c.new nx ob hv []) nx:=
 ⟨rfl,rfl,rfl,rfl,fun t ht=>ht.imp id (fun hh=>by subst hh;exact⟨Nat.le_refl _,by simp [BN]⟩)⟩
theorem P6 (h:Bt P c n nx sl hp a sl0 hp0 o gs): ¬c.U nx:=h.new nx (Nat.le_refl _) (by omega)
theorem AB.box (h:Bt P c n nx sl hp a sl0 hp0 o gs) {ty:TypeId} {g:Bool} {cs:List SV} {v:Value} {ck:List Cn} (hr:(execOp a.eval o).run P c.w= .ok (.value (.pointer (some ⟨c.w.heap.size,0,none⟩))) (c.w.alloc (.cells v.cells ty)))
  (hs:SR c cs v.cells.toList) (h1: ∀u∈v.cells.toList,u.oneCell'=true):AB P o c n nx sl hp gs a {ca:=ck,val:= .cu nx 0,bu:= [(nx,CY gs (.box ty g cs))]}:=by
 intro next Q hk
 unfold Oper.wp;rw [hr,Oper.upon_value];have hU:=P6 h;have keep:DV c (c.new nx (.cells v.cells ty) (.pointer (some ⟨c.w.heap.size,0,none⟩)) []):=Cx.jg (fun g hg=>hU (h.rel.cj _ _ hg));have hH:(c.new nx (.cells v.cells ty) (.pointer (some ⟨c.w.heap.size,0,none⟩)) []).H nx 0= .pointer (some ⟨c.w.heap.size,0,none⟩):=by simp [Cx.new]
 have hK:(c.new nx (.cells v.cells ty) (.pointer (some ⟨c.w.heap.size,0,none⟩)) []).K nx 0:= .inr ⟨rfl,rfl⟩;have As:=h.rel.new hU (.cells v.cells ty) (.pointer (some ⟨c.w.heap.size,0,none⟩)) (.box ty g cs) gs h.gs (by intros;simp)
  ⟨c.w.heap.size,v.cells,hK,hH,by simp [Cx.new],by simp [Cx.new],heap_alloc_new _ _,h1,hs.keep keep⟩
 exact hk _ _ (zG6 h _ _) (As.put ((SR.cu hK hH .nil).mkGd gs h.gs) o.dst)
theorem zzS (h:Bt P c n nx sl hp a sl0 hp0 o gs) {t:TypeId} (ho:o.op= .alloc t) (he:BL P sg sl0 hp0 nv nx gs o=some e) (hc: ∀q∈e.ca,Cn.den c.ρ q):AB P o c n nx sl hp gs a e:=by
 simp only [BL,ho,Av]at he;obtain⟨z,⟨i,hi,hz⟩,s,hs,⟨cs,ck⟩,Bm,he⟩:=he;split at he
 ·cases he
 ·split at he
  ·cases he
  ·rename_i JO;have JO:ck= []:=by simpa using JO
   simp at he;subst he;have Bh:Fg z=some s:=by simpa [wB,hi,hz]using hs
   obtain⟨q1,q2⟩:=ZM (ZE (c:=c) Bh) Bm (by simp [JO]);refine AB.box h (v:=z) ?_ q1 q2;simp [execOp,ho,Instr.alloc,zeroValue,typeInfo,hi,hz,newVar,newRow]
theorem zD4 (h:Bt P c n nx sl hp a sl0 hp0 o gs) {t:TypeId} {x:Operand} (ho:o.op= .box t x) (he:BL P sg sl0 hp0 nv nx gs o=some e) (hc: ∀q∈e.ca,Cn.den c.ρ q):AB P o c n nx sl hp gs a e:=by
 have hm:x∈o.op.operands:=by simp [ho,Op.operands]
 simp only [BL,ho,Av]at he;obtain⟨s,hs,⟨cs,ck⟩,Bm,he⟩:=he;split at he
 ·cases he
 ·simp at he;subst he;obtain⟨q1,q2⟩:=ZM (h.db hs hm) Bm hc;refine AB.box h (v:=a.eval x) ?_ q1 q2;simp [execOp,ho,Instr.box,newVar,newRow]
end
section
variable {P:Program} {c:Cx} {n nx:Nat} {sl sl0:Nat→SV} {hp hp0:Nat→Option Aj} {a:Act} {o:Oper} {gs:Gd} {e:A7} {sg:B0} {nv:Nat}
def setVs {α:Type} (cs:List α) (o:Nat) (vs:List α):List α:=cs.take o++vs++cs.drop (o+vs.length)
theorem Sy {α:Type} (cs vs:List α) (o:Nat) (h:o+vs.length≤cs.length) (i:Nat):(setVs cs o vs)[i]?=if o≤i∧i<o+vs.length then vs[i-o]? else cs[i]?:=by
 unfold setVs;have ht:(cs.take o).length=o:=by rw [List.length_take];omega
 rw [List.append_assoc];by_cases h1:i<o
 ·rw [if_neg (by omega),List.getElem?_append_left (by omega),List.getElem?_take,if_pos h1]
 ·rw [List.getElem?_append_right (by omega),ht];by_cases h2:i<o+vs.length
  ·rw [if_pos (by omega),List.getElem?_append_left (by omega)]
  ·rw [if_neg (by omega),List.getElem?_append_right (by omega),List.getElem?_drop];congr 1;omega
theorem SC {α:Type} (cs vs:List α) (o:Nat) (h:o+vs.length≤cs.length):(setVs cs o vs).length=cs.length:=by simp [setVs];omega
theorem SR.setVs {cs vs:List SV} {C V:List Value} {k:Nat} (h:SR c cs C) (hv:SR c vs V):SR c (QX cs k vs) (Go.Proofs.YtbmbkgalkfmjdaaGreatDoor.setVs C k V):=by unfold QX Go.Proofs.YtbmbkgalkfmjdaaGreatDoor.setVs;have hl:=hv.len;rw [←hl];exact((h.split k).1.app hv).app (h.split _).2
theorem zy6 (vs:List Value): ∀(k off:Nat) (C:Array Value),off+k+vs.length≤C.size→
  ((vs.zipIdx k).foldl (fun cs (p:Value × Nat)=>cs.setIfInBounds (off+p.2) p.1) C).toList=setVs C.toList (off+k) vs:=by
 induction vs with
 |nil=>intro k off C _;simp [setVs]
 |cons v vs ih=>
  intro k off C h;simp only [An]at h;simp only [List.zipIdx_cons,List.foldl_cons];rw [ih (k+1) off _ (by simp;omega)];apply List.ext_getElem?;intro i;rw [Sy _ _ _ (by simp;omega),Sy _ _ _ (by simp;omega)];simp only [Array.toList_setIfInBounds,List.getElem?_set,An,Array.length_toList];by_cases h1:i=off+k
  ·subst h1;rw [if_neg (by omega),if_pos rfl,if_pos (by omega),if_pos (by omega)];simp
  ·by_cases h2:off+(k+1)≤i∧i<off+(k+1)+vs.length
   ·rw [if_pos h2,if_pos (by omega),show i-(off+k)=(i-(off+(k+1)))+1 by omega,List.getElem?_cons_succ]
   ·rw [if_neg h2,if_neg (by omega),if_neg (by omega)]
theorem mW {b off:Nat} {t:TypeId}: ∀(vs:List Value) (i:Nat) (w:World) (C:Array Value),w.heap[b]?=some (.cells C t (0,0))→off+i+vs.length≤C.size→(∀v∈vs,v.oneCell'=true)→
  (storeCells ⟨b,off,none⟩ vs i).run P w= .ok () (Dg w b (off+i) vs)
 | [],i,w,C,_,_,_=>by simp [storeCells,Dg]
 |v::vs,i,w,C,hb,hl,h1=>by
  simp only [An]at hl;have hi:off+i<C.size:=by omega
  have CE:w.cell? ⟨b,off+i,none⟩=some C[off+i]:=by simp [World.cell?,hb,hi]
  have dE:w.frozen? ⟨b,off+i,none⟩=false:=by simp [World.frozen?,hb]
  have AW:(store ((⟨b,off,none⟩:Addr).add i) v).run P w= .ok () (w.setCell ⟨b,off+i,none⟩ v):=by rw [Addr.add_lit,run_store P w _ v _ (h1 v (by simp)),CE];simp [dE]
  have h2:=heap_setCell_same w b (off+i) C t v hb;have ih:=mW (off:=off) vs (i+1) (w.setCell ⟨b,off+i,none⟩ v) _ h2 (by simp;omega) (fun x hx=>h1 x (by simp [hx]));simp only [storeCells,Sem.run_bind,AW,Result.andThen_ok,ih,Dg];rw [Nat.add_assoc]
theorem Y2 {w:World} {b off:Nat} {t:TypeId} {vs:List Value} {C:Array Value} (hb:w.heap[b]?=some (.cells C t (0,0))) (hl:off+vs.length≤C.size):
  Mod [b] w (Dg w b off vs)∧(Dg w b off vs).heap[b]?=some (.cells (setVs C.toList off vs).toArray t (0,0))∧(Dg w b off vs).heap.size=w.heap.size:=by
 obtain⟨hm,C',h1,h2,h3,h4⟩:=mU vs w b off C t hb hl;refine⟨hm, ?_, ?_⟩
 ·rw [h1];congr 2;apply Array.ext';apply List.ext_getElem?;intro i;rw [Sy _ _ _ (by simpa using hl)];by_cases hi:off≤i∧i<off+vs.length
  ·rw [if_pos hi];have Ak:i-off<vs.length:=by omega
   have:=h3 (i-off) vs[i-off] (by simp [Ak]);rw [show off+(i-off)=i by omega]at this;rw [Array.getElem?_toList,this];simp [Ak]
  ·rw [if_neg hi,Array.getElem?_toList,Array.getElem?_toList];exact h4 i (by omega)
 ·clear hm h1 h2 h3 h4 hl
  induction vs generalizing w off C with
  |nil=>rfl
  |cons v vs ih=>simp only [Dg];rw [ih (heap_setCell_same w b off C t v hb)];simp [World.setCell]
theorem nM {w:World} {b off:Nat} {t ty:TypeId} {v:Value} {C:Array Value} (hb:w.heap[b]?=some (.cells C ty (0,0))) (ht:DE P t=true) (hs:v.cells.size=P.cellsOf t) (hl:off+v.cells.size≤C.size) (h1: ∀u∈v.cells.toList,u.oneCell'=true):
  (Instr.storeAt t (.pointer (some ⟨b,off,none⟩)) v).run P w= .ok () (Dg w b off v.cells.toList):=by
 have:=mW (P:=P) (off:=off) v.cells.toList 0 w C hb (by simpa using hl) h1;simp only [Nat.add_zero]at this;simp [Instr.storeAt,Instr.sureAddr,storeVar,PX ht,hs,this]
def Cx.wr (c:Cx) (w':World) (t:Nat):Cx:={c with w:=w',E:=fun u=>if u=t then c.E u+1 else c.E u}
theorem Cx.j0 {c:Cx} {w':World} {t b:Nat} (gw:GW c) (CG:b∈(c.G t).top) (hm:Mod [b] c.w w'):DV c (c.wr w' t):=by
 have BH:b∈(c.G t).own:=by simp [GI.own,CG]
 refine⟨rfl,rfl,fun q _ hq=>hq,fun q hq Aw=>hm.block q hq ?_,fun u g hu=>⟨hu,rfl⟩,fun u g hu=> ?_⟩
 ·simp only [List.mem_singleton];rintro rfl;exact Aw.1 ⟨t,CG⟩
 ·by_cases G7:u=t
  ·have e1:(c.wr w' t).E u=c.E u+1:=by simp only [Cx.wr,if_pos G7]
   exact⟨by omega,fun h=>by omega⟩
  ·have e1:(c.wr w' t).E u=c.E u:=by simp only [Cx.wr,if_neg G7]
   rw [e1];refine⟨Nat.le_refl _,fun _=>⟨rfl,fun q hq EF=>hm.block q EF ?_⟩⟩;simp only [List.mem_singleton];rintro rfl;exact gw.cz t u (Ne.symm G7) q BH (by simp [GI.own,hq])
theorem Rel.write (h:Rel c n sl hp a) {t:Nat} {e0:Aj} {b:Nat} {w':World} (AQ:CD c.ρ (hp t) e0) (CG:b∈(c.G t).top) (hm:Mod [b] c.w w') (Cf:w'.heap.size=c.w.heap.size) (e1:Aj) (A5: ∀hs f,e1≠ .gd hs f)
  (he:Dn (c.wr w' t) t e1):Rel (c.wr w' t) n sl (Bd hp [(t,e1)]) a∧DV c (c.wr w' t):=by
 have BH:b∈(c.G t).own:=by simp [GI.own,CG]
 have B3:DV c (c.wr w' t):=Cx.j0 h.gw CG hm;have Dv: ∀u,Bd hp [(t,e1)] u=if u=t then some e1 else hp u:=fun u=>rfl;refine⟨h.change (fun u=>u=t) B3 ⟨hm.os.trans h.base.os,hm.tape.trans h.base.tape,hm.output.trans h.base.output,Nat.le_trans h.base.size hm.size,h.base.pins,fun q hq IA=> ?_,h.base.pk,h.base.lo⟩
  (fun u hu=>⟨by rw [Dv,if_neg hu],rfl,by simp [Cx.wr,hu],fun g hg=>hg⟩) (fun u hu q hq=>hm.block q (h.gw.inb u q (by simp [GI.own,hq])) ?_) (fun u hu=> ?_) ⟨h.gw.nodup,h.gw.cz,h.gw.allow,fun u q hq=> ?_⟩ h.cj (fun u f hf=> ?_),B3⟩
 ·refine(hm.block q (Nat.lt_of_lt_of_le hq h.base.size) ?_).trans (h.base.block q hq IA);simp only [List.mem_singleton];rintro rfl;rcases h.gw.allow t q BH with hh|hh
  ·exact absurd hh (Nat.not_le.2 hq)
  ·exact IA hh
 ·simp only [List.mem_singleton];rintro rfl;exact h.gw.cz t u (Ne.symm hu) q BH (by simp [GI.own,hq])
 ·subst hu;rw [Dv,if_pos rfl];refine⟨fun e' hr=> ?_,fun hn=> ?_⟩
  ·cases e1<;>first
    |(simp only [CD]at hr;subst hr;exact he)
    |exact absurd rfl (A5 _ _)
  ·cases e1<;>first
    |exact absurd rfl (A5 _ _)
    |exact absurd rfl (hn _)
 ·show q<w'.heap.size;rw [Cf];exact h.gw.inb u q hq
 ·rw [Dv]at hf;split at hf
  ·rename_i hu;subst hu;cases hh:hp u with
   |none=>rw [hh]at AQ;exact AQ.elim
   |some e9=>exact h.c6 u e9 hh
  ·exact h.c6 u f hf
end
section
variable {P:Program} {c:Cx} {n nx:Nat} {sl sl0:Nat→SV} {hp hp0:Nat→Option Aj} {a:Act} {o:Oper} {gs:Gd} {e:A7} {sg:B0} {nv:Nat}
theorem zu9 (h:Bt P c n nx sl hp a sl0 hp0 o gs) {t:TypeId} {x y:Operand} (ho:o.op= .store t x y) {b k:Nat} {s:SV} (hx:BV sl0 gs x=some (.cu b k)) (hy:BV sl0 gs y=some s)
  (he:NX P hp0 gs t (.cu b k) s=some e) (hc: ∀q∈e.ca,Cn.den c.ρ q):AB P o c n nx sl hp gs a e:=by
 have r1:=h.db hx (by simp [ho,Op.operands]);have r2:=h.db hy (by simp [ho,Op.operands]);simp only [NX]at he;split at he
 ·rename_i ty g cs vs ck hl Bm;split at he
  ·rename_i hh;obtain⟨Bp,hlen,hle,rfl⟩:=hh;simp at he;subst he;obtain⟨q1,q2⟩:=ZM r2 Bm hc;generalize hv:a.eval x=v at r1;cases r1 with
   |cu h1 h2 h3=>
    rename_i q;have FI:=Db hl h.gs;obtain⟨q',C,e1,e2,e3,e4,e5,e5',e6⟩:=h.eh b _ FI;rw [h2]at e2;cases e2;have AQ:CD c.ρ (hp b) (.box ty g cs):=by
     cases hh:hp0 b with
     |none=>rw [hh]at FI;exact FI.elim
     |some e9=>rw [h.hp b e9 hh];rwa [hh]at FI
    have OR:=e6.len;have dZ:=q1.len;obtain⟨m1,m2,m3⟩:=Y2 (vs:=(a.eval y).cells.toList) e5 (show k+_≤C.size by simp at OR dZ ⊢;omega);obtain⟨As,B3⟩:=h.rel.write AQ (by rw [e3];simp) m1 m3 (.box ty g (QX cs k vs)) (by intros;simp) (w':=Dg c.w q k (a.eval y).cells.toList) (by
     have B5:DV c (c.wr (Dg c.w q k (a.eval y).cells.toList) b):=Cx.j0 h.rel.gw (by rw [e3];simp) m1;refine⟨q,_,e1,h2,e3,e4,m2, ?_, ?_⟩
     ·intro u hu;simp only [List.toList_toArray]at hu;unfold setVs at hu;simp only [Ai]at hu;rcases hu with(hu|hu)|hu
      ·exact e5' u (List.mem_of_mem_take hu)
      ·exact q2 u hu
      ·exact e5' u (List.mem_of_mem_drop hu)
     ·simpa using(e6.setVs q1 (k:=k)).keep B5)
    intro next Q hk
    unfold Oper.wp;have hr:(execOp a.eval o).run P c.w= .ok .skip (Dg c.w q k (a.eval y).cells.toList):=by have:=nM (P:=P) (t:=t) (v:=a.eval y) (off:=k) e5 Bp (by simp at dZ;omega) (by simp at OR dZ;omega) q2;simp [execOp,ho,hv,this]
    rw [hr,Oper.upon_skip];exact hk _ (c.wr (Dg c.w q k (a.eval y).cells.toList) b) ⟨rfl,rfl,rfl,rfl,fun t ht=> .inl ht⟩ (As.put ((SR.undef .nil).mkGd []) o.dst)
  ·cases he
 ·cases he
theorem zym {places:List (Nat × Nat)} {tys:List TypeId}: ∀(ps:List (Nat × SV)) (vs:List (Nat × Value)) (cs:List SV) (C:Array Value) (r:List SV × List Cn),UP P places tys ps cs=some r→(∀q∈r.2,q.den c.ρ)→
  ps.map (·.1)=vs.map (·.1)→SR c (ps.map (·.2)) (vs.map (·.2))→SR c cs C.toList→(∀u∈C.toList,u.oneCell'=true)→
  ∃C',Instr.fill (places.toArray[·]?) C vs=some C'∧SR c r.1 C'.toList∧ ∀u∈C'.toList,u.oneCell'=true
 | [],vs,cs,C,r,h,hk,he,_,hC,h1=>by
  have:vs= []:=by simpa using he.symm
  subst this;simp [UP]at h;subst h;exact⟨C,rfl,hC,h1⟩
 |(i,s)::ps, [],cs,C,r,h,hk,he,_,hC,h1=>by simp at he
 |(i,s)::ps,(j,v)::vs,cs,C,r,h,hk,he,hs,hC,h1=>by
  simp only [List.map_cons,List.cons.injEq]at he;obtain⟨rfl,he⟩:=he;simp only [List.map_cons]at hs;obtain⟨BO,A6⟩:=hs.cr;unfold UP at h;split at h
  ·rename_i off sz t O4 Bp;split at h
   ·rename_i us ck Bm;split at h
    ·rename_i hh;obtain⟨Cf,hle⟩:=hh;obtain⟨r',C7,rfl⟩:=Au.1 h;obtain⟨q1,q2⟩:=ZM BO Bm (fun q hq=>hk q (by simp [hq]));have LB:=q1.len;have LC:=hC.len;have MQ:(v.cells.zipIdx.foldl (fun cs (p:Value × Nat)=>cs.setIfInBounds (off+p.2) p.1) C).toList=setVs C.toList off v.cells.toList:=by
      have:=zy6 v.cells.toList 0 off C (by simp at LB LC ⊢;omega);rw [←Array.foldl_toList,Array.toList_zipIdx];simpa using this
     obtain⟨C',g1,g2,g3⟩:=zym ps vs (QX cs off us) (v.cells.zipIdx.foldl (fun cs (p:Value × Nat)=>cs.setIfInBounds (off+p.2) p.1) C) r' C7 (fun q hq=>hk q (by simp [hq])) he A6 (by rw [MQ];exact hC.setVs q1) (by
      rw [MQ];intro u hu;unfold setVs at hu;simp only [Ai]at hu;rcases hu with(hu|hu)|hu
      ·exact h1 u (List.mem_of_mem_take hu)
      ·exact q2 u hu
      ·exact h1 u (List.mem_of_mem_drop hu))
     refine⟨C', ?_,g2,g3⟩;unfold Instr.fill;have eW:places.toArray[i]?=some (off,sz):=by simpa using O4
     simp only [eW];rw [if_neg (by simp at LB LC ⊢;omega)];exact g1
    ·cases h
   ·cases h
  ·cases h
theorem ZL {sl0:Nat→SV} {gs:Gd} (L:List Operand) (h: ∀x s,BV sl0 gs x=some s→x∈L→SR c [s] [a.eval x]): ∀{xs:List (Nat × Operand)} {ss:List (Nat × SV)},(∀x∈xs,x.2∈L)→xs.mapM (fun(p:Nat × Operand)=>(BV sl0 gs p.2).map fun s=>(p.1,s))=some ss→
  ss.map (·.1)=xs.map (·.1)∧SR c (ss.map (·.2)) (xs.map fun p=>a.eval p.2)
 | [],ss,_,hm=>by simp at hm;subst hm;exact⟨rfl, .nil⟩
 |x::xs,ss,hL,hm=>by rw [List.mapM_cons]at hm;simp only [Option.bind_eq_bind,Av,Au]at hm;obtain⟨_,⟨s,hs,rfl⟩,ss',F3,hm⟩:=hm;simp at hm;subst hm;obtain⟨e1,e2⟩:=ZL L h (fun y hy=>hL y (by simp [hy])) F3;exact⟨by simp [e1],(h _ s hs (hL x (by simp))).app e2⟩
theorem zzF (h:Bt P c n nx sl hp a sl0 hp0 o gs) {t:TypeId} {parts:Array (Nat × Operand)} (ho:o.op= .build t parts) (he:BL P sg sl0 hp0 nv nx gs o=some e) (hc: ∀q∈e.ca,Cn.den c.ρ q):AB P o c n nx sl hp gs a e:=by
 simp only [BL,ho,Av]at he;obtain⟨ps,M5,he⟩:=he;obtain⟨e1,e2⟩:=ZL (c:=c) (a:=a) (parts.toList.map (·.2)) (fun x s hx hm=>h.db hx (by simpa [ho,Op.operands]using hm)) (fun x hx=>List.mem_map.2 ⟨x,hx,rfl⟩) M5;unfold zy0 at he;split at he
 ·rename_i it fs hit hu;split at he
  ·rename_i zs places hz O4;obtain⟨r,hr,rfl⟩:=Au.1 he;obtain⟨z,XA,UC⟩:=Av.1 hz;have uC:=ZE (c:=c) UC;obtain⟨cells,g1,g2,g3⟩:=zym (c:=c) (P:=P) ps (parts.toList.map fun p=>(p.1,a.eval p.2)) zs.toList z.cells r hr hc (by rw [e1];simp) (by rw [List.map_map];exact e2)
    (by cases uC with|agg h1 h2 _=>simpa [Value.cells]using h2) (by cases uC with|agg h1 h2 _=>simpa [Value.cells]using h1)
   have hb:P.built t (parts.map fun(x:Nat × Operand)=>(x.1,a.eval x.2)).toList=some cells:=by simp only [Program.built,hit,hu,XA,O4];simpa using g1
   have:=SR.agg (c:=c) (cs:=BD.of r.1) (as_:=cells.toList) g3 (by rw [BD.bc];exact g2) .nil;refine AB.pure h (v:= .agg cells) ?_ (by simpa using this) rfl;have AN:=run_build c.w t _ cells hb;simp only [execOp,ho,Sem.run_bind];rw [AN];rfl
  ·cases he
 ·cases he
end
section
variable {P:Program} {c:Cx} {n nx:Nat} {sl sl0:Nat→SV} {hp hp0:Nat→Option Aj} {a:Act} {o:Oper} {gs:Gd} {e:A7} {sg:B0} {nv:Nat}
def Cx.cf (c:Cx) (ts:List Nat):Cx:={c with G:=fun u=>if u∈ts then⟨[], []⟩else c.G u,E:=fun u=>if u∈ts then c.E u+1 else c.E u}
theorem Cx.kj {c:Cx} {ts:List Nat} {b:Nat} (h:(c.cf ts).M b): ∃u,u∉ts∧b∈(c.G u).top:=by
 obtain⟨u,hu⟩:=h;simp only [Cx.cf]at hu;split at hu
 ·simp at hu
 ·exact⟨u,by assumption,hu⟩
theorem Cx.gn {c:Cx} {ts:List Nat} {b:Nat} (h:c.ok b):(c.cf ts).ok b:=⟨fun hm=>by obtain⟨u,_,hu⟩:=Cx.kj hm;exact h.1 ⟨u,hu⟩,h.2⟩
theorem Cx.kz (c:Cx) (ts:List Nat):DV c (c.cf ts):=⟨rfl,rfl,fun _ _ h=>Cx.gn h,fun _ _ _=>rfl,fun _ _ h=>⟨h,rfl⟩,fun t g _=>by
 by_cases ht:t∈ts
 ·have e1:(c.cf ts).E t=c.E t+1:=by simp only [Cx.cf,if_pos ht]
  exact⟨by omega,fun h=>by omega⟩
 ·have e1:(c.cf ts).E t=c.E t:=by simp only [Cx.cf,if_neg ht]
  have e2:(c.cf ts).G t=c.G t:=by simp only [Cx.cf,if_neg ht]
  rw [e1];exact⟨Nat.le_refl _,fun _=>⟨e2,fun _ _ _=>rfl⟩⟩⟩
theorem uH {c:Cx} (gw:GW c) {ts us:List Nat} (hs: ∀t∈us,t∈ts) {b:Nat} (h:c.fj us b):(c.cf ts).ok b:=by
 rcases h with h|⟨t,ht,hb⟩
 ·exact Cx.gn h
 ·have BH:b∈(c.G t).own:=by simp [GI.own,hb]
  refine⟨fun hm=> ?_, .inr (gw.allow t b BH)⟩;obtain⟨u,hu,Iy⟩:=Cx.kj hm;have:t≠u:=fun hh=>hu (hh▸hs t ht);exact gw.cz t u this b BH (by simp [GI.own,Iy])
def Ms (e:Aj) (g:Nat) (x:E):Prop:=(∃ety sz d,e= .row ety sz g x d)∨ ∃ety sz l ep,e= .deep ety sz l g ep x
theorem Ms.ne {e:Aj} {g:Nat} {x:E} (h:Ms e g x): ∀hs f,e≠ .gd hs f:=by rcases h with⟨_,_,_,rfl⟩|⟨_,_,_,_,rfl⟩<;>intros<;>simp
theorem Ms.rd {e:Aj} {g t:Nat} {x:E} (h:Ms e g x) (k:Dn c t e):c.K t g∧ ∃f,Rd c.w [c.H t g] [x.den c.ρ] f∧ ∀b∈f,b∈(c.G t).top∨c.ok b:=by
 rcases h with⟨_,_,_,rfl⟩|⟨_,_,_,_,rfl⟩
 ·obtain⟨q1,q2,N,q3,q4,_⟩:=k;obtain⟨f,r1,r2,_⟩:=q3.rd;exact⟨q1,f,r1,fun b hb=>(r2 b hb).imp id (q4 b)⟩
 ·obtain⟨q1,q2,_,q3,_⟩:=k;obtain⟨f,r1,r2⟩:=q3.rd;exact⟨q1,f,r1,fun b hb=> .inl (r2 b hb)⟩
theorem Ms.fun {e:Aj} {g g':Nat} {x x':E} (h:Ms e g x) (k:Ms e g' x'):g=g'∧x=x':=by rcases h with⟨_,_,_,rfl⟩|⟨_,_,_,_,rfl⟩<;>rcases k with⟨_,_,_,hh⟩|⟨_,_,_,_,hh⟩<;>cases hh<;>exact⟨rfl,rfl⟩
theorem PR {gs:Gd} {ρ:List AV} (k:Bj ρ gs): ∀{ts:List Nat} {l:List (Nat × Aj)},DS hp0 gs ts=some l→
  (∀t e,(t,e)∈l→t∈ts∧gs= []∧ ∃g x f,e= .cf g x∧CD ρ (hp0 t) f∧Ms f g x)∧
  (∀t∈ts,(∃g x,(t,Aj.cf g x)∈l)∨(∃g x,CD ρ (hp0 t) (.cf g x))∨ ∃ty g cs,CD ρ (hp0 t) (.box ty g cs))
 | [],l,h=>by simp [DS]at h;subst h;simp
 |t::ts,l,h=>by
  unfold DS at h;split at h
  ·rename_i ety sz g x d l' hl BG;split at h
   ·rename_i hg;simp at h;subst h;obtain⟨h1,h2⟩:=PR k BG;refine⟨fun u e hu=> ?_,fun u hu=> ?_⟩
    ·rcases Ag.1 hu with hu|hu
     ·cases hu;exact⟨by simp,by simpa using hg,g,x,_,rfl,Db hl k, .inl ⟨_,_,_,rfl⟩⟩
     ·obtain⟨p,q,r⟩:=h1 u e hu;exact⟨by simp [p],q,r⟩
    ·rcases Ag.1 hu with rfl|hu
     ·exact .inl ⟨g,x,by simp⟩
     ·rcases h2 u hu with⟨g',x',hh⟩|hh
      ·exact .inl ⟨g',x',by simp [hh]⟩
      ·exact .inr hh
   ·cases h
  ·rename_i ety sz dl g ep x l' hl BG;split at h
   ·rename_i hg;simp at h;subst h;obtain⟨h1,h2⟩:=PR k BG;refine⟨fun u e hu=> ?_,fun u hu=> ?_⟩
    ·rcases Ag.1 hu with hu|hu
     ·cases hu;exact⟨by simp,by simpa using hg,g,x,_,rfl,Db hl k, .inr ⟨_,_,_,_,rfl⟩⟩
     ·obtain⟨p,q,r⟩:=h1 u e hu;exact⟨by simp [p],q,r⟩
    ·rcases Ag.1 hu with rfl|hu
     ·exact .inl ⟨g,x,by simp⟩
     ·rcases h2 u hu with⟨g',x',hh⟩|hh
      ·exact .inl ⟨g',x',by simp [hh]⟩
      ·exact .inr hh
   ·cases h
  ·rename_i g x l' hl BG;simp at h;subst h;obtain⟨h1,h2⟩:=PR k BG;refine⟨fun u e hu=> ?_,fun u hu=> ?_⟩
   ·obtain⟨p,q,r⟩:=h1 u e hu;exact⟨by simp [p],q,r⟩
   ·rcases Ag.1 hu with rfl|hu
    ·exact .inr (.inl ⟨g,x,Db hl k⟩)
    ·exact h2 u hu
  ·rename_i ty g cs l' hl BG;simp at h;subst h;obtain⟨h1,h2⟩:=PR k BG;refine⟨fun u e hu=> ?_,fun u hu=> ?_⟩
   ·obtain⟨p,q,r⟩:=h1 u e hu;exact⟨by simp [p],q,r⟩
   ·rcases Ag.1 hu with rfl|hu
    ·exact .inr (.inr ⟨ty,g,cs,Db hl k⟩)
    ·exact h2 u hu
  ·cases h
theorem Ml {hp:Nat→Option Aj}: ∀{l:List (Nat × Aj)} {t:Nat},(∀e,(t,e)∉l)→Bd hp l t=hp t
 | [],_,_=>rfl
 |(u,e)::l,t,h=>by
  have ht:t≠u:=by rintro rfl;exact h e (by simp)
  have:=Ml (hp:=fun v=>if v=u then some e else hp v) (l:=l) (t:=t) (fun e' E9=>h e' (by simp [E9]));simp only [Bd,List.foldl_cons]at this ⊢;rw [this,if_neg ht]
theorem rG {hp:Nat→Option Aj}: ∀{l:List (Nat × Aj)} {t:Nat} {e:Aj},(t,e)∈l→(∀e',(t,e')∈l→e'=e)→Bd hp l t=some e
 | [],_,_,h,_=>by simp at h
 |(u,f)::l,t,e,h,hu=>by
  simp only [Bd,List.foldl_cons];by_cases hm: ∃e',(t,e')∈l
  ·obtain⟨e',E9⟩:=hm;have:=hu e' (by simp [E9]);subst this;exact rG (hp:=fun v=>if v=u then some f else hp v) E9 (fun e'' h''=>hu e'' (by simp [h'']))
  ·have hn: ∀e',(t,e')∉l:=fun e' E9=>hm ⟨e',E9⟩;have:=Ml (hp:=fun v=>if v=u then some f else hp v) (l:=l) (t:=t) hn;simp only [Bd]at this;rw [this];rcases Ag.1 h with h|h
   ·cases h;simp
   ·exact absurd h (hn e)
theorem Mm (hs: ∀t e,hp0 t=some e→hp t=some e) {ρ:List AV} {t:Nat} {e:Aj} (h:CD ρ (hp0 t) e):CD ρ (hp t) e:=by
 cases hh:hp0 t with
 |none=>rw [hh]at h;exact h.elim
 |some e9=>rw [hs t e9 hh];rwa [hh]at h
theorem zF0 {ρ:List AV} {o:Option Aj} {e f:Aj} (h:CD ρ o e) (k:CD ρ o f):e=f:=by
 cases o with
 |none=>exact h.elim
 |some o=>
  cases o with
  |gd gs x=>exact h.2.symm.trans k.2
  |box=>exact h.symm.trans k
  |row=>exact h.symm.trans k
  |cf=>exact h.symm.trans k
  |dead=>exact h.symm.trans k
  |deep=>exact h.symm.trans k
  |hol=>exact h.symm.trans k
theorem Rel.freeze (h:Rel c n sl hp a) (hs: ∀t e,hp0 t=some e→hp t=some e) (k:Bj c.ρ gs) {ts:List Nat} {l:List (Nat × Aj)} (hf:DS hp0 gs ts=some l):
  Rel (c.cf (l.map (·.1))) n sl (Bd hp l) a:=by
 obtain⟨h1,h2⟩:=PR k hf;have hG: ∀u,(c.cf (l.map (·.1))).G u=if u∈l.map (·.1)then⟨[], []⟩else c.G u:=fun u=>rfl;have Ka: ∀t e e',(t,e)∈l→(t,e')∈l→e'=e:=by intro t e e' he E9;obtain⟨_,_,g,x,_,rfl,r,rl⟩:=h1 t e he;obtain⟨_,_,g',x',_,rfl,r',rl'⟩:=h1 t e' E9;have:=zF0 r r';subst this;obtain⟨rfl,rfl⟩:=rl.fun rl';rfl
 refine h.change (fun u=>u∈l.map (·.1)) (Cx.kz c _) ⟨h.base.os,h.base.tape,h.base.output,h.base.size,h.base.pins,h.base.block,h.base.pk,h.base.lo⟩ (fun u hu=>⟨Ml (fun e he=>hu (List.mem_map.2 ⟨_,he,rfl⟩)),by rw [hG,if_neg hu],by simp only [Cx.cf,if_neg hu],fun g hg=>hg⟩) (fun u hu b hb=>rfl) (fun u hu=> ?_) ?_ h.cj (fun u e hu=> ?_)
 ·obtain⟨⟨u',e⟩,he,rfl⟩:=List.mem_map.1 hu;have Dv:=rG (hp:=hp) he (fun e' E9=>Ka _ _ _ he E9);obtain⟨_,_,g,x,f0,rfl,r,rl⟩:=h1 u' e he;obtain⟨q1,f,r1,r2⟩:=rl.rd (h.ents u' _ (Mm hs r));have Lx:((c.cf (l.map (·.1))).G u').top= []∧((c.cf (l.map (·.1))).G u').O= []:=by rw [hG,if_pos hu];simp
  rw [Dv];refine⟨fun e' hr=> ?_,fun _=>Lx⟩;have:e'= .cf g x:=hr.symm;subst this;exact⟨q1,⟨f,r1,fun b hb=>by
   refine uH h.gw (ts:=l.map (·.1)) (us:= [u']) (by simpa using hu) ?_;rcases r2 b hb with hb|hb
   ·exact .inr ⟨u',by simp,hb⟩
   ·exact .inl hb⟩,Lx.1,Lx.2⟩
 ·refine⟨fun u=> ?_,fun u v fM b hb=> ?_,fun u b hb=> ?_,fun u b hb=> ?_⟩
  ·rw [hG];split
   ·simp [GI.own]
   ·exact h.gw.nodup u
  ·rw [hG]at hb ⊢;split at hb
   ·simp [GI.own]at hb
   ·split
    ·simp [GI.own]
    ·exact h.gw.cz u v fM b hb
  ·rw [hG]at hb;split at hb
   ·simp [GI.own]at hb
   ·exact h.gw.allow u b hb
  ·rw [hG]at hb;split at hb
   ·simp [GI.own]at hb
   ·exact h.gw.inb u b hb
 ·by_cases hm: ∃e',(u,e')∈l
  ·obtain⟨e',E9⟩:=hm;obtain⟨_,_,g,x,f0,rfl,r,rl⟩:=h1 u e' E9;have r':=Mm hs r;cases hh:hp u with
   |none=>rw [hh]at r';exact r'.elim
   |some e9=>exact h.c6 u e9 hh
  ·rw [Ml (fun e' E9=>hm ⟨e',E9⟩)]at hu;exact h.c6 u e hu
theorem zAl {ts:List Nat} (h:Oj hp0 gs ts=true) {t:Nat} (ht:t∈ts) {ty:Nat} {g:Bool} {cs:List SV}:Dy hp0 gs t≠some (.box ty g cs):=by intro hl;simp only [Oj,Bool.not_eq_true',List.any_eq_false]at h;have:=h t ht;rw [hl]at this;simp at this
theorem zxz {ρ:List AV} (k:Bj ρ gs) {ts:List Nat} {l:List (Nat × Aj)} (hf:DS hp0 gs ts=some l) {t:Nat} (ht:t∈ts):(∃g x,(t,Aj.cf g x)∈l)∨(∃g x,Dy hp0 gs t=some (.cf g x))∨ ∃ty g cs,Dy hp0 gs t=some (.box ty g cs):=by
 induction ts generalizing l with
 |nil=>simp at ht
 |cons u ts ih=>
  unfold DS at hf;split at hf
  ·rename_i ety sz g x d l' hl BG;split at hf
   ·simp at hf;subst hf;rcases Ag.1 ht with rfl|ht
    ·exact .inl ⟨g,x,by simp⟩
    ·rcases ih BG ht with⟨g',x',hh⟩|hh
     ·exact .inl ⟨g',x',by simp [hh]⟩
     ·exact .inr hh
   ·cases hf
  ·rename_i ety sz dl g ep x l' hl BG;split at hf
   ·simp at hf;subst hf;rcases Ag.1 ht with rfl|ht
    ·exact .inl ⟨g,x,by simp⟩
    ·rcases ih BG ht with⟨g',x',hh⟩|hh
     ·exact .inl ⟨g',x',by simp [hh]⟩
     ·exact .inr hh
   ·cases hf
  ·rename_i g x l' hl BG;simp at hf;subst hf;rcases Ag.1 ht with rfl|ht
   ·exact .inr (.inl ⟨g,x,hl⟩)
   ·exact ih BG ht
  ·rename_i ty g cs l' hl BG;simp at hf;subst hf;rcases Ag.1 ht with rfl|ht
   ·exact .inr (.inr ⟨ty,g,cs,hl⟩)
   ·exact ih BG ht
  ·cases hf
theorem V0 (h:Rel c n sl hp a) (eh:EH c hp0) (k:Bj c.ρ gs) {ts:List Nat} {l:List (Nat × Aj)} (hf:DS hp0 gs ts=some l) (hb:Oj hp0 gs ts=true) {b:Nat} (hs:c.fj ts b):(c.cf (l.map (·.1))).ok b:=by
 rcases hs with hs|⟨t,ht,CK⟩
 ·exact Cx.gn hs
 ·rcases zxz k hf ht with⟨g,x,hh⟩|⟨g,x,hh⟩|⟨ty,g,cs,hh⟩
  ·exact uH h.gw (us:= [t]) (by simpa using⟨_,hh⟩) (.inr ⟨t,by simp,CK⟩)
  ·obtain⟨_,_,CG,_⟩:=eh t _ (Db hh k);rw [CG]at CK;simp at CK
  ·exact absurd hh (zAl hb ht)
theorem zry (h:Rel c n sl hp a) (hs: ∀t e,hp0 t=some e→hp t=some e) (k:Bj c.ρ gs) {t:TypeId} {s:SV} {v:Value} (hr:SR c [s] [v]) {x:E} {fz:List (Nat × Aj)} {d:Bool} {ck:List Cn} (ht:bI P hp0 gs t s=some (x,fz,d,ck)) (hc: ∀q∈ck,q.den c.ρ):
  ∃f,Rd c.w [v] [x.den c.ρ] f∧(d=true→f= [])∧(∃ts,DS hp0 gs ts=some fz∧ ∀b∈f,(c.cf (fz.map (·.1))).ok b)∧
   (if Ao P t then∃cs,x.den c.ρ= .agg cs∧cs.length=P.cellsOf t else(∀cs,x.den c.ρ≠ .agg cs)∧ ∀cs,x.den c.ρ≠ .tup cs):=by
 have eh:EH c hp0:=fun t e hr=>h.ents t e (Mm hs hr);unfold bI at ht;split at ht
 ·cases ht
 ·rename_i y hy;obtain⟨f,q1,q2⟩:=Ii eh k A3 hy hr A3 (Nat.le_refl _);split at ht
  ·simp at ht;obtain⟨rfl,rfl,rfl,rfl⟩:=ht;obtain⟨c1,c2,c3,c4⟩:=B2 hc;have hf:f= []:=by
    cases hg:Ao P t with
    |true=>obtain⟨cs,Bm⟩:=c3 hg;obtain⟨as_,rfl,_,r⟩:=Kw q1 Bm;exact Ij r (by rw [Bm]at c2;exact c2)
    |false=>exact Ij q1 (by simpa using c4 hg)
   subst hf;refine⟨[],q1,fun _=>rfl,⟨[],rfl,by simp⟩, ?_⟩;split
   ·rename_i hg;obtain⟨cs,Bm⟩:=c3 hg;exact⟨cs,Bm,by rw [Bm]at c1;exact c1⟩
   ·rename_i hg;have:=c4 (by simpa using hg);exact⟨fun cs Bm=>by rw [Bm]at this;simp [AV.scalar]at this,fun cs Bm=>by rw [Bm]at this;simp [AV.scalar]at this⟩
  ·split at ht
   ·rename_i J0;split at ht
    ·cases ht
    ·rename_i l hl;simp only [Ah,Prod.mk.injEq]at ht;obtain⟨rfl,rfl,rfl,rfl⟩:=ht;refine⟨f,q1,by simp,⟨_,hl,fun b hb=>V0 h eh k hl J0 (q2 b hb)⟩, ?_⟩;have hq:=B2 hc;unfold xV at hq;split
     ·rename_i hg;rw [if_pos hg]at hq;obtain⟨cs,Bm,hl⟩:=hq;exact⟨cs,Bm,hl⟩
     ·rename_i hg;rw [if_neg hg]at hq;exact hq
   ·cases ht
end
section
variable {P:Program} {c:Cx} {n nx:Nat} {sl sl0:Nat→SV} {hp hp0:Nat→Option Aj} {a:Act} {o:Oper} {gs:Gd} {e:A7} {sg:B0} {nv:Nat}
theorem sL (w:World) (t ty el:TypeId) (i:TypeInfo) (z:Value) (ht:P.underlying t=some (.slice el)) (hi:P.info? el=some i) (hz:i.zero=some z) (D0:z.cells.size=i.size) (Cf:0<i.size)
  (Own:Nat→Prop) (v:Value) (k:Nat) (old:List Value) (ho:old.length=k*i.size)
  (BI:(k=0∧ ∃q,v= .slice q 0 0)∨ ∃g cap C,v= .slice (some ⟨g,0,none⟩) k cap∧k≤cap∧cap≤maxLen∧w.heap[g]?=some (.cells C el (0,0))∧C.size=cap*i.size∧old=C.toList.take (k*i.size)∧Own g)
  (q:Option Addr) (m r:Nat) (news:List Value) (hs:Src w i.size q m news) (WX:k+m≤maxLen) (hb:(k+m)*i.bytes≤140737488355328):
  ∃v' w',(Builtin.append_ #[t,t] ty #[v, .slice q m r]).run P w= .ok v' w'∧
   ((v'=v∧w'=w∧m=0)∨ ∃g cap C,v'= .slice (some ⟨g,0,none⟩) (k+m) cap∧k+m≤cap∧cap≤maxLen∧w'.heap[g]?=some (.cells C el (0,0))∧C.size=cap*i.size∧C.toList.take ((k+m)*i.size)=old++news∧
    w.grownBy w' (some g)∧((g=w.heap.size∧g<w'.heap.size)∨Own g)):=by
 have OZ:news.length=m*i.size:=by
  rcases hs with⟨rfl,rfl,rfl⟩|⟨ad,rfl,h1,_⟩
  ·simp
  ·exact h1
 have hlen:(old++news).length=(k+m)*i.size:=by rw [Ap,ho,OZ,Nat.add_mul]
 have grown: ∀(cp:Nat),cp<k+m→ ∀(X:Array Value),X.toList=old++news→ ∃C,C=X++Builtin.zeroCells z.cells (grownCap w (k+m) cp el-(k+m))∧
   k+m≤grownCap w (k+m) cp el∧grownCap w (k+m) cp el≤maxLen∧C.size=grownCap w (k+m) cp el*i.size∧C.toList.take ((k+m)*i.size)=old++news:=by
  intro cp hcp X hX;have ES:=grownCap_ge w (k+m) cp el;have Lt:=grownCap_le_maxLen w (k+m) cp el WX;refine⟨_,rfl,ES,Lt, ?_, ?_⟩
  ·have W9:X.size=(k+m)*i.size:=by rw [←Array.length_toList,hX,hlen]
   rw [Array.size_append,W9,size_zeroCells,D0,←Nat.add_mul];congr 1;omega
  ·rw [Array.toList_append,hX,←hlen];exact List.take_left
 have newb: ∀C:Array Value,w.grownBy (w.drew.alloc (.cells C el)) (some w.heap.size)∧w.heap.size<(w.drew.alloc (.cells C el)).heap.size∧(w.drew.alloc (.cells C el)).heap[w.heap.size]?=some (.cells C el (0,0)):=
  fun C=>⟨⟨rfl,rfl,rfl,by simp,fun j hj _=>Below.heap_alloc w.drew _ _ hj⟩,by simp,heap_alloc_new w.drew _⟩
 rcases BI with⟨rfl,p,rfl⟩|⟨g,cap,C,rfl,Uh,Lt,hg,Bm,hold,cA⟩
 ·have hold:old= []:=List.eq_nil_of_length_eq_zero (by simpa using ho);subst hold;by_cases hm:m=0
  ·subst hm;have hn:news= []:=List.eq_nil_of_length_eq_zero (by simpa using OZ);subst hn;refine⟨_,w, ?_, .inl ⟨rfl,rfl,rfl⟩⟩;rcases hs with⟨rfl,_,_⟩|⟨ad,rfl,_⟩<;>cases p<;>
    simp [Builtin.append_,run_underlying ht,sizeOf,typeInfo,hi,Builtin.lenOf,Builtin.firstCells,loadCells,loadCellsFrom,storeCells]
  ·rcases hs with⟨_,rfl,_⟩|⟨ad,rfl,h1,h2,h3⟩
   ·exact absurd rfl hm
   ·obtain⟨C',Qx,g1,g2,g3,g4⟩:=grown 0 (by omega) news.toArray (by simp);cases p with
    |none=>have hr:=run_append_nil (P:=P) w t ty el i z ht hi hz ad m r news h1 h2 (by omega) (by simp only [maxLen]at WX;omega) (by have hb:=hb;simp only [Nat.zero_add]at hb;omega);simp only [Nat.zero_add]at g1 g2 g3 g4 Qx ⊢;obtain⟨n1,n2,n3⟩:=newb C';refine⟨_,_,hr, .inr ⟨_,_,C',rfl,g1,g2, ?_,g3,g4, ?_, .inl ⟨rfl, ?_⟩⟩⟩<;>rw [←Qx]<;>first|exact n3|exact n1|exact n2
    |some p=>have hr:=run_append_grow (P:=P) w t ty el i z ht hi hz p 0 0 [] (by simp) (by simp) ad m r news h1 h2 (by omega) (by simp only [maxLen]at WX;omega) (growslice_fits (by omega) hb);rw [show(([]:List Value).toArray++news.toArray)=news.toArray by simp]at hr;simp only [Nat.zero_add]at g1 g2 g3 g4 Qx hr ⊢;obtain⟨n1,n2,n3⟩:=newb C';refine⟨_,_,hr, .inr ⟨_,_,C',rfl,g1,g2, ?_,g3,g4, ?_, .inl ⟨rfl, ?_⟩⟩⟩<;>rw [←Qx]<;>first|exact n3|exact n1|exact n2
 ·rcases hs with⟨rfl,rfl,rfl⟩|⟨ad,rfl,h1,h2,h3⟩
  ·refine⟨_,w, ?_, .inl ⟨rfl,rfl,rfl⟩⟩;simp [Builtin.append_,run_underlying ht,sizeOf,typeInfo,hi,Builtin.lenOf,Builtin.firstCells,Uh,storeCells]
  ·by_cases CF:k+m≤cap
   ·have OH:k*i.size+news.length≤C.size:=by rw [h1,Bm,←Nat.add_mul];exact Nat.mul_le_mul_right _ CF
    have hr:=run_append_room (P:=P) w t ty el i ht hi g k cap C hg ad m r news h1 h2 h3 CF OH;refine⟨_,_,hr, .inr ⟨g,cap,_,rfl,CF,Lt,setRow_heap w g C _ el _ hg, ?_, ?_,⟨rfl,rfl,rfl,by simp,fun j _ hj=>setRow_other w g j _ (fun hh=>hj (by rw [hh]))⟩, .inr cA⟩⟩
    ·simp only [List.size_toArray,Ap,List.length_take,List.length_drop,Array.length_toList];omega
    ·rw [←hold,←hlen];exact List.take_left
   ·have holds: ∀j u,old[j]?=some u→w.cell? ((⟨g,0,none⟩:Addr).add j)=some u:=fun j u hu=>by
     rw [Addr.add_lit,Nat.zero_add,Fe hg];rw [hold,List.getElem?_take]at hu;split at hu
     ·simpa using hu
     ·cases hu
    have hr:=run_append_grow (P:=P) w t ty el i z ht hi hz ⟨g,0,none⟩ k cap old ho holds ad m r news h1 h2 (by omega) (by simp only [maxLen]at WX;omega) (growslice_fits (by omega) hb);obtain⟨C',Qx,g1,g2,g3,g4⟩:=grown cap (by omega) (old.toArray++news.toArray) (by simp);obtain⟨n1,n2,n3⟩:=newb C';refine⟨_,_,hr, .inr ⟨_,_,C',rfl,g1,g2, ?_,g3,g4, ?_, .inl ⟨rfl, ?_⟩⟩⟩<;>rw [←Qx]<;>first|exact n3|exact n1|exact n2
def Cx.bg (c:Cx) (t g':Nat) (w':World) (v:Value) (top O:List Nat):Cx:=
 {c with w:=w',G:=fun u=>if u=t then⟨top,O⟩else c.G u,K:=fun u g=>c.K u g∨(u=t∧g=g'),H:=fun u g=>if u=t∧g=g' then v else c.H u g,U:=fun u=>c.U u∨u=t,E:=fun u=>if u=t then c.E u+1 else c.E u}
theorem Rel.bg (h:Rel c n sl hp a) {t g:Nat} (EX:c.A.pin t=none∨g≠0) (A1: ¬c.K t g) {w':World} {row:Option Nat} (hg:c.w.grownBy w' row)
  (Ft: ∀g0,row=some g0→g0∈(c.G t).top∨(g0=c.w.heap.size∧g0<w'.heap.size)) {top O:List Nat} (CG:top= []∨ ∃g0,row=some g0∧top= [g0]) (hO:O= []∨O=(c.G t).O) {v:Value} (e1:Aj) (A5: ∀hs f,e1≠ .gd hs f) (k:Bj c.ρ gs)
  (he:DV c (c.bg t g w' v top O)→Dn (c.bg t g w' v top O) t e1):Rel (c.bg t g w' v top O) n sl (Bd hp [(t,CY gs e1)]) a:=by
 have hG: ∀u,(c.bg t g w' v top O).G u=if u=t then⟨top,O⟩else c.G u:=fun u=>rfl;have hM: ∀b,(c.bg t g w' v top O).M b→c.M b∨row=some b:=by
  rintro b ⟨u,hu⟩;rw [hG]at hu;split at hu
  ·rcases CG with rfl|⟨g0,hr,rfl⟩
   ·simp at hu
   ·simp at hu;subst hu;exact .inr hr
  ·exact .inl ⟨u,hu⟩
 have T4: ∀b,b<c.w.heap.size→c.ok b→row≠some b:=by
  intro b hb Aw hr;rcases Ft b hr with hh|⟨hh,_⟩
  ·exact Aw.1 ⟨t,hh⟩
  ·omega
 have B3:DV c (c.bg t g w' v top O):=by
  refine⟨rfl,rfl,fun b hb Aw=>⟨fun hm=>(hM b hm).elim Aw.1 (T4 b hb Aw),Aw.2⟩,fun b hb Aw=>hg.block b hb (fun hh=>T4 b hb Aw hh.symm),fun u g1 hu=>⟨.inl hu, ?_⟩,fun u g1 hu=> ?_⟩
  ·simp only [Cx.bg];rw [if_neg];rintro⟨rfl,rfl⟩;exact A1 hu
  ·by_cases G7:u=t
   ·have e1:(c.bg t g w' v top O).E u=c.E u+1:=by simp only [Cx.bg,if_pos G7]
    exact⟨by omega,fun h=>by omega⟩
   ·have e1:(c.bg t g w' v top O).E u=c.E u:=by simp only [Cx.bg,if_neg G7]
    have e2:(c.bg t g w' v top O).G u=c.G u:=by simp only [Cx.bg,if_neg G7]
    rw [e1];refine⟨Nat.le_refl _,fun _=>⟨e2,fun b hb EA=>hg.block b EA fun hh=> ?_⟩⟩;rcases Ft b hh.symm with h1|⟨h1,_⟩
    ·exact h.gw.cz u t G7 b (by simp [GI.own,hb]) (by simp [GI.own,h1])
    ·omega
 have Dv: ∀u,Bd hp [(t,CY gs e1)] u=if u=t then some (CY gs e1)else hp u:=fun u=>rfl;have OX: ∀u,u≠t→ ∀b∈(c.G u).own,row≠some b:=by
  intro u hu b hb hr;rcases Ft b hr with hh|⟨hh,_⟩
  ·exact h.gw.cz u t hu b hb (by simp [GI.own,hh])
  ·have:=h.gw.inb u b hb;omega
 have BY: ∀b∈(⟨top,O⟩:GI).own,row=some b∨b∈(c.G t).own:=by
  intro b hb;simp only [GI.own,Ai]at hb ⊢;rcases hb with hb|hb
  ·rcases CG with rfl|⟨g0,hr,rfl⟩
   ·simp at hb
   ·simp at hb;subst hb;exact .inl hr
  ·rcases hO with rfl|rfl
   ·simp at hb
   ·exact .inr (.inr hb)
 refine h.change (fun u=>u=t) B3 ⟨hg.os.trans h.base.os,hg.tape.trans h.base.tape,hg.output.trans h.base.output,Nat.le_trans h.base.size hg.size,fun u v' hp=>⟨.inl (h.base.pins u v' hp).1,fun hk=> ?_⟩,fun b hb IA=> ?_,h.base.pk,h.base.lo⟩
  (fun u hu=>⟨by rw [Dv,if_neg hu],by rw [hG,if_neg hu],by simp [Cx.bg,hu],fun g1 hh=>hh.resolve_right (fun hh=>hu hh.1)⟩) (fun u hu b hb=>hg.block b (h.gw.inb u b (by simp [GI.own,hb])) (fun hh=>OX u hu b (by simp [GI.own,hb]) hh.symm)) (fun u hu=> ?_) ?_ (fun u g1 hh=> ?_) (fun u f hf=> ?_)
 ·have G7: ¬(u=t∧0=g):=by
   rintro⟨rfl,rfl⟩;rcases EX with hh|hh
   ·have hp':c.A.pin u=some v':=hp;rw [hh]at hp';cases hp'
   ·exact hh rfl
  have B5:=hk.resolve_right G7;simp only [Cx.bg];rw [if_neg G7];exact(h.base.pins u v' hp).2 B5
 ·refine(hg.block b (Nat.lt_of_lt_of_le hb h.base.size) (fun hh=> ?_)).trans (h.base.block b hb IA);rcases Ft b hh.symm with hh|⟨hh,_⟩
  ·rcases h.gw.allow t b (by simp [GI.own,hh])with h1|h1
   ·exact absurd h1 (Nat.not_le.2 hb)
   ·exact IA h1
  ·have:=h.base.size;have h9:b<c.w0.heap.size:=hb;omega
 ·subst hu;rw [Dv,if_pos rfl];exact⟨fun e' hr=>by rw [(SA k A5).1 hr];exact he B3,fun hn=>absurd ((SA k A5).2 rfl) (hn e1)⟩
 ·have Co:(⟨top,O⟩:GI).own.Nodup:=by
   have h0:=h.gw.nodup t;simp only [GI.own]at h0 ⊢;rw [List.nodup_append]at h0 ⊢;refine⟨by rcases CG with rfl|⟨g0,hr,rfl⟩<;>simp,by rcases hO with rfl|rfl;simp;exact h0.2.1,fun p hp q hq=> ?_⟩;rcases CG with rfl|⟨g0,hr,rfl⟩
   ·simp at hp
   ·simp at hp;subst hp;rcases hO with rfl|rfl
    ·simp at hq
    ·rcases Ft p hr with hh|⟨hh,_⟩
     ·exact h0.2.2 p hh q hq
     ·have:=h.gw.inb t q (by simp [GI.own,hq]);omega
  refine⟨fun u=> ?_,fun u u' LM b hb=> ?_,fun u b hb=> ?_,fun u b hb=> ?_⟩
  ·rw [hG];split
   ·exact Co
   ·exact h.gw.nodup u
  ·rw [hG]at hb ⊢;by_cases h1:u=t
   ·rw [if_pos h1]at hb;rw [if_neg (fun hh=>LM (h1.trans hh.symm))];rcases BY b hb with hr|hb
    ·exact fun hh=>OX u' (fun h2=>LM (h1.trans h2.symm)) b hh hr
    ·exact h.gw.cz t u' (fun hh=>LM (h1.trans hh)) b hb
   ·rw [if_neg h1]at hb;by_cases h2:u'=t
    ·rw [if_pos h2];intro Cd;rcases BY b Cd with hr|Cd
     ·exact OX u h1 b hb hr
     ·exact h.gw.cz u t h1 b hb Cd
    ·rw [if_neg h2];exact h.gw.cz u u' LM b hb
  ·rw [hG]at hb;split at hb
   ·rcases BY b hb with hr|hb
    ·rcases Ft b hr with hh|⟨hh,_⟩
     ·exact h.gw.allow t b (by simp [GI.own,hh])
     ·exact .inl (by rw [hh];exact h.base.size)
    ·exact h.gw.allow t b hb
   ·exact h.gw.allow u b hb
  ·rw [hG]at hb;show b<w'.heap.size;split at hb
   ·rcases BY b hb with hr|hb
    ·rcases Ft b hr with hh|⟨_,hh⟩
     ·exact Nat.lt_of_lt_of_le (h.gw.inb t b (by simp [GI.own,hh])) hg.size
     ·exact hh
    ·exact Nat.lt_of_lt_of_le (h.gw.inb t b hb) hg.size
   ·exact Nat.lt_of_lt_of_le (h.gw.inb u b hb) hg.size
 ·rcases hh with hh|⟨rfl,_⟩
  ·exact .inl (h.cj u g1 hh)
  ·exact .inr rfl
 ·rw [Dv]at hf;split at hf
  ·rename_i hu;exact .inr hu
  ·exact .inl (h.c6 u f hf)
theorem wD {w:World} {v:Value} {ys:List AV} {f:List Nat} {sz:Nat} (h:Rd w [v] [.sl ys] f) (hs: ∀y∈ys,y.cells.length=sz):
  ∃q r news N,v= .slice q ys.length r∧Src w sz q ys.length news∧Rd w news (AL ys) N∧(∀b∈N,b∈f)∧news.length=ys.length*sz∧(∀u∈news,u.oneCell'=true):=by
 rcases h.kind with hh|hh|hh|hh|hh|hh|hh|hh|hh|hh
 ·obtain⟨_,_,_,hh,_⟩:=hh;cases hh
 ·obtain⟨_,_,hh,_⟩:=hh;cases hh
 ·obtain⟨_,_,hh,_⟩:=hh;cases hh
 ·obtain⟨p,r,rfl,hh,rfl⟩:=hh;cases hh;refine⟨p,r, [], [],rfl, ?_, .nil,by simp,by simp,by simp⟩;cases p with
  |none=>exact .inl ⟨rfl,rfl,rfl⟩
  |some p=>exact .inr ⟨p,rfl,by simp,by simp,by simp⟩
 ·obtain⟨b,off,m,r,ys',cs,C,t,fz,sz',f1,rfl,hh,rfl,hb,h1,h2,h3,h4,h5,h6,Hj,h7⟩:=hh;cases hh;subst h3;have F3:sz'=sz:=by
   cases ys with
   |nil=>simp at h1
   |cons y ys=>rw [←h4 y (by simp),hs y (by simp)]
  subst F3;have hl:=h7.len;rw [NU ys h4]at hl;exact⟨_,r,cs,f1,rfl, .inr ⟨_,rfl,hl,fun j u hu=>by rw [Addr.add_lit,Fe hb];exact h6 j u hu,Hj⟩,h7,fun q hq=>by simp [hq],hl,Hj⟩
 ·obtain⟨_,_,_,hh,_⟩:=hh;cases hh
 ·obtain⟨_,_,_,hh,_⟩:=hh;cases hh
 ·obtain⟨_,_,_,_,_,_,_,hh,_⟩:=hh;cases hh
 ·obtain⟨_,_,_,_,hh,_⟩:=hh;cases hh
 ·obtain⟨_,hh,_⟩:=hh;cases hh
end
section
variable {P:Program} {c:Cx} {n nx:Nat} {sl sl0:Nat→SV} {hp hp0:Nat→Option Aj} {a:Act} {o:Oper} {gs:Gd} {e:A7} {sg:B0} {nv:Nat}
theorem Qa (hp:Nat→Option Aj) (l m:List (Nat × Aj)):Bd hp (l++m)=Bd (Bd hp l) m:=by simp [Bd,List.foldl_append]
theorem zxe (h:Rel c n sl hp a) (hs: ∀t e,hp0 t=some e→hp t=some e) (k:Bj c.ρ gs) {el:TypeId} {s:SV} {v:Value} (hr:SR c [s] [v]) {y:E} (hy:Br hp0 gs A3 s=some y) {fz:List (Nat × Aj)} {d:Bool} {ck:Cn} (ht:WG P hp0 gs el s y=some (fz,d,ck)) (hc:ck.den c.ρ):
  ∃ts ys q r news N,DS hp0 gs ts=some fz∧y.den c.ρ= .sl ys∧(∀z∈ys,z.cells.length=P.cellsOf el)∧v= .slice q ys.length r∧Src c.w (P.cellsOf el) q ys.length news∧Rd c.w news (AL ys) N∧(∀b∈N,(c.cf (fz.map (·.1))).ok b)∧(d=true→N= [])∧news.length=ys.length*P.cellsOf el∧ ∀u∈news,u.oneCell'=true:=by
 have eh:EH c hp0:=fun t e hr=>h.ents t e (Mm hs hr);obtain⟨f,q1,q2⟩:=Ii eh k A3 hy hr A3 (Nat.le_refl _);unfold WG at ht;split at ht
 ·simp only [Ah,Prod.mk.injEq]at ht;obtain⟨rfl,rfl,rfl⟩:=ht;obtain⟨ys,DG,AF⟩:=hc;rw [DG]at q1;obtain⟨q,r,news,N,hv,g1,g2,g3,g4,g5⟩:=wD q1 (fun z hz=>(AF z hz).1);have hN:N= []:=Ij g2 (fun x hx=>by
   obtain⟨z,hz,hx⟩:=List.mem_flatMap.1 hx;exact(AF z hz).2 x hx)
  exact⟨[],ys,q,r,news,N,rfl,DG,fun z hz=>(AF z hz).1,hv,g1,g2,by simp [hN],fun _=>hN,g4,g5⟩
 ·split at ht
  ·rename_i J0;obtain⟨l,hl,ht⟩:=Au.1 ht;simp only [Prod.mk.injEq]at ht;obtain⟨rfl,rfl,rfl⟩:=ht;obtain⟨ys,DG,AF⟩:=hc;rw [DG]at q1;obtain⟨q,r,news,N,hv,g1,g2,g3,g4,g5⟩:=wD q1 AF;exact⟨_,ys,q,r,news,N,hl,DG,AF,hv,g1,g2,fun b hb=>V0 h eh k hl J0 (q2 b (g3 b hb)),by simp,g4,g5⟩
  ·cases ht
theorem L8 {el:TypeId} (h:IU P el=true): ∃i z,P.info? el=some i∧i.zero=some z∧z.cells.size=i.size∧0<i.size∧P.cellsOf el=i.size∧P.bytesOf el=i.bytes:=by
 unfold IU at h;cases hi:P.info? el with
 |none=>simp [hi]at h
 |some i=>
  cases hz:i.zero with
  |none=>simp [hi,hz]at h
  |some z=>simp only [hi,hz,Ae,beq_iff_eq,bne_iff_ne]at h;exact⟨i,z,rfl,hz,h.1,by omega,by simp [Program.cellsOf,hi],by simp [Program.bytesOf,hi]⟩
theorem mY (xs ys:List AV):AL (xs++ys)=AL xs++AL ys:=by simp [AL]
theorem mP (h:Bt P c n nx sl hp a sl0 hp0 o gs) {x y:Operand} {tx:TypeId} {cl:Call} (ho:o.op= .call cl) (AF:cl.callee= .builtin .append) (Dz:cl.args.toList= [x,y]) (EN:cl.argTypes.toList= [tx,tx])
  {el:TypeId} (BE:P.underlying tx=some (.slice el)) (hz:IU P el=true) {s2:SV} {ye:E} (A6:BV sl0 gs y=some s2) (hy:Br hp0 gs A3 s2=some ye) {fz:List (Nat × Aj)} {d:Bool} {ck:Cn} (Cp:WG P hp0 gs el s2 ye=some (fz,d,ck)) (JO:ck.den c.ρ)
  {t g:Nat} (EX:c.A.pin t=none∨g≠0) {c0:E} {d':Bool} (CF:Cn.den c.ρ (.room c0 ye (P.bytesOf el))) (Fv: ∀f,(t,f)∉fz) (A1: ¬c.K t g)
  {top N0:List Nat} {v:Value} (hv:a.eval x=v) (BI:Dd c.w el (P.cellsOf el) v (c0.den c.ρ) top N0) (CG:(c.G t).top=top) (Ow: ∀b∈N0,c.ok b) (cV:d'=true→Tx c.w N0∧(c.G t).O=N0) (Lz: ∀g',c.K t g'→g'≤g) (hU: ∀u,u=t→c.U u∨(nx≤u∧u<nx+BN)) {ckl:List Cn}:
  AB P o c n nx sl hp gs a {ca:=ckl,val:= .own t g,bu:=fz++ [(t,CY gs (.row el (P.cellsOf el) g (.app c0 ye) (d&&d')))]}:=by
 have Ay:cl.args= #[x,y]:=by apply Array.ext';simp [Dz]
 have Hz:cl.argTypes= #[tx,tx]:=by apply Array.ext';simp [EN]
 have DF:y∈o.op.operands:=by simp [ho,Op.operands,Call.operands,AF,Ay]
 obtain⟨i,z,hi,Gx,D0,Cf,CI,G0⟩:=L8 hz;obtain⟨ts,ys,q,r,news,N,H2,DG,Ph,DB,F2,J1,Gt,hdN,OZ,eM⟩:=zxe h.rel h.hp h.gs (h.db A6 DF) hy Cp JO;have Du:=h.rel.freeze h.hp h.gs H2;obtain⟨xs,CP,IE,_,Bl⟩:=BI;obtain⟨mm,kk,H6,CR,Uq,fA⟩:=CF;rw [CP]at H6;rw [DG]at CR;simp only [AV.len,AV.int.injEq,true_and]at H6 CR;have Iw:(xs.length+ys.length)*i.bytes≤140737488355328:=by
  rw [←H6,←CR,G0]at Uq;have h9:(((xs.length+ys.length)*i.bytes:Nat):Int)≤140737488355328:=by rw [Int.natCast_mul,Int.natCast_add];exact Uq
  omega
 have EA:xs.length+ys.length≤140737488355328:=by rw [←H6,←CR]at fA;omega
 rw [CI]at F2 OZ IE Ph Bl;obtain⟨old,hold,H8,DJ,C6⟩: ∃old,old.length=xs.length*i.size∧((xs.length=0∧ ∃q,v= .slice q 0 0)∨ ∃g cap C,v= .slice (some ⟨g,0,none⟩) xs.length cap∧xs.length≤cap∧cap≤maxLen∧c.w.heap[g]?=some (.cells C el (0,0))∧C.size=cap*i.size∧old=C.toList.take (xs.length*i.size)∧g∈(c.G t).top)∧Rd c.w old (AL xs) N0∧ ∀u∈old,u.oneCell'=true:=by
  rcases Bl with⟨rfl,⟨p,rfl⟩,rfl,rfl⟩|⟨g9,cap,C,rfl,h6,h7,h8,h9,rfl,Hi,Ep⟩
  ·exact⟨[],by simp, .inl ⟨rfl,p,rfl⟩, .nil,by simp⟩
  ·refine⟨_, ?_, .inr ⟨g9,cap,C,rfl,h6,h7,h8,h9,rfl,by rw [CG];simp⟩,Ep,Hi⟩;have e9:C.toList.length=cap*i.size:=by rw [←h9];simp
   rw [List.length_take,e9];exact Nat.min_eq_left (Nat.mul_le_mul_right _ h6)
 obtain⟨v',w',AN,AQ⟩:=sL (P:=P) c.w tx o.type el i z BE hi Gx D0 Cf (fun g9=>g9∈(c.G t).top) v xs.length old hold H8 q ys.length r news F2 (by simp only [maxLen];omega) Iw;have FJ:(execOp a.eval o).run P c.w= .ok (.value v') w':=by simp [execOp,ho,resolve,AF,Ay,Hz,invoke,builtin,hv,DB,AN]
 intro next Q hk
 unfold Oper.wp;rw [FJ,Oper.upon_value];have hc1w:(c.cf (fz.map (·.1))).w=c.w:=rfl;have sZ:(c.cf (fz.map (·.1))).G t=c.G t:=by simp only [Cx.cf];rw [if_neg];rintro hh;obtain⟨⟨u,f⟩,hf,rfl⟩:=List.mem_map.1 hh;exact Fv f hf
 obtain⟨row,top',T6,Ft,Uy,BH,CV⟩: ∃row top',c.w.grownBy w' row∧(∀g0,row=some g0→g0∈(c.G t).top∨(g0=c.w.heap.size∧g0<w'.heap.size))∧(top'= []∨ ∃g0,row=some g0∧top'= [g0])∧
   (DV (c.cf (fz.map (·.1))) ((c.cf (fz.map (·.1))).bg t g w' v' top' (if(d&&d')=true then(c.G t).O else []))→ ∃N',Dd w' el (P.cellsOf el) v' (.sl (xs++ys)) top' N'∧(∀b∈N',b∈N0∨b∈N)∧((d&&d')=true→N'=N0))∧ ∃p m r,v'= .slice p m r:=by
  rcases AQ with⟨rfl,rfl,Es⟩|⟨g9,cap,C,rfl,h1,h2,h3,h4,h5,h6,h7⟩
  ·have Ia:ys= []:=List.eq_nil_of_length_eq_zero Es;subst Ia;refine⟨if top= []then none else top.head?,top,⟨rfl,rfl,rfl,Nat.le_refl _,fun _ _ _=>rfl⟩,fun g0 Ft=> .inl ?_, ?_,fun _=>⟨N0, ?_,fun b hb=> .inl hb,fun _=>rfl⟩, ?_⟩
   ·rw [CG];split at Ft
    ·cases Ft
    ·exact List.mem_of_mem_head? Ft
   ·rcases Bl with⟨_,_,rfl,_⟩|⟨g9,_,_,_,_,_,_,_,rfl,_⟩
    ·exact .inl rfl
    ·exact .inr ⟨g9,by simp,rfl⟩
   ·rw [CI];exact⟨xs,by simp,IE,Cf,Bl⟩
   ·rcases H8 with⟨_,p,rfl⟩|⟨g9,cap,C,rfl,_⟩
    ·exact⟨_,_,_,rfl⟩
    ·exact⟨_,_,_,rfl⟩
  ·refine⟨some g9, [g9],h6,fun g0 Ft=> ?_, .inr ⟨g9,rfl,rfl⟩,fun G4=>⟨N0++N,⟨xs++ys,rfl,fun z hz=> ?_,by rw [CI];exact Cf, .inr ⟨g9,cap,C,by simp,by simpa using h1,h2,h3,by rw [CI];exact h4,rfl, ?_, ?_⟩⟩,fun b hb=>Ai.1 hb,fun E8=> ?_⟩,_,_,_,rfl⟩
   ·cases Ft;exact h7.symm
   ·rcases Ai.1 hz with hz|hz
    ·rw [CI];exact IE z hz
    ·rw [CI];exact Ph z hz
   ·rw [CI];simp only [Ap];rw [h5];intro u hu;rcases Ai.1 hu with hu|hu
    ·exact C6 u hu
    ·exact eM u hu
   ·rw [CI];simp only [Ap];rw [h5,mY];refine Rd.app (DJ.frame fun b hb=> ?_) (J1.frame fun b hb=> ?_)
    ·have Iw:=DJ.inb b hb;exact G4.mem b Iw (Cx.gn (Ow b hb))
    ·have Iw:=J1.inb b hb;exact G4.mem b Iw (Gt b hb)
   ·simp only [Ae]at E8;rw [hdN E8.1];simp
 obtain⟨p9,m9,r9,hv9⟩:=CV;have DZ:=Du.bg (gs:=gs) (t:=t) (g:=g) (w':=w') (row:=row) (top:=top') (O:=if(d&&d')=true then(c.G t).O else []) (v:=v') EX A1 T6 (by rw [sZ];exact Ft) Uy (by split;exact .inr (by rw [sZ]);exact .inl rfl)
  (.row el (P.cellsOf el) g (.app c0 ye) (d&&d')) (by intros;simp) h.gs (fun G4=>by
   obtain⟨N',o1,o2,o3⟩:=BH G4;have Aw: ∀b∈N',((c.cf (fz.map (·.1))).bg t g w' v' top' (if(d&&d')=true then(c.G t).O else [])).ok b:=by
    intro b hb;rcases o2 b hb with hb|hb
    ·exact G4.ok b (DJ.inb b hb) (Cx.gn (Ow b hb))
    ·exact G4.ok b (J1.inb b hb) (Gt b hb)
   refine⟨.inr ⟨rfl,rfl⟩,fun g' Cm=> ?_,N', ?_,Aw,fun E8=> ?_,fun E8=> ?_⟩
   ·rcases Cm with Cm|⟨_,rfl⟩
    ·exact Lz g' Cm
    ·exact Nat.le_refl _
   ·have e1:((c.cf (fz.map (·.1))).bg t g w' v' top' (if(d&&d')=true then(c.G t).O else [])).H t g=v':=by simp [Cx.bg]
    have e2:(((c.cf (fz.map (·.1))).bg t g w' v' top' (if(d&&d')=true then(c.G t).O else [])).G t).top=top':=by simp [Cx.bg]
    rw [e1,e2];show Dd w' el (P.cellsOf el) v' (AV.app (c0.den c.ρ) (ye.den c.ρ)) top' N';rw [CP,DG];exact o1
   ·have bW:=o3 E8;have cW:d'=true:=by simp only [Ae]at E8;exact E8.2
    obtain⟨u1,u2⟩:=cV cW;subst bW;refine⟨u1.frame fun b hb=>G4.mem b (DJ.inb b hb) (Cx.gn (Ow b hb)), ?_⟩;simp only [Cx.bg,if_true,E8];exact u2
   ·simp [Cx.bg,E8])
 have cD:SR ((c.cf (fz.map (·.1))).bg t g w' v' top' (if(d&&d')=true then(c.G t).O else [])) [.own t g] [v']:=by rw [hv9];exact .own (.inr ⟨rfl,rfl⟩) (by simp [Cx.bg]) .nil
 refine hk _ ((c.cf (fz.map (·.1))).bg t g w' v' top' (if(d&&d')=true then(c.G t).O else [])) ⟨rfl,rfl,rfl,rfl,fun u hu=> ?_⟩ ?_
 ·rcases hu with hu|rfl
  ·exact .inl hu
  ·exact hU u rfl
 ·have:=DZ.put (cD.mkGd gs h.gs) o.dst;rw [Qa];exact this
end
section
variable {P:Program} {c:Cx} {n nx:Nat} {sl sl0:Nat→SV} {hp hp0:Nat→Option Aj} {a:Act} {o:Oper} {gs:Gd} {e:A7} {sg:B0} {nv:Nat}
theorem KX {t el:TypeId} (h:CT P t=some el):P.underlying t=some (.slice el):=by
 unfold CT at h;split at h
 ·simp at h;subst h;assumption
 ·cases h
theorem zuJ {ts:List Nat} {l:List (Nat × Aj)} (k:Bj c.ρ gs) (h:DS hp0 gs ts=some l): ∀t f,(t,f)∈l→ ∃g x f',CD c.ρ (hp0 t) f'∧Ms f' g x:=by intro t f hf;obtain⟨_,_,g,x,f',_,r⟩:=(PR k h).1 t f hf;exact⟨g,x,f',r⟩
theorem zvD (h:Bt P c n nx sl hp a sl0 hp0 o gs) {x y:Operand} {tx ty:TypeId} {cl:Call} (ho:o.op= .call cl) (AF:cl.callee= .builtin .append) (Dz:cl.args.toList= [x,y]) (EN:cl.argTypes.toList= [tx,ty])
  {s1 s2:SV} (BO:BV sl0 gs x=some s1) (A6:BV sl0 gs y=some s2) (he:pJ P hp0 gs nx tx ty s1 s2=some e) (hc: ∀q∈e.ca,Cn.den c.ρ q):AB P o c n nx sl hp gs a e:=by
 have Ay:cl.args= #[x,y]:=by apply Array.ext';simp [Dz]
 have Et:x∈o.op.operands:=by simp [ho,Op.operands,Call.operands,AF,Ay]
 unfold pJ at he;split at he
 ·cases he
 rename_i Pc;have Pc:tx=ty:=by simpa using Pc
 subst Pc;split at he
 ·rename_i el BE;have BE:=KX BE;split at he
  ·cases he
  rename_i hz;have hz:IU P el=true:=by simpa using hz
  split at he
  ·cases he
  rename_i ye hy;split at he
  ·cases he
  rename_i fz d ck Cp;obtain⟨ts,H2⟩: ∃ts,DS hp0 gs ts=some fz:=by
   unfold WG at Cp;split at Cp
   ·simp only [Ah,Prod.mk.injEq]at Cp;obtain⟨rfl,_⟩:=Cp;exact⟨[],rfl⟩
   ·split at Cp
    ·obtain⟨l,hl,Cp⟩:=Au.1 Cp;simp only [Prod.mk.injEq]at Cp;obtain⟨rfl,_⟩:=Cp;exact⟨_,hl⟩
    ·cases Cp
  have r1:=h.db BO Et;have fresh: ∀f,(nx,f)∉fz:=fun f hf=>by
   obtain⟨_,_,_,r,_⟩:=zuJ (c:=c) h.gs H2 nx f hf;have r:=Mm h.hp r;cases hh:hp nx with
   |none=>rw [hh]at r;exact r.elim
   |some e9=>exact P6 h (h.rel.c6 nx e9 hh)
  have hK: ∀g,¬c.K nx g:=fun g hg=>P6 h (h.rel.cj _ _ hg);have GJ:=h.rel.off nx (fun e9 hr=>by
   cases hh:hp nx with
   |none=>rw [hh]at hr;exact hr.elim
   |some e8=>exact P6 h (h.rel.c6 nx e8 hh))
  have Xo:c.A.pin nx=none:=by
   cases hh:c.A.pin nx with
   |none=>rfl
   |some v=>exact absurd (h.rel.base.pins nx v hh).1 (P6 h)
  have tD: ∀u,u=nx→c.U u∨(nx≤u∧u<nx+BN):=fun u hu=> .inr ⟨by omega,by rw [hu];simp [BN]⟩;have uA:P.cellsOf el≠0:=by obtain⟨i,_,_,_,_,h1,h2,_⟩:=L8 hz;omega
  split at he
  ·rename_i t g;split at he
   ·rename_i e' sz' g' c0 d' hl;split at he
    ·rename_i hh;obtain⟨rfl,rfl,rfl,rfl,Fv⟩:=hh;simp only [Ah]at he;subst he;have FI:=Db hl h.gs;obtain⟨q1,q2,N,q3,q4,q5,q6⟩:=h.eh t _ FI;generalize hv:a.eval x=v at r1;cases r1 with
     |own k1 k2 _=>
      have:=mP (nx:=nx) h ho AF Dz EN BE hz A6 hy Cp (hc _ (by simp)) (t:=t) (g:=g+1) (.inr (by omega)) (c0:=c0) (d':=d') (hc _ (by simp)) (fun f hf=>by simp only [Bool.not_eq_true',List.contains_eq_mem,decide_eq_false_iff_not]at Fv;exact Fv (List.mem_map.2 ⟨_,hf,rfl⟩)) (fun hh=>by have:=q2 _ hh;omega) hv (by rw [←k2];exact q3) rfl q4 q5 (fun g' Cm=>by have:=q2 _ Cm;omega) (fun u hu=> .inl (by rw [hu];exact h.rel.cj t g q1)) (ckl:= [.room c0 ye (P.bytesOf el),ck])
      exact this
    ·cases he
   ·cases he
  ·simp only [Ah]at he;subst he;generalize hv:a.eval x=v at r1;cases r1 with
   |emp _=>have:=mP (nx:=nx) h ho AF Dz EN BE hz A6 hy Cp (hc _ (by simp)) (t:=nx) (g:=0) (.inl Xo) (c0:= .lst .nil) (d':=true) (top:= []) (N0:= []) (hc _ (by simp)) fresh (hK 0) hv ⟨[],rfl,by simp,by omega, .inl ⟨rfl,⟨_,rfl⟩,rfl,rfl⟩⟩ GJ.1 (by simp) (fun _=>⟨rfl,GJ.2⟩) (fun g' Cm=>absurd Cm (hK g')) tD (ckl:= [.room (.lst .nil) ye (P.bytesOf el),ck]);rw [Bool.and_true]at this;exact this
  ·simp only [Ah]at he;subst he;generalize hv:a.eval x=v at r1;cases r1 with
   |cq _=>have:=mP (nx:=nx) h ho AF Dz EN BE hz A6 hy Cp (hc _ (by simp)) (t:=nx) (g:=0) (.inl Xo) (c0:= .lst .nil) (d':=true) (top:= []) (N0:= []) (hc _ (by simp)) fresh (hK 0) hv ⟨[],rfl,by simp,by omega, .inl ⟨rfl,⟨_,rfl⟩,rfl,rfl⟩⟩ GJ.1 (by simp) (fun _=>⟨rfl,GJ.2⟩) (fun g' Cm=>absurd Cm (hK g')) tD (ckl:= [.room (.lst .nil) ye (P.bytesOf el),ck]);rw [Bool.and_true]at this;exact this
  ·cases he
 ·cases he
end
section
variable {P:Program} {c:Cx} {n nx:Nat} {sl sl0:Nat→SV} {hp hp0:Nat→Option Aj} {a:Act} {o:Oper} {gs:Gd} {e:A7} {sg:B0} {nv:Nat}
theorem Vz: ∀{ts us:List Nat} {l m:List (Nat × Aj)},DS hp0 gs ts=some l→DS hp0 gs us=some m→DS hp0 gs (ts++us)=some (l++m)
 | [],us,l,m,h,k=>by simp [DS]at h;subst h;simpa using k
 |t::ts,us,l,m,h,k=>by
  unfold DS at h;simp only [List.cons_append];unfold DS;split at h
  ·rename_i ety sz g x d l' hl BG;have ih:=Vz BG k;split at h
   ·rename_i hg;simp at h;subst h;simp [hl,ih,hg]
   ·cases h
  ·rename_i ety sz dl g ep x l' hl BG;have ih:=Vz BG k;split at h
   ·rename_i hg;simp at h;subst h;simp [hl,ih,hg]
   ·cases h
  ·rename_i g x l' hl BG;have ih:=Vz BG k;simp at h;subst h;simp [hl,ih]
  ·rename_i ty g cs l' hl BG;have ih:=Vz BG k;simp at h;subst h;simp [hl,ih]
  ·cases h
theorem zst {ts us:List Nat} (hs: ∀t∈ts,t∈us) {b:Nat} (h:(c.cf ts).ok b):(c.cf us).ok b:=by refine⟨fun hm=>h.1 ?_,h.2⟩;obtain⟨u,hu,hb⟩:=Cx.kj hm;exact⟨u,by simp only [Cx.cf];rw [if_neg (fun hh=>hu (hs u hh))];exact hb⟩
theorem pQ {w:World} {v:Value} {x:AV} {f:List Nat} {t:TypeId} (h:Rd w [v] [x] f) (hg:Ao P t=true∨P.cellsOf t=1) (hx:if Ao P t then∃cs,x= .agg cs∧cs.length=P.cellsOf t else(∀cs,x≠ .agg cs)∧ ∀cs,x≠ .tup cs):
  Rd w v.cells.toList x.cells f∧(∀u∈v.cells.toList,u.oneCell'=true)∧x.cells.length=P.cellsOf t∧v.cells.size=P.cellsOf t:=by
 split at hx
 ·obtain⟨cs,rfl,hl⟩:=hx;obtain⟨as_,rfl,h1,h2⟩:=Kw h rfl;have:=h2.len;exact⟨by simpa [Value.cells,AV.cells]using h2,by simpa [Value.cells]using h1,hl,by simp [Value.cells];omega⟩
 ·rename_i hna;have h1:P.cellsOf t=1:=by rcases hg with h'|h';exact absurd h' hna;exact h'
  have C6:=nN h hx.1 hx.2;have IE:x.cells= [x]:=by cases x<;>first|rfl|exact absurd rfl (hx.1 _)
  rw [one_cells C6,IE];exact⟨by simpa using h,by simpa using C6,by simp [h1],by simp [h1]⟩
theorem zqr (h:Rel c n sl hp a) (hs: ∀t e,hp0 t=some e→hp t=some e) (k:Bj c.ρ gs) {t:TypeId} (hg:Ao P t=true∨P.cellsOf t=1): ∀(ss:List SV) (vs:List Value) {xs:List E} {fz:List (Nat × Aj)} {d:Bool} {ck:List Cn},SR c ss vs→Wz P hp0 gs t ss=some (xs,fz,d,ck)→(∀q∈ck,q.den c.ρ)→
  ∃N,Rd c.w (vs.flatMap fun v=>v.cells.toList) (AL (xs.map (E.den c.ρ))) N∧(d=true→N= [])∧(∃ts,DS hp0 gs ts=some fz)∧(∀b∈N,(c.cf (fz.map (·.1))).ok b)∧(∀v∈vs,v.cells.size=P.cellsOf t∧ ∀u∈v.cells.toList,u.oneCell'=true)∧(∀x∈xs,(x.den c.ρ).cells.length=P.cellsOf t)∧xs.length=vs.length
 | [],vs,xs,fz,d,ck,hr,ht,hc=>by simp [Wz]at ht;obtain⟨rfl,rfl,rfl,rfl⟩:=ht;cases hr;exact⟨[],by simpa [AL]using Rd.nil,fun _=>rfl,⟨[],rfl⟩,by simp,by simp,by simp,rfl⟩
 |s::ss, [],xs,fz,d,ck,hr,ht,hc=>by have:=hr.len;simp at this
 |s::ss,v::vs,xs,fz,d,ck,hr,ht,hc=>by
  obtain⟨r1,r2⟩:=hr.cr;unfold Wz at ht;split at ht
  ·rename_i x fz1 d1 ck1 xs2 fz2 d2 ck2 h1 h2;simp only [Ah,Prod.mk.injEq]at ht;obtain⟨rfl,rfl,rfl,rfl⟩:=ht;obtain⟨f,q1,q2,⟨ts1,q3,q4⟩,q5⟩:=zry h hs k r1 h1 (fun q hq=>hc q (by simp [hq]));obtain⟨N,p1,p2,⟨ts2,p3⟩,p4,p5,p6,p7⟩:=zqr h hs k hg ss vs r2 h2 (fun q hq=>hc q (by simp [hq]));obtain⟨o1,o2,o3,o4⟩:=pQ (P:=P) q1 hg q5;refine⟨f++N, ?_,fun hd=> ?_,⟨_,Vz q3 p3⟩,fun b hb=> ?_, ?_, ?_,by simp [p7]⟩
   ·simpa [AL]using o1.app p1
   ·simp only [Ae]at hd;rw [q2 hd.1,p2 hd.2];rfl
   ·rcases Ai.1 hb with hb|hb
    ·exact zst (fun t ht=>by simp only [List.map_append,Ai];exact .inl ht) (q4 b hb)
    ·exact zst (fun t ht=>by simp only [List.map_append,Ai];exact .inr ht) (p4 b hb)
   ·intro u hu;rcases Ag.1 hu with rfl|hu
    ·exact⟨o4,o2⟩
    ·exact p5 u hu
   ·intro u hu;rcases Ag.1 hu with rfl|hu
    ·exact o3
    ·exact p6 u hu
  ·cases ht
theorem pF {sz:Nat} (place:Nat→Option (Nat × Nat)) (O4: ∀i,place i=some (i*sz,sz)): ∀(vs:List Value) (k:Nat) (C:Array Value) (pre suf:List Value),C.toList=pre++suf→pre.length=k*sz→suf.length=vs.length*sz→(∀v∈vs,v.cells.size=sz)→
  ∃C',Instr.fill place C ((vs.zipIdx k).map fun p=>(p.2,p.1))=some C'∧C'.toList=pre++vs.flatMap fun v=>v.cells.toList
 | [],k,C,pre,suf,h,_,h2,_=>by have:suf= []:=List.eq_nil_of_length_eq_zero (by simpa using h2);subst this;exact⟨C,rfl,by simpa using h⟩
 |v::vs,k,C,pre,suf,h,h1,h2,h3=>by
  have hv:=h3 v (by simp);simp only [An,Nat.add_mul,Nat.one_mul]at h2;have hC:C.size=pre.length+suf.length:=by rw [←Array.length_toList,h,Ap]
  have MQ:(v.cells.zipIdx.foldl (fun cs (p:Value × Nat)=>cs.setIfInBounds (k*sz+p.2) p.1) C).toList=setVs C.toList (k*sz) v.cells.toList:=by have:=zy6 v.cells.toList 0 (k*sz) C (by simp;omega);rw [←Array.foldl_toList,Array.toList_zipIdx];simpa using this
  have J5:setVs C.toList (k*sz) v.cells.toList=(pre++v.cells.toList)++suf.drop sz:=by unfold setVs;rw [h,←h1,List.take_left' rfl];congr 1;rw [List.drop_append,List.drop_eq_nil_of_le (by omega)];simp [hv]
  obtain⟨C',g1,g2⟩:=pF place O4 vs (k+1) (v.cells.zipIdx.foldl (fun cs (p:Value × Nat)=>cs.setIfInBounds (k*sz+p.2) p.1) C) (pre++v.cells.toList) (suf.drop sz) (by rw [MQ,J5]) (by simp [h1,hv,Nat.add_mul]) (by simp;omega) (fun u hu=>h3 u (by simp [hu]));refine⟨C', ?_,by rw [g2];simp⟩;simp only [List.zipIdx_cons,List.map_cons];unfold Instr.fill;simp only [O4];rw [if_neg (by simp [hv];omega)];exact g1
theorem AB.newRow (h:Bt P c n nx sl hp a sl0 hp0 o gs) {ts:List Nat} {fz:List (Nat × Aj)} (H2:DS hp0 gs ts=some fz) {el:TypeId} {C:Array Value} {cap:Nat} {xs:List AV} {x:E} {d:Bool} {N:List Nat} {ckl:List Cn} {wd:World} (hwd:wd.heap=c.w.heap∧wd.os=c.w.os∧wd.tape=c.w.tape∧wd.output=c.w.output)
  (hr:(execOp a.eval o).run P c.w= .ok (.value (.slice (some ⟨c.w.heap.size,0,none⟩) xs.length cap)) (wd.alloc (.cells C el))) (hx:x.den c.ρ= .sl xs) (Cf:P.cellsOf el≠0) (AF: ∀y∈xs,y.cells.length=P.cellsOf el) (hle:xs.length≤cap) (JN:cap≤maxLen) (hC:C.size=cap*P.cellsOf el)
  (h1: ∀u∈C.toList.take (xs.length*P.cellsOf el),u.oneCell'=true) (hN:Rd c.w (C.toList.take (xs.length*P.cellsOf el)) (AL xs) N) (Gt: ∀b∈N,(c.cf (fz.map (·.1))).ok b) (hd:d=true→N= []):
  AB P o c n nx sl hp gs a {ca:=ckl,val:= .own nx 0,bu:=fz++ [(nx,CY gs (.row el (P.cellsOf el) 0 x d))]}:=by
 intro next Q hk
 unfold Oper.wp;rw [hr,Oper.upon_value];have hU:=P6 h;have Du:=h.rel.freeze h.hp h.gs H2;have hK: ∀g,¬c.K nx g:=fun g hg=>hU (h.rel.cj _ _ hg);have Xo:c.A.pin nx=none:=by
  cases hh:c.A.pin nx with
  |none=>rfl
  |some v=>exact absurd (h.rel.base.pins nx v hh).1 hU
 have GJ:=h.rel.off nx (fun e9 hr=>by
  cases hh:hp nx with
  |none=>rw [hh]at hr;exact hr.elim
  |some e8=>exact hU (h.rel.c6 nx e8 hh))
 obtain⟨w1,w2,w3,w4⟩:=hwd;have Eg:c.w.grownBy (wd.alloc (.cells C el)) (some c.w.heap.size):=by
  refine⟨w2,w3,w4, ?_,fun k hk _=> ?_⟩
  ·show c.w.heap.size≤(wd.heap.push _).size;simp [w1]
  ·have:=Below.heap_alloc wd (.cells C el) k (by rw [w1];exact hk);rw [this,w1]
 have M0:(wd.alloc (.cells C el)).heap[c.w.heap.size]?=some (.cells C el (0,0)):=by have:=heap_alloc_new wd (.cells C el);rw [w1]at this;exact this
 have Ak:c.w.heap.size<(wd.alloc (.cells C el)).heap.size:=F7 M0;have hO:(c.cf (fz.map (·.1))).G nx=⟨[], []⟩∨((c.cf (fz.map (·.1))).G nx).O= []:=by
  right;simp only [Cx.cf];split
  ·rfl
  ·exact GJ.2
 have DZ:=Du.bg (gs:=gs) (t:=nx) (g:=0) (w':=wd.alloc (.cells C el)) (row:=some c.w.heap.size) (top:= [c.w.heap.size]) (O:= []) (v:= .slice (some ⟨c.w.heap.size,0,none⟩) xs.length cap) (.inl Xo) (hK 0) Eg (fun g0 Ft=>by cases Ft;exact .inr ⟨rfl,Ak⟩) (.inr ⟨_,rfl,rfl⟩) (.inl rfl)
  (.row el (P.cellsOf el) 0 x d) (by intros;simp) h.gs (fun G4=>by
   refine⟨.inr ⟨rfl,rfl⟩,fun g' Cm=> ?_,N, ?_,fun b hb=>G4.ok b (hN.inb b hb) (Gt b hb),fun E8=> ?_,fun _=>by simp [Cx.bg]⟩
   ·rcases Cm with Cm|⟨_,rfl⟩
    ·exact absurd Cm (hK g')
    ·exact Nat.le_refl _
   ·have e1:((c.cf (fz.map (·.1))).bg nx 0 (wd.alloc (.cells C el)) (.slice (some ⟨c.w.heap.size,0,none⟩) xs.length cap) [c.w.heap.size] []).H nx 0= .slice (some ⟨c.w.heap.size,0,none⟩) xs.length cap:=by simp [Cx.bg]
    have e2:(((c.cf (fz.map (·.1))).bg nx 0 (wd.alloc (.cells C el)) (.slice (some ⟨c.w.heap.size,0,none⟩) xs.length cap) [c.w.heap.size] []).G nx).top= [c.w.heap.size]:=by simp [Cx.bg]
    rw [e1,e2];show Dd (wd.alloc (.cells C el)) el (P.cellsOf el) _ (x.den c.ρ) _ N;rw [hx];exact⟨xs,rfl,AF,by omega, .inr ⟨_,cap,C,rfl,hle,JN,M0,hC,rfl,h1,hN.frame fun b hb=>G4.mem b (hN.inb b hb) (Gt b hb)⟩⟩
   ·rw [hd E8];exact⟨rfl,by simp [Cx.bg]⟩)
 have cD:SR ((c.cf (fz.map (·.1))).bg nx 0 (wd.alloc (.cells C el)) (.slice (some ⟨c.w.heap.size,0,none⟩) xs.length cap) [c.w.heap.size] []) [.own nx 0] [.slice (some ⟨c.w.heap.size,0,none⟩) xs.length cap]:=
  .own (.inr ⟨rfl,rfl⟩) (by simp [Cx.bg]) .nil
 refine hk _ ((c.cf (fz.map (·.1))).bg nx 0 (wd.alloc (.cells C el)) (.slice (some ⟨c.w.heap.size,0,none⟩) xs.length cap) [c.w.heap.size] []) ⟨rfl,rfl,rfl,rfl,fun u hu=> ?_⟩ ?_
 ·rcases hu with hu|rfl
  ·exact .inl hu
  ·exact .inr ⟨Nat.le_refl _,by simp [BN]⟩
 ·have:=DZ.put (cD.mkGd gs h.gs) o.dst;rw [Qa];exact this
theorem zX {t el:TypeId} (hu:P.underlying t=some (.slice el)) (Bp:DE P el=true) {i:TypeInfo} {z:Value} (hi:P.info? el=some i) (hz:i.zero=some z) (CI:P.cellsOf el=i.size) (m:Nat) (hle:m*i.size≤2^24) (parts:Array (Nat × Value)) (C:Array Value)
  (hf:Instr.fill (fun j=>some (j*i.size,i.size)) ((Array.range (m*i.size)).map (fun j=>(if m*i.size=0 then #[]else z.cells)[j % (if m*i.size=0 then #[]else z.cells).size]!)) parts.toList=some C) (w:World):
  (Instr.buildSlice t m parts).run P w= .ok (.slice (some ⟨w.heap.size,0,none⟩) m m) (w.alloc (.cells C el)):=by
 have eB: ¬(2^24<m*i.size):=by omega
 have G6:Array.range 0= #[]:=rfl;by_cases h0:m*i.size=0
 ·simp only [h0,if_true,G6]at hf;have TY: ∀f:Nat→Value,Array.map f #[]= #[]:=fun f=>by simp
  rw [TY]at hf;simp only [Instr.buildSlice,Sem.run_bind,run_underlying hu,Result.andThen_ok,PX Bp,CI];simp [h0,G6,hf,newRow]
 ·simp only [h0,if_false]at hf;simp only [Instr.buildSlice,Sem.run_bind,run_underlying hu,Result.andThen_ok,PX Bp,CI];simp [h0,eB,zeroValue,typeInfo,hi,hz,hf,newRow]
theorem zq0 (h:Bt P c n nx sl hp a sl0 hp0 o gs) {t:TypeId} {m:Nat} {parts:Array (Nat × Operand)} (ho:o.op= .buildSlice t m parts) {ps:List (Nat × SV)} (M5:parts.toList.mapM (fun(p:Nat × Operand)=>(BV sl0 gs p.2).map fun s=>(p.1,s))=some ps) (he:mL P hp0 gs nx t m ps=some e) (hc: ∀q∈e.ca,Cn.den c.ρ q):AB P o c n nx sl hp gs a e:=by
 obtain⟨e1,e2⟩:=ZL (c:=c) (a:=a) (parts.toList.map (·.2)) (fun x s hx hm=>h.db hx (by simpa [ho,Op.operands]using hm)) (fun x hx=>List.mem_map.2 ⟨x,hx,rfl⟩) M5;unfold mL at he;split at he
 ·rename_i el BE;have BE:=KX BE;split at he
  ·cases he
  rename_i AJ;simp only [not_or,Bool.not_eq_true',Bool.not_eq_false',ne_eq,Bool.not_eq_false,Nat.not_lt,Decidable.not_not]at AJ;obtain⟨hz,Bp,AD,hle,EP⟩:=AJ;have AD:Ao P el=true∨P.cellsOf el=1:=by simpa using AD
  obtain⟨i,z,hi,Gx,D0,Cf,CI,G0⟩:=L8 hz;split at he
  ·rename_i xs fz d ck Uw;split at he
   ·simp only [Ah]at he;subst he;obtain⟨N,p1,p2,⟨ts,p3⟩,p4,p5,p6,p7⟩:=zqr h.rel h.hp h.gs AD (ps.map (·.2)) (parts.toList.map fun p=>a.eval p.2) e2 Uw hc;have hlen:(parts.toList.map fun p=>a.eval p.2).length=m:=by
     have:ps.length=m:=by have:=congrArg List.length EP;simpa using this
     have h9:=congrArg List.length e1;simp at h9 ⊢;omega
    have Hw:(parts.map fun(x:Nat × Operand)=>(x.1,a.eval x.2)).toList=((parts.toList.map fun p=>a.eval p.2).zipIdx 0).map fun p=>(p.2,p.1):=by
     have JW:parts.toList.map (·.1)=List.range m:=by rw [←e1,EP]
     apply List.ext_getElem?;intro j;have hj:(parts.toList.map (·.1))[j]?=(List.range m)[j]?:=by rw [JW]
     simp only [Array.toList_map,List.getElem?_map,List.getElem?_zipIdx]at hj ⊢;cases hp:parts.toList[j]? with
     |none=>simp
     |some p=>
      rw [hp]at hj;simp only [Option.map_some,Ah]at hj ⊢;have dV:j<m:=by
       rcases Nat.lt_or_ge j m with hh|hh
       ·exact hh
       ·rw [List.getElem?_eq_none (by simpa using hh)]at hj;cases hj
      rw [List.getElem?_range dV]at hj;simp at hj;simp [hj]
    obtain⟨C',f1,f2⟩:=pF (sz:=i.size) (fun j=>some (j*i.size,i.size)) (fun j=>rfl) (parts.toList.map fun p=>a.eval p.2) 0 ((Array.range (m*i.size)).map (fun j=>(if m*i.size=0 then #[]else z.cells)[j % (if m*i.size=0 then #[]else z.cells).size]!)) [] _ (by simp;rfl) (by simp) (by simp [hlen]) (fun v hv=>by rw [←CI];exact(p5 v hv).1);have Ee:C'.toList.length=m*P.cellsOf el:=by
     rw [f2,CI];simp only [List.nil_append];have: ∀(L:List Value),(∀v∈L,v.cells.size=i.size)→(L.flatMap fun v=>v.cells.toList).length=L.length*i.size:=by
      intro L
      induction L with
      |nil=>intro _;simp
      |cons v L ih=>intro hL;simp only [List.flatMap_cons,Ap,An,Array.length_toList];rw [ih (fun u hu=>hL u (by simp [hu])),hL v (by simp),Nat.add_mul];omega
     rw [this _ (fun v hv=>by rw [←CI];exact(p5 v hv).1),hlen]
    have Kc:(xs.map (E.den c.ρ)).length=m:=by rw [List.length_map,p7,hlen]
    have CO:C'.toList.take ((xs.map (E.den c.ρ)).length*P.cellsOf el)=(parts.toList.map fun p=>a.eval p.2).flatMap fun v=>v.cells.toList:=by rw [Kc,←Ee,List.take_length,f2];simp
    refine AB.newRow (xs:=xs.map (E.den c.ρ)) (N:=N) (C:=C') (cap:=m) (wd:=c.w) h p3 ⟨rfl,rfl,rfl,rfl⟩ ?_ (by simp [E.den,EL.dt]) (by omega) (fun y hy=> ?_) (by omega) (by simp only [maxLen];have:m*1≤m*P.cellsOf el:=Nat.mul_le_mul_left _ (by omega);omega) (by rw [←Array.length_toList,Ee]) ?_ (by rw [CO];exact p1) p4 p2
    ·rw [Kc];have AN:=zX (P:=P) BE Bp hi Gx CI m (by rw [←CI];omega) (parts.map fun(x:Nat × Operand)=>(x.1,a.eval x.2)) C' (by rw [Hw];exact f1) c.w;simp only [execOp,ho,Sem.run_bind];rw [AN];rfl
    ·obtain⟨q,hq,rfl⟩:=List.mem_map.1 hy;exact p6 q hq
    ·rw [CO];intro u hu;obtain⟨v,hv,hu⟩:=List.mem_flatMap.1 hu;exact(p5 v hv).2 u hu
   ·cases he
  ·cases he
 ·cases he
end
end Go.Proofs.YtbmbkgalkfmjdaaGreatDoor
end

/- Parts of a proof, joined: WA, VJa, VK, VL, VM, VN, VO, VP, VQ, VR, VS, VT, VU, VV, VW. -/
import Derived.Test.YtfdfahjmonlbiaaGreatDoorZ2
import Derived.WalkSpells
import Derived.Laws.BytesArg
set_option linter.unusedVariables false
set_option linter.unusedSimpArgs false
section
namespace Go.Proofs.YtfdfahjmonlbiaaGreatDoor
open Go.RowKit
theorem I0: ∀{l:List (Nat × Aj)} {t:Nat} {e:Aj},AG l t=some e→(t,e)∈l
 | [],_,_,h=>by simp [AG]at h
 |(u,f)::l,t,e,h=>by
  simp only [AG]at h;split at h
  ·rename_i hu;subst hu;simp at h;subst h;simp
  ·exact List.mem_cons_of_mem _ (I0 h)
theorem Ni {α:Type}: ∀{l:List (Nat × α)} {t:Nat} {e:α},l.lookup t=some e→(t,e)∈l
 | [],_,_,h=>by simp at h
 |(u,f)::l,t,e,h=>by
  simp only [List.lookup_cons]at h;split at h
  ·rename_i hu;simp at h hu;subst h;subst hu;simp
  ·exact List.mem_cons_of_mem _ (Ni h)
theorem bE: ∀{θ:List (Nat × Option Nat)},Ny θ=true→ ∀{t u v:Nat},(t,some v)∈θ→(u,some v)∈θ→t=u
 | [],_,t,u,v,h,_=>by simp at h
 |(p,q)::θ,hn,t,u,v,h1,h2=>by
  have hn':Ny θ=true:=by cases q<;>(simp only [Ny,Ae]at hn;exact hn.2)
  have key: ∀x,(p,some v)=(p,q)→(x,some v)∈θ→False:=by intro x hq hx;cases hq;simp only [Ny,Ae,AR]at hn;have:=hn.1 _ hx;simp at this
  rcases Ag.1 h1 with h3|h3<;>rcases Ag.1 h2 with h4|h4
  ·cases h3;cases h4;rfl
  ·cases h3;exact(key u rfl h4).elim
  ·cases h4;exact(key t rfl h3).elim
  ·exact bE hn' h3 h4
def BW (hp:List (Nat × Aj)) (t:Nat):Option Nat:=match AG hp t with
 |some (.box ..)=>some 0
 |some (.row _ _ g _ _)=>some g
 |some (.bu g _)=>some g
 |some (.deep _ _ _ g _ _)=>some g
 |_=>none
def Hw (hp:List (Nat × Aj)) (t:Nat):Bool:=match AG hp t with
 |some (.box ..)=>true
 |some (.row ..)=>true
 |some (.deep ..)=>true
 |_=>false
def Lo (pat leaf:Option Aj) (g:GI):GI:=match pat,leaf with
 |some (.row ..),some (.deep ..)=>⟨g.top.take 1, []⟩
 |_,_=>g
theorem zFP {p l:Option Aj} {g:GI} {b:Nat} (h:b∈(Lo p l g).top):b∈g.top:=by
 unfold Lo at h;split at h
 ·exact List.mem_of_mem_take h
 ·exact h
theorem zFe {p l:Option Aj} {g:GI} {b:Nat} (h:b∈(Lo p l g).own):b∈g.own:=by
 unfold Lo at h;split at h
 ·simp only [GI.own,List.append_nil]at h;simp [GI.own,List.mem_of_mem_take h]
 ·exact h
theorem zBS {p l:Option Aj} {g:GI} (h:g.own.Nodup):(Lo p l g).own.Nodup:=by
 unfold Lo;split
 ·simp only [GI.own,List.append_nil]at h ⊢;exact List.Sublist.nodup (List.Sublist.trans (List.take_sublist _ _) (List.sublist_append_left _ _)) h
 ·exact h
def Dc (c:Cx) (ρ:List AV) (θ:List (Nat × Option Nat)) (pat leaf:St):Cx:=
 {c with
  ρ:=ρ
  G:=fun t=>if Hw pat.hp t then(match θ.lookup t with|some (some t')=>Lo (AG pat.hp t) (AG leaf.hp t') (c.G t')|_=>⟨[], []⟩)else⟨[], []⟩
  K:=fun t g=>BW pat.hp t=some g
  H:=fun t _=>match θ.lookup t with|some (some t')=>c.H t' ((BW leaf.hp t').getD 0)|_=> .slice none 0 0
  U:=fun t=>t<pat.nx
  E:=fun t=>match AG pat.hp t with|some (.deep _ _ _ _ ep _)=>ep|_=>0}
section
variable {c:Cx} {ρ:List AV} {nv n:Nat} {es:List E} {θ:List (Nat × Option Nat)} {pat leaf:St} {sl:Nat→SV} {a:Act}
theorem NA {t b:Nat} (h:b∈((Dc c ρ θ pat leaf).G t).own):Hw pat.hp t=true∧ ∃t',θ.lookup t=some (some t')∧(b∈((Dc c ρ θ pat leaf).G t).top→b∈(c.G t').top)∧b∈(c.G t').own:=by
 simp only [Dc]at h ⊢;split at h
 ·rename_i ho;split at h
  ·rename_i t' ht;exact⟨ho,t',ht,fun hb=>by rw [if_pos ho]at hb;exact zFP hb,zFe h⟩
  ·simp [GI.own]at h
 ·simp [GI.own]at h
theorem Sx {b:Nat} (h:c.ok b):(Dc c ρ θ pat leaf).ok b:=by refine⟨fun⟨t,ht⟩=> ?_,h.2⟩;obtain⟨_,t',_,hg,_⟩:=NA (b:=b) (by simp only [GI.own,Ai];exact .inl ht);exact h.1 ⟨t',hg ht⟩
theorem LS (hp:ρ<+:c.ρ) (hn:ρ.length=nv) {x y:E} (h:JY nv es x y=true):x.den (ρ++(EL.of es).den c.ρ)=y.den c.ρ:=by
 obtain⟨τ,hτ⟩:=hp;have K7:x.sc nv=true→x.beq y=true→x.den (ρ++(EL.of es).den c.ρ)=y.den c.ρ:=by intro h1 h2;rw [←E.aw c.ρ x y h2];subst hn;generalize hq:(EL.of es).den c.ρ=q;rw [E.az ρ q τ x h1,hτ]
 unfold JY at h;split at h
 ·rename_i i;split at h
  ·rename_i hi;exact K7 (by simpa [E.sc]using hi) h
  ·rename_i hi;split at h
   ·rename_i z hz;rw [←E.aw c.ρ z y h];simp only [E.den,EL.dk];rw [List.getElem?_append_right (by omega),hn,List.getElem?_map,hz];rfl
   ·cases h
 ·simp only [Ae]at h;exact K7 h.1 h.2
theorem zGl (Ar:Rel c n sl (AG leaf.hp) a) {s:SV} {v:Value} {y:E} (hs:SR c [s] [v]) (h:Jf leaf s=some y): ∃f,Rd c.w [v] [y.den c.ρ] f∧ ∀b∈f,c.eu (BR (AG leaf.hp) [] (A1+1) [s]) b:=
 H5 (fun t e hr=>Ar.ents t e hr) (E0 _) A1 h hs A1 (Nat.le_refl _)
mutual
theorem yJ (Ar:Rel c n sl (AG leaf.hp) a) (hp:ρ<+:c.ρ) (hn:ρ.length=nv) (Ch: ∀t e,(t,e)∈pat.hp→IH nv es θ pat leaf t e=true): ∀(m:Nat) {p s:SV} {v:Value},T6 nv es θ pat leaf m p s=true→SR c [s] [v]→SR (Dc c (ρ++(EL.of es).den c.ρ) θ pat leaf) [p] [v]
 |0,p,s,v,h,_=>by simp [T6]at h
 |m+1,p,s,v,h,hs=>by
  unfold T6 at h;split at h
  ·exact .undef .nil
  ·rename_i x;split at h
   ·rename_i y hy;simp only [Ae,AR,Bool.or_eq_true]at h;obtain⟨f,hf,Il⟩:=zGl Ar hs hy;have hx:=LS (c:=c) hp hn h.1;refine .e (by rw [show(Dc c (ρ++(EL.of es).den c.ρ) θ pat leaf).ρ=ρ++(EL.of es).den c.ρ from rfl,hx];exact hf) (fun b hb=> ?_) .nil;rcases Il b hb with hb|⟨t',MG,hb⟩
    ·exact Sx hb
    ·refine⟨fun⟨u,hu⟩=> ?_, .inr (Ar.gw.allow t' b (by simp [GI.own,hb]))⟩;obtain⟨ho,v',hl,hg,Tg⟩:=NA (b:=b) (by simp only [GI.own,Ai];exact .inl hu);have hv:v'=t':=by
      refine Classical.byContradiction fun Bl=>Ar.gw.ct v' t' Bl b Tg (by simp [GI.own,hb])
     subst hv;have:=h.2 _ MG _ (Ni hl);simp only [bne_self_eq_false,AM,false_or]at this;unfold Hw at ho;split at this
     ·rename_i hh;rw [hh]at ho;simp at ho
     ·rename_i hh;rw [hh]at ho;simp at ho
     ·cases this
   ·cases h
  ·split at h
   ·cases hs with
    |cf _=>exact .cf .nil
   ·cases h
  ·split at h
   ·cases hs with
    |emp _=>exact .emp .nil
   ·cases hs with
    |cf _=>exact .emp .nil
   ·cases h
  ·rename_i t g;have key: ∀t' v',BW pat.hp t=some g→θ.lookup t=some (some t')→KD leaf.hp t' v'=true→SR c [.own t' v'] [v]→SR (Dc c (ρ++(EL.of es).den c.ρ) θ pat leaf) [.own t g] [v]:=by
    intro t' v' hg hl hv hs;cases hs with
    |own h1 h2 _=>
     refine .own hg ?_ .nil;show(match θ.lookup t with|some (some t')=>c.H t' ((BW leaf.hp t').getD 0)|_=>Value.slice none 0 0)=_;rw [hl];have:(BW leaf.hp t').getD 0=v':=by
      unfold KD at hv;unfold BW;split at hv
      ·rename_i hh;rw [hh];simpa using(beq_iff_eq.1 hv).symm
      ·rename_i hh;rw [hh];simpa using(beq_iff_eq.1 hv).symm
      ·rename_i hh;rw [hh];simpa using(beq_iff_eq.1 hv).symm
      ·cases hv
     show c.H t' ((BW leaf.hp t').getD 0)=_;rw [this];exact h2
   split at h
   ·rename_i g' _ _ Ee;simp only [Ae,beq_iff_eq]at h;obtain⟨rfl,h⟩:=h;split at h
    ·simp only [Ae,beq_iff_eq]at h;exact key _ _ (by simp [BW,Ee]) h.1 h.2 hs
    ·rw [beq_iff_eq]at h;cases hs with
     |cf _=>refine .own (p:=none) (q:=0) (r:=0) (by show BW pat.hp t=some g;simp [BW,Ee]) ?_ .nil;show(match θ.lookup t with|some (some t')=>c.H t' ((BW leaf.hp t').getD 0)|_=>Value.slice none 0 0)=_;rw [h]
    ·cases h
   ·rename_i g' _ Ee;simp only [Ae,beq_iff_eq]at h;obtain⟨rfl,h⟩:=h;split at h
    ·simp only [Ae,beq_iff_eq]at h;exact key _ _ (by simp [BW,Ee]) h.1 h.2 hs
    ·cases h
   ·rename_i g' _ _ Ee;simp only [Ae,beq_iff_eq]at h;obtain⟨rfl,h⟩:=h;split at h
    ·simp only [Ae,beq_iff_eq]at h;exact key _ _ (by simp [BW,Ee]) h.1 h.2 hs
    ·rw [beq_iff_eq]at h;cases hs with
     |cf _=>refine .own (p:=none) (q:=0) (r:=0) (by show BW pat.hp t=some g;simp [BW,Ee]) ?_ .nil;show(match θ.lookup t with|some (some t')=>c.H t' ((BW leaf.hp t').getD 0)|_=>Value.slice none 0 0)=_;rw [h]
    ·cases h
   ·cases h
  ·rename_i t o;split at h
   ·rename_i ty g cs Ee;split at h
    ·rename_i t' o';simp only [Ae,beq_iff_eq]at h;obtain⟨rfl,hl⟩:=h;have Ie:=Ch t _ (I0 Ee);simp only [IH,hl]at Ie;split at Ie
     ·rename_i C8;cases hs with
      |cm h1 h2 _=>
       refine .cm (by show BW pat.hp t=some 0;simp [BW,Ee]) ?_ .nil;show(match θ.lookup t with|some (some t')=>c.H t' ((BW leaf.hp t').getD 0)|_=>Value.slice none 0 0)=_;rw [hl];have:(BW leaf.hp t').getD 0=0:=by simp [BW,C8]
       simp only [this];exact h2
     ·cases Ie
    ·cases h
   ·cases h
  ·cases h
  ·rename_i x i z o;split at h
   ·rename_i y j z' o';simp only [Ae,beq_iff_eq]at h;obtain⟨⟨⟨⟨⟨rfl,rfl⟩,h1⟩,h2⟩,h3⟩,h4⟩:=h;have hx:x.den (ρ++(EL.of es).den c.ρ)=y.den c.ρ:=by
     obtain⟨τ,hτ⟩:=hp;rw [←E.aw c.ρ x y h2];subst hn;generalize (EL.of es).den c.ρ=q;rw [E.az ρ q τ x h1,hτ]
    have hi:i.den (ρ++(EL.of es).den c.ρ)=j.den c.ρ:=by obtain⟨τ,hτ⟩:=hp;rw [←E.aw c.ρ i j h4];subst hn;generalize (EL.of es).den c.ρ=q;rw [E.az ρ q τ i h3,hτ]
    cases hs with
    |dn g1 g2 g3 g4 g5 g6 _=>refine .dn (f:=_) (by show Rd c.w _ [x.den (ρ++(EL.of es).den c.ρ)] _;rw [hx];exact g1) (fun b hb=>Sx (g2 b hb)) (by show i.den (ρ++(EL.of es).den c.ρ)=_;rw [hi];exact g3) g4 g5 (by show((x.den (ρ++(EL.of es).den c.ρ)).nth _).cells.length=_;rw [hx];exact g6) .nil
   ·cases h
  ·rename_i x o;split at h
   ·rename_i y o';simp only [Ae,beq_iff_eq]at h;obtain⟨⟨rfl,h1⟩,h2⟩:=h;have hx:x.den (ρ++(EL.of es).den c.ρ)=y.den c.ρ:=by
     obtain⟨τ,hτ⟩:=hp;rw [←E.aw c.ρ x y h2];subst hn;generalize (EL.of es).den c.ρ=q;rw [E.az ρ q τ x h1,hτ]
    cases hs with
    |dj g1 g2 _=>exact .dj (by show Rd c.w _ [x.den (ρ++(EL.of es).den c.ρ)] _;rw [hx];exact g1) (fun b hb=>Sx (g2 b hb)) .nil
   ·cases h
  ·split at h
   ·cases hs with
    |agg h9 h1 _=>exact .agg h9 (Wy Ar hp hn Ch m h h1) .nil
   ·cases h
  ·split at h
   ·cases hs with
    |tup h1 _=>exact .tup (Wy Ar hp hn Ch m h h1) .nil
   ·cases h
  ·split at h
   ·simp only [Ae,beq_iff_eq]at h;obtain⟨rfl,h⟩:=h;cases hs with
    |fn h1 _=>exact .fn (Wy Ar hp hn Ch m h h1) .nil
   ·cases h
  ·cases h
  ·cases h
  ·cases h
  ·cases h
  ·rename_i i;split at h
   ·rename_i j;simp only [Ae,beq_iff_eq,decide_eq_true_eq]at h;obtain⟨rfl,hi⟩:=h;cases hs with
    |lent g1 _=>
     have hx:(E.var i).den (ρ++(EL.of es).den c.ρ)=(E.var i).den c.ρ:=by obtain⟨τ,hτ⟩:=hp;subst hn;generalize (EL.of es).den c.ρ=q;rw [E.az ρ q τ (.var i) (by simpa [E.sc]using hi),hτ]
     exact .lent (show c.A.lo v ((E.var i).den (ρ++(EL.of es).den c.ρ)) by rw [hx];exact g1) .nil
   ·cases h
theorem Wy (Ar:Rel c n sl (AG leaf.hp) a) (hp:ρ<+:c.ρ) (hn:ρ.length=nv) (Ch: ∀t e,(t,e)∈pat.hp→IH nv es θ pat leaf t e=true): ∀(m:Nat) {ps ss:List SV} {vs:List Value},HA nv es θ pat leaf m ps ss=true→SR c ss vs→SR (Dc c (ρ++(EL.of es).den c.ρ) θ pat leaf) ps vs
 |0,ps,ss,vs,h,_=>by simp [HA]at h
 |m+1, [], [],vs,h,hs=>by cases hs;exact .nil
 |m+1,p::ps, [],vs,h,hs=>by simp [HA]at h
 |m+1, [],s::ss,vs,h,hs=>by simp [HA]at h
 |m+1,p::ps,s::ss, [],h,hs=>by have:=hs.len;simp at this
 |m+1,p::ps,s::ss,v::vs,h,hs=>by simp only [HA,Ae]at h;obtain⟨h1,h2⟩:=hs.cg;exact(yJ Ar hp hn Ch m h.1 h1).cons (Wy Ar hp hn Ch m h.2 h2)
end
theorem zB9 (Ar:Rel c n sl (AG leaf.hp) a) (hp:ρ<+:c.ρ) (hn:ρ.length=nv) (Ch: ∀t e,(t,e)∈pat.hp→IH nv es θ pat leaf t e=true) (hθ:Ny θ=true) {t:Nat} {e:Aj} (ht:AG pat.hp t=some e):Dh (Dc c (ρ++(EL.of es).den c.ρ) θ pat leaf) t e:=by
 have h:=Ch t e (I0 ht);have tB:Hw pat.hp t=false→(Dc c (ρ++(EL.of es).den c.ρ) θ pat leaf).G t=⟨[], []⟩:=by intro h0;simp only [Dc];rw [if_neg (by rw [h0];simp)]
 have tC: ∀t',Hw pat.hp t=true→θ.lookup t=some (some t')→(Dc c (ρ++(EL.of es).den c.ρ) θ pat leaf).G t=Lo (AG pat.hp t) (AG leaf.hp t') (c.G t'):=by intro t' h0 hl;simp only [Dc];rw [if_pos h0,hl]
 have S7: ∀t',Hw pat.hp t=true→θ.lookup t=some (some t')→(∀q1 q2 q3 q4 q5 q6,AG leaf.hp t'=some (.deep q1 q2 q3 q4 q5 q6)→ ∀p1 p2 p3 p4 p5,e≠ .row p1 p2 p3 p4 p5)→(Dc c (ρ++(EL.of es).den c.ρ) θ pat leaf).G t=c.G t':=by
  intro t' h0 hl Dk;rw [tC t' h0 hl,ht];unfold Lo;split
  ·rename_i h1 h2;simp only [Ah]at h1;exact absurd h1 (Dk _ _ _ _ _ _ h2 _ _ _ _ _)
  ·rfl
 have KW: ∀t' g,θ.lookup t=some (some t')→BW leaf.hp t'=some g→ ∀g',(Dc c (ρ++(EL.of es).den c.ρ) θ pat leaf).H t g'=c.H t' g:=by intro t' g hl hg g';simp only [Dc,hl,hg,Option.getD_some]
 have EA: ∀g,BW pat.hp t=some g→ ∀g',(Dc c (ρ++(EL.of es).den c.ρ) θ pat leaf).K t g'→g'≤g:=by intro g hg g' hk;have BV:BW pat.hp t=some g':=hk;rw [hg]at BV;cases BV;exact Nat.le_refl _
 cases e with
 |box ty g cs=>
  simp only [IH]at h;split at h
  ·rename_i t' hl;split at h
   ·rename_i ty' g' ds C8;simp only [Ae,beq_iff_eq]at h;obtain⟨⟨rfl,rfl⟩,h⟩:=h;obtain⟨b,C,h1,h2,h3,h4,h5,h6,h7⟩:=Ar.ents t' _ (by rw [C8];rfl);have hg:=S7 t' (by simp [Hw,ht]) hl (by intros;simp);exact⟨b,C,by show BW pat.hp t=some 0;simp [BW,ht],by rw [KW t' 0 hl (by simp [BW,C8])];exact h2,by rw [hg];exact h3,by rw [hg];exact h4,h5,h6,Wy Ar hp hn Ch _ h h7⟩
   ·cases h
  ·cases h
 |row et z g x d=>
  simp only [IH]at h;split at h
  ·rename_i t' hl;split at h
   ·rename_i et' z' g' y d' C8;simp only [Ae,beq_iff_eq,Bool.or_eq_true,Bool.not_eq_true']at h;obtain⟨⟨⟨rfl,rfl⟩,hx⟩,hd⟩:=h;obtain⟨h1,h2,N,h3,h4,h5,h6⟩:=Ar.ents t' _ (by rw [C8];rfl);have hg:=S7 t' (by simp [Hw,ht]) hl (fun _ _ _ _ _ _ hh=>by rw [C8]at hh;cases hh);have C6:=LS hp hn hx;have hK:BW pat.hp t=some g:=by simp [BW,ht]
    refine⟨hK,EA g hK,N, ?_,fun b hb=>Sx (h4 b hb),fun DM=> ?_,fun hdf=> ?_⟩
    ·rw [KW t' g' hl (by simp [BW,C8]),hg];show CZ c.w et z _ (x.den (ρ++(EL.of es).den c.ρ)) _ N;rw [C6];exact h3
    ·rw [hg];exact h5 (by rcases hd with hd|hd;rw [DM]at hd;cases hd;exact hd)
    ·rw [hg];cases d' with
     |false=>exact h6 rfl
     |true=>obtain⟨u1,u2⟩:=h5 rfl;rw [u2];exact u1
   ·rename_i et' z' l' g' ep' y C8;simp only [Ae,beq_iff_eq,Bool.not_eq_true']at h;obtain⟨⟨⟨rfl,rfl⟩,hx⟩,rfl⟩:=h;obtain⟨h1,h2,_,h3,h4⟩:=Ar.ents t' _ (by rw [C8];rfl);have hg:(Dc c (ρ++(EL.of es).den c.ρ) θ pat leaf).G t=⟨(c.G t').top.take 1, []⟩:=by
     rw [tC t' (by simp [Hw,ht]) hl,ht,C8];rfl
    have C6:=LS hp hn hx;have hK:BW pat.hp t=some g:=by simp [BW,ht]
    obtain⟨f,k1,k2⟩:=h3.ownRow;have Ce:((c.G t').top.take 1++(c.G t').top.drop 1).Nodup:=by rw [List.take_append_drop];have:=Ar.gw.nodup t';simp only [GI.own,h4,List.append_nil]at this;exact this
    refine⟨hK,EA g hK,f, ?_,fun b hb=> ?_,fun DM=>(by cases DM),fun _=>by rw [hg]⟩
    ·rw [KW t' g' hl (by simp [BW,C8]),hg];show CZ c.w et z _ (x.den (ρ++(EL.of es).den c.ρ)) _ f;rw [C6];exact k1
    ·have CC:b∈(c.G t').top:=List.mem_of_mem_drop (k2 b hb);refine⟨fun⟨u,hu⟩=> ?_, .inr (Ar.gw.allow t' b (by simp [GI.own,CC]))⟩;obtain⟨_,v',Bu,_,Tg⟩:=NA (b:=b) (by simp only [GI.own,Ai];exact .inl hu);have hv:v'=t':=Classical.byContradiction fun Bl=>Ar.gw.ct v' t' Bl b Tg (by simp [GI.own,CC]);subst hv;have:=bE hθ (Ni Bu) (Ni hl);subst this;rw [hg]at hu;exact(List.nodup_append.1 Ce).2.2 b hu b (k2 b hb) rfl
   ·cases h
  ·rename_i hl;simp only [Ae,decide_eq_true_eq]at h;have C6:=LS hp hn h.1;have hK:BW pat.hp t=some g:=by simp [BW,ht]
   have hg:(Dc c (ρ++(EL.of es).den c.ρ) θ pat leaf).G t=⟨[], []⟩:=by simp [Dc,hl]
   refine⟨hK,EA g hK, [],⟨[], ?_,by simp,h.2, .inl ⟨rfl,⟨none, ?_⟩,by rw [hg],rfl⟩⟩,by simp,fun _=>⟨rfl,by rw [hg]⟩,fun _=>by rw [hg]⟩
   ·show x.den (ρ++(EL.of es).den c.ρ)=_;rw [C6];rfl
   ·simp [Dc,hl]
  ·cases h
 |bu g x=>
  have hg:=tB (by simp [Hw,ht]);have hK:BW pat.hp t=some g:=by simp [BW,ht]
  simp only [IH]at h;split at h
  ·rename_i t' hl;have Il: ∀b,b∈(c.G t').top→(Dc c (ρ++(EL.of es).den c.ρ) θ pat leaf).ok b:=by
    intro b hb;refine⟨fun⟨u,hu⟩=> ?_, .inr (Ar.gw.allow t' b (by simp [GI.own,hb]))⟩;obtain⟨ho,v',Bu,CA,Tg⟩:=NA (b:=b) (by simp only [GI.own,Ai];exact .inl hu);have hv:v'=t':=Classical.byContradiction fun Bl=>Ar.gw.ct v' t' Bl b Tg (by simp [GI.own,hb]);subst hv;have:=bE hθ (Ni Bu) (Ni hl);subst this;simp [Hw,ht]at ho
   split at h
   ·rename_i et' z' g' y d' C8;obtain⟨h1,h2,N,h3,h4,h5,h6⟩:=Ar.ents t' _ (by rw [C8];rfl);obtain⟨f,r1,r2,_⟩:=h3.rd;refine⟨hK,⟨f, ?_,fun b hb=>(r2 b hb).elim (Il b) fun hb=>Sx (h4 b hb)⟩,by rw [hg],by rw [hg]⟩;rw [KW t' g' hl (by simp [BW,C8])];show Rd c.w _ [x.den (ρ++(EL.of es).den c.ρ)] f;rw [LS hp hn h];exact r1
   ·rename_i g' y C8;obtain⟨h1,⟨f,r1,r2⟩,_,_⟩:=Ar.ents t' _ (by rw [C8];rfl);refine⟨hK,⟨f, ?_,fun b hb=>Sx (r2 b hb)⟩,by rw [hg],by rw [hg]⟩;rw [KW t' g' hl (by simp [BW,C8])];show Rd c.w _ [x.den (ρ++(EL.of es).den c.ρ)] f;rw [LS hp hn h];exact r1
   ·rename_i et' z' l' g' ep' y C8;obtain⟨h1,h2,_,h3,h4⟩:=Ar.ents t' _ (by rw [C8];rfl);obtain⟨f,r1,r2⟩:=h3.rd;refine⟨hK,⟨f, ?_,fun b hb=>Il b (r2 b hb)⟩,by rw [hg],by rw [hg]⟩;rw [KW t' g' hl (by simp [BW,C8])];show Rd c.w _ [x.den (ρ++(EL.of es).den c.ρ)] f;rw [LS hp hn h];exact r1
   ·cases h
  ·cases h
 |hol=>simp [IH]at h
 |deep et z dl g ep x=>
  have hE:(Dc c (ρ++(EL.of es).den c.ρ) θ pat leaf).E t=ep:=by simp [Dc,ht]
  have hK:BW pat.hp t=some g:=by simp [BW,ht]
  simp only [IH]at h;split at h
  ·rename_i t' hl;split at h
   ·rename_i et' z' dl' g' ep' y C8;simp only [Ae,beq_iff_eq]at h;obtain⟨⟨⟨rfl,rfl⟩,eT⟩,hx⟩:=h;have eT:=AY.iw eT;subst eT;obtain⟨h1,h2,_,h3,h4⟩:=Ar.ents t' _ (by rw [C8];rfl);have hg:=S7 t' (by simp [Hw,ht]) hl (by intros;simp);refine⟨hK,EA g hK,hE, ?_,by rw [hg];exact h4⟩;rw [KW t' g' hl (by simp [BW,C8]),hg];show DC c.w _ _ [x.den (ρ++(EL.of es).den c.ρ)] _;rw [LS hp hn hx];exact h3
   ·cases h
  ·rename_i hl;have hg:(Dc c (ρ++(EL.of es).den c.ρ) θ pat leaf).G t=⟨[], []⟩:=by simp [Dc,hl]
   simp only [Ae,decide_eq_true_eq,beq_iff_eq]at h;refine⟨hK,EA g hK,hE, ?_,by rw [hg]⟩;have e1:(Dc c (ρ++(EL.of es).den c.ρ) θ pat leaf).H t g= .slice none 0 0:=by simp [Dc,hl]
   rw [e1,hg];show DC c.w _ _ [x.den (ρ++(EL.of es).den c.ρ)] _;rw [LS hp hn h.1.1];exact .void h.1.2 (by rw [AY.bb];exact h.2) .nil
  ·cases h
 |gd gs e=>simp [IH]at h
 |dead=>have hg:=tB (by simp [Hw,ht]);exact⟨by rw [hg],by rw [hg]⟩
end
theorem vF {nv:Nat} {es:List E} {θ:List (Nat × Option Nat)} {pat leaf:St}: ∀(m:Nat) {ps ss:List SV},HA nv es θ pat leaf m ps ss=true→ ∀{i:Nat} {p:SV},ps[i]?=some p→ ∃s k,ss[i]?=some s∧T6 nv es θ pat leaf k p s=true
 |0,ps,ss,h,_,_,_=>by simp [HA]at h
 |m+1, [],ss,h,i,p,hp=>by simp at hp
 |m+1,q::ps, [],h,i,p,hp=>by simp [HA]at h
 |m+1,q::ps,s::ss,h,i,p,hp=>by
  simp only [HA,Ae]at h;cases i with
  |zero=>simp at hp;subst hp;exact⟨s,m,rfl,h.1⟩
  |succ i=>simpa using vF m h.2 (by simpa using hp)
theorem zGi:XE:=by
 intro F nv pat τ es ρ ρ' a w hi hn hp hr;obtain⟨c,rfl,rfl,Ko,hA,dR,Gj,hU,Ar⟩:=hr;unfold Ku at hi;simp only at hi;split at hi
 ·rename_i Az;simp only [Ah]at hi;generalize eX:(List.range (pat.nv-nv)).map (fun j=>((PB nv pat τ true pat.hp (PB nv pat τ false pat.hp (MU nv pat τ 2000 ⟨[], []⟩ pat.sl τ.sl))).as_.lookup (nv+j)).getD (.int .i64 0))=es0 at Az hi;subst hi;generalize (PB nv pat τ true pat.hp (PB nv pat τ false pat.hp (MU nv pat τ 2000 ⟨[], []⟩ pat.sl τ.sl))).θ=θ at Az;clear eX;simp only [z6,Ae,beq_iff_eq,AR,decide_eq_true_eq]at Az;obtain⟨⟨⟨⟨⟨⟨h1,hθ⟩,hlen⟩,CL⟩,Cd⟩,hnx⟩,TQ⟩:=Az;have Ch: ∀t e,(t,e)∈pat.hp→IH nv es0 θ pat τ t e=true:=fun t e he=>(Cd _ he).1;have An: ∀t e,(t,e)∈pat.hp→t<pat.nx:=fun t e he=>(Cd _ he).2;have TM: ∀t e,AG pat.hp t=some e→ ∀gs e',e≠ .gd gs e':=by
   rintro t e he gs e' rfl;have:=Ch t _ (I0 he);simp [IH]at this
  have AS: ∀t e e',AG pat.hp t=some e→(Cs (ρ++(EL.of es0).den c.ρ) (AG pat.hp t) e'↔e'=e):=by
   intro t e e' he;rw [he];cases e with
   |gd gs e9=>exact absurd rfl (TM t _ he gs e9)
   |_=>simp [Cs,eq_comm]
  refine⟨Dc c (ρ++(EL.of es0).den c.ρ) θ pat τ,rfl,rfl,Ko,hA,dR, ?_,fun t ht=>ht,Ar.defers,by rw [hlen];exact Ar.size,⟨Ar.base.os,Ar.base.tape,Ar.base.output,Ar.base.size,fun t v P6=> ?_,Ar.base.block,Ar.base.pk,Ar.base.lo⟩,fun i=> ?_,fun t e hr=> ?_,fun t Dk=> ?_,⟨fun t=> ?_,fun t u MH b hb BX=> ?_,fun t b hb=> ?_,fun t b hb=> ?_⟩,fun t g hk=> ?_,fun t e he=>An t e (I0 he)⟩
  ·rw [h1,EL.dk];simp [hn]
  ·have Od:NG t=true:=F.nd t v (by rw [←hA];exact P6);refine⟨by
    show t<pat.nx;unfold NG at Od;simp only [Ae,decide_eq_true_eq]at Od;omega,fun hk=> ?_⟩
   have BV:BW pat.hp t=some 0:=hk;obtain⟨e,gQ⟩: ∃e,AG pat.hp t=some e:=by
    unfold BW at BV;cases hh:AG pat.hp t with
    |none=>rw [hh]at BV;cases BV
    |some e=>exact⟨e,rfl⟩
   have Ed:=TQ _ (I0 gQ);simp only [Od,Bool.not_true,Bool.false_or]at Ed;have main:θ.lookup t=some (some t)→BW τ.hp t=some 0→c.K t 0→(Dc c (ρ++(EL.of es0).den c.ρ) θ pat τ).H t 0=v:=by intro hl hg hK;simp only [Dc,hl,hg,Option.getD_some];exact(Ar.base.pins t v P6).2 hK
   unfold MM at Ed;simp only [BW,gQ]at BV;rw [gQ]at Ed;cases e with
   |box ty g cs=>
    simp only [Ae,beq_iff_eq]at Ed;obtain⟨hl,hb⟩:=Ed;split at hb
    ·rename_i ty' g' cs' C8;obtain⟨b,C,q1,_⟩:=Ar.ents t _ (by rw [C8];rfl);exact main hl (by simp [BW,C8]) q1
    ·cases hb
   |row ety sz g x d=>
    simp only [Ah]at BV;subst BV;simp only [bne_self_eq_false,Bool.false_or,Ae,beq_iff_eq]at Ed;obtain⟨hl,hb⟩:=Ed;split at hb
    ·rename_i ety' sz' g' x' d' C8;rw [beq_iff_eq]at hb;subst hb;obtain⟨q1,_⟩:=Ar.ents t _ (by rw [C8];rfl);exact main hl (by simp [BW,C8]) q1
    ·cases hb
   |bu g x=>simp only [Ah]at BV;subst BV;simp at Ed
   |gd=>simp at BV
   |dead=>simp at BV
   |hol=>simp at BV
   |deep ety sz l g ep x=>
    simp only [Ah]at BV;subst BV;simp only [bne_self_eq_false,Bool.false_or,Ae,beq_iff_eq]at Ed;obtain⟨hl,hb⟩:=Ed;split at hb
    ·rename_i C8;rw [beq_iff_eq]at hb;subst hb;obtain⟨q1,_⟩:=Ar.ents t _ (by rw [C8];rfl);exact main hl (by simp [BW,C8]) q1
    ·cases hb
  ·unfold BD;cases Oo:pat.sl[i]? with
   |none=>exact .undef .nil
   |some p=>obtain⟨s,k,hs,hk⟩:=vF _ CL Oo;have:=Ar.c8 i;unfold BD at this;rw [hs]at this;exact yJ Ar hp hn Ch k hk this
  ·cases he:AG pat.hp t with
   |none=>rw [he]at hr;exact hr.elim
   |some e9=>have NZ:=(AS t e9 e he).1 hr;subst NZ;exact zB9 Ar hp hn Ch hθ he
  ·have:Hw pat.hp t=false:=by
    cases he:AG pat.hp t with
    |none=>simp [Hw,he]
    |some e9=>exact absurd ((AS t e9 e9 he).2 rfl) (Dk e9)
   simp [Dc,this]
  ·simp only [Dc];split
   ·split
    ·exact zBS (Ar.gw.nodup _)
    ·simp [GI.own]
   ·simp [GI.own]
  ·obtain⟨_,t',hl,_,CC⟩:=NA hb;obtain⟨_,u',Bu,_,Ig⟩:=NA BX;by_cases hh:t'=u'
   ·subst hh;exact MH (bE hθ (Ni hl) (Ni Bu))
   ·exact Ar.gw.ct t' u' hh b CC Ig
  ·obtain⟨_,t',hl,_,CC⟩:=NA hb;exact Ar.gw.allow t' b CC
  ·obtain⟨_,t',hl,_,CC⟩:=NA hb;exact Ar.gw.inb t' b CC
  ·have BV:BW pat.hp t=some g:=hk;unfold BW at BV;show t<pat.nx;split at BV
   ·rename_i hh;exact An t _ (I0 hh)
   ·rename_i hh;exact An t _ (I0 hh)
   ·rename_i hh;exact An t _ (I0 hh)
   ·rename_i hh;exact An t _ (I0 hh)
   ·cases BV
 ·cases hi
theorem VP (l:List DT): ∀(n k o m:Nat),k<n→o+m≤l.length→((Di n l).drop (k*l.length+o)).take m=(l.drop o).take m
 |0,k,_,_,h,_=>by omega
 |n+1,0,o,m,_,hm=>by rw [Pm,Nat.zero_mul,Nat.zero_add,List.drop_append_of_le_length (by omega),List.take_append_of_le_length (by simp;omega)]
 |n+1,k+1,o,m,h,hm=>by have ih:=VP l n k o m (by omega) hm;rw [←ih,Pm,show(k+1)*l.length+o=l.length+(k*l.length+o)from by rw [Nat.add_mul];omega,List.drop_append,List.drop_eq_nil_of_le (by omega)];simp
theorem DC.elem {w:World} {ys:List AV} {l:List DT} {cells:List Value} {N:List Nat} {z:Nat} (h:DC w (Di ys.length l) cells (AP ys) N) (hl:l.length=z) (h7: ∀y∈ys,y.cells.length=z) {k o m:Nat} (hk:k<ys.length) (hm:o+m≤z):
  ∃M,(∀b∈M,b∈N)∧DC w ((l.drop o).take m) ((cells.drop (k*z+o)).take m) ((((AV.sl ys).nth k).cells.drop o).take m) M:=by
 obtain⟨N1,N2,N3,rfl,_,h2,_⟩:=h.split (k*z+o) m;subst hl;rw [VP l _ _ _ _ hk hm,V0 ys h7 k _ (NC hk) o m hm]at h2;exact⟨N2,fun b hb=>by simp [hb],h2⟩
theorem Rd.l7 {w:World} {vs:List Value} {x:AV} {f:List Nat} {o m:Nat} {g:Bool} (h:Rd w vs ((x.cells.drop o).take m) f) (h9: ∀u∈vs,u.oneCell'=true) (hm:o+m≤x.cells.length) (h1:g=false→m=1):
  Rd w [if g then .agg vs.toArray else vs.headD undef] [x.fld o m g] f:=by
 cases g with
 |true=>have:=Rd.agg h9 h .nil;simpa [AV.fld]using this
 |false=>
  have:=h1 rfl;subst this;have e2:(x.cells.drop o).take 1= [x.cells[o]'(by omega)]:=by rw [List.drop_eq_getElem_cons (by omega),List.take_succ_cons,List.take_zero]
  rw [e2]at h;have hl:=h.len
  match vs,hl with
  | [v],_=>simpa [AV.fld,show o<x.cells.length by omega]using h
section
variable {P:Program} {c:Cx} {n nx:Nat} {sl sl0:Nat→SV} {hp hp0:Nat→Option Aj} {a:Act} {o:Oper} {gs:Gd} {e:A5} {sg:BT} {nv:Nat}
theorem zwP {w:World} {b p:Nat} {t:TypeId} {C:Array Value} {ty:TypeId} {fz:Nat × Nat} (hb:w.heap[b]?=some (.cells C ty fz)) (ht:Dv P t=true) (hg:Aq P t=true∨P.cellsOf t=1) (hp:p+P.cellsOf t≤C.size):
  (Instr.loadAt t (.pointer (some ⟨b,p,none⟩))).run P w= .ok (if Aq P t then .agg ((C.toList.drop p).take (P.cellsOf t)).toArray else((C.toList.drop p).take (P.cellsOf t)).headD undef) w:=by
 have Ms:((C.toList.drop p).take (P.cellsOf t)).length=P.cellsOf t:=by rw [List.length_take,List.length_drop,Array.length_toList];omega
 refine RX ht _ (fun _=>Ms) (fun h=> ?_) (fun j u hu=> ?_)
 ·rw [Ms];rcases hg with h'|h';rw [h]at h';cases h';exact h'
 ·rw [EY hb];rw [List.getElem?_take]at hu;split at hu
  ·simpa using hu
  ·cases hu
theorem zCO {b g e z ep:Nat} {l:List DT} {c0 i:E} {t:TypeId} {k':Nat} {v:Value} (hE:Dh c b (.deep e z l g ep c0)) (hr:SR c [.cx b g i z k'] [v]) (Bn:Dv P t=true) (hle:k'+P.cellsOf t≤z) (AE:Aq P t=true∨P.cellsOf t=1):
  ∃u,(Instr.loadAt t v).run P c.w= .ok u c.w∧(((l.drop k').take (P.cellsOf t)).all DT.bw=true→Rd c.w [u] [(E.fld (.idx c0 i) k' (P.cellsOf t) (Aq P t)).den c.ρ] [])∧Qo c b u ((E.fld (.idx c0 i) k' (P.cellsOf t) (Aq P t)).den c.ρ)∧(Aq P t=false→IG c b g (some (i,z,k')) u):=by
 obtain⟨q1,q2,q3,q4,q5⟩:=hE;cases hr with
 |cx h1 h2 h3 h4 h5 _=>
  rename_i q len cap kk k h6;obtain⟨d1,d2,⟨a9,d3,_⟩|⟨g9,cap9,C,ys,N1,d3,d4,d5,d6,d7,d8,d9,d10,d11,d12⟩⟩:=q4.inv
  ·rw [h2]at d3;cases d3;omega
  ·rw [h2]at d3;cases d3;rw [AY.bb]at d2 d12;have hk:k.toNat<ys.length:=by omega
   have hmul:(k.toNat+1)*z≤ys.length*z:=Nat.mul_le_mul_right _ (by omega);have Gc:ys.length*z≤cap*z:=Nat.mul_le_mul_right _ d7;rw [Nat.add_mul]at hmul;have AU:=zwP (P:=P) (t:=t) (p:=k.toNat*z+k') d6 Bn AE (by omega);obtain⟨M,m1,m2⟩:=d12.elem d2 d10 hk hle;have F6:((C.toList.take (ys.length*z)).drop (k.toNat*z+k')).take (P.cellsOf t)=(C.toList.drop (k.toNat*z+k')).take (P.cellsOf t):=by rw [List.drop_take,List.take_take,Nat.min_eq_left (by omega)]
   rw [F6]at m2;have CS: ∀u∈(C.toList.drop (k.toNat*z+k')).take (P.cellsOf t),u.oneCell'=true:=fun u hu=>d11 u (by rw [←F6]at hu;exact List.mem_of_mem_drop (List.mem_of_mem_take hu))
   have uJ:((AV.sl ys).nth k.toNat).cells.length=z:=d10 _ (List.mem_of_getElem? (NC hk));have B5:(E.fld (.idx c0 i) k' (P.cellsOf t) (Aq P t)).den c.ρ=((AV.sl ys).nth k.toNat).fld k' (P.cellsOf t) (Aq P t):=by simp only [E.den,d4,h3,AV.idx]
   have SZ:Aq P t=false→P.cellsOf t=1:=fun h=>by rcases AE with h'|h';rw [h]at h';cases h';exact h'
   refine⟨_,AU,fun hf=> ?_, ?_,fun hf=> ?_⟩
   ·rw [B5];exact(m2.j8 hf).l7 CS (by omega) SZ
   ·obtain⟨f,r1,r2⟩:=m2.rd;rw [B5];exact⟨f,r1.l7 CS (by omega) SZ,fun b hb=> .inr (by rw [d5];simp [m1 b (r2 b hb)])⟩
   ·refine⟨_,_,_,C,_,_,kk,k,h2,by rw [d5];simp,d6,h3,h4,h5, ?_⟩;have BY:=SZ hf;have An:k.toNat*z+k'<C.size:=by omega
    have e1:(C.toList.drop (k.toNat*z+k')).take 1= [C[k.toNat*z+k']]:=by rw [List.drop_eq_getElem_cons (by simpa using An),List.take_succ_cons,List.take_zero];simp
    rw [hf,BY,e1];simp [An]
end
section
variable {P:Program} {c:Cx} {n nx:Nat} {sl sl0:Nat→SV} {hp hp0:Nat→Option Aj} {a:Act} {o:Oper} {gs:Gd} {e:A5} {sg:BT} {nv:Nat}
theorem Bz.cy: ∀l:Bz,Bz.of l.toList=l
 | .nil=>rfl
 | .cons s l=>by simp [Bz.toList,Bz.of,Bz.cy l]
theorem zEw (h:Br P c n nx sl hp a sl0 hp0 o gs) {t:TypeId} {x:Operand} (ho:o.op= .load t x) (he:BF P sg sl0 hp0 nv nx gs o=some e) (hc: ∀q∈e.bt,Cn.den c.ρ q):AB P o c n nx sl hp gs a e:=by
 have hm:x∈o.op.operands:=by simp [ho,Op.operands]
 simp only [BF,ho,Aw,Av]at he;obtain⟨s,hs,e1,he,rfl⟩:=he;have hr:=(h.c6 hs hm).asPtr (fun q hq=>hc q (by simp [hq]));have tO: ∀q∈e1.bt,Cn.den c.ρ q:=fun q hq=>hc q (by simp [hq]);have ex:(execOp a.eval o).run P c.w=((Instr.loadAt t (a.eval x)).run P c.w).andThen fun v w=> .ok (.value v) w:=by simp [execOp,ho]
 unfold xT at he;split at he
 ·cases he
 rename_i Bn;have Bn:Dv P t=true:=by simpa using Bn
 generalize Bb:(asPtr s).1=s1 at he hr;split at he
 ·rename_i b o';split at he
  ·rename_i ty g cs hl;obtain⟨s2,A4,rfl⟩:=Av.1 he;generalize ha:a.eval x=v at hr ex;cases hr with
   |cm h1 h2 _=>
    rename_i q;obtain⟨q',C,_,e2,e3,e4,e5,e5',e6⟩:=h.eh b _ (CV hl h.gs);rw [h2]at e2;cases e2;unfold OJ at A4;have hlen:=e6.len;split at A4
    ·rename_i AE;split at A4
     ·rename_i hle;simp at A4;subst A4;obtain⟨r1,r2⟩:=e6.split o';obtain⟨r3,r4⟩:=r2.split (P.cellsOf t);have:=SR.agg (cs:=Bz.of ((cs.drop o').take (P.cellsOf t))) (fun u hu=>e5' u (List.mem_of_mem_drop (List.mem_of_mem_take hu))) (by rw [Bz.bb];exact r3) .nil;refine AB.pure h (v:= .agg ((C.toList.drop o').take (P.cellsOf t)).toArray) ?_ this rfl;rw [ex,RX Bn ((C.toList.drop o').take (P.cellsOf t)) (fun _=>by simp at hlen ⊢;omega) (fun h=>by rw [AE]at h;cases h) (fun j u hu=>by
       rw [EY e5];rw [List.getElem?_take]at hu;split at hu
       ·simpa using hu
       ·cases hu)]
      simp [AE]
     ·cases A4
    ·rename_i AE;have AE:Aq P t=false:=by simpa using AE
     obtain⟨u,hu,r⟩:=e6.get A4;refine AB.pure h (v:=u) ?_ r rfl;rw [ex,RX Bn [u] (fun h=>by rw [AE]at h;cases h) (fun _=>rfl) (fun j z hz=>by
      cases j with
      |zero=>simp at hz;subst hz;rw [EY e5];simpa using hu
      |succ j=>simp at hz)]
     simp [AE]
  ·cases he
 ·rename_i b g i sz o';split at he
  ·rename_i e0 sz' g' c0 d hl;split at he
   ·rename_i hh;obtain⟨rfl,rfl,hle,AE⟩:=hh;simp at he;subst he;generalize ha:a.eval x=v at hr ex;cases hr with
    |cx h1 h2 h3 h4 h5 _=>
     rename_i q len cap kk k h6;obtain⟨_,_,N,r1,r2,_,_⟩:=h.eh b _ (CV hl h.gs);obtain⟨f,r3,_,r4⟩:=r1.rd;obtain⟨xs,CH,AH,h0,Bh⟩:=r1;rw [h2]at r3 Bh;have hk:k.toNat<len:=by omega
     have JU:xs.length=len:=by
      rcases Bh with⟨_,⟨_,hv⟩,_⟩|⟨_,_,_,hv,_⟩
      ·cases hv;omega
      ·simp at hv;exact hv.2.1.symm
     have B7:((c0.den c.ρ).nth k.toNat).cells.length=sz:=by rw [CH];exact AH _ (List.mem_of_getElem? (NC (xs:=xs) (by omega)))
     obtain⟨v',q',g1,g2,g3⟩:=qY r3 hk B7 Bn hle AE;refine AB.pure h (v:=v') ?_ (.e (f:=q') ?_ ?_ .nil) rfl
     ·rw [ex];rw [Nat.zero_add]at g1;simp [g1]
     ·simpa [E.den,AV.idx,h3]using g3
     ·exact fun z hz=>r2 z (r4 z (g2 z hz))
   ·cases he
  ·rename_i e0 sz' l g' ep c0 hl;split at he
   ·rename_i hh;obtain⟨rfl,rfl,hle,AE⟩:=hh;generalize ha:a.eval x=v at hr ex;have hE:=h.eh b _ (CV hl h.gs);obtain⟨u,k1,k2,k3,k4⟩:=zCO (P:=P) (t:=t) hE hr Bn hle AE;have AU:(execOp a.eval o).run P c.w= .ok (.value u) c.w:=by rw [ex,k1];rfl
    split at he
    ·rename_i hf;simp only [Ah]at he;subst he;exact AB.pure h AU (.e (k2 hf) (by simp) .nil) rfl
    ·simp only [Ah]at he;subst he;cases hr with
     |cx h1 _ _ _ _ _=>
      refine AB.pure h AU (.via h1 (Nat.le_of_eq hE.2.2.1.symm) (fun _=>⟨k3, ?_⟩) .nil) rfl;split
      ·exact trivial
      ·rename_i G5;exact k4 (by simpa using G5)
   ·cases he
  ·cases he
 ·rename_i b g m pth y i sz o';split at he
  ·rename_i hh;obtain⟨hle,AE,hv⟩:=hh;have hE:=Sz h.eh h.gs hv;generalize ha:a.eval x=v at hr ex;cases hr with
   |vptr h1 h2 h3 _=>
    obtain⟨q,off,len,cap,kk,k,⟨f,p1,p2⟩,_,p4,p5,p6,p7,rfl⟩:=h3 hE;obtain⟨v',q',g1,g2,g3⟩:=qY (fo:=o') p1 (by omega) p7 Bn hle AE;have AU:(execOp a.eval o).run P c.w= .ok (.value v') c.w:=by rw [ex];simp [g1]
    have B5:Rd c.w [v'] [(E.fld (.idx y i) o' (P.cellsOf t) (Aq P t)).den c.ρ] q':=by simpa [E.den,AV.idx,p4]using g3
    split at he
    ·simp only [Ah]at he;subst he;obtain⟨f1,f2,f3,f4⟩:=BY tO;have hq:q'= []:=by
      cases hg:Aq P t with
      |true=>obtain⟨cs,Bi⟩:=f3 hg;obtain⟨as_,rfl,_,r⟩:=Kb B5 Bi;exact H3 r (by rw [Bi]at f2;exact f2)
      |false=>exact H3 B5 (by simpa using f4 hg)
     subst hq;exact AB.pure h AU (.e B5 (by simp) .nil) rfl
    ·simp only [Ah]at he;subst he;exact AB.pure h AU (.via h1 h2 (fun _=>⟨⟨q',B5,fun z hz=>p2 z (List.mem_of_mem_tail (g2 z hz))⟩,trivial⟩) .nil) rfl
  ·cases he
 ·rename_i y i sz o';split at he
  ·rename_i hh;obtain⟨hle,AE⟩:=hh;simp at he;subst he;generalize ha:a.eval x=v at hr ex;cases hr with
   |dn h1 h2 h3 h4 h5 h6 _=>rename_i q off len cap f kk k;obtain⟨v',q',g1,g2,g3⟩:=qY (fo:=o') h1 (by omega) h6 Bn hle AE;refine AB.pure h (v:=v') ?_ (.e (f:=q') (by simpa [E.den,AV.idx,h3]using g3) (fun z hz=>h2 z (List.mem_of_mem_tail (g2 z hz))) .nil) rfl;rw [ex];simp [g1]
  ·cases he
 ·rename_i y o';split at he
  ·rename_i AE;simp at he;subst he;generalize ha:a.eval x=v at hr ex;cases hr with
   |dj h1 h2 _=>
    rename_i q f;obtain⟨z,hz,hle⟩:=BY tO;rw [hz]at h1;cases h1 with
    |ref hb BX HK C5=>
     rename_i C ty fz f1 f2;obtain⟨q',g1,g2⟩:=HK.jo BX o' (P.cellsOf t) (Aq P t) hle (fun h=>by rcases AE with h'|h';rw [h]at h';cases h';exact h');have Ms:((C.toList.drop o').take (P.cellsOf t)).length=P.cellsOf t:=by have:=HK.len;rw [List.length_take,List.length_drop];omega
     refine AB.pure h ?_ (.e (f:=q') (by simpa [E.den,hz,AV.deref]using g2) (fun z hz=>h2 z (by simp [g1 z hz])) .nil) rfl;rw [ex,RX Bn ((C.toList.drop o').take (P.cellsOf t)) (fun _=>Ms) (fun h=>by rw [Ms];rcases AE with h'|h';rw [h]at h';cases h';exact h') (fun j u hu=>by
       rw [EY hb];rw [List.getElem?_take]at hu;split at hu
       ·simpa using hu
       ·cases hu)]
     simp
  ·cases he
 ·cases he
end
theorem Px (k:IntKind) (n:Int):ET k n↔k.min≤n∧n≤k.max:=by unfold ET;cases k<;>simp only [IntKind.wrap,IntKind.bits,IntKind.signed,IntKind.min,IntKind.max]<;>simp<;>(try split)<;>omega
theorem rV (k:IntKind) (n:Int):ET k (k.wrap n):=by rw [Px];cases k<;>simp only [IntKind.wrap,IntKind.bits,IntKind.signed,IntKind.min,IntKind.max]<;>simp<;>(try split)<;>omega
theorem zFw {k:IntKind} {x y:Int} (h:ET k x):ET k (x.tmod y):=by
 rw [Px]at h ⊢;have h1:(x.tmod y).natAbs≤x.natAbs:=by rw [Int.natAbs_tmod];exact Nat.mod_le _ _
 have h2:0≤x→0≤x.tmod y:=Int.tmod_nonneg y;have gF:k.min≤0:=by cases k<;>decide
 have Ec:0≤k.max:=by cases k<;>decide
 constructor
 ·by_cases h0:0≤x
  ·have:=h2 h0;omega
  ·omega
 ·by_cases h0:0≤x
  ·omega
  ·have h3:x.tmod y≤0:=by
    have:=Int.tmod_nonneg (a:= -x) y (by omega);rw [Int.neg_tmod]at this;omega
   omega
theorem zGa {k:IntKind} {x:Int} (m:Nat) (h:ET k x):ET k (x.fdiv (2^m)):=by
 rw [Px]at h ⊢;have hp:(0:Int)<2^m:=Int.pow_pos (by decide);rw [Int.fdiv_eq_ediv_of_nonneg _ (Int.le_of_lt hp)];have gF:k.min≤0:=by cases k<;>decide
 have Ec:0≤k.max:=by cases k<;>decide
 have h1:(1:Int)≤2^m:=hp;constructor
 ·rcases Int.le_total 0 x with h0|h0
  ·have:=Int.ediv_nonneg h0 (Int.le_of_lt hp);omega
  ·have:x≤x/2^m:=by
    rw [Int.le_ediv_iff_mul_le hp];have:=Int.mul_le_mul_of_nonpos_left h0 h1;omega
   omega
 ·rcases Int.le_total 0 x with h0|h0
  ·have:=Int.ediv_le_self (2^m) h0;omega
  ·have h2:x/2^m≤0:=by
    have:=Int.ediv_le_ediv hp h0;simpa using this
   omega
section
variable {P:Program} {c:Cx} {n nx:Nat} {sl sl0:Nat→SV} {hp hp0:Nat→Option Aj} {a:Act} {o:Oper} {gs:Gd} {e:A5} {sg:BT} {nv:Nat}
def AV.val:AV→Value
 | .int k n=> .int k n
 | .bool b=> .bool b
 | .str s=> .string ⟨s.toArray⟩
 |_=>Go.undef
theorem zBZ {op:BinOp} {k k':IntKind} {x y:Int} (hk:k=k'∨op= .shl∨op= .shr) (hz:op= .quo∨op= .rem→y≠0) (hs:op= .shl∨op= .shr→0≤y) (t:TypeId) (p q:Operand) (w:World):
  (do eqGuard op t p q (.int k x) (.int k' y);binOp op t (.int k x) (.int k' y):Sem Value).run P w= .ok (BL op k x y).val w:=by
 have hg:=eqGuard_at_int op t p q (.int k' y) k x;cases op<;>simp only [reduceCtorEq,or_false,or_true,or_self]at hk hz hs<;>simp only [hg]
 all_goals first
  |(subst hk;simp [binOp,Op.intArith,Op.intCmp,Op.intBits,BL,AV.val];done)
  |(subst hk;have:=hz trivial;simp [binOp,Op.intDiv,BL,AV.val,this];done)
  |(have:=hs trivial;simp [binOp,Op.shift,BL,AV.val,Int.not_lt.2 this];done)
theorem zDw {op:BinOp} {k:IntKind} {x y:Int} (hx:ET k x) (w:World):Rd w [(BL op k x y).val] [BL op k x y] []:=by
 cases op<;>simp only [BL,AV.val]<;>first
  |exact .int (rV _ _) .nil
  |exact .bool .nil
  |exact .int (zFw hx) .nil
  |exact .int (zGa _ hx) .nil
theorem Rd.iu {w:World} {v:Value} {x:AV} {f:List Nat} (h:Rd w [v] [x] f):x≠ .undef:=by rintro rfl;cases h
theorem qT {ρ:List AV}: ∀(x:E) {k:IntKind},Co x=some k→x.den ρ≠ .undef→ ∃m,x.den ρ= .int k m
 | .int k n,_,h,_=>by simp [Co]at h;subst h;exact⟨n,rfl⟩
 | .len y,_,h,hd=>by
  simp [Co]at h;subst h;simp only [E.den,AV.len]at hd ⊢;split at hd
  ·exact⟨_,rfl⟩
  ·exact absurd rfl hd
 | .slen y,_,h,hd=>by
  simp [Co]at h;subst h;simp only [E.den,AV.slen]at hd ⊢;split at hd
  ·exact⟨_,rfl⟩
  ·exact absurd rfl hd
 | .conv k y,_,h,hd=>by
  simp [Co]at h;subst h;simp only [E.den,AV.conv]at hd ⊢;split at hd
  ·exact⟨_,rfl⟩
  ·exact absurd rfl hd
 | .bin op x y,k,h,hd=>by
  simp only [E.den]at hd ⊢;have hx:x.den ρ≠ .undef:=by rintro hh;rw [hh]at hd;exact hd (by simp [AV.bin])
  cases op<;>simp only [Co,reduceCtorEq]at h
  all_goals
   obtain⟨m,hm⟩:=qT x h hx;rw [hm]at hd ⊢;cases hy:y.den ρ<;>rw [hy]at hd<;>simp only [AV.bin]at hd ⊢ <;>first
    |exact absurd rfl hd
    |(split at hd
      ·rename_i hk;rw [if_pos hk];exact⟨_,rfl⟩
      ·exact absurd rfl hd)
 | .var _,_,h,_=>by simp [Co]at h
 | .bool _,_,h,_=>by simp [Co]at h
 | .str _,_,h,_=>by simp [Co]at h
 | .dy,_,h,_=>by simp [Co]at h
 | .lst _,_,h,_=>by simp [Co]at h
 | .mk _,_,h,_=>by simp [Co]at h
 | .tup _,_,h,_=>by simp [Co]at h
 | .ref _,_,h,_=>by simp [Co]at h
 | .fn ..,_,h,_=>by simp [Co]at h
 | .fld ..,_,h,_=>by simp [Co]at h
 | .proj ..,_,h,_=>by simp [Co]at h
 | .deref _,_,h,_=>by simp [Co]at h
 | .idx ..,_,h,_=>by simp [Co]at h
 | .sidx ..,_,h,_=>by simp [Co]at h
 | .win ..,_,h,_=>by simp [Co]at h
 | .swin ..,_,h,_=>by simp [Co]at h
 | .app ..,_,h,_=>by simp [Co]at h
 | .set ..,_,h,_=>by simp [Co]at h
 | .put ..,_,h,_=>by simp [Co]at h
 | .rep ..,_,h,_=>by simp [Co]at h
 | .sbin ..,_,h,_=>by simp [Co]at h
 | .bbin ..,_,h,_=>by simp [Co]at h
 | .not _,_,h,_=>by simp [Co]at h
 | .neg _,_,h,_=>by simp [Co]at h
 | .ite ..,_,h,_=>by simp [Co]at h
 | .bytes _,_,h,_=>by simp [Co]at h
 | .text _,_,h,_=>by simp [Co]at h
end
section
variable {P:Program} {c:Cx} {n nx:Nat} {sl sl0:Nat→SV} {hp hp0:Nat→Option Aj} {a:Act} {o:Oper} {gs:Gd} {e:A5} {sg:BT} {nv:Nat}
theorem HY {s:SV} {v:Value} {x:E} (h:SR c [s] [v]) (hx:Fx s=some x): ∃f,Rd c.w [v] [x.den c.ρ] f∧ ∀b∈f,c.ok b:=by
 cases s<;>simp only [Fx,Ah,reduceCtorEq]at hx;subst hx;cases h with
 |e h1 h2 _=>exact⟨_,h1,h2⟩
theorem SR.c7 {v:Value} {x:E} (h:Rd c.w [v] [x.den c.ρ] []):SR c [.e x] [v]:= .e h (by simp) .nil
theorem zBI {ρ:List AV} {op:BinOp} {x y:E} {w:World} {v u:Value} {f g:List Nat} (h1:Rd w [v] [x.den ρ] f) (h2:Rd w [u] [y.den ρ] g) (hd:Sn (.bin op x y)=true→(E.bin op x y).den ρ≠ .undef):
  ∃k k' p q,x.den ρ= .int k p∧y.den ρ= .int k' q∧(k=k'∨op= .shl∨op= .shr)∧(E.bin op x y).den ρ=BL op k p q∧ET k p∧v= .int k p∧u= .int k' q:=by
 have key:(∃k k' p q,x.den ρ= .int k p∧y.den ρ= .int k' q∧(k=k'∨op= .shl∨op= .shr)):=by
  by_cases hn:Sn (.bin op x y)=true
  ·have:=hd hn;simp only [E.den]at this;cases hx:x.den ρ<;>cases hy:y.den ρ<;>simp only [hx,hy,AV.bin,ne_eq,not_true_eq_false]at this;split at this
   ·exact⟨_,_,_,_,rfl,rfl,by assumption⟩
   ·exact absurd rfl this
  ·have hn:Sn (.bin op x y)=false:=by simpa using hn
   have hk:(Co x).isSome=true∧(Co x==Co y)=true:=by cases op<;>simp [Sn]at hn<;>simpa using hn
   obtain⟨k,IS⟩:=Option.isSome_iff_exists.1 hk.1;have K9:Co y=some k:=by rw [←beq_iff_eq.1 hk.2,IS]
   obtain⟨p,hp⟩:=qT x IS h1.iu;obtain⟨q,hq⟩:=qT y K9 h2.iu;exact⟨k,k,p,q,hp,hq, .inl rfl⟩
 obtain⟨k,k',p,q,hp,hq,Mr⟩:=key;obtain⟨hv,Cb⟩:=GR h1 hp;obtain⟨hu,_⟩:=GR h2 hq;exact⟨k,k',p,q,hp,hq,Mr,by simp only [E.den,hp,hq,AV.bin,if_pos Mr],Cb,hv,hu⟩
theorem zpt (a b:ByteArray):(a.toList==b.toList)=(a.data.toList==b.data.toList):=by rw [ByteArray.toList_eq,ByteArray.toList_eq]
theorem zxi {α β γ:Type} (r:Result α) (f:α→World→Result β) (g:β→World→Result γ):(r.andThen f).andThen g=r.andThen fun a w=>(f a w).andThen g:=by cases r<;>rfl
theorem pK (d:Nat) {t:TypeId} (p q:Bool) (h:P.underlying t=some .bool) (w:World):(Op.equalIn (d+1) t (.bool p) (.bool q)).run P w= .ok (p==q) w:=by simp [Op.equalIn,run_underlying h]
theorem zCc {t:TypeId} (p q:Bool) (h:P.underlying t=some .bool) (w:World):(binOp .eql t (.bool p) (.bool q)).run P w= .ok (.bool (p==q)) w:=by simp only [binOp];simp [Op.equal,Op.maxDepth,pK 9999 p q h]
theorem zBx {t:TypeId} (p q:Bool) (h:P.underlying t=some .bool) (w:World):(binOp .neq t (.bool p) (.bool q)).run P w= .ok (.bool (!(p==q))) w:=by simp only [binOp];simp [Op.equal,Op.maxDepth,pK 9999 p q h]
theorem PF {op:BinOp} {t ty:TypeId} {x y:Operand} (ho:o.op= .binOp op t x y ty) (w:World) {v u:Value} (hv:a.eval x=v) (hu:a.eval y=u):
  (execOp a.eval o).run P w=((do eqGuard op t x y v u;binOp op t v u:Sem Value).run P w).andThen fun v w=> .ok (.value v) w:=by
 simp only [execOp,ho,hv,hu,Sem.run_bind,zxi,Sem.run_pure]
theorem zoG (h:Br P c n nx sl hp a sl0 hp0 o gs) {op:BinOp} {t el:TypeId} {x y:Operand} {ty:TypeId} (ho:o.op= .binOp op t x y ty) (hu:P.underlying t=some (.slice el)) (r1:SR c [.cf] [a.eval x]) (r2:SR c [.cf] [a.eval y])
  (AT:op= .eql∨op= .neq):AB P o c n nx sl hp gs a {val:= .e (.bool (op== .eql))}:=by
 have ex:=fun(v u:Value) (hv:a.eval x=v) (hu:a.eval y=u)=>PF (P:=P) (o:=o) ho c.w hv hu;generalize EW:a.eval x=v1 at r1;generalize Ds:a.eval y=v2 at r2;cases r1 with
 |cf _=>cases r2 with
  |cf _=>
   refine AB.pure h (v:= .bool (op== .eql)) ?_ (.c7 (.bool .nil)) rfl;rw [ex _ _ EW Ds,eqGuard_at_slice];rcases AT with rfl|rfl
   ·simp [run_eql_nil_slice c.w t el none 0 0 0 0 hu]
   ·simp [run_neq_nil_slice c.w t el none 0 0 0 0 hu]
theorem zyw (h:Br P c n nx sl hp a sl0 hp0 o gs) {op:BinOp} {t:TypeId} {x y:Operand} {ty:TypeId} (ho:o.op= .binOp op t x y ty) {s1 s2:SV} (r1:SR c [s1] [a.eval x]) (r2:SR c [s2] [a.eval y])
  {x' y':E} (C6:Fx s1=some x') (Bv:Fx s2=some y') (hd:Sn (.bin op x' y')=true→Cn.den c.ρ (.dfd (.bin op x' y'))) (hnz:op= .quo∨op= .rem→Cn.den c.ρ (.nz y')) (hnn:op= .shl∨op= .shr→Cn.den c.ρ (.nn y')) {ck:List Cn}:
  AB P o c n nx sl hp gs a {bt:=ck,val:= .e (.bin op x' y')}:=by
 obtain⟨f1,g1,_⟩:=HY r1 C6;obtain⟨f2,g2,_⟩:=HY r2 Bv;obtain⟨k,k',p,q,e1,e2,Mr,e3,Cb,hv,FI⟩:=zBI (op:=op) g1 g2 hd;refine AB.pure h (v:=(BL op k p q).val) ?_ (.c7 (by rw [e3];exact zDw Cb _)) rfl;rw [PF ho c.w hv FI,zBZ Mr (fun AT=> ?_) (fun AT=> ?_)]
 ·simp
 ·obtain⟨_,m,hm,Ea⟩:=hnz AT;rw [e2]at hm;cases hm;exact Ea
 ·obtain⟨_,m,hm,Ea⟩:=hnn AT;rw [e2]at hm;cases hm;exact Ea
theorem zxZ (h:Br P c n nx sl hp a sl0 hp0 o gs) {op:BinOp} {t:TypeId} {x y:Operand} {ty:TypeId} (ho:o.op= .binOp op t x y ty) {s1 s2:SV} (r1:SR c [s1] [a.eval x]) (r2:SR c [s2] [a.eval y])
  {x' y':E} (C6:Fx s1=some x') (Bv:Fx s2=some y') (hd:Cn.den c.ρ (.dfd (.sbin op x' y'))) (Cv:op= .add→Cn.den c.ρ (.roomS x' y')) {ck:List Cn}:
  AB P o c n nx sl hp gs a {bt:=ck,val:= .e (.sbin op x' y')}:=by
 obtain⟨f1,g1,_⟩:=HY r1 C6;obtain⟨f2,g2,_⟩:=HY r2 Bv;have hd:AV.sbin op (x'.den c.ρ) (y'.den c.ρ)≠ .undef:=hd;cases hx:x'.den c.ρ<;>cases hy:y'.den c.ρ<;>simp only [hx,hy,AV.sbin,ne_eq,not_true_eq_false]at hd;obtain⟨b1,EW,rfl,_⟩:=SL g1 hx;obtain⟨b2,Ds,rfl,_⟩:=SL g2 hy;have hle:op= .add→b1.size+b2.size≤9223372036854775807:=fun AT=>by obtain⟨p,q,hp,hq,hle⟩:=Cv AT;rw [hx]at hp;rw [hy]at hq;cases hp;cases hq;simpa using hle
 refine AB.pure h (v:=match op with| .add=> .string (b1++b2)|_=>(SI op b1.data.toList b2.data.toList).val) ?_ (.c7 ?_) rfl
 ·rw [PF ho c.w EW Ds,eqGuard_at_string];cases op<;>first
   |(exact absurd rfl hd)
   |(have:=hle rfl;simp [binOp,Op.stringOp];omega)
   |(simp [binOp,Op.stringOp,SI,AV.val,ByteArray.toList_eq,bne];done)
 ·simp only [E.den,hx,hy,AV.sbin];cases op<;>simp only [SI,AV.val,ne_eq,not_true_eq_false]at hd ⊢ <;>first
   |exact .bool .nil
   |(have:=hle rfl
     have h9:=Rd.str (w:=c.w) (s:=b1++b2) (by simpa using this) .nil;simpa using h9)
theorem zxI (h:Br P c n nx sl hp a sl0 hp0 o gs) {op:BinOp} {t:TypeId} {x y:Operand} {ty:TypeId} (ho:o.op= .binOp op t x y ty) (hu:P.underlying t=some .bool) {s1 s2:SV} (r1:SR c [s1] [a.eval x]) (r2:SR c [s2] [a.eval y])
  {x' y':E} (C6:Fx s1=some x') (Bv:Fx s2=some y') (hd:Cn.den c.ρ (.dfd (.bbin op x' y'))) {ck:List Cn}:
  AB P o c n nx sl hp gs a {bt:=ck,val:= .e (.bbin op x' y')}:=by
 obtain⟨f1,g1,_⟩:=HY r1 C6;obtain⟨f2,g2,_⟩:=HY r2 Bv;have hd:AV.bbin op (x'.den c.ρ) (y'.den c.ρ)≠ .undef:=hd;cases hx:x'.den c.ρ<;>cases hy:y'.den c.ρ<;>simp only [hx,hy,AV.bbin,ne_eq,not_true_eq_false]at hd;rename_i p q;have EW:=IA g1 hx;have Ds:=IA g2 hy;refine AB.pure h (v:=(AV.bbin op (.bool p) (.bool q)).val) ?_ (.c7 ?_) rfl
 ·rw [PF ho c.w EW Ds,eqGuard_at_bool];cases op<;>simp only [ne_eq,not_true_eq_false]at hd
  ·simp [zCc p q hu,AV.bbin,AV.val]
  ·simp [zBx p q hu,AV.bbin,AV.val,bne]
 ·simp only [E.den,hx,hy];cases op<;>simp only [AV.bbin,AV.val,ne_eq,not_true_eq_false]at hd ⊢ <;>exact .bool .nil
theorem zFn (h:Br P c n nx sl hp a sl0 hp0 o gs) {op:BinOp} {t:TypeId} {x y:Operand} {ty:TypeId} (ho:o.op= .binOp op t x y ty) (My: ∀fs,P.underlying t≠some (.struct fs)) (he:BF P sg sl0 hp0 nv nx gs o=some e) (hq:e.cd=none) (hc: ∀q∈e.bt,Cn.den c.ρ q):AB P o c n nx sl hp gs a e:=by
 have Eb:x∈o.op.operands:=by simp [ho,Op.operands]
 have DP:y∈o.op.operands:=by simp [ho,Op.operands]
 simp only [BF,ho,Aw]at he;obtain⟨s1,BI,s2,A4,he⟩:=he;have r1:=h.c6 BI Eb;have r2:=h.c6 A4 DP;unfold SU at he;split at he
 ·rename_i el hu;split at he
  ·simp at he;subst he;exact zoG h ho hu r1 r2 (.inl rfl)
  ·simp at he;subst he;exact zoG h ho hu r1 r2 (.inr rfl)
  ·obtain⟨_,_,rfl⟩:=Av.1 he;cases hq
  ·obtain⟨_,_,rfl⟩:=Av.1 he;cases hq
  ·cases he
 ·rename_i kk hu;split at he
  ·rename_i x' y' C6 Bv;simp at he;subst he;exact zyw h ho r1 r2 C6 Bv (fun hn=>hc _ (by simp [hn])) (fun AT=>hc _ (by rcases AT with rfl|rfl<;>simp)) (fun AT=>hc _ (by rcases AT with rfl|rfl<;>simp))
  ·cases he
 ·rename_i hu;split at he
  ·rename_i x' y' C6 Bv;simp at he;subst he;exact zxZ h ho r1 r2 C6 Bv (hc _ (by simp)) (fun AT=>hc _ (by subst AT;simp))
  ·cases he
 ·rename_i hu;split at he
  ·rename_i x' y' C6 Bv;simp at he;subst he;exact zxI h ho hu r1 r2 C6 Bv (hc _ (by simp))
  ·cases he
 ·rename_i fs hu;exact absurd hu (My fs)
 ·cases he
end
section
variable {P:Program} {c:Cx} {n nx:Nat} {sl sl0:Nat→SV} {hp hp0:Nat→Option Aj} {a:Act} {o:Oper} {gs:Gd} {e:A5} {sg:BT} {nv:Nat}
theorem Wb {t:TypeId} (h:Dv P t=true) (cs:List Value) (off:Nat) (hle:off+P.cellsOf t≤cs.length) (hg:Aq P t=true∨P.cellsOf t=1) (w:World):
  (part t cs.toArray off).run P w= .ok (if Aq P t then .agg ((cs.drop off).take (P.cellsOf t)).toArray else((cs.drop off).take (P.cellsOf t)).headD Go.undef) w:=by
 cases ha:Aq P t with
 |true=>simp only [part,Sem.run_bind,V5 h,ha,Ph h,Result.andThen_ok,if_true,Sem.run_pure];congr 2;apply Array.ext';rw [Array.toList_extract];simp [Nat.add_sub_cancel_left,List.extract_eq_take_drop]
 |false=>
  have h1:P.cellsOf t=1:=by rcases hg with h'|h';rw [ha]at h';cases h';exact h'
  have An:off<cs.length:=by omega
  have e1:(cs.drop off).take (P.cellsOf t)= [cs[off]]:=by rw [h1,List.drop_eq_getElem_cons An,List.take_succ_cons,List.take_zero]
  rw [e1];simp [part,V5 h,ha,An]
theorem zBU (h:Br P c n nx sl hp a sl0 hp0 o gs) {t:TypeId} {x:Operand} {f:Nat} (ho:o.op= .field t x f) (he:BF P sg sl0 hp0 nv nx gs o=some e) (hc: ∀q∈e.bt,Cn.den c.ρ q):AB P o c n nx sl hp gs a e:=by
 have hm:x∈o.op.operands:=by simp [ho,Op.operands]
 simp only [BF,ho,Aw]at he;obtain⟨s,hs,he⟩:=he;have hr:=h.c6 hs hm;split at he
 ·rename_i fs hu;split at he
  ·rename_i fd hf;split at he
   ·cases he
   ·rename_i Bn;have Bn:Dv P fd.type=true:=by simpa using Bn
    have ex: ∀as_:List Value,a.eval x= .agg as_.toArray→(execOp a.eval o).run P c.w=((part fd.type as_.toArray fd.offset).run P c.w).andThen fun v w=> .ok (.value v) w:=fun as_ hv=>by simp [execOp,ho,Instr.field,run_underlying hu,hf,hv,asAgg]
    split at he
    ·rename_i cs;obtain⟨s2,A4,rfl⟩:=Av.1 he;generalize hv:a.eval x=v at hr;cases hr with
     |agg r8 r1 r9=>
      rename_i as_;have hlen:=r1.len;unfold OJ at A4;split at A4
      ·rename_i AE;split at A4
       ·rename_i hle;simp at A4;subst A4;obtain⟨q1,q2⟩:=r1.split fd.offset;obtain⟨q3,q4⟩:=q2.split (P.cellsOf fd.type);have:=SR.agg (cs:=Bz.of ((cs.toList.drop fd.offset).take (P.cellsOf fd.type))) (fun u hu=>r8 u (List.mem_of_mem_drop (List.mem_of_mem_take hu))) (by rw [Bz.bb];exact q3) .nil;refine AB.pure h (v:= .agg ((as_.drop fd.offset).take (P.cellsOf fd.type)).toArray) ?_ this rfl;rw [ex as_ hv,Wb Bn as_ fd.offset (by omega) (.inl AE)];simp [AE]
       ·cases A4
      ·rename_i AE;have AE:Aq P fd.type=false:=by simpa using AE
       obtain⟨u,FI,r⟩:=r1.get A4;refine AB.pure h (v:=u) ?_ r rfl;rw [ex as_ hv];simp [part,V5 Bn,AE,FI]
    ·rename_i y;split at he
     ·rename_i hh;obtain⟨hle,AE⟩:=hh;simp at he;subst he;generalize hv:a.eval x=v at hr;cases hr with
      |e h1 h2 _=>
       rename_i f1;obtain⟨cs,Bi,AH⟩:=BY hc;obtain⟨as_,rfl,Ou,C5⟩:=Kb h1 Bi;have hlen:=C5.len;have F6:(y.den c.ρ).cells=cs:=by rw [Bi];rfl
       rw [←F6]at C5;obtain⟨q,g1,g2⟩:=C5.jo Ou fd.offset (P.cellsOf fd.type) (Aq P fd.type) (by rw [F6];omega) (fun hh=>by rcases AE with h'|h';rw [hh]at h';cases h';exact h');refine AB.pure h ?_ (.e (f:=q) (by simpa [E.den]using g2) (fun z hz=>h2 z (g1 z hz)) .nil) rfl;rw [ex as_ hv,Wb Bn as_ fd.offset (by omega) AE];simp
     ·cases he
    ·rename_i b g m pth y;split at he
     ·rename_i hh;obtain⟨hle,AE,iI⟩:=hh;have hE:=Sz h.eh h.gs iI;generalize hv:a.eval x=v at hr;have Ib:Cn.den c.ρ (.agg y (P.cellsOf t)):=by
       split at he<;>(simp only [Ah]at he;subst he;exact BY hc)
      cases hr with
      |via h1 h2 h3 _=>
       obtain⟨⟨f1,p1,p2⟩,_⟩:=h3 hE;obtain⟨cs,Bi,AH⟩:=Ib;obtain⟨as_,rfl,Ou,C5⟩:=Kb p1 Bi;have hlen:=C5.len;have F6:(y.den c.ρ).cells=cs:=by rw [Bi];rfl
       rw [←F6]at C5;obtain⟨q,g1,g2⟩:=C5.jo Ou fd.offset (P.cellsOf fd.type) (Aq P fd.type) (by rw [F6];omega) (fun hh=>by rcases AE with h'|h';rw [hh]at h';cases h';exact h');have AU:=ex as_ hv;rw [Wb Bn as_ fd.offset (by omega) AE]at AU;simp only [Result.andThen_ok]at AU;have B5:Rd c.w _ [(E.fld y fd.offset (P.cellsOf fd.type) (Aq P fd.type)).den c.ρ] q:=g2;split at he
       ·simp only [Ah]at he;subst he;obtain⟨e1,e2,e3,e4⟩:=hc (.flat (.fld y fd.offset (P.cellsOf fd.type) (Aq P fd.type)) (P.cellsOf fd.type) (Aq P fd.type)) (by simp);have hq:q= []:=by
         cases hg:Aq P fd.type with
         |true=>obtain⟨cs,Bi⟩:=e3 hg;obtain⟨as_,_,_,r⟩:=Kb B5 Bi;exact H3 r (by rw [Bi]at e2;exact e2)
         |false=>exact H3 B5 (by simpa using e4 hg)
        subst hq;exact AB.pure h AU (.e B5 (by simp) .nil) rfl
       ·simp only [Ah]at he;subst he;exact AB.pure h AU (.via h1 h2 (fun _=>⟨⟨q,B5,fun z hz=>p2 z (g1 z hz)⟩,trivial⟩) .nil) rfl
     ·cases he
    ·cases he
  ·cases he
 ·cases he
theorem Sh {v:Value} {x:AV} {m:Int} {w:World} {f:List Nat} (h:Rd w [v] [x] f) (hx:x.len= .int .i64 m):(∃a c,v= .slice a 0 c∧m=0)∨ ∃b o k c,v= .slice (some ⟨b,o,none⟩) k c∧m=k:=by
 rcases h.kind with h|h|h|h|h|h|h|h|h|h
 ·obtain⟨_,_,_,rfl,_⟩:=h;simp [AV.len]at hx
 ·obtain⟨_,_,rfl,_⟩:=h;simp [AV.len]at hx
 ·obtain⟨_,_,rfl,_⟩:=h;simp [AV.len]at hx
 ·obtain⟨q,r,rfl,rfl,_⟩:=h;simp [AV.len]at hx;exact .inl ⟨q,r,rfl,by omega⟩
 ·obtain⟨b,o,k,r,ys,_,_,_,_,_,_,rfl,rfl,_,_,_,_,hl,_⟩:=h;simp [AV.len]at hx;exact .inr ⟨b,o,k,r,rfl,by omega⟩
 ·obtain⟨_,_,_,rfl,_⟩:=h;simp [AV.len]at hx
 ·obtain⟨_,_,_,rfl,_⟩:=h;simp [AV.len]at hx
 ·obtain⟨_,_,_,_,_,_,_,rfl,_⟩:=h;simp [AV.len]at hx
 ·obtain⟨_,_,_,_,rfl,_⟩:=h;simp [AV.len]at hx
 ·obtain⟨_,rfl,_⟩:=h;simp [AV.len]at hx
theorem VK {t el:TypeId} (hu:P.underlying t=some (.slice el)) (hz:P.cellsOf el≠0) {b off len cap:Nat} {kk:IntKind} {k:Int} (h0:0≤k) (h1:k<len) (w:World):
  (Instr.indexAt t (.slice (some ⟨b,off,none⟩) len cap) (.int kk k)).run P w= .ok (.pointer (some ⟨b,off+k.toNat*P.cellsOf el,none⟩)) w:=by
 simp [Instr.indexAt,run_underlying hu,asIntOf,h0,h1,zvJ hz,Addr.add_lit]
theorem zv8 (h:Br P c n nx sl hp a sl0 hp0 o gs) {t:TypeId} {x i:Operand} (ho:o.op= .indexAddr t x i∨o.op= .index t x i) {s1 s2:SV} (BI:BN sl0 gs x=some s1) (A4:BN sl0 gs i=some s2)
  (AT:(∃el,P.underlying t=some (.slice el))→o.op= .indexAddr t x i) (gN:P.underlying t=some .string→o.op= .index t x i)
  (he:cI P hp0 gs t s1 s2=some e) (hc: ∀q∈e.bt,Cn.den c.ρ q):AB P o c n nx sl hp gs a e:=by
 have Eb:x∈o.op.operands:=by rcases ho with ho|ho<;>simp [ho,Op.operands]
 have DP:i∈o.op.operands:=by rcases ho with ho|ho<;>simp [ho,Op.operands]
 have r1:=h.c6 BI Eb;have r2:=h.c6 A4 DP;unfold cI at he;split at he
 ·rename_i el k hu;have TN:=AT ⟨el,hu⟩;have ex:(execOp a.eval o).run P c.w=((Instr.indexAt t (a.eval x) (a.eval i)).run P c.w).andThen fun v w=> .ok (.value v) w:=by simp [execOp,TN]
  split at he
  ·cases he
  rename_i hz;obtain⟨fk,IS,_⟩: ∃f,Rd c.w [a.eval i] [k.den c.ρ] f∧ ∀b∈f,c.ok b:=by
   generalize a.eval i=v at r2;cases r2 with
   |e h1 h2 _=>exact⟨_,h1,h2⟩
  split at he
  ·rename_i b g;split at he
   ·rename_i e0 sz g' c0 d hl;split at he
    ·rename_i hh;obtain⟨rfl,rfl⟩:=hh;simp at he;subst he;obtain⟨kk,kv,m,e1,e2,e3,e4,e5⟩:=BY hc;obtain⟨JB,_⟩:=GR IS e1;generalize hv:a.eval x=v at r1 ex;cases r1 with
     |own hK PV _=>
      obtain⟨_,_,N,q1,q2,_,_⟩:=h.eh b _ (CV hl h.gs);obtain⟨xs,CH,AH,h0,Bh⟩:=q1;rw [CH]at e3;simp only [AV.len,AV.int.injEq,true_and]at e3;rcases Bh with⟨rfl,_⟩|⟨g9,cap,C,hH,_⟩
      ·simp at e3;omega
      ·refine AB.pure h (v:= .pointer (some ⟨g9,kv.toNat*P.cellsOf el+0,none⟩)) ?_ (.cx hK hH e1 e2 (by omega) .nil) rfl;rw [PV]at hH;cases hH;rw [ex,JB,VK hu hz e2 (by omega)];simp
    ·cases he
   ·rename_i g' c0 hl;split at he
    ·rename_i hh;subst hh;simp at he;subst he;obtain⟨kk,kv,m,e1,e2,e3,e4,e5⟩:=BY hc;obtain⟨JB,_⟩:=GR IS e1;generalize hv:a.eval x=v at r1 ex;cases r1 with
     |own hK PV _=>
      obtain⟨_,⟨f,q1,q2⟩,_,_⟩:=h.eh b _ (CV hl h.gs);rcases Sh q1 e3 with⟨_,_,_,hm⟩|⟨b9,off9,len9,cap9,hH,hm⟩
      ·omega
      ·rw [PV]at hH;cases hH;rw [PV]at q1;refine AB.pure h (v:= .pointer (some ⟨b9,off9+kv.toNat*P.cellsOf el+0,none⟩)) ?_ (.dn q1 q2 e1 e2 (by omega) e5 .nil) rfl;rw [ex,JB,VK hu hz e2 (by omega)];simp
    ·cases he
   ·rename_i e0 sz dl g' ep c0 hl;split at he
    ·rename_i hh;obtain⟨rfl,rfl⟩:=hh;simp at he;subst he;obtain⟨kk,kv,m,e1,e2,e3,e4,e5⟩:=BY hc;obtain⟨JB,_⟩:=GR IS e1;generalize hv:a.eval x=v at r1 ex;cases r1 with
     |own hK PV _=>
      obtain⟨_,_,_,q1,_⟩:=h.eh b _ (CV hl h.gs);obtain⟨_,_,⟨a9,d3,d4,_⟩|⟨g9,cap,C,ys,N1,hH,d4,_⟩⟩:=q1.inv
      ·rw [d4]at e3;simp [AV.len]at e3;omega
      ·rw [d4]at e3;simp only [AV.len,AV.int.injEq,true_and]at e3;refine AB.pure h (v:= .pointer (some ⟨g9,kv.toNat*P.cellsOf el+0,none⟩)) ?_ (.cx hK hH e1 e2 (by omega) .nil) rfl;rw [PV]at hH;cases hH;rw [ex,JB,VK hu hz e2 (by omega)];simp
    ·cases he
   ·cases he
  ·rename_i y;simp at he;subst he;obtain⟨kk,kv,m,e1,e2,e3,e4,e5⟩:=BY hc;obtain⟨JB,_⟩:=GR IS e1;generalize hv:a.eval x=v at r1 ex;cases r1 with
   |e q1 q2 _=>
    rcases Sh q1 e3 with⟨_,_,_,hm⟩|⟨b9,off9,len9,cap9,rfl,hm⟩
    ·omega
    ·refine AB.pure h (v:= .pointer (some ⟨b9,off9+kv.toNat*P.cellsOf el+0,none⟩)) ?_ (.dn q1 q2 e1 e2 (by omega) e5 .nil) rfl;rw [ex,JB,VK hu hz e2 (by omega)];simp
  ·rename_i b g m pth y;split at he
   ·rename_i iI;simp at he;subst he;have hE:=Sz h.eh h.gs iI;obtain⟨kk,kv,mm,e1,e2,e3,e4,e5⟩:=BY hc;obtain⟨JB,_⟩:=GR IS e1;generalize hv:a.eval x=v at r1 ex;cases r1 with
    |via q1 q2 q3 _=>
     obtain⟨⟨f,p1,p2⟩,p3⟩:=q3 hE;rcases Sh p1 e3 with⟨_,_,_,hm⟩|⟨b9,off9,len9,cap9,rfl,hm⟩
     ·omega
     ·refine AB.pure h (v:= .pointer (some ⟨b9,off9+kv.toNat*P.cellsOf el+0,none⟩)) ?_ (.vptr q1 q2 (fun _=>⟨b9,off9,len9,cap9,kk,kv,⟨f,p1,p2⟩,p3,e1,e2,by omega,e5,rfl⟩) .nil) rfl;rw [ex,JB,VK hu hz e2 (by omega)];simp
   ·cases he
  ·cases he
 ·rename_i k hu;have TN:=gN hu;obtain⟨fk,IS,_⟩: ∃f,Rd c.w [a.eval i] [k.den c.ρ] f∧ ∀b∈f,c.ok b:=by
   generalize a.eval i=v at r2;cases r2 with
   |e h1 h2 _=>exact⟨_,h1,h2⟩
  split at he
  ·rename_i y;simp at he;subst he;obtain⟨kk,kv,s,e1,e2,e3,e4⟩:=BY hc;obtain⟨JB,_⟩:=GR IS e1;generalize hv:a.eval x=v at r1;cases r1 with
   |e q1 q2 _=>
    obtain⟨bs,rfl,rfl,hle⟩:=SL q1 e2;have An:kv.toNat<bs.data.toList.length:=by omega
    have fZ:kv.toNat<bs.size:=by simpa using An
    refine AB.pure h (v:= .int .u8 (bs[kv.toNat]).toNat) ?_ (.c7 ?_) rfl
    ·simp [execOp,TN,Instr.index,hv,JB,asIntOf,run_underlying hu,e3,fZ]
    ·simp only [E.den,e1,e2,AV.sidx];have:bs.data.toList[kv.toNat]?=some (bs[kv.toNat]):=by
      rw [List.getElem?_eq_getElem An];simp [ByteArray.getElem_eq_getElem_data]
     rw [this];refine .int ?_ .nil;rw [Px];have:=(bs[kv.toNat]).toNat_lt;simp [IntKind.min,IntKind.max,IntKind.signed,IntKind.bits];omega
  ·cases he
 ·cases he
theorem zuz (h:Br P c n nx sl hp a sl0 hp0 o gs) {t:TypeId} {x i:Operand} (ho:o.op= .indexAddr t x i) (My:P.underlying t≠some .string) (he:BF P sg sl0 hp0 nv nx gs o=some e) (hc: ∀q∈e.bt,Cn.den c.ρ q):AB P o c n nx sl hp gs a e:=by
 simp only [BF,ho,Aw]at he;obtain⟨s1,BI,s2,A4,he⟩:=he;split at he
 ·cases he
 exact zv8 h (.inl ho) BI A4 (fun _=>ho) (fun hh=>absurd hh My) he hc
theorem zyd (h:Br P c n nx sl hp a sl0 hp0 o gs) {t:TypeId} {x i:Operand} (ho:o.op= .index t x i) (My:P.underlying t=some .string) (he:BF P sg sl0 hp0 nv nx gs o=some e) (hc: ∀q∈e.bt,Cn.den c.ρ q):AB P o c n nx sl hp gs a e:=by
 simp only [BF,ho,Aw]at he;obtain⟨s1,BI,s2,A4,he⟩:=he;split at he
 ·exact zv8 h (.inr ho) BI A4 (fun⟨el,hh⟩=>by rw [My]at hh;cases hh) (fun _=>ho) he hc
 ·cases he
theorem zyi (h:Br P c n nx sl hp a sl0 hp0 o gs) {x:Operand} {i:Nat} (ho:o.op= .extract x i) (he:BF P sg sl0 hp0 nv nx gs o=some e) (hc: ∀q∈e.bt,Cn.den c.ρ q):AB P o c n nx sl hp gs a e:=by
 have hm:x∈o.op.operands:=by simp [ho,Op.operands]
 simp only [BF,ho,Aw]at he;obtain⟨s,hs,he⟩:=he;have hr:=h.c6 hs hm;generalize hv:a.eval x=v at hr;have ex: ∀(as_:List Value) u,v= .tuple as_.toArray→as_[i]?=some u→(execOp a.eval o).run P c.w= .ok (.value u) c.w:=fun as_ u iH hu=>by simp [execOp,ho,Instr.extract,hv,iH,hu]
 split at he
 ·rename_i vs;obtain⟨s2,A4,rfl⟩:=Av.1 he;cases hr with
  |tup r1 r9=>obtain⟨u,hu,r⟩:=r1.get A4;exact AB.pure h (ex _ u rfl hu) r rfl
 ·rename_i y;simp at he;subst he;cases hr with
  |e q1 q2 _=>
   have hd:(y.den c.ρ).proj i≠ .undef:=BY hc;cases hy:y.den c.ρ<;>simp only [hy,AV.proj,ne_eq,not_true_eq_false]at hd;rename_i cs;obtain⟨as_,rfl,r1⟩:=zJI q1 hy;cases Tl:cs[i]? with
   |none=>simp [Tl]at hd
   |some z=>obtain⟨u,g,hu,hg,Dz⟩:=r1.at Tl;exact AB.pure h (ex as_ u rfl hu) (.e (f:=g) (by simpa [E.den,hy,AV.proj,Tl]using Dz) (fun b hb=>q2 b (hg b hb)) .nil) rfl
 ·cases he
theorem zFT (h:Br P c n nx sl hp a sl0 hp0 o gs) {x:Operand} {t:TypeId} (ho:o.op= .unOp .not t x) (he:BF P sg sl0 hp0 nv nx gs o=some e) (hc: ∀q∈e.bt,Cn.den c.ρ q):AB P o c n nx sl hp gs a e:=by
 have hm:x∈o.op.operands:=by simp [ho,Op.operands]
 simp only [BF,ho,Aw,Av]at he;obtain⟨s,hs,y,hy,he⟩:=he;obtain⟨f,q1,_⟩:=HY (h.c6 hs hm) hy;split at he
 ·subst he;have hv:=IA q1 rfl;rename_i b;exact AB.pure h (v:= .bool (!b)) (by simp [execOp,ho,hv,Op.unary]) (.c7 (.bool .nil)) rfl
 ·subst he;have hd:(y.den c.ρ).fm≠ .undef:=BY hc;cases Bv:y.den c.ρ<;>simp only [Bv,AV.fm,ne_eq,not_true_eq_false]at hd;have hv:=IA q1 Bv;rename_i b;exact AB.pure h (v:= .bool (!b)) (by simp [execOp,ho,hv,Op.unary]) (.c7 (by simp only [E.den,Bv,AV.fm];exact .bool .nil)) rfl
theorem zGE (h:Br P c n nx sl hp a sl0 hp0 o gs) {x:Operand} {t:TypeId} (ho:o.op= .unOp .neg t x) (he:BF P sg sl0 hp0 nv nx gs o=some e) (hc: ∀q∈e.bt,Cn.den c.ρ q):AB P o c n nx sl hp gs a e:=by
 have hm:x∈o.op.operands:=by simp [ho,Op.operands]
 simp only [BF,ho,Aw,Av]at he;obtain⟨s,hs,y,hy,rfl⟩:=he;obtain⟨f,q1,_⟩:=HY (h.c6 hs hm) hy;have hd:(y.den c.ρ).jt≠ .undef:=BY hc;cases Bv:y.den c.ρ<;>simp only [Bv,AV.jt,ne_eq,not_true_eq_false]at hd;rename_i k m;obtain⟨hv,_⟩:=GR q1 Bv;exact AB.pure h (v:= .int k (k.wrap (0-m))) (by simp [execOp,ho,hv,Op.unary,Op.intArith]) (.c7 (by simp only [E.den,Bv,AV.jt];exact .int (rV _ _) .nil)) rfl
theorem w7 {L:List Operand} {sl0:Nat→SV} {gs:Gd} (h: ∀x s,BN sl0 gs x=some s→x∈L→SR c [s] [a.eval x]): ∀{xs:List Operand} {ss:List SV},(∀x∈xs,x∈L)→xs.mapM (BN sl0 gs)=some ss→SR c ss (xs.map a.eval)
 | [],ss,_,hm=>by simp at hm;subst hm;exact .nil
 |x::xs,ss,hL,hm=>by rw [List.mapM_cons]at hm;simp only [Option.bind_eq_bind,Aw]at hm;obtain⟨s,hs,ss',Gm,hm⟩:=hm;simp at hm;subst hm;exact(h x s hs (hL x (by simp))).app (w7 h (fun y hy=>hL y (by simp [hy])) Gm)
theorem zxt (h:Br P c n nx sl hp a sl0 hp0 o gs) {f:FuncId} {fst caps:Array Operand} (ho:o.op= .makeFunc (.func f) fst caps) (he:BF P sg sl0 hp0 nv nx gs o=some e):AB P o c n nx sl hp gs a e:=by
 simp only [BF,ho]at he;split at he
 ·rename_i hf;obtain⟨ss,Gm,rfl⟩:=Av.1 he;have hf:fst= #[]:=by simpa using hf
  have r:=w7 (a:=a) (c:=c) (L:=caps.toList) (fun x s hx hm=>h.c6 hx (by simp only [ho,Op.operands,Array.mem_append];exact .inr (Array.mem_toList_iff.1 hm))) (fun x hx=>hx) Gm;refine AB.pure h (v:= .func (.func f) #[] (caps.toList.map a.eval).toArray) ?_ (.fn (by rw [Bz.bb];exact r) .nil) rfl;simp [execOp,ho,Instr.makeFunc,hf];apply Array.ext';simp
 ·cases he
end
section
variable {P:Program} {c:Cx} {n nx:Nat} {sl sl0:Nat→SV} {hp hp0:Nat→Option Aj} {a:Act} {o:Oper} {gs:Gd} {e:A5} {sg:BT} {nv:Nat}
theorem Br.ku (h:Br P c n nx sl hp a sl0 hp0 o gs) {x:Operand} {s:SV} (hs:BN sl0 gs x=some s) (hm:x∈o.op.operands) {y:E} (hy:Bq hp0 gs A1 s=some y):
  ∃f,Rd c.w [a.eval x] [y.den c.ρ] f∧ ∀b∈f,c.eu (BR hp0 gs (A1+1) [s]) b:=H5 h.eh h.gs A1 hy (h.c6 hs hm) A1 (Nat.le_refl _)
theorem zFA (h:Br P c n nx sl hp a sl0 hp0 o gs) {x:Operand} {t:TypeId} {cl:Call} (ho:o.op= .call cl) (AH:cl.callee= .builtin .len) (Dq:cl.args.toList= [x]) (Ev:cl.argTypes.toList= [t]) (he:BF P sg sl0 hp0 nv nx gs o=some e) (hc: ∀q∈e.bt,Cn.den c.ρ q):AB P o c n nx sl hp gs a e:=by
 have Ay:cl.args= #[x]:=by apply Array.ext';simp [Dq]
 have Hk:cl.argTypes= #[t]:=by apply Array.ext';simp [Ev]
 have hm:x∈o.op.operands:=by simp [ho,Op.operands,Call.operands,AH,Ay]
 simp only [BF,ho,AH,Dq,Ev,Aw]at he;obtain⟨s,hs,he⟩:=he;unfold yT at he;have ex:(execOp a.eval o).run P c.w=((Builtin.len_ #[t] o.type #[a.eval x]).run P c.w).andThen fun v w=> .ok (.value v) w:=by simp [execOp,ho,resolve,AH,Ay,Hk,invoke,builtin]
 split at he
 ·rename_i el hu;obtain⟨y,hy,rfl⟩:=Av.1 he;obtain⟨f,q1,q2⟩:=h.ku hs hm hy;have hd:(y.den c.ρ).len≠ .undef:=BY hc;cases Bv:y.den c.ρ<;>simp only [Bv,AV.len,ne_eq,not_true_eq_false]at hd;rename_i xs;have hl:(y.den c.ρ).len= .int .i64 (xs.length:Int):=by rw [Bv];rfl
  have Cb:ET .i64 (xs.length:Int):=by
   rw [Px];rcases q1.kind with hh|hh|hh|hh|hh|hh|hh|hh|hh|hh
   all_goals first
    |(obtain⟨_,_,_,hh,_⟩:=hh;rw [Bv]at hh;cases hh;done)
    |(obtain⟨_,_,hh,_⟩:=hh;rw [Bv]at hh;cases hh;done)
    |skip
   ·obtain⟨_,_,_,hh,_⟩:=hh;rw [Bv]at hh;cases hh;simp [IntKind.min,IntKind.max,IntKind.signed,IntKind.bits]
   ·obtain⟨_,_,_,_,_,_,_,_,_,_,_,_,hh,_,_,_,hle,hlen,_⟩:=hh;rw [Bv]at hh;cases hh;simp [IntKind.min,IntKind.max,IntKind.signed,IntKind.bits];omega
   all_goals first
    |(obtain⟨_,_,_,hh,_⟩:=hh;rw [Bv]at hh;cases hh;done)
    |(obtain⟨_,_,_,_,_,_,_,hh,_⟩:=hh;rw [Bv]at hh;cases hh;done)
    |(obtain⟨_,_,_,_,hh,_⟩:=hh;rw [Bv]at hh;cases hh;done)
    |(obtain⟨_,hh,_⟩:=hh;rw [Bv]at hh;cases hh;done)
  refine AB.pure h (v:= .int .i64 xs.length) ?_ (.c7 (by simp only [E.den,Bv,AV.len];exact .int Cb .nil)) rfl;rcases Sh q1 hl with⟨p,q,hv,Ea⟩|⟨b,o',k,q,hv,Ea⟩
  ·rw [ex,hv,Ea];simp [Builtin.len_,run_underlying hu,goInt]
  ·rw [ex,hv,Ea];simp [Builtin.len_,run_underlying hu,goInt]
 ·rename_i hu;obtain⟨y,hy,rfl⟩:=Av.1 he;obtain⟨f,q1,q2⟩:=h.ku hs hm hy;have hd:(y.den c.ρ).slen≠ .undef:=BY hc;cases Bv:y.den c.ρ<;>simp only [Bv,AV.slen,ne_eq,not_true_eq_false]at hd;obtain⟨bs,hv,rfl,hle⟩:=SL q1 Bv;refine AB.pure h (v:= .int .i64 bs.size) ?_ (.c7 ?_) rfl
  ·rw [ex,hv];simp [Builtin.len_,run_underlying hu,goInt]
  ·simp only [E.den,Bv,AV.slen];have:(bs.data.toList.length:Int)=(bs.size:Int):=by simp
   rw [this];refine .int ?_ .nil;rw [Px];simp [IntKind.min,IntKind.max,IntKind.signed,IntKind.bits];omega
 ·cases he
theorem zye (h:Br P c n nx sl hp a sl0 hp0 o gs) {x:Operand} {src dst:TypeId} {k0 k:IntKind} (ho:o.op= .convert src dst x) (h1:P.underlying src=some (.int k0)) (h2:P.underlying dst=some (.int k)) (he:BF P sg sl0 hp0 nv nx gs o=some e) (hc: ∀q∈e.bt,Cn.den c.ρ q):AB P o c n nx sl hp gs a e:=by
 have hm:x∈o.op.operands:=by simp [ho,Op.operands]
 simp only [BF,ho,Aw]at he;obtain⟨s,hs,he⟩:=he;simp only [Wl,h1,h2,Av]at he;obtain⟨y,hy,rfl⟩:=he;obtain⟨f,q1,_⟩:=HY (h.c6 hs hm) hy;have hd:(y.den c.ρ).conv k≠ .undef:=BY hc;cases Bv:y.den c.ρ<;>simp only [Bv,AV.conv,ne_eq,not_true_eq_false]at hd;rename_i k1 m;obtain⟨hv,_⟩:=GR q1 Bv;exact AB.pure h (v:= .int k (k.wrap m)) (by simp [execOp,ho,hv,convert,run_underlying h1,run_underlying h2,Conv.intToInt]) (.c7 (by simp only [E.den,Bv,AV.conv];exact .int (rV _ _) .nil)) rfl
theorem zxX (h:Br P c n nx sl hp a sl0 hp0 o gs) {x:Operand} {src dst:TypeId} (ho:o.op= .convert src dst x) (h1:P.underlying src=some .string) (h2:P.underlying dst=some .string) (he:BF P sg sl0 hp0 nv nx gs o=some e) (hc: ∀q∈e.bt,Cn.den c.ρ q):AB P o c n nx sl hp gs a e:=by
 have hm:x∈o.op.operands:=by simp [ho,Op.operands]
 simp only [BF,ho,Aw]at he;obtain⟨s,hs,he⟩:=he;simp only [Wl,h1,h2,Av]at he;obtain⟨y,hy,rfl⟩:=he;obtain⟨f,q1,_⟩:=HY (h.c6 hs hm) hy;have hd:(y.den c.ρ).slen≠ .undef:=BY hc;cases hl:y.den c.ρ<;>simp only [hl,AV.slen,ne_eq,not_true_eq_false]at hd;obtain⟨bs,hv,hle,fX⟩:=SL q1 hl;exact AB.pure h (v:= .string bs) (by simp [execOp,ho,hv,convert,run_underlying h1,run_underlying h2]) (.c7 (by rw [hl,hle];exact Rd.str fX .nil)) rfl
theorem yD {w:World}: ∀{ys:List AV} {s:List UInt8} {cs:List Value} {f:List Nat},MP ys=some s→Rd w cs (AP ys) f→ ∃ns:List Int,cs=ns.map (Value.int .u8)∧s=ns.map (fun n=>UInt8.ofNat n.toNat)∧ns.length=ys.length
 | [],s,cs,f,h,hr=>by have:AP ([]:List AV)= []:=rfl;rw [this]at hr;cases hr;cases h;exact⟨[],rfl,rfl,rfl⟩
 |y::ys,s,cs,f,h,hr=>by
  unfold MP at h;split at h
  ·rename_i h0;cases h0
  ·rename_i n xs he;cases he;obtain⟨s',h1,rfl⟩:=Av.1 h;have CT:Rd w cs (.int .u8 n::AP ys) f:=by simpa [AP,AV.cells]using hr
   cases CT with
   |int hk C5=>obtain⟨ns,rfl,rfl,hl⟩:=yD h1 C5;exact⟨n::ns,rfl,rfl,by simp [hl]⟩
  ·cases h
theorem zxo (h:Br P c n nx sl hp a sl0 hp0 o gs) {x:Operand} {src dst el:TypeId} (ho:o.op= .convert src dst x) (h1:P.underlying src=some (.slice el)) (h2:P.underlying dst=some .string) (he:BF P sg sl0 hp0 nv nx gs o=some e) (hc: ∀q∈e.bt,Cn.den c.ρ q):AB P o c n nx sl hp gs a e:=by
 have hm:x∈o.op.operands:=by simp [ho,Op.operands]
 simp only [BF,ho,Aw]at he;obtain⟨s,hs,he⟩:=he;simp only [Wl,h1,h2]at he;split at he
 ·rename_i hu;obtain⟨y,hy,rfl⟩:=Av.1 he;obtain⟨f,q1,q2⟩:=h.ku hs hm hy;have hd:(y.den c.ρ).text≠ .undef:=BY hc;cases Bv:y.den c.ρ<;>simp only [Bv,AV.text,ne_eq,not_true_eq_false]at hd;rename_i xs;split at hd
  ·rename_i t ht;split at hd
   ·rename_i hle;have B5:(E.text y).den c.ρ= .str t:=by
     simp only [E.den,Bv,AV.text,ht];rw [if_pos hle]
    have fin: ∀ns:List Int,t=ns.map (fun n=>UInt8.ofNat n.toNat)→ns.length=xs.length→(convert src dst (a.eval x)).run P c.w= .ok (.string (ns.foldl (fun r n=>r.push (UInt8.ofNat n.toNat)) ByteArray.empty)) c.w→AB P o c n nx sl hp gs a {bt:= [.dfd (.text y)],val:= .e (.text y)}:=fun ns e1 e2 e3=>by
     have e4:(ns.foldl (fun r n=>r.push (UInt8.ofNat n.toNat)) ByteArray.empty)=⟨t.toArray⟩:=by
      rw [foldl_push_bytes,e1];simp [ByteArray.empty,ByteArray.emptyWithCapacity]
      try rfl
     rw [e4]at e3;refine AB.pure h (v:= .string ⟨t.toArray⟩) (by simp [execOp,ho,e3]) (.c7 ?_) rfl;rw [B5];have B7:(ByteArray.mk t.toArray).size≤9223372036854775807:=by simp only [ByteArray.size,List.size_toArray];rw [e1,List.length_map];omega
     have:=Rd.str (w:=c.w) (s:=⟨t.toArray⟩) B7 .nil;simpa using this
    rw [Bv]at q1;rcases q1.kind with hh|hh|hh|hh|hh|hh|hh|hh|hh|hh
    all_goals first
     |(obtain⟨_,_,_,hh,_⟩:=hh;cases hh;done)
     |(obtain⟨_,_,hh,_⟩:=hh;cases hh;done)
     |skip
    ·obtain⟨p,q,hv,hx,_⟩:=hh;cases hx;cases ht;refine fin [] rfl rfl ?_;rw [hv];cases p with
     |none=>rw [run_convert_bytes_nil c.w src el h1 hu _ _ dst h2];rfl
     |some ad=>rw [run_convert_bytes_string c.w src dst el _ 0 q h1 hu h2,run_bytesToString c.w ad 0 q [] (by simp [loadCells,loadCellsFrom])]
    ·obtain⟨b,o',k,q,ys,cs,C,t',fz,sz,f1,hv,hx,_,hb,_,hle',hlen,_,_,Bi,hr⟩:=hh;cases hx;obtain⟨ns,rfl,e1,e2⟩:=yD ht hr.2;refine fin ns e1 e2 ?_;have hl:ns.length=k:=by omega
     have Ct: ∀i,i<k→c.w.cell? ⟨b,o'+i,none⟩=some (.int .u8 (ns.getD i 0)):=fun i hi=>by
      have Bt:i<ns.length:=by omega
      have:=Bi i (.int .u8 ns[i]) (by simp [Bt]);rw [EY hb,this];simp [Bt]
     have:=run_convert_bytes_arg c.w src el h1 hu b o' k q ns hl Ct dst h2;rw [hv,this];congr 2;rw [foldl_push_bytes];simp [strOfNums,ByteArray.empty,ByteArray.emptyWithCapacity]
     try rfl
    all_goals first
     |(obtain⟨_,_,_,hh,_⟩:=hh;cases hh;done)
     |(obtain⟨_,_,_,_,_,_,_,hh,_⟩:=hh;cases hh;done)
     |(obtain⟨_,_,_,_,hh,_⟩:=hh;cases hh;done)
     |(obtain⟨_,hh,_⟩:=hh;cases hh;done)
   ·exact absurd rfl hd
  ·exact absurd rfl hd
 ·cases he
theorem zyP {ρ:List AV} {x:E} {b:Bool} {gs:Gd} (h1:x.den ρ= .bool b) (h2:Bg ρ gs):Bg ρ ((x,b)::gs):=by
 intro g hg;rcases Ag.1 hg with rfl|hg
 ·exact h1
 ·exact h2 g hg
theorem zCJ (h:Br P c n nx sl hp a sl0 hp0 o gs) {x y z:Operand} (ho:o.op= .pick x y z) (he:BF P sg sl0 hp0 nv nx gs o=some e) (hc: ∀q∈e.bt,Cn.den c.ρ q):AB P o c n nx sl hp gs a e:=by
 have Eb:x∈o.op.operands:=by simp [ho,Op.operands]
 have DP:y∈o.op.operands:=by simp [ho,Op.operands]
 have P4:z∈o.op.operands:=by simp [ho,Op.operands]
 simp only [BF,ho,Aw]at he;obtain⟨s,hs,he⟩:=he;have hr:=h.c6 hs Eb;split at he
 ·rename_i q;have ex: ∀b,a.eval x= .bool b→(execOp a.eval o).run P c.w= .ok (.value (if b then a.eval y else a.eval z)) c.w:=fun b hb=>by
   simp [execOp,ho,hb,asBool]
  obtain⟨f,q1⟩: ∃f,Rd c.w [a.eval x] [q.den c.ρ] f:=by
   generalize a.eval x=v at hr;cases hr with
   |e h1 _ _=>exact⟨_,h1⟩
  unfold xO at he;split at he
  ·obtain⟨s',Bb,rfl⟩:=Av.1 he;exact AB.pure h (v:=a.eval y) (ex true (IA q1 rfl)) (h.c6 Bb DP) rfl
  ·obtain⟨s',Bb,rfl⟩:=Av.1 he;exact AB.pure h (v:=a.eval z) (ex false (IA q1 rfl)) (h.c6 Bb P4) rfl
  ·split at he
   ·rename_i y' z' hy hz;simp at he;subst he;simp only [Aw]at hy hz;obtain⟨sy,hsy,hy⟩:=hy;obtain⟨sz,B7,hz⟩:=hz;have hd:(q.den c.ρ).fm≠ .undef:=BY hc;cases hq:q.den c.ρ<;>simp only [hq,AV.fm,ne_eq,not_true_eq_false]at hd;rename_i b;cases b with
    |true=>have r:=aI (a:=a) hsy (fun t ht=>by subst ht;rw [h.sl t DP];exact h.rel.c8 t) (zyP hq h.gs);obtain⟨f',g1,g2⟩:=HY r hy;exact AB.pure h (v:=a.eval y) (ex true (IA q1 hq)) (.e (f:=f') (by simpa [E.den,hq,AV.cond]using g1) g2 .nil) rfl
    |false=>have r:=aI (a:=a) B7 (fun t ht=>by subst ht;rw [h.sl t P4];exact h.rel.c8 t) (zyP hq h.gs);obtain⟨f',g1,g2⟩:=HY r hz;exact AB.pure h (v:=a.eval z) (ex false (IA q1 hq)) (.e (f:=f') (by simpa [E.den,hq,AV.cond]using g1) g2 .nil) rfl
   ·cases he
 ·cases he
end
section
variable {P:Program} {c:Cx} {n nx:Nat} {sl sl0:Nat→SV} {hp hp0:Nat→Option Aj} {a:Act} {o:Oper} {gs:Gd} {e:A5} {sg:BT} {nv:Nat}
theorem oY {w:World} {v:Value} {x:AV} {f:List Nat} (h:Rd w [v] [x] f) (h1: ∀cs,x≠ .agg cs) (h2: ∀cs,x≠ .tup cs):v.oneCell'=true:=by
 cases h<;>first
  |rfl
  |exact absurd rfl (h1 _)
  |exact absurd rfl (h2 _)
theorem one_cells {v:Value} (h:v.oneCell'=true):v.cells= #[v]:=by cases v<;>first|rfl|(simp [Value.oneCell']at h)
theorem aV {t:TypeId} {s:SV} {v:Value} {cs:List SV} {ck:List Cn} (h:SR c [s] [v]) (hc:SC P t s=some (cs,ck)) (hk: ∀q∈ck,q.den c.ρ):
  SR c cs v.cells.toList∧(∀u∈v.cells.toList,u.oneCell'=true):=by
 unfold SC at hc;split at hc
 ·split at hc
  ·simp at hc;obtain⟨rfl,rfl⟩:=hc;cases h with
   |agg h1 h2 _=>exact⟨by simpa [Value.cells]using h2,by simpa [Value.cells]using h1⟩
  ·rename_i x;simp at hc;obtain⟨rfl,rfl⟩:=hc;cases h with
   |e h1 h2 _=>
    obtain⟨as_,has,hl⟩:=BY hk;obtain⟨vs,rfl,h3,h4⟩:=Kb h1 has;refine⟨?_,by simpa [Value.cells]using h3⟩;have hlen:=h4.len;have key: ∀k,k≤as_.length→SR c ((List.range k).map fun j=>SV.e (.fld x j 1 false)) (vs.take k):=by
     intro k
     induction k with
     |zero=>intro _;simpa using SR.nil
     |succ k ih=>
      intro hk;have BV:k<as_.length:=by omega
      obtain⟨u,g,hu,hg,hr⟩:=h4.at (show as_[k]?=some as_[k] by simp [BV])
      rw [List.range_succ,List.map_append,List.take_succ_eq_append_getElem (by omega)];refine(ih (by omega)).app ?_;have FI:vs[k]'(by omega)=u:=by simpa [show k<vs.length by omega]using hu
      rw [FI];exact .e (f:=g) (by simpa [E.den,AV.fld,has,AV.cells,BV]using hr) (fun b hb=>h2 b (hg b hb)) .nil
    have:=key as_.length (Nat.le_refl _);rw [←hlen,List.take_length,hlen,hl]at this;simpa [Value.cells]using this
  ·cases hc
 ·split at hc
  ·rename_i x;simp at hc;obtain⟨rfl,rfl⟩:=hc;cases h with
   |e h1 h2 _=>
    have hq:(∀cs,x.den c.ρ≠ .agg cs)∧ ∀cs,x.den c.ρ≠ .tup cs:=by
     cases x<;>first
      |exact(BY hk:Cn.den c.ρ (.cells _ 1))
      |exact⟨by simp [E.den],by simp [E.den]⟩
    have IM:=oY h1 hq.1 hq.2;rw [one_cells IM];exact⟨.e h1 h2 .nil,by simpa using IM⟩
  ·cases hc
  ·cases hc
  ·cases hc
  ·cases hc
  ·cases hc
  ·cases hc
  ·cases hc
  ·cases hc
  ·simp at hc;obtain⟨rfl,rfl⟩:=hc;have IM:v.oneCell'=true:=by
    cases h<;>first|rfl|(rename_i hh _ _ _ _ _;exact absurd rfl (hh _))|skip
    all_goals first
     |rfl
     |exact(show∀(i:Nat),SV.lent _=SV.lent i→False from by assumption) _ rfl|>.elim
     |exact(show∀(t g n:Nat) (p:NN) (x:E),SV.via _ _ _ _ _=SV.via t g n p x→False from by assumption) _ _ _ _ _ rfl|>.elim
     |exact(show∀(t g n:Nat) (p:NN) (x i:E) (sz o:Nat),SV.vptr _ _ _ _ _ _ _ _=SV.vptr t g n p x i sz o→False from by assumption) _ _ _ _ _ _ _ _ rfl|>.elim
     |(exfalso;simp_all;done)
   rw [one_cells IM];exact⟨h,by simpa using IM⟩
theorem zJL (h:Br P c n nx sl hp a sl0 hp0 o gs) (ob:Obj) (hv:Value):MQ c (c.new nx ob hv []) nx:=
 ⟨rfl,rfl,rfl,rfl,fun t ht=>ht.imp id (fun hh=>by subst hh;exact⟨Nat.le_refl _,by simp [BH]⟩)⟩
theorem Ps (h:Br P c n nx sl hp a sl0 hp0 o gs): ¬c.U nx:=h.new nx (Nat.le_refl _) (by omega)
theorem AB.box (h:Br P c n nx sl hp a sl0 hp0 o gs) {ty:TypeId} {g:Bool} {cs:List SV} {v:Value} {ck:List Cn} (hr:(execOp a.eval o).run P c.w= .ok (.value (.pointer (some ⟨c.w.heap.size,0,none⟩))) (c.w.alloc (.cells v.cells ty)))
  (hs:SR c cs v.cells.toList) (h1: ∀u∈v.cells.toList,u.oneCell'=true):AB P o c n nx sl hp gs a {bt:=ck,val:= .cm nx 0,bq:= [(nx,CP gs (.box ty g cs))]}:=by
 intro next Q hk
 unfold Oper.wp;rw [hr,Oper.upon_value];have hU:=Ps h;have keep:DJ c (c.new nx (.cells v.cells ty) (.pointer (some ⟨c.w.heap.size,0,none⟩)) []):=Cx.im (fun g hg=>hU (h.rel.b8 _ _ hg));have hH:(c.new nx (.cells v.cells ty) (.pointer (some ⟨c.w.heap.size,0,none⟩)) []).H nx 0= .pointer (some ⟨c.w.heap.size,0,none⟩):=by simp [Cx.new]
 have hK:(c.new nx (.cells v.cells ty) (.pointer (some ⟨c.w.heap.size,0,none⟩)) []).K nx 0:= .inr ⟨rfl,rfl⟩;have Ar:=h.rel.new hU (.cells v.cells ty) (.pointer (some ⟨c.w.heap.size,0,none⟩)) (.box ty g cs) gs h.gs (by intros;simp)
  ⟨c.w.heap.size,v.cells,hK,hH,by simp [Cx.new],by simp [Cx.new],heap_alloc_new _ _,h1,hs.keep keep⟩
 exact hk _ _ (zJL h _ _) (Ar.put ((SR.cm hK hH .nil).mkGd gs h.gs) o.dst)
theorem zBD (h:Br P c n nx sl hp a sl0 hp0 o gs) {t:TypeId} (ho:o.op= .alloc t) (he:BF P sg sl0 hp0 nv nx gs o=some e) (hc: ∀q∈e.bt,Cn.den c.ρ q):AB P o c n nx sl hp gs a e:=by
 simp only [BF,ho,Aw]at he;obtain⟨z,⟨i,hi,hz⟩,s,hs,⟨cs,ck⟩,Bi,he⟩:=he;split at he
 ·cases he
 ·split at he
  ·cases he
  ·rename_i Js;have Js:ck= []:=by simpa using Js
   simp at he;subst he;have Bb:E1 z=some s:=by simpa [zC,hi,hz]using hs
   obtain⟨q1,q2⟩:=aV (bI (c:=c) Bb) Bi (by simp [Js]);refine AB.box h (v:=z) ?_ q1 q2;simp [execOp,ho,Instr.alloc,zeroValue,typeInfo,hi,hz,newVar,newRow]
theorem zGC (h:Br P c n nx sl hp a sl0 hp0 o gs) {t:TypeId} {x:Operand} (ho:o.op= .box t x) (he:BF P sg sl0 hp0 nv nx gs o=some e) (hc: ∀q∈e.bt,Cn.den c.ρ q):AB P o c n nx sl hp gs a e:=by
 have hm:x∈o.op.operands:=by simp [ho,Op.operands]
 simp only [BF,ho,Aw]at he;obtain⟨s,hs,⟨cs,ck⟩,Bi,he⟩:=he;split at he
 ·cases he
 ·simp at he;subst he;obtain⟨q1,q2⟩:=aV (h.c6 hs hm) Bi hc;refine AB.box h (v:=a.eval x) ?_ q1 q2;simp [execOp,ho,Instr.box,newVar,newRow]
end
section
variable {P:Program} {c:Cx} {n nx:Nat} {sl sl0:Nat→SV} {hp hp0:Nat→Option Aj} {a:Act} {o:Oper} {gs:Gd} {e:A5} {sg:BT} {nv:Nat}
def setVs {α:Type} (cs:List α) (o:Nat) (vs:List α):List α:=cs.take o++vs++cs.drop (o+vs.length)
theorem R7 {α:Type} (cs vs:List α) (o:Nat) (h:o+vs.length≤cs.length) (i:Nat):(setVs cs o vs)[i]?=if o≤i∧i<o+vs.length then vs[i-o]? else cs[i]?:=by
 unfold setVs;have ht:(cs.take o).length=o:=by rw [List.length_take];omega
 rw [List.append_assoc];by_cases h1:i<o
 ·rw [if_neg (by omega),List.getElem?_append_left (by omega),List.getElem?_take,if_pos h1]
 ·rw [List.getElem?_append_right (by omega),ht];by_cases h2:i<o+vs.length
  ·rw [if_pos (by omega),List.getElem?_append_left (by omega)]
  ·rw [if_neg (by omega),List.getElem?_append_right (by omega),List.getElem?_drop];congr 1;omega
theorem R4 {α:Type} (cs vs:List α) (o:Nat) (h:o+vs.length≤cs.length):(setVs cs o vs).length=cs.length:=by simp [setVs];omega
theorem SR.setVs {cs vs:List SV} {C V:List Value} {k:Nat} (h:SR c cs C) (hv:SR c vs V):SR c (Qg cs k vs) (Go.Proofs.YtfdfahjmonlbiaaGreatDoor.setVs C k V):=by unfold Qg Go.Proofs.YtfdfahjmonlbiaaGreatDoor.setVs;have hl:=hv.len;rw [←hl];exact((h.split k).1.app hv).app (h.split _).2
theorem wI (vs:List Value): ∀(k off:Nat) (C:Array Value),off+k+vs.length≤C.size→
  ((vs.zipIdx k).foldl (fun cs (p:Value × Nat)=>cs.setIfInBounds (off+p.2) p.1) C).toList=setVs C.toList (off+k) vs:=by
 induction vs with
 |nil=>intro k off C _;simp [setVs]
 |cons v vs ih=>
  intro k off C h;simp only [Ap]at h;simp only [List.zipIdx_cons,List.foldl_cons];rw [ih (k+1) off _ (by simp;omega)];apply List.ext_getElem?;intro i;rw [R7 _ _ _ (by simp;omega),R7 _ _ _ (by simp;omega)];simp only [Array.toList_setIfInBounds,List.getElem?_set,Ap,Array.length_toList];by_cases h1:i=off+k
  ·subst h1;rw [if_neg (by omega),if_pos rfl,if_pos (by omega),if_pos (by omega)];simp
  ·by_cases h2:off+(k+1)≤i∧i<off+(k+1)+vs.length
   ·rw [if_pos h2,if_pos (by omega),show i-(off+k)=(i-(off+(k+1)))+1 by omega,List.getElem?_cons_succ]
   ·rw [if_neg h2,if_neg (by omega),if_neg (by omega)]
theorem oL {b off:Nat} {t:TypeId}: ∀(vs:List Value) (i:Nat) (w:World) (C:Array Value),w.heap[b]?=some (.cells C t (0,0))→off+i+vs.length≤C.size→(∀v∈vs,v.oneCell'=true)→
  (storeCells ⟨b,off,none⟩ vs i).run P w= .ok () (C7 w b (off+i) vs)
 | [],i,w,C,_,_,_=>by simp [storeCells,C7]
 |v::vs,i,w,C,hb,hl,h1=>by
  simp only [Ap]at hl;have hi:off+i<C.size:=by omega
  have Ct:w.cell? ⟨b,off+i,none⟩=some C[off+i]:=by simp [World.cell?,hb,hi]
  have fB:w.frozen? ⟨b,off+i,none⟩=false:=by simp [World.frozen?,hb]
  have A0:(store ((⟨b,off,none⟩:Addr).add i) v).run P w= .ok () (w.setCell ⟨b,off+i,none⟩ v):=by rw [Addr.add_lit,run_store P w _ v _ (h1 v (by simp)),Ct];simp [fB]
  have h2:=heap_setCell_same w b (off+i) C t v hb;have ih:=oL (off:=off) vs (i+1) (w.setCell ⟨b,off+i,none⟩ v) _ h2 (by simp;omega) (fun x hx=>h1 x (by simp [hx]));simp only [storeCells,Sem.run_bind,A0,Result.andThen_ok,ih,C7];rw [Nat.add_assoc]
theorem Zr {w:World} {b off:Nat} {t:TypeId} {vs:List Value} {C:Array Value} (hb:w.heap[b]?=some (.cells C t (0,0))) (hl:off+vs.length≤C.size):
  Mod [b] w (C7 w b off vs)∧(C7 w b off vs).heap[b]?=some (.cells (setVs C.toList off vs).toArray t (0,0))∧(C7 w b off vs).heap.size=w.heap.size:=by
 obtain⟨hm,C',h1,h2,h3,h4⟩:=oC vs w b off C t hb hl;refine⟨hm, ?_, ?_⟩
 ·rw [h1];congr 2;apply Array.ext';apply List.ext_getElem?;intro i;rw [R7 _ _ _ (by simpa using hl)];by_cases hi:off≤i∧i<off+vs.length
  ·rw [if_pos hi];have An:i-off<vs.length:=by omega
   have:=h3 (i-off) vs[i-off] (by simp [An]);rw [show off+(i-off)=i by omega]at this;rw [Array.getElem?_toList,this];simp [An]
  ·rw [if_neg hi,Array.getElem?_toList,Array.getElem?_toList];exact h4 i (by omega)
 ·clear hm h1 h2 h3 h4 hl
  induction vs generalizing w off C with
  |nil=>rfl
  |cons v vs ih=>simp only [C7];rw [ih (heap_setCell_same w b off C t v hb)];simp [World.setCell]
theorem oX {w:World} {b off:Nat} {t ty:TypeId} {v:Value} {C:Array Value} (hb:w.heap[b]?=some (.cells C ty (0,0))) (ht:Dv P t=true) (hs:v.cells.size=P.cellsOf t) (hl:off+v.cells.size≤C.size) (h1: ∀u∈v.cells.toList,u.oneCell'=true):
  (Instr.storeAt t (.pointer (some ⟨b,off,none⟩)) v).run P w= .ok () (C7 w b off v.cells.toList):=by
 have:=oL (P:=P) (off:=off) v.cells.toList 0 w C hb (by simpa using hl) h1;simp only [Nat.add_zero]at this;simp [Instr.storeAt,Instr.sureAddr,storeVar,Ph ht,hs,this]
def Cx.wr (c:Cx) (w':World) (t:Nat):Cx:={c with w:=w',E:=fun u=>if u=t then c.E u+1 else c.E u}
theorem Cx.jg {c:Cx} {w':World} {t b:Nat} (gw:GW c) (Cw:b∈(c.G t).top) (hm:Mod [b] c.w w'):DJ c (c.wr w' t):=by
 have BC:b∈(c.G t).own:=by simp [GI.own,Cw]
 refine⟨rfl,rfl,fun q _ hq=>hq,fun q hq Az=>hm.block q hq ?_,fun u g hu=>⟨hu,rfl⟩,fun u g hu=> ?_⟩
 ·simp only [List.mem_singleton];rintro rfl;exact Az.1 ⟨t,Cw⟩
 ·by_cases GH:u=t
  ·have e1:(c.wr w' t).E u=c.E u+1:=by simp only [Cx.wr,if_pos GH]
   exact⟨by omega,fun h=>by omega⟩
  ·have e1:(c.wr w' t).E u=c.E u:=by simp only [Cx.wr,if_neg GH]
   rw [e1];refine⟨Nat.le_refl _,fun _=>⟨rfl,fun q hq Fb=>hm.block q Fb ?_⟩⟩;simp only [List.mem_singleton];rintro rfl;exact gw.ct t u (Ne.symm GH) q BC (by simp [GI.own,hq])
theorem Rel.write (h:Rel c n sl hp a) {t:Nat} {e0:Aj} {b:Nat} {w':World} (AS:Cs c.ρ (hp t) e0) (Cw:b∈(c.G t).top) (hm:Mod [b] c.w w') (B7:w'.heap.size=c.w.heap.size) (e1:Aj) (Bl: ∀hs f,e1≠ .gd hs f)
  (he:Dh (c.wr w' t) t e1):Rel (c.wr w' t) n sl (Ba hp [(t,e1)]) a∧DJ c (c.wr w' t):=by
 have BC:b∈(c.G t).own:=by simp [GI.own,Cw]
 have BU:DJ c (c.wr w' t):=Cx.jg h.gw Cw hm;have DQ: ∀u,Ba hp [(t,e1)] u=if u=t then some e1 else hp u:=fun u=>rfl;refine⟨h.change (fun u=>u=t) BU ⟨hm.os.trans h.base.os,hm.tape.trans h.base.tape,hm.output.trans h.base.output,Nat.le_trans h.base.size hm.size,h.base.pins,fun q hq Ij=> ?_,h.base.pk,h.base.lo⟩
  (fun u hu=>⟨by rw [DQ,if_neg hu],rfl,by simp [Cx.wr,hu],fun g hg=>hg⟩) (fun u hu q hq=>hm.block q (h.gw.inb u q (by simp [GI.own,hq])) ?_) (fun u hu=> ?_) ⟨h.gw.nodup,h.gw.ct,h.gw.allow,fun u q hq=> ?_⟩ h.b8 (fun u f hf=> ?_),BU⟩
 ·refine(hm.block q (Nat.lt_of_lt_of_le hq h.base.size) ?_).trans (h.base.block q hq Ij);simp only [List.mem_singleton];rintro rfl;rcases h.gw.allow t q BC with hh|hh
  ·exact absurd hh (Nat.not_le.2 hq)
  ·exact Ij hh
 ·simp only [List.mem_singleton];rintro rfl;exact h.gw.ct t u (Ne.symm hu) q BC (by simp [GI.own,hq])
 ·subst hu;rw [DQ,if_pos rfl];refine⟨fun e' hr=> ?_,fun hn=> ?_⟩
  ·cases e1<;>first
    |(simp only [Cs]at hr;subst hr;exact he)
    |exact absurd rfl (Bl _ _)
  ·cases e1<;>first
    |exact absurd rfl (Bl _ _)
    |exact absurd rfl (hn _)
 ·show q<w'.heap.size;rw [B7];exact h.gw.inb u q hq
 ·rw [DQ]at hf;split at hf
  ·rename_i hu;subst hu;cases hh:hp u with
   |none=>rw [hh]at AS;exact AS.elim
   |some e9=>exact h.cw u e9 hh
  ·exact h.cw u f hf
end
section
variable {P:Program} {c:Cx} {n nx:Nat} {sl sl0:Nat→SV} {hp hp0:Nat→Option Aj} {a:Act} {o:Oper} {gs:Gd} {e:A5} {sg:BT} {nv:Nat}
theorem zxv (h:Br P c n nx sl hp a sl0 hp0 o gs) {t:TypeId} {x y:Operand} (ho:o.op= .store t x y) {b k:Nat} {s:SV} (hx:BN sl0 gs x=some (.cm b k)) (hy:BN sl0 gs y=some s)
  (he:Nu P hp0 gs t (.cm b k) s=some e) (hc: ∀q∈e.bt,Cn.den c.ρ q):AB P o c n nx sl hp gs a e:=by
 have r1:=h.c6 hx (by simp [ho,Op.operands]);have r2:=h.c6 hy (by simp [ho,Op.operands]);simp only [Nu]at he;split at he
 ·rename_i ty g cs vs ck hl Bi;split at he
  ·rename_i hh;obtain⟨Bn,hlen,hle,rfl⟩:=hh;simp at he;subst he;obtain⟨q1,q2⟩:=aV r2 Bi hc;generalize hv:a.eval x=v at r1;cases r1 with
   |cm h1 h2 h3=>
    rename_i q;have Fq:=CV hl h.gs;obtain⟨q',C,e1,e2,e3,e4,e5,e5',e6⟩:=h.eh b _ Fq;rw [h2]at e2;cases e2;have AS:Cs c.ρ (hp b) (.box ty g cs):=by
     cases hh:hp0 b with
     |none=>rw [hh]at Fq;exact Fq.elim
     |some e9=>rw [h.hp b e9 hh];rwa [hh]at Fq
    have Of:=e6.len;have fW:=q1.len;obtain⟨m1,m2,m3⟩:=Zr (vs:=(a.eval y).cells.toList) e5 (show k+_≤C.size by simp at Of fW ⊢;omega);obtain⟨Ar,BU⟩:=h.rel.write AS (by rw [e3];simp) m1 m3 (.box ty g (Qg cs k vs)) (by intros;simp) (w':=C7 c.w q k (a.eval y).cells.toList) (by
     have BV:DJ c (c.wr (C7 c.w q k (a.eval y).cells.toList) b):=Cx.jg h.rel.gw (by rw [e3];simp) m1;refine⟨q,_,e1,h2,e3,e4,m2, ?_, ?_⟩
     ·intro u hu;simp only [List.toList_toArray]at hu;unfold setVs at hu;simp only [Ai]at hu;rcases hu with(hu|hu)|hu
      ·exact e5' u (List.mem_of_mem_take hu)
      ·exact q2 u hu
      ·exact e5' u (List.mem_of_mem_drop hu)
     ·simpa using(e6.setVs q1 (k:=k)).keep BV)
    intro next Q hk
    unfold Oper.wp;have hr:(execOp a.eval o).run P c.w= .ok .skip (C7 c.w q k (a.eval y).cells.toList):=by have:=oX (P:=P) (t:=t) (v:=a.eval y) (off:=k) e5 Bn (by simp at fW;omega) (by simp at Of fW;omega) q2;simp [execOp,ho,hv,this]
    rw [hr,Oper.upon_skip];exact hk _ (c.wr (C7 c.w q k (a.eval y).cells.toList) b) ⟨rfl,rfl,rfl,rfl,fun t ht=> .inl ht⟩ (Ar.put ((SR.undef .nil).mkGd []) o.dst)
  ·cases he
 ·cases he
theorem vD {places:List (Nat × Nat)} {tys:List TypeId}: ∀(ps:List (Nat × SV)) (vs:List (Nat × Value)) (cs:List SV) (C:Array Value) (r:List SV × List Cn),Um P places tys ps cs=some r→(∀q∈r.2,q.den c.ρ)→
  ps.map (·.1)=vs.map (·.1)→SR c (ps.map (·.2)) (vs.map (·.2))→SR c cs C.toList→(∀u∈C.toList,u.oneCell'=true)→
  ∃C',Instr.fill (places.toArray[·]?) C vs=some C'∧SR c r.1 C'.toList∧ ∀u∈C'.toList,u.oneCell'=true
 | [],vs,cs,C,r,h,hk,he,_,hC,h1=>by
  have:vs= []:=by simpa using he.symm
  subst this;simp [Um]at h;subst h;exact⟨C,rfl,hC,h1⟩
 |(i,s)::ps, [],cs,C,r,h,hk,he,_,hC,h1=>by simp at he
 |(i,s)::ps,(j,v)::vs,cs,C,r,h,hk,he,hs,hC,h1=>by
  simp only [List.map_cons,List.cons.injEq]at he;obtain⟨rfl,he⟩:=he;simp only [List.map_cons]at hs;obtain⟨BI,A4⟩:=hs.cg;unfold Um at h;split at h
  ·rename_i off sz t Ot Bn;split at h
   ·rename_i us ck Bi;split at h
    ·rename_i hh;obtain⟨B7,hle⟩:=hh;obtain⟨r',CT,rfl⟩:=Av.1 h;obtain⟨q1,q2⟩:=aV BI Bi (fun q hq=>hk q (by simp [hq]));have La:=q1.len;have Kl:=hC.len;have Mk:(v.cells.zipIdx.foldl (fun cs (p:Value × Nat)=>cs.setIfInBounds (off+p.2) p.1) C).toList=setVs C.toList off v.cells.toList:=by
      have:=wI v.cells.toList 0 off C (by simp at La Kl ⊢;omega);rw [←Array.foldl_toList,Array.toList_zipIdx];simpa using this
     obtain⟨C',g1,g2,g3⟩:=vD ps vs (Qg cs off us) (v.cells.zipIdx.foldl (fun cs (p:Value × Nat)=>cs.setIfInBounds (off+p.2) p.1) C) r' CT (fun q hq=>hk q (by simp [hq])) he A4 (by rw [Mk];exact hC.setVs q1) (by
      rw [Mk];intro u hu;unfold setVs at hu;simp only [Ai]at hu;rcases hu with(hu|hu)|hu
      ·exact h1 u (List.mem_of_mem_take hu)
      ·exact q2 u hu
      ·exact h1 u (List.mem_of_mem_drop hu))
     refine⟨C', ?_,g2,g3⟩;unfold Instr.fill;have gR:places.toArray[i]?=some (off,sz):=by simpa using Ot
     simp only [gR];rw [if_neg (by simp at La Kl ⊢;omega)];exact g1
    ·cases h
   ·cases h
  ·cases h
theorem aU {sl0:Nat→SV} {gs:Gd} (L:List Operand) (h: ∀x s,BN sl0 gs x=some s→x∈L→SR c [s] [a.eval x]): ∀{xs:List (Nat × Operand)} {ss:List (Nat × SV)},(∀x∈xs,x.2∈L)→xs.mapM (fun(p:Nat × Operand)=>(BN sl0 gs p.2).map fun s=>(p.1,s))=some ss→
  ss.map (·.1)=xs.map (·.1)∧SR c (ss.map (·.2)) (xs.map fun p=>a.eval p.2)
 | [],ss,_,hm=>by simp at hm;subst hm;exact⟨rfl, .nil⟩
 |x::xs,ss,hL,hm=>by rw [List.mapM_cons]at hm;simp only [Option.bind_eq_bind,Aw,Av]at hm;obtain⟨_,⟨s,hs,rfl⟩,ss',Gm,hm⟩:=hm;simp at hm;subst hm;obtain⟨e1,e2⟩:=aU L h (fun y hy=>hL y (by simp [hy])) Gm;exact⟨by simp [e1],(h _ s hs (hL x (by simp))).app e2⟩
theorem zB8 (h:Br P c n nx sl hp a sl0 hp0 o gs) {t:TypeId} {parts:Array (Nat × Operand)} (ho:o.op= .build t parts) (he:BF P sg sl0 hp0 nv nx gs o=some e) (hc: ∀q∈e.bt,Cn.den c.ρ q):AB P o c n nx sl hp gs a e:=by
 simp only [BF,ho,Aw]at he;obtain⟨ps,MA,he⟩:=he;obtain⟨e1,e2⟩:=aU (c:=c) (a:=a) (parts.toList.map (·.2)) (fun x s hx hm=>h.c6 hx (by simpa [ho,Op.operands]using hm)) (fun x hx=>List.mem_map.2 ⟨x,hx,rfl⟩) MA;unfold uT at he;split at he
 ·rename_i it fs hit hu;split at he
  ·rename_i zs places hz Ot;obtain⟨r,hr,rfl⟩:=Av.1 he;obtain⟨z,Xq,Xr⟩:=Aw.1 hz;have uM:=bI (c:=c) Xr;obtain⟨cells,g1,g2,g3⟩:=vD (c:=c) (P:=P) ps (parts.toList.map fun p=>(p.1,a.eval p.2)) zs.toList z.cells r hr hc (by rw [e1];simp) (by rw [List.map_map];exact e2)
    (by cases uM with|agg h1 h2 _=>simpa [Value.cells]using h2) (by cases uM with|agg h1 h2 _=>simpa [Value.cells]using h1)
   have hb:P.built t (parts.map fun(x:Nat × Operand)=>(x.1,a.eval x.2)).toList=some cells:=by simp only [Program.built,hit,hu,Xq,Ot];simpa using g1
   have:=SR.agg (c:=c) (cs:=Bz.of r.1) (as_:=cells.toList) g3 (by rw [Bz.bb];exact g2) .nil;refine AB.pure h (v:= .agg cells) ?_ (by simpa using this) rfl;have AU:=run_build c.w t _ cells hb;simp only [execOp,ho,Sem.run_bind];rw [AU];rfl
  ·cases he
 ·cases he
end
section
variable {P:Program} {c:Cx} {n nx:Nat} {sl sl0:Nat→SV} {hp hp0:Nat→Option Aj} {a:Act} {o:Oper} {gs:Gd} {e:A5} {sg:BT} {nv:Nat}
def Cx.bu (c:Cx) (ts:List Nat):Cx:={c with G:=fun u=>if u∈ts then⟨[], []⟩else c.G u,E:=fun u=>if u∈ts then c.E u+1 else c.E u}
theorem Cx.j0 {c:Cx} {ts:List Nat} {b:Nat} (h:(c.bu ts).M b): ∃u,u∉ts∧b∈(c.G u).top:=by
 obtain⟨u,hu⟩:=h;simp only [Cx.bu]at hu;split at hu
 ·simp at hu
 ·exact⟨u,by assumption,hu⟩
theorem Cx.fh {c:Cx} {ts:List Nat} {b:Nat} (h:c.ok b):(c.bu ts).ok b:=⟨fun hm=>by obtain⟨u,_,hu⟩:=Cx.j0 hm;exact h.1 ⟨u,hu⟩,h.2⟩
theorem Cx.kf (c:Cx) (ts:List Nat):DJ c (c.bu ts):=⟨rfl,rfl,fun _ _ h=>Cx.fh h,fun _ _ _=>rfl,fun _ _ h=>⟨h,rfl⟩,fun t g _=>by
 by_cases ht:t∈ts
 ·have e1:(c.bu ts).E t=c.E t+1:=by simp only [Cx.bu,if_pos ht]
  exact⟨by omega,fun h=>by omega⟩
 ·have e1:(c.bu ts).E t=c.E t:=by simp only [Cx.bu,if_neg ht]
  have e2:(c.bu ts).G t=c.G t:=by simp only [Cx.bu,if_neg ht]
  rw [e1];exact⟨Nat.le_refl _,fun _=>⟨e2,fun _ _ _=>rfl⟩⟩⟩
theorem wV {c:Cx} (gw:GW c) {ts us:List Nat} (hs: ∀t∈us,t∈ts) {b:Nat} (h:c.eu us b):(c.bu ts).ok b:=by
 rcases h with h|⟨t,ht,hb⟩
 ·exact Cx.fh h
 ·have BC:b∈(c.G t).own:=by simp [GI.own,hb]
  refine⟨fun hm=> ?_, .inr (gw.allow t b BC)⟩;obtain⟨u,hu,Ig⟩:=Cx.j0 hm;have:t≠u:=fun hh=>hu (hh▸hs t ht);exact gw.ct t u this b BC (by simp [GI.own,Ig])
def LR (e:Aj) (g:Nat) (x:E):Prop:=(∃ety sz d,e= .row ety sz g x d)∨ ∃ety sz l ep,e= .deep ety sz l g ep x
theorem LR.ne {e:Aj} {g:Nat} {x:E} (h:LR e g x): ∀hs f,e≠ .gd hs f:=by rcases h with⟨_,_,_,rfl⟩|⟨_,_,_,_,rfl⟩<;>intros<;>simp
theorem LR.rd {e:Aj} {g t:Nat} {x:E} (h:LR e g x) (k:Dh c t e):c.K t g∧ ∃f,Rd c.w [c.H t g] [x.den c.ρ] f∧ ∀b∈f,b∈(c.G t).top∨c.ok b:=by
 rcases h with⟨_,_,_,rfl⟩|⟨_,_,_,_,rfl⟩
 ·obtain⟨q1,q2,N,q3,q4,_⟩:=k;obtain⟨f,r1,r2,_⟩:=q3.rd;exact⟨q1,f,r1,fun b hb=>(r2 b hb).imp id (q4 b)⟩
 ·obtain⟨q1,q2,_,q3,_⟩:=k;obtain⟨f,r1,r2⟩:=q3.rd;exact⟨q1,f,r1,fun b hb=> .inl (r2 b hb)⟩
theorem LR.fun {e:Aj} {g g':Nat} {x x':E} (h:LR e g x) (k:LR e g' x'):g=g'∧x=x':=by rcases h with⟨_,_,_,rfl⟩|⟨_,_,_,_,rfl⟩<;>rcases k with⟨_,_,_,hh⟩|⟨_,_,_,_,hh⟩<;>cases hh<;>exact⟨rfl,rfl⟩
theorem O8 {gs:Gd} {ρ:List AV} (k:Bg ρ gs): ∀{ts:List Nat} {l:List (Nat × Aj)},DH hp0 gs ts=some l→
  (∀t e,(t,e)∈l→t∈ts∧gs= []∧ ∃g x f,e= .bu g x∧Cs ρ (hp0 t) f∧LR f g x)∧
  (∀t∈ts,(∃g x,(t,Aj.bu g x)∈l)∨(∃g x,Cs ρ (hp0 t) (.bu g x))∨ ∃ty g cs,Cs ρ (hp0 t) (.box ty g cs))
 | [],l,h=>by simp [DH]at h;subst h;simp
 |t::ts,l,h=>by
  unfold DH at h;split at h
  ·rename_i ety sz g x d l' hl Bu;split at h
   ·rename_i hg;simp at h;subst h;obtain⟨h1,h2⟩:=O8 k Bu;refine⟨fun u e hu=> ?_,fun u hu=> ?_⟩
    ·rcases Ag.1 hu with hu|hu
     ·cases hu;exact⟨by simp,by simpa using hg,g,x,_,rfl,CV hl k, .inl ⟨_,_,_,rfl⟩⟩
     ·obtain⟨p,q,r⟩:=h1 u e hu;exact⟨by simp [p],q,r⟩
    ·rcases Ag.1 hu with rfl|hu
     ·exact .inl ⟨g,x,by simp⟩
     ·rcases h2 u hu with⟨g',x',hh⟩|hh
      ·exact .inl ⟨g',x',by simp [hh]⟩
      ·exact .inr hh
   ·cases h
  ·rename_i ety sz dl g ep x l' hl Bu;split at h
   ·rename_i hg;simp at h;subst h;obtain⟨h1,h2⟩:=O8 k Bu;refine⟨fun u e hu=> ?_,fun u hu=> ?_⟩
    ·rcases Ag.1 hu with hu|hu
     ·cases hu;exact⟨by simp,by simpa using hg,g,x,_,rfl,CV hl k, .inr ⟨_,_,_,_,rfl⟩⟩
     ·obtain⟨p,q,r⟩:=h1 u e hu;exact⟨by simp [p],q,r⟩
    ·rcases Ag.1 hu with rfl|hu
     ·exact .inl ⟨g,x,by simp⟩
     ·rcases h2 u hu with⟨g',x',hh⟩|hh
      ·exact .inl ⟨g',x',by simp [hh]⟩
      ·exact .inr hh
   ·cases h
  ·rename_i g x l' hl Bu;simp at h;subst h;obtain⟨h1,h2⟩:=O8 k Bu;refine⟨fun u e hu=> ?_,fun u hu=> ?_⟩
   ·obtain⟨p,q,r⟩:=h1 u e hu;exact⟨by simp [p],q,r⟩
   ·rcases Ag.1 hu with rfl|hu
    ·exact .inr (.inl ⟨g,x,CV hl k⟩)
    ·exact h2 u hu
  ·rename_i ty g cs l' hl Bu;simp at h;subst h;obtain⟨h1,h2⟩:=O8 k Bu;refine⟨fun u e hu=> ?_,fun u hu=> ?_⟩
   ·obtain⟨p,q,r⟩:=h1 u e hu;exact⟨by simp [p],q,r⟩
   ·rcases Ag.1 hu with rfl|hu
    ·exact .inr (.inr ⟨ty,g,cs,CV hl k⟩)
    ·exact h2 u hu
  ·cases h
theorem LJ {hp:Nat→Option Aj}: ∀{l:List (Nat × Aj)} {t:Nat},(∀e,(t,e)∉l)→Ba hp l t=hp t
 | [],_,_=>rfl
 |(u,e)::l,t,h=>by
  have ht:t≠u:=by rintro rfl;exact h e (by simp)
  have:=LJ (hp:=fun v=>if v=u then some e else hp v) (l:=l) (t:=t) (fun e' EV=>h e' (by simp [EV]));simp only [Ba,List.foldl_cons]at this ⊢;rw [this,if_neg ht]
theorem sL {hp:Nat→Option Aj}: ∀{l:List (Nat × Aj)} {t:Nat} {e:Aj},(t,e)∈l→(∀e',(t,e')∈l→e'=e)→Ba hp l t=some e
 | [],_,_,h,_=>by simp at h
 |(u,f)::l,t,e,h,hu=>by
  simp only [Ba,List.foldl_cons];by_cases hm: ∃e',(t,e')∈l
  ·obtain⟨e',EV⟩:=hm;have:=hu e' (by simp [EV]);subst this;exact sL (hp:=fun v=>if v=u then some f else hp v) EV (fun e'' h''=>hu e'' (by simp [h'']))
  ·have hn: ∀e',(t,e')∉l:=fun e' EV=>hm ⟨e',EV⟩;have:=LJ (hp:=fun v=>if v=u then some f else hp v) (l:=l) (t:=t) hn;simp only [Ba]at this;rw [this];rcases Ag.1 h with h|h
   ·cases h;simp
   ·exact absurd h (hn e)
theorem L0 (hs: ∀t e,hp0 t=some e→hp t=some e) {ρ:List AV} {t:Nat} {e:Aj} (h:Cs ρ (hp0 t) e):Cs ρ (hp t) e:=by
 cases hh:hp0 t with
 |none=>rw [hh]at h;exact h.elim
 |some e9=>rw [hs t e9 hh];rwa [hh]at h
theorem zH0 {ρ:List AV} {o:Option Aj} {e f:Aj} (h:Cs ρ o e) (k:Cs ρ o f):e=f:=by
 cases o with
 |none=>exact h.elim
 |some o=>
  cases o with
  |gd gs x=>exact h.2.symm.trans k.2
  |box=>exact h.symm.trans k
  |row=>exact h.symm.trans k
  |bu=>exact h.symm.trans k
  |dead=>exact h.symm.trans k
  |deep=>exact h.symm.trans k
  |hol=>exact h.symm.trans k
theorem Rel.freeze (h:Rel c n sl hp a) (hs: ∀t e,hp0 t=some e→hp t=some e) (k:Bg c.ρ gs) {ts:List Nat} {l:List (Nat × Aj)} (hf:DH hp0 gs ts=some l):
  Rel (c.bu (l.map (·.1))) n sl (Ba hp l) a:=by
 obtain⟨h1,h2⟩:=O8 k hf;have hG: ∀u,(c.bu (l.map (·.1))).G u=if u∈l.map (·.1)then⟨[], []⟩else c.G u:=fun u=>rfl;have JQ: ∀t e e',(t,e)∈l→(t,e')∈l→e'=e:=by intro t e e' he EV;obtain⟨_,_,g,x,_,rfl,r,rl⟩:=h1 t e he;obtain⟨_,_,g',x',_,rfl,r',rl'⟩:=h1 t e' EV;have:=zH0 r r';subst this;obtain⟨rfl,rfl⟩:=rl.fun rl';rfl
 refine h.change (fun u=>u∈l.map (·.1)) (Cx.kf c _) ⟨h.base.os,h.base.tape,h.base.output,h.base.size,h.base.pins,h.base.block,h.base.pk,h.base.lo⟩ (fun u hu=>⟨LJ (fun e he=>hu (List.mem_map.2 ⟨_,he,rfl⟩)),by rw [hG,if_neg hu],by simp only [Cx.bu,if_neg hu],fun g hg=>hg⟩) (fun u hu b hb=>rfl) (fun u hu=> ?_) ?_ h.b8 (fun u e hu=> ?_)
 ·obtain⟨⟨u',e⟩,he,rfl⟩:=List.mem_map.1 hu;have DQ:=sL (hp:=hp) he (fun e' EV=>JQ _ _ _ he EV);obtain⟨_,_,g,x,f0,rfl,r,rl⟩:=h1 u' e he;obtain⟨q1,f,r1,r2⟩:=rl.rd (h.ents u' _ (L0 hs r));have K5:((c.bu (l.map (·.1))).G u').top= []∧((c.bu (l.map (·.1))).G u').O= []:=by rw [hG,if_pos hu];simp
  rw [DQ];refine⟨fun e' hr=> ?_,fun _=>K5⟩;have:e'= .bu g x:=hr.symm;subst this;exact⟨q1,⟨f,r1,fun b hb=>by
   refine wV h.gw (ts:=l.map (·.1)) (us:= [u']) (by simpa using hu) ?_;rcases r2 b hb with hb|hb
   ·exact .inr ⟨u',by simp,hb⟩
   ·exact .inl hb⟩,K5.1,K5.2⟩
 ·refine⟨fun u=> ?_,fun u v iG b hb=> ?_,fun u b hb=> ?_,fun u b hb=> ?_⟩
  ·rw [hG];split
   ·simp [GI.own]
   ·exact h.gw.nodup u
  ·rw [hG]at hb ⊢;split at hb
   ·simp [GI.own]at hb
   ·split
    ·simp [GI.own]
    ·exact h.gw.ct u v iG b hb
  ·rw [hG]at hb;split at hb
   ·simp [GI.own]at hb
   ·exact h.gw.allow u b hb
  ·rw [hG]at hb;split at hb
   ·simp [GI.own]at hb
   ·exact h.gw.inb u b hb
 ·by_cases hm: ∃e',(u,e')∈l
  ·obtain⟨e',EV⟩:=hm;obtain⟨_,_,g,x,f0,rfl,r,rl⟩:=h1 u e' EV;have r':=L0 hs r;cases hh:hp u with
   |none=>rw [hh]at r';exact r'.elim
   |some e9=>exact h.cw u e9 hh
  ·rw [LJ (fun e' EV=>hm ⟨e',EV⟩)]at hu;exact h.cw u e hu
theorem zBV {ts:List Nat} (h:NJ hp0 gs ts=true) {t:Nat} (ht:t∈ts) {ty:Nat} {g:Bool} {cs:List SV}:Dp hp0 gs t≠some (.box ty g cs):=by intro hl;simp only [NJ,Bool.not_eq_true',List.any_eq_false]at h;have:=h t ht;rw [hl]at this;simp at this
theorem zzS {ρ:List AV} (k:Bg ρ gs) {ts:List Nat} {l:List (Nat × Aj)} (hf:DH hp0 gs ts=some l) {t:Nat} (ht:t∈ts):(∃g x,(t,Aj.bu g x)∈l)∨(∃g x,Dp hp0 gs t=some (.bu g x))∨ ∃ty g cs,Dp hp0 gs t=some (.box ty g cs):=by
 induction ts generalizing l with
 |nil=>simp at ht
 |cons u ts ih=>
  unfold DH at hf;split at hf
  ·rename_i ety sz g x d l' hl Bu;split at hf
   ·simp at hf;subst hf;rcases Ag.1 ht with rfl|ht
    ·exact .inl ⟨g,x,by simp⟩
    ·rcases ih Bu ht with⟨g',x',hh⟩|hh
     ·exact .inl ⟨g',x',by simp [hh]⟩
     ·exact .inr hh
   ·cases hf
  ·rename_i ety sz dl g ep x l' hl Bu;split at hf
   ·simp at hf;subst hf;rcases Ag.1 ht with rfl|ht
    ·exact .inl ⟨g,x,by simp⟩
    ·rcases ih Bu ht with⟨g',x',hh⟩|hh
     ·exact .inl ⟨g',x',by simp [hh]⟩
     ·exact .inr hh
   ·cases hf
  ·rename_i g x l' hl Bu;simp at hf;subst hf;rcases Ag.1 ht with rfl|ht
   ·exact .inr (.inl ⟨g,x,hl⟩)
   ·exact ih Bu ht
  ·rename_i ty g cs l' hl Bu;simp at hf;subst hf;rcases Ag.1 ht with rfl|ht
   ·exact .inr (.inr ⟨ty,g,cs,hl⟩)
   ·exact ih Bu ht
  ·cases hf
theorem VN (h:Rel c n sl hp a) (eh:EH c hp0) (k:Bg c.ρ gs) {ts:List Nat} {l:List (Nat × Aj)} (hf:DH hp0 gs ts=some l) (hb:NJ hp0 gs ts=true) {b:Nat} (hs:c.eu ts b):(c.bu (l.map (·.1))).ok b:=by
 rcases hs with hs|⟨t,ht,CC⟩
 ·exact Cx.fh hs
 ·rcases zzS k hf ht with⟨g,x,hh⟩|⟨g,x,hh⟩|⟨ty,g,cs,hh⟩
  ·exact wV h.gw (us:= [t]) (by simpa using⟨_,hh⟩) (.inr ⟨t,by simp,CC⟩)
  ·obtain⟨_,_,Cw,_⟩:=eh t _ (CV hh k);rw [Cw]at CC;simp at CC
  ·exact absurd hh (zBV hb ht)
theorem zsE (h:Rel c n sl hp a) (hs: ∀t e,hp0 t=some e→hp t=some e) (k:Bg c.ρ gs) {t:TypeId} {s:SV} {v:Value} (hr:SR c [s] [v]) {x:E} {fz:List (Nat × Aj)} {d:Bool} {ck:List Cn} (ht:XF P hp0 gs t s=some (x,fz,d,ck)) (hc: ∀q∈ck,q.den c.ρ):
  ∃f,Rd c.w [v] [x.den c.ρ] f∧(d=true→f= [])∧(∃ts,DH hp0 gs ts=some fz∧ ∀b∈f,(c.bu (fz.map (·.1))).ok b)∧
   (if Aq P t then∃cs,x.den c.ρ= .agg cs∧cs.length=P.cellsOf t else(∀cs,x.den c.ρ≠ .agg cs)∧ ∀cs,x.den c.ρ≠ .tup cs):=by
 have eh:EH c hp0:=fun t e hr=>h.ents t e (L0 hs hr);unfold XF at ht;split at ht
 ·cases ht
 ·rename_i y hy;obtain⟨f,q1,q2⟩:=H5 eh k A1 hy hr A1 (Nat.le_refl _);split at ht
  ·simp at ht;obtain⟨rfl,rfl,rfl,rfl⟩:=ht;obtain⟨c1,c2,c3,c4⟩:=BY hc;have hf:f= []:=by
    cases hg:Aq P t with
    |true=>obtain⟨cs,Bi⟩:=c3 hg;obtain⟨as_,rfl,_,r⟩:=Kb q1 Bi;exact H3 r (by rw [Bi]at c2;exact c2)
    |false=>exact H3 q1 (by simpa using c4 hg)
   subst hf;refine⟨[],q1,fun _=>rfl,⟨[],rfl,by simp⟩, ?_⟩;split
   ·rename_i hg;obtain⟨cs,Bi⟩:=c3 hg;exact⟨cs,Bi,by rw [Bi]at c1;exact c1⟩
   ·rename_i hg;have:=c4 (by simpa using hg);exact⟨fun cs Bi=>by rw [Bi]at this;simp [AV.scalar]at this,fun cs Bi=>by rw [Bi]at this;simp [AV.scalar]at this⟩
  ·split at ht
   ·rename_i JE;split at ht
    ·cases ht
    ·rename_i l hl;simp only [Ah,Prod.mk.injEq]at ht;obtain⟨rfl,rfl,rfl,rfl⟩:=ht;refine⟨f,q1,by simp,⟨_,hl,fun b hb=>VN h eh k hl JE (q2 b hb)⟩, ?_⟩;have hq:=BY hc;unfold zN at hq;split
     ·rename_i hg;rw [if_pos hg]at hq;obtain⟨cs,Bi,hl⟩:=hq;exact⟨cs,Bi,hl⟩
     ·rename_i hg;rw [if_neg hg]at hq;exact hq
   ·cases ht
end
section
variable {P:Program} {c:Cx} {n nx:Nat} {sl sl0:Nat→SV} {hp hp0:Nat→Option Aj} {a:Act} {o:Oper} {gs:Gd} {e:A5} {sg:BT} {nv:Nat}
theorem sZ (w:World) (t ty el:TypeId) (i:TypeInfo) (z:Value) (ht:P.underlying t=some (.slice el)) (hi:P.info? el=some i) (hz:i.zero=some z) (DR:z.cells.size=i.size) (B7:0<i.size)
  (Own:Nat→Prop) (v:Value) (k:Nat) (old:List Value) (ho:old.length=k*i.size)
  (BK:(k=0∧ ∃q,v= .slice q 0 0)∨ ∃g cap C,v= .slice (some ⟨g,0,none⟩) k cap∧k≤cap∧cap≤maxLen∧w.heap[g]?=some (.cells C el (0,0))∧C.size=cap*i.size∧old=C.toList.take (k*i.size)∧Own g)
  (q:Option Addr) (m r:Nat) (news:List Value) (hs:Src w i.size q m news) (WO:k+m≤maxLen) (hb:(k+m)*i.bytes≤140737488355328):
  ∃v' w',(Builtin.append_ #[t,t] ty #[v, .slice q m r]).run P w= .ok v' w'∧
   ((v'=v∧w'=w∧m=0)∨ ∃g cap C,v'= .slice (some ⟨g,0,none⟩) (k+m) cap∧k+m≤cap∧cap≤maxLen∧w'.heap[g]?=some (.cells C el (0,0))∧C.size=cap*i.size∧C.toList.take ((k+m)*i.size)=old++news∧
    w.grownBy w' (some g)∧((g=w.heap.size∧g<w'.heap.size)∨Own g)):=by
 have Xd:news.length=m*i.size:=by
  rcases hs with⟨rfl,rfl,rfl⟩|⟨ad,rfl,h1,_⟩
  ·simp
  ·exact h1
 have hlen:(old++news).length=(k+m)*i.size:=by rw [As,ho,Xd,Nat.add_mul]
 have grown: ∀(cp:Nat),cp<k+m→ ∀(X:Array Value),X.toList=old++news→ ∃C,C=X++Builtin.zeroCells z.cells (grownCap w (k+m) cp el-(k+m))∧
   k+m≤grownCap w (k+m) cp el∧grownCap w (k+m) cp el≤maxLen∧C.size=grownCap w (k+m) cp el*i.size∧C.toList.take ((k+m)*i.size)=old++news:=by
  intro cp hcp X hX;have Jy:=grownCap_ge w (k+m) cp el;have K2:=grownCap_le_maxLen w (k+m) cp el WO;refine⟨_,rfl,Jy,K2, ?_, ?_⟩
  ·have hXs:X.size=(k+m)*i.size:=by rw [←Array.length_toList,hX,hlen]
   rw [Array.size_append,hXs,size_zeroCells,DR,←Nat.add_mul];congr 1;omega
  ·rw [Array.toList_append,hX,←hlen];exact List.take_left
 have newb: ∀C:Array Value,w.grownBy (w.drew.alloc (.cells C el)) (some w.heap.size)∧w.heap.size<(w.drew.alloc (.cells C el)).heap.size∧(w.drew.alloc (.cells C el)).heap[w.heap.size]?=some (.cells C el (0,0)):=
  fun C=>⟨⟨rfl,rfl,rfl,by simp,fun j hj _=>Below.heap_alloc w.drew _ _ hj⟩,by simp,heap_alloc_new w.drew _⟩
 rcases BK with⟨rfl,p,rfl⟩|⟨g,cap,C,rfl,TI,K2,hg,Bi,hold,dX⟩
 ·have hold:old= []:=List.eq_nil_of_length_eq_zero (by simpa using ho);subst hold;by_cases hm:m=0
  ·subst hm;have hn:news= []:=List.eq_nil_of_length_eq_zero (by simpa using Xd);subst hn;refine⟨_,w, ?_, .inl ⟨rfl,rfl,rfl⟩⟩;rcases hs with⟨rfl,_,_⟩|⟨ad,rfl,_⟩<;>cases p<;>
    simp [Builtin.append_,run_underlying ht,sizeOf,typeInfo,hi,Builtin.lenOf,Builtin.firstCells,loadCells,loadCellsFrom,storeCells]
  ·rcases hs with⟨_,rfl,_⟩|⟨ad,rfl,h1,h2,h3⟩
   ·exact absurd rfl hm
   ·obtain⟨C',PS,g1,g2,g3,g4⟩:=grown 0 (by omega) news.toArray (by simp);cases p with
    |none=>have hr:=run_append_nil (P:=P) w t ty el i z ht hi hz ad m r news h1 h2 (by omega) (by simp only [maxLen]at WO;omega) (by have hb:=hb;simp only [Nat.zero_add]at hb;omega);simp only [Nat.zero_add]at g1 g2 g3 g4 PS ⊢;obtain⟨n1,n2,n3⟩:=newb C';refine⟨_,_,hr, .inr ⟨_,_,C',rfl,g1,g2, ?_,g3,g4, ?_, .inl ⟨rfl, ?_⟩⟩⟩<;>rw [←PS]<;>first|exact n3|exact n1|exact n2
    |some p=>have hr:=run_append_grow (P:=P) w t ty el i z ht hi hz p 0 0 [] (by simp) (by simp) ad m r news h1 h2 (by omega) (by simp only [maxLen]at WO;omega) (growslice_fits (by omega) hb);rw [show(([]:List Value).toArray++news.toArray)=news.toArray by simp]at hr;simp only [Nat.zero_add]at g1 g2 g3 g4 PS hr ⊢;obtain⟨n1,n2,n3⟩:=newb C';refine⟨_,_,hr, .inr ⟨_,_,C',rfl,g1,g2, ?_,g3,g4, ?_, .inl ⟨rfl, ?_⟩⟩⟩<;>rw [←PS]<;>first|exact n3|exact n1|exact n2
 ·rcases hs with⟨rfl,rfl,rfl⟩|⟨ad,rfl,h1,h2,h3⟩
  ·refine⟨_,w, ?_, .inl ⟨rfl,rfl,rfl⟩⟩;simp [Builtin.append_,run_underlying ht,sizeOf,typeInfo,hi,Builtin.lenOf,Builtin.firstCells,TI,storeCells]
  ·by_cases Cv:k+m≤cap
   ·have N6:k*i.size+news.length≤C.size:=by rw [h1,Bi,←Nat.add_mul];exact Nat.mul_le_mul_right _ Cv
    have hr:=run_append_room (P:=P) w t ty el i ht hi g k cap C hg ad m r news h1 h2 h3 Cv N6;refine⟨_,_,hr, .inr ⟨g,cap,_,rfl,Cv,K2,setRow_heap w g C _ el _ hg, ?_, ?_,⟨rfl,rfl,rfl,by simp,fun j _ hj=>setRow_other w g j _ (fun hh=>hj (by rw [hh]))⟩, .inr dX⟩⟩
    ·simp only [List.size_toArray,As,List.length_take,List.length_drop,Array.length_toList];omega
    ·rw [←hold,←hlen];exact List.take_left
   ·have holds: ∀j u,old[j]?=some u→w.cell? ((⟨g,0,none⟩:Addr).add j)=some u:=fun j u hu=>by
     rw [Addr.add_lit,Nat.zero_add,EY hg];rw [hold,List.getElem?_take]at hu;split at hu
     ·simpa using hu
     ·cases hu
    have hr:=run_append_grow (P:=P) w t ty el i z ht hi hz ⟨g,0,none⟩ k cap old ho holds ad m r news h1 h2 (by omega) (by simp only [maxLen]at WO;omega) (growslice_fits (by omega) hb);obtain⟨C',PS,g1,g2,g3,g4⟩:=grown cap (by omega) (old.toArray++news.toArray) (by simp);obtain⟨n1,n2,n3⟩:=newb C';refine⟨_,_,hr, .inr ⟨_,_,C',rfl,g1,g2, ?_,g3,g4, ?_, .inl ⟨rfl, ?_⟩⟩⟩<;>rw [←PS]<;>first|exact n3|exact n1|exact n2
def Cx.bd (c:Cx) (t g':Nat) (w':World) (v:Value) (top O:List Nat):Cx:=
 {c with w:=w',G:=fun u=>if u=t then⟨top,O⟩else c.G u,K:=fun u g=>c.K u g∨(u=t∧g=g'),H:=fun u g=>if u=t∧g=g' then v else c.H u g,U:=fun u=>c.U u∨u=t,E:=fun u=>if u=t then c.E u+1 else c.E u}
theorem Rel.bd (h:Rel c n sl hp a) {t g:Nat} (EG:c.A.pin t=none∨g≠0) (A2: ¬c.K t g) {w':World} {row:Option Nat} (hg:c.w.grownBy w' row)
  (E7: ∀g0,row=some g0→g0∈(c.G t).top∨(g0=c.w.heap.size∧g0<w'.heap.size)) {top O:List Nat} (Cw:top= []∨ ∃g0,row=some g0∧top= [g0]) (hO:O= []∨O=(c.G t).O) {v:Value} (e1:Aj) (Bl: ∀hs f,e1≠ .gd hs f) (k:Bg c.ρ gs)
  (he:DJ c (c.bd t g w' v top O)→Dh (c.bd t g w' v top O) t e1):Rel (c.bd t g w' v top O) n sl (Ba hp [(t,CP gs e1)]) a:=by
 have hG: ∀u,(c.bd t g w' v top O).G u=if u=t then⟨top,O⟩else c.G u:=fun u=>rfl;have hM: ∀b,(c.bd t g w' v top O).M b→c.M b∨row=some b:=by
  rintro b ⟨u,hu⟩;rw [hG]at hu;split at hu
  ·rcases Cw with rfl|⟨g0,hr,rfl⟩
   ·simp at hu
   ·simp at hu;subst hu;exact .inr hr
  ·exact .inl ⟨u,hu⟩
 have Tw: ∀b,b<c.w.heap.size→c.ok b→row≠some b:=by
  intro b hb Az hr;rcases E7 b hr with hh|⟨hh,_⟩
  ·exact Az.1 ⟨t,hh⟩
  ·omega
 have BU:DJ c (c.bd t g w' v top O):=by
  refine⟨rfl,rfl,fun b hb Az=>⟨fun hm=>(hM b hm).elim Az.1 (Tw b hb Az),Az.2⟩,fun b hb Az=>hg.block b hb (fun hh=>Tw b hb Az hh.symm),fun u g1 hu=>⟨.inl hu, ?_⟩,fun u g1 hu=> ?_⟩
  ·simp only [Cx.bd];rw [if_neg];rintro⟨rfl,rfl⟩;exact A2 hu
  ·by_cases GH:u=t
   ·have e1:(c.bd t g w' v top O).E u=c.E u+1:=by simp only [Cx.bd,if_pos GH]
    exact⟨by omega,fun h=>by omega⟩
   ·have e1:(c.bd t g w' v top O).E u=c.E u:=by simp only [Cx.bd,if_neg GH]
    have e2:(c.bd t g w' v top O).G u=c.G u:=by simp only [Cx.bd,if_neg GH]
    rw [e1];refine⟨Nat.le_refl _,fun _=>⟨e2,fun b hb G7=>hg.block b G7 fun hh=> ?_⟩⟩;rcases E7 b hh.symm with h1|⟨h1,_⟩
    ·exact h.gw.ct u t GH b (by simp [GI.own,hb]) (by simp [GI.own,h1])
    ·omega
 have DQ: ∀u,Ba hp [(t,CP gs e1)] u=if u=t then some (CP gs e1)else hp u:=fun u=>rfl;have Ol: ∀u,u≠t→ ∀b∈(c.G u).own,row≠some b:=by
  intro u hu b hb hr;rcases E7 b hr with hh|⟨hh,_⟩
  ·exact h.gw.ct u t hu b hb (by simp [GI.own,hh])
  ·have:=h.gw.inb u b hb;omega
 have BP: ∀b∈(⟨top,O⟩:GI).own,row=some b∨b∈(c.G t).own:=by
  intro b hb;simp only [GI.own,Ai]at hb ⊢;rcases hb with hb|hb
  ·rcases Cw with rfl|⟨g0,hr,rfl⟩
   ·simp at hb
   ·simp at hb;subst hb;exact .inl hr
  ·rcases hO with rfl|rfl
   ·simp at hb
   ·exact .inr (.inr hb)
 refine h.change (fun u=>u=t) BU ⟨hg.os.trans h.base.os,hg.tape.trans h.base.tape,hg.output.trans h.base.output,Nat.le_trans h.base.size hg.size,fun u v' hp=>⟨.inl (h.base.pins u v' hp).1,fun hk=> ?_⟩,fun b hb Ij=> ?_,h.base.pk,h.base.lo⟩
  (fun u hu=>⟨by rw [DQ,if_neg hu],by rw [hG,if_neg hu],by simp [Cx.bd,hu],fun g1 hh=>hh.resolve_right (fun hh=>hu hh.1)⟩) (fun u hu b hb=>hg.block b (h.gw.inb u b (by simp [GI.own,hb])) (fun hh=>Ol u hu b (by simp [GI.own,hb]) hh.symm)) (fun u hu=> ?_) ?_ (fun u g1 hh=> ?_) (fun u f hf=> ?_)
 ·have GH: ¬(u=t∧0=g):=by
   rintro⟨rfl,rfl⟩;rcases EG with hh|hh
   ·have hp':c.A.pin u=some v':=hp;rw [hh]at hp';cases hp'
   ·exact hh rfl
  have BV:=hk.resolve_right GH;simp only [Cx.bd];rw [if_neg GH];exact(h.base.pins u v' hp).2 BV
 ·refine(hg.block b (Nat.lt_of_lt_of_le hb h.base.size) (fun hh=> ?_)).trans (h.base.block b hb Ij);rcases E7 b hh.symm with hh|⟨hh,_⟩
  ·rcases h.gw.allow t b (by simp [GI.own,hh])with h1|h1
   ·exact absurd h1 (Nat.not_le.2 hb)
   ·exact Ij h1
  ·have:=h.base.size;have h9:b<c.w0.heap.size:=hb;omega
 ·subst hu;rw [DQ,if_pos rfl];exact⟨fun e' hr=>by rw [(Sb k Bl).1 hr];exact he BU,fun hn=>absurd ((Sb k Bl).2 rfl) (hn e1)⟩
 ·have Ce:(⟨top,O⟩:GI).own.Nodup:=by
   have h0:=h.gw.nodup t;simp only [GI.own]at h0 ⊢;rw [List.nodup_append]at h0 ⊢;refine⟨by rcases Cw with rfl|⟨g0,hr,rfl⟩<;>simp,by rcases hO with rfl|rfl;simp;exact h0.2.1,fun p hp q hq=> ?_⟩;rcases Cw with rfl|⟨g0,hr,rfl⟩
   ·simp at hp
   ·simp at hp;subst hp;rcases hO with rfl|rfl
    ·simp at hq
    ·rcases E7 p hr with hh|⟨hh,_⟩
     ·exact h0.2.2 p hh q hq
     ·have:=h.gw.inb t q (by simp [GI.own,hq]);omega
  refine⟨fun u=> ?_,fun u u' Lj b hb=> ?_,fun u b hb=> ?_,fun u b hb=> ?_⟩
  ·rw [hG];split
   ·exact Ce
   ·exact h.gw.nodup u
  ·rw [hG]at hb ⊢;by_cases h1:u=t
   ·rw [if_pos h1]at hb;rw [if_neg (fun hh=>Lj (h1.trans hh.symm))];rcases BP b hb with hr|hb
    ·exact fun hh=>Ol u' (fun h2=>Lj (h1.trans h2.symm)) b hh hr
    ·exact h.gw.ct t u' (fun hh=>Lj (h1.trans hh)) b hb
   ·rw [if_neg h1]at hb;by_cases h2:u'=t
    ·rw [if_pos h2];intro BX;rcases BP b BX with hr|BX
     ·exact Ol u h1 b hb hr
     ·exact h.gw.ct u t h1 b hb BX
    ·rw [if_neg h2];exact h.gw.ct u u' Lj b hb
  ·rw [hG]at hb;split at hb
   ·rcases BP b hb with hr|hb
    ·rcases E7 b hr with hh|⟨hh,_⟩
     ·exact h.gw.allow t b (by simp [GI.own,hh])
     ·exact .inl (by rw [hh];exact h.base.size)
    ·exact h.gw.allow t b hb
   ·exact h.gw.allow u b hb
  ·rw [hG]at hb;show b<w'.heap.size;split at hb
   ·rcases BP b hb with hr|hb
    ·rcases E7 b hr with hh|⟨_,hh⟩
     ·exact Nat.lt_of_lt_of_le (h.gw.inb t b (by simp [GI.own,hh])) hg.size
     ·exact hh
    ·exact Nat.lt_of_lt_of_le (h.gw.inb t b hb) hg.size
   ·exact Nat.lt_of_lt_of_le (h.gw.inb u b hb) hg.size
 ·rcases hh with hh|⟨rfl,_⟩
  ·exact .inl (h.b8 u g1 hh)
  ·exact .inr rfl
 ·rw [DQ]at hf;split at hf
  ·rename_i hu;exact .inr hu
  ·exact .inl (h.cw u f hf)
theorem yK {w:World} {v:Value} {ys:List AV} {f:List Nat} {sz:Nat} (h:Rd w [v] [.sl ys] f) (hs: ∀y∈ys,y.cells.length=sz):
  ∃q r news N,v= .slice q ys.length r∧Src w sz q ys.length news∧Rd w news (AP ys) N∧(∀b∈N,b∈f)∧news.length=ys.length*sz∧(∀u∈news,u.oneCell'=true):=by
 rcases h.kind with hh|hh|hh|hh|hh|hh|hh|hh|hh|hh
 ·obtain⟨_,_,_,hh,_⟩:=hh;cases hh
 ·obtain⟨_,_,hh,_⟩:=hh;cases hh
 ·obtain⟨_,_,hh,_⟩:=hh;cases hh
 ·obtain⟨p,r,rfl,hh,rfl⟩:=hh;cases hh;refine⟨p,r, [], [],rfl, ?_, .nil,by simp,by simp,by simp⟩;cases p with
  |none=>exact .inl ⟨rfl,rfl,rfl⟩
  |some p=>exact .inr ⟨p,rfl,by simp,by simp,by simp⟩
 ·obtain⟨b,off,m,r,ys',cs,C,t,fz,sz',f1,rfl,hh,rfl,hb,h1,h2,h3,h4,h5,h6,G4,h7⟩:=hh;cases hh;subst h3;have Gm:sz'=sz:=by
   cases ys with
   |nil=>simp at h1
   |cons y ys=>rw [←h4 y (by simp),hs y (by simp)]
  subst Gm;have hl:=h7.len;rw [Nn ys h4]at hl;exact⟨_,r,cs,f1,rfl, .inr ⟨_,rfl,hl,fun j u hu=>by rw [Addr.add_lit,EY hb];exact h6 j u hu,G4⟩,h7,fun q hq=>by simp [hq],hl,G4⟩
 ·obtain⟨_,_,_,hh,_⟩:=hh;cases hh
 ·obtain⟨_,_,_,hh,_⟩:=hh;cases hh
 ·obtain⟨_,_,_,_,_,_,_,hh,_⟩:=hh;cases hh
 ·obtain⟨_,_,_,_,hh,_⟩:=hh;cases hh
 ·obtain⟨_,hh,_⟩:=hh;cases hh
end
section
variable {P:Program} {c:Cx} {n nx:Nat} {sl sl0:Nat→SV} {hp hp0:Nat→Option Aj} {a:Act} {o:Oper} {gs:Gd} {e:A5} {sg:BT} {nv:Nat}
theorem Pr (hp:Nat→Option Aj) (l m:List (Nat × Aj)):Ba hp (l++m)=Ba (Ba hp l) m:=by simp [Ba,List.foldl_append]
theorem zyz (h:Rel c n sl hp a) (hs: ∀t e,hp0 t=some e→hp t=some e) (k:Bg c.ρ gs) {el:TypeId} {s:SV} {v:Value} (hr:SR c [s] [v]) {y:E} (hy:Bq hp0 gs A1 s=some y) {fz:List (Nat × Aj)} {d:Bool} {ck:Cn} (ht:Ww P hp0 gs el s y=some (fz,d,ck)) (hc:ck.den c.ρ):
  ∃ts ys q r news N,DH hp0 gs ts=some fz∧y.den c.ρ= .sl ys∧(∀z∈ys,z.cells.length=P.cellsOf el)∧v= .slice q ys.length r∧Src c.w (P.cellsOf el) q ys.length news∧Rd c.w news (AP ys) N∧(∀b∈N,(c.bu (fz.map (·.1))).ok b)∧(d=true→N= [])∧news.length=ys.length*P.cellsOf el∧ ∀u∈news,u.oneCell'=true:=by
 have eh:EH c hp0:=fun t e hr=>h.ents t e (L0 hs hr);obtain⟨f,q1,q2⟩:=H5 eh k A1 hy hr A1 (Nat.le_refl _);unfold Ww at ht;split at ht
 ·simp only [Ah,Prod.mk.injEq]at ht;obtain⟨rfl,rfl,rfl⟩:=ht;obtain⟨ys,Dw,AH⟩:=hc;rw [Dw]at q1;obtain⟨q,r,news,N,hv,g1,g2,g3,g4,g5⟩:=yK q1 (fun z hz=>(AH z hz).1);have hN:N= []:=H3 g2 (fun x hx=>by
   obtain⟨z,hz,hx⟩:=List.mem_flatMap.1 hx;exact(AH z hz).2 x hx)
  exact⟨[],ys,q,r,news,N,rfl,Dw,fun z hz=>(AH z hz).1,hv,g1,g2,by simp [hN],fun _=>hN,g4,g5⟩
 ·split at ht
  ·rename_i JE;obtain⟨l,hl,ht⟩:=Av.1 ht;simp only [Prod.mk.injEq]at ht;obtain⟨rfl,rfl,rfl⟩:=ht;obtain⟨ys,Dw,AH⟩:=hc;rw [Dw]at q1;obtain⟨q,r,news,N,hv,g1,g2,g3,g4,g5⟩:=yK q1 AH;exact⟨_,ys,q,r,news,N,hl,Dw,AH,hv,g1,g2,fun b hb=>VN h eh k hl JE (q2 b (g3 b hb)),by simp,g4,g5⟩
  ·cases ht
theorem LC {el:TypeId} (h:IE P el=true): ∃i z,P.info? el=some i∧i.zero=some z∧z.cells.size=i.size∧0<i.size∧P.cellsOf el=i.size∧P.bytesOf el=i.bytes:=by
 unfold IE at h;cases hi:P.info? el with
 |none=>simp [hi]at h
 |some i=>
  cases hz:i.zero with
  |none=>simp [hi,hz]at h
  |some z=>simp only [hi,hz,Ae,beq_iff_eq,bne_iff_ne]at h;exact⟨i,z,rfl,hz,h.1,by omega,by simp [Program.cellsOf,hi],by simp [Program.bytesOf,hi]⟩
theorem oR (xs ys:List AV):AP (xs++ys)=AP xs++AP ys:=by simp [AP]
theorem oD (h:Br P c n nx sl hp a sl0 hp0 o gs) {x y:Operand} {tx:TypeId} {cl:Call} (ho:o.op= .call cl) (AH:cl.callee= .builtin .append) (Dq:cl.args.toList= [x,y]) (Ev:cl.argTypes.toList= [tx,tx])
  {el:TypeId} (BA:P.underlying tx=some (.slice el)) (hz:IE P el=true) {s2:SV} {ye:E} (A4:BN sl0 gs y=some s2) (hy:Bq hp0 gs A1 s2=some ye) {fz:List (Nat × Aj)} {d:Bool} {ck:Cn} (Cf:Ww P hp0 gs el s2 ye=some (fz,d,ck)) (Js:ck.den c.ρ)
  {t g:Nat} (EG:c.A.pin t=none∨g≠0) {c0:E} {d':Bool} (Cv:Cn.den c.ρ (.room c0 ye (P.bytesOf el))) (E9: ∀f,(t,f)∉fz) (A2: ¬c.K t g)
  {top N0:List Nat} {v:Value} (hv:a.eval x=v) (BK:CZ c.w el (P.cellsOf el) v (c0.den c.ρ) top N0) (Cw:(c.G t).top=top) (NQ: ∀b∈N0,c.ok b) (eR:d'=true→SY c.w N0∧(c.G t).O=N0) (K7: ∀g',c.K t g'→g'≤g) (hU: ∀u,u=t→c.U u∨(nx≤u∧u<nx+BH)) {ckl:List Cn}:
  AB P o c n nx sl hp gs a {bt:=ckl,val:= .own t g,bq:=fz++ [(t,CP gs (.row el (P.cellsOf el) g (.app c0 ye) (d&&d')))]}:=by
 have Ay:cl.args= #[x,y]:=by apply Array.ext';simp [Dq]
 have Hk:cl.argTypes= #[tx,tx]:=by apply Array.ext';simp [Ev]
 have DP:y∈o.op.operands:=by simp [ho,Op.operands,Call.operands,AH,Ay]
 obtain⟨i,z,hi,F8,DR,B7,Cz,GA⟩:=LC hz;obtain⟨ts,ys,q,r,news,N,HF,Dw,OD,Ds,FH,JF,F5,hdN,Xd,gI⟩:=zyz h.rel h.hp h.gs (h.c6 A4 DP) hy Cf Js;have Dl:=h.rel.freeze h.hp h.gs HF;obtain⟨xs,CH,Io,_,Bh⟩:=BK;obtain⟨mm,kk,HK,C5,TR,gV⟩:=Cv;rw [CH]at HK;rw [Dw]at C5;simp only [AV.len,AV.int.injEq,true_and]at HK C5;have Ew:(xs.length+ys.length)*i.bytes≤140737488355328:=by
  rw [←HK,←C5,GA]at TR;have h9:(((xs.length+ys.length)*i.bytes:Nat):Int)≤140737488355328:=by rw [Int.natCast_mul,Int.natCast_add];exact TR
  omega
 have G7:xs.length+ys.length≤140737488355328:=by rw [←HK,←C5]at gV;omega
 rw [Cz]at FH Xd Io OD Bh;obtain⟨old,hold,HN,Dz,CS⟩: ∃old,old.length=xs.length*i.size∧((xs.length=0∧ ∃q,v= .slice q 0 0)∨ ∃g cap C,v= .slice (some ⟨g,0,none⟩) xs.length cap∧xs.length≤cap∧cap≤maxLen∧c.w.heap[g]?=some (.cells C el (0,0))∧C.size=cap*i.size∧old=C.toList.take (xs.length*i.size)∧g∈(c.G t).top)∧Rd c.w old (AP xs) N0∧ ∀u∈old,u.oneCell'=true:=by
  rcases Bh with⟨rfl,⟨p,rfl⟩,rfl,rfl⟩|⟨g9,cap,C,rfl,h6,h7,h8,h9,rfl,G3,F4⟩
  ·exact⟨[],by simp, .inl ⟨rfl,p,rfl⟩, .nil,by simp⟩
  ·refine⟨_, ?_, .inr ⟨g9,cap,C,rfl,h6,h7,h8,h9,rfl,by rw [Cw];simp⟩,F4,G3⟩;have e9:C.toList.length=cap*i.size:=by rw [←h9];simp
   rw [List.length_take,e9];exact Nat.min_eq_left (Nat.mul_le_mul_right _ h6)
 obtain⟨v',w',AU,AS⟩:=sZ (P:=P) c.w tx o.type el i z BA hi F8 DR B7 (fun g9=>g9∈(c.G t).top) v xs.length old hold HN q ys.length r news FH (by simp only [maxLen];omega) Ew;have Ft:(execOp a.eval o).run P c.w= .ok (.value v') w':=by simp [execOp,ho,resolve,AH,Ay,Hk,invoke,builtin,hv,Ds,AU]
 intro next Q hk
 unfold Oper.wp;rw [Ft,Oper.upon_value];have hc1w:(c.bu (fz.map (·.1))).w=c.w:=rfl;have tD:(c.bu (fz.map (·.1))).G t=c.G t:=by simp only [Cx.bu];rw [if_neg];rintro hh;obtain⟨⟨u,f⟩,hf,rfl⟩:=List.mem_map.1 hh;exact E9 f hf
 obtain⟨row,top',Tz,E7,TY,BC,CL⟩: ∃row top',c.w.grownBy w' row∧(∀g0,row=some g0→g0∈(c.G t).top∨(g0=c.w.heap.size∧g0<w'.heap.size))∧(top'= []∨ ∃g0,row=some g0∧top'= [g0])∧
   (DJ (c.bu (fz.map (·.1))) ((c.bu (fz.map (·.1))).bd t g w' v' top' (if(d&&d')=true then(c.G t).O else []))→ ∃N',CZ w' el (P.cellsOf el) v' (.sl (xs++ys)) top' N'∧(∀b∈N',b∈N0∨b∈N)∧((d&&d')=true→N'=N0))∧ ∃p m r,v'= .slice p m r:=by
  rcases AS with⟨rfl,rfl,Ea⟩|⟨g9,cap,C,rfl,h1,h2,h3,h4,h5,h6,h7⟩
  ·have HO:ys= []:=List.eq_nil_of_length_eq_zero Ea;subst HO;refine⟨if top= []then none else top.head?,top,⟨rfl,rfl,rfl,Nat.le_refl _,fun _ _ _=>rfl⟩,fun g0 E7=> .inl ?_, ?_,fun _=>⟨N0, ?_,fun b hb=> .inl hb,fun _=>rfl⟩, ?_⟩
   ·rw [Cw];split at E7
    ·cases E7
    ·exact List.mem_of_mem_head? E7
   ·rcases Bh with⟨_,_,rfl,_⟩|⟨g9,_,_,_,_,_,_,_,rfl,_⟩
    ·exact .inl rfl
    ·exact .inr ⟨g9,by simp,rfl⟩
   ·rw [Cz];exact⟨xs,by simp,Io,B7,Bh⟩
   ·rcases HN with⟨_,p,rfl⟩|⟨g9,cap,C,rfl,_⟩
    ·exact⟨_,_,_,rfl⟩
    ·exact⟨_,_,_,rfl⟩
  ·refine⟨some g9, [g9],h6,fun g0 E7=> ?_, .inr ⟨g9,rfl,rfl⟩,fun GD=>⟨N0++N,⟨xs++ys,rfl,fun z hz=> ?_,by rw [Cz];exact B7, .inr ⟨g9,cap,C,by simp,by simpa using h1,h2,h3,by rw [Cz];exact h4,rfl, ?_, ?_⟩⟩,fun b hb=>Ai.1 hb,fun EU=> ?_⟩,_,_,_,rfl⟩
   ·cases E7;exact h7.symm
   ·rcases Ai.1 hz with hz|hz
    ·rw [Cz];exact Io z hz
    ·rw [Cz];exact OD z hz
   ·rw [Cz];simp only [As];rw [h5];intro u hu;rcases Ai.1 hu with hu|hu
    ·exact CS u hu
    ·exact gI u hu
   ·rw [Cz];simp only [As];rw [h5,oR];refine Rd.app (Dz.frame fun b hb=> ?_) (JF.frame fun b hb=> ?_)
    ·have Ew:=Dz.inb b hb;exact GD.mem b Ew (Cx.fh (NQ b hb))
    ·have Ew:=JF.inb b hb;exact GD.mem b Ew (F5 b hb)
   ·simp only [Ae]at EU;rw [hdN EU.1];simp
 obtain⟨p9,m9,r9,hv9⟩:=CL;have DN:=Dl.bd (gs:=gs) (t:=t) (g:=g) (w':=w') (row:=row) (top:=top') (O:=if(d&&d')=true then(c.G t).O else []) (v:=v') EG A2 Tz (by rw [tD];exact E7) TY (by split;exact .inr (by rw [tD]);exact .inl rfl)
  (.row el (P.cellsOf el) g (.app c0 ye) (d&&d')) (by intros;simp) h.gs (fun GD=>by
   obtain⟨N',o1,o2,o3⟩:=BC GD;have Az: ∀b∈N',((c.bu (fz.map (·.1))).bd t g w' v' top' (if(d&&d')=true then(c.G t).O else [])).ok b:=by
    intro b hb;rcases o2 b hb with hb|hb
    ·exact GD.ok b (Dz.inb b hb) (Cx.fh (NQ b hb))
    ·exact GD.ok b (JF.inb b hb) (F5 b hb)
   refine⟨.inr ⟨rfl,rfl⟩,fun g' CA=> ?_,N', ?_,Az,fun EU=> ?_,fun EU=> ?_⟩
   ·rcases CA with CA|⟨_,rfl⟩
    ·exact K7 g' CA
    ·exact Nat.le_refl _
   ·have e1:((c.bu (fz.map (·.1))).bd t g w' v' top' (if(d&&d')=true then(c.G t).O else [])).H t g=v':=by simp [Cx.bd]
    have e2:(((c.bu (fz.map (·.1))).bd t g w' v' top' (if(d&&d')=true then(c.G t).O else [])).G t).top=top':=by simp [Cx.bd]
    rw [e1,e2];show CZ w' el (P.cellsOf el) v' (AV.app (c0.den c.ρ) (ye.den c.ρ)) top' N';rw [CH,Dw];exact o1
   ·have dS:=o3 EU;have eS:d'=true:=by simp only [Ae]at EU;exact EU.2
    obtain⟨u1,u2⟩:=eR eS;subst dS;refine⟨u1.frame fun b hb=>GD.mem b (Dz.inb b hb) (Cx.fh (NQ b hb)), ?_⟩;simp only [Cx.bd,if_true,EU];exact u2
   ·simp [Cx.bd,EU])
 have eA:SR ((c.bu (fz.map (·.1))).bd t g w' v' top' (if(d&&d')=true then(c.G t).O else [])) [.own t g] [v']:=by rw [hv9];exact .own (.inr ⟨rfl,rfl⟩) (by simp [Cx.bd]) .nil
 refine hk _ ((c.bu (fz.map (·.1))).bd t g w' v' top' (if(d&&d')=true then(c.G t).O else [])) ⟨rfl,rfl,rfl,rfl,fun u hu=> ?_⟩ ?_
 ·rcases hu with hu|rfl
  ·exact .inl hu
  ·exact hU u rfl
 ·have:=DN.put (eA.mkGd gs h.gs) o.dst;rw [Pr];exact this
end
section
variable {P:Program} {c:Cx} {n nx:Nat} {sl sl0:Nat→SV} {hp hp0:Nat→Option Aj} {a:Act} {o:Oper} {gs:Gd} {e:A5} {sg:BT} {nv:Nat}
theorem Ky {t el:TypeId} (h:CI P t=some el):P.underlying t=some (.slice el):=by
 unfold CI at h;split at h
 ·simp at h;subst h;assumption
 ·cases h
theorem zxg {ts:List Nat} {l:List (Nat × Aj)} (k:Bg c.ρ gs) (h:DH hp0 gs ts=some l): ∀t f,(t,f)∈l→ ∃g x f',Cs c.ρ (hp0 t) f'∧LR f' g x:=by intro t f hf;obtain⟨_,_,g,x,f',_,r⟩:=(O8 k h).1 t f hf;exact⟨g,x,f',r⟩
theorem zxO (h:Br P c n nx sl hp a sl0 hp0 o gs) {x y:Operand} {tx ty:TypeId} {cl:Call} (ho:o.op= .call cl) (AH:cl.callee= .builtin .append) (Dq:cl.args.toList= [x,y]) (Ev:cl.argTypes.toList= [tx,ty])
  {s1 s2:SV} (BI:BN sl0 gs x=some s1) (A4:BN sl0 gs y=some s2) (he:qO P hp0 gs nx tx ty s1 s2=some e) (hc: ∀q∈e.bt,Cn.den c.ρ q):AB P o c n nx sl hp gs a e:=by
 have Ay:cl.args= #[x,y]:=by apply Array.ext';simp [Dq]
 have Eb:x∈o.op.operands:=by simp [ho,Op.operands,Call.operands,AH,Ay]
 unfold qO at he;split at he
 ·cases he
 rename_i Oz;have Oz:tx=ty:=by simpa using Oz
 subst Oz;split at he
 ·rename_i el BA;have BA:=Ky BA;split at he
  ·cases he
  rename_i hz;have hz:IE P el=true:=by simpa using hz
  split at he
  ·cases he
  rename_i ye hy;split at he
  ·cases he
  rename_i fz d ck Cf;obtain⟨ts,HF⟩: ∃ts,DH hp0 gs ts=some fz:=by
   unfold Ww at Cf;split at Cf
   ·simp only [Ah,Prod.mk.injEq]at Cf;obtain⟨rfl,_⟩:=Cf;exact⟨[],rfl⟩
   ·split at Cf
    ·obtain⟨l,hl,Cf⟩:=Av.1 Cf;simp only [Prod.mk.injEq]at Cf;obtain⟨rfl,_⟩:=Cf;exact⟨_,hl⟩
    ·cases Cf
  have r1:=h.c6 BI Eb;have fresh: ∀f,(nx,f)∉fz:=fun f hf=>by
   obtain⟨_,_,_,r,_⟩:=zxg (c:=c) h.gs HF nx f hf;have r:=L0 h.hp r;cases hh:hp nx with
   |none=>rw [hh]at r;exact r.elim
   |some e9=>exact Ps h (h.rel.cw nx e9 hh)
  have hK: ∀g,¬c.K nx g:=fun g hg=>Ps h (h.rel.b8 _ _ hg);have Gk:=h.rel.off nx (fun e9 hr=>by
   cases hh:hp nx with
   |none=>rw [hh]at hr;exact hr.elim
   |some e8=>exact Ps h (h.rel.cw nx e8 hh))
  have Xg:c.A.pin nx=none:=by
   cases hh:c.A.pin nx with
   |none=>rfl
   |some v=>exact absurd (h.rel.base.pins nx v hh).1 (Ps h)
  have tL: ∀u,u=nx→c.U u∨(nx≤u∧u<nx+BH):=fun u hu=> .inr ⟨by omega,by rw [hu];simp [BH]⟩;have uK:P.cellsOf el≠0:=by obtain⟨i,_,_,_,_,h1,h2,_⟩:=LC hz;omega
  split at he
  ·rename_i t g;split at he
   ·rename_i e' sz' g' c0 d' hl;split at he
    ·rename_i hh;obtain⟨rfl,rfl,rfl,rfl,E9⟩:=hh;simp only [Ah]at he;subst he;have Fq:=CV hl h.gs;obtain⟨q1,q2,N,q3,q4,q5,q6⟩:=h.eh t _ Fq;generalize hv:a.eval x=v at r1;cases r1 with
     |own k1 k2 _=>
      have:=oD (nx:=nx) h ho AH Dq Ev BA hz A4 hy Cf (hc _ (by simp)) (t:=t) (g:=g+1) (.inr (by omega)) (c0:=c0) (d':=d') (hc _ (by simp)) (fun f hf=>by simp only [Bool.not_eq_true',List.contains_eq_mem,decide_eq_false_iff_not]at E9;exact E9 (List.mem_map.2 ⟨_,hf,rfl⟩)) (fun hh=>by have:=q2 _ hh;omega) hv (by rw [←k2];exact q3) rfl q4 q5 (fun g' CA=>by have:=q2 _ CA;omega) (fun u hu=> .inl (by rw [hu];exact h.rel.b8 t g q1)) (ckl:= [.room c0 ye (P.bytesOf el),ck])
      exact this
    ·cases he
   ·cases he
  ·simp only [Ah]at he;subst he;generalize hv:a.eval x=v at r1;cases r1 with
   |emp _=>have:=oD (nx:=nx) h ho AH Dq Ev BA hz A4 hy Cf (hc _ (by simp)) (t:=nx) (g:=0) (.inl Xg) (c0:= .lst .nil) (d':=true) (top:= []) (N0:= []) (hc _ (by simp)) fresh (hK 0) hv ⟨[],rfl,by simp,by omega, .inl ⟨rfl,⟨_,rfl⟩,rfl,rfl⟩⟩ Gk.1 (by simp) (fun _=>⟨rfl,Gk.2⟩) (fun g' CA=>absurd CA (hK g')) tL (ckl:= [.room (.lst .nil) ye (P.bytesOf el),ck]);rw [Bool.and_true]at this;exact this
  ·simp only [Ah]at he;subst he;generalize hv:a.eval x=v at r1;cases r1 with
   |cf _=>have:=oD (nx:=nx) h ho AH Dq Ev BA hz A4 hy Cf (hc _ (by simp)) (t:=nx) (g:=0) (.inl Xg) (c0:= .lst .nil) (d':=true) (top:= []) (N0:= []) (hc _ (by simp)) fresh (hK 0) hv ⟨[],rfl,by simp,by omega, .inl ⟨rfl,⟨_,rfl⟩,rfl,rfl⟩⟩ Gk.1 (by simp) (fun _=>⟨rfl,Gk.2⟩) (fun g' CA=>absurd CA (hK g')) tL (ckl:= [.room (.lst .nil) ye (P.bytesOf el),ck]);rw [Bool.and_true]at this;exact this
  ·cases he
 ·cases he
end
section
variable {P:Program} {c:Cx} {n nx:Nat} {sl sl0:Nat→SV} {hp hp0:Nat→Option Aj} {a:Act} {o:Oper} {gs:Gd} {e:A5} {sg:BT} {nv:Nat}
theorem U0: ∀{ts us:List Nat} {l m:List (Nat × Aj)},DH hp0 gs ts=some l→DH hp0 gs us=some m→DH hp0 gs (ts++us)=some (l++m)
 | [],us,l,m,h,k=>by simp [DH]at h;subst h;simpa using k
 |t::ts,us,l,m,h,k=>by
  unfold DH at h;simp only [List.cons_append];unfold DH;split at h
  ·rename_i ety sz g x d l' hl Bu;have ih:=U0 Bu k;split at h
   ·rename_i hg;simp at h;subst h;simp [hl,ih,hg]
   ·cases h
  ·rename_i ety sz dl g ep x l' hl Bu;have ih:=U0 Bu k;split at h
   ·rename_i hg;simp at h;subst h;simp [hl,ih,hg]
   ·cases h
  ·rename_i g x l' hl Bu;have ih:=U0 Bu k;simp at h;subst h;simp [hl,ih]
  ·rename_i ty g cs l' hl Bu;have ih:=U0 Bu k;simp at h;subst h;simp [hl,ih]
  ·cases h
theorem zt6 {ts us:List Nat} (hs: ∀t∈ts,t∈us) {b:Nat} (h:(c.bu ts).ok b):(c.bu us).ok b:=by refine⟨fun hm=>h.1 ?_,h.2⟩;obtain⟨u,hu,hb⟩:=Cx.j0 hm;exact⟨u,by simp only [Cx.bu];rw [if_neg (fun hh=>hu (hs u hh))];exact hb⟩
theorem qL {w:World} {v:Value} {x:AV} {f:List Nat} {t:TypeId} (h:Rd w [v] [x] f) (hg:Aq P t=true∨P.cellsOf t=1) (hx:if Aq P t then∃cs,x= .agg cs∧cs.length=P.cellsOf t else(∀cs,x≠ .agg cs)∧ ∀cs,x≠ .tup cs):
  Rd w v.cells.toList x.cells f∧(∀u∈v.cells.toList,u.oneCell'=true)∧x.cells.length=P.cellsOf t∧v.cells.size=P.cellsOf t:=by
 split at hx
 ·obtain⟨cs,rfl,hl⟩:=hx;obtain⟨as_,rfl,h1,h2⟩:=Kb h rfl;have:=h2.len;exact⟨by simpa [Value.cells,AV.cells]using h2,by simpa [Value.cells]using h1,hl,by simp [Value.cells];omega⟩
 ·rename_i hna;have h1:P.cellsOf t=1:=by rcases hg with h'|h';exact absurd h' hna;exact h'
  have CS:=oY h hx.1 hx.2;have Io:x.cells= [x]:=by cases x<;>first|rfl|exact absurd rfl (hx.1 _)
  rw [one_cells CS,Io];exact⟨by simpa using h,by simpa using CS,by simp [h1],by simp [h1]⟩
theorem zrD (h:Rel c n sl hp a) (hs: ∀t e,hp0 t=some e→hp t=some e) (k:Bg c.ρ gs) {t:TypeId} (hg:Aq P t=true∨P.cellsOf t=1): ∀(ss:List SV) (vs:List Value) {xs:List E} {fz:List (Nat × Aj)} {d:Bool} {ck:List Cn},SR c ss vs→Wr P hp0 gs t ss=some (xs,fz,d,ck)→(∀q∈ck,q.den c.ρ)→
  ∃N,Rd c.w (vs.flatMap fun v=>v.cells.toList) (AP (xs.map (E.den c.ρ))) N∧(d=true→N= [])∧(∃ts,DH hp0 gs ts=some fz)∧(∀b∈N,(c.bu (fz.map (·.1))).ok b)∧(∀v∈vs,v.cells.size=P.cellsOf t∧ ∀u∈v.cells.toList,u.oneCell'=true)∧(∀x∈xs,(x.den c.ρ).cells.length=P.cellsOf t)∧xs.length=vs.length
 | [],vs,xs,fz,d,ck,hr,ht,hc=>by simp [Wr]at ht;obtain⟨rfl,rfl,rfl,rfl⟩:=ht;cases hr;exact⟨[],by simpa [AP]using Rd.nil,fun _=>rfl,⟨[],rfl⟩,by simp,by simp,by simp,rfl⟩
 |s::ss, [],xs,fz,d,ck,hr,ht,hc=>by have:=hr.len;simp at this
 |s::ss,v::vs,xs,fz,d,ck,hr,ht,hc=>by
  obtain⟨r1,r2⟩:=hr.cg;unfold Wr at ht;split at ht
  ·rename_i x fz1 d1 ck1 xs2 fz2 d2 ck2 h1 h2;simp only [Ah,Prod.mk.injEq]at ht;obtain⟨rfl,rfl,rfl,rfl⟩:=ht;obtain⟨f,q1,q2,⟨ts1,q3,q4⟩,q5⟩:=zsE h hs k r1 h1 (fun q hq=>hc q (by simp [hq]));obtain⟨N,p1,p2,⟨ts2,p3⟩,p4,p5,p6,p7⟩:=zrD h hs k hg ss vs r2 h2 (fun q hq=>hc q (by simp [hq]));obtain⟨o1,o2,o3,o4⟩:=qL (P:=P) q1 hg q5;refine⟨f++N, ?_,fun hd=> ?_,⟨_,U0 q3 p3⟩,fun b hb=> ?_, ?_, ?_,by simp [p7]⟩
   ·simpa [AP]using o1.app p1
   ·simp only [Ae]at hd;rw [q2 hd.1,p2 hd.2];rfl
   ·rcases Ai.1 hb with hb|hb
    ·exact zt6 (fun t ht=>by simp only [List.map_append,Ai];exact .inl ht) (q4 b hb)
    ·exact zt6 (fun t ht=>by simp only [List.map_append,Ai];exact .inr ht) (p4 b hb)
   ·intro u hu;rcases Ag.1 hu with rfl|hu
    ·exact⟨o4,o2⟩
    ·exact p5 u hu
   ·intro u hu;rcases Ag.1 hu with rfl|hu
    ·exact o3
    ·exact p6 u hu
  ·cases ht
theorem qH {sz:Nat} (place:Nat→Option (Nat × Nat)) (Ot: ∀i,place i=some (i*sz,sz)): ∀(vs:List Value) (k:Nat) (C:Array Value) (pre suf:List Value),C.toList=pre++suf→pre.length=k*sz→suf.length=vs.length*sz→(∀v∈vs,v.cells.size=sz)→
  ∃C',Instr.fill place C ((vs.zipIdx k).map fun p=>(p.2,p.1))=some C'∧C'.toList=pre++vs.flatMap fun v=>v.cells.toList
 | [],k,C,pre,suf,h,_,h2,_=>by have:suf= []:=List.eq_nil_of_length_eq_zero (by simpa using h2);subst this;exact⟨C,rfl,by simpa using h⟩
 |v::vs,k,C,pre,suf,h,h1,h2,h3=>by
  have hv:=h3 v (by simp);simp only [Ap,Nat.add_mul,Nat.one_mul]at h2;have hC:C.size=pre.length+suf.length:=by rw [←Array.length_toList,h,As]
  have Mk:(v.cells.zipIdx.foldl (fun cs (p:Value × Nat)=>cs.setIfInBounds (k*sz+p.2) p.1) C).toList=setVs C.toList (k*sz) v.cells.toList:=by have:=wI v.cells.toList 0 (k*sz) C (by simp;omega);rw [←Array.foldl_toList,Array.toList_zipIdx];simpa using this
  have gZ:setVs C.toList (k*sz) v.cells.toList=(pre++v.cells.toList)++suf.drop sz:=by unfold setVs;rw [h,←h1,List.take_left' rfl];congr 1;rw [List.drop_append,List.drop_eq_nil_of_le (by omega)];simp [hv]
  obtain⟨C',g1,g2⟩:=qH place Ot vs (k+1) (v.cells.zipIdx.foldl (fun cs (p:Value × Nat)=>cs.setIfInBounds (k*sz+p.2) p.1) C) (pre++v.cells.toList) (suf.drop sz) (by rw [Mk,gZ]) (by simp [h1,hv,Nat.add_mul]) (by simp;omega) (fun u hu=>h3 u (by simp [hu]));refine⟨C', ?_,by rw [g2];simp⟩;simp only [List.zipIdx_cons,List.map_cons];unfold Instr.fill;simp only [Ot];rw [if_neg (by simp [hv];omega)];exact g1
theorem AB.newRow (h:Br P c n nx sl hp a sl0 hp0 o gs) {ts:List Nat} {fz:List (Nat × Aj)} (HF:DH hp0 gs ts=some fz) {el:TypeId} {C:Array Value} {cap:Nat} {xs:List AV} {x:E} {d:Bool} {N:List Nat} {ckl:List Cn} {wd:World} (hwd:wd.heap=c.w.heap∧wd.os=c.w.os∧wd.tape=c.w.tape∧wd.output=c.w.output)
  (hr:(execOp a.eval o).run P c.w= .ok (.value (.slice (some ⟨c.w.heap.size,0,none⟩) xs.length cap)) (wd.alloc (.cells C el))) (hx:x.den c.ρ= .sl xs) (B7:P.cellsOf el≠0) (AH: ∀y∈xs,y.cells.length=P.cellsOf el) (hle:xs.length≤cap) (Jr:cap≤maxLen) (hC:C.size=cap*P.cellsOf el)
  (h1: ∀u∈C.toList.take (xs.length*P.cellsOf el),u.oneCell'=true) (hN:Rd c.w (C.toList.take (xs.length*P.cellsOf el)) (AP xs) N) (F5: ∀b∈N,(c.bu (fz.map (·.1))).ok b) (hd:d=true→N= []):
  AB P o c n nx sl hp gs a {bt:=ckl,val:= .own nx 0,bq:=fz++ [(nx,CP gs (.row el (P.cellsOf el) 0 x d))]}:=by
 intro next Q hk
 unfold Oper.wp;rw [hr,Oper.upon_value];have hU:=Ps h;have Dl:=h.rel.freeze h.hp h.gs HF;have hK: ∀g,¬c.K nx g:=fun g hg=>hU (h.rel.b8 _ _ hg);have Xg:c.A.pin nx=none:=by
  cases hh:c.A.pin nx with
  |none=>rfl
  |some v=>exact absurd (h.rel.base.pins nx v hh).1 hU
 have Gk:=h.rel.off nx (fun e9 hr=>by
  cases hh:hp nx with
  |none=>rw [hh]at hr;exact hr.elim
  |some e8=>exact hU (h.rel.cw nx e8 hh))
 obtain⟨w1,w2,w3,w4⟩:=hwd;have EC:c.w.grownBy (wd.alloc (.cells C el)) (some c.w.heap.size):=by
  refine⟨w2,w3,w4, ?_,fun k hk _=> ?_⟩
  ·show c.w.heap.size≤(wd.heap.push _).size;simp [w1]
  ·have:=Below.heap_alloc wd (.cells C el) k (by rw [w1];exact hk);rw [this,w1]
 have Mw:(wd.alloc (.cells C el)).heap[c.w.heap.size]?=some (.cells C el (0,0)):=by have:=heap_alloc_new wd (.cells C el);rw [w1]at this;exact this
 have An:c.w.heap.size<(wd.alloc (.cells C el)).heap.size:=FM Mw;have hO:(c.bu (fz.map (·.1))).G nx=⟨[], []⟩∨((c.bu (fz.map (·.1))).G nx).O= []:=by
  right;simp only [Cx.bu];split
  ·rfl
  ·exact Gk.2
 have DN:=Dl.bd (gs:=gs) (t:=nx) (g:=0) (w':=wd.alloc (.cells C el)) (row:=some c.w.heap.size) (top:= [c.w.heap.size]) (O:= []) (v:= .slice (some ⟨c.w.heap.size,0,none⟩) xs.length cap) (.inl Xg) (hK 0) EC (fun g0 E7=>by cases E7;exact .inr ⟨rfl,An⟩) (.inr ⟨_,rfl,rfl⟩) (.inl rfl)
  (.row el (P.cellsOf el) 0 x d) (by intros;simp) h.gs (fun GD=>by
   refine⟨.inr ⟨rfl,rfl⟩,fun g' CA=> ?_,N, ?_,fun b hb=>GD.ok b (hN.inb b hb) (F5 b hb),fun EU=> ?_,fun _=>by simp [Cx.bd]⟩
   ·rcases CA with CA|⟨_,rfl⟩
    ·exact absurd CA (hK g')
    ·exact Nat.le_refl _
   ·have e1:((c.bu (fz.map (·.1))).bd nx 0 (wd.alloc (.cells C el)) (.slice (some ⟨c.w.heap.size,0,none⟩) xs.length cap) [c.w.heap.size] []).H nx 0= .slice (some ⟨c.w.heap.size,0,none⟩) xs.length cap:=by simp [Cx.bd]
    have e2:(((c.bu (fz.map (·.1))).bd nx 0 (wd.alloc (.cells C el)) (.slice (some ⟨c.w.heap.size,0,none⟩) xs.length cap) [c.w.heap.size] []).G nx).top= [c.w.heap.size]:=by simp [Cx.bd]
    rw [e1,e2];show CZ (wd.alloc (.cells C el)) el (P.cellsOf el) _ (x.den c.ρ) _ N;rw [hx];exact⟨xs,rfl,AH,by omega, .inr ⟨_,cap,C,rfl,hle,Jr,Mw,hC,rfl,h1,hN.frame fun b hb=>GD.mem b (hN.inb b hb) (F5 b hb)⟩⟩
   ·rw [hd EU];exact⟨rfl,by simp [Cx.bd]⟩)
 have eA:SR ((c.bu (fz.map (·.1))).bd nx 0 (wd.alloc (.cells C el)) (.slice (some ⟨c.w.heap.size,0,none⟩) xs.length cap) [c.w.heap.size] []) [.own nx 0] [.slice (some ⟨c.w.heap.size,0,none⟩) xs.length cap]:=
  .own (.inr ⟨rfl,rfl⟩) (by simp [Cx.bd]) .nil
 refine hk _ ((c.bu (fz.map (·.1))).bd nx 0 (wd.alloc (.cells C el)) (.slice (some ⟨c.w.heap.size,0,none⟩) xs.length cap) [c.w.heap.size] []) ⟨rfl,rfl,rfl,rfl,fun u hu=> ?_⟩ ?_
 ·rcases hu with hu|rfl
  ·exact .inl hu
  ·exact .inr ⟨Nat.le_refl _,by simp [BH]⟩
 ·have:=DN.put (eA.mkGd gs h.gs) o.dst;rw [Pr];exact this
theorem zos {t el:TypeId} (hu:P.underlying t=some (.slice el)) (Bn:Dv P el=true) {i:TypeInfo} {z:Value} (hi:P.info? el=some i) (hz:i.zero=some z) (Cz:P.cellsOf el=i.size) (m:Nat) (hle:m*i.size≤2^24) (parts:Array (Nat × Value)) (C:Array Value)
  (hf:Instr.fill (fun j=>some (j*i.size,i.size)) ((Array.range (m*i.size)).map (fun j=>(if m*i.size=0 then #[]else z.cells)[j % (if m*i.size=0 then #[]else z.cells).size]!)) parts.toList=some C) (w:World):
  (Instr.buildSlice t m parts).run P w= .ok (.slice (some ⟨w.heap.size,0,none⟩) m m) (w.alloc (.cells C el)):=by
 have fY: ¬(2^24<m*i.size):=by omega
 have GG:Array.range 0= #[]:=rfl;by_cases h0:m*i.size=0
 ·simp only [h0,if_true,GG]at hf;have Tp: ∀f:Nat→Value,Array.map f #[]= #[]:=fun f=>by simp
  rw [Tp]at hf;simp only [Instr.buildSlice,Sem.run_bind,run_underlying hu,Result.andThen_ok,Ph Bn,Cz];simp [h0,GG,hf,newRow]
 ·simp only [h0,if_false]at hf;simp only [Instr.buildSlice,Sem.run_bind,run_underlying hu,Result.andThen_ok,Ph Bn,Cz];simp [h0,fY,zeroValue,typeInfo,hi,hz,hf,newRow]
theorem zrW (h:Br P c n nx sl hp a sl0 hp0 o gs) {t:TypeId} {m:Nat} {parts:Array (Nat × Operand)} (ho:o.op= .buildSlice t m parts) {ps:List (Nat × SV)} (MA:parts.toList.mapM (fun(p:Nat × Operand)=>(BN sl0 gs p.2).map fun s=>(p.1,s))=some ps) (he:oI P hp0 gs nx t m ps=some e) (hc: ∀q∈e.bt,Cn.den c.ρ q):AB P o c n nx sl hp gs a e:=by
 obtain⟨e1,e2⟩:=aU (c:=c) (a:=a) (parts.toList.map (·.2)) (fun x s hx hm=>h.c6 hx (by simpa [ho,Op.operands]using hm)) (fun x hx=>List.mem_map.2 ⟨x,hx,rfl⟩) MA;unfold oI at he;split at he
 ·rename_i el BA;have BA:=Ky BA;split at he
  ·cases he
  rename_i AO;simp only [not_or,Bool.not_eq_true',Bool.not_eq_false',ne_eq,Bool.not_eq_false,Nat.not_lt,Decidable.not_not]at AO;obtain⟨hz,Bn,AE,hle,Ey⟩:=AO;have AE:Aq P el=true∨P.cellsOf el=1:=by simpa using AE
  obtain⟨i,z,hi,F8,DR,B7,Cz,GA⟩:=LC hz;split at he
  ·rename_i xs fz d ck TW;split at he
   ·simp only [Ah]at he;subst he;obtain⟨N,p1,p2,⟨ts,p3⟩,p4,p5,p6,p7⟩:=zrD h.rel h.hp h.gs AE (ps.map (·.2)) (parts.toList.map fun p=>a.eval p.2) e2 TW hc;have hlen:(parts.toList.map fun p=>a.eval p.2).length=m:=by
     have:ps.length=m:=by have:=congrArg List.length Ey;simpa using this
     have h9:=congrArg List.length e1;simp at h9 ⊢;omega
    have Hh:(parts.map fun(x:Nat × Operand)=>(x.1,a.eval x.2)).toList=((parts.toList.map fun p=>a.eval p.2).zipIdx 0).map fun p=>(p.2,p.1):=by
     have JA:parts.toList.map (·.1)=List.range m:=by rw [←e1,Ey]
     apply List.ext_getElem?;intro j;have hj:(parts.toList.map (·.1))[j]?=(List.range m)[j]?:=by rw [JA]
     simp only [Array.toList_map,List.getElem?_map,List.getElem?_zipIdx]at hj ⊢;cases hp:parts.toList[j]? with
     |none=>simp
     |some p=>
      rw [hp]at hj;simp only [Option.map_some,Ah]at hj ⊢;have fS:j<m:=by
       rcases Nat.lt_or_ge j m with hh|hh
       ·exact hh
       ·rw [List.getElem?_eq_none (by simpa using hh)]at hj;cases hj
      rw [List.getElem?_range fS]at hj;simp at hj;simp [hj]
    obtain⟨C',f1,f2⟩:=qH (sz:=i.size) (fun j=>some (j*i.size,i.size)) (fun j=>rfl) (parts.toList.map fun p=>a.eval p.2) 0 ((Array.range (m*i.size)).map (fun j=>(if m*i.size=0 then #[]else z.cells)[j % (if m*i.size=0 then #[]else z.cells).size]!)) [] _ (by simp;rfl) (by simp) (by simp [hlen]) (fun v hv=>by rw [←Cz];exact(p5 v hv).1);have DY:C'.toList.length=m*P.cellsOf el:=by
     rw [f2,Cz];simp only [List.nil_append];have: ∀(L:List Value),(∀v∈L,v.cells.size=i.size)→(L.flatMap fun v=>v.cells.toList).length=L.length*i.size:=by
      intro L
      induction L with
      |nil=>intro _;simp
      |cons v L ih=>intro hL;simp only [List.flatMap_cons,As,Ap,Array.length_toList];rw [ih (fun u hu=>hL u (by simp [hu])),hL v (by simp),Nat.add_mul];omega
     rw [this _ (fun v hv=>by rw [←Cz];exact(p5 v hv).1),hlen]
    have JU:(xs.map (E.den c.ρ)).length=m:=by rw [List.length_map,p7,hlen]
    have CG:C'.toList.take ((xs.map (E.den c.ρ)).length*P.cellsOf el)=(parts.toList.map fun p=>a.eval p.2).flatMap fun v=>v.cells.toList:=by rw [JU,←DY,List.take_length,f2];simp
    refine AB.newRow (xs:=xs.map (E.den c.ρ)) (N:=N) (C:=C') (cap:=m) (wd:=c.w) h p3 ⟨rfl,rfl,rfl,rfl⟩ ?_ (by simp [E.den,EL.dk]) (by omega) (fun y hy=> ?_) (by omega) (by simp only [maxLen];have:m*1≤m*P.cellsOf el:=Nat.mul_le_mul_left _ (by omega);omega) (by rw [←Array.length_toList,DY]) ?_ (by rw [CG];exact p1) p4 p2
    ·rw [JU];have AU:=zos (P:=P) BA Bn hi F8 Cz m (by rw [←Cz];omega) (parts.map fun(x:Nat × Operand)=>(x.1,a.eval x.2)) C' (by rw [Hh];exact f1) c.w;simp only [execOp,ho,Sem.run_bind];rw [AU];rfl
    ·obtain⟨q,hq,rfl⟩:=List.mem_map.1 hy;exact p6 q hq
    ·rw [CG];intro u hu;obtain⟨v,hv,hu⟩:=List.mem_flatMap.1 hu;exact(p5 v hv).2 u hu
   ·cases he
  ·cases he
 ·cases he
end
end Go.Proofs.YtfdfahjmonlbiaaGreatDoor
end

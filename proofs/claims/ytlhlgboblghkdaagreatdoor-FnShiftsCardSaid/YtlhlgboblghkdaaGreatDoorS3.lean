/- Parts of a proof, joined: WA, VJa, VK, VL, VM, VN, VO, VP, VQ, VR, VS, VT, VU, VV, VW. -/
import Derived.Test.YtlhlgboblghkdaaGreatDoorS2
import Derived.WalkSpells
import Derived.Laws.BytesArg
set_option linter.unusedVariables false
set_option linter.unusedSimpArgs false
section
namespace Go.Proofs.YtlhlgboblghkdaaGreatDoor
open Go.RowKit
theorem IE: ∀{l:List (Nat × Aj)} {t:Nat} {e:Aj},AF l t=some e→(t,e)∈l
 | [],_,_,h=>by simp [AF]at h
 |(u,f)::l,t,e,h=>by
  simp only [AF]at h;split at h
  ·rename_i hu;subst hu;simp at h;subst h;simp
  ·exact List.mem_cons_of_mem _ (IE h)
theorem Mt {α:Type}: ∀{l:List (Nat × α)} {t:Nat} {e:α},l.lookup t=some e→(t,e)∈l
 | [],_,_,h=>by simp at h
 |(u,f)::l,t,e,h=>by
  simp only [List.lookup_cons]at h;split at h
  ·rename_i hu;simp at h hu;subst h;subst hu;simp
  ·exact List.mem_cons_of_mem _ (Mt h)
theorem Yn: ∀{θ:List (Nat × Option Nat)},MN θ=true→ ∀{t u v:Nat},(t,some v)∈θ→(u,some v)∈θ→t=u
 | [],_,t,u,v,h,_=>by simp at h
 |(p,q)::θ,hn,t,u,v,h1,h2=>by
  have hn':MN θ=true:=by cases q<;>(simp only [MN,Ae]at hn;exact hn.2)
  have key: ∀x,(p,some v)=(p,q)→(x,some v)∈θ→False:=by intro x hq hx;cases hq;simp only [MN,Ae,AG]at hn;have:=hn.1 _ hx;simp at this
  rcases Af.1 h1 with h3|h3<;>rcases Af.1 h2 with h4|h4
  ·cases h3;cases h4;rfl
  ·cases h3;exact(key u rfl h4).elim
  ·cases h4;exact(key t rfl h3).elim
  ·exact Yn hn' h3 h4
def BO (hp:List (Nat × Aj)) (t:Nat):Option Nat:=match AF hp t with
 |some (.box ..)=>some 0
 |some (.row _ _ g _ _)=>some g
 |some (.bq g _)=>some g
 |some (.deep _ _ _ g _ _)=>some g
 |_=>none
def Hc (hp:List (Nat × Aj)) (t:Nat):Bool:=match AF hp t with
 |some (.box ..)=>true
 |some (.row ..)=>true
 |some (.deep ..)=>true
 |_=>false
def K0 (pat leaf:Option Aj) (g:GI):GI:=match pat,leaf with
 |some (.row ..),some (.deep ..)=>⟨g.top.take 1, []⟩
 |_,_=>g
theorem zBW {p l:Option Aj} {g:GI} {b:Nat} (h:b∈(K0 p l g).top):b∈g.top:=by
 unfold K0 at h;split at h
 ·exact List.mem_of_mem_take h
 ·exact h
theorem zA8 {p l:Option Aj} {g:GI} {b:Nat} (h:b∈(K0 p l g).own):b∈g.own:=by
 unfold K0 at h;split at h
 ·simp only [GI.own,List.append_nil]at h;simp [GI.own,List.mem_of_mem_take h]
 ·exact h
theorem zyo {p l:Option Aj} {g:GI} (h:g.own.Nodup):(K0 p l g).own.Nodup:=by
 unfold K0;split
 ·simp only [GI.own,List.append_nil]at h ⊢;exact List.Sublist.nodup (List.Sublist.trans (List.take_sublist _ _) (List.sublist_append_left _ _)) h
 ·exact h
def CV (c:Cx) (ρ:List AV) (θ:List (Nat × Option Nat)) (pat leaf:St):Cx:=
 {c with
  ρ:=ρ
  G:=fun t=>if Hc pat.hp t then(match θ.lookup t with|some (some t')=>K0 (AF pat.hp t) (AF leaf.hp t') (c.G t')|_=>⟨[], []⟩)else⟨[], []⟩
  K:=fun t g=>BO pat.hp t=some g
  H:=fun t _=>match θ.lookup t with|some (some t')=>c.H t' ((BO leaf.hp t').getD 0)|_=> .slice none 0 0
  U:=fun t=>t<pat.nx
  E:=fun t=>match AF pat.hp t with|some (.deep _ _ _ _ ep _)=>ep|_=>0}
section
variable {c:Cx} {ρ:List AV} {nv n:Nat} {es:List E} {θ:List (Nat × Option Nat)} {pat leaf:St} {sl:Nat→SV} {a:Act}
theorem MO {t b:Nat} (h:b∈((CV c ρ θ pat leaf).G t).own):Hc pat.hp t=true∧ ∃t',θ.lookup t=some (some t')∧(b∈((CV c ρ θ pat leaf).G t).top→b∈(c.G t').top)∧b∈(c.G t').own:=by
 simp only [CV]at h ⊢;split at h
 ·rename_i ho;split at h
  ·rename_i t' ht;exact⟨ho,t',ht,fun hb=>by rw [if_pos ho]at hb;exact zBW hb,zA8 h⟩
  ·simp [GI.own]at h
 ·simp [GI.own]at h
theorem Rb {b:Nat} (h:c.ok b):(CV c ρ θ pat leaf).ok b:=by refine⟨fun⟨t,ht⟩=> ?_,h.2⟩;obtain⟨_,t',_,hg,_⟩:=MO (b:=b) (by simp only [GI.own,Ah];exact .inl ht);exact h.1 ⟨t',hg ht⟩
theorem Le (hp:ρ<+:c.ρ) (hn:ρ.length=nv) {x y:E} (h:Jr nv es x y=true):x.den (ρ++(EL.of es).den c.ρ)=y.den c.ρ:=by
 obtain⟨τ,hτ⟩:=hp;have KK:x.sc nv=true→x.beq y=true→x.den (ρ++(EL.of es).den c.ρ)=y.den c.ρ:=by intro h1 h2;rw [←E.aq c.ρ x y h2];subst hn;generalize hq:(EL.of es).den c.ρ=q;rw [E.ax ρ q τ x h1,hτ]
 unfold Jr at h;split at h
 ·rename_i i;split at h
  ·rename_i hi;exact KK (by simpa [E.sc]using hi) h
  ·rename_i hi;split at h
   ·rename_i z hz;rw [←E.aq c.ρ z y h];simp only [E.den,EL.de];rw [List.getElem?_append_right (by omega),hn,List.getElem?_map,hz];rfl
   ·cases h
 ·simp only [Ae]at h;exact KK h.1 h.2
theorem zBp (As:Rel c n sl (AF leaf.hp) a) {s:SV} {v:Value} {y:E} (hs:SR c [s] [v]) (h:IS leaf s=some y): ∃f,Rd c.w [v] [y.den c.ρ] f∧ ∀b∈f,c.ed (BH (AF leaf.hp) [] (AT+1) [s]) b:=
 HM (fun t e hr=>As.ents t e hr) (EE _) AT h hs AT (Nat.le_refl _)
mutual
theorem qH (As:Rel c n sl (AF leaf.hp) a) (hp:ρ<+:c.ρ) (hn:ρ.length=nv) (B5: ∀t e,(t,e)∈pat.hp→Iu nv es θ pat leaf t e=true): ∀(m:Nat) {p s:SV} {v:Value},SY nv es θ pat leaf m p s=true→SR c [s] [v]→SR (CV c (ρ++(EL.of es).den c.ρ) θ pat leaf) [p] [v]
 |0,p,s,v,h,_=>by simp [SY]at h
 |m+1,p,s,v,h,hs=>by
  unfold SY at h;split at h
  ·exact .undef .nil
  ·rename_i x;split at h
   ·rename_i y hy;simp only [Ae,AG,Bool.or_eq_true]at h;obtain⟨f,hf,H8⟩:=zBp As hs hy;have hx:=Le (c:=c) hp hn h.1;refine .e (by rw [show(CV c (ρ++(EL.of es).den c.ρ) θ pat leaf).ρ=ρ++(EL.of es).den c.ρ from rfl,hx];exact hf) (fun b hb=> ?_) .nil;rcases H8 b hb with hb|⟨t',LZ,hb⟩
    ·exact Rb hb
    ·refine⟨fun⟨u,hu⟩=> ?_, .inr (As.gw.allow t' b (by simp [GI.own,hb]))⟩;obtain⟨ho,v',hl,hg,R1⟩:=MO (b:=b) (by simp only [GI.own,Ah];exact .inl hu);have hv:v'=t':=by
      refine Classical.byContradiction fun A9=>As.gw.cm v' t' A9 b R1 (by simp [GI.own,hb])
     subst hv;have:=h.2 _ LZ _ (Mt hl);simp only [bne_self_eq_false,AY,false_or]at this;unfold Hc at ho;split at this
     ·rename_i hh;rw [hh]at ho;simp at ho
     ·rename_i hh;rw [hh]at ho;simp at ho
     ·cases this
   ·cases h
  ·split at h
   ·cases hs with
    |b8 _=>exact .b8 .nil
   ·cases h
  ·split at h
   ·cases hs with
    |emp _=>exact .emp .nil
   ·cases hs with
    |b8 _=>exact .emp .nil
   ·cases h
  ·rename_i t g;have key: ∀t' v',BO pat.hp t=some g→θ.lookup t=some (some t')→Kg leaf.hp t' v'=true→SR c [.own t' v'] [v]→SR (CV c (ρ++(EL.of es).den c.ρ) θ pat leaf) [.own t g] [v]:=by
    intro t' v' hg hl hv hs;cases hs with
    |own h1 h2 _=>
     refine .own hg ?_ .nil;show(match θ.lookup t with|some (some t')=>c.H t' ((BO leaf.hp t').getD 0)|_=>Value.slice none 0 0)=_;rw [hl];have:(BO leaf.hp t').getD 0=v':=by
      unfold Kg at hv;unfold BO;split at hv
      ·rename_i hh;rw [hh];simpa using(beq_iff_eq.1 hv).symm
      ·rename_i hh;rw [hh];simpa using(beq_iff_eq.1 hv).symm
      ·rename_i hh;rw [hh];simpa using(beq_iff_eq.1 hv).symm
      ·cases hv
     show c.H t' ((BO leaf.hp t').getD 0)=_;rw [this];exact h2
   split at h
   ·rename_i g' _ _ DZ;simp only [Ae,beq_iff_eq]at h;obtain⟨rfl,h⟩:=h;split at h
    ·simp only [Ae,beq_iff_eq]at h;exact key _ _ (by simp [BO,DZ]) h.1 h.2 hs
    ·rw [beq_iff_eq]at h;cases hs with
     |b8 _=>refine .own (p:=none) (q:=0) (r:=0) (by show BO pat.hp t=some g;simp [BO,DZ]) ?_ .nil;show(match θ.lookup t with|some (some t')=>c.H t' ((BO leaf.hp t').getD 0)|_=>Value.slice none 0 0)=_;rw [h]
    ·cases h
   ·rename_i g' _ DZ;simp only [Ae,beq_iff_eq]at h;obtain⟨rfl,h⟩:=h;split at h
    ·simp only [Ae,beq_iff_eq]at h;exact key _ _ (by simp [BO,DZ]) h.1 h.2 hs
    ·cases h
   ·rename_i g' _ _ DZ;simp only [Ae,beq_iff_eq]at h;obtain⟨rfl,h⟩:=h;split at h
    ·simp only [Ae,beq_iff_eq]at h;exact key _ _ (by simp [BO,DZ]) h.1 h.2 hs
    ·rw [beq_iff_eq]at h;cases hs with
     |b8 _=>refine .own (p:=none) (q:=0) (r:=0) (by show BO pat.hp t=some g;simp [BO,DZ]) ?_ .nil;show(match θ.lookup t with|some (some t')=>c.H t' ((BO leaf.hp t').getD 0)|_=>Value.slice none 0 0)=_;rw [h]
    ·cases h
   ·cases h
  ·rename_i t o;split at h
   ·rename_i ty g cs DZ;split at h
    ·rename_i t' o';simp only [Ae,beq_iff_eq]at h;obtain⟨rfl,hl⟩:=h;have HZ:=B5 t _ (IE DZ);simp only [Iu,hl]at HZ;split at HZ
     ·rename_i CQ;cases hs with
      |cg h1 h2 _=>
       refine .cg (by show BO pat.hp t=some 0;simp [BO,DZ]) ?_ .nil;show(match θ.lookup t with|some (some t')=>c.H t' ((BO leaf.hp t').getD 0)|_=>Value.slice none 0 0)=_;rw [hl];have:(BO leaf.hp t').getD 0=0:=by simp [BO,CQ]
       simp only [this];exact h2
     ·cases HZ
    ·cases h
   ·cases h
  ·cases h
  ·rename_i x i z o;split at h
   ·rename_i y j z' o';simp only [Ae,beq_iff_eq]at h;obtain⟨⟨⟨⟨⟨rfl,rfl⟩,h1⟩,h2⟩,h3⟩,h4⟩:=h;have hx:x.den (ρ++(EL.of es).den c.ρ)=y.den c.ρ:=by
     obtain⟨τ,hτ⟩:=hp;rw [←E.aq c.ρ x y h2];subst hn;generalize (EL.of es).den c.ρ=q;rw [E.ax ρ q τ x h1,hτ]
    have hi:i.den (ρ++(EL.of es).den c.ρ)=j.den c.ρ:=by obtain⟨τ,hτ⟩:=hp;rw [←E.aq c.ρ i j h4];subst hn;generalize (EL.of es).den c.ρ=q;rw [E.ax ρ q τ i h3,hτ]
    cases hs with
    |df g1 g2 g3 g4 g5 g6 _=>refine .df (f:=_) (by show Rd c.w _ [x.den (ρ++(EL.of es).den c.ρ)] _;rw [hx];exact g1) (fun b hb=>Rb (g2 b hb)) (by show i.den (ρ++(EL.of es).den c.ρ)=_;rw [hi];exact g3) g4 g5 (by show((x.den (ρ++(EL.of es).den c.ρ)).nth _).cells.length=_;rw [hx];exact g6) .nil
   ·cases h
  ·rename_i x o;split at h
   ·rename_i y o';simp only [Ae,beq_iff_eq]at h;obtain⟨⟨rfl,h1⟩,h2⟩:=h;have hx:x.den (ρ++(EL.of es).den c.ρ)=y.den c.ρ:=by
     obtain⟨τ,hτ⟩:=hp;rw [←E.aq c.ρ x y h2];subst hn;generalize (EL.of es).den c.ρ=q;rw [E.ax ρ q τ x h1,hτ]
    cases hs with
    |dd g1 g2 _=>exact .dd (by show Rd c.w _ [x.den (ρ++(EL.of es).den c.ρ)] _;rw [hx];exact g1) (fun b hb=>Rb (g2 b hb)) .nil
   ·cases h
  ·split at h
   ·cases hs with
    |agg h9 h1 _=>exact .agg h9 (UT As hp hn B5 m h h1) .nil
   ·cases h
  ·split at h
   ·cases hs with
    |tup h1 _=>exact .tup (UT As hp hn B5 m h h1) .nil
   ·cases h
  ·split at h
   ·simp only [Ae,beq_iff_eq]at h;obtain⟨rfl,h⟩:=h;cases hs with
    |fn h1 _=>exact .fn (UT As hp hn B5 m h h1) .nil
   ·cases h
  ·cases h
  ·cases h
  ·cases h
  ·cases h
  ·rename_i i;split at h
   ·rename_i j;simp only [Ae,beq_iff_eq,decide_eq_true_eq]at h;obtain⟨rfl,hi⟩:=h;cases hs with
    |lent g1 _=>
     have hx:(E.var i).den (ρ++(EL.of es).den c.ρ)=(E.var i).den c.ρ:=by obtain⟨τ,hτ⟩:=hp;subst hn;generalize (EL.of es).den c.ρ=q;rw [E.ax ρ q τ (.var i) (by simpa [E.sc]using hi),hτ]
     exact .lent (show c.A.lo v ((E.var i).den (ρ++(EL.of es).den c.ρ)) by rw [hx];exact g1) .nil
   ·cases h
theorem UT (As:Rel c n sl (AF leaf.hp) a) (hp:ρ<+:c.ρ) (hn:ρ.length=nv) (B5: ∀t e,(t,e)∈pat.hp→Iu nv es θ pat leaf t e=true): ∀(m:Nat) {ps ss:List SV} {vs:List Value},Hi nv es θ pat leaf m ps ss=true→SR c ss vs→SR (CV c (ρ++(EL.of es).den c.ρ) θ pat leaf) ps vs
 |0,ps,ss,vs,h,_=>by simp [Hi]at h
 |m+1, [], [],vs,h,hs=>by cases hs;exact .nil
 |m+1,p::ps, [],vs,h,hs=>by simp [Hi]at h
 |m+1, [],s::ss,vs,h,hs=>by simp [Hi]at h
 |m+1,p::ps,s::ss, [],h,hs=>by have:=hs.len;simp at this
 |m+1,p::ps,s::ss,v::vs,h,hs=>by simp only [Hi,Ae]at h;obtain⟨h1,h2⟩:=hs.cd;exact(qH As hp hn B5 m h.1 h1).cons (UT As hp hn B5 m h.2 h2)
end
theorem zxR (As:Rel c n sl (AF leaf.hp) a) (hp:ρ<+:c.ρ) (hn:ρ.length=nv) (B5: ∀t e,(t,e)∈pat.hp→Iu nv es θ pat leaf t e=true) (hθ:MN θ=true) {t:Nat} {e:Aj} (ht:AF pat.hp t=some e):CX (CV c (ρ++(EL.of es).den c.ρ) θ pat leaf) t e:=by
 have h:=B5 t e (IE ht);have nG:Hc pat.hp t=false→(CV c (ρ++(EL.of es).den c.ρ) θ pat leaf).G t=⟨[], []⟩:=by intro h0;simp only [CV];rw [if_neg (by rw [h0];simp)]
 have nH: ∀t',Hc pat.hp t=true→θ.lookup t=some (some t')→(CV c (ρ++(EL.of es).den c.ρ) θ pat leaf).G t=K0 (AF pat.hp t) (AF leaf.hp t') (c.G t'):=by intro t' h0 hl;simp only [CV];rw [if_pos h0,hl]
 have RP: ∀t',Hc pat.hp t=true→θ.lookup t=some (some t')→(∀q1 q2 q3 q4 q5 q6,AF leaf.hp t'=some (.deep q1 q2 q3 q4 q5 q6)→ ∀p1 p2 p3 p4 p5,e≠ .row p1 p2 p3 p4 p5)→(CV c (ρ++(EL.of es).den c.ρ) θ pat leaf).G t=c.G t':=by
  intro t' h0 hl DB;rw [nH t' h0 hl,ht];unfold K0;split
  ·rename_i h1 h2;simp only [Ag]at h1;exact absurd h1 (DB _ _ _ _ _ _ h2 _ _ _ _ _)
  ·rfl
 have Kx: ∀t' g,θ.lookup t=some (some t')→BO leaf.hp t'=some g→ ∀g',(CV c (ρ++(EL.of es).den c.ρ) θ pat leaf).H t g'=c.H t' g:=by intro t' g hl hg g';simp only [CV,hl,hg,Option.getD_some]
 have En: ∀g,BO pat.hp t=some g→ ∀g',(CV c (ρ++(EL.of es).den c.ρ) θ pat leaf).K t g'→g'≤g:=by intro g hg g' hk;have BM:BO pat.hp t=some g':=hk;rw [hg]at BM;cases BM;exact Nat.le_refl _
 cases e with
 |box ty g cs=>
  simp only [Iu]at h;split at h
  ·rename_i t' hl;split at h
   ·rename_i ty' g' ds CQ;simp only [Ae,beq_iff_eq]at h;obtain⟨⟨rfl,rfl⟩,h⟩:=h;obtain⟨b,C,h1,h2,h3,h4,h5,h6,h7⟩:=As.ents t' _ (by rw [CQ];rfl);have hg:=RP t' (by simp [Hc,ht]) hl (by intros;simp);exact⟨b,C,by show BO pat.hp t=some 0;simp [BO,ht],by rw [Kx t' 0 hl (by simp [BO,CQ])];exact h2,by rw [hg];exact h3,by rw [hg];exact h4,h5,h6,UT As hp hn B5 _ h h7⟩
   ·cases h
  ·cases h
 |row et z g x d=>
  simp only [Iu]at h;split at h
  ·rename_i t' hl;split at h
   ·rename_i et' z' g' y d' CQ;simp only [Ae,beq_iff_eq,Bool.or_eq_true,Bool.not_eq_true']at h;obtain⟨⟨⟨rfl,rfl⟩,hx⟩,hd⟩:=h;obtain⟨h1,h2,N,h3,h4,h5,h6⟩:=As.ents t' _ (by rw [CQ];rfl);have hg:=RP t' (by simp [Hc,ht]) hl (fun _ _ _ _ _ _ hh=>by rw [CQ]at hh;cases hh);have CN:=Le hp hn hx;have hK:BO pat.hp t=some g:=by simp [BO,ht]
    refine⟨hK,En g hK,N, ?_,fun b hb=>Rb (h4 b hb),fun Dy=> ?_,fun hdf=> ?_⟩
    ·rw [Kx t' g' hl (by simp [BO,CQ]),hg];show CK c.w et z _ (x.den (ρ++(EL.of es).den c.ρ)) _ N;rw [CN];exact h3
    ·rw [hg];exact h5 (by rcases hd with hd|hd;rw [Dy]at hd;cases hd;exact hd)
    ·rw [hg];cases d' with
     |false=>exact h6 rfl
     |true=>obtain⟨u1,u2⟩:=h5 rfl;rw [u2];exact u1
   ·rename_i et' z' l' g' ep' y CQ;simp only [Ae,beq_iff_eq,Bool.not_eq_true']at h;obtain⟨⟨⟨rfl,rfl⟩,hx⟩,rfl⟩:=h;obtain⟨h1,h2,_,h3,h4⟩:=As.ents t' _ (by rw [CQ];rfl);have hg:(CV c (ρ++(EL.of es).den c.ρ) θ pat leaf).G t=⟨(c.G t').top.take 1, []⟩:=by
     rw [nH t' (by simp [Hc,ht]) hl,ht,CQ];rfl
    have CN:=Le hp hn hx;have hK:BO pat.hp t=some g:=by simp [BO,ht]
    obtain⟨f,k1,k2⟩:=h3.ownRow;have B2:((c.G t').top.take 1++(c.G t').top.drop 1).Nodup:=by rw [List.take_append_drop];have:=As.gw.nodup t';simp only [GI.own,h4,List.append_nil]at this;exact this
    refine⟨hK,En g hK,f, ?_,fun b hb=> ?_,fun Dy=>(by cases Dy),fun _=>by rw [hg]⟩
    ·rw [Kx t' g' hl (by simp [BO,CQ]),hg];show CK c.w et z _ (x.den (ρ++(EL.of es).den c.ρ)) _ f;rw [CN];exact k1
    ·have Co:b∈(c.G t').top:=List.mem_of_mem_drop (k2 b hb);refine⟨fun⟨u,hu⟩=> ?_, .inr (As.gw.allow t' b (by simp [GI.own,Co]))⟩;obtain⟨_,v',Bx,_,R1⟩:=MO (b:=b) (by simp only [GI.own,Ah];exact .inl hu);have hv:v'=t':=Classical.byContradiction fun A9=>As.gw.cm v' t' A9 b R1 (by simp [GI.own,Co]);subst hv;have:=Yn hθ (Mt Bx) (Mt hl);subst this;rw [hg]at hu;exact(List.nodup_append.1 B2).2.2 b hu b (k2 b hb) rfl
   ·cases h
  ·rename_i hl;simp only [Ae,decide_eq_true_eq]at h;have CN:=Le hp hn h.1;have hK:BO pat.hp t=some g:=by simp [BO,ht]
   have hg:(CV c (ρ++(EL.of es).den c.ρ) θ pat leaf).G t=⟨[], []⟩:=by simp [CV,hl]
   refine⟨hK,En g hK, [],⟨[], ?_,by simp,h.2, .inl ⟨rfl,⟨none, ?_⟩,by rw [hg],rfl⟩⟩,by simp,fun _=>⟨rfl,by rw [hg]⟩,fun _=>by rw [hg]⟩
   ·show x.den (ρ++(EL.of es).den c.ρ)=_;rw [CN];rfl
   ·simp [CV,hl]
  ·cases h
 |bq g x=>
  have hg:=nG (by simp [Hc,ht]);have hK:BO pat.hp t=some g:=by simp [BO,ht]
  simp only [Iu]at h;split at h
  ·rename_i t' hl;have H8: ∀b,b∈(c.G t').top→(CV c (ρ++(EL.of es).den c.ρ) θ pat leaf).ok b:=by
    intro b hb;refine⟨fun⟨u,hu⟩=> ?_, .inr (As.gw.allow t' b (by simp [GI.own,hb]))⟩;obtain⟨ho,v',Bx,B1,R1⟩:=MO (b:=b) (by simp only [GI.own,Ah];exact .inl hu);have hv:v'=t':=Classical.byContradiction fun A9=>As.gw.cm v' t' A9 b R1 (by simp [GI.own,hb]);subst hv;have:=Yn hθ (Mt Bx) (Mt hl);subst this;simp [Hc,ht]at ho
   split at h
   ·rename_i et' z' g' y d' CQ;obtain⟨h1,h2,N,h3,h4,h5,h6⟩:=As.ents t' _ (by rw [CQ];rfl);obtain⟨f,r1,r2,_⟩:=h3.rd;refine⟨hK,⟨f, ?_,fun b hb=>(r2 b hb).elim (H8 b) fun hb=>Rb (h4 b hb)⟩,by rw [hg],by rw [hg]⟩;rw [Kx t' g' hl (by simp [BO,CQ])];show Rd c.w _ [x.den (ρ++(EL.of es).den c.ρ)] f;rw [Le hp hn h];exact r1
   ·rename_i g' y CQ;obtain⟨h1,⟨f,r1,r2⟩,_,_⟩:=As.ents t' _ (by rw [CQ];rfl);refine⟨hK,⟨f, ?_,fun b hb=>Rb (r2 b hb)⟩,by rw [hg],by rw [hg]⟩;rw [Kx t' g' hl (by simp [BO,CQ])];show Rd c.w _ [x.den (ρ++(EL.of es).den c.ρ)] f;rw [Le hp hn h];exact r1
   ·rename_i et' z' l' g' ep' y CQ;obtain⟨h1,h2,_,h3,h4⟩:=As.ents t' _ (by rw [CQ];rfl);obtain⟨f,r1,r2⟩:=h3.rd;refine⟨hK,⟨f, ?_,fun b hb=>H8 b (r2 b hb)⟩,by rw [hg],by rw [hg]⟩;rw [Kx t' g' hl (by simp [BO,CQ])];show Rd c.w _ [x.den (ρ++(EL.of es).den c.ρ)] f;rw [Le hp hn h];exact r1
   ·cases h
  ·cases h
 |hol=>simp [Iu]at h
 |deep et z dl g ep x=>
  have hE:(CV c (ρ++(EL.of es).den c.ρ) θ pat leaf).E t=ep:=by simp [CV,ht]
  have hK:BO pat.hp t=some g:=by simp [BO,ht]
  simp only [Iu]at h;split at h
  ·rename_i t' hl;split at h
   ·rename_i et' z' dl' g' ep' y CQ;simp only [Ae,beq_iff_eq]at h;obtain⟨⟨⟨rfl,rfl⟩,ZR⟩,hx⟩:=h;have ZR:=AP.iu ZR;subst ZR;obtain⟨h1,h2,_,h3,h4⟩:=As.ents t' _ (by rw [CQ];rfl);have hg:=RP t' (by simp [Hc,ht]) hl (by intros;simp);refine⟨hK,En g hK,hE, ?_,by rw [hg];exact h4⟩;rw [Kx t' g' hl (by simp [BO,CQ]),hg];show DC c.w _ _ [x.den (ρ++(EL.of es).den c.ρ)] _;rw [Le hp hn hx];exact h3
   ·cases h
  ·rename_i hl;have hg:(CV c (ρ++(EL.of es).den c.ρ) θ pat leaf).G t=⟨[], []⟩:=by simp [CV,hl]
   simp only [Ae,decide_eq_true_eq,beq_iff_eq]at h;refine⟨hK,En g hK,hE, ?_,by rw [hg]⟩;have e1:(CV c (ρ++(EL.of es).den c.ρ) θ pat leaf).H t g= .slice none 0 0:=by simp [CV,hl]
   rw [e1,hg];show DC c.w _ _ [x.den (ρ++(EL.of es).den c.ρ)] _;rw [Le hp hn h.1.1];exact .void h.1.2 (by rw [AP.az];exact h.2) .nil
  ·cases h
 |gd gs e=>simp [Iu]at h
 |dead=>have hg:=nG (by simp [Hc,ht]);exact⟨by rw [hg],by rw [hg]⟩
end
theorem xY {nv:Nat} {es:List E} {θ:List (Nat × Option Nat)} {pat leaf:St}: ∀(m:Nat) {ps ss:List SV},Hi nv es θ pat leaf m ps ss=true→ ∀{i:Nat} {p:SV},ps[i]?=some p→ ∃s k,ss[i]?=some s∧SY nv es θ pat leaf k p s=true
 |0,ps,ss,h,_,_,_=>by simp [Hi]at h
 |m+1, [],ss,h,i,p,hp=>by simp at hp
 |m+1,q::ps, [],h,i,p,hp=>by simp [Hi]at h
 |m+1,q::ps,s::ss,h,i,p,hp=>by
  simp only [Hi,Ae]at h;cases i with
  |zero=>simp at hp;subst hp;exact⟨s,m,rfl,h.1⟩
  |succ i=>simpa using xY m h.2 (by simpa using hp)
theorem zBj:Zd:=by
 intro F nv pat τ es ρ ρ' a w hi hn hp hr;obtain⟨c,rfl,rfl,VT,hA,Zq,FW,hU,As⟩:=hr;unfold J1 at hi;simp only at hi;split at hi
 ·rename_i Ax;simp only [Ag]at hi;generalize ZT:(List.range (pat.nv-nv)).map (fun j=>((OT nv pat τ true pat.hp (OT nv pat τ false pat.hp (Mc nv pat τ 2000 ⟨[], []⟩ pat.sl τ.sl))).as_.lookup (nv+j)).getD (.int .i64 0))=es0 at Ax hi;subst hi;generalize (OT nv pat τ true pat.hp (OT nv pat τ false pat.hp (Mc nv pat τ 2000 ⟨[], []⟩ pat.sl τ.sl))).θ=θ at Ax;clear ZT;simp only [qZ,Ae,beq_iff_eq,AG,decide_eq_true_eq]at Ax;obtain⟨⟨⟨⟨⟨⟨h1,hθ⟩,hlen⟩,CA⟩,Di⟩,hnx⟩,SD⟩:=Ax;have B5: ∀t e,(t,e)∈pat.hp→Iu nv es0 θ pat τ t e=true:=fun t e he=>(Di _ he).1;have Aq: ∀t e,(t,e)∈pat.hp→t<pat.nx:=fun t e he=>(Di _ he).2;have SA: ∀t e,AF pat.hp t=some e→ ∀gs e',e≠ .gd gs e':=by
   rintro t e he gs e' rfl;have:=B5 t _ (IE he);simp [Iu]at this
  have AQ: ∀t e e',AF pat.hp t=some e→(Cd (ρ++(EL.of es0).den c.ρ) (AF pat.hp t) e'↔e'=e):=by
   intro t e e' he;rw [he];cases e with
   |gd gs e9=>exact absurd rfl (SA t _ he gs e9)
   |_=>simp [Cd,eq_comm]
  refine⟨CV c (ρ++(EL.of es0).den c.ρ) θ pat τ,rfl,rfl,VT,hA,Zq, ?_,fun t ht=>ht,As.defers,by rw [hlen];exact As.size,⟨As.base.os,As.base.tape,As.base.output,As.base.size,fun t v Ph=> ?_,As.base.block,As.base.pk,As.base.lo⟩,fun i=> ?_,fun t e hr=> ?_,fun t DB=> ?_,⟨fun t=> ?_,fun t u L0 b hb BT=> ?_,fun t b hb=> ?_,fun t b hb=> ?_⟩,fun t g hk=> ?_,fun t e he=>Aq t e (IE he)⟩
  ·rw [h1,EL.de];simp [hn]
  ·have Ns:MX t=true:=F.mz t v (by rw [←hA];exact Ph);refine⟨by
    show t<pat.nx;unfold MX at Ns;simp only [Ae,decide_eq_true_eq]at Ns;omega,fun hk=> ?_⟩
   have BM:BO pat.hp t=some 0:=hk;obtain⟨e,bA⟩: ∃e,AF pat.hp t=some e:=by
    unfold BO at BM;cases hh:AF pat.hp t with
    |none=>rw [hh]at BM;cases BM
    |some e=>exact⟨e,rfl⟩
   have DY:=SD _ (IE bA);simp only [Ns,Bool.not_true,Bool.false_or]at DY;have main:θ.lookup t=some (some t)→BO τ.hp t=some 0→c.K t 0→(CV c (ρ++(EL.of es0).den c.ρ) θ pat τ).H t 0=v:=by intro hl hg hK;simp only [CV,hl,hg,Option.getD_some];exact(As.base.pins t v Ph).2 hK
   unfold L6 at DY;simp only [BO,bA]at BM;rw [bA]at DY;cases e with
   |box ty g cs=>
    simp only [Ae,beq_iff_eq]at DY;obtain⟨hl,hb⟩:=DY;split at hb
    ·rename_i ty' g' cs' CQ;obtain⟨b,C,q1,_⟩:=As.ents t _ (by rw [CQ];rfl);exact main hl (by simp [BO,CQ]) q1
    ·cases hb
   |row ety sz g x d=>
    simp only [Ag]at BM;subst BM;simp only [bne_self_eq_false,Bool.false_or,Ae,beq_iff_eq]at DY;obtain⟨hl,hb⟩:=DY;split at hb
    ·rename_i ety' sz' g' x' d' CQ;rw [beq_iff_eq]at hb;subst hb;obtain⟨q1,_⟩:=As.ents t _ (by rw [CQ];rfl);exact main hl (by simp [BO,CQ]) q1
    ·cases hb
   |bq g x=>simp only [Ag]at BM;subst BM;simp at DY
   |gd=>simp at BM
   |dead=>simp at BM
   |hol=>simp at BM
   |deep ety sz l g ep x=>
    simp only [Ag]at BM;subst BM;simp only [bne_self_eq_false,Bool.false_or,Ae,beq_iff_eq]at DY;obtain⟨hl,hb⟩:=DY;split at hb
    ·rename_i CQ;rw [beq_iff_eq]at hb;subst hb;obtain⟨q1,_⟩:=As.ents t _ (by rw [CQ];rfl);exact main hl (by simp [BO,CQ]) q1
    ·cases hb
  ·unfold Bt;cases hpi:pat.sl[i]? with
   |none=>exact .undef .nil
   |some p=>obtain⟨s,k,hs,hk⟩:=xY _ CA hpi;have:=As.cx i;unfold Bt at this;rw [hs]at this;exact qH As hp hn B5 k hk this
  ·cases he:AF pat.hp t with
   |none=>rw [he]at hr;exact hr.elim
   |some e9=>have Ng:=(AQ t e9 e he).1 hr;subst Ng;exact zxR As hp hn B5 hθ he
  ·have:Hc pat.hp t=false:=by
    cases he:AF pat.hp t with
    |none=>simp [Hc,he]
    |some e9=>exact absurd ((AQ t e9 e9 he).2 rfl) (DB e9)
   simp [CV,this]
  ·simp only [CV];split
   ·split
    ·exact zyo (As.gw.nodup _)
    ·simp [GI.own]
   ·simp [GI.own]
  ·obtain⟨_,t',hl,_,Co⟩:=MO hb;obtain⟨_,u',Bx,_,H3⟩:=MO BT;by_cases hh:t'=u'
   ·subst hh;exact L0 (Yn hθ (Mt hl) (Mt Bx))
   ·exact As.gw.cm t' u' hh b Co H3
  ·obtain⟨_,t',hl,_,Co⟩:=MO hb;exact As.gw.allow t' b Co
  ·obtain⟨_,t',hl,_,Co⟩:=MO hb;exact As.gw.inb t' b Co
  ·have BM:BO pat.hp t=some g:=hk;unfold BO at BM;show t<pat.nx;split at BM
   ·rename_i hh;exact Aq t _ (IE hh)
   ·rename_i hh;exact Aq t _ (IE hh)
   ·rename_i hh;exact Aq t _ (IE hh)
   ·rename_i hh;exact Aq t _ (IE hh)
   ·cases BM
 ·cases hi
theorem Ud (l:List DT): ∀(n k o m:Nat),k<n→o+m≤l.length→((CY n l).drop (k*l.length+o)).take m=(l.drop o).take m
 |0,k,_,_,h,_=>by omega
 |n+1,0,o,m,_,hm=>by rw [OB,Nat.zero_mul,Nat.zero_add,List.drop_append_of_le_length (by omega),List.take_append_of_le_length (by simp;omega)]
 |n+1,k+1,o,m,h,hm=>by have ih:=Ud l n k o m (by omega) hm;rw [←ih,OB,show(k+1)*l.length+o=l.length+(k*l.length+o)from by rw [Nat.add_mul];omega,List.drop_append,List.drop_eq_nil_of_le (by omega)];simp
theorem DC.elem {w:World} {ys:List AV} {l:List DT} {cells:List Value} {N:List Nat} {z:Nat} (h:DC w (CY ys.length l) cells (AK ys) N) (hl:l.length=z) (h7: ∀y∈ys,y.cells.length=z) {k o m:Nat} (hk:k<ys.length) (hm:o+m≤z):
  ∃M,(∀b∈M,b∈N)∧DC w ((l.drop o).take m) ((cells.drop (k*z+o)).take m) ((((AV.sl ys).nth k).cells.drop o).take m) M:=by
 obtain⟨N1,N2,N3,rfl,_,h2,_⟩:=h.split (k*z+o) m;subst hl;rw [Ud l _ _ _ _ hk hm,Um ys h7 k _ (MP hk) o m hm]at h2;exact⟨N2,fun b hb=>by simp [hb],h2⟩
theorem Rd.l4 {w:World} {vs:List Value} {x:AV} {f:List Nat} {o m:Nat} {g:Bool} (h:Rd w vs ((x.cells.drop o).take m) f) (h9: ∀u∈vs,u.oneCell'=true) (hm:o+m≤x.cells.length) (h1:g=false→m=1):
  Rd w [if g then .agg vs.toArray else vs.headD undef] [x.fld o m g] f:=by
 cases g with
 |true=>have:=Rd.agg h9 h .nil;simpa [AV.fld]using this
 |false=>
  have:=h1 rfl;subst this;have e2:(x.cells.drop o).take 1= [x.cells[o]'(by omega)]:=by rw [List.drop_eq_getElem_cons (by omega),List.take_succ_cons,List.take_zero]
  rw [e2]at h;have hl:=h.len
  match vs,hl with
  | [v],_=>simpa [AV.fld,show o<x.cells.length by omega]using h
section
variable {P:Program} {c:Cx} {n nx:Nat} {sl sl0:Nat→SV} {hp hp0:Nat→Option Aj} {a:Act} {o:Oper} {gs:Gd} {e:AX} {sg:BI} {nv:Nat}
theorem ztM {w:World} {b p:Nat} {t:TypeId} {C:Array Value} {ty:TypeId} {fz:Nat × Nat} (hb:w.heap[b]?=some (.cells C ty fz)) (ht:Dd P t=true) (hg:Ap P t=true∨P.cellsOf t=1) (hp:p+P.cellsOf t≤C.size):
  (Instr.loadAt t (.pointer (some ⟨b,p,none⟩))).run P w= .ok (if Ap P t then .agg ((C.toList.drop p).take (P.cellsOf t)).toArray else((C.toList.drop p).take (P.cellsOf t)).headD undef) w:=by
 have LN:((C.toList.drop p).take (P.cellsOf t)).length=P.cellsOf t:=by rw [List.length_take,List.length_drop,Array.length_toList];omega
 refine QD ht _ (fun _=>LN) (fun h=> ?_) (fun j u hu=> ?_)
 ·rw [LN];rcases hg with h'|h';rw [h]at h';cases h';exact h'
 ·rw [EC hb];rw [List.getElem?_take]at hu;split at hu
  ·simpa using hu
  ·cases hu
theorem zzc {b g e z ep:Nat} {l:List DT} {c0 i:E} {t:TypeId} {k':Nat} {v:Value} (hE:CX c b (.deep e z l g ep c0)) (hr:SR c [.cr b g i z k'] [v]) (Be:Dd P t=true) (hle:k'+P.cellsOf t≤z) (AB:Ap P t=true∨P.cellsOf t=1):
  ∃u,(Instr.loadAt t v).run P c.w= .ok u c.w∧(((l.drop k').take (P.cellsOf t)).all DT.br=true→Rd c.w [u] [(E.fld (.idx c0 i) k' (P.cellsOf t) (Ap P t)).den c.ρ] [])∧Pw c b u ((E.fld (.idx c0 i) k' (P.cellsOf t) (Ap P t)).den c.ρ)∧(Ap P t=false→Is c b g (some (i,z,k')) u):=by
 obtain⟨q1,q2,q3,q4,q5⟩:=hE;cases hr with
 |cr h1 h2 h3 h4 h5 _=>
  rename_i q len cap kk k h6;obtain⟨d1,d2,⟨a9,d3,_⟩|⟨g9,cap9,C,ys,N1,d3,d4,d5,d6,d7,d8,d9,d10,d11,d12⟩⟩:=q4.inv
  ·rw [h2]at d3;cases d3;omega
  ·rw [h2]at d3;cases d3;rw [AP.az]at d2 d12;have hk:k.toNat<ys.length:=by omega
   have hmul:(k.toNat+1)*z≤ys.length*z:=Nat.mul_le_mul_right _ (by omega);have FQ:ys.length*z≤cap*z:=Nat.mul_le_mul_right _ d7;rw [Nat.add_mul]at hmul;have AR:=ztM (P:=P) (t:=t) (p:=k.toNat*z+k') d6 Be AB (by omega);obtain⟨M,m1,m2⟩:=d12.elem d2 d10 hk hle;have FI:((C.toList.take (ys.length*z)).drop (k.toNat*z+k')).take (P.cellsOf t)=(C.toList.drop (k.toNat*z+k')).take (P.cellsOf t):=by rw [List.drop_take,List.take_take,Nat.min_eq_left (by omega)]
   rw [FI]at m2;have CF: ∀u∈(C.toList.drop (k.toNat*z+k')).take (P.cellsOf t),u.oneCell'=true:=fun u hu=>d11 u (by rw [←FI]at hu;exact List.mem_of_mem_drop (List.mem_of_mem_take hu))
   have oN:((AV.sl ys).nth k.toNat).cells.length=z:=d10 _ (List.mem_of_getElem? (MP hk));have BU:(E.fld (.idx c0 i) k' (P.cellsOf t) (Ap P t)).den c.ρ=((AV.sl ys).nth k.toNat).fld k' (P.cellsOf t) (Ap P t):=by simp only [E.den,d4,h3,AV.idx]
   have RG:Ap P t=false→P.cellsOf t=1:=fun h=>by rcases AB with h'|h';rw [h]at h';cases h';exact h'
   refine⟨_,AR,fun hf=> ?_, ?_,fun hf=> ?_⟩
   ·rw [BU];exact(m2.j6 hf).l4 CF (by omega) RG
   ·obtain⟨f,r1,r2⟩:=m2.rd;rw [BU];exact⟨f,r1.l4 CF (by omega) RG,fun b hb=> .inr (by rw [d5];simp [m1 b (r2 b hb)])⟩
   ·refine⟨_,_,_,C,_,_,kk,k,h2,by rw [d5];simp,d6,h3,h4,h5, ?_⟩;have BJ:=RG hf;have Aq:k.toNat*z+k'<C.size:=by omega
    have e1:(C.toList.drop (k.toNat*z+k')).take 1= [C[k.toNat*z+k']]:=by rw [List.drop_eq_getElem_cons (by simpa using Aq),List.take_succ_cons,List.take_zero];simp
    rw [hf,BJ,e1];simp [Aq]
end
section
variable {P:Program} {c:Cx} {n nx:Nat} {sl sl0:Nat→SV} {hp hp0:Nat→Option Aj} {a:Act} {o:Oper} {gs:Gd} {e:AX} {sg:BI} {nv:Nat}
theorem Bn.ct: ∀l:Bn,Bn.of l.toList=l
 | .nil=>rfl
 | .cons s l=>by simp [Bn.toList,Bn.of,Bn.ct l]
theorem zz4 (h:Bg P c n nx sl hp a sl0 hp0 o gs) {t:TypeId} {x:Operand} (ho:o.op= .load t x) (he:Bv P sg sl0 hp0 nv nx gs o=some e) (hc: ∀q∈e.ca,Cn.den c.ρ q):Ay P o c n nx sl hp gs a e:=by
 have hm:x∈o.op.operands:=by simp [ho,Op.operands]
 simp only [Bv,ho,Av,At]at he;obtain⟨s,hs,e1,he,rfl⟩:=he;have hr:=(h.cu hs hm).asPtr (fun q hq=>hc q (by simp [hq]));have LA: ∀q∈e1.ca,Cn.den c.ρ q:=fun q hq=>hc q (by simp [hq]);have ex:(execOp a.eval o).run P c.w=((Instr.loadAt t (a.eval x)).run P c.w).andThen fun v w=> .ok (.value v) w:=by simp [execOp,ho]
 unfold oX at he;split at he
 ·cases he
 rename_i Be;have Be:Dd P t=true:=by simpa using Be
 generalize Ba:(asPtr s).1=s1 at he hr;split at he
 ·rename_i b o';split at he
  ·rename_i ty g cs hl;obtain⟨s2,AW,rfl⟩:=At.1 he;generalize ha:a.eval x=v at hr ex;cases hr with
   |cg h1 h2 _=>
    rename_i q;obtain⟨q',C,_,e2,e3,e4,e5,e5',e6⟩:=h.eh b _ (CH hl h.gs);rw [h2]at e2;cases e2;unfold O1 at AW;have hlen:=e6.len;split at AW
    ·rename_i AB;split at AW
     ·rename_i hle;simp at AW;subst AW;obtain⟨r1,r2⟩:=e6.split o';obtain⟨r3,r4⟩:=r2.split (P.cellsOf t);have:=SR.agg (cs:=Bn.of ((cs.drop o').take (P.cellsOf t))) (fun u hu=>e5' u (List.mem_of_mem_drop (List.mem_of_mem_take hu))) (by rw [Bn.az];exact r3) .nil;refine Ay.pure h (v:= .agg ((C.toList.drop o').take (P.cellsOf t)).toArray) ?_ this rfl;rw [ex,QD Be ((C.toList.drop o').take (P.cellsOf t)) (fun _=>by simp at hlen ⊢;omega) (fun h=>by rw [AB]at h;cases h) (fun j u hu=>by
       rw [EC e5];rw [List.getElem?_take]at hu;split at hu
       ·simpa using hu
       ·cases hu)]
      simp [AB]
     ·cases AW
    ·rename_i AB;have AB:Ap P t=false:=by simpa using AB
     obtain⟨u,hu,r⟩:=e6.get AW;refine Ay.pure h (v:=u) ?_ r rfl;rw [ex,QD Be [u] (fun h=>by rw [AB]at h;cases h) (fun _=>rfl) (fun j z hz=>by
      cases j with
      |zero=>simp at hz;subst hz;rw [EC e5];simpa using hu
      |succ j=>simp at hz)]
     simp [AB]
  ·cases he
 ·rename_i b g i sz o';split at he
  ·rename_i e0 sz' g' c0 d hl;split at he
   ·rename_i hh;obtain⟨rfl,rfl,hle,AB⟩:=hh;simp at he;subst he;generalize ha:a.eval x=v at hr ex;cases hr with
    |cr h1 h2 h3 h4 h5 _=>
     rename_i q len cap kk k h6;obtain⟨_,_,N,r1,r2,_,_⟩:=h.eh b _ (CH hl h.gs);obtain⟨f,r3,_,r4⟩:=r1.rd;obtain⟨xs,Cu,AE,h0,Bc⟩:=r1;rw [h2]at r3 Bc;have hk:k.toNat<len:=by omega
     have Jo:xs.length=len:=by
      rcases Bc with⟨_,⟨_,hv⟩,_⟩|⟨_,_,_,hv,_⟩
      ·cases hv;omega
      ·simp at hv;exact hv.2.1.symm
     have BV:((c0.den c.ρ).nth k.toNat).cells.length=sz:=by rw [Cu];exact AE _ (List.mem_of_getElem? (MP (xs:=xs) (by omega)))
     obtain⟨v',q',g1,g2,g3⟩:=jU r3 hk BV Be hle AB;refine Ay.pure h (v:=v') ?_ (.e (f:=q') ?_ ?_ .nil) rfl
     ·rw [ex];rw [Nat.zero_add]at g1;simp [g1]
     ·simpa [E.den,AV.idx,h3]using g3
     ·exact fun z hz=>r2 z (r4 z (g2 z hz))
   ·cases he
  ·rename_i e0 sz' l g' ep c0 hl;split at he
   ·rename_i hh;obtain⟨rfl,rfl,hle,AB⟩:=hh;generalize ha:a.eval x=v at hr ex;have hE:=h.eh b _ (CH hl h.gs);obtain⟨u,k1,k2,k3,k4⟩:=zzc (P:=P) (t:=t) hE hr Be hle AB;have AR:(execOp a.eval o).run P c.w= .ok (.value u) c.w:=by rw [ex,k1];rfl
    split at he
    ·rename_i hf;simp only [Ag]at he;subst he;exact Ay.pure h AR (.e (k2 hf) (by simp) .nil) rfl
    ·simp only [Ag]at he;subst he;cases hr with
     |cr h1 _ _ _ _ _=>
      refine Ay.pure h AR (.via h1 (Nat.le_of_eq hE.2.2.1.symm) (fun _=>⟨k3, ?_⟩) .nil) rfl;split
      ·exact trivial
      ·rename_i GJ;exact k4 (by simpa using GJ)
   ·cases he
  ·cases he
 ·rename_i b g m pth y i sz o';split at he
  ·rename_i hh;obtain⟨hle,AB,hv⟩:=hh;have hE:=Q7 h.eh h.gs hv;generalize ha:a.eval x=v at hr ex;cases hr with
   |vptr h1 h2 h3 _=>
    obtain⟨q,off,len,cap,kk,k,⟨f,p1,p2⟩,_,p4,p5,p6,p7,rfl⟩:=h3 hE;obtain⟨v',q',g1,g2,g3⟩:=jU (fo:=o') p1 (by omega) p7 Be hle AB;have AR:(execOp a.eval o).run P c.w= .ok (.value v') c.w:=by rw [ex];simp [g1]
    have BU:Rd c.w [v'] [(E.fld (.idx y i) o' (P.cellsOf t) (Ap P t)).den c.ρ] q':=by simpa [E.den,AV.idx,p4]using g3
    split at he
    ·simp only [Ag]at he;subst he;obtain⟨f1,f2,f3,f4⟩:=BJ LA;have hq:q'= []:=by
      cases hg:Ap P t with
      |true=>obtain⟨cs,Bj⟩:=f3 hg;obtain⟨as_,rfl,_,r⟩:=JD BU Bj;exact HI r (by rw [Bj]at f2;exact f2)
      |false=>exact HI BU (by simpa using f4 hg)
     subst hq;exact Ay.pure h AR (.e BU (by simp) .nil) rfl
    ·simp only [Ag]at he;subst he;exact Ay.pure h AR (.via h1 h2 (fun _=>⟨⟨q',BU,fun z hz=>p2 z (List.mem_of_mem_tail (g2 z hz))⟩,trivial⟩) .nil) rfl
  ·cases he
 ·rename_i y i sz o';split at he
  ·rename_i hh;obtain⟨hle,AB⟩:=hh;simp at he;subst he;generalize ha:a.eval x=v at hr ex;cases hr with
   |df h1 h2 h3 h4 h5 h6 _=>rename_i q off len cap f kk k;obtain⟨v',q',g1,g2,g3⟩:=jU (fo:=o') h1 (by omega) h6 Be hle AB;refine Ay.pure h (v:=v') ?_ (.e (f:=q') (by simpa [E.den,AV.idx,h3]using g3) (fun z hz=>h2 z (List.mem_of_mem_tail (g2 z hz))) .nil) rfl;rw [ex];simp [g1]
  ·cases he
 ·rename_i y o';split at he
  ·rename_i AB;simp at he;subst he;generalize ha:a.eval x=v at hr ex;cases hr with
   |dd h1 h2 _=>
    rename_i q f;obtain⟨z,hz,hle⟩:=BJ LA;rw [hz]at h1;cases h1 with
    |ref hb BT Hx Dk=>
     rename_i C ty fz f1 f2;obtain⟨q',g1,g2⟩:=Hx.jo BT o' (P.cellsOf t) (Ap P t) hle (fun h=>by rcases AB with h'|h';rw [h]at h';cases h';exact h');have LN:((C.toList.drop o').take (P.cellsOf t)).length=P.cellsOf t:=by have:=Hx.len;rw [List.length_take,List.length_drop];omega
     refine Ay.pure h ?_ (.e (f:=q') (by simpa [E.den,hz,AV.deref]using g2) (fun z hz=>h2 z (by simp [g1 z hz])) .nil) rfl;rw [ex,QD Be ((C.toList.drop o').take (P.cellsOf t)) (fun _=>LN) (fun h=>by rw [LN];rcases AB with h'|h';rw [h]at h';cases h';exact h') (fun j u hu=>by
       rw [EC hb];rw [List.getElem?_take]at hu;split at hu
       ·simpa using hu
       ·cases hu)]
     simp
  ·cases he
 ·cases he
end
theorem OO (k:IntKind) (n:Int):Ey k n↔k.min≤n∧n≤k.max:=by unfold Ey;cases k<;>simp only [IntKind.wrap,IntKind.bits,IntKind.signed,IntKind.min,IntKind.max]<;>simp<;>(try split)<;>omega
theorem kR (k:IntKind) (n:Int):Ey k (k.wrap n):=by rw [OO];cases k<;>simp only [IntKind.wrap,IntKind.bits,IntKind.signed,IntKind.min,IntKind.max]<;>simp<;>(try split)<;>omega
theorem zBz {k:IntKind} {x y:Int} (h:Ey k x):Ey k (x.tmod y):=by
 rw [OO]at h ⊢;have h1:(x.tmod y).natAbs≤x.natAbs:=by rw [Int.natAbs_tmod];exact Nat.mod_le _ _
 have h2:0≤x→0≤x.tmod y:=Int.tmod_nonneg y;have aO:k.min≤0:=by cases k<;>decide
 have DX:0≤k.max:=by cases k<;>decide
 constructor
 ·by_cases h0:0≤x
  ·have:=h2 h0;omega
  ·omega
 ·by_cases h0:0≤x
  ·omega
  ·have h3:x.tmod y≤0:=by
    have:=Int.tmod_nonneg (a:= -x) y (by omega);rw [Int.neg_tmod]at this;omega
   omega
theorem zA5 {k:IntKind} {x:Int} (m:Nat) (h:Ey k x):Ey k (x.fdiv (2^m)):=by
 rw [OO]at h ⊢;have hp:(0:Int)<2^m:=Int.pow_pos (by decide);rw [Int.fdiv_eq_ediv_of_nonneg _ (Int.le_of_lt hp)];have aO:k.min≤0:=by cases k<;>decide
 have DX:0≤k.max:=by cases k<;>decide
 have h1:(1:Int)≤2^m:=hp;constructor
 ·rcases Int.le_total 0 x with h0|h0
  ·have:=Int.ediv_nonneg h0 (Int.le_of_lt hp);omega
  ·have:x≤x/2^m:=by
    rw [Int.le_ediv_iff_mul_le hp];have:=Int.mul_le_mul_of_nonpos_left h0 h1;omega
   omega
 ·rcases Int.le_total 0 x with h0|h0
  ·have:=Int.ediv_le_self (2^m) h0;omega
  ·have h2:x/2^m≤0:=by
    have:=Int.ediv_le_ediv hp h0;simpa using this
   omega
section
variable {P:Program} {c:Cx} {n nx:Nat} {sl sl0:Nat→SV} {hp hp0:Nat→Option Aj} {a:Act} {o:Oper} {gs:Gd} {e:AX} {sg:BI} {nv:Nat}
def AV.val:AV→Value
 | .int k n=> .int k n
 | .bool b=> .bool b
 | .str s=> .string ⟨s.toArray⟩
 |_=>Go.undef
theorem zxD {op:BinOp} {k k':IntKind} {x y:Int} (hk:k=k'∨op= .shl∨op= .shr) (hz:op= .quo∨op= .rem→y≠0) (hs:op= .shl∨op= .shr→0≤y) (t:TypeId) (p q:Operand) (w:World):
  (do eqGuard op t p q (.int k x) (.int k' y);binOp op t (.int k x) (.int k' y):Sem Value).run P w= .ok (B8 op k x y).val w:=by
 have hg:=eqGuard_at_int op t p q (.int k' y) k x;cases op<;>simp only [reduceCtorEq,or_false,or_true,or_self]at hk hz hs<;>simp only [hg]
 all_goals first
  |(subst hk;simp [binOp,Op.intArith,Op.intCmp,Op.intBits,B8,AV.val];done)
  |(subst hk;have:=hz trivial;simp [binOp,Op.intDiv,B8,AV.val,this];done)
  |(have:=hs trivial;simp [binOp,Op.shift,B8,AV.val,Int.not_lt.2 this];done)
theorem zAo {op:BinOp} {k:IntKind} {x y:Int} (hx:Ey k x) (w:World):Rd w [(B8 op k x y).val] [B8 op k x y] []:=by
 cases op<;>simp only [B8,AV.val]<;>first
  |exact .int (kR _ _) .nil
  |exact .bool .nil
  |exact .int (zBz hx) .nil
  |exact .int (zA5 _ hx) .nil
theorem Rd.ir {w:World} {v:Value} {x:AV} {f:List Nat} (h:Rd w [v] [x] f):x≠ .undef:=by rintro rfl;cases h
theorem jT {ρ:List AV}: ∀(x:E) {k:IntKind},B9 x=some k→x.den ρ≠ .undef→ ∃m,x.den ρ= .int k m
 | .int k n,_,h,_=>by simp [B9]at h;subst h;exact⟨n,rfl⟩
 | .len y,_,h,hd=>by
  simp [B9]at h;subst h;simp only [E.den,AV.len]at hd ⊢;split at hd
  ·exact⟨_,rfl⟩
  ·exact absurd rfl hd
 | .slen y,_,h,hd=>by
  simp [B9]at h;subst h;simp only [E.den,AV.slen]at hd ⊢;split at hd
  ·exact⟨_,rfl⟩
  ·exact absurd rfl hd
 | .conv k y,_,h,hd=>by
  simp [B9]at h;subst h;simp only [E.den,AV.conv]at hd ⊢;split at hd
  ·exact⟨_,rfl⟩
  ·exact absurd rfl hd
 | .bin op x y,k,h,hd=>by
  simp only [E.den]at hd ⊢;have hx:x.den ρ≠ .undef:=by rintro hh;rw [hh]at hd;exact hd (by simp [AV.bin])
  cases op<;>simp only [B9,reduceCtorEq]at h
  all_goals
   obtain⟨m,hm⟩:=jT x h hx;rw [hm]at hd ⊢;cases hy:y.den ρ<;>rw [hy]at hd<;>simp only [AV.bin]at hd ⊢ <;>first
    |exact absurd rfl hd
    |(split at hd
      ·rename_i hk;rw [if_pos hk];exact⟨_,rfl⟩
      ·exact absurd rfl hd)
 | .var _,_,h,_=>by simp [B9]at h
 | .bool _,_,h,_=>by simp [B9]at h
 | .str _,_,h,_=>by simp [B9]at h
 | .dn,_,h,_=>by simp [B9]at h
 | .lst _,_,h,_=>by simp [B9]at h
 | .mk _,_,h,_=>by simp [B9]at h
 | .tup _,_,h,_=>by simp [B9]at h
 | .ref _,_,h,_=>by simp [B9]at h
 | .fn ..,_,h,_=>by simp [B9]at h
 | .fld ..,_,h,_=>by simp [B9]at h
 | .proj ..,_,h,_=>by simp [B9]at h
 | .deref _,_,h,_=>by simp [B9]at h
 | .idx ..,_,h,_=>by simp [B9]at h
 | .sidx ..,_,h,_=>by simp [B9]at h
 | .win ..,_,h,_=>by simp [B9]at h
 | .swin ..,_,h,_=>by simp [B9]at h
 | .app ..,_,h,_=>by simp [B9]at h
 | .set ..,_,h,_=>by simp [B9]at h
 | .put ..,_,h,_=>by simp [B9]at h
 | .rep ..,_,h,_=>by simp [B9]at h
 | .sbin ..,_,h,_=>by simp [B9]at h
 | .bbin ..,_,h,_=>by simp [B9]at h
 | .not _,_,h,_=>by simp [B9]at h
 | .neg _,_,h,_=>by simp [B9]at h
 | .ite ..,_,h,_=>by simp [B9]at h
 | .bytes _,_,h,_=>by simp [B9]at h
 | .text _,_,h,_=>by simp [B9]at h
end
section
variable {P:Program} {c:Cx} {n nx:Nat} {sl sl0:Nat→SV} {hp hp0:Nat→Option Aj} {a:Act} {o:Oper} {gs:Gd} {e:AX} {sg:BI} {nv:Nat}
theorem HG {s:SV} {v:Value} {x:E} (h:SR c [s] [v]) (hx:Fb s=some x): ∃f,Rd c.w [v] [x.den c.ρ] f∧ ∀b∈f,c.ok b:=by
 cases s<;>simp only [Fb,Ag,reduceCtorEq]at hx;subst hx;cases h with
 |e h1 h2 _=>exact⟨_,h1,h2⟩
theorem SR.cw {v:Value} {x:E} (h:Rd c.w [v] [x.den c.ρ] []):SR c [.e x] [v]:= .e h (by simp) .nil
theorem zx8 {ρ:List AV} {op:BinOp} {x y:E} {w:World} {v u:Value} {f g:List Nat} (h1:Rd w [v] [x.den ρ] f) (h2:Rd w [u] [y.den ρ] g) (hd:QY (.bin op x y)=true→(E.bin op x y).den ρ≠ .undef):
  ∃k k' p q,x.den ρ= .int k p∧y.den ρ= .int k' q∧(k=k'∨op= .shl∨op= .shr)∧(E.bin op x y).den ρ=B8 op k p q∧Ey k p∧v= .int k p∧u= .int k' q:=by
 have key:(∃k k' p q,x.den ρ= .int k p∧y.den ρ= .int k' q∧(k=k'∨op= .shl∨op= .shr)):=by
  by_cases hn:QY (.bin op x y)=true
  ·have:=hd hn;simp only [E.den]at this;cases hx:x.den ρ<;>cases hy:y.den ρ<;>simp only [hx,hy,AV.bin,ne_eq,not_true_eq_false]at this;split at this
   ·exact⟨_,_,_,_,rfl,rfl,by assumption⟩
   ·exact absurd rfl this
  ·have hn:QY (.bin op x y)=false:=by simpa using hn
   have hk:(B9 x).isSome=true∧(B9 x==B9 y)=true:=by cases op<;>simp [QY]at hn<;>simpa using hn
   obtain⟨k,Iz⟩:=Option.isSome_iff_exists.1 hk.1;have LL:B9 y=some k:=by rw [←beq_iff_eq.1 hk.2,Iz]
   obtain⟨p,hp⟩:=jT x Iz h1.ir;obtain⟨q,hq⟩:=jT y LL h2.ir;exact⟨k,k,p,q,hp,hq, .inl rfl⟩
 obtain⟨k,k',p,q,hp,hq,LM⟩:=key;obtain⟨hv,BZ⟩:=Gv h1 hp;obtain⟨hu,_⟩:=Gv h2 hq;exact⟨k,k',p,q,hp,hq,LM,by simp only [E.den,hp,hq,AV.bin,if_pos LM],BZ,hv,hu⟩
theorem tM (a b:ByteArray):(a.toList==b.toList)=(a.data.toList==b.data.toList):=by rw [ByteArray.toList_eq,ByteArray.toList_eq]
theorem zth {α β γ:Type} (r:Result α) (f:α→World→Result β) (g:β→World→Result γ):(r.andThen f).andThen g=r.andThen fun a w=>(f a w).andThen g:=by cases r<;>rfl
theorem iW (d:Nat) {t:TypeId} (p q:Bool) (h:P.underlying t=some .bool) (w:World):(Op.equalIn (d+1) t (.bool p) (.bool q)).run P w= .ok (p==q) w:=by simp [Op.equalIn,run_underlying h]
theorem zxY {t:TypeId} (p q:Bool) (h:P.underlying t=some .bool) (w:World):(binOp .eql t (.bool p) (.bool q)).run P w= .ok (.bool (p==q)) w:=by simp only [binOp];simp [Op.equal,Op.maxDepth,iW 9999 p q h]
theorem zxQ {t:TypeId} (p q:Bool) (h:P.underlying t=some .bool) (w:World):(binOp .neq t (.bool p) (.bool q)).run P w= .ok (.bool (!(p==q))) w:=by simp only [binOp];simp [Op.equal,Op.maxDepth,iW 9999 p q h]
theorem OU {op:BinOp} {t ty:TypeId} {x y:Operand} (ho:o.op= .binOp op t x y ty) (w:World) {v u:Value} (hv:a.eval x=v) (hu:a.eval y=u):
  (execOp a.eval o).run P w=((do eqGuard op t x y v u;binOp op t v u:Sem Value).run P w).andThen fun v w=> .ok (.value v) w:=by
 simp only [execOp,ho,hv,hu,Sem.run_bind,zth,Sem.run_pure]
theorem tD (h:Bg P c n nx sl hp a sl0 hp0 o gs) {op:BinOp} {t el:TypeId} {x y:Operand} {ty:TypeId} (ho:o.op= .binOp op t x y ty) (hu:P.underlying t=some (.slice el)) (r1:SR c [.b8] [a.eval x]) (r2:SR c [.b8] [a.eval y])
  (AM:op= .eql∨op= .neq):Ay P o c n nx sl hp gs a {val:= .e (.bool (op== .eql))}:=by
 have ex:=fun(v u:Value) (hv:a.eval x=v) (hu:a.eval y=u)=>OU (P:=P) (o:=o) ho c.w hv hu;generalize EB:a.eval x=v1 at r1;generalize C4:a.eval y=v2 at r2;cases r1 with
 |b8 _=>cases r2 with
  |b8 _=>
   refine Ay.pure h (v:= .bool (op== .eql)) ?_ (.cw (.bool .nil)) rfl;rw [ex _ _ EB C4,eqGuard_at_slice];rcases AM with rfl|rfl
   ·simp [run_eql_nil_slice c.w t el none 0 0 0 0 hu]
   ·simp [run_neq_nil_slice c.w t el none 0 0 0 0 hu]
theorem zvE (h:Bg P c n nx sl hp a sl0 hp0 o gs) {op:BinOp} {t:TypeId} {x y:Operand} {ty:TypeId} (ho:o.op= .binOp op t x y ty) {s1 s2:SV} (r1:SR c [s1] [a.eval x]) (r2:SR c [s2] [a.eval y])
  {x' y':E} (CN:Fb s1=some x') (Bm:Fb s2=some y') (hd:QY (.bin op x' y')=true→Cn.den c.ρ (.dfd (.bin op x' y'))) (hnz:op= .quo∨op= .rem→Cn.den c.ρ (.nz y')) (hnn:op= .shl∨op= .shr→Cn.den c.ρ (.nn y')) {ck:List Cn}:
  Ay P o c n nx sl hp gs a {ca:=ck,val:= .e (.bin op x' y')}:=by
 obtain⟨f1,g1,_⟩:=HG r1 CN;obtain⟨f2,g2,_⟩:=HG r2 Bm;obtain⟨k,k',p,q,e1,e2,LM,e3,BZ,hv,Fp⟩:=zx8 (op:=op) g1 g2 hd;refine Ay.pure h (v:=(B8 op k p q).val) ?_ (.cw (by rw [e3];exact zAo BZ _)) rfl;rw [OU ho c.w hv Fp,zxD LM (fun AM=> ?_) (fun AM=> ?_)]
 ·simp
 ·obtain⟨_,m,hm,DV⟩:=hnz AM;rw [e2]at hm;cases hm;exact DV
 ·obtain⟨_,m,hm,DV⟩:=hnn AM;rw [e2]at hm;cases hm;exact DV
theorem zuB (h:Bg P c n nx sl hp a sl0 hp0 o gs) {op:BinOp} {t:TypeId} {x y:Operand} {ty:TypeId} (ho:o.op= .binOp op t x y ty) {s1 s2:SV} (r1:SR c [s1] [a.eval x]) (r2:SR c [s2] [a.eval y])
  {x' y':E} (CN:Fb s1=some x') (Bm:Fb s2=some y') (hd:Cn.den c.ρ (.dfd (.sbin op x' y'))) (Cg:op= .add→Cn.den c.ρ (.roomS x' y')) {ck:List Cn}:
  Ay P o c n nx sl hp gs a {ca:=ck,val:= .e (.sbin op x' y')}:=by
 obtain⟨f1,g1,_⟩:=HG r1 CN;obtain⟨f2,g2,_⟩:=HG r2 Bm;have hd:AV.sbin op (x'.den c.ρ) (y'.den c.ρ)≠ .undef:=hd;cases hx:x'.den c.ρ<;>cases hy:y'.den c.ρ<;>simp only [hx,hy,AV.sbin,ne_eq,not_true_eq_false]at hd;obtain⟨b1,EB,rfl,_⟩:=Rf g1 hx;obtain⟨b2,C4,rfl,_⟩:=Rf g2 hy;have hle:op= .add→b1.size+b2.size≤9223372036854775807:=fun AM=>by obtain⟨p,q,hp,hq,hle⟩:=Cg AM;rw [hx]at hp;rw [hy]at hq;cases hp;cases hq;simpa using hle
 refine Ay.pure h (v:=match op with| .add=> .string (b1++b2)|_=>(Rq op b1.data.toList b2.data.toList).val) ?_ (.cw ?_) rfl
 ·rw [OU ho c.w EB C4,eqGuard_at_string];cases op<;>first
   |(exact absurd rfl hd)
   |(have:=hle rfl;simp [binOp,Op.stringOp];omega)
   |(simp [binOp,Op.stringOp,Rq,AV.val,ByteArray.toList_eq,bne];done)
 ·simp only [E.den,hx,hy,AV.sbin];cases op<;>simp only [Rq,AV.val,ne_eq,not_true_eq_false]at hd ⊢ <;>first
   |exact .bool .nil
   |(have:=hle rfl
     have h9:=Rd.str (w:=c.w) (s:=b1++b2) (by simpa using this) .nil;simpa using h9)
theorem zt5 (h:Bg P c n nx sl hp a sl0 hp0 o gs) {op:BinOp} {t:TypeId} {x y:Operand} {ty:TypeId} (ho:o.op= .binOp op t x y ty) (hu:P.underlying t=some .bool) {s1 s2:SV} (r1:SR c [s1] [a.eval x]) (r2:SR c [s2] [a.eval y])
  {x' y':E} (CN:Fb s1=some x') (Bm:Fb s2=some y') (hd:Cn.den c.ρ (.dfd (.bbin op x' y'))) {ck:List Cn}:
  Ay P o c n nx sl hp gs a {ca:=ck,val:= .e (.bbin op x' y')}:=by
 obtain⟨f1,g1,_⟩:=HG r1 CN;obtain⟨f2,g2,_⟩:=HG r2 Bm;have hd:AV.bbin op (x'.den c.ρ) (y'.den c.ρ)≠ .undef:=hd;cases hx:x'.den c.ρ<;>cases hy:y'.den c.ρ<;>simp only [hx,hy,AV.bbin,ne_eq,not_true_eq_false]at hd;rename_i p q;have EB:=Ik g1 hx;have C4:=Ik g2 hy;refine Ay.pure h (v:=(AV.bbin op (.bool p) (.bool q)).val) ?_ (.cw ?_) rfl
 ·rw [OU ho c.w EB C4,eqGuard_at_bool];cases op<;>simp only [ne_eq,not_true_eq_false]at hd
  ·simp [zxY p q hu,AV.bbin,AV.val]
  ·simp [zxQ p q hu,AV.bbin,AV.val,bne]
 ·simp only [E.den,hx,hy];cases op<;>simp only [AV.bbin,AV.val,ne_eq,not_true_eq_false]at hd ⊢ <;>exact .bool .nil
theorem zBl (h:Bg P c n nx sl hp a sl0 hp0 o gs) {op:BinOp} {t:TypeId} {x y:Operand} {ty:TypeId} (ho:o.op= .binOp op t x y ty) (LS: ∀fs,P.underlying t≠some (.struct fs)) (he:Bv P sg sl0 hp0 nv nx gs o=some e) (hq:e.bz=none) (hc: ∀q∈e.ca,Cn.den c.ρ q):Ay P o c n nx sl hp gs a e:=by
 have DW:x∈o.op.operands:=by simp [ho,Op.operands]
 have DA:y∈o.op.operands:=by simp [ho,Op.operands]
 simp only [Bv,ho,Av]at he;obtain⟨s1,Bz,s2,AW,he⟩:=he;have r1:=h.cu Bz DW;have r2:=h.cu AW DA;unfold Rk at he;split at he
 ·rename_i el hu;split at he
  ·simp at he;subst he;exact tD h ho hu r1 r2 (.inl rfl)
  ·simp at he;subst he;exact tD h ho hu r1 r2 (.inr rfl)
  ·obtain⟨_,_,rfl⟩:=At.1 he;cases hq
  ·obtain⟨_,_,rfl⟩:=At.1 he;cases hq
  ·cases he
 ·rename_i kk hu;split at he
  ·rename_i x' y' CN Bm;simp at he;subst he;exact zvE h ho r1 r2 CN Bm (fun hn=>hc _ (by simp [hn])) (fun AM=>hc _ (by rcases AM with rfl|rfl<;>simp)) (fun AM=>hc _ (by rcases AM with rfl|rfl<;>simp))
  ·cases he
 ·rename_i hu;split at he
  ·rename_i x' y' CN Bm;simp at he;subst he;exact zuB h ho r1 r2 CN Bm (hc _ (by simp)) (fun AM=>hc _ (by subst AM;simp))
  ·cases he
 ·rename_i hu;split at he
  ·rename_i x' y' CN Bm;simp at he;subst he;exact zt5 h ho hu r1 r2 CN Bm (hc _ (by simp))
  ·cases he
 ·rename_i fs hu;exact absurd hu (LS fs)
 ·cases he
end
section
variable {P:Program} {c:Cx} {n nx:Nat} {sl sl0:Nat→SV} {hp hp0:Nat→Option Aj} {a:Act} {o:Oper} {gs:Gd} {e:AX} {sg:BI} {nv:Nat}
theorem UD {t:TypeId} (h:Dd P t=true) (cs:List Value) (off:Nat) (hle:off+P.cellsOf t≤cs.length) (hg:Ap P t=true∨P.cellsOf t=1) (w:World):
  (part t cs.toArray off).run P w= .ok (if Ap P t then .agg ((cs.drop off).take (P.cellsOf t)).toArray else((cs.drop off).take (P.cellsOf t)).headD Go.undef) w:=by
 cases ha:Ap P t with
 |true=>simp only [part,Sem.run_bind,Uv h,ha,Oy h,Result.andThen_ok,if_true,Sem.run_pure];congr 2;apply Array.ext';rw [Array.toList_extract];simp [Nat.add_sub_cancel_left,List.extract_eq_take_drop]
 |false=>
  have h1:P.cellsOf t=1:=by rcases hg with h'|h';rw [ha]at h';cases h';exact h'
  have Aq:off<cs.length:=by omega
  have e1:(cs.drop off).take (P.cellsOf t)= [cs[off]]:=by rw [h1,List.drop_eq_getElem_cons Aq,List.take_succ_cons,List.take_zero]
  rw [e1];simp [part,Uv h,ha,Aq]
theorem zys (h:Bg P c n nx sl hp a sl0 hp0 o gs) {t:TypeId} {x:Operand} {f:Nat} (ho:o.op= .field t x f) (he:Bv P sg sl0 hp0 nv nx gs o=some e) (hc: ∀q∈e.ca,Cn.den c.ρ q):Ay P o c n nx sl hp gs a e:=by
 have hm:x∈o.op.operands:=by simp [ho,Op.operands]
 simp only [Bv,ho,Av]at he;obtain⟨s,hs,he⟩:=he;have hr:=h.cu hs hm;split at he
 ·rename_i fs hu;split at he
  ·rename_i fd hf;split at he
   ·cases he
   ·rename_i Be;have Be:Dd P fd.type=true:=by simpa using Be
    have ex: ∀as_:List Value,a.eval x= .agg as_.toArray→(execOp a.eval o).run P c.w=((part fd.type as_.toArray fd.offset).run P c.w).andThen fun v w=> .ok (.value v) w:=fun as_ hv=>by simp [execOp,ho,Instr.field,run_underlying hu,hf,hv,asAgg]
    split at he
    ·rename_i cs;obtain⟨s2,AW,rfl⟩:=At.1 he;generalize hv:a.eval x=v at hr;cases hr with
     |agg r8 r1 r9=>
      rename_i as_;have hlen:=r1.len;unfold O1 at AW;split at AW
      ·rename_i AB;split at AW
       ·rename_i hle;simp at AW;subst AW;obtain⟨q1,q2⟩:=r1.split fd.offset;obtain⟨q3,q4⟩:=q2.split (P.cellsOf fd.type);have:=SR.agg (cs:=Bn.of ((cs.toList.drop fd.offset).take (P.cellsOf fd.type))) (fun u hu=>r8 u (List.mem_of_mem_drop (List.mem_of_mem_take hu))) (by rw [Bn.az];exact q3) .nil;refine Ay.pure h (v:= .agg ((as_.drop fd.offset).take (P.cellsOf fd.type)).toArray) ?_ this rfl;rw [ex as_ hv,UD Be as_ fd.offset (by omega) (.inl AB)];simp [AB]
       ·cases AW
      ·rename_i AB;have AB:Ap P fd.type=false:=by simpa using AB
       obtain⟨u,Fp,r⟩:=r1.get AW;refine Ay.pure h (v:=u) ?_ r rfl;rw [ex as_ hv];simp [part,Uv Be,AB,Fp]
    ·rename_i y;split at he
     ·rename_i hh;obtain⟨hle,AB⟩:=hh;simp at he;subst he;generalize hv:a.eval x=v at hr;cases hr with
      |e h1 h2 _=>
       rename_i f1;obtain⟨cs,Bj,AE⟩:=BJ hc;obtain⟨as_,rfl,NF,Dk⟩:=JD h1 Bj;have hlen:=Dk.len;have FI:(y.den c.ρ).cells=cs:=by rw [Bj];rfl
       rw [←FI]at Dk;obtain⟨q,g1,g2⟩:=Dk.jo NF fd.offset (P.cellsOf fd.type) (Ap P fd.type) (by rw [FI];omega) (fun hh=>by rcases AB with h'|h';rw [hh]at h';cases h';exact h');refine Ay.pure h ?_ (.e (f:=q) (by simpa [E.den]using g2) (fun z hz=>h2 z (g1 z hz)) .nil) rfl;rw [ex as_ hv,UD Be as_ fd.offset (by omega) AB];simp
     ·cases he
    ·rename_i b g m pth y;split at he
     ·rename_i hh;obtain⟨hle,AB,bU⟩:=hh;have hE:=Q7 h.eh h.gs bU;generalize hv:a.eval x=v at hr;have HX:Cn.den c.ρ (.agg y (P.cellsOf t)):=by
       split at he<;>(simp only [Ag]at he;subst he;exact BJ hc)
      cases hr with
      |via h1 h2 h3 _=>
       obtain⟨⟨f1,p1,p2⟩,_⟩:=h3 hE;obtain⟨cs,Bj,AE⟩:=HX;obtain⟨as_,rfl,NF,Dk⟩:=JD p1 Bj;have hlen:=Dk.len;have FI:(y.den c.ρ).cells=cs:=by rw [Bj];rfl
       rw [←FI]at Dk;obtain⟨q,g1,g2⟩:=Dk.jo NF fd.offset (P.cellsOf fd.type) (Ap P fd.type) (by rw [FI];omega) (fun hh=>by rcases AB with h'|h';rw [hh]at h';cases h';exact h');have AR:=ex as_ hv;rw [UD Be as_ fd.offset (by omega) AB]at AR;simp only [Result.andThen_ok]at AR;have BU:Rd c.w _ [(E.fld y fd.offset (P.cellsOf fd.type) (Ap P fd.type)).den c.ρ] q:=g2;split at he
       ·simp only [Ag]at he;subst he;obtain⟨e1,e2,e3,e4⟩:=hc (.flat (.fld y fd.offset (P.cellsOf fd.type) (Ap P fd.type)) (P.cellsOf fd.type) (Ap P fd.type)) (by simp);have hq:q= []:=by
         cases hg:Ap P fd.type with
         |true=>obtain⟨cs,Bj⟩:=e3 hg;obtain⟨as_,_,_,r⟩:=JD BU Bj;exact HI r (by rw [Bj]at e2;exact e2)
         |false=>exact HI BU (by simpa using e4 hg)
        subst hq;exact Ay.pure h AR (.e BU (by simp) .nil) rfl
       ·simp only [Ag]at he;subst he;exact Ay.pure h AR (.via h1 h2 (fun _=>⟨⟨q,BU,fun z hz=>p2 z (g1 z hz)⟩,trivial⟩) .nil) rfl
     ·cases he
    ·cases he
  ·cases he
 ·cases he
theorem QV {v:Value} {x:AV} {m:Int} {w:World} {f:List Nat} (h:Rd w [v] [x] f) (hx:x.len= .int .i64 m):(∃a c,v= .slice a 0 c∧m=0)∨ ∃b o k c,v= .slice (some ⟨b,o,none⟩) k c∧m=k:=by
 rcases h.kind with h|h|h|h|h|h|h|h|h|h
 ·obtain⟨_,_,_,rfl,_⟩:=h;simp [AV.len]at hx
 ·obtain⟨_,_,rfl,_⟩:=h;simp [AV.len]at hx
 ·obtain⟨_,_,rfl,_⟩:=h;simp [AV.len]at hx
 ·obtain⟨q,r,rfl,rfl,_⟩:=h;simp [AV.len]at hx;exact .inl ⟨q,r,rfl,by omega⟩
 ·obtain⟨b,o,k,r,ys,_,_,_,_,_,_,rfl,rfl,_,_,_,_,hl,_⟩:=h;simp [AV.len]at hx;exact .inr ⟨b,o,k,r,rfl,by omega⟩
 ·obtain⟨_,_,_,rfl,_⟩:=h;simp [AV.len]at hx
 ·obtain⟨_,_,_,rfl,_⟩:=h;simp [AV.len]at hx
 ·obtain⟨_,_,_,_,_,_,_,rfl,_⟩:=h;simp [AV.len]at hx
 ·obtain⟨_,_,_,_,rfl,_⟩:=h;simp [AV.len]at hx
 ·obtain⟨_,rfl,_⟩:=h;simp [AV.len]at hx
theorem Uf {t el:TypeId} (hu:P.underlying t=some (.slice el)) (hz:P.cellsOf el≠0) {b off len cap:Nat} {kk:IntKind} {k:Int} (h0:0≤k) (h1:k<len) (w:World):
  (Instr.indexAt t (.slice (some ⟨b,off,none⟩) len cap) (.int kk k)).run P w= .ok (.pointer (some ⟨b,off+k.toNat*P.cellsOf el,none⟩)) w:=by
 simp [Instr.indexAt,run_underlying hu,asIntOf,h0,h1,u7 hz,Addr.add_lit]
theorem uZ (h:Bg P c n nx sl hp a sl0 hp0 o gs) {t:TypeId} {x i:Operand} (ho:o.op= .indexAddr t x i∨o.op= .index t x i) {s1 s2:SV} (Bz:BE sl0 gs x=some s1) (AW:BE sl0 gs i=some s2)
  (AM:(∃el,P.underlying t=some (.slice el))→o.op= .indexAddr t x i) (aX:P.underlying t=some .string→o.op= .index t x i)
  (he:YT P hp0 gs t s1 s2=some e) (hc: ∀q∈e.ca,Cn.den c.ρ q):Ay P o c n nx sl hp gs a e:=by
 have DW:x∈o.op.operands:=by rcases ho with ho|ho<;>simp [ho,Op.operands]
 have DA:i∈o.op.operands:=by rcases ho with ho|ho<;>simp [ho,Op.operands]
 have r1:=h.cu Bz DW;have r2:=h.cu AW DA;unfold YT at he;split at he
 ·rename_i el k hu;have SB:=AM ⟨el,hu⟩;have ex:(execOp a.eval o).run P c.w=((Instr.indexAt t (a.eval x) (a.eval i)).run P c.w).andThen fun v w=> .ok (.value v) w:=by simp [execOp,SB]
  split at he
  ·cases he
  rename_i hz;obtain⟨fk,Iz,_⟩: ∃f,Rd c.w [a.eval i] [k.den c.ρ] f∧ ∀b∈f,c.ok b:=by
   generalize a.eval i=v at r2;cases r2 with
   |e h1 h2 _=>exact⟨_,h1,h2⟩
  split at he
  ·rename_i b g;split at he
   ·rename_i e0 sz g' c0 d hl;split at he
    ·rename_i hh;obtain⟨rfl,rfl⟩:=hh;simp at he;subst he;obtain⟨kk,kv,m,e1,e2,e3,e4,e5⟩:=BJ hc;obtain⟨Jb,_⟩:=Gv Iz e1;generalize hv:a.eval x=v at r1 ex;cases r1 with
     |own hK O6 _=>
      obtain⟨_,_,N,q1,q2,_,_⟩:=h.eh b _ (CH hl h.gs);obtain⟨xs,Cu,AE,h0,Bc⟩:=q1;rw [Cu]at e3;simp only [AV.len,AV.int.injEq,true_and]at e3;rcases Bc with⟨rfl,_⟩|⟨g9,cap,C,hH,_⟩
      ·simp at e3;omega
      ·refine Ay.pure h (v:= .pointer (some ⟨g9,kv.toNat*P.cellsOf el+0,none⟩)) ?_ (.cr hK hH e1 e2 (by omega) .nil) rfl;rw [O6]at hH;cases hH;rw [ex,Jb,Uf hu hz e2 (by omega)];simp
    ·cases he
   ·rename_i g' c0 hl;split at he
    ·rename_i hh;subst hh;simp at he;subst he;obtain⟨kk,kv,m,e1,e2,e3,e4,e5⟩:=BJ hc;obtain⟨Jb,_⟩:=Gv Iz e1;generalize hv:a.eval x=v at r1 ex;cases r1 with
     |own hK O6 _=>
      obtain⟨_,⟨f,q1,q2⟩,_,_⟩:=h.eh b _ (CH hl h.gs);rcases QV q1 e3 with⟨_,_,_,hm⟩|⟨b9,off9,len9,cap9,hH,hm⟩
      ·omega
      ·rw [O6]at hH;cases hH;rw [O6]at q1;refine Ay.pure h (v:= .pointer (some ⟨b9,off9+kv.toNat*P.cellsOf el+0,none⟩)) ?_ (.df q1 q2 e1 e2 (by omega) e5 .nil) rfl;rw [ex,Jb,Uf hu hz e2 (by omega)];simp
    ·cases he
   ·rename_i e0 sz dl g' ep c0 hl;split at he
    ·rename_i hh;obtain⟨rfl,rfl⟩:=hh;simp at he;subst he;obtain⟨kk,kv,m,e1,e2,e3,e4,e5⟩:=BJ hc;obtain⟨Jb,_⟩:=Gv Iz e1;generalize hv:a.eval x=v at r1 ex;cases r1 with
     |own hK O6 _=>
      obtain⟨_,_,_,q1,_⟩:=h.eh b _ (CH hl h.gs);obtain⟨_,_,⟨a9,d3,d4,_⟩|⟨g9,cap,C,ys,N1,hH,d4,_⟩⟩:=q1.inv
      ·rw [d4]at e3;simp [AV.len]at e3;omega
      ·rw [d4]at e3;simp only [AV.len,AV.int.injEq,true_and]at e3;refine Ay.pure h (v:= .pointer (some ⟨g9,kv.toNat*P.cellsOf el+0,none⟩)) ?_ (.cr hK hH e1 e2 (by omega) .nil) rfl;rw [O6]at hH;cases hH;rw [ex,Jb,Uf hu hz e2 (by omega)];simp
    ·cases he
   ·cases he
  ·rename_i y;simp at he;subst he;obtain⟨kk,kv,m,e1,e2,e3,e4,e5⟩:=BJ hc;obtain⟨Jb,_⟩:=Gv Iz e1;generalize hv:a.eval x=v at r1 ex;cases r1 with
   |e q1 q2 _=>
    rcases QV q1 e3 with⟨_,_,_,hm⟩|⟨b9,off9,len9,cap9,rfl,hm⟩
    ·omega
    ·refine Ay.pure h (v:= .pointer (some ⟨b9,off9+kv.toNat*P.cellsOf el+0,none⟩)) ?_ (.df q1 q2 e1 e2 (by omega) e5 .nil) rfl;rw [ex,Jb,Uf hu hz e2 (by omega)];simp
  ·rename_i b g m pth y;split at he
   ·rename_i bU;simp at he;subst he;have hE:=Q7 h.eh h.gs bU;obtain⟨kk,kv,mm,e1,e2,e3,e4,e5⟩:=BJ hc;obtain⟨Jb,_⟩:=Gv Iz e1;generalize hv:a.eval x=v at r1 ex;cases r1 with
    |via q1 q2 q3 _=>
     obtain⟨⟨f,p1,p2⟩,p3⟩:=q3 hE;rcases QV p1 e3 with⟨_,_,_,hm⟩|⟨b9,off9,len9,cap9,rfl,hm⟩
     ·omega
     ·refine Ay.pure h (v:= .pointer (some ⟨b9,off9+kv.toNat*P.cellsOf el+0,none⟩)) ?_ (.vptr q1 q2 (fun _=>⟨b9,off9,len9,cap9,kk,kv,⟨f,p1,p2⟩,p3,e1,e2,by omega,e5,rfl⟩) .nil) rfl;rw [ex,Jb,Uf hu hz e2 (by omega)];simp
   ·cases he
  ·cases he
 ·rename_i k hu;have SB:=aX hu;obtain⟨fk,Iz,_⟩: ∃f,Rd c.w [a.eval i] [k.den c.ρ] f∧ ∀b∈f,c.ok b:=by
   generalize a.eval i=v at r2;cases r2 with
   |e h1 h2 _=>exact⟨_,h1,h2⟩
  split at he
  ·rename_i y;simp at he;subst he;obtain⟨kk,kv,s,e1,e2,e3,e4⟩:=BJ hc;obtain⟨Jb,_⟩:=Gv Iz e1;generalize hv:a.eval x=v at r1;cases r1 with
   |e q1 q2 _=>
    obtain⟨bs,rfl,rfl,hle⟩:=Rf q1 e2;have Aq:kv.toNat<bs.data.toList.length:=by omega
    have aI:kv.toNat<bs.size:=by simpa using Aq
    refine Ay.pure h (v:= .int .u8 (bs[kv.toNat]).toNat) ?_ (.cw ?_) rfl
    ·simp [execOp,SB,Instr.index,hv,Jb,asIntOf,run_underlying hu,e3,aI]
    ·simp only [E.den,e1,e2,AV.sidx];have:bs.data.toList[kv.toNat]?=some (bs[kv.toNat]):=by
      rw [List.getElem?_eq_getElem Aq];simp [ByteArray.getElem_eq_getElem_data]
     rw [this];refine .int ?_ .nil;rw [OO];have:=(bs[kv.toNat]).toNat_lt;simp [IntKind.min,IntKind.max,IntKind.signed,IntKind.bits];omega
  ·cases he
 ·cases he
theorem zrS (h:Bg P c n nx sl hp a sl0 hp0 o gs) {t:TypeId} {x i:Operand} (ho:o.op= .indexAddr t x i) (LS:P.underlying t≠some .string) (he:Bv P sg sl0 hp0 nv nx gs o=some e) (hc: ∀q∈e.ca,Cn.den c.ρ q):Ay P o c n nx sl hp gs a e:=by
 simp only [Bv,ho,Av]at he;obtain⟨s1,Bz,s2,AW,he⟩:=he;split at he
 ·cases he
 exact uZ h (.inl ho) Bz AW (fun _=>ho) (fun hh=>absurd hh LS) he hc
theorem zu1 (h:Bg P c n nx sl hp a sl0 hp0 o gs) {t:TypeId} {x i:Operand} (ho:o.op= .index t x i) (LS:P.underlying t=some .string) (he:Bv P sg sl0 hp0 nv nx gs o=some e) (hc: ∀q∈e.ca,Cn.den c.ρ q):Ay P o c n nx sl hp gs a e:=by
 simp only [Bv,ho,Av]at he;obtain⟨s1,Bz,s2,AW,he⟩:=he;split at he
 ·exact uZ h (.inr ho) Bz AW (fun⟨el,hh⟩=>by rw [LS]at hh;cases hh) (fun _=>ho) he hc
 ·cases he
theorem zvh (h:Bg P c n nx sl hp a sl0 hp0 o gs) {x:Operand} {i:Nat} (ho:o.op= .extract x i) (he:Bv P sg sl0 hp0 nv nx gs o=some e) (hc: ∀q∈e.ca,Cn.den c.ρ q):Ay P o c n nx sl hp gs a e:=by
 have hm:x∈o.op.operands:=by simp [ho,Op.operands]
 simp only [Bv,ho,Av]at he;obtain⟨s,hs,he⟩:=he;have hr:=h.cu hs hm;generalize hv:a.eval x=v at hr;have ex: ∀(as_:List Value) u,v= .tuple as_.toArray→as_[i]?=some u→(execOp a.eval o).run P c.w= .ok (.value u) c.w:=fun as_ u bT hu=>by simp [execOp,ho,Instr.extract,hv,bT,hu]
 split at he
 ·rename_i vs;obtain⟨s2,AW,rfl⟩:=At.1 he;cases hr with
  |tup r1 r9=>obtain⟨u,hu,r⟩:=r1.get AW;exact Ay.pure h (ex _ u rfl hu) r rfl
 ·rename_i y;simp at he;subst he;cases hr with
  |e q1 q2 _=>
   have hd:(y.den c.ρ).proj i≠ .undef:=BJ hc;cases hy:y.den c.ρ<;>simp only [hy,AV.proj,ne_eq,not_true_eq_false]at hd;rename_i cs;obtain⟨as_,rfl,r1⟩:=zEZ q1 hy;cases R6:cs[i]? with
   |none=>simp [R6]at hd
   |some z=>obtain⟨u,g,hu,hg,Dl⟩:=r1.at R6;exact Ay.pure h (ex as_ u rfl hu) (.e (f:=g) (by simpa [E.den,hy,AV.proj,R6]using Dl) (fun b hb=>q2 b (hg b hb)) .nil) rfl
 ·cases he
theorem zB0 (h:Bg P c n nx sl hp a sl0 hp0 o gs) {x:Operand} {t:TypeId} (ho:o.op= .unOp .not t x) (he:Bv P sg sl0 hp0 nv nx gs o=some e) (hc: ∀q∈e.ca,Cn.den c.ρ q):Ay P o c n nx sl hp gs a e:=by
 have hm:x∈o.op.operands:=by simp [ho,Op.operands]
 simp only [Bv,ho,Av,At]at he;obtain⟨s,hs,y,hy,he⟩:=he;obtain⟨f,q1,_⟩:=HG (h.cu hs hm) hy;split at he
 ·subst he;have hv:=Ik q1 rfl;rename_i b;exact Ay.pure h (v:= .bool (!b)) (by simp [execOp,ho,hv,Op.unary]) (.cw (.bool .nil)) rfl
 ·subst he;have hd:(y.den c.ρ).fg≠ .undef:=BJ hc;cases Bm:y.den c.ρ<;>simp only [Bm,AV.fg,ne_eq,not_true_eq_false]at hd;have hv:=Ik q1 Bm;rename_i b;exact Ay.pure h (v:= .bool (!b)) (by simp [execOp,ho,hv,Op.unary]) (.cw (by simp only [E.den,Bm,AV.fg];exact .bool .nil)) rfl
theorem zB9 (h:Bg P c n nx sl hp a sl0 hp0 o gs) {x:Operand} {t:TypeId} (ho:o.op= .unOp .neg t x) (he:Bv P sg sl0 hp0 nv nx gs o=some e) (hc: ∀q∈e.ca,Cn.den c.ρ q):Ay P o c n nx sl hp gs a e:=by
 have hm:x∈o.op.operands:=by simp [ho,Op.operands]
 simp only [Bv,ho,Av,At]at he;obtain⟨s,hs,y,hy,rfl⟩:=he;obtain⟨f,q1,_⟩:=HG (h.cu hs hm) hy;have hd:(y.den c.ρ).jr≠ .undef:=BJ hc;cases Bm:y.den c.ρ<;>simp only [Bm,AV.jr,ne_eq,not_true_eq_false]at hd;rename_i k m;obtain⟨hv,_⟩:=Gv q1 Bm;exact Ay.pure h (v:= .int k (k.wrap (0-m))) (by simp [execOp,ho,hv,Op.unary,Op.intArith]) (.cw (by simp only [E.den,Bm,AV.jr];exact .int (kR _ _) .nil)) rfl
theorem zG {L:List Operand} {sl0:Nat→SV} {gs:Gd} (h: ∀x s,BE sl0 gs x=some s→x∈L→SR c [s] [a.eval x]): ∀{xs:List Operand} {ss:List SV},(∀x∈xs,x∈L)→xs.mapM (BE sl0 gs)=some ss→SR c ss (xs.map a.eval)
 | [],ss,_,hm=>by simp at hm;subst hm;exact .nil
 |x::xs,ss,hL,hm=>by rw [List.mapM_cons]at hm;simp only [Option.bind_eq_bind,Av]at hm;obtain⟨s,hs,ss',FZ,hm⟩:=hm;simp at hm;subst hm;exact(h x s hs (hL x (by simp))).app (zG h (fun y hy=>hL y (by simp [hy])) FZ)
theorem ztC (h:Bg P c n nx sl hp a sl0 hp0 o gs) {f:FuncId} {fst caps:Array Operand} (ho:o.op= .makeFunc (.func f) fst caps) (he:Bv P sg sl0 hp0 nv nx gs o=some e):Ay P o c n nx sl hp gs a e:=by
 simp only [Bv,ho]at he;split at he
 ·rename_i hf;obtain⟨ss,FZ,rfl⟩:=At.1 he;have hf:fst= #[]:=by simpa using hf
  have r:=zG (a:=a) (c:=c) (L:=caps.toList) (fun x s hx hm=>h.cu hx (by simp only [ho,Op.operands,Array.mem_append];exact .inr (Array.mem_toList_iff.1 hm))) (fun x hx=>hx) FZ;refine Ay.pure h (v:= .func (.func f) #[] (caps.toList.map a.eval).toArray) ?_ (.fn (by rw [Bn.az];exact r) .nil) rfl;simp [execOp,ho,Instr.makeFunc,hf];apply Array.ext';simp
 ·cases he
end
section
variable {P:Program} {c:Cx} {n nx:Nat} {sl sl0:Nat→SV} {hp hp0:Nat→Option Aj} {a:Act} {o:Oper} {gs:Gd} {e:AX} {sg:BI} {nv:Nat}
theorem Bg.kt (h:Bg P c n nx sl hp a sl0 hp0 o gs) {x:Operand} {s:SV} (hs:BE sl0 gs x=some s) (hm:x∈o.op.operands) {y:E} (hy:Bf hp0 gs AT s=some y):
  ∃f,Rd c.w [a.eval x] [y.den c.ρ] f∧ ∀b∈f,c.ed (BH hp0 gs (AT+1) [s]) b:=HM h.eh h.gs AT hy (h.cu hs hm) AT (Nat.le_refl _)
theorem zBF (h:Bg P c n nx sl hp a sl0 hp0 o gs) {x:Operand} {t:TypeId} {cl:Call} (ho:o.op= .call cl) (AE:cl.callee= .builtin .len) (C7:cl.args.toList= [x]) (Ei:cl.argTypes.toList= [t]) (he:Bv P sg sl0 hp0 nv nx gs o=some e) (hc: ∀q∈e.ca,Cn.den c.ρ q):Ay P o c n nx sl hp gs a e:=by
 have Aw:cl.args= #[x]:=by apply Array.ext';simp [C7]
 have G1:cl.argTypes= #[t]:=by apply Array.ext';simp [Ei]
 have hm:x∈o.op.operands:=by simp [ho,Op.operands,Call.operands,AE,Aw]
 simp only [Bv,ho,AE,C7,Ei,Av]at he;obtain⟨s,hs,he⟩:=he;unfold pM at he;have ex:(execOp a.eval o).run P c.w=((Builtin.len_ #[t] o.type #[a.eval x]).run P c.w).andThen fun v w=> .ok (.value v) w:=by simp [execOp,ho,resolve,AE,Aw,G1,invoke,builtin]
 split at he
 ·rename_i el hu;obtain⟨y,hy,rfl⟩:=At.1 he;obtain⟨f,q1,q2⟩:=h.kt hs hm hy;have hd:(y.den c.ρ).len≠ .undef:=BJ hc;cases Bm:y.den c.ρ<;>simp only [Bm,AV.len,ne_eq,not_true_eq_false]at hd;rename_i xs;have hl:(y.den c.ρ).len= .int .i64 (xs.length:Int):=by rw [Bm];rfl
  have BZ:Ey .i64 (xs.length:Int):=by
   rw [OO];rcases q1.kind with hh|hh|hh|hh|hh|hh|hh|hh|hh|hh
   all_goals first
    |(obtain⟨_,_,_,hh,_⟩:=hh;rw [Bm]at hh;cases hh;done)
    |(obtain⟨_,_,hh,_⟩:=hh;rw [Bm]at hh;cases hh;done)
    |skip
   ·obtain⟨_,_,_,hh,_⟩:=hh;rw [Bm]at hh;cases hh;simp [IntKind.min,IntKind.max,IntKind.signed,IntKind.bits]
   ·obtain⟨_,_,_,_,_,_,_,_,_,_,_,_,hh,_,_,_,hle,hlen,_⟩:=hh;rw [Bm]at hh;cases hh;simp [IntKind.min,IntKind.max,IntKind.signed,IntKind.bits];omega
   all_goals first
    |(obtain⟨_,_,_,hh,_⟩:=hh;rw [Bm]at hh;cases hh;done)
    |(obtain⟨_,_,_,_,_,_,_,hh,_⟩:=hh;rw [Bm]at hh;cases hh;done)
    |(obtain⟨_,_,_,_,hh,_⟩:=hh;rw [Bm]at hh;cases hh;done)
    |(obtain⟨_,hh,_⟩:=hh;rw [Bm]at hh;cases hh;done)
  refine Ay.pure h (v:= .int .i64 xs.length) ?_ (.cw (by simp only [E.den,Bm,AV.len];exact .int BZ .nil)) rfl;rcases QV q1 hl with⟨p,q,hv,DV⟩|⟨b,o',k,q,hv,DV⟩
  ·rw [ex,hv,DV];simp [Builtin.len_,run_underlying hu,goInt]
  ·rw [ex,hv,DV];simp [Builtin.len_,run_underlying hu,goInt]
 ·rename_i hu;obtain⟨y,hy,rfl⟩:=At.1 he;obtain⟨f,q1,q2⟩:=h.kt hs hm hy;have hd:(y.den c.ρ).slen≠ .undef:=BJ hc;cases Bm:y.den c.ρ<;>simp only [Bm,AV.slen,ne_eq,not_true_eq_false]at hd;obtain⟨bs,hv,rfl,hle⟩:=Rf q1 Bm;refine Ay.pure h (v:= .int .i64 bs.size) ?_ (.cw ?_) rfl
  ·rw [ex,hv];simp [Builtin.len_,run_underlying hu,goInt]
  ·simp only [E.den,Bm,AV.slen];have:(bs.data.toList.length:Int)=(bs.size:Int):=by simp
   rw [this];refine .int ?_ .nil;rw [OO];simp [IntKind.min,IntKind.max,IntKind.signed,IntKind.bits];omega
 ·cases he
theorem zu2 (h:Bg P c n nx sl hp a sl0 hp0 o gs) {x:Operand} {src dst:TypeId} {k0 k:IntKind} (ho:o.op= .convert src dst x) (h1:P.underlying src=some (.int k0)) (h2:P.underlying dst=some (.int k)) (he:Bv P sg sl0 hp0 nv nx gs o=some e) (hc: ∀q∈e.ca,Cn.den c.ρ q):Ay P o c n nx sl hp gs a e:=by
 have hm:x∈o.op.operands:=by simp [ho,Op.operands]
 simp only [Bv,ho,Av]at he;obtain⟨s,hs,he⟩:=he;simp only [US,h1,h2,At]at he;obtain⟨y,hy,rfl⟩:=he;obtain⟨f,q1,_⟩:=HG (h.cu hs hm) hy;have hd:(y.den c.ρ).conv k≠ .undef:=BJ hc;cases Bm:y.den c.ρ<;>simp only [Bm,AV.conv,ne_eq,not_true_eq_false]at hd;rename_i k1 m;obtain⟨hv,_⟩:=Gv q1 Bm;exact Ay.pure h (v:= .int k (k.wrap m)) (by simp [execOp,ho,hv,convert,run_underlying h1,run_underlying h2,Conv.intToInt]) (.cw (by simp only [E.den,Bm,AV.conv];exact .int (kR _ _) .nil)) rfl
theorem zuz (h:Bg P c n nx sl hp a sl0 hp0 o gs) {x:Operand} {src dst:TypeId} (ho:o.op= .convert src dst x) (h1:P.underlying src=some .string) (h2:P.underlying dst=some .string) (he:Bv P sg sl0 hp0 nv nx gs o=some e) (hc: ∀q∈e.ca,Cn.den c.ρ q):Ay P o c n nx sl hp gs a e:=by
 have hm:x∈o.op.operands:=by simp [ho,Op.operands]
 simp only [Bv,ho,Av]at he;obtain⟨s,hs,he⟩:=he;simp only [US,h1,h2,At]at he;obtain⟨y,hy,rfl⟩:=he;obtain⟨f,q1,_⟩:=HG (h.cu hs hm) hy;have hd:(y.den c.ρ).slen≠ .undef:=BJ hc;cases hl:y.den c.ρ<;>simp only [hl,AV.slen,ne_eq,not_true_eq_false]at hd;obtain⟨bs,hv,hle,aG⟩:=Rf q1 hl;exact Ay.pure h (v:= .string bs) (by simp [execOp,ho,hv,convert,run_underlying h1,run_underlying h2]) (.cw (by rw [hl,hle];exact Rd.str aG .nil)) rfl
theorem pI {w:World}: ∀{ys:List AV} {s:List UInt8} {cs:List Value} {f:List Nat},L8 ys=some s→Rd w cs (AK ys) f→ ∃ns:List Int,cs=ns.map (Value.int .u8)∧s=ns.map (fun n=>UInt8.ofNat n.toNat)∧ns.length=ys.length
 | [],s,cs,f,h,hr=>by have:AK ([]:List AV)= []:=rfl;rw [this]at hr;cases hr;cases h;exact⟨[],rfl,rfl,rfl⟩
 |y::ys,s,cs,f,h,hr=>by
  unfold L8 at h;split at h
  ·rename_i h0;cases h0
  ·rename_i n xs he;cases he;obtain⟨s',h1,rfl⟩:=At.1 h;have Da:Rd w cs (.int .u8 n::AK ys) f:=by simpa [AK,AV.cells]using hr
   cases Da with
   |int hk Dk=>obtain⟨ns,rfl,rfl,hl⟩:=pI h1 Dk;exact⟨n::ns,rfl,rfl,by simp [hl]⟩
  ·cases h
theorem ztr (h:Bg P c n nx sl hp a sl0 hp0 o gs) {x:Operand} {src dst el:TypeId} (ho:o.op= .convert src dst x) (h1:P.underlying src=some (.slice el)) (h2:P.underlying dst=some .string) (he:Bv P sg sl0 hp0 nv nx gs o=some e) (hc: ∀q∈e.ca,Cn.den c.ρ q):Ay P o c n nx sl hp gs a e:=by
 have hm:x∈o.op.operands:=by simp [ho,Op.operands]
 simp only [Bv,ho,Av]at he;obtain⟨s,hs,he⟩:=he;simp only [US,h1,h2]at he;split at he
 ·rename_i hu;obtain⟨y,hy,rfl⟩:=At.1 he;obtain⟨f,q1,q2⟩:=h.kt hs hm hy;have hd:(y.den c.ρ).text≠ .undef:=BJ hc;cases Bm:y.den c.ρ<;>simp only [Bm,AV.text,ne_eq,not_true_eq_false]at hd;rename_i xs;split at hd
  ·rename_i t ht;split at hd
   ·rename_i hle;have BU:(E.text y).den c.ρ= .str t:=by
     simp only [E.den,Bm,AV.text,ht];rw [if_pos hle]
    have fin: ∀ns:List Int,t=ns.map (fun n=>UInt8.ofNat n.toNat)→ns.length=xs.length→(convert src dst (a.eval x)).run P c.w= .ok (.string (ns.foldl (fun r n=>r.push (UInt8.ofNat n.toNat)) ByteArray.empty)) c.w→Ay P o c n nx sl hp gs a {ca:= [.dfd (.text y)],val:= .e (.text y)}:=fun ns e1 e2 e3=>by
     have e4:(ns.foldl (fun r n=>r.push (UInt8.ofNat n.toNat)) ByteArray.empty)=⟨t.toArray⟩:=by
      rw [foldl_push_bytes,e1];simp [ByteArray.empty,ByteArray.emptyWithCapacity]
      try rfl
     rw [e4]at e3;refine Ay.pure h (v:= .string ⟨t.toArray⟩) (by simp [execOp,ho,e3]) (.cw ?_) rfl;rw [BU];have BV:(ByteArray.mk t.toArray).size≤9223372036854775807:=by simp only [ByteArray.size,List.size_toArray];rw [e1,List.length_map];omega
     have:=Rd.str (w:=c.w) (s:=⟨t.toArray⟩) BV .nil;simpa using this
    rw [Bm]at q1;rcases q1.kind with hh|hh|hh|hh|hh|hh|hh|hh|hh|hh
    all_goals first
     |(obtain⟨_,_,_,hh,_⟩:=hh;cases hh;done)
     |(obtain⟨_,_,hh,_⟩:=hh;cases hh;done)
     |skip
    ·obtain⟨p,q,hv,hx,_⟩:=hh;cases hx;cases ht;refine fin [] rfl rfl ?_;rw [hv];cases p with
     |none=>rw [run_convert_bytes_nil c.w src el h1 hu _ _ dst h2];rfl
     |some ad=>rw [run_convert_bytes_string c.w src dst el _ 0 q h1 hu h2,run_bytesToString c.w ad 0 q [] (by simp [loadCells,loadCellsFrom])]
    ·obtain⟨b,o',k,q,ys,cs,C,t',fz,sz,f1,hv,hx,_,hb,_,hle',hlen,_,_,Bj,hr⟩:=hh;cases hx;obtain⟨ns,rfl,e1,e2⟩:=pI ht hr.2;refine fin ns e1 e2 ?_;have hl:ns.length=k:=by omega
     have Ce: ∀i,i<k→c.w.cell? ⟨b,o'+i,none⟩=some (.int .u8 (ns.getD i 0)):=fun i hi=>by
      have Fx:i<ns.length:=by omega
      have:=Bj i (.int .u8 ns[i]) (by simp [Fx]);rw [EC hb,this];simp [Fx]
     have:=run_convert_bytes_arg c.w src el h1 hu b o' k q ns hl Ce dst h2;rw [hv,this];congr 2;rw [foldl_push_bytes];simp [strOfNums,ByteArray.empty,ByteArray.emptyWithCapacity]
     try rfl
    all_goals first
     |(obtain⟨_,_,_,hh,_⟩:=hh;cases hh;done)
     |(obtain⟨_,_,_,_,_,_,_,hh,_⟩:=hh;cases hh;done)
     |(obtain⟨_,_,_,_,hh,_⟩:=hh;cases hh;done)
     |(obtain⟨_,hh,_⟩:=hh;cases hh;done)
   ·exact absurd rfl hd
  ·exact absurd rfl hd
 ·cases he
theorem wD {ρ:List AV} {x:E} {b:Bool} {gs:Gd} (h1:x.den ρ= .bool b) (h2:Bb ρ gs):Bb ρ ((x,b)::gs):=by
 intro g hg;rcases Af.1 hg with rfl|hg
 ·exact h1
 ·exact h2 g hg
theorem zy7 (h:Bg P c n nx sl hp a sl0 hp0 o gs) {x y z:Operand} (ho:o.op= .pick x y z) (he:Bv P sg sl0 hp0 nv nx gs o=some e) (hc: ∀q∈e.ca,Cn.den c.ρ q):Ay P o c n nx sl hp gs a e:=by
 have DW:x∈o.op.operands:=by simp [ho,Op.operands]
 have DA:y∈o.op.operands:=by simp [ho,Op.operands]
 have Pg:z∈o.op.operands:=by simp [ho,Op.operands]
 simp only [Bv,ho,Av]at he;obtain⟨s,hs,he⟩:=he;have hr:=h.cu hs DW;split at he
 ·rename_i q;have ex: ∀b,a.eval x= .bool b→(execOp a.eval o).run P c.w= .ok (.value (if b then a.eval y else a.eval z)) c.w:=fun b hb=>by
   simp [execOp,ho,hb,asBool]
  obtain⟨f,q1⟩: ∃f,Rd c.w [a.eval x] [q.den c.ρ] f:=by
   generalize a.eval x=v at hr;cases hr with
   |e h1 _ _=>exact⟨_,h1⟩
  unfold o8 at he;split at he
  ·obtain⟨s',Ba,rfl⟩:=At.1 he;exact Ay.pure h (v:=a.eval y) (ex true (Ik q1 rfl)) (h.cu Ba DA) rfl
  ·obtain⟨s',Ba,rfl⟩:=At.1 he;exact Ay.pure h (v:=a.eval z) (ex false (Ik q1 rfl)) (h.cu Ba Pg) rfl
  ·split at he
   ·rename_i y' z' hy hz;simp at he;subst he;simp only [Av]at hy hz;obtain⟨sy,hsy,hy⟩:=hy;obtain⟨sz,BV,hz⟩:=hz;have hd:(q.den c.ρ).fg≠ .undef:=BJ hc;cases hq:q.den c.ρ<;>simp only [hq,AV.fg,ne_eq,not_true_eq_false]at hd;rename_i b;cases b with
    |true=>have r:=X8 (a:=a) hsy (fun t ht=>by subst ht;rw [h.sl t DA];exact h.rel.cx t) (wD hq h.gs);obtain⟨f',g1,g2⟩:=HG r hy;exact Ay.pure h (v:=a.eval y) (ex true (Ik q1 hq)) (.e (f:=f') (by simpa [E.den,hq,AV.cond]using g1) g2 .nil) rfl
    |false=>have r:=X8 (a:=a) BV (fun t ht=>by subst ht;rw [h.sl t Pg];exact h.rel.cx t) (wD hq h.gs);obtain⟨f',g1,g2⟩:=HG r hz;exact Ay.pure h (v:=a.eval z) (ex false (Ik q1 hq)) (.e (f:=f') (by simpa [E.den,hq,AV.cond]using g1) g2 .nil) rfl
   ·cases he
 ·cases he
end
section
variable {P:Program} {c:Cx} {n nx:Nat} {sl sl0:Nat→SV} {hp hp0:Nat→Option Aj} {a:Act} {o:Oper} {gs:Gd} {e:AX} {sg:BI} {nv:Nat}
theorem iG {w:World} {v:Value} {x:AV} {f:List Nat} (h:Rd w [v] [x] f) (h1: ∀cs,x≠ .agg cs) (h2: ∀cs,x≠ .tup cs):v.oneCell'=true:=by
 cases h<;>first
  |rfl
  |exact absurd rfl (h1 _)
  |exact absurd rfl (h2 _)
theorem one_cells {v:Value} (h:v.oneCell'=true):v.cells= #[v]:=by cases v<;>first|rfl|(simp [Value.oneCell']at h)
theorem Ym {t:TypeId} {s:SV} {v:Value} {cs:List SV} {ck:List Cn} (h:SR c [s] [v]) (hc:Rc P t s=some (cs,ck)) (hk: ∀q∈ck,q.den c.ρ):
  SR c cs v.cells.toList∧(∀u∈v.cells.toList,u.oneCell'=true):=by
 unfold Rc at hc;split at hc
 ·split at hc
  ·simp at hc;obtain⟨rfl,rfl⟩:=hc;cases h with
   |agg h1 h2 _=>exact⟨by simpa [Value.cells]using h2,by simpa [Value.cells]using h1⟩
  ·rename_i x;simp at hc;obtain⟨rfl,rfl⟩:=hc;cases h with
   |e h1 h2 _=>
    obtain⟨as_,has,hl⟩:=BJ hk;obtain⟨vs,rfl,h3,h4⟩:=JD h1 has;refine⟨?_,by simpa [Value.cells]using h3⟩;have hlen:=h4.len;have key: ∀k,k≤as_.length→SR c ((List.range k).map fun j=>SV.e (.fld x j 1 false)) (vs.take k):=by
     intro k
     induction k with
     |zero=>intro _;simpa using SR.nil
     |succ k ih=>
      intro hk;have BM:k<as_.length:=by omega
      obtain⟨u,g,hu,hg,hr⟩:=h4.at (show as_[k]?=some as_[k] by simp [BM])
      rw [List.range_succ,List.map_append,List.take_succ_eq_append_getElem (by omega)];refine(ih (by omega)).app ?_;have Fp:vs[k]'(by omega)=u:=by simpa [show k<vs.length by omega]using hu
      rw [Fp];exact .e (f:=g) (by simpa [E.den,AV.fld,has,AV.cells,BM]using hr) (fun b hb=>h2 b (hg b hb)) .nil
    have:=key as_.length (Nat.le_refl _);rw [←hlen,List.take_length,hlen,hl]at this;simpa [Value.cells]using this
  ·cases hc
 ·split at hc
  ·rename_i x;simp at hc;obtain⟨rfl,rfl⟩:=hc;cases h with
   |e h1 h2 _=>
    have hq:(∀cs,x.den c.ρ≠ .agg cs)∧ ∀cs,x.den c.ρ≠ .tup cs:=by
     cases x<;>first
      |exact(BJ hk:Cn.den c.ρ (.cells _ 1))
      |exact⟨by simp [E.den],by simp [E.den]⟩
    have Ix:=iG h1 hq.1 hq.2;rw [one_cells Ix];exact⟨.e h1 h2 .nil,by simpa using Ix⟩
  ·cases hc
  ·cases hc
  ·cases hc
  ·cases hc
  ·cases hc
  ·cases hc
  ·cases hc
  ·cases hc
  ·simp at hc;obtain⟨rfl,rfl⟩:=hc;have Ix:v.oneCell'=true:=by
    cases h<;>first|rfl|(rename_i hh _ _ _ _ _;exact absurd rfl (hh _))|skip
    all_goals first
     |rfl
     |exact(show∀(i:Nat),SV.lent _=SV.lent i→False from by assumption) _ rfl|>.elim
     |exact(show∀(t g n:Nat) (p:M3) (x:E),SV.via _ _ _ _ _=SV.via t g n p x→False from by assumption) _ _ _ _ _ rfl|>.elim
     |exact(show∀(t g n:Nat) (p:M3) (x i:E) (sz o:Nat),SV.vptr _ _ _ _ _ _ _ _=SV.vptr t g n p x i sz o→False from by assumption) _ _ _ _ _ _ _ _ rfl|>.elim
     |(exfalso;simp_all;done)
   rw [one_cells Ix];exact⟨h,by simpa using Ix⟩
theorem zE3 (h:Bg P c n nx sl hp a sl0 hp0 o gs) (ob:Obj) (hv:Value):Mg c (c.new nx ob hv []) nx:=
 ⟨rfl,rfl,rfl,rfl,fun t ht=>ht.imp id (fun hh=>by subst hh;exact⟨Nat.le_refl _,by simp [By]⟩)⟩
theorem OJ (h:Bg P c n nx sl hp a sl0 hp0 o gs): ¬c.U nx:=h.new nx (Nat.le_refl _) (by omega)
theorem Ay.box (h:Bg P c n nx sl hp a sl0 hp0 o gs) {ty:TypeId} {g:Bool} {cs:List SV} {v:Value} {ck:List Cn} (hr:(execOp a.eval o).run P c.w= .ok (.value (.pointer (some ⟨c.w.heap.size,0,none⟩))) (c.w.alloc (.cells v.cells ty)))
  (hs:SR c cs v.cells.toList) (h1: ∀u∈v.cells.toList,u.oneCell'=true):Ay P o c n nx sl hp gs a {ca:=ck,val:= .cg nx 0,bm:= [(nx,CC gs (.box ty g cs))]}:=by
 intro next Q hk
 unfold Oper.wp;rw [hr,Oper.upon_value];have hU:=OJ h;have keep:Dv c (c.new nx (.cells v.cells ty) (.pointer (some ⟨c.w.heap.size,0,none⟩)) []):=Cx.il (fun g hg=>hU (h.rel.bu _ _ hg));have hH:(c.new nx (.cells v.cells ty) (.pointer (some ⟨c.w.heap.size,0,none⟩)) []).H nx 0= .pointer (some ⟨c.w.heap.size,0,none⟩):=by simp [Cx.new]
 have hK:(c.new nx (.cells v.cells ty) (.pointer (some ⟨c.w.heap.size,0,none⟩)) []).K nx 0:= .inr ⟨rfl,rfl⟩;have As:=h.rel.new hU (.cells v.cells ty) (.pointer (some ⟨c.w.heap.size,0,none⟩)) (.box ty g cs) gs h.gs (by intros;simp)
  ⟨c.w.heap.size,v.cells,hK,hH,by simp [Cx.new],by simp [Cx.new],heap_alloc_new _ _,h1,hs.keep keep⟩
 exact hk _ _ (zE3 h _ _) (As.put ((SR.cg hK hH .nil).mkGd gs h.gs) o.dst)
theorem zx2 (h:Bg P c n nx sl hp a sl0 hp0 o gs) {t:TypeId} (ho:o.op= .alloc t) (he:Bv P sg sl0 hp0 nv nx gs o=some e) (hc: ∀q∈e.ca,Cn.den c.ρ q):Ay P o c n nx sl hp gs a e:=by
 simp only [Bv,ho,Av]at he;obtain⟨z,⟨i,hi,hz⟩,s,hs,⟨cs,ck⟩,Bj,he⟩:=he;split at he
 ·cases he
 ·split at he
  ·cases he
  ·rename_i KD;have KD:ck= []:=by simpa using KD
   simp at he;subst he;have Ba:EF z=some s:=by simpa [pY,hi,hz]using hs
   obtain⟨q1,q2⟩:=Ym (Ys (c:=c) Ba) Bj (by simp [KD]);refine Ay.box h (v:=z) ?_ q1 q2;simp [execOp,ho,Instr.alloc,zeroValue,typeInfo,hi,hz,newVar,newRow]
theorem zB6 (h:Bg P c n nx sl hp a sl0 hp0 o gs) {t:TypeId} {x:Operand} (ho:o.op= .box t x) (he:Bv P sg sl0 hp0 nv nx gs o=some e) (hc: ∀q∈e.ca,Cn.den c.ρ q):Ay P o c n nx sl hp gs a e:=by
 have hm:x∈o.op.operands:=by simp [ho,Op.operands]
 simp only [Bv,ho,Av]at he;obtain⟨s,hs,⟨cs,ck⟩,Bj,he⟩:=he;split at he
 ·cases he
 ·simp at he;subst he;obtain⟨q1,q2⟩:=Ym (h.cu hs hm) Bj hc;refine Ay.box h (v:=a.eval x) ?_ q1 q2;simp [execOp,ho,Instr.box,newVar,newRow]
end
section
variable {P:Program} {c:Cx} {n nx:Nat} {sl sl0:Nat→SV} {hp hp0:Nat→Option Aj} {a:Act} {o:Oper} {gs:Gd} {e:AX} {sg:BI} {nv:Nat}
def setVs {α:Type} (cs:List α) (o:Nat) (vs:List α):List α:=cs.take o++vs++cs.drop (o+vs.length)
theorem QQ {α:Type} (cs vs:List α) (o:Nat) (h:o+vs.length≤cs.length) (i:Nat):(setVs cs o vs)[i]?=if o≤i∧i<o+vs.length then vs[i-o]? else cs[i]?:=by
 unfold setVs;have ht:(cs.take o).length=o:=by rw [List.length_take];omega
 rw [List.append_assoc];by_cases h1:i<o
 ·rw [if_neg (by omega),List.getElem?_append_left (by omega),List.getElem?_take,if_pos h1]
 ·rw [List.getElem?_append_right (by omega),ht];by_cases h2:i<o+vs.length
  ·rw [if_pos (by omega),List.getElem?_append_left (by omega)]
  ·rw [if_neg (by omega),List.getElem?_append_right (by omega),List.getElem?_drop];congr 1;omega
theorem QK {α:Type} (cs vs:List α) (o:Nat) (h:o+vs.length≤cs.length):(setVs cs o vs).length=cs.length:=by simp [setVs];omega
theorem SR.setVs {cs vs:List SV} {C V:List Value} {k:Nat} (h:SR c cs C) (hv:SR c vs V):SR c (RB cs k vs) (Go.Proofs.YtlhlgboblghkdaaGreatDoor.setVs C k V):=by unfold RB Go.Proofs.YtlhlgboblghkdaaGreatDoor.setVs;have hl:=hv.len;rw [←hl];exact((h.split k).1.app hv).app (h.split _).2
theorem yL (vs:List Value): ∀(k off:Nat) (C:Array Value),off+k+vs.length≤C.size→
  ((vs.zipIdx k).foldl (fun cs (p:Value × Nat)=>cs.setIfInBounds (off+p.2) p.1) C).toList=setVs C.toList (off+k) vs:=by
 induction vs with
 |nil=>intro k off C _;simp [setVs]
 |cons v vs ih=>
  intro k off C h;simp only [Ar]at h;simp only [List.zipIdx_cons,List.foldl_cons];rw [ih (k+1) off _ (by simp;omega)];apply List.ext_getElem?;intro i;rw [QQ _ _ _ (by simp;omega),QQ _ _ _ (by simp;omega)];simp only [Array.toList_setIfInBounds,List.getElem?_set,Ar,Array.length_toList];by_cases h1:i=off+k
  ·subst h1;rw [if_neg (by omega),if_pos rfl,if_pos (by omega),if_pos (by omega)];simp
  ·by_cases h2:off+(k+1)≤i∧i<off+(k+1)+vs.length
   ·rw [if_pos h2,if_pos (by omega),show i-(off+k)=(i-(off+(k+1)))+1 by omega,List.getElem?_cons_succ]
   ·rw [if_neg h2,if_neg (by omega),if_neg (by omega)]
theorem gX {b off:Nat} {t:TypeId}: ∀(vs:List Value) (i:Nat) (w:World) (C:Array Value),w.heap[b]?=some (.cells C t (0,0))→off+i+vs.length≤C.size→(∀v∈vs,v.oneCell'=true)→
  (storeCells ⟨b,off,none⟩ vs i).run P w= .ok () (CO w b (off+i) vs)
 | [],i,w,C,_,_,_=>by simp [storeCells,CO]
 |v::vs,i,w,C,hb,hl,h1=>by
  simp only [Ar]at hl;have hi:off+i<C.size:=by omega
  have Ce:w.cell? ⟨b,off+i,none⟩=some C[off+i]:=by simp [World.cell?,hb,hi]
  have ZX:w.frozen? ⟨b,off+i,none⟩=false:=by simp [World.frozen?,hb]
  have Fo:(store ((⟨b,off,none⟩:Addr).add i) v).run P w= .ok () (w.setCell ⟨b,off+i,none⟩ v):=by rw [Addr.add_lit,run_store P w _ v _ (h1 v (by simp)),Ce];simp [ZX]
  have h2:=heap_setCell_same w b (off+i) C t v hb;have ih:=gX (off:=off) vs (i+1) (w.setCell ⟨b,off+i,none⟩ v) _ h2 (by simp;omega) (fun x hx=>h1 x (by simp [hx]));simp only [storeCells,Sem.run_bind,Fo,Result.andThen_ok,ih,CO];rw [Nat.add_assoc]
theorem XS {w:World} {b off:Nat} {t:TypeId} {vs:List Value} {C:Array Value} (hb:w.heap[b]?=some (.cells C t (0,0))) (hl:off+vs.length≤C.size):
  Mod [b] w (CO w b off vs)∧(CO w b off vs).heap[b]?=some (.cells (setVs C.toList off vs).toArray t (0,0))∧(CO w b off vs).heap.size=w.heap.size:=by
 obtain⟨hm,C',h1,h2,h3,h4⟩:=gP vs w b off C t hb hl;refine⟨hm, ?_, ?_⟩
 ·rw [h1];congr 2;apply Array.ext';apply List.ext_getElem?;intro i;rw [QQ _ _ _ (by simpa using hl)];by_cases hi:off≤i∧i<off+vs.length
  ·rw [if_pos hi];have Aq:i-off<vs.length:=by omega
   have:=h3 (i-off) vs[i-off] (by simp [Aq]);rw [show off+(i-off)=i by omega]at this;rw [Array.getElem?_toList,this];simp [Aq]
  ·rw [if_neg hi,Array.getElem?_toList,Array.getElem?_toList];exact h4 i (by omega)
 ·clear hm h1 h2 h3 h4 hl
  induction vs generalizing w off C with
  |nil=>rfl
  |cons v vs ih=>simp only [CO];rw [ih (heap_setCell_same w b off C t v hb)];simp [World.setCell]
theorem iF {w:World} {b off:Nat} {t ty:TypeId} {v:Value} {C:Array Value} (hb:w.heap[b]?=some (.cells C ty (0,0))) (ht:Dd P t=true) (hs:v.cells.size=P.cellsOf t) (hl:off+v.cells.size≤C.size) (h1: ∀u∈v.cells.toList,u.oneCell'=true):
  (Instr.storeAt t (.pointer (some ⟨b,off,none⟩)) v).run P w= .ok () (CO w b off v.cells.toList):=by
 have:=gX (P:=P) (off:=off) v.cells.toList 0 w C hb (by simpa using hl) h1;simp only [Nat.add_zero]at this;simp [Instr.storeAt,Instr.sureAddr,storeVar,Oy ht,hs,this]
def Cx.wr (c:Cx) (w':World) (t:Nat):Cx:={c with w:=w',E:=fun u=>if u=t then c.E u+1 else c.E u}
theorem Cx.jf {c:Cx} {w':World} {t b:Nat} (gw:GW c) (Ch:b∈(c.G t).top) (hm:Mod [b] c.w w'):Dv c (c.wr w' t):=by
 have Bq:b∈(c.G t).own:=by simp [GI.own,Ch]
 refine⟨rfl,rfl,fun q _ hq=>hq,fun q hq Ax=>hm.block q hq ?_,fun u g hu=>⟨hu,rfl⟩,fun u g hu=> ?_⟩
 ·simp only [List.mem_singleton];rintro rfl;exact Ax.1 ⟨t,Ch⟩
 ·by_cases Gk:u=t
  ·have e1:(c.wr w' t).E u=c.E u+1:=by simp only [Cx.wr,if_pos Gk]
   exact⟨by omega,fun h=>by omega⟩
  ·have e1:(c.wr w' t).E u=c.E u:=by simp only [Cx.wr,if_neg Gk]
   rw [e1];refine⟨Nat.le_refl _,fun _=>⟨rfl,fun q hq Ed=>hm.block q Ed ?_⟩⟩;simp only [List.mem_singleton];rintro rfl;exact gw.cm t u (Ne.symm Gk) q Bq (by simp [GI.own,hq])
theorem Rel.write (h:Rel c n sl hp a) {t:Nat} {e0:Aj} {b:Nat} {w':World} (AQ:Cd c.ρ (hp t) e0) (Ch:b∈(c.G t).top) (hm:Mod [b] c.w w') (BV:w'.heap.size=c.w.heap.size) (e1:Aj) (A9: ∀hs f,e1≠ .gd hs f)
  (he:CX (c.wr w' t) t e1):Rel (c.wr w' t) n sl (A4 hp [(t,e1)]) a∧Dv c (c.wr w' t):=by
 have Bq:b∈(c.G t).own:=by simp [GI.own,Ch]
 have BK:Dv c (c.wr w' t):=Cx.jf h.gw Ch hm;have DD: ∀u,A4 hp [(t,e1)] u=if u=t then some e1 else hp u:=fun u=>rfl;refine⟨h.change (fun u=>u=t) BK ⟨hm.os.trans h.base.os,hm.tape.trans h.base.tape,hm.output.trans h.base.output,Nat.le_trans h.base.size hm.size,h.base.pins,fun q hq H7=> ?_,h.base.pk,h.base.lo⟩
  (fun u hu=>⟨by rw [DD,if_neg hu],rfl,by simp [Cx.wr,hu],fun g hg=>hg⟩) (fun u hu q hq=>hm.block q (h.gw.inb u q (by simp [GI.own,hq])) ?_) (fun u hu=> ?_) ⟨h.gw.nodup,h.gw.cm,h.gw.allow,fun u q hq=> ?_⟩ h.bu (fun u f hf=> ?_),BK⟩
 ·refine(hm.block q (Nat.lt_of_lt_of_le hq h.base.size) ?_).trans (h.base.block q hq H7);simp only [List.mem_singleton];rintro rfl;rcases h.gw.allow t q Bq with hh|hh
  ·exact absurd hh (Nat.not_le.2 hq)
  ·exact H7 hh
 ·simp only [List.mem_singleton];rintro rfl;exact h.gw.cm t u (Ne.symm hu) q Bq (by simp [GI.own,hq])
 ·subst hu;rw [DD,if_pos rfl];refine⟨fun e' hr=> ?_,fun hn=> ?_⟩
  ·cases e1<;>first
    |(simp only [Cd]at hr;subst hr;exact he)
    |exact absurd rfl (A9 _ _)
  ·cases e1<;>first
    |exact absurd rfl (A9 _ _)
    |exact absurd rfl (hn _)
 ·show q<w'.heap.size;rw [BV];exact h.gw.inb u q hq
 ·rw [DD]at hf;split at hf
  ·rename_i hu;subst hu;cases hh:hp u with
   |none=>rw [hh]at AQ;exact AQ.elim
   |some e9=>exact h.cq u e9 hh
  ·exact h.cq u f hf
end
section
variable {P:Program} {c:Cx} {n nx:Nat} {sl sl0:Nat→SV} {hp hp0:Nat→Option Aj} {a:Act} {o:Oper} {gs:Gd} {e:AX} {sg:BI} {nv:Nat}
theorem ztG (h:Bg P c n nx sl hp a sl0 hp0 o gs) {t:TypeId} {x y:Operand} (ho:o.op= .store t x y) {b k:Nat} {s:SV} (hx:BE sl0 gs x=some (.cg b k)) (hy:BE sl0 gs y=some s)
  (he:MF P hp0 gs t (.cg b k) s=some e) (hc: ∀q∈e.ca,Cn.den c.ρ q):Ay P o c n nx sl hp gs a e:=by
 have r1:=h.cu hx (by simp [ho,Op.operands]);have r2:=h.cu hy (by simp [ho,Op.operands]);simp only [MF]at he;split at he
 ·rename_i ty g cs vs ck hl Bj;split at he
  ·rename_i hh;obtain⟨Be,hlen,hle,rfl⟩:=hh;simp at he;subst he;obtain⟨q1,q2⟩:=Ym r2 Bj hc;generalize hv:a.eval x=v at r1;cases r1 with
   |cg h1 h2 h3=>
    rename_i q;have E6:=CH hl h.gs;obtain⟨q',C,e1,e2,e3,e4,e5,e5',e6⟩:=h.eh b _ E6;rw [h2]at e2;cases e2;have AQ:Cd c.ρ (hp b) (.box ty g cs):=by
     cases hh:hp0 b with
     |none=>rw [hh]at E6;exact E6.elim
     |some e9=>rw [h.hp b e9 hh];rwa [hh]at E6
    have Nu:=e6.len;have aF:=q1.len;obtain⟨m1,m2,m3⟩:=XS (vs:=(a.eval y).cells.toList) e5 (show k+_≤C.size by simp at Nu aF ⊢;omega);obtain⟨As,BK⟩:=h.rel.write AQ (by rw [e3];simp) m1 m3 (.box ty g (RB cs k vs)) (by intros;simp) (w':=CO c.w q k (a.eval y).cells.toList) (by
     have BM:Dv c (c.wr (CO c.w q k (a.eval y).cells.toList) b):=Cx.jf h.rel.gw (by rw [e3];simp) m1;refine⟨q,_,e1,h2,e3,e4,m2, ?_, ?_⟩
     ·intro u hu;simp only [List.toList_toArray]at hu;unfold setVs at hu;simp only [Ah]at hu;rcases hu with(hu|hu)|hu
      ·exact e5' u (List.mem_of_mem_take hu)
      ·exact q2 u hu
      ·exact e5' u (List.mem_of_mem_drop hu)
     ·simpa using(e6.setVs q1 (k:=k)).keep BM)
    intro next Q hk
    unfold Oper.wp;have hr:(execOp a.eval o).run P c.w= .ok .skip (CO c.w q k (a.eval y).cells.toList):=by have:=iF (P:=P) (t:=t) (v:=a.eval y) (off:=k) e5 Be (by simp at aF;omega) (by simp at Nu aF;omega) q2;simp [execOp,ho,hv,this]
    rw [hr,Oper.upon_skip];exact hk _ (c.wr (CO c.w q k (a.eval y).cells.toList) b) ⟨rfl,rfl,rfl,rfl,fun t ht=> .inl ht⟩ (As.put ((SR.undef .nil).mkGd []) o.dst)
  ·cases he
 ·cases he
theorem xW {places:List (Nat × Nat)} {tys:List TypeId}: ∀(ps:List (Nat × SV)) (vs:List (Nat × Value)) (cs:List SV) (C:Array Value) (r:List SV × List Cn),Vj P places tys ps cs=some r→(∀q∈r.2,q.den c.ρ)→
  ps.map (·.1)=vs.map (·.1)→SR c (ps.map (·.2)) (vs.map (·.2))→SR c cs C.toList→(∀u∈C.toList,u.oneCell'=true)→
  ∃C',Instr.fill (places.toArray[·]?) C vs=some C'∧SR c r.1 C'.toList∧ ∀u∈C'.toList,u.oneCell'=true
 | [],vs,cs,C,r,h,hk,he,_,hC,h1=>by
  have:vs= []:=by simpa using he.symm
  subst this;simp [Vj]at h;subst h;exact⟨C,rfl,hC,h1⟩
 |(i,s)::ps, [],cs,C,r,h,hk,he,_,hC,h1=>by simp at he
 |(i,s)::ps,(j,v)::vs,cs,C,r,h,hk,he,hs,hC,h1=>by
  simp only [List.map_cons,List.cons.injEq]at he;obtain⟨rfl,he⟩:=he;simp only [List.map_cons]at hs;obtain⟨Bz,AW⟩:=hs.cd;unfold Vj at h;split at h
  ·rename_i off sz t ND Be;split at h
   ·rename_i us ck Bj;split at h
    ·rename_i hh;obtain⟨BV,hle⟩:=hh;obtain⟨r',Da,rfl⟩:=At.1 h;obtain⟨q1,q2⟩:=Ym Bz Bj (fun q hq=>hk q (by simp [hq]));have JU:=q1.len;have JV:=hC.len;have LD:(v.cells.zipIdx.foldl (fun cs (p:Value × Nat)=>cs.setIfInBounds (off+p.2) p.1) C).toList=setVs C.toList off v.cells.toList:=by
      have:=yL v.cells.toList 0 off C (by simp at JU JV ⊢;omega);rw [←Array.foldl_toList,Array.toList_zipIdx];simpa using this
     obtain⟨C',g1,g2,g3⟩:=xW ps vs (RB cs off us) (v.cells.zipIdx.foldl (fun cs (p:Value × Nat)=>cs.setIfInBounds (off+p.2) p.1) C) r' Da (fun q hq=>hk q (by simp [hq])) he AW (by rw [LD];exact hC.setVs q1) (by
      rw [LD];intro u hu;unfold setVs at hu;simp only [Ah]at hu;rcases hu with(hu|hu)|hu
      ·exact h1 u (List.mem_of_mem_take hu)
      ·exact q2 u hu
      ·exact h1 u (List.mem_of_mem_drop hu))
     refine⟨C', ?_,g2,g3⟩;unfold Instr.fill;have bB:places.toArray[i]?=some (off,sz):=by simpa using ND
     simp only [bB];rw [if_neg (by simp at JU JV ⊢;omega)];exact g1
    ·cases h
   ·cases h
  ·cases h
theorem Yl {sl0:Nat→SV} {gs:Gd} (L:List Operand) (h: ∀x s,BE sl0 gs x=some s→x∈L→SR c [s] [a.eval x]): ∀{xs:List (Nat × Operand)} {ss:List (Nat × SV)},(∀x∈xs,x.2∈L)→xs.mapM (fun(p:Nat × Operand)=>(BE sl0 gs p.2).map fun s=>(p.1,s))=some ss→
  ss.map (·.1)=xs.map (·.1)∧SR c (ss.map (·.2)) (xs.map fun p=>a.eval p.2)
 | [],ss,_,hm=>by simp at hm;subst hm;exact⟨rfl, .nil⟩
 |x::xs,ss,hL,hm=>by rw [List.mapM_cons]at hm;simp only [Option.bind_eq_bind,Av,At]at hm;obtain⟨_,⟨s,hs,rfl⟩,ss',FZ,hm⟩:=hm;simp at hm;subst hm;obtain⟨e1,e2⟩:=Yl L h (fun y hy=>hL y (by simp [hy])) FZ;exact⟨by simp [e1],(h _ s hs (hL x (by simp))).app e2⟩
theorem zxP (h:Bg P c n nx sl hp a sl0 hp0 o gs) {t:TypeId} {parts:Array (Nat × Operand)} (ho:o.op= .build t parts) (he:Bv P sg sl0 hp0 nv nx gs o=some e) (hc: ∀q∈e.ca,Cn.den c.ρ q):Ay P o c n nx sl hp gs a e:=by
 simp only [Bv,ho,Av]at he;obtain⟨ps,LV,he⟩:=he;obtain⟨e1,e2⟩:=Yl (c:=c) (a:=a) (parts.toList.map (·.2)) (fun x s hx hm=>h.cu hx (by simpa [ho,Op.operands]using hm)) (fun x hx=>List.mem_map.2 ⟨x,hx,rfl⟩) LV;unfold yH at he;split at he
 ·rename_i it fs hit hu;split at he
  ·rename_i zs places hz ND;obtain⟨r,hr,rfl⟩:=At.1 he;obtain⟨z,VX,SU⟩:=Av.1 hz;have oR:=Ys (c:=c) SU;obtain⟨cells,g1,g2,g3⟩:=xW (c:=c) (P:=P) ps (parts.toList.map fun p=>(p.1,a.eval p.2)) zs.toList z.cells r hr hc (by rw [e1];simp) (by rw [List.map_map];exact e2)
    (by cases oR with|agg h1 h2 _=>simpa [Value.cells]using h2) (by cases oR with|agg h1 h2 _=>simpa [Value.cells]using h1)
   have hb:P.built t (parts.map fun(x:Nat × Operand)=>(x.1,a.eval x.2)).toList=some cells:=by simp only [Program.built,hit,hu,VX,ND];simpa using g1
   have:=SR.agg (c:=c) (cs:=Bn.of r.1) (as_:=cells.toList) g3 (by rw [Bn.az];exact g2) .nil;refine Ay.pure h (v:= .agg cells) ?_ (by simpa using this) rfl;have AR:=run_build c.w t _ cells hb;simp only [execOp,ho,Sem.run_bind];rw [AR];rfl
  ·cases he
 ·cases he
end
section
variable {P:Program} {c:Cx} {n nx:Nat} {sl sl0:Nat→SV} {hp hp0:Nat→Option Aj} {a:Act} {o:Oper} {gs:Gd} {e:AX} {sg:BI} {nv:Nat}
def Cx.bq (c:Cx) (ts:List Nat):Cx:={c with G:=fun u=>if u∈ts then⟨[], []⟩else c.G u,E:=fun u=>if u∈ts then c.E u+1 else c.E u}
theorem Cx.jz {c:Cx} {ts:List Nat} {b:Nat} (h:(c.bq ts).M b): ∃u,u∉ts∧b∈(c.G u).top:=by
 obtain⟨u,hu⟩:=h;simp only [Cx.bq]at hu;split at hu
 ·simp at hu
 ·exact⟨u,by assumption,hu⟩
theorem Cx.fc {c:Cx} {ts:List Nat} {b:Nat} (h:c.ok b):(c.bq ts).ok b:=⟨fun hm=>by obtain⟨u,_,hu⟩:=Cx.jz hm;exact h.1 ⟨u,hu⟩,h.2⟩
theorem Cx.j9 (c:Cx) (ts:List Nat):Dv c (c.bq ts):=⟨rfl,rfl,fun _ _ h=>Cx.fc h,fun _ _ _=>rfl,fun _ _ h=>⟨h,rfl⟩,fun t g _=>by
 by_cases ht:t∈ts
 ·have e1:(c.bq ts).E t=c.E t+1:=by simp only [Cx.bq,if_pos ht]
  exact⟨by omega,fun h=>by omega⟩
 ·have e1:(c.bq ts).E t=c.E t:=by simp only [Cx.bq,if_neg ht]
  have e2:(c.bq ts).G t=c.G t:=by simp only [Cx.bq,if_neg ht]
  rw [e1];exact⟨Nat.le_refl _,fun _=>⟨e2,fun _ _ _=>rfl⟩⟩⟩
theorem zC {c:Cx} (gw:GW c) {ts us:List Nat} (hs: ∀t∈us,t∈ts) {b:Nat} (h:c.ed us b):(c.bq ts).ok b:=by
 rcases h with h|⟨t,ht,hb⟩
 ·exact Cx.fc h
 ·have Bq:b∈(c.G t).own:=by simp [GI.own,hb]
  refine⟨fun hm=> ?_, .inr (gw.allow t b Bq)⟩;obtain⟨u,hu,H3⟩:=Cx.jz hm;have:t≠u:=fun hh=>hu (hh▸hs t ht);exact gw.cm t u this b Bq (by simp [GI.own,H3])
def Lj (e:Aj) (g:Nat) (x:E):Prop:=(∃ety sz d,e= .row ety sz g x d)∨ ∃ety sz l ep,e= .deep ety sz l g ep x
theorem Lj.ne {e:Aj} {g:Nat} {x:E} (h:Lj e g x): ∀hs f,e≠ .gd hs f:=by rcases h with⟨_,_,_,rfl⟩|⟨_,_,_,_,rfl⟩<;>intros<;>simp
theorem Lj.rd {e:Aj} {g t:Nat} {x:E} (h:Lj e g x) (k:CX c t e):c.K t g∧ ∃f,Rd c.w [c.H t g] [x.den c.ρ] f∧ ∀b∈f,b∈(c.G t).top∨c.ok b:=by
 rcases h with⟨_,_,_,rfl⟩|⟨_,_,_,_,rfl⟩
 ·obtain⟨q1,q2,N,q3,q4,_⟩:=k;obtain⟨f,r1,r2,_⟩:=q3.rd;exact⟨q1,f,r1,fun b hb=>(r2 b hb).imp id (q4 b)⟩
 ·obtain⟨q1,q2,_,q3,_⟩:=k;obtain⟨f,r1,r2⟩:=q3.rd;exact⟨q1,f,r1,fun b hb=> .inl (r2 b hb)⟩
theorem Lj.fun {e:Aj} {g g':Nat} {x x':E} (h:Lj e g x) (k:Lj e g' x'):g=g'∧x=x':=by rcases h with⟨_,_,_,rfl⟩|⟨_,_,_,_,rfl⟩<;>rcases k with⟨_,_,_,hh⟩|⟨_,_,_,_,hh⟩<;>cases hh<;>exact⟨rfl,rfl⟩
theorem Om {gs:Gd} {ρ:List AV} (k:Bb ρ gs): ∀{ts:List Nat} {l:List (Nat × Aj)},Dt hp0 gs ts=some l→
  (∀t e,(t,e)∈l→t∈ts∧gs= []∧ ∃g x f,e= .bq g x∧Cd ρ (hp0 t) f∧Lj f g x)∧
  (∀t∈ts,(∃g x,(t,Aj.bq g x)∈l)∨(∃g x,Cd ρ (hp0 t) (.bq g x))∨ ∃ty g cs,Cd ρ (hp0 t) (.box ty g cs))
 | [],l,h=>by simp [Dt]at h;subst h;simp
 |t::ts,l,h=>by
  unfold Dt at h;split at h
  ·rename_i ety sz g x d l' hl Bx;split at h
   ·rename_i hg;simp at h;subst h;obtain⟨h1,h2⟩:=Om k Bx;refine⟨fun u e hu=> ?_,fun u hu=> ?_⟩
    ·rcases Af.1 hu with hu|hu
     ·cases hu;exact⟨by simp,by simpa using hg,g,x,_,rfl,CH hl k, .inl ⟨_,_,_,rfl⟩⟩
     ·obtain⟨p,q,r⟩:=h1 u e hu;exact⟨by simp [p],q,r⟩
    ·rcases Af.1 hu with rfl|hu
     ·exact .inl ⟨g,x,by simp⟩
     ·rcases h2 u hu with⟨g',x',hh⟩|hh
      ·exact .inl ⟨g',x',by simp [hh]⟩
      ·exact .inr hh
   ·cases h
  ·rename_i ety sz dl g ep x l' hl Bx;split at h
   ·rename_i hg;simp at h;subst h;obtain⟨h1,h2⟩:=Om k Bx;refine⟨fun u e hu=> ?_,fun u hu=> ?_⟩
    ·rcases Af.1 hu with hu|hu
     ·cases hu;exact⟨by simp,by simpa using hg,g,x,_,rfl,CH hl k, .inr ⟨_,_,_,_,rfl⟩⟩
     ·obtain⟨p,q,r⟩:=h1 u e hu;exact⟨by simp [p],q,r⟩
    ·rcases Af.1 hu with rfl|hu
     ·exact .inl ⟨g,x,by simp⟩
     ·rcases h2 u hu with⟨g',x',hh⟩|hh
      ·exact .inl ⟨g',x',by simp [hh]⟩
      ·exact .inr hh
   ·cases h
  ·rename_i g x l' hl Bx;simp at h;subst h;obtain⟨h1,h2⟩:=Om k Bx;refine⟨fun u e hu=> ?_,fun u hu=> ?_⟩
   ·obtain⟨p,q,r⟩:=h1 u e hu;exact⟨by simp [p],q,r⟩
   ·rcases Af.1 hu with rfl|hu
    ·exact .inr (.inl ⟨g,x,CH hl k⟩)
    ·exact h2 u hu
  ·rename_i ty g cs l' hl Bx;simp at h;subst h;obtain⟨h1,h2⟩:=Om k Bx;refine⟨fun u e hu=> ?_,fun u hu=> ?_⟩
   ·obtain⟨p,q,r⟩:=h1 u e hu;exact⟨by simp [p],q,r⟩
   ·rcases Af.1 hu with rfl|hu
    ·exact .inr (.inr ⟨ty,g,cs,CH hl k⟩)
    ·exact h2 u hu
  ·cases h
theorem K9 {hp:Nat→Option Aj}: ∀{l:List (Nat × Aj)} {t:Nat},(∀e,(t,e)∉l)→A4 hp l t=hp t
 | [],_,_=>rfl
 |(u,e)::l,t,h=>by
  have ht:t≠u:=by rintro rfl;exact h e (by simp)
  have:=K9 (hp:=fun v=>if v=u then some e else hp v) (l:=l) (t:=t) (fun e' EA=>h e' (by simp [EA]));simp only [A4,List.foldl_cons]at this ⊢;rw [this,if_neg ht]
theorem lJ {hp:Nat→Option Aj}: ∀{l:List (Nat × Aj)} {t:Nat} {e:Aj},(t,e)∈l→(∀e',(t,e')∈l→e'=e)→A4 hp l t=some e
 | [],_,_,h,_=>by simp at h
 |(u,f)::l,t,e,h,hu=>by
  simp only [A4,List.foldl_cons];by_cases hm: ∃e',(t,e')∈l
  ·obtain⟨e',EA⟩:=hm;have:=hu e' (by simp [EA]);subst this;exact lJ (hp:=fun v=>if v=u then some f else hp v) EA (fun e'' z8=>hu e'' (by simp [z8]))
  ·have hn: ∀e',(t,e')∉l:=fun e' EA=>hm ⟨e',EA⟩;have:=K9 (hp:=fun v=>if v=u then some f else hp v) (l:=l) (t:=t) hn;simp only [A4]at this;rw [this];rcases Af.1 h with h|h
   ·cases h;simp
   ·exact absurd h (hn e)
theorem Li (hs: ∀t e,hp0 t=some e→hp t=some e) {ρ:List AV} {t:Nat} {e:Aj} (h:Cd ρ (hp0 t) e):Cd ρ (hp t) e:=by
 cases hh:hp0 t with
 |none=>rw [hh]at h;exact h.elim
 |some e9=>rw [hs t e9 hh];rwa [hh]at h
theorem zDX {ρ:List AV} {o:Option Aj} {e f:Aj} (h:Cd ρ o e) (k:Cd ρ o f):e=f:=by
 cases o with
 |none=>exact h.elim
 |some o=>
  cases o with
  |gd gs x=>exact h.2.symm.trans k.2
  |box=>exact h.symm.trans k
  |row=>exact h.symm.trans k
  |bq=>exact h.symm.trans k
  |dead=>exact h.symm.trans k
  |deep=>exact h.symm.trans k
  |hol=>exact h.symm.trans k
theorem Rel.freeze (h:Rel c n sl hp a) (hs: ∀t e,hp0 t=some e→hp t=some e) (k:Bb c.ρ gs) {ts:List Nat} {l:List (Nat × Aj)} (hf:Dt hp0 gs ts=some l):
  Rel (c.bq (l.map (·.1))) n sl (A4 hp l) a:=by
 obtain⟨h1,h2⟩:=Om k hf;have hG: ∀u,(c.bq (l.map (·.1))).G u=if u∈l.map (·.1)then⟨[], []⟩else c.G u:=fun u=>rfl;have Jm: ∀t e e',(t,e)∈l→(t,e')∈l→e'=e:=by intro t e e' he EA;obtain⟨_,_,g,x,_,rfl,r,rl⟩:=h1 t e he;obtain⟨_,_,g',x',_,rfl,r',rl'⟩:=h1 t e' EA;have:=zDX r r';subst this;obtain⟨rfl,rfl⟩:=rl.fun rl';rfl
 refine h.change (fun u=>u∈l.map (·.1)) (Cx.j9 c _) ⟨h.base.os,h.base.tape,h.base.output,h.base.size,h.base.pins,h.base.block,h.base.pk,h.base.lo⟩ (fun u hu=>⟨K9 (fun e he=>hu (List.mem_map.2 ⟨_,he,rfl⟩)),by rw [hG,if_neg hu],by simp only [Cx.bq,if_neg hu],fun g hg=>hg⟩) (fun u hu b hb=>rfl) (fun u hu=> ?_) ?_ h.bu (fun u e hu=> ?_)
 ·obtain⟨⟨u',e⟩,he,rfl⟩:=List.mem_map.1 hu;have DD:=lJ (hp:=hp) he (fun e' EA=>Jm _ _ _ he EA);obtain⟨_,_,g,x,f0,rfl,r,rl⟩:=h1 u' e he;obtain⟨q1,f,r1,r2⟩:=rl.rd (h.ents u' _ (Li hs r));have KI:((c.bq (l.map (·.1))).G u').top= []∧((c.bq (l.map (·.1))).G u').O= []:=by rw [hG,if_pos hu];simp
  rw [DD];refine⟨fun e' hr=> ?_,fun _=>KI⟩;have:e'= .bq g x:=hr.symm;subst this;exact⟨q1,⟨f,r1,fun b hb=>by
   refine zC h.gw (ts:=l.map (·.1)) (us:= [u']) (by simpa using hu) ?_;rcases r2 b hb with hb|hb
   ·exact .inr ⟨u',by simp,hb⟩
   ·exact .inl hb⟩,KI.1,KI.2⟩
 ·refine⟨fun u=> ?_,fun u v bS b hb=> ?_,fun u b hb=> ?_,fun u b hb=> ?_⟩
  ·rw [hG];split
   ·simp [GI.own]
   ·exact h.gw.nodup u
  ·rw [hG]at hb ⊢;split at hb
   ·simp [GI.own]at hb
   ·split
    ·simp [GI.own]
    ·exact h.gw.cm u v bS b hb
  ·rw [hG]at hb;split at hb
   ·simp [GI.own]at hb
   ·exact h.gw.allow u b hb
  ·rw [hG]at hb;split at hb
   ·simp [GI.own]at hb
   ·exact h.gw.inb u b hb
 ·by_cases hm: ∃e',(u,e')∈l
  ·obtain⟨e',EA⟩:=hm;obtain⟨_,_,g,x,f0,rfl,r,rl⟩:=h1 u e' EA;have r':=Li hs r;cases hh:hp u with
   |none=>rw [hh]at r';exact r'.elim
   |some e9=>exact h.cq u e9 hh
  ·rw [K9 (fun e' EA=>hm ⟨e',EA⟩)]at hu;exact h.cq u e hu
theorem zyt {ts:List Nat} (h:MY hp0 gs ts=true) {t:Nat} (ht:t∈ts) {ty:Nat} {g:Bool} {cs:List SV}:C6 hp0 gs t≠some (.box ty g cs):=by intro hl;simp only [MY,Bool.not_eq_true',List.any_eq_false]at h;have:=h t ht;rw [hl]at this;simp at this
theorem zv2 {ρ:List AV} (k:Bb ρ gs) {ts:List Nat} {l:List (Nat × Aj)} (hf:Dt hp0 gs ts=some l) {t:Nat} (ht:t∈ts):(∃g x,(t,Aj.bq g x)∈l)∨(∃g x,C6 hp0 gs t=some (.bq g x))∨ ∃ty g cs,C6 hp0 gs t=some (.box ty g cs):=by
 induction ts generalizing l with
 |nil=>simp at ht
 |cons u ts ih=>
  unfold Dt at hf;split at hf
  ·rename_i ety sz g x d l' hl Bx;split at hf
   ·simp at hf;subst hf;rcases Af.1 ht with rfl|ht
    ·exact .inl ⟨g,x,by simp⟩
    ·rcases ih Bx ht with⟨g',x',hh⟩|hh
     ·exact .inl ⟨g',x',by simp [hh]⟩
     ·exact .inr hh
   ·cases hf
  ·rename_i ety sz dl g ep x l' hl Bx;split at hf
   ·simp at hf;subst hf;rcases Af.1 ht with rfl|ht
    ·exact .inl ⟨g,x,by simp⟩
    ·rcases ih Bx ht with⟨g',x',hh⟩|hh
     ·exact .inl ⟨g',x',by simp [hh]⟩
     ·exact .inr hh
   ·cases hf
  ·rename_i g x l' hl Bx;simp at hf;subst hf;rcases Af.1 ht with rfl|ht
   ·exact .inr (.inl ⟨g,x,hl⟩)
   ·exact ih Bx ht
  ·rename_i ty g cs l' hl Bx;simp at hf;subst hf;rcases Af.1 ht with rfl|ht
   ·exact .inr (.inr ⟨ty,g,cs,hl⟩)
   ·exact ih Bx ht
  ·cases hf
theorem Uc (h:Rel c n sl hp a) (eh:EH c hp0) (k:Bb c.ρ gs) {ts:List Nat} {l:List (Nat × Aj)} (hf:Dt hp0 gs ts=some l) (hb:MY hp0 gs ts=true) {b:Nat} (hs:c.ed ts b):(c.bq (l.map (·.1))).ok b:=by
 rcases hs with hs|⟨t,ht,Co⟩
 ·exact Cx.fc hs
 ·rcases zv2 k hf ht with⟨g,x,hh⟩|⟨g,x,hh⟩|⟨ty,g,cs,hh⟩
  ·exact zC h.gw (us:= [t]) (by simpa using⟨_,hh⟩) (.inr ⟨t,by simp,Co⟩)
  ·obtain⟨_,_,Ch,_⟩:=eh t _ (CH hh k);rw [Ch]at Co;simp at Co
  ·exact absurd hh (zyt hb ht)
theorem uO (h:Rel c n sl hp a) (hs: ∀t e,hp0 t=some e→hp t=some e) (k:Bb c.ρ gs) {t:TypeId} {s:SV} {v:Value} (hr:SR c [s] [v]) {x:E} {fz:List (Nat × Aj)} {d:Bool} {ck:List Cn} (ht:Ze P hp0 gs t s=some (x,fz,d,ck)) (hc: ∀q∈ck,q.den c.ρ):
  ∃f,Rd c.w [v] [x.den c.ρ] f∧(d=true→f= [])∧(∃ts,Dt hp0 gs ts=some fz∧ ∀b∈f,(c.bq (fz.map (·.1))).ok b)∧
   (if Ap P t then∃cs,x.den c.ρ= .agg cs∧cs.length=P.cellsOf t else(∀cs,x.den c.ρ≠ .agg cs)∧ ∀cs,x.den c.ρ≠ .tup cs):=by
 have eh:EH c hp0:=fun t e hr=>h.ents t e (Li hs hr);unfold Ze at ht;split at ht
 ·cases ht
 ·rename_i y hy;obtain⟨f,q1,q2⟩:=HM eh k AT hy hr AT (Nat.le_refl _);split at ht
  ·simp at ht;obtain⟨rfl,rfl,rfl,rfl⟩:=ht;obtain⟨c1,c2,c3,c4⟩:=BJ hc;have hf:f= []:=by
    cases hg:Ap P t with
    |true=>obtain⟨cs,Bj⟩:=c3 hg;obtain⟨as_,rfl,_,r⟩:=JD q1 Bj;exact HI r (by rw [Bj]at c2;exact c2)
    |false=>exact HI q1 (by simpa using c4 hg)
   subst hf;refine⟨[],q1,fun _=>rfl,⟨[],rfl,by simp⟩, ?_⟩;split
   ·rename_i hg;obtain⟨cs,Bj⟩:=c3 hg;exact⟨cs,Bj,by rw [Bj]at c1;exact c1⟩
   ·rename_i hg;have:=c4 (by simpa using hg);exact⟨fun cs Bj=>by rw [Bj]at this;simp [AV.scalar]at this,fun cs Bj=>by rw [Bj]at this;simp [AV.scalar]at this⟩
  ·split at ht
   ·rename_i Jd;split at ht
    ·cases ht
    ·rename_i l hl;simp only [Ag,Prod.mk.injEq]at ht;obtain⟨rfl,rfl,rfl,rfl⟩:=ht;refine⟨f,q1,by simp,⟨_,hl,fun b hb=>Uc h eh k hl Jd (q2 b hb)⟩, ?_⟩;have hq:=BJ hc;unfold rC at hq;split
     ·rename_i hg;rw [if_pos hg]at hq;obtain⟨cs,Bj,hl⟩:=hq;exact⟨cs,Bj,hl⟩
     ·rename_i hg;rw [if_neg hg]at hq;exact hq
   ·cases ht
end
section
variable {P:Program} {c:Cx} {n nx:Nat} {sl sl0:Nat→SV} {hp hp0:Nat→Option Aj} {a:Act} {o:Oper} {gs:Gd} {e:AX} {sg:BI} {nv:Nat}
theorem mD (w:World) (t ty el:TypeId) (i:TypeInfo) (z:Value) (ht:P.underlying t=some (.slice el)) (hi:P.info? el=some i) (hz:i.zero=some z) (DE:z.cells.size=i.size) (BV:0<i.size)
  (Own:Nat→Prop) (v:Value) (k:Nat) (old:List Value) (ho:old.length=k*i.size)
  (Br:(k=0∧ ∃q,v= .slice q 0 0)∨ ∃g cap C,v= .slice (some ⟨g,0,none⟩) k cap∧k≤cap∧cap≤maxLen∧w.heap[g]?=some (.cells C el (0,0))∧C.size=cap*i.size∧old=C.toList.take (k*i.size)∧Own g)
  (q:Option Addr) (m r:Nat) (news:List Value) (hs:Src w i.size q m news) (Vo:k+m≤maxLen) (hb:(k+m)*i.bytes≤140737488355328):
  ∃v' w',(Builtin.append_ #[t,t] ty #[v, .slice q m r]).run P w= .ok v' w'∧
   ((v'=v∧w'=w∧m=0)∨ ∃g cap C,v'= .slice (some ⟨g,0,none⟩) (k+m) cap∧k+m≤cap∧cap≤maxLen∧w'.heap[g]?=some (.cells C el (0,0))∧C.size=cap*i.size∧C.toList.take ((k+m)*i.size)=old++news∧
    w.grownBy w' (some g)∧((g=w.heap.size∧g<w'.heap.size)∨Own g)):=by
 have NA:news.length=m*i.size:=by
  rcases hs with⟨rfl,rfl,rfl⟩|⟨ad,rfl,h1,_⟩
  ·simp
  ·exact h1
 have hlen:(old++news).length=(k+m)*i.size:=by rw [Ao,ho,NA,Nat.add_mul]
 have grown: ∀(cp:Nat),cp<k+m→ ∀(X:Array Value),X.toList=old++news→ ∃C,C=X++Builtin.zeroCells z.cells (grownCap w (k+m) cp el-(k+m))∧
   k+m≤grownCap w (k+m) cp el∧grownCap w (k+m) cp el≤maxLen∧C.size=grownCap w (k+m) cp el*i.size∧C.toList.take ((k+m)*i.size)=old++news:=by
  intro cp hcp X hX;have FK:=grownCap_ge w (k+m) cp el;have KE:=grownCap_le_maxLen w (k+m) cp el Vo;refine⟨_,rfl,FK,KE, ?_, ?_⟩
  ·have hXs:X.size=(k+m)*i.size:=by rw [←Array.length_toList,hX,hlen]
   rw [Array.size_append,hXs,size_zeroCells,DE,←Nat.add_mul];congr 1;omega
  ·rw [Array.toList_append,hX,←hlen];exact List.take_left
 have newb: ∀C:Array Value,w.grownBy (w.drew.alloc (.cells C el)) (some w.heap.size)∧w.heap.size<(w.drew.alloc (.cells C el)).heap.size∧(w.drew.alloc (.cells C el)).heap[w.heap.size]?=some (.cells C el (0,0)):=
  fun C=>⟨⟨rfl,rfl,rfl,by simp,fun j hj _=>Below.heap_alloc w.drew _ _ hj⟩,by simp,heap_alloc_new w.drew _⟩
 rcases Br with⟨rfl,p,rfl⟩|⟨g,cap,C,rfl,Sw,KE,hg,Bj,hold,Zv⟩
 ·have hold:old= []:=List.eq_nil_of_length_eq_zero (by simpa using ho);subst hold;by_cases hm:m=0
  ·subst hm;have hn:news= []:=List.eq_nil_of_length_eq_zero (by simpa using NA);subst hn;refine⟨_,w, ?_, .inl ⟨rfl,rfl,rfl⟩⟩;rcases hs with⟨rfl,_,_⟩|⟨ad,rfl,_⟩<;>cases p<;>
    simp [Builtin.append_,run_underlying ht,sizeOf,typeInfo,hi,Builtin.lenOf,Builtin.firstCells,loadCells,loadCellsFrom,storeCells]
  ·rcases hs with⟨_,rfl,_⟩|⟨ad,rfl,h1,h2,h3⟩
   ·exact absurd rfl hm
   ·obtain⟨C',O5,g1,g2,g3,g4⟩:=grown 0 (by omega) news.toArray (by simp);cases p with
    |none=>have hr:=run_append_nil (P:=P) w t ty el i z ht hi hz ad m r news h1 h2 (by omega) (by simp only [maxLen]at Vo;omega) (by have hb:=hb;simp only [Nat.zero_add]at hb;omega);simp only [Nat.zero_add]at g1 g2 g3 g4 O5 ⊢;obtain⟨n1,n2,n3⟩:=newb C';refine⟨_,_,hr, .inr ⟨_,_,C',rfl,g1,g2, ?_,g3,g4, ?_, .inl ⟨rfl, ?_⟩⟩⟩<;>rw [←O5]<;>first|exact n3|exact n1|exact n2
    |some p=>have hr:=run_append_grow (P:=P) w t ty el i z ht hi hz p 0 0 [] (by simp) (by simp) ad m r news h1 h2 (by omega) (by simp only [maxLen]at Vo;omega) (growslice_fits (by omega) hb);rw [show(([]:List Value).toArray++news.toArray)=news.toArray by simp]at hr;simp only [Nat.zero_add]at g1 g2 g3 g4 O5 hr ⊢;obtain⟨n1,n2,n3⟩:=newb C';refine⟨_,_,hr, .inr ⟨_,_,C',rfl,g1,g2, ?_,g3,g4, ?_, .inl ⟨rfl, ?_⟩⟩⟩<;>rw [←O5]<;>first|exact n3|exact n1|exact n2
 ·rcases hs with⟨rfl,rfl,rfl⟩|⟨ad,rfl,h1,h2,h3⟩
  ·refine⟨_,w, ?_, .inl ⟨rfl,rfl,rfl⟩⟩;simp [Builtin.append_,run_underlying ht,sizeOf,typeInfo,hi,Builtin.lenOf,Builtin.firstCells,Sw,storeCells]
  ·by_cases Cg:k+m≤cap
   ·have Nj:k*i.size+news.length≤C.size:=by rw [h1,Bj,←Nat.add_mul];exact Nat.mul_le_mul_right _ Cg
    have hr:=run_append_room (P:=P) w t ty el i ht hi g k cap C hg ad m r news h1 h2 h3 Cg Nj;refine⟨_,_,hr, .inr ⟨g,cap,_,rfl,Cg,KE,setRow_heap w g C _ el _ hg, ?_, ?_,⟨rfl,rfl,rfl,by simp,fun j _ hj=>setRow_other w g j _ (fun hh=>hj (by rw [hh]))⟩, .inr Zv⟩⟩
    ·simp only [List.size_toArray,Ao,List.length_take,List.length_drop,Array.length_toList];omega
    ·rw [←hold,←hlen];exact List.take_left
   ·have holds: ∀j u,old[j]?=some u→w.cell? ((⟨g,0,none⟩:Addr).add j)=some u:=fun j u hu=>by
     rw [Addr.add_lit,Nat.zero_add,EC hg];rw [hold,List.getElem?_take]at hu;split at hu
     ·simpa using hu
     ·cases hu
    have hr:=run_append_grow (P:=P) w t ty el i z ht hi hz ⟨g,0,none⟩ k cap old ho holds ad m r news h1 h2 (by omega) (by simp only [maxLen]at Vo;omega) (growslice_fits (by omega) hb);obtain⟨C',O5,g1,g2,g3,g4⟩:=grown cap (by omega) (old.toArray++news.toArray) (by simp);obtain⟨n1,n2,n3⟩:=newb C';refine⟨_,_,hr, .inr ⟨_,_,C',rfl,g1,g2, ?_,g3,g4, ?_, .inl ⟨rfl, ?_⟩⟩⟩<;>rw [←O5]<;>first|exact n3|exact n1|exact n2
def Cx.a6 (c:Cx) (t g':Nat) (w':World) (v:Value) (top O:List Nat):Cx:=
 {c with w:=w',G:=fun u=>if u=t then⟨top,O⟩else c.G u,K:=fun u g=>c.K u g∨(u=t∧g=g'),H:=fun u g=>if u=t∧g=g' then v else c.H u g,U:=fun u=>c.U u∨u=t,E:=fun u=>if u=t then c.E u+1 else c.E u}
theorem Rel.a6 (h:Rel c n sl hp a) {t g:Nat} (Er:c.A.pin t=none∨g≠0) (AS: ¬c.K t g) {w':World} {row:Option Nat} (hg:c.w.grownBy w' row)
  (ER: ∀g0,row=some g0→g0∈(c.G t).top∨(g0=c.w.heap.size∧g0<w'.heap.size)) {top O:List Nat} (Ch:top= []∨ ∃g0,row=some g0∧top= [g0]) (hO:O= []∨O=(c.G t).O) {v:Value} (e1:Aj) (A9: ∀hs f,e1≠ .gd hs f) (k:Bb c.ρ gs)
  (he:Dv c (c.a6 t g w' v top O)→CX (c.a6 t g w' v top O) t e1):Rel (c.a6 t g w' v top O) n sl (A4 hp [(t,CC gs e1)]) a:=by
 have hG: ∀u,(c.a6 t g w' v top O).G u=if u=t then⟨top,O⟩else c.G u:=fun u=>rfl;have hM: ∀b,(c.a6 t g w' v top O).M b→c.M b∨row=some b:=by
  rintro b ⟨u,hu⟩;rw [hG]at hu;split at hu
  ·rcases Ch with rfl|⟨g0,hr,rfl⟩
   ·simp at hu
   ·simp at hu;subst hu;exact .inr hr
  ·exact .inl ⟨u,hu⟩
 have Sf: ∀b,b<c.w.heap.size→c.ok b→row≠some b:=by
  intro b hb Ax hr;rcases ER b hr with hh|⟨hh,_⟩
  ·exact Ax.1 ⟨t,hh⟩
  ·omega
 have BK:Dv c (c.a6 t g w' v top O):=by
  refine⟨rfl,rfl,fun b hb Ax=>⟨fun hm=>(hM b hm).elim Ax.1 (Sf b hb Ax),Ax.2⟩,fun b hb Ax=>hg.block b hb (fun hh=>Sf b hb Ax hh.symm),fun u g1 hu=>⟨.inl hu, ?_⟩,fun u g1 hu=> ?_⟩
  ·simp only [Cx.a6];rw [if_neg];rintro⟨rfl,rfl⟩;exact AS hu
  ·by_cases Gk:u=t
   ·have e1:(c.a6 t g w' v top O).E u=c.E u+1:=by simp only [Cx.a6,if_pos Gk]
    exact⟨by omega,fun h=>by omega⟩
   ·have e1:(c.a6 t g w' v top O).E u=c.E u:=by simp only [Cx.a6,if_neg Gk]
    have e2:(c.a6 t g w' v top O).G u=c.G u:=by simp only [Cx.a6,if_neg Gk]
    rw [e1];refine⟨Nat.le_refl _,fun _=>⟨e2,fun b hb EZ=>hg.block b EZ fun hh=> ?_⟩⟩;rcases ER b hh.symm with h1|⟨h1,_⟩
    ·exact h.gw.cm u t Gk b (by simp [GI.own,hb]) (by simp [GI.own,h1])
    ·omega
 have DD: ∀u,A4 hp [(t,CC gs e1)] u=if u=t then some (CC gs e1)else hp u:=fun u=>rfl;have Ny: ∀u,u≠t→ ∀b∈(c.G u).own,row≠some b:=by
  intro u hu b hb hr;rcases ER b hr with hh|⟨hh,_⟩
  ·exact h.gw.cm u t hu b hb (by simp [GI.own,hh])
  ·have:=h.gw.inb u b hb;omega
 have BF: ∀b∈(⟨top,O⟩:GI).own,row=some b∨b∈(c.G t).own:=by
  intro b hb;simp only [GI.own,Ah]at hb ⊢;rcases hb with hb|hb
  ·rcases Ch with rfl|⟨g0,hr,rfl⟩
   ·simp at hb
   ·simp at hb;subst hb;exact .inl hr
  ·rcases hO with rfl|rfl
   ·simp at hb
   ·exact .inr (.inr hb)
 refine h.change (fun u=>u=t) BK ⟨hg.os.trans h.base.os,hg.tape.trans h.base.tape,hg.output.trans h.base.output,Nat.le_trans h.base.size hg.size,fun u v' hp=>⟨.inl (h.base.pins u v' hp).1,fun hk=> ?_⟩,fun b hb H7=> ?_,h.base.pk,h.base.lo⟩
  (fun u hu=>⟨by rw [DD,if_neg hu],by rw [hG,if_neg hu],by simp [Cx.a6,hu],fun g1 hh=>hh.resolve_right (fun hh=>hu hh.1)⟩) (fun u hu b hb=>hg.block b (h.gw.inb u b (by simp [GI.own,hb])) (fun hh=>Ny u hu b (by simp [GI.own,hb]) hh.symm)) (fun u hu=> ?_) ?_ (fun u g1 hh=> ?_) (fun u f hf=> ?_)
 ·have Gk: ¬(u=t∧0=g):=by
   rintro⟨rfl,rfl⟩;rcases Er with hh|hh
   ·have hp':c.A.pin u=some v':=hp;rw [hh]at hp';cases hp'
   ·exact hh rfl
  have BM:=hk.resolve_right Gk;simp only [Cx.a6];rw [if_neg Gk];exact(h.base.pins u v' hp).2 BM
 ·refine(hg.block b (Nat.lt_of_lt_of_le hb h.base.size) (fun hh=> ?_)).trans (h.base.block b hb H7);rcases ER b hh.symm with hh|⟨hh,_⟩
  ·rcases h.gw.allow t b (by simp [GI.own,hh])with h1|h1
   ·exact absurd h1 (Nat.not_le.2 hb)
   ·exact H7 h1
  ·have:=h.base.size;have h9:b<c.w0.heap.size:=hb;omega
 ·subst hu;rw [DD,if_pos rfl];exact⟨fun e' hr=>by rw [(QS k A9).1 hr];exact he BK,fun hn=>absurd ((QS k A9).2 rfl) (hn e1)⟩
 ·have B2:(⟨top,O⟩:GI).own.Nodup:=by
   have h0:=h.gw.nodup t;simp only [GI.own]at h0 ⊢;rw [List.nodup_append]at h0 ⊢;refine⟨by rcases Ch with rfl|⟨g0,hr,rfl⟩<;>simp,by rcases hO with rfl|rfl;simp;exact h0.2.1,fun p hp q hq=> ?_⟩;rcases Ch with rfl|⟨g0,hr,rfl⟩
   ·simp at hp
   ·simp at hp;subst hp;rcases hO with rfl|rfl
    ·simp at hq
    ·rcases ER p hr with hh|⟨hh,_⟩
     ·exact h0.2.2 p hh q hq
     ·have:=h.gw.inb t q (by simp [GI.own,hq]);omega
  refine⟨fun u=> ?_,fun u u' KT b hb=> ?_,fun u b hb=> ?_,fun u b hb=> ?_⟩
  ·rw [hG];split
   ·exact B2
   ·exact h.gw.nodup u
  ·rw [hG]at hb ⊢;by_cases h1:u=t
   ·rw [if_pos h1]at hb;rw [if_neg (fun hh=>KT (h1.trans hh.symm))];rcases BF b hb with hr|hb
    ·exact fun hh=>Ny u' (fun h2=>KT (h1.trans h2.symm)) b hh hr
    ·exact h.gw.cm t u' (fun hh=>KT (h1.trans hh)) b hb
   ·rw [if_neg h1]at hb;by_cases h2:u'=t
    ·rw [if_pos h2];intro BT;rcases BF b BT with hr|BT
     ·exact Ny u h1 b hb hr
     ·exact h.gw.cm u t h1 b hb BT
    ·rw [if_neg h2];exact h.gw.cm u u' KT b hb
  ·rw [hG]at hb;split at hb
   ·rcases BF b hb with hr|hb
    ·rcases ER b hr with hh|⟨hh,_⟩
     ·exact h.gw.allow t b (by simp [GI.own,hh])
     ·exact .inl (by rw [hh];exact h.base.size)
    ·exact h.gw.allow t b hb
   ·exact h.gw.allow u b hb
  ·rw [hG]at hb;show b<w'.heap.size;split at hb
   ·rcases BF b hb with hr|hb
    ·rcases ER b hr with hh|⟨_,hh⟩
     ·exact Nat.lt_of_lt_of_le (h.gw.inb t b (by simp [GI.own,hh])) hg.size
     ·exact hh
    ·exact Nat.lt_of_lt_of_le (h.gw.inb t b hb) hg.size
   ·exact Nat.lt_of_lt_of_le (h.gw.inb u b hb) hg.size
 ·rcases hh with hh|⟨rfl,_⟩
  ·exact .inl (h.bu u g1 hh)
  ·exact .inr rfl
 ·rw [DD]at hf;split at hf
  ·rename_i hu;exact .inr hu
  ·exact .inl (h.cq u f hf)
theorem pF {w:World} {v:Value} {ys:List AV} {f:List Nat} {sz:Nat} (h:Rd w [v] [.sl ys] f) (hs: ∀y∈ys,y.cells.length=sz):
  ∃q r news N,v= .slice q ys.length r∧Src w sz q ys.length news∧Rd w news (AK ys) N∧(∀b∈N,b∈f)∧news.length=ys.length*sz∧(∀u∈news,u.oneCell'=true):=by
 rcases h.kind with hh|hh|hh|hh|hh|hh|hh|hh|hh|hh
 ·obtain⟨_,_,_,hh,_⟩:=hh;cases hh
 ·obtain⟨_,_,hh,_⟩:=hh;cases hh
 ·obtain⟨_,_,hh,_⟩:=hh;cases hh
 ·obtain⟨p,r,rfl,hh,rfl⟩:=hh;cases hh;refine⟨p,r, [], [],rfl, ?_, .nil,by simp,by simp,by simp⟩;cases p with
  |none=>exact .inl ⟨rfl,rfl,rfl⟩
  |some p=>exact .inr ⟨p,rfl,by simp,by simp,by simp⟩
 ·obtain⟨b,off,m,r,ys',cs,C,t,fz,sz',f1,rfl,hh,rfl,hb,h1,h2,h3,h4,h5,h6,GH,h7⟩:=hh;cases hh;subst h3;have FZ:sz'=sz:=by
   cases ys with
   |nil=>simp at h1
   |cons y ys=>rw [←h4 y (by simp),hs y (by simp)]
  subst FZ;have hl:=h7.len;rw [MB ys h4]at hl;exact⟨_,r,cs,f1,rfl, .inr ⟨_,rfl,hl,fun j u hu=>by rw [Addr.add_lit,EC hb];exact h6 j u hu,GH⟩,h7,fun q hq=>by simp [hq],hl,GH⟩
 ·obtain⟨_,_,_,hh,_⟩:=hh;cases hh
 ·obtain⟨_,_,_,hh,_⟩:=hh;cases hh
 ·obtain⟨_,_,_,_,_,_,_,hh,_⟩:=hh;cases hh
 ·obtain⟨_,_,_,_,hh,_⟩:=hh;cases hh
 ·obtain⟨_,hh,_⟩:=hh;cases hh
end
section
variable {P:Program} {c:Cx} {n nx:Nat} {sl sl0:Nat→SV} {hp hp0:Nat→Option Aj} {a:Act} {o:Oper} {gs:Gd} {e:AX} {sg:BI} {nv:Nat}
theorem OI (hp:Nat→Option Aj) (l m:List (Nat × Aj)):A4 hp (l++m)=A4 (A4 hp l) m:=by simp [A4,List.foldl_append]
theorem zvL (h:Rel c n sl hp a) (hs: ∀t e,hp0 t=some e→hp t=some e) (k:Bb c.ρ gs) {el:TypeId} {s:SV} {v:Value} (hr:SR c [s] [v]) {y:E} (hy:Bf hp0 gs AT s=some y) {fz:List (Nat × Aj)} {d:Bool} {ck:Cn} (ht:UU P hp0 gs el s y=some (fz,d,ck)) (hc:ck.den c.ρ):
  ∃ts ys q r news N,Dt hp0 gs ts=some fz∧y.den c.ρ= .sl ys∧(∀z∈ys,z.cells.length=P.cellsOf el)∧v= .slice q ys.length r∧Src c.w (P.cellsOf el) q ys.length news∧Rd c.w news (AK ys) N∧(∀b∈N,(c.bq (fz.map (·.1))).ok b)∧(d=true→N= [])∧news.length=ys.length*P.cellsOf el∧ ∀u∈news,u.oneCell'=true:=by
 have eh:EH c hp0:=fun t e hr=>h.ents t e (Li hs hr);obtain⟨f,q1,q2⟩:=HM eh k AT hy hr AT (Nat.le_refl _);unfold UU at ht;split at ht
 ·simp only [Ag,Prod.mk.injEq]at ht;obtain⟨rfl,rfl,rfl⟩:=ht;obtain⟨ys,De,AE⟩:=hc;rw [De]at q1;obtain⟨q,r,news,N,hv,g1,g2,g3,g4,g5⟩:=pF q1 (fun z hz=>(AE z hz).1);have hN:N= []:=HI g2 (fun x hx=>by
   obtain⟨z,hz,hx⟩:=List.mem_flatMap.1 hx;exact(AE z hz).2 x hx)
  exact⟨[],ys,q,r,news,N,rfl,De,fun z hz=>(AE z hz).1,hv,g1,g2,by simp [hN],fun _=>hN,g4,g5⟩
 ·split at ht
  ·rename_i Jd;obtain⟨l,hl,ht⟩:=At.1 ht;simp only [Prod.mk.injEq]at ht;obtain⟨rfl,rfl,rfl⟩:=ht;obtain⟨ys,De,AE⟩:=hc;rw [De]at q1;obtain⟨q,r,news,N,hv,g1,g2,g3,g4,g5⟩:=pF q1 AE;exact⟨_,ys,q,r,news,N,hl,De,AE,hv,g1,g2,fun b hb=>Uc h eh k hl Jd (q2 b (g3 b hb)),by simp,g4,g5⟩
  ·cases ht
theorem K6 {el:TypeId} (h:Iq P el=true): ∃i z,P.info? el=some i∧i.zero=some z∧z.cells.size=i.size∧0<i.size∧P.cellsOf el=i.size∧P.bytesOf el=i.bytes:=by
 unfold Iq at h;cases hi:P.info? el with
 |none=>simp [hi]at h
 |some i=>
  cases hz:i.zero with
  |none=>simp [hi,hz]at h
  |some z=>simp only [hi,hz,Ae,beq_iff_eq,bne_iff_ne]at h;exact⟨i,z,rfl,hz,h.1,by omega,by simp [Program.cellsOf,hi],by simp [Program.bytesOf,hi]⟩
theorem hF (xs ys:List AV):AK (xs++ys)=AK xs++AK ys:=by simp [AK]
theorem gU (h:Bg P c n nx sl hp a sl0 hp0 o gs) {x y:Operand} {tx:TypeId} {cl:Call} (ho:o.op= .call cl) (AE:cl.callee= .builtin .append) (C7:cl.args.toList= [x,y]) (Ei:cl.argTypes.toList= [tx,tx])
  {el:TypeId} (Bo:P.underlying tx=some (.slice el)) (hz:Iq P el=true) {s2:SV} {ye:E} (AW:BE sl0 gs y=some s2) (hy:Bf hp0 gs AT s2=some ye) {fz:List (Nat × Aj)} {d:Bool} {ck:Cn} (B3:UU P hp0 gs el s2 ye=some (fz,d,ck)) (KD:ck.den c.ρ)
  {t g:Nat} (Er:c.A.pin t=none∨g≠0) {c0:E} {d':Bool} (Cg:Cn.den c.ρ (.room c0 ye (P.bytesOf el))) (ES: ∀f,(t,f)∉fz) (AS: ¬c.K t g)
  {top N0:List Nat} {v:Value} (hv:a.eval x=v) (Br:CK c.w el (P.cellsOf el) v (c0.den c.ρ) top N0) (Ch:(c.G t).top=top) (M6: ∀b∈N0,c.ok b) (ZO:d'=true→RF c.w N0∧(c.G t).O=N0) (KK: ∀g',c.K t g'→g'≤g) (hU: ∀u,u=t→c.U u∨(nx≤u∧u<nx+By)) {ckl:List Cn}:
  Ay P o c n nx sl hp gs a {ca:=ckl,val:= .own t g,bm:=fz++ [(t,CC gs (.row el (P.cellsOf el) g (.app c0 ye) (d&&d')))]}:=by
 have Aw:cl.args= #[x,y]:=by apply Array.ext';simp [C7]
 have G1:cl.argTypes= #[tx,tx]:=by apply Array.ext';simp [Ei]
 have DA:y∈o.op.operands:=by simp [ho,Op.operands,Call.operands,AE,Aw]
 obtain⟨i,z,hi,FL,DE,BV,Ck,Gf⟩:=K6 hz;obtain⟨ts,ys,q,r,news,N,Hr,De,NP,C4,Fm,Je,FG,hdN,NA,aS⟩:=zvL h.rel h.hp h.gs (h.cu AW DA) hy B3 KD;have CZ:=h.rel.freeze h.hp h.gs Hr;obtain⟨xs,Cu,Ia,_,Bc⟩:=Br;obtain⟨mm,kk,Hx,Dk,SE,bG⟩:=Cg;rw [Cu]at Hx;rw [De]at Dk;simp only [AV.len,AV.int.injEq,true_and]at Hx Dk;have HY:(xs.length+ys.length)*i.bytes≤140737488355328:=by
  rw [←Hx,←Dk,Gf]at SE;have h9:(((xs.length+ys.length)*i.bytes:Nat):Int)≤140737488355328:=by rw [Int.natCast_mul,Int.natCast_add];exact SE
  omega
 have EZ:xs.length+ys.length≤140737488355328:=by rw [←Hx,←Dk]at bG;omega
 rw [Ck]at Fm NA Ia NP Bc;obtain⟨old,hold,Hz,Dl,CF⟩: ∃old,old.length=xs.length*i.size∧((xs.length=0∧ ∃q,v= .slice q 0 0)∨ ∃g cap C,v= .slice (some ⟨g,0,none⟩) xs.length cap∧xs.length≤cap∧cap≤maxLen∧c.w.heap[g]?=some (.cells C el (0,0))∧C.size=cap*i.size∧old=C.toList.take (xs.length*i.size)∧g∈(c.G t).top)∧Rd c.w old (AK xs) N0∧ ∀u∈old,u.oneCell'=true:=by
  rcases Bc with⟨rfl,⟨p,rfl⟩,rfl,rfl⟩|⟨g9,cap,C,rfl,h6,h7,h8,h9,rfl,GG,DS⟩
  ·exact⟨[],by simp, .inl ⟨rfl,p,rfl⟩, .nil,by simp⟩
  ·refine⟨_, ?_, .inr ⟨g9,cap,C,rfl,h6,h7,h8,h9,rfl,by rw [Ch];simp⟩,DS,GG⟩;have e9:C.toList.length=cap*i.size:=by rw [←h9];simp
   rw [List.length_take,e9];exact Nat.min_eq_left (Nat.mul_le_mul_right _ h6)
 obtain⟨v',w',AR,AQ⟩:=mD (P:=P) c.w tx o.type el i z Bo hi FL DE BV (fun g9=>g9∈(c.G t).top) v xs.length old hold Hz q ys.length r news Fm (by simp only [maxLen];omega) HY;have E7:(execOp a.eval o).run P c.w= .ok (.value v') w':=by simp [execOp,ho,resolve,AE,Aw,G1,invoke,builtin,hv,C4,AR]
 intro next Q hk
 unfold Oper.wp;rw [E7,Oper.upon_value];have hc1w:(c.bq (fz.map (·.1))).w=c.w:=rfl;have nI:(c.bq (fz.map (·.1))).G t=c.G t:=by simp only [Cx.bq];rw [if_neg];rintro hh;obtain⟨⟨u,f⟩,hf,rfl⟩:=List.mem_map.1 hh;exact ES f hf
 obtain⟨row,top',Sh,ER,SO,Bq,CA⟩: ∃row top',c.w.grownBy w' row∧(∀g0,row=some g0→g0∈(c.G t).top∨(g0=c.w.heap.size∧g0<w'.heap.size))∧(top'= []∨ ∃g0,row=some g0∧top'= [g0])∧
   (Dv (c.bq (fz.map (·.1))) ((c.bq (fz.map (·.1))).a6 t g w' v' top' (if(d&&d')=true then(c.G t).O else []))→ ∃N',CK w' el (P.cellsOf el) v' (.sl (xs++ys)) top' N'∧(∀b∈N',b∈N0∨b∈N)∧((d&&d')=true→N'=N0))∧ ∃p m r,v'= .slice p m r:=by
  rcases AQ with⟨rfl,rfl,DV⟩|⟨g9,cap,C,rfl,h1,h2,h3,h4,h5,h6,h7⟩
  ·have Ib:ys= []:=List.eq_nil_of_length_eq_zero DV;subst Ib;refine⟨if top= []then none else top.head?,top,⟨rfl,rfl,rfl,Nat.le_refl _,fun _ _ _=>rfl⟩,fun g0 ER=> .inl ?_, ?_,fun _=>⟨N0, ?_,fun b hb=> .inl hb,fun _=>rfl⟩, ?_⟩
   ·rw [Ch];split at ER
    ·cases ER
    ·exact List.mem_of_mem_head? ER
   ·rcases Bc with⟨_,_,rfl,_⟩|⟨g9,_,_,_,_,_,_,_,rfl,_⟩
    ·exact .inl rfl
    ·exact .inr ⟨g9,by simp,rfl⟩
   ·rw [Ck];exact⟨xs,by simp,Ia,BV,Bc⟩
   ·rcases Hz with⟨_,p,rfl⟩|⟨g9,cap,C,rfl,_⟩
    ·exact⟨_,_,_,rfl⟩
    ·exact⟨_,_,_,rfl⟩
  ·refine⟨some g9, [g9],h6,fun g0 ER=> ?_, .inr ⟨g9,rfl,rfl⟩,fun Gi=>⟨N0++N,⟨xs++ys,rfl,fun z hz=> ?_,by rw [Ck];exact BV, .inr ⟨g9,cap,C,by simp,by simpa using h1,h2,h3,by rw [Ck];exact h4,rfl, ?_, ?_⟩⟩,fun b hb=>Ah.1 hb,fun Ez=> ?_⟩,_,_,_,rfl⟩
   ·cases ER;exact h7.symm
   ·rcases Ah.1 hz with hz|hz
    ·rw [Ck];exact Ia z hz
    ·rw [Ck];exact NP z hz
   ·rw [Ck];simp only [Ao];rw [h5];intro u hu;rcases Ah.1 hu with hu|hu
    ·exact CF u hu
    ·exact aS u hu
   ·rw [Ck];simp only [Ao];rw [h5,hF];refine Rd.app (Dl.frame fun b hb=> ?_) (Je.frame fun b hb=> ?_)
    ·have HY:=Dl.inb b hb;exact Gi.mem b HY (Cx.fc (M6 b hb))
    ·have HY:=Je.inb b hb;exact Gi.mem b HY (FG b hb)
   ·simp only [Ae]at Ez;rw [hdN Ez.1];simp
 obtain⟨p9,m9,r9,hv9⟩:=CA;have Dz:=CZ.a6 (gs:=gs) (t:=t) (g:=g) (w':=w') (row:=row) (top:=top') (O:=if(d&&d')=true then(c.G t).O else []) (v:=v') Er AS Sh (by rw [nI];exact ER) SO (by split;exact .inr (by rw [nI]);exact .inl rfl)
  (.row el (P.cellsOf el) g (.app c0 ye) (d&&d')) (by intros;simp) h.gs (fun Gi=>by
   obtain⟨N',o1,o2,o3⟩:=Bq Gi;have Ax: ∀b∈N',((c.bq (fz.map (·.1))).a6 t g w' v' top' (if(d&&d')=true then(c.G t).O else [])).ok b:=by
    intro b hb;rcases o2 b hb with hb|hb
    ·exact Gi.ok b (Dl.inb b hb) (Cx.fc (M6 b hb))
    ·exact Gi.ok b (Je.inb b hb) (FG b hb)
   refine⟨.inr ⟨rfl,rfl⟩,fun g' B1=> ?_,N', ?_,Ax,fun Ez=> ?_,fun Ez=> ?_⟩
   ·rcases B1 with B1|⟨_,rfl⟩
    ·exact KK g' B1
    ·exact Nat.le_refl _
   ·have e1:((c.bq (fz.map (·.1))).a6 t g w' v' top' (if(d&&d')=true then(c.G t).O else [])).H t g=v':=by simp [Cx.a6]
    have e2:(((c.bq (fz.map (·.1))).a6 t g w' v' top' (if(d&&d')=true then(c.G t).O else [])).G t).top=top':=by simp [Cx.a6]
    rw [e1,e2];show CK w' el (P.cellsOf el) v' (AV.app (c0.den c.ρ) (ye.den c.ρ)) top' N';rw [Cu,De];exact o1
   ·have Zr:=o3 Ez;have ZQ:d'=true:=by simp only [Ae]at Ez;exact Ez.2
    obtain⟨u1,u2⟩:=ZO ZQ;subst Zr;refine⟨u1.frame fun b hb=>Gi.mem b (Dl.inb b hb) (Cx.fc (M6 b hb)), ?_⟩;simp only [Cx.a6,if_true,Ez];exact u2
   ·simp [Cx.a6,Ez])
 have Zy:SR ((c.bq (fz.map (·.1))).a6 t g w' v' top' (if(d&&d')=true then(c.G t).O else [])) [.own t g] [v']:=by rw [hv9];exact .own (.inr ⟨rfl,rfl⟩) (by simp [Cx.a6]) .nil
 refine hk _ ((c.bq (fz.map (·.1))).a6 t g w' v' top' (if(d&&d')=true then(c.G t).O else [])) ⟨rfl,rfl,rfl,rfl,fun u hu=> ?_⟩ ?_
 ·rcases hu with hu|rfl
  ·exact .inl hu
  ·exact hU u rfl
 ·have:=Dz.put (Zy.mkGd gs h.gs) o.dst;rw [OI];exact this
end
section
variable {P:Program} {c:Cx} {n nx:Nat} {sl sl0:Nat→SV} {hp hp0:Nat→Option Aj} {a:Act} {o:Oper} {gs:Gd} {e:AX} {sg:BI} {nv:Nat}
theorem Kc {t el:TypeId} (h:Cw P t=some el):P.underlying t=some (.slice el):=by
 unfold Cw at h;split at h
 ·simp at h;subst h;assumption
 ·cases h
theorem ztd {ts:List Nat} {l:List (Nat × Aj)} (k:Bb c.ρ gs) (h:Dt hp0 gs ts=some l): ∀t f,(t,f)∈l→ ∃g x f',Cd c.ρ (hp0 t) f'∧Lj f' g x:=by intro t f hf;obtain⟨_,_,g,x,f',_,r⟩:=(Om k h).1 t f hf;exact⟨g,x,f',r⟩
theorem zue (h:Bg P c n nx sl hp a sl0 hp0 o gs) {x y:Operand} {tx ty:TypeId} {cl:Call} (ho:o.op= .call cl) (AE:cl.callee= .builtin .append) (C7:cl.args.toList= [x,y]) (Ei:cl.argTypes.toList= [tx,ty])
  {s1 s2:SV} (Bz:BE sl0 gs x=some s1) (AW:BE sl0 gs y=some s2) (he:kE P hp0 gs nx tx ty s1 s2=some e) (hc: ∀q∈e.ca,Cn.den c.ρ q):Ay P o c n nx sl hp gs a e:=by
 have Aw:cl.args= #[x,y]:=by apply Array.ext';simp [C7]
 have DW:x∈o.op.operands:=by simp [ho,Op.operands,Call.operands,AE,Aw]
 unfold kE at he;split at he
 ·cases he
 rename_i NL;have NL:tx=ty:=by simpa using NL
 subst NL;split at he
 ·rename_i el Bo;have Bo:=Kc Bo;split at he
  ·cases he
  rename_i hz;have hz:Iq P el=true:=by simpa using hz
  split at he
  ·cases he
  rename_i ye hy;split at he
  ·cases he
  rename_i fz d ck B3;obtain⟨ts,Hr⟩: ∃ts,Dt hp0 gs ts=some fz:=by
   unfold UU at B3;split at B3
   ·simp only [Ag,Prod.mk.injEq]at B3;obtain⟨rfl,_⟩:=B3;exact⟨[],rfl⟩
   ·split at B3
    ·obtain⟨l,hl,B3⟩:=At.1 B3;simp only [Prod.mk.injEq]at B3;obtain⟨rfl,_⟩:=B3;exact⟨_,hl⟩
    ·cases B3
  have r1:=h.cu Bz DW;have fresh: ∀f,(nx,f)∉fz:=fun f hf=>by
   obtain⟨_,_,_,r,_⟩:=ztd (c:=c) h.gs Hr nx f hf;have r:=Li h.hp r;cases hh:hp nx with
   |none=>rw [hh]at r;exact r.elim
   |some e9=>exact OJ h (h.rel.cq nx e9 hh)
  have hK: ∀g,¬c.K nx g:=fun g hg=>OJ h (h.rel.bu _ _ hg);have FX:=h.rel.off nx (fun e9 hr=>by
   cases hh:hp nx with
   |none=>rw [hh]at hr;exact hr.elim
   |some e8=>exact OJ h (h.rel.cq nx e8 hh))
  have VK:c.A.pin nx=none:=by
   cases hh:c.A.pin nx with
   |none=>rfl
   |some v=>exact absurd (h.rel.base.pins nx v hh).1 (OJ h)
  have nP: ∀u,u=nx→c.U u∨(nx≤u∧u<nx+By):=fun u hu=> .inr ⟨by omega,by rw [hu];simp [By]⟩;have oO:P.cellsOf el≠0:=by obtain⟨i,_,_,_,_,h1,h2,_⟩:=K6 hz;omega
  split at he
  ·rename_i t g;split at he
   ·rename_i e' sz' g' c0 d' hl;split at he
    ·rename_i hh;obtain⟨rfl,rfl,rfl,rfl,ES⟩:=hh;simp only [Ag]at he;subst he;have E6:=CH hl h.gs;obtain⟨q1,q2,N,q3,q4,q5,q6⟩:=h.eh t _ E6;generalize hv:a.eval x=v at r1;cases r1 with
     |own k1 k2 _=>
      have:=gU (nx:=nx) h ho AE C7 Ei Bo hz AW hy B3 (hc _ (by simp)) (t:=t) (g:=g+1) (.inr (by omega)) (c0:=c0) (d':=d') (hc _ (by simp)) (fun f hf=>by simp only [Bool.not_eq_true',List.contains_eq_mem,decide_eq_false_iff_not]at ES;exact ES (List.mem_map.2 ⟨_,hf,rfl⟩)) (fun hh=>by have:=q2 _ hh;omega) hv (by rw [←k2];exact q3) rfl q4 q5 (fun g' B1=>by have:=q2 _ B1;omega) (fun u hu=> .inl (by rw [hu];exact h.rel.bu t g q1)) (ckl:= [.room c0 ye (P.bytesOf el),ck])
      exact this
    ·cases he
   ·cases he
  ·simp only [Ag]at he;subst he;generalize hv:a.eval x=v at r1;cases r1 with
   |emp _=>have:=gU (nx:=nx) h ho AE C7 Ei Bo hz AW hy B3 (hc _ (by simp)) (t:=nx) (g:=0) (.inl VK) (c0:= .lst .nil) (d':=true) (top:= []) (N0:= []) (hc _ (by simp)) fresh (hK 0) hv ⟨[],rfl,by simp,by omega, .inl ⟨rfl,⟨_,rfl⟩,rfl,rfl⟩⟩ FX.1 (by simp) (fun _=>⟨rfl,FX.2⟩) (fun g' B1=>absurd B1 (hK g')) nP (ckl:= [.room (.lst .nil) ye (P.bytesOf el),ck]);rw [Bool.and_true]at this;exact this
  ·simp only [Ag]at he;subst he;generalize hv:a.eval x=v at r1;cases r1 with
   |b8 _=>have:=gU (nx:=nx) h ho AE C7 Ei Bo hz AW hy B3 (hc _ (by simp)) (t:=nx) (g:=0) (.inl VK) (c0:= .lst .nil) (d':=true) (top:= []) (N0:= []) (hc _ (by simp)) fresh (hK 0) hv ⟨[],rfl,by simp,by omega, .inl ⟨rfl,⟨_,rfl⟩,rfl,rfl⟩⟩ FX.1 (by simp) (fun _=>⟨rfl,FX.2⟩) (fun g' B1=>absurd B1 (hK g')) nP (ckl:= [.room (.lst .nil) ye (P.bytesOf el),ck]);rw [Bool.and_true]at this;exact this
  ·cases he
 ·cases he
end
section
variable {P:Program} {c:Cx} {n nx:Nat} {sl sl0:Nat→SV} {hp hp0:Nat→Option Aj} {a:Act} {o:Oper} {gs:Gd} {e:AX} {sg:BI} {nv:Nat}
theorem TB: ∀{ts us:List Nat} {l m:List (Nat × Aj)},Dt hp0 gs ts=some l→Dt hp0 gs us=some m→Dt hp0 gs (ts++us)=some (l++m)
 | [],us,l,m,h,k=>by simp [Dt]at h;subst h;simpa using k
 |t::ts,us,l,m,h,k=>by
  unfold Dt at h;simp only [List.cons_append];unfold Dt;split at h
  ·rename_i ety sz g x d l' hl Bx;have ih:=TB Bx k;split at h
   ·rename_i hg;simp at h;subst h;simp [hl,ih,hg]
   ·cases h
  ·rename_i ety sz dl g ep x l' hl Bx;have ih:=TB Bx k;split at h
   ·rename_i hg;simp at h;subst h;simp [hl,ih,hg]
   ·cases h
  ·rename_i g x l' hl Bx;have ih:=TB Bx k;simp at h;subst h;simp [hl,ih]
  ·rename_i ty g cs l' hl Bx;have ih:=TB Bx k;simp at h;subst h;simp [hl,ih]
  ·cases h
theorem uG {ts us:List Nat} (hs: ∀t∈ts,t∈us) {b:Nat} (h:(c.bq ts).ok b):(c.bq us).ok b:=by refine⟨fun hm=>h.1 ?_,h.2⟩;obtain⟨u,hu,hb⟩:=Cx.jz hm;exact⟨u,by simp only [Cx.bq];rw [if_neg (fun hh=>hu (hs u hh))];exact hb⟩
theorem kB {w:World} {v:Value} {x:AV} {f:List Nat} {t:TypeId} (h:Rd w [v] [x] f) (hg:Ap P t=true∨P.cellsOf t=1) (hx:if Ap P t then∃cs,x= .agg cs∧cs.length=P.cellsOf t else(∀cs,x≠ .agg cs)∧ ∀cs,x≠ .tup cs):
  Rd w v.cells.toList x.cells f∧(∀u∈v.cells.toList,u.oneCell'=true)∧x.cells.length=P.cellsOf t∧v.cells.size=P.cellsOf t:=by
 split at hx
 ·obtain⟨cs,rfl,hl⟩:=hx;obtain⟨as_,rfl,h1,h2⟩:=JD h rfl;have:=h2.len;exact⟨by simpa [Value.cells,AV.cells]using h2,by simpa [Value.cells]using h1,hl,by simp [Value.cells];omega⟩
 ·rename_i hna;have h1:P.cellsOf t=1:=by rcases hg with h'|h';exact absurd h' hna;exact h'
  have CF:=iG h hx.1 hx.2;have Ia:x.cells= [x]:=by cases x<;>first|rfl|exact absurd rfl (hx.1 _)
  rw [one_cells CF,Ia];exact⟨by simpa using h,by simpa using CF,by simp [h1],by simp [h1]⟩
theorem tO (h:Rel c n sl hp a) (hs: ∀t e,hp0 t=some e→hp t=some e) (k:Bb c.ρ gs) {t:TypeId} (hg:Ap P t=true∨P.cellsOf t=1): ∀(ss:List SV) (vs:List Value) {xs:List E} {fz:List (Nat × Aj)} {d:Bool} {ck:List Cn},SR c ss vs→UN P hp0 gs t ss=some (xs,fz,d,ck)→(∀q∈ck,q.den c.ρ)→
  ∃N,Rd c.w (vs.flatMap fun v=>v.cells.toList) (AK (xs.map (E.den c.ρ))) N∧(d=true→N= [])∧(∃ts,Dt hp0 gs ts=some fz)∧(∀b∈N,(c.bq (fz.map (·.1))).ok b)∧(∀v∈vs,v.cells.size=P.cellsOf t∧ ∀u∈v.cells.toList,u.oneCell'=true)∧(∀x∈xs,(x.den c.ρ).cells.length=P.cellsOf t)∧xs.length=vs.length
 | [],vs,xs,fz,d,ck,hr,ht,hc=>by simp [UN]at ht;obtain⟨rfl,rfl,rfl,rfl⟩:=ht;cases hr;exact⟨[],by simpa [AK]using Rd.nil,fun _=>rfl,⟨[],rfl⟩,by simp,by simp,by simp,rfl⟩
 |s::ss, [],xs,fz,d,ck,hr,ht,hc=>by have:=hr.len;simp at this
 |s::ss,v::vs,xs,fz,d,ck,hr,ht,hc=>by
  obtain⟨r1,r2⟩:=hr.cd;unfold UN at ht;split at ht
  ·rename_i x fz1 d1 ck1 xs2 fz2 d2 ck2 h1 h2;simp only [Ag,Prod.mk.injEq]at ht;obtain⟨rfl,rfl,rfl,rfl⟩:=ht;obtain⟨f,q1,q2,⟨ts1,q3,q4⟩,q5⟩:=uO h hs k r1 h1 (fun q hq=>hc q (by simp [hq]));obtain⟨N,p1,p2,⟨ts2,p3⟩,p4,p5,p6,p7⟩:=tO h hs k hg ss vs r2 h2 (fun q hq=>hc q (by simp [hq]));obtain⟨o1,o2,o3,o4⟩:=kB (P:=P) q1 hg q5;refine⟨f++N, ?_,fun hd=> ?_,⟨_,TB q3 p3⟩,fun b hb=> ?_, ?_, ?_,by simp [p7]⟩
   ·simpa [AK]using o1.app p1
   ·simp only [Ae]at hd;rw [q2 hd.1,p2 hd.2];rfl
   ·rcases Ah.1 hb with hb|hb
    ·exact uG (fun t ht=>by simp only [List.map_append,Ah];exact .inl ht) (q4 b hb)
    ·exact uG (fun t ht=>by simp only [List.map_append,Ah];exact .inr ht) (p4 b hb)
   ·intro u hu;rcases Af.1 hu with rfl|hu
    ·exact⟨o4,o2⟩
    ·exact p5 u hu
   ·intro u hu;rcases Af.1 hu with rfl|hu
    ·exact o3
    ·exact p6 u hu
  ·cases ht
theorem iT {sz:Nat} (place:Nat→Option (Nat × Nat)) (ND: ∀i,place i=some (i*sz,sz)): ∀(vs:List Value) (k:Nat) (C:Array Value) (pre suf:List Value),C.toList=pre++suf→pre.length=k*sz→suf.length=vs.length*sz→(∀v∈vs,v.cells.size=sz)→
  ∃C',Instr.fill place C ((vs.zipIdx k).map fun p=>(p.2,p.1))=some C'∧C'.toList=pre++vs.flatMap fun v=>v.cells.toList
 | [],k,C,pre,suf,h,_,h2,_=>by have:suf= []:=List.eq_nil_of_length_eq_zero (by simpa using h2);subst this;exact⟨C,rfl,by simpa using h⟩
 |v::vs,k,C,pre,suf,h,h1,h2,h3=>by
  have hv:=h3 v (by simp);simp only [Ar,Nat.add_mul,Nat.one_mul]at h2;have hC:C.size=pre.length+suf.length:=by rw [←Array.length_toList,h,Ao]
  have LD:(v.cells.zipIdx.foldl (fun cs (p:Value × Nat)=>cs.setIfInBounds (k*sz+p.2) p.1) C).toList=setVs C.toList (k*sz) v.cells.toList:=by have:=yL v.cells.toList 0 (k*sz) C (by simp;omega);rw [←Array.foldl_toList,Array.toList_zipIdx];simpa using this
  have Jj:setVs C.toList (k*sz) v.cells.toList=(pre++v.cells.toList)++suf.drop sz:=by unfold setVs;rw [h,←h1,List.take_left' rfl];congr 1;rw [List.drop_append,List.drop_eq_nil_of_le (by omega)];simp [hv]
  obtain⟨C',g1,g2⟩:=iT place ND vs (k+1) (v.cells.zipIdx.foldl (fun cs (p:Value × Nat)=>cs.setIfInBounds (k*sz+p.2) p.1) C) (pre++v.cells.toList) (suf.drop sz) (by rw [LD,Jj]) (by simp [h1,hv,Nat.add_mul]) (by simp;omega) (fun u hu=>h3 u (by simp [hu]));refine⟨C', ?_,by rw [g2];simp⟩;simp only [List.zipIdx_cons,List.map_cons];unfold Instr.fill;simp only [ND];rw [if_neg (by simp [hv];omega)];exact g1
theorem Ay.newRow (h:Bg P c n nx sl hp a sl0 hp0 o gs) {ts:List Nat} {fz:List (Nat × Aj)} (Hr:Dt hp0 gs ts=some fz) {el:TypeId} {C:Array Value} {cap:Nat} {xs:List AV} {x:E} {d:Bool} {N:List Nat} {ckl:List Cn} {wd:World} (hwd:wd.heap=c.w.heap∧wd.os=c.w.os∧wd.tape=c.w.tape∧wd.output=c.w.output)
  (hr:(execOp a.eval o).run P c.w= .ok (.value (.slice (some ⟨c.w.heap.size,0,none⟩) xs.length cap)) (wd.alloc (.cells C el))) (hx:x.den c.ρ= .sl xs) (BV:P.cellsOf el≠0) (AE: ∀y∈xs,y.cells.length=P.cellsOf el) (hle:xs.length≤cap) (I0:cap≤maxLen) (hC:C.size=cap*P.cellsOf el)
  (h1: ∀u∈C.toList.take (xs.length*P.cellsOf el),u.oneCell'=true) (hN:Rd c.w (C.toList.take (xs.length*P.cellsOf el)) (AK xs) N) (FG: ∀b∈N,(c.bq (fz.map (·.1))).ok b) (hd:d=true→N= []):
  Ay P o c n nx sl hp gs a {ca:=ckl,val:= .own nx 0,bm:=fz++ [(nx,CC gs (.row el (P.cellsOf el) 0 x d))]}:=by
 intro next Q hk
 unfold Oper.wp;rw [hr,Oper.upon_value];have hU:=OJ h;have CZ:=h.rel.freeze h.hp h.gs Hr;have hK: ∀g,¬c.K nx g:=fun g hg=>hU (h.rel.bu _ _ hg);have VK:c.A.pin nx=none:=by
  cases hh:c.A.pin nx with
  |none=>rfl
  |some v=>exact absurd (h.rel.base.pins nx v hh).1 hU
 have FX:=h.rel.off nx (fun e9 hr=>by
  cases hh:hp nx with
  |none=>rw [hh]at hr;exact hr.elim
  |some e8=>exact hU (h.rel.cq nx e8 hh))
 obtain⟨w1,w2,w3,w4⟩:=hwd;have Hs:c.w.grownBy (wd.alloc (.cells C el)) (some c.w.heap.size):=by
  refine⟨w2,w3,w4, ?_,fun k hk _=> ?_⟩
  ·show c.w.heap.size≤(wd.heap.push _).size;simp [w1]
  ·have:=Below.heap_alloc wd (.cells C el) k (by rw [w1];exact hk);rw [this,w1]
 have LQ:(wd.alloc (.cells C el)).heap[c.w.heap.size]?=some (.cells C el (0,0)):=by have:=heap_alloc_new wd (.cells C el);rw [w1]at this;exact this
 have Aq:c.w.heap.size<(wd.alloc (.cells C el)).heap.size:=Fu LQ;have hO:(c.bq (fz.map (·.1))).G nx=⟨[], []⟩∨((c.bq (fz.map (·.1))).G nx).O= []:=by
  right;simp only [Cx.bq];split
  ·rfl
  ·exact FX.2
 have Dz:=CZ.a6 (gs:=gs) (t:=nx) (g:=0) (w':=wd.alloc (.cells C el)) (row:=some c.w.heap.size) (top:= [c.w.heap.size]) (O:= []) (v:= .slice (some ⟨c.w.heap.size,0,none⟩) xs.length cap) (.inl VK) (hK 0) Hs (fun g0 ER=>by cases ER;exact .inr ⟨rfl,Aq⟩) (.inr ⟨_,rfl,rfl⟩) (.inl rfl)
  (.row el (P.cellsOf el) 0 x d) (by intros;simp) h.gs (fun Gi=>by
   refine⟨.inr ⟨rfl,rfl⟩,fun g' B1=> ?_,N, ?_,fun b hb=>Gi.ok b (hN.inb b hb) (FG b hb),fun Ez=> ?_,fun _=>by simp [Cx.a6]⟩
   ·rcases B1 with B1|⟨_,rfl⟩
    ·exact absurd B1 (hK g')
    ·exact Nat.le_refl _
   ·have e1:((c.bq (fz.map (·.1))).a6 nx 0 (wd.alloc (.cells C el)) (.slice (some ⟨c.w.heap.size,0,none⟩) xs.length cap) [c.w.heap.size] []).H nx 0= .slice (some ⟨c.w.heap.size,0,none⟩) xs.length cap:=by simp [Cx.a6]
    have e2:(((c.bq (fz.map (·.1))).a6 nx 0 (wd.alloc (.cells C el)) (.slice (some ⟨c.w.heap.size,0,none⟩) xs.length cap) [c.w.heap.size] []).G nx).top= [c.w.heap.size]:=by simp [Cx.a6]
    rw [e1,e2];show CK (wd.alloc (.cells C el)) el (P.cellsOf el) _ (x.den c.ρ) _ N;rw [hx];exact⟨xs,rfl,AE,by omega, .inr ⟨_,cap,C,rfl,hle,I0,LQ,hC,rfl,h1,hN.frame fun b hb=>Gi.mem b (hN.inb b hb) (FG b hb)⟩⟩
   ·rw [hd Ez];exact⟨rfl,by simp [Cx.a6]⟩)
 have Zy:SR ((c.bq (fz.map (·.1))).a6 nx 0 (wd.alloc (.cells C el)) (.slice (some ⟨c.w.heap.size,0,none⟩) xs.length cap) [c.w.heap.size] []) [.own nx 0] [.slice (some ⟨c.w.heap.size,0,none⟩) xs.length cap]:=
  .own (.inr ⟨rfl,rfl⟩) (by simp [Cx.a6]) .nil
 refine hk _ ((c.bq (fz.map (·.1))).a6 nx 0 (wd.alloc (.cells C el)) (.slice (some ⟨c.w.heap.size,0,none⟩) xs.length cap) [c.w.heap.size] []) ⟨rfl,rfl,rfl,rfl,fun u hu=> ?_⟩ ?_
 ·rcases hu with hu|rfl
  ·exact .inl hu
  ·exact .inr ⟨Nat.le_refl _,by simp [By]⟩
 ·have:=Dz.put (Zy.mkGd gs h.gs) o.dst;rw [OI];exact this
theorem tC {t el:TypeId} (hu:P.underlying t=some (.slice el)) (Be:Dd P el=true) {i:TypeInfo} {z:Value} (hi:P.info? el=some i) (hz:i.zero=some z) (Ck:P.cellsOf el=i.size) (m:Nat) (hle:m*i.size≤2^24) (parts:Array (Nat × Value)) (C:Array Value)
  (hf:Instr.fill (fun j=>some (j*i.size,i.size)) ((Array.range (m*i.size)).map (fun j=>(if m*i.size=0 then #[]else z.cells)[j % (if m*i.size=0 then #[]else z.cells).size]!)) parts.toList=some C) (w:World):
  (Instr.buildSlice t m parts).run P w= .ok (.slice (some ⟨w.heap.size,0,none⟩) m m) (w.alloc (.cells C el)):=by
 have aH: ¬(2^24<m*i.size):=by omega
 have Hw:Array.range 0= #[]:=rfl;by_cases h0:m*i.size=0
 ·simp only [h0,if_true,Hw]at hf;have R9: ∀f:Nat→Value,Array.map f #[]= #[]:=fun f=>by simp
  rw [R9]at hf;simp only [Instr.buildSlice,Sem.run_bind,run_underlying hu,Result.andThen_ok,Oy Be,Ck];simp [h0,Hw,hf,newRow]
 ·simp only [h0,if_false]at hf;simp only [Instr.buildSlice,Sem.run_bind,run_underlying hu,Result.andThen_ok,Oy Be,Ck];simp [h0,aH,zeroValue,typeInfo,hi,hz,hf,newRow]
theorem zpL (h:Bg P c n nx sl hp a sl0 hp0 o gs) {t:TypeId} {m:Nat} {parts:Array (Nat × Operand)} (ho:o.op= .buildSlice t m parts) {ps:List (Nat × SV)} (LV:parts.toList.mapM (fun(p:Nat × Operand)=>(BE sl0 gs p.2).map fun s=>(p.1,s))=some ps) (he:gS P hp0 gs nx t m ps=some e) (hc: ∀q∈e.ca,Cn.den c.ρ q):Ay P o c n nx sl hp gs a e:=by
 obtain⟨e1,e2⟩:=Yl (c:=c) (a:=a) (parts.toList.map (·.2)) (fun x s hx hm=>h.cu hx (by simpa [ho,Op.operands]using hm)) (fun x hx=>List.mem_map.2 ⟨x,hx,rfl⟩) LV;unfold gS at he;split at he
 ·rename_i el Bo;have Bo:=Kc Bo;split at he
  ·cases he
  rename_i AH;simp only [not_or,Bool.not_eq_true',Bool.not_eq_false',ne_eq,Bool.not_eq_false,Nat.not_lt,Decidable.not_not]at AH;obtain⟨hz,Be,AB,hle,El⟩:=AH;have AB:Ap P el=true∨P.cellsOf el=1:=by simpa using AB
  obtain⟨i,z,hi,FL,DE,BV,Ck,Gf⟩:=K6 hz;split at he
  ·rename_i xs fz d ck SM;split at he
   ·simp only [Ag]at he;subst he;obtain⟨N,p1,p2,⟨ts,p3⟩,p4,p5,p6,p7⟩:=tO h.rel h.hp h.gs AB (ps.map (·.2)) (parts.toList.map fun p=>a.eval p.2) e2 SM hc;have hlen:(parts.toList.map fun p=>a.eval p.2).length=m:=by
     have:ps.length=m:=by have:=congrArg List.length El;simpa using this
     have h9:=congrArg List.length e1;simp at h9 ⊢;omega
    have GY:(parts.map fun(x:Nat × Operand)=>(x.1,a.eval x.2)).toList=((parts.toList.map fun p=>a.eval p.2).zipIdx 0).map fun p=>(p.2,p.1):=by
     have Ja:parts.toList.map (·.1)=List.range m:=by rw [←e1,El]
     apply List.ext_getElem?;intro j;have hj:(parts.toList.map (·.1))[j]?=(List.range m)[j]?:=by rw [Ja]
     simp only [Array.toList_map,List.getElem?_map,List.getElem?_zipIdx]at hj ⊢;cases hp:parts.toList[j]? with
     |none=>simp
     |some p=>
      rw [hp]at hj;simp only [Option.map_some,Ag]at hj ⊢;have aB:j<m:=by
       rcases Nat.lt_or_ge j m with hh|hh
       ·exact hh
       ·rw [List.getElem?_eq_none (by simpa using hh)]at hj;cases hj
      rw [List.getElem?_range aB]at hj;simp at hj;simp [hj]
    obtain⟨C',f1,f2⟩:=iT (sz:=i.size) (fun j=>some (j*i.size,i.size)) (fun j=>rfl) (parts.toList.map fun p=>a.eval p.2) 0 ((Array.range (m*i.size)).map (fun j=>(if m*i.size=0 then #[]else z.cells)[j % (if m*i.size=0 then #[]else z.cells).size]!)) [] _ (by simp;rfl) (by simp) (by simp [hlen]) (fun v hv=>by rw [←Ck];exact(p5 v hv).1);have DI:C'.toList.length=m*P.cellsOf el:=by
     rw [f2,Ck];simp only [List.nil_append];have: ∀(L:List Value),(∀v∈L,v.cells.size=i.size)→(L.flatMap fun v=>v.cells.toList).length=L.length*i.size:=by
      intro L
      induction L with
      |nil=>intro _;simp
      |cons v L ih=>intro hL;simp only [List.flatMap_cons,Ao,Ar,Array.length_toList];rw [ih (fun u hu=>hL u (by simp [hu])),hL v (by simp),Nat.add_mul];omega
     rw [this _ (fun v hv=>by rw [←Ck];exact(p5 v hv).1),hlen]
    have Jo:(xs.map (E.den c.ρ)).length=m:=by rw [List.length_map,p7,hlen]
    have Ct:C'.toList.take ((xs.map (E.den c.ρ)).length*P.cellsOf el)=(parts.toList.map fun p=>a.eval p.2).flatMap fun v=>v.cells.toList:=by rw [Jo,←DI,List.take_length,f2];simp
    refine Ay.newRow (xs:=xs.map (E.den c.ρ)) (N:=N) (C:=C') (cap:=m) (wd:=c.w) h p3 ⟨rfl,rfl,rfl,rfl⟩ ?_ (by simp [E.den,EL.de]) (by omega) (fun y hy=> ?_) (by omega) (by simp only [maxLen];have:m*1≤m*P.cellsOf el:=Nat.mul_le_mul_left _ (by omega);omega) (by rw [←Array.length_toList,DI]) ?_ (by rw [Ct];exact p1) p4 p2
    ·rw [Jo];have AR:=tC (P:=P) Bo Be hi FL Ck m (by rw [←Ck];omega) (parts.map fun(x:Nat × Operand)=>(x.1,a.eval x.2)) C' (by rw [GY];exact f1) c.w;simp only [execOp,ho,Sem.run_bind];rw [AR];rfl
    ·obtain⟨q,hq,rfl⟩:=List.mem_map.1 hy;exact p6 q hq
    ·rw [Ct];intro u hu;obtain⟨v,hv,hu⟩:=List.mem_flatMap.1 hu;exact(p5 v hv).2 u hu
   ·cases he
  ·cases he
 ·cases he
end
end Go.Proofs.YtlhlgboblghkdaaGreatDoor
end

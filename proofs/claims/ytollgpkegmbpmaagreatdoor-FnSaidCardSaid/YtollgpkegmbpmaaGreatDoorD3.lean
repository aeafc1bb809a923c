/- Parts of a proof, joined: WA, VJa, VK, VL, VM, VN, VO, VP, VQ, VR, VS, VT, VU, VV, VW. -/
import Derived.Test.YtollgpkegmbpmaaGreatDoorD2
import Derived.WalkSpells
import Derived.Laws.BytesArg
set_option linter.unusedVariables false
set_option linter.unusedSimpArgs false
section
namespace Go.Proofs.YtollgpkegmbpmaaGreatDoor
open Go.RowKit
theorem HZ: ∀{l:List (Nat × Ai)} {t:Nat} {e:Ai},AD l t=some e→(t,e)∈l
 | [],_,_,h=>by simp [AD]at h
 |(u,f)::l,t,e,h=>by
  simp only [AD]at h;split at h
  ·rename_i hu;subst hu;simp at h;subst h;simp
  ·exact List.mem_cons_of_mem _ (HZ h)
theorem LA {α:Type}: ∀{l:List (Nat × α)} {t:Nat} {e:α},l.lookup t=some e→(t,e)∈l
 | [],_,_,h=>by simp at h
 |(u,f)::l,t,e,h=>by
  simp only [List.lookup_cons]at h;split at h
  ·rename_i hu;simp at h hu;subst h;subst hu;simp
  ·exact List.mem_cons_of_mem _ (LA h)
theorem VA: ∀{θ:List (Nat × Option Nat)},LS θ=true→ ∀{t u v:Nat},(t,some v)∈θ→(u,some v)∈θ→t=u
 | [],_,t,u,v,h,_=>by simp at h
 |(p,q)::θ,hn,t,u,v,h1,h2=>by
  have vE:LS θ=true:=by cases q<;>(simp only [LS,Ad]at hn;exact hn.2)
  have key: ∀x,(p,some v)=(p,q)→(x,some v)∈θ→False:=by intro x hq hx;cases hq;simp only [LS,Ad,AS]at hn;have:=hn.1 _ hx;simp at this
  rcases Ae.1 h1 with h3|h3<;>rcases Ae.1 h2 with h4|h4
  ·cases h3;cases h4;rfl
  ·cases h3;exact(key u rfl h4).elim
  ·cases h4;exact(key t rfl h3).elim
  ·exact VA vE h3 h4
def BI (hp:List (Nat × Ai)) (t:Nat):Option Nat:=match AD hp t with
 |some (.box ..)=>some 0
 |some (.row _ _ g _ _)=>some g
 |some (.bm g _)=>some g
 |some (.deep _ _ _ g _ _)=>some g
 |_=>none
def Gy (hp:List (Nat × Ai)) (t:Nat):Bool:=match AD hp t with
 |some (.box ..)=>true
 |some (.row ..)=>true
 |some (.deep ..)=>true
 |_=>false
def KZ (pat leaf:Option Ai) (g:GI):GI:=match pat,leaf with
 |some (.row ..),some (.deep ..)=>⟨g.top.take 1, []⟩
 |_,_=>g
theorem zyH {p l:Option Ai} {g:GI} {b:Nat} (h:b∈(KZ p l g).top):b∈g.top:=by
 unfold KZ at h;split at h
 ·exact List.mem_of_mem_take h
 ·exact h
theorem zx3 {p l:Option Ai} {g:GI} {b:Nat} (h:b∈(KZ p l g).own):b∈g.own:=by
 unfold KZ at h;split at h
 ·simp only [GI.own,List.append_nil]at h;simp [GI.own,List.mem_of_mem_take h]
 ·exact h
theorem zvu {p l:Option Ai} {g:GI} (h:g.own.Nodup):(KZ p l g).own.Nodup:=by
 unfold KZ;split
 ·simp only [GI.own,List.append_nil]at h ⊢;exact List.Sublist.nodup (List.Sublist.trans (List.take_sublist _ _) (List.sublist_append_left _ _)) h
 ·exact h
def CJ (c:Cx) (ρ:List AV) (θ:List (Nat × Option Nat)) (pat leaf:St):Cx:=
 {c with
  ρ:=ρ
  G:=fun t=>if Gy pat.hp t then(match θ.lookup t with|some (some t')=>KZ (AD pat.hp t) (AD leaf.hp t') (c.G t')|_=>⟨[], []⟩)else⟨[], []⟩
  K:=fun t g=>BI pat.hp t=some g
  H:=fun t _=>match θ.lookup t with|some (some t')=>c.H t' ((BI leaf.hp t').getD 0)|_=> .slice none 0 0
  U:=fun t=>t<pat.nx
  E:=fun t=>match AD pat.hp t with|some (.deep _ _ _ _ ep _)=>ep|_=>0}
section
variable {c:Cx} {ρ:List AV} {nv n:Nat} {es:List E} {θ:List (Nat × Option Nat)} {pat leaf:St} {sl:Nat→SV} {a:Act}
theorem LX {t b:Nat} (h:b∈((CJ c ρ θ pat leaf).G t).own):Gy pat.hp t=true∧ ∃t',θ.lookup t=some (some t')∧(b∈((CJ c ρ θ pat leaf).G t).top→b∈(c.G t').top)∧b∈(c.G t').own:=by
 simp only [CJ]at h ⊢;split at h
 ·rename_i ho;split at h
  ·rename_i t' ht;exact⟨ho,t',ht,fun hb=>by rw [if_pos ho]at hb;exact zyH hb,zx3 h⟩
  ·simp [GI.own]at h
 ·simp [GI.own]at h
theorem PN {b:Nat} (h:c.ok b):(CJ c ρ θ pat leaf).ok b:=by refine⟨fun⟨t,ht⟩=> ?_,h.2⟩;obtain⟨_,t',_,hg,_⟩:=LX (b:=b) (by simp only [GI.own,Ah];exact .inl ht);exact h.1 ⟨t',hg ht⟩
theorem KE (hp:ρ<+:c.ρ) (hn:ρ.length=nv) {x y:E} (h:IL nv es x y=true):x.den (ρ++(EL.of es).den c.ρ)=y.den c.ρ:=by
 obtain⟨τ,hτ⟩:=hp;have J3:x.sc nv=true→x.beq y=true→x.den (ρ++(EL.of es).den c.ρ)=y.den c.ρ:=by intro h1 h2;rw [←E.ak c.ρ x y h2];subst hn;generalize hq:(EL.of es).den c.ρ=q;rw [E.ao ρ q τ x h1,hτ]
 unfold IL at h;split at h
 ·rename_i i;split at h
  ·rename_i hi;exact J3 (by simpa [E.sc]using hi) h
  ·rename_i hi;split at h
   ·rename_i z hz;rw [←E.ak c.ρ z y h];simp only [E.den,EL.de];rw [List.getElem?_append_right (by omega),hn,List.getElem?_map,hz];rfl
   ·cases h
 ·simp only [Ad]at h;exact J3 h.1 h.2
theorem zyh (Ap:Rel c n sl (AD leaf.hp) a) {s:SV} {v:Value} {y:E} (hs:SR c [s] [v]) (h:H7 leaf s=some y): ∃f,Rd c.w [v] [y.den c.ρ] f∧ ∀b∈f,c.ed (BB (AD leaf.hp) [] (AT+1) [s]) b:=
 G7 (fun t e hr=>Ap.ents t e hr) (Em _) AT h hs AT (Nat.le_refl _)
mutual
theorem sS (Ap:Rel c n sl (AD leaf.hp) a) (hp:ρ<+:c.ρ) (hn:ρ.length=nv) (B0: ∀t e,(t,e)∈pat.hp→HC nv es θ pat leaf t e=true): ∀(m:Nat) {p s:SV} {v:Value},Rf nv es θ pat leaf m p s=true→SR c [s] [v]→SR (CJ c (ρ++(EL.of es).den c.ρ) θ pat leaf) [p] [v]
 |0,p,s,v,h,_=>by simp [Rf]at h
 |m+1,p,s,v,h,hs=>by
  unfold Rf at h;split at h
  ·exact .undef .nil
  ·rename_i x;split at h
   ·rename_i y hy;simp only [Ad,AS,Bool.or_eq_true]at h;obtain⟨f,hf,Hp⟩:=zyh Ap hs hy;have hx:=KE (c:=c) hp hn h.1;refine .e (by rw [show(CJ c (ρ++(EL.of es).den c.ρ) θ pat leaf).ρ=ρ++(EL.of es).den c.ρ from rfl,hx];exact hf) (fun b hb=> ?_) .nil;rcases Hp b hb with hb|⟨t',Lk,hb⟩
    ·exact PN hb
    ·refine⟨fun⟨u,hu⟩=> ?_, .inr (Ap.gw.allow t' b (by simp [GI.own,hb]))⟩;obtain⟨ho,v',hl,hg,Qp⟩:=LX (b:=b) (by simp only [GI.own,Ah];exact .inl hu);have hv:v'=t':=by
      refine Classical.byContradiction fun Bt=>Ap.gw.cj v' t' Bt b Qp (by simp [GI.own,hb])
     subst hv;have:=h.2 _ Lk _ (LA hl);simp only [bne_self_eq_false,BH,false_or]at this;unfold Gy at ho;split at this
     ·rename_i hh;rw [hh]at ho;simp at ho
     ·rename_i hh;rw [hh]at ho;simp at ho
     ·cases this
   ·cases h
  ·split at h
   ·cases hs with
    |bu _=>exact .bu .nil
   ·cases h
  ·split at h
   ·cases hs with
    |emp _=>exact .emp .nil
   ·cases hs with
    |bu _=>exact .emp .nil
   ·cases h
  ·rename_i t g;have key: ∀t' v',BI pat.hp t=some g→θ.lookup t=some (some t')→Jp leaf.hp t' v'=true→SR c [.own t' v'] [v]→SR (CJ c (ρ++(EL.of es).den c.ρ) θ pat leaf) [.own t g] [v]:=by
    intro t' v' hg hl hv hs;cases hs with
    |own h1 h2 _=>
     refine .own hg ?_ .nil;show(match θ.lookup t with|some (some t')=>c.H t' ((BI leaf.hp t').getD 0)|_=>Value.slice none 0 0)=_;rw [hl];have:(BI leaf.hp t').getD 0=v':=by
      unfold Jp at hv;unfold BI;split at hv
      ·rename_i hh;rw [hh];simpa using(beq_iff_eq.1 hv).symm
      ·rename_i hh;rw [hh];simpa using(beq_iff_eq.1 hv).symm
      ·rename_i hh;rw [hh];simpa using(beq_iff_eq.1 hv).symm
      ·cases hv
     show c.H t' ((BI leaf.hp t').getD 0)=_;rw [this];exact h2
   split at h
   ·rename_i g' _ _ DM;simp only [Ad,beq_iff_eq]at h;obtain⟨rfl,h⟩:=h;split at h
    ·simp only [Ad,beq_iff_eq]at h;exact key _ _ (by simp [BI,DM]) h.1 h.2 hs
    ·rw [beq_iff_eq]at h;cases hs with
     |bu _=>refine .own (p:=none) (q:=0) (r:=0) (by show BI pat.hp t=some g;simp [BI,DM]) ?_ .nil;show(match θ.lookup t with|some (some t')=>c.H t' ((BI leaf.hp t').getD 0)|_=>Value.slice none 0 0)=_;rw [h]
    ·cases h
   ·rename_i g' _ DM;simp only [Ad,beq_iff_eq]at h;obtain⟨rfl,h⟩:=h;split at h
    ·simp only [Ad,beq_iff_eq]at h;exact key _ _ (by simp [BI,DM]) h.1 h.2 hs
    ·cases h
   ·rename_i g' _ _ DM;simp only [Ad,beq_iff_eq]at h;obtain⟨rfl,h⟩:=h;split at h
    ·simp only [Ad,beq_iff_eq]at h;exact key _ _ (by simp [BI,DM]) h.1 h.2 hs
    ·rw [beq_iff_eq]at h;cases hs with
     |bu _=>refine .own (p:=none) (q:=0) (r:=0) (by show BI pat.hp t=some g;simp [BI,DM]) ?_ .nil;show(match θ.lookup t with|some (some t')=>c.H t' ((BI leaf.hp t').getD 0)|_=>Value.slice none 0 0)=_;rw [h]
    ·cases h
   ·cases h
  ·rename_i t o;split at h
   ·rename_i ty g cs DM;split at h
    ·rename_i t' o';simp only [Ad,beq_iff_eq]at h;obtain⟨rfl,hl⟩:=h;have Hm:=B0 t _ (HZ DM);simp only [HC,hl]at Hm;split at Hm
     ·rename_i CG;cases hs with
      |cd h1 h2 _=>
       refine .cd (by show BI pat.hp t=some 0;simp [BI,DM]) ?_ .nil;show(match θ.lookup t with|some (some t')=>c.H t' ((BI leaf.hp t').getD 0)|_=>Value.slice none 0 0)=_;rw [hl];have:(BI leaf.hp t').getD 0=0:=by simp [BI,CG]
       simp only [this];exact h2
     ·cases Hm
    ·cases h
   ·cases h
  ·cases h
  ·rename_i x i z o;split at h
   ·rename_i y j z' o';simp only [Ad,beq_iff_eq]at h;obtain⟨⟨⟨⟨⟨rfl,rfl⟩,h1⟩,h2⟩,h3⟩,h4⟩:=h;have hx:x.den (ρ++(EL.of es).den c.ρ)=y.den c.ρ:=by
     obtain⟨τ,hτ⟩:=hp;rw [←E.ak c.ρ x y h2];subst hn;generalize (EL.of es).den c.ρ=q;rw [E.ao ρ q τ x h1,hτ]
    have hi:i.den (ρ++(EL.of es).den c.ρ)=j.den c.ρ:=by obtain⟨τ,hτ⟩:=hp;rw [←E.ak c.ρ i j h4];subst hn;generalize (EL.of es).den c.ρ=q;rw [E.ao ρ q τ i h3,hτ]
    cases hs with
    |df g1 g2 g3 g4 g5 g6 _=>refine .df (f:=_) (by show Rd c.w _ [x.den (ρ++(EL.of es).den c.ρ)] _;rw [hx];exact g1) (fun b hb=>PN (g2 b hb)) (by show i.den (ρ++(EL.of es).den c.ρ)=_;rw [hi];exact g3) g4 g5 (by show((x.den (ρ++(EL.of es).den c.ρ)).nth _).cells.length=_;rw [hx];exact g6) .nil
   ·cases h
  ·rename_i x o;split at h
   ·rename_i y o';simp only [Ad,beq_iff_eq]at h;obtain⟨⟨rfl,h1⟩,h2⟩:=h;have hx:x.den (ρ++(EL.of es).den c.ρ)=y.den c.ρ:=by
     obtain⟨τ,hτ⟩:=hp;rw [←E.ak c.ρ x y h2];subst hn;generalize (EL.of es).den c.ρ=q;rw [E.ao ρ q τ x h1,hτ]
    cases hs with
    |dd g1 g2 _=>exact .dd (by show Rd c.w _ [x.den (ρ++(EL.of es).den c.ρ)] _;rw [hx];exact g1) (fun b hb=>PN (g2 b hb)) .nil
   ·cases h
  ·split at h
   ·cases hs with
    |agg h9 h1 _=>exact .agg h9 (Sz Ap hp hn B0 m h h1) .nil
   ·cases h
  ·split at h
   ·cases hs with
    |tup h1 _=>exact .tup (Sz Ap hp hn B0 m h h1) .nil
   ·cases h
  ·split at h
   ·simp only [Ad,beq_iff_eq]at h;obtain⟨rfl,h⟩:=h;cases hs with
    |fn h1 _=>exact .fn (Sz Ap hp hn B0 m h h1) .nil
   ·cases h
  ·cases h
  ·cases h
  ·cases h
  ·cases h
  ·rename_i i;split at h
   ·rename_i j;simp only [Ad,beq_iff_eq,decide_eq_true_eq]at h;obtain⟨rfl,hi⟩:=h;cases hs with
    |lent g1 _=>
     have hx:(E.var i).den (ρ++(EL.of es).den c.ρ)=(E.var i).den c.ρ:=by obtain⟨τ,hτ⟩:=hp;subst hn;generalize (EL.of es).den c.ρ=q;rw [E.ao ρ q τ (.var i) (by simpa [E.sc]using hi),hτ]
     exact .lent (show c.A.lo v ((E.var i).den (ρ++(EL.of es).den c.ρ)) by rw [hx];exact g1) .nil
   ·cases h
theorem Sz (Ap:Rel c n sl (AD leaf.hp) a) (hp:ρ<+:c.ρ) (hn:ρ.length=nv) (B0: ∀t e,(t,e)∈pat.hp→HC nv es θ pat leaf t e=true): ∀(m:Nat) {ps ss:List SV} {vs:List Value},GG nv es θ pat leaf m ps ss=true→SR c ss vs→SR (CJ c (ρ++(EL.of es).den c.ρ) θ pat leaf) ps vs
 |0,ps,ss,vs,h,_=>by simp [GG]at h
 |m+1, [], [],vs,h,hs=>by cases hs;exact .nil
 |m+1,p::ps, [],vs,h,hs=>by simp [GG]at h
 |m+1, [],s::ss,vs,h,hs=>by simp [GG]at h
 |m+1,p::ps,s::ss, [],h,hs=>by have:=hs.len;simp at this
 |m+1,p::ps,s::ss,v::vs,h,hs=>by simp only [GG,Ad]at h;obtain⟨h1,h2⟩:=hs.bz;exact(sS Ap hp hn B0 m h.1 h1).cons (Sz Ap hp hn B0 m h.2 h2)
end
theorem zu3 (Ap:Rel c n sl (AD leaf.hp) a) (hp:ρ<+:c.ρ) (hn:ρ.length=nv) (B0: ∀t e,(t,e)∈pat.hp→HC nv es θ pat leaf t e=true) (hθ:LS θ=true) {t:Nat} {e:Ai} (ht:AD pat.hp t=some e):CK (CJ c (ρ++(EL.of es).den c.ρ) θ pat leaf) t e:=by
 have h:=B0 t e (HZ ht);have gB:Gy pat.hp t=false→(CJ c (ρ++(EL.of es).den c.ρ) θ pat leaf).G t=⟨[], []⟩:=by intro h0;simp only [CJ];rw [if_neg (by rw [h0];simp)]
 have gC: ∀t',Gy pat.hp t=true→θ.lookup t=some (some t')→(CJ c (ρ++(EL.of es).den c.ρ) θ pat leaf).G t=KZ (AD pat.hp t) (AD leaf.hp t') (c.G t'):=by intro t' h0 hl;simp only [CJ];rw [if_pos h0,hl]
 have Qg: ∀t',Gy pat.hp t=true→θ.lookup t=some (some t')→(∀q1 q2 q3 q4 q5 q6,AD leaf.hp t'=some (.deep q1 q2 q3 q4 q5 q6)→ ∀p1 p2 p3 p4 p5,e≠ .row p1 p2 p3 p4 p5)→(CJ c (ρ++(EL.of es).den c.ρ) θ pat leaf).G t=c.G t':=by
  intro t' h0 hl Dp;rw [gC t' h0 hl,ht];unfold KZ;split
  ·rename_i h1 h2;simp only [Af]at h1;exact absurd h1 (Dp _ _ _ _ _ _ h2 _ _ _ _ _)
  ·rfl
 have JQ: ∀t' g,θ.lookup t=some (some t')→BI leaf.hp t'=some g→ ∀g',(CJ c (ρ++(EL.of es).den c.ρ) θ pat leaf).H t g'=c.H t' g:=by intro t' g hl hg g';simp only [CJ,hl,hg,Option.getD_some]
 have DZ: ∀g,BI pat.hp t=some g→ ∀g',(CJ c (ρ++(EL.of es).den c.ρ) θ pat leaf).K t g'→g'≤g:=by intro g hg g' hk;have Bz:BI pat.hp t=some g':=hk;rw [hg]at Bz;cases Bz;exact Nat.le_refl _
 cases e with
 |box ty g cs=>
  simp only [HC]at h;split at h
  ·rename_i t' hl;split at h
   ·rename_i ty' g' ds CG;simp only [Ad,beq_iff_eq]at h;obtain⟨⟨rfl,rfl⟩,h⟩:=h;obtain⟨b,C,h1,h2,h3,h4,h5,h6,h7⟩:=Ap.ents t' _ (by rw [CG];rfl);have hg:=Qg t' (by simp [Gy,ht]) hl (by intros;simp);exact⟨b,C,by show BI pat.hp t=some 0;simp [BI,ht],by rw [JQ t' 0 hl (by simp [BI,CG])];exact h2,by rw [hg];exact h3,by rw [hg];exact h4,h5,h6,Sz Ap hp hn B0 _ h h7⟩
   ·cases h
  ·cases h
 |row et z g x d=>
  simp only [HC]at h;split at h
  ·rename_i t' hl;split at h
   ·rename_i et' z' g' y d' CG;simp only [Ad,beq_iff_eq,Bool.or_eq_true,Bool.not_eq_true']at h;obtain⟨⟨⟨rfl,rfl⟩,hx⟩,hd⟩:=h;obtain⟨h1,h2,N,h3,h4,h5,h6⟩:=Ap.ents t' _ (by rw [CG];rfl);have hg:=Qg t' (by simp [Gy,ht]) hl (fun _ _ _ _ _ _ hh=>by rw [CG]at hh;cases hh);have CE:=KE hp hn hx;have hK:BI pat.hp t=some g:=by simp [BI,ht]
    refine⟨hK,DZ g hK,N, ?_,fun b hb=>PN (h4 b hb),fun Dl=> ?_,fun hdf=> ?_⟩
    ·rw [JQ t' g' hl (by simp [BI,CG]),hg];show Cw c.w et z _ (x.den (ρ++(EL.of es).den c.ρ)) _ N;rw [CE];exact h3
    ·rw [hg];exact h5 (by rcases hd with hd|hd;rw [Dl]at hd;cases hd;exact hd)
    ·rw [hg];cases d' with
     |false=>exact h6 rfl
     |true=>obtain⟨u1,u2⟩:=h5 rfl;rw [u2];exact u1
   ·rename_i et' z' l' g' ep' y CG;simp only [Ad,beq_iff_eq,Bool.not_eq_true']at h;obtain⟨⟨⟨rfl,rfl⟩,hx⟩,rfl⟩:=h;obtain⟨h1,h2,_,h3,h4⟩:=Ap.ents t' _ (by rw [CG];rfl);have hg:(CJ c (ρ++(EL.of es).den c.ρ) θ pat leaf).G t=⟨(c.G t').top.take 1, []⟩:=by
     rw [gC t' (by simp [Gy,ht]) hl,ht,CG];rfl
    have CE:=KE hp hn hx;have hK:BI pat.hp t=some g:=by simp [BI,ht]
    obtain⟨f,k1,k2⟩:=h3.ownRow;have BW:((c.G t').top.take 1++(c.G t').top.drop 1).Nodup:=by rw [List.take_append_drop];have:=Ap.gw.nodup t';simp only [GI.own,h4,List.append_nil]at this;exact this
    refine⟨hK,DZ g hK,f, ?_,fun b hb=> ?_,fun Dl=>(by cases Dl),fun _=>by rw [hg]⟩
    ·rw [JQ t' g' hl (by simp [BI,CG]),hg];show Cw c.w et z _ (x.den (ρ++(EL.of es).den c.ρ)) _ f;rw [CE];exact k1
    ·have Cm:b∈(c.G t').top:=List.mem_of_mem_drop (k2 b hb);refine⟨fun⟨u,hu⟩=> ?_, .inr (Ap.gw.allow t' b (by simp [GI.own,Cm]))⟩;obtain⟨_,v',Bw,_,Qp⟩:=LX (b:=b) (by simp only [GI.own,Ah];exact .inl hu);have hv:v'=t':=Classical.byContradiction fun Bt=>Ap.gw.cj v' t' Bt b Qp (by simp [GI.own,Cm]);subst hv;have:=VA hθ (LA Bw) (LA hl);subst this;rw [hg]at hu;exact(List.nodup_append.1 BW).2.2 b hu b (k2 b hb) rfl
   ·cases h
  ·rename_i hl;simp only [Ad,decide_eq_true_eq]at h;have CE:=KE hp hn h.1;have hK:BI pat.hp t=some g:=by simp [BI,ht]
   have hg:(CJ c (ρ++(EL.of es).den c.ρ) θ pat leaf).G t=⟨[], []⟩:=by simp [CJ,hl]
   refine⟨hK,DZ g hK, [],⟨[], ?_,by simp,h.2, .inl ⟨rfl,⟨none, ?_⟩,by rw [hg],rfl⟩⟩,by simp,fun _=>⟨rfl,by rw [hg]⟩,fun _=>by rw [hg]⟩
   ·show x.den (ρ++(EL.of es).den c.ρ)=_;rw [CE];rfl
   ·simp [CJ,hl]
  ·cases h
 |bm g x=>
  have hg:=gB (by simp [Gy,ht]);have hK:BI pat.hp t=some g:=by simp [BI,ht]
  simp only [HC]at h;split at h
  ·rename_i t' hl;have Hp: ∀b,b∈(c.G t').top→(CJ c (ρ++(EL.of es).den c.ρ) θ pat leaf).ok b:=by
    intro b hb;refine⟨fun⟨u,hu⟩=> ?_, .inr (Ap.gw.allow t' b (by simp [GI.own,hb]))⟩;obtain⟨ho,v',Bw,Cj,Qp⟩:=LX (b:=b) (by simp only [GI.own,Ah];exact .inl hu);have hv:v'=t':=Classical.byContradiction fun Bt=>Ap.gw.cj v' t' Bt b Qp (by simp [GI.own,hb]);subst hv;have:=VA hθ (LA Bw) (LA hl);subst this;simp [Gy,ht]at ho
   split at h
   ·rename_i et' z' g' y d' CG;obtain⟨h1,h2,N,h3,h4,h5,h6⟩:=Ap.ents t' _ (by rw [CG];rfl);obtain⟨f,r1,r2,_⟩:=h3.rd;refine⟨hK,⟨f, ?_,fun b hb=>(r2 b hb).elim (Hp b) fun hb=>PN (h4 b hb)⟩,by rw [hg],by rw [hg]⟩;rw [JQ t' g' hl (by simp [BI,CG])];show Rd c.w _ [x.den (ρ++(EL.of es).den c.ρ)] f;rw [KE hp hn h];exact r1
   ·rename_i g' y CG;obtain⟨h1,⟨f,r1,r2⟩,_,_⟩:=Ap.ents t' _ (by rw [CG];rfl);refine⟨hK,⟨f, ?_,fun b hb=>PN (r2 b hb)⟩,by rw [hg],by rw [hg]⟩;rw [JQ t' g' hl (by simp [BI,CG])];show Rd c.w _ [x.den (ρ++(EL.of es).den c.ρ)] f;rw [KE hp hn h];exact r1
   ·rename_i et' z' l' g' ep' y CG;obtain⟨h1,h2,_,h3,h4⟩:=Ap.ents t' _ (by rw [CG];rfl);obtain⟨f,r1,r2⟩:=h3.rd;refine⟨hK,⟨f, ?_,fun b hb=>Hp b (r2 b hb)⟩,by rw [hg],by rw [hg]⟩;rw [JQ t' g' hl (by simp [BI,CG])];show Rd c.w _ [x.den (ρ++(EL.of es).den c.ρ)] f;rw [KE hp hn h];exact r1
   ·cases h
  ·cases h
 |hol=>simp [HC]at h
 |deep et z dl g ep x=>
  have hE:(CJ c (ρ++(EL.of es).den c.ρ) θ pat leaf).E t=ep:=by simp [CJ,ht]
  have hK:BI pat.hp t=some g:=by simp [BI,ht]
  simp only [HC]at h;split at h
  ·rename_i t' hl;split at h
   ·rename_i et' z' dl' g' ep' y CG;simp only [Ad,beq_iff_eq]at h;obtain⟨⟨⟨rfl,rfl⟩,NX⟩,hx⟩:=h;have NX:=AO.gy NX;subst NX;obtain⟨h1,h2,_,h3,h4⟩:=Ap.ents t' _ (by rw [CG];rfl);have hg:=Qg t' (by simp [Gy,ht]) hl (by intros;simp);refine⟨hK,DZ g hK,hE, ?_,by rw [hg];exact h4⟩;rw [JQ t' g' hl (by simp [BI,CG]),hg];show DC c.w _ _ [x.den (ρ++(EL.of es).den c.ρ)] _;rw [KE hp hn hx];exact h3
   ·cases h
  ·rename_i hl;have hg:(CJ c (ρ++(EL.of es).den c.ρ) θ pat leaf).G t=⟨[], []⟩:=by simp [CJ,hl]
   simp only [Ad,decide_eq_true_eq,beq_iff_eq]at h;refine⟨hK,DZ g hK,hE, ?_,by rw [hg]⟩;have e1:(CJ c (ρ++(EL.of es).den c.ρ) θ pat leaf).H t g= .slice none 0 0:=by simp [CJ,hl]
   rw [e1,hg];show DC c.w _ _ [x.den (ρ++(EL.of es).den c.ρ)] _;rw [KE hp hn h.1.1];exact .void h.1.2 (by rw [AO.aq];exact h.2) .nil
  ·cases h
 |gd gs e=>simp [HC]at h
 |dead=>have hg:=gB (by simp [Gy,ht]);exact⟨by rw [hg],by rw [hg]⟩
end
theorem pS {nv:Nat} {es:List E} {θ:List (Nat × Option Nat)} {pat leaf:St}: ∀(m:Nat) {ps ss:List SV},GG nv es θ pat leaf m ps ss=true→ ∀{i:Nat} {p:SV},ps[i]?=some p→ ∃s k,ss[i]?=some s∧Rf nv es θ pat leaf k p s=true
 |0,ps,ss,h,_,_,_=>by simp [GG]at h
 |m+1, [],ss,h,i,p,hp=>by simp at hp
 |m+1,q::ps, [],h,i,p,hp=>by simp [GG]at h
 |m+1,q::ps,s::ss,h,i,p,hp=>by
  simp only [GG,Ad]at h;cases i with
  |zero=>simp at hp;subst hp;exact⟨s,m,rfl,h.1⟩
  |succ i=>simpa using pS m h.2 (by simpa using hp)
theorem zya:Wu:=by
 intro F nv pat τ es ρ ρ' a w hi hn hp hr;obtain⟨c,rfl,rfl,TN,hA,WS,FC,hU,Ap⟩:=hr;unfold JH at hi;simp only at hi;split at hi
 ·rename_i AF;simp only [Af]at hi;generalize Xq:(List.range (pat.nv-nv)).map (fun j=>((NB nv pat τ true pat.hp (NB nv pat τ false pat.hp (L9 nv pat τ 2000 ⟨[], []⟩ pat.sl τ.sl))).as_.lookup (nv+j)).getD (.int .i64 0))=es0 at AF hi;subst hi;generalize (NB nv pat τ true pat.hp (NB nv pat τ false pat.hp (L9 nv pat τ 2000 ⟨[], []⟩ pat.sl τ.sl))).θ=θ at AF;clear Xq;simp only [jD,Ad,beq_iff_eq,AS,decide_eq_true_eq]at AF;obtain⟨⟨⟨⟨⟨⟨h1,hθ⟩,hlen⟩,Cu⟩,C5⟩,vL⟩,QY⟩:=AF;have B0: ∀t e,(t,e)∈pat.hp→HC nv es0 θ pat τ t e=true:=fun t e he=>(C5 _ he).1;have Ax: ∀t e,(t,e)∈pat.hp→t<pat.nx:=fun t e he=>(C5 _ he).2;have QV: ∀t e,AD pat.hp t=some e→ ∀gs e',e≠ .gd gs e':=by
   rintro t e he gs e' rfl;have:=B0 t _ (HZ he);simp [HC]at this
  have AP: ∀t e e',AD pat.hp t=some e→(Ce (ρ++(EL.of es0).den c.ρ) (AD pat.hp t) e'↔e'=e):=by
   intro t e e' he;rw [he];cases e with
   |gd gs e9=>exact absurd rfl (QV t _ he gs e9)
   |_=>simp [Ce,eq_comm]
  refine⟨CJ c (ρ++(EL.of es0).den c.ρ) θ pat τ,rfl,rfl,TN,hA,WS, ?_,fun t ht=>ht,Ap.defers,by rw [hlen];exact Ap.size,⟨Ap.base.os,Ap.base.tape,Ap.base.output,Ap.base.size,fun t v Oc=> ?_,Ap.base.block,Ap.base.pk,Ap.base.lo⟩,fun i=> ?_,fun t e hr=> ?_,fun t Dp=> ?_,⟨fun t=> ?_,fun t u Ll b hb BL=> ?_,fun t b hb=> ?_,fun t b hb=> ?_⟩,fun t g hk=> ?_,fun t e he=>Ax t e (HZ he)⟩
  ·rw [h1,EL.de];simp [hn]
  ·have Mz:L4 t=true:=F.mg t v (by rw [←hA];exact Oc);refine⟨by
    show t<pat.nx;unfold L4 at Mz;simp only [Ad,decide_eq_true_eq]at Mz;omega,fun hk=> ?_⟩
   have Bz:BI pat.hp t=some 0:=hk;obtain⟨e,Ya⟩: ∃e,AD pat.hp t=some e:=by
    unfold BI at Bz;cases hh:AD pat.hp t with
    |none=>rw [hh]at Bz;cases Bz
    |some e=>exact⟨e,rfl⟩
   have Dv:=QY _ (HZ Ya);simp only [Mz,Bool.not_true,Bool.false_or]at Dv;have main:θ.lookup t=some (some t)→BI τ.hp t=some 0→c.K t 0→(CJ c (ρ++(EL.of es0).den c.ρ) θ pat τ).H t 0=v:=by intro hl hg hK;simp only [CJ,hl,hg,Option.getD_some];exact(Ap.base.pins t v Oc).2 hK
   unfold Lp at Dv;simp only [BI,Ya]at Bz;rw [Ya]at Dv;cases e with
   |box ty g cs=>
    simp only [Ad,beq_iff_eq]at Dv;obtain⟨hl,hb⟩:=Dv;split at hb
    ·rename_i ty' g' cs' CG;obtain⟨b,C,q1,_⟩:=Ap.ents t _ (by rw [CG];rfl);exact main hl (by simp [BI,CG]) q1
    ·cases hb
   |row ety sz g x d=>
    simp only [Af]at Bz;subst Bz;simp only [bne_self_eq_false,Bool.false_or,Ad,beq_iff_eq]at Dv;obtain⟨hl,hb⟩:=Dv;split at hb
    ·rename_i ety' sz' g' x' d' CG;rw [beq_iff_eq]at hb;subst hb;obtain⟨q1,_⟩:=Ap.ents t _ (by rw [CG];rfl);exact main hl (by simp [BI,CG]) q1
    ·cases hb
   |bm g x=>simp only [Af]at Bz;subst Bz;simp at Dv
   |gd=>simp at Bz
   |dead=>simp at Bz
   |hol=>simp at Bz
   |deep ety sz l g ep x=>
    simp only [Af]at Bz;subst Bz;simp only [bne_self_eq_false,Bool.false_or,Ad,beq_iff_eq]at Dv;obtain⟨hl,hb⟩:=Dv;split at hb
    ·rename_i CG;rw [beq_iff_eq]at hb;subst hb;obtain⟨q1,_⟩:=Ap.ents t _ (by rw [CG];rfl);exact main hl (by simp [BI,CG]) q1
    ·cases hb
  ·unfold Bn;cases vX:pat.sl[i]? with
   |none=>exact .undef .nil
   |some p=>obtain⟨s,k,hs,hk⟩:=pS _ Cu vX;have:=Ap.cx i;unfold Bn at this;rw [hs]at this;exact sS Ap hp hn B0 k hk this
  ·cases he:AD pat.hp t with
   |none=>rw [he]at hr;exact hr.elim
   |some e9=>have Mp:=(AP t e9 e he).1 hr;subst Mp;exact zu3 Ap hp hn B0 hθ he
  ·have:Gy pat.hp t=false:=by
    cases he:AD pat.hp t with
    |none=>simp [Gy,he]
    |some e9=>exact absurd ((AP t e9 e9 he).2 rfl) (Dp e9)
   simp [CJ,this]
  ·simp only [CJ];split
   ·split
    ·exact zvu (Ap.gw.nodup _)
    ·simp [GI.own]
   ·simp [GI.own]
  ·obtain⟨_,t',hl,_,Cm⟩:=LX hb;obtain⟨_,u',Bw,_,Hn⟩:=LX BL;by_cases hh:t'=u'
   ·subst hh;exact Ll (VA hθ (LA hl) (LA Bw))
   ·exact Ap.gw.cj t' u' hh b Cm Hn
  ·obtain⟨_,t',hl,_,Cm⟩:=LX hb;exact Ap.gw.allow t' b Cm
  ·obtain⟨_,t',hl,_,Cm⟩:=LX hb;exact Ap.gw.inb t' b Cm
  ·have Bz:BI pat.hp t=some g:=hk;unfold BI at Bz;show t<pat.nx;split at Bz
   ·rename_i hh;exact Ax t _ (HZ hh)
   ·rename_i hh;exact Ax t _ (HZ hh)
   ·rename_i hh;exact Ax t _ (HZ hh)
   ·rename_i hh;exact Ax t _ (HZ hh)
   ·cases Bz
 ·cases hi
theorem R3 (l:List DT): ∀(n k o m:Nat),k<n→o+m≤l.length→((CL n l).drop (k*l.length+o)).take m=(l.drop o).take m
 |0,k,_,_,h,_=>by omega
 |n+1,0,o,m,_,hm=>by rw [Nj,Nat.zero_mul,Nat.zero_add,List.drop_append_of_le_length (by omega),List.take_append_of_le_length (by simp;omega)]
 |n+1,k+1,o,m,h,hm=>by have ih:=R3 l n k o m (by omega) hm;rw [←ih,Nj,show(k+1)*l.length+o=l.length+(k*l.length+o)from by rw [Nat.add_mul];omega,List.drop_append,List.drop_eq_nil_of_le (by omega)];simp
theorem DC.elem {w:World} {ys:List AV} {l:List DT} {cells:List Value} {N:List Nat} {z:Nat} (h:DC w (CL ys.length l) cells (AE ys) N) (hl:l.length=z) (h7: ∀y∈ys,y.cells.length=z) {k o m:Nat} (hk:k<ys.length) (hm:o+m≤z):
  ∃M,(∀b∈M,b∈N)∧DC w ((l.drop o).take m) ((cells.drop (k*z+o)).take m) ((((AV.sl ys).nth k).cells.drop o).take m) M:=by
 obtain⟨N1,N2,N3,rfl,_,h2,_⟩:=h.split (k*z+o) m;subst hl;rw [R3 l _ _ _ _ hk hm,R8 ys h7 k _ (LN hk) o m hm]at h2;exact⟨N2,fun b hb=>by simp [hb],h2⟩
theorem Rd.kx {w:World} {vs:List Value} {x:AV} {f:List Nat} {o m:Nat} {g:Bool} (h:Rd w vs ((x.cells.drop o).take m) f) (h9: ∀u∈vs,u.oneCell'=true) (hm:o+m≤x.cells.length) (h1:g=false→m=1):
  Rd w [if g then .agg vs.toArray else vs.headD undef] [x.fld o m g] f:=by
 cases g with
 |true=>have:=Rd.agg h9 h .nil;simpa [AV.fld]using this
 |false=>
  have:=h1 rfl;subst this;have e2:(x.cells.drop o).take 1= [x.cells[o]'(by omega)]:=by rw [List.drop_eq_getElem_cons (by omega),List.take_succ_cons,List.take_zero]
  rw [e2]at h;have hl:=h.len
  match vs,hl with
  | [v],_=>simpa [AV.fld,show o<x.cells.length by omega]using h
section
variable {P:Program} {c:Cx} {n nx:Nat} {sl sl0:Nat→SV} {hp hp0:Nat→Option Ai} {a:Act} {o:Oper} {gs:Gd} {e:AY} {sg:BC} {nv:Nat}
theorem zrj {w:World} {b p:Nat} {t:TypeId} {C:Array Value} {ty:TypeId} {fz:Nat × Nat} (hb:w.heap[b]?=some (.cells C ty fz)) (ht:CU P t=true) (hg:Ao P t=true∨P.cellsOf t=1) (hp:p+P.cellsOf t≤C.size):
  (Instr.loadAt t (.pointer (some ⟨b,p,none⟩))).run P w= .ok (if Ao P t then .agg ((C.toList.drop p).take (P.cellsOf t)).toArray else((C.toList.drop p).take (P.cellsOf t)).headD undef) w:=by
 have La:((C.toList.drop p).take (P.cellsOf t)).length=P.cellsOf t:=by rw [List.length_take,List.length_drop,Array.length_toList];omega
 refine Pl ht _ (fun _=>La) (fun h=> ?_) (fun j u hu=> ?_)
 ·rw [La];rcases hg with h'|h';rw [h]at h';cases h';exact h'
 ·rw [Ec hb];rw [List.getElem?_take]at hu;split at hu
  ·simpa using hu
  ·cases hu
theorem zwj {b g e z ep:Nat} {l:List DT} {c0 i:E} {t:TypeId} {k':Nat} {v:Value} (hE:CK c b (.deep e z l g ep c0)) (hr:SR c [.cq b g i z k'] [v]) (Bc:CU P t=true) (hle:k'+P.cellsOf t≤z) (AA:Ao P t=true∨P.cellsOf t=1):
  ∃u,(Instr.loadAt t v).run P c.w= .ok u c.w∧(((l.drop k').take (P.cellsOf t)).all DT.bp=true→Rd c.w [u] [(E.fld (.idx c0 i) k' (P.cellsOf t) (Ao P t)).den c.ρ] [])∧Ou c b u ((E.fld (.idx c0 i) k' (P.cellsOf t) (Ao P t)).den c.ρ)∧(Ao P t=false→HE c b g (some (i,z,k')) u):=by
 obtain⟨q1,q2,q3,q4,q5⟩:=hE;cases hr with
 |cq h1 h2 h3 h4 h5 _=>
  rename_i q len cap kk k h6;obtain⟨d1,d2,⟨a9,d3,_⟩|⟨g9,cap9,C,ys,N1,d3,d4,d5,d6,d7,d8,d9,d10,d11,d12⟩⟩:=q4.inv
  ·rw [h2]at d3;cases d3;omega
  ·rw [h2]at d3;cases d3;rw [AO.aq]at d2 d12;have hk:k.toNat<ys.length:=by omega
   have hmul:(k.toNat+1)*z≤ys.length*z:=Nat.mul_le_mul_right _ (by omega);have Fy:ys.length*z≤cap*z:=Nat.mul_le_mul_right _ d7;rw [Nat.add_mul]at hmul;have AQ:=zrj (P:=P) (t:=t) (p:=k.toNat*z+k') d6 Bc AA (by omega);obtain⟨M,m1,m2⟩:=d12.elem d2 d10 hk hle;have Fq:((C.toList.take (ys.length*z)).drop (k.toNat*z+k')).take (P.cellsOf t)=(C.toList.drop (k.toNat*z+k')).take (P.cellsOf t):=by rw [List.drop_take,List.take_take,Nat.min_eq_left (by omega)]
   rw [Fq]at m2;have CB: ∀u∈(C.toList.drop (k.toNat*z+k')).take (P.cellsOf t),u.oneCell'=true:=fun u hu=>d11 u (by rw [←Fq]at hu;exact List.mem_of_mem_drop (List.mem_of_mem_take hu))
   have iE:((AV.sl ys).nth k.toNat).cells.length=z:=d10 _ (List.mem_of_getElem? (LN hk));have BS:(E.fld (.idx c0 i) k' (P.cellsOf t) (Ao P t)).den c.ρ=((AV.sl ys).nth k.toNat).fld k' (P.cellsOf t) (Ao P t):=by simp only [E.den,d4,h3,AV.idx]
   have Ti:Ao P t=false→P.cellsOf t=1:=fun h=>by rcases AA with h'|h';rw [h]at h';cases h';exact h'
   refine⟨_,AQ,fun hf=> ?_, ?_,fun hf=> ?_⟩
   ·rw [BS];exact(m2.jj hf).kx CB (by omega) Ti
   ·obtain⟨f,r1,r2⟩:=m2.rd;rw [BS];exact⟨f,r1.kx CB (by omega) Ti,fun b hb=> .inr (by rw [d5];simp [m1 b (r2 b hb)])⟩
   ·refine⟨_,_,_,C,_,_,kk,k,h2,by rw [d5];simp,d6,h3,h4,h5, ?_⟩;have BE:=Ti hf;have Ax:k.toNat*z+k'<C.size:=by omega
    have e1:(C.toList.drop (k.toNat*z+k')).take 1= [C[k.toNat*z+k']]:=by rw [List.drop_eq_getElem_cons (by simpa using Ax),List.take_succ_cons,List.take_zero];simp
    rw [hf,BE,e1];simp [Ax]
end
section
variable {P:Program} {c:Cx} {n nx:Nat} {sl sl0:Nat→SV} {hp hp0:Nat→Option Ai} {a:Act} {o:Oper} {gs:Gd} {e:AY} {sg:BC} {nv:Nat}
theorem Bl.cr: ∀l:Bl,Bl.of l.toList=l
 | .nil=>rfl
 | .cons s l=>by simp [Bl.toList,Bl.of,Bl.cr l]
theorem zw7 (h:Bf P c n nx sl hp a sl0 hp0 o gs) {t:TypeId} {x:Operand} (ho:o.op= .load t x) (he:Bq P sg sl0 hp0 nv nx gs o=some e) (hc: ∀q∈e.bw,Cn.den c.ρ q):Az P o c n nx sl hp gs a e:=by
 have hm:x∈o.op.operands:=by simp [ho,Op.operands]
 simp only [Bq,ho,Au,Aq]at he;obtain⟨s,hs,e1,he,rfl⟩:=he;have hr:=(h.cu hs hm).asPtr (fun q hq=>hc q (by simp [hq]));have K1: ∀q∈e1.bw,Cn.den c.ρ q:=fun q hq=>hc q (by simp [hq]);have ex:(execOp a.eval o).run P c.w=((Instr.loadAt t (a.eval x)).run P c.w).andThen fun v w=> .ok (.value v) w:=by simp [execOp,ho]
 unfold sB at he;split at he
 ·cases he
 rename_i Bc;have Bc:CU P t=true:=by simpa using Bc
 generalize A4:(asPtr s).1=s1 at he hr;split at he
 ·rename_i b o';split at he
  ·rename_i ty g cs hl;obtain⟨s2,AU,rfl⟩:=Aq.1 he;generalize ha:a.eval x=v at hr ex;cases hr with
   |cd h1 h2 _=>
    rename_i q;obtain⟨q',C,_,e2,e3,e4,e5,e5',e6⟩:=h.eh b _ (CD hl h.gs);rw [h2]at e2;cases e2;unfold NF at AU;have hlen:=e6.len;split at AU
    ·rename_i AA;split at AU
     ·rename_i hle;simp at AU;subst AU;obtain⟨r1,r2⟩:=e6.split o';obtain⟨r3,r4⟩:=r2.split (P.cellsOf t);have:=SR.agg (cs:=Bl.of ((cs.drop o').take (P.cellsOf t))) (fun u hu=>e5' u (List.mem_of_mem_drop (List.mem_of_mem_take hu))) (by rw [Bl.aq];exact r3) .nil;refine Az.pure h (v:= .agg ((C.toList.drop o').take (P.cellsOf t)).toArray) ?_ this rfl;rw [ex,Pl Bc ((C.toList.drop o').take (P.cellsOf t)) (fun _=>by simp at hlen ⊢;omega) (fun h=>by rw [AA]at h;cases h) (fun j u hu=>by
       rw [Ec e5];rw [List.getElem?_take]at hu;split at hu
       ·simpa using hu
       ·cases hu)]
      simp [AA]
     ·cases AU
    ·rename_i AA;have AA:Ao P t=false:=by simpa using AA
     obtain⟨u,hu,r⟩:=e6.get AU;refine Az.pure h (v:=u) ?_ r rfl;rw [ex,Pl Bc [u] (fun h=>by rw [AA]at h;cases h) (fun _=>rfl) (fun j z hz=>by
      cases j with
      |zero=>simp at hz;subst hz;rw [Ec e5];simpa using hu
      |succ j=>simp at hz)]
     simp [AA]
  ·cases he
 ·rename_i b g i sz o';split at he
  ·rename_i e0 sz' g' c0 d hl;split at he
   ·rename_i hh;obtain⟨rfl,rfl,hle,AA⟩:=hh;simp at he;subst he;generalize ha:a.eval x=v at hr ex;cases hr with
    |cq h1 h2 h3 h4 h5 _=>
     rename_i q len cap kk k h6;obtain⟨_,_,N,r1,r2,_,_⟩:=h.eh b _ (CD hl h.gs);obtain⟨f,r3,_,r4⟩:=r1.rd;obtain⟨xs,Ck,Ay,h0,A6⟩:=r1;rw [h2]at r3 A6;have hk:k.toNat<len:=by omega
     have D9:xs.length=len:=by
      rcases A6 with⟨_,⟨_,hv⟩,_⟩|⟨_,_,_,hv,_⟩
      ·cases hv;omega
      ·simp at hv;exact hv.2.1.symm
     have BJ:((c0.den c.ρ).nth k.toNat).cells.length=sz:=by rw [Ck];exact Ay _ (List.mem_of_getElem? (LN (xs:=xs) (by omega)))
     obtain⟨v',q',g1,g2,g3⟩:=cK r3 hk BJ Bc hle AA;refine Az.pure h (v:=v') ?_ (.e (f:=q') ?_ ?_ .nil) rfl
     ·rw [ex];rw [Nat.zero_add]at g1;simp [g1]
     ·simpa [E.den,AV.idx,h3]using g3
     ·exact fun z hz=>r2 z (r4 z (g2 z hz))
   ·cases he
  ·rename_i e0 sz' l g' ep c0 hl;split at he
   ·rename_i hh;obtain⟨rfl,rfl,hle,AA⟩:=hh;generalize ha:a.eval x=v at hr ex;have hE:=h.eh b _ (CD hl h.gs);obtain⟨u,k1,k2,k3,k4⟩:=zwj (P:=P) (t:=t) hE hr Bc hle AA;have AQ:(execOp a.eval o).run P c.w= .ok (.value u) c.w:=by rw [ex,k1];rfl
    split at he
    ·rename_i hf;simp only [Af]at he;subst he;exact Az.pure h AQ (.e (k2 hf) (by simp) .nil) rfl
    ·simp only [Af]at he;subst he;cases hr with
     |cq h1 _ _ _ _ _=>
      refine Az.pure h AQ (.via h1 (Nat.le_of_eq hE.2.2.1.symm) (fun _=>⟨k3, ?_⟩) .nil) rfl;split
      ·exact trivial
      ·rename_i Gc;exact k4 (by simpa using Gc)
   ·cases he
  ·cases he
 ·rename_i b g m pth y i sz o';split at he
  ·rename_i hh;obtain⟨hle,AA,hv⟩:=hh;have hE:=PF h.eh h.gs hv;generalize ha:a.eval x=v at hr ex;cases hr with
   |vptr h1 h2 h3 _=>
    obtain⟨q,off,len,cap,kk,k,⟨f,p1,p2⟩,_,p4,p5,p6,p7,rfl⟩:=h3 hE;obtain⟨v',q',g1,g2,g3⟩:=cK (fo:=o') p1 (by omega) p7 Bc hle AA;have AQ:(execOp a.eval o).run P c.w= .ok (.value v') c.w:=by rw [ex];simp [g1]
    have BS:Rd c.w [v'] [(E.fld (.idx y i) o' (P.cellsOf t) (Ao P t)).den c.ρ] q':=by simpa [E.den,AV.idx,p4]using g3
    split at he
    ·simp only [Af]at he;subst he;obtain⟨f1,f2,f3,f4⟩:=BE K1;have hq:q'= []:=by
      cases hg:Ao P t with
      |true=>obtain⟨cs,Bd⟩:=f3 hg;obtain⟨as_,rfl,_,r⟩:=IZ BS Bd;exact G8 r (by rw [Bd]at f2;exact f2)
      |false=>exact G8 BS (by simpa using f4 hg)
     subst hq;exact Az.pure h AQ (.e BS (by simp) .nil) rfl
    ·simp only [Af]at he;subst he;exact Az.pure h AQ (.via h1 h2 (fun _=>⟨⟨q',BS,fun z hz=>p2 z (List.mem_of_mem_tail (g2 z hz))⟩,trivial⟩) .nil) rfl
  ·cases he
 ·rename_i y i sz o';split at he
  ·rename_i hh;obtain⟨hle,AA⟩:=hh;simp at he;subst he;generalize ha:a.eval x=v at hr ex;cases hr with
   |df h1 h2 h3 h4 h5 h6 _=>rename_i q off len cap f kk k;obtain⟨v',q',g1,g2,g3⟩:=cK (fo:=o') h1 (by omega) h6 Bc hle AA;refine Az.pure h (v:=v') ?_ (.e (f:=q') (by simpa [E.den,AV.idx,h3]using g3) (fun z hz=>h2 z (List.mem_of_mem_tail (g2 z hz))) .nil) rfl;rw [ex];simp [g1]
  ·cases he
 ·rename_i y o';split at he
  ·rename_i AA;simp at he;subst he;generalize ha:a.eval x=v at hr ex;cases hr with
   |dd h1 h2 _=>
    rename_i q f;obtain⟨z,hz,hle⟩:=BE K1;rw [hz]at h1;cases h1 with
    |ref hb BL GV C6=>
     rename_i C ty fz f1 f2;obtain⟨q',g1,g2⟩:=GV.iv BL o' (P.cellsOf t) (Ao P t) hle (fun h=>by rcases AA with h'|h';rw [h]at h';cases h';exact h');have La:((C.toList.drop o').take (P.cellsOf t)).length=P.cellsOf t:=by have:=GV.len;rw [List.length_take,List.length_drop];omega
     refine Az.pure h ?_ (.e (f:=q') (by simpa [E.den,hz,AV.deref]using g2) (fun z hz=>h2 z (by simp [g1 z hz])) .nil) rfl;rw [ex,Pl Bc ((C.toList.drop o').take (P.cellsOf t)) (fun _=>La) (fun h=>by rw [La];rcases AA with h'|h';rw [h]at h';cases h';exact h') (fun j u hu=>by
       rw [Ec hb];rw [List.getElem?_take]at hu;split at hu
       ·simpa using hu
       ·cases hu)]
     simp
  ·cases he
 ·cases he
end
theorem Ns (k:IntKind) (n:Int):Eg k n↔k.min≤n∧n≤k.max:=by unfold Eg;cases k<;>simp only [IntKind.wrap,IntKind.bits,IntKind.signed,IntKind.min,IntKind.max]<;>simp<;>(try split)<;>omega
theorem dK (k:IntKind) (n:Int):Eg k (k.wrap n):=by rw [Ns];cases k<;>simp only [IntKind.wrap,IntKind.bits,IntKind.signed,IntKind.min,IntKind.max]<;>simp<;>(try split)<;>omega
theorem zyp {k:IntKind} {x y:Int} (h:Eg k x):Eg k (x.tmod y):=by
 rw [Ns]at h ⊢;have h1:(x.tmod y).natAbs≤x.natAbs:=by rw [Int.natAbs_tmod];exact Nat.mod_le _ _
 have h2:0≤x→0≤x.tmod y:=Int.tmod_nonneg y;have XY:k.min≤0:=by cases k<;>decide
 have DL:0≤k.max:=by cases k<;>decide
 constructor
 ·by_cases h0:0≤x
  ·have:=h2 h0;omega
  ·omega
 ·by_cases h0:0≤x
  ·omega
  ·have h3:x.tmod y≤0:=by
    have:=Int.tmod_nonneg (a:= -x) y (by omega);rw [Int.neg_tmod]at this;omega
   omega
theorem zx1 {k:IntKind} {x:Int} (m:Nat) (h:Eg k x):Eg k (x.fdiv (2^m)):=by
 rw [Ns]at h ⊢;have hp:(0:Int)<2^m:=Int.pow_pos (by decide);rw [Int.fdiv_eq_ediv_of_nonneg _ (Int.le_of_lt hp)];have XY:k.min≤0:=by cases k<;>decide
 have DL:0≤k.max:=by cases k<;>decide
 have h1:(1:Int)≤2^m:=hp;constructor
 ·rcases Int.le_total 0 x with h0|h0
  ·have:=Int.ediv_nonneg h0 (Int.le_of_lt hp);omega
  ·have:x≤x/2^m:=by
    rw [Int.le_ediv_iff_mul_le hp];have:=Int.mul_le_mul_of_nonpos_left h0 h1;omega
   omega
 ·rcases Int.le_total 0 x with h0|h0
  ·have:=Int.ediv_le_self (2^m) h0;omega
  ·have h2:x/2^m≤0:=by
    have:=Int.ediv_le_ediv hp h0;simpa using this
   omega
section
variable {P:Program} {c:Cx} {n nx:Nat} {sl sl0:Nat→SV} {hp hp0:Nat→Option Ai} {a:Act} {o:Oper} {gs:Gd} {e:AY} {sg:BC} {nv:Nat}
def AV.val:AV→Value
 | .int k n=> .int k n
 | .bool b=> .bool b
 | .str s=> .string ⟨s.toArray⟩
 |_=>Go.undef
theorem zuP {op:BinOp} {k k':IntKind} {x y:Int} (hk:k=k'∨op= .shl∨op= .shr) (hz:op= .quo∨op= .rem→y≠0) (hs:op= .shl∨op= .shr→0≤y) (t:TypeId) (p q:Operand) (w:World):
  (do eqGuard op t p q (.int k x) (.int k' y);binOp op t (.int k x) (.int k' y):Sem Value).run P w= .ok (B8 op k x y).val w:=by
 have hg:=eqGuard_at_int op t p q (.int k' y) k x;cases op<;>simp only [reduceCtorEq,or_false,or_true,or_self]at hk hz hs<;>simp only [hg]
 all_goals first
  |(subst hk;simp [binOp,Op.intArith,Op.intCmp,Op.intBits,B8,AV.val];done)
  |(subst hk;have:=hz trivial;simp [binOp,Op.intDiv,B8,AV.val,this];done)
  |(have:=hs trivial;simp [binOp,Op.shift,B8,AV.val,Int.not_lt.2 this];done)
theorem zxo {op:BinOp} {k:IntKind} {x y:Int} (hx:Eg k x) (w:World):Rd w [(B8 op k x y).val] [B8 op k x y] []:=by
 cases op<;>simp only [B8,AV.val]<;>first
  |exact .int (dK _ _) .nil
  |exact .bool .nil
  |exact .int (zyp hx) .nil
  |exact .int (zx1 _ hx) .nil
theorem Rd.gv {w:World} {v:Value} {x:AV} {f:List Nat} (h:Rd w [v] [x] f):x≠ .undef:=by rintro rfl;cases h
theorem cT {ρ:List AV}: ∀(x:E) {k:IntKind},B9 x=some k→x.den ρ≠ .undef→ ∃m,x.den ρ= .int k m
 | .int k n,_,h,_=>by simp [B9]at h;subst h;exact⟨n,rfl⟩
 | .len y,_,h,hd=>by
  simp [B9]at h;subst h;simp only [E.den,AV.len]at hd ⊢;split at hd
  ·exact⟨_,rfl⟩
  ·exact absurd rfl hd
 | .slen y,_,h,hd=>by
  simp [B9]at h;subst h;simp only [E.den,AV.slen]at hd ⊢;split at hd
  ·exact⟨_,rfl⟩
  ·exact absurd rfl hd
 | .conv k y,_,h,hd=>by
  simp [B9]at h;subst h;simp only [E.den,AV.conv]at hd ⊢;split at hd
  ·exact⟨_,rfl⟩
  ·exact absurd rfl hd
 | .bin op x y,k,h,hd=>by
  simp only [E.den]at hd ⊢;have hx:x.den ρ≠ .undef:=by rintro hh;rw [hh]at hd;exact hd (by simp [AV.bin])
  cases op<;>simp only [B9,reduceCtorEq]at h
  all_goals
   obtain⟨m,hm⟩:=cT x h hx;rw [hm]at hd ⊢;cases hy:y.den ρ<;>rw [hy]at hd<;>simp only [AV.bin]at hd ⊢ <;>first
    |exact absurd rfl hd
    |(split at hd
      ·rename_i hk;rw [if_pos hk];exact⟨_,rfl⟩
      ·exact absurd rfl hd)
 | .var _,_,h,_=>by simp [B9]at h
 | .bool _,_,h,_=>by simp [B9]at h
 | .str _,_,h,_=>by simp [B9]at h
 | .dq,_,h,_=>by simp [B9]at h
 | .lst _,_,h,_=>by simp [B9]at h
 | .mk _,_,h,_=>by simp [B9]at h
 | .tup _,_,h,_=>by simp [B9]at h
 | .ref _,_,h,_=>by simp [B9]at h
 | .fn ..,_,h,_=>by simp [B9]at h
 | .fld ..,_,h,_=>by simp [B9]at h
 | .proj ..,_,h,_=>by simp [B9]at h
 | .deref _,_,h,_=>by simp [B9]at h
 | .idx ..,_,h,_=>by simp [B9]at h
 | .sidx ..,_,h,_=>by simp [B9]at h
 | .win ..,_,h,_=>by simp [B9]at h
 | .swin ..,_,h,_=>by simp [B9]at h
 | .app ..,_,h,_=>by simp [B9]at h
 | .set ..,_,h,_=>by simp [B9]at h
 | .put ..,_,h,_=>by simp [B9]at h
 | .rep ..,_,h,_=>by simp [B9]at h
 | .sbin ..,_,h,_=>by simp [B9]at h
 | .bbin ..,_,h,_=>by simp [B9]at h
 | .not _,_,h,_=>by simp [B9]at h
 | .neg _,_,h,_=>by simp [B9]at h
 | .ite ..,_,h,_=>by simp [B9]at h
 | .bytes _,_,h,_=>by simp [B9]at h
 | .text _,_,h,_=>by simp [B9]at h
end
section
variable {P:Program} {c:Cx} {n nx:Nat} {sl sl0:Nat→SV} {hp hp0:Nat→Option Ai} {a:Act} {o:Oper} {gs:Gd} {e:AY} {sg:BC} {nv:Nat}
theorem G6 {s:SV} {v:Value} {x:E} (h:SR c [s] [v]) (hx:ET s=some x): ∃f,Rd c.w [v] [x.den c.ρ] f∧ ∀b∈f,c.ok b:=by
 cases s<;>simp only [ET,Af,reduceCtorEq]at hx;subst hx;cases h with
 |e h1 h2 _=>exact⟨_,h1,h2⟩
theorem SR.cw {v:Value} {x:E} (h:Rd c.w [v] [x.den c.ρ] []):SR c [.e x] [v]:= .e h (by simp) .nil
theorem zvh {ρ:List AV} {op:BinOp} {x y:E} {w:World} {v u:Value} {f g:List Nat} (h1:Rd w [v] [x.den ρ] f) (h2:Rd w [u] [y.den ρ] g) (hd:Pz (.bin op x y)=true→(E.bin op x y).den ρ≠ .undef):
  ∃k k' p q,x.den ρ= .int k p∧y.den ρ= .int k' q∧(k=k'∨op= .shl∨op= .shr)∧(E.bin op x y).den ρ=B8 op k p q∧Eg k p∧v= .int k p∧u= .int k' q:=by
 have key:(∃k k' p q,x.den ρ= .int k p∧y.den ρ= .int k' q∧(k=k'∨op= .shl∨op= .shr)):=by
  by_cases hn:Pz (.bin op x y)=true
  ·have:=hd hn;simp only [E.den]at this;cases hx:x.den ρ<;>cases hy:y.den ρ<;>simp only [hx,hy,AV.bin,ne_eq,not_true_eq_false]at this;split at this
   ·exact⟨_,_,_,_,rfl,rfl,by assumption⟩
   ·exact absurd rfl this
  ·have hn:Pz (.bin op x y)=false:=by simpa using hn
   have hk:(B9 x).isSome=true∧(B9 x==B9 y)=true:=by cases op<;>simp [Pz]at hn<;>simpa using hn
   obtain⟨k,HN⟩:=Option.isSome_iff_exists.1 hk.1;have N7:B9 y=some k:=by rw [←beq_iff_eq.1 hk.2,HN]
   obtain⟨p,hp⟩:=cT x HN h1.gv;obtain⟨q,hq⟩:=cT y N7 h2.gv;exact⟨k,k,p,q,hp,hq, .inl rfl⟩
 obtain⟨k,k',p,q,hp,hq,HO⟩:=key;obtain⟨hv,B1⟩:=FY h1 hp;obtain⟨hu,_⟩:=FY h2 hq;exact⟨k,k',p,q,hp,hq,HO,by simp only [E.den,hp,hq,AV.bin,if_pos HO],B1,hv,hu⟩
theorem lJ (a b:ByteArray):(a.toList==b.toList)=(a.data.toList==b.data.toList):=by rw [ByteArray.toList_eq,ByteArray.toList_eq]
theorem zqR {α β γ:Type} (r:Result α) (f:α→World→Result β) (g:β→World→Result γ):(r.andThen f).andThen g=r.andThen fun a w=>(f a w).andThen g:=by cases r<;>rfl
theorem bP (d:Nat) {t:TypeId} (p q:Bool) (h:P.underlying t=some .bool) (w:World):(Op.equalIn (d+1) t (.bool p) (.bool q)).run P w= .ok (p==q) w:=by simp [Op.equalIn,run_underlying h]
theorem zu7 {t:TypeId} (p q:Bool) (h:P.underlying t=some .bool) (w:World):(binOp .eql t (.bool p) (.bool q)).run P w= .ok (.bool (p==q)) w:=by simp only [binOp];simp [Op.equal,Op.maxDepth,bP 9999 p q h]
theorem zu2 {t:TypeId} (p q:Bool) (h:P.underlying t=some .bool) (w:World):(binOp .neq t (.bool p) (.bool q)).run P w= .ok (.bool (!(p==q))) w:=by simp only [binOp];simp [Op.equal,Op.maxDepth,bP 9999 p q h]
theorem Ny {op:BinOp} {t ty:TypeId} {x y:Operand} (ho:o.op= .binOp op t x y ty) (w:World) {v u:Value} (hv:a.eval x=v) (hu:a.eval y=u):
  (execOp a.eval o).run P w=((do eqGuard op t x y v u;binOp op t v u:Sem Value).run P w).andThen fun v w=> .ok (.value v) w:=by
 simp only [execOp,ho,hv,hu,Sem.run_bind,zqR,Sem.run_pure]
theorem kU (h:Bf P c n nx sl hp a sl0 hp0 o gs) {op:BinOp} {t el:TypeId} {x y:Operand} {ty:TypeId} (ho:o.op= .binOp op t x y ty) (hu:P.underlying t=some (.slice el)) (r1:SR c [.bu] [a.eval x]) (r2:SR c [.bu] [a.eval y])
  (AK:op= .eql∨op= .neq):Az P o c n nx sl hp gs a {val:= .e (.bool (op== .eql))}:=by
 have ex:=fun(v u:Value) (hv:a.eval x=v) (hu:a.eval y=u)=>Ny (P:=P) (o:=o) ho c.w hv hu;generalize Ek:a.eval x=v1 at r1;generalize CW:a.eval y=v2 at r2;cases r1 with
 |bu _=>cases r2 with
  |bu _=>
   refine Az.pure h (v:= .bool (op== .eql)) ?_ (.cw (.bool .nil)) rfl;rw [ex _ _ Ek CW,eqGuard_at_slice];rcases AK with rfl|rfl
   ·simp [run_eql_nil_slice c.w t el none 0 0 0 0 hu]
   ·simp [run_neq_nil_slice c.w t el none 0 0 0 0 hu]
theorem zsR (h:Bf P c n nx sl hp a sl0 hp0 o gs) {op:BinOp} {t:TypeId} {x y:Operand} {ty:TypeId} (ho:o.op= .binOp op t x y ty) {s1 s2:SV} (r1:SR c [s1] [a.eval x]) (r2:SR c [s2] [a.eval y])
  {x' y':E} (CE:ET s1=some x') (Bj:ET s2=some y') (hd:Pz (.bin op x' y')=true→Cn.den c.ρ (.dfd (.bin op x' y'))) (vM:op= .quo∨op= .rem→Cn.den c.ρ (.nz y')) (vK:op= .shl∨op= .shr→Cn.den c.ρ (.nn y')) {ck:List Cn}:
  Az P o c n nx sl hp gs a {bw:=ck,val:= .e (.bin op x' y')}:=by
 obtain⟨f1,g1,_⟩:=G6 r1 CE;obtain⟨f2,g2,_⟩:=G6 r2 Bj;obtain⟨k,k',p,q,e1,e2,HO,e3,B1,hv,E6⟩:=zvh (op:=op) g1 g2 hd;refine Az.pure h (v:=(B8 op k p q).val) ?_ (.cw (by rw [e3];exact zxo B1 _)) rfl;rw [Ny ho c.w hv E6,zuP HO (fun AK=> ?_) (fun AK=> ?_)]
 ·simp
 ·obtain⟨_,m,hm,DJ⟩:=vM AK;rw [e2]at hm;cases hm;exact DJ
 ·obtain⟨_,m,hm,DJ⟩:=vK AK;rw [e2]at hm;cases hm;exact DJ
theorem zr3 (h:Bf P c n nx sl hp a sl0 hp0 o gs) {op:BinOp} {t:TypeId} {x y:Operand} {ty:TypeId} (ho:o.op= .binOp op t x y ty) {s1 s2:SV} (r1:SR c [s1] [a.eval x]) (r2:SR c [s2] [a.eval y])
  {x' y':E} (CE:ET s1=some x') (Bj:ET s2=some y') (hd:Cn.den c.ρ (.dfd (.sbin op x' y'))) (Cg:op= .add→Cn.den c.ρ (.roomS x' y')) {ck:List Cn}:
  Az P o c n nx sl hp gs a {bw:=ck,val:= .e (.sbin op x' y')}:=by
 obtain⟨f1,g1,_⟩:=G6 r1 CE;obtain⟨f2,g2,_⟩:=G6 r2 Bj;have hd:AV.sbin op (x'.den c.ρ) (y'.den c.ρ)≠ .undef:=hd;cases hx:x'.den c.ρ<;>cases hy:y'.den c.ρ<;>simp only [hx,hy,AV.sbin,ne_eq,not_true_eq_false]at hd;obtain⟨b1,Ek,rfl,_⟩:=P1 g1 hx;obtain⟨b2,CW,rfl,_⟩:=P1 g2 hy;have hle:op= .add→b1.size+b2.size≤9223372036854775807:=fun AK=>by obtain⟨p,q,hp,hq,hle⟩:=Cg AK;rw [hx]at hp;rw [hy]at hq;cases hp;cases hq;simpa using hle
 refine Az.pure h (v:=match op with| .add=> .string (b1++b2)|_=>(PZ op b1.data.toList b2.data.toList).val) ?_ (.cw ?_) rfl
 ·rw [Ny ho c.w Ek CW,eqGuard_at_string];cases op<;>first
   |(exact absurd rfl hd)
   |(have:=hle rfl;simp [binOp,Op.stringOp];omega)
   |(simp [binOp,Op.stringOp,PZ,AV.val,ByteArray.toList_eq,bne];done)
 ·simp only [E.den,hx,hy,AV.sbin];cases op<;>simp only [PZ,AV.val,ne_eq,not_true_eq_false]at hd ⊢ <;>first
   |exact .bool .nil
   |(have:=hle rfl
     have h9:=Rd.str (w:=c.w) (s:=b1++b2) (by simpa using this) .nil;simpa using h9)
theorem zrA (h:Bf P c n nx sl hp a sl0 hp0 o gs) {op:BinOp} {t:TypeId} {x y:Operand} {ty:TypeId} (ho:o.op= .binOp op t x y ty) (hu:P.underlying t=some .bool) {s1 s2:SV} (r1:SR c [s1] [a.eval x]) (r2:SR c [s2] [a.eval y])
  {x' y':E} (CE:ET s1=some x') (Bj:ET s2=some y') (hd:Cn.den c.ρ (.dfd (.bbin op x' y'))) {ck:List Cn}:
  Az P o c n nx sl hp gs a {bw:=ck,val:= .e (.bbin op x' y')}:=by
 obtain⟨f1,g1,_⟩:=G6 r1 CE;obtain⟨f2,g2,_⟩:=G6 r2 Bj;have hd:AV.bbin op (x'.den c.ρ) (y'.den c.ρ)≠ .undef:=hd;cases hx:x'.den c.ρ<;>cases hy:y'.den c.ρ<;>simp only [hx,hy,AV.bbin,ne_eq,not_true_eq_false]at hd;rename_i p q;have Ek:=Hw g1 hx;have CW:=Hw g2 hy;refine Az.pure h (v:=(AV.bbin op (.bool p) (.bool q)).val) ?_ (.cw ?_) rfl
 ·rw [Ny ho c.w Ek CW,eqGuard_at_bool];cases op<;>simp only [ne_eq,not_true_eq_false]at hd
  ·simp [zu7 p q hu,AV.bbin,AV.val]
  ·simp [zu2 p q hu,AV.bbin,AV.val,bne]
 ·simp only [E.den,hx,hy];cases op<;>simp only [AV.bbin,AV.val,ne_eq,not_true_eq_false]at hd ⊢ <;>exact .bool .nil
theorem zyc (h:Bf P c n nx sl hp a sl0 hp0 o gs) {op:BinOp} {t:TypeId} {x y:Operand} {ty:TypeId} (ho:o.op= .binOp op t x y ty) (Le: ∀fs,P.underlying t≠some (.struct fs)) (he:Bq P sg sl0 hp0 nv nx gs o=some e) (hq:e.bt=none) (hc: ∀q∈e.bw,Cn.den c.ρ q):Az P o c n nx sl hp gs a e:=by
 have DK:x∈o.op.operands:=by simp [ho,Op.operands]
 have Dn:y∈o.op.operands:=by simp [ho,Op.operands]
 simp only [Bq,ho,Au]at he;obtain⟨s1,Bu,s2,AU,he⟩:=he;have r1:=h.cu Bu DK;have r2:=h.cu AU Dn;unfold PR at he;split at he
 ·rename_i el hu;split at he
  ·simp at he;subst he;exact kU h ho hu r1 r2 (.inl rfl)
  ·simp at he;subst he;exact kU h ho hu r1 r2 (.inr rfl)
  ·obtain⟨_,_,rfl⟩:=Aq.1 he;cases hq
  ·obtain⟨_,_,rfl⟩:=Aq.1 he;cases hq
  ·cases he
 ·rename_i kk hu;split at he
  ·rename_i x' y' CE Bj;simp at he;subst he;exact zsR h ho r1 r2 CE Bj (fun hn=>hc _ (by simp [hn])) (fun AK=>hc _ (by rcases AK with rfl|rfl<;>simp)) (fun AK=>hc _ (by rcases AK with rfl|rfl<;>simp))
  ·cases he
 ·rename_i hu;split at he
  ·rename_i x' y' CE Bj;simp at he;subst he;exact zr3 h ho r1 r2 CE Bj (hc _ (by simp)) (fun AK=>hc _ (by subst AK;simp))
  ·cases he
 ·rename_i hu;split at he
  ·rename_i x' y' CE Bj;simp at he;subst he;exact zrA h ho hu r1 r2 CE Bj (hc _ (by simp))
  ·cases he
 ·rename_i fs hu;exact absurd hu (Le fs)
 ·cases he
end
section
variable {P:Program} {c:Cx} {n nx:Nat} {sl sl0:Nat→SV} {hp hp0:Nat→Option Ai} {a:Act} {o:Oper} {gs:Gd} {e:AY} {sg:BC} {nv:Nat}
theorem Sm {t:TypeId} (h:CU P t=true) (cs:List Value) (off:Nat) (hle:off+P.cellsOf t≤cs.length) (hg:Ao P t=true∨P.cellsOf t=1) (w:World):
  (part t cs.toArray off).run P w= .ok (if Ao P t then .agg ((cs.drop off).take (P.cellsOf t)).toArray else((cs.drop off).take (P.cellsOf t)).headD Go.undef) w:=by
 cases ha:Ao P t with
 |true=>simp only [part,Sem.run_bind,Sh h,ha,Nf h,Result.andThen_ok,if_true,Sem.run_pure];congr 2;apply Array.ext';rw [Array.toList_extract];simp [Nat.add_sub_cancel_left,List.extract_eq_take_drop]
 |false=>
  have h1:P.cellsOf t=1:=by rcases hg with h'|h';rw [ha]at h';cases h';exact h'
  have Ax:off<cs.length:=by omega
  have e1:(cs.drop off).take (P.cellsOf t)= [cs[off]]:=by rw [h1,List.drop_eq_getElem_cons Ax,List.take_succ_cons,List.take_zero]
  rw [e1];simp [part,Sh h,ha,Ax]
theorem zvy (h:Bf P c n nx sl hp a sl0 hp0 o gs) {t:TypeId} {x:Operand} {f:Nat} (ho:o.op= .field t x f) (he:Bq P sg sl0 hp0 nv nx gs o=some e) (hc: ∀q∈e.bw,Cn.den c.ρ q):Az P o c n nx sl hp gs a e:=by
 have hm:x∈o.op.operands:=by simp [ho,Op.operands]
 simp only [Bq,ho,Au]at he;obtain⟨s,hs,he⟩:=he;have hr:=h.cu hs hm;split at he
 ·rename_i fs hu;split at he
  ·rename_i fd hf;split at he
   ·cases he
   ·rename_i Bc;have Bc:CU P fd.type=true:=by simpa using Bc
    have ex: ∀as_:List Value,a.eval x= .agg as_.toArray→(execOp a.eval o).run P c.w=((part fd.type as_.toArray fd.offset).run P c.w).andThen fun v w=> .ok (.value v) w:=fun as_ hv=>by simp [execOp,ho,Instr.field,run_underlying hu,hf,hv,asAgg]
    split at he
    ·rename_i cs;obtain⟨s2,AU,rfl⟩:=Aq.1 he;generalize hv:a.eval x=v at hr;cases hr with
     |agg r8 r1 r9=>
      rename_i as_;have hlen:=r1.len;unfold NF at AU;split at AU
      ·rename_i AA;split at AU
       ·rename_i hle;simp at AU;subst AU;obtain⟨q1,q2⟩:=r1.split fd.offset;obtain⟨q3,q4⟩:=q2.split (P.cellsOf fd.type);have:=SR.agg (cs:=Bl.of ((cs.toList.drop fd.offset).take (P.cellsOf fd.type))) (fun u hu=>r8 u (List.mem_of_mem_drop (List.mem_of_mem_take hu))) (by rw [Bl.aq];exact q3) .nil;refine Az.pure h (v:= .agg ((as_.drop fd.offset).take (P.cellsOf fd.type)).toArray) ?_ this rfl;rw [ex as_ hv,Sm Bc as_ fd.offset (by omega) (.inl AA)];simp [AA]
       ·cases AU
      ·rename_i AA;have AA:Ao P fd.type=false:=by simpa using AA
       obtain⟨u,E6,r⟩:=r1.get AU;refine Az.pure h (v:=u) ?_ r rfl;rw [ex as_ hv];simp [part,Sh Bc,AA,E6]
    ·rename_i y;split at he
     ·rename_i hh;obtain⟨hle,AA⟩:=hh;simp at he;subst he;generalize hv:a.eval x=v at hr;cases hr with
      |e h1 h2 _=>
       rename_i f1;obtain⟨cs,Bd,Ay⟩:=BE hc;obtain⟨as_,rfl,MK,C6⟩:=IZ h1 Bd;have hlen:=C6.len;have Fq:(y.den c.ρ).cells=cs:=by rw [Bd];rfl
       rw [←Fq]at C6;obtain⟨q,g1,g2⟩:=C6.iv MK fd.offset (P.cellsOf fd.type) (Ao P fd.type) (by rw [Fq];omega) (fun hh=>by rcases AA with h'|h';rw [hh]at h';cases h';exact h');refine Az.pure h ?_ (.e (f:=q) (by simpa [E.den]using g2) (fun z hz=>h2 z (g1 z hz)) .nil) rfl;rw [ex as_ hv,Sm Bc as_ fd.offset (by omega) AA];simp
     ·cases he
    ·rename_i b g m pth y;split at he
     ·rename_i hh;obtain⟨hle,AA,Yt⟩:=hh;have hE:=PF h.eh h.gs Yt;generalize hv:a.eval x=v at hr;have Hk:Cn.den c.ρ (.agg y (P.cellsOf t)):=by
       split at he<;>(simp only [Af]at he;subst he;exact BE hc)
      cases hr with
      |via h1 h2 h3 _=>
       obtain⟨⟨f1,p1,p2⟩,_⟩:=h3 hE;obtain⟨cs,Bd,Ay⟩:=Hk;obtain⟨as_,rfl,MK,C6⟩:=IZ p1 Bd;have hlen:=C6.len;have Fq:(y.den c.ρ).cells=cs:=by rw [Bd];rfl
       rw [←Fq]at C6;obtain⟨q,g1,g2⟩:=C6.iv MK fd.offset (P.cellsOf fd.type) (Ao P fd.type) (by rw [Fq];omega) (fun hh=>by rcases AA with h'|h';rw [hh]at h';cases h';exact h');have AQ:=ex as_ hv;rw [Sm Bc as_ fd.offset (by omega) AA]at AQ;simp only [Result.andThen_ok]at AQ;have BS:Rd c.w _ [(E.fld y fd.offset (P.cellsOf fd.type) (Ao P fd.type)).den c.ρ] q:=g2;split at he
       ·simp only [Af]at he;subst he;obtain⟨e1,e2,e3,e4⟩:=hc (.flat (.fld y fd.offset (P.cellsOf fd.type) (Ao P fd.type)) (P.cellsOf fd.type) (Ao P fd.type)) (by simp);have hq:q= []:=by
         cases hg:Ao P fd.type with
         |true=>obtain⟨cs,Bd⟩:=e3 hg;obtain⟨as_,_,_,r⟩:=IZ BS Bd;exact G8 r (by rw [Bd]at e2;exact e2)
         |false=>exact G8 BS (by simpa using e4 hg)
        subst hq;exact Az.pure h AQ (.e BS (by simp) .nil) rfl
       ·simp only [Af]at he;subst he;exact Az.pure h AQ (.via h1 h2 (fun _=>⟨⟨q,BS,fun z hz=>p2 z (g1 z hz)⟩,trivial⟩) .nil) rfl
     ·cases he
    ·cases he
  ·cases he
 ·cases he
theorem PB {v:Value} {x:AV} {m:Int} {w:World} {f:List Nat} (h:Rd w [v] [x] f) (hx:x.len= .int .i64 m):(∃a c,v= .slice a 0 c∧m=0)∨ ∃b o k c,v= .slice (some ⟨b,o,none⟩) k c∧m=k:=by
 rcases h.kind with h|h|h|h|h|h|h|h|h|h
 ·obtain⟨_,_,_,rfl,_⟩:=h;simp [AV.len]at hx
 ·obtain⟨_,_,rfl,_⟩:=h;simp [AV.len]at hx
 ·obtain⟨_,_,rfl,_⟩:=h;simp [AV.len]at hx
 ·obtain⟨q,r,rfl,rfl,_⟩:=h;simp [AV.len]at hx;exact .inl ⟨q,r,rfl,by omega⟩
 ·obtain⟨b,o,k,r,ys,_,_,_,_,_,_,rfl,rfl,_,_,_,_,hl,_⟩:=h;simp [AV.len]at hx;exact .inr ⟨b,o,k,r,rfl,by omega⟩
 ·obtain⟨_,_,_,rfl,_⟩:=h;simp [AV.len]at hx
 ·obtain⟨_,_,_,rfl,_⟩:=h;simp [AV.len]at hx
 ·obtain⟨_,_,_,_,_,_,_,rfl,_⟩:=h;simp [AV.len]at hx
 ·obtain⟨_,_,_,_,rfl,_⟩:=h;simp [AV.len]at hx
 ·obtain⟨_,rfl,_⟩:=h;simp [AV.len]at hx
theorem R1 {t el:TypeId} (hu:P.underlying t=some (.slice el)) (hz:P.cellsOf el≠0) {b off len cap:Nat} {kk:IntKind} {k:Int} (h0:0≤k) (h1:k<len) (w:World):
  (Instr.indexAt t (.slice (some ⟨b,off,none⟩) len cap) (.int kk k)).run P w= .ok (.pointer (some ⟨b,off+k.toNat*P.cellsOf el,none⟩)) w:=by
 simp [Instr.indexAt,run_underlying hu,asIntOf,h0,h1,nU hz,Addr.add_lit]
theorem nP (h:Bf P c n nx sl hp a sl0 hp0 o gs) {t:TypeId} {x i:Operand} (ho:o.op= .indexAddr t x i∨o.op= .index t x i) {s1 s2:SV} (Bu:Bx sl0 gs x=some s1) (AU:Bx sl0 gs i=some s2)
  (AK:(∃el,P.underlying t=some (.slice el))→o.op= .indexAddr t x i) (X7:P.underlying t=some .string→o.op= .index t x i)
  (he:V9 P hp0 gs t s1 s2=some e) (hc: ∀q∈e.bw,Cn.den c.ρ q):Az P o c n nx sl hp gs a e:=by
 have DK:x∈o.op.operands:=by rcases ho with ho|ho<;>simp [ho,Op.operands]
 have Dn:i∈o.op.operands:=by rcases ho with ho|ho<;>simp [ho,Op.operands]
 have r1:=h.cu Bu DK;have r2:=h.cu AU Dn;unfold V9 at he;split at he
 ·rename_i el k hu;have QW:=AK ⟨el,hu⟩;have ex:(execOp a.eval o).run P c.w=((Instr.indexAt t (a.eval x) (a.eval i)).run P c.w).andThen fun v w=> .ok (.value v) w:=by simp [execOp,QW]
  split at he
  ·cases he
  rename_i hz;obtain⟨fk,HN,_⟩: ∃f,Rd c.w [a.eval i] [k.den c.ρ] f∧ ∀b∈f,c.ok b:=by
   generalize a.eval i=v at r2;cases r2 with
   |e h1 h2 _=>exact⟨_,h1,h2⟩
  split at he
  ·rename_i b g;split at he
   ·rename_i e0 sz g' c0 d hl;split at he
    ·rename_i hh;obtain⟨rfl,rfl⟩:=hh;simp at he;subst he;obtain⟨kk,kv,m,e1,e2,e3,e4,e5⟩:=BE hc;obtain⟨It,_⟩:=FY HN e1;generalize hv:a.eval x=v at r1 ex;cases r1 with
     |own hK NU _=>
      obtain⟨_,_,N,q1,q2,_,_⟩:=h.eh b _ (CD hl h.gs);obtain⟨xs,Ck,Ay,h0,A6⟩:=q1;rw [Ck]at e3;simp only [AV.len,AV.int.injEq,true_and]at e3;rcases A6 with⟨rfl,_⟩|⟨g9,cap,C,hH,_⟩
      ·simp at e3;omega
      ·refine Az.pure h (v:= .pointer (some ⟨g9,kv.toNat*P.cellsOf el+0,none⟩)) ?_ (.cq hK hH e1 e2 (by omega) .nil) rfl;rw [NU]at hH;cases hH;rw [ex,It,R1 hu hz e2 (by omega)];simp
    ·cases he
   ·rename_i g' c0 hl;split at he
    ·rename_i hh;subst hh;simp at he;subst he;obtain⟨kk,kv,m,e1,e2,e3,e4,e5⟩:=BE hc;obtain⟨It,_⟩:=FY HN e1;generalize hv:a.eval x=v at r1 ex;cases r1 with
     |own hK NU _=>
      obtain⟨_,⟨f,q1,q2⟩,_,_⟩:=h.eh b _ (CD hl h.gs);rcases PB q1 e3 with⟨_,_,_,hm⟩|⟨b9,off9,len9,cap9,hH,hm⟩
      ·omega
      ·rw [NU]at hH;cases hH;rw [NU]at q1;refine Az.pure h (v:= .pointer (some ⟨b9,off9+kv.toNat*P.cellsOf el+0,none⟩)) ?_ (.df q1 q2 e1 e2 (by omega) e5 .nil) rfl;rw [ex,It,R1 hu hz e2 (by omega)];simp
    ·cases he
   ·rename_i e0 sz dl g' ep c0 hl;split at he
    ·rename_i hh;obtain⟨rfl,rfl⟩:=hh;simp at he;subst he;obtain⟨kk,kv,m,e1,e2,e3,e4,e5⟩:=BE hc;obtain⟨It,_⟩:=FY HN e1;generalize hv:a.eval x=v at r1 ex;cases r1 with
     |own hK NU _=>
      obtain⟨_,_,_,q1,_⟩:=h.eh b _ (CD hl h.gs);obtain⟨_,_,⟨a9,d3,d4,_⟩|⟨g9,cap,C,ys,N1,hH,d4,_⟩⟩:=q1.inv
      ·rw [d4]at e3;simp [AV.len]at e3;omega
      ·rw [d4]at e3;simp only [AV.len,AV.int.injEq,true_and]at e3;refine Az.pure h (v:= .pointer (some ⟨g9,kv.toNat*P.cellsOf el+0,none⟩)) ?_ (.cq hK hH e1 e2 (by omega) .nil) rfl;rw [NU]at hH;cases hH;rw [ex,It,R1 hu hz e2 (by omega)];simp
    ·cases he
   ·cases he
  ·rename_i y;simp at he;subst he;obtain⟨kk,kv,m,e1,e2,e3,e4,e5⟩:=BE hc;obtain⟨It,_⟩:=FY HN e1;generalize hv:a.eval x=v at r1 ex;cases r1 with
   |e q1 q2 _=>
    rcases PB q1 e3 with⟨_,_,_,hm⟩|⟨b9,off9,len9,cap9,rfl,hm⟩
    ·omega
    ·refine Az.pure h (v:= .pointer (some ⟨b9,off9+kv.toNat*P.cellsOf el+0,none⟩)) ?_ (.df q1 q2 e1 e2 (by omega) e5 .nil) rfl;rw [ex,It,R1 hu hz e2 (by omega)];simp
  ·rename_i b g m pth y;split at he
   ·rename_i Yt;simp at he;subst he;have hE:=PF h.eh h.gs Yt;obtain⟨kk,kv,mm,e1,e2,e3,e4,e5⟩:=BE hc;obtain⟨It,_⟩:=FY HN e1;generalize hv:a.eval x=v at r1 ex;cases r1 with
    |via q1 q2 q3 _=>
     obtain⟨⟨f,p1,p2⟩,p3⟩:=q3 hE;rcases PB p1 e3 with⟨_,_,_,hm⟩|⟨b9,off9,len9,cap9,rfl,hm⟩
     ·omega
     ·refine Az.pure h (v:= .pointer (some ⟨b9,off9+kv.toNat*P.cellsOf el+0,none⟩)) ?_ (.vptr q1 q2 (fun _=>⟨b9,off9,len9,cap9,kk,kv,⟨f,p1,p2⟩,p3,e1,e2,by omega,e5,rfl⟩) .nil) rfl;rw [ex,It,R1 hu hz e2 (by omega)];simp
   ·cases he
  ·cases he
 ·rename_i k hu;have QW:=X7 hu;obtain⟨fk,HN,_⟩: ∃f,Rd c.w [a.eval i] [k.den c.ρ] f∧ ∀b∈f,c.ok b:=by
   generalize a.eval i=v at r2;cases r2 with
   |e h1 h2 _=>exact⟨_,h1,h2⟩
  split at he
  ·rename_i y;simp at he;subst he;obtain⟨kk,kv,s,e1,e2,e3,e4⟩:=BE hc;obtain⟨It,_⟩:=FY HN e1;generalize hv:a.eval x=v at r1;cases r1 with
   |e q1 q2 _=>
    obtain⟨bs,rfl,rfl,hle⟩:=P1 q1 e2;have Ax:kv.toNat<bs.data.toList.length:=by omega
    have XS:kv.toNat<bs.size:=by simpa using Ax
    refine Az.pure h (v:= .int .u8 (bs[kv.toNat]).toNat) ?_ (.cw ?_) rfl
    ·simp [execOp,QW,Instr.index,hv,It,asIntOf,run_underlying hu,e3,XS]
    ·simp only [E.den,e1,e2,AV.sidx];have:bs.data.toList[kv.toNat]?=some (bs[kv.toNat]):=by
      rw [List.getElem?_eq_getElem Ax];simp [ByteArray.getElem_eq_getElem_data]
     rw [this];refine .int ?_ .nil;rw [Ns];have:=(bs[kv.toNat]).toNat_lt;simp [IntKind.min,IntKind.max,IntKind.signed,IntKind.bits];omega
  ·cases he
 ·cases he
theorem zpp (h:Bf P c n nx sl hp a sl0 hp0 o gs) {t:TypeId} {x i:Operand} (ho:o.op= .indexAddr t x i) (Le:P.underlying t≠some .string) (he:Bq P sg sl0 hp0 nv nx gs o=some e) (hc: ∀q∈e.bw,Cn.den c.ρ q):Az P o c n nx sl hp gs a e:=by
 simp only [Bq,ho,Au]at he;obtain⟨s1,Bu,s2,AU,he⟩:=he;split at he
 ·cases he
 exact nP h (.inl ho) Bu AU (fun _=>ho) (fun hh=>absurd hh Le) he hc
theorem zsm (h:Bf P c n nx sl hp a sl0 hp0 o gs) {t:TypeId} {x i:Operand} (ho:o.op= .index t x i) (Le:P.underlying t=some .string) (he:Bq P sg sl0 hp0 nv nx gs o=some e) (hc: ∀q∈e.bw,Cn.den c.ρ q):Az P o c n nx sl hp gs a e:=by
 simp only [Bq,ho,Au]at he;obtain⟨s1,Bu,s2,AU,he⟩:=he;split at he
 ·exact nP h (.inr ho) Bu AU (fun⟨el,hh⟩=>by rw [Le]at hh;cases hh) (fun _=>ho) he hc
 ·cases he
theorem zsy (h:Bf P c n nx sl hp a sl0 hp0 o gs) {x:Operand} {i:Nat} (ho:o.op= .extract x i) (he:Bq P sg sl0 hp0 nv nx gs o=some e) (hc: ∀q∈e.bw,Cn.den c.ρ q):Az P o c n nx sl hp gs a e:=by
 have hm:x∈o.op.operands:=by simp [ho,Op.operands]
 simp only [Bq,ho,Au]at he;obtain⟨s,hs,he⟩:=he;have hr:=h.cu hs hm;generalize hv:a.eval x=v at hr;have ex: ∀(as_:List Value) u,v= .tuple as_.toArray→as_[i]?=some u→(execOp a.eval o).run P c.w= .ok (.value u) c.w:=fun as_ u Ys hu=>by simp [execOp,ho,Instr.extract,hv,Ys,hu]
 split at he
 ·rename_i vs;obtain⟨s2,AU,rfl⟩:=Aq.1 he;cases hr with
  |tup r1 r9=>obtain⟨u,hu,r⟩:=r1.get AU;exact Az.pure h (ex _ u rfl hu) r rfl
 ·rename_i y;simp at he;subst he;cases hr with
  |e q1 q2 _=>
   have hd:(y.den c.ρ).proj i≠ .undef:=BE hc;cases hy:y.den c.ρ<;>simp only [hy,AV.proj,ne_eq,not_true_eq_false]at hd;rename_i cs;obtain⟨as_,rfl,r1⟩:=yS q1 hy;cases Qu:cs[i]? with
   |none=>simp [Qu]at hd
   |some z=>obtain⟨u,g,hu,hg,CS⟩:=r1.at Qu;exact Az.pure h (ex as_ u rfl hu) (.e (f:=g) (by simpa [E.den,hy,AV.proj,Qu]using CS) (fun b hb=>q2 b (hg b hb)) .nil) rfl
 ·cases he
theorem zyM (h:Bf P c n nx sl hp a sl0 hp0 o gs) {x:Operand} {t:TypeId} (ho:o.op= .unOp .not t x) (he:Bq P sg sl0 hp0 nv nx gs o=some e) (hc: ∀q∈e.bw,Cn.den c.ρ q):Az P o c n nx sl hp gs a e:=by
 have hm:x∈o.op.operands:=by simp [ho,Op.operands]
 simp only [Bq,ho,Au,Aq]at he;obtain⟨s,hs,y,hy,he⟩:=he;obtain⟨f,q1,_⟩:=G6 (h.cu hs hm) hy;split at he
 ·subst he;have hv:=Hw q1 rfl;rename_i b;exact Az.pure h (v:= .bool (!b)) (by simp [execOp,ho,hv,Op.unary]) (.cw (.bool .nil)) rfl
 ·subst he;have hd:(y.den c.ρ).ew≠ .undef:=BE hc;cases Bj:y.den c.ρ<;>simp only [Bj,AV.ew,ne_eq,not_true_eq_false]at hd;have hv:=Hw q1 Bj;rename_i b;exact Az.pure h (v:= .bool (!b)) (by simp [execOp,ho,hv,Op.unary]) (.cw (by simp only [E.den,Bj,AV.ew];exact .bool .nil)) rfl
theorem zyR (h:Bf P c n nx sl hp a sl0 hp0 o gs) {x:Operand} {t:TypeId} (ho:o.op= .unOp .neg t x) (he:Bq P sg sl0 hp0 nv nx gs o=some e) (hc: ∀q∈e.bw,Cn.den c.ρ q):Az P o c n nx sl hp gs a e:=by
 have hm:x∈o.op.operands:=by simp [ho,Op.operands]
 simp only [Bq,ho,Au,Aq]at he;obtain⟨s,hs,y,hy,rfl⟩:=he;obtain⟨f,q1,_⟩:=G6 (h.cu hs hm) hy;have hd:(y.den c.ρ).iy≠ .undef:=BE hc;cases Bj:y.den c.ρ<;>simp only [Bj,AV.iy,ne_eq,not_true_eq_false]at hd;rename_i k m;obtain⟨hv,_⟩:=FY q1 Bj;exact Az.pure h (v:= .int k (k.wrap (0-m))) (by simp [execOp,ho,hv,Op.unary,Op.intArith]) (.cw (by simp only [E.den,Bj,AV.iy];exact .int (dK _ _) .nil)) rfl
theorem rE {L:List Operand} {sl0:Nat→SV} {gs:Gd} (h: ∀x s,Bx sl0 gs x=some s→x∈L→SR c [s] [a.eval x]): ∀{xs:List Operand} {ss:List SV},(∀x∈xs,x∈L)→xs.mapM (Bx sl0 gs)=some ss→SR c ss (xs.map a.eval)
 | [],ss,_,hm=>by simp at hm;subst hm;exact .nil
 |x::xs,ss,hL,hm=>by rw [List.mapM_cons]at hm;simp only [Option.bind_eq_bind,Au]at hm;obtain⟨s,hs,ss',FE,hm⟩:=hm;simp at hm;subst hm;exact(h x s hs (hL x (by simp))).app (rE h (fun y hy=>hL y (by simp [hy])) FE)
theorem zq9 (h:Bf P c n nx sl hp a sl0 hp0 o gs) {f:FuncId} {fst caps:Array Operand} (ho:o.op= .makeFunc (.func f) fst caps) (he:Bq P sg sl0 hp0 nv nx gs o=some e):Az P o c n nx sl hp gs a e:=by
 simp only [Bq,ho]at he;split at he
 ·rename_i hf;obtain⟨ss,FE,rfl⟩:=Aq.1 he;have hf:fst= #[]:=by simpa using hf
  have r:=rE (a:=a) (c:=c) (L:=caps.toList) (fun x s hx hm=>h.cu hx (by simp only [ho,Op.operands,Array.mem_append];exact .inr (Array.mem_toList_iff.1 hm))) (fun x hx=>hx) FE;refine Az.pure h (v:= .func (.func f) #[] (caps.toList.map a.eval).toArray) ?_ (.fn (by rw [Bl.aq];exact r) .nil) rfl;simp [execOp,ho,Instr.makeFunc,hf];apply Array.ext';simp
 ·cases he
end
section
variable {P:Program} {c:Cx} {n nx:Nat} {sl sl0:Nat→SV} {hp hp0:Nat→Option Ai} {a:Act} {o:Oper} {gs:Gd} {e:AY} {sg:BC} {nv:Nat}
theorem Bf.j3 (h:Bf P c n nx sl hp a sl0 hp0 o gs) {x:Operand} {s:SV} (hs:Bx sl0 gs x=some s) (hm:x∈o.op.operands) {y:E} (hy:Be hp0 gs AT s=some y):
  ∃f,Rd c.w [a.eval x] [y.den c.ρ] f∧ ∀b∈f,c.ed (BB hp0 gs (AT+1) [s]) b:=G7 h.eh h.gs AT hy (h.cu hs hm) AT (Nat.le_refl _)
theorem zyt (h:Bf P c n nx sl hp a sl0 hp0 o gs) {x:Operand} {t:TypeId} {cl:Call} (ho:o.op= .call cl) (Ay:cl.callee= .builtin .len) (CQ:cl.args.toList= [x]) (DV:cl.argTypes.toList= [t]) (he:Bq P sg sl0 hp0 nv nx gs o=some e) (hc: ∀q∈e.bw,Cn.den c.ρ q):Az P o c n nx sl hp gs a e:=by
 have As:cl.args= #[x]:=by apply Array.ext';simp [CQ]
 have Gt:cl.argTypes= #[t]:=by apply Array.ext';simp [DV]
 have hm:x∈o.op.operands:=by simp [ho,Op.operands,Call.operands,Ay,As]
 simp only [Bq,ho,Ay,CQ,DV,Au]at he;obtain⟨s,hs,he⟩:=he;unfold sY at he;have ex:(execOp a.eval o).run P c.w=((Builtin.len_ #[t] o.type #[a.eval x]).run P c.w).andThen fun v w=> .ok (.value v) w:=by simp [execOp,ho,resolve,Ay,As,Gt,invoke,builtin]
 split at he
 ·rename_i el hu;obtain⟨y,hy,rfl⟩:=Aq.1 he;obtain⟨f,q1,q2⟩:=h.j3 hs hm hy;have hd:(y.den c.ρ).len≠ .undef:=BE hc;cases Bj:y.den c.ρ<;>simp only [Bj,AV.len,ne_eq,not_true_eq_false]at hd;rename_i xs;have hl:(y.den c.ρ).len= .int .i64 (xs.length:Int):=by rw [Bj];rfl
  have B1:Eg .i64 (xs.length:Int):=by
   rw [Ns];rcases q1.kind with hh|hh|hh|hh|hh|hh|hh|hh|hh|hh
   all_goals first
    |(obtain⟨_,_,_,hh,_⟩:=hh;rw [Bj]at hh;cases hh;done)
    |(obtain⟨_,_,hh,_⟩:=hh;rw [Bj]at hh;cases hh;done)
    |skip
   ·obtain⟨_,_,_,hh,_⟩:=hh;rw [Bj]at hh;cases hh;simp [IntKind.min,IntKind.max,IntKind.signed,IntKind.bits]
   ·obtain⟨_,_,_,_,_,_,_,_,_,_,_,_,hh,_,_,_,hle,hlen,_⟩:=hh;rw [Bj]at hh;cases hh;simp [IntKind.min,IntKind.max,IntKind.signed,IntKind.bits];omega
   all_goals first
    |(obtain⟨_,_,_,hh,_⟩:=hh;rw [Bj]at hh;cases hh;done)
    |(obtain⟨_,_,_,_,_,_,_,hh,_⟩:=hh;rw [Bj]at hh;cases hh;done)
    |(obtain⟨_,_,_,_,hh,_⟩:=hh;rw [Bj]at hh;cases hh;done)
    |(obtain⟨_,hh,_⟩:=hh;rw [Bj]at hh;cases hh;done)
  refine Az.pure h (v:= .int .i64 xs.length) ?_ (.cw (by simp only [E.den,Bj,AV.len];exact .int B1 .nil)) rfl;rcases PB q1 hl with⟨p,q,hv,DJ⟩|⟨b,o',k,q,hv,DJ⟩
  ·rw [ex,hv,DJ];simp [Builtin.len_,run_underlying hu,goInt]
  ·rw [ex,hv,DJ];simp [Builtin.len_,run_underlying hu,goInt]
 ·rename_i hu;obtain⟨y,hy,rfl⟩:=Aq.1 he;obtain⟨f,q1,q2⟩:=h.j3 hs hm hy;have hd:(y.den c.ρ).slen≠ .undef:=BE hc;cases Bj:y.den c.ρ<;>simp only [Bj,AV.slen,ne_eq,not_true_eq_false]at hd;obtain⟨bs,hv,rfl,hle⟩:=P1 q1 Bj;refine Az.pure h (v:= .int .i64 bs.size) ?_ (.cw ?_) rfl
  ·rw [ex,hv];simp [Builtin.len_,run_underlying hu,goInt]
  ·simp only [E.den,Bj,AV.slen];have:(bs.data.toList.length:Int)=(bs.size:Int):=by simp
   rw [this];refine .int ?_ .nil;rw [Ns];simp [IntKind.min,IntKind.max,IntKind.signed,IntKind.bits];omega
 ·cases he
theorem zsn (h:Bf P c n nx sl hp a sl0 hp0 o gs) {x:Operand} {src dst:TypeId} {k0 k:IntKind} (ho:o.op= .convert src dst x) (h1:P.underlying src=some (.int k0)) (h2:P.underlying dst=some (.int k)) (he:Bq P sg sl0 hp0 nv nx gs o=some e) (hc: ∀q∈e.bw,Cn.den c.ρ q):Az P o c n nx sl hp gs a e:=by
 have hm:x∈o.op.operands:=by simp [ho,Op.operands]
 simp only [Bq,ho,Au]at he;obtain⟨s,hs,he⟩:=he;simp only [Sq,h1,h2,Aq]at he;obtain⟨y,hy,rfl⟩:=he;obtain⟨f,q1,_⟩:=G6 (h.cu hs hm) hy;have hd:(y.den c.ρ).conv k≠ .undef:=BE hc;cases Bj:y.den c.ρ<;>simp only [Bj,AV.conv,ne_eq,not_true_eq_false]at hd;rename_i k1 m;obtain⟨hv,_⟩:=FY q1 Bj;exact Az.pure h (v:= .int k (k.wrap m)) (by simp [execOp,ho,hv,convert,run_underlying h1,run_underlying h2,Conv.intToInt]) (.cw (by simp only [E.den,Bj,AV.conv];exact .int (dK _ _) .nil)) rfl
theorem zr1 (h:Bf P c n nx sl hp a sl0 hp0 o gs) {x:Operand} {src dst:TypeId} (ho:o.op= .convert src dst x) (h1:P.underlying src=some .string) (h2:P.underlying dst=some .string) (he:Bq P sg sl0 hp0 nv nx gs o=some e) (hc: ∀q∈e.bw,Cn.den c.ρ q):Az P o c n nx sl hp gs a e:=by
 have hm:x∈o.op.operands:=by simp [ho,Op.operands]
 simp only [Bq,ho,Au]at he;obtain⟨s,hs,he⟩:=he;simp only [Sq,h1,h2,Aq]at he;obtain⟨y,hy,rfl⟩:=he;obtain⟨f,q1,_⟩:=G6 (h.cu hs hm) hy;have hd:(y.den c.ρ).slen≠ .undef:=BE hc;cases hl:y.den c.ρ<;>simp only [hl,AV.slen,ne_eq,not_true_eq_false]at hd;obtain⟨bs,hv,hle,XQ⟩:=P1 q1 hl;exact Az.pure h (v:= .string bs) (by simp [execOp,ho,hv,convert,run_underlying h1,run_underlying h2]) (.cw (by rw [hl,hle];exact Rd.str XQ .nil)) rfl
theorem sV {w:World}: ∀{ys:List AV} {s:List UInt8} {cs:List Value} {f:List Nat},Lr ys=some s→Rd w cs (AE ys) f→ ∃ns:List Int,cs=ns.map (Value.int .u8)∧s=ns.map (fun n=>UInt8.ofNat n.toNat)∧ns.length=ys.length
 | [],s,cs,f,h,hr=>by have:AE ([]:List AV)= []:=rfl;rw [this]at hr;cases hr;cases h;exact⟨[],rfl,rfl,rfl⟩
 |y::ys,s,cs,f,h,hr=>by
  unfold Lr at h;split at h
  ·rename_i h0;cases h0
  ·rename_i n xs he;cases he;obtain⟨s',h1,rfl⟩:=Aq.1 h;have CR:Rd w cs (.int .u8 n::AE ys) f:=by simpa [AE,AV.cells]using hr
   cases CR with
   |int hk C6=>obtain⟨ns,rfl,rfl,hl⟩:=sV h1 C6;exact⟨n::ns,rfl,rfl,by simp [hl]⟩
  ·cases h
theorem zq0 (h:Bf P c n nx sl hp a sl0 hp0 o gs) {x:Operand} {src dst el:TypeId} (ho:o.op= .convert src dst x) (h1:P.underlying src=some (.slice el)) (h2:P.underlying dst=some .string) (he:Bq P sg sl0 hp0 nv nx gs o=some e) (hc: ∀q∈e.bw,Cn.den c.ρ q):Az P o c n nx sl hp gs a e:=by
 have hm:x∈o.op.operands:=by simp [ho,Op.operands]
 simp only [Bq,ho,Au]at he;obtain⟨s,hs,he⟩:=he;simp only [Sq,h1,h2]at he;split at he
 ·rename_i hu;obtain⟨y,hy,rfl⟩:=Aq.1 he;obtain⟨f,q1,q2⟩:=h.j3 hs hm hy;have hd:(y.den c.ρ).text≠ .undef:=BE hc;cases Bj:y.den c.ρ<;>simp only [Bj,AV.text,ne_eq,not_true_eq_false]at hd;rename_i xs;split at hd
  ·rename_i t ht;split at hd
   ·rename_i hle;have BS:(E.text y).den c.ρ= .str t:=by
     simp only [E.den,Bj,AV.text,ht];rw [if_pos hle]
    have fin: ∀ns:List Int,t=ns.map (fun n=>UInt8.ofNat n.toNat)→ns.length=xs.length→(convert src dst (a.eval x)).run P c.w= .ok (.string (ns.foldl (fun r n=>r.push (UInt8.ofNat n.toNat)) ByteArray.empty)) c.w→Az P o c n nx sl hp gs a {bw:= [.dfd (.text y)],val:= .e (.text y)}:=fun ns e1 e2 e3=>by
     have e4:(ns.foldl (fun r n=>r.push (UInt8.ofNat n.toNat)) ByteArray.empty)=⟨t.toArray⟩:=by
      rw [foldl_push_bytes,e1];simp [ByteArray.empty,ByteArray.emptyWithCapacity]
      try rfl
     rw [e4]at e3;refine Az.pure h (v:= .string ⟨t.toArray⟩) (by simp [execOp,ho,e3]) (.cw ?_) rfl;rw [BS];have BJ:(ByteArray.mk t.toArray).size≤9223372036854775807:=by simp only [ByteArray.size,List.size_toArray];rw [e1,List.length_map];omega
     have:=Rd.str (w:=c.w) (s:=⟨t.toArray⟩) BJ .nil;simpa using this
    rw [Bj]at q1;rcases q1.kind with hh|hh|hh|hh|hh|hh|hh|hh|hh|hh
    all_goals first
     |(obtain⟨_,_,_,hh,_⟩:=hh;cases hh;done)
     |(obtain⟨_,_,hh,_⟩:=hh;cases hh;done)
     |skip
    ·obtain⟨p,q,hv,hx,_⟩:=hh;cases hx;cases ht;refine fin [] rfl rfl ?_;rw [hv];cases p with
     |none=>rw [run_convert_bytes_nil c.w src el h1 hu _ _ dst h2];rfl
     |some ad=>rw [run_convert_bytes_string c.w src dst el _ 0 q h1 hu h2,run_bytesToString c.w ad 0 q [] (by simp [loadCells,loadCellsFrom])]
    ·obtain⟨b,o',k,q,ys,cs,C,t',fz,sz,f1,hv,hx,_,hb,_,u6,hlen,_,_,Bd,hr⟩:=hh;cases hx;obtain⟨ns,rfl,e1,e2⟩:=sV ht hr.2;refine fin ns e1 e2 ?_;have hl:ns.length=k:=by omega
     have BR: ∀i,i<k→c.w.cell? ⟨b,o'+i,none⟩=some (.int .u8 (ns.getD i 0)):=fun i hi=>by
      have Iq:i<ns.length:=by omega
      have:=Bd i (.int .u8 ns[i]) (by simp [Iq]);rw [Ec hb,this];simp [Iq]
     have:=run_convert_bytes_arg c.w src el h1 hu b o' k q ns hl BR dst h2;rw [hv,this];congr 2;rw [foldl_push_bytes];simp [strOfNums,ByteArray.empty,ByteArray.emptyWithCapacity]
     try rfl
    all_goals first
     |(obtain⟨_,_,_,hh,_⟩:=hh;cases hh;done)
     |(obtain⟨_,_,_,_,_,_,_,hh,_⟩:=hh;cases hh;done)
     |(obtain⟨_,_,_,_,hh,_⟩:=hh;cases hh;done)
     |(obtain⟨_,hh,_⟩:=hh;cases hh;done)
   ·exact absurd rfl hd
  ·exact absurd rfl hd
 ·cases he
theorem oW {ρ:List AV} {x:E} {b:Bool} {gs:Gd} (h1:x.den ρ= .bool b) (h2:A5 ρ gs):A5 ρ ((x,b)::gs):=by
 intro g hg;rcases Ae.1 hg with rfl|hg
 ·exact h1
 ·exact h2 g hg
theorem zwb (h:Bf P c n nx sl hp a sl0 hp0 o gs) {x y z:Operand} (ho:o.op= .pick x y z) (he:Bq P sg sl0 hp0 nv nx gs o=some e) (hc: ∀q∈e.bw,Cn.den c.ρ q):Az P o c n nx sl hp gs a e:=by
 have DK:x∈o.op.operands:=by simp [ho,Op.operands]
 have Dn:y∈o.op.operands:=by simp [ho,Op.operands]
 have Oa:z∈o.op.operands:=by simp [ho,Op.operands]
 simp only [Bq,ho,Au]at he;obtain⟨s,hs,he⟩:=he;have hr:=h.cu hs DK;split at he
 ·rename_i q;have ex: ∀b,a.eval x= .bool b→(execOp a.eval o).run P c.w= .ok (.value (if b then a.eval y else a.eval z)) c.w:=fun b hb=>by
   simp [execOp,ho,hb,asBool]
  obtain⟨f,q1⟩: ∃f,Rd c.w [a.eval x] [q.den c.ρ] f:=by
   generalize a.eval x=v at hr;cases hr with
   |e h1 _ _=>exact⟨_,h1⟩
  unfold sI at he;split at he
  ·obtain⟨s',A4,rfl⟩:=Aq.1 he;exact Az.pure h (v:=a.eval y) (ex true (Hw q1 rfl)) (h.cu A4 Dn) rfl
  ·obtain⟨s',A4,rfl⟩:=Aq.1 he;exact Az.pure h (v:=a.eval z) (ex false (Hw q1 rfl)) (h.cu A4 Oa) rfl
  ·split at he
   ·rename_i y' z' hy hz;simp at he;subst he;simp only [Au]at hy hz;obtain⟨sy,wD,hy⟩:=hy;obtain⟨sz,BJ,hz⟩:=hz;have hd:(q.den c.ρ).ew≠ .undef:=BE hc;cases hq:q.den c.ρ<;>simp only [hq,AV.ew,ne_eq,not_true_eq_false]at hd;rename_i b;cases b with
    |true=>have r:=Vp (a:=a) wD (fun t ht=>by subst ht;rw [h.sl t Dn];exact h.rel.cx t) (oW hq h.gs);obtain⟨f',g1,g2⟩:=G6 r hy;exact Az.pure h (v:=a.eval y) (ex true (Hw q1 hq)) (.e (f:=f') (by simpa [E.den,hq,AV.cond]using g1) g2 .nil) rfl
    |false=>have r:=Vp (a:=a) BJ (fun t ht=>by subst ht;rw [h.sl t Oa];exact h.rel.cx t) (oW hq h.gs);obtain⟨f',g1,g2⟩:=G6 r hz;exact Az.pure h (v:=a.eval z) (ex false (Hw q1 hq)) (.e (f:=f') (by simpa [E.den,hq,AV.cond]using g1) g2 .nil) rfl
   ·cases he
 ·cases he
end
section
variable {P:Program} {c:Cx} {n nx:Nat} {sl sl0:Nat→SV} {hp hp0:Nat→Option Ai} {a:Act} {o:Oper} {gs:Gd} {e:AY} {sg:BC} {nv:Nat}
theorem aP {w:World} {v:Value} {x:AV} {f:List Nat} (h:Rd w [v] [x] f) (h1: ∀cs,x≠ .agg cs) (h2: ∀cs,x≠ .tup cs):v.oneCell'=true:=by
 cases h<;>first
  |rfl
  |exact absurd rfl (h1 _)
  |exact absurd rfl (h2 _)
theorem one_cells {v:Value} (h:v.oneCell'=true):v.cells= #[v]:=by cases v<;>first|rfl|(simp [Value.oneCell']at h)
theorem VN {t:TypeId} {s:SV} {v:Value} {cs:List SV} {ck:List Cn} (h:SR c [s] [v]) (hc:PO P t s=some (cs,ck)) (hk: ∀q∈ck,q.den c.ρ):
  SR c cs v.cells.toList∧(∀u∈v.cells.toList,u.oneCell'=true):=by
 unfold PO at hc;split at hc
 ·split at hc
  ·simp at hc;obtain⟨rfl,rfl⟩:=hc;cases h with
   |agg h1 h2 _=>exact⟨by simpa [Value.cells]using h2,by simpa [Value.cells]using h1⟩
  ·rename_i x;simp at hc;obtain⟨rfl,rfl⟩:=hc;cases h with
   |e h1 h2 _=>
    obtain⟨as_,has,hl⟩:=BE hk;obtain⟨vs,rfl,h3,h4⟩:=IZ h1 has;refine⟨?_,by simpa [Value.cells]using h3⟩;have hlen:=h4.len;have key: ∀k,k≤as_.length→SR c ((List.range k).map fun j=>SV.e (.fld x j 1 false)) (vs.take k):=by
     intro k
     induction k with
     |zero=>intro _;simpa using SR.nil
     |succ k ih=>
      intro hk;have Bz:k<as_.length:=by omega
      obtain⟨u,g,hu,hg,hr⟩:=h4.at (show as_[k]?=some as_[k] by simp [Bz])
      rw [List.range_succ,List.map_append,List.take_succ_eq_append_getElem (by omega)];refine(ih (by omega)).app ?_;have E6:vs[k]'(by omega)=u:=by simpa [show k<vs.length by omega]using hu
      rw [E6];exact .e (f:=g) (by simpa [E.den,AV.fld,has,AV.cells,Bz]using hr) (fun b hb=>h2 b (hg b hb)) .nil
    have:=key as_.length (Nat.le_refl _);rw [←hlen,List.take_length,hlen,hl]at this;simpa [Value.cells]using this
  ·cases hc
 ·split at hc
  ·rename_i x;simp at hc;obtain⟨rfl,rfl⟩:=hc;cases h with
   |e h1 h2 _=>
    have hq:(∀cs,x.den c.ρ≠ .agg cs)∧ ∀cs,x.den c.ρ≠ .tup cs:=by
     cases x<;>first
      |exact(BE hk:Cn.den c.ρ (.cells _ 1))
      |exact⟨by simp [E.den],by simp [E.den]⟩
    have HK:=aP h1 hq.1 hq.2;rw [one_cells HK];exact⟨.e h1 h2 .nil,by simpa using HK⟩
  ·cases hc
  ·cases hc
  ·cases hc
  ·cases hc
  ·cases hc
  ·cases hc
  ·cases hc
  ·cases hc
  ·simp at hc;obtain⟨rfl,rfl⟩:=hc;have HK:v.oneCell'=true:=by
    cases h<;>first|rfl|(rename_i hh _ _ _ _ _;exact absurd rfl (hh _))|skip
    all_goals first
     |rfl
     |exact(show∀(i:Nat),SV.lent _=SV.lent i→False from by assumption) _ rfl|>.elim
     |exact(show∀(t g n:Nat) (p:Md) (x:E),SV.via _ _ _ _ _=SV.via t g n p x→False from by assumption) _ _ _ _ _ rfl|>.elim
     |exact(show∀(t g n:Nat) (p:Md) (x i:E) (sz o:Nat),SV.vptr _ _ _ _ _ _ _ _=SV.vptr t g n p x i sz o→False from by assumption) _ _ _ _ _ _ _ _ rfl|>.elim
     |(exfalso;simp_all;done)
   rw [one_cells HK];exact⟨h,by simpa using HK⟩
theorem yV (h:Bf P c n nx sl hp a sl0 hp0 o gs) (ob:Obj) (hv:Value):L6 c (c.new nx ob hv []) nx:=
 ⟨rfl,rfl,rfl,rfl,fun t ht=>ht.imp id (fun hh=>by subst hh;exact⟨Nat.le_refl _,by simp [Br]⟩)⟩
theorem Nr (h:Bf P c n nx sl hp a sl0 hp0 o gs): ¬c.U nx:=h.new nx (Nat.le_refl _) (by omega)
theorem Az.box (h:Bf P c n nx sl hp a sl0 hp0 o gs) {ty:TypeId} {g:Bool} {cs:List SV} {v:Value} {ck:List Cn} (hr:(execOp a.eval o).run P c.w= .ok (.value (.pointer (some ⟨c.w.heap.size,0,none⟩))) (c.w.alloc (.cells v.cells ty)))
  (hs:SR c cs v.cells.toList) (h1: ∀u∈v.cells.toList,u.oneCell'=true):Az P o c n nx sl hp gs a {bw:=ck,val:= .cd nx 0,bf:= [(nx,Cy gs (.box ty g cs))]}:=by
 intro next Q hk
 unfold Oper.wp;rw [hr,Oper.upon_value];have hU:=Nr h;have keep:Di c (c.new nx (.cells v.cells ty) (.pointer (some ⟨c.w.heap.size,0,none⟩)) []):=Cx.gq (fun g hg=>hU (h.rel.br _ _ hg));have hH:(c.new nx (.cells v.cells ty) (.pointer (some ⟨c.w.heap.size,0,none⟩)) []).H nx 0= .pointer (some ⟨c.w.heap.size,0,none⟩):=by simp [Cx.new]
 have hK:(c.new nx (.cells v.cells ty) (.pointer (some ⟨c.w.heap.size,0,none⟩)) []).K nx 0:= .inr ⟨rfl,rfl⟩;have Ap:=h.rel.new hU (.cells v.cells ty) (.pointer (some ⟨c.w.heap.size,0,none⟩)) (.box ty g cs) gs h.gs (by intros;simp)
  ⟨c.w.heap.size,v.cells,hK,hH,by simp [Cx.new],by simp [Cx.new],heap_alloc_new _ _,h1,hs.keep keep⟩
 exact hk _ _ (yV h _ _) (Ap.put ((SR.cd hK hH .nil).mkGd gs h.gs) o.dst)
theorem zvb (h:Bf P c n nx sl hp a sl0 hp0 o gs) {t:TypeId} (ho:o.op= .alloc t) (he:Bq P sg sl0 hp0 nv nx gs o=some e) (hc: ∀q∈e.bw,Cn.den c.ρ q):Az P o c n nx sl hp gs a e:=by
 simp only [Bq,ho,Au]at he;obtain⟨z,⟨i,hi,hz⟩,s,hs,⟨cs,ck⟩,Bd,he⟩:=he;split at he
 ·cases he
 ·split at he
  ·cases he
  ·rename_i JX;have JX:ck= []:=by simpa using JX
   simp at he;subst he;have A4:Eo z=some s:=by simpa [tB,hi,hz]using hs
   obtain⟨q1,q2⟩:=VN (VH (c:=c) A4) Bd (by simp [JX]);refine Az.box h (v:=z) ?_ q1 q2;simp [execOp,ho,Instr.alloc,zeroValue,typeInfo,hi,hz,newVar,newRow]
theorem zyO (h:Bf P c n nx sl hp a sl0 hp0 o gs) {t:TypeId} {x:Operand} (ho:o.op= .box t x) (he:Bq P sg sl0 hp0 nv nx gs o=some e) (hc: ∀q∈e.bw,Cn.den c.ρ q):Az P o c n nx sl hp gs a e:=by
 have hm:x∈o.op.operands:=by simp [ho,Op.operands]
 simp only [Bq,ho,Au]at he;obtain⟨s,hs,⟨cs,ck⟩,Bd,he⟩:=he;split at he
 ·cases he
 ·simp at he;subst he;obtain⟨q1,q2⟩:=VN (h.cu hs hm) Bd hc;refine Az.box h (v:=a.eval x) ?_ q1 q2;simp [execOp,ho,Instr.box,newVar,newRow]
end
section
variable {P:Program} {c:Cx} {n nx:Nat} {sl sl0:Nat→SV} {hp hp0:Nat→Option Ai} {a:Act} {o:Oper} {gs:Gd} {e:AY} {sg:BC} {nv:Nat}
def setVs {α:Type} (cs:List α) (o:Nat) (vs:List α):List α:=cs.take o++vs++cs.drop (o+vs.length)
theorem Pw {α:Type} (cs vs:List α) (o:Nat) (h:o+vs.length≤cs.length) (i:Nat):(setVs cs o vs)[i]?=if o≤i∧i<o+vs.length then vs[i-o]? else cs[i]?:=by
 unfold setVs;have ht:(cs.take o).length=o:=by rw [List.length_take];omega
 rw [List.append_assoc];by_cases h1:i<o
 ·rw [if_neg (by omega),List.getElem?_append_left (by omega),List.getElem?_take,if_pos h1]
 ·rw [List.getElem?_append_right (by omega),ht];by_cases h2:i<o+vs.length
  ·rw [if_pos (by omega),List.getElem?_append_left (by omega)]
  ·rw [if_neg (by omega),List.getElem?_append_right (by omega),List.getElem?_drop];congr 1;omega
theorem Ps {α:Type} (cs vs:List α) (o:Nat) (h:o+vs.length≤cs.length):(setVs cs o vs).length=cs.length:=by simp [setVs];omega
theorem SR.setVs {cs vs:List SV} {C V:List Value} {k:Nat} (h:SR c cs C) (hv:SR c vs V):SR c (P9 cs k vs) (Go.Proofs.YtollgpkegmbpmaaGreatDoor.setVs C k V):=by unfold P9 Go.Proofs.YtollgpkegmbpmaaGreatDoor.setVs;have hl:=hv.len;rw [←hl];exact((h.split k).1.app hv).app (h.split _).2
theorem pV (vs:List Value): ∀(k off:Nat) (C:Array Value),off+k+vs.length≤C.size→
  ((vs.zipIdx k).foldl (fun cs (p:Value × Nat)=>cs.setIfInBounds (off+p.2) p.1) C).toList=setVs C.toList (off+k) vs:=by
 induction vs with
 |nil=>intro k off C _;simp [setVs]
 |cons v vs ih=>
  intro k off C h;simp only [Am]at h;simp only [List.zipIdx_cons,List.foldl_cons];rw [ih (k+1) off _ (by simp;omega)];apply List.ext_getElem?;intro i;rw [Pw _ _ _ (by simp;omega),Pw _ _ _ (by simp;omega)];simp only [Array.toList_setIfInBounds,List.getElem?_set,Am,Array.length_toList];by_cases h1:i=off+k
  ·subst h1;rw [if_neg (by omega),if_pos rfl,if_pos (by omega),if_pos (by omega)];simp
  ·by_cases h2:off+(k+1)≤i∧i<off+(k+1)+vs.length
   ·rw [if_pos h2,if_pos (by omega),show i-(off+k)=(i-(off+(k+1)))+1 by omega,List.getElem?_cons_succ]
   ·rw [if_neg h2,if_neg (by omega),if_neg (by omega)]
theorem aB {b off:Nat} {t:TypeId}: ∀(vs:List Value) (i:Nat) (w:World) (C:Array Value),w.heap[b]?=some (.cells C t (0,0))→off+i+vs.length≤C.size→(∀v∈vs,v.oneCell'=true)→
  (storeCells ⟨b,off,none⟩ vs i).run P w= .ok () (putCells w b (off+i) vs)
 | [],i,w,C,_,_,_=>by simp [storeCells,putCells]
 |v::vs,i,w,C,hb,hl,h1=>by
  simp only [Am]at hl;have hi:off+i<C.size:=by omega
  have BR:w.cell? ⟨b,off+i,none⟩=some C[off+i]:=by simp [World.cell?,hb,hi]
  have Xw:w.frozen? ⟨b,off+i,none⟩=false:=by simp [World.frozen?,hb]
  have ID:(store ((⟨b,off,none⟩:Addr).add i) v).run P w= .ok () (w.setCell ⟨b,off+i,none⟩ v):=by rw [Addr.add_lit,run_store P w _ v _ (h1 v (by simp)),BR];simp [Xw]
  have h2:=heap_setCell_same w b (off+i) C t v hb;have ih:=aB (off:=off) vs (i+1) (w.setCell ⟨b,off+i,none⟩ v) _ h2 (by simp;omega) (fun x hx=>h1 x (by simp [hx]));simp only [storeCells,Sem.run_bind,ID,Result.andThen_ok,ih,putCells];rw [Nat.add_assoc]
theorem Vf {w:World} {b off:Nat} {t:TypeId} {vs:List Value} {C:Array Value} (hb:w.heap[b]?=some (.cells C t (0,0))) (hl:off+vs.length≤C.size):
  Mod [b] w (putCells w b off vs)∧(putCells w b off vs).heap[b]?=some (.cells (setVs C.toList off vs).toArray t (0,0))∧(putCells w b off vs).heap.size=w.heap.size:=by
 obtain⟨hm,C',h1,h2,h3,h4⟩:=Z7 vs w b off C t hb hl;refine⟨hm, ?_, ?_⟩
 ·rw [h1];congr 2;apply Array.ext';apply List.ext_getElem?;intro i;rw [Pw _ _ _ (by simpa using hl)];by_cases hi:off≤i∧i<off+vs.length
  ·rw [if_pos hi];have Ax:i-off<vs.length:=by omega
   have:=h3 (i-off) vs[i-off] (by simp [Ax]);rw [show off+(i-off)=i by omega]at this;rw [Array.getElem?_toList,this];simp [Ax]
  ·rw [if_neg hi,Array.getElem?_toList,Array.getElem?_toList];exact h4 i (by omega)
 ·clear hm h1 h2 h3 h4 hl
  induction vs generalizing w off C with
  |nil=>rfl
  |cons v vs ih=>simp only [putCells];rw [ih (heap_setCell_same w b off C t v hb)];simp [World.setCell]
theorem aO {w:World} {b off:Nat} {t ty:TypeId} {v:Value} {C:Array Value} (hb:w.heap[b]?=some (.cells C ty (0,0))) (ht:CU P t=true) (hs:v.cells.size=P.cellsOf t) (hl:off+v.cells.size≤C.size) (h1: ∀u∈v.cells.toList,u.oneCell'=true):
  (Instr.storeAt t (.pointer (some ⟨b,off,none⟩)) v).run P w= .ok () (putCells w b off v.cells.toList):=by
 have:=aB (P:=P) (off:=off) v.cells.toList 0 w C hb (by simpa using hl) h1;simp only [Nat.add_zero]at this;simp [Instr.storeAt,Instr.sureAddr,storeVar,Nf ht,hs,this]
def Cx.wr (c:Cx) (w':World) (t:Nat):Cx:={c with w:=w',E:=fun u=>if u=t then c.E u+1 else c.E u}
theorem Cx.ij {c:Cx} {w':World} {t b:Nat} (gw:GW c) (Ch:b∈(c.G t).top) (hm:Mod [b] c.w w'):Di c (c.wr w' t):=by
 have Bh:b∈(c.G t).own:=by simp [GI.own,Ch]
 refine⟨rfl,rfl,fun q _ hq=>hq,fun q hq AF=>hm.block q hq ?_,fun u g hu=>⟨hu,rfl⟩,fun u g hu=> ?_⟩
 ·simp only [List.mem_singleton];rintro rfl;exact AF.1 ⟨t,Ch⟩
 ·by_cases FR:u=t
  ·have e1:(c.wr w' t).E u=c.E u+1:=by simp only [Cx.wr,if_pos FR]
   exact⟨by omega,fun h=>by omega⟩
  ·have e1:(c.wr w' t).E u=c.E u:=by simp only [Cx.wr,if_neg FR]
   rw [e1];refine⟨Nat.le_refl _,fun _=>⟨rfl,fun q hq Fh=>hm.block q Fh ?_⟩⟩;simp only [List.mem_singleton];rintro rfl;exact gw.cj t u (Ne.symm FR) q Bh (by simp [GI.own,hq])
theorem Rel.write (h:Rel c n sl hp a) {t:Nat} {e0:Ai} {b:Nat} {w':World} (AP:Ce c.ρ (hp t) e0) (Ch:b∈(c.G t).top) (hm:Mod [b] c.w w') (BJ:w'.heap.size=c.w.heap.size) (e1:Ai) (Bt: ∀hs f,e1≠ .gd hs f)
  (he:CK (c.wr w' t) t e1):Rel (c.wr w' t) n sl (A2 hp [(t,e1)]) a∧Di c (c.wr w' t):=by
 have Bh:b∈(c.G t).own:=by simp [GI.own,Ch]
 have BF:Di c (c.wr w' t):=Cx.ij h.gw Ch hm;have Dq: ∀u,A2 hp [(t,e1)] u=if u=t then some e1 else hp u:=fun u=>rfl;refine⟨h.change (fun u=>u=t) BF ⟨hm.os.trans h.base.os,hm.tape.trans h.base.tape,hm.output.trans h.base.output,Nat.le_trans h.base.size hm.size,h.base.pins,fun q hq Fx=> ?_,h.base.pk,h.base.lo⟩
  (fun u hu=>⟨by rw [Dq,if_neg hu],rfl,by simp [Cx.wr,hu],fun g hg=>hg⟩) (fun u hu q hq=>hm.block q (h.gw.inb u q (by simp [GI.own,hq])) ?_) (fun u hu=> ?_) ⟨h.gw.nodup,h.gw.cj,h.gw.allow,fun u q hq=> ?_⟩ h.br (fun u f hf=> ?_),BF⟩
 ·refine(hm.block q (Nat.lt_of_lt_of_le hq h.base.size) ?_).trans (h.base.block q hq Fx);simp only [List.mem_singleton];rintro rfl;rcases h.gw.allow t q Bh with hh|hh
  ·exact absurd hh (Nat.not_le.2 hq)
  ·exact Fx hh
 ·simp only [List.mem_singleton];rintro rfl;exact h.gw.cj t u (Ne.symm hu) q Bh (by simp [GI.own,hq])
 ·subst hu;rw [Dq,if_pos rfl];refine⟨fun e' hr=> ?_,fun hn=> ?_⟩
  ·cases e1<;>first
    |(simp only [Ce]at hr;subst hr;exact he)
    |exact absurd rfl (Bt _ _)
  ·cases e1<;>first
    |exact absurd rfl (Bt _ _)
    |exact absurd rfl (hn _)
 ·show q<w'.heap.size;rw [BJ];exact h.gw.inb u q hq
 ·rw [Dq]at hf;split at hf
  ·rename_i hu;subst hu;cases hh:hp u with
   |none=>rw [hh]at AP;exact AP.elim
   |some e9=>exact h.cm u e9 hh
  ·exact h.cm u f hf
end
section
variable {P:Program} {c:Cx} {n nx:Nat} {sl sl0:Nat→SV} {hp hp0:Nat→Option Ai} {a:Act} {o:Oper} {gs:Gd} {e:AY} {sg:BC} {nv:Nat}
theorem zrd (h:Bf P c n nx sl hp a sl0 hp0 o gs) {t:TypeId} {x y:Operand} (ho:o.op= .store t x y) {b k:Nat} {s:SV} (hx:Bx sl0 gs x=some (.cd b k)) (hy:Bx sl0 gs y=some s)
  (he:LI P hp0 gs t (.cd b k) s=some e) (hc: ∀q∈e.bw,Cn.den c.ρ q):Az P o c n nx sl hp gs a e:=by
 have r1:=h.cu hx (by simp [ho,Op.operands]);have r2:=h.cu hy (by simp [ho,Op.operands]);simp only [LI]at he;split at he
 ·rename_i ty g cs vs ck hl Bd;split at he
  ·rename_i hh;obtain⟨Bc,hlen,hle,rfl⟩:=hh;simp at he;subst he;obtain⟨q1,q2⟩:=VN r2 Bd hc;generalize hv:a.eval x=v at r1;cases r1 with
   |cd h1 h2 h3=>
    rename_i q;have EM:=CD hl h.gs;obtain⟨q',C,e1,e2,e3,e4,e5,e5',e6⟩:=h.eh b _ EM;rw [h2]at e2;cases e2;have AP:Ce c.ρ (hp b) (.box ty g cs):=by
     cases hh:hp0 b with
     |none=>rw [hh]at EM;exact EM.elim
     |some e9=>rw [h.hp b e9 hh];rwa [hh]at EM
    have MB:=e6.len;have XP:=q1.len;obtain⟨m1,m2,m3⟩:=Vf (vs:=(a.eval y).cells.toList) e5 (show k+_≤C.size by simp at MB XP ⊢;omega);obtain⟨Ap,BF⟩:=h.rel.write AP (by rw [e3];simp) m1 m3 (.box ty g (P9 cs k vs)) (by intros;simp) (w':=putCells c.w q k (a.eval y).cells.toList) (by
     have Bz:Di c (c.wr (putCells c.w q k (a.eval y).cells.toList) b):=Cx.ij h.rel.gw (by rw [e3];simp) m1;refine⟨q,_,e1,h2,e3,e4,m2, ?_, ?_⟩
     ·intro u hu;simp only [List.toList_toArray]at hu;unfold setVs at hu;simp only [Ah]at hu;rcases hu with(hu|hu)|hu
      ·exact e5' u (List.mem_of_mem_take hu)
      ·exact q2 u hu
      ·exact e5' u (List.mem_of_mem_drop hu)
     ·simpa using(e6.setVs q1 (k:=k)).keep Bz)
    intro next Q hk
    unfold Oper.wp;have hr:(execOp a.eval o).run P c.w= .ok .skip (putCells c.w q k (a.eval y).cells.toList):=by have:=aO (P:=P) (t:=t) (v:=a.eval y) (off:=k) e5 Bc (by simp at XP;omega) (by simp at MB XP;omega) q2;simp [execOp,ho,hv,this]
    rw [hr,Oper.upon_skip];exact hk _ (c.wr (putCells c.w q k (a.eval y).cells.toList) b) ⟨rfl,rfl,rfl,rfl,fun t ht=> .inl ht⟩ (Ap.put ((SR.undef .nil).mkGd []) o.dst)
  ·cases he
 ·cases he
theorem pR {places:List (Nat × Nat)} {tys:List TypeId}: ∀(ps:List (Nat × SV)) (vs:List (Nat × Value)) (cs:List SV) (C:Array Value) (r:List SV × List Cn),S7 P places tys ps cs=some r→(∀q∈r.2,q.den c.ρ)→
  ps.map (·.1)=vs.map (·.1)→SR c (ps.map (·.2)) (vs.map (·.2))→SR c cs C.toList→(∀u∈C.toList,u.oneCell'=true)→
  ∃C',Instr.fill (places.toArray[·]?) C vs=some C'∧SR c r.1 C'.toList∧ ∀u∈C'.toList,u.oneCell'=true
 | [],vs,cs,C,r,h,hk,he,_,hC,h1=>by
  have:vs= []:=by simpa using he.symm
  subst this;simp [S7]at h;subst h;exact⟨C,rfl,hC,h1⟩
 |(i,s)::ps, [],cs,C,r,h,hk,he,_,hC,h1=>by simp at he
 |(i,s)::ps,(j,v)::vs,cs,C,r,h,hk,he,hs,hC,h1=>by
  simp only [List.map_cons,List.cons.injEq]at he;obtain⟨rfl,he⟩:=he;simp only [List.map_cons]at hs;obtain⟨Bu,AU⟩:=hs.bz;unfold S7 at h;split at h
  ·rename_i off sz t GR Bc;split at h
   ·rename_i us ck Bd;split at h
    ·rename_i hh;obtain⟨BJ,hle⟩:=hh;obtain⟨r',CR,rfl⟩:=Aq.1 h;obtain⟨q1,q2⟩:=VN Bu Bd (fun q hq=>hk q (by simp [hq]));have J5:=q1.len;have TB:=hC.len;have K4:(v.cells.zipIdx.foldl (fun cs (p:Value × Nat)=>cs.setIfInBounds (off+p.2) p.1) C).toList=setVs C.toList off v.cells.toList:=by
      have:=pV v.cells.toList 0 off C (by simp at J5 TB ⊢;omega);rw [←Array.foldl_toList,Array.toList_zipIdx];simpa using this
     obtain⟨C',g1,g2,g3⟩:=pR ps vs (P9 cs off us) (v.cells.zipIdx.foldl (fun cs (p:Value × Nat)=>cs.setIfInBounds (off+p.2) p.1) C) r' CR (fun q hq=>hk q (by simp [hq])) he AU (by rw [K4];exact hC.setVs q1) (by
      rw [K4];intro u hu;unfold setVs at hu;simp only [Ah]at hu;rcases hu with(hu|hu)|hu
      ·exact h1 u (List.mem_of_mem_take hu)
      ·exact q2 u hu
      ·exact h1 u (List.mem_of_mem_drop hu))
     refine⟨C', ?_,g2,g3⟩;unfold Instr.fill;have Yb:places.toArray[i]?=some (off,sz):=by simpa using GR
     simp only [Yb];rw [if_neg (by simp at J5 TB ⊢;omega)];exact g1
    ·cases h
   ·cases h
  ·cases h
theorem VM {sl0:Nat→SV} {gs:Gd} (L:List Operand) (h: ∀x s,Bx sl0 gs x=some s→x∈L→SR c [s] [a.eval x]): ∀{xs:List (Nat × Operand)} {ss:List (Nat × SV)},(∀x∈xs,x.2∈L)→xs.mapM (fun(p:Nat × Operand)=>(Bx sl0 gs p.2).map fun s=>(p.1,s))=some ss→
  ss.map (·.1)=xs.map (·.1)∧SR c (ss.map (·.2)) (xs.map fun p=>a.eval p.2)
 | [],ss,_,hm=>by simp at hm;subst hm;exact⟨rfl, .nil⟩
 |x::xs,ss,hL,hm=>by rw [List.mapM_cons]at hm;simp only [Option.bind_eq_bind,Au,Aq]at hm;obtain⟨_,⟨s,hs,rfl⟩,ss',FE,hm⟩:=hm;simp at hm;subst hm;obtain⟨e1,e2⟩:=VM L h (fun y hy=>hL y (by simp [hy])) FE;exact⟨by simp [e1],(h _ s hs (hL x (by simp))).app e2⟩
theorem zu1 (h:Bf P c n nx sl hp a sl0 hp0 o gs) {t:TypeId} {parts:Array (Nat × Operand)} (ho:o.op= .build t parts) (he:Bq P sg sl0 hp0 nv nx gs o=some e) (hc: ∀q∈e.bw,Cn.den c.ρ q):Az P o c n nx sl hp gs a e:=by
 simp only [Bq,ho,Au]at he;obtain⟨ps,Lg,he⟩:=he;obtain⟨e1,e2⟩:=VM (c:=c) (a:=a) (parts.toList.map (·.2)) (fun x s hx hm=>h.cu hx (by simpa [ho,Op.operands]using hm)) (fun x hx=>List.mem_map.2 ⟨x,hx,rfl⟩) Lg;unfold qX at he;split at he
 ·rename_i it fs hit hu;split at he
  ·rename_i zs places hz GR;obtain⟨r,hr,rfl⟩:=Aq.1 he;obtain⟨z,TQ,TR⟩:=Au.1 hz;have iI:=VH (c:=c) TR;obtain⟨cells,g1,g2,g3⟩:=pR (c:=c) (P:=P) ps (parts.toList.map fun p=>(p.1,a.eval p.2)) zs.toList z.cells r hr hc (by rw [e1];simp) (by rw [List.map_map];exact e2)
    (by cases iI with|agg h1 h2 _=>simpa [Value.cells]using h2) (by cases iI with|agg h1 h2 _=>simpa [Value.cells]using h1)
   have hb:P.built t (parts.map fun(x:Nat × Operand)=>(x.1,a.eval x.2)).toList=some cells:=by simp only [Program.built,hit,hu,TQ,GR];simpa using g1
   have:=SR.agg (c:=c) (cs:=Bl.of r.1) (as_:=cells.toList) g3 (by rw [Bl.aq];exact g2) .nil;refine Az.pure h (v:= .agg cells) ?_ (by simpa using this) rfl;have AQ:=run_build c.w t _ cells hb;simp only [execOp,ho,Sem.run_bind];rw [AQ];rfl
  ·cases he
 ·cases he
end
section
variable {P:Program} {c:Cx} {n nx:Nat} {sl sl0:Nat→SV} {hp hp0:Nat→Option Ai} {a:Act} {o:Oper} {gs:Gd} {e:AY} {sg:BC} {nv:Nat}
def Cx.bm (c:Cx) (ts:List Nat):Cx:={c with G:=fun u=>if u∈ts then⟨[], []⟩else c.G u,E:=fun u=>if u∈ts then c.E u+1 else c.E u}
theorem Cx.jc {c:Cx} {ts:List Nat} {b:Nat} (h:(c.bm ts).M b): ∃u,u∉ts∧b∈(c.G u).top:=by
 obtain⟨u,hu⟩:=h;simp only [Cx.bm]at hu;split at hu
 ·simp at hu
 ·exact⟨u,by assumption,hu⟩
theorem Cx.er {c:Cx} {ts:List Nat} {b:Nat} (h:c.ok b):(c.bm ts).ok b:=⟨fun hm=>by obtain⟨u,_,hu⟩:=Cx.jc hm;exact h.1 ⟨u,hu⟩,h.2⟩
theorem Cx.jo (c:Cx) (ts:List Nat):Di c (c.bm ts):=⟨rfl,rfl,fun _ _ h=>Cx.er h,fun _ _ _=>rfl,fun _ _ h=>⟨h,rfl⟩,fun t g _=>by
 by_cases ht:t∈ts
 ·have e1:(c.bm ts).E t=c.E t+1:=by simp only [Cx.bm,if_pos ht]
  exact⟨by omega,fun h=>by omega⟩
 ·have e1:(c.bm ts).E t=c.E t:=by simp only [Cx.bm,if_neg ht]
  have e2:(c.bm ts).G t=c.G t:=by simp only [Cx.bm,if_neg ht]
  rw [e1];exact⟨Nat.le_refl _,fun _=>⟨e2,fun _ _ _=>rfl⟩⟩⟩
theorem rJ {c:Cx} (gw:GW c) {ts us:List Nat} (hs: ∀t∈us,t∈ts) {b:Nat} (h:c.ed us b):(c.bm ts).ok b:=by
 rcases h with h|⟨t,ht,hb⟩
 ·exact Cx.er h
 ·have Bh:b∈(c.G t).own:=by simp [GI.own,hb]
  refine⟨fun hm=> ?_, .inr (gw.allow t b Bh)⟩;obtain⟨u,hu,Hn⟩:=Cx.jc hm;have:t≠u:=fun hh=>hu (hh▸hs t ht);exact gw.cj t u this b Bh (by simp [GI.own,Hn])
def KC (e:Ai) (g:Nat) (x:E):Prop:=(∃ety sz d,e= .row ety sz g x d)∨ ∃ety sz l ep,e= .deep ety sz l g ep x
theorem KC.ne {e:Ai} {g:Nat} {x:E} (h:KC e g x): ∀hs f,e≠ .gd hs f:=by rcases h with⟨_,_,_,rfl⟩|⟨_,_,_,_,rfl⟩<;>intros<;>simp
theorem KC.rd {e:Ai} {g t:Nat} {x:E} (h:KC e g x) (k:CK c t e):c.K t g∧ ∃f,Rd c.w [c.H t g] [x.den c.ρ] f∧ ∀b∈f,b∈(c.G t).top∨c.ok b:=by
 rcases h with⟨_,_,_,rfl⟩|⟨_,_,_,_,rfl⟩
 ·obtain⟨q1,q2,N,q3,q4,_⟩:=k;obtain⟨f,r1,r2,_⟩:=q3.rd;exact⟨q1,f,r1,fun b hb=>(r2 b hb).imp id (q4 b)⟩
 ·obtain⟨q1,q2,_,q3,_⟩:=k;obtain⟨f,r1,r2⟩:=q3.rd;exact⟨q1,f,r1,fun b hb=> .inl (r2 b hb)⟩
theorem KC.fun {e:Ai} {g g':Nat} {x x':E} (h:KC e g x) (k:KC e g' x'):g=g'∧x=x':=by rcases h with⟨_,_,_,rfl⟩|⟨_,_,_,_,rfl⟩<;>rcases k with⟨_,_,_,hh⟩|⟨_,_,_,_,hh⟩<;>cases hh<;>exact⟨rfl,rfl⟩
theorem Nd {gs:Gd} {ρ:List AV} (k:A5 ρ gs): ∀{ts:List Nat} {l:List (Nat × Ai)},Df hp0 gs ts=some l→
  (∀t e,(t,e)∈l→t∈ts∧gs= []∧ ∃g x f,e= .bm g x∧Ce ρ (hp0 t) f∧KC f g x)∧
  (∀t∈ts,(∃g x,(t,Ai.bm g x)∈l)∨(∃g x,Ce ρ (hp0 t) (.bm g x))∨ ∃ty g cs,Ce ρ (hp0 t) (.box ty g cs))
 | [],l,h=>by simp [Df]at h;subst h;simp
 |t::ts,l,h=>by
  unfold Df at h;split at h
  ·rename_i ety sz g x d l' hl Bw;split at h
   ·rename_i hg;simp at h;subst h;obtain⟨h1,h2⟩:=Nd k Bw;refine⟨fun u e hu=> ?_,fun u hu=> ?_⟩
    ·rcases Ae.1 hu with hu|hu
     ·cases hu;exact⟨by simp,by simpa using hg,g,x,_,rfl,CD hl k, .inl ⟨_,_,_,rfl⟩⟩
     ·obtain⟨p,q,r⟩:=h1 u e hu;exact⟨by simp [p],q,r⟩
    ·rcases Ae.1 hu with rfl|hu
     ·exact .inl ⟨g,x,by simp⟩
     ·rcases h2 u hu with⟨g',x',hh⟩|hh
      ·exact .inl ⟨g',x',by simp [hh]⟩
      ·exact .inr hh
   ·cases h
  ·rename_i ety sz dl g ep x l' hl Bw;split at h
   ·rename_i hg;simp at h;subst h;obtain⟨h1,h2⟩:=Nd k Bw;refine⟨fun u e hu=> ?_,fun u hu=> ?_⟩
    ·rcases Ae.1 hu with hu|hu
     ·cases hu;exact⟨by simp,by simpa using hg,g,x,_,rfl,CD hl k, .inr ⟨_,_,_,_,rfl⟩⟩
     ·obtain⟨p,q,r⟩:=h1 u e hu;exact⟨by simp [p],q,r⟩
    ·rcases Ae.1 hu with rfl|hu
     ·exact .inl ⟨g,x,by simp⟩
     ·rcases h2 u hu with⟨g',x',hh⟩|hh
      ·exact .inl ⟨g',x',by simp [hh]⟩
      ·exact .inr hh
   ·cases h
  ·rename_i g x l' hl Bw;simp at h;subst h;obtain⟨h1,h2⟩:=Nd k Bw;refine⟨fun u e hu=> ?_,fun u hu=> ?_⟩
   ·obtain⟨p,q,r⟩:=h1 u e hu;exact⟨by simp [p],q,r⟩
   ·rcases Ae.1 hu with rfl|hu
    ·exact .inr (.inl ⟨g,x,CD hl k⟩)
    ·exact h2 u hu
  ·rename_i ty g cs l' hl Bw;simp at h;subst h;obtain⟨h1,h2⟩:=Nd k Bw;refine⟨fun u e hu=> ?_,fun u hu=> ?_⟩
   ·obtain⟨p,q,r⟩:=h1 u e hu;exact⟨by simp [p],q,r⟩
   ·rcases Ae.1 hu with rfl|hu
    ·exact .inr (.inr ⟨ty,g,cs,CD hl k⟩)
    ·exact h2 u hu
  ·cases h
theorem Kx {hp:Nat→Option Ai}: ∀{l:List (Nat × Ai)} {t:Nat},(∀e,(t,e)∉l)→A2 hp l t=hp t
 | [],_,_=>rfl
 |(u,e)::l,t,h=>by
  have ht:t≠u:=by rintro rfl;exact h e (by simp)
  have:=Kx (hp:=fun v=>if v=u then some e else hp v) (l:=l) (t:=t) (fun e' Ei=>h e' (by simp [Ei]));simp only [A2,List.foldl_cons]at this ⊢;rw [this,if_neg ht]
theorem dZ {hp:Nat→Option Ai}: ∀{l:List (Nat × Ai)} {t:Nat} {e:Ai},(t,e)∈l→(∀e',(t,e')∈l→e'=e)→A2 hp l t=some e
 | [],_,_,h,_=>by simp at h
 |(u,f)::l,t,e,h,hu=>by
  simp only [A2,List.foldl_cons];by_cases hm: ∃e',(t,e')∈l
  ·obtain⟨e',Ei⟩:=hm;have:=hu e' (by simp [Ei]);subst this;exact dZ (hp:=fun v=>if v=u then some f else hp v) Ei (fun e'' tH=>hu e'' (by simp [tH]))
  ·have hn: ∀e',(t,e')∉l:=fun e' Ei=>hm ⟨e',Ei⟩;have:=Kx (hp:=fun v=>if v=u then some f else hp v) (l:=l) (t:=t) hn;simp only [A2]at this;rw [this];rcases Ae.1 h with h|h
   ·cases h;simp
   ·exact absurd h (hn e)
theorem KJ (hs: ∀t e,hp0 t=some e→hp t=some e) {ρ:List AV} {t:Nat} {e:Ai} (h:Ce ρ (hp0 t) e):Ce ρ (hp t) e:=by
 cases hh:hp0 t with
 |none=>rw [hh]at h;exact h.elim
 |some e9=>rw [hs t e9 hh];rwa [hh]at h
theorem xQ {ρ:List AV} {o:Option Ai} {e f:Ai} (h:Ce ρ o e) (k:Ce ρ o f):e=f:=by
 cases o with
 |none=>exact h.elim
 |some o=>
  cases o with
  |gd gs x=>exact h.2.symm.trans k.2
  |box=>exact h.symm.trans k
  |row=>exact h.symm.trans k
  |bm=>exact h.symm.trans k
  |dead=>exact h.symm.trans k
  |deep=>exact h.symm.trans k
  |hol=>exact h.symm.trans k
theorem Rel.freeze (h:Rel c n sl hp a) (hs: ∀t e,hp0 t=some e→hp t=some e) (k:A5 c.ρ gs) {ts:List Nat} {l:List (Nat × Ai)} (hf:Df hp0 gs ts=some l):
  Rel (c.bm (l.map (·.1))) n sl (A2 hp l) a:=by
 obtain⟨h1,h2⟩:=Nd k hf;have hG: ∀u,(c.bm (l.map (·.1))).G u=if u∈l.map (·.1)then⟨[], []⟩else c.G u:=fun u=>rfl;have IF: ∀t e e',(t,e)∈l→(t,e')∈l→e'=e:=by intro t e e' he Ei;obtain⟨_,_,g,x,_,rfl,r,rl⟩:=h1 t e he;obtain⟨_,_,g',x',_,rfl,r',rl'⟩:=h1 t e' Ei;have:=xQ r r';subst this;obtain⟨rfl,rfl⟩:=rl.fun rl';rfl
 refine h.change (fun u=>u∈l.map (·.1)) (Cx.jo c _) ⟨h.base.os,h.base.tape,h.base.output,h.base.size,h.base.pins,h.base.block,h.base.pk,h.base.lo⟩ (fun u hu=>⟨Kx (fun e he=>hu (List.mem_map.2 ⟨_,he,rfl⟩)),by rw [hG,if_neg hu],by simp only [Cx.bm,if_neg hu],fun g hg=>hg⟩) (fun u hu b hb=>rfl) (fun u hu=> ?_) ?_ h.br (fun u e hu=> ?_)
 ·obtain⟨⟨u',e⟩,he,rfl⟩:=List.mem_map.1 hu;have Dq:=dZ (hp:=hp) he (fun e' Ei=>IF _ _ _ he Ei);obtain⟨_,_,g,x,f0,rfl,r,rl⟩:=h1 u' e he;obtain⟨q1,f,r1,r2⟩:=rl.rd (h.ents u' _ (KJ hs r));have J1:((c.bm (l.map (·.1))).G u').top= []∧((c.bm (l.map (·.1))).G u').O= []:=by rw [hG,if_pos hu];simp
  rw [Dq];refine⟨fun e' hr=> ?_,fun _=>J1⟩;have:e'= .bm g x:=hr.symm;subst this;exact⟨q1,⟨f,r1,fun b hb=>by
   refine rJ h.gw (ts:=l.map (·.1)) (us:= [u']) (by simpa using hu) ?_;rcases r2 b hb with hb|hb
   ·exact .inr ⟨u',by simp,hb⟩
   ·exact .inl hb⟩,J1.1,J1.2⟩
 ·refine⟨fun u=> ?_,fun u v Yr b hb=> ?_,fun u b hb=> ?_,fun u b hb=> ?_⟩
  ·rw [hG];split
   ·simp [GI.own]
   ·exact h.gw.nodup u
  ·rw [hG]at hb ⊢;split at hb
   ·simp [GI.own]at hb
   ·split
    ·simp [GI.own]
    ·exact h.gw.cj u v Yr b hb
  ·rw [hG]at hb;split at hb
   ·simp [GI.own]at hb
   ·exact h.gw.allow u b hb
  ·rw [hG]at hb;split at hb
   ·simp [GI.own]at hb
   ·exact h.gw.inb u b hb
 ·by_cases hm: ∃e',(u,e')∈l
  ·obtain⟨e',Ei⟩:=hm;obtain⟨_,_,g,x,f0,rfl,r,rl⟩:=h1 u e' Ei;have r':=KJ hs r;cases hh:hp u with
   |none=>rw [hh]at r';exact r'.elim
   |some e9=>exact h.cm u e9 hh
  ·rw [Kx (fun e' Ei=>hm ⟨e',Ei⟩)]at hu;exact h.cm u e hu
theorem zvz {ts:List Nat} (h:L1 hp0 gs ts=true) {t:Nat} (ht:t∈ts) {ty:Nat} {g:Bool} {cs:List SV}:CP hp0 gs t≠some (.box ty g cs):=by intro hl;simp only [L1,Bool.not_eq_true',List.any_eq_false]at h;have:=h t ht;rw [hl]at this;simp at this
theorem zte {ρ:List AV} (k:A5 ρ gs) {ts:List Nat} {l:List (Nat × Ai)} (hf:Df hp0 gs ts=some l) {t:Nat} (ht:t∈ts):(∃g x,(t,Ai.bm g x)∈l)∨(∃g x,CP hp0 gs t=some (.bm g x))∨ ∃ty g cs,CP hp0 gs t=some (.box ty g cs):=by
 induction ts generalizing l with
 |nil=>simp at ht
 |cons u ts ih=>
  unfold Df at hf;split at hf
  ·rename_i ety sz g x d l' hl Bw;split at hf
   ·simp at hf;subst hf;rcases Ae.1 ht with rfl|ht
    ·exact .inl ⟨g,x,by simp⟩
    ·rcases ih Bw ht with⟨g',x',hh⟩|hh
     ·exact .inl ⟨g',x',by simp [hh]⟩
     ·exact .inr hh
   ·cases hf
  ·rename_i ety sz dl g ep x l' hl Bw;split at hf
   ·simp at hf;subst hf;rcases Ae.1 ht with rfl|ht
    ·exact .inl ⟨g,x,by simp⟩
    ·rcases ih Bw ht with⟨g',x',hh⟩|hh
     ·exact .inl ⟨g',x',by simp [hh]⟩
     ·exact .inr hh
   ·cases hf
  ·rename_i g x l' hl Bw;simp at hf;subst hf;rcases Ae.1 ht with rfl|ht
   ·exact .inr (.inl ⟨g,x,hl⟩)
   ·exact ih Bw ht
  ·rename_i ty g cs l' hl Bw;simp at hf;subst hf;rcases Ae.1 ht with rfl|ht
   ·exact .inr (.inr ⟨ty,g,cs,hl⟩)
   ·exact ih Bw ht
  ·cases hf
theorem R2 (h:Rel c n sl hp a) (eh:EH c hp0) (k:A5 c.ρ gs) {ts:List Nat} {l:List (Nat × Ai)} (hf:Df hp0 gs ts=some l) (hb:L1 hp0 gs ts=true) {b:Nat} (hs:c.ed ts b):(c.bm (l.map (·.1))).ok b:=by
 rcases hs with hs|⟨t,ht,Cm⟩
 ·exact Cx.er hs
 ·rcases zte k hf ht with⟨g,x,hh⟩|⟨g,x,hh⟩|⟨ty,g,cs,hh⟩
  ·exact rJ h.gw (us:= [t]) (by simpa using⟨_,hh⟩) (.inr ⟨t,by simp,Cm⟩)
  ·obtain⟨_,_,Ch,_⟩:=eh t _ (CD hh k);rw [Ch]at Cm;simp at Cm
  ·exact absurd hh (zvz hb ht)
theorem mF (h:Rel c n sl hp a) (hs: ∀t e,hp0 t=some e→hp t=some e) (k:A5 c.ρ gs) {t:TypeId} {s:SV} {v:Value} (hr:SR c [s] [v]) {x:E} {fz:List (Nat × Ai)} {d:Bool} {ck:List Cn} (ht:Wv P hp0 gs t s=some (x,fz,d,ck)) (hc: ∀q∈ck,q.den c.ρ):
  ∃f,Rd c.w [v] [x.den c.ρ] f∧(d=true→f= [])∧(∃ts,Df hp0 gs ts=some fz∧ ∀b∈f,(c.bm (fz.map (·.1))).ok b)∧
   (if Ao P t then∃cs,x.den c.ρ= .agg cs∧cs.length=P.cellsOf t else(∀cs,x.den c.ρ≠ .agg cs)∧ ∀cs,x.den c.ρ≠ .tup cs):=by
 have eh:EH c hp0:=fun t e hr=>h.ents t e (KJ hs hr);unfold Wv at ht;split at ht
 ·cases ht
 ·rename_i y hy;obtain⟨f,q1,q2⟩:=G7 eh k AT hy hr AT (Nat.le_refl _);split at ht
  ·simp at ht;obtain⟨rfl,rfl,rfl,rfl⟩:=ht;obtain⟨c1,c2,c3,c4⟩:=BE hc;have hf:f= []:=by
    cases hg:Ao P t with
    |true=>obtain⟨cs,Bd⟩:=c3 hg;obtain⟨as_,rfl,_,r⟩:=IZ q1 Bd;exact G8 r (by rw [Bd]at c2;exact c2)
    |false=>exact G8 q1 (by simpa using c4 hg)
   subst hf;refine⟨[],q1,fun _=>rfl,⟨[],rfl,by simp⟩, ?_⟩;split
   ·rename_i hg;obtain⟨cs,Bd⟩:=c3 hg;exact⟨cs,Bd,by rw [Bd]at c1;exact c1⟩
   ·rename_i hg;have:=c4 (by simpa using hg);exact⟨fun cs Bd=>by rw [Bd]at this;simp [AV.scalar]at this,fun cs Bd=>by rw [Bd]at this;simp [AV.scalar]at this⟩
  ·split at ht
   ·rename_i Iw;split at ht
    ·cases ht
    ·rename_i l hl;simp only [Af,Prod.mk.injEq]at ht;obtain⟨rfl,rfl,rfl,rfl⟩:=ht;refine⟨f,q1,by simp,⟨_,hl,fun b hb=>R2 h eh k hl Iw (q2 b hb)⟩, ?_⟩;have hq:=BE hc;unfold iU at hq;split
     ·rename_i hg;rw [if_pos hg]at hq;obtain⟨cs,Bd,hl⟩:=hq;exact⟨cs,Bd,hl⟩
     ·rename_i hg;rw [if_neg hg]at hq;exact hq
   ·cases ht
end
section
variable {P:Program} {c:Cx} {n nx:Nat} {sl sl0:Nat→SV} {hp hp0:Nat→Option Ai} {a:Act} {o:Oper} {gs:Gd} {e:AY} {sg:BC} {nv:Nat}
theorem eG (w:World) (t ty el:TypeId) (i:TypeInfo) (z:Value) (ht:P.underlying t=some (.slice el)) (hi:P.info? el=some i) (hz:i.zero=some z) (Dr:z.cells.size=i.size) (BJ:0<i.size)
  (Own:Nat→Prop) (v:Value) (k:Nat) (old:List Value) (ho:old.length=k*i.size)
  (Bm:(k=0∧ ∃q,v= .slice q 0 0)∨ ∃g cap C,v= .slice (some ⟨g,0,none⟩) k cap∧k≤cap∧cap≤maxLen∧w.heap[g]?=some (.cells C el (0,0))∧C.size=cap*i.size∧old=C.toList.take (k*i.size)∧Own g)
  (q:Option Addr) (m r:Nat) (news:List Value) (hs:Src w i.size q m news) (Tj:k+m≤maxLen) (hb:(k+m)*i.bytes≤140737488355328):
  ∃v' w',(Builtin.append_ #[t,t] ty #[v, .slice q m r]).run P w= .ok v' w'∧
   ((v'=v∧w'=w∧m=0)∨ ∃g cap C,v'= .slice (some ⟨g,0,none⟩) (k+m) cap∧k+m≤cap∧cap≤maxLen∧w'.heap[g]?=some (.cells C el (0,0))∧C.size=cap*i.size∧C.toList.take ((k+m)*i.size)=old++news∧
    w.grownBy w' (some g)∧((g=w.heap.size∧g<w'.heap.size)∨Own g)):=by
 have TD:news.length=m*i.size:=by
  rcases hs with⟨rfl,rfl,rfl⟩|⟨ad,rfl,h1,_⟩
  ·simp
  ·exact h1
 have hlen:(old++news).length=(k+m)*i.size:=by rw [Ak,ho,TD,Nat.add_mul]
 have grown: ∀(cp:Nat),cp<k+m→ ∀(X:Array Value),X.toList=old++news→ ∃C,C=X++Builtin.zeroCells z.cells (grownCap w (k+m) cp el-(k+m))∧
   k+m≤grownCap w (k+m) cp el∧grownCap w (k+m) cp el≤maxLen∧C.size=grownCap w (k+m) cp el*i.size∧C.toList.take ((k+m)*i.size)=old++news:=by
  intro cp hcp X hX;have Im:=grownCap_ge w (k+m) cp el;have JY:=grownCap_le_maxLen w (k+m) cp el Tj;refine⟨_,rfl,Im,JY, ?_, ?_⟩
  ·have uA:X.size=(k+m)*i.size:=by rw [←Array.length_toList,hX,hlen]
   rw [Array.size_append,uA,size_zeroCells,Dr,←Nat.add_mul];congr 1;omega
  ·rw [Array.toList_append,hX,←hlen];exact List.take_left
 have newb: ∀C:Array Value,w.grownBy (w.drew.alloc (.cells C el)) (some w.heap.size)∧w.heap.size<(w.drew.alloc (.cells C el)).heap.size∧(w.drew.alloc (.cells C el)).heap[w.heap.size]?=some (.cells C el (0,0)):=
  fun C=>⟨⟨rfl,rfl,rfl,by simp,fun j hj _=>Below.heap_alloc w.drew _ _ hj⟩,by simp,heap_alloc_new w.drew _⟩
 rcases Bm with⟨rfl,p,rfl⟩|⟨g,cap,C,rfl,QR,JY,hg,Bd,hold,WX⟩
 ·have hold:old= []:=List.eq_nil_of_length_eq_zero (by simpa using ho);subst hold;by_cases hm:m=0
  ·subst hm;have hn:news= []:=List.eq_nil_of_length_eq_zero (by simpa using TD);subst hn;refine⟨_,w, ?_, .inl ⟨rfl,rfl,rfl⟩⟩;rcases hs with⟨rfl,_,_⟩|⟨ad,rfl,_⟩<;>cases p<;>
    simp [Builtin.append_,run_underlying ht,sizeOf,typeInfo,hi,Builtin.lenOf,Builtin.firstCells,loadCells,loadCellsFrom,storeCells]
  ·rcases hs with⟨_,rfl,_⟩|⟨ad,rfl,h1,h2,h3⟩
   ·exact absurd rfl hm
   ·obtain⟨C',NT,g1,g2,g3,g4⟩:=grown 0 (by omega) news.toArray (by simp);cases p with
    |none=>have hr:=run_append_nil (P:=P) w t ty el i z ht hi hz ad m r news h1 h2 (by omega) (by simp only [maxLen]at Tj;omega) (by have hb:=hb;simp only [Nat.zero_add]at hb;omega);simp only [Nat.zero_add]at g1 g2 g3 g4 NT ⊢;obtain⟨n1,n2,n3⟩:=newb C';refine⟨_,_,hr, .inr ⟨_,_,C',rfl,g1,g2, ?_,g3,g4, ?_, .inl ⟨rfl, ?_⟩⟩⟩<;>rw [←NT]<;>first|exact n3|exact n1|exact n2
    |some p=>have hr:=run_append_grow (P:=P) w t ty el i z ht hi hz p 0 0 [] (by simp) (by simp) ad m r news h1 h2 (by omega) (by simp only [maxLen]at Tj;omega) (growslice_fits (by omega) hb);rw [show(([]:List Value).toArray++news.toArray)=news.toArray by simp]at hr;simp only [Nat.zero_add]at g1 g2 g3 g4 NT hr ⊢;obtain⟨n1,n2,n3⟩:=newb C';refine⟨_,_,hr, .inr ⟨_,_,C',rfl,g1,g2, ?_,g3,g4, ?_, .inl ⟨rfl, ?_⟩⟩⟩<;>rw [←NT]<;>first|exact n3|exact n1|exact n2
 ·rcases hs with⟨rfl,rfl,rfl⟩|⟨ad,rfl,h1,h2,h3⟩
  ·refine⟨_,w, ?_, .inl ⟨rfl,rfl,rfl⟩⟩;simp [Builtin.append_,run_underlying ht,sizeOf,typeInfo,hi,Builtin.lenOf,Builtin.firstCells,QR,storeCells]
  ·by_cases Cg:k+m≤cap
   ·have Ms:k*i.size+news.length≤C.size:=by rw [h1,Bd,←Nat.add_mul];exact Nat.mul_le_mul_right _ Cg
    have hr:=run_append_room (P:=P) w t ty el i ht hi g k cap C hg ad m r news h1 h2 h3 Cg Ms;refine⟨_,_,hr, .inr ⟨g,cap,_,rfl,Cg,JY,setRow_heap w g C _ el _ hg, ?_, ?_,⟨rfl,rfl,rfl,by simp,fun j _ hj=>setRow_other w g j _ (fun hh=>hj (by rw [hh]))⟩, .inr WX⟩⟩
    ·simp only [List.size_toArray,Ak,List.length_take,List.length_drop,Array.length_toList];omega
    ·rw [←hold,←hlen];exact List.take_left
   ·have holds: ∀j u,old[j]?=some u→w.cell? ((⟨g,0,none⟩:Addr).add j)=some u:=fun j u hu=>by
     rw [Addr.add_lit,Nat.zero_add,Ec hg];rw [hold,List.getElem?_take]at hu;split at hu
     ·simpa using hu
     ·cases hu
    have hr:=run_append_grow (P:=P) w t ty el i z ht hi hz ⟨g,0,none⟩ k cap old ho holds ad m r news h1 h2 (by omega) (by simp only [maxLen]at Tj;omega) (growslice_fits (by omega) hb);obtain⟨C',NT,g1,g2,g3,g4⟩:=grown cap (by omega) (old.toArray++news.toArray) (by simp);obtain⟨n1,n2,n3⟩:=newb C';refine⟨_,_,hr, .inr ⟨_,_,C',rfl,g1,g2, ?_,g3,g4, ?_, .inl ⟨rfl, ?_⟩⟩⟩<;>rw [←NT]<;>first|exact n3|exact n1|exact n2
def Cx.a6 (c:Cx) (t g':Nat) (w':World) (v:Value) (top O:List Nat):Cx:=
 {c with w:=w',G:=fun u=>if u=t then⟨top,O⟩else c.G u,K:=fun u g=>c.K u g∨(u=t∧g=g'),H:=fun u g=>if u=t∧g=g' then v else c.H u g,U:=fun u=>c.U u∨u=t,E:=fun u=>if u=t then c.E u+1 else c.E u}
theorem Rel.a6 (h:Rel c n sl hp a) {t g:Nat} (D6:c.A.pin t=none∨g≠0) (A0: ¬c.K t g) {w':World} {row:Option Nat} (hg:c.w.grownBy w' row)
  (Ew: ∀g0,row=some g0→g0∈(c.G t).top∨(g0=c.w.heap.size∧g0<w'.heap.size)) {top O:List Nat} (Ch:top= []∨ ∃g0,row=some g0∧top= [g0]) (hO:O= []∨O=(c.G t).O) {v:Value} (e1:Ai) (Bt: ∀hs f,e1≠ .gd hs f) (k:A5 c.ρ gs)
  (he:Di c (c.a6 t g w' v top O)→CK (c.a6 t g w' v top O) t e1):Rel (c.a6 t g w' v top O) n sl (A2 hp [(t,Cy gs e1)]) a:=by
 have hG: ∀u,(c.a6 t g w' v top O).G u=if u=t then⟨top,O⟩else c.G u:=fun u=>rfl;have hM: ∀b,(c.a6 t g w' v top O).M b→c.M b∨row=some b:=by
  rintro b ⟨u,hu⟩;rw [hG]at hu;split at hu
  ·rcases Ch with rfl|⟨g0,hr,rfl⟩
   ·simp at hu
   ·simp at hu;subst hu;exact .inr hr
  ·exact .inl ⟨u,hu⟩
 have QE: ∀b,b<c.w.heap.size→c.ok b→row≠some b:=by
  intro b hb AF hr;rcases Ew b hr with hh|⟨hh,_⟩
  ·exact AF.1 ⟨t,hh⟩
  ·omega
 have BF:Di c (c.a6 t g w' v top O):=by
  refine⟨rfl,rfl,fun b hb AF=>⟨fun hm=>(hM b hm).elim AF.1 (QE b hb AF),AF.2⟩,fun b hb AF=>hg.block b hb (fun hh=>QE b hb AF hh.symm),fun u g1 hu=>⟨.inl hu, ?_⟩,fun u g1 hu=> ?_⟩
  ·simp only [Cx.a6];rw [if_neg];rintro⟨rfl,rfl⟩;exact A0 hu
  ·by_cases FR:u=t
   ·have e1:(c.a6 t g w' v top O).E u=c.E u+1:=by simp only [Cx.a6,if_pos FR]
    exact⟨by omega,fun h=>by omega⟩
   ·have e1:(c.a6 t g w' v top O).E u=c.E u:=by simp only [Cx.a6,if_neg FR]
    have e2:(c.a6 t g w' v top O).G u=c.G u:=by simp only [Cx.a6,if_neg FR]
    rw [e1];refine⟨Nat.le_refl _,fun _=>⟨e2,fun b hb Ig=>hg.block b Ig fun hh=> ?_⟩⟩;rcases Ew b hh.symm with h1|⟨h1,_⟩
    ·exact h.gw.cj u t FR b (by simp [GI.own,hb]) (by simp [GI.own,h1])
    ·omega
 have Dq: ∀u,A2 hp [(t,Cy gs e1)] u=if u=t then some (Cy gs e1)else hp u:=fun u=>rfl;have MF: ∀u,u≠t→ ∀b∈(c.G u).own,row≠some b:=by
  intro u hu b hb hr;rcases Ew b hr with hh|⟨hh,_⟩
  ·exact h.gw.cj u t hu b hb (by simp [GI.own,hh])
  ·have:=h.gw.inb u b hb;omega
 have BA: ∀b∈(⟨top,O⟩:GI).own,row=some b∨b∈(c.G t).own:=by
  intro b hb;simp only [GI.own,Ah]at hb ⊢;rcases hb with hb|hb
  ·rcases Ch with rfl|⟨g0,hr,rfl⟩
   ·simp at hb
   ·simp at hb;subst hb;exact .inl hr
  ·rcases hO with rfl|rfl
   ·simp at hb
   ·exact .inr (.inr hb)
 refine h.change (fun u=>u=t) BF ⟨hg.os.trans h.base.os,hg.tape.trans h.base.tape,hg.output.trans h.base.output,Nat.le_trans h.base.size hg.size,fun u v' hp=>⟨.inl (h.base.pins u v' hp).1,fun hk=> ?_⟩,fun b hb Fx=> ?_,h.base.pk,h.base.lo⟩
  (fun u hu=>⟨by rw [Dq,if_neg hu],by rw [hG,if_neg hu],by simp [Cx.a6,hu],fun g1 hh=>hh.resolve_right (fun hh=>hu hh.1)⟩) (fun u hu b hb=>hg.block b (h.gw.inb u b (by simp [GI.own,hb])) (fun hh=>MF u hu b (by simp [GI.own,hb]) hh.symm)) (fun u hu=> ?_) ?_ (fun u g1 hh=> ?_) (fun u f hf=> ?_)
 ·have FR: ¬(u=t∧0=g):=by
   rintro⟨rfl,rfl⟩;rcases D6 with hh|hh
   ·have hp':c.A.pin u=some v':=hp;rw [hh]at hp';cases hp'
   ·exact hh rfl
  have Bz:=hk.resolve_right FR;simp only [Cx.a6];rw [if_neg FR];exact(h.base.pins u v' hp).2 Bz
 ·refine(hg.block b (Nat.lt_of_lt_of_le hb h.base.size) (fun hh=> ?_)).trans (h.base.block b hb Fx);rcases Ew b hh.symm with hh|⟨hh,_⟩
  ·rcases h.gw.allow t b (by simp [GI.own,hh])with h1|h1
   ·exact absurd h1 (Nat.not_le.2 hb)
   ·exact Fx h1
  ·have:=h.base.size;have h9:b<c.w0.heap.size:=hb;omega
 ·subst hu;rw [Dq,if_pos rfl];exact⟨fun e' hr=>by rw [(Py k Bt).1 hr];exact he BF,fun hn=>absurd ((Py k Bt).2 rfl) (hn e1)⟩
 ·have BW:(⟨top,O⟩:GI).own.Nodup:=by
   have h0:=h.gw.nodup t;simp only [GI.own]at h0 ⊢;rw [List.nodup_append]at h0 ⊢;refine⟨by rcases Ch with rfl|⟨g0,hr,rfl⟩<;>simp,by rcases hO with rfl|rfl;simp;exact h0.2.1,fun p hp q hq=> ?_⟩;rcases Ch with rfl|⟨g0,hr,rfl⟩
   ·simp at hp
   ·simp at hp;subst hp;rcases hO with rfl|rfl
    ·simp at hq
    ·rcases Ew p hr with hh|⟨hh,_⟩
     ·exact h0.2.2 p hh q hq
     ·have:=h.gw.inb t q (by simp [GI.own,hq]);omega
  refine⟨fun u=> ?_,fun u u' Kf b hb=> ?_,fun u b hb=> ?_,fun u b hb=> ?_⟩
  ·rw [hG];split
   ·exact BW
   ·exact h.gw.nodup u
  ·rw [hG]at hb ⊢;by_cases h1:u=t
   ·rw [if_pos h1]at hb;rw [if_neg (fun hh=>Kf (h1.trans hh.symm))];rcases BA b hb with hr|hb
    ·exact fun hh=>MF u' (fun h2=>Kf (h1.trans h2.symm)) b hh hr
    ·exact h.gw.cj t u' (fun hh=>Kf (h1.trans hh)) b hb
   ·rw [if_neg h1]at hb;by_cases h2:u'=t
    ·rw [if_pos h2];intro BL;rcases BA b BL with hr|BL
     ·exact MF u h1 b hb hr
     ·exact h.gw.cj u t h1 b hb BL
    ·rw [if_neg h2];exact h.gw.cj u u' Kf b hb
  ·rw [hG]at hb;split at hb
   ·rcases BA b hb with hr|hb
    ·rcases Ew b hr with hh|⟨hh,_⟩
     ·exact h.gw.allow t b (by simp [GI.own,hh])
     ·exact .inl (by rw [hh];exact h.base.size)
    ·exact h.gw.allow t b hb
   ·exact h.gw.allow u b hb
  ·rw [hG]at hb;show b<w'.heap.size;split at hb
   ·rcases BA b hb with hr|hb
    ·rcases Ew b hr with hh|⟨_,hh⟩
     ·exact Nat.lt_of_lt_of_le (h.gw.inb t b (by simp [GI.own,hh])) hg.size
     ·exact hh
    ·exact Nat.lt_of_lt_of_le (h.gw.inb t b hb) hg.size
   ·exact Nat.lt_of_lt_of_le (h.gw.inb u b hb) hg.size
 ·rcases hh with hh|⟨rfl,_⟩
  ·exact .inl (h.br u g1 hh)
  ·exact .inr rfl
 ·rw [Dq]at hf;split at hf
  ·rename_i hu;exact .inr hu
  ·exact .inl (h.cm u f hf)
theorem sU {w:World} {v:Value} {ys:List AV} {f:List Nat} {sz:Nat} (h:Rd w [v] [.sl ys] f) (hs: ∀y∈ys,y.cells.length=sz):
  ∃q r news N,v= .slice q ys.length r∧Src w sz q ys.length news∧Rd w news (AE ys) N∧(∀b∈N,b∈f)∧news.length=ys.length*sz∧(∀u∈news,u.oneCell'=true):=by
 rcases h.kind with hh|hh|hh|hh|hh|hh|hh|hh|hh|hh
 ·obtain⟨_,_,_,hh,_⟩:=hh;cases hh
 ·obtain⟨_,_,hh,_⟩:=hh;cases hh
 ·obtain⟨_,_,hh,_⟩:=hh;cases hh
 ·obtain⟨p,r,rfl,hh,rfl⟩:=hh;cases hh;refine⟨p,r, [], [],rfl, ?_, .nil,by simp,by simp,by simp⟩;cases p with
  |none=>exact .inl ⟨rfl,rfl,rfl⟩
  |some p=>exact .inr ⟨p,rfl,by simp,by simp,by simp⟩
 ·obtain⟨b,off,m,r,ys',cs,C,t,fz,sz',f1,rfl,hh,rfl,hb,h1,h2,h3,h4,h5,h6,Gb,h7⟩:=hh;cases hh;subst h3;have FE:sz'=sz:=by
   cases ys with
   |nil=>simp at h1
   |cons y ys=>rw [←h4 y (by simp),hs y (by simp)]
  subst FE;have hl:=h7.len;rw [LF ys h4]at hl;exact⟨_,r,cs,f1,rfl, .inr ⟨_,rfl,hl,fun j u hu=>by rw [Addr.add_lit,Ec hb];exact h6 j u hu,Gb⟩,h7,fun q hq=>by simp [hq],hl,Gb⟩
 ·obtain⟨_,_,_,hh,_⟩:=hh;cases hh
 ·obtain⟨_,_,_,hh,_⟩:=hh;cases hh
 ·obtain⟨_,_,_,_,_,_,_,hh,_⟩:=hh;cases hh
 ·obtain⟨_,_,_,_,hh,_⟩:=hh;cases hh
 ·obtain⟨_,hh,_⟩:=hh;cases hh
end
section
variable {P:Program} {c:Cx} {n nx:Nat} {sl sl0:Nat→SV} {hp hp0:Nat→Option Ai} {a:Act} {o:Oper} {gs:Gd} {e:AY} {sg:BC} {nv:Nat}
theorem Nq (hp:Nat→Option Ai) (l m:List (Nat × Ai)):A2 hp (l++m)=A2 (A2 hp l) m:=by simp [A2,List.foldl_append]
theorem zsW (h:Rel c n sl hp a) (hs: ∀t e,hp0 t=some e→hp t=some e) (k:A5 c.ρ gs) {el:TypeId} {s:SV} {v:Value} (hr:SR c [s] [v]) {y:E} (hy:Be hp0 gs AT s=some y) {fz:List (Nat × Ai)} {d:Bool} {ck:Cn} (ht:SC P hp0 gs el s y=some (fz,d,ck)) (hc:ck.den c.ρ):
  ∃ts ys q r news N,Df hp0 gs ts=some fz∧y.den c.ρ= .sl ys∧(∀z∈ys,z.cells.length=P.cellsOf el)∧v= .slice q ys.length r∧Src c.w (P.cellsOf el) q ys.length news∧Rd c.w news (AE ys) N∧(∀b∈N,(c.bm (fz.map (·.1))).ok b)∧(d=true→N= [])∧news.length=ys.length*P.cellsOf el∧ ∀u∈news,u.oneCell'=true:=by
 have eh:EH c hp0:=fun t e hr=>h.ents t e (KJ hs hr);obtain⟨f,q1,q2⟩:=G7 eh k AT hy hr AT (Nat.le_refl _);unfold SC at ht;split at ht
 ·simp only [Af,Prod.mk.injEq]at ht;obtain⟨rfl,rfl,rfl⟩:=ht;obtain⟨ys,CX,Ay⟩:=hc;rw [CX]at q1;obtain⟨q,r,news,N,hv,g1,g2,g3,g4,g5⟩:=sU q1 (fun z hz=>(Ay z hz).1);have hN:N= []:=G8 g2 (fun x hx=>by
   obtain⟨z,hz,hx⟩:=List.mem_flatMap.1 hx;exact(Ay z hz).2 x hx)
  exact⟨[],ys,q,r,news,N,rfl,CX,fun z hz=>(Ay z hz).1,hv,g1,g2,by simp [hN],fun _=>hN,g4,g5⟩
 ·split at ht
  ·rename_i Iw;obtain⟨l,hl,ht⟩:=Aq.1 ht;simp only [Prod.mk.injEq]at ht;obtain⟨rfl,rfl,rfl⟩:=ht;obtain⟨ys,CX,Ay⟩:=hc;rw [CX]at q1;obtain⟨q,r,news,N,hv,g1,g2,g3,g4,g5⟩:=sU q1 Ay;exact⟨_,ys,q,r,news,N,hl,CX,Ay,hv,g1,g2,fun b hb=>R2 h eh k hl Iw (q2 b (g3 b hb)),by simp,g4,g5⟩
  ·cases ht
theorem Kq {el:TypeId} (h:HB P el=true): ∃i z,P.info? el=some i∧i.zero=some z∧z.cells.size=i.size∧0<i.size∧P.cellsOf el=i.size∧P.bytesOf el=i.bytes:=by
 unfold HB at h;cases hi:P.info? el with
 |none=>simp [hi]at h
 |some i=>
  cases hz:i.zero with
  |none=>simp [hi,hz]at h
  |some z=>simp only [hi,hz,Ad,beq_iff_eq,bne_iff_ne]at h;exact⟨i,z,rfl,hz,h.1,by omega,by simp [Program.cellsOf,hi],by simp [Program.bytesOf,hi]⟩
theorem aE (xs ys:List AV):AE (xs++ys)=AE xs++AE ys:=by simp [AE]
theorem Z9 (h:Bf P c n nx sl hp a sl0 hp0 o gs) {x y:Operand} {tx:TypeId} {cl:Call} (ho:o.op= .call cl) (Ay:cl.callee= .builtin .append) (CQ:cl.args.toList= [x,y]) (DV:cl.argTypes.toList= [tx,tx])
  {el:TypeId} (A7:P.underlying tx=some (.slice el)) (hz:HB P el=true) {s2:SV} {ye:E} (AU:Bx sl0 gs y=some s2) (hy:Be hp0 gs AT s2=some ye) {fz:List (Nat × Ai)} {d:Bool} {ck:Cn} (BX:SC P hp0 gs el s2 ye=some (fz,d,ck)) (JX:ck.den c.ρ)
  {t g:Nat} (D6:c.A.pin t=none∨g≠0) {c0:E} {d':Bool} (Cg:Cn.den c.ρ (.room c0 ye (P.bytesOf el))) (Ez: ∀f,(t,f)∉fz) (A0: ¬c.K t g)
  {top N0:List Nat} {v:Value} (hv:a.eval x=v) (Bm:Cw c.w el (P.cellsOf el) v (c0.den c.ρ) top N0) (Ch:(c.G t).top=top) (Mg: ∀b∈N0,c.ok b) (Xn:d'=true→Qb c.w N0∧(c.G t).O=N0) (J3: ∀g',c.K t g'→g'≤g) (hU: ∀u,u=t→c.U u∨(nx≤u∧u<nx+Br)) {ckl:List Cn}:
  Az P o c n nx sl hp gs a {bw:=ckl,val:= .own t g,bf:=fz++ [(t,Cy gs (.row el (P.cellsOf el) g (.app c0 ye) (d&&d')))]}:=by
 have As:cl.args= #[x,y]:=by apply Array.ext';simp [CQ]
 have Gt:cl.argTypes= #[tx,tx]:=by apply Array.ext';simp [DV]
 have Dn:y∈o.op.operands:=by simp [ho,Op.operands,Call.operands,Ay,As]
 obtain⟨i,z,hi,Ft,Dr,BJ,Ci,FM⟩:=Kq hz;obtain⟨ts,ys,q,r,news,N,GN,CX,MR,CW,E5,Ix,Fp,uJ,TD,X2⟩:=zsW h.rel h.hp h.gs (h.cu AU Dn) hy BX JX;have CM:=h.rel.freeze h.hp h.gs GN;obtain⟨xs,Ck,Hq,_,A6⟩:=Bm;obtain⟨mm,kk,GV,C6,QZ,Yf⟩:=Cg;rw [Ck]at GV;rw [CX]at C6;simp only [AV.len,AV.int.injEq,true_and]at GV C6;have Hl:(xs.length+ys.length)*i.bytes≤140737488355328:=by
  rw [←GV,←C6,FM]at QZ;have h9:(((xs.length+ys.length)*i.bytes:Nat):Int)≤140737488355328:=by rw [Int.natCast_mul,Int.natCast_add];exact QZ
  omega
 have Ig:xs.length+ys.length≤140737488355328:=by rw [←GV,←C6]at Yf;omega
 rw [Ci]at E5 TD Hq MR A6;obtain⟨old,hold,GY,CS,CB⟩: ∃old,old.length=xs.length*i.size∧((xs.length=0∧ ∃q,v= .slice q 0 0)∨ ∃g cap C,v= .slice (some ⟨g,0,none⟩) xs.length cap∧xs.length≤cap∧cap≤maxLen∧c.w.heap[g]?=some (.cells C el (0,0))∧C.size=cap*i.size∧old=C.toList.take (xs.length*i.size)∧g∈(c.G t).top)∧Rd c.w old (AE xs) N0∧ ∀u∈old,u.oneCell'=true:=by
  rcases A6 with⟨rfl,⟨p,rfl⟩,rfl,rfl⟩|⟨g9,cap,C,rfl,h6,h7,h8,h9,rfl,Ga,Fo⟩
  ·exact⟨[],by simp, .inl ⟨rfl,p,rfl⟩, .nil,by simp⟩
  ·refine⟨_, ?_, .inr ⟨g9,cap,C,rfl,h6,h7,h8,h9,rfl,by rw [Ch];simp⟩,Fo,Ga⟩;have e9:C.toList.length=cap*i.size:=by rw [←h9];simp
   rw [List.length_take,e9];exact Nat.min_eq_left (Nat.mul_le_mul_right _ h6)
 obtain⟨v',w',AQ,AP⟩:=eG (P:=P) c.w tx o.type el i z A7 hi Ft Dr BJ (fun g9=>g9∈(c.G t).top) v xs.length old hold GY q ys.length r news E5 (by simp only [maxLen];omega) Hl;have EO:(execOp a.eval o).run P c.w= .ok (.value v') w':=by simp [execOp,ho,resolve,Ay,As,Gt,invoke,builtin,hv,CW,AQ]
 intro next Q hk
 unfold Oper.wp;rw [EO,Oper.upon_value];have uE:(c.bm (fz.map (·.1))).w=c.w:=rfl;have gD:(c.bm (fz.map (·.1))).G t=c.G t:=by simp only [Cx.bm];rw [if_neg];rintro hh;obtain⟨⟨u,f⟩,hf,rfl⟩:=List.mem_map.1 hh;exact Ez f hf
 obtain⟨row,top',QG,Ew,Q8,Bh,Cu⟩: ∃row top',c.w.grownBy w' row∧(∀g0,row=some g0→g0∈(c.G t).top∨(g0=c.w.heap.size∧g0<w'.heap.size))∧(top'= []∨ ∃g0,row=some g0∧top'= [g0])∧
   (Di (c.bm (fz.map (·.1))) ((c.bm (fz.map (·.1))).a6 t g w' v' top' (if(d&&d')=true then(c.G t).O else []))→ ∃N',Cw w' el (P.cellsOf el) v' (.sl (xs++ys)) top' N'∧(∀b∈N',b∈N0∨b∈N)∧((d&&d')=true→N'=N0))∧ ∃p m r,v'= .slice p m r:=by
  rcases AP with⟨rfl,rfl,DJ⟩|⟨g9,cap,C,rfl,h1,h2,h3,h4,h5,h6,h7⟩
  ·have HT:ys= []:=List.eq_nil_of_length_eq_zero DJ;subst HT;refine⟨if top= []then none else top.head?,top,⟨rfl,rfl,rfl,Nat.le_refl _,fun _ _ _=>rfl⟩,fun g0 Ew=> .inl ?_, ?_,fun _=>⟨N0, ?_,fun b hb=> .inl hb,fun _=>rfl⟩, ?_⟩
   ·rw [Ch];split at Ew
    ·cases Ew
    ·exact List.mem_of_mem_head? Ew
   ·rcases A6 with⟨_,_,rfl,_⟩|⟨g9,_,_,_,_,_,_,_,rfl,_⟩
    ·exact .inl rfl
    ·exact .inr ⟨g9,by simp,rfl⟩
   ·rw [Ci];exact⟨xs,by simp,Hq,BJ,A6⟩
   ·rcases GY with⟨_,p,rfl⟩|⟨g9,cap,C,rfl,_⟩
    ·exact⟨_,_,_,rfl⟩
    ·exact⟨_,_,_,rfl⟩
  ·refine⟨some g9, [g9],h6,fun g0 Ew=> ?_, .inr ⟨g9,rfl,rfl⟩,fun FP=>⟨N0++N,⟨xs++ys,rfl,fun z hz=> ?_,by rw [Ci];exact BJ, .inr ⟨g9,cap,C,by simp,by simpa using h1,h2,h3,by rw [Ci];exact h4,rfl, ?_, ?_⟩⟩,fun b hb=>Ah.1 hb,fun Eh=> ?_⟩,_,_,_,rfl⟩
   ·cases Ew;exact h7.symm
   ·rcases Ah.1 hz with hz|hz
    ·rw [Ci];exact Hq z hz
    ·rw [Ci];exact MR z hz
   ·rw [Ci];simp only [Ak];rw [h5];intro u hu;rcases Ah.1 hu with hu|hu
    ·exact CB u hu
    ·exact X2 u hu
   ·rw [Ci];simp only [Ak];rw [h5,aE];refine Rd.app (CS.frame fun b hb=> ?_) (Ix.frame fun b hb=> ?_)
    ·have Hl:=CS.inb b hb;exact FP.mem b Hl (Cx.er (Mg b hb))
    ·have Hl:=Ix.inb b hb;exact FP.mem b Hl (Fp b hb)
   ·simp only [Ad]at Eh;rw [uJ Eh.1];simp
 obtain⟨p9,m9,r9,wK⟩:=Cu;have Dm:=CM.a6 (gs:=gs) (t:=t) (g:=g) (w':=w') (row:=row) (top:=top') (O:=if(d&&d')=true then(c.G t).O else []) (v:=v') D6 A0 QG (by rw [gD];exact Ew) Q8 (by split;exact .inr (by rw [gD]);exact .inl rfl)
  (.row el (P.cellsOf el) g (.app c0 ye) (d&&d')) (by intros;simp) h.gs (fun FP=>by
   obtain⟨N',o1,o2,o3⟩:=Bh FP;have AF: ∀b∈N',((c.bm (fz.map (·.1))).a6 t g w' v' top' (if(d&&d')=true then(c.G t).O else [])).ok b:=by
    intro b hb;rcases o2 b hb with hb|hb
    ·exact FP.ok b (CS.inb b hb) (Cx.er (Mg b hb))
    ·exact FP.ok b (Ix.inb b hb) (Fp b hb)
   refine⟨.inr ⟨rfl,rfl⟩,fun g' Cj=> ?_,N', ?_,AF,fun Eh=> ?_,fun Eh=> ?_⟩
   ·rcases Cj with Cj|⟨_,rfl⟩
    ·exact J3 g' Cj
    ·exact Nat.le_refl _
   ·have e1:((c.bm (fz.map (·.1))).a6 t g w' v' top' (if(d&&d')=true then(c.G t).O else [])).H t g=v':=by simp [Cx.a6]
    have e2:(((c.bm (fz.map (·.1))).a6 t g w' v' top' (if(d&&d')=true then(c.G t).O else [])).G t).top=top':=by simp [Cx.a6]
    rw [e1,e2];show Cw w' el (P.cellsOf el) v' (AV.app (c0.den c.ρ) (ye.den c.ρ)) top' N';rw [Ck,CX];exact o1
   ·have WT:=o3 Eh;have Xo:d'=true:=by simp only [Ad]at Eh;exact Eh.2
    obtain⟨u1,u2⟩:=Xn Xo;subst WT;refine⟨u1.frame fun b hb=>FP.mem b (CS.inb b hb) (Cx.er (Mg b hb)), ?_⟩;simp only [Cx.a6,if_true,Eh];exact u2
   ·simp [Cx.a6,Eh])
 have W0:SR ((c.bm (fz.map (·.1))).a6 t g w' v' top' (if(d&&d')=true then(c.G t).O else [])) [.own t g] [v']:=by rw [wK];exact .own (.inr ⟨rfl,rfl⟩) (by simp [Cx.a6]) .nil
 refine hk _ ((c.bm (fz.map (·.1))).a6 t g w' v' top' (if(d&&d')=true then(c.G t).O else [])) ⟨rfl,rfl,rfl,rfl,fun u hu=> ?_⟩ ?_
 ·rcases hu with hu|rfl
  ·exact .inl hu
  ·exact hU u rfl
 ·have:=Dm.put (W0.mkGd gs h.gs) o.dst;rw [Nq];exact this
end
section
variable {P:Program} {c:Cx} {n nx:Nat} {sl sl0:Nat→SV} {hp hp0:Nat→Option Ai} {a:Act} {o:Oper} {gs:Gd} {e:AY} {sg:BC} {nv:Nat}
theorem Jm {t el:TypeId} (h:Cr P t=some el):P.underlying t=some (.slice el):=by
 unfold Cr at h;split at h
 ·simp at h;subst h;assumption
 ·cases h
theorem zqO {ts:List Nat} {l:List (Nat × Ai)} (k:A5 c.ρ gs) (h:Df hp0 gs ts=some l): ∀t f,(t,f)∈l→ ∃g x f',Ce c.ρ (hp0 t) f'∧KC f' g x:=by intro t f hf;obtain⟨_,_,g,x,f',_,r⟩:=(Nd k h).1 t f hf;exact⟨g,x,f',r⟩
theorem zrH (h:Bf P c n nx sl hp a sl0 hp0 o gs) {x y:Operand} {tx ty:TypeId} {cl:Call} (ho:o.op= .call cl) (Ay:cl.callee= .builtin .append) (CQ:cl.args.toList= [x,y]) (DV:cl.argTypes.toList= [tx,ty])
  {s1 s2:SV} (Bu:Bx sl0 gs x=some s1) (AU:Bx sl0 gs y=some s2) (he:cF P hp0 gs nx tx ty s1 s2=some e) (hc: ∀q∈e.bw,Cn.den c.ρ q):Az P o c n nx sl hp gs a e:=by
 have As:cl.args= #[x,y]:=by apply Array.ext';simp [CQ]
 have DK:x∈o.op.operands:=by simp [ho,Op.operands,Call.operands,Ay,As]
 unfold cF at he;split at he
 ·cases he
 rename_i MN;have MN:tx=ty:=by simpa using MN
 subst MN;split at he
 ·rename_i el A7;have A7:=Jm A7;split at he
  ·cases he
  rename_i hz;have hz:HB P el=true:=by simpa using hz
  split at he
  ·cases he
  rename_i ye hy;split at he
  ·cases he
  rename_i fz d ck BX;obtain⟨ts,GN⟩: ∃ts,Df hp0 gs ts=some fz:=by
   unfold SC at BX;split at BX
   ·simp only [Af,Prod.mk.injEq]at BX;obtain⟨rfl,_⟩:=BX;exact⟨[],rfl⟩
   ·split at BX
    ·obtain⟨l,hl,BX⟩:=Aq.1 BX;simp only [Prod.mk.injEq]at BX;obtain⟨rfl,_⟩:=BX;exact⟨_,hl⟩
    ·cases BX
  have r1:=h.cu Bu DK;have fresh: ∀f,(nx,f)∉fz:=fun f hf=>by
   obtain⟨_,_,_,r,_⟩:=zqO (c:=c) h.gs GN nx f hf;have r:=KJ h.hp r;cases hh:hp nx with
   |none=>rw [hh]at r;exact r.elim
   |some e9=>exact Nr h (h.rel.cm nx e9 hh)
  have hK: ∀g,¬c.K nx g:=fun g hg=>Nr h (h.rel.br _ _ hg);have FD:=h.rel.off nx (fun e9 hr=>by
   cases hh:hp nx with
   |none=>rw [hh]at hr;exact hr.elim
   |some e8=>exact Nr h (h.rel.cm nx e8 hh))
  have TF:c.A.pin nx=none:=by
   cases hh:c.A.pin nx with
   |none=>rfl
   |some v=>exact absurd (h.rel.base.pins nx v hh).1 (Nr h)
  have gJ: ∀u,u=nx→c.U u∨(nx≤u∧u<nx+Br):=fun u hu=> .inr ⟨by omega,by rw [hu];simp [Br]⟩;have iF:P.cellsOf el≠0:=by obtain⟨i,_,_,_,_,h1,h2,_⟩:=Kq hz;omega
  split at he
  ·rename_i t g;split at he
   ·rename_i e' sz' g' c0 d' hl;split at he
    ·rename_i hh;obtain⟨rfl,rfl,rfl,rfl,Ez⟩:=hh;simp only [Af]at he;subst he;have EM:=CD hl h.gs;obtain⟨q1,q2,N,q3,q4,q5,q6⟩:=h.eh t _ EM;generalize hv:a.eval x=v at r1;cases r1 with
     |own k1 k2 _=>
      have:=Z9 (nx:=nx) h ho Ay CQ DV A7 hz AU hy BX (hc _ (by simp)) (t:=t) (g:=g+1) (.inr (by omega)) (c0:=c0) (d':=d') (hc _ (by simp)) (fun f hf=>by simp only [Bool.not_eq_true',List.contains_eq_mem,decide_eq_false_iff_not]at Ez;exact Ez (List.mem_map.2 ⟨_,hf,rfl⟩)) (fun hh=>by have:=q2 _ hh;omega) hv (by rw [←k2];exact q3) rfl q4 q5 (fun g' Cj=>by have:=q2 _ Cj;omega) (fun u hu=> .inl (by rw [hu];exact h.rel.br t g q1)) (ckl:= [.room c0 ye (P.bytesOf el),ck])
      exact this
    ·cases he
   ·cases he
  ·simp only [Af]at he;subst he;generalize hv:a.eval x=v at r1;cases r1 with
   |emp _=>have:=Z9 (nx:=nx) h ho Ay CQ DV A7 hz AU hy BX (hc _ (by simp)) (t:=nx) (g:=0) (.inl TF) (c0:= .lst .nil) (d':=true) (top:= []) (N0:= []) (hc _ (by simp)) fresh (hK 0) hv ⟨[],rfl,by simp,by omega, .inl ⟨rfl,⟨_,rfl⟩,rfl,rfl⟩⟩ FD.1 (by simp) (fun _=>⟨rfl,FD.2⟩) (fun g' Cj=>absurd Cj (hK g')) gJ (ckl:= [.room (.lst .nil) ye (P.bytesOf el),ck]);rw [Bool.and_true]at this;exact this
  ·simp only [Af]at he;subst he;generalize hv:a.eval x=v at r1;cases r1 with
   |bu _=>have:=Z9 (nx:=nx) h ho Ay CQ DV A7 hz AU hy BX (hc _ (by simp)) (t:=nx) (g:=0) (.inl TF) (c0:= .lst .nil) (d':=true) (top:= []) (N0:= []) (hc _ (by simp)) fresh (hK 0) hv ⟨[],rfl,by simp,by omega, .inl ⟨rfl,⟨_,rfl⟩,rfl,rfl⟩⟩ FD.1 (by simp) (fun _=>⟨rfl,FD.2⟩) (fun g' Cj=>absurd Cj (hK g')) gJ (ckl:= [.room (.lst .nil) ye (P.bytesOf el),ck]);rw [Bool.and_true]at this;exact this
  ·cases he
 ·cases he
end
section
variable {P:Program} {c:Cx} {n nx:Nat} {sl sl0:Nat→SV} {hp hp0:Nat→Option Ai} {a:Act} {o:Oper} {gs:Gd} {e:AY} {sg:BC} {nv:Nat}
theorem RD: ∀{ts us:List Nat} {l m:List (Nat × Ai)},Df hp0 gs ts=some l→Df hp0 gs us=some m→Df hp0 gs (ts++us)=some (l++m)
 | [],us,l,m,h,k=>by simp [Df]at h;subst h;simpa using k
 |t::ts,us,l,m,h,k=>by
  unfold Df at h;simp only [List.cons_append];unfold Df;split at h
  ·rename_i ety sz g x d l' hl Bw;have ih:=RD Bw k;split at h
   ·rename_i hg;simp at h;subst h;simp [hl,ih,hg]
   ·cases h
  ·rename_i ety sz dl g ep x l' hl Bw;have ih:=RD Bw k;split at h
   ·rename_i hg;simp at h;subst h;simp [hl,ih,hg]
   ·cases h
  ·rename_i g x l' hl Bw;have ih:=RD Bw k;simp at h;subst h;simp [hl,ih]
  ·rename_i ty g cs l' hl Bw;have ih:=RD Bw k;simp at h;subst h;simp [hl,ih]
  ·cases h
theorem mU {ts us:List Nat} (hs: ∀t∈ts,t∈us) {b:Nat} (h:(c.bm ts).ok b):(c.bm us).ok b:=by refine⟨fun hm=>h.1 ?_,h.2⟩;obtain⟨u,hu,hb⟩:=Cx.jc hm;exact⟨u,by simp only [Cx.bm];rw [if_neg (fun hh=>hu (hs u hh))];exact hb⟩
theorem cD {w:World} {v:Value} {x:AV} {f:List Nat} {t:TypeId} (h:Rd w [v] [x] f) (hg:Ao P t=true∨P.cellsOf t=1) (hx:if Ao P t then∃cs,x= .agg cs∧cs.length=P.cellsOf t else(∀cs,x≠ .agg cs)∧ ∀cs,x≠ .tup cs):
  Rd w v.cells.toList x.cells f∧(∀u∈v.cells.toList,u.oneCell'=true)∧x.cells.length=P.cellsOf t∧v.cells.size=P.cellsOf t:=by
 split at hx
 ·obtain⟨cs,rfl,hl⟩:=hx;obtain⟨as_,rfl,h1,h2⟩:=IZ h rfl;have:=h2.len;exact⟨by simpa [Value.cells,AV.cells]using h2,by simpa [Value.cells]using h1,hl,by simp [Value.cells];omega⟩
 ·rename_i vH;have h1:P.cellsOf t=1:=by rcases hg with h'|h';exact absurd h' vH;exact h'
  have CB:=aP h hx.1 hx.2;have Hq:x.cells= [x]:=by cases x<;>first|rfl|exact absurd rfl (hx.1 _)
  rw [one_cells CB,Hq];exact⟨by simpa using h,by simpa using CB,by simp [h1],by simp [h1]⟩
theorem lR (h:Rel c n sl hp a) (hs: ∀t e,hp0 t=some e→hp t=some e) (k:A5 c.ρ gs) {t:TypeId} (hg:Ao P t=true∨P.cellsOf t=1): ∀(ss:List SV) (vs:List Value) {xs:List E} {fz:List (Nat × Ai)} {d:Bool} {ck:List Cn},SR c ss vs→Sv P hp0 gs t ss=some (xs,fz,d,ck)→(∀q∈ck,q.den c.ρ)→
  ∃N,Rd c.w (vs.flatMap fun v=>v.cells.toList) (AE (xs.map (E.den c.ρ))) N∧(d=true→N= [])∧(∃ts,Df hp0 gs ts=some fz)∧(∀b∈N,(c.bm (fz.map (·.1))).ok b)∧(∀v∈vs,v.cells.size=P.cellsOf t∧ ∀u∈v.cells.toList,u.oneCell'=true)∧(∀x∈xs,(x.den c.ρ).cells.length=P.cellsOf t)∧xs.length=vs.length
 | [],vs,xs,fz,d,ck,hr,ht,hc=>by simp [Sv]at ht;obtain⟨rfl,rfl,rfl,rfl⟩:=ht;cases hr;exact⟨[],by simpa [AE]using Rd.nil,fun _=>rfl,⟨[],rfl⟩,by simp,by simp,by simp,rfl⟩
 |s::ss, [],xs,fz,d,ck,hr,ht,hc=>by have:=hr.len;simp at this
 |s::ss,v::vs,xs,fz,d,ck,hr,ht,hc=>by
  obtain⟨r1,r2⟩:=hr.bz;unfold Sv at ht;split at ht
  ·rename_i x fz1 d1 ck1 xs2 fz2 d2 ck2 h1 h2;simp only [Af,Prod.mk.injEq]at ht;obtain⟨rfl,rfl,rfl,rfl⟩:=ht;obtain⟨f,q1,q2,⟨ts1,q3,q4⟩,q5⟩:=mF h hs k r1 h1 (fun q hq=>hc q (by simp [hq]));obtain⟨N,p1,p2,⟨ts2,p3⟩,p4,p5,p6,p7⟩:=lR h hs k hg ss vs r2 h2 (fun q hq=>hc q (by simp [hq]));obtain⟨o1,o2,o3,o4⟩:=cD (P:=P) q1 hg q5;refine⟨f++N, ?_,fun hd=> ?_,⟨_,RD q3 p3⟩,fun b hb=> ?_, ?_, ?_,by simp [p7]⟩
   ·simpa [AE]using o1.app p1
   ·simp only [Ad]at hd;rw [q2 hd.1,p2 hd.2];rfl
   ·rcases Ah.1 hb with hb|hb
    ·exact mU (fun t ht=>by simp only [List.map_append,Ah];exact .inl ht) (q4 b hb)
    ·exact mU (fun t ht=>by simp only [List.map_append,Ah];exact .inr ht) (p4 b hb)
   ·intro u hu;rcases Ae.1 hu with rfl|hu
    ·exact⟨o4,o2⟩
    ·exact p5 u hu
   ·intro u hu;rcases Ae.1 hu with rfl|hu
    ·exact o3
    ·exact p6 u hu
  ·cases ht
theorem bL {sz:Nat} (place:Nat→Option (Nat × Nat)) (GR: ∀i,place i=some (i*sz,sz)): ∀(vs:List Value) (k:Nat) (C:Array Value) (pre suf:List Value),C.toList=pre++suf→pre.length=k*sz→suf.length=vs.length*sz→(∀v∈vs,v.cells.size=sz)→
  ∃C',Instr.fill place C ((vs.zipIdx k).map fun p=>(p.2,p.1))=some C'∧C'.toList=pre++vs.flatMap fun v=>v.cells.toList
 | [],k,C,pre,suf,h,_,h2,_=>by have:suf= []:=List.eq_nil_of_length_eq_zero (by simpa using h2);subst this;exact⟨C,rfl,by simpa using h⟩
 |v::vs,k,C,pre,suf,h,h1,h2,h3=>by
  have hv:=h3 v (by simp);simp only [Am,Nat.add_mul,Nat.one_mul]at h2;have hC:C.size=pre.length+suf.length:=by rw [←Array.length_toList,h,Ak]
  have K4:(v.cells.zipIdx.foldl (fun cs (p:Value × Nat)=>cs.setIfInBounds (k*sz+p.2) p.1) C).toList=setVs C.toList (k*sz) v.cells.toList:=by have:=pV v.cells.toList 0 (k*sz) C (by simp;omega);rw [←Array.foldl_toList,Array.toList_zipIdx];simpa using this
  have Yj:setVs C.toList (k*sz) v.cells.toList=(pre++v.cells.toList)++suf.drop sz:=by unfold setVs;rw [h,←h1,List.take_left' rfl];congr 1;rw [List.drop_append,List.drop_eq_nil_of_le (by omega)];simp [hv]
  obtain⟨C',g1,g2⟩:=bL place GR vs (k+1) (v.cells.zipIdx.foldl (fun cs (p:Value × Nat)=>cs.setIfInBounds (k*sz+p.2) p.1) C) (pre++v.cells.toList) (suf.drop sz) (by rw [K4,Yj]) (by simp [h1,hv,Nat.add_mul]) (by simp;omega) (fun u hu=>h3 u (by simp [hu]));refine⟨C', ?_,by rw [g2];simp⟩;simp only [List.zipIdx_cons,List.map_cons];unfold Instr.fill;simp only [GR];rw [if_neg (by simp [hv];omega)];exact g1
theorem Az.newRow (h:Bf P c n nx sl hp a sl0 hp0 o gs) {ts:List Nat} {fz:List (Nat × Ai)} (GN:Df hp0 gs ts=some fz) {el:TypeId} {C:Array Value} {cap:Nat} {xs:List AV} {x:E} {d:Bool} {N:List Nat} {ckl:List Cn} {wd:World} (wN:wd.heap=c.w.heap∧wd.os=c.w.os∧wd.tape=c.w.tape∧wd.output=c.w.output)
  (hr:(execOp a.eval o).run P c.w= .ok (.value (.slice (some ⟨c.w.heap.size,0,none⟩) xs.length cap)) (wd.alloc (.cells C el))) (hx:x.den c.ρ= .sl xs) (BJ:P.cellsOf el≠0) (Ay: ∀y∈xs,y.cells.length=P.cellsOf el) (hle:xs.length≤cap) (Ih:cap≤maxLen) (hC:C.size=cap*P.cellsOf el)
  (h1: ∀u∈C.toList.take (xs.length*P.cellsOf el),u.oneCell'=true) (hN:Rd c.w (C.toList.take (xs.length*P.cellsOf el)) (AE xs) N) (Fp: ∀b∈N,(c.bm (fz.map (·.1))).ok b) (hd:d=true→N= []):
  Az P o c n nx sl hp gs a {bw:=ckl,val:= .own nx 0,bf:=fz++ [(nx,Cy gs (.row el (P.cellsOf el) 0 x d))]}:=by
 intro next Q hk
 unfold Oper.wp;rw [hr,Oper.upon_value];have hU:=Nr h;have CM:=h.rel.freeze h.hp h.gs GN;have hK: ∀g,¬c.K nx g:=fun g hg=>hU (h.rel.br _ _ hg);have TF:c.A.pin nx=none:=by
  cases hh:c.A.pin nx with
  |none=>rfl
  |some v=>exact absurd (h.rel.base.pins nx v hh).1 hU
 have FD:=h.rel.off nx (fun e9 hr=>by
  cases hh:hp nx with
  |none=>rw [hh]at hr;exact hr.elim
  |some e8=>exact hU (h.rel.cm nx e8 hh))
 obtain⟨w1,w2,w3,w4⟩:=wN;have XA:c.w.grownBy (wd.alloc (.cells C el)) (some c.w.heap.size):=by
  refine⟨w2,w3,w4, ?_,fun k hk _=> ?_⟩
  ·show c.w.heap.size≤(wd.heap.push _).size;simp [w1]
  ·have:=Below.heap_alloc wd (.cells C el) k (by rw [w1];exact hk);rw [this,w1]
 have Lc:(wd.alloc (.cells C el)).heap[c.w.heap.size]?=some (.cells C el (0,0)):=by have:=heap_alloc_new wd (.cells C el);rw [w1]at this;exact this
 have Ax:c.w.heap.size<(wd.alloc (.cells C el)).heap.size:=El Lc;have hO:(c.bm (fz.map (·.1))).G nx=⟨[], []⟩∨((c.bm (fz.map (·.1))).G nx).O= []:=by
  right;simp only [Cx.bm];split
  ·rfl
  ·exact FD.2
 have Dm:=CM.a6 (gs:=gs) (t:=nx) (g:=0) (w':=wd.alloc (.cells C el)) (row:=some c.w.heap.size) (top:= [c.w.heap.size]) (O:= []) (v:= .slice (some ⟨c.w.heap.size,0,none⟩) xs.length cap) (.inl TF) (hK 0) XA (fun g0 Ew=>by cases Ew;exact .inr ⟨rfl,Ax⟩) (.inr ⟨_,rfl,rfl⟩) (.inl rfl)
  (.row el (P.cellsOf el) 0 x d) (by intros;simp) h.gs (fun FP=>by
   refine⟨.inr ⟨rfl,rfl⟩,fun g' Cj=> ?_,N, ?_,fun b hb=>FP.ok b (hN.inb b hb) (Fp b hb),fun Eh=> ?_,fun _=>by simp [Cx.a6]⟩
   ·rcases Cj with Cj|⟨_,rfl⟩
    ·exact absurd Cj (hK g')
    ·exact Nat.le_refl _
   ·have e1:((c.bm (fz.map (·.1))).a6 nx 0 (wd.alloc (.cells C el)) (.slice (some ⟨c.w.heap.size,0,none⟩) xs.length cap) [c.w.heap.size] []).H nx 0= .slice (some ⟨c.w.heap.size,0,none⟩) xs.length cap:=by simp [Cx.a6]
    have e2:(((c.bm (fz.map (·.1))).a6 nx 0 (wd.alloc (.cells C el)) (.slice (some ⟨c.w.heap.size,0,none⟩) xs.length cap) [c.w.heap.size] []).G nx).top= [c.w.heap.size]:=by simp [Cx.a6]
    rw [e1,e2];show Cw (wd.alloc (.cells C el)) el (P.cellsOf el) _ (x.den c.ρ) _ N;rw [hx];exact⟨xs,rfl,Ay,by omega, .inr ⟨_,cap,C,rfl,hle,Ih,Lc,hC,rfl,h1,hN.frame fun b hb=>FP.mem b (hN.inb b hb) (Fp b hb)⟩⟩
   ·rw [hd Eh];exact⟨rfl,by simp [Cx.a6]⟩)
 have W0:SR ((c.bm (fz.map (·.1))).a6 nx 0 (wd.alloc (.cells C el)) (.slice (some ⟨c.w.heap.size,0,none⟩) xs.length cap) [c.w.heap.size] []) [.own nx 0] [.slice (some ⟨c.w.heap.size,0,none⟩) xs.length cap]:=
  .own (.inr ⟨rfl,rfl⟩) (by simp [Cx.a6]) .nil
 refine hk _ ((c.bm (fz.map (·.1))).a6 nx 0 (wd.alloc (.cells C el)) (.slice (some ⟨c.w.heap.size,0,none⟩) xs.length cap) [c.w.heap.size] []) ⟨rfl,rfl,rfl,rfl,fun u hu=> ?_⟩ ?_
 ·rcases hu with hu|rfl
  ·exact .inl hu
  ·exact .inr ⟨Nat.le_refl _,by simp [Br]⟩
 ·have:=Dm.put (W0.mkGd gs h.gs) o.dst;rw [Nq];exact this
theorem kT {t el:TypeId} (hu:P.underlying t=some (.slice el)) (Bc:CU P el=true) {i:TypeInfo} {z:Value} (hi:P.info? el=some i) (hz:i.zero=some z) (Ci:P.cellsOf el=i.size) (m:Nat) (hle:m*i.size≤2^24) (parts:Array (Nat × Value)) (C:Array Value)
  (hf:Instr.fill (fun j=>some (j*i.size,i.size)) ((Array.range (m*i.size)).map (fun j=>(if m*i.size=0 then #[]else z.cells)[j % (if m*i.size=0 then #[]else z.cells).size]!)) parts.toList=some C) (w:World):
  (Instr.buildSlice t m parts).run P w= .ok (.slice (some ⟨w.heap.size,0,none⟩) m m) (w.alloc (.cells C el)):=by
 have XR: ¬(2^24<m*i.size):=by omega
 have GU:Array.range 0= #[]:=rfl;by_cases h0:m*i.size=0
 ·simp only [h0,if_true,GU]at hf;have Qy: ∀f:Nat→Value,Array.map f #[]= #[]:=fun f=>by simp
  rw [Qy]at hf;simp only [Instr.buildSlice,Sem.run_bind,run_underlying hu,Result.andThen_ok,Nf Bc,Ci];simp [h0,GU,hf,newRow]
 ·simp only [h0,if_false]at hf;simp only [Instr.buildSlice,Sem.run_bind,run_underlying hu,Result.andThen_ok,Nf Bc,Ci];simp [h0,XR,zeroValue,typeInfo,hi,hz,hf,newRow]
theorem znh (h:Bf P c n nx sl hp a sl0 hp0 o gs) {t:TypeId} {m:Nat} {parts:Array (Nat × Operand)} (ho:o.op= .buildSlice t m parts) {ps:List (Nat × SV)} (Lg:parts.toList.mapM (fun(p:Nat × Operand)=>(Bx sl0 gs p.2).map fun s=>(p.1,s))=some ps) (he:Z3 P hp0 gs nx t m ps=some e) (hc: ∀q∈e.bw,Cn.den c.ρ q):Az P o c n nx sl hp gs a e:=by
 obtain⟨e1,e2⟩:=VM (c:=c) (a:=a) (parts.toList.map (·.2)) (fun x s hx hm=>h.cu hx (by simpa [ho,Op.operands]using hm)) (fun x hx=>List.mem_map.2 ⟨x,hx,rfl⟩) Lg;unfold Z3 at he;split at he
 ·rename_i el A7;have A7:=Jm A7;split at he
  ·cases he
  rename_i AI;simp only [not_or,Bool.not_eq_true',Bool.not_eq_false',ne_eq,Bool.not_eq_false,Nat.not_lt,Decidable.not_not]at AI;obtain⟨hz,Bc,AA,hle,DX⟩:=AI;have AA:Ao P el=true∨P.cellsOf el=1:=by simpa using AA
  obtain⟨i,z,hi,Ft,Dr,BJ,Ci,FM⟩:=Kq hz;split at he
  ·rename_i xs fz d ck Q6;split at he
   ·simp only [Af]at he;subst he;obtain⟨N,p1,p2,⟨ts,p3⟩,p4,p5,p6,p7⟩:=lR h.rel h.hp h.gs AA (ps.map (·.2)) (parts.toList.map fun p=>a.eval p.2) e2 Q6 hc;have hlen:(parts.toList.map fun p=>a.eval p.2).length=m:=by
     have:ps.length=m:=by have:=congrArg List.length DX;simpa using this
     have h9:=congrArg List.length e1;simp at h9 ⊢;omega
    have Gq:(parts.map fun(x:Nat × Operand)=>(x.1,a.eval x.2)).toList=((parts.toList.map fun p=>a.eval p.2).zipIdx 0).map fun p=>(p.2,p.1):=by
     have Is:parts.toList.map (·.1)=List.range m:=by rw [←e1,DX]
     apply List.ext_getElem?;intro j;have hj:(parts.toList.map (·.1))[j]?=(List.range m)[j]?:=by rw [Is]
     simp only [Array.toList_map,List.getElem?_map,List.getElem?_zipIdx]at hj ⊢;cases hp:parts.toList[j]? with
     |none=>simp
     |some p=>
      rw [hp]at hj;simp only [Option.map_some,Af]at hj ⊢;have XL:j<m:=by
       rcases Nat.lt_or_ge j m with hh|hh
       ·exact hh
       ·rw [List.getElem?_eq_none (by simpa using hh)]at hj;cases hj
      rw [List.getElem?_range XL]at hj;simp at hj;simp [hj]
    obtain⟨C',f1,f2⟩:=bL (sz:=i.size) (fun j=>some (j*i.size,i.size)) (fun j=>rfl) (parts.toList.map fun p=>a.eval p.2) 0 ((Array.range (m*i.size)).map (fun j=>(if m*i.size=0 then #[]else z.cells)[j % (if m*i.size=0 then #[]else z.cells).size]!)) [] _ (by simp;rfl) (by simp) (by simp [hlen]) (fun v hv=>by rw [←Ci];exact(p5 v hv).1);have Dt:C'.toList.length=m*P.cellsOf el:=by
     rw [f2,Ci];simp only [List.nil_append];have: ∀(L:List Value),(∀v∈L,v.cells.size=i.size)→(L.flatMap fun v=>v.cells.toList).length=L.length*i.size:=by
      intro L
      induction L with
      |nil=>intro _;simp
      |cons v L ih=>intro hL;simp only [List.flatMap_cons,Ak,Am,Array.length_toList];rw [ih (fun u hu=>hL u (by simp [hu])),hL v (by simp),Nat.add_mul];omega
     rw [this _ (fun v hv=>by rw [←Ci];exact(p5 v hv).1),hlen]
    have D9:(xs.map (E.den c.ρ)).length=m:=by rw [List.length_map,p7,hlen]
    have BT:C'.toList.take ((xs.map (E.den c.ρ)).length*P.cellsOf el)=(parts.toList.map fun p=>a.eval p.2).flatMap fun v=>v.cells.toList:=by rw [D9,←Dt,List.take_length,f2];simp
    refine Az.newRow (xs:=xs.map (E.den c.ρ)) (N:=N) (C:=C') (cap:=m) (wd:=c.w) h p3 ⟨rfl,rfl,rfl,rfl⟩ ?_ (by simp [E.den,EL.de]) (by omega) (fun y hy=> ?_) (by omega) (by simp only [maxLen];have:m*1≤m*P.cellsOf el:=Nat.mul_le_mul_left _ (by omega);omega) (by rw [←Array.length_toList,Dt]) ?_ (by rw [BT];exact p1) p4 p2
    ·rw [D9];have AQ:=kT (P:=P) A7 Bc hi Ft Ci m (by rw [←Ci];omega) (parts.map fun(x:Nat × Operand)=>(x.1,a.eval x.2)) C' (by rw [Gq];exact f1) c.w;simp only [execOp,ho,Sem.run_bind];rw [AQ];rfl
    ·obtain⟨q,hq,rfl⟩:=List.mem_map.1 hy;exact p6 q hq
    ·rw [BT];intro u hu;obtain⟨v,hv,hu⟩:=List.mem_flatMap.1 hu;exact(p5 v hv).2 u hu
   ·cases he
  ·cases he
 ·cases he
end
end Go.Proofs.YtollgpkegmbpmaaGreatDoor
end

/- Parts of a proof, joined: WA, VJa, VK, VL, VM, VN, VO, VP, VQ, VR, VS, VT, VU, VV, VW. -/
import Derived.Test.YtollgpkegmbpmaaGreatDoorT2
import Derived.WalkSpells
import Derived.Laws.BytesArg
set_option linter.unusedVariables false
set_option linter.unusedSimpArgs false
section
namespace Go.Proofs.YtollgpkegmbpmaaGreatDoor
open Go.RowKit
theorem Hc: ∀{l:List (Nat × Af)} {t:Nat} {e:Af},Av l t=some e→(t,e)∈l
 | [],_,_,h=>by simp [Av]at h
 |(u,f)::l,t,e,h=>by
  simp only [Av]at h;split at h
  ·rename_i hu;subst hu;simp at h;subst h;simp
  ·exact List.mem_cons_of_mem _ (Hc h)
theorem Kf {α:Type}: ∀{l:List (Nat × α)} {t:Nat} {e:α},l.lookup t=some e→(t,e)∈l
 | [],_,_,h=>by simp at h
 |(u,f)::l,t,e,h=>by
  simp only [List.lookup_cons]at h;split at h
  ·rename_i hu;simp at h hu;subst h;subst hu;simp
  ·exact List.mem_cons_of_mem _ (Kf h)
theorem Sk: ∀{θ:List (Nat × Option Nat)},Km θ=true→ ∀{t u v:Nat},(t,some v)∈θ→(u,some v)∈θ→t=u
 | [],_,t,u,v,h,_=>by simp at h
 |(p,q)::θ,hn,t,u,v,h1,h2=>by
  have jQ:Km θ=true:=by cases q<;>(simp only [Km,Ad]at hn;exact hn.2)
  have key: ∀x,(p,some v)=(p,q)→(x,some v)∈θ→False:=by intro x hq hx;cases hq;simp only [Km,Ad,AJ]at hn;have:=hn.1 _ hx;simp at this
  rcases Ae.1 h1 with h3|h3<;>rcases Ae.1 h2 with h4|h4
  ·cases h3;cases h4;rfl
  ·cases h3;exact(key u rfl h4).elim
  ·cases h4;exact(key t rfl h3).elim
  ·exact Sk jQ h3 h4
def Bq (hp:List (Nat × Af)) (t:Nat):Option Nat:=match Av hp t with
 |some (.box ..)=>some 0
 |some (.row _ _ g _ _)=>some g
 |some (.ay g _)=>some g
 |some (.deep _ _ _ g _ _)=>some g
 |_=>none
def FV (hp:List (Nat × Af)) (t:Nat):Bool:=match Av hp t with
 |some (.box ..)=>true
 |some (.row ..)=>true
 |some (.deep ..)=>true
 |_=>false
def JD (pat leaf:Option Af) (g:GI):GI:=match pat,leaf with
 |some (.row ..),some (.deep ..)=>⟨g.top.take 1, []⟩
 |_,_=>g
theorem tN {p l:Option Af} {g:GI} {b:Nat} (h:b∈(JD p l g).top):b∈g.top:=by
 unfold JD at h;split at h
 ·exact List.mem_of_mem_take h
 ·exact h
theorem sN {p l:Option Af} {g:GI} {b:Nat} (h:b∈(JD p l g).own):b∈g.own:=by
 unfold JD at h;split at h
 ·simp only [GI.own,List.append_nil]at h;simp [GI.own,List.mem_of_mem_take h]
 ·exact h
theorem qH {p l:Option Af} {g:GI} (h:g.own.Nodup):(JD p l g).own.Nodup:=by
 unfold JD;split
 ·simp only [GI.own,List.append_nil]at h ⊢;exact List.Sublist.nodup (List.Sublist.trans (List.take_sublist _ _) (List.sublist_append_left _ _)) h
 ·exact h
def Ct (c:Cx) (ρ:List AV) (θ:List (Nat × Option Nat)) (pat leaf:St):Cx:=
 {c with
  ρ:=ρ
  G:=fun t=>if FV pat.hp t then(match θ.lookup t with|some (some t')=>JD (Av pat.hp t) (Av leaf.hp t') (c.G t')|_=>⟨[], []⟩)else⟨[], []⟩
  K:=fun t g=>Bq pat.hp t=some g
  H:=fun t _=>match θ.lookup t with|some (some t')=>c.H t' ((Bq leaf.hp t').getD 0)|_=> .slice none 0 0
  U:=fun t=>t<pat.nx
  E:=fun t=>match Av pat.hp t with|some (.deep _ _ _ _ ep _)=>ep|_=>0}
section
variable {c:Cx} {ρ:List AV} {nv n:Nat} {es:List E} {θ:List (Nat × Option Nat)} {pat leaf:St} {sl:Nat→SV} {a:Act}
theorem Kn {t b:Nat} (h:b∈((Ct c ρ θ pat leaf).G t).own):FV pat.hp t=true∧ ∃t',θ.lookup t=some (some t')∧(b∈((Ct c ρ θ pat leaf).G t).top→b∈(c.G t').top)∧b∈(c.G t').own:=by
 simp only [Ct]at h ⊢;split at h
 ·rename_i ho;split at h
  ·rename_i t' ht;exact⟨ho,t',ht,fun hb=>by rw [if_pos ho]at hb;exact tN hb,sN h⟩
  ·simp [GI.own]at h
 ·simp [GI.own]at h
theorem Nb {b:Nat} (h:c.ok b):(Ct c ρ θ pat leaf).ok b:=by refine⟨fun⟨t,ht⟩=> ?_,h.2⟩;obtain⟨_,t',_,hg,_⟩:=Kn (b:=b) (by simp only [GI.own,Ag];exact .inl ht);exact h.1 ⟨t',hg ht⟩
theorem Jm (hp:ρ<+:c.ρ) (hn:ρ.length=nv) {x y:E} (h:HK nv es x y=true):x.den (ρ++(EL.of es).den c.ρ)=y.den c.ρ:=by
 obtain⟨τ,hτ⟩:=hp;have IW:x.sc nv=true→x.beq y=true→x.den (ρ++(EL.of es).den c.ρ)=y.den c.ρ:=by intro h1 h2;rw [←E.af c.ρ x y h2];subst hn;generalize hq:(EL.of es).den c.ρ=q;rw [E.ah ρ q τ x h1,hτ]
 unfold HK at h;split at h
 ·rename_i i;split at h
  ·rename_i hi;exact IW (by simpa [E.sc]using hi) h
  ·rename_i hi;split at h
   ·rename_i z hz;rw [←E.af c.ρ z y h];simp only [E.den,EL.cr];rw [List.getElem?_append_right (by omega),hn,List.getElem?_map,hz];rfl
   ·cases h
 ·simp only [Ad]at h;exact IW h.1 h.2
theorem uK (Aj:Rel c n sl (Av leaf.hp) a) {s:SV} {v:Value} {y:E} (hs:SR c [s] [v]) (h:Hh leaf s=some y): ∃f,Rd c.w [v] [y.den c.ρ] f∧ ∀b∈f,c.dj (Bn (Av leaf.hp) [] (AI+1) [s]) b:=
 Gl (fun t e hr=>Aj.ents t e hr) (DS _) AI h hs AI (Nat.le_refl _)
mutual
theorem eU (Aj:Rel c n sl (Av leaf.hp) a) (hp:ρ<+:c.ρ) (hn:ρ.length=nv) (BH: ∀t e,(t,e)∈pat.hp→GP nv es θ pat leaf t e=true): ∀(m:Nat) {p s:SV} {v:Value},O5 nv es θ pat leaf m p s=true→SR c [s] [v]→SR (Ct c (ρ++(EL.of es).den c.ρ) θ pat leaf) [p] [v]
 |0,p,s,v,h,_=>by simp [O5]at h
 |m+1,p,s,v,h,hs=>by
  unfold O5 at h;split at h
  ·exact .undef .nil
  ·rename_i x;split at h
   ·rename_i y hy;simp only [Ad,AJ,Bool.or_eq_true]at h;obtain⟨f,hf,GF⟩:=uK Aj hs hy;have hx:=Jm (c:=c) hp hn h.1;refine .e (by rw [show(Ct c (ρ++(EL.of es).den c.ρ) θ pat leaf).ρ=ρ++(EL.of es).den c.ρ from rfl,hx];exact hf) (fun b hb=> ?_) .nil;rcases GF b hb with hb|⟨t',J2,hb⟩
    ·exact Nb hb
    ·refine⟨fun⟨u,hu⟩=> ?_, .inr (Aj.gw.allow t' b (by simp [GI.own,hb]))⟩;obtain⟨ho,v',hl,hg,N5⟩:=Kn (b:=b) (by simp only [GI.own,Ag];exact .inl hu);have hv:v'=t':=by
      refine Classical.byContradiction fun A8=>Aj.gw.bq v' t' A8 b N5 (by simp [GI.own,hb])
     subst hv;have:=h.2 _ J2 _ (Kf hl);simp only [bne_self_eq_false,AY,false_or]at this;unfold FV at ho;split at this
     ·rename_i hh;rw [hh]at ho;simp at ho
     ·rename_i hh;rw [hh]at ho;simp at ho
     ·cases this
   ·cases h
  ·split at h
   ·cases hs with
    |bb _=>exact .bb .nil
   ·cases h
  ·split at h
   ·cases hs with
    |emp _=>exact .emp .nil
   ·cases hs with
    |bb _=>exact .emp .nil
   ·cases h
  ·rename_i t g;have key: ∀t' v',Bq pat.hp t=some g→θ.lookup t=some (some t')→Im leaf.hp t' v'=true→SR c [.own t' v'] [v]→SR (Ct c (ρ++(EL.of es).den c.ρ) θ pat leaf) [.own t g] [v]:=by
    intro t' v' hg hl hv hs;cases hs with
    |own h1 h2 _=>
     refine .own hg ?_ .nil;show(match θ.lookup t with|some (some t')=>c.H t' ((Bq leaf.hp t').getD 0)|_=>Value.slice none 0 0)=_;rw [hl];have:(Bq leaf.hp t').getD 0=v':=by
      unfold Im at hv;unfold Bq;split at hv
      ·rename_i hh;rw [hh];simpa using(beq_iff_eq.1 hv).symm
      ·rename_i hh;rw [hh];simpa using(beq_iff_eq.1 hv).symm
      ·rename_i hh;rw [hh];simpa using(beq_iff_eq.1 hv).symm
      ·cases hv
     show c.H t' ((Bq leaf.hp t').getD 0)=_;rw [this];exact h2
   split at h
   ·rename_i g' _ _ Dm;simp only [Ad,beq_iff_eq]at h;obtain⟨rfl,h⟩:=h;split at h
    ·simp only [Ad,beq_iff_eq]at h;exact key _ _ (by simp [Bq,Dm]) h.1 h.2 hs
    ·rw [beq_iff_eq]at h;cases hs with
     |bb _=>refine .own (p:=none) (q:=0) (r:=0) (by show Bq pat.hp t=some g;simp [Bq,Dm]) ?_ .nil;show(match θ.lookup t with|some (some t')=>c.H t' ((Bq leaf.hp t').getD 0)|_=>Value.slice none 0 0)=_;rw [h]
    ·cases h
   ·rename_i g' _ Dm;simp only [Ad,beq_iff_eq]at h;obtain⟨rfl,h⟩:=h;split at h
    ·simp only [Ad,beq_iff_eq]at h;exact key _ _ (by simp [Bq,Dm]) h.1 h.2 hs
    ·cases h
   ·rename_i g' _ _ Dm;simp only [Ad,beq_iff_eq]at h;obtain⟨rfl,h⟩:=h;split at h
    ·simp only [Ad,beq_iff_eq]at h;exact key _ _ (by simp [Bq,Dm]) h.1 h.2 hs
    ·rw [beq_iff_eq]at h;cases hs with
     |bb _=>refine .own (p:=none) (q:=0) (r:=0) (by show Bq pat.hp t=some g;simp [Bq,Dm]) ?_ .nil;show(match θ.lookup t with|some (some t')=>c.H t' ((Bq leaf.hp t').getD 0)|_=>Value.slice none 0 0)=_;rw [h]
    ·cases h
   ·cases h
  ·rename_i t o;split at h
   ·rename_i ty g cs Dm;split at h
    ·rename_i t' o';simp only [Ad,beq_iff_eq]at h;obtain⟨rfl,hl⟩:=h;have Gz:=BH t _ (Hc Dm);simp only [GP,hl]at Gz;split at Gz
     ·rename_i Cr;cases hs with
      |bg h1 h2 _=>
       refine .bg (by show Bq pat.hp t=some 0;simp [Bq,Dm]) ?_ .nil;show(match θ.lookup t with|some (some t')=>c.H t' ((Bq leaf.hp t').getD 0)|_=>Value.slice none 0 0)=_;rw [hl];have:(Bq leaf.hp t').getD 0=0:=by simp [Bq,Cr]
       simp only [this];exact h2
     ·cases Gz
    ·cases h
   ·cases h
  ·cases h
  ·rename_i x i z o;split at h
   ·rename_i y j z' o';simp only [Ad,beq_iff_eq]at h;obtain⟨⟨⟨⟨⟨rfl,rfl⟩,h1⟩,h2⟩,h3⟩,h4⟩:=h;have hx:x.den (ρ++(EL.of es).den c.ρ)=y.den c.ρ:=by
     obtain⟨τ,hτ⟩:=hp;rw [←E.af c.ρ x y h2];subst hn;generalize (EL.of es).den c.ρ=q;rw [E.ah ρ q τ x h1,hτ]
    have hi:i.den (ρ++(EL.of es).den c.ρ)=j.den c.ρ:=by obtain⟨τ,hτ⟩:=hp;rw [←E.af c.ρ i j h4];subst hn;generalize (EL.of es).den c.ρ=q;rw [E.ah ρ q τ i h3,hτ]
    cases hs with
    |cu g1 g2 g3 g4 g5 g6 _=>refine .cu (f:=_) (by show Rd c.w _ [x.den (ρ++(EL.of es).den c.ρ)] _;rw [hx];exact g1) (fun b hb=>Nb (g2 b hb)) (by show i.den (ρ++(EL.of es).den c.ρ)=_;rw [hi];exact g3) g4 g5 (by show((x.den (ρ++(EL.of es).den c.ρ)).nth _).cells.length=_;rw [hx];exact g6) .nil
   ·cases h
  ·rename_i x o;split at h
   ·rename_i y o';simp only [Ad,beq_iff_eq]at h;obtain⟨⟨rfl,h1⟩,h2⟩:=h;have hx:x.den (ρ++(EL.of es).den c.ρ)=y.den c.ρ:=by
     obtain⟨τ,hτ⟩:=hp;rw [←E.af c.ρ x y h2];subst hn;generalize (EL.of es).den c.ρ=q;rw [E.ah ρ q τ x h1,hτ]
    cases hs with
    |cq g1 g2 _=>exact .cq (by show Rd c.w _ [x.den (ρ++(EL.of es).den c.ρ)] _;rw [hx];exact g1) (fun b hb=>Nb (g2 b hb)) .nil
   ·cases h
  ·split at h
   ·cases hs with
    |agg h9 h1 _=>exact .agg h9 (Qd Aj hp hn BH m h h1) .nil
   ·cases h
  ·split at h
   ·cases hs with
    |tup h1 _=>exact .tup (Qd Aj hp hn BH m h h1) .nil
   ·cases h
  ·split at h
   ·simp only [Ad,beq_iff_eq]at h;obtain⟨rfl,h⟩:=h;cases hs with
    |fn h1 _=>exact .fn (Qd Aj hp hn BH m h h1) .nil
   ·cases h
  ·cases h
  ·cases h
  ·cases h
  ·cases h
  ·rename_i i;split at h
   ·rename_i j;simp only [Ad,beq_iff_eq,decide_eq_true_eq]at h;obtain⟨rfl,hi⟩:=h;cases hs with
    |lent g1 _=>
     have hx:(E.var i).den (ρ++(EL.of es).den c.ρ)=(E.var i).den c.ρ:=by obtain⟨τ,hτ⟩:=hp;subst hn;generalize (EL.of es).den c.ρ=q;rw [E.ah ρ q τ (.var i) (by simpa [E.sc]using hi),hτ]
     exact .lent (show c.A.lo v ((E.var i).den (ρ++(EL.of es).den c.ρ)) by rw [hx];exact g1) .nil
   ·cases h
theorem Qd (Aj:Rel c n sl (Av leaf.hp) a) (hp:ρ<+:c.ρ) (hn:ρ.length=nv) (BH: ∀t e,(t,e)∈pat.hp→GP nv es θ pat leaf t e=true): ∀(m:Nat) {ps ss:List SV} {vs:List Value},FX nv es θ pat leaf m ps ss=true→SR c ss vs→SR (Ct c (ρ++(EL.of es).den c.ρ) θ pat leaf) ps vs
 |0,ps,ss,vs,h,_=>by simp [FX]at h
 |m+1, [], [],vs,h,hs=>by cases hs;exact .nil
 |m+1,p::ps, [],vs,h,hs=>by simp [FX]at h
 |m+1, [],s::ss,vs,h,hs=>by simp [FX]at h
 |m+1,p::ps,s::ss, [],h,hs=>by have:=hs.len;simp at this
 |m+1,p::ps,s::ss,v::vs,h,hs=>by simp only [FX,Ad]at h;obtain⟨h1,h2⟩:=hs.bd;exact(eU Aj hp hn BH m h.1 h1).cons (Qd Aj hp hn BH m h.2 h2)
end
theorem qW (Aj:Rel c n sl (Av leaf.hp) a) (hp:ρ<+:c.ρ) (hn:ρ.length=nv) (BH: ∀t e,(t,e)∈pat.hp→GP nv es θ pat leaf t e=true) (hθ:Km θ=true) {t:Nat} {e:Af} (ht:Av pat.hp t=some e):Cu (Ct c (ρ++(EL.of es).den c.ρ) θ pat leaf) t e:=by
 have h:=BH t e (Hc ht);have X9:FV pat.hp t=false→(Ct c (ρ++(EL.of es).den c.ρ) θ pat leaf).G t=⟨[], []⟩:=by intro h0;simp only [Ct];rw [if_neg (by rw [h0];simp)]
 have Ya: ∀t',FV pat.hp t=true→θ.lookup t=some (some t')→(Ct c (ρ++(EL.of es).den c.ρ) θ pat leaf).G t=JD (Av pat.hp t) (Av leaf.hp t') (c.G t'):=by intro t' h0 hl;simp only [Ct];rw [if_pos h0,hl]
 have NR: ∀t',FV pat.hp t=true→θ.lookup t=some (some t')→(∀q1 q2 q3 q4 q5 q6,Av leaf.hp t'=some (.deep q1 q2 q3 q4 q5 q6)→ ∀p1 p2 p3 p4 p5,e≠ .row p1 p2 p3 p4 p5)→(Ct c (ρ++(EL.of es).den c.ρ) θ pat leaf).G t=c.G t':=by
  intro t' h0 hl DH;rw [Ya t' h0 hl,ht];unfold JD;split
  ·rename_i h1 h2;simp only [Ac]at h1;exact absurd h1 (DH _ _ _ _ _ _ h2 _ _ _ _ _)
  ·rfl
 have IH: ∀t' g,θ.lookup t=some (some t')→Bq leaf.hp t'=some g→ ∀g',(Ct c (ρ++(EL.of es).den c.ρ) θ pat leaf).H t g'=c.H t' g:=by intro t' g hl hg g';simp only [Ct,hl,hg,Option.getD_some]
 have DE: ∀g,Bq pat.hp t=some g→ ∀g',(Ct c (ρ++(EL.of es).den c.ρ) θ pat leaf).K t g'→g'≤g:=by intro g hg g' hk;have BI:Bq pat.hp t=some g':=hk;rw [hg]at BI;cases BI;exact Nat.le_refl _
 cases e with
 |box ty g cs=>
  simp only [GP]at h;split at h
  ·rename_i t' hl;split at h
   ·rename_i ty' g' ds Cr;simp only [Ad,beq_iff_eq]at h;obtain⟨⟨rfl,rfl⟩,h⟩:=h;obtain⟨b,C,h1,h2,h3,h4,h5,h6,h7⟩:=Aj.ents t' _ (by rw [Cr];rfl);have hg:=NR t' (by simp [FV,ht]) hl (by intros;simp);exact⟨b,C,by show Bq pat.hp t=some 0;simp [Bq,ht],by rw [IH t' 0 hl (by simp [Bq,Cr])];exact h2,by rw [hg];exact h3,by rw [hg];exact h4,h5,h6,Qd Aj hp hn BH _ h h7⟩
   ·cases h
  ·cases h
 |row et z g x d=>
  simp only [GP]at h;split at h
  ·rename_i t' hl;split at h
   ·rename_i et' z' g' y d' Cr;simp only [Ad,beq_iff_eq,Bool.or_eq_true,Bool.not_eq_true']at h;obtain⟨⟨⟨rfl,rfl⟩,hx⟩,hd⟩:=h;obtain⟨h1,h2,N,h3,h4,h5,h6⟩:=Aj.ents t' _ (by rw [Cr];rfl);have hg:=NR t' (by simp [FV,ht]) hl (fun _ _ _ _ _ _ hh=>by rw [Cr]at hh;cases hh);have Cp:=Jm hp hn hx;have hK:Bq pat.hp t=some g:=by simp [Bq,ht]
    refine⟨hK,DE g hK,N, ?_,fun b hb=>Nb (h4 b hb),fun CX=> ?_,fun yZ=> ?_⟩
    ·rw [IH t' g' hl (by simp [Bq,Cr]),hg];show Co c.w et z _ (x.den (ρ++(EL.of es).den c.ρ)) _ N;rw [Cp];exact h3
    ·rw [hg];exact h5 (by rcases hd with hd|hd;rw [CX]at hd;cases hd;exact hd)
    ·rw [hg];cases d' with
     |false=>exact h6 rfl
     |true=>obtain⟨u1,u2⟩:=h5 rfl;rw [u2];exact u1
   ·rename_i et' z' l' g' ep' y Cr;simp only [Ad,beq_iff_eq,Bool.not_eq_true']at h;obtain⟨⟨⟨rfl,rfl⟩,hx⟩,rfl⟩:=h;obtain⟨h1,h2,_,h3,h4⟩:=Aj.ents t' _ (by rw [Cr];rfl);have hg:(Ct c (ρ++(EL.of es).den c.ρ) θ pat leaf).G t=⟨(c.G t').top.take 1, []⟩:=by
     rw [Ya t' (by simp [FV,ht]) hl,ht,Cr];rfl
    have Cp:=Jm hp hn hx;have hK:Bq pat.hp t=some g:=by simp [Bq,ht]
    obtain⟨f,k1,k2⟩:=h3.ownRow;have BF:((c.G t').top.take 1++(c.G t').top.drop 1).Nodup:=by rw [List.take_append_drop];have:=Aj.gw.nodup t';simp only [GI.own,h4,List.append_nil]at this;exact this
    refine⟨hK,DE g hK,f, ?_,fun b hb=> ?_,fun CX=>(by cases CX),fun _=>by rw [hg]⟩
    ·rw [IH t' g' hl (by simp [Bq,Cr]),hg];show Co c.w et z _ (x.den (ρ++(EL.of es).den c.ρ)) _ f;rw [Cp];exact k1
    ·have B3:b∈(c.G t').top:=List.mem_of_mem_drop (k2 b hb);refine⟨fun⟨u,hu⟩=> ?_, .inr (Aj.gw.allow t' b (by simp [GI.own,B3]))⟩;obtain⟨_,v',Bi,_,N5⟩:=Kn (b:=b) (by simp only [GI.own,Ag];exact .inl hu);have hv:v'=t':=Classical.byContradiction fun A8=>Aj.gw.bq v' t' A8 b N5 (by simp [GI.own,B3]);subst hv;have:=Sk hθ (Kf Bi) (Kf hl);subst this;rw [hg]at hu;exact(List.nodup_append.1 BF).2.2 b hu b (k2 b hb) rfl
   ·cases h
  ·rename_i hl;simp only [Ad,decide_eq_true_eq]at h;have Cp:=Jm hp hn h.1;have hK:Bq pat.hp t=some g:=by simp [Bq,ht]
   have hg:(Ct c (ρ++(EL.of es).den c.ρ) θ pat leaf).G t=⟨[], []⟩:=by simp [Ct,hl]
   refine⟨hK,DE g hK, [],⟨[], ?_,by simp,h.2, .inl ⟨rfl,⟨none, ?_⟩,by rw [hg],rfl⟩⟩,by simp,fun _=>⟨rfl,by rw [hg]⟩,fun _=>by rw [hg]⟩
   ·show x.den (ρ++(EL.of es).den c.ρ)=_;rw [Cp];rfl
   ·simp [Ct,hl]
  ·cases h
 |ay g x=>
  have hg:=X9 (by simp [FV,ht]);have hK:Bq pat.hp t=some g:=by simp [Bq,ht]
  simp only [GP]at h;split at h
  ·rename_i t' hl;have GF: ∀b,b∈(c.G t').top→(Ct c (ρ++(EL.of es).den c.ρ) θ pat leaf).ok b:=by
    intro b hb;refine⟨fun⟨u,hu⟩=> ?_, .inr (Aj.gw.allow t' b (by simp [GI.own,hb]))⟩;obtain⟨ho,v',Bi,BY,N5⟩:=Kn (b:=b) (by simp only [GI.own,Ag];exact .inl hu);have hv:v'=t':=Classical.byContradiction fun A8=>Aj.gw.bq v' t' A8 b N5 (by simp [GI.own,hb]);subst hv;have:=Sk hθ (Kf Bi) (Kf hl);subst this;simp [FV,ht]at ho
   split at h
   ·rename_i et' z' g' y d' Cr;obtain⟨h1,h2,N,h3,h4,h5,h6⟩:=Aj.ents t' _ (by rw [Cr];rfl);obtain⟨f,r1,r2,_⟩:=h3.rd;refine⟨hK,⟨f, ?_,fun b hb=>(r2 b hb).elim (GF b) fun hb=>Nb (h4 b hb)⟩,by rw [hg],by rw [hg]⟩;rw [IH t' g' hl (by simp [Bq,Cr])];show Rd c.w _ [x.den (ρ++(EL.of es).den c.ρ)] f;rw [Jm hp hn h];exact r1
   ·rename_i g' y Cr;obtain⟨h1,⟨f,r1,r2⟩,_,_⟩:=Aj.ents t' _ (by rw [Cr];rfl);refine⟨hK,⟨f, ?_,fun b hb=>Nb (r2 b hb)⟩,by rw [hg],by rw [hg]⟩;rw [IH t' g' hl (by simp [Bq,Cr])];show Rd c.w _ [x.den (ρ++(EL.of es).den c.ρ)] f;rw [Jm hp hn h];exact r1
   ·rename_i et' z' l' g' ep' y Cr;obtain⟨h1,h2,_,h3,h4⟩:=Aj.ents t' _ (by rw [Cr];rfl);obtain⟨f,r1,r2⟩:=h3.rd;refine⟨hK,⟨f, ?_,fun b hb=>GF b (r2 b hb)⟩,by rw [hg],by rw [hg]⟩;rw [IH t' g' hl (by simp [Bq,Cr])];show Rd c.w _ [x.den (ρ++(EL.of es).den c.ρ)] f;rw [Jm hp hn h];exact r1
   ·cases h
  ·cases h
 |hol=>simp [GP]at h
 |deep et z dl g ep x=>
  have hE:(Ct c (ρ++(EL.of es).den c.ρ) θ pat leaf).E t=ep:=by simp [Ct,ht]
  have hK:Bq pat.hp t=some g:=by simp [Bq,ht]
  simp only [GP]at h;split at h
  ·rename_i t' hl;split at h
   ·rename_i et' z' dl' g' ep' y Cr;simp only [Ad,beq_iff_eq]at h;obtain⟨⟨⟨rfl,rfl⟩,T7⟩,hx⟩:=h;have T7:=AF.fm T7;subst T7;obtain⟨h1,h2,_,h3,h4⟩:=Aj.ents t' _ (by rw [Cr];rfl);have hg:=NR t' (by simp [FV,ht]) hl (by intros;simp);refine⟨hK,DE g hK,hE, ?_,by rw [hg];exact h4⟩;rw [IH t' g' hl (by simp [Bq,Cr]),hg];show DC c.w _ _ [x.den (ρ++(EL.of es).den c.ρ)] _;rw [Jm hp hn hx];exact h3
   ·cases h
  ·rename_i hl;have hg:(Ct c (ρ++(EL.of es).den c.ρ) θ pat leaf).G t=⟨[], []⟩:=by simp [Ct,hl]
   simp only [Ad,decide_eq_true_eq,beq_iff_eq]at h;refine⟨hK,DE g hK,hE, ?_,by rw [hg]⟩;have e1:(Ct c (ρ++(EL.of es).den c.ρ) θ pat leaf).H t g= .slice none 0 0:=by simp [Ct,hl]
   rw [e1,hg];show DC c.w _ _ [x.den (ρ++(EL.of es).den c.ρ)] _;rw [Jm hp hn h.1.1];exact .void h.1.2 (by rw [AF.aj];exact h.2) .nil
  ·cases h
 |gd gs e=>simp [GP]at h
 |dead=>have hg:=X9 (by simp [FV,ht]);exact⟨by rw [hg],by rw [hg]⟩
end
theorem cJ {nv:Nat} {es:List E} {θ:List (Nat × Option Nat)} {pat leaf:St}: ∀(m:Nat) {ps ss:List SV},FX nv es θ pat leaf m ps ss=true→ ∀{i:Nat} {p:SV},ps[i]?=some p→ ∃s k,ss[i]?=some s∧O5 nv es θ pat leaf k p s=true
 |0,ps,ss,h,_,_,_=>by simp [FX]at h
 |m+1, [],ss,h,i,p,hp=>by simp at hp
 |m+1,q::ps, [],h,i,p,hp=>by simp [FX]at h
 |m+1,q::ps,s::ss,h,i,p,hp=>by
  simp only [FX,Ad]at h;cases i with
  |zero=>simp at hp;subst hp;exact⟨s,m,rfl,h.1⟩
  |succ i=>simpa using cJ m h.2 (by simpa using hp)
theorem uH:S7:=by
 intro F nv pat τ es ρ ρ' a w hi hn hp hr;obtain⟨c,rfl,rfl,Q7,hA,TF,E2,hU,Aj⟩:=hr;unfold Iz at hi;simp only at hi;split at hi
 ·rename_i Au;simp only [Ac]at hi;generalize T9:(List.range (pat.nv-nv)).map (fun j=>((LU nv pat τ true pat.hp (LU nv pat τ false pat.hp (Ky nv pat τ 2000 ⟨[], []⟩ pat.sl τ.sl))).as_.lookup (nv+j)).getD (.int .i64 0))=es0 at Au hi;subst hi;generalize (LU nv pat τ true pat.hp (LU nv pat τ false pat.hp (Ky nv pat τ 2000 ⟨[], []⟩ pat.sl τ.sl))).θ=θ at Au;clear T9;simp only [gI,Ad,beq_iff_eq,AJ,decide_eq_true_eq]at Au;obtain⟨⟨⟨⟨⟨⟨h1,hθ⟩,hlen⟩,B7⟩,B2⟩,jV⟩,OM⟩:=Au;have BH: ∀t e,(t,e)∈pat.hp→GP nv es0 θ pat τ t e=true:=fun t e he=>(B2 _ he).1;have Am: ∀t e,(t,e)∈pat.hp→t<pat.nx:=fun t e he=>(B2 _ he).2;have OI: ∀t e,Av pat.hp t=some e→ ∀gs e',e≠ .gd gs e':=by
   rintro t e he gs e' rfl;have:=BH t _ (Hc he);simp [GP]at this
  have AG: ∀t e e',Av pat.hp t=some e→(BS (ρ++(EL.of es0).den c.ρ) (Av pat.hp t) e'↔e'=e):=by
   intro t e e' he;rw [he];cases e with
   |gd gs e9=>exact absurd rfl (OI t _ he gs e9)
   |_=>simp [BS,eq_comm]
  refine⟨Ct c (ρ++(EL.of es0).den c.ρ) θ pat τ,rfl,rfl,Q7,hA,TF, ?_,fun t ht=>ht,Aj.defers,by rw [hlen];exact Aj.size,⟨Aj.base.os,Aj.base.tape,Aj.base.output,Aj.base.size,fun t v Mm=> ?_,Aj.base.block,Aj.base.pk,Aj.base.lo⟩,fun i=> ?_,fun t e hr=> ?_,fun t DH=> ?_,⟨fun t=> ?_,fun t u J3 b hb Bx=> ?_,fun t b hb=> ?_,fun t b hb=> ?_⟩,fun t g hk=> ?_,fun t e he=>Am t e (Hc he)⟩
  ·rw [h1,EL.cr];simp [hn]
  ·have KV:Ks t=true:=F.ky t v (by rw [←hA];exact Mm);refine⟨by
    show t<pat.nx;unfold Ks at KV;simp only [Ad,decide_eq_true_eq]at KV;omega,fun hk=> ?_⟩
   have BI:Bq pat.hp t=some 0:=hk;obtain⟨e,UT⟩: ∃e,Av pat.hp t=some e:=by
    unfold Bq at BI;cases hh:Av pat.hp t with
    |none=>rw [hh]at BI;cases BI
    |some e=>exact⟨e,rfl⟩
   have Dl:=OM _ (Hc UT);simp only [KV,Bool.not_true,Bool.false_or]at Dl;have main:θ.lookup t=some (some t)→Bq τ.hp t=some 0→c.K t 0→(Ct c (ρ++(EL.of es0).den c.ρ) θ pat τ).H t 0=v:=by intro hl hg hK;simp only [Ct,hl,hg,Option.getD_some];exact(Aj.base.pins t v Mm).2 hK
   unfold J6 at Dl;simp only [Bq,UT]at BI;rw [UT]at Dl;cases e with
   |box ty g cs=>
    simp only [Ad,beq_iff_eq]at Dl;obtain⟨hl,hb⟩:=Dl;split at hb
    ·rename_i ty' g' cs' Cr;obtain⟨b,C,q1,_⟩:=Aj.ents t _ (by rw [Cr];rfl);exact main hl (by simp [Bq,Cr]) q1
    ·cases hb
   |row ety sz g x d=>
    simp only [Ac]at BI;subst BI;simp only [bne_self_eq_false,Bool.false_or,Ad,beq_iff_eq]at Dl;obtain⟨hl,hb⟩:=Dl;split at hb
    ·rename_i ety' sz' g' x' d' Cr;rw [beq_iff_eq]at hb;subst hb;obtain⟨q1,_⟩:=Aj.ents t _ (by rw [Cr];rfl);exact main hl (by simp [Bq,Cr]) q1
    ·cases hb
   |ay g x=>simp only [Ac]at BI;subst BI;simp at Dl
   |gd=>simp at BI
   |dead=>simp at BI
   |hol=>simp at BI
   |deep ety sz l g ep x=>
    simp only [Ac]at BI;subst BI;simp only [bne_self_eq_false,Bool.false_or,Ad,beq_iff_eq]at Dl;obtain⟨hl,hb⟩:=Dl;split at hb
    ·rename_i Cr;rw [beq_iff_eq]at hb;subst hb;obtain⟨q1,_⟩:=Aj.ents t _ (by rw [Cr];rfl);exact main hl (by simp [Bq,Cr]) q1
    ·cases hb
  ·unfold Bb;cases kB:pat.sl[i]? with
   |none=>exact .undef .nil
   |some p=>obtain⟨s,k,hs,hk⟩:=cJ _ B7 kB;have:=Aj.ca i;unfold Bb at this;rw [hs]at this;exact eU Aj hp hn BH k hk this
  ·cases he:Av pat.hp t with
   |none=>rw [he]at hr;exact hr.elim
   |some e9=>have KK:=(AG t e9 e he).1 hr;subst KK;exact qW Aj hp hn BH hθ he
  ·have:FV pat.hp t=false:=by
    cases he:Av pat.hp t with
    |none=>simp [FV,he]
    |some e9=>exact absurd ((AG t e9 e9 he).2 rfl) (DH e9)
   simp [Ct,this]
  ·simp only [Ct];split
   ·split
    ·exact qH (Aj.gw.nodup _)
    ·simp [GI.own]
   ·simp [GI.own]
  ·obtain⟨_,t',hl,_,B3⟩:=Kn hb;obtain⟨_,u',Bi,_,GA⟩:=Kn Bx;by_cases hh:t'=u'
   ·subst hh;exact J3 (Sk hθ (Kf hl) (Kf Bi))
   ·exact Aj.gw.bq t' u' hh b B3 GA
  ·obtain⟨_,t',hl,_,B3⟩:=Kn hb;exact Aj.gw.allow t' b B3
  ·obtain⟨_,t',hl,_,B3⟩:=Kn hb;exact Aj.gw.inb t' b B3
  ·have BI:Bq pat.hp t=some g:=hk;unfold Bq at BI;show t<pat.nx;split at BI
   ·rename_i hh;exact Am t _ (Hc hh)
   ·rename_i hh;exact Am t _ (Hc hh)
   ·rename_i hh;exact Am t _ (Hc hh)
   ·rename_i hh;exact Am t _ (Hc hh)
   ·cases BI
 ·cases hi
theorem Px (l:List DT): ∀(n k o m:Nat),k<n→o+m≤l.length→((Cv n l).drop (k*l.length+o)).take m=(l.drop o).take m
 |0,k,_,_,h,_=>by omega
 |n+1,0,o,m,_,hm=>by rw [LF,Nat.zero_mul,Nat.zero_add,List.drop_append_of_le_length (by omega),List.take_append_of_le_length (by simp;omega)]
 |n+1,k+1,o,m,h,hm=>by have ih:=Px l n k o m (by omega) hm;rw [←ih,LF,show(k+1)*l.length+o=l.length+(k*l.length+o)from by rw [Nat.add_mul];omega,List.drop_append,List.drop_eq_nil_of_le (by omega)];simp
theorem DC.elem {w:World} {ys:List AV} {l:List DT} {cells:List Value} {N:List Nat} {z:Nat} (h:DC w (Cv ys.length l) cells (Ay ys) N) (hl:l.length=z) (h7: ∀y∈ys,y.cells.length=z) {k o m:Nat} (hk:k<ys.length) (hm:o+m≤z):
  ∃M,(∀b∈M,b∈N)∧DC w ((l.drop o).take m) ((cells.drop (k*z+o)).take m) ((((AV.sl ys).nth k).cells.drop o).take m) M:=by
 obtain⟨N1,N2,N3,rfl,_,h2,_⟩:=h.split (k*z+o) m;subst hl;rw [Px l _ _ _ _ hk hm,PN ys h7 k _ (Ko hk) o m hm]at h2;exact⟨N2,fun b hb=>by simp [hb],h2⟩
theorem Rd.jz {w:World} {vs:List Value} {x:AV} {f:List Nat} {o m:Nat} {g:Bool} (h:Rd w vs ((x.cells.drop o).take m) f) (h9: ∀u∈vs,u.oneCell'=true) (hm:o+m≤x.cells.length) (h1:g=false→m=1):
  Rd w [if g then .agg vs.toArray else vs.headD undef] [x.fld o m g] f:=by
 cases g with
 |true=>have:=Rd.agg h9 h .nil;simpa [AV.fld]using this
 |false=>
  have:=h1 rfl;subst this;have e2:(x.cells.drop o).take 1= [x.cells[o]'(by omega)]:=by rw [List.drop_eq_getElem_cons (by omega),List.take_succ_cons,List.take_zero]
  rw [e2]at h;have hl:=h.len
  match vs,hl with
  | [v],_=>simpa [AV.fld,show o<x.cells.length by omega]using h
section
variable {P:Program} {c:Cx} {n nx:Nat} {sl sl0:Nat→SV} {hp hp0:Nat→Option Af} {a:Act} {o:Oper} {gs:Gd} {e:AK} {sg:Bo} {nv:Nat}
theorem oM {w:World} {b p:Nat} {t:TypeId} {C:Array Value} {ty:TypeId} {fz:Nat × Nat} (hb:w.heap[b]?=some (.cells C ty fz)) (ht:CG P t=true) (hg:Ai P t=true∨P.cellsOf t=1) (hp:p+P.cellsOf t≤C.size):
  (Instr.loadAt t (.pointer (some ⟨b,p,none⟩))).run P w= .ok (if Ai P t then .agg ((C.toList.drop p).take (P.cellsOf t)).toArray else((C.toList.drop p).take (P.cellsOf t)).headD undef) w:=by
 have JQ:((C.toList.drop p).take (P.cellsOf t)).length=P.cellsOf t:=by rw [List.length_take,List.length_drop,Array.length_toList];omega
 refine MP ht _ (fun _=>JQ) (fun h=> ?_) (fun j u hu=> ?_)
 ·rw [JQ];rcases hg with h'|h';rw [h]at h';cases h';exact h'
 ·rw [D5 hb];rw [List.getElem?_take]at hu;split at hu
  ·simpa using hu
  ·cases hu
theorem sK {b g e z ep:Nat} {l:List DT} {c0 i:E} {t:TypeId} {k':Nat} {v:Value} (hE:Cu c b (.deep e z l g ep c0)) (hr:SR c [.bt b g i z k'] [v]) (AZ:CG P t=true) (hle:k'+P.cellsOf t≤z) (As:Ai P t=true∨P.cellsOf t=1):
  ∃u,(Instr.loadAt t v).run P c.w= .ok u c.w∧(((l.drop k').take (P.cellsOf t)).all DT.az=true→Rd c.w [u] [(E.fld (.idx c0 i) k' (P.cellsOf t) (Ai P t)).den c.ρ] [])∧NK c b u ((E.fld (.idx c0 i) k' (P.cellsOf t) (Ai P t)).den c.ρ)∧(Ai P t=false→GV c b g (some (i,z,k')) u):=by
 obtain⟨q1,q2,q3,q4,q5⟩:=hE;cases hr with
 |bt h1 h2 h3 h4 h5 _=>
  rename_i q len cap kk k h6;obtain⟨d1,d2,⟨a9,d3,_⟩|⟨g9,cap9,C,ys,N1,d3,d4,d5,d6,d7,d8,d9,d10,d11,d12⟩⟩:=q4.inv
  ·rw [h2]at d3;cases d3;omega
  ·rw [h2]at d3;cases d3;rw [AF.aj]at d2 d12;have hk:k.toNat<ys.length:=by omega
   have hmul:(k.toNat+1)*z≤ys.length*z:=Nat.mul_le_mul_right _ (by omega);have EW:ys.length*z≤cap*z:=Nat.mul_le_mul_right _ d7;rw [Nat.add_mul]at hmul;have AH:=oM (P:=P) (t:=t) (p:=k.toNat*z+k') d6 AZ As (by omega);obtain⟨M,m1,m2⟩:=d12.elem d2 d10 hk hle;have EP:((C.toList.take (ys.length*z)).drop (k.toNat*z+k')).take (P.cellsOf t)=(C.toList.drop (k.toNat*z+k')).take (P.cellsOf t):=by rw [List.drop_take,List.take_take,Nat.min_eq_left (by omega)]
   rw [EP]at m2;have Ck: ∀u∈(C.toList.drop (k.toNat*z+k')).take (P.cellsOf t),u.oneCell'=true:=fun u hu=>d11 u (by rw [←EP]at hu;exact List.mem_of_mem_drop (List.mem_of_mem_take hu))
   have YF:((AV.sl ys).nth k.toNat).cells.length=z:=d10 _ (List.mem_of_getElem? (Ko hk));have Bz:(E.fld (.idx c0 i) k' (P.cellsOf t) (Ai P t)).den c.ρ=((AV.sl ys).nth k.toNat).fld k' (P.cellsOf t) (Ai P t):=by simp only [E.den,d4,h3,AV.idx]
   have Tz:Ai P t=false→P.cellsOf t=1:=fun h=>by rcases As with h'|h';rw [h]at h';cases h';exact h'
   refine⟨_,AH,fun hf=> ?_, ?_,fun hf=> ?_⟩
   ·rw [Bz];exact(m2.ij hf).jz Ck (by omega) Tz
   ·obtain⟨f,r1,r2⟩:=m2.rd;rw [Bz];exact⟨f,r1.jz Ck (by omega) Tz,fun b hb=> .inr (by rw [d5];simp [m1 b (r2 b hb)])⟩
   ·refine⟨_,_,_,C,_,_,kk,k,h2,by rw [d5];simp,d6,h3,h4,h5, ?_⟩;have Bw:=Tz hf;have Am:k.toNat*z+k'<C.size:=by omega
    have e1:(C.toList.drop (k.toNat*z+k')).take 1= [C[k.toNat*z+k']]:=by rw [List.drop_eq_getElem_cons (by simpa using Am),List.take_succ_cons,List.take_zero];simp
    rw [hf,Bw,e1];simp [Am]
end
section
variable {P:Program} {c:Cx} {n nx:Nat} {sl sl0:Nat→SV} {hp hp0:Nat→Option Af} {a:Act} {o:Oper} {gs:Gd} {e:AK} {sg:Bo} {nv:Nat}
theorem A6.bw: ∀l:A6,A6.of l.toList=l
 | .nil=>rfl
 | .cons s l=>by simp [A6.toList,A6.of,A6.bw l]
theorem tB (h:A1 P c n nx sl hp a sl0 hp0 o gs) {t:TypeId} {x:Operand} (ho:o.op= .load t x) (he:Bc P sg sl0 hp0 nv nx gs o=some e) (hc: ∀q∈e.bc,Cn.den c.ρ q):Ar P o c n nx sl hp gs a e:=by
 have hm:x∈o.op.operands:=by simp [ho,Op.operands]
 simp only [Bc,ho,An,Ak]at he;obtain⟨s,hs,e1,he,rfl⟩:=he;have hr:=(h.bz hs hm).asPtr (fun q hq=>hc q (by simp [hq]));have Yk: ∀q∈e1.bc,Cn.den c.ρ q:=fun q hq=>hc q (by simp [hq]);have ex:(execOp a.eval o).run P c.w=((Instr.loadAt t (a.eval x)).run P c.w).andThen fun v w=> .ok (.value v) w:=by simp [execOp,ho]
 unfold eB at he;split at he
 ·cases he
 rename_i AZ;have AZ:CG P t=true:=by simpa using AZ
 generalize AT:(asPtr s).1=s1 at he hr;split at he
 ·rename_i b o';split at he
  ·rename_i ty g cs hl;obtain⟨s2,AL,rfl⟩:=Ak.1 he;generalize ha:a.eval x=v at hr ex;cases hr with
   |bg h1 h2 _=>
    rename_i q;obtain⟨q',C,_,e2,e3,e4,e5,e5',e6⟩:=h.eh b _ (Cm hl h.gs);rw [h2]at e2;cases e2;unfold L4 at AL;have hlen:=e6.len;split at AL
    ·rename_i As;split at AL
     ·rename_i hle;simp at AL;subst AL;obtain⟨r1,r2⟩:=e6.split o';obtain⟨r3,r4⟩:=r2.split (P.cellsOf t);have:=SR.agg (cs:=A6.of ((cs.drop o').take (P.cellsOf t))) (fun u hu=>e5' u (List.mem_of_mem_drop (List.mem_of_mem_take hu))) (by rw [A6.aj];exact r3) .nil;refine Ar.pure h (v:= .agg ((C.toList.drop o').take (P.cellsOf t)).toArray) ?_ this rfl;rw [ex,MP AZ ((C.toList.drop o').take (P.cellsOf t)) (fun _=>by simp at hlen ⊢;omega) (fun h=>by rw [As]at h;cases h) (fun j u hu=>by
       rw [D5 e5];rw [List.getElem?_take]at hu;split at hu
       ·simpa using hu
       ·cases hu)]
      simp [As]
     ·cases AL
    ·rename_i As;have As:Ai P t=false:=by simpa using As
     obtain⟨u,hu,r⟩:=e6.get AL;refine Ar.pure h (v:=u) ?_ r rfl;rw [ex,MP AZ [u] (fun h=>by rw [As]at h;cases h) (fun _=>rfl) (fun j z hz=>by
      cases j with
      |zero=>simp at hz;subst hz;rw [D5 e5];simpa using hu
      |succ j=>simp at hz)]
     simp [As]
  ·cases he
 ·rename_i b g i sz o';split at he
  ·rename_i e0 sz' g' c0 d hl;split at he
   ·rename_i hh;obtain⟨rfl,rfl,hle,As⟩:=hh;simp at he;subst he;generalize ha:a.eval x=v at hr ex;cases hr with
    |bt h1 h2 h3 h4 h5 _=>
     rename_i q len cap kk k h6;obtain⟨_,_,N,r1,r2,_,_⟩:=h.eh b _ (Cm hl h.gs);obtain⟨f,r3,_,r4⟩:=r1.rd;obtain⟨xs,B9,Aw,h0,AW⟩:=r1;rw [h2]at r3 AW;have hk:k.toNat<len:=by omega
     have HG:xs.length=len:=by
      rcases AW with⟨_,⟨_,hv⟩,_⟩|⟨_,_,_,hv,_⟩
      ·cases hv;omega
      ·simp at hv;exact hv.2.1.symm
     have BA:((c0.den c.ρ).nth k.toNat).cells.length=sz:=by rw [B9];exact Aw _ (List.mem_of_getElem? (Ko (xs:=xs) (by omega)))
     obtain⟨v',q',g1,g2,g3⟩:=WK r3 hk BA AZ hle As;refine Ar.pure h (v:=v') ?_ (.e (f:=q') ?_ ?_ .nil) rfl
     ·rw [ex];rw [Nat.zero_add]at g1;simp [g1]
     ·simpa [E.den,AV.idx,h3]using g3
     ·exact fun z hz=>r2 z (r4 z (g2 z hz))
   ·cases he
  ·rename_i e0 sz' l g' ep c0 hl;split at he
   ·rename_i hh;obtain⟨rfl,rfl,hle,As⟩:=hh;generalize ha:a.eval x=v at hr ex;have hE:=h.eh b _ (Cm hl h.gs);obtain⟨u,k1,k2,k3,k4⟩:=sK (P:=P) (t:=t) hE hr AZ hle As;have AH:(execOp a.eval o).run P c.w= .ok (.value u) c.w:=by rw [ex,k1];rfl
    split at he
    ·rename_i hf;simp only [Ac]at he;subst he;exact Ar.pure h AH (.e (k2 hf) (by simp) .nil) rfl
    ·simp only [Ac]at he;subst he;cases hr with
     |bt h1 _ _ _ _ _=>
      refine Ar.pure h AH (.via h1 (Nat.le_of_eq hE.2.2.1.symm) (fun _=>⟨k3, ?_⟩) .nil) rfl;split
      ·exact trivial
      ·rename_i Fz;exact k4 (by simpa using Fz)
   ·cases he
  ·cases he
 ·rename_i b g m pth y i sz o';split at he
  ·rename_i hh;obtain⟨hle,As,hv⟩:=hh;have hE:=M8 h.eh h.gs hv;generalize ha:a.eval x=v at hr ex;cases hr with
   |vptr h1 h2 h3 _=>
    obtain⟨q,off,len,cap,kk,k,⟨f,p1,p2⟩,_,p4,p5,p6,p7,rfl⟩:=h3 hE;obtain⟨v',q',g1,g2,g3⟩:=WK (fo:=o') p1 (by omega) p7 AZ hle As;have AH:(execOp a.eval o).run P c.w= .ok (.value v') c.w:=by rw [ex];simp [g1]
    have Bz:Rd c.w [v'] [(E.fld (.idx y i) o' (P.cellsOf t) (Ai P t)).den c.ρ] q':=by simpa [E.den,AV.idx,p4]using g3
    split at he
    ·simp only [Ac]at he;subst he;obtain⟨f1,f2,f3,f4⟩:=Bw Yk;have hq:q'= []:=by
      cases hg:Ai P t with
      |true=>obtain⟨cs,A2⟩:=f3 hg;obtain⟨as_,rfl,_,r⟩:=H0 Bz A2;exact Gm r (by rw [A2]at f2;exact f2)
      |false=>exact Gm Bz (by simpa using f4 hg)
     subst hq;exact Ar.pure h AH (.e Bz (by simp) .nil) rfl
    ·simp only [Ac]at he;subst he;exact Ar.pure h AH (.via h1 h2 (fun _=>⟨⟨q',Bz,fun z hz=>p2 z (List.mem_of_mem_tail (g2 z hz))⟩,trivial⟩) .nil) rfl
  ·cases he
 ·rename_i y i sz o';split at he
  ·rename_i hh;obtain⟨hle,As⟩:=hh;simp at he;subst he;generalize ha:a.eval x=v at hr ex;cases hr with
   |cu h1 h2 h3 h4 h5 h6 _=>rename_i q off len cap f kk k;obtain⟨v',q',g1,g2,g3⟩:=WK (fo:=o') h1 (by omega) h6 AZ hle As;refine Ar.pure h (v:=v') ?_ (.e (f:=q') (by simpa [E.den,AV.idx,h3]using g3) (fun z hz=>h2 z (List.mem_of_mem_tail (g2 z hz))) .nil) rfl;rw [ex];simp [g1]
  ·cases he
 ·rename_i y o';split at he
  ·rename_i As;simp at he;subst he;generalize ha:a.eval x=v at hr ex;cases hr with
   |cq h1 h2 _=>
    rename_i q f;obtain⟨z,hz,hle⟩:=Bw Yk;rw [hz]at h1;cases h1 with
    |ref hb Bx Ga Da=>
     rename_i C ty fz f1 f2;obtain⟨q',g1,g2⟩:=Ga.gq Bx o' (P.cellsOf t) (Ai P t) hle (fun h=>by rcases As with h'|h';rw [h]at h';cases h';exact h');have JQ:((C.toList.drop o').take (P.cellsOf t)).length=P.cellsOf t:=by have:=Ga.len;rw [List.length_take,List.length_drop];omega
     refine Ar.pure h ?_ (.e (f:=q') (by simpa [E.den,hz,AV.deref]using g2) (fun z hz=>h2 z (by simp [g1 z hz])) .nil) rfl;rw [ex,MP AZ ((C.toList.drop o').take (P.cellsOf t)) (fun _=>JQ) (fun h=>by rw [JQ];rcases As with h'|h';rw [h]at h';cases h';exact h') (fun j u hu=>by
       rw [D5 hb];rw [List.getElem?_take]at hu;split at hu
       ·simpa using hu
       ·cases hu)]
     simp
  ·cases he
 ·cases he
end
theorem LQ (k:IntKind) (n:Int):DP k n↔k.min≤n∧n≤k.max:=by unfold DP;cases k<;>simp only [IntKind.wrap,IntKind.bits,IntKind.signed,IntKind.min,IntKind.max]<;>simp<;>(try split)<;>omega
theorem W5 (k:IntKind) (n:Int):DP k (k.wrap n):=by rw [LQ];cases k<;>simp only [IntKind.wrap,IntKind.bits,IntKind.signed,IntKind.min,IntKind.max]<;>simp<;>(try split)<;>omega
theorem uP {k:IntKind} {x y:Int} (h:DP k x):DP k (x.tmod y):=by
 rw [LQ]at h ⊢;have h1:(x.tmod y).natAbs≤x.natAbs:=by rw [Int.natAbs_tmod];exact Nat.mod_le _ _
 have h2:0≤x→0≤x.tmod y:=Int.tmod_nonneg y;have UG:k.min≤0:=by cases k<;>decide
 have Dk:0≤k.max:=by cases k<;>decide
 constructor
 ·by_cases h0:0≤x
  ·have:=h2 h0;omega
  ·omega
 ·by_cases h0:0≤x
  ·omega
  ·have h3:x.tmod y≤0:=by
    have:=Int.tmod_nonneg (a:= -x) y (by omega);rw [Int.neg_tmod]at this;omega
   omega
theorem s9 {k:IntKind} {x:Int} (m:Nat) (h:DP k x):DP k (x.fdiv (2^m)):=by
 rw [LQ]at h ⊢;have hp:(0:Int)<2^m:=Int.pow_pos (by decide);rw [Int.fdiv_eq_ediv_of_nonneg _ (Int.le_of_lt hp)];have UG:k.min≤0:=by cases k<;>decide
 have Dk:0≤k.max:=by cases k<;>decide
 have h1:(1:Int)≤2^m:=hp;constructor
 ·rcases Int.le_total 0 x with h0|h0
  ·have:=Int.ediv_nonneg h0 (Int.le_of_lt hp);omega
  ·have:x≤x/2^m:=by
    rw [Int.le_ediv_iff_mul_le hp];have:=Int.mul_le_mul_of_nonpos_left h0 h1;omega
   omega
 ·rcases Int.le_total 0 x with h0|h0
  ·have:=Int.ediv_le_self (2^m) h0;omega
  ·have h2:x/2^m≤0:=by
    have:=Int.ediv_le_ediv hp h0;simpa using this
   omega
section
variable {P:Program} {c:Cx} {n nx:Nat} {sl sl0:Nat→SV} {hp hp0:Nat→Option Af} {a:Act} {o:Oper} {gs:Gd} {e:AK} {sg:Bo} {nv:Nat}
def AV.val:AV→Value
 | .int k n=> .int k n
 | .bool b=> .bool b
 | .str s=> .string ⟨s.toArray⟩
 |_=>Go.undef
theorem qN {op:BinOp} {k k':IntKind} {x y:Int} (hk:k=k'∨op= .shl∨op= .shr) (hz:op= .quo∨op= .rem→y≠0) (hs:op= .shl∨op= .shr→0≤y) (t:TypeId) (p q:Operand) (w:World):
  (do eqGuard op t p q (.int k x) (.int k' y);binOp op t (.int k x) (.int k' y):Sem Value).run P w= .ok (BM op k x y).val w:=by
 have hg:=eqGuard_at_int op t p q (.int k' y) k x;cases op<;>simp only [reduceCtorEq,or_false,or_true,or_self]at hk hz hs<;>simp only [hg]
 all_goals first
  |(subst hk;simp [binOp,Op.intArith,Op.intCmp,Op.intBits,BM,AV.val];done)
  |(subst hk;have:=hz trivial;simp [binOp,Op.intDiv,BM,AV.val,this];done)
  |(have:=hs trivial;simp [binOp,Op.shift,BM,AV.val,Int.not_lt.2 this];done)
theorem tI {op:BinOp} {k:IntKind} {x y:Int} (hx:DP k x) (w:World):Rd w [(BM op k x y).val] [BM op k x y] []:=by
 cases op<;>simp only [BM,AV.val]<;>first
  |exact .int (W5 _ _) .nil
  |exact .bool .nil
  |exact .int (uP hx) .nil
  |exact .int (s9 _ hx) .nil
theorem Rd.fj {w:World} {v:Value} {x:AV} {f:List Nat} (h:Rd w [v] [x] f):x≠ .undef:=by rintro rfl;cases h
theorem WJ {ρ:List AV}: ∀(x:E) {k:IntKind},BN x=some k→x.den ρ≠ .undef→ ∃m,x.den ρ= .int k m
 | .int k n,_,h,_=>by simp [BN]at h;subst h;exact⟨n,rfl⟩
 | .len y,_,h,hd=>by
  simp [BN]at h;subst h;simp only [E.den,AV.len]at hd ⊢;split at hd
  ·exact⟨_,rfl⟩
  ·exact absurd rfl hd
 | .slen y,_,h,hd=>by
  simp [BN]at h;subst h;simp only [E.den,AV.slen]at hd ⊢;split at hd
  ·exact⟨_,rfl⟩
  ·exact absurd rfl hd
 | .conv k y,_,h,hd=>by
  simp [BN]at h;subst h;simp only [E.den,AV.conv]at hd ⊢;split at hd
  ·exact⟨_,rfl⟩
  ·exact absurd rfl hd
 | .bin op x y,k,h,hd=>by
  simp only [E.den]at hd ⊢;have hx:x.den ρ≠ .undef:=by rintro hh;rw [hh]at hd;exact hd (by simp [AV.bin])
  cases op<;>simp only [BN,reduceCtorEq]at h
  all_goals
   obtain⟨m,hm⟩:=WJ x h hx;rw [hm]at hd ⊢;cases hy:y.den ρ<;>rw [hy]at hd<;>simp only [AV.bin]at hd ⊢ <;>first
    |exact absurd rfl hd
    |(split at hd
      ·rename_i hk;rw [if_pos hk];exact⟨_,rfl⟩
      ·exact absurd rfl hd)
 | .var _,_,h,_=>by simp [BN]at h
 | .bool _,_,h,_=>by simp [BN]at h
 | .str _,_,h,_=>by simp [BN]at h
 | .cz,_,h,_=>by simp [BN]at h
 | .lst _,_,h,_=>by simp [BN]at h
 | .mk _,_,h,_=>by simp [BN]at h
 | .tup _,_,h,_=>by simp [BN]at h
 | .ref _,_,h,_=>by simp [BN]at h
 | .fn ..,_,h,_=>by simp [BN]at h
 | .fld ..,_,h,_=>by simp [BN]at h
 | .proj ..,_,h,_=>by simp [BN]at h
 | .deref _,_,h,_=>by simp [BN]at h
 | .idx ..,_,h,_=>by simp [BN]at h
 | .sidx ..,_,h,_=>by simp [BN]at h
 | .win ..,_,h,_=>by simp [BN]at h
 | .swin ..,_,h,_=>by simp [BN]at h
 | .app ..,_,h,_=>by simp [BN]at h
 | .set ..,_,h,_=>by simp [BN]at h
 | .put ..,_,h,_=>by simp [BN]at h
 | .rep ..,_,h,_=>by simp [BN]at h
 | .sbin ..,_,h,_=>by simp [BN]at h
 | .bbin ..,_,h,_=>by simp [BN]at h
 | .not _,_,h,_=>by simp [BN]at h
 | .neg _,_,h,_=>by simp [BN]at h
 | .ite ..,_,h,_=>by simp [BN]at h
 | .bytes _,_,h,_=>by simp [BN]at h
 | .text _,_,h,_=>by simp [BN]at h
end
section
variable {P:Program} {c:Cx} {n nx:Nat} {sl sl0:Nat→SV} {hp hp0:Nat→Option Af} {a:Act} {o:Oper} {gs:Gd} {e:AK} {sg:Bo} {nv:Nat}
theorem Gi {s:SV} {v:Value} {x:E} (h:SR c [s] [v]) (hx:Ek s=some x): ∃f,Rd c.w [v] [x.den c.ρ] f∧ ∀b∈f,c.ok b:=by
 cases s<;>simp only [Ek,Ac,reduceCtorEq]at hx;subst hx;cases h with
 |e h1 h2 _=>exact⟨_,h1,h2⟩
theorem SR.b8 {v:Value} {x:E} (h:Rd c.w [v] [x.den c.ρ] []):SR c [.e x] [v]:= .e h (by simp) .nil
theorem pZ {ρ:List AV} {op:BinOp} {x y:E} {w:World} {v u:Value} {f g:List Nat} (h1:Rd w [v] [x.den ρ] f) (h2:Rd w [u] [y.den ρ] g) (hd:M0 (.bin op x y)=true→(E.bin op x y).den ρ≠ .undef):
  ∃k k' p q,x.den ρ= .int k p∧y.den ρ= .int k' q∧(k=k'∨op= .shl∨op= .shr)∧(E.bin op x y).den ρ=BM op k p q∧DP k p∧v= .int k p∧u= .int k' q:=by
 have key:(∃k k' p q,x.den ρ= .int k p∧y.den ρ= .int k' q∧(k=k'∨op= .shl∨op= .shr)):=by
  by_cases hn:M0 (.bin op x y)=true
  ·have:=hd hn;simp only [E.den]at this;cases hx:x.den ρ<;>cases hy:y.den ρ<;>simp only [hx,hy,AV.bin,ne_eq,not_true_eq_false]at this;split at this
   ·exact⟨_,_,_,_,rfl,rfl,by assumption⟩
   ·exact absurd rfl this
  ·have hn:M0 (.bin op x y)=false:=by simpa using hn
   have hk:(BN x).isSome=true∧(BN x==BN y)=true:=by cases op<;>simp [M0]at hn<;>simpa using hn
   obtain⟨k,G1⟩:=Option.isSome_iff_exists.1 hk.1;have jF:BN y=some k:=by rw [←beq_iff_eq.1 hk.2,G1]
   obtain⟨p,hp⟩:=WJ x G1 h1.fj;obtain⟨q,hq⟩:=WJ y jF h2.fj;exact⟨k,k,p,q,hp,hq, .inl rfl⟩
 obtain⟨k,k',p,q,hp,hq,JP⟩:=key;obtain⟨hv,BZ⟩:=Fo h1 hp;obtain⟨hu,_⟩:=Fo h2 hq;exact⟨k,k',p,q,hp,hq,JP,by simp only [E.den,hp,hq,AV.bin,if_pos JP],BZ,hv,hu⟩
theorem Zp (a b:ByteArray):(a.toList==b.toList)=(a.data.toList==b.data.toList):=by rw [ByteArray.toList_eq,ByteArray.toList_eq]
theorem n7 {α β γ:Type} (r:Result α) (f:α→World→Result β) (g:β→World→Result γ):(r.andThen f).andThen g=r.andThen fun a w=>(f a w).andThen g:=by cases r<;>rfl
theorem Wp (d:Nat) {t:TypeId} (p q:Bool) (h:P.underlying t=some .bool) (w:World):(Op.equalIn (d+1) t (.bool p) (.bool q)).run P w= .ok (p==q) w:=by simp [Op.equalIn,run_underlying h]
theorem qZ {t:TypeId} (p q:Bool) (h:P.underlying t=some .bool) (w:World):(binOp .eql t (.bool p) (.bool q)).run P w= .ok (.bool (p==q)) w:=by simp only [binOp];simp [Op.equal,Op.maxDepth,Wp 9999 p q h]
theorem qV {t:TypeId} (p q:Bool) (h:P.underlying t=some .bool) (w:World):(binOp .neq t (.bool p) (.bool q)).run P w= .ok (.bool (!(p==q))) w:=by simp only [binOp];simp [Op.equal,Op.maxDepth,Wp 9999 p q h]
theorem LW {op:BinOp} {t ty:TypeId} {x y:Operand} (ho:o.op= .binOp op t x y ty) (w:World) {v u:Value} (hv:a.eval x=v) (hu:a.eval y=u):
  (execOp a.eval o).run P w=((do eqGuard op t x y v u;binOp op t v u:Sem Value).run P w).andThen fun v w=> .ok (.value v) w:=by
 simp only [execOp,ho,hv,hu,Sem.run_bind,n7,Sem.run_pure]
theorem Zg (h:A1 P c n nx sl hp a sl0 hp0 o gs) {op:BinOp} {t el:TypeId} {x y:Operand} {ty:TypeId} (ho:o.op= .binOp op t x y ty) (hu:P.underlying t=some (.slice el)) (r1:SR c [.bb] [a.eval x]) (r2:SR c [.bb] [a.eval y])
  (Az:op= .eql∨op= .neq):Ar P o c n nx sl hp gs a {val:= .e (.bool (op== .eql))}:=by
 have ex:=fun(v u:Value) (hv:a.eval x=v) (hu:a.eval y=u)=>LW (P:=P) (o:=o) ho c.w hv hu;generalize Eh:a.eval x=v1 at r1;generalize CM:a.eval y=v2 at r2;cases r1 with
 |bb _=>cases r2 with
  |bb _=>
   refine Ar.pure h (v:= .bool (op== .eql)) ?_ (.b8 (.bool .nil)) rfl;rw [ex _ _ Eh CM,eqGuard_at_slice];rcases Az with rfl|rfl
   ·simp [run_eql_nil_slice c.w t el none 0 0 0 0 hu]
   ·simp [run_neq_nil_slice c.w t el none 0 0 0 0 hu]
theorem o5 (h:A1 P c n nx sl hp a sl0 hp0 o gs) {op:BinOp} {t:TypeId} {x y:Operand} {ty:TypeId} (ho:o.op= .binOp op t x y ty) {s1 s2:SV} (r1:SR c [s1] [a.eval x]) (r2:SR c [s2] [a.eval y])
  {x' y':E} (Cp:Ek s1=some x') (A4:Ek s2=some y') (hd:M0 (.bin op x' y')=true→Cn.den c.ρ (.dfd (.bin op x' y'))) (jW:op= .quo∨op= .rem→Cn.den c.ρ (.nz y')) (jU:op= .shl∨op= .shr→Cn.den c.ρ (.nn y')) {ck:List Cn}:
  Ar P o c n nx sl hp gs a {bc:=ck,val:= .e (.bin op x' y')}:=by
 obtain⟨f1,g1,_⟩:=Gi r1 Cp;obtain⟨f2,g2,_⟩:=Gi r2 A4;obtain⟨k,k',p,q,e1,e2,JP,e3,BZ,hv,Ew⟩:=pZ (op:=op) g1 g2 hd;refine Ar.pure h (v:=(BM op k p q).val) ?_ (.b8 (by rw [e3];exact tI BZ _)) rfl;rw [LW ho c.w hv Ew,qN JP (fun Az=> ?_) (fun Az=> ?_)]
 ·simp
 ·obtain⟨_,m,hm,Di⟩:=jW Az;rw [e2]at hm;cases hm;exact Di
 ·obtain⟨_,m,hm,Di⟩:=jU Az;rw [e2]at hm;cases hm;exact Di
theorem oI (h:A1 P c n nx sl hp a sl0 hp0 o gs) {op:BinOp} {t:TypeId} {x y:Operand} {ty:TypeId} (ho:o.op= .binOp op t x y ty) {s1 s2:SV} (r1:SR c [s1] [a.eval x]) (r2:SR c [s2] [a.eval y])
  {x' y':E} (Cp:Ek s1=some x') (A4:Ek s2=some y') (hd:Cn.den c.ρ (.dfd (.sbin op x' y'))) (BV:op= .add→Cn.den c.ρ (.roomS x' y')) {ck:List Cn}:
  Ar P o c n nx sl hp gs a {bc:=ck,val:= .e (.sbin op x' y')}:=by
 obtain⟨f1,g1,_⟩:=Gi r1 Cp;obtain⟨f2,g2,_⟩:=Gi r2 A4;have hd:AV.sbin op (x'.den c.ρ) (y'.den c.ρ)≠ .undef:=hd;cases hx:x'.den c.ρ<;>cases hy:y'.den c.ρ<;>simp only [hx,hy,AV.sbin,ne_eq,not_true_eq_false]at hd;obtain⟨b1,Eh,rfl,_⟩:=Ns g1 hx;obtain⟨b2,CM,rfl,_⟩:=Ns g2 hy;have hle:op= .add→b1.size+b2.size≤9223372036854775807:=fun Az=>by obtain⟨p,q,hp,hq,hle⟩:=BV Az;rw [hx]at hp;rw [hy]at hq;cases hp;cases hq;simpa using hle
 refine Ar.pure h (v:=match op with| .add=> .string (b1++b2)|_=>(Nq op b1.data.toList b2.data.toList).val) ?_ (.b8 ?_) rfl
 ·rw [LW ho c.w Eh CM,eqGuard_at_string];cases op<;>first
   |(exact absurd rfl hd)
   |(have:=hle rfl;simp [binOp,Op.stringOp];omega)
   |(simp [binOp,Op.stringOp,Nq,AV.val,ByteArray.toList_eq,bne];done)
 ·simp only [E.den,hx,hy,AV.sbin];cases op<;>simp only [Nq,AV.val,ne_eq,not_true_eq_false]at hd ⊢ <;>first
   |exact .bool .nil
   |(have:=hle rfl
     have h9:=Rd.str (w:=c.w) (s:=b1++b2) (by simpa using this) .nil;simpa using h9)
theorem oR (h:A1 P c n nx sl hp a sl0 hp0 o gs) {op:BinOp} {t:TypeId} {x y:Operand} {ty:TypeId} (ho:o.op= .binOp op t x y ty) (hu:P.underlying t=some .bool) {s1 s2:SV} (r1:SR c [s1] [a.eval x]) (r2:SR c [s2] [a.eval y])
  {x' y':E} (Cp:Ek s1=some x') (A4:Ek s2=some y') (hd:Cn.den c.ρ (.dfd (.bbin op x' y'))) {ck:List Cn}:
  Ar P o c n nx sl hp gs a {bc:=ck,val:= .e (.bbin op x' y')}:=by
 obtain⟨f1,g1,_⟩:=Gi r1 Cp;obtain⟨f2,g2,_⟩:=Gi r2 A4;have hd:AV.bbin op (x'.den c.ρ) (y'.den c.ρ)≠ .undef:=hd;cases hx:x'.den c.ρ<;>cases hy:y'.den c.ρ<;>simp only [hx,hy,AV.bbin,ne_eq,not_true_eq_false]at hd;rename_i p q;have Eh:=GK g1 hx;have CM:=GK g2 hy;refine Ar.pure h (v:=(AV.bbin op (.bool p) (.bool q)).val) ?_ (.b8 ?_) rfl
 ·rw [LW ho c.w Eh CM,eqGuard_at_bool];cases op<;>simp only [ne_eq,not_true_eq_false]at hd
  ·simp [qZ p q hu,AV.bbin,AV.val]
  ·simp [qV p q hu,AV.bbin,AV.val,bne]
 ·simp only [E.den,hx,hy];cases op<;>simp only [AV.bbin,AV.val,ne_eq,not_true_eq_false]at hd ⊢ <;>exact .bool .nil
theorem uI (h:A1 P c n nx sl hp a sl0 hp0 o gs) {op:BinOp} {t:TypeId} {x y:Operand} {ty:TypeId} (ho:o.op= .binOp op t x y ty) (JV: ∀fs,P.underlying t≠some (.struct fs)) (he:Bc P sg sl0 hp0 nv nx gs o=some e) (hq:e.a8=none) (hc: ∀q∈e.bc,Cn.den c.ρ q):Ar P o c n nx sl hp gs a e:=by
 have Dj:x∈o.op.operands:=by simp [ho,Op.operands]
 have CZ:y∈o.op.operands:=by simp [ho,Op.operands]
 simp only [Bc,ho,An]at he;obtain⟨s1,Bj,s2,AL,he⟩:=he;have r1:=h.bz Bj Dj;have r2:=h.bz AL CZ;unfold Nk at he;split at he
 ·rename_i el hu;split at he
  ·simp at he;subst he;exact Zg h ho hu r1 r2 (.inl rfl)
  ·simp at he;subst he;exact Zg h ho hu r1 r2 (.inr rfl)
  ·obtain⟨_,_,rfl⟩:=Ak.1 he;cases hq
  ·obtain⟨_,_,rfl⟩:=Ak.1 he;cases hq
  ·cases he
 ·rename_i kk hu;split at he
  ·rename_i x' y' Cp A4;simp at he;subst he;exact o5 h ho r1 r2 Cp A4 (fun hn=>hc _ (by simp [hn])) (fun Az=>hc _ (by rcases Az with rfl|rfl<;>simp)) (fun Az=>hc _ (by rcases Az with rfl|rfl<;>simp))
  ·cases he
 ·rename_i hu;split at he
  ·rename_i x' y' Cp A4;simp at he;subst he;exact oI h ho r1 r2 Cp A4 (hc _ (by simp)) (fun Az=>hc _ (by subst Az;simp))
  ·cases he
 ·rename_i hu;split at he
  ·rename_i x' y' Cp A4;simp at he;subst he;exact oR h ho hu r1 r2 Cp A4 (hc _ (by simp))
  ·cases he
 ·rename_i fs hu;exact absurd hu (JV fs)
 ·cases he
end
section
variable {P:Program} {c:Cx} {n nx:Nat} {sl sl0:Nat→SV} {hp hp0:Nat→Option Af} {a:Act} {o:Oper} {gs:Gd} {e:AK} {sg:Bo} {nv:Nat}
theorem PV {t:TypeId} (h:CG P t=true) (cs:List Value) (off:Nat) (hle:off+P.cellsOf t≤cs.length) (hg:Ai P t=true∨P.cellsOf t=1) (w:World):
  (part t cs.toArray off).run P w= .ok (if Ai P t then .agg ((cs.drop off).take (P.cellsOf t)).toArray else((cs.drop off).take (P.cellsOf t)).headD Go.undef) w:=by
 cases ha:Ai P t with
 |true=>simp only [part,Sem.run_bind,PJ h,ha,LC h,Result.andThen_ok,if_true,Sem.run_pure];congr 2;apply Array.ext';rw [Array.toList_extract];simp [Nat.add_sub_cancel_left,List.extract_eq_take_drop]
 |false=>
  have h1:P.cellsOf t=1:=by rcases hg with h'|h';rw [ha]at h';cases h';exact h'
  have Am:off<cs.length:=by omega
  have e1:(cs.drop off).take (P.cellsOf t)= [cs[off]]:=by rw [h1,List.drop_eq_getElem_cons Am,List.take_succ_cons,List.take_zero]
  rw [e1];simp [part,PJ h,ha,Am]
theorem qJ (h:A1 P c n nx sl hp a sl0 hp0 o gs) {t:TypeId} {x:Operand} {f:Nat} (ho:o.op= .field t x f) (he:Bc P sg sl0 hp0 nv nx gs o=some e) (hc: ∀q∈e.bc,Cn.den c.ρ q):Ar P o c n nx sl hp gs a e:=by
 have hm:x∈o.op.operands:=by simp [ho,Op.operands]
 simp only [Bc,ho,An]at he;obtain⟨s,hs,he⟩:=he;have hr:=h.bz hs hm;split at he
 ·rename_i fs hu;split at he
  ·rename_i fd hf;split at he
   ·cases he
   ·rename_i AZ;have AZ:CG P fd.type=true:=by simpa using AZ
    have ex: ∀as_:List Value,a.eval x= .agg as_.toArray→(execOp a.eval o).run P c.w=((part fd.type as_.toArray fd.offset).run P c.w).andThen fun v w=> .ok (.value v) w:=fun as_ hv=>by simp [execOp,ho,Instr.field,run_underlying hu,hf,hv,asAgg]
    split at he
    ·rename_i cs;obtain⟨s2,AL,rfl⟩:=Ak.1 he;generalize hv:a.eval x=v at hr;cases hr with
     |agg r8 r1 r9=>
      rename_i as_;have hlen:=r1.len;unfold L4 at AL;split at AL
      ·rename_i As;split at AL
       ·rename_i hle;simp at AL;subst AL;obtain⟨q1,q2⟩:=r1.split fd.offset;obtain⟨q3,q4⟩:=q2.split (P.cellsOf fd.type);have:=SR.agg (cs:=A6.of ((cs.toList.drop fd.offset).take (P.cellsOf fd.type))) (fun u hu=>r8 u (List.mem_of_mem_drop (List.mem_of_mem_take hu))) (by rw [A6.aj];exact q3) .nil;refine Ar.pure h (v:= .agg ((as_.drop fd.offset).take (P.cellsOf fd.type)).toArray) ?_ this rfl;rw [ex as_ hv,PV AZ as_ fd.offset (by omega) (.inl As)];simp [As]
       ·cases AL
      ·rename_i As;have As:Ai P fd.type=false:=by simpa using As
       obtain⟨u,Ew,r⟩:=r1.get AL;refine Ar.pure h (v:=u) ?_ r rfl;rw [ex as_ hv];simp [part,PJ AZ,As,Ew]
    ·rename_i y;split at he
     ·rename_i hh;obtain⟨hle,As⟩:=hh;simp at he;subst he;generalize hv:a.eval x=v at hr;cases hr with
      |e h1 h2 _=>
       rename_i f1;obtain⟨cs,A2,Aw⟩:=Bw hc;obtain⟨as_,rfl,K8,Da⟩:=H0 h1 A2;have hlen:=Da.len;have EP:(y.den c.ρ).cells=cs:=by rw [A2];rfl
       rw [←EP]at Da;obtain⟨q,g1,g2⟩:=Da.gq K8 fd.offset (P.cellsOf fd.type) (Ai P fd.type) (by rw [EP];omega) (fun hh=>by rcases As with h'|h';rw [hh]at h';cases h';exact h');refine Ar.pure h ?_ (.e (f:=q) (by simpa [E.den]using g2) (fun z hz=>h2 z (g1 z hz)) .nil) rfl;rw [ex as_ hv,PV AZ as_ fd.offset (by omega) As];simp
     ·cases he
    ·rename_i b g m pth y;split at he
     ·rename_i hh;obtain⟨hle,As,Vc⟩:=hh;have hE:=M8 h.eh h.gs Vc;generalize hv:a.eval x=v at hr;have Gx:Cn.den c.ρ (.agg y (P.cellsOf t)):=by
       split at he<;>(simp only [Ac]at he;subst he;exact Bw hc)
      cases hr with
      |via h1 h2 h3 _=>
       obtain⟨⟨f1,p1,p2⟩,_⟩:=h3 hE;obtain⟨cs,A2,Aw⟩:=Gx;obtain⟨as_,rfl,K8,Da⟩:=H0 p1 A2;have hlen:=Da.len;have EP:(y.den c.ρ).cells=cs:=by rw [A2];rfl
       rw [←EP]at Da;obtain⟨q,g1,g2⟩:=Da.gq K8 fd.offset (P.cellsOf fd.type) (Ai P fd.type) (by rw [EP];omega) (fun hh=>by rcases As with h'|h';rw [hh]at h';cases h';exact h');have AH:=ex as_ hv;rw [PV AZ as_ fd.offset (by omega) As]at AH;simp only [Result.andThen_ok]at AH;have Bz:Rd c.w _ [(E.fld y fd.offset (P.cellsOf fd.type) (Ai P fd.type)).den c.ρ] q:=g2;split at he
       ·simp only [Ac]at he;subst he;obtain⟨e1,e2,e3,e4⟩:=hc (.flat (.fld y fd.offset (P.cellsOf fd.type) (Ai P fd.type)) (P.cellsOf fd.type) (Ai P fd.type)) (by simp);have hq:q= []:=by
         cases hg:Ai P fd.type with
         |true=>obtain⟨cs,A2⟩:=e3 hg;obtain⟨as_,_,_,r⟩:=H0 Bz A2;exact Gm r (by rw [A2]at e2;exact e2)
         |false=>exact Gm Bz (by simpa using e4 hg)
        subst hq;exact Ar.pure h AH (.e Bz (by simp) .nil) rfl
       ·simp only [Ac]at he;subst he;exact Ar.pure h AH (.via h1 h2 (fun _=>⟨⟨q,Bz,fun z hz=>p2 z (g1 z hz)⟩,trivial⟩) .nil) rfl
     ·cases he
    ·cases he
  ·cases he
 ·cases he
theorem M3 {v:Value} {x:AV} {m:Int} {w:World} {f:List Nat} (h:Rd w [v] [x] f) (hx:x.len= .int .i64 m):(∃a c,v= .slice a 0 c∧m=0)∨ ∃b o k c,v= .slice (some ⟨b,o,none⟩) k c∧m=k:=by
 rcases h.kind with h|h|h|h|h|h|h|h|h|h
 ·obtain⟨_,_,_,rfl,_⟩:=h;simp [AV.len]at hx
 ·obtain⟨_,_,rfl,_⟩:=h;simp [AV.len]at hx
 ·obtain⟨_,_,rfl,_⟩:=h;simp [AV.len]at hx
 ·obtain⟨q,r,rfl,rfl,_⟩:=h;simp [AV.len]at hx;exact .inl ⟨q,r,rfl,by omega⟩
 ·obtain⟨b,o,k,r,ys,_,_,_,_,_,_,rfl,rfl,_,_,_,_,hl,_⟩:=h;simp [AV.len]at hx;exact .inr ⟨b,o,k,r,rfl,by omega⟩
 ·obtain⟨_,_,_,rfl,_⟩:=h;simp [AV.len]at hx
 ·obtain⟨_,_,_,rfl,_⟩:=h;simp [AV.len]at hx
 ·obtain⟨_,_,_,_,_,_,_,rfl,_⟩:=h;simp [AV.len]at hx
 ·obtain⟨_,_,_,_,rfl,_⟩:=h;simp [AV.len]at hx
 ·obtain⟨_,rfl,_⟩:=h;simp [AV.len]at hx
theorem Py {t el:TypeId} (hu:P.underlying t=some (.slice el)) (hz:P.cellsOf el≠0) {b off len cap:Nat} {kk:IntKind} {k:Int} (h0:0≤k) (h1:k<len) (w:World):
  (Instr.indexAt t (.slice (some ⟨b,off,none⟩) len cap) (.int kk k)).run P w= .ok (.pointer (some ⟨b,off+k.toNat*P.cellsOf el,none⟩)) w:=by
 simp [Instr.indexAt,run_underlying hu,asIntOf,h0,h1,aF hz,Addr.add_lit]
theorem aA (h:A1 P c n nx sl hp a sl0 hp0 o gs) {t:TypeId} {x i:Operand} (ho:o.op= .indexAddr t x i∨o.op= .index t x i) {s1 s2:SV} (Bj:Bk sl0 gs x=some s1) (AL:Bk sl0 gs i=some s2)
  (Az:(∃el,P.underlying t=some (.slice el))→o.op= .indexAddr t x i) (UQ:P.underlying t=some .string→o.op= .index t x i)
  (he:SL P hp0 gs t s1 s2=some e) (hc: ∀q∈e.bc,Cn.den c.ρ q):Ar P o c n nx sl hp gs a e:=by
 have Dj:x∈o.op.operands:=by rcases ho with ho|ho<;>simp [ho,Op.operands]
 have CZ:i∈o.op.operands:=by rcases ho with ho|ho<;>simp [ho,Op.operands]
 have r1:=h.bz Bj Dj;have r2:=h.bz AL CZ;unfold SL at he;split at he
 ·rename_i el k hu;have OJ:=Az ⟨el,hu⟩;have ex:(execOp a.eval o).run P c.w=((Instr.indexAt t (a.eval x) (a.eval i)).run P c.w).andThen fun v w=> .ok (.value v) w:=by simp [execOp,OJ]
  split at he
  ·cases he
  rename_i hz;obtain⟨fk,G1,_⟩: ∃f,Rd c.w [a.eval i] [k.den c.ρ] f∧ ∀b∈f,c.ok b:=by
   generalize a.eval i=v at r2;cases r2 with
   |e h1 h2 _=>exact⟨_,h1,h2⟩
  split at he
  ·rename_i b g;split at he
   ·rename_i e0 sz g' c0 d hl;split at he
    ·rename_i hh;obtain⟨rfl,rfl⟩:=hh;simp at he;subst he;obtain⟨kk,kv,m,e1,e2,e3,e4,e5⟩:=Bw hc;obtain⟨Ht,_⟩:=Fo G1 e1;generalize hv:a.eval x=v at r1 ex;cases r1 with
     |own hK Me _=>
      obtain⟨_,_,N,q1,q2,_,_⟩:=h.eh b _ (Cm hl h.gs);obtain⟨xs,B9,Aw,h0,AW⟩:=q1;rw [B9]at e3;simp only [AV.len,AV.int.injEq,true_and]at e3;rcases AW with⟨rfl,_⟩|⟨g9,cap,C,hH,_⟩
      ·simp at e3;omega
      ·refine Ar.pure h (v:= .pointer (some ⟨g9,kv.toNat*P.cellsOf el+0,none⟩)) ?_ (.bt hK hH e1 e2 (by omega) .nil) rfl;rw [Me]at hH;cases hH;rw [ex,Ht,Py hu hz e2 (by omega)];simp
    ·cases he
   ·rename_i g' c0 hl;split at he
    ·rename_i hh;subst hh;simp at he;subst he;obtain⟨kk,kv,m,e1,e2,e3,e4,e5⟩:=Bw hc;obtain⟨Ht,_⟩:=Fo G1 e1;generalize hv:a.eval x=v at r1 ex;cases r1 with
     |own hK Me _=>
      obtain⟨_,⟨f,q1,q2⟩,_,_⟩:=h.eh b _ (Cm hl h.gs);rcases M3 q1 e3 with⟨_,_,_,hm⟩|⟨b9,off9,len9,cap9,hH,hm⟩
      ·omega
      ·rw [Me]at hH;cases hH;rw [Me]at q1;refine Ar.pure h (v:= .pointer (some ⟨b9,off9+kv.toNat*P.cellsOf el+0,none⟩)) ?_ (.cu q1 q2 e1 e2 (by omega) e5 .nil) rfl;rw [ex,Ht,Py hu hz e2 (by omega)];simp
    ·cases he
   ·rename_i e0 sz dl g' ep c0 hl;split at he
    ·rename_i hh;obtain⟨rfl,rfl⟩:=hh;simp at he;subst he;obtain⟨kk,kv,m,e1,e2,e3,e4,e5⟩:=Bw hc;obtain⟨Ht,_⟩:=Fo G1 e1;generalize hv:a.eval x=v at r1 ex;cases r1 with
     |own hK Me _=>
      obtain⟨_,_,_,q1,_⟩:=h.eh b _ (Cm hl h.gs);obtain⟨_,_,⟨a9,d3,d4,_⟩|⟨g9,cap,C,ys,N1,hH,d4,_⟩⟩:=q1.inv
      ·rw [d4]at e3;simp [AV.len]at e3;omega
      ·rw [d4]at e3;simp only [AV.len,AV.int.injEq,true_and]at e3;refine Ar.pure h (v:= .pointer (some ⟨g9,kv.toNat*P.cellsOf el+0,none⟩)) ?_ (.bt hK hH e1 e2 (by omega) .nil) rfl;rw [Me]at hH;cases hH;rw [ex,Ht,Py hu hz e2 (by omega)];simp
    ·cases he
   ·cases he
  ·rename_i y;simp at he;subst he;obtain⟨kk,kv,m,e1,e2,e3,e4,e5⟩:=Bw hc;obtain⟨Ht,_⟩:=Fo G1 e1;generalize hv:a.eval x=v at r1 ex;cases r1 with
   |e q1 q2 _=>
    rcases M3 q1 e3 with⟨_,_,_,hm⟩|⟨b9,off9,len9,cap9,rfl,hm⟩
    ·omega
    ·refine Ar.pure h (v:= .pointer (some ⟨b9,off9+kv.toNat*P.cellsOf el+0,none⟩)) ?_ (.cu q1 q2 e1 e2 (by omega) e5 .nil) rfl;rw [ex,Ht,Py hu hz e2 (by omega)];simp
  ·rename_i b g m pth y;split at he
   ·rename_i Vc;simp at he;subst he;have hE:=M8 h.eh h.gs Vc;obtain⟨kk,kv,mm,e1,e2,e3,e4,e5⟩:=Bw hc;obtain⟨Ht,_⟩:=Fo G1 e1;generalize hv:a.eval x=v at r1 ex;cases r1 with
    |via q1 q2 q3 _=>
     obtain⟨⟨f,p1,p2⟩,p3⟩:=q3 hE;rcases M3 p1 e3 with⟨_,_,_,hm⟩|⟨b9,off9,len9,cap9,rfl,hm⟩
     ·omega
     ·refine Ar.pure h (v:= .pointer (some ⟨b9,off9+kv.toNat*P.cellsOf el+0,none⟩)) ?_ (.vptr q1 q2 (fun _=>⟨b9,off9,len9,cap9,kk,kv,⟨f,p1,p2⟩,p3,e1,e2,by omega,e5,rfl⟩) .nil) rfl;rw [ex,Ht,Py hu hz e2 (by omega)];simp
   ·cases he
  ·cases he
 ·rename_i k hu;have OJ:=UQ hu;obtain⟨fk,G1,_⟩: ∃f,Rd c.w [a.eval i] [k.den c.ρ] f∧ ∀b∈f,c.ok b:=by
   generalize a.eval i=v at r2;cases r2 with
   |e h1 h2 _=>exact⟨_,h1,h2⟩
  split at he
  ·rename_i y;simp at he;subst he;obtain⟨kk,kv,s,e1,e2,e3,e4⟩:=Bw hc;obtain⟨Ht,_⟩:=Fo G1 e1;generalize hv:a.eval x=v at r1;cases r1 with
   |e q1 q2 _=>
    obtain⟨bs,rfl,rfl,hle⟩:=Ns q1 e2;have Am:kv.toNat<bs.data.toList.length:=by omega
    have UA:kv.toNat<bs.size:=by simpa using Am
    refine Ar.pure h (v:= .int .u8 (bs[kv.toNat]).toNat) ?_ (.b8 ?_) rfl
    ·simp [execOp,OJ,Instr.index,hv,Ht,asIntOf,run_underlying hu,e3,UA]
    ·simp only [E.den,e1,e2,AV.sidx];have:bs.data.toList[kv.toNat]?=some (bs[kv.toNat]):=by
      rw [List.getElem?_eq_getElem Am];simp [ByteArray.getElem_eq_getElem_data]
     rw [this];refine .int ?_ .nil;rw [LQ];have:=(bs[kv.toNat]).toNat_lt;simp [IntKind.min,IntKind.max,IntKind.signed,IntKind.bits];omega
  ·cases he
 ·cases he
theorem nC (h:A1 P c n nx sl hp a sl0 hp0 o gs) {t:TypeId} {x i:Operand} (ho:o.op= .indexAddr t x i) (JV:P.underlying t≠some .string) (he:Bc P sg sl0 hp0 nv nx gs o=some e) (hc: ∀q∈e.bc,Cn.den c.ρ q):Ar P o c n nx sl hp gs a e:=by
 simp only [Bc,ho,An]at he;obtain⟨s1,Bj,s2,AL,he⟩:=he;split at he
 ·cases he
 exact aA h (.inl ho) Bj AL (fun _=>ho) (fun hh=>absurd hh JV) he hc
theorem oD (h:A1 P c n nx sl hp a sl0 hp0 o gs) {t:TypeId} {x i:Operand} (ho:o.op= .index t x i) (JV:P.underlying t=some .string) (he:Bc P sg sl0 hp0 nv nx gs o=some e) (hc: ∀q∈e.bc,Cn.den c.ρ q):Ar P o c n nx sl hp gs a e:=by
 simp only [Bc,ho,An]at he;obtain⟨s1,Bj,s2,AL,he⟩:=he;split at he
 ·exact aA h (.inr ho) Bj AL (fun⟨el,hh⟩=>by rw [JV]at hh;cases hh) (fun _=>ho) he hc
 ·cases he
theorem pH (h:A1 P c n nx sl hp a sl0 hp0 o gs) {x:Operand} {i:Nat} (ho:o.op= .extract x i) (he:Bc P sg sl0 hp0 nv nx gs o=some e) (hc: ∀q∈e.bc,Cn.den c.ρ q):Ar P o c n nx sl hp gs a e:=by
 have hm:x∈o.op.operands:=by simp [ho,Op.operands]
 simp only [Bc,ho,An]at he;obtain⟨s,hs,he⟩:=he;have hr:=h.bz hs hm;generalize hv:a.eval x=v at hr;have ex: ∀(as_:List Value) u,v= .tuple as_.toArray→as_[i]?=some u→(execOp a.eval o).run P c.w= .ok (.value u) c.w:=fun as_ u OZ hu=>by simp [execOp,ho,Instr.extract,hv,OZ,hu]
 split at he
 ·rename_i vs;obtain⟨s2,AL,rfl⟩:=Ak.1 he;cases hr with
  |tup r1 r9=>obtain⟨u,hu,r⟩:=r1.get AL;exact Ar.pure h (ex _ u rfl hu) r rfl
 ·rename_i y;simp at he;subst he;cases hr with
  |e q1 q2 _=>
   have hd:(y.den c.ρ).proj i≠ .undef:=Bw hc;cases hy:y.den c.ρ<;>simp only [hy,AV.proj,ne_eq,not_true_eq_false]at hd;rename_i cs;obtain⟨as_,rfl,r1⟩:=vV q1 hy;cases Oa:cs[i]? with
   |none=>simp [Oa]at hd
   |some z=>obtain⟨u,g,hu,hg,CL⟩:=r1.at Oa;exact Ar.pure h (ex as_ u rfl hu) (.e (f:=g) (by simpa [E.den,hy,AV.proj,Oa]using CL) (fun b hb=>q2 b (hg b hb)) .nil) rfl
 ·cases he
theorem tR (h:A1 P c n nx sl hp a sl0 hp0 o gs) {x:Operand} {t:TypeId} (ho:o.op= .unOp .not t x) (he:Bc P sg sl0 hp0 nv nx gs o=some e) (hc: ∀q∈e.bc,Cn.den c.ρ q):Ar P o c n nx sl hp gs a e:=by
 have hm:x∈o.op.operands:=by simp [ho,Op.operands]
 simp only [Bc,ho,An,Ak]at he;obtain⟨s,hs,y,hy,he⟩:=he;obtain⟨f,q1,_⟩:=Gi (h.bz hs hm) hy;split at he
 ·subst he;have hv:=GK q1 rfl;rename_i b;exact Ar.pure h (v:= .bool (!b)) (by simp [execOp,ho,hv,Op.unary]) (.b8 (.bool .nil)) rfl
 ·subst he;have hd:(y.den c.ρ).dw≠ .undef:=Bw hc;cases A4:y.den c.ρ<;>simp only [A4,AV.dw,ne_eq,not_true_eq_false]at hd;have hv:=GK q1 A4;rename_i b;exact Ar.pure h (v:= .bool (!b)) (by simp [execOp,ho,hv,Op.unary]) (.b8 (by simp only [E.den,A4,AV.dw];exact .bool .nil)) rfl
theorem tW (h:A1 P c n nx sl hp a sl0 hp0 o gs) {x:Operand} {t:TypeId} (ho:o.op= .unOp .neg t x) (he:Bc P sg sl0 hp0 nv nx gs o=some e) (hc: ∀q∈e.bc,Cn.den c.ρ q):Ar P o c n nx sl hp gs a e:=by
 have hm:x∈o.op.operands:=by simp [ho,Op.operands]
 simp only [Bc,ho,An,Ak]at he;obtain⟨s,hs,y,hy,rfl⟩:=he;obtain⟨f,q1,_⟩:=Gi (h.bz hs hm) hy;have hd:(y.den c.ρ).gr≠ .undef:=Bw hc;cases A4:y.den c.ρ<;>simp only [A4,AV.gr,ne_eq,not_true_eq_false]at hd;rename_i k m;obtain⟨hv,_⟩:=Fo q1 A4;exact Ar.pure h (v:= .int k (k.wrap (0-m))) (by simp [execOp,ho,hv,Op.unary,Op.intArith]) (.b8 (by simp only [E.den,A4,AV.gr];exact .int (W5 _ _) .nil)) rfl
theorem dF {L:List Operand} {sl0:Nat→SV} {gs:Gd} (h: ∀x s,Bk sl0 gs x=some s→x∈L→SR c [s] [a.eval x]): ∀{xs:List Operand} {ss:List SV},(∀x∈xs,x∈L)→xs.mapM (Bk sl0 gs)=some ss→SR c ss (xs.map a.eval)
 | [],ss,_,hm=>by simp at hm;subst hm;exact .nil
 |x::xs,ss,hL,hm=>by rw [List.mapM_cons]at hm;simp only [Option.bind_eq_bind,An]at hm;obtain⟨s,hs,ss',E5,hm⟩:=hm;simp at hm;subst hm;exact(h x s hs (hL x (by simp))).app (dF h (fun y hy=>hL y (by simp [hy])) E5)
theorem nT (h:A1 P c n nx sl hp a sl0 hp0 o gs) {f:FuncId} {fst caps:Array Operand} (ho:o.op= .makeFunc (.func f) fst caps) (he:Bc P sg sl0 hp0 nv nx gs o=some e):Ar P o c n nx sl hp gs a e:=by
 simp only [Bc,ho]at he;split at he
 ·rename_i hf;obtain⟨ss,E5,rfl⟩:=Ak.1 he;have hf:fst= #[]:=by simpa using hf
  have r:=dF (a:=a) (c:=c) (L:=caps.toList) (fun x s hx hm=>h.bz hx (by simp only [ho,Op.operands,Array.mem_append];exact .inr (Array.mem_toList_iff.1 hm))) (fun x hx=>hx) E5;refine Ar.pure h (v:= .func (.func f) #[] (caps.toList.map a.eval).toArray) ?_ (.fn (by rw [A6.aj];exact r) .nil) rfl;simp [execOp,ho,Instr.makeFunc,hf];apply Array.ext';simp
 ·cases he
end
section
variable {P:Program} {c:Cx} {n nx:Nat} {sl sl0:Nat→SV} {hp hp0:Nat→Option Af} {a:Act} {o:Oper} {gs:Gd} {e:AK} {sg:Bo} {nv:Nat}
theorem A1.jc (h:A1 P c n nx sl hp a sl0 hp0 o gs) {x:Operand} {s:SV} (hs:Bk sl0 gs x=some s) (hm:x∈o.op.operands) {y:E} (hy:A0 hp0 gs AI s=some y):
  ∃f,Rd c.w [a.eval x] [y.den c.ρ] f∧ ∀b∈f,c.dj (Bn hp0 gs (AI+1) [s]) b:=Gl h.eh h.gs AI hy (h.bz hs hm) AI (Nat.le_refl _)
theorem uU (h:A1 P c n nx sl hp a sl0 hp0 o gs) {x:Operand} {t:TypeId} {cl:Call} (ho:o.op= .call cl) (Aw:cl.callee= .builtin .len) (Cz:cl.args.toList= [x]) (Dz:cl.argTypes.toList= [t]) (he:Bc P sg sl0 hp0 nv nx gs o=some e) (hc: ∀q∈e.bc,Cn.den c.ρ q):Ar P o c n nx sl hp gs a e:=by
 have Ao:cl.args= #[x]:=by apply Array.ext';simp [Cz]
 have FM:cl.argTypes= #[t]:=by apply Array.ext';simp [Dz]
 have hm:x∈o.op.operands:=by simp [ho,Op.operands,Call.operands,Aw,Ao]
 simp only [Bc,ho,Aw,Cz,Dz,An]at he;obtain⟨s,hs,he⟩:=he;unfold fD at he;have ex:(execOp a.eval o).run P c.w=((Builtin.len_ #[t] o.type #[a.eval x]).run P c.w).andThen fun v w=> .ok (.value v) w:=by simp [execOp,ho,resolve,Aw,Ao,FM,invoke,builtin]
 split at he
 ·rename_i el hu;obtain⟨y,hy,rfl⟩:=Ak.1 he;obtain⟨f,q1,q2⟩:=h.jc hs hm hy;have hd:(y.den c.ρ).len≠ .undef:=Bw hc;cases A4:y.den c.ρ<;>simp only [A4,AV.len,ne_eq,not_true_eq_false]at hd;rename_i xs;have hl:(y.den c.ρ).len= .int .i64 (xs.length:Int):=by rw [A4];rfl
  have BZ:DP .i64 (xs.length:Int):=by
   rw [LQ];rcases q1.kind with hh|hh|hh|hh|hh|hh|hh|hh|hh|hh
   all_goals first
    |(obtain⟨_,_,_,hh,_⟩:=hh;rw [A4]at hh;cases hh;done)
    |(obtain⟨_,_,hh,_⟩:=hh;rw [A4]at hh;cases hh;done)
    |skip
   ·obtain⟨_,_,_,hh,_⟩:=hh;rw [A4]at hh;cases hh;simp [IntKind.min,IntKind.max,IntKind.signed,IntKind.bits]
   ·obtain⟨_,_,_,_,_,_,_,_,_,_,_,_,hh,_,_,_,hle,hlen,_⟩:=hh;rw [A4]at hh;cases hh;simp [IntKind.min,IntKind.max,IntKind.signed,IntKind.bits];omega
   all_goals first
    |(obtain⟨_,_,_,hh,_⟩:=hh;rw [A4]at hh;cases hh;done)
    |(obtain⟨_,_,_,_,_,_,_,hh,_⟩:=hh;rw [A4]at hh;cases hh;done)
    |(obtain⟨_,_,_,_,hh,_⟩:=hh;rw [A4]at hh;cases hh;done)
    |(obtain⟨_,hh,_⟩:=hh;rw [A4]at hh;cases hh;done)
  refine Ar.pure h (v:= .int .i64 xs.length) ?_ (.b8 (by simp only [E.den,A4,AV.len];exact .int BZ .nil)) rfl;rcases M3 q1 hl with⟨p,q,hv,Di⟩|⟨b,o',k,q,hv,Di⟩
  ·rw [ex,hv,Di];simp [Builtin.len_,run_underlying hu,goInt]
  ·rw [ex,hv,Di];simp [Builtin.len_,run_underlying hu,goInt]
 ·rename_i hu;obtain⟨y,hy,rfl⟩:=Ak.1 he;obtain⟨f,q1,q2⟩:=h.jc hs hm hy;have hd:(y.den c.ρ).slen≠ .undef:=Bw hc;cases A4:y.den c.ρ<;>simp only [A4,AV.slen,ne_eq,not_true_eq_false]at hd;obtain⟨bs,hv,rfl,hle⟩:=Ns q1 A4;refine Ar.pure h (v:= .int .i64 bs.size) ?_ (.b8 ?_) rfl
  ·rw [ex,hv];simp [Builtin.len_,run_underlying hu,goInt]
  ·simp only [E.den,A4,AV.slen];have:(bs.data.toList.length:Int)=(bs.size:Int):=by simp
   rw [this];refine .int ?_ .nil;rw [LQ];simp [IntKind.min,IntKind.max,IntKind.signed,IntKind.bits];omega
 ·cases he
theorem oE (h:A1 P c n nx sl hp a sl0 hp0 o gs) {x:Operand} {src dst:TypeId} {k0 k:IntKind} (ho:o.op= .convert src dst x) (h1:P.underlying src=some (.int k0)) (h2:P.underlying dst=some (.int k)) (he:Bc P sg sl0 hp0 nv nx gs o=some e) (hc: ∀q∈e.bc,Cn.den c.ρ q):Ar P o c n nx sl hp gs a e:=by
 have hm:x∈o.op.operands:=by simp [ho,Op.operands]
 simp only [Bc,ho,An]at he;obtain⟨s,hs,he⟩:=he;simp only [P5,h1,h2,Ak]at he;obtain⟨y,hy,rfl⟩:=he;obtain⟨f,q1,_⟩:=Gi (h.bz hs hm) hy;have hd:(y.den c.ρ).conv k≠ .undef:=Bw hc;cases A4:y.den c.ρ<;>simp only [A4,AV.conv,ne_eq,not_true_eq_false]at hd;rename_i k1 m;obtain⟨hv,_⟩:=Fo q1 A4;exact Ar.pure h (v:= .int k (k.wrap m)) (by simp [execOp,ho,hv,convert,run_underlying h1,run_underlying h2,Conv.intToInt]) (.b8 (by simp only [E.den,A4,AV.conv];exact .int (W5 _ _) .nil)) rfl
theorem oH (h:A1 P c n nx sl hp a sl0 hp0 o gs) {x:Operand} {src dst:TypeId} (ho:o.op= .convert src dst x) (h1:P.underlying src=some .string) (h2:P.underlying dst=some .string) (he:Bc P sg sl0 hp0 nv nx gs o=some e) (hc: ∀q∈e.bc,Cn.den c.ρ q):Ar P o c n nx sl hp gs a e:=by
 have hm:x∈o.op.operands:=by simp [ho,Op.operands]
 simp only [Bc,ho,An]at he;obtain⟨s,hs,he⟩:=he;simp only [P5,h1,h2,Ak]at he;obtain⟨y,hy,rfl⟩:=he;obtain⟨f,q1,_⟩:=Gi (h.bz hs hm) hy;have hd:(y.den c.ρ).slen≠ .undef:=Bw hc;cases hl:y.den c.ρ<;>simp only [hl,AV.slen,ne_eq,not_true_eq_false]at hd;obtain⟨bs,hv,hle,Uy⟩:=Ns q1 hl;exact Ar.pure h (v:= .string bs) (by simp [execOp,ho,hv,convert,run_underlying h1,run_underlying h2]) (.b8 (by rw [hl,hle];exact Rd.str Uy .nil)) rfl
theorem eY {w:World}: ∀{ys:List AV} {s:List UInt8} {cs:List Value} {f:List Nat},J8 ys=some s→Rd w cs (Ay ys) f→ ∃ns:List Int,cs=ns.map (Value.int .u8)∧s=ns.map (fun n=>UInt8.ofNat n.toNat)∧ns.length=ys.length
 | [],s,cs,f,h,hr=>by have:Ay ([]:List AV)= []:=rfl;rw [this]at hr;cases hr;cases h;exact⟨[],rfl,rfl,rfl⟩
 |y::ys,s,cs,f,h,hr=>by
  unfold J8 at h;split at h
  ·rename_i h0;cases h0
  ·rename_i n xs he;cases he;obtain⟨s',h1,rfl⟩:=Ak.1 h;have CC:Rd w cs (.int .u8 n::Ay ys) f:=by simpa [Ay,AV.cells]using hr
   cases CC with
   |int hk Da=>obtain⟨ns,rfl,rfl,hl⟩:=eY h1 Da;exact⟨n::ns,rfl,rfl,by simp [hl]⟩
  ·cases h
theorem oC (h:A1 P c n nx sl hp a sl0 hp0 o gs) {x:Operand} {src dst el:TypeId} (ho:o.op= .convert src dst x) (h1:P.underlying src=some (.slice el)) (h2:P.underlying dst=some .string) (he:Bc P sg sl0 hp0 nv nx gs o=some e) (hc: ∀q∈e.bc,Cn.den c.ρ q):Ar P o c n nx sl hp gs a e:=by
 have hm:x∈o.op.operands:=by simp [ho,Op.operands]
 simp only [Bc,ho,An]at he;obtain⟨s,hs,he⟩:=he;simp only [P5,h1,h2]at he;split at he
 ·rename_i hu;obtain⟨y,hy,rfl⟩:=Ak.1 he;obtain⟨f,q1,q2⟩:=h.jc hs hm hy;have hd:(y.den c.ρ).text≠ .undef:=Bw hc;cases A4:y.den c.ρ<;>simp only [A4,AV.text,ne_eq,not_true_eq_false]at hd;rename_i xs;split at hd
  ·rename_i t ht;split at hd
   ·rename_i hle;have Bz:(E.text y).den c.ρ= .str t:=by
     simp only [E.den,A4,AV.text,ht];rw [if_pos hle]
    have fin: ∀ns:List Int,t=ns.map (fun n=>UInt8.ofNat n.toNat)→ns.length=xs.length→(convert src dst (a.eval x)).run P c.w= .ok (.string (ns.foldl (fun r n=>r.push (UInt8.ofNat n.toNat)) ByteArray.empty)) c.w→Ar P o c n nx sl hp gs a {bc:= [.dfd (.text y)],val:= .e (.text y)}:=fun ns e1 e2 e3=>by
     have e4:(ns.foldl (fun r n=>r.push (UInt8.ofNat n.toNat)) ByteArray.empty)=⟨t.toArray⟩:=by
      rw [foldl_push_bytes,e1];simp [ByteArray.empty,ByteArray.emptyWithCapacity]
      try rfl
     rw [e4]at e3;refine Ar.pure h (v:= .string ⟨t.toArray⟩) (by simp [execOp,ho,e3]) (.b8 ?_) rfl;rw [Bz];have BA:(ByteArray.mk t.toArray).size≤9223372036854775807:=by simp only [ByteArray.size,List.size_toArray];rw [e1,List.length_map];omega
     have:=Rd.str (w:=c.w) (s:=⟨t.toArray⟩) BA .nil;simpa using this
    rw [A4]at q1;rcases q1.kind with hh|hh|hh|hh|hh|hh|hh|hh|hh|hh
    all_goals first
     |(obtain⟨_,_,_,hh,_⟩:=hh;cases hh;done)
     |(obtain⟨_,_,hh,_⟩:=hh;cases hh;done)
     |skip
    ·obtain⟨p,q,hv,hx,_⟩:=hh;cases hx;cases ht;refine fin [] rfl rfl ?_;rw [hv];cases p with
     |none=>rw [run_convert_bytes_nil c.w src el h1 hu _ _ dst h2];rfl
     |some ad=>rw [run_convert_bytes_string c.w src dst el _ 0 q h1 hu h2,run_bytesToString c.w ad 0 q [] (by simp [loadCells,loadCellsFrom])]
    ·obtain⟨b,o',k,q,ys,cs,C,t',fz,sz,f1,hv,hx,_,hb,_,jL,hlen,_,_,A2,hr⟩:=hh;cases hx;obtain⟨ns,rfl,e1,e2⟩:=eY ht hr.2;refine fin ns e1 e2 ?_;have hl:ns.length=k:=by omega
     have BT: ∀i,i<k→c.w.cell? ⟨b,o'+i,none⟩=some (.int .u8 (ns.getD i 0)):=fun i hi=>by
      have IX:i<ns.length:=by omega
      have:=A2 i (.int .u8 ns[i]) (by simp [IX]);rw [D5 hb,this];simp [IX]
     have:=run_convert_bytes_arg c.w src el h1 hu b o' k q ns hl BT dst h2;rw [hv,this];congr 2;rw [foldl_push_bytes];simp [strOfNums,ByteArray.empty,ByteArray.emptyWithCapacity]
     try rfl
    all_goals first
     |(obtain⟨_,_,_,hh,_⟩:=hh;cases hh;done)
     |(obtain⟨_,_,_,_,_,_,_,hh,_⟩:=hh;cases hh;done)
     |(obtain⟨_,_,_,_,hh,_⟩:=hh;cases hh;done)
     |(obtain⟨_,hh,_⟩:=hh;cases hh;done)
   ·exact absurd rfl hd
  ·exact absurd rfl hd
 ·cases he
theorem aY {ρ:List AV} {x:E} {b:Bool} {gs:Gd} (h1:x.den ρ= .bool b) (h2:AU ρ gs):AU ρ ((x,b)::gs):=by
 intro g hg;rcases Ae.1 hg with rfl|hg
 ·exact h1
 ·exact h2 g hg
theorem sD (h:A1 P c n nx sl hp a sl0 hp0 o gs) {x y z:Operand} (ho:o.op= .pick x y z) (he:Bc P sg sl0 hp0 nv nx gs o=some e) (hc: ∀q∈e.bc,Cn.den c.ρ q):Ar P o c n nx sl hp gs a e:=by
 have Dj:x∈o.op.operands:=by simp [ho,Op.operands]
 have CZ:y∈o.op.operands:=by simp [ho,Op.operands]
 have Ml:z∈o.op.operands:=by simp [ho,Op.operands]
 simp only [Bc,ho,An]at he;obtain⟨s,hs,he⟩:=he;have hr:=h.bz hs Dj;split at he
 ·rename_i q;have ex: ∀b,a.eval x= .bool b→(execOp a.eval o).run P c.w= .ok (.value (if b then a.eval y else a.eval z)) c.w:=fun b hb=>by
   simp [execOp,ho,hb,asBool]
  obtain⟨f,q1⟩: ∃f,Rd c.w [a.eval x] [q.den c.ρ] f:=by
   generalize a.eval x=v at hr;cases hr with
   |e h1 _ _=>exact⟨_,h1⟩
  unfold eM at he;split at he
  ·obtain⟨s',AT,rfl⟩:=Ak.1 he;exact Ar.pure h (v:=a.eval y) (ex true (GK q1 rfl)) (h.bz AT CZ) rfl
  ·obtain⟨s',AT,rfl⟩:=Ak.1 he;exact Ar.pure h (v:=a.eval z) (ex false (GK q1 rfl)) (h.bz AT Ml) rfl
  ·split at he
   ·rename_i y' z' hy hz;simp at he;subst he;simp only [An]at hy hz;obtain⟨sy,kI,hy⟩:=hy;obtain⟨sz,BA,hz⟩:=hz;have hd:(q.den c.ρ).dw≠ .undef:=Bw hc;cases hq:q.den c.ρ<;>simp only [hq,AV.dw,ne_eq,not_true_eq_false]at hd;rename_i b;cases b with
    |true=>have r:=R5 (a:=a) kI (fun t ht=>by subst ht;rw [h.sl t CZ];exact h.rel.ca t) (aY hq h.gs);obtain⟨f',g1,g2⟩:=Gi r hy;exact Ar.pure h (v:=a.eval y) (ex true (GK q1 hq)) (.e (f:=f') (by simpa [E.den,hq,AV.cond]using g1) g2 .nil) rfl
    |false=>have r:=R5 (a:=a) BA (fun t ht=>by subst ht;rw [h.sl t Ml];exact h.rel.ca t) (aY hq h.gs);obtain⟨f',g1,g2⟩:=Gi r hz;exact Ar.pure h (v:=a.eval z) (ex false (GK q1 hq)) (.e (f:=f') (by simpa [E.den,hq,AV.cond]using g1) g2 .nil) rfl
   ·cases he
 ·cases he
end
section
variable {P:Program} {c:Cx} {n nx:Nat} {sl sl0:Nat→SV} {hp hp0:Nat→Option Af} {a:Act} {o:Oper} {gs:Gd} {e:AK} {sg:Bo} {nv:Nat}
theorem VZ {w:World} {v:Value} {x:AV} {f:List Nat} (h:Rd w [v] [x] f) (h1: ∀cs,x≠ .agg cs) (h2: ∀cs,x≠ .tup cs):v.oneCell'=true:=by
 cases h<;>first
  |rfl
  |exact absurd rfl (h1 _)
  |exact absurd rfl (h2 _)
theorem one_cells {v:Value} (h:v.oneCell'=true):v.cells= #[v]:=by cases v<;>first|rfl|(simp [Value.oneCell']at h)
theorem Sj {t:TypeId} {s:SV} {v:Value} {cs:List SV} {ck:List Cn} (h:SR c [s] [v]) (hc:Nc P t s=some (cs,ck)) (hk: ∀q∈ck,q.den c.ρ):
  SR c cs v.cells.toList∧(∀u∈v.cells.toList,u.oneCell'=true):=by
 unfold Nc at hc;split at hc
 ·split at hc
  ·simp at hc;obtain⟨rfl,rfl⟩:=hc;cases h with
   |agg h1 h2 _=>exact⟨by simpa [Value.cells]using h2,by simpa [Value.cells]using h1⟩
  ·rename_i x;simp at hc;obtain⟨rfl,rfl⟩:=hc;cases h with
   |e h1 h2 _=>
    obtain⟨as_,has,hl⟩:=Bw hk;obtain⟨vs,rfl,h3,h4⟩:=H0 h1 has;refine⟨?_,by simpa [Value.cells]using h3⟩;have hlen:=h4.len;have key: ∀k,k≤as_.length→SR c ((List.range k).map fun j=>SV.e (.fld x j 1 false)) (vs.take k):=by
     intro k
     induction k with
     |zero=>intro _;simpa using SR.nil
     |succ k ih=>
      intro hk;have BI:k<as_.length:=by omega
      obtain⟨u,g,hu,hg,hr⟩:=h4.at (show as_[k]?=some as_[k] by simp [BI])
      rw [List.range_succ,List.map_append,List.take_succ_eq_append_getElem (by omega)];refine(ih (by omega)).app ?_;have Ew:vs[k]'(by omega)=u:=by simpa [show k<vs.length by omega]using hu
      rw [Ew];exact .e (f:=g) (by simpa [E.den,AV.fld,has,AV.cells,BI]using hr) (fun b hb=>h2 b (hg b hb)) .nil
    have:=key as_.length (Nat.le_refl _);rw [←hlen,List.take_length,hlen,hl]at this;simpa [Value.cells]using this
  ·cases hc
 ·split at hc
  ·rename_i x;simp at hc;obtain⟨rfl,rfl⟩:=hc;cases h with
   |e h1 h2 _=>
    have hq:(∀cs,x.den c.ρ≠ .agg cs)∧ ∀cs,x.den c.ρ≠ .tup cs:=by
     cases x<;>first
      |exact(Bw hk:Cn.den c.ρ (.cells _ 1))
      |exact⟨by simp [E.den],by simp [E.den]⟩
    have GY:=VZ h1 hq.1 hq.2;rw [one_cells GY];exact⟨.e h1 h2 .nil,by simpa using GY⟩
  ·cases hc
  ·cases hc
  ·cases hc
  ·cases hc
  ·cases hc
  ·cases hc
  ·cases hc
  ·cases hc
  ·simp at hc;obtain⟨rfl,rfl⟩:=hc;have GY:v.oneCell'=true:=by
    cases h<;>first|rfl|(rename_i hh _ _ _ _ _;exact absurd rfl (hh _))|skip
    all_goals first
     |rfl
     |exact(show∀(i:Nat),SV.lent _=SV.lent i→False from by assumption) _ rfl|>.elim
     |exact(show∀(t g n:Nat) (p:KB) (x:E),SV.via _ _ _ _ _=SV.via t g n p x→False from by assumption) _ _ _ _ _ rfl|>.elim
     |exact(show∀(t g n:Nat) (p:KB) (x i:E) (sz o:Nat),SV.vptr _ _ _ _ _ _ _ _=SV.vptr t g n p x i sz o→False from by assumption) _ _ _ _ _ _ _ _ rfl|>.elim
     |(exfalso;simp_all;done)
   rw [one_cells GY];exact⟨h,by simpa using GY⟩
theorem vX (h:A1 P c n nx sl hp a sl0 hp0 o gs) (ob:Obj) (hv:Value):Kv c (c.new nx ob hv []) nx:=
 ⟨rfl,rfl,rfl,rfl,fun t ht=>ht.imp id (fun hh=>by subst hh;exact⟨Nat.le_refl _,by simp [Bf]⟩)⟩
theorem LL (h:A1 P c n nx sl hp a sl0 hp0 o gs): ¬c.U nx:=h.new nx (Nat.le_refl _) (by omega)
theorem Ar.box (h:A1 P c n nx sl hp a sl0 hp0 o gs) {ty:TypeId} {g:Bool} {cs:List SV} {v:Value} {ck:List Cn} (hr:(execOp a.eval o).run P c.w= .ok (.value (.pointer (some ⟨c.w.heap.size,0,none⟩))) (c.w.alloc (.cells v.cells ty)))
  (hs:SR c cs v.cells.toList) (h1: ∀u∈v.cells.toList,u.oneCell'=true):Ar P o c n nx sl hp gs a {bc:=ck,val:= .bg nx 0,aw:= [(nx,Cg gs (.box ty g cs))]}:=by
 intro next Q hk
 unfold Oper.wp;rw [hr,Oper.upon_value];have hU:=LL h;have keep:CU c (c.new nx (.cells v.cells ty) (.pointer (some ⟨c.w.heap.size,0,none⟩)) []):=Cx.fg (fun g hg=>hU (h.rel.a7 _ _ hg));have hH:(c.new nx (.cells v.cells ty) (.pointer (some ⟨c.w.heap.size,0,none⟩)) []).H nx 0= .pointer (some ⟨c.w.heap.size,0,none⟩):=by simp [Cx.new]
 have hK:(c.new nx (.cells v.cells ty) (.pointer (some ⟨c.w.heap.size,0,none⟩)) []).K nx 0:= .inr ⟨rfl,rfl⟩;have Aj:=h.rel.new hU (.cells v.cells ty) (.pointer (some ⟨c.w.heap.size,0,none⟩)) (.box ty g cs) gs h.gs (by intros;simp)
  ⟨c.w.heap.size,v.cells,hK,hH,by simp [Cx.new],by simp [Cx.new],heap_alloc_new _ _,h1,hs.keep keep⟩
 exact hk _ _ (vX h _ _) (Aj.put ((SR.bg hK hH .nil).mkGd gs h.gs) o.dst)
theorem rA (h:A1 P c n nx sl hp a sl0 hp0 o gs) {t:TypeId} (ho:o.op= .alloc t) (he:Bc P sg sl0 hp0 nv nx gs o=some e) (hc: ∀q∈e.bc,Cn.den c.ρ q):Ar P o c n nx sl hp gs a e:=by
 simp only [Bc,ho,An]at he;obtain⟨z,⟨i,hi,hz⟩,s,hs,⟨cs,ck⟩,A2,he⟩:=he;split at he
 ·cases he
 ·split at he
  ·cases he
  ·rename_i IN;have IN:ck= []:=by simpa using IN
   simp at he;subst he;have AT:DU z=some s:=by simpa [fO,hi,hz]using hs
   obtain⟨q1,q2⟩:=Sj (Sp (c:=c) AT) A2 (by simp [IN]);refine Ar.box h (v:=z) ?_ q1 q2;simp [execOp,ho,Instr.alloc,zeroValue,typeInfo,hi,hz,newVar,newRow]
theorem tT (h:A1 P c n nx sl hp a sl0 hp0 o gs) {t:TypeId} {x:Operand} (ho:o.op= .box t x) (he:Bc P sg sl0 hp0 nv nx gs o=some e) (hc: ∀q∈e.bc,Cn.den c.ρ q):Ar P o c n nx sl hp gs a e:=by
 have hm:x∈o.op.operands:=by simp [ho,Op.operands]
 simp only [Bc,ho,An]at he;obtain⟨s,hs,⟨cs,ck⟩,A2,he⟩:=he;split at he
 ·cases he
 ·simp at he;subst he;obtain⟨q1,q2⟩:=Sj (h.bz hs hm) A2 hc;refine Ar.box h (v:=a.eval x) ?_ q1 q2;simp [execOp,ho,Instr.box,newVar,newRow]
end
section
variable {P:Program} {c:Cx} {n nx:Nat} {sl sl0:Nat→SV} {hp hp0:Nat→Option Af} {a:Act} {o:Oper} {gs:Gd} {e:AK} {sg:Bo} {nv:Nat}
def setVs {α:Type} (cs:List α) (o:Nat) (vs:List α):List α:=cs.take o++vs++cs.drop (o+vs.length)
theorem MW {α:Type} (cs vs:List α) (o:Nat) (h:o+vs.length≤cs.length) (i:Nat):(setVs cs o vs)[i]?=if o≤i∧i<o+vs.length then vs[i-o]? else cs[i]?:=by
 unfold setVs;have ht:(cs.take o).length=o:=by rw [List.length_take];omega
 rw [List.append_assoc];by_cases h1:i<o
 ·rw [if_neg (by omega),List.getElem?_append_left (by omega),List.getElem?_take,if_pos h1]
 ·rw [List.getElem?_append_right (by omega),ht];by_cases h2:i<o+vs.length
  ·rw [if_pos (by omega),List.getElem?_append_left (by omega)]
  ·rw [if_neg (by omega),List.getElem?_append_right (by omega),List.getElem?_drop];congr 1;omega
theorem MQ {α:Type} (cs vs:List α) (o:Nat) (h:o+vs.length≤cs.length):(setVs cs o vs).length=cs.length:=by simp [setVs];omega
theorem SR.setVs {cs vs:List SV} {C V:List Value} {k:Nat} (h:SR c cs C) (hv:SR c vs V):SR c (Ny cs k vs) (Go.Proofs.YtollgpkegmbpmaaGreatDoor.setVs C k V):=by unfold Ny Go.Proofs.YtollgpkegmbpmaaGreatDoor.setVs;have hl:=hv.len;rw [←hl];exact((h.split k).1.app hv).app (h.split _).2
theorem cB (vs:List Value): ∀(k off:Nat) (C:Array Value),off+k+vs.length≤C.size→
  ((vs.zipIdx k).foldl (fun cs (p:Value × Nat)=>cs.setIfInBounds (off+p.2) p.1) C).toList=setVs C.toList (off+k) vs:=by
 induction vs with
 |nil=>intro k off C _;simp [setVs]
 |cons v vs ih=>
  intro k off C h;simp only [AD]at h;simp only [List.zipIdx_cons,List.foldl_cons];rw [ih (k+1) off _ (by simp;omega)];apply List.ext_getElem?;intro i;rw [MW _ _ _ (by simp;omega),MW _ _ _ (by simp;omega)];simp only [Array.toList_setIfInBounds,List.getElem?_set,AD,Array.length_toList];by_cases h1:i=off+k
  ·subst h1;rw [if_neg (by omega),if_pos rfl,if_pos (by omega),if_pos (by omega)];simp
  ·by_cases h2:off+(k+1)≤i∧i<off+(k+1)+vs.length
   ·rw [if_pos h2,if_pos (by omega),show i-(off+k)=(i-(off+(k+1)))+1 by omega,List.getElem?_cons_succ]
   ·rw [if_neg h2,if_neg (by omega),if_neg (by omega)]
theorem VW {b off:Nat} {t:TypeId}: ∀(vs:List Value) (i:Nat) (w:World) (C:Array Value),w.heap[b]?=some (.cells C t (0,0))→off+i+vs.length≤C.size→(∀v∈vs,v.oneCell'=true)→
  (storeCells ⟨b,off,none⟩ vs i).run P w= .ok () (Cq w b (off+i) vs)
 | [],i,w,C,_,_,_=>by simp [storeCells,Cq]
 |v::vs,i,w,C,hb,hl,h1=>by
  simp only [AD]at hl;have hi:off+i<C.size:=by omega
  have BT:w.cell? ⟨b,off+i,none⟩=some C[off+i]:=by simp [World.cell?,hb,hi]
  have Ud:w.frozen? ⟨b,off+i,none⟩=false:=by simp [World.frozen?,hb]
  have Ev:(store ((⟨b,off,none⟩:Addr).add i) v).run P w= .ok () (w.setCell ⟨b,off+i,none⟩ v):=by rw [Addr.add_lit,run_store P w _ v _ (h1 v (by simp)),BT];simp [Ud]
  have h2:=heap_setCell_same w b (off+i) C t v hb;have ih:=VW (off:=off) vs (i+1) (w.setCell ⟨b,off+i,none⟩ v) _ h2 (by simp;omega) (fun x hx=>h1 x (by simp [hx]));simp only [storeCells,Sem.run_bind,Ev,Result.andThen_ok,ih,Cq];rw [Nat.add_assoc]
theorem RZ {w:World} {b off:Nat} {t:TypeId} {vs:List Value} {C:Array Value} (hb:w.heap[b]?=some (.cells C t (0,0))) (hl:off+vs.length≤C.size):
  Mod [b] w (Cq w b off vs)∧(Cq w b off vs).heap[b]?=some (.cells (setVs C.toList off vs).toArray t (0,0))∧(Cq w b off vs).heap.size=w.heap.size:=by
 obtain⟨hm,C',h1,h2,h3,h4⟩:=VK vs w b off C t hb hl;refine⟨hm, ?_, ?_⟩
 ·rw [h1];congr 2;apply Array.ext';apply List.ext_getElem?;intro i;rw [MW _ _ _ (by simpa using hl)];by_cases hi:off≤i∧i<off+vs.length
  ·rw [if_pos hi];have Am:i-off<vs.length:=by omega
   have:=h3 (i-off) vs[i-off] (by simp [Am]);rw [show off+(i-off)=i by omega]at this;rw [Array.getElem?_toList,this];simp [Am]
  ·rw [if_neg hi,Array.getElem?_toList,Array.getElem?_toList];exact h4 i (by omega)
 ·clear hm h1 h2 h3 h4 hl
  induction vs generalizing w off C with
  |nil=>rfl
  |cons v vs ih=>simp only [Cq];rw [ih (heap_setCell_same w b off C t v hb)];simp [World.setCell]
theorem VY {w:World} {b off:Nat} {t ty:TypeId} {v:Value} {C:Array Value} (hb:w.heap[b]?=some (.cells C ty (0,0))) (ht:CG P t=true) (hs:v.cells.size=P.cellsOf t) (hl:off+v.cells.size≤C.size) (h1: ∀u∈v.cells.toList,u.oneCell'=true):
  (Instr.storeAt t (.pointer (some ⟨b,off,none⟩)) v).run P w= .ok () (Cq w b off v.cells.toList):=by
 have:=VW (P:=P) (off:=off) v.cells.toList 0 w C hb (by simpa using hl) h1;simp only [Nat.add_zero]at this;simp [Instr.storeAt,Instr.sureAddr,storeVar,LC ht,hs,this]
def Cx.wr (c:Cx) (w':World) (t:Nat):Cx:={c with w:=w',E:=fun u=>if u=t then c.E u+1 else c.E u}
theorem Cx.gj {c:Cx} {w':World} {t b:Nat} (gw:GW c) (BW:b∈(c.G t).top) (hm:Mod [b] c.w w'):CU c (c.wr w' t):=by
 have Ba:b∈(c.G t).own:=by simp [GI.own,BW]
 refine⟨rfl,rfl,fun q _ hq=>hq,fun q hq Au=>hm.block q hq ?_,fun u g hu=>⟨hu,rfl⟩,fun u g hu=> ?_⟩
 ·simp only [List.mem_singleton];rintro rfl;exact Au.1 ⟨t,BW⟩
 ·by_cases Fh:u=t
  ·have e1:(c.wr w' t).E u=c.E u+1:=by simp only [Cx.wr,if_pos Fh]
   exact⟨by omega,fun h=>by omega⟩
  ·have e1:(c.wr w' t).E u=c.E u:=by simp only [Cx.wr,if_neg Fh]
   rw [e1];refine⟨Nat.le_refl _,fun _=>⟨rfl,fun q hq G2=>hm.block q G2 ?_⟩⟩;simp only [List.mem_singleton];rintro rfl;exact gw.bq t u (Ne.symm Fh) q Ba (by simp [GI.own,hq])
theorem Rel.write (h:Rel c n sl hp a) {t:Nat} {e0:Af} {b:Nat} {w':World} (AG:BS c.ρ (hp t) e0) (BW:b∈(c.G t).top) (hm:Mod [b] c.w w') (BA:w'.heap.size=c.w.heap.size) (e1:Af) (A8: ∀hs f,e1≠ .gd hs f)
  (he:Cu (c.wr w' t) t e1):Rel (c.wr w' t) n sl (AR hp [(t,e1)]) a∧CU c (c.wr w' t):=by
 have Ba:b∈(c.G t).own:=by simp [GI.own,BW]
 have Bp:CU c (c.wr w' t):=Cx.gj h.gw BW hm;have C3: ∀u,AR hp [(t,e1)] u=if u=t then some e1 else hp u:=fun u=>rfl;refine⟨h.change (fun u=>u=t) Bp ⟨hm.os.trans h.base.os,hm.tape.trans h.base.tape,hm.output.trans h.base.output,Nat.le_trans h.base.size hm.size,h.base.pins,fun q hq GD=> ?_,h.base.pk,h.base.lo⟩
  (fun u hu=>⟨by rw [C3,if_neg hu],rfl,by simp [Cx.wr,hu],fun g hg=>hg⟩) (fun u hu q hq=>hm.block q (h.gw.inb u q (by simp [GI.own,hq])) ?_) (fun u hu=> ?_) ⟨h.gw.nodup,h.gw.bq,h.gw.allow,fun u q hq=> ?_⟩ h.a7 (fun u f hf=> ?_),Bp⟩
 ·refine(hm.block q (Nat.lt_of_lt_of_le hq h.base.size) ?_).trans (h.base.block q hq GD);simp only [List.mem_singleton];rintro rfl;rcases h.gw.allow t q Ba with hh|hh
  ·exact absurd hh (Nat.not_le.2 hq)
  ·exact GD hh
 ·simp only [List.mem_singleton];rintro rfl;exact h.gw.bq t u (Ne.symm hu) q Ba (by simp [GI.own,hq])
 ·subst hu;rw [C3,if_pos rfl];refine⟨fun e' hr=> ?_,fun hn=> ?_⟩
  ·cases e1<;>first
    |(simp only [BS]at hr;subst hr;exact he)
    |exact absurd rfl (A8 _ _)
  ·cases e1<;>first
    |exact absurd rfl (A8 _ _)
    |exact absurd rfl (hn _)
 ·show q<w'.heap.size;rw [BA];exact h.gw.inb u q hq
 ·rw [C3]at hf;split at hf
  ·rename_i hu;subst hu;cases hh:hp u with
   |none=>rw [hh]at AG;exact AG.elim
   |some e9=>exact h.br u e9 hh
  ·exact h.br u f hf
end
section
variable {P:Program} {c:Cx} {n nx:Nat} {sl sl0:Nat→SV} {hp hp0:Nat→Option Af} {a:Act} {o:Oper} {gs:Gd} {e:AK} {sg:Bo} {nv:Nat}
theorem nW (h:A1 P c n nx sl hp a sl0 hp0 o gs) {t:TypeId} {x y:Operand} (ho:o.op= .store t x y) {b k:Nat} {s:SV} (hx:Bk sl0 gs x=some (.bg b k)) (hy:Bk sl0 gs y=some s)
  (he:Kh P hp0 gs t (.bg b k) s=some e) (hc: ∀q∈e.bc,Cn.den c.ρ q):Ar P o c n nx sl hp gs a e:=by
 have r1:=h.bz hx (by simp [ho,Op.operands]);have r2:=h.bz hy (by simp [ho,Op.operands]);simp only [Kh]at he;split at he
 ·rename_i ty g cs vs ck hl A2;split at he
  ·rename_i hh;obtain⟨AZ,hlen,hle,rfl⟩:=hh;simp at he;subst he;obtain⟨q1,q2⟩:=Sj r2 A2 hc;generalize hv:a.eval x=v at r1;cases r1 with
   |bg h1 h2 h3=>
    rename_i q;have Ed:=Cm hl h.gs;obtain⟨q',C,e1,e2,e3,e4,e5,e5',e6⟩:=h.eh b _ Ed;rw [h2]at e2;cases e2;have AG:BS c.ρ (hp b) (.box ty g cs):=by
     cases hh:hp0 b with
     |none=>rw [hh]at Ed;exact Ed.elim
     |some e9=>rw [h.hp b e9 hh];rwa [hh]at Ed
    have KX:=e6.len;have Ux:=q1.len;obtain⟨m1,m2,m3⟩:=RZ (vs:=(a.eval y).cells.toList) e5 (show k+_≤C.size by simp at KX Ux ⊢;omega);obtain⟨Aj,Bp⟩:=h.rel.write AG (by rw [e3];simp) m1 m3 (.box ty g (Ny cs k vs)) (by intros;simp) (w':=Cq c.w q k (a.eval y).cells.toList) (by
     have BI:CU c (c.wr (Cq c.w q k (a.eval y).cells.toList) b):=Cx.gj h.rel.gw (by rw [e3];simp) m1;refine⟨q,_,e1,h2,e3,e4,m2, ?_, ?_⟩
     ·intro u hu;simp only [List.toList_toArray]at hu;unfold setVs at hu;simp only [Ag]at hu;rcases hu with(hu|hu)|hu
      ·exact e5' u (List.mem_of_mem_take hu)
      ·exact q2 u hu
      ·exact e5' u (List.mem_of_mem_drop hu)
     ·simpa using(e6.setVs q1 (k:=k)).keep BI)
    intro next Q hk
    unfold Oper.wp;have hr:(execOp a.eval o).run P c.w= .ok .skip (Cq c.w q k (a.eval y).cells.toList):=by have:=VY (P:=P) (t:=t) (v:=a.eval y) (off:=k) e5 AZ (by simp at Ux;omega) (by simp at KX Ux;omega) q2;simp [execOp,ho,hv,this]
    rw [hr,Oper.upon_skip];exact hk _ (c.wr (Cq c.w q k (a.eval y).cells.toList) b) ⟨rfl,rfl,rfl,rfl,fun t ht=> .inl ht⟩ (Aj.put ((SR.undef .nil).mkGd []) o.dst)
  ·cases he
 ·cases he
theorem cI {places:List (Nat × Nat)} {tys:List TypeId}: ∀(ps:List (Nat × SV)) (vs:List (Nat × Value)) (cs:List SV) (C:Array Value) (r:List SV × List Cn),Qu P places tys ps cs=some r→(∀q∈r.2,q.den c.ρ)→
  ps.map (·.1)=vs.map (·.1)→SR c (ps.map (·.2)) (vs.map (·.2))→SR c cs C.toList→(∀u∈C.toList,u.oneCell'=true)→
  ∃C',Instr.fill (places.toArray[·]?) C vs=some C'∧SR c r.1 C'.toList∧ ∀u∈C'.toList,u.oneCell'=true
 | [],vs,cs,C,r,h,hk,he,_,hC,h1=>by
  have:vs= []:=by simpa using he.symm
  subst this;simp [Qu]at h;subst h;exact⟨C,rfl,hC,h1⟩
 |(i,s)::ps, [],cs,C,r,h,hk,he,_,hC,h1=>by simp at he
 |(i,s)::ps,(j,v)::vs,cs,C,r,h,hk,he,hs,hC,h1=>by
  simp only [List.map_cons,List.cons.injEq]at he;obtain⟨rfl,he⟩:=he;simp only [List.map_cons]at hs;obtain⟨Bj,AL⟩:=hs.bd;unfold Qu at h;split at h
  ·rename_i off sz t K7 AZ;split at h
   ·rename_i us ck A2;split at h
    ·rename_i hh;obtain⟨BA,hle⟩:=hh;obtain⟨r',CC,rfl⟩:=Ak.1 h;obtain⟨q1,q2⟩:=Sj Bj A2 (fun q hq=>hk q (by simp [hq]));have IY:=q1.len;have QX:=hC.len;have JH:(v.cells.zipIdx.foldl (fun cs (p:Value × Nat)=>cs.setIfInBounds (off+p.2) p.1) C).toList=setVs C.toList off v.cells.toList:=by
      have:=cB v.cells.toList 0 off C (by simp at IY QX ⊢;omega);rw [←Array.foldl_toList,Array.toList_zipIdx];simpa using this
     obtain⟨C',g1,g2,g3⟩:=cI ps vs (Ny cs off us) (v.cells.zipIdx.foldl (fun cs (p:Value × Nat)=>cs.setIfInBounds (off+p.2) p.1) C) r' CC (fun q hq=>hk q (by simp [hq])) he AL (by rw [JH];exact hC.setVs q1) (by
      rw [JH];intro u hu;unfold setVs at hu;simp only [Ag]at hu;rcases hu with(hu|hu)|hu
      ·exact h1 u (List.mem_of_mem_take hu)
      ·exact q2 u hu
      ·exact h1 u (List.mem_of_mem_drop hu))
     refine⟨C', ?_,g2,g3⟩;unfold Instr.fill;have UU:places.toArray[i]?=some (off,sz):=by simpa using K7
     simp only [UU];rw [if_neg (by simp at IY QX ⊢;omega)];exact g1
    ·cases h
   ·cases h
  ·cases h
theorem Sv {sl0:Nat→SV} {gs:Gd} (L:List Operand) (h: ∀x s,Bk sl0 gs x=some s→x∈L→SR c [s] [a.eval x]): ∀{xs:List (Nat × Operand)} {ss:List (Nat × SV)},(∀x∈xs,x.2∈L)→xs.mapM (fun(p:Nat × Operand)=>(Bk sl0 gs p.2).map fun s=>(p.1,s))=some ss→
  ss.map (·.1)=xs.map (·.1)∧SR c (ss.map (·.2)) (xs.map fun p=>a.eval p.2)
 | [],ss,_,hm=>by simp at hm;subst hm;exact⟨rfl, .nil⟩
 |x::xs,ss,hL,hm=>by rw [List.mapM_cons]at hm;simp only [Option.bind_eq_bind,An,Ak]at hm;obtain⟨_,⟨s,hs,rfl⟩,ss',E5,hm⟩:=hm;simp at hm;subst hm;obtain⟨e1,e2⟩:=Sv L h (fun y hy=>hL y (by simp [hy])) E5;exact⟨by simp [e1],(h _ s hs (hL x (by simp))).app e2⟩
theorem qU (h:A1 P c n nx sl hp a sl0 hp0 o gs) {t:TypeId} {parts:Array (Nat × Operand)} (ho:o.op= .build t parts) (he:Bc P sg sl0 hp0 nv nx gs o=some e) (hc: ∀q∈e.bc,Cn.den c.ρ q):Ar P o c n nx sl hp gs a e:=by
 simp only [Bc,ho,An]at he;obtain⟨ps,JX,he⟩:=he;obtain⟨e1,e2⟩:=Sv (c:=c) (a:=a) (parts.toList.map (·.2)) (fun x s hx hm=>h.bz hx (by simpa [ho,Op.operands]using hm)) (fun x hx=>List.mem_map.2 ⟨x,hx,rfl⟩) JX;unfold bZ at he;split at he
 ·rename_i it fs hit hu;split at he
  ·rename_i zs places hz K7;obtain⟨r,hr,rfl⟩:=Ak.1 he;obtain⟨z,Rb,Rc⟩:=An.1 hz;have YJ:=Sp (c:=c) Rc;obtain⟨cells,g1,g2,g3⟩:=cI (c:=c) (P:=P) ps (parts.toList.map fun p=>(p.1,a.eval p.2)) zs.toList z.cells r hr hc (by rw [e1];simp) (by rw [List.map_map];exact e2)
    (by cases YJ with|agg h1 h2 _=>simpa [Value.cells]using h2) (by cases YJ with|agg h1 h2 _=>simpa [Value.cells]using h1)
   have hb:P.built t (parts.map fun(x:Nat × Operand)=>(x.1,a.eval x.2)).toList=some cells:=by simp only [Program.built,hit,hu,Rb,K7];simpa using g1
   have:=SR.agg (c:=c) (cs:=A6.of r.1) (as_:=cells.toList) g3 (by rw [A6.aj];exact g2) .nil;refine Ar.pure h (v:= .agg cells) ?_ (by simpa using this) rfl;have AH:=run_build c.w t _ cells hb;simp only [execOp,ho,Sem.run_bind];rw [AH];rfl
  ·cases he
 ·cases he
end
section
variable {P:Program} {c:Cx} {n nx:Nat} {sl sl0:Nat→SV} {hp hp0:Nat→Option Af} {a:Act} {o:Oper} {gs:Gd} {e:AK} {sg:Bo} {nv:Nat}
def Cx.ay (c:Cx) (ts:List Nat):Cx:={c with G:=fun u=>if u∈ts then⟨[], []⟩else c.G u,E:=fun u=>if u∈ts then c.E u+1 else c.E u}
theorem Cx.gy {c:Cx} {ts:List Nat} {b:Nat} (h:(c.ay ts).M b): ∃u,u∉ts∧b∈(c.G u).top:=by
 obtain⟨u,hu⟩:=h;simp only [Cx.ay]at hu;split at hu
 ·simp at hu
 ·exact⟨u,by assumption,hu⟩
theorem Cx.dv {c:Cx} {ts:List Nat} {b:Nat} (h:c.ok b):(c.ay ts).ok b:=⟨fun hm=>by obtain⟨u,_,hu⟩:=Cx.gy hm;exact h.1 ⟨u,hu⟩,h.2⟩
theorem Cx.iq (c:Cx) (ts:List Nat):CU c (c.ay ts):=⟨rfl,rfl,fun _ _ h=>Cx.dv h,fun _ _ _=>rfl,fun _ _ h=>⟨h,rfl⟩,fun t g _=>by
 by_cases ht:t∈ts
 ·have e1:(c.ay ts).E t=c.E t+1:=by simp only [Cx.ay,if_pos ht]
  exact⟨by omega,fun h=>by omega⟩
 ·have e1:(c.ay ts).E t=c.E t:=by simp only [Cx.ay,if_neg ht]
  have e2:(c.ay ts).G t=c.G t:=by simp only [Cx.ay,if_neg ht]
  rw [e1];exact⟨Nat.le_refl _,fun _=>⟨e2,fun _ _ _=>rfl⟩⟩⟩
theorem dE {c:Cx} (gw:GW c) {ts us:List Nat} (hs: ∀t∈us,t∈ts) {b:Nat} (h:c.dj us b):(c.ay ts).ok b:=by
 rcases h with h|⟨t,ht,hb⟩
 ·exact Cx.dv h
 ·have Ba:b∈(c.G t).own:=by simp [GI.own,hb]
  refine⟨fun hm=> ?_, .inr (gw.allow t b Ba)⟩;obtain⟨u,hu,GA⟩:=Cx.gy hm;have:t≠u:=fun hh=>hu (hh▸hs t ht);exact gw.bq t u this b Ba (by simp [GI.own,GA])
def Jk (e:Af) (g:Nat) (x:E):Prop:=(∃ety sz d,e= .row ety sz g x d)∨ ∃ety sz l ep,e= .deep ety sz l g ep x
theorem Jk.ne {e:Af} {g:Nat} {x:E} (h:Jk e g x): ∀hs f,e≠ .gd hs f:=by rcases h with⟨_,_,_,rfl⟩|⟨_,_,_,_,rfl⟩<;>intros<;>simp
theorem Jk.rd {e:Af} {g t:Nat} {x:E} (h:Jk e g x) (k:Cu c t e):c.K t g∧ ∃f,Rd c.w [c.H t g] [x.den c.ρ] f∧ ∀b∈f,b∈(c.G t).top∨c.ok b:=by
 rcases h with⟨_,_,_,rfl⟩|⟨_,_,_,_,rfl⟩
 ·obtain⟨q1,q2,N,q3,q4,_⟩:=k;obtain⟨f,r1,r2,_⟩:=q3.rd;exact⟨q1,f,r1,fun b hb=>(r2 b hb).imp id (q4 b)⟩
 ·obtain⟨q1,q2,_,q3,_⟩:=k;obtain⟨f,r1,r2⟩:=q3.rd;exact⟨q1,f,r1,fun b hb=> .inl (r2 b hb)⟩
theorem Jk.fun {e:Af} {g g':Nat} {x x':E} (h:Jk e g x) (k:Jk e g' x'):g=g'∧x=x':=by rcases h with⟨_,_,_,rfl⟩|⟨_,_,_,_,rfl⟩<;>rcases k with⟨_,_,_,hh⟩|⟨_,_,_,_,hh⟩<;>cases hh<;>exact⟨rfl,rfl⟩
theorem Lt {gs:Gd} {ρ:List AV} (k:AU ρ gs): ∀{ts:List Nat} {l:List (Nat × Af)},CR hp0 gs ts=some l→
  (∀t e,(t,e)∈l→t∈ts∧gs= []∧ ∃g x f,e= .ay g x∧BS ρ (hp0 t) f∧Jk f g x)∧
  (∀t∈ts,(∃g x,(t,Af.ay g x)∈l)∨(∃g x,BS ρ (hp0 t) (.ay g x))∨ ∃ty g cs,BS ρ (hp0 t) (.box ty g cs))
 | [],l,h=>by simp [CR]at h;subst h;simp
 |t::ts,l,h=>by
  unfold CR at h;split at h
  ·rename_i ety sz g x d l' hl Bi;split at h
   ·rename_i hg;simp at h;subst h;obtain⟨h1,h2⟩:=Lt k Bi;refine⟨fun u e hu=> ?_,fun u hu=> ?_⟩
    ·rcases Ae.1 hu with hu|hu
     ·cases hu;exact⟨by simp,by simpa using hg,g,x,_,rfl,Cm hl k, .inl ⟨_,_,_,rfl⟩⟩
     ·obtain⟨p,q,r⟩:=h1 u e hu;exact⟨by simp [p],q,r⟩
    ·rcases Ae.1 hu with rfl|hu
     ·exact .inl ⟨g,x,by simp⟩
     ·rcases h2 u hu with⟨g',x',hh⟩|hh
      ·exact .inl ⟨g',x',by simp [hh]⟩
      ·exact .inr hh
   ·cases h
  ·rename_i ety sz dl g ep x l' hl Bi;split at h
   ·rename_i hg;simp at h;subst h;obtain⟨h1,h2⟩:=Lt k Bi;refine⟨fun u e hu=> ?_,fun u hu=> ?_⟩
    ·rcases Ae.1 hu with hu|hu
     ·cases hu;exact⟨by simp,by simpa using hg,g,x,_,rfl,Cm hl k, .inr ⟨_,_,_,_,rfl⟩⟩
     ·obtain⟨p,q,r⟩:=h1 u e hu;exact⟨by simp [p],q,r⟩
    ·rcases Ae.1 hu with rfl|hu
     ·exact .inl ⟨g,x,by simp⟩
     ·rcases h2 u hu with⟨g',x',hh⟩|hh
      ·exact .inl ⟨g',x',by simp [hh]⟩
      ·exact .inr hh
   ·cases h
  ·rename_i g x l' hl Bi;simp at h;subst h;obtain⟨h1,h2⟩:=Lt k Bi;refine⟨fun u e hu=> ?_,fun u hu=> ?_⟩
   ·obtain⟨p,q,r⟩:=h1 u e hu;exact⟨by simp [p],q,r⟩
   ·rcases Ae.1 hu with rfl|hu
    ·exact .inr (.inl ⟨g,x,Cm hl k⟩)
    ·exact h2 u hu
  ·rename_i ty g cs l' hl Bi;simp at h;subst h;obtain⟨h1,h2⟩:=Lt k Bi;refine⟨fun u e hu=> ?_,fun u hu=> ?_⟩
   ·obtain⟨p,q,r⟩:=h1 u e hu;exact⟨by simp [p],q,r⟩
   ·rcases Ae.1 hu with rfl|hu
    ·exact .inr (.inr ⟨ty,g,cs,Cm hl k⟩)
    ·exact h2 u hu
  ·cases h
theorem Jd {hp:Nat→Option Af}: ∀{l:List (Nat × Af)} {t:Nat},(∀e,(t,e)∉l)→AR hp l t=hp t
 | [],_,_=>rfl
 |(u,e)::l,t,h=>by
  have ht:t≠u:=by rintro rfl;exact h e (by simp)
  have:=Jd (hp:=fun v=>if v=u then some e else hp v) (l:=l) (t:=t) (fun e' DR=>h e' (by simp [DR]));simp only [AR,List.foldl_cons]at this ⊢;rw [this,if_neg ht]
theorem W9 {hp:Nat→Option Af}: ∀{l:List (Nat × Af)} {t:Nat} {e:Af},(t,e)∈l→(∀e',(t,e')∈l→e'=e)→AR hp l t=some e
 | [],_,_,h,_=>by simp at h
 |(u,f)::l,t,e,h,hu=>by
  simp only [AR,List.foldl_cons];by_cases hm: ∃e',(t,e')∈l
  ·obtain⟨e',DR⟩:=hm;have:=hu e' (by simp [DR]);subst this;exact W9 (hp:=fun v=>if v=u then some f else hp v) DR (fun e'' gW=>hu e'' (by simp [gW]))
  ·have hn: ∀e',(t,e')∉l:=fun e' DR=>hm ⟨e',DR⟩;have:=Jd (hp:=fun v=>if v=u then some f else hp v) (l:=l) (t:=t) hn;simp only [AR]at this;rw [this];rcases Ae.1 h with h|h
   ·cases h;simp
   ·exact absurd h (hn e)
theorem Ji (hs: ∀t e,hp0 t=some e→hp t=some e) {ρ:List AV} {t:Nat} {e:Af} (h:BS ρ (hp0 t) e):BS ρ (hp t) e:=by
 cases hh:hp0 t with
 |none=>rw [hh]at h;exact h.elim
 |some e9=>rw [hs t e9 hh];rwa [hh]at h
theorem wQ {ρ:List AV} {o:Option Af} {e f:Af} (h:BS ρ o e) (k:BS ρ o f):e=f:=by
 cases o with
 |none=>exact h.elim
 |some o=>
  cases o with
  |gd gs x=>exact h.2.symm.trans k.2
  |box=>exact h.symm.trans k
  |row=>exact h.symm.trans k
  |ay=>exact h.symm.trans k
  |dead=>exact h.symm.trans k
  |deep=>exact h.symm.trans k
  |hol=>exact h.symm.trans k
theorem Rel.freeze (h:Rel c n sl hp a) (hs: ∀t e,hp0 t=some e→hp t=some e) (k:AU c.ρ gs) {ts:List Nat} {l:List (Nat × Af)} (hf:CR hp0 gs ts=some l):
  Rel (c.ay (l.map (·.1))) n sl (AR hp l) a:=by
 obtain⟨h1,h2⟩:=Lt k hf;have hG: ∀u,(c.ay (l.map (·.1))).G u=if u∈l.map (·.1)then⟨[], []⟩else c.G u:=fun u=>rfl;have HE: ∀t e e',(t,e)∈l→(t,e')∈l→e'=e:=by intro t e e' he DR;obtain⟨_,_,g,x,_,rfl,r,rl⟩:=h1 t e he;obtain⟨_,_,g',x',_,rfl,r',rl'⟩:=h1 t e' DR;have:=wQ r r';subst this;obtain⟨rfl,rfl⟩:=rl.fun rl';rfl
 refine h.change (fun u=>u∈l.map (·.1)) (Cx.iq c _) ⟨h.base.os,h.base.tape,h.base.output,h.base.size,h.base.pins,h.base.block,h.base.pk,h.base.lo⟩ (fun u hu=>⟨Jd (fun e he=>hu (List.mem_map.2 ⟨_,he,rfl⟩)),by rw [hG,if_neg hu],by simp only [Cx.ay,if_neg hu],fun g hg=>hg⟩) (fun u hu b hb=>rfl) (fun u hu=> ?_) ?_ h.a7 (fun u e hu=> ?_)
 ·obtain⟨⟨u',e⟩,he,rfl⟩:=List.mem_map.1 hu;have C3:=W9 (hp:=hp) he (fun e' DR=>HE _ _ _ he DR);obtain⟨_,_,g,x,f0,rfl,r,rl⟩:=h1 u' e he;obtain⟨q1,f,r1,r2⟩:=rl.rd (h.ents u' _ (Ji hs r));have IT:((c.ay (l.map (·.1))).G u').top= []∧((c.ay (l.map (·.1))).G u').O= []:=by rw [hG,if_pos hu];simp
  rw [C3];refine⟨fun e' hr=> ?_,fun _=>IT⟩;have:e'= .ay g x:=hr.symm;subst this;exact⟨q1,⟨f,r1,fun b hb=>by
   refine dE h.gw (ts:=l.map (·.1)) (us:= [u']) (by simpa using hu) ?_;rcases r2 b hb with hb|hb
   ·exact .inr ⟨u',by simp,hb⟩
   ·exact .inl hb⟩,IT.1,IT.2⟩
 ·refine⟨fun u=> ?_,fun u v Vb b hb=> ?_,fun u b hb=> ?_,fun u b hb=> ?_⟩
  ·rw [hG];split
   ·simp [GI.own]
   ·exact h.gw.nodup u
  ·rw [hG]at hb ⊢;split at hb
   ·simp [GI.own]at hb
   ·split
    ·simp [GI.own]
    ·exact h.gw.bq u v Vb b hb
  ·rw [hG]at hb;split at hb
   ·simp [GI.own]at hb
   ·exact h.gw.allow u b hb
  ·rw [hG]at hb;split at hb
   ·simp [GI.own]at hb
   ·exact h.gw.inb u b hb
 ·by_cases hm: ∃e',(u,e')∈l
  ·obtain⟨e',DR⟩:=hm;obtain⟨_,_,g,x,f0,rfl,r,rl⟩:=h1 u e' DR;have r':=Ji hs r;cases hh:hp u with
   |none=>rw [hh]at r';exact r'.elim
   |some e9=>exact h.br u e9 hh
  ·rw [Jd (fun e' DR=>hm ⟨e',DR⟩)]at hu;exact h.br u e hu
theorem qK {ts:List Nat} (h:Kt hp0 gs ts=true) {t:Nat} (ht:t∈ts) {ty:Nat} {g:Bool} {cs:List SV}:Cy hp0 gs t≠some (.box ty g cs):=by intro hl;simp only [Kt,Bool.not_eq_true',List.any_eq_false]at h;have:=h t ht;rw [hl]at this;simp at this
theorem pG {ρ:List AV} (k:AU ρ gs) {ts:List Nat} {l:List (Nat × Af)} (hf:CR hp0 gs ts=some l) {t:Nat} (ht:t∈ts):(∃g x,(t,Af.ay g x)∈l)∨(∃g x,Cy hp0 gs t=some (.ay g x))∨ ∃ty g cs,Cy hp0 gs t=some (.box ty g cs):=by
 induction ts generalizing l with
 |nil=>simp at ht
 |cons u ts ih=>
  unfold CR at hf;split at hf
  ·rename_i ety sz g x d l' hl Bi;split at hf
   ·simp at hf;subst hf;rcases Ae.1 ht with rfl|ht
    ·exact .inl ⟨g,x,by simp⟩
    ·rcases ih Bi ht with⟨g',x',hh⟩|hh
     ·exact .inl ⟨g',x',by simp [hh]⟩
     ·exact .inr hh
   ·cases hf
  ·rename_i ety sz dl g ep x l' hl Bi;split at hf
   ·simp at hf;subst hf;rcases Ae.1 ht with rfl|ht
    ·exact .inl ⟨g,x,by simp⟩
    ·rcases ih Bi ht with⟨g',x',hh⟩|hh
     ·exact .inl ⟨g',x',by simp [hh]⟩
     ·exact .inr hh
   ·cases hf
  ·rename_i g x l' hl Bi;simp at hf;subst hf;rcases Ae.1 ht with rfl|ht
   ·exact .inr (.inl ⟨g,x,hl⟩)
   ·exact ih Bi ht
  ·rename_i ty g cs l' hl Bi;simp at hf;subst hf;rcases Ae.1 ht with rfl|ht
   ·exact .inr (.inr ⟨ty,g,cs,hl⟩)
   ·exact ih Bi ht
  ·cases hf
theorem Pv (h:Rel c n sl hp a) (eh:EH c hp0) (k:AU c.ρ gs) {ts:List Nat} {l:List (Nat × Af)} (hf:CR hp0 gs ts=some l) (hb:Kt hp0 gs ts=true) {b:Nat} (hs:c.dj ts b):(c.ay (l.map (·.1))).ok b:=by
 rcases hs with hs|⟨t,ht,B3⟩
 ·exact Cx.dv hs
 ·rcases pG k hf ht with⟨g,x,hh⟩|⟨g,x,hh⟩|⟨ty,g,cs,hh⟩
  ·exact dE h.gw (us:= [t]) (by simpa using⟨_,hh⟩) (.inr ⟨t,by simp,B3⟩)
  ·obtain⟨_,_,BW,_⟩:=eh t _ (Cm hh k);rw [BW]at B3;simp at B3
  ·exact absurd hh (qK hb ht)
theorem ZH (h:Rel c n sl hp a) (hs: ∀t e,hp0 t=some e→hp t=some e) (k:AU c.ρ gs) {t:TypeId} {s:SV} {v:Value} (hr:SR c [s] [v]) {x:E} {fz:List (Nat × Af)} {d:Bool} {ck:List Cn} (ht:S8 P hp0 gs t s=some (x,fz,d,ck)) (hc: ∀q∈ck,q.den c.ρ):
  ∃f,Rd c.w [v] [x.den c.ρ] f∧(d=true→f= [])∧(∃ts,CR hp0 gs ts=some fz∧ ∀b∈f,(c.ay (fz.map (·.1))).ok b)∧
   (if Ai P t then∃cs,x.den c.ρ= .agg cs∧cs.length=P.cellsOf t else(∀cs,x.den c.ρ≠ .agg cs)∧ ∀cs,x.den c.ρ≠ .tup cs):=by
 have eh:EH c hp0:=fun t e hr=>h.ents t e (Ji hs hr);unfold S8 at ht;split at ht
 ·cases ht
 ·rename_i y hy;obtain⟨f,q1,q2⟩:=Gl eh k AI hy hr AI (Nat.le_refl _);split at ht
  ·simp at ht;obtain⟨rfl,rfl,rfl,rfl⟩:=ht;obtain⟨c1,c2,c3,c4⟩:=Bw hc;have hf:f= []:=by
    cases hg:Ai P t with
    |true=>obtain⟨cs,A2⟩:=c3 hg;obtain⟨as_,rfl,_,r⟩:=H0 q1 A2;exact Gm r (by rw [A2]at c2;exact c2)
    |false=>exact Gm q1 (by simpa using c4 hg)
   subst hf;refine⟨[],q1,fun _=>rfl,⟨[],rfl,by simp⟩, ?_⟩;split
   ·rename_i hg;obtain⟨cs,A2⟩:=c3 hg;exact⟨cs,A2,by rw [A2]at c1;exact c1⟩
   ·rename_i hg;have:=c4 (by simpa using hg);exact⟨fun cs A2=>by rw [A2]at this;simp [AV.scalar]at this,fun cs A2=>by rw [A2]at this;simp [AV.scalar]at this⟩
  ·split at ht
   ·rename_i Hv;split at ht
    ·cases ht
    ·rename_i l hl;simp only [Ac,Prod.mk.injEq]at ht;obtain⟨rfl,rfl,rfl,rfl⟩:=ht;refine⟨f,q1,by simp,⟨_,hl,fun b hb=>Pv h eh k hl Hv (q2 b hb)⟩, ?_⟩;have hq:=Bw hc;unfold gL at hq;split
     ·rename_i hg;rw [if_pos hg]at hq;obtain⟨cs,A2,hl⟩:=hq;exact⟨cs,A2,hl⟩
     ·rename_i hg;rw [if_neg hg]at hq;exact hq
   ·cases ht
end
section
variable {P:Program} {c:Cx} {n nx:Nat} {sl sl0:Nat→SV} {hp hp0:Nat→Option Af} {a:Act} {o:Oper} {gs:Gd} {e:AK} {sg:Bo} {nv:Nat}
theorem Xf (w:World) (t ty el:TypeId) (i:TypeInfo) (z:Value) (ht:P.underlying t=some (.slice el)) (hi:P.info? el=some i) (hz:i.zero=some z) (C4:z.cells.size=i.size) (BA:0<i.size)
  (Own:Nat→Prop) (v:Value) (k:Nat) (old:List Value) (ho:old.length=k*i.size)
  (Bg:(k=0∧ ∃q,v= .slice q 0 0)∨ ∃g cap C,v= .slice (some ⟨g,0,none⟩) k cap∧k≤cap∧cap≤maxLen∧w.heap[g]?=some (.cells C el (0,0))∧C.size=cap*i.size∧old=C.toList.take (k*i.size)∧Own g)
  (q:Option Addr) (m r:Nat) (news:List Value) (hs:Src w i.size q m news) (QJ:k+m≤maxLen) (hb:(k+m)*i.bytes≤140737488355328):
  ∃v' w',(Builtin.append_ #[t,t] ty #[v, .slice q m r]).run P w= .ok v' w'∧
   ((v'=v∧w'=w∧m=0)∨ ∃g cap C,v'= .slice (some ⟨g,0,none⟩) (k+m) cap∧k+m≤cap∧cap≤maxLen∧w'.heap[g]?=some (.cells C el (0,0))∧C.size=cap*i.size∧C.toList.take ((k+m)*i.size)=old++news∧
    w.grownBy w' (some g)∧((g=w.heap.size∧g<w'.heap.size)∨Own g)):=by
 have QZ:news.length=m*i.size:=by
  rcases hs with⟨rfl,rfl,rfl⟩|⟨ad,rfl,h1,_⟩
  ·simp
  ·exact h1
 have hlen:(old++news).length=(k+m)*i.size:=by rw [AB,ho,QZ,Nat.add_mul]
 have grown: ∀(cp:Nat),cp<k+m→ ∀(X:Array Value),X.toList=old++news→ ∃C,C=X++Builtin.zeroCells z.cells (grownCap w (k+m) cp el-(k+m))∧
   k+m≤grownCap w (k+m) cp el∧grownCap w (k+m) cp el≤maxLen∧C.size=grownCap w (k+m) cp el*i.size∧C.toList.take ((k+m)*i.size)=old++news:=by
  intro cp yY X hX;have IV:=grownCap_ge w (k+m) cp el;have IP:=grownCap_le_maxLen w (k+m) cp el QJ;refine⟨_,rfl,IV,IP, ?_, ?_⟩
  ·have iK:X.size=(k+m)*i.size:=by rw [←Array.length_toList,hX,hlen]
   rw [Array.size_append,iK,size_zeroCells,C4,←Nat.add_mul];congr 1;omega
  ·rw [Array.toList_append,hX,←hlen];exact List.take_left
 have newb: ∀C:Array Value,w.grownBy (w.drew.alloc (.cells C el)) (some w.heap.size)∧w.heap.size<(w.drew.alloc (.cells C el)).heap.size∧(w.drew.alloc (.cells C el)).heap[w.heap.size]?=some (.cells C el (0,0)):=
  fun C=>⟨⟨rfl,rfl,rfl,by simp,fun j hj _=>Below.heap_alloc w.drew _ _ hj⟩,by simp,heap_alloc_new w.drew _⟩
 rcases Bg with⟨rfl,p,rfl⟩|⟨g,cap,C,rfl,OE,IP,hg,A2,hold,TL⟩
 ·have hold:old= []:=List.eq_nil_of_length_eq_zero (by simpa using ho);subst hold;by_cases hm:m=0
  ·subst hm;have hn:news= []:=List.eq_nil_of_length_eq_zero (by simpa using QZ);subst hn;refine⟨_,w, ?_, .inl ⟨rfl,rfl,rfl⟩⟩;rcases hs with⟨rfl,_,_⟩|⟨ad,rfl,_⟩<;>cases p<;>
    simp [Builtin.append_,run_underlying ht,sizeOf,typeInfo,hi,Builtin.lenOf,Builtin.firstCells,loadCells,loadCellsFrom,storeCells]
  ·rcases hs with⟨_,rfl,_⟩|⟨ad,rfl,h1,h2,h3⟩
   ·exact absurd rfl hm
   ·obtain⟨C',Md,g1,g2,g3,g4⟩:=grown 0 (by omega) news.toArray (by simp);cases p with
    |none=>have hr:=run_append_nil (P:=P) w t ty el i z ht hi hz ad m r news h1 h2 (by omega) (by simp only [maxLen]at QJ;omega) (by have hb:=hb;simp only [Nat.zero_add]at hb;omega);simp only [Nat.zero_add]at g1 g2 g3 g4 Md ⊢;obtain⟨n1,n2,n3⟩:=newb C';refine⟨_,_,hr, .inr ⟨_,_,C',rfl,g1,g2, ?_,g3,g4, ?_, .inl ⟨rfl, ?_⟩⟩⟩<;>rw [←Md]<;>first|exact n3|exact n1|exact n2
    |some p=>have hr:=run_append_grow (P:=P) w t ty el i z ht hi hz p 0 0 [] (by simp) (by simp) ad m r news h1 h2 (by omega) (by simp only [maxLen]at QJ;omega) (growslice_fits (by omega) hb);rw [show(([]:List Value).toArray++news.toArray)=news.toArray by simp]at hr;simp only [Nat.zero_add]at g1 g2 g3 g4 Md hr ⊢;obtain⟨n1,n2,n3⟩:=newb C';refine⟨_,_,hr, .inr ⟨_,_,C',rfl,g1,g2, ?_,g3,g4, ?_, .inl ⟨rfl, ?_⟩⟩⟩<;>rw [←Md]<;>first|exact n3|exact n1|exact n2
 ·rcases hs with⟨rfl,rfl,rfl⟩|⟨ad,rfl,h1,h2,h3⟩
  ·refine⟨_,w, ?_, .inl ⟨rfl,rfl,rfl⟩⟩;simp [Builtin.append_,run_underlying ht,sizeOf,typeInfo,hi,Builtin.lenOf,Builtin.firstCells,OE,storeCells]
  ·by_cases BV:k+m≤cap
   ·have KN:k*i.size+news.length≤C.size:=by rw [h1,A2,←Nat.add_mul];exact Nat.mul_le_mul_right _ BV
    have hr:=run_append_room (P:=P) w t ty el i ht hi g k cap C hg ad m r news h1 h2 h3 BV KN;refine⟨_,_,hr, .inr ⟨g,cap,_,rfl,BV,IP,setRow_heap w g C _ el _ hg, ?_, ?_,⟨rfl,rfl,rfl,by simp,fun j _ hj=>setRow_other w g j _ (fun hh=>hj (by rw [hh]))⟩, .inr TL⟩⟩
    ·simp only [List.size_toArray,AB,List.length_take,List.length_drop,Array.length_toList];omega
    ·rw [←hold,←hlen];exact List.take_left
   ·have holds: ∀j u,old[j]?=some u→w.cell? ((⟨g,0,none⟩:Addr).add j)=some u:=fun j u hu=>by
     rw [Addr.add_lit,Nat.zero_add,D5 hg];rw [hold,List.getElem?_take]at hu;split at hu
     ·simpa using hu
     ·cases hu
    have hr:=run_append_grow (P:=P) w t ty el i z ht hi hz ⟨g,0,none⟩ k cap old ho holds ad m r news h1 h2 (by omega) (by simp only [maxLen]at QJ;omega) (growslice_fits (by omega) hb);obtain⟨C',Md,g1,g2,g3,g4⟩:=grown cap (by omega) (old.toArray++news.toArray) (by simp);obtain⟨n1,n2,n3⟩:=newb C';refine⟨_,_,hr, .inr ⟨_,_,C',rfl,g1,g2, ?_,g3,g4, ?_, .inl ⟨rfl, ?_⟩⟩⟩<;>rw [←Md]<;>first|exact n3|exact n1|exact n2
def Cx.ak (c:Cx) (t g':Nat) (w':World) (v:Value) (top O:List Nat):Cx:=
 {c with w:=w',G:=fun u=>if u=t then⟨top,O⟩else c.G u,K:=fun u g=>c.K u g∨(u=t∧g=g'),H:=fun u g=>if u=t∧g=g' then v else c.H u g,U:=fun u=>c.U u∨u=t,E:=fun u=>if u=t then c.E u+1 else c.E u}
theorem Rel.ak (h:Rel c n sl hp a) {t g:Nat} (DI:c.A.pin t=none∨g≠0) (AO: ¬c.K t g) {w':World} {row:Option Nat} (hg:c.w.grownBy w' row)
  (DZ: ∀g0,row=some g0→g0∈(c.G t).top∨(g0=c.w.heap.size∧g0<w'.heap.size)) {top O:List Nat} (BW:top= []∨ ∃g0,row=some g0∧top= [g0]) (hO:O= []∨O=(c.G t).O) {v:Value} (e1:Af) (A8: ∀hs f,e1≠ .gd hs f) (k:AU c.ρ gs)
  (he:CU c (c.ak t g w' v top O)→Cu (c.ak t g w' v top O) t e1):Rel (c.ak t g w' v top O) n sl (AR hp [(t,Cg gs e1)]) a:=by
 have hG: ∀u,(c.ak t g w' v top O).G u=if u=t then⟨top,O⟩else c.G u:=fun u=>rfl;have hM: ∀b,(c.ak t g w' v top O).M b→c.M b∨row=some b:=by
  rintro b ⟨u,hu⟩;rw [hG]at hu;split at hu
  ·rcases BW with rfl|⟨g0,hr,rfl⟩
   ·simp at hu
   ·simp at hu;subst hu;exact .inr hr
  ·exact .inl ⟨u,hu⟩
 have Ol: ∀b,b<c.w.heap.size→c.ok b→row≠some b:=by
  intro b hb Au hr;rcases DZ b hr with hh|⟨hh,_⟩
  ·exact Au.1 ⟨t,hh⟩
  ·omega
 have Bp:CU c (c.ak t g w' v top O):=by
  refine⟨rfl,rfl,fun b hb Au=>⟨fun hm=>(hM b hm).elim Au.1 (Ol b hb Au),Au.2⟩,fun b hb Au=>hg.block b hb (fun hh=>Ol b hb Au hh.symm),fun u g1 hu=>⟨.inl hu, ?_⟩,fun u g1 hu=> ?_⟩
  ·simp only [Cx.ak];rw [if_neg];rintro⟨rfl,rfl⟩;exact AO hu
  ·by_cases Fh:u=t
   ·have e1:(c.ak t g w' v top O).E u=c.E u+1:=by simp only [Cx.ak,if_pos Fh]
    exact⟨by omega,fun h=>by omega⟩
   ·have e1:(c.ak t g w' v top O).E u=c.E u:=by simp only [Cx.ak,if_neg Fh]
    have e2:(c.ak t g w' v top O).G u=c.G u:=by simp only [Cx.ak,if_neg Fh]
    rw [e1];refine⟨Nat.le_refl _,fun _=>⟨e2,fun b hb GZ=>hg.block b GZ fun hh=> ?_⟩⟩;rcases DZ b hh.symm with h1|⟨h1,_⟩
    ·exact h.gw.bq u t Fh b (by simp [GI.own,hb]) (by simp [GI.own,h1])
    ·omega
 have C3: ∀u,AR hp [(t,Cg gs e1)] u=if u=t then some (Cg gs e1)else hp u:=fun u=>rfl;have K1: ∀u,u≠t→ ∀b∈(c.G u).own,row≠some b:=by
  intro u hu b hb hr;rcases DZ b hr with hh|⟨hh,_⟩
  ·exact h.gw.bq u t hu b hb (by simp [GI.own,hh])
  ·have:=h.gw.inb u b hb;omega
 have Bl: ∀b∈(⟨top,O⟩:GI).own,row=some b∨b∈(c.G t).own:=by
  intro b hb;simp only [GI.own,Ag]at hb ⊢;rcases hb with hb|hb
  ·rcases BW with rfl|⟨g0,hr,rfl⟩
   ·simp at hb
   ·simp at hb;subst hb;exact .inl hr
  ·rcases hO with rfl|rfl
   ·simp at hb
   ·exact .inr (.inr hb)
 refine h.change (fun u=>u=t) Bp ⟨hg.os.trans h.base.os,hg.tape.trans h.base.tape,hg.output.trans h.base.output,Nat.le_trans h.base.size hg.size,fun u v' hp=>⟨.inl (h.base.pins u v' hp).1,fun hk=> ?_⟩,fun b hb GD=> ?_,h.base.pk,h.base.lo⟩
  (fun u hu=>⟨by rw [C3,if_neg hu],by rw [hG,if_neg hu],by simp [Cx.ak,hu],fun g1 hh=>hh.resolve_right (fun hh=>hu hh.1)⟩) (fun u hu b hb=>hg.block b (h.gw.inb u b (by simp [GI.own,hb])) (fun hh=>K1 u hu b (by simp [GI.own,hb]) hh.symm)) (fun u hu=> ?_) ?_ (fun u g1 hh=> ?_) (fun u f hf=> ?_)
 ·have Fh: ¬(u=t∧0=g):=by
   rintro⟨rfl,rfl⟩;rcases DI with hh|hh
   ·have hp':c.A.pin u=some v':=hp;rw [hh]at hp';cases hp'
   ·exact hh rfl
  have BI:=hk.resolve_right Fh;simp only [Cx.ak];rw [if_neg Fh];exact(h.base.pins u v' hp).2 BI
 ·refine(hg.block b (Nat.lt_of_lt_of_le hb h.base.size) (fun hh=> ?_)).trans (h.base.block b hb GD);rcases DZ b hh.symm with hh|⟨hh,_⟩
  ·rcases h.gw.allow t b (by simp [GI.own,hh])with h1|h1
   ·exact absurd h1 (Nat.not_le.2 hb)
   ·exact GD h1
  ·have:=h.base.size;have h9:b<c.w0.heap.size:=hb;omega
 ·subst hu;rw [C3,if_pos rfl];exact⟨fun e' hr=>by rw [(MY k A8).1 hr];exact he Bp,fun hn=>absurd ((MY k A8).2 rfl) (hn e1)⟩
 ·have BF:(⟨top,O⟩:GI).own.Nodup:=by
   have h0:=h.gw.nodup t;simp only [GI.own]at h0 ⊢;rw [List.nodup_append]at h0 ⊢;refine⟨by rcases BW with rfl|⟨g0,hr,rfl⟩<;>simp,by rcases hO with rfl|rfl;simp;exact h0.2.1,fun p hp q hq=> ?_⟩;rcases BW with rfl|⟨g0,hr,rfl⟩
   ·simp at hp
   ·simp at hp;subst hp;rcases hO with rfl|rfl
    ·simp at hq
    ·rcases DZ p hr with hh|⟨hh,_⟩
     ·exact h0.2.2 p hh q hq
     ·have:=h.gw.inb t q (by simp [GI.own,hq]);omega
  refine⟨fun u=> ?_,fun u u' I6 b hb=> ?_,fun u b hb=> ?_,fun u b hb=> ?_⟩
  ·rw [hG];split
   ·exact BF
   ·exact h.gw.nodup u
  ·rw [hG]at hb ⊢;by_cases h1:u=t
   ·rw [if_pos h1]at hb;rw [if_neg (fun hh=>I6 (h1.trans hh.symm))];rcases Bl b hb with hr|hb
    ·exact fun hh=>K1 u' (fun h2=>I6 (h1.trans h2.symm)) b hh hr
    ·exact h.gw.bq t u' (fun hh=>I6 (h1.trans hh)) b hb
   ·rw [if_neg h1]at hb;by_cases h2:u'=t
    ·rw [if_pos h2];intro Bx;rcases Bl b Bx with hr|Bx
     ·exact K1 u h1 b hb hr
     ·exact h.gw.bq u t h1 b hb Bx
    ·rw [if_neg h2];exact h.gw.bq u u' I6 b hb
  ·rw [hG]at hb;split at hb
   ·rcases Bl b hb with hr|hb
    ·rcases DZ b hr with hh|⟨hh,_⟩
     ·exact h.gw.allow t b (by simp [GI.own,hh])
     ·exact .inl (by rw [hh];exact h.base.size)
    ·exact h.gw.allow t b hb
   ·exact h.gw.allow u b hb
  ·rw [hG]at hb;show b<w'.heap.size;split at hb
   ·rcases Bl b hb with hr|hb
    ·rcases DZ b hr with hh|⟨_,hh⟩
     ·exact Nat.lt_of_lt_of_le (h.gw.inb t b (by simp [GI.own,hh])) hg.size
     ·exact hh
    ·exact Nat.lt_of_lt_of_le (h.gw.inb t b hb) hg.size
   ·exact Nat.lt_of_lt_of_le (h.gw.inb u b hb) hg.size
 ·rcases hh with hh|⟨rfl,_⟩
  ·exact .inl (h.a7 u g1 hh)
  ·exact .inr rfl
 ·rw [C3]at hf;split at hf
  ·rename_i hu;exact .inr hu
  ·exact .inl (h.br u f hf)
theorem eW {w:World} {v:Value} {ys:List AV} {f:List Nat} {sz:Nat} (h:Rd w [v] [.sl ys] f) (hs: ∀y∈ys,y.cells.length=sz):
  ∃q r news N,v= .slice q ys.length r∧Src w sz q ys.length news∧Rd w news (Ay ys) N∧(∀b∈N,b∈f)∧news.length=ys.length*sz∧(∀u∈news,u.oneCell'=true):=by
 rcases h.kind with hh|hh|hh|hh|hh|hh|hh|hh|hh|hh
 ·obtain⟨_,_,_,hh,_⟩:=hh;cases hh
 ·obtain⟨_,_,hh,_⟩:=hh;cases hh
 ·obtain⟨_,_,hh,_⟩:=hh;cases hh
 ·obtain⟨p,r,rfl,hh,rfl⟩:=hh;cases hh;refine⟨p,r, [], [],rfl, ?_, .nil,by simp,by simp,by simp⟩;cases p with
  |none=>exact .inl ⟨rfl,rfl,rfl⟩
  |some p=>exact .inr ⟨p,rfl,by simp,by simp,by simp⟩
 ·obtain⟨b,off,m,r,ys',cs,C,t,fz,sz',f1,rfl,hh,rfl,hb,h1,h2,h3,h4,h5,h6,F4,h7⟩:=hh;cases hh;subst h3;have E5:sz'=sz:=by
   cases ys with
   |nil=>simp at h1
   |cons y ys=>rw [←h4 y (by simp),hs y (by simp)]
  subst E5;have hl:=h7.len;rw [Kj ys h4]at hl;exact⟨_,r,cs,f1,rfl, .inr ⟨_,rfl,hl,fun j u hu=>by rw [Addr.add_lit,D5 hb];exact h6 j u hu,F4⟩,h7,fun q hq=>by simp [hq],hl,F4⟩
 ·obtain⟨_,_,_,hh,_⟩:=hh;cases hh
 ·obtain⟨_,_,_,hh,_⟩:=hh;cases hh
 ·obtain⟨_,_,_,_,_,_,_,hh,_⟩:=hh;cases hh
 ·obtain⟨_,_,_,_,hh,_⟩:=hh;cases hh
 ·obtain⟨_,hh,_⟩:=hh;cases hh
end
section
variable {P:Program} {c:Cx} {n nx:Nat} {sl sl0:Nat→SV} {hp hp0:Nat→Option Af} {a:Act} {o:Oper} {gs:Gd} {e:AK} {sg:Bo} {nv:Nat}
theorem LJ (hp:Nat→Option Af) (l m:List (Nat × Af)):AR hp (l++m)=AR (AR hp l) m:=by simp [AR,List.foldl_append]
theorem o7 (h:Rel c n sl hp a) (hs: ∀t e,hp0 t=some e→hp t=some e) (k:AU c.ρ gs) {el:TypeId} {s:SV} {v:Value} (hr:SR c [s] [v]) {y:E} (hy:A0 hp0 gs AI s=some y) {fz:List (Nat × Af)} {d:Bool} {ck:Cn} (ht:Qb P hp0 gs el s y=some (fz,d,ck)) (hc:ck.den c.ρ):
  ∃ts ys q r news N,CR hp0 gs ts=some fz∧y.den c.ρ= .sl ys∧(∀z∈ys,z.cells.length=P.cellsOf el)∧v= .slice q ys.length r∧Src c.w (P.cellsOf el) q ys.length news∧Rd c.w news (Ay ys) N∧(∀b∈N,(c.ay (fz.map (·.1))).ok b)∧(d=true→N= [])∧news.length=ys.length*P.cellsOf el∧ ∀u∈news,u.oneCell'=true:=by
 have eh:EH c hp0:=fun t e hr=>h.ents t e (Ji hs hr);obtain⟨f,q1,q2⟩:=Gl eh k AI hy hr AI (Nat.le_refl _);unfold Qb at ht;split at ht
 ·simp only [Ac,Prod.mk.injEq]at ht;obtain⟨rfl,rfl,rfl⟩:=ht;obtain⟨ys,CH,Aw⟩:=hc;rw [CH]at q1;obtain⟨q,r,news,N,hv,g1,g2,g3,g4,g5⟩:=eW q1 (fun z hz=>(Aw z hz).1);have hN:N= []:=Gm g2 (fun x hx=>by
   obtain⟨z,hz,hx⟩:=List.mem_flatMap.1 hx;exact(Aw z hz).2 x hx)
  exact⟨[],ys,q,r,news,N,rfl,CH,fun z hz=>(Aw z hz).1,hv,g1,g2,by simp [hN],fun _=>hN,g4,g5⟩
 ·split at ht
  ·rename_i Hv;obtain⟨l,hl,ht⟩:=Ak.1 ht;simp only [Prod.mk.injEq]at ht;obtain⟨rfl,rfl,rfl⟩:=ht;obtain⟨ys,CH,Aw⟩:=hc;rw [CH]at q1;obtain⟨q,r,news,N,hv,g1,g2,g3,g4,g5⟩:=eW q1 Aw;exact⟨_,ys,q,r,news,N,hl,CH,Aw,hv,g1,g2,fun b hb=>Pv h eh k hl Hv (q2 b (g3 b hb)),by simp,g4,g5⟩
  ·cases ht
theorem I9 {el:TypeId} (h:GO P el=true): ∃i z,P.info? el=some i∧i.zero=some z∧z.cells.size=i.size∧0<i.size∧P.cellsOf el=i.size∧P.bytesOf el=i.bytes:=by
 unfold GO at h;cases hi:P.info? el with
 |none=>simp [hi]at h
 |some i=>
  cases hz:i.zero with
  |none=>simp [hi,hz]at h
  |some z=>simp only [hi,hz,Ad,beq_iff_eq,bne_iff_ne]at h;exact⟨i,z,rfl,hz,h.1,by omega,by simp [Program.cellsOf,hi],by simp [Program.bytesOf,hi]⟩
theorem VI (xs ys:List AV):Ay (xs++ys)=Ay xs++Ay ys:=by simp [Ay]
theorem VQ (h:A1 P c n nx sl hp a sl0 hp0 o gs) {x y:Operand} {tx:TypeId} {cl:Call} (ho:o.op= .call cl) (Aw:cl.callee= .builtin .append) (Cz:cl.args.toList= [x,y]) (Dz:cl.argTypes.toList= [tx,tx])
  {el:TypeId} (A7:P.underlying tx=some (.slice el)) (hz:GO P el=true) {s2:SV} {ye:E} (AL:Bk sl0 gs y=some s2) (hy:A0 hp0 gs AI s2=some ye) {fz:List (Nat × Af)} {d:Bool} {ck:Cn} (BK:Qb P hp0 gs el s2 ye=some (fz,d,ck)) (IN:ck.den c.ρ)
  {t g:Nat} (DI:c.A.pin t=none∨g≠0) {c0:E} {d':Bool} (BV:Cn.den c.ρ (.room c0 ye (P.bytesOf el))) (D0: ∀f,(t,f)∉fz) (AO: ¬c.K t g)
  {top N0:List Nat} {v:Value} (hv:a.eval x=v) (Bg:Co c.w el (P.cellsOf el) v (c0.den c.ρ) top N0) (BW:(c.G t).top=top) (KE: ∀b∈N0,c.ok b) (T5:d'=true→NM c.w N0∧(c.G t).O=N0) (IW: ∀g',c.K t g'→g'≤g) (hU: ∀u,u=t→c.U u∨(nx≤u∧u<nx+Bf)) {ckl:List Cn}:
  Ar P o c n nx sl hp gs a {bc:=ckl,val:= .own t g,aw:=fz++ [(t,Cg gs (.row el (P.cellsOf el) g (.app c0 ye) (d&&d')))]}:=by
 have Ao:cl.args= #[x,y]:=by apply Array.ext';simp [Cz]
 have FM:cl.argTypes= #[tx,tx]:=by apply Array.ext';simp [Dz]
 have CZ:y∈o.op.operands:=by simp [ho,Op.operands,Call.operands,Aw,Ao]
 obtain⟨i,z,hi,ES,C4,BA,BX,Ff⟩:=I9 hz;obtain⟨ts,ys,q,r,news,N,F5,CH,Lh,CM,Eu,Hw,EO,iU,QZ,UK⟩:=o7 h.rel h.hp h.gs (h.bz AL CZ) hy BK IN;have Cw:=h.rel.freeze h.hp h.gs F5;obtain⟨xs,B9,GG,_,AW⟩:=Bg;obtain⟨mm,kk,Ga,Da,ON,U0⟩:=BV;rw [B9]at Ga;rw [CH]at Da;simp only [AV.len,AV.int.injEq,true_and]at Ga Da;have Gy:(xs.length+ys.length)*i.bytes≤140737488355328:=by
  rw [←Ga,←Da,Ff]at ON;have h9:(((xs.length+ys.length)*i.bytes:Nat):Int)≤140737488355328:=by rw [Int.natCast_mul,Int.natCast_add];exact ON
  omega
 have GZ:xs.length+ys.length≤140737488355328:=by rw [←Ga,←Da]at U0;omega
 rw [BX]at Eu QZ GG Lh AW;obtain⟨old,hold,Gc,CL,Ck⟩: ∃old,old.length=xs.length*i.size∧((xs.length=0∧ ∃q,v= .slice q 0 0)∨ ∃g cap C,v= .slice (some ⟨g,0,none⟩) xs.length cap∧xs.length≤cap∧cap≤maxLen∧c.w.heap[g]?=some (.cells C el (0,0))∧C.size=cap*i.size∧old=C.toList.take (xs.length*i.size)∧g∈(c.G t).top)∧Rd c.w old (Ay xs) N0∧ ∀u∈old,u.oneCell'=true:=by
  rcases AW with⟨rfl,⟨p,rfl⟩,rfl,rfl⟩|⟨g9,cap,C,rfl,h6,h7,h8,h9,rfl,EG,EN⟩
  ·exact⟨[],by simp, .inl ⟨rfl,p,rfl⟩, .nil,by simp⟩
  ·refine⟨_, ?_, .inr ⟨g9,cap,C,rfl,h6,h7,h8,h9,rfl,by rw [BW];simp⟩,EN,EG⟩;have e9:C.toList.length=cap*i.size:=by rw [←h9];simp
   rw [List.length_take,e9];exact Nat.min_eq_left (Nat.mul_le_mul_right _ h6)
 obtain⟨v',w',AH,AG⟩:=Xf (P:=P) c.w tx o.type el i z A7 hi ES C4 BA (fun g9=>g9∈(c.G t).top) v xs.length old hold Gc q ys.length r news Eu (by simp only [maxLen];omega) Gy;have Ef:(execOp a.eval o).run P c.w= .ok (.value v') w':=by simp [execOp,ho,resolve,Aw,Ao,FM,invoke,builtin,hv,CM,AH]
 intro next Q hk
 unfold Oper.wp;rw [Ef,Oper.upon_value];have iQ:(c.ay (fz.map (·.1))).w=c.w:=rfl;have Yb:(c.ay (fz.map (·.1))).G t=c.G t:=by simp only [Cx.ay];rw [if_neg];rintro hh;obtain⟨⟨u,f⟩,hf,rfl⟩:=List.mem_map.1 hh;exact D0 f hf
 obtain⟨row,top',On,DZ,OX,Ba,B7⟩: ∃row top',c.w.grownBy w' row∧(∀g0,row=some g0→g0∈(c.G t).top∨(g0=c.w.heap.size∧g0<w'.heap.size))∧(top'= []∨ ∃g0,row=some g0∧top'= [g0])∧
   (CU (c.ay (fz.map (·.1))) ((c.ay (fz.map (·.1))).ak t g w' v' top' (if(d&&d')=true then(c.G t).O else []))→ ∃N',Co w' el (P.cellsOf el) v' (.sl (xs++ys)) top' N'∧(∀b∈N',b∈N0∨b∈N)∧((d&&d')=true→N'=N0))∧ ∃p m r,v'= .slice p m r:=by
  rcases AG with⟨rfl,rfl,Di⟩|⟨g9,cap,C,rfl,h1,h2,h3,h4,h5,h6,h7⟩
  ·have G6:ys= []:=List.eq_nil_of_length_eq_zero Di;subst G6;refine⟨if top= []then none else top.head?,top,⟨rfl,rfl,rfl,Nat.le_refl _,fun _ _ _=>rfl⟩,fun g0 DZ=> .inl ?_, ?_,fun _=>⟨N0, ?_,fun b hb=> .inl hb,fun _=>rfl⟩, ?_⟩
   ·rw [BW];split at DZ
    ·cases DZ
    ·exact List.mem_of_mem_head? DZ
   ·rcases AW with⟨_,_,rfl,_⟩|⟨g9,_,_,_,_,_,_,_,rfl,_⟩
    ·exact .inl rfl
    ·exact .inr ⟨g9,by simp,rfl⟩
   ·rw [BX];exact⟨xs,by simp,GG,BA,AW⟩
   ·rcases Gc with⟨_,p,rfl⟩|⟨g9,cap,C,rfl,_⟩
    ·exact⟨_,_,_,rfl⟩
    ·exact⟨_,_,_,rfl⟩
  ·refine⟨some g9, [g9],h6,fun g0 DZ=> ?_, .inr ⟨g9,rfl,rfl⟩,fun Fg=>⟨N0++N,⟨xs++ys,rfl,fun z hz=> ?_,by rw [BX];exact BA, .inr ⟨g9,cap,C,by simp,by simpa using h1,h2,h3,by rw [BX];exact h4,rfl, ?_, ?_⟩⟩,fun b hb=>Ag.1 hb,fun DQ=> ?_⟩,_,_,_,rfl⟩
   ·cases DZ;exact h7.symm
   ·rcases Ag.1 hz with hz|hz
    ·rw [BX];exact GG z hz
    ·rw [BX];exact Lh z hz
   ·rw [BX];simp only [AB];rw [h5];intro u hu;rcases Ag.1 hu with hu|hu
    ·exact Ck u hu
    ·exact UK u hu
   ·rw [BX];simp only [AB];rw [h5,VI];refine Rd.app (CL.frame fun b hb=> ?_) (Hw.frame fun b hb=> ?_)
    ·have Gy:=CL.inb b hb;exact Fg.mem b Gy (Cx.dv (KE b hb))
    ·have Gy:=Hw.inb b hb;exact Fg.mem b Gy (EO b hb)
   ·simp only [Ad]at DQ;rw [iU DQ.1];simp
 obtain⟨p9,m9,r9,Lf⟩:=B7;have CY:=Cw.ak (gs:=gs) (t:=t) (g:=g) (w':=w') (row:=row) (top:=top') (O:=if(d&&d')=true then(c.G t).O else []) (v:=v') DI AO On (by rw [Yb];exact DZ) OX (by split;exact .inr (by rw [Yb]);exact .inl rfl)
  (.row el (P.cellsOf el) g (.app c0 ye) (d&&d')) (by intros;simp) h.gs (fun Fg=>by
   obtain⟨N',o1,o2,o3⟩:=Ba Fg;have Au: ∀b∈N',((c.ay (fz.map (·.1))).ak t g w' v' top' (if(d&&d')=true then(c.G t).O else [])).ok b:=by
    intro b hb;rcases o2 b hb with hb|hb
    ·exact Fg.ok b (CL.inb b hb) (Cx.dv (KE b hb))
    ·exact Fg.ok b (Hw.inb b hb) (EO b hb)
   refine⟨.inr ⟨rfl,rfl⟩,fun g' BY=> ?_,N', ?_,Au,fun DQ=> ?_,fun DQ=> ?_⟩
   ·rcases BY with BY|⟨_,rfl⟩
    ·exact IW g' BY
    ·exact Nat.le_refl _
   ·have e1:((c.ay (fz.map (·.1))).ak t g w' v' top' (if(d&&d')=true then(c.G t).O else [])).H t g=v':=by simp [Cx.ak]
    have e2:(((c.ay (fz.map (·.1))).ak t g w' v' top' (if(d&&d')=true then(c.G t).O else [])).G t).top=top':=by simp [Cx.ak]
    rw [e1,e2];show Co w' el (P.cellsOf el) v' (AV.app (c0.den c.ρ) (ye.den c.ρ)) top' N';rw [B9,CH];exact o1
   ·have TG:=o3 DQ;have T6:d'=true:=by simp only [Ad]at DQ;exact DQ.2
    obtain⟨u1,u2⟩:=T5 T6;subst TG;refine⟨u1.frame fun b hb=>Fg.mem b (CL.inb b hb) (Cx.dv (KE b hb)), ?_⟩;simp only [Cx.ak,if_true,DQ];exact u2
   ·simp [Cx.ak,DQ])
 have TP:SR ((c.ay (fz.map (·.1))).ak t g w' v' top' (if(d&&d')=true then(c.G t).O else [])) [.own t g] [v']:=by rw [Lf];exact .own (.inr ⟨rfl,rfl⟩) (by simp [Cx.ak]) .nil
 refine hk _ ((c.ay (fz.map (·.1))).ak t g w' v' top' (if(d&&d')=true then(c.G t).O else [])) ⟨rfl,rfl,rfl,rfl,fun u hu=> ?_⟩ ?_
 ·rcases hu with hu|rfl
  ·exact .inl hu
  ·exact hU u rfl
 ·have:=CY.put (TP.mkGd gs h.gs) o.dst;rw [LJ];exact this
end
section
variable {P:Program} {c:Cx} {n nx:Nat} {sl sl0:Nat→SV} {hp hp0:Nat→Option Af} {a:Act} {o:Oper} {gs:Gd} {e:AK} {sg:Bo} {nv:Nat}
theorem Ik {t el:TypeId} (h:Cc P t=some el):P.underlying t=some (.slice el):=by
 unfold Cc at h;split at h
 ·simp at h;subst h;assumption
 ·cases h
theorem n6 {ts:List Nat} {l:List (Nat × Af)} (k:AU c.ρ gs) (h:CR hp0 gs ts=some l): ∀t f,(t,f)∈l→ ∃g x f',BS c.ρ (hp0 t) f'∧Jk f' g x:=by intro t f hf;obtain⟨_,_,g,x,f',_,r⟩:=(Lt k h).1 t f hf;exact⟨g,x,f',r⟩
theorem oU (h:A1 P c n nx sl hp a sl0 hp0 o gs) {x y:Operand} {tx ty:TypeId} {cl:Call} (ho:o.op= .call cl) (Aw:cl.callee= .builtin .append) (Cz:cl.args.toList= [x,y]) (Dz:cl.argTypes.toList= [tx,ty])
  {s1 s2:SV} (Bj:Bk sl0 gs x=some s1) (AL:Bk sl0 gs y=some s2) (he:WB P hp0 gs nx tx ty s1 s2=some e) (hc: ∀q∈e.bc,Cn.den c.ρ q):Ar P o c n nx sl hp gs a e:=by
 have Ao:cl.args= #[x,y]:=by apply Array.ext';simp [Cz]
 have Dj:x∈o.op.operands:=by simp [ho,Op.operands,Call.operands,Aw,Ao]
 unfold WB at he;split at he
 ·cases he
 rename_i Lb;have Lb:tx=ty:=by simpa using Lb
 subst Lb;split at he
 ·rename_i el A7;have A7:=Ik A7;split at he
  ·cases he
  rename_i hz;have hz:GO P el=true:=by simpa using hz
  split at he
  ·cases he
  rename_i ye hy;split at he
  ·cases he
  rename_i fz d ck BK;obtain⟨ts,F5⟩: ∃ts,CR hp0 gs ts=some fz:=by
   unfold Qb at BK;split at BK
   ·simp only [Ac,Prod.mk.injEq]at BK;obtain⟨rfl,_⟩:=BK;exact⟨[],rfl⟩
   ·split at BK
    ·obtain⟨l,hl,BK⟩:=Ak.1 BK;simp only [Prod.mk.injEq]at BK;obtain⟨rfl,_⟩:=BK;exact⟨_,hl⟩
    ·cases BK
  have r1:=h.bz Bj Dj;have fresh: ∀f,(nx,f)∉fz:=fun f hf=>by
   obtain⟨_,_,_,r,_⟩:=n6 (c:=c) h.gs F5 nx f hf;have r:=Ji h.hp r;cases hh:hp nx with
   |none=>rw [hh]at r;exact r.elim
   |some e9=>exact LL h (h.rel.br nx e9 hh)
  have hK: ∀g,¬c.K nx g:=fun g hg=>LL h (h.rel.a7 _ _ hg);have E3:=h.rel.off nx (fun e9 hr=>by
   cases hh:hp nx with
   |none=>rw [hh]at hr;exact hr.elim
   |some e8=>exact LL h (h.rel.br nx e8 hh))
  have Q1:c.A.pin nx=none:=by
   cases hh:c.A.pin nx with
   |none=>rfl
   |some v=>exact absurd (h.rel.base.pins nx v hh).1 (LL h)
  have Yg: ∀u,u=nx→c.U u∨(nx≤u∧u<nx+Bf):=fun u hu=> .inr ⟨by omega,by rw [hu];simp [Bf]⟩;have YG:P.cellsOf el≠0:=by obtain⟨i,_,_,_,_,h1,h2,_⟩:=I9 hz;omega
  split at he
  ·rename_i t g;split at he
   ·rename_i e' sz' g' c0 d' hl;split at he
    ·rename_i hh;obtain⟨rfl,rfl,rfl,rfl,D0⟩:=hh;simp only [Ac]at he;subst he;have Ed:=Cm hl h.gs;obtain⟨q1,q2,N,q3,q4,q5,q6⟩:=h.eh t _ Ed;generalize hv:a.eval x=v at r1;cases r1 with
     |own k1 k2 _=>
      have:=VQ (nx:=nx) h ho Aw Cz Dz A7 hz AL hy BK (hc _ (by simp)) (t:=t) (g:=g+1) (.inr (by omega)) (c0:=c0) (d':=d') (hc _ (by simp)) (fun f hf=>by simp only [Bool.not_eq_true',List.contains_eq_mem,decide_eq_false_iff_not]at D0;exact D0 (List.mem_map.2 ⟨_,hf,rfl⟩)) (fun hh=>by have:=q2 _ hh;omega) hv (by rw [←k2];exact q3) rfl q4 q5 (fun g' BY=>by have:=q2 _ BY;omega) (fun u hu=> .inl (by rw [hu];exact h.rel.a7 t g q1)) (ckl:= [.room c0 ye (P.bytesOf el),ck])
      exact this
    ·cases he
   ·cases he
  ·simp only [Ac]at he;subst he;generalize hv:a.eval x=v at r1;cases r1 with
   |emp _=>have:=VQ (nx:=nx) h ho Aw Cz Dz A7 hz AL hy BK (hc _ (by simp)) (t:=nx) (g:=0) (.inl Q1) (c0:= .lst .nil) (d':=true) (top:= []) (N0:= []) (hc _ (by simp)) fresh (hK 0) hv ⟨[],rfl,by simp,by omega, .inl ⟨rfl,⟨_,rfl⟩,rfl,rfl⟩⟩ E3.1 (by simp) (fun _=>⟨rfl,E3.2⟩) (fun g' BY=>absurd BY (hK g')) Yg (ckl:= [.room (.lst .nil) ye (P.bytesOf el),ck]);rw [Bool.and_true]at this;exact this
  ·simp only [Ac]at he;subst he;generalize hv:a.eval x=v at r1;cases r1 with
   |bb _=>have:=VQ (nx:=nx) h ho Aw Cz Dz A7 hz AL hy BK (hc _ (by simp)) (t:=nx) (g:=0) (.inl Q1) (c0:= .lst .nil) (d':=true) (top:= []) (N0:= []) (hc _ (by simp)) fresh (hK 0) hv ⟨[],rfl,by simp,by omega, .inl ⟨rfl,⟨_,rfl⟩,rfl,rfl⟩⟩ E3.1 (by simp) (fun _=>⟨rfl,E3.2⟩) (fun g' BY=>absurd BY (hK g')) Yg (ckl:= [.room (.lst .nil) ye (P.bytesOf el),ck]);rw [Bool.and_true]at this;exact this
  ·cases he
 ·cases he
end
section
variable {P:Program} {c:Cx} {n nx:Nat} {sl sl0:Nat→SV} {hp hp0:Nat→Option Af} {a:Act} {o:Oper} {gs:Gd} {e:AK} {sg:Bo} {nv:Nat}
theorem Pq: ∀{ts us:List Nat} {l m:List (Nat × Af)},CR hp0 gs ts=some l→CR hp0 gs us=some m→CR hp0 gs (ts++us)=some (l++m)
 | [],us,l,m,h,k=>by simp [CR]at h;subst h;simpa using k
 |t::ts,us,l,m,h,k=>by
  unfold CR at h;simp only [List.cons_append];unfold CR;split at h
  ·rename_i ety sz g x d l' hl Bi;have ih:=Pq Bi k;split at h
   ·rename_i hg;simp at h;subst h;simp [hl,ih,hg]
   ·cases h
  ·rename_i ety sz dl g ep x l' hl Bi;have ih:=Pq Bi k;split at h
   ·rename_i hg;simp at h;subst h;simp [hl,ih,hg]
   ·cases h
  ·rename_i g x l' hl Bi;have ih:=Pq Bi k;simp at h;subst h;simp [hl,ih]
  ·rename_i ty g cs l' hl Bi;have ih:=Pq Bi k;simp at h;subst h;simp [hl,ih]
  ·cases h
theorem ZX {ts us:List Nat} (hs: ∀t∈ts,t∈us) {b:Nat} (h:(c.ay ts).ok b):(c.ay us).ok b:=by refine⟨fun hm=>h.1 ?_,h.2⟩;obtain⟨u,hu,hb⟩:=Cx.gy hm;exact⟨u,by simp only [Cx.ay];rw [if_neg (fun hh=>hu (hs u hh))];exact hb⟩
theorem Wy {w:World} {v:Value} {x:AV} {f:List Nat} {t:TypeId} (h:Rd w [v] [x] f) (hg:Ai P t=true∨P.cellsOf t=1) (hx:if Ai P t then∃cs,x= .agg cs∧cs.length=P.cellsOf t else(∀cs,x≠ .agg cs)∧ ∀cs,x≠ .tup cs):
  Rd w v.cells.toList x.cells f∧(∀u∈v.cells.toList,u.oneCell'=true)∧x.cells.length=P.cellsOf t∧v.cells.size=P.cellsOf t:=by
 split at hx
 ·obtain⟨cs,rfl,hl⟩:=hx;obtain⟨as_,rfl,h1,h2⟩:=H0 h rfl;have:=h2.len;exact⟨by simpa [Value.cells,AV.cells]using h2,by simpa [Value.cells]using h1,hl,by simp [Value.cells];omega⟩
 ·rename_i jS;have h1:P.cellsOf t=1:=by rcases hg with h'|h';exact absurd h' jS;exact h'
  have Ck:=VZ h hx.1 hx.2;have GG:x.cells= [x]:=by cases x<;>first|rfl|exact absurd rfl (hx.1 _)
  rw [one_cells Ck,GG];exact⟨by simpa using h,by simpa using Ck,by simp [h1],by simp [h1]⟩
theorem Zu (h:Rel c n sl hp a) (hs: ∀t e,hp0 t=some e→hp t=some e) (k:AU c.ρ gs) {t:TypeId} (hg:Ai P t=true∨P.cellsOf t=1): ∀(ss:List SV) (vs:List Value) {xs:List E} {fz:List (Nat × Af)} {d:Bool} {ck:List Cn},SR c ss vs→P4 P hp0 gs t ss=some (xs,fz,d,ck)→(∀q∈ck,q.den c.ρ)→
  ∃N,Rd c.w (vs.flatMap fun v=>v.cells.toList) (Ay (xs.map (E.den c.ρ))) N∧(d=true→N= [])∧(∃ts,CR hp0 gs ts=some fz)∧(∀b∈N,(c.ay (fz.map (·.1))).ok b)∧(∀v∈vs,v.cells.size=P.cellsOf t∧ ∀u∈v.cells.toList,u.oneCell'=true)∧(∀x∈xs,(x.den c.ρ).cells.length=P.cellsOf t)∧xs.length=vs.length
 | [],vs,xs,fz,d,ck,hr,ht,hc=>by simp [P4]at ht;obtain⟨rfl,rfl,rfl,rfl⟩:=ht;cases hr;exact⟨[],by simpa [Ay]using Rd.nil,fun _=>rfl,⟨[],rfl⟩,by simp,by simp,by simp,rfl⟩
 |s::ss, [],xs,fz,d,ck,hr,ht,hc=>by have:=hr.len;simp at this
 |s::ss,v::vs,xs,fz,d,ck,hr,ht,hc=>by
  obtain⟨r1,r2⟩:=hr.bd;unfold P4 at ht;split at ht
  ·rename_i x fz1 d1 ck1 xs2 fz2 d2 ck2 h1 h2;simp only [Ac,Prod.mk.injEq]at ht;obtain⟨rfl,rfl,rfl,rfl⟩:=ht;obtain⟨f,q1,q2,⟨ts1,q3,q4⟩,q5⟩:=ZH h hs k r1 h1 (fun q hq=>hc q (by simp [hq]));obtain⟨N,p1,p2,⟨ts2,p3⟩,p4,p5,p6,p7⟩:=Zu h hs k hg ss vs r2 h2 (fun q hq=>hc q (by simp [hq]));obtain⟨o1,o2,o3,o4⟩:=Wy (P:=P) q1 hg q5;refine⟨f++N, ?_,fun hd=> ?_,⟨_,Pq q3 p3⟩,fun b hb=> ?_, ?_, ?_,by simp [p7]⟩
   ·simpa [Ay]using o1.app p1
   ·simp only [Ad]at hd;rw [q2 hd.1,p2 hd.2];rfl
   ·rcases Ag.1 hb with hb|hb
    ·exact ZX (fun t ht=>by simp only [List.map_append,Ag];exact .inl ht) (q4 b hb)
    ·exact ZX (fun t ht=>by simp only [List.map_append,Ag];exact .inr ht) (p4 b hb)
   ·intro u hu;rcases Ae.1 hu with rfl|hu
    ·exact⟨o4,o2⟩
    ·exact p5 u hu
   ·intro u hu;rcases Ae.1 hu with rfl|hu
    ·exact o3
    ·exact p6 u hu
  ·cases ht
theorem Wi {sz:Nat} (place:Nat→Option (Nat × Nat)) (K7: ∀i,place i=some (i*sz,sz)): ∀(vs:List Value) (k:Nat) (C:Array Value) (pre suf:List Value),C.toList=pre++suf→pre.length=k*sz→suf.length=vs.length*sz→(∀v∈vs,v.cells.size=sz)→
  ∃C',Instr.fill place C ((vs.zipIdx k).map fun p=>(p.2,p.1))=some C'∧C'.toList=pre++vs.flatMap fun v=>v.cells.toList
 | [],k,C,pre,suf,h,_,h2,_=>by have:suf= []:=List.eq_nil_of_length_eq_zero (by simpa using h2);subst this;exact⟨C,rfl,by simpa using h⟩
 |v::vs,k,C,pre,suf,h,h1,h2,h3=>by
  have hv:=h3 v (by simp);simp only [AD,Nat.add_mul,Nat.one_mul]at h2;have hC:C.size=pre.length+suf.length:=by rw [←Array.length_toList,h,AB]
  have JH:(v.cells.zipIdx.foldl (fun cs (p:Value × Nat)=>cs.setIfInBounds (k*sz+p.2) p.1) C).toList=setVs C.toList (k*sz) v.cells.toList:=by have:=cB v.cells.toList 0 (k*sz) C (by simp;omega);rw [←Array.foldl_toList,Array.toList_zipIdx];simpa using this
  have U4:setVs C.toList (k*sz) v.cells.toList=(pre++v.cells.toList)++suf.drop sz:=by unfold setVs;rw [h,←h1,List.take_left' rfl];congr 1;rw [List.drop_append,List.drop_eq_nil_of_le (by omega)];simp [hv]
  obtain⟨C',g1,g2⟩:=Wi place K7 vs (k+1) (v.cells.zipIdx.foldl (fun cs (p:Value × Nat)=>cs.setIfInBounds (k*sz+p.2) p.1) C) (pre++v.cells.toList) (suf.drop sz) (by rw [JH,U4]) (by simp [h1,hv,Nat.add_mul]) (by simp;omega) (fun u hu=>h3 u (by simp [hu]));refine⟨C', ?_,by rw [g2];simp⟩;simp only [List.zipIdx_cons,List.map_cons];unfold Instr.fill;simp only [K7];rw [if_neg (by simp [hv];omega)];exact g1
theorem Ar.newRow (h:A1 P c n nx sl hp a sl0 hp0 o gs) {ts:List Nat} {fz:List (Nat × Af)} (F5:CR hp0 gs ts=some fz) {el:TypeId} {C:Array Value} {cap:Nat} {xs:List AV} {x:E} {d:Bool} {N:List Nat} {ckl:List Cn} {wd:World} (kQ:wd.heap=c.w.heap∧wd.os=c.w.os∧wd.tape=c.w.tape∧wd.output=c.w.output)
  (hr:(execOp a.eval o).run P c.w= .ok (.value (.slice (some ⟨c.w.heap.size,0,none⟩) xs.length cap)) (wd.alloc (.cells C el))) (hx:x.den c.ρ= .sl xs) (BA:P.cellsOf el≠0) (Aw: ∀y∈xs,y.cells.length=P.cellsOf el) (hle:xs.length≤cap) (KH:cap≤maxLen) (hC:C.size=cap*P.cellsOf el)
  (h1: ∀u∈C.toList.take (xs.length*P.cellsOf el),u.oneCell'=true) (hN:Rd c.w (C.toList.take (xs.length*P.cellsOf el)) (Ay xs) N) (EO: ∀b∈N,(c.ay (fz.map (·.1))).ok b) (hd:d=true→N= []):
  Ar P o c n nx sl hp gs a {bc:=ckl,val:= .own nx 0,aw:=fz++ [(nx,Cg gs (.row el (P.cellsOf el) 0 x d))]}:=by
 intro next Q hk
 unfold Oper.wp;rw [hr,Oper.upon_value];have hU:=LL h;have Cw:=h.rel.freeze h.hp h.gs F5;have hK: ∀g,¬c.K nx g:=fun g hg=>hU (h.rel.a7 _ _ hg);have Q1:c.A.pin nx=none:=by
  cases hh:c.A.pin nx with
  |none=>rfl
  |some v=>exact absurd (h.rel.base.pins nx v hh).1 hU
 have E3:=h.rel.off nx (fun e9 hr=>by
  cases hh:hp nx with
  |none=>rw [hh]at hr;exact hr.elim
  |some e8=>exact hU (h.rel.br nx e8 hh))
 obtain⟨w1,w2,w3,w4⟩:=kQ;have Ug:c.w.grownBy (wd.alloc (.cells C el)) (some c.w.heap.size):=by
  refine⟨w2,w3,w4, ?_,fun k hk _=> ?_⟩
  ·show c.w.heap.size≤(wd.heap.push _).size;simp [w1]
  ·have:=Below.heap_alloc wd (.cells C el) k (by rw [w1];exact hk);rw [this,w1]
 have JS:(wd.alloc (.cells C el)).heap[c.w.heap.size]?=some (.cells C el (0,0)):=by have:=heap_alloc_new wd (.cells C el);rw [w1]at this;exact this
 have Am:c.w.heap.size<(wd.alloc (.cells C el)).heap.size:=EI JS;have hO:(c.ay (fz.map (·.1))).G nx=⟨[], []⟩∨((c.ay (fz.map (·.1))).G nx).O= []:=by
  right;simp only [Cx.ay];split
  ·rfl
  ·exact E3.2
 have CY:=Cw.ak (gs:=gs) (t:=nx) (g:=0) (w':=wd.alloc (.cells C el)) (row:=some c.w.heap.size) (top:= [c.w.heap.size]) (O:= []) (v:= .slice (some ⟨c.w.heap.size,0,none⟩) xs.length cap) (.inl Q1) (hK 0) Ug (fun g0 DZ=>by cases DZ;exact .inr ⟨rfl,Am⟩) (.inr ⟨_,rfl,rfl⟩) (.inl rfl)
  (.row el (P.cellsOf el) 0 x d) (by intros;simp) h.gs (fun Fg=>by
   refine⟨.inr ⟨rfl,rfl⟩,fun g' BY=> ?_,N, ?_,fun b hb=>Fg.ok b (hN.inb b hb) (EO b hb),fun DQ=> ?_,fun _=>by simp [Cx.ak]⟩
   ·rcases BY with BY|⟨_,rfl⟩
    ·exact absurd BY (hK g')
    ·exact Nat.le_refl _
   ·have e1:((c.ay (fz.map (·.1))).ak nx 0 (wd.alloc (.cells C el)) (.slice (some ⟨c.w.heap.size,0,none⟩) xs.length cap) [c.w.heap.size] []).H nx 0= .slice (some ⟨c.w.heap.size,0,none⟩) xs.length cap:=by simp [Cx.ak]
    have e2:(((c.ay (fz.map (·.1))).ak nx 0 (wd.alloc (.cells C el)) (.slice (some ⟨c.w.heap.size,0,none⟩) xs.length cap) [c.w.heap.size] []).G nx).top= [c.w.heap.size]:=by simp [Cx.ak]
    rw [e1,e2];show Co (wd.alloc (.cells C el)) el (P.cellsOf el) _ (x.den c.ρ) _ N;rw [hx];exact⟨xs,rfl,Aw,by omega, .inr ⟨_,cap,C,rfl,hle,KH,JS,hC,rfl,h1,hN.frame fun b hb=>Fg.mem b (hN.inb b hb) (EO b hb)⟩⟩
   ·rw [hd DQ];exact⟨rfl,by simp [Cx.ak]⟩)
 have TP:SR ((c.ay (fz.map (·.1))).ak nx 0 (wd.alloc (.cells C el)) (.slice (some ⟨c.w.heap.size,0,none⟩) xs.length cap) [c.w.heap.size] []) [.own nx 0] [.slice (some ⟨c.w.heap.size,0,none⟩) xs.length cap]:=
  .own (.inr ⟨rfl,rfl⟩) (by simp [Cx.ak]) .nil
 refine hk _ ((c.ay (fz.map (·.1))).ak nx 0 (wd.alloc (.cells C el)) (.slice (some ⟨c.w.heap.size,0,none⟩) xs.length cap) [c.w.heap.size] []) ⟨rfl,rfl,rfl,rfl,fun u hu=> ?_⟩ ?_
 ·rcases hu with hu|rfl
  ·exact .inl hu
  ·exact .inr ⟨Nat.le_refl _,by simp [Bf]⟩
 ·have:=CY.put (TP.mkGd gs h.gs) o.dst;rw [LJ];exact this
theorem Ze {t el:TypeId} (hu:P.underlying t=some (.slice el)) (AZ:CG P el=true) {i:TypeInfo} {z:Value} (hi:P.info? el=some i) (hz:i.zero=some z) (BX:P.cellsOf el=i.size) (m:Nat) (hle:m*i.size≤2^24) (parts:Array (Nat × Value)) (C:Array Value)
  (hf:Instr.fill (fun j=>some (j*i.size,i.size)) ((Array.range (m*i.size)).map (fun j=>(if m*i.size=0 then #[]else z.cells)[j % (if m*i.size=0 then #[]else z.cells).size]!)) parts.toList=some C) (w:World):
  (Instr.buildSlice t m parts).run P w= .ok (.slice (some ⟨w.heap.size,0,none⟩) m m) (w.alloc (.cells C el)):=by
 have Uz: ¬(2^24<m*i.size):=by omega
 have G4:Array.range 0= #[]:=rfl;by_cases h0:m*i.size=0
 ·simp only [h0,if_true,G4]at hf;have Of: ∀f:Nat→Value,Array.map f #[]= #[]:=fun f=>by simp
  rw [Of]at hf;simp only [Instr.buildSlice,Sem.run_bind,run_underlying hu,Result.andThen_ok,LC AZ,BX];simp [h0,G4,hf,newRow]
 ·simp only [h0,if_false]at hf;simp only [Instr.buildSlice,Sem.run_bind,run_underlying hu,Result.andThen_ok,LC AZ,BX];simp [h0,Uz,zeroValue,typeInfo,hi,hz,hf,newRow]
theorem mR (h:A1 P c n nx sl hp a sl0 hp0 o gs) {t:TypeId} {m:Nat} {parts:Array (Nat × Operand)} (ho:o.op= .buildSlice t m parts) {ps:List (Nat × SV)} (JX:parts.toList.mapM (fun(p:Nat × Operand)=>(Bk sl0 gs p.2).map fun s=>(p.1,s))=some ps) (he:VN P hp0 gs nx t m ps=some e) (hc: ∀q∈e.bc,Cn.den c.ρ q):Ar P o c n nx sl hp gs a e:=by
 obtain⟨e1,e2⟩:=Sv (c:=c) (a:=a) (parts.toList.map (·.2)) (fun x s hx hm=>h.bz hx (by simpa [ho,Op.operands]using hm)) (fun x hx=>List.mem_map.2 ⟨x,hx,rfl⟩) JX;unfold VN at he;split at he
 ·rename_i el A7;have A7:=Ik A7;split at he
  ·cases he
  rename_i At;simp only [not_or,Bool.not_eq_true',Bool.not_eq_false',ne_eq,Bool.not_eq_false,Nat.not_lt,Decidable.not_not]at At;obtain⟨hz,AZ,As,hle,DB⟩:=At;have As:Ai P el=true∨P.cellsOf el=1:=by simpa using As
  obtain⟨i,z,hi,ES,C4,BA,BX,Ff⟩:=I9 hz;split at he
  ·rename_i xs fz d ck OV;split at he
   ·simp only [Ac]at he;subst he;obtain⟨N,p1,p2,⟨ts,p3⟩,p4,p5,p6,p7⟩:=Zu h.rel h.hp h.gs As (ps.map (·.2)) (parts.toList.map fun p=>a.eval p.2) e2 OV hc;have hlen:(parts.toList.map fun p=>a.eval p.2).length=m:=by
     have:ps.length=m:=by have:=congrArg List.length DB;simpa using this
     have h9:=congrArg List.length e1;simp at h9 ⊢;omega
    have FL:(parts.map fun(x:Nat × Operand)=>(x.1,a.eval x.2)).toList=((parts.toList.map fun p=>a.eval p.2).zipIdx 0).map fun p=>(p.2,p.1):=by
     have KS:parts.toList.map (·.1)=List.range m:=by rw [←e1,DB]
     apply List.ext_getElem?;intro j;have hj:(parts.toList.map (·.1))[j]?=(List.range m)[j]?:=by rw [KS]
     simp only [Array.toList_map,List.getElem?_map,List.getElem?_zipIdx]at hj ⊢;cases hp:parts.toList[j]? with
     |none=>simp
     |some p=>
      rw [hp]at hj;simp only [Option.map_some,Ac]at hj ⊢;have Uu:j<m:=by
       rcases Nat.lt_or_ge j m with hh|hh
       ·exact hh
       ·rw [List.getElem?_eq_none (by simpa using hh)]at hj;cases hj
      rw [List.getElem?_range Uu]at hj;simp at hj;simp [hj]
    obtain⟨C',f1,f2⟩:=Wi (sz:=i.size) (fun j=>some (j*i.size,i.size)) (fun j=>rfl) (parts.toList.map fun p=>a.eval p.2) 0 ((Array.range (m*i.size)).map (fun j=>(if m*i.size=0 then #[]else z.cells)[j % (if m*i.size=0 then #[]else z.cells).size]!)) [] _ (by simp;rfl) (by simp) (by simp [hlen]) (fun v hv=>by rw [←BX];exact(p5 v hv).1);have C7:C'.toList.length=m*P.cellsOf el:=by
     rw [f2,BX];simp only [List.nil_append];have: ∀(L:List Value),(∀v∈L,v.cells.size=i.size)→(L.flatMap fun v=>v.cells.toList).length=L.length*i.size:=by
      intro L
      induction L with
      |nil=>intro _;simp
      |cons v L ih=>intro hL;simp only [List.flatMap_cons,AB,AD,Array.length_toList];rw [ih (fun u hu=>hL u (by simp [hu])),hL v (by simp),Nat.add_mul];omega
     rw [this _ (fun v hv=>by rw [←BX];exact(p5 v hv).1),hlen]
    have HG:(xs.map (E.den c.ρ)).length=m:=by rw [List.length_map,p7,hlen]
    have B8:C'.toList.take ((xs.map (E.den c.ρ)).length*P.cellsOf el)=(parts.toList.map fun p=>a.eval p.2).flatMap fun v=>v.cells.toList:=by rw [HG,←C7,List.take_length,f2];simp
    refine Ar.newRow (xs:=xs.map (E.den c.ρ)) (N:=N) (C:=C') (cap:=m) (wd:=c.w) h p3 ⟨rfl,rfl,rfl,rfl⟩ ?_ (by simp [E.den,EL.cr]) (by omega) (fun y hy=> ?_) (by omega) (by simp only [maxLen];have:m*1≤m*P.cellsOf el:=Nat.mul_le_mul_left _ (by omega);omega) (by rw [←Array.length_toList,C7]) ?_ (by rw [B8];exact p1) p4 p2
    ·rw [HG];have AH:=Ze (P:=P) A7 AZ hi ES BX m (by rw [←BX];omega) (parts.map fun(x:Nat × Operand)=>(x.1,a.eval x.2)) C' (by rw [FL];exact f1) c.w;simp only [execOp,ho,Sem.run_bind];rw [AH];rfl
    ·obtain⟨q,hq,rfl⟩:=List.mem_map.1 hy;exact p6 q hq
    ·rw [B8];intro u hu;obtain⟨v,hv,hu⟩:=List.mem_flatMap.1 hu;exact(p5 v hv).2 u hu
   ·cases he
  ·cases he
 ·cases he
end
end Go.Proofs.YtollgpkegmbpmaaGreatDoor
end

/- Parts of a proof, joined: WP, WQ, WR, WRa, WRb, WRc, WRd, WRe, WS, WSa, WSb. -/
import Derived.Test.YtagokdejdanfcaaGreatDoorE4
set_option linter.unusedVariables false
set_option linter.unusedSimpArgs false
section
namespace Go.Proofs.YtagokdejdanfcaaGreatDoor
open Go.RowKit
theorem Bd.{u} {α:Type u} {a:α}:[a].length=1:=rfl
section
variable {P:Program} {c:Cx} {hp:Nat→Option Af} {gs:Gd}
theorem ZO (hb:Nu c) (eh:EH c hp) (k:A2 c.ρ gs) (hU: ∀t g,c.K t g→c.U t): ∀(ss:List SV) {ts:List TypeId} {ms:List PM} {lo:List Bool} {es:List E} {bs:List PA} {us uz:List Nat} {vs:List Value},Qa P hp gs ts ms lo ss=some (es,bs,us,uz)→SR c ss vs→ts.length≤ss.length→
  ∃rf lf hs,CJ P c.w ts ms lo vs (es.map (E.den c.ρ)) rf lf hs∧(∀b∈rf,c.dj us b)∧(∀b∈lf,c.dj uz b∨b<c.w0.heap.size∧ ¬c.Mu b)∧hs=(CI bs).flatMap (fun t=>(c.G t).top)∧GM P c ts ms vs bs∧(∀u∈CI bs,c.U u)∧(bs≠ []→gs= [])
 | [],ts,ms,lo,es,bs,us,uz,vs,h,hs,hl=>by simp [Qa]at h;obtain⟨rfl,rfl,rfl,rfl⟩:=h;cases hs;have:ts= []:=List.eq_nil_of_length_eq_zero (by simpa using hl);subst this;exact⟨[], [], [], .nil,by simp,by simp,by simp [CI], .nil,by simp [CI],by simp⟩
 |s::ss,ts,ms,lo,es,bs,us,uz, [],h,hs,hl=>by have:=hs.len;simp at this
 |s::ss,ts,ms,lo,es,bs,us,uz,v::vs,h,hs,hl=>by
  obtain⟨r1,r2⟩:=hs.br;unfold Qa at h;split at h
  ·cases h
  rename_i ys bs' us' uz' Cl;obtain⟨rf,lf,A5,q1,q2,qz,q3,q4,q5,q6⟩:=ZO hb eh k hU ss Cl r2 (by simp at hl ⊢;omega);have see1: ∀{a b:List Nat} {x:Nat},c.dj a x→c.dj (a++b) x:=fun h=>h.mono fun t ht=>by simp [ht]
  have see2: ∀{a b:List Nat} {x:Nat},c.dj b x→c.dj (a++b) x:=fun h=>h.mono fun t ht=>by simp [ht]
  split at h
  ·rename_i hm;split at h
   ·rename_i BN;simp only [Ac,Bool.not_eq_true']at BN;obtain⟨t,ts,rfl⟩: ∃t ts',ts=t::ts':=by
     cases ts with
     |nil=>simp at BN
     |cons t ts=>exact⟨t,ts,rfl⟩
    split at h
    ·rename_i i;simp only [Ae,Prod.mk.injEq]at h;obtain⟨rfl,rfl,rfl,rfl⟩:=h;cases r1 with
     |lent g1 _=>obtain⟨f,p1,p2⟩:=hb.lo _ _ g1;have hw:Rd c.w [v] [(E.var i).den c.ρ] f:=p1.frame fun b BE=>hb.block b (p1.inb b BE) (p2 b BE);exact⟨rf,f++lf,A5, .lent BN.1 hm hw q1,q2,fun b BE=>(Ag.1 BE).elim (fun BE=> .inr ⟨p1.inb b BE,p2 b BE⟩) (qz b),q3, .ro hm q4,q5,q6⟩
    ·obtain⟨x,hx,hh⟩:=Ap.1 h;simp only [Prod.mk.injEq]at hh;obtain⟨rfl,rfl,rfl,rfl⟩:=hh;obtain⟨f,p1,p2⟩:=FV eh k AK hx r1 AK (Nat.le_refl _);exact⟨rf,f++lf,A5, .lent BN.1 hm p1 q1,q2,fun b BE=>(Ag.1 BE).elim (fun BE=> .inl (see1 (p2 b BE))) (fun BE=>(qz b BE).imp see2 id),q3, .ro hm q4,q5,q6⟩
   obtain⟨x,hx,hh⟩:=Ap.1 h;simp only [Prod.mk.injEq]at hh;obtain⟨rfl,rfl,rfl,rfl⟩:=hh;obtain⟨f,p1,p2⟩:=FV eh k AK hx r1 AK (Nat.le_refl _);have hb: ∀b∈f++rf,c.dj (Bt hp gs (AK+1) [s]++us') b:=fun b hb=>by
    rcases Ag.1 hb with hb|hb
    ·exact see1 (p2 b hb)
    ·exact see2 (q2 b hb)
   cases ts with
   |nil=>exact⟨f++rf,lf,A5, .free p1 q1,hb,qz,q3, .ro hm q4,q5,q6⟩
   |cons t ts=>exact⟨f++rf,lf, []++A5, .cons (by rw [hm];exact⟨p1,rfl⟩) q1,hb,qz,q3, .ro hm q4,q5,q6⟩
  ·rename_i own own' hm;split at h
   ·rename_i ty T A8;split at h
    ·rename_i ty' g cs L7;split at h
     ·cases h
     rename_i Bk;have Bk:ty'=ty:=by simpa using Bk
     subst Bk;split at h
     ·rename_i xs rs vs' B5 DQ;simp only [Ae,Prod.mk.injEq]at h;obtain⟨rfl,rfl,rfl,rfl⟩:=h;obtain⟨t,ts,rfl,Dl⟩: ∃t ts',ts=t::ts'∧Im P t=some ty':=by
       cases ts with
       |nil=>simp at A8
       |cons t ts=>exact⟨t,ts,rfl,by simpa using A8⟩
      obtain⟨b,C,g1,g2,g3,g4,g5,g6,g7⟩:=eh T _ (Ce L7 k);obtain⟨f,h8,p1,p2,p3,p4,p5⟩:=Vt (P:=P) eh k hU (A0 P ty') DQ g7 B5 (Nat.le_refl _);have hv:v= .pointer (some ⟨b,0,none⟩):=by
       cases r1 with
       |bz k1 k2 _=>rw [g2]at k2;cases k2;rfl
      refine⟨f++rf,lf,(b::h8)++A5, .cons ?_ q1,fun x hx=> ?_,qz,by simp [CI,p3,q3,g3], .bx hm Dl hv g1 (by rw [g2,hv]) p5 q4,fun u hu=> ?_,fun _=>rfl⟩
      ·rw [hm];exact⟨ty',b,C,xs.den c.ρ,h8,Dl,hv,g5,g6,rfl,p1,rfl⟩
      ·rcases Ag.1 hx with hx|hx
       ·exact see1 (p2 x hx)
       ·exact see2 (q2 x hx)
      ·simp only [CI,List.cons_append,Ad,Ag]at hu;rcases hu with rfl|hu|hu
       ·exact hU _ _ g1
       ·exact p5 u hu
       ·exact q5 u hu
     ·cases h
    ·cases h
   ·cases h
  ·rename_i own hm;split at h
   ·rename_i t x A8 hx;split at h
    ·cases h
    rename_i As;have As:(FQ s).2=Ak P t:=by simpa using As
    split at h
    ·rename_i rs vs' DQ;simp only [Ae,Prod.mk.injEq]at h;obtain⟨rfl,rfl,rfl,rfl⟩:=h;obtain⟨ts,rfl⟩: ∃ts',ts=t::ts':=by
      cases ts with
      |nil=>simp at A8
      |cons t' ts=>simp at A8;exact⟨ts,by rw [A8]⟩
     obtain⟨f,h8,p1,p2,p3,⟨vs9,p4,p5⟩,p6⟩:=YJ (P:=P) eh k hU r1 hx As DQ;refine⟨f++rf,lf,h8++A5, .cons (by rw [hm];exact p1) q1,fun x hx=> ?_,qz,by simp [CI,p3,q3],by rw [As];exact .mu hm p4 p5 q4,fun u hu=> ?_,fun _=>rfl⟩
     ·rcases Ag.1 hx with hx|hx
      ·exact see1 (p2 x hx)
      ·exact see2 (q2 x hx)
     ·simp only [CI,Ag]at hu;exact hu.elim (p6 u) (q5 u)
    ·cases h
   ·cases h
  ·rename_i own hm;split at h
   ·rename_i t x A8 hx;split at h
    ·cases h
    rename_i As;have As:(FQ s).2=Ak P t:=by simpa using As
    split at h
    ·rename_i rs vs' DQ;simp only [Ae,Prod.mk.injEq]at h;obtain⟨rfl,rfl,rfl,rfl⟩:=h;obtain⟨ts,rfl⟩: ∃ts',ts=t::ts':=by
      cases ts with
      |nil=>simp at A8
      |cons t' ts=>simp at A8;exact⟨ts,by rw [A8]⟩
     obtain⟨f,h8,p1,p2,p3,⟨vs9,p4,p5⟩,p6⟩:=YJ (P:=P) eh k hU r1 hx As DQ;refine⟨f++rf,lf,h8++A5, .cons (by rw [hm];exact p1) q1,fun x hx=> ?_,qz,by simp [CI,p3,q3], .va hm p6 q4,fun u hu=> ?_,fun _=>rfl⟩
     ·rcases Ag.1 hx with hx|hx
      ·exact see1 (p2 x hx)
      ·exact see2 (q2 x hx)
     ·simp only [CI,Ag]at hu;exact hu.elim (p6 u) (q5 u)
    ·cases h
   ·cases h
end
inductive E0 (P:Program) (w:World):List TypeId→List Bool→List Value→List AV→List Nat→List Nat→Prop where
 |nil {fl}:E0 P w [] fl [] [] [] []
 |own {t ts fl el u us y ys top N f o}:fl.headD false=true→Cf P t=some el→(BH P el=true∧N= []∨BH P el=false∧De P t=none)→Cy w el (P.cellsOf el) u y top N→E0 P w ts fl.tail us ys f o→E0 P w (t::ts) fl (u::us) (y::ys) (N++f) (top++o)
 |deep {t ts fl el e z l u us y ys top f o}:fl.headD false=true→Cf P t=some el→BH P el=false→De P t=some (.row e z l)→DC w [.row e z l] [u] [y] top→E0 P w ts fl.tail us ys f o→E0 P w (t::ts) fl (u::us) (y::ys) f (top++o)
 |skip {t ts fl u us y ys f o}:(fl.headD false=true→Cf P t=none)→E0 P w ts fl.tail us ys f o→E0 P w (t::ts) fl (u::us) (y::ys) f o
inductive Db (P:Program) (w:World):List TypeId→List PM→List Value→List AV→List Nat→List Nat→Prop where
 |nil {ms vs}:Db P w [] ms vs [] [] []
 |ro {t ts ms v vs bs f o}:ms.headD .ro= .ro→Db P w ts ms.tail vs bs f o→Db P w (t::ts) ms (v::vs) bs f o
 |va {t ts ms own v vs bs f o}:ms.headD .ro= .va own→Db P w ts ms.tail vs bs f o→Db P w (t::ts) ms (v::vs) bs f o
 |mu {t ts ms own v vs us ys y bs f1 f o1 o}:ms.headD .ro= .mu own→(if Ak P t then v= .agg us.toArray∧y= .agg ys else us= [v]∧ys= [y])→E0 P w (A0 P t) own us ys f1 o1→Db P w ts ms.tail vs bs f o→Db P w (t::ts) ms (v::vs) (y::bs) (f1++f) (o1++o)
 |bx {t ts ms own own' ty b C v vs ys y bs f1 o1 f o}:ms.headD .ro= .bx own own'→Im P t=some ty→v= .pointer (some ⟨b,0,none⟩)→w.heap[b]?=some (.cells C ty (0,0))→(∀u∈C.toList,u.oneCell'=true)→y= .agg ys→BX P w (A0 P ty) own' C.toList ys f1 o1→
   Db P w ts ms.tail vs bs f o→Db P w (t::ts) ms (v::vs) (y::bs) (f1++f) (b::o1++o)
section
variable {P:Program} {c:Cx} {w':World}
theorem nB {mk:Nat→E} {ts:List TypeId} {fl:List Bool} {us:List Value} {rs:List (Option RI)} (h:E7 P c ts fl us rs) (hU: ∀t g,c.K t g→c.U t): ∀{ys:List AV} {f o:List Nat} (j:Nat),E0 P w' ts fl us ys f o→(∀i y,ys[i]?=some y→(mk (j+i)).den c.ρ=y)→
  ∃recs:List AA,Jj mk j rs=recs.map AA.pair∧(recs.flatMap AA.top).Sublist o∧(∀r∈recs,r.new=none∧c.U r.tag∧ ∀hs f,r.bb≠ .gd hs f)∧recs.map AA.tag=B0 rs∧ ∀c',DW c c' w' recs→(∀b∈f,c'.ok b)→ ∀r∈recs,Co c' r.tag r.bb:=by
 induction h with
 |nil=>intro ys f o j hm _;cases hm;exact⟨[],rfl,by simp,by simp,rfl,by simp⟩
 | @row t ts fl v vs u g el rs h1 h2 ND h3 h4 h5 _ ih=>
  intro ys f o j hm EF;cases hm with
  |skip hh _=>rw [hh h1]at h2;cases h2
  |deep _ k2 k21 k22 _ _=>
   rw [h2]at k2;cases k2;rcases ND with hh|hh
   ·rw [hh]at k21;cases k21
   ·rw [hh]at k22;cases k22
  | @own _ _ _ el' _ _ y ys top N f o k1 k2 k23 k3 k4=>
   rw [h2]at k2;cases k2;obtain⟨recs,e1,e2,e3,e4,e5⟩:=ih (j+1) k4 (fun i y hy=>by rw [show j+1+i=j+(i+1)from by omega];exact EF (i+1) y (by simpa using hy));have hy:=EF 0 y rfl;refine⟨⟨u,none,top, .row el (P.cellsOf el) g (mk j) (BH P el)⟩::recs,by simp [Jj,e1,AA.pair],by simpa using(List.Sublist.refl top).append e2,fun r hr=> ?_,by simp [B0,RI.tag,e4],fun c' ha AE r hr=> ?_⟩
   ·rcases Ad.1 hr with rfl|hr
    ·exact⟨rfl,hU _ _ h3,by simp⟩
    ·exact e3 r hr
   ·rcases Ad.1 hr with rfl|hr
    ·obtain⟨a1,a2⟩:=ha.K u g h3;have kg:=ha.G _ (List.mem_cons_self ..);simp only at kg;refine⟨a1,fun g' B3=>h5 g' (ha.old u (hU _ _ h3) g' B3),N, ?_,fun b hb=>AE b (by simp [hb]),fun hd=> ?_,fun _=>by rw [kg]⟩
     rotate_left
     ·rcases k23 with⟨_,h⟩|⟨h,_⟩
      ·subst h;exact⟨rfl,by rw [kg]⟩
      ·rw [h]at hd;cases hd
     have Bc:(mk j).den c.ρ=y:=by simpa using hy
     rw [a2,h4,kg,ha.w,ha.ρ,Bc];exact k3
    ·exact e5 c' (ha.mono fun r hr=>by simp [hr]) (fun b hb=>AE b (by simp [hb])) r hr
 | @deep t ts fl v vs u g el e z l ep rs h1 h2 NC L0 h3 h4 h5 h6 _ ih=>
  intro ys f o j hm EF;cases hm with
  |skip hh _=>rw [hh h1]at h2;cases h2
  |own _ k2 k23 _ _=>
   rw [h2]at k2;cases k2;rcases k23 with⟨hh,_⟩|⟨_,hh⟩
   ·rw [hh]at NC;cases NC
   ·rw [hh]at L0;cases L0
  | @deep _ _ _ el' e' z' l' _ _ y ys top f o k1 k2 k21 k22 k3 k4=>
   rw [L0]at k22;cases k22;obtain⟨recs,e1,e2,e3,e4,e5⟩:=ih (j+1) k4 (fun i y hy=>by rw [show j+1+i=j+(i+1)from by omega];exact EF (i+1) y (by simpa using hy));have hy:=EF 0 y rfl;refine⟨⟨u,none,top, .deep e z l g (ep+1) (mk j)⟩::recs,by simp [Jj,e1,AA.pair],by simpa using(List.Sublist.refl top).append e2,fun r hr=> ?_,by simp [B0,RI.tag,e4],fun c' ha AE r hr=> ?_⟩
   ·rcases Ad.1 hr with rfl|hr
    ·exact⟨rfl,hU _ _ h3,by simp⟩
    ·exact e3 r hr
   ·rcases Ad.1 hr with rfl|hr
    ·obtain⟨a1,a2⟩:=ha.K u g h3;have kg:=ha.G _ (List.mem_cons_self ..);have ke:=ha.fq _ (List.mem_cons_self ..) rfl;simp only at kg ke;refine⟨a1,fun g' B3=>h5 g' (ha.old u (hU _ _ h3) g' B3),by rw [ke,h6], ?_,by rw [kg]⟩;have Bc:(mk j).den c.ρ=y:=by simpa using hy
     rw [a2,h4,kg,ha.w,ha.ρ,Bc];exact k3
    ·exact e5 c' (ha.mono fun r hr=>by simp [hr]) (fun b hb=>AE b (by simp [hb])) r hr
 | @none t ts fl v vs rs _ _ ih=>
  intro ys f o j hm EF;have go: ∀{y:AV} {ys':List AV} {f' o':List Nat},ys=y::ys'→E0 P w' ts fl.tail vs ys' f' o'→(∀b∈f',b∈f)→o'.Sublist o→ ∃recs:List AA,Jj mk j (none::rs)=recs.map AA.pair∧(recs.flatMap AA.top).Sublist o∧(∀r∈recs,r.new=none∧c.U r.tag∧ ∀hs f,r.bb≠ .gd hs f)∧recs.map AA.tag=B0 (none::rs)∧ ∀c',DW c c' w' recs→(∀b∈f,c'.ok b)→ ∀r∈recs,Co c' r.tag r.bb:=by rintro y ys' f' o' rfl EE hf hs;obtain⟨recs,e1,e2,e3,e4,e5⟩:=ih (j+1) EE (fun i y hy=>by rw [show j+1+i=j+(i+1)from by omega];exact EF (i+1) y (by simpa using hy));exact⟨recs,by simp [Jj,e1],e2.trans hs,e3,by simp [B0]at e4 ⊢;exact e4,fun c' ha AE=>e5 c' ha fun b hb=>AE b (hf b hb)⟩
  cases hm with
  |skip _ h8=>exact go rfl h8 (fun _ h=>h) (List.Sublist.refl _)
  |own _ _ _ _ h8=>exact go rfl h8 (fun b hb=>by simp [hb]) (List.sublist_append_right _ _)
  |deep _ _ _ _ _ h8=>exact go rfl h8 (fun _ h=>h) (List.sublist_append_right _ _)
theorem Zd (us:List Nat) (hU: ∀u∈us,c.U u): ∃recs:List AA,D5 us=recs.map AA.pair∧recs.flatMap AA.top= []∧(∀r∈recs,r.new=none∧c.U r.tag∧ ∀hs f,r.bb≠ .gd hs f)∧recs.map AA.tag=us∧ ∀c',DW c c' w' recs→ ∀r∈recs,Co c' r.tag r.bb:=by
 induction us with
 |nil=>exact⟨[],rfl,rfl,by simp,rfl,by simp⟩
 |cons u us ih=>
  obtain⟨recs,e1,e2,e3,e4,e5⟩:=ih fun u hu=>hU u (by simp [hu]);refine⟨⟨u,none, [], .dead⟩::recs,by simp only [D5]at e1;simp [D5,e1,AA.pair],by simp [e2],fun r hr=> ?_,by simp [e4],fun c' ha r hr=> ?_⟩
  ·rcases Ad.1 hr with rfl|hr
   ·exact⟨rfl,hU _ (by simp),by simp⟩
   ·exact e3 r hr
  ·rcases Ad.1 hr with rfl|hr
   ·have kg:=ha.G _ (List.mem_cons_self ..);simp only at kg;exact⟨by rw [kg],by rw [kg]⟩
   ·exact e5 c' (ha.mono fun r hr=>by simp [hr]) r hr
structure GZ (c:Cx) (w':World) (nx m:Nat) (l:List (Nat × Af)) (hd o f:List Nat) (recs:List AA):Prop where
 ents:l=recs.map AA.pair
 j6:(recs.flatMap AA.top).Sublist o
 new: ∀r∈recs,r.new.isSome=true→nx≤r.tag∧r.tag<nx+m
 old: ∀r∈recs,r.new=none→r.tag∈hd∧c.U r.tag
 all: ∀t∈hd,∃r∈recs,r.tag=t
 nodup:hd.Nodup→(∀t,nx≤t→t<nx+m→ ¬c.U t)→(recs.map AA.tag).Nodup
 ne: ∀r∈recs,∀hs f,r.bb≠ .gd hs f
 ok: ∀c',DW c c' w' recs→(∀b∈f,c'.ok b)→ ∀r∈recs,Co c' r.tag r.bb
theorem GZ.app {nx m m':Nat} {l l':List (Nat × Af)} {hd Iw o o' f f':List Nat} {recs recs':List AA} (h:GZ c w' nx m l hd o f recs) (k:GZ c w' (nx+m) m' l' Iw o' f' recs'):GZ c w' nx (m+m') (l++l') (hd++Iw) (o++o') (f++f') (recs++recs'):=by
 refine⟨by rw [h.ents,k.ents,List.map_append],by rw [List.flatMap_append];exact h.j6.append k.j6,fun r hr hn=> ?_,fun r hr hn=> ?_,fun t ht=> ?_,fun hn hU=> ?_,fun r hr=> ?_,fun c' ha AE r hr=> ?_⟩
 ·rcases Ag.1 hr with hr|hr
  ·have:=h.new r hr hn;omega
  ·have:=k.new r hr hn;omega
 ·rcases Ag.1 hr with hr|hr
  ·exact⟨by simp [(h.old r hr hn).1],(h.old r hr hn).2⟩
  ·exact⟨by simp [(k.old r hr hn).1],(k.old r hr hn).2⟩
 ·rcases Ag.1 ht with ht|ht
  ·obtain⟨r,hr,e⟩:=h.all t ht;exact⟨r,by simp [hr],e⟩
  ·obtain⟨r,hr,e⟩:=k.all t ht;exact⟨r,by simp [hr],e⟩
 ·rw [List.nodup_append]at hn;rw [List.map_append,List.nodup_append];refine⟨h.nodup hn.1 fun t h1 h2=>hU t h1 (by omega),k.nodup hn.2.1 fun t h1 h2=>hU t (by omega) (by omega),fun t1 OC t2 OD he=> ?_⟩;obtain⟨q1,E4,rfl⟩:=List.mem_map.1 OC;obtain⟨q2,FJ,rfl⟩:=List.mem_map.1 OD;cases n1:q1.new with
  |none=>
   obtain⟨a1,a2⟩:=h.old q1 E4 n1;cases n2:q2.new with
   |none=>exact hn.2.2 _ a1 _ (k.old q2 FJ n2).1 he
   |some v2=>have:=k.new q2 FJ (by simp [n2]);exact hU q2.tag (by omega) (by omega) (he▸a2)
  |some v1=>
   have:=h.new q1 E4 (by simp [n1]);cases n2:q2.new with
   |none=>exact hU q1.tag (by omega) (by omega) (he▸(k.old q2 FJ n2).2)
   |some v2=>have:=k.new q2 FJ (by simp [n2]);omega
 ·rcases Ag.1 hr with hr|hr
  ·exact h.ne r hr
  ·exact k.ne r hr
 ·rcases Ag.1 hr with hr|hr
  ·exact h.ok c' (ha.mono fun r hr=>by simp [hr]) (fun b hb=>AE b (by simp [hb])) r hr
  ·exact k.ok c' (ha.mono fun r hr=>by simp [hr]) (fun b hb=>AE b (by simp [hb])) r hr
theorem GZ.iu {nx:Nat} {l:List (Nat × Af)} {hd o f:List Nat} {recs:List AA} (e1:l=recs.map AA.pair) (e2:(recs.flatMap AA.top).Sublist o) (e3: ∀r∈recs,r.new=none∧c.U r.tag∧ ∀hs f,r.bb≠ .gd hs f) (e4:recs.map AA.tag=hd) (e5: ∀c',DW c c' w' recs→(∀b∈f,c'.ok b)→ ∀r∈recs,Co c' r.tag r.bb):GZ c w' nx 0 l hd o f recs:=by
 refine⟨e1,e2,fun r hr hn=> ?_,fun r hr _=>⟨?_,(e3 r hr).2.1⟩,fun t ht=> ?_,fun hn _=>by rw [e4];exact hn,fun r hr=>(e3 r hr).2.2,fun c' ha AE=>e5 c' ha AE⟩
 ·rw [(e3 r hr).1]at hn;cases hn
 ·rw [←e4];exact List.mem_map.2 ⟨r,hr,rfl⟩
 ·rw [←e4]at ht;obtain⟨r,hr,e⟩:=List.mem_map.1 ht;exact⟨r,hr,e⟩
theorem nK {ts:List TypeId} {ms:List PM} {vs:List Value} {bs:List PA} (h:GM P c ts ms vs bs) (hU: ∀t g,c.K t g→c.U t) {r:Nat}: ∀{Bs:List AV} {f o:List Nat} (nx j:Nat),Db P w' ts ms vs Bs f o→(∀k y,Bs[k]?=some y→(E.proj (.var r) (j+k+1)).den c.ρ=y)→
  Bs.length=Gt bs∧ ∃recs,GZ c w' nx (Ig P bs) (after P r nx bs j) (CI bs) o f recs:=by
 have nilS: ∀nx,GZ c w' nx 0 [] [] [] [] []:=fun nx=>⟨rfl,by simp,by simp,by simp,by simp,by simp,by simp,by simp⟩
 induction h with
 |nil=>intro Bs f o nx j hb _;cases hb;exact⟨rfl, [],by simpa [after,CI,Ig]using nilS nx⟩
 | @ro ts ms v vs bs hm DG ih=>
  intro Bs f o nx j hb hB;cases hb with
  |nil=>exact ih nx j .nil hB
  |ro _ h8=>exact ih nx j h8 hB
  |va h9 _=>rw [hm]at h9;cases h9
  |mu h9 _ _ _=>rw [hm]at h9;cases h9
  |bx h9 _ _ _ _ _ _ _=>rw [hm]at h9;cases h9
 | @va ts ms own v vs bs us hm II DG ih=>
  intro Bs f o nx j hb hB;obtain⟨recs1,e1,e2,e3,e4,e5⟩:=Zd (c:=c) (w':=w') us II;have s1:GZ c w' nx 0 (D5 us) us [] [] recs1:= .iu e1 (by rw [e2];exact List.Sublist.refl _) e3 e4 fun c' ha _=>e5 c' ha;cases hb with
  |nil=>obtain⟨h1,recs2,s2⟩:=ih nx j .nil hB;exact⟨by simpa [Gt]using h1,recs1++recs2,by simpa [after,CI,Ig]using s1.app s2⟩
  |ro h9 _=>rw [hm]at h9;cases h9
  |va _ h8=>obtain⟨h1,recs2,s2⟩:=ih nx j h8 hB;exact⟨by simpa [Gt]using h1,recs1++recs2,by simpa [after,CI,Ig]using s1.app s2⟩
  |mu h9 _ _ _=>rw [hm]at h9;cases h9
  |bx h9 _ _ _ _ _ _ _=>rw [hm]at h9;cases h9
 | @mu t ts ms own v vs bs us rs hm II DQ DG ih=>
  intro Bs f o nx j hb hB;cases hb with
  |ro h9 _=>rw [hm]at h9;cases h9
  |va h9 _=>rw [hm]at h9;cases h9
  |bx h9 _ _ _ _ _ _ _=>rw [hm]at h9;cases h9
  | @mu _ _ _ own2 _ _ us2 ys y Bs f1 f o1 o h9 hg Oh h8=>
   rw [hm]at h9;cases h9;obtain⟨h1,recs2,s2⟩:=ih nx (j+1) h8 (fun k y hy=>by rw [show j+1+k+1=j+(k+1)+1 from by omega];exact hB (k+1) y (by simpa using hy));have hy:=hB 0 y rfl;have Lc:us2=us:=by
    split at II
    ·rename_i As;rw [if_pos As]at hg;obtain⟨rfl,_⟩:=hg;exact Y1 II
    ·rename_i As;rw [if_neg As]at hg;rw [hg.1,II]
   subst Lc;obtain⟨recs1,e1,e2,e3,e4,e5⟩:=nB (w':=w') (mk:=CK (.proj (.var r) (j+1)) (Ak P t)) DQ hU 0 Oh (by
    intro i z hz;split at hg
    ·rename_i As;rw [As];exact Pm (by rw [←hg.2];exact hy) i z hz
    ·rename_i As;have Fe:Ak P t=false:=by simpa using As
     rw [hg.2]at hz;cases i with
     |zero=>simp at hz;subst hz;rw [Fe];simpa [CK]using hy
     |succ i=>simp at hz)
   have s1:GZ c w' nx 0 _ (B0 rs) o1 f1 recs1:= .iu e1 e2 e3 e4 e5;exact⟨by simp [Gt,h1],recs1++recs2,by simpa [after,CI,Ig]using s1.app s2⟩
 | @bx t ts ms own own' ty v vs bs T b g olds hm Dl hv hK hH hol DG ih=>
  intro Bs f o nx j hb hB;cases hb with
  |ro h9 _=>rw [hm]at h9;cases h9
  |va h9 _=>rw [hm]at h9;cases h9
  |mu h9 _ _ _=>rw [hm]at h9;cases h9
  | @bx _ _ _ own2 own3 ty2 b2 C _ _ ys y Bs f1 o1 f o h9 Hm CL hh Cc GF hc h8=>
   rw [hm]at h9;cases h9;rw [Dl]at Hm;cases Hm;have eO:b2=b:=by rw [hv]at CL;cases CL;rfl
   subst eO;obtain⟨h1,recs2,s2⟩:=ih (nx+(A0 P ty).length) (j+1) h8 (fun k y hy=>by rw [show j+1+k+1=j+(k+1)+1 from by omega];exact hB (k+1) y (by simpa using hy));have hy:=hB 0 y rfl;obtain⟨recs0,d1,d2,d3,d4,d5⟩:=Zd (c:=c) (w':=w') olds hol;have s0:GZ c w' nx 0 (D5 olds) olds [] [] recs0:= .iu d1 (by rw [d2];exact List.Sublist.refl _) d3 d4 fun c' ha _=>d5 c' ha;obtain⟨recs1,e1,e2,e3,e4,_,e5⟩:=Mv (c:=c) (nx:=nx) (mk:=CK (.proj (.var r) (j+1)) true) hc 0 (Pm (by rw [←GF];exact hy));have XK:=hU _ _ hK;have s1:GZ c w' nx (A0 P ty).length ((T, .box ty g (B8 P nx (CK (.proj (.var r) (j+1)) true) 0 (A0 P ty) own').1)::(B8 P nx (CK (.proj (.var r) (j+1)) true) 0 (A0 P ty) own').2) [T] (b2::o1) f1 (⟨T,none, [b2], .box ty g (B8 P nx (CK (.proj (.var r) (j+1)) true) 0 (A0 P ty) own').1⟩::recs1):=by
    refine⟨by simp [e1,AA.pair], ?_,fun q hq hn=> ?_,fun q hq hn=> ?_,by simp,fun _ AS=> ?_,fun q hq=> ?_,fun c' ha AE q hq=> ?_⟩
    ·simp only [List.flatMap_cons,e2,List.singleton_append];exact List.Sublist.refl _
    ·rcases Ad.1 hq with rfl|hq
     ·cases hn
     ·have:=e3 q hq;omega
    ·rcases Ad.1 hq with rfl|hq
     ·exact⟨by simp,XK⟩
     ·have:=(e3 q hq).2.2;rw [hn]at this;cases this
    ·simp only [List.map_cons,List.nodup_cons];refine⟨fun hm=> ?_,e4⟩;obtain⟨q,hq,gI⟩:=List.mem_map.1 hm;have:=e3 q hq;exact AS q.tag (by omega) (by omega) (gI▸XK)
    ·rcases Ad.1 hq with rfl|hq
     ·simp
     ·intro hs f he;obtain⟨q1,q2⟩:=e3 q hq;have:(q.tag,q.bb)∈(B8 P nx (CK (.proj (.var r) (j+1)) true) 0 (A0 P ty) own').2:=by
       rw [e1];exact List.mem_map.2 ⟨q,hq,rfl⟩
      exact Lu _ _ _ _ _ this he
    ·obtain⟨p1,p2⟩:=e5 c' (ha.mono fun r hr=>by simp [hr]) AE;rcases Ad.1 hq with rfl|hq
     ·obtain⟨a1,a2⟩:=ha.K T 0 hK;have kg:=ha.G _ (List.mem_cons_self ..);simp only at kg;exact⟨b2,C,a1,by rw [a2,hH,hv],by rw [kg],by rw [kg],by rw [ha.w];exact hh,Cc,p1⟩
     ·exact p2 q hq
   refine⟨by simp [Gt,h1],recs0++((⟨T,none, [b2], .box ty g (B8 P nx (CK (.proj (.var r) (j+1)) true) 0 (A0 P ty) own').1⟩::recs1)++recs2), ?_⟩;have s3:=s0.app (s1.app s2);rw [Nat.zero_add]at s3;refine⟨by simpa [after]using s3.ents,s3.j6,s3.new,fun q hq hn=> ?_,fun t ht=> ?_,fun hn AS=> ?_,s3.ne,s3.ok⟩
   ·have:=s3.old q hq hn;simp only [CI,List.cons_append,Ad,Ag,List.not_mem_nil,or_false,List.nil_append]at this ⊢;exact⟨by rcases this.1 with h|h|h;exact .inr (.inl h);exact .inl h;exact .inr (.inr h),this.2⟩
   ·refine s3.all t ?_;simp only [CI,List.cons_append,Ad,Ag,List.nil_append]at ht ⊢;rcases ht with h|h|h
    ·exact .inr (.inl h)
    ·exact .inl h
    ·exact .inr (.inr h)
   ·refine s3.nodup ?_ AS;simp only [CI,List.cons_append,List.nodup_cons,List.nodup_append,Ag,not_or,List.nil_append]at hn ⊢;obtain⟨⟨n1,n2⟩,n3,n4,n5⟩:=hn;refine⟨n3,⟨n2,n4⟩,fun a ha b hb=> ?_⟩;rcases Ad.1 hb with rfl|hb
    ·rintro rfl;exact n1 ha
    ·exact n5 a ha b hb
end
def LM (P:Program):List TypeId→List Bool→List AV→Bool
 |t::ts,fl,y::ys=>((fl.headD false&&(Cf P t).isSome)||Ca P t||y.scalar)&&LM P ts fl.tail ys
 |_,_,_=>true
def SX (P:Program) (t:TypeId) (fl:List Bool) (x:AV):Bool:=if Gs P t fl then LM P (A0 P t) fl (if Ak P t then x.cells else [x])else Ca P t||x.cells.all AV.scalar
def SF (P:Program):List TypeId→List Bool→List AV→Bool
 |t::ts,fl,x::xs=>SX P t fl x&&SF P ts (fl.drop (A0 P t).length) xs
 |_,_,_=>true
def SP (P:Program) (ts:List TypeId) (fl:List Bool) (R:AV):Bool:=match ts with
 | [t]=>SX P t fl R
 |ts=>match R with
  | .tup ys=>SF P ts fl ys
  |_=>true
def Gq (P:Program):List TypeId→List PM→List AV→Bool
 |t::ts,ms,bs=>(match ms.headD .ro with
  | .ro=>Gq P ts ms.tail bs
  | .va _=>Gq P ts ms.tail bs
  | .mu _=>Gq P ts ms.tail bs.tail
  | .bx _ own'=>(match Im P t,bs with
   |some ty,b::_=>LM P (A0 P ty) own' b.cells
   |_,_=>true)&&Gq P ts ms.tail bs.tail)
 | [],_,_=>true
def Bi:List TypeId→List PM→Bool
 |_::ts,ms=>(match ms.headD .ro with
  | .mu _=>true
  | .bx .. =>true
  |_=>false)||Bi ts ms.tail
 | [],_=>false
def MU (P:Program) (fn:Func) (s:FD) (r:AV):Bool:=
 if Bi (fn.params.toList++s.ft) s.ch then(match r with
  | .tup (R::bs)=>SP P fn.resultTypes.toList s.res R&&Gq P (fn.params.toList++s.ft) s.ch bs
  |_=>false)
 else SP P fn.resultTypes.toList s.res r
def Io (P:Program) (w:World) (ts:List TypeId) (fl:List Bool) (v:Value) (R:AV) (f o:List Nat):Prop:=match ts with
 | [t]=>EZ P w t fl v R f o
 |ts=> ∃vs ys,v= .tuple vs.toArray∧R= .tup ys∧Jq P w ts fl vs ys f o
structure dE (P:Program) (fn:Func) (s:FD) (w:World) (vs:List Value) (rf hs:List Nat) (r:AV) (v:Value) (w':World):Prop where
 ex: ∃R bs f1 o1 f2 o2,r=(match bs with| []=>R|_=> .tup (R::bs))∧Io P w' fn.resultTypes.toList s.res v R f1 o1∧Db P w' (fn.params.toList++s.ft) s.ch vs bs f2 o2∧(o1++o2).Nodup∧
  (∀b∈o1++o2,(b∈hs∨w.heap.size≤b)∧b<w'.heap.size)∧ ∀b∈f1++f2,b∉o1++o2∧(b∈rf∨b∈hs∨w.heap.size≤b)
 mod:Mod hs w w'
theorem Rel.kx {c:Cx} {n:Nat} {sl:Nat→SV} {hp:Nat→Option Af} {a:Act} (h:Rel c n sl hp a) {hs:List Nat} (hh: ∀b∈hs,∃t,b∈(c.G t).top):Xq c.w (fun b=>b∈hs):=by
 obtain⟨p1,p2,p3⟩:=h.base.pk;refine⟨Nat.le_trans p1 h.base.size,IN.mono (fun b hb=>h.base.block b (by omega) fun hm=>by have:=p3 b hm;omega) p2,fun b hb=> ?_⟩;obtain⟨t,ht⟩:=hh b hb;rcases h.gw.allow t b (by simp [GI.own,ht])with k|k
 ·have:c.w0.heap.size≤b:=k;omega
 ·exact p3 b k
def Nz (P:Program) (s:FD) (f:Nat) (xs:List AV) (r:AV):Prop:=
 ∃fn,P.funcs[f]?=some fn∧fn.body.isSome=true∧(fn.name== "runtime.NumGoroutine")=false∧MU P fn s r=true∧xs.length=fn.params.size+fn.nfree∧s.ft.length≤fn.nfree∧
  ∀(w:World) (vs:List Value) (rf lf hs:List Nat),CJ P w (fn.params.toList++s.ft) s.ch s.lo vs xs rf lf hs→(∀b∈hs,b∉rf)→(∀b∈hs,b∉lf)→hs.Nodup→Xq w (fun b=>b∈hs)→
   Calls P f vs.toArray w fun e w'=> ∃v,e= .returned v∧dE P fn s w vs rf hs r v w'
def CB (P:Program) (sg:BB) (f:Nat) (xs:List AV) (r:AV):Prop:=
 if f<1000000 then∃s,sg f=some s∧Nz P s f xs r else Nz P {ch:= [],res:= []} (f-1000000) xs r
section
variable {P:Program} {w:World}
theorem YG {v:Value} {x:AV} {f:List Nat} (h:Rd w [v] [x] f) (hx: ∀y∈x.cells,y.scalar=true):f= []:=by
 by_cases As: ∃cs,x= .agg cs
 ·obtain⟨cs,rfl⟩:=As;obtain⟨as_,_,_,hr⟩:=HK h rfl;exact FR hr hx
 ·have:x.cells= [x]:=by cases x<;>first|rfl|exact absurd ⟨_,rfl⟩ As
  rw [this]at hx;exact FR h hx
theorem pG {t el:TypeId} (h:Cf P t=some el):Ca P t=true:=by have hu:=H3 h;simp [Ca,BH,A0,Ss,hu]
theorem BX.flat {ts:List TypeId} {fl:List Bool} {us:List Value} {ys:List AV} {rf hs:List Nat} (h:BX P w ts fl us ys rf hs) (h1:DJ P ts fl=false) (h2:LM P ts fl ys=true):rf= []:=by
 induction h with
 |nil=>rfl
 |own k1 k2 k23 _ _ ih=>
  simp only [DJ,Bool.or_eq_false_iff]at h1;simp only [LM,Ac]at h2;have hN:=k23;have hw:=h1.1;rw [pG k2,k1]at hw;rcases hN with⟨_,rfl⟩|⟨q1,q2⟩
  ·rw [ih h1.2 h2.2];rfl
  ·simp [SD,k2,q1,q2]at hw
 |deep _ _ _ _ _ _ ih=>simp only [DJ,Bool.or_eq_false_iff]at h1;simp only [LM,Ac]at h2;exact ih h1.2 h2.2
 | @rd t ts fl u us y ys f rf hs hn hr _ ih=>
  simp only [DJ,Bool.or_eq_false_iff]at h1;simp only [LM,Ac]at h2;have DE:(fl.headD false&&(Cf P t).isSome)=false:=by
   cases hh:fl.headD false with
   |false=>rfl
   |true=>rw [hn hh];rfl
  have Uc:(fl.headD false&&SD P t)=false:=by
   cases hh:fl.headD false with
   |false=>rfl
   |true=>simp [SD,hn hh]
  rw [Uc]at h1;rw [DE]at h2;have GC:Ca P t=false:=by simpa using h1.1
  rw [GC]at h2;have hs:y.scalar=true:=by simpa using h2.1
  rw [FR hr (by simpa using hs),ih h1.2 h2.2];rfl
theorem EZ.flat {t:TypeId} {fl:List Bool} {v:Value} {x:AV} {rf hs:List Nat} (h:EZ P w t fl v x rf hs) (h1:Xm P t fl=false) (h2:SX P t fl x=true):rf= []:=by
 unfold EZ at h;unfold Xm at h1;unfold SX at h2;split at h
 ·rename_i hf;rw [if_pos hf]at h1 h2;obtain⟨us,ys,hg,hc⟩:=h;split at hg
  ·rename_i As;obtain⟨_,rfl,_⟩:=hg;rw [if_pos As]at h2;exact hc.flat h1 h2
  ·rename_i As;obtain⟨_,rfl⟩:=hg;rw [if_neg As]at h2;exact hc.flat h1 h2
 ·rename_i hf;rw [if_neg hf]at h1 h2;rw [h1]at h2;exact YG h.1 (by simpa using h2)
theorem Jq.flat {ts:List TypeId} {fl:List Bool} {vs:List Value} {xs:List AV} {rf hs:List Nat} (h:Jq P w ts fl vs xs rf hs) (h1:Cv P ts fl=false) (h2:SF P ts fl xs=true):rf= []:=by
 induction h with
 |nil=>rfl
 |cons hv _ ih=>simp only [Cv,Bool.or_eq_false_iff]at h1;simp only [SF,Ac]at h2;rw [hv.flat h1.1 h2.1,ih h1.2 h2.2];rfl
theorem Io.flat {ts:List TypeId} {fl:List Bool} {v:Value} {R:AV} {f o:List Nat} (h:Io P w ts fl v R f o) (h1:Cv P ts fl=false) (h2:SP P ts fl R=true):f= []:=by
 match ts,h,h1,h2 with
 | [t],h,h1,h2=>simp only [Cv,Bool.or_false]at h1;exact EZ.flat h h1 h2
 | [],h,h1,h2=>obtain⟨vs,ys,_,rfl,hv⟩:=h;exact hv.flat h1 h2
 |t::u::ts,h,h1,h2=>obtain⟨vs,ys,_,rfl,hv⟩:=h;exact hv.flat h1 h2
theorem Cy.void {ety sz:Nat} {a:Option Addr} {x:AV} {top N:List Nat} (h:Cy w ety sz (.slice a 0 0) x top N):N= []:=by
 obtain⟨xs,_,_,_,⟨_,_,_,h⟩|⟨g,cap,C,hv,h6,_,_,_,_,_,hr⟩⟩:=h
 ·exact h
 ·have h0:xs.length=0:=by injection hv with _ h _;exact h.symm
  have:xs= []:=by cases xs with|nil=>rfl|cons _ _=>simp at h0
  subst this;simp [AH]at hr;cases hr;rfl
theorem E0.flat {c:Cx} {ts:List TypeId} {fl:List Bool} {us:List Value} {rs:List (Option RI)} (h:E7 P c ts fl us rs): ∀{ys:List AV} {f o:List Nat},E0 P w ts fl us ys f o→rs.any RI.lent=false→f= []:=by
 induction h with
 |nil=>intro ys f o hm _;cases hm;rfl
 |row k1 k2 k23 _ _ _ _ ih=>
  intro ys f o hm hl;simp only [List.any_cons,Bool.or_eq_false_iff,RI.lent]at hl;cases hm with
  |own _ q2 q23 _ q4=>
   rw [k2]at q2;cases q2;rcases q23 with⟨_,rfl⟩|⟨q,_⟩
   ·exact ih q4 hl.2
   ·rw [q]at hl;simp at hl
  |deep _ _ _ _ _ q=>exact ih q hl.2
  |skip _ q=>exact ih q hl.2
 |deep k1 k2 k21 k22 _ _ _ _ _ ih=>
  intro ys f o hm hl;simp only [List.any_cons,Bool.or_eq_false_iff]at hl;cases hm with
  |own _ q2 q23 _ q4=>
   rw [k2]at q2;cases q2;rcases q23 with⟨_,rfl⟩|⟨_,q⟩
   ·exact ih q4 hl.2
   ·rw [q]at k22;cases k22
  |deep _ _ _ _ _ q=>exact ih q hl.2
  |skip _ q=>exact ih q hl.2
 |none hv _ ih=>
  intro ys f o hm hl;simp only [List.any_cons,Bool.or_eq_false_iff]at hl;cases hm with
  |own q1 q2 _ q3 q4=>
   rcases hv q1 with hh|⟨a,rfl⟩
   ·rw [hh]at q2;cases q2
   ·rw [Cy.void q3];exact ih q4 hl.2
  |deep _ _ _ _ _ q=>exact ih q hl.2
  |skip _ q=>exact ih q hl.2
theorem Db.flat {c:Cx} {ts:List TypeId} {ms:List PM} {vs:List Value} {bs:List PA} (h:GM P c ts ms vs bs): ∀{Bs:List AV} {f o:List Nat},Db P w ts ms vs Bs f o→C6 P bs=false→Gq P ts ms Bs=true→f= []:=by
 induction h with
 |nil=>intro Bs f o hb _ _;cases hb;rfl
 | @ro ts ms v vs bs hm _ ih=>
  intro Bs f o hb h1 h2;cases hb with
  |nil=>rfl
  |ro _ h8=>simp only [Gq,hm]at h2;exact ih h8 h1 h2
  |va h9 _=>rw [hm]at h9;cases h9
  |mu h9 _ _ _=>rw [hm]at h9;cases h9
  |bx h9 _ _ _ _ _ _ _=>rw [hm]at h9;cases h9
 | @va ts ms own v vs bs us hm _ _ ih=>
  intro Bs f o hb h1 h2;cases hb with
  |nil=>rfl
  |ro h9 _=>rw [hm]at h9;cases h9
  |va _ h8=>simp only [Gq,hm]at h2;exact ih h8 h1 h2
  |mu h9 _ _ _=>rw [hm]at h9;cases h9
  |bx h9 _ _ _ _ _ _ _=>rw [hm]at h9;cases h9
 | @mu t ts ms own v vs bs us rs hm II DQ _ ih=>
  intro Bs f o hb h1 h2;cases hb with
  |ro h9 _=>rw [hm]at h9;cases h9
  |va h9 _=>rw [hm]at h9;cases h9
  | @mu _ _ _ own2 _ _ us2 ys y Bs f1 f o1 o h9 hg Oh h8=>
   rw [hm]at h9;cases h9;simp only [Gq,hm]at h2;simp only [C6,Bool.or_eq_false_iff]at h1;have Lc:us2=us:=by
    split at II
    ·rename_i As;rw [if_pos As]at hg;obtain⟨rfl,_⟩:=hg;exact Y1 II
    ·rename_i As;rw [if_neg As]at hg;rw [hg.1,II]
   subst Lc;rw [E0.flat DQ Oh h1.1,ih h8 h1.2 h2];rfl
  |bx h9 _ _ _ _ _ _ _=>rw [hm]at h9;cases h9
 | @bx t ts ms own own' ty v vs bs T b g olds hm Dl _ _ _ _ _ ih=>
  intro Bs f o hb h1 h2;cases hb with
  |ro h9 _=>rw [hm]at h9;cases h9
  |va h9 _=>rw [hm]at h9;cases h9
  |mu h9 _ _ _=>rw [hm]at h9;cases h9
  |bx h9 Hm _ _ _ hy hc h8=>rw [hm]at h9;cases h9;rw [Dl]at Hm;cases Hm;simp only [Gq,hm,Dl,Ac,hy,List.tail_cons]at h2;simp only [C6,Bool.or_eq_false_iff]at h1;rw [hc.flat h1.1 h2.1,ih h8 h1.2 h2.2];rfl
theorem VN {ts:List TypeId} {ms:List PM} {vs:List Value} {Bs:List AV} {f o:List Nat} (h:Db P w ts ms vs Bs f o):Bs= []↔Bi ts ms=false:=by
 induction h with
 |nil=>simp [Bi]
 |ro hm _ ih=>simp only [Bi,hm,Bool.false_or];exact ih
 |va hm _ ih=>simp only [Bi,hm,Bool.false_or];exact ih
 |mu hm _ _ _ _=>simp only [Bi,hm,Bool.true_or];simp
 |bx hm _ _ _ _ _ _ _ _=>simp only [Bi,hm,Bool.true_or];simp
end
section
variable {P:Program} {c:Cx} {n nx:Nat} {sl sl0:Nat→SV} {hp hp0:Nat→Option Af} {a:Act} {o:Oper} {gs:Gd} {e:AO} {sg:BB} {nv:Nat}
theorem ZE {xs:List Operand}: ∀{ss:List SV},(∀x∈xs,∀s,Bo sl0 gs x=some s→SR c [s] [a.eval x])→xs.mapM (Bo sl0 gs)=some ss→SR c ss (xs.map a.eval):=by
 induction xs with
 |nil=>intro ss _ h;simp at h;subst h;exact .nil
 |cons x xs ih=>intro ss hx h;rw [List.mapM_cons]at h;simp only [Option.bind_eq_bind,Aq,Option.pure_def,Ae]at h;obtain⟨s,hs,ss',ES,rfl⟩:=h;exact(hx x (by simp) s hs).cons (ih (fun y hy=>hx y (by simp [hy])) ES)
theorem MK: ∀{l:List Nat},Jl l=true→l.Nodup
 | [],_=>by simp
 |x::l,h=>by simp only [Jl,Ac,Bool.not_eq_true',List.contains_eq_mem,decide_eq_false_iff_not]at h;exact List.nodup_cons.2 ⟨h.1,MK h.2⟩
theorem pD {c1:Cx} {w':World} {recs:List AA} {hs f o:List Nat} (gw:GW c) (hg: ∀t,(c1.G t).top=(c.G t).top∨(c1.G t).top= []) (hA:c1.A=c.A) (Tb:c1.Mu=c.Mu) (QF:c1.w0=c.w0) (hB:c.w0.heap.size≤c.w.heap.size)
  (hn:(recs.map AA.tag).Nodup) (BV: ∀r∈recs,∀b∈r.top,b∈o) (Fo: ∀b∈hs,∃r∈recs,b∈(c.G r.tag).top) {rf:List Nat} (JV: ∀b∈rf,c1.ok b) (hf: ∀b∈f,b∉o∧(b∈rf∨b∈hs∨c.w.heap.size≤b)): ∀b∈f,(c1.db w' recs).ok b:=by
 intro b hb;obtain⟨h1,h2⟩:=hf b hb;have hM:(c1.db w' recs).M b→ ∃t,(∀r∈recs,r.tag≠t)∧b∈(c1.G t).top:=by
  rintro⟨t,ht⟩;by_cases hT: ∃r∈recs,r.tag=t
  ·obtain⟨r,hr,rfl⟩:=hT;rw [Cx.de hn hr]at ht;exact absurd (BV r hr b ht) h1
  ·rw [Cx.cv fun r hr hh=>hT ⟨r,hr,hh⟩]at ht;exact⟨t,fun r hr hh=>hT ⟨r,hr,hh⟩,ht⟩
 have sub: ∀t,b∈(c1.G t).top→b∈(c.G t).top:=fun t ht=>by
  rcases hg t with hh|hh
  ·rw [←hh];exact ht
  ·rw [hh]at ht;simp at ht
 rcases h2 with h2|h2|h2
 ·refine⟨fun hm=> ?_,(JV b h2).2⟩;obtain⟨t,_,ht⟩:=hM hm;exact(JV b h2).1 ⟨t,ht⟩
 ·obtain⟨r,hr,Qp⟩:=Fo b h2;refine⟨fun hm=> ?_, .inr ?_⟩
  ·obtain⟨t,D0,ht⟩:=hM hm;exact gw.cc r.tag t (D0 r hr) b (by simp [GI.own,Qp]) (by simp [GI.own,sub t ht])
  ·have:=gw.allow r.tag b (by simp [GI.own,Qp]);simp only [Cx.db,Cx.B,QF,Tb]at this ⊢;exact this
 ·refine⟨fun hm=> ?_, .inr (.inl ?_)⟩
  ·obtain⟨t,_,ht⟩:=hM hm;have:=gw.inb t b (by simp [GI.own,sub t ht]);omega
  ·simp only [Cx.db,Cx.B,QF];omega
theorem qN (h:Ba P c n nx sl hp a sl0 hp0 o gs) {cl:Call} {fo:Operand} (ho:o.op= .call cl) (At:cl.callee= .value fo) {g:Nat} {caps:Be} (hf:Bo sl0 gs fo=some (.fn g caps)) {as_:List SV} (has:cl.args.toList.mapM (Bo sl0 gs)=some as_)
  (hg:g<1000000) (he:Pz P sg hp0 gs nv nx g (as_++caps.toList)=some e) (AZ: ∀c',e.call=some c'→ ∃r,c.ρ[nv]?=some r∧Gn (CB P sg) c'.fn ((EL.of c'.args).den c.ρ) c.ρ r):Ar P o c n nx sl hp gs a e:=by
 have T3:fo∈o.op.operands:=by simp [ho,Op.operands,Call.operands,At]
 have T2: ∀x∈cl.args.toList,x∈o.op.operands:=fun x hx=>by
  have:x∈cl.args:=by simpa using hx
  simp [ho,Op.operands,Call.operands,At,this]
 have JV:=h.cm hf T3;generalize TF:a.eval fo=fv at JV;cases JV with
 |fn NR h8=>
 rename_i capv;have Az:=(ZE (a:=a) (fun x hx s hs=>h.cm hs (T2 x hx)) has).app NR;unfold Pz at he;split at he
 ·rename_i fn s Fj Ho;split at he
  ·cases he
  rename_i hlen;simp only [Bool.or_eq_true,not_or,Bool.not_eq_true,bne_eq_false_iff_eq]at hlen;split at he
  ·cases he
  rename_i es bs us uz AR;split at he
  ·cases he
  rename_i BO;simp only [Bool.or_eq_true,Bool.not_eq_true',not_or,Bool.not_eq_false,Bool.not_eq_true]at BO;obtain⟨⟨Ua,Ol⟩,Om⟩:=BO;have On:=MK Ua;have Ff: ∀u∈us,u∉CI bs:=fun u hu hh=>by rw [List.any_eq_false]at Ol;have:=Ol u hu;simp only [List.contains_eq_mem,decide_eq_true_eq]at this;exact this hh
  have It: ∀u∈uz,u∉CI bs:=fun u hu hh=>by rw [List.any_eq_false]at Om;have:=Om u hu;simp only [List.contains_eq_mem,decide_eq_true_eq]at this;exact this hh
  simp only at he;split at he
  ·cases he
  rename_i BU;simp only [Nat.not_le]at BU;split at he
  ·cases he
  rename_i Hj;split at he
  ·cases he
  rename_i fz Fl;have hK: ∀t g,c.K t g→c.U t:=h.rel.bm;obtain⟨rf,lf,hs,q1,q2,qz,q3,q4,q5,q6⟩:=ZO (P:=P) h.rel.base h.eh h.gs hK (as_++caps.toList) AR Az (by rw [hlen.1.2,Aj,Array.length_toList];have:=hlen.2;simp only [decide_eq_false_iff_not,Nat.not_lt]at this;omega);obtain⟨fts,FF,N5⟩: ∃fts,CN hp0 gs fts=some fz∧ ∀t∈fts,t∈us:=by
   split at Fl
   ·exact⟨us,Fl,fun t ht=>ht⟩
   ·simp only [Ae]at Fl;subst Fl;exact⟨[],rfl,by simp⟩
  have Cq:=h.rel.freeze h.hp h.gs FF;have JE: ∀t∈fz.map (·.1),t∈us:=fun t ht=>by obtain⟨⟨t',e'⟩,hm,rfl⟩:=List.mem_map.1 ht;exact N5 _ ((Lr h.gs FF).1 t' e' hm).1
  have NG: ∀t,((c.bg (fz.map (·.1))).G t).top=(c.G t).top∨((c.bg (fz.map (·.1))).G t).top= []:=fun t=>by
   simp only [Cx.bg];split
   ·exact .inr rfl
   ·exact .inl rfl
  have dZ: ∀t∈CI bs,(c.bg (fz.map (·.1))).G t=c.G t:=fun t ht=>by simp only [Cx.bg];rw [if_neg];intro hh;exact Ff t (JE t hh) ht
  have Xx: ∀t∈CI bs,(c.bg (fz.map (·.1))).E t=c.E t:=fun t ht=>by simp only [Cx.bg];rw [if_neg];intro hh;exact Ff t (JE t hh) ht
  have Uq:hs.Nodup:=by
   rw [q3];have: ∀l:List Nat,l.Nodup→(l.flatMap fun t=>(c.G t).top).Nodup:=by
    intro l
    induction l with
    |nil=>intro _;simp
    |cons t l ih=>intro hl;rw [List.nodup_cons]at hl;rw [List.flatMap_cons,List.nodup_append];refine⟨(List.nodup_append.1 (h.rel.gw.nodup t)).1,ih hl.2,fun x hx y hy Fv=> ?_⟩;subst Fv;obtain⟨u,hu,UC⟩:=List.mem_flatMap.1 hy;exact h.rel.gw.cc t u (fun hh=>hl.1 (hh▸hu)) x (by simp [GI.own,hx]) (by simp [GI.own,UC])
   exact this _ On
  have He: ∀b∈hs,∃t∈CI bs,b∈(c.G t).top:=fun b hb=>by rw [q3]at hb;exact List.mem_flatMap.1 hb
  have EB: ∀b∈hs,b∉rf:=fun b hb hr=>by
   obtain⟨t,ht,BZ⟩:=He b hb;rcases q2 b hr with hh|⟨u,hu,F7⟩
   ·exact hh.1 ⟨t,BZ⟩
   ·exact h.rel.gw.cc t u (fun hh=>Ff u hu (hh▸ht)) b (by simp [GI.own,BZ]) (by simp [GI.own,F7])
  have G9: ∀b∈hs,b∉lf:=fun b hb hr=>by
   obtain⟨t,ht,BZ⟩:=He b hb;rcases qz b hr with(hh|⟨u,hu,F7⟩)|⟨h1,h2⟩
   ·exact hh.1 ⟨t,BZ⟩
   ·exact h.rel.gw.cc t u (fun hh=>It u hu (hh▸ht)) b (by simp [GI.own,BZ]) (by simp [GI.own,F7])
   ·rcases h.rel.gw.allow t b (by simp [GI.own,BZ])with k|k
    ·have:c.w0.heap.size≤b:=k;omega
    ·exact h2 k
  have D9: ∃(val:SV) (l:List (Nat × Af)),e={call:=some ⟨.inl g,es⟩,val:=val,bb:=fz++(P1 gs l++after P nv (nx+(fn.resultTypes.toList.flatMap (A0 P)).length) bs 0)}∧
    ∀(R:AV) (w':World) (v:Value) (f1 o1:List Nat),Io P w' fn.resultTypes.toList s.res v R f1 o1→(if Gt bs=0 then E.var nv else .proj (.var nv) 0).den c.ρ=R→ ∃recs:List AA,l=recs.map AA.pair∧recs.flatMap AA.top=o1∧(∀r∈recs,nx≤r.tag∧r.tag<nx+(fn.resultTypes.toList.flatMap (A0 P)).length∧r.new.isSome)∧(recs.map AA.tag).Nodup∧
     (∀r∈recs,∀hs f,r.bb≠ .gd hs f)∧ ∀c',DW c c' w' recs→(∀b∈f1,c'.ok b)→SR c' [val] [v]∧ ∀r∈recs,Co c' r.tag r.bb:=by
   have Bk: ∀{l:List (Nat × Af)} {recs:List AA},l=recs.map AA.pair→(∀t x,(t,x)∈l→ ∀hs f,x≠ .gd hs f)→ ∀r∈recs,∀hs f,r.bb≠ .gd hs f:=by rintro l recs rfl hh r hr;exact hh r.tag r.bb (List.mem_map.2 ⟨r,hr,rfl⟩)
   have fvne: ∀(t:TypeId) (k:Nat) (fl:List Bool) (x:E) (u:Nat) (y:Af),(u,y)∈(Ly P k t fl x).2→ ∀hs f,y≠ .gd hs f:=by
    intro t k fl x u y hy hs f;unfold Ly at hy;split at hy
    ·exact Lu _ _ _ _ _ hy
    ·simp at hy
   split at he
   ·rename_i t OH;simp only [Ae]at he;subst he;refine⟨_,_,rfl,fun R w' v f1 o1 hr hR=> ?_⟩;rw [OH]at hr;obtain⟨recs,e1,e2,e3,e4,e5⟩:=YF (c:=c) (nx:=nx) (x:=if Gt bs=0 then E.var nv else .proj (.var nv) 0) (show EZ P w' t s.res v R f1 o1 from hr) hR;exact⟨recs,e1,e2,by simpa [OH]using e3,e4,Bk e1 (fvne _ _ _ _),e5⟩
   ·rename_i OH;simp only [Ae]at he;subst he;refine⟨_,_,rfl,fun R w' v f1 o1 hr hR=> ?_⟩;obtain⟨vs,ys,rfl,rfl,hv⟩: ∃vs ys,v= .tuple vs.toArray∧R= .tup ys∧Jq P w' fn.resultTypes.toList s.res vs ys f1 o1:=by
     unfold Io at hr;split at hr
     ·rename_i t ht;exact absurd ht (OH t)
     ·exact hr
    obtain⟨recs,e1,e2,e3,e4,e5⟩:=lD (c:=c) (x:=if Gt bs=0 then E.var nv else .proj (.var nv) 0) hv nx 0 (fun k y hy=>by show AV.proj ((if Gt bs=0 then E.var nv else .proj (.var nv) 0).den c.ρ) (0+k)=y;rw [hR];simp [AV.proj,hy])
    have fvsne: ∀(ts:List TypeId) (k:Nat) (fl:List Bool) (x:E) (i u:Nat) (y:Af),(u,y)∈(Kd P k ts fl x i).2→ ∀hs f,y≠ .gd hs f:=by
     intro ts
     induction ts with
     |nil=>intro k fl x i u y hy;simp [Kd]at hy
     |cons t ts ih=>
      intro k fl x i u y hy;simp only [Kd,Ag]at hy;rcases hy with hy|hy
      ·exact fvne _ _ _ _ _ _ hy
      ·exact ih _ _ _ _ _ _ hy
    exact⟨recs,e1,e2,e3,e4,Bk e1 (fvsne _ _ _ _ _),fun c' ha AE=>⟨.tup (by rw [Be.aq];exact(e5 c' ha AE).1) .nil,(e5 c' ha AE).2⟩⟩
  obtain⟨val,l,rfl,K9⟩:=D9;obtain⟨r,hr,AE⟩:=AZ _ rfl;have K8: ∃s',sg g=some s'∧Nz P s' g ((EL.of es).den c.ρ) r:=by have AE:CB P sg g ((EL.of es).den c.ρ) r:=AE;unfold CB at AE;rwa [if_pos hg]at AE
  obtain⟨s',A5,fn',Hc,C5,DD,BD,_,_,Em⟩:=K8;rw [Ho]at A5;cases A5;rw [Fj]at Hc;cases Hc;rw [EL.cy]at Em;have AZ:=Em c.w _ rf lf hs q1 EB G9 Uq (h.rel.kx fun b hb=>by obtain⟨t,_,ht⟩:=He b hb;exact⟨t,ht⟩);have ex:(execOp a.eval o).run P c.w= .ok (.enter g (cl.args.map a.eval++capv.toArray)) c.w:=by
   have hb:fn.body.isNone=false:=by simpa using C5
   simp only [execOp,ho,resolve,At,TF,Deferred.ofValue,Sem.run_bind,Sem.run_pure,Result.andThen_ok,invoke,callFunc,run_program,Fj];simp [DD,hb]
  intro next Q hk
  unfold Oper.wp;rw [ex,Oper.upon_enter];have KJ:cl.args.map a.eval++capv.toArray=((cl.args.toList.map a.eval)++capv).toArray:=by apply Array.ext';simp
  rw [KJ];refine AZ.mono ?_;rintro e' w' ⟨v,rfl,⟨R,Bs,f1,o1,f2,o2,IE,AN,D8,Fq,Ot,NZ⟩,CW⟩;show next (a.put o.dst v) w'
  have dX: ∀k y,Bs[k]?=some y→(E.proj (.var nv) (0+k+1)).den c.ρ=y:=by
   intro k y hy;cases Bs with
   |nil=>simp at hy
   |cons B Bs=>simp only [E.den,hr,Option.getD_some,IE,AV.proj,Nat.zero_add,List.getElem?_cons_succ,hy]
  obtain⟨Ok,recsB,hB⟩:=nK (w':=w') q4 hK (r:=nv) (nx+(fn.resultTypes.toList.flatMap (A0 P)).length) 0 D8 dX;have hR:(if Gt bs=0 then E.var nv else .proj (.var nv) 0).den c.ρ=R:=by
   cases Bs with
   |nil=>rw [if_pos (by simpa using Ok.symm)];simp only [E.den,hr,Option.getD_some,IE]
   |cons B Bs=>rw [if_neg (by rw [←Ok];simp)];simp [E.den,hr,IE,AV.proj]
  obtain⟨recsV,v1,v2,v3,v4,v5,v6⟩:=K9 R w' v f1 o1 AN hR;have EI: ∀t,nx≤t→t<nx+((fn.resultTypes.toList.flatMap (A0 P)).length+Ig P bs)→ ¬c.U t:=fun t h1 h2=>h.new t h1 (by omega);have NF:=hB.nodup On fun t h1 h2=>EI t (by omega) (by omega);have Cb:((recsV++recsB).map AA.tag).Nodup:=by
   rw [List.map_append,List.nodup_append];refine⟨v4,NF,fun t1 h1 t2 h2 he=> ?_⟩;obtain⟨p1,Uf,rfl⟩:=List.mem_map.1 h1;obtain⟨p2,XU,rfl⟩:=List.mem_map.1 h2;have a1:=v3 p1 Uf;cases hn:p2.new with
   |none=>exact EI p1.tag (by omega) (by omega) (he▸(hB.old p2 XU hn).2)
   |some _=>have:=hB.new p2 XU (by simp [hn]);omega
  have FI: ∀r∈recsV++recsB,r.new.isSome=true→nx≤r.tag∧r.tag<nx+((fn.resultTypes.toList.flatMap (A0 P)).length+Ig P bs):=fun r hr hn=>by
   rcases Ag.1 hr with hr|hr
   ·have:=v3 r hr;omega
   ·have:=hB.new r hr hn;omega
  have DI:((recsV++recsB).flatMap AA.top).Sublist (o1++o2):=by rw [List.flatMap_append,v2];exact(List.Sublist.refl _).append hB.j6
  have TO: ∀b∈hs,∃r∈recsV++recsB,b∈(c.G r.tag).top:=fun b hb=>by obtain⟨t,ht,BZ⟩:=He b hb;obtain⟨r,hr,rfl⟩:=hB.all t ht;exact⟨r,by simp [hr],BZ⟩
  have Oa: ∀b∈hs,∃r∈recsV++recsB,b∈((c.bg (fz.map (·.1))).G r.tag).top:=fun b hb=>by obtain⟨t,ht,BZ⟩:=He b hb;obtain⟨r,hr,rfl⟩:=hB.all t ht;exact⟨r,by simp [hr],by rw [dZ _ ht];exact BZ⟩
  have Hq: ∀r∈recsV++recsB,∀b∈r.top,b∈o1++o2:=fun r hr b hb=>DI.subset (List.mem_flatMap.2 ⟨r,hr,hb⟩);have K4: ∀b∈f1++f2,((c.bg (fz.map (·.1))).db w' (recsV++recsB)).ok b:=by
   cases QE:(Cv P fn.resultTypes.toList s.res||C6 P bs)with
   |false=>
    simp only [Bool.or_eq_false_iff]at QE;have E2:SP P fn.resultTypes.toList s.res R=true∧Gq P (fn.params.toList++s.ft) s.ch Bs=true:=by
     unfold MU at BD;cases KG:Bs with
     |nil=>
      rw [if_neg (by rw [(VN D8).1 KG];simp)]at BD;rw [KG]at IE;rw [IE]at BD;refine⟨BD, ?_⟩;have: ∀(ts:List TypeId) (ms:List PM),Gq P ts ms []=true:=by
       intro ts
       induction ts with
       |nil=>intro ms;rfl
       |cons t ts ih=>
        intro ms;unfold Gq;split
        ·exact ih _
        ·exact ih _
        ·exact ih _
        ·split
         ·rename_i hh;cases hh
         ·simpa using ih _
      exact this _ _
     |cons B Bs'=>
      rw [if_pos (by
       cases hh:Bi (fn.params.toList++s.ft) s.ch with
       |true=>rfl
       |false=>rw [(VN D8).2 hh]at KG;cases KG)]at BD
      rw [IE,KG]at BD;simpa using BD
    have e1:f1= []:=AN.flat QE.1 E2.1;have e2:f2= []:=Db.flat q4 D8 QE.2 E2.2;subst e1;subst e2;simp
   |true=>rw [QE]at Hj Fl;simp only [Bool.true_and,Bool.not_eq_true',Bool.not_eq_false]at Hj;simp only [if_true]at Fl;exact pD (rf:=rf) h.rel.gw NG rfl rfl rfl h.rel.base.size Cb Hq TO (fun b hb=>Pc h.rel h.eh h.gs Fl (by simpa using Hj) (q2 b hb)) NZ
  have NX:after P nv (nx+(fn.resultTypes.toList.flatMap (A0 P)).length) bs 0=recsB.map fun r=>(r.tag,B9 gs r.bb):=by
   cases NO:bs with
   |nil=>
    have:=hB.ents;rw [NO]at this;simp only [after]at this;have:recsB= []:=by simpa using this.symm
    rw [this];rfl
   |cons b bs'=>have DY:=q6 (by rw [NO];simp);rw [←NO,hB.ents,DY];rfl
  have Bb:P1 gs l++after P nv (nx+(fn.resultTypes.toList.flatMap (A0 P)).length) bs 0=(recsV++recsB).map fun r=>(r.tag,B9 gs r.bb):=by rw [NX,List.map_append];congr 1;rw [v1];simp [P1,AA.pair]
  obtain⟨Ea,Bv⟩:=Cq.changes (w':=w') (recs:=recsV++recsB) (hs:=hs) (gs:=gs) h.gs CW Cb (fun r hr hn=>by have:=FI r hr hn;exact EI _ this.1 this.2) Oa (DI.nodup Fq) (fun r hr b hb=>Ot b (Hq r hr b hb))
   (fun r hr=>by
    rcases Ag.1 hr with hr|hr
    ·exact v5 r hr
    ·exact hB.ne r hr)
   (fun _ r hr=>by
    have aft:=Cx.dc (c:=c.bg (fz.map (·.1))) (w':=w') (recs:=recsV++recsB) h.rel.bm Cb (fun r hr hn=>by have:=FI r hr hn;exact EI _ this.1 this.2);have aft':DW c ((c.bg (fz.map (·.1))).db w' (recsV++recsB)) w' (recsV++recsB):=⟨aft.ρ,aft.w,aft.G,aft.new,aft.K,aft.old,aft.iw,fun r hr DE=>(aft.fq r hr DE).trans (by
     rcases Ag.1 hr with hr|hr
     ·have:=(v3 r hr).2.2;rw [DE]at this;cases this
     ·rw [Xx _ (hB.old r hr DE).1])⟩
    rcases Ag.1 hr with hr|hr
    ·exact(v6 _ (aft'.mono fun r hr=>by simp [hr]) fun b hb=>K4 b (by simp [hb])).2 r hr
    ·exact hB.ok _ (aft'.mono fun r hr=>by simp [hr]) (fun b hb=>K4 b (by simp [hb])) r hr)
  have aft:=Cx.dc (c:=c.bg (fz.map (·.1))) (w':=w') (recs:=recsV++recsB) h.rel.bm Cb (fun r hr hn=>by have:=FI r hr hn;exact EI _ this.1 this.2);have aft':DW c ((c.bg (fz.map (·.1))).db w' (recsV++recsB)) w' (recsV++recsB):=⟨aft.ρ,aft.w,aft.G,aft.new,aft.K,aft.old,aft.iw,fun r hr DE=>(aft.fq r hr DE).trans (by
     rcases Ag.1 hr with hr|hr
     ·have:=(v3 r hr).2.2;rw [DE]at this;cases this
     ·rw [Xx _ (hB.old r hr DE).1])⟩
  have Hs:=(v6 _ (aft'.mono fun r hr=>by simp [hr]) fun b hb=>K4 b (by simp [hb])).1;rw [←Bb,←LB]at Ea;refine hk _ ((c.bg (fz.map (·.1))).db w' (recsV++recsB)) ⟨rfl,rfl,rfl,rfl,fun t ht=> ?_⟩ (Ea.put (Hs.mkGd gs h.gs) o.dst);rcases ht with ht|⟨r,hr,rfl⟩
  ·exact .inl ht
  ·cases hn:r.new with
   |none=>
    rcases Ag.1 hr with hr|hr
    ·have:=(v3 r hr).2.2;rw [hn]at this;cases this
    ·exact .inl (hB.old r hr hn).2
   |some _=>have:=FI r hr (by simp [hn]);exact .inr ⟨this.1,by simp only [Bj];omega⟩
 ·cases he
end
def BG (c:Cx) (us:List Nat):List Nat:=us.flatMap fun t=>(c.G t).top
theorem Wa (c:Cx):BG c []= []:=rfl
theorem R3 (c:Cx) (u:Nat) (us:List Nat):BG c (u::us)=(c.G u).top++BG c us:=by simp [BG]
theorem HD (c:Cx) (us vs:List Nat):BG c (us++vs)=BG c us++BG c vs:=by simp [BG]
theorem ME {c:Cx} {us:List Nat} {b:Nat}:b∈BG c us↔ ∃t∈us,b∈(c.G t).top:=by simp [BG]
theorem Rn {c:Cx} (gw:GW c): ∀{l:List Nat},l.Nodup→(BG c l).Nodup
 | [],_=>by simp [BG]
 |t::l,hl=>by
  rw [R3,List.nodup_append];rw [List.nodup_cons]at hl;refine⟨?_,Rn gw hl.2,fun a ha b hb eM=> ?_⟩
  ·have:=gw.nodup t;simp only [GI.own]at this;exact(List.nodup_append.1 this).1
  ·subst eM;obtain⟨u,hu,F7⟩:=ME.1 hb;exact gw.cc t u (fun hh=>hl.1 (hh▸hu)) a (by simp [GI.own,ha]) (by simp [GI.own,F7])
section
variable {P:Program} {c:Cx} {hp:Nat→Option Af} {gs:Gd}
theorem WC {m:Nat} {u g:Nat} {x y:E} (hx:A9 hp gs m (.own u g)=some x) (hy:Gh hp gs u g=some y):x=y:=by
 cases m with
 |zero=>simp [A9]at hx
 |succ m=>simp only [A9,hy,Ae]at hx;exact hx.symm
theorem aI {m:Nat} {x:E} (h:A9 hp gs m .emp=some x):x= .lst .nil:=by
 cases m with
 |zero=>simp [A9]at h
 |succ m=>simp [A9]at h;exact h.symm
theorem mZ (eh:EH c hp) (k:A2 c.ρ gs) {d:DT} {s:SV} {us:List Nat} {ck:List Cn} {v:Value} {x:E} {m:Nat} (h:W1 hp gs d s=some (us,ck)) (hs:SR c [s] [v]) (hx:A9 hp gs m s=some x) (hc: ∀q∈ck,q.den c.ρ):
  DC c.w [d] [v] [x.den c.ρ] (BG c us)∧ ∀u∈us,∃g,c.K u g:=by
 unfold W1 at h;split at h
 ·rename_i y;simp only [Ae,Prod.mk.injEq]at h;obtain⟨rfl,rfl⟩:=h;rw [Ic hx];cases hs with
  |e h1 h2 h3=>
   rename_i f;have D2:(y.den c.ρ).scalar=true:=by
    cases hl:Qc y with
    |true=>cases y<;>simp [Qc]at hl<;>rfl
    |false=>rw [hl]at hc;exact(Bu hc).2.2.2 rfl
   have hf:f= []:=FR h1 (by simpa using D2);subst hf;exact⟨.flat h1 .nil,by simp⟩
 ·split at h
  ·rename_i hh;simp only [Ae,Prod.mk.injEq]at h;obtain⟨rfl,rfl⟩:=h;rw [I5 hx];cases hs with
   |bp _=>exact⟨.void hh.1 hh.2 .nil,by simp⟩
  ·cases h
 ·split at h
  ·rename_i hh;simp only [Ae,Prod.mk.injEq]at h;obtain⟨rfl,rfl⟩:=h;rw [aI hx];cases hs with
   |emp _=>exact⟨.void hh.1 hh.2 .nil,by simp⟩
  ·cases h
 ·rename_i e z l u g;split at h
  ·rename_i e' z' l' g' ep y hl;split at h
   ·rename_i hh;obtain⟨rfl,rfl,rfl,hb⟩:=hh;simp only [Ae,Prod.mk.injEq]at h;obtain⟨rfl,rfl⟩:=h;obtain⟨q1,q2,q3,q4,q5⟩:=eh u _ (Ce hl k);rw [WC (y:=y) hx (by simp only [Gh,hl,if_true])];have hb:=AF.of_eq hb;subst hb;rw [AF.cj]at q4;cases hs with
    |own k1 k2 _=>rw [k2]at q4;exact⟨by rw [R3,Wa,List.append_nil];exact q4,fun w hw=>by simp at hw;subst hw;exact⟨_,k1⟩⟩
   ·cases h
  ·rename_i e' z' g' y hl;split at h
   ·rename_i hh;obtain⟨rfl,rfl,rfl,hf,hlen⟩:=hh;simp only [Ae,Prod.mk.injEq]at h;obtain⟨rfl,rfl⟩:=h;obtain⟨q1,q2,N,q4,q5,q6,q7⟩:=eh u _ (Ce hl k);obtain⟨hN,_⟩:=q6 rfl;have hN:N= []:=hN;subst hN;rw [WC (y:=y) hx (by simp only [Gh,hl,if_true])];cases hs with
    |own k1 k2 _=>rw [k2]at q4;exact⟨by rw [R3,Wa,List.append_nil];exact DC.jn q4 hf hlen,fun w hw=>by simp at hw;subst hw;exact⟨_,k1⟩⟩
   ·cases h
  ·cases h
 ·cases h
theorem Vy (eh:EH c hp) (k:A2 c.ρ gs): ∀(ds:List DT) {ss:List SV} {us:List Nat} {ck:List Cn} {vs:List Value} {xs:EL} {m:Nat},Ko hp gs ds ss=some (us,ck)→SR c ss vs→BQ hp gs m ss=some xs→(∀q∈ck,q.den c.ρ)→
  DC c.w ds vs (xs.den c.ρ) (BG c us)∧ ∀u∈us,∃g,c.K u g
 | [], [],us,ck,vs,xs,m,h,hs,hx,hc=>by
  simp [Ko]at h;obtain⟨rfl,rfl⟩:=h;cases hs;cases m with
  |zero=>simp [BQ]at hx
  |succ m=>simp [BQ]at hx;subst hx;exact⟨.nil,by simp⟩
 | [],_::_,us,ck,vs,xs,m,h,hs,hx,hc=>by simp [Ko]at h
 |_::_, [],us,ck,vs,xs,m,h,hs,hx,hc=>by simp [Ko]at h
 |d::ds,s::ss,us,ck, [],xs,m,h,hs,hx,hc=>by have:=hs.len;simp at this
 |d::ds,s::ss,us,ck,v::vs,xs,m,h,hs,hx,hc=>by
  obtain⟨j,y,ys,rfl,hy,CC,rfl⟩:=H4 hx;obtain⟨r1,r2⟩:=hs.br;unfold Ko at h;split at h
  ·rename_i us1 ck1 us2 ck2 h1 h2;simp only [Ae,Prod.mk.injEq]at h;obtain⟨rfl,rfl⟩:=h;obtain⟨q1,q2⟩:=mZ eh k h1 r1 hy fun q hq=>hc q (by simp [hq]);obtain⟨q3,q4⟩:=Vy eh k ds h2 r2 CC fun q hq=>hc q (by simp [hq]);refine⟨by rw [HD];exact q1.app q3,fun u hu=> ?_⟩;rcases Ag.1 hu with hu|hu
   ·exact q2 u hu
   ·exact q4 u hu
  ·cases h
theorem YK (eh:EH c hp) (k:A2 c.ρ gs) {t:TypeId} {ds:List DT} {s:SV} {us:List Nat} {ck:List Cn} {v:Value} {x:E} (Fg:ds.length=P.cellsOf t) (hg:Ak P t=true∨P.cellsOf t=1) (h:Nc P hp gs t ds s=some (x,us,ck)) (hs:SR c [s] [v]) (hc: ∀q∈ck,q.den c.ρ):
  DC c.w ds v.cells.toList (x.den c.ρ).cells (BG c us)∧(∀u∈v.cells.toList,u.oneCell'=true)∧(x.den c.ρ).cells.length=P.cellsOf t∧v.cells.size=P.cellsOf t∧
   (if Ak P t then∃cs,x.den c.ρ= .agg cs else(∀cs,x.den c.ρ≠ .agg cs)∧ ∀cs,x.den c.ρ≠ .tup cs)∧ ∀u∈us,∃g,c.K u g:=by
 unfold Nc at h;split at h
 ·cases h
 rename_i y hy;split at h
 ·rename_i E2;simp only [Ae,Prod.mk.injEq]at h;obtain⟨rfl,rfl,rfl⟩:=h;obtain⟨f,q1,q2⟩:=FV eh k AK hy hs AK (Nat.le_refl _);obtain⟨c1,c2,c3,c4⟩:=Bu hc;have D9:if Ak P t then∃cs,y.den c.ρ= .agg cs∧cs.length=P.cellsOf t else(∀cs,y.den c.ρ≠ .agg cs)∧ ∀cs,y.den c.ρ≠ .tup cs:=by
   split
   ·rename_i As;obtain⟨cs,Bp⟩:=c3 As;exact⟨cs,Bp,by rw [Bp]at c1;exact c1⟩
   ·rename_i As;have:=c4 (by simpa using As);exact⟨fun cs Bp=>by rw [Bp]at this;simp [AV.scalar]at this,fun cs Bp=>by rw [Bp]at this;simp [AV.scalar]at this⟩
  have hf:f= []:=by
   cases XO:Ak P t with
   |true=>obtain⟨cs,Bp⟩:=c3 XO;obtain⟨as_,rfl,_,r⟩:=HK q1 Bp;exact FR r (by rw [Bp]at c2;exact c2)
   |false=>exact FR q1 (by simpa using c4 XO)
  subst hf;obtain⟨o1,o2,o3,o4⟩:=V8 (P:=P) q1 hg D9;refine⟨DC.kf o1 E2 (by rw [Fg];simpa using o4.symm),o2,o3,o4, ?_,by simp⟩;split at D9
  ·rename_i As;rw [if_pos As];obtain⟨cs,Bp,_⟩:=D9;exact⟨cs,Bp⟩
  ·rename_i As;rw [if_neg As];exact D9
 ·rename_i EJ;split at h
  ·cases h
  rename_i As;have As:(FQ s).2=Ak P t:=by simpa using As
  obtain⟨⟨us',ck'⟩,hr,h⟩:=Ap.1 h;simp only [Prod.mk.injEq]at h;obtain⟨rfl,rfl,rfl⟩:=h;have single:Ak P t=false→Ko hp gs ds [s]=some (us',ck')→DC c.w ds v.cells.toList (y.den c.ρ).cells (BG c us')∧(∀u∈v.cells.toList,u.oneCell'=true)∧(y.den c.ρ).cells.length=P.cellsOf t∧v.cells.size=P.cellsOf t∧
   (if Ak P t then∃cs,y.den c.ρ= .agg cs else(∀cs,y.den c.ρ≠ .agg cs)∧ ∀cs,y.den c.ρ≠ .tup cs)∧ ∀u∈us',∃g,c.K u g:=by
   intro As hr;have A7:BQ hp gs (AK+1) [s]=some (.cons y .nil):=by unfold BQ;rw [hy];rfl
   obtain⟨q1,q2⟩:=Vy eh k ds hr hs A7 hc;have XL:=q1.len;simp only [EL.den,An,List.length_nil]at XL
   match ds,XL,q1,EJ,Fg with
   | [d],_,q1,EJ,Fg=>
    cases d with
    |flat=>simp [DT.bh]at EJ
    |row e z l=>
     obtain⟨p,q,r,rfl⟩:=q1.head;obtain⟨xs,B5⟩: ∃xs,y.den c.ρ= .sl xs:=by
      obtain⟨_,_,⟨_,_,hx,_⟩|⟨_,_,_,_,_,_,hx,_⟩⟩:=q1.inv
      ·exact⟨_,hx⟩
      ·exact⟨_,hx⟩
     rw [if_neg (by rw [As];simp)];refine⟨?_,by simp [Value.cells,Value.oneCell'],by rw [B5,←Fg];rfl,by rw [←Fg];rfl, ?_,q2⟩
     ·simp only [EL.den]at q1;rw [B5]at q1 ⊢;exact q1
     ·rw [B5];exact⟨fun cs hh=>(by cases hh),fun cs hh=>(by cases hh)⟩
  cases s with
  |agg cs=>
   simp only [FQ]at As hr;obtain⟨m,l,hm,hl,rfl⟩:=Pp hy;cases hs with
   |agg h9 h1 h8=>rename_i as_;obtain⟨q1,q2⟩:=Vy eh k ds hr h1 hl hc;obtain⟨l1,l2⟩:=q1.len;rw [if_pos As.symm];exact⟨by simpa [Value.cells,AV.cells,E.den]using q1,by simpa [Value.cells]using h9,by simp only [E.den,AV.cells];omega,by simp [Value.cells];omega,⟨_,rfl⟩,q2⟩
  |_=>exact single As.symm hr
theorem YE (eh:EH c hp) (k:A2 c.ρ gs) {t:TypeId} {ds:List DT} (Fg:ds.length=P.cellsOf t) (hg:Ak P t=true∨P.cellsOf t=1): ∀(ss:List SV) (vs:List Value) {xs:List E} {us:List Nat} {ck:List Cn},SR c ss vs→Pq P hp gs t ds ss=some (xs,us,ck)→(∀q∈ck,q.den c.ρ)→
  DC c.w (Cp vs.length ds) (vs.flatMap fun v=>v.cells.toList) (AH (xs.map (E.den c.ρ))) (BG c us)∧(∀v∈vs,v.cells.size=P.cellsOf t∧ ∀u∈v.cells.toList,u.oneCell'=true)∧(∀x∈xs,(x.den c.ρ).cells.length=P.cellsOf t)∧xs.length=vs.length∧ ∀u∈us,∃g,c.K u g
 | [],vs,xs,us,ck,hr,ht,hc=>by simp [Pq]at ht;obtain⟨rfl,rfl,rfl⟩:=ht;cases hr;exact⟨by simpa [AH,Cp,BG]using DC.nil,by simp,by simp,rfl,by simp⟩
 |s::ss, [],xs,us,ck,hr,ht,hc=>by have:=hr.len;simp at this
 |s::ss,v::vs,xs,us,ck,hr,ht,hc=>by
  obtain⟨r1,r2⟩:=hr.br;unfold Pq at ht;split at ht
  ·rename_i x us1 ck1 xs2 us2 ck2 h1 h2;simp only [Ae,Prod.mk.injEq]at ht;obtain⟨rfl,rfl,rfl⟩:=ht;obtain⟨q1,q2,q3,q4,q5,q6⟩:=YK eh k Fg hg h1 r1 (fun q hq=>hc q (by simp [hq]));obtain⟨p1,p2,p3,p4,p5⟩:=YE eh k Fg hg ss vs r2 h2 (fun q hq=>hc q (by simp [hq]));refine⟨?_, ?_, ?_,by simp [p4], ?_⟩
   ·have:=q1.app p1;rw [An,Lx,HD];simpa [AH]using this
   ·intro u hu;rcases Ad.1 hu with rfl|hu
    ·exact⟨q4,q2⟩
    ·exact p2 u hu
   ·intro u hu;rcases Ad.1 hu with rfl|hu
    ·exact q3
    ·exact p3 u hu
   ·intro u hu;rcases Ag.1 hu with hu|hu
    ·exact q6 u hu
    ·exact p5 u hu
  ·cases ht
theorem Y4 (eh:EH c hp) (k:A2 c.ρ gs) {e z:Nat} {l:List DT} {s:SV} {us:List Nat} {v:Value} {y:E} {m:Nat} (h:PR hp gs e z l s=some us) (hs:SR c [s] [v]) (hy:A9 hp gs m s=some y):
  ∃ys q r news N,y.den c.ρ= .sl ys∧v= .slice q ys.length r∧Src c.w z q ys.length news∧DC c.w (Cp ys.length l) news (AH ys) N∧N.Sublist (BG c us)∧(∀y∈ys,y.cells.length=z)∧(∀u∈news,u.oneCell'=true)∧ ∀u∈us,∃g,c.K u g:=by
 have empt: ∀q,v= .slice q 0 0→y= .lst .nil→us= []→ ∃ys q r news N,y.den c.ρ= .sl ys∧v= .slice q ys.length r∧Src c.w z q ys.length news∧DC c.w (Cp ys.length l) news (AH ys) N∧N.Sublist (BG c us)∧(∀y∈ys,y.cells.length=z)∧(∀u∈news,u.oneCell'=true)∧ ∀u∈us,∃g,c.K u g:=by
  rintro q rfl rfl rfl;refine⟨[],q,0, [], [],rfl,rfl, ?_,by simpa [Cp,AH]using DC.nil,by simp,by simp,by simp,by simp⟩;cases q with
  |none=>exact .inl ⟨rfl,rfl,rfl⟩
  |some p=>exact .inr ⟨p,rfl,by simp,by simp,by simp⟩
 unfold PR at h;split at h
 ·simp only [Ae]at h;cases hs with
  |bp _=>exact empt _ rfl (I5 hy) h.symm
 ·simp only [Ae]at h;cases hs with
  |emp _=>exact empt _ rfl (aI hy) h.symm
 ·rename_i u g;split at h
  ·rename_i e' z' l' g' ep x hl;split at h
   ·rename_i hh;obtain⟨rfl,rfl,rfl,hb⟩:=hh;simp only [Ae]at h;subst h;have hb:=AF.fj hb;subst hb;obtain⟨q1,q2,q3,q4,q5⟩:=eh u _ (Ce hl k);have Gg:=WC (y:=x) hy (by simp only [Gh,hl,if_true]);subst Gg;cases hs with
    |own k1 k2 k3=>
     rename_i p0 n0 r0;rw [k2]at q4;have hK: ∀w∈ [u],∃g,c.K w g:=fun w hw=>by simp at hw;subst hw;exact⟨_,k1⟩
     obtain⟨d1,d2,⟨a9,d3,d4,d5⟩|⟨g9,cap,C,ys,N1,d3,d4,d5,d6,d7,d8,d9,d10,d11,d12⟩⟩:=q4.inv
     ·cases d3;refine⟨[],_,0, [], [],d4,rfl, ?_,by simpa [Cp,AH]using DC.nil,by simp,by simp,by simp,hK⟩;cases p0 with
      |none=>exact .inl ⟨rfl,rfl,rfl⟩
      |some p=>exact .inr ⟨p,rfl,by simp,by simp,by simp⟩
     ·cases d3;rw [AF.aq]at d12;have C4:C.toList.length=r0*z:=by simpa using d9
      refine⟨ys,_,r0,_,N1,d4,rfl, .inr ⟨_,rfl, ?_,fun j w hw=> ?_,d11⟩,d12, ?_,d10,d11,hK⟩
      ·rw [List.length_take,C4];exact Nat.min_eq_left (Nat.mul_le_mul_right _ d7)
      ·rw [Addr.add_lit,Nat.zero_add,DS d6];rw [List.getElem?_take]at hw;split at hw
       ·simpa using hw
       ·cases hw
      ·rw [R3,Wa,List.append_nil,d5];exact List.sublist_cons_self _ _
   ·cases h
  ·cases h
 ·cases h
end
def Ey (T:List Nat):List AA:=T.map fun u=>⟨u,none, [], .dead⟩
theorem qF (T:List Nat):(Ey T).flatMap AA.top= []:=by induction T<;>simp_all [Ey]
theorem pZ (T:List Nat):(Ey T).map AA.tag=T:=by induction T<;>simp_all [Ey]
theorem nP (T:List Nat):((Ey T).map fun r=>(r.tag,B9 [] r.bb))=D5 T:=by simp [Ey,D5,B9]
theorem Pe {T:List Nat} {r:AA} (h:r∈Ey T):r.tag∈T∧r.new=none∧r.top= []∧r.bb= .dead:=by obtain⟨u,hu,rfl⟩:=List.mem_map.1 h;exact⟨hu,rfl,rfl,rfl⟩
section
variable {P:Program} {c:Cx} {n nx:Nat} {sl sl0:Nat→SV} {hp hp0:Nat→Option Af} {a:Act} {o:Oper} {gs:Gd} {e:AO} {sg:BB} {nv:Nat}
theorem Rel.jq (h:Rel c n sl hp a) {T:List Nat} (hT:T.Nodup) (E1: ∀u∈T,c.U u) {r0:AA} (GC:r0.tag∉T) (FK:r0.new.isSome=true→ ¬c.U r0.tag) (CY:r0.new=none→c.U r0.tag) {w':World} {hs:List Nat} (Fo: ∀b∈hs,b∈(c.G r0.tag).top∨b∈BG c T) (hm:Mod hs c.w w')
  (BO:r0.top.Nodup) (B6: ∀b∈r0.top,(b∈hs∨c.w.heap.size≤b)∧b<w'.heap.size) (Bk: ∀q f,r0.bb≠ .gd q f)
  (he:CQ c (c.db w' (r0::Ey T))→DW c (c.db w' (r0::Ey T)) w' (r0::Ey T)→Co (c.db w' (r0::Ey T)) r0.tag r0.bb):
  Rel (c.db w' (r0::Ey T)) n sl (AX hp ((r0.tag,r0.bb)::D5 T)) a∧CQ c (c.db w' (r0::Ey T))∧DW c (c.db w' (r0::Ey T)) w' (r0::Ey T)∧ ∀t,(c.db w' (r0::Ey T)).U t→c.U t∨t=r0.tag:=by
 have hn:((r0::Ey T).map AA.tag).Nodup:=by rw [List.map_cons,pZ];exact List.nodup_cons.2 ⟨GC,hT⟩
 have AS: ∀r∈r0::Ey T,r.new.isSome=true→ ¬c.U r.tag:=fun r hr hs=>by
  rcases Ad.1 hr with rfl|hr
  ·exact FK hs
  ·rw [(Pe hr).2.1]at hs;cases hs
 have aft:=Cx.dc (w':=w') h.bm hn AS;obtain⟨q1,q2⟩:=h.changes (gs:= []) (DR _) hm hn AS (fun b hb=>by
   rcases Fo b hb with hb|hb
   ·exact⟨r0,by simp,hb⟩
   ·obtain⟨t,ht,BZ⟩:=ME.1 hb;exact⟨⟨t,none, [], .dead⟩,List.mem_cons_of_mem _ (List.mem_map.2 ⟨t,ht,rfl⟩),BZ⟩)
  (by rw [List.flatMap_cons,qF,List.append_nil];exact BO)
  (fun r hr b hb=>by
   rcases Ad.1 hr with rfl|hr
   ·exact B6 b hb
   ·rw [(Pe hr).2.2.1]at hb;cases hb)
  (fun r hr=>by
   rcases Ad.1 hr with rfl|hr
   ·exact Bk
   ·rw [(Pe hr).2.2.2];intros;simp)
  (fun hk r hr=>by
   rcases Ad.1 hr with rfl|hr
   ·exact he hk aft
   ·have kg:=aft.G r (List.mem_cons_of_mem _ hr);obtain⟨_,_,e1,e2⟩:=Pe hr;rw [e2];exact⟨by rw [kg,e1],by rw [kg]⟩)
 refine⟨?_,q2,aft,fun t ht=> ?_⟩
 ·rw [List.map_cons,nP]at q1;have:B9 [] r0.bb=r0.bb:=rfl;rw [this]at q1;exact q1
 ·rcases ht with ht|⟨r,hr,rfl⟩
  ·exact .inl ht
  ·rcases Ad.1 hr with rfl|hr
   ·exact .inr rfl
   ·exact .inl (E1 _ (Pe hr).1)
theorem Ar.ej (h:Ba P c n nx sl hp a sl0 hp0 o []) {T:List Nat} (hT:T.Nodup) (E1: ∀u∈T,∃g,c.K u g) {v':Value} {w':World} {ck:List Cn} {e z:Nat} {l:List DT} {x:E} {top:List Nat} (hr:(execOp a.eval o).run P c.w= .ok (.value v') w') (hm:Mod (BG c T) c.w w')
  (BO:top.Nodup) (B6: ∀b∈top,(b∈BG c T∨c.w.heap.size≤b)∧b<w'.heap.size) (hd:DC w' [.row e z (AF.of l)] [v'] [x.den c.ρ] top):
  Ar P o c n nx sl hp [] a {cd:=ck,val:= .own nx 0,bb:=(nx, .deep e z l 0 0 x)::D5 T}:=by
 intro next Q hk
 unfold Oper.wp;rw [hr,Oper.upon_value];have hU:=LC h;have Is: ∀u∈T,c.U u:=fun u hu=>by obtain⟨g,hg⟩:=E1 u hu;exact h.rel.bm _ _ hg
 obtain⟨q1,q2,q3,q4⟩:=h.rel.jq (r0:=⟨nx,some v',top, .deep e z l 0 0 x⟩) hT Is (fun hh=>hU (Is _ hh)) (fun _=>hU) (fun hh=>by cases hh) (fun b hb=> .inr hb) hm BO B6 (by intros;simp) (fun _ aft=>by obtain⟨k1,k2,k3⟩:=aft.new _ (List.mem_cons_self ..) v' rfl;have kg:=aft.G _ (List.mem_cons_self ..);have ke:=aft.iw _ (List.mem_cons_self ..) rfl;simp only at k1 k2 k3 kg ke;exact⟨k1,k2,ke,by rw [k3,kg,aft.w,aft.ρ];exact hd,by rw [kg]⟩)
 obtain⟨k1,k2,k3⟩:=q3.new _ (List.mem_cons_self ..) v' rfl;simp only at k1 k3;obtain⟨p,m,r,rfl⟩:=hd.head;refine hk _ (c.db w' _) ⟨rfl,rfl,rfl,rfl,fun t ht=> ?_⟩ (q1.put (SR.own k1 k3 .nil) o.dst);rcases q4 t ht with ht|rfl
 ·exact .inl ht
 ·exact .inr ⟨Nat.le_refl _,by simp [Bj]⟩
theorem Ar.je (h:Ba P c n nx sl hp a sl0 hp0 o []) {T:List Nat} (hT:T.Nodup) (E1: ∀u∈T,∃g,c.K u g) {b g ep:Nat} (hb:b∉T) (hK:c.K b g) (DZ: ∀g',c.K b g'→g'≤g) (hE:c.E b=ep) {w':World} {ck:List Cn} {e z:Nat} {l:List DT} {x:E} {top:List Nat} (hr:(execOp a.eval o).run P c.w= .ok .skip w') {hs:List Nat} (Fo: ∀q∈hs,q∈(c.G b).top∨q∈BG c T) (hm:Mod hs c.w w')
  (BO:top.Nodup) (B6: ∀q∈top,(q∈hs∨c.w.heap.size≤q)∧q<w'.heap.size) (hd:DC w' [.row e z (AF.of l)] [c.H b g] [x.den c.ρ] top):
  Ar P o c n nx sl hp [] a {cd:=ck,bb:=(b, .deep e z l g (ep+1) x)::D5 T}:=by
 intro next Q hk
 unfold Oper.wp;rw [hr,Oper.upon_skip];have Is: ∀u∈T,c.U u:=fun u hu=>by obtain⟨g,hg⟩:=E1 u hu;exact h.rel.bm _ _ hg
 have Tl:=h.rel.bm _ _ hK;obtain⟨q1,q2,q3,q4⟩:=h.rel.jq (r0:=⟨b,none,top, .deep e z l g (ep+1) x⟩) hT Is hb (fun hh=>by cases hh) (fun _=>Tl) Fo hm BO B6 (by intros;simp) (fun _ aft=>by have kg:=aft.G _ (List.mem_cons_self ..);have ke:=aft.fq _ (List.mem_cons_self ..) rfl;obtain⟨k1,k2⟩:=aft.K b g hK;simp only at kg ke;exact⟨k1,fun g' B3=>DZ g' (aft.old b Tl g' B3),by rw [ke,hE],by rw [k2,kg,aft.w,aft.ρ];exact hd,by rw [kg]⟩)
 refine hk _ (c.db w' _) ⟨rfl,rfl,rfl,rfl,fun t ht=> ?_⟩ (q1.put ((SR.undef .nil).mkGd []) o.dst);rcases q4 t ht with ht|rfl
 ·exact .inl ht
 ·exact .inl Tl
theorem ZM {w w':World} {row:Option Nat} {S:List Nat} (h:w.grownBy w' row) (hr: ∀g,row=some g→g∈S∨w.heap.size≤g):Mod S w w':=by
 refine⟨h.os,h.tape,h.output,h.size,fun b hb hn=>h.block b hb fun hh=> ?_⟩;rcases hr b hh.symm with h1|h1
 ·exact hn h1
 ·omega
theorem Vv (h:Ba P c n nx sl hp a sl0 hp0 o []) {x y:Operand} {tx:TypeId} {cl:Call} (ho:o.op= .call cl) (At:cl.callee= .builtin .append) (Ct:cl.args.toList= [x,y]) (Dv:cl.argTypes.toList= [tx,tx])
  {el:TypeId} (A7:P.underlying tx=some (.slice el)) (hz:Gk P el=true) {l:List DT} (hl:l.length=P.cellsOf el) {T us:List Nat} (hT:(T++us).Nodup) (E1: ∀u∈T,∃g,c.K u g) {s2:SV} {ye:E} (AQ:Bo sl0 [] y=some s2) (hy:A9 hp0 [] AK s2=some ye) (BF:PR hp0 [] el (P.cellsOf el) l s2=some us)
  {c0:E} {v:Value} (hv:a.eval x=v) {N:List Nat} (Cu:DC c.w [.row el (P.cellsOf el) (AF.of l)] [v] [c0.den c.ρ] N) (hN:N=BG c T) {ck:List Cn} (CG:Cn.den c.ρ (.room c0 ye (P.bytesOf el))):
  Ar P o c n nx sl hp [] a {cd:=ck,val:= .own nx 0,bb:=(nx, .deep el (P.cellsOf el) l 0 0 (.app c0 ye))::D5 (T++us)}:=by
 have Az:cl.args= #[x,y]:=by apply Array.ext';simp [Ct]
 have Fu:cl.argTypes= #[tx,tx]:=by apply Array.ext';simp [Dv]
 have CV:y∈o.op.operands:=by simp [ho,Op.operands,Call.operands,At,Az]
 obtain⟨i,z,hi,EC,D3,BU,BY,G7⟩:=I0 hz;obtain⟨ys,q,r,news,N2,CC,CL,Hp,Tz,Br,Lg,T8,Ut⟩:=Y4 h.eh h.gs BF (h.cm AQ CV) hy;have Cb:=Rn h.rel.gw hT;rw [HD]at Cb;have DA: ∀b∈BG c (T++us),b<c.w.heap.size:=fun b hb=>by obtain⟨t,_,BZ⟩:=ME.1 hb;exact h.rel.gw.inb t b (by simp [GI.own,BZ])
 obtain⟨mm,kk,FK,CY,Ox,Ul⟩:=CG;obtain⟨d1,d2,A3⟩:=Cu.inv;rw [AF.aq]at d2 A3;have hU: ∀u∈T++us,∃g,c.K u g:=fun u hu=>by
  rcases Ag.1 hu with hu|hu
  ·exact E1 u hu
  ·exact Ut u hu
 obtain⟨xs,old,N1,B5,hold,FM,eW,Gf,Cc,Ql,Td⟩: ∃(xs:List AV) (old:List Value) (N1:List Nat),c0.den c.ρ= .sl xs∧old.length=xs.length*i.size∧((xs.length=0∧ ∃q,v= .slice q 0 0)∨ ∃g cap C,v= .slice (some ⟨g,0,none⟩) xs.length cap∧xs.length≤cap∧cap≤maxLen∧c.w.heap[g]?=some (.cells C el (0,0))∧C.size=cap*i.size∧old=C.toList.take (xs.length*i.size)∧(g∈BG c T∧g∉N1))∧
   DC c.w (Cp xs.length l) old (AH xs) N1∧(∀y∈xs,y.cells.length=P.cellsOf el)∧(∀u∈old,u.oneCell'=true)∧(∀b∈N1,b∈BG c T)∧N1.Nodup:=by
  rcases A3 with⟨p,rfl,HY,rfl⟩|⟨g9,cap,C,xs,N1,rfl,HY,rfl,h6,h7,h8,h9,F4,Fb,dV⟩
  ·exact⟨[], [], [],HY,by simp, .inl ⟨rfl,p,rfl⟩,by simpa [Cp,AH]using DC.nil,by simp,by simp,by simp,by simp⟩
  ·have BO:(g9::N1).Nodup:=by rw [hN];exact(List.nodup_append.1 Cb).1
   rw [List.nodup_cons]at BO;refine⟨xs,_,N1,HY, ?_, .inr ⟨g9,cap,C,rfl,h7,h8,h6,by rw [←BY];exact h9,rfl,by rw [←hN];simp,BO.1⟩,by rw [←BY];exact dV,F4,by rw [←BY];exact Fb,fun b hb=>by rw [←hN];simp [hb],BO.2⟩;have e9:C.toList.length=cap*i.size:=by rw [←BY,←h9];simp
   rw [List.length_take,e9];exact Nat.min_eq_left (Nat.mul_le_mul_right _ h7)
 rw [B5]at FK;rw [CC]at CY;simp only [AV.len,AV.int.injEq,true_and]at FK CY;have G5:(xs.length+ys.length)*i.bytes≤140737488355328:=by
  rw [←FK,←CY,G7]at Ox;have h9:(((xs.length+ys.length)*i.bytes:Nat):Int)≤140737488355328:=by rw [Int.natCast_mul,Int.natCast_add];exact Ox
  omega
 have G6:xs.length+ys.length≤140737488355328:=by rw [←FK,←CY]at Ul;omega
 rw [BY]at Hp;obtain⟨v',w',AG,AN⟩:=bB (P:=P) c.w tx o.type el i z A7 hi EC D3 BU (fun g9=>g9∈BG c T∧g9∉N1) v xs.length old hold FM q ys.length r news Hp (by simp only [maxLen];omega) G5;have Ec:(execOp a.eval o).run P c.w= .ok (.value v') w':=by simp [execOp,ho,resolve,At,Az,Fu,invoke,builtin,hv,CL,AG]
 have NH: ∀b∈N2,b∈BG c us:=fun b hb=>Br.subset hb;have Te:N2.Nodup:=Br.nodup (List.nodup_append.1 Cb).2.1;have NL:(E.app c0 ye).den c.ρ= .sl (xs++ys):=by simp only [E.den,B5,CC,AV.app]
 rcases AN with⟨rfl,rfl,Dj⟩|⟨g9,cap,C,rfl,h1,h2,h3,h4,h5,h6,h7⟩
 ·have GF:ys= []:=List.eq_nil_of_length_eq_zero Dj;subst GF;refine Ar.ej h hT hU Ec (Mod.refl _ _) (top:=N) (by rw [hN];exact(List.nodup_append.1 Cb).1) (fun b hb=>⟨.inl (by rw [HD,←hN];simp [hb]),DA b (by rw [HD,←hN];simp [hb])⟩) ?_;rw [NL,List.append_nil,←B5];exact Cu
 ·have L5:(g9∈BG c T∨c.w.heap.size≤g9)∧g9∉N1∧g9∉N2:=by
   rcases h7 with⟨rfl,_⟩|⟨hg,B3⟩
   ·refine⟨.inr (Nat.le_refl _),fun hh=> ?_,fun hh=> ?_⟩
    ·have:=DA _ (by rw [HD];exact Ag.2 (.inl (Ql _ hh)));omega
    ·have:=DA _ (by rw [HD];exact Ag.2 (.inr (NH _ hh)));omega
   ·exact⟨.inl hg,B3,fun hh=>(List.nodup_append.1 Cb).2.2 _ hg _ (NH _ hh) rfl⟩
  have AW: ∀b∈N1++N2,w'.heap[b]?=c.w.heap[b]?:=fun b hb=>by
   have AD:b<c.w.heap.size:=DA b (by
    rw [HD];rcases Ag.1 hb with hb|hb
    ·exact Ag.2 (.inl (Ql b hb))
    ·exact Ag.2 (.inr (NH b hb)))
   refine h6.block b AD fun hh=> ?_;cases hh;rcases Ag.1 hb with hb|hb
   ·exact L5.2.1 hb
   ·exact L5.2.2 hb
  refine Ar.ej h hT hU Ec (ZM h6 fun g hg=> ?_) (top:=g9::(N1++N2)) ?_ (fun b hb=> ?_) ?_
  ·cases hg;rcases L5.1 with hh|hh
   ·exact .inl (by rw [HD];exact Ag.2 (.inl hh))
   ·exact .inr hh
  ·refine List.nodup_cons.2 ⟨fun hh=> ?_,List.nodup_append.2 ⟨Td,Te,fun p hp q hq=> ?_⟩⟩
   ·rcases Ag.1 hh with hh|hh
    ·exact L5.2.1 hh
    ·exact L5.2.2 hh
   ·exact(List.nodup_append.1 Cb).2.2 p (Ql p hp) q (NH q hq)
  ·rcases Ad.1 hb with rfl|hb
   ·refine⟨?_,Fy h3⟩;rcases L5.1 with hh|hh
    ·exact .inl (by rw [HD];exact Ag.2 (.inl hh))
    ·exact .inr hh
   ·have XJ:b∈BG c (T++us):=by
     rw [HD];rcases Ag.1 hb with hb|hb
     ·exact Ag.2 (.inl (Ql b hb))
     ·exact Ag.2 (.inr (NH b hb))
    exact⟨.inl XJ,Nat.lt_of_lt_of_le (DA b XJ) h6.size⟩
  ·rw [NL];have hlen:(xs++ys).length=xs.length+ys.length:=Aj;rw [BY]at d1 d2 Gf Lg ⊢;have:=DC.row (w:=w') (e:=el) (z:=i.size) (l:=AF.of l) (g:=g9) (cap:=cap) (C:=C) (ys:=xs++ys) (N1:=N1++N2) (ts:= []) (vs:= []) (xs:= []) (N:= []) d1 (by rw [AF.aq];exact d2) h3 (by rw [hlen];exact h1) h2 h4 (fun w hw=> ?_) (by
     rw [hlen,h5];intro u hu;rcases Ag.1 hu with hu|hu
     ·exact Cc u hu
     ·exact T8 u hu) (by
     rw [hlen,h5,Vs,qT,AF.aq];exact(eW.app Tz).frame AW) .nil
   ·rw [hlen]at this;simpa using this
   ·rcases Ag.1 hw with hw|hw
    ·exact Gf w hw
    ·exact Lg w hw
end
section
variable {P:Program} {c:Cx} {n nx:Nat} {sl sl0:Nat→SV} {hp hp0:Nat→Option Af} {a:Act} {o:Oper} {gs:Gd} {e:AO} {sg:BB} {nv:Nat}
theorem nH {l:List Nat} (h:Jl l=true):l.Nodup:=MK h
theorem kJ (h:Ba P c n nx sl hp a sl0 hp0 o gs) {x y:Operand} {tx ty:TypeId} {cl:Call} (ho:o.op= .call cl) (At:cl.callee= .builtin .append) (Ct:cl.args.toList= [x,y]) (Dv:cl.argTypes.toList= [tx,ty])
  {s1 s2:SV} (Bq:Bo sl0 gs x=some s1) (AQ:Bo sl0 gs y=some s2) (he:R1 P hp0 gs nx tx ty s1 s2=some e) (hc: ∀q∈e.cd,Cn.den c.ρ q):Ar P o c n nx sl hp gs a e:=by
 have Az:cl.args= #[x,y]:=by apply Array.ext';simp [Ct]
 have Dk:x∈o.op.operands:=by simp [ho,Op.operands,Call.operands,At,Az]
 have CV:y∈o.op.operands:=by simp [ho,Op.operands,Call.operands,At,Az]
 unfold R1 at he;split at he
 ·cases he
 rename_i Lb;have Lb:tx=ty:=by simpa using Lb
 subst Lb;split at he
 ·rename_i el e' z dl A7 CT;have KQ:=H3 A7;split at he
  ·cases he
  rename_i Ax;simp only [not_or,Bool.not_eq_true',Bool.not_eq_false,Bool.not_eq_true,ne_eq,Decidable.not_not]at Ax;obtain⟨hz,EJ,rfl,rfl⟩:=Ax;obtain⟨_,_,l,JN,Di⟩:=So A7 CT;simp only [DT.row.injEq,true_and]at JN;subst JN;rw [AF.aq]at he;have r1:=h.cm Bq Dk;split at he
  ·rename_i ye us hy BF;have hU: ∀u∈us,∃g,c.K u g:=(Y4 h.eh h.gs BF (h.cm AQ CV) hy).choose_spec.choose_spec.choose_spec.choose_spec.choose_spec.2.2.2.2.2.2.2;have Ld:us.Nodup:=by
    unfold PR at BF;split at BF
    ·simp only [Ae]at BF;subst BF;simp
    ·simp only [Ae]at BF;subst BF;simp
    ·split at BF
     ·split at BF
      ·simp only [Ae]at BF;subst BF;simp
      ·cases BF
     ·cases BF
    ·cases BF
   have QH:0<P.cellsOf e':=by obtain⟨i,_,_,_,_,h1,h2,_⟩:=I0 hz;omega
   split at he
   ·rename_i t g;split at he
    ·rename_i e2 z2 l2 g2 ep c0 hl;split at he
     ·rename_i hh;obtain⟨rfl,rfl,hb,rfl,D0⟩:=hh;have hb:=AF.fj hb;subst hb;simp only [Ae]at he;subst he;obtain⟨q1,q2,q3,q4,q5⟩:=h.eh t _ (Ce hl h.gs);generalize hv:a.eval x=v at r1;cases r1 with
      |own k1 k2 _=>rw [k2]at q4;simp only [Bool.not_eq_true',List.contains_eq_mem,decide_eq_false_iff_not]at D0;exact Vv h ho At Ct Dv KQ hz Di (T:= [t]) (by simpa using List.nodup_cons.2 ⟨D0,Ld⟩) (fun u hu=>by simp at hu;subst hu;exact⟨_,k1⟩) AQ hy BF hv q4 (by simp [BG]) (hc _ (by simp))
     ·cases he
    ·cases he
   ·simp only [Ae]at he;subst he;generalize hv:a.eval x=v at r1;cases r1 with
    |emp _=>exact Vv h ho At Ct Dv KQ hz Di (T:= []) (by simpa using Ld) (by simp) AQ hy BF hv (c0:= .lst .nil) (.void QH (by rw [AF.aq];exact Di) .nil) rfl (hc _ (by simp))
   ·simp only [Ae]at he;subst he;generalize hv:a.eval x=v at r1;cases r1 with
    |bp _=>exact Vv h ho At Ct Dv KQ hz Di (T:= []) (by simpa using Ld) (by simp) AQ hy BF hv (c0:= .lst .nil) (.void QH (by rw [AF.aq];exact Di) .nil) rfl (hc _ (by simp))
   ·cases he
  ·cases he
 ·cases he
theorem Ar.ed (h:Ba P c n nx sl hp a sl0 hp0 o []) {T:List Nat} (hT:T.Nodup) (E1: ∀u∈T,∃g,c.K u g) {ck:List Cn} {el z:Nat} {l:List DT} (hz:0<z) (hl:l.length=z) {x:E} {xs:List AV} {C:Array Value} {cap:Nat} (hx:x.den c.ρ= .sl xs) (At: ∀y∈xs,y.cells.length=z) (hle:xs.length≤cap) (G8:cap≤maxLen) (hC:C.size=cap*z)
  (h1: ∀u∈C.toList.take (xs.length*z),u.oneCell'=true) (hD:DC c.w (Cp xs.length l) (C.toList.take (xs.length*z)) (AH xs) (BG c T))
  (hr:(execOp a.eval o).run P c.w= .ok (.value (.slice (some ⟨c.w.heap.size,0,none⟩) xs.length cap)) (c.w.alloc (.cells C el))):
  Ar P o c n nx sl hp [] a {cd:=ck,val:= .own nx 0,bb:=(nx, .deep el z l 0 0 x)::D5 T}:=by
 have DA: ∀b∈BG c T,b<c.w.heap.size:=fun b hb=>by obtain⟨t,_,BZ⟩:=ME.1 hb;exact h.rel.gw.inb t b (by simp [GI.own,BZ])
 have AS:(c.w.alloc (.cells C el)).heap[c.w.heap.size]?=some (.cells C el (0,0)):=heap_alloc_new c.w _;have TJ:c.w.grownBy (c.w.alloc (.cells C el)) (some c.w.heap.size):=⟨rfl,rfl,rfl,by simp,fun j hj _=>Below.heap_alloc c.w _ _ hj⟩
 refine Ar.ej h hT E1 hr (ZM TJ fun g hg=> .inr (by cases hg;exact Nat.le_refl _)) (top:=c.w.heap.size::BG c T) ?_ (fun b hb=> ?_) ?_
 ·exact List.nodup_cons.2 ⟨fun hh=>by have:=DA _ hh;omega,Rn h.rel.gw hT⟩
 ·rcases Ad.1 hb with rfl|hb
  ·exact⟨.inr (Nat.le_refl _),by simp⟩
  ·exact⟨.inl hb,Nat.lt_of_lt_of_le (DA b hb) (by simp)⟩
 ·rw [hx];have:=DC.row (w:=c.w.alloc (.cells C el)) (e:=el) (z:=z) (l:=AF.of l) (g:=c.w.heap.size) (cap:=cap) (C:=C) (ys:=xs) (N1:=BG c T) (ts:= []) (vs:= []) (xs:= []) (N:= []) hz (by rw [AF.aq];exact hl) AS hle G8 hC At h1 (by
   rw [AF.aq];exact hD.frame fun b hb=>Below.heap_alloc c.w _ _ (DA b hb)) .nil
  simpa using this
theorem kO (h:Ba P c n nx sl hp a sl0 hp0 o gs) {t:TypeId} {m:Nat} {parts:Array (Nat × Operand)} (ho:o.op= .buildSlice t m parts) {ps:List (Nat × SV)} (JS:parts.toList.mapM (fun(p:Nat × Operand)=>(Bo sl0 gs p.2).map fun s=>(p.1,s))=some ps) (he:R8 P hp0 gs nx t m ps=some e) (hc: ∀q∈e.cd,Cn.den c.ρ q):Ar P o c n nx sl hp gs a e:=by
 obtain⟨e1,e2⟩:=RX (c:=c) (a:=a) (parts.toList.map (·.2)) (fun x s hx hm=>h.cm hx (by simpa [ho,Op.operands]using hm)) (fun x hx=>List.mem_map.2 ⟨x,hx,rfl⟩) JS;unfold R8 at he;split at he
 ·rename_i el e' zz dl Hb CT;have A7:=H3 Hb;split at he
  ·cases he
  rename_i Ax;simp only [not_or,Bool.not_eq_true',Bool.not_eq_false',ne_eq,Bool.not_eq_false,Bool.not_eq_true,Nat.not_lt,Decidable.not_not]at Ax;obtain⟨hz,EJ,rfl,rfl,A8,As,hle,Dx⟩:=Ax;obtain⟨_,_,l,JN,Di⟩:=So Hb CT;simp only [DT.row.injEq,true_and]at JN;subst JN;rw [AF.aq]at he;have As:Ak P e'=true∨P.cellsOf e'=1:=by simpa using As
  obtain⟨i,z,hi,EC,D3,BU,BY,G7⟩:=I0 hz;split at he
  ·rename_i xs us ck OE;split at he
   ·rename_i BO;simp only [Ae]at he;subst he;obtain⟨p1,p5,p6,p7,p8⟩:=YE h.eh h.gs Di As (ps.map (·.2)) (parts.toList.map fun p=>a.eval p.2) e2 OE hc;have hlen:(parts.toList.map fun p=>a.eval p.2).length=m:=by
     have:ps.length=m:=by have:=congrArg List.length Dx;simpa using this
     have h9:=congrArg List.length e1;simp at h9 ⊢;omega
    have Ft:(parts.map fun(x:Nat × Operand)=>(x.1,a.eval x.2)).toList=((parts.toList.map fun p=>a.eval p.2).zipIdx 0).map fun p=>(p.2,p.1):=by
     have Hg:parts.toList.map (·.1)=List.range m:=by rw [←e1,Dx]
     apply List.ext_getElem?;intro j;have hj:(parts.toList.map (·.1))[j]?=(List.range m)[j]?:=by rw [Hg]
     simp only [Array.toList_map,List.getElem?_map,List.getElem?_zipIdx]at hj ⊢;cases hp:parts.toList[j]? with
     |none=>simp
     |some p=>
      rw [hp]at hj;simp only [Option.map_some,Ae]at hj ⊢;have TS:j<m:=by
       rcases Nat.lt_or_ge j m with hh|hh
       ·exact hh
       ·rw [List.getElem?_eq_none (by simpa using hh)]at hj;cases hj
      rw [List.getElem?_range TS]at hj;simp at hj;simp [hj]
    obtain⟨C',f1,f2⟩:=Wb (sz:=i.size) (fun j=>some (j*i.size,i.size)) (fun j=>rfl) (parts.toList.map fun p=>a.eval p.2) 0 ((Array.range (m*i.size)).map (fun j=>(if m*i.size=0 then #[]else z.cells)[j % (if m*i.size=0 then #[]else z.cells).size]!)) [] _ (by simp;rfl) (by simp) (by simp [hlen]) (fun v hv=>by rw [←BY];exact(p5 v hv).1);have C4:C'.toList.length=m*P.cellsOf e':=by
     rw [f2,BY];simp only [List.nil_append];have: ∀(L:List Value),(∀v∈L,v.cells.size=i.size)→(L.flatMap fun v=>v.cells.toList).length=L.length*i.size:=by
      intro L
      induction L with
      |nil=>intro _;simp
      |cons v L ih=>intro hL;simp only [List.flatMap_cons,Aj,An,Array.length_toList];rw [ih (fun u hu=>hL u (by simp [hu])),hL v (by simp),Nat.add_mul];omega
     rw [this _ (fun v hv=>by rw [←BY];exact(p5 v hv).1),hlen]
    have Hu:(xs.map (E.den c.ρ)).length=m:=by rw [List.length_map,p7,hlen]
    have B4:C'.toList.take ((xs.map (E.den c.ρ)).length*P.cellsOf e')=(parts.toList.map fun p=>a.eval p.2).flatMap fun v=>v.cells.toList:=by rw [Hu,←C4,List.take_length,f2];simp
    refine Ar.ed h (nH BO) p8 (by omega) Di (xs:=xs.map (E.den c.ρ)) (C:=C') (cap:=m) (by simp [E.den,EL.cy]) (fun y hy=> ?_) (by omega) (by simp only [maxLen];have:m*1≤m*P.cellsOf e':=Nat.mul_le_mul_left _ (by omega);omega) (by rw [←Array.length_toList,C4]) ?_ ?_ ?_
    ·obtain⟨q,hq,rfl⟩:=List.mem_map.1 hy;exact p6 q hq
    ·rw [B4];intro u hu;obtain⟨v,hv,hu⟩:=List.mem_flatMap.1 hu;exact(p5 v hv).2 u hu
    ·rw [B4,Hu,←hlen];exact p1
    ·rw [Hu];have AG:=Yv (P:=P) A7 A8 hi EC BY m (by rw [←BY];omega) (parts.map fun(x:Nat × Operand)=>(x.1,a.eval x.2)) C' (by rw [Ft];exact f1) c.w;simp only [execOp,ho,Sem.run_bind];rw [AG];rfl
   ·cases he
  ·cases he
 ·cases he
theorem VF {w:World}: ∀{ds:List DT} {ss:List SV} {vs:List Value},LJ ds ss=true→SR c ss vs→ ∀{xs:EL} {m:Nat},BQ hp0 gs m ss=some xs→DC w ds vs (xs.den c.ρ) []
 | [], [],vs,_,hs,xs,m,hx=>by
  cases hs;cases m with
  |zero=>simp [BQ]at hx
  |succ m=>simp [BQ]at hx;subst hx;exact .nil
 | [],_::_,_,h,_,_,_,_=>by simp [LJ]at h
 |_::_, [],_,h,_,_,_,_=>by simp [LJ]at h
 |d::ds,s::ss, [],h,hs,_,_,_=>by have:=hs.len;simp at this
 |d::ds,s::ss,v::vs,h,hs,xs,m,hx=>by
  obtain⟨j,y,ys,rfl,hy,CC,rfl⟩:=H4 hx;obtain⟨r1,r2⟩:=hs.br;simp only [LJ,Ac]at h;have ih:=VF (w:=w) h.2 r2 CC;unfold dA at h;obtain⟨h1,_⟩:=h;split at h1
  ·rename_i y';rw [EL.den,Ic hy];cases r1 with
   |e g1 g2 _=>
    cases y'<;>simp [Qc]at h1
    ·cases g1 with
     |int hk _=>exact .flat (.int hk .nil) ih
    ·cases g1 with
     |bool _=>exact .flat (.bool .nil) ih
    ·rename_i s0;generalize hq:(E.str s0).den c.ρ=q at g1;cases g1 with
     |str hk _=>exact .flat (.str hk .nil) ih
     |_=>simp [E.den]at hq
  ·simp only [Ac,decide_eq_true_eq,beq_iff_eq]at h1;rw [EL.den,I5 hy];cases r1 with
   |bp _=>exact .void h1.1 h1.2 ih
  ·cases h1
theorem DC.rep {w:World} {ds:List DT} {vs:List Value} {xs:List AV} (h:DC w ds vs xs []): ∀k,DC w (Cp k ds) (List.replicate k vs).flatten (List.replicate k xs).flatten []
 |0=>by simpa [Cp]using DC.nil
 |k+1=>by rw [Lx,List.replicate_succ,List.flatten_cons,List.replicate_succ,List.flatten_cons];simpa using h.app (DC.rep h k)
theorem lP (h:Ba P c n nx sl hp a sl0 hp0 o gs) {t:TypeId} {l m:Operand} (ho:o.op= .makeSlice t l m) {s1 s2:SV} (Bq:Bo sl0 gs l=some s1) (AQ:Bo sl0 gs m=some s2) (he:Sp P hp0 gs nx t s1 s2=some e) (hc: ∀q∈e.cd,Cn.den c.ρ q):Ar P o c n nx sl hp gs a e:=by
 have Dk:l∈o.op.operands:=by simp [ho,Op.operands]
 have CV:m∈o.op.operands:=by simp [ho,Op.operands]
 unfold Sp at he;split at he
 ·rename_i el e' zz dl x y Hb CT;have A7:=H3 Hb;split at he
  ·cases he
  rename_i Ax;simp only [not_or,Bool.not_eq_true',Bool.not_eq_false',ne_eq,Bool.not_eq_false,Bool.not_eq_true,Decidable.not_not]at Ax;obtain⟨hz,EJ,rfl,rfl,Fv,Gz⟩:=Ax;have Gz:gs= []:=by simpa using Gz
  subst Gz;obtain⟨_,_,dl',JN,Di⟩:=So Hb CT;simp only [DT.row.injEq,true_and]at JN;subst JN;rw [AF.aq]at he;obtain⟨i,z,hi,EC,D3,BU,BY,G7⟩:=I0 hz;have r1:=h.cm Bq Dk;have r2:=h.cm AQ CV;have ival: ∀{x:E} {kk:IntKind} {k:Int} {v:Value},SR c [.e x] [v]→x.den c.ρ= .int kk k→v= .int kk k:=by
   intro x kk k v hr hx;cases hr with
   |e h1 _ _=>exact(E6 h1 hx).1
  split at he
  ·rename_i s hs;have hs:DU z=some s:=by simpa [hi,EC]using hs
   split at he
   ·rename_i QI;obtain⟨w,hw,rfl⟩:=Ap.1 he;obtain⟨kk,k,hk,h0,hb,hle⟩:Cn.den c.ρ (.mkroom x (P.bytesOf e')):=Bu hc;have Ee:=ival r1 hk;have CL:=ival r2 (by rw [←E.aj c.ρ _ _ Fv];exact hk);have X5:DC c.w dl' z.cells.toList (w.den c.ρ).cells []:=by
     have IF:=R2 (c:=c) hs;unfold cN at QI;cases s with
     |agg cs=>
      obtain⟨k9,l9,hm,fM,rfl⟩:=Pp hw;cases IF with
      |agg h9 h1 h8=>have:=VF (w:=c.w) QI h1 fM;simpa [Value.cells,AV.cells,E.den]using this
     |bp=>
      have A7:BQ hp0 [] (AK+1) [.bp]=some (.cons w .nil):=by unfold BQ;rw [hw];rfl
      have:=VF (w:=c.w) QI IF A7;rw [I5 hw]at this ⊢;cases IF with
      |bp _=>simpa [Value.cells,AV.cells,E.den,EL.den]using this
     |_=>cases QI
    obtain⟨c1,c2⟩:=VE (w:=c.w) (ρ:=c.ρ) hs hw;obtain⟨kn,rfl⟩:=Int.eq_ofNat_of_zero_le h0;have CS:(i.bytes:Int)*(kn:Int)≤281474976710656:=by rw [G7]at hb;rw [Int.mul_comm];omega
    have hlen:=c1.len;have Qx:=RE z.cells (by omega) kn;have AG:=run_make (P:=P) c.w t e' i z A7 hi EC kk kk kn kn (by omega) (Int.le_refl _) CS (by omega);have Ed:(madeCells z.cells (kn*z.cells.size)).size=kn*P.cellsOf e':=by rw [size_madeCells,D3,BY]
    have B4:(madeCells z.cells (kn*z.cells.size)).toList.take ((List.replicate kn (w.den c.ρ)).length*P.cellsOf e')=(List.replicate kn z.cells.toList).flatten:=by rw [List.length_replicate,List.take_of_length_le (by rw [Array.length_toList,Ed];exact Nat.le_refl _),Qx]
    have E2:AH (List.replicate kn (w.den c.ρ))=(List.replicate kn (w.den c.ρ).cells).flatten:=by
     clear AG Ed B4 Qx hb hle CS hk Ee CL h0 hc
     induction kn with
     |zero=>rfl
     |succ k ih=>simp only [List.replicate_succ,AH,List.flatMap_cons,List.flatten_cons]at ih ⊢;rw [ih]
    refine Ar.ed (T:= []) h (by simp) (by simp) (by omega) Di (xs:=List.replicate kn (w.den c.ρ)) (C:=madeCells z.cells (kn*z.cells.size)) (cap:=kn) (by simp [E.den,hk,AV.rep]) (fun u hu=> ?_) (by simp) (by simp only [maxLen];omega) Ed ?_ ?_ ?_
    ·rw [List.eq_of_mem_replicate hu,←hlen,Array.length_toList,D3,BY]
    ·rw [B4];intro u hu;obtain⟨q,hq,hu⟩:=List.mem_flatten.1 hu;rw [List.eq_of_mem_replicate hq]at hu;exact c2 u hu
    ·rw [B4,List.length_replicate,E2];exact X5.rep kn
    ·simp only [execOp,ho,Ee,CL,Sem.run_bind,Int.ofNat_eq_natCast,List.length_replicate];rw [AG,D3];rfl
   ·cases he
  ·cases he
 ·cases he
end
section
variable {P:Program} {c:Cx} {n nx:Nat} {sl sl0:Nat→SV} {hp hp0:Nat→Option Af} {a:Act} {o:Oper} {gs:Gd} {e:AO} {sg:BB} {nv:Nat}
theorem Y2 {α:Type} (cs vs:List α) (o:Nat):setVs cs o vs=cs.take o++(vs++cs.drop (o+vs.length)):=by simp [setVs]
theorem DC.setVs {w:World} {ts:List DT} {L V:List Value} {X Y:List AV} {N1 N2 M:List Nat} {p:Nat} (h1:DC w (ts.take p) (L.take p) (X.take p) N1) (h2:DC w (ts.drop (p+V.length)) (L.drop (p+V.length)) (X.drop (p+V.length)) N2) (k:DC w ((ts.drop p).take V.length) V Y M):
  DC w ts (Go.Proofs.YtagokdejdanfcaaGreatDoor.setVs L p V) (Go.Proofs.YtagokdejdanfcaaGreatDoor.setVs X p Y) (N1++(M++N2)):=by
 have hk:=k.len;have ht:ts=ts.take p++((ts.drop p).take V.length++ts.drop (p+V.length)):=by rw [←List.drop_drop,List.take_append_drop,List.take_append_drop]
 rw [Y2,Y2];have hl:Y.length=V.length:=by omega
 rw [hl];have:=h1.app (k.app h2);rw [←ht]at this;exact this
theorem Zg (h:Ba P c n nx sl hp a sl0 hp0 o []) {t:TypeId} {x y:Operand} (ho:o.op= .store t x y) {b g:Nat} {ix:E} {sz k:Nat} {s:SV} (r1:SR c [.cg b g ix sz k] [a.eval x]) (r2:SR c [s] [a.eval y]) {el:Nat} {l:List DT} {ep:Nat} {c0:E} (hK:c.K b g) (DZ: ∀g',c.K b g'→g'≤g) (hE:c.E b=ep)
  (A8:CA P t=true) (hle:k+P.cellsOf t≤sz) (El:Ak P el=true∨(sz=1∧Ak P t=false)) (Dg:Ak P t=true∨P.cellsOf t=1)
  {xe:E} {us:List Nat} {ck:List Cn} (BF:Nc P hp0 [] t ((l.drop k).take (P.cellsOf t)) s=some (xe,us,ck)) (KM: ∀q∈ck,q.den c.ρ) (BO:us.Nodup) (hb:b∉us)
  (B6: ∀(kk:IntKind) (kv:Int),ix.den c.ρ= .int kk kv→ ∃(m cap:Nat) (C:Array Value) (ys:List AV) (N1 N2:List Nat),c.H b g= .slice (some ⟨m,0,none⟩) ys.length cap∧c0.den c.ρ= .sl ys∧0<sz∧l.length=sz∧c.w.heap[m]?=some (.cells C el (0,0))∧ys.length≤cap∧cap≤maxLen∧C.size=cap*sz∧(∀y∈ys,y.cells.length=sz)∧(∀w∈C.toList.take (ys.length*sz),w.oneCell'=true)∧
   (m::(N1++N2)).Nodup∧(∀q∈m::(N1++N2),q∈(c.G b).top)∧DC c.w ((Cp ys.length l).take (kv.toNat*sz+k)) ((C.toList.take (ys.length*sz)).take (kv.toNat*sz+k)) ((AH ys).take (kv.toNat*sz+k)) N1∧
   DC c.w ((Cp ys.length l).drop (kv.toNat*sz+k+P.cellsOf t)) ((C.toList.take (ys.length*sz)).drop (kv.toNat*sz+k+P.cellsOf t)) ((AH ys).drop (kv.toNat*sz+k+P.cellsOf t)) N2):
  Ar P o c n nx sl hp [] a {cd:=ck,bb:=(b, .deep el sz l g (ep+1) (.set c0 ix (.put (.idx c0 ix) k xe (Ak P el))))::D5 us}:=by
 generalize hv:a.eval x=v at r1;cases r1 with
 |cg k1 k2 k3 k4 k5 k6=>
  rename_i m0 len cap0 kk kv;obtain⟨m,cap,C,ys,N1,N2,p1,p2,p3,p4,p5,p6,p7,p8,p9,p10,p11,p12,p13,p14⟩:=B6 kk kv k3;rw [k2]at p1;cases p1;have Ga:kv.toNat<ys.length:=by omega
  have hmul:(kv.toNat+1)*sz≤ys.length*sz:=Nat.mul_le_mul_right _ (by omega);have EG:ys.length*sz≤cap0*sz:=Nat.mul_le_mul_right _ p6;rw [Nat.add_mul]at hmul;have C4:C.toList.length=cap0*sz:=by simpa using p8
  obtain⟨q1,q2,q3,q4,q5,q6⟩:=YK h.eh h.gs (by rw [List.length_take,List.length_drop,p4];omega) Dg BF r2 KM;have EM:=Kn Ga;generalize GH:(AV.sl ys).nth kv.toNat=yk at EM;have Ep:=p9 yk (List.mem_of_getElem? EM);have Ev:(a.eval y).cells.toList.length=P.cellsOf t:=by simpa using q4
  obtain⟨m1,m2,m3⟩:=RC (vs:=(a.eval y).cells.toList) p5 (show(kv.toNat*sz+k)+_≤C.size by rw [Ev,p8];omega);have KY:(C.toList.take (ys.length*sz)).length=ys.length*sz:=by rw [List.length_take,C4];omega
  have FH:m0∈(c.G b).top:=p12 _ (by simp);have IJ: ∀q∈BG c us,q∉(c.G b).top:=fun q hq hh=>by obtain⟨u,hu,Uj⟩:=ME.1 hq;exact h.rel.gw.cc u b (fun hh=>hb (hh▸hu)) q (by simp [GI.own,Uj]) (by simp [GI.own,hh])
  have JI: ∀q∈BG c us,q<c.w.heap.size:=fun q hq=>by obtain⟨u,_,Uj⟩:=ME.1 hq;exact h.rel.gw.inb u q (by simp [GI.own,Uj])
  have JH: ∀q∈(c.G b).top,q<c.w.heap.size:=fun q hq=>h.rel.gw.inb b q (by simp [GI.own,hq]);have AW: ∀q,q∈BG c us∨(q∈N1++N2)→(Ch c.w m0 (kv.toNat*sz+k) (a.eval y).cells.toList).heap[q]?=c.w.heap[q]?:=fun q hq=>by
   refine m1.block q ?_ ?_
   ·rcases hq with hq|hq
    ·exact JI q hq
    ·exact JH q (p12 q (by simp [Ag.1 hq]))
   ·simp only [List.mem_singleton];rintro rfl;rcases hq with hq|hq
    ·exact IJ _ hq FH
    ·exact(List.nodup_cons.1 p11).1 hq
  have hz:(yk.c9 k (xe.den c.ρ) (Ak P el)).cells=setVs yk.cells k (xe.den c.ρ).cells:=by
   refine VW ?_ (fun hg=> ?_)
   ·cases hg:Ak P el with
    |true=>exact .inr rfl
    |false=>
     left;rcases El with h'|⟨_,h'⟩
     ·rw [hg]at h';cases h'
     ·rw [h']at q5;exact fun cs=>(q5.1 cs)
   ·rcases El with h'|⟨h1,h'⟩
    ·rw [hg]at h';cases h'
    ·rw [h']at q5;have L3:P.cellsOf t=1:=by rcases Dg with h2|h2;rw [h']at h2;cases h2;exact h2
     refine⟨by omega,by omega, ?_⟩;cases Lf:xe.den c.ρ<;>first|rfl|exact absurd Lf (q5.1 _)
  have Dy:AH (ys.set kv.toNat (yk.c9 k (xe.den c.ρ) (Ak P el)))=setVs (AH ys) (kv.toNat*sz+k) (xe.den c.ρ).cells:=
   Sf ys _ _ yk k _ p9 EM (by rw [q3];exact hle) hz
  have Fg:((Cp ys.length l).drop (kv.toNat*sz+k)).take (P.cellsOf t)=(l.drop k).take (P.cellsOf t):=by rw [←p4];exact Pd l _ _ _ _ Ga (by omega)
  have AG:(execOp a.eval o).run P c.w= .ok .skip (Ch c.w m0 (kv.toNat*sz+k) (a.eval y).cells.toList):=by have:=VP (P:=P) (t:=t) (v:=a.eval y) (off:=kv.toNat*sz+k) p5 A8 q4 (by rw [q4,p8];omega) q2;simp [execOp,ho,hv,this]
  refine Ar.je h BO q6 hb hK DZ hE AG (hs:=(c.G b).top++BG c us) (fun q hq=>Ag.1 hq) ⟨m1.os,m1.tape,m1.output,m1.size,fun q hq hn=>m1.block q hq fun hh=>hn (by simp only [List.mem_singleton]at hh;subst hh;exact Ag.2 (.inl FH))⟩
   (top:=m0::(N1++(BG c us++N2))) ?_ (fun q hq=> ?_) ?_
  ·have fV:=Rn h.rel.gw BO;rw [List.nodup_cons,List.nodup_append]at p11;obtain⟨n1,n2,n3,n4⟩:=p11;have a1: ∀q∈BG c us,q∉N1∧q∉N2∧q≠m0:=fun q hq=>⟨fun hh=>IJ q hq (p12 q (by simp [hh])),fun hh=>IJ q hq (p12 q (by simp [hh])),fun hh=>IJ q hq (hh▸FH)⟩
   rw [List.nodup_cons,List.nodup_append,List.nodup_append];refine⟨fun hh=> ?_,n2,⟨fV,n3,fun p hp q hq QB=>(a1 p hp).2.1 (QB▸hq)⟩,fun p hp q hq QB=> ?_⟩
   ·simp only [Ag]at hh n1;rcases hh with hh|hh|hh
    ·exact n1 (.inl hh)
    ·exact(a1 _ hh).2.2 rfl
    ·exact n1 (.inr hh)
   ·rcases Ag.1 hq with hq|hq
    ·exact(a1 q hq).1 (QB▸hp)
    ·exact n4 p hp q hq QB
  ·have:q∈(c.G b).top∨q∈BG c us:=by
    simp only [Ad,Ag]at hq;rcases hq with rfl|hq|hq|hq
    ·exact .inl FH
    ·exact .inl (p12 q (by simp [hq]))
    ·exact .inr hq
    ·exact .inl (p12 q (by simp [hq]))
   refine⟨.inl (Ag.2 this),Nat.lt_of_lt_of_le ?_ m1.size⟩;rcases this with hh|hh
   ·exact JH q hh
   ·exact JI q hh
  ·have BC:(E.set c0 ix (.put (.idx c0 ix) k xe (Ak P el))).den c.ρ= .sl (ys.set kv.toNat (yk.c9 k (xe.den c.ρ) (Ak P el))):=by
    simp only [E.den,p2,k3,AV.idx,GH,AV.da]
   rw [BC,k2];have Di:(ys.set kv.toNat (yk.c9 k (xe.den c.ρ) (Ak P el))).length=ys.length:=List.length_set;have:=DC.row (w:=Ch c.w m0 (kv.toNat*sz+k) (a.eval y).cells.toList) (e:=el) (z:=sz) (l:=AF.of l) (g:=m0) (cap:=cap0) (ys:=ys.set kv.toNat (yk.c9 k (xe.den c.ρ) (Ak P el))) (N1:=N1++(BG c us++N2)) (ts:= []) (vs:= []) (xs:= []) (N:= []) p3 (by rw [AF.aq];exact p4) m2 (by rw [Di];exact p6) p7 (by rw [List.size_toArray,MJ _ _ _ (by rw [Ev,C4];omega),Array.length_toList];exact p8) (fun w hw=> ?_) ?_ ?_ .nil
   ·rw [Di]at this;simpa using this
   ·rcases List.mem_or_eq_of_mem_set hw with hw|rfl
    ·exact p9 w hw
    ·rw [hz,MJ _ _ _ (by rw [q3,Ep];exact hle)];exact Ep
   ·simp only [Di,List.toList_toArray];rw [MC _ _ _ _ (by rw [Ev];omega) (by rw [C4];omega)];intro u hu;unfold setVs at hu;simp only [Ag]at hu;rcases hu with(hu|hu)|hu
    ·exact p10 u (List.mem_of_mem_take hu)
    ·exact q2 u hu
    ·exact p10 u (List.mem_of_mem_drop hu)
   ·simp only [Di,List.toList_toArray];rw [MC _ _ _ _ (by rw [Ev];omega) (by rw [C4];omega),Dy,AF.aq];refine DC.setVs (p13.frame fun q hq=>AW q (.inr (by simp [hq]))) ?_ ?_
    ·rw [Ev];exact p14.frame fun q hq=>AW q (.inr (by simp [hq]))
    ·rw [Ev,Fg];exact q1.frame fun q hq=>AW q (.inl hq)
theorem kH (h:Ba P c n nx sl hp a sl0 hp0 o gs) {t:TypeId} {x y:Operand} (ho:o.op= .store t x y) {b g:Nat} {ix:E} {sz k:Nat} {s:SV} (Cu: ¬ ∃e z g c d,Cs hp0 gs b=some (.row e z g c d)) (hx:Bo sl0 gs x=some (.cg b g ix sz k)) (hy:Bo sl0 gs y=some s)
  (he:Kc P hp0 gs t (.cg b g ix sz k) s=some e) (hc: ∀q∈e.cd,Cn.den c.ρ q):Ar P o c n nx sl hp gs a e:=by
 have r1:=h.cm hx (by simp [ho,Op.operands]);have r2:=h.cm hy (by simp [ho,Op.operands]);simp only [Kc]at he;split at he
 ·rename_i hl;exact absurd ⟨_,_,_,_,_,hl⟩ Cu
 ·rename_i el sz' l g' ep c0 hl;split at he
  ·rename_i hh;obtain⟨rfl,rfl,rfl,A8,hle,El,Dg⟩:=hh;split at he
   ·rename_i xe us ck BF;split at he
    ·cases he
    rename_i D0;simp only [Bool.or_eq_true,Bool.not_eq_true',not_or,Bool.not_eq_false,Bool.not_eq_true,List.contains_eq_mem,decide_eq_false_iff_not]at D0;simp only [Ae]at he;subst he;obtain⟨e1,e2,e3,e4,e5⟩:=h.eh b _ (Ce hl h.gs);refine Zg h ho r1 r2 e1 e2 e3 A8 hle (by simpa using El) Dg BF hc (MK D0.1) D0.2 fun kk kv Oc=> ?_;generalize a.eval x=v at r1;cases r1 with
    |cg k1 k2 k3 k4 k5 _=>
     rw [k3]at Oc;cases Oc;obtain⟨d1,d2,⟨a9,d3,_⟩|⟨g9,cap9,C,ys,N,d3,d4,d5,d6,d7,d8,d9,d10,d11,d12⟩⟩:=e4.inv
     ·rw [k2]at d3;cases d3;omega
     ·rw [AF.aq]at d2 d12;obtain⟨N1,N2,N3,rfl,s1,s2,s3⟩:=d12.split (kv.toNat*sz+k) (P.cellsOf t);have BO:=h.rel.gw.nodup b;simp only [GI.own,e5,List.append_nil,d5]at BO;refine⟨g9,cap9,C,ys,N1,N3,d3,d4,d1,d2,d6,d7,d8,d9,d10,d11, ?_,fun q hq=> ?_,s1,s3⟩
      ·refine List.Sublist.nodup (List.Sublist.cons_cons _ ?_) BO;rw [List.append_assoc];exact List.Sublist.append (List.Sublist.refl _) (List.sublist_append_right _ _)
      ·rw [d5];simp only [Ad,Ag]at hq ⊢;rcases hq with hq|hq|hq
       ·exact .inl hq
       ·exact .inr (.inl (.inl hq))
       ·exact .inr (.inr hq)
   ·cases he
  ·cases he
 ·rename_i el sz' l g' ep c0 i' o' u' hl;split at he
  ·rename_i hh;obtain⟨rfl,rfl,rfl,A8,rfl,fF,hle,L3,Dg,El⟩:=hh;have Dg:Ak P t=false:=by simpa using Dg
   split at he
   ·rename_i xe us ck BF;split at he
    ·cases he
    rename_i D0;simp only [Bool.or_eq_true,Bool.not_eq_true',not_or,Bool.not_eq_false,Bool.not_eq_true,List.contains_eq_mem,decide_eq_false_iff_not]at D0;simp only [Ae]at he;subst he;obtain⟨e1,e2,e3,⟨m,cap,C,ys,kk,kv,N1,N2,p1,p2,p3,p4,p5,p6,p7,p7',p8,p9,p10,p11,p12,p13,p14,p15,p16,p17,p18⟩,e5⟩:=h.eh b _ (Ce hl h.gs);refine Zg h ho r1 r2 e1 e2 e3 A8 (by omega) (El.imp id fun hh=>⟨hh,Dg⟩) (.inr L3) (by rw [L3];exact BF) hc (MK D0.1) D0.2 fun kk' kv' Oc=> ?_;rw [E.aj c.ρ _ _ fF,p3]at Oc;cases Oc;have BO:=h.rel.gw.nodup b;simp only [GI.own,e5,List.append_nil,p14]at BO;exact⟨m,cap,C,ys,N1,N2,p1,p2,p7,p7',p8,p9,p10,p11,p12,p13,BO,fun q hq=>by rw [p14];exact hq,p17,by rw [L3];exact p18⟩
   ·cases he
  ·cases he
 ·cases he
end
section
variable {P:Program} {c:Cx} {n nx:Nat} {sl sl0:Nat→SV} {hp hp0:Nat→Option Af} {a:Act} {o:Oper} {gs:Gd} {e:AO} {sg:BB} {nv:Nat}
theorem ZG {w:World} {ety sz:Nat} {p:Option Addr} {m r:Nat} {x:AV} {top N:List Nat} (h:Cy w ety sz (.slice p m r) x top N): ∃xs,x= .sl xs∧xs.length=m∧m≤r∧0<sz∧(∀y∈xs,y.cells.length=sz)∧
  ((xs= []∧m=0∧r=0∧top= []∧N= [])∨ ∃g C,p=some ⟨g,0,none⟩∧r≤maxLen∧w.heap[g]?=some (.cells C ety (0,0))∧C.size=r*sz∧top= [g]∧(∀u∈C.toList.take (m*sz),u.oneCell'=true)∧Rd w (C.toList.take (m*sz)) (AH xs) N):=by
 obtain⟨xs,rfl,h2,h3,⟨rfl,⟨a,hv⟩,rfl,rfl⟩|⟨g,cap',C,hv,h6,h7,h8,h9,rfl,F4,Fb⟩⟩:=h
 ·cases hv;exact⟨[],rfl,rfl,Nat.le_refl _,h3,by simp, .inl ⟨rfl,rfl,rfl,rfl,rfl⟩⟩
 ·cases hv;exact⟨xs,rfl,rfl,h6,h3,h2, .inr ⟨g,C,rfl,h7,h8,h9,rfl,F4,Fb⟩⟩
theorem lQ (h:Ba P c n nx sl hp a sl0 hp0 o gs) {t:TypeId} {x:Operand} {lo hi mx:Option Operand} (ho:o.op= .slice t x lo hi mx) {s:SV} (hs:Bo sl0 gs x=some s) {l' h' m':Option SV} (Bm:HO (Bo sl0 gs) lo=some l') (JG:HO (Bo sl0 gs) hi=some h') (EE:HO (Bo sl0 gs) mx=some m') (he:Sm P hp0 gs t s l' h' m'=some e) (hc: ∀q∈e.cd,Cn.den c.ρ q):Ar P o c n nx sl hp gs a e:=by
 have hm:x∈o.op.operands:=by simp [ho,Op.operands]
 have KZ: ∀y,lo=some y→y∈o.op.operands:=fun y hy=>by simp [ho,Op.operands,hy]
 have IC: ∀y,hi=some y→y∈o.op.operands:=fun y hy=>by simp [ho,Op.operands,hy]
 have hx:=h.cm hs hm;have ival: ∀{x:E} {kk:IntKind} {k:Int} {v:Value},SR c [.e x] [v]→x.den c.ρ= .int kk k→v= .int kk k:=by
  intro x kk k v hr hx;cases hr with
  |e h1 _ _=>exact(E6 h1 hx).1
 have ex:(execOp a.eval o).run P c.w=((Instr.sliceAt t (a.eval x) (lo.map a.eval) (hi.map a.eval) (mx.map a.eval)).run P c.w).andThen fun v w=> .ok (.value v) w:=by simp [execOp,ho]
 unfold Sm at he;split at he
 ·rename_i el0 b g A7;have hu:=H3 A7;split at he
  ·cases he
  rename_i A8;have A8:CA P el0=true:=by simpa using A8
  have K0:mx=none:=by
   rcases HG EE with⟨hh,_⟩|⟨_,_,_,_,hh⟩
   ·exact hh
   ·cases hh
  subst K0;split at he
  ·rename_i el z g' c0 d hl;split at he
   ·cases he
   rename_i Ax;simp only [not_or,Decidable.not_not,ne_eq]at Ax;obtain⟨rfl,rfl,rfl⟩:=Ax;obtain⟨q1,q2,N,q3,q4,q5,q6⟩:=h.eh b _ (Ce hl h.gs);generalize hv:a.eval x=v at hx ex;cases hx with
   |own k1 k2 k3=>
    rename_i p m r;rw [k2]at q3;obtain⟨xs,B5,Hu,Oi,BU,At,A3⟩:=ZG q3;split at he
    ·rename_i l;simp only [Ae]at he;subst he;obtain⟨ka,ai,kb,bi,mm,d1,d2,d3,d4,d5,d6⟩:Cn.den c.ρ (.win c0 l (.len c0)):=Bu hc;have T5:mm=(m:Int):=by rw [B5]at d3;simp only [AV.len,AV.int.injEq,true_and]at d3;omega
     obtain⟨an,rfl⟩:=Int.eq_ofNat_of_zero_le d4;obtain⟨ol,BN,hol⟩: ∃ol,lo=some ol∧Bo sl0 [] ol=some (.e l):=by
      rcases HG Bm with⟨_,hh⟩|⟨ol,sl',KT,TL,TM⟩
      ·cases hh
      ·cases TM;exact⟨ol,KT,TL⟩
     have KU:hi=none:=by
      rcases HG JG with⟨hh,_⟩|⟨_,_,_,_,hh⟩
      ·exact hh
      ·cases hh
     subst BN;subst KU;have T0:=ival (h.cm hol (KZ _ rfl)) d1;have hle:an≤m:=by omega
     have AG:=Vb (P:=P) (w:=c.w) (lo:=(some ol).map a.eval) (hi:=(none:Option Operand).map a.eval) hu A8 p m r an m (.inr ⟨ka,by rw [Option.map_some,T0]⟩) (.inl ⟨rfl,rfl⟩) hle (Nat.le_refl _) Oi;have:=SR.wown (c:=c) (lo:=l) (sz:=P.cellsOf el) (q':=if r=an then p else p.map (·.add (an*P.cellsOf el))) (r:=r-an) k1 k2 d1 d4 (by omega) (fun AD=>by
      rcases A3 with⟨_,Dj,_⟩|⟨g9,C,rfl,_⟩
      ·omega
      ·exact⟨g9,rfl,by rw [if_neg (by omega)];simp [Addr.add_lit],by simp⟩) .nil
     refine Ar.pure h (v:=sliced p an m r (P.cellsOf el)) ?_ (by simpa [sliced]using this) rfl;rw [ex];show Result.andThen (Sem.run P (Instr.sliceAt t (.slice p m r) ((some ol).map a.eval) ((none:Option Operand).map a.eval) none) c.w) _=_;rw [AG];rfl
    ·rename_i hb;simp only [Ae]at he;subst he;obtain⟨ka,ai,kb,bi,mm,d1,d2,d3,d4,d5,d6⟩:Cn.den c.ρ (.win c0 (.int .i64 0) hb):=Bu hc;have T5:mm=(m:Int):=by rw [B5]at d3;simp only [AV.len,AV.int.injEq,true_and]at d3;omega
     simp only [E.den,AV.int.injEq]at d1;obtain⟨_,rfl⟩:=d1;obtain⟨bn,rfl⟩:=Int.eq_ofNat_of_zero_le d5;obtain⟨oh,KU,gB⟩: ∃oh,hi=some oh∧Bo sl0 [] oh=some (.e hb):=by
      rcases HG JG with⟨_,hh⟩|⟨ol,sl',KT,TL,TM⟩
      ·cases hh
      ·cases TM;exact⟨ol,KT,TL⟩
     have BN:lo=none:=by
      rcases HG Bm with⟨hh,_⟩|⟨_,_,_,_,hh⟩
      ·exact hh
      ·cases hh
     subst BN;subst KU;have T0:=ival (h.cm gB (IC _ rfl)) d2;have hle:bn≤m:=by omega
     have AG:=Vb (P:=P) (w:=c.w) (lo:=(none:Option Operand).map a.eval) (hi:=(some oh).map a.eval) hu A8 p m r 0 bn (.inl ⟨rfl,rfl⟩) (.inr ⟨kb,by rw [Option.map_some,T0]⟩) (Nat.zero_le _) hle Oi;have Cr:sliced p 0 bn r (P.cellsOf el)= .slice p bn r:=by
      unfold sliced;rcases A3 with⟨_,_,rfl,_⟩|⟨g9,C,rfl,_⟩
      ·simp
      ·split<;>simp [Addr.add_lit]
     rw [Cr]at AG;have Ec:(execOp a.eval o).run P c.w= .ok (.value (.slice p bn r)) c.w:=by rw [ex];show Result.andThen (Sem.run P (Instr.sliceAt t (.slice p m r) ((none:Option Operand).map a.eval) ((some oh).map a.eval) none) c.w) _=_;rw [AG];rfl
     have AS: ¬c.K b (g+1):=fun hk=>by have:=q2 _ hk;omega
     have Am:=h.rel;have CU:=Am.az (gs:= []) (t:=b) (g:=g+1) (w':=c.w) (row:=(c.G b).top.head?) (top:=(c.G b).top) (O:=if d=true then(c.G b).O else []) (v:= .slice p bn r) (.inr (by omega)) AS ⟨rfl,rfl,rfl,Nat.le_refl _,fun _ _ _=>rfl⟩ (fun g0 DY=> .inl (List.mem_of_mem_head? DY)) (by
       rcases A3 with⟨_,_,_,ht,_⟩|⟨g9,C,_,_,_,_,ht,_⟩
       ·exact .inl ht
       ·exact .inr ⟨g9,by rw [ht];rfl,ht⟩) (by split;exact .inr rfl;exact .inl rfl)
      (.row el (P.cellsOf el) (g+1) (.win c0 (.int .i64 0) hb) d) (by intros;simp) (DR _) (fun E3=>by
       have Uz:(E.win c0 (.int .i64 0) hb).den c.ρ= .sl (xs.take bn):=by simp only [E.den,B5,d2,AV.win];simp
       obtain⟨N',Bl,Qm⟩: ∃N',Cy c.w el (P.cellsOf el) (.slice p bn r) (.sl (xs.take bn)) (c.G b).top N'∧ ∀q∈N',q∈N:=by
        rcases A3 with⟨rfl,Dj,rfl,ht,rfl⟩|⟨g9,C,rfl,DZ,Qo,hC,ht,h1,CZ⟩
        ·have:bn=0:=by omega
         subst this;exact⟨[],⟨[],by simp,by simp,BU, .inl ⟨rfl,⟨p,rfl⟩,ht,rfl⟩⟩,by simp⟩
        ·obtain⟨N',Tc,CX⟩:=CZ.piece 0 (bn*P.cellsOf el);have L7:(xs.take bn).length=bn:=by rw [List.length_take];omega
         have hmul:bn*P.cellsOf el≤m*P.cellsOf el:=Nat.mul_le_mul_right _ hle;have ef:=V6 xs At 0 bn (Nat.zero_le _) (by omega);simp only [Nat.zero_mul,Nat.sub_zero,List.drop_zero]at ef CX;rw [ef,List.take_take,Nat.min_eq_left hmul]at CX;refine⟨N',⟨xs.take bn,rfl,fun y hy=>At y (List.mem_of_mem_take hy),BU, .inr ⟨g9,r,C,by rw [L7],by rw [L7];omega,DZ,Qo,hC,ht, ?_, ?_⟩⟩,Tc⟩
         ·rw [L7];intro u hu;refine h1 u ?_;have:C.toList.take (bn*P.cellsOf el)=(C.toList.take (m*P.cellsOf el)).take (bn*P.cellsOf el):=by rw [List.take_take,Nat.min_eq_left hmul]
          rw [this]at hu;exact List.mem_of_mem_take hu
         ·rw [L7];exact CX
       refine⟨.inr ⟨rfl,rfl⟩,fun g'' KS=> ?_,N', ?_,fun q hq=>E3.ok q (Bl.ko q hq) (q4 q (Qm q hq)),fun hd=> ?_,fun hd=>by simp [Cx.az,hd]⟩
       ·rcases KS with KS|⟨_,rfl⟩
        ·have:=q2 _ KS;omega
        ·exact Nat.le_refl _
       ·have e1:(c.az b (g+1) c.w (.slice p bn r) (c.G b).top (if d=true then(c.G b).O else [])).H b (g+1)= .slice p bn r:=by simp [Cx.az]
        have e2:((c.az b (g+1) c.w (.slice p bn r) (c.G b).top (if d=true then(c.G b).O else [])).G b).top=(c.G b).top:=by simp [Cx.az]
        rw [e1,e2];show Cy c.w el (P.cellsOf el) _ ((E.win c0 (.int .i64 0) hb).den c.ρ) _ N';rw [Uz];exact Bl
       ·obtain⟨u1,u2⟩:=q5 hd;have u1:N= []:=u1;subst u1;have KH:N'= []:=List.eq_nil_iff_forall_not_mem.2 fun q hq=>by simpa using Qm q hq
        subst KH;exact⟨rfl,by simp only [Cx.az,if_true,hd];exact u2⟩)
     intro next Q hk
     unfold Oper.wp;rw [Ec,Oper.upon_value];refine hk _ (c.az b (g+1) c.w (.slice p bn r) (c.G b).top (if d=true then(c.G b).O else [])) ⟨rfl,rfl,rfl,rfl,fun u hu=> ?_⟩ (CU.put (SR.mkGd (c:=c.az b (g+1) c.w (.slice p bn r) (c.G b).top (if d=true then(c.G b).O else [])) (s:= .own b (g+1)) (v:= .slice p bn r) (.own (show _∨_ from .inr ⟨rfl,rfl⟩) (by simp [Cx.az]) .nil) []) o.dst);rcases hu with hu|rfl
     ·exact .inl hu
     ·exact .inl (h.rel.bm _ _ k1)
    ·cases he
  ·cases he
 ·cases he
theorem kG (z:Array Value) (hz:0<z.size) (k:Nat):(Builtin.zeroCells z k).toList=(List.replicate k z.toList).flatten:=by have:=RE z hz k;rw [←this];rfl
theorem nS (h:Ba P c n nx sl hp a sl0 hp0 o gs) {x:Operand} {tx:TypeId} {cl:Call} (ho:o.op= .call cl) (At:cl.callee= .builtin .clear) (Ct:cl.args.toList= [x]) (Dv:cl.argTypes.toList= [tx]) {s:SV} (hs:Bo sl0 gs x=some s) (he:Wl P hp0 gs tx s=some e) (hc: ∀q∈e.cd,Cn.den c.ρ q):Ar P o c n nx sl hp gs a e:=by
 have Az:cl.args= #[x]:=by apply Array.ext';simp [Ct]
 have Fu:cl.argTypes= #[tx]:=by apply Array.ext';simp [Dv]
 have hm:x∈o.op.operands:=by simp [ho,Op.operands,Call.operands,At,Az]
 have hx:=h.cm hs hm;unfold Wl at he;split at he
 ·rename_i el0 b g l z A7;have hu:=H3 A7;split at he
  ·rename_i el z' g' c0 d hl;split at he
   ·cases he
   rename_i Ax;simp only [not_or,Bool.not_eq_true',Bool.not_eq_false,Decidable.not_not,ne_eq]at Ax;obtain⟨rfl,rfl,rfl,rfl,hz,As⟩:=Ax;have As:Ak P el=true∨P.cellsOf el=1:=by simpa using As
   obtain⟨i,zv,hi,EC,D3,BU,BY,G7⟩:=I0 hz;split at he
   ·rename_i q hq;split at he
    ·rename_i w hw;have hq:DU zv=some q:=by simpa [hi,EC]using hq
     simp only [Ae]at he;subst he;obtain⟨c1,c2⟩:=VE (w:=c.w) (ρ:=c.ρ) hq hw;have AN:=I9 h.hp (Ce hl h.gs);obtain⟨q1,q2,N,q3,q4,q5,q6⟩:=h.rel.ents b _ AN;generalize hv:a.eval x=v at hx;cases hx with
     |wown k1 k2 k3 k4 k5 k6 k7=>
      rename_i p m r q' r' kk kv;rw [k2]at q3;obtain⟨xs,B5,Hu,Oi,Ur,KN,A3⟩:=ZG q3;have KO:(E.bin .sub (.len c0) l).den c.ρ≠ .undef:=hc (.dfd (.bin .sub (.len c0) l)) (by simp);have JJ:kk= .i64:=by
       simp only [E.den,B5,AV.len,k3,AV.bin]at KO;split at KO
       ·rename_i hh;rcases hh with hh|hh|hh
        ·exact hh.symm
        ·cases hh
        ·cases hh
       ·exact absurd rfl KO
      subst JJ;have BC:(E.bin .sub (.len c0) l).den c.ρ= .int .i64 ((m:Int)-kv):=by
       simp only [E.den,B5,AV.len,k3,AV.bin,true_or,if_true,CH,Hu];congr 1;have fT:(m:Int)≤9223372036854775807:=by
        rcases A3 with⟨_,h0,_⟩|⟨_,_,_,DZ,_⟩
        ·omega
        ·have:maxLen=9223372036854775807:=rfl;omega
       exact(LD .i64 _).2 ⟨by simp [IntKind.min,IntKind.signed,IntKind.bits];omega,by simp [IntKind.max,IntKind.signed,IntKind.bits];omega⟩
      have AS:(E.app (.win c0 (.int .i64 0) l) (.rep (.bin .sub (.len c0) l) w)).den c.ρ= .sl (xs.take kv.toNat++List.replicate (m-kv.toNat) (w.den c.ρ)):=by
       have e1:(E.win c0 (.int .i64 0) l).den c.ρ= .sl (xs.take kv.toNat):=by simp only [E.den,B5,k3,AV.win];simp
       have e2:(E.rep (.bin .sub (.len c0) l) w).den c.ρ= .sl (List.replicate (m-kv.toNat) (w.den c.ρ)):=by show AV.rep ((E.bin .sub (.len c0) l).den c.ρ) (w.den c.ρ)=_;rw [BC];simp only [AV.rep];congr 2;omega
       show AV.app _ _=_;rw [e1,e2];rfl
      have ex:(execOp a.eval o).run P c.w=((Builtin.clear_ #[tx] o.type #[.slice q' (m-kv.toNat) r']).run P c.w).andThen fun v w=> .ok (.value v) w:=by simp [execOp,ho,resolve,At,Az,Fu,invoke,builtin,hv]
      rcases Nat.eq_or_lt_of_le (show kv.toNat≤m by omega)with heq|AD
      ·
       have Br:m-kv.toNat=0:=by omega
       have AG:(execOp a.eval o).run P c.w= .ok (.value (.tuple #[])) c.w:=by rw [ex,Br];cases q'<;>simp [Builtin.clear_,run_underlying hu]
       have AW:(E.app (.win c0 (.int .i64 0) l) (.rep (.bin .sub (.len c0) l) w)).den c.ρ=c0.den c.ρ:=by rw [AS,B5,Br];simp [List.take_of_length_le (show xs.length≤kv.toNat by omega)]
       intro next Q hk
       unfold Oper.wp;rw [AG,Oper.upon_value];have CU:Rel c n sl (AX hp [(b, .row el (P.cellsOf el) g (.app (.win c0 (.int .i64 0) l) (.rep (.bin .sub (.len c0) l) w)) d)]) a:=by
        have C1: ∀u,AX hp [(b, .row el (P.cellsOf el) g (.app (.win c0 (.int .i64 0) l) (.rep (.bin .sub (.len c0) l) w)) d)] u=if u=b then some (.row el (P.cellsOf el) g (.app (.win c0 (.int .i64 0) l) (.rep (.bin .sub (.len c0) l) w)) d)else hp u:=fun u=>rfl;refine h.rel.change (fun u=>u=b) (CQ.refl c) h.rel.base (fun u hu=>⟨by rw [C1,if_neg hu],rfl,rfl,fun _ hk=>hk⟩) (fun _ _ _ _=>rfl) (fun u hu=> ?_) h.rel.gw h.rel.bm (fun u f hf=> ?_)
        ·subst hu;rw [C1,if_pos rfl];refine⟨fun e' hr=> ?_,fun hn=>absurd rfl (hn _)⟩;simp only [BR]at hr;subst hr;exact⟨q1,q2,N,by rw [AW,k2];exact q3,q4,q5,q6⟩
        ·rw [C1]at hf;split at hf
         ·rename_i hu;subst hu;exact h.rel.bm _ _ k1
         ·exact h.rel.cf u f hf
       exact hk _ c (Kw.refl _ _) (CU.put ((SR.undef .nil).mkGd []) o.dst)
      ·obtain⟨b9,XV,rfl,rfl⟩:=k6 (by omega);rcases A3 with⟨_,h0,_⟩|⟨g9,C,hp',DZ,Qo,hC,ht,h1,CZ⟩
       ·omega
       rw [XV]at hp';cases hp';have C4:C.toList.length=r*P.cellsOf el:=by simpa using hC
       have XS:m*P.cellsOf el≤r*P.cellsOf el:=Nat.mul_le_mul_right _ Oi;have XR:(m-kv.toNat)*P.cellsOf el+kv.toNat*P.cellsOf el=m*P.cellsOf el:=by rw [←Nat.add_mul];congr 1;omega
       have UE:=kG zv.cells (by omega) (m-kv.toNat);generalize hZ:(List.replicate (m-kv.toNat) zv.cells.toList).flatten=Z at UE;have KI:Z.length=(m-kv.toNat)*P.cellsOf el:=by rw [←hZ,List.length_flatten];simp only [List.map_replicate,List.sum_replicate_nat,Array.length_toList,D3,BY]
       have XH: ∀u∈Z,u.oneCell'=true:=fun u hu=>by rw [←hZ]at hu;obtain⟨L,hL,hu⟩:=List.mem_flatten.1 hu;rw [List.eq_of_mem_replicate hL]at hu;exact c2 u hu
       have Ow:=Vq (P:=P) (off:=kv.toNat*P.cellsOf el) Z 0 c.w C Qo (by rw [KI,hC];omega) XH;have AG:(execOp a.eval o).run P c.w= .ok (.value (.tuple #[])) (Ch c.w b9 (kv.toNat*P.cellsOf el) Z):=by
        rw [ex];obtain⟨mm,T5⟩: ∃mm,m-kv.toNat=mm+1:=⟨m-kv.toNat-1,by omega⟩
        have hY:(zeroValue el).run P c.w= .ok zv c.w:=by simp [zeroValue,typeInfo,hi,EC]
        simp only [Nat.add_zero]at Ow;rw [T5]at UE ⊢;simp [Builtin.clear_,run_underlying hu,hY,UE,Ow]
       obtain⟨m1,m2,m3⟩:=RC (off:=kv.toNat*P.cellsOf el) (vs:=Z) Qo (by rw [KI,hC];omega);have KY:(C.toList.take (m*P.cellsOf el)).length=m*P.cellsOf el:=by rw [List.length_take,C4];omega
       have J0:b9∈(c.G b).top:=by rw [ht];simp
       have NK:Rd c.w Z (AH (List.replicate (m-kv.toNat) (w.den c.ρ))) []:=by rw [←hZ];exact W6 c1 _
       obtain⟨n1,n2,n3,hN,s1,s2⟩:=Rd.setVs (p:=kv.toNat*P.cellsOf el) CZ NK (by rw [KY,KI];omega);have gW:(w.den c.ρ).cells.length=P.cellsOf el:=by have:=c1.len;rw [←this];simp [D3,BY]
       have eL:(AH (List.replicate (m-kv.toNat) (w.den c.ρ))).length=Z.length:=by rw [←NK.len]
       have E2:setVs (AH xs) (kv.toNat*P.cellsOf el) (AH (List.replicate (m-kv.toNat) (w.den c.ρ)))=AH (xs.take kv.toNat++List.replicate (m-kv.toNat) (w.den c.ρ)):=by
        have ef:=V6 xs KN 0 kv.toNat (Nat.zero_le _) (by omega)
        simp only [Nat.zero_mul,Nat.sub_zero,List.drop_zero]at ef;unfold setVs;rw [ef,Vs,eL,KI,List.drop_eq_nil_of_le (by rw [MH _ KN,Hu];omega),List.append_nil]
       rw [E2]at s1;have B6: ∀q∈n1++ []++n3,q∈N:=fun q hq=>by rw [hN];simp at hq ⊢;rcases hq with hq|hq<;>simp [hq]
       have En: ∀q,q<c.w.heap.size→c.ok q→(Ch c.w b9 (kv.toNat*P.cellsOf el) Z).heap[q]?=c.w.heap[q]?:=by intro q hq AE;refine m1.block q hq ?_;simp only [List.mem_singleton];rintro rfl;exact AE.1 ⟨b,J0⟩
       have Di:(xs.take kv.toNat++List.replicate (m-kv.toNat) (w.den c.ρ)).length=m:=by rw [Aj,List.length_take,List.length_replicate];omega
       have CU:=h.rel.ij (t:=b) (b:=b9) (w':=Ch c.w b9 (kv.toNat*P.cellsOf el) Z) (O:=if d=true then(c.G b).O else []) AN J0 (by split;exact .inr rfl;exact .inl rfl) m1 m3
        (.row el (P.cellsOf el) g (.app (.win c0 (.int .i64 0) l) (.rep (.bin .sub (.len c0) l) w)) d) (by intros;simp) (fun E3=>by
         refine⟨q1,q2,n1++ []++n3, ?_,fun q hq=>E3.ok q (CZ.inb q (B6 q hq)) (q4 q (B6 q hq)),fun hd=> ?_,fun hd=>by simp [Cx.ea,hd]⟩
         ·show Cy (Ch c.w b9 (kv.toNat*P.cellsOf el) Z) el (P.cellsOf el) (c.H b g) ((E.app (.win c0 (.int .i64 0) l) (.rep (.bin .sub (.len c0) l) w)).den c.ρ) _ _;rw [AS,k2,XV];refine⟨_,rfl,fun y hy=> ?_,Ur, .inr ⟨b9,r,_,by rw [Di],by rw [Di];exact Oi,DZ,m2, ?_,by simpa [Cx.ea]using ht, ?_, ?_⟩⟩
          ·rcases Ag.1 hy with hy|hy
           ·exact KN y (List.mem_of_mem_take hy)
           ·rw [List.eq_of_mem_replicate hy];exact gW
          ·rw [List.size_toArray,MJ _ _ _ (by rw [KI,C4];omega),Array.length_toList];exact hC
          ·simp only [Di,List.toList_toArray];rw [MC _ _ _ _ (by rw [KI];omega) (by rw [C4];omega)];intro u hu;unfold setVs at hu;simp only [Ag]at hu;rcases hu with(hu|hu)|hu
           ·exact h1 u (List.mem_of_mem_take hu)
           ·exact XH u hu
           ·exact h1 u (List.mem_of_mem_drop hu)
          ·simp only [Di,List.toList_toArray];rw [MC _ _ _ _ (by rw [KI];omega) (by rw [C4];omega)];exact s1.frame fun q hq=>En q (CZ.inb q (B6 q hq)) (q4 q (B6 q hq))
         ·obtain⟨u1,u2⟩:=q5 hd;have u1:N= []:=u1;subst u1;have KH:n1++ []++n3= []:=List.eq_nil_iff_forall_not_mem.2 fun q hq=>by simpa using B6 q hq
          rw [KH];exact⟨rfl,by simp only [Cx.ea,if_true,hd];exact u2⟩)
       intro next Q hk
       unfold Oper.wp;rw [AG,Oper.upon_value];exact hk _ (c.ea _ b _) ⟨rfl,rfl,rfl,rfl,fun t ht=> .inl ht⟩ (CU.put ((SR.undef .nil).mkGd []) o.dst)
    ·cases he
   ·cases he
  ·cases he
 ·cases he
end
section
variable {P:Program} {c:Cx} {n nx:Nat} {sl sl0:Nat→SV} {hp hp0:Nat→Option Af} {a:Act} {o:Oper} {gs:Gd} {e:AO} {sg:BB} {nv:Nat}
theorem WY {w:World}: ∀(vs:List Value) {xs:List AV} {f:List Nat} (ts:List TypeId),Rd w vs xs f→ts.length≤vs.length→CJ P w ts [] [] vs xs f [] []
 | [],xs,f,ts,h,hl=>by have:ts= []:=List.eq_nil_of_length_eq_zero (by simpa using hl);subst this;cases h;exact .nil
 |v::vs, [],f,ts,h,hl=>by have:=h.len;simp at this
 |v::vs,x::xs,f,ts,h,hl=>by
  obtain⟨f1,f2,rfl,h1,h2⟩:=h.br;cases ts with
  |nil=>exact .free h1 (WY vs [] h2 (by simp))
  |cons t ts=>exact CJ.cons (h:= []) ⟨h1,rfl⟩ (WY vs ts h2 (by simpa using hl))
theorem s9 (l:EL):EL.of (M1.go l)=l:=by
 induction l using EL.rec (motive_1:=fun _=>True)with
 |nil=>rfl
 |cons e es _ ih=>simp [M1.go,EL.of,ih]
 |_=>trivial
theorem sL {w:World} {ts:List TypeId} {vs:List Value} {Bs:List AV} {f o:List Nat} (h:Db P w ts [] vs Bs f o):Bs= []:=by
 have key: ∀(ts:List TypeId),Bi ts []=false:=by
  intro ts
  induction ts with
  |nil=>rfl
  |cons t ts ih=>simp only [Bi,List.headD_nil,Bool.false_or,List.tail_nil];exact ih
 exact(VN h).2 (key ts)
theorem qJ (t:TypeId):Gs P t []=false:=by simp [Gs]
theorem YO (h:Ba P c n nx sl hp a sl0 hp0 o gs) {cl:Call} {fo:Operand} (ho:o.op= .call cl) (At:cl.callee= .value fo) {y:E} {sf:SV} (hf:Bo sl0 gs fo=some sf) (gK: ∀v,SR c [sf] [v]→ ∃f,Rd c.w [v] [y.den c.ρ] f) {as_:List SV} (has:cl.args.toList.mapM (Bo sl0 gs)=some as_) {t:TypeId}
  (he:M1 P hp0 gs nv t y as_=some e) (AZ: ∀c',e.call=some c'→ ∃r,c.ρ[nv]?=some r∧Gn (CB P sg) c'.fn ((EL.of c'.args).den c.ρ) c.ρ r):Ar P o c n nx sl hp gs a e:=by
 have T3:fo∈o.op.operands:=by simp [ho,Op.operands,Call.operands,At]
 have T2: ∀x∈cl.args.toList,x∈o.op.operands:=fun x hx=>by
  have:x∈cl.args:=by simpa using hx
  simp [ho,Op.operands,Call.operands,At,this]
 have JV:=h.cm hf T3;have Az:=ZE (a:=a) (fun x hx s hs=>h.cm hs (T2 x hx)) has;unfold M1 at he;split at he
 ·cases he
 split at he
 ·cases he
 rename_i es F8;simp only [Ae]at he;subst he;obtain⟨r,hr,g,caps,hy,Hn,D2⟩:=AZ _ rfl;rw [s9]at Hn;obtain⟨f1,p1,p2⟩:=MQ h.eh h.gs AK F8 Az AK (Nat.le_refl _);generalize TF:a.eval fo=fv at JV;obtain⟨_,k1⟩:=gK _ JV;obtain⟨capv,f2,rfl,Tu⟩: ∃capv f2,fv= .func (.func g) #[] capv.toArray∧Rd c.w capv caps f2:=by
  rw [hy]at k1;cases k1 with
  |fn q1 _=>exact⟨_,_,rfl,q1⟩
 have K8:Nz P {ch:= [],res:= []} g (es.den c.ρ++caps) r:=by unfold CB at Hn;rw [if_neg (by omega)]at Hn;simpa using Hn
 obtain⟨fn,Fj,C5,DD,_,hlen,_,Em⟩:=K8;have CZ:=p1.app Tu;have Ev:=CZ.len;have AZ:=Em c.w _ _ [] [] (WY _ (fn.params.toList++ []) CZ (by rw [Ev,hlen,List.append_nil,Array.length_toList];omega)) (by simp) (by simp) (by simp) (h.rel.kx (by simp));have ex:(execOp a.eval o).run P c.w= .ok (.enter g (cl.args.map a.eval++capv.toArray)) c.w:=by
  have hb:fn.body.isNone=false:=by simpa using C5
  simp only [execOp,ho,resolve,At,TF,Deferred.ofValue,Sem.run_bind,Sem.run_pure,Result.andThen_ok,invoke,callFunc,run_program,Fj];simp [DD,hb]
 intro next Q hk
 unfold Oper.wp;rw [ex,Oper.upon_enter];have KJ:cl.args.map a.eval++capv.toArray=((cl.args.toList.map a.eval)++capv).toArray:=by apply Array.ext';simp
 rw [KJ];refine AZ.mono ?_;rintro e' w' ⟨v,rfl,⟨R,Bs,f1',o1,f2',o2,IE,AN,D8,Fq,Ot,NZ⟩,CW⟩;show next (a.put o.dst v) w'
 have KG:=sL D8;subst KG;simp only at IE;subst IE;have hv:Rd w' [v] [r] []:=by
  unfold Io at AN;split at AN
  ·rename_i t' ht;unfold EZ at AN;rw [if_neg (by rw [qJ];simp)]at AN;have:=YG AN.1 D2;subst this;exact AN.1
  ·obtain⟨vs,ys,_,rfl,_⟩:=AN;have:=D2 (.tup ys) (by simp [AV.cells]);simp [AV.scalar]at this
 obtain⟨Ea,_⟩:=h.rel.changes (w':=w') (recs:= []) (hs:= []) (gs:=gs) h.gs CW (by simp) (by simp) (by simp) (by simp) (by simp) (by simp) (by simp);refine hk _ (c.db w' []) ⟨rfl,rfl,rfl,rfl,fun t ht=> ?_⟩ (Ea.put (SR.mkGd (.e (f:= []) ?_ (by simp) .nil) gs h.gs) o.dst)
 ·rcases ht with ht|⟨r,hr,_⟩
  ·exact .inl ht
  ·simp at hr
 ·show Rd w' [v] [(E.var nv).den c.ρ] [];simp only [E.den,hr,Option.getD_some];exact hv
theorem W7 (Ho: ∀f s,sg f=some s→f<1000000) (h:Ba P c n nx sl hp a sl0 hp0 o gs) (he:Bg P sg sl0 hp0 nv nx gs o=some e)
  (hc: ∀q∈e.cd,q.den c.ρ) (AZ: ∀cl,e.call=some cl→ ∃r,c.ρ[nv]?=some r∧Gn (CB P sg) cl.fn ((EL.of cl.args).den c.ρ) c.ρ r) (B7: ∀x,e.bq=some x→c.ρ[nv]?=some (.bool (H9 a o))):Ar P o c n nx sl hp gs a e:=by
 have Ix:=he;cases AB:o.op with
 |move x=>simp only [Bg,AB,Ap]at he;obtain⟨s,hs,rfl⟩:=he;exact Zu h (.inl AB) hs
 |assign x=>simp only [Bg,AB,Ap]at he;obtain⟨s,hs,rfl⟩:=he;exact Zu h (.inr AB) hs
 |pick x y z=>exact oT h AB he hc
 |alloc t=>exact oC h AB he hc
 |box t x=>exact rO h AB he hc
 |build t parts=>exact nU h AB he hc
 |buildSlice t m parts=>
  simp only [Bg,AB,Aq]at he;obtain⟨ps,JS,he⟩:=he;split at he
  ·exact kO h AB JS he hc
  ·exact jZ h AB JS he hc
 |load t x=>exact qO h AB he hc
 |nilCheck x=>exact lY h AB he hc
 |makeSlice t l m=>
  simp only [Bg,AB,Aq]at he;obtain⟨s1,Bq,s2,AQ,he⟩:=he;split at he
  ·exact lP h AB Bq AQ he hc
  ·exact nI h AB Bq AQ he hc
 |slice t x lo hi mx=>
  simp only [Bg,AB,Aq]at he;obtain⟨s,hs,l',Bm,h',JG,m',EE,he⟩:=he;split at he
  ·exact lQ h AB hs Bm JG EE he hc
  ·exact mU h AB hs Bm JG EE he hc
 |fieldAddr t x f=>exact kP h AB he hc
 |field t x f=>exact o8 h AB he hc
 |extract x i=>exact mS h AB he hc
 |store t x y=>
  simp only [Bg,AB,Aq]at he;obtain⟨p,hp',v,hv,he⟩:=he;cases p with
  |bz b k=>exact lM h AB hp' hv he hc
  |cg b g i sz k=>
   by_cases Cu: ∃e z g c d,Cs hp0 gs b=some (.row e z g c d)
   ·exact lZ h AB Cu hp' hv he hc
   ·exact kH h AB Cu hp' hv he hc
  |_=>simp [Kc]at he
 |binOp op t x y ty=>
  cases hu:P.underlying t with
  |none=>simp only [Bg,AB,Aq]at he;obtain⟨_,_,_,_,he⟩:=he;simp [Ng,hu]at he
  |some d=>
   by_cases OB: ∃fs,d= .struct fs
   ·obtain⟨fs,rfl⟩:=OB;exact rF h AB hu he hc
   ·have JQ: ∀fs,P.underlying t≠some (.struct fs):=fun fs hh=>OB ⟨fs,by rw [hu]at hh;cases hh;rfl⟩;cases hq:e.bq with
    |none=>exact sD h AB JQ he hq hc
    |some x'=>
     have EN:=B7 x' hq;simp only [Bg,AB,Aq]at he;obtain⟨s1,Bq,s2,AQ,he⟩:=he;have r1:=h.cm Bq (by simp [AB,Op.operands]);have r2:=h.cm AQ (by simp [AB,Op.operands]);unfold Ng at he;split at he
     ·rename_i el Eo;have Cr: ∀xq,A9 hp0 gs AK s1=some xq→Cn.den c.ρ (.dfd (.len xq))→ ∃p q r,a.eval x= .slice p q r:=by
       intro xq Hv hd;obtain⟨f,q1,_⟩:=h.iy Bq (by simp [AB,Op.operands]) Hv;have hd:(xq.den c.ρ).len≠ .undef:=hd;cases Bc:xq.den c.ρ<;>simp only [Bc,AV.len,ne_eq,not_true_eq_false]at hd;rename_i xs;have hl:(xq.den c.ρ).len= .int .i64 (xs.length:Int):=by rw [Bc];rfl
       rcases MP q1 hl with⟨p,q,hv,Dj⟩|⟨b,o',k,q,hv,Dj⟩
       ·exact⟨_,_,_,hv⟩
       ·exact⟨_,_,_,hv⟩
      split at he
      ·simp at he;subst he;cases hq
      ·simp at he;subst he;cases hq
      ·obtain⟨xq,Hv,rfl⟩:=Ap.1 he;obtain⟨p,q,r,hv⟩:=Cr xq Hv (hc _ (by simp));exact ZF h AB Eo hv r2 (.inl rfl) EN _
      ·obtain⟨xq,Hv,rfl⟩:=Ap.1 he;obtain⟨p,q,r,hv⟩:=Cr xq Hv (hc _ (by simp));exact ZF h AB Eo hv r2 (.inr rfl) EN _
      ·cases he
     ·split at he
      ·simp at he;subst he;cases hq
      ·cases he
     ·split at he
      ·simp at he;subst he;cases hq
      ·cases he
     ·split at he
      ·simp at he;subst he;cases hq
      ·cases he
     ·rename_i fs Eo;exact absurd Eo (JQ fs)
     ·cases he
 |unOp u t x=>
  cases u with
  |not=>exact rL h AB he hc
  |neg=>exact qQ h AB he hc
  |_=>simp [Bg,AB]at he
 |convert src dst x=>
  have JA:=he;simp only [Bg,AB,Aq]at JA;obtain⟨s,_,JA⟩:=JA;unfold Pv at JA;split at JA
  ·rename_i k0 k h1 h2;exact mP h AB h1 h2 he hc
  ·rename_i h1 h2;exact lJ h AB h1 h2 he hc
  ·rename_i el h1 h2;exact l7 h AB h1 h2 he hc
  ·cases JA
 |makeFunc fr fst caps=>
  cases fr with
  |func f=>exact lL h AB he
  |_=>simp [Bg,AB]at he
 |indexAddr t x i=>refine kC h AB (fun hu=> ?_) he hc;simp only [Bg,AB,Aq]at he;obtain⟨_,_,_,_,he⟩:=he;simp [S6,hu]at he
 |index t x i=>
  refine mO h AB ?_ he hc;simp only [Bg,AB,Aq]at he;obtain⟨_,_,_,_,he⟩:=he;split at he
  ·rename_i IG;unfold S6 at IG;split at IG
   ·assumption
   ·cases IG
  ·cases he
 |call cl=>
  simp only [Bg,AB]at he;cases At:cl.callee with
  |invoke r m=>rw [At]at he;simp at he
  |value f=>
   rw [At]at he;simp only [Aq]at he;obtain⟨s,hs,as_,has,he⟩:=he;cases s with
   |fn g caps=>
    have he:Pz P sg hp0 gs nv nx g (as_++caps.toList)=some e:=he;refine qN h AB At hs has ?_ he AZ;unfold Pz at he;split at he
    ·rename_i fn sg' Fj hh;exact Ho g sg' hh
    ·cases he
   |e y=>exact YO h AB At hs (fun v hv=>by cases hv with|e k1 _ _=>exact⟨_,k1⟩) has he AZ
   |lent i=>exact YO h AB At hs (fun v hv=>by
     cases hv with
     |lent g1 _=>obtain⟨f,p1,p2⟩:=h.rel.base.lo _ _ g1;exact⟨f,p1.frame fun b hb=>h.rel.base.block b (p1.inb b hb) (p2 b hb)⟩) has he AZ
   |_=>simp at he
  |builtin b=>
   rw [At]at he;cases b with
   |len=>
    simp only at he;split at he
    ·rename_i x tx Ct Dv;exact sN h AB At Ct Dv Ix hc
    ·cases he
   |append=>
    simp only at he;split at he
    ·rename_i x y tx ty Ct Dv;simp only [Aq]at he;obtain⟨s1,Bq,s2,AQ,he⟩:=he;split at he
     ·exact kJ h AB At Ct Dv Bq AQ he hc
     ·exact lV h AB At Ct Dv Bq AQ he hc
    ·cases he
   |clear=>
    simp only at he;split at he
    ·rename_i x tx Ct Dv;simp only [Aq]at he;obtain⟨s,hs,he⟩:=he;exact nS h AB At Ct Dv hs he hc
    ·cases he
   |max=>
    simp only at he;split at he
    ·rename_i x y Ct;simp only [Aq]at he;obtain⟨s1,Bq,s2,AQ,he⟩:=he;exact YN h AB (.inl ⟨rfl,At⟩) Ct Bq AQ he hc
    ·cases he
   |min=>
    simp only at he;split at he
    ·rename_i x y Ct;simp only [Aq]at he;obtain⟨s1,Bq,s2,AQ,he⟩:=he;exact YN h AB (.inr ⟨rfl,At⟩) Ct Bq AQ he hc
    ·cases he
   |_=>simp at he
 |_=>simp [Bg,AB]at he
end
section
variable {P:Program} {c:Cx} {n nx:Nat} {sl sl0:Nat→SV} {hp hp0:Nat→Option Af} {a:Act} {o:Oper} {gs:Gd} {e:AO} {sg:BB} {nv:Nat}
theorem Rel.gv (h:Rel c n sl hp a) {sl':Nat→SV} (hs: ∀i,sl' i=sl i∨SR c [sl' i] [a.tmps.getD i undef]):Rel c n sl' hp a:=
 ⟨h.defers,h.size,h.base,fun i=>by
  rcases hs i with hh|hh
  ·rw [hh];exact h.ct i
  ·exact hh,h.ents,h.off,h.gw,h.bm,h.cf⟩
theorem O9 {u:Nat}: ∀{l:List Operand} {t T v m:Nat} {p:E × Nat × Nat} {s:SV},Ja sl0 u l=some (t,T,v,m,p,s)→Operand.tmp t∈l∧((∃y,sl0 t= .via T v m (some p) y∧s= .own u 0)∨ ∃y k z q,sl0 t= .vptr T v m (some p) y k z q∧s= .cg u 0 k z q)
 | [],_,_,_,_,_,_,h=>by simp [Ja]at h
 |x::l,t,T,v,m,p,s,h=>by
  cases x with
  |tmp i=>
   simp only [Ja]at h;split at h
   ·rename_i hs;simp only [Ae,Prod.mk.injEq]at h;obtain⟨rfl,rfl,rfl,rfl,rfl,rfl⟩:=h;exact⟨by simp, .inl ⟨_,hs,rfl⟩⟩
   ·rename_i hs;simp only [Ae,Prod.mk.injEq]at h;obtain⟨rfl,rfl,rfl,rfl,rfl,rfl⟩:=h;exact⟨by simp, .inr ⟨_,_,_,_,hs,rfl⟩⟩
   ·obtain⟨h1,h2⟩:=O9 h;exact⟨by simp [h1],h2⟩
  |const v9=>simp only [Ja]at h;obtain⟨h1,h2⟩:=O9 h;exact⟨by simp [h1],h2⟩
  |func f=>simp only [Ja]at h;obtain⟨h1,h2⟩:=O9 h;exact⟨by simp [h1],h2⟩
  |global g=>simp only [Ja]at h;obtain⟨h1,h2⟩:=O9 h;exact⟨by simp [h1],h2⟩
theorem Rel.split (h:Rel c n sl hp a) {T v m u:Nat} {p:E × Nat × Nat} {hl inn:Af} (hs:Pw hp0 T v m u p=some (hl,inn)) (Br: ∀t e,hp0 t=some e→hp t=some e) (hu: ¬c.U u) {vv:Value} (Hl:c.E T=m→Gu c T v (some p) vv):
  ∃recs c1,c1=c.db c.w recs∧Rel c1 n sl (AX hp [(T,hl),(u,inn)]) a∧CQ c c1∧c1.K u 0∧c1.H u 0=vv∧(∃q n r,vv= .slice q n r∧(q=none∨n=0∨ ∃g,q=some ⟨g,0,none⟩))∧(∀t,c1.U t→c.U t∨t=u)∧c.K T v∧c.E T=m∧c1.E T=m+1∧T≠u:=by
 have eh:EH c hp0:=fun t e hr=>h.ents t e (I9 Br hr);obtain⟨pi,z,po⟩:=p;unfold Pw at hs;split at hs
 ·rename_i e z0 l g ep c0 fP;split at hs
  ·rename_i Ax;obtain⟨rfl,rfl,XX⟩:=Ax;simp only at XX;subst XX;split at hs
   ·rename_i e2 z2 l2 BN;simp only [Ae,Prod.mk.injEq]at hs;obtain⟨rfl,rfl⟩:=hs;simp only at BN;obtain⟨q1,q2,q3,q4,q5⟩:=eh T _ (Ce fP (DR _));obtain⟨b,n9,cap,C,ty,fz,kk,k,p1,p2,p3,p4,p5,p6,p7⟩:=Hl q3;obtain⟨d1,d2,⟨a9,d3,_⟩|⟨g9,cap9,C9,ys,N,d3,d4,d5,d6,d7,d8,d9,d10,d11,d12⟩⟩:=q4.inv
    ·rw [p1]at d3;cases d3;omega
    ·rw [p1]at d3;cases d3;rw [d6]at p3;cases p3;rw [AF.aq]at d2 d12;have gD:po<z:=by
      rcases Nat.lt_or_ge po l.length with hh|hh
      ·omega
      ·rw [List.getElem?_eq_none hh]at BN;cases BN
     have Ga:k.toNat<ys.length:=by omega
     have hmul:(k.toNat+1)*z≤ys.length*z:=Nat.mul_le_mul_right _ (by omega);have EG:ys.length*z≤cap*z:=Nat.mul_le_mul_right _ d7;rw [Nat.add_mul]at hmul;have C4:C.toList.length=cap*z:=by simpa using d9
     have AD:k.toNat*z+po<C.size:=by omega
     obtain⟨N1,N2,N3,rfl,s1,s2,s3⟩:=d12.split (k.toNat*z+po) 1;have BS:((C.toList.take (ys.length*z)).drop (k.toNat*z+po)).take 1= [vv]:=by have hv:C[k.toNat*z+po]?=some vv:=p7;rw [List.drop_take,List.take_take,Nat.min_eq_left (by omega),List.drop_eq_getElem_cons (by simpa using AD),List.take_succ_cons,List.take_zero];rw [Array.getElem?_eq_getElem AD]at hv;simpa using hv
     have GH:=Kn Ga;generalize Lh:(AV.sl ys).nth k.toNat=yk at GH;have Ep:=d10 yk (List.mem_of_getElem? GH);have E2:((AH ys).drop (k.toNat*z+po)).take 1= [(E.fld (.idx c0 pi) po 1 false).den c.ρ]:=by rw [Po ys d10 _ _ GH po 1 (by omega),List.drop_eq_getElem_cons (by omega),List.take_succ_cons,List.take_zero];simp only [E.den,d4,p4,AV.idx,Lh,AV.fld];simp [show po<yk.cells.length by omega]
     have A8:((Cp ys.length l).drop (k.toNat*z+po)).take 1= [.row e2 z2 l2]:=by
      rw [←d2,Pd l _ _ _ _ Ga (by omega)];have Fp:po<l.length:=by omega
      rw [List.drop_eq_getElem_cons Fp,List.take_succ_cons,List.take_zero];rw [List.getElem?_eq_getElem Fp]at BN;simpa using BN
     rw [BS,E2,A8]at s2;have E1:=h.bm _ _ q1;have G3:T≠u:=fun hh=>hu (hh▸E1);have BO:=h.gw.nodup T;simp only [GI.own,q5,List.append_nil,d5]at BO;have AN: ∀r∈([⟨T,none,b::(N1++N3), .hol e z l g (ep+1) c0 pi po u⟩,⟨u,some vv,N2,if l2.toList.all DT.bh then .row e2 z2 0 (.fld (.idx c0 pi) po 1 false) true else .deep e2 z2 l2.toList 0 0 (.fld (.idx c0 pi) po 1 false)⟩]:List AA),r.new.isSome=true→ ¬c.U r.tag:=fun r hr hs=>by
      simp only [Ad,List.not_mem_nil,or_false]at hr;rcases hr with rfl|rfl
      ·cases hs
      ·exact hu
     refine⟨[⟨T,none,b::(N1++N3), .hol e z l g (ep+1) c0 pi po u⟩,⟨u,some vv,N2,if l2.toList.all DT.bh then .row e2 z2 0 (.fld (.idx c0 pi) po 1 false) true else .deep e2 z2 l2.toList 0 0 (.fld (.idx c0 pi) po 1 false)⟩],_,rfl, ?_⟩;generalize A4:([⟨T,none,b::(N1++N3), .hol e z l g (ep+1) c0 pi po u⟩,⟨u,some vv,N2,if l2.toList.all DT.bh then .row e2 z2 0 (.fld (.idx c0 pi) po 1 false) true else .deep e2 z2 l2.toList 0 0 (.fld (.idx c0 pi) po 1 false)⟩]:List AA)=recs at AN;have hn:(recs.map AA.tag).Nodup:=by rw [←A4];simp [G3]
     have aft:=Cx.dc (w':=c.w) h.bm hn AN;have Dk:(⟨T,none,b::(N1++N3), .hol e z l g (ep+1) c0 pi po u⟩:AA)∈recs:=by rw [←A4];simp
     have CV:(⟨u,some vv,N2,if l2.toList.all DT.bh then .row e2 z2 0 (.fld (.idx c0 pi) po 1 false) true else .deep e2 z2 l2.toList 0 0 (.fld (.idx c0 pi) po 1 false)⟩:AA)∈recs:=by rw [←A4];simp
     obtain⟨k1,k2,k3⟩:=aft.new _ CV vv rfl;have kgT:=aft.G _ Dk;have keT:=aft.fq _ Dk rfl;have kgu:=aft.G _ CV;have keu:=aft.iw _ CV rfl;obtain⟨kT1,kT2⟩:=aft.K T g q1;simp only at k1 k2 k3 kgT keT kgu keu;have JR: ∀q,q∈b::(N1++N3)∨q∈N2→q∈(c.G T).top:=fun q hq=>by rw [d5];simp only [Ad,Ag]at hq ⊢;rcases hq with(hq|hq|hq)|hq<;>simp [hq]
     obtain⟨Am,Bv⟩:=h.changes (recs:=recs) (gs:= []) (hs:=(c.G T).top) (DR _) (Mod.refl _ c.w) hn AN (fun q hq=>⟨_,Dk,hq⟩) (by
       rw [←A4];simp only [List.flatMap_cons,List.flatMap_nil,List.append_nil];rw [List.nodup_cons]at BO;obtain⟨n1,n2⟩:=BO;rw [List.append_assoc,List.nodup_append,List.nodup_append]at n2;obtain⟨a1,⟨a2,a3,a4⟩,a5⟩:=n2;rw [List.cons_append,List.nodup_cons,List.nodup_append,List.nodup_append];refine⟨fun hh=>n1 ?_,⟨a1,a3,fun x hx y hy=>a5 x hx y (Ag.2 (.inr hy))⟩,a2,fun x hx y hy Fv=> ?_⟩
       ·simp only [Ag]at hh ⊢;rcases hh with(hh|hh)|hh<;>simp [hh]
       ·rcases Ag.1 hx with hx|hx
        ·exact a5 x hx y (Ag.2 (.inl hy)) Fv
        ·exact a4 y hy x hx Fv.symm)
      (fun r hr q hq=>by
       have:q∈(c.G T).top:=by
        rw [←A4]at hr;simp only [Ad,List.not_mem_nil,or_false]at hr;rcases hr with rfl|rfl
        ·exact JR q (.inl hq)
        ·exact JR q (.inr hq)
       exact⟨.inl this,h.gw.inb T q (by simp [GI.own,this])⟩)
      (fun r hr=>by
       rw [←A4]at hr;simp only [Ad,List.not_mem_nil,or_false]at hr;rcases hr with rfl|rfl
       ·intros;simp
       ·intros;simp only;split<;>simp)
      (fun hk r hr=>by
       rw [←A4]at hr;simp only [Ad,List.not_mem_nil,or_false]at hr;rcases hr with rfl|rfl
       ·refine⟨kT1,fun g' B3=>q2 g' (aft.old T E1 g' B3),by rw [keT,q3], ?_,by rw [kgT]⟩;rw [kT2,p1,kgT];exact⟨b,cap,C,ys,kk,k,N1,N3,rfl,d4,p4,p5,p6,gD,d1,d2,d6,d7,d8,d9,d10,d11,rfl,k1,by rw [k3];exact p7,s1,s3⟩
       ·simp only;split
        ·rename_i hf;have Bl:=s2.kr hf;refine⟨k1,k2, [], ?_,by simp,fun _=>⟨rfl,by rw [kgu]⟩,fun _=>by rw [kgu]⟩;rw [k3,kgu];exact Bl
        ·refine⟨k1,k2,keu, ?_,by rw [kgu]⟩;rw [k3,kgu,AF.cj];exact s2)
     refine⟨?_,Bv,k1,k3, ?_,fun t ht=> ?_,q1,q3,by rw [keT,q3],G3⟩
     ·have:(recs.map fun r=>(r.tag,B9 [] r.bb))= [(T, .hol e z l g (ep+1) c0 pi po u),(u,if l2.toList.all DT.bh then .row e2 z2 0 (.fld (.idx c0 pi) po 1 false) true else .deep e2 z2 l2.toList 0 0 (.fld (.idx c0 pi) po 1 false))]:=by
       rw [←A4];simp [B9]
      rw [this]at Am;exact Am
     ·obtain⟨_,_,⟨a9,h1,_⟩|⟨g9,cap9,C9,ys9,N9,h1,_⟩⟩:=s2.inv
      ·exact⟨a9,0,0,h1, .inr (.inl rfl)⟩
      ·exact⟨_,_,_,h1, .inr (.inr ⟨g9,rfl⟩)⟩
     ·rcases ht with ht|⟨r,hr,rfl⟩
      ·exact .inl ht
      ·rw [←A4]at hr;simp only [Ad,List.not_mem_nil,or_false]at hr;rcases hr with rfl|rfl
       ·exact .inl E1
       ·exact .inr rfl
   ·cases hs
  ·cases hs
 ·cases hs
theorem Rel.close (h:Rel c n sl hp a) {T u:Nat} {hl r d:Af} (hT:hp T=some hl) (hu:hp u=some r) (hr:PE P hl r=some d) (IK: ∃q1 q2 q3 q4 q5 q6 q7 q8,hl= .hol q1 q2 q3 q4 q5 q6 q7 q8 u) (G3:T≠u):
  ∃recs c1,c1=c.db c.w recs∧Rel c1 n sl (AX hp [(T,d),(u, .dead)]) a∧(∀t,c1.U t→c.U t)∧c.E T<c1.E T:=by
 obtain⟨e,z,l,g,ep,c0,i,o',rfl⟩:=IK;have key: ∀(e2 z2:Nat) (l2:AF) (x:E),l[o']?=some (.row e2 z2 l2)→DC c.w [.row e2 z2 l2] [c.H u 0] [x.den c.ρ] (c.G u).top→c.U u→d= .deep e z l g (ep+1) (.set c0 i (.put (.idx c0 i) o' x (Ak P e)))→(Ak P e=false→z=1)→
   ∃recs c1,c1=c.db c.w recs∧Rel c1 n sl (AX hp [(T,d),(u, .dead)]) a∧(∀t,c1.U t→c.U t)∧c.E T<c1.E T:=by
  rintro e2 z2 l2 x BN XM Qn rfl F5;obtain⟨q1,q2,q3,⟨b,cap,C,ys,kk,k,N1,N2,p1,p2,p3,p4,p5,p6,p7,p7',p8,p9,p10,p11,p12,p13,p14,p15,p16,p17,p18⟩,q5⟩:=h.ents T _ (by rw [hT];rfl);have E1:=h.bm _ _ q1;have Ga:k.toNat<ys.length:=by omega
  have hmul:(k.toNat+1)*z≤ys.length*z:=Nat.mul_le_mul_right _ (by omega);have EG:ys.length*z≤cap*z:=Nat.mul_le_mul_right _ p9;rw [Nat.add_mul]at hmul;have C4:C.toList.length=cap*z:=by simpa using p11
  have AD:k.toNat*z+o'<C.size:=by omega
  have GH:=Kn Ga;generalize Lh:(AV.sl ys).nth k.toNat=yk at GH;have Ep:=p12 yk (List.mem_of_getElem? GH);obtain⟨zs,D3⟩: ∃zs,x.den c.ρ= .sl zs:=by
   obtain⟨_,_,⟨_,_,hx,_⟩|⟨_,_,_,_,_,_,hx,_⟩⟩:=XM.inv
   ·exact⟨_,hx⟩
   ·exact⟨_,hx⟩
  have Gf:(x.den c.ρ).cells= [x.den c.ρ]:=by rw [D3];rfl
  have hz:(yk.c9 o' (x.den c.ρ) (Ak P e)).cells=setVs yk.cells o' (x.den c.ρ).cells:=by
   refine VW ?_ (fun hg=> ?_)
   ·cases hg:Ak P e with
    |true=>exact .inr rfl
    |false=>left;rw [D3];intro cs hh;cases hh
   ·have:=F5 hg;exact⟨by omega,by omega,Gf⟩
  have Dy:AH (ys.set k.toNat (yk.c9 o' (x.den c.ρ) (Ak P e)))=setVs (AH ys) (k.toNat*z+o') (x.den c.ρ).cells:=
   Sf ys _ _ yk o' _ p12 GH (by rw [Gf];simp;omega) hz
  have Fg:((Cp ys.length l).drop (k.toNat*z+o')).take 1= [.row e2 z2 l2]:=by
   rw [←p7',Pd l _ _ _ _ Ga (by omega)];have Fp:o'<l.length:=by omega
   rw [List.drop_eq_getElem_cons Fp,List.take_succ_cons,List.take_zero];rw [List.getElem?_eq_getElem Fp]at BN;simpa using BN
  have OA:setVs (C.toList.take (ys.length*z)) (k.toNat*z+o') [c.H u 0]=C.toList.take (ys.length*z):=by
   apply List.ext_getElem?;intro j;have fL:(C.toList.take (ys.length*z)).length=ys.length*z:=by rw [List.length_take,C4];exact Nat.min_eq_left EG
   rw [MF _ _ _ (by rw [fL];show k.toNat*z+o'+1≤_;omega)];split
   ·rename_i hj;simp only [An,List.length_nil]at hj;have:j=k.toNat*z+o':=by omega
    subst this;rw [Nat.sub_self,List.getElem?_take,if_pos (by omega)];have:=p16;simpa using this.symm
   ·rfl
  have AS:DC c.w [.row e z (AF.of l)] [c.H T g] [(E.set c0 i (.put (.idx c0 i) o' x (Ak P e))).den c.ρ] (b::(N1++((c.G u).top++N2))):=by
   have BC:(E.set c0 i (.put (.idx c0 i) o' x (Ak P e))).den c.ρ= .sl (ys.set k.toNat (yk.c9 o' (x.den c.ρ) (Ak P e))):=by simp only [E.den,p2,p3,AV.idx,Lh,AV.da]
   rw [BC,p1];have Di:(ys.set k.toNat (yk.c9 o' (x.den c.ρ) (Ak P e))).length=ys.length:=List.length_set;have:=DC.row (w:=c.w) (e:=e) (z:=z) (l:=AF.of l) (g:=b) (cap:=cap) (C:=C) (ys:=ys.set k.toNat (yk.c9 o' (x.den c.ρ) (Ak P e))) (N1:=N1++((c.G u).top++N2)) (ts:= []) (vs:= []) (xs:= []) (N:= []) p7 (by rw [AF.aq];exact p7') p8 (by rw [Di];exact p9) p10 p11 (fun w hw=>by
     rcases List.mem_or_eq_of_mem_set hw with hw|rfl
     ·exact p12 w hw
     ·rw [hz,MJ _ _ _ (by rw [Gf,Ep];simp;omega)];exact Ep) (by rw [Di];exact p13) (by
     rw [Di,AF.aq,Dy,←OA];refine DC.setVs p17 ?_ ?_
     ·exact p18
     ·rw [Bd,Fg,Gf];exact XM) .nil
   rw [Di]at this;simpa using this
  have vD:=q1;have AN: ∀r∈([⟨T,none,b::(N1++((c.G u).top++N2)), .deep e z l g (ep+1) (.set c0 i (.put (.idx c0 i) o' x (Ak P e)))⟩,⟨u,none, [], .dead⟩]:List AA),r.new.isSome=true→ ¬c.U r.tag:=fun r hr hs=>by simp only [Ad,List.not_mem_nil,or_false]at hr;rcases hr with rfl|rfl<;>cases hs
  refine⟨[⟨T,none,b::(N1++((c.G u).top++N2)), .deep e z l g (ep+1) (.set c0 i (.put (.idx c0 i) o' x (Ak P e)))⟩,⟨u,none, [], .dead⟩],_,rfl, ?_⟩;generalize A4:([⟨T,none,b::(N1++((c.G u).top++N2)), .deep e z l g (ep+1) (.set c0 i (.put (.idx c0 i) o' x (Ak P e)))⟩,⟨u,none, [], .dead⟩]:List AA)=recs at AN;have hn:(recs.map AA.tag).Nodup:=by rw [←A4];simp [G3]
  have aft:=Cx.dc (w':=c.w) h.bm hn AN;have Dk:(⟨T,none,b::(N1++((c.G u).top++N2)), .deep e z l g (ep+1) (.set c0 i (.put (.idx c0 i) o' x (Ak P e)))⟩:AA)∈recs:=by rw [←A4];simp
  have CV:(⟨u,none, [], .dead⟩:AA)∈recs:=by rw [←A4];simp
  have kgT:=aft.G _ Dk;have keT:=aft.fq _ Dk rfl;have kgu:=aft.G _ CV;obtain⟨kT1,kT2⟩:=aft.K T g q1;simp only at kgT keT kgu;have B6: ∀q,q∈b::(N1++((c.G u).top++N2))→q∈(c.G T).top∨q∈(c.G u).top:=fun q hq=>by rw [p14];simp only [Ad,Ag]at hq ⊢;rcases hq with hq|hq|hq|hq<;>simp [hq]
  have K1:=h.gw.nodup T;simp only [GI.own,q5,List.append_nil,p14]at K1;have Ub:(c.G u).top.Nodup:=by have:=h.gw.nodup u;simp only [GI.own]at this;exact(List.nodup_append.1 this).1
  have EB: ∀q∈(c.G u).top,q∉b::(N1++N2):=fun q hq hh=>h.gw.cc u T (Ne.symm G3) q (by simp [GI.own,hq]) (by rw [←p14]at hh;simp [GI.own,hh]);obtain⟨Am,Bv⟩:=h.changes (recs:=recs) (gs:= []) (hs:=(c.G T).top++(c.G u).top) (DR _) (Mod.refl _ c.w) hn AN (fun q hq=>by
    rcases Ag.1 hq with hq|hq
    ·exact⟨_,Dk,hq⟩
    ·exact⟨_,CV,hq⟩) (by
    rw [←A4];simp only [List.flatMap_cons,List.flatMap_nil,List.append_nil];rw [List.nodup_cons,List.nodup_append]at K1;obtain⟨n1,a1,a2,a3⟩:=K1;rw [List.nodup_cons,List.nodup_append,List.nodup_append];refine⟨fun hh=> ?_,a1,⟨Ub,a2,fun x hx y hy Fv=>EB x hx (by rw [Fv];simp [hy])⟩,fun x hx y hy Fv=> ?_⟩
    ·simp only [Ag]at hh n1;rcases hh with hh|hh|hh
     ·exact n1 (.inl hh)
     ·exact EB b hh (by simp)
     ·exact n1 (.inr hh)
    ·rcases Ag.1 hy with hy|hy
     ·exact EB y hy (by rw [←Fv];simp [hx])
     ·exact a3 x hx y hy Fv)
   (fun r hr q hq=>by
    have:q∈(c.G T).top∨q∈(c.G u).top:=by
     rw [←A4]at hr;simp only [Ad,List.not_mem_nil,or_false]at hr;rcases hr with rfl|rfl
     ·exact B6 q hq
     ·simp at hq
    refine⟨.inl (Ag.2 this), ?_⟩;rcases this with hh|hh
    ·exact h.gw.inb T q (by simp [GI.own,hh])
    ·exact h.gw.inb u q (by simp [GI.own,hh]))
   (fun r hr=>by rw [←A4]at hr;simp only [Ad,List.not_mem_nil,or_false]at hr;rcases hr with rfl|rfl<;>(intros;simp))
   (fun hk r hr=>by
    rw [←A4]at hr;simp only [Ad,List.not_mem_nil,or_false]at hr;rcases hr with rfl|rfl
    ·exact⟨kT1,fun g' B3=>q2 g' (aft.old T E1 g' B3),by rw [keT,q3],by rw [kT2,kgT];exact AS,by rw [kgT]⟩
    ·exact⟨by rw [kgu],by rw [kgu]⟩)
  refine⟨?_,fun t ht=> ?_,by rw [keT];omega⟩
  ·have:(recs.map fun r=>(r.tag,B9 [] r.bb))= [(T, .deep e z l g (ep+1) (.set c0 i (.put (.idx c0 i) o' x (Ak P e)))),(u, .dead)]:=by
    rw [←A4];simp [B9]
   rw [this]at Am;exact Am
  ·rcases ht with ht|⟨r,hr,rfl⟩
   ·exact ht
   ·rw [←A4]at hr;simp only [Ad,List.not_mem_nil,or_false]at hr;rcases hr with rfl|rfl
    ·exact E1
    ·exact Qn
 have Qn:c.U u:=h.cf u r hu;unfold PE at hr;simp only at hr;split at hr
 ·rename_i e2 z2 l2 e3 z3 x BN;split at hr
  ·rename_i hh;obtain⟨hf,rfl,rfl,hlen,As⟩:=hh;simp only [Ae]at hr;obtain⟨q1,q2,N,q4,q5,q6,q7⟩:=h.ents u _ (by rw [hu];rfl);obtain⟨hN,_⟩:=q6 rfl;have hN:N= []:=hN;subst hN;exact key _ _ _ _ BN (DC.jn q4 hf hlen) Qn hr.symm (by rcases As with hh|hh;(rw [hh];simp);exact fun _=>hh)
  ·cases hr
 ·rename_i e2 z2 l2 e3 z3 l3 x BN;split at hr
  ·rename_i hh;obtain⟨rfl,rfl,hb,As⟩:=hh;simp only [Ae]at hr;have hb:=AF.of_eq hb;subst hb;obtain⟨q1,q2,q3,q4,q5⟩:=h.ents u _ (by rw [hu];rfl);rw [AF.cj]at q4;exact key _ _ _ _ BN q4 Qn hr.symm (by rcases As with hh|hh;(rw [hh];simp);exact fun _=>hh)
  ·cases hr
 ·cases hr
end
section
variable {P:Program} {c:Cx} {n nx:Nat} {sl sl0:Nat→SV} {hp hp0:Nat→Option Af} {a:Act} {o:Oper} {gs:Gd} {e:AO} {sg:BB} {nv:Nat}
theorem MM (hp:Nat→Option Af): ∀(l:List (Nat × Af)) (t:Nat),AX hp l t=match Je l t with|some f=>some f|none=>hp t
 | [],t=>rfl
 |(u,e)::l,t=>by
  have:=MM (fun v=>if v=u then some e else hp v) l t;simp only [AX,List.foldl_cons,Je]at this ⊢;rw [this];cases Je l t with
  |some f=>rfl
  |none=>
   simp only;by_cases h:u=t
   ·rw [if_pos h.symm,if_pos h]
   ·rw [if_neg (Ne.symm h),if_neg h]
theorem lW {hp:Nat→Option Af} {T v m u:Nat} {p:E × Nat × Nat} {h r:Af} (hs:Pw hp T v m u p=some (h,r)): ∃e z l ep c0 i o',h= .hol e z l v (m+1) c0 i o' u∧Cs hp [] T=some (.deep e z l v ep c0)∧ep=m:=by
 unfold Pw at hs;split at hs
 ·rename_i hl;split at hs
  ·rename_i hh;obtain⟨rfl,rfl,_⟩:=hh;split at hs
   ·simp only [Ae,Prod.mk.injEq]at hs;obtain⟨rfl,_⟩:=hs;exact⟨_,_,_,_,_,_,_,rfl,hl,rfl⟩
   ·cases hs
  ·cases hs
 ·cases hs
theorem mL {h r d:Af} {e z:Nat} {l:List DT} {g ep:Nat} {c0 i:E} {o' u:Nat} (hh:h= .hol e z l g ep c0 i o' u) (hc:PE P h r=some d): ∃x,d= .deep e z l g (ep+1) x:=by
 subst hh;unfold PE at hc;simp only at hc;split at hc
 ·split at hc
  ·simp only [Ae]at hc;exact⟨_,hc.symm⟩
  ·cases hc
 ·split at hc
  ·simp only [Ae]at hc;exact⟨_,hc.symm⟩
  ·cases hc
 ·cases hc
theorem tO (Ho: ∀f s,sg f=some s→f<1000000) (h:Ba P c n nx sl hp a sl0 hp0 o []) (hu: ¬c.U (nx+999)) (he:PN P sg sl0 hp0 nv nx o=some e)
  (hc: ∀q∈e.cd,q.den c.ρ) (AZ: ∀cl,e.call=some cl→ ∃r,c.ρ[nv]?=some r∧Gn (CB P sg) cl.fn ((EL.of cl.args).den c.ρ) c.ρ r):Ar P o c n nx sl hp [] a e:=by
 unfold PN at he;simp only at he;split at he
 ·cases he
 rename_i t T v m p s JD;split at he
 ·cases he
 rename_i hl inn Ma;split at he
 ·cases he
 rename_i e0 Ix;split at he
 ·cases he
 rename_i B7;have B7:e0.bq=none:=by cases hh:e0.bq with|none=>rfl|some x=>rw [hh]at B7;simp at B7
 obtain⟨Gb,A3⟩:=O9 JD;have Gb:Operand.tmp t∈o.op.operands:=by simpa using Gb
 obtain⟨fe,fz,fl,fep,fc0,fi,fo,rfl,FG,rfl⟩:=lW Ma;have hE:c.E T=fep:=(h.eh T _ (Ce FG (DR _))).2.2.1;have DH:=h.rel.ct t;rw [←h.sl t Gb]at DH;obtain⟨vv,Hl,AQ⟩: ∃vv,Gu c T v (some p) vv∧ ∀c1:Cx,c1.ρ=c.ρ→c1.K (nx+999) 0→c1.H (nx+999) 0=vv→(∃q n r,vv= .slice q n r∧(q=none∨n=0∨ ∃g,q=some ⟨g,0,none⟩))→SR c1 [s] [a.tmps.getD t undef]:=by
  rcases A3 with⟨y,Cr,rfl⟩|⟨y,k,z,q,Cr,rfl⟩
  ·rw [Cr]at DH;generalize a.tmps.getD t undef=av at DH ⊢;cases DH with
   |via h1 h2 h3 _=>obtain⟨_,hp⟩:=h3 hE;refine⟨_,hp,fun c1 e1 k1 k2 k3=> ?_⟩;obtain⟨q,n,r,rfl,_⟩:=k3;exact .own k1 k2 .nil
  ·rw [Cr]at DH;generalize a.tmps.getD t undef=av at DH ⊢;cases DH with
   |vptr h1 h2 h3 _=>
    obtain⟨b,off,len,cap,kk,kv,g1,g2,g3,g4,g5,g6,rfl⟩:=h3 hE;refine⟨_,g2,fun c1 e1 k1 k2 k3=> ?_⟩;obtain⟨q9,n9,r9,hv,hq⟩:=k3;cases hv;have EO:off=0:=by
     rcases hq with hq|hq|⟨g,hq⟩
     ·cases hq
     ·omega
     ·cases hq;rfl
    subst EO;have:=SR.cg (c:=c1) (i:=k) (sz:=z) (o:=q) k1 k2 (by rw [e1];exact g3) g4 g5 .nil;simpa using this
 obtain⟨recs,c1,rfl,Cq,KX,eC,Ir,gU,Tj,vC,_,u9,G3⟩:=h.rel.split Ma h.hp hu (fun _=>Hl);have IF:=AQ _ KX.ρ eC Ir gU;have Ea:=Cq.gv (sl':=fun i=>if i=t then s else sl i) (fun i=>by
  by_cases hi:i=t
  ·subst hi;right;simpa using IF
  ·left;simp [hi])
 have C1: ∀x,AX hp [(T, .hol fe fz fl v (fep+1) fc0 fi fo (nx+999)),(nx+999,inn)] x=if x=nx+999 then some inn else if x=T then some (.hol fe fz fl v (fep+1) fc0 fi fo (nx+999))else hp x:=fun x=>rfl;have pre1:Ba P (c.db c.w recs) n nx (fun i=>if i=t then s else sl i) (AX hp [(T, .hol fe fz fl v (fep+1) fc0 fi fo (nx+999)),(nx+999,inn)]) a (fun i=>if i=t then s else sl0 i) (fun w=>if w=T then some (.hol fe fz fl v (fep+1) fc0 fi fo (nx+999))else if w=nx+999 then some inn else hp0 w) o []:=by
  refine⟨Ea,DR _,fun i hi=> ?_,fun x f hf=> ?_,fun x h1 h2 hx=> ?_⟩
  ·by_cases hit:i=t
   ·simp [hit]
   ·simp only [if_neg hit];exact h.sl i hi
  ·rw [C1];by_cases h1:x=T
   ·rw [if_pos h1]at hf;rw [if_neg (by rw [h1];exact G3),if_pos h1];exact hf
   ·rw [if_neg h1]at hf;by_cases h2:x=nx+999
    ·rw [if_pos h2]at hf ⊢;exact hf
    ·rw [if_neg h2]at hf;rw [if_neg h2,if_neg h1];exact h.hp x f hf
  ·rcases Tj x hx with hx|hx
   ·exact h.new x h1 h2 hx
   ·omega
 have eX: ∀(c':Cx) (a':Act) (w9:SV),Rel c' n (B1 n (fun i=>if i=t then s else sl i) o.dst w9) (fun _=>none) a'→True:=fun _ _ _ _=>trivial;have stale: ∀(c':Cx) (v':Value),c'.K T v→fep<c'.E T→SR c' [sl t] [v']:=by
  intro c' v' hk AD;rw [←h.sl t Gb];rcases A3 with⟨y,Cr,_⟩|⟨y,k,z,q,Cr,_⟩
  ·rw [Cr];exact .via hk (by omega) (fun hh=>by omega) .nil
  ·rw [Cr];exact .vptr hk (by omega) (fun hh=>by omega) .nil
 have back: ∀{c':Cx} {hp':Nat→Option Af} {a':Act} {w9:SV},Rel c' n (B1 n (fun i=>if i=t then s else sl i) o.dst w9) hp' a'→c'.K T v→fep<c'.E T→Rel c' n (B1 n sl o.dst w9) hp' a':=by
  intro c' hp' a' w9 hr hk AD;refine hr.gv fun i=> ?_;unfold B1;by_cases h1:o.dst=some i∧i<n
  ·left;rw [if_pos h1,if_pos h1]
  ·rw [if_neg h1,if_neg h1];by_cases h2:i=t
   ·subst h2;right;exact stale _ _ hk AD
   ·left;show sl i=if i=t then s else sl i;rw [if_neg h2]
 split at he
 ·
  split at he
  ·rename_i Od;simp only [Ae]at he;subst he;have Ha:=W7 Ho pre1 Ix hc AZ (fun x hx=>by rw [B7]at hx;cases hx);intro next Q hk
   refine Ha next Q fun a' c' AW hr=> ?_
   have Th:AX (AX hp [(T, .hol fe fz fl v (fep+1) fc0 fi fo (nx+999)),(nx+999,inn)]) e0.bb T=some (.hol fe fz fl v (fep+1) fc0 fi fo (nx+999)):=by rw [MM,Od,C1,if_neg G3,if_pos rfl]
   obtain⟨g1,_,g3,_⟩:=hr.ents T _ (by rw [Th];rfl);refine hk a' c' ⟨AW.ρ,AW.A,AW.w0,AW.Mu,fun x hx=> ?_⟩ (back hr g1 (by omega));rcases AW.U x hx with hx|hx
   ·rcases Tj x hx with hx|hx
    ·exact .inl hx
    ·exact .inr ⟨by omega,by simp only [Bj];omega⟩
   ·exact .inr hx
  ·cases he
 ·split at he
  ·rename_i r' fQ fN;obtain⟨d,hd,rfl⟩:=Ap.1 he;have Ha:=W7 Ho pre1 Ix hc AZ (fun x hx=>by rw [B7]at hx;cases hx);intro next Q hk
   refine Ha next Q fun a' c' AW hr=> ?_
   have Th:AX (AX hp [(T, .hol fe fz fl v (fep+1) fc0 fi fo (nx+999)),(nx+999,inn)]) e0.bb T=some (.hol fe fz fl v (fep+1) fc0 fi fo (nx+999)):=by rw [MM,fN,C1,if_neg G3,if_pos rfl]
   have gQ:AX (AX hp [(T, .hol fe fz fl v (fep+1) fc0 fi fo (nx+999)),(nx+999,inn)]) e0.bb (nx+999)=some r':=by rw [MM,fQ]
   obtain⟨recs2,c2,rfl,CY,eH,vA⟩:=hr.close Th gQ hd ⟨_,_,_,_,_,_,_,_,rfl⟩ G3;obtain⟨x9,rfl⟩:=mL rfl hd;have Ti:AX (AX (AX hp [(T, .hol fe fz fl v (fep+1) fc0 fi fo (nx+999)),(nx+999,inn)]) e0.bb) [(T, .deep fe fz fl v (fep+1+1) x9),(nx+999, .dead)] T=some (.deep fe fz fl v (fep+1+1) x9):=by show(if T=nx+999 then _ else if T=T then _ else _)=_;rw [if_neg G3,if_pos rfl]
   obtain⟨g1,_,g3,_⟩:=CY.ents T _ (by rw [Ti];rfl);have CU:=back CY g1 (by omega);have Bb:AX hp ((T, .hol fe fz fl v (fep+1) fc0 fi fo (nx+999))::(nx+999,inn)::e0.bb++ [(T, .deep fe fz fl v (fep+1+1) x9),(nx+999, .dead)])=AX (AX (AX hp [(T, .hol fe fz fl v (fep+1) fc0 fi fo (nx+999)),(nx+999,inn)]) e0.bb) [(T, .deep fe fz fl v (fep+1+1) x9),(nx+999, .dead)]:=by rw [←LB,←LB];rfl
   refine hk a' (c'.db c'.w recs2) ⟨AW.ρ,AW.A,AW.w0,AW.Mu,fun x hx=> ?_⟩ ?_
   ·rcases AW.U x (eH x hx)with hx|hx
    ·rcases Tj x hx with hx|hx
     ·exact .inl hx
     ·exact .inr ⟨by omega,by simp only [Bj];omega⟩
    ·exact .inr hx
   ·have:=CU;rw [←Bb]at this;exact this
  ·cases he
theorem pM (h:Ba P c n nx sl hp a sl0 hp0 o gs) {e:AO} (dp:Bool) (hd:Ar P o c n nx sl hp gs a e):Ar P o c n nx sl hp gs a (HR dp hp0 gs e):=by
 unfold HR;split
 ·exact hd
 ·split
  ·rename_i l hl;intro next Q hk
   refine hd next Q fun a' c' hs hr=> ?_
   have e1:AX hp0 e.bb=fun t=>match Je e.bb t with|some f=>some f|none=>hp0 t:=funext (MM hp0 e.bb)
   have hl:CN (AX hp0 e.bb) [] (aH e.bb)=some l:=by rw [e1];exact hl
   have JC:=hr.freeze (hp0:=AX hp0 e.bb) (fun t e' h'=>by
    rw [MM]at h' ⊢;split at h'
    ·exact h'
    ·exact h.hp t e' h') (DR _) hl
   refine hk a' (c'.bg (l.map (·.1))) ⟨hs.ρ,hs.A,hs.w0,hs.Mu,hs.U⟩ ?_;show Rel _ _ _ (AX hp (e.bb++l)) a';rw [LB];exact JC
  ·exact hd
theorem oE (dp:Bool) (e:AO):(HR dp hp0 gs e).call=e.call:=by
 unfold HR;split
 ·rfl
 ·split<;>rfl
theorem qA (dp:Bool) (e:AO):(HR dp hp0 gs e).cd=e.cd:=by
 unfold HR;split
 ·rfl
 ·split<;>rfl
theorem V2 (dp:Bool) (e:AO):(HR dp hp0 gs e).bq=e.bq:=by
 unfold HR;split
 ·rfl
 ·split<;>rfl
theorem oR {dp:Bool} {e:AO} {x:E} (h:e.bq=some x):HR dp hp0 gs e=e:=by unfold HR;rw [if_pos (by simp [h])]
theorem rM (h:Ba P c n nx sl hp a sl0 hp0 o gs) {e:AO} (fz:Bool) (hd:Ar P o c n nx sl hp gs a e):Ar P o c n nx sl hp gs a (HU fz hp0 gs e):=by
 unfold HU;split
 ·exact hd
 ·rename_i Tn;simp only [Bool.or_eq_true,not_or]at Tn;have eY:e.bb= []:=by simpa using Tn.2
  split
  ·rename_i t g m p x hv;split
   ·rename_i y l hy hl;split
    ·rename_i Hj;intro next Q hk
     refine hd next Q fun a' c' hs hr=> ?_
     rw [eY]at hr;have TK:gs= []:=by simpa using Tn.1.1.1.2
     subst TK;have hr:Rel c' n (B1 n sl o.dst e.val) hp a':=hr;have eh:EH c' hp0:=fun t e CX=>hr.ents t e (I9 h.hp CX);have JC:=hr.freeze h.hp (DR _) hl;refine hk a' (c'.bg (l.map (·.1))) ⟨hs.ρ,hs.A,hs.w0,hs.Mu,hs.U⟩ ?_;refine{JC with ct:=fun i=> ?_};have h1:=hr.ct i;have h2:=JC.ct i;unfold B1 at h1 h2 ⊢;split
     ·rename_i hi;rw [if_pos hi]at h1;obtain⟨f,q1,q2⟩:=FV eh (DR _) AK hy h1 AK (Nat.le_refl _);exact .e q1 (fun b hb=>Pc hr eh (DR _) hl Hj (q2 b hb)) .nil
     ·rename_i hi;rw [if_neg hi]at h2;exact h2
    ·exact hd
   ·exact hd
  ·exact hd
theorem pO (fz:Bool) (e:AO):(HU fz hp0 gs e).call=e.call:=by
 unfold HU;split
 ·rfl
 ·split
  ·split
   ·split<;>rfl
   ·rfl
  ·rfl
theorem sA (fz:Bool) (e:AO):(HU fz hp0 gs e).cd=e.cd:=by
 unfold HU;split
 ·rfl
 ·split
  ·split
   ·split<;>rfl
   ·rfl
  ·rfl
theorem ZN (fz:Bool) (e:AO):(HU fz hp0 gs e).bq=e.bq:=by
 unfold HU;split
 ·rfl
 ·split
  ·split
   ·split<;>rfl
   ·rfl
  ·rfl
theorem rZ {fz:Bool} {e:AO} {x:E} (h:e.bq=some x):HU fz hp0 gs e=e:=by unfold HU;rw [if_pos (by simp [h])]
theorem uQ (Ho: ∀f s,sg f=some s→f<1000000):LX P sg (CB P sg):=by
 intro c n nx sl hp a sl0 hp0 o gs e nv h hu he hc AZ B7;unfold Jm at he;split at he
 ·rename_i e' DP;simp only [Ae]at he;subst he;rw [sA,qA]at hc;rw [pO,oE]at AZ;rw [ZN,V2]at B7;exact rM h _ (pM h _ (W7 Ho h DP hc AZ B7))
 ·split at he
  ·exact tO Ho h hu he hc AZ
  ·cases he
theorem mY {x:E} (he:PN P sg sl0 hp0 nv nx o=some e) (hq:e.bq=some x):False:=by
 unfold PN at he;simp only at he;split at he
 ·cases he
 split at he
 ·cases he
 split at he
 ·cases he
 rename_i e0 Ix;split at he
 ·cases he
 rename_i B7;have B7:e0.bq=none:=by cases hh:e0.bq with|none=>rfl|some x=>rw [hh]at B7;simp at B7
 split at he
 ·split at he
  ·simp only [Ae]at he;subst he;rw [B7]at hq;cases hq
  ·cases he
 ·split at he
  ·obtain⟨d,hd,rfl⟩:=Ap.1 he;rw [B7]at hq;cases hq
  ·cases he
theorem l8 {x:E} (he:Jm P sg sl0 hp0 nv nx gs o=some e) (hq:e.bq=some x):Bg P sg sl0 hp0 nv nx gs o=some e:=by
 unfold Jm at he;split at he
 ·rename_i e' DP;simp only [Ae]at he;subst he;rw [ZN,V2]at hq;rw [rZ (by rw [V2];exact hq),oR hq];exact DP
 ·split at he
  ·exact(mY he hq).elim
  ·cases he
theorem tV:P0 P sg:=by
 intro c n nx sl hp a sl0 hp0 o gs e nv x h he hq hb;unfold H9 at hb;cases AB:o.op with
 |binOp op t y z ty=>
  rw [AB]at hb;simp only at hb;have he:=l8 he hq;simp only [Bg,AB,Aq]at he;obtain⟨s1,Bq,s2,AQ,he⟩:=he;have key: ∀xq,A9 hp0 gs AK s1=some xq→xq.den c.ρ= .sl []:=by
   intro xq Hv;obtain⟨f,q1,_⟩:=h.iy Bq (by simp [AB,Op.operands]) Hv;generalize a.eval y=v at q1 hb;split at hb
   ·generalize xq.den c.ρ=d at q1;cases q1 with
    |dh _=>rfl
   ·cases hb
  unfold Ng at he;split at he
  ·split at he
   ·simp at he;subst he;cases hq
   ·simp at he;subst he;cases hq
   ·obtain⟨xq,Hv,rfl⟩:=Ap.1 he;cases hq;exact key _ Hv
   ·obtain⟨xq,Hv,rfl⟩:=Ap.1 he;cases hq;exact key _ Hv
   ·cases he
  ·split at he
   ·simp at he;subst he;cases hq
   ·cases he
  ·split at he
   ·simp at he;subst he;cases hq
   ·cases he
  ·split at he
   ·simp at he;subst he;cases hq
   ·cases he
  ·split at he
   ·cases he
   ·split at he
    ·split at he
     ·simp at he;subst he;cases hq
     ·simp at he;subst he;cases hq
     ·cases he
    ·cases he
  ·cases he
 |_=>rw [AB]at hb;simp at hb
end
end Go.Proofs.YtagokdejdanfcaaGreatDoor
end

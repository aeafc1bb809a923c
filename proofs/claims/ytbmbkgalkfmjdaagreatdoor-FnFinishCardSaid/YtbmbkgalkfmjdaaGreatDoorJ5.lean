/- Parts of a proof, joined: WP, WQ, WR, WRa, WRb, WRc, WRd, WRe, WS, WSa, WSb. -/
import Derived.Test.YtbmbkgalkfmjdaaGreatDoorJ4
set_option linter.unusedVariables false
set_option linter.unusedSimpArgs false
section
namespace Go.Proofs.YtbmbkgalkfmjdaaGreatDoor
open Go.RowKit
theorem AH.{u} {α:Type u} {a:α}:[a].length=1:=rfl
section
variable {P:Program} {c:Cx} {hp:Nat→Option Aj} {gs:Gd}
theorem zws (hb:Q1 c) (eh:EH c hp) (k:Bj c.ρ gs) (hU: ∀t g,c.K t g→c.U t): ∀(ss:List SV) {ts:List TypeId} {ms:List PM} {lo:List Bool} {es:List E} {bs:List PA} {us uz:List Nat} {vs:List Value},UN P hp gs ts ms lo ss=some (es,bs,us,uz)→SR c ss vs→ts.length≤ss.length→
  ∃rf lf hs,DP P c.w ts ms lo vs (es.map (E.den c.ρ)) rf lf hs∧(∀b∈rf,c.fj us b)∧(∀b∈lf,c.fj uz b∨b<c.w0.heap.size∧ ¬c.Mu b)∧hs=(DN bs).flatMap (fun t=>(c.G t).top)∧Jn P c ts ms vs bs∧(∀u∈DN bs,c.U u)∧(bs≠ []→gs= [])
 | [],ts,ms,lo,es,bs,us,uz,vs,h,hs,hl=>by simp [UN]at h;obtain⟨rfl,rfl,rfl,rfl⟩:=h;cases hs;have:ts= []:=List.eq_nil_of_length_eq_zero (by simpa using hl);subst this;exact⟨[], [], [], .nil,by simp,by simp,by simp [DN], .nil,by simp [DN],by simp⟩
 |s::ss,ts,ms,lo,es,bs,us,uz, [],h,hs,hl=>by have:=hs.len;simp at this
 |s::ss,ts,ms,lo,es,bs,us,uz,v::vs,h,hs,hl=>by
  obtain⟨r1,r2⟩:=hs.cr;unfold UN at h;split at h
  ·cases h
  rename_i ys bs' us' uz' Dj;obtain⟨rf,lf,Bh,q1,q2,qz,q3,q4,q5,q6⟩:=zws hb eh k hU ss Dj r2 (by simp at hl ⊢;omega);have see1: ∀{a b:List Nat} {x:Nat},c.fj a x→c.fj (a++b) x:=fun h=>h.mono fun t ht=>by simp [ht]
  have see2: ∀{a b:List Nat} {x:Nat},c.fj b x→c.fj (a++b) x:=fun h=>h.mono fun t ht=>by simp [ht]
  split at h
  ·rename_i hm;split at h
   ·rename_i Ci;simp only [Ae,Bool.not_eq_true']at Ci;obtain⟨t,ts,rfl⟩: ∃t ts',ts=t::ts':=by
     cases ts with
     |nil=>simp at Ci
     |cons t ts=>exact⟨t,ts,rfl⟩
    split at h
    ·rename_i i;simp only [Ah,Prod.mk.injEq]at h;obtain⟨rfl,rfl,rfl,rfl⟩:=h;cases r1 with
     |lent g1 _=>obtain⟨f,p1,p2⟩:=hb.lo _ _ g1;have hw:Rd c.w [v] [(E.var i).den c.ρ] f:=p1.frame fun b Cd=>hb.block b (p1.inb b Cd) (p2 b Cd);exact⟨rf,f++lf,Bh, .lent Ci.1 hm hw q1,q2,fun b Cd=>(Ai.1 Cd).elim (fun Cd=> .inr ⟨p1.inb b Cd,p2 b Cd⟩) (qz b),q3, .ro hm q4,q5,q6⟩
    ·obtain⟨x,hx,hh⟩:=Au.1 h;simp only [Prod.mk.injEq]at hh;obtain⟨rfl,rfl,rfl,rfl⟩:=hh;obtain⟨f,p1,p2⟩:=Ii eh k A3 hx r1 A3 (Nat.le_refl _);exact⟨rf,f++lf,Bh, .lent Ci.1 hm p1 q1,q2,fun b Cd=>(Ai.1 Cd).elim (fun Cd=> .inl (see1 (p2 b Cd))) (fun Cd=>(qz b Cd).imp see2 id),q3, .ro hm q4,q5,q6⟩
   obtain⟨x,hx,hh⟩:=Au.1 h;simp only [Prod.mk.injEq]at hh;obtain⟨rfl,rfl,rfl,rfl⟩:=hh;obtain⟨f,p1,p2⟩:=Ii eh k A3 hx r1 A3 (Nat.le_refl _);have hb: ∀b∈f++rf,c.fj (BZ hp gs (A3+1) [s]++us') b:=fun b hb=>by
    rcases Ai.1 hb with hb|hb
    ·exact see1 (p2 b hb)
    ·exact see2 (q2 b hb)
   cases ts with
   |nil=>exact⟨f++rf,lf,Bh, .free p1 q1,hb,qz,q3, .ro hm q4,q5,q6⟩
   |cons t ts=>exact⟨f++rf,lf, []++Bh, .cons (by rw [hm];exact⟨p1,rfl⟩) q1,hb,qz,q3, .ro hm q4,q5,q6⟩
  ·rename_i own own' hm;split at h
   ·rename_i ty T Bp;split at h
    ·rename_i ty' g cs G5;split at h
     ·cases h
     rename_i A5;have A5:ty'=ty:=by simpa using A5
     subst A5;split at h
     ·rename_i xs rs vs' CP DK;simp only [Ah,Prod.mk.injEq]at h;obtain⟨rfl,rfl,rfl,rfl⟩:=h;obtain⟨t,ts,rfl,Ew⟩: ∃t ts',ts=t::ts'∧KP P t=some ty':=by
       cases ts with
       |nil=>simp at Bp
       |cons t ts=>exact⟨t,ts,rfl,by simpa using Bp⟩
      obtain⟨b,C,g1,g2,g3,g4,g5,g6,g7⟩:=eh T _ (Db G5 k);obtain⟨f,h8,p1,p2,p3,p4,p5⟩:=mZ (P:=P) eh k hU (A9 P ty') DK g7 CP (Nat.le_refl _);have hv:v= .pointer (some ⟨b,0,none⟩):=by
       cases r1 with
       |cu k1 k2 _=>rw [g2]at k2;cases k2;rfl
      refine⟨f++rf,lf,(b::h8)++Bh, .cons ?_ q1,fun x hx=> ?_,qz,by simp [DN,p3,q3,g3], .bx hm Ew hv g1 (by rw [g2,hv]) p5 q4,fun u hu=> ?_,fun _=>rfl⟩
      ·rw [hm];exact⟨ty',b,C,xs.den c.ρ,h8,Ew,hv,g5,g6,rfl,p1,rfl⟩
      ·rcases Ai.1 hx with hx|hx
       ·exact see1 (p2 x hx)
       ·exact see2 (q2 x hx)
      ·simp only [DN,List.cons_append,Ag,Ai]at hu;rcases hu with rfl|hu|hu
       ·exact hU _ _ g1
       ·exact p5 u hu
       ·exact q5 u hu
     ·cases h
    ·cases h
   ·cases h
  ·rename_i own hm;split at h
   ·rename_i t x Bp hx;split at h
    ·cases h
    rename_i AD;have AD:(Ih s).2=Ao P t:=by simpa using AD
    split at h
    ·rename_i rs vs' DK;simp only [Ah,Prod.mk.injEq]at h;obtain⟨rfl,rfl,rfl,rfl⟩:=h;obtain⟨ts,rfl⟩: ∃ts',ts=t::ts':=by
      cases ts with
      |nil=>simp at Bp
      |cons t' ts=>simp at Bp;exact⟨ts,by rw [Bp]⟩
     obtain⟨f,h8,p1,p2,p3,⟨vs9,p4,p5⟩,p6⟩:=zrQ (P:=P) eh k hU r1 hx AD DK;refine⟨f++rf,lf,h8++Bh, .cons (by rw [hm];exact p1) q1,fun x hx=> ?_,qz,by simp [DN,p3,q3],by rw [AD];exact .mu hm p4 p5 q4,fun u hu=> ?_,fun _=>rfl⟩
     ·rcases Ai.1 hx with hx|hx
      ·exact see1 (p2 x hx)
      ·exact see2 (q2 x hx)
     ·simp only [DN,Ai]at hu;exact hu.elim (p6 u) (q5 u)
    ·cases h
   ·cases h
  ·rename_i own hm;split at h
   ·rename_i t x Bp hx;split at h
    ·cases h
    rename_i AD;have AD:(Ih s).2=Ao P t:=by simpa using AD
    split at h
    ·rename_i rs vs' DK;simp only [Ah,Prod.mk.injEq]at h;obtain⟨rfl,rfl,rfl,rfl⟩:=h;obtain⟨ts,rfl⟩: ∃ts',ts=t::ts':=by
      cases ts with
      |nil=>simp at Bp
      |cons t' ts=>simp at Bp;exact⟨ts,by rw [Bp]⟩
     obtain⟨f,h8,p1,p2,p3,⟨vs9,p4,p5⟩,p6⟩:=zrQ (P:=P) eh k hU r1 hx AD DK;refine⟨f++rf,lf,h8++Bh, .cons (by rw [hm];exact p1) q1,fun x hx=> ?_,qz,by simp [DN,p3,q3], .va hm p6 q4,fun u hu=> ?_,fun _=>rfl⟩
     ·rcases Ai.1 hx with hx|hx
      ·exact see1 (p2 x hx)
      ·exact see2 (q2 x hx)
     ·simp only [DN,Ai]at hu;exact hu.elim (p6 u) (q5 u)
    ·cases h
   ·cases h
end
inductive GY (P:Program) (w:World):List TypeId→List Bool→List Value→List AV→List Nat→List Nat→Prop where
 |nil {fl}:GY P w [] fl [] [] [] []
 |own {t ts fl el u us y ys top N f o}:fl.headD false=true→CT P t=some el→(Cg P el=true∧N= []∨Cg P el=false∧El P t=none)→Dd w el (P.cellsOf el) u y top N→GY P w ts fl.tail us ys f o→GY P w (t::ts) fl (u::us) (y::ys) (N++f) (top++o)
 |deep {t ts fl el e z l u us y ys top f o}:fl.headD false=true→CT P t=some el→Cg P el=false→El P t=some (.row e z l)→DC w [.row e z l] [u] [y] top→GY P w ts fl.tail us ys f o→GY P w (t::ts) fl (u::us) (y::ys) f (top++o)
 |skip {t ts fl u us y ys f o}:(fl.headD false=true→CT P t=none)→GY P w ts fl.tail us ys f o→GY P w (t::ts) fl (u::us) (y::ys) f o
inductive D5 (P:Program) (w:World):List TypeId→List PM→List Value→List AV→List Nat→List Nat→Prop where
 |nil {ms vs}:D5 P w [] ms vs [] [] []
 |ro {t ts ms v vs bs f o}:ms.headD .ro= .ro→D5 P w ts ms.tail vs bs f o→D5 P w (t::ts) ms (v::vs) bs f o
 |va {t ts ms own v vs bs f o}:ms.headD .ro= .va own→D5 P w ts ms.tail vs bs f o→D5 P w (t::ts) ms (v::vs) bs f o
 |mu {t ts ms own v vs us ys y bs f1 f o1 o}:ms.headD .ro= .mu own→(if Ao P t then v= .agg us.toArray∧y= .agg ys else us= [v]∧ys= [y])→GY P w (A9 P t) own us ys f1 o1→D5 P w ts ms.tail vs bs f o→D5 P w (t::ts) ms (v::vs) (y::bs) (f1++f) (o1++o)
 |bx {t ts ms own own' ty b C v vs ys y bs f1 o1 f o}:ms.headD .ro= .bx own own'→KP P t=some ty→v= .pointer (some ⟨b,0,none⟩)→w.heap[b]?=some (.cells C ty (0,0))→(∀u∈C.toList,u.oneCell'=true)→y= .agg ys→CA P w (A9 P ty) own' C.toList ys f1 o1→
   D5 P w ts ms.tail vs bs f o→D5 P w (t::ts) ms (v::vs) (y::bs) (f1++f) (b::o1++o)
section
variable {P:Program} {c:Cx} {w':World}
theorem zxU {mk:Nat→E} {ts:List TypeId} {fl:List Bool} {us:List Value} {rs:List (Option RI)} (h:He P c ts fl us rs) (hU: ∀t g,c.K t g→c.U t): ∀{ys:List AV} {f o:List Nat} (j:Nat),GY P w' ts fl us ys f o→(∀i y,ys[i]?=some y→(mk (j+i)).den c.ρ=y)→
  ∃recs:List AU,MA mk j rs=recs.map AU.pair∧(recs.flatMap AU.top).Sublist o∧(∀r∈recs,r.new=none∧c.U r.tag∧ ∀hs f,r.bu≠ .gd hs f)∧recs.map AU.tag=CM rs∧ ∀c',Fp c c' w' recs→(∀b∈f,c'.ok b)→ ∀r∈recs,Dn c' r.tag r.bu:=by
 induction h with
 |nil=>intro ys f o j hm _;cases hm;exact⟨[],rfl,by simp,by simp,rfl,by simp⟩
 | @row t ts fl v vs u g el rs h1 h2 TB h3 h4 h5 _ ih=>
  intro ys f o j hm GA;cases hm with
  |skip hh _=>rw [hh h1]at h2;cases h2
  |deep _ k2 k21 k22 _ _=>
   rw [h2]at k2;cases k2;rcases TB with hh|hh
   ·rw [hh]at k21;cases k21
   ·rw [hh]at k22;cases k22
  | @own _ _ _ el' _ _ y ys top N f o k1 k2 k23 k3 k4=>
   rw [h2]at k2;cases k2;obtain⟨recs,e1,e2,e3,e4,e5⟩:=ih (j+1) k4 (fun i y hy=>by rw [show j+1+i=j+(i+1)from by omega];exact GA (i+1) y (by simpa using hy));have hy:=GA 0 y rfl;refine⟨⟨u,none,top, .row el (P.cellsOf el) g (mk j) (Cg P el)⟩::recs,by simp [MA,e1,AU.pair],by simpa using(List.Sublist.refl top).append e2,fun r hr=> ?_,by simp [CM,RI.tag,e4],fun c' ha Aw r hr=> ?_⟩
   ·rcases Ag.1 hr with rfl|hr
    ·exact⟨rfl,hU _ _ h3,by simp⟩
    ·exact e3 r hr
   ·rcases Ag.1 hr with rfl|hr
    ·obtain⟨a1,a2⟩:=ha.K u g h3;have kg:=ha.G _ (List.mem_cons_self ..);simp only at kg;refine⟨a1,fun g' Cm=>h5 g' (ha.old u (hU _ _ h3) g' Cm),N, ?_,fun b hb=>Aw b (by simp [hb]),fun hd=> ?_,fun _=>by rw [kg]⟩
     rotate_left
     ·rcases k23 with⟨_,h⟩|⟨h,_⟩
      ·subst h;exact⟨rfl,by rw [kg]⟩
      ·rw [h]at hd;cases hd
     have Bz:(mk j).den c.ρ=y:=by simpa using hy
     rw [a2,h4,kg,ha.w,ha.ρ,Bz];exact k3
    ·exact e5 c' (ha.mono fun r hr=>by simp [hr]) (fun b hb=>Aw b (by simp [hb])) r hr
 | @deep t ts fl v vs u g el e z l ep rs h1 h2 TA Qw h3 h4 h5 h6 _ ih=>
  intro ys f o j hm GA;cases hm with
  |skip hh _=>rw [hh h1]at h2;cases h2
  |own _ k2 k23 _ _=>
   rw [h2]at k2;cases k2;rcases k23 with⟨hh,_⟩|⟨_,hh⟩
   ·rw [hh]at TA;cases TA
   ·rw [hh]at Qw;cases Qw
  | @deep _ _ _ el' e' z' l' _ _ y ys top f o k1 k2 k21 k22 k3 k4=>
   rw [Qw]at k22;cases k22;obtain⟨recs,e1,e2,e3,e4,e5⟩:=ih (j+1) k4 (fun i y hy=>by rw [show j+1+i=j+(i+1)from by omega];exact GA (i+1) y (by simpa using hy));have hy:=GA 0 y rfl;refine⟨⟨u,none,top, .deep e z l g (ep+1) (mk j)⟩::recs,by simp [MA,e1,AU.pair],by simpa using(List.Sublist.refl top).append e2,fun r hr=> ?_,by simp [CM,RI.tag,e4],fun c' ha Aw r hr=> ?_⟩
   ·rcases Ag.1 hr with rfl|hr
    ·exact⟨rfl,hU _ _ h3,by simp⟩
    ·exact e3 r hr
   ·rcases Ag.1 hr with rfl|hr
    ·obtain⟨a1,a2⟩:=ha.K u g h3;have kg:=ha.G _ (List.mem_cons_self ..);have ke:=ha.jq _ (List.mem_cons_self ..) rfl;simp only at kg ke;refine⟨a1,fun g' Cm=>h5 g' (ha.old u (hU _ _ h3) g' Cm),by rw [ke,h6], ?_,by rw [kg]⟩;have Bz:(mk j).den c.ρ=y:=by simpa using hy
     rw [a2,h4,kg,ha.w,ha.ρ,Bz];exact k3
    ·exact e5 c' (ha.mono fun r hr=>by simp [hr]) (fun b hb=>Aw b (by simp [hb])) r hr
 | @none t ts fl v vs rs _ _ ih=>
  intro ys f o j hm GA;have go: ∀{y:AV} {ys':List AV} {f' o':List Nat},ys=y::ys'→GY P w' ts fl.tail vs ys' f' o'→(∀b∈f',b∈f)→o'.Sublist o→ ∃recs:List AU,MA mk j (none::rs)=recs.map AU.pair∧(recs.flatMap AU.top).Sublist o∧(∀r∈recs,r.new=none∧c.U r.tag∧ ∀hs f,r.bu≠ .gd hs f)∧recs.map AU.tag=CM (none::rs)∧ ∀c',Fp c c' w' recs→(∀b∈f,c'.ok b)→ ∀r∈recs,Dn c' r.tag r.bu:=by rintro y ys' f' o' rfl Gz hf hs;obtain⟨recs,e1,e2,e3,e4,e5⟩:=ih (j+1) Gz (fun i y hy=>by rw [show j+1+i=j+(i+1)from by omega];exact GA (i+1) y (by simpa using hy));exact⟨recs,by simp [MA,e1],e2.trans hs,e3,by simp [CM]at e4 ⊢;exact e4,fun c' ha Aw=>e5 c' ha fun b hb=>Aw b (hf b hb)⟩
  cases hm with
  |skip _ h8=>exact go rfl h8 (fun _ h=>h) (List.Sublist.refl _)
  |own _ _ _ _ h8=>exact go rfl h8 (fun b hb=>by simp [hb]) (List.sublist_append_right _ _)
  |deep _ _ _ _ _ h8=>exact go rfl h8 (fun _ h=>h) (List.sublist_append_right _ _)
theorem zub (us:List Nat) (hU: ∀u∈us,c.U u): ∃recs:List AU,FD us=recs.map AU.pair∧recs.flatMap AU.top= []∧(∀r∈recs,r.new=none∧c.U r.tag∧ ∀hs f,r.bu≠ .gd hs f)∧recs.map AU.tag=us∧ ∀c',Fp c c' w' recs→ ∀r∈recs,Dn c' r.tag r.bu:=by
 induction us with
 |nil=>exact⟨[],rfl,rfl,by simp,rfl,by simp⟩
 |cons u us ih=>
  obtain⟨recs,e1,e2,e3,e4,e5⟩:=ih fun u hu=>hU u (by simp [hu]);refine⟨⟨u,none, [], .dead⟩::recs,by simp only [FD]at e1;simp [FD,e1,AU.pair],by simp [e2],fun r hr=> ?_,by simp [e4],fun c' ha r hr=> ?_⟩
  ·rcases Ag.1 hr with rfl|hr
   ·exact⟨rfl,hU _ (by simp),by simp⟩
   ·exact e3 r hr
  ·rcases Ag.1 hr with rfl|hr
   ·have kg:=ha.G _ (List.mem_cons_self ..);simp only at kg;exact⟨by rw [kg],by rw [kg]⟩
   ·exact e5 c' (ha.mono fun r hr=>by simp [hr]) r hr
structure Jg (c:Cx) (w':World) (nx m:Nat) (l:List (Nat × Aj)) (hd o f:List Nat) (recs:List AU):Prop where
 ents:l=recs.map AU.pair
 ni:(recs.flatMap AU.top).Sublist o
 new: ∀r∈recs,r.new.isSome=true→nx≤r.tag∧r.tag<nx+m
 old: ∀r∈recs,r.new=none→r.tag∈hd∧c.U r.tag
 all: ∀t∈hd,∃r∈recs,r.tag=t
 nodup:hd.Nodup→(∀t,nx≤t→t<nx+m→ ¬c.U t)→(recs.map AU.tag).Nodup
 ne: ∀r∈recs,∀hs f,r.bu≠ .gd hs f
 ok: ∀c',Fp c c' w' recs→(∀b∈f,c'.ok b)→ ∀r∈recs,Dn c' r.tag r.bu
theorem Jg.app {nx m m':Nat} {l l':List (Nat × Aj)} {hd Lv o o' f f':List Nat} {recs recs':List AU} (h:Jg c w' nx m l hd o f recs) (k:Jg c w' (nx+m) m' l' Lv o' f' recs'):Jg c w' nx (m+m') (l++l') (hd++Lv) (o++o') (f++f') (recs++recs'):=by
 refine⟨by rw [h.ents,k.ents,List.map_append],by rw [List.flatMap_append];exact h.ni.append k.ni,fun r hr hn=> ?_,fun r hr hn=> ?_,fun t ht=> ?_,fun hn hU=> ?_,fun r hr=> ?_,fun c' ha Aw r hr=> ?_⟩
 ·rcases Ai.1 hr with hr|hr
  ·have:=h.new r hr hn;omega
  ·have:=k.new r hr hn;omega
 ·rcases Ai.1 hr with hr|hr
  ·exact⟨by simp [(h.old r hr hn).1],(h.old r hr hn).2⟩
  ·exact⟨by simp [(k.old r hr hn).1],(k.old r hr hn).2⟩
 ·rcases Ai.1 ht with ht|ht
  ·obtain⟨r,hr,e⟩:=h.all t ht;exact⟨r,by simp [hr],e⟩
  ·obtain⟨r,hr,e⟩:=k.all t ht;exact⟨r,by simp [hr],e⟩
 ·rw [List.nodup_append]at hn;rw [List.map_append,List.nodup_append];refine⟨h.nodup hn.1 fun t h1 h2=>hU t h1 (by omega),k.nodup hn.2.1 fun t h1 h2=>hU t (by omega) (by omega),fun t1 Pb t2 LH he=> ?_⟩;obtain⟨q1,Gg,rfl⟩:=List.mem_map.1 Pb;obtain⟨q2,EF,rfl⟩:=List.mem_map.1 LH;cases n1:q1.new with
  |none=>
   obtain⟨a1,a2⟩:=h.old q1 Gg n1;cases n2:q2.new with
   |none=>exact hn.2.2 _ a1 _ (k.old q2 EF n2).1 he
   |some v2=>have:=k.new q2 EF (by simp [n2]);exact hU q2.tag (by omega) (by omega) (he▸a2)
  |some v1=>
   have:=h.new q1 Gg (by simp [n1]);cases n2:q2.new with
   |none=>exact hU q1.tag (by omega) (by omega) (he▸(k.old q2 EF n2).2)
   |some v2=>have:=k.new q2 EF (by simp [n2]);omega
 ·rcases Ai.1 hr with hr|hr
  ·exact h.ne r hr
  ·exact k.ne r hr
 ·rcases Ai.1 hr with hr|hr
  ·exact h.ok c' (ha.mono fun r hr=>by simp [hr]) (fun b hb=>Aw b (by simp [hb])) r hr
  ·exact k.ok c' (ha.mono fun r hr=>by simp [hr]) (fun b hb=>Aw b (by simp [hb])) r hr
theorem Jg.ll {nx:Nat} {l:List (Nat × Aj)} {hd o f:List Nat} {recs:List AU} (e1:l=recs.map AU.pair) (e2:(recs.flatMap AU.top).Sublist o) (e3: ∀r∈recs,r.new=none∧c.U r.tag∧ ∀hs f,r.bu≠ .gd hs f) (e4:recs.map AU.tag=hd) (e5: ∀c',Fp c c' w' recs→(∀b∈f,c'.ok b)→ ∀r∈recs,Dn c' r.tag r.bu):Jg c w' nx 0 l hd o f recs:=by
 refine⟨e1,e2,fun r hr hn=> ?_,fun r hr _=>⟨?_,(e3 r hr).2.1⟩,fun t ht=> ?_,fun hn _=>by rw [e4];exact hn,fun r hr=>(e3 r hr).2.2,fun c' ha Aw=>e5 c' ha Aw⟩
 ·rw [(e3 r hr).1]at hn;cases hn
 ·rw [←e4];exact List.mem_map.2 ⟨r,hr,rfl⟩
 ·rw [←e4]at ht;obtain⟨r,hr,e⟩:=List.mem_map.1 ht;exact⟨r,hr,e⟩
theorem zAb {ts:List TypeId} {ms:List PM} {vs:List Value} {bs:List PA} (h:Jn P c ts ms vs bs) (hU: ∀t g,c.K t g→c.U t) {r:Nat}: ∀{Bs:List AV} {f o:List Nat} (nx j:Nat),D5 P w' ts ms vs Bs f o→(∀k y,Bs[k]?=some y→(E.proj (.var r) (j+k+1)).den c.ρ=y)→
  Bs.length=IZ bs∧ ∃recs,Jg c w' nx (La P bs) (after P r nx bs j) (DN bs) o f recs:=by
 have nilS: ∀nx,Jg c w' nx 0 [] [] [] [] []:=fun nx=>⟨rfl,by simp,by simp,by simp,by simp,by simp,by simp,by simp⟩
 induction h with
 |nil=>intro Bs f o nx j hb _;cases hb;exact⟨rfl, [],by simpa [after,DN,La]using nilS nx⟩
 | @ro ts ms v vs bs hm Cu ih=>
  intro Bs f o nx j hb hB;cases hb with
  |nil=>exact ih nx j .nil hB
  |ro _ h8=>exact ih nx j h8 hB
  |va h9 _=>rw [hm]at h9;cases h9
  |mu h9 _ _ _=>rw [hm]at h9;cases h9
  |bx h9 _ _ _ _ _ _ _=>rw [hm]at h9;cases h9
 | @va ts ms own v vs bs us hm LJ Cu ih=>
  intro Bs f o nx j hb hB;obtain⟨recs1,e1,e2,e3,e4,e5⟩:=zub (c:=c) (w':=w') us LJ;have s1:Jg c w' nx 0 (FD us) us [] [] recs1:= .ll e1 (by rw [e2];exact List.Sublist.refl _) e3 e4 fun c' ha _=>e5 c' ha;cases hb with
  |nil=>obtain⟨h1,recs2,s2⟩:=ih nx j .nil hB;exact⟨by simpa [IZ]using h1,recs1++recs2,by simpa [after,DN,La]using s1.app s2⟩
  |ro h9 _=>rw [hm]at h9;cases h9
  |va _ h8=>obtain⟨h1,recs2,s2⟩:=ih nx j h8 hB;exact⟨by simpa [IZ]using h1,recs1++recs2,by simpa [after,DN,La]using s1.app s2⟩
  |mu h9 _ _ _=>rw [hm]at h9;cases h9
  |bx h9 _ _ _ _ _ _ _=>rw [hm]at h9;cases h9
 | @mu t ts ms own v vs bs us rs hm LJ DK Cu ih=>
  intro Bs f o nx j hb hB;cases hb with
  |ro h9 _=>rw [hm]at h9;cases h9
  |va h9 _=>rw [hm]at h9;cases h9
  |bx h9 _ _ _ _ _ _ _=>rw [hm]at h9;cases h9
  | @mu _ _ _ own2 _ _ us2 ys y Bs f1 f o1 o h9 hg Ue h8=>
   rw [hm]at h9;cases h9;obtain⟨h1,recs2,s2⟩:=ih nx (j+1) h8 (fun k y hy=>by rw [show j+1+k+1=j+(k+1)+1 from by omega];exact hB (k+1) y (by simpa using hy));have hy:=hB 0 y rfl;have Pd:us2=us:=by
    split at LJ
    ·rename_i AD;rw [if_pos AD]at hg;obtain⟨rfl,_⟩:=hg;exact zrX LJ
    ·rename_i AD;rw [if_neg AD]at hg;rw [hg.1,LJ]
   subst Pd;obtain⟨recs1,e1,e2,e3,e4,e5⟩:=zxU (w':=w') (mk:=DO (.proj (.var r) (j+1)) (Ao P t)) DK hU 0 Ue (by
    intro i z hz;split at hg
    ·rename_i AD;rw [AD];exact Wb (by rw [←hg.2];exact hy) i z hz
    ·rename_i AD;have Hk:Ao P t=false:=by simpa using AD
     rw [hg.2]at hz;cases i with
     |zero=>simp at hz;subst hz;rw [Hk];simpa [DO]using hy
     |succ i=>simp at hz)
   have s1:Jg c w' nx 0 _ (CM rs) o1 f1 recs1:= .ll e1 e2 e3 e4 e5;exact⟨by simp [IZ,h1],recs1++recs2,by simpa [after,DN,La]using s1.app s2⟩
 | @bx t ts ms own own' ty v vs bs T b g olds hm Ew hv hK hH hol Cu ih=>
  intro Bs f o nx j hb hB;cases hb with
  |ro h9 _=>rw [hm]at h9;cases h9
  |va h9 _=>rw [hm]at h9;cases h9
  |mu h9 _ _ _=>rw [hm]at h9;cases h9
  | @bx _ _ _ own2 own3 ty2 b2 C _ _ ys y Bs f1 o1 f o h9 J4 DB hh C6 Ia hc h8=>
   rw [hm]at h9;cases h9;rw [Ew]at J4;cases J4;have Xd:b2=b:=by rw [hv]at DB;cases DB;rfl
   subst Xd;obtain⟨h1,recs2,s2⟩:=ih (nx+(A9 P ty).length) (j+1) h8 (fun k y hy=>by rw [show j+1+k+1=j+(k+1)+1 from by omega];exact hB (k+1) y (by simpa using hy));have hy:=hB 0 y rfl;obtain⟨recs0,d1,d2,d3,d4,d5⟩:=zub (c:=c) (w':=w') olds hol;have s0:Jg c w' nx 0 (FD olds) olds [] [] recs0:= .ll d1 (by rw [d2];exact List.Sublist.refl _) d3 d4 fun c' ha _=>d5 c' ha;obtain⟨recs1,e1,e2,e3,e4,_,e5⟩:=RV (c:=c) (nx:=nx) (mk:=DO (.proj (.var r) (j+1)) true) hc 0 (Wb (by rw [←Ia];exact hy));have tG:=hU _ _ hK;have s1:Jg c w' nx (A9 P ty).length ((T, .box ty g (CW P nx (DO (.proj (.var r) (j+1)) true) 0 (A9 P ty) own').1)::(CW P nx (DO (.proj (.var r) (j+1)) true) 0 (A9 P ty) own').2) [T] (b2::o1) f1 (⟨T,none, [b2], .box ty g (CW P nx (DO (.proj (.var r) (j+1)) true) 0 (A9 P ty) own').1⟩::recs1):=by
    refine⟨by simp [e1,AU.pair], ?_,fun q hq hn=> ?_,fun q hq hn=> ?_,by simp,fun _ A1=> ?_,fun q hq=> ?_,fun c' ha Aw q hq=> ?_⟩
    ·simp only [List.flatMap_cons,e2,List.singleton_append];exact List.Sublist.refl _
    ·rcases Ag.1 hq with rfl|hq
     ·cases hn
     ·have:=e3 q hq;omega
    ·rcases Ag.1 hq with rfl|hq
     ·exact⟨by simp,tG⟩
     ·have:=(e3 q hq).2.2;rw [hn]at this;cases this
    ·simp only [List.map_cons,List.nodup_cons];refine⟨fun hm=> ?_,e4⟩;obtain⟨q,hq,hqt⟩:=List.mem_map.1 hm;have:=e3 q hq;exact A1 q.tag (by omega) (by omega) (hqt▸tG)
    ·rcases Ag.1 hq with rfl|hq
     ·simp
     ·intro hs f he;obtain⟨q1,q2⟩:=e3 q hq;have:(q.tag,q.bu)∈(CW P nx (DO (.proj (.var r) (j+1)) true) 0 (A9 P ty) own').2:=by
       rw [e1];exact List.mem_map.2 ⟨q,hq,rfl⟩
      exact PW _ _ _ _ _ this he
    ·obtain⟨p1,p2⟩:=e5 c' (ha.mono fun r hr=>by simp [hr]) Aw;rcases Ag.1 hq with rfl|hq
     ·obtain⟨a1,a2⟩:=ha.K T 0 hK;have kg:=ha.G _ (List.mem_cons_self ..);simp only at kg;exact⟨b2,C,a1,by rw [a2,hH,hv],by rw [kg],by rw [kg],by rw [ha.w];exact hh,C6,p1⟩
     ·exact p2 q hq
   refine⟨by simp [IZ,h1],recs0++((⟨T,none, [b2], .box ty g (CW P nx (DO (.proj (.var r) (j+1)) true) 0 (A9 P ty) own').1⟩::recs1)++recs2), ?_⟩;have s3:=s0.app (s1.app s2);rw [Nat.zero_add]at s3;refine⟨by simpa [after]using s3.ents,s3.ni,s3.new,fun q hq hn=> ?_,fun t ht=> ?_,fun hn A1=> ?_,s3.ne,s3.ok⟩
   ·have:=s3.old q hq hn;simp only [DN,List.cons_append,Ag,Ai,List.not_mem_nil,or_false,List.nil_append]at this ⊢;exact⟨by rcases this.1 with h|h|h;exact .inr (.inl h);exact .inl h;exact .inr (.inr h),this.2⟩
   ·refine s3.all t ?_;simp only [DN,List.cons_append,Ag,Ai,List.nil_append]at ht ⊢;rcases ht with h|h|h
    ·exact .inr (.inl h)
    ·exact .inl h
    ·exact .inr (.inr h)
   ·refine s3.nodup ?_ A1;simp only [DN,List.cons_append,List.nodup_cons,List.nodup_append,Ai,not_or,List.nil_append]at hn ⊢;obtain⟨⟨n1,n2⟩,n3,n4,n5⟩:=hn;refine⟨n3,⟨n2,n4⟩,fun a ha b hb=> ?_⟩;rcases Ag.1 hb with rfl|hb
    ·rintro rfl;exact n1 ha
    ·exact n5 a ha b hb
end
def Qn (P:Program):List TypeId→List Bool→List AV→Bool
 |t::ts,fl,y::ys=>((fl.headD false&&(CT P t).isSome)||C4 P t||y.scalar)&&Qn P ts fl.tail ys
 |_,_,_=>true
def XM (P:Program) (t:TypeId) (fl:List Bool) (x:AV):Bool:=if Hd P t fl then Qn P (A9 P t) fl (if Ao P t then x.cells else [x])else C4 P t||x.cells.all AV.scalar
def bG (P:Program):List TypeId→List Bool→List AV→Bool
 |t::ts,fl,x::xs=>XM P t fl x&&bG P ts (fl.drop (A9 P t).length) xs
 |_,_,_=>true
def XN (P:Program) (ts:List TypeId) (fl:List Bool) (R:AV):Bool:=match ts with
 | [t]=>XM P t fl R
 |ts=>match R with
  | .tup ys=>bG P ts fl ys
  |_=>true
def IY (P:Program):List TypeId→List PM→List AV→Bool
 |t::ts,ms,bs=>(match ms.headD .ro with
  | .ro=>IY P ts ms.tail bs
  | .va _=>IY P ts ms.tail bs
  | .mu _=>IY P ts ms.tail bs.tail
  | .bx _ own'=>(match KP P t,bs with
   |some ty,b::_=>Qn P (A9 P ty) own' b.cells
   |_,_=>true)&&IY P ts ms.tail bs.tail)
 | [],_,_=>true
def BM:List TypeId→List PM→Bool
 |_::ts,ms=>(match ms.headD .ro with
  | .mu _=>true
  | .bx .. =>true
  |_=>false)||BM ts ms.tail
 | [],_=>false
def N5 (P:Program) (fn:Func) (s:HV) (r:AV):Bool:=
 if BM (fn.params.toList++s.ft) s.cx then(match r with
  | .tup (R::bs)=>XN P fn.resultTypes.toList s.res R&&IY P (fn.params.toList++s.ft) s.cx bs
  |_=>false)
 else XN P fn.resultTypes.toList s.res r
def KQ (P:Program) (w:World) (ts:List TypeId) (fl:List Bool) (v:Value) (R:AV) (f o:List Nat):Prop:=match ts with
 | [t]=>E6 P w t fl v R f o
 |ts=> ∃vs ys,v= .tuple vs.toArray∧R= .tup ys∧Jv P w ts fl vs ys f o
structure yD (P:Program) (fn:Func) (s:HV) (w:World) (vs:List Value) (rf hs:List Nat) (r:AV) (v:Value) (w':World):Prop where
 ex: ∃R bs f1 o1 f2 o2,r=(match bs with| []=>R|_=> .tup (R::bs))∧KQ P w' fn.resultTypes.toList s.res v R f1 o1∧D5 P w' (fn.params.toList++s.ft) s.cx vs bs f2 o2∧(o1++o2).Nodup∧
  (∀b∈o1++o2,(b∈hs∨w.heap.size≤b)∧b<w'.heap.size)∧ ∀b∈f1++f2,b∉o1++o2∧(b∈rf∨b∈hs∨w.heap.size≤b)
 mod:Mod hs w w'
theorem Rel.oi {c:Cx} {n:Nat} {sl:Nat→SV} {hp:Nat→Option Aj} {a:Act} (h:Rel c n sl hp a) {hs:List Nat} (hh: ∀b∈hs,∃t,b∈(c.G t).top):iS c.w (fun b=>b∈hs):=by
 obtain⟨p1,p2,p3⟩:=h.base.pk;refine⟨Nat.le_trans p1 h.base.size,F6.mono (fun b hb=>h.base.block b (by omega) fun hm=>by have:=p3 b hm;omega) p2,fun b hb=> ?_⟩;obtain⟨t,ht⟩:=hh b hb;rcases h.gw.allow t b (by simp [GI.own,ht])with k|k
 ·have:c.w0.heap.size≤b:=k;omega
 ·exact p3 b k
def Tw (P:Program) (s:HV) (f:Nat) (xs:List AV) (r:AV):Prop:=
 ∃fn,P.funcs[f]?=some fn∧fn.body.isSome=true∧(fn.name== "runtime.NumGoroutine")=false∧N5 P fn s r=true∧xs.length=fn.params.size+fn.nfree∧s.ft.length≤fn.nfree∧
  ∀(w:World) (vs:List Value) (rf lf hs:List Nat),DP P w (fn.params.toList++s.ft) s.cx s.lo vs xs rf lf hs→(∀b∈hs,b∉rf)→(∀b∈hs,b∉lf)→hs.Nodup→iS w (fun b=>b∈hs)→
   Calls P f vs.toArray w fun e w'=> ∃v,e= .returned v∧yD P fn s w vs rf hs r v w'
def Cw (P:Program) (sg:B0) (f:Nat) (xs:List AV) (r:AV):Prop:=
 if f<1000000 then∃s,sg f=some s∧Tw P s f xs r else Tw P {cx:= [],res:= []} (f-1000000) xs r
section
variable {P:Program} {w:World}
theorem zpf {v:Value} {x:AV} {f:List Nat} (h:Rd w [v] [x] f) (hx: ∀y∈x.cells,y.scalar=true):f= []:=by
 by_cases AD: ∃cs,x= .agg cs
 ·obtain⟨cs,rfl⟩:=AD;obtain⟨as_,_,_,hr⟩:=Kw h rfl;exact Ij hr hx
 ·have:x.cells= [x]:=by cases x<;>first|rfl|exact absurd ⟨_,rfl⟩ AD
  rw [this]at hx;exact Ij h hx
theorem zAD {t el:TypeId} (h:CT P t=some el):C4 P t=true:=by have hu:=KX h;simp [C4,Cg,A9,aV,hu]
theorem CA.flat {ts:List TypeId} {fl:List Bool} {us:List Value} {ys:List AV} {rf hs:List Nat} (h:CA P w ts fl us ys rf hs) (h1:E0 P ts fl=false) (h2:Qn P ts fl ys=true):rf= []:=by
 induction h with
 |nil=>rfl
 |own k1 k2 k23 _ _ ih=>
  simp only [E0,Bool.or_eq_false_iff]at h1;simp only [Qn,Ae]at h2;have hN:=k23;have hw:=h1.1;rw [zAD k2,k1]at hw;rcases hN with⟨_,rfl⟩|⟨q1,q2⟩
  ·rw [ih h1.2 h2.2];rfl
  ·simp [bC,k2,q1,q2]at hw
 |deep _ _ _ _ _ _ ih=>simp only [E0,Bool.or_eq_false_iff]at h1;simp only [Qn,Ae]at h2;exact ih h1.2 h2.2
 | @rd t ts fl u us y ys f rf hs hn hr _ ih=>
  simp only [E0,Bool.or_eq_false_iff]at h1;simp only [Qn,Ae]at h2;have Dt:(fl.headD false&&(CT P t).isSome)=false:=by
   cases hh:fl.headD false with
   |false=>rfl
   |true=>rw [hn hh];rfl
  have eP:(fl.headD false&&bC P t)=false:=by
   cases hh:fl.headD false with
   |false=>rfl
   |true=>simp [bC,hn hh]
  rw [eP]at h1;rw [Dt]at h2;have G6:C4 P t=false:=by simpa using h1.1
  rw [G6]at h2;have hs:y.scalar=true:=by simpa using h2.1
  rw [Ij hr (by simpa using hs),ih h1.2 h2.2];rfl
theorem E6.flat {t:TypeId} {fl:List Bool} {v:Value} {x:AV} {rf hs:List Nat} (h:E6 P w t fl v x rf hs) (h1:gX P t fl=false) (h2:XM P t fl x=true):rf= []:=by
 unfold E6 at h;unfold gX at h1;unfold XM at h2;split at h
 ·rename_i hf;rw [if_pos hf]at h1 h2;obtain⟨us,ys,hg,hc⟩:=h;split at hg
  ·rename_i AD;obtain⟨_,rfl,_⟩:=hg;rw [if_pos AD]at h2;exact hc.flat h1 h2
  ·rename_i AD;obtain⟨_,rfl⟩:=hg;rw [if_neg AD]at h2;exact hc.flat h1 h2
 ·rename_i hf;rw [if_neg hf]at h1 h2;rw [h1]at h2;exact zpf h.1 (by simpa using h2)
theorem Jv.flat {ts:List TypeId} {fl:List Bool} {vs:List Value} {xs:List AV} {rf hs:List Nat} (h:Jv P w ts fl vs xs rf hs) (h1:DD P ts fl=false) (h2:bG P ts fl xs=true):rf= []:=by
 induction h with
 |nil=>rfl
 |cons hv _ ih=>simp only [DD,Bool.or_eq_false_iff]at h1;simp only [bG,Ae]at h2;rw [hv.flat h1.1 h2.1,ih h1.2 h2.2];rfl
theorem KQ.flat {ts:List TypeId} {fl:List Bool} {v:Value} {R:AV} {f o:List Nat} (h:KQ P w ts fl v R f o) (h1:DD P ts fl=false) (h2:XN P ts fl R=true):f= []:=by
 match ts,h,h1,h2 with
 | [t],h,h1,h2=>simp only [DD,Bool.or_false]at h1;exact E6.flat h h1 h2
 | [],h,h1,h2=>obtain⟨vs,ys,_,rfl,hv⟩:=h;exact hv.flat h1 h2
 |t::u::ts,h,h1,h2=>obtain⟨vs,ys,_,rfl,hv⟩:=h;exact hv.flat h1 h2
theorem Dd.void {ety sz:Nat} {a:Option Addr} {x:AV} {top N:List Nat} (h:Dd w ety sz (.slice a 0 0) x top N):N= []:=by
 obtain⟨xs,_,_,_,⟨_,_,_,h⟩|⟨g,cap,C,hv,h6,_,_,_,_,_,hr⟩⟩:=h
 ·exact h
 ·have h0:xs.length=0:=by injection hv with _ h _;exact h.symm
  have:xs= []:=by cases xs with|nil=>rfl|cons _ _=>simp at h0
  subst this;simp [AL]at hr;cases hr;rfl
theorem GY.flat {c:Cx} {ts:List TypeId} {fl:List Bool} {us:List Value} {rs:List (Option RI)} (h:He P c ts fl us rs): ∀{ys:List AV} {f o:List Nat},GY P w ts fl us ys f o→rs.any RI.lent=false→f= []:=by
 induction h with
 |nil=>intro ys f o hm _;cases hm;rfl
 |row k1 k2 k23 _ _ _ _ ih=>
  intro ys f o hm hl;simp only [List.any_cons,Bool.or_eq_false_iff,RI.lent]at hl;cases hm with
  |own _ q2 q23 _ q4=>
   rw [k2]at q2;cases q2;rcases q23 with⟨_,rfl⟩|⟨q,_⟩
   ·exact ih q4 hl.2
   ·rw [q]at hl;simp at hl
  |deep _ _ _ _ _ q=>exact ih q hl.2
  |skip _ q=>exact ih q hl.2
 |deep k1 k2 k21 k22 _ _ _ _ _ ih=>
  intro ys f o hm hl;simp only [List.any_cons,Bool.or_eq_false_iff]at hl;cases hm with
  |own _ q2 q23 _ q4=>
   rw [k2]at q2;cases q2;rcases q23 with⟨_,rfl⟩|⟨_,q⟩
   ·exact ih q4 hl.2
   ·rw [q]at k22;cases k22
  |deep _ _ _ _ _ q=>exact ih q hl.2
  |skip _ q=>exact ih q hl.2
 |none hv _ ih=>
  intro ys f o hm hl;simp only [List.any_cons,Bool.or_eq_false_iff]at hl;cases hm with
  |own q1 q2 _ q3 q4=>
   rcases hv q1 with hh|⟨a,rfl⟩
   ·rw [hh]at q2;cases q2
   ·rw [Dd.void q3];exact ih q4 hl.2
  |deep _ _ _ _ _ q=>exact ih q hl.2
  |skip _ q=>exact ih q hl.2
theorem D5.flat {c:Cx} {ts:List TypeId} {ms:List PM} {vs:List Value} {bs:List PA} (h:Jn P c ts ms vs bs): ∀{Bs:List AV} {f o:List Nat},D5 P w ts ms vs Bs f o→Ei P bs=false→IY P ts ms Bs=true→f= []:=by
 induction h with
 |nil=>intro Bs f o hb _ _;cases hb;rfl
 | @ro ts ms v vs bs hm _ ih=>
  intro Bs f o hb h1 h2;cases hb with
  |nil=>rfl
  |ro _ h8=>simp only [IY,hm]at h2;exact ih h8 h1 h2
  |va h9 _=>rw [hm]at h9;cases h9
  |mu h9 _ _ _=>rw [hm]at h9;cases h9
  |bx h9 _ _ _ _ _ _ _=>rw [hm]at h9;cases h9
 | @va ts ms own v vs bs us hm _ _ ih=>
  intro Bs f o hb h1 h2;cases hb with
  |nil=>rfl
  |ro h9 _=>rw [hm]at h9;cases h9
  |va _ h8=>simp only [IY,hm]at h2;exact ih h8 h1 h2
  |mu h9 _ _ _=>rw [hm]at h9;cases h9
  |bx h9 _ _ _ _ _ _ _=>rw [hm]at h9;cases h9
 | @mu t ts ms own v vs bs us rs hm LJ DK _ ih=>
  intro Bs f o hb h1 h2;cases hb with
  |ro h9 _=>rw [hm]at h9;cases h9
  |va h9 _=>rw [hm]at h9;cases h9
  | @mu _ _ _ own2 _ _ us2 ys y Bs f1 f o1 o h9 hg Ue h8=>
   rw [hm]at h9;cases h9;simp only [IY,hm]at h2;simp only [Ei,Bool.or_eq_false_iff]at h1;have Pd:us2=us:=by
    split at LJ
    ·rename_i AD;rw [if_pos AD]at hg;obtain⟨rfl,_⟩:=hg;exact zrX LJ
    ·rename_i AD;rw [if_neg AD]at hg;rw [hg.1,LJ]
   subst Pd;rw [GY.flat DK Ue h1.1,ih h8 h1.2 h2];rfl
  |bx h9 _ _ _ _ _ _ _=>rw [hm]at h9;cases h9
 | @bx t ts ms own own' ty v vs bs T b g olds hm Ew _ _ _ _ _ ih=>
  intro Bs f o hb h1 h2;cases hb with
  |ro h9 _=>rw [hm]at h9;cases h9
  |va h9 _=>rw [hm]at h9;cases h9
  |mu h9 _ _ _=>rw [hm]at h9;cases h9
  |bx h9 J4 _ _ _ hy hc h8=>rw [hm]at h9;cases h9;rw [Ew]at J4;cases J4;simp only [IY,hm,Ew,Ae,hy,List.tail_cons]at h2;simp only [Ei,Bool.or_eq_false_iff]at h1;rw [hc.flat h1.1 h2.1,ih h8 h1.2 h2.2];rfl
theorem nW {ts:List TypeId} {ms:List PM} {vs:List Value} {Bs:List AV} {f o:List Nat} (h:D5 P w ts ms vs Bs f o):Bs= []↔BM ts ms=false:=by
 induction h with
 |nil=>simp [BM]
 |ro hm _ ih=>simp only [BM,hm,Bool.false_or];exact ih
 |va hm _ ih=>simp only [BM,hm,Bool.false_or];exact ih
 |mu hm _ _ _ _=>simp only [BM,hm,Bool.true_or];simp
 |bx hm _ _ _ _ _ _ _ _=>simp only [BM,hm,Bool.true_or];simp
end
section
variable {P:Program} {c:Cx} {n nx:Nat} {sl sl0:Nat→SV} {hp hp0:Nat→Option Aj} {a:Act} {o:Oper} {gs:Gd} {e:A7} {sg:B0} {nv:Nat}
theorem zwY {xs:List Operand}: ∀{ss:List SV},(∀x∈xs,∀s,BV sl0 gs x=some s→SR c [s] [a.eval x])→xs.mapM (BV sl0 gs)=some ss→SR c ss (xs.map a.eval):=by
 induction xs with
 |nil=>intro ss _ h;simp at h;subst h;exact .nil
 |cons x xs ih=>intro ss hx h;rw [List.mapM_cons]at h;simp only [Option.bind_eq_bind,Av,Option.pure_def,Ah]at h;obtain⟨s,hs,ss',F3,rfl⟩:=h;exact(hx x (by simp) s hs).cons (ih (fun y hy=>hx y (by simp [hy])) F3)
theorem SD: ∀{l:List Nat},MB l=true→l.Nodup
 | [],_=>by simp
 |x::l,h=>by simp only [MB,Ae,Bool.not_eq_true',List.contains_eq_mem,decide_eq_false_iff_not]at h;exact List.nodup_cons.2 ⟨h.1,SD h.2⟩
theorem zAw {c1:Cx} {w':World} {recs:List AU} {hs f o:List Nat} (gw:GW c) (hg: ∀t,(c1.G t).top=(c.G t).top∨(c1.G t).top= []) (hA:c1.A=c.A) (bV:c1.Mu=c.Mu) (KL:c1.w0=c.w0) (hB:c.w0.heap.size≤c.w.heap.size)
  (hn:(recs.map AU.tag).Nodup) (CG: ∀r∈recs,∀b∈r.top,b∈o) (Hs: ∀b∈hs,∃r∈recs,b∈(c.G r.tag).top) {rf:List Nat} (M7: ∀b∈rf,c1.ok b) (hf: ∀b∈f,b∉o∧(b∈rf∨b∈hs∨c.w.heap.size≤b)): ∀b∈f,(c1.dz w' recs).ok b:=by
 intro b hb;obtain⟨h1,h2⟩:=hf b hb;have hM:(c1.dz w' recs).M b→ ∃t,(∀r∈recs,r.tag≠t)∧b∈(c1.G t).top:=by
  rintro⟨t,ht⟩;by_cases hT: ∃r∈recs,r.tag=t
  ·obtain⟨r,hr,rfl⟩:=hT;rw [Cx.eo hn hr]at ht;exact absurd (CG r hr b ht) h1
  ·rw [Cx.dk fun r hr hh=>hT ⟨r,hr,hh⟩]at ht;exact⟨t,fun r hr hh=>hT ⟨r,hr,hh⟩,ht⟩
 have sub: ∀t,b∈(c1.G t).top→b∈(c.G t).top:=fun t ht=>by
  rcases hg t with hh|hh
  ·rw [←hh];exact ht
  ·rw [hh]at ht;simp at ht
 rcases h2 with h2|h2|h2
 ·refine⟨fun hm=> ?_,(M7 b h2).2⟩;obtain⟨t,_,ht⟩:=hM hm;exact(M7 b h2).1 ⟨t,ht⟩
 ·obtain⟨r,hr,Xg⟩:=Hs b h2;refine⟨fun hm=> ?_, .inr ?_⟩
  ·obtain⟨t,Fv,ht⟩:=hM hm;exact gw.cz r.tag t (Fv r hr) b (by simp [GI.own,Xg]) (by simp [GI.own,sub t ht])
  ·have:=gw.allow r.tag b (by simp [GI.own,Xg]);simp only [Cx.dz,Cx.B,KL,bV]at this ⊢;exact this
 ·refine⟨fun hm=> ?_, .inr (.inl ?_)⟩
  ·obtain⟨t,_,ht⟩:=hM hm;have:=gw.inb t b (by simp [GI.own,sub t ht]);omega
  ·simp only [Cx.dz,Cx.B,KL];omega
theorem zBW (h:Bt P c n nx sl hp a sl0 hp0 o gs) {cl:Call} {fo:Operand} (ho:o.op= .call cl) (AF:cl.callee= .value fo) {g:Nat} {caps:BD} (hf:BV sl0 gs fo=some (.fn g caps)) {as_:List SV} (has:cl.args.toList.mapM (BV sl0 gs)=some as_)
  (hg:g<1000000) (he:WE P sg hp0 gs nv nx g (as_++caps.toList)=some e) (Be: ∀c',e.call=some c'→ ∃r,c.ρ[nv]?=some r∧IT (Cw P sg) c'.fn ((EL.of c'.args).den c.ρ) c.ρ r):AB P o c n nx sl hp gs a e:=by
 have eH:fo∈o.op.operands:=by simp [ho,Op.operands,Call.operands,AF]
 have eF: ∀x∈cl.args.toList,x∈o.op.operands:=fun x hx=>by
  have:x∈cl.args:=by simpa using hx
  simp [ho,Op.operands,Call.operands,AF,this]
 have M7:=h.db hf eH;generalize dF:a.eval fo=fv at M7;cases M7 with
 |fn TT h8=>
 rename_i capv;have Ay:=(zwY (a:=a) (fun x hx s hs=>h.db hs (eF x hx)) has).app TT;unfold WE at he;split at he
 ·rename_i fn s Hp J6;split at he
  ·cases he
  rename_i hlen;simp only [Bool.or_eq_true,not_or,Bool.not_eq_true,bne_eq_false_iff_eq]at hlen;split at he
  ·cases he
  rename_i es bs us uz Ba;split at he
  ·cases he
  rename_i Co;simp only [Bool.or_eq_true,Bool.not_eq_true',not_or,Bool.not_eq_false,Bool.not_eq_true]at Co;obtain⟨⟨eN,Ui⟩,Uj⟩:=Co;have Uk:=SD eN;have Hl: ∀u∈us,u∉DN bs:=fun u hu hh=>by rw [List.any_eq_false]at Ui;have:=Ui u hu;simp only [List.contains_eq_mem,decide_eq_true_eq]at this;exact this hh
  have Lq: ∀u∈uz,u∉DN bs:=fun u hu hh=>by rw [List.any_eq_false]at Uj;have:=Uj u hu;simp only [List.contains_eq_mem,decide_eq_true_eq]at this;exact this hh
  simp only at he;split at he
  ·cases he
  rename_i Cf;simp only [Nat.not_le]at Cf;split at he
  ·cases he
  rename_i J0;split at he
  ·cases he
  rename_i fz Hq;have hK: ∀t g,c.K t g→c.U t:=h.rel.cj;obtain⟨rf,lf,hs,q1,q2,qz,q3,q4,q5,q6⟩:=zws (P:=P) h.rel.base h.eh h.gs hK (as_++caps.toList) Ba Ay (by rw [hlen.1.2,Ap,Array.length_toList];have:=hlen.2;simp only [decide_eq_false_iff_not,Nat.not_lt]at this;omega);obtain⟨fts,H2,T3⟩: ∃fts,DS hp0 gs fts=some fz∧ ∀t∈fts,t∈us:=by
   split at Hq
   ·exact⟨us,Hq,fun t ht=>ht⟩
   ·simp only [Ah]at Hq;subst Hq;exact⟨[],rfl,by simp⟩
  have Du:=h.rel.freeze h.hp h.gs H2;have MR: ∀t∈fz.map (·.1),t∈us:=fun t ht=>by obtain⟨⟨t',e'⟩,hm,rfl⟩:=List.mem_map.1 ht;exact T3 _ ((PR h.gs H2).1 t' e' hm).1
  have TF: ∀t,((c.cf (fz.map (·.1))).G t).top=(c.G t).top∨((c.cf (fz.map (·.1))).G t).top= []:=fun t=>by
   simp only [Cx.cf];split
   ·exact .inr rfl
   ·exact .inl rfl
  have hGh: ∀t∈DN bs,(c.cf (fz.map (·.1))).G t=c.G t:=fun t ht=>by simp only [Cx.cf];rw [if_neg];intro hh;exact Hl t (MR t hh) ht
  have sW: ∀t∈DN bs,(c.cf (fz.map (·.1))).E t=c.E t:=fun t ht=>by simp only [Cx.cf];rw [if_neg];intro hh;exact Hl t (MR t hh) ht
  have fF:hs.Nodup:=by
   rw [q3];have: ∀l:List Nat,l.Nodup→(l.flatMap fun t=>(c.G t).top).Nodup:=by
    intro l
    induction l with
    |nil=>intro _;simp
    |cons t l ih=>intro hl;rw [List.nodup_cons]at hl;rw [List.flatMap_cons,List.nodup_append];refine⟨(List.nodup_append.1 (h.rel.gw.nodup t)).1,ih hl.2,fun x hx y hy HB=> ?_⟩;subst HB;obtain⟨u,hu,fW⟩:=List.mem_flatMap.1 hy;exact h.rel.gw.cz t u (fun hh=>hl.1 (hh▸hu)) x (by simp [GI.own,hx]) (by simp [GI.own,fW])
   exact this _ Uk
  have JV: ∀b∈hs,∃t∈DN bs,b∈(c.G t).top:=fun b hb=>by rw [q3]at hb;exact List.mem_flatMap.1 hb
  have Gw: ∀b∈hs,b∉rf:=fun b hb hr=>by
   obtain⟨t,ht,CK⟩:=JV b hb;rcases q2 b hr with hh|⟨u,hu,Iy⟩
   ·exact hh.1 ⟨t,CK⟩
   ·exact h.rel.gw.cz t u (fun hh=>Hl u hu (hh▸ht)) b (by simp [GI.own,CK]) (by simp [GI.own,Iy])
  have JP: ∀b∈hs,b∉lf:=fun b hb hr=>by
   obtain⟨t,ht,CK⟩:=JV b hb;rcases qz b hr with(hh|⟨u,hu,Iy⟩)|⟨h1,h2⟩
   ·exact hh.1 ⟨t,CK⟩
   ·exact h.rel.gw.cz t u (fun hh=>Lq u hu (hh▸ht)) b (by simp [GI.own,CK]) (by simp [GI.own,Iy])
   ·rcases h.rel.gw.allow t b (by simp [GI.own,CK])with k|k
    ·have:c.w0.heap.size≤b:=k;omega
    ·exact h2 k
  have FG: ∃(val:SV) (l:List (Nat × Aj)),e={call:=some ⟨.inl g,es⟩,val:=val,bu:=fz++(UH gs l++after P nv (nx+(fn.resultTypes.toList.flatMap (A9 P)).length) bs 0)}∧
    ∀(R:AV) (w':World) (v:Value) (f1 o1:List Nat),KQ P w' fn.resultTypes.toList s.res v R f1 o1→(if IZ bs=0 then E.var nv else .proj (.var nv) 0).den c.ρ=R→ ∃recs:List AU,l=recs.map AU.pair∧recs.flatMap AU.top=o1∧(∀r∈recs,nx≤r.tag∧r.tag<nx+(fn.resultTypes.toList.flatMap (A9 P)).length∧r.new.isSome)∧(recs.map AU.tag).Nodup∧
     (∀r∈recs,∀hs f,r.bu≠ .gd hs f)∧ ∀c',Fp c c' w' recs→(∀b∈f1,c'.ok b)→SR c' [val] [v]∧ ∀r∈recs,Dn c' r.tag r.bu:=by
   have A5: ∀{l:List (Nat × Aj)} {recs:List AU},l=recs.map AU.pair→(∀t x,(t,x)∈l→ ∀hs f,x≠ .gd hs f)→ ∀r∈recs,∀hs f,r.bu≠ .gd hs f:=by rintro l recs rfl hh r hr;exact hh r.tag r.bu (List.mem_map.2 ⟨r,hr,rfl⟩)
   have fvne: ∀(t:TypeId) (k:Nat) (fl:List Bool) (x:E) (u:Nat) (y:Aj),(u,y)∈(P8 P k t fl x).2→ ∀hs f,y≠ .gd hs f:=by
    intro t k fl x u y hy hs f;unfold P8 at hy;split at hy
    ·exact PW _ _ _ _ _ hy
    ·simp at hy
   split at he
   ·rename_i t Uz;simp only [Ah]at he;subst he;refine⟨_,_,rfl,fun R w' v f1 o1 hr hR=> ?_⟩;rw [Uz]at hr;obtain⟨recs,e1,e2,e3,e4,e5⟩:=zpb (c:=c) (nx:=nx) (x:=if IZ bs=0 then E.var nv else .proj (.var nv) 0) (show E6 P w' t s.res v R f1 o1 from hr) hR;exact⟨recs,e1,e2,by simpa [Uz]using e3,e4,A5 e1 (fvne _ _ _ _),e5⟩
   ·rename_i Uz;simp only [Ah]at he;subst he;refine⟨_,_,rfl,fun R w' v f1 o1 hr hR=> ?_⟩;obtain⟨vs,ys,rfl,rfl,hv⟩: ∃vs ys,v= .tuple vs.toArray∧R= .tup ys∧Jv P w' fn.resultTypes.toList s.res vs ys f1 o1:=by
     unfold KQ at hr;split at hr
     ·rename_i t ht;exact absurd ht (Uz t)
     ·exact hr
    obtain⟨recs,e1,e2,e3,e4,e5⟩:=ztu (c:=c) (x:=if IZ bs=0 then E.var nv else .proj (.var nv) 0) hv nx 0 (fun k y hy=>by show AV.proj ((if IZ bs=0 then E.var nv else .proj (.var nv) 0).den c.ρ) (0+k)=y;rw [hR];simp [AV.proj,hy])
    have fvsne: ∀(ts:List TypeId) (k:Nat) (fl:List Bool) (x:E) (i u:Nat) (y:Aj),(u,y)∈(NR P k ts fl x i).2→ ∀hs f,y≠ .gd hs f:=by
     intro ts
     induction ts with
     |nil=>intro k fl x i u y hy;simp [NR]at hy
     |cons t ts ih=>
      intro k fl x i u y hy;simp only [NR,Ai]at hy;rcases hy with hy|hy
      ·exact fvne _ _ _ _ _ _ hy
      ·exact ih _ _ _ _ _ _ hy
    exact⟨recs,e1,e2,e3,e4,A5 e1 (fvsne _ _ _ _ _),fun c' ha Aw=>⟨.tup (by rw [BD.bc];exact(e5 c' ha Aw).1) .nil,(e5 c' ha Aw).2⟩⟩
  obtain⟨val,l,rfl,O8⟩:=FG;obtain⟨r,hr,Aw⟩:=Be _ rfl;have O7: ∃s',sg g=some s'∧Tw P s' g ((EL.of es).den c.ρ) r:=by have Aw:Cw P sg g ((EL.of es).den c.ρ) r:=Aw;unfold Cw at Aw;rwa [if_pos hg]at Aw
  obtain⟨s',Bh,fn',JU,Ef,Ds,BF,_,_,FZ⟩:=O7;rw [J6]at Bh;cases Bh;rw [Hp]at JU;cases JU;rw [EL.dt]at FZ;have Be:=FZ c.w _ rf lf hs q1 Gw JP fF (h.rel.oi fun b hb=>by obtain⟨t,_,ht⟩:=JV b hb;exact⟨t,ht⟩);have ex:(execOp a.eval o).run P c.w= .ok (.enter g (cl.args.map a.eval++capv.toArray)) c.w:=by
   have hb:fn.body.isNone=false:=by simpa using Ef
   simp only [execOp,ho,resolve,AF,dF,Deferred.ofValue,Sem.run_bind,Sem.run_pure,Result.andThen_ok,invoke,callFunc,run_program,Hp];simp [Ds,hb]
  intro next Q hk
  unfold Oper.wp;rw [ex,Oper.upon_enter];have Oy:cl.args.map a.eval++capv.toArray=((cl.args.toList.map a.eval)++capv).toArray:=by apply Array.ext';simp
  rw [Oy];refine Be.mono ?_;rintro e' w' ⟨v,rfl,⟨R,Bs,f1,o1,f2,o2,LG,AQ,FF,Hu,Un,T1⟩,DA⟩;show next (a.put o.dst v) w'
  have hBn: ∀k y,Bs[k]?=some y→(E.proj (.var nv) (0+k+1)).den c.ρ=y:=by
   intro k y hy;cases Bs with
   |nil=>simp at hy
   |cons B Bs=>simp only [E.den,hr,Option.getD_some,LG,AV.proj,Nat.zero_add,List.getElem?_cons_succ,hy]
  obtain⟨Ug,recsB,hB⟩:=zAb (w':=w') q4 hK (r:=nv) (nx+(fn.resultTypes.toList.flatMap (A9 P)).length) 0 FF hBn;have hR:(if IZ bs=0 then E.var nv else .proj (.var nv) 0).den c.ρ=R:=by
   cases Bs with
   |nil=>rw [if_pos (by simpa using Ug.symm)];simp only [E.den,hr,Option.getD_some,LG]
   |cons B Bs=>rw [if_neg (by rw [←Ug];simp)];simp [E.den,hr,LG,AV.proj]
  obtain⟨recsV,v1,v2,v3,v4,v5,v6⟩:=O8 R w' v f1 o1 AQ hR;have GC: ∀t,nx≤t→t<nx+((fn.resultTypes.toList.flatMap (A9 P)).length+La P bs)→ ¬c.U t:=fun t h1 h2=>h.new t h1 (by omega);have TD:=hB.nodup Uk fun t h1 h2=>GC t (by omega) (by omega);have C5:((recsV++recsB).map AU.tag).Nodup:=by
   rw [List.map_append,List.nodup_append];refine⟨v4,TD,fun t1 h1 t2 h2 he=> ?_⟩;obtain⟨p1,eT,rfl⟩:=List.mem_map.1 h1;obtain⟨p2,Xn,rfl⟩:=List.mem_map.1 h2;have a1:=v3 p1 eT;cases hn:p2.new with
   |none=>exact GC p1.tag (by omega) (by omega) (he▸(hB.old p2 Xn hn).2)
   |some _=>have:=hB.new p2 Xn (by simp [hn]);omega
  have H5: ∀r∈recsV++recsB,r.new.isSome=true→nx≤r.tag∧r.tag<nx+((fn.resultTypes.toList.flatMap (A9 P)).length+La P bs):=fun r hr hn=>by
   rcases Ai.1 hr with hr|hr
   ·have:=v3 r hr;omega
   ·have:=hB.new r hr hn;omega
  have EZ:((recsV++recsB).flatMap AU.top).Sublist (o1++o2):=by rw [List.flatMap_append,v2];exact(List.Sublist.refl _).append hB.ni
  have dM: ∀b∈hs,∃r∈recsV++recsB,b∈(c.G r.tag).top:=fun b hb=>by obtain⟨t,ht,CK⟩:=JV b hb;obtain⟨r,hr,rfl⟩:=hB.all t ht;exact⟨r,by simp [hr],CK⟩
  have T8: ∀b∈hs,∃r∈recsV++recsB,b∈((c.cf (fz.map (·.1))).G r.tag).top:=fun b hb=>by obtain⟨t,ht,CK⟩:=JV b hb;obtain⟨r,hr,rfl⟩:=hB.all t ht;exact⟨r,by simp [hr],by rw [hGh _ ht];exact CK⟩
  have J9: ∀r∈recsV++recsB,∀b∈r.top,b∈o1++o2:=fun r hr b hb=>EZ.subset (List.mem_flatMap.2 ⟨r,hr,hb⟩);have O0: ∀b∈f1++f2,((c.cf (fz.map (·.1))).dz w' (recsV++recsB)).ok b:=by
   cases Xv:(DD P fn.resultTypes.toList s.res||Ei P bs)with
   |false=>
    simp only [Bool.or_eq_false_iff]at Xv;have EB:XN P fn.resultTypes.toList s.res R=true∧IY P (fn.params.toList++s.ft) s.cx Bs=true:=by
     unfold N5 at BF;cases Ov:Bs with
     |nil=>
      rw [if_neg (by rw [(nW FF).1 Ov];simp)]at BF;rw [Ov]at LG;rw [LG]at BF;refine⟨BF, ?_⟩;have: ∀(ts:List TypeId) (ms:List PM),IY P ts ms []=true:=by
       intro ts
       induction ts with
       |nil=>intro ms;rfl
       |cons t ts ih=>
        intro ms;unfold IY;split
        ·exact ih _
        ·exact ih _
        ·exact ih _
        ·split
         ·rename_i hh;cases hh
         ·simpa using ih _
      exact this _ _
     |cons B Bs'=>
      rw [if_pos (by
       cases hh:BM (fn.params.toList++s.ft) s.cx with
       |true=>rfl
       |false=>rw [(nW FF).2 hh]at Ov;cases Ov)]at BF
      rw [LG,Ov]at BF;simpa using BF
    have e1:f1= []:=AQ.flat Xv.1 EB.1;have e2:f2= []:=D5.flat q4 FF Xv.2 EB.2;subst e1;subst e2;simp
   |true=>rw [Xv]at J0 Hq;simp only [Bool.true_and,Bool.not_eq_true',Bool.not_eq_false]at J0;simp only [if_true]at Hq;exact zAw (rf:=rf) h.rel.gw TF rfl rfl rfl h.rel.base.size C5 J9 dM (fun b hb=>V0 h.rel h.eh h.gs Hq (by simpa using J0) (q2 b hb)) T1
  have TZ:after P nv (nx+(fn.resultTypes.toList.flatMap (A9 P)).length) bs 0=recsB.map fun r=>(r.tag,CY gs r.bu):=by
   cases TP:bs with
   |nil=>
    have:=hB.ents;rw [TP]at this;simp only [after]at this;have:recsB= []:=by simpa using this.symm
    rw [this];rfl
   |cons b bs'=>have Ft:=q6 (by rw [TP];simp);rw [←TP,hB.ents,Ft];rfl
  have Bn:UH gs l++after P nv (nx+(fn.resultTypes.toList.flatMap (A9 P)).length) bs 0=(recsV++recsB).map fun r=>(r.tag,CY gs r.bu):=by rw [TZ,List.map_append];congr 1;rw [v1];simp [UH,AU.pair]
  obtain⟨FH,B3⟩:=Du.changes (w':=w') (recs:=recsV++recsB) (hs:=hs) (gs:=gs) h.gs DA C5 (fun r hr hn=>by have:=H5 r hr hn;exact GC _ this.1 this.2) T8 (EZ.nodup Hu) (fun r hr b hb=>Un b (J9 r hr b hb))
   (fun r hr=>by
    rcases Ai.1 hr with hr|hr
    ·exact v5 r hr
    ·exact hB.ne r hr)
   (fun _ r hr=>by
    have aft:=Cx.ed (c:=c.cf (fz.map (·.1))) (w':=w') (recs:=recsV++recsB) h.rel.cj C5 (fun r hr hn=>by have:=H5 r hr hn;exact GC _ this.1 this.2);have aft':Fp c ((c.cf (fz.map (·.1))).dz w' (recsV++recsB)) w' (recsV++recsB):=⟨aft.ρ,aft.w,aft.G,aft.new,aft.K,aft.old,aft.lq,fun r hr Dt=>(aft.jq r hr Dt).trans (by
     rcases Ai.1 hr with hr|hr
     ·have:=(v3 r hr).2.2;rw [Dt]at this;cases this
     ·rw [sW _ (hB.old r hr Dt).1])⟩
    rcases Ai.1 hr with hr|hr
    ·exact(v6 _ (aft'.mono fun r hr=>by simp [hr]) fun b hb=>O0 b (by simp [hb])).2 r hr
    ·exact hB.ok _ (aft'.mono fun r hr=>by simp [hr]) (fun b hb=>O0 b (by simp [hb])) r hr)
  have aft:=Cx.ed (c:=c.cf (fz.map (·.1))) (w':=w') (recs:=recsV++recsB) h.rel.cj C5 (fun r hr hn=>by have:=H5 r hr hn;exact GC _ this.1 this.2);have aft':Fp c ((c.cf (fz.map (·.1))).dz w' (recsV++recsB)) w' (recsV++recsB):=⟨aft.ρ,aft.w,aft.G,aft.new,aft.K,aft.old,aft.lq,fun r hr Dt=>(aft.jq r hr Dt).trans (by
     rcases Ai.1 hr with hr|hr
     ·have:=(v3 r hr).2.2;rw [Dt]at this;cases this
     ·rw [sW _ (hB.old r hr Dt).1])⟩
  have Kb:=(v6 _ (aft'.mono fun r hr=>by simp [hr]) fun b hb=>O0 b (by simp [hb])).1;rw [←Bn,←Qa]at FH;refine hk _ ((c.cf (fz.map (·.1))).dz w' (recsV++recsB)) ⟨rfl,rfl,rfl,rfl,fun t ht=> ?_⟩ (FH.put (Kb.mkGd gs h.gs) o.dst);rcases ht with ht|⟨r,hr,rfl⟩
  ·exact .inl ht
  ·cases hn:r.new with
   |none=>
    rcases Ai.1 hr with hr|hr
    ·have:=(v3 r hr).2.2;rw [hn]at this;cases this
    ·exact .inl (hB.old r hr hn).2
   |some _=>have:=H5 r hr (by simp [hn]);exact .inr ⟨this.1,by simp only [BN];omega⟩
 ·cases he
end
def Cr (c:Cx) (us:List Nat):List Nat:=us.flatMap fun t=>(c.G t).top
theorem pD (c:Cx):Cr c []= []:=rfl
theorem Zw (c:Cx) (u:Nat) (us:List Nat):Cr c (u::us)=(c.G u).top++Cr c us:=by simp [Cr]
theorem Kp (c:Cx) (us vs:List Nat):Cr c (us++vs)=Cr c us++Cr c vs:=by simp [Cr]
theorem Su {c:Cx} {us:List Nat} {b:Nat}:b∈Cr c us↔ ∃t∈us,b∈(c.G t).top:=by simp [Cr]
theorem Zn {c:Cx} (gw:GW c): ∀{l:List Nat},l.Nodup→(Cr c l).Nodup
 | [],_=>by simp [Cr]
 |t::l,hl=>by
  rw [Zw,List.nodup_append];rw [List.nodup_cons]at hl;refine⟨?_,Zn gw hl.2,fun a ha b hb Lp=> ?_⟩
  ·have:=gw.nodup t;simp only [GI.own]at this;exact(List.nodup_append.1 this).1
  ·subst Lp;obtain⟨u,hu,Iy⟩:=Su.1 hb;exact gw.cz t u (fun hh=>hl.1 (hh▸hu)) a (by simp [GI.own,ha]) (by simp [GI.own,Iy])
section
variable {P:Program} {c:Cx} {hp:Nat→Option Aj} {gs:Gd}
theorem qN {m:Nat} {u g:Nat} {x y:E} (hx:Br hp gs m (.own u g)=some x) (hy:IN hp gs u g=some y):x=y:=by
 cases m with
 |zero=>simp [Br]at hx
 |succ m=>simp only [Br,hy,Ah]at hx;exact hx.symm
theorem zyV {m:Nat} {x:E} (h:Br hp gs m .emp=some x):x= .lst .nil:=by
 cases m with
 |zero=>simp [Br]at h
 |succ m=>simp [Br]at h;exact h.symm
theorem zxL (eh:EH c hp) (k:Bj c.ρ gs) {d:DT} {s:SV} {us:List Nat} {ck:List Cn} {v:Value} {x:E} {m:Nat} (h:gC hp gs d s=some (us,ck)) (hs:SR c [s] [v]) (hx:Br hp gs m s=some x) (hc: ∀q∈ck,q.den c.ρ):
  DC c.w [d] [v] [x.den c.ρ] (Cr c us)∧ ∀u∈us,∃g,c.K u g:=by
 unfold gC at h;split at h
 ·rename_i y;simp only [Ah,Prod.mk.injEq]at h;obtain⟨rfl,rfl⟩:=h;rw [K8 hx];cases hs with
  |e h1 h2 h3=>
   rename_i f;have Fx:(y.den c.ρ).scalar=true:=by
    cases hl:UZ y with
    |true=>cases y<;>simp [UZ]at hl<;>rfl
    |false=>rw [hl]at hc;exact(B2 hc).2.2.2 rfl
   have hf:f= []:=Ij h1 (by simpa using Fx);subst hf;exact⟨.flat h1 .nil,by simp⟩
 ·split at h
  ·rename_i hh;simp only [Ah,Prod.mk.injEq]at h;obtain⟨rfl,rfl⟩:=h;rw [Mb hx];cases hs with
   |cq _=>exact⟨.void hh.1 hh.2 .nil,by simp⟩
  ·cases h
 ·split at h
  ·rename_i hh;simp only [Ah,Prod.mk.injEq]at h;obtain⟨rfl,rfl⟩:=h;rw [zyV hx];cases hs with
   |emp _=>exact⟨.void hh.1 hh.2 .nil,by simp⟩
  ·cases h
 ·rename_i e z l u g;split at h
  ·rename_i e' z' l' g' ep y hl;split at h
   ·rename_i hh;obtain⟨rfl,rfl,rfl,hb⟩:=hh;simp only [Ah,Prod.mk.injEq]at h;obtain⟨rfl,rfl⟩:=h;obtain⟨q1,q2,q3,q4,q5⟩:=eh u _ (Db hl k);rw [qN (y:=y) hx (by simp only [IN,hl,if_true])];have hb:=AZ.of_eq hb;subst hb;rw [AZ.c8]at q4;cases hs with
    |own k1 k2 _=>rw [k2]at q4;exact⟨by rw [Zw,pD,List.append_nil];exact q4,fun w hw=>by simp at hw;subst hw;exact⟨_,k1⟩⟩
   ·cases h
  ·rename_i e' z' g' y hl;split at h
   ·rename_i hh;obtain⟨rfl,rfl,rfl,hf,hlen⟩:=hh;simp only [Ah,Prod.mk.injEq]at h;obtain⟨rfl,rfl⟩:=h;obtain⟨q1,q2,N,q4,q5,q6,q7⟩:=eh u _ (Db hl k);obtain⟨hN,_⟩:=q6 rfl;have hN:N= []:=hN;subst hN;rw [qN (y:=y) hx (by simp only [IN,hl,if_true])];cases hs with
    |own k1 k2 _=>rw [k2]at q4;exact⟨by rw [Zw,pD,List.append_nil];exact DC.mj q4 hf hlen,fun w hw=>by simp at hw;subst hw;exact⟨_,k1⟩⟩
   ·cases h
  ·cases h
 ·cases h
theorem nF (eh:EH c hp) (k:Bj c.ρ gs): ∀(ds:List DT) {ss:List SV} {us:List Nat} {ck:List Cn} {vs:List Value} {xs:EL} {m:Nat},Oa hp gs ds ss=some (us,ck)→SR c ss vs→CC hp gs m ss=some xs→(∀q∈ck,q.den c.ρ)→
  DC c.w ds vs (xs.den c.ρ) (Cr c us)∧ ∀u∈us,∃g,c.K u g
 | [], [],us,ck,vs,xs,m,h,hs,hx,hc=>by
  simp [Oa]at h;obtain⟨rfl,rfl⟩:=h;cases hs;cases m with
  |zero=>simp [CC]at hx
  |succ m=>simp [CC]at hx;subst hx;exact⟨.nil,by simp⟩
 | [],_::_,us,ck,vs,xs,m,h,hs,hx,hc=>by simp [Oa]at h
 |_::_, [],us,ck,vs,xs,m,h,hs,hx,hc=>by simp [Oa]at h
 |d::ds,s::ss,us,ck, [],xs,m,h,hs,hx,hc=>by have:=hs.len;simp at this
 |d::ds,s::ss,us,ck,v::vs,xs,m,h,hs,hx,hc=>by
  obtain⟨j,y,ys,rfl,hy,DG,rfl⟩:=KY hx;obtain⟨r1,r2⟩:=hs.cr;unfold Oa at h;split at h
  ·rename_i us1 ck1 us2 ck2 h1 h2;simp only [Ah,Prod.mk.injEq]at h;obtain⟨rfl,rfl⟩:=h;obtain⟨q1,q2⟩:=zxL eh k h1 r1 hy fun q hq=>hc q (by simp [hq]);obtain⟨q3,q4⟩:=nF eh k ds h2 r2 DG fun q hq=>hc q (by simp [hq]);refine⟨by rw [Kp];exact q1.app q3,fun u hu=> ?_⟩;rcases Ai.1 hu with hu|hu
   ·exact q2 u hu
   ·exact q4 u hu
  ·cases h
theorem zrt (eh:EH c hp) (k:Bj c.ρ gs) {t:TypeId} {ds:List DT} {s:SV} {us:List Nat} {ck:List Cn} {v:Value} {x:E} (Hm:ds.length=P.cellsOf t) (hg:Ao P t=true∨P.cellsOf t=1) (h:Td P hp gs t ds s=some (x,us,ck)) (hs:SR c [s] [v]) (hc: ∀q∈ck,q.den c.ρ):
  DC c.w ds v.cells.toList (x.den c.ρ).cells (Cr c us)∧(∀u∈v.cells.toList,u.oneCell'=true)∧(x.den c.ρ).cells.length=P.cellsOf t∧v.cells.size=P.cellsOf t∧
   (if Ao P t then∃cs,x.den c.ρ= .agg cs else(∀cs,x.den c.ρ≠ .agg cs)∧ ∀cs,x.den c.ρ≠ .tup cs)∧ ∀u∈us,∃g,c.K u g:=by
 unfold Td at h;split at h
 ·cases h
 rename_i y hy;split at h
 ·rename_i EB;simp only [Ah,Prod.mk.injEq]at h;obtain⟨rfl,rfl,rfl⟩:=h;obtain⟨f,q1,q2⟩:=Ii eh k A3 hy hs A3 (Nat.le_refl _);obtain⟨c1,c2,c3,c4⟩:=B2 hc;have FG:if Ao P t then∃cs,y.den c.ρ= .agg cs∧cs.length=P.cellsOf t else(∀cs,y.den c.ρ≠ .agg cs)∧ ∀cs,y.den c.ρ≠ .tup cs:=by
   split
   ·rename_i AD;obtain⟨cs,Bm⟩:=c3 AD;exact⟨cs,Bm,by rw [Bm]at c1;exact c1⟩
   ·rename_i AD;have:=c4 (by simpa using AD);exact⟨fun cs Bm=>by rw [Bm]at this;simp [AV.scalar]at this,fun cs Bm=>by rw [Bm]at this;simp [AV.scalar]at this⟩
  have hf:f= []:=by
   cases Xj:Ao P t with
   |true=>obtain⟨cs,Bm⟩:=c3 Xj;obtain⟨as_,rfl,_,r⟩:=Kw q1 Bm;exact Ij r (by rw [Bm]at c2;exact c2)
   |false=>exact Ij q1 (by simpa using c4 Xj)
  subst hf;obtain⟨o1,o2,o3,o4⟩:=pQ (P:=P) q1 hg FG;refine⟨DC.nu o1 EB (by rw [Hm];simpa using o4.symm),o2,o3,o4, ?_,by simp⟩;split at FG
  ·rename_i AD;rw [if_pos AD];obtain⟨cs,Bm,_⟩:=FG;exact⟨cs,Bm⟩
  ·rename_i AD;rw [if_neg AD];exact FG
 ·rename_i GD;split at h
  ·cases h
  rename_i AD;have AD:(Ih s).2=Ao P t:=by simpa using AD
  obtain⟨⟨us',ck'⟩,hr,h⟩:=Au.1 h;simp only [Prod.mk.injEq]at h;obtain⟨rfl,rfl,rfl⟩:=h;have single:Ao P t=false→Oa hp gs ds [s]=some (us',ck')→DC c.w ds v.cells.toList (y.den c.ρ).cells (Cr c us')∧(∀u∈v.cells.toList,u.oneCell'=true)∧(y.den c.ρ).cells.length=P.cellsOf t∧v.cells.size=P.cellsOf t∧
   (if Ao P t then∃cs,y.den c.ρ= .agg cs else(∀cs,y.den c.ρ≠ .agg cs)∧ ∀cs,y.den c.ρ≠ .tup cs)∧ ∀u∈us',∃g,c.K u g:=by
   intro AD hr;have BE:CC hp gs (A3+1) [s]=some (.cons y .nil):=by unfold CC;rw [hy];rfl
   obtain⟨q1,q2⟩:=nF eh k ds hr hs BE hc;have tI:=q1.len;simp only [EL.den,An,List.length_nil]at tI
   match ds,tI,q1,GD,Hm with
   | [d],_,q1,GD,Hm=>
    cases d with
    |flat=>simp [DT.cg]at GD
    |row e z l=>
     obtain⟨p,q,r,rfl⟩:=q1.head;obtain⟨xs,CP⟩: ∃xs,y.den c.ρ= .sl xs:=by
      obtain⟨_,_,⟨_,_,hx,_⟩|⟨_,_,_,_,_,_,hx,_⟩⟩:=q1.inv
      ·exact⟨_,hx⟩
      ·exact⟨_,hx⟩
     rw [if_neg (by rw [AD];simp)];refine⟨?_,by simp [Value.cells,Value.oneCell'],by rw [CP,←Hm];rfl,by rw [←Hm];rfl, ?_,q2⟩
     ·simp only [EL.den]at q1;rw [CP]at q1 ⊢;exact q1
     ·rw [CP];exact⟨fun cs hh=>(by cases hh),fun cs hh=>(by cases hh)⟩
  cases s with
  |agg cs=>
   simp only [Ih]at AD hr;obtain⟨m,l,hm,hl,rfl⟩:=Wl hy;cases hs with
   |agg h9 h1 h8=>rename_i as_;obtain⟨q1,q2⟩:=nF eh k ds hr h1 hl hc;obtain⟨l1,l2⟩:=q1.len;rw [if_pos AD.symm];exact⟨by simpa [Value.cells,AV.cells,E.den]using q1,by simpa [Value.cells]using h9,by simp only [E.den,AV.cells];omega,by simp [Value.cells];omega,⟨_,rfl⟩,q2⟩
  |_=>exact single AD.symm hr
theorem z6 (eh:EH c hp) (k:Bj c.ρ gs) {t:TypeId} {ds:List DT} (Hm:ds.length=P.cellsOf t) (hg:Ao P t=true∨P.cellsOf t=1): ∀(ss:List SV) (vs:List Value) {xs:List E} {us:List Nat} {ck:List Cn},SR c ss vs→Wn P hp gs t ds ss=some (xs,us,ck)→(∀q∈ck,q.den c.ρ)→
  DC c.w (Dp vs.length ds) (vs.flatMap fun v=>v.cells.toList) (AL (xs.map (E.den c.ρ))) (Cr c us)∧(∀v∈vs,v.cells.size=P.cellsOf t∧ ∀u∈v.cells.toList,u.oneCell'=true)∧(∀x∈xs,(x.den c.ρ).cells.length=P.cellsOf t)∧xs.length=vs.length∧ ∀u∈us,∃g,c.K u g
 | [],vs,xs,us,ck,hr,ht,hc=>by simp [Wn]at ht;obtain⟨rfl,rfl,rfl⟩:=ht;cases hr;exact⟨by simpa [AL,Dp,Cr]using DC.nil,by simp,by simp,rfl,by simp⟩
 |s::ss, [],xs,us,ck,hr,ht,hc=>by have:=hr.len;simp at this
 |s::ss,v::vs,xs,us,ck,hr,ht,hc=>by
  obtain⟨r1,r2⟩:=hr.cr;unfold Wn at ht;split at ht
  ·rename_i x us1 ck1 xs2 us2 ck2 h1 h2;simp only [Ah,Prod.mk.injEq]at ht;obtain⟨rfl,rfl,rfl⟩:=ht;obtain⟨q1,q2,q3,q4,q5,q6⟩:=zrt eh k Hm hg h1 r1 (fun q hq=>hc q (by simp [hq]));obtain⟨p1,p2,p3,p4,p5⟩:=z6 eh k Hm hg ss vs r2 h2 (fun q hq=>hc q (by simp [hq]));refine⟨?_, ?_, ?_,by simp [p4], ?_⟩
   ·have:=q1.app p1;rw [An,P3,Kp];simpa [AL]using this
   ·intro u hu;rcases Ag.1 hu with rfl|hu
    ·exact⟨q4,q2⟩
    ·exact p2 u hu
   ·intro u hu;rcases Ag.1 hu with rfl|hu
    ·exact q3
    ·exact p3 u hu
   ·intro u hu;rcases Ai.1 hu with hu|hu
    ·exact q6 u hu
    ·exact p5 u hu
  ·cases ht
theorem zsm (eh:EH c hp) (k:Bj c.ρ gs) {e z:Nat} {l:List DT} {s:SV} {us:List Nat} {v:Value} {y:E} {m:Nat} (h:WN hp gs e z l s=some us) (hs:SR c [s] [v]) (hy:Br hp gs m s=some y):
  ∃ys q r news N,y.den c.ρ= .sl ys∧v= .slice q ys.length r∧Src c.w z q ys.length news∧DC c.w (Dp ys.length l) news (AL ys) N∧N.Sublist (Cr c us)∧(∀y∈ys,y.cells.length=z)∧(∀u∈news,u.oneCell'=true)∧ ∀u∈us,∃g,c.K u g:=by
 have empt: ∀q,v= .slice q 0 0→y= .lst .nil→us= []→ ∃ys q r news N,y.den c.ρ= .sl ys∧v= .slice q ys.length r∧Src c.w z q ys.length news∧DC c.w (Dp ys.length l) news (AL ys) N∧N.Sublist (Cr c us)∧(∀y∈ys,y.cells.length=z)∧(∀u∈news,u.oneCell'=true)∧ ∀u∈us,∃g,c.K u g:=by
  rintro q rfl rfl rfl;refine⟨[],q,0, [], [],rfl,rfl, ?_,by simpa [Dp,AL]using DC.nil,by simp,by simp,by simp,by simp⟩;cases q with
  |none=>exact .inl ⟨rfl,rfl,rfl⟩
  |some p=>exact .inr ⟨p,rfl,by simp,by simp,by simp⟩
 unfold WN at h;split at h
 ·simp only [Ah]at h;cases hs with
  |cq _=>exact empt _ rfl (Mb hy) h.symm
 ·simp only [Ah]at h;cases hs with
  |emp _=>exact empt _ rfl (zyV hy) h.symm
 ·rename_i u g;split at h
  ·rename_i e' z' l' g' ep x hl;split at h
   ·rename_i hh;obtain⟨rfl,rfl,rfl,hb⟩:=hh;simp only [Ah]at h;subst h;have hb:=AZ.jn hb;subst hb;obtain⟨q1,q2,q3,q4,q5⟩:=eh u _ (Db hl k);have HD:=qN (y:=x) hy (by simp only [IN,hl,if_true]);subst HD;cases hs with
    |own k1 k2 k3=>
     rename_i p0 n0 r0;rw [k2]at q4;have hK: ∀w∈ [u],∃g,c.K w g:=fun w hw=>by simp at hw;subst hw;exact⟨_,k1⟩
     obtain⟨d1,d2,⟨a9,d3,d4,d5⟩|⟨g9,cap,C,ys,N1,d3,d4,d5,d6,d7,d8,d9,d10,d11,d12⟩⟩:=q4.inv
     ·cases d3;refine⟨[],_,0, [], [],d4,rfl, ?_,by simpa [Dp,AL]using DC.nil,by simp,by simp,by simp,hK⟩;cases p0 with
      |none=>exact .inl ⟨rfl,rfl,rfl⟩
      |some p=>exact .inr ⟨p,rfl,by simp,by simp,by simp⟩
     ·cases d3;rw [AZ.bc]at d12;have Ee:C.toList.length=r0*z:=by simpa using d9
      refine⟨ys,_,r0,_,N1,d4,rfl, .inr ⟨_,rfl, ?_,fun j w hw=> ?_,d11⟩,d12, ?_,d10,d11,hK⟩
      ·rw [List.length_take,Ee];exact Nat.min_eq_left (Nat.mul_le_mul_right _ d7)
      ·rw [Addr.add_lit,Nat.zero_add,Fe d6];rw [List.getElem?_take]at hw;split at hw
       ·simpa using hw
       ·cases hw
      ·rw [Zw,pD,List.append_nil,d5];exact List.sublist_cons_self _ _
   ·cases h
  ·cases h
 ·cases h
end
def Gq (T:List Nat):List AU:=T.map fun u=>⟨u,none, [], .dead⟩
theorem zBE (T:List Nat):(Gq T).flatMap AU.top= []:=by induction T<;>simp_all [Gq]
theorem zCH (T:List Nat):(Gq T).map AU.tag=T:=by induction T<;>simp_all [Gq]
theorem zzx (T:List Nat):((Gq T).map fun r=>(r.tag,CY [] r.bu))=FD T:=by simp [Gq,FD,CY]
theorem Wf {T:List Nat} {r:AU} (h:r∈Gq T):r.tag∈T∧r.new=none∧r.top= []∧r.bu= .dead:=by obtain⟨u,hu,rfl⟩:=List.mem_map.1 h;exact⟨hu,rfl,rfl,rfl⟩
section
variable {P:Program} {c:Cx} {n nx:Nat} {sl sl0:Nat→SV} {hp hp0:Nat→Option Aj} {a:Act} {o:Oper} {gs:Gd} {e:A7} {sg:B0} {nv:Nat}
theorem Rel.ml (h:Rel c n sl hp a) {T:List Nat} (hT:T.Nodup) (GZ: ∀u∈T,c.U u) {r0:AU} (G6:r0.tag∉T) (H6:r0.new.isSome=true→ ¬c.U r0.tag) (CR:r0.new=none→c.U r0.tag) {w':World} {hs:List Nat} (Hs: ∀b∈hs,b∈(c.G r0.tag).top∨b∈Cr c T) (hm:Mod hs c.w w')
  (Co:r0.top.Nodup) (Ch: ∀b∈r0.top,(b∈hs∨c.w.heap.size≤b)∧b<w'.heap.size) (A5: ∀q f,r0.bu≠ .gd q f)
  (he:DV c (c.dz w' (r0::Gq T))→Fp c (c.dz w' (r0::Gq T)) w' (r0::Gq T)→Dn (c.dz w' (r0::Gq T)) r0.tag r0.bu):
  Rel (c.dz w' (r0::Gq T)) n sl (Bd hp ((r0.tag,r0.bu)::FD T)) a∧DV c (c.dz w' (r0::Gq T))∧Fp c (c.dz w' (r0::Gq T)) w' (r0::Gq T)∧ ∀t,(c.dz w' (r0::Gq T)).U t→c.U t∨t=r0.tag:=by
 have hn:((r0::Gq T).map AU.tag).Nodup:=by rw [List.map_cons,zCH];exact List.nodup_cons.2 ⟨G6,hT⟩
 have A1: ∀r∈r0::Gq T,r.new.isSome=true→ ¬c.U r.tag:=fun r hr hs=>by
  rcases Ag.1 hr with rfl|hr
  ·exact H6 hs
  ·rw [(Wf hr).2.1]at hs;cases hs
 have aft:=Cx.ed (w':=w') h.cj hn A1;obtain⟨q1,q2⟩:=h.changes (gs:= []) (Ff _) hm hn A1 (fun b hb=>by
   rcases Hs b hb with hb|hb
   ·exact⟨r0,by simp,hb⟩
   ·obtain⟨t,ht,CK⟩:=Su.1 hb;exact⟨⟨t,none, [], .dead⟩,List.mem_cons_of_mem _ (List.mem_map.2 ⟨t,ht,rfl⟩),CK⟩)
  (by rw [List.flatMap_cons,zBE,List.append_nil];exact Co)
  (fun r hr b hb=>by
   rcases Ag.1 hr with rfl|hr
   ·exact Ch b hb
   ·rw [(Wf hr).2.2.1]at hb;cases hb)
  (fun r hr=>by
   rcases Ag.1 hr with rfl|hr
   ·exact A5
   ·rw [(Wf hr).2.2.2];intros;simp)
  (fun hk r hr=>by
   rcases Ag.1 hr with rfl|hr
   ·exact he hk aft
   ·have kg:=aft.G r (List.mem_cons_of_mem _ hr);obtain⟨_,_,e1,e2⟩:=Wf hr;rw [e2];exact⟨by rw [kg,e1],by rw [kg]⟩)
 refine⟨?_,q2,aft,fun t ht=> ?_⟩
 ·rw [List.map_cons,zzx]at q1;have:CY [] r0.bu=r0.bu:=rfl;rw [this]at q1;exact q1
 ·rcases ht with ht|⟨r,hr,rfl⟩
  ·exact .inl ht
  ·rcases Ag.1 hr with rfl|hr
   ·exact .inr rfl
   ·exact .inl (GZ _ (Wf hr).1)
theorem AB.il (h:Bt P c n nx sl hp a sl0 hp0 o []) {T:List Nat} (hT:T.Nodup) (GZ: ∀u∈T,∃g,c.K u g) {v':Value} {w':World} {ck:List Cn} {e z:Nat} {l:List DT} {x:E} {top:List Nat} (hr:(execOp a.eval o).run P c.w= .ok (.value v') w') (hm:Mod (Cr c T) c.w w')
  (Co:top.Nodup) (Ch: ∀b∈top,(b∈Cr c T∨c.w.heap.size≤b)∧b<w'.heap.size) (hd:DC w' [.row e z (AZ.of l)] [v'] [x.den c.ρ] top):
  AB P o c n nx sl hp [] a {ca:=ck,val:= .own nx 0,bu:=(nx, .deep e z l 0 0 x)::FD T}:=by
 intro next Q hk
 unfold Oper.wp;rw [hr,Oper.upon_value];have hU:=P6 h;have Lo: ∀u∈T,c.U u:=fun u hu=>by obtain⟨g,hg⟩:=GZ u hu;exact h.rel.cj _ _ hg
 obtain⟨q1,q2,q3,q4⟩:=h.rel.ml (r0:=⟨nx,some v',top, .deep e z l 0 0 x⟩) hT Lo (fun hh=>hU (Lo _ hh)) (fun _=>hU) (fun hh=>by cases hh) (fun b hb=> .inr hb) hm Co Ch (by intros;simp) (fun _ aft=>by obtain⟨k1,k2,k3⟩:=aft.new _ (List.mem_cons_self ..) v' rfl;have kg:=aft.G _ (List.mem_cons_self ..);have ke:=aft.lq _ (List.mem_cons_self ..) rfl;simp only at k1 k2 k3 kg ke;exact⟨k1,k2,ke,by rw [k3,kg,aft.w,aft.ρ];exact hd,by rw [kg]⟩)
 obtain⟨k1,k2,k3⟩:=q3.new _ (List.mem_cons_self ..) v' rfl;simp only at k1 k3;obtain⟨p,m,r,rfl⟩:=hd.head;refine hk _ (c.dz w' _) ⟨rfl,rfl,rfl,rfl,fun t ht=> ?_⟩ (q1.put (SR.own k1 k3 .nil) o.dst);rcases q4 t ht with ht|rfl
 ·exact .inl ht
 ·exact .inr ⟨Nat.le_refl _,by simp [BN]⟩
theorem AB.l7 (h:Bt P c n nx sl hp a sl0 hp0 o []) {T:List Nat} (hT:T.Nodup) (GZ: ∀u∈T,∃g,c.K u g) {b g ep:Nat} (hb:b∉T) (hK:c.K b g) (Eu: ∀g',c.K b g'→g'≤g) (hE:c.E b=ep) {w':World} {ck:List Cn} {e z:Nat} {l:List DT} {x:E} {top:List Nat} (hr:(execOp a.eval o).run P c.w= .ok .skip w') {hs:List Nat} (Hs: ∀q∈hs,q∈(c.G b).top∨q∈Cr c T) (hm:Mod hs c.w w')
  (Co:top.Nodup) (Ch: ∀q∈top,(q∈hs∨c.w.heap.size≤q)∧q<w'.heap.size) (hd:DC w' [.row e z (AZ.of l)] [c.H b g] [x.den c.ρ] top):
  AB P o c n nx sl hp [] a {ca:=ck,bu:=(b, .deep e z l g (ep+1) x)::FD T}:=by
 intro next Q hk
 unfold Oper.wp;rw [hr,Oper.upon_skip];have Lo: ∀u∈T,c.U u:=fun u hu=>by obtain⟨g,hg⟩:=GZ u hu;exact h.rel.cj _ _ hg
 have cK:=h.rel.cj _ _ hK;obtain⟨q1,q2,q3,q4⟩:=h.rel.ml (r0:=⟨b,none,top, .deep e z l g (ep+1) x⟩) hT Lo hb (fun hh=>by cases hh) (fun _=>cK) Hs hm Co Ch (by intros;simp) (fun _ aft=>by have kg:=aft.G _ (List.mem_cons_self ..);have ke:=aft.jq _ (List.mem_cons_self ..) rfl;obtain⟨k1,k2⟩:=aft.K b g hK;simp only at kg ke;exact⟨k1,fun g' Cm=>Eu g' (aft.old b cK g' Cm),by rw [ke,hE],by rw [k2,kg,aft.w,aft.ρ];exact hd,by rw [kg]⟩)
 refine hk _ (c.dz w' _) ⟨rfl,rfl,rfl,rfl,fun t ht=> ?_⟩ (q1.put ((SR.undef .nil).mkGd []) o.dst);rcases q4 t ht with ht|rfl
 ·exact .inl ht
 ·exact .inl cK
theorem zwk {w w':World} {row:Option Nat} {S:List Nat} (h:w.grownBy w' row) (hr: ∀g,row=some g→g∈S∨w.heap.size≤g):Mod S w w':=by
 refine⟨h.os,h.tape,h.output,h.size,fun b hb hn=>h.block b hb fun hh=> ?_⟩;rcases hr b hh.symm with h1|h1
 ·exact hn h1
 ·omega
theorem nC (h:Bt P c n nx sl hp a sl0 hp0 o []) {x y:Operand} {tx:TypeId} {cl:Call} (ho:o.op= .call cl) (AF:cl.callee= .builtin .append) (Dz:cl.args.toList= [x,y]) (EN:cl.argTypes.toList= [tx,tx])
  {el:TypeId} (BE:P.underlying tx=some (.slice el)) (hz:IU P el=true) {l:List DT} (hl:l.length=P.cellsOf el) {T us:List Nat} (hT:(T++us).Nodup) (GZ: ∀u∈T,∃g,c.K u g) {s2:SV} {ye:E} (A6:BV sl0 [] y=some s2) (hy:Br hp0 [] A3 s2=some ye) (Cp:WN hp0 [] el (P.cellsOf el) l s2=some us)
  {c0:E} {v:Value} (hv:a.eval x=v) {N:List Nat} (BI:DC c.w [.row el (P.cellsOf el) (AZ.of l)] [v] [c0.den c.ρ] N) (hN:N=Cr c T) {ck:List Cn} (CF:Cn.den c.ρ (.room c0 ye (P.bytesOf el))):
  AB P o c n nx sl hp [] a {ca:=ck,val:= .own nx 0,bu:=(nx, .deep el (P.cellsOf el) l 0 0 (.app c0 ye))::FD (T++us)}:=by
 have Ay:cl.args= #[x,y]:=by apply Array.ext';simp [Dz]
 have Hz:cl.argTypes= #[tx,tx]:=by apply Array.ext';simp [EN]
 have DF:y∈o.op.operands:=by simp [ho,Op.operands,Call.operands,AF,Ay]
 obtain⟨i,z,hi,Gx,D0,Cf,CI,G0⟩:=L8 hz;obtain⟨ys,q,r,news,N2,DG,DB,F2,cY,BY,Ph,eM,fL⟩:=zsm h.eh h.gs Cp (h.db A6 DF) hy;have C5:=Zn h.rel.gw hT;rw [Kp]at C5;have EU: ∀b∈Cr c (T++us),b<c.w.heap.size:=fun b hb=>by obtain⟨t,_,CK⟩:=Su.1 hb;exact h.rel.gw.inb t b (by simp [GI.own,CK])
 obtain⟨mm,kk,H6,CR,Uq,fA⟩:=CF;obtain⟨d1,d2,Bl⟩:=BI.inv;rw [AZ.bc]at d2 Bl;have hU: ∀u∈T++us,∃g,c.K u g:=fun u hu=>by
  rcases Ai.1 hu with hu|hu
  ·exact GZ u hu
  ·exact fL u hu
 obtain⟨xs,old,N1,CP,hold,H8,KH,IE,C6,W0,bX⟩: ∃(xs:List AV) (old:List Value) (N1:List Nat),c0.den c.ρ= .sl xs∧old.length=xs.length*i.size∧((xs.length=0∧ ∃q,v= .slice q 0 0)∨ ∃g cap C,v= .slice (some ⟨g,0,none⟩) xs.length cap∧xs.length≤cap∧cap≤maxLen∧c.w.heap[g]?=some (.cells C el (0,0))∧C.size=cap*i.size∧old=C.toList.take (xs.length*i.size)∧(g∈Cr c T∧g∉N1))∧
   DC c.w (Dp xs.length l) old (AL xs) N1∧(∀y∈xs,y.cells.length=P.cellsOf el)∧(∀u∈old,u.oneCell'=true)∧(∀b∈N1,b∈Cr c T)∧N1.Nodup:=by
  rcases Bl with⟨p,rfl,KM,rfl⟩|⟨g9,cap,C,xs,N1,rfl,KM,rfl,h6,h7,h8,h9,Hi,Ep,h12⟩
  ·exact⟨[], [], [],KM,by simp, .inl ⟨rfl,p,rfl⟩,by simpa [Dp,AL]using DC.nil,by simp,by simp,by simp,by simp⟩
  ·have Co:(g9::N1).Nodup:=by rw [hN];exact(List.nodup_append.1 C5).1
   rw [List.nodup_cons]at Co;refine⟨xs,_,N1,KM, ?_, .inr ⟨g9,cap,C,rfl,h7,h8,h6,by rw [←CI];exact h9,rfl,by rw [←hN];simp,Co.1⟩,by rw [←CI];exact h12,Hi,by rw [←CI];exact Ep,fun b hb=>by rw [←hN];simp [hb],Co.2⟩;have e9:C.toList.length=cap*i.size:=by rw [←CI,←h9];simp
   rw [List.length_take,e9];exact Nat.min_eq_left (Nat.mul_le_mul_right _ h7)
 rw [CP]at H6;rw [DG]at CR;simp only [AV.len,AV.int.injEq,true_and]at H6 CR;have Iw:(xs.length+ys.length)*i.bytes≤140737488355328:=by
  rw [←H6,←CR,G0]at Uq;have h9:(((xs.length+ys.length)*i.bytes:Nat):Int)≤140737488355328:=by rw [Int.natCast_mul,Int.natCast_add];exact Uq
  omega
 have EA:xs.length+ys.length≤140737488355328:=by rw [←H6,←CR]at fA;omega
 rw [CI]at F2;obtain⟨v',w',AN,AQ⟩:=sL (P:=P) c.w tx o.type el i z BE hi Gx D0 Cf (fun g9=>g9∈Cr c T∧g9∉N1) v xs.length old hold H8 q ys.length r news F2 (by simp only [maxLen];omega) Iw;have FJ:(execOp a.eval o).run P c.w= .ok (.value v') w':=by simp [execOp,ho,resolve,AF,Ay,Hz,invoke,builtin,hv,DB,AN]
 have TH: ∀b∈N2,b∈Cr c us:=fun b hb=>BY.subset hb;have bY:N2.Nodup:=BY.nodup (List.nodup_append.1 C5).2.1;have TN:(E.app c0 ye).den c.ρ= .sl (xs++ys):=by simp only [E.den,CP,DG,AV.app]
 rcases AQ with⟨rfl,rfl,Es⟩|⟨g9,cap,C,rfl,h1,h2,h3,h4,h5,h6,h7⟩
 ·have Ia:ys= []:=List.eq_nil_of_length_eq_zero Es;subst Ia;refine AB.il h hT hU FJ (Mod.refl _ _) (top:=N) (by rw [hN];exact(List.nodup_append.1 C5).1) (fun b hb=>⟨.inl (by rw [Kp,←hN];simp [hb]),EU b (by rw [Kp,←hN];simp [hb])⟩) ?_;rw [TN,List.append_nil,←CP];exact BI
 ·have QE:(g9∈Cr c T∨c.w.heap.size≤g9)∧g9∉N1∧g9∉N2:=by
   rcases h7 with⟨rfl,_⟩|⟨hg,Cm⟩
   ·refine⟨.inr (Nat.le_refl _),fun hh=> ?_,fun hh=> ?_⟩
    ·have:=EU _ (by rw [Kp];exact Ai.2 (.inl (W0 _ hh)));omega
    ·have:=EU _ (by rw [Kp];exact Ai.2 (.inr (TH _ hh)));omega
   ·exact⟨.inl hg,Cm,fun hh=>(List.nodup_append.1 C5).2.2 _ hg _ (TH _ hh) rfl⟩
  have Bc: ∀b∈N1++N2,w'.heap[b]?=c.w.heap[b]?:=fun b hb=>by
   have Ak:b<c.w.heap.size:=EU b (by
    rw [Kp];rcases Ai.1 hb with hb|hb
    ·exact Ai.2 (.inl (W0 b hb))
    ·exact Ai.2 (.inr (TH b hb)))
   refine h6.block b Ak fun hh=> ?_;cases hh;rcases Ai.1 hb with hb|hb
   ·exact QE.2.1 hb
   ·exact QE.2.2 hb
  refine AB.il h hT hU FJ (zwk h6 fun g hg=> ?_) (top:=g9::(N1++N2)) ?_ (fun b hb=> ?_) ?_
  ·cases hg;rcases QE.1 with hh|hh
   ·exact .inl (by rw [Kp];exact Ai.2 (.inl hh))
   ·exact .inr hh
  ·refine List.nodup_cons.2 ⟨fun hh=> ?_,List.nodup_append.2 ⟨bX,bY,fun p hp q hq=> ?_⟩⟩
   ·rcases Ai.1 hh with hh|hh
    ·exact QE.2.1 hh
    ·exact QE.2.2 hh
   ·exact(List.nodup_append.1 C5).2.2 p (W0 p hp) q (TH q hq)
  ·rcases Ag.1 hb with rfl|hb
   ·refine⟨?_,F7 h3⟩;rcases QE.1 with hh|hh
    ·exact .inl (by rw [Kp];exact Ai.2 (.inl hh))
    ·exact .inr hh
   ·have tF:b∈Cr c (T++us):=by
     rw [Kp];rcases Ai.1 hb with hb|hb
     ·exact Ai.2 (.inl (W0 b hb))
     ·exact Ai.2 (.inr (TH b hb))
    exact⟨.inl tF,Nat.lt_of_lt_of_le (EU b tF) h6.size⟩
  ·rw [TN];have hlen:(xs++ys).length=xs.length+ys.length:=Ap;rw [CI]at d1 d2 IE Ph ⊢;have:=DC.row (w:=w') (e:=el) (z:=i.size) (l:=AZ.of l) (g:=g9) (cap:=cap) (C:=C) (ys:=xs++ys) (N1:=N1++N2) (ts:= []) (vs:= []) (xs:= []) (N:= []) d1 (by rw [AZ.bc];exact d2) h3 (by rw [hlen];exact h1) h2 h4 (fun w hw=> ?_) (by
     rw [hlen,h5];intro u hu;rcases Ai.1 hu with hu|hu
     ·exact C6 u hu
     ·exact eM u hu) (by
     rw [hlen,h5,mY,zEg,AZ.bc];exact(KH.app cY).frame Bc) .nil
   ·rw [hlen]at this;simpa using this
   ·rcases Ai.1 hw with hw|hw
    ·exact IE w hw
    ·exact Ph w hw
end
section
variable {P:Program} {c:Cx} {n nx:Nat} {sl sl0:Nat→SV} {hp hp0:Nat→Option Aj} {a:Act} {o:Oper} {gs:Gd} {e:A7} {sg:B0} {nv:Nat}
theorem zz6 {l:List Nat} (h:MB l=true):l.Nodup:=SD h
theorem zsI (h:Bt P c n nx sl hp a sl0 hp0 o gs) {x y:Operand} {tx ty:TypeId} {cl:Call} (ho:o.op= .call cl) (AF:cl.callee= .builtin .append) (Dz:cl.args.toList= [x,y]) (EN:cl.argTypes.toList= [tx,ty])
  {s1 s2:SV} (BO:BV sl0 gs x=some s1) (A6:BV sl0 gs y=some s2) (he:ZB P hp0 gs nx tx ty s1 s2=some e) (hc: ∀q∈e.ca,Cn.den c.ρ q):AB P o c n nx sl hp gs a e:=by
 have Ay:cl.args= #[x,y]:=by apply Array.ext';simp [Dz]
 have Et:x∈o.op.operands:=by simp [ho,Op.operands,Call.operands,AF,Ay]
 have DF:y∈o.op.operands:=by simp [ho,Op.operands,Call.operands,AF,Ay]
 unfold ZB at he;split at he
 ·cases he
 rename_i Pc;have Pc:tx=ty:=by simpa using Pc
 subst Pc;split at he
 ·rename_i el e' z dl BE DY;have OF:=KX BE;split at he
  ·cases he
  rename_i AJ;simp only [not_or,Bool.not_eq_true',Bool.not_eq_false,Bool.not_eq_true,ne_eq,Decidable.not_not]at AJ;obtain⟨hz,GD,rfl,rfl⟩:=AJ;obtain⟨_,_,l,MY,DI⟩:=aK BE DY;simp only [DT.row.injEq,true_and]at MY;subst MY;rw [AZ.bc]at he;have r1:=h.db BO Et;split at he
  ·rename_i ye us hy Cp;have hU: ∀u∈us,∃g,c.K u g:=(zsm h.eh h.gs Cp (h.db A6 DF) hy).choose_spec.choose_spec.choose_spec.choose_spec.choose_spec.2.2.2.2.2.2.2;have Pe:us.Nodup:=by
    unfold WN at Cp;split at Cp
    ·simp only [Ah]at Cp;subst Cp;simp
    ·simp only [Ah]at Cp;subst Cp;simp
    ·split at Cp
     ·split at Cp
      ·simp only [Ah]at Cp;subst Cp;simp
      ·cases Cp
     ·cases Cp
    ·cases Cp
   have XA:0<P.cellsOf e':=by obtain⟨i,_,_,_,_,h1,h2,_⟩:=L8 hz;omega
   split at he
   ·rename_i t g;split at he
    ·rename_i e2 z2 l2 g2 ep c0 hl;split at he
     ·rename_i hh;obtain⟨rfl,rfl,hb,rfl,Fv⟩:=hh;have hb:=AZ.jn hb;subst hb;simp only [Ah]at he;subst he;obtain⟨q1,q2,q3,q4,q5⟩:=h.eh t _ (Db hl h.gs);generalize hv:a.eval x=v at r1;cases r1 with
      |own k1 k2 _=>rw [k2]at q4;simp only [Bool.not_eq_true',List.contains_eq_mem,decide_eq_false_iff_not]at Fv;exact nC h ho AF Dz EN OF hz DI (T:= [t]) (by simpa using List.nodup_cons.2 ⟨Fv,Pe⟩) (fun u hu=>by simp at hu;subst hu;exact⟨_,k1⟩) A6 hy Cp hv q4 (by simp [Cr]) (hc _ (by simp))
     ·cases he
    ·cases he
   ·simp only [Ah]at he;subst he;generalize hv:a.eval x=v at r1;cases r1 with
    |emp _=>exact nC h ho AF Dz EN OF hz DI (T:= []) (by simpa using Pe) (by simp) A6 hy Cp hv (c0:= .lst .nil) (.void XA (by rw [AZ.bc];exact DI) .nil) rfl (hc _ (by simp))
   ·simp only [Ah]at he;subst he;generalize hv:a.eval x=v at r1;cases r1 with
    |cq _=>exact nC h ho AF Dz EN OF hz DI (T:= []) (by simpa using Pe) (by simp) A6 hy Cp hv (c0:= .lst .nil) (.void XA (by rw [AZ.bc];exact DI) .nil) rfl (hc _ (by simp))
   ·cases he
  ·cases he
 ·cases he
theorem AB.ic (h:Bt P c n nx sl hp a sl0 hp0 o []) {T:List Nat} (hT:T.Nodup) (GZ: ∀u∈T,∃g,c.K u g) {ck:List Cn} {el z:Nat} {l:List DT} (hz:0<z) (hl:l.length=z) {x:E} {xs:List AV} {C:Array Value} {cap:Nat} (hx:x.den c.ρ= .sl xs) (AF: ∀y∈xs,y.cells.length=z) (hle:xs.length≤cap) (JN:cap≤maxLen) (hC:C.size=cap*z)
  (h1: ∀u∈C.toList.take (xs.length*z),u.oneCell'=true) (hD:DC c.w (Dp xs.length l) (C.toList.take (xs.length*z)) (AL xs) (Cr c T))
  (hr:(execOp a.eval o).run P c.w= .ok (.value (.slice (some ⟨c.w.heap.size,0,none⟩) xs.length cap)) (c.w.alloc (.cells C el))):
  AB P o c n nx sl hp [] a {ca:=ck,val:= .own nx 0,bu:=(nx, .deep el z l 0 0 x)::FD T}:=by
 have EU: ∀b∈Cr c T,b<c.w.heap.size:=fun b hb=>by obtain⟨t,_,CK⟩:=Su.1 hb;exact h.rel.gw.inb t b (by simp [GI.own,CK])
 have A1:(c.w.alloc (.cells C el)).heap[c.w.heap.size]?=some (.cells C el (0,0)):=heap_alloc_new c.w _;have Eg:c.w.grownBy (c.w.alloc (.cells C el)) (some c.w.heap.size):=⟨rfl,rfl,rfl,by simp,fun j hj _=>Below.heap_alloc c.w _ _ hj⟩
 refine AB.il h hT GZ hr (zwk Eg fun g hg=> .inr (by cases hg;exact Nat.le_refl _)) (top:=c.w.heap.size::Cr c T) ?_ (fun b hb=> ?_) ?_
 ·exact List.nodup_cons.2 ⟨fun hh=>by have:=EU _ hh;omega,Zn h.rel.gw hT⟩
 ·rcases Ag.1 hb with rfl|hb
  ·exact⟨.inr (Nat.le_refl _),by simp⟩
  ·exact⟨.inl hb,Nat.lt_of_lt_of_le (EU b hb) (by simp)⟩
 ·rw [hx];have:=DC.row (w:=c.w.alloc (.cells C el)) (e:=el) (z:=z) (l:=AZ.of l) (g:=c.w.heap.size) (cap:=cap) (C:=C) (ys:=xs) (N1:=Cr c T) (ts:= []) (vs:= []) (xs:= []) (N:= []) hz (by rw [AZ.bc];exact hl) A1 hle JN hC AF h1 (by
   rw [AZ.bc];exact hD.frame fun b hb=>Below.heap_alloc c.w _ _ (EU b hb)) .nil
  simpa using this
theorem zs9 (h:Bt P c n nx sl hp a sl0 hp0 o gs) {t:TypeId} {m:Nat} {parts:Array (Nat × Operand)} (ho:o.op= .buildSlice t m parts) {ps:List (Nat × SV)} (M5:parts.toList.mapM (fun(p:Nat × Operand)=>(BV sl0 gs p.2).map fun s=>(p.1,s))=some ps) (he:ZZ P hp0 gs nx t m ps=some e) (hc: ∀q∈e.ca,Cn.den c.ρ q):AB P o c n nx sl hp gs a e:=by
 obtain⟨e1,e2⟩:=ZL (c:=c) (a:=a) (parts.toList.map (·.2)) (fun x s hx hm=>h.db hx (by simpa [ho,Op.operands]using hm)) (fun x hx=>List.mem_map.2 ⟨x,hx,rfl⟩) M5;unfold ZZ at he;split at he
 ·rename_i el e' zz dl JR DY;have BE:=KX JR;split at he
  ·cases he
  rename_i AJ;simp only [not_or,Bool.not_eq_true',Bool.not_eq_false',ne_eq,Bool.not_eq_false,Bool.not_eq_true,Nat.not_lt,Decidable.not_not]at AJ;obtain⟨hz,GD,rfl,rfl,Bp,AD,hle,EP⟩:=AJ;obtain⟨_,_,l,MY,DI⟩:=aK JR DY;simp only [DT.row.injEq,true_and]at MY;subst MY;rw [AZ.bc]at he;have AD:Ao P e'=true∨P.cellsOf e'=1:=by simpa using AD
  obtain⟨i,z,hi,Gx,D0,Cf,CI,G0⟩:=L8 hz;split at he
  ·rename_i xs us ck Uw;split at he
   ·rename_i Co;simp only [Ah]at he;subst he;obtain⟨p1,p5,p6,p7,p8⟩:=z6 h.eh h.gs DI AD (ps.map (·.2)) (parts.toList.map fun p=>a.eval p.2) e2 Uw hc;have hlen:(parts.toList.map fun p=>a.eval p.2).length=m:=by
     have:ps.length=m:=by have:=congrArg List.length EP;simpa using this
     have h9:=congrArg List.length e1;simp at h9 ⊢;omega
    have Hw:(parts.map fun(x:Nat × Operand)=>(x.1,a.eval x.2)).toList=((parts.toList.map fun p=>a.eval p.2).zipIdx 0).map fun p=>(p.2,p.1):=by
     have JW:parts.toList.map (·.1)=List.range m:=by rw [←e1,EP]
     apply List.ext_getElem?;intro j;have hj:(parts.toList.map (·.1))[j]?=(List.range m)[j]?:=by rw [JW]
     simp only [Array.toList_map,List.getElem?_map,List.getElem?_zipIdx]at hj ⊢;cases hp:parts.toList[j]? with
     |none=>simp
     |some p=>
      rw [hp]at hj;simp only [Option.map_some,Ah]at hj ⊢;have dV:j<m:=by
       rcases Nat.lt_or_ge j m with hh|hh
       ·exact hh
       ·rw [List.getElem?_eq_none (by simpa using hh)]at hj;cases hj
      rw [List.getElem?_range dV]at hj;simp at hj;simp [hj]
    obtain⟨C',f1,f2⟩:=pF (sz:=i.size) (fun j=>some (j*i.size,i.size)) (fun j=>rfl) (parts.toList.map fun p=>a.eval p.2) 0 ((Array.range (m*i.size)).map (fun j=>(if m*i.size=0 then #[]else z.cells)[j % (if m*i.size=0 then #[]else z.cells).size]!)) [] _ (by simp;rfl) (by simp) (by simp [hlen]) (fun v hv=>by rw [←CI];exact(p5 v hv).1);have Ee:C'.toList.length=m*P.cellsOf e':=by
     rw [f2,CI];simp only [List.nil_append];have: ∀(L:List Value),(∀v∈L,v.cells.size=i.size)→(L.flatMap fun v=>v.cells.toList).length=L.length*i.size:=by
      intro L
      induction L with
      |nil=>intro _;simp
      |cons v L ih=>intro hL;simp only [List.flatMap_cons,Ap,An,Array.length_toList];rw [ih (fun u hu=>hL u (by simp [hu])),hL v (by simp),Nat.add_mul];omega
     rw [this _ (fun v hv=>by rw [←CI];exact(p5 v hv).1),hlen]
    have Kc:(xs.map (E.den c.ρ)).length=m:=by rw [List.length_map,p7,hlen]
    have CO:C'.toList.take ((xs.map (E.den c.ρ)).length*P.cellsOf e')=(parts.toList.map fun p=>a.eval p.2).flatMap fun v=>v.cells.toList:=by rw [Kc,←Ee,List.take_length,f2];simp
    refine AB.ic h (zz6 Co) p8 (by omega) DI (xs:=xs.map (E.den c.ρ)) (C:=C') (cap:=m) (by simp [E.den,EL.dt]) (fun y hy=> ?_) (by omega) (by simp only [maxLen];have:m*1≤m*P.cellsOf e':=Nat.mul_le_mul_left _ (by omega);omega) (by rw [←Array.length_toList,Ee]) ?_ ?_ ?_
    ·obtain⟨q,hq,rfl⟩:=List.mem_map.1 hy;exact p6 q hq
    ·rw [CO];intro u hu;obtain⟨v,hv,hu⟩:=List.mem_flatMap.1 hu;exact(p5 v hv).2 u hu
    ·rw [CO,Kc,←hlen];exact p1
    ·rw [Kc];have AN:=zX (P:=P) BE Bp hi Gx CI m (by rw [←CI];omega) (parts.map fun(x:Nat × Operand)=>(x.1,a.eval x.2)) C' (by rw [Hw];exact f1) c.w;simp only [execOp,ho,Sem.run_bind];rw [AN];rfl
   ·cases he
  ·cases he
 ·cases he
theorem nR {w:World}: ∀{ds:List DT} {ss:List SV} {vs:List Value},Ql ds ss=true→SR c ss vs→ ∀{xs:EL} {m:Nat},CC hp0 gs m ss=some xs→DC w ds vs (xs.den c.ρ) []
 | [], [],vs,_,hs,xs,m,hx=>by
  cases hs;cases m with
  |zero=>simp [CC]at hx
  |succ m=>simp [CC]at hx;subst hx;exact .nil
 | [],_::_,_,h,_,_,_,_=>by simp [Ql]at h
 |_::_, [],_,h,_,_,_,_=>by simp [Ql]at h
 |d::ds,s::ss, [],h,hs,_,_,_=>by have:=hs.len;simp at this
 |d::ds,s::ss,v::vs,h,hs,xs,m,hx=>by
  obtain⟨j,y,ys,rfl,hy,DG,rfl⟩:=KY hx;obtain⟨r1,r2⟩:=hs.cr;simp only [Ql,Ae]at h;have ih:=nR (w:=w) h.2 r2 DG;unfold xI at h;obtain⟨h1,_⟩:=h;split at h1
  ·rename_i y';rw [EL.den,K8 hy];cases r1 with
   |e g1 g2 _=>
    cases y'<;>simp [UZ]at h1
    ·cases g1 with
     |int hk _=>exact .flat (.int hk .nil) ih
    ·cases g1 with
     |bool _=>exact .flat (.bool .nil) ih
    ·rename_i s0;generalize hq:(E.str s0).den c.ρ=q at g1;cases g1 with
     |str hk _=>exact .flat (.str hk .nil) ih
     |_=>simp [E.den]at hq
  ·simp only [Ae,decide_eq_true_eq,beq_iff_eq]at h1;rw [EL.den,Mb hy];cases r1 with
   |cq _=>exact .void h1.1 h1.2 ih
  ·cases h1
theorem DC.rep {w:World} {ds:List DT} {vs:List Value} {xs:List AV} (h:DC w ds vs xs []): ∀k,DC w (Dp k ds) (List.replicate k vs).flatten (List.replicate k xs).flatten []
 |0=>by simpa [Dp]using DC.nil
 |k+1=>by rw [P3,List.replicate_succ,List.flatten_cons,List.replicate_succ,List.flatten_cons];simpa using h.app (DC.rep h k)
theorem zvj (h:Bt P c n nx sl hp a sl0 hp0 o gs) {t:TypeId} {l m:Operand} (ho:o.op= .makeSlice t l m) {s1 s2:SV} (BO:BV sl0 gs l=some s1) (A6:BV sl0 gs m=some s2) (he:aL P hp0 gs nx t s1 s2=some e) (hc: ∀q∈e.ca,Cn.den c.ρ q):AB P o c n nx sl hp gs a e:=by
 have Et:l∈o.op.operands:=by simp [ho,Op.operands]
 have DF:m∈o.op.operands:=by simp [ho,Op.operands]
 unfold aL at he;split at he
 ·rename_i el e' zz dl x y JR DY;have BE:=KX JR;split at he
  ·cases he
  rename_i AJ;simp only [not_or,Bool.not_eq_true',Bool.not_eq_false',ne_eq,Bool.not_eq_false,Bool.not_eq_true,Decidable.not_not]at AJ;obtain⟨hz,GD,rfl,rfl,HB,KI⟩:=AJ;have KI:gs= []:=by simpa using KI
  subst KI;obtain⟨_,_,dl',MY,DI⟩:=aK JR DY;simp only [DT.row.injEq,true_and]at MY;subst MY;rw [AZ.bc]at he;obtain⟨i,z,hi,Gx,D0,Cf,CI,G0⟩:=L8 hz;have r1:=h.db BO Et;have r2:=h.db A6 DF;have ival: ∀{x:E} {kk:IntKind} {k:Int} {v:Value},SR c [.e x] [v]→x.den c.ρ= .int kk k→v= .int kk k:=by
   intro x kk k v hr hx;cases hr with
   |e h1 _ _=>exact(Ha h1 hx).1
  split at he
  ·rename_i s hs;have hs:Fg z=some s:=by simpa [hi,Gx]using hs
   split at he
   ·rename_i XB;obtain⟨w,hw,rfl⟩:=Au.1 he;obtain⟨kk,k,hk,h0,hb,hle⟩:Cn.den c.ρ (.mkroom x (P.bytesOf e')):=B2 hc;have Fc:=ival r1 hk;have DB:=ival r2 (by rw [←E.au c.ρ _ _ HB];exact hk);have uA:DC c.w dl' z.cells.toList (w.den c.ρ).cells []:=by
     have ID:=ZE (c:=c) hs;unfold wV at XB;cases s with
     |agg cs=>
      obtain⟨k9,l9,hm,hl9,rfl⟩:=Wl hw;cases ID with
      |agg h9 h1 h8=>have:=nR (w:=c.w) XB h1 hl9;simpa [Value.cells,AV.cells,E.den]using this
     |cq=>
      have BE:CC hp0 [] (A3+1) [.cq]=some (.cons w .nil):=by unfold CC;rw [hw];rfl
      have:=nR (w:=c.w) XB ID BE;rw [Mb hw]at this ⊢;cases ID with
      |cq _=>simpa [Value.cells,AV.cells,E.den,EL.den]using this
     |_=>cases XB
    obtain⟨c1,c2⟩:=nQ (w:=c.w) (ρ:=c.ρ) hs hw;obtain⟨kn,rfl⟩:=Int.eq_ofNat_of_zero_le h0;have DX:(i.bytes:Int)*(kn:Int)≤281474976710656:=by rw [G0]at hb;rw [Int.mul_comm];omega
    have hlen:=c1.len;have Xk:=Y4 z.cells (by omega) kn;have AN:=run_make (P:=P) c.w t e' i z BE hi Gx kk kk kn kn (by omega) (Int.le_refl _) DX (by omega);have FK:(madeCells z.cells (kn*z.cells.size)).size=kn*P.cellsOf e':=by rw [size_madeCells,D0,CI]
    have CO:(madeCells z.cells (kn*z.cells.size)).toList.take ((List.replicate kn (w.den c.ρ)).length*P.cellsOf e')=(List.replicate kn z.cells.toList).flatten:=by rw [List.length_replicate,List.take_of_length_le (by rw [Array.length_toList,FK];exact Nat.le_refl _),Xk]
    have EB:AL (List.replicate kn (w.den c.ρ))=(List.replicate kn (w.den c.ρ).cells).flatten:=by
     clear AN FK CO Xk hb hle DX hk Fc DB h0 hc
     induction kn with
     |zero=>rfl
     |succ k ih=>simp only [List.replicate_succ,AL,List.flatMap_cons,List.flatten_cons]at ih ⊢;rw [ih]
    refine AB.ic (T:= []) h (by simp) (by simp) (by omega) DI (xs:=List.replicate kn (w.den c.ρ)) (C:=madeCells z.cells (kn*z.cells.size)) (cap:=kn) (by simp [E.den,hk,AV.rep]) (fun u hu=> ?_) (by simp) (by simp only [maxLen];omega) FK ?_ ?_ ?_
    ·rw [List.eq_of_mem_replicate hu,←hlen,Array.length_toList,D0,CI]
    ·rw [CO];intro u hu;obtain⟨q,hq,hu⟩:=List.mem_flatten.1 hu;rw [List.eq_of_mem_replicate hq]at hu;exact c2 u hu
    ·rw [CO,List.length_replicate,EB];exact uA.rep kn
    ·simp only [execOp,ho,Fc,DB,Sem.run_bind,Int.ofNat_eq_natCast,List.length_replicate];rw [AN,D0];rfl
   ·cases he
  ·cases he
 ·cases he
end
section
variable {P:Program} {c:Cx} {n nx:Nat} {sl sl0:Nat→SV} {hp hp0:Nat→Option Aj} {a:Act} {o:Oper} {gs:Gd} {e:A7} {sg:B0} {nv:Nat}
theorem zsf {α:Type} (cs vs:List α) (o:Nat):setVs cs o vs=cs.take o++(vs++cs.drop (o+vs.length)):=by simp [setVs]
theorem DC.setVs {w:World} {ts:List DT} {L V:List Value} {X Y:List AV} {N1 N2 M:List Nat} {p:Nat} (h1:DC w (ts.take p) (L.take p) (X.take p) N1) (h2:DC w (ts.drop (p+V.length)) (L.drop (p+V.length)) (X.drop (p+V.length)) N2) (k:DC w ((ts.drop p).take V.length) V Y M):
  DC w ts (Go.Proofs.YtbmbkgalkfmjdaaGreatDoor.setVs L p V) (Go.Proofs.YtbmbkgalkfmjdaaGreatDoor.setVs X p Y) (N1++(M++N2)):=by
 have hk:=k.len;have ht:ts=ts.take p++((ts.drop p).take V.length++ts.drop (p+V.length)):=by rw [←List.drop_drop,List.take_append_drop,List.take_append_drop]
 rw [zsf,zsf];have hl:Y.length=V.length:=by omega
 rw [hl];have:=h1.app (k.app h2);rw [←ht]at this;exact this
theorem zuf (h:Bt P c n nx sl hp a sl0 hp0 o []) {t:TypeId} {x y:Operand} (ho:o.op= .store t x y) {b g:Nat} {ix:E} {sz k:Nat} {s:SV} (r1:SR c [.c7 b g ix sz k] [a.eval x]) (r2:SR c [s] [a.eval y]) {el:Nat} {l:List DT} {ep:Nat} {c0:E} (hK:c.K b g) (Eu: ∀g',c.K b g'→g'≤g) (hE:c.E b=ep)
  (Bp:DE P t=true) (hle:k+P.cellsOf t≤sz) (FX:Ao P el=true∨(sz=1∧Ao P t=false)) (Er:Ao P t=true∨P.cellsOf t=1)
  {xe:E} {us:List Nat} {ck:List Cn} (Cp:Td P hp0 [] t ((l.drop k).take (P.cellsOf t)) s=some (xe,us,ck)) (JO: ∀q∈ck,q.den c.ρ) (Co:us.Nodup) (hb:b∉us)
  (Ch: ∀(kk:IntKind) (kv:Int),ix.den c.ρ= .int kk kv→ ∃(m cap:Nat) (C:Array Value) (ys:List AV) (N1 N2:List Nat),c.H b g= .slice (some ⟨m,0,none⟩) ys.length cap∧c0.den c.ρ= .sl ys∧0<sz∧l.length=sz∧c.w.heap[m]?=some (.cells C el (0,0))∧ys.length≤cap∧cap≤maxLen∧C.size=cap*sz∧(∀y∈ys,y.cells.length=sz)∧(∀w∈C.toList.take (ys.length*sz),w.oneCell'=true)∧
   (m::(N1++N2)).Nodup∧(∀q∈m::(N1++N2),q∈(c.G b).top)∧DC c.w ((Dp ys.length l).take (kv.toNat*sz+k)) ((C.toList.take (ys.length*sz)).take (kv.toNat*sz+k)) ((AL ys).take (kv.toNat*sz+k)) N1∧
   DC c.w ((Dp ys.length l).drop (kv.toNat*sz+k+P.cellsOf t)) ((C.toList.take (ys.length*sz)).drop (kv.toNat*sz+k+P.cellsOf t)) ((AL ys).drop (kv.toNat*sz+k+P.cellsOf t)) N2):
  AB P o c n nx sl hp [] a {ca:=ck,bu:=(b, .deep el sz l g (ep+1) (.set c0 ix (.put (.idx c0 ix) k xe (Ao P el))))::FD us}:=by
 generalize hv:a.eval x=v at r1;cases r1 with
 |c7 k1 k2 k3 k4 k5 k6=>
  rename_i m0 len cap0 kk kv;obtain⟨m,cap,C,ys,N1,N2,p1,p2,p3,p4,p5,p6,p7,p8,p9,p10,p11,p12,p13,p14⟩:=Ch kk kv k3;rw [k2]at p1;cases p1;have G3:kv.toNat<ys.length:=by omega
  have hmul:(kv.toNat+1)*sz≤ys.length*sz:=Nat.mul_le_mul_right _ (by omega);have GB:ys.length*sz≤cap0*sz:=Nat.mul_le_mul_right _ p6;rw [Nat.add_mul]at hmul;have Ee:C.toList.length=cap0*sz:=by simpa using p8
  obtain⟨q1,q2,q3,q4,q5,q6⟩:=zrt h.eh h.gs (by rw [List.length_take,List.length_drop,p4];omega) Er Cp r2 JO;have GG:=N8 G3;generalize HC:(AV.sl ys).nth kv.toNat=yk at GG;have F5:=p9 yk (List.mem_of_getElem? GG);have Ex:(a.eval y).cells.toList.length=P.cellsOf t:=by simpa using q4
  obtain⟨m1,m2,m3⟩:=Y2 (vs:=(a.eval y).cells.toList) p5 (show(kv.toNat*sz+k)+_≤C.size by rw [Ex,p8];omega);have OR:(C.toList.take (ys.length*sz)).length=ys.length*sz:=by rw [List.length_take,Ee];omega
  have H4:m0∈(c.G b).top:=p12 _ (by simp);have LL: ∀q∈Cr c us,q∉(c.G b).top:=fun q hq hh=>by obtain⟨u,hu,eY⟩:=Su.1 hq;exact h.rel.gw.cz u b (fun hh=>hb (hh▸hu)) q (by simp [GI.own,eY]) (by simp [GI.own,hh])
  have MV: ∀q∈Cr c us,q<c.w.heap.size:=fun q hq=>by obtain⟨u,_,eY⟩:=Su.1 hq;exact h.rel.gw.inb u q (by simp [GI.own,eY])
  have MU: ∀q∈(c.G b).top,q<c.w.heap.size:=fun q hq=>h.rel.gw.inb b q (by simp [GI.own,hq]);have Bc: ∀q,q∈Cr c us∨(q∈N1++N2)→(Dg c.w m0 (kv.toNat*sz+k) (a.eval y).cells.toList).heap[q]?=c.w.heap[q]?:=fun q hq=>by
   refine m1.block q ?_ ?_
   ·rcases hq with hq|hq
    ·exact MV q hq
    ·exact MU q (p12 q (by simp [Ai.1 hq]))
   ·simp only [List.mem_singleton];rintro rfl;rcases hq with hq|hq
    ·exact LL _ hq H4
    ·exact(List.nodup_cons.1 p11).1 hq
  have hz:(yk.dj k (xe.den c.ρ) (Ao P el)).cells=setVs yk.cells k (xe.den c.ρ).cells:=by
   refine oT ?_ (fun hg=> ?_)
   ·cases hg:Ao P el with
    |true=>exact .inr rfl
    |false=>
     left;rcases FX with h'|⟨_,h'⟩
     ·rw [hg]at h';cases h'
     ·rw [h']at q5;exact fun cs=>(q5.1 cs)
   ·rcases FX with h'|⟨h1,h'⟩
    ·rw [hg]at h';cases h'
    ·rw [h']at q5;have OC:P.cellsOf t=1:=by rcases Er with h2|h2;rw [h']at h2;cases h2;exact h2
     refine⟨by omega,by omega, ?_⟩;cases fS:xe.den c.ρ<;>first|rfl|exact absurd fS (q5.1 _)
  have ER:AL (ys.set kv.toNat (yk.dj k (xe.den c.ρ) (Ao P el)))=setVs (AL ys) (kv.toNat*sz+k) (xe.den c.ρ).cells:=
   ZU ys _ _ yk k _ p9 GG (by rw [q3];exact hle) hz
  have Hm:((Dp ys.length l).drop (kv.toNat*sz+k)).take (P.cellsOf t)=(l.drop k).take (P.cellsOf t):=by rw [←p4];exact V1 l _ _ _ _ G3 (by omega)
  have AN:(execOp a.eval o).run P c.w= .ok .skip (Dg c.w m0 (kv.toNat*sz+k) (a.eval y).cells.toList):=by have:=nM (P:=P) (t:=t) (v:=a.eval y) (off:=kv.toNat*sz+k) p5 Bp q4 (by rw [q4,p8];omega) q2;simp [execOp,ho,hv,this]
  refine AB.l7 h Co q6 hb hK Eu hE AN (hs:=(c.G b).top++Cr c us) (fun q hq=>Ai.1 hq) ⟨m1.os,m1.tape,m1.output,m1.size,fun q hq hn=>m1.block q hq fun hh=>hn (by simp only [List.mem_singleton]at hh;subst hh;exact Ai.2 (.inl H4))⟩
   (top:=m0::(N1++(Cr c us++N2))) ?_ (fun q hq=> ?_) ?_
  ·have hnT:=Zn h.rel.gw Co;rw [List.nodup_cons,List.nodup_append]at p11;obtain⟨n1,n2,n3,n4⟩:=p11;have a1: ∀q∈Cr c us,q∉N1∧q∉N2∧q≠m0:=fun q hq=>⟨fun hh=>LL q hq (p12 q (by simp [hh])),fun hh=>LL q hq (p12 q (by simp [hh])),fun hh=>LL q hq (hh▸H4)⟩
   rw [List.nodup_cons,List.nodup_append,List.nodup_append];refine⟨fun hh=> ?_,n2,⟨hnT,n3,fun p hp q hq Xp=>(a1 p hp).2.1 (Xp▸hq)⟩,fun p hp q hq Xp=> ?_⟩
   ·simp only [Ai]at hh n1;rcases hh with hh|hh|hh
    ·exact n1 (.inl hh)
    ·exact(a1 _ hh).2.2 rfl
    ·exact n1 (.inr hh)
   ·rcases Ai.1 hq with hq|hq
    ·exact(a1 q hq).1 (Xp▸hp)
    ·exact n4 p hp q hq Xp
  ·have:q∈(c.G b).top∨q∈Cr c us:=by
    simp only [Ag,Ai]at hq;rcases hq with rfl|hq|hq|hq
    ·exact .inl H4
    ·exact .inl (p12 q (by simp [hq]))
    ·exact .inr hq
    ·exact .inl (p12 q (by simp [hq]))
   refine⟨.inl (Ai.2 this),Nat.lt_of_lt_of_le ?_ m1.size⟩;rcases this with hh|hh
   ·exact MU q hh
   ·exact MV q hh
  ·have Ce:(E.set c0 ix (.put (.idx c0 ix) k xe (Ao P el))).den c.ρ= .sl (ys.set kv.toNat (yk.dj k (xe.den c.ρ) (Ao P el))):=by
    simp only [E.den,p2,k3,AV.idx,HC,AV.da]
   rw [Ce,k2];have DI:(ys.set kv.toNat (yk.dj k (xe.den c.ρ) (Ao P el))).length=ys.length:=List.length_set;have:=DC.row (w:=Dg c.w m0 (kv.toNat*sz+k) (a.eval y).cells.toList) (e:=el) (z:=sz) (l:=AZ.of l) (g:=m0) (cap:=cap0) (ys:=ys.set kv.toNat (yk.dj k (xe.den c.ρ) (Ao P el))) (N1:=N1++(Cr c us++N2)) (ts:= []) (vs:= []) (xs:= []) (N:= []) p3 (by rw [AZ.bc];exact p4) m2 (by rw [DI];exact p6) p7 (by rw [List.size_toArray,SC _ _ _ (by rw [Ex,Ee];omega),Array.length_toList];exact p8) (fun w hw=> ?_) ?_ ?_ .nil
   ·rw [DI]at this;simpa using this
   ·rcases List.mem_or_eq_of_mem_set hw with hw|rfl
    ·exact p9 w hw
    ·rw [hz,SC _ _ _ (by rw [q3,F5];exact hle)];exact F5
   ·simp only [DI,List.toList_toArray];rw [Sq _ _ _ _ (by rw [Ex];omega) (by rw [Ee];omega)];intro u hu;unfold setVs at hu;simp only [Ai]at hu;rcases hu with(hu|hu)|hu
    ·exact p10 u (List.mem_of_mem_take hu)
    ·exact q2 u hu
    ·exact p10 u (List.mem_of_mem_drop hu)
   ·simp only [DI,List.toList_toArray];rw [Sq _ _ _ _ (by rw [Ex];omega) (by rw [Ee];omega),ER,AZ.bc];refine DC.setVs (p13.frame fun q hq=>Bc q (.inr (by simp [hq]))) ?_ ?_
    ·rw [Ex];exact p14.frame fun q hq=>Bc q (.inr (by simp [hq]))
    ·rw [Ex,Hm];exact q1.frame fun q hq=>Bc q (.inl hq)
theorem ztp (h:Bt P c n nx sl hp a sl0 hp0 o gs) {t:TypeId} {x y:Operand} (ho:o.op= .store t x y) {b g:Nat} {ix:E} {sz k:Nat} {s:SV} (BI: ¬ ∃e z g c d,Dy hp0 gs b=some (.row e z g c d)) (hx:BV sl0 gs x=some (.c7 b g ix sz k)) (hy:BV sl0 gs y=some s)
  (he:NX P hp0 gs t (.c7 b g ix sz k) s=some e) (hc: ∀q∈e.ca,Cn.den c.ρ q):AB P o c n nx sl hp gs a e:=by
 have r1:=h.db hx (by simp [ho,Op.operands]);have r2:=h.db hy (by simp [ho,Op.operands]);simp only [NX]at he;split at he
 ·rename_i hl;exact absurd ⟨_,_,_,_,_,hl⟩ BI
 ·rename_i el sz' l g' ep c0 hl;split at he
  ·rename_i hh;obtain⟨rfl,rfl,rfl,Bp,hle,FX,Er⟩:=hh;split at he
   ·rename_i xe us ck Cp;split at he
    ·cases he
    rename_i Fv;simp only [Bool.or_eq_true,Bool.not_eq_true',not_or,Bool.not_eq_false,Bool.not_eq_true,List.contains_eq_mem,decide_eq_false_iff_not]at Fv;simp only [Ah]at he;subst he;obtain⟨e1,e2,e3,e4,e5⟩:=h.eh b _ (Db hl h.gs);refine zuf h ho r1 r2 e1 e2 e3 Bp hle (by simpa using FX) Er Cp hc (SD Fv.1) Fv.2 fun kk kv T9=> ?_;generalize a.eval x=v at r1;cases r1 with
    |c7 k1 k2 k3 k4 k5 _=>
     rw [k3]at T9;cases T9;obtain⟨d1,d2,⟨a9,d3,_⟩|⟨g9,cap9,C,ys,N,d3,d4,d5,d6,d7,d8,d9,d10,d11,d12⟩⟩:=e4.inv
     ·rw [k2]at d3;cases d3;omega
     ·rw [AZ.bc]at d2 d12;obtain⟨N1,N2,N3,rfl,s1,s2,s3⟩:=d12.split (kv.toNat*sz+k) (P.cellsOf t);have Co:=h.rel.gw.nodup b;simp only [GI.own,e5,List.append_nil,d5]at Co;refine⟨g9,cap9,C,ys,N1,N3,d3,d4,d1,d2,d6,d7,d8,d9,d10,d11, ?_,fun q hq=> ?_,s1,s3⟩
      ·refine List.Sublist.nodup (List.Sublist.cons_cons _ ?_) Co;rw [List.append_assoc];exact List.Sublist.append (List.Sublist.refl _) (List.sublist_append_right _ _)
      ·rw [d5];simp only [Ag,Ai]at hq ⊢;rcases hq with hq|hq|hq
       ·exact .inl hq
       ·exact .inr (.inl (.inl hq))
       ·exact .inr (.inr hq)
   ·cases he
  ·cases he
 ·rename_i el sz' l g' ep c0 i' o' u' hl;split at he
  ·rename_i hh;obtain⟨rfl,rfl,rfl,Bp,rfl,hib,hle,OC,Er,FX⟩:=hh;have Er:Ao P t=false:=by simpa using Er
   split at he
   ·rename_i xe us ck Cp;split at he
    ·cases he
    rename_i Fv;simp only [Bool.or_eq_true,Bool.not_eq_true',not_or,Bool.not_eq_false,Bool.not_eq_true,List.contains_eq_mem,decide_eq_false_iff_not]at Fv;simp only [Ah]at he;subst he;obtain⟨e1,e2,e3,⟨m,cap,C,ys,kk,kv,N1,N2,p1,p2,p3,p4,p5,p6,p7,p7',p8,p9,p10,p11,p12,p13,p14,p15,p16,p17,p18⟩,e5⟩:=h.eh b _ (Db hl h.gs);refine zuf h ho r1 r2 e1 e2 e3 Bp (by omega) (FX.imp id fun hh=>⟨hh,Er⟩) (.inr OC) (by rw [OC];exact Cp) hc (SD Fv.1) Fv.2 fun kk' kv' T9=> ?_;rw [E.au c.ρ _ _ hib,p3]at T9;cases T9;have Co:=h.rel.gw.nodup b;simp only [GI.own,e5,List.append_nil,p14]at Co;exact⟨m,cap,C,ys,N1,N2,p1,p2,p7,p7',p8,p9,p10,p11,p12,p13,Co,fun q hq=>by rw [p14];exact hq,p17,by rw [OC];exact p18⟩
   ·cases he
  ·cases he
 ·cases he
end
section
variable {P:Program} {c:Cx} {n nx:Nat} {sl sl0:Nat→SV} {hp hp0:Nat→Option Aj} {a:Act} {o:Oper} {gs:Gd} {e:A7} {sg:B0} {nv:Nat}
theorem zw9 {w:World} {ety sz:Nat} {p:Option Addr} {m r:Nat} {x:AV} {top N:List Nat} (h:Dd w ety sz (.slice p m r) x top N): ∃xs,x= .sl xs∧xs.length=m∧m≤r∧0<sz∧(∀y∈xs,y.cells.length=sz)∧
  ((xs= []∧m=0∧r=0∧top= []∧N= [])∨ ∃g C,p=some ⟨g,0,none⟩∧r≤maxLen∧w.heap[g]?=some (.cells C ety (0,0))∧C.size=r*sz∧top= [g]∧(∀u∈C.toList.take (m*sz),u.oneCell'=true)∧Rd w (C.toList.take (m*sz)) (AL xs) N):=by
 obtain⟨xs,rfl,h2,h3,⟨rfl,⟨a,hv⟩,rfl,rfl⟩|⟨g,cap',C,hv,h6,h7,h8,h9,rfl,Hi,Ep⟩⟩:=h
 ·cases hv;exact⟨[],rfl,rfl,Nat.le_refl _,h3,by simp, .inl ⟨rfl,rfl,rfl,rfl,rfl⟩⟩
 ·cases hv;exact⟨xs,rfl,rfl,h6,h3,h2, .inr ⟨g,C,rfl,h7,h8,h9,rfl,Hi,Ep⟩⟩
theorem zvr (h:Bt P c n nx sl hp a sl0 hp0 o gs) {t:TypeId} {x:Operand} {lo hi mx:Option Operand} (ho:o.op= .slice t x lo hi mx) {s:SV} (hs:BV sl0 gs x=some s) {l' h' m':Option SV} (BG:KB (BV sl0 gs) lo=some l') (MT:KB (BV sl0 gs) hi=some h') (Gz:KB (BV sl0 gs) mx=some m') (he:aD P hp0 gs t s l' h' m'=some e) (hc: ∀q∈e.ca,Cn.den c.ρ q):AB P o c n nx sl hp gs a e:=by
 have hm:x∈o.op.operands:=by simp [ho,Op.operands]
 have OS: ∀y,lo=some y→y∈o.op.operands:=fun y hy=>by simp [ho,Op.operands,hy]
 have LD: ∀y,hi=some y→y∈o.op.operands:=fun y hy=>by simp [ho,Op.operands,hy]
 have hx:=h.db hs hm;have ival: ∀{x:E} {kk:IntKind} {k:Int} {v:Value},SR c [.e x] [v]→x.den c.ρ= .int kk k→v= .int kk k:=by
  intro x kk k v hr hx;cases hr with
  |e h1 _ _=>exact(Ha h1 hx).1
 have ex:(execOp a.eval o).run P c.w=((Instr.sliceAt t (a.eval x) (lo.map a.eval) (hi.map a.eval) (mx.map a.eval)).run P c.w).andThen fun v w=> .ok (.value v) w:=by simp [execOp,ho]
 unfold aD at he;split at he
 ·rename_i el0 b g BE;have hu:=KX BE;split at he
  ·cases he
  rename_i Bp;have Bp:DE P el0=true:=by simpa using Bp
  have OU:mx=none:=by
   rcases Ks Gz with⟨hh,_⟩|⟨_,_,_,_,hh⟩
   ·exact hh
   ·cases hh
  subst OU;split at he
  ·rename_i el z g' c0 d hl;split at he
   ·cases he
   rename_i AJ;simp only [not_or,Decidable.not_not,ne_eq]at AJ;obtain⟨rfl,rfl,rfl⟩:=AJ;obtain⟨q1,q2,N,q3,q4,q5,q6⟩:=h.eh b _ (Db hl h.gs);generalize hv:a.eval x=v at hx ex;cases hx with
   |own k1 k2 k3=>
    rename_i p m r;rw [k2]at q3;obtain⟨xs,CP,Kc,Uf,Cf,AF,Bl⟩:=zw9 q3;split at he
    ·rename_i l;simp only [Ah]at he;subst he;obtain⟨ka,ai,kb,bi,mm,d1,d2,d3,d4,d5,d6⟩:Cn.den c.ρ (.win c0 l (.len c0)):=B2 hc;have OT:mm=(m:Int):=by rw [CP]at d3;simp only [AV.len,AV.int.injEq,true_and]at d3;omega
     obtain⟨an,rfl⟩:=Int.eq_ofNat_of_zero_le d4;obtain⟨ol,Ci,hol⟩: ∃ol,lo=some ol∧BV sl0 [] ol=some (.e l):=by
      rcases Ks BG with⟨_,hh⟩|⟨ol,sl',OL,dJ,dK⟩
      ·cases hh
      ·cases dK;exact⟨ol,OL,dJ⟩
     have OM:hi=none:=by
      rcases Ks MT with⟨hh,_⟩|⟨_,_,_,_,hh⟩
      ·exact hh
      ·cases hh
     subst Ci;subst OM;have eD:=ival (h.db hol (OS _ rfl)) d1;have hle:an≤m:=by omega
     have AN:=lG (P:=P) (w:=c.w) (lo:=(some ol).map a.eval) (hi:=(none:Option Operand).map a.eval) hu Bp p m r an m (.inr ⟨ka,by rw [Option.map_some,eD]⟩) (.inl ⟨rfl,rfl⟩) hle (Nat.le_refl _) Uf;have:=SR.wown (c:=c) (lo:=l) (sz:=P.cellsOf el) (q':=if r=an then p else p.map (·.add (an*P.cellsOf el))) (r:=r-an) k1 k2 d1 d4 (by omega) (fun Ak=>by
      rcases Bl with⟨_,Es,_⟩|⟨g9,C,rfl,_⟩
      ·omega
      ·exact⟨g9,rfl,by rw [if_neg (by omega)];simp [Addr.add_lit],by simp⟩) .nil
     refine AB.pure h (v:=sliced p an m r (P.cellsOf el)) ?_ (by simpa [sliced]using this) rfl;rw [ex];show Result.andThen (Sem.run P (Instr.sliceAt t (.slice p m r) ((some ol).map a.eval) ((none:Option Operand).map a.eval) none) c.w) _=_;rw [AN];rfl
    ·rename_i hb;simp only [Ah]at he;subst he;obtain⟨ka,ai,kb,bi,mm,d1,d2,d3,d4,d5,d6⟩:Cn.den c.ρ (.win c0 (.int .i64 0) hb):=B2 hc;have OT:mm=(m:Int):=by rw [CP]at d3;simp only [AV.len,AV.int.injEq,true_and]at d3;omega
     simp only [E.den,AV.int.injEq]at d1;obtain⟨_,rfl⟩:=d1;obtain⟨bn,rfl⟩:=Int.eq_ofNat_of_zero_le d5;obtain⟨oh,OM,hoh⟩: ∃oh,hi=some oh∧BV sl0 [] oh=some (.e hb):=by
      rcases Ks MT with⟨_,hh⟩|⟨ol,sl',OL,dJ,dK⟩
      ·cases hh
      ·cases dK;exact⟨ol,OL,dJ⟩
     have Ci:lo=none:=by
      rcases Ks BG with⟨hh,_⟩|⟨_,_,_,_,hh⟩
      ·exact hh
      ·cases hh
     subst Ci;subst OM;have eD:=ival (h.db hoh (LD _ rfl)) d2;have hle:bn≤m:=by omega
     have AN:=lG (P:=P) (w:=c.w) (lo:=(none:Option Operand).map a.eval) (hi:=(some oh).map a.eval) hu Bp p m r 0 bn (.inl ⟨rfl,rfl⟩) (.inr ⟨kb,by rw [Option.map_some,eD]⟩) (Nat.zero_le _) hle Uf;have CV:sliced p 0 bn r (P.cellsOf el)= .slice p bn r:=by
      unfold sliced;rcases Bl with⟨_,_,rfl,_⟩|⟨g9,C,rfl,_⟩
      ·simp
      ·split<;>simp [Addr.add_lit]
     rw [CV]at AN;have FJ:(execOp a.eval o).run P c.w= .ok (.value (.slice p bn r)) c.w:=by rw [ex];show Result.andThen (Sem.run P (Instr.sliceAt t (.slice p m r) ((none:Option Operand).map a.eval) ((some oh).map a.eval) none) c.w) _=_;rw [AN];rfl
     have A1: ¬c.K b (g+1):=fun hk=>by have:=q2 _ hk;omega
     have As:=h.rel;have DZ:=As.bg (gs:= []) (t:=b) (g:=g+1) (w':=c.w) (row:=(c.G b).top.head?) (top:=(c.G b).top) (O:=if d=true then(c.G b).O else []) (v:= .slice p bn r) (.inr (by omega)) A1 ⟨rfl,rfl,rfl,Nat.le_refl _,fun _ _ _=>rfl⟩ (fun g0 Ft=> .inl (List.mem_of_mem_head? Ft)) (by
       rcases Bl with⟨_,_,_,ht,_⟩|⟨g9,C,_,_,_,_,ht,_⟩
       ·exact .inl ht
       ·exact .inr ⟨g9,by rw [ht];rfl,ht⟩) (by split;exact .inr rfl;exact .inl rfl)
      (.row el (P.cellsOf el) (g+1) (.win c0 (.int .i64 0) hb) d) (by intros;simp) (Ff _) (fun G4=>by
       have HA:(E.win c0 (.int .i64 0) hb).den c.ρ= .sl (xs.take bn):=by simp only [E.den,CP,d2,AV.win];simp
       obtain⟨N',BH,W4⟩: ∃N',Dd c.w el (P.cellsOf el) (.slice p bn r) (.sl (xs.take bn)) (c.G b).top N'∧ ∀q∈N',q∈N:=by
        rcases Bl with⟨rfl,Es,rfl,ht,rfl⟩|⟨g9,C,rfl,Eu,Xc,hC,ht,h1,DJ⟩
        ·have:bn=0:=by omega
         subst this;exact⟨[],⟨[],by simp,by simp,Cf, .inl ⟨rfl,⟨p,rfl⟩,ht,rfl⟩⟩,by simp⟩
        ·obtain⟨N',bW,C7⟩:=DJ.piece 0 (bn*P.cellsOf el);have G5:(xs.take bn).length=bn:=by rw [List.length_take];omega
         have hmul:bn*P.cellsOf el≤m*P.cellsOf el:=Nat.mul_le_mul_right _ hle;have ef:=pO xs AF 0 bn (Nat.zero_le _) (by omega);simp only [Nat.zero_mul,Nat.sub_zero,List.drop_zero]at ef C7;rw [ef,List.take_take,Nat.min_eq_left hmul]at C7;refine⟨N',⟨xs.take bn,rfl,fun y hy=>AF y (List.mem_of_mem_take hy),Cf, .inr ⟨g9,r,C,by rw [G5],by rw [G5];omega,Eu,Xc,hC,ht, ?_, ?_⟩⟩,bW⟩
         ·rw [G5];intro u hu;refine h1 u ?_;have:C.toList.take (bn*P.cellsOf el)=(C.toList.take (m*P.cellsOf el)).take (bn*P.cellsOf el):=by rw [List.take_take,Nat.min_eq_left hmul]
          rw [this]at hu;exact List.mem_of_mem_take hu
         ·rw [G5];exact C7
       refine⟨.inr ⟨rfl,rfl⟩,fun g'' OI=> ?_,N', ?_,fun q hq=>G4.ok q (BH.n7 q hq) (q4 q (W4 q hq)),fun hd=> ?_,fun hd=>by simp [Cx.bg,hd]⟩
       ·rcases OI with OI|⟨_,rfl⟩
        ·have:=q2 _ OI;omega
        ·exact Nat.le_refl _
       ·have e1:(c.bg b (g+1) c.w (.slice p bn r) (c.G b).top (if d=true then(c.G b).O else [])).H b (g+1)= .slice p bn r:=by simp [Cx.bg]
        have e2:((c.bg b (g+1) c.w (.slice p bn r) (c.G b).top (if d=true then(c.G b).O else [])).G b).top=(c.G b).top:=by simp [Cx.bg]
        rw [e1,e2];show Dd c.w el (P.cellsOf el) _ ((E.win c0 (.int .i64 0) hb).den c.ρ) _ N';rw [HA];exact BH
       ·obtain⟨u1,u2⟩:=q5 hd;have u1:N= []:=u1;subst u1;have Ow:N'= []:=List.eq_nil_iff_forall_not_mem.2 fun q hq=>by simpa using W4 q hq
        subst Ow;exact⟨rfl,by simp only [Cx.bg,if_true,hd];exact u2⟩)
     intro next Q hk
     unfold Oper.wp;rw [FJ,Oper.upon_value];refine hk _ (c.bg b (g+1) c.w (.slice p bn r) (c.G b).top (if d=true then(c.G b).O else [])) ⟨rfl,rfl,rfl,rfl,fun u hu=> ?_⟩ (DZ.put (SR.mkGd (c:=c.bg b (g+1) c.w (.slice p bn r) (c.G b).top (if d=true then(c.G b).O else [])) (s:= .own b (g+1)) (v:= .slice p bn r) (.own (show _∨_ from .inr ⟨rfl,rfl⟩) (by simp [Cx.bg]) .nil) []) o.dst);rcases hu with hu|rfl
     ·exact .inl hu
     ·exact .inl (h.rel.cj _ _ k1)
    ·cases he
  ·cases he
 ·cases he
theorem zto (z:Array Value) (hz:0<z.size) (k:Nat):(Builtin.zeroCells z k).toList=(List.replicate k z.toList).flatten:=by have:=Y4 z hz k;rw [←this];rfl
theorem zzD (h:Bt P c n nx sl hp a sl0 hp0 o gs) {x:Operand} {tx:TypeId} {cl:Call} (ho:o.op= .call cl) (AF:cl.callee= .builtin .clear) (Dz:cl.args.toList= [x]) (EN:cl.argTypes.toList= [tx]) {s:SV} (hs:BV sl0 gs x=some s) (he:qW P hp0 gs tx s=some e) (hc: ∀q∈e.ca,Cn.den c.ρ q):AB P o c n nx sl hp gs a e:=by
 have Ay:cl.args= #[x]:=by apply Array.ext';simp [Dz]
 have Hz:cl.argTypes= #[tx]:=by apply Array.ext';simp [EN]
 have hm:x∈o.op.operands:=by simp [ho,Op.operands,Call.operands,AF,Ay]
 have hx:=h.db hs hm;unfold qW at he;split at he
 ·rename_i el0 b g l z BE;have hu:=KX BE;split at he
  ·rename_i el z' g' c0 d hl;split at he
   ·cases he
   rename_i AJ;simp only [not_or,Bool.not_eq_true',Bool.not_eq_false,Decidable.not_not,ne_eq]at AJ;obtain⟨rfl,rfl,rfl,rfl,hz,AD⟩:=AJ;have AD:Ao P el=true∨P.cellsOf el=1:=by simpa using AD
   obtain⟨i,zv,hi,Gx,D0,Cf,CI,G0⟩:=L8 hz;split at he
   ·rename_i q hq;split at he
    ·rename_i w hw;have hq:Fg zv=some q:=by simpa [hi,Gx]using hq
     simp only [Ah]at he;subst he;obtain⟨c1,c2⟩:=nQ (w:=c.w) (ρ:=c.ρ) hq hw;have AQ:=Mm h.hp (Db hl h.gs);obtain⟨q1,q2,N,q3,q4,q5,q6⟩:=h.rel.ents b _ AQ;generalize hv:a.eval x=v at hx;cases hx with
     |wown k1 k2 k3 k4 k5 k6 k7=>
      rename_i p m r q' r' kk kv;rw [k2]at q3;obtain⟨xs,CP,Kc,Uf,fG,OB,Bl⟩:=zw9 q3;have OD:(E.bin .sub (.len c0) l).den c.ρ≠ .undef:=hc (.dfd (.bin .sub (.len c0) l)) (by simp);have MW:kk= .i64:=by
       simp only [E.den,CP,AV.len,k3,AV.bin]at OD;split at OD
       ·rename_i hh;rcases hh with hh|hh|hh
        ·exact hh.symm
        ·cases hh
        ·cases hh
       ·exact absurd rfl OD
      subst MW;have Ce:(E.bin .sub (.len c0) l).den c.ρ= .int .i64 ((m:Int)-kv):=by
       simp only [E.den,CP,AV.len,k3,AV.bin,true_or,if_true,BT,Kc];congr 1;have hm63:(m:Int)≤9223372036854775807:=by
        rcases Bl with⟨_,h0,_⟩|⟨_,_,_,Eu,_⟩
        ·omega
        ·have:maxLen=9223372036854775807:=rfl;omega
       exact(Qd .i64 _).2 ⟨by simp [IntKind.min,IntKind.signed,IntKind.bits];omega,by simp [IntKind.max,IntKind.signed,IntKind.bits];omega⟩
      have A1:(E.app (.win c0 (.int .i64 0) l) (.rep (.bin .sub (.len c0) l) w)).den c.ρ= .sl (xs.take kv.toNat++List.replicate (m-kv.toNat) (w.den c.ρ)):=by
       have e1:(E.win c0 (.int .i64 0) l).den c.ρ= .sl (xs.take kv.toNat):=by simp only [E.den,CP,k3,AV.win];simp
       have e2:(E.rep (.bin .sub (.len c0) l) w).den c.ρ= .sl (List.replicate (m-kv.toNat) (w.den c.ρ)):=by show AV.rep ((E.bin .sub (.len c0) l).den c.ρ) (w.den c.ρ)=_;rw [Ce];simp only [AV.rep];congr 2;omega
       show AV.app _ _=_;rw [e1,e2];rfl
      have ex:(execOp a.eval o).run P c.w=((Builtin.clear_ #[tx] o.type #[.slice q' (m-kv.toNat) r']).run P c.w).andThen fun v w=> .ok (.value v) w:=by simp [execOp,ho,resolve,AF,Ay,Hz,invoke,builtin,hv]
      rcases Nat.eq_or_lt_of_le (show kv.toNat≤m by omega)with heq|Ak
      ·
       have BY:m-kv.toNat=0:=by omega
       have AN:(execOp a.eval o).run P c.w= .ok (.value (.tuple #[])) c.w:=by rw [ex,BY];cases q'<;>simp [Builtin.clear_,run_underlying hu]
       have Bc:(E.app (.win c0 (.int .i64 0) l) (.rep (.bin .sub (.len c0) l) w)).den c.ρ=c0.den c.ρ:=by rw [A1,CP,BY];simp [List.take_of_length_le (show xs.length≤kv.toNat by omega)]
       intro next Q hk
       unfold Oper.wp;rw [AN,Oper.upon_value];have DZ:Rel c n sl (Bd hp [(b, .row el (P.cellsOf el) g (.app (.win c0 (.int .i64 0) l) (.rep (.bin .sub (.len c0) l) w)) d)]) a:=by
        have Dv: ∀u,Bd hp [(b, .row el (P.cellsOf el) g (.app (.win c0 (.int .i64 0) l) (.rep (.bin .sub (.len c0) l) w)) d)] u=if u=b then some (.row el (P.cellsOf el) g (.app (.win c0 (.int .i64 0) l) (.rep (.bin .sub (.len c0) l) w)) d)else hp u:=fun u=>rfl;refine h.rel.change (fun u=>u=b) (DV.refl c) h.rel.base (fun u hu=>⟨by rw [Dv,if_neg hu],rfl,rfl,fun _ hk=>hk⟩) (fun _ _ _ _=>rfl) (fun u hu=> ?_) h.rel.gw h.rel.cj (fun u f hf=> ?_)
        ·subst hu;rw [Dv,if_pos rfl];refine⟨fun e' hr=> ?_,fun hn=>absurd rfl (hn _)⟩;simp only [CD]at hr;subst hr;exact⟨q1,q2,N,by rw [Bc,k2];exact q3,q4,q5,q6⟩
        ·rw [Dv]at hf;split at hf
         ·rename_i hu;subst hu;exact h.rel.cj _ _ k1
         ·exact h.rel.c6 u f hf
       exact hk _ c (Nv.refl _ _) (DZ.put ((SR.undef .nil).mkGd []) o.dst)
      ·obtain⟨b9,tP,rfl,rfl⟩:=k6 (by omega);rcases Bl with⟨_,h0,_⟩|⟨g9,C,hp',Eu,Xc,hC,ht,h1,DJ⟩
       ·omega
       rw [tP]at hp';cases hp';have Ee:C.toList.length=r*P.cellsOf el:=by simpa using hC
       have tN:m*P.cellsOf el≤r*P.cellsOf el:=Nat.mul_le_mul_right _ Uf;have tM:(m-kv.toNat)*P.cellsOf el+kv.toNat*P.cellsOf el=m*P.cellsOf el:=by rw [←Nat.add_mul];congr 1;omega
       have fX:=zto zv.cells (by omega) (m-kv.toNat);generalize hZ:(List.replicate (m-kv.toNat) zv.cells.toList).flatten=Z at fX;have Ox:Z.length=(m-kv.toNat)*P.cellsOf el:=by rw [←hZ,List.length_flatten];simp only [List.map_replicate,List.sum_replicate_nat,Array.length_toList,D0,CI]
       have tE: ∀u∈Z,u.oneCell'=true:=fun u hu=>by rw [←hZ]at hu;obtain⟨L,hL,hu⟩:=List.mem_flatten.1 hu;rw [List.eq_of_mem_replicate hL]at hu;exact c2 u hu
       have F1:=mW (P:=P) (off:=kv.toNat*P.cellsOf el) Z 0 c.w C Xc (by rw [Ox,hC];omega) tE;have AN:(execOp a.eval o).run P c.w= .ok (.value (.tuple #[])) (Dg c.w b9 (kv.toNat*P.cellsOf el) Z):=by
        rw [ex];obtain⟨mm,OT⟩: ∃mm,m-kv.toNat=mm+1:=⟨m-kv.toNat-1,by omega⟩
        have hzv:(zeroValue el).run P c.w= .ok zv c.w:=by simp [zeroValue,typeInfo,hi,Gx]
        simp only [Nat.add_zero]at F1;rw [OT]at fX ⊢;simp [Builtin.clear_,run_underlying hu,hzv,fX,F1]
       obtain⟨m1,m2,m3⟩:=Y2 (off:=kv.toNat*P.cellsOf el) (vs:=Z) Xc (by rw [Ox,hC];omega);have OR:(C.toList.take (m*P.cellsOf el)).length=m*P.cellsOf el:=by rw [List.length_take,Ee];omega
       have Ni:b9∈(c.G b).top:=by rw [ht];simp
       have TL:Rd c.w Z (AL (List.replicate (m-kv.toNat) (w.den c.ρ))) []:=by rw [←hZ];exact gE c1 _
       obtain⟨n1,n2,n3,hN,s1,s2⟩:=Rd.setVs (p:=kv.toNat*P.cellsOf el) DJ TL (by rw [OR,Ox];omega);have Nd:(w.den c.ρ).cells.length=P.cellsOf el:=by have:=c1.len;rw [←this];simp [D0,CI]
       have hYl:(AL (List.replicate (m-kv.toNat) (w.den c.ρ))).length=Z.length:=by rw [←TL.len]
       have EB:setVs (AL xs) (kv.toNat*P.cellsOf el) (AL (List.replicate (m-kv.toNat) (w.den c.ρ)))=AL (xs.take kv.toNat++List.replicate (m-kv.toNat) (w.den c.ρ)):=by
        have ef:=pO xs OB 0 kv.toNat (Nat.zero_le _) (by omega)
        simp only [Nat.zero_mul,Nat.sub_zero,List.drop_zero]at ef;unfold setVs;rw [ef,mY,hYl,Ox,List.drop_eq_nil_of_le (by rw [NU _ OB,Kc];omega),List.append_nil]
       rw [EB]at s1;have Ch: ∀q∈n1++ []++n3,q∈N:=fun q hq=>by rw [hN];simp at hq ⊢;rcases hq with hq|hq<;>simp [hq]
       have F0: ∀q,q<c.w.heap.size→c.ok q→(Dg c.w b9 (kv.toNat*P.cellsOf el) Z).heap[q]?=c.w.heap[q]?:=by intro q hq Aw;refine m1.block q hq ?_;simp only [List.mem_singleton];rintro rfl;exact Aw.1 ⟨b,Ni⟩
       have DI:(xs.take kv.toNat++List.replicate (m-kv.toNat) (w.den c.ρ)).length=m:=by rw [Ap,List.length_take,List.length_replicate];omega
       have DZ:=h.rel.k8 (t:=b) (b:=b9) (w':=Dg c.w b9 (kv.toNat*P.cellsOf el) Z) (O:=if d=true then(c.G b).O else []) AQ Ni (by split;exact .inr rfl;exact .inl rfl) m1 m3
        (.row el (P.cellsOf el) g (.app (.win c0 (.int .i64 0) l) (.rep (.bin .sub (.len c0) l) w)) d) (by intros;simp) (fun G4=>by
         refine⟨q1,q2,n1++ []++n3, ?_,fun q hq=>G4.ok q (DJ.inb q (Ch q hq)) (q4 q (Ch q hq)),fun hd=> ?_,fun hd=>by simp [Cx.gz,hd]⟩
         ·show Dd (Dg c.w b9 (kv.toNat*P.cellsOf el) Z) el (P.cellsOf el) (c.H b g) ((E.app (.win c0 (.int .i64 0) l) (.rep (.bin .sub (.len c0) l) w)).den c.ρ) _ _;rw [A1,k2,tP];refine⟨_,rfl,fun y hy=> ?_,fG, .inr ⟨b9,r,_,by rw [DI],by rw [DI];exact Uf,Eu,m2, ?_,by simpa [Cx.gz]using ht, ?_, ?_⟩⟩
          ·rcases Ai.1 hy with hy|hy
           ·exact OB y (List.mem_of_mem_take hy)
           ·rw [List.eq_of_mem_replicate hy];exact Nd
          ·rw [List.size_toArray,SC _ _ _ (by rw [Ox,Ee];omega),Array.length_toList];exact hC
          ·simp only [DI,List.toList_toArray];rw [Sq _ _ _ _ (by rw [Ox];omega) (by rw [Ee];omega)];intro u hu;unfold setVs at hu;simp only [Ai]at hu;rcases hu with(hu|hu)|hu
           ·exact h1 u (List.mem_of_mem_take hu)
           ·exact tE u hu
           ·exact h1 u (List.mem_of_mem_drop hu)
          ·simp only [DI,List.toList_toArray];rw [Sq _ _ _ _ (by rw [Ox];omega) (by rw [Ee];omega)];exact s1.frame fun q hq=>F0 q (DJ.inb q (Ch q hq)) (q4 q (Ch q hq))
         ·obtain⟨u1,u2⟩:=q5 hd;have u1:N= []:=u1;subst u1;have Ow:n1++ []++n3= []:=List.eq_nil_iff_forall_not_mem.2 fun q hq=>by simpa using Ch q hq
          rw [Ow];exact⟨rfl,by simp only [Cx.gz,if_true,hd];exact u2⟩)
       intro next Q hk
       unfold Oper.wp;rw [AN,Oper.upon_value];exact hk _ (c.gz _ b _) ⟨rfl,rfl,rfl,rfl,fun t ht=> .inl ht⟩ (DZ.put ((SR.undef .nil).mkGd []) o.dst)
    ·cases he
   ·cases he
  ·cases he
 ·cases he
end
section
variable {P:Program} {c:Cx} {n nx:Nat} {sl sl0:Nat→SV} {hp hp0:Nat→Option Aj} {a:Act} {o:Oper} {gs:Gd} {e:A7} {sg:B0} {nv:Nat}
theorem rU {w:World}: ∀(vs:List Value) {xs:List AV} {f:List Nat} (ts:List TypeId),Rd w vs xs f→ts.length≤vs.length→DP P w ts [] [] vs xs f [] []
 | [],xs,f,ts,h,hl=>by have:ts= []:=List.eq_nil_of_length_eq_zero (by simpa using hl);subst this;cases h;exact .nil
 |v::vs, [],f,ts,h,hl=>by have:=h.len;simp at this
 |v::vs,x::xs,f,ts,h,hl=>by
  obtain⟨f1,f2,rfl,h1,h2⟩:=h.cr;cases ts with
  |nil=>exact .free h1 (rU vs [] h2 (by simp))
  |cons t ts=>exact DP.cons (h:= []) ⟨h1,rfl⟩ (rU vs ts h2 (by simpa using hl))
theorem zFv (l:EL):EL.of (SY.go l)=l:=by
 induction l using EL.rec (motive_1:=fun _=>True)with
 |nil=>rfl
 |cons e es _ ih=>simp [SY.go,EL.of,ih]
 |_=>trivial
theorem zDB {w:World} {ts:List TypeId} {vs:List Value} {Bs:List AV} {f o:List Nat} (h:D5 P w ts [] vs Bs f o):Bs= []:=by
 have key: ∀(ts:List TypeId),BM ts []=false:=by
  intro ts
  induction ts with
  |nil=>rfl
  |cons t ts ih=>simp only [BM,List.headD_nil,Bool.false_or,List.tail_nil];exact ih
 exact(nW h).2 (key ts)
theorem zBN (t:TypeId):Hd P t []=false:=by simp [Hd]
theorem zqn (h:Bt P c n nx sl hp a sl0 hp0 o gs) {cl:Call} {fo:Operand} (ho:o.op= .call cl) (AF:cl.callee= .value fo) {y:E} {sf:SV} (hf:BV sl0 gs fo=some sf) (hsf: ∀v,SR c [sf] [v]→ ∃f,Rd c.w [v] [y.den c.ρ] f) {as_:List SV} (has:cl.args.toList.mapM (BV sl0 gs)=some as_) {t:TypeId}
  (he:SY P hp0 gs nv t y as_=some e) (Be: ∀c',e.call=some c'→ ∃r,c.ρ[nv]?=some r∧IT (Cw P sg) c'.fn ((EL.of c'.args).den c.ρ) c.ρ r):AB P o c n nx sl hp gs a e:=by
 have eH:fo∈o.op.operands:=by simp [ho,Op.operands,Call.operands,AF]
 have eF: ∀x∈cl.args.toList,x∈o.op.operands:=fun x hx=>by
  have:x∈cl.args:=by simpa using hx
  simp [ho,Op.operands,Call.operands,AF,this]
 have M7:=h.db hf eH;have Ay:=zwY (a:=a) (fun x hx s hs=>h.db hs (eF x hx)) has;unfold SY at he;split at he
 ·cases he
 split at he
 ·cases he
 rename_i es Iz;simp only [Ah]at he;subst he;obtain⟨r,hr,g,caps,hy,IB,Fx⟩:=Be _ rfl;rw [zFv]at IB;obtain⟨f1,p1,p2⟩:=SM h.eh h.gs A3 Iz Ay A3 (Nat.le_refl _);generalize dF:a.eval fo=fv at M7;obtain⟨_,k1⟩:=hsf _ M7;obtain⟨capv,f2,rfl,cU⟩: ∃capv f2,fv= .func (.func g) #[] capv.toArray∧Rd c.w capv caps f2:=by
  rw [hy]at k1;cases k1 with
  |fn q1 _=>exact⟨_,_,rfl,q1⟩
 have O7:Tw P {cx:= [],res:= []} g (es.den c.ρ++caps) r:=by unfold Cw at IB;rw [if_neg (by omega)]at IB;simpa using IB
 obtain⟨fn,Hp,Ef,Ds,_,hlen,_,FZ⟩:=O7;have DJ:=p1.app cU;have Ex:=DJ.len;have Be:=FZ c.w _ _ [] [] (rU _ (fn.params.toList++ []) DJ (by rw [Ex,hlen,List.append_nil,Array.length_toList];omega)) (by simp) (by simp) (by simp) (h.rel.oi (by simp));have ex:(execOp a.eval o).run P c.w= .ok (.enter g (cl.args.map a.eval++capv.toArray)) c.w:=by
  have hb:fn.body.isNone=false:=by simpa using Ef
  simp only [execOp,ho,resolve,AF,dF,Deferred.ofValue,Sem.run_bind,Sem.run_pure,Result.andThen_ok,invoke,callFunc,run_program,Hp];simp [Ds,hb]
 intro next Q hk
 unfold Oper.wp;rw [ex,Oper.upon_enter];have Oy:cl.args.map a.eval++capv.toArray=((cl.args.toList.map a.eval)++capv).toArray:=by apply Array.ext';simp
 rw [Oy];refine Be.mono ?_;rintro e' w' ⟨v,rfl,⟨R,Bs,f1',o1,f2',o2,LG,AQ,FF,Hu,Un,T1⟩,DA⟩;show next (a.put o.dst v) w'
 have Ov:=zDB FF;subst Ov;simp only at LG;subst LG;have hv:Rd w' [v] [r] []:=by
  unfold KQ at AQ;split at AQ
  ·rename_i t' ht;unfold E6 at AQ;rw [if_neg (by rw [zBN];simp)]at AQ;have:=zpf AQ.1 Fx;subst this;exact AQ.1
  ·obtain⟨vs,ys,_,rfl,_⟩:=AQ;have:=Fx (.tup ys) (by simp [AV.cells]);simp [AV.scalar]at this
 obtain⟨FH,_⟩:=h.rel.changes (w':=w') (recs:= []) (hs:= []) (gs:=gs) h.gs DA (by simp) (by simp) (by simp) (by simp) (by simp) (by simp) (by simp);refine hk _ (c.dz w' []) ⟨rfl,rfl,rfl,rfl,fun t ht=> ?_⟩ (FH.put (SR.mkGd (.e (f:= []) ?_ (by simp) .nil) gs h.gs) o.dst)
 ·rcases ht with ht|⟨r,hr,_⟩
  ·exact .inl ht
  ·simp at hr
 ·show Rd w' [v] [(E.var nv).den c.ρ] [];simp only [E.den,hr,Option.getD_some];exact hv
theorem gV (J6: ∀f s,sg f=some s→f<1000000) (h:Bt P c n nx sl hp a sl0 hp0 o gs) (he:BL P sg sl0 hp0 nv nx gs o=some e)
  (hc: ∀q∈e.ca,q.den c.ρ) (Be: ∀cl,e.call=some cl→ ∃r,c.ρ[nv]?=some r∧IT (Cw P sg) cl.fn ((EL.of cl.args).den c.ρ) c.ρ r) (CU: ∀x,e.cm=some x→c.ρ[nv]?=some (.bool (Lc a o))):AB P o c n nx sl hp gs a e:=by
 have Lw:=he;cases AS:o.op with
 |move x=>simp only [BL,AS,Au]at he;obtain⟨s,hs,rfl⟩:=he;exact zvU h (.inl AS) hs
 |assign x=>simp only [BL,AS,Au]at he;obtain⟨s,hs,rfl⟩:=he;exact zvU h (.inr AS) hs
 |pick x y z=>exact zA1 h AS he hc
 |alloc t=>exact zzS h AS he hc
 |box t x=>exact zD4 h AS he hc
 |build t parts=>exact zzF h AS he hc
 |buildSlice t m parts=>
  simp only [BL,AS,Av]at he;obtain⟨ps,M5,he⟩:=he;split at he
  ·exact zs9 h AS M5 he hc
  ·exact zq0 h AS M5 he hc
 |load t x=>exact zB0 h AS he hc
 |nilCheck x=>exact zuG h AS he hc
 |makeSlice t l m=>
  simp only [BL,AS,Av]at he;obtain⟨s1,BO,s2,A6,he⟩:=he;split at he
  ·exact zvj h AS BO A6 he hc
  ·exact zz8 h AS BO A6 he hc
 |slice t x lo hi mx=>
  simp only [BL,AS,Av]at he;obtain⟨s,hs,l',BG,h',MT,m',Gz,he⟩:=he;split at he
  ·exact zvr h AS hs BG MT Gz he hc
  ·exact zyb h AS hs BG MT Gz he hc
 |fieldAddr t x f=>exact ztc h AS he hc
 |field t x f=>exact zAi h AS he hc
 |extract x i=>exact zwH h AS he hc
 |store t x y=>
  simp only [BL,AS,Av]at he;obtain⟨p,hp',v,hv,he⟩:=he;cases p with
  |cu b k=>exact zu9 h AS hp' hv he hc
  |c7 b g i sz k=>
   by_cases BI: ∃e z g c d,Dy hp0 gs b=some (.row e z g c d)
   ·exact zuH h AS BI hp' hv he hc
   ·exact ztp h AS BI hp' hv he hc
  |_=>simp [NX]at he
 |binOp op t x y ty=>
  cases hu:P.underlying t with
  |none=>simp only [BL,AS,Av]at he;obtain⟨_,_,_,_,he⟩:=he;simp [Tf,hu]at he
  |some d=>
   by_cases Uv: ∃fs,d= .struct fs
   ·obtain⟨fs,rfl⟩:=Uv;exact zDU h AS hu he hc
   ·have M3: ∀fs,P.underlying t≠some (.struct fs):=fun fs hh=>Uv ⟨fs,by rw [hu]at hh;cases hh;rfl⟩;cases hq:e.cm with
    |none=>exact zDl h AS M3 he hq hc
    |some x'=>
     have GH:=CU x' hq;simp only [BL,AS,Av]at he;obtain⟨s1,BO,s2,A6,he⟩:=he;have r1:=h.db BO (by simp [AS,Op.operands]);have r2:=h.db A6 (by simp [AS,Op.operands]);unfold Tf at he;split at he
     ·rename_i el F4;have CV: ∀xq,Br hp0 gs A3 s1=some xq→Cn.den c.ρ (.dfd (.len xq))→ ∃p q r,a.eval x= .slice p q r:=by
       intro xq Kd hd;obtain⟨f,q1,_⟩:=h.lr BO (by simp [AS,Op.operands]) Kd;have hd:(xq.den c.ρ).len≠ .undef:=hd;cases Bz:xq.den c.ρ<;>simp only [Bz,AV.len,ne_eq,not_true_eq_false]at hd;rename_i xs;have hl:(xq.den c.ρ).len= .int .i64 (xs.length:Int):=by rw [Bz];rfl
       rcases SL q1 hl with⟨p,q,hv,Es⟩|⟨b,o',k,q,hv,Es⟩
       ·exact⟨_,_,_,hv⟩
       ·exact⟨_,_,_,hv⟩
      split at he
      ·simp at he;subst he;cases hq
      ·simp at he;subst he;cases hq
      ·obtain⟨xq,Kd,rfl⟩:=Au.1 he;obtain⟨p,q,r,hv⟩:=CV xq Kd (hc _ (by simp));exact zw0 h AS F4 hv r2 (.inl rfl) GH _
      ·obtain⟨xq,Kd,rfl⟩:=Au.1 he;obtain⟨p,q,r,hv⟩:=CV xq Kd (hc _ (by simp));exact zw0 h AS F4 hv r2 (.inr rfl) GH _
      ·cases he
     ·split at he
      ·simp at he;subst he;cases hq
      ·cases he
     ·split at he
      ·simp at he;subst he;cases hq
      ·cases he
     ·split at he
      ·simp at he;subst he;cases hq
      ·cases he
     ·rename_i fs F4;exact absurd F4 (M3 fs)
     ·cases he
 |unOp u t x=>
  cases u with
  |not=>exact zDZ h AS he hc
  |neg=>exact zD7 h AS he hc
  |_=>simp [BL,AS]at he
 |convert src dst x=>
  have MN:=he;simp only [BL,AS,Av]at MN;obtain⟨s,_,MN⟩:=MN;unfold Wv at MN;split at MN
  ·rename_i k0 k h1 h2;exact zwq h AS h1 h2 he hc
  ·rename_i h1 h2;exact zvW h AS h1 h2 he hc
  ·rename_i el h1 h2;exact zuV h AS h1 h2 he hc
  ·cases MN
 |makeFunc fr fst caps=>
  cases fr with
  |func f=>exact zu5 h AS he
  |_=>simp [BL,AS]at he
 |indexAddr t x i=>refine ztj h AS (fun hu=> ?_) he hc;simp only [BL,AS,Av]at he;obtain⟨_,_,_,_,he⟩:=he;simp [XV,hu]at he
 |index t x i=>
  refine zwo h AS ?_ he hc;simp only [BL,AS,Av]at he;obtain⟨_,_,_,_,he⟩:=he;split at he
  ·rename_i AW;unfold XV at AW;split at AW
   ·assumption
   ·cases AW
  ·cases he
 |call cl=>
  simp only [BL,AS]at he;cases AF:cl.callee with
  |invoke r m=>rw [AF]at he;simp at he
  |value f=>
   rw [AF]at he;simp only [Av]at he;obtain⟨s,hs,as_,has,he⟩:=he;cases s with
   |fn g caps=>
    have he:WE P sg hp0 gs nv nx g (as_++caps.toList)=some e:=he;refine zBW h AS AF hs has ?_ he Be;unfold WE at he;split at he
    ·rename_i fn sg' Hp hh;exact J6 g sg' hh
    ·cases he
   |e y=>exact zqn h AS AF hs (fun v hv=>by cases hv with|e k1 _ _=>exact⟨_,k1⟩) has he Be
   |lent i=>exact zqn h AS AF hs (fun v hv=>by
     cases hv with
     |lent g1 _=>obtain⟨f,p1,p2⟩:=h.rel.base.lo _ _ g1;exact⟨f,p1.frame fun b hb=>h.rel.base.block b (p1.inb b hb) (p2 b hb)⟩) has he Be
   |_=>simp at he
  |builtin b=>
   rw [AF]at he;cases b with
   |len=>
    simp only at he;split at he
    ·rename_i x tx Dz EN;exact zDE h AS AF Dz EN Lw hc
    ·cases he
   |append=>
    simp only at he;split at he
    ·rename_i x y tx ty Dz EN;simp only [Av]at he;obtain⟨s1,BO,s2,A6,he⟩:=he;split at he
     ·exact zsI h AS AF Dz EN BO A6 he hc
     ·exact zvD h AS AF Dz EN BO A6 he hc
    ·cases he
   |clear=>
    simp only at he;split at he
    ·rename_i x tx Dz EN;simp only [Av]at he;obtain⟨s,hs,he⟩:=he;exact zzD h AS AF Dz EN hs he hc
    ·cases he
   |max=>
    simp only at he;split at he
    ·rename_i x y Dz;simp only [Av]at he;obtain⟨s1,BO,s2,A6,he⟩:=he;exact zrC h AS (.inl ⟨rfl,AF⟩) Dz BO A6 he hc
    ·cases he
   |min=>
    simp only at he;split at he
    ·rename_i x y Dz;simp only [Av]at he;obtain⟨s1,BO,s2,A6,he⟩:=he;exact zrC h AS (.inr ⟨rfl,AF⟩) Dz BO A6 he hc
    ·cases he
   |_=>simp at he
 |_=>simp [BL,AS]at he
end
section
variable {P:Program} {c:Cx} {n nx:Nat} {sl sl0:Nat→SV} {hp hp0:Nat→Option Aj} {a:Act} {o:Oper} {gs:Gd} {e:A7} {sg:B0} {nv:Nat}
theorem Rel.km (h:Rel c n sl hp a) {sl':Nat→SV} (hs: ∀i,sl' i=sl i∨SR c [sl' i] [a.tmps.getD i undef]):Rel c n sl' hp a:=
 ⟨h.defers,h.size,h.base,fun i=>by
  rcases hs i with hh|hh
  ·rw [hh];exact h.de i
  ·exact hh,h.ents,h.off,h.gw,h.cj,h.c6⟩
theorem VT {u:Nat}: ∀{l:List Operand} {t T v m:Nat} {p:E × Nat × Nat} {s:SV},Mo sl0 u l=some (t,T,v,m,p,s)→Operand.tmp t∈l∧((∃y,sl0 t= .via T v m (some p) y∧s= .own u 0)∨ ∃y k z q,sl0 t= .vptr T v m (some p) y k z q∧s= .c7 u 0 k z q)
 | [],_,_,_,_,_,_,h=>by simp [Mo]at h
 |x::l,t,T,v,m,p,s,h=>by
  cases x with
  |tmp i=>
   simp only [Mo]at h;split at h
   ·rename_i hs;simp only [Ah,Prod.mk.injEq]at h;obtain⟨rfl,rfl,rfl,rfl,rfl,rfl⟩:=h;exact⟨by simp, .inl ⟨_,hs,rfl⟩⟩
   ·rename_i hs;simp only [Ah,Prod.mk.injEq]at h;obtain⟨rfl,rfl,rfl,rfl,rfl,rfl⟩:=h;exact⟨by simp, .inr ⟨_,_,_,_,hs,rfl⟩⟩
   ·obtain⟨h1,h2⟩:=VT h;exact⟨by simp [h1],h2⟩
  |const v9=>simp only [Mo]at h;obtain⟨h1,h2⟩:=VT h;exact⟨by simp [h1],h2⟩
  |func f=>simp only [Mo]at h;obtain⟨h1,h2⟩:=VT h;exact⟨by simp [h1],h2⟩
  |global g=>simp only [Mo]at h;obtain⟨h1,h2⟩:=VT h;exact⟨by simp [h1],h2⟩
theorem Rel.split (h:Rel c n sl hp a) {T v m u:Nat} {p:E × Nat × Nat} {hl inn:Aj} (hs:Wy hp0 T v m u p=some (hl,inn)) (BY: ∀t e,hp0 t=some e→hp t=some e) (hu: ¬c.U u) {vv:Value} (J3:c.E T=m→I0 c T v (some p) vv):
  ∃recs c1,c1=c.dz c.w recs∧Rel c1 n sl (Bd hp [(T,hl),(u,inn)]) a∧DV c c1∧c1.K u 0∧c1.H u 0=vv∧(∃q n r,vv= .slice q n r∧(q=none∨n=0∨ ∃g,q=some ⟨g,0,none⟩))∧(∀t,c1.U t→c.U t∨t=u)∧c.K T v∧c.E T=m∧c1.E T=m+1∧T≠u:=by
 have eh:EH c hp0:=fun t e hr=>h.ents t e (Mm BY hr);obtain⟨pi,z,po⟩:=p;unfold Wy at hs;split at hs
 ·rename_i e z0 l g ep c0 hlk;split at hs
  ·rename_i AJ;obtain⟨rfl,rfl,tR⟩:=AJ;simp only at tR;subst tR;split at hs
   ·rename_i e2 z2 l2 Ci;simp only [Ah,Prod.mk.injEq]at hs;obtain⟨rfl,rfl⟩:=hs;simp only at Ci;obtain⟨q1,q2,q3,q4,q5⟩:=eh T _ (Db hlk (Ff _));obtain⟨b,n9,cap,C,ty,fz,kk,k,p1,p2,p3,p4,p5,p6,p7⟩:=J3 q3;obtain⟨d1,d2,⟨a9,d3,_⟩|⟨g9,cap9,C9,ys,N,d3,d4,d5,d6,d7,d8,d9,d10,d11,d12⟩⟩:=q4.inv
    ·rw [p1]at d3;cases d3;omega
    ·rw [p1]at d3;cases d3;rw [d6]at p3;cases p3;rw [AZ.bc]at d2 d12;have hoz:po<z:=by
      rcases Nat.lt_or_ge po l.length with hh|hh
      ·omega
      ·rw [List.getElem?_eq_none hh]at Ci;cases Ci
     have G3:k.toNat<ys.length:=by omega
     have hmul:(k.toNat+1)*z≤ys.length*z:=Nat.mul_le_mul_right _ (by omega);have GB:ys.length*z≤cap*z:=Nat.mul_le_mul_right _ d7;rw [Nat.add_mul]at hmul;have Ee:C.toList.length=cap*z:=by simpa using d9
     have Ak:k.toNat*z+po<C.size:=by omega
     obtain⟨N1,N2,N3,rfl,s1,s2,s3⟩:=d12.split (k.toNat*z+po) 1;have CE:((C.toList.take (ys.length*z)).drop (k.toNat*z+po)).take 1= [vv]:=by have hv:C[k.toNat*z+po]?=some vv:=p7;rw [List.drop_take,List.take_take,Nat.min_eq_left (by omega),List.drop_eq_getElem_cons (by simpa using Ak),List.take_succ_cons,List.take_zero];rw [Array.getElem?_eq_getElem Ak]at hv;simpa using hv
     have HC:=N8 G3;generalize Pk:(AV.sl ys).nth k.toNat=yk at HC;have F5:=d10 yk (List.mem_of_getElem? HC);have EB:((AL ys).drop (k.toNat*z+po)).take 1= [(E.fld (.idx c0 pi) po 1 false).den c.ρ]:=by rw [We ys d10 _ _ HC po 1 (by omega),List.drop_eq_getElem_cons (by omega),List.take_succ_cons,List.take_zero];simp only [E.den,d4,p4,AV.idx,Pk,AV.fld];simp [show po<yk.cells.length by omega]
     have Bp:((Dp ys.length l).drop (k.toNat*z+po)).take 1= [.row e2 z2 l2]:=by
      rw [←d2,V1 l _ _ _ _ G3 (by omega)];have Ht:po<l.length:=by omega
      rw [List.drop_eq_getElem_cons Ht,List.take_succ_cons,List.take_zero];rw [List.getElem?_eq_getElem Ht]at Ci;simpa using Ci
     rw [CE,EB,Bp]at s2;have GZ:=h.cj _ _ q1;have JI:T≠u:=fun hh=>hu (hh▸GZ);have Co:=h.gw.nodup T;simp only [GI.own,q5,List.append_nil,d5]at Co;have AQ: ∀r∈([⟨T,none,b::(N1++N3), .hol e z l g (ep+1) c0 pi po u⟩,⟨u,some vv,N2,if l2.toList.all DT.cg then .row e2 z2 0 (.fld (.idx c0 pi) po 1 false) true else .deep e2 z2 l2.toList 0 0 (.fld (.idx c0 pi) po 1 false)⟩]:List AU),r.new.isSome=true→ ¬c.U r.tag:=fun r hr hs=>by
      simp only [Ag,List.not_mem_nil,or_false]at hr;rcases hr with rfl|rfl
      ·cases hs
      ·exact hu
     refine⟨[⟨T,none,b::(N1++N3), .hol e z l g (ep+1) c0 pi po u⟩,⟨u,some vv,N2,if l2.toList.all DT.cg then .row e2 z2 0 (.fld (.idx c0 pi) po 1 false) true else .deep e2 z2 l2.toList 0 0 (.fld (.idx c0 pi) po 1 false)⟩],_,rfl, ?_⟩;generalize Bo:([⟨T,none,b::(N1++N3), .hol e z l g (ep+1) c0 pi po u⟩,⟨u,some vv,N2,if l2.toList.all DT.cg then .row e2 z2 0 (.fld (.idx c0 pi) po 1 false) true else .deep e2 z2 l2.toList 0 0 (.fld (.idx c0 pi) po 1 false)⟩]:List AU)=recs at AQ;have hn:(recs.map AU.tag).Nodup:=by rw [←Bo];simp [JI]
     have aft:=Cx.ed (w':=c.w) h.cj hn AQ;have Et:(⟨T,none,b::(N1++N3), .hol e z l g (ep+1) c0 pi po u⟩:AU)∈recs:=by rw [←Bo];simp
     have DF:(⟨u,some vv,N2,if l2.toList.all DT.cg then .row e2 z2 0 (.fld (.idx c0 pi) po 1 false) true else .deep e2 z2 l2.toList 0 0 (.fld (.idx c0 pi) po 1 false)⟩:AU)∈recs:=by rw [←Bo];simp
     obtain⟨k1,k2,k3⟩:=aft.new _ DF vv rfl;have kgT:=aft.G _ Et;have keT:=aft.jq _ Et rfl;have kgu:=aft.G _ DF;have keu:=aft.lq _ DF rfl;obtain⟨kT1,kT2⟩:=aft.K T g q1;simp only at k1 k2 k3 kgT keT kgu keu;have M4: ∀q,q∈b::(N1++N3)∨q∈N2→q∈(c.G T).top:=fun q hq=>by rw [d5];simp only [Ag,Ai]at hq ⊢;rcases hq with(hq|hq|hq)|hq<;>simp [hq]
     obtain⟨As,B3⟩:=h.changes (recs:=recs) (gs:= []) (hs:=(c.G T).top) (Ff _) (Mod.refl _ c.w) hn AQ (fun q hq=>⟨_,Et,hq⟩) (by
       rw [←Bo];simp only [List.flatMap_cons,List.flatMap_nil,List.append_nil];rw [List.nodup_cons]at Co;obtain⟨n1,n2⟩:=Co;rw [List.append_assoc,List.nodup_append,List.nodup_append]at n2;obtain⟨a1,⟨a2,a3,a4⟩,a5⟩:=n2;rw [List.cons_append,List.nodup_cons,List.nodup_append,List.nodup_append];refine⟨fun hh=>n1 ?_,⟨a1,a3,fun x hx y hy=>a5 x hx y (Ai.2 (.inr hy))⟩,a2,fun x hx y hy HB=> ?_⟩
       ·simp only [Ai]at hh ⊢;rcases hh with(hh|hh)|hh<;>simp [hh]
       ·rcases Ai.1 hx with hx|hx
        ·exact a5 x hx y (Ai.2 (.inl hy)) HB
        ·exact a4 y hy x hx HB.symm)
      (fun r hr q hq=>by
       have:q∈(c.G T).top:=by
        rw [←Bo]at hr;simp only [Ag,List.not_mem_nil,or_false]at hr;rcases hr with rfl|rfl
        ·exact M4 q (.inl hq)
        ·exact M4 q (.inr hq)
       exact⟨.inl this,h.gw.inb T q (by simp [GI.own,this])⟩)
      (fun r hr=>by
       rw [←Bo]at hr;simp only [Ag,List.not_mem_nil,or_false]at hr;rcases hr with rfl|rfl
       ·intros;simp
       ·intros;simp only;split<;>simp)
      (fun hk r hr=>by
       rw [←Bo]at hr;simp only [Ag,List.not_mem_nil,or_false]at hr;rcases hr with rfl|rfl
       ·refine⟨kT1,fun g' Cm=>q2 g' (aft.old T GZ g' Cm),by rw [keT,q3], ?_,by rw [kgT]⟩;rw [kT2,p1,kgT];exact⟨b,cap,C,ys,kk,k,N1,N3,rfl,d4,p4,p5,p6,hoz,d1,d2,d6,d7,d8,d9,d10,d11,rfl,k1,by rw [k3];exact p7,s1,s3⟩
       ·simp only;split
        ·rename_i hf;have BH:=s2.od hf;refine⟨k1,k2, [], ?_,by simp,fun _=>⟨rfl,by rw [kgu]⟩,fun _=>by rw [kgu]⟩;rw [k3,kgu];exact BH
        ·refine⟨k1,k2,keu, ?_,by rw [kgu]⟩;rw [k3,kgu,AZ.c8];exact s2)
     refine⟨?_,B3,k1,k3, ?_,fun t ht=> ?_,q1,q3,by rw [keT,q3],JI⟩
     ·have:(recs.map fun r=>(r.tag,CY [] r.bu))= [(T, .hol e z l g (ep+1) c0 pi po u),(u,if l2.toList.all DT.cg then .row e2 z2 0 (.fld (.idx c0 pi) po 1 false) true else .deep e2 z2 l2.toList 0 0 (.fld (.idx c0 pi) po 1 false))]:=by
       rw [←Bo];simp [CY]
      rw [this]at As;exact As
     ·obtain⟨_,_,⟨a9,h1,_⟩|⟨g9,cap9,C9,ys9,N9,h1,_⟩⟩:=s2.inv
      ·exact⟨a9,0,0,h1, .inr (.inl rfl)⟩
      ·exact⟨_,_,_,h1, .inr (.inr ⟨g9,rfl⟩)⟩
     ·rcases ht with ht|⟨r,hr,rfl⟩
      ·exact .inl ht
      ·rw [←Bo]at hr;simp only [Ag,List.not_mem_nil,or_false]at hr;rcases hr with rfl|rfl
       ·exact .inl GZ
       ·exact .inr rfl
   ·cases hs
  ·cases hs
 ·cases hs
theorem Rel.close (h:Rel c n sl hp a) {T u:Nat} {hl r d:Aj} (hT:hp T=some hl) (hu:hp u=some r) (hr:Ww P hl r=some d) (LM: ∃q1 q2 q3 q4 q5 q6 q7 q8,hl= .hol q1 q2 q3 q4 q5 q6 q7 q8 u) (JI:T≠u):
  ∃recs c1,c1=c.dz c.w recs∧Rel c1 n sl (Bd hp [(T,d),(u, .dead)]) a∧(∀t,c1.U t→c.U t)∧c.E T<c1.E T:=by
 obtain⟨e,z,l,g,ep,c0,i,o',rfl⟩:=LM;have key: ∀(e2 z2:Nat) (l2:AZ) (x:E),l[o']?=some (.row e2 z2 l2)→DC c.w [.row e2 z2 l2] [c.H u 0] [x.den c.ρ] (c.G u).top→c.U u→d= .deep e z l g (ep+1) (.set c0 i (.put (.idx c0 i) o' x (Ao P e)))→(Ao P e=false→z=1)→
   ∃recs c1,c1=c.dz c.w recs∧Rel c1 n sl (Bd hp [(T,d),(u, .dead)]) a∧(∀t,c1.U t→c.U t)∧c.E T<c1.E T:=by
  rintro e2 z2 l2 x Ci tJ W7 rfl Iv;obtain⟨q1,q2,q3,⟨b,cap,C,ys,kk,k,N1,N2,p1,p2,p3,p4,p5,p6,p7,p7',p8,p9,p10,p11,p12,p13,p14,p15,p16,p17,p18⟩,q5⟩:=h.ents T _ (by rw [hT];rfl);have GZ:=h.cj _ _ q1;have G3:k.toNat<ys.length:=by omega
  have hmul:(k.toNat+1)*z≤ys.length*z:=Nat.mul_le_mul_right _ (by omega);have GB:ys.length*z≤cap*z:=Nat.mul_le_mul_right _ p9;rw [Nat.add_mul]at hmul;have Ee:C.toList.length=cap*z:=by simpa using p11
  have Ak:k.toNat*z+o'<C.size:=by omega
  have HC:=N8 G3;generalize Pk:(AV.sl ys).nth k.toNat=yk at HC;have F5:=p12 yk (List.mem_of_getElem? HC);obtain⟨zs,D0⟩: ∃zs,x.den c.ρ= .sl zs:=by
   obtain⟨_,_,⟨_,_,hx,_⟩|⟨_,_,_,_,_,_,hx,_⟩⟩:=tJ.inv
   ·exact⟨_,hx⟩
   ·exact⟨_,hx⟩
  have IE:(x.den c.ρ).cells= [x.den c.ρ]:=by rw [D0];rfl
  have hz:(yk.dj o' (x.den c.ρ) (Ao P e)).cells=setVs yk.cells o' (x.den c.ρ).cells:=by
   refine oT ?_ (fun hg=> ?_)
   ·cases hg:Ao P e with
    |true=>exact .inr rfl
    |false=>left;rw [D0];intro cs hh;cases hh
   ·have:=Iv hg;exact⟨by omega,by omega,IE⟩
  have ER:AL (ys.set k.toNat (yk.dj o' (x.den c.ρ) (Ao P e)))=setVs (AL ys) (k.toNat*z+o') (x.den c.ρ).cells:=
   ZU ys _ _ yk o' _ p12 HC (by rw [IE];simp;omega) hz
  have Hm:((Dp ys.length l).drop (k.toNat*z+o')).take 1= [.row e2 z2 l2]:=by
   rw [←p7',V1 l _ _ _ _ G3 (by omega)];have Ht:o'<l.length:=by omega
   rw [List.drop_eq_getElem_cons Ht,List.take_succ_cons,List.take_zero];rw [List.getElem?_eq_getElem Ht]at Ci;simpa using Ci
  have Uu:setVs (C.toList.take (ys.length*z)) (k.toNat*z+o') [c.H u 0]=C.toList.take (ys.length*z):=by
   apply List.ext_getElem?;intro j;have hl3:(C.toList.take (ys.length*z)).length=ys.length*z:=by rw [List.length_take,Ee];exact Nat.min_eq_left GB
   rw [Sy _ _ _ (by rw [hl3];show k.toNat*z+o'+1≤_;omega)];split
   ·rename_i hj;simp only [An,List.length_nil]at hj;have:j=k.toNat*z+o':=by omega
    subst this;rw [Nat.sub_self,List.getElem?_take,if_pos (by omega)];have:=p16;simpa using this.symm
   ·rfl
  have A1:DC c.w [.row e z (AZ.of l)] [c.H T g] [(E.set c0 i (.put (.idx c0 i) o' x (Ao P e))).den c.ρ] (b::(N1++((c.G u).top++N2))):=by
   have Ce:(E.set c0 i (.put (.idx c0 i) o' x (Ao P e))).den c.ρ= .sl (ys.set k.toNat (yk.dj o' (x.den c.ρ) (Ao P e))):=by simp only [E.den,p2,p3,AV.idx,Pk,AV.da]
   rw [Ce,p1];have DI:(ys.set k.toNat (yk.dj o' (x.den c.ρ) (Ao P e))).length=ys.length:=List.length_set;have:=DC.row (w:=c.w) (e:=e) (z:=z) (l:=AZ.of l) (g:=b) (cap:=cap) (C:=C) (ys:=ys.set k.toNat (yk.dj o' (x.den c.ρ) (Ao P e))) (N1:=N1++((c.G u).top++N2)) (ts:= []) (vs:= []) (xs:= []) (N:= []) p7 (by rw [AZ.bc];exact p7') p8 (by rw [DI];exact p9) p10 p11 (fun w hw=>by
     rcases List.mem_or_eq_of_mem_set hw with hw|rfl
     ·exact p12 w hw
     ·rw [hz,SC _ _ _ (by rw [IE,F5];simp;omega)];exact F5) (by rw [DI];exact p13) (by
     rw [DI,AZ.bc,ER,←Uu];refine DC.setVs p17 ?_ ?_
     ·exact p18
     ·rw [AH,Hm,IE];exact tJ) .nil
   rw [DI]at this;simpa using this
  have hTK:=q1;have AQ: ∀r∈([⟨T,none,b::(N1++((c.G u).top++N2)), .deep e z l g (ep+1) (.set c0 i (.put (.idx c0 i) o' x (Ao P e)))⟩,⟨u,none, [], .dead⟩]:List AU),r.new.isSome=true→ ¬c.U r.tag:=fun r hr hs=>by simp only [Ag,List.not_mem_nil,or_false]at hr;rcases hr with rfl|rfl<;>cases hs
  refine⟨[⟨T,none,b::(N1++((c.G u).top++N2)), .deep e z l g (ep+1) (.set c0 i (.put (.idx c0 i) o' x (Ao P e)))⟩,⟨u,none, [], .dead⟩],_,rfl, ?_⟩;generalize Bo:([⟨T,none,b::(N1++((c.G u).top++N2)), .deep e z l g (ep+1) (.set c0 i (.put (.idx c0 i) o' x (Ao P e)))⟩,⟨u,none, [], .dead⟩]:List AU)=recs at AQ;have hn:(recs.map AU.tag).Nodup:=by rw [←Bo];simp [JI]
  have aft:=Cx.ed (w':=c.w) h.cj hn AQ;have Et:(⟨T,none,b::(N1++((c.G u).top++N2)), .deep e z l g (ep+1) (.set c0 i (.put (.idx c0 i) o' x (Ao P e)))⟩:AU)∈recs:=by rw [←Bo];simp
  have DF:(⟨u,none, [], .dead⟩:AU)∈recs:=by rw [←Bo];simp
  have kgT:=aft.G _ Et;have keT:=aft.jq _ Et rfl;have kgu:=aft.G _ DF;obtain⟨kT1,kT2⟩:=aft.K T g q1;simp only at kgT keT kgu;have Ch: ∀q,q∈b::(N1++((c.G u).top++N2))→q∈(c.G T).top∨q∈(c.G u).top:=fun q hq=>by rw [p14];simp only [Ag,Ai]at hq ⊢;rcases hq with hq|hq|hq|hq<;>simp [hq]
  have OW:=h.gw.nodup T;simp only [GI.own,q5,List.append_nil,p14]at OW;have eO:(c.G u).top.Nodup:=by have:=h.gw.nodup u;simp only [GI.own]at this;exact(List.nodup_append.1 this).1
  have Gw: ∀q∈(c.G u).top,q∉b::(N1++N2):=fun q hq hh=>h.gw.cz u T (Ne.symm JI) q (by simp [GI.own,hq]) (by rw [←p14]at hh;simp [GI.own,hh]);obtain⟨As,B3⟩:=h.changes (recs:=recs) (gs:= []) (hs:=(c.G T).top++(c.G u).top) (Ff _) (Mod.refl _ c.w) hn AQ (fun q hq=>by
    rcases Ai.1 hq with hq|hq
    ·exact⟨_,Et,hq⟩
    ·exact⟨_,DF,hq⟩) (by
    rw [←Bo];simp only [List.flatMap_cons,List.flatMap_nil,List.append_nil];rw [List.nodup_cons,List.nodup_append]at OW;obtain⟨n1,a1,a2,a3⟩:=OW;rw [List.nodup_cons,List.nodup_append,List.nodup_append];refine⟨fun hh=> ?_,a1,⟨eO,a2,fun x hx y hy HB=>Gw x hx (by rw [HB];simp [hy])⟩,fun x hx y hy HB=> ?_⟩
    ·simp only [Ai]at hh n1;rcases hh with hh|hh|hh
     ·exact n1 (.inl hh)
     ·exact Gw b hh (by simp)
     ·exact n1 (.inr hh)
    ·rcases Ai.1 hy with hy|hy
     ·exact Gw y hy (by rw [←HB];simp [hx])
     ·exact a3 x hx y hy HB)
   (fun r hr q hq=>by
    have:q∈(c.G T).top∨q∈(c.G u).top:=by
     rw [←Bo]at hr;simp only [Ag,List.not_mem_nil,or_false]at hr;rcases hr with rfl|rfl
     ·exact Ch q hq
     ·simp at hq
    refine⟨.inl (Ai.2 this), ?_⟩;rcases this with hh|hh
    ·exact h.gw.inb T q (by simp [GI.own,hh])
    ·exact h.gw.inb u q (by simp [GI.own,hh]))
   (fun r hr=>by rw [←Bo]at hr;simp only [Ag,List.not_mem_nil,or_false]at hr;rcases hr with rfl|rfl<;>(intros;simp))
   (fun hk r hr=>by
    rw [←Bo]at hr;simp only [Ag,List.not_mem_nil,or_false]at hr;rcases hr with rfl|rfl
    ·exact⟨kT1,fun g' Cm=>q2 g' (aft.old T GZ g' Cm),by rw [keT,q3],by rw [kT2,kgT];exact A1,by rw [kgT]⟩
    ·exact⟨by rw [kgu],by rw [kgu]⟩)
  refine⟨?_,fun t ht=> ?_,by rw [keT];omega⟩
  ·have:(recs.map fun r=>(r.tag,CY [] r.bu))= [(T, .deep e z l g (ep+1) (.set c0 i (.put (.idx c0 i) o' x (Ao P e)))),(u, .dead)]:=by
    rw [←Bo];simp [CY]
   rw [this]at As;exact As
  ·rcases ht with ht|⟨r,hr,rfl⟩
   ·exact ht
   ·rw [←Bo]at hr;simp only [Ag,List.not_mem_nil,or_false]at hr;rcases hr with rfl|rfl
    ·exact GZ
    ·exact W7
 have W7:c.U u:=h.c6 u r hu;unfold Ww at hr;simp only at hr;split at hr
 ·rename_i e2 z2 l2 e3 z3 x Ci;split at hr
  ·rename_i hh;obtain⟨hf,rfl,rfl,hlen,AD⟩:=hh;simp only [Ah]at hr;obtain⟨q1,q2,N,q4,q5,q6,q7⟩:=h.ents u _ (by rw [hu];rfl);obtain⟨hN,_⟩:=q6 rfl;have hN:N= []:=hN;subst hN;exact key _ _ _ _ Ci (DC.mj q4 hf hlen) W7 hr.symm (by rcases AD with hh|hh;(rw [hh];simp);exact fun _=>hh)
  ·cases hr
 ·rename_i e2 z2 l2 e3 z3 l3 x Ci;split at hr
  ·rename_i hh;obtain⟨rfl,rfl,hb,AD⟩:=hh;simp only [Ah]at hr;have hb:=AZ.of_eq hb;subst hb;obtain⟨q1,q2,q3,q4,q5⟩:=h.ents u _ (by rw [hu];rfl);rw [AZ.c8]at q4;exact key _ _ _ _ Ci q4 W7 hr.symm (by rcases AD with hh|hh;(rw [hh];simp);exact fun _=>hh)
  ·cases hr
 ·cases hr
end
section
variable {P:Program} {c:Cx} {n nx:Nat} {sl sl0:Nat→SV} {hp hp0:Nat→Option Aj} {a:Act} {o:Oper} {gs:Gd} {e:A7} {sg:B0} {nv:Nat}
theorem SE (hp:Nat→Option Aj): ∀(l:List (Nat × Aj)) (t:Nat),Bd hp l t=match Mv l t with|some f=>some f|none=>hp t
 | [],t=>rfl
 |(u,e)::l,t=>by
  have:=SE (fun v=>if v=u then some e else hp v) l t;simp only [Bd,List.foldl_cons,Mv]at this ⊢;rw [this];cases Mv l t with
  |some f=>rfl
  |none=>
   simp only;by_cases h:u=t
   ·rw [if_pos h.symm,if_pos h]
   ·rw [if_neg (Ne.symm h),if_neg h]
theorem zvE {hp:Nat→Option Aj} {T v m u:Nat} {p:E × Nat × Nat} {h r:Aj} (hs:Wy hp T v m u p=some (h,r)): ∃e z l ep c0 i o',h= .hol e z l v (m+1) c0 i o' u∧Dy hp [] T=some (.deep e z l v ep c0)∧ep=m:=by
 unfold Wy at hs;split at hs
 ·rename_i hl;split at hs
  ·rename_i hh;obtain⟨rfl,rfl,_⟩:=hh;split at hs
   ·simp only [Ah,Prod.mk.injEq]at hs;obtain⟨rfl,_⟩:=hs;exact⟨_,_,_,_,_,_,_,rfl,hl,rfl⟩
   ·cases hs
  ·cases hs
 ·cases hs
theorem zv8 {h r d:Aj} {e z:Nat} {l:List DT} {g ep:Nat} {c0 i:E} {o' u:Nat} (hh:h= .hol e z l g ep c0 i o' u) (hc:Ww P h r=some d): ∃x,d= .deep e z l g (ep+1) x:=by
 subst hh;unfold Ww at hc;simp only at hc;split at hc
 ·split at hc
  ·simp only [Ah]at hc;exact⟨_,hc.symm⟩
  ·cases hc
 ·split at hc
  ·simp only [Ah]at hc;exact⟨_,hc.symm⟩
  ·cases hc
 ·cases hc
theorem zGN (J6: ∀f s,sg f=some s→f<1000000) (h:Bt P c n nx sl hp a sl0 hp0 o []) (hu: ¬c.U (nx+999)) (he:WI P sg sl0 hp0 nv nx o=some e)
  (hc: ∀q∈e.ca,q.den c.ρ) (Be: ∀cl,e.call=some cl→ ∃r,c.ρ[nv]?=some r∧IT (Cw P sg) cl.fn ((EL.of cl.args).den c.ρ) c.ρ r):AB P o c n nx sl hp [] a e:=by
 unfold WI at he;simp only at he;split at he
 ·cases he
 rename_i t T v m p s MQ;split at he
 ·cases he
 rename_i hl inn FL;split at he
 ·cases he
 rename_i e0 Lw;split at he
 ·cases he
 rename_i CU;have CU:e0.cm=none:=by cases hh:e0.cm with|none=>rfl|some x=>rw [hh]at CU;simp at CU
 obtain⟨Fu,Bl⟩:=VT MQ;have Fu:Operand.tmp t∈o.op.operands:=by simpa using Fu
 obtain⟨fe,fz,fl,fep,fc0,fi,fo,rfl,H3,rfl⟩:=zvE FL;have hE:c.E T=fep:=(h.eh T _ (Db H3 (Ff _))).2.2.1;have EY:=h.rel.de t;rw [←h.sl t Fu]at EY;obtain⟨vv,J3,A6⟩: ∃vv,I0 c T v (some p) vv∧ ∀c1:Cx,c1.ρ=c.ρ→c1.K (nx+999) 0→c1.H (nx+999) 0=vv→(∃q n r,vv= .slice q n r∧(q=none∨n=0∨ ∃g,q=some ⟨g,0,none⟩))→SR c1 [s] [a.tmps.getD t undef]:=by
  rcases Bl with⟨y,CV,rfl⟩|⟨y,k,z,q,CV,rfl⟩
  ·rw [CV]at EY;generalize a.tmps.getD t undef=av at EY ⊢;cases EY with
   |via h1 h2 h3 _=>obtain⟨_,hp⟩:=h3 hE;refine⟨_,hp,fun c1 e1 k1 k2 k3=> ?_⟩;obtain⟨q,n,r,rfl,_⟩:=k3;exact .own k1 k2 .nil
  ·rw [CV]at EY;generalize a.tmps.getD t undef=av at EY ⊢;cases EY with
   |vptr h1 h2 h3 _=>
    obtain⟨b,off,len,cap,kk,kv,g1,g2,g3,g4,g5,g6,rfl⟩:=h3 hE;refine⟨_,g2,fun c1 e1 k1 k2 k3=> ?_⟩;obtain⟨q9,n9,r9,hv,hq⟩:=k3;cases hv;have GJ:off=0:=by
     rcases hq with hq|hq|⟨g,hq⟩
     ·cases hq
     ·omega
     ·cases hq;rfl
    subst GJ;have:=SR.c7 (c:=c1) (i:=k) (sz:=z) (o:=q) k1 k2 (by rw [e1];exact g3) g4 g5 .nil;simpa using this
 obtain⟨recs,c1,rfl,Du,OQ,bT,Lm,hvv,cH,hKT,_,sV,JI⟩:=h.rel.split FL h.hp hu (fun _=>J3);have ID:=A6 _ OQ.ρ bT Lm hvv;have FH:=Du.km (sl':=fun i=>if i=t then s else sl i) (fun i=>by
  by_cases hi:i=t
  ·subst hi;right;simpa using ID
  ·left;simp [hi])
 have Dv: ∀x,Bd hp [(T, .hol fe fz fl v (fep+1) fc0 fi fo (nx+999)),(nx+999,inn)] x=if x=nx+999 then some inn else if x=T then some (.hol fe fz fl v (fep+1) fc0 fi fo (nx+999))else hp x:=fun x=>rfl;have pre1:Bt P (c.dz c.w recs) n nx (fun i=>if i=t then s else sl i) (Bd hp [(T, .hol fe fz fl v (fep+1) fc0 fi fo (nx+999)),(nx+999,inn)]) a (fun i=>if i=t then s else sl0 i) (fun w=>if w=T then some (.hol fe fz fl v (fep+1) fc0 fi fo (nx+999))else if w=nx+999 then some inn else hp0 w) o []:=by
  refine⟨FH,Ff _,fun i hi=> ?_,fun x f hf=> ?_,fun x h1 h2 hx=> ?_⟩
  ·by_cases hit:i=t
   ·simp [hit]
   ·simp only [if_neg hit];exact h.sl i hi
  ·rw [Dv];by_cases h1:x=T
   ·rw [if_pos h1]at hf;rw [if_neg (by rw [h1];exact JI),if_pos h1];exact hf
   ·rw [if_neg h1]at hf;by_cases h2:x=nx+999
    ·rw [if_pos h2]at hf ⊢;exact hf
    ·rw [if_neg h2]at hf;rw [if_neg h2,if_neg h1];exact h.hp x f hf
  ·rcases cH x hx with hx|hx
   ·exact h.new x h1 h2 hx
   ·omega
 have hdst: ∀(c':Cx) (a':Act) (w9:SV),Rel c' n (CN n (fun i=>if i=t then s else sl i) o.dst w9) (fun _=>none) a'→True:=fun _ _ _ _=>trivial;have stale: ∀(c':Cx) (v':Value),c'.K T v→fep<c'.E T→SR c' [sl t] [v']:=by
  intro c' v' hk Ak;rw [←h.sl t Fu];rcases Bl with⟨y,CV,_⟩|⟨y,k,z,q,CV,_⟩
  ·rw [CV];exact .via hk (by omega) (fun hh=>by omega) .nil
  ·rw [CV];exact .vptr hk (by omega) (fun hh=>by omega) .nil
 have back: ∀{c':Cx} {hp':Nat→Option Aj} {a':Act} {w9:SV},Rel c' n (CN n (fun i=>if i=t then s else sl i) o.dst w9) hp' a'→c'.K T v→fep<c'.E T→Rel c' n (CN n sl o.dst w9) hp' a':=by
  intro c' hp' a' w9 hr hk Ak;refine hr.km fun i=> ?_;unfold CN;by_cases h1:o.dst=some i∧i<n
  ·left;rw [if_pos h1,if_pos h1]
  ·rw [if_neg h1,if_neg h1];by_cases h2:i=t
   ·subst h2;right;exact stale _ _ hk Ak
   ·left;show sl i=if i=t then s else sl i;rw [if_neg h2]
 split at he
 ·
  split at he
  ·rename_i Ct;simp only [Ah]at he;subst he;have JQ:=gV J6 pre1 Lw hc Be (fun x hx=>by rw [CU]at hx;cases hx);intro next Q hk
   refine JQ next Q fun a' c' Bc hr=> ?_
   have cF:Bd (Bd hp [(T, .hol fe fz fl v (fep+1) fc0 fi fo (nx+999)),(nx+999,inn)]) e0.bu T=some (.hol fe fz fl v (fep+1) fc0 fi fo (nx+999)):=by rw [SE,Ct,Dv,if_neg JI,if_pos rfl]
   obtain⟨g1,_,g3,_⟩:=hr.ents T _ (by rw [cF];rfl);refine hk a' c' ⟨Bc.ρ,Bc.A,Bc.w0,Bc.Mu,fun x hx=> ?_⟩ (back hr g1 (by omega));rcases Bc.U x hx with hx|hx
   ·rcases cH x hx with hx|hx
    ·exact .inl hx
    ·exact .inr ⟨by omega,by simp only [BN];omega⟩
   ·exact .inr hx
  ·cases he
 ·split at he
  ·rename_i r' hlu hlT;obtain⟨d,hd,rfl⟩:=Au.1 he;have JQ:=gV J6 pre1 Lw hc Be (fun x hx=>by rw [CU]at hx;cases hx);intro next Q hk
   refine JQ next Q fun a' c' Bc hr=> ?_
   have cF:Bd (Bd hp [(T, .hol fe fz fl v (fep+1) fc0 fi fo (nx+999)),(nx+999,inn)]) e0.bu T=some (.hol fe fz fl v (fep+1) fc0 fi fo (nx+999)):=by rw [SE,hlT,Dv,if_neg JI,if_pos rfl]
   have hue:Bd (Bd hp [(T, .hol fe fz fl v (fep+1) fc0 fi fo (nx+999)),(nx+999,inn)]) e0.bu (nx+999)=some r':=by rw [SE,hlu]
   obtain⟨recs2,c2,rfl,CR,hU2,hE2⟩:=hr.close cF hue hd ⟨_,_,_,_,_,_,_,_,rfl⟩ JI;obtain⟨x9,rfl⟩:=zv8 rfl hd;have cG:Bd (Bd (Bd hp [(T, .hol fe fz fl v (fep+1) fc0 fi fo (nx+999)),(nx+999,inn)]) e0.bu) [(T, .deep fe fz fl v (fep+1+1) x9),(nx+999, .dead)] T=some (.deep fe fz fl v (fep+1+1) x9):=by show(if T=nx+999 then _ else if T=T then _ else _)=_;rw [if_neg JI,if_pos rfl]
   obtain⟨g1,_,g3,_⟩:=CR.ents T _ (by rw [cG];rfl);have DZ:=back CR g1 (by omega);have Bn:Bd hp ((T, .hol fe fz fl v (fep+1) fc0 fi fo (nx+999))::(nx+999,inn)::e0.bu++ [(T, .deep fe fz fl v (fep+1+1) x9),(nx+999, .dead)])=Bd (Bd (Bd hp [(T, .hol fe fz fl v (fep+1) fc0 fi fo (nx+999)),(nx+999,inn)]) e0.bu) [(T, .deep fe fz fl v (fep+1+1) x9),(nx+999, .dead)]:=by rw [←Qa,←Qa];rfl
   refine hk a' (c'.dz c'.w recs2) ⟨Bc.ρ,Bc.A,Bc.w0,Bc.Mu,fun x hx=> ?_⟩ ?_
   ·rcases Bc.U x (hU2 x hx)with hx|hx
    ·rcases cH x hx with hx|hx
     ·exact .inl hx
     ·exact .inr ⟨by omega,by simp only [BN];omega⟩
    ·exact .inr hx
   ·have:=DZ;rw [←Bn]at this;exact this
  ·cases he
theorem zCa (h:Bt P c n nx sl hp a sl0 hp0 o gs) {e:A7} (dp:Bool) (hd:AB P o c n nx sl hp gs a e):AB P o c n nx sl hp gs a (KC dp hp0 gs e):=by
 unfold KC;split
 ·exact hd
 ·split
  ·rename_i l hl;intro next Q hk
   refine hd next Q fun a' c' hs hr=> ?_
   have e1:Bd hp0 e.bu=fun t=>match Mv e.bu t with|some f=>some f|none=>hp0 t:=funext (SE hp0 e.bu)
   have hl:DS (Bd hp0 e.bu) [] (zyJ e.bu)=some l:=by rw [e1];exact hl
   have Jb:=hr.freeze (hp0:=Bd hp0 e.bu) (fun t e' h'=>by
    rw [SE]at h' ⊢;split at h'
    ·exact h'
    ·exact h.hp t e' h') (Ff _) hl
   refine hk a' (c'.cf (l.map (·.1))) ⟨hs.ρ,hs.A,hs.w0,hs.Mu,hs.U⟩ ?_;show Rel _ _ _ (Bd hp (e.bu++l)) a';rw [Qa];exact Jb
  ·exact hd
theorem zzX (dp:Bool) (e:A7):(KC dp hp0 gs e).call=e.call:=by
 unfold KC;split
 ·rfl
 ·split<;>rfl
theorem zCI (dp:Bool) (e:A7):(KC dp hp0 gs e).ca=e.ca:=by
 unfold KC;split
 ·rfl
 ·split<;>rfl
theorem nY (dp:Bool) (e:A7):(KC dp hp0 gs e).cm=e.cm:=by
 unfold KC;split
 ·rfl
 ·split<;>rfl
theorem zAX {dp:Bool} {e:A7} {x:E} (h:e.cm=some x):KC dp hp0 gs e=e:=by unfold KC;rw [if_pos (by simp [h])]
theorem zD0 (h:Bt P c n nx sl hp a sl0 hp0 o gs) {e:A7} (fz:Bool) (hd:AB P o c n nx sl hp gs a e):AB P o c n nx sl hp gs a (Kj fz hp0 gs e):=by
 unfold Kj;split
 ·exact hd
 ·rename_i TR;simp only [Bool.or_eq_true,not_or]at TR;have hen:e.bu= []:=by simpa using TR.2
  split
  ·rename_i t g m p x hv;split
   ·rename_i y l hy hl;split
    ·rename_i J0;intro next Q hk
     refine hd next Q fun a' c' hs hr=> ?_
     rw [hen]at hr;have dI:gs= []:=by simpa using TR.1.1.1.2
     subst dI;have hr:Rel c' n (CN n sl o.dst e.val) hp a':=hr;have eh:EH c' hp0:=fun t e C7=>hr.ents t e (Mm h.hp C7);have Jb:=hr.freeze h.hp (Ff _) hl;refine hk a' (c'.cf (l.map (·.1))) ⟨hs.ρ,hs.A,hs.w0,hs.Mu,hs.U⟩ ?_;refine{Jb with de:=fun i=> ?_};have h1:=hr.de i;have h2:=Jb.de i;unfold CN at h1 h2 ⊢;split
     ·rename_i hi;rw [if_pos hi]at h1;obtain⟨f,q1,q2⟩:=Ii eh (Ff _) A3 hy h1 A3 (Nat.le_refl _);exact .e q1 (fun b hb=>V0 hr eh (Ff _) hl J0 (q2 b hb)) .nil
     ·rename_i hi;rw [if_neg hi]at h2;exact h2
    ·exact hd
   ·exact hd
  ·exact hd
theorem zCc (fz:Bool) (e:A7):(Kj fz hp0 gs e).call=e.call:=by
 unfold Kj;split
 ·rfl
 ·split
  ·split
   ·split<;>rfl
   ·rfl
  ·rfl
theorem zDd (fz:Bool) (e:A7):(Kj fz hp0 gs e).ca=e.ca:=by
 unfold Kj;split
 ·rfl
 ·split
  ·split
   ·split<;>rfl
   ·rfl
  ·rfl
theorem zwn (fz:Bool) (e:A7):(Kj fz hp0 gs e).cm=e.cm:=by
 unfold Kj;split
 ·rfl
 ·split
  ·split
   ·split<;>rfl
   ·rfl
  ·rfl
theorem zDc {fz:Bool} {e:A7} {x:E} (h:e.cm=some x):Kj fz hp0 gs e=e:=by unfold Kj;rw [if_pos (by simp [h])]
theorem zH0 (J6: ∀f s,sg f=some s→f<1000000):Pv P sg (Cw P sg):=by
 intro c n nx sl hp a sl0 hp0 o gs e nv h hu he hc Be CU;unfold MC at he;split at he
 ·rename_i e' E9;simp only [Ah]at he;subst he;rw [zDd,zCI]at hc;rw [zCc,zzX]at Be;rw [zwn,nY]at CU;exact zD0 h _ (zCa h _ (gV J6 h E9 hc Be CU))
 ·split at he
  ·exact zGN J6 h hu he hc Be
  ·cases he
theorem zxK {x:E} (he:WI P sg sl0 hp0 nv nx o=some e) (hq:e.cm=some x):False:=by
 unfold WI at he;simp only at he;split at he
 ·cases he
 split at he
 ·cases he
 split at he
 ·cases he
 rename_i e0 Lw;split at he
 ·cases he
 rename_i CU;have CU:e0.cm=none:=by cases hh:e0.cm with|none=>rfl|some x=>rw [hh]at CU;simp at CU
 split at he
 ·split at he
  ·simp only [Ah]at he;subst he;rw [CU]at hq;cases hq
  ·cases he
 ·split at he
  ·obtain⟨d,hd,rfl⟩:=Au.1 he;rw [CU]at hq;cases hq
  ·cases he
theorem zxn {x:E} (he:MC P sg sl0 hp0 nv nx gs o=some e) (hq:e.cm=some x):BL P sg sl0 hp0 nv nx gs o=some e:=by
 unfold MC at he;split at he
 ·rename_i e' E9;simp only [Ah]at he;subst he;rw [zwn,nY]at hq;rw [zDc (by rw [nY];exact hq),zAX hq];exact E9
 ·split at he
  ·exact(zxK he hq).elim
  ·cases he
theorem zG1:UI P sg:=by
 intro c n nx sl hp a sl0 hp0 o gs e nv x h he hq hb;unfold Lc at hb;cases AS:o.op with
 |binOp op t y z ty=>
  rw [AS]at hb;simp only at hb;have he:=zxn he hq;simp only [BL,AS,Av]at he;obtain⟨s1,BO,s2,A6,he⟩:=he;have key: ∀xq,Br hp0 gs A3 s1=some xq→xq.den c.ρ= .sl []:=by
   intro xq Kd;obtain⟨f,q1,_⟩:=h.lr BO (by simp [AS,Op.operands]) Kd;generalize a.eval y=v at q1 hb;split at hb
   ·generalize xq.den c.ρ=d at q1;cases q1 with
    |fc _=>rfl
   ·cases hb
  unfold Tf at he;split at he
  ·split at he
   ·simp at he;subst he;cases hq
   ·simp at he;subst he;cases hq
   ·obtain⟨xq,Kd,rfl⟩:=Au.1 he;cases hq;exact key _ Kd
   ·obtain⟨xq,Kd,rfl⟩:=Au.1 he;cases hq;exact key _ Kd
   ·cases he
  ·split at he
   ·simp at he;subst he;cases hq
   ·cases he
  ·split at he
   ·simp at he;subst he;cases hq
   ·cases he
  ·split at he
   ·simp at he;subst he;cases hq
   ·cases he
  ·split at he
   ·cases he
   ·split at he
    ·split at he
     ·simp at he;subst he;cases hq
     ·simp at he;subst he;cases hq
     ·cases he
    ·cases he
  ·cases he
 |_=>rw [AS]at hb;simp at hb
end
end Go.Proofs.YtbmbkgalkfmjdaaGreatDoor
end

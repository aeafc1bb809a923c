/- Parts of a proof, joined: WP, WQ, WR, WRa, WRb, WRc, WRd, WRe, WS, WSa, WSb. -/
import Derived.Test.YtlhlgboblghkdaaGreatDoorS4
set_option linter.unusedVariables false
set_option linter.unusedSimpArgs false
section
namespace Go.Proofs.YtlhlgboblghkdaaGreatDoor
open Go.RowKit
theorem AD.{u} {α:Type u} {a:α}:[a].length=1:=rfl
section
variable {P:Program} {c:Cx} {hp:Nat→Option Aj} {gs:Gd}
theorem vW (hb:Ps c) (eh:EH c hp) (k:Bb c.ρ gs) (hU: ∀t g,c.K t g→c.U t): ∀(ss:List SV) {ts:List TypeId} {ms:List PM} {lo:List Bool} {es:List E} {bs:List PA} {us uz:List Nat} {vs:List Value},Vg P hp gs ts ms lo ss=some (es,bs,us,uz)→SR c ss vs→ts.length≤ss.length→
  ∃rf lf hs,Dr P c.w ts ms lo vs (es.map (E.den c.ρ)) rf lf hs∧(∀b∈rf,c.ed us b)∧(∀b∈lf,c.ed uz b∨b<c.w0.heap.size∧ ¬c.Mu b)∧hs=(Dq bs).flatMap (fun t=>(c.G t).top)∧IF P c ts ms vs bs∧(∀u∈Dq bs,c.U u)∧(bs≠ []→gs= [])
 | [],ts,ms,lo,es,bs,us,uz,vs,h,hs,hl=>by simp [Vg]at h;obtain⟨rfl,rfl,rfl,rfl⟩:=h;cases hs;have:ts= []:=List.eq_nil_of_length_eq_zero (by simpa using hl);subst this;exact⟨[], [], [], .nil,by simp,by simp,by simp [Dq], .nil,by simp [Dq],by simp⟩
 |s::ss,ts,ms,lo,es,bs,us,uz, [],h,hs,hl=>by have:=hs.len;simp at this
 |s::ss,ts,ms,lo,es,bs,us,uz,v::vs,h,hs,hl=>by
  obtain⟨r1,r2⟩:=hs.cd;unfold Vg at h;split at h
  ·cases h
  rename_i ys bs' us' uz' CR;obtain⟨rf,lf,Ba,q1,q2,qz,q3,q4,q5,q6⟩:=vW hb eh k hU ss CR r2 (by simp at hl ⊢;omega);have see1: ∀{a b:List Nat} {x:Nat},c.ed a x→c.ed (a++b) x:=fun h=>h.mono fun t ht=>by simp [ht]
  have see2: ∀{a b:List Nat} {x:Nat},c.ed b x→c.ed (a++b) x:=fun h=>h.mono fun t ht=>by simp [ht]
  split at h
  ·rename_i hm;split at h
   ·rename_i B0;simp only [Ae,Bool.not_eq_true']at B0;obtain⟨t,ts,rfl⟩: ∃t ts',ts=t::ts':=by
     cases ts with
     |nil=>simp at B0
     |cons t ts=>exact⟨t,ts,rfl⟩
    split at h
    ·rename_i i;simp only [Ag,Prod.mk.injEq]at h;obtain⟨rfl,rfl,rfl,rfl⟩:=h;cases r1 with
     |lent g1 _=>obtain⟨f,p1,p2⟩:=hb.lo _ _ g1;have hw:Rd c.w [v] [(E.var i).den c.ρ] f:=p1.frame fun b BT=>hb.block b (p1.inb b BT) (p2 b BT);exact⟨rf,f++lf,Ba, .lent B0.1 hm hw q1,q2,fun b BT=>(Ah.1 BT).elim (fun BT=> .inr ⟨p1.inb b BT,p2 b BT⟩) (qz b),q3, .ro hm q4,q5,q6⟩
    ·obtain⟨x,hx,hh⟩:=At.1 h;simp only [Prod.mk.injEq]at hh;obtain⟨rfl,rfl,rfl,rfl⟩:=hh;obtain⟨f,p1,p2⟩:=HM eh k AT hx r1 AT (Nat.le_refl _);exact⟨rf,f++lf,Ba, .lent B0.1 hm p1 q1,q2,fun b BT=>(Ah.1 BT).elim (fun BT=> .inl (see1 (p2 b BT))) (fun BT=>(qz b BT).imp see2 id),q3, .ro hm q4,q5,q6⟩
   obtain⟨x,hx,hh⟩:=At.1 h;simp only [Prod.mk.injEq]at hh;obtain⟨rfl,rfl,rfl,rfl⟩:=hh;obtain⟨f,p1,p2⟩:=HM eh k AT hx r1 AT (Nat.le_refl _);have hb: ∀b∈f++rf,c.ed (BH hp gs (AT+1) [s]++us') b:=fun b hb=>by
    rcases Ah.1 hb with hb|hb
    ·exact see1 (p2 b hb)
    ·exact see2 (q2 b hb)
   cases ts with
   |nil=>exact⟨f++rf,lf,Ba, .free p1 q1,hb,qz,q3, .ro hm q4,q5,q6⟩
   |cons t ts=>exact⟨f++rf,lf, []++Ba, .cons (by rw [hm];exact⟨p1,rfl⟩) q1,hb,qz,q3, .ro hm q4,q5,q6⟩
  ·rename_i own own' hm;split at h
   ·rename_i ty T Be;split at h
    ·rename_i ty' g cs Gj;split at h
     ·cases h
     rename_i A9;have A9:ty'=ty:=by simpa using A9
     subst A9;split at h
     ·rename_i xs rs vs' Cu Dm;simp only [Ag,Prod.mk.injEq]at h;obtain⟨rfl,rfl,rfl,rfl⟩:=h;obtain⟨t,ts,rfl,DZ⟩: ∃t ts',ts=t::ts'∧J2 P t=some ty':=by
       cases ts with
       |nil=>simp at Be
       |cons t ts=>exact⟨t,ts,rfl,by simpa using Be⟩
      obtain⟨b,C,g1,g2,g3,g4,g5,g6,g7⟩:=eh T _ (CH Gj k);obtain⟨f,h8,p1,p2,p3,p4,p5⟩:=hP (P:=P) eh k hU (A0 P ty') Dm g7 Cu (Nat.le_refl _);have hv:v= .pointer (some ⟨b,0,none⟩):=by
       cases r1 with
       |cg k1 k2 _=>rw [g2]at k2;cases k2;rfl
      refine⟨f++rf,lf,(b::h8)++Ba, .cons ?_ q1,fun x hx=> ?_,qz,by simp [Dq,p3,q3,g3], .bx hm DZ hv g1 (by rw [g2,hv]) p5 q4,fun u hu=> ?_,fun _=>rfl⟩
      ·rw [hm];exact⟨ty',b,C,xs.den c.ρ,h8,DZ,hv,g5,g6,rfl,p1,rfl⟩
      ·rcases Ah.1 hx with hx|hx
       ·exact see1 (p2 x hx)
       ·exact see2 (q2 x hx)
      ·simp only [Dq,List.cons_append,Af,Ah]at hu;rcases hu with rfl|hu|hu
       ·exact hU _ _ g1
       ·exact p5 u hu
       ·exact q5 u hu
     ·cases h
    ·cases h
   ·cases h
  ·rename_i own hm;split at h
   ·rename_i t x Be hx;split at h
    ·cases h
    rename_i AB;have AB:(HH s).2=Ap P t:=by simpa using AB
    split at h
    ·rename_i rs vs' Dm;simp only [Ag,Prod.mk.injEq]at h;obtain⟨rfl,rfl,rfl,rfl⟩:=h;obtain⟨ts,rfl⟩: ∃ts',ts=t::ts':=by
      cases ts with
      |nil=>simp at Be
      |cons t' ts=>simp at Be;exact⟨ts,by rw [Be]⟩
     obtain⟨f,h8,p1,p2,p3,⟨vs9,p4,p5⟩,p6⟩:=uS (P:=P) eh k hU r1 hx AB Dm;refine⟨f++rf,lf,h8++Ba, .cons (by rw [hm];exact p1) q1,fun x hx=> ?_,qz,by simp [Dq,p3,q3],by rw [AB];exact .mu hm p4 p5 q4,fun u hu=> ?_,fun _=>rfl⟩
     ·rcases Ah.1 hx with hx|hx
      ·exact see1 (p2 x hx)
      ·exact see2 (q2 x hx)
     ·simp only [Dq,Ah]at hu;exact hu.elim (p6 u) (q5 u)
    ·cases h
   ·cases h
  ·rename_i own hm;split at h
   ·rename_i t x Be hx;split at h
    ·cases h
    rename_i AB;have AB:(HH s).2=Ap P t:=by simpa using AB
    split at h
    ·rename_i rs vs' Dm;simp only [Ag,Prod.mk.injEq]at h;obtain⟨rfl,rfl,rfl,rfl⟩:=h;obtain⟨ts,rfl⟩: ∃ts',ts=t::ts':=by
      cases ts with
      |nil=>simp at Be
      |cons t' ts=>simp at Be;exact⟨ts,by rw [Be]⟩
     obtain⟨f,h8,p1,p2,p3,⟨vs9,p4,p5⟩,p6⟩:=uS (P:=P) eh k hU r1 hx AB Dm;refine⟨f++rf,lf,h8++Ba, .cons (by rw [hm];exact p1) q1,fun x hx=> ?_,qz,by simp [Dq,p3,q3], .va hm p6 q4,fun u hu=> ?_,fun _=>rfl⟩
     ·rcases Ah.1 hx with hx|hx
      ·exact see1 (p2 x hx)
      ·exact see2 (q2 x hx)
     ·simp only [Dq,Ah]at hu;exact hu.elim (p6 u) (q5 u)
    ·cases h
   ·cases h
end
inductive Gb (P:Program) (w:World):List TypeId→List Bool→List Value→List AV→List Nat→List Nat→Prop where
 |nil {fl}:Gb P w [] fl [] [] [] []
 |own {t ts fl el u us y ys top N f o}:fl.headD false=true→Cw P t=some el→(BY P el=true∧N= []∨BY P el=false∧DP P t=none)→CK w el (P.cellsOf el) u y top N→Gb P w ts fl.tail us ys f o→Gb P w (t::ts) fl (u::us) (y::ys) (N++f) (top++o)
 |deep {t ts fl el e z l u us y ys top f o}:fl.headD false=true→Cw P t=some el→BY P el=false→DP P t=some (.row e z l)→DC w [.row e z l] [u] [y] top→Gb P w ts fl.tail us ys f o→Gb P w (t::ts) fl (u::us) (y::ys) f (top++o)
 |skip {t ts fl u us y ys f o}:(fl.headD false=true→Cw P t=none)→Gb P w ts fl.tail us ys f o→Gb P w (t::ts) fl (u::us) (y::ys) f o
inductive DF (P:Program) (w:World):List TypeId→List PM→List Value→List AV→List Nat→List Nat→Prop where
 |nil {ms vs}:DF P w [] ms vs [] [] []
 |ro {t ts ms v vs bs f o}:ms.headD .ro= .ro→DF P w ts ms.tail vs bs f o→DF P w (t::ts) ms (v::vs) bs f o
 |va {t ts ms own v vs bs f o}:ms.headD .ro= .va own→DF P w ts ms.tail vs bs f o→DF P w (t::ts) ms (v::vs) bs f o
 |mu {t ts ms own v vs us ys y bs f1 f o1 o}:ms.headD .ro= .mu own→(if Ap P t then v= .agg us.toArray∧y= .agg ys else us= [v]∧ys= [y])→Gb P w (A0 P t) own us ys f1 o1→DF P w ts ms.tail vs bs f o→DF P w (t::ts) ms (v::vs) (y::bs) (f1++f) (o1++o)
 |bx {t ts ms own own' ty b C v vs ys y bs f1 o1 f o}:ms.headD .ro= .bx own own'→J2 P t=some ty→v= .pointer (some ⟨b,0,none⟩)→w.heap[b]?=some (.cells C ty (0,0))→(∀u∈C.toList,u.oneCell'=true)→y= .agg ys→Ca P w (A0 P ty) own' C.toList ys f1 o1→
   DF P w ts ms.tail vs bs f o→DF P w (t::ts) ms (v::vs) (y::bs) (f1++f) (b::o1++o)
section
variable {P:Program} {c:Cx} {w':World}
theorem zwj {mk:Nat→E} {ts:List TypeId} {fl:List Bool} {us:List Value} {rs:List (Option RI)} (h:Gz P c ts fl us rs) (hU: ∀t g,c.K t g→c.U t): ∀{ys:List AV} {f o:List Nat} (j:Nat),Gb P w' ts fl us ys f o→(∀i y,ys[i]?=some y→(mk (j+i)).den c.ρ=y)→
  ∃recs:List AN,Ll mk j rs=recs.map AN.pair∧(recs.flatMap AN.top).Sublist o∧(∀r∈recs,r.new=none∧c.U r.tag∧ ∀hs f,r.bm≠ .gd hs f)∧recs.map AN.tag=Cq rs∧ ∀c',EN c c' w' recs→(∀b∈f,c'.ok b)→ ∀r∈recs,CX c' r.tag r.bm:=by
 induction h with
 |nil=>intro ys f o j hm _;cases hm;exact⟨[],rfl,by simp,by simp,rfl,by simp⟩
 | @row t ts fl v vs u g el rs h1 h2 RJ h3 h4 h5 _ ih=>
  intro ys f o j hm FP;cases hm with
  |skip hh _=>rw [hh h1]at h2;cases h2
  |deep _ k2 k21 k22 _ _=>
   rw [h2]at k2;cases k2;rcases RJ with hh|hh
   ·rw [hh]at k21;cases k21
   ·rw [hh]at k22;cases k22
  | @own _ _ _ el' _ _ y ys top N f o k1 k2 k23 k3 k4=>
   rw [h2]at k2;cases k2;obtain⟨recs,e1,e2,e3,e4,e5⟩:=ih (j+1) k4 (fun i y hy=>by rw [show j+1+i=j+(i+1)from by omega];exact FP (i+1) y (by simpa using hy));have hy:=FP 0 y rfl;refine⟨⟨u,none,top, .row el (P.cellsOf el) g (mk j) (BY P el)⟩::recs,by simp [Ll,e1,AN.pair],by simpa using(List.Sublist.refl top).append e2,fun r hr=> ?_,by simp [Cq,RI.tag,e4],fun c' ha Ax r hr=> ?_⟩
   ·rcases Af.1 hr with rfl|hr
    ·exact⟨rfl,hU _ _ h3,by simp⟩
    ·exact e3 r hr
   ·rcases Af.1 hr with rfl|hr
    ·obtain⟨a1,a2⟩:=ha.K u g h3;have kg:=ha.G _ (List.mem_cons_self ..);simp only at kg;refine⟨a1,fun g' B1=>h5 g' (ha.old u (hU _ _ h3) g' B1),N, ?_,fun b hb=>Ax b (by simp [hb]),fun hd=> ?_,fun _=>by rw [kg]⟩
     rotate_left
     ·rcases k23 with⟨_,h⟩|⟨h,_⟩
      ·subst h;exact⟨rfl,by rw [kg]⟩
      ·rw [h]at hd;cases hd
     have Bm:(mk j).den c.ρ=y:=by simpa using hy
     rw [a2,h4,kg,ha.w,ha.ρ,Bm];exact k3
    ·exact e5 c' (ha.mono fun r hr=>by simp [hr]) (fun b hb=>Ax b (by simp [hb])) r hr
 | @deep t ts fl v vs u g el e z l ep rs h1 h2 RH O4 h3 h4 h5 h6 _ ih=>
  intro ys f o j hm FP;cases hm with
  |skip hh _=>rw [hh h1]at h2;cases h2
  |own _ k2 k23 _ _=>
   rw [h2]at k2;cases k2;rcases k23 with⟨hh,_⟩|⟨_,hh⟩
   ·rw [hh]at RH;cases RH
   ·rw [hh]at O4;cases O4
  | @deep _ _ _ el' e' z' l' _ _ y ys top f o k1 k2 k21 k22 k3 k4=>
   rw [O4]at k22;cases k22;obtain⟨recs,e1,e2,e3,e4,e5⟩:=ih (j+1) k4 (fun i y hy=>by rw [show j+1+i=j+(i+1)from by omega];exact FP (i+1) y (by simpa using hy));have hy:=FP 0 y rfl;refine⟨⟨u,none,top, .deep e z l g (ep+1) (mk j)⟩::recs,by simp [Ll,e1,AN.pair],by simpa using(List.Sublist.refl top).append e2,fun r hr=> ?_,by simp [Cq,RI.tag,e4],fun c' ha Ax r hr=> ?_⟩
   ·rcases Af.1 hr with rfl|hr
    ·exact⟨rfl,hU _ _ h3,by simp⟩
    ·exact e3 r hr
   ·rcases Af.1 hr with rfl|hr
    ·obtain⟨a1,a2⟩:=ha.K u g h3;have kg:=ha.G _ (List.mem_cons_self ..);have ke:=ha.iy _ (List.mem_cons_self ..) rfl;simp only at kg ke;refine⟨a1,fun g' B1=>h5 g' (ha.old u (hU _ _ h3) g' B1),by rw [ke,h6], ?_,by rw [kg]⟩;have Bm:(mk j).den c.ρ=y:=by simpa using hy
     rw [a2,h4,kg,ha.w,ha.ρ,Bm];exact k3
    ·exact e5 c' (ha.mono fun r hr=>by simp [hr]) (fun b hb=>Ax b (by simp [hb])) r hr
 | @none t ts fl v vs rs _ _ ih=>
  intro ys f o j hm FP;have go: ∀{y:AV} {ys':List AV} {f' o':List Nat},ys=y::ys'→Gb P w' ts fl.tail vs ys' f' o'→(∀b∈f',b∈f)→o'.Sublist o→ ∃recs:List AN,Ll mk j (none::rs)=recs.map AN.pair∧(recs.flatMap AN.top).Sublist o∧(∀r∈recs,r.new=none∧c.U r.tag∧ ∀hs f,r.bm≠ .gd hs f)∧recs.map AN.tag=Cq (none::rs)∧ ∀c',EN c c' w' recs→(∀b∈f,c'.ok b)→ ∀r∈recs,CX c' r.tag r.bm:=by rintro y ys' f' o' rfl FO hf hs;obtain⟨recs,e1,e2,e3,e4,e5⟩:=ih (j+1) FO (fun i y hy=>by rw [show j+1+i=j+(i+1)from by omega];exact FP (i+1) y (by simpa using hy));exact⟨recs,by simp [Ll,e1],e2.trans hs,e3,by simp [Cq]at e4 ⊢;exact e4,fun c' ha Ax=>e5 c' ha fun b hb=>Ax b (hf b hb)⟩
  cases hm with
  |skip _ h8=>exact go rfl h8 (fun _ h=>h) (List.Sublist.refl _)
  |own _ _ _ _ h8=>exact go rfl h8 (fun b hb=>by simp [hb]) (List.sublist_append_right _ _)
  |deep _ _ _ _ _ h8=>exact go rfl h8 (fun _ h=>h) (List.sublist_append_right _ _)
theorem u0 (us:List Nat) (hU: ∀u∈us,c.U u): ∃recs:List AN,EY us=recs.map AN.pair∧recs.flatMap AN.top= []∧(∀r∈recs,r.new=none∧c.U r.tag∧ ∀hs f,r.bm≠ .gd hs f)∧recs.map AN.tag=us∧ ∀c',EN c c' w' recs→ ∀r∈recs,CX c' r.tag r.bm:=by
 induction us with
 |nil=>exact⟨[],rfl,rfl,by simp,rfl,by simp⟩
 |cons u us ih=>
  obtain⟨recs,e1,e2,e3,e4,e5⟩:=ih fun u hu=>hU u (by simp [hu]);refine⟨⟨u,none, [], .dead⟩::recs,by simp only [EY]at e1;simp [EY,e1,AN.pair],by simp [e2],fun r hr=> ?_,by simp [e4],fun c' ha r hr=> ?_⟩
  ·rcases Af.1 hr with rfl|hr
   ·exact⟨rfl,hU _ (by simp),by simp⟩
   ·exact e3 r hr
  ·rcases Af.1 hr with rfl|hr
   ·have kg:=ha.G _ (List.mem_cons_self ..);simp only at kg;exact⟨by rw [kg],by rw [kg]⟩
   ·exact e5 c' (ha.mono fun r hr=>by simp [hr]) r hr
structure IV (c:Cx) (w':World) (nx m:Nat) (l:List (Nat × Aj)) (hd o f:List Nat) (recs:List AN):Prop where
 ents:l=recs.map AN.pair
 mi:(recs.flatMap AN.top).Sublist o
 new: ∀r∈recs,r.new.isSome=true→nx≤r.tag∧r.tag<nx+m
 old: ∀r∈recs,r.new=none→r.tag∈hd∧c.U r.tag
 all: ∀t∈hd,∃r∈recs,r.tag=t
 nodup:hd.Nodup→(∀t,nx≤t→t<nx+m→ ¬c.U t)→(recs.map AN.tag).Nodup
 ne: ∀r∈recs,∀hs f,r.bm≠ .gd hs f
 ok: ∀c',EN c c' w' recs→(∀b∈f,c'.ok b)→ ∀r∈recs,CX c' r.tag r.bm
theorem IV.app {nx m m':Nat} {l l':List (Nat × Aj)} {hd KG o o' f f':List Nat} {recs recs':List AN} (h:IV c w' nx m l hd o f recs) (k:IV c w' (nx+m) m' l' KG o' f' recs'):IV c w' nx (m+m') (l++l') (hd++KG) (o++o') (f++f') (recs++recs'):=by
 refine⟨by rw [h.ents,k.ents,List.map_append],by rw [List.flatMap_append];exact h.mi.append k.mi,fun r hr hn=> ?_,fun r hr hn=> ?_,fun t ht=> ?_,fun hn hU=> ?_,fun r hr=> ?_,fun c' ha Ax r hr=> ?_⟩
 ·rcases Ah.1 hr with hr|hr
  ·have:=h.new r hr hn;omega
  ·have:=k.new r hr hn;omega
 ·rcases Ah.1 hr with hr|hr
  ·exact⟨by simp [(h.old r hr hn).1],(h.old r hr hn).2⟩
  ·exact⟨by simp [(k.old r hr hn).1],(k.old r hr hn).2⟩
 ·rcases Ah.1 ht with ht|ht
  ·obtain⟨r,hr,e⟩:=h.all t ht;exact⟨r,by simp [hr],e⟩
  ·obtain⟨r,hr,e⟩:=k.all t ht;exact⟨r,by simp [hr],e⟩
 ·rw [List.nodup_append]at hn;rw [List.map_append,List.nodup_append];refine⟨h.nodup hn.1 fun t h1 h2=>hU t h1 (by omega),k.nodup hn.2.1 fun t h1 h2=>hU t (by omega) (by omega),fun t1 SL t2 KP he=> ?_⟩;obtain⟨q1,Fy,rfl⟩:=List.mem_map.1 SL;obtain⟨q2,Ed,rfl⟩:=List.mem_map.1 KP;cases n1:q1.new with
  |none=>
   obtain⟨a1,a2⟩:=h.old q1 Fy n1;cases n2:q2.new with
   |none=>exact hn.2.2 _ a1 _ (k.old q2 Ed n2).1 he
   |some v2=>have:=k.new q2 Ed (by simp [n2]);exact hU q2.tag (by omega) (by omega) (he▸a2)
  |some v1=>
   have:=h.new q1 Fy (by simp [n1]);cases n2:q2.new with
   |none=>exact hU q1.tag (by omega) (by omega) (he▸(k.old q2 Ed n2).2)
   |some v2=>have:=k.new q2 Ed (by simp [n2]);omega
 ·rcases Ah.1 hr with hr|hr
  ·exact h.ne r hr
  ·exact k.ne r hr
 ·rcases Ah.1 hr with hr|hr
  ·exact h.ok c' (ha.mono fun r hr=>by simp [hr]) (fun b hb=>Ax b (by simp [hb])) r hr
  ·exact k.ok c' (ha.mono fun r hr=>by simp [hr]) (fun b hb=>Ax b (by simp [hb])) r hr
theorem IV.ko {nx:Nat} {l:List (Nat × Aj)} {hd o f:List Nat} {recs:List AN} (e1:l=recs.map AN.pair) (e2:(recs.flatMap AN.top).Sublist o) (e3: ∀r∈recs,r.new=none∧c.U r.tag∧ ∀hs f,r.bm≠ .gd hs f) (e4:recs.map AN.tag=hd) (e5: ∀c',EN c c' w' recs→(∀b∈f,c'.ok b)→ ∀r∈recs,CX c' r.tag r.bm):IV c w' nx 0 l hd o f recs:=by
 refine⟨e1,e2,fun r hr hn=> ?_,fun r hr _=>⟨?_,(e3 r hr).2.1⟩,fun t ht=> ?_,fun hn _=>by rw [e4];exact hn,fun r hr=>(e3 r hr).2.2,fun c' ha Ax=>e5 c' ha Ax⟩
 ·rw [(e3 r hr).1]at hn;cases hn
 ·rw [←e4];exact List.mem_map.2 ⟨r,hr,rfl⟩
 ·rw [←e4]at ht;obtain⟨r,hr,e⟩:=List.mem_map.1 ht;exact⟨r,hr,e⟩
theorem zyk {ts:List TypeId} {ms:List PM} {vs:List Value} {bs:List PA} (h:IF P c ts ms vs bs) (hU: ∀t g,c.K t g→c.U t) {r:Nat}: ∀{Bs:List AV} {f o:List Nat} (nx j:Nat),DF P w' ts ms vs Bs f o→(∀k y,Bs[k]?=some y→(E.proj (.var r) (j+k+1)).den c.ρ=y)→
  Bs.length=Ir bs∧ ∃recs,IV c w' nx (Ko P bs) (after P r nx bs j) (Dq bs) o f recs:=by
 have nilS: ∀nx,IV c w' nx 0 [] [] [] [] []:=fun nx=>⟨rfl,by simp,by simp,by simp,by simp,by simp,by simp,by simp⟩
 induction h with
 |nil=>intro Bs f o nx j hb _;cases hb;exact⟨rfl, [],by simpa [after,Dq,Ko]using nilS nx⟩
 | @ro ts ms v vs bs hm C3 ih=>
  intro Bs f o nx j hb hB;cases hb with
  |nil=>exact ih nx j .nil hB
  |ro _ h8=>exact ih nx j h8 hB
  |va h9 _=>rw [hm]at h9;cases h9
  |mu h9 _ _ _=>rw [hm]at h9;cases h9
  |bx h9 _ _ _ _ _ _ _=>rw [hm]at h9;cases h9
 | @va ts ms own v vs bs us hm KR C3 ih=>
  intro Bs f o nx j hb hB;obtain⟨recs1,e1,e2,e3,e4,e5⟩:=u0 (c:=c) (w':=w') us KR;have s1:IV c w' nx 0 (EY us) us [] [] recs1:= .ko e1 (by rw [e2];exact List.Sublist.refl _) e3 e4 fun c' ha _=>e5 c' ha;cases hb with
  |nil=>obtain⟨h1,recs2,s2⟩:=ih nx j .nil hB;exact⟨by simpa [Ir]using h1,recs1++recs2,by simpa [after,Dq,Ko]using s1.app s2⟩
  |ro h9 _=>rw [hm]at h9;cases h9
  |va _ h8=>obtain⟨h1,recs2,s2⟩:=ih nx j h8 hB;exact⟨by simpa [Ir]using h1,recs1++recs2,by simpa [after,Dq,Ko]using s1.app s2⟩
  |mu h9 _ _ _=>rw [hm]at h9;cases h9
  |bx h9 _ _ _ _ _ _ _=>rw [hm]at h9;cases h9
 | @mu t ts ms own v vs bs us rs hm KR Dm C3 ih=>
  intro Bs f o nx j hb hB;cases hb with
  |ro h9 _=>rw [hm]at h9;cases h9
  |va h9 _=>rw [hm]at h9;cases h9
  |bx h9 _ _ _ _ _ _ _=>rw [hm]at h9;cases h9
  | @mu _ _ _ own2 _ _ us2 ys y Bs f1 f o1 o h9 hg Sr h8=>
   rw [hm]at h9;cases h9;obtain⟨h1,recs2,s2⟩:=ih nx (j+1) h8 (fun k y hy=>by rw [show j+1+k+1=j+(k+1)+1 from by omega];exact hB (k+1) y (by simpa using hy));have hy:=hB 0 y rfl;have NM:us2=us:=by
    split at KR
    ·rename_i AB;rw [if_pos AB]at hg;obtain⟨rfl,_⟩:=hg;exact uH KR
    ·rename_i AB;rw [if_neg AB]at hg;rw [hg.1,KR]
   subst NM;obtain⟨recs1,e1,e2,e3,e4,e5⟩:=zwj (w':=w') (mk:=Ds (.proj (.var r) (j+1)) (Ap P t)) Dm hU 0 Sr (by
    intro i z hz;split at hg
    ·rename_i AB;rw [AB];exact Uw (by rw [←hg.2];exact hy) i z hz
    ·rename_i AB;have GJ:Ap P t=false:=by simpa using AB
     rw [hg.2]at hz;cases i with
     |zero=>simp at hz;subst hz;rw [GJ];simpa [Ds]using hy
     |succ i=>simp at hz)
   have s1:IV c w' nx 0 _ (Cq rs) o1 f1 recs1:= .ko e1 e2 e3 e4 e5;exact⟨by simp [Ir,h1],recs1++recs2,by simpa [after,Dq,Ko]using s1.app s2⟩
 | @bx t ts ms own own' ty v vs bs T b g olds hm DZ hv hK hH hol C3 ih=>
  intro Bs f o nx j hb hB;cases hb with
  |ro h9 _=>rw [hm]at h9;cases h9
  |va h9 _=>rw [hm]at h9;cases h9
  |mu h9 _ _ _=>rw [hm]at h9;cases h9
  | @bx _ _ _ own2 own3 ty2 b2 C _ _ ys y Bs f1 o1 f o h9 Jh C4 hh CF Ib hc h8=>
   rw [hm]at h9;cases h9;rw [DZ]at Jh;cases Jh;have Vz:b2=b:=by rw [hv]at C4;cases C4;rfl
   subst Vz;obtain⟨h1,recs2,s2⟩:=ih (nx+(A0 P ty).length) (j+1) h8 (fun k y hy=>by rw [show j+1+k+1=j+(k+1)+1 from by omega];exact hB (k+1) y (by simpa using hy));have hy:=hB 0 y rfl;obtain⟨recs0,d1,d2,d3,d4,d5⟩:=u0 (c:=c) (w':=w') olds hol;have s0:IV c w' nx 0 (EY olds) olds [] [] recs0:= .ko d1 (by rw [d2];exact List.Sublist.refl _) d3 d4 fun c' ha _=>d5 c' ha;obtain⟨recs1,e1,e2,e3,e4,_,e5⟩:=P4 (c:=c) (nx:=nx) (mk:=Ds (.proj (.var r) (j+1)) true) hc 0 (Uw (by rw [←Ib];exact hy));have nS:=hU _ _ hK;have s1:IV c w' nx (A0 P ty).length ((T, .box ty g (CB P nx (Ds (.proj (.var r) (j+1)) true) 0 (A0 P ty) own').1)::(CB P nx (Ds (.proj (.var r) (j+1)) true) 0 (A0 P ty) own').2) [T] (b2::o1) f1 (⟨T,none, [b2], .box ty g (CB P nx (Ds (.proj (.var r) (j+1)) true) 0 (A0 P ty) own').1⟩::recs1):=by
    refine⟨by simp [e1,AN.pair], ?_,fun q hq hn=> ?_,fun q hq hn=> ?_,by simp,fun _ AS=> ?_,fun q hq=> ?_,fun c' ha Ax q hq=> ?_⟩
    ·simp only [List.flatMap_cons,e2,List.singleton_append];exact List.Sublist.refl _
    ·rcases Af.1 hq with rfl|hq
     ·cases hn
     ·have:=e3 q hq;omega
    ·rcases Af.1 hq with rfl|hq
     ·exact⟨by simp,nS⟩
     ·have:=(e3 q hq).2.2;rw [hn]at this;cases this
    ·simp only [List.map_cons,List.nodup_cons];refine⟨fun hm=> ?_,e4⟩;obtain⟨q,hq,hqt⟩:=List.mem_map.1 hm;have:=e3 q hq;exact AS q.tag (by omega) (by omega) (hqt▸nS)
    ·rcases Af.1 hq with rfl|hq
     ·simp
     ·intro hs f he;obtain⟨q1,q2⟩:=e3 q hq;have:(q.tag,q.bm)∈(CB P nx (Ds (.proj (.var r) (j+1)) true) 0 (A0 P ty) own').2:=by
       rw [e1];exact List.mem_map.2 ⟨q,hq,rfl⟩
      exact Ov _ _ _ _ _ this he
    ·obtain⟨p1,p2⟩:=e5 c' (ha.mono fun r hr=>by simp [hr]) Ax;rcases Af.1 hq with rfl|hq
     ·obtain⟨a1,a2⟩:=ha.K T 0 hK;have kg:=ha.G _ (List.mem_cons_self ..);simp only at kg;exact⟨b2,C,a1,by rw [a2,hH,hv],by rw [kg],by rw [kg],by rw [ha.w];exact hh,CF,p1⟩
     ·exact p2 q hq
   refine⟨by simp [Ir,h1],recs0++((⟨T,none, [b2], .box ty g (CB P nx (Ds (.proj (.var r) (j+1)) true) 0 (A0 P ty) own').1⟩::recs1)++recs2), ?_⟩;have s3:=s0.app (s1.app s2);rw [Nat.zero_add]at s3;refine⟨by simpa [after]using s3.ents,s3.mi,s3.new,fun q hq hn=> ?_,fun t ht=> ?_,fun hn AS=> ?_,s3.ne,s3.ok⟩
   ·have:=s3.old q hq hn;simp only [Dq,List.cons_append,Af,Ah,List.not_mem_nil,or_false,List.nil_append]at this ⊢;exact⟨by rcases this.1 with h|h|h;exact .inr (.inl h);exact .inl h;exact .inr (.inr h),this.2⟩
   ·refine s3.all t ?_;simp only [Dq,List.cons_append,Af,Ah,List.nil_append]at ht ⊢;rcases ht with h|h|h
    ·exact .inr (.inl h)
    ·exact .inl h
    ·exact .inr (.inr h)
   ·refine s3.nodup ?_ AS;simp only [Dq,List.cons_append,List.nodup_cons,List.nodup_append,Ah,not_or,List.nil_append]at hn ⊢;obtain⟨⟨n1,n2⟩,n3,n4,n5⟩:=hn;refine⟨n3,⟨n2,n4⟩,fun a ha b hb=> ?_⟩;rcases Af.1 hb with rfl|hb
    ·rintro rfl;exact n1 ha
    ·exact n5 a ha b hb
end
def OR (P:Program):List TypeId→List Bool→List AV→Bool
 |t::ts,fl,y::ys=>((fl.headD false&&(Cw P t).isSome)||CD P t||y.scalar)&&OR P ts fl.tail ys
 |_,_,_=>true
def V8 (P:Program) (t:TypeId) (fl:List Bool) (x:AV):Bool:=if Gx P t fl then OR P (A0 P t) fl (if Ap P t then x.cells else [x])else CD P t||x.cells.all AV.scalar
def Zc (P:Program):List TypeId→List Bool→List AV→Bool
 |t::ts,fl,x::xs=>V8 P t fl x&&Zc P ts (fl.drop (A0 P t).length) xs
 |_,_,_=>true
def V9 (P:Program) (ts:List TypeId) (fl:List Bool) (R:AV):Bool:=match ts with
 | [t]=>V8 P t fl R
 |ts=>match R with
  | .tup ys=>Zc P ts fl ys
  |_=>true
def Iv (P:Program):List TypeId→List PM→List AV→Bool
 |t::ts,ms,bs=>(match ms.headD .ro with
  | .ro=>Iv P ts ms.tail bs
  | .va _=>Iv P ts ms.tail bs
  | .mu _=>Iv P ts ms.tail bs.tail
  | .bx _ own'=>(match J2 P t,bs with
   |some ty,b::_=>OR P (A0 P ty) own' b.cells
   |_,_=>true)&&Iv P ts ms.tail bs.tail)
 | [],_,_=>true
def Bw:List TypeId→List PM→Bool
 |_::ts,ms=>(match ms.headD .ro with
  | .mu _=>true
  | .bx .. =>true
  |_=>false)||Bw ts ms.tail
 | [],_=>false
def MJ (P:Program) (fn:Func) (s:Hn) (r:AV):Bool:=
 if Bw (fn.params.toList++s.ft) s.cj then(match r with
  | .tup (R::bs)=>V9 P fn.resultTypes.toList s.res R&&Iv P (fn.params.toList++s.ft) s.cj bs
  |_=>false)
 else V9 P fn.resultTypes.toList s.res r
def J3 (P:Program) (w:World) (ts:List TypeId) (fl:List Bool) (v:Value) (R:AV) (f o:List Nat):Prop:=match ts with
 | [t]=>Ex P w t fl v R f o
 |ts=> ∃vs ys,v= .tuple vs.toArray∧R= .tup ys∧IT P w ts fl vs ys f o
structure rJ (P:Program) (fn:Func) (s:Hn) (w:World) (vs:List Value) (rf hs:List Nat) (r:AV) (v:Value) (w':World):Prop where
 ex: ∃R bs f1 o1 f2 o2,r=(match bs with| []=>R|_=> .tup (R::bs))∧J3 P w' fn.resultTypes.toList s.res v R f1 o1∧DF P w' (fn.params.toList++s.ft) s.cj vs bs f2 o2∧(o1++o2).Nodup∧
  (∀b∈o1++o2,(b∈hs∨w.heap.size≤b)∧b<w'.heap.size)∧ ∀b∈f1++f2,b∉o1++o2∧(b∈rf∨b∈hs∨w.heap.size≤b)
 mod:Mod hs w w'
theorem Rel.ng {c:Cx} {n:Nat} {sl:Nat→SV} {hp:Nat→Option Aj} {a:Act} (h:Rel c n sl hp a) {hs:List Nat} (hh: ∀b∈hs,∃t,b∈(c.G t).top):dH c.w (fun b=>b∈hs):=by
 obtain⟨p1,p2,p3⟩:=h.base.pk;refine⟨Nat.le_trans p1 h.base.size,Fs.mono (fun b hb=>h.base.block b (by omega) fun hm=>by have:=p3 b hm;omega) p2,fun b hb=> ?_⟩;obtain⟨t,ht⟩:=hh b hb;rcases h.gw.allow t b (by simp [GI.own,ht])with k|k
 ·have:c.w0.heap.size≤b:=k;omega
 ·exact p3 b k
def RE (P:Program) (s:Hn) (f:Nat) (xs:List AV) (r:AV):Prop:=
 ∃fn,P.funcs[f]?=some fn∧fn.body.isSome=true∧(fn.name== "runtime.NumGoroutine")=false∧MJ P fn s r=true∧xs.length=fn.params.size+fn.nfree∧s.ft.length≤fn.nfree∧
  ∀(w:World) (vs:List Value) (rf lf hs:List Nat),Dr P w (fn.params.toList++s.ft) s.cj s.lo vs xs rf lf hs→(∀b∈hs,b∉rf)→(∀b∈hs,b∉lf)→hs.Nodup→dH w (fun b=>b∈hs)→
   Calls P f vs.toArray w fun e w'=> ∃v,e= .returned v∧rJ P fn s w vs rf hs r v w'
def Cj (P:Program) (sg:BI) (f:Nat) (xs:List AV) (r:AV):Prop:=
 if f<1000000 then∃s,sg f=some s∧RE P s f xs r else RE P {cj:= [],res:= []} (f-1000000) xs r
section
variable {P:Program} {w:World}
theorem tH {v:Value} {x:AV} {f:List Nat} (h:Rd w [v] [x] f) (hx: ∀y∈x.cells,y.scalar=true):f= []:=by
 by_cases AB: ∃cs,x= .agg cs
 ·obtain⟨cs,rfl⟩:=AB;obtain⟨as_,_,_,hr⟩:=JD h rfl;exact HI hr hx
 ·have:x.cells= [x]:=by cases x<;>first|rfl|exact absurd ⟨_,rfl⟩ AB
  rw [this]at hx;exact HI h hx
theorem zyL {t el:TypeId} (h:Cw P t=some el):CD P t=true:=by have hu:=Kc h;simp [CD,BY,A0,Y2,hu]
theorem Ca.flat {ts:List TypeId} {fl:List Bool} {us:List Value} {ys:List AV} {rf hs:List Nat} (h:Ca P w ts fl us ys rf hs) (h1:Eu P ts fl=false) (h2:OR P ts fl ys=true):rf= []:=by
 induction h with
 |nil=>rfl
 |own k1 k2 k23 _ _ ih=>
  simp only [Eu,Bool.or_eq_false_iff]at h1;simp only [OR,Ae]at h2;have hN:=k23;have hw:=h1.1;rw [zyL k2,k1]at hw;rcases hN with⟨_,rfl⟩|⟨q1,q2⟩
  ·rw [ih h1.2 h2.2];rfl
  ·simp [Y9,k2,q1,q2]at hw
 |deep _ _ _ _ _ _ ih=>simp only [Eu,Bool.or_eq_false_iff]at h1;simp only [OR,Ae]at h2;exact ih h1.2 h2.2
 | @rd t ts fl u us y ys f rf hs hn hr _ ih=>
  simp only [Eu,Bool.or_eq_false_iff]at h1;simp only [OR,Ae]at h2;have DB:(fl.headD false&&(Cw P t).isSome)=false:=by
   cases hh:fl.headD false with
   |false=>rfl
   |true=>rw [hn hh];rfl
  have aV:(fl.headD false&&Y9 P t)=false:=by
   cases hh:fl.headD false with
   |false=>rfl
   |true=>simp [Y9,hn hh]
  rw [aV]at h1;rw [DB]at h2;have Hw:CD P t=false:=by simpa using h1.1
  rw [Hw]at h2;have hs:y.scalar=true:=by simpa using h2.1
  rw [HI hr (by simpa using hs),ih h1.2 h2.2];rfl
theorem Ex.flat {t:TypeId} {fl:List Bool} {v:Value} {x:AV} {rf hs:List Nat} (h:Ex P w t fl v x rf hs) (h1:dC P t fl=false) (h2:V8 P t fl x=true):rf= []:=by
 unfold Ex at h;unfold dC at h1;unfold V8 at h2;split at h
 ·rename_i hf;rw [if_pos hf]at h1 h2;obtain⟨us,ys,hg,hc⟩:=h;split at hg
  ·rename_i AB;obtain⟨_,rfl,_⟩:=hg;rw [if_pos AB]at h2;exact hc.flat h1 h2
  ·rename_i AB;obtain⟨_,rfl⟩:=hg;rw [if_neg AB]at h2;exact hc.flat h1 h2
 ·rename_i hf;rw [if_neg hf]at h1 h2;rw [h1]at h2;exact tH h.1 (by simpa using h2)
theorem IT.flat {ts:List TypeId} {fl:List Bool} {vs:List Value} {xs:List AV} {rf hs:List Nat} (h:IT P w ts fl vs xs rf hs) (h1:Db P ts fl=false) (h2:Zc P ts fl xs=true):rf= []:=by
 induction h with
 |nil=>rfl
 |cons hv _ ih=>simp only [Db,Bool.or_eq_false_iff]at h1;simp only [Zc,Ae]at h2;rw [hv.flat h1.1 h2.1,ih h1.2 h2.2];rfl
theorem J3.flat {ts:List TypeId} {fl:List Bool} {v:Value} {R:AV} {f o:List Nat} (h:J3 P w ts fl v R f o) (h1:Db P ts fl=false) (h2:V9 P ts fl R=true):f= []:=by
 match ts,h,h1,h2 with
 | [t],h,h1,h2=>simp only [Db,Bool.or_false]at h1;exact Ex.flat h h1 h2
 | [],h,h1,h2=>obtain⟨vs,ys,_,rfl,hv⟩:=h;exact hv.flat h1 h2
 |t::u::ts,h,h1,h2=>obtain⟨vs,ys,_,rfl,hv⟩:=h;exact hv.flat h1 h2
theorem CK.void {ety sz:Nat} {a:Option Addr} {x:AV} {top N:List Nat} (h:CK w ety sz (.slice a 0 0) x top N):N= []:=by
 obtain⟨xs,_,_,_,⟨_,_,_,h⟩|⟨g,cap,C,hv,h6,_,_,_,_,_,hr⟩⟩:=h
 ·exact h
 ·have h0:xs.length=0:=by injection hv with _ h _;exact h.symm
  have:xs= []:=by cases xs with|nil=>rfl|cons _ _=>simp at h0
  subst this;simp [AK]at hr;cases hr;rfl
theorem Gb.flat {c:Cx} {ts:List TypeId} {fl:List Bool} {us:List Value} {rs:List (Option RI)} (h:Gz P c ts fl us rs): ∀{ys:List AV} {f o:List Nat},Gb P w ts fl us ys f o→rs.any RI.lent=false→f= []:=by
 induction h with
 |nil=>intro ys f o hm _;cases hm;rfl
 |row k1 k2 k23 _ _ _ _ ih=>
  intro ys f o hm hl;simp only [List.any_cons,Bool.or_eq_false_iff,RI.lent]at hl;cases hm with
  |own _ q2 q23 _ q4=>
   rw [k2]at q2;cases q2;rcases q23 with⟨_,rfl⟩|⟨q,_⟩
   ·exact ih q4 hl.2
   ·rw [q]at hl;simp at hl
  |deep _ _ _ _ _ q=>exact ih q hl.2
  |skip _ q=>exact ih q hl.2
 |deep k1 k2 k21 k22 _ _ _ _ _ ih=>
  intro ys f o hm hl;simp only [List.any_cons,Bool.or_eq_false_iff]at hl;cases hm with
  |own _ q2 q23 _ q4=>
   rw [k2]at q2;cases q2;rcases q23 with⟨_,rfl⟩|⟨_,q⟩
   ·exact ih q4 hl.2
   ·rw [q]at k22;cases k22
  |deep _ _ _ _ _ q=>exact ih q hl.2
  |skip _ q=>exact ih q hl.2
 |none hv _ ih=>
  intro ys f o hm hl;simp only [List.any_cons,Bool.or_eq_false_iff]at hl;cases hm with
  |own q1 q2 _ q3 q4=>
   rcases hv q1 with hh|⟨a,rfl⟩
   ·rw [hh]at q2;cases q2
   ·rw [CK.void q3];exact ih q4 hl.2
  |deep _ _ _ _ _ q=>exact ih q hl.2
  |skip _ q=>exact ih q hl.2
theorem DF.flat {c:Cx} {ts:List TypeId} {ms:List PM} {vs:List Value} {bs:List PA} (h:IF P c ts ms vs bs): ∀{Bs:List AV} {f o:List Nat},DF P w ts ms vs Bs f o→DM P bs=false→Iv P ts ms Bs=true→f= []:=by
 induction h with
 |nil=>intro Bs f o hb _ _;cases hb;rfl
 | @ro ts ms v vs bs hm _ ih=>
  intro Bs f o hb h1 h2;cases hb with
  |nil=>rfl
  |ro _ h8=>simp only [Iv,hm]at h2;exact ih h8 h1 h2
  |va h9 _=>rw [hm]at h9;cases h9
  |mu h9 _ _ _=>rw [hm]at h9;cases h9
  |bx h9 _ _ _ _ _ _ _=>rw [hm]at h9;cases h9
 | @va ts ms own v vs bs us hm _ _ ih=>
  intro Bs f o hb h1 h2;cases hb with
  |nil=>rfl
  |ro h9 _=>rw [hm]at h9;cases h9
  |va _ h8=>simp only [Iv,hm]at h2;exact ih h8 h1 h2
  |mu h9 _ _ _=>rw [hm]at h9;cases h9
  |bx h9 _ _ _ _ _ _ _=>rw [hm]at h9;cases h9
 | @mu t ts ms own v vs bs us rs hm KR Dm _ ih=>
  intro Bs f o hb h1 h2;cases hb with
  |ro h9 _=>rw [hm]at h9;cases h9
  |va h9 _=>rw [hm]at h9;cases h9
  | @mu _ _ _ own2 _ _ us2 ys y Bs f1 f o1 o h9 hg Sr h8=>
   rw [hm]at h9;cases h9;simp only [Iv,hm]at h2;simp only [DM,Bool.or_eq_false_iff]at h1;have NM:us2=us:=by
    split at KR
    ·rename_i AB;rw [if_pos AB]at hg;obtain⟨rfl,_⟩:=hg;exact uH KR
    ·rename_i AB;rw [if_neg AB]at hg;rw [hg.1,KR]
   subst NM;rw [Gb.flat Dm Sr h1.1,ih h8 h1.2 h2];rfl
  |bx h9 _ _ _ _ _ _ _=>rw [hm]at h9;cases h9
 | @bx t ts ms own own' ty v vs bs T b g olds hm DZ _ _ _ _ _ ih=>
  intro Bs f o hb h1 h2;cases hb with
  |ro h9 _=>rw [hm]at h9;cases h9
  |va h9 _=>rw [hm]at h9;cases h9
  |mu h9 _ _ _=>rw [hm]at h9;cases h9
  |bx h9 Jh _ _ _ hy hc h8=>rw [hm]at h9;cases h9;rw [DZ]at Jh;cases Jh;simp only [Iv,hm,DZ,Ae,hy,List.tail_cons]at h2;simp only [DM,Bool.or_eq_false_iff]at h1;rw [hc.flat h1.1 h2.1,ih h8 h1.2 h2.2];rfl
theorem iQ {ts:List TypeId} {ms:List PM} {vs:List Value} {Bs:List AV} {f o:List Nat} (h:DF P w ts ms vs Bs f o):Bs= []↔Bw ts ms=false:=by
 induction h with
 |nil=>simp [Bw]
 |ro hm _ ih=>simp only [Bw,hm,Bool.false_or];exact ih
 |va hm _ ih=>simp only [Bw,hm,Bool.false_or];exact ih
 |mu hm _ _ _ _=>simp only [Bw,hm,Bool.true_or];simp
 |bx hm _ _ _ _ _ _ _ _=>simp only [Bw,hm,Bool.true_or];simp
end
section
variable {P:Program} {c:Cx} {n nx:Nat} {sl sl0:Nat→SV} {hp hp0:Nat→Option Aj} {a:Act} {o:Oper} {gs:Gd} {e:AX} {sg:BI} {nv:Nat}
theorem xC {xs:List Operand}: ∀{ss:List SV},(∀x∈xs,∀s,BE sl0 gs x=some s→SR c [s] [a.eval x])→xs.mapM (BE sl0 gs)=some ss→SR c ss (xs.map a.eval):=by
 induction xs with
 |nil=>intro ss _ h;simp at h;subst h;exact .nil
 |cons x xs ih=>intro ss hx h;rw [List.mapM_cons]at h;simp only [Option.bind_eq_bind,Av,Option.pure_def,Ag]at h;obtain⟨s,hs,ss',FZ,rfl⟩:=h;exact(hx x (by simp) s hs).cons (ih (fun y hy=>hx y (by simp [hy])) FZ)
theorem QN: ∀{l:List Nat},Lm l=true→l.Nodup
 | [],_=>by simp
 |x::l,h=>by simp only [Lm,Ae,Bool.not_eq_true',List.contains_eq_mem,decide_eq_false_iff_not]at h;exact List.nodup_cons.2 ⟨h.1,QN h.2⟩
theorem zyE {c1:Cx} {w':World} {recs:List AN} {hs f o:List Nat} (gw:GW c) (hg: ∀t,(c1.G t).top=(c.G t).top∨(c1.G t).top= []) (hA:c1.A=c.A) (Zq:c1.Mu=c.Mu) (VT:c1.w0=c.w0) (hB:c.w0.heap.size≤c.w.heap.size)
  (hn:(recs.map AN.tag).Nodup) (Ch: ∀r∈recs,∀b∈r.top,b∈o) (GR: ∀b∈hs,∃r∈recs,b∈(c.G r.tag).top) {rf:List Nat} (LX: ∀b∈rf,c1.ok b) (hf: ∀b∈f,b∉o∧(b∈rf∨b∈hs∨c.w.heap.size≤b)): ∀b∈f,(c1.dj w' recs).ok b:=by
 intro b hb;obtain⟨h1,h2⟩:=hf b hb;have hM:(c1.dj w' recs).M b→ ∃t,(∀r∈recs,r.tag≠t)∧b∈(c1.G t).top:=by
  rintro⟨t,ht⟩;by_cases hT: ∃r∈recs,r.tag=t
  ·obtain⟨r,hr,rfl⟩:=hT;rw [Cx.dq hn hr]at ht;exact absurd (Ch r hr b ht) h1
  ·rw [Cx.c6 fun r hr hh=>hT ⟨r,hr,hh⟩]at ht;exact⟨t,fun r hr hh=>hT ⟨r,hr,hh⟩,ht⟩
 have sub: ∀t,b∈(c1.G t).top→b∈(c.G t).top:=fun t ht=>by
  rcases hg t with hh|hh
  ·rw [←hh];exact ht
  ·rw [hh]at ht;simp at ht
 rcases h2 with h2|h2|h2
 ·refine⟨fun hm=> ?_,(LX b h2).2⟩;obtain⟨t,_,ht⟩:=hM hm;exact(LX b h2).1 ⟨t,ht⟩
 ·obtain⟨r,hr,VA⟩:=GR b h2;refine⟨fun hm=> ?_, .inr ?_⟩
  ·obtain⟨t,ES,ht⟩:=hM hm;exact gw.cm r.tag t (ES r hr) b (by simp [GI.own,VA]) (by simp [GI.own,sub t ht])
  ·have:=gw.allow r.tag b (by simp [GI.own,VA]);simp only [Cx.dj,Cx.B,VT,Zq]at this ⊢;exact this
 ·refine⟨fun hm=> ?_, .inr (.inl ?_)⟩
  ·obtain⟨t,_,ht⟩:=hM hm;have:=gw.inb t b (by simp [GI.own,sub t ht]);omega
  ·simp only [Cx.dj,Cx.B,VT];omega
theorem zz1 (h:Bg P c n nx sl hp a sl0 hp0 o gs) {cl:Call} {fo:Operand} (ho:o.op= .call cl) (AE:cl.callee= .value fo) {g:Nat} {caps:Bn} (hf:BE sl0 gs fo=some (.fn g caps)) {as_:List SV} (has:cl.args.toList.mapM (BE sl0 gs)=some as_)
  (hg:g<1000000) (he:UG P sg hp0 gs nv nx g (as_++caps.toList)=some e) (A8: ∀c',e.call=some c'→ ∃r,c.ρ[nv]?=some r∧Ip (Cj P sg) c'.fn ((EL.of c'.args).den c.ρ) c.ρ r):Ay P o c n nx sl hp gs a e:=by
 have aM:fo∈o.op.operands:=by simp [ho,Op.operands,Call.operands,AE]
 have aL: ∀x∈cl.args.toList,x∈o.op.operands:=fun x hx=>by
  have:x∈cl.args:=by simpa using hx
  simp [ho,Op.operands,Call.operands,AE,this]
 have LX:=h.cu hf aM;generalize ZY:a.eval fo=fv at LX;cases LX with
 |fn R4 h8=>
 rename_i capv;have Aw:=(xC (a:=a) (fun x hx s hs=>h.cu hs (aL x hx)) has).app R4;unfold UG at he;split at he
 ·rename_i fn s GO Jk;split at he
  ·cases he
  rename_i hlen;simp only [Bool.or_eq_true,not_or,Bool.not_eq_true,bne_eq_false_iff_eq]at hlen;split at he
  ·cases he
  rename_i es bs us uz A1;split at he
  ·cases he
  rename_i B2;simp only [Bool.or_eq_true,Bool.not_eq_true',not_or,Bool.not_eq_false,Bool.not_eq_true]at B2;obtain⟨⟨aT,Sx⟩,Sy⟩:=B2;have Sz:=QN aT;have GK: ∀u∈us,u∉Dq bs:=fun u hu hh=>by rw [List.any_eq_false]at Sx;have:=Sx u hu;simp only [List.contains_eq_mem,decide_eq_true_eq]at this;exact this hh
  have KB: ∀u∈uz,u∉Dq bs:=fun u hu hh=>by rw [List.any_eq_false]at Sy;have:=Sy u hu;simp only [List.contains_eq_mem,decide_eq_true_eq]at this;exact this hh
  simp only at he;split at he
  ·cases he
  rename_i BV;simp only [Nat.not_le]at BV;split at he
  ·cases he
  rename_i Jd;split at he
  ·cases he
  rename_i fz GP;have hK: ∀t g,c.K t g→c.U t:=h.rel.bu;obtain⟨rf,lf,hs,q1,q2,qz,q3,q4,q5,q6⟩:=vW (P:=P) h.rel.base h.eh h.gs hK (as_++caps.toList) A1 Aw (by rw [hlen.1.2,Ao,Array.length_toList];have:=hlen.2;simp only [decide_eq_false_iff_not,Nat.not_lt]at this;omega);obtain⟨fts,Hr,Se⟩: ∃fts,Dt hp0 gs fts=some fz∧ ∀t∈fts,t∈us:=by
   split at GP
   ·exact⟨us,GP,fun t ht=>ht⟩
   ·simp only [Ag]at GP;subst GP;exact⟨[],rfl,by simp⟩
  have CZ:=h.rel.freeze h.hp h.gs Hr;have LF: ∀t∈fz.map (·.1),t∈us:=fun t ht=>by obtain⟨⟨t',e'⟩,hm,rfl⟩:=List.mem_map.1 ht;exact Se _ ((Om h.gs Hr).1 t' e' hm).1
  have RP: ∀t,((c.bq (fz.map (·.1))).G t).top=(c.G t).top∨((c.bq (fz.map (·.1))).G t).top= []:=fun t=>by
   simp only [Cx.bq];split
   ·exact .inr rfl
   ·exact .inl rfl
  have hGh: ∀t∈Dq bs,(c.bq (fz.map (·.1))).G t=c.G t:=fun t ht=>by simp only [Cx.bq];rw [if_neg];intro hh;exact GK t (LF t hh) ht
  have nF: ∀t∈Dq bs,(c.bq (fz.map (·.1))).E t=c.E t:=fun t ht=>by simp only [Cx.bq];rw [if_neg];intro hh;exact GK t (LF t hh) ht
  have bL:hs.Nodup:=by
   rw [q3];have: ∀l:List Nat,l.Nodup→(l.flatMap fun t=>(c.G t).top).Nodup:=by
    intro l
    induction l with
    |nil=>intro _;simp
    |cons t l ih=>intro hl;rw [List.nodup_cons]at hl;rw [List.flatMap_cons,List.nodup_append];refine⟨(List.nodup_append.1 (h.rel.gw.nodup t)).1,ih hl.2,fun x hx y hy G2=> ?_⟩;subst G2;obtain⟨u,hu,cA⟩:=List.mem_flatMap.1 hy;exact h.rel.gw.cm t u (fun hh=>hl.1 (hh▸hu)) x (by simp [GI.own,hx]) (by simp [GI.own,cA])
   exact this _ Sz
  have I9: ∀b∈hs,∃t∈Dq bs,b∈(c.G t).top:=fun b hb=>by rw [q3]at hb;exact List.mem_flatMap.1 hb
  have FJ: ∀b∈hs,b∉rf:=fun b hb hr=>by
   obtain⟨t,ht,Co⟩:=I9 b hb;rcases q2 b hr with hh|⟨u,hu,H3⟩
   ·exact hh.1 ⟨t,Co⟩
   ·exact h.rel.gw.cm t u (fun hh=>GK u hu (hh▸ht)) b (by simp [GI.own,Co]) (by simp [GI.own,H3])
  have I5: ∀b∈hs,b∉lf:=fun b hb hr=>by
   obtain⟨t,ht,Co⟩:=I9 b hb;rcases qz b hr with(hh|⟨u,hu,H3⟩)|⟨h1,h2⟩
   ·exact hh.1 ⟨t,Co⟩
   ·exact h.rel.gw.cm t u (fun hh=>KB u hu (hh▸ht)) b (by simp [GI.own,Co]) (by simp [GI.own,H3])
   ·rcases h.rel.gw.allow t b (by simp [GI.own,Co])with k|k
    ·have:c.w0.heap.size≤b:=k;omega
    ·exact h2 k
  have E2: ∃(val:SV) (l:List (Nat × Aj)),e={call:=some ⟨.inl g,es⟩,val:=val,bm:=fz++(Vb gs l++after P nv (nx+(fn.resultTypes.toList.flatMap (A0 P)).length) bs 0)}∧
    ∀(R:AV) (w':World) (v:Value) (f1 o1:List Nat),J3 P w' fn.resultTypes.toList s.res v R f1 o1→(if Ir bs=0 then E.var nv else .proj (.var nv) 0).den c.ρ=R→ ∃recs:List AN,l=recs.map AN.pair∧recs.flatMap AN.top=o1∧(∀r∈recs,nx≤r.tag∧r.tag<nx+(fn.resultTypes.toList.flatMap (A0 P)).length∧r.new.isSome)∧(recs.map AN.tag).Nodup∧
     (∀r∈recs,∀hs f,r.bm≠ .gd hs f)∧ ∀c',EN c c' w' recs→(∀b∈f1,c'.ok b)→SR c' [val] [v]∧ ∀r∈recs,CX c' r.tag r.bm:=by
   have A9: ∀{l:List (Nat × Aj)} {recs:List AN},l=recs.map AN.pair→(∀t x,(t,x)∈l→ ∀hs f,x≠ .gd hs f)→ ∀r∈recs,∀hs f,r.bm≠ .gd hs f:=by rintro l recs rfl hh r hr;exact hh r.tag r.bm (List.mem_map.2 ⟨r,hr,rfl⟩)
   have fvne: ∀(t:TypeId) (k:Nat) (fl:List Bool) (x:E) (u:Nat) (y:Aj),(u,y)∈(OF P k t fl x).2→ ∀hs f,y≠ .gd hs f:=by
    intro t k fl x u y hy hs f;unfold OF at hy;split at hy
    ·exact Ov _ _ _ _ _ hy
    ·simp at hy
   split at he
   ·rename_i t SP;simp only [Ag]at he;subst he;refine⟨_,_,rfl,fun R w' v f1 o1 hr hR=> ?_⟩;rw [SP]at hr;obtain⟨recs,e1,e2,e3,e4,e5⟩:=tG (c:=c) (nx:=nx) (x:=if Ir bs=0 then E.var nv else .proj (.var nv) 0) (show Ex P w' t s.res v R f1 o1 from hr) hR;exact⟨recs,e1,e2,by simpa [SP]using e3,e4,A9 e1 (fvne _ _ _ _),e5⟩
   ·rename_i SP;simp only [Ag]at he;subst he;refine⟨_,_,rfl,fun R w' v f1 o1 hr hR=> ?_⟩;obtain⟨vs,ys,rfl,rfl,hv⟩: ∃vs ys,v= .tuple vs.toArray∧R= .tup ys∧IT P w' fn.resultTypes.toList s.res vs ys f1 o1:=by
     unfold J3 at hr;split at hr
     ·rename_i t ht;exact absurd ht (SP t)
     ·exact hr
    obtain⟨recs,e1,e2,e3,e4,e5⟩:=zr4 (c:=c) (x:=if Ir bs=0 then E.var nv else .proj (.var nv) 0) hv nx 0 (fun k y hy=>by show AV.proj ((if Ir bs=0 then E.var nv else .proj (.var nv) 0).den c.ρ) (0+k)=y;rw [hR];simp [AV.proj,hy])
    have fvsne: ∀(ts:List TypeId) (k:Nat) (fl:List Bool) (x:E) (i u:Nat) (y:Aj),(u,y)∈(Mx P k ts fl x i).2→ ∀hs f,y≠ .gd hs f:=by
     intro ts
     induction ts with
     |nil=>intro k fl x i u y hy;simp [Mx]at hy
     |cons t ts ih=>
      intro k fl x i u y hy;simp only [Mx,Ah]at hy;rcases hy with hy|hy
      ·exact fvne _ _ _ _ _ _ hy
      ·exact ih _ _ _ _ _ _ hy
    exact⟨recs,e1,e2,e3,e4,A9 e1 (fvsne _ _ _ _ _),fun c' ha Ax=>⟨.tup (by rw [Bn.az];exact(e5 c' ha Ax).1) .nil,(e5 c' ha Ax).2⟩⟩
  obtain⟨val,l,rfl,NI⟩:=E2;obtain⟨r,hr,Ax⟩:=A8 _ rfl;have NG: ∃s',sg g=some s'∧RE P s' g ((EL.of es).den c.ρ) r:=by have Ax:Cj P sg g ((EL.of es).den c.ρ) r:=Ax;unfold Cj at Ax;rwa [if_pos hg]at Ax
  obtain⟨s',Ba,fn',I8,DJ,DK,BD,_,_,Fk⟩:=NG;rw [Jk]at Ba;cases Ba;rw [GO]at I8;cases I8;rw [EL.de]at Fk;have A8:=Fk c.w _ rf lf hs q1 FJ I5 bL (h.rel.ng fun b hb=>by obtain⟨t,_,ht⟩:=I9 b hb;exact⟨t,ht⟩);have ex:(execOp a.eval o).run P c.w= .ok (.enter g (cl.args.map a.eval++capv.toArray)) c.w:=by
   have hb:fn.body.isNone=false:=by simpa using DJ
   simp only [execOp,ho,resolve,AE,ZY,Deferred.ofValue,Sem.run_bind,Sem.run_pure,Result.andThen_ok,invoke,callFunc,run_program,GO];simp [DK,hb]
  intro next Q hk
  unfold Oper.wp;rw [ex,Oper.upon_enter];have M8:cl.args.map a.eval++capv.toArray=((cl.args.toList.map a.eval)++capv).toArray:=by apply Array.ext';simp
  rw [M8];refine A8.mono ?_;rintro e' w' ⟨v,rfl,⟨R,Bs,f1,o1,f2,o2,KN,AQ,E0,GV,SC,Sc⟩,C8⟩;show next (a.put o.dst v) w'
  have hBn: ∀k y,Bs[k]?=some y→(E.proj (.var nv) (0+k+1)).den c.ρ=y:=by
   intro k y hy;cases Bs with
   |nil=>simp at hy
   |cons B Bs=>simp only [E.den,hr,Option.getD_some,KN,AV.proj,Nat.zero_add,List.getElem?_cons_succ,hy]
  obtain⟨Sv,recsB,hB⟩:=zyk (w':=w') q4 hK (r:=nv) (nx+(fn.resultTypes.toList.flatMap (A0 P)).length) 0 E0 hBn;have hR:(if Ir bs=0 then E.var nv else .proj (.var nv) 0).den c.ρ=R:=by
   cases Bs with
   |nil=>rw [if_pos (by simpa using Sv.symm)];simp only [E.den,hr,Option.getD_some,KN]
   |cons B Bs=>rw [if_neg (by rw [←Sv];simp)];simp [E.den,hr,KN,AV.proj]
  obtain⟨recsV,v1,v2,v3,v4,v5,v6⟩:=NI R w' v f1 o1 AQ hR;have FR: ∀t,nx≤t→t<nx+((fn.resultTypes.toList.flatMap (A0 P)).length+Ko P bs)→ ¬c.U t:=fun t h1 h2=>h.new t h1 (by omega);have RN:=hB.nodup Sz fun t h1 h2=>FR t (by omega) (by omega);have CE:((recsV++recsB).map AN.tag).Nodup:=by
   rw [List.map_append,List.nodup_append];refine⟨v4,RN,fun t1 h1 t2 h2 he=> ?_⟩;obtain⟨p1,aZ,rfl⟩:=List.mem_map.1 h1;obtain⟨p2,VJ,rfl⟩:=List.mem_map.1 h2;have a1:=v3 p1 aZ;cases hn:p2.new with
   |none=>exact FR p1.tag (by omega) (by omega) (he▸(hB.old p2 VJ hn).2)
   |some _=>have:=hB.new p2 VJ (by simp [hn]);omega
  have Hv: ∀r∈recsV++recsB,r.new.isSome=true→nx≤r.tag∧r.tag<nx+((fn.resultTypes.toList.flatMap (A0 P)).length+Ko P bs):=fun r hr hn=>by
   rcases Ah.1 hr with hr|hr
   ·have:=v3 r hr;omega
   ·have:=hB.new r hr hn;omega
  have Et:((recsV++recsB).flatMap AN.top).Sublist (o1++o2):=by rw [List.flatMap_append,v2];exact(List.Sublist.refl _).append hB.mi
  have Z5: ∀b∈hs,∃r∈recsV++recsB,b∈(c.G r.tag).top:=fun b hb=>by obtain⟨t,ht,Co⟩:=I9 b hb;obtain⟨r,hr,rfl⟩:=hB.all t ht;exact⟨r,by simp [hr],Co⟩
  have Sl: ∀b∈hs,∃r∈recsV++recsB,b∈((c.bq (fz.map (·.1))).G r.tag).top:=fun b hb=>by obtain⟨t,ht,Co⟩:=I9 b hb;obtain⟨r,hr,rfl⟩:=hB.all t ht;exact⟨r,by simp [hr],by rw [hGh _ ht];exact Co⟩
  have Jl: ∀r∈recsV++recsB,∀b∈r.top,b∈o1++o2:=fun r hr b hb=>Et.subset (List.mem_flatMap.2 ⟨r,hr,hb⟩);have NB: ∀b∈f1++f2,((c.bq (fz.map (·.1))).dj w' (recsV++recsB)).ok b:=by
   cases VR:(Db P fn.resultTypes.toList s.res||DM P bs)with
   |false=>
    simp only [Bool.or_eq_false_iff]at VR;have E1:V9 P fn.resultTypes.toList s.res R=true∧Iv P (fn.params.toList++s.ft) s.cj Bs=true:=by
     unfold MJ at BD;cases M5:Bs with
     |nil=>
      rw [if_neg (by rw [(iQ E0).1 M5];simp)]at BD;rw [M5]at KN;rw [KN]at BD;refine⟨BD, ?_⟩;have: ∀(ts:List TypeId) (ms:List PM),Iv P ts ms []=true:=by
       intro ts
       induction ts with
       |nil=>intro ms;rfl
       |cons t ts ih=>
        intro ms;unfold Iv;split
        ·exact ih _
        ·exact ih _
        ·exact ih _
        ·split
         ·rename_i hh;cases hh
         ·simpa using ih _
      exact this _ _
     |cons B Bs'=>
      rw [if_pos (by
       cases hh:Bw (fn.params.toList++s.ft) s.cj with
       |true=>rfl
       |false=>rw [(iQ E0).2 hh]at M5;cases M5)]at BD
      rw [KN,M5]at BD;simpa using BD
    have e1:f1= []:=AQ.flat VR.1 E1.1;have e2:f2= []:=DF.flat q4 E0 VR.2 E1.2;subst e1;subst e2;simp
   |true=>rw [VR]at Jd GP;simp only [Bool.true_and,Bool.not_eq_true',Bool.not_eq_false]at Jd;simp only [if_true]at GP;exact zyE (rf:=rf) h.rel.gw RP rfl rfl rfl h.rel.base.size CE Jl Z5 (fun b hb=>Uc h.rel h.eh h.gs GP (by simpa using Jd) (q2 b hb)) Sc
  have Sa:after P nv (nx+(fn.resultTypes.toList.flatMap (A0 P)).length) bs 0=recsB.map fun r=>(r.tag,CC gs r.bm):=by
   cases Fj:bs with
   |nil=>
    have:=hB.ents;rw [Fj]at this;simp only [after]at this;have:recsB= []:=by simpa using this.symm
    rw [this];rfl
   |cons b bs'=>have ER:=q6 (by rw [Fj];simp);rw [←Fj,hB.ents,ER];rfl
  have Bk:Vb gs l++after P nv (nx+(fn.resultTypes.toList.flatMap (A0 P)).length) bs 0=(recsV++recsB).map fun r=>(r.tag,CC gs r.bm):=by rw [Sa,List.map_append];congr 1;rw [v1];simp [Vb,AN.pair]
  obtain⟨E5,BK⟩:=CZ.changes (w':=w') (recs:=recsV++recsB) (hs:=hs) (gs:=gs) h.gs C8 CE (fun r hr hn=>by have:=Hv r hr hn;exact FR _ this.1 this.2) Sl (Et.nodup GV) (fun r hr b hb=>SC b (Jl r hr b hb))
   (fun r hr=>by
    rcases Ah.1 hr with hr|hr
    ·exact v5 r hr
    ·exact hB.ne r hr)
   (fun _ r hr=>by
    have aft:=Cx.dk (c:=c.bq (fz.map (·.1))) (w':=w') (recs:=recsV++recsB) h.rel.bu CE (fun r hr hn=>by have:=Hv r hr hn;exact FR _ this.1 this.2);have aft':EN c ((c.bq (fz.map (·.1))).dj w' (recsV++recsB)) w' (recsV++recsB):=⟨aft.ρ,aft.w,aft.G,aft.new,aft.K,aft.old,aft.kr,fun r hr DB=>(aft.iy r hr DB).trans (by
     rcases Ah.1 hr with hr|hr
     ·have:=(v3 r hr).2.2;rw [DB]at this;cases this
     ·rw [nF _ (hB.old r hr DB).1])⟩
    rcases Ah.1 hr with hr|hr
    ·exact(v6 _ (aft'.mono fun r hr=>by simp [hr]) fun b hb=>NB b (by simp [hb])).2 r hr
    ·exact hB.ok _ (aft'.mono fun r hr=>by simp [hr]) (fun b hb=>NB b (by simp [hb])) r hr)
  have aft:=Cx.dk (c:=c.bq (fz.map (·.1))) (w':=w') (recs:=recsV++recsB) h.rel.bu CE (fun r hr hn=>by have:=Hv r hr hn;exact FR _ this.1 this.2);have aft':EN c ((c.bq (fz.map (·.1))).dj w' (recsV++recsB)) w' (recsV++recsB):=⟨aft.ρ,aft.w,aft.G,aft.new,aft.K,aft.old,aft.kr,fun r hr DB=>(aft.iy r hr DB).trans (by
     rcases Ah.1 hr with hr|hr
     ·have:=(v3 r hr).2.2;rw [DB]at this;cases this
     ·rw [nF _ (hB.old r hr DB).1])⟩
  have Jn:=(v6 _ (aft'.mono fun r hr=>by simp [hr]) fun b hb=>NB b (by simp [hb])).1;rw [←Bk,←OI]at E5;refine hk _ ((c.bq (fz.map (·.1))).dj w' (recsV++recsB)) ⟨rfl,rfl,rfl,rfl,fun t ht=> ?_⟩ (E5.put (Jn.mkGd gs h.gs) o.dst);rcases ht with ht|⟨r,hr,rfl⟩
  ·exact .inl ht
  ·cases hn:r.new with
   |none=>
    rcases Ah.1 hr with hr|hr
    ·have:=(v3 r hr).2.2;rw [hn]at this;cases this
    ·exact .inl (hB.old r hr hn).2
   |some _=>have:=Hv r hr (by simp [hn]);exact .inr ⟨this.1,by simp only [By];omega⟩
 ·cases he
end
def B4 (c:Cx) (us:List Nat):List Nat:=us.flatMap fun t=>(c.G t).top
theorem iS (c:Cx):B4 c []= []:=rfl
theorem Yd (c:Cx) (u:Nat) (us:List Nat):B4 c (u::us)=(c.G u).top++B4 c us:=by simp [B4]
theorem Jw (c:Cx) (us vs:List Nat):B4 c (us++vs)=B4 c us++B4 c vs:=by simp [B4]
theorem QL {c:Cx} {us:List Nat} {b:Nat}:b∈B4 c us↔ ∃t∈us,b∈(c.G t).top:=by simp [B4]
theorem X7 {c:Cx} (gw:GW c): ∀{l:List Nat},l.Nodup→(B4 c l).Nodup
 | [],_=>by simp [B4]
 |t::l,hl=>by
  rw [Yd,List.nodup_append];rw [List.nodup_cons]at hl;refine⟨?_,X7 gw hl.2,fun a ha b hb KA=> ?_⟩
  ·have:=gw.nodup t;simp only [GI.own]at this;exact(List.nodup_append.1 this).1
  ·subst KA;obtain⟨u,hu,H3⟩:=QL.1 hb;exact gw.cm t u (fun hh=>hl.1 (hh▸hu)) a (by simp [GI.own,ha]) (by simp [GI.own,H3])
section
variable {P:Program} {c:Cx} {hp:Nat→Option Aj} {gs:Gd}
theorem lO {m:Nat} {u g:Nat} {x y:E} (hx:Bf hp gs m (.own u g)=some x) (hy:Ii hp gs u g=some y):x=y:=by
 cases m with
 |zero=>simp [Bf]at hx
 |succ m=>simp only [Bf,hy,Ag]at hx;exact hx.symm
theorem yD {m:Nat} {x:E} (h:Bf hp gs m .emp=some x):x= .lst .nil:=by
 cases m with
 |zero=>simp [Bf]at h
 |succ m=>simp [Bf]at h;exact h.symm
theorem zwb (eh:EH c hp) (k:Bb c.ρ gs) {d:DT} {s:SV} {us:List Nat} {ck:List Cn} {v:Value} {x:E} {m:Nat} (h:mZ hp gs d s=some (us,ck)) (hs:SR c [s] [v]) (hx:Bf hp gs m s=some x) (hc: ∀q∈ck,q.den c.ρ):
  DC c.w [d] [v] [x.den c.ρ] (B4 c us)∧ ∀u∈us,∃g,c.K u g:=by
 unfold mZ at h;split at h
 ·rename_i y;simp only [Ag,Prod.mk.injEq]at h;obtain⟨rfl,rfl⟩:=h;rw [Km hx];cases hs with
  |e h1 h2 h3=>
   rename_i f;have EU:(y.den c.ρ).scalar=true:=by
    cases hl:Ta y with
    |true=>cases y<;>simp [Ta]at hl<;>rfl
    |false=>rw [hl]at hc;exact(BJ hc).2.2.2 rfl
   have hf:f= []:=HI h1 (by simpa using EU);subst hf;exact⟨.flat h1 .nil,by simp⟩
 ·split at h
  ·rename_i hh;simp only [Ag,Prod.mk.injEq]at h;obtain⟨rfl,rfl⟩:=h;rw [K7 hx];cases hs with
   |b8 _=>exact⟨.void hh.1 hh.2 .nil,by simp⟩
  ·cases h
 ·split at h
  ·rename_i hh;simp only [Ag,Prod.mk.injEq]at h;obtain⟨rfl,rfl⟩:=h;rw [yD hx];cases hs with
   |emp _=>exact⟨.void hh.1 hh.2 .nil,by simp⟩
  ·cases h
 ·rename_i e z l u g;split at h
  ·rename_i e' z' l' g' ep y hl;split at h
   ·rename_i hh;obtain⟨rfl,rfl,rfl,hb⟩:=hh;simp only [Ag,Prod.mk.injEq]at h;obtain⟨rfl,rfl⟩:=h;obtain⟨q1,q2,q3,q4,q5⟩:=eh u _ (CH hl k);rw [lO (y:=y) hx (by simp only [Ii,hl,if_true])];have hb:=AP.of_eq hb;subst hb;rw [AP.ct]at q4;cases hs with
    |own k1 k2 _=>rw [k2]at q4;exact⟨by rw [Yd,iS,List.append_nil];exact q4,fun w hw=>by simp at hw;subst hw;exact⟨_,k1⟩⟩
   ·cases h
  ·rename_i e' z' g' y hl;split at h
   ·rename_i hh;obtain⟨rfl,rfl,rfl,hf,hlen⟩:=hh;simp only [Ag,Prod.mk.injEq]at h;obtain⟨rfl,rfl⟩:=h;obtain⟨q1,q2,N,q4,q5,q6,q7⟩:=eh u _ (CH hl k);obtain⟨hN,_⟩:=q6 rfl;have hN:N= []:=hN;subst hN;rw [lO (y:=y) hx (by simp only [Ii,hl,if_true])];cases hs with
    |own k1 k2 _=>rw [k2]at q4;exact⟨by rw [Yd,iS,List.append_nil];exact DC.lr q4 hf hlen,fun w hw=>by simp at hw;subst hw;exact⟨_,k1⟩⟩
   ·cases h
  ·cases h
 ·cases h
theorem iB (eh:EH c hp) (k:Bb c.ρ gs): ∀(ds:List DT) {ss:List SV} {us:List Nat} {ck:List Cn} {vs:List Value} {xs:EL} {m:Nat},MQ hp gs ds ss=some (us,ck)→SR c ss vs→Cc hp gs m ss=some xs→(∀q∈ck,q.den c.ρ)→
  DC c.w ds vs (xs.den c.ρ) (B4 c us)∧ ∀u∈us,∃g,c.K u g
 | [], [],us,ck,vs,xs,m,h,hs,hx,hc=>by
  simp [MQ]at h;obtain⟨rfl,rfl⟩:=h;cases hs;cases m with
  |zero=>simp [Cc]at hx
  |succ m=>simp [Cc]at hx;subst hx;exact⟨.nil,by simp⟩
 | [],_::_,us,ck,vs,xs,m,h,hs,hx,hc=>by simp [MQ]at h
 |_::_, [],us,ck,vs,xs,m,h,hs,hx,hc=>by simp [MQ]at h
 |d::ds,s::ss,us,ck, [],xs,m,h,hs,hx,hc=>by have:=hs.len;simp at this
 |d::ds,s::ss,us,ck,v::vs,xs,m,h,hs,hx,hc=>by
  obtain⟨j,y,ys,rfl,hy,De,rfl⟩:=Ka hx;obtain⟨r1,r2⟩:=hs.cd;unfold MQ at h;split at h
  ·rename_i us1 ck1 us2 ck2 h1 h2;simp only [Ag,Prod.mk.injEq]at h;obtain⟨rfl,rfl⟩:=h;obtain⟨q1,q2⟩:=zwb eh k h1 r1 hy fun q hq=>hc q (by simp [hq]);obtain⟨q3,q4⟩:=iB eh k ds h2 r2 De fun q hq=>hc q (by simp [hq]);refine⟨by rw [Jw];exact q1.app q3,fun u hu=> ?_⟩;rcases Ah.1 hu with hu|hu
   ·exact q2 u hu
   ·exact q4 u hu
  ·cases h
theorem uM (eh:EH c hp) (k:Bb c.ρ gs) {t:TypeId} {ds:List DT} {s:SV} {us:List Nat} {ck:List Cn} {v:Value} {x:E} (GL:ds.length=P.cellsOf t) (hg:Ap P t=true∨P.cellsOf t=1) (h:Rh P hp gs t ds s=some (x,us,ck)) (hs:SR c [s] [v]) (hc: ∀q∈ck,q.den c.ρ):
  DC c.w ds v.cells.toList (x.den c.ρ).cells (B4 c us)∧(∀u∈v.cells.toList,u.oneCell'=true)∧(x.den c.ρ).cells.length=P.cellsOf t∧v.cells.size=P.cellsOf t∧
   (if Ap P t then∃cs,x.den c.ρ= .agg cs else(∀cs,x.den c.ρ≠ .agg cs)∧ ∀cs,x.den c.ρ≠ .tup cs)∧ ∀u∈us,∃g,c.K u g:=by
 unfold Rh at h;split at h
 ·cases h
 rename_i y hy;split at h
 ·rename_i E1;simp only [Ag,Prod.mk.injEq]at h;obtain⟨rfl,rfl,rfl⟩:=h;obtain⟨f,q1,q2⟩:=HM eh k AT hy hs AT (Nat.le_refl _);obtain⟨c1,c2,c3,c4⟩:=BJ hc;have E2:if Ap P t then∃cs,y.den c.ρ= .agg cs∧cs.length=P.cellsOf t else(∀cs,y.den c.ρ≠ .agg cs)∧ ∀cs,y.den c.ρ≠ .tup cs:=by
   split
   ·rename_i AB;obtain⟨cs,Bj⟩:=c3 AB;exact⟨cs,Bj,by rw [Bj]at c1;exact c1⟩
   ·rename_i AB;have:=c4 (by simpa using AB);exact⟨fun cs Bj=>by rw [Bj]at this;simp [AV.scalar]at this,fun cs Bj=>by rw [Bj]at this;simp [AV.scalar]at this⟩
  have hf:f= []:=by
   cases nX:Ap P t with
   |true=>obtain⟨cs,Bj⟩:=c3 nX;obtain⟨as_,rfl,_,r⟩:=JD q1 Bj;exact HI r (by rw [Bj]at c2;exact c2)
   |false=>exact HI q1 (by simpa using c4 nX)
  subst hf;obtain⟨o1,o2,o3,o4⟩:=kB (P:=P) q1 hg E2;refine⟨DC.mo o1 E1 (by rw [GL];simpa using o4.symm),o2,o3,o4, ?_,by simp⟩;split at E2
  ·rename_i AB;rw [if_pos AB];obtain⟨cs,Bj,_⟩:=E2;exact⟨cs,Bj⟩
  ·rename_i AB;rw [if_neg AB];exact E2
 ·rename_i FT;split at h
  ·cases h
  rename_i AB;have AB:(HH s).2=Ap P t:=by simpa using AB
  obtain⟨⟨us',ck'⟩,hr,h⟩:=At.1 h;simp only [Prod.mk.injEq]at h;obtain⟨rfl,rfl,rfl⟩:=h;have single:Ap P t=false→MQ hp gs ds [s]=some (us',ck')→DC c.w ds v.cells.toList (y.den c.ρ).cells (B4 c us')∧(∀u∈v.cells.toList,u.oneCell'=true)∧(y.den c.ρ).cells.length=P.cellsOf t∧v.cells.size=P.cellsOf t∧
   (if Ap P t then∃cs,y.den c.ρ= .agg cs else(∀cs,y.den c.ρ≠ .agg cs)∧ ∀cs,y.den c.ρ≠ .tup cs)∧ ∀u∈us',∃g,c.K u g:=by
   intro AB hr;have Bo:Cc hp gs (AT+1) [s]=some (.cons y .nil):=by unfold Cc;rw [hy];rfl
   obtain⟨q1,q2⟩:=iB eh k ds hr hs Bo hc;have nU:=q1.len;simp only [EL.den,Ar,List.length_nil]at nU
   match ds,nU,q1,FT,GL with
   | [d],_,q1,FT,GL=>
    cases d with
    |flat=>simp [DT.br]at FT
    |row e z l=>
     obtain⟨p,q,r,rfl⟩:=q1.head;obtain⟨xs,Cu⟩: ∃xs,y.den c.ρ= .sl xs:=by
      obtain⟨_,_,⟨_,_,hx,_⟩|⟨_,_,_,_,_,_,hx,_⟩⟩:=q1.inv
      ·exact⟨_,hx⟩
      ·exact⟨_,hx⟩
     rw [if_neg (by rw [AB];simp)];refine⟨?_,by simp [Value.cells,Value.oneCell'],by rw [Cu,←GL];rfl,by rw [←GL];rfl, ?_,q2⟩
     ·simp only [EL.den]at q1;rw [Cu]at q1 ⊢;exact q1
     ·rw [Cu];exact⟨fun cs hh=>(by cases hh),fun cs hh=>(by cases hh)⟩
  cases s with
  |agg cs=>
   simp only [HH]at AB hr;obtain⟨m,l,hm,hl,rfl⟩:=Uz hy;cases hs with
   |agg h9 h1 h8=>rename_i as_;obtain⟨q1,q2⟩:=iB eh k ds hr h1 hl hc;obtain⟨l1,l2⟩:=q1.len;rw [if_pos AB.symm];exact⟨by simpa [Value.cells,AV.cells,E.den]using q1,by simpa [Value.cells]using h9,by simp only [E.den,AV.cells];omega,by simp [Value.cells];omega,⟨_,rfl⟩,q2⟩
  |_=>exact single AB.symm hr
theorem tK (eh:EH c hp) (k:Bb c.ρ gs) {t:TypeId} {ds:List DT} (GL:ds.length=P.cellsOf t) (hg:Ap P t=true∨P.cellsOf t=1): ∀(ss:List SV) (vs:List Value) {xs:List E} {us:List Nat} {ck:List Cn},SR c ss vs→UA P hp gs t ds ss=some (xs,us,ck)→(∀q∈ck,q.den c.ρ)→
  DC c.w (CY vs.length ds) (vs.flatMap fun v=>v.cells.toList) (AK (xs.map (E.den c.ρ))) (B4 c us)∧(∀v∈vs,v.cells.size=P.cellsOf t∧ ∀u∈v.cells.toList,u.oneCell'=true)∧(∀x∈xs,(x.den c.ρ).cells.length=P.cellsOf t)∧xs.length=vs.length∧ ∀u∈us,∃g,c.K u g
 | [],vs,xs,us,ck,hr,ht,hc=>by simp [UA]at ht;obtain⟨rfl,rfl,rfl⟩:=ht;cases hr;exact⟨by simpa [AK,CY,B4]using DC.nil,by simp,by simp,rfl,by simp⟩
 |s::ss, [],xs,us,ck,hr,ht,hc=>by have:=hr.len;simp at this
 |s::ss,v::vs,xs,us,ck,hr,ht,hc=>by
  obtain⟨r1,r2⟩:=hr.cd;unfold UA at ht;split at ht
  ·rename_i x us1 ck1 xs2 us2 ck2 h1 h2;simp only [Ag,Prod.mk.injEq]at ht;obtain⟨rfl,rfl,rfl⟩:=ht;obtain⟨q1,q2,q3,q4,q5,q6⟩:=uM eh k GL hg h1 r1 (fun q hq=>hc q (by simp [hq]));obtain⟨p1,p2,p3,p4,p5⟩:=tK eh k GL hg ss vs r2 h2 (fun q hq=>hc q (by simp [hq]));refine⟨?_, ?_, ?_,by simp [p4], ?_⟩
   ·have:=q1.app p1;rw [Ar,OB,Jw];simpa [AK]using this
   ·intro u hu;rcases Af.1 hu with rfl|hu
    ·exact⟨q4,q2⟩
    ·exact p2 u hu
   ·intro u hu;rcases Af.1 hu with rfl|hu
    ·exact q3
    ·exact p3 u hu
   ·intro u hu;rcases Ah.1 hu with hu|hu
    ·exact q6 u hu
    ·exact p5 u hu
  ·cases ht
theorem uL (eh:EH c hp) (k:Bb c.ρ gs) {e z:Nat} {l:List DT} {s:SV} {us:List Nat} {v:Value} {y:E} {m:Nat} (h:U6 hp gs e z l s=some us) (hs:SR c [s] [v]) (hy:Bf hp gs m s=some y):
  ∃ys q r news N,y.den c.ρ= .sl ys∧v= .slice q ys.length r∧Src c.w z q ys.length news∧DC c.w (CY ys.length l) news (AK ys) N∧N.Sublist (B4 c us)∧(∀y∈ys,y.cells.length=z)∧(∀u∈news,u.oneCell'=true)∧ ∀u∈us,∃g,c.K u g:=by
 have empt: ∀q,v= .slice q 0 0→y= .lst .nil→us= []→ ∃ys q r news N,y.den c.ρ= .sl ys∧v= .slice q ys.length r∧Src c.w z q ys.length news∧DC c.w (CY ys.length l) news (AK ys) N∧N.Sublist (B4 c us)∧(∀y∈ys,y.cells.length=z)∧(∀u∈news,u.oneCell'=true)∧ ∀u∈us,∃g,c.K u g:=by
  rintro q rfl rfl rfl;refine⟨[],q,0, [], [],rfl,rfl, ?_,by simpa [CY,AK]using DC.nil,by simp,by simp,by simp,by simp⟩;cases q with
  |none=>exact .inl ⟨rfl,rfl,rfl⟩
  |some p=>exact .inr ⟨p,rfl,by simp,by simp,by simp⟩
 unfold U6 at h;split at h
 ·simp only [Ag]at h;cases hs with
  |b8 _=>exact empt _ rfl (K7 hy) h.symm
 ·simp only [Ag]at h;cases hs with
  |emp _=>exact empt _ rfl (yD hy) h.symm
 ·rename_i u g;split at h
  ·rename_i e' z' l' g' ep x hl;split at h
   ·rename_i hh;obtain⟨rfl,rfl,rfl,hb⟩:=hh;simp only [Ag]at h;subst h;have hb:=AP.iu hb;subst hb;obtain⟨q1,q2,q3,q4,q5⟩:=eh u _ (CH hl k);have G4:=lO (y:=x) hy (by simp only [Ii,hl,if_true]);subst G4;cases hs with
    |own k1 k2 k3=>
     rename_i p0 n0 r0;rw [k2]at q4;have hK: ∀w∈ [u],∃g,c.K w g:=fun w hw=>by simp at hw;subst hw;exact⟨_,k1⟩
     obtain⟨d1,d2,⟨a9,d3,d4,d5⟩|⟨g9,cap,C,ys,N1,d3,d4,d5,d6,d7,d8,d9,d10,d11,d12⟩⟩:=q4.inv
     ·cases d3;refine⟨[],_,0, [], [],d4,rfl, ?_,by simpa [CY,AK]using DC.nil,by simp,by simp,by simp,hK⟩;cases p0 with
      |none=>exact .inl ⟨rfl,rfl,rfl⟩
      |some p=>exact .inr ⟨p,rfl,by simp,by simp,by simp⟩
     ·cases d3;rw [AP.az]at d12;have DI:C.toList.length=r0*z:=by simpa using d9
      refine⟨ys,_,r0,_,N1,d4,rfl, .inr ⟨_,rfl, ?_,fun j w hw=> ?_,d11⟩,d12, ?_,d10,d11,hK⟩
      ·rw [List.length_take,DI];exact Nat.min_eq_left (Nat.mul_le_mul_right _ d7)
      ·rw [Addr.add_lit,Nat.zero_add,EC d6];rw [List.getElem?_take]at hw;split at hw
       ·simpa using hw
       ·cases hw
      ·rw [Yd,iS,List.append_nil,d5];exact List.sublist_cons_self _ _
   ·cases h
  ·cases h
 ·cases h
end
def FE (T:List Nat):List AN:=T.map fun u=>⟨u,none, [], .dead⟩
theorem zzJ (T:List Nat):(FE T).flatMap AN.top= []:=by induction T<;>simp_all [FE]
theorem zAK (T:List Nat):(FE T).map AN.tag=T:=by induction T<;>simp_all [FE]
theorem zxI (T:List Nat):((FE T).map fun r=>(r.tag,CC [] r.bm))=EY T:=by simp [FE,EY,CC]
theorem Un {T:List Nat} {r:AN} (h:r∈FE T):r.tag∈T∧r.new=none∧r.top= []∧r.bm= .dead:=by obtain⟨u,hu,rfl⟩:=List.mem_map.1 h;exact⟨hu,rfl,rfl,rfl⟩
section
variable {P:Program} {c:Cx} {n nx:Nat} {sl sl0:Nat→SV} {hp hp0:Nat→Option Aj} {a:Act} {o:Oper} {gs:Gd} {e:AX} {sg:BI} {nv:Nat}
theorem Rel.lz (h:Rel c n sl hp a) {T:List Nat} (hT:T.Nodup) (Ge: ∀u∈T,c.U u) {r0:AN} (Hw:r0.tag∉T) (Hx:r0.new.isSome=true→ ¬c.U r0.tag) (Dk:r0.new=none→c.U r0.tag) {w':World} {hs:List Nat} (GR: ∀b∈hs,b∈(c.G r0.tag).top∨b∈B4 c T) (hm:Mod hs c.w w')
  (B2:r0.top.Nodup) (BZ: ∀b∈r0.top,(b∈hs∨c.w.heap.size≤b)∧b<w'.heap.size) (A9: ∀q f,r0.bm≠ .gd q f)
  (he:Dv c (c.dj w' (r0::FE T))→EN c (c.dj w' (r0::FE T)) w' (r0::FE T)→CX (c.dj w' (r0::FE T)) r0.tag r0.bm):
  Rel (c.dj w' (r0::FE T)) n sl (A4 hp ((r0.tag,r0.bm)::EY T)) a∧Dv c (c.dj w' (r0::FE T))∧EN c (c.dj w' (r0::FE T)) w' (r0::FE T)∧ ∀t,(c.dj w' (r0::FE T)).U t→c.U t∨t=r0.tag:=by
 have hn:((r0::FE T).map AN.tag).Nodup:=by rw [List.map_cons,zAK];exact List.nodup_cons.2 ⟨Hw,hT⟩
 have AS: ∀r∈r0::FE T,r.new.isSome=true→ ¬c.U r.tag:=fun r hr hs=>by
  rcases Af.1 hr with rfl|hr
  ·exact Hx hs
  ·rw [(Un hr).2.1]at hs;cases hs
 have aft:=Cx.dk (w':=w') h.bu hn AS;obtain⟨q1,q2⟩:=h.changes (gs:= []) (EE _) hm hn AS (fun b hb=>by
   rcases GR b hb with hb|hb
   ·exact⟨r0,by simp,hb⟩
   ·obtain⟨t,ht,Co⟩:=QL.1 hb;exact⟨⟨t,none, [], .dead⟩,List.mem_cons_of_mem _ (List.mem_map.2 ⟨t,ht,rfl⟩),Co⟩)
  (by rw [List.flatMap_cons,zzJ,List.append_nil];exact B2)
  (fun r hr b hb=>by
   rcases Af.1 hr with rfl|hr
   ·exact BZ b hb
   ·rw [(Un hr).2.2.1]at hb;cases hb)
  (fun r hr=>by
   rcases Af.1 hr with rfl|hr
   ·exact A9
   ·rw [(Un hr).2.2.2];intros;simp)
  (fun hk r hr=>by
   rcases Af.1 hr with rfl|hr
   ·exact he hk aft
   ·have kg:=aft.G r (List.mem_cons_of_mem _ hr);obtain⟨_,_,e1,e2⟩:=Un hr;rw [e2];exact⟨by rw [kg,e1],by rw [kg]⟩)
 refine⟨?_,q2,aft,fun t ht=> ?_⟩
 ·rw [List.map_cons,zxI]at q1;have:CC [] r0.bm=r0.bm:=rfl;rw [this]at q1;exact q1
 ·rcases ht with ht|⟨r,hr,rfl⟩
  ·exact .inl ht
  ·rcases Af.1 hr with rfl|hr
   ·exact .inr rfl
   ·exact .inl (Ge _ (Un hr).1)
theorem Ay.gv (h:Bg P c n nx sl hp a sl0 hp0 o []) {T:List Nat} (hT:T.Nodup) (Ge: ∀u∈T,∃g,c.K u g) {v':Value} {w':World} {ck:List Cn} {e z:Nat} {l:List DT} {x:E} {top:List Nat} (hr:(execOp a.eval o).run P c.w= .ok (.value v') w') (hm:Mod (B4 c T) c.w w')
  (B2:top.Nodup) (BZ: ∀b∈top,(b∈B4 c T∨c.w.heap.size≤b)∧b<w'.heap.size) (hd:DC w' [.row e z (AP.of l)] [v'] [x.den c.ρ] top):
  Ay P o c n nx sl hp [] a {ca:=ck,val:= .own nx 0,bm:=(nx, .deep e z l 0 0 x)::EY T}:=by
 intro next Q hk
 unfold Oper.wp;rw [hr,Oper.upon_value];have hU:=OJ h;have Kz: ∀u∈T,c.U u:=fun u hu=>by obtain⟨g,hg⟩:=Ge u hu;exact h.rel.bu _ _ hg
 obtain⟨q1,q2,q3,q4⟩:=h.rel.lz (r0:=⟨nx,some v',top, .deep e z l 0 0 x⟩) hT Kz (fun hh=>hU (Kz _ hh)) (fun _=>hU) (fun hh=>by cases hh) (fun b hb=> .inr hb) hm B2 BZ (by intros;simp) (fun _ aft=>by obtain⟨k1,k2,k3⟩:=aft.new _ (List.mem_cons_self ..) v' rfl;have kg:=aft.G _ (List.mem_cons_self ..);have ke:=aft.kr _ (List.mem_cons_self ..) rfl;simp only at k1 k2 k3 kg ke;exact⟨k1,k2,ke,by rw [k3,kg,aft.w,aft.ρ];exact hd,by rw [kg]⟩)
 obtain⟨k1,k2,k3⟩:=q3.new _ (List.mem_cons_self ..) v' rfl;simp only at k1 k3;obtain⟨p,m,r,rfl⟩:=hd.head;refine hk _ (c.dj w' _) ⟨rfl,rfl,rfl,rfl,fun t ht=> ?_⟩ (q1.put (SR.own k1 k3 .nil) o.dst);rcases q4 t ht with ht|rfl
 ·exact .inl ht
 ·exact .inr ⟨Nat.le_refl _,by simp [By]⟩
theorem Ay.ld (h:Bg P c n nx sl hp a sl0 hp0 o []) {T:List Nat} (hT:T.Nodup) (Ge: ∀u∈T,∃g,c.K u g) {b g ep:Nat} (hb:b∉T) (hK:c.K b g) (DX: ∀g',c.K b g'→g'≤g) (hE:c.E b=ep) {w':World} {ck:List Cn} {e z:Nat} {l:List DT} {x:E} {top:List Nat} (hr:(execOp a.eval o).run P c.w= .ok .skip w') {hs:List Nat} (GR: ∀q∈hs,q∈(c.G b).top∨q∈B4 c T) (hm:Mod hs c.w w')
  (B2:top.Nodup) (BZ: ∀q∈top,(q∈hs∨c.w.heap.size≤q)∧q<w'.heap.size) (hd:DC w' [.row e z (AP.of l)] [c.H b g] [x.den c.ρ] top):
  Ay P o c n nx sl hp [] a {ca:=ck,bm:=(b, .deep e z l g (ep+1) x)::EY T}:=by
 intro next Q hk
 unfold Oper.wp;rw [hr,Oper.upon_skip];have Kz: ∀u∈T,c.U u:=fun u hu=>by obtain⟨g,hg⟩:=Ge u hu;exact h.rel.bu _ _ hg
 have ZD:=h.rel.bu _ _ hK;obtain⟨q1,q2,q3,q4⟩:=h.rel.lz (r0:=⟨b,none,top, .deep e z l g (ep+1) x⟩) hT Kz hb (fun hh=>by cases hh) (fun _=>ZD) GR hm B2 BZ (by intros;simp) (fun _ aft=>by have kg:=aft.G _ (List.mem_cons_self ..);have ke:=aft.iy _ (List.mem_cons_self ..) rfl;obtain⟨k1,k2⟩:=aft.K b g hK;simp only at kg ke;exact⟨k1,fun g' B1=>DX g' (aft.old b ZD g' B1),by rw [ke,hE],by rw [k2,kg,aft.w,aft.ρ];exact hd,by rw [kg]⟩)
 refine hk _ (c.dj w' _) ⟨rfl,rfl,rfl,rfl,fun t ht=> ?_⟩ (q1.put ((SR.undef .nil).mkGd []) o.dst);rcases q4 t ht with ht|rfl
 ·exact .inl ht
 ·exact .inl ZD
theorem wK {w w':World} {row:Option Nat} {S:List Nat} (h:w.grownBy w' row) (hr: ∀g,row=some g→g∈S∨w.heap.size≤g):Mod S w w':=by
 refine⟨h.os,h.tape,h.output,h.size,fun b hb hn=>h.block b hb fun hh=> ?_⟩;rcases hr b hh.symm with h1|h1
 ·exact hn h1
 ·omega
theorem gW (h:Bg P c n nx sl hp a sl0 hp0 o []) {x y:Operand} {tx:TypeId} {cl:Call} (ho:o.op= .call cl) (AE:cl.callee= .builtin .append) (C7:cl.args.toList= [x,y]) (Ei:cl.argTypes.toList= [tx,tx])
  {el:TypeId} (Bo:P.underlying tx=some (.slice el)) (hz:Iq P el=true) {l:List DT} (hl:l.length=P.cellsOf el) {T us:List Nat} (hT:(T++us).Nodup) (Ge: ∀u∈T,∃g,c.K u g) {s2:SV} {ye:E} (AW:BE sl0 [] y=some s2) (hy:Bf hp0 [] AT s2=some ye) (B3:U6 hp0 [] el (P.cellsOf el) l s2=some us)
  {c0:E} {v:Value} (hv:a.eval x=v) {N:List Nat} (Br:DC c.w [.row el (P.cellsOf el) (AP.of l)] [v] [c0.den c.ρ] N) (hN:N=B4 c T) {ck:List Cn} (Cg:Cn.den c.ρ (.room c0 ye (P.bytesOf el))):
  Ay P o c n nx sl hp [] a {ca:=ck,val:= .own nx 0,bm:=(nx, .deep el (P.cellsOf el) l 0 0 (.app c0 ye))::EY (T++us)}:=by
 have Aw:cl.args= #[x,y]:=by apply Array.ext';simp [C7]
 have G1:cl.argTypes= #[tx,tx]:=by apply Array.ext';simp [Ei]
 have DA:y∈o.op.operands:=by simp [ho,Op.operands,Call.operands,AE,Aw]
 obtain⟨i,z,hi,FL,DE,BV,Ck,Gf⟩:=K6 hz;obtain⟨ys,q,r,news,N2,De,C4,Fm,ZS,BF,NP,aS,bR⟩:=uL h.eh h.gs B3 (h.cu AW DA) hy;have CE:=X7 h.rel.gw hT;rw [Jw]at CE;have Eo: ∀b∈B4 c (T++us),b<c.w.heap.size:=fun b hb=>by obtain⟨t,_,Co⟩:=QL.1 hb;exact h.rel.gw.inb t b (by simp [GI.own,Co])
 obtain⟨mm,kk,Hx,Dk,SE,bG⟩:=Cg;obtain⟨d1,d2,Bc⟩:=Br.inv;rw [AP.az]at d2 Bc;have hU: ∀u∈T++us,∃g,c.K u g:=fun u hu=>by
  rcases Ah.1 hu with hu|hu
  ·exact Ge u hu
  ·exact bR u hu
 obtain⟨xs,old,N1,Cu,hold,Hz,hdo,Ia,CF,Vs,Zs⟩: ∃(xs:List AV) (old:List Value) (N1:List Nat),c0.den c.ρ= .sl xs∧old.length=xs.length*i.size∧((xs.length=0∧ ∃q,v= .slice q 0 0)∨ ∃g cap C,v= .slice (some ⟨g,0,none⟩) xs.length cap∧xs.length≤cap∧cap≤maxLen∧c.w.heap[g]?=some (.cells C el (0,0))∧C.size=cap*i.size∧old=C.toList.take (xs.length*i.size)∧(g∈B4 c T∧g∉N1))∧
   DC c.w (CY xs.length l) old (AK xs) N1∧(∀y∈xs,y.cells.length=P.cellsOf el)∧(∀u∈old,u.oneCell'=true)∧(∀b∈N1,b∈B4 c T)∧N1.Nodup:=by
  rcases Bc with⟨p,rfl,JY,rfl⟩|⟨g9,cap,C,xs,N1,rfl,JY,rfl,h6,h7,h8,h9,GG,DS,h12⟩
  ·exact⟨[], [], [],JY,by simp, .inl ⟨rfl,p,rfl⟩,by simpa [CY,AK]using DC.nil,by simp,by simp,by simp,by simp⟩
  ·have B2:(g9::N1).Nodup:=by rw [hN];exact(List.nodup_append.1 CE).1
   rw [List.nodup_cons]at B2;refine⟨xs,_,N1,JY, ?_, .inr ⟨g9,cap,C,rfl,h7,h8,h6,by rw [←Ck];exact h9,rfl,by rw [←hN];simp,B2.1⟩,by rw [←Ck];exact h12,GG,by rw [←Ck];exact DS,fun b hb=>by rw [←hN];simp [hb],B2.2⟩;have e9:C.toList.length=cap*i.size:=by rw [←Ck,←h9];simp
   rw [List.length_take,e9];exact Nat.min_eq_left (Nat.mul_le_mul_right _ h7)
 rw [Cu]at Hx;rw [De]at Dk;simp only [AV.len,AV.int.injEq,true_and]at Hx Dk;have HY:(xs.length+ys.length)*i.bytes≤140737488355328:=by
  rw [←Hx,←Dk,Gf]at SE;have h9:(((xs.length+ys.length)*i.bytes:Nat):Int)≤140737488355328:=by rw [Int.natCast_mul,Int.natCast_add];exact SE
  omega
 have EZ:xs.length+ys.length≤140737488355328:=by rw [←Hx,←Dk]at bG;omega
 rw [Ck]at Fm;obtain⟨v',w',AR,AQ⟩:=mD (P:=P) c.w tx o.type el i z Bo hi FL DE BV (fun g9=>g9∈B4 c T∧g9∉N1) v xs.length old hold Hz q ys.length r news Fm (by simp only [maxLen];omega) HY;have E7:(execOp a.eval o).run P c.w= .ok (.value v') w':=by simp [execOp,ho,resolve,AE,Aw,G1,invoke,builtin,hv,C4,AR]
 have RS: ∀b∈N2,b∈B4 c us:=fun b hb=>BF.subset hb;have Zt:N2.Nodup:=BF.nodup (List.nodup_append.1 CE).2.1;have RZ:(E.app c0 ye).den c.ρ= .sl (xs++ys):=by simp only [E.den,Cu,De,AV.app]
 rcases AQ with⟨rfl,rfl,DV⟩|⟨g9,cap,C,rfl,h1,h2,h3,h4,h5,h6,h7⟩
 ·have Ib:ys= []:=List.eq_nil_of_length_eq_zero DV;subst Ib;refine Ay.gv h hT hU E7 (Mod.refl _ _) (top:=N) (by rw [hN];exact(List.nodup_append.1 CE).1) (fun b hb=>⟨.inl (by rw [Jw,←hN];simp [hb]),Eo b (by rw [Jw,←hN];simp [hb])⟩) ?_;rw [RZ,List.append_nil,←Cu];exact Br
 ·have Pb:(g9∈B4 c T∨c.w.heap.size≤g9)∧g9∉N1∧g9∉N2:=by
   rcases h7 with⟨rfl,_⟩|⟨hg,B1⟩
   ·refine⟨.inr (Nat.le_refl _),fun hh=> ?_,fun hh=> ?_⟩
    ·have:=Eo _ (by rw [Jw];exact Ah.2 (.inl (Vs _ hh)));omega
    ·have:=Eo _ (by rw [Jw];exact Ah.2 (.inr (RS _ hh)));omega
   ·exact⟨.inl hg,B1,fun hh=>(List.nodup_append.1 CE).2.2 _ hg _ (RS _ hh) rfl⟩
  have A3: ∀b∈N1++N2,w'.heap[b]?=c.w.heap[b]?:=fun b hb=>by
   have Aq:b<c.w.heap.size:=Eo b (by
    rw [Jw];rcases Ah.1 hb with hb|hb
    ·exact Ah.2 (.inl (Vs b hb))
    ·exact Ah.2 (.inr (RS b hb)))
   refine h6.block b Aq fun hh=> ?_;cases hh;rcases Ah.1 hb with hb|hb
   ·exact Pb.2.1 hb
   ·exact Pb.2.2 hb
  refine Ay.gv h hT hU E7 (wK h6 fun g hg=> ?_) (top:=g9::(N1++N2)) ?_ (fun b hb=> ?_) ?_
  ·cases hg;rcases Pb.1 with hh|hh
   ·exact .inl (by rw [Jw];exact Ah.2 (.inl hh))
   ·exact .inr hh
  ·refine List.nodup_cons.2 ⟨fun hh=> ?_,List.nodup_append.2 ⟨Zs,Zt,fun p hp q hq=> ?_⟩⟩
   ·rcases Ah.1 hh with hh|hh
    ·exact Pb.2.1 hh
    ·exact Pb.2.2 hh
   ·exact(List.nodup_append.1 CE).2.2 p (Vs p hp) q (RS q hq)
  ·rcases Af.1 hb with rfl|hb
   ·refine⟨?_,Fu h3⟩;rcases Pb.1 with hh|hh
    ·exact .inl (by rw [Jw];exact Ah.2 (.inl hh))
    ·exact .inr hh
   ·have nR:b∈B4 c (T++us):=by
     rw [Jw];rcases Ah.1 hb with hb|hb
     ·exact Ah.2 (.inl (Vs b hb))
     ·exact Ah.2 (.inr (RS b hb))
    exact⟨.inl nR,Nat.lt_of_lt_of_le (Eo b nR) h6.size⟩
  ·rw [RZ];have hlen:(xs++ys).length=xs.length+ys.length:=Ao;rw [Ck]at d1 d2 Ia NP ⊢;have:=DC.row (w:=w') (e:=el) (z:=i.size) (l:=AP.of l) (g:=g9) (cap:=cap) (C:=C) (ys:=xs++ys) (N1:=N1++N2) (ts:= []) (vs:= []) (xs:= []) (N:= []) d1 (by rw [AP.az];exact d2) h3 (by rw [hlen];exact h1) h2 h4 (fun w hw=> ?_) (by
     rw [hlen,h5];intro u hu;rcases Ah.1 hu with hu|hu
     ·exact CF u hu
     ·exact aS u hu) (by
     rw [hlen,h5,hF,zCh,AP.az];exact(hdo.app ZS).frame A3) .nil
   ·rw [hlen]at this;simpa using this
   ·rcases Ah.1 hw with hw|hw
    ·exact Ia w hw
    ·exact NP w hw
end
section
variable {P:Program} {c:Cx} {n nx:Nat} {sl sl0:Nat→SV} {hp hp0:Nat→Option Aj} {a:Act} {o:Oper} {gs:Gd} {e:AX} {sg:BI} {nv:Nat}
theorem zyd {l:List Nat} (h:Lm l=true):l.Nodup:=QN h
theorem zrk (h:Bg P c n nx sl hp a sl0 hp0 o gs) {x y:Operand} {tx ty:TypeId} {cl:Call} (ho:o.op= .call cl) (AE:cl.callee= .builtin .append) (C7:cl.args.toList= [x,y]) (Ei:cl.argTypes.toList= [tx,ty])
  {s1 s2:SV} (Bz:BE sl0 gs x=some s1) (AW:BE sl0 gs y=some s2) (he:Yq P hp0 gs nx tx ty s1 s2=some e) (hc: ∀q∈e.ca,Cn.den c.ρ q):Ay P o c n nx sl hp gs a e:=by
 have Aw:cl.args= #[x,y]:=by apply Array.ext';simp [C7]
 have DW:x∈o.op.operands:=by simp [ho,Op.operands,Call.operands,AE,Aw]
 have DA:y∈o.op.operands:=by simp [ho,Op.operands,Call.operands,AE,Aw]
 unfold Yq at he;split at he
 ·cases he
 rename_i NL;have NL:tx=ty:=by simpa using NL
 subst NL;split at he
 ·rename_i el e' z dl Bo Dy;have Nh:=Kc Bo;split at he
  ·cases he
  rename_i AH;simp only [not_or,Bool.not_eq_true',Bool.not_eq_false,Bool.not_eq_true,ne_eq,Decidable.not_not]at AH;obtain⟨hz,FT,rfl,rfl⟩:=AH;obtain⟨_,_,l,LP,Dj⟩:=YZ Bo Dy;simp only [DT.row.injEq,true_and]at LP;subst LP;rw [AP.az]at he;have r1:=h.cu Bz DW;split at he
  ·rename_i ye us hy B3;have hU: ∀u∈us,∃g,c.K u g:=(uL h.eh h.gs B3 (h.cu AW DA) hy).choose_spec.choose_spec.choose_spec.choose_spec.choose_spec.2.2.2.2.2.2.2;have NN:us.Nodup:=by
    unfold U6 at B3;split at B3
    ·simp only [Ag]at B3;subst B3;simp
    ·simp only [Ag]at B3;subst B3;simp
    ·split at B3
     ·split at B3
      ·simp only [Ag]at B3;subst B3;simp
      ·cases B3
     ·cases B3
    ·cases B3
   have VX:0<P.cellsOf e':=by obtain⟨i,_,_,_,_,h1,h2,_⟩:=K6 hz;omega
   split at he
   ·rename_i t g;split at he
    ·rename_i e2 z2 l2 g2 ep c0 hl;split at he
     ·rename_i hh;obtain⟨rfl,rfl,hb,rfl,ES⟩:=hh;have hb:=AP.iu hb;subst hb;simp only [Ag]at he;subst he;obtain⟨q1,q2,q3,q4,q5⟩:=h.eh t _ (CH hl h.gs);generalize hv:a.eval x=v at r1;cases r1 with
      |own k1 k2 _=>rw [k2]at q4;simp only [Bool.not_eq_true',List.contains_eq_mem,decide_eq_false_iff_not]at ES;exact gW h ho AE C7 Ei Nh hz Dj (T:= [t]) (by simpa using List.nodup_cons.2 ⟨ES,NN⟩) (fun u hu=>by simp at hu;subst hu;exact⟨_,k1⟩) AW hy B3 hv q4 (by simp [B4]) (hc _ (by simp))
     ·cases he
    ·cases he
   ·simp only [Ag]at he;subst he;generalize hv:a.eval x=v at r1;cases r1 with
    |emp _=>exact gW h ho AE C7 Ei Nh hz Dj (T:= []) (by simpa using NN) (by simp) AW hy B3 hv (c0:= .lst .nil) (.void VX (by rw [AP.az];exact Dj) .nil) rfl (hc _ (by simp))
   ·simp only [Ag]at he;subst he;generalize hv:a.eval x=v at r1;cases r1 with
    |b8 _=>exact gW h ho AE C7 Ei Nh hz Dj (T:= []) (by simpa using NN) (by simp) AW hy B3 hv (c0:= .lst .nil) (.void VX (by rw [AP.az];exact Dj) .nil) rfl (hc _ (by simp))
   ·cases he
  ·cases he
 ·cases he
theorem Ay.gp (h:Bg P c n nx sl hp a sl0 hp0 o []) {T:List Nat} (hT:T.Nodup) (Ge: ∀u∈T,∃g,c.K u g) {ck:List Cn} {el z:Nat} {l:List DT} (hz:0<z) (hl:l.length=z) {x:E} {xs:List AV} {C:Array Value} {cap:Nat} (hx:x.den c.ρ= .sl xs) (AE: ∀y∈xs,y.cells.length=z) (hle:xs.length≤cap) (I0:cap≤maxLen) (hC:C.size=cap*z)
  (h1: ∀u∈C.toList.take (xs.length*z),u.oneCell'=true) (hD:DC c.w (CY xs.length l) (C.toList.take (xs.length*z)) (AK xs) (B4 c T))
  (hr:(execOp a.eval o).run P c.w= .ok (.value (.slice (some ⟨c.w.heap.size,0,none⟩) xs.length cap)) (c.w.alloc (.cells C el))):
  Ay P o c n nx sl hp [] a {ca:=ck,val:= .own nx 0,bm:=(nx, .deep el z l 0 0 x)::EY T}:=by
 have Eo: ∀b∈B4 c T,b<c.w.heap.size:=fun b hb=>by obtain⟨t,_,Co⟩:=QL.1 hb;exact h.rel.gw.inb t b (by simp [GI.own,Co])
 have AS:(c.w.alloc (.cells C el)).heap[c.w.heap.size]?=some (.cells C el (0,0)):=heap_alloc_new c.w _;have Hs:c.w.grownBy (c.w.alloc (.cells C el)) (some c.w.heap.size):=⟨rfl,rfl,rfl,by simp,fun j hj _=>Below.heap_alloc c.w _ _ hj⟩
 refine Ay.gv h hT Ge hr (wK Hs fun g hg=> .inr (by cases hg;exact Nat.le_refl _)) (top:=c.w.heap.size::B4 c T) ?_ (fun b hb=> ?_) ?_
 ·exact List.nodup_cons.2 ⟨fun hh=>by have:=Eo _ hh;omega,X7 h.rel.gw hT⟩
 ·rcases Af.1 hb with rfl|hb
  ·exact⟨.inr (Nat.le_refl _),by simp⟩
  ·exact⟨.inl hb,Nat.lt_of_lt_of_le (Eo b hb) (by simp)⟩
 ·rw [hx];have:=DC.row (w:=c.w.alloc (.cells C el)) (e:=el) (z:=z) (l:=AP.of l) (g:=c.w.heap.size) (cap:=cap) (C:=C) (ys:=xs) (N1:=B4 c T) (ts:= []) (vs:= []) (xs:= []) (N:= []) hz (by rw [AP.az];exact hl) AS hle I0 hC AE h1 (by
   rw [AP.az];exact hD.frame fun b hb=>Below.heap_alloc c.w _ _ (Eo b hb)) .nil
  simpa using this
theorem zrJ (h:Bg P c n nx sl hp a sl0 hp0 o gs) {t:TypeId} {m:Nat} {parts:Array (Nat × Operand)} (ho:o.op= .buildSlice t m parts) {ps:List (Nat × SV)} (LV:parts.toList.mapM (fun(p:Nat × Operand)=>(BE sl0 gs p.2).map fun s=>(p.1,s))=some ps) (he:YC P hp0 gs nx t m ps=some e) (hc: ∀q∈e.ca,Cn.den c.ρ q):Ay P o c n nx sl hp gs a e:=by
 obtain⟨e1,e2⟩:=Yl (c:=c) (a:=a) (parts.toList.map (·.2)) (fun x s hx hm=>h.cu hx (by simpa [ho,Op.operands]using hm)) (fun x hx=>List.mem_map.2 ⟨x,hx,rfl⟩) LV;unfold YC at he;split at he
 ·rename_i el e' zz dl I7 Dy;have Bo:=Kc I7;split at he
  ·cases he
  rename_i AH;simp only [not_or,Bool.not_eq_true',Bool.not_eq_false',ne_eq,Bool.not_eq_false,Bool.not_eq_true,Nat.not_lt,Decidable.not_not]at AH;obtain⟨hz,FT,rfl,rfl,Be,AB,hle,El⟩:=AH;obtain⟨_,_,l,LP,Dj⟩:=YZ I7 Dy;simp only [DT.row.injEq,true_and]at LP;subst LP;rw [AP.az]at he;have AB:Ap P e'=true∨P.cellsOf e'=1:=by simpa using AB
  obtain⟨i,z,hi,FL,DE,BV,Ck,Gf⟩:=K6 hz;split at he
  ·rename_i xs us ck SM;split at he
   ·rename_i B2;simp only [Ag]at he;subst he;obtain⟨p1,p5,p6,p7,p8⟩:=tK h.eh h.gs Dj AB (ps.map (·.2)) (parts.toList.map fun p=>a.eval p.2) e2 SM hc;have hlen:(parts.toList.map fun p=>a.eval p.2).length=m:=by
     have:ps.length=m:=by have:=congrArg List.length El;simpa using this
     have h9:=congrArg List.length e1;simp at h9 ⊢;omega
    have GY:(parts.map fun(x:Nat × Operand)=>(x.1,a.eval x.2)).toList=((parts.toList.map fun p=>a.eval p.2).zipIdx 0).map fun p=>(p.2,p.1):=by
     have Ja:parts.toList.map (·.1)=List.range m:=by rw [←e1,El]
     apply List.ext_getElem?;intro j;have hj:(parts.toList.map (·.1))[j]?=(List.range m)[j]?:=by rw [Ja]
     simp only [Array.toList_map,List.getElem?_map,List.getElem?_zipIdx]at hj ⊢;cases hp:parts.toList[j]? with
     |none=>simp
     |some p=>
      rw [hp]at hj;simp only [Option.map_some,Ag]at hj ⊢;have aB:j<m:=by
       rcases Nat.lt_or_ge j m with hh|hh
       ·exact hh
       ·rw [List.getElem?_eq_none (by simpa using hh)]at hj;cases hj
      rw [List.getElem?_range aB]at hj;simp at hj;simp [hj]
    obtain⟨C',f1,f2⟩:=iT (sz:=i.size) (fun j=>some (j*i.size,i.size)) (fun j=>rfl) (parts.toList.map fun p=>a.eval p.2) 0 ((Array.range (m*i.size)).map (fun j=>(if m*i.size=0 then #[]else z.cells)[j % (if m*i.size=0 then #[]else z.cells).size]!)) [] _ (by simp;rfl) (by simp) (by simp [hlen]) (fun v hv=>by rw [←Ck];exact(p5 v hv).1);have DI:C'.toList.length=m*P.cellsOf e':=by
     rw [f2,Ck];simp only [List.nil_append];have: ∀(L:List Value),(∀v∈L,v.cells.size=i.size)→(L.flatMap fun v=>v.cells.toList).length=L.length*i.size:=by
      intro L
      induction L with
      |nil=>intro _;simp
      |cons v L ih=>intro hL;simp only [List.flatMap_cons,Ao,Ar,Array.length_toList];rw [ih (fun u hu=>hL u (by simp [hu])),hL v (by simp),Nat.add_mul];omega
     rw [this _ (fun v hv=>by rw [←Ck];exact(p5 v hv).1),hlen]
    have Jo:(xs.map (E.den c.ρ)).length=m:=by rw [List.length_map,p7,hlen]
    have Ct:C'.toList.take ((xs.map (E.den c.ρ)).length*P.cellsOf e')=(parts.toList.map fun p=>a.eval p.2).flatMap fun v=>v.cells.toList:=by rw [Jo,←DI,List.take_length,f2];simp
    refine Ay.gp h (zyd B2) p8 (by omega) Dj (xs:=xs.map (E.den c.ρ)) (C:=C') (cap:=m) (by simp [E.den,EL.de]) (fun y hy=> ?_) (by omega) (by simp only [maxLen];have:m*1≤m*P.cellsOf e':=Nat.mul_le_mul_left _ (by omega);omega) (by rw [←Array.length_toList,DI]) ?_ ?_ ?_
    ·obtain⟨q,hq,rfl⟩:=List.mem_map.1 hy;exact p6 q hq
    ·rw [Ct];intro u hu;obtain⟨v,hv,hu⟩:=List.mem_flatMap.1 hu;exact(p5 v hv).2 u hu
    ·rw [Ct,Jo,←hlen];exact p1
    ·rw [Jo];have AR:=tC (P:=P) Bo Be hi FL Ck m (by rw [←Ck];omega) (parts.map fun(x:Nat × Operand)=>(x.1,a.eval x.2)) C' (by rw [GY];exact f1) c.w;simp only [execOp,ho,Sem.run_bind];rw [AR];rfl
   ·cases he
  ·cases he
 ·cases he
theorem iK {w:World}: ∀{ds:List DT} {ss:List SV} {vs:List Value},OW ds ss=true→SR c ss vs→ ∀{xs:EL} {m:Nat},Cc hp0 gs m ss=some xs→DC w ds vs (xs.den c.ρ) []
 | [], [],vs,_,hs,xs,m,hx=>by
  cases hs;cases m with
  |zero=>simp [Cc]at hx
  |succ m=>simp [Cc]at hx;subst hx;exact .nil
 | [],_::_,_,h,_,_,_,_=>by simp [OW]at h
 |_::_, [],_,h,_,_,_,_=>by simp [OW]at h
 |d::ds,s::ss, [],h,hs,_,_,_=>by have:=hs.len;simp at this
 |d::ds,s::ss,v::vs,h,hs,xs,m,hx=>by
  obtain⟨j,y,ys,rfl,hy,De,rfl⟩:=Ka hx;obtain⟨r1,r2⟩:=hs.cd;simp only [OW,Ae]at h;have ih:=iK (w:=w) h.2 r2 De;unfold qK at h;obtain⟨h1,_⟩:=h;split at h1
  ·rename_i y';rw [EL.den,Km hy];cases r1 with
   |e g1 g2 _=>
    cases y'<;>simp [Ta]at h1
    ·cases g1 with
     |int hk _=>exact .flat (.int hk .nil) ih
    ·cases g1 with
     |bool _=>exact .flat (.bool .nil) ih
    ·rename_i s0;generalize hq:(E.str s0).den c.ρ=q at g1;cases g1 with
     |str hk _=>exact .flat (.str hk .nil) ih
     |_=>simp [E.den]at hq
  ·simp only [Ae,decide_eq_true_eq,beq_iff_eq]at h1;rw [EL.den,K7 hy];cases r1 with
   |b8 _=>exact .void h1.1 h1.2 ih
  ·cases h1
theorem DC.rep {w:World} {ds:List DT} {vs:List Value} {xs:List AV} (h:DC w ds vs xs []): ∀k,DC w (CY k ds) (List.replicate k vs).flatten (List.replicate k xs).flatten []
 |0=>by simpa [CY]using DC.nil
 |k+1=>by rw [OB,List.replicate_succ,List.flatten_cons,List.replicate_succ,List.flatten_cons];simpa using h.app (DC.rep h k)
theorem ztU (h:Bg P c n nx sl hp a sl0 hp0 o gs) {t:TypeId} {l m:Operand} (ho:o.op= .makeSlice t l m) {s1 s2:SV} (Bz:BE sl0 gs l=some s1) (AW:BE sl0 gs m=some s2) (he:YO P hp0 gs nx t s1 s2=some e) (hc: ∀q∈e.ca,Cn.den c.ρ q):Ay P o c n nx sl hp gs a e:=by
 have DW:l∈o.op.operands:=by simp [ho,Op.operands]
 have DA:m∈o.op.operands:=by simp [ho,Op.operands]
 unfold YO at he;split at he
 ·rename_i el e' zz dl x y I7 Dy;have Bo:=Kc I7;split at he
  ·cases he
  rename_i AH;simp only [not_or,Bool.not_eq_true',Bool.not_eq_false',ne_eq,Bool.not_eq_false,Bool.not_eq_true,Decidable.not_not]at AH;obtain⟨hz,FT,rfl,rfl,G2,JS⟩:=AH;have JS:gs= []:=by simpa using JS
  subst JS;obtain⟨_,_,dl',LP,Dj⟩:=YZ I7 Dy;simp only [DT.row.injEq,true_and]at LP;subst LP;rw [AP.az]at he;obtain⟨i,z,hi,FL,DE,BV,Ck,Gf⟩:=K6 hz;have r1:=h.cu Bz DW;have r2:=h.cu AW DA;have ival: ∀{x:E} {kk:IntKind} {k:Int} {v:Value},SR c [.e x] [v]→x.den c.ρ= .int kk k→v= .int kk k:=by
   intro x kk k v hr hx;cases hr with
   |e h1 _ _=>exact(Gv h1 hx).1
  split at he
  ·rename_i s hs;have hs:EF z=some s:=by simpa [hi,FL]using hs
   split at he
   ·rename_i VY;obtain⟨w,hw,rfl⟩:=At.1 he;obtain⟨kk,k,hk,h0,hb,hle⟩:Cn.den c.ρ (.mkroom x (P.bytesOf e')):=BJ hc;have EB:=ival r1 hk;have C4:=ival r2 (by rw [←E.aq c.ρ _ _ G2];exact hk);have oO:DC c.w dl' z.cells.toList (w.den c.ρ).cells []:=by
     have KO:=Ys (c:=c) hs;unfold pR at VY;cases s with
     |agg cs=>
      obtain⟨k9,l9,hm,hl9,rfl⟩:=Uz hw;cases KO with
      |agg h9 h1 h8=>have:=iK (w:=c.w) VY h1 hl9;simpa [Value.cells,AV.cells,E.den]using this
     |b8=>
      have Bo:Cc hp0 [] (AT+1) [.b8]=some (.cons w .nil):=by unfold Cc;rw [hw];rfl
      have:=iK (w:=c.w) VY KO Bo;rw [K7 hw]at this ⊢;cases KO with
      |b8 _=>simpa [Value.cells,AV.cells,E.den,EL.den]using this
     |_=>cases VY
    obtain⟨c1,c2⟩:=iJ (w:=c.w) (ρ:=c.ρ) hs hw;obtain⟨kn,rfl⟩:=Int.eq_ofNat_of_zero_le h0;have Dx:(i.bytes:Int)*(kn:Int)≤281474976710656:=by rw [Gf]at hb;rw [Int.mul_comm];omega
    have hlen:=c1.len;have VG:=XE z.cells (by omega) kn;have AR:=run_make (P:=P) c.w t e' i z Bo hi FL kk kk kn kn (by omega) (Int.le_refl _) Dx (by omega);have E8:(madeCells z.cells (kn*z.cells.size)).size=kn*P.cellsOf e':=by rw [size_madeCells,DE,Ck]
    have Ct:(madeCells z.cells (kn*z.cells.size)).toList.take ((List.replicate kn (w.den c.ρ)).length*P.cellsOf e')=(List.replicate kn z.cells.toList).flatten:=by rw [List.length_replicate,List.take_of_length_le (by rw [Array.length_toList,E8];exact Nat.le_refl _),VG]
    have E1:AK (List.replicate kn (w.den c.ρ))=(List.replicate kn (w.den c.ρ).cells).flatten:=by
     clear AR E8 Ct VG hb hle Dx hk EB C4 h0 hc
     induction kn with
     |zero=>rfl
     |succ k ih=>simp only [List.replicate_succ,AK,List.flatMap_cons,List.flatten_cons]at ih ⊢;rw [ih]
    refine Ay.gp (T:= []) h (by simp) (by simp) (by omega) Dj (xs:=List.replicate kn (w.den c.ρ)) (C:=madeCells z.cells (kn*z.cells.size)) (cap:=kn) (by simp [E.den,hk,AV.rep]) (fun u hu=> ?_) (by simp) (by simp only [maxLen];omega) E8 ?_ ?_ ?_
    ·rw [List.eq_of_mem_replicate hu,←hlen,Array.length_toList,DE,Ck]
    ·rw [Ct];intro u hu;obtain⟨q,hq,hu⟩:=List.mem_flatten.1 hu;rw [List.eq_of_mem_replicate hq]at hu;exact c2 u hu
    ·rw [Ct,List.length_replicate,E1];exact oO.rep kn
    ·simp only [execOp,ho,EB,C4,Sem.run_bind,Int.ofNat_eq_natCast,List.length_replicate];rw [AR,DE];rfl
   ·cases he
  ·cases he
 ·cases he
end
section
variable {P:Program} {c:Cx} {n nx:Nat} {sl sl0:Nat→SV} {hp hp0:Nat→Option Aj} {a:Act} {o:Oper} {gs:Gd} {e:AX} {sg:BI} {nv:Nat}
theorem uI {α:Type} (cs vs:List α) (o:Nat):setVs cs o vs=cs.take o++(vs++cs.drop (o+vs.length)):=by simp [setVs]
theorem DC.setVs {w:World} {ts:List DT} {L V:List Value} {X Y:List AV} {N1 N2 M:List Nat} {p:Nat} (h1:DC w (ts.take p) (L.take p) (X.take p) N1) (h2:DC w (ts.drop (p+V.length)) (L.drop (p+V.length)) (X.drop (p+V.length)) N2) (k:DC w ((ts.drop p).take V.length) V Y M):
  DC w ts (Go.Proofs.YtlhlgboblghkdaaGreatDoor.setVs L p V) (Go.Proofs.YtlhlgboblghkdaaGreatDoor.setVs X p Y) (N1++(M++N2)):=by
 have hk:=k.len;have ht:ts=ts.take p++((ts.drop p).take V.length++ts.drop (p+V.length)):=by rw [←List.drop_drop,List.take_append_drop,List.take_append_drop]
 rw [uI,uI];have hl:Y.length=V.length:=by omega
 rw [hl];have:=h1.app (k.app h2);rw [←ht]at this;exact this
theorem u6 (h:Bg P c n nx sl hp a sl0 hp0 o []) {t:TypeId} {x y:Operand} (ho:o.op= .store t x y) {b g:Nat} {ix:E} {sz k:Nat} {s:SV} (r1:SR c [.cr b g ix sz k] [a.eval x]) (r2:SR c [s] [a.eval y]) {el:Nat} {l:List DT} {ep:Nat} {c0:E} (hK:c.K b g) (DX: ∀g',c.K b g'→g'≤g) (hE:c.E b=ep)
  (Be:Dd P t=true) (hle:k+P.cellsOf t≤sz) (Fi:Ap P el=true∨(sz=1∧Ap P t=false)) (DU:Ap P t=true∨P.cellsOf t=1)
  {xe:E} {us:List Nat} {ck:List Cn} (B3:Rh P hp0 [] t ((l.drop k).take (P.cellsOf t)) s=some (xe,us,ck)) (KD: ∀q∈ck,q.den c.ρ) (B2:us.Nodup) (hb:b∉us)
  (BZ: ∀(kk:IntKind) (kv:Int),ix.den c.ρ= .int kk kv→ ∃(m cap:Nat) (C:Array Value) (ys:List AV) (N1 N2:List Nat),c.H b g= .slice (some ⟨m,0,none⟩) ys.length cap∧c0.den c.ρ= .sl ys∧0<sz∧l.length=sz∧c.w.heap[m]?=some (.cells C el (0,0))∧ys.length≤cap∧cap≤maxLen∧C.size=cap*sz∧(∀y∈ys,y.cells.length=sz)∧(∀w∈C.toList.take (ys.length*sz),w.oneCell'=true)∧
   (m::(N1++N2)).Nodup∧(∀q∈m::(N1++N2),q∈(c.G b).top)∧DC c.w ((CY ys.length l).take (kv.toNat*sz+k)) ((C.toList.take (ys.length*sz)).take (kv.toNat*sz+k)) ((AK ys).take (kv.toNat*sz+k)) N1∧
   DC c.w ((CY ys.length l).drop (kv.toNat*sz+k+P.cellsOf t)) ((C.toList.take (ys.length*sz)).drop (kv.toNat*sz+k+P.cellsOf t)) ((AK ys).drop (kv.toNat*sz+k+P.cellsOf t)) N2):
  Ay P o c n nx sl hp [] a {ca:=ck,bm:=(b, .deep el sz l g (ep+1) (.set c0 ix (.put (.idx c0 ix) k xe (Ap P el))))::EY us}:=by
 generalize hv:a.eval x=v at r1;cases r1 with
 |cr k1 k2 k3 k4 k5 k6=>
  rename_i m0 len cap0 kk kv;obtain⟨m,cap,C,ys,N1,N2,p1,p2,p3,p4,p5,p6,p7,p8,p9,p10,p11,p12,p13,p14⟩:=BZ kk kv k3;rw [k2]at p1;cases p1;have Gh:kv.toNat<ys.length:=by omega
  have hmul:(kv.toNat+1)*sz≤ys.length*sz:=Nat.mul_le_mul_right _ (by omega);have FQ:ys.length*sz≤cap0*sz:=Nat.mul_le_mul_right _ p6;rw [Nat.add_mul]at hmul;have DI:C.toList.length=cap0*sz:=by simpa using p8
  obtain⟨q1,q2,q3,q4,q5,q6⟩:=uM h.eh h.gs (by rw [List.length_take,List.length_drop,p4];omega) DU B3 r2 KD;have FV:=MP Gh;generalize G3:(AV.sl ys).nth kv.toNat=yk at FV;have Fq:=p9 yk (List.mem_of_getElem? FV);have DL:(a.eval y).cells.toList.length=P.cellsOf t:=by simpa using q4
  obtain⟨m1,m2,m3⟩:=XS (vs:=(a.eval y).cells.toList) p5 (show(kv.toNat*sz+k)+_≤C.size by rw [DL,p8];omega);have Nu:(C.toList.take (ys.length*sz)).length=ys.length*sz:=by rw [List.length_take,DI];omega
  have Hu:m0∈(c.G b).top:=p12 _ (by simp);have KS: ∀q∈B4 c us,q∉(c.G b).top:=fun q hq hh=>by obtain⟨u,hu,bE⟩:=QL.1 hq;exact h.rel.gw.cm u b (fun hh=>hb (hh▸hu)) q (by simp [GI.own,bE]) (by simp [GI.own,hh])
  have LJ: ∀q∈B4 c us,q<c.w.heap.size:=fun q hq=>by obtain⟨u,_,bE⟩:=QL.1 hq;exact h.rel.gw.inb u q (by simp [GI.own,bE])
  have LI: ∀q∈(c.G b).top,q<c.w.heap.size:=fun q hq=>h.rel.gw.inb b q (by simp [GI.own,hq]);have A3: ∀q,q∈B4 c us∨(q∈N1++N2)→(CO c.w m0 (kv.toNat*sz+k) (a.eval y).cells.toList).heap[q]?=c.w.heap[q]?:=fun q hq=>by
   refine m1.block q ?_ ?_
   ·rcases hq with hq|hq
    ·exact LJ q hq
    ·exact LI q (p12 q (by simp [Ah.1 hq]))
   ·simp only [List.mem_singleton];rintro rfl;rcases hq with hq|hq
    ·exact KS _ hq Hu
    ·exact(List.nodup_cons.1 p11).1 hq
  have hz:(yk.da k (xe.den c.ρ) (Ap P el)).cells=setVs yk.cells k (xe.den c.ρ).cells:=by
   refine jK ?_ (fun hg=> ?_)
   ·cases hg:Ap P el with
    |true=>exact .inr rfl
    |false=>
     left;rcases Fi with h'|⟨_,h'⟩
     ·rw [hg]at h';cases h'
     ·rw [h']at q5;exact fun cs=>(q5.1 cs)
   ·rcases Fi with h'|⟨h1,h'⟩
    ·rw [hg]at h';cases h'
    ·rw [h']at q5;have Nd:P.cellsOf t=1:=by rcases DU with h2|h2;rw [h']at h2;cases h2;exact h2
     refine⟨by omega,by omega, ?_⟩;cases bX:xe.den c.ρ<;>first|rfl|exact absurd bX (q5.1 _)
  have Em:AK (ys.set kv.toNat (yk.da k (xe.den c.ρ) (Ap P el)))=setVs (AK ys) (kv.toNat*sz+k) (xe.den c.ρ).cells:=
   Yy ys _ _ yk k _ p9 FV (by rw [q3];exact hle) hz
  have GL:((CY ys.length l).drop (kv.toNat*sz+k)).take (P.cellsOf t)=(l.drop k).take (P.cellsOf t):=by rw [←p4];exact Ud l _ _ _ _ Gh (by omega)
  have AR:(execOp a.eval o).run P c.w= .ok .skip (CO c.w m0 (kv.toNat*sz+k) (a.eval y).cells.toList):=by have:=iF (P:=P) (t:=t) (v:=a.eval y) (off:=kv.toNat*sz+k) p5 Be q4 (by rw [q4,p8];omega) q2;simp [execOp,ho,hv,this]
  refine Ay.ld h B2 q6 hb hK DX hE AR (hs:=(c.G b).top++B4 c us) (fun q hq=>Ah.1 hq) ⟨m1.os,m1.tape,m1.output,m1.size,fun q hq hn=>m1.block q hq fun hh=>hn (by simp only [List.mem_singleton]at hh;subst hh;exact Ah.2 (.inl Hu))⟩
   (top:=m0::(N1++(B4 c us++N2))) ?_ (fun q hq=> ?_) ?_
  ·have hnT:=X7 h.rel.gw B2;rw [List.nodup_cons,List.nodup_append]at p11;obtain⟨n1,n2,n3,n4⟩:=p11;have a1: ∀q∈B4 c us,q∉N1∧q∉N2∧q≠m0:=fun q hq=>⟨fun hh=>KS q hq (p12 q (by simp [hh])),fun hh=>KS q hq (p12 q (by simp [hh])),fun hh=>KS q hq (hh▸Hu)⟩
   rw [List.nodup_cons,List.nodup_append,List.nodup_append];refine⟨fun hh=> ?_,n2,⟨hnT,n3,fun p hp q hq VM=>(a1 p hp).2.1 (VM▸hq)⟩,fun p hp q hq VM=> ?_⟩
   ·simp only [Ah]at hh n1;rcases hh with hh|hh|hh
    ·exact n1 (.inl hh)
    ·exact(a1 _ hh).2.2 rfl
    ·exact n1 (.inr hh)
   ·rcases Ah.1 hq with hq|hq
    ·exact(a1 q hq).1 (VM▸hp)
    ·exact n4 p hp q hq VM
  ·have:q∈(c.G b).top∨q∈B4 c us:=by
    simp only [Af,Ah]at hq;rcases hq with rfl|hq|hq|hq
    ·exact .inl Hu
    ·exact .inl (p12 q (by simp [hq]))
    ·exact .inr hq
    ·exact .inl (p12 q (by simp [hq]))
   refine⟨.inl (Ah.2 this),Nat.lt_of_lt_of_le ?_ m1.size⟩;rcases this with hh|hh
   ·exact LI q hh
   ·exact LJ q hh
  ·have BU:(E.set c0 ix (.put (.idx c0 ix) k xe (Ap P el))).den c.ρ= .sl (ys.set kv.toNat (yk.da k (xe.den c.ρ) (Ap P el))):=by
    simp only [E.den,p2,k3,AV.idx,G3,AV.cz]
   rw [BU,k2];have Dj:(ys.set kv.toNat (yk.da k (xe.den c.ρ) (Ap P el))).length=ys.length:=List.length_set;have:=DC.row (w:=CO c.w m0 (kv.toNat*sz+k) (a.eval y).cells.toList) (e:=el) (z:=sz) (l:=AP.of l) (g:=m0) (cap:=cap0) (ys:=ys.set kv.toNat (yk.da k (xe.den c.ρ) (Ap P el))) (N1:=N1++(B4 c us++N2)) (ts:= []) (vs:= []) (xs:= []) (N:= []) p3 (by rw [AP.az];exact p4) m2 (by rw [Dj];exact p6) p7 (by rw [List.size_toArray,QK _ _ _ (by rw [DL,DI];omega),Array.length_toList];exact p8) (fun w hw=> ?_) ?_ ?_ .nil
   ·rw [Dj]at this;simpa using this
   ·rcases List.mem_or_eq_of_mem_set hw with hw|rfl
    ·exact p9 w hw
    ·rw [hz,QK _ _ _ (by rw [q3,Fq];exact hle)];exact Fq
   ·simp only [Dj,List.toList_toArray];rw [QH _ _ _ _ (by rw [DL];omega) (by rw [DI];omega)];intro u hu;unfold setVs at hu;simp only [Ah]at hu;rcases hu with(hu|hu)|hu
    ·exact p10 u (List.mem_of_mem_take hu)
    ·exact q2 u hu
    ·exact p10 u (List.mem_of_mem_drop hu)
   ·simp only [Dj,List.toList_toArray];rw [QH _ _ _ _ (by rw [DL];omega) (by rw [DI];omega),Em,AP.az];refine DC.setVs (p13.frame fun q hq=>A3 q (.inr (by simp [hq]))) ?_ ?_
    ·rw [DL];exact p14.frame fun q hq=>A3 q (.inr (by simp [hq]))
    ·rw [DL,GL];exact q1.frame fun q hq=>A3 q (.inl hq)
theorem zrW (h:Bg P c n nx sl hp a sl0 hp0 o gs) {t:TypeId} {x y:Operand} (ho:o.op= .store t x y) {b g:Nat} {ix:E} {sz k:Nat} {s:SV} (Br: ¬ ∃e z g c d,C6 hp0 gs b=some (.row e z g c d)) (hx:BE sl0 gs x=some (.cr b g ix sz k)) (hy:BE sl0 gs y=some s)
  (he:MF P hp0 gs t (.cr b g ix sz k) s=some e) (hc: ∀q∈e.ca,Cn.den c.ρ q):Ay P o c n nx sl hp gs a e:=by
 have r1:=h.cu hx (by simp [ho,Op.operands]);have r2:=h.cu hy (by simp [ho,Op.operands]);simp only [MF]at he;split at he
 ·rename_i hl;exact absurd ⟨_,_,_,_,_,hl⟩ Br
 ·rename_i el sz' l g' ep c0 hl;split at he
  ·rename_i hh;obtain⟨rfl,rfl,rfl,Be,hle,Fi,DU⟩:=hh;split at he
   ·rename_i xe us ck B3;split at he
    ·cases he
    rename_i ES;simp only [Bool.or_eq_true,Bool.not_eq_true',not_or,Bool.not_eq_false,Bool.not_eq_true,List.contains_eq_mem,decide_eq_false_iff_not]at ES;simp only [Ag]at he;subst he;obtain⟨e1,e2,e3,e4,e5⟩:=h.eh b _ (CH hl h.gs);refine u6 h ho r1 r2 e1 e2 e3 Be hle (by simpa using Fi) DU B3 hc (QN ES.1) ES.2 fun kk kv Sm=> ?_;generalize a.eval x=v at r1;cases r1 with
    |cr k1 k2 k3 k4 k5 _=>
     rw [k3]at Sm;cases Sm;obtain⟨d1,d2,⟨a9,d3,_⟩|⟨g9,cap9,C,ys,N,d3,d4,d5,d6,d7,d8,d9,d10,d11,d12⟩⟩:=e4.inv
     ·rw [k2]at d3;cases d3;omega
     ·rw [AP.az]at d2 d12;obtain⟨N1,N2,N3,rfl,s1,s2,s3⟩:=d12.split (kv.toNat*sz+k) (P.cellsOf t);have B2:=h.rel.gw.nodup b;simp only [GI.own,e5,List.append_nil,d5]at B2;refine⟨g9,cap9,C,ys,N1,N3,d3,d4,d1,d2,d6,d7,d8,d9,d10,d11, ?_,fun q hq=> ?_,s1,s3⟩
      ·refine List.Sublist.nodup (List.Sublist.cons_cons _ ?_) B2;rw [List.append_assoc];exact List.Sublist.append (List.Sublist.refl _) (List.sublist_append_right _ _)
      ·rw [d5];simp only [Af,Ah]at hq ⊢;rcases hq with hq|hq|hq
       ·exact .inl hq
       ·exact .inr (.inl (.inl hq))
       ·exact .inr (.inr hq)
   ·cases he
  ·cases he
 ·rename_i el sz' l g' ep c0 i' o' u' hl;split at he
  ·rename_i hh;obtain⟨rfl,rfl,rfl,Be,rfl,hib,hle,Nd,DU,Fi⟩:=hh;have DU:Ap P t=false:=by simpa using DU
   split at he
   ·rename_i xe us ck B3;split at he
    ·cases he
    rename_i ES;simp only [Bool.or_eq_true,Bool.not_eq_true',not_or,Bool.not_eq_false,Bool.not_eq_true,List.contains_eq_mem,decide_eq_false_iff_not]at ES;simp only [Ag]at he;subst he;obtain⟨e1,e2,e3,⟨m,cap,C,ys,kk,kv,N1,N2,p1,p2,p3,p4,p5,p6,p7,p7',p8,p9,p10,p11,p12,p13,p14,p15,p16,p17,p18⟩,e5⟩:=h.eh b _ (CH hl h.gs);refine u6 h ho r1 r2 e1 e2 e3 Be (by omega) (Fi.imp id fun hh=>⟨hh,DU⟩) (.inr Nd) (by rw [Nd];exact B3) hc (QN ES.1) ES.2 fun kk' kv' Sm=> ?_;rw [E.aq c.ρ _ _ hib,p3]at Sm;cases Sm;have B2:=h.rel.gw.nodup b;simp only [GI.own,e5,List.append_nil,p14]at B2;exact⟨m,cap,C,ys,N1,N2,p1,p2,p7,p7',p8,p9,p10,p11,p12,p13,B2,fun q hq=>by rw [p14];exact hq,p17,by rw [Nd];exact p18⟩
   ·cases he
  ·cases he
 ·cases he
end
section
variable {P:Program} {c:Cx} {n nx:Nat} {sl sl0:Nat→SV} {hp hp0:Nat→Option Aj} {a:Act} {o:Oper} {gs:Gd} {e:AX} {sg:BI} {nv:Nat}
theorem wT {w:World} {ety sz:Nat} {p:Option Addr} {m r:Nat} {x:AV} {top N:List Nat} (h:CK w ety sz (.slice p m r) x top N): ∃xs,x= .sl xs∧xs.length=m∧m≤r∧0<sz∧(∀y∈xs,y.cells.length=sz)∧
  ((xs= []∧m=0∧r=0∧top= []∧N= [])∨ ∃g C,p=some ⟨g,0,none⟩∧r≤maxLen∧w.heap[g]?=some (.cells C ety (0,0))∧C.size=r*sz∧top= [g]∧(∀u∈C.toList.take (m*sz),u.oneCell'=true)∧Rd w (C.toList.take (m*sz)) (AK xs) N):=by
 obtain⟨xs,rfl,h2,h3,⟨rfl,⟨a,hv⟩,rfl,rfl⟩|⟨g,cap',C,hv,h6,h7,h8,h9,rfl,GG,DS⟩⟩:=h
 ·cases hv;exact⟨[],rfl,rfl,Nat.le_refl _,h3,by simp, .inl ⟨rfl,rfl,rfl,rfl,rfl⟩⟩
 ·cases hv;exact⟨xs,rfl,rfl,h6,h3,h2, .inr ⟨g,C,rfl,h7,h8,h9,rfl,GG,DS⟩⟩
theorem zt2 (h:Bg P c n nx sl hp a sl0 hp0 o gs) {t:TypeId} {x:Operand} {lo hi mx:Option Operand} (ho:o.op= .slice t x lo hi mx) {s:SV} (hs:BE sl0 gs x=some s) {l' h' m':Option SV} (Bx:JN (BE sl0 gs) lo=some l') (LH:JN (BE sl0 gs) hi=some h') (FO:JN (BE sl0 gs) mx=some m') (he:YU P hp0 gs t s l' h' m'=some e) (hc: ∀q∈e.ca,Cn.den c.ρ q):Ay P o c n nx sl hp gs a e:=by
 have hm:x∈o.op.operands:=by simp [ho,Op.operands]
 have Nv: ∀y,lo=some y→y∈o.op.operands:=fun y hy=>by simp [ho,Op.operands,hy]
 have KL: ∀y,hi=some y→y∈o.op.operands:=fun y hy=>by simp [ho,Op.operands,hy]
 have hx:=h.cu hs hm;have ival: ∀{x:E} {kk:IntKind} {k:Int} {v:Value},SR c [.e x] [v]→x.den c.ρ= .int kk k→v= .int kk k:=by
  intro x kk k v hr hx;cases hr with
  |e h1 _ _=>exact(Gv h1 hx).1
 have ex:(execOp a.eval o).run P c.w=((Instr.sliceAt t (a.eval x) (lo.map a.eval) (hi.map a.eval) (mx.map a.eval)).run P c.w).andThen fun v w=> .ok (.value v) w:=by simp [execOp,ho]
 unfold YU at he;split at he
 ·rename_i el0 b g Bo;have hu:=Kc Bo;split at he
  ·cases he
  rename_i Be;have Be:Dd P el0=true:=by simpa using Be
  have Nw:mx=none:=by
   rcases Jz FO with⟨hh,_⟩|⟨_,_,_,_,hh⟩
   ·exact hh
   ·cases hh
  subst Nw;split at he
  ·rename_i el z g' c0 d hl;split at he
   ·cases he
   rename_i AH;simp only [not_or,Decidable.not_not,ne_eq]at AH;obtain⟨rfl,rfl,rfl⟩:=AH;obtain⟨q1,q2,N,q3,q4,q5,q6⟩:=h.eh b _ (CH hl h.gs);generalize hv:a.eval x=v at hx ex;cases hx with
   |own k1 k2 k3=>
    rename_i p m r;rw [k2]at q3;obtain⟨xs,Cu,Jo,Ss,BV,AE,Bc⟩:=wT q3;split at he
    ·rename_i l;simp only [Ag]at he;subst he;obtain⟨ka,ai,kb,bi,mm,d1,d2,d3,d4,d5,d6⟩:Cn.den c.ρ (.win c0 l (.len c0)):=BJ hc;have aP:mm=(m:Int):=by rw [Cu]at d3;simp only [AV.len,AV.int.injEq,true_and]at d3;omega
     obtain⟨an,rfl⟩:=Int.eq_ofNat_of_zero_le d4;obtain⟨ol,B0,hol⟩: ∃ol,lo=some ol∧BE sl0 [] ol=some (.e l):=by
      rcases Jz Bx with⟨_,hh⟩|⟨ol,sl',Nn,Z2,Z3⟩
      ·cases hh
      ·cases Z3;exact⟨ol,Nn,Z2⟩
     have No:hi=none:=by
      rcases Jz LH with⟨hh,_⟩|⟨_,_,_,_,hh⟩
      ·exact hh
      ·cases hh
     subst B0;subst No;have aJ:=ival (h.cu hol (Nv _ rfl)) d1;have hle:an≤m:=by omega
     have AR:=gJ (P:=P) (w:=c.w) (lo:=(some ol).map a.eval) (hi:=(none:Option Operand).map a.eval) hu Be p m r an m (.inr ⟨ka,by rw [Option.map_some,aJ]⟩) (.inl ⟨rfl,rfl⟩) hle (Nat.le_refl _) Ss;have:=SR.wown (c:=c) (lo:=l) (sz:=P.cellsOf el) (q':=if r=an then p else p.map (·.add (an*P.cellsOf el))) (r:=r-an) k1 k2 d1 d4 (by omega) (fun Aq=>by
      rcases Bc with⟨_,DV,_⟩|⟨g9,C,rfl,_⟩
      ·omega
      ·exact⟨g9,rfl,by rw [if_neg (by omega)];simp [Addr.add_lit],by simp⟩) .nil
     refine Ay.pure h (v:=sliced p an m r (P.cellsOf el)) ?_ (by simpa [sliced]using this) rfl;rw [ex];show Result.andThen (Sem.run P (Instr.sliceAt t (.slice p m r) ((some ol).map a.eval) ((none:Option Operand).map a.eval) none) c.w) _=_;rw [AR];rfl
    ·rename_i hb;simp only [Ag]at he;subst he;obtain⟨ka,ai,kb,bi,mm,d1,d2,d3,d4,d5,d6⟩:Cn.den c.ρ (.win c0 (.int .i64 0) hb):=BJ hc;have aP:mm=(m:Int):=by rw [Cu]at d3;simp only [AV.len,AV.int.injEq,true_and]at d3;omega
     simp only [E.den,AV.int.injEq]at d1;obtain⟨_,rfl⟩:=d1;obtain⟨bn,rfl⟩:=Int.eq_ofNat_of_zero_le d5;obtain⟨oh,No,hoh⟩: ∃oh,hi=some oh∧BE sl0 [] oh=some (.e hb):=by
      rcases Jz LH with⟨_,hh⟩|⟨ol,sl',Nn,Z2,Z3⟩
      ·cases hh
      ·cases Z3;exact⟨ol,Nn,Z2⟩
     have B0:lo=none:=by
      rcases Jz Bx with⟨hh,_⟩|⟨_,_,_,_,hh⟩
      ·exact hh
      ·cases hh
     subst B0;subst No;have aJ:=ival (h.cu hoh (KL _ rfl)) d2;have hle:bn≤m:=by omega
     have AR:=gJ (P:=P) (w:=c.w) (lo:=(none:Option Operand).map a.eval) (hi:=(some oh).map a.eval) hu Be p m r 0 bn (.inl ⟨rfl,rfl⟩) (.inr ⟨kb,by rw [Option.map_some,aJ]⟩) (Nat.zero_le _) hle Ss;have CA:sliced p 0 bn r (P.cellsOf el)= .slice p bn r:=by
      unfold sliced;rcases Bc with⟨_,_,rfl,_⟩|⟨g9,C,rfl,_⟩
      ·simp
      ·split<;>simp [Addr.add_lit]
     rw [CA]at AR;have E7:(execOp a.eval o).run P c.w= .ok (.value (.slice p bn r)) c.w:=by rw [ex];show Result.andThen (Sem.run P (Instr.sliceAt t (.slice p m r) ((none:Option Operand).map a.eval) ((some oh).map a.eval) none) c.w) _=_;rw [AR];rfl
     have AS: ¬c.K b (g+1):=fun hk=>by have:=q2 _ hk;omega
     have As:=h.rel;have Dz:=As.a6 (gs:= []) (t:=b) (g:=g+1) (w':=c.w) (row:=(c.G b).top.head?) (top:=(c.G b).top) (O:=if d=true then(c.G b).O else []) (v:= .slice p bn r) (.inr (by omega)) AS ⟨rfl,rfl,rfl,Nat.le_refl _,fun _ _ _=>rfl⟩ (fun g0 ER=> .inl (List.mem_of_mem_head? ER)) (by
       rcases Bc with⟨_,_,_,ht,_⟩|⟨g9,C,_,_,_,_,ht,_⟩
       ·exact .inl ht
       ·exact .inr ⟨g9,by rw [ht];rfl,ht⟩) (by split;exact .inr rfl;exact .inl rfl)
      (.row el (P.cellsOf el) (g+1) (.win c0 (.int .i64 0) hb) d) (by intros;simp) (EE _) (fun Gi=>by
       have KV:(E.win c0 (.int .i64 0) hb).den c.ρ= .sl (xs.take bn):=by simp only [E.den,Cu,d2,AV.win];simp
       obtain⟨N',Bq,Vt⟩: ∃N',CK c.w el (P.cellsOf el) (.slice p bn r) (.sl (xs.take bn)) (c.G b).top N'∧ ∀q∈N',q∈N:=by
        rcases Bc with⟨rfl,DV,rfl,ht,rfl⟩|⟨g9,C,rfl,DX,Vy,hC,ht,h1,Dl⟩
        ·have:bn=0:=by omega
         subst this;exact⟨[],⟨[],by simp,by simp,BV, .inl ⟨rfl,⟨p,rfl⟩,ht,rfl⟩⟩,by simp⟩
        ·obtain⟨N',Zr,Da⟩:=Dl.piece 0 (bn*P.cellsOf el);have Gj:(xs.take bn).length=bn:=by rw [List.length_take];omega
         have hmul:bn*P.cellsOf el≤m*P.cellsOf el:=Nat.mul_le_mul_right _ hle;have ef:=jQ xs AE 0 bn (Nat.zero_le _) (by omega);simp only [Nat.zero_mul,Nat.sub_zero,List.drop_zero]at ef Da;rw [ef,List.take_take,Nat.min_eq_left hmul]at Da;refine⟨N',⟨xs.take bn,rfl,fun y hy=>AE y (List.mem_of_mem_take hy),BV, .inr ⟨g9,r,C,by rw [Gj],by rw [Gj];omega,DX,Vy,hC,ht, ?_, ?_⟩⟩,Zr⟩
         ·rw [Gj];intro u hu;refine h1 u ?_;have:C.toList.take (bn*P.cellsOf el)=(C.toList.take (m*P.cellsOf el)).take (bn*P.cellsOf el):=by rw [List.take_take,Nat.min_eq_left hmul]
          rw [this]at hu;exact List.mem_of_mem_take hu
         ·rw [Gj];exact Da
       refine⟨.inr ⟨rfl,rfl⟩,fun g'' Nk=> ?_,N', ?_,fun q hq=>Gi.ok q (Bq.mw q hq) (q4 q (Vt q hq)),fun hd=> ?_,fun hd=>by simp [Cx.a6,hd]⟩
       ·rcases Nk with Nk|⟨_,rfl⟩
        ·have:=q2 _ Nk;omega
        ·exact Nat.le_refl _
       ·have e1:(c.a6 b (g+1) c.w (.slice p bn r) (c.G b).top (if d=true then(c.G b).O else [])).H b (g+1)= .slice p bn r:=by simp [Cx.a6]
        have e2:((c.a6 b (g+1) c.w (.slice p bn r) (c.G b).top (if d=true then(c.G b).O else [])).G b).top=(c.G b).top:=by simp [Cx.a6]
        rw [e1,e2];show CK c.w el (P.cellsOf el) _ ((E.win c0 (.int .i64 0) hb).den c.ρ) _ N';rw [KV];exact Bq
       ·obtain⟨u1,u2⟩:=q5 hd;have u1:N= []:=u1;subst u1;have M6:N'= []:=List.eq_nil_iff_forall_not_mem.2 fun q hq=>by simpa using Vt q hq
        subst M6;exact⟨rfl,by simp only [Cx.a6,if_true,hd];exact u2⟩)
     intro next Q hk
     unfold Oper.wp;rw [E7,Oper.upon_value];refine hk _ (c.a6 b (g+1) c.w (.slice p bn r) (c.G b).top (if d=true then(c.G b).O else [])) ⟨rfl,rfl,rfl,rfl,fun u hu=> ?_⟩ (Dz.put (SR.mkGd (c:=c.a6 b (g+1) c.w (.slice p bn r) (c.G b).top (if d=true then(c.G b).O else [])) (s:= .own b (g+1)) (v:= .slice p bn r) (.own (show _∨_ from .inr ⟨rfl,rfl⟩) (by simp [Cx.a6]) .nil) []) o.dst);rcases hu with hu|rfl
     ·exact .inl hu
     ·exact .inl (h.rel.bu _ _ k1)
    ·cases he
  ·cases he
 ·cases he
theorem zrV (z:Array Value) (hz:0<z.size) (k:Nat):(Builtin.zeroCells z k).toList=(List.replicate k z.toList).flatten:=by have:=XE z hz k;rw [←this];rfl
theorem zxN (h:Bg P c n nx sl hp a sl0 hp0 o gs) {x:Operand} {tx:TypeId} {cl:Call} (ho:o.op= .call cl) (AE:cl.callee= .builtin .clear) (C7:cl.args.toList= [x]) (Ei:cl.argTypes.toList= [tx]) {s:SV} (hs:BE sl0 gs x=some s) (he:kT P hp0 gs tx s=some e) (hc: ∀q∈e.ca,Cn.den c.ρ q):Ay P o c n nx sl hp gs a e:=by
 have Aw:cl.args= #[x]:=by apply Array.ext';simp [C7]
 have G1:cl.argTypes= #[tx]:=by apply Array.ext';simp [Ei]
 have hm:x∈o.op.operands:=by simp [ho,Op.operands,Call.operands,AE,Aw]
 have hx:=h.cu hs hm;unfold kT at he;split at he
 ·rename_i el0 b g l z Bo;have hu:=Kc Bo;split at he
  ·rename_i el z' g' c0 d hl;split at he
   ·cases he
   rename_i AH;simp only [not_or,Bool.not_eq_true',Bool.not_eq_false,Decidable.not_not,ne_eq]at AH;obtain⟨rfl,rfl,rfl,rfl,hz,AB⟩:=AH;have AB:Ap P el=true∨P.cellsOf el=1:=by simpa using AB
   obtain⟨i,zv,hi,FL,DE,BV,Ck,Gf⟩:=K6 hz;split at he
   ·rename_i q hq;split at he
    ·rename_i w hw;have hq:EF zv=some q:=by simpa [hi,FL]using hq
     simp only [Ag]at he;subst he;obtain⟨c1,c2⟩:=iJ (w:=c.w) (ρ:=c.ρ) hq hw;have AQ:=Li h.hp (CH hl h.gs);obtain⟨q1,q2,N,q3,q4,q5,q6⟩:=h.rel.ents b _ AQ;generalize hv:a.eval x=v at hx;cases hx with
     |wown k1 k2 k3 k4 k5 k6 k7=>
      rename_i p m r q' r' kk kv;rw [k2]at q3;obtain⟨xs,Cu,Jo,Ss,bN,Nc,Bc⟩:=wT q3;have Nf:(E.bin .sub (.len c0) l).den c.ρ≠ .undef:=hc (.dfd (.bin .sub (.len c0) l)) (by simp);have LM:kk= .i64:=by
       simp only [E.den,Cu,AV.len,k3,AV.bin]at Nf;split at Nf
       ·rename_i hh;rcases hh with hh|hh|hh
        ·exact hh.symm
        ·cases hh
        ·cases hh
       ·exact absurd rfl Nf
      subst LM;have BU:(E.bin .sub (.len c0) l).den c.ρ= .int .i64 ((m:Int)-kv):=by
       simp only [E.den,Cu,AV.len,k3,AV.bin,true_or,if_true,B8,Jo];congr 1;have hm63:(m:Int)≤9223372036854775807:=by
        rcases Bc with⟨_,h0,_⟩|⟨_,_,_,DX,_⟩
        ·omega
        ·have:maxLen=9223372036854775807:=rfl;omega
       exact(OO .i64 _).2 ⟨by simp [IntKind.min,IntKind.signed,IntKind.bits];omega,by simp [IntKind.max,IntKind.signed,IntKind.bits];omega⟩
      have AS:(E.app (.win c0 (.int .i64 0) l) (.rep (.bin .sub (.len c0) l) w)).den c.ρ= .sl (xs.take kv.toNat++List.replicate (m-kv.toNat) (w.den c.ρ)):=by
       have e1:(E.win c0 (.int .i64 0) l).den c.ρ= .sl (xs.take kv.toNat):=by simp only [E.den,Cu,k3,AV.win];simp
       have e2:(E.rep (.bin .sub (.len c0) l) w).den c.ρ= .sl (List.replicate (m-kv.toNat) (w.den c.ρ)):=by show AV.rep ((E.bin .sub (.len c0) l).den c.ρ) (w.den c.ρ)=_;rw [BU];simp only [AV.rep];congr 2;omega
       show AV.app _ _=_;rw [e1,e2];rfl
      have ex:(execOp a.eval o).run P c.w=((Builtin.clear_ #[tx] o.type #[.slice q' (m-kv.toNat) r']).run P c.w).andThen fun v w=> .ok (.value v) w:=by simp [execOp,ho,resolve,AE,Aw,G1,invoke,builtin,hv]
      rcases Nat.eq_or_lt_of_le (show kv.toNat≤m by omega)with heq|Aq
      ·
       have BF:m-kv.toNat=0:=by omega
       have AR:(execOp a.eval o).run P c.w= .ok (.value (.tuple #[])) c.w:=by rw [ex,BF];cases q'<;>simp [Builtin.clear_,run_underlying hu]
       have A3:(E.app (.win c0 (.int .i64 0) l) (.rep (.bin .sub (.len c0) l) w)).den c.ρ=c0.den c.ρ:=by rw [AS,Cu,BF];simp [List.take_of_length_le (show xs.length≤kv.toNat by omega)]
       intro next Q hk
       unfold Oper.wp;rw [AR,Oper.upon_value];have Dz:Rel c n sl (A4 hp [(b, .row el (P.cellsOf el) g (.app (.win c0 (.int .i64 0) l) (.rep (.bin .sub (.len c0) l) w)) d)]) a:=by
        have DD: ∀u,A4 hp [(b, .row el (P.cellsOf el) g (.app (.win c0 (.int .i64 0) l) (.rep (.bin .sub (.len c0) l) w)) d)] u=if u=b then some (.row el (P.cellsOf el) g (.app (.win c0 (.int .i64 0) l) (.rep (.bin .sub (.len c0) l) w)) d)else hp u:=fun u=>rfl;refine h.rel.change (fun u=>u=b) (Dv.refl c) h.rel.base (fun u hu=>⟨by rw [DD,if_neg hu],rfl,rfl,fun _ hk=>hk⟩) (fun _ _ _ _=>rfl) (fun u hu=> ?_) h.rel.gw h.rel.bu (fun u f hf=> ?_)
        ·subst hu;rw [DD,if_pos rfl];refine⟨fun e' hr=> ?_,fun hn=>absurd rfl (hn _)⟩;simp only [Cd]at hr;subst hr;exact⟨q1,q2,N,by rw [A3,k2];exact q3,q4,q5,q6⟩
        ·rw [DD]at hf;split at hf
         ·rename_i hu;subst hu;exact h.rel.bu _ _ k1
         ·exact h.rel.cq u f hf
       exact hk _ c (Mg.refl _ _) (Dz.put ((SR.undef .nil).mkGd []) o.dst)
      ·obtain⟨b9,oD,rfl,rfl⟩:=k6 (by omega);rcases Bc with⟨_,h0,_⟩|⟨g9,C,hp',DX,Vy,hC,ht,h1,Dl⟩
       ·omega
       rw [oD]at hp';cases hp';have DI:C.toList.length=r*P.cellsOf el:=by simpa using hC
       have nZ:m*P.cellsOf el≤r*P.cellsOf el:=Nat.mul_le_mul_right _ Ss;have nY:(m-kv.toNat)*P.cellsOf el+kv.toNat*P.cellsOf el=m*P.cellsOf el:=by rw [←Nat.add_mul];congr 1;omega
       have cD:=zrV zv.cells (by omega) (m-kv.toNat);generalize hZ:(List.replicate (m-kv.toNat) zv.cells.toList).flatten=Z at cD;have M7:Z.length=(m-kv.toNat)*P.cellsOf el:=by rw [←hZ,List.length_flatten];simp only [List.map_replicate,List.sum_replicate_nat,Array.length_toList,DE,Ck]
       have nQ: ∀u∈Z,u.oneCell'=true:=fun u hu=>by rw [←hZ]at hu;obtain⟨L,hL,hu⟩:=List.mem_flatten.1 hu;rw [List.eq_of_mem_replicate hL]at hu;exact c2 u hu
       have GZ:=gX (P:=P) (off:=kv.toNat*P.cellsOf el) Z 0 c.w C Vy (by rw [M7,hC];omega) nQ;have AR:(execOp a.eval o).run P c.w= .ok (.value (.tuple #[])) (CO c.w b9 (kv.toNat*P.cellsOf el) Z):=by
        rw [ex];obtain⟨mm,aP⟩: ∃mm,m-kv.toNat=mm+1:=⟨m-kv.toNat-1,by omega⟩
        have hzv:(zeroValue el).run P c.w= .ok zv c.w:=by simp [zeroValue,typeInfo,hi,FL]
        simp only [Nat.add_zero]at GZ;rw [aP]at cD ⊢;simp [Builtin.clear_,run_underlying hu,hzv,cD,GZ]
       obtain⟨m1,m2,m3⟩:=XS (off:=kv.toNat*P.cellsOf el) (vs:=Z) Vy (by rw [M7,hC];omega);have Nu:(C.toList.take (m*P.cellsOf el)).length=m*P.cellsOf el:=by rw [List.length_take,DI];omega
       have L4:b9∈(c.G b).top:=by rw [ht];simp
       have RX:Rd c.w Z (AK (List.replicate (m-kv.toNat) (w.den c.ρ))) []:=by rw [←hZ];exact mU c1 _
       obtain⟨n1,n2,n3,hN,s1,s2⟩:=Rd.setVs (p:=kv.toNat*P.cellsOf el) Dl RX (by rw [Nu,M7];omega);have L2:(w.den c.ρ).cells.length=P.cellsOf el:=by have:=c1.len;rw [←this];simp [DE,Ck]
       have hYl:(AK (List.replicate (m-kv.toNat) (w.den c.ρ))).length=Z.length:=by rw [←RX.len]
       have E1:setVs (AK xs) (kv.toNat*P.cellsOf el) (AK (List.replicate (m-kv.toNat) (w.den c.ρ)))=AK (xs.take kv.toNat++List.replicate (m-kv.toNat) (w.den c.ρ)):=by
        have ef:=jQ xs Nc 0 kv.toNat (Nat.zero_le _) (by omega)
        simp only [Nat.zero_mul,Nat.sub_zero,List.drop_zero]at ef;unfold setVs;rw [ef,hF,hYl,M7,List.drop_eq_nil_of_le (by rw [MB _ Nc,Jo];omega),List.append_nil]
       rw [E1]at s1;have BZ: ∀q∈n1++ []++n3,q∈N:=fun q hq=>by rw [hN];simp at hq ⊢;rcases hq with hq|hq<;>simp [hq]
       have Fl: ∀q,q<c.w.heap.size→c.ok q→(CO c.w b9 (kv.toNat*P.cellsOf el) Z).heap[q]?=c.w.heap[q]?:=by intro q hq Ax;refine m1.block q hq ?_;simp only [List.mem_singleton];rintro rfl;exact Ax.1 ⟨b,L4⟩
       have Dj:(xs.take kv.toNat++List.replicate (m-kv.toNat) (w.den c.ρ)).length=m:=by rw [Ao,List.length_take,List.length_replicate];omega
       have Dz:=h.rel.kd (t:=b) (b:=b9) (w':=CO c.w b9 (kv.toNat*P.cellsOf el) Z) (O:=if d=true then(c.G b).O else []) AQ L4 (by split;exact .inr rfl;exact .inl rfl) m1 m3
        (.row el (P.cellsOf el) g (.app (.win c0 (.int .i64 0) l) (.rep (.bin .sub (.len c0) l) w)) d) (by intros;simp) (fun Gi=>by
         refine⟨q1,q2,n1++ []++n3, ?_,fun q hq=>Gi.ok q (Dl.inb q (BZ q hq)) (q4 q (BZ q hq)),fun hd=> ?_,fun hd=>by simp [Cx.gk,hd]⟩
         ·show CK (CO c.w b9 (kv.toNat*P.cellsOf el) Z) el (P.cellsOf el) (c.H b g) ((E.app (.win c0 (.int .i64 0) l) (.rep (.bin .sub (.len c0) l) w)).den c.ρ) _ _;rw [AS,k2,oD];refine⟨_,rfl,fun y hy=> ?_,bN, .inr ⟨b9,r,_,by rw [Dj],by rw [Dj];exact Ss,DX,m2, ?_,by simpa [Cx.gk]using ht, ?_, ?_⟩⟩
          ·rcases Ah.1 hy with hy|hy
           ·exact Nc y (List.mem_of_mem_take hy)
           ·rw [List.eq_of_mem_replicate hy];exact L2
          ·rw [List.size_toArray,QK _ _ _ (by rw [M7,DI];omega),Array.length_toList];exact hC
          ·simp only [Dj,List.toList_toArray];rw [QH _ _ _ _ (by rw [M7];omega) (by rw [DI];omega)];intro u hu;unfold setVs at hu;simp only [Ah]at hu;rcases hu with(hu|hu)|hu
           ·exact h1 u (List.mem_of_mem_take hu)
           ·exact nQ u hu
           ·exact h1 u (List.mem_of_mem_drop hu)
          ·simp only [Dj,List.toList_toArray];rw [QH _ _ _ _ (by rw [M7];omega) (by rw [DI];omega)];exact s1.frame fun q hq=>Fl q (Dl.inb q (BZ q hq)) (q4 q (BZ q hq))
         ·obtain⟨u1,u2⟩:=q5 hd;have u1:N= []:=u1;subst u1;have M6:n1++ []++n3= []:=List.eq_nil_iff_forall_not_mem.2 fun q hq=>by simpa using BZ q hq
          rw [M6];exact⟨rfl,by simp only [Cx.gk,if_true,hd];exact u2⟩)
       intro next Q hk
       unfold Oper.wp;rw [AR,Oper.upon_value];exact hk _ (c.gk _ b _) ⟨rfl,rfl,rfl,rfl,fun t ht=> .inl ht⟩ (Dz.put ((SR.undef .nil).mkGd []) o.dst)
    ·cases he
   ·cases he
  ·cases he
 ·cases he
end
section
variable {P:Program} {c:Cx} {n nx:Nat} {sl sl0:Nat→SV} {hp hp0:Nat→Option Aj} {a:Act} {o:Oper} {gs:Gd} {e:AX} {sg:BI} {nv:Nat}
theorem mO {w:World}: ∀(vs:List Value) {xs:List AV} {f:List Nat} (ts:List TypeId),Rd w vs xs f→ts.length≤vs.length→Dr P w ts [] [] vs xs f [] []
 | [],xs,f,ts,h,hl=>by have:ts= []:=List.eq_nil_of_length_eq_zero (by simpa using hl);subst this;cases h;exact .nil
 |v::vs, [],f,ts,h,hl=>by have:=h.len;simp at this
 |v::vs,x::xs,f,ts,h,hl=>by
  obtain⟨f1,f2,rfl,h1,h2⟩:=h.cd;cases ts with
  |nil=>exact .free h1 (mO vs [] h2 (by simp))
  |cons t ts=>exact Dr.cons (h:= []) ⟨h1,rfl⟩ (mO vs ts h2 (by simpa using hl))
theorem zDq (l:EL):EL.of (Re.go l)=l:=by
 induction l using EL.rec (motive_1:=fun _=>True)with
 |nil=>rfl
 |cons e es _ ih=>simp [Re.go,EL.of,ih]
 |_=>trivial
theorem zBC {w:World} {ts:List TypeId} {vs:List Value} {Bs:List AV} {f o:List Nat} (h:DF P w ts [] vs Bs f o):Bs= []:=by
 have key: ∀(ts:List TypeId),Bw ts []=false:=by
  intro ts
  induction ts with
  |nil=>rfl
  |cons t ts ih=>simp only [Bw,List.headD_nil,Bool.false_or,List.tail_nil];exact ih
 exact(iQ h).2 (key ts)
theorem zzS (t:TypeId):Gx P t []=false:=by simp [Gx]
theorem tN (h:Bg P c n nx sl hp a sl0 hp0 o gs) {cl:Call} {fo:Operand} (ho:o.op= .call cl) (AE:cl.callee= .value fo) {y:E} {sf:SV} (hf:BE sl0 gs fo=some sf) (hsf: ∀v,SR c [sf] [v]→ ∃f,Rd c.w [v] [y.den c.ρ] f) {as_:List SV} (has:cl.args.toList.mapM (BE sl0 gs)=some as_) {t:TypeId}
  (he:Re P hp0 gs nv t y as_=some e) (A8: ∀c',e.call=some c'→ ∃r,c.ρ[nv]?=some r∧Ip (Cj P sg) c'.fn ((EL.of c'.args).den c.ρ) c.ρ r):Ay P o c n nx sl hp gs a e:=by
 have aM:fo∈o.op.operands:=by simp [ho,Op.operands,Call.operands,AE]
 have aL: ∀x∈cl.args.toList,x∈o.op.operands:=fun x hx=>by
  have:x∈cl.args:=by simpa using hx
  simp [ho,Op.operands,Call.operands,AE,this]
 have LX:=h.cu hf aM;have Aw:=xC (a:=a) (fun x hx s hs=>h.cu hs (aL x hx)) has;unfold Re at he;split at he
 ·cases he
 split at he
 ·cases he
 rename_i es H4;simp only [Ag]at he;subst he;obtain⟨r,hr,g,caps,hy,Ji,EU⟩:=A8 _ rfl;rw [zDq]at Ji;obtain⟨f1,p1,p2⟩:=QW h.eh h.gs AT H4 Aw AT (Nat.le_refl _);generalize ZY:a.eval fo=fv at LX;obtain⟨_,k1⟩:=hsf _ LX;obtain⟨capv,f2,rfl,ZN⟩: ∃capv f2,fv= .func (.func g) #[] capv.toArray∧Rd c.w capv caps f2:=by
  rw [hy]at k1;cases k1 with
  |fn q1 _=>exact⟨_,_,rfl,q1⟩
 have NG:RE P {cj:= [],res:= []} g (es.den c.ρ++caps) r:=by unfold Cj at Ji;rw [if_neg (by omega)]at Ji;simpa using Ji
 obtain⟨fn,GO,DJ,DK,_,hlen,_,Fk⟩:=NG;have Dl:=p1.app ZN;have DL:=Dl.len;have A8:=Fk c.w _ _ [] [] (mO _ (fn.params.toList++ []) Dl (by rw [DL,hlen,List.append_nil,Array.length_toList];omega)) (by simp) (by simp) (by simp) (h.rel.ng (by simp));have ex:(execOp a.eval o).run P c.w= .ok (.enter g (cl.args.map a.eval++capv.toArray)) c.w:=by
  have hb:fn.body.isNone=false:=by simpa using DJ
  simp only [execOp,ho,resolve,AE,ZY,Deferred.ofValue,Sem.run_bind,Sem.run_pure,Result.andThen_ok,invoke,callFunc,run_program,GO];simp [DK,hb]
 intro next Q hk
 unfold Oper.wp;rw [ex,Oper.upon_enter];have M8:cl.args.map a.eval++capv.toArray=((cl.args.toList.map a.eval)++capv).toArray:=by apply Array.ext';simp
 rw [M8];refine A8.mono ?_;rintro e' w' ⟨v,rfl,⟨R,Bs,f1',o1,f2',o2,KN,AQ,E0,GV,SC,Sc⟩,C8⟩;show next (a.put o.dst v) w'
 have M5:=zBC E0;subst M5;simp only at KN;subst KN;have hv:Rd w' [v] [r] []:=by
  unfold J3 at AQ;split at AQ
  ·rename_i t' ht;unfold Ex at AQ;rw [if_neg (by rw [zzS];simp)]at AQ;have:=tH AQ.1 EU;subst this;exact AQ.1
  ·obtain⟨vs,ys,_,rfl,_⟩:=AQ;have:=EU (.tup ys) (by simp [AV.cells]);simp [AV.scalar]at this
 obtain⟨E5,_⟩:=h.rel.changes (w':=w') (recs:= []) (hs:= []) (gs:=gs) h.gs C8 (by simp) (by simp) (by simp) (by simp) (by simp) (by simp) (by simp);refine hk _ (c.dj w' []) ⟨rfl,rfl,rfl,rfl,fun t ht=> ?_⟩ (E5.put (SR.mkGd (.e (f:= []) ?_ (by simp) .nil) gs h.gs) o.dst)
 ·rcases ht with ht|⟨r,hr,_⟩
  ·exact .inl ht
  ·simp at hr
 ·show Rd w' [v] [(E.var nv).den c.ρ] [];simp only [E.den,hr,Option.getD_some];exact hv
theorem cN (Jk: ∀f s,sg f=some s→f<1000000) (h:Bg P c n nx sl hp a sl0 hp0 o gs) (he:Bv P sg sl0 hp0 nv nx gs o=some e)
  (hc: ∀q∈e.ca,q.den c.ρ) (A8: ∀cl,e.call=some cl→ ∃r,c.ρ[nv]?=some r∧Ip (Cj P sg) cl.fn ((EL.of cl.args).den c.ρ) c.ρ r) (Cz: ∀x,e.bz=some x→c.ρ[nv]?=some (.bool (Kq a o))):Ay P o c n nx sl hp gs a e:=by
 have KH:=he;cases AM:o.op with
 |move x=>simp only [Bv,AM,At]at he;obtain⟨s,hs,rfl⟩:=he;exact wQ h (.inl AM) hs
 |assign x=>simp only [Bv,AM,At]at he;obtain⟨s,hs,rfl⟩:=he;exact wQ h (.inr AM) hs
 |pick x y z=>exact zy7 h AM he hc
 |alloc t=>exact zx2 h AM he hc
 |box t x=>exact zB6 h AM he hc
 |build t parts=>exact zxP h AM he hc
 |buildSlice t m parts=>
  simp only [Bv,AM,Av]at he;obtain⟨ps,LV,he⟩:=he;split at he
  ·exact zrJ h AM LV he hc
  ·exact zpL h AM LV he hc
 |load t x=>exact zz4 h AM he hc
 |nilCheck x=>exact zs8 h AM he hc
 |makeSlice t l m=>
  simp only [Bv,AM,Av]at he;obtain⟨s1,Bz,s2,AW,he⟩:=he;split at he
  ·exact ztU h AM Bz AW he hc
  ·exact zyh h AM Bz AW he hc
 |slice t x lo hi mx=>
  simp only [Bv,AM,Av]at he;obtain⟨s,hs,l',Bx,h',LH,m',FO,he⟩:=he;split at he
  ·exact zt2 h AM hs Bx LH FO he hc
  ·exact zwA h AM hs Bx LH FO he hc
 |fieldAddr t x f=>exact zrM h AM he hc
 |field t x f=>exact zys h AM he hc
 |extract x i=>exact zvh h AM he hc
 |store t x y=>
  simp only [Bv,AM,Av]at he;obtain⟨p,hp',v,hv,he⟩:=he;cases p with
  |cg b k=>exact ztG h AM hp' hv he hc
  |cr b g i sz k=>
   by_cases Br: ∃e z g c d,C6 hp0 gs b=some (.row e z g c d)
   ·exact zs9 h AM Br hp' hv he hc
   ·exact zrW h AM Br hp' hv he hc
  |_=>simp [MF]at he
 |binOp op t x y ty=>
  cases hu:P.underlying t with
  |none=>simp only [Bv,AM,Av]at he;obtain⟨_,_,_,_,he⟩:=he;simp [Rk,hu]at he
  |some d=>
   by_cases SJ: ∃fs,d= .struct fs
   ·obtain⟨fs,rfl⟩:=SJ;exact zBV h AM hu he hc
   ·have LS: ∀fs,P.underlying t≠some (.struct fs):=fun fs hh=>SJ ⟨fs,by rw [hu]at hh;cases hh;rfl⟩;cases hq:e.bz with
    |none=>exact zBl h AM LS he hq hc
    |some x'=>
     have FW:=Cz x' hq;simp only [Bv,AM,Av]at he;obtain⟨s1,Bz,s2,AW,he⟩:=he;have r1:=h.cu Bz (by simp [AM,Op.operands]);have r2:=h.cu AW (by simp [AM,Op.operands]);unfold Rk at he;split at he
     ·rename_i el Fp;have CA: ∀xq,Bf hp0 gs AT s1=some xq→Cn.den c.ρ (.dfd (.len xq))→ ∃p q r,a.eval x= .slice p q r:=by
       intro xq Jp hd;obtain⟨f,q1,_⟩:=h.kt Bz (by simp [AM,Op.operands]) Jp;have hd:(xq.den c.ρ).len≠ .undef:=hd;cases Bm:xq.den c.ρ<;>simp only [Bm,AV.len,ne_eq,not_true_eq_false]at hd;rename_i xs;have hl:(xq.den c.ρ).len= .int .i64 (xs.length:Int):=by rw [Bm];rfl
       rcases QV q1 hl with⟨p,q,hv,DV⟩|⟨b,o',k,q,hv,DV⟩
       ·exact⟨_,_,_,hv⟩
       ·exact⟨_,_,_,hv⟩
      split at he
      ·simp at he;subst he;cases hq
      ·simp at he;subst he;cases hq
      ·obtain⟨xq,Jp,rfl⟩:=At.1 he;obtain⟨p,q,r,hv⟩:=CA xq Jp (hc _ (by simp));exact xE h AM Fp hv r2 (.inl rfl) FW _
      ·obtain⟨xq,Jp,rfl⟩:=At.1 he;obtain⟨p,q,r,hv⟩:=CA xq Jp (hc _ (by simp));exact xE h AM Fp hv r2 (.inr rfl) FW _
      ·cases he
     ·split at he
      ·simp at he;subst he;cases hq
      ·cases he
     ·split at he
      ·simp at he;subst he;cases hq
      ·cases he
     ·split at he
      ·simp at he;subst he;cases hq
      ·cases he
     ·rename_i fs Fp;exact absurd Fp (LS fs)
     ·cases he
 |unOp u t x=>
  cases u with
  |not=>exact zB0 h AM he hc
  |neg=>exact zB9 h AM he hc
  |_=>simp [Bv,AM]at he
 |convert src dst x=>
  have LB:=he;simp only [Bv,AM,Av]at LB;obtain⟨s,_,LB⟩:=LB;unfold US at LB;split at LB
  ·rename_i k0 k h1 h2;exact zu2 h AM h1 h2 he hc
  ·rename_i h1 h2;exact zuz h AM h1 h2 he hc
  ·rename_i el h1 h2;exact ztr h AM h1 h2 he hc
  ·cases LB
 |makeFunc fr fst caps=>
  cases fr with
  |func f=>exact ztC h AM he
  |_=>simp [Bv,AM]at he
 |indexAddr t x i=>refine zrS h AM (fun hu=> ?_) he hc;simp only [Bv,AM,Av]at he;obtain⟨_,_,_,_,he⟩:=he;simp [Wf,hu]at he
 |index t x i=>
  refine zu1 h AM ?_ he hc;simp only [Bv,AM,Av]at he;obtain⟨_,_,_,_,he⟩:=he;split at he
  ·rename_i Fo;unfold Wf at Fo;split at Fo
   ·assumption
   ·cases Fo
  ·cases he
 |call cl=>
  simp only [Bv,AM]at he;cases AE:cl.callee with
  |invoke r m=>rw [AE]at he;simp at he
  |value f=>
   rw [AE]at he;simp only [Av]at he;obtain⟨s,hs,as_,has,he⟩:=he;cases s with
   |fn g caps=>
    have he:UG P sg hp0 gs nv nx g (as_++caps.toList)=some e:=he;refine zz1 h AM AE hs has ?_ he A8;unfold UG at he;split at he
    ·rename_i fn sg' GO hh;exact Jk g sg' hh
    ·cases he
   |e y=>exact tN h AM AE hs (fun v hv=>by cases hv with|e k1 _ _=>exact⟨_,k1⟩) has he A8
   |lent i=>exact tN h AM AE hs (fun v hv=>by
     cases hv with
     |lent g1 _=>obtain⟨f,p1,p2⟩:=h.rel.base.lo _ _ g1;exact⟨f,p1.frame fun b hb=>h.rel.base.block b (p1.inb b hb) (p2 b hb)⟩) has he A8
   |_=>simp at he
  |builtin b=>
   rw [AE]at he;cases b with
   |len=>
    simp only at he;split at he
    ·rename_i x tx C7 Ei;exact zBF h AM AE C7 Ei KH hc
    ·cases he
   |append=>
    simp only at he;split at he
    ·rename_i x y tx ty C7 Ei;simp only [Av]at he;obtain⟨s1,Bz,s2,AW,he⟩:=he;split at he
     ·exact zrk h AM AE C7 Ei Bz AW he hc
     ·exact zue h AM AE C7 Ei Bz AW he hc
    ·cases he
   |clear=>
    simp only at he;split at he
    ·rename_i x tx C7 Ei;simp only [Av]at he;obtain⟨s,hs,he⟩:=he;exact zxN h AM AE C7 Ei hs he hc
    ·cases he
   |max=>
    simp only at he;split at he
    ·rename_i x y C7;simp only [Av]at he;obtain⟨s1,Bz,s2,AW,he⟩:=he;exact uP h AM (.inl ⟨rfl,AE⟩) C7 Bz AW he hc
    ·cases he
   |min=>
    simp only at he;split at he
    ·rename_i x y C7;simp only [Av]at he;obtain⟨s1,Bz,s2,AW,he⟩:=he;exact uP h AM (.inr ⟨rfl,AE⟩) C7 Bz AW he hc
    ·cases he
   |_=>simp at he
 |_=>simp [Bv,AM]at he
end
section
variable {P:Program} {c:Cx} {n nx:Nat} {sl sl0:Nat→SV} {hp hp0:Nat→Option Aj} {a:Act} {o:Oper} {gs:Gd} {e:AX} {sg:BI} {nv:Nat}
theorem Rel.j0 (h:Rel c n sl hp a) {sl':Nat→SV} (hs: ∀i,sl' i=sl i∨SR c [sl' i] [a.tmps.getD i undef]):Rel c n sl' hp a:=
 ⟨h.defers,h.size,h.base,fun i=>by
  rcases hs i with hh|hh
  ·rw [hh];exact h.cx i
  ·exact hh,h.ents,h.off,h.gw,h.bu,h.cq⟩
theorem T8 {u:Nat}: ∀{l:List Operand} {t T v m:Nat} {p:E × Nat × Nat} {s:SV},Lc sl0 u l=some (t,T,v,m,p,s)→Operand.tmp t∈l∧((∃y,sl0 t= .via T v m (some p) y∧s= .own u 0)∨ ∃y k z q,sl0 t= .vptr T v m (some p) y k z q∧s= .cr u 0 k z q)
 | [],_,_,_,_,_,_,h=>by simp [Lc]at h
 |x::l,t,T,v,m,p,s,h=>by
  cases x with
  |tmp i=>
   simp only [Lc]at h;split at h
   ·rename_i hs;simp only [Ag,Prod.mk.injEq]at h;obtain⟨rfl,rfl,rfl,rfl,rfl,rfl⟩:=h;exact⟨by simp, .inl ⟨_,hs,rfl⟩⟩
   ·rename_i hs;simp only [Ag,Prod.mk.injEq]at h;obtain⟨rfl,rfl,rfl,rfl,rfl,rfl⟩:=h;exact⟨by simp, .inr ⟨_,_,_,_,hs,rfl⟩⟩
   ·obtain⟨h1,h2⟩:=T8 h;exact⟨by simp [h1],h2⟩
  |const v9=>simp only [Lc]at h;obtain⟨h1,h2⟩:=T8 h;exact⟨by simp [h1],h2⟩
  |func f=>simp only [Lc]at h;obtain⟨h1,h2⟩:=T8 h;exact⟨by simp [h1],h2⟩
  |global g=>simp only [Lc]at h;obtain⟨h1,h2⟩:=T8 h;exact⟨by simp [h1],h2⟩
theorem Rel.split (h:Rel c n sl hp a) {T v m u:Nat} {p:E × Nat × Nat} {hl inn:Aj} (hs:UF hp0 T v m u p=some (hl,inn)) (BF: ∀t e,hp0 t=some e→hp t=some e) (hu: ¬c.U u) {vv:Value} (Jg:c.E T=m→Is c T v (some p) vv):
  ∃recs c1,c1=c.dj c.w recs∧Rel c1 n sl (A4 hp [(T,hl),(u,inn)]) a∧Dv c c1∧c1.K u 0∧c1.H u 0=vv∧(∃q n r,vv= .slice q n r∧(q=none∨n=0∨ ∃g,q=some ⟨g,0,none⟩))∧(∀t,c1.U t→c.U t∨t=u)∧c.K T v∧c.E T=m∧c1.E T=m+1∧T≠u:=by
 have eh:EH c hp0:=fun t e hr=>h.ents t e (Li BF hr);obtain⟨pi,z,po⟩:=p;unfold UF at hs;split at hs
 ·rename_i e z0 l g ep c0 hlk;split at hs
  ·rename_i AH;obtain⟨rfl,rfl,oF⟩:=AH;simp only at oF;subst oF;split at hs
   ·rename_i e2 z2 l2 B0;simp only [Ag,Prod.mk.injEq]at hs;obtain⟨rfl,rfl⟩:=hs;simp only at B0;obtain⟨q1,q2,q3,q4,q5⟩:=eh T _ (CH hlk (EE _));obtain⟨b,n9,cap,C,ty,fz,kk,k,p1,p2,p3,p4,p5,p6,p7⟩:=Jg q3;obtain⟨d1,d2,⟨a9,d3,_⟩|⟨g9,cap9,C9,ys,N,d3,d4,d5,d6,d7,d8,d9,d10,d11,d12⟩⟩:=q4.inv
    ·rw [p1]at d3;cases d3;omega
    ·rw [p1]at d3;cases d3;rw [d6]at p3;cases p3;rw [AP.az]at d2 d12;have hoz:po<z:=by
      rcases Nat.lt_or_ge po l.length with hh|hh
      ·omega
      ·rw [List.getElem?_eq_none hh]at B0;cases B0
     have Gh:k.toNat<ys.length:=by omega
     have hmul:(k.toNat+1)*z≤ys.length*z:=Nat.mul_le_mul_right _ (by omega);have FQ:ys.length*z≤cap*z:=Nat.mul_le_mul_right _ d7;rw [Nat.add_mul]at hmul;have DI:C.toList.length=cap*z:=by simpa using d9
     have Aq:k.toNat*z+po<C.size:=by omega
     obtain⟨N1,N2,N3,rfl,s1,s2,s3⟩:=d12.split (k.toNat*z+po) 1;have Ce:((C.toList.take (ys.length*z)).drop (k.toNat*z+po)).take 1= [vv]:=by have hv:C[k.toNat*z+po]?=some vv:=p7;rw [List.drop_take,List.take_take,Nat.min_eq_left (by omega),List.drop_eq_getElem_cons (by simpa using Aq),List.take_succ_cons,List.take_zero];rw [Array.getElem?_eq_getElem Aq]at hv;simpa using hv
     have G3:=MP Gh;generalize NQ:(AV.sl ys).nth k.toNat=yk at G3;have Fq:=d10 yk (List.mem_of_getElem? G3);have E1:((AK ys).drop (k.toNat*z+po)).take 1= [(E.fld (.idx c0 pi) po 1 false).den c.ρ]:=by rw [Um ys d10 _ _ G3 po 1 (by omega),List.drop_eq_getElem_cons (by omega),List.take_succ_cons,List.take_zero];simp only [E.den,d4,p4,AV.idx,NQ,AV.fld];simp [show po<yk.cells.length by omega]
     have Be:((CY ys.length l).drop (k.toNat*z+po)).take 1= [.row e2 z2 l2]:=by
      rw [←d2,Ud l _ _ _ _ Gh (by omega)];have GU:po<l.length:=by omega
      rw [List.drop_eq_getElem_cons GU,List.take_succ_cons,List.take_zero];rw [List.getElem?_eq_getElem GU]at B0;simpa using B0
     rw [Ce,E1,Be]at s2;have Ge:=h.bu _ _ q1;have IY:T≠u:=fun hh=>hu (hh▸Ge);have B2:=h.gw.nodup T;simp only [GI.own,q5,List.append_nil,d5]at B2;have AQ: ∀r∈([⟨T,none,b::(N1++N3), .hol e z l g (ep+1) c0 pi po u⟩,⟨u,some vv,N2,if l2.toList.all DT.br then .row e2 z2 0 (.fld (.idx c0 pi) po 1 false) true else .deep e2 z2 l2.toList 0 0 (.fld (.idx c0 pi) po 1 false)⟩]:List AN),r.new.isSome=true→ ¬c.U r.tag:=fun r hr hs=>by
      simp only [Af,List.not_mem_nil,or_false]at hr;rcases hr with rfl|rfl
      ·cases hs
      ·exact hu
     refine⟨[⟨T,none,b::(N1++N3), .hol e z l g (ep+1) c0 pi po u⟩,⟨u,some vv,N2,if l2.toList.all DT.br then .row e2 z2 0 (.fld (.idx c0 pi) po 1 false) true else .deep e2 z2 l2.toList 0 0 (.fld (.idx c0 pi) po 1 false)⟩],_,rfl, ?_⟩;generalize Bd:([⟨T,none,b::(N1++N3), .hol e z l g (ep+1) c0 pi po u⟩,⟨u,some vv,N2,if l2.toList.all DT.br then .row e2 z2 0 (.fld (.idx c0 pi) po 1 false) true else .deep e2 z2 l2.toList 0 0 (.fld (.idx c0 pi) po 1 false)⟩]:List AN)=recs at AQ;have hn:(recs.map AN.tag).Nodup:=by rw [←Bd];simp [IY]
     have aft:=Cx.dk (w':=c.w) h.bu hn AQ;have DW:(⟨T,none,b::(N1++N3), .hol e z l g (ep+1) c0 pi po u⟩:AN)∈recs:=by rw [←Bd];simp
     have DA:(⟨u,some vv,N2,if l2.toList.all DT.br then .row e2 z2 0 (.fld (.idx c0 pi) po 1 false) true else .deep e2 z2 l2.toList 0 0 (.fld (.idx c0 pi) po 1 false)⟩:AN)∈recs:=by rw [←Bd];simp
     obtain⟨k1,k2,k3⟩:=aft.new _ DA vv rfl;have kgT:=aft.G _ DW;have keT:=aft.iy _ DW rfl;have kgu:=aft.G _ DA;have keu:=aft.kr _ DA rfl;obtain⟨kT1,kT2⟩:=aft.K T g q1;simp only at k1 k2 k3 kgT keT kgu keu;have LU: ∀q,q∈b::(N1++N3)∨q∈N2→q∈(c.G T).top:=fun q hq=>by rw [d5];simp only [Af,Ah]at hq ⊢;rcases hq with(hq|hq|hq)|hq<;>simp [hq]
     obtain⟨As,BK⟩:=h.changes (recs:=recs) (gs:= []) (hs:=(c.G T).top) (EE _) (Mod.refl _ c.w) hn AQ (fun q hq=>⟨_,DW,hq⟩) (by
       rw [←Bd];simp only [List.flatMap_cons,List.flatMap_nil,List.append_nil];rw [List.nodup_cons]at B2;obtain⟨n1,n2⟩:=B2;rw [List.append_assoc,List.nodup_append,List.nodup_append]at n2;obtain⟨a1,⟨a2,a3,a4⟩,a5⟩:=n2;rw [List.cons_append,List.nodup_cons,List.nodup_append,List.nodup_append];refine⟨fun hh=>n1 ?_,⟨a1,a3,fun x hx y hy=>a5 x hx y (Ah.2 (.inr hy))⟩,a2,fun x hx y hy G2=> ?_⟩
       ·simp only [Ah]at hh ⊢;rcases hh with(hh|hh)|hh<;>simp [hh]
       ·rcases Ah.1 hx with hx|hx
        ·exact a5 x hx y (Ah.2 (.inl hy)) G2
        ·exact a4 y hy x hx G2.symm)
      (fun r hr q hq=>by
       have:q∈(c.G T).top:=by
        rw [←Bd]at hr;simp only [Af,List.not_mem_nil,or_false]at hr;rcases hr with rfl|rfl
        ·exact LU q (.inl hq)
        ·exact LU q (.inr hq)
       exact⟨.inl this,h.gw.inb T q (by simp [GI.own,this])⟩)
      (fun r hr=>by
       rw [←Bd]at hr;simp only [Af,List.not_mem_nil,or_false]at hr;rcases hr with rfl|rfl
       ·intros;simp
       ·intros;simp only;split<;>simp)
      (fun hk r hr=>by
       rw [←Bd]at hr;simp only [Af,List.not_mem_nil,or_false]at hr;rcases hr with rfl|rfl
       ·refine⟨kT1,fun g' B1=>q2 g' (aft.old T Ge g' B1),by rw [keT,q3], ?_,by rw [kgT]⟩;rw [kT2,p1,kgT];exact⟨b,cap,C,ys,kk,k,N1,N3,rfl,d4,p4,p5,p6,hoz,d1,d2,d6,d7,d8,d9,d10,d11,rfl,k1,by rw [k3];exact p7,s1,s3⟩
       ·simp only;split
        ·rename_i hf;have Bq:=s2.na hf;refine⟨k1,k2, [], ?_,by simp,fun _=>⟨rfl,by rw [kgu]⟩,fun _=>by rw [kgu]⟩;rw [k3,kgu];exact Bq
        ·refine⟨k1,k2,keu, ?_,by rw [kgu]⟩;rw [k3,kgu,AP.ct];exact s2)
     refine⟨?_,BK,k1,k3, ?_,fun t ht=> ?_,q1,q3,by rw [keT,q3],IY⟩
     ·have:(recs.map fun r=>(r.tag,CC [] r.bm))= [(T, .hol e z l g (ep+1) c0 pi po u),(u,if l2.toList.all DT.br then .row e2 z2 0 (.fld (.idx c0 pi) po 1 false) true else .deep e2 z2 l2.toList 0 0 (.fld (.idx c0 pi) po 1 false))]:=by
       rw [←Bd];simp [CC]
      rw [this]at As;exact As
     ·obtain⟨_,_,⟨a9,h1,_⟩|⟨g9,cap9,C9,ys9,N9,h1,_⟩⟩:=s2.inv
      ·exact⟨a9,0,0,h1, .inr (.inl rfl)⟩
      ·exact⟨_,_,_,h1, .inr (.inr ⟨g9,rfl⟩)⟩
     ·rcases ht with ht|⟨r,hr,rfl⟩
      ·exact .inl ht
      ·rw [←Bd]at hr;simp only [Af,List.not_mem_nil,or_false]at hr;rcases hr with rfl|rfl
       ·exact .inl Ge
       ·exact .inr rfl
   ·cases hs
  ·cases hs
 ·cases hs
theorem Rel.close (h:Rel c n sl hp a) {T u:Nat} {hl r d:Aj} (hT:hp T=some hl) (hu:hp u=some r) (hr:UH P hl r=some d) (KT: ∃q1 q2 q3 q4 q5 q6 q7 q8,hl= .hol q1 q2 q3 q4 q5 q6 q7 q8 u) (IY:T≠u):
  ∃recs c1,c1=c.dj c.w recs∧Rel c1 n sl (A4 hp [(T,d),(u, .dead)]) a∧(∀t,c1.U t→c.U t)∧c.E T<c1.E T:=by
 obtain⟨e,z,l,g,ep,c0,i,o',rfl⟩:=KT;have key: ∀(e2 z2:Nat) (l2:AP) (x:E),l[o']?=some (.row e2 z2 l2)→DC c.w [.row e2 z2 l2] [c.H u 0] [x.den c.ρ] (c.G u).top→c.U u→d= .deep e z l g (ep+1) (.set c0 i (.put (.idx c0 i) o' x (Ap P e)))→(Ap P e=false→z=1)→
   ∃recs c1,c1=c.dj c.w recs∧Rel c1 n sl (A4 hp [(T,d),(u, .dead)]) a∧(∀t,c1.U t→c.U t)∧c.E T<c1.E T:=by
  rintro e2 z2 l2 x B0 nV Vv rfl HX;obtain⟨q1,q2,q3,⟨b,cap,C,ys,kk,k,N1,N2,p1,p2,p3,p4,p5,p6,p7,p7',p8,p9,p10,p11,p12,p13,p14,p15,p16,p17,p18⟩,q5⟩:=h.ents T _ (by rw [hT];rfl);have Ge:=h.bu _ _ q1;have Gh:k.toNat<ys.length:=by omega
  have hmul:(k.toNat+1)*z≤ys.length*z:=Nat.mul_le_mul_right _ (by omega);have FQ:ys.length*z≤cap*z:=Nat.mul_le_mul_right _ p9;rw [Nat.add_mul]at hmul;have DI:C.toList.length=cap*z:=by simpa using p11
  have Aq:k.toNat*z+o'<C.size:=by omega
  have G3:=MP Gh;generalize NQ:(AV.sl ys).nth k.toNat=yk at G3;have Fq:=p12 yk (List.mem_of_getElem? G3);obtain⟨zs,DE⟩: ∃zs,x.den c.ρ= .sl zs:=by
   obtain⟨_,_,⟨_,_,hx,_⟩|⟨_,_,_,_,_,_,hx,_⟩⟩:=nV.inv
   ·exact⟨_,hx⟩
   ·exact⟨_,hx⟩
  have Ia:(x.den c.ρ).cells= [x.den c.ρ]:=by rw [DE];rfl
  have hz:(yk.da o' (x.den c.ρ) (Ap P e)).cells=setVs yk.cells o' (x.den c.ρ).cells:=by
   refine jK ?_ (fun hg=> ?_)
   ·cases hg:Ap P e with
    |true=>exact .inr rfl
    |false=>left;rw [DE];intro cs hh;cases hh
   ·have:=HX hg;exact⟨by omega,by omega,Ia⟩
  have Em:AK (ys.set k.toNat (yk.da o' (x.den c.ρ) (Ap P e)))=setVs (AK ys) (k.toNat*z+o') (x.den c.ρ).cells:=
   Yy ys _ _ yk o' _ p12 G3 (by rw [Ia];simp;omega) hz
  have GL:((CY ys.length l).drop (k.toNat*z+o')).take 1= [.row e2 z2 l2]:=by
   rw [←p7',Ud l _ _ _ _ Gh (by omega)];have GU:o'<l.length:=by omega
   rw [List.drop_eq_getElem_cons GU,List.take_succ_cons,List.take_zero];rw [List.getElem?_eq_getElem GU]at B0;simpa using B0
  have SI:setVs (C.toList.take (ys.length*z)) (k.toNat*z+o') [c.H u 0]=C.toList.take (ys.length*z):=by
   apply List.ext_getElem?;intro j;have hl3:(C.toList.take (ys.length*z)).length=ys.length*z:=by rw [List.length_take,DI];exact Nat.min_eq_left FQ
   rw [QQ _ _ _ (by rw [hl3];show k.toNat*z+o'+1≤_;omega)];split
   ·rename_i hj;simp only [Ar,List.length_nil]at hj;have:j=k.toNat*z+o':=by omega
    subst this;rw [Nat.sub_self,List.getElem?_take,if_pos (by omega)];have:=p16;simpa using this.symm
   ·rfl
  have AS:DC c.w [.row e z (AP.of l)] [c.H T g] [(E.set c0 i (.put (.idx c0 i) o' x (Ap P e))).den c.ρ] (b::(N1++((c.G u).top++N2))):=by
   have BU:(E.set c0 i (.put (.idx c0 i) o' x (Ap P e))).den c.ρ= .sl (ys.set k.toNat (yk.da o' (x.den c.ρ) (Ap P e))):=by simp only [E.den,p2,p3,AV.idx,NQ,AV.cz]
   rw [BU,p1];have Dj:(ys.set k.toNat (yk.da o' (x.den c.ρ) (Ap P e))).length=ys.length:=List.length_set;have:=DC.row (w:=c.w) (e:=e) (z:=z) (l:=AP.of l) (g:=b) (cap:=cap) (C:=C) (ys:=ys.set k.toNat (yk.da o' (x.den c.ρ) (Ap P e))) (N1:=N1++((c.G u).top++N2)) (ts:= []) (vs:= []) (xs:= []) (N:= []) p7 (by rw [AP.az];exact p7') p8 (by rw [Dj];exact p9) p10 p11 (fun w hw=>by
     rcases List.mem_or_eq_of_mem_set hw with hw|rfl
     ·exact p12 w hw
     ·rw [hz,QK _ _ _ (by rw [Ia,Fq];simp;omega)];exact Fq) (by rw [Dj];exact p13) (by
     rw [Dj,AP.az,Em,←SI];refine DC.setVs p17 ?_ ?_
     ·exact p18
     ·rw [AD,GL,Ia];exact nV) .nil
   rw [Dj]at this;simpa using this
  have hTK:=q1;have AQ: ∀r∈([⟨T,none,b::(N1++((c.G u).top++N2)), .deep e z l g (ep+1) (.set c0 i (.put (.idx c0 i) o' x (Ap P e)))⟩,⟨u,none, [], .dead⟩]:List AN),r.new.isSome=true→ ¬c.U r.tag:=fun r hr hs=>by simp only [Af,List.not_mem_nil,or_false]at hr;rcases hr with rfl|rfl<;>cases hs
  refine⟨[⟨T,none,b::(N1++((c.G u).top++N2)), .deep e z l g (ep+1) (.set c0 i (.put (.idx c0 i) o' x (Ap P e)))⟩,⟨u,none, [], .dead⟩],_,rfl, ?_⟩;generalize Bd:([⟨T,none,b::(N1++((c.G u).top++N2)), .deep e z l g (ep+1) (.set c0 i (.put (.idx c0 i) o' x (Ap P e)))⟩,⟨u,none, [], .dead⟩]:List AN)=recs at AQ;have hn:(recs.map AN.tag).Nodup:=by rw [←Bd];simp [IY]
  have aft:=Cx.dk (w':=c.w) h.bu hn AQ;have DW:(⟨T,none,b::(N1++((c.G u).top++N2)), .deep e z l g (ep+1) (.set c0 i (.put (.idx c0 i) o' x (Ap P e)))⟩:AN)∈recs:=by rw [←Bd];simp
  have DA:(⟨u,none, [], .dead⟩:AN)∈recs:=by rw [←Bd];simp
  have kgT:=aft.G _ DW;have keT:=aft.iy _ DW rfl;have kgu:=aft.G _ DA;obtain⟨kT1,kT2⟩:=aft.K T g q1;simp only at kgT keT kgu;have BZ: ∀q,q∈b::(N1++((c.G u).top++N2))→q∈(c.G T).top∨q∈(c.G u).top:=fun q hq=>by rw [p14];simp only [Af,Ah]at hq ⊢;rcases hq with hq|hq|hq|hq<;>simp [hq]
  have Nx:=h.gw.nodup T;simp only [GI.own,q5,List.append_nil,p14]at Nx;have aU:(c.G u).top.Nodup:=by have:=h.gw.nodup u;simp only [GI.own]at this;exact(List.nodup_append.1 this).1
  have FJ: ∀q∈(c.G u).top,q∉b::(N1++N2):=fun q hq hh=>h.gw.cm u T (Ne.symm IY) q (by simp [GI.own,hq]) (by rw [←p14]at hh;simp [GI.own,hh]);obtain⟨As,BK⟩:=h.changes (recs:=recs) (gs:= []) (hs:=(c.G T).top++(c.G u).top) (EE _) (Mod.refl _ c.w) hn AQ (fun q hq=>by
    rcases Ah.1 hq with hq|hq
    ·exact⟨_,DW,hq⟩
    ·exact⟨_,DA,hq⟩) (by
    rw [←Bd];simp only [List.flatMap_cons,List.flatMap_nil,List.append_nil];rw [List.nodup_cons,List.nodup_append]at Nx;obtain⟨n1,a1,a2,a3⟩:=Nx;rw [List.nodup_cons,List.nodup_append,List.nodup_append];refine⟨fun hh=> ?_,a1,⟨aU,a2,fun x hx y hy G2=>FJ x hx (by rw [G2];simp [hy])⟩,fun x hx y hy G2=> ?_⟩
    ·simp only [Ah]at hh n1;rcases hh with hh|hh|hh
     ·exact n1 (.inl hh)
     ·exact FJ b hh (by simp)
     ·exact n1 (.inr hh)
    ·rcases Ah.1 hy with hy|hy
     ·exact FJ y hy (by rw [←G2];simp [hx])
     ·exact a3 x hx y hy G2)
   (fun r hr q hq=>by
    have:q∈(c.G T).top∨q∈(c.G u).top:=by
     rw [←Bd]at hr;simp only [Af,List.not_mem_nil,or_false]at hr;rcases hr with rfl|rfl
     ·exact BZ q hq
     ·simp at hq
    refine⟨.inl (Ah.2 this), ?_⟩;rcases this with hh|hh
    ·exact h.gw.inb T q (by simp [GI.own,hh])
    ·exact h.gw.inb u q (by simp [GI.own,hh]))
   (fun r hr=>by rw [←Bd]at hr;simp only [Af,List.not_mem_nil,or_false]at hr;rcases hr with rfl|rfl<;>(intros;simp))
   (fun hk r hr=>by
    rw [←Bd]at hr;simp only [Af,List.not_mem_nil,or_false]at hr;rcases hr with rfl|rfl
    ·exact⟨kT1,fun g' B1=>q2 g' (aft.old T Ge g' B1),by rw [keT,q3],by rw [kT2,kgT];exact AS,by rw [kgT]⟩
    ·exact⟨by rw [kgu],by rw [kgu]⟩)
  refine⟨?_,fun t ht=> ?_,by rw [keT];omega⟩
  ·have:(recs.map fun r=>(r.tag,CC [] r.bm))= [(T, .deep e z l g (ep+1) (.set c0 i (.put (.idx c0 i) o' x (Ap P e)))),(u, .dead)]:=by
    rw [←Bd];simp [CC]
   rw [this]at As;exact As
  ·rcases ht with ht|⟨r,hr,rfl⟩
   ·exact ht
   ·rw [←Bd]at hr;simp only [Af,List.not_mem_nil,or_false]at hr;rcases hr with rfl|rfl
    ·exact Ge
    ·exact Vv
 have Vv:c.U u:=h.cq u r hu;unfold UH at hr;simp only at hr;split at hr
 ·rename_i e2 z2 l2 e3 z3 x B0;split at hr
  ·rename_i hh;obtain⟨hf,rfl,rfl,hlen,AB⟩:=hh;simp only [Ag]at hr;obtain⟨q1,q2,N,q4,q5,q6,q7⟩:=h.ents u _ (by rw [hu];rfl);obtain⟨hN,_⟩:=q6 rfl;have hN:N= []:=hN;subst hN;exact key _ _ _ _ B0 (DC.lr q4 hf hlen) Vv hr.symm (by rcases AB with hh|hh;(rw [hh];simp);exact fun _=>hh)
  ·cases hr
 ·rename_i e2 z2 l2 e3 z3 l3 x B0;split at hr
  ·rename_i hh;obtain⟨rfl,rfl,hb,AB⟩:=hh;simp only [Ag]at hr;have hb:=AP.of_eq hb;subst hb;obtain⟨q1,q2,q3,q4,q5⟩:=h.ents u _ (by rw [hu];rfl);rw [AP.ct]at q4;exact key _ _ _ _ B0 q4 Vv hr.symm (by rcases AB with hh|hh;(rw [hh];simp);exact fun _=>hh)
  ·cases hr
 ·cases hr
end
section
variable {P:Program} {c:Cx} {n nx:Nat} {sl sl0:Nat→SV} {hp hp0:Nat→Option Aj} {a:Act} {o:Oper} {gs:Gd} {e:AX} {sg:BI} {nv:Nat}
theorem QO (hp:Nat→Option Aj): ∀(l:List (Nat × Aj)) (t:Nat),A4 hp l t=match Lf l t with|some f=>some f|none=>hp t
 | [],t=>rfl
 |(u,e)::l,t=>by
  have:=QO (fun v=>if v=u then some e else hp v) l t;simp only [A4,List.foldl_cons,Lf]at this ⊢;rw [this];cases Lf l t with
  |some f=>rfl
  |none=>
   simp only;by_cases h:u=t
   ·rw [if_pos h.symm,if_pos h]
   ·rw [if_neg (Ne.symm h),if_neg h]
theorem zuf {hp:Nat→Option Aj} {T v m u:Nat} {p:E × Nat × Nat} {h r:Aj} (hs:UF hp T v m u p=some (h,r)): ∃e z l ep c0 i o',h= .hol e z l v (m+1) c0 i o' u∧C6 hp [] T=some (.deep e z l v ep c0)∧ep=m:=by
 unfold UF at hs;split at hs
 ·rename_i hl;split at hs
  ·rename_i hh;obtain⟨rfl,rfl,_⟩:=hh;split at hs
   ·simp only [Ag,Prod.mk.injEq]at hs;obtain⟨rfl,_⟩:=hs;exact⟨_,_,_,_,_,_,_,rfl,hl,rfl⟩
   ·cases hs
  ·cases hs
 ·cases hs
theorem zuN {h r d:Aj} {e z:Nat} {l:List DT} {g ep:Nat} {c0 i:E} {o' u:Nat} (hh:h= .hol e z l g ep c0 i o' u) (hc:UH P h r=some d): ∃x,d= .deep e z l g (ep+1) x:=by
 subst hh;unfold UH at hc;simp only at hc;split at hc
 ·split at hc
  ·simp only [Ag]at hc;exact⟨_,hc.symm⟩
  ·cases hc
 ·split at hc
  ·simp only [Ag]at hc;exact⟨_,hc.symm⟩
  ·cases hc
 ·cases hc
theorem zEK (Jk: ∀f s,sg f=some s→f<1000000) (h:Bg P c n nx sl hp a sl0 hp0 o []) (hu: ¬c.U (nx+999)) (he:U2 P sg sl0 hp0 nv nx o=some e)
  (hc: ∀q∈e.ca,q.den c.ρ) (A8: ∀cl,e.call=some cl→ ∃r,c.ρ[nv]?=some r∧Ip (Cj P sg) cl.fn ((EL.of cl.args).den c.ρ) c.ρ r):Ay P o c n nx sl hp [] a e:=by
 unfold U2 at he;simp only at he;split at he
 ·cases he
 rename_i t T v m p s LD;split at he
 ·cases he
 rename_i hl inn IC;split at he
 ·cases he
 rename_i e0 KH;split at he
 ·cases he
 rename_i Cz;have Cz:e0.bz=none:=by cases hh:e0.bz with|none=>rfl|some x=>rw [hh]at Cz;simp at Cz
 obtain⟨H6,Bc⟩:=T8 LD;have H6:Operand.tmp t∈o.op.operands:=by simpa using H6
 obtain⟨fe,fz,fl,fep,fc0,fi,fo,rfl,Ht,rfl⟩:=zuf IC;have hE:c.E T=fep:=(h.eh T _ (CH Ht (EE _))).2.2.1;have Es:=h.rel.cx t;rw [←h.sl t H6]at Es;obtain⟨vv,Jg,AW⟩: ∃vv,Is c T v (some p) vv∧ ∀c1:Cx,c1.ρ=c.ρ→c1.K (nx+999) 0→c1.H (nx+999) 0=vv→(∃q n r,vv= .slice q n r∧(q=none∨n=0∨ ∃g,q=some ⟨g,0,none⟩))→SR c1 [s] [a.tmps.getD t undef]:=by
  rcases Bc with⟨y,CA,rfl⟩|⟨y,k,z,q,CA,rfl⟩
  ·rw [CA]at Es;generalize a.tmps.getD t undef=av at Es ⊢;cases Es with
   |via h1 h2 h3 _=>obtain⟨_,hp⟩:=h3 hE;refine⟨_,hp,fun c1 e1 k1 k2 k3=> ?_⟩;obtain⟨q,n,r,rfl,_⟩:=k3;exact .own k1 k2 .nil
  ·rw [CA]at Es;generalize a.tmps.getD t undef=av at Es ⊢;cases Es with
   |vptr h1 h2 h3 _=>
    obtain⟨b,off,len,cap,kk,kv,g1,g2,g3,g4,g5,g6,rfl⟩:=h3 hE;refine⟨_,g2,fun c1 e1 k1 k2 k3=> ?_⟩;obtain⟨q9,n9,r9,hv,hq⟩:=k3;cases hv;have FX:off=0:=by
     rcases hq with hq|hq|⟨g,hq⟩
     ·cases hq
     ·omega
     ·cases hq;rfl
    subst FX;have:=SR.cr (c:=c1) (i:=k) (sz:=z) (o:=q) k1 k2 (by rw [e1];exact g3) g4 g5 .nil;simpa using this
 obtain⟨recs,c1,rfl,CZ,Nt,Zp,Kx,hvv,ZB,hKT,_,nE,IY⟩:=h.rel.split IC h.hp hu (fun _=>Jg);have KO:=AW _ Nt.ρ Zp Kx hvv;have E5:=CZ.j0 (sl':=fun i=>if i=t then s else sl i) (fun i=>by
  by_cases hi:i=t
  ·subst hi;right;simpa using KO
  ·left;simp [hi])
 have DD: ∀x,A4 hp [(T, .hol fe fz fl v (fep+1) fc0 fi fo (nx+999)),(nx+999,inn)] x=if x=nx+999 then some inn else if x=T then some (.hol fe fz fl v (fep+1) fc0 fi fo (nx+999))else hp x:=fun x=>rfl;have pre1:Bg P (c.dj c.w recs) n nx (fun i=>if i=t then s else sl i) (A4 hp [(T, .hol fe fz fl v (fep+1) fc0 fi fo (nx+999)),(nx+999,inn)]) a (fun i=>if i=t then s else sl0 i) (fun w=>if w=T then some (.hol fe fz fl v (fep+1) fc0 fi fo (nx+999))else if w=nx+999 then some inn else hp0 w) o []:=by
  refine⟨E5,EE _,fun i hi=> ?_,fun x f hf=> ?_,fun x h1 h2 hx=> ?_⟩
  ·by_cases hit:i=t
   ·simp [hit]
   ·simp only [if_neg hit];exact h.sl i hi
  ·rw [DD];by_cases h1:x=T
   ·rw [if_pos h1]at hf;rw [if_neg (by rw [h1];exact IY),if_pos h1];exact hf
   ·rw [if_neg h1]at hf;by_cases h2:x=nx+999
    ·rw [if_pos h2]at hf ⊢;exact hf
    ·rw [if_neg h2]at hf;rw [if_neg h2,if_neg h1];exact h.hp x f hf
  ·rcases ZB x hx with hx|hx
   ·exact h.new x h1 h2 hx
   ·omega
 have hdst: ∀(c':Cx) (a':Act) (w9:SV),Rel c' n (Cs n (fun i=>if i=t then s else sl i) o.dst w9) (fun _=>none) a'→True:=fun _ _ _ _=>trivial;have stale: ∀(c':Cx) (v':Value),c'.K T v→fep<c'.E T→SR c' [sl t] [v']:=by
  intro c' v' hk Aq;rw [←h.sl t H6];rcases Bc with⟨y,CA,_⟩|⟨y,k,z,q,CA,_⟩
  ·rw [CA];exact .via hk (by omega) (fun hh=>by omega) .nil
  ·rw [CA];exact .vptr hk (by omega) (fun hh=>by omega) .nil
 have back: ∀{c':Cx} {hp':Nat→Option Aj} {a':Act} {w9:SV},Rel c' n (Cs n (fun i=>if i=t then s else sl i) o.dst w9) hp' a'→c'.K T v→fep<c'.E T→Rel c' n (Cs n sl o.dst w9) hp' a':=by
  intro c' hp' a' w9 hr hk Aq;refine hr.j0 fun i=> ?_;unfold Cs;by_cases h1:o.dst=some i∧i<n
  ·left;rw [if_pos h1,if_pos h1]
  ·rw [if_neg h1,if_neg h1];by_cases h2:i=t
   ·subst h2;right;exact stale _ _ hk Aq
   ·left;show sl i=if i=t then s else sl i;rw [if_neg h2]
 split at he
 ·
  split at he
  ·rename_i Sn;simp only [Ag]at he;subst he;have I6:=cN Jk pre1 KH hc A8 (fun x hx=>by rw [Cz]at hx;cases hx);intro next Q hk
   refine I6 next Q fun a' c' A3 hr=> ?_
   have Zz:A4 (A4 hp [(T, .hol fe fz fl v (fep+1) fc0 fi fo (nx+999)),(nx+999,inn)]) e0.bm T=some (.hol fe fz fl v (fep+1) fc0 fi fo (nx+999)):=by rw [QO,Sn,DD,if_neg IY,if_pos rfl]
   obtain⟨g1,_,g3,_⟩:=hr.ents T _ (by rw [Zz];rfl);refine hk a' c' ⟨A3.ρ,A3.A,A3.w0,A3.Mu,fun x hx=> ?_⟩ (back hr g1 (by omega));rcases A3.U x hx with hx|hx
   ·rcases ZB x hx with hx|hx
    ·exact .inl hx
    ·exact .inr ⟨by omega,by simp only [By];omega⟩
   ·exact .inr hx
  ·cases he
 ·split at he
  ·rename_i r' hlu hlT;obtain⟨d,hd,rfl⟩:=At.1 he;have I6:=cN Jk pre1 KH hc A8 (fun x hx=>by rw [Cz]at hx;cases hx);intro next Q hk
   refine I6 next Q fun a' c' A3 hr=> ?_
   have Zz:A4 (A4 hp [(T, .hol fe fz fl v (fep+1) fc0 fi fo (nx+999)),(nx+999,inn)]) e0.bm T=some (.hol fe fz fl v (fep+1) fc0 fi fo (nx+999)):=by rw [QO,hlT,DD,if_neg IY,if_pos rfl]
   have hue:A4 (A4 hp [(T, .hol fe fz fl v (fep+1) fc0 fi fo (nx+999)),(nx+999,inn)]) e0.bm (nx+999)=some r':=by rw [QO,hlu]
   obtain⟨recs2,c2,rfl,Dk,hU2,hE2⟩:=hr.close Zz hue hd ⟨_,_,_,_,_,_,_,_,rfl⟩ IY;obtain⟨x9,rfl⟩:=zuN rfl hd;have ZA:A4 (A4 (A4 hp [(T, .hol fe fz fl v (fep+1) fc0 fi fo (nx+999)),(nx+999,inn)]) e0.bm) [(T, .deep fe fz fl v (fep+1+1) x9),(nx+999, .dead)] T=some (.deep fe fz fl v (fep+1+1) x9):=by show(if T=nx+999 then _ else if T=T then _ else _)=_;rw [if_neg IY,if_pos rfl]
   obtain⟨g1,_,g3,_⟩:=Dk.ents T _ (by rw [ZA];rfl);have Dz:=back Dk g1 (by omega);have Bk:A4 hp ((T, .hol fe fz fl v (fep+1) fc0 fi fo (nx+999))::(nx+999,inn)::e0.bm++ [(T, .deep fe fz fl v (fep+1+1) x9),(nx+999, .dead)])=A4 (A4 (A4 hp [(T, .hol fe fz fl v (fep+1) fc0 fi fo (nx+999)),(nx+999,inn)]) e0.bm) [(T, .deep fe fz fl v (fep+1+1) x9),(nx+999, .dead)]:=by rw [←OI,←OI];rfl
   refine hk a' (c'.dj c'.w recs2) ⟨A3.ρ,A3.A,A3.w0,A3.Mu,fun x hx=> ?_⟩ ?_
   ·rcases A3.U x (hU2 x hx)with hx|hx
    ·rcases ZB x hx with hx|hx
     ·exact .inl hx
     ·exact .inr ⟨by omega,by simp only [By];omega⟩
    ·exact .inr hx
   ·have:=Dz;rw [←Bk]at this;exact this
  ·cases he
theorem zAg (h:Bg P c n nx sl hp a sl0 hp0 o gs) {e:AX} (dp:Bool) (hd:Ay P o c n nx sl hp gs a e):Ay P o c n nx sl hp gs a (JI dp hp0 gs e):=by
 unfold JI;split
 ·exact hd
 ·split
  ·rename_i l hl;intro next Q hk
   refine hd next Q fun a' c' hs hr=> ?_
   have e1:A4 hp0 e.bm=fun t=>match Lf e.bm t with|some f=>some f|none=>hp0 t:=funext (QO hp0 e.bm)
   have hl:Dt (A4 hp0 e.bm) [] (xJ e.bm)=some l:=by rw [e1];exact hl
   have Iy:=hr.freeze (hp0:=A4 hp0 e.bm) (fun t e' h'=>by
    rw [QO]at h' ⊢;split at h'
    ·exact h'
    ·exact h.hp t e' h') (EE _) hl
   refine hk a' (c'.bq (l.map (·.1))) ⟨hs.ρ,hs.A,hs.w0,hs.Mu,hs.U⟩ ?_;show Rel _ _ _ (A4 hp (e.bm++l)) a';rw [OI];exact Iy
  ·exact hd
theorem zx5 (dp:Bool) (e:AX):(JI dp hp0 gs e).call=e.call:=by
 unfold JI;split
 ·rfl
 ·split<;>rfl
theorem zAL (dp:Bool) (e:AX):(JI dp hp0 gs e).ca=e.ca:=by
 unfold JI;split
 ·rfl
 ·split<;>rfl
theorem iX (dp:Bool) (e:AX):(JI dp hp0 gs e).bz=e.bz:=by
 unfold JI;split
 ·rfl
 ·split<;>rfl
theorem zy4 {dp:Bool} {e:AX} {x:E} (h:e.bz=some x):JI dp hp0 gs e=e:=by unfold JI;rw [if_pos (by simp [h])]
theorem zB1 (h:Bg P c n nx sl hp a sl0 hp0 o gs) {e:AX} (fz:Bool) (hd:Ay P o c n nx sl hp gs a e):Ay P o c n nx sl hp gs a (JO fz hp0 gs e):=by
 unfold JO;split
 ·exact hd
 ·rename_i R2;simp only [Bool.or_eq_true,not_or]at R2;have hen:e.bm= []:=by simpa using R2.2
  split
  ·rename_i t g m p x hv;split
   ·rename_i y l hy hl;split
    ·rename_i Jd;intro next Q hk
     refine hd next Q fun a' c' hs hr=> ?_
     rw [hen]at hr;have Z1:gs= []:=by simpa using R2.1.1.1.2
     subst Z1;have hr:Rel c' n (Cs n sl o.dst e.val) hp a':=hr;have eh:EH c' hp0:=fun t e Da=>hr.ents t e (Li h.hp Da);have Iy:=hr.freeze h.hp (EE _) hl;refine hk a' (c'.bq (l.map (·.1))) ⟨hs.ρ,hs.A,hs.w0,hs.Mu,hs.U⟩ ?_;refine{Iy with cx:=fun i=> ?_};have h1:=hr.cx i;have h2:=Iy.cx i;unfold Cs at h1 h2 ⊢;split
     ·rename_i hi;rw [if_pos hi]at h1;obtain⟨f,q1,q2⟩:=HM eh (EE _) AT hy h1 AT (Nat.le_refl _);exact .e q1 (fun b hb=>Uc hr eh (EE _) hl Jd (q2 b hb)) .nil
     ·rename_i hi;rw [if_neg hi]at h2;exact h2
    ·exact hd
   ·exact hd
  ·exact hd
theorem zAi (fz:Bool) (e:AX):(JO fz hp0 gs e).call=e.call:=by
 unfold JO;split
 ·rfl
 ·split
  ·split
   ·split<;>rfl
   ·rfl
  ·rfl
theorem zBf (fz:Bool) (e:AX):(JO fz hp0 gs e).ca=e.ca:=by
 unfold JO;split
 ·rfl
 ·split
  ·split
   ·split<;>rfl
   ·rfl
  ·rfl
theorem vU (fz:Bool) (e:AX):(JO fz hp0 gs e).bz=e.bz:=by
 unfold JO;split
 ·rfl
 ·split
  ·split
   ·split<;>rfl
   ·rfl
  ·rfl
theorem zBe {fz:Bool} {e:AX} {x:E} (h:e.bz=some x):JO fz hp0 gs e=e:=by unfold JO;rw [if_pos (by simp [h])]
theorem zFV (Jk: ∀f s,sg f=some s→f<1000000):N6 P sg (Cj P sg):=by
 intro c n nx sl hp a sl0 hp0 o gs e nv h hu he hc A8 Cz;unfold Ln at he;split at he
 ·rename_i e' EA;simp only [Ag]at he;subst he;rw [zBf,zAL]at hc;rw [zAi,zx5]at A8;rw [vU,iX]at Cz;exact zB1 h _ (zAg h _ (cN Jk h EA hc A8 Cz))
 ·split at he
  ·exact zEK Jk h hu he hc A8
  ·cases he
theorem zv9 {x:E} (he:U2 P sg sl0 hp0 nv nx o=some e) (hq:e.bz=some x):False:=by
 unfold U2 at he;simp only at he;split at he
 ·cases he
 split at he
 ·cases he
 split at he
 ·cases he
 rename_i e0 KH;split at he
 ·cases he
 rename_i Cz;have Cz:e0.bz=none:=by cases hh:e0.bz with|none=>rfl|some x=>rw [hh]at Cz;simp at Cz
 split at he
 ·split at he
  ·simp only [Ag]at he;subst he;rw [Cz]at hq;cases hq
  ·cases he
 ·split at he
  ·obtain⟨d,hd,rfl⟩:=At.1 he;rw [Cz]at hq;cases hq
  ·cases he
theorem zvS {x:E} (he:Ln P sg sl0 hp0 nv nx gs o=some e) (hq:e.bz=some x):Bv P sg sl0 hp0 nv nx gs o=some e:=by
 unfold Ln at he;split at he
 ·rename_i e' EA;simp only [Ag]at he;subst he;rw [vU,iX]at hq;rw [zBe (by rw [iX];exact hq),zy4 hq];exact EA
 ·split at he
  ·exact(zv9 he hq).elim
  ·cases he
theorem zEX:Va P sg:=by
 intro c n nx sl hp a sl0 hp0 o gs e nv x h he hq hb;unfold Kq at hb;cases AM:o.op with
 |binOp op t y z ty=>
  rw [AM]at hb;simp only at hb;have he:=zvS he hq;simp only [Bv,AM,Av]at he;obtain⟨s1,Bz,s2,AW,he⟩:=he;have key: ∀xq,Bf hp0 gs AT s1=some xq→xq.den c.ρ= .sl []:=by
   intro xq Jp;obtain⟨f,q1,_⟩:=h.kt Bz (by simp [AM,Op.operands]) Jp;generalize a.eval y=v at q1 hb;split at hb
   ·generalize xq.den c.ρ=d at q1;cases q1 with
    |dz _=>rfl
   ·cases hb
  unfold Rk at he;split at he
  ·split at he
   ·simp at he;subst he;cases hq
   ·simp at he;subst he;cases hq
   ·obtain⟨xq,Jp,rfl⟩:=At.1 he;cases hq;exact key _ Jp
   ·obtain⟨xq,Jp,rfl⟩:=At.1 he;cases hq;exact key _ Jp
   ·cases he
  ·split at he
   ·simp at he;subst he;cases hq
   ·cases he
  ·split at he
   ·simp at he;subst he;cases hq
   ·cases he
  ·split at he
   ·simp at he;subst he;cases hq
   ·cases he
  ·split at he
   ·cases he
   ·split at he
    ·split at he
     ·simp at he;subst he;cases hq
     ·simp at he;subst he;cases hq
     ·cases he
    ·cases he
  ·cases he
 |_=>rw [AM]at hb;simp at hb
end
end Go.Proofs.YtlhlgboblghkdaaGreatDoor
end

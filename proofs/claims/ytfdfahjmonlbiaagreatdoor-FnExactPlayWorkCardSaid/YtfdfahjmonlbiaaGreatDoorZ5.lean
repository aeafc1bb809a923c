/- Parts of a proof, joined: WP, WQ, WR, WRa, WRb, WRc, WRd, WRe, WS, WSa, WSb. -/
import Derived.Test.YtfdfahjmonlbiaaGreatDoorZ4
set_option linter.unusedVariables false
set_option linter.unusedSimpArgs false
section
namespace Go.Proofs.YtfdfahjmonlbiaaGreatDoor
open Go.RowKit
theorem AF.{u} {α:Type u} {a:α}:[a].length=1:=rfl
section
variable {P:Program} {c:Cx} {hp:Nat→Option Aj} {gs:Gd}
theorem zyf (hb:Qm c) (eh:EH c hp) (k:Bg c.ρ gs) (hU: ∀t g,c.K t g→c.U t): ∀(ss:List SV) {ts:List TypeId} {ms:List PM} {lo:List Bool} {es:List E} {bs:List PA} {us uz:List Nat} {vs:List Value},Up P hp gs ts ms lo ss=some (es,bs,us,uz)→SR c ss vs→ts.length≤ss.length→
  ∃rf lf hs,DE P c.w ts ms lo vs (es.map (E.den c.ρ)) rf lf hs∧(∀b∈rf,c.eu us b)∧(∀b∈lf,c.eu uz b∨b<c.w0.heap.size∧ ¬c.Mu b)∧hs=(DB bs).flatMap (fun t=>(c.G t).top)∧I6 P c ts ms vs bs∧(∀u∈DB bs,c.U u)∧(bs≠ []→gs= [])
 | [],ts,ms,lo,es,bs,us,uz,vs,h,hs,hl=>by simp [Up]at h;obtain⟨rfl,rfl,rfl,rfl⟩:=h;cases hs;have:ts= []:=List.eq_nil_of_length_eq_zero (by simpa using hl);subst this;exact⟨[], [], [], .nil,by simp,by simp,by simp [DB], .nil,by simp [DB],by simp⟩
 |s::ss,ts,ms,lo,es,bs,us,uz, [],h,hs,hl=>by have:=hs.len;simp at this
 |s::ss,ts,ms,lo,es,bs,us,uz,v::vs,h,hs,hl=>by
  obtain⟨r1,r2⟩:=hs.cg;unfold Up at h;split at h
  ·cases h
  rename_i ys bs' us' uz' Da;obtain⟨rf,lf,Bb,q1,q2,qz,q3,q4,q5,q6⟩:=zyf hb eh k hU ss Da r2 (by simp at hl ⊢;omega);have see1: ∀{a b:List Nat} {x:Nat},c.eu a x→c.eu (a++b) x:=fun h=>h.mono fun t ht=>by simp [ht]
  have see2: ∀{a b:List Nat} {x:Nat},c.eu b x→c.eu (a++b) x:=fun h=>h.mono fun t ht=>by simp [ht]
  split at h
  ·rename_i hm;split at h
   ·rename_i Cc;simp only [Ae,Bool.not_eq_true']at Cc;obtain⟨t,ts,rfl⟩: ∃t ts',ts=t::ts':=by
     cases ts with
     |nil=>simp at Cc
     |cons t ts=>exact⟨t,ts,rfl⟩
    split at h
    ·rename_i i;simp only [Ah,Prod.mk.injEq]at h;obtain⟨rfl,rfl,rfl,rfl⟩:=h;cases r1 with
     |lent g1 _=>obtain⟨f,p1,p2⟩:=hb.lo _ _ g1;have hw:Rd c.w [v] [(E.var i).den c.ρ] f:=p1.frame fun b BX=>hb.block b (p1.inb b BX) (p2 b BX);exact⟨rf,f++lf,Bb, .lent Cc.1 hm hw q1,q2,fun b BX=>(Ai.1 BX).elim (fun BX=> .inr ⟨p1.inb b BX,p2 b BX⟩) (qz b),q3, .ro hm q4,q5,q6⟩
    ·obtain⟨x,hx,hh⟩:=Av.1 h;simp only [Prod.mk.injEq]at hh;obtain⟨rfl,rfl,rfl,rfl⟩:=hh;obtain⟨f,p1,p2⟩:=H5 eh k A1 hx r1 A1 (Nat.le_refl _);exact⟨rf,f++lf,Bb, .lent Cc.1 hm p1 q1,q2,fun b BX=>(Ai.1 BX).elim (fun BX=> .inl (see1 (p2 b BX))) (fun BX=>(qz b BX).imp see2 id),q3, .ro hm q4,q5,q6⟩
   obtain⟨x,hx,hh⟩:=Av.1 h;simp only [Prod.mk.injEq]at hh;obtain⟨rfl,rfl,rfl,rfl⟩:=hh;obtain⟨f,p1,p2⟩:=H5 eh k A1 hx r1 A1 (Nat.le_refl _);have hb: ∀b∈f++rf,c.eu (BR hp gs (A1+1) [s]++us') b:=fun b hb=>by
    rcases Ai.1 hb with hb|hb
    ·exact see1 (p2 b hb)
    ·exact see2 (q2 b hb)
   cases ts with
   |nil=>exact⟨f++rf,lf,Bb, .free p1 q1,hb,qz,q3, .ro hm q4,q5,q6⟩
   |cons t ts=>exact⟨f++rf,lf, []++Bb, .cons (by rw [hm];exact⟨p1,rfl⟩) q1,hb,qz,q3, .ro hm q4,q5,q6⟩
  ·rename_i own own' hm;split at h
   ·rename_i ty T Bn;split at h
    ·rename_i ty' g cs P3;split at h
     ·cases h
     rename_i Bl;have Bl:ty'=ty:=by simpa using Bl
     subst Bl;split at h
     ·rename_i xs rs vs' CH Fs;simp only [Ah,Prod.mk.injEq]at h;obtain⟨rfl,rfl,rfl,rfl⟩:=h;obtain⟨t,ts,rfl,Ee⟩: ∃t ts',ts=t::ts'∧Kr P t=some ty':=by
       cases ts with
       |nil=>simp at Bn
       |cons t ts=>exact⟨t,ts,rfl,by simpa using Bn⟩
      obtain⟨b,C,g1,g2,g3,g4,g5,g6,g7⟩:=eh T _ (CV P3 k);obtain⟨f,h8,p1,p2,p3,p4,p5⟩:=oO (P:=P) eh k hU (A6 P ty') Fs g7 CH (Nat.le_refl _);have hv:v= .pointer (some ⟨b,0,none⟩):=by
       cases r1 with
       |cm k1 k2 _=>rw [g2]at k2;cases k2;rfl
      refine⟨f++rf,lf,(b::h8)++Bb, .cons ?_ q1,fun x hx=> ?_,qz,by simp [DB,p3,q3,g3], .bx hm Ee hv g1 (by rw [g2,hv]) p5 q4,fun u hu=> ?_,fun _=>rfl⟩
      ·rw [hm];exact⟨ty',b,C,xs.den c.ρ,h8,Ee,hv,g5,g6,rfl,p1,rfl⟩
      ·rcases Ai.1 hx with hx|hx
       ·exact see1 (p2 x hx)
       ·exact see2 (q2 x hx)
      ·simp only [DB,List.cons_append,Ag,Ai]at hu;rcases hu with rfl|hu|hu
       ·exact hU _ _ g1
       ·exact p5 u hu
       ·exact q5 u hu
     ·cases h
    ·cases h
   ·cases h
  ·rename_i own hm;split at h
   ·rename_i t x Bn hx;split at h
    ·cases h
    rename_i AE;have AE:(HZ s).2=Aq P t:=by simpa using AE
    split at h
    ·rename_i rs vs' Fs;simp only [Ah,Prod.mk.injEq]at h;obtain⟨rfl,rfl,rfl,rfl⟩:=h;obtain⟨ts,rfl⟩: ∃ts',ts=t::ts':=by
      cases ts with
      |nil=>simp at Bn
      |cons t' ts=>simp at Bn;exact⟨ts,by rw [Bn]⟩
     obtain⟨f,h8,p1,p2,p3,⟨vs9,p4,p5⟩,p6⟩:=zsO (P:=P) eh k hU r1 hx AE Fs;refine⟨f++rf,lf,h8++Bb, .cons (by rw [hm];exact p1) q1,fun x hx=> ?_,qz,by simp [DB,p3,q3],by rw [AE];exact .mu hm p4 p5 q4,fun u hu=> ?_,fun _=>rfl⟩
     ·rcases Ai.1 hx with hx|hx
      ·exact see1 (p2 x hx)
      ·exact see2 (q2 x hx)
     ·simp only [DB,Ai]at hu;exact hu.elim (p6 u) (q5 u)
    ·cases h
   ·cases h
  ·rename_i own hm;split at h
   ·rename_i t x Bn hx;split at h
    ·cases h
    rename_i AE;have AE:(HZ s).2=Aq P t:=by simpa using AE
    split at h
    ·rename_i rs vs' Fs;simp only [Ah,Prod.mk.injEq]at h;obtain⟨rfl,rfl,rfl,rfl⟩:=h;obtain⟨ts,rfl⟩: ∃ts',ts=t::ts':=by
      cases ts with
      |nil=>simp at Bn
      |cons t' ts=>simp at Bn;exact⟨ts,by rw [Bn]⟩
     obtain⟨f,h8,p1,p2,p3,⟨vs9,p4,p5⟩,p6⟩:=zsO (P:=P) eh k hU r1 hx AE Fs;refine⟨f++rf,lf,h8++Bb, .cons (by rw [hm];exact p1) q1,fun x hx=> ?_,qz,by simp [DB,p3,q3], .va hm p6 q4,fun u hu=> ?_,fun _=>rfl⟩
     ·rcases Ai.1 hx with hx|hx
      ·exact see1 (p2 x hx)
      ·exact see2 (q2 x hx)
     ·simp only [DB,Ai]at hu;exact hu.elim (p6 u) (q5 u)
    ·cases h
   ·cases h
end
inductive Gy (P:Program) (w:World):List TypeId→List Bool→List Value→List AV→List Nat→List Nat→Prop where
 |nil {fl}:Gy P w [] fl [] [] [] []
 |own {t ts fl el u us y ys top N f o}:fl.headD false=true→CI P t=some el→(Ca P el=true∧N= []∨Ca P el=false∧D5 P t=none)→CZ w el (P.cellsOf el) u y top N→Gy P w ts fl.tail us ys f o→Gy P w (t::ts) fl (u::us) (y::ys) (N++f) (top++o)
 |deep {t ts fl el e z l u us y ys top f o}:fl.headD false=true→CI P t=some el→Ca P el=false→D5 P t=some (.row e z l)→DC w [.row e z l] [u] [y] top→Gy P w ts fl.tail us ys f o→Gy P w (t::ts) fl (u::us) (y::ys) f (top++o)
 |skip {t ts fl u us y ys f o}:(fl.headD false=true→CI P t=none)→Gy P w ts fl.tail us ys f o→Gy P w (t::ts) fl (u::us) (y::ys) f o
inductive DU (P:Program) (w:World):List TypeId→List PM→List Value→List AV→List Nat→List Nat→Prop where
 |nil {ms vs}:DU P w [] ms vs [] [] []
 |ro {t ts ms v vs bs f o}:ms.headD .ro= .ro→DU P w ts ms.tail vs bs f o→DU P w (t::ts) ms (v::vs) bs f o
 |va {t ts ms own v vs bs f o}:ms.headD .ro= .va own→DU P w ts ms.tail vs bs f o→DU P w (t::ts) ms (v::vs) bs f o
 |mu {t ts ms own v vs us ys y bs f1 f o1 o}:ms.headD .ro= .mu own→(if Aq P t then v= .agg us.toArray∧y= .agg ys else us= [v]∧ys= [y])→Gy P w (A6 P t) own us ys f1 o1→DU P w ts ms.tail vs bs f o→DU P w (t::ts) ms (v::vs) (y::bs) (f1++f) (o1++o)
 |bx {t ts ms own own' ty b C v vs ys y bs f1 o1 f o}:ms.headD .ro= .bx own own'→Kr P t=some ty→v= .pointer (some ⟨b,0,none⟩)→w.heap[b]?=some (.cells C ty (0,0))→(∀u∈C.toList,u.oneCell'=true)→y= .agg ys→Cp P w (A6 P ty) own' C.toList ys f1 o1→
   DU P w ts ms.tail vs bs f o→DU P w (t::ts) ms (v::vs) (y::bs) (f1++f) (b::o1++o)
section
variable {P:Program} {c:Cx} {w':World}
theorem zz5 {mk:Nat→E} {ts:List TypeId} {fl:List Bool} {us:List Value} {rs:List (Option RI)} (h:GU P c ts fl us rs) (hU: ∀t g,c.K t g→c.U t): ∀{ys:List AV} {f o:List Nat} (j:Nat),Gy P w' ts fl us ys f o→(∀i y,ys[i]?=some y→(mk (j+i)).den c.ρ=y)→
  ∃recs:List AW,L4 mk j rs=recs.map AW.pair∧(recs.flatMap AW.top).Sublist o∧(∀r∈recs,r.new=none∧c.U r.tag∧ ∀hs f,r.bq≠ .gd hs f)∧recs.map AW.tag=CE rs∧ ∀c',E5 c c' w' recs→(∀b∈f,c'.ok b)→ ∀r∈recs,Dh c' r.tag r.bq:=by
 induction h with
 |nil=>intro ys f o j hm _;cases hm;exact⟨[],rfl,by simp,by simp,rfl,by simp⟩
 | @row t ts fl v vs u g el rs h1 h2 S3 h3 h4 h5 _ ih=>
  intro ys f o j hm Gb;cases hm with
  |skip hh _=>rw [hh h1]at h2;cases h2
  |deep _ k2 k21 k22 _ _=>
   rw [h2]at k2;cases k2;rcases S3 with hh|hh
   ·rw [hh]at k21;cases k21
   ·rw [hh]at k22;cases k22
  | @own _ _ _ el' _ _ y ys top N f o k1 k2 k23 k3 k4=>
   rw [h2]at k2;cases k2;obtain⟨recs,e1,e2,e3,e4,e5⟩:=ih (j+1) k4 (fun i y hy=>by rw [show j+1+i=j+(i+1)from by omega];exact Gb (i+1) y (by simpa using hy));have hy:=Gb 0 y rfl;refine⟨⟨u,none,top, .row el (P.cellsOf el) g (mk j) (Ca P el)⟩::recs,by simp [L4,e1,AW.pair],by simpa using(List.Sublist.refl top).append e2,fun r hr=> ?_,by simp [CE,RI.tag,e4],fun c' ha Az r hr=> ?_⟩
   ·rcases Ag.1 hr with rfl|hr
    ·exact⟨rfl,hU _ _ h3,by simp⟩
    ·exact e3 r hr
   ·rcases Ag.1 hr with rfl|hr
    ·obtain⟨a1,a2⟩:=ha.K u g h3;have kg:=ha.G _ (List.mem_cons_self ..);simp only at kg;refine⟨a1,fun g' CA=>h5 g' (ha.old u (hU _ _ h3) g' CA),N, ?_,fun b hb=>Az b (by simp [hb]),fun hd=> ?_,fun _=>by rw [kg]⟩
     rotate_left
     ·rcases k23 with⟨_,h⟩|⟨h,_⟩
      ·subst h;exact⟨rfl,by rw [kg]⟩
      ·rw [h]at hd;cases hd
     have Bv:(mk j).den c.ρ=y:=by simpa using hy
     rw [a2,h4,kg,ha.w,ha.ρ,Bv];exact k3
    ·exact e5 c' (ha.mono fun r hr=>by simp [hr]) (fun b hb=>Az b (by simp [hb])) r hr
 | @deep t ts fl v vs u g el e z l ep rs h1 h2 S2 PR h3 h4 h5 h6 _ ih=>
  intro ys f o j hm Gb;cases hm with
  |skip hh _=>rw [hh h1]at h2;cases h2
  |own _ k2 k23 _ _=>
   rw [h2]at k2;cases k2;rcases k23 with⟨hh,_⟩|⟨_,hh⟩
   ·rw [hh]at S2;cases S2
   ·rw [hh]at PR;cases PR
  | @deep _ _ _ el' e' z' l' _ _ y ys top f o k1 k2 k21 k22 k3 k4=>
   rw [PR]at k22;cases k22;obtain⟨recs,e1,e2,e3,e4,e5⟩:=ih (j+1) k4 (fun i y hy=>by rw [show j+1+i=j+(i+1)from by omega];exact Gb (i+1) y (by simpa using hy));have hy:=Gb 0 y rfl;refine⟨⟨u,none,top, .deep e z l g (ep+1) (mk j)⟩::recs,by simp [L4,e1,AW.pair],by simpa using(List.Sublist.refl top).append e2,fun r hr=> ?_,by simp [CE,RI.tag,e4],fun c' ha Az r hr=> ?_⟩
   ·rcases Ag.1 hr with rfl|hr
    ·exact⟨rfl,hU _ _ h3,by simp⟩
    ·exact e3 r hr
   ·rcases Ag.1 hr with rfl|hr
    ·obtain⟨a1,a2⟩:=ha.K u g h3;have kg:=ha.G _ (List.mem_cons_self ..);have ke:=ha.iz _ (List.mem_cons_self ..) rfl;simp only at kg ke;refine⟨a1,fun g' CA=>h5 g' (ha.old u (hU _ _ h3) g' CA),by rw [ke,h6], ?_,by rw [kg]⟩;have Bv:(mk j).den c.ρ=y:=by simpa using hy
     rw [a2,h4,kg,ha.w,ha.ρ,Bv];exact k3
    ·exact e5 c' (ha.mono fun r hr=>by simp [hr]) (fun b hb=>Az b (by simp [hb])) r hr
 | @none t ts fl v vs rs _ _ ih=>
  intro ys f o j hm Gb;have go: ∀{y:AV} {ys':List AV} {f' o':List Nat},ys=y::ys'→Gy P w' ts fl.tail vs ys' f' o'→(∀b∈f',b∈f)→o'.Sublist o→ ∃recs:List AW,L4 mk j (none::rs)=recs.map AW.pair∧(recs.flatMap AW.top).Sublist o∧(∀r∈recs,r.new=none∧c.U r.tag∧ ∀hs f,r.bq≠ .gd hs f)∧recs.map AW.tag=CE (none::rs)∧ ∀c',E5 c c' w' recs→(∀b∈f,c'.ok b)→ ∀r∈recs,Dh c' r.tag r.bq:=by rintro y ys' f' o' rfl Ga hf hs;obtain⟨recs,e1,e2,e3,e4,e5⟩:=ih (j+1) Ga (fun i y hy=>by rw [show j+1+i=j+(i+1)from by omega];exact Gb (i+1) y (by simpa using hy));exact⟨recs,by simp [L4,e1],e2.trans hs,e3,by simp [CE]at e4 ⊢;exact e4,fun c' ha Az=>e5 c' ha fun b hb=>Az b (hf b hb)⟩
  cases hm with
  |skip _ h8=>exact go rfl h8 (fun _ h=>h) (List.Sublist.refl _)
  |own _ _ _ _ h8=>exact go rfl h8 (fun b hb=>by simp [hb]) (List.sublist_append_right _ _)
  |deep _ _ _ _ _ h8=>exact go rfl h8 (fun _ h=>h) (List.sublist_append_right _ _)
theorem zv9 (us:List Nat) (hU: ∀u∈us,c.U u): ∃recs:List AW,Fi us=recs.map AW.pair∧recs.flatMap AW.top= []∧(∀r∈recs,r.new=none∧c.U r.tag∧ ∀hs f,r.bq≠ .gd hs f)∧recs.map AW.tag=us∧ ∀c',E5 c c' w' recs→ ∀r∈recs,Dh c' r.tag r.bq:=by
 induction us with
 |nil=>exact⟨[],rfl,rfl,by simp,rfl,by simp⟩
 |cons u us ih=>
  obtain⟨recs,e1,e2,e3,e4,e5⟩:=ih fun u hu=>hU u (by simp [hu]);refine⟨⟨u,none, [], .dead⟩::recs,by simp only [Fi]at e1;simp [Fi,e1,AW.pair],by simp [e2],fun r hr=> ?_,by simp [e4],fun c' ha r hr=> ?_⟩
  ·rcases Ag.1 hr with rfl|hr
   ·exact⟨rfl,hU _ (by simp),by simp⟩
   ·exact e3 r hr
  ·rcases Ag.1 hr with rfl|hr
   ·have kg:=ha.G _ (List.mem_cons_self ..);simp only at kg;exact⟨by rw [kg],by rw [kg]⟩
   ·exact e5 c' (ha.mono fun r hr=>by simp [hr]) r hr
structure IV (c:Cx) (w':World) (nx m:Nat) (l:List (Nat × Aj)) (hd o f:List Nat) (recs:List AW):Prop where
 ents:l=recs.map AW.pair
 mn:(recs.flatMap AW.top).Sublist o
 new: ∀r∈recs,r.new.isSome=true→nx≤r.tag∧r.tag<nx+m
 old: ∀r∈recs,r.new=none→r.tag∈hd∧c.U r.tag
 all: ∀t∈hd,∃r∈recs,r.tag=t
 nodup:hd.Nodup→(∀t,nx≤t→t<nx+m→ ¬c.U t)→(recs.map AW.tag).Nodup
 ne: ∀r∈recs,∀hs f,r.bq≠ .gd hs f
 ok: ∀c',E5 c c' w' recs→(∀b∈f,c'.ok b)→ ∀r∈recs,Dh c' r.tag r.bq
theorem IV.app {nx m m':Nat} {l l':List (Nat × Aj)} {hd K3 o o' f f':List Nat} {recs recs':List AW} (h:IV c w' nx m l hd o f recs) (k:IV c w' (nx+m) m' l' K3 o' f' recs'):IV c w' nx (m+m') (l++l') (hd++K3) (o++o') (f++f') (recs++recs'):=by
 refine⟨by rw [h.ents,k.ents,List.map_append],by rw [List.flatMap_append];exact h.mn.append k.mn,fun r hr hn=> ?_,fun r hr hn=> ?_,fun t ht=> ?_,fun hn hU=> ?_,fun r hr=> ?_,fun c' ha Az r hr=> ?_⟩
 ·rcases Ai.1 hr with hr|hr
  ·have:=h.new r hr hn;omega
  ·have:=k.new r hr hn;omega
 ·rcases Ai.1 hr with hr|hr
  ·exact⟨by simp [(h.old r hr hn).1],(h.old r hr hn).2⟩
  ·exact⟨by simp [(k.old r hr hn).1],(k.old r hr hn).2⟩
 ·rcases Ai.1 ht with ht|ht
  ·obtain⟨r,hr,e⟩:=h.all t ht;exact⟨r,by simp [hr],e⟩
  ·obtain⟨r,hr,e⟩:=k.all t ht;exact⟨r,by simp [hr],e⟩
 ·rw [List.nodup_append]at hn;rw [List.map_append,List.nodup_append];refine⟨h.nodup hn.1 fun t h1 h2=>hU t h1 (by omega),k.nodup hn.2.1 fun t h1 h2=>hU t (by omega) (by omega),fun t1 Oy t2 Lf he=> ?_⟩;obtain⟨q1,GF,rfl⟩:=List.mem_map.1 Oy;obtain⟨q2,Fb,rfl⟩:=List.mem_map.1 Lf;cases n1:q1.new with
  |none=>
   obtain⟨a1,a2⟩:=h.old q1 GF n1;cases n2:q2.new with
   |none=>exact hn.2.2 _ a1 _ (k.old q2 Fb n2).1 he
   |some v2=>have:=k.new q2 Fb (by simp [n2]);exact hU q2.tag (by omega) (by omega) (he▸a2)
  |some v1=>
   have:=h.new q1 GF (by simp [n1]);cases n2:q2.new with
   |none=>exact hU q1.tag (by omega) (by omega) (he▸(k.old q2 Fb n2).2)
   |some v2=>have:=k.new q2 Fb (by simp [n2]);omega
 ·rcases Ai.1 hr with hr|hr
  ·exact h.ne r hr
  ·exact k.ne r hr
 ·rcases Ai.1 hr with hr|hr
  ·exact h.ok c' (ha.mono fun r hr=>by simp [hr]) (fun b hb=>Az b (by simp [hb])) r hr
  ·exact k.ok c' (ha.mono fun r hr=>by simp [hr]) (fun b hb=>Az b (by simp [hb])) r hr
theorem IV.kq {nx:Nat} {l:List (Nat × Aj)} {hd o f:List Nat} {recs:List AW} (e1:l=recs.map AW.pair) (e2:(recs.flatMap AW.top).Sublist o) (e3: ∀r∈recs,r.new=none∧c.U r.tag∧ ∀hs f,r.bq≠ .gd hs f) (e4:recs.map AW.tag=hd) (e5: ∀c',E5 c c' w' recs→(∀b∈f,c'.ok b)→ ∀r∈recs,Dh c' r.tag r.bq):IV c w' nx 0 l hd o f recs:=by
 refine⟨e1,e2,fun r hr hn=> ?_,fun r hr _=>⟨?_,(e3 r hr).2.1⟩,fun t ht=> ?_,fun hn _=>by rw [e4];exact hn,fun r hr=>(e3 r hr).2.2,fun c' ha Az=>e5 c' ha Az⟩
 ·rw [(e3 r hr).1]at hn;cases hn
 ·rw [←e4];exact List.mem_map.2 ⟨r,hr,rfl⟩
 ·rw [←e4]at ht;obtain⟨r,hr,e⟩:=List.mem_map.1 ht;exact⟨r,hr,e⟩
theorem zCo {ts:List TypeId} {ms:List PM} {vs:List Value} {bs:List PA} (h:I6 P c ts ms vs bs) (hU: ∀t g,c.K t g→c.U t) {r:Nat}: ∀{Bs:List AV} {f o:List Nat} (nx j:Nat),DU P w' ts ms vs Bs f o→(∀k y,Bs[k]?=some y→(E.proj (.var r) (j+k+1)).den c.ρ=y)→
  Bs.length=IF bs∧ ∃recs,IV c w' nx (KI P bs) (after P r nx bs j) (DB bs) o f recs:=by
 have nilS: ∀nx,IV c w' nx 0 [] [] [] [] []:=fun nx=>⟨rfl,by simp,by simp,by simp,by simp,by simp,by simp,by simp⟩
 induction h with
 |nil=>intro Bs f o nx j hb _;cases hb;exact⟨rfl, [],by simpa [after,DB,KI]using nilS nx⟩
 | @ro ts ms v vs bs hm Dm ih=>
  intro Bs f o nx j hb hB;cases hb with
  |nil=>exact ih nx j .nil hB
  |ro _ h8=>exact ih nx j h8 hB
  |va h9 _=>rw [hm]at h9;cases h9
  |mu h9 _ _ _=>rw [hm]at h9;cases h9
  |bx h9 _ _ _ _ _ _ _=>rw [hm]at h9;cases h9
 | @va ts ms own v vs bs us hm Lh Dm ih=>
  intro Bs f o nx j hb hB;obtain⟨recs1,e1,e2,e3,e4,e5⟩:=zv9 (c:=c) (w':=w') us Lh;have s1:IV c w' nx 0 (Fi us) us [] [] recs1:= .kq e1 (by rw [e2];exact List.Sublist.refl _) e3 e4 fun c' ha _=>e5 c' ha;cases hb with
  |nil=>obtain⟨h1,recs2,s2⟩:=ih nx j .nil hB;exact⟨by simpa [IF]using h1,recs1++recs2,by simpa [after,DB,KI]using s1.app s2⟩
  |ro h9 _=>rw [hm]at h9;cases h9
  |va _ h8=>obtain⟨h1,recs2,s2⟩:=ih nx j h8 hB;exact⟨by simpa [IF]using h1,recs1++recs2,by simpa [after,DB,KI]using s1.app s2⟩
  |mu h9 _ _ _=>rw [hm]at h9;cases h9
  |bx h9 _ _ _ _ _ _ _=>rw [hm]at h9;cases h9
 | @mu t ts ms own v vs bs us rs hm Lh Fs Dm ih=>
  intro Bs f o nx j hb hB;cases hb with
  |ro h9 _=>rw [hm]at h9;cases h9
  |va h9 _=>rw [hm]at h9;cases h9
  |bx h9 _ _ _ _ _ _ _=>rw [hm]at h9;cases h9
  | @mu _ _ _ own2 _ _ us2 ys y Bs f1 f o1 o h9 hg TF h8=>
   rw [hm]at h9;cases h9;obtain⟨h1,recs2,s2⟩:=ih nx (j+1) h8 (fun k y hy=>by rw [show j+1+k+1=j+(k+1)+1 from by omega];exact hB (k+1) y (by simpa using hy));have hy:=hB 0 y rfl;have OA:us2=us:=by
    split at Lh
    ·rename_i AE;rw [if_pos AE]at hg;obtain⟨rfl,_⟩:=hg;exact zsX Lh
    ·rename_i AE;rw [if_neg AE]at hg;rw [hg.1,Lh]
   subst OA;obtain⟨recs1,e1,e2,e3,e4,e5⟩:=zz5 (w':=w') (mk:=DD (.proj (.var r) (j+1)) (Aq P t)) Fs hU 0 TF (by
    intro i z hz;split at hg
    ·rename_i AE;rw [AE];exact V6 (by rw [←hg.2];exact hy) i z hz
    ·rename_i AE;have G5:Aq P t=false:=by simpa using AE
     rw [hg.2]at hz;cases i with
     |zero=>simp at hz;subst hz;rw [G5];simpa [DD]using hy
     |succ i=>simp at hz)
   have s1:IV c w' nx 0 _ (CE rs) o1 f1 recs1:= .kq e1 e2 e3 e4 e5;exact⟨by simp [IF,h1],recs1++recs2,by simpa [after,DB,KI]using s1.app s2⟩
 | @bx t ts ms own own' ty v vs bs T b g olds hm Ee hv hK hH hol Dm ih=>
  intro Bs f o nx j hb hB;cases hb with
  |ro h9 _=>rw [hm]at h9;cases h9
  |va h9 _=>rw [hm]at h9;cases h9
  |mu h9 _ _ _=>rw [hm]at h9;cases h9
  | @bx _ _ _ own2 own3 ty2 b2 C _ _ ys y Bs f1 o1 f o h9 JI Ds hh CS HO hc h8=>
   rw [hm]at h9;cases h9;rw [Ee]at JI;cases JI;have W5:b2=b:=by rw [hv]at Ds;cases Ds;rfl
   subst W5;obtain⟨h1,recs2,s2⟩:=ih (nx+(A6 P ty).length) (j+1) h8 (fun k y hy=>by rw [show j+1+k+1=j+(k+1)+1 from by omega];exact hB (k+1) y (by simpa using hy));have hy:=hB 0 y rfl;obtain⟨recs0,d1,d2,d3,d4,d5⟩:=zv9 (c:=c) (w':=w') olds hol;have s0:IV c w' nx 0 (Fi olds) olds [] [] recs0:= .kq d1 (by rw [d2];exact List.Sublist.refl _) d3 d4 fun c' ha _=>d5 c' ha;obtain⟨recs1,e1,e2,e3,e4,_,e5⟩:=Rp (c:=c) (nx:=nx) (mk:=DD (.proj (.var r) (j+1)) true) hc 0 (V6 (by rw [←HO];exact hy));have tP:=hU _ _ hK;have s1:IV c w' nx (A6 P ty).length ((T, .box ty g (CO P nx (DD (.proj (.var r) (j+1)) true) 0 (A6 P ty) own').1)::(CO P nx (DD (.proj (.var r) (j+1)) true) 0 (A6 P ty) own').2) [T] (b2::o1) f1 (⟨T,none, [b2], .box ty g (CO P nx (DD (.proj (.var r) (j+1)) true) 0 (A6 P ty) own').1⟩::recs1):=by
    refine⟨by simp [e1,AW.pair], ?_,fun q hq hn=> ?_,fun q hq hn=> ?_,by simp,fun _ A2=> ?_,fun q hq=> ?_,fun c' ha Az q hq=> ?_⟩
    ·simp only [List.flatMap_cons,e2,List.singleton_append];exact List.Sublist.refl _
    ·rcases Ag.1 hq with rfl|hq
     ·cases hn
     ·have:=e3 q hq;omega
    ·rcases Ag.1 hq with rfl|hq
     ·exact⟨by simp,tP⟩
     ·have:=(e3 q hq).2.2;rw [hn]at this;cases this
    ·simp only [List.map_cons,List.nodup_cons];refine⟨fun hm=> ?_,e4⟩;obtain⟨q,hq,hqt⟩:=List.mem_map.1 hm;have:=e3 q hq;exact A2 q.tag (by omega) (by omega) (hqt▸tP)
    ·rcases Ag.1 hq with rfl|hq
     ·simp
     ·intro hs f he;obtain⟨q1,q2⟩:=e3 q hq;have:(q.tag,q.bq)∈(CO P nx (DD (.proj (.var r) (j+1)) true) 0 (A6 P ty) own').2:=by
       rw [e1];exact List.mem_map.2 ⟨q,hq,rfl⟩
      exact Pe _ _ _ _ _ this he
    ·obtain⟨p1,p2⟩:=e5 c' (ha.mono fun r hr=>by simp [hr]) Az;rcases Ag.1 hq with rfl|hq
     ·obtain⟨a1,a2⟩:=ha.K T 0 hK;have kg:=ha.G _ (List.mem_cons_self ..);simp only at kg;exact⟨b2,C,a1,by rw [a2,hH,hv],by rw [kg],by rw [kg],by rw [ha.w];exact hh,CS,p1⟩
     ·exact p2 q hq
   refine⟨by simp [IF,h1],recs0++((⟨T,none, [b2], .box ty g (CO P nx (DD (.proj (.var r) (j+1)) true) 0 (A6 P ty) own').1⟩::recs1)++recs2), ?_⟩;have s3:=s0.app (s1.app s2);rw [Nat.zero_add]at s3;refine⟨by simpa [after]using s3.ents,s3.mn,s3.new,fun q hq hn=> ?_,fun t ht=> ?_,fun hn A2=> ?_,s3.ne,s3.ok⟩
   ·have:=s3.old q hq hn;simp only [DB,List.cons_append,Ag,Ai,List.not_mem_nil,or_false,List.nil_append]at this ⊢;exact⟨by rcases this.1 with h|h|h;exact .inr (.inl h);exact .inl h;exact .inr (.inr h),this.2⟩
   ·refine s3.all t ?_;simp only [DB,List.cons_append,Ag,Ai,List.nil_append]at ht ⊢;rcases ht with h|h|h
    ·exact .inr (.inl h)
    ·exact .inl h
    ·exact .inr (.inr h)
   ·refine s3.nodup ?_ A2;simp only [DB,List.cons_append,List.nodup_cons,List.nodup_append,Ai,not_or,List.nil_append]at hn ⊢;obtain⟨⟨n1,n2⟩,n3,n4,n5⟩:=hn;refine⟨n3,⟨n2,n4⟩,fun a ha b hb=> ?_⟩;rcases Ag.1 hb with rfl|hb
    ·rintro rfl;exact n1 ha
    ·exact n5 a ha b hb
end
def PC (P:Program):List TypeId→List Bool→List AV→Bool
 |t::ts,fl,y::ys=>((fl.headD false&&(CI P t).isSome)||CQ P t||y.scalar)&&PC P ts fl.tail ys
 |_,_,_=>true
def XS (P:Program) (t:TypeId) (fl:List Bool) (x:AV):Bool:=if GV P t fl then PC P (A6 P t) fl (if Aq P t then x.cells else [x])else CQ P t||x.cells.all AV.scalar
def XD (P:Program):List TypeId→List Bool→List AV→Bool
 |t::ts,fl,x::xs=>XS P t fl x&&XD P ts (fl.drop (A6 P t).length) xs
 |_,_,_=>true
def XK (P:Program) (ts:List TypeId) (fl:List Bool) (R:AV):Bool:=match ts with
 | [t]=>XS P t fl R
 |ts=>match R with
  | .tup ys=>XD P ts fl ys
  |_=>true
def II (P:Program):List TypeId→List PM→List AV→Bool
 |t::ts,ms,bs=>(match ms.headD .ro with
  | .ro=>II P ts ms.tail bs
  | .va _=>II P ts ms.tail bs
  | .mu _=>II P ts ms.tail bs.tail
  | .bx _ own'=>(match Kr P t,bs with
   |some ty,b::_=>PC P (A6 P ty) own' b.cells
   |_,_=>true)&&II P ts ms.tail bs.tail)
 | [],_,_=>true
def BG:List TypeId→List PM→Bool
 |_::ts,ms=>(match ms.headD .ro with
  | .mu _=>true
  | .bx .. =>true
  |_=>false)||BG ts ms.tail
 | [],_=>false
def Nw (P:Program) (fn:Func) (s:HC) (r:AV):Bool:=
 if BG (fn.params.toList++s.ft) s.cr then(match r with
  | .tup (R::bs)=>XK P fn.resultTypes.toList s.res R&&II P (fn.params.toList++s.ft) s.cr bs
  |_=>false)
 else XK P fn.resultTypes.toList s.res r
def Ks (P:Program) (w:World) (ts:List TypeId) (fl:List Bool) (v:Value) (R:AV) (f o:List Nat):Prop:=match ts with
 | [t]=>ES P w t fl v R f o
 |ts=> ∃vs ys,v= .tuple vs.toArray∧R= .tup ys∧Jg P w ts fl vs ys f o
structure zZ (P:Program) (fn:Func) (s:HC) (w:World) (vs:List Value) (rf hs:List Nat) (r:AV) (v:Value) (w':World):Prop where
 ex: ∃R bs f1 o1 f2 o2,r=(match bs with| []=>R|_=> .tup (R::bs))∧Ks P w' fn.resultTypes.toList s.res v R f1 o1∧DU P w' (fn.params.toList++s.ft) s.cr vs bs f2 o2∧(o1++o2).Nodup∧
  (∀b∈o1++o2,(b∈hs∨w.heap.size≤b)∧b<w'.heap.size)∧ ∀b∈f1++f2,b∉o1++o2∧(b∈rf∨b∈hs∨w.heap.size≤b)
 mod:Mod hs w w'
theorem Rel.nh {c:Cx} {n:Nat} {sl:Nat→SV} {hp:Nat→Option Aj} {a:Act} (h:Rel c n sl hp a) {hs:List Nat} (hh: ∀b∈hs,∃t,b∈(c.G t).top):kO c.w (fun b=>b∈hs):=by
 obtain⟨p1,p2,p3⟩:=h.base.pk;refine⟨Nat.le_trans p1 h.base.size,FL.mono (fun b hb=>h.base.block b (by omega) fun hm=>by have:=p3 b hm;omega) p2,fun b hb=> ?_⟩;obtain⟨t,ht⟩:=hh b hb;rcases h.gw.allow t b (by simp [GI.own,ht])with k|k
 ·have:c.w0.heap.size≤b:=k;omega
 ·exact p3 b k
def SX (P:Program) (s:HC) (f:Nat) (xs:List AV) (r:AV):Prop:=
 ∃fn,P.funcs[f]?=some fn∧fn.body.isSome=true∧(fn.name== "runtime.NumGoroutine")=false∧Nw P fn s r=true∧xs.length=fn.params.size+fn.nfree∧s.ft.length≤fn.nfree∧
  ∀(w:World) (vs:List Value) (rf lf hs:List Nat),DE P w (fn.params.toList++s.ft) s.cr s.lo vs xs rf lf hs→(∀b∈hs,b∉rf)→(∀b∈hs,b∉lf)→hs.Nodup→kO w (fun b=>b∈hs)→
   Calls P f vs.toArray w fun e w'=> ∃v,e= .returned v∧zZ P fn s w vs rf hs r v w'
def Ck (P:Program) (sg:BT) (f:Nat) (xs:List AV) (r:AV):Prop:=
 if f<1000000 then∃s,sg f=some s∧SX P s f xs r else SX P {cr:= [],res:= []} (f-1000000) xs r
section
variable {P:Program} {w:World}
theorem zqb {v:Value} {x:AV} {f:List Nat} (h:Rd w [v] [x] f) (hx: ∀y∈x.cells,y.scalar=true):f= []:=by
 by_cases AE: ∃cs,x= .agg cs
 ·obtain⟨cs,rfl⟩:=AE;obtain⟨as_,_,_,hr⟩:=Kb h rfl;exact H3 hr hx
 ·have:x.cells= [x]:=by cases x<;>first|rfl|exact absurd ⟨_,rfl⟩ AE
  rw [this]at hx;exact H3 h hx
theorem zCB {t el:TypeId} (h:CI P t=some el):CQ P t=true:=by have hu:=Ky h;simp [CQ,Ca,A6,dB,hu]
theorem Cp.flat {ts:List TypeId} {fl:List Bool} {us:List Value} {ys:List AV} {rf hs:List Nat} (h:Cp P w ts fl us ys rf hs) (h1:EK P ts fl=false) (h2:PC P ts fl ys=true):rf= []:=by
 induction h with
 |nil=>rfl
 |own k1 k2 k23 _ _ ih=>
  simp only [EK,Bool.or_eq_false_iff]at h1;simp only [PC,Ae]at h2;have hN:=k23;have hw:=h1.1;rw [zCB k2,k1]at hw;rcases hN with⟨_,rfl⟩|⟨q1,q2⟩
  ·rw [ih h1.2 h2.2];rfl
  ·simp [Xy,k2,q1,q2]at hw
 |deep _ _ _ _ _ _ ih=>simp only [EK,Bool.or_eq_false_iff]at h1;simp only [PC,Ae]at h2;exact ih h1.2 h2.2
 | @rd t ts fl u us y ys f rf hs hn hr _ ih=>
  simp only [EK,Bool.or_eq_false_iff]at h1;simp only [PC,Ae]at h2;have Dk:(fl.headD false&&(CI P t).isSome)=false:=by
   cases hh:fl.headD false with
   |false=>rfl
   |true=>rw [hn hh];rfl
  have gL:(fl.headD false&&Xy P t)=false:=by
   cases hh:fl.headD false with
   |false=>rfl
   |true=>simp [Xy,hn hh]
  rw [gL]at h1;rw [Dk]at h2;have GG:CQ P t=false:=by simpa using h1.1
  rw [GG]at h2;have hs:y.scalar=true:=by simpa using h2.1
  rw [H3 hr (by simpa using hs),ih h1.2 h2.2];rfl
theorem ES.flat {t:TypeId} {fl:List Bool} {v:Value} {x:AV} {rf hs:List Nat} (h:ES P w t fl v x rf hs) (h1:kD P t fl=false) (h2:XS P t fl x=true):rf= []:=by
 unfold ES at h;unfold kD at h1;unfold XS at h2;split at h
 ·rename_i hf;rw [if_pos hf]at h1 h2;obtain⟨us,ys,hg,hc⟩:=h;split at hg
  ·rename_i AE;obtain⟨_,rfl,_⟩:=hg;rw [if_pos AE]at h2;exact hc.flat h1 h2
  ·rename_i AE;obtain⟨_,rfl⟩:=hg;rw [if_neg AE]at h2;exact hc.flat h1 h2
 ·rename_i hf;rw [if_neg hf]at h1 h2;rw [h1]at h2;exact zqb h.1 (by simpa using h2)
theorem Jg.flat {ts:List TypeId} {fl:List Bool} {vs:List Value} {xs:List AV} {rf hs:List Nat} (h:Jg P w ts fl vs xs rf hs) (h1:Dt P ts fl=false) (h2:XD P ts fl xs=true):rf= []:=by
 induction h with
 |nil=>rfl
 |cons hv _ ih=>simp only [Dt,Bool.or_eq_false_iff]at h1;simp only [XD,Ae]at h2;rw [hv.flat h1.1 h2.1,ih h1.2 h2.2];rfl
theorem Ks.flat {ts:List TypeId} {fl:List Bool} {v:Value} {R:AV} {f o:List Nat} (h:Ks P w ts fl v R f o) (h1:Dt P ts fl=false) (h2:XK P ts fl R=true):f= []:=by
 match ts,h,h1,h2 with
 | [t],h,h1,h2=>simp only [Dt,Bool.or_false]at h1;exact ES.flat h h1 h2
 | [],h,h1,h2=>obtain⟨vs,ys,_,rfl,hv⟩:=h;exact hv.flat h1 h2
 |t::u::ts,h,h1,h2=>obtain⟨vs,ys,_,rfl,hv⟩:=h;exact hv.flat h1 h2
theorem CZ.void {ety sz:Nat} {a:Option Addr} {x:AV} {top N:List Nat} (h:CZ w ety sz (.slice a 0 0) x top N):N= []:=by
 obtain⟨xs,_,_,_,⟨_,_,_,h⟩|⟨g,cap,C,hv,h6,_,_,_,_,_,hr⟩⟩:=h
 ·exact h
 ·have h0:xs.length=0:=by injection hv with _ h _;exact h.symm
  have:xs= []:=by cases xs with|nil=>rfl|cons _ _=>simp at h0
  subst this;simp [AP]at hr;cases hr;rfl
theorem Gy.flat {c:Cx} {ts:List TypeId} {fl:List Bool} {us:List Value} {rs:List (Option RI)} (h:GU P c ts fl us rs): ∀{ys:List AV} {f o:List Nat},Gy P w ts fl us ys f o→rs.any RI.lent=false→f= []:=by
 induction h with
 |nil=>intro ys f o hm _;cases hm;rfl
 |row k1 k2 k23 _ _ _ _ ih=>
  intro ys f o hm hl;simp only [List.any_cons,Bool.or_eq_false_iff,RI.lent]at hl;cases hm with
  |own _ q2 q23 _ q4=>
   rw [k2]at q2;cases q2;rcases q23 with⟨_,rfl⟩|⟨q,_⟩
   ·exact ih q4 hl.2
   ·rw [q]at hl;simp at hl
  |deep _ _ _ _ _ q=>exact ih q hl.2
  |skip _ q=>exact ih q hl.2
 |deep k1 k2 k21 k22 _ _ _ _ _ ih=>
  intro ys f o hm hl;simp only [List.any_cons,Bool.or_eq_false_iff]at hl;cases hm with
  |own _ q2 q23 _ q4=>
   rw [k2]at q2;cases q2;rcases q23 with⟨_,rfl⟩|⟨_,q⟩
   ·exact ih q4 hl.2
   ·rw [q]at k22;cases k22
  |deep _ _ _ _ _ q=>exact ih q hl.2
  |skip _ q=>exact ih q hl.2
 |none hv _ ih=>
  intro ys f o hm hl;simp only [List.any_cons,Bool.or_eq_false_iff]at hl;cases hm with
  |own q1 q2 _ q3 q4=>
   rcases hv q1 with hh|⟨a,rfl⟩
   ·rw [hh]at q2;cases q2
   ·rw [CZ.void q3];exact ih q4 hl.2
  |deep _ _ _ _ _ q=>exact ih q hl.2
  |skip _ q=>exact ih q hl.2
theorem DU.flat {c:Cx} {ts:List TypeId} {ms:List PM} {vs:List Value} {bs:List PA} (h:I6 P c ts ms vs bs): ∀{Bs:List AV} {f o:List Nat},DU P w ts ms vs Bs f o→D0 P bs=false→II P ts ms Bs=true→f= []:=by
 induction h with
 |nil=>intro Bs f o hb _ _;cases hb;rfl
 | @ro ts ms v vs bs hm _ ih=>
  intro Bs f o hb h1 h2;cases hb with
  |nil=>rfl
  |ro _ h8=>simp only [II,hm]at h2;exact ih h8 h1 h2
  |va h9 _=>rw [hm]at h9;cases h9
  |mu h9 _ _ _=>rw [hm]at h9;cases h9
  |bx h9 _ _ _ _ _ _ _=>rw [hm]at h9;cases h9
 | @va ts ms own v vs bs us hm _ _ ih=>
  intro Bs f o hb h1 h2;cases hb with
  |nil=>rfl
  |ro h9 _=>rw [hm]at h9;cases h9
  |va _ h8=>simp only [II,hm]at h2;exact ih h8 h1 h2
  |mu h9 _ _ _=>rw [hm]at h9;cases h9
  |bx h9 _ _ _ _ _ _ _=>rw [hm]at h9;cases h9
 | @mu t ts ms own v vs bs us rs hm Lh Fs _ ih=>
  intro Bs f o hb h1 h2;cases hb with
  |ro h9 _=>rw [hm]at h9;cases h9
  |va h9 _=>rw [hm]at h9;cases h9
  | @mu _ _ _ own2 _ _ us2 ys y Bs f1 f o1 o h9 hg TF h8=>
   rw [hm]at h9;cases h9;simp only [II,hm]at h2;simp only [D0,Bool.or_eq_false_iff]at h1;have OA:us2=us:=by
    split at Lh
    ·rename_i AE;rw [if_pos AE]at hg;obtain⟨rfl,_⟩:=hg;exact zsX Lh
    ·rename_i AE;rw [if_neg AE]at hg;rw [hg.1,Lh]
   subst OA;rw [Gy.flat Fs TF h1.1,ih h8 h1.2 h2];rfl
  |bx h9 _ _ _ _ _ _ _=>rw [hm]at h9;cases h9
 | @bx t ts ms own own' ty v vs bs T b g olds hm Ee _ _ _ _ _ ih=>
  intro Bs f o hb h1 h2;cases hb with
  |ro h9 _=>rw [hm]at h9;cases h9
  |va h9 _=>rw [hm]at h9;cases h9
  |mu h9 _ _ _=>rw [hm]at h9;cases h9
  |bx h9 JI _ _ _ hy hc h8=>rw [hm]at h9;cases h9;rw [Ee]at JI;cases JI;simp only [II,hm,Ee,Ae,hy,List.tail_cons]at h2;simp only [D0,Bool.or_eq_false_iff]at h1;rw [hc.flat h1.1 h2.1,ih h8 h1.2 h2.2];rfl
theorem oV {ts:List TypeId} {ms:List PM} {vs:List Value} {Bs:List AV} {f o:List Nat} (h:DU P w ts ms vs Bs f o):Bs= []↔BG ts ms=false:=by
 induction h with
 |nil=>simp [BG]
 |ro hm _ ih=>simp only [BG,hm,Bool.false_or];exact ih
 |va hm _ ih=>simp only [BG,hm,Bool.false_or];exact ih
 |mu hm _ _ _ _=>simp only [BG,hm,Bool.true_or];simp
 |bx hm _ _ _ _ _ _ _ _=>simp only [BG,hm,Bool.true_or];simp
end
section
variable {P:Program} {c:Cx} {n nx:Nat} {sl sl0:Nat→SV} {hp hp0:Nat→Option Aj} {a:Act} {o:Oper} {gs:Gd} {e:A5} {sg:BT} {nv:Nat}
theorem zys {xs:List Operand}: ∀{ss:List SV},(∀x∈xs,∀s,BN sl0 gs x=some s→SR c [s] [a.eval x])→xs.mapM (BN sl0 gs)=some ss→SR c ss (xs.map a.eval):=by
 induction xs with
 |nil=>intro ss _ h;simp at h;subst h;exact .nil
 |cons x xs ih=>intro ss hx h;rw [List.mapM_cons]at h;simp only [Option.bind_eq_bind,Aw,Option.pure_def,Ah]at h;obtain⟨s,hs,ss',Gm,rfl⟩:=h;exact(hx x (by simp) s hs).cons (ih (fun y hy=>hx y (by simp [hy])) Gm)
theorem R8: ∀{l:List Nat},L5 l=true→l.Nodup
 | [],_=>by simp
 |x::l,h=>by simp only [L5,Ae,Bool.not_eq_true',List.contains_eq_mem,decide_eq_false_iff_not]at h;exact List.nodup_cons.2 ⟨h.1,R8 h.2⟩
theorem zCy {c1:Cx} {w':World} {recs:List AW} {hs f o:List Nat} (gw:GW c) (hg: ∀t,(c1.G t).top=(c.G t).top∨(c1.G t).top= []) (hA:c1.A=c.A) (dR:c1.Mu=c.Mu) (Ko:c1.w0=c.w0) (hB:c.w0.heap.size≤c.w.heap.size)
  (hn:(recs.map AW.tag).Nodup) (Cw: ∀r∈recs,∀b∈r.top,b∈o) (He: ∀b∈hs,∃r∈recs,b∈(c.G r.tag).top) {rf:List Nat} (MC: ∀b∈rf,c1.ok b) (hf: ∀b∈f,b∉o∧(b∈rf∨b∈hs∨c.w.heap.size≤b)): ∀b∈f,(c1.du w' recs).ok b:=by
 intro b hb;obtain⟨h1,h2⟩:=hf b hb;have hM:(c1.du w' recs).M b→ ∃t,(∀r∈recs,r.tag≠t)∧b∈(c1.G t).top:=by
  rintro⟨t,ht⟩;by_cases hT: ∃r∈recs,r.tag=t
  ·obtain⟨r,hr,rfl⟩:=hT;rw [Cx.dz hn hr]at ht;exact absurd (Cw r hr b ht) h1
  ·rw [Cx.de fun r hr hh=>hT ⟨r,hr,hh⟩]at ht;exact⟨t,fun r hr hh=>hT ⟨r,hr,hh⟩,ht⟩
 have sub: ∀t,b∈(c1.G t).top→b∈(c.G t).top:=fun t ht=>by
  rcases hg t with hh|hh
  ·rw [←hh];exact ht
  ·rw [hh]at ht;simp at ht
 rcases h2 with h2|h2|h2
 ·refine⟨fun hm=> ?_,(MC b h2).2⟩;obtain⟨t,_,ht⟩:=hM hm;exact(MC b h2).1 ⟨t,ht⟩
 ·obtain⟨r,hr,W8⟩:=He b h2;refine⟨fun hm=> ?_, .inr ?_⟩
  ·obtain⟨t,E9,ht⟩:=hM hm;exact gw.ct r.tag t (E9 r hr) b (by simp [GI.own,W8]) (by simp [GI.own,sub t ht])
  ·have:=gw.allow r.tag b (by simp [GI.own,W8]);simp only [Cx.du,Cx.B,Ko,dR]at this ⊢;exact this
 ·refine⟨fun hm=> ?_, .inr (.inl ?_)⟩
  ·obtain⟨t,_,ht⟩:=hM hm;have:=gw.inb t b (by simp [GI.own,sub t ht]);omega
  ·simp only [Cx.du,Cx.B,Ko];omega
theorem zDl (h:Br P c n nx sl hp a sl0 hp0 o gs) {cl:Call} {fo:Operand} (ho:o.op= .call cl) (AH:cl.callee= .value fo) {g:Nat} {caps:Bz} (hf:BN sl0 gs fo=some (.fn g caps)) {as_:List SV} (has:cl.args.toList.mapM (BN sl0 gs)=some as_)
  (hg:g<1000000) (he:Wq P sg hp0 gs nv nx g (as_++caps.toList)=some e) (Bd: ∀c',e.call=some c'→ ∃r,c.ρ[nv]?=some r∧ID (Ck P sg) c'.fn ((EL.of c'.args).den c.ρ) c.ρ r):AB P o c n nx sl hp gs a e:=by
 have gD:fo∈o.op.operands:=by simp [ho,Op.operands,Call.operands,AH]
 have gC: ∀x∈cl.args.toList,x∈o.op.operands:=fun x hx=>by
  have:x∈cl.args:=by simpa using hx
  simp [ho,Op.operands,Call.operands,AH,this]
 have MC:=h.c6 hf gD;generalize fC:a.eval fo=fv at MC;cases MC with
 |fn Tj h8=>
 rename_i capv;have Ay:=(zys (a:=a) (fun x hx s hs=>h.c6 hs (gC x hx)) has).app Tj;unfold Wq at he;split at he
 ·rename_i fn s Hb JN;split at he
  ·cases he
  rename_i hlen;simp only [Bool.or_eq_true,not_or,Bool.not_eq_true,bne_eq_false_iff_eq]at hlen;split at he
  ·cases he
  rename_i es bs us uz A7;split at he
  ·cases he
  rename_i Ce;simp only [Bool.or_eq_true,Bool.not_eq_true',not_or,Bool.not_eq_false,Bool.not_eq_true]at Ce;obtain⟨⟨gJ,TJ⟩,TK⟩:=Ce;have TL:=R8 gJ;have G6: ∀u∈us,u∉DB bs:=fun u hu hh=>by rw [List.any_eq_false]at TJ;have:=TJ u hu;simp only [List.contains_eq_mem,decide_eq_true_eq]at this;exact this hh
  have K0: ∀u∈uz,u∉DB bs:=fun u hu hh=>by rw [List.any_eq_false]at TK;have:=TK u hu;simp only [List.contains_eq_mem,decide_eq_true_eq]at this;exact this hh
  simp only at he;split at he
  ·cases he
  rename_i B7;simp only [Nat.not_le]at B7;split at he
  ·cases he
  rename_i JE;split at he
  ·cases he
  rename_i fz Hc;have hK: ∀t g,c.K t g→c.U t:=h.rel.b8;obtain⟨rf,lf,hs,q1,q2,qz,q3,q4,q5,q6⟩:=zyf (P:=P) h.rel.base h.eh h.gs hK (as_++caps.toList) A7 Ay (by rw [hlen.1.2,As,Array.length_toList];have:=hlen.2;simp only [decide_eq_false_iff_not,Nat.not_lt]at this;omega);obtain⟨fts,HF,Tv⟩: ∃fts,DH hp0 gs fts=some fz∧ ∀t∈fts,t∈us:=by
   split at Hc
   ·exact⟨us,Hc,fun t ht=>ht⟩
   ·simp only [Ah]at Hc;subst Hc;exact⟨[],rfl,by simp⟩
  have Dl:=h.rel.freeze h.hp h.gs HF;have Ml: ∀t∈fz.map (·.1),t∈us:=fun t ht=>by obtain⟨⟨t',e'⟩,hm,rfl⟩:=List.mem_map.1 ht;exact Tv _ ((O8 h.gs HF).1 t' e' hm).1
  have S7: ∀t,((c.bu (fz.map (·.1))).G t).top=(c.G t).top∨((c.bu (fz.map (·.1))).G t).top= []:=fun t=>by
   simp only [Cx.bu];split
   ·exact .inr rfl
   ·exact .inl rfl
  have hGh: ∀t∈DB bs,(c.bu (fz.map (·.1))).G t=c.G t:=fun t ht=>by simp only [Cx.bu];rw [if_neg];intro hh;exact G6 t (Ml t hh) ht
  have tA: ∀t∈DB bs,(c.bu (fz.map (·.1))).E t=c.E t:=fun t ht=>by simp only [Cx.bu];rw [if_neg];intro hh;exact G6 t (Ml t hh) ht
  have iA:hs.Nodup:=by
   rw [q3];have: ∀l:List Nat,l.Nodup→(l.flatMap fun t=>(c.G t).top).Nodup:=by
    intro l
    induction l with
    |nil=>intro _;simp
    |cons t l ih=>intro hl;rw [List.nodup_cons]at hl;rw [List.flatMap_cons,List.nodup_append];refine⟨(List.nodup_append.1 (h.rel.gw.nodup t)).1,ih hl.2,fun x hx y hy Hm=> ?_⟩;subst Hm;obtain⟨u,hu,iQ⟩:=List.mem_flatMap.1 hy;exact h.rel.gw.ct t u (fun hh=>hl.1 (hh▸hu)) x (by simp [GI.own,hx]) (by simp [GI.own,iQ])
   exact this _ TL
  have Jz: ∀b∈hs,∃t∈DB bs,b∈(c.G t).top:=fun b hb=>by rw [q3]at hb;exact List.mem_flatMap.1 hb
  have F7: ∀b∈hs,b∉rf:=fun b hb hr=>by
   obtain⟨t,ht,CC⟩:=Jz b hb;rcases q2 b hr with hh|⟨u,hu,Ig⟩
   ·exact hh.1 ⟨t,CC⟩
   ·exact h.rel.gw.ct t u (fun hh=>G6 u hu (hh▸ht)) b (by simp [GI.own,CC]) (by simp [GI.own,Ig])
  have Jt: ∀b∈hs,b∉lf:=fun b hb hr=>by
   obtain⟨t,ht,CC⟩:=Jz b hb;rcases qz b hr with(hh|⟨u,hu,Ig⟩)|⟨h1,h2⟩
   ·exact hh.1 ⟨t,CC⟩
   ·exact h.rel.gw.ct t u (fun hh=>K0 u hu (hh▸ht)) b (by simp [GI.own,CC]) (by simp [GI.own,Ig])
   ·rcases h.rel.gw.allow t b (by simp [GI.own,CC])with k|k
    ·have:c.w0.heap.size≤b:=k;omega
    ·exact h2 k
  have Fo: ∃(val:SV) (l:List (Nat × Aj)),e={call:=some ⟨.inl g,es⟩,val:=val,bq:=fz++(T9 gs l++after P nv (nx+(fn.resultTypes.toList.flatMap (A6 P)).length) bs 0)}∧
    ∀(R:AV) (w':World) (v:Value) (f1 o1:List Nat),Ks P w' fn.resultTypes.toList s.res v R f1 o1→(if IF bs=0 then E.var nv else .proj (.var nv) 0).den c.ρ=R→ ∃recs:List AW,l=recs.map AW.pair∧recs.flatMap AW.top=o1∧(∀r∈recs,nx≤r.tag∧r.tag<nx+(fn.resultTypes.toList.flatMap (A6 P)).length∧r.new.isSome)∧(recs.map AW.tag).Nodup∧
     (∀r∈recs,∀hs f,r.bq≠ .gd hs f)∧ ∀c',E5 c c' w' recs→(∀b∈f1,c'.ok b)→SR c' [val] [v]∧ ∀r∈recs,Dh c' r.tag r.bq:=by
   have Bl: ∀{l:List (Nat × Aj)} {recs:List AW},l=recs.map AW.pair→(∀t x,(t,x)∈l→ ∀hs f,x≠ .gd hs f)→ ∀r∈recs,∀hs f,r.bq≠ .gd hs f:=by rintro l recs rfl hh r hr;exact hh r.tag r.bq (List.mem_map.2 ⟨r,hr,rfl⟩)
   have fvne: ∀(t:TypeId) (k:Nat) (fl:List Bool) (x:E) (u:Nat) (y:Aj),(u,y)∈(Pp P k t fl x).2→ ∀hs f,y≠ .gd hs f:=by
    intro t k fl x u y hy hs f;unfold Pp at hy;split at hy
    ·exact Pe _ _ _ _ _ hy
    ·simp at hy
   split at he
   ·rename_i t TZ;simp only [Ah]at he;subst he;refine⟨_,_,rfl,fun R w' v f1 o1 hr hR=> ?_⟩;rw [TZ]at hr;obtain⟨recs,e1,e2,e3,e4,e5⟩:=zp8 (c:=c) (nx:=nx) (x:=if IF bs=0 then E.var nv else .proj (.var nv) 0) (show ES P w' t s.res v R f1 o1 from hr) hR;exact⟨recs,e1,e2,by simpa [TZ]using e3,e4,Bl e1 (fvne _ _ _ _),e5⟩
   ·rename_i TZ;simp only [Ah]at he;subst he;refine⟨_,_,rfl,fun R w' v f1 o1 hr hR=> ?_⟩;obtain⟨vs,ys,rfl,rfl,hv⟩: ∃vs ys,v= .tuple vs.toArray∧R= .tup ys∧Jg P w' fn.resultTypes.toList s.res vs ys f1 o1:=by
     unfold Ks at hr;split at hr
     ·rename_i t ht;exact absurd ht (TZ t)
     ·exact hr
    obtain⟨recs,e1,e2,e3,e4,e5⟩:=zvd (c:=c) (x:=if IF bs=0 then E.var nv else .proj (.var nv) 0) hv nx 0 (fun k y hy=>by show AV.proj ((if IF bs=0 then E.var nv else .proj (.var nv) 0).den c.ρ) (0+k)=y;rw [hR];simp [AV.proj,hy])
    have fvsne: ∀(ts:List TypeId) (k:Nat) (fl:List Bool) (x:E) (i u:Nat) (y:Aj),(u,y)∈(Nl P k ts fl x i).2→ ∀hs f,y≠ .gd hs f:=by
     intro ts
     induction ts with
     |nil=>intro k fl x i u y hy;simp [Nl]at hy
     |cons t ts ih=>
      intro k fl x i u y hy;simp only [Nl,Ai]at hy;rcases hy with hy|hy
      ·exact fvne _ _ _ _ _ _ hy
      ·exact ih _ _ _ _ _ _ hy
    exact⟨recs,e1,e2,e3,e4,Bl e1 (fvsne _ _ _ _ _),fun c' ha Az=>⟨.tup (by rw [Bz.bb];exact(e5 c' ha Az).1) .nil,(e5 c' ha Az).2⟩⟩
  obtain⟨val,l,rfl,Ow⟩:=Fo;obtain⟨r,hr,Az⟩:=Bd _ rfl;have Ov: ∃s',sg g=some s'∧SX P s' g ((EL.of es).den c.ρ) r:=by have Az:Ck P sg g ((EL.of es).den c.ρ) r:=Az;unfold Ck at Az;rwa [if_pos hg]at Az
  obtain⟨s',Bb,fn',Jx,DZ,Ge,BB,_,_,FF⟩:=Ov;rw [JN]at Bb;cases Bb;rw [Hb]at Jx;cases Jx;rw [EL.dk]at FF;have Bd:=FF c.w _ rf lf hs q1 F7 Jt iA (h.rel.nh fun b hb=>by obtain⟨t,_,ht⟩:=Jz b hb;exact⟨t,ht⟩);have ex:(execOp a.eval o).run P c.w= .ok (.enter g (cl.args.map a.eval++capv.toArray)) c.w:=by
   have hb:fn.body.isNone=false:=by simpa using DZ
   simp only [execOp,ho,resolve,AH,fC,Deferred.ofValue,Sem.run_bind,Sem.run_pure,Result.andThen_ok,invoke,callFunc,run_program,Hb];simp [Ge,hb]
  intro next Q hk
  unfold Oper.wp;rw [ex,Oper.upon_enter];have NT:cl.args.map a.eval++capv.toArray=((cl.args.toList.map a.eval)++capv).toArray:=by apply Array.ext';simp
  rw [NT];refine Bd.mono ?_;rintro e' w' ⟨v,rfl,⟨R,Bs,f1,o1,f2,o2,Ld,AS,Fm,Hf,TO,Tt⟩,Dr⟩;show next (a.put o.dst v) w'
  have hBn: ∀k y,Bs[k]?=some y→(E.proj (.var nv) (0+k+1)).den c.ρ=y:=by
   intro k y hy;cases Bs with
   |nil=>simp at hy
   |cons B Bs=>simp only [E.den,hr,Option.getD_some,Ld,AV.proj,Nat.zero_add,List.getElem?_cons_succ,hy]
  obtain⟨TH,recsB,hB⟩:=zCo (w':=w') q4 hK (r:=nv) (nx+(fn.resultTypes.toList.flatMap (A6 P)).length) 0 Fm hBn;have hR:(if IF bs=0 then E.var nv else .proj (.var nv) 0).den c.ρ=R:=by
   cases Bs with
   |nil=>rw [if_pos (by simpa using TH.symm)];simp only [E.den,hr,Option.getD_some,Ld]
   |cons B Bs=>rw [if_neg (by rw [←TH];simp)];simp [E.den,hr,Ld,AV.proj]
  obtain⟨recsV,v1,v2,v3,v4,v5,v6⟩:=Ow R w' v f1 o1 AS hR;have Gf: ∀t,nx≤t→t<nx+((fn.resultTypes.toList.flatMap (A6 P)).length+KI P bs)→ ¬c.U t:=fun t h1 h2=>h.new t h1 (by omega);have S5:=hB.nodup TL fun t h1 h2=>Gf t (by omega) (by omega);have CR:((recsV++recsB).map AW.tag).Nodup:=by
   rw [List.map_append,List.nodup_append];refine⟨v4,S5,fun t1 h1 t2 h2 he=> ?_⟩;obtain⟨p1,gP,rfl⟩:=List.mem_map.1 h1;obtain⟨p2,Xf,rfl⟩:=List.mem_map.1 h2;have a1:=v3 p1 gP;cases hn:p2.new with
   |none=>exact Gf p1.tag (by omega) (by omega) (he▸(hB.old p2 Xf hn).2)
   |some _=>have:=hB.new p2 Xf (by simp [hn]);omega
  have HI: ∀r∈recsV++recsB,r.new.isSome=true→nx≤r.tag∧r.tag<nx+((fn.resultTypes.toList.flatMap (A6 P)).length+KI P bs):=fun r hr hn=>by
   rcases Ai.1 hr with hr|hr
   ·have:=v3 r hr;omega
   ·have:=hB.new r hr hn;omega
  have EJ:((recsV++recsB).flatMap AW.top).Sublist (o1++o2):=by rw [List.flatMap_append,v2];exact(List.Sublist.refl _).append hB.mn
  have fK: ∀b∈hs,∃r∈recsV++recsB,b∈(c.G r.tag).top:=fun b hb=>by obtain⟨t,ht,CC⟩:=Jz b hb;obtain⟨r,hr,rfl⟩:=hB.all t ht;exact⟨r,by simp [hr],CC⟩
  have TA: ∀b∈hs,∃r∈recsV++recsB,b∈((c.bu (fz.map (·.1))).G r.tag).top:=fun b hb=>by obtain⟨t,ht,CC⟩:=Jz b hb;obtain⟨r,hr,rfl⟩:=hB.all t ht;exact⟨r,by simp [hr],by rw [hGh _ ht];exact CC⟩
  have JP: ∀r∈recsV++recsB,∀b∈r.top,b∈o1++o2:=fun r hr b hb=>EJ.subset (List.mem_flatMap.2 ⟨r,hr,hb⟩);have On: ∀b∈f1++f2,((c.bu (fz.map (·.1))).du w' (recsV++recsB)).ok b:=by
   cases Xm:(Dt P fn.resultTypes.toList s.res||D0 P bs)with
   |false=>
    simp only [Bool.or_eq_false_iff]at Xm;have Ej:XK P fn.resultTypes.toList s.res R=true∧II P (fn.params.toList++s.ft) s.cr Bs=true:=by
     unfold Nw at BB;cases NP:Bs with
     |nil=>
      rw [if_neg (by rw [(oV Fm).1 NP];simp)]at BB;rw [NP]at Ld;rw [Ld]at BB;refine⟨BB, ?_⟩;have: ∀(ts:List TypeId) (ms:List PM),II P ts ms []=true:=by
       intro ts
       induction ts with
       |nil=>intro ms;rfl
       |cons t ts ih=>
        intro ms;unfold II;split
        ·exact ih _
        ·exact ih _
        ·exact ih _
        ·split
         ·rename_i hh;cases hh
         ·simpa using ih _
      exact this _ _
     |cons B Bs'=>
      rw [if_pos (by
       cases hh:BG (fn.params.toList++s.ft) s.cr with
       |true=>rfl
       |false=>rw [(oV Fm).2 hh]at NP;cases NP)]at BB
      rw [Ld,NP]at BB;simpa using BB
    have e1:f1= []:=AS.flat Xm.1 Ej.1;have e2:f2= []:=DU.flat q4 Fm Xm.2 Ej.2;subst e1;subst e2;simp
   |true=>rw [Xm]at JE Hc;simp only [Bool.true_and,Bool.not_eq_true',Bool.not_eq_false]at JE;simp only [if_true]at Hc;exact zCy (rf:=rf) h.rel.gw S7 rfl rfl rfl h.rel.base.size CR JP fK (fun b hb=>VN h.rel h.eh h.gs Hc (by simpa using JE) (q2 b hb)) Tt
  have Tq:after P nv (nx+(fn.resultTypes.toList.flatMap (A6 P)).length) bs 0=recsB.map fun r=>(r.tag,CP gs r.bq):=by
   cases Kj:bs with
   |nil=>
    have:=hB.ents;rw [Kj]at this;simp only [after]at this;have:recsB= []:=by simpa using this.symm
    rw [this];rfl
   |cons b bs'=>have E7:=q6 (by rw [Kj];simp);rw [←Kj,hB.ents,E7];rfl
  have Bj:T9 gs l++after P nv (nx+(fn.resultTypes.toList.flatMap (A6 P)).length) bs 0=(recsV++recsB).map fun r=>(r.tag,CP gs r.bq):=by rw [Tq,List.map_append];congr 1;rw [v1];simp [T9,AW.pair]
  obtain⟨Fp,BU⟩:=Dl.changes (w':=w') (recs:=recsV++recsB) (hs:=hs) (gs:=gs) h.gs Dr CR (fun r hr hn=>by have:=HI r hr hn;exact Gf _ this.1 this.2) TA (EJ.nodup Hf) (fun r hr b hb=>TO b (JP r hr b hb))
   (fun r hr=>by
    rcases Ai.1 hr with hr|hr
    ·exact v5 r hr
    ·exact hB.ne r hr)
   (fun _ r hr=>by
    have aft:=Cx.dv (c:=c.bu (fz.map (·.1))) (w':=w') (recs:=recsV++recsB) h.rel.b8 CR (fun r hr hn=>by have:=HI r hr hn;exact Gf _ this.1 this.2);have aft':E5 c ((c.bu (fz.map (·.1))).du w' (recsV++recsB)) w' (recsV++recsB):=⟨aft.ρ,aft.w,aft.G,aft.new,aft.K,aft.old,aft.kt,fun r hr Dk=>(aft.iz r hr Dk).trans (by
     rcases Ai.1 hr with hr|hr
     ·have:=(v3 r hr).2.2;rw [Dk]at this;cases this
     ·rw [tA _ (hB.old r hr Dk).1])⟩
    rcases Ai.1 hr with hr|hr
    ·exact(v6 _ (aft'.mono fun r hr=>by simp [hr]) fun b hb=>On b (by simp [hb])).2 r hr
    ·exact hB.ok _ (aft'.mono fun r hr=>by simp [hr]) (fun b hb=>On b (by simp [hb])) r hr)
  have aft:=Cx.dv (c:=c.bu (fz.map (·.1))) (w':=w') (recs:=recsV++recsB) h.rel.b8 CR (fun r hr hn=>by have:=HI r hr hn;exact Gf _ this.1 this.2);have aft':E5 c ((c.bu (fz.map (·.1))).du w' (recsV++recsB)) w' (recsV++recsB):=⟨aft.ρ,aft.w,aft.G,aft.new,aft.K,aft.old,aft.kt,fun r hr Dk=>(aft.iz r hr Dk).trans (by
     rcases Ai.1 hr with hr|hr
     ·have:=(v3 r hr).2.2;rw [Dk]at this;cases this
     ·rw [tA _ (hB.old r hr Dk).1])⟩
  have JR:=(v6 _ (aft'.mono fun r hr=>by simp [hr]) fun b hb=>On b (by simp [hb])).1;rw [←Bj,←Pr]at Fp;refine hk _ ((c.bu (fz.map (·.1))).du w' (recsV++recsB)) ⟨rfl,rfl,rfl,rfl,fun t ht=> ?_⟩ (Fp.put (JR.mkGd gs h.gs) o.dst);rcases ht with ht|⟨r,hr,rfl⟩
  ·exact .inl ht
  ·cases hn:r.new with
   |none=>
    rcases Ai.1 hr with hr|hr
    ·have:=(v3 r hr).2.2;rw [hn]at this;cases this
    ·exact .inl (hB.old r hr hn).2
   |some _=>have:=HI r hr (by simp [hn]);exact .inr ⟨this.1,by simp only [BH];omega⟩
 ·cases he
end
def Cg (c:Cx) (us:List Nat):List Nat:=us.flatMap fun t=>(c.G t).top
theorem qG (c:Cx):Cg c []= []:=rfl
theorem aM (c:Cx) (u:Nat) (us:List Nat):Cg c (u::us)=(c.G u).top++Cg c us:=by simp [Cg]
theorem J4 (c:Cx) (us vs:List Nat):Cg c (us++vs)=Cg c us++Cg c vs:=by simp [Cg]
theorem R3 {c:Cx} {us:List Nat} {b:Nat}:b∈Cg c us↔ ∃t∈us,b∈(c.G t).top:=by simp [Cg]
theorem ZU {c:Cx} (gw:GW c): ∀{l:List Nat},l.Nodup→(Cg c l).Nodup
 | [],_=>by simp [Cg]
 |t::l,hl=>by
  rw [aM,List.nodup_append];rw [List.nodup_cons]at hl;refine⟨?_,ZU gw hl.2,fun a ha b hb KZ=> ?_⟩
  ·have:=gw.nodup t;simp only [GI.own]at this;exact(List.nodup_append.1 this).1
  ·subst KZ;obtain⟨u,hu,Ig⟩:=R3.1 hb;exact gw.ct t u (fun hh=>hl.1 (hh▸hu)) a (by simp [GI.own,ha]) (by simp [GI.own,Ig])
section
variable {P:Program} {c:Cx} {hp:Nat→Option Aj} {gs:Gd}
theorem sI {m:Nat} {u g:Nat} {x y:E} (hx:Bq hp gs m (.own u g)=some x) (hy:Iw hp gs u g=some y):x=y:=by
 cases m with
 |zero=>simp [Bq]at hx
 |succ m=>simp only [Bq,hy,Ah]at hx;exact hx.symm
theorem uX {m:Nat} {x:E} (h:Bq hp gs m .emp=some x):x= .lst .nil:=by
 cases m with
 |zero=>simp [Bq]at h
 |succ m=>simp [Bq]at h;exact h.symm
theorem zzu (eh:EH c hp) (k:Bg c.ρ gs) {d:DT} {s:SV} {us:List Nat} {ck:List Cn} {v:Value} {x:E} {m:Nat} (h:jH hp gs d s=some (us,ck)) (hs:SR c [s] [v]) (hx:Bq hp gs m s=some x) (hc: ∀q∈ck,q.den c.ρ):
  DC c.w [d] [v] [x.den c.ρ] (Cg c us)∧ ∀u∈us,∃g,c.K u g:=by
 unfold jH at h;split at h
 ·rename_i y;simp only [Ah,Prod.mk.injEq]at h;obtain⟨rfl,rfl⟩:=h;rw [KR hx];cases hs with
  |e h1 h2 h3=>
   rename_i f;have Fc:(y.den c.ρ).scalar=true:=by
    cases hl:Us y with
    |true=>cases y<;>simp [Us]at hl<;>rfl
    |false=>rw [hl]at hc;exact(BY hc).2.2.2 rfl
   have hf:f= []:=H3 h1 (by simpa using Fc);subst hf;exact⟨.flat h1 .nil,by simp⟩
 ·split at h
  ·rename_i hh;simp only [Ah,Prod.mk.injEq]at h;obtain⟨rfl,rfl⟩:=h;rw [LI hx];cases hs with
   |cf _=>exact⟨.void hh.1 hh.2 .nil,by simp⟩
  ·cases h
 ·split at h
  ·rename_i hh;simp only [Ah,Prod.mk.injEq]at h;obtain⟨rfl,rfl⟩:=h;rw [uX hx];cases hs with
   |emp _=>exact⟨.void hh.1 hh.2 .nil,by simp⟩
  ·cases h
 ·rename_i e z l u g;split at h
  ·rename_i e' z' l' g' ep y hl;split at h
   ·rename_i hh;obtain⟨rfl,rfl,rfl,hb⟩:=hh;simp only [Ah,Prod.mk.injEq]at h;obtain⟨rfl,rfl⟩:=h;obtain⟨q1,q2,q3,q4,q5⟩:=eh u _ (CV hl k);rw [sI (y:=y) hx (by simp only [Iw,hl,if_true])];have hb:=AY.of_eq hb;subst hb;rw [AY.cy]at q4;cases hs with
    |own k1 k2 _=>rw [k2]at q4;exact⟨by rw [aM,qG,List.append_nil];exact q4,fun w hw=>by simp at hw;subst hw;exact⟨_,k1⟩⟩
   ·cases h
  ·rename_i e' z' g' y hl;split at h
   ·rename_i hh;obtain⟨rfl,rfl,rfl,hf,hlen⟩:=hh;simp only [Ah,Prod.mk.injEq]at h;obtain⟨rfl,rfl⟩:=h;obtain⟨q1,q2,N,q4,q5,q6,q7⟩:=eh u _ (CV hl k);obtain⟨hN,_⟩:=q6 rfl;have hN:N= []:=hN;subst hN;rw [sI (y:=y) hx (by simp only [Iw,hl,if_true])];cases hs with
    |own k1 k2 _=>rw [k2]at q4;exact⟨by rw [aM,qG,List.append_nil];exact DC.l0 q4 hf hlen,fun w hw=>by simp at hw;subst hw;exact⟨_,k1⟩⟩
   ·cases h
  ·cases h
 ·cases h
theorem o7 (eh:EH c hp) (k:Bg c.ρ gs): ∀(ds:List DT) {ss:List SV} {us:List Nat} {ck:List Cn} {vs:List Value} {xs:EL} {m:Nat},Nx hp gs ds ss=some (us,ck)→SR c ss vs→Cr hp gs m ss=some xs→(∀q∈ck,q.den c.ρ)→
  DC c.w ds vs (xs.den c.ρ) (Cg c us)∧ ∀u∈us,∃g,c.K u g
 | [], [],us,ck,vs,xs,m,h,hs,hx,hc=>by
  simp [Nx]at h;obtain⟨rfl,rfl⟩:=h;cases hs;cases m with
  |zero=>simp [Cr]at hx
  |succ m=>simp [Cr]at hx;subst hx;exact⟨.nil,by simp⟩
 | [],_::_,us,ck,vs,xs,m,h,hs,hx,hc=>by simp [Nx]at h
 |_::_, [],us,ck,vs,xs,m,h,hs,hx,hc=>by simp [Nx]at h
 |d::ds,s::ss,us,ck, [],xs,m,h,hs,hx,hc=>by have:=hs.len;simp at this
 |d::ds,s::ss,us,ck,v::vs,xs,m,h,hs,hx,hc=>by
  obtain⟨j,y,ys,rfl,hy,Dw,rfl⟩:=Kz hx;obtain⟨r1,r2⟩:=hs.cg;unfold Nx at h;split at h
  ·rename_i us1 ck1 us2 ck2 h1 h2;simp only [Ah,Prod.mk.injEq]at h;obtain⟨rfl,rfl⟩:=h;obtain⟨q1,q2⟩:=zzu eh k h1 r1 hy fun q hq=>hc q (by simp [hq]);obtain⟨q3,q4⟩:=o7 eh k ds h2 r2 Dw fun q hq=>hc q (by simp [hq]);refine⟨by rw [J4];exact q1.app q3,fun u hu=> ?_⟩;rcases Ai.1 hu with hu|hu
   ·exact q2 u hu
   ·exact q4 u hu
  ·cases h
theorem ztx (eh:EH c hp) (k:Bg c.ρ gs) {t:TypeId} {ds:List DT} {s:SV} {us:List Nat} {ck:List Cn} {v:Value} {x:E} (G8:ds.length=P.cellsOf t) (hg:Aq P t=true∨P.cellsOf t=1) (h:SO P hp gs t ds s=some (x,us,ck)) (hs:SR c [s] [v]) (hc: ∀q∈ck,q.den c.ρ):
  DC c.w ds v.cells.toList (x.den c.ρ).cells (Cg c us)∧(∀u∈v.cells.toList,u.oneCell'=true)∧(x.den c.ρ).cells.length=P.cellsOf t∧v.cells.size=P.cellsOf t∧
   (if Aq P t then∃cs,x.den c.ρ= .agg cs else(∀cs,x.den c.ρ≠ .agg cs)∧ ∀cs,x.den c.ρ≠ .tup cs)∧ ∀u∈us,∃g,c.K u g:=by
 unfold SO at h;split at h
 ·cases h
 rename_i y hy;split at h
 ·rename_i Ej;simp only [Ah,Prod.mk.injEq]at h;obtain⟨rfl,rfl,rfl⟩:=h;obtain⟨f,q1,q2⟩:=H5 eh k A1 hy hs A1 (Nat.le_refl _);obtain⟨c1,c2,c3,c4⟩:=BY hc;have Fo:if Aq P t then∃cs,y.den c.ρ= .agg cs∧cs.length=P.cellsOf t else(∀cs,y.den c.ρ≠ .agg cs)∧ ∀cs,y.den c.ρ≠ .tup cs:=by
   split
   ·rename_i AE;obtain⟨cs,Bi⟩:=c3 AE;exact⟨cs,Bi,by rw [Bi]at c1;exact c1⟩
   ·rename_i AE;have:=c4 (by simpa using AE);exact⟨fun cs Bi=>by rw [Bi]at this;simp [AV.scalar]at this,fun cs Bi=>by rw [Bi]at this;simp [AV.scalar]at this⟩
  have hf:f= []:=by
   cases tT:Aq P t with
   |true=>obtain⟨cs,Bi⟩:=c3 tT;obtain⟨as_,rfl,_,r⟩:=Kb q1 Bi;exact H3 r (by rw [Bi]at c2;exact c2)
   |false=>exact H3 q1 (by simpa using c4 tT)
  subst hf;obtain⟨o1,o2,o3,o4⟩:=qL (P:=P) q1 hg Fo;refine⟨DC.mr o1 Ej (by rw [G8];simpa using o4.symm),o2,o3,o4, ?_,by simp⟩;split at Fo
  ·rename_i AE;rw [if_pos AE];obtain⟨cs,Bi,_⟩:=Fo;exact⟨cs,Bi⟩
  ·rename_i AE;rw [if_neg AE];exact Fo
 ·rename_i Gg;split at h
  ·cases h
  rename_i AE;have AE:(HZ s).2=Aq P t:=by simpa using AE
  obtain⟨⟨us',ck'⟩,hr,h⟩:=Av.1 h;simp only [Prod.mk.injEq]at h;obtain⟨rfl,rfl,rfl⟩:=h;have single:Aq P t=false→Nx hp gs ds [s]=some (us',ck')→DC c.w ds v.cells.toList (y.den c.ρ).cells (Cg c us')∧(∀u∈v.cells.toList,u.oneCell'=true)∧(y.den c.ρ).cells.length=P.cellsOf t∧v.cells.size=P.cellsOf t∧
   (if Aq P t then∃cs,y.den c.ρ= .agg cs else(∀cs,y.den c.ρ≠ .agg cs)∧ ∀cs,y.den c.ρ≠ .tup cs)∧ ∀u∈us',∃g,c.K u g:=by
   intro AE hr;have BA:Cr hp gs (A1+1) [s]=some (.cons y .nil):=by unfold Cr;rw [hy];rfl
   obtain⟨q1,q2⟩:=o7 eh k ds hr hs BA hc;have tQ:=q1.len;simp only [EL.den,Ap,List.length_nil]at tQ
   match ds,tQ,q1,Gg,G8 with
   | [d],_,q1,Gg,G8=>
    cases d with
    |flat=>simp [DT.bw]at Gg
    |row e z l=>
     obtain⟨p,q,r,rfl⟩:=q1.head;obtain⟨xs,CH⟩: ∃xs,y.den c.ρ= .sl xs:=by
      obtain⟨_,_,⟨_,_,hx,_⟩|⟨_,_,_,_,_,_,hx,_⟩⟩:=q1.inv
      ·exact⟨_,hx⟩
      ·exact⟨_,hx⟩
     rw [if_neg (by rw [AE];simp)];refine⟨?_,by simp [Value.cells,Value.oneCell'],by rw [CH,←G8];rfl,by rw [←G8];rfl, ?_,q2⟩
     ·simp only [EL.den]at q1;rw [CH]at q1 ⊢;exact q1
     ·rw [CH];exact⟨fun cs hh=>(by cases hh),fun cs hh=>(by cases hh)⟩
  cases s with
  |agg cs=>
   simp only [HZ]at AE hr;obtain⟨m,l,hm,hl,rfl⟩:=Wc hy;cases hs with
   |agg h9 h1 h8=>rename_i as_;obtain⟨q1,q2⟩:=o7 eh k ds hr h1 hl hc;obtain⟨l1,l2⟩:=q1.len;rw [if_pos AE.symm];exact⟨by simpa [Value.cells,AV.cells,E.den]using q1,by simpa [Value.cells]using h9,by simp only [E.den,AV.cells];omega,by simp [Value.cells];omega,⟨_,rfl⟩,q2⟩
  |_=>exact single AE.symm hr
theorem zpH (eh:EH c hp) (k:Bg c.ρ gs) {t:TypeId} {ds:List DT} (G8:ds.length=P.cellsOf t) (hg:Aq P t=true∨P.cellsOf t=1): ∀(ss:List SV) (vs:List Value) {xs:List E} {us:List Nat} {ck:List Cn},SR c ss vs→V8 P hp gs t ds ss=some (xs,us,ck)→(∀q∈ck,q.den c.ρ)→
  DC c.w (Di vs.length ds) (vs.flatMap fun v=>v.cells.toList) (AP (xs.map (E.den c.ρ))) (Cg c us)∧(∀v∈vs,v.cells.size=P.cellsOf t∧ ∀u∈v.cells.toList,u.oneCell'=true)∧(∀x∈xs,(x.den c.ρ).cells.length=P.cellsOf t)∧xs.length=vs.length∧ ∀u∈us,∃g,c.K u g
 | [],vs,xs,us,ck,hr,ht,hc=>by simp [V8]at ht;obtain⟨rfl,rfl,rfl⟩:=ht;cases hr;exact⟨by simpa [AP,Di,Cg]using DC.nil,by simp,by simp,rfl,by simp⟩
 |s::ss, [],xs,us,ck,hr,ht,hc=>by have:=hr.len;simp at this
 |s::ss,v::vs,xs,us,ck,hr,ht,hc=>by
  obtain⟨r1,r2⟩:=hr.cg;unfold V8 at ht;split at ht
  ·rename_i x us1 ck1 xs2 us2 ck2 h1 h2;simp only [Ah,Prod.mk.injEq]at ht;obtain⟨rfl,rfl,rfl⟩:=ht;obtain⟨q1,q2,q3,q4,q5,q6⟩:=ztx eh k G8 hg h1 r1 (fun q hq=>hc q (by simp [hq]));obtain⟨p1,p2,p3,p4,p5⟩:=zpH eh k G8 hg ss vs r2 h2 (fun q hq=>hc q (by simp [hq]));refine⟨?_, ?_, ?_,by simp [p4], ?_⟩
   ·have:=q1.app p1;rw [Ap,Pm,J4];simpa [AP]using this
   ·intro u hu;rcases Ag.1 hu with rfl|hu
    ·exact⟨q4,q2⟩
    ·exact p2 u hu
   ·intro u hu;rcases Ag.1 hu with rfl|hu
    ·exact q3
    ·exact p3 u hu
   ·intro u hu;rcases Ai.1 hu with hu|hu
    ·exact q6 u hu
    ·exact p5 u hu
  ·cases ht
theorem zs8 (eh:EH c hp) (k:Bg c.ρ gs) {e z:Nat} {l:List DT} {s:SV} {us:List Nat} {v:Value} {y:E} {m:Nat} (h:WJ hp gs e z l s=some us) (hs:SR c [s] [v]) (hy:Bq hp gs m s=some y):
  ∃ys q r news N,y.den c.ρ= .sl ys∧v= .slice q ys.length r∧Src c.w z q ys.length news∧DC c.w (Di ys.length l) news (AP ys) N∧N.Sublist (Cg c us)∧(∀y∈ys,y.cells.length=z)∧(∀u∈news,u.oneCell'=true)∧ ∀u∈us,∃g,c.K u g:=by
 have empt: ∀q,v= .slice q 0 0→y= .lst .nil→us= []→ ∃ys q r news N,y.den c.ρ= .sl ys∧v= .slice q ys.length r∧Src c.w z q ys.length news∧DC c.w (Di ys.length l) news (AP ys) N∧N.Sublist (Cg c us)∧(∀y∈ys,y.cells.length=z)∧(∀u∈news,u.oneCell'=true)∧ ∀u∈us,∃g,c.K u g:=by
  rintro q rfl rfl rfl;refine⟨[],q,0, [], [],rfl,rfl, ?_,by simpa [Di,AP]using DC.nil,by simp,by simp,by simp,by simp⟩;cases q with
  |none=>exact .inl ⟨rfl,rfl,rfl⟩
  |some p=>exact .inr ⟨p,rfl,by simp,by simp,by simp⟩
 unfold WJ at h;split at h
 ·simp only [Ah]at h;cases hs with
  |cf _=>exact empt _ rfl (LI hy) h.symm
 ·simp only [Ah]at h;cases hs with
  |emp _=>exact empt _ rfl (uX hy) h.symm
 ·rename_i u g;split at h
  ·rename_i e' z' l' g' ep x hl;split at h
   ·rename_i hh;obtain⟨rfl,rfl,rfl,hb⟩:=hh;simp only [Ah]at h;subst h;have hb:=AY.iw hb;subst hb;obtain⟨q1,q2,q3,q4,q5⟩:=eh u _ (CV hl k);have Ho:=sI (y:=x) hy (by simp only [Iw,hl,if_true]);subst Ho;cases hs with
    |own k1 k2 k3=>
     rename_i p0 n0 r0;rw [k2]at q4;have hK: ∀w∈ [u],∃g,c.K w g:=fun w hw=>by simp at hw;subst hw;exact⟨_,k1⟩
     obtain⟨d1,d2,⟨a9,d3,d4,d5⟩|⟨g9,cap,C,ys,N1,d3,d4,d5,d6,d7,d8,d9,d10,d11,d12⟩⟩:=q4.inv
     ·cases d3;refine⟨[],_,0, [], [],d4,rfl, ?_,by simpa [Di,AP]using DC.nil,by simp,by simp,by simp,hK⟩;cases p0 with
      |none=>exact .inl ⟨rfl,rfl,rfl⟩
      |some p=>exact .inr ⟨p,rfl,by simp,by simp,by simp⟩
     ·cases d3;rw [AY.bb]at d12;have DY:C.toList.length=r0*z:=by simpa using d9
      refine⟨ys,_,r0,_,N1,d4,rfl, .inr ⟨_,rfl, ?_,fun j w hw=> ?_,d11⟩,d12, ?_,d10,d11,hK⟩
      ·rw [List.length_take,DY];exact Nat.min_eq_left (Nat.mul_le_mul_right _ d7)
      ·rw [Addr.add_lit,Nat.zero_add,EY d6];rw [List.getElem?_take]at hw;split at hw
       ·simpa using hw
       ·cases hw
      ·rw [aM,qG,List.append_nil,d5];exact List.sublist_cons_self _ _
   ·cases h
  ·cases h
 ·cases h
end
def F1 (T:List Nat):List AW:=T.map fun u=>⟨u,none, [], .dead⟩
theorem zDa (T:List Nat):(F1 T).flatMap AW.top= []:=by induction T<;>simp_all [F1]
theorem zEY (T:List Nat):(F1 T).map AW.tag=T:=by induction T<;>simp_all [F1]
theorem zBs (T:List Nat):((F1 T).map fun r=>(r.tag,CP [] r.bq))=Fi T:=by simp [F1,Fi,CP]
theorem V1 {T:List Nat} {r:AW} (h:r∈F1 T):r.tag∈T∧r.new=none∧r.top= []∧r.bq= .dead:=by obtain⟨u,hu,rfl⟩:=List.mem_map.1 h;exact⟨hu,rfl,rfl,rfl⟩
section
variable {P:Program} {c:Cx} {n nx:Nat} {sl sl0:Nat→SV} {hp hp0:Nat→Option Aj} {a:Act} {o:Oper} {gs:Gd} {e:A5} {sg:BT} {nv:Nat}
theorem Rel.l5 (h:Rel c n sl hp a) {T:List Nat} (hT:T.Nodup) (Gz: ∀u∈T,c.U u) {r0:AW} (GG:r0.tag∉T) (HK:r0.new.isSome=true→ ¬c.U r0.tag) (C5:r0.new=none→c.U r0.tag) {w':World} {hs:List Nat} (He: ∀b∈hs,b∈(c.G r0.tag).top∨b∈Cg c T) (hm:Mod hs c.w w')
  (Ce:r0.top.Nodup) (Cb: ∀b∈r0.top,(b∈hs∨c.w.heap.size≤b)∧b<w'.heap.size) (Bl: ∀q f,r0.bq≠ .gd q f)
  (he:DJ c (c.du w' (r0::F1 T))→E5 c (c.du w' (r0::F1 T)) w' (r0::F1 T)→Dh (c.du w' (r0::F1 T)) r0.tag r0.bq):
  Rel (c.du w' (r0::F1 T)) n sl (Ba hp ((r0.tag,r0.bq)::Fi T)) a∧DJ c (c.du w' (r0::F1 T))∧E5 c (c.du w' (r0::F1 T)) w' (r0::F1 T)∧ ∀t,(c.du w' (r0::F1 T)).U t→c.U t∨t=r0.tag:=by
 have hn:((r0::F1 T).map AW.tag).Nodup:=by rw [List.map_cons,zEY];exact List.nodup_cons.2 ⟨GG,hT⟩
 have A2: ∀r∈r0::F1 T,r.new.isSome=true→ ¬c.U r.tag:=fun r hr hs=>by
  rcases Ag.1 hr with rfl|hr
  ·exact HK hs
  ·rw [(V1 hr).2.1]at hs;cases hs
 have aft:=Cx.dv (w':=w') h.b8 hn A2;obtain⟨q1,q2⟩:=h.changes (gs:= []) (E0 _) hm hn A2 (fun b hb=>by
   rcases He b hb with hb|hb
   ·exact⟨r0,by simp,hb⟩
   ·obtain⟨t,ht,CC⟩:=R3.1 hb;exact⟨⟨t,none, [], .dead⟩,List.mem_cons_of_mem _ (List.mem_map.2 ⟨t,ht,rfl⟩),CC⟩)
  (by rw [List.flatMap_cons,zDa,List.append_nil];exact Ce)
  (fun r hr b hb=>by
   rcases Ag.1 hr with rfl|hr
   ·exact Cb b hb
   ·rw [(V1 hr).2.2.1]at hb;cases hb)
  (fun r hr=>by
   rcases Ag.1 hr with rfl|hr
   ·exact Bl
   ·rw [(V1 hr).2.2.2];intros;simp)
  (fun hk r hr=>by
   rcases Ag.1 hr with rfl|hr
   ·exact he hk aft
   ·have kg:=aft.G r (List.mem_cons_of_mem _ hr);obtain⟨_,_,e1,e2⟩:=V1 hr;rw [e2];exact⟨by rw [kg,e1],by rw [kg]⟩)
 refine⟨?_,q2,aft,fun t ht=> ?_⟩
 ·rw [List.map_cons,zBs]at q1;have:CP [] r0.bq=r0.bq:=rfl;rw [this]at q1;exact q1
 ·rcases ht with ht|⟨r,hr,rfl⟩
  ·exact .inl ht
  ·rcases Ag.1 hr with rfl|hr
   ·exact .inr rfl
   ·exact .inl (Gz _ (V1 hr).1)
theorem AB.gu (h:Br P c n nx sl hp a sl0 hp0 o []) {T:List Nat} (hT:T.Nodup) (Gz: ∀u∈T,∃g,c.K u g) {v':Value} {w':World} {ck:List Cn} {e z:Nat} {l:List DT} {x:E} {top:List Nat} (hr:(execOp a.eval o).run P c.w= .ok (.value v') w') (hm:Mod (Cg c T) c.w w')
  (Ce:top.Nodup) (Cb: ∀b∈top,(b∈Cg c T∨c.w.heap.size≤b)∧b<w'.heap.size) (hd:DC w' [.row e z (AY.of l)] [v'] [x.den c.ρ] top):
  AB P o c n nx sl hp [] a {bt:=ck,val:= .own nx 0,bq:=(nx, .deep e z l 0 0 x)::Fi T}:=by
 intro next Q hk
 unfold Oper.wp;rw [hr,Oper.upon_value];have hU:=Ps h;have KY: ∀u∈T,c.U u:=fun u hu=>by obtain⟨g,hg⟩:=Gz u hu;exact h.rel.b8 _ _ hg
 obtain⟨q1,q2,q3,q4⟩:=h.rel.l5 (r0:=⟨nx,some v',top, .deep e z l 0 0 x⟩) hT KY (fun hh=>hU (KY _ hh)) (fun _=>hU) (fun hh=>by cases hh) (fun b hb=> .inr hb) hm Ce Cb (by intros;simp) (fun _ aft=>by obtain⟨k1,k2,k3⟩:=aft.new _ (List.mem_cons_self ..) v' rfl;have kg:=aft.G _ (List.mem_cons_self ..);have ke:=aft.kt _ (List.mem_cons_self ..) rfl;simp only at k1 k2 k3 kg ke;exact⟨k1,k2,ke,by rw [k3,kg,aft.w,aft.ρ];exact hd,by rw [kg]⟩)
 obtain⟨k1,k2,k3⟩:=q3.new _ (List.mem_cons_self ..) v' rfl;simp only at k1 k3;obtain⟨p,m,r,rfl⟩:=hd.head;refine hk _ (c.du w' _) ⟨rfl,rfl,rfl,rfl,fun t ht=> ?_⟩ (q1.put (SR.own k1 k3 .nil) o.dst);rcases q4 t ht with ht|rfl
 ·exact .inl ht
 ·exact .inr ⟨Nat.le_refl _,by simp [BH]⟩
theorem AB.ll (h:Br P c n nx sl hp a sl0 hp0 o []) {T:List Nat} (hT:T.Nodup) (Gz: ∀u∈T,∃g,c.K u g) {b g ep:Nat} (hb:b∉T) (hK:c.K b g) (Ec: ∀g',c.K b g'→g'≤g) (hE:c.E b=ep) {w':World} {ck:List Cn} {e z:Nat} {l:List DT} {x:E} {top:List Nat} (hr:(execOp a.eval o).run P c.w= .ok .skip w') {hs:List Nat} (He: ∀q∈hs,q∈(c.G b).top∨q∈Cg c T) (hm:Mod hs c.w w')
  (Ce:top.Nodup) (Cb: ∀q∈top,(q∈hs∨c.w.heap.size≤q)∧q<w'.heap.size) (hd:DC w' [.row e z (AY.of l)] [c.H b g] [x.den c.ρ] top):
  AB P o c n nx sl hp [] a {bt:=ck,bq:=(b, .deep e z l g (ep+1) x)::Fi T}:=by
 intro next Q hk
 unfold Oper.wp;rw [hr,Oper.upon_skip];have KY: ∀u∈T,c.U u:=fun u hu=>by obtain⟨g,hg⟩:=Gz u hu;exact h.rel.b8 _ _ hg
 have eF:=h.rel.b8 _ _ hK;obtain⟨q1,q2,q3,q4⟩:=h.rel.l5 (r0:=⟨b,none,top, .deep e z l g (ep+1) x⟩) hT KY hb (fun hh=>by cases hh) (fun _=>eF) He hm Ce Cb (by intros;simp) (fun _ aft=>by have kg:=aft.G _ (List.mem_cons_self ..);have ke:=aft.iz _ (List.mem_cons_self ..) rfl;obtain⟨k1,k2⟩:=aft.K b g hK;simp only at kg ke;exact⟨k1,fun g' CA=>Ec g' (aft.old b eF g' CA),by rw [ke,hE],by rw [k2,kg,aft.w,aft.ρ];exact hd,by rw [kg]⟩)
 refine hk _ (c.du w' _) ⟨rfl,rfl,rfl,rfl,fun t ht=> ?_⟩ (q1.put ((SR.undef .nil).mkGd []) o.dst);rcases q4 t ht with ht|rfl
 ·exact .inl ht
 ·exact .inl eF
theorem zyc {w w':World} {row:Option Nat} {S:List Nat} (h:w.grownBy w' row) (hr: ∀g,row=some g→g∈S∨w.heap.size≤g):Mod S w w':=by
 refine⟨h.os,h.tape,h.output,h.size,fun b hb hn=>h.block b hb fun hh=> ?_⟩;rcases hr b hh.symm with h1|h1
 ·exact hn h1
 ·omega
theorem oJ (h:Br P c n nx sl hp a sl0 hp0 o []) {x y:Operand} {tx:TypeId} {cl:Call} (ho:o.op= .call cl) (AH:cl.callee= .builtin .append) (Dq:cl.args.toList= [x,y]) (Ev:cl.argTypes.toList= [tx,tx])
  {el:TypeId} (BA:P.underlying tx=some (.slice el)) (hz:IE P el=true) {l:List DT} (hl:l.length=P.cellsOf el) {T us:List Nat} (hT:(T++us).Nodup) (Gz: ∀u∈T,∃g,c.K u g) {s2:SV} {ye:E} (A4:BN sl0 [] y=some s2) (hy:Bq hp0 [] A1 s2=some ye) (Cf:WJ hp0 [] el (P.cellsOf el) l s2=some us)
  {c0:E} {v:Value} (hv:a.eval x=v) {N:List Nat} (BK:DC c.w [.row el (P.cellsOf el) (AY.of l)] [v] [c0.den c.ρ] N) (hN:N=Cg c T) {ck:List Cn} (Cv:Cn.den c.ρ (.room c0 ye (P.bytesOf el))):
  AB P o c n nx sl hp [] a {bt:=ck,val:= .own nx 0,bq:=(nx, .deep el (P.cellsOf el) l 0 0 (.app c0 ye))::Fi (T++us)}:=by
 have Ay:cl.args= #[x,y]:=by apply Array.ext';simp [Dq]
 have Hk:cl.argTypes= #[tx,tx]:=by apply Array.ext';simp [Ev]
 have DP:y∈o.op.operands:=by simp [ho,Op.operands,Call.operands,AH,Ay]
 obtain⟨i,z,hi,F8,DR,B7,Cz,GA⟩:=LC hz;obtain⟨ys,q,r,news,N2,Dw,Ds,FH,eU,BP,OD,gI,iF⟩:=zs8 h.eh h.gs Cf (h.c6 A4 DP) hy;have CR:=ZU h.rel.gw hT;rw [J4]at CR;have ED: ∀b∈Cg c (T++us),b<c.w.heap.size:=fun b hb=>by obtain⟨t,_,CC⟩:=R3.1 hb;exact h.rel.gw.inb t b (by simp [GI.own,CC])
 obtain⟨mm,kk,HK,C5,TR,gV⟩:=Cv;obtain⟨d1,d2,Bh⟩:=BK.inv;rw [AY.bb]at d2 Bh;have hU: ∀u∈T++us,∃g,c.K u g:=fun u hu=>by
  rcases Ai.1 hu with hu|hu
  ·exact Gz u hu
  ·exact iF u hu
 obtain⟨xs,old,N1,CH,hold,HN,Kk,Io,CS,WT,dU⟩: ∃(xs:List AV) (old:List Value) (N1:List Nat),c0.den c.ρ= .sl xs∧old.length=xs.length*i.size∧((xs.length=0∧ ∃q,v= .slice q 0 0)∨ ∃g cap C,v= .slice (some ⟨g,0,none⟩) xs.length cap∧xs.length≤cap∧cap≤maxLen∧c.w.heap[g]?=some (.cells C el (0,0))∧C.size=cap*i.size∧old=C.toList.take (xs.length*i.size)∧(g∈Cg c T∧g∉N1))∧
   DC c.w (Di xs.length l) old (AP xs) N1∧(∀y∈xs,y.cells.length=P.cellsOf el)∧(∀u∈old,u.oneCell'=true)∧(∀b∈N1,b∈Cg c T)∧N1.Nodup:=by
  rcases Bh with⟨p,rfl,Kp,rfl⟩|⟨g9,cap,C,xs,N1,rfl,Kp,rfl,h6,h7,h8,h9,G3,F4,h12⟩
  ·exact⟨[], [], [],Kp,by simp, .inl ⟨rfl,p,rfl⟩,by simpa [Di,AP]using DC.nil,by simp,by simp,by simp,by simp⟩
  ·have Ce:(g9::N1).Nodup:=by rw [hN];exact(List.nodup_append.1 CR).1
   rw [List.nodup_cons]at Ce;refine⟨xs,_,N1,Kp, ?_, .inr ⟨g9,cap,C,rfl,h7,h8,h6,by rw [←Cz];exact h9,rfl,by rw [←hN];simp,Ce.1⟩,by rw [←Cz];exact h12,G3,by rw [←Cz];exact F4,fun b hb=>by rw [←hN];simp [hb],Ce.2⟩;have e9:C.toList.length=cap*i.size:=by rw [←Cz,←h9];simp
   rw [List.length_take,e9];exact Nat.min_eq_left (Nat.mul_le_mul_right _ h7)
 rw [CH]at HK;rw [Dw]at C5;simp only [AV.len,AV.int.injEq,true_and]at HK C5;have Ew:(xs.length+ys.length)*i.bytes≤140737488355328:=by
  rw [←HK,←C5,GA]at TR;have h9:(((xs.length+ys.length)*i.bytes:Nat):Int)≤140737488355328:=by rw [Int.natCast_mul,Int.natCast_add];exact TR
  omega
 have G7:xs.length+ys.length≤140737488355328:=by rw [←HK,←C5]at gV;omega
 rw [Cz]at FH;obtain⟨v',w',AU,AS⟩:=sZ (P:=P) c.w tx o.type el i z BA hi F8 DR B7 (fun g9=>g9∈Cg c T∧g9∉N1) v xs.length old hold HN q ys.length r news FH (by simp only [maxLen];omega) Ew;have Ft:(execOp a.eval o).run P c.w= .ok (.value v') w':=by simp [execOp,ho,resolve,AH,Ay,Hk,invoke,builtin,hv,Ds,AU]
 have S9: ∀b∈N2,b∈Cg c us:=fun b hb=>BP.subset hb;have dV:N2.Nodup:=BP.nodup (List.nodup_append.1 CR).2.1;have Te:(E.app c0 ye).den c.ρ= .sl (xs++ys):=by simp only [E.den,CH,Dw,AV.app]
 rcases AS with⟨rfl,rfl,Ea⟩|⟨g9,cap,C,rfl,h1,h2,h3,h4,h5,h6,h7⟩
 ·have HO:ys= []:=List.eq_nil_of_length_eq_zero Ea;subst HO;refine AB.gu h hT hU Ft (Mod.refl _ _) (top:=N) (by rw [hN];exact(List.nodup_append.1 CR).1) (fun b hb=>⟨.inl (by rw [J4,←hN];simp [hb]),ED b (by rw [J4,←hN];simp [hb])⟩) ?_;rw [Te,List.append_nil,←CH];exact BK
 ·have PY:(g9∈Cg c T∨c.w.heap.size≤g9)∧g9∉N1∧g9∉N2:=by
   rcases h7 with⟨rfl,_⟩|⟨hg,CA⟩
   ·refine⟨.inr (Nat.le_refl _),fun hh=> ?_,fun hh=> ?_⟩
    ·have:=ED _ (by rw [J4];exact Ai.2 (.inl (WT _ hh)));omega
    ·have:=ED _ (by rw [J4];exact Ai.2 (.inr (S9 _ hh)));omega
   ·exact⟨.inl hg,CA,fun hh=>(List.nodup_append.1 CR).2.2 _ hg _ (S9 _ hh) rfl⟩
  have A8: ∀b∈N1++N2,w'.heap[b]?=c.w.heap[b]?:=fun b hb=>by
   have An:b<c.w.heap.size:=ED b (by
    rw [J4];rcases Ai.1 hb with hb|hb
    ·exact Ai.2 (.inl (WT b hb))
    ·exact Ai.2 (.inr (S9 b hb)))
   refine h6.block b An fun hh=> ?_;cases hh;rcases Ai.1 hb with hb|hb
   ·exact PY.2.1 hb
   ·exact PY.2.2 hb
  refine AB.gu h hT hU Ft (zyc h6 fun g hg=> ?_) (top:=g9::(N1++N2)) ?_ (fun b hb=> ?_) ?_
  ·cases hg;rcases PY.1 with hh|hh
   ·exact .inl (by rw [J4];exact Ai.2 (.inl hh))
   ·exact .inr hh
  ·refine List.nodup_cons.2 ⟨fun hh=> ?_,List.nodup_append.2 ⟨dU,dV,fun p hp q hq=> ?_⟩⟩
   ·rcases Ai.1 hh with hh|hh
    ·exact PY.2.1 hh
    ·exact PY.2.2 hh
   ·exact(List.nodup_append.1 CR).2.2 p (WT p hp) q (S9 q hq)
  ·rcases Ag.1 hb with rfl|hb
   ·refine⟨?_,FM h3⟩;rcases PY.1 with hh|hh
    ·exact .inl (by rw [J4];exact Ai.2 (.inl hh))
    ·exact .inr hh
   ·have tN:b∈Cg c (T++us):=by
     rw [J4];rcases Ai.1 hb with hb|hb
     ·exact Ai.2 (.inl (WT b hb))
     ·exact Ai.2 (.inr (S9 b hb))
    exact⟨.inl tN,Nat.lt_of_lt_of_le (ED b tN) h6.size⟩
  ·rw [Te];have hlen:(xs++ys).length=xs.length+ys.length:=As;rw [Cz]at d1 d2 Io OD ⊢;have:=DC.row (w:=w') (e:=el) (z:=i.size) (l:=AY.of l) (g:=g9) (cap:=cap) (C:=C) (ys:=xs++ys) (N1:=N1++N2) (ts:= []) (vs:= []) (xs:= []) (N:= []) d1 (by rw [AY.bb];exact d2) h3 (by rw [hlen];exact h1) h2 h4 (fun w hw=> ?_) (by
     rw [hlen,h5];intro u hu;rcases Ai.1 hu with hu|hu
     ·exact CS u hu
     ·exact gI u hu) (by
     rw [hlen,h5,oR,zF3,AY.bb];exact(Kk.app eU).frame A8) .nil
   ·rw [hlen]at this;simpa using this
   ·rcases Ai.1 hw with hw|hw
    ·exact Io w hw
    ·exact OD w hw
end
section
variable {P:Program} {c:Cx} {n nx:Nat} {sl sl0:Nat→SV} {hp hp0:Nat→Option Aj} {a:Act} {o:Oper} {gs:Gd} {e:A5} {sg:BT} {nv:Nat}
theorem zBL {l:List Nat} (h:L5 l=true):l.Nodup:=R8 h
theorem zug (h:Br P c n nx sl hp a sl0 hp0 o gs) {x y:Operand} {tx ty:TypeId} {cl:Call} (ho:o.op= .call cl) (AH:cl.callee= .builtin .append) (Dq:cl.args.toList= [x,y]) (Ev:cl.argTypes.toList= [tx,ty])
  {s1 s2:SV} (BI:BN sl0 gs x=some s1) (A4:BN sl0 gs y=some s2) (he:aX P hp0 gs nx tx ty s1 s2=some e) (hc: ∀q∈e.bt,Cn.den c.ρ q):AB P o c n nx sl hp gs a e:=by
 have Ay:cl.args= #[x,y]:=by apply Array.ext';simp [Dq]
 have Eb:x∈o.op.operands:=by simp [ho,Op.operands,Call.operands,AH,Ay]
 have DP:y∈o.op.operands:=by simp [ho,Op.operands,Call.operands,AH,Ay]
 unfold aX at he;split at he
 ·cases he
 rename_i Oz;have Oz:tx=ty:=by simpa using Oz
 subst Oz;split at he
 ·rename_i el e' z dl BA DM;have N4:=Ky BA;split at he
  ·cases he
  rename_i AO;simp only [not_or,Bool.not_eq_true',Bool.not_eq_false,Bool.not_eq_true,ne_eq,Decidable.not_not]at AO;obtain⟨hz,Gg,rfl,rfl⟩:=AO;obtain⟨_,_,l,Mt,DO⟩:=cS BA DM;simp only [DT.row.injEq,true_and]at Mt;subst Mt;rw [AY.bb]at he;have r1:=h.c6 BI Eb;split at he
  ·rename_i ye us hy Cf;have hU: ∀u∈us,∃g,c.K u g:=(zs8 h.eh h.gs Cf (h.c6 A4 DP) hy).choose_spec.choose_spec.choose_spec.choose_spec.choose_spec.2.2.2.2.2.2.2;have OB:us.Nodup:=by
    unfold WJ at Cf;split at Cf
    ·simp only [Ah]at Cf;subst Cf;simp
    ·simp only [Ah]at Cf;subst Cf;simp
    ·split at Cf
     ·split at Cf
      ·simp only [Ah]at Cf;subst Cf;simp
      ·cases Cf
     ·cases Cf
    ·cases Cf
   have Xq:0<P.cellsOf e':=by obtain⟨i,_,_,_,_,h1,h2,_⟩:=LC hz;omega
   split at he
   ·rename_i t g;split at he
    ·rename_i e2 z2 l2 g2 ep c0 hl;split at he
     ·rename_i hh;obtain⟨rfl,rfl,hb,rfl,E9⟩:=hh;have hb:=AY.iw hb;subst hb;simp only [Ah]at he;subst he;obtain⟨q1,q2,q3,q4,q5⟩:=h.eh t _ (CV hl h.gs);generalize hv:a.eval x=v at r1;cases r1 with
      |own k1 k2 _=>rw [k2]at q4;simp only [Bool.not_eq_true',List.contains_eq_mem,decide_eq_false_iff_not]at E9;exact oJ h ho AH Dq Ev N4 hz DO (T:= [t]) (by simpa using List.nodup_cons.2 ⟨E9,OB⟩) (fun u hu=>by simp at hu;subst hu;exact⟨_,k1⟩) A4 hy Cf hv q4 (by simp [Cg]) (hc _ (by simp))
     ·cases he
    ·cases he
   ·simp only [Ah]at he;subst he;generalize hv:a.eval x=v at r1;cases r1 with
    |emp _=>exact oJ h ho AH Dq Ev N4 hz DO (T:= []) (by simpa using OB) (by simp) A4 hy Cf hv (c0:= .lst .nil) (.void Xq (by rw [AY.bb];exact DO) .nil) rfl (hc _ (by simp))
   ·simp only [Ah]at he;subst he;generalize hv:a.eval x=v at r1;cases r1 with
    |cf _=>exact oJ h ho AH Dq Ev N4 hz DO (T:= []) (by simpa using OB) (by simp) A4 hy Cf hv (c0:= .lst .nil) (.void Xq (by rw [AY.bb];exact DO) .nil) rfl (hc _ (by simp))
   ·cases he
  ·cases he
 ·cases he
theorem AB.gm (h:Br P c n nx sl hp a sl0 hp0 o []) {T:List Nat} (hT:T.Nodup) (Gz: ∀u∈T,∃g,c.K u g) {ck:List Cn} {el z:Nat} {l:List DT} (hz:0<z) (hl:l.length=z) {x:E} {xs:List AV} {C:Array Value} {cap:Nat} (hx:x.den c.ρ= .sl xs) (AH: ∀y∈xs,y.cells.length=z) (hle:xs.length≤cap) (Jr:cap≤maxLen) (hC:C.size=cap*z)
  (h1: ∀u∈C.toList.take (xs.length*z),u.oneCell'=true) (hD:DC c.w (Di xs.length l) (C.toList.take (xs.length*z)) (AP xs) (Cg c T))
  (hr:(execOp a.eval o).run P c.w= .ok (.value (.slice (some ⟨c.w.heap.size,0,none⟩) xs.length cap)) (c.w.alloc (.cells C el))):
  AB P o c n nx sl hp [] a {bt:=ck,val:= .own nx 0,bq:=(nx, .deep el z l 0 0 x)::Fi T}:=by
 have ED: ∀b∈Cg c T,b<c.w.heap.size:=fun b hb=>by obtain⟨t,_,CC⟩:=R3.1 hb;exact h.rel.gw.inb t b (by simp [GI.own,CC])
 have A2:(c.w.alloc (.cells C el)).heap[c.w.heap.size]?=some (.cells C el (0,0)):=heap_alloc_new c.w _;have EC:c.w.grownBy (c.w.alloc (.cells C el)) (some c.w.heap.size):=⟨rfl,rfl,rfl,by simp,fun j hj _=>Below.heap_alloc c.w _ _ hj⟩
 refine AB.gu h hT Gz hr (zyc EC fun g hg=> .inr (by cases hg;exact Nat.le_refl _)) (top:=c.w.heap.size::Cg c T) ?_ (fun b hb=> ?_) ?_
 ·exact List.nodup_cons.2 ⟨fun hh=>by have:=ED _ hh;omega,ZU h.rel.gw hT⟩
 ·rcases Ag.1 hb with rfl|hb
  ·exact⟨.inr (Nat.le_refl _),by simp⟩
  ·exact⟨.inl hb,Nat.lt_of_lt_of_le (ED b hb) (by simp)⟩
 ·rw [hx];have:=DC.row (w:=c.w.alloc (.cells C el)) (e:=el) (z:=z) (l:=AY.of l) (g:=c.w.heap.size) (cap:=cap) (C:=C) (ys:=xs) (N1:=Cg c T) (ts:= []) (vs:= []) (xs:= []) (N:= []) hz (by rw [AY.bb];exact hl) A2 hle Jr hC AH h1 (by
   rw [AY.bb];exact hD.frame fun b hb=>Below.heap_alloc c.w _ _ (ED b hb)) .nil
  simpa using this
theorem zuW (h:Br P c n nx sl hp a sl0 hp0 o gs) {t:TypeId} {m:Nat} {parts:Array (Nat × Operand)} (ho:o.op= .buildSlice t m parts) {ps:List (Nat × SV)} (MA:parts.toList.mapM (fun(p:Nat × Operand)=>(BN sl0 gs p.2).map fun s=>(p.1,s))=some ps) (he:cA P hp0 gs nx t m ps=some e) (hc: ∀q∈e.bt,Cn.den c.ρ q):AB P o c n nx sl hp gs a e:=by
 obtain⟨e1,e2⟩:=aU (c:=c) (a:=a) (parts.toList.map (·.2)) (fun x s hx hm=>h.c6 hx (by simpa [ho,Op.operands]using hm)) (fun x hx=>List.mem_map.2 ⟨x,hx,rfl⟩) MA;unfold cA at he;split at he
 ·rename_i el e' zz dl Jv DM;have BA:=Ky Jv;split at he
  ·cases he
  rename_i AO;simp only [not_or,Bool.not_eq_true',Bool.not_eq_false',ne_eq,Bool.not_eq_false,Bool.not_eq_true,Nat.not_lt,Decidable.not_not]at AO;obtain⟨hz,Gg,rfl,rfl,Bn,AE,hle,Ey⟩:=AO;obtain⟨_,_,l,Mt,DO⟩:=cS Jv DM;simp only [DT.row.injEq,true_and]at Mt;subst Mt;rw [AY.bb]at he;have AE:Aq P e'=true∨P.cellsOf e'=1:=by simpa using AE
  obtain⟨i,z,hi,F8,DR,B7,Cz,GA⟩:=LC hz;split at he
  ·rename_i xs us ck TW;split at he
   ·rename_i Ce;simp only [Ah]at he;subst he;obtain⟨p1,p5,p6,p7,p8⟩:=zpH h.eh h.gs DO AE (ps.map (·.2)) (parts.toList.map fun p=>a.eval p.2) e2 TW hc;have hlen:(parts.toList.map fun p=>a.eval p.2).length=m:=by
     have:ps.length=m:=by have:=congrArg List.length Ey;simpa using this
     have h9:=congrArg List.length e1;simp at h9 ⊢;omega
    have Hh:(parts.map fun(x:Nat × Operand)=>(x.1,a.eval x.2)).toList=((parts.toList.map fun p=>a.eval p.2).zipIdx 0).map fun p=>(p.2,p.1):=by
     have JA:parts.toList.map (·.1)=List.range m:=by rw [←e1,Ey]
     apply List.ext_getElem?;intro j;have hj:(parts.toList.map (·.1))[j]?=(List.range m)[j]?:=by rw [JA]
     simp only [Array.toList_map,List.getElem?_map,List.getElem?_zipIdx]at hj ⊢;cases hp:parts.toList[j]? with
     |none=>simp
     |some p=>
      rw [hp]at hj;simp only [Option.map_some,Ah]at hj ⊢;have fS:j<m:=by
       rcases Nat.lt_or_ge j m with hh|hh
       ·exact hh
       ·rw [List.getElem?_eq_none (by simpa using hh)]at hj;cases hj
      rw [List.getElem?_range fS]at hj;simp at hj;simp [hj]
    obtain⟨C',f1,f2⟩:=qH (sz:=i.size) (fun j=>some (j*i.size,i.size)) (fun j=>rfl) (parts.toList.map fun p=>a.eval p.2) 0 ((Array.range (m*i.size)).map (fun j=>(if m*i.size=0 then #[]else z.cells)[j % (if m*i.size=0 then #[]else z.cells).size]!)) [] _ (by simp;rfl) (by simp) (by simp [hlen]) (fun v hv=>by rw [←Cz];exact(p5 v hv).1);have DY:C'.toList.length=m*P.cellsOf e':=by
     rw [f2,Cz];simp only [List.nil_append];have: ∀(L:List Value),(∀v∈L,v.cells.size=i.size)→(L.flatMap fun v=>v.cells.toList).length=L.length*i.size:=by
      intro L
      induction L with
      |nil=>intro _;simp
      |cons v L ih=>intro hL;simp only [List.flatMap_cons,As,Ap,Array.length_toList];rw [ih (fun u hu=>hL u (by simp [hu])),hL v (by simp),Nat.add_mul];omega
     rw [this _ (fun v hv=>by rw [←Cz];exact(p5 v hv).1),hlen]
    have JU:(xs.map (E.den c.ρ)).length=m:=by rw [List.length_map,p7,hlen]
    have CG:C'.toList.take ((xs.map (E.den c.ρ)).length*P.cellsOf e')=(parts.toList.map fun p=>a.eval p.2).flatMap fun v=>v.cells.toList:=by rw [JU,←DY,List.take_length,f2];simp
    refine AB.gm h (zBL Ce) p8 (by omega) DO (xs:=xs.map (E.den c.ρ)) (C:=C') (cap:=m) (by simp [E.den,EL.dk]) (fun y hy=> ?_) (by omega) (by simp only [maxLen];have:m*1≤m*P.cellsOf e':=Nat.mul_le_mul_left _ (by omega);omega) (by rw [←Array.length_toList,DY]) ?_ ?_ ?_
    ·obtain⟨q,hq,rfl⟩:=List.mem_map.1 hy;exact p6 q hq
    ·rw [CG];intro u hu;obtain⟨v,hv,hu⟩:=List.mem_flatMap.1 hu;exact(p5 v hv).2 u hu
    ·rw [CG,JU,←hlen];exact p1
    ·rw [JU];have AU:=zos (P:=P) BA Bn hi F8 Cz m (by rw [←Cz];omega) (parts.map fun(x:Nat × Operand)=>(x.1,a.eval x.2)) C' (by rw [Hh];exact f1) c.w;simp only [execOp,ho,Sem.run_bind];rw [AU];rfl
   ·cases he
  ·cases he
 ·cases he
theorem oT {w:World}: ∀{ds:List DT} {ss:List SV} {vs:List Value},PJ ds ss=true→SR c ss vs→ ∀{xs:EL} {m:Nat},Cr hp0 gs m ss=some xs→DC w ds vs (xs.den c.ρ) []
 | [], [],vs,_,hs,xs,m,hx=>by
  cases hs;cases m with
  |zero=>simp [Cr]at hx
  |succ m=>simp [Cr]at hx;subst hx;exact .nil
 | [],_::_,_,h,_,_,_,_=>by simp [PJ]at h
 |_::_, [],_,h,_,_,_,_=>by simp [PJ]at h
 |d::ds,s::ss, [],h,hs,_,_,_=>by have:=hs.len;simp at this
 |d::ds,s::ss,v::vs,h,hs,xs,m,hx=>by
  obtain⟨j,y,ys,rfl,hy,Dw,rfl⟩:=Kz hx;obtain⟨r1,r2⟩:=hs.cg;simp only [PJ,Ae]at h;have ih:=oT (w:=w) h.2 r2 Dw;unfold zM at h;obtain⟨h1,_⟩:=h;split at h1
  ·rename_i y';rw [EL.den,KR hy];cases r1 with
   |e g1 g2 _=>
    cases y'<;>simp [Us]at h1
    ·cases g1 with
     |int hk _=>exact .flat (.int hk .nil) ih
    ·cases g1 with
     |bool _=>exact .flat (.bool .nil) ih
    ·rename_i s0;generalize hq:(E.str s0).den c.ρ=q at g1;cases g1 with
     |str hk _=>exact .flat (.str hk .nil) ih
     |_=>simp [E.den]at hq
  ·simp only [Ae,decide_eq_true_eq,beq_iff_eq]at h1;rw [EL.den,LI hy];cases r1 with
   |cf _=>exact .void h1.1 h1.2 ih
  ·cases h1
theorem DC.rep {w:World} {ds:List DT} {vs:List Value} {xs:List AV} (h:DC w ds vs xs []): ∀k,DC w (Di k ds) (List.replicate k vs).flatten (List.replicate k xs).flatten []
 |0=>by simpa [Di]using DC.nil
 |k+1=>by rw [Pm,List.replicate_succ,List.flatten_cons,List.replicate_succ,List.flatten_cons];simpa using h.app (DC.rep h k)
theorem zxC (h:Br P c n nx sl hp a sl0 hp0 o gs) {t:TypeId} {l m:Operand} (ho:o.op= .makeSlice t l m) {s1 s2:SV} (BI:BN sl0 gs l=some s1) (A4:BN sl0 gs m=some s2) (he:cT P hp0 gs nx t s1 s2=some e) (hc: ∀q∈e.bt,Cn.den c.ρ q):AB P o c n nx sl hp gs a e:=by
 have Eb:l∈o.op.operands:=by simp [ho,Op.operands]
 have DP:m∈o.op.operands:=by simp [ho,Op.operands]
 unfold cT at he;split at he
 ·rename_i el e' zz dl x y Jv DM;have BA:=Ky Jv;split at he
  ·cases he
  rename_i AO;simp only [not_or,Bool.not_eq_true',Bool.not_eq_false',ne_eq,Bool.not_eq_false,Bool.not_eq_true,Decidable.not_not]at AO;obtain⟨hz,Gg,rfl,rfl,Hm,fE⟩:=AO;have fE:gs= []:=by simpa using fE
  subst fE;obtain⟨_,_,dl',Mt,DO⟩:=cS Jv DM;simp only [DT.row.injEq,true_and]at Mt;subst Mt;rw [AY.bb]at he;obtain⟨i,z,hi,F8,DR,B7,Cz,GA⟩:=LC hz;have r1:=h.c6 BI Eb;have r2:=h.c6 A4 DP;have ival: ∀{x:E} {kk:IntKind} {k:Int} {v:Value},SR c [.e x] [v]→x.den c.ρ= .int kk k→v= .int kk k:=by
   intro x kk k v hr hx;cases hr with
   |e h1 _ _=>exact(GR h1 hx).1
  split at he
  ·rename_i s hs;have hs:E1 z=some s:=by simpa [hi,F8]using hs
   split at he
   ·rename_i Xs;obtain⟨w,hw,rfl⟩:=Av.1 he;obtain⟨kk,k,hk,h0,hb,hle⟩:Cn.den c.ρ (.mkroom x (P.bytesOf e')):=BY hc;have EW:=ival r1 hk;have Ds:=ival r2 (by rw [←E.aw c.ρ _ _ Hm];exact hk);have uK:DC c.w dl' z.cells.toList (w.den c.ρ).cells []:=by
     have Im:=bI (c:=c) hs;unfold yQ at Xs;cases s with
     |agg cs=>
      obtain⟨k9,l9,hm,hl9,rfl⟩:=Wc hw;cases Im with
      |agg h9 h1 h8=>have:=oT (w:=c.w) Xs h1 hl9;simpa [Value.cells,AV.cells,E.den]using this
     |cf=>
      have BA:Cr hp0 [] (A1+1) [.cf]=some (.cons w .nil):=by unfold Cr;rw [hw];rfl
      have:=oT (w:=c.w) Xs Im BA;rw [LI hw]at this ⊢;cases Im with
      |cf _=>simpa [Value.cells,AV.cells,E.den,EL.den]using this
     |_=>cases Xs
    obtain⟨c1,c2⟩:=o6 (w:=c.w) (ρ:=c.ρ) hs hw;obtain⟨kn,rfl⟩:=Int.eq_ofNat_of_zero_le h0;have DL:(i.bytes:Int)*(kn:Int)≤281474976710656:=by rw [GA]at hb;rw [Int.mul_comm];omega
    have hlen:=c1.len;have Xc:=ZM z.cells (by omega) kn;have AU:=run_make (P:=P) c.w t e' i z BA hi F8 kk kk kn kn (by omega) (Int.le_refl _) DL (by omega);have Fu:(madeCells z.cells (kn*z.cells.size)).size=kn*P.cellsOf e':=by rw [size_madeCells,DR,Cz]
    have CG:(madeCells z.cells (kn*z.cells.size)).toList.take ((List.replicate kn (w.den c.ρ)).length*P.cellsOf e')=(List.replicate kn z.cells.toList).flatten:=by rw [List.length_replicate,List.take_of_length_le (by rw [Array.length_toList,Fu];exact Nat.le_refl _),Xc]
    have Ej:AP (List.replicate kn (w.den c.ρ))=(List.replicate kn (w.den c.ρ).cells).flatten:=by
     clear AU Fu CG Xc hb hle DL hk EW Ds h0 hc
     induction kn with
     |zero=>rfl
     |succ k ih=>simp only [List.replicate_succ,AP,List.flatMap_cons,List.flatten_cons]at ih ⊢;rw [ih]
    refine AB.gm (T:= []) h (by simp) (by simp) (by omega) DO (xs:=List.replicate kn (w.den c.ρ)) (C:=madeCells z.cells (kn*z.cells.size)) (cap:=kn) (by simp [E.den,hk,AV.rep]) (fun u hu=> ?_) (by simp) (by simp only [maxLen];omega) Fu ?_ ?_ ?_
    ·rw [List.eq_of_mem_replicate hu,←hlen,Array.length_toList,DR,Cz]
    ·rw [CG];intro u hu;obtain⟨q,hq,hu⟩:=List.mem_flatten.1 hu;rw [List.eq_of_mem_replicate hq]at hu;exact c2 u hu
    ·rw [CG,List.length_replicate,Ej];exact uK.rep kn
    ·simp only [execOp,ho,EW,Ds,Sem.run_bind,Int.ofNat_eq_natCast,List.length_replicate];rw [AU,DR];rfl
   ·cases he
  ·cases he
 ·cases he
end
section
variable {P:Program} {c:Cx} {n nx:Nat} {sl sl0:Nat→SV} {hp hp0:Nat→Option Aj} {a:Act} {o:Oper} {gs:Gd} {e:A5} {sg:BT} {nv:Nat}
theorem zt0 {α:Type} (cs vs:List α) (o:Nat):setVs cs o vs=cs.take o++(vs++cs.drop (o+vs.length)):=by simp [setVs]
theorem DC.setVs {w:World} {ts:List DT} {L V:List Value} {X Y:List AV} {N1 N2 M:List Nat} {p:Nat} (h1:DC w (ts.take p) (L.take p) (X.take p) N1) (h2:DC w (ts.drop (p+V.length)) (L.drop (p+V.length)) (X.drop (p+V.length)) N2) (k:DC w ((ts.drop p).take V.length) V Y M):
  DC w ts (Go.Proofs.YtfdfahjmonlbiaaGreatDoor.setVs L p V) (Go.Proofs.YtfdfahjmonlbiaaGreatDoor.setVs X p Y) (N1++(M++N2)):=by
 have hk:=k.len;have ht:ts=ts.take p++((ts.drop p).take V.length++ts.drop (p+V.length)):=by rw [←List.drop_drop,List.take_append_drop,List.take_append_drop]
 rw [zt0,zt0];have hl:Y.length=V.length:=by omega
 rw [hl];have:=h1.app (k.app h2);rw [←ht]at this;exact this
theorem zvI (h:Br P c n nx sl hp a sl0 hp0 o []) {t:TypeId} {x y:Operand} (ho:o.op= .store t x y) {b g:Nat} {ix:E} {sz k:Nat} {s:SV} (r1:SR c [.cx b g ix sz k] [a.eval x]) (r2:SR c [s] [a.eval y]) {el:Nat} {l:List DT} {ep:Nat} {c0:E} (hK:c.K b g) (Ec: ∀g',c.K b g'→g'≤g) (hE:c.E b=ep)
  (Bn:Dv P t=true) (hle:k+P.cellsOf t≤sz) (FC:Aq P el=true∨(sz=1∧Aq P t=false)) (D8:Aq P t=true∨P.cellsOf t=1)
  {xe:E} {us:List Nat} {ck:List Cn} (Cf:SO P hp0 [] t ((l.drop k).take (P.cellsOf t)) s=some (xe,us,ck)) (Js: ∀q∈ck,q.den c.ρ) (Ce:us.Nodup) (hb:b∉us)
  (Cb: ∀(kk:IntKind) (kv:Int),ix.den c.ρ= .int kk kv→ ∃(m cap:Nat) (C:Array Value) (ys:List AV) (N1 N2:List Nat),c.H b g= .slice (some ⟨m,0,none⟩) ys.length cap∧c0.den c.ρ= .sl ys∧0<sz∧l.length=sz∧c.w.heap[m]?=some (.cells C el (0,0))∧ys.length≤cap∧cap≤maxLen∧C.size=cap*sz∧(∀y∈ys,y.cells.length=sz)∧(∀w∈C.toList.take (ys.length*sz),w.oneCell'=true)∧
   (m::(N1++N2)).Nodup∧(∀q∈m::(N1++N2),q∈(c.G b).top)∧DC c.w ((Di ys.length l).take (kv.toNat*sz+k)) ((C.toList.take (ys.length*sz)).take (kv.toNat*sz+k)) ((AP ys).take (kv.toNat*sz+k)) N1∧
   DC c.w ((Di ys.length l).drop (kv.toNat*sz+k+P.cellsOf t)) ((C.toList.take (ys.length*sz)).drop (kv.toNat*sz+k+P.cellsOf t)) ((AP ys).drop (kv.toNat*sz+k+P.cellsOf t)) N2):
  AB P o c n nx sl hp [] a {bt:=ck,bq:=(b, .deep el sz l g (ep+1) (.set c0 ix (.put (.idx c0 ix) k xe (Aq P el))))::Fi us}:=by
 generalize hv:a.eval x=v at r1;cases r1 with
 |cx k1 k2 k3 k4 k5 k6=>
  rename_i m0 len cap0 kk kv;obtain⟨m,cap,C,ys,N1,N2,p1,p2,p3,p4,p5,p6,p7,p8,p9,p10,p11,p12,p13,p14⟩:=Cb kk kv k3;rw [k2]at p1;cases p1;have GC:kv.toNat<ys.length:=by omega
  have hmul:(kv.toNat+1)*sz≤ys.length*sz:=Nat.mul_le_mul_right _ (by omega);have Gc:ys.length*sz≤cap0*sz:=Nat.mul_le_mul_right _ p6;rw [Nat.add_mul]at hmul;have DY:C.toList.length=cap0*sz:=by simpa using p8
  obtain⟨q1,q2,q3,q4,q5,q6⟩:=ztx h.eh h.gs (by rw [List.length_take,List.length_drop,p4];omega) D8 Cf r2 Js;have Gi:=NC GC;generalize Hn:(AV.sl ys).nth kv.toNat=yk at Gi;have FJ:=p9 yk (List.mem_of_getElem? Gi);have Ef:(a.eval y).cells.toList.length=P.cellsOf t:=by simpa using q4
  obtain⟨m1,m2,m3⟩:=Zr (vs:=(a.eval y).cells.toList) p5 (show(kv.toNat*sz+k)+_≤C.size by rw [Ef,p8];omega);have Of:(C.toList.take (ys.length*sz)).length=ys.length*sz:=by rw [List.length_take,DY];omega
  have HH:m0∈(c.G b).top:=p12 _ (by simp);have Li: ∀q∈Cg c us,q∉(c.G b).top:=fun q hq hh=>by obtain⟨u,hu,gT⟩:=R3.1 hq;exact h.rel.gw.ct u b (fun hh=>hb (hh▸hu)) q (by simp [GI.own,gT]) (by simp [GI.own,hh])
  have Mq: ∀q∈Cg c us,q<c.w.heap.size:=fun q hq=>by obtain⟨u,_,gT⟩:=R3.1 hq;exact h.rel.gw.inb u q (by simp [GI.own,gT])
  have Mp: ∀q∈(c.G b).top,q<c.w.heap.size:=fun q hq=>h.rel.gw.inb b q (by simp [GI.own,hq]);have A8: ∀q,q∈Cg c us∨(q∈N1++N2)→(C7 c.w m0 (kv.toNat*sz+k) (a.eval y).cells.toList).heap[q]?=c.w.heap[q]?:=fun q hq=>by
   refine m1.block q ?_ ?_
   ·rcases hq with hq|hq
    ·exact Mq q hq
    ·exact Mp q (p12 q (by simp [Ai.1 hq]))
   ·simp only [List.mem_singleton];rintro rfl;rcases hq with hq|hq
    ·exact Li _ hq HH
    ·exact(List.nodup_cons.1 p11).1 hq
  have hz:(yk.dd k (xe.den c.ρ) (Aq P el)).cells=setVs yk.cells k (xe.den c.ρ).cells:=by
   refine pT ?_ (fun hg=> ?_)
   ·cases hg:Aq P el with
    |true=>exact .inr rfl
    |false=>
     left;rcases FC with h'|⟨_,h'⟩
     ·rw [hg]at h';cases h'
     ·rw [h']at q5;exact fun cs=>(q5.1 cs)
   ·rcases FC with h'|⟨h1,h'⟩
    ·rw [hg]at h';cases h'
    ·rw [h']at q5;have NX:P.cellsOf t=1:=by rcases D8 with h2|h2;rw [h']at h2;cases h2;exact h2
     refine⟨by omega,by omega, ?_⟩;cases iM:xe.den c.ρ<;>first|rfl|exact absurd iM (q5.1 _)
  have Ez:AP (ys.set kv.toNat (yk.dd k (xe.den c.ρ) (Aq P el)))=setVs (AP ys) (kv.toNat*sz+k) (xe.den c.ρ).cells:=
   bN ys _ _ yk k _ p9 Gi (by rw [q3];exact hle) hz
  have G8:((Di ys.length l).drop (kv.toNat*sz+k)).take (P.cellsOf t)=(l.drop k).take (P.cellsOf t):=by rw [←p4];exact VP l _ _ _ _ GC (by omega)
  have AU:(execOp a.eval o).run P c.w= .ok .skip (C7 c.w m0 (kv.toNat*sz+k) (a.eval y).cells.toList):=by have:=oX (P:=P) (t:=t) (v:=a.eval y) (off:=kv.toNat*sz+k) p5 Bn q4 (by rw [q4,p8];omega) q2;simp [execOp,ho,hv,this]
  refine AB.ll h Ce q6 hb hK Ec hE AU (hs:=(c.G b).top++Cg c us) (fun q hq=>Ai.1 hq) ⟨m1.os,m1.tape,m1.output,m1.size,fun q hq hn=>m1.block q hq fun hh=>hn (by simp only [List.mem_singleton]at hh;subst hh;exact Ai.2 (.inl HH))⟩
   (top:=m0::(N1++(Cg c us++N2))) ?_ (fun q hq=> ?_) ?_
  ·have hnT:=ZU h.rel.gw Ce;rw [List.nodup_cons,List.nodup_append]at p11;obtain⟨n1,n2,n3,n4⟩:=p11;have a1: ∀q∈Cg c us,q∉N1∧q∉N2∧q≠m0:=fun q hq=>⟨fun hh=>Li q hq (p12 q (by simp [hh])),fun hh=>Li q hq (p12 q (by simp [hh])),fun hh=>Li q hq (hh▸HH)⟩
   rw [List.nodup_cons,List.nodup_append,List.nodup_append];refine⟨fun hh=> ?_,n2,⟨hnT,n3,fun p hp q hq Xh=>(a1 p hp).2.1 (Xh▸hq)⟩,fun p hp q hq Xh=> ?_⟩
   ·simp only [Ai]at hh n1;rcases hh with hh|hh|hh
    ·exact n1 (.inl hh)
    ·exact(a1 _ hh).2.2 rfl
    ·exact n1 (.inr hh)
   ·rcases Ai.1 hq with hq|hq
    ·exact(a1 q hq).1 (Xh▸hp)
    ·exact n4 p hp q hq Xh
  ·have:q∈(c.G b).top∨q∈Cg c us:=by
    simp only [Ag,Ai]at hq;rcases hq with rfl|hq|hq|hq
    ·exact .inl HH
    ·exact .inl (p12 q (by simp [hq]))
    ·exact .inr hq
    ·exact .inl (p12 q (by simp [hq]))
   refine⟨.inl (Ai.2 this),Nat.lt_of_lt_of_le ?_ m1.size⟩;rcases this with hh|hh
   ·exact Mp q hh
   ·exact Mq q hh
  ·have B5:(E.set c0 ix (.put (.idx c0 ix) k xe (Aq P el))).den c.ρ= .sl (ys.set kv.toNat (yk.dd k (xe.den c.ρ) (Aq P el))):=by
    simp only [E.den,p2,k3,AV.idx,Hn,AV.cz]
   rw [B5,k2];have DO:(ys.set kv.toNat (yk.dd k (xe.den c.ρ) (Aq P el))).length=ys.length:=List.length_set;have:=DC.row (w:=C7 c.w m0 (kv.toNat*sz+k) (a.eval y).cells.toList) (e:=el) (z:=sz) (l:=AY.of l) (g:=m0) (cap:=cap0) (ys:=ys.set kv.toNat (yk.dd k (xe.den c.ρ) (Aq P el))) (N1:=N1++(Cg c us++N2)) (ts:= []) (vs:= []) (xs:= []) (N:= []) p3 (by rw [AY.bb];exact p4) m2 (by rw [DO];exact p6) p7 (by rw [List.size_toArray,R4 _ _ _ (by rw [Ef,DY];omega),Array.length_toList];exact p8) (fun w hw=> ?_) ?_ ?_ .nil
   ·rw [DO]at this;simpa using this
   ·rcases List.mem_or_eq_of_mem_set hw with hw|rfl
    ·exact p9 w hw
    ·rw [hz,R4 _ _ _ (by rw [q3,FJ];exact hle)];exact FJ
   ·simp only [DO,List.toList_toArray];rw [R2 _ _ _ _ (by rw [Ef];omega) (by rw [DY];omega)];intro u hu;unfold setVs at hu;simp only [Ai]at hu;rcases hu with(hu|hu)|hu
    ·exact p10 u (List.mem_of_mem_take hu)
    ·exact q2 u hu
    ·exact p10 u (List.mem_of_mem_drop hu)
   ·simp only [DO,List.toList_toArray];rw [R2 _ _ _ _ (by rw [Ef];omega) (by rw [DY];omega),Ez,AY.bb];refine DC.setVs (p13.frame fun q hq=>A8 q (.inr (by simp [hq]))) ?_ ?_
    ·rw [Ef];exact p14.frame fun q hq=>A8 q (.inr (by simp [hq]))
    ·rw [Ef,G8];exact q1.frame fun q hq=>A8 q (.inl hq)
theorem zuF (h:Br P c n nx sl hp a sl0 hp0 o gs) {t:TypeId} {x y:Operand} (ho:o.op= .store t x y) {b g:Nat} {ix:E} {sz k:Nat} {s:SV} (BK: ¬ ∃e z g c d,Dp hp0 gs b=some (.row e z g c d)) (hx:BN sl0 gs x=some (.cx b g ix sz k)) (hy:BN sl0 gs y=some s)
  (he:Nu P hp0 gs t (.cx b g ix sz k) s=some e) (hc: ∀q∈e.bt,Cn.den c.ρ q):AB P o c n nx sl hp gs a e:=by
 have r1:=h.c6 hx (by simp [ho,Op.operands]);have r2:=h.c6 hy (by simp [ho,Op.operands]);simp only [Nu]at he;split at he
 ·rename_i hl;exact absurd ⟨_,_,_,_,_,hl⟩ BK
 ·rename_i el sz' l g' ep c0 hl;split at he
  ·rename_i hh;obtain⟨rfl,rfl,rfl,Bn,hle,FC,D8⟩:=hh;split at he
   ·rename_i xe us ck Cf;split at he
    ·cases he
    rename_i E9;simp only [Bool.or_eq_true,Bool.not_eq_true',not_or,Bool.not_eq_false,Bool.not_eq_true,List.contains_eq_mem,decide_eq_false_iff_not]at E9;simp only [Ah]at he;subst he;obtain⟨e1,e2,e3,e4,e5⟩:=h.eh b _ (CV hl h.gs);refine zvI h ho r1 r2 e1 e2 e3 Bn hle (by simpa using FC) D8 Cf hc (R8 E9.1) E9.2 fun kk kv TB=> ?_;generalize a.eval x=v at r1;cases r1 with
    |cx k1 k2 k3 k4 k5 _=>
     rw [k3]at TB;cases TB;obtain⟨d1,d2,⟨a9,d3,_⟩|⟨g9,cap9,C,ys,N,d3,d4,d5,d6,d7,d8,d9,d10,d11,d12⟩⟩:=e4.inv
     ·rw [k2]at d3;cases d3;omega
     ·rw [AY.bb]at d2 d12;obtain⟨N1,N2,N3,rfl,s1,s2,s3⟩:=d12.split (kv.toNat*sz+k) (P.cellsOf t);have Ce:=h.rel.gw.nodup b;simp only [GI.own,e5,List.append_nil,d5]at Ce;refine⟨g9,cap9,C,ys,N1,N3,d3,d4,d1,d2,d6,d7,d8,d9,d10,d11, ?_,fun q hq=> ?_,s1,s3⟩
      ·refine List.Sublist.nodup (List.Sublist.cons_cons _ ?_) Ce;rw [List.append_assoc];exact List.Sublist.append (List.Sublist.refl _) (List.sublist_append_right _ _)
      ·rw [d5];simp only [Ag,Ai]at hq ⊢;rcases hq with hq|hq|hq
       ·exact .inl hq
       ·exact .inr (.inl (.inl hq))
       ·exact .inr (.inr hq)
   ·cases he
  ·cases he
 ·rename_i el sz' l g' ep c0 i' o' u' hl;split at he
  ·rename_i hh;obtain⟨rfl,rfl,rfl,Bn,rfl,hib,hle,NX,D8,FC⟩:=hh;have D8:Aq P t=false:=by simpa using D8
   split at he
   ·rename_i xe us ck Cf;split at he
    ·cases he
    rename_i E9;simp only [Bool.or_eq_true,Bool.not_eq_true',not_or,Bool.not_eq_false,Bool.not_eq_true,List.contains_eq_mem,decide_eq_false_iff_not]at E9;simp only [Ah]at he;subst he;obtain⟨e1,e2,e3,⟨m,cap,C,ys,kk,kv,N1,N2,p1,p2,p3,p4,p5,p6,p7,p7',p8,p9,p10,p11,p12,p13,p14,p15,p16,p17,p18⟩,e5⟩:=h.eh b _ (CV hl h.gs);refine zvI h ho r1 r2 e1 e2 e3 Bn (by omega) (FC.imp id fun hh=>⟨hh,D8⟩) (.inr NX) (by rw [NX];exact Cf) hc (R8 E9.1) E9.2 fun kk' kv' TB=> ?_;rw [E.aw c.ρ _ _ hib,p3]at TB;cases TB;have Ce:=h.rel.gw.nodup b;simp only [GI.own,e5,List.append_nil,p14]at Ce;exact⟨m,cap,C,ys,N1,N2,p1,p2,p7,p7',p8,p9,p10,p11,p12,p13,Ce,fun q hq=>by rw [p14];exact hq,p17,by rw [NX];exact p18⟩
   ·cases he
  ·cases he
 ·cases he
end
section
variable {P:Program} {c:Cx} {n nx:Nat} {sl sl0:Nat→SV} {hp hp0:Nat→Option Aj} {a:Act} {o:Oper} {gs:Gd} {e:A5} {sg:BT} {nv:Nat}
theorem zyx {w:World} {ety sz:Nat} {p:Option Addr} {m r:Nat} {x:AV} {top N:List Nat} (h:CZ w ety sz (.slice p m r) x top N): ∃xs,x= .sl xs∧xs.length=m∧m≤r∧0<sz∧(∀y∈xs,y.cells.length=sz)∧
  ((xs= []∧m=0∧r=0∧top= []∧N= [])∨ ∃g C,p=some ⟨g,0,none⟩∧r≤maxLen∧w.heap[g]?=some (.cells C ety (0,0))∧C.size=r*sz∧top= [g]∧(∀u∈C.toList.take (m*sz),u.oneCell'=true)∧Rd w (C.toList.take (m*sz)) (AP xs) N):=by
 obtain⟨xs,rfl,h2,h3,⟨rfl,⟨a,hv⟩,rfl,rfl⟩|⟨g,cap',C,hv,h6,h7,h8,h9,rfl,G3,F4⟩⟩:=h
 ·cases hv;exact⟨[],rfl,rfl,Nat.le_refl _,h3,by simp, .inl ⟨rfl,rfl,rfl,rfl,rfl⟩⟩
 ·cases hv;exact⟨xs,rfl,rfl,h6,h3,h2, .inr ⟨g,C,rfl,h7,h8,h9,rfl,G3,F4⟩⟩
theorem zxH (h:Br P c n nx sl hp a sl0 hp0 o gs) {t:TypeId} {x:Operand} {lo hi mx:Option Operand} (ho:o.op= .slice t x lo hi mx) {s:SV} (hs:BN sl0 gs x=some s) {l' h' m':Option SV} (Bu:Kh (BN sl0 gs) lo=some l') (Mo:Kh (BN sl0 gs) hi=some h') (Ga:Kh (BN sl0 gs) mx=some m') (he:cN P hp0 gs t s l' h' m'=some e) (hc: ∀q∈e.bt,Cn.den c.ρ q):AB P o c n nx sl hp gs a e:=by
 have hm:x∈o.op.operands:=by simp [ho,Op.operands]
 have Og: ∀y,lo=some y→y∈o.op.operands:=fun y hy=>by simp [ho,Op.operands,hy]
 have Lb: ∀y,hi=some y→y∈o.op.operands:=fun y hy=>by simp [ho,Op.operands,hy]
 have hx:=h.c6 hs hm;have ival: ∀{x:E} {kk:IntKind} {k:Int} {v:Value},SR c [.e x] [v]→x.den c.ρ= .int kk k→v= .int kk k:=by
  intro x kk k v hr hx;cases hr with
  |e h1 _ _=>exact(GR h1 hx).1
 have ex:(execOp a.eval o).run P c.w=((Instr.sliceAt t (a.eval x) (lo.map a.eval) (hi.map a.eval) (mx.map a.eval)).run P c.w).andThen fun v w=> .ok (.value v) w:=by simp [execOp,ho]
 unfold cN at he;split at he
 ·rename_i el0 b g BA;have hu:=Ky BA;split at he
  ·cases he
  rename_i Bn;have Bn:Dv P el0=true:=by simpa using Bn
  have Oi:mx=none:=by
   rcases J8 Ga with⟨hh,_⟩|⟨_,_,_,_,hh⟩
   ·exact hh
   ·cases hh
  subst Oi;split at he
  ·rename_i el z g' c0 d hl;split at he
   ·cases he
   rename_i AO;simp only [not_or,Decidable.not_not,ne_eq]at AO;obtain⟨rfl,rfl,rfl⟩:=AO;obtain⟨q1,q2,N,q3,q4,q5,q6⟩:=h.eh b _ (CV hl h.gs);generalize hv:a.eval x=v at hx ex;cases hx with
   |own k1 k2 k3=>
    rename_i p m r;rw [k2]at q3;obtain⟨xs,CH,JU,TG,B7,AH,Bh⟩:=zyx q3;split at he
    ·rename_i l;simp only [Ah]at he;subst he;obtain⟨ka,ai,kb,bi,mm,d1,d2,d3,d4,d5,d6⟩:Cn.den c.ρ (.win c0 l (.len c0)):=BY hc;have Oh:mm=(m:Int):=by rw [CH]at d3;simp only [AV.len,AV.int.injEq,true_and]at d3;omega
     obtain⟨an,rfl⟩:=Int.eq_ofNat_of_zero_le d4;obtain⟨ol,Cc,hol⟩: ∃ol,lo=some ol∧BN sl0 [] ol=some (.e l):=by
      rcases J8 Bu with⟨_,hh⟩|⟨ol,sl',Oa,fG,fH⟩
      ·cases hh
      ·cases fH;exact⟨ol,Oa,fG⟩
     have Ob:hi=none:=by
      rcases J8 Mo with⟨hh,_⟩|⟨_,_,_,_,hh⟩
      ·exact hh
      ·cases hh
     subst Cc;subst Ob;have gA:=ival (h.c6 hol (Og _ rfl)) d1;have hle:an≤m:=by omega
     have AU:=nH (P:=P) (w:=c.w) (lo:=(some ol).map a.eval) (hi:=(none:Option Operand).map a.eval) hu Bn p m r an m (.inr ⟨ka,by rw [Option.map_some,gA]⟩) (.inl ⟨rfl,rfl⟩) hle (Nat.le_refl _) TG;have:=SR.wown (c:=c) (lo:=l) (sz:=P.cellsOf el) (q':=if r=an then p else p.map (·.add (an*P.cellsOf el))) (r:=r-an) k1 k2 d1 d4 (by omega) (fun An=>by
      rcases Bh with⟨_,Ea,_⟩|⟨g9,C,rfl,_⟩
      ·omega
      ·exact⟨g9,rfl,by rw [if_neg (by omega)];simp [Addr.add_lit],by simp⟩) .nil
     refine AB.pure h (v:=sliced p an m r (P.cellsOf el)) ?_ (by simpa [sliced]using this) rfl;rw [ex];show Result.andThen (Sem.run P (Instr.sliceAt t (.slice p m r) ((some ol).map a.eval) ((none:Option Operand).map a.eval) none) c.w) _=_;rw [AU];rfl
    ·rename_i hb;simp only [Ah]at he;subst he;obtain⟨ka,ai,kb,bi,mm,d1,d2,d3,d4,d5,d6⟩:Cn.den c.ρ (.win c0 (.int .i64 0) hb):=BY hc;have Oh:mm=(m:Int):=by rw [CH]at d3;simp only [AV.len,AV.int.injEq,true_and]at d3;omega
     simp only [E.den,AV.int.injEq]at d1;obtain⟨_,rfl⟩:=d1;obtain⟨bn,rfl⟩:=Int.eq_ofNat_of_zero_le d5;obtain⟨oh,Ob,hoh⟩: ∃oh,hi=some oh∧BN sl0 [] oh=some (.e hb):=by
      rcases J8 Mo with⟨_,hh⟩|⟨ol,sl',Oa,fG,fH⟩
      ·cases hh
      ·cases fH;exact⟨ol,Oa,fG⟩
     have Cc:lo=none:=by
      rcases J8 Bu with⟨hh,_⟩|⟨_,_,_,_,hh⟩
      ·exact hh
      ·cases hh
     subst Cc;subst Ob;have gA:=ival (h.c6 hoh (Lb _ rfl)) d2;have hle:bn≤m:=by omega
     have AU:=nH (P:=P) (w:=c.w) (lo:=(none:Option Operand).map a.eval) (hi:=(some oh).map a.eval) hu Bn p m r 0 bn (.inl ⟨rfl,rfl⟩) (.inr ⟨kb,by rw [Option.map_some,gA]⟩) (Nat.zero_le _) hle TG;have CL:sliced p 0 bn r (P.cellsOf el)= .slice p bn r:=by
      unfold sliced;rcases Bh with⟨_,_,rfl,_⟩|⟨g9,C,rfl,_⟩
      ·simp
      ·split<;>simp [Addr.add_lit]
     rw [CL]at AU;have Ft:(execOp a.eval o).run P c.w= .ok (.value (.slice p bn r)) c.w:=by rw [ex];show Result.andThen (Sem.run P (Instr.sliceAt t (.slice p m r) ((none:Option Operand).map a.eval) ((some oh).map a.eval) none) c.w) _=_;rw [AU];rfl
     have A2: ¬c.K b (g+1):=fun hk=>by have:=q2 _ hk;omega
     have Ar:=h.rel;have DN:=Ar.bd (gs:= []) (t:=b) (g:=g+1) (w':=c.w) (row:=(c.G b).top.head?) (top:=(c.G b).top) (O:=if d=true then(c.G b).O else []) (v:= .slice p bn r) (.inr (by omega)) A2 ⟨rfl,rfl,rfl,Nat.le_refl _,fun _ _ _=>rfl⟩ (fun g0 E7=> .inl (List.mem_of_mem_head? E7)) (by
       rcases Bh with⟨_,_,_,ht,_⟩|⟨g9,C,_,_,_,_,ht,_⟩
       ·exact .inl ht
       ·exact .inr ⟨g9,by rw [ht];rfl,ht⟩) (by split;exact .inr rfl;exact .inl rfl)
      (.row el (P.cellsOf el) (g+1) (.win c0 (.int .i64 0) hb) d) (by intros;simp) (E0 _) (fun GD=>by
       have Hl:(E.win c0 (.int .i64 0) hb).den c.ρ= .sl (xs.take bn):=by simp only [E.den,CH,d2,AV.win];simp
       obtain⟨N',BC,WU⟩: ∃N',CZ c.w el (P.cellsOf el) (.slice p bn r) (.sl (xs.take bn)) (c.G b).top N'∧ ∀q∈N',q∈N:=by
        rcases Bh with⟨rfl,Ea,rfl,ht,rfl⟩|⟨g9,C,rfl,Ec,W4,hC,ht,h1,Dz⟩
        ·have:bn=0:=by omega
         subst this;exact⟨[],⟨[],by simp,by simp,B7, .inl ⟨rfl,⟨p,rfl⟩,ht,rfl⟩⟩,by simp⟩
        ·obtain⟨N',dS,CT⟩:=Dz.piece 0 (bn*P.cellsOf el);have P3:(xs.take bn).length=bn:=by rw [List.length_take];omega
         have hmul:bn*P.cellsOf el≤m*P.cellsOf el:=Nat.mul_le_mul_right _ hle;have ef:=qS xs AH 0 bn (Nat.zero_le _) (by omega);simp only [Nat.zero_mul,Nat.sub_zero,List.drop_zero]at ef CT;rw [ef,List.take_take,Nat.min_eq_left hmul]at CT;refine⟨N',⟨xs.take bn,rfl,fun y hy=>AH y (List.mem_of_mem_take hy),B7, .inr ⟨g9,r,C,by rw [P3],by rw [P3];omega,Ec,W4,hC,ht, ?_, ?_⟩⟩,dS⟩
         ·rw [P3];intro u hu;refine h1 u ?_;have:C.toList.take (bn*P.cellsOf el)=(C.toList.take (m*P.cellsOf el)).take (bn*P.cellsOf el):=by rw [List.take_take,Nat.min_eq_left hmul]
          rw [this]at hu;exact List.mem_of_mem_take hu
         ·rw [P3];exact CT
       refine⟨.inr ⟨rfl,rfl⟩,fun g'' N7=> ?_,N', ?_,fun q hq=>GD.ok q (BC.na q hq) (q4 q (WU q hq)),fun hd=> ?_,fun hd=>by simp [Cx.bd,hd]⟩
       ·rcases N7 with N7|⟨_,rfl⟩
        ·have:=q2 _ N7;omega
        ·exact Nat.le_refl _
       ·have e1:(c.bd b (g+1) c.w (.slice p bn r) (c.G b).top (if d=true then(c.G b).O else [])).H b (g+1)= .slice p bn r:=by simp [Cx.bd]
        have e2:((c.bd b (g+1) c.w (.slice p bn r) (c.G b).top (if d=true then(c.G b).O else [])).G b).top=(c.G b).top:=by simp [Cx.bd]
        rw [e1,e2];show CZ c.w el (P.cellsOf el) _ ((E.win c0 (.int .i64 0) hb).den c.ρ) _ N';rw [Hl];exact BC
       ·obtain⟨u1,u2⟩:=q5 hd;have u1:N= []:=u1;subst u1;have NQ:N'= []:=List.eq_nil_iff_forall_not_mem.2 fun q hq=>by simpa using WU q hq
        subst NQ;exact⟨rfl,by simp only [Cx.bd,if_true,hd];exact u2⟩)
     intro next Q hk
     unfold Oper.wp;rw [Ft,Oper.upon_value];refine hk _ (c.bd b (g+1) c.w (.slice p bn r) (c.G b).top (if d=true then(c.G b).O else [])) ⟨rfl,rfl,rfl,rfl,fun u hu=> ?_⟩ (DN.put (SR.mkGd (c:=c.bd b (g+1) c.w (.slice p bn r) (c.G b).top (if d=true then(c.G b).O else [])) (s:= .own b (g+1)) (v:= .slice p bn r) (.own (show _∨_ from .inr ⟨rfl,rfl⟩) (by simp [Cx.bd]) .nil) []) o.dst);rcases hu with hu|rfl
     ·exact .inl hu
     ·exact .inl (h.rel.b8 _ _ k1)
    ·cases he
  ·cases he
 ·cases he
theorem zuE (z:Array Value) (hz:0<z.size) (k:Nat):(Builtin.zeroCells z k).toList=(List.replicate k z.toList).flatten:=by have:=ZM z hz k;rw [←this];rfl
theorem zB7 (h:Br P c n nx sl hp a sl0 hp0 o gs) {x:Operand} {tx:TypeId} {cl:Call} (ho:o.op= .call cl) (AH:cl.callee= .builtin .clear) (Dq:cl.args.toList= [x]) (Ev:cl.argTypes.toList= [tx]) {s:SV} (hs:BN sl0 gs x=some s) (he:rE P hp0 gs tx s=some e) (hc: ∀q∈e.bt,Cn.den c.ρ q):AB P o c n nx sl hp gs a e:=by
 have Ay:cl.args= #[x]:=by apply Array.ext';simp [Dq]
 have Hk:cl.argTypes= #[tx]:=by apply Array.ext';simp [Ev]
 have hm:x∈o.op.operands:=by simp [ho,Op.operands,Call.operands,AH,Ay]
 have hx:=h.c6 hs hm;unfold rE at he;split at he
 ·rename_i el0 b g l z BA;have hu:=Ky BA;split at he
  ·rename_i el z' g' c0 d hl;split at he
   ·cases he
   rename_i AO;simp only [not_or,Bool.not_eq_true',Bool.not_eq_false,Decidable.not_not,ne_eq]at AO;obtain⟨rfl,rfl,rfl,rfl,hz,AE⟩:=AO;have AE:Aq P el=true∨P.cellsOf el=1:=by simpa using AE
   obtain⟨i,zv,hi,F8,DR,B7,Cz,GA⟩:=LC hz;split at he
   ·rename_i q hq;split at he
    ·rename_i w hw;have hq:E1 zv=some q:=by simpa [hi,F8]using hq
     simp only [Ah]at he;subst he;obtain⟨c1,c2⟩:=o6 (w:=c.w) (ρ:=c.ρ) hq hw;have AS:=L0 h.hp (CV hl h.gs);obtain⟨q1,q2,N,q3,q4,q5,q6⟩:=h.rel.ents b _ AS;generalize hv:a.eval x=v at hx;cases hx with
     |wown k1 k2 k3 k4 k5 k6 k7=>
      rename_i p m r q' r' kk kv;rw [k2]at q3;obtain⟨xs,CH,JU,TG,iB,NW,Bh⟩:=zyx q3;have NY:(E.bin .sub (.len c0) l).den c.ρ≠ .undef:=hc (.dfd (.bin .sub (.len c0) l)) (by simp);have Mr:kk= .i64:=by
       simp only [E.den,CH,AV.len,k3,AV.bin]at NY;split at NY
       ·rename_i hh;rcases hh with hh|hh|hh
        ·exact hh.symm
        ·cases hh
        ·cases hh
       ·exact absurd rfl NY
      subst Mr;have B5:(E.bin .sub (.len c0) l).den c.ρ= .int .i64 ((m:Int)-kv):=by
       simp only [E.den,CH,AV.len,k3,AV.bin,true_or,if_true,BL,JU];congr 1;have hm63:(m:Int)≤9223372036854775807:=by
        rcases Bh with⟨_,h0,_⟩|⟨_,_,_,Ec,_⟩
        ·omega
        ·have:maxLen=9223372036854775807:=rfl;omega
       exact(Px .i64 _).2 ⟨by simp [IntKind.min,IntKind.signed,IntKind.bits];omega,by simp [IntKind.max,IntKind.signed,IntKind.bits];omega⟩
      have A2:(E.app (.win c0 (.int .i64 0) l) (.rep (.bin .sub (.len c0) l) w)).den c.ρ= .sl (xs.take kv.toNat++List.replicate (m-kv.toNat) (w.den c.ρ)):=by
       have e1:(E.win c0 (.int .i64 0) l).den c.ρ= .sl (xs.take kv.toNat):=by simp only [E.den,CH,k3,AV.win];simp
       have e2:(E.rep (.bin .sub (.len c0) l) w).den c.ρ= .sl (List.replicate (m-kv.toNat) (w.den c.ρ)):=by show AV.rep ((E.bin .sub (.len c0) l).den c.ρ) (w.den c.ρ)=_;rw [B5];simp only [AV.rep];congr 2;omega
       show AV.app _ _=_;rw [e1,e2];rfl
      have ex:(execOp a.eval o).run P c.w=((Builtin.clear_ #[tx] o.type #[.slice q' (m-kv.toNat) r']).run P c.w).andThen fun v w=> .ok (.value v) w:=by simp [execOp,ho,resolve,AH,Ay,Hk,invoke,builtin,hv]
      rcases Nat.eq_or_lt_of_le (show kv.toNat≤m by omega)with heq|An
      ·
       have BP:m-kv.toNat=0:=by omega
       have AU:(execOp a.eval o).run P c.w= .ok (.value (.tuple #[])) c.w:=by rw [ex,BP];cases q'<;>simp [Builtin.clear_,run_underlying hu]
       have A8:(E.app (.win c0 (.int .i64 0) l) (.rep (.bin .sub (.len c0) l) w)).den c.ρ=c0.den c.ρ:=by rw [A2,CH,BP];simp [List.take_of_length_le (show xs.length≤kv.toNat by omega)]
       intro next Q hk
       unfold Oper.wp;rw [AU,Oper.upon_value];have DN:Rel c n sl (Ba hp [(b, .row el (P.cellsOf el) g (.app (.win c0 (.int .i64 0) l) (.rep (.bin .sub (.len c0) l) w)) d)]) a:=by
        have DQ: ∀u,Ba hp [(b, .row el (P.cellsOf el) g (.app (.win c0 (.int .i64 0) l) (.rep (.bin .sub (.len c0) l) w)) d)] u=if u=b then some (.row el (P.cellsOf el) g (.app (.win c0 (.int .i64 0) l) (.rep (.bin .sub (.len c0) l) w)) d)else hp u:=fun u=>rfl;refine h.rel.change (fun u=>u=b) (DJ.refl c) h.rel.base (fun u hu=>⟨by rw [DQ,if_neg hu],rfl,rfl,fun _ hk=>hk⟩) (fun _ _ _ _=>rfl) (fun u hu=> ?_) h.rel.gw h.rel.b8 (fun u f hf=> ?_)
        ·subst hu;rw [DQ,if_pos rfl];refine⟨fun e' hr=> ?_,fun hn=>absurd rfl (hn _)⟩;simp only [Cs]at hr;subst hr;exact⟨q1,q2,N,by rw [A8,k2];exact q3,q4,q5,q6⟩
        ·rw [DQ]at hf;split at hf
         ·rename_i hu;subst hu;exact h.rel.b8 _ _ k1
         ·exact h.rel.cw u f hf
       exact hk _ c (MQ.refl _ _) (DN.put ((SR.undef .nil).mkGd []) o.dst)
      ·obtain⟨b9,tY,rfl,rfl⟩:=k6 (by omega);rcases Bh with⟨_,h0,_⟩|⟨g9,C,hp',Ec,W4,hC,ht,h1,Dz⟩
       ·omega
       rw [tY]at hp';cases hp';have DY:C.toList.length=r*P.cellsOf el:=by simpa using hC
       have tV:m*P.cellsOf el≤r*P.cellsOf el:=Nat.mul_le_mul_right _ TG;have tU:(m-kv.toNat)*P.cellsOf el+kv.toNat*P.cellsOf el=m*P.cellsOf el:=by rw [←Nat.add_mul];congr 1;omega
       have iR:=zuE zv.cells (by omega) (m-kv.toNat);generalize hZ:(List.replicate (m-kv.toNat) zv.cells.toList).flatten=Z at iR;have NS:Z.length=(m-kv.toNat)*P.cellsOf el:=by rw [←hZ,List.length_flatten];simp only [List.map_replicate,List.sum_replicate_nat,Array.length_toList,DR,Cz]
       have tM: ∀u∈Z,u.oneCell'=true:=fun u hu=>by rw [←hZ]at hu;obtain⟨L,hL,hu⟩:=List.mem_flatten.1 hu;rw [List.eq_of_mem_replicate hL]at hu;exact c2 u hu
       have Ik:=oL (P:=P) (off:=kv.toNat*P.cellsOf el) Z 0 c.w C W4 (by rw [NS,hC];omega) tM;have AU:(execOp a.eval o).run P c.w= .ok (.value (.tuple #[])) (C7 c.w b9 (kv.toNat*P.cellsOf el) Z):=by
        rw [ex];obtain⟨mm,Oh⟩: ∃mm,m-kv.toNat=mm+1:=⟨m-kv.toNat-1,by omega⟩
        have hzv:(zeroValue el).run P c.w= .ok zv c.w:=by simp [zeroValue,typeInfo,hi,F8]
        simp only [Nat.add_zero]at Ik;rw [Oh]at iR ⊢;simp [Builtin.clear_,run_underlying hu,hzv,iR,Ik]
       obtain⟨m1,m2,m3⟩:=Zr (off:=kv.toNat*P.cellsOf el) (vs:=Z) W4 (by rw [NS,hC];omega);have Of:(C.toList.take (m*P.cellsOf el)).length=m*P.cellsOf el:=by rw [List.length_take,DY];omega
       have ML:b9∈(c.G b).top:=by rw [ht];simp
       have Tc:Rd c.w Z (AP (List.replicate (m-kv.toNat) (w.den c.ρ))) []:=by rw [←hZ];exact jJ c1 _
       obtain⟨n1,n2,n3,hN,s1,s2⟩:=Rd.setVs (p:=kv.toNat*P.cellsOf el) Dz Tc (by rw [Of,NS];omega);have T1:(w.den c.ρ).cells.length=P.cellsOf el:=by have:=c1.len;rw [←this];simp [DR,Cz]
       have hYl:(AP (List.replicate (m-kv.toNat) (w.den c.ρ))).length=Z.length:=by rw [←Tc.len]
       have Ej:setVs (AP xs) (kv.toNat*P.cellsOf el) (AP (List.replicate (m-kv.toNat) (w.den c.ρ)))=AP (xs.take kv.toNat++List.replicate (m-kv.toNat) (w.den c.ρ)):=by
        have ef:=qS xs NW 0 kv.toNat (Nat.zero_le _) (by omega)
        simp only [Nat.zero_mul,Nat.sub_zero,List.drop_zero]at ef;unfold setVs;rw [ef,oR,hYl,NS,List.drop_eq_nil_of_le (by rw [Nn _ NW,JU];omega),List.append_nil]
       rw [Ej]at s1;have Cb: ∀q∈n1++ []++n3,q∈N:=fun q hq=>by rw [hN];simp at hq ⊢;rcases hq with hq|hq<;>simp [hq]
       have FG: ∀q,q<c.w.heap.size→c.ok q→(C7 c.w b9 (kv.toNat*P.cellsOf el) Z).heap[q]?=c.w.heap[q]?:=by intro q hq Az;refine m1.block q hq ?_;simp only [List.mem_singleton];rintro rfl;exact Az.1 ⟨b,ML⟩
       have DO:(xs.take kv.toNat++List.replicate (m-kv.toNat) (w.den c.ρ)).length=m:=by rw [As,List.length_take,List.length_replicate];omega
       have DN:=h.rel.ki (t:=b) (b:=b9) (w':=C7 c.w b9 (kv.toNat*P.cellsOf el) Z) (O:=if d=true then(c.G b).O else []) AS ML (by split;exact .inr rfl;exact .inl rfl) m1 m3
        (.row el (P.cellsOf el) g (.app (.win c0 (.int .i64 0) l) (.rep (.bin .sub (.len c0) l) w)) d) (by intros;simp) (fun GD=>by
         refine⟨q1,q2,n1++ []++n3, ?_,fun q hq=>GD.ok q (Dz.inb q (Cb q hq)) (q4 q (Cb q hq)),fun hd=> ?_,fun hd=>by simp [Cx.gi,hd]⟩
         ·show CZ (C7 c.w b9 (kv.toNat*P.cellsOf el) Z) el (P.cellsOf el) (c.H b g) ((E.app (.win c0 (.int .i64 0) l) (.rep (.bin .sub (.len c0) l) w)).den c.ρ) _ _;rw [A2,k2,tY];refine⟨_,rfl,fun y hy=> ?_,iB, .inr ⟨b9,r,_,by rw [DO],by rw [DO];exact TG,Ec,m2, ?_,by simpa [Cx.gi]using ht, ?_, ?_⟩⟩
          ·rcases Ai.1 hy with hy|hy
           ·exact NW y (List.mem_of_mem_take hy)
           ·rw [List.eq_of_mem_replicate hy];exact T1
          ·rw [List.size_toArray,R4 _ _ _ (by rw [NS,DY];omega),Array.length_toList];exact hC
          ·simp only [DO,List.toList_toArray];rw [R2 _ _ _ _ (by rw [NS];omega) (by rw [DY];omega)];intro u hu;unfold setVs at hu;simp only [Ai]at hu;rcases hu with(hu|hu)|hu
           ·exact h1 u (List.mem_of_mem_take hu)
           ·exact tM u hu
           ·exact h1 u (List.mem_of_mem_drop hu)
          ·simp only [DO,List.toList_toArray];rw [R2 _ _ _ _ (by rw [NS];omega) (by rw [DY];omega)];exact s1.frame fun q hq=>FG q (Dz.inb q (Cb q hq)) (q4 q (Cb q hq))
         ·obtain⟨u1,u2⟩:=q5 hd;have u1:N= []:=u1;subst u1;have NQ:n1++ []++n3= []:=List.eq_nil_iff_forall_not_mem.2 fun q hq=>by simpa using Cb q hq
          rw [NQ];exact⟨rfl,by simp only [Cx.gi,if_true,hd];exact u2⟩)
       intro next Q hk
       unfold Oper.wp;rw [AU,Oper.upon_value];exact hk _ (c.gi _ b _) ⟨rfl,rfl,rfl,rfl,fun t ht=> .inl ht⟩ (DN.put ((SR.undef .nil).mkGd []) o.dst)
    ·cases he
   ·cases he
  ·cases he
 ·cases he
end
section
variable {P:Program} {c:Cx} {n nx:Nat} {sl sl0:Nat→SV} {hp hp0:Nat→Option Aj} {a:Act} {o:Oper} {gs:Gd} {e:A5} {sg:BT} {nv:Nat}
theorem iY {w:World}: ∀(vs:List Value) {xs:List AV} {f:List Nat} (ts:List TypeId),Rd w vs xs f→ts.length≤vs.length→DE P w ts [] [] vs xs f [] []
 | [],xs,f,ts,h,hl=>by have:ts= []:=List.eq_nil_of_length_eq_zero (by simpa using hl);subst this;cases h;exact .nil
 |v::vs, [],f,ts,h,hl=>by have:=h.len;simp at this
 |v::vs,x::xs,f,ts,h,hl=>by
  obtain⟨f1,f2,rfl,h1,h2⟩:=h.cg;cases ts with
  |nil=>exact .free h1 (iY vs [] h2 (by simp))
  |cons t ts=>exact DE.cons (h:= []) ⟨h1,rfl⟩ (iY vs ts h2 (by simpa using hl))
theorem zIk (l:EL):EL.of (Sy.go l)=l:=by
 induction l using EL.rec (motive_1:=fun _=>True)with
 |nil=>rfl
 |cons e es _ ih=>simp [Sy.go,EL.of,ih]
 |_=>trivial
theorem zFz {w:World} {ts:List TypeId} {vs:List Value} {Bs:List AV} {f o:List Nat} (h:DU P w ts [] vs Bs f o):Bs= []:=by
 have key: ∀(ts:List TypeId),BG ts []=false:=by
  intro ts
  induction ts with
  |nil=>rfl
  |cons t ts ih=>simp only [BG,List.headD_nil,Bool.false_or,List.tail_nil];exact ih
 exact(oV h).2 (key ts)
theorem zDg (t:TypeId):GV P t []=false:=by simp [GV]
theorem zrm (h:Br P c n nx sl hp a sl0 hp0 o gs) {cl:Call} {fo:Operand} (ho:o.op= .call cl) (AH:cl.callee= .value fo) {y:E} {sf:SV} (hf:BN sl0 gs fo=some sf) (hsf: ∀v,SR c [sf] [v]→ ∃f,Rd c.w [v] [y.den c.ρ] f) {as_:List SV} (has:cl.args.toList.mapM (BN sl0 gs)=some as_) {t:TypeId}
  (he:Sy P hp0 gs nv t y as_=some e) (Bd: ∀c',e.call=some c'→ ∃r,c.ρ[nv]?=some r∧ID (Ck P sg) c'.fn ((EL.of c'.args).den c.ρ) c.ρ r):AB P o c n nx sl hp gs a e:=by
 have gD:fo∈o.op.operands:=by simp [ho,Op.operands,Call.operands,AH]
 have gC: ∀x∈cl.args.toList,x∈o.op.operands:=fun x hx=>by
  have:x∈cl.args:=by simpa using hx
  simp [ho,Op.operands,Call.operands,AH,this]
 have MC:=h.c6 hf gD;have Ay:=zys (a:=a) (fun x hx s hs=>h.c6 hs (gC x hx)) has;unfold Sy at he;split at he
 ·cases he
 split at he
 ·cases he
 rename_i es Ih;simp only [Ah]at he;subst he;obtain⟨r,hr,g,caps,hy,JL,Fc⟩:=Bd _ rfl;rw [zIk]at JL;obtain⟨f1,p1,p2⟩:=Sk h.eh h.gs A1 Ih Ay A1 (Nat.le_refl _);generalize fC:a.eval fo=fv at MC;obtain⟨_,k1⟩:=hsf _ MC;obtain⟨capv,f2,rfl,eQ⟩: ∃capv f2,fv= .func (.func g) #[] capv.toArray∧Rd c.w capv caps f2:=by
  rw [hy]at k1;cases k1 with
  |fn q1 _=>exact⟨_,_,rfl,q1⟩
 have Ov:SX P {cr:= [],res:= []} g (es.den c.ρ++caps) r:=by unfold Ck at JL;rw [if_neg (by omega)]at JL;simpa using JL
 obtain⟨fn,Hb,DZ,Ge,_,hlen,_,FF⟩:=Ov;have Dz:=p1.app eQ;have Ef:=Dz.len;have Bd:=FF c.w _ _ [] [] (iY _ (fn.params.toList++ []) Dz (by rw [Ef,hlen,List.append_nil,Array.length_toList];omega)) (by simp) (by simp) (by simp) (h.rel.nh (by simp));have ex:(execOp a.eval o).run P c.w= .ok (.enter g (cl.args.map a.eval++capv.toArray)) c.w:=by
  have hb:fn.body.isNone=false:=by simpa using DZ
  simp only [execOp,ho,resolve,AH,fC,Deferred.ofValue,Sem.run_bind,Sem.run_pure,Result.andThen_ok,invoke,callFunc,run_program,Hb];simp [Ge,hb]
 intro next Q hk
 unfold Oper.wp;rw [ex,Oper.upon_enter];have NT:cl.args.map a.eval++capv.toArray=((cl.args.toList.map a.eval)++capv).toArray:=by apply Array.ext';simp
 rw [NT];refine Bd.mono ?_;rintro e' w' ⟨v,rfl,⟨R,Bs,f1',o1,f2',o2,Ld,AS,Fm,Hf,TO,Tt⟩,Dr⟩;show next (a.put o.dst v) w'
 have NP:=zFz Fm;subst NP;simp only at Ld;subst Ld;have hv:Rd w' [v] [r] []:=by
  unfold Ks at AS;split at AS
  ·rename_i t' ht;unfold ES at AS;rw [if_neg (by rw [zDg];simp)]at AS;have:=zqb AS.1 Fc;subst this;exact AS.1
  ·obtain⟨vs,ys,_,rfl,_⟩:=AS;have:=Fc (.tup ys) (by simp [AV.cells]);simp [AV.scalar]at this
 obtain⟨Fp,_⟩:=h.rel.changes (w':=w') (recs:= []) (hs:= []) (gs:=gs) h.gs Dr (by simp) (by simp) (by simp) (by simp) (by simp) (by simp) (by simp);refine hk _ (c.du w' []) ⟨rfl,rfl,rfl,rfl,fun t ht=> ?_⟩ (Fp.put (SR.mkGd (.e (f:= []) ?_ (by simp) .nil) gs h.gs) o.dst)
 ·rcases ht with ht|⟨r,hr,_⟩
  ·exact .inl ht
  ·simp at hr
 ·show Rd w' [v] [(E.var nv).den c.ρ] [];simp only [E.den,hr,Option.getD_some];exact hv
theorem jO (JN: ∀f s,sg f=some s→f<1000000) (h:Br P c n nx sl hp a sl0 hp0 o gs) (he:BF P sg sl0 hp0 nv nx gs o=some e)
  (hc: ∀q∈e.bt,q.den c.ρ) (Bd: ∀cl,e.call=some cl→ ∃r,c.ρ[nv]?=some r∧ID (Ck P sg) cl.fn ((EL.of cl.args).den c.ρ) c.ρ r) (CK: ∀x,e.cd=some x→c.ρ[nv]?=some (.bool (KO a o))):AB P o c n nx sl hp gs a e:=by
 have K4:=he;cases AT:o.op with
 |move x=>simp only [BF,AT,Av]at he;obtain⟨s,hs,rfl⟩:=he;exact zxU h (.inl AT) hs
 |assign x=>simp only [BF,AT,Av]at he;obtain⟨s,hs,rfl⟩:=he;exact zxU h (.inr AT) hs
 |pick x y z=>exact zCJ h AT he hc
 |alloc t=>exact zBD h AT he hc
 |box t x=>exact zGC h AT he hc
 |build t parts=>exact zB8 h AT he hc
 |buildSlice t m parts=>
  simp only [BF,AT,Aw]at he;obtain⟨ps,MA,he⟩:=he;split at he
  ·exact zuW h AT MA he hc
  ·exact zrW h AT MA he hc
 |load t x=>exact zEw h AT he hc
 |nilCheck x=>exact zws h AT he hc
 |makeSlice t l m=>
  simp only [BF,AT,Aw]at he;obtain⟨s1,BI,s2,A4,he⟩:=he;split at he
  ·exact zxC h AT BI A4 he hc
  ·exact zCn h AT BI A4 he hc
 |slice t x lo hi mx=>
  simp only [BF,AT,Aw]at he;obtain⟨s,hs,l',Bu,h',Mo,m',Ga,he⟩:=he;split at he
  ·exact zxH h AT hs Bu Mo Ga he hc
  ·exact zzJ h AT hs Bu Mo Ga he hc
 |fieldAddr t x f=>exact zux h AT he hc
 |field t x f=>exact zBU h AT he hc
 |extract x i=>exact zyi h AT he hc
 |store t x y=>
  simp only [BF,AT,Aw]at he;obtain⟨p,hp',v,hv,he⟩:=he;cases p with
  |cm b k=>exact zxv h AT hp' hv he hc
  |cx b g i sz k=>
   by_cases BK: ∃e z g c d,Dp hp0 gs b=some (.row e z g c d)
   ·exact zxc h AT BK hp' hv he hc
   ·exact zuF h AT BK hp' hv he hc
  |_=>simp [Nu]at he
 |binOp op t x y ty=>
  cases hu:P.underlying t with
  |none=>simp only [BF,AT,Aw]at he;obtain⟨_,_,_,_,he⟩:=he;simp [SU,hu]at he
  |some d=>
   by_cases TV: ∃fs,d= .struct fs
   ·obtain⟨fs,rfl⟩:=TV;exact zFO h AT hu he hc
   ·have My: ∀fs,P.underlying t≠some (.struct fs):=fun fs hh=>TV ⟨fs,by rw [hu]at hh;cases hh;rfl⟩;cases hq:e.cd with
    |none=>exact zFn h AT My he hq hc
    |some x'=>
     have Gj:=CK x' hq;simp only [BF,AT,Aw]at he;obtain⟨s1,BI,s2,A4,he⟩:=he;have r1:=h.c6 BI (by simp [AT,Op.operands]);have r2:=h.c6 A4 (by simp [AT,Op.operands]);unfold SU at he;split at he
     ·rename_i el FI;have CL: ∀xq,Bq hp0 gs A1 s1=some xq→Cn.den c.ρ (.dfd (.len xq))→ ∃p q r,a.eval x= .slice p q r:=by
       intro xq JV hd;obtain⟨f,q1,_⟩:=h.ku BI (by simp [AT,Op.operands]) JV;have hd:(xq.den c.ρ).len≠ .undef:=hd;cases Bv:xq.den c.ρ<;>simp only [Bv,AV.len,ne_eq,not_true_eq_false]at hd;rename_i xs;have hl:(xq.den c.ρ).len= .int .i64 (xs.length:Int):=by rw [Bv];rfl
       rcases Sh q1 hl with⟨p,q,hv,Ea⟩|⟨b,o',k,q,hv,Ea⟩
       ·exact⟨_,_,_,hv⟩
       ·exact⟨_,_,_,hv⟩
      split at he
      ·simp at he;subst he;cases hq
      ·simp at he;subst he;cases hq
      ·obtain⟨xq,JV,rfl⟩:=Av.1 he;obtain⟨p,q,r,hv⟩:=CL xq JV (hc _ (by simp));exact zyt h AT FI hv r2 (.inl rfl) Gj _
      ·obtain⟨xq,JV,rfl⟩:=Av.1 he;obtain⟨p,q,r,hv⟩:=CL xq JV (hc _ (by simp));exact zyt h AT FI hv r2 (.inr rfl) Gj _
      ·cases he
     ·split at he
      ·simp at he;subst he;cases hq
      ·cases he
     ·split at he
      ·simp at he;subst he;cases hq
      ·cases he
     ·split at he
      ·simp at he;subst he;cases hq
      ·cases he
     ·rename_i fs FI;exact absurd FI (My fs)
     ·cases he
 |unOp u t x=>
  cases u with
  |not=>exact zFT h AT he hc
  |neg=>exact zGE h AT he hc
  |_=>simp [BF,AT]at he
 |convert src dst x=>
  have Mi:=he;simp only [BF,AT,Aw]at Mi;obtain⟨s,_,Mi⟩:=Mi;unfold Wl at Mi;split at Mi
  ·rename_i k0 k h1 h2;exact zye h AT h1 h2 he hc
  ·rename_i h1 h2;exact zxX h AT h1 h2 he hc
  ·rename_i el h1 h2;exact zxo h AT h1 h2 he hc
  ·cases Mi
 |makeFunc fr fst caps=>
  cases fr with
  |func f=>exact zxt h AT he
  |_=>simp [BF,AT]at he
 |indexAddr t x i=>refine zuz h AT (fun hu=> ?_) he hc;simp only [BF,AT,Aw]at he;obtain⟨_,_,_,_,he⟩:=he;simp [XY,hu]at he
 |index t x i=>
  refine zyd h AT ?_ he hc;simp only [BF,AT,Aw]at he;obtain⟨_,_,_,_,he⟩:=he;split at he
  ·rename_i A0;unfold XY at A0;split at A0
   ·assumption
   ·cases A0
  ·cases he
 |call cl=>
  simp only [BF,AT]at he;cases AH:cl.callee with
  |invoke r m=>rw [AH]at he;simp at he
  |value f=>
   rw [AH]at he;simp only [Aw]at he;obtain⟨s,hs,as_,has,he⟩:=he;cases s with
   |fn g caps=>
    have he:Wq P sg hp0 gs nv nx g (as_++caps.toList)=some e:=he;refine zDl h AT AH hs has ?_ he Bd;unfold Wq at he;split at he
    ·rename_i fn sg' Hb hh;exact JN g sg' hh
    ·cases he
   |e y=>exact zrm h AT AH hs (fun v hv=>by cases hv with|e k1 _ _=>exact⟨_,k1⟩) has he Bd
   |lent i=>exact zrm h AT AH hs (fun v hv=>by
     cases hv with
     |lent g1 _=>obtain⟨f,p1,p2⟩:=h.rel.base.lo _ _ g1;exact⟨f,p1.frame fun b hb=>h.rel.base.block b (p1.inb b hb) (p2 b hb)⟩) has he Bd
   |_=>simp at he
  |builtin b=>
   rw [AH]at he;cases b with
   |len=>
    simp only at he;split at he
    ·rename_i x tx Dq Ev;exact zFA h AT AH Dq Ev K4 hc
    ·cases he
   |append=>
    simp only at he;split at he
    ·rename_i x y tx ty Dq Ev;simp only [Aw]at he;obtain⟨s1,BI,s2,A4,he⟩:=he;split at he
     ·exact zug h AT AH Dq Ev BI A4 he hc
     ·exact zxO h AT AH Dq Ev BI A4 he hc
    ·cases he
   |clear=>
    simp only at he;split at he
    ·rename_i x tx Dq Ev;simp only [Aw]at he;obtain⟨s,hs,he⟩:=he;exact zB7 h AT AH Dq Ev hs he hc
    ·cases he
   |max=>
    simp only at he;split at he
    ·rename_i x y Dq;simp only [Aw]at he;obtain⟨s1,BI,s2,A4,he⟩:=he;exact ztC h AT (.inl ⟨rfl,AH⟩) Dq BI A4 he hc
    ·cases he
   |min=>
    simp only at he;split at he
    ·rename_i x y Dq;simp only [Aw]at he;obtain⟨s1,BI,s2,A4,he⟩:=he;exact ztC h AT (.inr ⟨rfl,AH⟩) Dq BI A4 he hc
    ·cases he
   |_=>simp at he
 |_=>simp [BF,AT]at he
end
section
variable {P:Program} {c:Cx} {n nx:Nat} {sl sl0:Nat→SV} {hp hp0:Nat→Option Aj} {a:Act} {o:Oper} {gs:Gd} {e:A5} {sg:BT} {nv:Nat}
theorem Rel.j1 (h:Rel c n sl hp a) {sl':Nat→SV} (hs: ∀i,sl' i=sl i∨SR c [sl' i] [a.tmps.getD i undef]):Rel c n sl' hp a:=
 ⟨h.defers,h.size,h.base,fun i=>by
  rcases hs i with hh|hh
  ·rw [hh];exact h.c8 i
  ·exact hh,h.ents,h.off,h.gw,h.b8,h.cw⟩
theorem VF {u:Nat}: ∀{l:List Operand} {t T v m:Nat} {p:E × Nat × Nat} {s:SV},L1 sl0 u l=some (t,T,v,m,p,s)→Operand.tmp t∈l∧((∃y,sl0 t= .via T v m (some p) y∧s= .own u 0)∨ ∃y k z q,sl0 t= .vptr T v m (some p) y k z q∧s= .cx u 0 k z q)
 | [],_,_,_,_,_,_,h=>by simp [L1]at h
 |x::l,t,T,v,m,p,s,h=>by
  cases x with
  |tmp i=>
   simp only [L1]at h;split at h
   ·rename_i hs;simp only [Ah,Prod.mk.injEq]at h;obtain⟨rfl,rfl,rfl,rfl,rfl,rfl⟩:=h;exact⟨by simp, .inl ⟨_,hs,rfl⟩⟩
   ·rename_i hs;simp only [Ah,Prod.mk.injEq]at h;obtain⟨rfl,rfl,rfl,rfl,rfl,rfl⟩:=h;exact⟨by simp, .inr ⟨_,_,_,_,hs,rfl⟩⟩
   ·obtain⟨h1,h2⟩:=VF h;exact⟨by simp [h1],h2⟩
  |const v9=>simp only [L1]at h;obtain⟨h1,h2⟩:=VF h;exact⟨by simp [h1],h2⟩
  |func f=>simp only [L1]at h;obtain⟨h1,h2⟩:=VF h;exact⟨by simp [h1],h2⟩
  |global g=>simp only [L1]at h;obtain⟨h1,h2⟩:=VF h;exact⟨by simp [h1],h2⟩
theorem Rel.split (h:Rel c n sl hp a) {T v m u:Nat} {p:E × Nat × Nat} {hl inn:Aj} (hs:Wi hp0 T v m u p=some (hl,inn)) (BP: ∀t e,hp0 t=some e→hp t=some e) (hu: ¬c.U u) {vv:Value} (JH:c.E T=m→IG c T v (some p) vv):
  ∃recs c1,c1=c.du c.w recs∧Rel c1 n sl (Ba hp [(T,hl),(u,inn)]) a∧DJ c c1∧c1.K u 0∧c1.H u 0=vv∧(∃q n r,vv= .slice q n r∧(q=none∨n=0∨ ∃g,q=some ⟨g,0,none⟩))∧(∀t,c1.U t→c.U t∨t=u)∧c.K T v∧c.E T=m∧c1.E T=m+1∧T≠u:=by
 have eh:EH c hp0:=fun t e hr=>h.ents t e (L0 BP hr);obtain⟨pi,z,po⟩:=p;unfold Wi at hs;split at hs
 ·rename_i e z0 l g ep c0 hlk;split at hs
  ·rename_i AO;obtain⟨rfl,rfl,uA⟩:=AO;simp only at uA;subst uA;split at hs
   ·rename_i e2 z2 l2 Cc;simp only [Ah,Prod.mk.injEq]at hs;obtain⟨rfl,rfl⟩:=hs;simp only at Cc;obtain⟨q1,q2,q3,q4,q5⟩:=eh T _ (CV hlk (E0 _));obtain⟨b,n9,cap,C,ty,fz,kk,k,p1,p2,p3,p4,p5,p6,p7⟩:=JH q3;obtain⟨d1,d2,⟨a9,d3,_⟩|⟨g9,cap9,C9,ys,N,d3,d4,d5,d6,d7,d8,d9,d10,d11,d12⟩⟩:=q4.inv
    ·rw [p1]at d3;cases d3;omega
    ·rw [p1]at d3;cases d3;rw [d6]at p3;cases p3;rw [AY.bb]at d2 d12;have hoz:po<z:=by
      rcases Nat.lt_or_ge po l.length with hh|hh
      ·omega
      ·rw [List.getElem?_eq_none hh]at Cc;cases Cc
     have GC:k.toNat<ys.length:=by omega
     have hmul:(k.toNat+1)*z≤ys.length*z:=Nat.mul_le_mul_right _ (by omega);have Gc:ys.length*z≤cap*z:=Nat.mul_le_mul_right _ d7;rw [Nat.add_mul]at hmul;have DY:C.toList.length=cap*z:=by simpa using d9
     have An:k.toNat*z+po<C.size:=by omega
     obtain⟨N1,N2,N3,rfl,s1,s2,s3⟩:=d12.split (k.toNat*z+po) 1;have Ct:((C.toList.take (ys.length*z)).drop (k.toNat*z+po)).take 1= [vv]:=by have hv:C[k.toNat*z+po]?=some vv:=p7;rw [List.drop_take,List.take_take,Nat.min_eq_left (by omega),List.drop_eq_getElem_cons (by simpa using An),List.take_succ_cons,List.take_zero];rw [Array.getElem?_eq_getElem An]at hv;simpa using hv
     have Hn:=NC GC;generalize OF:(AV.sl ys).nth k.toNat=yk at Hn;have FJ:=d10 yk (List.mem_of_getElem? Hn);have Ej:((AP ys).drop (k.toNat*z+po)).take 1= [(E.fld (.idx c0 pi) po 1 false).den c.ρ]:=by rw [V0 ys d10 _ _ Hn po 1 (by omega),List.drop_eq_getElem_cons (by omega),List.take_succ_cons,List.take_zero];simp only [E.den,d4,p4,AV.idx,OF,AV.fld];simp [show po<yk.cells.length by omega]
     have Bn:((Di ys.length l).drop (k.toNat*z+po)).take 1= [.row e2 z2 l2]:=by
      rw [←d2,VP l _ _ _ _ GC (by omega)];have JD:po<l.length:=by omega
      rw [List.drop_eq_getElem_cons JD,List.take_succ_cons,List.take_zero];rw [List.getElem?_eq_getElem JD]at Cc;simpa using Cc
     rw [Ct,Ej,Bn]at s2;have Gz:=h.b8 _ _ q1;have Jp:T≠u:=fun hh=>hu (hh▸Gz);have Ce:=h.gw.nodup T;simp only [GI.own,q5,List.append_nil,d5]at Ce;have AS: ∀r∈([⟨T,none,b::(N1++N3), .hol e z l g (ep+1) c0 pi po u⟩,⟨u,some vv,N2,if l2.toList.all DT.bw then .row e2 z2 0 (.fld (.idx c0 pi) po 1 false) true else .deep e2 z2 l2.toList 0 0 (.fld (.idx c0 pi) po 1 false)⟩]:List AW),r.new.isSome=true→ ¬c.U r.tag:=fun r hr hs=>by
      simp only [Ag,List.not_mem_nil,or_false]at hr;rcases hr with rfl|rfl
      ·cases hs
      ·exact hu
     refine⟨[⟨T,none,b::(N1++N3), .hol e z l g (ep+1) c0 pi po u⟩,⟨u,some vv,N2,if l2.toList.all DT.bw then .row e2 z2 0 (.fld (.idx c0 pi) po 1 false) true else .deep e2 z2 l2.toList 0 0 (.fld (.idx c0 pi) po 1 false)⟩],_,rfl, ?_⟩;generalize Bk:([⟨T,none,b::(N1++N3), .hol e z l g (ep+1) c0 pi po u⟩,⟨u,some vv,N2,if l2.toList.all DT.bw then .row e2 z2 0 (.fld (.idx c0 pi) po 1 false) true else .deep e2 z2 l2.toList 0 0 (.fld (.idx c0 pi) po 1 false)⟩]:List AW)=recs at AS;have hn:(recs.map AW.tag).Nodup:=by rw [←Bk];simp [Jp]
     have aft:=Cx.dv (w':=c.w) h.b8 hn AS;have Eb:(⟨T,none,b::(N1++N3), .hol e z l g (ep+1) c0 pi po u⟩:AW)∈recs:=by rw [←Bk];simp
     have DP:(⟨u,some vv,N2,if l2.toList.all DT.bw then .row e2 z2 0 (.fld (.idx c0 pi) po 1 false) true else .deep e2 z2 l2.toList 0 0 (.fld (.idx c0 pi) po 1 false)⟩:AW)∈recs:=by rw [←Bk];simp
     obtain⟨k1,k2,k3⟩:=aft.new _ DP vv rfl;have kgT:=aft.G _ Eb;have keT:=aft.iz _ Eb rfl;have kgu:=aft.G _ DP;have keu:=aft.kt _ DP rfl;obtain⟨kT1,kT2⟩:=aft.K T g q1;simp only at k1 k2 k3 kgT keT kgu keu;have Mz: ∀q,q∈b::(N1++N3)∨q∈N2→q∈(c.G T).top:=fun q hq=>by rw [d5];simp only [Ag,Ai]at hq ⊢;rcases hq with(hq|hq|hq)|hq<;>simp [hq]
     obtain⟨Ar,BU⟩:=h.changes (recs:=recs) (gs:= []) (hs:=(c.G T).top) (E0 _) (Mod.refl _ c.w) hn AS (fun q hq=>⟨_,Eb,hq⟩) (by
       rw [←Bk];simp only [List.flatMap_cons,List.flatMap_nil,List.append_nil];rw [List.nodup_cons]at Ce;obtain⟨n1,n2⟩:=Ce;rw [List.append_assoc,List.nodup_append,List.nodup_append]at n2;obtain⟨a1,⟨a2,a3,a4⟩,a5⟩:=n2;rw [List.cons_append,List.nodup_cons,List.nodup_append,List.nodup_append];refine⟨fun hh=>n1 ?_,⟨a1,a3,fun x hx y hy=>a5 x hx y (Ai.2 (.inr hy))⟩,a2,fun x hx y hy Hm=> ?_⟩
       ·simp only [Ai]at hh ⊢;rcases hh with(hh|hh)|hh<;>simp [hh]
       ·rcases Ai.1 hx with hx|hx
        ·exact a5 x hx y (Ai.2 (.inl hy)) Hm
        ·exact a4 y hy x hx Hm.symm)
      (fun r hr q hq=>by
       have:q∈(c.G T).top:=by
        rw [←Bk]at hr;simp only [Ag,List.not_mem_nil,or_false]at hr;rcases hr with rfl|rfl
        ·exact Mz q (.inl hq)
        ·exact Mz q (.inr hq)
       exact⟨.inl this,h.gw.inb T q (by simp [GI.own,this])⟩)
      (fun r hr=>by
       rw [←Bk]at hr;simp only [Ag,List.not_mem_nil,or_false]at hr;rcases hr with rfl|rfl
       ·intros;simp
       ·intros;simp only;split<;>simp)
      (fun hk r hr=>by
       rw [←Bk]at hr;simp only [Ag,List.not_mem_nil,or_false]at hr;rcases hr with rfl|rfl
       ·refine⟨kT1,fun g' CA=>q2 g' (aft.old T Gz g' CA),by rw [keT,q3], ?_,by rw [kgT]⟩;rw [kT2,p1,kgT];exact⟨b,cap,C,ys,kk,k,N1,N3,rfl,d4,p4,p5,p6,hoz,d1,d2,d6,d7,d8,d9,d10,d11,rfl,k1,by rw [k3];exact p7,s1,s3⟩
       ·simp only;split
        ·rename_i hf;have BC:=s2.nf hf;refine⟨k1,k2, [], ?_,by simp,fun _=>⟨rfl,by rw [kgu]⟩,fun _=>by rw [kgu]⟩;rw [k3,kgu];exact BC
        ·refine⟨k1,k2,keu, ?_,by rw [kgu]⟩;rw [k3,kgu,AY.cy];exact s2)
     refine⟨?_,BU,k1,k3, ?_,fun t ht=> ?_,q1,q3,by rw [keT,q3],Jp⟩
     ·have:(recs.map fun r=>(r.tag,CP [] r.bq))= [(T, .hol e z l g (ep+1) c0 pi po u),(u,if l2.toList.all DT.bw then .row e2 z2 0 (.fld (.idx c0 pi) po 1 false) true else .deep e2 z2 l2.toList 0 0 (.fld (.idx c0 pi) po 1 false))]:=by
       rw [←Bk];simp [CP]
      rw [this]at Ar;exact Ar
     ·obtain⟨_,_,⟨a9,h1,_⟩|⟨g9,cap9,C9,ys9,N9,h1,_⟩⟩:=s2.inv
      ·exact⟨a9,0,0,h1, .inr (.inl rfl)⟩
      ·exact⟨_,_,_,h1, .inr (.inr ⟨g9,rfl⟩)⟩
     ·rcases ht with ht|⟨r,hr,rfl⟩
      ·exact .inl ht
      ·rw [←Bk]at hr;simp only [Ag,List.not_mem_nil,or_false]at hr;rcases hr with rfl|rfl
       ·exact .inl Gz
       ·exact .inr rfl
   ·cases hs
  ·cases hs
 ·cases hs
theorem Rel.close (h:Rel c n sl hp a) {T u:Nat} {hl r d:Aj} (hT:hp T=some hl) (hu:hp u=some r) (hr:Wm P hl r=some d) (Lj: ∃q1 q2 q3 q4 q5 q6 q7 q8,hl= .hol q1 q2 q3 q4 q5 q6 q7 q8 u) (Jp:T≠u):
  ∃recs c1,c1=c.du c.w recs∧Rel c1 n sl (Ba hp [(T,d),(u, .dead)]) a∧(∀t,c1.U t→c.U t)∧c.E T<c1.E T:=by
 obtain⟨e,z,l,g,ep,c0,i,o',rfl⟩:=Lj;have key: ∀(e2 z2:Nat) (l2:AY) (x:E),l[o']?=some (.row e2 z2 l2)→DC c.w [.row e2 z2 l2] [c.H u 0] [x.den c.ρ] (c.G u).top→c.U u→d= .deep e z l g (ep+1) (.set c0 i (.put (.idx c0 i) o' x (Aq P e)))→(Aq P e=false→z=1)→
   ∃recs c1,c1=c.du c.w recs∧Rel c1 n sl (Ba hp [(T,d),(u, .dead)]) a∧(∀t,c1.U t→c.U t)∧c.E T<c1.E T:=by
  rintro e2 z2 l2 x Cc tR WX rfl Ib;obtain⟨q1,q2,q3,⟨b,cap,C,ys,kk,k,N1,N2,p1,p2,p3,p4,p5,p6,p7,p7',p8,p9,p10,p11,p12,p13,p14,p15,p16,p17,p18⟩,q5⟩:=h.ents T _ (by rw [hT];rfl);have Gz:=h.b8 _ _ q1;have GC:k.toNat<ys.length:=by omega
  have hmul:(k.toNat+1)*z≤ys.length*z:=Nat.mul_le_mul_right _ (by omega);have Gc:ys.length*z≤cap*z:=Nat.mul_le_mul_right _ p9;rw [Nat.add_mul]at hmul;have DY:C.toList.length=cap*z:=by simpa using p11
  have An:k.toNat*z+o'<C.size:=by omega
  have Hn:=NC GC;generalize OF:(AV.sl ys).nth k.toNat=yk at Hn;have FJ:=p12 yk (List.mem_of_getElem? Hn);obtain⟨zs,DR⟩: ∃zs,x.den c.ρ= .sl zs:=by
   obtain⟨_,_,⟨_,_,hx,_⟩|⟨_,_,_,_,_,_,hx,_⟩⟩:=tR.inv
   ·exact⟨_,hx⟩
   ·exact⟨_,hx⟩
  have Io:(x.den c.ρ).cells= [x.den c.ρ]:=by rw [DR];rfl
  have hz:(yk.dd o' (x.den c.ρ) (Aq P e)).cells=setVs yk.cells o' (x.den c.ρ).cells:=by
   refine pT ?_ (fun hg=> ?_)
   ·cases hg:Aq P e with
    |true=>exact .inr rfl
    |false=>left;rw [DR];intro cs hh;cases hh
   ·have:=Ib hg;exact⟨by omega,by omega,Io⟩
  have Ez:AP (ys.set k.toNat (yk.dd o' (x.den c.ρ) (Aq P e)))=setVs (AP ys) (k.toNat*z+o') (x.den c.ρ).cells:=
   bN ys _ _ yk o' _ p12 Hn (by rw [Io];simp;omega) hz
  have G8:((Di ys.length l).drop (k.toNat*z+o')).take 1= [.row e2 z2 l2]:=by
   rw [←p7',VP l _ _ _ _ GC (by omega)];have JD:o'<l.length:=by omega
   rw [List.drop_eq_getElem_cons JD,List.take_succ_cons,List.take_zero];rw [List.getElem?_eq_getElem JD]at Cc;simpa using Cc
  have TU:setVs (C.toList.take (ys.length*z)) (k.toNat*z+o') [c.H u 0]=C.toList.take (ys.length*z):=by
   apply List.ext_getElem?;intro j;have hl3:(C.toList.take (ys.length*z)).length=ys.length*z:=by rw [List.length_take,DY];exact Nat.min_eq_left Gc
   rw [R7 _ _ _ (by rw [hl3];show k.toNat*z+o'+1≤_;omega)];split
   ·rename_i hj;simp only [Ap,List.length_nil]at hj;have:j=k.toNat*z+o':=by omega
    subst this;rw [Nat.sub_self,List.getElem?_take,if_pos (by omega)];have:=p16;simpa using this.symm
   ·rfl
  have A2:DC c.w [.row e z (AY.of l)] [c.H T g] [(E.set c0 i (.put (.idx c0 i) o' x (Aq P e))).den c.ρ] (b::(N1++((c.G u).top++N2))):=by
   have B5:(E.set c0 i (.put (.idx c0 i) o' x (Aq P e))).den c.ρ= .sl (ys.set k.toNat (yk.dd o' (x.den c.ρ) (Aq P e))):=by simp only [E.den,p2,p3,AV.idx,OF,AV.cz]
   rw [B5,p1];have DO:(ys.set k.toNat (yk.dd o' (x.den c.ρ) (Aq P e))).length=ys.length:=List.length_set;have:=DC.row (w:=c.w) (e:=e) (z:=z) (l:=AY.of l) (g:=b) (cap:=cap) (C:=C) (ys:=ys.set k.toNat (yk.dd o' (x.den c.ρ) (Aq P e))) (N1:=N1++((c.G u).top++N2)) (ts:= []) (vs:= []) (xs:= []) (N:= []) p7 (by rw [AY.bb];exact p7') p8 (by rw [DO];exact p9) p10 p11 (fun w hw=>by
     rcases List.mem_or_eq_of_mem_set hw with hw|rfl
     ·exact p12 w hw
     ·rw [hz,R4 _ _ _ (by rw [Io,FJ];simp;omega)];exact FJ) (by rw [DO];exact p13) (by
     rw [DO,AY.bb,Ez,←TU];refine DC.setVs p17 ?_ ?_
     ·exact p18
     ·rw [AF,G8,Io];exact tR) .nil
   rw [DO]at this;simpa using this
  have hTK:=q1;have AS: ∀r∈([⟨T,none,b::(N1++((c.G u).top++N2)), .deep e z l g (ep+1) (.set c0 i (.put (.idx c0 i) o' x (Aq P e)))⟩,⟨u,none, [], .dead⟩]:List AW),r.new.isSome=true→ ¬c.U r.tag:=fun r hr hs=>by simp only [Ag,List.not_mem_nil,or_false]at hr;rcases hr with rfl|rfl<;>cases hs
  refine⟨[⟨T,none,b::(N1++((c.G u).top++N2)), .deep e z l g (ep+1) (.set c0 i (.put (.idx c0 i) o' x (Aq P e)))⟩,⟨u,none, [], .dead⟩],_,rfl, ?_⟩;generalize Bk:([⟨T,none,b::(N1++((c.G u).top++N2)), .deep e z l g (ep+1) (.set c0 i (.put (.idx c0 i) o' x (Aq P e)))⟩,⟨u,none, [], .dead⟩]:List AW)=recs at AS;have hn:(recs.map AW.tag).Nodup:=by rw [←Bk];simp [Jp]
  have aft:=Cx.dv (w':=c.w) h.b8 hn AS;have Eb:(⟨T,none,b::(N1++((c.G u).top++N2)), .deep e z l g (ep+1) (.set c0 i (.put (.idx c0 i) o' x (Aq P e)))⟩:AW)∈recs:=by rw [←Bk];simp
  have DP:(⟨u,none, [], .dead⟩:AW)∈recs:=by rw [←Bk];simp
  have kgT:=aft.G _ Eb;have keT:=aft.iz _ Eb rfl;have kgu:=aft.G _ DP;obtain⟨kT1,kT2⟩:=aft.K T g q1;simp only at kgT keT kgu;have Cb: ∀q,q∈b::(N1++((c.G u).top++N2))→q∈(c.G T).top∨q∈(c.G u).top:=fun q hq=>by rw [p14];simp only [Ag,Ai]at hq ⊢;rcases hq with hq|hq|hq|hq<;>simp [hq]
  have Ok:=h.gw.nodup T;simp only [GI.own,q5,List.append_nil,p14]at Ok;have gK:(c.G u).top.Nodup:=by have:=h.gw.nodup u;simp only [GI.own]at this;exact(List.nodup_append.1 this).1
  have F7: ∀q∈(c.G u).top,q∉b::(N1++N2):=fun q hq hh=>h.gw.ct u T (Ne.symm Jp) q (by simp [GI.own,hq]) (by rw [←p14]at hh;simp [GI.own,hh]);obtain⟨Ar,BU⟩:=h.changes (recs:=recs) (gs:= []) (hs:=(c.G T).top++(c.G u).top) (E0 _) (Mod.refl _ c.w) hn AS (fun q hq=>by
    rcases Ai.1 hq with hq|hq
    ·exact⟨_,Eb,hq⟩
    ·exact⟨_,DP,hq⟩) (by
    rw [←Bk];simp only [List.flatMap_cons,List.flatMap_nil,List.append_nil];rw [List.nodup_cons,List.nodup_append]at Ok;obtain⟨n1,a1,a2,a3⟩:=Ok;rw [List.nodup_cons,List.nodup_append,List.nodup_append];refine⟨fun hh=> ?_,a1,⟨gK,a2,fun x hx y hy Hm=>F7 x hx (by rw [Hm];simp [hy])⟩,fun x hx y hy Hm=> ?_⟩
    ·simp only [Ai]at hh n1;rcases hh with hh|hh|hh
     ·exact n1 (.inl hh)
     ·exact F7 b hh (by simp)
     ·exact n1 (.inr hh)
    ·rcases Ai.1 hy with hy|hy
     ·exact F7 y hy (by rw [←Hm];simp [hx])
     ·exact a3 x hx y hy Hm)
   (fun r hr q hq=>by
    have:q∈(c.G T).top∨q∈(c.G u).top:=by
     rw [←Bk]at hr;simp only [Ag,List.not_mem_nil,or_false]at hr;rcases hr with rfl|rfl
     ·exact Cb q hq
     ·simp at hq
    refine⟨.inl (Ai.2 this), ?_⟩;rcases this with hh|hh
    ·exact h.gw.inb T q (by simp [GI.own,hh])
    ·exact h.gw.inb u q (by simp [GI.own,hh]))
   (fun r hr=>by rw [←Bk]at hr;simp only [Ag,List.not_mem_nil,or_false]at hr;rcases hr with rfl|rfl<;>(intros;simp))
   (fun hk r hr=>by
    rw [←Bk]at hr;simp only [Ag,List.not_mem_nil,or_false]at hr;rcases hr with rfl|rfl
    ·exact⟨kT1,fun g' CA=>q2 g' (aft.old T Gz g' CA),by rw [keT,q3],by rw [kT2,kgT];exact A2,by rw [kgT]⟩
    ·exact⟨by rw [kgu],by rw [kgu]⟩)
  refine⟨?_,fun t ht=> ?_,by rw [keT];omega⟩
  ·have:(recs.map fun r=>(r.tag,CP [] r.bq))= [(T, .deep e z l g (ep+1) (.set c0 i (.put (.idx c0 i) o' x (Aq P e)))),(u, .dead)]:=by
    rw [←Bk];simp [CP]
   rw [this]at Ar;exact Ar
  ·rcases ht with ht|⟨r,hr,rfl⟩
   ·exact ht
   ·rw [←Bk]at hr;simp only [Ag,List.not_mem_nil,or_false]at hr;rcases hr with rfl|rfl
    ·exact Gz
    ·exact WX
 have WX:c.U u:=h.cw u r hu;unfold Wm at hr;simp only at hr;split at hr
 ·rename_i e2 z2 l2 e3 z3 x Cc;split at hr
  ·rename_i hh;obtain⟨hf,rfl,rfl,hlen,AE⟩:=hh;simp only [Ah]at hr;obtain⟨q1,q2,N,q4,q5,q6,q7⟩:=h.ents u _ (by rw [hu];rfl);obtain⟨hN,_⟩:=q6 rfl;have hN:N= []:=hN;subst hN;exact key _ _ _ _ Cc (DC.l0 q4 hf hlen) WX hr.symm (by rcases AE with hh|hh;(rw [hh];simp);exact fun _=>hh)
  ·cases hr
 ·rename_i e2 z2 l2 e3 z3 l3 x Cc;split at hr
  ·rename_i hh;obtain⟨rfl,rfl,hb,AE⟩:=hh;simp only [Ah]at hr;have hb:=AY.of_eq hb;subst hb;obtain⟨q1,q2,q3,q4,q5⟩:=h.ents u _ (by rw [hu];rfl);rw [AY.cy]at q4;exact key _ _ _ _ Cc q4 WX hr.symm (by rcases AE with hh|hh;(rw [hh];simp);exact fun _=>hh)
  ·cases hr
 ·cases hr
end
section
variable {P:Program} {c:Cx} {n nx:Nat} {sl sl0:Nat→SV} {hp hp0:Nat→Option Aj} {a:Act} {o:Oper} {gs:Gd} {e:A5} {sg:BT} {nv:Nat}
theorem R5 (hp:Nat→Option Aj): ∀(l:List (Nat × Aj)) (t:Nat),Ba hp l t=match LX l t with|some f=>some f|none=>hp t
 | [],t=>rfl
 |(u,e)::l,t=>by
  have:=R5 (fun v=>if v=u then some e else hp v) l t;simp only [Ba,List.foldl_cons,LX]at this ⊢;rw [this];cases LX l t with
  |some f=>rfl
  |none=>
   simp only;by_cases h:u=t
   ·rw [if_pos h.symm,if_pos h]
   ·rw [if_neg (Ne.symm h),if_neg h]
theorem zxP {hp:Nat→Option Aj} {T v m u:Nat} {p:E × Nat × Nat} {h r:Aj} (hs:Wi hp T v m u p=some (h,r)): ∃e z l ep c0 i o',h= .hol e z l v (m+1) c0 i o' u∧Dp hp [] T=some (.deep e z l v ep c0)∧ep=m:=by
 unfold Wi at hs;split at hs
 ·rename_i hl;split at hs
  ·rename_i hh;obtain⟨rfl,rfl,_⟩:=hh;split at hs
   ·simp only [Ah,Prod.mk.injEq]at hs;obtain⟨rfl,_⟩:=hs;exact⟨_,_,_,_,_,_,_,rfl,hl,rfl⟩
   ·cases hs
  ·cases hs
 ·cases hs
theorem zx7 {h r d:Aj} {e z:Nat} {l:List DT} {g ep:Nat} {c0 i:E} {o' u:Nat} (hh:h= .hol e z l g ep c0 i o' u) (hc:Wm P h r=some d): ∃x,d= .deep e z l g (ep+1) x:=by
 subst hh;unfold Wm at hc;simp only at hc;split at hc
 ·split at hc
  ·simp only [Ah]at hc;exact⟨_,hc.symm⟩
  ·cases hc
 ·split at hc
  ·simp only [Ah]at hc;exact⟨_,hc.symm⟩
  ·cases hc
 ·cases hc
theorem zJD (JN: ∀f s,sg f=some s→f<1000000) (h:Br P c n nx sl hp a sl0 hp0 o []) (hu: ¬c.U (nx+999)) (he:WC P sg sl0 hp0 nv nx o=some e)
  (hc: ∀q∈e.bt,q.den c.ρ) (Bd: ∀cl,e.call=some cl→ ∃r,c.ρ[nv]?=some r∧ID (Ck P sg) cl.fn ((EL.of cl.args).den c.ρ) c.ρ r):AB P o c n nx sl hp [] a e:=by
 unfold WC at he;simp only at he;split at he
 ·cases he
 rename_i t T v m p s Mk;split at he
 ·cases he
 rename_i hl inn Le;split at he
 ·cases he
 rename_i e0 K4;split at he
 ·cases he
 rename_i CK;have CK:e0.cd=none:=by cases hh:e0.cd with|none=>rfl|some x=>rw [hh]at CK;simp at CK
 obtain⟨E8,Bh⟩:=VF Mk;have E8:Operand.tmp t∈o.op.operands:=by simpa using E8
 obtain⟨fe,fz,fl,fep,fc0,fi,fo,rfl,HG,rfl⟩:=zxP Le;have hE:c.E T=fep:=(h.eh T _ (CV HG (E0 _))).2.2.1;have EI:=h.rel.c8 t;rw [←h.sl t E8]at EI;obtain⟨vv,JH,A4⟩: ∃vv,IG c T v (some p) vv∧ ∀c1:Cx,c1.ρ=c.ρ→c1.K (nx+999) 0→c1.H (nx+999) 0=vv→(∃q n r,vv= .slice q n r∧(q=none∨n=0∨ ∃g,q=some ⟨g,0,none⟩))→SR c1 [s] [a.tmps.getD t undef]:=by
  rcases Bh with⟨y,CL,rfl⟩|⟨y,k,z,q,CL,rfl⟩
  ·rw [CL]at EI;generalize a.tmps.getD t undef=av at EI ⊢;cases EI with
   |via h1 h2 h3 _=>obtain⟨_,hp⟩:=h3 hE;refine⟨_,hp,fun c1 e1 k1 k2 k3=> ?_⟩;obtain⟨q,n,r,rfl,_⟩:=k3;exact .own k1 k2 .nil
  ·rw [CL]at EI;generalize a.tmps.getD t undef=av at EI ⊢;cases EI with
   |vptr h1 h2 h3 _=>
    obtain⟨b,off,len,cap,kk,kv,g1,g2,g3,g4,g5,g6,rfl⟩:=h3 hE;refine⟨_,g2,fun c1 e1 k1 k2 k3=> ?_⟩;obtain⟨q9,n9,r9,hv,hq⟩:=k3;cases hv;have Gk:off=0:=by
     rcases hq with hq|hq|⟨g,hq⟩
     ·cases hq
     ·omega
     ·cases hq;rfl
    subst Gk;have:=SR.cx (c:=c1) (i:=k) (sz:=z) (o:=q) k1 k2 (by rw [e1];exact g3) g4 g5 .nil;simpa using this
 obtain⟨recs,c1,rfl,Dl,Oe,dP,KW,hvv,eD,hKT,_,s9,Jp⟩:=h.rel.split Le h.hp hu (fun _=>JH);have Im:=A4 _ Oe.ρ dP KW hvv;have Fp:=Dl.j1 (sl':=fun i=>if i=t then s else sl i) (fun i=>by
  by_cases hi:i=t
  ·subst hi;right;simpa using Im
  ·left;simp [hi])
 have DQ: ∀x,Ba hp [(T, .hol fe fz fl v (fep+1) fc0 fi fo (nx+999)),(nx+999,inn)] x=if x=nx+999 then some inn else if x=T then some (.hol fe fz fl v (fep+1) fc0 fi fo (nx+999))else hp x:=fun x=>rfl;have pre1:Br P (c.du c.w recs) n nx (fun i=>if i=t then s else sl i) (Ba hp [(T, .hol fe fz fl v (fep+1) fc0 fi fo (nx+999)),(nx+999,inn)]) a (fun i=>if i=t then s else sl0 i) (fun w=>if w=T then some (.hol fe fz fl v (fep+1) fc0 fi fo (nx+999))else if w=nx+999 then some inn else hp0 w) o []:=by
  refine⟨Fp,E0 _,fun i hi=> ?_,fun x f hf=> ?_,fun x h1 h2 hx=> ?_⟩
  ·by_cases hit:i=t
   ·simp [hit]
   ·simp only [if_neg hit];exact h.sl i hi
  ·rw [DQ];by_cases h1:x=T
   ·rw [if_pos h1]at hf;rw [if_neg (by rw [h1];exact Jp),if_pos h1];exact hf
   ·rw [if_neg h1]at hf;by_cases h2:x=nx+999
    ·rw [if_pos h2]at hf ⊢;exact hf
    ·rw [if_neg h2]at hf;rw [if_neg h2,if_neg h1];exact h.hp x f hf
  ·rcases eD x hx with hx|hx
   ·exact h.new x h1 h2 hx
   ·omega
 have hdst: ∀(c':Cx) (a':Act) (w9:SV),Rel c' n (CF n (fun i=>if i=t then s else sl i) o.dst w9) (fun _=>none) a'→True:=fun _ _ _ _=>trivial;have stale: ∀(c':Cx) (v':Value),c'.K T v→fep<c'.E T→SR c' [sl t] [v']:=by
  intro c' v' hk An;rw [←h.sl t E8];rcases Bh with⟨y,CL,_⟩|⟨y,k,z,q,CL,_⟩
  ·rw [CL];exact .via hk (by omega) (fun hh=>by omega) .nil
  ·rw [CL];exact .vptr hk (by omega) (fun hh=>by omega) .nil
 have back: ∀{c':Cx} {hp':Nat→Option Aj} {a':Act} {w9:SV},Rel c' n (CF n (fun i=>if i=t then s else sl i) o.dst w9) hp' a'→c'.K T v→fep<c'.E T→Rel c' n (CF n sl o.dst w9) hp' a':=by
  intro c' hp' a' w9 hr hk An;refine hr.j1 fun i=> ?_;unfold CF;by_cases h1:o.dst=some i∧i<n
  ·left;rw [if_pos h1,if_pos h1]
  ·rw [if_neg h1,if_neg h1];by_cases h2:i=t
   ·subst h2;right;exact stale _ _ hk An
   ·left;show sl i=if i=t then s else sl i;rw [if_neg h2]
 split at he
 ·
  split at he
  ·rename_i Ci;simp only [Ah]at he;subst he;have Ju:=jO JN pre1 K4 hc Bd (fun x hx=>by rw [CK]at hx;cases hx);intro next Q hk
   refine Ju next Q fun a' c' A8 hr=> ?_
   have eB:Ba (Ba hp [(T, .hol fe fz fl v (fep+1) fc0 fi fo (nx+999)),(nx+999,inn)]) e0.bq T=some (.hol fe fz fl v (fep+1) fc0 fi fo (nx+999)):=by rw [R5,Ci,DQ,if_neg Jp,if_pos rfl]
   obtain⟨g1,_,g3,_⟩:=hr.ents T _ (by rw [eB];rfl);refine hk a' c' ⟨A8.ρ,A8.A,A8.w0,A8.Mu,fun x hx=> ?_⟩ (back hr g1 (by omega));rcases A8.U x hx with hx|hx
   ·rcases eD x hx with hx|hx
    ·exact .inl hx
    ·exact .inr ⟨by omega,by simp only [BH];omega⟩
   ·exact .inr hx
  ·cases he
 ·split at he
  ·rename_i r' hlu hlT;obtain⟨d,hd,rfl⟩:=Av.1 he;have Ju:=jO JN pre1 K4 hc Bd (fun x hx=>by rw [CK]at hx;cases hx);intro next Q hk
   refine Ju next Q fun a' c' A8 hr=> ?_
   have eB:Ba (Ba hp [(T, .hol fe fz fl v (fep+1) fc0 fi fo (nx+999)),(nx+999,inn)]) e0.bq T=some (.hol fe fz fl v (fep+1) fc0 fi fo (nx+999)):=by rw [R5,hlT,DQ,if_neg Jp,if_pos rfl]
   have hue:Ba (Ba hp [(T, .hol fe fz fl v (fep+1) fc0 fi fo (nx+999)),(nx+999,inn)]) e0.bq (nx+999)=some r':=by rw [R5,hlu]
   obtain⟨recs2,c2,rfl,C5,hU2,hE2⟩:=hr.close eB hue hd ⟨_,_,_,_,_,_,_,_,rfl⟩ Jp;obtain⟨x9,rfl⟩:=zx7 rfl hd;have eC:Ba (Ba (Ba hp [(T, .hol fe fz fl v (fep+1) fc0 fi fo (nx+999)),(nx+999,inn)]) e0.bq) [(T, .deep fe fz fl v (fep+1+1) x9),(nx+999, .dead)] T=some (.deep fe fz fl v (fep+1+1) x9):=by show(if T=nx+999 then _ else if T=T then _ else _)=_;rw [if_neg Jp,if_pos rfl]
   obtain⟨g1,_,g3,_⟩:=C5.ents T _ (by rw [eC];rfl);have DN:=back C5 g1 (by omega);have Bj:Ba hp ((T, .hol fe fz fl v (fep+1) fc0 fi fo (nx+999))::(nx+999,inn)::e0.bq++ [(T, .deep fe fz fl v (fep+1+1) x9),(nx+999, .dead)])=Ba (Ba (Ba hp [(T, .hol fe fz fl v (fep+1) fc0 fi fo (nx+999)),(nx+999,inn)]) e0.bq) [(T, .deep fe fz fl v (fep+1+1) x9),(nx+999, .dead)]:=by rw [←Pr,←Pr];rfl
   refine hk a' (c'.du c'.w recs2) ⟨A8.ρ,A8.A,A8.w0,A8.Mu,fun x hx=> ?_⟩ ?_
   ·rcases A8.U x (hU2 x hx)with hx|hx
    ·rcases eD x hx with hx|hx
     ·exact .inl hx
     ·exact .inr ⟨by omega,by simp only [BH];omega⟩
    ·exact .inr hx
   ·have:=DN;rw [←Bj]at this;exact this
  ·cases he
theorem zEG (h:Br P c n nx sl hp a sl0 hp0 o gs) {e:A5} (dp:Bool) (hd:AB P o c n nx sl hp gs a e):AB P o c n nx sl hp gs a (Kg dp hp0 gs e):=by
 unfold Kg;split
 ·exact hd
 ·split
  ·rename_i l hl;intro next Q hk
   refine hd next Q fun a' c' hs hr=> ?_
   have e1:Ba hp0 e.bq=fun t=>match LX e.bq t with|some f=>some f|none=>hp0 t:=funext (R5 hp0 e.bq)
   have hl:DH (Ba hp0 e.bq) [] (vN e.bq)=some l:=by rw [e1];exact hl
   have IP:=hr.freeze (hp0:=Ba hp0 e.bq) (fun t e' h'=>by
    rw [R5]at h' ⊢;split at h'
    ·exact h'
    ·exact h.hp t e' h') (E0 _) hl
   refine hk a' (c'.bu (l.map (·.1))) ⟨hs.ρ,hs.A,hs.w0,hs.Mu,hs.U⟩ ?_;show Rel _ _ _ (Ba hp (e.bq++l)) a';rw [Pr];exact IP
  ·exact hd
theorem zBG (dp:Bool) (e:A5):(Kg dp hp0 gs e).call=e.call:=by
 unfold Kg;split
 ·rfl
 ·split<;>rfl
theorem zDD (dp:Bool) (e:A5):(Kg dp hp0 gs e).bt=e.bt:=by
 unfold Kg;split
 ·rfl
 ·split<;>rfl
theorem pY (dp:Bool) (e:A5):(Kg dp hp0 gs e).cd=e.cd:=by
 unfold Kg;split
 ·rfl
 ·split<;>rfl
theorem zDY {dp:Bool} {e:A5} {x:E} (h:e.cd=some x):Kg dp hp0 gs e=e:=by unfold Kg;rw [if_pos (by simp [h])]
theorem zFU (h:Br P c n nx sl hp a sl0 hp0 o gs) {e:A5} (fz:Bool) (hd:AB P o c n nx sl hp gs a e):AB P o c n nx sl hp gs a (J1 fz hp0 gs e):=by
 unfold J1;split
 ·exact hd
 ·rename_i eH;simp only [Bool.or_eq_true,not_or]at eH;have hen:e.bq= []:=by simpa using eH.2
  split
  ·rename_i t g m p x hv;split
   ·rename_i y l hy hl;split
    ·rename_i JE;intro next Q hk
     refine hd next Q fun a' c' hs hr=> ?_
     rw [hen]at hr;have fF:gs= []:=by simpa using eH.1.1.1.2
     subst fF;have hr:Rel c' n (CF n sl o.dst e.val) hp a':=hr;have eh:EH c' hp0:=fun t e CT=>hr.ents t e (L0 h.hp CT);have IP:=hr.freeze h.hp (E0 _) hl;refine hk a' (c'.bu (l.map (·.1))) ⟨hs.ρ,hs.A,hs.w0,hs.Mu,hs.U⟩ ?_;refine{IP with c8:=fun i=> ?_};have h1:=hr.c8 i;have h2:=IP.c8 i;unfold CF at h1 h2 ⊢;split
     ·rename_i hi;rw [if_pos hi]at h1;obtain⟨f,q1,q2⟩:=H5 eh (E0 _) A1 hy h1 A1 (Nat.le_refl _);exact .e q1 (fun b hb=>VN hr eh (E0 _) hl JE (q2 b hb)) .nil
     ·rename_i hi;rw [if_neg hi]at h2;exact h2
    ·exact hd
   ·exact hd
  ·exact hd
theorem zDs (fz:Bool) (e:A5):(J1 fz hp0 gs e).call=e.call:=by
 unfold J1;split
 ·rfl
 ·split
  ·split
   ·split<;>rfl
   ·rfl
  ·rfl
theorem zGf (fz:Bool) (e:A5):(J1 fz hp0 gs e).bt=e.bt:=by
 unfold J1;split
 ·rfl
 ·split
  ·split
   ·split<;>rfl
   ·rfl
  ·rfl
theorem zyW (fz:Bool) (e:A5):(J1 fz hp0 gs e).cd=e.cd:=by
 unfold J1;split
 ·rfl
 ·split
  ·split
   ·split<;>rfl
   ·rfl
  ·rfl
theorem zGe {fz:Bool} {e:A5} {x:E} (h:e.cd=some x):J1 fz hp0 gs e=e:=by unfold J1;rw [if_pos (by simp [h])]
theorem zKt (JN: ∀f s,sg f=some s→f<1000000):OL P sg (Ck P sg):=by
 intro c n nx sl hp a sl0 hp0 o gs e nv h hu he hc Bd CK;unfold L8 at he;split at he
 ·rename_i e' EV;simp only [Ah]at he;subst he;rw [zGf,zDD]at hc;rw [zDs,zBG]at Bd;rw [zyW,pY]at CK;exact zFU h _ (zEG h _ (jO JN h EV hc Bd CK))
 ·split at he
  ·exact zJD JN h hu he hc Bd
  ·cases he
theorem zz0 {x:E} (he:WC P sg sl0 hp0 nv nx o=some e) (hq:e.cd=some x):False:=by
 unfold WC at he;simp only at he;split at he
 ·cases he
 split at he
 ·cases he
 split at he
 ·cases he
 rename_i e0 K4;split at he
 ·cases he
 rename_i CK;have CK:e0.cd=none:=by cases hh:e0.cd with|none=>rfl|some x=>rw [hh]at CK;simp at CK
 split at he
 ·split at he
  ·simp only [Ah]at he;subst he;rw [CK]at hq;cases hq
  ·cases he
 ·split at he
  ·obtain⟨d,hd,rfl⟩:=Av.1 he;rw [CK]at hq;cases hq
  ·cases he
theorem zzM {x:E} (he:L8 P sg sl0 hp0 nv nx gs o=some e) (hq:e.cd=some x):BF P sg sl0 hp0 nv nx gs o=some e:=by
 unfold L8 at he;split at he
 ·rename_i e' EV;simp only [Ah]at he;subst he;rw [zyW,pY]at hq;rw [zGe (by rw [pY];exact hq),zDY hq];exact EV
 ·split at he
  ·exact(zz0 he hq).elim
  ·cases he
theorem zI4:Ue P sg:=by
 intro c n nx sl hp a sl0 hp0 o gs e nv x h he hq hb;unfold KO at hb;cases AT:o.op with
 |binOp op t y z ty=>
  rw [AT]at hb;simp only at hb;have he:=zzM he hq;simp only [BF,AT,Aw]at he;obtain⟨s1,BI,s2,A4,he⟩:=he;have key: ∀xq,Bq hp0 gs A1 s1=some xq→xq.den c.ρ= .sl []:=by
   intro xq JV;obtain⟨f,q1,_⟩:=h.ku BI (by simp [AT,Op.operands]) JV;generalize a.eval y=v at q1 hb;split at hb
   ·generalize xq.den c.ρ=d at q1;cases q1 with
    |ej _=>rfl
   ·cases hb
  unfold SU at he;split at he
  ·split at he
   ·simp at he;subst he;cases hq
   ·simp at he;subst he;cases hq
   ·obtain⟨xq,JV,rfl⟩:=Av.1 he;cases hq;exact key _ JV
   ·obtain⟨xq,JV,rfl⟩:=Av.1 he;cases hq;exact key _ JV
   ·cases he
  ·split at he
   ·simp at he;subst he;cases hq
   ·cases he
  ·split at he
   ·simp at he;subst he;cases hq
   ·cases he
  ·split at he
   ·simp at he;subst he;cases hq
   ·cases he
  ·split at he
   ·cases he
   ·split at he
    ·split at he
     ·simp at he;subst he;cases hq
     ·simp at he;subst he;cases hq
     ·cases he
    ·cases he
  ·cases he
 |_=>rw [AT]at hb;simp at hb
end
end Go.Proofs.YtfdfahjmonlbiaaGreatDoor
end

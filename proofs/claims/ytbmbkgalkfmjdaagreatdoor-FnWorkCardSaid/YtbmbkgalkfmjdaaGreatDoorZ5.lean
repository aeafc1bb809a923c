/- Parts of a proof, joined: WP, WQ, WR, WRa, WRb, WRc, WRd, WRe, WS, WSa, WSb. -/
import Derived.Test.YtbmbkgalkfmjdaaGreatDoorZ4
set_option linter.unusedVariables false
set_option linter.unusedSimpArgs false
section
namespace Go.Proofs.YtbmbkgalkfmjdaaGreatDoor
open Go.RowKit
theorem AH.{u} {α:Type u} {a:α}:[a].length=1:=rfl
section
variable {P:Program} {c:Cx} {hp:Nat→Option Aj} {gs:Gd}
theorem zxT (hb:Rh c) (eh:EH c hp) (k:Bm c.ρ gs) (hU: ∀t g,c.K t g→c.U t): ∀(ss:List SV) {ts:List TypeId} {ms:List PM} {lo:List Bool} {es:List E} {bs:List PA} {us uz:List Nat} {vs:List Value},U8 P hp gs ts ms lo ss=some (es,bs,us,uz)→SR c ss vs→ts.length≤ss.length→
  ∃rf lf hs,DP P c.w ts ms lo vs (es.map (E.den c.ρ)) rf lf hs∧(∀b∈rf,c.fh us b)∧(∀b∈lf,c.fh uz b∨b<c.w0.heap.size∧ ¬c.Mu b)∧hs=(DO bs).flatMap (fun t=>(c.G t).top)∧Js P c ts ms vs bs∧(∀u∈DO bs,c.U u)∧(bs≠ []→gs= [])
 | [],ts,ms,lo,es,bs,us,uz,vs,h,hs,hl=>by simp [U8]at h;obtain⟨rfl,rfl,rfl,rfl⟩:=h;cases hs;have:ts= []:=List.eq_nil_of_length_eq_zero (by simpa using hl);subst this;exact⟨[], [], [], .nil,by simp,by simp,by simp [DO], .nil,by simp [DO],by simp⟩
 |s::ss,ts,ms,lo,es,bs,us,uz, [],h,hs,hl=>by have:=hs.len;simp at this
 |s::ss,ts,ms,lo,es,bs,us,uz,v::vs,h,hs,hl=>by
  obtain⟨r1,r2⟩:=hs.cr;unfold U8 at h;split at h
  ·cases h
  rename_i ys bs' us' uz' Dg;obtain⟨rf,lf,Bk,q1,q2,qz,q3,q4,q5,q6⟩:=zxT hb eh k hU ss Dg r2 (by simp at hl ⊢;omega);have see1: ∀{a b:List Nat} {x:Nat},c.fh a x→c.fh (a++b) x:=fun h=>h.mono fun t ht=>by simp [ht]
  have see2: ∀{a b:List Nat} {x:Nat},c.fh b x→c.fh (a++b) x:=fun h=>h.mono fun t ht=>by simp [ht]
  split at h
  ·rename_i hm;split at h
   ·rename_i Ch;simp only [Ae,Bool.not_eq_true']at Ch;obtain⟨t,ts,rfl⟩: ∃t ts',ts=t::ts':=by
     cases ts with
     |nil=>simp at Ch
     |cons t ts=>exact⟨t,ts,rfl⟩
    split at h
    ·rename_i i;simp only [Ah,Prod.mk.injEq]at h;obtain⟨rfl,rfl,rfl,rfl⟩:=h;cases r1 with
     |lent g1 _=>obtain⟨f,p1,p2⟩:=hb.lo _ _ g1;have hw:Rd c.w [v] [(E.var i).den c.ρ] f:=p1.frame fun b Ca=>hb.block b (p1.inb b Ca) (p2 b Ca);exact⟨rf,f++lf,Bk, .lent Ch.1 hm hw q1,q2,fun b Ca=>(Ai.1 Ca).elim (fun Ca=> .inr ⟨p1.inb b Ca,p2 b Ca⟩) (qz b),q3, .ro hm q4,q5,q6⟩
    ·obtain⟨x,hx,hh⟩:=Av.1 h;simp only [Prod.mk.injEq]at hh;obtain⟨rfl,rfl,rfl,rfl⟩:=hh;obtain⟨f,p1,p2⟩:=Io eh k A3 hx r1 A3 (Nat.le_refl _);exact⟨rf,f++lf,Bk, .lent Ch.1 hm p1 q1,q2,fun b Ca=>(Ai.1 Ca).elim (fun Ca=> .inl (see1 (p2 b Ca))) (fun Ca=>(qz b Ca).imp see2 id),q3, .ro hm q4,q5,q6⟩
   obtain⟨x,hx,hh⟩:=Av.1 h;simp only [Prod.mk.injEq]at hh;obtain⟨rfl,rfl,rfl,rfl⟩:=hh;obtain⟨f,p1,p2⟩:=Io eh k A3 hx r1 A3 (Nat.le_refl _);have hb: ∀b∈f++rf,c.fh (BV hp gs (A3+1) [s]++us') b:=fun b hb=>by
    rcases Ai.1 hb with hb|hb
    ·exact see1 (p2 b hb)
    ·exact see2 (q2 b hb)
   cases ts with
   |nil=>exact⟨f++rf,lf,Bk, .free p1 q1,hb,qz,q3, .ro hm q4,q5,q6⟩
   |cons t ts=>exact⟨f++rf,lf, []++Bk, .cons (by rw [hm];exact⟨p1,rfl⟩) q1,hb,qz,q3, .ro hm q4,q5,q6⟩
  ·rename_i own own' hm;split at h
   ·rename_i ty T Bt;split at h
    ·rename_i ty' g cs G2;split at h
     ·cases h
     rename_i A2;have A2:ty'=ty:=by simpa using A2
     subst A2;split at h
     ·rename_i xs rs vs' CN DK;simp only [Ah,Prod.mk.injEq]at h;obtain⟨rfl,rfl,rfl,rfl⟩:=h;obtain⟨t,ts,rfl,Ev⟩: ∃t ts',ts=t::ts'∧KO P t=some ty':=by
       cases ts with
       |nil=>simp at Bt
       |cons t ts=>exact⟨t,ts,rfl,by simpa using Bt⟩
      obtain⟨b,C,g1,g2,g3,g4,g5,g6,g7⟩:=eh T _ (C5 G2 k);obtain⟨f,h8,p1,p2,p3,p4,p5⟩:=oD (P:=P) eh k hU (A8 P ty') DK g7 CN (Nat.le_refl _);have hv:v= .pointer (some ⟨b,0,none⟩):=by
       cases r1 with
       |cu k1 k2 _=>rw [g2]at k2;cases k2;rfl
      refine⟨f++rf,lf,(b::h8)++Bk, .cons ?_ q1,fun x hx=> ?_,qz,by simp [DO,p3,q3,g3], .bx hm Ev hv g1 (by rw [g2,hv]) p5 q4,fun u hu=> ?_,fun _=>rfl⟩
      ·rw [hm];exact⟨ty',b,C,xs.den c.ρ,h8,Ev,hv,g5,g6,rfl,p1,rfl⟩
      ·rcases Ai.1 hx with hx|hx
       ·exact see1 (p2 x hx)
       ·exact see2 (q2 x hx)
      ·simp only [DO,List.cons_append,Ag,Ai]at hu;rcases hu with rfl|hu|hu
       ·exact hU _ _ g1
       ·exact p5 u hu
       ·exact q5 u hu
     ·cases h
    ·cases h
   ·cases h
  ·rename_i own hm;split at h
   ·rename_i t x Bt hx;split at h
    ·cases h
    rename_i AE;have AE:(Ik s).2=Aq P t:=by simpa using AE
    split at h
    ·rename_i rs vs' DK;simp only [Ah,Prod.mk.injEq]at h;obtain⟨rfl,rfl,rfl,rfl⟩:=h;obtain⟨ts,rfl⟩: ∃ts',ts=t::ts':=by
      cases ts with
      |nil=>simp at Bt
      |cons t' ts=>simp at Bt;exact⟨ts,by rw [Bt]⟩
     obtain⟨f,h8,p1,p2,p3,⟨vs9,p4,p5⟩,p6⟩:=zsF (P:=P) eh k hU r1 hx AE DK;refine⟨f++rf,lf,h8++Bk, .cons (by rw [hm];exact p1) q1,fun x hx=> ?_,qz,by simp [DO,p3,q3],by rw [AE];exact .mu hm p4 p5 q4,fun u hu=> ?_,fun _=>rfl⟩
     ·rcases Ai.1 hx with hx|hx
      ·exact see1 (p2 x hx)
      ·exact see2 (q2 x hx)
     ·simp only [DO,Ai]at hu;exact hu.elim (p6 u) (q5 u)
    ·cases h
   ·cases h
  ·rename_i own hm;split at h
   ·rename_i t x Bt hx;split at h
    ·cases h
    rename_i AE;have AE:(Ik s).2=Aq P t:=by simpa using AE
    split at h
    ·rename_i rs vs' DK;simp only [Ah,Prod.mk.injEq]at h;obtain⟨rfl,rfl,rfl,rfl⟩:=h;obtain⟨ts,rfl⟩: ∃ts',ts=t::ts':=by
      cases ts with
      |nil=>simp at Bt
      |cons t' ts=>simp at Bt;exact⟨ts,by rw [Bt]⟩
     obtain⟨f,h8,p1,p2,p3,⟨vs9,p4,p5⟩,p6⟩:=zsF (P:=P) eh k hU r1 hx AE DK;refine⟨f++rf,lf,h8++Bk, .cons (by rw [hm];exact p1) q1,fun x hx=> ?_,qz,by simp [DO,p3,q3], .va hm p6 q4,fun u hu=> ?_,fun _=>rfl⟩
     ·rcases Ai.1 hx with hx|hx
      ·exact see1 (p2 x hx)
      ·exact see2 (q2 x hx)
     ·simp only [DO,Ai]at hu;exact hu.elim (p6 u) (q5 u)
    ·cases h
   ·cases h
end
inductive GU (P:Program) (w:World):List TypeId→List Bool→List Value→List AV→List Nat→List Nat→Prop where
 |nil {fl}:GU P w [] fl [] [] [] []
 |own {t ts fl el u us y ys top N f o}:fl.headD false=true→CO P t=some el→(Cf P el=true∧N= []∨Cf P el=false∧Ek P t=none)→C6 w el (P.cellsOf el) u y top N→GU P w ts fl.tail us ys f o→GU P w (t::ts) fl (u::us) (y::ys) (N++f) (top++o)
 |deep {t ts fl el e z l u us y ys top f o}:fl.headD false=true→CO P t=some el→Cf P el=false→Ek P t=some (.row e z l)→DC w [.row e z l] [u] [y] top→GU P w ts fl.tail us ys f o→GU P w (t::ts) fl (u::us) (y::ys) f (top++o)
 |skip {t ts fl u us y ys f o}:(fl.headD false=true→CO P t=none)→GU P w ts fl.tail us ys f o→GU P w (t::ts) fl (u::us) (y::ys) f o
inductive D5 (P:Program) (w:World):List TypeId→List PM→List Value→List AV→List Nat→List Nat→Prop where
 |nil {ms vs}:D5 P w [] ms vs [] [] []
 |ro {t ts ms v vs bs f o}:ms.headD .ro= .ro→D5 P w ts ms.tail vs bs f o→D5 P w (t::ts) ms (v::vs) bs f o
 |va {t ts ms own v vs bs f o}:ms.headD .ro= .va own→D5 P w ts ms.tail vs bs f o→D5 P w (t::ts) ms (v::vs) bs f o
 |mu {t ts ms own v vs us ys y bs f1 f o1 o}:ms.headD .ro= .mu own→(if Aq P t then v= .agg us.toArray∧y= .agg ys else us= [v]∧ys= [y])→GU P w (A8 P t) own us ys f1 o1→D5 P w ts ms.tail vs bs f o→D5 P w (t::ts) ms (v::vs) (y::bs) (f1++f) (o1++o)
 |bx {t ts ms own own' ty b C v vs ys y bs f1 o1 f o}:ms.headD .ro= .bx own own'→KO P t=some ty→v= .pointer (some ⟨b,0,none⟩)→w.heap[b]?=some (.cells C ty (0,0))→(∀u∈C.toList,u.oneCell'=true)→y= .agg ys→Cw P w (A8 P ty) own' C.toList ys f1 o1→
   D5 P w ts ms.tail vs bs f o→D5 P w (t::ts) ms (v::vs) (y::bs) (f1++f) (b::o1++o)
section
variable {P:Program} {c:Cx} {w':World}
theorem zzk {mk:Nat→E} {ts:List TypeId} {fl:List Bool} {us:List Value} {rs:List (Option RI)} (h:Hf P c ts fl us rs) (hU: ∀t g,c.K t g→c.U t): ∀{ys:List AV} {f o:List Nat} (j:Nat),GU P w' ts fl us ys f o→(∀i y,ys[i]?=some y→(mk (j+i)).den c.ρ=y)→
  ∃recs:List AW,Mz mk j rs=recs.map AW.pair∧(recs.flatMap AW.top).Sublist o∧(∀r∈recs,r.new=none∧c.U r.tag∧ ∀hs f,r.bt≠ .gd hs f)∧recs.map AW.tag=CK rs∧ ∀c',Fo c c' w' recs→(∀b∈f,c'.ok b)→ ∀r∈recs,Dm c' r.tag r.bt:=by
 induction h with
 |nil=>intro ys f o j hm _;cases hm;exact⟨[],rfl,by simp,by simp,rfl,by simp⟩
 | @row t ts fl v vs u g el rs h1 h2 TP h3 h4 h5 _ ih=>
  intro ys f o j hm Gy;cases hm with
  |skip hh _=>rw [hh h1]at h2;cases h2
  |deep _ k2 k21 k22 _ _=>
   rw [h2]at k2;cases k2;rcases TP with hh|hh
   ·rw [hh]at k21;cases k21
   ·rw [hh]at k22;cases k22
  | @own _ _ _ el' _ _ y ys top N f o k1 k2 k23 k3 k4=>
   rw [h2]at k2;cases k2;obtain⟨recs,e1,e2,e3,e4,e5⟩:=ih (j+1) k4 (fun i y hy=>by rw [show j+1+i=j+(i+1)from by omega];exact Gy (i+1) y (by simpa using hy));have hy:=Gy 0 y rfl;refine⟨⟨u,none,top, .row el (P.cellsOf el) g (mk j) (Cf P el)⟩::recs,by simp [Mz,e1,AW.pair],by simpa using(List.Sublist.refl top).append e2,fun r hr=> ?_,by simp [CK,RI.tag,e4],fun c' ha Ax r hr=> ?_⟩
   ·rcases Ag.1 hr with rfl|hr
    ·exact⟨rfl,hU _ _ h3,by simp⟩
    ·exact e3 r hr
   ·rcases Ag.1 hr with rfl|hr
    ·obtain⟨a1,a2⟩:=ha.K u g h3;have kg:=ha.G _ (List.mem_cons_self ..);simp only at kg;refine⟨a1,fun g' Ck=>h5 g' (ha.old u (hU _ _ h3) g' Ck),N, ?_,fun b hb=>Ax b (by simp [hb]),fun hd=> ?_,fun _=>by rw [kg]⟩
     rotate_left
     ·rcases k23 with⟨_,h⟩|⟨h,_⟩
      ·subst h;exact⟨rfl,by rw [kg]⟩
      ·rw [h]at hd;cases hd
     have Bz:(mk j).den c.ρ=y:=by simpa using hy
     rw [a2,h4,kg,ha.w,ha.ρ,Bz];exact k3
    ·exact e5 c' (ha.mono fun r hr=>by simp [hr]) (fun b hb=>Ax b (by simp [hb])) r hr
 | @deep t ts fl v vs u g el e z l ep rs h1 h2 TO QG h3 h4 h5 h6 _ ih=>
  intro ys f o j hm Gy;cases hm with
  |skip hh _=>rw [hh h1]at h2;cases h2
  |own _ k2 k23 _ _=>
   rw [h2]at k2;cases k2;rcases k23 with⟨hh,_⟩|⟨_,hh⟩
   ·rw [hh]at TO;cases TO
   ·rw [hh]at QG;cases QG
  | @deep _ _ _ el' e' z' l' _ _ y ys top f o k1 k2 k21 k22 k3 k4=>
   rw [QG]at k22;cases k22;obtain⟨recs,e1,e2,e3,e4,e5⟩:=ih (j+1) k4 (fun i y hy=>by rw [show j+1+i=j+(i+1)from by omega];exact Gy (i+1) y (by simpa using hy));have hy:=Gy 0 y rfl;refine⟨⟨u,none,top, .deep e z l g (ep+1) (mk j)⟩::recs,by simp [Mz,e1,AW.pair],by simpa using(List.Sublist.refl top).append e2,fun r hr=> ?_,by simp [CK,RI.tag,e4],fun c' ha Ax r hr=> ?_⟩
   ·rcases Ag.1 hr with rfl|hr
    ·exact⟨rfl,hU _ _ h3,by simp⟩
    ·exact e3 r hr
   ·rcases Ag.1 hr with rfl|hr
    ·obtain⟨a1,a2⟩:=ha.K u g h3;have kg:=ha.G _ (List.mem_cons_self ..);have ke:=ha.jn _ (List.mem_cons_self ..) rfl;simp only at kg ke;refine⟨a1,fun g' Ck=>h5 g' (ha.old u (hU _ _ h3) g' Ck),by rw [ke,h6], ?_,by rw [kg]⟩;have Bz:(mk j).den c.ρ=y:=by simpa using hy
     rw [a2,h4,kg,ha.w,ha.ρ,Bz];exact k3
    ·exact e5 c' (ha.mono fun r hr=>by simp [hr]) (fun b hb=>Ax b (by simp [hb])) r hr
 | @none t ts fl v vs rs _ _ ih=>
  intro ys f o j hm Gy;have go: ∀{y:AV} {ys':List AV} {f' o':List Nat},ys=y::ys'→GU P w' ts fl.tail vs ys' f' o'→(∀b∈f',b∈f)→o'.Sublist o→ ∃recs:List AW,Mz mk j (none::rs)=recs.map AW.pair∧(recs.flatMap AW.top).Sublist o∧(∀r∈recs,r.new=none∧c.U r.tag∧ ∀hs f,r.bt≠ .gd hs f)∧recs.map AW.tag=CK (none::rs)∧ ∀c',Fo c c' w' recs→(∀b∈f,c'.ok b)→ ∀r∈recs,Dm c' r.tag r.bt:=by rintro y ys' f' o' rfl Gx hf hs;obtain⟨recs,e1,e2,e3,e4,e5⟩:=ih (j+1) Gx (fun i y hy=>by rw [show j+1+i=j+(i+1)from by omega];exact Gy (i+1) y (by simpa using hy));exact⟨recs,by simp [Mz,e1],e2.trans hs,e3,by simp [CK]at e4 ⊢;exact e4,fun c' ha Ax=>e5 c' ha fun b hb=>Ax b (hf b hb)⟩
  cases hm with
  |skip _ h8=>exact go rfl h8 (fun _ h=>h) (List.Sublist.refl _)
  |own _ _ _ _ h8=>exact go rfl h8 (fun b hb=>by simp [hb]) (List.sublist_append_right _ _)
  |deep _ _ _ _ _ h8=>exact go rfl h8 (fun _ h=>h) (List.sublist_append_right _ _)
theorem zvi (us:List Nat) (hU: ∀u∈us,c.U u): ∃recs:List AW,FB us=recs.map AW.pair∧recs.flatMap AW.top= []∧(∀r∈recs,r.new=none∧c.U r.tag∧ ∀hs f,r.bt≠ .gd hs f)∧recs.map AW.tag=us∧ ∀c',Fo c c' w' recs→ ∀r∈recs,Dm c' r.tag r.bt:=by
 induction us with
 |nil=>exact⟨[],rfl,rfl,by simp,rfl,by simp⟩
 |cons u us ih=>
  obtain⟨recs,e1,e2,e3,e4,e5⟩:=ih fun u hu=>hU u (by simp [hu]);refine⟨⟨u,none, [], .dead⟩::recs,by simp only [FB]at e1;simp [FB,e1,AW.pair],by simp [e2],fun r hr=> ?_,by simp [e4],fun c' ha r hr=> ?_⟩
  ·rcases Ag.1 hr with rfl|hr
   ·exact⟨rfl,hU _ (by simp),by simp⟩
   ·exact e3 r hr
  ·rcases Ag.1 hr with rfl|hr
   ·have kg:=ha.G _ (List.mem_cons_self ..);simp only at kg;exact⟨by rw [kg],by rw [kg]⟩
   ·exact e5 c' (ha.mono fun r hr=>by simp [hr]) r hr
structure Jk (c:Cx) (w':World) (nx m:Nat) (l:List (Nat × Aj)) (hd o f:List Nat) (recs:List AW):Prop where
 ents:l=recs.map AW.pair
 nf:(recs.flatMap AW.top).Sublist o
 new: ∀r∈recs,r.new.isSome=true→nx≤r.tag∧r.tag<nx+m
 old: ∀r∈recs,r.new=none→r.tag∈hd∧c.U r.tag
 all: ∀t∈hd,∃r∈recs,r.tag=t
 nodup:hd.Nodup→(∀t,nx≤t→t<nx+m→ ¬c.U t)→(recs.map AW.tag).Nodup
 ne: ∀r∈recs,∀hs f,r.bt≠ .gd hs f
 ok: ∀c',Fo c c' w' recs→(∀b∈f,c'.ok b)→ ∀r∈recs,Dm c' r.tag r.bt
theorem Jk.app {nx m m':Nat} {l l':List (Nat × Aj)} {hd Lz o o' f f':List Nat} {recs recs':List AW} (h:Jk c w' nx m l hd o f recs) (k:Jk c w' (nx+m) m' l' Lz o' f' recs'):Jk c w' nx (m+m') (l++l') (hd++Lz) (o++o') (f++f') (recs++recs'):=by
 refine⟨by rw [h.ents,k.ents,List.map_append],by rw [List.flatMap_append];exact h.nf.append k.nf,fun r hr hn=> ?_,fun r hr hn=> ?_,fun t ht=> ?_,fun hn hU=> ?_,fun r hr=> ?_,fun c' ha Ax r hr=> ?_⟩
 ·rcases Ai.1 hr with hr|hr
  ·have:=h.new r hr hn;omega
  ·have:=k.new r hr hn;omega
 ·rcases Ai.1 hr with hr|hr
  ·exact⟨by simp [(h.old r hr hn).1],(h.old r hr hn).2⟩
  ·exact⟨by simp [(k.old r hr hn).1],(k.old r hr hn).2⟩
 ·rcases Ai.1 ht with ht|ht
  ·obtain⟨r,hr,e⟩:=h.all t ht;exact⟨r,by simp [hr],e⟩
  ·obtain⟨r,hr,e⟩:=k.all t ht;exact⟨r,by simp [hr],e⟩
 ·rw [List.nodup_append]at hn;rw [List.map_append,List.nodup_append];refine⟨h.nodup hn.1 fun t h1 h2=>hU t h1 (by omega),k.nodup hn.2.1 fun t h1 h2=>hU t (by omega) (by omega),fun t1 Pd t2 LL he=> ?_⟩;obtain⟨q1,Ge,rfl⟩:=List.mem_map.1 Pd;obtain⟨q2,EG,rfl⟩:=List.mem_map.1 LL;cases n1:q1.new with
  |none=>
   obtain⟨a1,a2⟩:=h.old q1 Ge n1;cases n2:q2.new with
   |none=>exact hn.2.2 _ a1 _ (k.old q2 EG n2).1 he
   |some v2=>have:=k.new q2 EG (by simp [n2]);exact hU q2.tag (by omega) (by omega) (he▸a2)
  |some v1=>
   have:=h.new q1 Ge (by simp [n1]);cases n2:q2.new with
   |none=>exact hU q1.tag (by omega) (by omega) (he▸(k.old q2 EG n2).2)
   |some v2=>have:=k.new q2 EG (by simp [n2]);omega
 ·rcases Ai.1 hr with hr|hr
  ·exact h.ne r hr
  ·exact k.ne r hr
 ·rcases Ai.1 hr with hr|hr
  ·exact h.ok c' (ha.mono fun r hr=>by simp [hr]) (fun b hb=>Ax b (by simp [hb])) r hr
  ·exact k.ok c' (ha.mono fun r hr=>by simp [hr]) (fun b hb=>Ax b (by simp [hb])) r hr
theorem Jk.lj {nx:Nat} {l:List (Nat × Aj)} {hd o f:List Nat} {recs:List AW} (e1:l=recs.map AW.pair) (e2:(recs.flatMap AW.top).Sublist o) (e3: ∀r∈recs,r.new=none∧c.U r.tag∧ ∀hs f,r.bt≠ .gd hs f) (e4:recs.map AW.tag=hd) (e5: ∀c',Fo c c' w' recs→(∀b∈f,c'.ok b)→ ∀r∈recs,Dm c' r.tag r.bt):Jk c w' nx 0 l hd o f recs:=by
 refine⟨e1,e2,fun r hr hn=> ?_,fun r hr _=>⟨?_,(e3 r hr).2.1⟩,fun t ht=> ?_,fun hn _=>by rw [e4];exact hn,fun r hr=>(e3 r hr).2.2,fun c' ha Ax=>e5 c' ha Ax⟩
 ·rw [(e3 r hr).1]at hn;cases hn
 ·rw [←e4];exact List.mem_map.2 ⟨r,hr,rfl⟩
 ·rw [←e4]at ht;obtain⟨r,hr,e⟩:=List.mem_map.1 ht;exact⟨r,hr,e⟩
theorem zBy {ts:List TypeId} {ms:List PM} {vs:List Value} {bs:List PA} (h:Js P c ts ms vs bs) (hU: ∀t g,c.K t g→c.U t) {r:Nat}: ∀{Bs:List AV} {f o:List Nat} (nx j:Nat),D5 P w' ts ms vs Bs f o→(∀k y,Bs[k]?=some y→(E.proj (.var r) (j+k+1)).den c.ρ=y)→
  Bs.length=I6 bs∧ ∃recs,Jk c w' nx (K7 P bs) (after P r nx bs j) (DO bs) o f recs:=by
 have nilS: ∀nx,Jk c w' nx 0 [] [] [] [] []:=fun nx=>⟨rfl,by simp,by simp,by simp,by simp,by simp,by simp,by simp⟩
 induction h with
 |nil=>intro Bs f o nx j hb _;cases hb;exact⟨rfl, [],by simpa [after,DO,K7]using nilS nx⟩
 | @ro ts ms v vs bs hm Ds ih=>
  intro Bs f o nx j hb hB;cases hb with
  |nil=>exact ih nx j .nil hB
  |ro _ h8=>exact ih nx j h8 hB
  |va h9 _=>rw [hm]at h9;cases h9
  |mu h9 _ _ _=>rw [hm]at h9;cases h9
  |bx h9 _ _ _ _ _ _ _=>rw [hm]at h9;cases h9
 | @va ts ms own v vs bs us hm LN Ds ih=>
  intro Bs f o nx j hb hB;obtain⟨recs1,e1,e2,e3,e4,e5⟩:=zvi (c:=c) (w':=w') us LN;have s1:Jk c w' nx 0 (FB us) us [] [] recs1:= .lj e1 (by rw [e2];exact List.Sublist.refl _) e3 e4 fun c' ha _=>e5 c' ha;cases hb with
  |nil=>obtain⟨h1,recs2,s2⟩:=ih nx j .nil hB;exact⟨by simpa [I6]using h1,recs1++recs2,by simpa [after,DO,K7]using s1.app s2⟩
  |ro h9 _=>rw [hm]at h9;cases h9
  |va _ h8=>obtain⟨h1,recs2,s2⟩:=ih nx j h8 hB;exact⟨by simpa [I6]using h1,recs1++recs2,by simpa [after,DO,K7]using s1.app s2⟩
  |mu h9 _ _ _=>rw [hm]at h9;cases h9
  |bx h9 _ _ _ _ _ _ _=>rw [hm]at h9;cases h9
 | @mu t ts ms own v vs bs us rs hm LN DK Ds ih=>
  intro Bs f o nx j hb hB;cases hb with
  |ro h9 _=>rw [hm]at h9;cases h9
  |va h9 _=>rw [hm]at h9;cases h9
  |bx h9 _ _ _ _ _ _ _=>rw [hm]at h9;cases h9
  | @mu _ _ _ own2 _ _ us2 ys y Bs f1 f o1 o h9 hg Ur h8=>
   rw [hm]at h9;cases h9;obtain⟨h1,recs2,s2⟩:=ih nx (j+1) h8 (fun k y hy=>by rw [show j+1+k+1=j+(k+1)+1 from by omega];exact hB (k+1) y (by simpa using hy));have hy:=hB 0 y rfl;have Pf:us2=us:=by
    split at LN
    ·rename_i AE;rw [if_pos AE]at hg;obtain⟨rfl,_⟩:=hg;exact zsL LN
    ·rename_i AE;rw [if_neg AE]at hg;rw [hg.1,LN]
   subst Pf;obtain⟨recs1,e1,e2,e3,e4,e5⟩:=zzk (w':=w') (mk:=DQ (.proj (.var r) (j+1)) (Aq P t)) DK hU 0 Ur (by
    intro i z hz;split at hg
    ·rename_i AE;rw [AE];exact Wu (by rw [←hg.2];exact hy) i z hz
    ·rename_i AE;have Ho:Aq P t=false:=by simpa using AE
     rw [hg.2]at hz;cases i with
     |zero=>simp at hz;subst hz;rw [Ho];simpa [DQ]using hy
     |succ i=>simp at hz)
   have s1:Jk c w' nx 0 _ (CK rs) o1 f1 recs1:= .lj e1 e2 e3 e4 e5;exact⟨by simp [I6,h1],recs1++recs2,by simpa [after,DO,K7]using s1.app s2⟩
 | @bx t ts ms own own' ty v vs bs T b g olds hm Ev hv hK hH hol Ds ih=>
  intro Bs f o nx j hb hB;cases hb with
  |ro h9 _=>rw [hm]at h9;cases h9
  |va h9 _=>rw [hm]at h9;cases h9
  |mu h9 _ _ _=>rw [hm]at h9;cases h9
  | @bx _ _ _ own2 own3 ty2 b2 C _ _ ys y Bs f1 o1 f o h9 J2 Dt hh CY Ib hc h8=>
   rw [hm]at h9;cases h9;rw [Ev]at J2;cases J2;have XE:b2=b:=by rw [hv]at Dt;cases Dt;rfl
   subst XE;obtain⟨h1,recs2,s2⟩:=ih (nx+(A8 P ty).length) (j+1) h8 (fun k y hy=>by rw [show j+1+k+1=j+(k+1)+1 from by omega];exact hB (k+1) y (by simpa using hy));have hy:=hB 0 y rfl;obtain⟨recs0,d1,d2,d3,d4,d5⟩:=zvi (c:=c) (w':=w') olds hol;have s0:Jk c w' nx 0 (FB olds) olds [] [] recs0:= .lj d1 (by rw [d2];exact List.Sublist.refl _) d3 d4 fun c' ha _=>d5 c' ha;obtain⟨recs1,e1,e2,e3,e4,_,e5⟩:=Sc (c:=c) (nx:=nx) (mk:=DQ (.proj (.var r) (j+1)) true) hc 0 (Wu (by rw [←Ib];exact hy));have uJ:=hU _ _ hK;have s1:Jk c w' nx (A8 P ty).length ((T, .box ty g (CT P nx (DQ (.proj (.var r) (j+1)) true) 0 (A8 P ty) own').1)::(CT P nx (DQ (.proj (.var r) (j+1)) true) 0 (A8 P ty) own').2) [T] (b2::o1) f1 (⟨T,none, [b2], .box ty g (CT P nx (DQ (.proj (.var r) (j+1)) true) 0 (A8 P ty) own').1⟩::recs1):=by
    refine⟨by simp [e1,AW.pair], ?_,fun q hq hn=> ?_,fun q hq hn=> ?_,by simp,fun _ A1=> ?_,fun q hq=> ?_,fun c' ha Ax q hq=> ?_⟩
    ·simp only [List.flatMap_cons,e2,List.singleton_append];exact List.Sublist.refl _
    ·rcases Ag.1 hq with rfl|hq
     ·cases hn
     ·have:=e3 q hq;omega
    ·rcases Ag.1 hq with rfl|hq
     ·exact⟨by simp,uJ⟩
     ·have:=(e3 q hq).2.2;rw [hn]at this;cases this
    ·simp only [List.map_cons,List.nodup_cons];refine⟨fun hm=> ?_,e4⟩;obtain⟨q,hq,hqt⟩:=List.mem_map.1 hm;have:=e3 q hq;exact A1 q.tag (by omega) (by omega) (hqt▸uJ)
    ·rcases Ag.1 hq with rfl|hq
     ·simp
     ·intro hs f he;obtain⟨q1,q2⟩:=e3 q hq;have:(q.tag,q.bt)∈(CT P nx (DQ (.proj (.var r) (j+1)) true) 0 (A8 P ty) own').2:=by
       rw [e1];exact List.mem_map.2 ⟨q,hq,rfl⟩
      exact PZ _ _ _ _ _ this he
    ·obtain⟨p1,p2⟩:=e5 c' (ha.mono fun r hr=>by simp [hr]) Ax;rcases Ag.1 hq with rfl|hq
     ·obtain⟨a1,a2⟩:=ha.K T 0 hK;have kg:=ha.G _ (List.mem_cons_self ..);simp only at kg;exact⟨b2,C,a1,by rw [a2,hH,hv],by rw [kg],by rw [kg],by rw [ha.w];exact hh,CY,p1⟩
     ·exact p2 q hq
   refine⟨by simp [I6,h1],recs0++((⟨T,none, [b2], .box ty g (CT P nx (DQ (.proj (.var r) (j+1)) true) 0 (A8 P ty) own').1⟩::recs1)++recs2), ?_⟩;have s3:=s0.app (s1.app s2);rw [Nat.zero_add]at s3;refine⟨by simpa [after]using s3.ents,s3.nf,s3.new,fun q hq hn=> ?_,fun t ht=> ?_,fun hn A1=> ?_,s3.ne,s3.ok⟩
   ·have:=s3.old q hq hn;simp only [DO,List.cons_append,Ag,Ai,List.not_mem_nil,or_false,List.nil_append]at this ⊢;exact⟨by rcases this.1 with h|h|h;exact .inr (.inl h);exact .inl h;exact .inr (.inr h),this.2⟩
   ·refine s3.all t ?_;simp only [DO,List.cons_append,Ag,Ai,List.nil_append]at ht ⊢;rcases ht with h|h|h
    ·exact .inr (.inl h)
    ·exact .inl h
    ·exact .inr (.inr h)
   ·refine s3.nodup ?_ A1;simp only [DO,List.cons_append,List.nodup_cons,List.nodup_append,Ai,not_or,List.nil_append]at hn ⊢;obtain⟨⟨n1,n2⟩,n3,n4,n5⟩:=hn;refine⟨n3,⟨n2,n4⟩,fun a ha b hb=> ?_⟩;rcases Ag.1 hb with rfl|hb
    ·rintro rfl;exact n1 ha
    ·exact n5 a ha b hb
end
def Qu (P:Program):List TypeId→List Bool→List AV→Bool
 |t::ts,fl,y::ys=>((fl.headD false&&(CO P t).isSome)||CW P t||y.scalar)&&Qu P ts fl.tail ys
 |_,_,_=>true
def Yc (P:Program) (t:TypeId) (fl:List Bool) (x:AV):Bool:=if Hd P t fl then Qu P (A8 P t) fl (if Aq P t then x.cells else [x])else CW P t||x.cells.all AV.scalar
def dI (P:Program):List TypeId→List Bool→List AV→Bool
 |t::ts,fl,x::xs=>Yc P t fl x&&dI P ts (fl.drop (A8 P t).length) xs
 |_,_,_=>true
def Yi (P:Program) (ts:List TypeId) (fl:List Bool) (R:AV):Bool:=match ts with
 | [t]=>Yc P t fl R
 |ts=>match R with
  | .tup ys=>dI P ts fl ys
  |_=>true
def Jb (P:Program):List TypeId→List PM→List AV→Bool
 |t::ts,ms,bs=>(match ms.headD .ro with
  | .ro=>Jb P ts ms.tail bs
  | .va _=>Jb P ts ms.tail bs
  | .mu _=>Jb P ts ms.tail bs.tail
  | .bx _ own'=>(match KO P t,bs with
   |some ty,b::_=>Qu P (A8 P ty) own' b.cells
   |_,_=>true)&&Jb P ts ms.tail bs.tail)
 | [],_,_=>true
def BK:List TypeId→List PM→Bool
 |_::ts,ms=>(match ms.headD .ro with
  | .mu _=>true
  | .bx .. =>true
  |_=>false)||BK ts ms.tail
 | [],_=>false
def N6 (P:Program) (fn:Func) (s:HX) (r:AV):Bool:=
 if BK (fn.params.toList++s.ft) s.cy then(match r with
  | .tup (R::bs)=>Yi P fn.resultTypes.toList s.res R&&Jb P (fn.params.toList++s.ft) s.cy bs
  |_=>false)
 else Yi P fn.resultTypes.toList s.res r
def KP (P:Program) (w:World) (ts:List TypeId) (fl:List Bool) (v:Value) (R:AV) (f o:List Nat):Prop:=match ts with
 | [t]=>E6 P w t fl v R f o
 |ts=> ∃vs ys,v= .tuple vs.toArray∧R= .tup ys∧Jy P w ts fl vs ys f o
structure zJZ (P:Program) (fn:Func) (s:HX) (w:World) (vs:List Value) (rf hs:List Nat) (r:AV) (v:Value) (w':World):Prop where
 ex: ∃R bs f1 o1 f2 o2,r=(match bs with| []=>R|_=> .tup (R::bs))∧KP P w' fn.resultTypes.toList s.res v R f1 o1∧D5 P w' (fn.params.toList++s.ft) s.cy vs bs f2 o2∧(o1++o2).Nodup∧
  (∀b∈o1++o2,(b∈hs∨w.heap.size≤b)∧b<w'.heap.size)∧ ∀b∈f1++f2,b∉o1++o2∧(b∈rf∨b∈hs∨w.heap.size≤b)
 mod:Mod hs w w'
theorem Rel.od {c:Cx} {n:Nat} {sl:Nat→SV} {hp:Nat→Option Aj} {a:Act} (h:Rel c n sl hp a) {hs:List Nat} (hh: ∀b∈hs,∃t,b∈(c.G t).top):kT c.w (fun b=>b∈hs):=by
 obtain⟨p1,p2,p3⟩:=h.base.pk;refine⟨Nat.le_trans p1 h.base.size,F3.mono (fun b hb=>h.base.block b (by omega) fun hm=>by have:=p3 b hm;omega) p2,fun b hb=> ?_⟩;obtain⟨t,ht⟩:=hh b hb;rcases h.gw.allow t b (by simp [GI.own,ht])with k|k
 ·have:c.w0.heap.size≤b:=k;omega
 ·exact p3 b k
def TL (P:Program) (s:HX) (f:Nat) (xs:List AV) (r:AV):Prop:=
 ∃fn,P.funcs[f]?=some fn∧fn.body.isSome=true∧(fn.name== "runtime.NumGoroutine")=false∧N6 P fn s r=true∧xs.length=fn.params.size+fn.nfree∧s.ft.length≤fn.nfree∧
  ∀(w:World) (vs:List Value) (rf lf hs:List Nat),DP P w (fn.params.toList++s.ft) s.cy s.lo vs xs rf lf hs→(∀b∈hs,b∉rf)→(∀b∈hs,b∉lf)→hs.Nodup→kT w (fun b=>b∈hs)→
   Calls P f vs.toArray w fun e w'=> ∃v,e= .returned v∧zJZ P fn s w vs rf hs r v w'
def Ct (P:Program) (sg:BW) (f:Nat) (xs:List AV) (r:AV):Prop:=
 if f<1000000 then∃s,sg f=some s∧TL P s f xs r else TL P {cy:= [],res:= []} (f-1000000) xs r
section
variable {P:Program} {w:World}
theorem zp8 {v:Value} {x:AV} {f:List Nat} (h:Rd w [v] [x] f) (hx: ∀y∈x.cells,y.scalar=true):f= []:=by
 by_cases AE: ∃cs,x= .agg cs
 ·obtain⟨cs,rfl⟩:=AE;obtain⟨as_,_,_,hr⟩:=Kw h rfl;exact Im hr hx
 ·have:x.cells= [x]:=by cases x<;>first|rfl|exact absurd ⟨_,rfl⟩ AE
  rw [this]at hx;exact Im h hx
theorem zBZ {t el:TypeId} (h:CO P t=some el):CW P t=true:=by have hu:=KW h;simp [CW,Cf,A8,cX,hu]
theorem Cw.flat {ts:List TypeId} {fl:List Bool} {us:List Value} {ys:List AV} {rf hs:List Nat} (h:Cw P w ts fl us ys rf hs) (h1:E2 P ts fl=false) (h2:Qu P ts fl ys=true):rf= []:=by
 induction h with
 |nil=>rfl
 |own k1 k2 k23 _ _ ih=>
  simp only [E2,Bool.or_eq_false_iff]at h1;simp only [Qu,Ae]at h2;have hN:=k23;have hw:=h1.1;rw [zBZ k2,k1]at hw;rcases hN with⟨_,rfl⟩|⟨q1,q2⟩
  ·rw [ih h1.2 h2.2];rfl
  ·simp [X6,k2,q1,q2]at hw
 |deep _ _ _ _ _ _ ih=>simp only [E2,Bool.or_eq_false_iff]at h1;simp only [Qu,Ae]at h2;exact ih h1.2 h2.2
 | @rd t ts fl u us y ys f rf hs hn hr _ ih=>
  simp only [E2,Bool.or_eq_false_iff]at h1;simp only [Qu,Ae]at h2;have Dq:(fl.headD false&&(CO P t).isSome)=false:=by
   cases hh:fl.headD false with
   |false=>rfl
   |true=>rw [hn hh];rfl
  have gO:(fl.headD false&&X6 P t)=false:=by
   cases hh:fl.headD false with
   |false=>rfl
   |true=>simp [X6,hn hh]
  rw [gO]at h1;rw [Dq]at h2;have G3:CW P t=false:=by simpa using h1.1
  rw [G3]at h2;have hs:y.scalar=true:=by simpa using h2.1
  rw [Im hr (by simpa using hs),ih h1.2 h2.2];rfl
theorem E6.flat {t:TypeId} {fl:List Bool} {v:Value} {x:AV} {rf hs:List Nat} (h:E6 P w t fl v x rf hs) (h1:jU P t fl=false) (h2:Yc P t fl x=true):rf= []:=by
 unfold E6 at h;unfold jU at h1;unfold Yc at h2;split at h
 ·rename_i hf;rw [if_pos hf]at h1 h2;obtain⟨us,ys,hg,hc⟩:=h;split at hg
  ·rename_i AE;obtain⟨_,rfl,_⟩:=hg;rw [if_pos AE]at h2;exact hc.flat h1 h2
  ·rename_i AE;obtain⟨_,rfl⟩:=hg;rw [if_neg AE]at h2;exact hc.flat h1 h2
 ·rename_i hf;rw [if_neg hf]at h1 h2;rw [h1]at h2;exact zp8 h.1 (by simpa using h2)
theorem Jy.flat {ts:List TypeId} {fl:List Bool} {vs:List Value} {xs:List AV} {rf hs:List Nat} (h:Jy P w ts fl vs xs rf hs) (h1:DD P ts fl=false) (h2:dI P ts fl xs=true):rf= []:=by
 induction h with
 |nil=>rfl
 |cons hv _ ih=>simp only [DD,Bool.or_eq_false_iff]at h1;simp only [dI,Ae]at h2;rw [hv.flat h1.1 h2.1,ih h1.2 h2.2];rfl
theorem KP.flat {ts:List TypeId} {fl:List Bool} {v:Value} {R:AV} {f o:List Nat} (h:KP P w ts fl v R f o) (h1:DD P ts fl=false) (h2:Yi P ts fl R=true):f= []:=by
 match ts,h,h1,h2 with
 | [t],h,h1,h2=>simp only [DD,Bool.or_false]at h1;exact E6.flat h h1 h2
 | [],h,h1,h2=>obtain⟨vs,ys,_,rfl,hv⟩:=h;exact hv.flat h1 h2
 |t::u::ts,h,h1,h2=>obtain⟨vs,ys,_,rfl,hv⟩:=h;exact hv.flat h1 h2
theorem C6.void {ety sz:Nat} {a:Option Addr} {x:AV} {top N:List Nat} (h:C6 w ety sz (.slice a 0 0) x top N):N= []:=by
 obtain⟨xs,_,_,_,⟨_,_,_,h⟩|⟨g,cap,C,hv,h6,_,_,_,_,_,hr⟩⟩:=h
 ·exact h
 ·have h0:xs.length=0:=by injection hv with _ h _;exact h.symm
  have:xs= []:=by cases xs with|nil=>rfl|cons _ _=>simp at h0
  subst this;simp [AO]at hr;cases hr;rfl
theorem GU.flat {c:Cx} {ts:List TypeId} {fl:List Bool} {us:List Value} {rs:List (Option RI)} (h:Hf P c ts fl us rs): ∀{ys:List AV} {f o:List Nat},GU P w ts fl us ys f o→rs.any RI.lent=false→f= []:=by
 induction h with
 |nil=>intro ys f o hm _;cases hm;rfl
 |row k1 k2 k23 _ _ _ _ ih=>
  intro ys f o hm hl;simp only [List.any_cons,Bool.or_eq_false_iff,RI.lent]at hl;cases hm with
  |own _ q2 q23 _ q4=>
   rw [k2]at q2;cases q2;rcases q23 with⟨_,rfl⟩|⟨q,_⟩
   ·exact ih q4 hl.2
   ·rw [q]at hl;simp at hl
  |deep _ _ _ _ _ q=>exact ih q hl.2
  |skip _ q=>exact ih q hl.2
 |deep k1 k2 k21 k22 _ _ _ _ _ ih=>
  intro ys f o hm hl;simp only [List.any_cons,Bool.or_eq_false_iff]at hl;cases hm with
  |own _ q2 q23 _ q4=>
   rw [k2]at q2;cases q2;rcases q23 with⟨_,rfl⟩|⟨_,q⟩
   ·exact ih q4 hl.2
   ·rw [q]at k22;cases k22
  |deep _ _ _ _ _ q=>exact ih q hl.2
  |skip _ q=>exact ih q hl.2
 |none hv _ ih=>
  intro ys f o hm hl;simp only [List.any_cons,Bool.or_eq_false_iff]at hl;cases hm with
  |own q1 q2 _ q3 q4=>
   rcases hv q1 with hh|⟨a,rfl⟩
   ·rw [hh]at q2;cases q2
   ·rw [C6.void q3];exact ih q4 hl.2
  |deep _ _ _ _ _ q=>exact ih q hl.2
  |skip _ q=>exact ih q hl.2
theorem D5.flat {c:Cx} {ts:List TypeId} {ms:List PM} {vs:List Value} {bs:List PA} (h:Js P c ts ms vs bs): ∀{Bs:List AV} {f o:List Nat},D5 P w ts ms vs Bs f o→Ef P bs=false→Jb P ts ms Bs=true→f= []:=by
 induction h with
 |nil=>intro Bs f o hb _ _;cases hb;rfl
 | @ro ts ms v vs bs hm _ ih=>
  intro Bs f o hb h1 h2;cases hb with
  |nil=>rfl
  |ro _ h8=>simp only [Jb,hm]at h2;exact ih h8 h1 h2
  |va h9 _=>rw [hm]at h9;cases h9
  |mu h9 _ _ _=>rw [hm]at h9;cases h9
  |bx h9 _ _ _ _ _ _ _=>rw [hm]at h9;cases h9
 | @va ts ms own v vs bs us hm _ _ ih=>
  intro Bs f o hb h1 h2;cases hb with
  |nil=>rfl
  |ro h9 _=>rw [hm]at h9;cases h9
  |va _ h8=>simp only [Jb,hm]at h2;exact ih h8 h1 h2
  |mu h9 _ _ _=>rw [hm]at h9;cases h9
  |bx h9 _ _ _ _ _ _ _=>rw [hm]at h9;cases h9
 | @mu t ts ms own v vs bs us rs hm LN DK _ ih=>
  intro Bs f o hb h1 h2;cases hb with
  |ro h9 _=>rw [hm]at h9;cases h9
  |va h9 _=>rw [hm]at h9;cases h9
  | @mu _ _ _ own2 _ _ us2 ys y Bs f1 f o1 o h9 hg Ur h8=>
   rw [hm]at h9;cases h9;simp only [Jb,hm]at h2;simp only [Ef,Bool.or_eq_false_iff]at h1;have Pf:us2=us:=by
    split at LN
    ·rename_i AE;rw [if_pos AE]at hg;obtain⟨rfl,_⟩:=hg;exact zsL LN
    ·rename_i AE;rw [if_neg AE]at hg;rw [hg.1,LN]
   subst Pf;rw [GU.flat DK Ur h1.1,ih h8 h1.2 h2];rfl
  |bx h9 _ _ _ _ _ _ _=>rw [hm]at h9;cases h9
 | @bx t ts ms own own' ty v vs bs T b g olds hm Ev _ _ _ _ _ ih=>
  intro Bs f o hb h1 h2;cases hb with
  |ro h9 _=>rw [hm]at h9;cases h9
  |va h9 _=>rw [hm]at h9;cases h9
  |mu h9 _ _ _=>rw [hm]at h9;cases h9
  |bx h9 J2 _ _ _ hy hc h8=>rw [hm]at h9;cases h9;rw [Ev]at J2;cases J2;simp only [Jb,hm,Ev,Ae,hy,List.tail_cons]at h2;simp only [Ef,Bool.or_eq_false_iff]at h1;rw [hc.flat h1.1 h2.1,ih h8 h1.2 h2.2];rfl
theorem pI {ts:List TypeId} {ms:List PM} {vs:List Value} {Bs:List AV} {f o:List Nat} (h:D5 P w ts ms vs Bs f o):Bs= []↔BK ts ms=false:=by
 induction h with
 |nil=>simp [BK]
 |ro hm _ ih=>simp only [BK,hm,Bool.false_or];exact ih
 |va hm _ ih=>simp only [BK,hm,Bool.false_or];exact ih
 |mu hm _ _ _ _=>simp only [BK,hm,Bool.true_or];simp
 |bx hm _ _ _ _ _ _ _ _=>simp only [BK,hm,Bool.true_or];simp
end
section
variable {P:Program} {c:Cx} {n nx:Nat} {sl sl0:Nat→SV} {hp hp0:Nat→Option Aj} {a:Act} {o:Oper} {gs:Gd} {e:A7} {sg:BW} {nv:Nat}
theorem zyl {xs:List Operand}: ∀{ss:List SV},(∀x∈xs,∀s,BS sl0 gs x=some s→SR c [s] [a.eval x])→xs.mapM (BS sl0 gs)=some ss→SR c ss (xs.map a.eval):=by
 induction xs with
 |nil=>intro ss _ h;simp at h;subst h;exact .nil
 |cons x xs ih=>intro ss hx h;rw [List.mapM_cons]at h;simp only [Option.bind_eq_bind,Aw,Option.pure_def,Ah]at h;obtain⟨s,hs,ss',GH,rfl⟩:=h;exact(hx x (by simp) s hs).cons (ih (fun y hy=>hx y (by simp [hy])) GH)
theorem S2: ∀{l:List Nat},MA l=true→l.Nodup
 | [],_=>by simp
 |x::l,h=>by simp only [MA,Ae,Bool.not_eq_true',List.contains_eq_mem,decide_eq_false_iff_not]at h;exact List.nodup_cons.2 ⟨h.1,S2 h.2⟩
theorem zBS {c1:Cx} {w':World} {recs:List AW} {hs f o:List Nat} (gw:GW c) (hg: ∀t,(c1.G t).top=(c.G t).top∨(c1.G t).top= []) (hA:c1.A=c.A) (dX:c1.Mu=c.Mu) (KK:c1.w0=c.w0) (hB:c.w0.heap.size≤c.w.heap.size)
  (hn:(recs.map AW.tag).Nodup) (CF: ∀r∈recs,∀b∈r.top,b∈o) (Hx: ∀b∈hs,∃r∈recs,b∈(c.G r.tag).top) {rf:List Nat} (M3: ∀b∈rf,c1.ok b) (hf: ∀b∈f,b∉o∧(b∈rf∨b∈hs∨c.w.heap.size≤b)): ∀b∈f,(c1.dz w' recs).ok b:=by
 intro b hb;obtain⟨h1,h2⟩:=hf b hb;have hM:(c1.dz w' recs).M b→ ∃t,(∀r∈recs,r.tag≠t)∧b∈(c1.G t).top:=by
  rintro⟨t,ht⟩;by_cases hT: ∃r∈recs,r.tag=t
  ·obtain⟨r,hr,rfl⟩:=hT;rw [Cx.en hn hr]at ht;exact absurd (CF r hr b ht) h1
  ·rw [Cx.dj fun r hr hh=>hT ⟨r,hr,hh⟩]at ht;exact⟨t,fun r hr hh=>hT ⟨r,hr,hh⟩,ht⟩
 have sub: ∀t,b∈(c1.G t).top→b∈(c.G t).top:=fun t ht=>by
  rcases hg t with hh|hh
  ·rw [←hh];exact ht
  ·rw [hh]at ht;simp at ht
 rcases h2 with h2|h2|h2
 ·refine⟨fun hm=> ?_,(M3 b h2).2⟩;obtain⟨t,_,ht⟩:=hM hm;exact(M3 b h2).1 ⟨t,ht⟩
 ·obtain⟨r,hr,XH⟩:=Hx b h2;refine⟨fun hm=> ?_, .inr ?_⟩
  ·obtain⟨t,Ft,ht⟩:=hM hm;exact gw.cz r.tag t (Ft r hr) b (by simp [GI.own,XH]) (by simp [GI.own,sub t ht])
  ·have:=gw.allow r.tag b (by simp [GI.own,XH]);simp only [Cx.dz,Cx.B,KK,dX]at this ⊢;exact this
 ·refine⟨fun hm=> ?_, .inr (.inl ?_)⟩
  ·obtain⟨t,_,ht⟩:=hM hm;have:=gw.inb t b (by simp [GI.own,sub t ht]);omega
  ·simp only [Cx.dz,Cx.B,KK];omega
theorem zDj (h:Bx P c n nx sl hp a sl0 hp0 o gs) {cl:Call} {fo:Operand} (ho:o.op= .call cl) (AG:cl.callee= .value fo) {g:Nat} {caps:BA} (hf:BS sl0 gs fo=some (.fn g caps)) {as_:List SV} (has:cl.args.toList.mapM (BS sl0 gs)=some as_)
  (hg:g<1000000) (he:W7 P sg hp0 gs nv nx g (as_++caps.toList)=some e) (Bh: ∀c',e.call=some c'→ ∃r,c.ρ[nv]?=some r∧I0 (Ct P sg) c'.fn ((EL.of c'.args).den c.ρ) c.ρ r):AB P o c n nx sl hp gs a e:=by
 have gG:fo∈o.op.operands:=by simp [ho,Op.operands,Call.operands,AG]
 have gF: ∀x∈cl.args.toList,x∈o.op.operands:=fun x hx=>by
  have:x∈cl.args:=by simpa using hx
  simp [ho,Op.operands,Call.operands,AG,this]
 have M3:=h.db hf gG;generalize fF:a.eval fo=fv at M3;cases M3 with
 |fn T6 h8=>
 rename_i capv;have Az:=(zyl (a:=a) (fun x hx s hs=>h.db hs (gF x hx)) has).app T6;unfold W7 at he;split at he
 ·rename_i fn s Hu J6;split at he
  ·cases he
  rename_i hlen;simp only [Bool.or_eq_true,not_or,Bool.not_eq_true,bne_eq_false_iff_eq]at hlen;split at he
  ·cases he
  rename_i es bs us uz A9;split at he
  ·cases he
  rename_i Cl;simp only [Bool.or_eq_true,Bool.not_eq_true',not_or,Bool.not_eq_false,Bool.not_eq_true]at Cl;obtain⟨⟨gM,Uv⟩,Uw⟩:=Cl;have Ux:=S2 gM;have Hp: ∀u∈us,u∉DO bs:=fun u hu hh=>by rw [List.any_eq_false]at Uv;have:=Uv u hu;simp only [List.contains_eq_mem,decide_eq_true_eq]at this;exact this hh
  have Lv: ∀u∈uz,u∉DO bs:=fun u hu hh=>by rw [List.any_eq_false]at Uw;have:=Uw u hu;simp only [List.contains_eq_mem,decide_eq_true_eq]at this;exact this hh
  simp only at he;split at he
  ·cases he
  rename_i Cd;simp only [Nat.not_le]at Cd;split at he
  ·cases he
  rename_i JY;split at he
  ·cases he
  rename_i fz Hv;have hK: ∀t g,c.K t g→c.U t:=h.rel.ch;obtain⟨rf,lf,hs,q1,q2,qz,q3,q4,q5,q6⟩:=zxT (P:=P) h.rel.base h.eh h.gs hK (as_++caps.toList) A9 Az (by rw [hlen.1.2,Ar,Array.length_toList];have:=hlen.2;simp only [decide_eq_false_iff_not,Nat.not_lt]at this;omega);obtain⟨fts,H4,Ug⟩: ∃fts,DR hp0 gs fts=some fz∧ ∀t∈fts,t∈us:=by
   split at Hv
   ·exact⟨us,Hv,fun t ht=>ht⟩
   ·simp only [Ah]at Hv;subst Hv;exact⟨[],rfl,by simp⟩
  have Dr:=h.rel.freeze h.hp h.gs H4;have MN: ∀t∈fz.map (·.1),t∈us:=fun t ht=>by obtain⟨⟨t',e'⟩,hm,rfl⟩:=List.mem_map.1 ht;exact Ug _ ((PV h.gs H4).1 t' e' hm).1
  have TT: ∀t,((c.cc (fz.map (·.1))).G t).top=(c.G t).top∨((c.cc (fz.map (·.1))).G t).top= []:=fun t=>by
   simp only [Cx.cc];split
   ·exact .inr rfl
   ·exact .inl rfl
  have hGh: ∀t∈DO bs,(c.cc (fz.map (·.1))).G t=c.G t:=fun t ht=>by simp only [Cx.cc];rw [if_neg];intro hh;exact Hp t (MN t hh) ht
  have tU: ∀t∈DO bs,(c.cc (fz.map (·.1))).E t=c.E t:=fun t ht=>by simp only [Cx.cc];rw [if_neg];intro hh;exact Hp t (MN t hh) ht
  have iD:hs.Nodup:=by
   rw [q3];have: ∀l:List Nat,l.Nodup→(l.flatMap fun t=>(c.G t).top).Nodup:=by
    intro l
    induction l with
    |nil=>intro _;simp
    |cons t l ih=>intro hl;rw [List.nodup_cons]at hl;rw [List.flatMap_cons,List.nodup_append];refine⟨(List.nodup_append.1 (h.rel.gw.nodup t)).1,ih hl.2,fun x hx y hy HG=> ?_⟩;subst HG;obtain⟨u,hu,iV⟩:=List.mem_flatMap.1 hy;exact h.rel.gw.cz t u (fun hh=>hl.1 (hh▸hu)) x (by simp [GI.own,hx]) (by simp [GI.own,iV])
   exact this _ Ux
  have JU: ∀b∈hs,∃t∈DO bs,b∈(c.G t).top:=fun b hb=>by rw [q3]at hb;exact List.mem_flatMap.1 hb
  have Gu: ∀b∈hs,b∉rf:=fun b hb hr=>by
   obtain⟨t,ht,CI⟩:=JU b hb;rcases q2 b hr with hh|⟨u,hu,IA⟩
   ·exact hh.1 ⟨t,CI⟩
   ·exact h.rel.gw.cz t u (fun hh=>Hp u hu (hh▸ht)) b (by simp [GI.own,CI]) (by simp [GI.own,IA])
  have JO: ∀b∈hs,b∉lf:=fun b hb hr=>by
   obtain⟨t,ht,CI⟩:=JU b hb;rcases qz b hr with(hh|⟨u,hu,IA⟩)|⟨h1,h2⟩
   ·exact hh.1 ⟨t,CI⟩
   ·exact h.rel.gw.cz t u (fun hh=>Lv u hu (hh▸ht)) b (by simp [GI.own,CI]) (by simp [GI.own,IA])
   ·rcases h.rel.gw.allow t b (by simp [GI.own,CI])with k|k
    ·have:c.w0.heap.size≤b:=k;omega
    ·exact h2 k
  have FE: ∃(val:SV) (l:List (Nat × Aj)),e={call:=some ⟨.inl g,es⟩,val:=val,bt:=fz++(U4 gs l++after P nv (nx+(fn.resultTypes.toList.flatMap (A8 P)).length) bs 0)}∧
    ∀(R:AV) (w':World) (v:Value) (f1 o1:List Nat),KP P w' fn.resultTypes.toList s.res v R f1 o1→(if I6 bs=0 then E.var nv else .proj (.var nv) 0).den c.ρ=R→ ∃recs:List AW,l=recs.map AW.pair∧recs.flatMap AW.top=o1∧(∀r∈recs,nx≤r.tag∧r.tag<nx+(fn.resultTypes.toList.flatMap (A8 P)).length∧r.new.isSome)∧(recs.map AW.tag).Nodup∧
     (∀r∈recs,∀hs f,r.bt≠ .gd hs f)∧ ∀c',Fo c c' w' recs→(∀b∈f1,c'.ok b)→SR c' [val] [v]∧ ∀r∈recs,Dm c' r.tag r.bt:=by
   have A2: ∀{l:List (Nat × Aj)} {recs:List AW},l=recs.map AW.pair→(∀t x,(t,x)∈l→ ∀hs f,x≠ .gd hs f)→ ∀r∈recs,∀hs f,r.bt≠ .gd hs f:=by rintro l recs rfl hh r hr;exact hh r.tag r.bt (List.mem_map.2 ⟨r,hr,rfl⟩)
   have fvne: ∀(t:TypeId) (k:Nat) (fl:List Bool) (x:E) (u:Nat) (y:Aj),(u,y)∈(Qc P k t fl x).2→ ∀hs f,y≠ .gd hs f:=by
    intro t k fl x u y hy hs f;unfold Qc at hy;split at hy
    ·exact PZ _ _ _ _ _ hy
    ·simp at hy
   split at he
   ·rename_i t UN;simp only [Ah]at he;subst he;refine⟨_,_,rfl,fun R w' v f1 o1 hr hR=> ?_⟩;rw [UN]at hr;obtain⟨recs,e1,e2,e3,e4,e5⟩:=zp3 (c:=c) (nx:=nx) (x:=if I6 bs=0 then E.var nv else .proj (.var nv) 0) (show E6 P w' t s.res v R f1 o1 from hr) hR;exact⟨recs,e1,e2,by simpa [UN]using e3,e4,A2 e1 (fvne _ _ _ _),e5⟩
   ·rename_i UN;simp only [Ah]at he;subst he;refine⟨_,_,rfl,fun R w' v f1 o1 hr hR=> ?_⟩;obtain⟨vs,ys,rfl,rfl,hv⟩: ∃vs ys,v= .tuple vs.toArray∧R= .tup ys∧Jy P w' fn.resultTypes.toList s.res vs ys f1 o1:=by
     unfold KP at hr;split at hr
     ·rename_i t ht;exact absurd ht (UN t)
     ·exact hr
    obtain⟨recs,e1,e2,e3,e4,e5⟩:=zux (c:=c) (x:=if I6 bs=0 then E.var nv else .proj (.var nv) 0) hv nx 0 (fun k y hy=>by show AV.proj ((if I6 bs=0 then E.var nv else .proj (.var nv) 0).den c.ρ) (0+k)=y;rw [hR];simp [AV.proj,hy])
    have fvsne: ∀(ts:List TypeId) (k:Nat) (fl:List Bool) (x:E) (i u:Nat) (y:Aj),(u,y)∈(NQ P k ts fl x i).2→ ∀hs f,y≠ .gd hs f:=by
     intro ts
     induction ts with
     |nil=>intro k fl x i u y hy;simp [NQ]at hy
     |cons t ts ih=>
      intro k fl x i u y hy;simp only [NQ,Ai]at hy;rcases hy with hy|hy
      ·exact fvne _ _ _ _ _ _ hy
      ·exact ih _ _ _ _ _ _ hy
    exact⟨recs,e1,e2,e3,e4,A2 e1 (fvsne _ _ _ _ _),fun c' ha Ax=>⟨.tup (by rw [BA.bc];exact(e5 c' ha Ax).1) .nil,(e5 c' ha Ax).2⟩⟩
  obtain⟨val,l,rfl,Pa⟩:=FE;obtain⟨r,hr,Ax⟩:=Bh _ rfl;have O9: ∃s',sg g=some s'∧TL P s' g ((EL.of es).den c.ρ) r:=by have Ax:Ct P sg g ((EL.of es).den c.ρ) r:=Ax;unfold Ct at Ax;rwa [if_pos hg]at Ax
  obtain⟨s',Bk,fn',JS,Ec,Ee,BC,_,_,FW⟩:=O9;rw [J6]at Bk;cases Bk;rw [Hu]at JS;cases JS;rw [EL.dt]at FW;have Bh:=FW c.w _ rf lf hs q1 Gu JO iD (h.rel.od fun b hb=>by obtain⟨t,_,ht⟩:=JU b hb;exact⟨t,ht⟩);have ex:(execOp a.eval o).run P c.w= .ok (.enter g (cl.args.map a.eval++capv.toArray)) c.w:=by
   have hb:fn.body.isNone=false:=by simpa using Ec
   simp only [execOp,ho,resolve,AG,fF,Deferred.ofValue,Sem.run_bind,Sem.run_pure,Result.andThen_ok,invoke,callFunc,run_program,Hu];simp [Ee,hb]
  intro next Q hk
  unfold Oper.wp;rw [ex,Oper.upon_enter];have Oz:cl.args.map a.eval++capv.toArray=((cl.args.toList.map a.eval)++capv).toArray:=by apply Array.ext';simp
  rw [Oz];refine Bh.mono ?_;rintro e' w' ⟨v,rfl,⟨R,Bs,f1,o1,f2,o2,LJ,AR,FD,Hz,UA,Ue⟩,DB⟩;show next (a.put o.dst v) w'
  have hBn: ∀k y,Bs[k]?=some y→(E.proj (.var nv) (0+k+1)).den c.ρ=y:=by
   intro k y hy;cases Bs with
   |nil=>simp at hy
   |cons B Bs=>simp only [E.den,hr,Option.getD_some,LJ,AV.proj,Nat.zero_add,List.getElem?_cons_succ,hy]
  obtain⟨Ut,recsB,hB⟩:=zBy (w':=w') q4 hK (r:=nv) (nx+(fn.resultTypes.toList.flatMap (A8 P)).length) 0 FD hBn;have hR:(if I6 bs=0 then E.var nv else .proj (.var nv) 0).den c.ρ=R:=by
   cases Bs with
   |nil=>rw [if_pos (by simpa using Ut.symm)];simp only [E.den,hr,Option.getD_some,LJ]
   |cons B Bs=>rw [if_neg (by rw [←Ut];simp)];simp [E.den,hr,LJ,AV.proj]
  obtain⟨recsV,v1,v2,v3,v4,v5,v6⟩:=Pa R w' v f1 o1 AR hR;have GA: ∀t,nx≤t→t<nx+((fn.resultTypes.toList.flatMap (A8 P)).length+K7 P bs)→ ¬c.U t:=fun t h1 h2=>h.new t h1 (by omega);have TR:=hB.nodup Ux fun t h1 h2=>GA t (by omega) (by omega);have CX:((recsV++recsB).map AW.tag).Nodup:=by
   rw [List.map_append,List.nodup_append];refine⟨v4,TR,fun t1 h1 t2 h2 he=> ?_⟩;obtain⟨p1,gS,rfl⟩:=List.mem_map.1 h1;obtain⟨p2,XN,rfl⟩:=List.mem_map.1 h2;have a1:=v3 p1 gS;cases hn:p2.new with
   |none=>exact GA p1.tag (by omega) (by omega) (he▸(hB.old p2 XN hn).2)
   |some _=>have:=hB.new p2 XN (by simp [hn]);omega
  have H7: ∀r∈recsV++recsB,r.new.isSome=true→nx≤r.tag∧r.tag<nx+((fn.resultTypes.toList.flatMap (A8 P)).length+K7 P bs):=fun r hr hn=>by
   rcases Ai.1 hr with hr|hr
   ·have:=v3 r hr;omega
   ·have:=hB.new r hr hn;omega
  have E1:((recsV++recsB).flatMap AW.top).Sublist (o1++o2):=by rw [List.flatMap_append,v2];exact(List.Sublist.refl _).append hB.nf
  have fM: ∀b∈hs,∃r∈recsV++recsB,b∈(c.G r.tag).top:=fun b hb=>by obtain⟨t,ht,CI⟩:=JU b hb;obtain⟨r,hr,rfl⟩:=hB.all t ht;exact⟨r,by simp [hr],CI⟩
  have Um: ∀b∈hs,∃r∈recsV++recsB,b∈((c.cc (fz.map (·.1))).G r.tag).top:=fun b hb=>by obtain⟨t,ht,CI⟩:=JU b hb;obtain⟨r,hr,rfl⟩:=hB.all t ht;exact⟨r,by simp [hr],by rw [hGh _ ht];exact CI⟩
  have J8: ∀r∈recsV++recsB,∀b∈r.top,b∈o1++o2:=fun r hr b hb=>E1.subset (List.mem_flatMap.2 ⟨r,hr,hb⟩);have O4: ∀b∈f1++f2,((c.cc (fz.map (·.1))).dz w' (recsV++recsB)).ok b:=by
   cases XU:(DD P fn.resultTypes.toList s.res||Ef P bs)with
   |false=>
    simp only [Bool.or_eq_false_iff]at XU;have EC:Yi P fn.resultTypes.toList s.res R=true∧Jb P (fn.params.toList++s.ft) s.cy Bs=true:=by
     unfold N6 at BC;cases Ow:Bs with
     |nil=>
      rw [if_neg (by rw [(pI FD).1 Ow];simp)]at BC;rw [Ow]at LJ;rw [LJ]at BC;refine⟨BC, ?_⟩;have: ∀(ts:List TypeId) (ms:List PM),Jb P ts ms []=true:=by
       intro ts
       induction ts with
       |nil=>intro ms;rfl
       |cons t ts ih=>
        intro ms;unfold Jb;split
        ·exact ih _
        ·exact ih _
        ·exact ih _
        ·split
         ·rename_i hh;cases hh
         ·simpa using ih _
      exact this _ _
     |cons B Bs'=>
      rw [if_pos (by
       cases hh:BK (fn.params.toList++s.ft) s.cy with
       |true=>rfl
       |false=>rw [(pI FD).2 hh]at Ow;cases Ow)]at BC
      rw [LJ,Ow]at BC;simpa using BC
    have e1:f1= []:=AR.flat XU.1 EC.1;have e2:f2= []:=D5.flat q4 FD XU.2 EC.2;subst e1;subst e2;simp
   |true=>rw [XU]at JY Hv;simp only [Bool.true_and,Bool.not_eq_true',Bool.not_eq_false]at JY;simp only [if_true]at Hv;exact zBS (rf:=rf) h.rel.gw TT rfl rfl rfl h.rel.base.size CX J8 fM (fun b hb=>Wq h.rel h.eh h.gs Hv (by simpa using JY) (q2 b hb)) Ue
  have Uc:after P nv (nx+(fn.resultTypes.toList.flatMap (A8 P)).length) bs 0=recsB.map fun r=>(r.tag,CU gs r.bt):=by
   cases T2:bs with
   |nil=>
    have:=hB.ents;rw [T2]at this;simp only [after]at this;have:recsB= []:=by simpa using this.symm
    rw [this];rfl
   |cons b bs'=>have Fq:=q6 (by rw [T2];simp);rw [←T2,hB.ents,Fq];rfl
  have Bq:U4 gs l++after P nv (nx+(fn.resultTypes.toList.flatMap (A8 P)).length) bs 0=(recsV++recsB).map fun r=>(r.tag,CU gs r.bt):=by rw [Uc,List.map_append];congr 1;rw [v1];simp [U4,AW.pair]
  obtain⟨FG,BY⟩:=Dr.changes (w':=w') (recs:=recsV++recsB) (hs:=hs) (gs:=gs) h.gs DB CX (fun r hr hn=>by have:=H7 r hr hn;exact GA _ this.1 this.2) Um (E1.nodup Hz) (fun r hr b hb=>UA b (J8 r hr b hb))
   (fun r hr=>by
    rcases Ai.1 hr with hr|hr
    ·exact v5 r hr
    ·exact hB.ne r hr)
   (fun _ r hr=>by
    have aft:=Cx.ed (c:=c.cc (fz.map (·.1))) (w':=w') (recs:=recsV++recsB) h.rel.ch CX (fun r hr hn=>by have:=H7 r hr hn;exact GA _ this.1 this.2);have aft':Fo c ((c.cc (fz.map (·.1))).dz w' (recsV++recsB)) w' (recsV++recsB):=⟨aft.ρ,aft.w,aft.G,aft.new,aft.K,aft.old,aft.ll,fun r hr Dq=>(aft.jn r hr Dq).trans (by
     rcases Ai.1 hr with hr|hr
     ·have:=(v3 r hr).2.2;rw [Dq]at this;cases this
     ·rw [tU _ (hB.old r hr Dq).1])⟩
    rcases Ai.1 hr with hr|hr
    ·exact(v6 _ (aft'.mono fun r hr=>by simp [hr]) fun b hb=>O4 b (by simp [hb])).2 r hr
    ·exact hB.ok _ (aft'.mono fun r hr=>by simp [hr]) (fun b hb=>O4 b (by simp [hb])) r hr)
  have aft:=Cx.ed (c:=c.cc (fz.map (·.1))) (w':=w') (recs:=recsV++recsB) h.rel.ch CX (fun r hr hn=>by have:=H7 r hr hn;exact GA _ this.1 this.2);have aft':Fo c ((c.cc (fz.map (·.1))).dz w' (recsV++recsB)) w' (recsV++recsB):=⟨aft.ρ,aft.w,aft.G,aft.new,aft.K,aft.old,aft.ll,fun r hr Dq=>(aft.jn r hr Dq).trans (by
     rcases Ai.1 hr with hr|hr
     ·have:=(v3 r hr).2.2;rw [Dq]at this;cases this
     ·rw [tU _ (hB.old r hr Dq).1])⟩
  have Ka:=(v6 _ (aft'.mono fun r hr=>by simp [hr]) fun b hb=>O4 b (by simp [hb])).1;rw [←Bq,←Qf]at FG;refine hk _ ((c.cc (fz.map (·.1))).dz w' (recsV++recsB)) ⟨rfl,rfl,rfl,rfl,fun t ht=> ?_⟩ (FG.put (Ka.mkGd gs h.gs) o.dst);rcases ht with ht|⟨r,hr,rfl⟩
  ·exact .inl ht
  ·cases hn:r.new with
   |none=>
    rcases Ai.1 hr with hr|hr
    ·have:=(v3 r hr).2.2;rw [hn]at this;cases this
    ·exact .inl (hB.old r hr hn).2
   |some _=>have:=H7 r hr (by simp [hn]);exact .inr ⟨this.1,by simp only [BM];omega⟩
 ·cases he
end
def Cp (c:Cx) (us:List Nat):List Nat:=us.flatMap fun t=>(c.G t).top
theorem pO (c:Cx):Cp c []= []:=rfl
theorem aU (c:Cx) (u:Nat) (us:List Nat):Cp c (u::us)=(c.G u).top++Cp c us:=by simp [Cp]
theorem Km (c:Cx) (us vs:List Nat):Cp c (us++vs)=Cp c us++Cp c vs:=by simp [Cp]
theorem SW {c:Cx} {us:List Nat} {b:Nat}:b∈Cp c us↔ ∃t∈us,b∈(c.G t).top:=by simp [Cp]
theorem aC {c:Cx} (gw:GW c): ∀{l:List Nat},l.Nodup→(Cp c l).Nodup
 | [],_=>by simp [Cp]
 |t::l,hl=>by
  rw [aU,List.nodup_append];rw [List.nodup_cons]at hl;refine⟨?_,aC gw hl.2,fun a ha b hb Lu=> ?_⟩
  ·have:=gw.nodup t;simp only [GI.own]at this;exact(List.nodup_append.1 this).1
  ·subst Lu;obtain⟨u,hu,IA⟩:=SW.1 hb;exact gw.cz t u (fun hh=>hl.1 (hh▸hu)) a (by simp [GI.own,ha]) (by simp [GI.own,IA])
section
variable {P:Program} {c:Cx} {hp:Nat→Option Aj} {gs:Gd}
theorem rM {m:Nat} {u g:Nat} {x y:E} (hx:Bw hp gs m (.own u g)=some x) (hy:IU hp gs u g=some y):x=y:=by
 cases m with
 |zero=>simp [Bw]at hx
 |succ m=>simp only [Bw,hy,Ah]at hx;exact hx.symm
theorem vV {m:Nat} {x:E} (h:Bw hp gs m .emp=some x):x= .lst .nil:=by
 cases m with
 |zero=>simp [Bw]at h
 |succ m=>simp [Bw]at h;exact h.symm
theorem zzb (eh:EH c hp) (k:Bm c.ρ gs) {d:DT} {s:SV} {us:List Nat} {ck:List Cn} {v:Value} {x:E} {m:Nat} (h:jM hp gs d s=some (us,ck)) (hs:SR c [s] [v]) (hx:Bw hp gs m s=some x) (hc: ∀q∈ck,q.den c.ρ):
  DC c.w [d] [v] [x.den c.ρ] (Cp c us)∧ ∀u∈us,∃g,c.K u g:=by
 unfold jM at h;split at h
 ·rename_i y;simp only [Ah,Prod.mk.injEq]at h;obtain⟨rfl,rfl⟩:=h;rw [Lh hx];cases hs with
  |e h1 h2 h3=>
   rename_i f;have Fv:(y.den c.ρ).scalar=true:=by
    cases hl:Va y with
    |true=>cases y<;>simp [Va]at hl<;>rfl
    |false=>rw [hl]at hc;exact(BX hc).2.2.2 rfl
   have hf:f= []:=Im h1 (by simpa using Fv);subst hf;exact⟨.flat h1 .nil,by simp⟩
 ·split at h
  ·rename_i hh;simp only [Ah,Prod.mk.injEq]at h;obtain⟨rfl,rfl⟩:=h;rw [Md hx];cases hs with
   |cq _=>exact⟨.void hh.1 hh.2 .nil,by simp⟩
  ·cases h
 ·split at h
  ·rename_i hh;simp only [Ah,Prod.mk.injEq]at h;obtain⟨rfl,rfl⟩:=h;rw [vV hx];cases hs with
   |emp _=>exact⟨.void hh.1 hh.2 .nil,by simp⟩
  ·cases h
 ·rename_i e z l u g;split at h
  ·rename_i e' z' l' g' ep y hl;split at h
   ·rename_i hh;obtain⟨rfl,rfl,rfl,hb⟩:=hh;simp only [Ah,Prod.mk.injEq]at h;obtain⟨rfl,rfl⟩:=h;obtain⟨q1,q2,q3,q4,q5⟩:=eh u _ (C5 hl k);rw [rM (y:=y) hx (by simp only [IU,hl,if_true])];have hb:=AY.of_eq hb;subst hb;rw [AY.c8]at q4;cases hs with
    |own k1 k2 _=>rw [k2]at q4;exact⟨by rw [aU,pO,List.append_nil];exact q4,fun w hw=>by simp at hw;subst hw;exact⟨_,k1⟩⟩
   ·cases h
  ·rename_i e' z' g' y hl;split at h
   ·rename_i hh;obtain⟨rfl,rfl,rfl,hf,hlen⟩:=hh;simp only [Ah,Prod.mk.injEq]at h;obtain⟨rfl,rfl⟩:=h;obtain⟨q1,q2,N,q4,q5,q6,q7⟩:=eh u _ (C5 hl k);obtain⟨hN,_⟩:=q6 rfl;have hN:N= []:=hN;subst hN;rw [rM (y:=y) hx (by simp only [IU,hl,if_true])];cases hs with
    |own k1 k2 _=>rw [k2]at q4;exact⟨by rw [aU,pO,List.append_nil];exact DC.mg q4 hf hlen,fun w hw=>by simp at hw;subst hw;exact⟨_,k1⟩⟩
   ·cases h
  ·cases h
 ·cases h
theorem pA (eh:EH c hp) (k:Bm c.ρ gs): ∀(ds:List DT) {ss:List SV} {us:List Nat} {ck:List Cn} {vs:List Value} {xs:EL} {m:Nat},Of hp gs ds ss=some (us,ck)→SR c ss vs→Cz hp gs m ss=some xs→(∀q∈ck,q.den c.ρ)→
  DC c.w ds vs (xs.den c.ρ) (Cp c us)∧ ∀u∈us,∃g,c.K u g
 | [], [],us,ck,vs,xs,m,h,hs,hx,hc=>by
  simp [Of]at h;obtain⟨rfl,rfl⟩:=h;cases hs;cases m with
  |zero=>simp [Cz]at hx
  |succ m=>simp [Cz]at hx;subst hx;exact⟨.nil,by simp⟩
 | [],_::_,us,ck,vs,xs,m,h,hs,hx,hc=>by simp [Of]at h
 |_::_, [],us,ck,vs,xs,m,h,hs,hx,hc=>by simp [Of]at h
 |d::ds,s::ss,us,ck, [],xs,m,h,hs,hx,hc=>by have:=hs.len;simp at this
 |d::ds,s::ss,us,ck,v::vs,xs,m,h,hs,hx,hc=>by
  obtain⟨j,y,ys,rfl,hy,DF,rfl⟩:=KX hx;obtain⟨r1,r2⟩:=hs.cr;unfold Of at h;split at h
  ·rename_i us1 ck1 us2 ck2 h1 h2;simp only [Ah,Prod.mk.injEq]at h;obtain⟨rfl,rfl⟩:=h;obtain⟨q1,q2⟩:=zzb eh k h1 r1 hy fun q hq=>hc q (by simp [hq]);obtain⟨q3,q4⟩:=pA eh k ds h2 r2 DF fun q hq=>hc q (by simp [hq]);refine⟨by rw [Km];exact q1.app q3,fun u hu=> ?_⟩;rcases Ai.1 hu with hu|hu
   ·exact q2 u hu
   ·exact q4 u hu
  ·cases h
theorem zsh (eh:EH c hp) (k:Bm c.ρ gs) {t:TypeId} {ds:List DT} {s:SV} {us:List Nat} {ck:List Cn} {v:Value} {x:E} (Hr:ds.length=P.cellsOf t) (hg:Aq P t=true∨P.cellsOf t=1) (h:TC P hp gs t ds s=some (x,us,ck)) (hs:SR c [s] [v]) (hc: ∀q∈ck,q.den c.ρ):
  DC c.w ds v.cells.toList (x.den c.ρ).cells (Cp c us)∧(∀u∈v.cells.toList,u.oneCell'=true)∧(x.den c.ρ).cells.length=P.cellsOf t∧v.cells.size=P.cellsOf t∧
   (if Aq P t then∃cs,x.den c.ρ= .agg cs else(∀cs,x.den c.ρ≠ .agg cs)∧ ∀cs,x.den c.ρ≠ .tup cs)∧ ∀u∈us,∃g,c.K u g:=by
 unfold TC at h;split at h
 ·cases h
 rename_i y hy;split at h
 ·rename_i EC;simp only [Ah,Prod.mk.injEq]at h;obtain⟨rfl,rfl,rfl⟩:=h;obtain⟨f,q1,q2⟩:=Io eh k A3 hy hs A3 (Nat.le_refl _);obtain⟨c1,c2,c3,c4⟩:=BX hc;have FE:if Aq P t then∃cs,y.den c.ρ= .agg cs∧cs.length=P.cellsOf t else(∀cs,y.den c.ρ≠ .agg cs)∧ ∀cs,y.den c.ρ≠ .tup cs:=by
   split
   ·rename_i AE;obtain⟨cs,Bp⟩:=c3 AE;exact⟨cs,Bp,by rw [Bp]at c1;exact c1⟩
   ·rename_i AE;have:=c4 (by simpa using AE);exact⟨fun cs Bp=>by rw [Bp]at this;simp [AV.scalar]at this,fun cs Bp=>by rw [Bp]at this;simp [AV.scalar]at this⟩
  have hf:f= []:=by
   cases uP:Aq P t with
   |true=>obtain⟨cs,Bp⟩:=c3 uP;obtain⟨as_,rfl,_,r⟩:=Kw q1 Bp;exact Im r (by rw [Bp]at c2;exact c2)
   |false=>exact Im q1 (by simpa using c4 uP)
  subst hf;obtain⟨o1,o2,o3,o4⟩:=qX (P:=P) q1 hg FE;refine⟨DC.nq o1 EC (by rw [Hr];simpa using o4.symm),o2,o3,o4, ?_,by simp⟩;split at FE
  ·rename_i AE;rw [if_pos AE];obtain⟨cs,Bp,_⟩:=FE;exact⟨cs,Bp⟩
  ·rename_i AE;rw [if_neg AE];exact FE
 ·rename_i GB;split at h
  ·cases h
  rename_i AE;have AE:(Ik s).2=Aq P t:=by simpa using AE
  obtain⟨⟨us',ck'⟩,hr,h⟩:=Av.1 h;simp only [Prod.mk.injEq]at h;obtain⟨rfl,rfl,rfl⟩:=h;have single:Aq P t=false→Of hp gs ds [s]=some (us',ck')→DC c.w ds v.cells.toList (y.den c.ρ).cells (Cp c us')∧(∀u∈v.cells.toList,u.oneCell'=true)∧(y.den c.ρ).cells.length=P.cellsOf t∧v.cells.size=P.cellsOf t∧
   (if Aq P t then∃cs,y.den c.ρ= .agg cs else(∀cs,y.den c.ρ≠ .agg cs)∧ ∀cs,y.den c.ρ≠ .tup cs)∧ ∀u∈us',∃g,c.K u g:=by
   intro AE hr;have BB:Cz hp gs (A3+1) [s]=some (.cons y .nil):=by unfold Cz;rw [hy];rfl
   obtain⟨q1,q2⟩:=pA eh k ds hr hs BB hc;have uL:=q1.len;simp only [EL.den,Ao,List.length_nil]at uL
   match ds,uL,q1,GB,Hr with
   | [d],_,q1,GB,Hr=>
    cases d with
    |flat=>simp [DT.cf]at GB
    |row e z l=>
     obtain⟨p,q,r,rfl⟩:=q1.head;obtain⟨xs,CN⟩: ∃xs,y.den c.ρ= .sl xs:=by
      obtain⟨_,_,⟨_,_,hx,_⟩|⟨_,_,_,_,_,_,hx,_⟩⟩:=q1.inv
      ·exact⟨_,hx⟩
      ·exact⟨_,hx⟩
     rw [if_neg (by rw [AE];simp)];refine⟨?_,by simp [Value.cells,Value.oneCell'],by rw [CN,←Hr];rfl,by rw [←Hr];rfl, ?_,q2⟩
     ·simp only [EL.den]at q1;rw [CN]at q1 ⊢;exact q1
     ·rw [CN];exact⟨fun cs hh=>(by cases hh),fun cs hh=>(by cases hh)⟩
  cases s with
  |agg cs=>
   simp only [Ik]at AE hr;obtain⟨m,l,hm,hl,rfl⟩:=WC hy;cases hs with
   |agg h9 h1 h8=>rename_i as_;obtain⟨q1,q2⟩:=pA eh k ds hr h1 hl hc;obtain⟨l1,l2⟩:=q1.len;rw [if_pos AE.symm];exact⟨by simpa [Value.cells,AV.cells,E.den]using q1,by simpa [Value.cells]using h9,by simp only [E.den,AV.cells];omega,by simp [Value.cells];omega,⟨_,rfl⟩,q2⟩
  |_=>exact single AE.symm hr
theorem zpW (eh:EH c hp) (k:Bm c.ρ gs) {t:TypeId} {ds:List DT} (Hr:ds.length=P.cellsOf t) (hg:Aq P t=true∨P.cellsOf t=1): ∀(ss:List SV) (vs:List Value) {xs:List E} {us:List Nat} {ck:List Cn},SR c ss vs→WI P hp gs t ds ss=some (xs,us,ck)→(∀q∈ck,q.den c.ρ)→
  DC c.w (Dn vs.length ds) (vs.flatMap fun v=>v.cells.toList) (AO (xs.map (E.den c.ρ))) (Cp c us)∧(∀v∈vs,v.cells.size=P.cellsOf t∧ ∀u∈v.cells.toList,u.oneCell'=true)∧(∀x∈xs,(x.den c.ρ).cells.length=P.cellsOf t)∧xs.length=vs.length∧ ∀u∈us,∃g,c.K u g
 | [],vs,xs,us,ck,hr,ht,hc=>by simp [WI]at ht;obtain⟨rfl,rfl,rfl⟩:=ht;cases hr;exact⟨by simpa [AO,Dn,Cp]using DC.nil,by simp,by simp,rfl,by simp⟩
 |s::ss, [],xs,us,ck,hr,ht,hc=>by have:=hr.len;simp at this
 |s::ss,v::vs,xs,us,ck,hr,ht,hc=>by
  obtain⟨r1,r2⟩:=hr.cr;unfold WI at ht;split at ht
  ·rename_i x us1 ck1 xs2 us2 ck2 h1 h2;simp only [Ah,Prod.mk.injEq]at ht;obtain⟨rfl,rfl,rfl⟩:=ht;obtain⟨q1,q2,q3,q4,q5,q6⟩:=zsh eh k Hr hg h1 r1 (fun q hq=>hc q (by simp [hq]));obtain⟨p1,p2,p3,p4,p5⟩:=zpW eh k Hr hg ss vs r2 h2 (fun q hq=>hc q (by simp [hq]));refine⟨?_, ?_, ?_,by simp [p4], ?_⟩
   ·have:=q1.app p1;rw [Ao,P7,Km];simpa [AO]using this
   ·intro u hu;rcases Ag.1 hu with rfl|hu
    ·exact⟨q4,q2⟩
    ·exact p2 u hu
   ·intro u hu;rcases Ag.1 hu with rfl|hu
    ·exact q3
    ·exact p3 u hu
   ·intro u hu;rcases Ai.1 hu with hu|hu
    ·exact q6 u hu
    ·exact p5 u hu
  ·cases ht
theorem ztd (eh:EH c hp) (k:Bm c.ρ gs) {e z:Nat} {l:List DT} {s:SV} {us:List Nat} {v:Value} {y:E} {m:Nat} (h:Xk hp gs e z l s=some us) (hs:SR c [s] [v]) (hy:Bw hp gs m s=some y):
  ∃ys q r news N,y.den c.ρ= .sl ys∧v= .slice q ys.length r∧Src c.w z q ys.length news∧DC c.w (Dn ys.length l) news (AO ys) N∧N.Sublist (Cp c us)∧(∀y∈ys,y.cells.length=z)∧(∀u∈news,u.oneCell'=true)∧ ∀u∈us,∃g,c.K u g:=by
 have empt: ∀q,v= .slice q 0 0→y= .lst .nil→us= []→ ∃ys q r news N,y.den c.ρ= .sl ys∧v= .slice q ys.length r∧Src c.w z q ys.length news∧DC c.w (Dn ys.length l) news (AO ys) N∧N.Sublist (Cp c us)∧(∀y∈ys,y.cells.length=z)∧(∀u∈news,u.oneCell'=true)∧ ∀u∈us,∃g,c.K u g:=by
  rintro q rfl rfl rfl;refine⟨[],q,0, [], [],rfl,rfl, ?_,by simpa [Dn,AO]using DC.nil,by simp,by simp,by simp,by simp⟩;cases q with
  |none=>exact .inl ⟨rfl,rfl,rfl⟩
  |some p=>exact .inr ⟨p,rfl,by simp,by simp,by simp⟩
 unfold Xk at h;split at h
 ·simp only [Ah]at h;cases hs with
  |cq _=>exact empt _ rfl (Md hy) h.symm
 ·simp only [Ah]at h;cases hs with
  |emp _=>exact empt _ rfl (vV hy) h.symm
 ·rename_i u g;split at h
  ·rename_i e' z' l' g' ep x hl;split at h
   ·rename_i hh;obtain⟨rfl,rfl,rfl,hb⟩:=hh;simp only [Ah]at h;subst h;have hb:=AY.jj hb;subst hb;obtain⟨q1,q2,q3,q4,q5⟩:=eh u _ (C5 hl k);have HI:=rM (y:=x) hy (by simp only [IU,hl,if_true]);subst HI;cases hs with
    |own k1 k2 k3=>
     rename_i p0 n0 r0;rw [k2]at q4;have hK: ∀w∈ [u],∃g,c.K w g:=fun w hw=>by simp at hw;subst hw;exact⟨_,k1⟩
     obtain⟨d1,d2,⟨a9,d3,d4,d5⟩|⟨g9,cap,C,ys,N1,d3,d4,d5,d6,d7,d8,d9,d10,d11,d12⟩⟩:=q4.inv
     ·cases d3;refine⟨[],_,0, [], [],d4,rfl, ?_,by simpa [Dn,AO]using DC.nil,by simp,by simp,by simp,hK⟩;cases p0 with
      |none=>exact .inl ⟨rfl,rfl,rfl⟩
      |some p=>exact .inr ⟨p,rfl,by simp,by simp,by simp⟩
     ·cases d3;rw [AY.bc]at d12;have Eb:C.toList.length=r0*z:=by simpa using d9
      refine⟨ys,_,r0,_,N1,d4,rfl, .inr ⟨_,rfl, ?_,fun j w hw=> ?_,d11⟩,d12, ?_,d10,d11,hK⟩
      ·rw [List.length_take,Eb];exact Nat.min_eq_left (Nat.mul_le_mul_right _ d7)
      ·rw [Addr.add_lit,Nat.zero_add,Fe d6];rw [List.getElem?_take]at hw;split at hw
       ·simpa using hw
       ·cases hw
      ·rw [aU,pO,List.append_nil,d5];exact List.sublist_cons_self _ _
   ·cases h
  ·cases h
 ·cases h
end
def Gl (T:List Nat):List AW:=T.map fun u=>⟨u,none, [], .dead⟩
theorem zC0 (T:List Nat):(Gl T).flatMap AW.top= []:=by induction T<;>simp_all [Gl]
theorem zD1 (T:List Nat):(Gl T).map AW.tag=T:=by induction T<;>simp_all [Gl]
theorem zAT (T:List Nat):((Gl T).map fun r=>(r.tag,CU [] r.bt))=FB T:=by simp [Gl,FB,CU]
theorem Wx {T:List Nat} {r:AW} (h:r∈Gl T):r.tag∈T∧r.new=none∧r.top= []∧r.bt= .dead:=by obtain⟨u,hu,rfl⟩:=List.mem_map.1 h;exact⟨hu,rfl,rfl,rfl⟩
section
variable {P:Program} {c:Cx} {n nx:Nat} {sl sl0:Nat→SV} {hp hp0:Nat→Option Aj} {a:Act} {o:Oper} {gs:Gd} {e:A7} {sg:BW} {nv:Nat}
theorem Rel.mh (h:Rel c n sl hp a) {T:List Nat} (hT:T.Nodup) (GV: ∀u∈T,c.U u) {r0:AW} (G3:r0.tag∉T) (H8:r0.new.isSome=true→ ¬c.U r0.tag) (Db:r0.new=none→c.U r0.tag) {w':World} {hs:List Nat} (Hx: ∀b∈hs,b∈(c.G r0.tag).top∨b∈Cp c T) (hm:Mod hs c.w w')
  (Cl:r0.top.Nodup) (Cg: ∀b∈r0.top,(b∈hs∨c.w.heap.size≤b)∧b<w'.heap.size) (A2: ∀q f,r0.bt≠ .gd q f)
  (he:DU c (c.dz w' (r0::Gl T))→Fo c (c.dz w' (r0::Gl T)) w' (r0::Gl T)→Dm (c.dz w' (r0::Gl T)) r0.tag r0.bt):
  Rel (c.dz w' (r0::Gl T)) n sl (Bb hp ((r0.tag,r0.bt)::FB T)) a∧DU c (c.dz w' (r0::Gl T))∧Fo c (c.dz w' (r0::Gl T)) w' (r0::Gl T)∧ ∀t,(c.dz w' (r0::Gl T)).U t→c.U t∨t=r0.tag:=by
 have hn:((r0::Gl T).map AW.tag).Nodup:=by rw [List.map_cons,zD1];exact List.nodup_cons.2 ⟨G3,hT⟩
 have A1: ∀r∈r0::Gl T,r.new.isSome=true→ ¬c.U r.tag:=fun r hr hs=>by
  rcases Ag.1 hr with rfl|hr
  ·exact H8 hs
  ·rw [(Wx hr).2.1]at hs;cases hs
 have aft:=Cx.ed (w':=w') h.ch hn A1;obtain⟨q1,q2⟩:=h.changes (gs:= []) (Ff _) hm hn A1 (fun b hb=>by
   rcases Hx b hb with hb|hb
   ·exact⟨r0,by simp,hb⟩
   ·obtain⟨t,ht,CI⟩:=SW.1 hb;exact⟨⟨t,none, [], .dead⟩,List.mem_cons_of_mem _ (List.mem_map.2 ⟨t,ht,rfl⟩),CI⟩)
  (by rw [List.flatMap_cons,zC0,List.append_nil];exact Cl)
  (fun r hr b hb=>by
   rcases Ag.1 hr with rfl|hr
   ·exact Cg b hb
   ·rw [(Wx hr).2.2.1]at hb;cases hb)
  (fun r hr=>by
   rcases Ag.1 hr with rfl|hr
   ·exact A2
   ·rw [(Wx hr).2.2.2];intros;simp)
  (fun hk r hr=>by
   rcases Ag.1 hr with rfl|hr
   ·exact he hk aft
   ·have kg:=aft.G r (List.mem_cons_of_mem _ hr);obtain⟨_,_,e1,e2⟩:=Wx hr;rw [e2];exact⟨by rw [kg,e1],by rw [kg]⟩)
 refine⟨?_,q2,aft,fun t ht=> ?_⟩
 ·rw [List.map_cons,zAT]at q1;have:CU [] r0.bt=r0.bt:=rfl;rw [this]at q1;exact q1
 ·rcases ht with ht|⟨r,hr,rfl⟩
  ·exact .inl ht
  ·rcases Ag.1 hr with rfl|hr
   ·exact .inr rfl
   ·exact .inl (GV _ (Wx hr).1)
theorem AB.ik (h:Bx P c n nx sl hp a sl0 hp0 o []) {T:List Nat} (hT:T.Nodup) (GV: ∀u∈T,∃g,c.K u g) {v':Value} {w':World} {ck:List Cn} {e z:Nat} {l:List DT} {x:E} {top:List Nat} (hr:(execOp a.eval o).run P c.w= .ok (.value v') w') (hm:Mod (Cp c T) c.w w')
  (Cl:top.Nodup) (Cg: ∀b∈top,(b∈Cp c T∨c.w.heap.size≤b)∧b<w'.heap.size) (hd:DC w' [.row e z (AY.of l)] [v'] [x.den c.ρ] top):
  AB P o c n nx sl hp [] a {ca:=ck,val:= .own nx 0,bt:=(nx, .deep e z l 0 0 x)::FB T}:=by
 intro next Q hk
 unfold Oper.wp;rw [hr,Oper.upon_value];have hU:=Qg h;have Lt: ∀u∈T,c.U u:=fun u hu=>by obtain⟨g,hg⟩:=GV u hu;exact h.rel.ch _ _ hg
 obtain⟨q1,q2,q3,q4⟩:=h.rel.mh (r0:=⟨nx,some v',top, .deep e z l 0 0 x⟩) hT Lt (fun hh=>hU (Lt _ hh)) (fun _=>hU) (fun hh=>by cases hh) (fun b hb=> .inr hb) hm Cl Cg (by intros;simp) (fun _ aft=>by obtain⟨k1,k2,k3⟩:=aft.new _ (List.mem_cons_self ..) v' rfl;have kg:=aft.G _ (List.mem_cons_self ..);have ke:=aft.ll _ (List.mem_cons_self ..) rfl;simp only at k1 k2 k3 kg ke;exact⟨k1,k2,ke,by rw [k3,kg,aft.w,aft.ρ];exact hd,by rw [kg]⟩)
 obtain⟨k1,k2,k3⟩:=q3.new _ (List.mem_cons_self ..) v' rfl;simp only at k1 k3;obtain⟨p,m,r,rfl⟩:=hd.head;refine hk _ (c.dz w' _) ⟨rfl,rfl,rfl,rfl,fun t ht=> ?_⟩ (q1.put (SR.own k1 k3 .nil) o.dst);rcases q4 t ht with ht|rfl
 ·exact .inl ht
 ·exact .inr ⟨Nat.le_refl _,by simp [BM]⟩
theorem AB.l4 (h:Bx P c n nx sl hp a sl0 hp0 o []) {T:List Nat} (hT:T.Nodup) (GV: ∀u∈T,∃g,c.K u g) {b g ep:Nat} (hb:b∉T) (hK:c.K b g) (Et: ∀g',c.K b g'→g'≤g) (hE:c.E b=ep) {w':World} {ck:List Cn} {e z:Nat} {l:List DT} {x:E} {top:List Nat} (hr:(execOp a.eval o).run P c.w= .ok .skip w') {hs:List Nat} (Hx: ∀q∈hs,q∈(c.G b).top∨q∈Cp c T) (hm:Mod hs c.w w')
  (Cl:top.Nodup) (Cg: ∀q∈top,(q∈hs∨c.w.heap.size≤q)∧q<w'.heap.size) (hd:DC w' [.row e z (AY.of l)] [c.H b g] [x.den c.ρ] top):
  AB P o c n nx sl hp [] a {ca:=ck,bt:=(b, .deep e z l g (ep+1) x)::FB T}:=by
 intro next Q hk
 unfold Oper.wp;rw [hr,Oper.upon_skip];have Lt: ∀u∈T,c.U u:=fun u hu=>by obtain⟨g,hg⟩:=GV u hu;exact h.rel.ch _ _ hg
 have eK:=h.rel.ch _ _ hK;obtain⟨q1,q2,q3,q4⟩:=h.rel.mh (r0:=⟨b,none,top, .deep e z l g (ep+1) x⟩) hT Lt hb (fun hh=>by cases hh) (fun _=>eK) Hx hm Cl Cg (by intros;simp) (fun _ aft=>by have kg:=aft.G _ (List.mem_cons_self ..);have ke:=aft.jn _ (List.mem_cons_self ..) rfl;obtain⟨k1,k2⟩:=aft.K b g hK;simp only at kg ke;exact⟨k1,fun g' Ck=>Et g' (aft.old b eK g' Ck),by rw [ke,hE],by rw [k2,kg,aft.w,aft.ρ];exact hd,by rw [kg]⟩)
 refine hk _ (c.dz w' _) ⟨rfl,rfl,rfl,rfl,fun t ht=> ?_⟩ (q1.put ((SR.undef .nil).mkGd []) o.dst);rcases q4 t ht with ht|rfl
 ·exact .inl ht
 ·exact .inl eK
theorem zxL {w w':World} {row:Option Nat} {S:List Nat} (h:w.grownBy w' row) (hr: ∀g,row=some g→g∈S∨w.heap.size≤g):Mod S w w':=by
 refine⟨h.os,h.tape,h.output,h.size,fun b hb hn=>h.block b hb fun hh=> ?_⟩;rcases hr b hh.symm with h1|h1
 ·exact hn h1
 ·omega
theorem oN (h:Bx P c n nx sl hp a sl0 hp0 o []) {x y:Operand} {tx:TypeId} {cl:Call} (ho:o.op= .call cl) (AG:cl.callee= .builtin .append) (DA:cl.args.toList= [x,y]) (EO:cl.argTypes.toList= [tx,tx])
  {el:TypeId} (BB:P.underlying tx=some (.slice el)) (hz:I5 P el=true) {l:List DT} (hl:l.length=P.cellsOf el) {T us:List Nat} (hT:(T++us).Nodup) (GV: ∀u∈T,∃g,c.K u g) {s2:SV} {ye:E} (A6:BS sl0 [] y=some s2) (hy:Bw hp0 [] A3 s2=some ye) (Cm:Xk hp0 [] el (P.cellsOf el) l s2=some us)
  {c0:E} {v:Value} (hv:a.eval x=v) {N:List Nat} (BF:DC c.w [.row el (P.cellsOf el) (AY.of l)] [v] [c0.den c.ρ] N) (hN:N=Cp c T) {ck:List Cn} (CE:Cn.den c.ρ (.room c0 ye (P.bytesOf el))):
  AB P o c n nx sl hp [] a {ca:=ck,val:= .own nx 0,bt:=(nx, .deep el (P.cellsOf el) l 0 0 (.app c0 ye))::FB (T++us)}:=by
 have Az:cl.args= #[x,y]:=by apply Array.ext';simp [DA]
 have HE:cl.argTypes= #[tx,tx]:=by apply Array.ext';simp [EO]
 have DZ:y∈o.op.operands:=by simp [ho,Op.operands,Call.operands,AG,Az]
 obtain⟨i,z,hi,Gv,D4,Cd,CH,GX⟩:=Mb hz;obtain⟨ys,q,r,news,N2,DF,Dt,FZ,eY,BU,Pk,gL,iJ⟩:=ztd h.eh h.gs Cm (h.db A6 DZ) hy;have CX:=aC h.rel.gw hT;rw [Km]at CX;have EW: ∀b∈Cp c (T++us),b<c.w.heap.size:=fun b hb=>by obtain⟨t,_,CI⟩:=SW.1 hb;exact h.rel.gw.inb t b (by simp [GI.own,CI])
 obtain⟨mm,kk,H8,Db,UE,gZ⟩:=CE;obtain⟨d1,d2,Bo⟩:=BF.inv;rw [AY.bc]at d2 Bo;have hU: ∀u∈T++us,∃g,c.K u g:=fun u hu=>by
  rcases Ai.1 hu with hu|hu
  ·exact GV u hu
  ·exact iJ u hu
 obtain⟨xs,old,N1,CN,hold,Ia,KG,IG,CY,Xv,dZ⟩: ∃(xs:List AV) (old:List Value) (N1:List Nat),c0.den c.ρ= .sl xs∧old.length=xs.length*i.size∧((xs.length=0∧ ∃q,v= .slice q 0 0)∨ ∃g cap C,v= .slice (some ⟨g,0,none⟩) xs.length cap∧xs.length≤cap∧cap≤maxLen∧c.w.heap[g]?=some (.cells C el (0,0))∧C.size=cap*i.size∧old=C.toList.take (xs.length*i.size)∧(g∈Cp c T∧g∉N1))∧
   DC c.w (Dn xs.length l) old (AO xs) N1∧(∀y∈xs,y.cells.length=P.cellsOf el)∧(∀u∈old,u.oneCell'=true)∧(∀b∈N1,b∈Cp c T)∧N1.Nodup:=by
  rcases Bo with⟨p,rfl,KL,rfl⟩|⟨g9,cap,C,xs,N1,rfl,KL,rfl,h6,h7,h8,h9,Hm,Eo,h12⟩
  ·exact⟨[], [], [],KL,by simp, .inl ⟨rfl,p,rfl⟩,by simpa [Dn,AO]using DC.nil,by simp,by simp,by simp,by simp⟩
  ·have Cl:(g9::N1).Nodup:=by rw [hN];exact(List.nodup_append.1 CX).1
   rw [List.nodup_cons]at Cl;refine⟨xs,_,N1,KL, ?_, .inr ⟨g9,cap,C,rfl,h7,h8,h6,by rw [←CH];exact h9,rfl,by rw [←hN];simp,Cl.1⟩,by rw [←CH];exact h12,Hm,by rw [←CH];exact Eo,fun b hb=>by rw [←hN];simp [hb],Cl.2⟩;have e9:C.toList.length=cap*i.size:=by rw [←CH,←h9];simp
   rw [List.length_take,e9];exact Nat.min_eq_left (Nat.mul_le_mul_right _ h7)
 rw [CN]at H8;rw [DF]at Db;simp only [AV.len,AV.int.injEq,true_and]at H8 Db;have Iy:(xs.length+ys.length)*i.bytes≤140737488355328:=by
  rw [←H8,←Db,GX]at UE;have h9:(((xs.length+ys.length)*i.bytes:Nat):Int)≤140737488355328:=by rw [Int.natCast_mul,Int.natCast_add];exact UE
  omega
 have Hq:xs.length+ys.length≤140737488355328:=by rw [←H8,←Db]at gZ;omega
 rw [CH]at FZ;obtain⟨v',w',AU,AR⟩:=tB (P:=P) c.w tx o.type el i z BB hi Gv D4 Cd (fun g9=>g9∈Cp c T∧g9∉N1) v xs.length old hold Ia q ys.length r news FZ (by simp only [maxLen];omega) Iy;have FI:(execOp a.eval o).run P c.w= .ok (.value v') w':=by simp [execOp,ho,resolve,AG,Az,HE,invoke,builtin,hv,Dt,AU]
 have TV: ∀b∈N2,b∈Cp c us:=fun b hb=>BU.subset hb;have eA:N2.Nodup:=BU.nodup (List.nodup_append.1 CX).2.1;have T0:(E.app c0 ye).den c.ρ= .sl (xs++ys):=by simp only [E.den,CN,DF,AV.app]
 rcases AR with⟨rfl,rfl,Er⟩|⟨g9,cap,C,rfl,h1,h2,h3,h4,h5,h6,h7⟩
 ·have Ib:ys= []:=List.eq_nil_of_length_eq_zero Er;subst Ib;refine AB.ik h hT hU FI (Mod.refl _ _) (top:=N) (by rw [hN];exact(List.nodup_append.1 CX).1) (fun b hb=>⟨.inl (by rw [Km,←hN];simp [hb]),EW b (by rw [Km,←hN];simp [hb])⟩) ?_;rw [T0,List.append_nil,←CN];exact BF
 ·have QN:(g9∈Cp c T∨c.w.heap.size≤g9)∧g9∉N1∧g9∉N2:=by
   rcases h7 with⟨rfl,_⟩|⟨hg,Ck⟩
   ·refine⟨.inr (Nat.le_refl _),fun hh=> ?_,fun hh=> ?_⟩
    ·have:=EW _ (by rw [Km];exact Ai.2 (.inl (Xv _ hh)));omega
    ·have:=EW _ (by rw [Km];exact Ai.2 (.inr (TV _ hh)));omega
   ·exact⟨.inl hg,Ck,fun hh=>(List.nodup_append.1 CX).2.2 _ hg _ (TV _ hh) rfl⟩
  have Ba: ∀b∈N1++N2,w'.heap[b]?=c.w.heap[b]?:=fun b hb=>by
   have Am:b<c.w.heap.size:=EW b (by
    rw [Km];rcases Ai.1 hb with hb|hb
    ·exact Ai.2 (.inl (Xv b hb))
    ·exact Ai.2 (.inr (TV b hb)))
   refine h6.block b Am fun hh=> ?_;cases hh;rcases Ai.1 hb with hb|hb
   ·exact QN.2.1 hb
   ·exact QN.2.2 hb
  refine AB.ik h hT hU FI (zxL h6 fun g hg=> ?_) (top:=g9::(N1++N2)) ?_ (fun b hb=> ?_) ?_
  ·cases hg;rcases QN.1 with hh|hh
   ·exact .inl (by rw [Km];exact Ai.2 (.inl hh))
   ·exact .inr hh
  ·refine List.nodup_cons.2 ⟨fun hh=> ?_,List.nodup_append.2 ⟨dZ,eA,fun p hp q hq=> ?_⟩⟩
   ·rcases Ai.1 hh with hh|hh
    ·exact QN.2.1 hh
    ·exact QN.2.2 hh
   ·exact(List.nodup_append.1 CX).2.2 p (Xv p hp) q (TV q hq)
  ·rcases Ag.1 hb with rfl|hb
   ·refine⟨?_,F5 h3⟩;rcases QN.1 with hh|hh
    ·exact .inl (by rw [Km];exact Ai.2 (.inl hh))
    ·exact .inr hh
   ·have uI:b∈Cp c (T++us):=by
     rw [Km];rcases Ai.1 hb with hb|hb
     ·exact Ai.2 (.inl (Xv b hb))
     ·exact Ai.2 (.inr (TV b hb))
    exact⟨.inl uI,Nat.lt_of_lt_of_le (EW b uI) h6.size⟩
  ·rw [T0];have hlen:(xs++ys).length=xs.length+ys.length:=Ar;rw [CH]at d1 d2 IG Pk ⊢;have:=DC.row (w:=w') (e:=el) (z:=i.size) (l:=AY.of l) (g:=g9) (cap:=cap) (C:=C) (ys:=xs++ys) (N1:=N1++N2) (ts:= []) (vs:= []) (xs:= []) (N:= []) d1 (by rw [AY.bc];exact d2) h3 (by rw [hlen];exact h1) h2 h4 (fun w hw=> ?_) (by
     rw [hlen,h5];intro u hu;rcases Ai.1 hu with hu|hu
     ·exact CY u hu
     ·exact gL u hu) (by
     rw [hlen,h5,oB,zFA,AY.bc];exact(KG.app eY).frame Ba) .nil
   ·rw [hlen]at this;simpa using this
   ·rcases Ai.1 hw with hw|hw
    ·exact IG w hw
    ·exact Pk w hw
end
section
variable {P:Program} {c:Cx} {n nx:Nat} {sl sl0:Nat→SV} {hp hp0:Nat→Option Aj} {a:Act} {o:Oper} {gs:Gd} {e:A7} {sg:BW} {nv:Nat}
theorem zBs {l:List Nat} (h:MA l=true):l.Nodup:=S2 h
theorem ztD (h:Bx P c n nx sl hp a sl0 hp0 o gs) {x y:Operand} {tx ty:TypeId} {cl:Call} (ho:o.op= .call cl) (AG:cl.callee= .builtin .append) (DA:cl.args.toList= [x,y]) (EO:cl.argTypes.toList= [tx,ty])
  {s1 s2:SV} (BN:BS sl0 gs x=some s1) (A6:BS sl0 gs y=some s2) (he:bN P hp0 gs nx tx ty s1 s2=some e) (hc: ∀q∈e.ca,Cn.den c.ρ q):AB P o c n nx sl hp gs a e:=by
 have Az:cl.args= #[x,y]:=by apply Array.ext';simp [DA]
 have Es:x∈o.op.operands:=by simp [ho,Op.operands,Call.operands,AG,Az]
 have DZ:y∈o.op.operands:=by simp [ho,Op.operands,Call.operands,AG,Az]
 unfold bN at he;split at he
 ·cases he
 rename_i Pe;have Pe:tx=ty:=by simpa using Pe
 subst Pe;split at he
 ·rename_i el e' z dl BB DX;have OH:=KW BB;split at he
  ·cases he
  rename_i AK;simp only [not_or,Bool.not_eq_true',Bool.not_eq_false,Bool.not_eq_true,ne_eq,Decidable.not_not]at AK;obtain⟨hz,GB,rfl,rfl⟩:=AK;obtain⟨_,_,l,MU,DI⟩:=cN BB DX;simp only [DT.row.injEq,true_and]at MU;subst MU;rw [AY.bc]at he;have r1:=h.db BN Es;split at he
  ·rename_i ye us hy Cm;have hU: ∀u∈us,∃g,c.K u g:=(ztd h.eh h.gs Cm (h.db A6 DZ) hy).choose_spec.choose_spec.choose_spec.choose_spec.choose_spec.2.2.2.2.2.2.2;have Pg:us.Nodup:=by
    unfold Xk at Cm;split at Cm
    ·simp only [Ah]at Cm;subst Cm;simp
    ·simp only [Ah]at Cm;subst Cm;simp
    ·split at Cm
     ·split at Cm
      ·simp only [Ah]at Cm;subst Cm;simp
      ·cases Cm
     ·cases Cm
    ·cases Cm
   have XZ:0<P.cellsOf e':=by obtain⟨i,_,_,_,_,h1,h2,_⟩:=Mb hz;omega
   split at he
   ·rename_i t g;split at he
    ·rename_i e2 z2 l2 g2 ep c0 hl;split at he
     ·rename_i hh;obtain⟨rfl,rfl,hb,rfl,Ft⟩:=hh;have hb:=AY.jj hb;subst hb;simp only [Ah]at he;subst he;obtain⟨q1,q2,q3,q4,q5⟩:=h.eh t _ (C5 hl h.gs);generalize hv:a.eval x=v at r1;cases r1 with
      |own k1 k2 _=>rw [k2]at q4;simp only [Bool.not_eq_true',List.contains_eq_mem,decide_eq_false_iff_not]at Ft;exact oN h ho AG DA EO OH hz DI (T:= [t]) (by simpa using List.nodup_cons.2 ⟨Ft,Pg⟩) (fun u hu=>by simp at hu;subst hu;exact⟨_,k1⟩) A6 hy Cm hv q4 (by simp [Cp]) (hc _ (by simp))
     ·cases he
    ·cases he
   ·simp only [Ah]at he;subst he;generalize hv:a.eval x=v at r1;cases r1 with
    |emp _=>exact oN h ho AG DA EO OH hz DI (T:= []) (by simpa using Pg) (by simp) A6 hy Cm hv (c0:= .lst .nil) (.void XZ (by rw [AY.bc];exact DI) .nil) rfl (hc _ (by simp))
   ·simp only [Ah]at he;subst he;generalize hv:a.eval x=v at r1;cases r1 with
    |cq _=>exact oN h ho AG DA EO OH hz DI (T:= []) (by simpa using Pg) (by simp) A6 hy Cm hv (c0:= .lst .nil) (.void XZ (by rw [AY.bc];exact DI) .nil) rfl (hc _ (by simp))
   ·cases he
  ·cases he
 ·cases he
theorem AB.ia (h:Bx P c n nx sl hp a sl0 hp0 o []) {T:List Nat} (hT:T.Nodup) (GV: ∀u∈T,∃g,c.K u g) {ck:List Cn} {el z:Nat} {l:List DT} (hz:0<z) (hl:l.length=z) {x:E} {xs:List AV} {C:Array Value} {cap:Nat} (hx:x.den c.ρ= .sl xs) (AG: ∀y∈xs,y.cells.length=z) (hle:xs.length≤cap) (JL:cap≤maxLen) (hC:C.size=cap*z)
  (h1: ∀u∈C.toList.take (xs.length*z),u.oneCell'=true) (hD:DC c.w (Dn xs.length l) (C.toList.take (xs.length*z)) (AO xs) (Cp c T))
  (hr:(execOp a.eval o).run P c.w= .ok (.value (.slice (some ⟨c.w.heap.size,0,none⟩) xs.length cap)) (c.w.alloc (.cells C el))):
  AB P o c n nx sl hp [] a {ca:=ck,val:= .own nx 0,bt:=(nx, .deep el z l 0 0 x)::FB T}:=by
 have EW: ∀b∈Cp c T,b<c.w.heap.size:=fun b hb=>by obtain⟨t,_,CI⟩:=SW.1 hb;exact h.rel.gw.inb t b (by simp [GI.own,CI])
 have A1:(c.w.alloc (.cells C el)).heap[c.w.heap.size]?=some (.cells C el (0,0)):=heap_alloc_new c.w _;have Ed:c.w.grownBy (c.w.alloc (.cells C el)) (some c.w.heap.size):=⟨rfl,rfl,rfl,by simp,fun j hj _=>Below.heap_alloc c.w _ _ hj⟩
 refine AB.ik h hT GV hr (zxL Ed fun g hg=> .inr (by cases hg;exact Nat.le_refl _)) (top:=c.w.heap.size::Cp c T) ?_ (fun b hb=> ?_) ?_
 ·exact List.nodup_cons.2 ⟨fun hh=>by have:=EW _ hh;omega,aC h.rel.gw hT⟩
 ·rcases Ag.1 hb with rfl|hb
  ·exact⟨.inr (Nat.le_refl _),by simp⟩
  ·exact⟨.inl hb,Nat.lt_of_lt_of_le (EW b hb) (by simp)⟩
 ·rw [hx];have:=DC.row (w:=c.w.alloc (.cells C el)) (e:=el) (z:=z) (l:=AY.of l) (g:=c.w.heap.size) (cap:=cap) (C:=C) (ys:=xs) (N1:=Cp c T) (ts:= []) (vs:= []) (xs:= []) (N:= []) hz (by rw [AY.bc];exact hl) A1 hle JL hC AG h1 (by
   rw [AY.bc];exact hD.frame fun b hb=>Below.heap_alloc c.w _ _ (EW b hb)) .nil
  simpa using this
theorem zt6 (h:Bx P c n nx sl hp a sl0 hp0 o gs) {t:TypeId} {m:Nat} {parts:Array (Nat × Operand)} (ho:o.op= .buildSlice t m parts) {ps:List (Nat × SV)} (M0:parts.toList.mapM (fun(p:Nat × Operand)=>(BS sl0 gs p.2).map fun s=>(p.1,s))=some ps) (he:cH P hp0 gs nx t m ps=some e) (hc: ∀q∈e.ca,Cn.den c.ρ q):AB P o c n nx sl hp gs a e:=by
 obtain⟨e1,e2⟩:=bI (c:=c) (a:=a) (parts.toList.map (·.2)) (fun x s hx hm=>h.db hx (by simpa [ho,Op.operands]using hm)) (fun x hx=>List.mem_map.2 ⟨x,hx,rfl⟩) M0;unfold cH at he;split at he
 ·rename_i el e' zz dl JQ DX;have BB:=KW JQ;split at he
  ·cases he
  rename_i AK;simp only [not_or,Bool.not_eq_true',Bool.not_eq_false',ne_eq,Bool.not_eq_false,Bool.not_eq_true,Nat.not_lt,Decidable.not_not]at AK;obtain⟨hz,GB,rfl,rfl,Bt,AE,hle,ER⟩:=AK;obtain⟨_,_,l,MU,DI⟩:=cN JQ DX;simp only [DT.row.injEq,true_and]at MU;subst MU;rw [AY.bc]at he;have AE:Aq P e'=true∨P.cellsOf e'=1:=by simpa using AE
  obtain⟨i,z,hi,Gv,D4,Cd,CH,GX⟩:=Mb hz;split at he
  ·rename_i xs us ck UK;split at he
   ·rename_i Cl;simp only [Ah]at he;subst he;obtain⟨p1,p5,p6,p7,p8⟩:=zpW h.eh h.gs DI AE (ps.map (·.2)) (parts.toList.map fun p=>a.eval p.2) e2 UK hc;have hlen:(parts.toList.map fun p=>a.eval p.2).length=m:=by
     have:ps.length=m:=by have:=congrArg List.length ER;simpa using this
     have h9:=congrArg List.length e1;simp at h9 ⊢;omega
    have HB:(parts.map fun(x:Nat × Operand)=>(x.1,a.eval x.2)).toList=((parts.toList.map fun p=>a.eval p.2).zipIdx 0).map fun p=>(p.2,p.1):=by
     have JV:parts.toList.map (·.1)=List.range m:=by rw [←e1,ER]
     apply List.ext_getElem?;intro j;have hj:(parts.toList.map (·.1))[j]?=(List.range m)[j]?:=by rw [JV]
     simp only [Array.toList_map,List.getElem?_map,List.getElem?_zipIdx]at hj ⊢;cases hp:parts.toList[j]? with
     |none=>simp
     |some p=>
      rw [hp]at hj;simp only [Option.map_some,Ah]at hj ⊢;have fU:j<m:=by
       rcases Nat.lt_or_ge j m with hh|hh
       ·exact hh
       ·rw [List.getElem?_eq_none (by simpa using hh)]at hj;cases hj
      rw [List.getElem?_range fU]at hj;simp at hj;simp [hj]
    obtain⟨C',f1,f2⟩:=pP (sz:=i.size) (fun j=>some (j*i.size,i.size)) (fun j=>rfl) (parts.toList.map fun p=>a.eval p.2) 0 ((Array.range (m*i.size)).map (fun j=>(if m*i.size=0 then #[]else z.cells)[j % (if m*i.size=0 then #[]else z.cells).size]!)) [] _ (by simp;rfl) (by simp) (by simp [hlen]) (fun v hv=>by rw [←CH];exact(p5 v hv).1);have Eb:C'.toList.length=m*P.cellsOf e':=by
     rw [f2,CH];simp only [List.nil_append];have: ∀(L:List Value),(∀v∈L,v.cells.size=i.size)→(L.flatMap fun v=>v.cells.toList).length=L.length*i.size:=by
      intro L
      induction L with
      |nil=>intro _;simp
      |cons v L ih=>intro hL;simp only [List.flatMap_cons,Ar,Ao,Array.length_toList];rw [ih (fun u hu=>hL u (by simp [hu])),hL v (by simp),Nat.add_mul];omega
     rw [this _ (fun v hv=>by rw [←CH];exact(p5 v hv).1),hlen]
    have Kb:(xs.map (E.den c.ρ)).length=m:=by rw [List.length_map,p7,hlen]
    have CM:C'.toList.take ((xs.map (E.den c.ρ)).length*P.cellsOf e')=(parts.toList.map fun p=>a.eval p.2).flatMap fun v=>v.cells.toList:=by rw [Kb,←Eb,List.take_length,f2];simp
    refine AB.ia h (zBs Cl) p8 (by omega) DI (xs:=xs.map (E.den c.ρ)) (C:=C') (cap:=m) (by simp [E.den,EL.dt]) (fun y hy=> ?_) (by omega) (by simp only [maxLen];have:m*1≤m*P.cellsOf e':=Nat.mul_le_mul_left _ (by omega);omega) (by rw [←Array.length_toList,Eb]) ?_ ?_ ?_
    ·obtain⟨q,hq,rfl⟩:=List.mem_map.1 hy;exact p6 q hq
    ·rw [CM];intro u hu;obtain⟨v,hv,hu⟩:=List.mem_flatMap.1 hu;exact(p5 v hv).2 u hu
    ·rw [CM,Kb,←hlen];exact p1
    ·rw [Kb];have AU:=zoi (P:=P) BB Bt hi Gv CH m (by rw [←CH];omega) (parts.map fun(x:Nat × Operand)=>(x.1,a.eval x.2)) C' (by rw [HB];exact f1) c.w;simp only [execOp,ho,Sem.run_bind];rw [AU];rfl
   ·cases he
  ·cases he
 ·cases he
theorem oT {w:World}: ∀{ds:List DT} {ss:List SV} {vs:List Value},Qr ds ss=true→SR c ss vs→ ∀{xs:EL} {m:Nat},Cz hp0 gs m ss=some xs→DC w ds vs (xs.den c.ρ) []
 | [], [],vs,_,hs,xs,m,hx=>by
  cases hs;cases m with
  |zero=>simp [Cz]at hx
  |succ m=>simp [Cz]at hx;subst hx;exact .nil
 | [],_::_,_,h,_,_,_,_=>by simp [Qr]at h
 |_::_, [],_,h,_,_,_,_=>by simp [Qr]at h
 |d::ds,s::ss, [],h,hs,_,_,_=>by have:=hs.len;simp at this
 |d::ds,s::ss,v::vs,h,hs,xs,m,hx=>by
  obtain⟨j,y,ys,rfl,hy,DF,rfl⟩:=KX hx;obtain⟨r1,r2⟩:=hs.cr;simp only [Qr,Ae]at h;have ih:=oT (w:=w) h.2 r2 DF;unfold zK at h;obtain⟨h1,_⟩:=h;split at h1
  ·rename_i y';rw [EL.den,Lh hy];cases r1 with
   |e g1 g2 _=>
    cases y'<;>simp [Va]at h1
    ·cases g1 with
     |int hk _=>exact .flat (.int hk .nil) ih
    ·cases g1 with
     |bool _=>exact .flat (.bool .nil) ih
    ·rename_i s0;generalize hq:(E.str s0).den c.ρ=q at g1;cases g1 with
     |str hk _=>exact .flat (.str hk .nil) ih
     |_=>simp [E.den]at hq
  ·simp only [Ae,decide_eq_true_eq,beq_iff_eq]at h1;rw [EL.den,Md hy];cases r1 with
   |cq _=>exact .void h1.1 h1.2 ih
  ·cases h1
theorem DC.rep {w:World} {ds:List DT} {vs:List Value} {xs:List AV} (h:DC w ds vs xs []): ∀k,DC w (Dn k ds) (List.replicate k vs).flatten (List.replicate k xs).flatten []
 |0=>by simpa [Dn]using DC.nil
 |k+1=>by rw [P7,List.replicate_succ,List.flatten_cons,List.replicate_succ,List.flatten_cons];simpa using h.app (DC.rep h k)
theorem zwD (h:Bx P c n nx sl hp a sl0 hp0 o gs) {t:TypeId} {l m:Operand} (ho:o.op= .makeSlice t l m) {s1 s2:SV} (BN:BS sl0 gs l=some s1) (A6:BS sl0 gs m=some s2) (he:cO P hp0 gs nx t s1 s2=some e) (hc: ∀q∈e.ca,Cn.den c.ρ q):AB P o c n nx sl hp gs a e:=by
 have Es:l∈o.op.operands:=by simp [ho,Op.operands]
 have DZ:m∈o.op.operands:=by simp [ho,Op.operands]
 unfold cO at he;split at he
 ·rename_i el e' zz dl x y JQ DX;have BB:=KW JQ;split at he
  ·cases he
  rename_i AK;simp only [not_or,Bool.not_eq_true',Bool.not_eq_false',ne_eq,Bool.not_eq_false,Bool.not_eq_true,Decidable.not_not]at AK;obtain⟨hz,GB,rfl,rfl,HG,KH⟩:=AK;have KH:gs= []:=by simpa using KH
  subst KH;obtain⟨_,_,dl',MU,DI⟩:=cN JQ DX;simp only [DT.row.injEq,true_and]at MU;subst MU;rw [AY.bc]at he;obtain⟨i,z,hi,Gv,D4,Cd,CH,GX⟩:=Mb hz;have r1:=h.db BN Es;have r2:=h.db A6 DZ;have ival: ∀{x:E} {kk:IntKind} {k:Int} {v:Value},SR c [.e x] [v]→x.den c.ρ= .int kk k→v= .int kk k:=by
   intro x kk k v hr hx;cases hr with
   |e h1 _ _=>exact(Hc h1 hx).1
  split at he
  ·rename_i s hs;have hs:Fh z=some s:=by simpa [hi,Gv]using hs
   split at he
   ·rename_i X0;obtain⟨w,hw,rfl⟩:=Av.1 he;obtain⟨kk,k,hk,h0,hb,hle⟩:Cn.den c.ρ (.mkroom x (P.bytesOf e')):=BX hc;have Fb:=ival r1 hk;have Dt:=ival r2 (by rw [←E.au c.ρ _ _ HG];exact hk);have u7:DC c.w dl' z.cells.toList (w.den c.ρ).cells []:=by
     have IF:=bQ (c:=c) hs;unfold yS at X0;cases s with
     |agg cs=>
      obtain⟨k9,l9,hm,hl9,rfl⟩:=WC hw;cases IF with
      |agg h9 h1 h8=>have:=oT (w:=c.w) X0 h1 hl9;simpa [Value.cells,AV.cells,E.den]using this
     |cq=>
      have BB:Cz hp0 [] (A3+1) [.cq]=some (.cons w .nil):=by unfold Cz;rw [hw];rfl
      have:=oT (w:=c.w) X0 IF BB;rw [Md hw]at this ⊢;cases IF with
      |cq _=>simpa [Value.cells,AV.cells,E.den,EL.den]using this
     |_=>cases X0
    obtain⟨c1,c2⟩:=oS (w:=c.w) (ρ:=c.ρ) hs hw;obtain⟨kn,rfl⟩:=Int.eq_ofNat_of_zero_le h0;have DW:(i.bytes:Int)*(kn:Int)≤281474976710656:=by rw [GX]at hb;rw [Int.mul_comm];omega
    have hlen:=c1.len;have XK:=ZZ z.cells (by omega) kn;have AU:=run_make (P:=P) c.w t e' i z BB hi Gv kk kk kn kn (by omega) (Int.le_refl _) DW (by omega);have FJ:(madeCells z.cells (kn*z.cells.size)).size=kn*P.cellsOf e':=by rw [size_madeCells,D4,CH]
    have CM:(madeCells z.cells (kn*z.cells.size)).toList.take ((List.replicate kn (w.den c.ρ)).length*P.cellsOf e')=(List.replicate kn z.cells.toList).flatten:=by rw [List.length_replicate,List.take_of_length_le (by rw [Array.length_toList,FJ];exact Nat.le_refl _),XK]
    have EC:AO (List.replicate kn (w.den c.ρ))=(List.replicate kn (w.den c.ρ).cells).flatten:=by
     clear AU FJ CM XK hb hle DW hk Fb Dt h0 hc
     induction kn with
     |zero=>rfl
     |succ k ih=>simp only [List.replicate_succ,AO,List.flatMap_cons,List.flatten_cons]at ih ⊢;rw [ih]
    refine AB.ia (T:= []) h (by simp) (by simp) (by omega) DI (xs:=List.replicate kn (w.den c.ρ)) (C:=madeCells z.cells (kn*z.cells.size)) (cap:=kn) (by simp [E.den,hk,AV.rep]) (fun u hu=> ?_) (by simp) (by simp only [maxLen];omega) FJ ?_ ?_ ?_
    ·rw [List.eq_of_mem_replicate hu,←hlen,Array.length_toList,D4,CH]
    ·rw [CM];intro u hu;obtain⟨q,hq,hu⟩:=List.mem_flatten.1 hu;rw [List.eq_of_mem_replicate hq]at hu;exact c2 u hu
    ·rw [CM,List.length_replicate,EC];exact u7.rep kn
    ·simp only [execOp,ho,Fb,Dt,Sem.run_bind,Int.ofNat_eq_natCast,List.length_replicate];rw [AU,D4];rfl
   ·cases he
  ·cases he
 ·cases he
end
section
variable {P:Program} {c:Cx} {n nx:Nat} {sl sl0:Nat→SV} {hp hp0:Nat→Option Aj} {a:Act} {o:Oper} {gs:Gd} {e:A7} {sg:BW} {nv:Nat}
theorem zs5 {α:Type} (cs vs:List α) (o:Nat):setVs cs o vs=cs.take o++(vs++cs.drop (o+vs.length)):=by simp [setVs]
theorem DC.setVs {w:World} {ts:List DT} {L V:List Value} {X Y:List AV} {N1 N2 M:List Nat} {p:Nat} (h1:DC w (ts.take p) (L.take p) (X.take p) N1) (h2:DC w (ts.drop (p+V.length)) (L.drop (p+V.length)) (X.drop (p+V.length)) N2) (k:DC w ((ts.drop p).take V.length) V Y M):
  DC w ts (Go.Proofs.YtbmbkgalkfmjdaaGreatDoor.setVs L p V) (Go.Proofs.YtbmbkgalkfmjdaaGreatDoor.setVs X p Y) (N1++(M++N2)):=by
 have hk:=k.len;have ht:ts=ts.take p++((ts.drop p).take V.length++ts.drop (p+V.length)):=by rw [←List.drop_drop,List.take_append_drop,List.take_append_drop]
 rw [zs5,zs5];have hl:Y.length=V.length:=by omega
 rw [hl];have:=h1.app (k.app h2);rw [←ht]at this;exact this
theorem zvm (h:Bx P c n nx sl hp a sl0 hp0 o []) {t:TypeId} {x y:Operand} (ho:o.op= .store t x y) {b g:Nat} {ix:E} {sz k:Nat} {s:SV} (r1:SR c [.c7 b g ix sz k] [a.eval x]) (r2:SR c [s] [a.eval y]) {el:Nat} {l:List DT} {ep:Nat} {c0:E} (hK:c.K b g) (Et: ∀g',c.K b g'→g'≤g) (hE:c.E b=ep)
  (Bt:DE P t=true) (hle:k+P.cellsOf t≤sz) (FU:Aq P el=true∨(sz=1∧Aq P t=false)) (Ep:Aq P t=true∨P.cellsOf t=1)
  {xe:E} {us:List Nat} {ck:List Cn} (Cm:TC P hp0 [] t ((l.drop k).take (P.cellsOf t)) s=some (xe,us,ck)) (JN: ∀q∈ck,q.den c.ρ) (Cl:us.Nodup) (hb:b∉us)
  (Cg: ∀(kk:IntKind) (kv:Int),ix.den c.ρ= .int kk kv→ ∃(m cap:Nat) (C:Array Value) (ys:List AV) (N1 N2:List Nat),c.H b g= .slice (some ⟨m,0,none⟩) ys.length cap∧c0.den c.ρ= .sl ys∧0<sz∧l.length=sz∧c.w.heap[m]?=some (.cells C el (0,0))∧ys.length≤cap∧cap≤maxLen∧C.size=cap*sz∧(∀y∈ys,y.cells.length=sz)∧(∀w∈C.toList.take (ys.length*sz),w.oneCell'=true)∧
   (m::(N1++N2)).Nodup∧(∀q∈m::(N1++N2),q∈(c.G b).top)∧DC c.w ((Dn ys.length l).take (kv.toNat*sz+k)) ((C.toList.take (ys.length*sz)).take (kv.toNat*sz+k)) ((AO ys).take (kv.toNat*sz+k)) N1∧
   DC c.w ((Dn ys.length l).drop (kv.toNat*sz+k+P.cellsOf t)) ((C.toList.take (ys.length*sz)).drop (kv.toNat*sz+k+P.cellsOf t)) ((AO ys).drop (kv.toNat*sz+k+P.cellsOf t)) N2):
  AB P o c n nx sl hp [] a {ca:=ck,bt:=(b, .deep el sz l g (ep+1) (.set c0 ix (.put (.idx c0 ix) k xe (Aq P el))))::FB us}:=by
 generalize hv:a.eval x=v at r1;cases r1 with
 |c7 k1 k2 k3 k4 k5 k6=>
  rename_i m0 len cap0 kk kv;obtain⟨m,cap,C,ys,N1,N2,p1,p2,p3,p4,p5,p6,p7,p8,p9,p10,p11,p12,p13,p14⟩:=Cg kk kv k3;rw [k2]at p1;cases p1;have G0:kv.toNat<ys.length:=by omega
  have hmul:(kv.toNat+1)*sz≤ys.length*sz:=Nat.mul_le_mul_right _ (by omega);have Gz:ys.length*sz≤cap0*sz:=Nat.mul_le_mul_right _ p6;rw [Nat.add_mul]at hmul;have Eb:C.toList.length=cap0*sz:=by simpa using p8
  obtain⟨q1,q2,q3,q4,q5,q6⟩:=zsh h.eh h.gs (by rw [List.length_take,List.length_drop,p4];omega) Ep Cm r2 JN;have GD:=Oe G0;generalize HH:(AV.sl ys).nth kv.toNat=yk at GD;have F2:=p9 yk (List.mem_of_getElem? GD);have Ew:(a.eval y).cells.toList.length=P.cellsOf t:=by simpa using q4
  obtain⟨m1,m2,m3⟩:=ZV (vs:=(a.eval y).cells.toList) p5 (show(kv.toNat*sz+k)+_≤C.size by rw [Ew,p8];omega);have OU:(C.toList.take (ys.length*sz)).length=ys.length*sz:=by rw [List.length_take,Eb];omega
  have H6:m0∈(c.G b).top:=p12 _ (by simp);have LP: ∀q∈Cp c us,q∉(c.G b).top:=fun q hq hh=>by obtain⟨u,hu,gX⟩:=SW.1 hq;exact h.rel.gw.cz u b (fun hh=>hb (hh▸hu)) q (by simp [GI.own,gX]) (by simp [GI.own,hh])
  have MR: ∀q∈Cp c us,q<c.w.heap.size:=fun q hq=>by obtain⟨u,_,gX⟩:=SW.1 hq;exact h.rel.gw.inb u q (by simp [GI.own,gX])
  have MQ: ∀q∈(c.G b).top,q<c.w.heap.size:=fun q hq=>h.rel.gw.inb b q (by simp [GI.own,hq]);have Ba: ∀q,q∈Cp c us∨(q∈N1++N2)→(Dd c.w m0 (kv.toNat*sz+k) (a.eval y).cells.toList).heap[q]?=c.w.heap[q]?:=fun q hq=>by
   refine m1.block q ?_ ?_
   ·rcases hq with hq|hq
    ·exact MR q hq
    ·exact MQ q (p12 q (by simp [Ai.1 hq]))
   ·simp only [List.mem_singleton];rintro rfl;rcases hq with hq|hq
    ·exact LP _ hq H6
    ·exact(List.nodup_cons.1 p11).1 hq
  have hz:(yk.di k (xe.den c.ρ) (Aq P el)).cells=setVs yk.cells k (xe.den c.ρ).cells:=by
   refine qH ?_ (fun hg=> ?_)
   ·cases hg:Aq P el with
    |true=>exact .inr rfl
    |false=>
     left;rcases FU with h'|⟨_,h'⟩
     ·rw [hg]at h';cases h'
     ·rw [h']at q5;exact fun cs=>(q5.1 cs)
   ·rcases FU with h'|⟨h1,h'⟩
    ·rw [hg]at h';cases h'
    ·rw [h']at q5;have OE:P.cellsOf t=1:=by rcases Ep with h2|h2;rw [h']at h2;cases h2;exact h2
     refine⟨by omega,by omega, ?_⟩;cases iQ:xe.den c.ρ<;>first|rfl|exact absurd iQ (q5.1 _)
  have ES:AO (ys.set kv.toNat (yk.di k (xe.den c.ρ) (Aq P el)))=setVs (AO ys) (kv.toNat*sz+k) (xe.den c.ρ).cells:=
   cE ys _ _ yk k _ p9 GD (by rw [q3];exact hle) hz
  have Hr:((Dn ys.length l).drop (kv.toNat*sz+k)).take (P.cellsOf t)=(l.drop k).take (P.cellsOf t):=by rw [←p4];exact Wn l _ _ _ _ G0 (by omega)
  have AU:(execOp a.eval o).run P c.w= .ok .skip (Dd c.w m0 (kv.toNat*sz+k) (a.eval y).cells.toList):=by have:=oX (P:=P) (t:=t) (v:=a.eval y) (off:=kv.toNat*sz+k) p5 Bt q4 (by rw [q4,p8];omega) q2;simp [execOp,ho,hv,this]
  refine AB.l4 h Cl q6 hb hK Et hE AU (hs:=(c.G b).top++Cp c us) (fun q hq=>Ai.1 hq) ⟨m1.os,m1.tape,m1.output,m1.size,fun q hq hn=>m1.block q hq fun hh=>hn (by simp only [List.mem_singleton]at hh;subst hh;exact Ai.2 (.inl H6))⟩
   (top:=m0::(N1++(Cp c us++N2))) ?_ (fun q hq=> ?_) ?_
  ·have hnT:=aC h.rel.gw Cl;rw [List.nodup_cons,List.nodup_append]at p11;obtain⟨n1,n2,n3,n4⟩:=p11;have a1: ∀q∈Cp c us,q∉N1∧q∉N2∧q≠m0:=fun q hq=>⟨fun hh=>LP q hq (p12 q (by simp [hh])),fun hh=>LP q hq (p12 q (by simp [hh])),fun hh=>LP q hq (hh▸H6)⟩
   rw [List.nodup_cons,List.nodup_append,List.nodup_append];refine⟨fun hh=> ?_,n2,⟨hnT,n3,fun p hp q hq XP=>(a1 p hp).2.1 (XP▸hq)⟩,fun p hp q hq XP=> ?_⟩
   ·simp only [Ai]at hh n1;rcases hh with hh|hh|hh
    ·exact n1 (.inl hh)
    ·exact(a1 _ hh).2.2 rfl
    ·exact n1 (.inr hh)
   ·rcases Ai.1 hq with hq|hq
    ·exact(a1 q hq).1 (XP▸hp)
    ·exact n4 p hp q hq XP
  ·have:q∈(c.G b).top∨q∈Cp c us:=by
    simp only [Ag,Ai]at hq;rcases hq with rfl|hq|hq|hq
    ·exact .inl H6
    ·exact .inl (p12 q (by simp [hq]))
    ·exact .inr hq
    ·exact .inl (p12 q (by simp [hq]))
   refine⟨.inl (Ai.2 this),Nat.lt_of_lt_of_le ?_ m1.size⟩;rcases this with hh|hh
   ·exact MQ q hh
   ·exact MR q hh
  ·have Cb:(E.set c0 ix (.put (.idx c0 ix) k xe (Aq P el))).den c.ρ= .sl (ys.set kv.toNat (yk.di k (xe.den c.ρ) (Aq P el))):=by
    simp only [E.den,p2,k3,AV.idx,HH,AV.da]
   rw [Cb,k2];have DI:(ys.set kv.toNat (yk.di k (xe.den c.ρ) (Aq P el))).length=ys.length:=List.length_set;have:=DC.row (w:=Dd c.w m0 (kv.toNat*sz+k) (a.eval y).cells.toList) (e:=el) (z:=sz) (l:=AY.of l) (g:=m0) (cap:=cap0) (ys:=ys.set kv.toNat (yk.di k (xe.den c.ρ) (Aq P el))) (N1:=N1++(Cp c us++N2)) (ts:= []) (vs:= []) (xs:= []) (N:= []) p3 (by rw [AY.bc];exact p4) m2 (by rw [DI];exact p6) p7 (by rw [List.size_toArray,SZ _ _ _ (by rw [Ew,Eb];omega),Array.length_toList];exact p8) (fun w hw=> ?_) ?_ ?_ .nil
   ·rw [DI]at this;simpa using this
   ·rcases List.mem_or_eq_of_mem_set hw with hw|rfl
    ·exact p9 w hw
    ·rw [hz,SZ _ _ _ (by rw [q3,F2];exact hle)];exact F2
   ·simp only [DI,List.toList_toArray];rw [SQ _ _ _ _ (by rw [Ew];omega) (by rw [Eb];omega)];intro u hu;unfold setVs at hu;simp only [Ai]at hu;rcases hu with(hu|hu)|hu
    ·exact p10 u (List.mem_of_mem_take hu)
    ·exact q2 u hu
    ·exact p10 u (List.mem_of_mem_drop hu)
   ·simp only [DI,List.toList_toArray];rw [SQ _ _ _ _ (by rw [Ew];omega) (by rw [Eb];omega),ES,AY.bc];refine DC.setVs (p13.frame fun q hq=>Ba q (.inr (by simp [hq]))) ?_ ?_
    ·rw [Ew];exact p14.frame fun q hq=>Ba q (.inr (by simp [hq]))
    ·rw [Ew,Hr];exact q1.frame fun q hq=>Ba q (.inl hq)
theorem zun (h:Bx P c n nx sl hp a sl0 hp0 o gs) {t:TypeId} {x y:Operand} (ho:o.op= .store t x y) {b g:Nat} {ix:E} {sz k:Nat} {s:SV} (BF: ¬ ∃e z g c d,Dz hp0 gs b=some (.row e z g c d)) (hx:BS sl0 gs x=some (.c7 b g ix sz k)) (hy:BS sl0 gs y=some s)
  (he:NZ P hp0 gs t (.c7 b g ix sz k) s=some e) (hc: ∀q∈e.ca,Cn.den c.ρ q):AB P o c n nx sl hp gs a e:=by
 have r1:=h.db hx (by simp [ho,Op.operands]);have r2:=h.db hy (by simp [ho,Op.operands]);simp only [NZ]at he;split at he
 ·rename_i hl;exact absurd ⟨_,_,_,_,_,hl⟩ BF
 ·rename_i el sz' l g' ep c0 hl;split at he
  ·rename_i hh;obtain⟨rfl,rfl,rfl,Bt,hle,FU,Ep⟩:=hh;split at he
   ·rename_i xe us ck Cm;split at he
    ·cases he
    rename_i Ft;simp only [Bool.or_eq_true,Bool.not_eq_true',not_or,Bool.not_eq_false,Bool.not_eq_true,List.contains_eq_mem,decide_eq_false_iff_not]at Ft;simp only [Ah]at he;subst he;obtain⟨e1,e2,e3,e4,e5⟩:=h.eh b _ (C5 hl h.gs);refine zvm h ho r1 r2 e1 e2 e3 Bt hle (by simpa using FU) Ep Cm hc (S2 Ft.1) Ft.2 fun kk kv Un=> ?_;generalize a.eval x=v at r1;cases r1 with
    |c7 k1 k2 k3 k4 k5 _=>
     rw [k3]at Un;cases Un;obtain⟨d1,d2,⟨a9,d3,_⟩|⟨g9,cap9,C,ys,N,d3,d4,d5,d6,d7,d8,d9,d10,d11,d12⟩⟩:=e4.inv
     ·rw [k2]at d3;cases d3;omega
     ·rw [AY.bc]at d2 d12;obtain⟨N1,N2,N3,rfl,s1,s2,s3⟩:=d12.split (kv.toNat*sz+k) (P.cellsOf t);have Cl:=h.rel.gw.nodup b;simp only [GI.own,e5,List.append_nil,d5]at Cl;refine⟨g9,cap9,C,ys,N1,N3,d3,d4,d1,d2,d6,d7,d8,d9,d10,d11, ?_,fun q hq=> ?_,s1,s3⟩
      ·refine List.Sublist.nodup (List.Sublist.cons_cons _ ?_) Cl;rw [List.append_assoc];exact List.Sublist.append (List.Sublist.refl _) (List.sublist_append_right _ _)
      ·rw [d5];simp only [Ag,Ai]at hq ⊢;rcases hq with hq|hq|hq
       ·exact .inl hq
       ·exact .inr (.inl (.inl hq))
       ·exact .inr (.inr hq)
   ·cases he
  ·cases he
 ·rename_i el sz' l g' ep c0 i' o' u' hl;split at he
  ·rename_i hh;obtain⟨rfl,rfl,rfl,Bt,rfl,hib,hle,OE,Ep,FU⟩:=hh;have Ep:Aq P t=false:=by simpa using Ep
   split at he
   ·rename_i xe us ck Cm;split at he
    ·cases he
    rename_i Ft;simp only [Bool.or_eq_true,Bool.not_eq_true',not_or,Bool.not_eq_false,Bool.not_eq_true,List.contains_eq_mem,decide_eq_false_iff_not]at Ft;simp only [Ah]at he;subst he;obtain⟨e1,e2,e3,⟨m,cap,C,ys,kk,kv,N1,N2,p1,p2,p3,p4,p5,p6,p7,p7',p8,p9,p10,p11,p12,p13,p14,p15,p16,p17,p18⟩,e5⟩:=h.eh b _ (C5 hl h.gs);refine zvm h ho r1 r2 e1 e2 e3 Bt (by omega) (FU.imp id fun hh=>⟨hh,Ep⟩) (.inr OE) (by rw [OE];exact Cm) hc (S2 Ft.1) Ft.2 fun kk' kv' Un=> ?_;rw [E.au c.ρ _ _ hib,p3]at Un;cases Un;have Cl:=h.rel.gw.nodup b;simp only [GI.own,e5,List.append_nil,p14]at Cl;exact⟨m,cap,C,ys,N1,N2,p1,p2,p7,p7',p8,p9,p10,p11,p12,p13,Cl,fun q hq=>by rw [p14];exact hq,p17,by rw [OE];exact p18⟩
   ·cases he
  ·cases he
 ·cases he
end
section
variable {P:Program} {c:Cx} {n nx:Nat} {sl sl0:Nat→SV} {hp hp0:Nat→Option Aj} {a:Act} {o:Oper} {gs:Gd} {e:A7} {sg:BW} {nv:Nat}
theorem zyw {w:World} {ety sz:Nat} {p:Option Addr} {m r:Nat} {x:AV} {top N:List Nat} (h:C6 w ety sz (.slice p m r) x top N): ∃xs,x= .sl xs∧xs.length=m∧m≤r∧0<sz∧(∀y∈xs,y.cells.length=sz)∧
  ((xs= []∧m=0∧r=0∧top= []∧N= [])∨ ∃g C,p=some ⟨g,0,none⟩∧r≤maxLen∧w.heap[g]?=some (.cells C ety (0,0))∧C.size=r*sz∧top= [g]∧(∀u∈C.toList.take (m*sz),u.oneCell'=true)∧Rd w (C.toList.take (m*sz)) (AO xs) N):=by
 obtain⟨xs,rfl,h2,h3,⟨rfl,⟨a,hv⟩,rfl,rfl⟩|⟨g,cap',C,hv,h6,h7,h8,h9,rfl,Hm,Eo⟩⟩:=h
 ·cases hv;exact⟨[],rfl,rfl,Nat.le_refl _,h3,by simp, .inl ⟨rfl,rfl,rfl,rfl,rfl⟩⟩
 ·cases hv;exact⟨xs,rfl,rfl,h6,h3,h2, .inr ⟨g,C,rfl,h7,h8,h9,rfl,Hm,Eo⟩⟩
theorem zwK (h:Bx P c n nx sl hp a sl0 hp0 o gs) {t:TypeId} {x:Operand} {lo hi mx:Option Operand} (ho:o.op= .slice t x lo hi mx) {s:SV} (hs:BS sl0 gs x=some s) {l' h' m':Option SV} (BL:KC (BS sl0 gs) lo=some l') (MP:KC (BS sl0 gs) hi=some h') (Gx:KC (BS sl0 gs) mx=some m') (he:cI P hp0 gs t s l' h' m'=some e) (hc: ∀q∈e.ca,Cn.den c.ρ q):AB P o c n nx sl hp gs a e:=by
 have hm:x∈o.op.operands:=by simp [ho,Op.operands]
 have OW: ∀y,lo=some y→y∈o.op.operands:=fun y hy=>by simp [ho,Op.operands,hy]
 have LH: ∀y,hi=some y→y∈o.op.operands:=fun y hy=>by simp [ho,Op.operands,hy]
 have hx:=h.db hs hm;have ival: ∀{x:E} {kk:IntKind} {k:Int} {v:Value},SR c [.e x] [v]→x.den c.ρ= .int kk k→v= .int kk k:=by
  intro x kk k v hr hx;cases hr with
  |e h1 _ _=>exact(Hc h1 hx).1
 have ex:(execOp a.eval o).run P c.w=((Instr.sliceAt t (a.eval x) (lo.map a.eval) (hi.map a.eval) (mx.map a.eval)).run P c.w).andThen fun v w=> .ok (.value v) w:=by simp [execOp,ho]
 unfold cI at he;split at he
 ·rename_i el0 b g BB;have hu:=KW BB;split at he
  ·cases he
  rename_i Bt;have Bt:DE P el0=true:=by simpa using Bt
  have OY:mx=none:=by
   rcases Kq Gx with⟨hh,_⟩|⟨_,_,_,_,hh⟩
   ·exact hh
   ·cases hh
  subst OY;split at he
  ·rename_i el z g' c0 d hl;split at he
   ·cases he
   rename_i AK;simp only [not_or,Decidable.not_not,ne_eq]at AK;obtain⟨rfl,rfl,rfl⟩:=AK;obtain⟨q1,q2,N,q3,q4,q5,q6⟩:=h.eh b _ (C5 hl h.gs);generalize hv:a.eval x=v at hx ex;cases hx with
   |own k1 k2 k3=>
    rename_i p m r;rw [k2]at q3;obtain⟨xs,CN,Kb,Us,Cd,AG,Bo⟩:=zyw q3;split at he
    ·rename_i l;simp only [Ah]at he;subst he;obtain⟨ka,ai,kb,bi,mm,d1,d2,d3,d4,d5,d6⟩:Cn.den c.ρ (.win c0 l (.len c0)):=BX hc;have OX:mm=(m:Int):=by rw [CN]at d3;simp only [AV.len,AV.int.injEq,true_and]at d3;omega
     obtain⟨an,rfl⟩:=Int.eq_ofNat_of_zero_le d4;obtain⟨ol,Ch,hol⟩: ∃ol,lo=some ol∧BS sl0 [] ol=some (.e l):=by
      rcases Kq BL with⟨_,hh⟩|⟨ol,sl',ON,fJ,fK⟩
      ·cases hh
      ·cases fK;exact⟨ol,ON,fJ⟩
     have OO:hi=none:=by
      rcases Kq MP with⟨hh,_⟩|⟨_,_,_,_,hh⟩
      ·exact hh
      ·cases hh
     subst Ch;subst OO;have gD:=ival (h.db hol (OW _ rfl)) d1;have hle:an≤m:=by omega
     have AU:=nL (P:=P) (w:=c.w) (lo:=(some ol).map a.eval) (hi:=(none:Option Operand).map a.eval) hu Bt p m r an m (.inr ⟨ka,by rw [Option.map_some,gD]⟩) (.inl ⟨rfl,rfl⟩) hle (Nat.le_refl _) Us;have:=SR.wown (c:=c) (lo:=l) (sz:=P.cellsOf el) (q':=if r=an then p else p.map (·.add (an*P.cellsOf el))) (r:=r-an) k1 k2 d1 d4 (by omega) (fun Am=>by
      rcases Bo with⟨_,Er,_⟩|⟨g9,C,rfl,_⟩
      ·omega
      ·exact⟨g9,rfl,by rw [if_neg (by omega)];simp [Addr.add_lit],by simp⟩) .nil
     refine AB.pure h (v:=sliced p an m r (P.cellsOf el)) ?_ (by simpa [sliced]using this) rfl;rw [ex];show Result.andThen (Sem.run P (Instr.sliceAt t (.slice p m r) ((some ol).map a.eval) ((none:Option Operand).map a.eval) none) c.w) _=_;rw [AU];rfl
    ·rename_i hb;simp only [Ah]at he;subst he;obtain⟨ka,ai,kb,bi,mm,d1,d2,d3,d4,d5,d6⟩:Cn.den c.ρ (.win c0 (.int .i64 0) hb):=BX hc;have OX:mm=(m:Int):=by rw [CN]at d3;simp only [AV.len,AV.int.injEq,true_and]at d3;omega
     simp only [E.den,AV.int.injEq]at d1;obtain⟨_,rfl⟩:=d1;obtain⟨bn,rfl⟩:=Int.eq_ofNat_of_zero_le d5;obtain⟨oh,OO,hoh⟩: ∃oh,hi=some oh∧BS sl0 [] oh=some (.e hb):=by
      rcases Kq MP with⟨_,hh⟩|⟨ol,sl',ON,fJ,fK⟩
      ·cases hh
      ·cases fK;exact⟨ol,ON,fJ⟩
     have Ch:lo=none:=by
      rcases Kq BL with⟨hh,_⟩|⟨_,_,_,_,hh⟩
      ·exact hh
      ·cases hh
     subst Ch;subst OO;have gD:=ival (h.db hoh (LH _ rfl)) d2;have hle:bn≤m:=by omega
     have AU:=nL (P:=P) (w:=c.w) (lo:=(none:Option Operand).map a.eval) (hi:=(some oh).map a.eval) hu Bt p m r 0 bn (.inl ⟨rfl,rfl⟩) (.inr ⟨kb,by rw [Option.map_some,gD]⟩) (Nat.zero_le _) hle Us;have CQ:sliced p 0 bn r (P.cellsOf el)= .slice p bn r:=by
      unfold sliced;rcases Bo with⟨_,_,rfl,_⟩|⟨g9,C,rfl,_⟩
      ·simp
      ·split<;>simp [Addr.add_lit]
     rw [CQ]at AU;have FI:(execOp a.eval o).run P c.w= .ok (.value (.slice p bn r)) c.w:=by rw [ex];show Result.andThen (Sem.run P (Instr.sliceAt t (.slice p m r) ((none:Option Operand).map a.eval) ((some oh).map a.eval) none) c.w) _=_;rw [AU];rfl
     have A1: ¬c.K b (g+1):=fun hk=>by have:=q2 _ hk;omega
     have As:=h.rel;have DY:=As.bm (gs:= []) (t:=b) (g:=g+1) (w':=c.w) (row:=(c.G b).top.head?) (top:=(c.G b).top) (O:=if d=true then(c.G b).O else []) (v:= .slice p bn r) (.inr (by omega)) A1 ⟨rfl,rfl,rfl,Nat.le_refl _,fun _ _ _=>rfl⟩ (fun g0 Fq=> .inl (List.mem_of_mem_head? Fq)) (by
       rcases Bo with⟨_,_,_,ht,_⟩|⟨g9,C,_,_,_,_,ht,_⟩
       ·exact .inl ht
       ·exact .inr ⟨g9,by rw [ht];rfl,ht⟩) (by split;exact .inr rfl;exact .inl rfl)
      (.row el (P.cellsOf el) (g+1) (.win c0 (.int .i64 0) hb) d) (by intros;simp) (Ff _) (fun G1=>by
       have HF:(E.win c0 (.int .i64 0) hb).den c.ρ= .sl (xs.take bn):=by simp only [E.den,CN,d2,AV.win];simp
       obtain⟨N',BE,Xw⟩: ∃N',C6 c.w el (P.cellsOf el) (.slice p bn r) (.sl (xs.take bn)) (c.G b).top N'∧ ∀q∈N',q∈N:=by
        rcases Bo with⟨rfl,Er,rfl,ht,rfl⟩|⟨g9,C,rfl,Et,XD,hC,ht,h1,DJ⟩
        ·have:bn=0:=by omega
         subst this;exact⟨[],⟨[],by simp,by simp,Cd, .inl ⟨rfl,⟨p,rfl⟩,ht,rfl⟩⟩,by simp⟩
        ·obtain⟨N',dY,CZ⟩:=DJ.piece 0 (bn*P.cellsOf el);have G2:(xs.take bn).length=bn:=by rw [List.length_take];omega
         have hmul:bn*P.cellsOf el≤m*P.cellsOf el:=Nat.mul_le_mul_right _ hle;have ef:=qV xs AG 0 bn (Nat.zero_le _) (by omega);simp only [Nat.zero_mul,Nat.sub_zero,List.drop_zero]at ef CZ;rw [ef,List.take_take,Nat.min_eq_left hmul]at CZ;refine⟨N',⟨xs.take bn,rfl,fun y hy=>AG y (List.mem_of_mem_take hy),Cd, .inr ⟨g9,r,C,by rw [G2],by rw [G2];omega,Et,XD,hC,ht, ?_, ?_⟩⟩,dY⟩
         ·rw [G2];intro u hu;refine h1 u ?_;have:C.toList.take (bn*P.cellsOf el)=(C.toList.take (m*P.cellsOf el)).take (bn*P.cellsOf el):=by rw [List.take_take,Nat.min_eq_left hmul]
          rw [this]at hu;exact List.mem_of_mem_take hu
         ·rw [G2];exact CZ
       refine⟨.inr ⟨rfl,rfl⟩,fun g'' OL=> ?_,N', ?_,fun q hq=>G1.ok q (BE.nw q hq) (q4 q (Xw q hq)),fun hd=> ?_,fun hd=>by simp [Cx.bm,hd]⟩
       ·rcases OL with OL|⟨_,rfl⟩
        ·have:=q2 _ OL;omega
        ·exact Nat.le_refl _
       ·have e1:(c.bm b (g+1) c.w (.slice p bn r) (c.G b).top (if d=true then(c.G b).O else [])).H b (g+1)= .slice p bn r:=by simp [Cx.bm]
        have e2:((c.bm b (g+1) c.w (.slice p bn r) (c.G b).top (if d=true then(c.G b).O else [])).G b).top=(c.G b).top:=by simp [Cx.bm]
        rw [e1,e2];show C6 c.w el (P.cellsOf el) _ ((E.win c0 (.int .i64 0) hb).den c.ρ) _ N';rw [HF];exact BE
       ·obtain⟨u1,u2⟩:=q5 hd;have u1:N= []:=u1;subst u1;have Ox:N'= []:=List.eq_nil_iff_forall_not_mem.2 fun q hq=>by simpa using Xw q hq
        subst Ox;exact⟨rfl,by simp only [Cx.bm,if_true,hd];exact u2⟩)
     intro next Q hk
     unfold Oper.wp;rw [FI,Oper.upon_value];refine hk _ (c.bm b (g+1) c.w (.slice p bn r) (c.G b).top (if d=true then(c.G b).O else [])) ⟨rfl,rfl,rfl,rfl,fun u hu=> ?_⟩ (DY.put (SR.mkGd (c:=c.bm b (g+1) c.w (.slice p bn r) (c.G b).top (if d=true then(c.G b).O else [])) (s:= .own b (g+1)) (v:= .slice p bn r) (.own (show _∨_ from .inr ⟨rfl,rfl⟩) (by simp [Cx.bm]) .nil) []) o.dst);rcases hu with hu|rfl
     ·exact .inl hu
     ·exact .inl (h.rel.ch _ _ k1)
    ·cases he
  ·cases he
 ·cases he
theorem zum (z:Array Value) (hz:0<z.size) (k:Nat):(Builtin.zeroCells z k).toList=(List.replicate k z.toList).flatten:=by have:=ZZ z hz k;rw [←this];rfl
theorem zAZ (h:Bx P c n nx sl hp a sl0 hp0 o gs) {x:Operand} {tx:TypeId} {cl:Call} (ho:o.op= .call cl) (AG:cl.callee= .builtin .clear) (DA:cl.args.toList= [x]) (EO:cl.argTypes.toList= [tx]) {s:SV} (hs:BS sl0 gs x=some s) (he:rP P hp0 gs tx s=some e) (hc: ∀q∈e.ca,Cn.den c.ρ q):AB P o c n nx sl hp gs a e:=by
 have Az:cl.args= #[x]:=by apply Array.ext';simp [DA]
 have HE:cl.argTypes= #[tx]:=by apply Array.ext';simp [EO]
 have hm:x∈o.op.operands:=by simp [ho,Op.operands,Call.operands,AG,Az]
 have hx:=h.db hs hm;unfold rP at he;split at he
 ·rename_i el0 b g l z BB;have hu:=KW BB;split at he
  ·rename_i el z' g' c0 d hl;split at he
   ·cases he
   rename_i AK;simp only [not_or,Bool.not_eq_true',Bool.not_eq_false,Decidable.not_not,ne_eq]at AK;obtain⟨rfl,rfl,rfl,rfl,hz,AE⟩:=AK;have AE:Aq P el=true∨P.cellsOf el=1:=by simpa using AE
   obtain⟨i,zv,hi,Gv,D4,Cd,CH,GX⟩:=Mb hz;split at he
   ·rename_i q hq;split at he
    ·rename_i w hw;have hq:Fh zv=some q:=by simpa [hi,Gv]using hq
     simp only [Ah]at he;subst he;obtain⟨c1,c2⟩:=oS (w:=c.w) (ρ:=c.ρ) hq hw;have AR:=Ms h.hp (C5 hl h.gs);obtain⟨q1,q2,N,q3,q4,q5,q6⟩:=h.rel.ents b _ AR;generalize hv:a.eval x=v at hx;cases hx with
     |wown k1 k2 k3 k4 k5 k6 k7=>
      rename_i p m r q' r' kk kv;rw [k2]at q3;obtain⟨xs,CN,Kb,Us,iF,OD,Bo⟩:=zyw q3;have OF:(E.bin .sub (.len c0) l).den c.ρ≠ .undef:=hc (.dfd (.bin .sub (.len c0) l)) (by simp);have MS:kk= .i64:=by
       simp only [E.den,CN,AV.len,k3,AV.bin]at OF;split at OF
       ·rename_i hh;rcases hh with hh|hh|hh
        ·exact hh.symm
        ·cases hh
        ·cases hh
       ·exact absurd rfl OF
      subst MS;have Cb:(E.bin .sub (.len c0) l).den c.ρ= .int .i64 ((m:Int)-kv):=by
       simp only [E.den,CN,AV.len,k3,AV.bin,true_or,if_true,BQ,Kb];congr 1;have hm63:(m:Int)≤9223372036854775807:=by
        rcases Bo with⟨_,h0,_⟩|⟨_,_,_,Et,_⟩
        ·omega
        ·have:maxLen=9223372036854775807:=rfl;omega
       exact(Qi .i64 _).2 ⟨by simp [IntKind.min,IntKind.signed,IntKind.bits];omega,by simp [IntKind.max,IntKind.signed,IntKind.bits];omega⟩
      have A1:(E.app (.win c0 (.int .i64 0) l) (.rep (.bin .sub (.len c0) l) w)).den c.ρ= .sl (xs.take kv.toNat++List.replicate (m-kv.toNat) (w.den c.ρ)):=by
       have e1:(E.win c0 (.int .i64 0) l).den c.ρ= .sl (xs.take kv.toNat):=by simp only [E.den,CN,k3,AV.win];simp
       have e2:(E.rep (.bin .sub (.len c0) l) w).den c.ρ= .sl (List.replicate (m-kv.toNat) (w.den c.ρ)):=by show AV.rep ((E.bin .sub (.len c0) l).den c.ρ) (w.den c.ρ)=_;rw [Cb];simp only [AV.rep];congr 2;omega
       show AV.app _ _=_;rw [e1,e2];rfl
      have ex:(execOp a.eval o).run P c.w=((Builtin.clear_ #[tx] o.type #[.slice q' (m-kv.toNat) r']).run P c.w).andThen fun v w=> .ok (.value v) w:=by simp [execOp,ho,resolve,AG,Az,HE,invoke,builtin,hv]
      rcases Nat.eq_or_lt_of_le (show kv.toNat≤m by omega)with heq|Am
      ·
       have BU:m-kv.toNat=0:=by omega
       have AU:(execOp a.eval o).run P c.w= .ok (.value (.tuple #[])) c.w:=by rw [ex,BU];cases q'<;>simp [Builtin.clear_,run_underlying hu]
       have Ba:(E.app (.win c0 (.int .i64 0) l) (.rep (.bin .sub (.len c0) l) w)).den c.ρ=c0.den c.ρ:=by rw [A1,CN,BU];simp [List.take_of_length_le (show xs.length≤kv.toNat by omega)]
       intro next Q hk
       unfold Oper.wp;rw [AU,Oper.upon_value];have DY:Rel c n sl (Bb hp [(b, .row el (P.cellsOf el) g (.app (.win c0 (.int .i64 0) l) (.rep (.bin .sub (.len c0) l) w)) d)]) a:=by
        have D0: ∀u,Bb hp [(b, .row el (P.cellsOf el) g (.app (.win c0 (.int .i64 0) l) (.rep (.bin .sub (.len c0) l) w)) d)] u=if u=b then some (.row el (P.cellsOf el) g (.app (.win c0 (.int .i64 0) l) (.rep (.bin .sub (.len c0) l) w)) d)else hp u:=fun u=>rfl;refine h.rel.change (fun u=>u=b) (DU.refl c) h.rel.base (fun u hu=>⟨by rw [D0,if_neg hu],rfl,rfl,fun _ hk=>hk⟩) (fun _ _ _ _=>rfl) (fun u hu=> ?_) h.rel.gw h.rel.ch (fun u f hf=> ?_)
        ·subst hu;rw [D0,if_pos rfl];refine⟨fun e' hr=> ?_,fun hn=>absurd rfl (hn _)⟩;simp only [CA]at hr;subst hr;exact⟨q1,q2,N,by rw [Ba,k2];exact q3,q4,q5,q6⟩
        ·rw [D0]at hf;split at hf
         ·rename_i hu;subst hu;exact h.rel.ch _ _ k1
         ·exact h.rel.c6 u f hf
       exact hk _ c (Ns.refl _ _) (DY.put ((SR.undef .nil).mkGd []) o.dst)
      ·obtain⟨b9,uU,rfl,rfl⟩:=k6 (by omega);rcases Bo with⟨_,h0,_⟩|⟨g9,C,hp',Et,XD,hC,ht,h1,DJ⟩
       ·omega
       rw [uU]at hp';cases hp';have Eb:C.toList.length=r*P.cellsOf el:=by simpa using hC
       have uR:m*P.cellsOf el≤r*P.cellsOf el:=Nat.mul_le_mul_right _ Us;have uQ:(m-kv.toNat)*P.cellsOf el+kv.toNat*P.cellsOf el=m*P.cellsOf el:=by rw [←Nat.add_mul];congr 1;omega
       have iW:=zum zv.cells (by omega) (m-kv.toNat);generalize hZ:(List.replicate (m-kv.toNat) zv.cells.toList).flatten=Z at iW;have Oy:Z.length=(m-kv.toNat)*P.cellsOf el:=by rw [←hZ,List.length_flatten];simp only [List.map_replicate,List.sum_replicate_nat,Array.length_toList,D4,CH]
       have uH: ∀u∈Z,u.oneCell'=true:=fun u hu=>by rw [←hZ]at hu;obtain⟨L,hL,hu⟩:=List.mem_flatten.1 hu;rw [List.eq_of_mem_replicate hL]at hu;exact c2 u hu
       have FY:=oP (P:=P) (off:=kv.toNat*P.cellsOf el) Z 0 c.w C XD (by rw [Oy,hC];omega) uH;have AU:(execOp a.eval o).run P c.w= .ok (.value (.tuple #[])) (Dd c.w b9 (kv.toNat*P.cellsOf el) Z):=by
        rw [ex];obtain⟨mm,OX⟩: ∃mm,m-kv.toNat=mm+1:=⟨m-kv.toNat-1,by omega⟩
        have hzv:(zeroValue el).run P c.w= .ok zv c.w:=by simp [zeroValue,typeInfo,hi,Gv]
        simp only [Nat.add_zero]at FY;rw [OX]at iW ⊢;simp [Builtin.clear_,run_underlying hu,hzv,iW,FY]
       obtain⟨m1,m2,m3⟩:=ZV (off:=kv.toNat*P.cellsOf el) (vs:=Z) XD (by rw [Oy,hC];omega);have OU:(C.toList.take (m*P.cellsOf el)).length=m*P.cellsOf el:=by rw [List.length_take,Eb];omega
       have Nf:b9∈(c.G b).top:=by rw [ht];simp
       have TY:Rd c.w Z (AO (List.replicate (m-kv.toNat) (w.den c.ρ))) []:=by rw [←hZ];exact jB c1 _
       obtain⟨n1,n2,n3,hN,s1,s2⟩:=Rd.setVs (p:=kv.toNat*P.cellsOf el) DJ TY (by rw [OU,Oy];omega);have Na:(w.den c.ρ).cells.length=P.cellsOf el:=by have:=c1.len;rw [←this];simp [D4,CH]
       have hYl:(AO (List.replicate (m-kv.toNat) (w.den c.ρ))).length=Z.length:=by rw [←TY.len]
       have EC:setVs (AO xs) (kv.toNat*P.cellsOf el) (AO (List.replicate (m-kv.toNat) (w.den c.ρ)))=AO (xs.take kv.toNat++List.replicate (m-kv.toNat) (w.den c.ρ)):=by
        have ef:=qV xs OD 0 kv.toNat (Nat.zero_le _) (by omega)
        simp only [Nat.zero_mul,Nat.sub_zero,List.drop_zero]at ef;unfold setVs;rw [ef,oB,hYl,Oy,List.drop_eq_nil_of_le (by rw [NN _ OD,Kb];omega),List.append_nil]
       rw [EC]at s1;have Cg: ∀q∈n1++ []++n3,q∈N:=fun q hq=>by rw [hN];simp at hq ⊢;rcases hq with hq|hq<;>simp [hq]
       have FX: ∀q,q<c.w.heap.size→c.ok q→(Dd c.w b9 (kv.toNat*P.cellsOf el) Z).heap[q]?=c.w.heap[q]?:=by intro q hq Ax;refine m1.block q hq ?_;simp only [List.mem_singleton];rintro rfl;exact Ax.1 ⟨b,Nf⟩
       have DI:(xs.take kv.toNat++List.replicate (m-kv.toNat) (w.den c.ρ)).length=m:=by rw [Ar,List.length_take,List.length_replicate];omega
       have DY:=h.rel.ky (t:=b) (b:=b9) (w':=Dd c.w b9 (kv.toNat*P.cellsOf el) Z) (O:=if d=true then(c.G b).O else []) AR Nf (by split;exact .inr rfl;exact .inl rfl) m1 m3
        (.row el (P.cellsOf el) g (.app (.win c0 (.int .i64 0) l) (.rep (.bin .sub (.len c0) l) w)) d) (by intros;simp) (fun G1=>by
         refine⟨q1,q2,n1++ []++n3, ?_,fun q hq=>G1.ok q (DJ.inb q (Cg q hq)) (q4 q (Cg q hq)),fun hd=> ?_,fun hd=>by simp [Cx.gx,hd]⟩
         ·show C6 (Dd c.w b9 (kv.toNat*P.cellsOf el) Z) el (P.cellsOf el) (c.H b g) ((E.app (.win c0 (.int .i64 0) l) (.rep (.bin .sub (.len c0) l) w)).den c.ρ) _ _;rw [A1,k2,uU];refine⟨_,rfl,fun y hy=> ?_,iF, .inr ⟨b9,r,_,by rw [DI],by rw [DI];exact Us,Et,m2, ?_,by simpa [Cx.gx]using ht, ?_, ?_⟩⟩
          ·rcases Ai.1 hy with hy|hy
           ·exact OD y (List.mem_of_mem_take hy)
           ·rw [List.eq_of_mem_replicate hy];exact Na
          ·rw [List.size_toArray,SZ _ _ _ (by rw [Oy,Eb];omega),Array.length_toList];exact hC
          ·simp only [DI,List.toList_toArray];rw [SQ _ _ _ _ (by rw [Oy];omega) (by rw [Eb];omega)];intro u hu;unfold setVs at hu;simp only [Ai]at hu;rcases hu with(hu|hu)|hu
           ·exact h1 u (List.mem_of_mem_take hu)
           ·exact uH u hu
           ·exact h1 u (List.mem_of_mem_drop hu)
          ·simp only [DI,List.toList_toArray];rw [SQ _ _ _ _ (by rw [Oy];omega) (by rw [Eb];omega)];exact s1.frame fun q hq=>FX q (DJ.inb q (Cg q hq)) (q4 q (Cg q hq))
         ·obtain⟨u1,u2⟩:=q5 hd;have u1:N= []:=u1;subst u1;have Ox:n1++ []++n3= []:=List.eq_nil_iff_forall_not_mem.2 fun q hq=>by simpa using Cg q hq
          rw [Ox];exact⟨rfl,by simp only [Cx.gx,if_true,hd];exact u2⟩)
       intro next Q hk
       unfold Oper.wp;rw [AU,Oper.upon_value];exact hk _ (c.gx _ b _) ⟨rfl,rfl,rfl,rfl,fun t ht=> .inl ht⟩ (DY.put ((SR.undef .nil).mkGd []) o.dst)
    ·cases he
   ·cases he
  ·cases he
 ·cases he
end
section
variable {P:Program} {c:Cx} {n nx:Nat} {sl sl0:Nat→SV} {hp hp0:Nat→Option Aj} {a:Act} {o:Oper} {gs:Gd} {e:A7} {sg:BW} {nv:Nat}
theorem tQ {w:World}: ∀(vs:List Value) {xs:List AV} {f:List Nat} (ts:List TypeId),Rd w vs xs f→ts.length≤vs.length→DP P w ts [] [] vs xs f [] []
 | [],xs,f,ts,h,hl=>by have:ts= []:=List.eq_nil_of_length_eq_zero (by simpa using hl);subst this;cases h;exact .nil
 |v::vs, [],f,ts,h,hl=>by have:=h.len;simp at this
 |v::vs,x::xs,f,ts,h,hl=>by
  obtain⟨f1,f2,rfl,h1,h2⟩:=h.cr;cases ts with
  |nil=>exact .free h1 (tQ vs [] h2 (by simp))
  |cons t ts=>exact DP.cons (h:= []) ⟨h1,rfl⟩ (tQ vs ts h2 (by simpa using hl))
theorem zGW (l:EL):EL.of (Tm.go l)=l:=by
 induction l using EL.rec (motive_1:=fun _=>True)with
 |nil=>rfl
 |cons e es _ ih=>simp [Tm.go,EL.of,ih]
 |_=>trivial
theorem zEU {w:World} {ts:List TypeId} {vs:List Value} {Bs:List AV} {f o:List Nat} (h:D5 P w ts [] vs Bs f o):Bs= []:=by
 have key: ∀(ts:List TypeId),BK ts []=false:=by
  intro ts
  induction ts with
  |nil=>rfl
  |cons t ts ih=>simp only [BK,List.headD_nil,Bool.false_or,List.tail_nil];exact ih
 exact(pI h).2 (key ts)
theorem zC9 (t:TypeId):Hd P t []=false:=by simp [Hd]
theorem zq9 (h:Bx P c n nx sl hp a sl0 hp0 o gs) {cl:Call} {fo:Operand} (ho:o.op= .call cl) (AG:cl.callee= .value fo) {y:E} {sf:SV} (hf:BS sl0 gs fo=some sf) (hsf: ∀v,SR c [sf] [v]→ ∃f,Rd c.w [v] [y.den c.ρ] f) {as_:List SV} (has:cl.args.toList.mapM (BS sl0 gs)=some as_) {t:TypeId}
  (he:Tm P hp0 gs nv t y as_=some e) (Bh: ∀c',e.call=some c'→ ∃r,c.ρ[nv]?=some r∧I0 (Ct P sg) c'.fn ((EL.of c'.args).den c.ρ) c.ρ r):AB P o c n nx sl hp gs a e:=by
 have gG:fo∈o.op.operands:=by simp [ho,Op.operands,Call.operands,AG]
 have gF: ∀x∈cl.args.toList,x∈o.op.operands:=fun x hx=>by
  have:x∈cl.args:=by simpa using hx
  simp [ho,Op.operands,Call.operands,AG,this]
 have M3:=h.db hf gG;have Az:=zyl (a:=a) (fun x hx s hs=>h.db hs (gF x hx)) has;unfold Tm at he;split at he
 ·cases he
 split at he
 ·cases he
 rename_i es IB;simp only [Ah]at he;subst he;obtain⟨r,hr,g,caps,hy,J4,Fv⟩:=Bh _ rfl;rw [zGW]at J4;obtain⟨f1,p1,p2⟩:=Td h.eh h.gs A3 IB Az A3 (Nat.le_refl _);generalize fF:a.eval fo=fv at M3;obtain⟨_,k1⟩:=hsf _ M3;obtain⟨capv,f2,rfl,eU⟩: ∃capv f2,fv= .func (.func g) #[] capv.toArray∧Rd c.w capv caps f2:=by
  rw [hy]at k1;cases k1 with
  |fn q1 _=>exact⟨_,_,rfl,q1⟩
 have O9:TL P {cy:= [],res:= []} g (es.den c.ρ++caps) r:=by unfold Ct at J4;rw [if_neg (by omega)]at J4;simpa using J4
 obtain⟨fn,Hu,Ec,Ee,_,hlen,_,FW⟩:=O9;have DJ:=p1.app eU;have Ew:=DJ.len;have Bh:=FW c.w _ _ [] [] (tQ _ (fn.params.toList++ []) DJ (by rw [Ew,hlen,List.append_nil,Array.length_toList];omega)) (by simp) (by simp) (by simp) (h.rel.od (by simp));have ex:(execOp a.eval o).run P c.w= .ok (.enter g (cl.args.map a.eval++capv.toArray)) c.w:=by
  have hb:fn.body.isNone=false:=by simpa using Ec
  simp only [execOp,ho,resolve,AG,fF,Deferred.ofValue,Sem.run_bind,Sem.run_pure,Result.andThen_ok,invoke,callFunc,run_program,Hu];simp [Ee,hb]
 intro next Q hk
 unfold Oper.wp;rw [ex,Oper.upon_enter];have Oz:cl.args.map a.eval++capv.toArray=((cl.args.toList.map a.eval)++capv).toArray:=by apply Array.ext';simp
 rw [Oz];refine Bh.mono ?_;rintro e' w' ⟨v,rfl,⟨R,Bs,f1',o1,f2',o2,LJ,AR,FD,Hz,UA,Ue⟩,DB⟩;show next (a.put o.dst v) w'
 have Ow:=zEU FD;subst Ow;simp only at LJ;subst LJ;have hv:Rd w' [v] [r] []:=by
  unfold KP at AR;split at AR
  ·rename_i t' ht;unfold E6 at AR;rw [if_neg (by rw [zC9];simp)]at AR;have:=zp8 AR.1 Fv;subst this;exact AR.1
  ·obtain⟨vs,ys,_,rfl,_⟩:=AR;have:=Fv (.tup ys) (by simp [AV.cells]);simp [AV.scalar]at this
 obtain⟨FG,_⟩:=h.rel.changes (w':=w') (recs:= []) (hs:= []) (gs:=gs) h.gs DB (by simp) (by simp) (by simp) (by simp) (by simp) (by simp) (by simp);refine hk _ (c.dz w' []) ⟨rfl,rfl,rfl,rfl,fun t ht=> ?_⟩ (FG.put (SR.mkGd (.e (f:= []) ?_ (by simp) .nil) gs h.gs) o.dst)
 ·rcases ht with ht|⟨r,hr,_⟩
  ·exact .inl ht
  ·simp at hr
 ·show Rd w' [v] [(E.var nv).den c.ρ] [];simp only [E.den,hr,Option.getD_some];exact hv
theorem jP (J6: ∀f s,sg f=some s→f<1000000) (h:Bx P c n nx sl hp a sl0 hp0 o gs) (he:BJ P sg sl0 hp0 nv nx gs o=some e)
  (hc: ∀q∈e.ca,q.den c.ρ) (Bh: ∀cl,e.call=some cl→ ∃r,c.ρ[nv]?=some r∧I0 (Ct P sg) cl.fn ((EL.of cl.args).den c.ρ) c.ρ r) (CP: ∀x,e.cm=some x→c.ρ[nv]?=some (.bool (K9 a o))):AB P o c n nx sl hp gs a e:=by
 have LA:=he;cases AS:o.op with
 |move x=>simp only [BJ,AS,Av]at he;obtain⟨s,hs,rfl⟩:=he;exact zxg h (.inl AS) hs
 |assign x=>simp only [BJ,AS,Av]at he;obtain⟨s,hs,rfl⟩:=he;exact zxg h (.inr AS) hs
 |pick x y z=>exact zCn h AS he hc
 |alloc t=>exact zBf h AS he hc
 |box t x=>exact zFp h AS he hc
 |build t parts=>exact zA0 h AS he hc
 |buildSlice t m parts=>
  simp only [BJ,AS,Aw]at he;obtain⟨ps,M0,he⟩:=he;split at he
  ·exact zt6 h AS M0 he hc
  ·exact zrR h AS M0 he hc
 |load t x=>exact zDn h AS he hc
 |nilCheck x=>exact zvS h AS he hc
 |makeSlice t l m=>
  simp only [BJ,AS,Aw]at he;obtain⟨s1,BN,s2,A6,he⟩:=he;split at he
  ·exact zwD h AS BN A6 he hc
  ·exact zBv h AS BN A6 he hc
 |slice t x lo hi mx=>
  simp only [BJ,AS,Aw]at he;obtain⟨s,hs,l',BL,h',MP,m',Gx,he⟩:=he;split at he
  ·exact zwK h AS hs BL MP Gx he hc
  ·exact zzC h AS hs BL MP Gx he hc
 |fieldAddr t x f=>exact zt9 h AS he hc
 |field t x f=>exact zBF h AS he hc
 |extract x i=>exact zx5 h AS he hc
 |store t x y=>
  simp only [BJ,AS,Aw]at he;obtain⟨p,hp',v,hv,he⟩:=he;cases p with
  |cu b k=>exact zwr h AS hp' hv he hc
  |c7 b g i sz k=>
   by_cases BF: ∃e z g c d,Dz hp0 gs b=some (.row e z g c d)
   ·exact zvT h AS BF hp' hv he hc
   ·exact zun h AS BF hp' hv he hc
  |_=>simp [NZ]at he
 |binOp op t x y ty=>
  cases hu:P.underlying t with
  |none=>simp only [BJ,AS,Aw]at he;obtain⟨_,_,_,_,he⟩:=he;simp [TE,hu]at he
  |some d=>
   by_cases UJ: ∃fs,d= .struct fs
   ·obtain⟨fs,rfl⟩:=UJ;exact zFc h AS hu he hc
   ·have MY: ∀fs,P.underlying t≠some (.struct fs):=fun fs hh=>UJ ⟨fs,by rw [hu]at hh;cases hh;rfl⟩;cases hq:e.cm with
    |none=>exact zEE h AS MY he hq hc
    |some x'=>
     have GF:=CP x' hq;simp only [BJ,AS,Aw]at he;obtain⟨s1,BN,s2,A6,he⟩:=he;have r1:=h.db BN (by simp [AS,Op.operands]);have r2:=h.db A6 (by simp [AS,Op.operands]);unfold TE at he;split at he
     ·rename_i el F0;have CQ: ∀xq,Bw hp0 gs A3 s1=some xq→Cn.den c.ρ (.dfd (.len xq))→ ∃p q r,a.eval x= .slice p q r:=by
       intro xq Kc hd;obtain⟨f,q1,_⟩:=h.ln BN (by simp [AS,Op.operands]) Kc;have hd:(xq.den c.ρ).len≠ .undef:=hd;cases Bz:xq.den c.ρ<;>simp only [Bz,AV.len,ne_eq,not_true_eq_false]at hd;rename_i xs;have hl:(xq.den c.ρ).len= .int .i64 (xs.length:Int):=by rw [Bz];rfl
       rcases Tc q1 hl with⟨p,q,hv,Er⟩|⟨b,o',k,q,hv,Er⟩
       ·exact⟨_,_,_,hv⟩
       ·exact⟨_,_,_,hv⟩
      split at he
      ·simp at he;subst he;cases hq
      ·simp at he;subst he;cases hq
      ·obtain⟨xq,Kc,rfl⟩:=Av.1 he;obtain⟨p,q,r,hv⟩:=CQ xq Kc (hc _ (by simp));exact zyn h AS F0 hv r2 (.inl rfl) GF _
      ·obtain⟨xq,Kc,rfl⟩:=Av.1 he;obtain⟨p,q,r,hv⟩:=CQ xq Kc (hc _ (by simp));exact zyn h AS F0 hv r2 (.inr rfl) GF _
      ·cases he
     ·split at he
      ·simp at he;subst he;cases hq
      ·cases he
     ·split at he
      ·simp at he;subst he;cases hq
      ·cases he
     ·split at he
      ·simp at he;subst he;cases hq
      ·cases he
     ·rename_i fs F0;exact absurd F0 (MY fs)
     ·cases he
 |unOp u t x=>
  cases u with
  |not=>exact zFi h AS he hc
  |neg=>exact zFs h AS he hc
  |_=>simp [BJ,AS]at he
 |convert src dst x=>
  have MK:=he;simp only [BJ,AS,Aw]at MK;obtain⟨s,_,MK⟩:=MK;unfold WR at MK;split at MK
  ·rename_i k0 k h1 h2;exact zxR h AS h1 h2 he hc
  ·rename_i h1 h2;exact zxl h AS h1 h2 he hc
  ·rename_i el h1 h2;exact zwd h AS h1 h2 he hc
  ·cases MK
 |makeFunc fr fst caps=>
  cases fr with
  |func f=>exact zwn h AS he
  |_=>simp [BJ,AS]at he
 |indexAddr t x i=>refine zuh h AS (fun hu=> ?_) he hc;simp only [BJ,AS,Aw]at he;obtain⟨_,_,_,_,he⟩:=he;simp [Ys,hu]at he
 |index t x i=>
  refine zxQ h AS ?_ he hc;simp only [BJ,AS,Aw]at he;obtain⟨_,_,_,_,he⟩:=he;split at he
  ·rename_i AZ;unfold Ys at AZ;split at AZ
   ·assumption
   ·cases AZ
  ·cases he
 |call cl=>
  simp only [BJ,AS]at he;cases AG:cl.callee with
  |invoke r m=>rw [AG]at he;simp at he
  |value f=>
   rw [AG]at he;simp only [Aw]at he;obtain⟨s,hs,as_,has,he⟩:=he;cases s with
   |fn g caps=>
    have he:W7 P sg hp0 gs nv nx g (as_++caps.toList)=some e:=he;refine zDj h AS AG hs has ?_ he Bh;unfold W7 at he;split at he
    ·rename_i fn sg' Hu hh;exact J6 g sg' hh
    ·cases he
   |e y=>exact zq9 h AS AG hs (fun v hv=>by cases hv with|e k1 _ _=>exact⟨_,k1⟩) has he Bh
   |lent i=>exact zq9 h AS AG hs (fun v hv=>by
     cases hv with
     |lent g1 _=>obtain⟨f,p1,p2⟩:=h.rel.base.lo _ _ g1;exact⟨f,p1.frame fun b hb=>h.rel.base.block b (p1.inb b hb) (p2 b hb)⟩) has he Bh
   |_=>simp at he
  |builtin b=>
   rw [AG]at he;cases b with
   |len=>
    simp only at he;split at he
    ·rename_i x tx DA EO;exact zEX h AS AG DA EO LA hc
    ·cases he
   |append=>
    simp only at he;split at he
    ·rename_i x y tx ty DA EO;simp only [Aw]at he;obtain⟨s1,BN,s2,A6,he⟩:=he;split at he
     ·exact ztD h AS AG DA EO BN A6 he hc
     ·exact zwZ h AS AG DA EO BN A6 he hc
    ·cases he
   |clear=>
    simp only at he;split at he
    ·rename_i x tx DA EO;simp only [Aw]at he;obtain⟨s,hs,he⟩:=he;exact zAZ h AS AG DA EO hs he hc
    ·cases he
   |max=>
    simp only at he;split at he
    ·rename_i x y DA;simp only [Aw]at he;obtain⟨s1,BN,s2,A6,he⟩:=he;exact zss h AS (.inl ⟨rfl,AG⟩) DA BN A6 he hc
    ·cases he
   |min=>
    simp only at he;split at he
    ·rename_i x y DA;simp only [Aw]at he;obtain⟨s1,BN,s2,A6,he⟩:=he;exact zss h AS (.inr ⟨rfl,AG⟩) DA BN A6 he hc
    ·cases he
   |_=>simp at he
 |_=>simp [BJ,AS]at he
end
section
variable {P:Program} {c:Cx} {n nx:Nat} {sl sl0:Nat→SV} {hp hp0:Nat→Option Aj} {a:Act} {o:Oper} {gs:Gd} {e:A7} {sg:BW} {nv:Nat}
theorem Rel.ki (h:Rel c n sl hp a) {sl':Nat→SV} (hs: ∀i,sl' i=sl i∨SR c [sl' i] [a.tmps.getD i undef]):Rel c n sl' hp a:=
 ⟨h.defers,h.size,h.base,fun i=>by
  rcases hs i with hh|hh
  ·rw [hh];exact h.de i
  ·exact hh,h.ents,h.off,h.gw,h.ch,h.c6⟩
theorem Wh {u:Nat}: ∀{l:List Operand} {t T v m:Nat} {p:E × Nat × Nat} {s:SV},Mt sl0 u l=some (t,T,v,m,p,s)→Operand.tmp t∈l∧((∃y,sl0 t= .via T v m (some p) y∧s= .own u 0)∨ ∃y k z q,sl0 t= .vptr T v m (some p) y k z q∧s= .c7 u 0 k z q)
 | [],_,_,_,_,_,_,h=>by simp [Mt]at h
 |x::l,t,T,v,m,p,s,h=>by
  cases x with
  |tmp i=>
   simp only [Mt]at h;split at h
   ·rename_i hs;simp only [Ah,Prod.mk.injEq]at h;obtain⟨rfl,rfl,rfl,rfl,rfl,rfl⟩:=h;exact⟨by simp, .inl ⟨_,hs,rfl⟩⟩
   ·rename_i hs;simp only [Ah,Prod.mk.injEq]at h;obtain⟨rfl,rfl,rfl,rfl,rfl,rfl⟩:=h;exact⟨by simp, .inr ⟨_,_,_,_,hs,rfl⟩⟩
   ·obtain⟨h1,h2⟩:=Wh h;exact⟨by simp [h1],h2⟩
  |const v9=>simp only [Mt]at h;obtain⟨h1,h2⟩:=Wh h;exact⟨by simp [h1],h2⟩
  |func f=>simp only [Mt]at h;obtain⟨h1,h2⟩:=Wh h;exact⟨by simp [h1],h2⟩
  |global g=>simp only [Mt]at h;obtain⟨h1,h2⟩:=Wh h;exact⟨by simp [h1],h2⟩
theorem Rel.split (h:Rel c n sl hp a) {T v m u:Nat} {p:E × Nat × Nat} {hl inn:Aj} (hs:WW hp0 T v m u p=some (hl,inn)) (BU: ∀t e,hp0 t=some e→hp t=some e) (hu: ¬c.U u) {vv:Value} (J1:c.E T=m→I7 c T v (some p) vv):
  ∃recs c1,c1=c.dz c.w recs∧Rel c1 n sl (Bb hp [(T,hl),(u,inn)]) a∧DU c c1∧c1.K u 0∧c1.H u 0=vv∧(∃q n r,vv= .slice q n r∧(q=none∨n=0∨ ∃g,q=some ⟨g,0,none⟩))∧(∀t,c1.U t→c.U t∨t=u)∧c.K T v∧c.E T=m∧c1.E T=m+1∧T≠u:=by
 have eh:EH c hp0:=fun t e hr=>h.ents t e (Ms BU hr);obtain⟨pi,z,po⟩:=p;unfold WW at hs;split at hs
 ·rename_i e z0 l g ep c0 hlk;split at hs
  ·rename_i AK;obtain⟨rfl,rfl,uW⟩:=AK;simp only at uW;subst uW;split at hs
   ·rename_i e2 z2 l2 Ch;simp only [Ah,Prod.mk.injEq]at hs;obtain⟨rfl,rfl⟩:=hs;simp only at Ch;obtain⟨q1,q2,q3,q4,q5⟩:=eh T _ (C5 hlk (Ff _));obtain⟨b,n9,cap,C,ty,fz,kk,k,p1,p2,p3,p4,p5,p6,p7⟩:=J1 q3;obtain⟨d1,d2,⟨a9,d3,_⟩|⟨g9,cap9,C9,ys,N,d3,d4,d5,d6,d7,d8,d9,d10,d11,d12⟩⟩:=q4.inv
    ·rw [p1]at d3;cases d3;omega
    ·rw [p1]at d3;cases d3;rw [d6]at p3;cases p3;rw [AY.bc]at d2 d12;have hoz:po<z:=by
      rcases Nat.lt_or_ge po l.length with hh|hh
      ·omega
      ·rw [List.getElem?_eq_none hh]at Ch;cases Ch
     have G0:k.toNat<ys.length:=by omega
     have hmul:(k.toNat+1)*z≤ys.length*z:=Nat.mul_le_mul_right _ (by omega);have Gz:ys.length*z≤cap*z:=Nat.mul_le_mul_right _ d7;rw [Nat.add_mul]at hmul;have Eb:C.toList.length=cap*z:=by simpa using d9
     have Am:k.toNat*z+po<C.size:=by omega
     obtain⟨N1,N2,N3,rfl,s1,s2,s3⟩:=d12.split (k.toNat*z+po) 1;have CB:((C.toList.take (ys.length*z)).drop (k.toNat*z+po)).take 1= [vv]:=by have hv:C[k.toNat*z+po]?=some vv:=p7;rw [List.drop_take,List.take_take,Nat.min_eq_left (by omega),List.drop_eq_getElem_cons (by simpa using Am),List.take_succ_cons,List.take_zero];rw [Array.getElem?_eq_getElem Am]at hv;simpa using hv
     have HH:=Oe G0;generalize Pm:(AV.sl ys).nth k.toNat=yk at HH;have F2:=d10 yk (List.mem_of_getElem? HH);have EC:((AO ys).drop (k.toNat*z+po)).take 1= [(E.fld (.idx c0 pi) po 1 false).den c.ρ]:=by rw [Ww ys d10 _ _ HH po 1 (by omega),List.drop_eq_getElem_cons (by omega),List.take_succ_cons,List.take_zero];simp only [E.den,d4,p4,AV.idx,Pm,AV.fld];simp [show po<yk.cells.length by omega]
     have Bt:((Dn ys.length l).drop (k.toNat*z+po)).take 1= [.row e2 z2 l2]:=by
      rw [←d2,Wn l _ _ _ _ G0 (by omega)];have Hy:po<l.length:=by omega
      rw [List.drop_eq_getElem_cons Hy,List.take_succ_cons,List.take_zero];rw [List.getElem?_eq_getElem Hy]at Ch;simpa using Ch
     rw [CB,EC,Bt]at s2;have GV:=h.ch _ _ q1;have JH:T≠u:=fun hh=>hu (hh▸GV);have Cl:=h.gw.nodup T;simp only [GI.own,q5,List.append_nil,d5]at Cl;have AR: ∀r∈([⟨T,none,b::(N1++N3), .hol e z l g (ep+1) c0 pi po u⟩,⟨u,some vv,N2,if l2.toList.all DT.cf then .row e2 z2 0 (.fld (.idx c0 pi) po 1 false) true else .deep e2 z2 l2.toList 0 0 (.fld (.idx c0 pi) po 1 false)⟩]:List AW),r.new.isSome=true→ ¬c.U r.tag:=fun r hr hs=>by
      simp only [Ag,List.not_mem_nil,or_false]at hr;rcases hr with rfl|rfl
      ·cases hs
      ·exact hu
     refine⟨[⟨T,none,b::(N1++N3), .hol e z l g (ep+1) c0 pi po u⟩,⟨u,some vv,N2,if l2.toList.all DT.cf then .row e2 z2 0 (.fld (.idx c0 pi) po 1 false) true else .deep e2 z2 l2.toList 0 0 (.fld (.idx c0 pi) po 1 false)⟩],_,rfl, ?_⟩;generalize Br:([⟨T,none,b::(N1++N3), .hol e z l g (ep+1) c0 pi po u⟩,⟨u,some vv,N2,if l2.toList.all DT.cf then .row e2 z2 0 (.fld (.idx c0 pi) po 1 false) true else .deep e2 z2 l2.toList 0 0 (.fld (.idx c0 pi) po 1 false)⟩]:List AW)=recs at AR;have hn:(recs.map AW.tag).Nodup:=by rw [←Br];simp [JH]
     have aft:=Cx.ed (w':=c.w) h.ch hn AR;have Es:(⟨T,none,b::(N1++N3), .hol e z l g (ep+1) c0 pi po u⟩:AW)∈recs:=by rw [←Br];simp
     have DZ:(⟨u,some vv,N2,if l2.toList.all DT.cf then .row e2 z2 0 (.fld (.idx c0 pi) po 1 false) true else .deep e2 z2 l2.toList 0 0 (.fld (.idx c0 pi) po 1 false)⟩:AW)∈recs:=by rw [←Br];simp
     obtain⟨k1,k2,k3⟩:=aft.new _ DZ vv rfl;have kgT:=aft.G _ Es;have keT:=aft.jn _ Es rfl;have kgu:=aft.G _ DZ;have keu:=aft.ll _ DZ rfl;obtain⟨kT1,kT2⟩:=aft.K T g q1;simp only at k1 k2 k3 kgT keT kgu keu;have MZ: ∀q,q∈b::(N1++N3)∨q∈N2→q∈(c.G T).top:=fun q hq=>by rw [d5];simp only [Ag,Ai]at hq ⊢;rcases hq with(hq|hq|hq)|hq<;>simp [hq]
     obtain⟨As,BY⟩:=h.changes (recs:=recs) (gs:= []) (hs:=(c.G T).top) (Ff _) (Mod.refl _ c.w) hn AR (fun q hq=>⟨_,Es,hq⟩) (by
       rw [←Br];simp only [List.flatMap_cons,List.flatMap_nil,List.append_nil];rw [List.nodup_cons]at Cl;obtain⟨n1,n2⟩:=Cl;rw [List.append_assoc,List.nodup_append,List.nodup_append]at n2;obtain⟨a1,⟨a2,a3,a4⟩,a5⟩:=n2;rw [List.cons_append,List.nodup_cons,List.nodup_append,List.nodup_append];refine⟨fun hh=>n1 ?_,⟨a1,a3,fun x hx y hy=>a5 x hx y (Ai.2 (.inr hy))⟩,a2,fun x hx y hy HG=> ?_⟩
       ·simp only [Ai]at hh ⊢;rcases hh with(hh|hh)|hh<;>simp [hh]
       ·rcases Ai.1 hx with hx|hx
        ·exact a5 x hx y (Ai.2 (.inl hy)) HG
        ·exact a4 y hy x hx HG.symm)
      (fun r hr q hq=>by
       have:q∈(c.G T).top:=by
        rw [←Br]at hr;simp only [Ag,List.not_mem_nil,or_false]at hr;rcases hr with rfl|rfl
        ·exact MZ q (.inl hq)
        ·exact MZ q (.inr hq)
       exact⟨.inl this,h.gw.inb T q (by simp [GI.own,this])⟩)
      (fun r hr=>by
       rw [←Br]at hr;simp only [Ag,List.not_mem_nil,or_false]at hr;rcases hr with rfl|rfl
       ·intros;simp
       ·intros;simp only;split<;>simp)
      (fun hk r hr=>by
       rw [←Br]at hr;simp only [Ag,List.not_mem_nil,or_false]at hr;rcases hr with rfl|rfl
       ·refine⟨kT1,fun g' Ck=>q2 g' (aft.old T GV g' Ck),by rw [keT,q3], ?_,by rw [kgT]⟩;rw [kT2,p1,kgT];exact⟨b,cap,C,ys,kk,k,N1,N3,rfl,d4,p4,p5,p6,hoz,d1,d2,d6,d7,d8,d9,d10,d11,rfl,k1,by rw [k3];exact p7,s1,s3⟩
       ·simp only;split
        ·rename_i hf;have BE:=s2.n8 hf;refine⟨k1,k2, [], ?_,by simp,fun _=>⟨rfl,by rw [kgu]⟩,fun _=>by rw [kgu]⟩;rw [k3,kgu];exact BE
        ·refine⟨k1,k2,keu, ?_,by rw [kgu]⟩;rw [k3,kgu,AY.c8];exact s2)
     refine⟨?_,BY,k1,k3, ?_,fun t ht=> ?_,q1,q3,by rw [keT,q3],JH⟩
     ·have:(recs.map fun r=>(r.tag,CU [] r.bt))= [(T, .hol e z l g (ep+1) c0 pi po u),(u,if l2.toList.all DT.cf then .row e2 z2 0 (.fld (.idx c0 pi) po 1 false) true else .deep e2 z2 l2.toList 0 0 (.fld (.idx c0 pi) po 1 false))]:=by
       rw [←Br];simp [CU]
      rw [this]at As;exact As
     ·obtain⟨_,_,⟨a9,h1,_⟩|⟨g9,cap9,C9,ys9,N9,h1,_⟩⟩:=s2.inv
      ·exact⟨a9,0,0,h1, .inr (.inl rfl)⟩
      ·exact⟨_,_,_,h1, .inr (.inr ⟨g9,rfl⟩)⟩
     ·rcases ht with ht|⟨r,hr,rfl⟩
      ·exact .inl ht
      ·rw [←Br]at hr;simp only [Ag,List.not_mem_nil,or_false]at hr;rcases hr with rfl|rfl
       ·exact .inl GV
       ·exact .inr rfl
   ·cases hs
  ·cases hs
 ·cases hs
theorem Rel.close (h:Rel c n sl hp a) {T u:Nat} {hl r d:Aj} (hT:hp T=some hl) (hu:hp u=some r) (hr:WS P hl r=some d) (LQ: ∃q1 q2 q3 q4 q5 q6 q7 q8,hl= .hol q1 q2 q3 q4 q5 q6 q7 q8 u) (JH:T≠u):
  ∃recs c1,c1=c.dz c.w recs∧Rel c1 n sl (Bb hp [(T,d),(u, .dead)]) a∧(∀t,c1.U t→c.U t)∧c.E T<c1.E T:=by
 obtain⟨e,z,l,g,ep,c0,i,o',rfl⟩:=LQ;have key: ∀(e2 z2:Nat) (l2:AY) (x:E),l[o']?=some (.row e2 z2 l2)→DC c.w [.row e2 z2 l2] [c.H u 0] [x.den c.ρ] (c.G u).top→c.U u→d= .deep e z l g (ep+1) (.set c0 i (.put (.idx c0 i) o' x (Aq P e)))→(Aq P e=false→z=1)→
   ∃recs c1,c1=c.dz c.w recs∧Rel c1 n sl (Bb hp [(T,d),(u, .dead)]) a∧(∀t,c1.U t→c.U t)∧c.E T<c1.E T:=by
  rintro e2 z2 l2 x Ch uM XA rfl Ix;obtain⟨q1,q2,q3,⟨b,cap,C,ys,kk,k,N1,N2,p1,p2,p3,p4,p5,p6,p7,p7',p8,p9,p10,p11,p12,p13,p14,p15,p16,p17,p18⟩,q5⟩:=h.ents T _ (by rw [hT];rfl);have GV:=h.ch _ _ q1;have G0:k.toNat<ys.length:=by omega
  have hmul:(k.toNat+1)*z≤ys.length*z:=Nat.mul_le_mul_right _ (by omega);have Gz:ys.length*z≤cap*z:=Nat.mul_le_mul_right _ p9;rw [Nat.add_mul]at hmul;have Eb:C.toList.length=cap*z:=by simpa using p11
  have Am:k.toNat*z+o'<C.size:=by omega
  have HH:=Oe G0;generalize Pm:(AV.sl ys).nth k.toNat=yk at HH;have F2:=p12 yk (List.mem_of_getElem? HH);obtain⟨zs,D4⟩: ∃zs,x.den c.ρ= .sl zs:=by
   obtain⟨_,_,⟨_,_,hx,_⟩|⟨_,_,_,_,_,_,hx,_⟩⟩:=uM.inv
   ·exact⟨_,hx⟩
   ·exact⟨_,hx⟩
  have IG:(x.den c.ρ).cells= [x.den c.ρ]:=by rw [D4];rfl
  have hz:(yk.di o' (x.den c.ρ) (Aq P e)).cells=setVs yk.cells o' (x.den c.ρ).cells:=by
   refine qH ?_ (fun hg=> ?_)
   ·cases hg:Aq P e with
    |true=>exact .inr rfl
    |false=>left;rw [D4];intro cs hh;cases hh
   ·have:=Ix hg;exact⟨by omega,by omega,IG⟩
  have ES:AO (ys.set k.toNat (yk.di o' (x.den c.ρ) (Aq P e)))=setVs (AO ys) (k.toNat*z+o') (x.den c.ρ).cells:=
   cE ys _ _ yk o' _ p12 HH (by rw [IG];simp;omega) hz
  have Hr:((Dn ys.length l).drop (k.toNat*z+o')).take 1= [.row e2 z2 l2]:=by
   rw [←p7',Wn l _ _ _ _ G0 (by omega)];have Hy:o'<l.length:=by omega
   rw [List.drop_eq_getElem_cons Hy,List.take_succ_cons,List.take_zero];rw [List.getElem?_eq_getElem Hy]at Ch;simpa using Ch
  have UI:setVs (C.toList.take (ys.length*z)) (k.toNat*z+o') [c.H u 0]=C.toList.take (ys.length*z):=by
   apply List.ext_getElem?;intro j;have hl3:(C.toList.take (ys.length*z)).length=ys.length*z:=by rw [List.length_take,Eb];exact Nat.min_eq_left Gz
   rw [S6 _ _ _ (by rw [hl3];show k.toNat*z+o'+1≤_;omega)];split
   ·rename_i hj;simp only [Ao,List.length_nil]at hj;have:j=k.toNat*z+o':=by omega
    subst this;rw [Nat.sub_self,List.getElem?_take,if_pos (by omega)];have:=p16;simpa using this.symm
   ·rfl
  have A1:DC c.w [.row e z (AY.of l)] [c.H T g] [(E.set c0 i (.put (.idx c0 i) o' x (Aq P e))).den c.ρ] (b::(N1++((c.G u).top++N2))):=by
   have Cb:(E.set c0 i (.put (.idx c0 i) o' x (Aq P e))).den c.ρ= .sl (ys.set k.toNat (yk.di o' (x.den c.ρ) (Aq P e))):=by simp only [E.den,p2,p3,AV.idx,Pm,AV.da]
   rw [Cb,p1];have DI:(ys.set k.toNat (yk.di o' (x.den c.ρ) (Aq P e))).length=ys.length:=List.length_set;have:=DC.row (w:=c.w) (e:=e) (z:=z) (l:=AY.of l) (g:=b) (cap:=cap) (C:=C) (ys:=ys.set k.toNat (yk.di o' (x.den c.ρ) (Aq P e))) (N1:=N1++((c.G u).top++N2)) (ts:= []) (vs:= []) (xs:= []) (N:= []) p7 (by rw [AY.bc];exact p7') p8 (by rw [DI];exact p9) p10 p11 (fun w hw=>by
     rcases List.mem_or_eq_of_mem_set hw with hw|rfl
     ·exact p12 w hw
     ·rw [hz,SZ _ _ _ (by rw [IG,F2];simp;omega)];exact F2) (by rw [DI];exact p13) (by
     rw [DI,AY.bc,ES,←UI];refine DC.setVs p17 ?_ ?_
     ·exact p18
     ·rw [AH,Hr,IG];exact uM) .nil
   rw [DI]at this;simpa using this
  have hTK:=q1;have AR: ∀r∈([⟨T,none,b::(N1++((c.G u).top++N2)), .deep e z l g (ep+1) (.set c0 i (.put (.idx c0 i) o' x (Aq P e)))⟩,⟨u,none, [], .dead⟩]:List AW),r.new.isSome=true→ ¬c.U r.tag:=fun r hr hs=>by simp only [Ag,List.not_mem_nil,or_false]at hr;rcases hr with rfl|rfl<;>cases hs
  refine⟨[⟨T,none,b::(N1++((c.G u).top++N2)), .deep e z l g (ep+1) (.set c0 i (.put (.idx c0 i) o' x (Aq P e)))⟩,⟨u,none, [], .dead⟩],_,rfl, ?_⟩;generalize Br:([⟨T,none,b::(N1++((c.G u).top++N2)), .deep e z l g (ep+1) (.set c0 i (.put (.idx c0 i) o' x (Aq P e)))⟩,⟨u,none, [], .dead⟩]:List AW)=recs at AR;have hn:(recs.map AW.tag).Nodup:=by rw [←Br];simp [JH]
  have aft:=Cx.ed (w':=c.w) h.ch hn AR;have Es:(⟨T,none,b::(N1++((c.G u).top++N2)), .deep e z l g (ep+1) (.set c0 i (.put (.idx c0 i) o' x (Aq P e)))⟩:AW)∈recs:=by rw [←Br];simp
  have DZ:(⟨u,none, [], .dead⟩:AW)∈recs:=by rw [←Br];simp
  have kgT:=aft.G _ Es;have keT:=aft.jn _ Es rfl;have kgu:=aft.G _ DZ;obtain⟨kT1,kT2⟩:=aft.K T g q1;simp only at kgT keT kgu;have Cg: ∀q,q∈b::(N1++((c.G u).top++N2))→q∈(c.G T).top∨q∈(c.G u).top:=fun q hq=>by rw [p14];simp only [Ag,Ai]at hq ⊢;rcases hq with hq|hq|hq|hq<;>simp [hq]
  have O0:=h.gw.nodup T;simp only [GI.own,q5,List.append_nil,p14]at O0;have gN:(c.G u).top.Nodup:=by have:=h.gw.nodup u;simp only [GI.own]at this;exact(List.nodup_append.1 this).1
  have Gu: ∀q∈(c.G u).top,q∉b::(N1++N2):=fun q hq hh=>h.gw.cz u T (Ne.symm JH) q (by simp [GI.own,hq]) (by rw [←p14]at hh;simp [GI.own,hh]);obtain⟨As,BY⟩:=h.changes (recs:=recs) (gs:= []) (hs:=(c.G T).top++(c.G u).top) (Ff _) (Mod.refl _ c.w) hn AR (fun q hq=>by
    rcases Ai.1 hq with hq|hq
    ·exact⟨_,Es,hq⟩
    ·exact⟨_,DZ,hq⟩) (by
    rw [←Br];simp only [List.flatMap_cons,List.flatMap_nil,List.append_nil];rw [List.nodup_cons,List.nodup_append]at O0;obtain⟨n1,a1,a2,a3⟩:=O0;rw [List.nodup_cons,List.nodup_append,List.nodup_append];refine⟨fun hh=> ?_,a1,⟨gN,a2,fun x hx y hy HG=>Gu x hx (by rw [HG];simp [hy])⟩,fun x hx y hy HG=> ?_⟩
    ·simp only [Ai]at hh n1;rcases hh with hh|hh|hh
     ·exact n1 (.inl hh)
     ·exact Gu b hh (by simp)
     ·exact n1 (.inr hh)
    ·rcases Ai.1 hy with hy|hy
     ·exact Gu y hy (by rw [←HG];simp [hx])
     ·exact a3 x hx y hy HG)
   (fun r hr q hq=>by
    have:q∈(c.G T).top∨q∈(c.G u).top:=by
     rw [←Br]at hr;simp only [Ag,List.not_mem_nil,or_false]at hr;rcases hr with rfl|rfl
     ·exact Cg q hq
     ·simp at hq
    refine⟨.inl (Ai.2 this), ?_⟩;rcases this with hh|hh
    ·exact h.gw.inb T q (by simp [GI.own,hh])
    ·exact h.gw.inb u q (by simp [GI.own,hh]))
   (fun r hr=>by rw [←Br]at hr;simp only [Ag,List.not_mem_nil,or_false]at hr;rcases hr with rfl|rfl<;>(intros;simp))
   (fun hk r hr=>by
    rw [←Br]at hr;simp only [Ag,List.not_mem_nil,or_false]at hr;rcases hr with rfl|rfl
    ·exact⟨kT1,fun g' Ck=>q2 g' (aft.old T GV g' Ck),by rw [keT,q3],by rw [kT2,kgT];exact A1,by rw [kgT]⟩
    ·exact⟨by rw [kgu],by rw [kgu]⟩)
  refine⟨?_,fun t ht=> ?_,by rw [keT];omega⟩
  ·have:(recs.map fun r=>(r.tag,CU [] r.bt))= [(T, .deep e z l g (ep+1) (.set c0 i (.put (.idx c0 i) o' x (Aq P e)))),(u, .dead)]:=by
    rw [←Br];simp [CU]
   rw [this]at As;exact As
  ·rcases ht with ht|⟨r,hr,rfl⟩
   ·exact ht
   ·rw [←Br]at hr;simp only [Ag,List.not_mem_nil,or_false]at hr;rcases hr with rfl|rfl
    ·exact GV
    ·exact XA
 have XA:c.U u:=h.c6 u r hu;unfold WS at hr;simp only at hr;split at hr
 ·rename_i e2 z2 l2 e3 z3 x Ch;split at hr
  ·rename_i hh;obtain⟨hf,rfl,rfl,hlen,AE⟩:=hh;simp only [Ah]at hr;obtain⟨q1,q2,N,q4,q5,q6,q7⟩:=h.ents u _ (by rw [hu];rfl);obtain⟨hN,_⟩:=q6 rfl;have hN:N= []:=hN;subst hN;exact key _ _ _ _ Ch (DC.mg q4 hf hlen) XA hr.symm (by rcases AE with hh|hh;(rw [hh];simp);exact fun _=>hh)
  ·cases hr
 ·rename_i e2 z2 l2 e3 z3 l3 x Ch;split at hr
  ·rename_i hh;obtain⟨rfl,rfl,hb,AE⟩:=hh;simp only [Ah]at hr;have hb:=AY.of_eq hb;subst hb;obtain⟨q1,q2,q3,q4,q5⟩:=h.ents u _ (by rw [hu];rfl);rw [AY.c8]at q4;exact key _ _ _ _ Ch q4 XA hr.symm (by rcases AE with hh|hh;(rw [hh];simp);exact fun _=>hh)
  ·cases hr
 ·cases hr
end
section
variable {P:Program} {c:Cx} {n nx:Nat} {sl sl0:Nat→SV} {hp hp0:Nat→Option Aj} {a:Act} {o:Oper} {gs:Gd} {e:A7} {sg:BW} {nv:Nat}
theorem S4 (hp:Nat→Option Aj): ∀(l:List (Nat × Aj)) (t:Nat),Bb hp l t=match Mo l t with|some f=>some f|none=>hp t
 | [],t=>rfl
 |(u,e)::l,t=>by
  have:=S4 (fun v=>if v=u then some e else hp v) l t;simp only [Bb,List.foldl_cons,Mo]at this ⊢;rw [this];cases Mo l t with
  |some f=>rfl
  |none=>
   simp only;by_cases h:u=t
   ·rw [if_pos h.symm,if_pos h]
   ·rw [if_neg (Ne.symm h),if_neg h]
theorem zw0 {hp:Nat→Option Aj} {T v m u:Nat} {p:E × Nat × Nat} {h r:Aj} (hs:WW hp T v m u p=some (h,r)): ∃e z l ep c0 i o',h= .hol e z l v (m+1) c0 i o' u∧Dz hp [] T=some (.deep e z l v ep c0)∧ep=m:=by
 unfold WW at hs;split at hs
 ·rename_i hl;split at hs
  ·rename_i hh;obtain⟨rfl,rfl,_⟩:=hh;split at hs
   ·simp only [Ah,Prod.mk.injEq]at hs;obtain⟨rfl,_⟩:=hs;exact⟨_,_,_,_,_,_,_,rfl,hl,rfl⟩
   ·cases hs
  ·cases hs
 ·cases hs
theorem zxz {h r d:Aj} {e z:Nat} {l:List DT} {g ep:Nat} {c0 i:E} {o' u:Nat} (hh:h= .hol e z l g ep c0 i o' u) (hc:WS P h r=some d): ∃x,d= .deep e z l g (ep+1) x:=by
 subst hh;unfold WS at hc;simp only at hc;split at hc
 ·split at hc
  ·simp only [Ah]at hc;exact⟨_,hc.symm⟩
  ·cases hc
 ·split at hc
  ·simp only [Ah]at hc;exact⟨_,hc.symm⟩
  ·cases hc
 ·cases hc
theorem zIl (J6: ∀f s,sg f=some s→f<1000000) (h:Bx P c n nx sl hp a sl0 hp0 o []) (hu: ¬c.U (nx+999)) (he:W9 P sg sl0 hp0 nv nx o=some e)
  (hc: ∀q∈e.ca,q.den c.ρ) (Bh: ∀cl,e.call=some cl→ ∃r,c.ρ[nv]?=some r∧I0 (Ct P sg) cl.fn ((EL.of cl.args).den c.ρ) c.ρ r):AB P o c n nx sl hp [] a e:=by
 unfold W9 at he;simp only at he;split at he
 ·cases he
 rename_i t T v m p s MM;split at he
 ·cases he
 rename_i hl inn Ji;split at he
 ·cases he
 rename_i e0 LA;split at he
 ·cases he
 rename_i CP;have CP:e0.cm=none:=by cases hh:e0.cm with|none=>rfl|some x=>rw [hh]at CP;simp at CP
 obtain⟨Fs,Bo⟩:=Wh MM;have Fs:Operand.tmp t∈o.op.operands:=by simpa using Fs
 obtain⟨fe,fz,fl,fep,fc0,fi,fo,rfl,H5,rfl⟩:=zw0 Ji;have hE:c.E T=fep:=(h.eh T _ (C5 H5 (Ff _))).2.2.1;have E0:=h.rel.de t;rw [←h.sl t Fs]at E0;obtain⟨vv,J1,A6⟩: ∃vv,I7 c T v (some p) vv∧ ∀c1:Cx,c1.ρ=c.ρ→c1.K (nx+999) 0→c1.H (nx+999) 0=vv→(∃q n r,vv= .slice q n r∧(q=none∨n=0∨ ∃g,q=some ⟨g,0,none⟩))→SR c1 [s] [a.tmps.getD t undef]:=by
  rcases Bo with⟨y,CQ,rfl⟩|⟨y,k,z,q,CQ,rfl⟩
  ·rw [CQ]at E0;generalize a.tmps.getD t undef=av at E0 ⊢;cases E0 with
   |via h1 h2 h3 _=>obtain⟨_,hp⟩:=h3 hE;refine⟨_,hp,fun c1 e1 k1 k2 k3=> ?_⟩;obtain⟨q,n,r,rfl,_⟩:=k3;exact .own k1 k2 .nil
  ·rw [CQ]at E0;generalize a.tmps.getD t undef=av at E0 ⊢;cases E0 with
   |vptr h1 h2 h3 _=>
    obtain⟨b,off,len,cap,kk,kv,g1,g2,g3,g4,g5,g6,rfl⟩:=h3 hE;refine⟨_,g2,fun c1 e1 k1 k2 k3=> ?_⟩;obtain⟨q9,n9,r9,hv,hq⟩:=k3;cases hv;have GG:off=0:=by
     rcases hq with hq|hq|⟨g,hq⟩
     ·cases hq
     ·omega
     ·cases hq;rfl
    subst GG;have:=SR.c7 (c:=c1) (i:=k) (sz:=z) (o:=q) k1 k2 (by rw [e1];exact g3) g4 g5 .nil;simpa using this
 obtain⟨recs,c1,rfl,Dr,OS,dV,Lq,hvv,eI,hKT,_,tT,JH⟩:=h.rel.split Ji h.hp hu (fun _=>J1);have IF:=A6 _ OS.ρ dV Lq hvv;have FG:=Dr.ki (sl':=fun i=>if i=t then s else sl i) (fun i=>by
  by_cases hi:i=t
  ·subst hi;right;simpa using IF
  ·left;simp [hi])
 have D0: ∀x,Bb hp [(T, .hol fe fz fl v (fep+1) fc0 fi fo (nx+999)),(nx+999,inn)] x=if x=nx+999 then some inn else if x=T then some (.hol fe fz fl v (fep+1) fc0 fi fo (nx+999))else hp x:=fun x=>rfl;have pre1:Bx P (c.dz c.w recs) n nx (fun i=>if i=t then s else sl i) (Bb hp [(T, .hol fe fz fl v (fep+1) fc0 fi fo (nx+999)),(nx+999,inn)]) a (fun i=>if i=t then s else sl0 i) (fun w=>if w=T then some (.hol fe fz fl v (fep+1) fc0 fi fo (nx+999))else if w=nx+999 then some inn else hp0 w) o []:=by
  refine⟨FG,Ff _,fun i hi=> ?_,fun x f hf=> ?_,fun x h1 h2 hx=> ?_⟩
  ·by_cases hit:i=t
   ·simp [hit]
   ·simp only [if_neg hit];exact h.sl i hi
  ·rw [D0];by_cases h1:x=T
   ·rw [if_pos h1]at hf;rw [if_neg (by rw [h1];exact JH),if_pos h1];exact hf
   ·rw [if_neg h1]at hf;by_cases h2:x=nx+999
    ·rw [if_pos h2]at hf ⊢;exact hf
    ·rw [if_neg h2]at hf;rw [if_neg h2,if_neg h1];exact h.hp x f hf
  ·rcases eI x hx with hx|hx
   ·exact h.new x h1 h2 hx
   ·omega
 have hdst: ∀(c':Cx) (a':Act) (w9:SV),Rel c' n (CL n (fun i=>if i=t then s else sl i) o.dst w9) (fun _=>none) a'→True:=fun _ _ _ _=>trivial;have stale: ∀(c':Cx) (v':Value),c'.K T v→fep<c'.E T→SR c' [sl t] [v']:=by
  intro c' v' hk Am;rw [←h.sl t Fs];rcases Bo with⟨y,CQ,_⟩|⟨y,k,z,q,CQ,_⟩
  ·rw [CQ];exact .via hk (by omega) (fun hh=>by omega) .nil
  ·rw [CQ];exact .vptr hk (by omega) (fun hh=>by omega) .nil
 have back: ∀{c':Cx} {hp':Nat→Option Aj} {a':Act} {w9:SV},Rel c' n (CL n (fun i=>if i=t then s else sl i) o.dst w9) hp' a'→c'.K T v→fep<c'.E T→Rel c' n (CL n sl o.dst w9) hp' a':=by
  intro c' hp' a' w9 hr hk Am;refine hr.ki fun i=> ?_;unfold CL;by_cases h1:o.dst=some i∧i<n
  ·left;rw [if_pos h1,if_pos h1]
  ·rw [if_neg h1,if_neg h1];by_cases h2:i=t
   ·subst h2;right;exact stale _ _ hk Am
   ·left;show sl i=if i=t then s else sl i;rw [if_neg h2]
 split at he
 ·
  split at he
  ·rename_i Cr;simp only [Ah]at he;subst he;have JP:=jP J6 pre1 LA hc Bh (fun x hx=>by rw [CP]at hx;cases hx);intro next Q hk
   refine JP next Q fun a' c' Ba hr=> ?_
   have eG:Bb (Bb hp [(T, .hol fe fz fl v (fep+1) fc0 fi fo (nx+999)),(nx+999,inn)]) e0.bt T=some (.hol fe fz fl v (fep+1) fc0 fi fo (nx+999)):=by rw [S4,Cr,D0,if_neg JH,if_pos rfl]
   obtain⟨g1,_,g3,_⟩:=hr.ents T _ (by rw [eG];rfl);refine hk a' c' ⟨Ba.ρ,Ba.A,Ba.w0,Ba.Mu,fun x hx=> ?_⟩ (back hr g1 (by omega));rcases Ba.U x hx with hx|hx
   ·rcases eI x hx with hx|hx
    ·exact .inl hx
    ·exact .inr ⟨by omega,by simp only [BM];omega⟩
   ·exact .inr hx
  ·cases he
 ·split at he
  ·rename_i r' hlu hlT;obtain⟨d,hd,rfl⟩:=Av.1 he;have JP:=jP J6 pre1 LA hc Bh (fun x hx=>by rw [CP]at hx;cases hx);intro next Q hk
   refine JP next Q fun a' c' Ba hr=> ?_
   have eG:Bb (Bb hp [(T, .hol fe fz fl v (fep+1) fc0 fi fo (nx+999)),(nx+999,inn)]) e0.bt T=some (.hol fe fz fl v (fep+1) fc0 fi fo (nx+999)):=by rw [S4,hlT,D0,if_neg JH,if_pos rfl]
   have hue:Bb (Bb hp [(T, .hol fe fz fl v (fep+1) fc0 fi fo (nx+999)),(nx+999,inn)]) e0.bt (nx+999)=some r':=by rw [S4,hlu]
   obtain⟨recs2,c2,rfl,Db,hU2,hE2⟩:=hr.close eG hue hd ⟨_,_,_,_,_,_,_,_,rfl⟩ JH;obtain⟨x9,rfl⟩:=zxz rfl hd;have eH:Bb (Bb (Bb hp [(T, .hol fe fz fl v (fep+1) fc0 fi fo (nx+999)),(nx+999,inn)]) e0.bt) [(T, .deep fe fz fl v (fep+1+1) x9),(nx+999, .dead)] T=some (.deep fe fz fl v (fep+1+1) x9):=by show(if T=nx+999 then _ else if T=T then _ else _)=_;rw [if_neg JH,if_pos rfl]
   obtain⟨g1,_,g3,_⟩:=Db.ents T _ (by rw [eH];rfl);have DY:=back Db g1 (by omega);have Bq:Bb hp ((T, .hol fe fz fl v (fep+1) fc0 fi fo (nx+999))::(nx+999,inn)::e0.bt++ [(T, .deep fe fz fl v (fep+1+1) x9),(nx+999, .dead)])=Bb (Bb (Bb hp [(T, .hol fe fz fl v (fep+1) fc0 fi fo (nx+999)),(nx+999,inn)]) e0.bt) [(T, .deep fe fz fl v (fep+1+1) x9),(nx+999, .dead)]:=by rw [←Qf,←Qf];rfl
   refine hk a' (c'.dz c'.w recs2) ⟨Ba.ρ,Ba.A,Ba.w0,Ba.Mu,fun x hx=> ?_⟩ ?_
   ·rcases Ba.U x (hU2 x hx)with hx|hx
    ·rcases eI x hx with hx|hx
     ·exact .inl hx
     ·exact .inr ⟨by omega,by simp only [BM];omega⟩
    ·exact .inr hx
   ·have:=DY;rw [←Bq]at this;exact this
  ·cases he
theorem zDx (h:Bx P c n nx sl hp a sl0 hp0 o gs) {e:A7} (dp:Bool) (hd:AB P o c n nx sl hp gs a e):AB P o c n nx sl hp gs a (Ky dp hp0 gs e):=by
 unfold Ky;split
 ·exact hd
 ·split
  ·rename_i l hl;intro next Q hk
   refine hd next Q fun a' c' hs hr=> ?_
   have e1:Bb hp0 e.bt=fun t=>match Mo e.bt t with|some f=>some f|none=>hp0 t:=funext (S4 hp0 e.bt)
   have hl:DR (Bb hp0 e.bt) [] (zz8 e.bt)=some l:=by rw [e1];exact hl
   have Je:=hr.freeze (hp0:=Bb hp0 e.bt) (fun t e' h'=>by
    rw [S4]at h' ⊢;split at h'
    ·exact h'
    ·exact h.hp t e' h') (Ff _) hl
   refine hk a' (c'.cc (l.map (·.1))) ⟨hs.ρ,hs.A,hs.w0,hs.Mu,hs.U⟩ ?_;show Rel _ _ _ (Bb hp (e.bt++l)) a';rw [Qf];exact Je
  ·exact hd
theorem zBj (dp:Bool) (e:A7):(Ky dp hp0 gs e).call=e.call:=by
 unfold Ky;split
 ·rfl
 ·split<;>rfl
theorem zD2 (dp:Bool) (e:A7):(Ky dp hp0 gs e).ca=e.ca:=by
 unfold Ky;split
 ·rfl
 ·split<;>rfl
theorem pY (dp:Bool) (e:A7):(Ky dp hp0 gs e).cm=e.cm:=by
 unfold Ky;split
 ·rfl
 ·split<;>rfl
theorem zCk {dp:Bool} {e:A7} {x:E} (h:e.cm=some x):Ky dp hp0 gs e=e:=by unfold Ky;rw [if_pos (by simp [h])]
theorem zFj (h:Bx P c n nx sl hp a sl0 hp0 o gs) {e:A7} (fz:Bool) (hd:AB P o c n nx sl hp gs a e):AB P o c n nx sl hp gs a (Kh fz hp0 gs e):=by
 unfold Kh;split
 ·exact hd
 ·rename_i T4;simp only [Bool.or_eq_true,not_or]at T4;have hen:e.bt= []:=by simpa using T4.2
  split
  ·rename_i t g m p x hv;split
   ·rename_i y l hy hl;split
    ·rename_i JY;intro next Q hk
     refine hd next Q fun a' c' hs hr=> ?_
     rw [hen]at hr;have fH:gs= []:=by simpa using T4.1.1.1.2
     subst fH;have hr:Rel c' n (CL n sl o.dst e.val) hp a':=hr;have eh:EH c' hp0:=fun t e CZ=>hr.ents t e (Ms h.hp CZ);have Je:=hr.freeze h.hp (Ff _) hl;refine hk a' (c'.cc (l.map (·.1))) ⟨hs.ρ,hs.A,hs.w0,hs.Mu,hs.U⟩ ?_;refine{Je with de:=fun i=> ?_};have h1:=hr.de i;have h2:=Je.de i;unfold CL at h1 h2 ⊢;split
     ·rename_i hi;rw [if_pos hi]at h1;obtain⟨f,q1,q2⟩:=Io eh (Ff _) A3 hy h1 A3 (Nat.le_refl _);exact .e q1 (fun b hb=>Wq hr eh (Ff _) hl JY (q2 b hb)) .nil
     ·rename_i hi;rw [if_neg hi]at h2;exact h2
    ·exact hd
   ·exact hd
  ·exact hd
theorem zDz (fz:Bool) (e:A7):(Kh fz hp0 gs e).call=e.call:=by
 unfold Kh;split
 ·rfl
 ·split
  ·split
   ·split<;>rfl
   ·rfl
  ·rfl
theorem zEw (fz:Bool) (e:A7):(Kh fz hp0 gs e).ca=e.ca:=by
 unfold Kh;split
 ·rfl
 ·split
  ·split
   ·split<;>rfl
   ·rfl
  ·rfl
theorem zxP (fz:Bool) (e:A7):(Kh fz hp0 gs e).cm=e.cm:=by
 unfold Kh;split
 ·rfl
 ·split
  ·split
   ·split<;>rfl
   ·rfl
  ·rfl
theorem zEu {fz:Bool} {e:A7} {x:E} (h:e.cm=some x):Kh fz hp0 gs e=e:=by unfold Kh;rw [if_pos (by simp [h])]
theorem zJA (J6: ∀f s,sg f=some s→f<1000000):Pp P sg (Ct P sg):=by
 intro c n nx sl hp a sl0 hp0 o gs e nv h hu he hc Bh CP;unfold Mw at he;split at he
 ·rename_i e' E9;simp only [Ah]at he;subst he;rw [zEw,zD2]at hc;rw [zDz,zBj]at Bh;rw [zxP,pY]at CP;exact zFj h _ (zDx h _ (jP J6 h E9 hc Bh CP))
 ·split at he
  ·exact zIl J6 h hu he hc Bh
  ·cases he
theorem zza {x:E} (he:W9 P sg sl0 hp0 nv nx o=some e) (hq:e.cm=some x):False:=by
 unfold W9 at he;simp only at he;split at he
 ·cases he
 split at he
 ·cases he
 split at he
 ·cases he
 rename_i e0 LA;split at he
 ·cases he
 rename_i CP;have CP:e0.cm=none:=by cases hh:e0.cm with|none=>rfl|some x=>rw [hh]at CP;simp at CP
 split at he
 ·split at he
  ·simp only [Ah]at he;subst he;rw [CP]at hq;cases hq
  ·cases he
 ·split at he
  ·obtain⟨d,hd,rfl⟩:=Av.1 he;rw [CP]at hq;cases hq
  ·cases he
theorem zyL {x:E} (he:Mw P sg sl0 hp0 nv nx gs o=some e) (hq:e.cm=some x):BJ P sg sl0 hp0 nv nx gs o=some e:=by
 unfold Mw at he;split at he
 ·rename_i e' E9;simp only [Ah]at he;subst he;rw [zxP,pY]at hq;rw [zEu (by rw [pY];exact hq),zCk hq];exact E9
 ·split at he
  ·exact(zza he hq).elim
  ·cases he
theorem zIA:U3 P sg:=by
 intro c n nx sl hp a sl0 hp0 o gs e nv x h he hq hb;unfold K9 at hb;cases AS:o.op with
 |binOp op t y z ty=>
  rw [AS]at hb;simp only at hb;have he:=zyL he hq;simp only [BJ,AS,Aw]at he;obtain⟨s1,BN,s2,A6,he⟩:=he;have key: ∀xq,Bw hp0 gs A3 s1=some xq→xq.den c.ρ= .sl []:=by
   intro xq Kc;obtain⟨f,q1,_⟩:=h.ln BN (by simp [AS,Op.operands]) Kc;generalize a.eval y=v at q1 hb;split at hb
   ·generalize xq.den c.ρ=d at q1;cases q1 with
    |fb _=>rfl
   ·cases hb
  unfold TE at he;split at he
  ·split at he
   ·simp at he;subst he;cases hq
   ·simp at he;subst he;cases hq
   ·obtain⟨xq,Kc,rfl⟩:=Av.1 he;cases hq;exact key _ Kc
   ·obtain⟨xq,Kc,rfl⟩:=Av.1 he;cases hq;exact key _ Kc
   ·cases he
  ·split at he
   ·simp at he;subst he;cases hq
   ·cases he
  ·split at he
   ·simp at he;subst he;cases hq
   ·cases he
  ·split at he
   ·simp at he;subst he;cases hq
   ·cases he
  ·split at he
   ·cases he
   ·split at he
    ·split at he
     ·simp at he;subst he;cases hq
     ·simp at he;subst he;cases hq
     ·cases he
    ·cases he
  ·cases he
 |_=>rw [AS]at hb;simp at hb
end
end Go.Proofs.YtbmbkgalkfmjdaaGreatDoor
end

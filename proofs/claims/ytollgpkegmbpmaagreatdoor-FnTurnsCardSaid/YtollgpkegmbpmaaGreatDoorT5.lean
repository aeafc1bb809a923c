/- Parts of a proof, joined: WP, WQ, WR, WRa, WRb, WRc, WRd, WRe, WS, WSa, WSb. -/
import Derived.Test.YtollgpkegmbpmaaGreatDoorT4
set_option linter.unusedVariables false
set_option linter.unusedSimpArgs false
section
namespace Go.Proofs.YtollgpkegmbpmaaGreatDoor
open Go.RowKit
theorem Bm.{u} {α:Type u} {a:α}:[a].length=1:=rfl
section
variable {P:Program} {c:Cx} {hp:Nat→Option Af} {gs:Gd}
theorem aM (hb:NG c) (eh:EH c hp) (k:AU c.ρ gs) (hU: ∀t g,c.K t g→c.U t): ∀(ss:List SV) {ts:List TypeId} {ms:List PM} {lo:List Bool} {es:List E} {bs:List PA} {us uz:List Nat} {vs:List Value},QB P hp gs ts ms lo ss=some (es,bs,us,uz)→SR c ss vs→ts.length≤ss.length→
  ∃rf lf hs,CQ P c.w ts ms lo vs (es.map (E.den c.ρ)) rf lf hs∧(∀b∈rf,c.dj us b)∧(∀b∈lf,c.dj uz b∨b<c.w0.heap.size∧ ¬c.Mu b)∧hs=(CO bs).flatMap (fun t=>(c.G t).top)∧G9 P c ts ms vs bs∧(∀u∈CO bs,c.U u)∧(bs≠ []→gs= [])
 | [],ts,ms,lo,es,bs,us,uz,vs,h,hs,hl=>by simp [QB]at h;obtain⟨rfl,rfl,rfl,rfl⟩:=h;cases hs;have:ts= []:=List.eq_nil_of_length_eq_zero (by simpa using hl);subst this;exact⟨[], [], [], .nil,by simp,by simp,by simp [CO], .nil,by simp [CO],by simp⟩
 |s::ss,ts,ms,lo,es,bs,us,uz, [],h,hs,hl=>by have:=hs.len;simp at this
 |s::ss,ts,ms,lo,es,bs,us,uz,v::vs,h,hs,hl=>by
  obtain⟨r1,r2⟩:=hs.bd;unfold QB at h;split at h
  ·cases h
  rename_i ys bs' us' uz' Cs;obtain⟨rf,lf,AT,q1,q2,qz,q3,q4,q5,q6⟩:=aM hb eh k hU ss Cs r2 (by simp at hl ⊢;omega);have see1: ∀{a b:List Nat} {x:Nat},c.dj a x→c.dj (a++b) x:=fun h=>h.mono fun t ht=>by simp [ht]
  have see2: ∀{a b:List Nat} {x:Nat},c.dj b x→c.dj (a++b) x:=fun h=>h.mono fun t ht=>by simp [ht]
  split at h
  ·rename_i hm;split at h
   ·rename_i BD;simp only [Ad,Bool.not_eq_true']at BD;obtain⟨t,ts,rfl⟩: ∃t ts',ts=t::ts':=by
     cases ts with
     |nil=>simp at BD
     |cons t ts=>exact⟨t,ts,rfl⟩
    split at h
    ·rename_i i;simp only [Ac,Prod.mk.injEq]at h;obtain⟨rfl,rfl,rfl,rfl⟩:=h;cases r1 with
     |lent g1 _=>obtain⟨f,p1,p2⟩:=hb.lo _ _ g1;have hw:Rd c.w [v] [(E.var i).den c.ρ] f:=p1.frame fun b Bx=>hb.block b (p1.inb b Bx) (p2 b Bx);exact⟨rf,f++lf,AT, .lent BD.1 hm hw q1,q2,fun b Bx=>(Ag.1 Bx).elim (fun Bx=> .inr ⟨p1.inb b Bx,p2 b Bx⟩) (qz b),q3, .ro hm q4,q5,q6⟩
    ·obtain⟨x,hx,hh⟩:=Ak.1 h;simp only [Prod.mk.injEq]at hh;obtain⟨rfl,rfl,rfl,rfl⟩:=hh;obtain⟨f,p1,p2⟩:=Gl eh k AI hx r1 AI (Nat.le_refl _);exact⟨rf,f++lf,AT, .lent BD.1 hm p1 q1,q2,fun b Bx=>(Ag.1 Bx).elim (fun Bx=> .inl (see1 (p2 b Bx))) (fun Bx=>(qz b Bx).imp see2 id),q3, .ro hm q4,q5,q6⟩
   obtain⟨x,hx,hh⟩:=Ak.1 h;simp only [Prod.mk.injEq]at hh;obtain⟨rfl,rfl,rfl,rfl⟩:=hh;obtain⟨f,p1,p2⟩:=Gl eh k AI hx r1 AI (Nat.le_refl _);have hb: ∀b∈f++rf,c.dj (Bn hp gs (AI+1) [s]++us') b:=fun b hb=>by
    rcases Ag.1 hb with hb|hb
    ·exact see1 (p2 b hb)
    ·exact see2 (q2 b hb)
   cases ts with
   |nil=>exact⟨f++rf,lf,AT, .free p1 q1,hb,qz,q3, .ro hm q4,q5,q6⟩
   |cons t ts=>exact⟨f++rf,lf, []++AT, .cons (by rw [hm];exact⟨p1,rfl⟩) q1,hb,qz,q3, .ro hm q4,q5,q6⟩
  ·rename_i own own' hm;split at h
   ·rename_i ty T AZ;split at h
    ·rename_i ty' g cs Mk;split at h
     ·cases h
     rename_i A8;have A8:ty'=ty:=by simpa using A8
     subst A8;split at h
     ·rename_i xs rs vs' B9 Ee;simp only [Ac,Prod.mk.injEq]at h;obtain⟨rfl,rfl,rfl,rfl⟩:=h;obtain⟨t,ts,rfl,Dm⟩: ∃t ts',ts=t::ts'∧IA P t=some ty':=by
       cases ts with
       |nil=>simp at AZ
       |cons t ts=>exact⟨t,ts,rfl,by simpa using AZ⟩
      obtain⟨b,C,g1,g2,g3,g4,g5,g6,g7⟩:=eh T _ (Cm Mk k);obtain⟨f,h8,p1,p2,p3,p4,p5⟩:=VJ (P:=P) eh k hU (AM P ty') Ee g7 B9 (Nat.le_refl _);have hv:v= .pointer (some ⟨b,0,none⟩):=by
       cases r1 with
       |bg k1 k2 _=>rw [g2]at k2;cases k2;rfl
      refine⟨f++rf,lf,(b::h8)++AT, .cons ?_ q1,fun x hx=> ?_,qz,by simp [CO,p3,q3,g3], .bx hm Dm hv g1 (by rw [g2,hv]) p5 q4,fun u hu=> ?_,fun _=>rfl⟩
      ·rw [hm];exact⟨ty',b,C,xs.den c.ρ,h8,Dm,hv,g5,g6,rfl,p1,rfl⟩
      ·rcases Ag.1 hx with hx|hx
       ·exact see1 (p2 x hx)
       ·exact see2 (q2 x hx)
      ·simp only [CO,List.cons_append,Ae,Ag]at hu;rcases hu with rfl|hu|hu
       ·exact hU _ _ g1
       ·exact p5 u hu
       ·exact q5 u hu
     ·cases h
    ·cases h
   ·cases h
  ·rename_i own hm;split at h
   ·rename_i t x AZ hx;split at h
    ·cases h
    rename_i As;have As:(Gk s).2=Ai P t:=by simpa using As
    split at h
    ·rename_i rs vs' Ee;simp only [Ac,Prod.mk.injEq]at h;obtain⟨rfl,rfl,rfl,rfl⟩:=h;obtain⟨ts,rfl⟩: ∃ts',ts=t::ts':=by
      cases ts with
      |nil=>simp at AZ
      |cons t' ts=>simp at AZ;exact⟨ts,by rw [AZ]⟩
     obtain⟨f,h8,p1,p2,p3,⟨vs9,p4,p5⟩,p6⟩:=ZK (P:=P) eh k hU r1 hx As Ee;refine⟨f++rf,lf,h8++AT, .cons (by rw [hm];exact p1) q1,fun x hx=> ?_,qz,by simp [CO,p3,q3],by rw [As];exact .mu hm p4 p5 q4,fun u hu=> ?_,fun _=>rfl⟩
     ·rcases Ag.1 hx with hx|hx
      ·exact see1 (p2 x hx)
      ·exact see2 (q2 x hx)
     ·simp only [CO,Ag]at hu;exact hu.elim (p6 u) (q5 u)
    ·cases h
   ·cases h
  ·rename_i own hm;split at h
   ·rename_i t x AZ hx;split at h
    ·cases h
    rename_i As;have As:(Gk s).2=Ai P t:=by simpa using As
    split at h
    ·rename_i rs vs' Ee;simp only [Ac,Prod.mk.injEq]at h;obtain⟨rfl,rfl,rfl,rfl⟩:=h;obtain⟨ts,rfl⟩: ∃ts',ts=t::ts':=by
      cases ts with
      |nil=>simp at AZ
      |cons t' ts=>simp at AZ;exact⟨ts,by rw [AZ]⟩
     obtain⟨f,h8,p1,p2,p3,⟨vs9,p4,p5⟩,p6⟩:=ZK (P:=P) eh k hU r1 hx As Ee;refine⟨f++rf,lf,h8++AT, .cons (by rw [hm];exact p1) q1,fun x hx=> ?_,qz,by simp [CO,p3,q3], .va hm p6 q4,fun u hu=> ?_,fun _=>rfl⟩
     ·rcases Ag.1 hx with hx|hx
      ·exact see1 (p2 x hx)
      ·exact see2 (q2 x hx)
     ·simp only [CO,Ag]at hu;exact hu.elim (p6 u) (q5 u)
    ·cases h
   ·cases h
end
inductive Fc (P:Program) (w:World):List TypeId→List Bool→List Value→List AV→List Nat→List Nat→Prop where
 |nil {fl}:Fc P w [] fl [] [] [] []
 |own {t ts fl el u us y ys top N f o}:fl.headD false=true→Cc P t=some el→(BC P el=true∧N= []∨BC P el=false∧Dd P t=none)→Co w el (P.cellsOf el) u y top N→Fc P w ts fl.tail us ys f o→Fc P w (t::ts) fl (u::us) (y::ys) (N++f) (top++o)
 |deep {t ts fl el e z l u us y ys top f o}:fl.headD false=true→Cc P t=some el→BC P el=false→Dd P t=some (.row e z l)→DC w [.row e z l] [u] [y] top→Fc P w ts fl.tail us ys f o→Fc P w (t::ts) fl (u::us) (y::ys) f (top++o)
 |skip {t ts fl u us y ys f o}:(fl.headD false=true→Cc P t=none)→Fc P w ts fl.tail us ys f o→Fc P w (t::ts) fl (u::us) (y::ys) f o
inductive C5 (P:Program) (w:World):List TypeId→List PM→List Value→List AV→List Nat→List Nat→Prop where
 |nil {ms vs}:C5 P w [] ms vs [] [] []
 |ro {t ts ms v vs bs f o}:ms.headD .ro= .ro→C5 P w ts ms.tail vs bs f o→C5 P w (t::ts) ms (v::vs) bs f o
 |va {t ts ms own v vs bs f o}:ms.headD .ro= .va own→C5 P w ts ms.tail vs bs f o→C5 P w (t::ts) ms (v::vs) bs f o
 |mu {t ts ms own v vs us ys y bs f1 f o1 o}:ms.headD .ro= .mu own→(if Ai P t then v= .agg us.toArray∧y= .agg ys else us= [v]∧ys= [y])→Fc P w (AM P t) own us ys f1 o1→C5 P w ts ms.tail vs bs f o→C5 P w (t::ts) ms (v::vs) (y::bs) (f1++f) (o1++o)
 |bx {t ts ms own own' ty b C v vs ys y bs f1 o1 f o}:ms.headD .ro= .bx own own'→IA P t=some ty→v= .pointer (some ⟨b,0,none⟩)→w.heap[b]?=some (.cells C ty (0,0))→(∀u∈C.toList,u.oneCell'=true)→y= .agg ys→BP P w (AM P ty) own' C.toList ys f1 o1→
   C5 P w ts ms.tail vs bs f o→C5 P w (t::ts) ms (v::vs) (y::bs) (f1++f) (b::o1++o)
section
variable {P:Program} {c:Cx} {w':World}
theorem pM {mk:Nat→E} {ts:List TypeId} {fl:List Bool} {us:List Value} {rs:List (Option RI)} (h:Fu P c ts fl us rs) (hU: ∀t g,c.K t g→c.U t): ∀{ys:List AV} {f o:List Nat} (j:Nat),Fc P w' ts fl us ys f o→(∀i y,ys[i]?=some y→(mk (j+i)).den c.ρ=y)→
  ∃recs:List AA,Jp mk j rs=recs.map AA.pair∧(recs.flatMap AA.top).Sublist o∧(∀r∈recs,r.new=none∧c.U r.tag∧ ∀hs f,r.aw≠ .gd hs f)∧recs.map AA.tag=B4 rs∧ ∀c',DX c c' w' recs→(∀b∈f,c'.ok b)→ ∀r∈recs,Cu c' r.tag r.aw:=by
 induction h with
 |nil=>intro ys f o j hm _;cases hm;exact⟨[],rfl,by simp,by simp,rfl,by simp⟩
 | @row t ts fl v vs u g el rs h1 h2 NO h3 h4 h5 _ ih=>
  intro ys f o j hm EV;cases hm with
  |skip hh _=>rw [hh h1]at h2;cases h2
  |deep _ k2 k21 k22 _ _=>
   rw [h2]at k2;cases k2;rcases NO with hh|hh
   ·rw [hh]at k21;cases k21
   ·rw [hh]at k22;cases k22
  | @own _ _ _ el' _ _ y ys top N f o k1 k2 k23 k3 k4=>
   rw [h2]at k2;cases k2;obtain⟨recs,e1,e2,e3,e4,e5⟩:=ih (j+1) k4 (fun i y hy=>by rw [show j+1+i=j+(i+1)from by omega];exact EV (i+1) y (by simpa using hy));have hy:=EV 0 y rfl;refine⟨⟨u,none,top, .row el (P.cellsOf el) g (mk j) (BC P el)⟩::recs,by simp [Jp,e1,AA.pair],by simpa using(List.Sublist.refl top).append e2,fun r hr=> ?_,by simp [B4,RI.tag,e4],fun c' ha Au r hr=> ?_⟩
   ·rcases Ae.1 hr with rfl|hr
    ·exact⟨rfl,hU _ _ h3,by simp⟩
    ·exact e3 r hr
   ·rcases Ae.1 hr with rfl|hr
    ·obtain⟨a1,a2⟩:=ha.K u g h3;have kg:=ha.G _ (List.mem_cons_self ..);simp only at kg;refine⟨a1,fun g' BY=>h5 g' (ha.old u (hU _ _ h3) g' BY),N, ?_,fun b hb=>Au b (by simp [hb]),fun hd=> ?_,fun _=>by rw [kg]⟩
     rotate_left
     ·rcases k23 with⟨_,h⟩|⟨h,_⟩
      ·subst h;exact⟨rfl,by rw [kg]⟩
      ·rw [h]at hd;cases hd
     have A4:(mk j).den c.ρ=y:=by simpa using hy
     rw [a2,h4,kg,ha.w,ha.ρ,A4];exact k3
    ·exact e5 c' (ha.mono fun r hr=>by simp [hr]) (fun b hb=>Au b (by simp [hb])) r hr
 | @deep t ts fl v vs u g el e z l ep rs h1 h2 NN Mc h3 h4 h5 h6 _ ih=>
  intro ys f o j hm EV;cases hm with
  |skip hh _=>rw [hh h1]at h2;cases h2
  |own _ k2 k23 _ _=>
   rw [h2]at k2;cases k2;rcases k23 with⟨hh,_⟩|⟨_,hh⟩
   ·rw [hh]at NN;cases NN
   ·rw [hh]at Mc;cases Mc
  | @deep _ _ _ el' e' z' l' _ _ y ys top f o k1 k2 k21 k22 k3 k4=>
   rw [Mc]at k22;cases k22;obtain⟨recs,e1,e2,e3,e4,e5⟩:=ih (j+1) k4 (fun i y hy=>by rw [show j+1+i=j+(i+1)from by omega];exact EV (i+1) y (by simpa using hy));have hy:=EV 0 y rfl;refine⟨⟨u,none,top, .deep e z l g (ep+1) (mk j)⟩::recs,by simp [Jp,e1,AA.pair],by simpa using(List.Sublist.refl top).append e2,fun r hr=> ?_,by simp [B4,RI.tag,e4],fun c' ha Au r hr=> ?_⟩
   ·rcases Ae.1 hr with rfl|hr
    ·exact⟨rfl,hU _ _ h3,by simp⟩
    ·exact e3 r hr
   ·rcases Ae.1 hr with rfl|hr
    ·obtain⟨a1,a2⟩:=ha.K u g h3;have kg:=ha.G _ (List.mem_cons_self ..);have ke:=ha.fu _ (List.mem_cons_self ..) rfl;simp only at kg ke;refine⟨a1,fun g' BY=>h5 g' (ha.old u (hU _ _ h3) g' BY),by rw [ke,h6], ?_,by rw [kg]⟩;have A4:(mk j).den c.ρ=y:=by simpa using hy
     rw [a2,h4,kg,ha.w,ha.ρ,A4];exact k3
    ·exact e5 c' (ha.mono fun r hr=>by simp [hr]) (fun b hb=>Au b (by simp [hb])) r hr
 | @none t ts fl v vs rs _ _ ih=>
  intro ys f o j hm EV;have go: ∀{y:AV} {ys':List AV} {f' o':List Nat},ys=y::ys'→Fc P w' ts fl.tail vs ys' f' o'→(∀b∈f',b∈f)→o'.Sublist o→ ∃recs:List AA,Jp mk j (none::rs)=recs.map AA.pair∧(recs.flatMap AA.top).Sublist o∧(∀r∈recs,r.new=none∧c.U r.tag∧ ∀hs f,r.aw≠ .gd hs f)∧recs.map AA.tag=B4 (none::rs)∧ ∀c',DX c c' w' recs→(∀b∈f,c'.ok b)→ ∀r∈recs,Cu c' r.tag r.aw:=by rintro y ys' f' o' rfl EU hf hs;obtain⟨recs,e1,e2,e3,e4,e5⟩:=ih (j+1) EU (fun i y hy=>by rw [show j+1+i=j+(i+1)from by omega];exact EV (i+1) y (by simpa using hy));exact⟨recs,by simp [Jp,e1],e2.trans hs,e3,by simp [B4]at e4 ⊢;exact e4,fun c' ha Au=>e5 c' ha fun b hb=>Au b (hf b hb)⟩
  cases hm with
  |skip _ h8=>exact go rfl h8 (fun _ h=>h) (List.Sublist.refl _)
  |own _ _ _ _ h8=>exact go rfl h8 (fun b hb=>by simp [hb]) (List.sublist_append_right _ _)
  |deep _ _ _ _ _ h8=>exact go rfl h8 (fun _ h=>h) (List.sublist_append_right _ _)
theorem aB (us:List Nat) (hU: ∀u∈us,c.U u): ∃recs:List AA,D8 us=recs.map AA.pair∧recs.flatMap AA.top= []∧(∀r∈recs,r.new=none∧c.U r.tag∧ ∀hs f,r.aw≠ .gd hs f)∧recs.map AA.tag=us∧ ∀c',DX c c' w' recs→ ∀r∈recs,Cu c' r.tag r.aw:=by
 induction us with
 |nil=>exact⟨[],rfl,rfl,by simp,rfl,by simp⟩
 |cons u us ih=>
  obtain⟨recs,e1,e2,e3,e4,e5⟩:=ih fun u hu=>hU u (by simp [hu]);refine⟨⟨u,none, [], .dead⟩::recs,by simp only [D8]at e1;simp [D8,e1,AA.pair],by simp [e2],fun r hr=> ?_,by simp [e4],fun c' ha r hr=> ?_⟩
  ·rcases Ae.1 hr with rfl|hr
   ·exact⟨rfl,hU _ (by simp),by simp⟩
   ·exact e3 r hr
  ·rcases Ae.1 hr with rfl|hr
   ·have kg:=ha.G _ (List.mem_cons_self ..);simp only at kg;exact⟨by rw [kg],by rw [kg]⟩
   ·exact e5 c' (ha.mono fun r hr=>by simp [hr]) r hr
structure Hj (c:Cx) (w':World) (nx m:Nat) (l:List (Nat × Af)) (hd o f:List Nat) (recs:List AA):Prop where
 ents:l=recs.map AA.pair
 kf:(recs.flatMap AA.top).Sublist o
 new: ∀r∈recs,r.new.isSome=true→nx≤r.tag∧r.tag<nx+m
 old: ∀r∈recs,r.new=none→r.tag∈hd∧c.U r.tag
 all: ∀t∈hd,∃r∈recs,r.tag=t
 nodup:hd.Nodup→(∀t,nx≤t→t<nx+m→ ¬c.U t)→(recs.map AA.tag).Nodup
 ne: ∀r∈recs,∀hs f,r.aw≠ .gd hs f
 ok: ∀c',DX c c' w' recs→(∀b∈f,c'.ok b)→ ∀r∈recs,Cu c' r.tag r.aw
theorem Hj.app {nx m m':Nat} {l l':List (Nat × Af)} {hd IQ o o' f f':List Nat} {recs recs':List AA} (h:Hj c w' nx m l hd o f recs) (k:Hj c w' (nx+m) m' l' IQ o' f' recs'):Hj c w' nx (m+m') (l++l') (hd++IQ) (o++o') (f++f') (recs++recs'):=by
 refine⟨by rw [h.ents,k.ents,List.map_append],by rw [List.flatMap_append];exact h.kf.append k.kf,fun r hr hn=> ?_,fun r hr hn=> ?_,fun t ht=> ?_,fun hn hU=> ?_,fun r hr=> ?_,fun c' ha Au r hr=> ?_⟩
 ·rcases Ag.1 hr with hr|hr
  ·have:=h.new r hr hn;omega
  ·have:=k.new r hr hn;omega
 ·rcases Ag.1 hr with hr|hr
  ·exact⟨by simp [(h.old r hr hn).1],(h.old r hr hn).2⟩
  ·exact⟨by simp [(k.old r hr hn).1],(k.old r hr hn).2⟩
 ·rcases Ag.1 ht with ht|ht
  ·obtain⟨r,hr,e⟩:=h.all t ht;exact⟨r,by simp [hr],e⟩
  ·obtain⟨r,hr,e⟩:=k.all t ht;exact⟨r,by simp [hr],e⟩
 ·rw [List.nodup_append]at hn;rw [List.map_append,List.nodup_append];refine⟨h.nodup hn.1 fun t h1 h2=>hU t h1 (by omega),k.nodup hn.2.1 fun t h1 h2=>hU t (by omega) (by omega),fun t1 OT t2 OU he=> ?_⟩;obtain⟨q1,F9,rfl⟩:=List.mem_map.1 OT;obtain⟨q2,G2,rfl⟩:=List.mem_map.1 OU;cases n1:q1.new with
  |none=>
   obtain⟨a1,a2⟩:=h.old q1 F9 n1;cases n2:q2.new with
   |none=>exact hn.2.2 _ a1 _ (k.old q2 G2 n2).1 he
   |some v2=>have:=k.new q2 G2 (by simp [n2]);exact hU q2.tag (by omega) (by omega) (he▸a2)
  |some v1=>
   have:=h.new q1 F9 (by simp [n1]);cases n2:q2.new with
   |none=>exact hU q1.tag (by omega) (by omega) (he▸(k.old q2 G2 n2).2)
   |some v2=>have:=k.new q2 G2 (by simp [n2]);omega
 ·rcases Ag.1 hr with hr|hr
  ·exact h.ne r hr
  ·exact k.ne r hr
 ·rcases Ag.1 hr with hr|hr
  ·exact h.ok c' (ha.mono fun r hr=>by simp [hr]) (fun b hb=>Au b (by simp [hb])) r hr
  ·exact k.ok c' (ha.mono fun r hr=>by simp [hr]) (fun b hb=>Au b (by simp [hb])) r hr
theorem Hj.iz {nx:Nat} {l:List (Nat × Af)} {hd o f:List Nat} {recs:List AA} (e1:l=recs.map AA.pair) (e2:(recs.flatMap AA.top).Sublist o) (e3: ∀r∈recs,r.new=none∧c.U r.tag∧ ∀hs f,r.aw≠ .gd hs f) (e4:recs.map AA.tag=hd) (e5: ∀c',DX c c' w' recs→(∀b∈f,c'.ok b)→ ∀r∈recs,Cu c' r.tag r.aw):Hj c w' nx 0 l hd o f recs:=by
 refine⟨e1,e2,fun r hr hn=> ?_,fun r hr _=>⟨?_,(e3 r hr).2.1⟩,fun t ht=> ?_,fun hn _=>by rw [e4];exact hn,fun r hr=>(e3 r hr).2.2,fun c' ha Au=>e5 c' ha Au⟩
 ·rw [(e3 r hr).1]at hn;cases hn
 ·rw [←e4];exact List.mem_map.2 ⟨r,hr,rfl⟩
 ·rw [←e4]at ht;obtain⟨r,hr,e⟩:=List.mem_map.1 ht;exact⟨r,hr,e⟩
theorem qF {ts:List TypeId} {ms:List PM} {vs:List Value} {bs:List PA} (h:G9 P c ts ms vs bs) (hU: ∀t g,c.K t g→c.U t) {r:Nat}: ∀{Bs:List AV} {f o:List Nat} (nx j:Nat),C5 P w' ts ms vs Bs f o→(∀k y,Bs[k]?=some y→(E.proj (.var r) (j+k+1)).den c.ρ=y)→
  Bs.length=GU bs∧ ∃recs,Hj c w' nx (It P bs) (after P r nx bs j) (CO bs) o f recs:=by
 have nilS: ∀nx,Hj c w' nx 0 [] [] [] [] []:=fun nx=>⟨rfl,by simp,by simp,by simp,by simp,by simp,by simp,by simp⟩
 induction h with
 |nil=>intro Bs f o nx j hb _;cases hb;exact⟨rfl, [],by simpa [after,CO,It]using nilS nx⟩
 | @ro ts ms v vs bs hm DJ ih=>
  intro Bs f o nx j hb hB;cases hb with
  |nil=>exact ih nx j .nil hB
  |ro _ h8=>exact ih nx j h8 hB
  |va h9 _=>rw [hm]at h9;cases h9
  |mu h9 _ _ _=>rw [hm]at h9;cases h9
  |bx h9 _ _ _ _ _ _ _=>rw [hm]at h9;cases h9
 | @va ts ms own v vs bs us hm I4 DJ ih=>
  intro Bs f o nx j hb hB;obtain⟨recs1,e1,e2,e3,e4,e5⟩:=aB (c:=c) (w':=w') us I4;have s1:Hj c w' nx 0 (D8 us) us [] [] recs1:= .iz e1 (by rw [e2];exact List.Sublist.refl _) e3 e4 fun c' ha _=>e5 c' ha;cases hb with
  |nil=>obtain⟨h1,recs2,s2⟩:=ih nx j .nil hB;exact⟨by simpa [GU]using h1,recs1++recs2,by simpa [after,CO,It]using s1.app s2⟩
  |ro h9 _=>rw [hm]at h9;cases h9
  |va _ h8=>obtain⟨h1,recs2,s2⟩:=ih nx j h8 hB;exact⟨by simpa [GU]using h1,recs1++recs2,by simpa [after,CO,It]using s1.app s2⟩
  |mu h9 _ _ _=>rw [hm]at h9;cases h9
  |bx h9 _ _ _ _ _ _ _=>rw [hm]at h9;cases h9
 | @mu t ts ms own v vs bs us rs hm I4 Ee DJ ih=>
  intro Bs f o nx j hb hB;cases hb with
  |ro h9 _=>rw [hm]at h9;cases h9
  |va h9 _=>rw [hm]at h9;cases h9
  |bx h9 _ _ _ _ _ _ _=>rw [hm]at h9;cases h9
  | @mu _ _ _ own2 _ _ us2 ys y Bs f1 f o1 o h9 hg OA h8=>
   rw [hm]at h9;cases h9;obtain⟨h1,recs2,s2⟩:=ih nx (j+1) h8 (fun k y hy=>by rw [show j+1+k+1=j+(k+1)+1 from by omega];exact hB (k+1) y (by simpa using hy));have hy:=hB 0 y rfl;have Lc:us2=us:=by
    split at I4
    ·rename_i As;rw [if_pos As]at hg;obtain⟨rfl,_⟩:=hg;exact ZL I4
    ·rename_i As;rw [if_neg As]at hg;rw [hg.1,I4]
   subst Lc;obtain⟨recs1,e1,e2,e3,e4,e5⟩:=pM (w':=w') (mk:=CP (.proj (.var r) (j+1)) (Ai P t)) Ee hU 0 OA (by
    intro i z hz;split at hg
    ·rename_i As;rw [As];exact PK (by rw [←hg.2];exact hy) i z hz
    ·rename_i As;have Fz:Ai P t=false:=by simpa using As
     rw [hg.2]at hz;cases i with
     |zero=>simp at hz;subst hz;rw [Fz];simpa [CP]using hy
     |succ i=>simp at hz)
   have s1:Hj c w' nx 0 _ (B4 rs) o1 f1 recs1:= .iz e1 e2 e3 e4 e5;exact⟨by simp [GU,h1],recs1++recs2,by simpa [after,CO,It]using s1.app s2⟩
 | @bx t ts ms own own' ty v vs bs T b g olds hm Dm hv hK hH hol DJ ih=>
  intro Bs f o nx j hb hB;cases hb with
  |ro h9 _=>rw [hm]at h9;cases h9
  |va h9 _=>rw [hm]at h9;cases h9
  |mu h9 _ _ _=>rw [hm]at h9;cases h9
  | @bx _ _ _ own2 own3 ty2 b2 C _ _ ys y Bs f1 o1 f o h9 Hz CM hh Ck G6 hc h8=>
   rw [hm]at h9;cases h9;rw [Dm]at Hz;cases Hz;have QS:b2=b:=by rw [hv]at CM;cases CM;rfl
   subst QS;obtain⟨h1,recs2,s2⟩:=ih (nx+(AM P ty).length) (j+1) h8 (fun k y hy=>by rw [show j+1+k+1=j+(k+1)+1 from by omega];exact hB (k+1) y (by simpa using hy));have hy:=hB 0 y rfl;obtain⟨recs0,d1,d2,d3,d4,d5⟩:=aB (c:=c) (w':=w') olds hol;have s0:Hj c w' nx 0 (D8 olds) olds [] [] recs0:= .iz d1 (by rw [d2];exact List.Sublist.refl _) d3 d4 fun c' ha _=>d5 c' ha;obtain⟨recs1,e1,e2,e3,e4,_,e5⟩:=MB (c:=c) (nx:=nx) (mk:=CP (.proj (.var r) (j+1)) true) hc 0 (PK (by rw [←G6];exact hy));have Yl:=hU _ _ hK;have s1:Hj c w' nx (AM P ty).length ((T, .box ty g (Cf P nx (CP (.proj (.var r) (j+1)) true) 0 (AM P ty) own').1)::(Cf P nx (CP (.proj (.var r) (j+1)) true) 0 (AM P ty) own').2) [T] (b2::o1) f1 (⟨T,none, [b2], .box ty g (Cf P nx (CP (.proj (.var r) (j+1)) true) 0 (AM P ty) own').1⟩::recs1):=by
    refine⟨by simp [e1,AA.pair], ?_,fun q hq hn=> ?_,fun q hq hn=> ?_,by simp,fun _ AO=> ?_,fun q hq=> ?_,fun c' ha Au q hq=> ?_⟩
    ·simp only [List.flatMap_cons,e2,List.singleton_append];exact List.Sublist.refl _
    ·rcases Ae.1 hq with rfl|hq
     ·cases hn
     ·have:=e3 q hq;omega
    ·rcases Ae.1 hq with rfl|hq
     ·exact⟨by simp,Yl⟩
     ·have:=(e3 q hq).2.2;rw [hn]at this;cases this
    ·simp only [List.map_cons,List.nodup_cons];refine⟨fun hm=> ?_,e4⟩;obtain⟨q,hq,kD⟩:=List.mem_map.1 hm;have:=e3 q hq;exact AO q.tag (by omega) (by omega) (kD▸Yl)
    ·rcases Ae.1 hq with rfl|hq
     ·simp
     ·intro hs f he;obtain⟨q1,q2⟩:=e3 q hq;have:(q.tag,q.aw)∈(Cf P nx (CP (.proj (.var r) (j+1)) true) 0 (AM P ty) own').2:=by
       rw [e1];exact List.mem_map.2 ⟨q,hq,rfl⟩
      exact LB _ _ _ _ _ this he
    ·obtain⟨p1,p2⟩:=e5 c' (ha.mono fun r hr=>by simp [hr]) Au;rcases Ae.1 hq with rfl|hq
     ·obtain⟨a1,a2⟩:=ha.K T 0 hK;have kg:=ha.G _ (List.mem_cons_self ..);simp only at kg;exact⟨b2,C,a1,by rw [a2,hH,hv],by rw [kg],by rw [kg],by rw [ha.w];exact hh,Ck,p1⟩
     ·exact p2 q hq
   refine⟨by simp [GU,h1],recs0++((⟨T,none, [b2], .box ty g (Cf P nx (CP (.proj (.var r) (j+1)) true) 0 (AM P ty) own').1⟩::recs1)++recs2), ?_⟩;have s3:=s0.app (s1.app s2);rw [Nat.zero_add]at s3;refine⟨by simpa [after]using s3.ents,s3.kf,s3.new,fun q hq hn=> ?_,fun t ht=> ?_,fun hn AO=> ?_,s3.ne,s3.ok⟩
   ·have:=s3.old q hq hn;simp only [CO,List.cons_append,Ae,Ag,List.not_mem_nil,or_false,List.nil_append]at this ⊢;exact⟨by rcases this.1 with h|h|h;exact .inr (.inl h);exact .inl h;exact .inr (.inr h),this.2⟩
   ·refine s3.all t ?_;simp only [CO,List.cons_append,Ae,Ag,List.nil_append]at ht ⊢;rcases ht with h|h|h
    ·exact .inr (.inl h)
    ·exact .inl h
    ·exact .inr (.inr h)
   ·refine s3.nodup ?_ AO;simp only [CO,List.cons_append,List.nodup_cons,List.nodup_append,Ag,not_or,List.nil_append]at hn ⊢;obtain⟨⟨n1,n2⟩,n3,n4,n5⟩:=hn;refine⟨n3,⟨n2,n4⟩,fun a ha b hb=> ?_⟩;rcases Ae.1 hb with rfl|hb
    ·rintro rfl;exact n1 ha
    ·exact n5 a ha b hb
end
def LV (P:Program):List TypeId→List Bool→List AV→Bool
 |t::ts,fl,y::ys=>((fl.headD false&&(Cc P t).isSome)||Ci P t||y.scalar)&&LV P ts fl.tail ys
 |_,_,_=>true
def Tl (P:Program) (t:TypeId) (fl:List Bool) (x:AV):Bool:=if Ft P t fl then LV P (AM P t) fl (if Ai P t then x.cells else [x])else Ci P t||x.cells.all AV.scalar
def Td (P:Program):List TypeId→List Bool→List AV→Bool
 |t::ts,fl,x::xs=>Tl P t fl x&&Td P ts (fl.drop (AM P t).length) xs
 |_,_,_=>true
def Tj (P:Program) (ts:List TypeId) (fl:List Bool) (R:AV):Bool:=match ts with
 | [t]=>Tl P t fl R
 |ts=>match R with
  | .tup ys=>Td P ts fl ys
  |_=>true
def GQ (P:Program):List TypeId→List PM→List AV→Bool
 |t::ts,ms,bs=>(match ms.headD .ro with
  | .ro=>GQ P ts ms.tail bs
  | .va _=>GQ P ts ms.tail bs
  | .mu _=>GQ P ts ms.tail bs.tail
  | .bx _ own'=>(match IA P t,bs with
   |some ty,b::_=>LV P (AM P ty) own' b.cells
   |_,_=>true)&&GQ P ts ms.tail bs.tail)
 | [],_,_=>true
def Be:List TypeId→List PM→Bool
 |_::ts,ms=>(match ms.headD .ro with
  | .mu _=>true
  | .bx .. =>true
  |_=>false)||Be ts ms.tail
 | [],_=>false
def Kk (P:Program) (fn:Func) (s:F2) (r:AV):Bool:=
 if Be (fn.params.toList++s.ft) s.bj then(match r with
  | .tup (R::bs)=>Tj P fn.resultTypes.toList s.res R&&GQ P (fn.params.toList++s.ft) s.bj bs
  |_=>false)
 else Tj P fn.resultTypes.toList s.res r
def IB (P:Program) (w:World) (ts:List TypeId) (fl:List Bool) (v:Value) (R:AV) (f o:List Nat):Prop:=match ts with
 | [t]=>DO P w t fl v R f o
 |ts=> ∃vs ys,v= .tuple vs.toArray∧R= .tup ys∧He P w ts fl vs ys f o
structure gS (P:Program) (fn:Func) (s:F2) (w:World) (vs:List Value) (rf hs:List Nat) (r:AV) (v:Value) (w':World):Prop where
 ex: ∃R bs f1 o1 f2 o2,r=(match bs with| []=>R|_=> .tup (R::bs))∧IB P w' fn.resultTypes.toList s.res v R f1 o1∧C5 P w' (fn.params.toList++s.ft) s.bj vs bs f2 o2∧(o1++o2).Nodup∧
  (∀b∈o1++o2,(b∈hs∨w.heap.size≤b)∧b<w'.heap.size)∧ ∀b∈f1++f2,b∉o1++o2∧(b∈rf∨b∈hs∨w.heap.size≤b)
 mod:Mod hs w w'
theorem Rel.la {c:Cx} {n:Nat} {sl:Nat→SV} {hp:Nat→Option Af} {a:Act} (h:Rel c n sl hp a) {hs:List Nat} (hh: ∀b∈hs,∃t,b∈(c.G t).top):XY c.w (fun b=>b∈hs):=by
 obtain⟨p1,p2,p3⟩:=h.base.pk;refine⟨Nat.le_trans p1 h.base.size,Ey.mono (fun b hb=>h.base.block b (by omega) fun hm=>by have:=p3 b hm;omega) p2,fun b hb=> ?_⟩;obtain⟨t,ht⟩:=hh b hb;rcases h.gw.allow t b (by simp [GI.own,ht])with k|k
 ·have:c.w0.heap.size≤b:=k;omega
 ·exact p3 b k
def NL (P:Program) (s:F2) (f:Nat) (xs:List AV) (r:AV):Prop:=
 ∃fn,P.funcs[f]?=some fn∧fn.body.isSome=true∧(fn.name== "runtime.NumGoroutine")=false∧Kk P fn s r=true∧xs.length=fn.params.size+fn.nfree∧s.ft.length≤fn.nfree∧
  ∀(w:World) (vs:List Value) (rf lf hs:List Nat),CQ P w (fn.params.toList++s.ft) s.bj s.lo vs xs rf lf hs→(∀b∈hs,b∉rf)→(∀b∈hs,b∉lf)→hs.Nodup→XY w (fun b=>b∈hs)→
   Calls P f vs.toArray w fun e w'=> ∃v,e= .returned v∧gS P fn s w vs rf hs r v w'
def Cd (P:Program) (sg:Bo) (f:Nat) (xs:List AV) (r:AV):Prop:=
 if f<1000000 then∃s,sg f=some s∧NL P s f xs r else NL P {bj:= [],res:= []} (f-1000000) xs r
section
variable {P:Program} {w:World}
theorem Zn {v:Value} {x:AV} {f:List Nat} (h:Rd w [v] [x] f) (hx: ∀y∈x.cells,y.scalar=true):f= []:=by
 by_cases As: ∃cs,x= .agg cs
 ·obtain⟨cs,rfl⟩:=As;obtain⟨as_,_,_,hr⟩:=H0 h rfl;exact Gm hr hx
 ·have:x.cells= [x]:=by cases x<;>first|rfl|exact absurd ⟨_,rfl⟩ As
  rw [this]at hx;exact Gm h hx
theorem pT {t el:TypeId} (h:Cc P t=some el):Ci P t=true:=by have hu:=Ik h;simp [Ci,BC,AM,SZ,hu]
theorem BP.flat {ts:List TypeId} {fl:List Bool} {us:List Value} {ys:List AV} {rf hs:List Nat} (h:BP P w ts fl us ys rf hs) (h1:DM P ts fl=false) (h2:LV P ts fl ys=true):rf= []:=by
 induction h with
 |nil=>rfl
 |own k1 k2 k23 _ _ ih=>
  simp only [DM,Bool.or_eq_false_iff]at h1;simp only [LV,Ad]at h2;have hN:=k23;have hw:=h1.1;rw [pT k2,k1]at hw;rcases hN with⟨_,rfl⟩|⟨q1,q2⟩
  ·rw [ih h1.2 h2.2];rfl
  ·simp [Ta,k2,q1,q2]at hw
 |deep _ _ _ _ _ _ ih=>simp only [DM,Bool.or_eq_false_iff]at h1;simp only [LV,Ad]at h2;exact ih h1.2 h2.2
 | @rd t ts fl u us y ys f rf hs hn hr _ ih=>
  simp only [DM,Bool.or_eq_false_iff]at h1;simp only [LV,Ad]at h2;have DH:(fl.headD false&&(Cc P t).isSome)=false:=by
   cases hh:fl.headD false with
   |false=>rfl
   |true=>rw [hn hh];rfl
  have UO:(fl.headD false&&Ta P t)=false:=by
   cases hh:fl.headD false with
   |false=>rfl
   |true=>simp [Ta,hn hh]
  rw [UO]at h1;rw [DH]at h2;have G4:Ci P t=false:=by simpa using h1.1
  rw [G4]at h2;have hs:y.scalar=true:=by simpa using h2.1
  rw [Gm hr (by simpa using hs),ih h1.2 h2.2];rfl
theorem DO.flat {t:TypeId} {fl:List Bool} {v:Value} {x:AV} {rf hs:List Nat} (h:DO P w t fl v x rf hs) (h1:XR P t fl=false) (h2:Tl P t fl x=true):rf= []:=by
 unfold DO at h;unfold XR at h1;unfold Tl at h2;split at h
 ·rename_i hf;rw [if_pos hf]at h1 h2;obtain⟨us,ys,hg,hc⟩:=h;split at hg
  ·rename_i As;obtain⟨_,rfl,_⟩:=hg;rw [if_pos As]at h2;exact hc.flat h1 h2
  ·rename_i As;obtain⟨_,rfl⟩:=hg;rw [if_neg As]at h2;exact hc.flat h1 h2
 ·rename_i hf;rw [if_neg hf]at h1 h2;rw [h1]at h2;exact Zn h.1 (by simpa using h2)
theorem He.flat {ts:List TypeId} {fl:List Bool} {vs:List Value} {xs:List AV} {rf hs:List Nat} (h:He P w ts fl vs xs rf hs) (h1:CD P ts fl=false) (h2:Td P ts fl xs=true):rf= []:=by
 induction h with
 |nil=>rfl
 |cons hv _ ih=>simp only [CD,Bool.or_eq_false_iff]at h1;simp only [Td,Ad]at h2;rw [hv.flat h1.1 h2.1,ih h1.2 h2.2];rfl
theorem IB.flat {ts:List TypeId} {fl:List Bool} {v:Value} {R:AV} {f o:List Nat} (h:IB P w ts fl v R f o) (h1:CD P ts fl=false) (h2:Tj P ts fl R=true):f= []:=by
 match ts,h,h1,h2 with
 | [t],h,h1,h2=>simp only [CD,Bool.or_false]at h1;exact DO.flat h h1 h2
 | [],h,h1,h2=>obtain⟨vs,ys,_,rfl,hv⟩:=h;exact hv.flat h1 h2
 |t::u::ts,h,h1,h2=>obtain⟨vs,ys,_,rfl,hv⟩:=h;exact hv.flat h1 h2
theorem Co.void {ety sz:Nat} {a:Option Addr} {x:AV} {top N:List Nat} (h:Co w ety sz (.slice a 0 0) x top N):N= []:=by
 obtain⟨xs,_,_,_,⟨_,_,_,h⟩|⟨g,cap,C,hv,h6,_,_,_,_,_,hr⟩⟩:=h
 ·exact h
 ·have h0:xs.length=0:=by injection hv with _ h _;exact h.symm
  have:xs= []:=by cases xs with|nil=>rfl|cons _ _=>simp at h0
  subst this;simp [Ay]at hr;cases hr;rfl
theorem Fc.flat {c:Cx} {ts:List TypeId} {fl:List Bool} {us:List Value} {rs:List (Option RI)} (h:Fu P c ts fl us rs): ∀{ys:List AV} {f o:List Nat},Fc P w ts fl us ys f o→rs.any RI.lent=false→f= []:=by
 induction h with
 |nil=>intro ys f o hm _;cases hm;rfl
 |row k1 k2 k23 _ _ _ _ ih=>
  intro ys f o hm hl;simp only [List.any_cons,Bool.or_eq_false_iff,RI.lent]at hl;cases hm with
  |own _ q2 q23 _ q4=>
   rw [k2]at q2;cases q2;rcases q23 with⟨_,rfl⟩|⟨q,_⟩
   ·exact ih q4 hl.2
   ·rw [q]at hl;simp at hl
  |deep _ _ _ _ _ q=>exact ih q hl.2
  |skip _ q=>exact ih q hl.2
 |deep k1 k2 k21 k22 _ _ _ _ _ ih=>
  intro ys f o hm hl;simp only [List.any_cons,Bool.or_eq_false_iff]at hl;cases hm with
  |own _ q2 q23 _ q4=>
   rw [k2]at q2;cases q2;rcases q23 with⟨_,rfl⟩|⟨_,q⟩
   ·exact ih q4 hl.2
   ·rw [q]at k22;cases k22
  |deep _ _ _ _ _ q=>exact ih q hl.2
  |skip _ q=>exact ih q hl.2
 |none hv _ ih=>
  intro ys f o hm hl;simp only [List.any_cons,Bool.or_eq_false_iff]at hl;cases hm with
  |own q1 q2 _ q3 q4=>
   rcases hv q1 with hh|⟨a,rfl⟩
   ·rw [hh]at q2;cases q2
   ·rw [Co.void q3];exact ih q4 hl.2
  |deep _ _ _ _ _ q=>exact ih q hl.2
  |skip _ q=>exact ih q hl.2
theorem C5.flat {c:Cx} {ts:List TypeId} {ms:List PM} {vs:List Value} {bs:List PA} (h:G9 P c ts ms vs bs): ∀{Bs:List AV} {f o:List Nat},C5 P w ts ms vs Bs f o→Db P bs=false→GQ P ts ms Bs=true→f= []:=by
 induction h with
 |nil=>intro Bs f o hb _ _;cases hb;rfl
 | @ro ts ms v vs bs hm _ ih=>
  intro Bs f o hb h1 h2;cases hb with
  |nil=>rfl
  |ro _ h8=>simp only [GQ,hm]at h2;exact ih h8 h1 h2
  |va h9 _=>rw [hm]at h9;cases h9
  |mu h9 _ _ _=>rw [hm]at h9;cases h9
  |bx h9 _ _ _ _ _ _ _=>rw [hm]at h9;cases h9
 | @va ts ms own v vs bs us hm _ _ ih=>
  intro Bs f o hb h1 h2;cases hb with
  |nil=>rfl
  |ro h9 _=>rw [hm]at h9;cases h9
  |va _ h8=>simp only [GQ,hm]at h2;exact ih h8 h1 h2
  |mu h9 _ _ _=>rw [hm]at h9;cases h9
  |bx h9 _ _ _ _ _ _ _=>rw [hm]at h9;cases h9
 | @mu t ts ms own v vs bs us rs hm I4 Ee _ ih=>
  intro Bs f o hb h1 h2;cases hb with
  |ro h9 _=>rw [hm]at h9;cases h9
  |va h9 _=>rw [hm]at h9;cases h9
  | @mu _ _ _ own2 _ _ us2 ys y Bs f1 f o1 o h9 hg OA h8=>
   rw [hm]at h9;cases h9;simp only [GQ,hm]at h2;simp only [Db,Bool.or_eq_false_iff]at h1;have Lc:us2=us:=by
    split at I4
    ·rename_i As;rw [if_pos As]at hg;obtain⟨rfl,_⟩:=hg;exact ZL I4
    ·rename_i As;rw [if_neg As]at hg;rw [hg.1,I4]
   subst Lc;rw [Fc.flat Ee OA h1.1,ih h8 h1.2 h2];rfl
  |bx h9 _ _ _ _ _ _ _=>rw [hm]at h9;cases h9
 | @bx t ts ms own own' ty v vs bs T b g olds hm Dm _ _ _ _ _ ih=>
  intro Bs f o hb h1 h2;cases hb with
  |ro h9 _=>rw [hm]at h9;cases h9
  |va h9 _=>rw [hm]at h9;cases h9
  |mu h9 _ _ _=>rw [hm]at h9;cases h9
  |bx h9 Hz _ _ _ hy hc h8=>rw [hm]at h9;cases h9;rw [Dm]at Hz;cases Hz;simp only [GQ,hm,Dm,Ad,hy,List.tail_cons]at h2;simp only [Db,Bool.or_eq_false_iff]at h1;rw [hc.flat h1.1 h2.1,ih h8 h1.2 h2.2];rfl
theorem Wb {ts:List TypeId} {ms:List PM} {vs:List Value} {Bs:List AV} {f o:List Nat} (h:C5 P w ts ms vs Bs f o):Bs= []↔Be ts ms=false:=by
 induction h with
 |nil=>simp [Be]
 |ro hm _ ih=>simp only [Be,hm,Bool.false_or];exact ih
 |va hm _ ih=>simp only [Be,hm,Bool.false_or];exact ih
 |mu hm _ _ _ _=>simp only [Be,hm,Bool.true_or];simp
 |bx hm _ _ _ _ _ _ _ _=>simp only [Be,hm,Bool.true_or];simp
end
section
variable {P:Program} {c:Cx} {n nx:Nat} {sl sl0:Nat→SV} {hp hp0:Nat→Option Af} {a:Act} {o:Oper} {gs:Gd} {e:AK} {sg:Bo} {nv:Nat}
theorem bU {xs:List Operand}: ∀{ss:List SV},(∀x∈xs,∀s,Bk sl0 gs x=some s→SR c [s] [a.eval x])→xs.mapM (Bk sl0 gs)=some ss→SR c ss (xs.map a.eval):=by
 induction xs with
 |nil=>intro ss _ h;simp at h;subst h;exact .nil
 |cons x xs ih=>intro ss hx h;rw [List.mapM_cons]at h;simp only [Option.bind_eq_bind,An,Option.pure_def,Ac]at h;obtain⟨s,hs,ss',E5,rfl⟩:=h;exact(hx x (by simp) s hs).cons (ih (fun y hy=>hx y (by simp [hy])) E5)
theorem MU: ∀{l:List Nat},Jq l=true→l.Nodup
 | [],_=>by simp
 |x::l,h=>by simp only [Jq,Ad,Bool.not_eq_true',List.contains_eq_mem,decide_eq_false_iff_not]at h;exact List.nodup_cons.2 ⟨h.1,MU h.2⟩
theorem pS {c1:Cx} {w':World} {recs:List AA} {hs f o:List Nat} (gw:GW c) (hg: ∀t,(c1.G t).top=(c.G t).top∨(c1.G t).top= []) (hA:c1.A=c.A) (TF:c1.Mu=c.Mu) (Q7:c1.w0=c.w0) (hB:c.w0.heap.size≤c.w.heap.size)
  (hn:(recs.map AA.tag).Nodup) (BW: ∀r∈recs,∀b∈r.top,b∈o) (FI: ∀b∈hs,∃r∈recs,b∈(c.G r.tag).top) {rf:List Nat} (JZ: ∀b∈rf,c1.ok b) (hf: ∀b∈f,b∉o∧(b∈rf∨b∈hs∨c.w.heap.size≤b)): ∀b∈f,(c1.cx w' recs).ok b:=by
 intro b hb;obtain⟨h1,h2⟩:=hf b hb;have hM:(c1.cx w' recs).M b→ ∃t,(∀r∈recs,r.tag≠t)∧b∈(c1.G t).top:=by
  rintro⟨t,ht⟩;by_cases hT: ∃r∈recs,r.tag=t
  ·obtain⟨r,hr,rfl⟩:=hT;rw [Cx.c6 hn hr]at ht;exact absurd (BW r hr b ht) h1
  ·rw [Cx.ch fun r hr hh=>hT ⟨r,hr,hh⟩]at ht;exact⟨t,fun r hr hh=>hT ⟨r,hr,hh⟩,ht⟩
 have sub: ∀t,b∈(c1.G t).top→b∈(c.G t).top:=fun t ht=>by
  rcases hg t with hh|hh
  ·rw [←hh];exact ht
  ·rw [hh]at ht;simp at ht
 rcases h2 with h2|h2|h2
 ·refine⟨fun hm=> ?_,(JZ b h2).2⟩;obtain⟨t,_,ht⟩:=hM hm;exact(JZ b h2).1 ⟨t,ht⟩
 ·obtain⟨r,hr,QT⟩:=FI b h2;refine⟨fun hm=> ?_, .inr ?_⟩
  ·obtain⟨t,D0,ht⟩:=hM hm;exact gw.bq r.tag t (D0 r hr) b (by simp [GI.own,QT]) (by simp [GI.own,sub t ht])
  ·have:=gw.allow r.tag b (by simp [GI.own,QT]);simp only [Cx.cx,Cx.B,Q7,TF]at this ⊢;exact this
 ·refine⟨fun hm=> ?_, .inr (.inl ?_)⟩
  ·obtain⟨t,_,ht⟩:=hM hm;have:=gw.inb t b (by simp [GI.own,sub t ht]);omega
  ·simp only [Cx.cx,Cx.B,Q7];omega
theorem tA (h:A1 P c n nx sl hp a sl0 hp0 o gs) {cl:Call} {fo:Operand} (ho:o.op= .call cl) (Aw:cl.callee= .value fo) {g:Nat} {caps:A6} (hf:Bk sl0 gs fo=some (.fn g caps)) {as_:List SV} (has:cl.args.toList.mapM (Bk sl0 gs)=some as_)
  (hg:g<1000000) (he:Qa P sg hp0 gs nv nx g (as_++caps.toList)=some e) (AS: ∀c',e.call=some c'→ ∃r,c.ρ[nv]?=some r∧GN (Cd P sg) c'.fn ((EL.of c'.args).den c.ρ) c.ρ r):Ar P o c n nx sl hp gs a e:=by
 have UE:fo∈o.op.operands:=by simp [ho,Op.operands,Call.operands,Aw]
 have UD: ∀x∈cl.args.toList,x∈o.op.operands:=fun x hx=>by
  have:x∈cl.args:=by simpa using hx
  simp [ho,Op.operands,Call.operands,Aw,this]
 have JZ:=h.bz hf UE;generalize Ue:a.eval fo=fv at JZ;cases JZ with
 |fn N7 h8=>
 rename_i capv;have Ao:=(bU (a:=a) (fun x hx s hs=>h.bz hs (UD x hx)) has).app N7;unfold Qa at he;split at he
 ·rename_i fn s FF HB;split at he
  ·cases he
  rename_i hlen;simp only [Bool.or_eq_true,not_or,Bool.not_eq_true,bne_eq_false_iff_eq]at hlen;split at he
  ·cases he
  rename_i es bs us uz AN;split at he
  ·cases he
  rename_i BF;simp only [Bool.or_eq_true,Bool.not_eq_true',not_or,Bool.not_eq_false,Bool.not_eq_true]at BF;obtain⟨⟨UM,OF⟩,OG⟩:=BF;have OH:=MU UM;have FA: ∀u∈us,u∉CO bs:=fun u hu hh=>by rw [List.any_eq_false]at OF;have:=OF u hu;simp only [List.contains_eq_mem,decide_eq_true_eq]at this;exact this hh
  have IK: ∀u∈uz,u∉CO bs:=fun u hu hh=>by rw [List.any_eq_false]at OG;have:=OG u hu;simp only [List.contains_eq_mem,decide_eq_true_eq]at this;exact this hh
  simp only at he;split at he
  ·cases he
  rename_i BA;simp only [Nat.not_le]at BA;split at he
  ·cases he
  rename_i Hv;split at he
  ·cases he
  rename_i fz FG;have hK: ∀t g,c.K t g→c.U t:=h.rel.a7;obtain⟨rf,lf,hs,q1,q2,qz,q3,q4,q5,q6⟩:=aM (P:=P) h.rel.base h.eh h.gs hK (as_++caps.toList) AN Ao (by rw [hlen.1.2,AB,Array.length_toList];have:=hlen.2;simp only [decide_eq_false_iff_not,Nat.not_lt]at this;omega);obtain⟨fts,F5,Ok⟩: ∃fts,CR hp0 gs fts=some fz∧ ∀t∈fts,t∈us:=by
   split at FG
   ·exact⟨us,FG,fun t ht=>ht⟩
   ·simp only [Ac]at FG;subst FG;exact⟨[],rfl,by simp⟩
  have Cw:=h.rel.freeze h.hp h.gs F5;have JI: ∀t∈fz.map (·.1),t∈us:=fun t ht=>by obtain⟨⟨t',e'⟩,hm,rfl⟩:=List.mem_map.1 ht;exact Ok _ ((Lt h.gs F5).1 t' e' hm).1
  have NR: ∀t,((c.ay (fz.map (·.1))).G t).top=(c.G t).top∨((c.ay (fz.map (·.1))).G t).top= []:=fun t=>by
   simp only [Cx.ay];split
   ·exact .inr rfl
   ·exact .inl rfl
  have hY: ∀t∈CO bs,(c.ay (fz.map (·.1))).G t=c.G t:=fun t ht=>by simp only [Cx.ay];rw [if_neg];intro hh;exact FA t (JI t hh) ht
  have X8: ∀t∈CO bs,(c.ay (fz.map (·.1))).E t=c.E t:=fun t ht=>by simp only [Cx.ay];rw [if_neg];intro hh;exact FA t (JI t hh) ht
  have U6:hs.Nodup:=by
   rw [q3];have: ∀l:List Nat,l.Nodup→(l.flatMap fun t=>(c.G t).top).Nodup:=by
    intro l
    induction l with
    |nil=>intro _;simp
    |cons t l ih=>intro hl;rw [List.nodup_cons]at hl;rw [List.flatMap_cons,List.nodup_append];refine⟨(List.nodup_append.1 (h.rel.gw.nodup t)).1,ih hl.2,fun x hx y hy FO=> ?_⟩;subst FO;obtain⟨u,hu,Vh⟩:=List.mem_flatMap.1 hy;exact h.rel.gw.bq t u (fun hh=>hl.1 (hh▸hu)) x (by simp [GI.own,hx]) (by simp [GI.own,Vh])
   exact this _ OH
  have Hs: ∀b∈hs,∃t∈CO bs,b∈(c.G t).top:=fun b hb=>by rw [q3]at hb;exact List.mem_flatMap.1 hb
  have ER: ∀b∈hs,b∉rf:=fun b hb hr=>by
   obtain⟨t,ht,B3⟩:=Hs b hb;rcases q2 b hr with hh|⟨u,hu,GA⟩
   ·exact hh.1 ⟨t,B3⟩
   ·exact h.rel.gw.bq t u (fun hh=>FA u hu (hh▸ht)) b (by simp [GI.own,B3]) (by simp [GI.own,GA])
  have Ho: ∀b∈hs,b∉lf:=fun b hb hr=>by
   obtain⟨t,ht,B3⟩:=Hs b hb;rcases qz b hr with(hh|⟨u,hu,GA⟩)|⟨h1,h2⟩
   ·exact hh.1 ⟨t,B3⟩
   ·exact h.rel.gw.bq t u (fun hh=>IK u hu (hh▸ht)) b (by simp [GI.own,B3]) (by simp [GI.own,GA])
   ·rcases h.rel.gw.allow t b (by simp [GI.own,B3])with k|k
    ·have:c.w0.heap.size≤b:=k;omega
    ·exact h2 k
  have Eb: ∃(val:SV) (l:List (Nat × Af)),e={call:=some ⟨.inl g,es⟩,val:=val,aw:=fz++(Qx gs l++after P nv (nx+(fn.resultTypes.toList.flatMap (AM P)).length) bs 0)}∧
    ∀(R:AV) (w':World) (v:Value) (f1 o1:List Nat),IB P w' fn.resultTypes.toList s.res v R f1 o1→(if GU bs=0 then E.var nv else .proj (.var nv) 0).den c.ρ=R→ ∃recs:List AA,l=recs.map AA.pair∧recs.flatMap AA.top=o1∧(∀r∈recs,nx≤r.tag∧r.tag<nx+(fn.resultTypes.toList.flatMap (AM P)).length∧r.new.isSome)∧(recs.map AA.tag).Nodup∧
     (∀r∈recs,∀hs f,r.aw≠ .gd hs f)∧ ∀c',DX c c' w' recs→(∀b∈f1,c'.ok b)→SR c' [val] [v]∧ ∀r∈recs,Cu c' r.tag r.aw:=by
   have A8: ∀{l:List (Nat × Af)} {recs:List AA},l=recs.map AA.pair→(∀t x,(t,x)∈l→ ∀hs f,x≠ .gd hs f)→ ∀r∈recs,∀hs f,r.aw≠ .gd hs f:=by rintro l recs rfl hh r hr;exact hh r.tag r.aw (List.mem_map.2 ⟨r,hr,rfl⟩)
   have fvne: ∀(t:TypeId) (k:Nat) (fl:List Bool) (x:E) (u:Nat) (y:Af),(u,y)∈(LN P k t fl x).2→ ∀hs f,y≠ .gd hs f:=by
    intro t k fl x u y hy hs f;unfold LN at hy;split at hy
    ·exact LB _ _ _ _ _ hy
    ·simp at hy
   split at he
   ·rename_i t OY;simp only [Ac]at he;subst he;refine⟨_,_,rfl,fun R w' v f1 o1 hr hR=> ?_⟩;rw [OY]at hr;obtain⟨recs,e1,e2,e3,e4,e5⟩:=Zm (c:=c) (nx:=nx) (x:=if GU bs=0 then E.var nv else .proj (.var nv) 0) (show DO P w' t s.res v R f1 o1 from hr) hR;exact⟨recs,e1,e2,by simpa [OY]using e3,e4,A8 e1 (fvne _ _ _ _),e5⟩
   ·rename_i OY;simp only [Ac]at he;subst he;refine⟨_,_,rfl,fun R w' v f1 o1 hr hR=> ?_⟩;obtain⟨vs,ys,rfl,rfl,hv⟩: ∃vs ys,v= .tuple vs.toArray∧R= .tup ys∧He P w' fn.resultTypes.toList s.res vs ys f1 o1:=by
     unfold IB at hr;split at hr
     ·rename_i t ht;exact absurd ht (OY t)
     ·exact hr
    obtain⟨recs,e1,e2,e3,e4,e5⟩:=nL (c:=c) (x:=if GU bs=0 then E.var nv else .proj (.var nv) 0) hv nx 0 (fun k y hy=>by show AV.proj ((if GU bs=0 then E.var nv else .proj (.var nv) 0).den c.ρ) (0+k)=y;rw [hR];simp [AV.proj,hy])
    have fvsne: ∀(ts:List TypeId) (k:Nat) (fl:List Bool) (x:E) (i u:Nat) (y:Af),(u,y)∈(Ki P k ts fl x i).2→ ∀hs f,y≠ .gd hs f:=by
     intro ts
     induction ts with
     |nil=>intro k fl x i u y hy;simp [Ki]at hy
     |cons t ts ih=>
      intro k fl x i u y hy;simp only [Ki,Ag]at hy;rcases hy with hy|hy
      ·exact fvne _ _ _ _ _ _ hy
      ·exact ih _ _ _ _ _ _ hy
    exact⟨recs,e1,e2,e3,e4,A8 e1 (fvsne _ _ _ _ _),fun c' ha Au=>⟨.tup (by rw [A6.aj];exact(e5 c' ha Au).1) .nil,(e5 c' ha Au).2⟩⟩
  obtain⟨val,l,rfl,La⟩:=Eb;obtain⟨r,hr,Au⟩:=AS _ rfl;have K9: ∃s',sg g=some s'∧NL P s' g ((EL.of es).den c.ρ) r:=by have Au:Cd P sg g ((EL.of es).den c.ρ) r:=Au;unfold Cd at Au;rwa [if_pos hg]at Au
  obtain⟨s',AT,fn',Hr,C8,EX,Bh,_,_,Er⟩:=K9;rw [HB]at AT;cases AT;rw [FF]at Hr;cases Hr;rw [EL.cr]at Er;have AS:=Er c.w _ rf lf hs q1 ER Ho U6 (h.rel.la fun b hb=>by obtain⟨t,_,ht⟩:=Hs b hb;exact⟨t,ht⟩);have ex:(execOp a.eval o).run P c.w= .ok (.enter g (cl.args.map a.eval++capv.toArray)) c.w:=by
   have hb:fn.body.isNone=false:=by simpa using C8
   simp only [execOp,ho,resolve,Aw,Ue,Deferred.ofValue,Sem.run_bind,Sem.run_pure,Result.andThen_ok,invoke,callFunc,run_program,FF];simp [EX,hb]
  intro next Q hk
  unfold Oper.wp;rw [ex,Oper.upon_enter];have KG:cl.args.map a.eval++capv.toArray=((cl.args.toList.map a.eval)++capv).toArray:=by apply Array.ext';simp
  rw [KG];refine AS.mono ?_;rintro e' w' ⟨v,rfl,⟨R,Bs,f1,o1,f2,o2,I2,AG,D9,FJ,OL,Oi⟩,CB⟩;show next (a.put o.dst v) w'
  have gZ: ∀k y,Bs[k]?=some y→(E.proj (.var nv) (0+k+1)).den c.ρ=y:=by
   intro k y hy;cases Bs with
   |nil=>simp at hy
   |cons B Bs=>simp only [E.den,hr,Option.getD_some,I2,AV.proj,Nat.zero_add,List.getElem?_cons_succ,hy]
  obtain⟨OD,recsB,hB⟩:=qF (w':=w') q4 hK (r:=nv) (nx+(fn.resultTypes.toList.flatMap (AM P)).length) 0 D9 gZ;have hR:(if GU bs=0 then E.var nv else .proj (.var nv) 0).den c.ρ=R:=by
   cases Bs with
   |nil=>rw [if_pos (by simpa using OD.symm)];simp only [E.den,hr,Option.getD_some,I2]
   |cons B Bs=>rw [if_neg (by rw [←OD];simp)];simp [E.den,hr,I2,AV.proj]
  obtain⟨recsV,v1,v2,v3,v4,v5,v6⟩:=La R w' v f1 o1 AG hR;have EY: ∀t,nx≤t→t<nx+((fn.resultTypes.toList.flatMap (AM P)).length+It P bs)→ ¬c.U t:=fun t h1 h2=>h.new t h1 (by omega);have NP:=hB.nodup OH fun t h1 h2=>EY t (by omega) (by omega);have Cj:((recsV++recsB).map AA.tag).Nodup:=by
   rw [List.map_append,List.nodup_append];refine⟨v4,NP,fun t1 h1 t2 h2 he=> ?_⟩;obtain⟨p1,US,rfl⟩:=List.mem_map.1 h1;obtain⟨p2,Yu,rfl⟩:=List.mem_map.1 h2;have a1:=v3 p1 US;cases hn:p2.new with
   |none=>exact EY p1.tag (by omega) (by omega) (he▸(hB.old p2 Yu hn).2)
   |some _=>have:=hB.new p2 Yu (by simp [hn]);omega
  have F8: ∀r∈recsV++recsB,r.new.isSome=true→nx≤r.tag∧r.tag<nx+((fn.resultTypes.toList.flatMap (AM P)).length+It P bs):=fun r hr hn=>by
   rcases Ag.1 hr with hr|hr
   ·have:=v3 r hr;omega
   ·have:=hB.new r hr hn;omega
  have DL:((recsV++recsB).flatMap AA.top).Sublist (o1++o2):=by rw [List.flatMap_append,v2];exact(List.Sublist.refl _).append hB.kf
  have Un: ∀b∈hs,∃r∈recsV++recsB,b∈(c.G r.tag).top:=fun b hb=>by obtain⟨t,ht,B3⟩:=Hs b hb;obtain⟨r,hr,rfl⟩:=hB.all t ht;exact⟨r,by simp [hr],B3⟩
  have Ot: ∀b∈hs,∃r∈recsV++recsB,b∈((c.ay (fz.map (·.1))).G r.tag).top:=fun b hb=>by obtain⟨t,ht,B3⟩:=Hs b hb;obtain⟨r,hr,rfl⟩:=hB.all t ht;exact⟨r,by simp [hr],by rw [hY _ ht];exact B3⟩
  have HD: ∀r∈recsV++recsB,∀b∈r.top,b∈o1++o2:=fun r hr b hb=>DL.subset (List.mem_flatMap.2 ⟨r,hr,hb⟩);have K3: ∀b∈f1++f2,((c.ay (fz.map (·.1))).cx w' (recsV++recsB)).ok b:=by
   cases Q6:(CD P fn.resultTypes.toList s.res||Db P bs)with
   |false=>
    simp only [Bool.or_eq_false_iff]at Q6;have Ea:Tj P fn.resultTypes.toList s.res R=true∧GQ P (fn.params.toList++s.ft) s.bj Bs=true:=by
     unfold Kk at Bh;cases KD:Bs with
     |nil=>
      rw [if_neg (by rw [(Wb D9).1 KD];simp)]at Bh;rw [KD]at I2;rw [I2]at Bh;refine⟨Bh, ?_⟩;have: ∀(ts:List TypeId) (ms:List PM),GQ P ts ms []=true:=by
       intro ts
       induction ts with
       |nil=>intro ms;rfl
       |cons t ts ih=>
        intro ms;unfold GQ;split
        ·exact ih _
        ·exact ih _
        ·exact ih _
        ·split
         ·rename_i hh;cases hh
         ·simpa using ih _
      exact this _ _
     |cons B Bs'=>
      rw [if_pos (by
       cases hh:Be (fn.params.toList++s.ft) s.bj with
       |true=>rfl
       |false=>rw [(Wb D9).2 hh]at KD;cases KD)]at Bh
      rw [I2,KD]at Bh;simpa using Bh
    have e1:f1= []:=AG.flat Q6.1 Ea.1;have e2:f2= []:=C5.flat q4 D9 Q6.2 Ea.2;subst e1;subst e2;simp
   |true=>rw [Q6]at Hv FG;simp only [Bool.true_and,Bool.not_eq_true',Bool.not_eq_false]at Hv;simp only [if_true]at FG;exact pS (rf:=rf) h.rel.gw NR rfl rfl rfl h.rel.base.size Cj HD Un (fun b hb=>Pv h.rel h.eh h.gs FG (by simpa using Hv) (q2 b hb)) Oi
  have Og:after P nv (nx+(fn.resultTypes.toList.flatMap (AM P)).length) bs 0=recsB.map fun r=>(r.tag,Cg gs r.aw):=by
   cases N4:bs with
   |nil=>
    have:=hB.ents;rw [N4]at this;simp only [after]at this;have:recsB= []:=by simpa using this.symm
    rw [this];rfl
   |cons b bs'=>have DZ:=q6 (by rw [N4];simp);rw [←N4,hB.ents,DZ];rfl
  have A3:Qx gs l++after P nv (nx+(fn.resultTypes.toList.flatMap (AM P)).length) bs 0=(recsV++recsB).map fun r=>(r.tag,Cg gs r.aw):=by rw [Og,List.map_append];congr 1;rw [v1];simp [Qx,AA.pair]
  obtain⟨Ec,Bp⟩:=Cw.changes (w':=w') (recs:=recsV++recsB) (hs:=hs) (gs:=gs) h.gs CB Cj (fun r hr hn=>by have:=F8 r hr hn;exact EY _ this.1 this.2) Ot (DL.nodup FJ) (fun r hr b hb=>OL b (HD r hr b hb))
   (fun r hr=>by
    rcases Ag.1 hr with hr|hr
    ·exact v5 r hr
    ·exact hB.ne r hr)
   (fun _ r hr=>by
    have aft:=Cx.cy (c:=c.ay (fz.map (·.1))) (w':=w') (recs:=recsV++recsB) h.rel.a7 Cj (fun r hr hn=>by have:=F8 r hr hn;exact EY _ this.1 this.2);have aft':DX c ((c.ay (fz.map (·.1))).cx w' (recsV++recsB)) w' (recsV++recsB):=⟨aft.ρ,aft.w,aft.G,aft.new,aft.K,aft.old,aft.jb,fun r hr DH=>(aft.fu r hr DH).trans (by
     rcases Ag.1 hr with hr|hr
     ·have:=(v3 r hr).2.2;rw [DH]at this;cases this
     ·rw [X8 _ (hB.old r hr DH).1])⟩
    rcases Ag.1 hr with hr|hr
    ·exact(v6 _ (aft'.mono fun r hr=>by simp [hr]) fun b hb=>K3 b (by simp [hb])).2 r hr
    ·exact hB.ok _ (aft'.mono fun r hr=>by simp [hr]) (fun b hb=>K3 b (by simp [hb])) r hr)
  have aft:=Cx.cy (c:=c.ay (fz.map (·.1))) (w':=w') (recs:=recsV++recsB) h.rel.a7 Cj (fun r hr hn=>by have:=F8 r hr hn;exact EY _ this.1 this.2);have aft':DX c ((c.ay (fz.map (·.1))).cx w' (recsV++recsB)) w' (recsV++recsB):=⟨aft.ρ,aft.w,aft.G,aft.new,aft.K,aft.old,aft.jb,fun r hr DH=>(aft.fu r hr DH).trans (by
     rcases Ag.1 hr with hr|hr
     ·have:=(v3 r hr).2.2;rw [DH]at this;cases this
     ·rw [X8 _ (hB.old r hr DH).1])⟩
  have HF:=(v6 _ (aft'.mono fun r hr=>by simp [hr]) fun b hb=>K3 b (by simp [hb])).1;rw [←A3,←LJ]at Ec;refine hk _ ((c.ay (fz.map (·.1))).cx w' (recsV++recsB)) ⟨rfl,rfl,rfl,rfl,fun t ht=> ?_⟩ (Ec.put (HF.mkGd gs h.gs) o.dst);rcases ht with ht|⟨r,hr,rfl⟩
  ·exact .inl ht
  ·cases hn:r.new with
   |none=>
    rcases Ag.1 hr with hr|hr
    ·have:=(v3 r hr).2.2;rw [hn]at this;cases this
    ·exact .inl (hB.old r hr hn).2
   |some _=>have:=F8 r hr (by simp [hn]);exact .inr ⟨this.1,by simp only [Bf];omega⟩
 ·cases he
end
def BG (c:Cx) (us:List Nat):List Nat:=us.flatMap fun t=>(c.G t).top
theorem Wg (c:Cx):BG c []= []:=rfl
theorem Sh (c:Cx) (u:Nat) (us:List Nat):BG c (u::us)=(c.G u).top++BG c us:=by simp [BG]
theorem HT (c:Cx) (us vs:List Nat):BG c (us++vs)=BG c us++BG c vs:=by simp [BG]
theorem MR {c:Cx} {us:List Nat} {b:Nat}:b∈BG c us↔ ∃t∈us,b∈(c.G t).top:=by simp [BG]
theorem R4 {c:Cx} (gw:GW c): ∀{l:List Nat},l.Nodup→(BG c l).Nodup
 | [],_=>by simp [BG]
 |t::l,hl=>by
  rw [Sh,List.nodup_append];rw [List.nodup_cons]at hl;refine⟨?_,R4 gw hl.2,fun a ha b hb iO=> ?_⟩
  ·have:=gw.nodup t;simp only [GI.own]at this;exact(List.nodup_append.1 this).1
  ·subst iO;obtain⟨u,hu,GA⟩:=MR.1 hb;exact gw.bq t u (fun hh=>hl.1 (hh▸hu)) a (by simp [GI.own,ha]) (by simp [GI.own,GA])
section
variable {P:Program} {c:Cx} {hp:Nat→Option Af} {gs:Gd}
theorem WY {m:Nat} {u g:Nat} {x y:E} (hx:A0 hp gs m (.own u g)=some x) (hy:GH hp gs u g=some y):x=y:=by
 cases m with
 |zero=>simp [A0]at hx
 |succ m=>simp only [A0,hy,Ac]at hx;exact hx.symm
theorem cY {m:Nat} {x:E} (h:A0 hp gs m .emp=some x):x= .lst .nil:=by
 cases m with
 |zero=>simp [A0]at h
 |succ m=>simp [A0]at h;exact h.symm
theorem oZ (eh:EH c hp) (k:AU c.ρ gs) {d:DT} {s:SV} {us:List Nat} {ck:List Cn} {v:Value} {x:E} {m:Nat} (h:XC hp gs d s=some (us,ck)) (hs:SR c [s] [v]) (hx:A0 hp gs m s=some x) (hc: ∀q∈ck,q.den c.ρ):
  DC c.w [d] [v] [x.den c.ρ] (BG c us)∧ ∀u∈us,∃g,c.K u g:=by
 unfold XC at h;split at h
 ·rename_i y;simp only [Ac,Prod.mk.injEq]at h;obtain⟨rfl,rfl⟩:=h;rw [Is hx];cases hs with
  |e h1 h2 h3=>
   rename_i f;have D4:(y.den c.ρ).scalar=true:=by
    cases hl:QE y with
    |true=>cases y<;>simp [QE]at hl<;>rfl
    |false=>rw [hl]at hc;exact(Bw hc).2.2.2 rfl
   have hf:f= []:=Gm h1 (by simpa using D4);subst hf;exact⟨.flat h1 .nil,by simp⟩
 ·split at h
  ·rename_i hh;simp only [Ac,Prod.mk.injEq]at h;obtain⟨rfl,rfl⟩:=h;rw [Ja hx];cases hs with
   |bb _=>exact⟨.void hh.1 hh.2 .nil,by simp⟩
  ·cases h
 ·split at h
  ·rename_i hh;simp only [Ac,Prod.mk.injEq]at h;obtain⟨rfl,rfl⟩:=h;rw [cY hx];cases hs with
   |emp _=>exact⟨.void hh.1 hh.2 .nil,by simp⟩
  ·cases h
 ·rename_i e z l u g;split at h
  ·rename_i e' z' l' g' ep y hl;split at h
   ·rename_i hh;obtain⟨rfl,rfl,rfl,hb⟩:=hh;simp only [Ac,Prod.mk.injEq]at h;obtain⟨rfl,rfl⟩:=h;obtain⟨q1,q2,q3,q4,q5⟩:=eh u _ (Cm hl k);rw [WY (y:=y) hx (by simp only [GH,hl,if_true])];have hb:=AF.of_eq hb;subst hb;rw [AF.bw]at q4;cases hs with
    |own k1 k2 _=>rw [k2]at q4;exact⟨by rw [Sh,Wg,List.append_nil];exact q4,fun w hw=>by simp at hw;subst hw;exact⟨_,k1⟩⟩
   ·cases h
  ·rename_i e' z' g' y hl;split at h
   ·rename_i hh;obtain⟨rfl,rfl,rfl,hf,hlen⟩:=hh;simp only [Ac,Prod.mk.injEq]at h;obtain⟨rfl,rfl⟩:=h;obtain⟨q1,q2,N,q4,q5,q6,q7⟩:=eh u _ (Cm hl k);obtain⟨hN,_⟩:=q6 rfl;have hN:N= []:=hN;subst hN;rw [WY (y:=y) hx (by simp only [GH,hl,if_true])];cases hs with
    |own k1 k2 _=>rw [k2]at q4;exact⟨by rw [Sh,Wg,List.append_nil];exact DC.ju q4 hf hlen,fun w hw=>by simp at hw;subst hw;exact⟨_,k1⟩⟩
   ·cases h
  ·cases h
 ·cases h
theorem V1 (eh:EH c hp) (k:AU c.ρ gs): ∀(ds:List DT) {ss:List SV} {us:List Nat} {ck:List Cn} {vs:List Value} {xs:EL} {m:Nat},Kl hp gs ds ss=some (us,ck)→SR c ss vs→BR hp gs m ss=some xs→(∀q∈ck,q.den c.ρ)→
  DC c.w ds vs (xs.den c.ρ) (BG c us)∧ ∀u∈us,∃g,c.K u g
 | [], [],us,ck,vs,xs,m,h,hs,hx,hc=>by
  simp [Kl]at h;obtain⟨rfl,rfl⟩:=h;cases hs;cases m with
  |zero=>simp [BR]at hx
  |succ m=>simp [BR]at hx;subst hx;exact⟨.nil,by simp⟩
 | [],_::_,us,ck,vs,xs,m,h,hs,hx,hc=>by simp [Kl]at h
 |_::_, [],us,ck,vs,xs,m,h,hs,hx,hc=>by simp [Kl]at h
 |d::ds,s::ss,us,ck, [],xs,m,h,hs,hx,hc=>by have:=hs.len;simp at this
 |d::ds,s::ss,us,ck,v::vs,xs,m,h,hs,hx,hc=>by
  obtain⟨j,y,ys,rfl,hy,CH,rfl⟩:=Il hx;obtain⟨r1,r2⟩:=hs.bd;unfold Kl at h;split at h
  ·rename_i us1 ck1 us2 ck2 h1 h2;simp only [Ac,Prod.mk.injEq]at h;obtain⟨rfl,rfl⟩:=h;obtain⟨q1,q2⟩:=oZ eh k h1 r1 hy fun q hq=>hc q (by simp [hq]);obtain⟨q3,q4⟩:=V1 eh k ds h2 r2 CH fun q hq=>hc q (by simp [hq]);refine⟨by rw [HT];exact q1.app q3,fun u hu=> ?_⟩;rcases Ag.1 hu with hu|hu
   ·exact q2 u hu
   ·exact q4 u hu
  ·cases h
theorem ZG (eh:EH c hp) (k:AU c.ρ gs) {t:TypeId} {ds:List DT} {s:SV} {us:List Nat} {ck:List Cn} {v:Value} {x:E} (FC:ds.length=P.cellsOf t) (hg:Ai P t=true∨P.cellsOf t=1) (h:Ni P hp gs t ds s=some (x,us,ck)) (hs:SR c [s] [v]) (hc: ∀q∈ck,q.den c.ρ):
  DC c.w ds v.cells.toList (x.den c.ρ).cells (BG c us)∧(∀u∈v.cells.toList,u.oneCell'=true)∧(x.den c.ρ).cells.length=P.cellsOf t∧v.cells.size=P.cellsOf t∧
   (if Ai P t then∃cs,x.den c.ρ= .agg cs else(∀cs,x.den c.ρ≠ .agg cs)∧ ∀cs,x.den c.ρ≠ .tup cs)∧ ∀u∈us,∃g,c.K u g:=by
 unfold Ni at h;split at h
 ·cases h
 rename_i y hy;split at h
 ·rename_i Ea;simp only [Ac,Prod.mk.injEq]at h;obtain⟨rfl,rfl,rfl⟩:=h;obtain⟨f,q1,q2⟩:=Gl eh k AI hy hs AI (Nat.le_refl _);obtain⟨c1,c2,c3,c4⟩:=Bw hc;have Eb:if Ai P t then∃cs,y.den c.ρ= .agg cs∧cs.length=P.cellsOf t else(∀cs,y.den c.ρ≠ .agg cs)∧ ∀cs,y.den c.ρ≠ .tup cs:=by
   split
   ·rename_i As;obtain⟨cs,A2⟩:=c3 As;exact⟨cs,A2,by rw [A2]at c1;exact c1⟩
   ·rename_i As;have:=c4 (by simpa using As);exact⟨fun cs A2=>by rw [A2]at this;simp [AV.scalar]at this,fun cs A2=>by rw [A2]at this;simp [AV.scalar]at this⟩
  have hf:f= []:=by
   cases Yp:Ai P t with
   |true=>obtain⟨cs,A2⟩:=c3 Yp;obtain⟨as_,rfl,_,r⟩:=H0 q1 A2;exact Gm r (by rw [A2]at c2;exact c2)
   |false=>exact Gm q1 (by simpa using c4 Yp)
  subst hf;obtain⟨o1,o2,o3,o4⟩:=Wy (P:=P) q1 hg Eb;refine⟨DC.ko o1 Ea (by rw [FC];simpa using o4.symm),o2,o3,o4, ?_,by simp⟩;split at Eb
  ·rename_i As;rw [if_pos As];obtain⟨cs,A2,_⟩:=Eb;exact⟨cs,A2⟩
  ·rename_i As;rw [if_neg As];exact Eb
 ·rename_i EZ;split at h
  ·cases h
  rename_i As;have As:(Gk s).2=Ai P t:=by simpa using As
  obtain⟨⟨us',ck'⟩,hr,h⟩:=Ak.1 h;simp only [Prod.mk.injEq]at h;obtain⟨rfl,rfl,rfl⟩:=h;have single:Ai P t=false→Kl hp gs ds [s]=some (us',ck')→DC c.w ds v.cells.toList (y.den c.ρ).cells (BG c us')∧(∀u∈v.cells.toList,u.oneCell'=true)∧(y.den c.ρ).cells.length=P.cellsOf t∧v.cells.size=P.cellsOf t∧
   (if Ai P t then∃cs,y.den c.ρ= .agg cs else(∀cs,y.den c.ρ≠ .agg cs)∧ ∀cs,y.den c.ρ≠ .tup cs)∧ ∀u∈us',∃g,c.K u g:=by
   intro As hr;have A7:BR hp gs (AI+1) [s]=some (.cons y .nil):=by unfold BR;rw [hy];rfl
   obtain⟨q1,q2⟩:=V1 eh k ds hr hs A7 hc;have Ym:=q1.len;simp only [EL.den,AD,List.length_nil]at Ym
   match ds,Ym,q1,EZ,FC with
   | [d],_,q1,EZ,FC=>
    cases d with
    |flat=>simp [DT.az]at EZ
    |row e z l=>
     obtain⟨p,q,r,rfl⟩:=q1.head;obtain⟨xs,B9⟩: ∃xs,y.den c.ρ= .sl xs:=by
      obtain⟨_,_,⟨_,_,hx,_⟩|⟨_,_,_,_,_,_,hx,_⟩⟩:=q1.inv
      ·exact⟨_,hx⟩
      ·exact⟨_,hx⟩
     rw [if_neg (by rw [As];simp)];refine⟨?_,by simp [Value.cells,Value.oneCell'],by rw [B9,←FC];rfl,by rw [←FC];rfl, ?_,q2⟩
     ·simp only [EL.den]at q1;rw [B9]at q1 ⊢;exact q1
     ·rw [B9];exact⟨fun cs hh=>(by cases hh),fun cs hh=>(by cases hh)⟩
  cases s with
  |agg cs=>
   simp only [Gk]at As hr;obtain⟨m,l,hm,hl,rfl⟩:=PY hy;cases hs with
   |agg h9 h1 h8=>rename_i as_;obtain⟨q1,q2⟩:=V1 eh k ds hr h1 hl hc;obtain⟨l1,l2⟩:=q1.len;rw [if_pos As.symm];exact⟨by simpa [Value.cells,AV.cells,E.den]using q1,by simpa [Value.cells]using h9,by simp only [E.den,AV.cells];omega,by simp [Value.cells];omega,⟨_,rfl⟩,q2⟩
  |_=>exact single As.symm hr
theorem Zr (eh:EH c hp) (k:AU c.ρ gs) {t:TypeId} {ds:List DT} (FC:ds.length=P.cellsOf t) (hg:Ai P t=true∨P.cellsOf t=1): ∀(ss:List SV) (vs:List Value) {xs:List E} {us:List Nat} {ck:List Cn},SR c ss vs→PZ P hp gs t ds ss=some (xs,us,ck)→(∀q∈ck,q.den c.ρ)→
  DC c.w (Cv vs.length ds) (vs.flatMap fun v=>v.cells.toList) (Ay (xs.map (E.den c.ρ))) (BG c us)∧(∀v∈vs,v.cells.size=P.cellsOf t∧ ∀u∈v.cells.toList,u.oneCell'=true)∧(∀x∈xs,(x.den c.ρ).cells.length=P.cellsOf t)∧xs.length=vs.length∧ ∀u∈us,∃g,c.K u g
 | [],vs,xs,us,ck,hr,ht,hc=>by simp [PZ]at ht;obtain⟨rfl,rfl,rfl⟩:=ht;cases hr;exact⟨by simpa [Ay,Cv,BG]using DC.nil,by simp,by simp,rfl,by simp⟩
 |s::ss, [],xs,us,ck,hr,ht,hc=>by have:=hr.len;simp at this
 |s::ss,v::vs,xs,us,ck,hr,ht,hc=>by
  obtain⟨r1,r2⟩:=hr.bd;unfold PZ at ht;split at ht
  ·rename_i x us1 ck1 xs2 us2 ck2 h1 h2;simp only [Ac,Prod.mk.injEq]at ht;obtain⟨rfl,rfl,rfl⟩:=ht;obtain⟨q1,q2,q3,q4,q5,q6⟩:=ZG eh k FC hg h1 r1 (fun q hq=>hc q (by simp [hq]));obtain⟨p1,p2,p3,p4,p5⟩:=Zr eh k FC hg ss vs r2 h2 (fun q hq=>hc q (by simp [hq]));refine⟨?_, ?_, ?_,by simp [p4], ?_⟩
   ·have:=q1.app p1;rw [AD,LF,HT];simpa [Ay]using this
   ·intro u hu;rcases Ae.1 hu with rfl|hu
    ·exact⟨q4,q2⟩
    ·exact p2 u hu
   ·intro u hu;rcases Ae.1 hu with rfl|hu
    ·exact q3
    ·exact p3 u hu
   ·intro u hu;rcases Ag.1 hu with hu|hu
    ·exact q6 u hu
    ·exact p5 u hu
  ·cases ht
theorem ZW (eh:EH c hp) (k:AU c.ρ gs) {e z:Nat} {l:List DT} {s:SV} {us:List Nat} {v:Value} {y:E} {m:Nat} (h:Qm hp gs e z l s=some us) (hs:SR c [s] [v]) (hy:A0 hp gs m s=some y):
  ∃ys q r news N,y.den c.ρ= .sl ys∧v= .slice q ys.length r∧Src c.w z q ys.length news∧DC c.w (Cv ys.length l) news (Ay ys) N∧N.Sublist (BG c us)∧(∀y∈ys,y.cells.length=z)∧(∀u∈news,u.oneCell'=true)∧ ∀u∈us,∃g,c.K u g:=by
 have empt: ∀q,v= .slice q 0 0→y= .lst .nil→us= []→ ∃ys q r news N,y.den c.ρ= .sl ys∧v= .slice q ys.length r∧Src c.w z q ys.length news∧DC c.w (Cv ys.length l) news (Ay ys) N∧N.Sublist (BG c us)∧(∀y∈ys,y.cells.length=z)∧(∀u∈news,u.oneCell'=true)∧ ∀u∈us,∃g,c.K u g:=by
  rintro q rfl rfl rfl;refine⟨[],q,0, [], [],rfl,rfl, ?_,by simpa [Cv,Ay]using DC.nil,by simp,by simp,by simp,by simp⟩;cases q with
  |none=>exact .inl ⟨rfl,rfl,rfl⟩
  |some p=>exact .inr ⟨p,rfl,by simp,by simp,by simp⟩
 unfold Qm at h;split at h
 ·simp only [Ac]at h;cases hs with
  |bb _=>exact empt _ rfl (Ja hy) h.symm
 ·simp only [Ac]at h;cases hs with
  |emp _=>exact empt _ rfl (cY hy) h.symm
 ·rename_i u g;split at h
  ·rename_i e' z' l' g' ep x hl;split at h
   ·rename_i hh;obtain⟨rfl,rfl,rfl,hb⟩:=hh;simp only [Ac]at h;subst h;have hb:=AF.fm hb;subst hb;obtain⟨q1,q2,q3,q4,q5⟩:=eh u _ (Cm hl k);have FP:=WY (y:=x) hy (by simp only [GH,hl,if_true]);subst FP;cases hs with
    |own k1 k2 k3=>
     rename_i p0 n0 r0;rw [k2]at q4;have hK: ∀w∈ [u],∃g,c.K w g:=fun w hw=>by simp at hw;subst hw;exact⟨_,k1⟩
     obtain⟨d1,d2,⟨a9,d3,d4,d5⟩|⟨g9,cap,C,ys,N1,d3,d4,d5,d6,d7,d8,d9,d10,d11,d12⟩⟩:=q4.inv
     ·cases d3;refine⟨[],_,0, [], [],d4,rfl, ?_,by simpa [Cv,Ay]using DC.nil,by simp,by simp,by simp,hK⟩;cases p0 with
      |none=>exact .inl ⟨rfl,rfl,rfl⟩
      |some p=>exact .inr ⟨p,rfl,by simp,by simp,by simp⟩
     ·cases d3;rw [AF.aj]at d12;have C7:C.toList.length=r0*z:=by simpa using d9
      refine⟨ys,_,r0,_,N1,d4,rfl, .inr ⟨_,rfl, ?_,fun j w hw=> ?_,d11⟩,d12, ?_,d10,d11,hK⟩
      ·rw [List.length_take,C7];exact Nat.min_eq_left (Nat.mul_le_mul_right _ d7)
      ·rw [Addr.add_lit,Nat.zero_add,D5 d6];rw [List.getElem?_take]at hw;split at hw
       ·simpa using hw
       ·cases hw
      ·rw [Sh,Wg,List.append_nil,d5];exact List.sublist_cons_self _ _
   ·cases h
  ·cases h
 ·cases h
end
def EJ (T:List Nat):List AA:=T.map fun u=>⟨u,none, [], .dead⟩
theorem rW (T:List Nat):(EJ T).flatMap AA.top= []:=by induction T<;>simp_all [EJ]
theorem sX (T:List Nat):(EJ T).map AA.tag=T:=by induction T<;>simp_all [EJ]
theorem qR (T:List Nat):((EJ T).map fun r=>(r.tag,Cg [] r.aw))=D8 T:=by simp [EJ,D8,Cg]
theorem PO {T:List Nat} {r:AA} (h:r∈EJ T):r.tag∈T∧r.new=none∧r.top= []∧r.aw= .dead:=by obtain⟨u,hu,rfl⟩:=List.mem_map.1 h;exact⟨hu,rfl,rfl,rfl⟩
section
variable {P:Program} {c:Cx} {n nx:Nat} {sl sl0:Nat→SV} {hp hp0:Nat→Option Af} {a:Act} {o:Oper} {gs:Gd} {e:AK} {sg:Bo} {nv:Nat}
theorem Rel.jx (h:Rel c n sl hp a) {T:List Nat} (hT:T.Nodup) (Fe: ∀u∈T,c.U u) {r0:AA} (G4:r0.tag∉T) (Ga:r0.new.isSome=true→ ¬c.U r0.tag) (Da:r0.new=none→c.U r0.tag) {w':World} {hs:List Nat} (FI: ∀b∈hs,b∈(c.G r0.tag).top∨b∈BG c T) (hm:Mod hs c.w w')
  (BF:r0.top.Nodup) (BZ: ∀b∈r0.top,(b∈hs∨c.w.heap.size≤b)∧b<w'.heap.size) (A8: ∀q f,r0.aw≠ .gd q f)
  (he:CU c (c.cx w' (r0::EJ T))→DX c (c.cx w' (r0::EJ T)) w' (r0::EJ T)→Cu (c.cx w' (r0::EJ T)) r0.tag r0.aw):
  Rel (c.cx w' (r0::EJ T)) n sl (AR hp ((r0.tag,r0.aw)::D8 T)) a∧CU c (c.cx w' (r0::EJ T))∧DX c (c.cx w' (r0::EJ T)) w' (r0::EJ T)∧ ∀t,(c.cx w' (r0::EJ T)).U t→c.U t∨t=r0.tag:=by
 have hn:((r0::EJ T).map AA.tag).Nodup:=by rw [List.map_cons,sX];exact List.nodup_cons.2 ⟨G4,hT⟩
 have AO: ∀r∈r0::EJ T,r.new.isSome=true→ ¬c.U r.tag:=fun r hr hs=>by
  rcases Ae.1 hr with rfl|hr
  ·exact Ga hs
  ·rw [(PO hr).2.1]at hs;cases hs
 have aft:=Cx.cy (w':=w') h.a7 hn AO;obtain⟨q1,q2⟩:=h.changes (gs:= []) (DS _) hm hn AO (fun b hb=>by
   rcases FI b hb with hb|hb
   ·exact⟨r0,by simp,hb⟩
   ·obtain⟨t,ht,B3⟩:=MR.1 hb;exact⟨⟨t,none, [], .dead⟩,List.mem_cons_of_mem _ (List.mem_map.2 ⟨t,ht,rfl⟩),B3⟩)
  (by rw [List.flatMap_cons,rW,List.append_nil];exact BF)
  (fun r hr b hb=>by
   rcases Ae.1 hr with rfl|hr
   ·exact BZ b hb
   ·rw [(PO hr).2.2.1]at hb;cases hb)
  (fun r hr=>by
   rcases Ae.1 hr with rfl|hr
   ·exact A8
   ·rw [(PO hr).2.2.2];intros;simp)
  (fun hk r hr=>by
   rcases Ae.1 hr with rfl|hr
   ·exact he hk aft
   ·have kg:=aft.G r (List.mem_cons_of_mem _ hr);obtain⟨_,_,e1,e2⟩:=PO hr;rw [e2];exact⟨by rw [kg,e1],by rw [kg]⟩)
 refine⟨?_,q2,aft,fun t ht=> ?_⟩
 ·rw [List.map_cons,qR]at q1;have:Cg [] r0.aw=r0.aw:=rfl;rw [this]at q1;exact q1
 ·rcases ht with ht|⟨r,hr,rfl⟩
  ·exact .inl ht
  ·rcases Ae.1 hr with rfl|hr
   ·exact .inr rfl
   ·exact .inl (Fe _ (PO hr).1)
theorem Ar.eo (h:A1 P c n nx sl hp a sl0 hp0 o []) {T:List Nat} (hT:T.Nodup) (Fe: ∀u∈T,∃g,c.K u g) {v':Value} {w':World} {ck:List Cn} {e z:Nat} {l:List DT} {x:E} {top:List Nat} (hr:(execOp a.eval o).run P c.w= .ok (.value v') w') (hm:Mod (BG c T) c.w w')
  (BF:top.Nodup) (BZ: ∀b∈top,(b∈BG c T∨c.w.heap.size≤b)∧b<w'.heap.size) (hd:DC w' [.row e z (AF.of l)] [v'] [x.den c.ρ] top):
  Ar P o c n nx sl hp [] a {bc:=ck,val:= .own nx 0,aw:=(nx, .deep e z l 0 0 x)::D8 T}:=by
 intro next Q hk
 unfold Oper.wp;rw [hr,Oper.upon_value];have hU:=LL h;have IJ: ∀u∈T,c.U u:=fun u hu=>by obtain⟨g,hg⟩:=Fe u hu;exact h.rel.a7 _ _ hg
 obtain⟨q1,q2,q3,q4⟩:=h.rel.jx (r0:=⟨nx,some v',top, .deep e z l 0 0 x⟩) hT IJ (fun hh=>hU (IJ _ hh)) (fun _=>hU) (fun hh=>by cases hh) (fun b hb=> .inr hb) hm BF BZ (by intros;simp) (fun _ aft=>by obtain⟨k1,k2,k3⟩:=aft.new _ (List.mem_cons_self ..) v' rfl;have kg:=aft.G _ (List.mem_cons_self ..);have ke:=aft.jb _ (List.mem_cons_self ..) rfl;simp only at k1 k2 k3 kg ke;exact⟨k1,k2,ke,by rw [k3,kg,aft.w,aft.ρ];exact hd,by rw [kg]⟩)
 obtain⟨k1,k2,k3⟩:=q3.new _ (List.mem_cons_self ..) v' rfl;simp only at k1 k3;obtain⟨p,m,r,rfl⟩:=hd.head;refine hk _ (c.cx w' _) ⟨rfl,rfl,rfl,rfl,fun t ht=> ?_⟩ (q1.put (SR.own k1 k3 .nil) o.dst);rcases q4 t ht with ht|rfl
 ·exact .inl ht
 ·exact .inr ⟨Nat.le_refl _,by simp [Bf]⟩
theorem Ar.jm (h:A1 P c n nx sl hp a sl0 hp0 o []) {T:List Nat} (hT:T.Nodup) (Fe: ∀u∈T,∃g,c.K u g) {b g ep:Nat} (hb:b∉T) (hK:c.K b g) (Dk: ∀g',c.K b g'→g'≤g) (hE:c.E b=ep) {w':World} {ck:List Cn} {e z:Nat} {l:List DT} {x:E} {top:List Nat} (hr:(execOp a.eval o).run P c.w= .ok .skip w') {hs:List Nat} (FI: ∀q∈hs,q∈(c.G b).top∨q∈BG c T) (hm:Mod hs c.w w')
  (BF:top.Nodup) (BZ: ∀q∈top,(q∈hs∨c.w.heap.size≤q)∧q<w'.heap.size) (hd:DC w' [.row e z (AF.of l)] [c.H b g] [x.den c.ρ] top):
  Ar P o c n nx sl hp [] a {bc:=ck,aw:=(b, .deep e z l g (ep+1) x)::D8 T}:=by
 intro next Q hk
 unfold Oper.wp;rw [hr,Oper.upon_skip];have IJ: ∀u∈T,c.U u:=fun u hu=>by obtain⟨g,hg⟩:=Fe u hu;exact h.rel.a7 _ _ hg
 have TV:=h.rel.a7 _ _ hK;obtain⟨q1,q2,q3,q4⟩:=h.rel.jx (r0:=⟨b,none,top, .deep e z l g (ep+1) x⟩) hT IJ hb (fun hh=>by cases hh) (fun _=>TV) FI hm BF BZ (by intros;simp) (fun _ aft=>by have kg:=aft.G _ (List.mem_cons_self ..);have ke:=aft.fu _ (List.mem_cons_self ..) rfl;obtain⟨k1,k2⟩:=aft.K b g hK;simp only at kg ke;exact⟨k1,fun g' BY=>Dk g' (aft.old b TV g' BY),by rw [ke,hE],by rw [k2,kg,aft.w,aft.ρ];exact hd,by rw [kg]⟩)
 refine hk _ (c.cx w' _) ⟨rfl,rfl,rfl,rfl,fun t ht=> ?_⟩ (q1.put ((SR.undef .nil).mkGd []) o.dst);rcases q4 t ht with ht|rfl
 ·exact .inl ht
 ·exact .inl TV
theorem bD {w w':World} {row:Option Nat} {S:List Nat} (h:w.grownBy w' row) (hr: ∀g,row=some g→g∈S∨w.heap.size≤g):Mod S w w':=by
 refine⟨h.os,h.tape,h.output,h.size,fun b hb hn=>h.block b hb fun hh=> ?_⟩;rcases hr b hh.symm with h1|h1
 ·exact hn h1
 ·omega
theorem VU (h:A1 P c n nx sl hp a sl0 hp0 o []) {x y:Operand} {tx:TypeId} {cl:Call} (ho:o.op= .call cl) (Aw:cl.callee= .builtin .append) (Cz:cl.args.toList= [x,y]) (Dz:cl.argTypes.toList= [tx,tx])
  {el:TypeId} (A7:P.underlying tx=some (.slice el)) (hz:GO P el=true) {l:List DT} (hl:l.length=P.cellsOf el) {T us:List Nat} (hT:(T++us).Nodup) (Fe: ∀u∈T,∃g,c.K u g) {s2:SV} {ye:E} (AL:Bk sl0 [] y=some s2) (hy:A0 hp0 [] AI s2=some ye) (BK:Qm hp0 [] el (P.cellsOf el) l s2=some us)
  {c0:E} {v:Value} (hv:a.eval x=v) {N:List Nat} (Bg:DC c.w [.row el (P.cellsOf el) (AF.of l)] [v] [c0.den c.ρ] N) (hN:N=BG c T) {ck:List Cn} (BV:Cn.den c.ρ (.room c0 ye (P.bytesOf el))):
  Ar P o c n nx sl hp [] a {bc:=ck,val:= .own nx 0,aw:=(nx, .deep el (P.cellsOf el) l 0 0 (.app c0 ye))::D8 (T++us)}:=by
 have Ao:cl.args= #[x,y]:=by apply Array.ext';simp [Cz]
 have FM:cl.argTypes= #[tx,tx]:=by apply Array.ext';simp [Dz]
 have CZ:y∈o.op.operands:=by simp [ho,Op.operands,Call.operands,Aw,Ao]
 obtain⟨i,z,hi,ES,C4,BA,BX,Ff⟩:=I9 hz;obtain⟨ys,q,r,news,N2,CH,CM,Eu,T8,Bl,Lh,UK,Va⟩:=ZW h.eh h.gs BK (h.bz AL CZ) hy;have Cj:=R4 h.rel.gw hT;rw [HT]at Cj;have DF: ∀b∈BG c (T++us),b<c.w.heap.size:=fun b hb=>by obtain⟨t,_,B3⟩:=MR.1 hb;exact h.rel.gw.inb t b (by simp [GI.own,B3])
 obtain⟨mm,kk,Ga,Da,ON,U0⟩:=BV;obtain⟨d1,d2,AW⟩:=Bg.inv;rw [AF.aj]at d2 AW;have hU: ∀u∈T++us,∃g,c.K u g:=fun u hu=>by
  rcases Ag.1 hu with hu|hu
  ·exact Fe u hu
  ·exact Va u hu
 obtain⟨xs,old,N1,B9,hold,Gc,iV,GG,Ck,QM,TH⟩: ∃(xs:List AV) (old:List Value) (N1:List Nat),c0.den c.ρ= .sl xs∧old.length=xs.length*i.size∧((xs.length=0∧ ∃q,v= .slice q 0 0)∨ ∃g cap C,v= .slice (some ⟨g,0,none⟩) xs.length cap∧xs.length≤cap∧cap≤maxLen∧c.w.heap[g]?=some (.cells C el (0,0))∧C.size=cap*i.size∧old=C.toList.take (xs.length*i.size)∧(g∈BG c T∧g∉N1))∧
   DC c.w (Cv xs.length l) old (Ay xs) N1∧(∀y∈xs,y.cells.length=P.cellsOf el)∧(∀u∈old,u.oneCell'=true)∧(∀b∈N1,b∈BG c T)∧N1.Nodup:=by
  rcases AW with⟨p,rfl,Ii,rfl⟩|⟨g9,cap,C,xs,N1,rfl,Ii,rfl,h6,h7,h8,h9,EG,EN,gX⟩
  ·exact⟨[], [], [],Ii,by simp, .inl ⟨rfl,p,rfl⟩,by simpa [Cv,Ay]using DC.nil,by simp,by simp,by simp,by simp⟩
  ·have BF:(g9::N1).Nodup:=by rw [hN];exact(List.nodup_append.1 Cj).1
   rw [List.nodup_cons]at BF;refine⟨xs,_,N1,Ii, ?_, .inr ⟨g9,cap,C,rfl,h7,h8,h6,by rw [←BX];exact h9,rfl,by rw [←hN];simp,BF.1⟩,by rw [←BX];exact gX,EG,by rw [←BX];exact EN,fun b hb=>by rw [←hN];simp [hb],BF.2⟩;have e9:C.toList.length=cap*i.size:=by rw [←BX,←h9];simp
   rw [List.length_take,e9];exact Nat.min_eq_left (Nat.mul_le_mul_right _ h7)
 rw [B9]at Ga;rw [CH]at Da;simp only [AV.len,AV.int.injEq,true_and]at Ga Da;have Gy:(xs.length+ys.length)*i.bytes≤140737488355328:=by
  rw [←Ga,←Da,Ff]at ON;have h9:(((xs.length+ys.length)*i.bytes:Nat):Int)≤140737488355328:=by rw [Int.natCast_mul,Int.natCast_add];exact ON
  omega
 have GZ:xs.length+ys.length≤140737488355328:=by rw [←Ga,←Da]at U0;omega
 rw [BX]at Eu;obtain⟨v',w',AH,AG⟩:=Xf (P:=P) c.w tx o.type el i z A7 hi ES C4 BA (fun g9=>g9∈BG c T∧g9∉N1) v xs.length old hold Gc q ys.length r news Eu (by simp only [maxLen];omega) Gy;have Ef:(execOp a.eval o).run P c.w= .ok (.value v') w':=by simp [execOp,ho,resolve,Aw,Ao,FM,invoke,builtin,hv,CM,AH]
 have NU: ∀b∈N2,b∈BG c us:=fun b hb=>Bl.subset hb;have TJ:N2.Nodup:=Bl.nodup (List.nodup_append.1 Cj).2.1;have NY:(E.app c0 ye).den c.ρ= .sl (xs++ys):=by simp only [E.den,B9,CH,AV.app]
 rcases AG with⟨rfl,rfl,Di⟩|⟨g9,cap,C,rfl,h1,h2,h3,h4,h5,h6,h7⟩
 ·have G6:ys= []:=List.eq_nil_of_length_eq_zero Di;subst G6;refine Ar.eo h hT hU Ef (Mod.refl _ _) (top:=N) (by rw [hN];exact(List.nodup_append.1 Cj).1) (fun b hb=>⟨.inl (by rw [HT,←hN];simp [hb]),DF b (by rw [HT,←hN];simp [hb])⟩) ?_;rw [NY,List.append_nil,←B9];exact Bg
 ·have Mg:(g9∈BG c T∨c.w.heap.size≤g9)∧g9∉N1∧g9∉N2:=by
   rcases h7 with⟨rfl,_⟩|⟨hg,BY⟩
   ·refine⟨.inr (Nat.le_refl _),fun hh=> ?_,fun hh=> ?_⟩
    ·have:=DF _ (by rw [HT];exact Ag.2 (.inl (QM _ hh)));omega
    ·have:=DF _ (by rw [HT];exact Ag.2 (.inr (NU _ hh)));omega
   ·exact⟨.inl hg,BY,fun hh=>(List.nodup_append.1 Cj).2.2 _ hg _ (NU _ hh) rfl⟩
  have AQ: ∀b∈N1++N2,w'.heap[b]?=c.w.heap[b]?:=fun b hb=>by
   have Am:b<c.w.heap.size:=DF b (by
    rw [HT];rcases Ag.1 hb with hb|hb
    ·exact Ag.2 (.inl (QM b hb))
    ·exact Ag.2 (.inr (NU b hb)))
   refine h6.block b Am fun hh=> ?_;cases hh;rcases Ag.1 hb with hb|hb
   ·exact Mg.2.1 hb
   ·exact Mg.2.2 hb
  refine Ar.eo h hT hU Ef (bD h6 fun g hg=> ?_) (top:=g9::(N1++N2)) ?_ (fun b hb=> ?_) ?_
  ·cases hg;rcases Mg.1 with hh|hh
   ·exact .inl (by rw [HT];exact Ag.2 (.inl hh))
   ·exact .inr hh
  ·refine List.nodup_cons.2 ⟨fun hh=> ?_,List.nodup_append.2 ⟨TH,TJ,fun p hp q hq=> ?_⟩⟩
   ·rcases Ag.1 hh with hh|hh
    ·exact Mg.2.1 hh
    ·exact Mg.2.2 hh
   ·exact(List.nodup_append.1 Cj).2.2 p (QM p hp) q (NU q hq)
  ·rcases Ae.1 hb with rfl|hb
   ·refine⟨?_,EI h3⟩;rcases Mg.1 with hh|hh
    ·exact .inl (by rw [HT];exact Ag.2 (.inl hh))
    ·exact .inr hh
   ·have Yi:b∈BG c (T++us):=by
     rw [HT];rcases Ag.1 hb with hb|hb
     ·exact Ag.2 (.inl (QM b hb))
     ·exact Ag.2 (.inr (NU b hb))
    exact⟨.inl Yi,Nat.lt_of_lt_of_le (DF b Yi) h6.size⟩
  ·rw [NY];have hlen:(xs++ys).length=xs.length+ys.length:=AB;rw [BX]at d1 d2 GG Lh ⊢;have:=DC.row (w:=w') (e:=el) (z:=i.size) (l:=AF.of l) (g:=g9) (cap:=cap) (C:=C) (ys:=xs++ys) (N1:=N1++N2) (ts:= []) (vs:= []) (xs:= []) (N:= []) d1 (by rw [AF.aj];exact d2) h3 (by rw [hlen];exact h1) h2 h4 (fun w hw=> ?_) (by
     rw [hlen,h5];intro u hu;rcases Ag.1 hu with hu|hu
     ·exact Ck u hu
     ·exact UK u hu) (by
     rw [hlen,h5,VI,tZ,AF.aj];exact(iV.app T8).frame AQ) .nil
   ·rw [hlen]at this;simpa using this
   ·rcases Ag.1 hw with hw|hw
    ·exact GG w hw
    ·exact Lh w hw
end
section
variable {P:Program} {c:Cx} {n nx:Nat} {sl sl0:Nat→SV} {hp hp0:Nat→Option Af} {a:Act} {o:Oper} {gs:Gd} {e:AK} {sg:Bo} {nv:Nat}
theorem qA {l:List Nat} (h:Jq l=true):l.Nodup:=MU h
theorem nR (h:A1 P c n nx sl hp a sl0 hp0 o gs) {x y:Operand} {tx ty:TypeId} {cl:Call} (ho:o.op= .call cl) (Aw:cl.callee= .builtin .append) (Cz:cl.args.toList= [x,y]) (Dz:cl.argTypes.toList= [tx,ty])
  {s1 s2:SV} (Bj:Bk sl0 gs x=some s1) (AL:Bk sl0 gs y=some s2) (he:Sm P hp0 gs nx tx ty s1 s2=some e) (hc: ∀q∈e.bc,Cn.den c.ρ q):Ar P o c n nx sl hp gs a e:=by
 have Ao:cl.args= #[x,y]:=by apply Array.ext';simp [Cz]
 have Dj:x∈o.op.operands:=by simp [ho,Op.operands,Call.operands,Aw,Ao]
 have CZ:y∈o.op.operands:=by simp [ho,Op.operands,Call.operands,Aw,Ao]
 unfold Sm at he;split at he
 ·cases he
 rename_i Lb;have Lb:tx=ty:=by simpa using Lb
 subst Lb;split at he
 ·rename_i el e' z dl A7 CX;have KL:=Ik A7;split at he
  ·cases he
  rename_i At;simp only [not_or,Bool.not_eq_true',Bool.not_eq_false,Bool.not_eq_true,ne_eq,Decidable.not_not]at At;obtain⟨hz,EZ,rfl,rfl⟩:=At;obtain⟨_,_,l,JR,Dh⟩:=SO A7 CX;simp only [DT.row.injEq,true_and]at JR;subst JR;rw [AF.aj]at he;have r1:=h.bz Bj Dj;split at he
  ·rename_i ye us hy BK;have hU: ∀u∈us,∃g,c.K u g:=(ZW h.eh h.gs BK (h.bz AL CZ) hy).choose_spec.choose_spec.choose_spec.choose_spec.choose_spec.2.2.2.2.2.2.2;have Ld:us.Nodup:=by
    unfold Qm at BK;split at BK
    ·simp only [Ac]at BK;subst BK;simp
    ·simp only [Ac]at BK;subst BK;simp
    ·split at BK
     ·split at BK
      ·simp only [Ac]at BK;subst BK;simp
      ·cases BK
     ·cases BK
    ·cases BK
   have Rb:0<P.cellsOf e':=by obtain⟨i,_,_,_,_,h1,h2,_⟩:=I9 hz;omega
   split at he
   ·rename_i t g;split at he
    ·rename_i e2 z2 l2 g2 ep c0 hl;split at he
     ·rename_i hh;obtain⟨rfl,rfl,hb,rfl,D0⟩:=hh;have hb:=AF.fm hb;subst hb;simp only [Ac]at he;subst he;obtain⟨q1,q2,q3,q4,q5⟩:=h.eh t _ (Cm hl h.gs);generalize hv:a.eval x=v at r1;cases r1 with
      |own k1 k2 _=>rw [k2]at q4;simp only [Bool.not_eq_true',List.contains_eq_mem,decide_eq_false_iff_not]at D0;exact VU h ho Aw Cz Dz KL hz Dh (T:= [t]) (by simpa using List.nodup_cons.2 ⟨D0,Ld⟩) (fun u hu=>by simp at hu;subst hu;exact⟨_,k1⟩) AL hy BK hv q4 (by simp [BG]) (hc _ (by simp))
     ·cases he
    ·cases he
   ·simp only [Ac]at he;subst he;generalize hv:a.eval x=v at r1;cases r1 with
    |emp _=>exact VU h ho Aw Cz Dz KL hz Dh (T:= []) (by simpa using Ld) (by simp) AL hy BK hv (c0:= .lst .nil) (.void Rb (by rw [AF.aj];exact Dh) .nil) rfl (hc _ (by simp))
   ·simp only [Ac]at he;subst he;generalize hv:a.eval x=v at r1;cases r1 with
    |bb _=>exact VU h ho Aw Cz Dz KL hz Dh (T:= []) (by simpa using Ld) (by simp) AL hy BK hv (c0:= .lst .nil) (.void Rb (by rw [AF.aj];exact Dh) .nil) rfl (hc _ (by simp))
   ·cases he
  ·cases he
 ·cases he
theorem Ar.ej (h:A1 P c n nx sl hp a sl0 hp0 o []) {T:List Nat} (hT:T.Nodup) (Fe: ∀u∈T,∃g,c.K u g) {ck:List Cn} {el z:Nat} {l:List DT} (hz:0<z) (hl:l.length=z) {x:E} {xs:List AV} {C:Array Value} {cap:Nat} (hx:x.den c.ρ= .sl xs) (Aw: ∀y∈xs,y.cells.length=z) (hle:xs.length≤cap) (KH:cap≤maxLen) (hC:C.size=cap*z)
  (h1: ∀u∈C.toList.take (xs.length*z),u.oneCell'=true) (hD:DC c.w (Cv xs.length l) (C.toList.take (xs.length*z)) (Ay xs) (BG c T))
  (hr:(execOp a.eval o).run P c.w= .ok (.value (.slice (some ⟨c.w.heap.size,0,none⟩) xs.length cap)) (c.w.alloc (.cells C el))):
  Ar P o c n nx sl hp [] a {bc:=ck,val:= .own nx 0,aw:=(nx, .deep el z l 0 0 x)::D8 T}:=by
 have DF: ∀b∈BG c T,b<c.w.heap.size:=fun b hb=>by obtain⟨t,_,B3⟩:=MR.1 hb;exact h.rel.gw.inb t b (by simp [GI.own,B3])
 have AO:(c.w.alloc (.cells C el)).heap[c.w.heap.size]?=some (.cells C el (0,0)):=heap_alloc_new c.w _;have Ug:c.w.grownBy (c.w.alloc (.cells C el)) (some c.w.heap.size):=⟨rfl,rfl,rfl,by simp,fun j hj _=>Below.heap_alloc c.w _ _ hj⟩
 refine Ar.eo h hT Fe hr (bD Ug fun g hg=> .inr (by cases hg;exact Nat.le_refl _)) (top:=c.w.heap.size::BG c T) ?_ (fun b hb=> ?_) ?_
 ·exact List.nodup_cons.2 ⟨fun hh=>by have:=DF _ hh;omega,R4 h.rel.gw hT⟩
 ·rcases Ae.1 hb with rfl|hb
  ·exact⟨.inr (Nat.le_refl _),by simp⟩
  ·exact⟨.inl hb,Nat.lt_of_lt_of_le (DF b hb) (by simp)⟩
 ·rw [hx];have:=DC.row (w:=c.w.alloc (.cells C el)) (e:=el) (z:=z) (l:=AF.of l) (g:=c.w.heap.size) (cap:=cap) (C:=C) (ys:=xs) (N1:=BG c T) (ts:= []) (vs:= []) (xs:= []) (N:= []) hz (by rw [AF.aj];exact hl) AO hle KH hC Aw h1 (by
   rw [AF.aj];exact hD.frame fun b hb=>Below.heap_alloc c.w _ _ (DF b hb)) .nil
  simpa using this
theorem mZ (h:A1 P c n nx sl hp a sl0 hp0 o gs) {t:TypeId} {m:Nat} {parts:Array (Nat × Operand)} (ho:o.op= .buildSlice t m parts) {ps:List (Nat × SV)} (JX:parts.toList.mapM (fun(p:Nat × Operand)=>(Bk sl0 gs p.2).map fun s=>(p.1,s))=some ps) (he:SC P hp0 gs nx t m ps=some e) (hc: ∀q∈e.bc,Cn.den c.ρ q):Ar P o c n nx sl hp gs a e:=by
 obtain⟨e1,e2⟩:=Sv (c:=c) (a:=a) (parts.toList.map (·.2)) (fun x s hx hm=>h.bz hx (by simpa [ho,Op.operands]using hm)) (fun x hx=>List.mem_map.2 ⟨x,hx,rfl⟩) JX;unfold SC at he;split at he
 ·rename_i el e' zz dl Hq CX;have A7:=Ik Hq;split at he
  ·cases he
  rename_i At;simp only [not_or,Bool.not_eq_true',Bool.not_eq_false',ne_eq,Bool.not_eq_false,Bool.not_eq_true,Nat.not_lt,Decidable.not_not]at At;obtain⟨hz,EZ,rfl,rfl,AZ,As,hle,DB⟩:=At;obtain⟨_,_,l,JR,Dh⟩:=SO Hq CX;simp only [DT.row.injEq,true_and]at JR;subst JR;rw [AF.aj]at he;have As:Ai P e'=true∨P.cellsOf e'=1:=by simpa using As
  obtain⟨i,z,hi,ES,C4,BA,BX,Ff⟩:=I9 hz;split at he
  ·rename_i xs us ck OV;split at he
   ·rename_i BF;simp only [Ac]at he;subst he;obtain⟨p1,p5,p6,p7,p8⟩:=Zr h.eh h.gs Dh As (ps.map (·.2)) (parts.toList.map fun p=>a.eval p.2) e2 OV hc;have hlen:(parts.toList.map fun p=>a.eval p.2).length=m:=by
     have:ps.length=m:=by have:=congrArg List.length DB;simpa using this
     have h9:=congrArg List.length e1;simp at h9 ⊢;omega
    have FL:(parts.map fun(x:Nat × Operand)=>(x.1,a.eval x.2)).toList=((parts.toList.map fun p=>a.eval p.2).zipIdx 0).map fun p=>(p.2,p.1):=by
     have KS:parts.toList.map (·.1)=List.range m:=by rw [←e1,DB]
     apply List.ext_getElem?;intro j;have hj:(parts.toList.map (·.1))[j]?=(List.range m)[j]?:=by rw [KS]
     simp only [Array.toList_map,List.getElem?_map,List.getElem?_zipIdx]at hj ⊢;cases hp:parts.toList[j]? with
     |none=>simp
     |some p=>
      rw [hp]at hj;simp only [Option.map_some,Ac]at hj ⊢;have Uu:j<m:=by
       rcases Nat.lt_or_ge j m with hh|hh
       ·exact hh
       ·rw [List.getElem?_eq_none (by simpa using hh)]at hj;cases hj
      rw [List.getElem?_range Uu]at hj;simp at hj;simp [hj]
    obtain⟨C',f1,f2⟩:=Wi (sz:=i.size) (fun j=>some (j*i.size,i.size)) (fun j=>rfl) (parts.toList.map fun p=>a.eval p.2) 0 ((Array.range (m*i.size)).map (fun j=>(if m*i.size=0 then #[]else z.cells)[j % (if m*i.size=0 then #[]else z.cells).size]!)) [] _ (by simp;rfl) (by simp) (by simp [hlen]) (fun v hv=>by rw [←BX];exact(p5 v hv).1);have C7:C'.toList.length=m*P.cellsOf e':=by
     rw [f2,BX];simp only [List.nil_append];have: ∀(L:List Value),(∀v∈L,v.cells.size=i.size)→(L.flatMap fun v=>v.cells.toList).length=L.length*i.size:=by
      intro L
      induction L with
      |nil=>intro _;simp
      |cons v L ih=>intro hL;simp only [List.flatMap_cons,AB,AD,Array.length_toList];rw [ih (fun u hu=>hL u (by simp [hu])),hL v (by simp),Nat.add_mul];omega
     rw [this _ (fun v hv=>by rw [←BX];exact(p5 v hv).1),hlen]
    have HG:(xs.map (E.den c.ρ)).length=m:=by rw [List.length_map,p7,hlen]
    have B8:C'.toList.take ((xs.map (E.den c.ρ)).length*P.cellsOf e')=(parts.toList.map fun p=>a.eval p.2).flatMap fun v=>v.cells.toList:=by rw [HG,←C7,List.take_length,f2];simp
    refine Ar.ej h (qA BF) p8 (by omega) Dh (xs:=xs.map (E.den c.ρ)) (C:=C') (cap:=m) (by simp [E.den,EL.cr]) (fun y hy=> ?_) (by omega) (by simp only [maxLen];have:m*1≤m*P.cellsOf e':=Nat.mul_le_mul_left _ (by omega);omega) (by rw [←Array.length_toList,C7]) ?_ ?_ ?_
    ·obtain⟨q,hq,rfl⟩:=List.mem_map.1 hy;exact p6 q hq
    ·rw [B8];intro u hu;obtain⟨v,hv,hu⟩:=List.mem_flatMap.1 hu;exact(p5 v hv).2 u hu
    ·rw [B8,HG,←hlen];exact p1
    ·rw [HG];have AH:=Ze (P:=P) A7 AZ hi ES BX m (by rw [←BX];omega) (parts.map fun(x:Nat × Operand)=>(x.1,a.eval x.2)) C' (by rw [FL];exact f1) c.w;simp only [execOp,ho,Sem.run_bind];rw [AH];rfl
   ·cases he
  ·cases he
 ·cases he
theorem V6 {w:World}: ∀{ds:List DT} {ss:List SV} {vs:List Value},LX ds ss=true→SR c ss vs→ ∀{xs:EL} {m:Nat},BR hp0 gs m ss=some xs→DC w ds vs (xs.den c.ρ) []
 | [], [],vs,_,hs,xs,m,hx=>by
  cases hs;cases m with
  |zero=>simp [BR]at hx
  |succ m=>simp [BR]at hx;subst hx;exact .nil
 | [],_::_,_,h,_,_,_,_=>by simp [LX]at h
 |_::_, [],_,h,_,_,_,_=>by simp [LX]at h
 |d::ds,s::ss, [],h,hs,_,_,_=>by have:=hs.len;simp at this
 |d::ds,s::ss,v::vs,h,hs,xs,m,hx=>by
  obtain⟨j,y,ys,rfl,hy,CH,rfl⟩:=Il hx;obtain⟨r1,r2⟩:=hs.bd;simp only [LX,Ad]at h;have ih:=V6 (w:=w) h.2 r2 CH;unfold fQ at h;obtain⟨h1,_⟩:=h;split at h1
  ·rename_i y';rw [EL.den,Is hy];cases r1 with
   |e g1 g2 _=>
    cases y'<;>simp [QE]at h1
    ·cases g1 with
     |int hk _=>exact .flat (.int hk .nil) ih
    ·cases g1 with
     |bool _=>exact .flat (.bool .nil) ih
    ·rename_i s0;generalize hq:(E.str s0).den c.ρ=q at g1;cases g1 with
     |str hk _=>exact .flat (.str hk .nil) ih
     |_=>simp [E.den]at hq
  ·simp only [Ad,decide_eq_true_eq,beq_iff_eq]at h1;rw [EL.den,Ja hy];cases r1 with
   |bb _=>exact .void h1.1 h1.2 ih
  ·cases h1
theorem DC.rep {w:World} {ds:List DT} {vs:List Value} {xs:List AV} (h:DC w ds vs xs []): ∀k,DC w (Cv k ds) (List.replicate k vs).flatten (List.replicate k xs).flatten []
 |0=>by simpa [Cv]using DC.nil
 |k+1=>by rw [LF,List.replicate_succ,List.flatten_cons,List.replicate_succ,List.flatten_cons];simpa using h.app (DC.rep h k)
theorem oO (h:A1 P c n nx sl hp a sl0 hp0 o gs) {t:TypeId} {l m:Operand} (ho:o.op= .makeSlice t l m) {s1 s2:SV} (Bj:Bk sl0 gs l=some s1) (AL:Bk sl0 gs m=some s2) (he:SP P hp0 gs nx t s1 s2=some e) (hc: ∀q∈e.bc,Cn.den c.ρ q):Ar P o c n nx sl hp gs a e:=by
 have Dj:l∈o.op.operands:=by simp [ho,Op.operands]
 have CZ:m∈o.op.operands:=by simp [ho,Op.operands]
 unfold SP at he;split at he
 ·rename_i el e' zz dl x y Hq CX;have A7:=Ik Hq;split at he
  ·cases he
  rename_i At;simp only [not_or,Bool.not_eq_true',Bool.not_eq_false',ne_eq,Bool.not_eq_false,Bool.not_eq_true,Decidable.not_not]at At;obtain⟨hz,EZ,rfl,rfl,FO,Uh⟩:=At;have Uh:gs= []:=by simpa using Uh
  subst Uh;obtain⟨_,_,dl',JR,Dh⟩:=SO Hq CX;simp only [DT.row.injEq,true_and]at JR;subst JR;rw [AF.aj]at he;obtain⟨i,z,hi,ES,C4,BA,BX,Ff⟩:=I9 hz;have r1:=h.bz Bj Dj;have r2:=h.bz AL CZ;have ival: ∀{x:E} {kk:IntKind} {k:Int} {v:Value},SR c [.e x] [v]→x.den c.ρ= .int kk k→v= .int kk k:=by
   intro x kk k v hr hx;cases hr with
   |e h1 _ _=>exact(Fo h1 hx).1
  split at he
  ·rename_i s hs;have hs:DU z=some s:=by simpa [hi,ES]using hs
   split at he
   ·rename_i Re;obtain⟨w,hw,rfl⟩:=Ak.1 he;obtain⟨kk,k,hk,h0,hb,hle⟩:Cn.den c.ρ (.mkroom x (P.bytesOf e')):=Bw hc;have Eh:=ival r1 hk;have CM:=ival r2 (by rw [←E.af c.ρ _ _ FO];exact hk);have YG:DC c.w dl' z.cells.toList (w.den c.ρ).cells []:=by
     have HC:=Sp (c:=c) hs;unfold fH at Re;cases s with
     |agg cs=>
      obtain⟨k9,l9,hm,jJ,rfl⟩:=PY hw;cases HC with
      |agg h9 h1 h8=>have:=V6 (w:=c.w) Re h1 jJ;simpa [Value.cells,AV.cells,E.den]using this
     |bb=>
      have A7:BR hp0 [] (AI+1) [.bb]=some (.cons w .nil):=by unfold BR;rw [hw];rfl
      have:=V6 (w:=c.w) Re HC A7;rw [Ja hw]at this ⊢;cases HC with
      |bb _=>simpa [Value.cells,AV.cells,E.den,EL.den]using this
     |_=>cases Re
    obtain⟨c1,c2⟩:=V5 (w:=c.w) (ρ:=c.ρ) hs hw;obtain⟨kn,rfl⟩:=Int.eq_ofNat_of_zero_le h0;have CW:(i.bytes:Int)*(kn:Int)≤281474976710656:=by rw [Ff]at hb;rw [Int.mul_comm];omega
    have hlen:=c1.len;have QY:=RR z.cells (by omega) kn;have AH:=run_make (P:=P) c.w t e' i z A7 hi ES kk kk kn kn (by omega) (Int.le_refl _) CW (by omega);have Eg:(madeCells z.cells (kn*z.cells.size)).size=kn*P.cellsOf e':=by rw [size_madeCells,C4,BX]
    have B8:(madeCells z.cells (kn*z.cells.size)).toList.take ((List.replicate kn (w.den c.ρ)).length*P.cellsOf e')=(List.replicate kn z.cells.toList).flatten:=by rw [List.length_replicate,List.take_of_length_le (by rw [Array.length_toList,Eg];exact Nat.le_refl _),QY]
    have Ea:Ay (List.replicate kn (w.den c.ρ))=(List.replicate kn (w.den c.ρ).cells).flatten:=by
     clear AH Eg B8 QY hb hle CW hk Eh CM h0 hc
     induction kn with
     |zero=>rfl
     |succ k ih=>simp only [List.replicate_succ,Ay,List.flatMap_cons,List.flatten_cons]at ih ⊢;rw [ih]
    refine Ar.ej (T:= []) h (by simp) (by simp) (by omega) Dh (xs:=List.replicate kn (w.den c.ρ)) (C:=madeCells z.cells (kn*z.cells.size)) (cap:=kn) (by simp [E.den,hk,AV.rep]) (fun u hu=> ?_) (by simp) (by simp only [maxLen];omega) Eg ?_ ?_ ?_
    ·rw [List.eq_of_mem_replicate hu,←hlen,Array.length_toList,C4,BX]
    ·rw [B8];intro u hu;obtain⟨q,hq,hu⟩:=List.mem_flatten.1 hu;rw [List.eq_of_mem_replicate hq]at hu;exact c2 u hu
    ·rw [B8,List.length_replicate,Ea];exact YG.rep kn
    ·simp only [execOp,ho,Eh,CM,Sem.run_bind,Int.ofNat_eq_natCast,List.length_replicate];rw [AH,C4];rfl
   ·cases he
  ·cases he
 ·cases he
end
section
variable {P:Program} {c:Cx} {n nx:Nat} {sl sl0:Nat→SV} {hp hp0:Nat→Option Af} {a:Act} {o:Oper} {gs:Gd} {e:AK} {sg:Bo} {nv:Nat}
theorem ZF {α:Type} (cs vs:List α) (o:Nat):setVs cs o vs=cs.take o++(vs++cs.drop (o+vs.length)):=by simp [setVs]
theorem DC.setVs {w:World} {ts:List DT} {L V:List Value} {X Y:List AV} {N1 N2 M:List Nat} {p:Nat} (h1:DC w (ts.take p) (L.take p) (X.take p) N1) (h2:DC w (ts.drop (p+V.length)) (L.drop (p+V.length)) (X.drop (p+V.length)) N2) (k:DC w ((ts.drop p).take V.length) V Y M):
  DC w ts (Go.Proofs.YtollgpkegmbpmaaGreatDoor.setVs L p V) (Go.Proofs.YtollgpkegmbpmaaGreatDoor.setVs X p Y) (N1++(M++N2)):=by
 have hk:=k.len;have ht:ts=ts.take p++((ts.drop p).take V.length++ts.drop (p+V.length)):=by rw [←List.drop_drop,List.take_append_drop,List.take_append_drop]
 rw [ZF,ZF];have hl:Y.length=V.length:=by omega
 rw [hl];have:=h1.app (k.app h2);rw [←ht]at this;exact this
theorem aE (h:A1 P c n nx sl hp a sl0 hp0 o []) {t:TypeId} {x y:Operand} (ho:o.op= .store t x y) {b g:Nat} {ix:E} {sz k:Nat} {s:SV} (r1:SR c [.bt b g ix sz k] [a.eval x]) (r2:SR c [s] [a.eval y]) {el:Nat} {l:List DT} {ep:Nat} {c0:E} (hK:c.K b g) (Dk: ∀g',c.K b g'→g'≤g) (hE:c.E b=ep)
  (AZ:CG P t=true) (hle:k+P.cellsOf t≤sz) (Ep:Ai P el=true∨(sz=1∧Ai P t=false)) (Df:Ai P t=true∨P.cellsOf t=1)
  {xe:E} {us:List Nat} {ck:List Cn} (BK:Ni P hp0 [] t ((l.drop k).take (P.cellsOf t)) s=some (xe,us,ck)) (IN: ∀q∈ck,q.den c.ρ) (BF:us.Nodup) (hb:b∉us)
  (BZ: ∀(kk:IntKind) (kv:Int),ix.den c.ρ= .int kk kv→ ∃(m cap:Nat) (C:Array Value) (ys:List AV) (N1 N2:List Nat),c.H b g= .slice (some ⟨m,0,none⟩) ys.length cap∧c0.den c.ρ= .sl ys∧0<sz∧l.length=sz∧c.w.heap[m]?=some (.cells C el (0,0))∧ys.length≤cap∧cap≤maxLen∧C.size=cap*sz∧(∀y∈ys,y.cells.length=sz)∧(∀w∈C.toList.take (ys.length*sz),w.oneCell'=true)∧
   (m::(N1++N2)).Nodup∧(∀q∈m::(N1++N2),q∈(c.G b).top)∧DC c.w ((Cv ys.length l).take (kv.toNat*sz+k)) ((C.toList.take (ys.length*sz)).take (kv.toNat*sz+k)) ((Ay ys).take (kv.toNat*sz+k)) N1∧
   DC c.w ((Cv ys.length l).drop (kv.toNat*sz+k+P.cellsOf t)) ((C.toList.take (ys.length*sz)).drop (kv.toNat*sz+k+P.cellsOf t)) ((Ay ys).drop (kv.toNat*sz+k+P.cellsOf t)) N2):
  Ar P o c n nx sl hp [] a {bc:=ck,aw:=(b, .deep el sz l g (ep+1) (.set c0 ix (.put (.idx c0 ix) k xe (Ai P el))))::D8 us}:=by
 generalize hv:a.eval x=v at r1;cases r1 with
 |bt k1 k2 k3 k4 k5 k6=>
  rename_i m0 len cap0 kk kv;obtain⟨m,cap,C,ys,N1,N2,p1,p2,p3,p4,p5,p6,p7,p8,p9,p10,p11,p12,p13,p14⟩:=BZ kk kv k3;rw [k2]at p1;cases p1;have Et:kv.toNat<ys.length:=by omega
  have hmul:(kv.toNat+1)*sz≤ys.length*sz:=Nat.mul_le_mul_right _ (by omega);have EW:ys.length*sz≤cap0*sz:=Nat.mul_le_mul_right _ p6;rw [Nat.add_mul]at hmul;have C7:C.toList.length=cap0*sz:=by simpa using p8
  obtain⟨q1,q2,q3,q4,q5,q6⟩:=ZG h.eh h.gs (by rw [List.length_take,List.length_drop,p4];omega) Df BK r2 IN;have E1:=Ko Et;generalize G7:(AV.sl ys).nth kv.toNat=yk at E1;have Ex:=p9 yk (List.mem_of_getElem? E1);have Dn:(a.eval y).cells.toList.length=P.cellsOf t:=by simpa using q4
  obtain⟨m1,m2,m3⟩:=RZ (vs:=(a.eval y).cells.toList) p5 (show(kv.toNat*sz+k)+_≤C.size by rw [Dn,p8];omega);have KX:(C.toList.take (ys.length*sz)).length=ys.length*sz:=by rw [List.length_take,C7];omega
  have F7:m0∈(c.G b).top:=p12 _ (by simp);have I5: ∀q∈BG c us,q∉(c.G b).top:=fun q hq hh=>by obtain⟨u,hu,UY⟩:=MR.1 hq;exact h.rel.gw.bq u b (fun hh=>hb (hh▸hu)) q (by simp [GI.own,UY]) (by simp [GI.own,hh])
  have JO: ∀q∈BG c us,q<c.w.heap.size:=fun q hq=>by obtain⟨u,_,UY⟩:=MR.1 hq;exact h.rel.gw.inb u q (by simp [GI.own,UY])
  have JN: ∀q∈(c.G b).top,q<c.w.heap.size:=fun q hq=>h.rel.gw.inb b q (by simp [GI.own,hq]);have AQ: ∀q,q∈BG c us∨(q∈N1++N2)→(Cq c.w m0 (kv.toNat*sz+k) (a.eval y).cells.toList).heap[q]?=c.w.heap[q]?:=fun q hq=>by
   refine m1.block q ?_ ?_
   ·rcases hq with hq|hq
    ·exact JO q hq
    ·exact JN q (p12 q (by simp [Ag.1 hq]))
   ·simp only [List.mem_singleton];rintro rfl;rcases hq with hq|hq
    ·exact I5 _ hq F7
    ·exact(List.nodup_cons.1 p11).1 hq
  have hz:(yk.cj k (xe.den c.ρ) (Ai P el)).cells=setVs yk.cells k (xe.den c.ρ).cells:=by
   refine Wk ?_ (fun hg=> ?_)
   ·cases hg:Ai P el with
    |true=>exact .inr rfl
    |false=>
     left;rcases Ep with h'|⟨_,h'⟩
     ·rw [hg]at h';cases h'
     ·rw [h']at q5;exact fun cs=>(q5.1 cs)
   ·rcases Ep with h'|⟨h1,h'⟩
    ·rw [hg]at h';cases h'
    ·rw [h']at q5;have Oe:P.cellsOf t=1:=by rcases Df with h2|h2;rw [h']at h2;cases h2;exact h2
     refine⟨by omega,by omega, ?_⟩;cases Ve:xe.den c.ρ<;>first|rfl|exact absurd Ve (q5.1 _)
  have DD:Ay (ys.set kv.toNat (yk.cj k (xe.den c.ρ) (Ai P el)))=setVs (Ay ys) (kv.toNat*sz+k) (xe.den c.ρ).cells:=
   SG ys _ _ yk k _ p9 E1 (by rw [q3];exact hle) hz
  have FC:((Cv ys.length l).drop (kv.toNat*sz+k)).take (P.cellsOf t)=(l.drop k).take (P.cellsOf t):=by rw [←p4];exact Px l _ _ _ _ Et (by omega)
  have AH:(execOp a.eval o).run P c.w= .ok .skip (Cq c.w m0 (kv.toNat*sz+k) (a.eval y).cells.toList):=by have:=VY (P:=P) (t:=t) (v:=a.eval y) (off:=kv.toNat*sz+k) p5 AZ q4 (by rw [q4,p8];omega) q2;simp [execOp,ho,hv,this]
  refine Ar.jm h BF q6 hb hK Dk hE AH (hs:=(c.G b).top++BG c us) (fun q hq=>Ag.1 hq) ⟨m1.os,m1.tape,m1.output,m1.size,fun q hq hn=>m1.block q hq fun hh=>hn (by simp only [List.mem_singleton]at hh;subst hh;exact Ag.2 (.inl F7))⟩
   (top:=m0::(N1++(BG c us++N2))) ?_ (fun q hq=> ?_) ?_
  ·have jR:=R4 h.rel.gw BF;rw [List.nodup_cons,List.nodup_append]at p11;obtain⟨n1,n2,n3,n4⟩:=p11;have a1: ∀q∈BG c us,q∉N1∧q∉N2∧q≠m0:=fun q hq=>⟨fun hh=>I5 q hq (p12 q (by simp [hh])),fun hh=>I5 q hq (p12 q (by simp [hh])),fun hh=>I5 q hq (hh▸F7)⟩
   rw [List.nodup_cons,List.nodup_append,List.nodup_append];refine⟨fun hh=> ?_,n2,⟨jR,n3,fun p hp q hq Q2=>(a1 p hp).2.1 (Q2▸hq)⟩,fun p hp q hq Q2=> ?_⟩
   ·simp only [Ag]at hh n1;rcases hh with hh|hh|hh
    ·exact n1 (.inl hh)
    ·exact(a1 _ hh).2.2 rfl
    ·exact n1 (.inr hh)
   ·rcases Ag.1 hq with hq|hq
    ·exact(a1 q hq).1 (Q2▸hp)
    ·exact n4 p hp q hq Q2
  ·have:q∈(c.G b).top∨q∈BG c us:=by
    simp only [Ae,Ag]at hq;rcases hq with rfl|hq|hq|hq
    ·exact .inl F7
    ·exact .inl (p12 q (by simp [hq]))
    ·exact .inr hq
    ·exact .inl (p12 q (by simp [hq]))
   refine⟨.inl (Ag.2 this),Nat.lt_of_lt_of_le ?_ m1.size⟩;rcases this with hh|hh
   ·exact JN q hh
   ·exact JO q hh
  ·have Bz:(E.set c0 ix (.put (.idx c0 ix) k xe (Ai P el))).den c.ρ= .sl (ys.set kv.toNat (yk.cj k (xe.den c.ρ) (Ai P el))):=by
    simp only [E.den,p2,k3,AV.idx,G7,AV.cg]
   rw [Bz,k2];have Dh:(ys.set kv.toNat (yk.cj k (xe.den c.ρ) (Ai P el))).length=ys.length:=List.length_set;have:=DC.row (w:=Cq c.w m0 (kv.toNat*sz+k) (a.eval y).cells.toList) (e:=el) (z:=sz) (l:=AF.of l) (g:=m0) (cap:=cap0) (ys:=ys.set kv.toNat (yk.cj k (xe.den c.ρ) (Ai P el))) (N1:=N1++(BG c us++N2)) (ts:= []) (vs:= []) (xs:= []) (N:= []) p3 (by rw [AF.aj];exact p4) m2 (by rw [Dh];exact p6) p7 (by rw [List.size_toArray,MQ _ _ _ (by rw [Dn,C7];omega),Array.length_toList];exact p8) (fun w hw=> ?_) ?_ ?_ .nil
   ·rw [Dh]at this;simpa using this
   ·rcases List.mem_or_eq_of_mem_set hw with hw|rfl
    ·exact p9 w hw
    ·rw [hz,MQ _ _ _ (by rw [q3,Ex];exact hle)];exact Ex
   ·simp only [Dh,List.toList_toArray];rw [MT _ _ _ _ (by rw [Dn];omega) (by rw [C7];omega)];intro u hu;unfold setVs at hu;simp only [Ag]at hu;rcases hu with(hu|hu)|hu
    ·exact p10 u (List.mem_of_mem_take hu)
    ·exact q2 u hu
    ·exact p10 u (List.mem_of_mem_drop hu)
   ·simp only [Dh,List.toList_toArray];rw [MT _ _ _ _ (by rw [Dn];omega) (by rw [C7];omega),DD,AF.aj];refine DC.setVs (p13.frame fun q hq=>AQ q (.inr (by simp [hq]))) ?_ ?_
    ·rw [Dn];exact p14.frame fun q hq=>AQ q (.inr (by simp [hq]))
    ·rw [Dn,FC];exact q1.frame fun q hq=>AQ q (.inl hq)
theorem nF (h:A1 P c n nx sl hp a sl0 hp0 o gs) {t:TypeId} {x y:Operand} (ho:o.op= .store t x y) {b g:Nat} {ix:E} {sz k:Nat} {s:SV} (Bg: ¬ ∃e z g c d,Cy hp0 gs b=some (.row e z g c d)) (hx:Bk sl0 gs x=some (.bt b g ix sz k)) (hy:Bk sl0 gs y=some s)
  (he:Kh P hp0 gs t (.bt b g ix sz k) s=some e) (hc: ∀q∈e.bc,Cn.den c.ρ q):Ar P o c n nx sl hp gs a e:=by
 have r1:=h.bz hx (by simp [ho,Op.operands]);have r2:=h.bz hy (by simp [ho,Op.operands]);simp only [Kh]at he;split at he
 ·rename_i hl;exact absurd ⟨_,_,_,_,_,hl⟩ Bg
 ·rename_i el sz' l g' ep c0 hl;split at he
  ·rename_i hh;obtain⟨rfl,rfl,rfl,AZ,hle,Ep,Df⟩:=hh;split at he
   ·rename_i xe us ck BK;split at he
    ·cases he
    rename_i D0;simp only [Bool.or_eq_true,Bool.not_eq_true',not_or,Bool.not_eq_false,Bool.not_eq_true,List.contains_eq_mem,decide_eq_false_iff_not]at D0;simp only [Ac]at he;subst he;obtain⟨e1,e2,e3,e4,e5⟩:=h.eh b _ (Cm hl h.gs);refine aE h ho r1 r2 e1 e2 e3 AZ hle (by simpa using Ep) Df BK hc (MU D0.1) D0.2 fun kk kv Ov=> ?_;generalize a.eval x=v at r1;cases r1 with
    |bt k1 k2 k3 k4 k5 _=>
     rw [k3]at Ov;cases Ov;obtain⟨d1,d2,⟨a9,d3,_⟩|⟨g9,cap9,C,ys,N,d3,d4,d5,d6,d7,d8,d9,d10,d11,d12⟩⟩:=e4.inv
     ·rw [k2]at d3;cases d3;omega
     ·rw [AF.aj]at d2 d12;obtain⟨N1,N2,N3,rfl,s1,s2,s3⟩:=d12.split (kv.toNat*sz+k) (P.cellsOf t);have BF:=h.rel.gw.nodup b;simp only [GI.own,e5,List.append_nil,d5]at BF;refine⟨g9,cap9,C,ys,N1,N3,d3,d4,d1,d2,d6,d7,d8,d9,d10,d11, ?_,fun q hq=> ?_,s1,s3⟩
      ·refine List.Sublist.nodup (List.Sublist.cons_cons _ ?_) BF;rw [List.append_assoc];exact List.Sublist.append (List.Sublist.refl _) (List.sublist_append_right _ _)
      ·rw [d5];simp only [Ae,Ag]at hq ⊢;rcases hq with hq|hq|hq
       ·exact .inl hq
       ·exact .inr (.inl (.inl hq))
       ·exact .inr (.inr hq)
   ·cases he
  ·cases he
 ·rename_i el sz' l g' ep c0 i' o' u' hl;split at he
  ·rename_i hh;obtain⟨rfl,rfl,rfl,AZ,rfl,jB,hle,Oe,Df,Ep⟩:=hh;have Df:Ai P t=false:=by simpa using Df
   split at he
   ·rename_i xe us ck BK;split at he
    ·cases he
    rename_i D0;simp only [Bool.or_eq_true,Bool.not_eq_true',not_or,Bool.not_eq_false,Bool.not_eq_true,List.contains_eq_mem,decide_eq_false_iff_not]at D0;simp only [Ac]at he;subst he;obtain⟨e1,e2,e3,⟨m,cap,C,ys,kk,kv,N1,N2,p1,p2,p3,p4,p5,p6,p7,p7',p8,p9,p10,p11,p12,p13,p14,p15,p16,p17,p18⟩,e5⟩:=h.eh b _ (Cm hl h.gs);refine aE h ho r1 r2 e1 e2 e3 AZ (by omega) (Ep.imp id fun hh=>⟨hh,Df⟩) (.inr Oe) (by rw [Oe];exact BK) hc (MU D0.1) D0.2 fun kk' kv' Ov=> ?_;rw [E.af c.ρ _ _ jB,p3]at Ov;cases Ov;have BF:=h.rel.gw.nodup b;simp only [GI.own,e5,List.append_nil,p14]at BF;exact⟨m,cap,C,ys,N1,N2,p1,p2,p7,p7',p8,p9,p10,p11,p12,p13,BF,fun q hq=>by rw [p14];exact hq,p17,by rw [Oe];exact p18⟩
   ·cases he
  ·cases he
 ·cases he
end
section
variable {P:Program} {c:Cx} {n nx:Nat} {sl sl0:Nat→SV} {hp hp0:Nat→Option Af} {a:Act} {o:Oper} {gs:Gd} {e:AK} {sg:Bo} {nv:Nat}
theorem bG {w:World} {ety sz:Nat} {p:Option Addr} {m r:Nat} {x:AV} {top N:List Nat} (h:Co w ety sz (.slice p m r) x top N): ∃xs,x= .sl xs∧xs.length=m∧m≤r∧0<sz∧(∀y∈xs,y.cells.length=sz)∧
  ((xs= []∧m=0∧r=0∧top= []∧N= [])∨ ∃g C,p=some ⟨g,0,none⟩∧r≤maxLen∧w.heap[g]?=some (.cells C ety (0,0))∧C.size=r*sz∧top= [g]∧(∀u∈C.toList.take (m*sz),u.oneCell'=true)∧Rd w (C.toList.take (m*sz)) (Ay xs) N):=by
 obtain⟨xs,rfl,h2,h3,⟨rfl,⟨a,hv⟩,rfl,rfl⟩|⟨g,cap',C,hv,h6,h7,h8,h9,rfl,EG,EN⟩⟩:=h
 ·cases hv;exact⟨[],rfl,rfl,Nat.le_refl _,h3,by simp, .inl ⟨rfl,rfl,rfl,rfl,rfl⟩⟩
 ·cases hv;exact⟨xs,rfl,rfl,h6,h3,h2, .inr ⟨g,C,rfl,h7,h8,h9,rfl,EG,EN⟩⟩
theorem oQ (h:A1 P c n nx sl hp a sl0 hp0 o gs) {t:TypeId} {x:Operand} {lo hi mx:Option Operand} (ho:o.op= .slice t x lo hi mx) {s:SV} (hs:Bk sl0 gs x=some s) {l' h' m':Option SV} (Bi:H7 (Bk sl0 gs) lo=some l') (JL:H7 (Bk sl0 gs) hi=some h') (EU:H7 (Bk sl0 gs) mx=some m') (he:SM P hp0 gs t s l' h' m'=some e) (hc: ∀q∈e.bc,Cn.den c.ρ q):Ar P o c n nx sl hp gs a e:=by
 have hm:x∈o.op.operands:=by simp [ho,Op.operands]
 have KY: ∀y,lo=some y→y∈o.op.operands:=fun y hy=>by simp [ho,Op.operands,hy]
 have IZ: ∀y,hi=some y→y∈o.op.operands:=fun y hy=>by simp [ho,Op.operands,hy]
 have hx:=h.bz hs hm;have ival: ∀{x:E} {kk:IntKind} {k:Int} {v:Value},SR c [.e x] [v]→x.den c.ρ= .int kk k→v= .int kk k:=by
  intro x kk k v hr hx;cases hr with
  |e h1 _ _=>exact(Fo h1 hx).1
 have ex:(execOp a.eval o).run P c.w=((Instr.sliceAt t (a.eval x) (lo.map a.eval) (hi.map a.eval) (mx.map a.eval)).run P c.w).andThen fun v w=> .ok (.value v) w:=by simp [execOp,ho]
 unfold SM at he;split at he
 ·rename_i el0 b g A7;have hu:=Ik A7;split at he
  ·cases he
  rename_i AZ;have AZ:CG P el0=true:=by simpa using AZ
  have KZ:mx=none:=by
   rcases HX EU with⟨hh,_⟩|⟨_,_,_,_,hh⟩
   ·exact hh
   ·cases hh
  subst KZ;split at he
  ·rename_i el z g' c0 d hl;split at he
   ·cases he
   rename_i At;simp only [not_or,Decidable.not_not,ne_eq]at At;obtain⟨rfl,rfl,rfl⟩:=At;obtain⟨q1,q2,N,q3,q4,q5,q6⟩:=h.eh b _ (Cm hl h.gs);generalize hv:a.eval x=v at hx ex;cases hx with
   |own k1 k2 k3=>
    rename_i p m r;rw [k2]at q3;obtain⟨xs,B9,HG,OB,BA,Aw,AW⟩:=bG q3;split at he
    ·rename_i l;simp only [Ac]at he;subst he;obtain⟨ka,ai,kb,bi,mm,d1,d2,d3,d4,d5,d6⟩:Cn.den c.ρ (.win c0 l (.len c0)):=Bw hc;have UH:mm=(m:Int):=by rw [B9]at d3;simp only [AV.len,AV.int.injEq,true_and]at d3;omega
     obtain⟨an,rfl⟩:=Int.eq_ofNat_of_zero_le d4;obtain⟨ol,BD,hol⟩: ∃ol,lo=some ol∧Bk sl0 [] ol=some (.e l):=by
      rcases HX Bi with⟨_,hh⟩|⟨ol,sl',KQ,Uj,Uk⟩
      ·cases hh
      ·cases Uk;exact⟨ol,KQ,Uj⟩
     have KR:hi=none:=by
      rcases HX JL with⟨hh,_⟩|⟨_,_,_,_,hh⟩
      ·exact hh
      ·cases hh
     subst BD;subst KR;have UB:=ival (h.bz hol (KY _ rfl)) d1;have hle:an≤m:=by omega
     have AH:=VD (P:=P) (w:=c.w) (lo:=(some ol).map a.eval) (hi:=(none:Option Operand).map a.eval) hu AZ p m r an m (.inr ⟨ka,by rw [Option.map_some,UB]⟩) (.inl ⟨rfl,rfl⟩) hle (Nat.le_refl _) OB;have:=SR.wown (c:=c) (lo:=l) (sz:=P.cellsOf el) (q':=if r=an then p else p.map (·.add (an*P.cellsOf el))) (r:=r-an) k1 k2 d1 d4 (by omega) (fun Am=>by
      rcases AW with⟨_,Di,_⟩|⟨g9,C,rfl,_⟩
      ·omega
      ·exact⟨g9,rfl,by rw [if_neg (by omega)];simp [Addr.add_lit],by simp⟩) .nil
     refine Ar.pure h (v:=sliced p an m r (P.cellsOf el)) ?_ (by simpa [sliced]using this) rfl;rw [ex];show Result.andThen (Sem.run P (Instr.sliceAt t (.slice p m r) ((some ol).map a.eval) ((none:Option Operand).map a.eval) none) c.w) _=_;rw [AH];rfl
    ·rename_i hb;simp only [Ac]at he;subst he;obtain⟨ka,ai,kb,bi,mm,d1,d2,d3,d4,d5,d6⟩:Cn.den c.ρ (.win c0 (.int .i64 0) hb):=Bw hc;have UH:mm=(m:Int):=by rw [B9]at d3;simp only [AV.len,AV.int.injEq,true_and]at d3;omega
     simp only [E.den,AV.int.injEq]at d1;obtain⟨_,rfl⟩:=d1;obtain⟨bn,rfl⟩:=Int.eq_ofNat_of_zero_le d5;obtain⟨oh,KR,jX⟩: ∃oh,hi=some oh∧Bk sl0 [] oh=some (.e hb):=by
      rcases HX JL with⟨_,hh⟩|⟨ol,sl',KQ,Uj,Uk⟩
      ·cases hh
      ·cases Uk;exact⟨ol,KQ,Uj⟩
     have BD:lo=none:=by
      rcases HX Bi with⟨hh,_⟩|⟨_,_,_,_,hh⟩
      ·exact hh
      ·cases hh
     subst BD;subst KR;have UB:=ival (h.bz jX (IZ _ rfl)) d2;have hle:bn≤m:=by omega
     have AH:=VD (P:=P) (w:=c.w) (lo:=(none:Option Operand).map a.eval) (hi:=(some oh).map a.eval) hu AZ p m r 0 bn (.inl ⟨rfl,rfl⟩) (.inr ⟨kb,by rw [Option.map_some,UB]⟩) (Nat.zero_le _) hle OB;have B7:sliced p 0 bn r (P.cellsOf el)= .slice p bn r:=by
      unfold sliced;rcases AW with⟨_,_,rfl,_⟩|⟨g9,C,rfl,_⟩
      ·simp
      ·split<;>simp [Addr.add_lit]
     rw [B7]at AH;have Ef:(execOp a.eval o).run P c.w= .ok (.value (.slice p bn r)) c.w:=by rw [ex];show Result.andThen (Sem.run P (Instr.sliceAt t (.slice p m r) ((none:Option Operand).map a.eval) ((some oh).map a.eval) none) c.w) _=_;rw [AH];rfl
     have AO: ¬c.K b (g+1):=fun hk=>by have:=q2 _ hk;omega
     have Aj:=h.rel;have CY:=Aj.ak (gs:= []) (t:=b) (g:=g+1) (w':=c.w) (row:=(c.G b).top.head?) (top:=(c.G b).top) (O:=if d=true then(c.G b).O else []) (v:= .slice p bn r) (.inr (by omega)) AO ⟨rfl,rfl,rfl,Nat.le_refl _,fun _ _ _=>rfl⟩ (fun g0 DZ=> .inl (List.mem_of_mem_head? DZ)) (by
       rcases AW with⟨_,_,_,ht,_⟩|⟨g9,C,_,_,_,_,ht,_⟩
       ·exact .inl ht
       ·exact .inr ⟨g9,by rw [ht];rfl,ht⟩) (by split;exact .inr rfl;exact .inl rfl)
      (.row el (P.cellsOf el) (g+1) (.win c0 (.int .i64 0) hb) d) (by intros;simp) (DS _) (fun Fg=>by
       have I7:(E.win c0 (.int .i64 0) hb).den c.ρ= .sl (xs.take bn):=by simp only [E.den,B9,d2,AV.win];simp
       obtain⟨N',Ba,QN⟩: ∃N',Co c.w el (P.cellsOf el) (.slice p bn r) (.sl (xs.take bn)) (c.G b).top N'∧ ∀q∈N',q∈N:=by
        rcases AW with⟨rfl,Di,rfl,ht,rfl⟩|⟨g9,C,rfl,Dk,QR,hC,ht,h1,CL⟩
        ·have:bn=0:=by omega
         subst this;exact⟨[],⟨[],by simp,by simp,BA, .inl ⟨rfl,⟨p,rfl⟩,ht,rfl⟩⟩,by simp⟩
        ·obtain⟨N',TG,CC⟩:=CL.piece 0 (bn*P.cellsOf el);have Mk:(xs.take bn).length=bn:=by rw [List.length_take];omega
         have hmul:bn*P.cellsOf el≤m*P.cellsOf el:=Nat.mul_le_mul_right _ hle;have ef:=WG xs Aw 0 bn (Nat.zero_le _) (by omega);simp only [Nat.zero_mul,Nat.sub_zero,List.drop_zero]at ef CC;rw [ef,List.take_take,Nat.min_eq_left hmul]at CC;refine⟨N',⟨xs.take bn,rfl,fun y hy=>Aw y (List.mem_of_mem_take hy),BA, .inr ⟨g9,r,C,by rw [Mk],by rw [Mk];omega,Dk,QR,hC,ht, ?_, ?_⟩⟩,TG⟩
         ·rw [Mk];intro u hu;refine h1 u ?_;have:C.toList.take (bn*P.cellsOf el)=(C.toList.take (m*P.cellsOf el)).take (bn*P.cellsOf el):=by rw [List.take_take,Nat.min_eq_left hmul]
          rw [this]at hu;exact List.mem_of_mem_take hu
         ·rw [Mk];exact CC
       refine⟨.inr ⟨rfl,rfl⟩,fun g'' KO=> ?_,N', ?_,fun q hq=>Fg.ok q (Ba.kt q hq) (q4 q (QN q hq)),fun hd=> ?_,fun hd=>by simp [Cx.ak,hd]⟩
       ·rcases KO with KO|⟨_,rfl⟩
        ·have:=q2 _ KO;omega
        ·exact Nat.le_refl _
       ·have e1:(c.ak b (g+1) c.w (.slice p bn r) (c.G b).top (if d=true then(c.G b).O else [])).H b (g+1)= .slice p bn r:=by simp [Cx.ak]
        have e2:((c.ak b (g+1) c.w (.slice p bn r) (c.G b).top (if d=true then(c.G b).O else [])).G b).top=(c.G b).top:=by simp [Cx.ak]
        rw [e1,e2];show Co c.w el (P.cellsOf el) _ ((E.win c0 (.int .i64 0) hb).den c.ρ) _ N';rw [I7];exact Ba
       ·obtain⟨u1,u2⟩:=q5 hd;have u1:N= []:=u1;subst u1;have KE:N'= []:=List.eq_nil_iff_forall_not_mem.2 fun q hq=>by simpa using QN q hq
        subst KE;exact⟨rfl,by simp only [Cx.ak,if_true,hd];exact u2⟩)
     intro next Q hk
     unfold Oper.wp;rw [Ef,Oper.upon_value];refine hk _ (c.ak b (g+1) c.w (.slice p bn r) (c.G b).top (if d=true then(c.G b).O else [])) ⟨rfl,rfl,rfl,rfl,fun u hu=> ?_⟩ (CY.put (SR.mkGd (c:=c.ak b (g+1) c.w (.slice p bn r) (c.G b).top (if d=true then(c.G b).O else [])) (s:= .own b (g+1)) (v:= .slice p bn r) (.own (show _∨_ from .inr ⟨rfl,rfl⟩) (by simp [Cx.ak]) .nil) []) o.dst);rcases hu with hu|rfl
     ·exact .inl hu
     ·exact .inl (h.rel.a7 _ _ k1)
    ·cases he
  ·cases he
 ·cases he
theorem nE (z:Array Value) (hz:0<z.size) (k:Nat):(Builtin.zeroCells z k).toList=(List.replicate k z.toList).flatten:=by have:=RR z hz k;rw [←this];rfl
theorem qT (h:A1 P c n nx sl hp a sl0 hp0 o gs) {x:Operand} {tx:TypeId} {cl:Call} (ho:o.op= .call cl) (Aw:cl.callee= .builtin .clear) (Cz:cl.args.toList= [x]) (Dz:cl.argTypes.toList= [tx]) {s:SV} (hs:Bk sl0 gs x=some s) (he:WT P hp0 gs tx s=some e) (hc: ∀q∈e.bc,Cn.den c.ρ q):Ar P o c n nx sl hp gs a e:=by
 have Ao:cl.args= #[x]:=by apply Array.ext';simp [Cz]
 have FM:cl.argTypes= #[tx]:=by apply Array.ext';simp [Dz]
 have hm:x∈o.op.operands:=by simp [ho,Op.operands,Call.operands,Aw,Ao]
 have hx:=h.bz hs hm;unfold WT at he;split at he
 ·rename_i el0 b g l z A7;have hu:=Ik A7;split at he
  ·rename_i el z' g' c0 d hl;split at he
   ·cases he
   rename_i At;simp only [not_or,Bool.not_eq_true',Bool.not_eq_false,Decidable.not_not,ne_eq]at At;obtain⟨rfl,rfl,rfl,rfl,hz,As⟩:=At;have As:Ai P el=true∨P.cellsOf el=1:=by simpa using As
   obtain⟨i,zv,hi,ES,C4,BA,BX,Ff⟩:=I9 hz;split at he
   ·rename_i q hq;split at he
    ·rename_i w hw;have hq:DU zv=some q:=by simpa [hi,ES]using hq
     simp only [Ac]at he;subst he;obtain⟨c1,c2⟩:=V5 (w:=c.w) (ρ:=c.ρ) hq hw;have AG:=Ji h.hp (Cm hl h.gs);obtain⟨q1,q2,N,q3,q4,q5,q6⟩:=h.rel.ents b _ AG;generalize hv:a.eval x=v at hx;cases hx with
     |wown k1 k2 k3 k4 k5 k6 k7=>
      rename_i p m r q' r' kk kv;rw [k2]at q3;obtain⟨xs,B9,HG,OB,U7,KI,AW⟩:=bG q3;have KJ:(E.bin .sub (.len c0) l).den c.ρ≠ .undef:=hc (.dfd (.bin .sub (.len c0) l)) (by simp);have JP:kk= .i64:=by
       simp only [E.den,B9,AV.len,k3,AV.bin]at KJ;split at KJ
       ·rename_i hh;rcases hh with hh|hh|hh
        ·exact hh.symm
        ·cases hh
        ·cases hh
       ·exact absurd rfl KJ
      subst JP;have Bz:(E.bin .sub (.len c0) l).den c.ρ= .int .i64 ((m:Int)-kv):=by
       simp only [E.den,B9,AV.len,k3,AV.bin,true_or,if_true,BM,HG];congr 1;have jP:(m:Int)≤9223372036854775807:=by
        rcases AW with⟨_,h0,_⟩|⟨_,_,_,Dk,_⟩
        ·omega
        ·have:maxLen=9223372036854775807:=rfl;omega
       exact(LQ .i64 _).2 ⟨by simp [IntKind.min,IntKind.signed,IntKind.bits];omega,by simp [IntKind.max,IntKind.signed,IntKind.bits];omega⟩
      have AO:(E.app (.win c0 (.int .i64 0) l) (.rep (.bin .sub (.len c0) l) w)).den c.ρ= .sl (xs.take kv.toNat++List.replicate (m-kv.toNat) (w.den c.ρ)):=by
       have e1:(E.win c0 (.int .i64 0) l).den c.ρ= .sl (xs.take kv.toNat):=by simp only [E.den,B9,k3,AV.win];simp
       have e2:(E.rep (.bin .sub (.len c0) l) w).den c.ρ= .sl (List.replicate (m-kv.toNat) (w.den c.ρ)):=by show AV.rep ((E.bin .sub (.len c0) l).den c.ρ) (w.den c.ρ)=_;rw [Bz];simp only [AV.rep];congr 2;omega
       show AV.app _ _=_;rw [e1,e2];rfl
      have ex:(execOp a.eval o).run P c.w=((Builtin.clear_ #[tx] o.type #[.slice q' (m-kv.toNat) r']).run P c.w).andThen fun v w=> .ok (.value v) w:=by simp [execOp,ho,resolve,Aw,Ao,FM,invoke,builtin,hv]
      rcases Nat.eq_or_lt_of_le (show kv.toNat≤m by omega)with heq|Am
      ·
       have Bl:m-kv.toNat=0:=by omega
       have AH:(execOp a.eval o).run P c.w= .ok (.value (.tuple #[])) c.w:=by rw [ex,Bl];cases q'<;>simp [Builtin.clear_,run_underlying hu]
       have AQ:(E.app (.win c0 (.int .i64 0) l) (.rep (.bin .sub (.len c0) l) w)).den c.ρ=c0.den c.ρ:=by rw [AO,B9,Bl];simp [List.take_of_length_le (show xs.length≤kv.toNat by omega)]
       intro next Q hk
       unfold Oper.wp;rw [AH,Oper.upon_value];have CY:Rel c n sl (AR hp [(b, .row el (P.cellsOf el) g (.app (.win c0 (.int .i64 0) l) (.rep (.bin .sub (.len c0) l) w)) d)]) a:=by
        have C3: ∀u,AR hp [(b, .row el (P.cellsOf el) g (.app (.win c0 (.int .i64 0) l) (.rep (.bin .sub (.len c0) l) w)) d)] u=if u=b then some (.row el (P.cellsOf el) g (.app (.win c0 (.int .i64 0) l) (.rep (.bin .sub (.len c0) l) w)) d)else hp u:=fun u=>rfl;refine h.rel.change (fun u=>u=b) (CU.refl c) h.rel.base (fun u hu=>⟨by rw [C3,if_neg hu],rfl,rfl,fun _ hk=>hk⟩) (fun _ _ _ _=>rfl) (fun u hu=> ?_) h.rel.gw h.rel.a7 (fun u f hf=> ?_)
        ·subst hu;rw [C3,if_pos rfl];refine⟨fun e' hr=> ?_,fun hn=>absurd rfl (hn _)⟩;simp only [BS]at hr;subst hr;exact⟨q1,q2,N,by rw [AQ,k2];exact q3,q4,q5,q6⟩
        ·rw [C3]at hf;split at hf
         ·rename_i hu;subst hu;exact h.rel.a7 _ _ k1
         ·exact h.rel.br u f hf
       exact hk _ c (Kv.refl _ _) (CY.put ((SR.undef .nil).mkGd []) o.dst)
      ·obtain⟨b9,Yv,rfl,rfl⟩:=k6 (by omega);rcases AW with⟨_,h0,_⟩|⟨g9,C,hp',Dk,QR,hC,ht,h1,CL⟩
       ·omega
       rw [Yv]at hp';cases hp';have C7:C.toList.length=r*P.cellsOf el:=by simpa using hC
       have Ys:m*P.cellsOf el≤r*P.cellsOf el:=Nat.mul_le_mul_right _ OB;have Yr:(m-kv.toNat)*P.cellsOf el+kv.toNat*P.cellsOf el=m*P.cellsOf el:=by rw [←Nat.add_mul];congr 1;omega
       have Vk:=nE zv.cells (by omega) (m-kv.toNat);generalize hZ:(List.replicate (m-kv.toNat) zv.cells.toList).flatten=Z at Vk;have KF:Z.length=(m-kv.toNat)*P.cellsOf el:=by rw [←hZ,List.length_flatten];simp only [List.map_replicate,List.sum_replicate_nat,Array.length_toList,C4,BX]
       have Yh: ∀u∈Z,u.oneCell'=true:=fun u hu=>by rw [←hZ]at hu;obtain⟨L,hL,hu⟩:=List.mem_flatten.1 hu;rw [List.eq_of_mem_replicate hL]at hu;exact c2 u hu
       have I1:=VW (P:=P) (off:=kv.toNat*P.cellsOf el) Z 0 c.w C QR (by rw [KF,hC];omega) Yh;have AH:(execOp a.eval o).run P c.w= .ok (.value (.tuple #[])) (Cq c.w b9 (kv.toNat*P.cellsOf el) Z):=by
        rw [ex];obtain⟨mm,UH⟩: ∃mm,m-kv.toNat=mm+1:=⟨m-kv.toNat-1,by omega⟩
        have kX:(zeroValue el).run P c.w= .ok zv c.w:=by simp [zeroValue,typeInfo,hi,ES]
        simp only [Nat.add_zero]at I1;rw [UH]at Vk ⊢;simp [Builtin.clear_,run_underlying hu,kX,Vk,I1]
       obtain⟨m1,m2,m3⟩:=RZ (off:=kv.toNat*P.cellsOf el) (vs:=Z) QR (by rw [KF,hC];omega);have KX:(C.toList.take (m*P.cellsOf el)).length=m*P.cellsOf el:=by rw [List.length_take,C7];omega
       have J5:b9∈(c.G b).top:=by rw [ht];simp
       have NX:Rd c.w Z (Ay (List.replicate (m-kv.toNat) (w.den c.ρ))) []:=by rw [←hZ];exact Xz c1 _
       obtain⟨n1,n2,n3,hN,s1,s2⟩:=Rd.setVs (p:=kv.toNat*P.cellsOf el) CL NX (by rw [KX,KF];omega);have Lg:(w.den c.ρ).cells.length=P.cellsOf el:=by have:=c1.len;rw [←this];simp [C4,BX]
       have iL:(Ay (List.replicate (m-kv.toNat) (w.den c.ρ))).length=Z.length:=by rw [←NX.len]
       have Ea:setVs (Ay xs) (kv.toNat*P.cellsOf el) (Ay (List.replicate (m-kv.toNat) (w.den c.ρ)))=Ay (xs.take kv.toNat++List.replicate (m-kv.toNat) (w.den c.ρ)):=by
        have ef:=WG xs KI 0 kv.toNat (Nat.zero_le _) (by omega)
        simp only [Nat.zero_mul,Nat.sub_zero,List.drop_zero]at ef;unfold setVs;rw [ef,VI,iL,KF,List.drop_eq_nil_of_le (by rw [Kj _ KI,HG];omega),List.append_nil]
       rw [Ea]at s1;have BZ: ∀q∈n1++ []++n3,q∈N:=fun q hq=>by rw [hN];simp at hq ⊢;rcases hq with hq|hq<;>simp [hq]
       have Es: ∀q,q<c.w.heap.size→c.ok q→(Cq c.w b9 (kv.toNat*P.cellsOf el) Z).heap[q]?=c.w.heap[q]?:=by intro q hq Au;refine m1.block q hq ?_;simp only [List.mem_singleton];rintro rfl;exact Au.1 ⟨b,J5⟩
       have Dh:(xs.take kv.toNat++List.replicate (m-kv.toNat) (w.den c.ρ)).length=m:=by rw [AB,List.length_take,List.length_replicate];omega
       have CY:=h.rel.ir (t:=b) (b:=b9) (w':=Cq c.w b9 (kv.toNat*P.cellsOf el) Z) (O:=if d=true then(c.G b).O else []) AG J5 (by split;exact .inr rfl;exact .inl rfl) m1 m3
        (.row el (P.cellsOf el) g (.app (.win c0 (.int .i64 0) l) (.rep (.bin .sub (.len c0) l) w)) d) (by intros;simp) (fun Fg=>by
         refine⟨q1,q2,n1++ []++n3, ?_,fun q hq=>Fg.ok q (CL.inb q (BZ q hq)) (q4 q (BZ q hq)),fun hd=> ?_,fun hd=>by simp [Cx.eg,hd]⟩
         ·show Co (Cq c.w b9 (kv.toNat*P.cellsOf el) Z) el (P.cellsOf el) (c.H b g) ((E.app (.win c0 (.int .i64 0) l) (.rep (.bin .sub (.len c0) l) w)).den c.ρ) _ _;rw [AO,k2,Yv];refine⟨_,rfl,fun y hy=> ?_,U7, .inr ⟨b9,r,_,by rw [Dh],by rw [Dh];exact OB,Dk,m2, ?_,by simpa [Cx.eg]using ht, ?_, ?_⟩⟩
          ·rcases Ag.1 hy with hy|hy
           ·exact KI y (List.mem_of_mem_take hy)
           ·rw [List.eq_of_mem_replicate hy];exact Lg
          ·rw [List.size_toArray,MQ _ _ _ (by rw [KF,C7];omega),Array.length_toList];exact hC
          ·simp only [Dh,List.toList_toArray];rw [MT _ _ _ _ (by rw [KF];omega) (by rw [C7];omega)];intro u hu;unfold setVs at hu;simp only [Ag]at hu;rcases hu with(hu|hu)|hu
           ·exact h1 u (List.mem_of_mem_take hu)
           ·exact Yh u hu
           ·exact h1 u (List.mem_of_mem_drop hu)
          ·simp only [Dh,List.toList_toArray];rw [MT _ _ _ _ (by rw [KF];omega) (by rw [C7];omega)];exact s1.frame fun q hq=>Es q (CL.inb q (BZ q hq)) (q4 q (BZ q hq))
         ·obtain⟨u1,u2⟩:=q5 hd;have u1:N= []:=u1;subst u1;have KE:n1++ []++n3= []:=List.eq_nil_iff_forall_not_mem.2 fun q hq=>by simpa using BZ q hq
          rw [KE];exact⟨rfl,by simp only [Cx.eg,if_true,hd];exact u2⟩)
       intro next Q hk
       unfold Oper.wp;rw [AH,Oper.upon_value];exact hk _ (c.eg _ b _) ⟨rfl,rfl,rfl,rfl,fun t ht=> .inl ht⟩ (CY.put ((SR.undef .nil).mkGd []) o.dst)
    ·cases he
   ·cases he
  ·cases he
 ·cases he
end
section
variable {P:Program} {c:Cx} {n nx:Nat} {sl sl0:Nat→SV} {hp hp0:Nat→Option Af} {a:Act} {o:Oper} {gs:Gd} {e:AK} {sg:Bo} {nv:Nat}
theorem Xr {w:World}: ∀(vs:List Value) {xs:List AV} {f:List Nat} (ts:List TypeId),Rd w vs xs f→ts.length≤vs.length→CQ P w ts [] [] vs xs f [] []
 | [],xs,f,ts,h,hl=>by have:ts= []:=List.eq_nil_of_length_eq_zero (by simpa using hl);subst this;cases h;exact .nil
 |v::vs, [],f,ts,h,hl=>by have:=h.len;simp at this
 |v::vs,x::xs,f,ts,h,hl=>by
  obtain⟨f1,f2,rfl,h1,h2⟩:=h.bd;cases ts with
  |nil=>exact .free h1 (Xr vs [] h2 (by simp))
  |cons t ts=>exact CQ.cons (h:= []) ⟨h1,rfl⟩ (Xr vs ts h2 (by simpa using hl))
theorem vM (l:EL):EL.of (Nd.go l)=l:=by
 induction l using EL.rec (motive_1:=fun _=>True)with
 |nil=>rfl
 |cons e es _ ih=>simp [Nd.go,EL.of,ih]
 |_=>trivial
theorem uS {w:World} {ts:List TypeId} {vs:List Value} {Bs:List AV} {f o:List Nat} (h:C5 P w ts [] vs Bs f o):Bs= []:=by
 have key: ∀(ts:List TypeId),Be ts []=false:=by
  intro ts
  induction ts with
  |nil=>rfl
  |cons t ts ih=>simp only [Be,List.headD_nil,Bool.false_or,List.tail_nil];exact ih
 exact(Wb h).2 (key ts)
theorem rH (t:TypeId):Ft P t []=false:=by simp [Ft]
theorem Zs (h:A1 P c n nx sl hp a sl0 hp0 o gs) {cl:Call} {fo:Operand} (ho:o.op= .call cl) (Aw:cl.callee= .value fo) {y:E} {sf:SV} (hf:Bk sl0 gs fo=some sf) (kE: ∀v,SR c [sf] [v]→ ∃f,Rd c.w [v] [y.den c.ρ] f) {as_:List SV} (has:cl.args.toList.mapM (Bk sl0 gs)=some as_) {t:TypeId}
  (he:Nd P hp0 gs nv t y as_=some e) (AS: ∀c',e.call=some c'→ ∃r,c.ρ[nv]?=some r∧GN (Cd P sg) c'.fn ((EL.of c'.args).den c.ρ) c.ρ r):Ar P o c n nx sl hp gs a e:=by
 have UE:fo∈o.op.operands:=by simp [ho,Op.operands,Call.operands,Aw]
 have UD: ∀x∈cl.args.toList,x∈o.op.operands:=fun x hx=>by
  have:x∈cl.args:=by simpa using hx
  simp [ho,Op.operands,Call.operands,Aw,this]
 have JZ:=h.bz hf UE;have Ao:=bU (a:=a) (fun x hx s hs=>h.bz hs (UD x hx)) has;unfold Nd at he;split at he
 ·cases he
 split at he
 ·cases he
 rename_i es GB;simp only [Ac]at he;subst he;obtain⟨r,hr,g,caps,hy,HA,D4⟩:=AS _ rfl;rw [vM]at HA;obtain⟨f1,p1,p2⟩:=M4 h.eh h.gs AI GB Ao AI (Nat.le_refl _);generalize Ue:a.eval fo=fv at JZ;obtain⟨_,k1⟩:=kE _ JZ;obtain⟨capv,f2,rfl,T4⟩: ∃capv f2,fv= .func (.func g) #[] capv.toArray∧Rd c.w capv caps f2:=by
  rw [hy]at k1;cases k1 with
  |fn q1 _=>exact⟨_,_,rfl,q1⟩
 have K9:NL P {bj:= [],res:= []} g (es.den c.ρ++caps) r:=by unfold Cd at HA;rw [if_neg (by omega)]at HA;simpa using HA
 obtain⟨fn,FF,C8,EX,_,hlen,_,Er⟩:=K9;have CL:=p1.app T4;have Dn:=CL.len;have AS:=Er c.w _ _ [] [] (Xr _ (fn.params.toList++ []) CL (by rw [Dn,hlen,List.append_nil,Array.length_toList];omega)) (by simp) (by simp) (by simp) (h.rel.la (by simp));have ex:(execOp a.eval o).run P c.w= .ok (.enter g (cl.args.map a.eval++capv.toArray)) c.w:=by
  have hb:fn.body.isNone=false:=by simpa using C8
  simp only [execOp,ho,resolve,Aw,Ue,Deferred.ofValue,Sem.run_bind,Sem.run_pure,Result.andThen_ok,invoke,callFunc,run_program,FF];simp [EX,hb]
 intro next Q hk
 unfold Oper.wp;rw [ex,Oper.upon_enter];have KG:cl.args.map a.eval++capv.toArray=((cl.args.toList.map a.eval)++capv).toArray:=by apply Array.ext';simp
 rw [KG];refine AS.mono ?_;rintro e' w' ⟨v,rfl,⟨R,Bs,f1',o1,f2',o2,I2,AG,D9,FJ,OL,Oi⟩,CB⟩;show next (a.put o.dst v) w'
 have KD:=uS D9;subst KD;simp only at I2;subst I2;have hv:Rd w' [v] [r] []:=by
  unfold IB at AG;split at AG
  ·rename_i t' ht;unfold DO at AG;rw [if_neg (by rw [rH];simp)]at AG;have:=Zn AG.1 D4;subst this;exact AG.1
  ·obtain⟨vs,ys,_,rfl,_⟩:=AG;have:=D4 (.tup ys) (by simp [AV.cells]);simp [AV.scalar]at this
 obtain⟨Ec,_⟩:=h.rel.changes (w':=w') (recs:= []) (hs:= []) (gs:=gs) h.gs CB (by simp) (by simp) (by simp) (by simp) (by simp) (by simp) (by simp);refine hk _ (c.cx w' []) ⟨rfl,rfl,rfl,rfl,fun t ht=> ?_⟩ (Ec.put (SR.mkGd (.e (f:= []) ?_ (by simp) .nil) gs h.gs) o.dst)
 ·rcases ht with ht|⟨r,hr,_⟩
  ·exact .inl ht
  ·simp at hr
 ·show Rd w' [v] [(E.var nv).den c.ρ] [];simp only [E.den,hr,Option.getD_some];exact hv
theorem XF (HB: ∀f s,sg f=some s→f<1000000) (h:A1 P c n nx sl hp a sl0 hp0 o gs) (he:Bc P sg sl0 hp0 nv nx gs o=some e)
  (hc: ∀q∈e.bc,q.den c.ρ) (AS: ∀cl,e.call=some cl→ ∃r,c.ρ[nv]?=some r∧GN (Cd P sg) cl.fn ((EL.of cl.args).den c.ρ) c.ρ r) (Ce: ∀x,e.a8=some x→c.ρ[nv]?=some (.bool (Iu a o))):Ar P o c n nx sl hp gs a e:=by
 have IS:=he;cases Az:o.op with
 |move x=>simp only [Bc,Az,Ak]at he;obtain⟨s,hs,rfl⟩:=he;exact aQ h (.inl Az) hs
 |assign x=>simp only [Bc,Az,Ak]at he;obtain⟨s,hs,rfl⟩:=he;exact aQ h (.inr Az) hs
 |pick x y z=>exact sD h Az he hc
 |alloc t=>exact rA h Az he hc
 |box t x=>exact tT h Az he hc
 |build t parts=>exact qU h Az he hc
 |buildSlice t m parts=>
  simp only [Bc,Az,An]at he;obtain⟨ps,JX,he⟩:=he;split at he
  ·exact mZ h Az JX he hc
  ·exact mR h Az JX he hc
 |load t x=>exact tB h Az he hc
 |nilCheck x=>exact nX h Az he hc
 |makeSlice t l m=>
  simp only [Bc,Az,An]at he;obtain⟨s1,Bj,s2,AL,he⟩:=he;split at he
  ·exact oO h Az Bj AL he hc
  ·exact qD h Az Bj AL he hc
 |slice t x lo hi mx=>
  simp only [Bc,Az,An]at he;obtain⟨s,hs,l',Bi,h',JL,m',EU,he⟩:=he;split at he
  ·exact oQ h Az hs Bi JL EU he hc
  ·exact pR h Az hs Bi JL EU he hc
 |fieldAddr t x f=>exact nA h Az he hc
 |field t x f=>exact qJ h Az he hc
 |extract x i=>exact pH h Az he hc
 |store t x y=>
  simp only [Bc,Az,An]at he;obtain⟨p,hp',v,hv,he⟩:=he;cases p with
  |bg b k=>exact nW h Az hp' hv he hc
  |bt b g i sz k=>
   by_cases Bg: ∃e z g c d,Cy hp0 gs b=some (.row e z g c d)
   ·exact nY h Az Bg hp' hv he hc
   ·exact nF h Az Bg hp' hv he hc
  |_=>simp [Kh]at he
 |binOp op t x y ty=>
  cases hu:P.underlying t with
  |none=>simp only [Bc,Az,An]at he;obtain⟨_,_,_,_,he⟩:=he;simp [Nk,hu]at he
  |some d=>
   by_cases OS: ∃fs,d= .struct fs
   ·obtain⟨fs,rfl⟩:=OS;exact tM h Az hu he hc
   ·have JV: ∀fs,P.underlying t≠some (.struct fs):=fun fs hh=>OS ⟨fs,by rw [hu]at hh;cases hh;rfl⟩;cases hq:e.a8 with
    |none=>exact uI h Az JV he hq hc
    |some x'=>
     have E2:=Ce x' hq;simp only [Bc,Az,An]at he;obtain⟨s1,Bj,s2,AL,he⟩:=he;have r1:=h.bz Bj (by simp [Az,Op.operands]);have r2:=h.bz AL (by simp [Az,Op.operands]);unfold Nk at he;split at he
     ·rename_i el Ew;have B7: ∀xq,A0 hp0 gs AI s1=some xq→Cn.den c.ρ (.dfd (.len xq))→ ∃p q r,a.eval x= .slice p q r:=by
       intro xq HH hd;obtain⟨f,q1,_⟩:=h.jc Bj (by simp [Az,Op.operands]) HH;have hd:(xq.den c.ρ).len≠ .undef:=hd;cases A4:xq.den c.ρ<;>simp only [A4,AV.len,ne_eq,not_true_eq_false]at hd;rename_i xs;have hl:(xq.den c.ρ).len= .int .i64 (xs.length:Int):=by rw [A4];rfl
       rcases M3 q1 hl with⟨p,q,hv,Di⟩|⟨b,o',k,q,hv,Di⟩
       ·exact⟨_,_,_,hv⟩
       ·exact⟨_,_,_,hv⟩
      split at he
      ·simp at he;subst he;cases hq
      ·simp at he;subst he;cases hq
      ·obtain⟨xq,HH,rfl⟩:=Ak.1 he;obtain⟨p,q,r,hv⟩:=B7 xq HH (hc _ (by simp));exact bW h Az Ew hv r2 (.inl rfl) E2 _
      ·obtain⟨xq,HH,rfl⟩:=Ak.1 he;obtain⟨p,q,r,hv⟩:=B7 xq HH (hc _ (by simp));exact bW h Az Ew hv r2 (.inr rfl) E2 _
      ·cases he
     ·split at he
      ·simp at he;subst he;cases hq
      ·cases he
     ·split at he
      ·simp at he;subst he;cases hq
      ·cases he
     ·split at he
      ·simp at he;subst he;cases hq
      ·cases he
     ·rename_i fs Ew;exact absurd Ew (JV fs)
     ·cases he
 |unOp u t x=>
  cases u with
  |not=>exact tR h Az he hc
  |neg=>exact tW h Az he hc
  |_=>simp [Bc,Az]at he
 |convert src dst x=>
  have JF:=he;simp only [Bc,Az,An]at JF;obtain⟨s,_,JF⟩:=JF;unfold P5 at JF;split at JF
  ·rename_i k0 k h1 h2;exact oE h Az h1 h2 he hc
  ·rename_i h1 h2;exact oH h Az h1 h2 he hc
  ·rename_i el h1 h2;exact oC h Az h1 h2 he hc
  ·cases JF
 |makeFunc fr fst caps=>
  cases fr with
  |func f=>exact nT h Az he
  |_=>simp [Bc,Az]at he
 |indexAddr t x i=>refine nC h Az (fun hu=> ?_) he hc;simp only [Bc,Az,An]at he;obtain⟨_,_,_,_,he⟩:=he;simp [Tu,hu]at he
 |index t x i=>
  refine oD h Az ?_ he hc;simp only [Bc,Az,An]at he;obtain⟨_,_,_,_,he⟩:=he;split at he
  ·rename_i Ev;unfold Tu at Ev;split at Ev
   ·assumption
   ·cases Ev
  ·cases he
 |call cl=>
  simp only [Bc,Az]at he;cases Aw:cl.callee with
  |invoke r m=>rw [Aw]at he;simp at he
  |value f=>
   rw [Aw]at he;simp only [An]at he;obtain⟨s,hs,as_,has,he⟩:=he;cases s with
   |fn g caps=>
    have he:Qa P sg hp0 gs nv nx g (as_++caps.toList)=some e:=he;refine tA h Az Aw hs has ?_ he AS;unfold Qa at he;split at he
    ·rename_i fn sg' FF hh;exact HB g sg' hh
    ·cases he
   |e y=>exact Zs h Az Aw hs (fun v hv=>by cases hv with|e k1 _ _=>exact⟨_,k1⟩) has he AS
   |lent i=>exact Zs h Az Aw hs (fun v hv=>by
     cases hv with
     |lent g1 _=>obtain⟨f,p1,p2⟩:=h.rel.base.lo _ _ g1;exact⟨f,p1.frame fun b hb=>h.rel.base.block b (p1.inb b hb) (p2 b hb)⟩) has he AS
   |_=>simp at he
  |builtin b=>
   rw [Aw]at he;cases b with
   |len=>
    simp only at he;split at he
    ·rename_i x tx Cz Dz;exact uU h Az Aw Cz Dz IS hc
    ·cases he
   |append=>
    simp only at he;split at he
    ·rename_i x y tx ty Cz Dz;simp only [An]at he;obtain⟨s1,Bj,s2,AL,he⟩:=he;split at he
     ·exact nR h Az Aw Cz Dz Bj AL he hc
     ·exact oU h Az Aw Cz Dz Bj AL he hc
    ·cases he
   |clear=>
    simp only at he;split at he
    ·rename_i x tx Cz Dz;simp only [An]at he;obtain⟨s,hs,he⟩:=he;exact qT h Az Aw Cz Dz hs he hc
    ·cases he
   |max=>
    simp only at he;split at he
    ·rename_i x y Cz;simp only [An]at he;obtain⟨s1,Bj,s2,AL,he⟩:=he;exact ZI h Az (.inl ⟨rfl,Aw⟩) Cz Bj AL he hc
    ·cases he
   |min=>
    simp only at he;split at he
    ·rename_i x y Cz;simp only [An]at he;obtain⟨s1,Bj,s2,AL,he⟩:=he;exact ZI h Az (.inr ⟨rfl,Aw⟩) Cz Bj AL he hc
    ·cases he
   |_=>simp at he
 |_=>simp [Bc,Az]at he
end
section
variable {P:Program} {c:Cx} {n nx:Nat} {sl sl0:Nat→SV} {hp hp0:Nat→Option Af} {a:Act} {o:Oper} {gs:Gd} {e:AK} {sg:Bo} {nv:Nat}
theorem Rel.gz (h:Rel c n sl hp a) {sl':Nat→SV} (hs: ∀i,sl' i=sl i∨SR c [sl' i] [a.tmps.getD i undef]):Rel c n sl' hp a:=
 ⟨h.defers,h.size,h.base,fun i=>by
  rcases hs i with hh|hh
  ·rw [hh];exact h.ca i
  ·exact hh,h.ents,h.off,h.gw,h.a7,h.br⟩
theorem PB {u:Nat}: ∀{l:List Operand} {t T v m:Nat} {p:E × Nat × Nat} {s:SV},Jj sl0 u l=some (t,T,v,m,p,s)→Operand.tmp t∈l∧((∃y,sl0 t= .via T v m (some p) y∧s= .own u 0)∨ ∃y k z q,sl0 t= .vptr T v m (some p) y k z q∧s= .bt u 0 k z q)
 | [],_,_,_,_,_,_,h=>by simp [Jj]at h
 |x::l,t,T,v,m,p,s,h=>by
  cases x with
  |tmp i=>
   simp only [Jj]at h;split at h
   ·rename_i hs;simp only [Ac,Prod.mk.injEq]at h;obtain⟨rfl,rfl,rfl,rfl,rfl,rfl⟩:=h;exact⟨by simp, .inl ⟨_,hs,rfl⟩⟩
   ·rename_i hs;simp only [Ac,Prod.mk.injEq]at h;obtain⟨rfl,rfl,rfl,rfl,rfl,rfl⟩:=h;exact⟨by simp, .inr ⟨_,_,_,_,hs,rfl⟩⟩
   ·obtain⟨h1,h2⟩:=PB h;exact⟨by simp [h1],h2⟩
  |const v9=>simp only [Jj]at h;obtain⟨h1,h2⟩:=PB h;exact⟨by simp [h1],h2⟩
  |func f=>simp only [Jj]at h;obtain⟨h1,h2⟩:=PB h;exact⟨by simp [h1],h2⟩
  |global g=>simp only [Jj]at h;obtain⟨h1,h2⟩:=PB h;exact⟨by simp [h1],h2⟩
theorem Rel.split (h:Rel c n sl hp a) {T v m u:Nat} {p:E × Nat × Nat} {hl inn:Af} (hs:P3 hp0 T v m u p=some (hl,inn)) (Bl: ∀t e,hp0 t=some e→hp t=some e) (hu: ¬c.U u) {vv:Value} (Hx:c.E T=m→GV c T v (some p) vv):
  ∃recs c1,c1=c.cx c.w recs∧Rel c1 n sl (AR hp [(T,hl),(u,inn)]) a∧CU c c1∧c1.K u 0∧c1.H u 0=vv∧(∃q n r,vv= .slice q n r∧(q=none∨n=0∨ ∃g,q=some ⟨g,0,none⟩))∧(∀t,c1.U t→c.U t∨t=u)∧c.K T v∧c.E T=m∧c1.E T=m+1∧T≠u:=by
 have eh:EH c hp0:=fun t e hr=>h.ents t e (Ji Bl hr);obtain⟨pi,z,po⟩:=p;unfold P3 at hs;split at hs
 ·rename_i e z0 l g ep c0 jM;split at hs
  ·rename_i At;obtain⟨rfl,rfl,Yx⟩:=At;simp only at Yx;subst Yx;split at hs
   ·rename_i e2 z2 l2 BD;simp only [Ac,Prod.mk.injEq]at hs;obtain⟨rfl,rfl⟩:=hs;simp only at BD;obtain⟨q1,q2,q3,q4,q5⟩:=eh T _ (Cm jM (DS _));obtain⟨b,n9,cap,C,ty,fz,kk,k,p1,p2,p3,p4,p5,p6,p7⟩:=Hx q3;obtain⟨d1,d2,⟨a9,d3,_⟩|⟨g9,cap9,C9,ys,N,d3,d4,d5,d6,d7,d8,d9,d10,d11,d12⟩⟩:=q4.inv
    ·rw [p1]at d3;cases d3;omega
    ·rw [p1]at d3;cases d3;rw [d6]at p3;cases p3;rw [AF.aj]at d2 d12;have jZ:po<z:=by
      rcases Nat.lt_or_ge po l.length with hh|hh
      ·omega
      ·rw [List.getElem?_eq_none hh]at BD;cases BD
     have Et:k.toNat<ys.length:=by omega
     have hmul:(k.toNat+1)*z≤ys.length*z:=Nat.mul_le_mul_right _ (by omega);have EW:ys.length*z≤cap*z:=Nat.mul_le_mul_right _ d7;rw [Nat.add_mul]at hmul;have C7:C.toList.length=cap*z:=by simpa using d9
     have Am:k.toNat*z+po<C.size:=by omega
     obtain⟨N1,N2,N3,rfl,s1,s2,s3⟩:=d12.split (k.toNat*z+po) 1;have BT:((C.toList.take (ys.length*z)).drop (k.toNat*z+po)).take 1= [vv]:=by have hv:C[k.toNat*z+po]?=some vv:=p7;rw [List.drop_take,List.take_take,Nat.min_eq_left (by omega),List.drop_eq_getElem_cons (by simpa using Am),List.take_succ_cons,List.take_zero];rw [Array.getElem?_eq_getElem Am]at hv;simpa using hv
     have G7:=Ko Et;generalize Li:(AV.sl ys).nth k.toNat=yk at G7;have Ex:=d10 yk (List.mem_of_getElem? G7);have Ea:((Ay ys).drop (k.toNat*z+po)).take 1= [(E.fld (.idx c0 pi) po 1 false).den c.ρ]:=by rw [PN ys d10 _ _ G7 po 1 (by omega),List.drop_eq_getElem_cons (by omega),List.take_succ_cons,List.take_zero];simp only [E.den,d4,p4,AV.idx,Li,AV.fld];simp [show po<yk.cells.length by omega]
     have AZ:((Cv ys.length l).drop (k.toNat*z+po)).take 1= [.row e2 z2 l2]:=by
      rw [←d2,Px l _ _ _ _ Et (by omega)];have Hu:po<l.length:=by omega
      rw [List.drop_eq_getElem_cons Hu,List.take_succ_cons,List.take_zero];rw [List.getElem?_eq_getElem Hu]at BD;simpa using BD
     rw [BT,Ea,AZ]at s2;have Fe:=h.a7 _ _ q1;have Hm:T≠u:=fun hh=>hu (hh▸Fe);have BF:=h.gw.nodup T;simp only [GI.own,q5,List.append_nil,d5]at BF;have AG: ∀r∈([⟨T,none,b::(N1++N3), .hol e z l g (ep+1) c0 pi po u⟩,⟨u,some vv,N2,if l2.toList.all DT.az then .row e2 z2 0 (.fld (.idx c0 pi) po 1 false) true else .deep e2 z2 l2.toList 0 0 (.fld (.idx c0 pi) po 1 false)⟩]:List AA),r.new.isSome=true→ ¬c.U r.tag:=fun r hr hs=>by
      simp only [Ae,List.not_mem_nil,or_false]at hr;rcases hr with rfl|rfl
      ·cases hs
      ·exact hu
     refine⟨[⟨T,none,b::(N1++N3), .hol e z l g (ep+1) c0 pi po u⟩,⟨u,some vv,N2,if l2.toList.all DT.az then .row e2 z2 0 (.fld (.idx c0 pi) po 1 false) true else .deep e2 z2 l2.toList 0 0 (.fld (.idx c0 pi) po 1 false)⟩],_,rfl, ?_⟩;generalize AX:([⟨T,none,b::(N1++N3), .hol e z l g (ep+1) c0 pi po u⟩,⟨u,some vv,N2,if l2.toList.all DT.az then .row e2 z2 0 (.fld (.idx c0 pi) po 1 false) true else .deep e2 z2 l2.toList 0 0 (.fld (.idx c0 pi) po 1 false)⟩]:List AA)=recs at AG;have hn:(recs.map AA.tag).Nodup:=by rw [←AX];simp [Hm]
     have aft:=Cx.cy (w':=c.w) h.a7 hn AG;have Dj:(⟨T,none,b::(N1++N3), .hol e z l g (ep+1) c0 pi po u⟩:AA)∈recs:=by rw [←AX];simp
     have CZ:(⟨u,some vv,N2,if l2.toList.all DT.az then .row e2 z2 0 (.fld (.idx c0 pi) po 1 false) true else .deep e2 z2 l2.toList 0 0 (.fld (.idx c0 pi) po 1 false)⟩:AA)∈recs:=by rw [←AX];simp
     obtain⟨k1,k2,k3⟩:=aft.new _ CZ vv rfl;have kgT:=aft.G _ Dj;have keT:=aft.fu _ Dj rfl;have kgu:=aft.G _ CZ;have keu:=aft.jb _ CZ rfl;obtain⟨kT1,kT2⟩:=aft.K T g q1;simp only at k1 k2 k3 kgT keT kgu keu;have JW: ∀q,q∈b::(N1++N3)∨q∈N2→q∈(c.G T).top:=fun q hq=>by rw [d5];simp only [Ae,Ag]at hq ⊢;rcases hq with(hq|hq|hq)|hq<;>simp [hq]
     obtain⟨Aj,Bp⟩:=h.changes (recs:=recs) (gs:= []) (hs:=(c.G T).top) (DS _) (Mod.refl _ c.w) hn AG (fun q hq=>⟨_,Dj,hq⟩) (by
       rw [←AX];simp only [List.flatMap_cons,List.flatMap_nil,List.append_nil];rw [List.nodup_cons]at BF;obtain⟨n1,n2⟩:=BF;rw [List.append_assoc,List.nodup_append,List.nodup_append]at n2;obtain⟨a1,⟨a2,a3,a4⟩,a5⟩:=n2;rw [List.cons_append,List.nodup_cons,List.nodup_append,List.nodup_append];refine⟨fun hh=>n1 ?_,⟨a1,a3,fun x hx y hy=>a5 x hx y (Ag.2 (.inr hy))⟩,a2,fun x hx y hy FO=> ?_⟩
       ·simp only [Ag]at hh ⊢;rcases hh with(hh|hh)|hh<;>simp [hh]
       ·rcases Ag.1 hx with hx|hx
        ·exact a5 x hx y (Ag.2 (.inl hy)) FO
        ·exact a4 y hy x hx FO.symm)
      (fun r hr q hq=>by
       have:q∈(c.G T).top:=by
        rw [←AX]at hr;simp only [Ae,List.not_mem_nil,or_false]at hr;rcases hr with rfl|rfl
        ·exact JW q (.inl hq)
        ·exact JW q (.inr hq)
       exact⟨.inl this,h.gw.inb T q (by simp [GI.own,this])⟩)
      (fun r hr=>by
       rw [←AX]at hr;simp only [Ae,List.not_mem_nil,or_false]at hr;rcases hr with rfl|rfl
       ·intros;simp
       ·intros;simp only;split<;>simp)
      (fun hk r hr=>by
       rw [←AX]at hr;simp only [Ae,List.not_mem_nil,or_false]at hr;rcases hr with rfl|rfl
       ·refine⟨kT1,fun g' BY=>q2 g' (aft.old T Fe g' BY),by rw [keT,q3], ?_,by rw [kgT]⟩;rw [kT2,p1,kgT];exact⟨b,cap,C,ys,kk,k,N1,N3,rfl,d4,p4,p5,p6,jZ,d1,d2,d6,d7,d8,d9,d10,d11,rfl,k1,by rw [k3];exact p7,s1,s3⟩
       ·simp only;split
        ·rename_i hf;have Ba:=s2.kz hf;refine⟨k1,k2, [], ?_,by simp,fun _=>⟨rfl,by rw [kgu]⟩,fun _=>by rw [kgu]⟩;rw [k3,kgu];exact Ba
        ·refine⟨k1,k2,keu, ?_,by rw [kgu]⟩;rw [k3,kgu,AF.bw];exact s2)
     refine⟨?_,Bp,k1,k3, ?_,fun t ht=> ?_,q1,q3,by rw [keT,q3],Hm⟩
     ·have:(recs.map fun r=>(r.tag,Cg [] r.aw))= [(T, .hol e z l g (ep+1) c0 pi po u),(u,if l2.toList.all DT.az then .row e2 z2 0 (.fld (.idx c0 pi) po 1 false) true else .deep e2 z2 l2.toList 0 0 (.fld (.idx c0 pi) po 1 false))]:=by
       rw [←AX];simp [Cg]
      rw [this]at Aj;exact Aj
     ·obtain⟨_,_,⟨a9,h1,_⟩|⟨g9,cap9,C9,ys9,N9,h1,_⟩⟩:=s2.inv
      ·exact⟨a9,0,0,h1, .inr (.inl rfl)⟩
      ·exact⟨_,_,_,h1, .inr (.inr ⟨g9,rfl⟩)⟩
     ·rcases ht with ht|⟨r,hr,rfl⟩
      ·exact .inl ht
      ·rw [←AX]at hr;simp only [Ae,List.not_mem_nil,or_false]at hr;rcases hr with rfl|rfl
       ·exact .inl Fe
       ·exact .inr rfl
   ·cases hs
  ·cases hs
 ·cases hs
theorem Rel.close (h:Rel c n sl hp a) {T u:Nat} {hl r d:Af} (hT:hp T=some hl) (hu:hp u=some r) (hr:P6 P hl r=some d) (I6: ∃q1 q2 q3 q4 q5 q6 q7 q8,hl= .hol q1 q2 q3 q4 q5 q6 q7 q8 u) (Hm:T≠u):
  ∃recs c1,c1=c.cx c.w recs∧Rel c1 n sl (AR hp [(T,d),(u, .dead)]) a∧(∀t,c1.U t→c.U t)∧c.E T<c1.E T:=by
 obtain⟨e,z,l,g,ep,c0,i,o',rfl⟩:=I6;have key: ∀(e2 z2:Nat) (l2:AF) (x:E),l[o']?=some (.row e2 z2 l2)→DC c.w [.row e2 z2 l2] [c.H u 0] [x.den c.ρ] (c.G u).top→c.U u→d= .deep e z l g (ep+1) (.set c0 i (.put (.idx c0 i) o' x (Ai P e)))→(Ai P e=false→z=1)→
   ∃recs c1,c1=c.cx c.w recs∧Rel c1 n sl (AR hp [(T,d),(u, .dead)]) a∧(∀t,c1.U t→c.U t)∧c.E T<c1.E T:=by
  rintro e2 z2 l2 x BD Yn QP rfl Gx;obtain⟨q1,q2,q3,⟨b,cap,C,ys,kk,k,N1,N2,p1,p2,p3,p4,p5,p6,p7,p7',p8,p9,p10,p11,p12,p13,p14,p15,p16,p17,p18⟩,q5⟩:=h.ents T _ (by rw [hT];rfl);have Fe:=h.a7 _ _ q1;have Et:k.toNat<ys.length:=by omega
  have hmul:(k.toNat+1)*z≤ys.length*z:=Nat.mul_le_mul_right _ (by omega);have EW:ys.length*z≤cap*z:=Nat.mul_le_mul_right _ p9;rw [Nat.add_mul]at hmul;have C7:C.toList.length=cap*z:=by simpa using p11
  have Am:k.toNat*z+o'<C.size:=by omega
  have G7:=Ko Et;generalize Li:(AV.sl ys).nth k.toNat=yk at G7;have Ex:=p12 yk (List.mem_of_getElem? G7);obtain⟨zs,C4⟩: ∃zs,x.den c.ρ= .sl zs:=by
   obtain⟨_,_,⟨_,_,hx,_⟩|⟨_,_,_,_,_,_,hx,_⟩⟩:=Yn.inv
   ·exact⟨_,hx⟩
   ·exact⟨_,hx⟩
  have GG:(x.den c.ρ).cells= [x.den c.ρ]:=by rw [C4];rfl
  have hz:(yk.cj o' (x.den c.ρ) (Ai P e)).cells=setVs yk.cells o' (x.den c.ρ).cells:=by
   refine Wk ?_ (fun hg=> ?_)
   ·cases hg:Ai P e with
    |true=>exact .inr rfl
    |false=>left;rw [C4];intro cs hh;cases hh
   ·have:=Gx hg;exact⟨by omega,by omega,GG⟩
  have DD:Ay (ys.set k.toNat (yk.cj o' (x.den c.ρ) (Ai P e)))=setVs (Ay ys) (k.toNat*z+o') (x.den c.ρ).cells:=
   SG ys _ _ yk o' _ p12 G7 (by rw [GG];simp;omega) hz
  have FC:((Cv ys.length l).drop (k.toNat*z+o')).take 1= [.row e2 z2 l2]:=by
   rw [←p7',Px l _ _ _ _ Et (by omega)];have Hu:o'<l.length:=by omega
   rw [List.drop_eq_getElem_cons Hu,List.take_succ_cons,List.take_zero];rw [List.getElem?_eq_getElem Hu]at BD;simpa using BD
  have OQ:setVs (C.toList.take (ys.length*z)) (k.toNat*z+o') [c.H u 0]=C.toList.take (ys.length*z):=by
   apply List.ext_getElem?;intro j;have jI:(C.toList.take (ys.length*z)).length=ys.length*z:=by rw [List.length_take,C7];exact Nat.min_eq_left EW
   rw [MW _ _ _ (by rw [jI];show k.toNat*z+o'+1≤_;omega)];split
   ·rename_i hj;simp only [AD,List.length_nil]at hj;have:j=k.toNat*z+o':=by omega
    subst this;rw [Nat.sub_self,List.getElem?_take,if_pos (by omega)];have:=p16;simpa using this.symm
   ·rfl
  have AO:DC c.w [.row e z (AF.of l)] [c.H T g] [(E.set c0 i (.put (.idx c0 i) o' x (Ai P e))).den c.ρ] (b::(N1++((c.G u).top++N2))):=by
   have Bz:(E.set c0 i (.put (.idx c0 i) o' x (Ai P e))).den c.ρ= .sl (ys.set k.toNat (yk.cj o' (x.den c.ρ) (Ai P e))):=by simp only [E.den,p2,p3,AV.idx,Li,AV.cg]
   rw [Bz,p1];have Dh:(ys.set k.toNat (yk.cj o' (x.den c.ρ) (Ai P e))).length=ys.length:=List.length_set;have:=DC.row (w:=c.w) (e:=e) (z:=z) (l:=AF.of l) (g:=b) (cap:=cap) (C:=C) (ys:=ys.set k.toNat (yk.cj o' (x.den c.ρ) (Ai P e))) (N1:=N1++((c.G u).top++N2)) (ts:= []) (vs:= []) (xs:= []) (N:= []) p7 (by rw [AF.aj];exact p7') p8 (by rw [Dh];exact p9) p10 p11 (fun w hw=>by
     rcases List.mem_or_eq_of_mem_set hw with hw|rfl
     ·exact p12 w hw
     ·rw [hz,MQ _ _ _ (by rw [GG,Ex];simp;omega)];exact Ex) (by rw [Dh];exact p13) (by
     rw [Dh,AF.aj,DD,←OQ];refine DC.setVs p17 ?_ ?_
     ·exact p18
     ·rw [Bm,FC,GG];exact Yn) .nil
   rw [Dh]at this;simpa using this
  have yG:=q1;have AG: ∀r∈([⟨T,none,b::(N1++((c.G u).top++N2)), .deep e z l g (ep+1) (.set c0 i (.put (.idx c0 i) o' x (Ai P e)))⟩,⟨u,none, [], .dead⟩]:List AA),r.new.isSome=true→ ¬c.U r.tag:=fun r hr hs=>by simp only [Ae,List.not_mem_nil,or_false]at hr;rcases hr with rfl|rfl<;>cases hs
  refine⟨[⟨T,none,b::(N1++((c.G u).top++N2)), .deep e z l g (ep+1) (.set c0 i (.put (.idx c0 i) o' x (Ai P e)))⟩,⟨u,none, [], .dead⟩],_,rfl, ?_⟩;generalize AX:([⟨T,none,b::(N1++((c.G u).top++N2)), .deep e z l g (ep+1) (.set c0 i (.put (.idx c0 i) o' x (Ai P e)))⟩,⟨u,none, [], .dead⟩]:List AA)=recs at AG;have hn:(recs.map AA.tag).Nodup:=by rw [←AX];simp [Hm]
  have aft:=Cx.cy (w':=c.w) h.a7 hn AG;have Dj:(⟨T,none,b::(N1++((c.G u).top++N2)), .deep e z l g (ep+1) (.set c0 i (.put (.idx c0 i) o' x (Ai P e)))⟩:AA)∈recs:=by rw [←AX];simp
  have CZ:(⟨u,none, [], .dead⟩:AA)∈recs:=by rw [←AX];simp
  have kgT:=aft.G _ Dj;have keT:=aft.fu _ Dj rfl;have kgu:=aft.G _ CZ;obtain⟨kT1,kT2⟩:=aft.K T g q1;simp only at kgT keT kgu;have BZ: ∀q,q∈b::(N1++((c.G u).top++N2))→q∈(c.G T).top∨q∈(c.G u).top:=fun q hq=>by rw [p14];simp only [Ae,Ag]at hq ⊢;rcases hq with hq|hq|hq|hq<;>simp [hq]
  have K0:=h.gw.nodup T;simp only [GI.own,q5,List.append_nil,p14]at K0;have UN:(c.G u).top.Nodup:=by have:=h.gw.nodup u;simp only [GI.own]at this;exact(List.nodup_append.1 this).1
  have ER: ∀q∈(c.G u).top,q∉b::(N1++N2):=fun q hq hh=>h.gw.bq u T (Ne.symm Hm) q (by simp [GI.own,hq]) (by rw [←p14]at hh;simp [GI.own,hh]);obtain⟨Aj,Bp⟩:=h.changes (recs:=recs) (gs:= []) (hs:=(c.G T).top++(c.G u).top) (DS _) (Mod.refl _ c.w) hn AG (fun q hq=>by
    rcases Ag.1 hq with hq|hq
    ·exact⟨_,Dj,hq⟩
    ·exact⟨_,CZ,hq⟩) (by
    rw [←AX];simp only [List.flatMap_cons,List.flatMap_nil,List.append_nil];rw [List.nodup_cons,List.nodup_append]at K0;obtain⟨n1,a1,a2,a3⟩:=K0;rw [List.nodup_cons,List.nodup_append,List.nodup_append];refine⟨fun hh=> ?_,a1,⟨UN,a2,fun x hx y hy FO=>ER x hx (by rw [FO];simp [hy])⟩,fun x hx y hy FO=> ?_⟩
    ·simp only [Ag]at hh n1;rcases hh with hh|hh|hh
     ·exact n1 (.inl hh)
     ·exact ER b hh (by simp)
     ·exact n1 (.inr hh)
    ·rcases Ag.1 hy with hy|hy
     ·exact ER y hy (by rw [←FO];simp [hx])
     ·exact a3 x hx y hy FO)
   (fun r hr q hq=>by
    have:q∈(c.G T).top∨q∈(c.G u).top:=by
     rw [←AX]at hr;simp only [Ae,List.not_mem_nil,or_false]at hr;rcases hr with rfl|rfl
     ·exact BZ q hq
     ·simp at hq
    refine⟨.inl (Ag.2 this), ?_⟩;rcases this with hh|hh
    ·exact h.gw.inb T q (by simp [GI.own,hh])
    ·exact h.gw.inb u q (by simp [GI.own,hh]))
   (fun r hr=>by rw [←AX]at hr;simp only [Ae,List.not_mem_nil,or_false]at hr;rcases hr with rfl|rfl<;>(intros;simp))
   (fun hk r hr=>by
    rw [←AX]at hr;simp only [Ae,List.not_mem_nil,or_false]at hr;rcases hr with rfl|rfl
    ·exact⟨kT1,fun g' BY=>q2 g' (aft.old T Fe g' BY),by rw [keT,q3],by rw [kT2,kgT];exact AO,by rw [kgT]⟩
    ·exact⟨by rw [kgu],by rw [kgu]⟩)
  refine⟨?_,fun t ht=> ?_,by rw [keT];omega⟩
  ·have:(recs.map fun r=>(r.tag,Cg [] r.aw))= [(T, .deep e z l g (ep+1) (.set c0 i (.put (.idx c0 i) o' x (Ai P e)))),(u, .dead)]:=by
    rw [←AX];simp [Cg]
   rw [this]at Aj;exact Aj
  ·rcases ht with ht|⟨r,hr,rfl⟩
   ·exact ht
   ·rw [←AX]at hr;simp only [Ae,List.not_mem_nil,or_false]at hr;rcases hr with rfl|rfl
    ·exact Fe
    ·exact QP
 have QP:c.U u:=h.br u r hu;unfold P6 at hr;simp only at hr;split at hr
 ·rename_i e2 z2 l2 e3 z3 x BD;split at hr
  ·rename_i hh;obtain⟨hf,rfl,rfl,hlen,As⟩:=hh;simp only [Ac]at hr;obtain⟨q1,q2,N,q4,q5,q6,q7⟩:=h.ents u _ (by rw [hu];rfl);obtain⟨hN,_⟩:=q6 rfl;have hN:N= []:=hN;subst hN;exact key _ _ _ _ BD (DC.ju q4 hf hlen) QP hr.symm (by rcases As with hh|hh;(rw [hh];simp);exact fun _=>hh)
  ·cases hr
 ·rename_i e2 z2 l2 e3 z3 l3 x BD;split at hr
  ·rename_i hh;obtain⟨rfl,rfl,hb,As⟩:=hh;simp only [Ac]at hr;have hb:=AF.of_eq hb;subst hb;obtain⟨q1,q2,q3,q4,q5⟩:=h.ents u _ (by rw [hu];rfl);rw [AF.bw]at q4;exact key _ _ _ _ BD q4 QP hr.symm (by rcases As with hh|hh;(rw [hh];simp);exact fun _=>hh)
  ·cases hr
 ·cases hr
end
section
variable {P:Program} {c:Cx} {n nx:Nat} {sl sl0:Nat→SV} {hp hp0:Nat→Option Af} {a:Act} {o:Oper} {gs:Gd} {e:AK} {sg:Bo} {nv:Nat}
theorem MV (hp:Nat→Option Af): ∀(l:List (Nat × Af)) (t:Nat),AR hp l t=match Je l t with|some f=>some f|none=>hp t
 | [],t=>rfl
 |(u,e)::l,t=>by
  have:=MV (fun v=>if v=u then some e else hp v) l t;simp only [AR,List.foldl_cons,Je]at this ⊢;rw [this];cases Je l t with
  |some f=>rfl
  |none=>
   simp only;by_cases h:u=t
   ·rw [if_pos h.symm,if_pos h]
   ·rw [if_neg (Ne.symm h),if_neg h]
theorem oV {hp:Nat→Option Af} {T v m u:Nat} {p:E × Nat × Nat} {h r:Af} (hs:P3 hp T v m u p=some (h,r)): ∃e z l ep c0 i o',h= .hol e z l v (m+1) c0 i o' u∧Cy hp [] T=some (.deep e z l v ep c0)∧ep=m:=by
 unfold P3 at hs;split at hs
 ·rename_i hl;split at hs
  ·rename_i hh;obtain⟨rfl,rfl,_⟩:=hh;split at hs
   ·simp only [Ac,Prod.mk.injEq]at hs;obtain⟨rfl,_⟩:=hs;exact⟨_,_,_,_,_,_,_,rfl,hl,rfl⟩
   ·cases hs
  ·cases hs
 ·cases hs
theorem oK {h r d:Af} {e z:Nat} {l:List DT} {g ep:Nat} {c0 i:E} {o' u:Nat} (hh:h= .hol e z l g ep c0 i o' u) (hc:P6 P h r=some d): ∃x,d= .deep e z l g (ep+1) x:=by
 subst hh;unfold P6 at hc;simp only at hc;split at hc
 ·split at hc
  ·simp only [Ac]at hc;exact⟨_,hc.symm⟩
  ·cases hc
 ·split at hc
  ·simp only [Ac]at hc;exact⟨_,hc.symm⟩
  ·cases hc
 ·cases hc
theorem wL (HB: ∀f s,sg f=some s→f<1000000) (h:A1 P c n nx sl hp a sl0 hp0 o []) (hu: ¬c.U (nx+999)) (he:Qh P sg sl0 hp0 nv nx o=some e)
  (hc: ∀q∈e.bc,q.den c.ρ) (AS: ∀cl,e.call=some cl→ ∃r,c.ρ[nv]?=some r∧GN (Cd P sg) cl.fn ((EL.of cl.args).den c.ρ) c.ρ r):Ar P o c n nx sl hp [] a e:=by
 unfold Qh at he;simp only at he;split at he
 ·cases he
 rename_i t T v m p s JH;split at he
 ·cases he
 rename_i hl inn OR;split at he
 ·cases he
 rename_i e0 IS;split at he
 ·cases he
 rename_i Ce;have Ce:e0.a8=none:=by cases hh:e0.a8 with|none=>rfl|some x=>rw [hh]at Ce;simp at Ce
 obtain⟨GC,AW⟩:=PB JH;have GC:Operand.tmp t∈o.op.operands:=by simpa using GC
 obtain⟨fe,fz,fl,fep,fc0,fi,fo,rfl,F6,rfl⟩:=oV OR;have hE:c.E T=fep:=(h.eh T _ (Cm F6 (DS _))).2.2.1;have DK:=h.rel.ca t;rw [←h.sl t GC]at DK;obtain⟨vv,Hx,AL⟩: ∃vv,GV c T v (some p) vv∧ ∀c1:Cx,c1.ρ=c.ρ→c1.K (nx+999) 0→c1.H (nx+999) 0=vv→(∃q n r,vv= .slice q n r∧(q=none∨n=0∨ ∃g,q=some ⟨g,0,none⟩))→SR c1 [s] [a.tmps.getD t undef]:=by
  rcases AW with⟨y,B7,rfl⟩|⟨y,k,z,q,B7,rfl⟩
  ·rw [B7]at DK;generalize a.tmps.getD t undef=av at DK ⊢;cases DK with
   |via h1 h2 h3 _=>obtain⟨_,hp⟩:=h3 hE;refine⟨_,hp,fun c1 e1 k1 k2 k3=> ?_⟩;obtain⟨q,n,r,rfl,_⟩:=k3;exact .own k1 k2 .nil
  ·rw [B7]at DK;generalize a.tmps.getD t undef=av at DK ⊢;cases DK with
   |vptr h1 h2 h3 _=>
    obtain⟨b,off,len,cap,kk,kv,g1,g2,g3,g4,g5,g6,rfl⟩:=h3 hE;refine⟨_,g2,fun c1 e1 k1 k2 k3=> ?_⟩;obtain⟨q9,n9,r9,hv,hq⟩:=k3;cases hv;have E3:off=0:=by
     rcases hq with hq|hq|⟨g,hq⟩
     ·cases hq
     ·omega
     ·cases hq;rfl
    subst E3;have:=SR.bt (c:=c1) (i:=k) (sz:=z) (o:=q) k1 k2 (by rw [e1];exact g3) g4 g5 .nil;simpa using this
 obtain⟨recs,c1,rfl,Cw,KW,TE,IH,kN,TS,yE,_,X7,Hm⟩:=h.rel.split OR h.hp hu (fun _=>Hx);have HC:=AL _ KW.ρ TE IH kN;have Ec:=Cw.gz (sl':=fun i=>if i=t then s else sl i) (fun i=>by
  by_cases hi:i=t
  ·subst hi;right;simpa using HC
  ·left;simp [hi])
 have C3: ∀x,AR hp [(T, .hol fe fz fl v (fep+1) fc0 fi fo (nx+999)),(nx+999,inn)] x=if x=nx+999 then some inn else if x=T then some (.hol fe fz fl v (fep+1) fc0 fi fo (nx+999))else hp x:=fun x=>rfl;have pre1:A1 P (c.cx c.w recs) n nx (fun i=>if i=t then s else sl i) (AR hp [(T, .hol fe fz fl v (fep+1) fc0 fi fo (nx+999)),(nx+999,inn)]) a (fun i=>if i=t then s else sl0 i) (fun w=>if w=T then some (.hol fe fz fl v (fep+1) fc0 fi fo (nx+999))else if w=nx+999 then some inn else hp0 w) o []:=by
  refine⟨Ec,DS _,fun i hi=> ?_,fun x f hf=> ?_,fun x h1 h2 hx=> ?_⟩
  ·by_cases hit:i=t
   ·simp [hit]
   ·simp only [if_neg hit];exact h.sl i hi
  ·rw [C3];by_cases h1:x=T
   ·rw [if_pos h1]at hf;rw [if_neg (by rw [h1];exact Hm),if_pos h1];exact hf
   ·rw [if_neg h1]at hf;by_cases h2:x=nx+999
    ·rw [if_pos h2]at hf ⊢;exact hf
    ·rw [if_neg h2]at hf;rw [if_neg h2,if_neg h1];exact h.hp x f hf
  ·rcases TS x hx with hx|hx
   ·exact h.new x h1 h2 hx
   ·omega
 have iW: ∀(c':Cx) (a':Act) (w9:SV),Rel c' n (B6 n (fun i=>if i=t then s else sl i) o.dst w9) (fun _=>none) a'→True:=fun _ _ _ _=>trivial;have stale: ∀(c':Cx) (v':Value),c'.K T v→fep<c'.E T→SR c' [sl t] [v']:=by
  intro c' v' hk Am;rw [←h.sl t GC];rcases AW with⟨y,B7,_⟩|⟨y,k,z,q,B7,_⟩
  ·rw [B7];exact .via hk (by omega) (fun hh=>by omega) .nil
  ·rw [B7];exact .vptr hk (by omega) (fun hh=>by omega) .nil
 have back: ∀{c':Cx} {hp':Nat→Option Af} {a':Act} {w9:SV},Rel c' n (B6 n (fun i=>if i=t then s else sl i) o.dst w9) hp' a'→c'.K T v→fep<c'.E T→Rel c' n (B6 n sl o.dst w9) hp' a':=by
  intro c' hp' a' w9 hr hk Am;refine hr.gz fun i=> ?_;unfold B6;by_cases h1:o.dst=some i∧i<n
  ·left;rw [if_pos h1,if_pos h1]
  ·rw [if_neg h1,if_neg h1];by_cases h2:i=t
   ·subst h2;right;exact stale _ _ hk Am
   ·left;show sl i=if i=t then s else sl i;rw [if_neg h2]
 split at he
 ·
  split at he
  ·rename_i Ow;simp only [Ac]at he;subst he;have Hp:=XF HB pre1 IS hc AS (fun x hx=>by rw [Ce]at hx;cases hx);intro next Q hk
   refine Hp next Q fun a' c' AQ hr=> ?_
   have TQ:AR (AR hp [(T, .hol fe fz fl v (fep+1) fc0 fi fo (nx+999)),(nx+999,inn)]) e0.aw T=some (.hol fe fz fl v (fep+1) fc0 fi fo (nx+999)):=by rw [MV,Ow,C3,if_neg Hm,if_pos rfl]
   obtain⟨g1,_,g3,_⟩:=hr.ents T _ (by rw [TQ];rfl);refine hk a' c' ⟨AQ.ρ,AQ.A,AQ.w0,AQ.Mu,fun x hx=> ?_⟩ (back hr g1 (by omega));rcases AQ.U x hx with hx|hx
   ·rcases TS x hx with hx|hx
    ·exact .inl hx
    ·exact .inr ⟨by omega,by simp only [Bf];omega⟩
   ·exact .inr hx
  ·cases he
 ·split at he
  ·rename_i r' jN jK;obtain⟨d,hd,rfl⟩:=Ak.1 he;have Hp:=XF HB pre1 IS hc AS (fun x hx=>by rw [Ce]at hx;cases hx);intro next Q hk
   refine Hp next Q fun a' c' AQ hr=> ?_
   have TQ:AR (AR hp [(T, .hol fe fz fl v (fep+1) fc0 fi fo (nx+999)),(nx+999,inn)]) e0.aw T=some (.hol fe fz fl v (fep+1) fc0 fi fo (nx+999)):=by rw [MV,jK,C3,if_neg Hm,if_pos rfl]
   have kL:AR (AR hp [(T, .hol fe fz fl v (fep+1) fc0 fi fo (nx+999)),(nx+999,inn)]) e0.aw (nx+999)=some r':=by rw [MV,jN]
   obtain⟨recs2,c2,rfl,Da,iI,yC⟩:=hr.close TQ kL hd ⟨_,_,_,_,_,_,_,_,rfl⟩ Hm;obtain⟨x9,rfl⟩:=oK rfl hd;have TR:AR (AR (AR hp [(T, .hol fe fz fl v (fep+1) fc0 fi fo (nx+999)),(nx+999,inn)]) e0.aw) [(T, .deep fe fz fl v (fep+1+1) x9),(nx+999, .dead)] T=some (.deep fe fz fl v (fep+1+1) x9):=by show(if T=nx+999 then _ else if T=T then _ else _)=_;rw [if_neg Hm,if_pos rfl]
   obtain⟨g1,_,g3,_⟩:=Da.ents T _ (by rw [TR];rfl);have CY:=back Da g1 (by omega);have A3:AR hp ((T, .hol fe fz fl v (fep+1) fc0 fi fo (nx+999))::(nx+999,inn)::e0.aw++ [(T, .deep fe fz fl v (fep+1+1) x9),(nx+999, .dead)])=AR (AR (AR hp [(T, .hol fe fz fl v (fep+1) fc0 fi fo (nx+999)),(nx+999,inn)]) e0.aw) [(T, .deep fe fz fl v (fep+1+1) x9),(nx+999, .dead)]:=by rw [←LJ,←LJ];rfl
   refine hk a' (c'.cx c'.w recs2) ⟨AQ.ρ,AQ.A,AQ.w0,AQ.Mu,fun x hx=> ?_⟩ ?_
   ·rcases AQ.U x (iI x hx)with hx|hx
    ·rcases TS x hx with hx|hx
     ·exact .inl hx
     ·exact .inr ⟨by omega,by simp only [Bf];omega⟩
    ·exact .inr hx
   ·have:=CY;rw [←A3]at this;exact this
  ·cases he
theorem tF (h:A1 P c n nx sl hp a sl0 hp0 o gs) {e:AK} (dp:Bool) (hd:Ar P o c n nx sl hp gs a e):Ar P o c n nx sl hp gs a (H4 dp hp0 gs e):=by
 unfold H4;split
 ·exact hd
 ·split
  ·rename_i l hl;intro next Q hk
   refine hd next Q fun a' c' hs hr=> ?_
   have e1:AR hp0 e.aw=fun t=>match Je e.aw t with|some f=>some f|none=>hp0 t:=funext (MV hp0 e.aw)
   have hl:CR (AR hp0 e.aw) [] (cR e.aw)=some l:=by rw [e1];exact hl
   have G0:=hr.freeze (hp0:=AR hp0 e.aw) (fun t e' h'=>by
    rw [MV]at h' ⊢;split at h'
    ·exact h'
    ·exact h.hp t e' h') (DS _) hl
   refine hk a' (c'.ay (l.map (·.1))) ⟨hs.ρ,hs.A,hs.w0,hs.Mu,hs.U⟩ ?_;show Rel _ _ _ (AR hp (e.aw++l)) a';rw [LJ];exact G0
  ·exact hd
theorem pX (dp:Bool) (e:AK):(H4 dp hp0 gs e).call=e.call:=by
 unfold H4;split
 ·rfl
 ·split<;>rfl
theorem sY (dp:Bool) (e:AK):(H4 dp hp0 gs e).bc=e.bc:=by
 unfold H4;split
 ·rfl
 ·split<;>rfl
theorem Wq (dp:Bool) (e:AK):(H4 dp hp0 gs e).a8=e.a8:=by
 unfold H4;split
 ·rfl
 ·split<;>rfl
theorem sB {dp:Bool} {e:AK} {x:E} (h:e.a8=some x):H4 dp hp0 gs e=e:=by unfold H4;rw [if_pos (by simp [h])]
theorem tS (h:A1 P c n nx sl hp a sl0 hp0 o gs) {e:AK} (fz:Bool) (hd:Ar P o c n nx sl hp gs a e):Ar P o c n nx sl hp gs a (H8 fz hp0 gs e):=by
 unfold H8;split
 ·exact hd
 ·rename_i TW;simp only [Bool.or_eq_true,not_or]at TW;have iX:e.aw= []:=by simpa using TW.2
  split
  ·rename_i t g m p x hv;split
   ·rename_i y l hy hl;split
    ·rename_i Hv;intro next Q hk
     refine hd next Q fun a' c' hs hr=> ?_
     rw [iX]at hr;have Ui:gs= []:=by simpa using TW.1.1.1.2
     subst Ui;have hr:Rel c' n (B6 n sl o.dst e.val) hp a':=hr;have eh:EH c' hp0:=fun t e CC=>hr.ents t e (Ji h.hp CC);have G0:=hr.freeze h.hp (DS _) hl;refine hk a' (c'.ay (l.map (·.1))) ⟨hs.ρ,hs.A,hs.w0,hs.Mu,hs.U⟩ ?_;refine{G0 with ca:=fun i=> ?_};have h1:=hr.ca i;have h2:=G0.ca i;unfold B6 at h1 h2 ⊢;split
     ·rename_i hi;rw [if_pos hi]at h1;obtain⟨f,q1,q2⟩:=Gl eh (DS _) AI hy h1 AI (Nat.le_refl _);exact .e q1 (fun b hb=>Pv hr eh (DS _) hl Hv (q2 b hb)) .nil
     ·rename_i hi;rw [if_neg hi]at h2;exact h2
    ·exact hd
   ·exact hd
  ·exact hd
theorem tH (fz:Bool) (e:AK):(H8 fz hp0 gs e).call=e.call:=by
 unfold H8;split
 ·rfl
 ·split
  ·split
   ·split<;>rfl
   ·rfl
  ·rfl
theorem sQ (fz:Bool) (e:AK):(H8 fz hp0 gs e).bc=e.bc:=by
 unfold H8;split
 ·rfl
 ·split
  ·split
   ·split<;>rfl
   ·rfl
  ·rfl
theorem aJ (fz:Bool) (e:AK):(H8 fz hp0 gs e).a8=e.a8:=by
 unfold H8;split
 ·rfl
 ·split
  ·split
   ·split<;>rfl
   ·rfl
  ·rfl
theorem sP {fz:Bool} {e:AK} {x:E} (h:e.a8=some x):H8 fz hp0 gs e=e:=by unfold H8;rw [if_pos (by simp [h])]
theorem xI (HB: ∀f s,sg f=some s→f<1000000):L8 P sg (Cd P sg):=by
 intro c n nx sl hp a sl0 hp0 o gs e nv h hu he hc AS Ce;unfold Jr at he;split at he
 ·rename_i e' DR;simp only [Ac]at he;subst he;rw [sQ,sY]at hc;rw [tH,pX]at AS;rw [aJ,Wq]at Ce;exact tS h _ (tF h _ (XF HB h DR hc AS Ce))
 ·split at he
  ·exact wL HB h hu he hc AS
  ·cases he
theorem oY {x:E} (he:Qh P sg sl0 hp0 nv nx o=some e) (hq:e.a8=some x):False:=by
 unfold Qh at he;simp only at he;split at he
 ·cases he
 split at he
 ·cases he
 split at he
 ·cases he
 rename_i e0 IS;split at he
 ·cases he
 rename_i Ce;have Ce:e0.a8=none:=by cases hh:e0.a8 with|none=>rfl|some x=>rw [hh]at Ce;simp at Ce
 split at he
 ·split at he
  ·simp only [Ac]at he;subst he;rw [Ce]at hq;cases hq
  ·cases he
 ·split at he
  ·obtain⟨d,hd,rfl⟩:=Ak.1 he;rw [Ce]at hq;cases hq
  ·cases he
theorem o8 {x:E} (he:Jr P sg sl0 hp0 nv nx gs o=some e) (hq:e.a8=some x):Bc P sg sl0 hp0 nv nx gs o=some e:=by
 unfold Jr at he;split at he
 ·rename_i e' DR;simp only [Ac]at he;subst he;rw [aJ,Wq]at hq;rw [sP (by rw [Wq];exact hq),sB hq];exact DR
 ·split at he
  ·exact(oY he hq).elim
  ·cases he
theorem vU:Qw P sg:=by
 intro c n nx sl hp a sl0 hp0 o gs e nv x h he hq hb;unfold Iu at hb;cases Az:o.op with
 |binOp op t y z ty=>
  rw [Az]at hb;simp only at hb;have he:=o8 he hq;simp only [Bc,Az,An]at he;obtain⟨s1,Bj,s2,AL,he⟩:=he;have key: ∀xq,A0 hp0 gs AI s1=some xq→xq.den c.ρ= .sl []:=by
   intro xq HH;obtain⟨f,q1,_⟩:=h.jc Bj (by simp [Az,Op.operands]) HH;generalize a.eval y=v at q1 hb;split at hb
   ·generalize xq.den c.ρ=d at q1;cases q1 with
    |df _=>rfl
   ·cases hb
  unfold Nk at he;split at he
  ·split at he
   ·simp at he;subst he;cases hq
   ·simp at he;subst he;cases hq
   ·obtain⟨xq,HH,rfl⟩:=Ak.1 he;cases hq;exact key _ HH
   ·obtain⟨xq,HH,rfl⟩:=Ak.1 he;cases hq;exact key _ HH
   ·cases he
  ·split at he
   ·simp at he;subst he;cases hq
   ·cases he
  ·split at he
   ·simp at he;subst he;cases hq
   ·cases he
  ·split at he
   ·simp at he;subst he;cases hq
   ·cases he
  ·split at he
   ·cases he
   ·split at he
    ·split at he
     ·simp at he;subst he;cases hq
     ·simp at he;subst he;cases hq
     ·cases he
    ·cases he
  ·cases he
 |_=>rw [Az]at hb;simp at hb
end
end Go.Proofs.YtollgpkegmbpmaaGreatDoor
end

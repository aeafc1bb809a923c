/- Parts of a proof, joined: WP, WQ, WR, WRa, WRb, WRc, WRd, WRe, WS, WSa, WSb. -/
import Derived.Test.YtollgpkegmbpmaaGreatDoorA4
set_option linter.unusedVariables false
set_option linter.unusedSimpArgs false
section
namespace Go.Proofs.YtollgpkegmbpmaaGreatDoor
open Go.RowKit
theorem Bk.{u} {α:Type u} {a:α}:[a].length=1:=rfl
section
variable {P:Program} {c:Cx} {hp:Nat→Option Ah} {gs:Gd}
theorem dV (hb:Oe c) (eh:EH c hp) (k:AY c.ρ gs) (hU: ∀t g,c.K t g→c.U t): ∀(ss:List SV) {ts:List TypeId} {ms:List PM} {lo:List Bool} {es:List E} {bs:List PA} {us uz:List Nat} {vs:List Value},QX P hp gs ts ms lo ss=some (es,bs,us,uz)→SR c ss vs→ts.length≤ss.length→
  ∃rf lf hs,CJ P c.w ts ms lo vs (es.map (E.den c.ρ)) rf lf hs∧(∀b∈rf,c.dr us b)∧(∀b∈lf,c.dr uz b∨b<c.w0.heap.size∧ ¬c.Mu b)∧hs=(CH bs).flatMap (fun t=>(c.G t).top)∧Hm P c ts ms vs bs∧(∀u∈CH bs,c.U u)∧(bs≠ []→gs= [])
 | [],ts,ms,lo,es,bs,us,uz,vs,h,hs,hl=>by simp [QX]at h;obtain⟨rfl,rfl,rfl,rfl⟩:=h;cases hs;have:ts= []:=List.eq_nil_of_length_eq_zero (by simpa using hl);subst this;exact⟨[], [], [], .nil,by simp,by simp,by simp [CH], .nil,by simp [CH],by simp⟩
 |s::ss,ts,ms,lo,es,bs,us,uz, [],h,hs,hl=>by have:=hs.len;simp at this
 |s::ss,ts,ms,lo,es,bs,us,uz,v::vs,h,hs,hl=>by
  obtain⟨r1,r2⟩:=hs.bf;unfold QX at h;split at h
  ·cases h
  rename_i ys bs' us' uz' Ct;obtain⟨rf,lf,AX,q1,q2,qz,q3,q4,q5,q6⟩:=dV hb eh k hU ss Ct r2 (by simp at hl ⊢;omega);have see1: ∀{a b:List Nat} {x:Nat},c.dr a x→c.dr (a++b) x:=fun h=>h.mono fun t ht=>by simp [ht]
  have see2: ∀{a b:List Nat} {x:Nat},c.dr b x→c.dr (a++b) x:=fun h=>h.mono fun t ht=>by simp [ht]
  split at h
  ·rename_i hm;split at h
   ·rename_i BD;simp only [Ac,Bool.not_eq_true']at BD;obtain⟨t,ts,rfl⟩: ∃t ts',ts=t::ts':=by
     cases ts with
     |nil=>simp at BD
     |cons t ts=>exact⟨t,ts,rfl⟩
    split at h
    ·rename_i i;simp only [Ad,Prod.mk.injEq]at h;obtain⟨rfl,rfl,rfl,rfl⟩:=h;cases r1 with
     |lent g1 _=>obtain⟨f,p1,p2⟩:=hb.lo _ _ g1;have hw:Rd c.w [v] [(E.var i).den c.ρ] f:=p1.frame fun b BC=>hb.block b (p1.inb b BC) (p2 b BC);exact⟨rf,f++lf,AX, .lent BD.1 hm hw q1,q2,fun b BC=>(Af.1 BC).elim (fun BC=> .inr ⟨p1.inb b BC,p2 b BC⟩) (qz b),q3, .ro hm q4,q5,q6⟩
    ·obtain⟨x,hx,hh⟩:=Am.1 h;simp only [Prod.mk.injEq]at hh;obtain⟨rfl,rfl,rfl,rfl⟩:=hh;obtain⟨f,p1,p2⟩:=Gy eh k AJ hx r1 AJ (Nat.le_refl _);exact⟨rf,f++lf,AX, .lent BD.1 hm p1 q1,q2,fun b BC=>(Af.1 BC).elim (fun BC=> .inl (see1 (p2 b BC))) (fun BC=>(qz b BC).imp see2 id),q3, .ro hm q4,q5,q6⟩
   obtain⟨x,hx,hh⟩:=Am.1 h;simp only [Prod.mk.injEq]at hh;obtain⟨rfl,rfl,rfl,rfl⟩:=hh;obtain⟨f,p1,p2⟩:=Gy eh k AJ hx r1 AJ (Nat.le_refl _);have hb: ∀b∈f++rf,c.dr (Bo hp gs (AJ+1) [s]++us') b:=fun b hb=>by
    rcases Af.1 hb with hb|hb
    ·exact see1 (p2 b hb)
    ·exact see2 (q2 b hb)
   cases ts with
   |nil=>exact⟨f++rf,lf,AX, .free p1 q1,hb,qz,q3, .ro hm q4,q5,q6⟩
   |cons t ts=>exact⟨f++rf,lf, []++AX, .cons (by rw [hm];exact⟨p1,rfl⟩) q1,hb,qz,q3, .ro hm q4,q5,q6⟩
  ·rename_i own own' hm;split at h
   ·rename_i ty T A1;split at h
    ·rename_i ty' g cs MI;split at h
     ·cases h
     rename_i A4;have A4:ty'=ty:=by simpa using A4
     subst A4;split at h
     ·rename_i xs rs vs' B1 Ep;simp only [Ad,Prod.mk.injEq]at h;obtain⟨rfl,rfl,rfl,rfl⟩:=h;obtain⟨t,ts,rfl,Dk⟩: ∃t ts',ts=t::ts'∧IK P t=some ty':=by
       cases ts with
       |nil=>simp at A1
       |cons t ts=>exact⟨t,ts,rfl,by simpa using A1⟩
      obtain⟨b,C,g1,g2,g3,g4,g5,g6,g7⟩:=eh T _ (Cm MI k);obtain⟨f,h8,p1,p2,p3,p4,p5⟩:=WW (P:=P) eh k hU (AR P ty') Ep g7 B1 (Nat.le_refl _);have hv:v= .pointer (some ⟨b,0,none⟩):=by
       cases r1 with
       |bj k1 k2 _=>rw [g2]at k2;cases k2;rfl
      refine⟨f++rf,lf,(b::h8)++AX, .cons ?_ q1,fun x hx=> ?_,qz,by simp [CH,p3,q3,g3], .bx hm Dk hv g1 (by rw [g2,hv]) p5 q4,fun u hu=> ?_,fun _=>rfl⟩
      ·rw [hm];exact⟨ty',b,C,xs.den c.ρ,h8,Dk,hv,g5,g6,rfl,p1,rfl⟩
      ·rcases Af.1 hx with hx|hx
       ·exact see1 (p2 x hx)
       ·exact see2 (q2 x hx)
      ·simp only [CH,List.cons_append,Ae,Af]at hu;rcases hu with rfl|hu|hu
       ·exact hU _ _ g1
       ·exact p5 u hu
       ·exact q5 u hu
     ·cases h
    ·cases h
   ·cases h
  ·rename_i own hm;split at h
   ·rename_i t x A1 hx;split at h
    ·cases h
    rename_i Av;have Av:(Gw s).2=Aj P t:=by simpa using Av
    split at h
    ·rename_i rs vs' Ep;simp only [Ad,Prod.mk.injEq]at h;obtain⟨rfl,rfl,rfl,rfl⟩:=h;obtain⟨ts,rfl⟩: ∃ts',ts=t::ts':=by
      cases ts with
      |nil=>simp at A1
      |cons t' ts=>simp at A1;exact⟨ts,by rw [A1]⟩
     obtain⟨f,h8,p1,p2,p3,⟨vs9,p4,p5⟩,p6⟩:=cC (P:=P) eh k hU r1 hx Av Ep;refine⟨f++rf,lf,h8++AX, .cons (by rw [hm];exact p1) q1,fun x hx=> ?_,qz,by simp [CH,p3,q3],by rw [Av];exact .mu hm p4 p5 q4,fun u hu=> ?_,fun _=>rfl⟩
     ·rcases Af.1 hx with hx|hx
      ·exact see1 (p2 x hx)
      ·exact see2 (q2 x hx)
     ·simp only [CH,Af]at hu;exact hu.elim (p6 u) (q5 u)
    ·cases h
   ·cases h
  ·rename_i own hm;split at h
   ·rename_i t x A1 hx;split at h
    ·cases h
    rename_i Av;have Av:(Gw s).2=Aj P t:=by simpa using Av
    split at h
    ·rename_i rs vs' Ep;simp only [Ad,Prod.mk.injEq]at h;obtain⟨rfl,rfl,rfl,rfl⟩:=h;obtain⟨ts,rfl⟩: ∃ts',ts=t::ts':=by
      cases ts with
      |nil=>simp at A1
      |cons t' ts=>simp at A1;exact⟨ts,by rw [A1]⟩
     obtain⟨f,h8,p1,p2,p3,⟨vs9,p4,p5⟩,p6⟩:=cC (P:=P) eh k hU r1 hx Av Ep;refine⟨f++rf,lf,h8++AX, .cons (by rw [hm];exact p1) q1,fun x hx=> ?_,qz,by simp [CH,p3,q3], .va hm p6 q4,fun u hu=> ?_,fun _=>rfl⟩
     ·rcases Af.1 hx with hx|hx
      ·exact see1 (p2 x hx)
      ·exact see2 (q2 x hx)
     ·simp only [CH,Af]at hu;exact hu.elim (p6 u) (q5 u)
    ·cases h
   ·cases h
end
inductive Fp (P:Program) (w:World):List TypeId→List Bool→List Value→List AV→List Nat→List Nat→Prop where
 |nil {fl}:Fp P w [] fl [] [] [] []
 |own {t ts fl el u us y ys top N f o}:fl.headD false=true→B9 P t=some el→(BE P el=true∧N= []∨BE P el=false∧Dc P t=none)→Ce w el (P.cellsOf el) u y top N→Fp P w ts fl.tail us ys f o→Fp P w (t::ts) fl (u::us) (y::ys) (N++f) (top++o)
 |deep {t ts fl el e z l u us y ys top f o}:fl.headD false=true→B9 P t=some el→BE P el=false→Dc P t=some (.row e z l)→DC w [.row e z l] [u] [y] top→Fp P w ts fl.tail us ys f o→Fp P w (t::ts) fl (u::us) (y::ys) f (top++o)
 |skip {t ts fl u us y ys f o}:(fl.headD false=true→B9 P t=none)→Fp P w ts fl.tail us ys f o→Fp P w (t::ts) fl (u::us) (y::ys) f o
inductive CY (P:Program) (w:World):List TypeId→List PM→List Value→List AV→List Nat→List Nat→Prop where
 |nil {ms vs}:CY P w [] ms vs [] [] []
 |ro {t ts ms v vs bs f o}:ms.headD .ro= .ro→CY P w ts ms.tail vs bs f o→CY P w (t::ts) ms (v::vs) bs f o
 |va {t ts ms own v vs bs f o}:ms.headD .ro= .va own→CY P w ts ms.tail vs bs f o→CY P w (t::ts) ms (v::vs) bs f o
 |mu {t ts ms own v vs us ys y bs f1 f o1 o}:ms.headD .ro= .mu own→(if Aj P t then v= .agg us.toArray∧y= .agg ys else us= [v]∧ys= [y])→Fp P w (AR P t) own us ys f1 o1→CY P w ts ms.tail vs bs f o→CY P w (t::ts) ms (v::vs) (y::bs) (f1++f) (o1++o)
 |bx {t ts ms own own' ty b C v vs ys y bs f1 o1 f o}:ms.headD .ro= .bx own own'→IK P t=some ty→v= .pointer (some ⟨b,0,none⟩)→w.heap[b]?=some (.cells C ty (0,0))→(∀u∈C.toList,u.oneCell'=true)→y= .agg ys→BR P w (AR P ty) own' C.toList ys f1 o1→
   CY P w ts ms.tail vs bs f o→CY P w (t::ts) ms (v::vs) (y::bs) (f1++f) (b::o1++o)
section
variable {P:Program} {c:Cx} {w':World}
theorem tV {mk:Nat→E} {ts:List TypeId} {fl:List Bool} {us:List Value} {rs:List (Option RI)} (h:FC P c ts fl us rs) (hU: ∀t g,c.K t g→c.U t): ∀{ys:List AV} {f o:List Nat} (j:Nat),Fp P w' ts fl us ys f o→(∀i y,ys[i]?=some y→(mk (j+i)).den c.ρ=y)→
  ∃recs:List AF,JC mk j rs=recs.map AF.pair∧(recs.flatMap AF.top).Sublist o∧(∀r∈recs,r.new=none∧c.U r.tag∧ ∀hs f,r.ar≠ .gd hs f)∧recs.map AF.tag=B4 rs∧ ∀c',D9 c c' w' recs→(∀b∈f,c'.ok b)→ ∀r∈recs,Cv c' r.tag r.ar:=by
 induction h with
 |nil=>intro ys f o j hm _;cases hm;exact⟨[],rfl,by simp,by simp,rfl,by simp⟩
 | @row t ts fl v vs u g el rs h1 h2 On h3 h4 h5 _ ih=>
  intro ys f o j hm E5;cases hm with
  |skip hh _=>rw [hh h1]at h2;cases h2
  |deep _ k2 k21 k22 _ _=>
   rw [h2]at k2;cases k2;rcases On with hh|hh
   ·rw [hh]at k21;cases k21
   ·rw [hh]at k22;cases k22
  | @own _ _ _ el' _ _ y ys top N f o k1 k2 k23 k3 k4=>
   rw [h2]at k2;cases k2;obtain⟨recs,e1,e2,e3,e4,e5⟩:=ih (j+1) k4 (fun i y hy=>by rw [show j+1+i=j+(i+1)from by omega];exact E5 (i+1) y (by simpa using hy));have hy:=E5 0 y rfl;refine⟨⟨u,none,top, .row el (P.cellsOf el) g (mk j) (BE P el)⟩::recs,by simp [JC,e1,AF.pair],by simpa using(List.Sublist.refl top).append e2,fun r hr=> ?_,by simp [B4,RI.tag,e4],fun c' ha Aw r hr=> ?_⟩
   ·rcases Ae.1 hr with rfl|hr
    ·exact⟨rfl,hU _ _ h3,by simp⟩
    ·exact e3 r hr
   ·rcases Ae.1 hr with rfl|hr
    ·obtain⟨a1,a2⟩:=ha.K u g h3;have kg:=ha.G _ (List.mem_cons_self ..);simp only at kg;refine⟨a1,fun g' BN=>h5 g' (ha.old u (hU _ _ h3) g' BN),N, ?_,fun b hb=>Aw b (by simp [hb]),fun hd=> ?_,fun _=>by rw [kg]⟩
     rotate_left
     ·rcases k23 with⟨_,h⟩|⟨h,_⟩
      ·subst h;exact⟨rfl,by rw [kg]⟩
      ·rw [h]at hd;cases hd
     have A8:(mk j).den c.ρ=y:=by simpa using hy
     rw [a2,h4,kg,ha.w,ha.ρ,A8];exact k3
    ·exact e5 c' (ha.mono fun r hr=>by simp [hr]) (fun b hb=>Aw b (by simp [hb])) r hr
 | @deep t ts fl v vs u g el e z l ep rs h1 h2 Om MA h3 h4 h5 h6 _ ih=>
  intro ys f o j hm E5;cases hm with
  |skip hh _=>rw [hh h1]at h2;cases h2
  |own _ k2 k23 _ _=>
   rw [h2]at k2;cases k2;rcases k23 with⟨hh,_⟩|⟨_,hh⟩
   ·rw [hh]at Om;cases Om
   ·rw [hh]at MA;cases MA
  | @deep _ _ _ el' e' z' l' _ _ y ys top f o k1 k2 k21 k22 k3 k4=>
   rw [MA]at k22;cases k22;obtain⟨recs,e1,e2,e3,e4,e5⟩:=ih (j+1) k4 (fun i y hy=>by rw [show j+1+i=j+(i+1)from by omega];exact E5 (i+1) y (by simpa using hy));have hy:=E5 0 y rfl;refine⟨⟨u,none,top, .deep e z l g (ep+1) (mk j)⟩::recs,by simp [JC,e1,AF.pair],by simpa using(List.Sublist.refl top).append e2,fun r hr=> ?_,by simp [B4,RI.tag,e4],fun c' ha Aw r hr=> ?_⟩
   ·rcases Ae.1 hr with rfl|hr
    ·exact⟨rfl,hU _ _ h3,by simp⟩
    ·exact e3 r hr
   ·rcases Ae.1 hr with rfl|hr
    ·obtain⟨a1,a2⟩:=ha.K u g h3;have kg:=ha.G _ (List.mem_cons_self ..);have ke:=ha.gp _ (List.mem_cons_self ..) rfl;simp only at kg ke;refine⟨a1,fun g' BN=>h5 g' (ha.old u (hU _ _ h3) g' BN),by rw [ke,h6], ?_,by rw [kg]⟩;have A8:(mk j).den c.ρ=y:=by simpa using hy
     rw [a2,h4,kg,ha.w,ha.ρ,A8];exact k3
    ·exact e5 c' (ha.mono fun r hr=>by simp [hr]) (fun b hb=>Aw b (by simp [hb])) r hr
 | @none t ts fl v vs rs _ _ ih=>
  intro ys f o j hm E5;have go: ∀{y:AV} {ys':List AV} {f' o':List Nat},ys=y::ys'→Fp P w' ts fl.tail vs ys' f' o'→(∀b∈f',b∈f)→o'.Sublist o→ ∃recs:List AF,JC mk j (none::rs)=recs.map AF.pair∧(recs.flatMap AF.top).Sublist o∧(∀r∈recs,r.new=none∧c.U r.tag∧ ∀hs f,r.ar≠ .gd hs f)∧recs.map AF.tag=B4 (none::rs)∧ ∀c',D9 c c' w' recs→(∀b∈f,c'.ok b)→ ∀r∈recs,Cv c' r.tag r.ar:=by rintro y ys' f' o' rfl E4 hf hs;obtain⟨recs,e1,e2,e3,e4,e5⟩:=ih (j+1) E4 (fun i y hy=>by rw [show j+1+i=j+(i+1)from by omega];exact E5 (i+1) y (by simpa using hy));exact⟨recs,by simp [JC,e1],e2.trans hs,e3,by simp [B4]at e4 ⊢;exact e4,fun c' ha Aw=>e5 c' ha fun b hb=>Aw b (hf b hb)⟩
  cases hm with
  |skip _ h8=>exact go rfl h8 (fun _ h=>h) (List.Sublist.refl _)
  |own _ _ _ _ h8=>exact go rfl h8 (fun b hb=>by simp [hb]) (List.sublist_append_right _ _)
  |deep _ _ _ _ _ h8=>exact go rfl h8 (fun _ h=>h) (List.sublist_append_right _ _)
theorem cH (us:List Nat) (hU: ∀u∈us,c.U u): ∃recs:List AF,Ei us=recs.map AF.pair∧recs.flatMap AF.top= []∧(∀r∈recs,r.new=none∧c.U r.tag∧ ∀hs f,r.ar≠ .gd hs f)∧recs.map AF.tag=us∧ ∀c',D9 c c' w' recs→ ∀r∈recs,Cv c' r.tag r.ar:=by
 induction us with
 |nil=>exact⟨[],rfl,rfl,by simp,rfl,by simp⟩
 |cons u us ih=>
  obtain⟨recs,e1,e2,e3,e4,e5⟩:=ih fun u hu=>hU u (by simp [hu]);refine⟨⟨u,none, [], .dead⟩::recs,by simp only [Ei]at e1;simp [Ei,e1,AF.pair],by simp [e2],fun r hr=> ?_,by simp [e4],fun c' ha r hr=> ?_⟩
  ·rcases Ae.1 hr with rfl|hr
   ·exact⟨rfl,hU _ (by simp),by simp⟩
   ·exact e3 r hr
  ·rcases Ae.1 hr with rfl|hr
   ·have kg:=ha.G _ (List.mem_cons_self ..);simp only at kg;exact⟨by rw [kg],by rw [kg]⟩
   ·exact e5 c' (ha.mono fun r hr=>by simp [hr]) r hr
structure Ht (c:Cx) (w':World) (nx m:Nat) (l:List (Nat × Ah)) (hd o f:List Nat) (recs:List AF):Prop where
 ents:l=recs.map AF.pair
 lq:(recs.flatMap AF.top).Sublist o
 new: ∀r∈recs,r.new.isSome=true→nx≤r.tag∧r.tag<nx+m
 old: ∀r∈recs,r.new=none→r.tag∈hd∧c.U r.tag
 all: ∀t∈hd,∃r∈recs,r.tag=t
 nodup:hd.Nodup→(∀t,nx≤t→t<nx+m→ ¬c.U t)→(recs.map AF.tag).Nodup
 ne: ∀r∈recs,∀hs f,r.ar≠ .gd hs f
 ok: ∀c',D9 c c' w' recs→(∀b∈f,c'.ok b)→ ∀r∈recs,Cv c' r.tag r.ar
theorem Ht.app {nx m m':Nat} {l l':List (Nat × Ah)} {hd IZ o o' f f':List Nat} {recs recs':List AF} (h:Ht c w' nx m l hd o f recs) (k:Ht c w' (nx+m) m' l' IZ o' f' recs'):Ht c w' nx (m+m') (l++l') (hd++IZ) (o++o') (f++f') (recs++recs'):=by
 refine⟨by rw [h.ents,k.ents,List.map_append],by rw [List.flatMap_append];exact h.lq.append k.lq,fun r hr hn=> ?_,fun r hr hn=> ?_,fun t ht=> ?_,fun hn hU=> ?_,fun r hr=> ?_,fun c' ha Aw r hr=> ?_⟩
 ·rcases Af.1 hr with hr|hr
  ·have:=h.new r hr hn;omega
  ·have:=k.new r hr hn;omega
 ·rcases Af.1 hr with hr|hr
  ·exact⟨by simp [(h.old r hr hn).1],(h.old r hr hn).2⟩
  ·exact⟨by simp [(k.old r hr hn).1],(k.old r hr hn).2⟩
 ·rcases Af.1 ht with ht|ht
  ·obtain⟨r,hr,e⟩:=h.all t ht;exact⟨r,by simp [hr],e⟩
  ·obtain⟨r,hr,e⟩:=k.all t ht;exact⟨r,by simp [hr],e⟩
 ·rw [List.nodup_append]at hn;rw [List.map_append,List.nodup_append];refine⟨h.nodup hn.1 fun t h1 h2=>hU t h1 (by omega),k.nodup hn.2.1 fun t h1 h2=>hU t (by omega) (by omega),fun t1 Pp t2 Pq he=> ?_⟩;obtain⟨q1,Gn,rfl⟩:=List.mem_map.1 Pp;obtain⟨q2,Hg,rfl⟩:=List.mem_map.1 Pq;cases n1:q1.new with
  |none=>
   obtain⟨a1,a2⟩:=h.old q1 Gn n1;cases n2:q2.new with
   |none=>exact hn.2.2 _ a1 _ (k.old q2 Hg n2).1 he
   |some v2=>have:=k.new q2 Hg (by simp [n2]);exact hU q2.tag (by omega) (by omega) (he▸a2)
  |some v1=>
   have:=h.new q1 Gn (by simp [n1]);cases n2:q2.new with
   |none=>exact hU q1.tag (by omega) (by omega) (he▸(k.old q2 Hg n2).2)
   |some v2=>have:=k.new q2 Hg (by simp [n2]);omega
 ·rcases Af.1 hr with hr|hr
  ·exact h.ne r hr
  ·exact k.ne r hr
 ·rcases Af.1 hr with hr|hr
  ·exact h.ok c' (ha.mono fun r hr=>by simp [hr]) (fun b hb=>Aw b (by simp [hb])) r hr
  ·exact k.ok c' (ha.mono fun r hr=>by simp [hr]) (fun b hb=>Aw b (by simp [hb])) r hr
theorem Ht.jv {nx:Nat} {l:List (Nat × Ah)} {hd o f:List Nat} {recs:List AF} (e1:l=recs.map AF.pair) (e2:(recs.flatMap AF.top).Sublist o) (e3: ∀r∈recs,r.new=none∧c.U r.tag∧ ∀hs f,r.ar≠ .gd hs f) (e4:recs.map AF.tag=hd) (e5: ∀c',D9 c c' w' recs→(∀b∈f,c'.ok b)→ ∀r∈recs,Cv c' r.tag r.ar):Ht c w' nx 0 l hd o f recs:=by
 refine⟨e1,e2,fun r hr hn=> ?_,fun r hr _=>⟨?_,(e3 r hr).2.1⟩,fun t ht=> ?_,fun hn _=>by rw [e4];exact hn,fun r hr=>(e3 r hr).2.2,fun c' ha Aw=>e5 c' ha Aw⟩
 ·rw [(e3 r hr).1]at hn;cases hn
 ·rw [←e4];exact List.mem_map.2 ⟨r,hr,rfl⟩
 ·rw [←e4]at ht;obtain⟨r,hr,e⟩:=List.mem_map.1 ht;exact⟨r,hr,e⟩
theorem uQ {ts:List TypeId} {ms:List PM} {vs:List Value} {bs:List PA} (h:Hm P c ts ms vs bs) (hU: ∀t g,c.K t g→c.U t) {r:Nat}: ∀{Bs:List AV} {f o:List Nat} (nx j:Nat),CY P w' ts ms vs Bs f o→(∀k y,Bs[k]?=some y→(E.proj (.var r) (j+k+1)).den c.ρ=y)→
  Bs.length=G5 bs∧ ∃recs,Ht c w' nx (IH P bs) (after P r nx bs j) (CH bs) o f recs:=by
 have nilS: ∀nx,Ht c w' nx 0 [] [] [] [] []:=fun nx=>⟨rfl,by simp,by simp,by simp,by simp,by simp,by simp,by simp⟩
 induction h with
 |nil=>intro Bs f o nx j hb _;cases hb;exact⟨rfl, [],by simpa [after,CH,IH]using nilS nx⟩
 | @ro ts ms v vs bs hm DO ih=>
  intro Bs f o nx j hb hB;cases hb with
  |nil=>exact ih nx j .nil hB
  |ro _ h8=>exact ih nx j h8 hB
  |va h9 _=>rw [hm]at h9;cases h9
  |mu h9 _ _ _=>rw [hm]at h9;cases h9
  |bx h9 _ _ _ _ _ _ _=>rw [hm]at h9;cases h9
 | @va ts ms own v vs bs us hm Jc DO ih=>
  intro Bs f o nx j hb hB;obtain⟨recs1,e1,e2,e3,e4,e5⟩:=cH (c:=c) (w':=w') us Jc;have s1:Ht c w' nx 0 (Ei us) us [] [] recs1:= .jv e1 (by rw [e2];exact List.Sublist.refl _) e3 e4 fun c' ha _=>e5 c' ha;cases hb with
  |nil=>obtain⟨h1,recs2,s2⟩:=ih nx j .nil hB;exact⟨by simpa [G5]using h1,recs1++recs2,by simpa [after,CH,IH]using s1.app s2⟩
  |ro h9 _=>rw [hm]at h9;cases h9
  |va _ h8=>obtain⟨h1,recs2,s2⟩:=ih nx j h8 hB;exact⟨by simpa [G5]using h1,recs1++recs2,by simpa [after,CH,IH]using s1.app s2⟩
  |mu h9 _ _ _=>rw [hm]at h9;cases h9
  |bx h9 _ _ _ _ _ _ _=>rw [hm]at h9;cases h9
 | @mu t ts ms own v vs bs us rs hm Jc Ep DO ih=>
  intro Bs f o nx j hb hB;cases hb with
  |ro h9 _=>rw [hm]at h9;cases h9
  |va h9 _=>rw [hm]at h9;cases h9
  |bx h9 _ _ _ _ _ _ _=>rw [hm]at h9;cases h9
  | @mu _ _ _ own2 _ _ us2 ys y Bs f1 f o1 o h9 hg O5 h8=>
   rw [hm]at h9;cases h9;obtain⟨h1,recs2,s2⟩:=ih nx (j+1) h8 (fun k y hy=>by rw [show j+1+k+1=j+(k+1)+1 from by omega];exact hB (k+1) y (by simpa using hy));have hy:=hB 0 y rfl;have Lz:us2=us:=by
    split at Jc
    ·rename_i Av;rw [if_pos Av]at hg;obtain⟨rfl,_⟩:=hg;exact cD Jc
    ·rename_i Av;rw [if_neg Av]at hg;rw [hg.1,Jc]
   subst Lz;obtain⟨recs1,e1,e2,e3,e4,e5⟩:=tV (w':=w') (mk:=CI (.proj (.var r) (j+1)) (Aj P t)) Ep hU 0 O5 (by
    intro i z hz;split at hg
    ·rename_i Av;rw [Av];exact Qg (by rw [←hg.2];exact hy) i z hz
    ·rename_i Av;have FG:Aj P t=false:=by simpa using Av
     rw [hg.2]at hz;cases i with
     |zero=>simp at hz;subst hz;rw [FG];simpa [CI]using hy
     |succ i=>simp at hz)
   have s1:Ht c w' nx 0 _ (B4 rs) o1 f1 recs1:= .jv e1 e2 e3 e4 e5;exact⟨by simp [G5,h1],recs1++recs2,by simpa [after,CH,IH]using s1.app s2⟩
 | @bx t ts ms own own' ty v vs bs T b g olds hm Dk hv hK hH hol DO ih=>
  intro Bs f o nx j hb hB;cases hb with
  |ro h9 _=>rw [hm]at h9;cases h9
  |va h9 _=>rw [hm]at h9;cases h9
  |mu h9 _ _ _=>rw [hm]at h9;cases h9
  | @bx _ _ _ own2 own3 ty2 b2 C _ _ ys y Bs f1 o1 f o h9 HO CG hh Ck Hi hc h8=>
   rw [hm]at h9;cases h9;rw [Dk]at HO;cases HO;have ME:b2=b:=by rw [hv]at CG;cases CG;rfl
   subst ME;obtain⟨h1,recs2,s2⟩:=ih (nx+(AR P ty).length) (j+1) h8 (fun k y hy=>by rw [show j+1+k+1=j+(k+1)+1 from by omega];exact hB (k+1) y (by simpa using hy));have hy:=hB 0 y rfl;obtain⟨recs0,d1,d2,d3,d4,d5⟩:=cH (c:=c) (w':=w') olds hol;have s0:Ht c w' nx 0 (Ei olds) olds [] [] recs0:= .jv d1 (by rw [d2];exact List.Sublist.refl _) d3 d4 fun c' ha _=>d5 c' ha;obtain⟨recs1,e1,e2,e3,e4,_,e5⟩:=Nj (c:=c) (nx:=nx) (mk:=CI (.proj (.var r) (j+1)) true) hc 0 (Qg (by rw [←Hi];exact hy));have Zl:=hU _ _ hK;have s1:Ht c w' nx (AR P ty).length ((T, .box ty g (Cd P nx (CI (.proj (.var r) (j+1)) true) 0 (AR P ty) own').1)::(Cd P nx (CI (.proj (.var r) (j+1)) true) 0 (AR P ty) own').2) [T] (b2::o1) f1 (⟨T,none, [b2], .box ty g (Cd P nx (CI (.proj (.var r) (j+1)) true) 0 (AR P ty) own').1⟩::recs1):=by
    refine⟨by simp [e1,AF.pair], ?_,fun q hq hn=> ?_,fun q hq hn=> ?_,by simp,fun _ AM=> ?_,fun q hq=> ?_,fun c' ha Aw q hq=> ?_⟩
    ·simp only [List.flatMap_cons,e2,List.singleton_append];exact List.Sublist.refl _
    ·rcases Ae.1 hq with rfl|hq
     ·cases hn
     ·have:=e3 q hq;omega
    ·rcases Ae.1 hq with rfl|hq
     ·exact⟨by simp,Zl⟩
     ·have:=(e3 q hq).2.2;rw [hn]at this;cases this
    ·simp only [List.map_cons,List.nodup_cons];refine⟨fun hm=> ?_,e4⟩;obtain⟨q,hq,nG⟩:=List.mem_map.1 hm;have:=e3 q hq;exact AM q.tag (by omega) (by omega) (nG▸Zl)
    ·rcases Ae.1 hq with rfl|hq
     ·simp
     ·intro hs f he;obtain⟨q1,q2⟩:=e3 q hq;have:(q.tag,q.ar)∈(Cd P nx (CI (.proj (.var r) (j+1)) true) 0 (AR P ty) own').2:=by
       rw [e1];exact List.mem_map.2 ⟨q,hq,rfl⟩
      exact LV _ _ _ _ _ this he
    ·obtain⟨p1,p2⟩:=e5 c' (ha.mono fun r hr=>by simp [hr]) Aw;rcases Ae.1 hq with rfl|hq
     ·obtain⟨a1,a2⟩:=ha.K T 0 hK;have kg:=ha.G _ (List.mem_cons_self ..);simp only at kg;exact⟨b2,C,a1,by rw [a2,hH,hv],by rw [kg],by rw [kg],by rw [ha.w];exact hh,Ck,p1⟩
     ·exact p2 q hq
   refine⟨by simp [G5,h1],recs0++((⟨T,none, [b2], .box ty g (Cd P nx (CI (.proj (.var r) (j+1)) true) 0 (AR P ty) own').1⟩::recs1)++recs2), ?_⟩;have s3:=s0.app (s1.app s2);rw [Nat.zero_add]at s3;refine⟨by simpa [after]using s3.ents,s3.lq,s3.new,fun q hq hn=> ?_,fun t ht=> ?_,fun hn AM=> ?_,s3.ne,s3.ok⟩
   ·have:=s3.old q hq hn;simp only [CH,List.cons_append,Ae,Af,List.not_mem_nil,or_false,List.nil_append]at this ⊢;exact⟨by rcases this.1 with h|h|h;exact .inr (.inl h);exact .inl h;exact .inr (.inr h),this.2⟩
   ·refine s3.all t ?_;simp only [CH,List.cons_append,Ae,Af,List.nil_append]at ht ⊢;rcases ht with h|h|h
    ·exact .inr (.inl h)
    ·exact .inl h
    ·exact .inr (.inr h)
   ·refine s3.nodup ?_ AM;simp only [CH,List.cons_append,List.nodup_cons,List.nodup_append,Af,not_or,List.nil_append]at hn ⊢;obtain⟨⟨n1,n2⟩,n3,n4,n5⟩:=hn;refine⟨n3,⟨n2,n4⟩,fun a ha b hb=> ?_⟩;rcases Ae.1 hb with rfl|hb
    ·rintro rfl;exact n1 ha
    ·exact n5 a ha b hb
end
def Mg (P:Program):List TypeId→List Bool→List AV→Bool
 |t::ts,fl,y::ys=>((fl.headD false&&(B9 P t).isSome)||Ch P t||y.scalar)&&Mg P ts fl.tail ys
 |_,_,_=>true
def T8 (P:Program) (t:TypeId) (fl:List Bool) (x:AV):Bool:=if Fm P t fl then Mg P (AR P t) fl (if Aj P t then x.cells else [x])else Ch P t||x.cells.all AV.scalar
def TY (P:Program):List TypeId→List Bool→List AV→Bool
 |t::ts,fl,x::xs=>T8 P t fl x&&TY P ts (fl.drop (AR P t).length) xs
 |_,_,_=>true
def T5 (P:Program) (ts:List TypeId) (fl:List Bool) (R:AV):Bool:=match ts with
 | [t]=>T8 P t fl R
 |ts=>match R with
  | .tup ys=>TY P ts fl ys
  |_=>true
def G4 (P:Program):List TypeId→List PM→List AV→Bool
 |t::ts,ms,bs=>(match ms.headD .ro with
  | .ro=>G4 P ts ms.tail bs
  | .va _=>G4 P ts ms.tail bs
  | .mu _=>G4 P ts ms.tail bs.tail
  | .bx _ own'=>(match IK P t,bs with
   |some ty,b::_=>Mg P (AR P ty) own' b.cells
   |_,_=>true)&&G4 P ts ms.tail bs.tail)
 | [],_,_=>true
def Bg:List TypeId→List PM→Bool
 |_::ts,ms=>(match ms.headD .ro with
  | .mu _=>true
  | .bx .. =>true
  |_=>false)||Bg ts ms.tail
 | [],_=>false
def KC (P:Program) (fn:Func) (s:Ge) (r:AV):Bool:=
 if Bg (fn.params.toList++s.ft) s.bg then(match r with
  | .tup (R::bs)=>T5 P fn.resultTypes.toList s.res R&&G4 P (fn.params.toList++s.ft) s.bg bs
  |_=>false)
 else T5 P fn.resultTypes.toList s.res r
def IL (P:Program) (w:World) (ts:List TypeId) (fl:List Bool) (v:Value) (R:AV) (f o:List Nat):Prop:=match ts with
 | [t]=>Dr P w t fl v R f o
 |ts=> ∃vs ys,v= .tuple vs.toArray∧R= .tup ys∧Hq P w ts fl vs ys f o
structure Y4 (P:Program) (fn:Func) (s:Ge) (w:World) (vs:List Value) (rf hs:List Nat) (r:AV) (v:Value) (w':World):Prop where
 ex: ∃R bs f1 o1 f2 o2,r=(match bs with| []=>R|_=> .tup (R::bs))∧IL P w' fn.resultTypes.toList s.res v R f1 o1∧CY P w' (fn.params.toList++s.ft) s.bg vs bs f2 o2∧(o1++o2).Nodup∧
  (∀b∈o1++o2,(b∈hs∨w.heap.size≤b)∧b<w'.heap.size)∧ ∀b∈f1++f2,b∉o1++o2∧(b∈rf∨b∈hs∨w.heap.size≤b)
 mod:Mod hs w w'
theorem Rel.me {c:Cx} {n:Nat} {sl:Nat→SV} {hp:Nat→Option Ah} {a:Act} (h:Rel c n sl hp a) {hs:List Nat} (hh: ∀b∈hs,∃t,b∈(c.G t).top):YZ c.w (fun b=>b∈hs):=by
 obtain⟨p1,p2,p3⟩:=h.base.pk;refine⟨Nat.le_trans p1 h.base.size,EN.mono (fun b hb=>h.base.block b (by omega) fun hm=>by have:=p3 b hm;omega) p2,fun b hb=> ?_⟩;obtain⟨t,ht⟩:=hh b hb;rcases h.gw.allow t b (by simp [GI.own,ht])with k|k
 ·have:c.w0.heap.size≤b:=k;omega
 ·exact p3 b k
def Ok (P:Program) (s:Ge) (f:Nat) (xs:List AV) (r:AV):Prop:=
 ∃fn,P.funcs[f]?=some fn∧fn.body.isSome=true∧(fn.name== "runtime.NumGoroutine")=false∧KC P fn s r=true∧xs.length=fn.params.size+fn.nfree∧s.ft.length≤fn.nfree∧
  ∀(w:World) (vs:List Value) (rf lf hs:List Nat),CJ P w (fn.params.toList++s.ft) s.bg s.lo vs xs rf lf hs→(∀b∈hs,b∉rf)→(∀b∈hs,b∉lf)→hs.Nodup→YZ w (fun b=>b∈hs)→
   Calls P f vs.toArray w fun e w'=> ∃v,e= .returned v∧Y4 P fn s w vs rf hs r v w'
def Ca (P:Program) (sg:Bq) (f:Nat) (xs:List AV) (r:AV):Prop:=
 if f<1000000 then∃s,sg f=some s∧Ok P s f xs r else Ok P {bg:= [],res:= []} (f-1000000) xs r
section
variable {P:Program} {w:World}
theorem bC {v:Value} {x:AV} {f:List Nat} (h:Rd w [v] [x] f) (hx: ∀y∈x.cells,y.scalar=true):f= []:=by
 by_cases Av: ∃cs,x= .agg cs
 ·obtain⟨cs,rfl⟩:=Av;obtain⟨as_,_,_,hr⟩:=Ia h rfl;exact Gz hr hx
 ·have:x.cells= [x]:=by cases x<;>first|rfl|exact absurd ⟨_,rfl⟩ Av
  rw [this]at hx;exact Gz h hx
theorem uG {t el:TypeId} (h:B9 P t=some el):Ch P t=true:=by have hu:=Ix h;simp [Ch,BE,AR,TQ,hu]
theorem BR.flat {ts:List TypeId} {fl:List Bool} {us:List Value} {ys:List AV} {rf hs:List Nat} (h:BR P w ts fl us ys rf hs) (h1:DR P ts fl=false) (h2:Mg P ts fl ys=true):rf= []:=by
 induction h with
 |nil=>rfl
 |own k1 k2 k23 _ _ ih=>
  simp only [DR,Bool.or_eq_false_iff]at h1;simp only [Mg,Ac]at h2;have hN:=k23;have hw:=h1.1;rw [uG k2,k1]at hw;rcases hN with⟨_,rfl⟩|⟨q1,q2⟩
  ·rw [ih h1.2 h2.2];rfl
  ·simp [TT,k2,q1,q2]at hw
 |deep _ _ _ _ _ _ ih=>simp only [DR,Bool.or_eq_false_iff]at h1;simp only [Mg,Ac]at h2;exact ih h1.2 h2.2
 | @rd t ts fl u us y ys f rf hs hn hr _ ih=>
  simp only [DR,Bool.or_eq_false_iff]at h1;simp only [Mg,Ac]at h2;have DL:(fl.headD false&&(B9 P t).isSome)=false:=by
   cases hh:fl.headD false with
   |false=>rfl
   |true=>rw [hn hh];rfl
  have Vw:(fl.headD false&&TT P t)=false:=by
   cases hh:fl.headD false with
   |false=>rfl
   |true=>simp [TT,hn hh]
  rw [Vw]at h1;rw [DL]at h2;have It:Ch P t=false:=by simpa using h1.1
  rw [It]at h2;have hs:y.scalar=true:=by simpa using h2.1
  rw [Gz hr (by simpa using hs),ih h1.2 h2.2];rfl
theorem Dr.flat {t:TypeId} {fl:List Bool} {v:Value} {x:AV} {rf hs:List Nat} (h:Dr P w t fl v x rf hs) (h1:YR P t fl=false) (h2:T8 P t fl x=true):rf= []:=by
 unfold Dr at h;unfold YR at h1;unfold T8 at h2;split at h
 ·rename_i hf;rw [if_pos hf]at h1 h2;obtain⟨us,ys,hg,hc⟩:=h;split at hg
  ·rename_i Av;obtain⟨_,rfl,_⟩:=hg;rw [if_pos Av]at h2;exact hc.flat h1 h2
  ·rename_i Av;obtain⟨_,rfl⟩:=hg;rw [if_neg Av]at h2;exact hc.flat h1 h2
 ·rename_i hf;rw [if_neg hf]at h1 h2;rw [h1]at h2;exact bC h.1 (by simpa using h2)
theorem Hq.flat {ts:List TypeId} {fl:List Bool} {vs:List Value} {xs:List AV} {rf hs:List Nat} (h:Hq P w ts fl vs xs rf hs) (h1:CB P ts fl=false) (h2:TY P ts fl xs=true):rf= []:=by
 induction h with
 |nil=>rfl
 |cons hv _ ih=>simp only [CB,Bool.or_eq_false_iff]at h1;simp only [TY,Ac]at h2;rw [hv.flat h1.1 h2.1,ih h1.2 h2.2];rfl
theorem IL.flat {ts:List TypeId} {fl:List Bool} {v:Value} {R:AV} {f o:List Nat} (h:IL P w ts fl v R f o) (h1:CB P ts fl=false) (h2:T5 P ts fl R=true):f= []:=by
 match ts,h,h1,h2 with
 | [t],h,h1,h2=>simp only [CB,Bool.or_false]at h1;exact Dr.flat h h1 h2
 | [],h,h1,h2=>obtain⟨vs,ys,_,rfl,hv⟩:=h;exact hv.flat h1 h2
 |t::u::ts,h,h1,h2=>obtain⟨vs,ys,_,rfl,hv⟩:=h;exact hv.flat h1 h2
theorem Ce.void {ety sz:Nat} {a:Option Addr} {x:AV} {top N:List Nat} (h:Ce w ety sz (.slice a 0 0) x top N):N= []:=by
 obtain⟨xs,_,_,_,⟨_,_,_,h⟩|⟨g,cap,C,hv,h6,_,_,_,_,_,hr⟩⟩:=h
 ·exact h
 ·have h0:xs.length=0:=by injection hv with _ h _;exact h.symm
  have:xs= []:=by cases xs with|nil=>rfl|cons _ _=>simp at h0
  subst this;simp [Az]at hr;cases hr;rfl
theorem Fp.flat {c:Cx} {ts:List TypeId} {fl:List Bool} {us:List Value} {rs:List (Option RI)} (h:FC P c ts fl us rs): ∀{ys:List AV} {f o:List Nat},Fp P w ts fl us ys f o→rs.any RI.lent=false→f= []:=by
 induction h with
 |nil=>intro ys f o hm _;cases hm;rfl
 |row k1 k2 k23 _ _ _ _ ih=>
  intro ys f o hm hl;simp only [List.any_cons,Bool.or_eq_false_iff,RI.lent]at hl;cases hm with
  |own _ q2 q23 _ q4=>
   rw [k2]at q2;cases q2;rcases q23 with⟨_,rfl⟩|⟨q,_⟩
   ·exact ih q4 hl.2
   ·rw [q]at hl;simp at hl
  |deep _ _ _ _ _ q=>exact ih q hl.2
  |skip _ q=>exact ih q hl.2
 |deep k1 k2 k21 k22 _ _ _ _ _ ih=>
  intro ys f o hm hl;simp only [List.any_cons,Bool.or_eq_false_iff]at hl;cases hm with
  |own _ q2 q23 _ q4=>
   rw [k2]at q2;cases q2;rcases q23 with⟨_,rfl⟩|⟨_,q⟩
   ·exact ih q4 hl.2
   ·rw [q]at k22;cases k22
  |deep _ _ _ _ _ q=>exact ih q hl.2
  |skip _ q=>exact ih q hl.2
 |none hv _ ih=>
  intro ys f o hm hl;simp only [List.any_cons,Bool.or_eq_false_iff]at hl;cases hm with
  |own q1 q2 _ q3 q4=>
   rcases hv q1 with hh|⟨a,rfl⟩
   ·rw [hh]at q2;cases q2
   ·rw [Ce.void q3];exact ih q4 hl.2
  |deep _ _ _ _ _ q=>exact ih q hl.2
  |skip _ q=>exact ih q hl.2
theorem CY.flat {c:Cx} {ts:List TypeId} {ms:List PM} {vs:List Value} {bs:List PA} (h:Hm P c ts ms vs bs): ∀{Bs:List AV} {f o:List Nat},CY P w ts ms vs Bs f o→C7 P bs=false→G4 P ts ms Bs=true→f= []:=by
 induction h with
 |nil=>intro Bs f o hb _ _;cases hb;rfl
 | @ro ts ms v vs bs hm _ ih=>
  intro Bs f o hb h1 h2;cases hb with
  |nil=>rfl
  |ro _ h8=>simp only [G4,hm]at h2;exact ih h8 h1 h2
  |va h9 _=>rw [hm]at h9;cases h9
  |mu h9 _ _ _=>rw [hm]at h9;cases h9
  |bx h9 _ _ _ _ _ _ _=>rw [hm]at h9;cases h9
 | @va ts ms own v vs bs us hm _ _ ih=>
  intro Bs f o hb h1 h2;cases hb with
  |nil=>rfl
  |ro h9 _=>rw [hm]at h9;cases h9
  |va _ h8=>simp only [G4,hm]at h2;exact ih h8 h1 h2
  |mu h9 _ _ _=>rw [hm]at h9;cases h9
  |bx h9 _ _ _ _ _ _ _=>rw [hm]at h9;cases h9
 | @mu t ts ms own v vs bs us rs hm Jc Ep _ ih=>
  intro Bs f o hb h1 h2;cases hb with
  |ro h9 _=>rw [hm]at h9;cases h9
  |va h9 _=>rw [hm]at h9;cases h9
  | @mu _ _ _ own2 _ _ us2 ys y Bs f1 f o1 o h9 hg O5 h8=>
   rw [hm]at h9;cases h9;simp only [G4,hm]at h2;simp only [C7,Bool.or_eq_false_iff]at h1;have Lz:us2=us:=by
    split at Jc
    ·rename_i Av;rw [if_pos Av]at hg;obtain⟨rfl,_⟩:=hg;exact cD Jc
    ·rename_i Av;rw [if_neg Av]at hg;rw [hg.1,Jc]
   subst Lz;rw [Fp.flat Ep O5 h1.1,ih h8 h1.2 h2];rfl
  |bx h9 _ _ _ _ _ _ _=>rw [hm]at h9;cases h9
 | @bx t ts ms own own' ty v vs bs T b g olds hm Dk _ _ _ _ _ ih=>
  intro Bs f o hb h1 h2;cases hb with
  |ro h9 _=>rw [hm]at h9;cases h9
  |va h9 _=>rw [hm]at h9;cases h9
  |mu h9 _ _ _=>rw [hm]at h9;cases h9
  |bx h9 HO _ _ _ hy hc h8=>rw [hm]at h9;cases h9;rw [Dk]at HO;cases HO;simp only [G4,hm,Dk,Ac,hy,List.tail_cons]at h2;simp only [C7,Bool.or_eq_false_iff]at h1;rw [hc.flat h1.1 h2.1,ih h8 h1.2 h2.2];rfl
theorem Xc {ts:List TypeId} {ms:List PM} {vs:List Value} {Bs:List AV} {f o:List Nat} (h:CY P w ts ms vs Bs f o):Bs= []↔Bg ts ms=false:=by
 induction h with
 |nil=>simp [Bg]
 |ro hm _ ih=>simp only [Bg,hm,Bool.false_or];exact ih
 |va hm _ ih=>simp only [Bg,hm,Bool.false_or];exact ih
 |mu hm _ _ _ _=>simp only [Bg,hm,Bool.true_or];simp
 |bx hm _ _ _ _ _ _ _ _=>simp only [Bg,hm,Bool.true_or];simp
end
section
variable {P:Program} {c:Cx} {n nx:Nat} {sl sl0:Nat→SV} {hp hp0:Nat→Option Ah} {a:Act} {o:Oper} {gs:Gd} {e:AP} {sg:Bq} {nv:Nat}
theorem eS {xs:List Operand}: ∀{ss:List SV},(∀x∈xs,∀s,Bm sl0 gs x=some s→SR c [s] [a.eval x])→xs.mapM (Bm sl0 gs)=some ss→SR c ss (xs.map a.eval):=by
 induction xs with
 |nil=>intro ss _ h;simp at h;subst h;exact .nil
 |cons x xs ih=>intro ss hx h;rw [List.mapM_cons]at h;simp only [Option.bind_eq_bind,An,Option.pure_def,Ad]at h;obtain⟨s,hs,ss',Fg,rfl⟩:=h;exact(hx x (by simp) s hs).cons (ih (fun y hy=>hx y (by simp [hy])) Fg)
theorem Nt: ∀{l:List Nat},Jz l=true→l.Nodup
 | [],_=>by simp
 |x::l,h=>by simp only [Jz,Ac,Bool.not_eq_true',List.contains_eq_mem,decide_eq_false_iff_not]at h;exact List.nodup_cons.2 ⟨h.1,Nt h.2⟩
theorem uY {c1:Cx} {w':World} {recs:List AF} {hs f o:List Nat} (gw:GW c) (hg: ∀t,(c1.G t).top=(c.G t).top∨(c1.G t).top= []) (hA:c1.A=c.A) (Ur:c1.Mu=c.Mu) (Rz:c1.w0=c.w0) (hB:c.w0.heap.size≤c.w.heap.size)
  (hn:(recs.map AF.tag).Nodup) (BJ: ∀r∈recs,∀b∈r.top,b∈o) (FQ: ∀b∈hs,∃r∈recs,b∈(c.G r.tag).top) {rf:List Nat} (Kg: ∀b∈rf,c1.ok b) (hf: ∀b∈f,b∉o∧(b∈rf∨b∈hs∨c.w.heap.size≤b)): ∀b∈f,(c1.c8 w' recs).ok b:=by
 intro b hb;obtain⟨h1,h2⟩:=hf b hb;have hM:(c1.c8 w' recs).M b→ ∃t,(∀r∈recs,r.tag≠t)∧b∈(c1.G t).top:=by
  rintro⟨t,ht⟩;by_cases hT: ∃r∈recs,r.tag=t
  ·obtain⟨r,hr,rfl⟩:=hT;rw [Cx.de hn hr]at ht;exact absurd (BJ r hr b ht) h1
  ·rw [Cx.cg fun r hr hh=>hT ⟨r,hr,hh⟩]at ht;exact⟨t,fun r hr hh=>hT ⟨r,hr,hh⟩,ht⟩
 have sub: ∀t,b∈(c1.G t).top→b∈(c.G t).top:=fun t ht=>by
  rcases hg t with hh|hh
  ·rw [←hh];exact ht
  ·rw [hh]at ht;simp at ht
 rcases h2 with h2|h2|h2
 ·refine⟨fun hm=> ?_,(Kg b h2).2⟩;obtain⟨t,_,ht⟩:=hM hm;exact(Kg b h2).1 ⟨t,ht⟩
 ·obtain⟨r,hr,Rh⟩:=FQ b h2;refine⟨fun hm=> ?_, .inr ?_⟩
  ·obtain⟨t,DM,ht⟩:=hM hm;exact gw.bp r.tag t (DM r hr) b (by simp [GI.own,Rh]) (by simp [GI.own,sub t ht])
  ·have:=gw.allow r.tag b (by simp [GI.own,Rh]);simp only [Cx.c8,Cx.B,Rz,Ur]at this ⊢;exact this
 ·refine⟨fun hm=> ?_, .inr (.inl ?_)⟩
  ·obtain⟨t,_,ht⟩:=hM hm;have:=gw.inb t b (by simp [GI.own,sub t ht]);omega
  ·simp only [Cx.c8,Cx.B,Rz];omega
theorem vX (h:A3 P c n nx sl hp a sl0 hp0 o gs) {cl:Call} {fo:Operand} (ho:o.op= .call cl) (Ay:cl.callee= .value fo) {g:Nat} {caps:Ba} (hf:Bm sl0 gs fo=some (.fn g caps)) {as_:List SV} (has:cl.args.toList.mapM (Bm sl0 gs)=some as_)
  (hg:g<1000000) (he:Qt P sg hp0 gs nv nx g (as_++caps.toList)=some e) (AW: ∀c',e.call=some c'→ ∃r,c.ρ[nv]?=some r∧GZ (Ca P sg) c'.fn ((EL.of c'.args).den c.ρ) c.ρ r):At P o c n nx sl hp gs a e:=by
 have Vm:fo∈o.op.operands:=by simp [ho,Op.operands,Call.operands,Ay]
 have Vl: ∀x∈cl.args.toList,x∈o.op.operands:=fun x hx=>by
  have:x∈cl.args:=by simpa using hx
  simp [ho,Op.operands,Call.operands,Ay,this]
 have Kg:=h.bz hf Vm;generalize UZ:a.eval fo=fv at Kg;cases Kg with
 |fn OD h8=>
 rename_i capv;have Ao:=(eS (a:=a) (fun x hx s hs=>h.bz hs (Vl x hx)) has).app OD;unfold Qt at he;split at he
 ·rename_i fn s FM HR;split at he
  ·cases he
  rename_i hlen;simp only [Bool.or_eq_true,not_or,Bool.not_eq_true,bne_eq_false_iff_eq]at hlen;split at he
  ·cases he
  rename_i es bs us uz AS;split at he
  ·cases he
  rename_i By;simp only [Bool.or_eq_true,Bool.not_eq_true',not_or,Bool.not_eq_false,Bool.not_eq_true]at By;obtain⟨⟨Vu,Pa⟩,Pb⟩:=By;have Pc:=Nt Vu;have FH: ∀u∈us,u∉CH bs:=fun u hu hh=>by rw [List.any_eq_false]at Pa;have:=Pa u hu;simp only [List.contains_eq_mem,decide_eq_true_eq]at this;exact this hh
  have IW: ∀u∈uz,u∉CH bs:=fun u hu hh=>by rw [List.any_eq_false]at Pb;have:=Pb u hu;simp only [List.contains_eq_mem,decide_eq_true_eq]at this;exact this hh
  simp only at he;split at he
  ·cases he
  rename_i Bz;simp only [Nat.not_le]at Bz;split at he
  ·cases he
  rename_i HI;split at he
  ·cases he
  rename_i fz FO;have hK: ∀t g,c.K t g→c.U t:=h.rel.a6;obtain⟨rf,lf,hs,q1,q2,qz,q3,q4,q5,q6⟩:=dV (P:=P) h.rel.base h.eh h.gs hK (as_++caps.toList) AS Ao (by rw [hlen.1.2,AB,Array.length_toList];have:=hlen.2;simp only [decide_eq_false_iff_not,Nat.not_lt]at this;omega);obtain⟨fts,Gi,OR⟩: ∃fts,CL hp0 gs fts=some fz∧ ∀t∈fts,t∈us:=by
   split at FO
   ·exact⟨us,FO,fun t ht=>ht⟩
   ·simp only [Ad]at FO;subst FO;exact⟨[],rfl,by simp⟩
  have Cy:=h.rel.freeze h.hp h.gs Gi;have JZ: ∀t∈fz.map (·.1),t∈us:=fun t ht=>by obtain⟨⟨t',e'⟩,hm,rfl⟩:=List.mem_map.1 ht;exact OR _ ((LX h.gs Gi).1 t' e' hm).1
  have Ot: ∀t,((c.ax (fz.map (·.1))).G t).top=(c.G t).top∨((c.ax (fz.map (·.1))).G t).top= []:=fun t=>by
   simp only [Cx.ax];split
   ·exact .inr rfl
   ·exact .inl rfl
  have lD: ∀t∈CH bs,(c.ax (fz.map (·.1))).G t=c.G t:=fun t ht=>by simp only [Cx.ax];rw [if_neg];intro hh;exact FH t (JZ t hh) ht
  have Y8: ∀t∈CH bs,(c.ax (fz.map (·.1))).E t=c.E t:=fun t ht=>by simp only [Cx.ax];rw [if_neg];intro hh;exact FH t (JZ t hh) ht
  have VQ:hs.Nodup:=by
   rw [q3];have: ∀l:List Nat,l.Nodup→(l.flatMap fun t=>(c.G t).top).Nodup:=by
    intro l
    induction l with
    |nil=>intro _;simp
    |cons t l ih=>intro hl;rw [List.nodup_cons]at hl;rw [List.flatMap_cons,List.nodup_append];refine⟨(List.nodup_append.1 (h.rel.gw.nodup t)).1,ih hl.2,fun x hx y hy FW=> ?_⟩;subst FW;obtain⟨u,hu,V3⟩:=List.mem_flatMap.1 hy;exact h.rel.gw.bp t u (fun hh=>hl.1 (hh▸hu)) x (by simp [GI.own,hx]) (by simp [GI.own,V3])
   exact this _ Pc
  have HF: ∀b∈hs,∃t∈CH bs,b∈(c.G t).top:=fun b hb=>by rw [q3]at hb;exact List.mem_flatMap.1 hb
  have E1: ∀b∈hs,b∉rf:=fun b hb hr=>by
   obtain⟨t,ht,B2⟩:=HF b hb;rcases q2 b hr with hh|⟨u,hu,GG⟩
   ·exact hh.1 ⟨t,B2⟩
   ·exact h.rel.gw.bp t u (fun hh=>FH u hu (hh▸ht)) b (by simp [GI.own,B2]) (by simp [GI.own,GG])
  have HA: ∀b∈hs,b∉lf:=fun b hb hr=>by
   obtain⟨t,ht,B2⟩:=HF b hb;rcases qz b hr with(hh|⟨u,hu,GG⟩)|⟨h1,h2⟩
   ·exact hh.1 ⟨t,B2⟩
   ·exact h.rel.gw.bp t u (fun hh=>IW u hu (hh▸ht)) b (by simp [GI.own,B2]) (by simp [GI.own,GG])
   ·rcases h.rel.gw.allow t b (by simp [GI.own,B2])with k|k
    ·have:c.w0.heap.size≤b:=k;omega
    ·exact h2 k
  have El: ∃(val:SV) (l:List (Nat × Ah)),e={call:=some ⟨.inl g,es⟩,val:=val,ar:=fz++(QT gs l++after P nv (nx+(fn.resultTypes.toList.flatMap (AR P)).length) bs 0)}∧
    ∀(R:AV) (w':World) (v:Value) (f1 o1:List Nat),IL P w' fn.resultTypes.toList s.res v R f1 o1→(if G5 bs=0 then E.var nv else .proj (.var nv) 0).den c.ρ=R→ ∃recs:List AF,l=recs.map AF.pair∧recs.flatMap AF.top=o1∧(∀r∈recs,nx≤r.tag∧r.tag<nx+(fn.resultTypes.toList.flatMap (AR P)).length∧r.new.isSome)∧(recs.map AF.tag).Nodup∧
     (∀r∈recs,∀hs f,r.ar≠ .gd hs f)∧ ∀c',D9 c c' w' recs→(∀b∈f1,c'.ok b)→SR c' [val] [v]∧ ∀r∈recs,Cv c' r.tag r.ar:=by
   have A4: ∀{l:List (Nat × Ah)} {recs:List AF},l=recs.map AF.pair→(∀t x,(t,x)∈l→ ∀hs f,x≠ .gd hs f)→ ∀r∈recs,∀hs f,r.ar≠ .gd hs f:=by rintro l recs rfl hh r hr;exact hh r.tag r.ar (List.mem_map.2 ⟨r,hr,rfl⟩)
   have fvne: ∀(t:TypeId) (k:Nat) (fl:List Bool) (x:E) (u:Nat) (y:Ah),(u,y)∈(L7 P k t fl x).2→ ∀hs f,y≠ .gd hs f:=by
    intro t k fl x u y hy hs f;unfold L7 at hy;split at hy
    ·exact LV _ _ _ _ _ hy
    ·simp at hy
   split at he
   ·rename_i t Pu;simp only [Ad]at he;subst he;refine⟨_,_,rfl,fun R w' v f1 o1 hr hR=> ?_⟩;rw [Pu]at hr;obtain⟨recs,e1,e2,e3,e4,e5⟩:=bB (c:=c) (nx:=nx) (x:=if G5 bs=0 then E.var nv else .proj (.var nv) 0) (show Dr P w' t s.res v R f1 o1 from hr) hR;exact⟨recs,e1,e2,by simpa [Pu]using e3,e4,A4 e1 (fvne _ _ _ _),e5⟩
   ·rename_i Pu;simp only [Ad]at he;subst he;refine⟨_,_,rfl,fun R w' v f1 o1 hr hR=> ?_⟩;obtain⟨vs,ys,rfl,rfl,hv⟩: ∃vs ys,v= .tuple vs.toArray∧R= .tup ys∧Hq P w' fn.resultTypes.toList s.res vs ys f1 o1:=by
     unfold IL at hr;split at hr
     ·rename_i t ht;exact absurd ht (Pu t)
     ·exact hr
    obtain⟨recs,e1,e2,e3,e4,e5⟩:=rV (c:=c) (x:=if G5 bs=0 then E.var nv else .proj (.var nv) 0) hv nx 0 (fun k y hy=>by show AV.proj ((if G5 bs=0 then E.var nv else .proj (.var nv) 0).den c.ρ) (0+k)=y;rw [hR];simp [AV.proj,hy])
    have fvsne: ∀(ts:List TypeId) (k:Nat) (fl:List Bool) (x:E) (i u:Nat) (y:Ah),(u,y)∈(Kw P k ts fl x i).2→ ∀hs f,y≠ .gd hs f:=by
     intro ts
     induction ts with
     |nil=>intro k fl x i u y hy;simp [Kw]at hy
     |cons t ts ih=>
      intro k fl x i u y hy;simp only [Kw,Af]at hy;rcases hy with hy|hy
      ·exact fvne _ _ _ _ _ _ hy
      ·exact ih _ _ _ _ _ _ hy
    exact⟨recs,e1,e2,e3,e4,A4 e1 (fvsne _ _ _ _ _),fun c' ha Aw=>⟨.tup (by rw [Ba.aj];exact(e5 c' ha Aw).1) .nil,(e5 c' ha Aw).2⟩⟩
  obtain⟨val,l,rfl,Lx⟩:=El;obtain⟨r,hr,Aw⟩:=AW _ rfl;have Lw: ∃s',sg g=some s'∧Ok P s' g ((EL.of es).den c.ρ) r:=by have Aw:Ca P sg g ((EL.of es).den c.ρ) r:=Aw;unfold Ca at Aw;rwa [if_pos hg]at Aw
  obtain⟨s',AX,fn',HD,C5,E7,BH,_,_,EF⟩:=Lw;rw [HR]at AX;cases AX;rw [FM]at HD;cases HD;rw [EL.cq]at EF;have AW:=EF c.w _ rf lf hs q1 E1 HA VQ (h.rel.me fun b hb=>by obtain⟨t,_,ht⟩:=HF b hb;exact⟨t,ht⟩);have ex:(execOp a.eval o).run P c.w= .ok (.enter g (cl.args.map a.eval++capv.toArray)) c.w:=by
   have hb:fn.body.isNone=false:=by simpa using C5
   simp only [execOp,ho,resolve,Ay,UZ,Deferred.ofValue,Sem.run_bind,Sem.run_pure,Result.andThen_ok,invoke,callFunc,run_program,FM];simp [E7,hb]
  intro next Q hk
  unfold Oper.wp;rw [ex,Oper.upon_enter];have K2:cl.args.map a.eval++capv.toArray=((cl.args.toList.map a.eval)++capv).toArray:=by apply Array.ext';simp
  rw [K2];refine AW.mono ?_;rintro e' w' ⟨v,rfl,⟨R,Bs,f1,o1,f2,o2,I9,AK,Ek,FR,Pf,OP⟩,Ci⟩;show next (a.put o.dst v) w'
  have lA: ∀k y,Bs[k]?=some y→(E.proj (.var nv) (0+k+1)).den c.ρ=y:=by
   intro k y hy;cases Bs with
   |nil=>simp at hy
   |cons B Bs=>simp only [E.den,hr,Option.getD_some,I9,AV.proj,Nat.zero_add,List.getElem?_cons_succ,hy]
  obtain⟨O8,recsB,hB⟩:=uQ (w':=w') q4 hK (r:=nv) (nx+(fn.resultTypes.toList.flatMap (AR P)).length) 0 Ek lA;have hR:(if G5 bs=0 then E.var nv else .proj (.var nv) 0).den c.ρ=R:=by
   cases Bs with
   |nil=>rw [if_pos (by simpa using O8.symm)];simp only [E.den,hr,Option.getD_some,I9]
   |cons B Bs=>rw [if_neg (by rw [←O8];simp)];simp [E.den,hr,I9,AV.proj]
  obtain⟨recsV,v1,v2,v3,v4,v5,v6⟩:=Lx R w' v f1 o1 AK hR;have E8: ∀t,nx≤t→t<nx+((fn.resultTypes.toList.flatMap (AR P)).length+IH P bs)→ ¬c.U t:=fun t h1 h2=>h.new t h1 (by omega);have Oo:=hB.nodup Pc fun t h1 h2=>E8 t (by omega) (by omega);have Cj:((recsV++recsB).map AF.tag).Nodup:=by
   rw [List.map_append,List.nodup_append];refine⟨v4,Oo,fun t1 h1 t2 h2 he=> ?_⟩;obtain⟨p1,VA,rfl⟩:=List.mem_map.1 h1;obtain⟨p2,Zu,rfl⟩:=List.mem_map.1 h2;have a1:=v3 p1 VA;cases hn:p2.new with
   |none=>exact E8 p1.tag (by omega) (by omega) (he▸(hB.old p2 Zu hn).2)
   |some _=>have:=hB.new p2 Zu (by simp [hn]);omega
  have Gl: ∀r∈recsV++recsB,r.new.isSome=true→nx≤r.tag∧r.tag<nx+((fn.resultTypes.toList.flatMap (AR P)).length+IH P bs):=fun r hr hn=>by
   rcases Af.1 hr with hr|hr
   ·have:=v3 r hr;omega
   ·have:=hB.new r hr hn;omega
  have DQ:((recsV++recsB).flatMap AF.top).Sublist (o1++o2):=by rw [List.flatMap_append,v2];exact(List.Sublist.refl _).append hB.lq
  have U6: ∀b∈hs,∃r∈recsV++recsB,b∈(c.G r.tag).top:=fun b hb=>by obtain⟨t,ht,B2⟩:=HF b hb;obtain⟨r,hr,rfl⟩:=hB.all t ht;exact⟨r,by simp [hr],B2⟩
  have OZ: ∀b∈hs,∃r∈recsV++recsB,b∈((c.ax (fz.map (·.1))).G r.tag).top:=fun b hb=>by obtain⟨t,ht,B2⟩:=HF b hb;obtain⟨r,hr,rfl⟩:=hB.all t ht;exact⟨r,by simp [hr],by rw [lD _ ht];exact B2⟩
  have HT: ∀r∈recsV++recsB,∀b∈r.top,b∈o1++o2:=fun r hr b hb=>DQ.subset (List.mem_flatMap.2 ⟨r,hr,hb⟩);have Lr: ∀b∈f1++f2,((c.ax (fz.map (·.1))).c8 w' (recsV++recsB)).ok b:=by
   cases Ry:(CB P fn.resultTypes.toList s.res||C7 P bs)with
   |false=>
    simp only [Bool.or_eq_false_iff]at Ry;have D4:T5 P fn.resultTypes.toList s.res R=true∧G4 P (fn.params.toList++s.ft) s.bg Bs=true:=by
     unfold KC at BH;cases KZ:Bs with
     |nil=>
      rw [if_neg (by rw [(Xc Ek).1 KZ];simp)]at BH;rw [KZ]at I9;rw [I9]at BH;refine⟨BH, ?_⟩;have: ∀(ts:List TypeId) (ms:List PM),G4 P ts ms []=true:=by
       intro ts
       induction ts with
       |nil=>intro ms;rfl
       |cons t ts ih=>
        intro ms;unfold G4;split
        ·exact ih _
        ·exact ih _
        ·exact ih _
        ·split
         ·rename_i hh;cases hh
         ·simpa using ih _
      exact this _ _
     |cons B Bs'=>
      rw [if_pos (by
       cases hh:Bg (fn.params.toList++s.ft) s.bg with
       |true=>rfl
       |false=>rw [(Xc Ek).2 hh]at KZ;cases KZ)]at BH
      rw [I9,KZ]at BH;simpa using BH
    have e1:f1= []:=AK.flat Ry.1 D4.1;have e2:f2= []:=CY.flat q4 Ek Ry.2 D4.2;subst e1;subst e2;simp
   |true=>rw [Ry]at HI FO;simp only [Bool.true_and,Bool.not_eq_true',Bool.not_eq_false]at HI;simp only [if_true]at FO;exact uY (rf:=rf) h.rel.gw Ot rfl rfl rfl h.rel.base.size Cj HT U6 (fun b hb=>P5 h.rel h.eh h.gs FO (by simpa using HI) (q2 b hb)) OP
  have ON:after P nv (nx+(fn.resultTypes.toList.flatMap (AR P)).length) bs 0=recsB.map fun r=>(r.tag,Cf gs r.ar):=by
   cases MF:bs with
   |nil=>
    have:=hB.ents;rw [MF]at this;simp only [after]at this;have:recsB= []:=by simpa using this.symm
    rw [this];rfl
   |cons b bs'=>have Eb:=q6 (by rw [MF];simp);rw [←MF,hB.ents,Eb];rfl
  have A5:QT gs l++after P nv (nx+(fn.resultTypes.toList.flatMap (AR P)).length) bs 0=(recsV++recsB).map fun r=>(r.tag,Cf gs r.ar):=by rw [ON,List.map_append];congr 1;rw [v1];simp [QT,AF.pair]
  obtain⟨En,Bt⟩:=Cy.changes (w':=w') (recs:=recsV++recsB) (hs:=hs) (gs:=gs) h.gs Ci Cj (fun r hr hn=>by have:=Gl r hr hn;exact E8 _ this.1 this.2) OZ (DQ.nodup FR) (fun r hr b hb=>Pf b (HT r hr b hb))
   (fun r hr=>by
    rcases Af.1 hr with hr|hr
    ·exact v5 r hr
    ·exact hB.ne r hr)
   (fun _ r hr=>by
    have aft:=Cx.db (c:=c.ax (fz.map (·.1))) (w':=w') (recs:=recsV++recsB) h.rel.a6 Cj (fun r hr hn=>by have:=Gl r hr hn;exact E8 _ this.1 this.2);have aft':D9 c ((c.ax (fz.map (·.1))).c8 w' (recsV++recsB)) w' (recsV++recsB):=⟨aft.ρ,aft.w,aft.G,aft.new,aft.K,aft.old,aft.jy,fun r hr DL=>(aft.gp r hr DL).trans (by
     rcases Af.1 hr with hr|hr
     ·have:=(v3 r hr).2.2;rw [DL]at this;cases this
     ·rw [Y8 _ (hB.old r hr DL).1])⟩
    rcases Af.1 hr with hr|hr
    ·exact(v6 _ (aft'.mono fun r hr=>by simp [hr]) fun b hb=>Lr b (by simp [hb])).2 r hr
    ·exact hB.ok _ (aft'.mono fun r hr=>by simp [hr]) (fun b hb=>Lr b (by simp [hb])) r hr)
  have aft:=Cx.db (c:=c.ax (fz.map (·.1))) (w':=w') (recs:=recsV++recsB) h.rel.a6 Cj (fun r hr hn=>by have:=Gl r hr hn;exact E8 _ this.1 this.2);have aft':D9 c ((c.ax (fz.map (·.1))).c8 w' (recsV++recsB)) w' (recsV++recsB):=⟨aft.ρ,aft.w,aft.G,aft.new,aft.K,aft.old,aft.jy,fun r hr DL=>(aft.gp r hr DL).trans (by
     rcases Af.1 hr with hr|hr
     ·have:=(v3 r hr).2.2;rw [DL]at this;cases this
     ·rw [Y8 _ (hB.old r hr DL).1])⟩
  have HV:=(v6 _ (aft'.mono fun r hr=>by simp [hr]) fun b hb=>Lr b (by simp [hb])).1;rw [←A5,←L6]at En;refine hk _ ((c.ax (fz.map (·.1))).c8 w' (recsV++recsB)) ⟨rfl,rfl,rfl,rfl,fun t ht=> ?_⟩ (En.put (HV.mkGd gs h.gs) o.dst);rcases ht with ht|⟨r,hr,rfl⟩
  ·exact .inl ht
  ·cases hn:r.new with
   |none=>
    rcases Af.1 hr with hr|hr
    ·have:=(v3 r hr).2.2;rw [hn]at this;cases this
    ·exact .inl (hB.old r hr hn).2
   |some _=>have:=Gl r hr (by simp [hn]);exact .inr ⟨this.1,by simp only [Bh];omega⟩
 ·cases he
end
def BL (c:Cx) (us:List Nat):List Nat:=us.flatMap fun t=>(c.G t).top
theorem Xk (c:Cx):BL c []= []:=rfl
theorem Tj (c:Cx) (u:Nat) (us:List Nat):BL c (u::us)=(c.G u).top++BL c us:=by simp [BL]
theorem H4 (c:Cx) (us vs:List Nat):BL c (us++vs)=BL c us++BL c vs:=by simp [BL]
theorem Nr {c:Cx} {us:List Nat} {b:Nat}:b∈BL c us↔ ∃t∈us,b∈(c.G t).top:=by simp [BL]
theorem SZ {c:Cx} (gw:GW c): ∀{l:List Nat},l.Nodup→(BL c l).Nodup
 | [],_=>by simp [BL]
 |t::l,hl=>by
  rw [Tj,List.nodup_append];rw [List.nodup_cons]at hl;refine⟨?_,SZ gw hl.2,fun a ha b hb lS=> ?_⟩
  ·have:=gw.nodup t;simp only [GI.own]at this;exact(List.nodup_append.1 this).1
  ·subst lS;obtain⟨u,hu,GG⟩:=Nr.1 hb;exact gw.bp t u (fun hh=>hl.1 (hh▸hu)) a (by simp [GI.own,ha]) (by simp [GI.own,GG])
section
variable {P:Program} {c:Cx} {hp:Nat→Option Ah} {gs:Gd}
theorem X7 {m:Nat} {u g:Nat} {x y:E} (hx:A2 hp gs m (.own u g)=some x) (hy:GQ hp gs u g=some y):x=y:=by
 cases m with
 |zero=>simp [A2]at hx
 |succ m=>simp only [A2,hy,Ad]at hx;exact hx.symm
theorem fW {m:Nat} {x:E} (h:A2 hp gs m .emp=some x):x= .lst .nil:=by
 cases m with
 |zero=>simp [A2]at h
 |succ m=>simp [A2]at h;exact h.symm
theorem tR (eh:EH c hp) (k:AY c.ρ gs) {d:DT} {s:SV} {us:List Nat} {ck:List Cn} {v:Value} {x:E} {m:Nat} (h:Yz hp gs d s=some (us,ck)) (hs:SR c [s] [v]) (hx:A2 hp gs m s=some x) (hc: ∀q∈ck,q.den c.ρ):
  DC c.w [d] [v] [x.den c.ρ] (BL c us)∧ ∀u∈us,∃g,c.K u g:=by
 unfold Yz at h;split at h
 ·rename_i y;simp only [Ad,Prod.mk.injEq]at h;obtain⟨rfl,rfl⟩:=h;rw [IG hx];cases hs with
  |e h1 h2 h3=>
   rename_i f;have Ee:(y.den c.ρ).scalar=true:=by
    cases hl:QZ y with
    |true=>cases y<;>simp [QZ]at hl<;>rfl
    |false=>rw [hl]at hc;exact(Bx hc).2.2.2 rfl
   have hf:f= []:=Gz h1 (by simpa using Ee);subst hf;exact⟨.flat h1 .nil,by simp⟩
 ·split at h
  ·rename_i hh;simp only [Ad,Prod.mk.injEq]at h;obtain⟨rfl,rfl⟩:=h;rw [Jj hx];cases hs with
   |a8 _=>exact⟨.void hh.1 hh.2 .nil,by simp⟩
  ·cases h
 ·split at h
  ·rename_i hh;simp only [Ad,Prod.mk.injEq]at h;obtain⟨rfl,rfl⟩:=h;rw [fW hx];cases hs with
   |emp _=>exact⟨.void hh.1 hh.2 .nil,by simp⟩
  ·cases h
 ·rename_i e z l u g;split at h
  ·rename_i e' z' l' g' ep y hl;split at h
   ·rename_i hh;obtain⟨rfl,rfl,rfl,hb⟩:=hh;simp only [Ad,Prod.mk.injEq]at h;obtain⟨rfl,rfl⟩:=h;obtain⟨q1,q2,q3,q4,q5⟩:=eh u _ (Cm hl k);rw [X7 (y:=y) hx (by simp only [GQ,hl,if_true])];have hb:=AH.of_eq hb;subst hb;rw [AH.bw]at q4;cases hs with
    |own k1 k2 _=>rw [k2]at q4;exact⟨by rw [Tj,Xk,List.append_nil];exact q4,fun w hw=>by simp at hw;subst hw;exact⟨_,k1⟩⟩
   ·cases h
  ·rename_i e' z' g' y hl;split at h
   ·rename_i hh;obtain⟨rfl,rfl,rfl,hf,hlen⟩:=hh;simp only [Ad,Prod.mk.injEq]at h;obtain⟨rfl,rfl⟩:=h;obtain⟨q1,q2,N,q4,q5,q6,q7⟩:=eh u _ (Cm hl k);obtain⟨hN,_⟩:=q6 rfl;have hN:N= []:=hN;subst hN;rw [X7 (y:=y) hx (by simp only [GQ,hl,if_true])];cases hs with
    |own k1 k2 _=>rw [k2]at q4;exact⟨by rw [Tj,Xk,List.append_nil];exact DC.kp q4 hf hlen,fun w hw=>by simp at hw;subst hw;exact⟨_,k1⟩⟩
   ·cases h
  ·cases h
 ·cases h
theorem W0 (eh:EH c hp) (k:AY c.ρ gs): ∀(ds:List DT) {ss:List SV} {us:List Nat} {ck:List Cn} {vs:List Value} {xs:EL} {m:Nat},KI hp gs ds ss=some (us,ck)→SR c ss vs→BV hp gs m ss=some xs→(∀q∈ck,q.den c.ρ)→
  DC c.w ds vs (xs.den c.ρ) (BL c us)∧ ∀u∈us,∃g,c.K u g
 | [], [],us,ck,vs,xs,m,h,hs,hx,hc=>by
  simp [KI]at h;obtain⟨rfl,rfl⟩:=h;cases hs;cases m with
  |zero=>simp [BV]at hx
  |succ m=>simp [BV]at hx;subst hx;exact⟨.nil,by simp⟩
 | [],_::_,us,ck,vs,xs,m,h,hs,hx,hc=>by simp [KI]at h
 |_::_, [],us,ck,vs,xs,m,h,hs,hx,hc=>by simp [KI]at h
 |d::ds,s::ss,us,ck, [],xs,m,h,hs,hx,hc=>by have:=hs.len;simp at this
 |d::ds,s::ss,us,ck,v::vs,xs,m,h,hs,hx,hc=>by
  obtain⟨j,y,ys,rfl,hy,CD,rfl⟩:=Iy hx;obtain⟨r1,r2⟩:=hs.bf;unfold KI at h;split at h
  ·rename_i us1 ck1 us2 ck2 h1 h2;simp only [Ad,Prod.mk.injEq]at h;obtain⟨rfl,rfl⟩:=h;obtain⟨q1,q2⟩:=tR eh k h1 r1 hy fun q hq=>hc q (by simp [hq]);obtain⟨q3,q4⟩:=W0 eh k ds h2 r2 CD fun q hq=>hc q (by simp [hq]);refine⟨by rw [H4];exact q1.app q3,fun u hu=> ?_⟩;rcases Af.1 hu with hu|hu
   ·exact q2 u hu
   ·exact q4 u hu
  ·cases h
theorem bE (eh:EH c hp) (k:AY c.ρ gs) {t:TypeId} {ds:List DT} {s:SV} {us:List Nat} {ck:List Cn} {v:Value} {x:E} (FJ:ds.length=P.cellsOf t) (hg:Aj P t=true∨P.cellsOf t=1) (h:NR P hp gs t ds s=some (x,us,ck)) (hs:SR c [s] [v]) (hc: ∀q∈ck,q.den c.ρ):
  DC c.w ds v.cells.toList (x.den c.ρ).cells (BL c us)∧(∀u∈v.cells.toList,u.oneCell'=true)∧(x.den c.ρ).cells.length=P.cellsOf t∧v.cells.size=P.cellsOf t∧
   (if Aj P t then∃cs,x.den c.ρ= .agg cs else(∀cs,x.den c.ρ≠ .agg cs)∧ ∀cs,x.den c.ρ≠ .tup cs)∧ ∀u∈us,∃g,c.K u g:=by
 unfold NR at h;split at h
 ·cases h
 rename_i y hy;split at h
 ·rename_i D4;simp only [Ad,Prod.mk.injEq]at h;obtain⟨rfl,rfl,rfl⟩:=h;obtain⟨f,q1,q2⟩:=Gy eh k AJ hy hs AJ (Nat.le_refl _);obtain⟨c1,c2,c3,c4⟩:=Bx hc;have El:if Aj P t then∃cs,y.den c.ρ= .agg cs∧cs.length=P.cellsOf t else(∀cs,y.den c.ρ≠ .agg cs)∧ ∀cs,y.den c.ρ≠ .tup cs:=by
   split
   ·rename_i Av;obtain⟨cs,Bb⟩:=c3 Av;exact⟨cs,Bb,by rw [Bb]at c1;exact c1⟩
   ·rename_i Av;have:=c4 (by simpa using Av);exact⟨fun cs Bb=>by rw [Bb]at this;simp [AV.scalar]at this,fun cs Bb=>by rw [Bb]at this;simp [AV.scalar]at this⟩
  have hf:f= []:=by
   cases OV:Aj P t with
   |true=>obtain⟨cs,Bb⟩:=c3 OV;obtain⟨as_,rfl,_,r⟩:=Ia q1 Bb;exact Gz r (by rw [Bb]at c2;exact c2)
   |false=>exact Gz q1 (by simpa using c4 OV)
  subst hf;obtain⟨o1,o2,o3,o4⟩:=XA (P:=P) q1 hg El;refine⟨DC.l0 o1 D4 (by rw [FJ];simpa using o4.symm),o2,o3,o4, ?_,by simp⟩;split at El
  ·rename_i Av;rw [if_pos Av];obtain⟨cs,Bb,_⟩:=El;exact⟨cs,Bb⟩
  ·rename_i Av;rw [if_neg Av];exact El
 ·rename_i E9;split at h
  ·cases h
  rename_i Av;have Av:(Gw s).2=Aj P t:=by simpa using Av
  obtain⟨⟨us',ck'⟩,hr,h⟩:=Am.1 h;simp only [Prod.mk.injEq]at h;obtain⟨rfl,rfl,rfl⟩:=h;have single:Aj P t=false→KI hp gs ds [s]=some (us',ck')→DC c.w ds v.cells.toList (y.den c.ρ).cells (BL c us')∧(∀u∈v.cells.toList,u.oneCell'=true)∧(y.den c.ρ).cells.length=P.cellsOf t∧v.cells.size=P.cellsOf t∧
   (if Aj P t then∃cs,y.den c.ρ= .agg cs else(∀cs,y.den c.ρ≠ .agg cs)∧ ∀cs,y.den c.ρ≠ .tup cs)∧ ∀u∈us',∃g,c.K u g:=by
   intro Av hr;have Bc:BV hp gs (AJ+1) [s]=some (.cons y .nil):=by unfold BV;rw [hy];rfl
   obtain⟨q1,q2⟩:=W0 eh k ds hr hs Bc hc;have Zm:=q1.len;simp only [EL.den,AA,List.length_nil]at Zm
   match ds,Zm,q1,E9,FJ with
   | [d],_,q1,E9,FJ=>
    cases d with
    |flat=>simp [DT.ay]at E9
    |row e z l=>
     obtain⟨p,q,r,rfl⟩:=q1.head;obtain⟨xs,B1⟩: ∃xs,y.den c.ρ= .sl xs:=by
      obtain⟨_,_,⟨_,_,hx,_⟩|⟨_,_,_,_,_,_,hx,_⟩⟩:=q1.inv
      ·exact⟨_,hx⟩
      ·exact⟨_,hx⟩
     rw [if_neg (by rw [Av];simp)];refine⟨?_,by simp [Value.cells,Value.oneCell'],by rw [B1,←FJ];rfl,by rw [←FJ];rfl, ?_,q2⟩
     ·simp only [EL.den]at q1;rw [B1]at q1 ⊢;exact q1
     ·rw [B1];exact⟨fun cs hh=>(by cases hh),fun cs hh=>(by cases hh)⟩
  cases s with
  |agg cs=>
   simp only [Gw]at Av hr;obtain⟨m,l,hm,hl,rfl⟩:=Qi hy;cases hs with
   |agg h9 h1 h8=>rename_i as_;obtain⟨q1,q2⟩:=W0 eh k ds hr h1 hl hc;obtain⟨l1,l2⟩:=q1.len;rw [if_pos Av.symm];exact⟨by simpa [Value.cells,AV.cells,E.den]using q1,by simpa [Value.cells]using h9,by simp only [E.den,AV.cells];omega,by simp [Value.cells];omega,⟨_,rfl⟩,q2⟩
  |_=>exact single Av.symm hr
theorem bA (eh:EH c hp) (k:AY c.ρ gs) {t:TypeId} {ds:List DT} (FJ:ds.length=P.cellsOf t) (hg:Aj P t=true∨P.cellsOf t=1): ∀(ss:List SV) (vs:List Value) {xs:List E} {us:List Nat} {ck:List Cn},SR c ss vs→Qj P hp gs t ds ss=some (xs,us,ck)→(∀q∈ck,q.den c.ρ)→
  DC c.w (Cw vs.length ds) (vs.flatMap fun v=>v.cells.toList) (Az (xs.map (E.den c.ρ))) (BL c us)∧(∀v∈vs,v.cells.size=P.cellsOf t∧ ∀u∈v.cells.toList,u.oneCell'=true)∧(∀x∈xs,(x.den c.ρ).cells.length=P.cellsOf t)∧xs.length=vs.length∧ ∀u∈us,∃g,c.K u g
 | [],vs,xs,us,ck,hr,ht,hc=>by simp [Qj]at ht;obtain⟨rfl,rfl,rfl⟩:=ht;cases hr;exact⟨by simpa [Az,Cw,BL]using DC.nil,by simp,by simp,rfl,by simp⟩
 |s::ss, [],xs,us,ck,hr,ht,hc=>by have:=hr.len;simp at this
 |s::ss,v::vs,xs,us,ck,hr,ht,hc=>by
  obtain⟨r1,r2⟩:=hr.bf;unfold Qj at ht;split at ht
  ·rename_i x us1 ck1 xs2 us2 ck2 h1 h2;simp only [Ad,Prod.mk.injEq]at ht;obtain⟨rfl,rfl,rfl⟩:=ht;obtain⟨q1,q2,q3,q4,q5,q6⟩:=bE eh k FJ hg h1 r1 (fun q hq=>hc q (by simp [hq]));obtain⟨p1,p2,p3,p4,p5⟩:=bA eh k FJ hg ss vs r2 h2 (fun q hq=>hc q (by simp [hq]));refine⟨?_, ?_, ?_,by simp [p4], ?_⟩
   ·have:=q1.app p1;rw [AA,L3,H4];simpa [Az]using this
   ·intro u hu;rcases Ae.1 hu with rfl|hu
    ·exact⟨q4,q2⟩
    ·exact p2 u hu
   ·intro u hu;rcases Ae.1 hu with rfl|hu
    ·exact q3
    ·exact p3 u hu
   ·intro u hu;rcases Af.1 hu with hu|hu
    ·exact q6 u hu
    ·exact p5 u hu
  ·cases ht
theorem bV (eh:EH c hp) (k:AY c.ρ gs) {e z:Nat} {l:List DT} {s:SV} {us:List Nat} {v:Value} {y:E} {m:Nat} (h:QI hp gs e z l s=some us) (hs:SR c [s] [v]) (hy:A2 hp gs m s=some y):
  ∃ys q r news N,y.den c.ρ= .sl ys∧v= .slice q ys.length r∧Src c.w z q ys.length news∧DC c.w (Cw ys.length l) news (Az ys) N∧N.Sublist (BL c us)∧(∀y∈ys,y.cells.length=z)∧(∀u∈news,u.oneCell'=true)∧ ∀u∈us,∃g,c.K u g:=by
 have empt: ∀q,v= .slice q 0 0→y= .lst .nil→us= []→ ∃ys q r news N,y.den c.ρ= .sl ys∧v= .slice q ys.length r∧Src c.w z q ys.length news∧DC c.w (Cw ys.length l) news (Az ys) N∧N.Sublist (BL c us)∧(∀y∈ys,y.cells.length=z)∧(∀u∈news,u.oneCell'=true)∧ ∀u∈us,∃g,c.K u g:=by
  rintro q rfl rfl rfl;refine⟨[],q,0, [], [],rfl,rfl, ?_,by simpa [Cw,Az]using DC.nil,by simp,by simp,by simp,by simp⟩;cases q with
  |none=>exact .inl ⟨rfl,rfl,rfl⟩
  |some p=>exact .inr ⟨p,rfl,by simp,by simp,by simp⟩
 unfold QI at h;split at h
 ·simp only [Ad]at h;cases hs with
  |a8 _=>exact empt _ rfl (Jj hy) h.symm
 ·simp only [Ad]at h;cases hs with
  |emp _=>exact empt _ rfl (fW hy) h.symm
 ·rename_i u g;split at h
  ·rename_i e' z' l' g' ep x hl;split at h
   ·rename_i hh;obtain⟨rfl,rfl,rfl,hb⟩:=hh;simp only [Ad]at h;subst h;have hb:=AH.gm hb;subst hb;obtain⟨q1,q2,q3,q4,q5⟩:=eh u _ (Cm hl k);have FY:=X7 (y:=x) hy (by simp only [GQ,hl,if_true]);subst FY;cases hs with
    |own k1 k2 k3=>
     rename_i p0 n0 r0;rw [k2]at q4;have hK: ∀w∈ [u],∃g,c.K w g:=fun w hw=>by simp at hw;subst hw;exact⟨_,k1⟩
     obtain⟨d1,d2,⟨a9,d3,d4,d5⟩|⟨g9,cap,C,ys,N1,d3,d4,d5,d6,d7,d8,d9,d10,d11,d12⟩⟩:=q4.inv
     ·cases d3;refine⟨[],_,0, [], [],d4,rfl, ?_,by simpa [Cw,Az]using DC.nil,by simp,by simp,by simp,hK⟩;cases p0 with
      |none=>exact .inl ⟨rfl,rfl,rfl⟩
      |some p=>exact .inr ⟨p,rfl,by simp,by simp,by simp⟩
     ·cases d3;rw [AH.aj]at d12;have C4:C.toList.length=r0*z:=by simpa using d9
      refine⟨ys,_,r0,_,N1,d4,rfl, .inr ⟨_,rfl, ?_,fun j w hw=> ?_,d11⟩,d12, ?_,d10,d11,hK⟩
      ·rw [List.length_take,C4];exact Nat.min_eq_left (Nat.mul_le_mul_right _ d7)
      ·rw [Addr.add_lit,Nat.zero_add,D5 d6];rw [List.getElem?_take]at hw;split at hw
       ·simpa using hw
       ·cases hw
      ·rw [Tj,Xk,List.append_nil,d5];exact List.sublist_cons_self _ _
   ·cases h
  ·cases h
 ·cases h
end
def EU (T:List Nat):List AF:=T.map fun u=>⟨u,none, [], .dead⟩
theorem wH (T:List Nat):(EU T).flatMap AF.top= []:=by induction T<;>simp_all [EU]
theorem xK (T:List Nat):(EU T).map AF.tag=T:=by induction T<;>simp_all [EU]
theorem u5 (T:List Nat):((EU T).map fun r=>(r.tag,Cf [] r.ar))=Ei T:=by simp [EU,Ei,Cf]
theorem P7 {T:List Nat} {r:AF} (h:r∈EU T):r.tag∈T∧r.new=none∧r.top= []∧r.ar= .dead:=by obtain⟨u,hu,rfl⟩:=List.mem_map.1 h;exact⟨hu,rfl,rfl,rfl⟩
section
variable {P:Program} {c:Cx} {n nx:Nat} {sl sl0:Nat→SV} {hp hp0:Nat→Option Ah} {a:Act} {o:Oper} {gs:Gd} {e:AP} {sg:Bq} {nv:Nat}
theorem Rel.kr (h:Rel c n sl hp a) {T:List Nat} (hT:T.Nodup) (Fs: ∀u∈T,c.U u) {r0:AF} (It:r0.tag∉T) (Gp:r0.new.isSome=true→ ¬c.U r0.tag) (Dt:r0.new=none→c.U r0.tag) {w':World} {hs:List Nat} (FQ: ∀b∈hs,b∈(c.G r0.tag).top∨b∈BL c T) (hm:Mod hs c.w w')
  (By:r0.top.Nodup) (B0: ∀b∈r0.top,(b∈hs∨c.w.heap.size≤b)∧b<w'.heap.size) (A4: ∀q f,r0.ar≠ .gd q f)
  (he:CN c (c.c8 w' (r0::EU T))→D9 c (c.c8 w' (r0::EU T)) w' (r0::EU T)→Cv (c.c8 w' (r0::EU T)) r0.tag r0.ar):
  Rel (c.c8 w' (r0::EU T)) n sl (AU hp ((r0.tag,r0.ar)::Ei T)) a∧CN c (c.c8 w' (r0::EU T))∧D9 c (c.c8 w' (r0::EU T)) w' (r0::EU T)∧ ∀t,(c.c8 w' (r0::EU T)).U t→c.U t∨t=r0.tag:=by
 have hn:((r0::EU T).map AF.tag).Nodup:=by rw [List.map_cons,xK];exact List.nodup_cons.2 ⟨It,hT⟩
 have AM: ∀r∈r0::EU T,r.new.isSome=true→ ¬c.U r.tag:=fun r hr hs=>by
  rcases Ae.1 hr with rfl|hr
  ·exact Gp hs
  ·rw [(P7 hr).2.1]at hs;cases hs
 have aft:=Cx.db (w':=w') h.a6 hn AM;obtain⟨q1,q2⟩:=h.changes (gs:= []) (D7 _) hm hn AM (fun b hb=>by
   rcases FQ b hb with hb|hb
   ·exact⟨r0,by simp,hb⟩
   ·obtain⟨t,ht,B2⟩:=Nr.1 hb;exact⟨⟨t,none, [], .dead⟩,List.mem_cons_of_mem _ (List.mem_map.2 ⟨t,ht,rfl⟩),B2⟩)
  (by rw [List.flatMap_cons,wH,List.append_nil];exact By)
  (fun r hr b hb=>by
   rcases Ae.1 hr with rfl|hr
   ·exact B0 b hb
   ·rw [(P7 hr).2.2.1]at hb;cases hb)
  (fun r hr=>by
   rcases Ae.1 hr with rfl|hr
   ·exact A4
   ·rw [(P7 hr).2.2.2];intros;simp)
  (fun hk r hr=>by
   rcases Ae.1 hr with rfl|hr
   ·exact he hk aft
   ·have kg:=aft.G r (List.mem_cons_of_mem _ hr);obtain⟨_,_,e1,e2⟩:=P7 hr;rw [e2];exact⟨by rw [kg,e1],by rw [kg]⟩)
 refine⟨?_,q2,aft,fun t ht=> ?_⟩
 ·rw [List.map_cons,u5]at q1;have:Cf [] r0.ar=r0.ar:=rfl;rw [this]at q1;exact q1
 ·rcases ht with ht|⟨r,hr,rfl⟩
  ·exact .inl ht
  ·rcases Ae.1 hr with rfl|hr
   ·exact .inr rfl
   ·exact .inl (Fs _ (P7 hr).1)
theorem At.ff (h:A3 P c n nx sl hp a sl0 hp0 o []) {T:List Nat} (hT:T.Nodup) (Fs: ∀u∈T,∃g,c.K u g) {v':Value} {w':World} {ck:List Cn} {e z:Nat} {l:List DT} {x:E} {top:List Nat} (hr:(execOp a.eval o).run P c.w= .ok (.value v') w') (hm:Mod (BL c T) c.w w')
  (By:top.Nodup) (B0: ∀b∈top,(b∈BL c T∨c.w.heap.size≤b)∧b<w'.heap.size) (hd:DC w' [.row e z (AH.of l)] [v'] [x.den c.ρ] top):
  At P o c n nx sl hp [] a {bu:=ck,val:= .own nx 0,ar:=(nx, .deep e z l 0 0 x)::Ei T}:=by
 intro next Q hk
 unfold Oper.wp;rw [hr,Oper.upon_value];have hU:=L9 h;have IV: ∀u∈T,c.U u:=fun u hu=>by obtain⟨g,hg⟩:=Fs u hu;exact h.rel.a6 _ _ hg
 obtain⟨q1,q2,q3,q4⟩:=h.rel.kr (r0:=⟨nx,some v',top, .deep e z l 0 0 x⟩) hT IV (fun hh=>hU (IV _ hh)) (fun _=>hU) (fun hh=>by cases hh) (fun b hb=> .inr hb) hm By B0 (by intros;simp) (fun _ aft=>by obtain⟨k1,k2,k3⟩:=aft.new _ (List.mem_cons_self ..) v' rfl;have kg:=aft.G _ (List.mem_cons_self ..);have ke:=aft.jy _ (List.mem_cons_self ..) rfl;simp only at k1 k2 k3 kg ke;exact⟨k1,k2,ke,by rw [k3,kg,aft.w,aft.ρ];exact hd,by rw [kg]⟩)
 obtain⟨k1,k2,k3⟩:=q3.new _ (List.mem_cons_self ..) v' rfl;simp only at k1 k3;obtain⟨p,m,r,rfl⟩:=hd.head;refine hk _ (c.c8 w' _) ⟨rfl,rfl,rfl,rfl,fun t ht=> ?_⟩ (q1.put (SR.own k1 k3 .nil) o.dst);rcases q4 t ht with ht|rfl
 ·exact .inl ht
 ·exact .inr ⟨Nat.le_refl _,by simp [Bh]⟩
theorem At.j8 (h:A3 P c n nx sl hp a sl0 hp0 o []) {T:List Nat} (hT:T.Nodup) (Fs: ∀u∈T,∃g,c.K u g) {b g ep:Nat} (hb:b∉T) (hK:c.K b g) (Dj: ∀g',c.K b g'→g'≤g) (hE:c.E b=ep) {w':World} {ck:List Cn} {e z:Nat} {l:List DT} {x:E} {top:List Nat} (hr:(execOp a.eval o).run P c.w= .ok .skip w') {hs:List Nat} (FQ: ∀q∈hs,q∈(c.G b).top∨q∈BL c T) (hm:Mod hs c.w w')
  (By:top.Nodup) (B0: ∀q∈top,(q∈hs∨c.w.heap.size≤q)∧q<w'.heap.size) (hd:DC w' [.row e z (AH.of l)] [c.H b g] [x.den c.ρ] top):
  At P o c n nx sl hp [] a {bu:=ck,ar:=(b, .deep e z l g (ep+1) x)::Ei T}:=by
 intro next Q hk
 unfold Oper.wp;rw [hr,Oper.upon_skip];have IV: ∀u∈T,c.U u:=fun u hu=>by obtain⟨g,hg⟩:=Fs u hu;exact h.rel.a6 _ _ hg
 have UG:=h.rel.a6 _ _ hK;obtain⟨q1,q2,q3,q4⟩:=h.rel.kr (r0:=⟨b,none,top, .deep e z l g (ep+1) x⟩) hT IV hb (fun hh=>by cases hh) (fun _=>UG) FQ hm By B0 (by intros;simp) (fun _ aft=>by have kg:=aft.G _ (List.mem_cons_self ..);have ke:=aft.gp _ (List.mem_cons_self ..) rfl;obtain⟨k1,k2⟩:=aft.K b g hK;simp only at kg ke;exact⟨k1,fun g' BN=>Dj g' (aft.old b UG g' BN),by rw [ke,hE],by rw [k2,kg,aft.w,aft.ρ];exact hd,by rw [kg]⟩)
 refine hk _ (c.c8 w' _) ⟨rfl,rfl,rfl,rfl,fun t ht=> ?_⟩ (q1.put ((SR.undef .nil).mkGd []) o.dst);rcases q4 t ht with ht|rfl
 ·exact .inl ht
 ·exact .inl UG
theorem dQ {w w':World} {row:Option Nat} {S:List Nat} (h:w.grownBy w' row) (hr: ∀g,row=some g→g∈S∨w.heap.size≤g):Mod S w w':=by
 refine⟨h.os,h.tape,h.output,h.size,fun b hb hn=>h.block b hb fun hh=> ?_⟩;rcases hr b hh.symm with h1|h1
 ·exact hn h1
 ·omega
theorem WO (h:A3 P c n nx sl hp a sl0 hp0 o []) {x y:Operand} {tx:TypeId} {cl:Call} (ho:o.op= .call cl) (Ay:cl.callee= .builtin .append) (CA:cl.args.toList= [x,y]) (DD:cl.argTypes.toList= [tx,tx])
  {el:TypeId} (Bc:P.underlying tx=some (.slice el)) (hz:G0 P el=true) {l:List DT} (hl:l.length=P.cellsOf el) {T us:List Nat} (hT:(T++us).Nodup) (Fs: ∀u∈T,∃g,c.K u g) {s2:SV} {ye:E} (AQ:Bm sl0 [] y=some s2) (hy:A2 hp0 [] AJ s2=some ye) (BP:QI hp0 [] el (P.cellsOf el) l s2=some us)
  {c0:E} {v:Value} (hv:a.eval x=v) {N:List Nat} (Bi:DC c.w [.row el (P.cellsOf el) (AH.of l)] [v] [c0.den c.ρ] N) (hN:N=BL c T) {ck:List Cn} (BY:Cn.den c.ρ (.room c0 ye (P.bytesOf el))):
  At P o c n nx sl hp [] a {bu:=ck,val:= .own nx 0,ar:=(nx, .deep el (P.cellsOf el) l 0 0 (.app c0 ye))::Ei (T++us)}:=by
 have Ao:cl.args= #[x,y]:=by apply Array.ext';simp [CA]
 have FV:cl.argTypes= #[tx,tx]:=by apply Array.ext';simp [DD]
 have CS:y∈o.op.operands:=by simp [ho,Op.operands,Call.operands,Ay,Ao]
 obtain⟨i,z,hi,E2,CV,Bz,BZ,Ft⟩:=Ji hz;obtain⟨ys,q,r,news,N2,CD,CG,EI,UT,Bn,LD,Vs,VU⟩:=bV h.eh h.gs BP (h.bz AQ CS) hy;have Cj:=SZ h.rel.gw hT;rw [H4]at Cj;have DI: ∀b∈BL c (T++us),b<c.w.heap.size:=fun b hb=>by obtain⟨t,_,B2⟩:=Nr.1 hb;exact h.rel.gw.inb t b (by simp [GI.own,B2])
 obtain⟨mm,kk,Gp,Dt,Pj,VH⟩:=BY;obtain⟨d1,d2,AZ⟩:=Bi.inv;rw [AH.aj]at d2 AZ;have hU: ∀u∈T++us,∃g,c.K u g:=fun u hu=>by
  rcases Af.1 hu with hu|hu
  ·exact Fs u hu
  ·exact VU u hu
 obtain⟨xs,old,N1,B1,hold,Gs,lZ,GN,Ck,Ra,Ut⟩: ∃(xs:List AV) (old:List Value) (N1:List Nat),c0.den c.ρ= .sl xs∧old.length=xs.length*i.size∧((xs.length=0∧ ∃q,v= .slice q 0 0)∨ ∃g cap C,v= .slice (some ⟨g,0,none⟩) xs.length cap∧xs.length≤cap∧cap≤maxLen∧c.w.heap[g]?=some (.cells C el (0,0))∧C.size=cap*i.size∧old=C.toList.take (xs.length*i.size)∧(g∈BL c T∧g∉N1))∧
   DC c.w (Cw xs.length l) old (Az xs) N1∧(∀y∈xs,y.cells.length=P.cellsOf el)∧(∀u∈old,u.oneCell'=true)∧(∀b∈N1,b∈BL c T)∧N1.Nodup:=by
  rcases AZ with⟨p,rfl,Iv,rfl⟩|⟨g9,cap,C,xs,N1,rfl,Iv,rfl,h6,h7,h8,h9,ES,EX,Q6⟩
  ·exact⟨[], [], [],Iv,by simp, .inl ⟨rfl,p,rfl⟩,by simpa [Cw,Az]using DC.nil,by simp,by simp,by simp,by simp⟩
  ·have By:(g9::N1).Nodup:=by rw [hN];exact(List.nodup_append.1 Cj).1
   rw [List.nodup_cons]at By;refine⟨xs,_,N1,Iv, ?_, .inr ⟨g9,cap,C,rfl,h7,h8,h6,by rw [←BZ];exact h9,rfl,by rw [←hN];simp,By.1⟩,by rw [←BZ];exact Q6,ES,by rw [←BZ];exact EX,fun b hb=>by rw [←hN];simp [hb],By.2⟩;have e9:C.toList.length=cap*i.size:=by rw [←BZ,←h9];simp
   rw [List.length_take,e9];exact Nat.min_eq_left (Nat.mul_le_mul_right _ h7)
 rw [B1]at Gp;rw [CD]at Dt;simp only [AV.len,AV.int.injEq,true_and]at Gp Dt;have Hy:(xs.length+ys.length)*i.bytes≤140737488355328:=by
  rw [←Gp,←Dt,Ft]at Pj;have h9:(((xs.length+ys.length)*i.bytes:Nat):Int)≤140737488355328:=by rw [Int.natCast_mul,Int.natCast_add];exact Pj
  omega
 have Ip:xs.length+ys.length≤140737488355328:=by rw [←Gp,←Dt]at VH;omega
 rw [BZ]at EI;obtain⟨v',w',AI,AK⟩:=Yo (P:=P) c.w tx o.type el i z Bc hi E2 CV Bz (fun g9=>g9∈BL c T∧g9∉N1) v xs.length old hold Gs q ys.length r news EI (by simp only [maxLen];omega) Hy;have Er:(execOp a.eval o).run P c.w= .ok (.value v') w':=by simp [execOp,ho,resolve,Ay,Ao,FV,invoke,builtin,hv,CG,AI]
 have Ov: ∀b∈N2,b∈BL c us:=fun b hb=>Bn.subset hb;have Uu:N2.Nodup:=Bn.nodup (List.nodup_append.1 Cj).2.1;have Oz:(E.app c0 ye).den c.ρ= .sl (xs++ys):=by simp only [E.den,B1,CD,AV.app]
 rcases AK with⟨rfl,rfl,Dh⟩|⟨g9,cap,C,rfl,h1,h2,h3,h4,h5,h6,h7⟩
 ·have Hi:ys= []:=List.eq_nil_of_length_eq_zero Dh;subst Hi;refine At.ff h hT hU Er (Mod.refl _ _) (top:=N) (by rw [hN];exact(List.nodup_append.1 Cj).1) (fun b hb=>⟨.inl (by rw [H4,←hN];simp [hb]),DI b (by rw [H4,←hN];simp [hb])⟩) ?_;rw [Oz,List.append_nil,←B1];exact Bi
 ·have MG:(g9∈BL c T∨c.w.heap.size≤g9)∧g9∉N1∧g9∉N2:=by
   rcases h7 with⟨rfl,_⟩|⟨hg,BN⟩
   ·refine⟨.inr (Nat.le_refl _),fun hh=> ?_,fun hh=> ?_⟩
    ·have:=DI _ (by rw [H4];exact Af.2 (.inl (Ra _ hh)));omega
    ·have:=DI _ (by rw [H4];exact Af.2 (.inr (Ov _ hh)));omega
   ·exact⟨.inl hg,BN,fun hh=>(List.nodup_append.1 Cj).2.2 _ hg _ (Ov _ hh) rfl⟩
  have AT: ∀b∈N1++N2,w'.heap[b]?=c.w.heap[b]?:=fun b hb=>by
   have Au:b<c.w.heap.size:=DI b (by
    rw [H4];rcases Af.1 hb with hb|hb
    ·exact Af.2 (.inl (Ra b hb))
    ·exact Af.2 (.inr (Ov b hb)))
   refine h6.block b Au fun hh=> ?_;cases hh;rcases Af.1 hb with hb|hb
   ·exact MG.2.1 hb
   ·exact MG.2.2 hb
  refine At.ff h hT hU Er (dQ h6 fun g hg=> ?_) (top:=g9::(N1++N2)) ?_ (fun b hb=> ?_) ?_
  ·cases hg;rcases MG.1 with hh|hh
   ·exact .inl (by rw [H4];exact Af.2 (.inl hh))
   ·exact .inr hh
  ·refine List.nodup_cons.2 ⟨fun hh=> ?_,List.nodup_append.2 ⟨Ut,Uu,fun p hp q hq=> ?_⟩⟩
   ·rcases Af.1 hh with hh|hh
    ·exact MG.2.1 hh
    ·exact MG.2.2 hh
   ·exact(List.nodup_append.1 Cj).2.2 p (Ra p hp) q (Ov q hq)
  ·rcases Ae.1 hb with rfl|hb
   ·refine⟨?_,Ev h3⟩;rcases MG.1 with hh|hh
    ·exact .inl (by rw [H4];exact Af.2 (.inl hh))
    ·exact .inr hh
   ·have Zi:b∈BL c (T++us):=by
     rw [H4];rcases Af.1 hb with hb|hb
     ·exact Af.2 (.inl (Ra b hb))
     ·exact Af.2 (.inr (Ov b hb))
    exact⟨.inl Zi,Nat.lt_of_lt_of_le (DI b Zi) h6.size⟩
  ·rw [Oz];have hlen:(xs++ys).length=xs.length+ys.length:=AB;rw [BZ]at d1 d2 GN LD ⊢;have:=DC.row (w:=w') (e:=el) (z:=i.size) (l:=AH.of l) (g:=g9) (cap:=cap) (C:=C) (ys:=xs++ys) (N1:=N1++N2) (ts:= []) (vs:= []) (xs:= []) (N:= []) d1 (by rw [AH.aj];exact d2) h3 (by rw [hlen];exact h1) h2 h4 (fun w hw=> ?_) (by
     rw [hlen,h5];intro u hu;rcases Af.1 hu with hu|hu
     ·exact Ck u hu
     ·exact Vs u hu) (by
     rw [hlen,h5,WV,yK,AH.aj];exact(lZ.app UT).frame AT) .nil
   ·rw [hlen]at this;simpa using this
   ·rcases Af.1 hw with hw|hw
    ·exact GN w hw
    ·exact LD w hw
end
section
variable {P:Program} {c:Cx} {n nx:Nat} {sl sl0:Nat→SV} {hp hp0:Nat→Option Ah} {a:Act} {o:Oper} {gs:Gd} {e:AP} {sg:Bq} {nv:Nat}
theorem uM {l:List Nat} (h:Jz l=true):l.Nodup:=Nt h
theorem qV (h:A3 P c n nx sl hp a sl0 hp0 o gs) {x y:Operand} {tx ty:TypeId} {cl:Call} (ho:o.op= .call cl) (Ay:cl.callee= .builtin .append) (CA:cl.args.toList= [x,y]) (DD:cl.argTypes.toList= [tx,ty])
  {s1 s2:SV} (Bj:Bm sl0 gs x=some s1) (AQ:Bm sl0 gs y=some s2) (he:S4 P hp0 gs nx tx ty s1 s2=some e) (hc: ∀q∈e.bu,Cn.den c.ρ q):At P o c n nx sl hp gs a e:=by
 have Ao:cl.args= #[x,y]:=by apply Array.ext';simp [CA]
 have Di:x∈o.op.operands:=by simp [ho,Op.operands,Call.operands,Ay,Ao]
 have CS:y∈o.op.operands:=by simp [ho,Op.operands,Call.operands,Ay,Ao]
 unfold S4 at he;split at he
 ·cases he
 rename_i Ly;have Ly:tx=ty:=by simpa using Ly
 subst Ly;split at he
 ·rename_i el e' z dl Bc CQ;have K7:=Ix Bc;split at he
  ·cases he
  rename_i Aq;simp only [not_or,Bool.not_eq_true',Bool.not_eq_false,Bool.not_eq_true,ne_eq,Decidable.not_not]at Aq;obtain⟨hz,E9,rfl,rfl⟩:=Aq;obtain⟨_,_,l,J9,Dg⟩:=TE Bc CQ;simp only [DT.row.injEq,true_and]at J9;subst J9;rw [AH.aj]at he;have r1:=h.bz Bj Di;split at he
  ·rename_i ye us hy BP;have hU: ∀u∈us,∃g,c.K u g:=(bV h.eh h.gs BP (h.bz AQ CS) hy).choose_spec.choose_spec.choose_spec.choose_spec.choose_spec.2.2.2.2.2.2.2;have LA:us.Nodup:=by
    unfold QI at BP;split at BP
    ·simp only [Ad]at BP;subst BP;simp
    ·simp only [Ad]at BP;subst BP;simp
    ·split at BP
     ·split at BP
      ·simp only [Ad]at BP;subst BP;simp
      ·cases BP
     ·cases BP
    ·cases BP
   have RF:0<P.cellsOf e':=by obtain⟨i,_,_,_,_,h1,h2,_⟩:=Ji hz;omega
   split at he
   ·rename_i t g;split at he
    ·rename_i e2 z2 l2 g2 ep c0 hl;split at he
     ·rename_i hh;obtain⟨rfl,rfl,hb,rfl,DM⟩:=hh;have hb:=AH.gm hb;subst hb;simp only [Ad]at he;subst he;obtain⟨q1,q2,q3,q4,q5⟩:=h.eh t _ (Cm hl h.gs);generalize hv:a.eval x=v at r1;cases r1 with
      |own k1 k2 _=>rw [k2]at q4;simp only [Bool.not_eq_true',List.contains_eq_mem,decide_eq_false_iff_not]at DM;exact WO h ho Ay CA DD K7 hz Dg (T:= [t]) (by simpa using List.nodup_cons.2 ⟨DM,LA⟩) (fun u hu=>by simp at hu;subst hu;exact⟨_,k1⟩) AQ hy BP hv q4 (by simp [BL]) (hc _ (by simp))
     ·cases he
    ·cases he
   ·simp only [Ad]at he;subst he;generalize hv:a.eval x=v at r1;cases r1 with
    |emp _=>exact WO h ho Ay CA DD K7 hz Dg (T:= []) (by simpa using LA) (by simp) AQ hy BP hv (c0:= .lst .nil) (.void RF (by rw [AH.aj];exact Dg) .nil) rfl (hc _ (by simp))
   ·simp only [Ad]at he;subst he;generalize hv:a.eval x=v at r1;cases r1 with
    |a8 _=>exact WO h ho Ay CA DD K7 hz Dg (T:= []) (by simpa using LA) (by simp) AQ hy BP hv (c0:= .lst .nil) (.void RF (by rw [AH.aj];exact Dg) .nil) rfl (hc _ (by simp))
   ·cases he
  ·cases he
 ·cases he
theorem At.ey (h:A3 P c n nx sl hp a sl0 hp0 o []) {T:List Nat} (hT:T.Nodup) (Fs: ∀u∈T,∃g,c.K u g) {ck:List Cn} {el z:Nat} {l:List DT} (hz:0<z) (hl:l.length=z) {x:E} {xs:List AV} {C:Array Value} {cap:Nat} (hx:x.den c.ρ= .sl xs) (Ay: ∀y∈xs,y.cells.length=z) (hle:xs.length≤cap) (Hz:cap≤maxLen) (hC:C.size=cap*z)
  (h1: ∀u∈C.toList.take (xs.length*z),u.oneCell'=true) (hD:DC c.w (Cw xs.length l) (C.toList.take (xs.length*z)) (Az xs) (BL c T))
  (hr:(execOp a.eval o).run P c.w= .ok (.value (.slice (some ⟨c.w.heap.size,0,none⟩) xs.length cap)) (c.w.alloc (.cells C el))):
  At P o c n nx sl hp [] a {bu:=ck,val:= .own nx 0,ar:=(nx, .deep el z l 0 0 x)::Ei T}:=by
 have DI: ∀b∈BL c T,b<c.w.heap.size:=fun b hb=>by obtain⟨t,_,B2⟩:=Nr.1 hb;exact h.rel.gw.inb t b (by simp [GI.own,B2])
 have AM:(c.w.alloc (.cells C el)).heap[c.w.heap.size]?=some (.cells C el (0,0)):=heap_alloc_new c.w _;have HE:c.w.grownBy (c.w.alloc (.cells C el)) (some c.w.heap.size):=⟨rfl,rfl,rfl,by simp,fun j hj _=>Below.heap_alloc c.w _ _ hj⟩
 refine At.ff h hT Fs hr (dQ HE fun g hg=> .inr (by cases hg;exact Nat.le_refl _)) (top:=c.w.heap.size::BL c T) ?_ (fun b hb=> ?_) ?_
 ·exact List.nodup_cons.2 ⟨fun hh=>by have:=DI _ hh;omega,SZ h.rel.gw hT⟩
 ·rcases Ae.1 hb with rfl|hb
  ·exact⟨.inr (Nat.le_refl _),by simp⟩
  ·exact⟨.inl hb,Nat.lt_of_lt_of_le (DI b hb) (by simp)⟩
 ·rw [hx];have:=DC.row (w:=c.w.alloc (.cells C el)) (e:=el) (z:=z) (l:=AH.of l) (g:=c.w.heap.size) (cap:=cap) (C:=C) (ys:=xs) (N1:=BL c T) (ts:= []) (vs:= []) (xs:= []) (N:= []) hz (by rw [AH.aj];exact hl) AM hle Hz hC Ay h1 (by
   rw [AH.aj];exact hD.frame fun b hb=>Below.heap_alloc c.w _ _ (DI b hb)) .nil
  simpa using this
theorem rL (h:A3 P c n nx sl hp a sl0 hp0 o gs) {t:TypeId} {m:Nat} {parts:Array (Nat × Operand)} (ho:o.op= .buildSlice t m parts) {ps:List (Nat × SV)} (Ke:parts.toList.mapM (fun(p:Nat × Operand)=>(Bm sl0 gs p.2).map fun s=>(p.1,s))=some ps) (he:Tk P hp0 gs nx t m ps=some e) (hc: ∀q∈e.bu,Cn.den c.ρ q):At P o c n nx sl hp gs a e:=by
 obtain⟨e1,e2⟩:=Te (c:=c) (a:=a) (parts.toList.map (·.2)) (fun x s hx hm=>h.bz hx (by simpa [ho,Op.operands]using hm)) (fun x hx=>List.mem_map.2 ⟨x,hx,rfl⟩) Ke;unfold Tk at he;split at he
 ·rename_i el e' zz dl HC CQ;have Bc:=Ix HC;split at he
  ·cases he
  rename_i Aq;simp only [not_or,Bool.not_eq_true',Bool.not_eq_false',ne_eq,Bool.not_eq_false,Bool.not_eq_true,Nat.not_lt,Decidable.not_not]at Aq;obtain⟨hz,E9,rfl,rfl,A1,Av,hle,DF⟩:=Aq;obtain⟨_,_,l,J9,Dg⟩:=TE HC CQ;simp only [DT.row.injEq,true_and]at J9;subst J9;rw [AH.aj]at he;have Av:Aj P e'=true∨P.cellsOf e'=1:=by simpa using Av
  obtain⟨i,z,hi,E2,CV,Bz,BZ,Ft⟩:=Ji hz;split at he
  ·rename_i xs us ck Pr;split at he
   ·rename_i By;simp only [Ad]at he;subst he;obtain⟨p1,p5,p6,p7,p8⟩:=bA h.eh h.gs Dg Av (ps.map (·.2)) (parts.toList.map fun p=>a.eval p.2) e2 Pr hc;have hlen:(parts.toList.map fun p=>a.eval p.2).length=m:=by
     have:ps.length=m:=by have:=congrArg List.length DF;simpa using this
     have h9:=congrArg List.length e1;simp at h9 ⊢;omega
    have FU:(parts.map fun(x:Nat × Operand)=>(x.1,a.eval x.2)).toList=((parts.toList.map fun p=>a.eval p.2).zipIdx 0).map fun p=>(p.2,p.1):=by
     have Le:parts.toList.map (·.1)=List.range m:=by rw [←e1,DF]
     apply List.ext_getElem?;intro j;have hj:(parts.toList.map (·.1))[j]?=(List.range m)[j]?:=by rw [Le]
     simp only [Array.toList_map,List.getElem?_map,List.getElem?_zipIdx]at hj ⊢;cases hp:parts.toList[j]? with
     |none=>simp
     |some p=>
      rw [hp]at hj;simp only [Option.map_some,Ad]at hj ⊢;have Vb:j<m:=by
       rcases Nat.lt_or_ge j m with hh|hh
       ·exact hh
       ·rw [List.getElem?_eq_none (by simpa using hh)]at hj;cases hj
      rw [List.getElem?_range Vb]at hj;simp at hj;simp [hj]
    obtain⟨C',f1,f2⟩:=Xm (sz:=i.size) (fun j=>some (j*i.size,i.size)) (fun j=>rfl) (parts.toList.map fun p=>a.eval p.2) 0 ((Array.range (m*i.size)).map (fun j=>(if m*i.size=0 then #[]else z.cells)[j % (if m*i.size=0 then #[]else z.cells).size]!)) [] _ (by simp;rfl) (by simp) (by simp [hlen]) (fun v hv=>by rw [←BZ];exact(p5 v hv).1);have C4:C'.toList.length=m*P.cellsOf e':=by
     rw [f2,BZ];simp only [List.nil_append];have: ∀(L:List Value),(∀v∈L,v.cells.size=i.size)→(L.flatMap fun v=>v.cells.toList).length=L.length*i.size:=by
      intro L
      induction L with
      |nil=>intro _;simp
      |cons v L ih=>intro hL;simp only [List.flatMap_cons,AB,AA,Array.length_toList];rw [ih (fun u hu=>hL u (by simp [hu])),hL v (by simp),Nat.add_mul];omega
     rw [this _ (fun v hv=>by rw [←BZ];exact(p5 v hv).1),hlen]
    have HW:(xs.map (E.den c.ρ)).length=m:=by rw [List.length_map,p7,hlen]
    have BI:C'.toList.take ((xs.map (E.den c.ρ)).length*P.cellsOf e')=(parts.toList.map fun p=>a.eval p.2).flatMap fun v=>v.cells.toList:=by rw [HW,←C4,List.take_length,f2];simp
    refine At.ey h (uM By) p8 (by omega) Dg (xs:=xs.map (E.den c.ρ)) (C:=C') (cap:=m) (by simp [E.den,EL.cq]) (fun y hy=> ?_) (by omega) (by simp only [maxLen];have:m*1≤m*P.cellsOf e':=Nat.mul_le_mul_left _ (by omega);omega) (by rw [←Array.length_toList,C4]) ?_ ?_ ?_
    ·obtain⟨q,hq,rfl⟩:=List.mem_map.1 hy;exact p6 q hq
    ·rw [BI];intro u hu;obtain⟨v,hv,hu⟩:=List.mem_flatMap.1 hu;exact(p5 v hv).2 u hu
    ·rw [BI,HW,←hlen];exact p1
    ·rw [HW];have AI:=aU (P:=P) Bc A1 hi E2 BZ m (by rw [←BZ];omega) (parts.map fun(x:Nat × Operand)=>(x.1,a.eval x.2)) C' (by rw [FU];exact f1) c.w;simp only [execOp,ho,Sem.run_bind];rw [AI];rfl
   ·cases he
  ·cases he
 ·cases he
theorem W8 {w:World}: ∀{ds:List DT} {ss:List SV} {vs:List Value},Mf ds ss=true→SR c ss vs→ ∀{xs:EL} {m:Nat},BV hp0 gs m ss=some xs→DC w ds vs (xs.den c.ρ) []
 | [], [],vs,_,hs,xs,m,hx=>by
  cases hs;cases m with
  |zero=>simp [BV]at hx
  |succ m=>simp [BV]at hx;subst hx;exact .nil
 | [],_::_,_,h,_,_,_,_=>by simp [Mf]at h
 |_::_, [],_,h,_,_,_,_=>by simp [Mf]at h
 |d::ds,s::ss, [],h,hs,_,_,_=>by have:=hs.len;simp at this
 |d::ds,s::ss,v::vs,h,hs,xs,m,hx=>by
  obtain⟨j,y,ys,rfl,hy,CD,rfl⟩:=Iy hx;obtain⟨r1,r2⟩:=hs.bf;simp only [Mf,Ac]at h;have ih:=W8 (w:=w) h.2 r2 CD;unfold kF at h;obtain⟨h1,_⟩:=h;split at h1
  ·rename_i y';rw [EL.den,IG hy];cases r1 with
   |e g1 g2 _=>
    cases y'<;>simp [QZ]at h1
    ·cases g1 with
     |int hk _=>exact .flat (.int hk .nil) ih
    ·cases g1 with
     |bool _=>exact .flat (.bool .nil) ih
    ·rename_i s0;generalize hq:(E.str s0).den c.ρ=q at g1;cases g1 with
     |str hk _=>exact .flat (.str hk .nil) ih
     |_=>simp [E.den]at hq
  ·simp only [Ac,decide_eq_true_eq,beq_iff_eq]at h1;rw [EL.den,Jj hy];cases r1 with
   |a8 _=>exact .void h1.1 h1.2 ih
  ·cases h1
theorem DC.rep {w:World} {ds:List DT} {vs:List Value} {xs:List AV} (h:DC w ds vs xs []): ∀k,DC w (Cw k ds) (List.replicate k vs).flatten (List.replicate k xs).flatten []
 |0=>by simpa [Cw]using DC.nil
 |k+1=>by rw [L3,List.replicate_succ,List.flatten_cons,List.replicate_succ,List.flatten_cons];simpa using h.app (DC.rep h k)
theorem sN (h:A3 P c n nx sl hp a sl0 hp0 o gs) {t:TypeId} {l m:Operand} (ho:o.op= .makeSlice t l m) {s1 s2:SV} (Bj:Bm sl0 gs l=some s1) (AQ:Bm sl0 gs m=some s2) (he:TF P hp0 gs nx t s1 s2=some e) (hc: ∀q∈e.bu,Cn.den c.ρ q):At P o c n nx sl hp gs a e:=by
 have Di:l∈o.op.operands:=by simp [ho,Op.operands]
 have CS:m∈o.op.operands:=by simp [ho,Op.operands]
 unfold TF at he;split at he
 ·rename_i el e' zz dl x y HC CQ;have Bc:=Ix HC;split at he
  ·cases he
  rename_i Aq;simp only [not_or,Bool.not_eq_true',Bool.not_eq_false',ne_eq,Bool.not_eq_false,Bool.not_eq_true,Decidable.not_not]at Aq;obtain⟨hz,E9,rfl,rfl,FW,U0⟩:=Aq;have U0:gs= []:=by simpa using U0
  subst U0;obtain⟨_,_,dl',J9,Dg⟩:=TE HC CQ;simp only [DT.row.injEq,true_and]at J9;subst J9;rw [AH.aj]at he;obtain⟨i,z,hi,E2,CV,Bz,BZ,Ft⟩:=Ji hz;have r1:=h.bz Bj Di;have r2:=h.bz AQ CS;have ival: ∀{x:E} {kk:IntKind} {k:Int} {v:Value},SR c [.e x] [v]→x.den c.ρ= .int kk k→v= .int kk k:=by
   intro x kk k v hr hx;cases hr with
   |e h1 _ _=>exact(Fy h1 hx).1
  split at he
  ·rename_i s hs;have hs:D6 z=some s:=by simpa [hi,E2]using hs
   split at he
   ·rename_i RH;obtain⟨w,hw,rfl⟩:=Am.1 he;obtain⟨kk,k,hk,h0,hb,hle⟩:Cn.den c.ρ (.mkroom x (P.bytesOf e')):=Bx hc;have Et:=ival r1 hk;have CG:=ival r2 (by rw [←E.af c.ρ _ _ FW];exact hk);have ZH:DC c.w dl' z.cells.toList (w.den c.ρ).cells []:=by
     have Ja:=S6 (c:=c) hs;unfold jO at RH;cases s with
     |agg cs=>
      obtain⟨k9,l9,hm,mM,rfl⟩:=Qi hw;cases Ja with
      |agg h9 h1 h8=>have:=W8 (w:=c.w) RH h1 mM;simpa [Value.cells,AV.cells,E.den]using this
     |a8=>
      have Bc:BV hp0 [] (AJ+1) [.a8]=some (.cons w .nil):=by unfold BV;rw [hw];rfl
      have:=W8 (w:=c.w) RH Ja Bc;rw [Jj hw]at this ⊢;cases Ja with
      |a8 _=>simpa [Value.cells,AV.cells,E.den,EL.den]using this
     |_=>cases RH
    obtain⟨c1,c2⟩:=W7 (w:=c.w) (ρ:=c.ρ) hs hw;obtain⟨kn,rfl⟩:=Int.eq_ofNat_of_zero_le h0;have CP:(i.bytes:Int)*(kn:Int)≤281474976710656:=by rw [Ft]at hb;rw [Int.mul_comm];omega
    have hlen:=c1.len;have Rm:=SP z.cells (by omega) kn;have AI:=run_make (P:=P) c.w t e' i z Bc hi E2 kk kk kn kn (by omega) (Int.le_refl _) CP (by omega);have Es:(madeCells z.cells (kn*z.cells.size)).size=kn*P.cellsOf e':=by rw [size_madeCells,CV,BZ]
    have BI:(madeCells z.cells (kn*z.cells.size)).toList.take ((List.replicate kn (w.den c.ρ)).length*P.cellsOf e')=(List.replicate kn z.cells.toList).flatten:=by rw [List.length_replicate,List.take_of_length_le (by rw [Array.length_toList,Es];exact Nat.le_refl _),Rm]
    have D4:Az (List.replicate kn (w.den c.ρ))=(List.replicate kn (w.den c.ρ).cells).flatten:=by
     clear AI Es BI Rm hb hle CP hk Et CG h0 hc
     induction kn with
     |zero=>rfl
     |succ k ih=>simp only [List.replicate_succ,Az,List.flatMap_cons,List.flatten_cons]at ih ⊢;rw [ih]
    refine At.ey (T:= []) h (by simp) (by simp) (by omega) Dg (xs:=List.replicate kn (w.den c.ρ)) (C:=madeCells z.cells (kn*z.cells.size)) (cap:=kn) (by simp [E.den,hk,AV.rep]) (fun u hu=> ?_) (by simp) (by simp only [maxLen];omega) Es ?_ ?_ ?_
    ·rw [List.eq_of_mem_replicate hu,←hlen,Array.length_toList,CV,BZ]
    ·rw [BI];intro u hu;obtain⟨q,hq,hu⟩:=List.mem_flatten.1 hu;rw [List.eq_of_mem_replicate hq]at hu;exact c2 u hu
    ·rw [BI,List.length_replicate,D4];exact ZH.rep kn
    ·simp only [execOp,ho,Et,CG,Sem.run_bind,Int.ofNat_eq_natCast,List.length_replicate];rw [AI,CV];rfl
   ·cases he
  ·cases he
 ·cases he
end
section
variable {P:Program} {c:Cx} {n nx:Nat} {sl sl0:Nat→SV} {hp hp0:Nat→Option Ah} {a:Act} {o:Oper} {gs:Gd} {e:AP} {sg:Bq} {nv:Nat}
theorem bS {α:Type} (cs vs:List α) (o:Nat):setVs cs o vs=cs.take o++(vs++cs.drop (o+vs.length)):=by simp [setVs]
theorem DC.setVs {w:World} {ts:List DT} {L V:List Value} {X Y:List AV} {N1 N2 M:List Nat} {p:Nat} (h1:DC w (ts.take p) (L.take p) (X.take p) N1) (h2:DC w (ts.drop (p+V.length)) (L.drop (p+V.length)) (X.drop (p+V.length)) N2) (k:DC w ((ts.drop p).take V.length) V Y M):
  DC w ts (Go.Proofs.YtollgpkegmbpmaaGreatDoor.setVs L p V) (Go.Proofs.YtollgpkegmbpmaaGreatDoor.setVs X p Y) (N1++(M++N2)):=by
 have hk:=k.len;have ht:ts=ts.take p++((ts.drop p).take V.length++ts.drop (p+V.length)):=by rw [←List.drop_drop,List.take_append_drop,List.take_append_drop]
 rw [bS,bS];have hl:Y.length=V.length:=by omega
 rw [hl];have:=h1.app (k.app h2);rw [←ht]at this;exact this
theorem cK (h:A3 P c n nx sl hp a sl0 hp0 o []) {t:TypeId} {x y:Operand} (ho:o.op= .store t x y) {b g:Nat} {ix:E} {sz k:Nat} {s:SV} (r1:SR c [.bt b g ix sz k] [a.eval x]) (r2:SR c [s] [a.eval y]) {el:Nat} {l:List DT} {ep:Nat} {c0:E} (hK:c.K b g) (Dj: ∀g',c.K b g'→g'≤g) (hE:c.E b=ep)
  (A1:CC P t=true) (hle:k+P.cellsOf t≤sz) (EE:Aj P el=true∨(sz=1∧Aj P t=false)) (De:Aj P t=true∨P.cellsOf t=1)
  {xe:E} {us:List Nat} {ck:List Cn} (BP:NR P hp0 [] t ((l.drop k).take (P.cellsOf t)) s=some (xe,us,ck)) (K3: ∀q∈ck,q.den c.ρ) (By:us.Nodup) (hb:b∉us)
  (B0: ∀(kk:IntKind) (kv:Int),ix.den c.ρ= .int kk kv→ ∃(m cap:Nat) (C:Array Value) (ys:List AV) (N1 N2:List Nat),c.H b g= .slice (some ⟨m,0,none⟩) ys.length cap∧c0.den c.ρ= .sl ys∧0<sz∧l.length=sz∧c.w.heap[m]?=some (.cells C el (0,0))∧ys.length≤cap∧cap≤maxLen∧C.size=cap*sz∧(∀y∈ys,y.cells.length=sz)∧(∀w∈C.toList.take (ys.length*sz),w.oneCell'=true)∧
   (m::(N1++N2)).Nodup∧(∀q∈m::(N1++N2),q∈(c.G b).top)∧DC c.w ((Cw ys.length l).take (kv.toNat*sz+k)) ((C.toList.take (ys.length*sz)).take (kv.toNat*sz+k)) ((Az ys).take (kv.toNat*sz+k)) N1∧
   DC c.w ((Cw ys.length l).drop (kv.toNat*sz+k+P.cellsOf t)) ((C.toList.take (ys.length*sz)).drop (kv.toNat*sz+k+P.cellsOf t)) ((Az ys).drop (kv.toNat*sz+k+P.cellsOf t)) N2):
  At P o c n nx sl hp [] a {bu:=ck,ar:=(b, .deep el sz l g (ep+1) (.set c0 ix (.put (.idx c0 ix) k xe (Aj P el))))::Ei us}:=by
 generalize hv:a.eval x=v at r1;cases r1 with
 |bt k1 k2 k3 k4 k5 k6=>
  rename_i m0 len cap0 kk kv;obtain⟨m,cap,C,ys,N1,N2,p1,p2,p3,p4,p5,p6,p7,p8,p9,p10,p11,p12,p13,p14⟩:=B0 kk kv k3;rw [k2]at p1;cases p1;have GJ:kv.toNat<ys.length:=by omega
  have hmul:(kv.toNat+1)*sz≤ys.length*sz:=Nat.mul_le_mul_right _ (by omega);have E6:ys.length*sz≤cap0*sz:=Nat.mul_le_mul_right _ p6;rw [Nat.add_mul]at hmul;have C4:C.toList.length=cap0*sz:=by simpa using p8
  obtain⟨q1,q2,q3,q4,q5,q6⟩:=bE h.eh h.gs (by rw [List.length_take,List.length_drop,p4];omega) De BP r2 K3;have Fb:=KG GJ;generalize FX:(AV.sl ys).nth kv.toNat=yk at Fb;have EM:=p9 yk (List.mem_of_getElem? Fb);have Dl:(a.eval y).cells.toList.length=P.cellsOf t:=by simpa using q4
  obtain⟨m1,m2,m3⟩:=SL (vs:=(a.eval y).cells.toList) p5 (show(kv.toNat*sz+k)+_≤C.size by rw [Dl,p8];omega);have Ll:(C.toList.take (ys.length*sz)).length=ys.length*sz:=by rw [List.length_take,C4];omega
  have Gk:m0∈(c.G b).top:=p12 _ (by simp);have Jd: ∀q∈BL c us,q∉(c.G b).top:=fun q hq hh=>by obtain⟨u,hu,VF⟩:=Nr.1 hq;exact h.rel.gw.bp u b (fun hh=>hb (hh▸hu)) q (by simp [GI.own,VF]) (by simp [GI.own,hh])
  have J6: ∀q∈BL c us,q<c.w.heap.size:=fun q hq=>by obtain⟨u,_,VF⟩:=Nr.1 hq;exact h.rel.gw.inb u q (by simp [GI.own,VF])
  have J5: ∀q∈(c.G b).top,q<c.w.heap.size:=fun q hq=>h.rel.gw.inb b q (by simp [GI.own,hq]);have AT: ∀q,q∈BL c us∨(q∈N1++N2)→(putCells c.w m0 (kv.toNat*sz+k) (a.eval y).cells.toList).heap[q]?=c.w.heap[q]?:=fun q hq=>by
   refine m1.block q ?_ ?_
   ·rcases hq with hq|hq
    ·exact J6 q hq
    ·exact J5 q (p12 q (by simp [Af.1 hq]))
   ·simp only [List.mem_singleton];rintro rfl;rcases hq with hq|hq
    ·exact Jd _ hq Gk
    ·exact(List.nodup_cons.1 p11).1 hq
  have hz:(yk.cy k (xe.den c.ρ) (Aj P el)).cells=setVs yk.cells k (xe.den c.ρ).cells:=by
   refine Xn ?_ (fun hg=> ?_)
   ·cases hg:Aj P el with
    |true=>exact .inr rfl
    |false=>
     left;rcases EE with h'|⟨_,h'⟩
     ·rw [hg]at h';cases h'
     ·rw [h']at q5;exact fun cs=>(q5.1 cs)
   ·rcases EE with h'|⟨h1,h'⟩
    ·rw [hg]at h';cases h'
    ·rw [h']at q5;have OJ:P.cellsOf t=1:=by rcases De with h2|h2;rw [h']at h2;cases h2;exact h2
     refine⟨by omega,by omega, ?_⟩;cases VZ:xe.den c.ρ<;>first|rfl|exact absurd VZ (q5.1 _)
  have DG:Az (ys.set kv.toNat (yk.cy k (xe.den c.ρ) (Aj P el)))=setVs (Az ys) (kv.toNat*sz+k) (xe.den c.ρ).cells:=
   Tt ys _ _ yk k _ p9 Fb (by rw [q3];exact hle) hz
  have FJ:((Cw ys.length l).drop (kv.toNat*sz+k)).take (P.cellsOf t)=(l.drop k).take (P.cellsOf t):=by rw [←p4];exact PZ l _ _ _ _ GJ (by omega)
  have AI:(execOp a.eval o).run P c.w= .ok .skip (putCells c.w m0 (kv.toNat*sz+k) (a.eval y).cells.toList):=by have:=WX (P:=P) (t:=t) (v:=a.eval y) (off:=kv.toNat*sz+k) p5 A1 q4 (by rw [q4,p8];omega) q2;simp [execOp,ho,hv,this]
  refine At.j8 h By q6 hb hK Dj hE AI (hs:=(c.G b).top++BL c us) (fun q hq=>Af.1 hq) ⟨m1.os,m1.tape,m1.output,m1.size,fun q hq hn=>m1.block q hq fun hh=>hn (by simp only [List.mem_singleton]at hh;subst hh;exact Af.2 (.inl Gk))⟩
   (top:=m0::(N1++(BL c us++N2))) ?_ (fun q hq=> ?_) ?_
  ·have mU:=SZ h.rel.gw By;rw [List.nodup_cons,List.nodup_append]at p11;obtain⟨n1,n2,n3,n4⟩:=p11;have a1: ∀q∈BL c us,q∉N1∧q∉N2∧q≠m0:=fun q hq=>⟨fun hh=>Jd q hq (p12 q (by simp [hh])),fun hh=>Jd q hq (p12 q (by simp [hh])),fun hh=>Jd q hq (hh▸Gk)⟩
   rw [List.nodup_cons,List.nodup_append,List.nodup_append];refine⟨fun hh=> ?_,n2,⟨mU,n3,fun p hp q hq Rr=>(a1 p hp).2.1 (Rr▸hq)⟩,fun p hp q hq Rr=> ?_⟩
   ·simp only [Af]at hh n1;rcases hh with hh|hh|hh
    ·exact n1 (.inl hh)
    ·exact(a1 _ hh).2.2 rfl
    ·exact n1 (.inr hh)
   ·rcases Af.1 hq with hq|hq
    ·exact(a1 q hq).1 (Rr▸hp)
    ·exact n4 p hp q hq Rr
  ·have:q∈(c.G b).top∨q∈BL c us:=by
    simp only [Ae,Af]at hq;rcases hq with rfl|hq|hq|hq
    ·exact .inl Gk
    ·exact .inl (p12 q (by simp [hq]))
    ·exact .inr hq
    ·exact .inl (p12 q (by simp [hq]))
   refine⟨.inl (Af.2 this),Nat.lt_of_lt_of_le ?_ m1.size⟩;rcases this with hh|hh
   ·exact J5 q hh
   ·exact J6 q hh
  ·have BG:(E.set c0 ix (.put (.idx c0 ix) k xe (Aj P el))).den c.ρ= .sl (ys.set kv.toNat (yk.cy k (xe.den c.ρ) (Aj P el))):=by
    simp only [E.den,p2,k3,AV.idx,FX,AV.cz]
   rw [BG,k2];have Dg:(ys.set kv.toNat (yk.cy k (xe.den c.ρ) (Aj P el))).length=ys.length:=List.length_set;have:=DC.row (w:=putCells c.w m0 (kv.toNat*sz+k) (a.eval y).cells.toList) (e:=el) (z:=sz) (l:=AH.of l) (g:=m0) (cap:=cap0) (ys:=ys.set kv.toNat (yk.cy k (xe.den c.ρ) (Aj P el))) (N1:=N1++(BL c us++N2)) (ts:= []) (vs:= []) (xs:= []) (N:= []) p3 (by rw [AH.aj];exact p4) m2 (by rw [Dg];exact p6) p7 (by rw [List.size_toArray,Ns _ _ _ (by rw [Dl,C4];omega),Array.length_toList];exact p8) (fun w hw=> ?_) ?_ ?_ .nil
   ·rw [Dg]at this;simpa using this
   ·rcases List.mem_or_eq_of_mem_set hw with hw|rfl
    ·exact p9 w hw
    ·rw [hz,Ns _ _ _ (by rw [q3,EM];exact hle)];exact EM
   ·simp only [Dg,List.toList_toArray];rw [Nq _ _ _ _ (by rw [Dl];omega) (by rw [C4];omega)];intro u hu;unfold setVs at hu;simp only [Af]at hu;rcases hu with(hu|hu)|hu
    ·exact p10 u (List.mem_of_mem_take hu)
    ·exact q2 u hu
    ·exact p10 u (List.mem_of_mem_drop hu)
   ·simp only [Dg,List.toList_toArray];rw [Nq _ _ _ _ (by rw [Dl];omega) (by rw [C4];omega),DG,AH.aj];refine DC.setVs (p13.frame fun q hq=>AT q (.inr (by simp [hq]))) ?_ ?_
    ·rw [Dl];exact p14.frame fun q hq=>AT q (.inr (by simp [hq]))
    ·rw [Dl,FJ];exact q1.frame fun q hq=>AT q (.inl hq)
theorem rQ (h:A3 P c n nx sl hp a sl0 hp0 o gs) {t:TypeId} {x y:Operand} (ho:o.op= .store t x y) {b g:Nat} {ix:E} {sz k:Nat} {s:SV} (Bi: ¬ ∃e z g c d,Cz hp0 gs b=some (.row e z g c d)) (hx:Bm sl0 gs x=some (.bt b g ix sz k)) (hy:Bm sl0 gs y=some s)
  (he:KA P hp0 gs t (.bt b g ix sz k) s=some e) (hc: ∀q∈e.bu,Cn.den c.ρ q):At P o c n nx sl hp gs a e:=by
 have r1:=h.bz hx (by simp [ho,Op.operands]);have r2:=h.bz hy (by simp [ho,Op.operands]);simp only [KA]at he;split at he
 ·rename_i hl;exact absurd ⟨_,_,_,_,_,hl⟩ Bi
 ·rename_i el sz' l g' ep c0 hl;split at he
  ·rename_i hh;obtain⟨rfl,rfl,rfl,A1,hle,EE,De⟩:=hh;split at he
   ·rename_i xe us ck BP;split at he
    ·cases he
    rename_i DM;simp only [Bool.or_eq_true,Bool.not_eq_true',not_or,Bool.not_eq_false,Bool.not_eq_true,List.contains_eq_mem,decide_eq_false_iff_not]at DM;simp only [Ad]at he;subst he;obtain⟨e1,e2,e3,e4,e5⟩:=h.eh b _ (Cm hl h.gs);refine cK h ho r1 r2 e1 e2 e3 A1 hle (by simpa using EE) De BP hc (Nt DM.1) DM.2 fun kk kv Lk=> ?_;generalize a.eval x=v at r1;cases r1 with
    |bt k1 k2 k3 k4 k5 _=>
     rw [k3]at Lk;cases Lk;obtain⟨d1,d2,⟨a9,d3,_⟩|⟨g9,cap9,C,ys,N,d3,d4,d5,d6,d7,d8,d9,d10,d11,d12⟩⟩:=e4.inv
     ·rw [k2]at d3;cases d3;omega
     ·rw [AH.aj]at d2 d12;obtain⟨N1,N2,N3,rfl,s1,s2,s3⟩:=d12.split (kv.toNat*sz+k) (P.cellsOf t);have By:=h.rel.gw.nodup b;simp only [GI.own,e5,List.append_nil,d5]at By;refine⟨g9,cap9,C,ys,N1,N3,d3,d4,d1,d2,d6,d7,d8,d9,d10,d11, ?_,fun q hq=> ?_,s1,s3⟩
      ·refine List.Sublist.nodup (List.Sublist.cons_cons _ ?_) By;rw [List.append_assoc];exact List.Sublist.append (List.Sublist.refl _) (List.sublist_append_right _ _)
      ·rw [d5];simp only [Ae,Af]at hq ⊢;rcases hq with hq|hq|hq
       ·exact .inl hq
       ·exact .inr (.inl (.inl hq))
       ·exact .inr (.inr hq)
   ·cases he
  ·cases he
 ·rename_i el sz' l g' ep c0 i' o' u' hl;split at he
  ·rename_i hh;obtain⟨rfl,rfl,rfl,A1,rfl,mG,hle,OJ,De,EE⟩:=hh;have De:Aj P t=false:=by simpa using De
   split at he
   ·rename_i xe us ck BP;split at he
    ·cases he
    rename_i DM;simp only [Bool.or_eq_true,Bool.not_eq_true',not_or,Bool.not_eq_false,Bool.not_eq_true,List.contains_eq_mem,decide_eq_false_iff_not]at DM;simp only [Ad]at he;subst he;obtain⟨e1,e2,e3,⟨m,cap,C,ys,kk,kv,N1,N2,p1,p2,p3,p4,p5,p6,p7,p7',p8,p9,p10,p11,p12,p13,p14,p15,p16,p17,p18⟩,e5⟩:=h.eh b _ (Cm hl h.gs);refine cK h ho r1 r2 e1 e2 e3 A1 (by omega) (EE.imp id fun hh=>⟨hh,De⟩) (.inr OJ) (by rw [OJ];exact BP) hc (Nt DM.1) DM.2 fun kk' kv' Lk=> ?_;rw [E.af c.ρ _ _ mG,p3]at Lk;cases Lk;have By:=h.rel.gw.nodup b;simp only [GI.own,e5,List.append_nil,p14]at By;exact⟨m,cap,C,ys,N1,N2,p1,p2,p7,p7',p8,p9,p10,p11,p12,p13,By,fun q hq=>by rw [p14];exact hq,p17,by rw [OJ];exact p18⟩
   ·cases he
  ·cases he
 ·cases he
end
section
variable {P:Program} {c:Cx} {n nx:Nat} {sl sl0:Nat→SV} {hp hp0:Nat→Option Ah} {a:Act} {o:Oper} {gs:Gd} {e:AP} {sg:Bq} {nv:Nat}
theorem eV {w:World} {ety sz:Nat} {p:Option Addr} {m r:Nat} {x:AV} {top N:List Nat} (h:Ce w ety sz (.slice p m r) x top N): ∃xs,x= .sl xs∧xs.length=m∧m≤r∧0<sz∧(∀y∈xs,y.cells.length=sz)∧
  ((xs= []∧m=0∧r=0∧top= []∧N= [])∨ ∃g C,p=some ⟨g,0,none⟩∧r≤maxLen∧w.heap[g]?=some (.cells C ety (0,0))∧C.size=r*sz∧top= [g]∧(∀u∈C.toList.take (m*sz),u.oneCell'=true)∧Rd w (C.toList.take (m*sz)) (Az xs) N):=by
 obtain⟨xs,rfl,h2,h3,⟨rfl,⟨a,hv⟩,rfl,rfl⟩|⟨g,cap',C,hv,h6,h7,h8,h9,rfl,ES,EX⟩⟩:=h
 ·cases hv;exact⟨[],rfl,rfl,Nat.le_refl _,h3,by simp, .inl ⟨rfl,rfl,rfl,rfl,rfl⟩⟩
 ·cases hv;exact⟨xs,rfl,rfl,h6,h3,h2, .inr ⟨g,C,rfl,h7,h8,h9,rfl,ES,EX⟩⟩
theorem rZ (h:A3 P c n nx sl hp a sl0 hp0 o gs) {t:TypeId} {x:Operand} {lo hi mx:Option Operand} (ho:o.op= .slice t x lo hi mx) {s:SV} (hs:Bm sl0 gs x=some s) {l' h' m':Option SV} (Bl:Ih (Bm sl0 gs) lo=some l') (J3:Ih (Bm sl0 gs) hi=some h') (E4:Ih (Bm sl0 gs) mx=some m') (he:TC P hp0 gs t s l' h' m'=some e) (hc: ∀q∈e.bu,Cn.den c.ρ q):At P o c n nx sl hp gs a e:=by
 have hm:x∈o.op.operands:=by simp [ho,Op.operands]
 have Lm: ∀y,lo=some y→y∈o.op.operands:=fun y hy=>by simp [ho,Op.operands,hy]
 have I7: ∀y,hi=some y→y∈o.op.operands:=fun y hy=>by simp [ho,Op.operands,hy]
 have hx:=h.bz hs hm;have ival: ∀{x:E} {kk:IntKind} {k:Int} {v:Value},SR c [.e x] [v]→x.den c.ρ= .int kk k→v= .int kk k:=by
  intro x kk k v hr hx;cases hr with
  |e h1 _ _=>exact(Fy h1 hx).1
 have ex:(execOp a.eval o).run P c.w=((Instr.sliceAt t (a.eval x) (lo.map a.eval) (hi.map a.eval) (mx.map a.eval)).run P c.w).andThen fun v w=> .ok (.value v) w:=by simp [execOp,ho]
 unfold TC at he;split at he
 ·rename_i el0 b g Bc;have hu:=Ix Bc;split at he
  ·cases he
  rename_i A1;have A1:CC P el0=true:=by simpa using A1
  have Ln:mx=none:=by
   rcases H7 E4 with⟨hh,_⟩|⟨_,_,_,_,hh⟩
   ·exact hh
   ·cases hh
  subst Ln;split at he
  ·rename_i el z g' c0 d hl;split at he
   ·cases he
   rename_i Aq;simp only [not_or,Decidable.not_not,ne_eq]at Aq;obtain⟨rfl,rfl,rfl⟩:=Aq;obtain⟨q1,q2,N,q3,q4,q5,q6⟩:=h.eh b _ (Cm hl h.gs);generalize hv:a.eval x=v at hx ex;cases hx with
   |own k1 k2 k3=>
    rename_i p m r;rw [k2]at q3;obtain⟨xs,B1,HW,O6,Bz,Ay,AZ⟩:=eV q3;split at he
    ·rename_i l;simp only [Ad]at he;subst he;obtain⟨ka,ai,kb,bi,mm,d1,d2,d3,d4,d5,d6⟩:Cn.den c.ρ (.win c0 l (.len c0)):=Bx hc;have Vp:mm=(m:Int):=by rw [B1]at d3;simp only [AV.len,AV.int.injEq,true_and]at d3;omega
     obtain⟨an,rfl⟩:=Int.eq_ofNat_of_zero_le d4;obtain⟨ol,BD,hol⟩: ∃ol,lo=some ol∧Bm sl0 [] ol=some (.e l):=by
      rcases H7 Bl with⟨_,hh⟩|⟨ol,sl',Lc,U2,U3⟩
      ·cases hh
      ·cases U3;exact⟨ol,Lc,U2⟩
     have Ld:hi=none:=by
      rcases H7 J3 with⟨hh,_⟩|⟨_,_,_,_,hh⟩
      ·exact hh
      ·cases hh
     subst BD;subst Ld;have Vj:=ival (h.bz hol (Lm _ rfl)) d1;have hle:an≤m:=by omega
     have AI:=WK (P:=P) (w:=c.w) (lo:=(some ol).map a.eval) (hi:=(none:Option Operand).map a.eval) hu A1 p m r an m (.inr ⟨ka,by rw [Option.map_some,Vj]⟩) (.inl ⟨rfl,rfl⟩) hle (Nat.le_refl _) O6;have:=SR.wown (c:=c) (lo:=l) (sz:=P.cellsOf el) (q':=if r=an then p else p.map (·.add (an*P.cellsOf el))) (r:=r-an) k1 k2 d1 d4 (by omega) (fun Au=>by
      rcases AZ with⟨_,Dh,_⟩|⟨g9,C,rfl,_⟩
      ·omega
      ·exact⟨g9,rfl,by rw [if_neg (by omega)];simp [Addr.add_lit],by simp⟩) .nil
     refine At.pure h (v:=sliced p an m r (P.cellsOf el)) ?_ (by simpa [sliced]using this) rfl;rw [ex];show Result.andThen (Sem.run P (Instr.sliceAt t (.slice p m r) ((some ol).map a.eval) ((none:Option Operand).map a.eval) none) c.w) _=_;rw [AI];rfl
    ·rename_i hb;simp only [Ad]at he;subst he;obtain⟨ka,ai,kb,bi,mm,d1,d2,d3,d4,d5,d6⟩:Cn.den c.ρ (.win c0 (.int .i64 0) hb):=Bx hc;have Vp:mm=(m:Int):=by rw [B1]at d3;simp only [AV.len,AV.int.injEq,true_and]at d3;omega
     simp only [E.den,AV.int.injEq]at d1;obtain⟨_,rfl⟩:=d1;obtain⟨bn,rfl⟩:=Int.eq_ofNat_of_zero_le d5;obtain⟨oh,Ld,nA⟩: ∃oh,hi=some oh∧Bm sl0 [] oh=some (.e hb):=by
      rcases H7 J3 with⟨_,hh⟩|⟨ol,sl',Lc,U2,U3⟩
      ·cases hh
      ·cases U3;exact⟨ol,Lc,U2⟩
     have BD:lo=none:=by
      rcases H7 Bl with⟨hh,_⟩|⟨_,_,_,_,hh⟩
      ·exact hh
      ·cases hh
     subst BD;subst Ld;have Vj:=ival (h.bz nA (I7 _ rfl)) d2;have hle:bn≤m:=by omega
     have AI:=WK (P:=P) (w:=c.w) (lo:=(none:Option Operand).map a.eval) (hi:=(some oh).map a.eval) hu A1 p m r 0 bn (.inl ⟨rfl,rfl⟩) (.inr ⟨kb,by rw [Option.map_some,Vj]⟩) (Nat.zero_le _) hle O6;have B6:sliced p 0 bn r (P.cellsOf el)= .slice p bn r:=by
      unfold sliced;rcases AZ with⟨_,_,rfl,_⟩|⟨g9,C,rfl,_⟩
      ·simp
      ·split<;>simp [Addr.add_lit]
     rw [B6]at AI;have Er:(execOp a.eval o).run P c.w= .ok (.value (.slice p bn r)) c.w:=by rw [ex];show Result.andThen (Sem.run P (Instr.sliceAt t (.slice p m r) ((none:Option Operand).map a.eval) ((some oh).map a.eval) none) c.w) _=_;rw [AI];rfl
     have AM: ¬c.K b (g+1):=fun hk=>by have:=q2 _ hk;omega
     have Ak:=h.rel;have CR:=Ak.al (gs:= []) (t:=b) (g:=g+1) (w':=c.w) (row:=(c.G b).top.head?) (top:=(c.G b).top) (O:=if d=true then(c.G b).O else []) (v:= .slice p bn r) (.inr (by omega)) AM ⟨rfl,rfl,rfl,Nat.le_refl _,fun _ _ _=>rfl⟩ (fun g0 Eb=> .inl (List.mem_of_mem_head? Eb)) (by
       rcases AZ with⟨_,_,_,ht,_⟩|⟨g9,C,_,_,_,_,ht,_⟩
       ·exact .inl ht
       ·exact .inr ⟨g9,by rw [ht];rfl,ht⟩) (by split;exact .inr rfl;exact .inl rfl)
      (.row el (P.cellsOf el) (g+1) (.win c0 (.int .i64 0) hb) d) (by intros;simp) (D7 _) (fun Fu=>by
       have VY:(E.win c0 (.int .i64 0) hb).den c.ρ= .sl (xs.take bn):=by simp only [E.den,B1,d2,AV.win];simp
       obtain⟨N',A6,Rb⟩: ∃N',Ce c.w el (P.cellsOf el) (.slice p bn r) (.sl (xs.take bn)) (c.G b).top N'∧ ∀q∈N',q∈N:=by
        rcases AZ with⟨rfl,Dh,rfl,ht,rfl⟩|⟨g9,C,rfl,Dj,Rg,hC,ht,h1,CF⟩
        ·have:bn=0:=by omega
         subst this;exact⟨[],⟨[],by simp,by simp,Bz, .inl ⟨rfl,⟨p,rfl⟩,ht,rfl⟩⟩,by simp⟩
        ·obtain⟨N',Us,CT⟩:=CF.piece 0 (bn*P.cellsOf el);have MI:(xs.take bn).length=bn:=by rw [List.length_take];omega
         have hmul:bn*P.cellsOf el≤m*P.cellsOf el:=Nat.mul_le_mul_right _ hle;have ef:=Xy xs Ay 0 bn (Nat.zero_le _) (by omega);simp only [Nat.zero_mul,Nat.sub_zero,List.drop_zero]at ef CT;rw [ef,List.take_take,Nat.min_eq_left hmul]at CT;refine⟨N',⟨xs.take bn,rfl,fun y hy=>Ay y (List.mem_of_mem_take hy),Bz, .inr ⟨g9,r,C,by rw [MI],by rw [MI];omega,Dj,Rg,hC,ht, ?_, ?_⟩⟩,Us⟩
         ·rw [MI];intro u hu;refine h1 u ?_;have:C.toList.take (bn*P.cellsOf el)=(C.toList.take (m*P.cellsOf el)).take (bn*P.cellsOf el):=by rw [List.take_take,Nat.min_eq_left hmul]
          rw [this]at hu;exact List.mem_of_mem_take hu
         ·rw [MI];exact CT
       refine⟨.inr ⟨rfl,rfl⟩,fun g'' La=> ?_,N', ?_,fun q hq=>Fu.ok q (A6.l6 q hq) (q4 q (Rb q hq)),fun hd=> ?_,fun hd=>by simp [Cx.al,hd]⟩
       ·rcases La with La|⟨_,rfl⟩
        ·have:=q2 _ La;omega
        ·exact Nat.le_refl _
       ·have e1:(c.al b (g+1) c.w (.slice p bn r) (c.G b).top (if d=true then(c.G b).O else [])).H b (g+1)= .slice p bn r:=by simp [Cx.al]
        have e2:((c.al b (g+1) c.w (.slice p bn r) (c.G b).top (if d=true then(c.G b).O else [])).G b).top=(c.G b).top:=by simp [Cx.al]
        rw [e1,e2];show Ce c.w el (P.cellsOf el) _ ((E.win c0 (.int .i64 0) hb).den c.ρ) _ N';rw [VY];exact A6
       ·obtain⟨u1,u2⟩:=q5 hd;have u1:N= []:=u1;subst u1;have K0:N'= []:=List.eq_nil_iff_forall_not_mem.2 fun q hq=>by simpa using Rb q hq
        subst K0;exact⟨rfl,by simp only [Cx.al,if_true,hd];exact u2⟩)
     intro next Q hk
     unfold Oper.wp;rw [Er,Oper.upon_value];refine hk _ (c.al b (g+1) c.w (.slice p bn r) (c.G b).top (if d=true then(c.G b).O else [])) ⟨rfl,rfl,rfl,rfl,fun u hu=> ?_⟩ (CR.put (SR.mkGd (c:=c.al b (g+1) c.w (.slice p bn r) (c.G b).top (if d=true then(c.G b).O else [])) (s:= .own b (g+1)) (v:= .slice p bn r) (.own (show _∨_ from .inr ⟨rfl,rfl⟩) (by simp [Cx.al]) .nil) []) o.dst);rcases hu with hu|rfl
     ·exact .inl hu
     ·exact .inl (h.rel.a6 _ _ k1)
    ·cases he
  ·cases he
 ·cases he
theorem rP (z:Array Value) (hz:0<z.size) (k:Nat):(Builtin.zeroCells z k).toList=(List.replicate k z.toList).flatten:=by have:=SP z hz k;rw [←this];rfl
theorem u9 (h:A3 P c n nx sl hp a sl0 hp0 o gs) {x:Operand} {tx:TypeId} {cl:Call} (ho:o.op= .call cl) (Ay:cl.callee= .builtin .clear) (CA:cl.args.toList= [x]) (DD:cl.argTypes.toList= [tx]) {s:SV} (hs:Bm sl0 gs x=some s) (he:X1 P hp0 gs tx s=some e) (hc: ∀q∈e.bu,Cn.den c.ρ q):At P o c n nx sl hp gs a e:=by
 have Ao:cl.args= #[x]:=by apply Array.ext';simp [CA]
 have FV:cl.argTypes= #[tx]:=by apply Array.ext';simp [DD]
 have hm:x∈o.op.operands:=by simp [ho,Op.operands,Call.operands,Ay,Ao]
 have hx:=h.bz hs hm;unfold X1 at he;split at he
 ·rename_i el0 b g l z Bc;have hu:=Ix Bc;split at he
  ·rename_i el z' g' c0 d hl;split at he
   ·cases he
   rename_i Aq;simp only [not_or,Bool.not_eq_true',Bool.not_eq_false,Decidable.not_not,ne_eq]at Aq;obtain⟨rfl,rfl,rfl,rfl,hz,Av⟩:=Aq;have Av:Aj P el=true∨P.cellsOf el=1:=by simpa using Av
   obtain⟨i,zv,hi,E2,CV,Bz,BZ,Ft⟩:=Ji hz;split at he
   ·rename_i q hq;split at he
    ·rename_i w hw;have hq:D6 zv=some q:=by simpa [hi,E2]using hq
     simp only [Ad]at he;subst he;obtain⟨c1,c2⟩:=W7 (w:=c.w) (ρ:=c.ρ) hq hw;have AK:=Jw h.hp (Cm hl h.gs);obtain⟨q1,q2,N,q3,q4,q5,q6⟩:=h.rel.ents b _ AK;generalize hv:a.eval x=v at hx;cases hx with
     |wown k1 k2 k3 k4 k5 k6 k7=>
      rename_i p m r q' r' kk kv;rw [k2]at q3;obtain⟨xs,B1,HW,O6,VR,K4,AZ⟩:=eV q3;have K5:(E.bin .sub (.len c0) l).den c.ρ≠ .undef:=hc (.dfd (.bin .sub (.len c0) l)) (by simp);have J7:kk= .i64:=by
       simp only [E.den,B1,AV.len,k3,AV.bin]at K5;split at K5
       ·rename_i hh;rcases hh with hh|hh|hh
        ·exact hh.symm
        ·cases hh
        ·cases hh
       ·exact absurd rfl K5
      subst J7;have BG:(E.bin .sub (.len c0) l).den c.ρ= .int .i64 ((m:Int)-kv):=by
       simp only [E.den,B1,AV.len,k3,AV.bin,true_or,if_true,DV,HW];congr 1;have mS:(m:Int)≤9223372036854775807:=by
        rcases AZ with⟨_,h0,_⟩|⟨_,_,_,Dj,_⟩
        ·omega
        ·have:maxLen=9223372036854775807:=rfl;omega
       exact(Ma .i64 _).2 ⟨by simp [IntKind.min,IntKind.signed,IntKind.bits];omega,by simp [IntKind.max,IntKind.signed,IntKind.bits];omega⟩
      have AM:(E.app (.win c0 (.int .i64 0) l) (.rep (.bin .sub (.len c0) l) w)).den c.ρ= .sl (xs.take kv.toNat++List.replicate (m-kv.toNat) (w.den c.ρ)):=by
       have e1:(E.win c0 (.int .i64 0) l).den c.ρ= .sl (xs.take kv.toNat):=by simp only [E.den,B1,k3,AV.win];simp
       have e2:(E.rep (.bin .sub (.len c0) l) w).den c.ρ= .sl (List.replicate (m-kv.toNat) (w.den c.ρ)):=by show AV.rep ((E.bin .sub (.len c0) l).den c.ρ) (w.den c.ρ)=_;rw [BG];simp only [AV.rep];congr 2;omega
       show AV.app _ _=_;rw [e1,e2];rfl
      have ex:(execOp a.eval o).run P c.w=((Builtin.clear_ #[tx] o.type #[.slice q' (m-kv.toNat) r']).run P c.w).andThen fun v w=> .ok (.value v) w:=by simp [execOp,ho,resolve,Ay,Ao,FV,invoke,builtin,hv]
      rcases Nat.eq_or_lt_of_le (show kv.toNat≤m by omega)with heq|Au
      ·
       have Bn:m-kv.toNat=0:=by omega
       have AI:(execOp a.eval o).run P c.w= .ok (.value (.tuple #[])) c.w:=by rw [ex,Bn];cases q'<;>simp [Builtin.clear_,run_underlying hu]
       have AT:(E.app (.win c0 (.int .i64 0) l) (.rep (.bin .sub (.len c0) l) w)).den c.ρ=c0.den c.ρ:=by rw [AM,B1,Bn];simp [List.take_of_length_le (show xs.length≤kv.toNat by omega)]
       intro next Q hk
       unfold Oper.wp;rw [AI,Oper.upon_value];have CR:Rel c n sl (AU hp [(b, .row el (P.cellsOf el) g (.app (.win c0 (.int .i64 0) l) (.rep (.bin .sub (.len c0) l) w)) d)]) a:=by
        have CU: ∀u,AU hp [(b, .row el (P.cellsOf el) g (.app (.win c0 (.int .i64 0) l) (.rep (.bin .sub (.len c0) l) w)) d)] u=if u=b then some (.row el (P.cellsOf el) g (.app (.win c0 (.int .i64 0) l) (.rep (.bin .sub (.len c0) l) w)) d)else hp u:=fun u=>rfl;refine h.rel.change (fun u=>u=b) (CN.refl c) h.rel.base (fun u hu=>⟨by rw [CU,if_neg hu],rfl,rfl,fun _ hk=>hk⟩) (fun _ _ _ _=>rfl) (fun u hu=> ?_) h.rel.gw h.rel.a6 (fun u f hf=> ?_)
        ·subst hu;rw [CU,if_pos rfl];refine⟨fun e' hr=> ?_,fun hn=>absurd rfl (hn _)⟩;simp only [BW]at hr;subst hr;exact⟨q1,q2,N,by rw [AT,k2];exact q3,q4,q5,q6⟩
        ·rw [CU]at hf;split at hf
         ·rename_i hu;subst hu;exact h.rel.a6 _ _ k1
         ·exact h.rel.br u f hf
       exact hk _ c (KQ.refl _ _) (CR.put ((SR.undef .nil).mkGd []) o.dst)
      ·obtain⟨b9,Zv,rfl,rfl⟩:=k6 (by omega);rcases AZ with⟨_,h0,_⟩|⟨g9,C,hp',Dj,Rg,hC,ht,h1,CF⟩
       ·omega
       rw [Zv]at hp';cases hp';have C4:C.toList.length=r*P.cellsOf el:=by simpa using hC
       have Zs:m*P.cellsOf el≤r*P.cellsOf el:=Nat.mul_le_mul_right _ O6;have Zr:(m-kv.toNat)*P.cellsOf el+kv.toNat*P.cellsOf el=m*P.cellsOf el:=by rw [←Nat.add_mul];congr 1;omega
       have V4:=rP zv.cells (by omega) (m-kv.toNat);generalize hZ:(List.replicate (m-kv.toNat) zv.cells.toList).flatten=Z at V4;have K1:Z.length=(m-kv.toNat)*P.cellsOf el:=by rw [←hZ,List.length_flatten];simp only [List.map_replicate,List.sum_replicate_nat,Array.length_toList,CV,BZ]
       have Zh: ∀u∈Z,u.oneCell'=true:=fun u hu=>by rw [←hZ]at hu;obtain⟨L,hL,hu⟩:=List.mem_flatten.1 hu;rw [List.eq_of_mem_replicate hL]at hu;exact c2 u hu
       have Ph:=WR (P:=P) (off:=kv.toNat*P.cellsOf el) Z 0 c.w C Rg (by rw [K1,hC];omega) Zh;have AI:(execOp a.eval o).run P c.w= .ok (.value (.tuple #[])) (putCells c.w b9 (kv.toNat*P.cellsOf el) Z):=by
        rw [ex];obtain⟨mm,Vp⟩: ∃mm,m-kv.toNat=mm+1:=⟨m-kv.toNat-1,by omega⟩
        have nV:(zeroValue el).run P c.w= .ok zv c.w:=by simp [zeroValue,typeInfo,hi,E2]
        simp only [Nat.add_zero]at Ph;rw [Vp]at V4 ⊢;simp [Builtin.clear_,run_underlying hu,nV,V4,Ph]
       obtain⟨m1,m2,m3⟩:=SL (off:=kv.toNat*P.cellsOf el) (vs:=Z) Rg (by rw [K1,hC];omega);have Ll:(C.toList.take (m*P.cellsOf el)).length=m*P.cellsOf el:=by rw [List.length_take,C4];omega
       have Km:b9∈(c.G b).top:=by rw [ht];simp
       have Oy:Rd c.w Z (Az (List.replicate (m-kv.toNat) (w.den c.ρ))) []:=by rw [←hZ];exact Yr c1 _
       obtain⟨n1,n2,n3,hN,s1,s2⟩:=Rd.setVs (p:=kv.toNat*P.cellsOf el) CF Oy (by rw [Ll,K1];omega);have RA:(w.den c.ρ).cells.length=P.cellsOf el:=by have:=c1.len;rw [←this];simp [CV,BZ]
       have lP:(Az (List.replicate (m-kv.toNat) (w.den c.ρ))).length=Z.length:=by rw [←Oy.len]
       have D4:setVs (Az xs) (kv.toNat*P.cellsOf el) (Az (List.replicate (m-kv.toNat) (w.den c.ρ)))=Az (xs.take kv.toNat++List.replicate (m-kv.toNat) (w.den c.ρ)):=by
        have ef:=Xy xs K4 0 kv.toNat (Nat.zero_le _) (by omega)
        simp only [Nat.zero_mul,Nat.sub_zero,List.drop_zero]at ef;unfold setVs;rw [ef,WV,lP,K1,List.drop_eq_nil_of_le (by rw [Kx _ K4,HW];omega),List.append_nil]
       rw [D4]at s1;have B0: ∀q∈n1++ []++n3,q∈N:=fun q hq=>by rw [hN];simp at hq ⊢;rcases hq with hq|hq<;>simp [hq]
       have EG: ∀q,q<c.w.heap.size→c.ok q→(putCells c.w b9 (kv.toNat*P.cellsOf el) Z).heap[q]?=c.w.heap[q]?:=by intro q hq Aw;refine m1.block q hq ?_;simp only [List.mem_singleton];rintro rfl;exact Aw.1 ⟨b,Km⟩
       have Dg:(xs.take kv.toNat++List.replicate (m-kv.toNat) (w.den c.ρ)).length=m:=by rw [AB,List.length_take,List.length_replicate];omega
       have CR:=h.rel.jo (t:=b) (b:=b9) (w':=putCells c.w b9 (kv.toNat*P.cellsOf el) Z) (O:=if d=true then(c.G b).O else []) AK Km (by split;exact .inr rfl;exact .inl rfl) m1 m3
        (.row el (P.cellsOf el) g (.app (.win c0 (.int .i64 0) l) (.rep (.bin .sub (.len c0) l) w)) d) (by intros;simp) (fun Fu=>by
         refine⟨q1,q2,n1++ []++n3, ?_,fun q hq=>Fu.ok q (CF.inb q (B0 q hq)) (q4 q (B0 q hq)),fun hd=> ?_,fun hd=>by simp [Cx.eu,hd]⟩
         ·show Ce (putCells c.w b9 (kv.toNat*P.cellsOf el) Z) el (P.cellsOf el) (c.H b g) ((E.app (.win c0 (.int .i64 0) l) (.rep (.bin .sub (.len c0) l) w)).den c.ρ) _ _;rw [AM,k2,Zv];refine⟨_,rfl,fun y hy=> ?_,VR, .inr ⟨b9,r,_,by rw [Dg],by rw [Dg];exact O6,Dj,m2, ?_,by simpa [Cx.eu]using ht, ?_, ?_⟩⟩
          ·rcases Af.1 hy with hy|hy
           ·exact K4 y (List.mem_of_mem_take hy)
           ·rw [List.eq_of_mem_replicate hy];exact RA
          ·rw [List.size_toArray,Ns _ _ _ (by rw [K1,C4];omega),Array.length_toList];exact hC
          ·simp only [Dg,List.toList_toArray];rw [Nq _ _ _ _ (by rw [K1];omega) (by rw [C4];omega)];intro u hu;unfold setVs at hu;simp only [Af]at hu;rcases hu with(hu|hu)|hu
           ·exact h1 u (List.mem_of_mem_take hu)
           ·exact Zh u hu
           ·exact h1 u (List.mem_of_mem_drop hu)
          ·simp only [Dg,List.toList_toArray];rw [Nq _ _ _ _ (by rw [K1];omega) (by rw [C4];omega)];exact s1.frame fun q hq=>EG q (CF.inb q (B0 q hq)) (q4 q (B0 q hq))
         ·obtain⟨u1,u2⟩:=q5 hd;have u1:N= []:=u1;subst u1;have K0:n1++ []++n3= []:=List.eq_nil_iff_forall_not_mem.2 fun q hq=>by simpa using B0 q hq
          rw [K0];exact⟨rfl,by simp only [Cx.eu,if_true,hd];exact u2⟩)
       intro next Q hk
       unfold Oper.wp;rw [AI,Oper.upon_value];exact hk _ (c.eu _ b _) ⟨rfl,rfl,rfl,rfl,fun t ht=> .inl ht⟩ (CR.put ((SR.undef .nil).mkGd []) o.dst)
    ·cases he
   ·cases he
  ·cases he
 ·cases he
end
section
variable {P:Program} {c:Cx} {n nx:Nat} {sl sl0:Nat→SV} {hp hp0:Nat→Option Ah} {a:Act} {o:Oper} {gs:Gd} {e:AP} {sg:Bq} {nv:Nat}
theorem Yb {w:World}: ∀(vs:List Value) {xs:List AV} {f:List Nat} (ts:List TypeId),Rd w vs xs f→ts.length≤vs.length→CJ P w ts [] [] vs xs f [] []
 | [],xs,f,ts,h,hl=>by have:ts= []:=List.eq_nil_of_length_eq_zero (by simpa using hl);subst this;cases h;exact .nil
 |v::vs, [],f,ts,h,hl=>by have:=h.len;simp at this
 |v::vs,x::xs,f,ts,h,hl=>by
  obtain⟨f1,f2,rfl,h1,h2⟩:=h.bf;cases ts with
  |nil=>exact .free h1 (Yb vs [] h2 (by simp))
  |cons t ts=>exact CJ.cons (h:= []) ⟨h1,rfl⟩ (Yb vs ts h2 (by simpa using hl))
theorem zY (l:EL):EL.of (NM.go l)=l:=by
 induction l using EL.rec (motive_1:=fun _=>True)with
 |nil=>rfl
 |cons e es _ ih=>simp [NM.go,EL.of,ih]
 |_=>trivial
theorem zC {w:World} {ts:List TypeId} {vs:List Value} {Bs:List AV} {f o:List Nat} (h:CY P w ts [] vs Bs f o):Bs= []:=by
 have key: ∀(ts:List TypeId),Bg ts []=false:=by
  intro ts
  induction ts with
  |nil=>rfl
  |cons t ts ih=>simp only [Bg,List.headD_nil,Bool.false_or,List.tail_nil];exact ih
 exact(Xc h).2 (key ts)
theorem vT (t:TypeId):Fm P t []=false:=by simp [Fm]
theorem bF (h:A3 P c n nx sl hp a sl0 hp0 o gs) {cl:Call} {fo:Operand} (ho:o.op= .call cl) (Ay:cl.callee= .value fo) {y:E} {sf:SV} (hf:Bm sl0 gs fo=some sf) (VO: ∀v,SR c [sf] [v]→ ∃f,Rd c.w [v] [y.den c.ρ] f) {as_:List SV} (has:cl.args.toList.mapM (Bm sl0 gs)=some as_) {t:TypeId}
  (he:NM P hp0 gs nv t y as_=some e) (AW: ∀c',e.call=some c'→ ∃r,c.ρ[nv]?=some r∧GZ (Ca P sg) c'.fn ((EL.of c'.args).den c.ρ) c.ρ r):At P o c n nx sl hp gs a e:=by
 have Vm:fo∈o.op.operands:=by simp [ho,Op.operands,Call.operands,Ay]
 have Vl: ∀x∈cl.args.toList,x∈o.op.operands:=fun x hx=>by
  have:x∈cl.args:=by simpa using hx
  simp [ho,Op.operands,Call.operands,Ay,this]
 have Kg:=h.bz hf Vm;have Ao:=eS (a:=a) (fun x hx s hs=>h.bz hs (Vl x hx)) has;unfold NM at he;split at he
 ·cases he
 split at he
 ·cases he
 rename_i es GH;simp only [Ad]at he;subst he;obtain⟨r,hr,g,caps,hy,HQ,Ee⟩:=AW _ rfl;rw [zY]at HQ;obtain⟨f1,p1,p2⟩:=NC h.eh h.gs AJ GH Ao AJ (Nat.le_refl _);generalize UZ:a.eval fo=fv at Kg;obtain⟨_,k1⟩:=VO _ Kg;obtain⟨capv,f2,rfl,UP⟩: ∃capv f2,fv= .func (.func g) #[] capv.toArray∧Rd c.w capv caps f2:=by
  rw [hy]at k1;cases k1 with
  |fn q1 _=>exact⟨_,_,rfl,q1⟩
 have Lw:Ok P {bg:= [],res:= []} g (es.den c.ρ++caps) r:=by unfold Ca at HQ;rw [if_neg (by omega)]at HQ;simpa using HQ
 obtain⟨fn,FM,C5,E7,_,hlen,_,EF⟩:=Lw;have CF:=p1.app UP;have Dl:=CF.len;have AW:=EF c.w _ _ [] [] (Yb _ (fn.params.toList++ []) CF (by rw [Dl,hlen,List.append_nil,Array.length_toList];omega)) (by simp) (by simp) (by simp) (h.rel.me (by simp));have ex:(execOp a.eval o).run P c.w= .ok (.enter g (cl.args.map a.eval++capv.toArray)) c.w:=by
  have hb:fn.body.isNone=false:=by simpa using C5
  simp only [execOp,ho,resolve,Ay,UZ,Deferred.ofValue,Sem.run_bind,Sem.run_pure,Result.andThen_ok,invoke,callFunc,run_program,FM];simp [E7,hb]
 intro next Q hk
 unfold Oper.wp;rw [ex,Oper.upon_enter];have K2:cl.args.map a.eval++capv.toArray=((cl.args.toList.map a.eval)++capv).toArray:=by apply Array.ext';simp
 rw [K2];refine AW.mono ?_;rintro e' w' ⟨v,rfl,⟨R,Bs,f1',o1,f2',o2,I9,AK,Ek,FR,Pf,OP⟩,Ci⟩;show next (a.put o.dst v) w'
 have KZ:=zC Ek;subst KZ;simp only at I9;subst I9;have hv:Rd w' [v] [r] []:=by
  unfold IL at AK;split at AK
  ·rename_i t' ht;unfold Dr at AK;rw [if_neg (by rw [vT];simp)]at AK;have:=bC AK.1 Ee;subst this;exact AK.1
  ·obtain⟨vs,ys,_,rfl,_⟩:=AK;have:=Ee (.tup ys) (by simp [AV.cells]);simp [AV.scalar]at this
 obtain⟨En,_⟩:=h.rel.changes (w':=w') (recs:= []) (hs:= []) (gs:=gs) h.gs Ci (by simp) (by simp) (by simp) (by simp) (by simp) (by simp) (by simp);refine hk _ (c.c8 w' []) ⟨rfl,rfl,rfl,rfl,fun t ht=> ?_⟩ (En.put (SR.mkGd (.e (f:= []) ?_ (by simp) .nil) gs h.gs) o.dst)
 ·rcases ht with ht|⟨r,hr,_⟩
  ·exact .inl ht
  ·simp at hr
 ·show Rd w' [v] [(E.var nv).den c.ρ] [];simp only [E.den,hr,Option.getD_some];exact hv
theorem YB (HR: ∀f s,sg f=some s→f<1000000) (h:A3 P c n nx sl hp a sl0 hp0 o gs) (he:Bf P sg sl0 hp0 nv nx gs o=some e)
  (hc: ∀q∈e.bu,q.den c.ρ) (AW: ∀cl,e.call=some cl→ ∃r,c.ρ[nv]?=some r∧GZ (Ca P sg) cl.fn ((EL.of cl.args).den c.ρ) c.ρ r) (Cb: ∀x,e.bc=some x→c.ρ[nv]?=some (.bool (ID a o))):At P o c n nx sl hp gs a e:=by
 have I0:=he;cases AE:o.op with
 |move x=>simp only [Bf,AE,Am]at he;obtain⟨s,hs,rfl⟩:=he;exact eH h (.inl AE) hs
 |assign x=>simp only [Bf,AE,Am]at he;obtain⟨s,hs,rfl⟩:=he;exact eH h (.inr AE) hs
 |pick x y z=>exact wO h AE he hc
 |alloc t=>exact vJ h AE he hc
 |box t x=>exact yE h AE he hc
 |build t parts=>exact vA h AE he hc
 |buildSlice t m parts=>
  simp only [Bf,AE,An]at he;obtain⟨ps,Ke,he⟩:=he;split at he
  ·exact rL h AE Ke he hc
  ·exact qP h AE Ke he hc
 |load t x=>exact xO h AE he hc
 |nilCheck x=>exact sQ h AE he hc
 |makeSlice t l m=>
  simp only [Bf,AE,An]at he;obtain⟨s1,Bj,s2,AQ,he⟩:=he;split at he
  ·exact sN h AE Bj AQ he hc
  ·exact uO h AE Bj AQ he hc
 |slice t x lo hi mx=>
  simp only [Bf,AE,An]at he;obtain⟨s,hs,l',Bl,h',J3,m',E4,he⟩:=he;split at he
  ·exact rZ h AE hs Bl J3 E4 he hc
  ·exact tK h AE hs Bl J3 E4 he hc
 |fieldAddr t x f=>exact rM h AE he hc
 |field t x f=>exact uT h AE he hc
 |extract x i=>exact sY h AE he hc
 |store t x y=>
  simp only [Bf,AE,An]at he;obtain⟨p,hp',v,hv,he⟩:=he;cases p with
  |bj b k=>exact sK h AE hp' hv he hc
  |bt b g i sz k=>
   by_cases Bi: ∃e z g c d,Cz hp0 gs b=some (.row e z g c d)
   ·exact sR h AE Bi hp' hv he hc
   ·exact rQ h AE Bi hp' hv he hc
  |_=>simp [KA]at he
 |binOp op t x y ty=>
  cases hu:P.underlying t with
  |none=>simp only [Bf,AE,An]at he;obtain⟨_,_,_,_,he⟩:=he;simp [NT,hu]at he
  |some d=>
   by_cases Po: ∃fs,d= .struct fs
   ·obtain⟨fs,rfl⟩:=Po;exact x7 h AE hu he hc
   ·have Kc: ∀fs,P.underlying t≠some (.struct fs):=fun fs hh=>Po ⟨fs,by rw [hu]at hh;cases hh;rfl⟩;cases hq:e.bc with
    |none=>exact yU h AE Kc he hq hc
    |some x'=>
     have Fc:=Cb x' hq;simp only [Bf,AE,An]at he;obtain⟨s1,Bj,s2,AQ,he⟩:=he;have r1:=h.bz Bj (by simp [AE,Op.operands]);have r2:=h.bz AQ (by simp [AE,Op.operands]);unfold NT at he;split at he
     ·rename_i el EJ;have B6: ∀xq,A2 hp0 gs AJ s1=some xq→Cn.den c.ρ (.dfd (.len xq))→ ∃p q r,a.eval x= .slice p q r:=by
       intro xq HX hd;obtain⟨f,q1,_⟩:=h.jz Bj (by simp [AE,Op.operands]) HX;have hd:(xq.den c.ρ).len≠ .undef:=hd;cases A8:xq.den c.ρ<;>simp only [A8,AV.len,ne_eq,not_true_eq_false]at hd;rename_i xs;have hl:(xq.den c.ρ).len= .int .i64 (xs.length:Int):=by rw [A8];rfl
       rcases NB q1 hl with⟨p,q,hv,Dh⟩|⟨b,o',k,q,hv,Dh⟩
       ·exact⟨_,_,_,hv⟩
       ·exact⟨_,_,_,hv⟩
      split at he
      ·simp at he;subst he;cases hq
      ·simp at he;subst he;cases hq
      ·obtain⟨xq,HX,rfl⟩:=Am.1 he;obtain⟨p,q,r,hv⟩:=B6 xq HX (hc _ (by simp));exact eU h AE EJ hv r2 (.inl rfl) Fc _
      ·obtain⟨xq,HX,rfl⟩:=Am.1 he;obtain⟨p,q,r,hv⟩:=B6 xq HX (hc _ (by simp));exact eU h AE EJ hv r2 (.inr rfl) Fc _
      ·cases he
     ·split at he
      ·simp at he;subst he;cases hq
      ·cases he
     ·split at he
      ·simp at he;subst he;cases hq
      ·cases he
     ·split at he
      ·simp at he;subst he;cases hq
      ·cases he
     ·rename_i fs EJ;exact absurd EJ (Kc fs)
     ·cases he
 |unOp u t x=>
  cases u with
  |not=>exact yC h AE he hc
  |neg=>exact yI h AE he hc
  |_=>simp [Bf,AE]at he
 |convert src dst x=>
  have JW:=he;simp only [Bf,AE,An]at JW;obtain⟨s,_,JW⟩:=JW;unfold Qv at JW;split at JW
  ·rename_i k0 k h1 h2;exact s7 h AE h1 h2 he hc
  ·rename_i h1 h2;exact tD h AE h1 h2 he hc
  ·rename_i el h1 h2;exact sX h AE h1 h2 he hc
  ·cases JW
 |makeFunc fr fst caps=>
  cases fr with
  |func f=>exact sG h AE he
  |_=>simp [Bf,AE]at he
 |indexAddr t x i=>refine rO h AE (fun hu=> ?_) he hc;simp only [Bf,AE,An]at he;obtain⟨_,_,_,_,he⟩:=he;simp [Uh,hu]at he
 |index t x i=>
  refine s6 h AE ?_ he hc;simp only [Bf,AE,An]at he;obtain⟨_,_,_,_,he⟩:=he;split at he
  ·rename_i Ef;unfold Uh at Ef;split at Ef
   ·assumption
   ·cases Ef
  ·cases he
 |call cl=>
  simp only [Bf,AE]at he;cases Ay:cl.callee with
  |invoke r m=>rw [Ay]at he;simp at he
  |value f=>
   rw [Ay]at he;simp only [An]at he;obtain⟨s,hs,as_,has,he⟩:=he;cases s with
   |fn g caps=>
    have he:Qt P sg hp0 gs nv nx g (as_++caps.toList)=some e:=he;refine vX h AE Ay hs has ?_ he AW;unfold Qt at he;split at he
    ·rename_i fn sg' FM hh;exact HR g sg' hh
    ·cases he
   |e y=>exact bF h AE Ay hs (fun v hv=>by cases hv with|e k1 _ _=>exact⟨_,k1⟩) has he AW
   |lent i=>exact bF h AE Ay hs (fun v hv=>by
     cases hv with
     |lent g1 _=>obtain⟨f,p1,p2⟩:=h.rel.base.lo _ _ g1;exact⟨f,p1.frame fun b hb=>h.rel.base.block b (p1.inb b hb) (p2 b hb)⟩) has he AW
   |_=>simp at he
  |builtin b=>
   rw [Ay]at he;cases b with
   |len=>
    simp only at he;split at he
    ·rename_i x tx CA DD;exact zE h AE Ay CA DD I0 hc
    ·cases he
   |append=>
    simp only at he;split at he
    ·rename_i x y tx ty CA DD;simp only [An]at he;obtain⟨s1,Bj,s2,AQ,he⟩:=he;split at he
     ·exact qV h AE Ay CA DD Bj AQ he hc
     ·exact tA h AE Ay CA DD Bj AQ he hc
    ·cases he
   |clear=>
    simp only at he;split at he
    ·rename_i x tx CA DD;simp only [An]at he;obtain⟨s,hs,he⟩:=he;exact u9 h AE Ay CA DD hs he hc
    ·cases he
   |max=>
    simp only at he;split at he
    ·rename_i x y CA;simp only [An]at he;obtain⟨s1,Bj,s2,AQ,he⟩:=he;exact cA h AE (.inl ⟨rfl,Ay⟩) CA Bj AQ he hc
    ·cases he
   |min=>
    simp only at he;split at he
    ·rename_i x y CA;simp only [An]at he;obtain⟨s1,Bj,s2,AQ,he⟩:=he;exact cA h AE (.inr ⟨rfl,Ay⟩) CA Bj AQ he hc
    ·cases he
   |_=>simp at he
 |_=>simp [Bf,AE]at he
end
section
variable {P:Program} {c:Cx} {n nx:Nat} {sl sl0:Nat→SV} {hp hp0:Nat→Option Ah} {a:Act} {o:Oper} {gs:Gd} {e:AP} {sg:Bq} {nv:Nat}
theorem Rel.iz (h:Rel c n sl hp a) {sl':Nat→SV} (hs: ∀i,sl' i=sl i∨SR c [sl' i] [a.tmps.getD i undef]):Rel c n sl' hp a:=
 ⟨h.defers,h.size,h.base,fun i=>by
  rcases hs i with hh|hh
  ·rw [hh];exact h.cc i
  ·exact hh,h.ents,h.off,h.gw,h.a6,h.br⟩
theorem PX {u:Nat}: ∀{l:List Operand} {t T v m:Nat} {p:E × Nat × Nat} {s:SV},Jy sl0 u l=some (t,T,v,m,p,s)→Operand.tmp t∈l∧((∃y,sl0 t= .via T v m (some p) y∧s= .own u 0)∨ ∃y k z q,sl0 t= .vptr T v m (some p) y k z q∧s= .bt u 0 k z q)
 | [],_,_,_,_,_,_,h=>by simp [Jy]at h
 |x::l,t,T,v,m,p,s,h=>by
  cases x with
  |tmp i=>
   simp only [Jy]at h;split at h
   ·rename_i hs;simp only [Ad,Prod.mk.injEq]at h;obtain⟨rfl,rfl,rfl,rfl,rfl,rfl⟩:=h;exact⟨by simp, .inl ⟨_,hs,rfl⟩⟩
   ·rename_i hs;simp only [Ad,Prod.mk.injEq]at h;obtain⟨rfl,rfl,rfl,rfl,rfl,rfl⟩:=h;exact⟨by simp, .inr ⟨_,_,_,_,hs,rfl⟩⟩
   ·obtain⟨h1,h2⟩:=PX h;exact⟨by simp [h1],h2⟩
  |const v9=>simp only [Jy]at h;obtain⟨h1,h2⟩:=PX h;exact⟨by simp [h1],h2⟩
  |func f=>simp only [Jy]at h;obtain⟨h1,h2⟩:=PX h;exact⟨by simp [h1],h2⟩
  |global g=>simp only [Jy]at h;obtain⟨h1,h2⟩:=PX h;exact⟨by simp [h1],h2⟩
theorem Rel.split (h:Rel c n sl hp a) {T v m u:Nat} {p:E × Nat × Nat} {hl inn:Ah} (hs:Qn hp0 T v m u p=some (hl,inn)) (Bn: ∀t e,hp0 t=some e→hp t=some e) (hu: ¬c.U u) {vv:Value} (HM:c.E T=m→G6 c T v (some p) vv):
  ∃recs c1,c1=c.c8 c.w recs∧Rel c1 n sl (AU hp [(T,hl),(u,inn)]) a∧CN c c1∧c1.K u 0∧c1.H u 0=vv∧(∃q n r,vv= .slice q n r∧(q=none∨n=0∨ ∃g,q=some ⟨g,0,none⟩))∧(∀t,c1.U t→c.U t∨t=u)∧c.K T v∧c.E T=m∧c1.E T=m+1∧T≠u:=by
 have eh:EH c hp0:=fun t e hr=>h.ents t e (Jw Bn hr);obtain⟨pi,z,po⟩:=p;unfold Qn at hs;split at hs
 ·rename_i e z0 l g ep c0 mP;split at hs
  ·rename_i Aq;obtain⟨rfl,rfl,Zx⟩:=Aq;simp only at Zx;subst Zx;split at hs
   ·rename_i e2 z2 l2 BD;simp only [Ad,Prod.mk.injEq]at hs;obtain⟨rfl,rfl⟩:=hs;simp only at BD;obtain⟨q1,q2,q3,q4,q5⟩:=eh T _ (Cm mP (D7 _));obtain⟨b,n9,cap,C,ty,fz,kk,k,p1,p2,p3,p4,p5,p6,p7⟩:=HM q3;obtain⟨d1,d2,⟨a9,d3,_⟩|⟨g9,cap9,C9,ys,N,d3,d4,d5,d6,d7,d8,d9,d10,d11,d12⟩⟩:=q4.inv
    ·rw [p1]at d3;cases d3;omega
    ·rw [p1]at d3;cases d3;rw [d6]at p3;cases p3;rw [AH.aj]at d2 d12;have nB:po<z:=by
      rcases Nat.lt_or_ge po l.length with hh|hh
      ·omega
      ·rw [List.getElem?_eq_none hh]at BD;cases BD
     have GJ:k.toNat<ys.length:=by omega
     have hmul:(k.toNat+1)*z≤ys.length*z:=Nat.mul_le_mul_right _ (by omega);have E6:ys.length*z≤cap*z:=Nat.mul_le_mul_right _ d7;rw [Nat.add_mul]at hmul;have C4:C.toList.length=cap*z:=by simpa using d9
     have Au:k.toNat*z+po<C.size:=by omega
     obtain⟨N1,N2,N3,rfl,s1,s2,s3⟩:=d12.split (k.toNat*z+po) 1;have BF:((C.toList.take (ys.length*z)).drop (k.toNat*z+po)).take 1= [vv]:=by have hv:C[k.toNat*z+po]?=some vv:=p7;rw [List.drop_take,List.take_take,Nat.min_eq_left (by omega),List.drop_eq_getElem_cons (by simpa using Au),List.take_succ_cons,List.take_zero];rw [Array.getElem?_eq_getElem Au]at hv;simpa using hv
     have FX:=KG GJ;generalize LF:(AV.sl ys).nth k.toNat=yk at FX;have EM:=d10 yk (List.mem_of_getElem? FX);have D4:((Az ys).drop (k.toNat*z+po)).take 1= [(E.fld (.idx c0 pi) po 1 false).den c.ρ]:=by rw [P6 ys d10 _ _ FX po 1 (by omega),List.drop_eq_getElem_cons (by omega),List.take_succ_cons,List.take_zero];simp only [E.den,d4,p4,AV.idx,LF,AV.fld];simp [show po<yk.cells.length by omega]
     have A1:((Cw ys.length l).drop (k.toNat*z+po)).take 1= [.row e2 z2 l2]:=by
      rw [←d2,PZ l _ _ _ _ GJ (by omega)];have HH:po<l.length:=by omega
      rw [List.drop_eq_getElem_cons HH,List.take_succ_cons,List.take_zero];rw [List.getElem?_eq_getElem HH]at BD;simpa using BD
     rw [BF,D4,A1]at s2;have Fs:=h.a6 _ _ q1;have Hw:T≠u:=fun hh=>hu (hh▸Fs);have By:=h.gw.nodup T;simp only [GI.own,q5,List.append_nil,d5]at By;have AK: ∀r∈([⟨T,none,b::(N1++N3), .hol e z l g (ep+1) c0 pi po u⟩,⟨u,some vv,N2,if l2.toList.all DT.ay then .row e2 z2 0 (.fld (.idx c0 pi) po 1 false) true else .deep e2 z2 l2.toList 0 0 (.fld (.idx c0 pi) po 1 false)⟩]:List AF),r.new.isSome=true→ ¬c.U r.tag:=fun r hr hs=>by
      simp only [Ae,List.not_mem_nil,or_false]at hr;rcases hr with rfl|rfl
      ·cases hs
      ·exact hu
     refine⟨[⟨T,none,b::(N1++N3), .hol e z l g (ep+1) c0 pi po u⟩,⟨u,some vv,N2,if l2.toList.all DT.ay then .row e2 z2 0 (.fld (.idx c0 pi) po 1 false) true else .deep e2 z2 l2.toList 0 0 (.fld (.idx c0 pi) po 1 false)⟩],_,rfl, ?_⟩;generalize A0:([⟨T,none,b::(N1++N3), .hol e z l g (ep+1) c0 pi po u⟩,⟨u,some vv,N2,if l2.toList.all DT.ay then .row e2 z2 0 (.fld (.idx c0 pi) po 1 false) true else .deep e2 z2 l2.toList 0 0 (.fld (.idx c0 pi) po 1 false)⟩]:List AF)=recs at AK;have hn:(recs.map AF.tag).Nodup:=by rw [←A0];simp [Hw]
     have aft:=Cx.db (w':=c.w) h.a6 hn AK;have Di:(⟨T,none,b::(N1++N3), .hol e z l g (ep+1) c0 pi po u⟩:AF)∈recs:=by rw [←A0];simp
     have CS:(⟨u,some vv,N2,if l2.toList.all DT.ay then .row e2 z2 0 (.fld (.idx c0 pi) po 1 false) true else .deep e2 z2 l2.toList 0 0 (.fld (.idx c0 pi) po 1 false)⟩:AF)∈recs:=by rw [←A0];simp
     obtain⟨k1,k2,k3⟩:=aft.new _ CS vv rfl;have kgT:=aft.G _ Di;have keT:=aft.gp _ Di rfl;have kgu:=aft.G _ CS;have keu:=aft.jy _ CS rfl;obtain⟨kT1,kT2⟩:=aft.K T g q1;simp only at k1 k2 k3 kgT keT kgu keu;have Kd: ∀q,q∈b::(N1++N3)∨q∈N2→q∈(c.G T).top:=fun q hq=>by rw [d5];simp only [Ae,Af]at hq ⊢;rcases hq with(hq|hq|hq)|hq<;>simp [hq]
     obtain⟨Ak,Bt⟩:=h.changes (recs:=recs) (gs:= []) (hs:=(c.G T).top) (D7 _) (Mod.refl _ c.w) hn AK (fun q hq=>⟨_,Di,hq⟩) (by
       rw [←A0];simp only [List.flatMap_cons,List.flatMap_nil,List.append_nil];rw [List.nodup_cons]at By;obtain⟨n1,n2⟩:=By;rw [List.append_assoc,List.nodup_append,List.nodup_append]at n2;obtain⟨a1,⟨a2,a3,a4⟩,a5⟩:=n2;rw [List.cons_append,List.nodup_cons,List.nodup_append,List.nodup_append];refine⟨fun hh=>n1 ?_,⟨a1,a3,fun x hx y hy=>a5 x hx y (Af.2 (.inr hy))⟩,a2,fun x hx y hy FW=> ?_⟩
       ·simp only [Af]at hh ⊢;rcases hh with(hh|hh)|hh<;>simp [hh]
       ·rcases Af.1 hx with hx|hx
        ·exact a5 x hx y (Af.2 (.inl hy)) FW
        ·exact a4 y hy x hx FW.symm)
      (fun r hr q hq=>by
       have:q∈(c.G T).top:=by
        rw [←A0]at hr;simp only [Ae,List.not_mem_nil,or_false]at hr;rcases hr with rfl|rfl
        ·exact Kd q (.inl hq)
        ·exact Kd q (.inr hq)
       exact⟨.inl this,h.gw.inb T q (by simp [GI.own,this])⟩)
      (fun r hr=>by
       rw [←A0]at hr;simp only [Ae,List.not_mem_nil,or_false]at hr;rcases hr with rfl|rfl
       ·intros;simp
       ·intros;simp only;split<;>simp)
      (fun hk r hr=>by
       rw [←A0]at hr;simp only [Ae,List.not_mem_nil,or_false]at hr;rcases hr with rfl|rfl
       ·refine⟨kT1,fun g' BN=>q2 g' (aft.old T Fs g' BN),by rw [keT,q3], ?_,by rw [kgT]⟩;rw [kT2,p1,kgT];exact⟨b,cap,C,ys,kk,k,N1,N3,rfl,d4,p4,p5,p6,nB,d1,d2,d6,d7,d8,d9,d10,d11,rfl,k1,by rw [k3];exact p7,s1,s3⟩
       ·simp only;split
        ·rename_i hf;have A6:=s2.mb hf;refine⟨k1,k2, [], ?_,by simp,fun _=>⟨rfl,by rw [kgu]⟩,fun _=>by rw [kgu]⟩;rw [k3,kgu];exact A6
        ·refine⟨k1,k2,keu, ?_,by rw [kgu]⟩;rw [k3,kgu,AH.bw];exact s2)
     refine⟨?_,Bt,k1,k3, ?_,fun t ht=> ?_,q1,q3,by rw [keT,q3],Hw⟩
     ·have:(recs.map fun r=>(r.tag,Cf [] r.ar))= [(T, .hol e z l g (ep+1) c0 pi po u),(u,if l2.toList.all DT.ay then .row e2 z2 0 (.fld (.idx c0 pi) po 1 false) true else .deep e2 z2 l2.toList 0 0 (.fld (.idx c0 pi) po 1 false))]:=by
       rw [←A0];simp [Cf]
      rw [this]at Ak;exact Ak
     ·obtain⟨_,_,⟨a9,h1,_⟩|⟨g9,cap9,C9,ys9,N9,h1,_⟩⟩:=s2.inv
      ·exact⟨a9,0,0,h1, .inr (.inl rfl)⟩
      ·exact⟨_,_,_,h1, .inr (.inr ⟨g9,rfl⟩)⟩
     ·rcases ht with ht|⟨r,hr,rfl⟩
      ·exact .inl ht
      ·rw [←A0]at hr;simp only [Ae,List.not_mem_nil,or_false]at hr;rcases hr with rfl|rfl
       ·exact .inl Fs
       ·exact .inr rfl
   ·cases hs
  ·cases hs
 ·cases hs
theorem Rel.close (h:Rel c n sl hp a) {T u:Nat} {hl r d:Ah} (hT:hp T=some hl) (hu:hp u=some r) (hr:Qw P hl r=some d) (Je: ∃q1 q2 q3 q4 q5 q6 q7 q8,hl= .hol q1 q2 q3 q4 q5 q6 q7 q8 u) (Hw:T≠u):
  ∃recs c1,c1=c.c8 c.w recs∧Rel c1 n sl (AU hp [(T,d),(u, .dead)]) a∧(∀t,c1.U t→c.U t)∧c.E T<c1.E T:=by
 obtain⟨e,z,l,g,ep,c0,i,o',rfl⟩:=Je;have key: ∀(e2 z2:Nat) (l2:AH) (x:E),l[o']?=some (.row e2 z2 l2)→DC c.w [.row e2 z2 l2] [c.H u 0] [x.den c.ρ] (c.G u).top→c.U u→d= .deep e z l g (ep+1) (.set c0 i (.put (.idx c0 i) o' x (Aj P e)))→(Aj P e=false→z=1)→
   ∃recs c1,c1=c.c8 c.w recs∧Rel c1 n sl (AU hp [(T,d),(u, .dead)]) a∧(∀t,c1.U t→c.U t)∧c.E T<c1.E T:=by
  rintro e2 z2 l2 x BD Zn Re rfl GD;obtain⟨q1,q2,q3,⟨b,cap,C,ys,kk,k,N1,N2,p1,p2,p3,p4,p5,p6,p7,p7',p8,p9,p10,p11,p12,p13,p14,p15,p16,p17,p18⟩,q5⟩:=h.ents T _ (by rw [hT];rfl);have Fs:=h.a6 _ _ q1;have GJ:k.toNat<ys.length:=by omega
  have hmul:(k.toNat+1)*z≤ys.length*z:=Nat.mul_le_mul_right _ (by omega);have E6:ys.length*z≤cap*z:=Nat.mul_le_mul_right _ p9;rw [Nat.add_mul]at hmul;have C4:C.toList.length=cap*z:=by simpa using p11
  have Au:k.toNat*z+o'<C.size:=by omega
  have FX:=KG GJ;generalize LF:(AV.sl ys).nth k.toNat=yk at FX;have EM:=p12 yk (List.mem_of_getElem? FX);obtain⟨zs,CV⟩: ∃zs,x.den c.ρ= .sl zs:=by
   obtain⟨_,_,⟨_,_,hx,_⟩|⟨_,_,_,_,_,_,hx,_⟩⟩:=Zn.inv
   ·exact⟨_,hx⟩
   ·exact⟨_,hx⟩
  have GN:(x.den c.ρ).cells= [x.den c.ρ]:=by rw [CV];rfl
  have hz:(yk.cy o' (x.den c.ρ) (Aj P e)).cells=setVs yk.cells o' (x.den c.ρ).cells:=by
   refine Xn ?_ (fun hg=> ?_)
   ·cases hg:Aj P e with
    |true=>exact .inr rfl
    |false=>left;rw [CV];intro cs hh;cases hh
   ·have:=GD hg;exact⟨by omega,by omega,GN⟩
  have DG:Az (ys.set k.toNat (yk.cy o' (x.den c.ρ) (Aj P e)))=setVs (Az ys) (k.toNat*z+o') (x.den c.ρ).cells:=
   Tt ys _ _ yk o' _ p12 FX (by rw [GN];simp;omega) hz
  have FJ:((Cw ys.length l).drop (k.toNat*z+o')).take 1= [.row e2 z2 l2]:=by
   rw [←p7',PZ l _ _ _ _ GJ (by omega)];have HH:o'<l.length:=by omega
   rw [List.drop_eq_getElem_cons HH,List.take_succ_cons,List.take_zero];rw [List.getElem?_eq_getElem HH]at BD;simpa using BD
  have Pm:setVs (C.toList.take (ys.length*z)) (k.toNat*z+o') [c.H u 0]=C.toList.take (ys.length*z):=by
   apply List.ext_getElem?;intro j;have mL:(C.toList.take (ys.length*z)).length=ys.length*z:=by rw [List.length_take,C4];exact Nat.min_eq_left E6
   rw [Nv _ _ _ (by rw [mL];show k.toNat*z+o'+1≤_;omega)];split
   ·rename_i hj;simp only [AA,List.length_nil]at hj;have:j=k.toNat*z+o':=by omega
    subst this;rw [Nat.sub_self,List.getElem?_take,if_pos (by omega)];have:=p16;simpa using this.symm
   ·rfl
  have AM:DC c.w [.row e z (AH.of l)] [c.H T g] [(E.set c0 i (.put (.idx c0 i) o' x (Aj P e))).den c.ρ] (b::(N1++((c.G u).top++N2))):=by
   have BG:(E.set c0 i (.put (.idx c0 i) o' x (Aj P e))).den c.ρ= .sl (ys.set k.toNat (yk.cy o' (x.den c.ρ) (Aj P e))):=by simp only [E.den,p2,p3,AV.idx,LF,AV.cz]
   rw [BG,p1];have Dg:(ys.set k.toNat (yk.cy o' (x.den c.ρ) (Aj P e))).length=ys.length:=List.length_set;have:=DC.row (w:=c.w) (e:=e) (z:=z) (l:=AH.of l) (g:=b) (cap:=cap) (C:=C) (ys:=ys.set k.toNat (yk.cy o' (x.den c.ρ) (Aj P e))) (N1:=N1++((c.G u).top++N2)) (ts:= []) (vs:= []) (xs:= []) (N:= []) p7 (by rw [AH.aj];exact p7') p8 (by rw [Dg];exact p9) p10 p11 (fun w hw=>by
     rcases List.mem_or_eq_of_mem_set hw with hw|rfl
     ·exact p12 w hw
     ·rw [hz,Ns _ _ _ (by rw [GN,EM];simp;omega)];exact EM) (by rw [Dg];exact p13) (by
     rw [Dg,AH.aj,DG,←Pm];refine DC.setVs p17 ?_ ?_
     ·exact p18
     ·rw [Bk,FJ,GN];exact Zn) .nil
   rw [Dg]at this;simpa using this
  have hTK:=q1;have AK: ∀r∈([⟨T,none,b::(N1++((c.G u).top++N2)), .deep e z l g (ep+1) (.set c0 i (.put (.idx c0 i) o' x (Aj P e)))⟩,⟨u,none, [], .dead⟩]:List AF),r.new.isSome=true→ ¬c.U r.tag:=fun r hr hs=>by simp only [Ae,List.not_mem_nil,or_false]at hr;rcases hr with rfl|rfl<;>cases hs
  refine⟨[⟨T,none,b::(N1++((c.G u).top++N2)), .deep e z l g (ep+1) (.set c0 i (.put (.idx c0 i) o' x (Aj P e)))⟩,⟨u,none, [], .dead⟩],_,rfl, ?_⟩;generalize A0:([⟨T,none,b::(N1++((c.G u).top++N2)), .deep e z l g (ep+1) (.set c0 i (.put (.idx c0 i) o' x (Aj P e)))⟩,⟨u,none, [], .dead⟩]:List AF)=recs at AK;have hn:(recs.map AF.tag).Nodup:=by rw [←A0];simp [Hw]
  have aft:=Cx.db (w':=c.w) h.a6 hn AK;have Di:(⟨T,none,b::(N1++((c.G u).top++N2)), .deep e z l g (ep+1) (.set c0 i (.put (.idx c0 i) o' x (Aj P e)))⟩:AF)∈recs:=by rw [←A0];simp
  have CS:(⟨u,none, [], .dead⟩:AF)∈recs:=by rw [←A0];simp
  have kgT:=aft.G _ Di;have keT:=aft.gp _ Di rfl;have kgu:=aft.G _ CS;obtain⟨kT1,kT2⟩:=aft.K T g q1;simp only at kgT keT kgu;have B0: ∀q,q∈b::(N1++((c.G u).top++N2))→q∈(c.G T).top∨q∈(c.G u).top:=fun q hq=>by rw [p14];simp only [Ae,Af]at hq ⊢;rcases hq with hq|hq|hq|hq<;>simp [hq]
  have Lo:=h.gw.nodup T;simp only [GI.own,q5,List.append_nil,p14]at Lo;have Vv:(c.G u).top.Nodup:=by have:=h.gw.nodup u;simp only [GI.own]at this;exact(List.nodup_append.1 this).1
  have E1: ∀q∈(c.G u).top,q∉b::(N1++N2):=fun q hq hh=>h.gw.bp u T (Ne.symm Hw) q (by simp [GI.own,hq]) (by rw [←p14]at hh;simp [GI.own,hh]);obtain⟨Ak,Bt⟩:=h.changes (recs:=recs) (gs:= []) (hs:=(c.G T).top++(c.G u).top) (D7 _) (Mod.refl _ c.w) hn AK (fun q hq=>by
    rcases Af.1 hq with hq|hq
    ·exact⟨_,Di,hq⟩
    ·exact⟨_,CS,hq⟩) (by
    rw [←A0];simp only [List.flatMap_cons,List.flatMap_nil,List.append_nil];rw [List.nodup_cons,List.nodup_append]at Lo;obtain⟨n1,a1,a2,a3⟩:=Lo;rw [List.nodup_cons,List.nodup_append,List.nodup_append];refine⟨fun hh=> ?_,a1,⟨Vv,a2,fun x hx y hy FW=>E1 x hx (by rw [FW];simp [hy])⟩,fun x hx y hy FW=> ?_⟩
    ·simp only [Af]at hh n1;rcases hh with hh|hh|hh
     ·exact n1 (.inl hh)
     ·exact E1 b hh (by simp)
     ·exact n1 (.inr hh)
    ·rcases Af.1 hy with hy|hy
     ·exact E1 y hy (by rw [←FW];simp [hx])
     ·exact a3 x hx y hy FW)
   (fun r hr q hq=>by
    have:q∈(c.G T).top∨q∈(c.G u).top:=by
     rw [←A0]at hr;simp only [Ae,List.not_mem_nil,or_false]at hr;rcases hr with rfl|rfl
     ·exact B0 q hq
     ·simp at hq
    refine⟨.inl (Af.2 this), ?_⟩;rcases this with hh|hh
    ·exact h.gw.inb T q (by simp [GI.own,hh])
    ·exact h.gw.inb u q (by simp [GI.own,hh]))
   (fun r hr=>by rw [←A0]at hr;simp only [Ae,List.not_mem_nil,or_false]at hr;rcases hr with rfl|rfl<;>(intros;simp))
   (fun hk r hr=>by
    rw [←A0]at hr;simp only [Ae,List.not_mem_nil,or_false]at hr;rcases hr with rfl|rfl
    ·exact⟨kT1,fun g' BN=>q2 g' (aft.old T Fs g' BN),by rw [keT,q3],by rw [kT2,kgT];exact AM,by rw [kgT]⟩
    ·exact⟨by rw [kgu],by rw [kgu]⟩)
  refine⟨?_,fun t ht=> ?_,by rw [keT];omega⟩
  ·have:(recs.map fun r=>(r.tag,Cf [] r.ar))= [(T, .deep e z l g (ep+1) (.set c0 i (.put (.idx c0 i) o' x (Aj P e)))),(u, .dead)]:=by
    rw [←A0];simp [Cf]
   rw [this]at Ak;exact Ak
  ·rcases ht with ht|⟨r,hr,rfl⟩
   ·exact ht
   ·rw [←A0]at hr;simp only [Ae,List.not_mem_nil,or_false]at hr;rcases hr with rfl|rfl
    ·exact Fs
    ·exact Re
 have Re:c.U u:=h.br u r hu;unfold Qw at hr;simp only at hr;split at hr
 ·rename_i e2 z2 l2 e3 z3 x BD;split at hr
  ·rename_i hh;obtain⟨hf,rfl,rfl,hlen,Av⟩:=hh;simp only [Ad]at hr;obtain⟨q1,q2,N,q4,q5,q6,q7⟩:=h.ents u _ (by rw [hu];rfl);obtain⟨hN,_⟩:=q6 rfl;have hN:N= []:=hN;subst hN;exact key _ _ _ _ BD (DC.kp q4 hf hlen) Re hr.symm (by rcases Av with hh|hh;(rw [hh];simp);exact fun _=>hh)
  ·cases hr
 ·rename_i e2 z2 l2 e3 z3 l3 x BD;split at hr
  ·rename_i hh;obtain⟨rfl,rfl,hb,Av⟩:=hh;simp only [Ad]at hr;have hb:=AH.of_eq hb;subst hb;obtain⟨q1,q2,q3,q4,q5⟩:=h.ents u _ (by rw [hu];rfl);rw [AH.bw]at q4;exact key _ _ _ _ BD q4 Re hr.symm (by rcases Av with hh|hh;(rw [hh];simp);exact fun _=>hh)
  ·cases hr
 ·cases hr
end
section
variable {P:Program} {c:Cx} {n nx:Nat} {sl sl0:Nat→SV} {hp hp0:Nat→Option Ah} {a:Act} {o:Oper} {gs:Gd} {e:AP} {sg:Bq} {nv:Nat}
theorem Nu (hp:Nat→Option Ah): ∀(l:List (Nat × Ah)) (t:Nat),AU hp l t=match Jv l t with|some f=>some f|none=>hp t
 | [],t=>rfl
 |(u,e)::l,t=>by
  have:=Nu (fun v=>if v=u then some e else hp v) l t;simp only [AU,List.foldl_cons,Jv]at this ⊢;rw [this];cases Jv l t with
  |some f=>rfl
  |none=>
   simp only;by_cases h:u=t
   ·rw [if_pos h.symm,if_pos h]
   ·rw [if_neg (Ne.symm h),if_neg h]
theorem tB {hp:Nat→Option Ah} {T v m u:Nat} {p:E × Nat × Nat} {h r:Ah} (hs:Qn hp T v m u p=some (h,r)): ∃e z l ep c0 i o',h= .hol e z l v (m+1) c0 i o' u∧Cz hp [] T=some (.deep e z l v ep c0)∧ep=m:=by
 unfold Qn at hs;split at hs
 ·rename_i hl;split at hs
  ·rename_i hh;obtain⟨rfl,rfl,_⟩:=hh;split at hs
   ·simp only [Ad,Prod.mk.injEq]at hs;obtain⟨rfl,_⟩:=hs;exact⟨_,_,_,_,_,_,_,rfl,hl,rfl⟩
   ·cases hs
  ·cases hs
 ·cases hs
theorem tF {h r d:Ah} {e z:Nat} {l:List DT} {g ep:Nat} {c0 i:E} {o' u:Nat} (hh:h= .hol e z l g ep c0 i o' u) (hc:Qw P h r=some d): ∃x,d= .deep e z l g (ep+1) x:=by
 subst hh;unfold Qw at hc;simp only at hc;split at hc
 ·split at hc
  ·simp only [Ad]at hc;exact⟨_,hc.symm⟩
  ·cases hc
 ·split at hc
  ·simp only [Ad]at hc;exact⟨_,hc.symm⟩
  ·cases hc
 ·cases hc
theorem zwL (HR: ∀f s,sg f=some s→f<1000000) (h:A3 P c n nx sl hp a sl0 hp0 o []) (hu: ¬c.U (nx+999)) (he:QD P sg sl0 hp0 nv nx o=some e)
  (hc: ∀q∈e.bu,q.den c.ρ) (AW: ∀cl,e.call=some cl→ ∃r,c.ρ[nv]?=some r∧GZ (Ca P sg) cl.fn ((EL.of cl.args).den c.ρ) c.ρ r):At P o c n nx sl hp [] a e:=by
 unfold QD at he;simp only at he;split at he
 ·cases he
 rename_i t T v m p s JY;split at he
 ·cases he
 rename_i hl inn Pn;split at he
 ·cases he
 rename_i e0 I0;split at he
 ·cases he
 rename_i Cb;have Cb:e0.bc=none:=by cases hh:e0.bc with|none=>rfl|some x=>rw [hh]at Cb;simp at Cb
 obtain⟨GK,AZ⟩:=PX JY;have GK:Operand.tmp t∈o.op.operands:=by simpa using GK
 obtain⟨fe,fz,fl,fep,fc0,fi,fo,rfl,Gj,rfl⟩:=tB Pn;have hE:c.E T=fep:=(h.eh T _ (Cm Gj (D7 _))).2.2.1;have DP:=h.rel.cc t;rw [←h.sl t GK]at DP;obtain⟨vv,HM,AQ⟩: ∃vv,G6 c T v (some p) vv∧ ∀c1:Cx,c1.ρ=c.ρ→c1.K (nx+999) 0→c1.H (nx+999) 0=vv→(∃q n r,vv= .slice q n r∧(q=none∨n=0∨ ∃g,q=some ⟨g,0,none⟩))→SR c1 [s] [a.tmps.getD t undef]:=by
  rcases AZ with⟨y,B6,rfl⟩|⟨y,k,z,q,B6,rfl⟩
  ·rw [B6]at DP;generalize a.tmps.getD t undef=av at DP ⊢;cases DP with
   |via h1 h2 h3 _=>obtain⟨_,hp⟩:=h3 hE;refine⟨_,hp,fun c1 e1 k1 k2 k3=> ?_⟩;obtain⟨q,n,r,rfl,_⟩:=k3;exact .own k1 k2 .nil
  ·rw [B6]at DP;generalize a.tmps.getD t undef=av at DP ⊢;cases DP with
   |vptr h1 h2 h3 _=>
    obtain⟨b,off,len,cap,kk,kv,g1,g2,g3,g4,g5,g6,rfl⟩:=h3 hE;refine⟨_,g2,fun c1 e1 k1 k2 k3=> ?_⟩;obtain⟨q9,n9,r9,hv,hq⟩:=k3;cases hv;have Fe:off=0:=by
     rcases hq with hq|hq|⟨g,hq⟩
     ·cases hq
     ·omega
     ·cases hq;rfl
    subst Fe;have:=SR.bt (c:=c1) (i:=k) (sz:=z) (o:=q) k1 k2 (by rw [e1];exact g3) g4 g5 .nil;simpa using this
 obtain⟨recs,c1,rfl,Cy,Li,Uq,IT,nN,UD,hKT,_,Y7,Hw⟩:=h.rel.split Pn h.hp hu (fun _=>HM);have Ja:=AQ _ Li.ρ Uq IT nN;have En:=Cy.iz (sl':=fun i=>if i=t then s else sl i) (fun i=>by
  by_cases hi:i=t
  ·subst hi;right;simpa using Ja
  ·left;simp [hi])
 have CU: ∀x,AU hp [(T, .hol fe fz fl v (fep+1) fc0 fi fo (nx+999)),(nx+999,inn)] x=if x=nx+999 then some inn else if x=T then some (.hol fe fz fl v (fep+1) fc0 fi fo (nx+999))else hp x:=fun x=>rfl;have pre1:A3 P (c.c8 c.w recs) n nx (fun i=>if i=t then s else sl i) (AU hp [(T, .hol fe fz fl v (fep+1) fc0 fi fo (nx+999)),(nx+999,inn)]) a (fun i=>if i=t then s else sl0 i) (fun w=>if w=T then some (.hol fe fz fl v (fep+1) fc0 fi fo (nx+999))else if w=nx+999 then some inn else hp0 w) o []:=by
  refine⟨En,D7 _,fun i hi=> ?_,fun x f hf=> ?_,fun x h1 h2 hx=> ?_⟩
  ·by_cases hit:i=t
   ·simp [hit]
   ·simp only [if_neg hit];exact h.sl i hi
  ·rw [CU];by_cases h1:x=T
   ·rw [if_pos h1]at hf;rw [if_neg (by rw [h1];exact Hw),if_pos h1];exact hf
   ·rw [if_neg h1]at hf;by_cases h2:x=nx+999
    ·rw [if_pos h2]at hf ⊢;exact hf
    ·rw [if_neg h2]at hf;rw [if_neg h2,if_neg h1];exact h.hp x f hf
  ·rcases UD x hx with hx|hx
   ·exact h.new x h1 h2 hx
   ·omega
 have mA: ∀(c':Cx) (a':Act) (w9:SV),Rel c' n (B5 n (fun i=>if i=t then s else sl i) o.dst w9) (fun _=>none) a'→True:=fun _ _ _ _=>trivial;have stale: ∀(c':Cx) (v':Value),c'.K T v→fep<c'.E T→SR c' [sl t] [v']:=by
  intro c' v' hk Au;rw [←h.sl t GK];rcases AZ with⟨y,B6,_⟩|⟨y,k,z,q,B6,_⟩
  ·rw [B6];exact .via hk (by omega) (fun hh=>by omega) .nil
  ·rw [B6];exact .vptr hk (by omega) (fun hh=>by omega) .nil
 have back: ∀{c':Cx} {hp':Nat→Option Ah} {a':Act} {w9:SV},Rel c' n (B5 n (fun i=>if i=t then s else sl i) o.dst w9) hp' a'→c'.K T v→fep<c'.E T→Rel c' n (B5 n sl o.dst w9) hp' a':=by
  intro c' hp' a' w9 hr hk Au;refine hr.iz fun i=> ?_;unfold B5;by_cases h1:o.dst=some i∧i<n
  ·left;rw [if_pos h1,if_pos h1]
  ·rw [if_neg h1,if_neg h1];by_cases h2:i=t
   ·subst h2;right;exact stale _ _ hk Au
   ·left;show sl i=if i=t then s else sl i;rw [if_neg h2]
 split at he
 ·
  split at he
  ·rename_i DJ;simp only [Ad]at he;subst he;have HB:=YB HR pre1 I0 hc AW (fun x hx=>by rw [Cb]at hx;cases hx);intro next Q hk
   refine HB next Q fun a' c' AT hr=> ?_
   have UB:AU (AU hp [(T, .hol fe fz fl v (fep+1) fc0 fi fo (nx+999)),(nx+999,inn)]) e0.ar T=some (.hol fe fz fl v (fep+1) fc0 fi fo (nx+999)):=by rw [Nu,DJ,CU,if_neg Hw,if_pos rfl]
   obtain⟨g1,_,g3,_⟩:=hr.ents T _ (by rw [UB];rfl);refine hk a' c' ⟨AT.ρ,AT.A,AT.w0,AT.Mu,fun x hx=> ?_⟩ (back hr g1 (by omega));rcases AT.U x hx with hx|hx
   ·rcases UD x hx with hx|hx
    ·exact .inl hx
    ·exact .inr ⟨by omega,by simp only [Bh];omega⟩
   ·exact .inr hx
  ·cases he
 ·split at he
  ·rename_i r' mQ mN;obtain⟨d,hd,rfl⟩:=Am.1 he;have HB:=YB HR pre1 I0 hc AW (fun x hx=>by rw [Cb]at hx;cases hx);intro next Q hk
   refine HB next Q fun a' c' AT hr=> ?_
   have UB:AU (AU hp [(T, .hol fe fz fl v (fep+1) fc0 fi fo (nx+999)),(nx+999,inn)]) e0.ar T=some (.hol fe fz fl v (fep+1) fc0 fi fo (nx+999)):=by rw [Nu,mN,CU,if_neg Hw,if_pos rfl]
   have nL:AU (AU hp [(T, .hol fe fz fl v (fep+1) fc0 fi fo (nx+999)),(nx+999,inn)]) e0.ar (nx+999)=some r':=by rw [Nu,mQ]
   obtain⟨recs2,c2,rfl,Dt,lM,hE2⟩:=hr.close UB nL hd ⟨_,_,_,_,_,_,_,_,rfl⟩ Hw;obtain⟨x9,rfl⟩:=tF rfl hd;have UC:AU (AU (AU hp [(T, .hol fe fz fl v (fep+1) fc0 fi fo (nx+999)),(nx+999,inn)]) e0.ar) [(T, .deep fe fz fl v (fep+1+1) x9),(nx+999, .dead)] T=some (.deep fe fz fl v (fep+1+1) x9):=by show(if T=nx+999 then _ else if T=T then _ else _)=_;rw [if_neg Hw,if_pos rfl]
   obtain⟨g1,_,g3,_⟩:=Dt.ents T _ (by rw [UC];rfl);have CR:=back Dt g1 (by omega);have A5:AU hp ((T, .hol fe fz fl v (fep+1) fc0 fi fo (nx+999))::(nx+999,inn)::e0.ar++ [(T, .deep fe fz fl v (fep+1+1) x9),(nx+999, .dead)])=AU (AU (AU hp [(T, .hol fe fz fl v (fep+1) fc0 fi fo (nx+999)),(nx+999,inn)]) e0.ar) [(T, .deep fe fz fl v (fep+1+1) x9),(nx+999, .dead)]:=by rw [←L6,←L6];rfl
   refine hk a' (c'.c8 c'.w recs2) ⟨AT.ρ,AT.A,AT.w0,AT.Mu,fun x hx=> ?_⟩ ?_
   ·rcases AT.U x (lM x hx)with hx|hx
    ·rcases UD x hx with hx|hx
     ·exact .inl hx
     ·exact .inr ⟨by omega,by simp only [Bh];omega⟩
    ·exact .inr hx
   ·have:=CR;rw [←A5]at this;exact this
  ·cases he
theorem xU (h:A3 P c n nx sl hp a sl0 hp0 o gs) {e:AP} (dp:Bool) (hd:At P o c n nx sl hp gs a e):At P o c n nx sl hp gs a (Ib dp hp0 gs e):=by
 unfold Ib;split
 ·exact hd
 ·split
  ·rename_i l hl;intro next Q hk
   refine hd next Q fun a' c' hs hr=> ?_
   have e1:AU hp0 e.ar=fun t=>match Jv e.ar t with|some f=>some f|none=>hp0 t:=funext (Nu hp0 e.ar)
   have hl:CL (AU hp0 e.ar) [] (fK e.ar)=some l:=by rw [e1];exact hl
   have Hd:=hr.freeze (hp0:=AU hp0 e.ar) (fun t e' h'=>by
    rw [Nu]at h' ⊢;split at h'
    ·exact h'
    ·exact h.hp t e' h') (D7 _) hl
   refine hk a' (c'.ax (l.map (·.1))) ⟨hs.ρ,hs.A,hs.w0,hs.Mu,hs.U⟩ ?_;show Rel _ _ _ (AU hp (e.ar++l)) a';rw [L6];exact Hd
  ·exact hd
theorem vN (dp:Bool) (e:AP):(Ib dp hp0 gs e).call=e.call:=by
 unfold Ib;split
 ·rfl
 ·split<;>rfl
theorem xL (dp:Bool) (e:AP):(Ib dp hp0 gs e).bu=e.bu:=by
 unfold Ib;split
 ·rfl
 ·split<;>rfl
theorem Xu (dp:Bool) (e:AP):(Ib dp hp0 gs e).bc=e.bc:=by
 unfold Ib;split
 ·rfl
 ·split<;>rfl
theorem wM {dp:Bool} {e:AP} {x:E} (h:e.bc=some x):Ib dp hp0 gs e=e:=by unfold Ib;rw [if_pos (by simp [h])]
theorem yD (h:A3 P c n nx sl hp a sl0 hp0 o gs) {e:AP} (fz:Bool) (hd:At P o c n nx sl hp gs a e):At P o c n nx sl hp gs a (Ij fz hp0 gs e):=by
 unfold Ij;split
 ·exact hd
 ·rename_i UH;simp only [Bool.or_eq_true,not_or]at UH;have mB:e.ar= []:=by simpa using UH.2
  split
  ·rename_i t g m p x hv;split
   ·rename_i y l hy hl;split
    ·rename_i HI;intro next Q hk
     refine hd next Q fun a' c' hs hr=> ?_
     rw [mB]at hr;have U1:gs= []:=by simpa using UH.1.1.1.2
     subst U1;have hr:Rel c' n (B5 n sl o.dst e.val) hp a':=hr;have eh:EH c' hp0:=fun t e CT=>hr.ents t e (Jw h.hp CT);have Hd:=hr.freeze h.hp (D7 _) hl;refine hk a' (c'.ax (l.map (·.1))) ⟨hs.ρ,hs.A,hs.w0,hs.Mu,hs.U⟩ ?_;refine{Hd with cc:=fun i=> ?_};have h1:=hr.cc i;have h2:=Hd.cc i;unfold B5 at h1 h2 ⊢;split
     ·rename_i hi;rw [if_pos hi]at h1;obtain⟨f,q1,q2⟩:=Gy eh (D7 _) AJ hy h1 AJ (Nat.le_refl _);exact .e q1 (fun b hb=>P5 hr eh (D7 _) hl HI (q2 b hb)) .nil
     ·rename_i hi;rw [if_neg hi]at h2;exact h2
    ·exact hd
   ·exact hd
  ·exact hd
theorem xX (fz:Bool) (e:AP):(Ij fz hp0 gs e).call=e.call:=by
 unfold Ij;split
 ·rfl
 ·split
  ·split
   ·split<;>rfl
   ·rfl
  ·rfl
theorem yP (fz:Bool) (e:AP):(Ij fz hp0 gs e).bu=e.bu:=by
 unfold Ij;split
 ·rfl
 ·split
  ·split
   ·split<;>rfl
   ·rfl
  ·rfl
theorem dS (fz:Bool) (e:AP):(Ij fz hp0 gs e).bc=e.bc:=by
 unfold Ij;split
 ·rfl
 ·split
  ·split
   ·split<;>rfl
   ·rfl
  ·rfl
theorem xE {fz:Bool} {e:AP} {x:E} (h:e.bc=some x):Ij fz hp0 gs e=e:=by unfold Ij;rw [if_pos (by simp [h])]
theorem zxQ (HR: ∀f s,sg f=some s→f<1000000):Mv P sg (Ca P sg):=by
 intro c n nx sl hp a sl0 hp0 o gs e nv h hu he hc AW Cb;unfold JD at he;split at he
 ·rename_i e' D0;simp only [Ad]at he;subst he;rw [yP,xL]at hc;rw [xX,vN]at AW;rw [dS,Xu]at Cb;exact yD h _ (xU h _ (YB HR h D0 hc AW Cb))
 ·split at he
  ·exact zwL HR h hu he hc AW
  ·cases he
theorem tQ {x:E} (he:QD P sg sl0 hp0 nv nx o=some e) (hq:e.bc=some x):False:=by
 unfold QD at he;simp only at he;split at he
 ·cases he
 split at he
 ·cases he
 split at he
 ·cases he
 rename_i e0 I0;split at he
 ·cases he
 rename_i Cb;have Cb:e0.bc=none:=by cases hh:e0.bc with|none=>rfl|some x=>rw [hh]at Cb;simp at Cb
 split at he
 ·split at he
  ·simp only [Ad]at he;subst he;rw [Cb]at hq;cases hq
  ·cases he
 ·split at he
  ·obtain⟨d,hd,rfl⟩:=Am.1 he;rw [Cb]at hq;cases hq
  ·cases he
theorem uB {x:E} (he:JD P sg sl0 hp0 nv nx gs o=some e) (hq:e.bc=some x):Bf P sg sl0 hp0 nv nx gs o=some e:=by
 unfold JD at he;split at he
 ·rename_i e' D0;simp only [Ad]at he;subst he;rw [dS,Xu]at hq;rw [xE (by rw [Xu];exact hq),wM hq];exact D0
 ·split at he
  ·exact(tQ he hq).elim
  ·cases he
theorem zwX:QS P sg:=by
 intro c n nx sl hp a sl0 hp0 o gs e nv x h he hq hb;unfold ID at hb;cases AE:o.op with
 |binOp op t y z ty=>
  rw [AE]at hb;simp only at hb;have he:=uB he hq;simp only [Bf,AE,An]at he;obtain⟨s1,Bj,s2,AQ,he⟩:=he;have key: ∀xq,A2 hp0 gs AJ s1=some xq→xq.den c.ρ= .sl []:=by
   intro xq HX;obtain⟨f,q1,_⟩:=h.jz Bj (by simp [AE,Op.operands]) HX;generalize a.eval y=v at q1 hb;split at hb
   ·generalize xq.den c.ρ=d at q1;cases q1 with
    |dn _=>rfl
   ·cases hb
  unfold NT at he;split at he
  ·split at he
   ·simp at he;subst he;cases hq
   ·simp at he;subst he;cases hq
   ·obtain⟨xq,HX,rfl⟩:=Am.1 he;cases hq;exact key _ HX
   ·obtain⟨xq,HX,rfl⟩:=Am.1 he;cases hq;exact key _ HX
   ·cases he
  ·split at he
   ·simp at he;subst he;cases hq
   ·cases he
  ·split at he
   ·simp at he;subst he;cases hq
   ·cases he
  ·split at he
   ·simp at he;subst he;cases hq
   ·cases he
  ·split at he
   ·cases he
   ·split at he
    ·split at he
     ·simp at he;subst he;cases hq
     ·simp at he;subst he;cases hq
     ·cases he
    ·cases he
  ·cases he
 |_=>rw [AE]at hb;simp at hb
end
end Go.Proofs.YtollgpkegmbpmaaGreatDoor
end

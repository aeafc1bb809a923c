/- Parts of a proof, joined: WP, WQ, WR, WRa, WRb, WRc, WRd, WRe, WS, WSa, WSb. -/
import Derived.Test.YtollgpkegmbpmaaGreatDoorD4
set_option linter.unusedVariables false
set_option linter.unusedSimpArgs false
section
namespace Go.Proofs.YtollgpkegmbpmaaGreatDoor
open Go.RowKit
theorem Aw.{u} {α:Type u} {a:α}:[a].length=1:=rfl
section
variable {P:Program} {c:Cx} {hp:Nat→Option Ai} {gs:Gd}
theorem o7 (hb:On c) (eh:EH c hp) (k:A5 c.ρ gs) (hU: ∀t g,c.K t g→c.U t): ∀(ss:List SV) {ts:List TypeId} {ms:List PM} {lo:List Bool} {es:List E} {bs:List PA} {us uz:List Nat} {vs:List Value},S6 P hp gs ts ms lo ss=some (es,bs,us,uz)→SR c ss vs→ts.length≤ss.length→
  ∃rf lf hs,Db P c.w ts ms lo vs (es.map (E.den c.ρ)) rf lf hs∧(∀b∈rf,c.ed us b)∧(∀b∈lf,c.ed uz b∨b<c.w0.heap.size∧ ¬c.Mu b)∧hs=(C7 bs).flatMap (fun t=>(c.G t).top)∧H0 P c ts ms vs bs∧(∀u∈C7 bs,c.U u)∧(bs≠ []→gs= [])
 | [],ts,ms,lo,es,bs,us,uz,vs,h,hs,hl=>by simp [S6]at h;obtain⟨rfl,rfl,rfl,rfl⟩:=h;cases hs;have:ts= []:=List.eq_nil_of_length_eq_zero (by simpa using hl);subst this;exact⟨[], [], [], .nil,by simp,by simp,by simp [C7], .nil,by simp [C7],by simp⟩
 |s::ss,ts,ms,lo,es,bs,us,uz, [],h,hs,hl=>by have:=hs.len;simp at this
 |s::ss,ts,ms,lo,es,bs,us,uz,v::vs,h,hs,hl=>by
  obtain⟨r1,r2⟩:=hs.bz;unfold S6 at h;split at h
  ·cases h
  rename_i ys bs' us' uz' CH;obtain⟨rf,lf,A4,q1,q2,qz,q3,q4,q5,q6⟩:=o7 hb eh k hU ss CH r2 (by simp at hl ⊢;omega);have see1: ∀{a b:List Nat} {x:Nat},c.ed a x→c.ed (a++b) x:=fun h=>h.mono fun t ht=>by simp [ht]
  have see2: ∀{a b:List Nat} {x:Nat},c.ed b x→c.ed (a++b) x:=fun h=>h.mono fun t ht=>by simp [ht]
  split at h
  ·rename_i hm;split at h
   ·rename_i BP;simp only [Ad,Bool.not_eq_true']at BP;obtain⟨t,ts,rfl⟩: ∃t ts',ts=t::ts':=by
     cases ts with
     |nil=>simp at BP
     |cons t ts=>exact⟨t,ts,rfl⟩
    split at h
    ·rename_i i;simp only [Af,Prod.mk.injEq]at h;obtain⟨rfl,rfl,rfl,rfl⟩:=h;cases r1 with
     |lent g1 _=>obtain⟨f,p1,p2⟩:=hb.lo _ _ g1;have hw:Rd c.w [v] [(E.var i).den c.ρ] f:=p1.frame fun b BL=>hb.block b (p1.inb b BL) (p2 b BL);exact⟨rf,f++lf,A4, .lent BP.1 hm hw q1,q2,fun b BL=>(Ah.1 BL).elim (fun BL=> .inr ⟨p1.inb b BL,p2 b BL⟩) (qz b),q3, .ro hm q4,q5,q6⟩
    ·obtain⟨x,hx,hh⟩:=Aq.1 h;simp only [Prod.mk.injEq]at hh;obtain⟨rfl,rfl,rfl,rfl⟩:=hh;obtain⟨f,p1,p2⟩:=G7 eh k AT hx r1 AT (Nat.le_refl _);exact⟨rf,f++lf,A4, .lent BP.1 hm p1 q1,q2,fun b BL=>(Ah.1 BL).elim (fun BL=> .inl (see1 (p2 b BL))) (fun BL=>(qz b BL).imp see2 id),q3, .ro hm q4,q5,q6⟩
   obtain⟨x,hx,hh⟩:=Aq.1 h;simp only [Prod.mk.injEq]at hh;obtain⟨rfl,rfl,rfl,rfl⟩:=hh;obtain⟨f,p1,p2⟩:=G7 eh k AT hx r1 AT (Nat.le_refl _);have hb: ∀b∈f++rf,c.ed (BB hp gs (AT+1) [s]++us') b:=fun b hb=>by
    rcases Ah.1 hb with hb|hb
    ·exact see1 (p2 b hb)
    ·exact see2 (q2 b hb)
   cases ts with
   |nil=>exact⟨f++rf,lf,A4, .free p1 q1,hb,qz,q3, .ro hm q4,q5,q6⟩
   |cons t ts=>exact⟨f++rf,lf, []++A4, .cons (by rw [hm];exact⟨p1,rfl⟩) q1,hb,qz,q3, .ro hm q4,q5,q6⟩
  ·rename_i own own' hm;split at h
   ·rename_i ty T Bc;split at h
    ·rename_i ty' g cs N8;split at h
     ·cases h
     rename_i Bt;have Bt:ty'=ty:=by simpa using Bt
     subst Bt;split at h
     ·rename_i xs rs vs' Ck Ej;simp only [Af,Prod.mk.injEq]at h;obtain⟨rfl,rfl,rfl,rfl⟩:=h;obtain⟨t,ts,rfl,DM⟩: ∃t ts',ts=t::ts'∧JI P t=some ty':=by
       cases ts with
       |nil=>simp at Bc
       |cons t ts=>exact⟨t,ts,rfl,by simpa using Bc⟩
      obtain⟨b,C,g1,g2,g3,g4,g5,g6,g7⟩:=eh T _ (CD N8 k);obtain⟨f,h8,p1,p2,p3,p4,p5⟩:=aF (P:=P) eh k hU (AW P ty') Ej g7 Ck (Nat.le_refl _);have hv:v= .pointer (some ⟨b,0,none⟩):=by
       cases r1 with
       |cd k1 k2 _=>rw [g2]at k2;cases k2;rfl
      refine⟨f++rf,lf,(b::h8)++A4, .cons ?_ q1,fun x hx=> ?_,qz,by simp [C7,p3,q3,g3], .bx hm DM hv g1 (by rw [g2,hv]) p5 q4,fun u hu=> ?_,fun _=>rfl⟩
      ·rw [hm];exact⟨ty',b,C,xs.den c.ρ,h8,DM,hv,g5,g6,rfl,p1,rfl⟩
      ·rcases Ah.1 hx with hx|hx
       ·exact see1 (p2 x hx)
       ·exact see2 (q2 x hx)
      ·simp only [C7,List.cons_append,Ae,Ah]at hu;rcases hu with rfl|hu|hu
       ·exact hU _ _ g1
       ·exact p5 u hu
       ·exact q5 u hu
     ·cases h
    ·cases h
   ·cases h
  ·rename_i own hm;split at h
   ·rename_i t x Bc hx;split at h
    ·cases h
    rename_i AA;have AA:(G5 s).2=Ao P t:=by simpa using AA
    split at h
    ·rename_i rs vs' Ej;simp only [Af,Prod.mk.injEq]at h;obtain⟨rfl,rfl,rfl,rfl⟩:=h;obtain⟨ts,rfl⟩: ∃ts',ts=t::ts':=by
      cases ts with
      |nil=>simp at Bc
      |cons t' ts=>simp at Bc;exact⟨ts,by rw [Bc]⟩
     obtain⟨f,h8,p1,p2,p3,⟨vs9,p4,p5⟩,p6⟩:=lY (P:=P) eh k hU r1 hx AA Ej;refine⟨f++rf,lf,h8++A4, .cons (by rw [hm];exact p1) q1,fun x hx=> ?_,qz,by simp [C7,p3,q3],by rw [AA];exact .mu hm p4 p5 q4,fun u hu=> ?_,fun _=>rfl⟩
     ·rcases Ah.1 hx with hx|hx
      ·exact see1 (p2 x hx)
      ·exact see2 (q2 x hx)
     ·simp only [C7,Ah]at hu;exact hu.elim (p6 u) (q5 u)
    ·cases h
   ·cases h
  ·rename_i own hm;split at h
   ·rename_i t x Bc hx;split at h
    ·cases h
    rename_i AA;have AA:(G5 s).2=Ao P t:=by simpa using AA
    split at h
    ·rename_i rs vs' Ej;simp only [Af,Prod.mk.injEq]at h;obtain⟨rfl,rfl,rfl,rfl⟩:=h;obtain⟨ts,rfl⟩: ∃ts',ts=t::ts':=by
      cases ts with
      |nil=>simp at Bc
      |cons t' ts=>simp at Bc;exact⟨ts,by rw [Bc]⟩
     obtain⟨f,h8,p1,p2,p3,⟨vs9,p4,p5⟩,p6⟩:=lY (P:=P) eh k hU r1 hx AA Ej;refine⟨f++rf,lf,h8++A4, .cons (by rw [hm];exact p1) q1,fun x hx=> ?_,qz,by simp [C7,p3,q3], .va hm p6 q4,fun u hu=> ?_,fun _=>rfl⟩
     ·rcases Ah.1 hx with hx|hx
      ·exact see1 (p2 x hx)
      ·exact see2 (q2 x hx)
     ·simp only [C7,Ah]at hu;exact hu.elim (p6 u) (q5 u)
    ·cases h
   ·cases h
end
inductive EF (P:Program) (w:World):List TypeId→List Bool→List Value→List AV→List Nat→List Nat→Prop where
 |nil {fl}:EF P w [] fl [] [] [] []
 |own {t ts fl el u us y ys top N f o}:fl.headD false=true→Cr P t=some el→(BQ P el=true∧N= []∨BQ P el=false∧DD P t=none)→Cw w el (P.cellsOf el) u y top N→EF P w ts fl.tail us ys f o→EF P w (t::ts) fl (u::us) (y::ys) (N++f) (top++o)
 |deep {t ts fl el e z l u us y ys top f o}:fl.headD false=true→Cr P t=some el→BQ P el=false→DD P t=some (.row e z l)→DC w [.row e z l] [u] [y] top→EF P w ts fl.tail us ys f o→EF P w (t::ts) fl (u::us) (y::ys) f (top++o)
 |skip {t ts fl u us y ys f o}:(fl.headD false=true→Cr P t=none)→EF P w ts fl.tail us ys f o→EF P w (t::ts) fl (u::us) (y::ys) f o
inductive C8 (P:Program) (w:World):List TypeId→List PM→List Value→List AV→List Nat→List Nat→Prop where
 |nil {ms vs}:C8 P w [] ms vs [] [] []
 |ro {t ts ms v vs bs f o}:ms.headD .ro= .ro→C8 P w ts ms.tail vs bs f o→C8 P w (t::ts) ms (v::vs) bs f o
 |va {t ts ms own v vs bs f o}:ms.headD .ro= .va own→C8 P w ts ms.tail vs bs f o→C8 P w (t::ts) ms (v::vs) bs f o
 |mu {t ts ms own v vs us ys y bs f1 f o1 o}:ms.headD .ro= .mu own→(if Ao P t then v= .agg us.toArray∧y= .agg ys else us= [v]∧ys= [y])→EF P w (AW P t) own us ys f1 o1→C8 P w ts ms.tail vs bs f o→C8 P w (t::ts) ms (v::vs) (y::bs) (f1++f) (o1++o)
 |bx {t ts ms own own' ty b C v vs ys y bs f1 o1 f o}:ms.headD .ro= .bx own own'→JI P t=some ty→v= .pointer (some ⟨b,0,none⟩)→w.heap[b]?=some (.cells C ty (0,0))→(∀u∈C.toList,u.oneCell'=true)→y= .agg ys→Ca P w (AW P ty) own' C.toList ys f1 o1→
   C8 P w ts ms.tail vs bs f o→C8 P w (t::ts) ms (v::vs) (y::bs) (f1++f) (b::o1++o)
section
variable {P:Program} {c:Cx} {w':World}
theorem ztt {mk:Nat→E} {ts:List TypeId} {fl:List Bool} {us:List Value} {rs:List (Option RI)} (h:F4 P c ts fl us rs) (hU: ∀t g,c.K t g→c.U t): ∀{ys:List AV} {f o:List Nat} (j:Nat),EF P w' ts fl us ys f o→(∀i y,ys[i]?=some y→(mk (j+i)).den c.ρ=y)→
  ∃recs:List AL,KP mk j rs=recs.map AL.pair∧(recs.flatMap AL.top).Sublist o∧(∀r∈recs,r.new=none∧c.U r.tag∧ ∀hs f,r.bf≠ .gd hs f)∧recs.map AL.tag=Cp rs∧ ∀c',Eu c c' w' recs→(∀b∈f,c'.ok b)→ ∀r∈recs,CK c' r.tag r.bf:=by
 induction h with
 |nil=>intro ys f o j hm _;cases hm;exact⟨[],rfl,by simp,by simp,rfl,by simp⟩
 | @row t ts fl v vs u g el rs h1 h2 Qd h3 h4 h5 _ ih=>
  intro ys f o j hm Fw;cases hm with
  |skip hh _=>rw [hh h1]at h2;cases h2
  |deep _ k2 k21 k22 _ _=>
   rw [h2]at k2;cases k2;rcases Qd with hh|hh
   ·rw [hh]at k21;cases k21
   ·rw [hh]at k22;cases k22
  | @own _ _ _ el' _ _ y ys top N f o k1 k2 k23 k3 k4=>
   rw [h2]at k2;cases k2;obtain⟨recs,e1,e2,e3,e4,e5⟩:=ih (j+1) k4 (fun i y hy=>by rw [show j+1+i=j+(i+1)from by omega];exact Fw (i+1) y (by simpa using hy));have hy:=Fw 0 y rfl;refine⟨⟨u,none,top, .row el (P.cellsOf el) g (mk j) (BQ P el)⟩::recs,by simp [KP,e1,AL.pair],by simpa using(List.Sublist.refl top).append e2,fun r hr=> ?_,by simp [Cp,RI.tag,e4],fun c' ha AF r hr=> ?_⟩
   ·rcases Ae.1 hr with rfl|hr
    ·exact⟨rfl,hU _ _ h3,by simp⟩
    ·exact e3 r hr
   ·rcases Ae.1 hr with rfl|hr
    ·obtain⟨a1,a2⟩:=ha.K u g h3;have kg:=ha.G _ (List.mem_cons_self ..);simp only at kg;refine⟨a1,fun g' Cj=>h5 g' (ha.old u (hU _ _ h3) g' Cj),N, ?_,fun b hb=>AF b (by simp [hb]),fun hd=> ?_,fun _=>by rw [kg]⟩
     rotate_left
     ·rcases k23 with⟨_,h⟩|⟨h,_⟩
      ·subst h;exact⟨rfl,by rw [kg]⟩
      ·rw [h]at hd;cases hd
     have Bj:(mk j).den c.ρ=y:=by simpa using hy
     rw [a2,h4,kg,ha.w,ha.ρ,Bj];exact k3
    ·exact e5 c' (ha.mono fun r hr=>by simp [hr]) (fun b hb=>AF b (by simp [hb])) r hr
 | @deep t ts fl v vs u g el e z l ep rs h1 h2 Qc NS h3 h4 h5 h6 _ ih=>
  intro ys f o j hm Fw;cases hm with
  |skip hh _=>rw [hh h1]at h2;cases h2
  |own _ k2 k23 _ _=>
   rw [h2]at k2;cases k2;rcases k23 with⟨hh,_⟩|⟨_,hh⟩
   ·rw [hh]at Qc;cases Qc
   ·rw [hh]at NS;cases NS
  | @deep _ _ _ el' e' z' l' _ _ y ys top f o k1 k2 k21 k22 k3 k4=>
   rw [NS]at k22;cases k22;obtain⟨recs,e1,e2,e3,e4,e5⟩:=ih (j+1) k4 (fun i y hy=>by rw [show j+1+i=j+(i+1)from by omega];exact Fw (i+1) y (by simpa using hy));have hy:=Fw 0 y rfl;refine⟨⟨u,none,top, .deep e z l g (ep+1) (mk j)⟩::recs,by simp [KP,e1,AL.pair],by simpa using(List.Sublist.refl top).append e2,fun r hr=> ?_,by simp [Cp,RI.tag,e4],fun c' ha AF r hr=> ?_⟩
   ·rcases Ae.1 hr with rfl|hr
    ·exact⟨rfl,hU _ _ h3,by simp⟩
    ·exact e3 r hr
   ·rcases Ae.1 hr with rfl|hr
    ·obtain⟨a1,a2⟩:=ha.K u g h3;have kg:=ha.G _ (List.mem_cons_self ..);have ke:=ha.ia _ (List.mem_cons_self ..) rfl;simp only at kg ke;refine⟨a1,fun g' Cj=>h5 g' (ha.old u (hU _ _ h3) g' Cj),by rw [ke,h6], ?_,by rw [kg]⟩;have Bj:(mk j).den c.ρ=y:=by simpa using hy
     rw [a2,h4,kg,ha.w,ha.ρ,Bj];exact k3
    ·exact e5 c' (ha.mono fun r hr=>by simp [hr]) (fun b hb=>AF b (by simp [hb])) r hr
 | @none t ts fl v vs rs _ _ ih=>
  intro ys f o j hm Fw;have go: ∀{y:AV} {ys':List AV} {f' o':List Nat},ys=y::ys'→EF P w' ts fl.tail vs ys' f' o'→(∀b∈f',b∈f)→o'.Sublist o→ ∃recs:List AL,KP mk j (none::rs)=recs.map AL.pair∧(recs.flatMap AL.top).Sublist o∧(∀r∈recs,r.new=none∧c.U r.tag∧ ∀hs f,r.bf≠ .gd hs f)∧recs.map AL.tag=Cp (none::rs)∧ ∀c',Eu c c' w' recs→(∀b∈f,c'.ok b)→ ∀r∈recs,CK c' r.tag r.bf:=by rintro y ys' f' o' rfl Fv hf hs;obtain⟨recs,e1,e2,e3,e4,e5⟩:=ih (j+1) Fv (fun i y hy=>by rw [show j+1+i=j+(i+1)from by omega];exact Fw (i+1) y (by simpa using hy));exact⟨recs,by simp [KP,e1],e2.trans hs,e3,by simp [Cp]at e4 ⊢;exact e4,fun c' ha AF=>e5 c' ha fun b hb=>AF b (hf b hb)⟩
  cases hm with
  |skip _ h8=>exact go rfl h8 (fun _ h=>h) (List.Sublist.refl _)
  |own _ _ _ _ h8=>exact go rfl h8 (fun b hb=>by simp [hb]) (List.sublist_append_right _ _)
  |deep _ _ _ _ _ h8=>exact go rfl h8 (fun _ h=>h) (List.sublist_append_right _ _)
theorem nQ (us:List Nat) (hU: ∀u∈us,c.U u): ∃recs:List AL,EE us=recs.map AL.pair∧recs.flatMap AL.top= []∧(∀r∈recs,r.new=none∧c.U r.tag∧ ∀hs f,r.bf≠ .gd hs f)∧recs.map AL.tag=us∧ ∀c',Eu c c' w' recs→ ∀r∈recs,CK c' r.tag r.bf:=by
 induction us with
 |nil=>exact⟨[],rfl,rfl,by simp,rfl,by simp⟩
 |cons u us ih=>
  obtain⟨recs,e1,e2,e3,e4,e5⟩:=ih fun u hu=>hU u (by simp [hu]);refine⟨⟨u,none, [], .dead⟩::recs,by simp only [EE]at e1;simp [EE,e1,AL.pair],by simp [e2],fun r hr=> ?_,by simp [e4],fun c' ha r hr=> ?_⟩
  ·rcases Ae.1 hr with rfl|hr
   ·exact⟨rfl,hU _ (by simp),by simp⟩
   ·exact e3 r hr
  ·rcases Ae.1 hr with rfl|hr
   ·have kg:=ha.G _ (List.mem_cons_self ..);simp only at kg;exact⟨by rw [kg],by rw [kg]⟩
   ·exact e5 c' (ha.mono fun r hr=>by simp [hr]) r hr
structure H8 (c:Cx) (w':World) (nx m:Nat) (l:List (Nat × Ai)) (hd o f:List Nat) (recs:List AL):Prop where
 ents:l=recs.map AL.pair
 l4:(recs.flatMap AL.top).Sublist o
 new: ∀r∈recs,r.new.isSome=true→nx≤r.tag∧r.tag<nx+m
 old: ∀r∈recs,r.new=none→r.tag∈hd∧c.U r.tag
 all: ∀t∈hd,∃r∈recs,r.tag=t
 nodup:hd.Nodup→(∀t,nx≤t→t<nx+m→ ¬c.U t)→(recs.map AL.tag).Nodup
 ne: ∀r∈recs,∀hs f,r.bf≠ .gd hs f
 ok: ∀c',Eu c c' w' recs→(∀b∈f,c'.ok b)→ ∀r∈recs,CK c' r.tag r.bf
theorem H8.app {nx m m':Nat} {l l':List (Nat × Ai)} {hd JZ o o' f f':List Nat} {recs recs':List AL} (h:H8 c w' nx m l hd o f recs) (k:H8 c w' (nx+m) m' l' JZ o' f' recs'):H8 c w' nx (m+m') (l++l') (hd++JZ) (o++o') (f++f') (recs++recs'):=by
 refine⟨by rw [h.ents,k.ents,List.map_append],by rw [List.flatMap_append];exact h.l4.append k.l4,fun r hr hn=> ?_,fun r hr hn=> ?_,fun t ht=> ?_,fun hn hU=> ?_,fun r hr=> ?_,fun c' ha AF r hr=> ?_⟩
 ·rcases Ah.1 hr with hr|hr
  ·have:=h.new r hr hn;omega
  ·have:=k.new r hr hn;omega
 ·rcases Ah.1 hr with hr|hr
  ·exact⟨by simp [(h.old r hr hn).1],(h.old r hr hn).2⟩
  ·exact⟨by simp [(k.old r hr hn).1],(k.old r hr hn).2⟩
 ·rcases Ah.1 ht with ht|ht
  ·obtain⟨r,hr,e⟩:=h.all t ht;exact⟨r,by simp [hr],e⟩
  ·obtain⟨r,hr,e⟩:=k.all t ht;exact⟨r,by simp [hr],e⟩
 ·rw [List.nodup_append]at hn;rw [List.map_append,List.nodup_append];refine⟨h.nodup hn.1 fun t h1 h2=>hU t h1 (by omega),k.nodup hn.2.1 fun t h1 h2=>hU t (by omega) (by omega),fun t1 Q4 t2 Q5 he=> ?_⟩;obtain⟨q1,FQ,rfl⟩:=List.mem_map.1 Q4;obtain⟨q2,Fh,rfl⟩:=List.mem_map.1 Q5;cases n1:q1.new with
  |none=>
   obtain⟨a1,a2⟩:=h.old q1 FQ n1;cases n2:q2.new with
   |none=>exact hn.2.2 _ a1 _ (k.old q2 Fh n2).1 he
   |some v2=>have:=k.new q2 Fh (by simp [n2]);exact hU q2.tag (by omega) (by omega) (he▸a2)
  |some v1=>
   have:=h.new q1 FQ (by simp [n1]);cases n2:q2.new with
   |none=>exact hU q1.tag (by omega) (by omega) (he▸(k.old q2 Fh n2).2)
   |some v2=>have:=k.new q2 Fh (by simp [n2]);omega
 ·rcases Ah.1 hr with hr|hr
  ·exact h.ne r hr
  ·exact k.ne r hr
 ·rcases Ah.1 hr with hr|hr
  ·exact h.ok c' (ha.mono fun r hr=>by simp [hr]) (fun b hb=>AF b (by simp [hb])) r hr
  ·exact k.ok c' (ha.mono fun r hr=>by simp [hr]) (fun b hb=>AF b (by simp [hb])) r hr
theorem H8.jy {nx:Nat} {l:List (Nat × Ai)} {hd o f:List Nat} {recs:List AL} (e1:l=recs.map AL.pair) (e2:(recs.flatMap AL.top).Sublist o) (e3: ∀r∈recs,r.new=none∧c.U r.tag∧ ∀hs f,r.bf≠ .gd hs f) (e4:recs.map AL.tag=hd) (e5: ∀c',Eu c c' w' recs→(∀b∈f,c'.ok b)→ ∀r∈recs,CK c' r.tag r.bf):H8 c w' nx 0 l hd o f recs:=by
 refine⟨e1,e2,fun r hr hn=> ?_,fun r hr _=>⟨?_,(e3 r hr).2.1⟩,fun t ht=> ?_,fun hn _=>by rw [e4];exact hn,fun r hr=>(e3 r hr).2.2,fun c' ha AF=>e5 c' ha AF⟩
 ·rw [(e3 r hr).1]at hn;cases hn
 ·rw [←e4];exact List.mem_map.2 ⟨r,hr,rfl⟩
 ·rw [←e4]at ht;obtain⟨r,hr,e⟩:=List.mem_map.1 ht;exact⟨r,hr,e⟩
theorem zvr {ts:List TypeId} {ms:List PM} {vs:List Value} {bs:List PA} (h:H0 P c ts ms vs bs) (hU: ∀t g,c.K t g→c.U t) {r:Nat}: ∀{Bs:List AV} {f o:List Nat} (nx j:Nat),C8 P w' ts ms vs Bs f o→(∀k y,Bs[k]?=some y→(E.proj (.var r) (j+k+1)).den c.ρ=y)→
  Bs.length=HD bs∧ ∃recs,H8 c w' nx (Jv P bs) (after P r nx bs j) (C7 bs) o f recs:=by
 have nilS: ∀nx,H8 c w' nx 0 [] [] [] [] []:=fun nx=>⟨rfl,by simp,by simp,by simp,by simp,by simp,by simp,by simp⟩
 induction h with
 |nil=>intro Bs f o nx j hb _;cases hb;exact⟨rfl, [],by simpa [after,C7,Jv]using nilS nx⟩
 | @ro ts ms v vs bs hm CN ih=>
  intro Bs f o nx j hb hB;cases hb with
  |nil=>exact ih nx j .nil hB
  |ro _ h8=>exact ih nx j h8 hB
  |va h9 _=>rw [hm]at h9;cases h9
  |mu h9 _ _ _=>rw [hm]at h9;cases h9
  |bx h9 _ _ _ _ _ _ _=>rw [hm]at h9;cases h9
 | @va ts ms own v vs bs us hm Kd CN ih=>
  intro Bs f o nx j hb hB;obtain⟨recs1,e1,e2,e3,e4,e5⟩:=nQ (c:=c) (w':=w') us Kd;have s1:H8 c w' nx 0 (EE us) us [] [] recs1:= .jy e1 (by rw [e2];exact List.Sublist.refl _) e3 e4 fun c' ha _=>e5 c' ha;cases hb with
  |nil=>obtain⟨h1,recs2,s2⟩:=ih nx j .nil hB;exact⟨by simpa [HD]using h1,recs1++recs2,by simpa [after,C7,Jv]using s1.app s2⟩
  |ro h9 _=>rw [hm]at h9;cases h9
  |va _ h8=>obtain⟨h1,recs2,s2⟩:=ih nx j h8 hB;exact⟨by simpa [HD]using h1,recs1++recs2,by simpa [after,C7,Jv]using s1.app s2⟩
  |mu h9 _ _ _=>rw [hm]at h9;cases h9
  |bx h9 _ _ _ _ _ _ _=>rw [hm]at h9;cases h9
 | @mu t ts ms own v vs bs us rs hm Kd Ej CN ih=>
  intro Bs f o nx j hb hB;cases hb with
  |ro h9 _=>rw [hm]at h9;cases h9
  |va h9 _=>rw [hm]at h9;cases h9
  |bx h9 _ _ _ _ _ _ _=>rw [hm]at h9;cases h9
  | @mu _ _ _ own2 _ _ us2 ys y Bs f1 f o1 o h9 hg QN h8=>
   rw [hm]at h9;cases h9;obtain⟨h1,recs2,s2⟩:=ih nx (j+1) h8 (fun k y hy=>by rw [show j+1+k+1=j+(k+1)+1 from by omega];exact hB (k+1) y (by simpa using hy));have hy:=hB 0 y rfl;have MO:us2=us:=by
    split at Kd
    ·rename_i AA;rw [if_pos AA]at hg;obtain⟨rfl,_⟩:=hg;exact mA Kd
    ·rename_i AA;rw [if_neg AA]at hg;rw [hg.1,Kd]
   subst MO;obtain⟨recs1,e1,e2,e3,e4,e5⟩:=ztt (w':=w') (mk:=Da (.proj (.var r) (j+1)) (Ao P t)) Ej hU 0 QN (by
    intro i z hz;split at hg
    ·rename_i AA;rw [AA];exact Si (by rw [←hg.2];exact hy) i z hz
    ·rename_i AA;have Gc:Ao P t=false:=by simpa using AA
     rw [hg.2]at hz;cases i with
     |zero=>simp at hz;subst hz;rw [Gc];simpa [Da]using hy
     |succ i=>simp at hz)
   have s1:H8 c w' nx 0 _ (Cp rs) o1 f1 recs1:= .jy e1 e2 e3 e4 e5;exact⟨by simp [HD,h1],recs1++recs2,by simpa [after,C7,Jv]using s1.app s2⟩
 | @bx t ts ms own own' ty v vs bs T b g olds hm DM hv hK hH hol CN ih=>
  intro Bs f o nx j hb hB;cases hb with
  |ro h9 _=>rw [hm]at h9;cases h9
  |va h9 _=>rw [hm]at h9;cases h9
  |mu h9 _ _ _=>rw [hm]at h9;cases h9
  | @bx _ _ _ own2 own3 ty2 b2 C _ _ ys y Bs f1 o1 f o h9 Iz CW hh CB HT hc h8=>
   rw [hm]at h9;cases h9;rw [DM]at Iz;cases Iz;have Tu:b2=b:=by rw [hv]at CW;cases CW;rfl
   subst Tu;obtain⟨h1,recs2,s2⟩:=ih (nx+(AW P ty).length) (j+1) h8 (fun k y hy=>by rw [show j+1+k+1=j+(k+1)+1 from by omega];exact hB (k+1) y (by simpa using hy));have hy:=hB 0 y rfl;obtain⟨recs0,d1,d2,d3,d4,d5⟩:=nQ (c:=c) (w':=w') olds hol;have s0:H8 c w' nx 0 (EE olds) olds [] [] recs0:= .jy d1 (by rw [d2];exact List.Sublist.refl _) d3 d4 fun c' ha _=>d5 c' ha;obtain⟨recs1,e1,e2,e3,e4,_,e5⟩:=Pf (c:=c) (nx:=nx) (mk:=Da (.proj (.var r) (j+1)) true) hc 0 (Si (by rw [←HT];exact hy));have gN:=hU _ _ hK;have s1:H8 c w' nx (AW P ty).length ((T, .box ty g (Cv P nx (Da (.proj (.var r) (j+1)) true) 0 (AW P ty) own').1)::(Cv P nx (Da (.proj (.var r) (j+1)) true) 0 (AW P ty) own').2) [T] (b2::o1) f1 (⟨T,none, [b2], .box ty g (Cv P nx (Da (.proj (.var r) (j+1)) true) 0 (AW P ty) own').1⟩::recs1):=by
    refine⟨by simp [e1,AL.pair], ?_,fun q hq hn=> ?_,fun q hq hn=> ?_,by simp,fun _ A0=> ?_,fun q hq=> ?_,fun c' ha AF q hq=> ?_⟩
    ·simp only [List.flatMap_cons,e2,List.singleton_append];exact List.Sublist.refl _
    ·rcases Ae.1 hq with rfl|hq
     ·cases hn
     ·have:=e3 q hq;omega
    ·rcases Ae.1 hq with rfl|hq
     ·exact⟨by simp,gN⟩
     ·have:=(e3 q hq).2.2;rw [hn]at this;cases this
    ·simp only [List.map_cons,List.nodup_cons];refine⟨fun hm=> ?_,e4⟩;obtain⟨q,hq,wA⟩:=List.mem_map.1 hm;have:=e3 q hq;exact A0 q.tag (by omega) (by omega) (wA▸gN)
    ·rcases Ae.1 hq with rfl|hq
     ·simp
     ·intro hs f he;obtain⟨q1,q2⟩:=e3 q hq;have:(q.tag,q.bf)∈(Cv P nx (Da (.proj (.var r) (j+1)) true) 0 (AW P ty) own').2:=by
       rw [e1];exact List.mem_map.2 ⟨q,hq,rfl⟩
      exact Nc _ _ _ _ _ this he
    ·obtain⟨p1,p2⟩:=e5 c' (ha.mono fun r hr=>by simp [hr]) AF;rcases Ae.1 hq with rfl|hq
     ·obtain⟨a1,a2⟩:=ha.K T 0 hK;have kg:=ha.G _ (List.mem_cons_self ..);simp only at kg;exact⟨b2,C,a1,by rw [a2,hH,hv],by rw [kg],by rw [kg],by rw [ha.w];exact hh,CB,p1⟩
     ·exact p2 q hq
   refine⟨by simp [HD,h1],recs0++((⟨T,none, [b2], .box ty g (Cv P nx (Da (.proj (.var r) (j+1)) true) 0 (AW P ty) own').1⟩::recs1)++recs2), ?_⟩;have s3:=s0.app (s1.app s2);rw [Nat.zero_add]at s3;refine⟨by simpa [after]using s3.ents,s3.l4,s3.new,fun q hq hn=> ?_,fun t ht=> ?_,fun hn A0=> ?_,s3.ne,s3.ok⟩
   ·have:=s3.old q hq hn;simp only [C7,List.cons_append,Ae,Ah,List.not_mem_nil,or_false,List.nil_append]at this ⊢;exact⟨by rcases this.1 with h|h|h;exact .inr (.inl h);exact .inl h;exact .inr (.inr h),this.2⟩
   ·refine s3.all t ?_;simp only [C7,List.cons_append,Ae,Ah,List.nil_append]at ht ⊢;rcases ht with h|h|h
    ·exact .inr (.inl h)
    ·exact .inl h
    ·exact .inr (.inr h)
   ·refine s3.nodup ?_ A0;simp only [C7,List.cons_append,List.nodup_cons,List.nodup_append,Ah,not_or,List.nil_append]at hn ⊢;obtain⟨⟨n1,n2⟩,n3,n4,n5⟩:=hn;refine⟨n3,⟨n2,n4⟩,fun a ha b hb=> ?_⟩;rcases Ae.1 hb with rfl|hb
    ·rintro rfl;exact n1 ha
    ·exact n5 a ha b hb
end
def NC (P:Program):List TypeId→List Bool→List AV→Bool
 |t::ts,fl,y::ys=>((fl.headD false&&(Cr P t).isSome)||Cz P t||y.scalar)&&NC P ts fl.tail ys
 |_,_,_=>true
def WI (P:Program) (t:TypeId) (fl:List Bool) (x:AV):Bool:=if F2 P t fl then NC P (AW P t) fl (if Ao P t then x.cells else [x])else Cz P t||x.cells.all AV.scalar
def SO (P:Program):List TypeId→List Bool→List AV→Bool
 |t::ts,fl,x::xs=>WI P t fl x&&SO P ts (fl.drop (AW P t).length) xs
 |_,_,_=>true
def Tg (P:Program) (ts:List TypeId) (fl:List Bool) (R:AV):Bool:=match ts with
 | [t]=>WI P t fl R
 |ts=>match R with
  | .tup ys=>SO P ts fl ys
  |_=>true
def Hg (P:Program):List TypeId→List PM→List AV→Bool
 |t::ts,ms,bs=>(match ms.headD .ro with
  | .ro=>Hg P ts ms.tail bs
  | .va _=>Hg P ts ms.tail bs
  | .mu _=>Hg P ts ms.tail bs.tail
  | .bx _ own'=>(match JI P t,bs with
   |some ty,b::_=>NC P (AW P ty) own' b.cells
   |_,_=>true)&&Hg P ts ms.tail bs.tail)
 | [],_,_=>true
def Bi:List TypeId→List PM→Bool
 |_::ts,ms=>(match ms.headD .ro with
  | .mu _=>true
  | .bx .. =>true
  |_=>false)||Bi ts ms.tail
 | [],_=>false
def KB (P:Program) (fn:Func) (s:GL) (r:AV):Bool:=
 if Bi (fn.params.toList++s.ft) s.b8 then(match r with
  | .tup (R::bs)=>Tg P fn.resultTypes.toList s.res R&&Hg P (fn.params.toList++s.ft) s.b8 bs
  |_=>false)
 else Tg P fn.resultTypes.toList s.res r
def JJ (P:Program) (w:World) (ts:List TypeId) (fl:List Bool) (v:Value) (R:AV) (f o:List Nat):Prop:=match ts with
 | [t]=>Ef P w t fl v R f o
 |ts=> ∃vs ys,v= .tuple vs.toArray∧R= .tup ys∧H4 P w ts fl vs ys f o
structure jM (P:Program) (fn:Func) (s:GL) (w:World) (vs:List Value) (rf hs:List Nat) (r:AV) (v:Value) (w':World):Prop where
 ex: ∃R bs f1 o1 f2 o2,r=(match bs with| []=>R|_=> .tup (R::bs))∧JJ P w' fn.resultTypes.toList s.res v R f1 o1∧C8 P w' (fn.params.toList++s.ft) s.b8 vs bs f2 o2∧(o1++o2).Nodup∧
  (∀b∈o1++o2,(b∈hs∨w.heap.size≤b)∧b<w'.heap.size)∧ ∀b∈f1++f2,b∉o1++o2∧(b∈rf∨b∈hs∨w.heap.size≤b)
 mod:Mod hs w w'
theorem Rel.ml {c:Cx} {n:Nat} {sl:Nat→SV} {hp:Nat→Option Ai} {a:Act} (h:Rel c n sl hp a) {hs:List Nat} (hh: ∀b∈hs,∃t,b∈(c.G t).top):YP c.w (fun b=>b∈hs):=by
 obtain⟨p1,p2,p3⟩:=h.base.pk;refine⟨Nat.le_trans p1 h.base.size,E9.mono (fun b hb=>h.base.block b (by omega) fun hm=>by have:=p3 b hm;omega) p2,fun b hb=> ?_⟩;obtain⟨t,ht⟩:=hh b hb;rcases h.gw.allow t b (by simp [GI.own,ht])with k|k
 ·have:c.w0.heap.size≤b:=k;omega
 ·exact p3 b k
def Qa (P:Program) (s:GL) (f:Nat) (xs:List AV) (r:AV):Prop:=
 ∃fn,P.funcs[f]?=some fn∧fn.body.isSome=true∧(fn.name== "runtime.NumGoroutine")=false∧KB P fn s r=true∧xs.length=fn.params.size+fn.nfree∧s.ft.length≤fn.nfree∧
  ∀(w:World) (vs:List Value) (rf lf hs:List Nat),Db P w (fn.params.toList++s.ft) s.b8 s.lo vs xs rf lf hs→(∀b∈hs,b∉rf)→(∀b∈hs,b∉lf)→hs.Nodup→YP w (fun b=>b∈hs)→
   Calls P f vs.toArray w fun e w'=> ∃v,e= .returned v∧jM P fn s w vs rf hs r v w'
def B6 (P:Program) (sg:BC) (f:Nat) (xs:List AV) (r:AV):Prop:=
 if f<1000000 then∃s,sg f=some s∧Qa P s f xs r else Qa P {b8:= [],res:= []} (f-1000000) xs r
section
variable {P:Program} {w:World}
theorem lF {v:Value} {x:AV} {f:List Nat} (h:Rd w [v] [x] f) (hx: ∀y∈x.cells,y.scalar=true):f= []:=by
 by_cases AA: ∃cs,x= .agg cs
 ·obtain⟨cs,rfl⟩:=AA;obtain⟨as_,_,_,hr⟩:=IZ h rfl;exact G8 hr hx
 ·have:x.cells= [x]:=by cases x<;>first|rfl|exact absurd ⟨_,rfl⟩ AA
  rw [this]at hx;exact G8 h hx
theorem zvR {t el:TypeId} (h:Cr P t=some el):Cz P t=true:=by have hu:=Jm h;simp [Cz,BQ,AW,Wo,hu]
theorem Ca.flat {ts:List TypeId} {fl:List Bool} {us:List Value} {ys:List AV} {rf hs:List Nat} (h:Ca P w ts fl us ys rf hs) (h1:Ea P ts fl=false) (h2:NC P ts fl ys=true):rf= []:=by
 induction h with
 |nil=>rfl
 |own k1 k2 k23 _ _ ih=>
  simp only [Ea,Bool.or_eq_false_iff]at h1;simp only [NC,Ad]at h2;have hN:=k23;have hw:=h1.1;rw [zvR k2,k1]at hw;rcases hN with⟨_,rfl⟩|⟨q1,q2⟩
  ·rw [ih h1.2 h2.2];rfl
  ·simp [Wz,k2,q1,q2]at hw
 |deep _ _ _ _ _ _ ih=>simp only [Ea,Bool.or_eq_false_iff]at h1;simp only [NC,Ad]at h2;exact ih h1.2 h2.2
 | @rd t ts fl u us y ys f rf hs hn hr _ ih=>
  simp only [Ea,Bool.or_eq_false_iff]at h1;simp only [NC,Ad]at h2;have Dp:(fl.headD false&&(Cr P t).isSome)=false:=by
   cases hh:fl.headD false with
   |false=>rfl
   |true=>rw [hn hh];rfl
  have X5:(fl.headD false&&Wz P t)=false:=by
   cases hh:fl.headD false with
   |false=>rfl
   |true=>simp [Wz,hn hh]
  rw [X5]at h1;rw [Dp]at h2;have GU:Cz P t=false:=by simpa using h1.1
  rw [GU]at h2;have hs:y.scalar=true:=by simpa using h2.1
  rw [G8 hr (by simpa using hs),ih h1.2 h2.2];rfl
theorem Ef.flat {t:TypeId} {fl:List Bool} {v:Value} {x:AV} {rf hs:List Nat} (h:Ef P w t fl v x rf hs) (h1:fV P t fl=false) (h2:WI P t fl x=true):rf= []:=by
 unfold Ef at h;unfold fV at h1;unfold WI at h2;split at h
 ·rename_i hf;rw [if_pos hf]at h1 h2;obtain⟨us,ys,hg,hc⟩:=h;split at hg
  ·rename_i AA;obtain⟨_,rfl,_⟩:=hg;rw [if_pos AA]at h2;exact hc.flat h1 h2
  ·rename_i AA;obtain⟨_,rfl⟩:=hg;rw [if_neg AA]at h2;exact hc.flat h1 h2
 ·rename_i hf;rw [if_neg hf]at h1 h2;rw [h1]at h2;exact lF h.1 (by simpa using h2)
theorem H4.flat {ts:List TypeId} {fl:List Bool} {vs:List Value} {xs:List AV} {rf hs:List Nat} (h:H4 P w ts fl vs xs rf hs) (h1:CT P ts fl=false) (h2:SO P ts fl xs=true):rf= []:=by
 induction h with
 |nil=>rfl
 |cons hv _ ih=>simp only [CT,Bool.or_eq_false_iff]at h1;simp only [SO,Ad]at h2;rw [hv.flat h1.1 h2.1,ih h1.2 h2.2];rfl
theorem JJ.flat {ts:List TypeId} {fl:List Bool} {v:Value} {R:AV} {f o:List Nat} (h:JJ P w ts fl v R f o) (h1:CT P ts fl=false) (h2:Tg P ts fl R=true):f= []:=by
 match ts,h,h1,h2 with
 | [t],h,h1,h2=>simp only [CT,Bool.or_false]at h1;exact Ef.flat h h1 h2
 | [],h,h1,h2=>obtain⟨vs,ys,_,rfl,hv⟩:=h;exact hv.flat h1 h2
 |t::u::ts,h,h1,h2=>obtain⟨vs,ys,_,rfl,hv⟩:=h;exact hv.flat h1 h2
theorem Cw.void {ety sz:Nat} {a:Option Addr} {x:AV} {top N:List Nat} (h:Cw w ety sz (.slice a 0 0) x top N):N= []:=by
 obtain⟨xs,_,_,_,⟨_,_,_,h⟩|⟨g,cap,C,hv,h6,_,_,_,_,_,hr⟩⟩:=h
 ·exact h
 ·have h0:xs.length=0:=by injection hv with _ h _;exact h.symm
  have:xs= []:=by cases xs with|nil=>rfl|cons _ _=>simp at h0
  subst this;simp [AE]at hr;cases hr;rfl
theorem EF.flat {c:Cx} {ts:List TypeId} {fl:List Bool} {us:List Value} {rs:List (Option RI)} (h:F4 P c ts fl us rs): ∀{ys:List AV} {f o:List Nat},EF P w ts fl us ys f o→rs.any RI.lent=false→f= []:=by
 induction h with
 |nil=>intro ys f o hm _;cases hm;rfl
 |row k1 k2 k23 _ _ _ _ ih=>
  intro ys f o hm hl;simp only [List.any_cons,Bool.or_eq_false_iff,RI.lent]at hl;cases hm with
  |own _ q2 q23 _ q4=>
   rw [k2]at q2;cases q2;rcases q23 with⟨_,rfl⟩|⟨q,_⟩
   ·exact ih q4 hl.2
   ·rw [q]at hl;simp at hl
  |deep _ _ _ _ _ q=>exact ih q hl.2
  |skip _ q=>exact ih q hl.2
 |deep k1 k2 k21 k22 _ _ _ _ _ ih=>
  intro ys f o hm hl;simp only [List.any_cons,Bool.or_eq_false_iff]at hl;cases hm with
  |own _ q2 q23 _ q4=>
   rw [k2]at q2;cases q2;rcases q23 with⟨_,rfl⟩|⟨_,q⟩
   ·exact ih q4 hl.2
   ·rw [q]at k22;cases k22
  |deep _ _ _ _ _ q=>exact ih q hl.2
  |skip _ q=>exact ih q hl.2
 |none hv _ ih=>
  intro ys f o hm hl;simp only [List.any_cons,Bool.or_eq_false_iff]at hl;cases hm with
  |own q1 q2 _ q3 q4=>
   rcases hv q1 with hh|⟨a,rfl⟩
   ·rw [hh]at q2;cases q2
   ·rw [Cw.void q3];exact ih q4 hl.2
  |deep _ _ _ _ _ q=>exact ih q hl.2
  |skip _ q=>exact ih q hl.2
theorem C8.flat {c:Cx} {ts:List TypeId} {ms:List PM} {vs:List Value} {bs:List PA} (h:H0 P c ts ms vs bs): ∀{Bs:List AV} {f o:List Nat},C8 P w ts ms vs Bs f o→Dy P bs=false→Hg P ts ms Bs=true→f= []:=by
 induction h with
 |nil=>intro Bs f o hb _ _;cases hb;rfl
 | @ro ts ms v vs bs hm _ ih=>
  intro Bs f o hb h1 h2;cases hb with
  |nil=>rfl
  |ro _ h8=>simp only [Hg,hm]at h2;exact ih h8 h1 h2
  |va h9 _=>rw [hm]at h9;cases h9
  |mu h9 _ _ _=>rw [hm]at h9;cases h9
  |bx h9 _ _ _ _ _ _ _=>rw [hm]at h9;cases h9
 | @va ts ms own v vs bs us hm _ _ ih=>
  intro Bs f o hb h1 h2;cases hb with
  |nil=>rfl
  |ro h9 _=>rw [hm]at h9;cases h9
  |va _ h8=>simp only [Hg,hm]at h2;exact ih h8 h1 h2
  |mu h9 _ _ _=>rw [hm]at h9;cases h9
  |bx h9 _ _ _ _ _ _ _=>rw [hm]at h9;cases h9
 | @mu t ts ms own v vs bs us rs hm Kd Ej _ ih=>
  intro Bs f o hb h1 h2;cases hb with
  |ro h9 _=>rw [hm]at h9;cases h9
  |va h9 _=>rw [hm]at h9;cases h9
  | @mu _ _ _ own2 _ _ us2 ys y Bs f1 f o1 o h9 hg QN h8=>
   rw [hm]at h9;cases h9;simp only [Hg,hm]at h2;simp only [Dy,Bool.or_eq_false_iff]at h1;have MO:us2=us:=by
    split at Kd
    ·rename_i AA;rw [if_pos AA]at hg;obtain⟨rfl,_⟩:=hg;exact mA Kd
    ·rename_i AA;rw [if_neg AA]at hg;rw [hg.1,Kd]
   subst MO;rw [EF.flat Ej QN h1.1,ih h8 h1.2 h2];rfl
  |bx h9 _ _ _ _ _ _ _=>rw [hm]at h9;cases h9
 | @bx t ts ms own own' ty v vs bs T b g olds hm DM _ _ _ _ _ ih=>
  intro Bs f o hb h1 h2;cases hb with
  |ro h9 _=>rw [hm]at h9;cases h9
  |va h9 _=>rw [hm]at h9;cases h9
  |mu h9 _ _ _=>rw [hm]at h9;cases h9
  |bx h9 Iz _ _ _ hy hc h8=>rw [hm]at h9;cases h9;rw [DM]at Iz;cases Iz;simp only [Hg,hm,DM,Ad,hy,List.tail_cons]at h2;simp only [Dy,Bool.or_eq_false_iff]at h1;rw [hc.flat h1.1 h2.1,ih h8 h1.2 h2.2];rfl
theorem bD {ts:List TypeId} {ms:List PM} {vs:List Value} {Bs:List AV} {f o:List Nat} (h:C8 P w ts ms vs Bs f o):Bs= []↔Bi ts ms=false:=by
 induction h with
 |nil=>simp [Bi]
 |ro hm _ ih=>simp only [Bi,hm,Bool.false_or];exact ih
 |va hm _ ih=>simp only [Bi,hm,Bool.false_or];exact ih
 |mu hm _ _ _ _=>simp only [Bi,hm,Bool.true_or];simp
 |bx hm _ _ _ _ _ _ _ _=>simp only [Bi,hm,Bool.true_or];simp
end
section
variable {P:Program} {c:Cx} {n nx:Nat} {sl sl0:Nat→SV} {hp hp0:Nat→Option Ai} {a:Act} {o:Oper} {gs:Gd} {e:AY} {sg:BC} {nv:Nat}
theorem oQ {xs:List Operand}: ∀{ss:List SV},(∀x∈xs,∀s,Bx sl0 gs x=some s→SR c [s] [a.eval x])→xs.mapM (Bx sl0 gs)=some ss→SR c ss (xs.map a.eval):=by
 induction xs with
 |nil=>intro ss _ h;simp at h;subst h;exact .nil
 |cons x xs ih=>intro ss hx h;rw [List.mapM_cons]at h;simp only [Option.bind_eq_bind,Au,Option.pure_def,Af]at h;obtain⟨s,hs,ss',FE,rfl⟩:=h;exact(hx x (by simp) s hs).cons (ih (fun y hy=>hx y (by simp [hy])) FE)
theorem Pt: ∀{l:List Nat},KR l=true→l.Nodup
 | [],_=>by simp
 |x::l,h=>by simp only [KR,Ad,Bool.not_eq_true',List.contains_eq_mem,decide_eq_false_iff_not]at h;exact List.nodup_cons.2 ⟨h.1,Pt h.2⟩
theorem zvK {c1:Cx} {w':World} {recs:List AL} {hs f o:List Nat} (gw:GW c) (hg: ∀t,(c1.G t).top=(c.G t).top∨(c1.G t).top= []) (hA:c1.A=c.A) (WS:c1.Mu=c.Mu) (TN:c1.w0=c.w0) (hB:c.w0.heap.size≤c.w.heap.size)
  (hn:(recs.map AL.tag).Nodup) (Ch: ∀r∈recs,∀b∈r.top,b∈o) (Gl: ∀b∈hs,∃r∈recs,b∈(c.G r.tag).top) {rf:List Nat} (Li: ∀b∈rf,c1.ok b) (hf: ∀b∈f,b∉o∧(b∈rf∨b∈hs∨c.w.heap.size≤b)): ∀b∈f,(c1.dj w' recs).ok b:=by
 intro b hb;obtain⟨h1,h2⟩:=hf b hb;have hM:(c1.dj w' recs).M b→ ∃t,(∀r∈recs,r.tag≠t)∧b∈(c1.G t).top:=by
  rintro⟨t,ht⟩;by_cases hT: ∃r∈recs,r.tag=t
  ·obtain⟨r,hr,rfl⟩:=hT;rw [Cx.dr hn hr]at ht;exact absurd (Ch r hr b ht) h1
  ·rw [Cx.c8 fun r hr hh=>hT ⟨r,hr,hh⟩]at ht;exact⟨t,fun r hr hh=>hT ⟨r,hr,hh⟩,ht⟩
 have sub: ∀t,b∈(c1.G t).top→b∈(c.G t).top:=fun t ht=>by
  rcases hg t with hh|hh
  ·rw [←hh];exact ht
  ·rw [hh]at ht;simp at ht
 rcases h2 with h2|h2|h2
 ·refine⟨fun hm=> ?_,(Li b h2).2⟩;obtain⟨t,_,ht⟩:=hM hm;exact(Li b h2).1 ⟨t,ht⟩
 ·obtain⟨r,hr,Tv⟩:=Gl b h2;refine⟨fun hm=> ?_, .inr ?_⟩
  ·obtain⟨t,Ez,ht⟩:=hM hm;exact gw.cj r.tag t (Ez r hr) b (by simp [GI.own,Tv]) (by simp [GI.own,sub t ht])
  ·have:=gw.allow r.tag b (by simp [GI.own,Tv]);simp only [Cx.dj,Cx.B,TN,WS]at this ⊢;exact this
 ·refine⟨fun hm=> ?_, .inr (.inl ?_)⟩
  ·obtain⟨t,_,ht⟩:=hM hm;have:=gw.inb t b (by simp [GI.own,sub t ht]);omega
  ·simp only [Cx.dj,Cx.B,TN];omega
theorem zw4 (h:Bf P c n nx sl hp a sl0 hp0 o gs) {cl:Call} {fo:Operand} (ho:o.op= .call cl) (Ay:cl.callee= .value fo) {g:Nat} {caps:Bl} (hf:Bx sl0 gs fo=some (.fn g caps)) {as_:List SV} (has:cl.args.toList.mapM (Bx sl0 gs)=some as_)
  (hg:g<1000000) (he:SB P sg hp0 gs nv nx g (as_++caps.toList)=some e) (A3: ∀c',e.call=some c'→ ∃r,c.ρ[nv]?=some r∧Hz (B6 P sg) c'.fn ((EL.of c'.args).den c.ρ) c.ρ r):Az P o c n nx sl hp gs a e:=by
 have XW:fo∈o.op.operands:=by simp [ho,Op.operands,Call.operands,Ay]
 have XV: ∀x∈cl.args.toList,x∈o.op.operands:=fun x hx=>by
  have:x∈cl.args:=by simpa using hx
  simp [ho,Op.operands,Call.operands,Ay,this]
 have Li:=h.cu hf XW;generalize Xx:a.eval fo=fv at Li;cases Li with
 |fn Qr h8=>
 rename_i capv;have As:=(oQ (a:=a) (fun x hx s hs=>h.cu hs (XV x hx)) has).app Qr;unfold SB at he;split at he
 ·rename_i fn s Gi IB;split at he
  ·cases he
  rename_i hlen;simp only [Bool.or_eq_true,not_or,Bool.not_eq_true,bne_eq_false_iff_eq]at hlen;split at he
  ·cases he
  rename_i es bs us uz AZ;split at he
  ·cases he
  rename_i BW;simp only [Bool.or_eq_true,Bool.not_eq_true',not_or,Bool.not_eq_false,Bool.not_eq_true]at BW;obtain⟨⟨X3,QS⟩,QT⟩:=BW;have QU:=Pt X3;have Ge: ∀u∈us,u∉C7 bs:=fun u hu hh=>by rw [List.any_eq_false]at QS;have:=QS u hu;simp only [List.contains_eq_mem,decide_eq_true_eq]at this;exact this hh
  have JU: ∀u∈uz,u∉C7 bs:=fun u hu hh=>by rw [List.any_eq_false]at QT;have:=QT u hu;simp only [List.contains_eq_mem,decide_eq_true_eq]at this;exact this hh
  simp only at he;split at he
  ·cases he
  rename_i BJ;simp only [Nat.not_le]at BJ;split at he
  ·cases he
  rename_i Iw;split at he
  ·cases he
  rename_i fz Gj;have hK: ∀t g,c.K t g→c.U t:=h.rel.br;obtain⟨rf,lf,hs,q1,q2,qz,q3,q4,q5,q6⟩:=o7 (P:=P) h.rel.base h.eh h.gs hK (as_++caps.toList) AZ As (by rw [hlen.1.2,Ak,Array.length_toList];have:=hlen.2;simp only [decide_eq_false_iff_not,Nat.not_lt]at this;omega);obtain⟨fts,GN,QD⟩: ∃fts,Df hp0 gs fts=some fz∧ ∀t∈fts,t∈us:=by
   split at Gj
   ·exact⟨us,Gj,fun t ht=>ht⟩
   ·simp only [Af]at Gj;subst Gj;exact⟨[],rfl,by simp⟩
  have CM:=h.rel.freeze h.hp h.gs GN;have K5: ∀t∈fz.map (·.1),t∈us:=fun t ht=>by obtain⟨⟨t',e'⟩,hm,rfl⟩:=List.mem_map.1 ht;exact QD _ ((Nd h.gs GN).1 t' e' hm).1
  have Qg: ∀t,((c.bm (fz.map (·.1))).G t).top=(c.G t).top∨((c.bm (fz.map (·.1))).G t).top= []:=fun t=>by
   simp only [Cx.bm];split
   ·exact .inr rfl
   ·exact .inl rfl
  have tN: ∀t∈C7 bs,(c.bm (fz.map (·.1))).G t=c.G t:=fun t ht=>by simp only [Cx.bm];rw [if_neg];intro hh;exact Ge t (K5 t hh) ht
  have fZ: ∀t∈C7 bs,(c.bm (fz.map (·.1))).E t=c.E t:=fun t ht=>by simp only [Cx.bm];rw [if_neg];intro hh;exact Ge t (K5 t hh) ht
  have Yl:hs.Nodup:=by
   rw [q3];have: ∀l:List Nat,l.Nodup→(l.flatMap fun t=>(c.G t).top).Nodup:=by
    intro l
    induction l with
    |nil=>intro _;simp
    |cons t l ih=>intro hl;rw [List.nodup_cons]at hl;rw [List.flatMap_cons,List.nodup_append];refine⟨(List.nodup_append.1 (h.rel.gw.nodup t)).1,ih hl.2,fun x hx y hy Gu=> ?_⟩;subst Gu;obtain⟨u,hu,Yz⟩:=List.mem_flatMap.1 hy;exact h.rel.gw.cj t u (fun hh=>hl.1 (hh▸hu)) x (by simp [GI.own,hx]) (by simp [GI.own,Yz])
   exact this _ QU
  have Ip: ∀b∈hs,∃t∈C7 bs,b∈(c.G t).top:=fun b hb=>by rw [q3]at hb;exact List.mem_flatMap.1 hb
  have Fs: ∀b∈hs,b∉rf:=fun b hb hr=>by
   obtain⟨t,ht,Cm⟩:=Ip b hb;rcases q2 b hr with hh|⟨u,hu,Hn⟩
   ·exact hh.1 ⟨t,Cm⟩
   ·exact h.rel.gw.cj t u (fun hh=>Ge u hu (hh▸ht)) b (by simp [GI.own,Cm]) (by simp [GI.own,Hn])
  have Ii: ∀b∈hs,b∉lf:=fun b hb hr=>by
   obtain⟨t,ht,Cm⟩:=Ip b hb;rcases qz b hr with(hh|⟨u,hu,Hn⟩)|⟨h1,h2⟩
   ·exact hh.1 ⟨t,Cm⟩
   ·exact h.rel.gw.cj t u (fun hh=>JU u hu (hh▸ht)) b (by simp [GI.own,Cm]) (by simp [GI.own,Hn])
   ·rcases h.rel.gw.allow t b (by simp [GI.own,Cm])with k|k
    ·have:c.w0.heap.size≤b:=k;omega
    ·exact h2 k
  have EJ: ∃(val:SV) (l:List (Nat × Ai)),e={call:=some ⟨.inl g,es⟩,val:=val,bf:=fz++(S9 gs l++after P nv (nx+(fn.resultTypes.toList.flatMap (AW P)).length) bs 0)}∧
    ∀(R:AV) (w':World) (v:Value) (f1 o1:List Nat),JJ P w' fn.resultTypes.toList s.res v R f1 o1→(if HD bs=0 then E.var nv else .proj (.var nv) 0).den c.ρ=R→ ∃recs:List AL,l=recs.map AL.pair∧recs.flatMap AL.top=o1∧(∀r∈recs,nx≤r.tag∧r.tag<nx+(fn.resultTypes.toList.flatMap (AW P)).length∧r.new.isSome)∧(recs.map AL.tag).Nodup∧
     (∀r∈recs,∀hs f,r.bf≠ .gd hs f)∧ ∀c',Eu c c' w' recs→(∀b∈f1,c'.ok b)→SR c' [val] [v]∧ ∀r∈recs,CK c' r.tag r.bf:=by
   have Bt: ∀{l:List (Nat × Ai)} {recs:List AL},l=recs.map AL.pair→(∀t x,(t,x)∈l→ ∀hs f,x≠ .gd hs f)→ ∀r∈recs,∀hs f,r.bf≠ .gd hs f:=by rintro l recs rfl hh r hr;exact hh r.tag r.bf (List.mem_map.2 ⟨r,hr,rfl⟩)
   have fvne: ∀(t:TypeId) (k:Nat) (fl:List Bool) (x:E) (u:Nat) (y:Ai),(u,y)∈(Nn P k t fl x).2→ ∀hs f,y≠ .gd hs f:=by
    intro t k fl x u y hy hs f;unfold Nn at hy;split at hy
    ·exact Nc _ _ _ _ _ hy
    ·simp at hy
   split at he
   ·rename_i t Q9;simp only [Af]at he;subst he;refine⟨_,_,rfl,fun R w' v f1 o1 hr hR=> ?_⟩;rw [Q9]at hr;obtain⟨recs,e1,e2,e3,e4,e5⟩:=lD (c:=c) (nx:=nx) (x:=if HD bs=0 then E.var nv else .proj (.var nv) 0) (show Ef P w' t s.res v R f1 o1 from hr) hR;exact⟨recs,e1,e2,by simpa [Q9]using e3,e4,Bt e1 (fvne _ _ _ _),e5⟩
   ·rename_i Q9;simp only [Af]at he;subst he;refine⟨_,_,rfl,fun R w' v f1 o1 hr hR=> ?_⟩;obtain⟨vs,ys,rfl,rfl,hv⟩: ∃vs ys,v= .tuple vs.toArray∧R= .tup ys∧H4 P w' fn.resultTypes.toList s.res vs ys f1 o1:=by
     unfold JJ at hr;split at hr
     ·rename_i t ht;exact absurd ht (Q9 t)
     ·exact hr
    obtain⟨recs,e1,e2,e3,e4,e5⟩:=zpB (c:=c) (x:=if HD bs=0 then E.var nv else .proj (.var nv) 0) hv nx 0 (fun k y hy=>by show AV.proj ((if HD bs=0 then E.var nv else .proj (.var nv) 0).den c.ρ) (0+k)=y;rw [hR];simp [AV.proj,hy])
    have fvsne: ∀(ts:List TypeId) (k:Nat) (fl:List Bool) (x:E) (i u:Nat) (y:Ai),(u,y)∈(LB P k ts fl x i).2→ ∀hs f,y≠ .gd hs f:=by
     intro ts
     induction ts with
     |nil=>intro k fl x i u y hy;simp [LB]at hy
     |cons t ts ih=>
      intro k fl x i u y hy;simp only [LB,Ah]at hy;rcases hy with hy|hy
      ·exact fvne _ _ _ _ _ _ hy
      ·exact ih _ _ _ _ _ _ hy
    exact⟨recs,e1,e2,e3,e4,Bt e1 (fvsne _ _ _ _ _),fun c' ha AF=>⟨.tup (by rw [Bl.aq];exact(e5 c' ha AF).1) .nil,(e5 c' ha AF).2⟩⟩
  obtain⟨val,l,rfl,MM⟩:=EJ;obtain⟨r,hr,AF⟩:=A3 _ rfl;have ML: ∃s',sg g=some s'∧Qa P s' g ((EL.of es).den c.ρ) r:=by have AF:B6 P sg g ((EL.of es).den c.ρ) r:=AF;unfold B6 at AF;rwa [if_pos hg]at AF
  obtain⟨s',A4,fn',Il,Du,D5,Bv,_,_,E0⟩:=ML;rw [IB]at A4;cases A4;rw [Gi]at Il;cases Il;rw [EL.de]at E0;have A3:=E0 c.w _ rf lf hs q1 Fs Ii Yl (h.rel.ml fun b hb=>by obtain⟨t,_,ht⟩:=Ip b hb;exact⟨t,ht⟩);have ex:(execOp a.eval o).run P c.w= .ok (.enter g (cl.args.map a.eval++capv.toArray)) c.w:=by
   have hb:fn.body.isNone=false:=by simpa using Du
   simp only [execOp,ho,resolve,Ay,Xx,Deferred.ofValue,Sem.run_bind,Sem.run_pure,Result.andThen_ok,invoke,callFunc,run_program,Gi];simp [D5,hb]
  intro next Q hk
  unfold Oper.wp;rw [ex,Oper.upon_enter];have Mi:cl.args.map a.eval++capv.toArray=((cl.args.toList.map a.eval)++capv).toArray:=by apply Array.ext';simp
  rw [Mi];refine A3.mono ?_;rintro e' w' ⟨v,rfl,⟨R,Bs,f1,o1,f2,o2,J9,AP,EG,Gn,QX,QB⟩,Cs⟩;show next (a.put o.dst v) w'
  have tK: ∀k y,Bs[k]?=some y→(E.proj (.var nv) (0+k+1)).den c.ρ=y:=by
   intro k y hy;cases Bs with
   |nil=>simp at hy
   |cons B Bs=>simp only [E.den,hr,Option.getD_some,J9,AV.proj,Nat.zero_add,List.getElem?_cons_succ,hy]
  obtain⟨QQ,recsB,hB⟩:=zvr (w':=w') q4 hK (r:=nv) (nx+(fn.resultTypes.toList.flatMap (AW P)).length) 0 EG tK;have hR:(if HD bs=0 then E.var nv else .proj (.var nv) 0).den c.ρ=R:=by
   cases Bs with
   |nil=>rw [if_pos (by simpa using QQ.symm)];simp only [E.den,hr,Option.getD_some,J9]
   |cons B Bs=>rw [if_neg (by rw [←QQ];simp)];simp [E.den,hr,J9,AV.proj]
  obtain⟨recsV,v1,v2,v3,v4,v5,v6⟩:=MM R w' v f1 o1 AP hR;have Fz: ∀t,nx≤t→t<nx+((fn.resultTypes.toList.flatMap (AW P)).length+Jv P bs)→ ¬c.U t:=fun t h1 h2=>h.new t h1 (by omega);have Qe:=hB.nodup QU fun t h1 h2=>Fz t (by omega) (by omega);have CA:((recsV++recsB).map AL.tag).Nodup:=by
   rw [List.map_append,List.nodup_append];refine⟨v4,Qe,fun t1 h1 t2 h2 he=> ?_⟩;obtain⟨p1,X9,rfl⟩:=List.mem_map.1 h1;obtain⟨p2,Ob,rfl⟩:=List.mem_map.1 h2;have a1:=v3 p1 X9;cases hn:p2.new with
   |none=>exact Fz p1.tag (by omega) (by omega) (he▸(hB.old p2 Ob hn).2)
   |some _=>have:=hB.new p2 Ob (by simp [hn]);omega
  have GQ: ∀r∈recsV++recsB,r.new.isSome=true→nx≤r.tag∧r.tag<nx+((fn.resultTypes.toList.flatMap (AW P)).length+Jv P bs):=fun r hr hn=>by
   rcases Ah.1 hr with hr|hr
   ·have:=v3 r hr;omega
   ·have:=hB.new r hr hn;omega
  have D8:((recsV++recsB).flatMap AL.top).Sublist (o1++o2):=by rw [List.flatMap_append,v2];exact(List.Sublist.refl _).append hB.l4
  have XG: ∀b∈hs,∃r∈recsV++recsB,b∈(c.G r.tag).top:=fun b hb=>by obtain⟨t,ht,Cm⟩:=Ip b hb;obtain⟨r,hr,rfl⟩:=hB.all t ht;exact⟨r,by simp [hr],Cm⟩
  have QH: ∀b∈hs,∃r∈recsV++recsB,b∈((c.bm (fz.map (·.1))).G r.tag).top:=fun b hb=>by obtain⟨t,ht,Cm⟩:=Ip b hb;obtain⟨r,hr,rfl⟩:=hB.all t ht;exact⟨r,by simp [hr],by rw [tN _ ht];exact Cm⟩
  have IE: ∀r∈recsV++recsB,∀b∈r.top,b∈o1++o2:=fun r hr b hb=>D8.subset (List.mem_flatMap.2 ⟨r,hr,hb⟩);have MH: ∀b∈f1++f2,((c.bm (fz.map (·.1))).dj w' (recsV++recsB)).ok b:=by
   cases TL:(CT P fn.resultTypes.toList s.res||Dy P bs)with
   |false=>
    simp only [Bool.or_eq_false_iff]at TL;have EI:Tg P fn.resultTypes.toList s.res R=true∧Hg P (fn.params.toList++s.ft) s.b8 Bs=true:=by
     unfold KB at Bv;cases Mf:Bs with
     |nil=>
      rw [if_neg (by rw [(bD EG).1 Mf];simp)]at Bv;rw [Mf]at J9;rw [J9]at Bv;refine⟨Bv, ?_⟩;have: ∀(ts:List TypeId) (ms:List PM),Hg P ts ms []=true:=by
       intro ts
       induction ts with
       |nil=>intro ms;rfl
       |cons t ts ih=>
        intro ms;unfold Hg;split
        ·exact ih _
        ·exact ih _
        ·exact ih _
        ·split
         ·rename_i hh;cases hh
         ·simpa using ih _
      exact this _ _
     |cons B Bs'=>
      rw [if_pos (by
       cases hh:Bi (fn.params.toList++s.ft) s.b8 with
       |true=>rfl
       |false=>rw [(bD EG).2 hh]at Mf;cases Mf)]at Bv
      rw [J9,Mf]at Bv;simpa using Bv
    have e1:f1= []:=AP.flat TL.1 EI.1;have e2:f2= []:=C8.flat q4 EG TL.2 EI.2;subst e1;subst e2;simp
   |true=>rw [TL]at Iw Gj;simp only [Bool.true_and,Bool.not_eq_true',Bool.not_eq_false]at Iw;simp only [if_true]at Gj;exact zvK (rf:=rf) h.rel.gw Qg rfl rfl rfl h.rel.base.size CA IE XG (fun b hb=>R2 h.rel h.eh h.gs Gj (by simpa using Iw) (q2 b hb)) QB
  have Qz:after P nv (nx+(fn.resultTypes.toList.flatMap (AW P)).length) bs 0=recsB.map fun r=>(r.tag,Cy gs r.bf):=by
   cases Mk:bs with
   |nil=>
    have:=hB.ents;rw [Mk]at this;simp only [after]at this;have:recsB= []:=by simpa using this.symm
    rw [this];rfl
   |cons b bs'=>have Ew:=q6 (by rw [Mk];simp);rw [←Mk,hB.ents,Ew];rfl
  have Bg:S9 gs l++after P nv (nx+(fn.resultTypes.toList.flatMap (AW P)).length) bs 0=(recsV++recsB).map fun r=>(r.tag,Cy gs r.bf):=by rw [Qz,List.map_append];congr 1;rw [v1];simp [S9,AL.pair]
  obtain⟨EK,BF⟩:=CM.changes (w':=w') (recs:=recsV++recsB) (hs:=hs) (gs:=gs) h.gs Cs CA (fun r hr hn=>by have:=GQ r hr hn;exact Fz _ this.1 this.2) QH (D8.nodup Gn) (fun r hr b hb=>QX b (IE r hr b hb))
   (fun r hr=>by
    rcases Ah.1 hr with hr|hr
    ·exact v5 r hr
    ·exact hB.ne r hr)
   (fun _ r hr=>by
    have aft:=Cx.dn (c:=c.bm (fz.map (·.1))) (w':=w') (recs:=recsV++recsB) h.rel.br CA (fun r hr hn=>by have:=GQ r hr hn;exact Fz _ this.1 this.2);have aft':Eu c ((c.bm (fz.map (·.1))).dj w' (recsV++recsB)) w' (recsV++recsB):=⟨aft.ρ,aft.w,aft.G,aft.new,aft.K,aft.old,aft.j0,fun r hr Dp=>(aft.ia r hr Dp).trans (by
     rcases Ah.1 hr with hr|hr
     ·have:=(v3 r hr).2.2;rw [Dp]at this;cases this
     ·rw [fZ _ (hB.old r hr Dp).1])⟩
    rcases Ah.1 hr with hr|hr
    ·exact(v6 _ (aft'.mono fun r hr=>by simp [hr]) fun b hb=>MH b (by simp [hb])).2 r hr
    ·exact hB.ok _ (aft'.mono fun r hr=>by simp [hr]) (fun b hb=>MH b (by simp [hb])) r hr)
  have aft:=Cx.dn (c:=c.bm (fz.map (·.1))) (w':=w') (recs:=recsV++recsB) h.rel.br CA (fun r hr hn=>by have:=GQ r hr hn;exact Fz _ this.1 this.2);have aft':Eu c ((c.bm (fz.map (·.1))).dj w' (recsV++recsB)) w' (recsV++recsB):=⟨aft.ρ,aft.w,aft.G,aft.new,aft.K,aft.old,aft.j0,fun r hr Dp=>(aft.ia r hr Dp).trans (by
     rcases Ah.1 hr with hr|hr
     ·have:=(v3 r hr).2.2;rw [Dp]at this;cases this
     ·rw [fZ _ (hB.old r hr Dp).1])⟩
  have IG:=(v6 _ (aft'.mono fun r hr=>by simp [hr]) fun b hb=>MH b (by simp [hb])).1;rw [←Bg,←Nq]at EK;refine hk _ ((c.bm (fz.map (·.1))).dj w' (recsV++recsB)) ⟨rfl,rfl,rfl,rfl,fun t ht=> ?_⟩ (EK.put (IG.mkGd gs h.gs) o.dst);rcases ht with ht|⟨r,hr,rfl⟩
  ·exact .inl ht
  ·cases hn:r.new with
   |none=>
    rcases Ah.1 hr with hr|hr
    ·have:=(v3 r hr).2.2;rw [hn]at this;cases this
    ·exact .inl (hB.old r hr hn).2
   |some _=>have:=GQ r hr (by simp [hn]);exact .inr ⟨this.1,by simp only [Br];omega⟩
 ·cases he
end
def BY (c:Cx) (us:List Nat):List Nat:=us.flatMap fun t=>(c.G t).top
theorem bK (c:Cx):BY c []= []:=rfl
theorem VO (c:Cx) (u:Nat) (us:List Nat):BY c (u::us)=(c.G u).top++BY c us:=by simp [BY]
theorem IU (c:Cx) (us vs:List Nat):BY c (us++vs)=BY c us++BY c vs:=by simp [BY]
theorem Pr {c:Cx} {us:List Nat} {b:Nat}:b∈BY c us↔ ∃t∈us,b∈(c.G t).top:=by simp [BY]
theorem Vo {c:Cx} (gw:GW c): ∀{l:List Nat},l.Nodup→(BY c l).Nodup
 | [],_=>by simp [BY]
 |t::l,hl=>by
  rw [VO,List.nodup_append];rw [List.nodup_cons]at hl;refine⟨?_,Vo gw hl.2,fun a ha b hb W7=> ?_⟩
  ·have:=gw.nodup t;simp only [GI.own]at this;exact(List.nodup_append.1 this).1
  ·subst W7;obtain⟨u,hu,Hn⟩:=Pr.1 hb;exact gw.cj t u (fun hh=>hl.1 (hh▸hu)) a (by simp [GI.own,ha]) (by simp [GI.own,Hn])
section
variable {P:Program} {c:Cx} {hp:Nat→Option Ai} {gs:Gd}
theorem dI {m:Nat} {u g:Nat} {x y:E} (hx:Be hp gs m (.own u g)=some x) (hy:Ht hp gs u g=some y):x=y:=by
 cases m with
 |zero=>simp [Be]at hx
 |succ m=>simp only [Be,hy,Af]at hx;exact hx.symm
theorem qQ {m:Nat} {x:E} (h:Be hp gs m .emp=some x):x= .lst .nil:=by
 cases m with
 |zero=>simp [Be]at h
 |succ m=>simp [Be]at h;exact h.symm
theorem ztn (eh:EH c hp) (k:A5 c.ρ gs) {d:DT} {s:SV} {us:List Nat} {ck:List Cn} {v:Value} {x:E} {m:Nat} (h:fH hp gs d s=some (us,ck)) (hs:SR c [s] [v]) (hx:Be hp gs m s=some x) (hc: ∀q∈ck,q.den c.ρ):
  DC c.w [d] [v] [x.den c.ρ] (BY c us)∧ ∀u∈us,∃g,c.K u g:=by
 unfold fH at h;split at h
 ·rename_i y;simp only [Af,Prod.mk.injEq]at h;obtain⟨rfl,rfl⟩:=h;rw [JA hx];cases hs with
  |e h1 h2 h3=>
   rename_i f;have Dw:(y.den c.ρ).scalar=true:=by
    cases hl:Rl y with
    |true=>cases y<;>simp [Rl]at hl<;>rfl
    |false=>rw [hl]at hc;exact(BE hc).2.2.2 rfl
   have hf:f= []:=G8 h1 (by simpa using Dw);subst hf;exact⟨.flat h1 .nil,by simp⟩
 ·split at h
  ·rename_i hh;simp only [Af,Prod.mk.injEq]at h;obtain⟨rfl,rfl⟩:=h;rw [Ks hx];cases hs with
   |bu _=>exact⟨.void hh.1 hh.2 .nil,by simp⟩
  ·cases h
 ·split at h
  ·rename_i hh;simp only [Af,Prod.mk.injEq]at h;obtain⟨rfl,rfl⟩:=h;rw [qQ hx];cases hs with
   |emp _=>exact⟨.void hh.1 hh.2 .nil,by simp⟩
  ·cases h
 ·rename_i e z l u g;split at h
  ·rename_i e' z' l' g' ep y hl;split at h
   ·rename_i hh;obtain⟨rfl,rfl,rfl,hb⟩:=hh;simp only [Af,Prod.mk.injEq]at h;obtain⟨rfl,rfl⟩:=h;obtain⟨q1,q2,q3,q4,q5⟩:=eh u _ (CD hl k);rw [dI (y:=y) hx (by simp only [Ht,hl,if_true])];have hb:=AO.of_eq hb;subst hb;rw [AO.cr]at q4;cases hs with
    |own k1 k2 _=>rw [k2]at q4;exact⟨by rw [VO,bK,List.append_nil];exact q4,fun w hw=>by simp at hw;subst hw;exact⟨_,k1⟩⟩
   ·cases h
  ·rename_i e' z' g' y hl;split at h
   ·rename_i hh;obtain⟨rfl,rfl,rfl,hf,hlen⟩:=hh;simp only [Af,Prod.mk.injEq]at h;obtain⟨rfl,rfl⟩:=h;obtain⟨q1,q2,N,q4,q5,q6,q7⟩:=eh u _ (CD hl k);obtain⟨hN,_⟩:=q6 rfl;have hN:N= []:=hN;subst hN;rw [dI (y:=y) hx (by simp only [Ht,hl,if_true])];cases hs with
    |own k1 k2 _=>rw [k2]at q4;exact⟨by rw [VO,bK,List.append_nil];exact DC.kq q4 hf hlen,fun w hw=>by simp at hw;subst hw;exact⟨_,k1⟩⟩
   ·cases h
  ·cases h
 ·cases h
theorem aR (eh:EH c hp) (k:A5 c.ρ gs): ∀(ds:List DT) {ss:List SV} {us:List Nat} {ck:List Cn} {vs:List Value} {xs:EL} {m:Nat},LP hp gs ds ss=some (us,ck)→SR c ss vs→Cc hp gs m ss=some xs→(∀q∈ck,q.den c.ρ)→
  DC c.w ds vs (xs.den c.ρ) (BY c us)∧ ∀u∈us,∃g,c.K u g
 | [], [],us,ck,vs,xs,m,h,hs,hx,hc=>by
  simp [LP]at h;obtain⟨rfl,rfl⟩:=h;cases hs;cases m with
  |zero=>simp [Cc]at hx
  |succ m=>simp [Cc]at hx;subst hx;exact⟨.nil,by simp⟩
 | [],_::_,us,ck,vs,xs,m,h,hs,hx,hc=>by simp [LP]at h
 |_::_, [],us,ck,vs,xs,m,h,hs,hx,hc=>by simp [LP]at h
 |d::ds,s::ss,us,ck, [],xs,m,h,hs,hx,hc=>by have:=hs.len;simp at this
 |d::ds,s::ss,us,ck,v::vs,xs,m,h,hs,hx,hc=>by
  obtain⟨j,y,ys,rfl,hy,CX,rfl⟩:=Jn hx;obtain⟨r1,r2⟩:=hs.bz;unfold LP at h;split at h
  ·rename_i us1 ck1 us2 ck2 h1 h2;simp only [Af,Prod.mk.injEq]at h;obtain⟨rfl,rfl⟩:=h;obtain⟨q1,q2⟩:=ztn eh k h1 r1 hy fun q hq=>hc q (by simp [hq]);obtain⟨q3,q4⟩:=aR eh k ds h2 r2 CX fun q hq=>hc q (by simp [hq]);refine⟨by rw [IU];exact q1.app q3,fun u hu=> ?_⟩;rcases Ah.1 hu with hu|hu
   ·exact q2 u hu
   ·exact q4 u hu
  ·cases h
theorem mB (eh:EH c hp) (k:A5 c.ρ gs) {t:TypeId} {ds:List DT} {s:SV} {us:List Nat} {ck:List Cn} {v:Value} {x:E} (Gf:ds.length=P.cellsOf t) (hg:Ao P t=true∨P.cellsOf t=1) (h:PW P hp gs t ds s=some (x,us,ck)) (hs:SR c [s] [v]) (hc: ∀q∈ck,q.den c.ρ):
  DC c.w ds v.cells.toList (x.den c.ρ).cells (BY c us)∧(∀u∈v.cells.toList,u.oneCell'=true)∧(x.den c.ρ).cells.length=P.cellsOf t∧v.cells.size=P.cellsOf t∧
   (if Ao P t then∃cs,x.den c.ρ= .agg cs else(∀cs,x.den c.ρ≠ .agg cs)∧ ∀cs,x.den c.ρ≠ .tup cs)∧ ∀u∈us,∃g,c.K u g:=by
 unfold PW at h;split at h
 ·cases h
 rename_i y hy;split at h
 ·rename_i EI;simp only [Af,Prod.mk.injEq]at h;obtain⟨rfl,rfl,rfl⟩:=h;obtain⟨f,q1,q2⟩:=G7 eh k AT hy hs AT (Nat.le_refl _);obtain⟨c1,c2,c3,c4⟩:=BE hc;have EJ:if Ao P t then∃cs,y.den c.ρ= .agg cs∧cs.length=P.cellsOf t else(∀cs,y.den c.ρ≠ .agg cs)∧ ∀cs,y.den c.ρ≠ .tup cs:=by
   split
   ·rename_i AA;obtain⟨cs,Bd⟩:=c3 AA;exact⟨cs,Bd,by rw [Bd]at c1;exact c1⟩
   ·rename_i AA;have:=c4 (by simpa using AA);exact⟨fun cs Bd=>by rw [Bd]at this;simp [AV.scalar]at this,fun cs Bd=>by rw [Bd]at this;simp [AV.scalar]at this⟩
  have hf:f= []:=by
   cases gR:Ao P t with
   |true=>obtain⟨cs,Bd⟩:=c3 gR;obtain⟨as_,rfl,_,r⟩:=IZ q1 Bd;exact G8 r (by rw [Bd]at c2;exact c2)
   |false=>exact G8 q1 (by simpa using c4 gR)
  subst hf;obtain⟨o1,o2,o3,o4⟩:=cD (P:=P) q1 hg EJ;refine⟨DC.l8 o1 EI (by rw [Gf];simpa using o4.symm),o2,o3,o4, ?_,by simp⟩;split at EJ
  ·rename_i AA;rw [if_pos AA];obtain⟨cs,Bd,_⟩:=EJ;exact⟨cs,Bd⟩
  ·rename_i AA;rw [if_neg AA];exact EJ
 ·rename_i FA;split at h
  ·cases h
  rename_i AA;have AA:(G5 s).2=Ao P t:=by simpa using AA
  obtain⟨⟨us',ck'⟩,hr,h⟩:=Aq.1 h;simp only [Prod.mk.injEq]at h;obtain⟨rfl,rfl,rfl⟩:=h;have single:Ao P t=false→LP hp gs ds [s]=some (us',ck')→DC c.w ds v.cells.toList (y.den c.ρ).cells (BY c us')∧(∀u∈v.cells.toList,u.oneCell'=true)∧(y.den c.ρ).cells.length=P.cellsOf t∧v.cells.size=P.cellsOf t∧
   (if Ao P t then∃cs,y.den c.ρ= .agg cs else(∀cs,y.den c.ρ≠ .agg cs)∧ ∀cs,y.den c.ρ≠ .tup cs)∧ ∀u∈us',∃g,c.K u g:=by
   intro AA hr;have A7:Cc hp gs (AT+1) [s]=some (.cons y .nil):=by unfold Cc;rw [hy];rfl
   obtain⟨q1,q2⟩:=aR eh k ds hr hs A7 hc;have gO:=q1.len;simp only [EL.den,Am,List.length_nil]at gO
   match ds,gO,q1,FA,Gf with
   | [d],_,q1,FA,Gf=>
    cases d with
    |flat=>simp [DT.bp]at FA
    |row e z l=>
     obtain⟨p,q,r,rfl⟩:=q1.head;obtain⟨xs,Ck⟩: ∃xs,y.den c.ρ= .sl xs:=by
      obtain⟨_,_,⟨_,_,hx,_⟩|⟨_,_,_,_,_,_,hx,_⟩⟩:=q1.inv
      ·exact⟨_,hx⟩
      ·exact⟨_,hx⟩
     rw [if_neg (by rw [AA];simp)];refine⟨?_,by simp [Value.cells,Value.oneCell'],by rw [Ck,←Gf];rfl,by rw [←Gf];rfl, ?_,q2⟩
     ·simp only [EL.den]at q1;rw [Ck]at q1 ⊢;exact q1
     ·rw [Ck];exact⟨fun cs hh=>(by cases hh),fun cs hh=>(by cases hh)⟩
  cases s with
  |agg cs=>
   simp only [G5]at AA hr;obtain⟨m,l,hm,hl,rfl⟩:=Sk hy;cases hs with
   |agg h9 h1 h8=>rename_i as_;obtain⟨q1,q2⟩:=aR eh k ds hr h1 hl hc;obtain⟨l1,l2⟩:=q1.len;rw [if_pos AA.symm];exact⟨by simpa [Value.cells,AV.cells,E.den]using q1,by simpa [Value.cells]using h9,by simp only [E.den,AV.cells];omega,by simp [Value.cells];omega,⟨_,rfl⟩,q2⟩
  |_=>exact single AA.symm hr
theorem lA (eh:EH c hp) (k:A5 c.ρ gs) {t:TypeId} {ds:List DT} (Gf:ds.length=P.cellsOf t) (hg:Ao P t=true∨P.cellsOf t=1): ∀(ss:List SV) (vs:List Value) {xs:List E} {us:List Nat} {ck:List Cn},SR c ss vs→Sl P hp gs t ds ss=some (xs,us,ck)→(∀q∈ck,q.den c.ρ)→
  DC c.w (CL vs.length ds) (vs.flatMap fun v=>v.cells.toList) (AE (xs.map (E.den c.ρ))) (BY c us)∧(∀v∈vs,v.cells.size=P.cellsOf t∧ ∀u∈v.cells.toList,u.oneCell'=true)∧(∀x∈xs,(x.den c.ρ).cells.length=P.cellsOf t)∧xs.length=vs.length∧ ∀u∈us,∃g,c.K u g
 | [],vs,xs,us,ck,hr,ht,hc=>by simp [Sl]at ht;obtain⟨rfl,rfl,rfl⟩:=ht;cases hr;exact⟨by simpa [AE,CL,BY]using DC.nil,by simp,by simp,rfl,by simp⟩
 |s::ss, [],xs,us,ck,hr,ht,hc=>by have:=hr.len;simp at this
 |s::ss,v::vs,xs,us,ck,hr,ht,hc=>by
  obtain⟨r1,r2⟩:=hr.bz;unfold Sl at ht;split at ht
  ·rename_i x us1 ck1 xs2 us2 ck2 h1 h2;simp only [Af,Prod.mk.injEq]at ht;obtain⟨rfl,rfl,rfl⟩:=ht;obtain⟨q1,q2,q3,q4,q5,q6⟩:=mB eh k Gf hg h1 r1 (fun q hq=>hc q (by simp [hq]));obtain⟨p1,p2,p3,p4,p5⟩:=lA eh k Gf hg ss vs r2 h2 (fun q hq=>hc q (by simp [hq]));refine⟨?_, ?_, ?_,by simp [p4], ?_⟩
   ·have:=q1.app p1;rw [Am,Nj,IU];simpa [AE]using this
   ·intro u hu;rcases Ae.1 hu with rfl|hu
    ·exact⟨q4,q2⟩
    ·exact p2 u hu
   ·intro u hu;rcases Ae.1 hu with rfl|hu
    ·exact q3
    ·exact p3 u hu
   ·intro u hu;rcases Ah.1 hu with hu|hu
    ·exact q6 u hu
    ·exact p5 u hu
  ·cases ht
theorem mT (eh:EH c hp) (k:A5 c.ρ gs) {e z:Nat} {l:List DT} {s:SV} {us:List Nat} {v:Value} {y:E} {m:Nat} (h:SY hp gs e z l s=some us) (hs:SR c [s] [v]) (hy:Be hp gs m s=some y):
  ∃ys q r news N,y.den c.ρ= .sl ys∧v= .slice q ys.length r∧Src c.w z q ys.length news∧DC c.w (CL ys.length l) news (AE ys) N∧N.Sublist (BY c us)∧(∀y∈ys,y.cells.length=z)∧(∀u∈news,u.oneCell'=true)∧ ∀u∈us,∃g,c.K u g:=by
 have empt: ∀q,v= .slice q 0 0→y= .lst .nil→us= []→ ∃ys q r news N,y.den c.ρ= .sl ys∧v= .slice q ys.length r∧Src c.w z q ys.length news∧DC c.w (CL ys.length l) news (AE ys) N∧N.Sublist (BY c us)∧(∀y∈ys,y.cells.length=z)∧(∀u∈news,u.oneCell'=true)∧ ∀u∈us,∃g,c.K u g:=by
  rintro q rfl rfl rfl;refine⟨[],q,0, [], [],rfl,rfl, ?_,by simpa [CL,AE]using DC.nil,by simp,by simp,by simp,by simp⟩;cases q with
  |none=>exact .inl ⟨rfl,rfl,rfl⟩
  |some p=>exact .inr ⟨p,rfl,by simp,by simp,by simp⟩
 unfold SY at h;split at h
 ·simp only [Af]at h;cases hs with
  |bu _=>exact empt _ rfl (Ks hy) h.symm
 ·simp only [Af]at h;cases hs with
  |emp _=>exact empt _ rfl (qQ hy) h.symm
 ·rename_i u g;split at h
  ·rename_i e' z' l' g' ep x hl;split at h
   ·rename_i hh;obtain⟨rfl,rfl,rfl,hb⟩:=hh;simp only [Af]at h;subst h;have hb:=AO.gy hb;subst hb;obtain⟨q1,q2,q3,q4,q5⟩:=eh u _ (CD hl k);have Gv:=dI (y:=x) hy (by simp only [Ht,hl,if_true]);subst Gv;cases hs with
    |own k1 k2 k3=>
     rename_i p0 n0 r0;rw [k2]at q4;have hK: ∀w∈ [u],∃g,c.K w g:=fun w hw=>by simp at hw;subst hw;exact⟨_,k1⟩
     obtain⟨d1,d2,⟨a9,d3,d4,d5⟩|⟨g9,cap,C,ys,N1,d3,d4,d5,d6,d7,d8,d9,d10,d11,d12⟩⟩:=q4.inv
     ·cases d3;refine⟨[],_,0, [], [],d4,rfl, ?_,by simpa [CL,AE]using DC.nil,by simp,by simp,by simp,hK⟩;cases p0 with
      |none=>exact .inl ⟨rfl,rfl,rfl⟩
      |some p=>exact .inr ⟨p,rfl,by simp,by simp,by simp⟩
     ·cases d3;rw [AO.aq]at d12;have Dt:C.toList.length=r0*z:=by simpa using d9
      refine⟨ys,_,r0,_,N1,d4,rfl, .inr ⟨_,rfl, ?_,fun j w hw=> ?_,d11⟩,d12, ?_,d10,d11,hK⟩
      ·rw [List.length_take,Dt];exact Nat.min_eq_left (Nat.mul_le_mul_right _ d7)
      ·rw [Addr.add_lit,Nat.zero_add,Ec d6];rw [List.getElem?_take]at hw;split at hw
       ·simpa using hw
       ·cases hw
      ·rw [VO,bK,List.append_nil,d5];exact List.sublist_cons_self _ _
   ·cases h
  ·cases h
 ·cases h
end
def Fl (T:List Nat):List AL:=T.map fun u=>⟨u,none, [], .dead⟩
theorem zwQ (T:List Nat):(Fl T).flatMap AL.top= []:=by induction T<;>simp_all [Fl]
theorem zxH (T:List Nat):(Fl T).map AL.tag=T:=by induction T<;>simp_all [Fl]
theorem zuU (T:List Nat):((Fl T).map fun r=>(r.tag,Cy [] r.bf))=EE T:=by simp [Fl,EE,Cy]
theorem R9 {T:List Nat} {r:AL} (h:r∈Fl T):r.tag∈T∧r.new=none∧r.top= []∧r.bf= .dead:=by obtain⟨u,hu,rfl⟩:=List.mem_map.1 h;exact⟨hu,rfl,rfl,rfl⟩
section
variable {P:Program} {c:Cx} {n nx:Nat} {sl sl0:Nat→SV} {hp hp0:Nat→Option Ai} {a:Act} {o:Oper} {gs:Gd} {e:AY} {sg:BC} {nv:Nat}
theorem Rel.kt (h:Rel c n sl hp a) {T:List Nat} (hT:T.Nodup) (FL: ∀u∈T,c.U u) {r0:AL} (GU:r0.tag∉T) (GV:r0.new.isSome=true→ ¬c.U r0.tag) (C6:r0.new=none→c.U r0.tag) {w':World} {hs:List Nat} (Gl: ∀b∈hs,b∈(c.G r0.tag).top∨b∈BY c T) (hm:Mod hs c.w w')
  (BW:r0.top.Nodup) (B1: ∀b∈r0.top,(b∈hs∨c.w.heap.size≤b)∧b<w'.heap.size) (Bt: ∀q f,r0.bf≠ .gd q f)
  (he:Di c (c.dj w' (r0::Fl T))→Eu c (c.dj w' (r0::Fl T)) w' (r0::Fl T)→CK (c.dj w' (r0::Fl T)) r0.tag r0.bf):
  Rel (c.dj w' (r0::Fl T)) n sl (A2 hp ((r0.tag,r0.bf)::EE T)) a∧Di c (c.dj w' (r0::Fl T))∧Eu c (c.dj w' (r0::Fl T)) w' (r0::Fl T)∧ ∀t,(c.dj w' (r0::Fl T)).U t→c.U t∨t=r0.tag:=by
 have hn:((r0::Fl T).map AL.tag).Nodup:=by rw [List.map_cons,zxH];exact List.nodup_cons.2 ⟨GU,hT⟩
 have A0: ∀r∈r0::Fl T,r.new.isSome=true→ ¬c.U r.tag:=fun r hr hs=>by
  rcases Ae.1 hr with rfl|hr
  ·exact GV hs
  ·rw [(R9 hr).2.1]at hs;cases hs
 have aft:=Cx.dn (w':=w') h.br hn A0;obtain⟨q1,q2⟩:=h.changes (gs:= []) (Em _) hm hn A0 (fun b hb=>by
   rcases Gl b hb with hb|hb
   ·exact⟨r0,by simp,hb⟩
   ·obtain⟨t,ht,Cm⟩:=Pr.1 hb;exact⟨⟨t,none, [], .dead⟩,List.mem_cons_of_mem _ (List.mem_map.2 ⟨t,ht,rfl⟩),Cm⟩)
  (by rw [List.flatMap_cons,zwQ,List.append_nil];exact BW)
  (fun r hr b hb=>by
   rcases Ae.1 hr with rfl|hr
   ·exact B1 b hb
   ·rw [(R9 hr).2.2.1]at hb;cases hb)
  (fun r hr=>by
   rcases Ae.1 hr with rfl|hr
   ·exact Bt
   ·rw [(R9 hr).2.2.2];intros;simp)
  (fun hk r hr=>by
   rcases Ae.1 hr with rfl|hr
   ·exact he hk aft
   ·have kg:=aft.G r (List.mem_cons_of_mem _ hr);obtain⟨_,_,e1,e2⟩:=R9 hr;rw [e2];exact⟨by rw [kg,e1],by rw [kg]⟩)
 refine⟨?_,q2,aft,fun t ht=> ?_⟩
 ·rw [List.map_cons,zuU]at q1;have:Cy [] r0.bf=r0.bf:=rfl;rw [this]at q1;exact q1
 ·rcases ht with ht|⟨r,hr,rfl⟩
  ·exact .inl ht
  ·rcases Ae.1 hr with rfl|hr
   ·exact .inr rfl
   ·exact .inl (FL _ (R9 hr).1)
theorem Az.fw (h:Bf P c n nx sl hp a sl0 hp0 o []) {T:List Nat} (hT:T.Nodup) (FL: ∀u∈T,∃g,c.K u g) {v':Value} {w':World} {ck:List Cn} {e z:Nat} {l:List DT} {x:E} {top:List Nat} (hr:(execOp a.eval o).run P c.w= .ok (.value v') w') (hm:Mod (BY c T) c.w w')
  (BW:top.Nodup) (B1: ∀b∈top,(b∈BY c T∨c.w.heap.size≤b)∧b<w'.heap.size) (hd:DC w' [.row e z (AO.of l)] [v'] [x.den c.ρ] top):
  Az P o c n nx sl hp [] a {bw:=ck,val:= .own nx 0,bf:=(nx, .deep e z l 0 0 x)::EE T}:=by
 intro next Q hk
 unfold Oper.wp;rw [hr,Oper.upon_value];have hU:=Nr h;have JS: ∀u∈T,c.U u:=fun u hu=>by obtain⟨g,hg⟩:=FL u hu;exact h.rel.br _ _ hg
 obtain⟨q1,q2,q3,q4⟩:=h.rel.kt (r0:=⟨nx,some v',top, .deep e z l 0 0 x⟩) hT JS (fun hh=>hU (JS _ hh)) (fun _=>hU) (fun hh=>by cases hh) (fun b hb=> .inr hb) hm BW B1 (by intros;simp) (fun _ aft=>by obtain⟨k1,k2,k3⟩:=aft.new _ (List.mem_cons_self ..) v' rfl;have kg:=aft.G _ (List.mem_cons_self ..);have ke:=aft.j0 _ (List.mem_cons_self ..) rfl;simp only at k1 k2 k3 kg ke;exact⟨k1,k2,ke,by rw [k3,kg,aft.w,aft.ρ];exact hd,by rw [kg]⟩)
 obtain⟨k1,k2,k3⟩:=q3.new _ (List.mem_cons_self ..) v' rfl;simp only at k1 k3;obtain⟨p,m,r,rfl⟩:=hd.head;refine hk _ (c.dj w' _) ⟨rfl,rfl,rfl,rfl,fun t ht=> ?_⟩ (q1.put (SR.own k1 k3 .nil) o.dst);rcases q4 t ht with ht|rfl
 ·exact .inl ht
 ·exact .inr ⟨Nat.le_refl _,by simp [Br]⟩
theorem Az.kd (h:Bf P c n nx sl hp a sl0 hp0 o []) {T:List Nat} (hT:T.Nodup) (FL: ∀u∈T,∃g,c.K u g) {b g ep:Nat} (hb:b∉T) (hK:c.K b g) (DL: ∀g',c.K b g'→g'≤g) (hE:c.E b=ep) {w':World} {ck:List Cn} {e z:Nat} {l:List DT} {x:E} {top:List Nat} (hr:(execOp a.eval o).run P c.w= .ok .skip w') {hs:List Nat} (Gl: ∀q∈hs,q∈(c.G b).top∨q∈BY c T) (hm:Mod hs c.w w')
  (BW:top.Nodup) (B1: ∀q∈top,(q∈hs∨c.w.heap.size≤q)∧q<w'.heap.size) (hd:DC w' [.row e z (AO.of l)] [c.H b g] [x.den c.ρ] top):
  Az P o c n nx sl hp [] a {bw:=ck,bf:=(b, .deep e z l g (ep+1) x)::EE T}:=by
 intro next Q hk
 unfold Oper.wp;rw [hr,Oper.upon_skip];have JS: ∀u∈T,c.U u:=fun u hu=>by obtain⟨g,hg⟩:=FL u hu;exact h.rel.br _ _ hg
 have Xa:=h.rel.br _ _ hK;obtain⟨q1,q2,q3,q4⟩:=h.rel.kt (r0:=⟨b,none,top, .deep e z l g (ep+1) x⟩) hT JS hb (fun hh=>by cases hh) (fun _=>Xa) Gl hm BW B1 (by intros;simp) (fun _ aft=>by have kg:=aft.G _ (List.mem_cons_self ..);have ke:=aft.ia _ (List.mem_cons_self ..) rfl;obtain⟨k1,k2⟩:=aft.K b g hK;simp only at kg ke;exact⟨k1,fun g' Cj=>DL g' (aft.old b Xa g' Cj),by rw [ke,hE],by rw [k2,kg,aft.w,aft.ρ];exact hd,by rw [kg]⟩)
 refine hk _ (c.dj w' _) ⟨rfl,rfl,rfl,rfl,fun t ht=> ?_⟩ (q1.put ((SR.undef .nil).mkGd []) o.dst);rcases q4 t ht with ht|rfl
 ·exact .inl ht
 ·exact .inl Xa
theorem o0 {w w':World} {row:Option Nat} {S:List Nat} (h:w.grownBy w' row) (hr: ∀g,row=some g→g∈S∨w.heap.size≤g):Mod S w w':=by
 refine⟨h.os,h.tape,h.output,h.size,fun b hb hn=>h.block b hb fun hh=> ?_⟩;rcases hr b hh.symm with h1|h1
 ·exact hn h1
 ·omega
theorem aA (h:Bf P c n nx sl hp a sl0 hp0 o []) {x y:Operand} {tx:TypeId} {cl:Call} (ho:o.op= .call cl) (Ay:cl.callee= .builtin .append) (CQ:cl.args.toList= [x,y]) (DV:cl.argTypes.toList= [tx,tx])
  {el:TypeId} (A7:P.underlying tx=some (.slice el)) (hz:HB P el=true) {l:List DT} (hl:l.length=P.cellsOf el) {T us:List Nat} (hT:(T++us).Nodup) (FL: ∀u∈T,∃g,c.K u g) {s2:SV} {ye:E} (AU:Bx sl0 [] y=some s2) (hy:Be hp0 [] AT s2=some ye) (BX:SY hp0 [] el (P.cellsOf el) l s2=some us)
  {c0:E} {v:Value} (hv:a.eval x=v) {N:List Nat} (Bm:DC c.w [.row el (P.cellsOf el) (AO.of l)] [v] [c0.den c.ρ] N) (hN:N=BY c T) {ck:List Cn} (Cg:Cn.den c.ρ (.room c0 ye (P.bytesOf el))):
  Az P o c n nx sl hp [] a {bw:=ck,val:= .own nx 0,bf:=(nx, .deep el (P.cellsOf el) l 0 0 (.app c0 ye))::EE (T++us)}:=by
 have As:cl.args= #[x,y]:=by apply Array.ext';simp [CQ]
 have Gt:cl.argTypes= #[tx,tx]:=by apply Array.ext';simp [DV]
 have Dn:y∈o.op.operands:=by simp [ho,Op.operands,Call.operands,Ay,As]
 obtain⟨i,z,hi,Ft,Dr,BJ,Ci,FM⟩:=Kq hz;obtain⟨ys,q,r,news,N2,CX,CW,E5,Xp,BA,MR,X2,Yq⟩:=mT h.eh h.gs BX (h.cu AU Dn) hy;have CA:=Vo h.rel.gw hT;rw [IU]at CA;have D0: ∀b∈BY c (T++us),b<c.w.heap.size:=fun b hb=>by obtain⟨t,_,Cm⟩:=Pr.1 hb;exact h.rel.gw.inb t b (by simp [GI.own,Cm])
 obtain⟨mm,kk,GV,C6,QZ,Yf⟩:=Cg;obtain⟨d1,d2,A6⟩:=Bm.inv;rw [AO.aq]at d2 A6;have hU: ∀u∈T++us,∃g,c.K u g:=fun u hu=>by
  rcases Ah.1 hu with hu|hu
  ·exact FL u hu
  ·exact Yq u hu
 obtain⟨xs,old,N1,Ck,hold,GY,uK,Hq,CB,Tm,WU⟩: ∃(xs:List AV) (old:List Value) (N1:List Nat),c0.den c.ρ= .sl xs∧old.length=xs.length*i.size∧((xs.length=0∧ ∃q,v= .slice q 0 0)∨ ∃g cap C,v= .slice (some ⟨g,0,none⟩) xs.length cap∧xs.length≤cap∧cap≤maxLen∧c.w.heap[g]?=some (.cells C el (0,0))∧C.size=cap*i.size∧old=C.toList.take (xs.length*i.size)∧(g∈BY c T∧g∉N1))∧
   DC c.w (CL xs.length l) old (AE xs) N1∧(∀y∈xs,y.cells.length=P.cellsOf el)∧(∀u∈old,u.oneCell'=true)∧(∀b∈N1,b∈BY c T)∧N1.Nodup:=by
  rcases A6 with⟨p,rfl,Jh,rfl⟩|⟨g9,cap,C,xs,N1,rfl,Jh,rfl,h6,h7,h8,h9,Ga,Fo,tI⟩
  ·exact⟨[], [], [],Jh,by simp, .inl ⟨rfl,p,rfl⟩,by simpa [CL,AE]using DC.nil,by simp,by simp,by simp,by simp⟩
  ·have BW:(g9::N1).Nodup:=by rw [hN];exact(List.nodup_append.1 CA).1
   rw [List.nodup_cons]at BW;refine⟨xs,_,N1,Jh, ?_, .inr ⟨g9,cap,C,rfl,h7,h8,h6,by rw [←Ci];exact h9,rfl,by rw [←hN];simp,BW.1⟩,by rw [←Ci];exact tI,Ga,by rw [←Ci];exact Fo,fun b hb=>by rw [←hN];simp [hb],BW.2⟩;have e9:C.toList.length=cap*i.size:=by rw [←Ci,←h9];simp
   rw [List.length_take,e9];exact Nat.min_eq_left (Nat.mul_le_mul_right _ h7)
 rw [Ck]at GV;rw [CX]at C6;simp only [AV.len,AV.int.injEq,true_and]at GV C6;have Hl:(xs.length+ys.length)*i.bytes≤140737488355328:=by
  rw [←GV,←C6,FM]at QZ;have h9:(((xs.length+ys.length)*i.bytes:Nat):Int)≤140737488355328:=by rw [Int.natCast_mul,Int.natCast_add];exact QZ
  omega
 have Ig:xs.length+ys.length≤140737488355328:=by rw [←GV,←C6]at Yf;omega
 rw [Ci]at E5;obtain⟨v',w',AQ,AP⟩:=eG (P:=P) c.w tx o.type el i z A7 hi Ft Dr BJ (fun g9=>g9∈BY c T∧g9∉N1) v xs.length old hold GY q ys.length r news E5 (by simp only [maxLen];omega) Hl;have EO:(execOp a.eval o).run P c.w= .ok (.value v') w':=by simp [execOp,ho,resolve,Ay,As,Gt,invoke,builtin,hv,CW,AQ]
 have Qj: ∀b∈N2,b∈BY c us:=fun b hb=>BA.subset hb;have WV:N2.Nodup:=BA.nodup (List.nodup_append.1 CA).2.1;have Qn:(E.app c0 ye).den c.ρ= .sl (xs++ys):=by simp only [E.den,Ck,CX,AV.app]
 rcases AP with⟨rfl,rfl,DJ⟩|⟨g9,cap,C,rfl,h1,h2,h3,h4,h5,h6,h7⟩
 ·have HT:ys= []:=List.eq_nil_of_length_eq_zero DJ;subst HT;refine Az.fw h hT hU EO (Mod.refl _ _) (top:=N) (by rw [hN];exact(List.nodup_append.1 CA).1) (fun b hb=>⟨.inl (by rw [IU,←hN];simp [hb]),D0 b (by rw [IU,←hN];simp [hb])⟩) ?_;rw [Qn,List.append_nil,←Ck];exact Bm
 ·have NY:(g9∈BY c T∨c.w.heap.size≤g9)∧g9∉N1∧g9∉N2:=by
   rcases h7 with⟨rfl,_⟩|⟨hg,Cj⟩
   ·refine⟨.inr (Nat.le_refl _),fun hh=> ?_,fun hh=> ?_⟩
    ·have:=D0 _ (by rw [IU];exact Ah.2 (.inl (Tm _ hh)));omega
    ·have:=D0 _ (by rw [IU];exact Ah.2 (.inr (Qj _ hh)));omega
   ·exact⟨.inl hg,Cj,fun hh=>(List.nodup_append.1 CA).2.2 _ hg _ (Qj _ hh) rfl⟩
  have A1: ∀b∈N1++N2,w'.heap[b]?=c.w.heap[b]?:=fun b hb=>by
   have Ax:b<c.w.heap.size:=D0 b (by
    rw [IU];rcases Ah.1 hb with hb|hb
    ·exact Ah.2 (.inl (Tm b hb))
    ·exact Ah.2 (.inr (Qj b hb)))
   refine h6.block b Ax fun hh=> ?_;cases hh;rcases Ah.1 hb with hb|hb
   ·exact NY.2.1 hb
   ·exact NY.2.2 hb
  refine Az.fw h hT hU EO (o0 h6 fun g hg=> ?_) (top:=g9::(N1++N2)) ?_ (fun b hb=> ?_) ?_
  ·cases hg;rcases NY.1 with hh|hh
   ·exact .inl (by rw [IU];exact Ah.2 (.inl hh))
   ·exact .inr hh
  ·refine List.nodup_cons.2 ⟨fun hh=> ?_,List.nodup_append.2 ⟨WU,WV,fun p hp q hq=> ?_⟩⟩
   ·rcases Ah.1 hh with hh|hh
    ·exact NY.2.1 hh
    ·exact NY.2.2 hh
   ·exact(List.nodup_append.1 CA).2.2 p (Tm p hp) q (Qj q hq)
  ·rcases Ae.1 hb with rfl|hb
   ·refine⟨?_,El h3⟩;rcases NY.1 with hh|hh
    ·exact .inl (by rw [IU];exact Ah.2 (.inl hh))
    ·exact .inr hh
   ·have gM:b∈BY c (T++us):=by
     rw [IU];rcases Ah.1 hb with hb|hb
     ·exact Ah.2 (.inl (Tm b hb))
     ·exact Ah.2 (.inr (Qj b hb))
    exact⟨.inl gM,Nat.lt_of_lt_of_le (D0 b gM) h6.size⟩
  ·rw [Qn];have hlen:(xs++ys).length=xs.length+ys.length:=Ak;rw [Ci]at d1 d2 Hq MR ⊢;have:=DC.row (w:=w') (e:=el) (z:=i.size) (l:=AO.of l) (g:=g9) (cap:=cap) (C:=C) (ys:=xs++ys) (N1:=N1++N2) (ts:= []) (vs:= []) (xs:= []) (N:= []) d1 (by rw [AO.aq];exact d2) h3 (by rw [hlen];exact h1) h2 h4 (fun w hw=> ?_) (by
     rw [hlen,h5];intro u hu;rcases Ah.1 hu with hu|hu
     ·exact CB u hu
     ·exact X2 u hu) (by
     rw [hlen,h5,aE,zyX,AO.aq];exact(uK.app Xp).frame A1) .nil
   ·rw [hlen]at this;simpa using this
   ·rcases Ah.1 hw with hw|hw
    ·exact Hq w hw
    ·exact MR w hw
end
section
variable {P:Program} {c:Cx} {n nx:Nat} {sl sl0:Nat→SV} {hp hp0:Nat→Option Ai} {a:Act} {o:Oper} {gs:Gd} {e:AY} {sg:BC} {nv:Nat}
theorem zvm {l:List Nat} (h:KR l=true):l.Nodup:=Pt h
theorem zoM (h:Bf P c n nx sl hp a sl0 hp0 o gs) {x y:Operand} {tx ty:TypeId} {cl:Call} (ho:o.op= .call cl) (Ay:cl.callee= .builtin .append) (CQ:cl.args.toList= [x,y]) (DV:cl.argTypes.toList= [tx,ty])
  {s1 s2:SV} (Bu:Bx sl0 gs x=some s1) (AU:Bx sl0 gs y=some s2) (he:VD P hp0 gs nx tx ty s1 s2=some e) (hc: ∀q∈e.bw,Cn.den c.ρ q):Az P o c n nx sl hp gs a e:=by
 have As:cl.args= #[x,y]:=by apply Array.ext';simp [CQ]
 have DK:x∈o.op.operands:=by simp [ho,Op.operands,Call.operands,Ay,As]
 have Dn:y∈o.op.operands:=by simp [ho,Op.operands,Call.operands,Ay,As]
 unfold VD at he;split at he
 ·cases he
 rename_i MN;have MN:tx=ty:=by simpa using MN
 subst MN;split at he
 ·rename_i el e' z dl A7 Dl;have Mq:=Jm A7;split at he
  ·cases he
  rename_i AI;simp only [not_or,Bool.not_eq_true',Bool.not_eq_false,Bool.not_eq_true,ne_eq,Decidable.not_not]at AI;obtain⟨hz,FA,rfl,rfl⟩:=AI;obtain⟨_,_,l,Lb,DI⟩:=Wf A7 Dl;simp only [DT.row.injEq,true_and]at Lb;subst Lb;rw [AO.aq]at he;have r1:=h.cu Bu DK;split at he
  ·rename_i ye us hy BX;have hU: ∀u∈us,∃g,c.K u g:=(mT h.eh h.gs BX (h.cu AU Dn) hy).choose_spec.choose_spec.choose_spec.choose_spec.choose_spec.2.2.2.2.2.2.2;have MP:us.Nodup:=by
    unfold SY at BX;split at BX
    ·simp only [Af]at BX;subst BX;simp
    ·simp only [Af]at BX;subst BX;simp
    ·split at BX
     ·split at BX
      ·simp only [Af]at BX;subst BX;simp
      ·cases BX
     ·cases BX
    ·cases BX
   have TQ:0<P.cellsOf e':=by obtain⟨i,_,_,_,_,h1,h2,_⟩:=Kq hz;omega
   split at he
   ·rename_i t g;split at he
    ·rename_i e2 z2 l2 g2 ep c0 hl;split at he
     ·rename_i hh;obtain⟨rfl,rfl,hb,rfl,Ez⟩:=hh;have hb:=AO.gy hb;subst hb;simp only [Af]at he;subst he;obtain⟨q1,q2,q3,q4,q5⟩:=h.eh t _ (CD hl h.gs);generalize hv:a.eval x=v at r1;cases r1 with
      |own k1 k2 _=>rw [k2]at q4;simp only [Bool.not_eq_true',List.contains_eq_mem,decide_eq_false_iff_not]at Ez;exact aA h ho Ay CQ DV Mq hz DI (T:= [t]) (by simpa using List.nodup_cons.2 ⟨Ez,MP⟩) (fun u hu=>by simp at hu;subst hu;exact⟨_,k1⟩) AU hy BX hv q4 (by simp [BY]) (hc _ (by simp))
     ·cases he
    ·cases he
   ·simp only [Af]at he;subst he;generalize hv:a.eval x=v at r1;cases r1 with
    |emp _=>exact aA h ho Ay CQ DV Mq hz DI (T:= []) (by simpa using MP) (by simp) AU hy BX hv (c0:= .lst .nil) (.void TQ (by rw [AO.aq];exact DI) .nil) rfl (hc _ (by simp))
   ·simp only [Af]at he;subst he;generalize hv:a.eval x=v at r1;cases r1 with
    |bu _=>exact aA h ho Ay CQ DV Mq hz DI (T:= []) (by simpa using MP) (by simp) AU hy BX hv (c0:= .lst .nil) (.void TQ (by rw [AO.aq];exact DI) .nil) rfl (hc _ (by simp))
   ·cases he
  ·cases he
 ·cases he
theorem Az.fm (h:Bf P c n nx sl hp a sl0 hp0 o []) {T:List Nat} (hT:T.Nodup) (FL: ∀u∈T,∃g,c.K u g) {ck:List Cn} {el z:Nat} {l:List DT} (hz:0<z) (hl:l.length=z) {x:E} {xs:List AV} {C:Array Value} {cap:Nat} (hx:x.den c.ρ= .sl xs) (Ay: ∀y∈xs,y.cells.length=z) (hle:xs.length≤cap) (Ih:cap≤maxLen) (hC:C.size=cap*z)
  (h1: ∀u∈C.toList.take (xs.length*z),u.oneCell'=true) (hD:DC c.w (CL xs.length l) (C.toList.take (xs.length*z)) (AE xs) (BY c T))
  (hr:(execOp a.eval o).run P c.w= .ok (.value (.slice (some ⟨c.w.heap.size,0,none⟩) xs.length cap)) (c.w.alloc (.cells C el))):
  Az P o c n nx sl hp [] a {bw:=ck,val:= .own nx 0,bf:=(nx, .deep el z l 0 0 x)::EE T}:=by
 have D0: ∀b∈BY c T,b<c.w.heap.size:=fun b hb=>by obtain⟨t,_,Cm⟩:=Pr.1 hb;exact h.rel.gw.inb t b (by simp [GI.own,Cm])
 have A0:(c.w.alloc (.cells C el)).heap[c.w.heap.size]?=some (.cells C el (0,0)):=heap_alloc_new c.w _;have XA:c.w.grownBy (c.w.alloc (.cells C el)) (some c.w.heap.size):=⟨rfl,rfl,rfl,by simp,fun j hj _=>Below.heap_alloc c.w _ _ hj⟩
 refine Az.fw h hT FL hr (o0 XA fun g hg=> .inr (by cases hg;exact Nat.le_refl _)) (top:=c.w.heap.size::BY c T) ?_ (fun b hb=> ?_) ?_
 ·exact List.nodup_cons.2 ⟨fun hh=>by have:=D0 _ hh;omega,Vo h.rel.gw hT⟩
 ·rcases Ae.1 hb with rfl|hb
  ·exact⟨.inr (Nat.le_refl _),by simp⟩
  ·exact⟨.inl hb,Nat.lt_of_lt_of_le (D0 b hb) (by simp)⟩
 ·rw [hx];have:=DC.row (w:=c.w.alloc (.cells C el)) (e:=el) (z:=z) (l:=AO.of l) (g:=c.w.heap.size) (cap:=cap) (C:=C) (ys:=xs) (N1:=BY c T) (ts:= []) (vs:= []) (xs:= []) (N:= []) hz (by rw [AO.aq];exact hl) A0 hle Ih hC Ay h1 (by
   rw [AO.aq];exact hD.frame fun b hb=>Below.heap_alloc c.w _ _ (D0 b hb)) .nil
  simpa using this
theorem zpb (h:Bf P c n nx sl hp a sl0 hp0 o gs) {t:TypeId} {m:Nat} {parts:Array (Nat × Operand)} (ho:o.op= .buildSlice t m parts) {ps:List (Nat × SV)} (Lg:parts.toList.mapM (fun(p:Nat × Operand)=>(Bx sl0 gs p.2).map fun s=>(p.1,s))=some ps) (he:V2 P hp0 gs nx t m ps=some e) (hc: ∀q∈e.bw,Cn.den c.ρ q):Az P o c n nx sl hp gs a e:=by
 obtain⟨e1,e2⟩:=VM (c:=c) (a:=a) (parts.toList.map (·.2)) (fun x s hx hm=>h.cu hx (by simpa [ho,Op.operands]using hm)) (fun x hx=>List.mem_map.2 ⟨x,hx,rfl⟩) Lg;unfold V2 at he;split at he
 ·rename_i el e' zz dl Ik Dl;have A7:=Jm Ik;split at he
  ·cases he
  rename_i AI;simp only [not_or,Bool.not_eq_true',Bool.not_eq_false',ne_eq,Bool.not_eq_false,Bool.not_eq_true,Nat.not_lt,Decidable.not_not]at AI;obtain⟨hz,FA,rfl,rfl,Bc,AA,hle,DX⟩:=AI;obtain⟨_,_,l,Lb,DI⟩:=Wf Ik Dl;simp only [DT.row.injEq,true_and]at Lb;subst Lb;rw [AO.aq]at he;have AA:Ao P e'=true∨P.cellsOf e'=1:=by simpa using AA
  obtain⟨i,z,hi,Ft,Dr,BJ,Ci,FM⟩:=Kq hz;split at he
  ·rename_i xs us ck Q6;split at he
   ·rename_i BW;simp only [Af]at he;subst he;obtain⟨p1,p5,p6,p7,p8⟩:=lA h.eh h.gs DI AA (ps.map (·.2)) (parts.toList.map fun p=>a.eval p.2) e2 Q6 hc;have hlen:(parts.toList.map fun p=>a.eval p.2).length=m:=by
     have:ps.length=m:=by have:=congrArg List.length DX;simpa using this
     have h9:=congrArg List.length e1;simp at h9 ⊢;omega
    have Gq:(parts.map fun(x:Nat × Operand)=>(x.1,a.eval x.2)).toList=((parts.toList.map fun p=>a.eval p.2).zipIdx 0).map fun p=>(p.2,p.1):=by
     have Is:parts.toList.map (·.1)=List.range m:=by rw [←e1,DX]
     apply List.ext_getElem?;intro j;have hj:(parts.toList.map (·.1))[j]?=(List.range m)[j]?:=by rw [Is]
     simp only [Array.toList_map,List.getElem?_map,List.getElem?_zipIdx]at hj ⊢;cases hp:parts.toList[j]? with
     |none=>simp
     |some p=>
      rw [hp]at hj;simp only [Option.map_some,Af]at hj ⊢;have XL:j<m:=by
       rcases Nat.lt_or_ge j m with hh|hh
       ·exact hh
       ·rw [List.getElem?_eq_none (by simpa using hh)]at hj;cases hj
      rw [List.getElem?_range XL]at hj;simp at hj;simp [hj]
    obtain⟨C',f1,f2⟩:=bL (sz:=i.size) (fun j=>some (j*i.size,i.size)) (fun j=>rfl) (parts.toList.map fun p=>a.eval p.2) 0 ((Array.range (m*i.size)).map (fun j=>(if m*i.size=0 then #[]else z.cells)[j % (if m*i.size=0 then #[]else z.cells).size]!)) [] _ (by simp;rfl) (by simp) (by simp [hlen]) (fun v hv=>by rw [←Ci];exact(p5 v hv).1);have Dt:C'.toList.length=m*P.cellsOf e':=by
     rw [f2,Ci];simp only [List.nil_append];have: ∀(L:List Value),(∀v∈L,v.cells.size=i.size)→(L.flatMap fun v=>v.cells.toList).length=L.length*i.size:=by
      intro L
      induction L with
      |nil=>intro _;simp
      |cons v L ih=>intro hL;simp only [List.flatMap_cons,Ak,Am,Array.length_toList];rw [ih (fun u hu=>hL u (by simp [hu])),hL v (by simp),Nat.add_mul];omega
     rw [this _ (fun v hv=>by rw [←Ci];exact(p5 v hv).1),hlen]
    have D9:(xs.map (E.den c.ρ)).length=m:=by rw [List.length_map,p7,hlen]
    have BT:C'.toList.take ((xs.map (E.den c.ρ)).length*P.cellsOf e')=(parts.toList.map fun p=>a.eval p.2).flatMap fun v=>v.cells.toList:=by rw [D9,←Dt,List.take_length,f2];simp
    refine Az.fm h (zvm BW) p8 (by omega) DI (xs:=xs.map (E.den c.ρ)) (C:=C') (cap:=m) (by simp [E.den,EL.de]) (fun y hy=> ?_) (by omega) (by simp only [maxLen];have:m*1≤m*P.cellsOf e':=Nat.mul_le_mul_left _ (by omega);omega) (by rw [←Array.length_toList,Dt]) ?_ ?_ ?_
    ·obtain⟨q,hq,rfl⟩:=List.mem_map.1 hy;exact p6 q hq
    ·rw [BT];intro u hu;obtain⟨v,hv,hu⟩:=List.mem_flatMap.1 hu;exact(p5 v hv).2 u hu
    ·rw [BT,D9,←hlen];exact p1
    ·rw [D9];have AQ:=kT (P:=P) A7 Bc hi Ft Ci m (by rw [←Ci];omega) (parts.map fun(x:Nat × Operand)=>(x.1,a.eval x.2)) C' (by rw [Gq];exact f1) c.w;simp only [execOp,ho,Sem.run_bind];rw [AQ];rfl
   ·cases he
  ·cases he
 ·cases he
theorem aI {w:World}: ∀{ds:List DT} {ss:List SV} {vs:List Value},Nz ds ss=true→SR c ss vs→ ∀{xs:EL} {m:Nat},Cc hp0 gs m ss=some xs→DC w ds vs (xs.den c.ρ) []
 | [], [],vs,_,hs,xs,m,hx=>by
  cases hs;cases m with
  |zero=>simp [Cc]at hx
  |succ m=>simp [Cc]at hx;subst hx;exact .nil
 | [],_::_,_,h,_,_,_,_=>by simp [Nz]at h
 |_::_, [],_,h,_,_,_,_=>by simp [Nz]at h
 |d::ds,s::ss, [],h,hs,_,_,_=>by have:=hs.len;simp at this
 |d::ds,s::ss,v::vs,h,hs,xs,m,hx=>by
  obtain⟨j,y,ys,rfl,hy,CX,rfl⟩:=Jn hx;obtain⟨r1,r2⟩:=hs.bz;simp only [Nz,Ad]at h;have ih:=aI (w:=w) h.2 r2 CX;unfold iZ at h;obtain⟨h1,_⟩:=h;split at h1
  ·rename_i y';rw [EL.den,JA hy];cases r1 with
   |e g1 g2 _=>
    cases y'<;>simp [Rl]at h1
    ·cases g1 with
     |int hk _=>exact .flat (.int hk .nil) ih
    ·cases g1 with
     |bool _=>exact .flat (.bool .nil) ih
    ·rename_i s0;generalize hq:(E.str s0).den c.ρ=q at g1;cases g1 with
     |str hk _=>exact .flat (.str hk .nil) ih
     |_=>simp [E.den]at hq
  ·simp only [Ad,decide_eq_true_eq,beq_iff_eq]at h1;rw [EL.den,Ks hy];cases r1 with
   |bu _=>exact .void h1.1 h1.2 ih
  ·cases h1
theorem DC.rep {w:World} {ds:List DT} {vs:List Value} {xs:List AV} (h:DC w ds vs xs []): ∀k,DC w (CL k ds) (List.replicate k vs).flatten (List.replicate k xs).flatten []
 |0=>by simpa [CL]using DC.nil
 |k+1=>by rw [Nj,List.replicate_succ,List.flatten_cons,List.replicate_succ,List.flatten_cons];simpa using h.app (DC.rep h k)
theorem zrq (h:Bf P c n nx sl hp a sl0 hp0 o gs) {t:TypeId} {l m:Operand} (ho:o.op= .makeSlice t l m) {s1 s2:SV} (Bu:Bx sl0 gs l=some s1) (AU:Bx sl0 gs m=some s2) (he:Wg P hp0 gs nx t s1 s2=some e) (hc: ∀q∈e.bw,Cn.den c.ρ q):Az P o c n nx sl hp gs a e:=by
 have DK:l∈o.op.operands:=by simp [ho,Op.operands]
 have Dn:m∈o.op.operands:=by simp [ho,Op.operands]
 unfold Wg at he;split at he
 ·rename_i el e' zz dl x y Ik Dl;have A7:=Jm Ik;split at he
  ·cases he
  rename_i AI;simp only [not_or,Bool.not_eq_true',Bool.not_eq_false',ne_eq,Bool.not_eq_false,Bool.not_eq_true,Decidable.not_not]at AI;obtain⟨hz,FA,rfl,rfl,Gu,XB⟩:=AI;have XB:gs= []:=by simpa using XB
  subst XB;obtain⟨_,_,dl',Lb,DI⟩:=Wf Ik Dl;simp only [DT.row.injEq,true_and]at Lb;subst Lb;rw [AO.aq]at he;obtain⟨i,z,hi,Ft,Dr,BJ,Ci,FM⟩:=Kq hz;have r1:=h.cu Bu DK;have r2:=h.cu AU Dn;have ival: ∀{x:E} {kk:IntKind} {k:Int} {v:Value},SR c [.e x] [v]→x.den c.ρ= .int kk k→v= .int kk k:=by
   intro x kk k v hr hx;cases hr with
   |e h1 _ _=>exact(FY h1 hx).1
  split at he
  ·rename_i s hs;have hs:Eo z=some s:=by simpa [hi,Ft]using hs
   split at he
   ·rename_i TS;obtain⟨w,hw,rfl⟩:=Aq.1 he;obtain⟨kk,k,hk,h0,hb,hle⟩:Cn.den c.ρ (.mkroom x (P.bytesOf e')):=BE hc;have Ek:=ival r1 hk;have CW:=ival r2 (by rw [←E.ak c.ρ _ _ Gu];exact hk);have iF:DC c.w dl' z.cells.toList (w.den c.ρ).cells []:=by
     have Kb:=VH (c:=c) hs;unfold s5 at TS;cases s with
     |agg cs=>
      obtain⟨k9,l9,hm,u4,rfl⟩:=Sk hw;cases Kb with
      |agg h9 h1 h8=>have:=aI (w:=c.w) TS h1 u4;simpa [Value.cells,AV.cells,E.den]using this
     |bu=>
      have A7:Cc hp0 [] (AT+1) [.bu]=some (.cons w .nil):=by unfold Cc;rw [hw];rfl
      have:=aI (w:=c.w) TS Kb A7;rw [Ks hw]at this ⊢;cases Kb with
      |bu _=>simpa [Value.cells,AV.cells,E.den,EL.den]using this
     |_=>cases TS
    obtain⟨c1,c2⟩:=aH (w:=c.w) (ρ:=c.ρ) hs hw;obtain⟨kn,rfl⟩:=Int.eq_ofNat_of_zero_le h0;have Dk:(i.bytes:Int)*(kn:Int)≤281474976710656:=by rw [FM]at hb;rw [Int.mul_comm];omega
    have hlen:=c1.len;have TC:=Vi z.cells (by omega) kn;have AQ:=run_make (P:=P) c.w t e' i z A7 hi Ft kk kk kn kn (by omega) (Int.le_refl _) Dk (by omega);have EP:(madeCells z.cells (kn*z.cells.size)).size=kn*P.cellsOf e':=by rw [size_madeCells,Dr,Ci]
    have BT:(madeCells z.cells (kn*z.cells.size)).toList.take ((List.replicate kn (w.den c.ρ)).length*P.cellsOf e')=(List.replicate kn z.cells.toList).flatten:=by rw [List.length_replicate,List.take_of_length_le (by rw [Array.length_toList,EP];exact Nat.le_refl _),TC]
    have EI:AE (List.replicate kn (w.den c.ρ))=(List.replicate kn (w.den c.ρ).cells).flatten:=by
     clear AQ EP BT TC hb hle Dk hk Ek CW h0 hc
     induction kn with
     |zero=>rfl
     |succ k ih=>simp only [List.replicate_succ,AE,List.flatMap_cons,List.flatten_cons]at ih ⊢;rw [ih]
    refine Az.fm (T:= []) h (by simp) (by simp) (by omega) DI (xs:=List.replicate kn (w.den c.ρ)) (C:=madeCells z.cells (kn*z.cells.size)) (cap:=kn) (by simp [E.den,hk,AV.rep]) (fun u hu=> ?_) (by simp) (by simp only [maxLen];omega) EP ?_ ?_ ?_
    ·rw [List.eq_of_mem_replicate hu,←hlen,Array.length_toList,Dr,Ci]
    ·rw [BT];intro u hu;obtain⟨q,hq,hu⟩:=List.mem_flatten.1 hu;rw [List.eq_of_mem_replicate hq]at hu;exact c2 u hu
    ·rw [BT,List.length_replicate,EI];exact iF.rep kn
    ·simp only [execOp,ho,Ek,CW,Sem.run_bind,Int.ofNat_eq_natCast,List.length_replicate];rw [AQ,Dr];rfl
   ·cases he
  ·cases he
 ·cases he
end
section
variable {P:Program} {c:Cx} {n nx:Nat} {sl sl0:Nat→SV} {hp hp0:Nat→Option Ai} {a:Act} {o:Oper} {gs:Gd} {e:AY} {sg:BC} {nv:Nat}
theorem mR {α:Type} (cs vs:List α) (o:Nat):setVs cs o vs=cs.take o++(vs++cs.drop (o+vs.length)):=by simp [setVs]
theorem DC.setVs {w:World} {ts:List DT} {L V:List Value} {X Y:List AV} {N1 N2 M:List Nat} {p:Nat} (h1:DC w (ts.take p) (L.take p) (X.take p) N1) (h2:DC w (ts.drop (p+V.length)) (L.drop (p+V.length)) (X.drop (p+V.length)) N2) (k:DC w ((ts.drop p).take V.length) V Y M):
  DC w ts (Go.Proofs.YtollgpkegmbpmaaGreatDoor.setVs L p V) (Go.Proofs.YtollgpkegmbpmaaGreatDoor.setVs X p Y) (N1++(M++N2)):=by
 have hk:=k.len;have ht:ts=ts.take p++((ts.drop p).take V.length++ts.drop (p+V.length)):=by rw [←List.drop_drop,List.take_append_drop,List.take_append_drop]
 rw [mR,mR];have hl:Y.length=V.length:=by omega
 rw [hl];have:=h1.app (k.app h2);rw [←ht]at this;exact this
theorem nT (h:Bf P c n nx sl hp a sl0 hp0 o []) {t:TypeId} {x y:Operand} (ho:o.op= .store t x y) {b g:Nat} {ix:E} {sz k:Nat} {s:SV} (r1:SR c [.cq b g ix sz k] [a.eval x]) (r2:SR c [s] [a.eval y]) {el:Nat} {l:List DT} {ep:Nat} {c0:E} (hK:c.K b g) (DL: ∀g',c.K b g'→g'≤g) (hE:c.E b=ep)
  (Bc:CU P t=true) (hle:k+P.cellsOf t≤sz) (EZ:Ao P el=true∨(sz=1∧Ao P t=false)) (DG:Ao P t=true∨P.cellsOf t=1)
  {xe:E} {us:List Nat} {ck:List Cn} (BX:PW P hp0 [] t ((l.drop k).take (P.cellsOf t)) s=some (xe,us,ck)) (JX: ∀q∈ck,q.den c.ρ) (BW:us.Nodup) (hb:b∉us)
  (B1: ∀(kk:IntKind) (kv:Int),ix.den c.ρ= .int kk kv→ ∃(m cap:Nat) (C:Array Value) (ys:List AV) (N1 N2:List Nat),c.H b g= .slice (some ⟨m,0,none⟩) ys.length cap∧c0.den c.ρ= .sl ys∧0<sz∧l.length=sz∧c.w.heap[m]?=some (.cells C el (0,0))∧ys.length≤cap∧cap≤maxLen∧C.size=cap*sz∧(∀y∈ys,y.cells.length=sz)∧(∀w∈C.toList.take (ys.length*sz),w.oneCell'=true)∧
   (m::(N1++N2)).Nodup∧(∀q∈m::(N1++N2),q∈(c.G b).top)∧DC c.w ((CL ys.length l).take (kv.toNat*sz+k)) ((C.toList.take (ys.length*sz)).take (kv.toNat*sz+k)) ((AE ys).take (kv.toNat*sz+k)) N1∧
   DC c.w ((CL ys.length l).drop (kv.toNat*sz+k+P.cellsOf t)) ((C.toList.take (ys.length*sz)).drop (kv.toNat*sz+k+P.cellsOf t)) ((AE ys).drop (kv.toNat*sz+k+P.cellsOf t)) N2):
  Az P o c n nx sl hp [] a {bw:=ck,bf:=(b, .deep el sz l g (ep+1) (.set c0 ix (.put (.idx c0 ix) k xe (Ao P el))))::EE us}:=by
 generalize hv:a.eval x=v at r1;cases r1 with
 |cq k1 k2 k3 k4 k5 k6=>
  rename_i m0 len cap0 kk kv;obtain⟨m,cap,C,ys,N1,N2,p1,p2,p3,p4,p5,p6,p7,p8,p9,p10,p11,p12,p13,p14⟩:=B1 kk kv k3;rw [k2]at p1;cases p1;have FO:kv.toNat<ys.length:=by omega
  have hmul:(kv.toNat+1)*sz≤ys.length*sz:=Nat.mul_le_mul_right _ (by omega);have Fy:ys.length*sz≤cap0*sz:=Nat.mul_le_mul_right _ p6;rw [Nat.add_mul]at hmul;have Dt:C.toList.length=cap0*sz:=by simpa using p8
  obtain⟨q1,q2,q3,q4,q5,q6⟩:=mB h.eh h.gs (by rw [List.length_take,List.length_drop,p4];omega) DG BX r2 JX;have FB:=LN FO;generalize HU:(AV.sl ys).nth kv.toNat=yk at FB;have E7:=p9 yk (List.mem_of_getElem? FB);have Dx:(a.eval y).cells.toList.length=P.cellsOf t:=by simpa using q4
  obtain⟨m1,m2,m3⟩:=Vf (vs:=(a.eval y).cells.toList) p5 (show(kv.toNat*sz+k)+_≤C.size by rw [Dx,p8];omega);have MB:(C.toList.take (ys.length*sz)).length=ys.length*sz:=by rw [List.length_take,Dt];omega
  have GP:m0∈(c.G b).top:=p12 _ (by simp);have Ke: ∀q∈BY c us,q∉(c.G b).top:=fun q hq hh=>by obtain⟨u,hu,Yd⟩:=Pr.1 hq;exact h.rel.gw.cj u b (fun hh=>hb (hh▸hu)) q (by simp [GI.own,Yd]) (by simp [GI.own,hh])
  have K9: ∀q∈BY c us,q<c.w.heap.size:=fun q hq=>by obtain⟨u,_,Yd⟩:=Pr.1 hq;exact h.rel.gw.inb u q (by simp [GI.own,Yd])
  have K8: ∀q∈(c.G b).top,q<c.w.heap.size:=fun q hq=>h.rel.gw.inb b q (by simp [GI.own,hq]);have A1: ∀q,q∈BY c us∨(q∈N1++N2)→(putCells c.w m0 (kv.toNat*sz+k) (a.eval y).cells.toList).heap[q]?=c.w.heap[q]?:=fun q hq=>by
   refine m1.block q ?_ ?_
   ·rcases hq with hq|hq
    ·exact K9 q hq
    ·exact K8 q (p12 q (by simp [Ah.1 hq]))
   ·simp only [List.mem_singleton];rintro rfl;rcases hq with hq|hq
    ·exact Ke _ hq GP
    ·exact(List.nodup_cons.1 p11).1 hq
  have hz:(yk.da k (xe.den c.ρ) (Ao P el)).cells=setVs yk.cells k (xe.den c.ρ).cells:=by
   refine bA ?_ (fun hg=> ?_)
   ·cases hg:Ao P el with
    |true=>exact .inr rfl
    |false=>
     left;rcases EZ with h'|⟨_,h'⟩
     ·rw [hg]at h';cases h'
     ·rw [h']at q5;exact fun cs=>(q5.1 cs)
   ·rcases EZ with h'|⟨h1,h'⟩
    ·rw [hg]at h';cases h'
    ·rw [h']at q5;have Mn:P.cellsOf t=1:=by rcases DG with h2|h2;rw [h']at h2;cases h2;exact h2
     refine⟨by omega,by omega, ?_⟩;cases Yw:xe.den c.ρ<;>first|rfl|exact absurd Yw (q5.1 _)
  have DY:AE (ys.set kv.toNat (yk.da k (xe.den c.ρ) (Ao P el)))=setVs (AE ys) (kv.toNat*sz+k) (xe.den c.ρ).cells:=
   VU ys _ _ yk k _ p9 FB (by rw [q3];exact hle) hz
  have Gf:((CL ys.length l).drop (kv.toNat*sz+k)).take (P.cellsOf t)=(l.drop k).take (P.cellsOf t):=by rw [←p4];exact R3 l _ _ _ _ FO (by omega)
  have AQ:(execOp a.eval o).run P c.w= .ok .skip (putCells c.w m0 (kv.toNat*sz+k) (a.eval y).cells.toList):=by have:=aO (P:=P) (t:=t) (v:=a.eval y) (off:=kv.toNat*sz+k) p5 Bc q4 (by rw [q4,p8];omega) q2;simp [execOp,ho,hv,this]
  refine Az.kd h BW q6 hb hK DL hE AQ (hs:=(c.G b).top++BY c us) (fun q hq=>Ah.1 hq) ⟨m1.os,m1.tape,m1.output,m1.size,fun q hq hn=>m1.block q hq fun hh=>hn (by simp only [List.mem_singleton]at hh;subst hh;exact Ah.2 (.inl GP))⟩
   (top:=m0::(N1++(BY c us++N2))) ?_ (fun q hq=> ?_) ?_
  ·have vG:=Vo h.rel.gw BW;rw [List.nodup_cons,List.nodup_append]at p11;obtain⟨n1,n2,n3,n4⟩:=p11;have a1: ∀q∈BY c us,q∉N1∧q∉N2∧q≠m0:=fun q hq=>⟨fun hh=>Ke q hq (p12 q (by simp [hh])),fun hh=>Ke q hq (p12 q (by simp [hh])),fun hh=>Ke q hq (hh▸GP)⟩
   rw [List.nodup_cons,List.nodup_append,List.nodup_append];refine⟨fun hh=> ?_,n2,⟨vG,n3,fun p hp q hq TG=>(a1 p hp).2.1 (TG▸hq)⟩,fun p hp q hq TG=> ?_⟩
   ·simp only [Ah]at hh n1;rcases hh with hh|hh|hh
    ·exact n1 (.inl hh)
    ·exact(a1 _ hh).2.2 rfl
    ·exact n1 (.inr hh)
   ·rcases Ah.1 hq with hq|hq
    ·exact(a1 q hq).1 (TG▸hp)
    ·exact n4 p hp q hq TG
  ·have:q∈(c.G b).top∨q∈BY c us:=by
    simp only [Ae,Ah]at hq;rcases hq with rfl|hq|hq|hq
    ·exact .inl GP
    ·exact .inl (p12 q (by simp [hq]))
    ·exact .inr hq
    ·exact .inl (p12 q (by simp [hq]))
   refine⟨.inl (Ah.2 this),Nat.lt_of_lt_of_le ?_ m1.size⟩;rcases this with hh|hh
   ·exact K8 q hh
   ·exact K9 q hh
  ·have BS:(E.set c0 ix (.put (.idx c0 ix) k xe (Ao P el))).den c.ρ= .sl (ys.set kv.toNat (yk.da k (xe.den c.ρ) (Ao P el))):=by
    simp only [E.den,p2,k3,AV.idx,HU,AV.c6]
   rw [BS,k2];have DI:(ys.set kv.toNat (yk.da k (xe.den c.ρ) (Ao P el))).length=ys.length:=List.length_set;have:=DC.row (w:=putCells c.w m0 (kv.toNat*sz+k) (a.eval y).cells.toList) (e:=el) (z:=sz) (l:=AO.of l) (g:=m0) (cap:=cap0) (ys:=ys.set kv.toNat (yk.da k (xe.den c.ρ) (Ao P el))) (N1:=N1++(BY c us++N2)) (ts:= []) (vs:= []) (xs:= []) (N:= []) p3 (by rw [AO.aq];exact p4) m2 (by rw [DI];exact p6) p7 (by rw [List.size_toArray,Ps _ _ _ (by rw [Dx,Dt];omega),Array.length_toList];exact p8) (fun w hw=> ?_) ?_ ?_ .nil
   ·rw [DI]at this;simpa using this
   ·rcases List.mem_or_eq_of_mem_set hw with hw|rfl
    ·exact p9 w hw
    ·rw [hz,Ps _ _ _ (by rw [q3,E7];exact hle)];exact E7
   ·simp only [DI,List.toList_toArray];rw [Pp _ _ _ _ (by rw [Dx];omega) (by rw [Dt];omega)];intro u hu;unfold setVs at hu;simp only [Ah]at hu;rcases hu with(hu|hu)|hu
    ·exact p10 u (List.mem_of_mem_take hu)
    ·exact q2 u hu
    ·exact p10 u (List.mem_of_mem_drop hu)
   ·simp only [DI,List.toList_toArray];rw [Pp _ _ _ _ (by rw [Dx];omega) (by rw [Dt];omega),DY,AO.aq];refine DC.setVs (p13.frame fun q hq=>A1 q (.inr (by simp [hq]))) ?_ ?_
    ·rw [Dx];exact p14.frame fun q hq=>A1 q (.inr (by simp [hq]))
    ·rw [Dx,Gf];exact q1.frame fun q hq=>A1 q (.inl hq)
theorem zpu (h:Bf P c n nx sl hp a sl0 hp0 o gs) {t:TypeId} {x y:Operand} (ho:o.op= .store t x y) {b g:Nat} {ix:E} {sz k:Nat} {s:SV} (Bm: ¬ ∃e z g c d,CP hp0 gs b=some (.row e z g c d)) (hx:Bx sl0 gs x=some (.cq b g ix sz k)) (hy:Bx sl0 gs y=some s)
  (he:LI P hp0 gs t (.cq b g ix sz k) s=some e) (hc: ∀q∈e.bw,Cn.den c.ρ q):Az P o c n nx sl hp gs a e:=by
 have r1:=h.cu hx (by simp [ho,Op.operands]);have r2:=h.cu hy (by simp [ho,Op.operands]);simp only [LI]at he;split at he
 ·rename_i hl;exact absurd ⟨_,_,_,_,_,hl⟩ Bm
 ·rename_i el sz' l g' ep c0 hl;split at he
  ·rename_i hh;obtain⟨rfl,rfl,rfl,Bc,hle,EZ,DG⟩:=hh;split at he
   ·rename_i xe us ck BX;split at he
    ·cases he
    rename_i Ez;simp only [Bool.or_eq_true,Bool.not_eq_true',not_or,Bool.not_eq_false,Bool.not_eq_true,List.contains_eq_mem,decide_eq_false_iff_not]at Ez;simp only [Af]at he;subst he;obtain⟨e1,e2,e3,e4,e5⟩:=h.eh b _ (CD hl h.gs);refine nT h ho r1 r2 e1 e2 e3 Bc hle (by simpa using EZ) DG BX hc (Pt Ez.1) Ez.2 fun kk kv QI=> ?_;generalize a.eval x=v at r1;cases r1 with
    |cq k1 k2 k3 k4 k5 _=>
     rw [k3]at QI;cases QI;obtain⟨d1,d2,⟨a9,d3,_⟩|⟨g9,cap9,C,ys,N,d3,d4,d5,d6,d7,d8,d9,d10,d11,d12⟩⟩:=e4.inv
     ·rw [k2]at d3;cases d3;omega
     ·rw [AO.aq]at d2 d12;obtain⟨N1,N2,N3,rfl,s1,s2,s3⟩:=d12.split (kv.toNat*sz+k) (P.cellsOf t);have BW:=h.rel.gw.nodup b;simp only [GI.own,e5,List.append_nil,d5]at BW;refine⟨g9,cap9,C,ys,N1,N3,d3,d4,d1,d2,d6,d7,d8,d9,d10,d11, ?_,fun q hq=> ?_,s1,s3⟩
      ·refine List.Sublist.nodup (List.Sublist.cons_cons _ ?_) BW;rw [List.append_assoc];exact List.Sublist.append (List.Sublist.refl _) (List.sublist_append_right _ _)
      ·rw [d5];simp only [Ae,Ah]at hq ⊢;rcases hq with hq|hq|hq
       ·exact .inl hq
       ·exact .inr (.inl (.inl hq))
       ·exact .inr (.inr hq)
   ·cases he
  ·cases he
 ·rename_i el sz' l g' ep c0 i' o' u' hl;split at he
  ·rename_i hh;obtain⟨rfl,rfl,rfl,Bc,rfl,uU,hle,Mn,DG,EZ⟩:=hh;have DG:Ao P t=false:=by simpa using DG
   split at he
   ·rename_i xe us ck BX;split at he
    ·cases he
    rename_i Ez;simp only [Bool.or_eq_true,Bool.not_eq_true',not_or,Bool.not_eq_false,Bool.not_eq_true,List.contains_eq_mem,decide_eq_false_iff_not]at Ez;simp only [Af]at he;subst he;obtain⟨e1,e2,e3,⟨m,cap,C,ys,kk,kv,N1,N2,p1,p2,p3,p4,p5,p6,p7,p7',p8,p9,p10,p11,p12,p13,p14,p15,p16,p17,p18⟩,e5⟩:=h.eh b _ (CD hl h.gs);refine nT h ho r1 r2 e1 e2 e3 Bc (by omega) (EZ.imp id fun hh=>⟨hh,DG⟩) (.inr Mn) (by rw [Mn];exact BX) hc (Pt Ez.1) Ez.2 fun kk' kv' QI=> ?_;rw [E.ak c.ρ _ _ uU,p3]at QI;cases QI;have BW:=h.rel.gw.nodup b;simp only [GI.own,e5,List.append_nil,p14]at BW;exact⟨m,cap,C,ys,N1,N2,p1,p2,p7,p7',p8,p9,p10,p11,p12,p13,BW,fun q hq=>by rw [p14];exact hq,p17,by rw [Mn];exact p18⟩
   ·cases he
  ·cases he
 ·cases he
end
section
variable {P:Program} {c:Cx} {n nx:Nat} {sl sl0:Nat→SV} {hp hp0:Nat→Option Ai} {a:Act} {o:Oper} {gs:Gd} {e:AY} {sg:BC} {nv:Nat}
theorem oU {w:World} {ety sz:Nat} {p:Option Addr} {m r:Nat} {x:AV} {top N:List Nat} (h:Cw w ety sz (.slice p m r) x top N): ∃xs,x= .sl xs∧xs.length=m∧m≤r∧0<sz∧(∀y∈xs,y.cells.length=sz)∧
  ((xs= []∧m=0∧r=0∧top= []∧N= [])∨ ∃g C,p=some ⟨g,0,none⟩∧r≤maxLen∧w.heap[g]?=some (.cells C ety (0,0))∧C.size=r*sz∧top= [g]∧(∀u∈C.toList.take (m*sz),u.oneCell'=true)∧Rd w (C.toList.take (m*sz)) (AE xs) N):=by
 obtain⟨xs,rfl,h2,h3,⟨rfl,⟨a,hv⟩,rfl,rfl⟩|⟨g,cap',C,hv,h6,h7,h8,h9,rfl,Ga,Fo⟩⟩:=h
 ·cases hv;exact⟨[],rfl,rfl,Nat.le_refl _,h3,by simp, .inl ⟨rfl,rfl,rfl,rfl,rfl⟩⟩
 ·cases hv;exact⟨xs,rfl,rfl,h6,h3,h2, .inr ⟨g,C,rfl,h7,h8,h9,rfl,Ga,Fo⟩⟩
theorem zrt (h:Bf P c n nx sl hp a sl0 hp0 o gs) {t:TypeId} {x:Operand} {lo hi mx:Option Operand} (ho:o.op= .slice t x lo hi mx) {s:SV} (hs:Bx sl0 gs x=some s) {l' h' m':Option SV} (Bw:I7 (Bx sl0 gs) lo=some l') (K7:I7 (Bx sl0 gs) hi=some h') (Fv:I7 (Bx sl0 gs) mx=some m') (he:Wb P hp0 gs t s l' h' m'=some e) (hc: ∀q∈e.bw,Cn.den c.ρ q):Az P o c n nx sl hp gs a e:=by
 have hm:x∈o.op.operands:=by simp [ho,Op.operands]
 have MC: ∀y,lo=some y→y∈o.op.operands:=fun y hy=>by simp [ho,Op.operands,hy]
 have J6: ∀y,hi=some y→y∈o.op.operands:=fun y hy=>by simp [ho,Op.operands,hy]
 have hx:=h.cu hs hm;have ival: ∀{x:E} {kk:IntKind} {k:Int} {v:Value},SR c [.e x] [v]→x.den c.ρ= .int kk k→v= .int kk k:=by
  intro x kk k v hr hx;cases hr with
  |e h1 _ _=>exact(FY h1 hx).1
 have ex:(execOp a.eval o).run P c.w=((Instr.sliceAt t (a.eval x) (lo.map a.eval) (hi.map a.eval) (mx.map a.eval)).run P c.w).andThen fun v w=> .ok (.value v) w:=by simp [execOp,ho]
 unfold Wb at he;split at he
 ·rename_i el0 b g A7;have hu:=Jm A7;split at he
  ·cases he
  rename_i Bc;have Bc:CU P el0=true:=by simpa using Bc
  have MD:mx=none:=by
   rcases IX Fv with⟨hh,_⟩|⟨_,_,_,_,hh⟩
   ·exact hh
   ·cases hh
  subst MD;split at he
  ·rename_i el z g' c0 d hl;split at he
   ·cases he
   rename_i AI;simp only [not_or,Decidable.not_not,ne_eq]at AI;obtain⟨rfl,rfl,rfl⟩:=AI;obtain⟨q1,q2,N,q3,q4,q5,q6⟩:=h.eh b _ (CD hl h.gs);generalize hv:a.eval x=v at hx ex;cases hx with
   |own k1 k2 k3=>
    rename_i p m r;rw [k2]at q3;obtain⟨xs,Ck,D9,QO,BJ,Ay,A6⟩:=oU q3;split at he
    ·rename_i l;simp only [Af]at he;subst he;obtain⟨ka,ai,kb,bi,mm,d1,d2,d3,d4,d5,d6⟩:Cn.den c.ρ (.win c0 l (.len c0)):=BE hc;have XZ:mm=(m:Int):=by rw [Ck]at d3;simp only [AV.len,AV.int.injEq,true_and]at d3;omega
     obtain⟨an,rfl⟩:=Int.eq_ofNat_of_zero_le d4;obtain⟨ol,BP,hol⟩: ∃ol,lo=some ol∧Bx sl0 [] ol=some (.e l):=by
      rcases IX Bw with⟨_,hh⟩|⟨ol,sl',Mv,XD,XE⟩
      ·cases hh
      ·cases XE;exact⟨ol,Mv,XD⟩
     have Mw:hi=none:=by
      rcases IX K7 with⟨hh,_⟩|⟨_,_,_,_,hh⟩
      ·exact hh
      ·cases hh
     subst BP;subst Mw;have XT:=ival (h.cu hol (MC _ rfl)) d1;have hle:an≤m:=by omega
     have AQ:=Z1 (P:=P) (w:=c.w) (lo:=(some ol).map a.eval) (hi:=(none:Option Operand).map a.eval) hu Bc p m r an m (.inr ⟨ka,by rw [Option.map_some,XT]⟩) (.inl ⟨rfl,rfl⟩) hle (Nat.le_refl _) QO;have:=SR.wown (c:=c) (lo:=l) (sz:=P.cellsOf el) (q':=if r=an then p else p.map (·.add (an*P.cellsOf el))) (r:=r-an) k1 k2 d1 d4 (by omega) (fun Ax=>by
      rcases A6 with⟨_,DJ,_⟩|⟨g9,C,rfl,_⟩
      ·omega
      ·exact⟨g9,rfl,by rw [if_neg (by omega)];simp [Addr.add_lit],by simp⟩) .nil
     refine Az.pure h (v:=sliced p an m r (P.cellsOf el)) ?_ (by simpa [sliced]using this) rfl;rw [ex];show Result.andThen (Sem.run P (Instr.sliceAt t (.slice p m r) ((some ol).map a.eval) ((none:Option Operand).map a.eval) none) c.w) _=_;rw [AQ];rfl
    ·rename_i hb;simp only [Af]at he;subst he;obtain⟨ka,ai,kb,bi,mm,d1,d2,d3,d4,d5,d6⟩:Cn.den c.ρ (.win c0 (.int .i64 0) hb):=BE hc;have XZ:mm=(m:Int):=by rw [Ck]at d3;simp only [AV.len,AV.int.injEq,true_and]at d3;omega
     simp only [E.den,AV.int.injEq]at d1;obtain⟨_,rfl⟩:=d1;obtain⟨bn,rfl⟩:=Int.eq_ofNat_of_zero_le d5;obtain⟨oh,Mw,vO⟩: ∃oh,hi=some oh∧Bx sl0 [] oh=some (.e hb):=by
      rcases IX K7 with⟨_,hh⟩|⟨ol,sl',Mv,XD,XE⟩
      ·cases hh
      ·cases XE;exact⟨ol,Mv,XD⟩
     have BP:lo=none:=by
      rcases IX Bw with⟨hh,_⟩|⟨_,_,_,_,hh⟩
      ·exact hh
      ·cases hh
     subst BP;subst Mw;have XT:=ival (h.cu vO (J6 _ rfl)) d2;have hle:bn≤m:=by omega
     have AQ:=Z1 (P:=P) (w:=c.w) (lo:=(none:Option Operand).map a.eval) (hi:=(some oh).map a.eval) hu Bc p m r 0 bn (.inl ⟨rfl,rfl⟩) (.inr ⟨kb,by rw [Option.map_some,XT]⟩) (Nat.zero_le _) hle QO;have Cu:sliced p 0 bn r (P.cellsOf el)= .slice p bn r:=by
      unfold sliced;rcases A6 with⟨_,_,rfl,_⟩|⟨g9,C,rfl,_⟩
      ·simp
      ·split<;>simp [Addr.add_lit]
     rw [Cu]at AQ;have EO:(execOp a.eval o).run P c.w= .ok (.value (.slice p bn r)) c.w:=by rw [ex];show Result.andThen (Sem.run P (Instr.sliceAt t (.slice p m r) ((none:Option Operand).map a.eval) ((some oh).map a.eval) none) c.w) _=_;rw [AQ];rfl
     have A0: ¬c.K b (g+1):=fun hk=>by have:=q2 _ hk;omega
     have Ap:=h.rel;have Dm:=Ap.a6 (gs:= []) (t:=b) (g:=g+1) (w':=c.w) (row:=(c.G b).top.head?) (top:=(c.G b).top) (O:=if d=true then(c.G b).O else []) (v:= .slice p bn r) (.inr (by omega)) A0 ⟨rfl,rfl,rfl,Nat.le_refl _,fun _ _ _=>rfl⟩ (fun g0 Ew=> .inl (List.mem_of_mem_head? Ew)) (by
       rcases A6 with⟨_,_,_,ht,_⟩|⟨g9,C,_,_,_,_,ht,_⟩
       ·exact .inl ht
       ·exact .inr ⟨g9,by rw [ht];rfl,ht⟩) (by split;exact .inr rfl;exact .inl rfl)
      (.row el (P.cellsOf el) (g+1) (.win c0 (.int .i64 0) hb) d) (by intros;simp) (Em _) (fun FP=>by
       have Kh:(E.win c0 (.int .i64 0) hb).den c.ρ= .sl (xs.take bn):=by simp only [E.den,Ck,d2,AV.win];simp
       obtain⟨N',Bh,Tn⟩: ∃N',Cw c.w el (P.cellsOf el) (.slice p bn r) (.sl (xs.take bn)) (c.G b).top N'∧ ∀q∈N',q∈N:=by
        rcases A6 with⟨rfl,DJ,rfl,ht,rfl⟩|⟨g9,C,rfl,DL,Tt,hC,ht,h1,CS⟩
        ·have:bn=0:=by omega
         subst this;exact⟨[],⟨[],by simp,by simp,BJ, .inl ⟨rfl,⟨p,rfl⟩,ht,rfl⟩⟩,by simp⟩
        ·obtain⟨N',WT,CR⟩:=CS.piece 0 (bn*P.cellsOf el);have N8:(xs.take bn).length=bn:=by rw [List.length_take];omega
         have hmul:bn*P.cellsOf el≤m*P.cellsOf el:=Nat.mul_le_mul_right _ hle;have ef:=cB xs Ay 0 bn (Nat.zero_le _) (by omega);simp only [Nat.zero_mul,Nat.sub_zero,List.drop_zero]at ef CR;rw [ef,List.take_take,Nat.min_eq_left hmul]at CR;refine⟨N',⟨xs.take bn,rfl,fun y hy=>Ay y (List.mem_of_mem_take hy),BJ, .inr ⟨g9,r,C,by rw [N8],by rw [N8];omega,DL,Tt,hC,ht, ?_, ?_⟩⟩,WT⟩
         ·rw [N8];intro u hu;refine h1 u ?_;have:C.toList.take (bn*P.cellsOf el)=(C.toList.take (m*P.cellsOf el)).take (bn*P.cellsOf el):=by rw [List.take_take,Nat.min_eq_left hmul]
          rw [this]at hu;exact List.mem_of_mem_take hu
         ·rw [N8];exact CR
       refine⟨.inr ⟨rfl,rfl⟩,fun g'' Mt=> ?_,N', ?_,fun q hq=>FP.ok q (Bh.me q hq) (q4 q (Tn q hq)),fun hd=> ?_,fun hd=>by simp [Cx.a6,hd]⟩
       ·rcases Mt with Mt|⟨_,rfl⟩
        ·have:=q2 _ Mt;omega
        ·exact Nat.le_refl _
       ·have e1:(c.a6 b (g+1) c.w (.slice p bn r) (c.G b).top (if d=true then(c.G b).O else [])).H b (g+1)= .slice p bn r:=by simp [Cx.a6]
        have e2:((c.a6 b (g+1) c.w (.slice p bn r) (c.G b).top (if d=true then(c.G b).O else [])).G b).top=(c.G b).top:=by simp [Cx.a6]
        rw [e1,e2];show Cw c.w el (P.cellsOf el) _ ((E.win c0 (.int .i64 0) hb).den c.ρ) _ N';rw [Kh];exact Bh
       ·obtain⟨u1,u2⟩:=q5 hd;have u1:N= []:=u1;subst u1;have Mg:N'= []:=List.eq_nil_iff_forall_not_mem.2 fun q hq=>by simpa using Tn q hq
        subst Mg;exact⟨rfl,by simp only [Cx.a6,if_true,hd];exact u2⟩)
     intro next Q hk
     unfold Oper.wp;rw [EO,Oper.upon_value];refine hk _ (c.a6 b (g+1) c.w (.slice p bn r) (c.G b).top (if d=true then(c.G b).O else [])) ⟨rfl,rfl,rfl,rfl,fun u hu=> ?_⟩ (Dm.put (SR.mkGd (c:=c.a6 b (g+1) c.w (.slice p bn r) (c.G b).top (if d=true then(c.G b).O else [])) (s:= .own b (g+1)) (v:= .slice p bn r) (.own (show _∨_ from .inr ⟨rfl,rfl⟩) (by simp [Cx.a6]) .nil) []) o.dst);rcases hu with hu|rfl
     ·exact .inl hu
     ·exact .inl (h.rel.br _ _ k1)
    ·cases he
  ·cases he
 ·cases he
theorem zpt (z:Array Value) (hz:0<z.size) (k:Nat):(Builtin.zeroCells z k).toList=(List.replicate k z.toList).flatten:=by have:=Vi z hz k;rw [←this];rfl
theorem zuZ (h:Bf P c n nx sl hp a sl0 hp0 o gs) {x:Operand} {tx:TypeId} {cl:Call} (ho:o.op= .call cl) (Ay:cl.callee= .builtin .clear) (CQ:cl.args.toList= [x]) (DV:cl.argTypes.toList= [tx]) {s:SV} (hs:Bx sl0 gs x=some s) (he:dN P hp0 gs tx s=some e) (hc: ∀q∈e.bw,Cn.den c.ρ q):Az P o c n nx sl hp gs a e:=by
 have As:cl.args= #[x]:=by apply Array.ext';simp [CQ]
 have Gt:cl.argTypes= #[tx]:=by apply Array.ext';simp [DV]
 have hm:x∈o.op.operands:=by simp [ho,Op.operands,Call.operands,Ay,As]
 have hx:=h.cu hs hm;unfold dN at he;split at he
 ·rename_i el0 b g l z A7;have hu:=Jm A7;split at he
  ·rename_i el z' g' c0 d hl;split at he
   ·cases he
   rename_i AI;simp only [not_or,Bool.not_eq_true',Bool.not_eq_false,Decidable.not_not,ne_eq]at AI;obtain⟨rfl,rfl,rfl,rfl,hz,AA⟩:=AI;have AA:Ao P el=true∨P.cellsOf el=1:=by simpa using AA
   obtain⟨i,zv,hi,Ft,Dr,BJ,Ci,FM⟩:=Kq hz;split at he
   ·rename_i q hq;split at he
    ·rename_i w hw;have hq:Eo zv=some q:=by simpa [hi,Ft]using hq
     simp only [Af]at he;subst he;obtain⟨c1,c2⟩:=aH (w:=c.w) (ρ:=c.ρ) hq hw;have AP:=KJ h.hp (CD hl h.gs);obtain⟨q1,q2,N,q3,q4,q5,q6⟩:=h.rel.ents b _ AP;generalize hv:a.eval x=v at hx;cases hx with
     |wown k1 k2 k3 k4 k5 k6 k7=>
      rename_i p m r q' r' kk kv;rw [k2]at q3;obtain⟨xs,Ck,D9,QO,Ym,Mm,A6⟩:=oU q3;have Mo:(E.bin .sub (.len c0) l).den c.ρ≠ .undef:=hc (.dfd (.bin .sub (.len c0) l)) (by simp);have HO:kk= .i64:=by
       simp only [E.den,Ck,AV.len,k3,AV.bin]at Mo;split at Mo
       ·rename_i hh;rcases hh with hh|hh|hh
        ·exact hh.symm
        ·cases hh
        ·cases hh
       ·exact absurd rfl Mo
      subst HO;have BS:(E.bin .sub (.len c0) l).den c.ρ= .int .i64 ((m:Int)-kv):=by
       simp only [E.den,Ck,AV.len,k3,AV.bin,true_or,if_true,B8,D9];congr 1;have vD:(m:Int)≤9223372036854775807:=by
        rcases A6 with⟨_,h0,_⟩|⟨_,_,_,DL,_⟩
        ·omega
        ·have:maxLen=9223372036854775807:=rfl;omega
       exact(Ns .i64 _).2 ⟨by simp [IntKind.min,IntKind.signed,IntKind.bits];omega,by simp [IntKind.max,IntKind.signed,IntKind.bits];omega⟩
      have A0:(E.app (.win c0 (.int .i64 0) l) (.rep (.bin .sub (.len c0) l) w)).den c.ρ= .sl (xs.take kv.toNat++List.replicate (m-kv.toNat) (w.den c.ρ)):=by
       have e1:(E.win c0 (.int .i64 0) l).den c.ρ= .sl (xs.take kv.toNat):=by simp only [E.den,Ck,k3,AV.win];simp
       have e2:(E.rep (.bin .sub (.len c0) l) w).den c.ρ= .sl (List.replicate (m-kv.toNat) (w.den c.ρ)):=by show AV.rep ((E.bin .sub (.len c0) l).den c.ρ) (w.den c.ρ)=_;rw [BS];simp only [AV.rep];congr 2;omega
       show AV.app _ _=_;rw [e1,e2];rfl
      have ex:(execOp a.eval o).run P c.w=((Builtin.clear_ #[tx] o.type #[.slice q' (m-kv.toNat) r']).run P c.w).andThen fun v w=> .ok (.value v) w:=by simp [execOp,ho,resolve,Ay,As,Gt,invoke,builtin,hv]
      rcases Nat.eq_or_lt_of_le (show kv.toNat≤m by omega)with heq|Ax
      ·
       have BA:m-kv.toNat=0:=by omega
       have AQ:(execOp a.eval o).run P c.w= .ok (.value (.tuple #[])) c.w:=by rw [ex,BA];cases q'<;>simp [Builtin.clear_,run_underlying hu]
       have A1:(E.app (.win c0 (.int .i64 0) l) (.rep (.bin .sub (.len c0) l) w)).den c.ρ=c0.den c.ρ:=by rw [A0,Ck,BA];simp [List.take_of_length_le (show xs.length≤kv.toNat by omega)]
       intro next Q hk
       unfold Oper.wp;rw [AQ,Oper.upon_value];have Dm:Rel c n sl (A2 hp [(b, .row el (P.cellsOf el) g (.app (.win c0 (.int .i64 0) l) (.rep (.bin .sub (.len c0) l) w)) d)]) a:=by
        have Dq: ∀u,A2 hp [(b, .row el (P.cellsOf el) g (.app (.win c0 (.int .i64 0) l) (.rep (.bin .sub (.len c0) l) w)) d)] u=if u=b then some (.row el (P.cellsOf el) g (.app (.win c0 (.int .i64 0) l) (.rep (.bin .sub (.len c0) l) w)) d)else hp u:=fun u=>rfl;refine h.rel.change (fun u=>u=b) (Di.refl c) h.rel.base (fun u hu=>⟨by rw [Dq,if_neg hu],rfl,rfl,fun _ hk=>hk⟩) (fun _ _ _ _=>rfl) (fun u hu=> ?_) h.rel.gw h.rel.br (fun u f hf=> ?_)
        ·subst hu;rw [Dq,if_pos rfl];refine⟨fun e' hr=> ?_,fun hn=>absurd rfl (hn _)⟩;simp only [Ce]at hr;subst hr;exact⟨q1,q2,N,by rw [A1,k2];exact q3,q4,q5,q6⟩
        ·rw [Dq]at hf;split at hf
         ·rename_i hu;subst hu;exact h.rel.br _ _ k1
         ·exact h.rel.cm u f hf
       exact hk _ c (L6.refl _ _) (Dm.put ((SR.undef .nil).mkGd []) o.dst)
      ·obtain⟨b9,gX,rfl,rfl⟩:=k6 (by omega);rcases A6 with⟨_,h0,_⟩|⟨g9,C,hp',DL,Tt,hC,ht,h1,CS⟩
       ·omega
       rw [gX]at hp';cases hp';have Dt:C.toList.length=r*P.cellsOf el:=by simpa using hC
       have gV:m*P.cellsOf el≤r*P.cellsOf el:=Nat.mul_le_mul_right _ QO;have gU:(m-kv.toNat)*P.cellsOf el+kv.toNat*P.cellsOf el=m*P.cellsOf el:=by rw [←Nat.add_mul];congr 1;omega
       have YC:=zpt zv.cells (by omega) (m-kv.toNat);generalize hZ:(List.replicate (m-kv.toNat) zv.cells.toList).flatten=Z at YC;have Mh:Z.length=(m-kv.toNat)*P.cellsOf el:=by rw [←hZ,List.length_flatten];simp only [List.map_replicate,List.sum_replicate_nat,Array.length_toList,Dr,Ci]
       have gK: ∀u∈Z,u.oneCell'=true:=fun u hu=>by rw [←hZ]at hu;obtain⟨L,hL,hu⟩:=List.mem_flatten.1 hu;rw [List.eq_of_mem_replicate hL]at hu;exact c2 u hu
       have J8:=aB (P:=P) (off:=kv.toNat*P.cellsOf el) Z 0 c.w C Tt (by rw [Mh,hC];omega) gK;have AQ:(execOp a.eval o).run P c.w= .ok (.value (.tuple #[])) (putCells c.w b9 (kv.toNat*P.cellsOf el) Z):=by
        rw [ex];obtain⟨mm,XZ⟩: ∃mm,m-kv.toNat=mm+1:=⟨m-kv.toNat-1,by omega⟩
        have wV:(zeroValue el).run P c.w= .ok zv c.w:=by simp [zeroValue,typeInfo,hi,Ft]
        simp only [Nat.add_zero]at J8;rw [XZ]at YC ⊢;simp [Builtin.clear_,run_underlying hu,wV,YC,J8]
       obtain⟨m1,m2,m3⟩:=Vf (off:=kv.toNat*P.cellsOf el) (vs:=Z) Tt (by rw [Mh,hC];omega);have MB:(C.toList.take (m*P.cellsOf el)).length=m*P.cellsOf el:=by rw [List.length_take,Dt];omega
       have Ln:b9∈(c.G b).top:=by rw [ht];simp
       have Qm:Rd c.w Z (AE (List.replicate (m-kv.toNat) (w.den c.ρ))) []:=by rw [←hZ];exact fA c1 _
       obtain⟨n1,n2,n3,hN,s1,s2⟩:=Rd.setVs (p:=kv.toNat*P.cellsOf el) CS Qm (by rw [MB,Mh];omega);have Rb:(w.den c.ρ).cells.length=P.cellsOf el:=by have:=c1.len;rw [←this];simp [Dr,Ci]
       have uB:(AE (List.replicate (m-kv.toNat) (w.den c.ρ))).length=Z.length:=by rw [←Qm.len]
       have EI:setVs (AE xs) (kv.toNat*P.cellsOf el) (AE (List.replicate (m-kv.toNat) (w.den c.ρ)))=AE (xs.take kv.toNat++List.replicate (m-kv.toNat) (w.den c.ρ)):=by
        have ef:=cB xs Mm 0 kv.toNat (Nat.zero_le _) (by omega)
        simp only [Nat.zero_mul,Nat.sub_zero,List.drop_zero]at ef;unfold setVs;rw [ef,aE,uB,Mh,List.drop_eq_nil_of_le (by rw [LF _ Mm,D9];omega),List.append_nil]
       rw [EI]at s1;have B1: ∀q∈n1++ []++n3,q∈N:=fun q hq=>by rw [hN];simp at hq ⊢;rcases hq with hq|hq<;>simp [hq]
       have E1: ∀q,q<c.w.heap.size→c.ok q→(putCells c.w b9 (kv.toNat*P.cellsOf el) Z).heap[q]?=c.w.heap[q]?:=by intro q hq AF;refine m1.block q hq ?_;simp only [List.mem_singleton];rintro rfl;exact AF.1 ⟨b,Ln⟩
       have DI:(xs.take kv.toNat++List.replicate (m-kv.toNat) (w.den c.ρ)).length=m:=by rw [Ak,List.length_take,List.length_replicate];omega
       have Dm:=h.rel.jq (t:=b) (b:=b9) (w':=putCells c.w b9 (kv.toNat*P.cellsOf el) Z) (O:=if d=true then(c.G b).O else []) AP Ln (by split;exact .inr rfl;exact .inl rfl) m1 m3
        (.row el (P.cellsOf el) g (.app (.win c0 (.int .i64 0) l) (.rep (.bin .sub (.len c0) l) w)) d) (by intros;simp) (fun FP=>by
         refine⟨q1,q2,n1++ []++n3, ?_,fun q hq=>FP.ok q (CS.inb q (B1 q hq)) (q4 q (B1 q hq)),fun hd=> ?_,fun hd=>by simp [Cx.fj,hd]⟩
         ·show Cw (putCells c.w b9 (kv.toNat*P.cellsOf el) Z) el (P.cellsOf el) (c.H b g) ((E.app (.win c0 (.int .i64 0) l) (.rep (.bin .sub (.len c0) l) w)).den c.ρ) _ _;rw [A0,k2,gX];refine⟨_,rfl,fun y hy=> ?_,Ym, .inr ⟨b9,r,_,by rw [DI],by rw [DI];exact QO,DL,m2, ?_,by simpa [Cx.fj]using ht, ?_, ?_⟩⟩
          ·rcases Ah.1 hy with hy|hy
           ·exact Mm y (List.mem_of_mem_take hy)
           ·rw [List.eq_of_mem_replicate hy];exact Rb
          ·rw [List.size_toArray,Ps _ _ _ (by rw [Mh,Dt];omega),Array.length_toList];exact hC
          ·simp only [DI,List.toList_toArray];rw [Pp _ _ _ _ (by rw [Mh];omega) (by rw [Dt];omega)];intro u hu;unfold setVs at hu;simp only [Ah]at hu;rcases hu with(hu|hu)|hu
           ·exact h1 u (List.mem_of_mem_take hu)
           ·exact gK u hu
           ·exact h1 u (List.mem_of_mem_drop hu)
          ·simp only [DI,List.toList_toArray];rw [Pp _ _ _ _ (by rw [Mh];omega) (by rw [Dt];omega)];exact s1.frame fun q hq=>E1 q (CS.inb q (B1 q hq)) (q4 q (B1 q hq))
         ·obtain⟨u1,u2⟩:=q5 hd;have u1:N= []:=u1;subst u1;have Mg:n1++ []++n3= []:=List.eq_nil_iff_forall_not_mem.2 fun q hq=>by simpa using B1 q hq
          rw [Mg];exact⟨rfl,by simp only [Cx.fj,if_true,hd];exact u2⟩)
       intro next Q hk
       unfold Oper.wp;rw [AQ,Oper.upon_value];exact hk _ (c.fj _ b _) ⟨rfl,rfl,rfl,rfl,fun t ht=> .inl ht⟩ (Dm.put ((SR.undef .nil).mkGd []) o.dst)
    ·cases he
   ·cases he
  ·cases he
 ·cases he
end
section
variable {P:Program} {c:Cx} {n nx:Nat} {sl sl0:Nat→SV} {hp hp0:Nat→Option Ai} {a:Act} {o:Oper} {gs:Gd} {e:AY} {sg:BC} {nv:Nat}
theorem eK {w:World}: ∀(vs:List Value) {xs:List AV} {f:List Nat} (ts:List TypeId),Rd w vs xs f→ts.length≤vs.length→Db P w ts [] [] vs xs f [] []
 | [],xs,f,ts,h,hl=>by have:ts= []:=List.eq_nil_of_length_eq_zero (by simpa using hl);subst this;cases h;exact .nil
 |v::vs, [],f,ts,h,hl=>by have:=h.len;simp at this
 |v::vs,x::xs,f,ts,h,hl=>by
  obtain⟨f1,f2,rfl,h1,h2⟩:=h.bz;cases ts with
  |nil=>exact .free h1 (eK vs [] h2 (by simp))
  |cons t ts=>exact Db.cons (h:= []) ⟨h1,rfl⟩ (eK vs ts h2 (by simpa using hl))
theorem zzT (l:EL):EL.of (PQ.go l)=l:=by
 induction l using EL.rec (motive_1:=fun _=>True)with
 |nil=>rfl
 |cons e es _ ih=>simp [PQ.go,EL.of,ih]
 |_=>trivial
theorem zyr {w:World} {ts:List TypeId} {vs:List Value} {Bs:List AV} {f o:List Nat} (h:C8 P w ts [] vs Bs f o):Bs= []:=by
 have key: ∀(ts:List TypeId),Bi ts []=false:=by
  intro ts
  induction ts with
  |nil=>rfl
  |cons t ts ih=>simp only [Bi,List.headD_nil,Bool.false_or,List.tail_nil];exact ih
 exact(bD h).2 (key ts)
theorem zwX (t:TypeId):F2 P t []=false:=by simp [F2]
theorem lQ (h:Bf P c n nx sl hp a sl0 hp0 o gs) {cl:Call} {fo:Operand} (ho:o.op= .call cl) (Ay:cl.callee= .value fo) {y:E} {sf:SV} (hf:Bx sl0 gs fo=some sf) (wB: ∀v,SR c [sf] [v]→ ∃f,Rd c.w [v] [y.den c.ρ] f) {as_:List SV} (has:cl.args.toList.mapM (Bx sl0 gs)=some as_) {t:TypeId}
  (he:PQ P hp0 gs nv t y as_=some e) (A3: ∀c',e.call=some c'→ ∃r,c.ρ[nv]?=some r∧Hz (B6 P sg) c'.fn ((EL.of c'.args).den c.ρ) c.ρ r):Az P o c n nx sl hp gs a e:=by
 have XW:fo∈o.op.operands:=by simp [ho,Op.operands,Call.operands,Ay]
 have XV: ∀x∈cl.args.toList,x∈o.op.operands:=fun x hx=>by
  have:x∈cl.args:=by simpa using hx
  simp [ho,Op.operands,Call.operands,Ay,this]
 have Li:=h.cu hf XW;have As:=oQ (a:=a) (fun x hx s hs=>h.cu hs (XV x hx)) has;unfold PQ at he;split at he
 ·cases he
 split at he
 ·cases he
 rename_i es Ho;simp only [Af]at he;subst he;obtain⟨r,hr,g,caps,hy,IA,Dw⟩:=A3 _ rfl;rw [zzT]at IA;obtain⟨f1,p1,p2⟩:=PC h.eh h.gs AT Ho As AT (Nat.le_refl _);generalize Xx:a.eval fo=fv at Li;obtain⟨_,k1⟩:=wB _ Li;obtain⟨capv,f2,rfl,Xm⟩: ∃capv f2,fv= .func (.func g) #[] capv.toArray∧Rd c.w capv caps f2:=by
  rw [hy]at k1;cases k1 with
  |fn q1 _=>exact⟨_,_,rfl,q1⟩
 have ML:Qa P {b8:= [],res:= []} g (es.den c.ρ++caps) r:=by unfold B6 at IA;rw [if_neg (by omega)]at IA;simpa using IA
 obtain⟨fn,Gi,Du,D5,_,hlen,_,E0⟩:=ML;have CS:=p1.app Xm;have Dx:=CS.len;have A3:=E0 c.w _ _ [] [] (eK _ (fn.params.toList++ []) CS (by rw [Dx,hlen,List.append_nil,Array.length_toList];omega)) (by simp) (by simp) (by simp) (h.rel.ml (by simp));have ex:(execOp a.eval o).run P c.w= .ok (.enter g (cl.args.map a.eval++capv.toArray)) c.w:=by
  have hb:fn.body.isNone=false:=by simpa using Du
  simp only [execOp,ho,resolve,Ay,Xx,Deferred.ofValue,Sem.run_bind,Sem.run_pure,Result.andThen_ok,invoke,callFunc,run_program,Gi];simp [D5,hb]
 intro next Q hk
 unfold Oper.wp;rw [ex,Oper.upon_enter];have Mi:cl.args.map a.eval++capv.toArray=((cl.args.toList.map a.eval)++capv).toArray:=by apply Array.ext';simp
 rw [Mi];refine A3.mono ?_;rintro e' w' ⟨v,rfl,⟨R,Bs,f1',o1,f2',o2,J9,AP,EG,Gn,QX,QB⟩,Cs⟩;show next (a.put o.dst v) w'
 have Mf:=zyr EG;subst Mf;simp only at J9;subst J9;have hv:Rd w' [v] [r] []:=by
  unfold JJ at AP;split at AP
  ·rename_i t' ht;unfold Ef at AP;rw [if_neg (by rw [zwX];simp)]at AP;have:=lF AP.1 Dw;subst this;exact AP.1
  ·obtain⟨vs,ys,_,rfl,_⟩:=AP;have:=Dw (.tup ys) (by simp [AV.cells]);simp [AV.scalar]at this
 obtain⟨EK,_⟩:=h.rel.changes (w':=w') (recs:= []) (hs:= []) (gs:=gs) h.gs Cs (by simp) (by simp) (by simp) (by simp) (by simp) (by simp) (by simp);refine hk _ (c.dj w' []) ⟨rfl,rfl,rfl,rfl,fun t ht=> ?_⟩ (EK.put (SR.mkGd (.e (f:= []) ?_ (by simp) .nil) gs h.gs) o.dst)
 ·rcases ht with ht|⟨r,hr,_⟩
  ·exact .inl ht
  ·simp at hr
 ·show Rd w' [v] [(E.var nv).den c.ρ] [];simp only [E.den,hr,Option.getD_some];exact hv
theorem fM (IB: ∀f s,sg f=some s→f<1000000) (h:Bf P c n nx sl hp a sl0 hp0 o gs) (he:Bq P sg sl0 hp0 nv nx gs o=some e)
  (hc: ∀q∈e.bw,q.den c.ρ) (A3: ∀cl,e.call=some cl→ ∃r,c.ρ[nv]?=some r∧Hz (B6 P sg) cl.fn ((EL.of cl.args).den c.ρ) c.ρ r) (Ct: ∀x,e.bt=some x→c.ρ[nv]?=some (.bool (Jx a o))):Az P o c n nx sl hp gs a e:=by
 have J0:=he;cases AK:o.op with
 |move x=>simp only [Bq,AK,Aq]at he;obtain⟨s,hs,rfl⟩:=he;exact oH h (.inl AK) hs
 |assign x=>simp only [Bq,AK,Aq]at he;obtain⟨s,hs,rfl⟩:=he;exact oH h (.inr AK) hs
 |pick x y z=>exact zwb h AK he hc
 |alloc t=>exact zvb h AK he hc
 |box t x=>exact zyO h AK he hc
 |build t parts=>exact zu1 h AK he hc
 |buildSlice t m parts=>
  simp only [Bq,AK,Au]at he;obtain⟨ps,Lg,he⟩:=he;split at he
  ·exact zpb h AK Lg he hc
  ·exact znh h AK Lg he hc
 |load t x=>exact zw7 h AK he hc
 |nilCheck x=>exact zqJ h AK he hc
 |makeSlice t l m=>
  simp only [Bq,AK,Au]at he;obtain⟨s1,Bu,s2,AU,he⟩:=he;split at he
  ·exact zrq h AK Bu AU he hc
  ·exact zvo h AK Bu AU he hc
 |slice t x lo hi mx=>
  simp only [Bq,AK,Au]at he;obtain⟨s,hs,l',Bw,h',K7,m',Fv,he⟩:=he;split at he
  ·exact zrt h AK hs Bw K7 Fv he hc
  ·exact ztL h AK hs Bw K7 Fv he hc
 |fieldAddr t x f=>exact zpd h AK he hc
 |field t x f=>exact zvy h AK he hc
 |extract x i=>exact zsy h AK he hc
 |store t x y=>
  simp only [Bq,AK,Au]at he;obtain⟨p,hp',v,hv,he⟩:=he;cases p with
  |cd b k=>exact zrd h AK hp' hv he hc
  |cq b g i sz k=>
   by_cases Bm: ∃e z g c d,CP hp0 gs b=some (.row e z g c d)
   ·exact zqK h AK Bm hp' hv he hc
   ·exact zpu h AK Bm hp' hv he hc
  |_=>simp [LI]at he
 |binOp op t x y ty=>
  cases hu:P.underlying t with
  |none=>simp only [Bq,AK,Au]at he;obtain⟨_,_,_,_,he⟩:=he;simp [PR,hu]at he
  |some d=>
   by_cases Q3: ∃fs,d= .struct fs
   ·obtain⟨fs,rfl⟩:=Q3;exact zyG h AK hu he hc
   ·have Le: ∀fs,P.underlying t≠some (.struct fs):=fun fs hh=>Q3 ⟨fs,by rw [hu]at hh;cases hh;rfl⟩;cases hq:e.bt with
    |none=>exact zyc h AK Le he hq hc
    |some x'=>
     have FC:=Ct x' hq;simp only [Bq,AK,Au]at he;obtain⟨s1,Bu,s2,AU,he⟩:=he;have r1:=h.cu Bu (by simp [AK,Op.operands]);have r2:=h.cu AU (by simp [AK,Op.operands]);unfold PR at he;split at he
     ·rename_i el E6;have Cu: ∀xq,Be hp0 gs AT s1=some xq→Cn.den c.ρ (.dfd (.len xq))→ ∃p q r,a.eval x= .slice p q r:=by
       intro xq II hd;obtain⟨f,q1,_⟩:=h.j3 Bu (by simp [AK,Op.operands]) II;have hd:(xq.den c.ρ).len≠ .undef:=hd;cases Bj:xq.den c.ρ<;>simp only [Bj,AV.len,ne_eq,not_true_eq_false]at hd;rename_i xs;have hl:(xq.den c.ρ).len= .int .i64 (xs.length:Int):=by rw [Bj];rfl
       rcases PB q1 hl with⟨p,q,hv,DJ⟩|⟨b,o',k,q,hv,DJ⟩
       ·exact⟨_,_,_,hv⟩
       ·exact⟨_,_,_,hv⟩
      split at he
      ·simp at he;subst he;cases hq
      ·simp at he;subst he;cases hq
      ·obtain⟨xq,II,rfl⟩:=Aq.1 he;obtain⟨p,q,r,hv⟩:=Cu xq II (hc _ (by simp));exact oS h AK E6 hv r2 (.inl rfl) FC _
      ·obtain⟨xq,II,rfl⟩:=Aq.1 he;obtain⟨p,q,r,hv⟩:=Cu xq II (hc _ (by simp));exact oS h AK E6 hv r2 (.inr rfl) FC _
      ·cases he
     ·split at he
      ·simp at he;subst he;cases hq
      ·cases he
     ·split at he
      ·simp at he;subst he;cases hq
      ·cases he
     ·split at he
      ·simp at he;subst he;cases hq
      ·cases he
     ·rename_i fs E6;exact absurd E6 (Le fs)
     ·cases he
 |unOp u t x=>
  cases u with
  |not=>exact zyM h AK he hc
  |neg=>exact zyR h AK he hc
  |_=>simp [Bq,AK]at he
 |convert src dst x=>
  have K2:=he;simp only [Bq,AK,Au]at K2;obtain⟨s,_,K2⟩:=K2;unfold Sq at K2;split at K2
  ·rename_i k0 k h1 h2;exact zsn h AK h1 h2 he hc
  ·rename_i h1 h2;exact zr1 h AK h1 h2 he hc
  ·rename_i el h1 h2;exact zq0 h AK h1 h2 he hc
  ·cases K2
 |makeFunc fr fst caps=>
  cases fr with
  |func f=>exact zq9 h AK he
  |_=>simp [Bq,AK]at he
 |indexAddr t x i=>refine zpp h AK (fun hu=> ?_) he hc;simp only [Bq,AK,Au]at he;obtain⟨_,_,_,_,he⟩:=he;simp [T5,hu]at he
 |index t x i=>
  refine zsm h AK ?_ he hc;simp only [Bq,AK,Au]at he;obtain⟨_,_,_,_,he⟩:=he;split at he
  ·rename_i ID;unfold T5 at ID;split at ID
   ·assumption
   ·cases ID
  ·cases he
 |call cl=>
  simp only [Bq,AK]at he;cases Ay:cl.callee with
  |invoke r m=>rw [Ay]at he;simp at he
  |value f=>
   rw [Ay]at he;simp only [Au]at he;obtain⟨s,hs,as_,has,he⟩:=he;cases s with
   |fn g caps=>
    have he:SB P sg hp0 gs nv nx g (as_++caps.toList)=some e:=he;refine zw4 h AK Ay hs has ?_ he A3;unfold SB at he;split at he
    ·rename_i fn sg' Gi hh;exact IB g sg' hh
    ·cases he
   |e y=>exact lQ h AK Ay hs (fun v hv=>by cases hv with|e k1 _ _=>exact⟨_,k1⟩) has he A3
   |lent i=>exact lQ h AK Ay hs (fun v hv=>by
     cases hv with
     |lent g1 _=>obtain⟨f,p1,p2⟩:=h.rel.base.lo _ _ g1;exact⟨f,p1.frame fun b hb=>h.rel.base.block b (p1.inb b hb) (p2 b hb)⟩) has he A3
   |_=>simp at he
  |builtin b=>
   rw [Ay]at he;cases b with
   |len=>
    simp only at he;split at he
    ·rename_i x tx CQ DV;exact zyt h AK Ay CQ DV J0 hc
    ·cases he
   |append=>
    simp only at he;split at he
    ·rename_i x y tx ty CQ DV;simp only [Au]at he;obtain⟨s1,Bu,s2,AU,he⟩:=he;split at he
     ·exact zoM h AK Ay CQ DV Bu AU he hc
     ·exact zrH h AK Ay CQ DV Bu AU he hc
    ·cases he
   |clear=>
    simp only at he;split at he
    ·rename_i x tx CQ DV;simp only [Au]at he;obtain⟨s,hs,he⟩:=he;exact zuZ h AK Ay CQ DV hs he hc
    ·cases he
   |max=>
    simp only at he;split at he
    ·rename_i x y CQ;simp only [Au]at he;obtain⟨s1,Bu,s2,AU,he⟩:=he;exact mG h AK (.inl ⟨rfl,Ay⟩) CQ Bu AU he hc
    ·cases he
   |min=>
    simp only at he;split at he
    ·rename_i x y CQ;simp only [Au]at he;obtain⟨s1,Bu,s2,AU,he⟩:=he;exact mG h AK (.inr ⟨rfl,Ay⟩) CQ Bu AU he hc
    ·cases he
   |_=>simp at he
 |_=>simp [Bq,AK]at he
end
section
variable {P:Program} {c:Cx} {n nx:Nat} {sl sl0:Nat→SV} {hp hp0:Nat→Option Ai} {a:Act} {o:Oper} {gs:Gd} {e:AY} {sg:BC} {nv:Nat}
theorem Rel.jd (h:Rel c n sl hp a) {sl':Nat→SV} (hs: ∀i,sl' i=sl i∨SR c [sl' i] [a.tmps.getD i undef]):Rel c n sl' hp a:=
 ⟨h.defers,h.size,h.base,fun i=>by
  rcases hs i with hh|hh
  ·rw [hh];exact h.cx i
  ·exact hh,h.ents,h.off,h.gw,h.br,h.cm⟩
theorem RX {u:Nat}: ∀{l:List Operand} {t T v m:Nat} {p:E × Nat × Nat} {s:SV},Ky sl0 u l=some (t,T,v,m,p,s)→Operand.tmp t∈l∧((∃y,sl0 t= .via T v m (some p) y∧s= .own u 0)∨ ∃y k z q,sl0 t= .vptr T v m (some p) y k z q∧s= .cq u 0 k z q)
 | [],_,_,_,_,_,_,h=>by simp [Ky]at h
 |x::l,t,T,v,m,p,s,h=>by
  cases x with
  |tmp i=>
   simp only [Ky]at h;split at h
   ·rename_i hs;simp only [Af,Prod.mk.injEq]at h;obtain⟨rfl,rfl,rfl,rfl,rfl,rfl⟩:=h;exact⟨by simp, .inl ⟨_,hs,rfl⟩⟩
   ·rename_i hs;simp only [Af,Prod.mk.injEq]at h;obtain⟨rfl,rfl,rfl,rfl,rfl,rfl⟩:=h;exact⟨by simp, .inr ⟨_,_,_,_,hs,rfl⟩⟩
   ·obtain⟨h1,h2⟩:=RX h;exact⟨by simp [h1],h2⟩
  |const v9=>simp only [Ky]at h;obtain⟨h1,h2⟩:=RX h;exact⟨by simp [h1],h2⟩
  |func f=>simp only [Ky]at h;obtain⟨h1,h2⟩:=RX h;exact⟨by simp [h1],h2⟩
  |global g=>simp only [Ky]at h;obtain⟨h1,h2⟩:=RX h;exact⟨by simp [h1],h2⟩
theorem Rel.split (h:Rel c n sl hp a) {T v m u:Nat} {p:E × Nat × Nat} {hl inn:Ai} (hs:Su hp0 T v m u p=some (hl,inn)) (BA: ∀t e,hp0 t=some e→hp t=some e) (hu: ¬c.U u) {vv:Value} (Iy:c.E T=m→HE c T v (some p) vv):
  ∃recs c1,c1=c.dj c.w recs∧Rel c1 n sl (A2 hp [(T,hl),(u,inn)]) a∧Di c c1∧c1.K u 0∧c1.H u 0=vv∧(∃q n r,vv= .slice q n r∧(q=none∨n=0∨ ∃g,q=some ⟨g,0,none⟩))∧(∀t,c1.U t→c.U t∨t=u)∧c.K T v∧c.E T=m∧c1.E T=m+1∧T≠u:=by
 have eh:EH c hp0:=fun t e hr=>h.ents t e (KJ BA hr);obtain⟨pi,z,po⟩:=p;unfold Su at hs;split at hs
 ·rename_i e z0 l g ep c0 u7;split at hs
  ·rename_i AI;obtain⟨rfl,rfl,gZ⟩:=AI;simp only at gZ;subst gZ;split at hs
   ·rename_i e2 z2 l2 BP;simp only [Af,Prod.mk.injEq]at hs;obtain⟨rfl,rfl⟩:=hs;simp only at BP;obtain⟨q1,q2,q3,q4,q5⟩:=eh T _ (CD u7 (Em _));obtain⟨b,n9,cap,C,ty,fz,kk,k,p1,p2,p3,p4,p5,p6,p7⟩:=Iy q3;obtain⟨d1,d2,⟨a9,d3,_⟩|⟨g9,cap9,C9,ys,N,d3,d4,d5,d6,d7,d8,d9,d10,d11,d12⟩⟩:=q4.inv
    ·rw [p1]at d3;cases d3;omega
    ·rw [p1]at d3;cases d3;rw [d6]at p3;cases p3;rw [AO.aq]at d2 d12;have vU:po<z:=by
      rcases Nat.lt_or_ge po l.length with hh|hh
      ·omega
      ·rw [List.getElem?_eq_none hh]at BP;cases BP
     have FO:k.toNat<ys.length:=by omega
     have hmul:(k.toNat+1)*z≤ys.length*z:=Nat.mul_le_mul_right _ (by omega);have Fy:ys.length*z≤cap*z:=Nat.mul_le_mul_right _ d7;rw [Nat.add_mul]at hmul;have Dt:C.toList.length=cap*z:=by simpa using d9
     have Ax:k.toNat*z+po<C.size:=by omega
     obtain⟨N1,N2,N3,rfl,s1,s2,s3⟩:=d12.split (k.toNat*z+po) 1;have BR:((C.toList.take (ys.length*z)).drop (k.toNat*z+po)).take 1= [vv]:=by have hv:C[k.toNat*z+po]?=some vv:=p7;rw [List.drop_take,List.take_take,Nat.min_eq_left (by omega),List.drop_eq_getElem_cons (by simpa using Ax),List.take_succ_cons,List.take_zero];rw [Array.getElem?_eq_getElem Ax]at hv;simpa using hv
     have HU:=LN FO;generalize MS:(AV.sl ys).nth k.toNat=yk at HU;have E7:=d10 yk (List.mem_of_getElem? HU);have EI:((AE ys).drop (k.toNat*z+po)).take 1= [(E.fld (.idx c0 pi) po 1 false).den c.ρ]:=by rw [R8 ys d10 _ _ HU po 1 (by omega),List.drop_eq_getElem_cons (by omega),List.take_succ_cons,List.take_zero];simp only [E.den,d4,p4,AV.idx,MS,AV.fld];simp [show po<yk.cells.length by omega]
     have Bc:((CL ys.length l).drop (k.toNat*z+po)).take 1= [.row e2 z2 l2]:=by
      rw [←d2,R3 l _ _ _ _ FO (by omega)];have Gm:po<l.length:=by omega
      rw [List.drop_eq_getElem_cons Gm,List.take_succ_cons,List.take_zero];rw [List.getElem?_eq_getElem Gm]at BP;simpa using BP
     rw [BR,EI,Bc]at s2;have FL:=h.br _ _ q1;have Ic:T≠u:=fun hh=>hu (hh▸FL);have BW:=h.gw.nodup T;simp only [GI.own,q5,List.append_nil,d5]at BW;have AP: ∀r∈([⟨T,none,b::(N1++N3), .hol e z l g (ep+1) c0 pi po u⟩,⟨u,some vv,N2,if l2.toList.all DT.bp then .row e2 z2 0 (.fld (.idx c0 pi) po 1 false) true else .deep e2 z2 l2.toList 0 0 (.fld (.idx c0 pi) po 1 false)⟩]:List AL),r.new.isSome=true→ ¬c.U r.tag:=fun r hr hs=>by
      simp only [Ae,List.not_mem_nil,or_false]at hr;rcases hr with rfl|rfl
      ·cases hs
      ·exact hu
     refine⟨[⟨T,none,b::(N1++N3), .hol e z l g (ep+1) c0 pi po u⟩,⟨u,some vv,N2,if l2.toList.all DT.bp then .row e2 z2 0 (.fld (.idx c0 pi) po 1 false) true else .deep e2 z2 l2.toList 0 0 (.fld (.idx c0 pi) po 1 false)⟩],_,rfl, ?_⟩;generalize A8:([⟨T,none,b::(N1++N3), .hol e z l g (ep+1) c0 pi po u⟩,⟨u,some vv,N2,if l2.toList.all DT.bp then .row e2 z2 0 (.fld (.idx c0 pi) po 1 false) true else .deep e2 z2 l2.toList 0 0 (.fld (.idx c0 pi) po 1 false)⟩]:List AL)=recs at AP;have hn:(recs.map AL.tag).Nodup:=by rw [←A8];simp [Ic]
     have aft:=Cx.dn (w':=c.w) h.br hn AP;have DK:(⟨T,none,b::(N1++N3), .hol e z l g (ep+1) c0 pi po u⟩:AL)∈recs:=by rw [←A8];simp
     have Dn:(⟨u,some vv,N2,if l2.toList.all DT.bp then .row e2 z2 0 (.fld (.idx c0 pi) po 1 false) true else .deep e2 z2 l2.toList 0 0 (.fld (.idx c0 pi) po 1 false)⟩:AL)∈recs:=by rw [←A8];simp
     obtain⟨k1,k2,k3⟩:=aft.new _ Dn vv rfl;have kgT:=aft.G _ DK;have keT:=aft.ia _ DK rfl;have kgu:=aft.G _ Dn;have keu:=aft.j0 _ Dn rfl;obtain⟨kT1,kT2⟩:=aft.K T g q1;simp only at k1 k2 k3 kgT keT kgu keu;have Lf: ∀q,q∈b::(N1++N3)∨q∈N2→q∈(c.G T).top:=fun q hq=>by rw [d5];simp only [Ae,Ah]at hq ⊢;rcases hq with(hq|hq|hq)|hq<;>simp [hq]
     obtain⟨Ap,BF⟩:=h.changes (recs:=recs) (gs:= []) (hs:=(c.G T).top) (Em _) (Mod.refl _ c.w) hn AP (fun q hq=>⟨_,DK,hq⟩) (by
       rw [←A8];simp only [List.flatMap_cons,List.flatMap_nil,List.append_nil];rw [List.nodup_cons]at BW;obtain⟨n1,n2⟩:=BW;rw [List.append_assoc,List.nodup_append,List.nodup_append]at n2;obtain⟨a1,⟨a2,a3,a4⟩,a5⟩:=n2;rw [List.cons_append,List.nodup_cons,List.nodup_append,List.nodup_append];refine⟨fun hh=>n1 ?_,⟨a1,a3,fun x hx y hy=>a5 x hx y (Ah.2 (.inr hy))⟩,a2,fun x hx y hy Gu=> ?_⟩
       ·simp only [Ah]at hh ⊢;rcases hh with(hh|hh)|hh<;>simp [hh]
       ·rcases Ah.1 hx with hx|hx
        ·exact a5 x hx y (Ah.2 (.inl hy)) Gu
        ·exact a4 y hy x hx Gu.symm)
      (fun r hr q hq=>by
       have:q∈(c.G T).top:=by
        rw [←A8]at hr;simp only [Ae,List.not_mem_nil,or_false]at hr;rcases hr with rfl|rfl
        ·exact Lf q (.inl hq)
        ·exact Lf q (.inr hq)
       exact⟨.inl this,h.gw.inb T q (by simp [GI.own,this])⟩)
      (fun r hr=>by
       rw [←A8]at hr;simp only [Ae,List.not_mem_nil,or_false]at hr;rcases hr with rfl|rfl
       ·intros;simp
       ·intros;simp only;split<;>simp)
      (fun hk r hr=>by
       rw [←A8]at hr;simp only [Ae,List.not_mem_nil,or_false]at hr;rcases hr with rfl|rfl
       ·refine⟨kT1,fun g' Cj=>q2 g' (aft.old T FL g' Cj),by rw [keT,q3], ?_,by rw [kgT]⟩;rw [kT2,p1,kgT];exact⟨b,cap,C,ys,kk,k,N1,N3,rfl,d4,p4,p5,p6,vU,d1,d2,d6,d7,d8,d9,d10,d11,rfl,k1,by rw [k3];exact p7,s1,s3⟩
       ·simp only;split
        ·rename_i hf;have Bh:=s2.mh hf;refine⟨k1,k2, [], ?_,by simp,fun _=>⟨rfl,by rw [kgu]⟩,fun _=>by rw [kgu]⟩;rw [k3,kgu];exact Bh
        ·refine⟨k1,k2,keu, ?_,by rw [kgu]⟩;rw [k3,kgu,AO.cr];exact s2)
     refine⟨?_,BF,k1,k3, ?_,fun t ht=> ?_,q1,q3,by rw [keT,q3],Ic⟩
     ·have:(recs.map fun r=>(r.tag,Cy [] r.bf))= [(T, .hol e z l g (ep+1) c0 pi po u),(u,if l2.toList.all DT.bp then .row e2 z2 0 (.fld (.idx c0 pi) po 1 false) true else .deep e2 z2 l2.toList 0 0 (.fld (.idx c0 pi) po 1 false))]:=by
       rw [←A8];simp [Cy]
      rw [this]at Ap;exact Ap
     ·obtain⟨_,_,⟨a9,h1,_⟩|⟨g9,cap9,C9,ys9,N9,h1,_⟩⟩:=s2.inv
      ·exact⟨a9,0,0,h1, .inr (.inl rfl)⟩
      ·exact⟨_,_,_,h1, .inr (.inr ⟨g9,rfl⟩)⟩
     ·rcases ht with ht|⟨r,hr,rfl⟩
      ·exact .inl ht
      ·rw [←A8]at hr;simp only [Ae,List.not_mem_nil,or_false]at hr;rcases hr with rfl|rfl
       ·exact .inl FL
       ·exact .inr rfl
   ·cases hs
  ·cases hs
 ·cases hs
theorem Rel.close (h:Rel c n sl hp a) {T u:Nat} {hl r d:Ai} (hT:hp T=some hl) (hu:hp u=some r) (hr:Sr P hl r=some d) (Kf: ∃q1 q2 q3 q4 q5 q6 q7 q8,hl= .hol q1 q2 q3 q4 q5 q6 q7 q8 u) (Ic:T≠u):
  ∃recs c1,c1=c.dj c.w recs∧Rel c1 n sl (A2 hp [(T,d),(u, .dead)]) a∧(∀t,c1.U t→c.U t)∧c.E T<c1.E T:=by
 obtain⟨e,z,l,g,ep,c0,i,o',rfl⟩:=Kf;have key: ∀(e2 z2:Nat) (l2:AO) (x:E),l[o']?=some (.row e2 z2 l2)→DC c.w [.row e2 z2 l2] [c.H u 0] [x.den c.ρ] (c.G u).top→c.U u→d= .deep e z l g (ep+1) (.set c0 i (.put (.idx c0 i) o' x (Ao P e)))→(Ao P e=false→z=1)→
   ∃recs c1,c1=c.dj c.w recs∧Rel c1 n sl (A2 hp [(T,d),(u, .dead)]) a∧(∀t,c1.U t→c.U t)∧c.E T<c1.E T:=by
  rintro e2 z2 l2 x BP gP Tp rfl Hk;obtain⟨q1,q2,q3,⟨b,cap,C,ys,kk,k,N1,N2,p1,p2,p3,p4,p5,p6,p7,p7',p8,p9,p10,p11,p12,p13,p14,p15,p16,p17,p18⟩,q5⟩:=h.ents T _ (by rw [hT];rfl);have FL:=h.br _ _ q1;have FO:k.toNat<ys.length:=by omega
  have hmul:(k.toNat+1)*z≤ys.length*z:=Nat.mul_le_mul_right _ (by omega);have Fy:ys.length*z≤cap*z:=Nat.mul_le_mul_right _ p9;rw [Nat.add_mul]at hmul;have Dt:C.toList.length=cap*z:=by simpa using p11
  have Ax:k.toNat*z+o'<C.size:=by omega
  have HU:=LN FO;generalize MS:(AV.sl ys).nth k.toNat=yk at HU;have E7:=p12 yk (List.mem_of_getElem? HU);obtain⟨zs,Dr⟩: ∃zs,x.den c.ρ= .sl zs:=by
   obtain⟨_,_,⟨_,_,hx,_⟩|⟨_,_,_,_,_,_,hx,_⟩⟩:=gP.inv
   ·exact⟨_,hx⟩
   ·exact⟨_,hx⟩
  have Hq:(x.den c.ρ).cells= [x.den c.ρ]:=by rw [Dr];rfl
  have hz:(yk.da o' (x.den c.ρ) (Ao P e)).cells=setVs yk.cells o' (x.den c.ρ).cells:=by
   refine bA ?_ (fun hg=> ?_)
   ·cases hg:Ao P e with
    |true=>exact .inr rfl
    |false=>left;rw [Dr];intro cs hh;cases hh
   ·have:=Hk hg;exact⟨by omega,by omega,Hq⟩
  have DY:AE (ys.set k.toNat (yk.da o' (x.den c.ρ) (Ao P e)))=setVs (AE ys) (k.toNat*z+o') (x.den c.ρ).cells:=
   VU ys _ _ yk o' _ p12 HU (by rw [Hq];simp;omega) hz
  have Gf:((CL ys.length l).drop (k.toNat*z+o')).take 1= [.row e2 z2 l2]:=by
   rw [←p7',R3 l _ _ _ _ FO (by omega)];have Gm:o'<l.length:=by omega
   rw [List.drop_eq_getElem_cons Gm,List.take_succ_cons,List.take_zero];rw [List.getElem?_eq_getElem Gm]at BP;simpa using BP
  have Q2:setVs (C.toList.take (ys.length*z)) (k.toNat*z+o') [c.H u 0]=C.toList.take (ys.length*z):=by
   apply List.ext_getElem?;intro j;have u3:(C.toList.take (ys.length*z)).length=ys.length*z:=by rw [List.length_take,Dt];exact Nat.min_eq_left Fy
   rw [Pw _ _ _ (by rw [u3];show k.toNat*z+o'+1≤_;omega)];split
   ·rename_i hj;simp only [Am,List.length_nil]at hj;have:j=k.toNat*z+o':=by omega
    subst this;rw [Nat.sub_self,List.getElem?_take,if_pos (by omega)];have:=p16;simpa using this.symm
   ·rfl
  have A0:DC c.w [.row e z (AO.of l)] [c.H T g] [(E.set c0 i (.put (.idx c0 i) o' x (Ao P e))).den c.ρ] (b::(N1++((c.G u).top++N2))):=by
   have BS:(E.set c0 i (.put (.idx c0 i) o' x (Ao P e))).den c.ρ= .sl (ys.set k.toNat (yk.da o' (x.den c.ρ) (Ao P e))):=by simp only [E.den,p2,p3,AV.idx,MS,AV.c6]
   rw [BS,p1];have DI:(ys.set k.toNat (yk.da o' (x.den c.ρ) (Ao P e))).length=ys.length:=List.length_set;have:=DC.row (w:=c.w) (e:=e) (z:=z) (l:=AO.of l) (g:=b) (cap:=cap) (C:=C) (ys:=ys.set k.toNat (yk.da o' (x.den c.ρ) (Ao P e))) (N1:=N1++((c.G u).top++N2)) (ts:= []) (vs:= []) (xs:= []) (N:= []) p7 (by rw [AO.aq];exact p7') p8 (by rw [DI];exact p9) p10 p11 (fun w hw=>by
     rcases List.mem_or_eq_of_mem_set hw with hw|rfl
     ·exact p12 w hw
     ·rw [hz,Ps _ _ _ (by rw [Hq,E7];simp;omega)];exact E7) (by rw [DI];exact p13) (by
     rw [DI,AO.aq,DY,←Q2];refine DC.setVs p17 ?_ ?_
     ·exact p18
     ·rw [Aw,Gf,Hq];exact gP) .nil
   rw [DI]at this;simpa using this
  have hTK:=q1;have AP: ∀r∈([⟨T,none,b::(N1++((c.G u).top++N2)), .deep e z l g (ep+1) (.set c0 i (.put (.idx c0 i) o' x (Ao P e)))⟩,⟨u,none, [], .dead⟩]:List AL),r.new.isSome=true→ ¬c.U r.tag:=fun r hr hs=>by simp only [Ae,List.not_mem_nil,or_false]at hr;rcases hr with rfl|rfl<;>cases hs
  refine⟨[⟨T,none,b::(N1++((c.G u).top++N2)), .deep e z l g (ep+1) (.set c0 i (.put (.idx c0 i) o' x (Ao P e)))⟩,⟨u,none, [], .dead⟩],_,rfl, ?_⟩;generalize A8:([⟨T,none,b::(N1++((c.G u).top++N2)), .deep e z l g (ep+1) (.set c0 i (.put (.idx c0 i) o' x (Ao P e)))⟩,⟨u,none, [], .dead⟩]:List AL)=recs at AP;have hn:(recs.map AL.tag).Nodup:=by rw [←A8];simp [Ic]
  have aft:=Cx.dn (w':=c.w) h.br hn AP;have DK:(⟨T,none,b::(N1++((c.G u).top++N2)), .deep e z l g (ep+1) (.set c0 i (.put (.idx c0 i) o' x (Ao P e)))⟩:AL)∈recs:=by rw [←A8];simp
  have Dn:(⟨u,none, [], .dead⟩:AL)∈recs:=by rw [←A8];simp
  have kgT:=aft.G _ DK;have keT:=aft.ia _ DK rfl;have kgu:=aft.G _ Dn;obtain⟨kT1,kT2⟩:=aft.K T g q1;simp only at kgT keT kgu;have B1: ∀q,q∈b::(N1++((c.G u).top++N2))→q∈(c.G T).top∨q∈(c.G u).top:=fun q hq=>by rw [p14];simp only [Ae,Ah]at hq ⊢;rcases hq with hq|hq|hq|hq<;>simp [hq]
  have ME:=h.gw.nodup T;simp only [GI.own,q5,List.append_nil,p14]at ME;have X4:(c.G u).top.Nodup:=by have:=h.gw.nodup u;simp only [GI.own]at this;exact(List.nodup_append.1 this).1
  have Fs: ∀q∈(c.G u).top,q∉b::(N1++N2):=fun q hq hh=>h.gw.cj u T (Ne.symm Ic) q (by simp [GI.own,hq]) (by rw [←p14]at hh;simp [GI.own,hh]);obtain⟨Ap,BF⟩:=h.changes (recs:=recs) (gs:= []) (hs:=(c.G T).top++(c.G u).top) (Em _) (Mod.refl _ c.w) hn AP (fun q hq=>by
    rcases Ah.1 hq with hq|hq
    ·exact⟨_,DK,hq⟩
    ·exact⟨_,Dn,hq⟩) (by
    rw [←A8];simp only [List.flatMap_cons,List.flatMap_nil,List.append_nil];rw [List.nodup_cons,List.nodup_append]at ME;obtain⟨n1,a1,a2,a3⟩:=ME;rw [List.nodup_cons,List.nodup_append,List.nodup_append];refine⟨fun hh=> ?_,a1,⟨X4,a2,fun x hx y hy Gu=>Fs x hx (by rw [Gu];simp [hy])⟩,fun x hx y hy Gu=> ?_⟩
    ·simp only [Ah]at hh n1;rcases hh with hh|hh|hh
     ·exact n1 (.inl hh)
     ·exact Fs b hh (by simp)
     ·exact n1 (.inr hh)
    ·rcases Ah.1 hy with hy|hy
     ·exact Fs y hy (by rw [←Gu];simp [hx])
     ·exact a3 x hx y hy Gu)
   (fun r hr q hq=>by
    have:q∈(c.G T).top∨q∈(c.G u).top:=by
     rw [←A8]at hr;simp only [Ae,List.not_mem_nil,or_false]at hr;rcases hr with rfl|rfl
     ·exact B1 q hq
     ·simp at hq
    refine⟨.inl (Ah.2 this), ?_⟩;rcases this with hh|hh
    ·exact h.gw.inb T q (by simp [GI.own,hh])
    ·exact h.gw.inb u q (by simp [GI.own,hh]))
   (fun r hr=>by rw [←A8]at hr;simp only [Ae,List.not_mem_nil,or_false]at hr;rcases hr with rfl|rfl<;>(intros;simp))
   (fun hk r hr=>by
    rw [←A8]at hr;simp only [Ae,List.not_mem_nil,or_false]at hr;rcases hr with rfl|rfl
    ·exact⟨kT1,fun g' Cj=>q2 g' (aft.old T FL g' Cj),by rw [keT,q3],by rw [kT2,kgT];exact A0,by rw [kgT]⟩
    ·exact⟨by rw [kgu],by rw [kgu]⟩)
  refine⟨?_,fun t ht=> ?_,by rw [keT];omega⟩
  ·have:(recs.map fun r=>(r.tag,Cy [] r.bf))= [(T, .deep e z l g (ep+1) (.set c0 i (.put (.idx c0 i) o' x (Ao P e)))),(u, .dead)]:=by
    rw [←A8];simp [Cy]
   rw [this]at Ap;exact Ap
  ·rcases ht with ht|⟨r,hr,rfl⟩
   ·exact ht
   ·rw [←A8]at hr;simp only [Ae,List.not_mem_nil,or_false]at hr;rcases hr with rfl|rfl
    ·exact FL
    ·exact Tp
 have Tp:c.U u:=h.cm u r hu;unfold Sr at hr;simp only at hr;split at hr
 ·rename_i e2 z2 l2 e3 z3 x BP;split at hr
  ·rename_i hh;obtain⟨hf,rfl,rfl,hlen,AA⟩:=hh;simp only [Af]at hr;obtain⟨q1,q2,N,q4,q5,q6,q7⟩:=h.ents u _ (by rw [hu];rfl);obtain⟨hN,_⟩:=q6 rfl;have hN:N= []:=hN;subst hN;exact key _ _ _ _ BP (DC.kq q4 hf hlen) Tp hr.symm (by rcases AA with hh|hh;(rw [hh];simp);exact fun _=>hh)
  ·cases hr
 ·rename_i e2 z2 l2 e3 z3 l3 x BP;split at hr
  ·rename_i hh;obtain⟨rfl,rfl,hb,AA⟩:=hh;simp only [Af]at hr;have hb:=AO.of_eq hb;subst hb;obtain⟨q1,q2,q3,q4,q5⟩:=h.ents u _ (by rw [hu];rfl);rw [AO.cr]at q4;exact key _ _ _ _ BP q4 Tp hr.symm (by rcases AA with hh|hh;(rw [hh];simp);exact fun _=>hh)
  ·cases hr
 ·cases hr
end
section
variable {P:Program} {c:Cx} {n nx:Nat} {sl sl0:Nat→SV} {hp hp0:Nat→Option Ai} {a:Act} {o:Oper} {gs:Gd} {e:AY} {sg:BC} {nv:Nat}
theorem Pv (hp:Nat→Option Ai): ∀(l:List (Nat × Ai)) (t:Nat),A2 hp l t=match KF l t with|some f=>some f|none=>hp t
 | [],t=>rfl
 |(u,e)::l,t=>by
  have:=Pv (fun v=>if v=u then some e else hp v) l t;simp only [A2,List.foldl_cons,KF]at this ⊢;rw [this];cases KF l t with
  |some f=>rfl
  |none=>
   simp only;by_cases h:u=t
   ·rw [if_pos h.symm,if_pos h]
   ·rw [if_neg (Ne.symm h),if_neg h]
theorem zrI {hp:Nat→Option Ai} {T v m u:Nat} {p:E × Nat × Nat} {h r:Ai} (hs:Su hp T v m u p=some (h,r)): ∃e z l ep c0 i o',h= .hol e z l v (m+1) c0 i o' u∧CP hp [] T=some (.deep e z l v ep c0)∧ep=m:=by
 unfold Su at hs;split at hs
 ·rename_i hl;split at hs
  ·rename_i hh;obtain⟨rfl,rfl,_⟩:=hh;split at hs
   ·simp only [Af,Prod.mk.injEq]at hs;obtain⟨rfl,_⟩:=hs;exact⟨_,_,_,_,_,_,_,rfl,hl,rfl⟩
   ·cases hs
  ·cases hs
 ·cases hs
theorem zsc {h r d:Ai} {e z:Nat} {l:List DT} {g ep:Nat} {c0 i:E} {o' u:Nat} (hh:h= .hol e z l g ep c0 i o' u) (hc:Sr P h r=some d): ∃x,d= .deep e z l g (ep+1) x:=by
 subst hh;unfold Sr at hc;simp only at hc;split at hc
 ·split at hc
  ·simp only [Af]at hc;exact⟨_,hc.symm⟩
  ·cases hc
 ·split at hc
  ·simp only [Af]at hc;exact⟨_,hc.symm⟩
  ·cases hc
 ·cases hc
theorem xB (IB: ∀f s,sg f=some s→f<1000000) (h:Bf P c n nx sl hp a sl0 hp0 o []) (hu: ¬c.U (nx+999)) (he:SN P sg sl0 hp0 nv nx o=some e)
  (hc: ∀q∈e.bw,q.den c.ρ) (A3: ∀cl,e.call=some cl→ ∃r,c.ρ[nv]?=some r∧Hz (B6 P sg) cl.fn ((EL.of cl.args).den c.ρ) c.ρ r):Az P o c n nx sl hp [] a e:=by
 unfold SN at he;simp only at he;split at he
 ·cases he
 rename_i t T v m p s K4;split at he
 ·cases he
 rename_i hl inn Ka;split at he
 ·cases he
 rename_i e0 J0;split at he
 ·cases he
 rename_i Ct;have Ct:e0.bt=none:=by cases hh:e0.bt with|none=>rfl|some x=>rw [hh]at Ct;simp at Ct
 obtain⟨E2,A6⟩:=RX K4;have E2:Operand.tmp t∈o.op.operands:=by simpa using E2
 obtain⟨fe,fz,fl,fep,fc0,fi,fo,rfl,GO,rfl⟩:=zrI Ka;have hE:c.E T=fep:=(h.eh T _ (CD GO (Em _))).2.2.1;have D7:=h.rel.cx t;rw [←h.sl t E2]at D7;obtain⟨vv,Iy,AU⟩: ∃vv,HE c T v (some p) vv∧ ∀c1:Cx,c1.ρ=c.ρ→c1.K (nx+999) 0→c1.H (nx+999) 0=vv→(∃q n r,vv= .slice q n r∧(q=none∨n=0∨ ∃g,q=some ⟨g,0,none⟩))→SR c1 [s] [a.tmps.getD t undef]:=by
  rcases A6 with⟨y,Cu,rfl⟩|⟨y,k,z,q,Cu,rfl⟩
  ·rw [Cu]at D7;generalize a.tmps.getD t undef=av at D7 ⊢;cases D7 with
   |via h1 h2 h3 _=>obtain⟨_,hp⟩:=h3 hE;refine⟨_,hp,fun c1 e1 k1 k2 k3=> ?_⟩;obtain⟨q,n,r,rfl,_⟩:=k3;exact .own k1 k2 .nil
  ·rw [Cu]at D7;generalize a.tmps.getD t undef=av at D7 ⊢;cases D7 with
   |vptr h1 h2 h3 _=>
    obtain⟨b,off,len,cap,kk,kv,g1,g2,g3,g4,g5,g6,rfl⟩:=h3 hE;refine⟨_,g2,fun c1 e1 k1 k2 k3=> ?_⟩;obtain⟨q9,n9,r9,hv,hq⟩:=k3;cases hv;have FD:off=0:=by
     rcases hq with hq|hq|⟨g,hq⟩
     ·cases hq
     ·omega
     ·cases hq;rfl
    subst FD;have:=SR.cq (c:=c1) (i:=k) (sz:=z) (o:=q) k1 k2 (by rw [e1];exact g3) g4 g5 .nil;simpa using this
 obtain⟨recs,c1,rfl,CM,MA,WR,JQ,wL,W6,hKT,_,fY,Ic⟩:=h.rel.split Ka h.hp hu (fun _=>Iy);have Kb:=AU _ MA.ρ WR JQ wL;have EK:=CM.jd (sl':=fun i=>if i=t then s else sl i) (fun i=>by
  by_cases hi:i=t
  ·subst hi;right;simpa using Kb
  ·left;simp [hi])
 have Dq: ∀x,A2 hp [(T, .hol fe fz fl v (fep+1) fc0 fi fo (nx+999)),(nx+999,inn)] x=if x=nx+999 then some inn else if x=T then some (.hol fe fz fl v (fep+1) fc0 fi fo (nx+999))else hp x:=fun x=>rfl;have pre1:Bf P (c.dj c.w recs) n nx (fun i=>if i=t then s else sl i) (A2 hp [(T, .hol fe fz fl v (fep+1) fc0 fi fo (nx+999)),(nx+999,inn)]) a (fun i=>if i=t then s else sl0 i) (fun w=>if w=T then some (.hol fe fz fl v (fep+1) fc0 fi fo (nx+999))else if w=nx+999 then some inn else hp0 w) o []:=by
  refine⟨EK,Em _,fun i hi=> ?_,fun x f hf=> ?_,fun x h1 h2 hx=> ?_⟩
  ·by_cases hit:i=t
   ·simp [hit]
   ·simp only [if_neg hit];exact h.sl i hi
  ·rw [Dq];by_cases h1:x=T
   ·rw [if_pos h1]at hf;rw [if_neg (by rw [h1];exact Ic),if_pos h1];exact hf
   ·rw [if_neg h1]at hf;by_cases h2:x=nx+999
    ·rw [if_pos h2]at hf ⊢;exact hf
    ·rw [if_neg h2]at hf;rw [if_neg h2,if_neg h1];exact h.hp x f hf
  ·rcases W6 x hx with hx|hx
   ·exact h.new x h1 h2 hx
   ·omega
 have uL: ∀(c':Cx) (a':Act) (w9:SV),Rel c' n (Cq n (fun i=>if i=t then s else sl i) o.dst w9) (fun _=>none) a'→True:=fun _ _ _ _=>trivial;have stale: ∀(c':Cx) (v':Value),c'.K T v→fep<c'.E T→SR c' [sl t] [v']:=by
  intro c' v' hk Ax;rw [←h.sl t E2];rcases A6 with⟨y,Cu,_⟩|⟨y,k,z,q,Cu,_⟩
  ·rw [Cu];exact .via hk (by omega) (fun hh=>by omega) .nil
  ·rw [Cu];exact .vptr hk (by omega) (fun hh=>by omega) .nil
 have back: ∀{c':Cx} {hp':Nat→Option Ai} {a':Act} {w9:SV},Rel c' n (Cq n (fun i=>if i=t then s else sl i) o.dst w9) hp' a'→c'.K T v→fep<c'.E T→Rel c' n (Cq n sl o.dst w9) hp' a':=by
  intro c' hp' a' w9 hr hk Ax;refine hr.jd fun i=> ?_;unfold Cq;by_cases h1:o.dst=some i∧i<n
  ·left;rw [if_pos h1,if_pos h1]
  ·rw [if_neg h1,if_neg h1];by_cases h2:i=t
   ·subst h2;right;exact stale _ _ hk Ax
   ·left;show sl i=if i=t then s else sl i;rw [if_neg h2]
 split at he
 ·
  split at he
  ·rename_i QJ;simp only [Af]at he;subst he;have Ij:=fM IB pre1 J0 hc A3 (fun x hx=>by rw [Ct]at hx;cases hx);intro next Q hk
   refine Ij next Q fun a' c' A1 hr=> ?_
   have W4:A2 (A2 hp [(T, .hol fe fz fl v (fep+1) fc0 fi fo (nx+999)),(nx+999,inn)]) e0.bf T=some (.hol fe fz fl v (fep+1) fc0 fi fo (nx+999)):=by rw [Pv,QJ,Dq,if_neg Ic,if_pos rfl]
   obtain⟨g1,_,g3,_⟩:=hr.ents T _ (by rw [W4];rfl);refine hk a' c' ⟨A1.ρ,A1.A,A1.w0,A1.Mu,fun x hx=> ?_⟩ (back hr g1 (by omega));rcases A1.U x hx with hx|hx
   ·rcases W6 x hx with hx|hx
    ·exact .inl hx
    ·exact .inr ⟨by omega,by simp only [Br];omega⟩
   ·exact .inr hx
  ·cases he
 ·split at he
  ·rename_i r' u9 u5;obtain⟨d,hd,rfl⟩:=Aq.1 he;have Ij:=fM IB pre1 J0 hc A3 (fun x hx=>by rw [Ct]at hx;cases hx);intro next Q hk
   refine Ij next Q fun a' c' A1 hr=> ?_
   have W4:A2 (A2 hp [(T, .hol fe fz fl v (fep+1) fc0 fi fo (nx+999)),(nx+999,inn)]) e0.bf T=some (.hol fe fz fl v (fep+1) fc0 fi fo (nx+999)):=by rw [Pv,u5,Dq,if_neg Ic,if_pos rfl]
   have wH:A2 (A2 hp [(T, .hol fe fz fl v (fep+1) fc0 fi fo (nx+999)),(nx+999,inn)]) e0.bf (nx+999)=some r':=by rw [Pv,u9]
   obtain⟨recs2,c2,rfl,C6,tY,hE2⟩:=hr.close W4 wH hd ⟨_,_,_,_,_,_,_,_,rfl⟩ Ic;obtain⟨x9,rfl⟩:=zsc rfl hd;have W5:A2 (A2 (A2 hp [(T, .hol fe fz fl v (fep+1) fc0 fi fo (nx+999)),(nx+999,inn)]) e0.bf) [(T, .deep fe fz fl v (fep+1+1) x9),(nx+999, .dead)] T=some (.deep fe fz fl v (fep+1+1) x9):=by show(if T=nx+999 then _ else if T=T then _ else _)=_;rw [if_neg Ic,if_pos rfl]
   obtain⟨g1,_,g3,_⟩:=C6.ents T _ (by rw [W5];rfl);have Dm:=back C6 g1 (by omega);have Bg:A2 hp ((T, .hol fe fz fl v (fep+1) fc0 fi fo (nx+999))::(nx+999,inn)::e0.bf++ [(T, .deep fe fz fl v (fep+1+1) x9),(nx+999, .dead)])=A2 (A2 (A2 hp [(T, .hol fe fz fl v (fep+1) fc0 fi fo (nx+999)),(nx+999,inn)]) e0.bf) [(T, .deep fe fz fl v (fep+1+1) x9),(nx+999, .dead)]:=by rw [←Nq,←Nq];rfl
   refine hk a' (c'.dj c'.w recs2) ⟨A1.ρ,A1.A,A1.w0,A1.Mu,fun x hx=> ?_⟩ ?_
   ·rcases A1.U x (tY x hx)with hx|hx
    ·rcases W6 x hx with hx|hx
     ·exact .inl hx
     ·exact .inr ⟨by omega,by simp only [Br];omega⟩
    ·exact .inr hx
   ·have:=Dm;rw [←Bg]at this;exact this
  ·cases he
theorem zxi (h:Bf P c n nx sl hp a sl0 hp0 o gs) {e:AY} (dp:Bool) (hd:Az P o c n nx sl hp gs a e):Az P o c n nx sl hp gs a (I9 dp hp0 gs e):=by
 unfold I9;split
 ·exact hd
 ·split
  ·rename_i l hl;intro next Q hk
   refine hd next Q fun a' c' hs hr=> ?_
   have e1:A2 hp0 e.bf=fun t=>match KF e.bf t with|some f=>some f|none=>hp0 t:=funext (Pv hp0 e.bf)
   have hl:Df (A2 hp0 e.bf) [] (qG e.bf)=some l:=by rw [e1];exact hl
   have HM:=hr.freeze (hp0:=A2 hp0 e.bf) (fun t e' h'=>by
    rw [Pv]at h' ⊢;split at h'
    ·exact h'
    ·exact h.hp t e' h') (Em _) hl
   refine hk a' (c'.bm (l.map (·.1))) ⟨hs.ρ,hs.A,hs.w0,hs.Mu,hs.U⟩ ?_;show Rel _ _ _ (A2 hp (e.bf++l)) a';rw [Nq];exact HM
  ·exact hd
theorem zvf (dp:Bool) (e:AY):(I9 dp hp0 gs e).call=e.call:=by
 unfold I9;split
 ·rfl
 ·split<;>rfl
theorem zxI (dp:Bool) (e:AY):(I9 dp hp0 gs e).bw=e.bw:=by
 unfold I9;split
 ·rfl
 ·split<;>rfl
theorem bQ (dp:Bool) (e:AY):(I9 dp hp0 gs e).bt=e.bt:=by
 unfold I9;split
 ·rfl
 ·split<;>rfl
theorem zv9 {dp:Bool} {e:AY} {x:E} (h:e.bt=some x):I9 dp hp0 gs e=e:=by unfold I9;rw [if_pos (by simp [h])]
theorem zyN (h:Bf P c n nx sl hp a sl0 hp0 o gs) {e:AY} (fz:Bool) (hd:Az P o c n nx sl hp gs a e):Az P o c n nx sl hp gs a (Jb fz hp0 gs e):=by
 unfold Jb;split
 ·exact hd
 ·rename_i Xc;simp only [Bool.or_eq_true,not_or]at Xc;have uM:e.bf= []:=by simpa using Xc.2
  split
  ·rename_i t g m p x hv;split
   ·rename_i y l hy hl;split
    ·rename_i Iw;intro next Q hk
     refine hd next Q fun a' c' hs hr=> ?_
     rw [uM]at hr;have XC:gs= []:=by simpa using Xc.1.1.1.2
     subst XC;have hr:Rel c' n (Cq n sl o.dst e.val) hp a':=hr;have eh:EH c' hp0:=fun t e CR=>hr.ents t e (KJ h.hp CR);have HM:=hr.freeze h.hp (Em _) hl;refine hk a' (c'.bm (l.map (·.1))) ⟨hs.ρ,hs.A,hs.w0,hs.Mu,hs.U⟩ ?_;refine{HM with cx:=fun i=> ?_};have h1:=hr.cx i;have h2:=HM.cx i;unfold Cq at h1 h2 ⊢;split
     ·rename_i hi;rw [if_pos hi]at h1;obtain⟨f,q1,q2⟩:=G7 eh (Em _) AT hy h1 AT (Nat.le_refl _);exact .e q1 (fun b hb=>R2 hr eh (Em _) hl Iw (q2 b hb)) .nil
     ·rename_i hi;rw [if_neg hi]at h2;exact h2
    ·exact hd
   ·exact hd
  ·exact hd
theorem zxk (fz:Bool) (e:AY):(Jb fz hp0 gs e).call=e.call:=by
 unfold Jb;split
 ·rfl
 ·split
  ·split
   ·split<;>rfl
   ·rfl
  ·rfl
theorem zx7 (fz:Bool) (e:AY):(Jb fz hp0 gs e).bw=e.bw:=by
 unfold Jb;split
 ·rfl
 ·split
  ·split
   ·split<;>rfl
   ·rfl
  ·rfl
theorem o5 (fz:Bool) (e:AY):(Jb fz hp0 gs e).bt=e.bt:=by
 unfold Jb;split
 ·rfl
 ·split
  ·split
   ·split<;>rfl
   ·rfl
  ·rfl
theorem zx6 {fz:Bool} {e:AY} {x:E} (h:e.bt=some x):Jb fz hp0 gs e=e:=by unfold Jb;rw [if_pos (by simp [h])]
theorem zP (IB: ∀f s,sg f=some s→f<1000000):NP P sg (B6 P sg):=by
 intro c n nx sl hp a sl0 hp0 o gs e nv h hu he hc A3 Ct;unfold KS at he;split at he
 ·rename_i e' Ei;simp only [Af]at he;subst he;rw [zx7,zxI]at hc;rw [zxk,zvf]at A3;rw [o5,bQ]at Ct;exact zyN h _ (zxi h _ (fM IB h Ei hc A3 Ct))
 ·split at he
  ·exact xB IB h hu he hc A3
  ·cases he
theorem ztm {x:E} (he:SN P sg sl0 hp0 nv nx o=some e) (hq:e.bt=some x):False:=by
 unfold SN at he;simp only at he;split at he
 ·cases he
 split at he
 ·cases he
 split at he
 ·cases he
 rename_i e0 J0;split at he
 ·cases he
 rename_i Ct;have Ct:e0.bt=none:=by cases hh:e0.bt with|none=>rfl|some x=>rw [hh]at Ct;simp at Ct
 split at he
 ·split at he
  ·simp only [Af]at he;subst he;rw [Ct]at hq;cases hq
  ·cases he
 ·split at he
  ·obtain⟨d,hd,rfl⟩:=Aq.1 he;rw [Ct]at hq;cases hq
  ·cases he
theorem zs3 {x:E} (he:KS P sg sl0 hp0 nv nx gs o=some e) (hq:e.bt=some x):Bq P sg sl0 hp0 nv nx gs o=some e:=by
 unfold KS at he;split at he
 ·rename_i e' Ei;simp only [Af]at he;subst he;rw [o5,bQ]at hq;rw [zx6 (by rw [bQ];exact hq),zv9 hq];exact Ei
 ·split at he
  ·exact(ztm he hq).elim
  ·cases he
theorem yR:S2 P sg:=by
 intro c n nx sl hp a sl0 hp0 o gs e nv x h he hq hb;unfold Jx at hb;cases AK:o.op with
 |binOp op t y z ty=>
  rw [AK]at hb;simp only at hb;have he:=zs3 he hq;simp only [Bq,AK,Au]at he;obtain⟨s1,Bu,s2,AU,he⟩:=he;have key: ∀xq,Be hp0 gs AT s1=some xq→xq.den c.ρ= .sl []:=by
   intro xq II;obtain⟨f,q1,_⟩:=h.j3 Bu (by simp [AK,Op.operands]) II;generalize a.eval y=v at q1 hb;split at hb
   ·generalize xq.den c.ρ=d at q1;cases q1 with
    |dw _=>rfl
   ·cases hb
  unfold PR at he;split at he
  ·split at he
   ·simp at he;subst he;cases hq
   ·simp at he;subst he;cases hq
   ·obtain⟨xq,II,rfl⟩:=Aq.1 he;cases hq;exact key _ II
   ·obtain⟨xq,II,rfl⟩:=Aq.1 he;cases hq;exact key _ II
   ·cases he
  ·split at he
   ·simp at he;subst he;cases hq
   ·cases he
  ·split at he
   ·simp at he;subst he;cases hq
   ·cases he
  ·split at he
   ·simp at he;subst he;cases hq
   ·cases he
  ·split at he
   ·cases he
   ·split at he
    ·split at he
     ·simp at he;subst he;cases hq
     ·simp at he;subst he;cases hq
     ·cases he
    ·cases he
  ·cases he
 |_=>rw [AK]at hb;simp at hb
end
end Go.Proofs.YtollgpkegmbpmaaGreatDoor
end

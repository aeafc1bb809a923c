/- Parts of a proof, joined: WP, WQ, WR, WRa, WRb, WRc, WRd, WRe, WS, WSa, WSb. -/
import Derived.Test.YtbmbkgalkfmjdaaGreatDoorY4
set_option linter.unusedVariables false
set_option linter.unusedSimpArgs false
section
namespace Go.Proofs.YtbmbkgalkfmjdaaGreatDoor
open Go.RowKit
theorem AH.{u} {α:Type u} {a:α}:[a].length=1:=rfl
section
variable {P:Program} {c:Cx} {hp:Nat→Option Aj} {gs:Gd}
theorem zxH (hb:RA c) (eh:EH c hp) (k:Bm c.ρ gs) (hU: ∀t g,c.K t g→c.U t): ∀(ss:List SV) {ts:List TypeId} {ms:List PM} {lo:List Bool} {es:List E} {bs:List PA} {us uz:List Nat} {vs:List Value},Vg P hp gs ts ms lo ss=some (es,bs,us,uz)→SR c ss vs→ts.length≤ss.length→
  ∃rf lf hs,DU P c.w ts ms lo vs (es.map (E.den c.ρ)) rf lf hs∧(∀b∈rf,c.fh us b)∧(∀b∈lf,c.fh uz b∨b<c.w0.heap.size∧ ¬c.Mu b)∧hs=(DR bs).flatMap (fun t=>(c.G t).top)∧Jv P c ts ms vs bs∧(∀u∈DR bs,c.U u)∧(bs≠ []→gs= [])
 | [],ts,ms,lo,es,bs,us,uz,vs,h,hs,hl=>by simp [Vg]at h;obtain⟨rfl,rfl,rfl,rfl⟩:=h;cases hs;have:ts= []:=List.eq_nil_of_length_eq_zero (by simpa using hl);subst this;exact⟨[], [], [], .nil,by simp,by simp,by simp [DR], .nil,by simp [DR],by simp⟩
 |s::ss,ts,ms,lo,es,bs,us,uz, [],h,hs,hl=>by have:=hs.len;simp at this
 |s::ss,ts,ms,lo,es,bs,us,uz,v::vs,h,hs,hl=>by
  obtain⟨r1,r2⟩:=hs.ct;unfold Vg at h;split at h
  ·cases h
  rename_i ys bs' us' uz' Dj;obtain⟨rf,lf,Bl,q1,q2,qz,q3,q4,q5,q6⟩:=zxH hb eh k hU ss Dj r2 (by simp at hl ⊢;omega);have see1: ∀{a b:List Nat} {x:Nat},c.fh a x→c.fh (a++b) x:=fun h=>h.mono fun t ht=>by simp [ht]
  have see2: ∀{a b:List Nat} {x:Nat},c.fh b x→c.fh (a++b) x:=fun h=>h.mono fun t ht=>by simp [ht]
  split at h
  ·rename_i hm;split at h
   ·rename_i Ci;simp only [Ae,Bool.not_eq_true']at Ci;obtain⟨t,ts,rfl⟩: ∃t ts',ts=t::ts':=by
     cases ts with
     |nil=>simp at Ci
     |cons t ts=>exact⟨t,ts,rfl⟩
    split at h
    ·rename_i i;simp only [Ah,Prod.mk.injEq]at h;obtain⟨rfl,rfl,rfl,rfl⟩:=h;cases r1 with
     |lent g1 _=>obtain⟨f,p1,p2⟩:=hb.lo _ _ g1;have hw:Rd c.w [v] [(E.var i).den c.ρ] f:=p1.frame fun b Cc=>hb.block b (p1.inb b Cc) (p2 b Cc);exact⟨rf,f++lf,Bl, .lent Ci.1 hm hw q1,q2,fun b Cc=>(Ai.1 Cc).elim (fun Cc=> .inr ⟨p1.inb b Cc,p2 b Cc⟩) (qz b),q3, .ro hm q4,q5,q6⟩
    ·obtain⟨x,hx,hh⟩:=Av.1 h;simp only [Prod.mk.injEq]at hh;obtain⟨rfl,rfl,rfl,rfl⟩:=hh;obtain⟨f,p1,p2⟩:=Io eh k A4 hx r1 A4 (Nat.le_refl _);exact⟨rf,f++lf,Bl, .lent Ci.1 hm p1 q1,q2,fun b Cc=>(Ai.1 Cc).elim (fun Cc=> .inl (see1 (p2 b Cc))) (fun Cc=>(qz b Cc).imp see2 id),q3, .ro hm q4,q5,q6⟩
   obtain⟨x,hx,hh⟩:=Av.1 h;simp only [Prod.mk.injEq]at hh;obtain⟨rfl,rfl,rfl,rfl⟩:=hh;obtain⟨f,p1,p2⟩:=Io eh k A4 hx r1 A4 (Nat.le_refl _);have hb: ∀b∈f++rf,c.fh (BW hp gs (A4+1) [s]++us') b:=fun b hb=>by
    rcases Ai.1 hb with hb|hb
    ·exact see1 (p2 b hb)
    ·exact see2 (q2 b hb)
   cases ts with
   |nil=>exact⟨f++rf,lf,Bl, .free p1 q1,hb,qz,q3, .ro hm q4,q5,q6⟩
   |cons t ts=>exact⟨f++rf,lf, []++Bl, .cons (by rw [hm];exact⟨p1,rfl⟩) q1,hb,qz,q3, .ro hm q4,q5,q6⟩
  ·rename_i own own' hm;split at h
   ·rename_i ty T Bt;split at h
    ·rename_i ty' g cs G4;split at h
     ·cases h
     rename_i A3;have A3:ty'=ty:=by simpa using A3
     subst A3;split at h
     ·rename_i xs rs vs' CO DP;simp only [Ah,Prod.mk.injEq]at h;obtain⟨rfl,rfl,rfl,rfl⟩:=h;obtain⟨t,ts,rfl,Ex⟩: ∃t ts',ts=t::ts'∧KW P t=some ty':=by
       cases ts with
       |nil=>simp at Bt
       |cons t ts=>exact⟨t,ts,rfl,by simpa using Bt⟩
      obtain⟨b,C,g1,g2,g3,g4,g5,g6,g7⟩:=eh T _ (C7 G4 k);obtain⟨f,h8,p1,p2,p3,p4,p5⟩:=pB (P:=P) eh k hU (A8 P ty') DP g7 CO (Nat.le_refl _);have hv:v= .pointer (some ⟨b,0,none⟩):=by
       cases r1 with
       |cw k1 k2 _=>rw [g2]at k2;cases k2;rfl
      refine⟨f++rf,lf,(b::h8)++Bl, .cons ?_ q1,fun x hx=> ?_,qz,by simp [DR,p3,q3,g3], .bx hm Ex hv g1 (by rw [g2,hv]) p5 q4,fun u hu=> ?_,fun _=>rfl⟩
      ·rw [hm];exact⟨ty',b,C,xs.den c.ρ,h8,Ex,hv,g5,g6,rfl,p1,rfl⟩
      ·rcases Ai.1 hx with hx|hx
       ·exact see1 (p2 x hx)
       ·exact see2 (q2 x hx)
      ·simp only [DR,List.cons_append,Ag,Ai]at hu;rcases hu with rfl|hu|hu
       ·exact hU _ _ g1
       ·exact p5 u hu
       ·exact q5 u hu
     ·cases h
    ·cases h
   ·cases h
  ·rename_i own hm;split at h
   ·rename_i t x Bt hx;split at h
    ·cases h
    rename_i AG;have AG:(Ik s).2=As P t:=by simpa using AG
    split at h
    ·rename_i rs vs' DP;simp only [Ah,Prod.mk.injEq]at h;obtain⟨rfl,rfl,rfl,rfl⟩:=h;obtain⟨ts,rfl⟩: ∃ts',ts=t::ts':=by
      cases ts with
      |nil=>simp at Bt
      |cons t' ts=>simp at Bt;exact⟨ts,by rw [Bt]⟩
     obtain⟨f,h8,p1,p2,p3,⟨vs9,p4,p5⟩,p6⟩:=zsA (P:=P) eh k hU r1 hx AG DP;refine⟨f++rf,lf,h8++Bl, .cons (by rw [hm];exact p1) q1,fun x hx=> ?_,qz,by simp [DR,p3,q3],by rw [AG];exact .mu hm p4 p5 q4,fun u hu=> ?_,fun _=>rfl⟩
     ·rcases Ai.1 hx with hx|hx
      ·exact see1 (p2 x hx)
      ·exact see2 (q2 x hx)
     ·simp only [DR,Ai]at hu;exact hu.elim (p6 u) (q5 u)
    ·cases h
   ·cases h
  ·rename_i own hm;split at h
   ·rename_i t x Bt hx;split at h
    ·cases h
    rename_i AG;have AG:(Ik s).2=As P t:=by simpa using AG
    split at h
    ·rename_i rs vs' DP;simp only [Ah,Prod.mk.injEq]at h;obtain⟨rfl,rfl,rfl,rfl⟩:=h;obtain⟨ts,rfl⟩: ∃ts',ts=t::ts':=by
      cases ts with
      |nil=>simp at Bt
      |cons t' ts=>simp at Bt;exact⟨ts,by rw [Bt]⟩
     obtain⟨f,h8,p1,p2,p3,⟨vs9,p4,p5⟩,p6⟩:=zsA (P:=P) eh k hU r1 hx AG DP;refine⟨f++rf,lf,h8++Bl, .cons (by rw [hm];exact p1) q1,fun x hx=> ?_,qz,by simp [DR,p3,q3], .va hm p6 q4,fun u hu=> ?_,fun _=>rfl⟩
     ·rcases Ai.1 hx with hx|hx
      ·exact see1 (p2 x hx)
      ·exact see2 (q2 x hx)
     ·simp only [DR,Ai]at hu;exact hu.elim (p6 u) (q5 u)
    ·cases h
   ·cases h
end
inductive GY (P:Program) (w:World):List TypeId→List Bool→List Value→List AV→List Nat→List Nat→Prop where
 |nil {fl}:GY P w [] fl [] [] [] []
 |own {t ts fl el u us y ys top N f o}:fl.headD false=true→CP P t=some el→(Cg P el=true∧N= []∨Cg P el=false∧Ek P t=none)→C8 w el (P.cellsOf el) u y top N→GY P w ts fl.tail us ys f o→GY P w (t::ts) fl (u::us) (y::ys) (N++f) (top++o)
 |deep {t ts fl el e z l u us y ys top f o}:fl.headD false=true→CP P t=some el→Cg P el=false→Ek P t=some (.row e z l)→DC w [.row e z l] [u] [y] top→GY P w ts fl.tail us ys f o→GY P w (t::ts) fl (u::us) (y::ys) f (top++o)
 |skip {t ts fl u us y ys f o}:(fl.headD false=true→CP P t=none)→GY P w ts fl.tail us ys f o→GY P w (t::ts) fl (u::us) (y::ys) f o
inductive D7 (P:Program) (w:World):List TypeId→List PM→List Value→List AV→List Nat→List Nat→Prop where
 |nil {ms vs}:D7 P w [] ms vs [] [] []
 |ro {t ts ms v vs bs f o}:ms.headD .ro= .ro→D7 P w ts ms.tail vs bs f o→D7 P w (t::ts) ms (v::vs) bs f o
 |va {t ts ms own v vs bs f o}:ms.headD .ro= .va own→D7 P w ts ms.tail vs bs f o→D7 P w (t::ts) ms (v::vs) bs f o
 |mu {t ts ms own v vs us ys y bs f1 f o1 o}:ms.headD .ro= .mu own→(if As P t then v= .agg us.toArray∧y= .agg ys else us= [v]∧ys= [y])→GY P w (A8 P t) own us ys f1 o1→D7 P w ts ms.tail vs bs f o→D7 P w (t::ts) ms (v::vs) (y::bs) (f1++f) (o1++o)
 |bx {t ts ms own own' ty b C v vs ys y bs f1 o1 f o}:ms.headD .ro= .bx own own'→KW P t=some ty→v= .pointer (some ⟨b,0,none⟩)→w.heap[b]?=some (.cells C ty (0,0))→(∀u∈C.toList,u.oneCell'=true)→y= .agg ys→Cz P w (A8 P ty) own' C.toList ys f1 o1→
   D7 P w ts ms.tail vs bs f o→D7 P w (t::ts) ms (v::vs) (y::bs) (f1++f) (b::o1++o)
section
variable {P:Program} {c:Cx} {w':World}
theorem zzM {mk:Nat→E} {ts:List TypeId} {fl:List Bool} {us:List Value} {rs:List (Option RI)} (h:He P c ts fl us rs) (hU: ∀t g,c.K t g→c.U t): ∀{ys:List AV} {f o:List Nat} (j:Nat),GY P w' ts fl us ys f o→(∀i y,ys[i]?=some y→(mk (j+i)).den c.ρ=y)→
  ∃recs:List AX,MI mk j rs=recs.map AX.pair∧(recs.flatMap AX.top).Sublist o∧(∀r∈recs,r.new=none∧c.U r.tag∧ ∀hs f,r.bu≠ .gd hs f)∧recs.map AX.tag=CL rs∧ ∀c',Fq c c' w' recs→(∀b∈f,c'.ok b)→ ∀r∈recs,Dq c' r.tag r.bu:=by
 induction h with
 |nil=>intro ys f o j hm _;cases hm;exact⟨[],rfl,by simp,by simp,rfl,by simp⟩
 | @row t ts fl v vs u g el rs h1 h2 T3 h3 h4 h5 _ ih=>
  intro ys f o j hm GA;cases hm with
  |skip hh _=>rw [hh h1]at h2;cases h2
  |deep _ k2 k21 k22 _ _=>
   rw [h2]at k2;cases k2;rcases T3 with hh|hh
   ·rw [hh]at k21;cases k21
   ·rw [hh]at k22;cases k22
  | @own _ _ _ el' _ _ y ys top N f o k1 k2 k23 k3 k4=>
   rw [h2]at k2;cases k2;obtain⟨recs,e1,e2,e3,e4,e5⟩:=ih (j+1) k4 (fun i y hy=>by rw [show j+1+i=j+(i+1)from by omega];exact GA (i+1) y (by simpa using hy));have hy:=GA 0 y rfl;refine⟨⟨u,none,top, .row el (P.cellsOf el) g (mk j) (Cg P el)⟩::recs,by simp [MI,e1,AX.pair],by simpa using(List.Sublist.refl top).append e2,fun r hr=> ?_,by simp [CL,RI.tag,e4],fun c' ha Az r hr=> ?_⟩
   ·rcases Ag.1 hr with rfl|hr
    ·exact⟨rfl,hU _ _ h3,by simp⟩
    ·exact e3 r hr
   ·rcases Ag.1 hr with rfl|hr
    ·obtain⟨a1,a2⟩:=ha.K u g h3;have kg:=ha.G _ (List.mem_cons_self ..);simp only at kg;refine⟨a1,fun g' Cm=>h5 g' (ha.old u (hU _ _ h3) g' Cm),N, ?_,fun b hb=>Az b (by simp [hb]),fun hd=> ?_,fun _=>by rw [kg]⟩
     rotate_left
     ·rcases k23 with⟨_,h⟩|⟨h,_⟩
      ·subst h;exact⟨rfl,by rw [kg]⟩
      ·rw [h]at hd;cases hd
     have Bz:(mk j).den c.ρ=y:=by simpa using hy
     rw [a2,h4,kg,ha.w,ha.ρ,Bz];exact k3
    ·exact e5 c' (ha.mono fun r hr=>by simp [hr]) (fun b hb=>Az b (by simp [hb])) r hr
 | @deep t ts fl v vs u g el e z l ep rs h1 h2 T2 QS h3 h4 h5 h6 _ ih=>
  intro ys f o j hm GA;cases hm with
  |skip hh _=>rw [hh h1]at h2;cases h2
  |own _ k2 k23 _ _=>
   rw [h2]at k2;cases k2;rcases k23 with⟨hh,_⟩|⟨_,hh⟩
   ·rw [hh]at T2;cases T2
   ·rw [hh]at QS;cases QS
  | @deep _ _ _ el' e' z' l' _ _ y ys top f o k1 k2 k21 k22 k3 k4=>
   rw [QS]at k22;cases k22;obtain⟨recs,e1,e2,e3,e4,e5⟩:=ih (j+1) k4 (fun i y hy=>by rw [show j+1+i=j+(i+1)from by omega];exact GA (i+1) y (by simpa using hy));have hy:=GA 0 y rfl;refine⟨⟨u,none,top, .deep e z l g (ep+1) (mk j)⟩::recs,by simp [MI,e1,AX.pair],by simpa using(List.Sublist.refl top).append e2,fun r hr=> ?_,by simp [CL,RI.tag,e4],fun c' ha Az r hr=> ?_⟩
   ·rcases Ag.1 hr with rfl|hr
    ·exact⟨rfl,hU _ _ h3,by simp⟩
    ·exact e3 r hr
   ·rcases Ag.1 hr with rfl|hr
    ·obtain⟨a1,a2⟩:=ha.K u g h3;have kg:=ha.G _ (List.mem_cons_self ..);have ke:=ha.jo _ (List.mem_cons_self ..) rfl;simp only at kg ke;refine⟨a1,fun g' Cm=>h5 g' (ha.old u (hU _ _ h3) g' Cm),by rw [ke,h6], ?_,by rw [kg]⟩;have Bz:(mk j).den c.ρ=y:=by simpa using hy
     rw [a2,h4,kg,ha.w,ha.ρ,Bz];exact k3
    ·exact e5 c' (ha.mono fun r hr=>by simp [hr]) (fun b hb=>Az b (by simp [hb])) r hr
 | @none t ts fl v vs rs _ _ ih=>
  intro ys f o j hm GA;have go: ∀{y:AV} {ys':List AV} {f' o':List Nat},ys=y::ys'→GY P w' ts fl.tail vs ys' f' o'→(∀b∈f',b∈f)→o'.Sublist o→ ∃recs:List AX,MI mk j (none::rs)=recs.map AX.pair∧(recs.flatMap AX.top).Sublist o∧(∀r∈recs,r.new=none∧c.U r.tag∧ ∀hs f,r.bu≠ .gd hs f)∧recs.map AX.tag=CL (none::rs)∧ ∀c',Fq c c' w' recs→(∀b∈f,c'.ok b)→ ∀r∈recs,Dq c' r.tag r.bu:=by rintro y ys' f' o' rfl Gz hf hs;obtain⟨recs,e1,e2,e3,e4,e5⟩:=ih (j+1) Gz (fun i y hy=>by rw [show j+1+i=j+(i+1)from by omega];exact GA (i+1) y (by simpa using hy));exact⟨recs,by simp [MI,e1],e2.trans hs,e3,by simp [CL]at e4 ⊢;exact e4,fun c' ha Az=>e5 c' ha fun b hb=>Az b (hf b hb)⟩
  cases hm with
  |skip _ h8=>exact go rfl h8 (fun _ h=>h) (List.Sublist.refl _)
  |own _ _ _ _ h8=>exact go rfl h8 (fun b hb=>by simp [hb]) (List.sublist_append_right _ _)
  |deep _ _ _ _ _ h8=>exact go rfl h8 (fun _ h=>h) (List.sublist_append_right _ _)
theorem zvD (us:List Nat) (hU: ∀u∈us,c.U u): ∃recs:List AX,FD us=recs.map AX.pair∧recs.flatMap AX.top= []∧(∀r∈recs,r.new=none∧c.U r.tag∧ ∀hs f,r.bu≠ .gd hs f)∧recs.map AX.tag=us∧ ∀c',Fq c c' w' recs→ ∀r∈recs,Dq c' r.tag r.bu:=by
 induction us with
 |nil=>exact⟨[],rfl,rfl,by simp,rfl,by simp⟩
 |cons u us ih=>
  obtain⟨recs,e1,e2,e3,e4,e5⟩:=ih fun u hu=>hU u (by simp [hu]);refine⟨⟨u,none, [], .dead⟩::recs,by simp only [FD]at e1;simp [FD,e1,AX.pair],by simp [e2],fun r hr=> ?_,by simp [e4],fun c' ha r hr=> ?_⟩
  ·rcases Ag.1 hr with rfl|hr
   ·exact⟨rfl,hU _ (by simp),by simp⟩
   ·exact e3 r hr
  ·rcases Ag.1 hr with rfl|hr
   ·have kg:=ha.G _ (List.mem_cons_self ..);simp only at kg;exact⟨by rw [kg],by rw [kg]⟩
   ·exact e5 c' (ha.mono fun r hr=>by simp [hr]) r hr
structure Jn (c:Cx) (w':World) (nx m:Nat) (l:List (Nat × Aj)) (hd o f:List Nat) (recs:List AX):Prop where
 ents:l=recs.map AX.pair
 nf:(recs.flatMap AX.top).Sublist o
 new: ∀r∈recs,r.new.isSome=true→nx≤r.tag∧r.tag<nx+m
 old: ∀r∈recs,r.new=none→r.tag∈hd∧c.U r.tag
 all: ∀t∈hd,∃r∈recs,r.tag=t
 nodup:hd.Nodup→(∀t,nx≤t→t<nx+m→ ¬c.U t)→(recs.map AX.tag).Nodup
 ne: ∀r∈recs,∀hs f,r.bu≠ .gd hs f
 ok: ∀c',Fq c c' w' recs→(∀b∈f,c'.ok b)→ ∀r∈recs,Dq c' r.tag r.bu
theorem Jn.app {nx m m':Nat} {l l':List (Nat × Aj)} {hd LR o o' f f':List Nat} {recs recs':List AX} (h:Jn c w' nx m l hd o f recs) (k:Jn c w' (nx+m) m' l' LR o' f' recs'):Jn c w' nx (m+m') (l++l') (hd++LR) (o++o') (f++f') (recs++recs'):=by
 refine⟨by rw [h.ents,k.ents,List.map_append],by rw [List.flatMap_append];exact h.nf.append k.nf,fun r hr hn=> ?_,fun r hr hn=> ?_,fun t ht=> ?_,fun hn hU=> ?_,fun r hr=> ?_,fun c' ha Az r hr=> ?_⟩
 ·rcases Ai.1 hr with hr|hr
  ·have:=h.new r hr hn;omega
  ·have:=k.new r hr hn;omega
 ·rcases Ai.1 hr with hr|hr
  ·exact⟨by simp [(h.old r hr hn).1],(h.old r hr hn).2⟩
  ·exact⟨by simp [(k.old r hr hn).1],(k.old r hr hn).2⟩
 ·rcases Ai.1 ht with ht|ht
  ·obtain⟨r,hr,e⟩:=h.all t ht;exact⟨r,by simp [hr],e⟩
  ·obtain⟨r,hr,e⟩:=k.all t ht;exact⟨r,by simp [hr],e⟩
 ·rw [List.nodup_append]at hn;rw [List.map_append,List.nodup_append];refine⟨h.nodup hn.1 fun t h1 h2=>hU t h1 (by omega),k.nodup hn.2.1 fun t h1 h2=>hU t (by omega) (by omega),fun t1 Po t2 L1 he=> ?_⟩;obtain⟨q1,Gh,rfl⟩:=List.mem_map.1 Po;obtain⟨q2,EK,rfl⟩:=List.mem_map.1 L1;cases n1:q1.new with
  |none=>
   obtain⟨a1,a2⟩:=h.old q1 Gh n1;cases n2:q2.new with
   |none=>exact hn.2.2 _ a1 _ (k.old q2 EK n2).1 he
   |some v2=>have:=k.new q2 EK (by simp [n2]);exact hU q2.tag (by omega) (by omega) (he▸a2)
  |some v1=>
   have:=h.new q1 Gh (by simp [n1]);cases n2:q2.new with
   |none=>exact hU q1.tag (by omega) (by omega) (he▸(k.old q2 EK n2).2)
   |some v2=>have:=k.new q2 EK (by simp [n2]);omega
 ·rcases Ai.1 hr with hr|hr
  ·exact h.ne r hr
  ·exact k.ne r hr
 ·rcases Ai.1 hr with hr|hr
  ·exact h.ok c' (ha.mono fun r hr=>by simp [hr]) (fun b hb=>Az b (by simp [hb])) r hr
  ·exact k.ok c' (ha.mono fun r hr=>by simp [hr]) (fun b hb=>Az b (by simp [hb])) r hr
theorem Jn.lj {nx:Nat} {l:List (Nat × Aj)} {hd o f:List Nat} {recs:List AX} (e1:l=recs.map AX.pair) (e2:(recs.flatMap AX.top).Sublist o) (e3: ∀r∈recs,r.new=none∧c.U r.tag∧ ∀hs f,r.bu≠ .gd hs f) (e4:recs.map AX.tag=hd) (e5: ∀c',Fq c c' w' recs→(∀b∈f,c'.ok b)→ ∀r∈recs,Dq c' r.tag r.bu):Jn c w' nx 0 l hd o f recs:=by
 refine⟨e1,e2,fun r hr hn=> ?_,fun r hr _=>⟨?_,(e3 r hr).2.1⟩,fun t ht=> ?_,fun hn _=>by rw [e4];exact hn,fun r hr=>(e3 r hr).2.2,fun c' ha Az=>e5 c' ha Az⟩
 ·rw [(e3 r hr).1]at hn;cases hn
 ·rw [←e4];exact List.mem_map.2 ⟨r,hr,rfl⟩
 ·rw [←e4]at ht;obtain⟨r,hr,e⟩:=List.mem_map.1 ht;exact⟨r,hr,e⟩
theorem zB0 {ts:List TypeId} {ms:List PM} {vs:List Value} {bs:List PA} (h:Jv P c ts ms vs bs) (hU: ∀t g,c.K t g→c.U t) {r:Nat}: ∀{Bs:List AV} {f o:List Nat} (nx j:Nat),D7 P w' ts ms vs Bs f o→(∀k y,Bs[k]?=some y→(E.proj (.var r) (j+k+1)).den c.ρ=y)→
  Bs.length=I8 bs∧ ∃recs,Jn c w' nx (Lm P bs) (after P r nx bs j) (DR bs) o f recs:=by
 have nilS: ∀nx,Jn c w' nx 0 [] [] [] [] []:=fun nx=>⟨rfl,by simp,by simp,by simp,by simp,by simp,by simp,by simp⟩
 induction h with
 |nil=>intro Bs f o nx j hb _;cases hb;exact⟨rfl, [],by simpa [after,DR,Lm]using nilS nx⟩
 | @ro ts ms v vs bs hm Dv ih=>
  intro Bs f o nx j hb hB;cases hb with
  |nil=>exact ih nx j .nil hB
  |ro _ h8=>exact ih nx j h8 hB
  |va h9 _=>rw [hm]at h9;cases h9
  |mu h9 _ _ _=>rw [hm]at h9;cases h9
  |bx h9 _ _ _ _ _ _ _=>rw [hm]at h9;cases h9
 | @va ts ms own v vs bs us hm L3 Dv ih=>
  intro Bs f o nx j hb hB;obtain⟨recs1,e1,e2,e3,e4,e5⟩:=zvD (c:=c) (w':=w') us L3;have s1:Jn c w' nx 0 (FD us) us [] [] recs1:= .lj e1 (by rw [e2];exact List.Sublist.refl _) e3 e4 fun c' ha _=>e5 c' ha;cases hb with
  |nil=>obtain⟨h1,recs2,s2⟩:=ih nx j .nil hB;exact⟨by simpa [I8]using h1,recs1++recs2,by simpa [after,DR,Lm]using s1.app s2⟩
  |ro h9 _=>rw [hm]at h9;cases h9
  |va _ h8=>obtain⟨h1,recs2,s2⟩:=ih nx j h8 hB;exact⟨by simpa [I8]using h1,recs1++recs2,by simpa [after,DR,Lm]using s1.app s2⟩
  |mu h9 _ _ _=>rw [hm]at h9;cases h9
  |bx h9 _ _ _ _ _ _ _=>rw [hm]at h9;cases h9
 | @mu t ts ms own v vs bs us rs hm L3 DP Dv ih=>
  intro Bs f o nx j hb hB;cases hb with
  |ro h9 _=>rw [hm]at h9;cases h9
  |va h9 _=>rw [hm]at h9;cases h9
  |bx h9 _ _ _ _ _ _ _=>rw [hm]at h9;cases h9
  | @mu _ _ _ own2 _ _ us2 ys y Bs f1 f o1 o h9 hg UD h8=>
   rw [hm]at h9;cases h9;obtain⟨h1,recs2,s2⟩:=ih nx (j+1) h8 (fun k y hy=>by rw [show j+1+k+1=j+(k+1)+1 from by omega];exact hB (k+1) y (by simpa using hy));have hy:=hB 0 y rfl;have Pq:us2=us:=by
    split at L3
    ·rename_i AG;rw [if_pos AG]at hg;obtain⟨rfl,_⟩:=hg;exact zsH L3
    ·rename_i AG;rw [if_neg AG]at hg;rw [hg.1,L3]
   subst Pq;obtain⟨recs1,e1,e2,e3,e4,e5⟩:=zzM (w':=w') (mk:=DS (.proj (.var r) (j+1)) (As P t)) DP hU 0 UD (by
    intro i z hz;split at hg
    ·rename_i AG;rw [AG];exact WL (by rw [←hg.2];exact hy) i z hz
    ·rename_i AG;have Ho:As P t=false:=by simpa using AG
     rw [hg.2]at hz;cases i with
     |zero=>simp at hz;subst hz;rw [Ho];simpa [DS]using hy
     |succ i=>simp at hz)
   have s1:Jn c w' nx 0 _ (CL rs) o1 f1 recs1:= .lj e1 e2 e3 e4 e5;exact⟨by simp [I8,h1],recs1++recs2,by simpa [after,DR,Lm]using s1.app s2⟩
 | @bx t ts ms own own' ty v vs bs T b g olds hm Ex hv hK hH hol Dv ih=>
  intro Bs f o nx j hb hB;cases hb with
  |ro h9 _=>rw [hm]at h9;cases h9
  |va h9 _=>rw [hm]at h9;cases h9
  |mu h9 _ _ _=>rw [hm]at h9;cases h9
  | @bx _ _ _ own2 own3 ty2 b2 C _ _ ys y Bs f1 o1 f o h9 J7 Dw hh CY Ib hc h8=>
   rw [hm]at h9;cases h9;rw [Ex]at J7;cases J7;have XL:b2=b:=by rw [hv]at Dw;cases Dw;rfl
   subst XL;obtain⟨h1,recs2,s2⟩:=ih (nx+(A8 P ty).length) (j+1) h8 (fun k y hy=>by rw [show j+1+k+1=j+(k+1)+1 from by omega];exact hB (k+1) y (by simpa using hy));have hy:=hB 0 y rfl;obtain⟨recs0,d1,d2,d3,d4,d5⟩:=zvD (c:=c) (w':=w') olds hol;have s0:Jn c w' nx 0 (FD olds) olds [] [] recs0:= .lj d1 (by rw [d2];exact List.Sublist.refl _) d3 d4 fun c' ha _=>d5 c' ha;obtain⟨recs1,e1,e2,e3,e4,_,e5⟩:=SJ (c:=c) (nx:=nx) (mk:=DS (.proj (.var r) (j+1)) true) hc 0 (WL (by rw [←Ib];exact hy));have u6:=hU _ _ hK;have s1:Jn c w' nx (A8 P ty).length ((T, .box ty g (CT P nx (DS (.proj (.var r) (j+1)) true) 0 (A8 P ty) own').1)::(CT P nx (DS (.proj (.var r) (j+1)) true) 0 (A8 P ty) own').2) [T] (b2::o1) f1 (⟨T,none, [b2], .box ty g (CT P nx (DS (.proj (.var r) (j+1)) true) 0 (A8 P ty) own').1⟩::recs1):=by
    refine⟨by simp [e1,AX.pair], ?_,fun q hq hn=> ?_,fun q hq hn=> ?_,by simp,fun _ A2=> ?_,fun q hq=> ?_,fun c' ha Az q hq=> ?_⟩
    ·simp only [List.flatMap_cons,e2,List.singleton_append];exact List.Sublist.refl _
    ·rcases Ag.1 hq with rfl|hq
     ·cases hn
     ·have:=e3 q hq;omega
    ·rcases Ag.1 hq with rfl|hq
     ·exact⟨by simp,u6⟩
     ·have:=(e3 q hq).2.2;rw [hn]at this;cases this
    ·simp only [List.map_cons,List.nodup_cons];refine⟨fun hm=> ?_,e4⟩;obtain⟨q,hq,hqt⟩:=List.mem_map.1 hm;have:=e3 q hq;exact A2 q.tag (by omega) (by omega) (hqt▸u6)
    ·rcases Ag.1 hq with rfl|hq
     ·simp
     ·intro hs f he;obtain⟨q1,q2⟩:=e3 q hq;have:(q.tag,q.bu)∈(CT P nx (DS (.proj (.var r) (j+1)) true) 0 (A8 P ty) own').2:=by
       rw [e1];exact List.mem_map.2 ⟨q,hq,rfl⟩
      exact P9 _ _ _ _ _ this he
    ·obtain⟨p1,p2⟩:=e5 c' (ha.mono fun r hr=>by simp [hr]) Az;rcases Ag.1 hq with rfl|hq
     ·obtain⟨a1,a2⟩:=ha.K T 0 hK;have kg:=ha.G _ (List.mem_cons_self ..);simp only at kg;exact⟨b2,C,a1,by rw [a2,hH,hv],by rw [kg],by rw [kg],by rw [ha.w];exact hh,CY,p1⟩
     ·exact p2 q hq
   refine⟨by simp [I8,h1],recs0++((⟨T,none, [b2], .box ty g (CT P nx (DS (.proj (.var r) (j+1)) true) 0 (A8 P ty) own').1⟩::recs1)++recs2), ?_⟩;have s3:=s0.app (s1.app s2);rw [Nat.zero_add]at s3;refine⟨by simpa [after]using s3.ents,s3.nf,s3.new,fun q hq hn=> ?_,fun t ht=> ?_,fun hn A2=> ?_,s3.ne,s3.ok⟩
   ·have:=s3.old q hq hn;simp only [DR,List.cons_append,Ag,Ai,List.not_mem_nil,or_false,List.nil_append]at this ⊢;exact⟨by rcases this.1 with h|h|h;exact .inr (.inl h);exact .inl h;exact .inr (.inr h),this.2⟩
   ·refine s3.all t ?_;simp only [DR,List.cons_append,Ag,Ai,List.nil_append]at ht ⊢;rcases ht with h|h|h
    ·exact .inr (.inl h)
    ·exact .inl h
    ·exact .inr (.inr h)
   ·refine s3.nodup ?_ A2;simp only [DR,List.cons_append,List.nodup_cons,List.nodup_append,Ai,not_or,List.nil_append]at hn ⊢;obtain⟨⟨n1,n2⟩,n3,n4,n5⟩:=hn;refine⟨n3,⟨n2,n4⟩,fun a ha b hb=> ?_⟩;rcases Ag.1 hb with rfl|hb
    ·rintro rfl;exact n1 ha
    ·exact n5 a ha b hb
end
def QE (P:Program):List TypeId→List Bool→List AV→Bool
 |t::ts,fl,y::ys=>((fl.headD false&&(CP P t).isSome)||CW P t||y.scalar)&&QE P ts fl.tail ys
 |_,_,_=>true
def Yp (P:Program) (t:TypeId) (fl:List Bool) (x:AV):Bool:=if Hf P t fl then QE P (A8 P t) fl (if As P t then x.cells else [x])else CW P t||x.cells.all AV.scalar
def dY (P:Program):List TypeId→List Bool→List AV→Bool
 |t::ts,fl,x::xs=>Yp P t fl x&&dY P ts (fl.drop (A8 P t).length) xs
 |_,_,_=>true
def Yu (P:Program) (ts:List TypeId) (fl:List Bool) (R:AV):Bool:=match ts with
 | [t]=>Yp P t fl R
 |ts=>match R with
  | .tup ys=>dY P ts fl ys
  |_=>true
def Jb (P:Program):List TypeId→List PM→List AV→Bool
 |t::ts,ms,bs=>(match ms.headD .ro with
  | .ro=>Jb P ts ms.tail bs
  | .va _=>Jb P ts ms.tail bs
  | .mu _=>Jb P ts ms.tail bs.tail
  | .bx _ own'=>(match KW P t,bs with
   |some ty,b::_=>QE P (A8 P ty) own' b.cells
   |_,_=>true)&&Jb P ts ms.tail bs.tail)
 | [],_,_=>true
def BK:List TypeId→List PM→Bool
 |_::ts,ms=>(match ms.headD .ro with
  | .mu _=>true
  | .bx .. =>true
  |_=>false)||BK ts ms.tail
 | [],_=>false
def Oj (P:Program) (fn:Func) (s:HX) (r:AV):Bool:=
 if BK (fn.params.toList++s.ft) s.cy then(match r with
  | .tup (R::bs)=>Yu P fn.resultTypes.toList s.res R&&Jb P (fn.params.toList++s.ft) s.cy bs
  |_=>false)
 else Yu P fn.resultTypes.toList s.res r
def KX (P:Program) (w:World) (ts:List TypeId) (fl:List Bool) (v:Value) (R:AV) (f o:List Nat):Prop:=match ts with
 | [t]=>E8 P w t fl v R f o
 |ts=> ∃vs ys,v= .tuple vs.toArray∧R= .tup ys∧JC P w ts fl vs ys f o
structure zJ5 (P:Program) (fn:Func) (s:HX) (w:World) (vs:List Value) (rf hs:List Nat) (r:AV) (v:Value) (w':World):Prop where
 ex: ∃R bs f1 o1 f2 o2,r=(match bs with| []=>R|_=> .tup (R::bs))∧KX P w' fn.resultTypes.toList s.res v R f1 o1∧D7 P w' (fn.params.toList++s.ft) s.cy vs bs f2 o2∧(o1++o2).Nodup∧
  (∀b∈o1++o2,(b∈hs∨w.heap.size≤b)∧b<w'.heap.size)∧ ∀b∈f1++f2,b∉o1++o2∧(b∈rf∨b∈hs∨w.heap.size≤b)
 mod:Mod hs w w'
theorem Rel.oe {c:Cx} {n:Nat} {sl:Nat→SV} {hp:Nat→Option Aj} {a:Act} (h:Rel c n sl hp a) {hs:List Nat} (hh: ∀b∈hs,∃t,b∈(c.G t).top):kZ c.w (fun b=>b∈hs):=by
 obtain⟨p1,p2,p3⟩:=h.base.pk;refine⟨Nat.le_trans p1 h.base.size,F7.mono (fun b hb=>h.base.block b (by omega) fun hm=>by have:=p3 b hm;omega) p2,fun b hb=> ?_⟩;obtain⟨t,ht⟩:=hh b hb;rcases h.gw.allow t b (by simp [GI.own,ht])with k|k
 ·have:c.w0.heap.size≤b:=k;omega
 ·exact p3 b k
def TZ (P:Program) (s:HX) (f:Nat) (xs:List AV) (r:AV):Prop:=
 ∃fn,P.funcs[f]?=some fn∧fn.body.isSome=true∧(fn.name== "runtime.NumGoroutine")=false∧Oj P fn s r=true∧xs.length=fn.params.size+fn.nfree∧s.ft.length≤fn.nfree∧
  ∀(w:World) (vs:List Value) (rf lf hs:List Nat),DU P w (fn.params.toList++s.ft) s.cy s.lo vs xs rf lf hs→(∀b∈hs,b∉rf)→(∀b∈hs,b∉lf)→hs.Nodup→kZ w (fun b=>b∈hs)→
   Calls P f vs.toArray w fun e w'=> ∃v,e= .returned v∧zJ5 P fn s w vs rf hs r v w'
def Cv (P:Program) (sg:BX) (f:Nat) (xs:List AV) (r:AV):Prop:=
 if f<1000000 then∃s,sg f=some s∧TZ P s f xs r else TZ P {cy:= [],res:= []} (f-1000000) xs r
section
variable {P:Program} {w:World}
theorem zqk {v:Value} {x:AV} {f:List Nat} (h:Rd w [v] [x] f) (hx: ∀y∈x.cells,y.scalar=true):f= []:=by
 by_cases AG: ∃cs,x= .agg cs
 ·obtain⟨cs,rfl⟩:=AG;obtain⟨as_,_,_,hr⟩:=KC h rfl;exact Il hr hx
 ·have:x.cells= [x]:=by cases x<;>first|rfl|exact absurd ⟨_,rfl⟩ AG
  rw [this]at hx;exact Il h hx
theorem zCc {t el:TypeId} (h:CP P t=some el):CW P t=true:=by have hu:=K8 h;simp [CW,Cg,A8,dM,hu]
theorem Cz.flat {ts:List TypeId} {fl:List Bool} {us:List Value} {ys:List AV} {rf hs:List Nat} (h:Cz P w ts fl us ys rf hs) (h1:E3 P ts fl=false) (h2:QE P ts fl ys=true):rf= []:=by
 induction h with
 |nil=>rfl
 |own k1 k2 k23 _ _ ih=>
  simp only [E3,Bool.or_eq_false_iff]at h1;simp only [QE,Ae]at h2;have hN:=k23;have hw:=h1.1;rw [zCc k2,k1]at hw;rcases hN with⟨_,rfl⟩|⟨q1,q2⟩
  ·rw [ih h1.2 h2.2];rfl
  ·simp [Ye,k2,q1,q2]at hw
 |deep _ _ _ _ _ _ ih=>simp only [E3,Bool.or_eq_false_iff]at h1;simp only [QE,Ae]at h2;exact ih h1.2 h2.2
 | @rd t ts fl u us y ys f rf hs hn hr _ ih=>
  simp only [E3,Bool.or_eq_false_iff]at h1;simp only [QE,Ae]at h2;have Dt:(fl.headD false&&(CP P t).isSome)=false:=by
   cases hh:fl.headD false with
   |false=>rfl
   |true=>rw [hn hh];rfl
  have hY:(fl.headD false&&Ye P t)=false:=by
   cases hh:fl.headD false with
   |false=>rfl
   |true=>simp [Ye,hn hh]
  rw [hY]at h1;rw [Dt]at h2;have G5:CW P t=false:=by simpa using h1.1
  rw [G5]at h2;have hs:y.scalar=true:=by simpa using h2.1
  rw [Il hr (by simpa using hs),ih h1.2 h2.2];rfl
theorem E8.flat {t:TypeId} {fl:List Bool} {v:Value} {x:AV} {rf hs:List Nat} (h:E8 P w t fl v x rf hs) (h1:kI P t fl=false) (h2:Yp P t fl x=true):rf= []:=by
 unfold E8 at h;unfold kI at h1;unfold Yp at h2;split at h
 ·rename_i hf;rw [if_pos hf]at h1 h2;obtain⟨us,ys,hg,hc⟩:=h;split at hg
  ·rename_i AG;obtain⟨_,rfl,_⟩:=hg;rw [if_pos AG]at h2;exact hc.flat h1 h2
  ·rename_i AG;obtain⟨_,rfl⟩:=hg;rw [if_neg AG]at h2;exact hc.flat h1 h2
 ·rename_i hf;rw [if_neg hf]at h1 h2;rw [h1]at h2;exact zqk h.1 (by simpa using h2)
theorem JC.flat {ts:List TypeId} {fl:List Bool} {vs:List Value} {xs:List AV} {rf hs:List Nat} (h:JC P w ts fl vs xs rf hs) (h1:DE P ts fl=false) (h2:dY P ts fl xs=true):rf= []:=by
 induction h with
 |nil=>rfl
 |cons hv _ ih=>simp only [DE,Bool.or_eq_false_iff]at h1;simp only [dY,Ae]at h2;rw [hv.flat h1.1 h2.1,ih h1.2 h2.2];rfl
theorem KX.flat {ts:List TypeId} {fl:List Bool} {v:Value} {R:AV} {f o:List Nat} (h:KX P w ts fl v R f o) (h1:DE P ts fl=false) (h2:Yu P ts fl R=true):f= []:=by
 match ts,h,h1,h2 with
 | [t],h,h1,h2=>simp only [DE,Bool.or_false]at h1;exact E8.flat h h1 h2
 | [],h,h1,h2=>obtain⟨vs,ys,_,rfl,hv⟩:=h;exact hv.flat h1 h2
 |t::u::ts,h,h1,h2=>obtain⟨vs,ys,_,rfl,hv⟩:=h;exact hv.flat h1 h2
theorem C8.void {ety sz:Nat} {a:Option Addr} {x:AV} {top N:List Nat} (h:C8 w ety sz (.slice a 0 0) x top N):N= []:=by
 obtain⟨xs,_,_,_,⟨_,_,_,h⟩|⟨g,cap,C,hv,h6,_,_,_,_,_,hr⟩⟩:=h
 ·exact h
 ·have h0:xs.length=0:=by injection hv with _ h _;exact h.symm
  have:xs= []:=by cases xs with|nil=>rfl|cons _ _=>simp at h0
  subst this;simp [AO]at hr;cases hr;rfl
theorem GY.flat {c:Cx} {ts:List TypeId} {fl:List Bool} {us:List Value} {rs:List (Option RI)} (h:He P c ts fl us rs): ∀{ys:List AV} {f o:List Nat},GY P w ts fl us ys f o→rs.any RI.lent=false→f= []:=by
 induction h with
 |nil=>intro ys f o hm _;cases hm;rfl
 |row k1 k2 k23 _ _ _ _ ih=>
  intro ys f o hm hl;simp only [List.any_cons,Bool.or_eq_false_iff,RI.lent]at hl;cases hm with
  |own _ q2 q23 _ q4=>
   rw [k2]at q2;cases q2;rcases q23 with⟨_,rfl⟩|⟨q,_⟩
   ·exact ih q4 hl.2
   ·rw [q]at hl;simp at hl
  |deep _ _ _ _ _ q=>exact ih q hl.2
  |skip _ q=>exact ih q hl.2
 |deep k1 k2 k21 k22 _ _ _ _ _ ih=>
  intro ys f o hm hl;simp only [List.any_cons,Bool.or_eq_false_iff]at hl;cases hm with
  |own _ q2 q23 _ q4=>
   rw [k2]at q2;cases q2;rcases q23 with⟨_,rfl⟩|⟨_,q⟩
   ·exact ih q4 hl.2
   ·rw [q]at k22;cases k22
  |deep _ _ _ _ _ q=>exact ih q hl.2
  |skip _ q=>exact ih q hl.2
 |none hv _ ih=>
  intro ys f o hm hl;simp only [List.any_cons,Bool.or_eq_false_iff]at hl;cases hm with
  |own q1 q2 _ q3 q4=>
   rcases hv q1 with hh|⟨a,rfl⟩
   ·rw [hh]at q2;cases q2
   ·rw [C8.void q3];exact ih q4 hl.2
  |deep _ _ _ _ _ q=>exact ih q hl.2
  |skip _ q=>exact ih q hl.2
theorem D7.flat {c:Cx} {ts:List TypeId} {ms:List PM} {vs:List Value} {bs:List PA} (h:Jv P c ts ms vs bs): ∀{Bs:List AV} {f o:List Nat},D7 P w ts ms vs Bs f o→Eh P bs=false→Jb P ts ms Bs=true→f= []:=by
 induction h with
 |nil=>intro Bs f o hb _ _;cases hb;rfl
 | @ro ts ms v vs bs hm _ ih=>
  intro Bs f o hb h1 h2;cases hb with
  |nil=>rfl
  |ro _ h8=>simp only [Jb,hm]at h2;exact ih h8 h1 h2
  |va h9 _=>rw [hm]at h9;cases h9
  |mu h9 _ _ _=>rw [hm]at h9;cases h9
  |bx h9 _ _ _ _ _ _ _=>rw [hm]at h9;cases h9
 | @va ts ms own v vs bs us hm _ _ ih=>
  intro Bs f o hb h1 h2;cases hb with
  |nil=>rfl
  |ro h9 _=>rw [hm]at h9;cases h9
  |va _ h8=>simp only [Jb,hm]at h2;exact ih h8 h1 h2
  |mu h9 _ _ _=>rw [hm]at h9;cases h9
  |bx h9 _ _ _ _ _ _ _=>rw [hm]at h9;cases h9
 | @mu t ts ms own v vs bs us rs hm L3 DP _ ih=>
  intro Bs f o hb h1 h2;cases hb with
  |ro h9 _=>rw [hm]at h9;cases h9
  |va h9 _=>rw [hm]at h9;cases h9
  | @mu _ _ _ own2 _ _ us2 ys y Bs f1 f o1 o h9 hg UD h8=>
   rw [hm]at h9;cases h9;simp only [Jb,hm]at h2;simp only [Eh,Bool.or_eq_false_iff]at h1;have Pq:us2=us:=by
    split at L3
    ·rename_i AG;rw [if_pos AG]at hg;obtain⟨rfl,_⟩:=hg;exact zsH L3
    ·rename_i AG;rw [if_neg AG]at hg;rw [hg.1,L3]
   subst Pq;rw [GY.flat DP UD h1.1,ih h8 h1.2 h2];rfl
  |bx h9 _ _ _ _ _ _ _=>rw [hm]at h9;cases h9
 | @bx t ts ms own own' ty v vs bs T b g olds hm Ex _ _ _ _ _ ih=>
  intro Bs f o hb h1 h2;cases hb with
  |ro h9 _=>rw [hm]at h9;cases h9
  |va h9 _=>rw [hm]at h9;cases h9
  |mu h9 _ _ _=>rw [hm]at h9;cases h9
  |bx h9 J7 _ _ _ hy hc h8=>rw [hm]at h9;cases h9;rw [Ex]at J7;cases J7;simp only [Jb,hm,Ex,Ae,hy,List.tail_cons]at h2;simp only [Eh,Bool.or_eq_false_iff]at h1;rw [hc.flat h1.1 h2.1,ih h8 h1.2 h2.2];rfl
theorem pL {ts:List TypeId} {ms:List PM} {vs:List Value} {Bs:List AV} {f o:List Nat} (h:D7 P w ts ms vs Bs f o):Bs= []↔BK ts ms=false:=by
 induction h with
 |nil=>simp [BK]
 |ro hm _ ih=>simp only [BK,hm,Bool.false_or];exact ih
 |va hm _ ih=>simp only [BK,hm,Bool.false_or];exact ih
 |mu hm _ _ _ _=>simp only [BK,hm,Bool.true_or];simp
 |bx hm _ _ _ _ _ _ _ _=>simp only [BK,hm,Bool.true_or];simp
end
section
variable {P:Program} {c:Cx} {n nx:Nat} {sl sl0:Nat→SV} {hp hp0:Nat→Option Aj} {a:Act} {o:Oper} {gs:Gd} {e:A7} {sg:BX} {nv:Nat}
theorem zxU {xs:List Operand}: ∀{ss:List SV},(∀x∈xs,∀s,BS sl0 gs x=some s→SR c [s] [a.eval x])→xs.mapM (BS sl0 gs)=some ss→SR c ss (xs.map a.eval):=by
 induction xs with
 |nil=>intro ss _ h;simp at h;subst h;exact .nil
 |cons x xs ih=>intro ss hx h;rw [List.mapM_cons]at h;simp only [Option.bind_eq_bind,Aw,Option.pure_def,Ah]at h;obtain⟨s,hs,ss',GK,rfl⟩:=h;exact(hx x (by simp) s hs).cons (ih (fun y hy=>hx y (by simp [hy])) GK)
theorem Th: ∀{l:List Nat},MJ l=true→l.Nodup
 | [],_=>by simp
 |x::l,h=>by simp only [MJ,Ae,Bool.not_eq_true',List.contains_eq_mem,decide_eq_false_iff_not]at h;exact List.nodup_cons.2 ⟨h.1,Th h.2⟩
theorem zB9 {c1:Cx} {w':World} {recs:List AX} {hs f o:List Nat} (gw:GW c) (hg: ∀t,(c1.G t).top=(c.G t).top∨(c1.G t).top= []) (hA:c1.A=c.A) (eH:c1.Mu=c.Mu) (KT:c1.w0=c.w0) (hB:c.w0.heap.size≤c.w.heap.size)
  (hn:(recs.map AX.tag).Nodup) (CG: ∀r∈recs,∀b∈r.top,b∈o) (Hx: ∀b∈hs,∃r∈recs,b∈(c.G r.tag).top) {rf:List Nat} (Ng: ∀b∈rf,c1.ok b) (hf: ∀b∈f,b∉o∧(b∈rf∨b∈hs∨c.w.heap.size≤b)): ∀b∈f,(c1.dz w' recs).ok b:=by
 intro b hb;obtain⟨h1,h2⟩:=hf b hb;have hM:(c1.dz w' recs).M b→ ∃t,(∀r∈recs,r.tag≠t)∧b∈(c1.G t).top:=by
  rintro⟨t,ht⟩;by_cases hT: ∃r∈recs,r.tag=t
  ·obtain⟨r,hr,rfl⟩:=hT;rw [Cx.en hn hr]at ht;exact absurd (CG r hr b ht) h1
  ·rw [Cx.dj fun r hr hh=>hT ⟨r,hr,hh⟩]at ht;exact⟨t,fun r hr hh=>hT ⟨r,hr,hh⟩,ht⟩
 have sub: ∀t,b∈(c1.G t).top→b∈(c.G t).top:=fun t ht=>by
  rcases hg t with hh|hh
  ·rw [←hh];exact ht
  ·rw [hh]at ht;simp at ht
 rcases h2 with h2|h2|h2
 ·refine⟨fun hm=> ?_,(Ng b h2).2⟩;obtain⟨t,_,ht⟩:=hM hm;exact(Ng b h2).1 ⟨t,ht⟩
 ·obtain⟨r,hr,XO⟩:=Hx b h2;refine⟨fun hm=> ?_, .inr ?_⟩
  ·obtain⟨t,Fv,ht⟩:=hM hm;exact gw.cz r.tag t (Fv r hr) b (by simp [GI.own,XO]) (by simp [GI.own,sub t ht])
  ·have:=gw.allow r.tag b (by simp [GI.own,XO]);simp only [Cx.dz,Cx.B,KT,eH]at this ⊢;exact this
 ·refine⟨fun hm=> ?_, .inr (.inl ?_)⟩
  ·obtain⟨t,_,ht⟩:=hM hm;have:=gw.inb t b (by simp [GI.own,sub t ht]);omega
  ·simp only [Cx.dz,Cx.B,KT];omega
theorem zCN (h:Bx P c n nx sl hp a sl0 hp0 o gs) {cl:Call} {fo:Operand} (ho:o.op= .call cl) (AJ:cl.callee= .value fo) {g:Nat} {caps:BA} (hf:BS sl0 gs fo=some (.fn g caps)) {as_:List SV} (has:cl.args.toList.mapM (BS sl0 gs)=some as_)
  (hg:g<1000000) (he:Xc P sg hp0 gs nv nx g (as_++caps.toList)=some e) (Bj: ∀c',e.call=some c'→ ∃r,c.ρ[nv]?=some r∧I6 (Cv P sg) c'.fn ((EL.of c'.args).den c.ρ) c.ρ r):AF P o c n nx sl hp gs a e:=by
 have gR:fo∈o.op.operands:=by simp [ho,Op.operands,Call.operands,AJ]
 have gQ: ∀x∈cl.args.toList,x∈o.op.operands:=fun x hx=>by
  have:x∈cl.args:=by simpa using hx
  simp [ho,Op.operands,Call.operands,AJ,this]
 have Ng:=h.db hf gR;generalize fR:a.eval fo=fv at Ng;cases Ng with
 |fn Uj h8=>
 rename_i capv;have AB:=(zxU (a:=a) (fun x hx s hs=>h.db hs (gQ x hx)) has).app Uj;unfold Xc at he;split at he
 ·rename_i fn s Hu Kb;split at he
  ·cases he
  rename_i hlen;simp only [Bool.or_eq_true,not_or,Bool.not_eq_true,bne_eq_false_iff_eq]at hlen;split at he
  ·cases he
  rename_i es bs us uz A9;split at he
  ·cases he
  rename_i Co;simp only [Bool.or_eq_true,Bool.not_eq_true',not_or,Bool.not_eq_false,Bool.not_eq_true]at Co;obtain⟨⟨gY,UH⟩,UI⟩:=Co;have UJ:=Th gY;have Hp: ∀u∈us,u∉DR bs:=fun u hu hh=>by rw [List.any_eq_false]at UH;have:=UH u hu;simp only [List.contains_eq_mem,decide_eq_true_eq]at this;exact this hh
  have LM: ∀u∈uz,u∉DR bs:=fun u hu hh=>by rw [List.any_eq_false]at UI;have:=UI u hu;simp only [List.contains_eq_mem,decide_eq_true_eq]at this;exact this hh
  simp only at he;split at he
  ·cases he
  rename_i Cf;simp only [Nat.not_le]at Cf;split at he
  ·cases he
  rename_i J3;split at he
  ·cases he
  rename_i fz Hv;have hK: ∀t g,c.K t g→c.U t:=h.rel.cj;obtain⟨rf,lf,hs,q1,q2,qz,q3,q4,q5,q6⟩:=zxH (P:=P) h.rel.base h.eh h.gs hK (as_++caps.toList) A9 AB (by rw [hlen.1.2,Ar,Array.length_toList];have:=hlen.2;simp only [decide_eq_false_iff_not,Nat.not_lt]at this;omega);obtain⟨fts,H4,Ut⟩: ∃fts,DV hp0 gs fts=some fz∧ ∀t∈fts,t∈us:=by
   split at Hv
   ·exact⟨us,Hv,fun t ht=>ht⟩
   ·simp only [Ah]at Hv;subst Hv;exact⟨[],rfl,by simp⟩
  have Du:=h.rel.freeze h.hp h.gs H4;have MX: ∀t∈fz.map (·.1),t∈us:=fun t ht=>by obtain⟨⟨t',e'⟩,hm,rfl⟩:=List.mem_map.1 ht;exact Ut _ ((P3 h.gs H4).1 t' e' hm).1
  have T7: ∀t,((c.cd (fz.map (·.1))).G t).top=(c.G t).top∨((c.cd (fz.map (·.1))).G t).top= []:=fun t=>by
   simp only [Cx.cd];split
   ·exact .inr rfl
   ·exact .inl rfl
  have hGh: ∀t∈DR bs,(c.cd (fz.map (·.1))).G t=c.G t:=fun t ht=>by simp only [Cx.cd];rw [if_neg];intro hh;exact Hp t (MX t hh) ht
  have uP: ∀t∈DR bs,(c.cd (fz.map (·.1))).E t=c.E t:=fun t ht=>by simp only [Cx.cd];rw [if_neg];intro hh;exact Hp t (MX t hh) ht
  have iP:hs.Nodup:=by
   rw [q3];have: ∀l:List Nat,l.Nodup→(l.flatMap fun t=>(c.G t).top).Nodup:=by
    intro l
    induction l with
    |nil=>intro _;simp
    |cons t l ih=>intro hl;rw [List.nodup_cons]at hl;rw [List.flatMap_cons,List.nodup_append];refine⟨(List.nodup_append.1 (h.rel.gw.nodup t)).1,ih hl.2,fun x hx y hy HG=> ?_⟩;subst HG;obtain⟨u,hu,jG⟩:=List.mem_flatMap.1 hy;exact h.rel.gw.cz t u (fun hh=>hl.1 (hh▸hu)) x (by simp [GI.own,hx]) (by simp [GI.own,jG])
   exact this _ UJ
  have JY: ∀b∈hs,∃t∈DR bs,b∈(c.G t).top:=fun b hb=>by rw [q3]at hb;exact List.mem_flatMap.1 hb
  have Gw: ∀b∈hs,b∉rf:=fun b hb hr=>by
   obtain⟨t,ht,CJ⟩:=JY b hb;rcases q2 b hr with hh|⟨u,hu,IB⟩
   ·exact hh.1 ⟨t,CJ⟩
   ·exact h.rel.gw.cz t u (fun hh=>Hp u hu (hh▸ht)) b (by simp [GI.own,CJ]) (by simp [GI.own,IB])
  have JR: ∀b∈hs,b∉lf:=fun b hb hr=>by
   obtain⟨t,ht,CJ⟩:=JY b hb;rcases qz b hr with(hh|⟨u,hu,IB⟩)|⟨h1,h2⟩
   ·exact hh.1 ⟨t,CJ⟩
   ·exact h.rel.gw.cz t u (fun hh=>LM u hu (hh▸ht)) b (by simp [GI.own,CJ]) (by simp [GI.own,IB])
   ·rcases h.rel.gw.allow t b (by simp [GI.own,CJ])with k|k
    ·have:c.w0.heap.size≤b:=k;omega
    ·exact h2 k
  have FH: ∃(val:SV) (l:List (Nat × Aj)),e={call:=some ⟨.inl g,es⟩,val:=val,bu:=fz++(Vb gs l++after P nv (nx+(fn.resultTypes.toList.flatMap (A8 P)).length) bs 0)}∧
    ∀(R:AV) (w':World) (v:Value) (f1 o1:List Nat),KX P w' fn.resultTypes.toList s.res v R f1 o1→(if I8 bs=0 then E.var nv else .proj (.var nv) 0).den c.ρ=R→ ∃recs:List AX,l=recs.map AX.pair∧recs.flatMap AX.top=o1∧(∀r∈recs,nx≤r.tag∧r.tag<nx+(fn.resultTypes.toList.flatMap (A8 P)).length∧r.new.isSome)∧(recs.map AX.tag).Nodup∧
     (∀r∈recs,∀hs f,r.bu≠ .gd hs f)∧ ∀c',Fq c c' w' recs→(∀b∈f1,c'.ok b)→SR c' [val] [v]∧ ∀r∈recs,Dq c' r.tag r.bu:=by
   have A3: ∀{l:List (Nat × Aj)} {recs:List AX},l=recs.map AX.pair→(∀t x,(t,x)∈l→ ∀hs f,x≠ .gd hs f)→ ∀r∈recs,∀hs f,r.bu≠ .gd hs f:=by rintro l recs rfl hh r hr;exact hh r.tag r.bu (List.mem_map.2 ⟨r,hr,rfl⟩)
   have fvne: ∀(t:TypeId) (k:Nat) (fl:List Bool) (x:E) (u:Nat) (y:Aj),(u,y)∈(Qn P k t fl x).2→ ∀hs f,y≠ .gd hs f:=by
    intro t k fl x u y hy hs f;unfold Qn at hy;split at hy
    ·exact P9 _ _ _ _ _ hy
    ·simp at hy
   split at he
   ·rename_i t U0;simp only [Ah]at he;subst he;refine⟨_,_,rfl,fun R w' v f1 o1 hr hR=> ?_⟩;rw [U0]at hr;obtain⟨recs,e1,e2,e3,e4,e5⟩:=zqh (c:=c) (nx:=nx) (x:=if I8 bs=0 then E.var nv else .proj (.var nv) 0) (show E8 P w' t s.res v R f1 o1 from hr) hR;exact⟨recs,e1,e2,by simpa [U0]using e3,e4,A3 e1 (fvne _ _ _ _),e5⟩
   ·rename_i U0;simp only [Ah]at he;subst he;refine⟨_,_,rfl,fun R w' v f1 o1 hr hR=> ?_⟩;obtain⟨vs,ys,rfl,rfl,hv⟩: ∃vs ys,v= .tuple vs.toArray∧R= .tup ys∧JC P w' fn.resultTypes.toList s.res vs ys f1 o1:=by
     unfold KX at hr;split at hr
     ·rename_i t ht;exact absurd ht (U0 t)
     ·exact hr
    obtain⟨recs,e1,e2,e3,e4,e5⟩:=zuK (c:=c) (x:=if I8 bs=0 then E.var nv else .proj (.var nv) 0) hv nx 0 (fun k y hy=>by show AV.proj ((if I8 bs=0 then E.var nv else .proj (.var nv) 0).den c.ρ) (0+k)=y;rw [hR];simp [AV.proj,hy])
    have fvsne: ∀(ts:List TypeId) (k:Nat) (fl:List Bool) (x:E) (i u:Nat) (y:Aj),(u,y)∈(N5 P k ts fl x i).2→ ∀hs f,y≠ .gd hs f:=by
     intro ts
     induction ts with
     |nil=>intro k fl x i u y hy;simp [N5]at hy
     |cons t ts ih=>
      intro k fl x i u y hy;simp only [N5,Ai]at hy;rcases hy with hy|hy
      ·exact fvne _ _ _ _ _ _ hy
      ·exact ih _ _ _ _ _ _ hy
    exact⟨recs,e1,e2,e3,e4,A3 e1 (fvsne _ _ _ _ _),fun c' ha Az=>⟨.tup (by rw [BA.bf];exact(e5 c' ha Az).1) .nil,(e5 c' ha Az).2⟩⟩
  obtain⟨val,l,rfl,Pl⟩:=FH;obtain⟨r,hr,Az⟩:=Bj _ rfl;have Pk: ∃s',sg g=some s'∧TZ P s' g ((EL.of es).den c.ρ) r:=by have Az:Cv P sg g ((EL.of es).den c.ρ) r:=Az;unfold Cv at Az;rwa [if_pos hg]at Az
  obtain⟨s',Bl,fn',JW,Ee,Eg,BC,_,_,FZ⟩:=Pk;rw [Kb]at Bl;cases Bl;rw [Hu]at JW;cases JW;rw [EL.dt]at FZ;have Bj:=FZ c.w _ rf lf hs q1 Gw JR iP (h.rel.oe fun b hb=>by obtain⟨t,_,ht⟩:=JY b hb;exact⟨t,ht⟩);have ex:(execOp a.eval o).run P c.w= .ok (.enter g (cl.args.map a.eval++capv.toArray)) c.w:=by
   have hb:fn.body.isNone=false:=by simpa using Ee
   simp only [execOp,ho,resolve,AJ,fR,Deferred.ofValue,Sem.run_bind,Sem.run_pure,Result.andThen_ok,invoke,callFunc,run_program,Hu];simp [Eg,hb]
  intro next Q hk
  unfold Oper.wp;rw [ex,Oper.upon_enter];have OL:cl.args.map a.eval++capv.toArray=((cl.args.toList.map a.eval)++capv).toArray:=by apply Array.ext';simp
  rw [OL];refine Bj.mono ?_;rintro e' w' ⟨v,rfl,⟨R,Bs,f1,o1,f2,o2,L0,AS,FG,Hz,UM,Ur⟩,DD⟩;show next (a.put o.dst v) w'
  have hBn: ∀k y,Bs[k]?=some y→(E.proj (.var nv) (0+k+1)).den c.ρ=y:=by
   intro k y hy;cases Bs with
   |nil=>simp at hy
   |cons B Bs=>simp only [E.den,hr,Option.getD_some,L0,AV.proj,Nat.zero_add,List.getElem?_cons_succ,hy]
  obtain⟨UF,recsB,hB⟩:=zB0 (w':=w') q4 hK (r:=nv) (nx+(fn.resultTypes.toList.flatMap (A8 P)).length) 0 FG hBn;have hR:(if I8 bs=0 then E.var nv else .proj (.var nv) 0).den c.ρ=R:=by
   cases Bs with
   |nil=>rw [if_pos (by simpa using UF.symm)];simp only [E.den,hr,Option.getD_some,L0]
   |cons B Bs=>rw [if_neg (by rw [←UF];simp)];simp [E.den,hr,L0,AV.proj]
  obtain⟨recsV,v1,v2,v3,v4,v5,v6⟩:=Pl R w' v f1 o1 AS hR;have GC: ∀t,nx≤t→t<nx+((fn.resultTypes.toList.flatMap (A8 P)).length+Lm P bs)→ ¬c.U t:=fun t h1 h2=>h.new t h1 (by omega);have T5:=hB.nodup UJ fun t h1 h2=>GC t (by omega) (by omega);have CX:((recsV++recsB).map AX.tag).Nodup:=by
   rw [List.map_append,List.nodup_append];refine⟨v4,T5,fun t1 h1 t2 h2 he=> ?_⟩;obtain⟨p1,iD,rfl⟩:=List.mem_map.1 h1;obtain⟨p2,XU,rfl⟩:=List.mem_map.1 h2;have a1:=v3 p1 iD;cases hn:p2.new with
   |none=>exact GC p1.tag (by omega) (by omega) (he▸(hB.old p2 XU hn).2)
   |some _=>have:=hB.new p2 XU (by simp [hn]);omega
  have H7: ∀r∈recsV++recsB,r.new.isSome=true→nx≤r.tag∧r.tag<nx+((fn.resultTypes.toList.flatMap (A8 P)).length+Lm P bs):=fun r hr hn=>by
   rcases Ai.1 hr with hr|hr
   ·have:=v3 r hr;omega
   ·have:=hB.new r hr hn;omega
  have E2:((recsV++recsB).flatMap AX.top).Sublist (o1++o2):=by rw [List.flatMap_append,v2];exact(List.Sublist.refl _).append hB.nf
  have fX: ∀b∈hs,∃r∈recsV++recsB,b∈(c.G r.tag).top:=fun b hb=>by obtain⟨t,ht,CJ⟩:=JY b hb;obtain⟨r,hr,rfl⟩:=hB.all t ht;exact⟨r,by simp [hr],CJ⟩
  have Uy: ∀b∈hs,∃r∈recsV++recsB,b∈((c.cd (fz.map (·.1))).G r.tag).top:=fun b hb=>by obtain⟨t,ht,CJ⟩:=JY b hb;obtain⟨r,hr,rfl⟩:=hB.all t ht;exact⟨r,by simp [hr],by rw [hGh _ ht];exact CJ⟩
  have Kd: ∀r∈recsV++recsB,∀b∈r.top,b∈o1++o2:=fun r hr b hb=>E2.subset (List.mem_flatMap.2 ⟨r,hr,hb⟩);have Pe: ∀b∈f1++f2,((c.cd (fz.map (·.1))).dz w' (recsV++recsB)).ok b:=by
   cases X1:(DE P fn.resultTypes.toList s.res||Eh P bs)with
   |false=>
    simp only [Bool.or_eq_false_iff]at X1;have EE:Yu P fn.resultTypes.toList s.res R=true∧Jb P (fn.params.toList++s.ft) s.cy Bs=true:=by
     unfold Oj at BC;cases OH:Bs with
     |nil=>
      rw [if_neg (by rw [(pL FG).1 OH];simp)]at BC;rw [OH]at L0;rw [L0]at BC;refine⟨BC, ?_⟩;have: ∀(ts:List TypeId) (ms:List PM),Jb P ts ms []=true:=by
       intro ts
       induction ts with
       |nil=>intro ms;rfl
       |cons t ts ih=>
        intro ms;unfold Jb;split
        ·exact ih _
        ·exact ih _
        ·exact ih _
        ·split
         ·rename_i hh;cases hh
         ·simpa using ih _
      exact this _ _
     |cons B Bs'=>
      rw [if_pos (by
       cases hh:BK (fn.params.toList++s.ft) s.cy with
       |true=>rfl
       |false=>rw [(pL FG).2 hh]at OH;cases OH)]at BC
      rw [L0,OH]at BC;simpa using BC
    have e1:f1= []:=AS.flat X1.1 EE.1;have e2:f2= []:=D7.flat q4 FG X1.2 EE.2;subst e1;subst e2;simp
   |true=>rw [X1]at J3 Hv;simp only [Bool.true_and,Bool.not_eq_true',Bool.not_eq_false]at J3;simp only [if_true]at Hv;exact zB9 (rf:=rf) h.rel.gw T7 rfl rfl rfl h.rel.base.size CX Kd fX (fun b hb=>Ww h.rel h.eh h.gs Hv (by simpa using J3) (q2 b hb)) Ur
  have Up:after P nv (nx+(fn.resultTypes.toList.flatMap (A8 P)).length) bs 0=recsB.map fun r=>(r.tag,CV gs r.bu):=by
   cases KN:bs with
   |nil=>
    have:=hB.ents;rw [KN]at this;simp only [after]at this;have:recsB= []:=by simpa using this.symm
    rw [this];rfl
   |cons b bs'=>have Ft:=q6 (by rw [KN];simp);rw [←KN,hB.ents,Ft];rfl
  have Bq:Vb gs l++after P nv (nx+(fn.resultTypes.toList.flatMap (A8 P)).length) bs 0=(recsV++recsB).map fun r=>(r.tag,CV gs r.bu):=by rw [Up,List.map_append];congr 1;rw [v1];simp [Vb,AX.pair]
  obtain⟨FJ,BZ⟩:=Du.changes (w':=w') (recs:=recsV++recsB) (hs:=hs) (gs:=gs) h.gs DD CX (fun r hr hn=>by have:=H7 r hr hn;exact GC _ this.1 this.2) Uy (E2.nodup Hz) (fun r hr b hb=>UM b (Kd r hr b hb))
   (fun r hr=>by
    rcases Ai.1 hr with hr|hr
    ·exact v5 r hr
    ·exact hB.ne r hr)
   (fun _ r hr=>by
    have aft:=Cx.ed (c:=c.cd (fz.map (·.1))) (w':=w') (recs:=recsV++recsB) h.rel.cj CX (fun r hr hn=>by have:=H7 r hr hn;exact GC _ this.1 this.2);have aft':Fq c ((c.cd (fz.map (·.1))).dz w' (recsV++recsB)) w' (recsV++recsB):=⟨aft.ρ,aft.w,aft.G,aft.new,aft.K,aft.old,aft.ll,fun r hr Dt=>(aft.jo r hr Dt).trans (by
     rcases Ai.1 hr with hr|hr
     ·have:=(v3 r hr).2.2;rw [Dt]at this;cases this
     ·rw [uP _ (hB.old r hr Dt).1])⟩
    rcases Ai.1 hr with hr|hr
    ·exact(v6 _ (aft'.mono fun r hr=>by simp [hr]) fun b hb=>Pe b (by simp [hb])).2 r hr
    ·exact hB.ok _ (aft'.mono fun r hr=>by simp [hr]) (fun b hb=>Pe b (by simp [hb])) r hr)
  have aft:=Cx.ed (c:=c.cd (fz.map (·.1))) (w':=w') (recs:=recsV++recsB) h.rel.cj CX (fun r hr hn=>by have:=H7 r hr hn;exact GC _ this.1 this.2);have aft':Fq c ((c.cd (fz.map (·.1))).dz w' (recsV++recsB)) w' (recsV++recsB):=⟨aft.ρ,aft.w,aft.G,aft.new,aft.K,aft.old,aft.ll,fun r hr Dt=>(aft.jo r hr Dt).trans (by
     rcases Ai.1 hr with hr|hr
     ·have:=(v3 r hr).2.2;rw [Dt]at this;cases this
     ·rw [uP _ (hB.old r hr Dt).1])⟩
  have Kf:=(v6 _ (aft'.mono fun r hr=>by simp [hr]) fun b hb=>Pe b (by simp [hb])).1;rw [←Bq,←Qt]at FJ;refine hk _ ((c.cd (fz.map (·.1))).dz w' (recsV++recsB)) ⟨rfl,rfl,rfl,rfl,fun t ht=> ?_⟩ (FJ.put (Kf.mkGd gs h.gs) o.dst);rcases ht with ht|⟨r,hr,rfl⟩
  ·exact .inl ht
  ·cases hn:r.new with
   |none=>
    rcases Ai.1 hr with hr|hr
    ·have:=(v3 r hr).2.2;rw [hn]at this;cases this
    ·exact .inl (hB.old r hr hn).2
   |some _=>have:=H7 r hr (by simp [hn]);exact .inr ⟨this.1,by simp only [BM];omega⟩
 ·cases he
end
def Cr (c:Cx) (us:List Nat):List Nat:=us.flatMap fun t=>(c.G t).top
theorem rB (c:Cx):Cr c []= []:=rfl
theorem bH (c:Cx) (u:Nat) (us:List Nat):Cr c (u::us)=(c.G u).top++Cr c us:=by simp [Cr]
theorem Kt (c:Cx) (us vs:List Nat):Cr c (us++vs)=Cr c us++Cr c vs:=by simp [Cr]
theorem Ta {c:Cx} {us:List Nat} {b:Nat}:b∈Cr c us↔ ∃t∈us,b∈(c.G t).top:=by simp [Cr]
theorem aI {c:Cx} (gw:GW c): ∀{l:List Nat},l.Nodup→(Cr c l).Nodup
 | [],_=>by simp [Cr]
 |t::l,hl=>by
  rw [bH,List.nodup_append];rw [List.nodup_cons]at hl;refine⟨?_,aI gw hl.2,fun a ha b hb LL=> ?_⟩
  ·have:=gw.nodup t;simp only [GI.own]at this;exact(List.nodup_append.1 this).1
  ·subst LL;obtain⟨u,hu,IB⟩:=Ta.1 hb;exact gw.cz t u (fun hh=>hl.1 (hh▸hu)) a (by simp [GI.own,ha]) (by simp [GI.own,IB])
section
variable {P:Program} {c:Cx} {hp:Nat→Option Aj} {gs:Gd}
theorem s6 {m:Nat} {u g:Nat} {x y:E} (hx:Bw hp gs m (.own u g)=some x) (hy:IW hp gs u g=some y):x=y:=by
 cases m with
 |zero=>simp [Bw]at hx
 |succ m=>simp only [Bw,hy,Ah]at hx;exact hx.symm
theorem xC {m:Nat} {x:E} (h:Bw hp gs m .emp=some x):x= .lst .nil:=by
 cases m with
 |zero=>simp [Bw]at h
 |succ m=>simp [Bw]at h;exact h.symm
theorem zza (eh:EH c hp) (k:Bm c.ρ gs) {d:DT} {s:SV} {us:List Nat} {ck:List Cn} {v:Value} {x:E} {m:Nat} (h:kD hp gs d s=some (us,ck)) (hs:SR c [s] [v]) (hx:Bw hp gs m s=some x) (hc: ∀q∈ck,q.den c.ρ):
  DC c.w [d] [v] [x.den c.ρ] (Cr c us)∧ ∀u∈us,∃g,c.K u g:=by
 unfold kD at h;split at h
 ·rename_i y;simp only [Ah,Prod.mk.injEq]at h;obtain⟨rfl,rfl⟩:=h;rw [Lx hx];cases hs with
  |e h1 h2 h3=>
   rename_i f;have Fx:(y.den c.ρ).scalar=true:=by
    cases hl:Vp y with
    |true=>cases y<;>simp [Vp]at hl<;>rfl
    |false=>rw [hl]at hc;exact(BY hc).2.2.2 rfl
   have hf:f= []:=Il h1 (by simpa using Fx);subst hf;exact⟨.flat h1 .nil,by simp⟩
 ·split at h
  ·rename_i hh;simp only [Ah,Prod.mk.injEq]at h;obtain⟨rfl,rfl⟩:=h;rw [Mq hx];cases hs with
   |cr _=>exact⟨.void hh.1 hh.2 .nil,by simp⟩
  ·cases h
 ·split at h
  ·rename_i hh;simp only [Ah,Prod.mk.injEq]at h;obtain⟨rfl,rfl⟩:=h;rw [xC hx];cases hs with
   |emp _=>exact⟨.void hh.1 hh.2 .nil,by simp⟩
  ·cases h
 ·rename_i e z l u g;split at h
  ·rename_i e' z' l' g' ep y hl;split at h
   ·rename_i hh;obtain⟨rfl,rfl,rfl,hb⟩:=hh;simp only [Ah,Prod.mk.injEq]at h;obtain⟨rfl,rfl⟩:=h;obtain⟨q1,q2,q3,q4,q5⟩:=eh u _ (C7 hl k);rw [s6 (y:=y) hx (by simp only [IW,hl,if_true])];have hb:=AY.of_eq hb;subst hb;rw [AY.c8]at q4;cases hs with
    |own k1 k2 _=>rw [k2]at q4;exact⟨by rw [bH,rB,List.append_nil];exact q4,fun w hw=>by simp at hw;subst hw;exact⟨_,k1⟩⟩
   ·cases h
  ·rename_i e' z' g' y hl;split at h
   ·rename_i hh;obtain⟨rfl,rfl,rfl,hf,hlen⟩:=hh;simp only [Ah,Prod.mk.injEq]at h;obtain⟨rfl,rfl⟩:=h;obtain⟨q1,q2,N,q4,q5,q6,q7⟩:=eh u _ (C7 hl k);obtain⟨hN,_⟩:=q6 rfl;have hN:N= []:=hN;subst hN;rw [s6 (y:=y) hx (by simp only [IW,hl,if_true])];cases hs with
    |own k1 k2 _=>rw [k2]at q4;exact⟨by rw [bH,rB,List.append_nil];exact DC.mg q4 hf hlen,fun w hw=>by simp at hw;subst hw;exact⟨_,k1⟩⟩
   ·cases h
  ·cases h
 ·cases h
theorem pT (eh:EH c hp) (k:Bm c.ρ gs): ∀(ds:List DT) {ss:List SV} {us:List Nat} {ck:List Cn} {vs:List Value} {xs:EL} {m:Nat},Ot hp gs ds ss=some (us,ck)→SR c ss vs→CA hp gs m ss=some xs→(∀q∈ck,q.den c.ρ)→
  DC c.w ds vs (xs.den c.ρ) (Cr c us)∧ ∀u∈us,∃g,c.K u g
 | [], [],us,ck,vs,xs,m,h,hs,hx,hc=>by
  simp [Ot]at h;obtain⟨rfl,rfl⟩:=h;cases hs;cases m with
  |zero=>simp [CA]at hx
  |succ m=>simp [CA]at hx;subst hx;exact⟨.nil,by simp⟩
 | [],_::_,us,ck,vs,xs,m,h,hs,hx,hc=>by simp [Ot]at h
 |_::_, [],us,ck,vs,xs,m,h,hs,hx,hc=>by simp [Ot]at h
 |d::ds,s::ss,us,ck, [],xs,m,h,hs,hx,hc=>by have:=hs.len;simp at this
 |d::ds,s::ss,us,ck,v::vs,xs,m,h,hs,hx,hc=>by
  obtain⟨j,y,ys,rfl,hy,DI,rfl⟩:=K9 hx;obtain⟨r1,r2⟩:=hs.ct;unfold Ot at h;split at h
  ·rename_i us1 ck1 us2 ck2 h1 h2;simp only [Ah,Prod.mk.injEq]at h;obtain⟨rfl,rfl⟩:=h;obtain⟨q1,q2⟩:=zza eh k h1 r1 hy fun q hq=>hc q (by simp [hq]);obtain⟨q3,q4⟩:=pT eh k ds h2 r2 DI fun q hq=>hc q (by simp [hq]);refine⟨by rw [Kt];exact q1.app q3,fun u hu=> ?_⟩;rcases Ai.1 hu with hu|hu
   ·exact q2 u hu
   ·exact q4 u hu
  ·cases h
theorem ztl (eh:EH c hp) (k:Bm c.ρ gs) {t:TypeId} {ds:List DT} {s:SV} {us:List Nat} {ck:List Cn} {v:Value} {x:E} (Hr:ds.length=P.cellsOf t) (hg:As P t=true∨P.cellsOf t=1) (h:TR P hp gs t ds s=some (x,us,ck)) (hs:SR c [s] [v]) (hc: ∀q∈ck,q.den c.ρ):
  DC c.w ds v.cells.toList (x.den c.ρ).cells (Cr c us)∧(∀u∈v.cells.toList,u.oneCell'=true)∧(x.den c.ρ).cells.length=P.cellsOf t∧v.cells.size=P.cellsOf t∧
   (if As P t then∃cs,x.den c.ρ= .agg cs else(∀cs,x.den c.ρ≠ .agg cs)∧ ∀cs,x.den c.ρ≠ .tup cs)∧ ∀u∈us,∃g,c.K u g:=by
 unfold TR at h;split at h
 ·cases h
 rename_i y hy;split at h
 ·rename_i EE;simp only [Ah,Prod.mk.injEq]at h;obtain⟨rfl,rfl,rfl⟩:=h;obtain⟨f,q1,q2⟩:=Io eh k A4 hy hs A4 (Nat.le_refl _);obtain⟨c1,c2,c3,c4⟩:=BY hc;have FH:if As P t then∃cs,y.den c.ρ= .agg cs∧cs.length=P.cellsOf t else(∀cs,y.den c.ρ≠ .agg cs)∧ ∀cs,y.den c.ρ≠ .tup cs:=by
   split
   ·rename_i AG;obtain⟨cs,Bp⟩:=c3 AG;exact⟨cs,Bp,by rw [Bp]at c1;exact c1⟩
   ·rename_i AG;have:=c4 (by simpa using AG);exact⟨fun cs Bp=>by rw [Bp]at this;simp [AV.scalar]at this,fun cs Bp=>by rw [Bp]at this;simp [AV.scalar]at this⟩
  have hf:f= []:=by
   cases vE:As P t with
   |true=>obtain⟨cs,Bp⟩:=c3 vE;obtain⟨as_,rfl,_,r⟩:=KC q1 Bp;exact Il r (by rw [Bp]at c2;exact c2)
   |false=>exact Il q1 (by simpa using c4 vE)
  subst hf;obtain⟨o1,o2,o3,o4⟩:=rN (P:=P) q1 hg FH;refine⟨DC.nq o1 EE (by rw [Hr];simpa using o4.symm),o2,o3,o4, ?_,by simp⟩;split at FH
  ·rename_i AG;rw [if_pos AG];obtain⟨cs,Bp,_⟩:=FH;exact⟨cs,Bp⟩
  ·rename_i AG;rw [if_neg AG];exact FH
 ·rename_i GD;split at h
  ·cases h
  rename_i AG;have AG:(Ik s).2=As P t:=by simpa using AG
  obtain⟨⟨us',ck'⟩,hr,h⟩:=Av.1 h;simp only [Prod.mk.injEq]at h;obtain⟨rfl,rfl,rfl⟩:=h;have single:As P t=false→Ot hp gs ds [s]=some (us',ck')→DC c.w ds v.cells.toList (y.den c.ρ).cells (Cr c us')∧(∀u∈v.cells.toList,u.oneCell'=true)∧(y.den c.ρ).cells.length=P.cellsOf t∧v.cells.size=P.cellsOf t∧
   (if As P t then∃cs,y.den c.ρ= .agg cs else(∀cs,y.den c.ρ≠ .agg cs)∧ ∀cs,y.den c.ρ≠ .tup cs)∧ ∀u∈us',∃g,c.K u g:=by
   intro AG hr;have BB:CA hp gs (A4+1) [s]=some (.cons y .nil):=by unfold CA;rw [hy];rfl
   obtain⟨q1,q2⟩:=pT eh k ds hr hs BB hc;have u9:=q1.len;simp only [EL.den,Ao,List.length_nil]at u9
   match ds,u9,q1,GD,Hr with
   | [d],_,q1,GD,Hr=>
    cases d with
    |flat=>simp [DT.cg]at GD
    |row e z l=>
     obtain⟨p,q,r,rfl⟩:=q1.head;obtain⟨xs,CO⟩: ∃xs,y.den c.ρ= .sl xs:=by
      obtain⟨_,_,⟨_,_,hx,_⟩|⟨_,_,_,_,_,_,hx,_⟩⟩:=q1.inv
      ·exact⟨_,hx⟩
      ·exact⟨_,hx⟩
     rw [if_neg (by rw [AG];simp)];refine⟨?_,by simp [Value.cells,Value.oneCell'],by rw [CO,←Hr];rfl,by rw [←Hr];rfl, ?_,q2⟩
     ·simp only [EL.den]at q1;rw [CO]at q1 ⊢;exact q1
     ·rw [CO];exact⟨fun cs hh=>(by cases hh),fun cs hh=>(by cases hh)⟩
  cases s with
  |agg cs=>
   simp only [Ik]at AG hr;obtain⟨m,l,hm,hl,rfl⟩:=WM hy;cases hs with
   |agg h9 h1 h8=>rename_i as_;obtain⟨q1,q2⟩:=pT eh k ds hr h1 hl hc;obtain⟨l1,l2⟩:=q1.len;rw [if_pos AG.symm];exact⟨by simpa [Value.cells,AV.cells,E.den]using q1,by simpa [Value.cells]using h9,by simp only [E.den,AV.cells];omega,by simp [Value.cells];omega,⟨_,rfl⟩,q2⟩
  |_=>exact single AG.symm hr
theorem zpO (eh:EH c hp) (k:Bm c.ρ gs) {t:TypeId} {ds:List DT} (Hr:ds.length=P.cellsOf t) (hg:As P t=true∨P.cellsOf t=1): ∀(ss:List SV) (vs:List Value) {xs:List E} {us:List Nat} {ck:List Cn},SR c ss vs→WQ P hp gs t ds ss=some (xs,us,ck)→(∀q∈ck,q.den c.ρ)→
  DC c.w (Dr vs.length ds) (vs.flatMap fun v=>v.cells.toList) (AO (xs.map (E.den c.ρ))) (Cr c us)∧(∀v∈vs,v.cells.size=P.cellsOf t∧ ∀u∈v.cells.toList,u.oneCell'=true)∧(∀x∈xs,(x.den c.ρ).cells.length=P.cellsOf t)∧xs.length=vs.length∧ ∀u∈us,∃g,c.K u g
 | [],vs,xs,us,ck,hr,ht,hc=>by simp [WQ]at ht;obtain⟨rfl,rfl,rfl⟩:=ht;cases hr;exact⟨by simpa [AO,Dr,Cr]using DC.nil,by simp,by simp,rfl,by simp⟩
 |s::ss, [],xs,us,ck,hr,ht,hc=>by have:=hr.len;simp at this
 |s::ss,v::vs,xs,us,ck,hr,ht,hc=>by
  obtain⟨r1,r2⟩:=hr.ct;unfold WQ at ht;split at ht
  ·rename_i x us1 ck1 xs2 us2 ck2 h1 h2;simp only [Ah,Prod.mk.injEq]at ht;obtain⟨rfl,rfl,rfl⟩:=ht;obtain⟨q1,q2,q3,q4,q5,q6⟩:=ztl eh k Hr hg h1 r1 (fun q hq=>hc q (by simp [hq]));obtain⟨p1,p2,p3,p4,p5⟩:=zpO eh k Hr hg ss vs r2 h2 (fun q hq=>hc q (by simp [hq]));refine⟨?_, ?_, ?_,by simp [p4], ?_⟩
   ·have:=q1.app p1;rw [Ao,Qi,Kt];simpa [AO]using this
   ·intro u hu;rcases Ag.1 hu with rfl|hu
    ·exact⟨q4,q2⟩
    ·exact p2 u hu
   ·intro u hu;rcases Ag.1 hu with rfl|hu
    ·exact q3
    ·exact p3 u hu
   ·intro u hu;rcases Ai.1 hu with hu|hu
    ·exact q6 u hu
    ·exact p5 u hu
  ·cases ht
theorem zsU (eh:EH c hp) (k:Bm c.ρ gs) {e z:Nat} {l:List DT} {s:SV} {us:List Nat} {v:Value} {y:E} {m:Nat} (h:Xm hp gs e z l s=some us) (hs:SR c [s] [v]) (hy:Bw hp gs m s=some y):
  ∃ys q r news N,y.den c.ρ= .sl ys∧v= .slice q ys.length r∧Src c.w z q ys.length news∧DC c.w (Dr ys.length l) news (AO ys) N∧N.Sublist (Cr c us)∧(∀y∈ys,y.cells.length=z)∧(∀u∈news,u.oneCell'=true)∧ ∀u∈us,∃g,c.K u g:=by
 have empt: ∀q,v= .slice q 0 0→y= .lst .nil→us= []→ ∃ys q r news N,y.den c.ρ= .sl ys∧v= .slice q ys.length r∧Src c.w z q ys.length news∧DC c.w (Dr ys.length l) news (AO ys) N∧N.Sublist (Cr c us)∧(∀y∈ys,y.cells.length=z)∧(∀u∈news,u.oneCell'=true)∧ ∀u∈us,∃g,c.K u g:=by
  rintro q rfl rfl rfl;refine⟨[],q,0, [], [],rfl,rfl, ?_,by simpa [Dr,AO]using DC.nil,by simp,by simp,by simp,by simp⟩;cases q with
  |none=>exact .inl ⟨rfl,rfl,rfl⟩
  |some p=>exact .inr ⟨p,rfl,by simp,by simp,by simp⟩
 unfold Xm at h;split at h
 ·simp only [Ah]at h;cases hs with
  |cr _=>exact empt _ rfl (Mq hy) h.symm
 ·simp only [Ah]at h;cases hs with
  |emp _=>exact empt _ rfl (xC hy) h.symm
 ·rename_i u g;split at h
  ·rename_i e' z' l' g' ep x hl;split at h
   ·rename_i hh;obtain⟨rfl,rfl,rfl,hb⟩:=hh;simp only [Ah]at h;subst h;have hb:=AY.jm hb;subst hb;obtain⟨q1,q2,q3,q4,q5⟩:=eh u _ (C7 hl k);have HI:=s6 (y:=x) hy (by simp only [IW,hl,if_true]);subst HI;cases hs with
    |own k1 k2 k3=>
     rename_i p0 n0 r0;rw [k2]at q4;have hK: ∀w∈ [u],∃g,c.K w g:=fun w hw=>by simp at hw;subst hw;exact⟨_,k1⟩
     obtain⟨d1,d2,⟨a9,d3,d4,d5⟩|⟨g9,cap,C,ys,N1,d3,d4,d5,d6,d7,d8,d9,d10,d11,d12⟩⟩:=q4.inv
     ·cases d3;refine⟨[],_,0, [], [],d4,rfl, ?_,by simpa [Dr,AO]using DC.nil,by simp,by simp,by simp,hK⟩;cases p0 with
      |none=>exact .inl ⟨rfl,rfl,rfl⟩
      |some p=>exact .inr ⟨p,rfl,by simp,by simp,by simp⟩
     ·cases d3;rw [AY.bf]at d12;have Ed:C.toList.length=r0*z:=by simpa using d9
      refine⟨ys,_,r0,_,N1,d4,rfl, .inr ⟨_,rfl, ?_,fun j w hw=> ?_,d11⟩,d12, ?_,d10,d11,hK⟩
      ·rw [List.length_take,Ed];exact Nat.min_eq_left (Nat.mul_le_mul_right _ d7)
      ·rw [Addr.add_lit,Nat.zero_add,Fg d6];rw [List.getElem?_take]at hw;split at hw
       ·simpa using hw
       ·cases hw
      ·rw [bH,rB,List.append_nil,d5];exact List.sublist_cons_self _ _
   ·cases h
  ·cases h
 ·cases h
end
def Gn (T:List Nat):List AX:=T.map fun u=>⟨u,none, [], .dead⟩
theorem zCC (T:List Nat):(Gn T).flatMap AX.top= []:=by induction T<;>simp_all [Gn]
theorem zEl (T:List Nat):(Gn T).map AX.tag=T:=by induction T<;>simp_all [Gn]
theorem zA7 (T:List Nat):((Gn T).map fun r=>(r.tag,CV [] r.bu))=FD T:=by simp [Gn,FD,CV]
theorem WI {T:List Nat} {r:AX} (h:r∈Gn T):r.tag∈T∧r.new=none∧r.top= []∧r.bu= .dead:=by obtain⟨u,hu,rfl⟩:=List.mem_map.1 h;exact⟨hu,rfl,rfl,rfl⟩
section
variable {P:Program} {c:Cx} {n nx:Nat} {sl sl0:Nat→SV} {hp hp0:Nat→Option Aj} {a:Act} {o:Oper} {gs:Gd} {e:A7} {sg:BX} {nv:Nat}
theorem Rel.mh (h:Rel c n sl hp a) {T:List Nat} (hT:T.Nodup) (GZ: ∀u∈T,c.U u) {r0:AX} (G5:r0.tag∉T) (H8:r0.new.isSome=true→ ¬c.U r0.tag) (Dd:r0.new=none→c.U r0.tag) {w':World} {hs:List Nat} (Hx: ∀b∈hs,b∈(c.G r0.tag).top∨b∈Cr c T) (hm:Mod hs c.w w')
  (Co:r0.top.Nodup) (Ch: ∀b∈r0.top,(b∈hs∨c.w.heap.size≤b)∧b<w'.heap.size) (A3: ∀q f,r0.bu≠ .gd q f)
  (he:DW c (c.dz w' (r0::Gn T))→Fq c (c.dz w' (r0::Gn T)) w' (r0::Gn T)→Dq (c.dz w' (r0::Gn T)) r0.tag r0.bu):
  Rel (c.dz w' (r0::Gn T)) n sl (Bd hp ((r0.tag,r0.bu)::FD T)) a∧DW c (c.dz w' (r0::Gn T))∧Fq c (c.dz w' (r0::Gn T)) w' (r0::Gn T)∧ ∀t,(c.dz w' (r0::Gn T)).U t→c.U t∨t=r0.tag:=by
 have hn:((r0::Gn T).map AX.tag).Nodup:=by rw [List.map_cons,zEl];exact List.nodup_cons.2 ⟨G5,hT⟩
 have A2: ∀r∈r0::Gn T,r.new.isSome=true→ ¬c.U r.tag:=fun r hr hs=>by
  rcases Ag.1 hr with rfl|hr
  ·exact H8 hs
  ·rw [(WI hr).2.1]at hs;cases hs
 have aft:=Cx.ed (w':=w') h.cj hn A2;obtain⟨q1,q2⟩:=h.changes (gs:= []) (Fh _) hm hn A2 (fun b hb=>by
   rcases Hx b hb with hb|hb
   ·exact⟨r0,by simp,hb⟩
   ·obtain⟨t,ht,CJ⟩:=Ta.1 hb;exact⟨⟨t,none, [], .dead⟩,List.mem_cons_of_mem _ (List.mem_map.2 ⟨t,ht,rfl⟩),CJ⟩)
  (by rw [List.flatMap_cons,zCC,List.append_nil];exact Co)
  (fun r hr b hb=>by
   rcases Ag.1 hr with rfl|hr
   ·exact Ch b hb
   ·rw [(WI hr).2.2.1]at hb;cases hb)
  (fun r hr=>by
   rcases Ag.1 hr with rfl|hr
   ·exact A3
   ·rw [(WI hr).2.2.2];intros;simp)
  (fun hk r hr=>by
   rcases Ag.1 hr with rfl|hr
   ·exact he hk aft
   ·have kg:=aft.G r (List.mem_cons_of_mem _ hr);obtain⟨_,_,e1,e2⟩:=WI hr;rw [e2];exact⟨by rw [kg,e1],by rw [kg]⟩)
 refine⟨?_,q2,aft,fun t ht=> ?_⟩
 ·rw [List.map_cons,zA7]at q1;have:CV [] r0.bu=r0.bu:=rfl;rw [this]at q1;exact q1
 ·rcases ht with ht|⟨r,hr,rfl⟩
  ·exact .inl ht
  ·rcases Ag.1 hr with rfl|hr
   ·exact .inr rfl
   ·exact .inl (GZ _ (WI hr).1)
theorem AF.il (h:Bx P c n nx sl hp a sl0 hp0 o []) {T:List Nat} (hT:T.Nodup) (GZ: ∀u∈T,∃g,c.K u g) {v':Value} {w':World} {ck:List Cn} {e z:Nat} {l:List DT} {x:E} {top:List Nat} (hr:(execOp a.eval o).run P c.w= .ok (.value v') w') (hm:Mod (Cr c T) c.w w')
  (Co:top.Nodup) (Ch: ∀b∈top,(b∈Cr c T∨c.w.heap.size≤b)∧b<w'.heap.size) (hd:DC w' [.row e z (AY.of l)] [v'] [x.den c.ρ] top):
  AF P o c n nx sl hp [] a {cc:=ck,val:= .own nx 0,bu:=(nx, .deep e z l 0 0 x)::FD T}:=by
 intro next Q hk
 unfold Oper.wp;rw [hr,Oper.upon_value];have hU:=Qu h;have LJ: ∀u∈T,c.U u:=fun u hu=>by obtain⟨g,hg⟩:=GZ u hu;exact h.rel.cj _ _ hg
 obtain⟨q1,q2,q3,q4⟩:=h.rel.mh (r0:=⟨nx,some v',top, .deep e z l 0 0 x⟩) hT LJ (fun hh=>hU (LJ _ hh)) (fun _=>hU) (fun hh=>by cases hh) (fun b hb=> .inr hb) hm Co Ch (by intros;simp) (fun _ aft=>by obtain⟨k1,k2,k3⟩:=aft.new _ (List.mem_cons_self ..) v' rfl;have kg:=aft.G _ (List.mem_cons_self ..);have ke:=aft.ll _ (List.mem_cons_self ..) rfl;simp only at k1 k2 k3 kg ke;exact⟨k1,k2,ke,by rw [k3,kg,aft.w,aft.ρ];exact hd,by rw [kg]⟩)
 obtain⟨k1,k2,k3⟩:=q3.new _ (List.mem_cons_self ..) v' rfl;simp only at k1 k3;obtain⟨p,m,r,rfl⟩:=hd.head;refine hk _ (c.dz w' _) ⟨rfl,rfl,rfl,rfl,fun t ht=> ?_⟩ (q1.put (SR.own k1 k3 .nil) o.dst);rcases q4 t ht with ht|rfl
 ·exact .inl ht
 ·exact .inr ⟨Nat.le_refl _,by simp [BM]⟩
theorem AF.l4 (h:Bx P c n nx sl hp a sl0 hp0 o []) {T:List Nat} (hT:T.Nodup) (GZ: ∀u∈T,∃g,c.K u g) {b g ep:Nat} (hb:b∉T) (hK:c.K b g) (Ev: ∀g',c.K b g'→g'≤g) (hE:c.E b=ep) {w':World} {ck:List Cn} {e z:Nat} {l:List DT} {x:E} {top:List Nat} (hr:(execOp a.eval o).run P c.w= .ok .skip w') {hs:List Nat} (Hx: ∀q∈hs,q∈(c.G b).top∨q∈Cr c T) (hm:Mod hs c.w w')
  (Co:top.Nodup) (Ch: ∀q∈top,(q∈hs∨c.w.heap.size≤q)∧q<w'.heap.size) (hd:DC w' [.row e z (AY.of l)] [c.H b g] [x.den c.ρ] top):
  AF P o c n nx sl hp [] a {cc:=ck,bu:=(b, .deep e z l g (ep+1) x)::FD T}:=by
 intro next Q hk
 unfold Oper.wp;rw [hr,Oper.upon_skip];have LJ: ∀u∈T,c.U u:=fun u hu=>by obtain⟨g,hg⟩:=GZ u hu;exact h.rel.cj _ _ hg
 have eU:=h.rel.cj _ _ hK;obtain⟨q1,q2,q3,q4⟩:=h.rel.mh (r0:=⟨b,none,top, .deep e z l g (ep+1) x⟩) hT LJ hb (fun hh=>by cases hh) (fun _=>eU) Hx hm Co Ch (by intros;simp) (fun _ aft=>by have kg:=aft.G _ (List.mem_cons_self ..);have ke:=aft.jo _ (List.mem_cons_self ..) rfl;obtain⟨k1,k2⟩:=aft.K b g hK;simp only at kg ke;exact⟨k1,fun g' Cm=>Ev g' (aft.old b eU g' Cm),by rw [ke,hE],by rw [k2,kg,aft.w,aft.ρ];exact hd,by rw [kg]⟩)
 refine hk _ (c.dz w' _) ⟨rfl,rfl,rfl,rfl,fun t ht=> ?_⟩ (q1.put ((SR.undef .nil).mkGd []) o.dst);rcases q4 t ht with ht|rfl
 ·exact .inl ht
 ·exact .inl eU
theorem zxE {w w':World} {row:Option Nat} {S:List Nat} (h:w.grownBy w' row) (hr: ∀g,row=some g→g∈S∨w.heap.size≤g):Mod S w w':=by
 refine⟨h.os,h.tape,h.output,h.size,fun b hb hn=>h.block b hb fun hh=> ?_⟩;rcases hr b hh.symm with h1|h1
 ·exact hn h1
 ·omega
theorem oY (h:Bx P c n nx sl hp a sl0 hp0 o []) {x y:Operand} {tx:TypeId} {cl:Call} (ho:o.op= .call cl) (AJ:cl.callee= .builtin .append) (DB:cl.args.toList= [x,y]) (ES:cl.argTypes.toList= [tx,tx])
  {el:TypeId} (BB:P.underlying tx=some (.slice el)) (hz:I0 P el=true) {l:List DT} (hl:l.length=P.cellsOf el) {T us:List Nat} (hT:(T++us).Nodup) (GZ: ∀u∈T,∃g,c.K u g) {s2:SV} {ye:E} (A6:BS sl0 [] y=some s2) (hy:Bw hp0 [] A4 s2=some ye) (Cp:Xm hp0 [] el (P.cellsOf el) l s2=some us)
  {c0:E} {v:Value} (hv:a.eval x=v) {N:List Nat} (BF:DC c.w [.row el (P.cellsOf el) (AY.of l)] [v] [c0.den c.ρ] N) (hN:N=Cr c T) {ck:List Cn} (CF:Cn.den c.ρ (.room c0 ye (P.bytesOf el))):
  AF P o c n nx sl hp [] a {cc:=ck,val:= .own nx 0,bu:=(nx, .deep el (P.cellsOf el) l 0 0 (.app c0 ye))::FD (T++us)}:=by
 have AB:cl.args= #[x,y]:=by apply Array.ext';simp [DB]
 have HE:cl.argTypes= #[tx,tx]:=by apply Array.ext';simp [ES]
 have D4:y∈o.op.operands:=by simp [ho,Op.operands,Call.operands,AJ,AB]
 obtain⟨i,z,hi,Gx,D6,Cf,CI,G0⟩:=Mp hz;obtain⟨ys,q,r,news,N2,DI,Dw,F3,fK,BV,Pu,gX,iV⟩:=zsU h.eh h.gs Cp (h.db A6 D4) hy;have CX:=aI h.rel.gw hT;rw [Kt]at CX;have EX: ∀b∈Cr c (T++us),b<c.w.heap.size:=fun b hb=>by obtain⟨t,_,CJ⟩:=Ta.1 hb;exact h.rel.gw.inb t b (by simp [GI.own,CJ])
 obtain⟨mm,kk,H8,Dd,UQ,iK⟩:=CF;obtain⟨d1,d2,Bo⟩:=BF.inv;rw [AY.bf]at d2 Bo;have hU: ∀u∈T++us,∃g,c.K u g:=fun u hu=>by
  rcases Ai.1 hu with hu|hu
  ·exact GZ u hu
  ·exact iV u hu
 obtain⟨xs,old,N1,CO,hold,Ia,KO,IH,CY,XD,eJ⟩: ∃(xs:List AV) (old:List Value) (N1:List Nat),c0.den c.ρ= .sl xs∧old.length=xs.length*i.size∧((xs.length=0∧ ∃q,v= .slice q 0 0)∨ ∃g cap C,v= .slice (some ⟨g,0,none⟩) xs.length cap∧xs.length≤cap∧cap≤maxLen∧c.w.heap[g]?=some (.cells C el (0,0))∧C.size=cap*i.size∧old=C.toList.take (xs.length*i.size)∧(g∈Cr c T∧g∉N1))∧
   DC c.w (Dr xs.length l) old (AO xs) N1∧(∀y∈xs,y.cells.length=P.cellsOf el)∧(∀u∈old,u.oneCell'=true)∧(∀b∈N1,b∈Cr c T)∧N1.Nodup:=by
  rcases Bo with⟨p,rfl,KU,rfl⟩|⟨g9,cap,C,xs,N1,rfl,KU,rfl,h6,h7,h8,h9,Hm,Er,h12⟩
  ·exact⟨[], [], [],KU,by simp, .inl ⟨rfl,p,rfl⟩,by simpa [Dr,AO]using DC.nil,by simp,by simp,by simp,by simp⟩
  ·have Co:(g9::N1).Nodup:=by rw [hN];exact(List.nodup_append.1 CX).1
   rw [List.nodup_cons]at Co;refine⟨xs,_,N1,KU, ?_, .inr ⟨g9,cap,C,rfl,h7,h8,h6,by rw [←CI];exact h9,rfl,by rw [←hN];simp,Co.1⟩,by rw [←CI];exact h12,Hm,by rw [←CI];exact Er,fun b hb=>by rw [←hN];simp [hb],Co.2⟩;have e9:C.toList.length=cap*i.size:=by rw [←CI,←h9];simp
   rw [List.length_take,e9];exact Nat.min_eq_left (Nat.mul_le_mul_right _ h7)
 rw [CO]at H8;rw [DI]at Dd;simp only [AV.len,AV.int.injEq,true_and]at H8 Dd;have Iz:(xs.length+ys.length)*i.bytes≤140737488355328:=by
  rw [←H8,←Dd,G0]at UQ;have h9:(((xs.length+ys.length)*i.bytes:Nat):Int)≤140737488355328:=by rw [Int.natCast_mul,Int.natCast_add];exact UQ
  omega
 have Hq:xs.length+ys.length≤140737488355328:=by rw [←H8,←Dd]at iK;omega
 rw [CI]at F3;obtain⟨v',w',AU,AS⟩:=tM (P:=P) c.w tx o.type el i z BB hi Gx D6 Cf (fun g9=>g9∈Cr c T∧g9∉N1) v xs.length old hold Ia q ys.length r news F3 (by simp only [maxLen];omega) Iz;have FL:(execOp a.eval o).run P c.w= .ok (.value v') w':=by simp [execOp,ho,resolve,AJ,AB,HE,invoke,builtin,hv,Dw,AU]
 have T9: ∀b∈N2,b∈Cr c us:=fun b hb=>BV.subset hb;have eK:N2.Nodup:=BV.nodup (List.nodup_append.1 CX).2.1;have Ue:(E.app c0 ye).den c.ρ= .sl (xs++ys):=by simp only [E.den,CO,DI,AV.app]
 rcases AS with⟨rfl,rfl,Et⟩|⟨g9,cap,C,rfl,h1,h2,h3,h4,h5,h6,h7⟩
 ·have Ib:ys= []:=List.eq_nil_of_length_eq_zero Et;subst Ib;refine AF.il h hT hU FL (Mod.refl _ _) (top:=N) (by rw [hN];exact(List.nodup_append.1 CX).1) (fun b hb=>⟨.inl (by rw [Kt,←hN];simp [hb]),EX b (by rw [Kt,←hN];simp [hb])⟩) ?_;rw [Ue,List.append_nil,←CO];exact BF
 ·have Q0:(g9∈Cr c T∨c.w.heap.size≤g9)∧g9∉N1∧g9∉N2:=by
   rcases h7 with⟨rfl,_⟩|⟨hg,Cm⟩
   ·refine⟨.inr (Nat.le_refl _),fun hh=> ?_,fun hh=> ?_⟩
    ·have:=EX _ (by rw [Kt];exact Ai.2 (.inl (XD _ hh)));omega
    ·have:=EX _ (by rw [Kt];exact Ai.2 (.inr (T9 _ hh)));omega
   ·exact⟨.inl hg,Cm,fun hh=>(List.nodup_append.1 CX).2.2 _ hg _ (T9 _ hh) rfl⟩
  have Bc: ∀b∈N1++N2,w'.heap[b]?=c.w.heap[b]?:=fun b hb=>by
   have Ak:b<c.w.heap.size:=EX b (by
    rw [Kt];rcases Ai.1 hb with hb|hb
    ·exact Ai.2 (.inl (XD b hb))
    ·exact Ai.2 (.inr (T9 b hb)))
   refine h6.block b Ak fun hh=> ?_;cases hh;rcases Ai.1 hb with hb|hb
   ·exact Q0.2.1 hb
   ·exact Q0.2.2 hb
  refine AF.il h hT hU FL (zxE h6 fun g hg=> ?_) (top:=g9::(N1++N2)) ?_ (fun b hb=> ?_) ?_
  ·cases hg;rcases Q0.1 with hh|hh
   ·exact .inl (by rw [Kt];exact Ai.2 (.inl hh))
   ·exact .inr hh
  ·refine List.nodup_cons.2 ⟨fun hh=> ?_,List.nodup_append.2 ⟨eJ,eK,fun p hp q hq=> ?_⟩⟩
   ·rcases Ai.1 hh with hh|hh
    ·exact Q0.2.1 hh
    ·exact Q0.2.2 hh
   ·exact(List.nodup_append.1 CX).2.2 p (XD p hp) q (T9 q hq)
  ·rcases Ag.1 hb with rfl|hb
   ·refine⟨?_,F9 h3⟩;rcases Q0.1 with hh|hh
    ·exact .inl (by rw [Kt];exact Ai.2 (.inl hh))
    ·exact .inr hh
   ·have u5:b∈Cr c (T++us):=by
     rw [Kt];rcases Ai.1 hb with hb|hb
     ·exact Ai.2 (.inl (XD b hb))
     ·exact Ai.2 (.inr (T9 b hb))
    exact⟨.inl u5,Nat.lt_of_lt_of_le (EX b u5) h6.size⟩
  ·rw [Ue];have hlen:(xs++ys).length=xs.length+ys.length:=Ar;rw [CI]at d1 d2 IH Pu ⊢;have:=DC.row (w:=w') (e:=el) (z:=i.size) (l:=AY.of l) (g:=g9) (cap:=cap) (C:=C) (ys:=xs++ys) (N1:=N1++N2) (ts:= []) (vs:= []) (xs:= []) (N:= []) d1 (by rw [AY.bf];exact d2) h3 (by rw [hlen];exact h1) h2 h4 (fun w hw=> ?_) (by
     rw [hlen,h5];intro u hu;rcases Ai.1 hu with hu|hu
     ·exact CY u hu
     ·exact gX u hu) (by
     rw [hlen,h5,pF,zFm,AY.bf];exact(KO.app fK).frame Bc) .nil
   ·rw [hlen]at this;simpa using this
   ·rcases Ai.1 hw with hw|hw
    ·exact IH w hw
    ·exact Pu w hw
end
section
variable {P:Program} {c:Cx} {n nx:Nat} {sl sl0:Nat→SV} {hp hp0:Nat→Option Aj} {a:Act} {o:Oper} {gs:Gd} {e:A7} {sg:BX} {nv:Nat}
theorem zBo {l:List Nat} (h:MJ l=true):l.Nodup:=Th h
theorem ztX (h:Bx P c n nx sl hp a sl0 hp0 o gs) {x y:Operand} {tx ty:TypeId} {cl:Call} (ho:o.op= .call cl) (AJ:cl.callee= .builtin .append) (DB:cl.args.toList= [x,y]) (ES:cl.argTypes.toList= [tx,ty])
  {s1 s2:SV} (BO:BS sl0 gs x=some s1) (A6:BS sl0 gs y=some s2) (he:bT P hp0 gs nx tx ty s1 s2=some e) (hc: ∀q∈e.cc,Cn.den c.ρ q):AF P o c n nx sl hp gs a e:=by
 have AB:cl.args= #[x,y]:=by apply Array.ext';simp [DB]
 have Eu:x∈o.op.operands:=by simp [ho,Op.operands,Call.operands,AJ,AB]
 have D4:y∈o.op.operands:=by simp [ho,Op.operands,Call.operands,AJ,AB]
 unfold bT at he;split at he
 ·cases he
 rename_i Pp;have Pp:tx=ty:=by simpa using Pp
 subst Pp;split at he
 ·rename_i el e' z dl BB DZ;have OT:=K8 BB;split at he
  ·cases he
  rename_i AM;simp only [not_or,Bool.not_eq_true',Bool.not_eq_false,Bool.not_eq_true,ne_eq,Decidable.not_not]at AM;obtain⟨hz,GD,rfl,rfl⟩:=AM;obtain⟨_,_,l,M6,DN⟩:=dH BB DZ;simp only [DT.row.injEq,true_and]at M6;subst M6;rw [AY.bf]at he;have r1:=h.db BO Eu;split at he
  ·rename_i ye us hy Cp;have hU: ∀u∈us,∃g,c.K u g:=(zsU h.eh h.gs Cp (h.db A6 D4) hy).choose_spec.choose_spec.choose_spec.choose_spec.choose_spec.2.2.2.2.2.2.2;have Pr:us.Nodup:=by
    unfold Xm at Cp;split at Cp
    ·simp only [Ah]at Cp;subst Cp;simp
    ·simp only [Ah]at Cp;subst Cp;simp
    ·split at Cp
     ·split at Cp
      ·simp only [Ah]at Cp;subst Cp;simp
      ·cases Cp
     ·cases Cp
    ·cases Cp
   have X6:0<P.cellsOf e':=by obtain⟨i,_,_,_,_,h1,h2,_⟩:=Mp hz;omega
   split at he
   ·rename_i t g;split at he
    ·rename_i e2 z2 l2 g2 ep c0 hl;split at he
     ·rename_i hh;obtain⟨rfl,rfl,hb,rfl,Fv⟩:=hh;have hb:=AY.jm hb;subst hb;simp only [Ah]at he;subst he;obtain⟨q1,q2,q3,q4,q5⟩:=h.eh t _ (C7 hl h.gs);generalize hv:a.eval x=v at r1;cases r1 with
      |own k1 k2 _=>rw [k2]at q4;simp only [Bool.not_eq_true',List.contains_eq_mem,decide_eq_false_iff_not]at Fv;exact oY h ho AJ DB ES OT hz DN (T:= [t]) (by simpa using List.nodup_cons.2 ⟨Fv,Pr⟩) (fun u hu=>by simp at hu;subst hu;exact⟨_,k1⟩) A6 hy Cp hv q4 (by simp [Cr]) (hc _ (by simp))
     ·cases he
    ·cases he
   ·simp only [Ah]at he;subst he;generalize hv:a.eval x=v at r1;cases r1 with
    |emp _=>exact oY h ho AJ DB ES OT hz DN (T:= []) (by simpa using Pr) (by simp) A6 hy Cp hv (c0:= .lst .nil) (.void X6 (by rw [AY.bf];exact DN) .nil) rfl (hc _ (by simp))
   ·simp only [Ah]at he;subst he;generalize hv:a.eval x=v at r1;cases r1 with
    |cr _=>exact oY h ho AJ DB ES OT hz DN (T:= []) (by simpa using Pr) (by simp) A6 hy Cp hv (c0:= .lst .nil) (.void X6 (by rw [AY.bf];exact DN) .nil) rfl (hc _ (by simp))
   ·cases he
  ·cases he
 ·cases he
theorem AF.ia (h:Bx P c n nx sl hp a sl0 hp0 o []) {T:List Nat} (hT:T.Nodup) (GZ: ∀u∈T,∃g,c.K u g) {ck:List Cn} {el z:Nat} {l:List DT} (hz:0<z) (hl:l.length=z) {x:E} {xs:List AV} {C:Array Value} {cap:Nat} (hx:x.den c.ρ= .sl xs) (AJ: ∀y∈xs,y.cells.length=z) (hle:xs.length≤cap) (JP:cap≤maxLen) (hC:C.size=cap*z)
  (h1: ∀u∈C.toList.take (xs.length*z),u.oneCell'=true) (hD:DC c.w (Dr xs.length l) (C.toList.take (xs.length*z)) (AO xs) (Cr c T))
  (hr:(execOp a.eval o).run P c.w= .ok (.value (.slice (some ⟨c.w.heap.size,0,none⟩) xs.length cap)) (c.w.alloc (.cells C el))):
  AF P o c n nx sl hp [] a {cc:=ck,val:= .own nx 0,bu:=(nx, .deep el z l 0 0 x)::FD T}:=by
 have EX: ∀b∈Cr c T,b<c.w.heap.size:=fun b hb=>by obtain⟨t,_,CJ⟩:=Ta.1 hb;exact h.rel.gw.inb t b (by simp [GI.own,CJ])
 have A2:(c.w.alloc (.cells C el)).heap[c.w.heap.size]?=some (.cells C el (0,0)):=heap_alloc_new c.w _;have Ef:c.w.grownBy (c.w.alloc (.cells C el)) (some c.w.heap.size):=⟨rfl,rfl,rfl,by simp,fun j hj _=>Below.heap_alloc c.w _ _ hj⟩
 refine AF.il h hT GZ hr (zxE Ef fun g hg=> .inr (by cases hg;exact Nat.le_refl _)) (top:=c.w.heap.size::Cr c T) ?_ (fun b hb=> ?_) ?_
 ·exact List.nodup_cons.2 ⟨fun hh=>by have:=EX _ hh;omega,aI h.rel.gw hT⟩
 ·rcases Ag.1 hb with rfl|hb
  ·exact⟨.inr (Nat.le_refl _),by simp⟩
  ·exact⟨.inl hb,Nat.lt_of_lt_of_le (EX b hb) (by simp)⟩
 ·rw [hx];have:=DC.row (w:=c.w.alloc (.cells C el)) (e:=el) (z:=z) (l:=AY.of l) (g:=c.w.heap.size) (cap:=cap) (C:=C) (ys:=xs) (N1:=Cr c T) (ts:= []) (vs:= []) (xs:= []) (N:= []) hz (by rw [AY.bf];exact hl) A2 hle JP hC AJ h1 (by
   rw [AY.bf];exact hD.frame fun b hb=>Below.heap_alloc c.w _ _ (EX b hb)) .nil
  simpa using this
theorem zux (h:Bx P c n nx sl hp a sl0 hp0 o gs) {t:TypeId} {m:Nat} {parts:Array (Nat × Operand)} (ho:o.op= .buildSlice t m parts) {ps:List (Nat × SV)} (Nd:parts.toList.mapM (fun(p:Nat × Operand)=>(BS sl0 gs p.2).map fun s=>(p.1,s))=some ps) (he:cI P hp0 gs nx t m ps=some e) (hc: ∀q∈e.cc,Cn.den c.ρ q):AF P o c n nx sl hp gs a e:=by
 obtain⟨e1,e2⟩:=bQ (c:=c) (a:=a) (parts.toList.map (·.2)) (fun x s hx hm=>h.db hx (by simpa [ho,Op.operands]using hm)) (fun x hx=>List.mem_map.2 ⟨x,hx,rfl⟩) Nd;unfold cI at he;split at he
 ·rename_i el e' zz dl JU DZ;have BB:=K8 JU;split at he
  ·cases he
  rename_i AM;simp only [not_or,Bool.not_eq_true',Bool.not_eq_false',ne_eq,Bool.not_eq_false,Bool.not_eq_true,Nat.not_lt,Decidable.not_not]at AM;obtain⟨hz,GD,rfl,rfl,Bt,AG,hle,EU⟩:=AM;obtain⟨_,_,l,M6,DN⟩:=dH JU DZ;simp only [DT.row.injEq,true_and]at M6;subst M6;rw [AY.bf]at he;have AG:As P e'=true∨P.cellsOf e'=1:=by simpa using AG
  obtain⟨i,z,hi,Gx,D6,Cf,CI,G0⟩:=Mp hz;split at he
  ·rename_i xs us ck UX;split at he
   ·rename_i Co;simp only [Ah]at he;subst he;obtain⟨p1,p5,p6,p7,p8⟩:=zpO h.eh h.gs DN AG (ps.map (·.2)) (parts.toList.map fun p=>a.eval p.2) e2 UX hc;have hlen:(parts.toList.map fun p=>a.eval p.2).length=m:=by
     have:ps.length=m:=by have:=congrArg List.length EU;simpa using this
     have h9:=congrArg List.length e1;simp at h9 ⊢;omega
    have HB:(parts.map fun(x:Nat × Operand)=>(x.1,a.eval x.2)).toList=((parts.toList.map fun p=>a.eval p.2).zipIdx 0).map fun p=>(p.2,p.1):=by
     have JZ:parts.toList.map (·.1)=List.range m:=by rw [←e1,EU]
     apply List.ext_getElem?;intro j;have hj:(parts.toList.map (·.1))[j]?=(List.range m)[j]?:=by rw [JZ]
     simp only [Array.toList_map,List.getElem?_map,List.getElem?_zipIdx]at hj ⊢;cases hp:parts.toList[j]? with
     |none=>simp
     |some p=>
      rw [hp]at hj;simp only [Option.map_some,Ah]at hj ⊢;have gF:j<m:=by
       rcases Nat.lt_or_ge j m with hh|hh
       ·exact hh
       ·rw [List.getElem?_eq_none (by simpa using hh)]at hj;cases hj
      rw [List.getElem?_range gF]at hj;simp at hj;simp [hj]
    obtain⟨C',f1,f2⟩:=rC (sz:=i.size) (fun j=>some (j*i.size,i.size)) (fun j=>rfl) (parts.toList.map fun p=>a.eval p.2) 0 ((Array.range (m*i.size)).map (fun j=>(if m*i.size=0 then #[]else z.cells)[j % (if m*i.size=0 then #[]else z.cells).size]!)) [] _ (by simp;rfl) (by simp) (by simp [hlen]) (fun v hv=>by rw [←CI];exact(p5 v hv).1);have Ed:C'.toList.length=m*P.cellsOf e':=by
     rw [f2,CI];simp only [List.nil_append];have: ∀(L:List Value),(∀v∈L,v.cells.size=i.size)→(L.flatMap fun v=>v.cells.toList).length=L.length*i.size:=by
      intro L
      induction L with
      |nil=>intro _;simp
      |cons v L ih=>intro hL;simp only [List.flatMap_cons,Ar,Ao,Array.length_toList];rw [ih (fun u hu=>hL u (by simp [hu])),hL v (by simp),Nat.add_mul];omega
     rw [this _ (fun v hv=>by rw [←CI];exact(p5 v hv).1),hlen]
    have Kg:(xs.map (E.den c.ρ)).length=m:=by rw [List.length_map,p7,hlen]
    have CN:C'.toList.take ((xs.map (E.den c.ρ)).length*P.cellsOf e')=(parts.toList.map fun p=>a.eval p.2).flatMap fun v=>v.cells.toList:=by rw [Kg,←Ed,List.take_length,f2];simp
    refine AF.ia h (zBo Co) p8 (by omega) DN (xs:=xs.map (E.den c.ρ)) (C:=C') (cap:=m) (by simp [E.den,EL.dt]) (fun y hy=> ?_) (by omega) (by simp only [maxLen];have:m*1≤m*P.cellsOf e':=Nat.mul_le_mul_left _ (by omega);omega) (by rw [←Array.length_toList,Ed]) ?_ ?_ ?_
    ·obtain⟨q,hq,rfl⟩:=List.mem_map.1 hy;exact p6 q hq
    ·rw [CN];intro u hu;obtain⟨v,hv,hu⟩:=List.mem_flatMap.1 hu;exact(p5 v hv).2 u hu
    ·rw [CN,Kg,←hlen];exact p1
    ·rw [Kg];have AU:=zor (P:=P) BB Bt hi Gx CI m (by rw [←CI];omega) (parts.map fun(x:Nat × Operand)=>(x.1,a.eval x.2)) C' (by rw [HB];exact f1) c.w;simp only [execOp,ho,Sem.run_bind];rw [AU];rfl
   ·cases he
  ·cases he
 ·cases he
theorem pJ {w:World}: ∀{ds:List DT} {ss:List SV} {vs:List Value},QG ds ss=true→SR c ss vs→ ∀{xs:EL} {m:Nat},CA hp0 gs m ss=some xs→DC w ds vs (xs.den c.ρ) []
 | [], [],vs,_,hs,xs,m,hx=>by
  cases hs;cases m with
  |zero=>simp [CA]at hx
  |succ m=>simp [CA]at hx;subst hx;exact .nil
 | [],_::_,_,h,_,_,_,_=>by simp [QG]at h
 |_::_, [],_,h,_,_,_,_=>by simp [QG]at h
 |d::ds,s::ss, [],h,hs,_,_,_=>by have:=hs.len;simp at this
 |d::ds,s::ss,v::vs,h,hs,xs,m,hx=>by
  obtain⟨j,y,ys,rfl,hy,DI,rfl⟩:=K9 hx;obtain⟨r1,r2⟩:=hs.ct;simp only [QG,Ae]at h;have ih:=pJ (w:=w) h.2 r2 DI;unfold zI7 at h;obtain⟨h1,_⟩:=h;split at h1
  ·rename_i y';rw [EL.den,Lx hy];cases r1 with
   |e g1 g2 _=>
    cases y'<;>simp [Vp]at h1
    ·cases g1 with
     |int hk _=>exact .flat (.int hk .nil) ih
    ·cases g1 with
     |bool _=>exact .flat (.bool .nil) ih
    ·rename_i s0;generalize hq:(E.str s0).den c.ρ=q at g1;cases g1 with
     |str hk _=>exact .flat (.str hk .nil) ih
     |_=>simp [E.den]at hq
  ·simp only [Ae,decide_eq_true_eq,beq_iff_eq]at h1;rw [EL.den,Mq hy];cases r1 with
   |cr _=>exact .void h1.1 h1.2 ih
  ·cases h1
theorem DC.rep {w:World} {ds:List DT} {vs:List Value} {xs:List AV} (h:DC w ds vs xs []): ∀k,DC w (Dr k ds) (List.replicate k vs).flatten (List.replicate k xs).flatten []
 |0=>by simpa [Dr]using DC.nil
 |k+1=>by rw [Qi,List.replicate_succ,List.flatten_cons,List.replicate_succ,List.flatten_cons];simpa using h.app (DC.rep h k)
theorem zw3 (h:Bx P c n nx sl hp a sl0 hp0 o gs) {t:TypeId} {l m:Operand} (ho:o.op= .makeSlice t l m) {s1 s2:SV} (BO:BS sl0 gs l=some s1) (A6:BS sl0 gs m=some s2) (he:dI P hp0 gs nx t s1 s2=some e) (hc: ∀q∈e.cc,Cn.den c.ρ q):AF P o c n nx sl hp gs a e:=by
 have Eu:l∈o.op.operands:=by simp [ho,Op.operands]
 have D4:m∈o.op.operands:=by simp [ho,Op.operands]
 unfold dI at he;split at he
 ·rename_i el e' zz dl x y JU DZ;have BB:=K8 JU;split at he
  ·cases he
  rename_i AM;simp only [not_or,Bool.not_eq_true',Bool.not_eq_false',ne_eq,Bool.not_eq_false,Bool.not_eq_true,Decidable.not_not]at AM;obtain⟨hz,GD,rfl,rfl,HG,KP⟩:=AM;have KP:gs= []:=by simpa using KP
  subst KP;obtain⟨_,_,dl',M6,DN⟩:=dH JU DZ;simp only [DT.row.injEq,true_and]at M6;subst M6;rw [AY.bf]at he;obtain⟨i,z,hi,Gx,D6,Cf,CI,G0⟩:=Mp hz;have r1:=h.db BO Eu;have r2:=h.db A6 D4;have ival: ∀{x:E} {kk:IntKind} {k:Int} {v:Value},SR c [.e x] [v]→x.den c.ρ= .int kk k→v= .int kk k:=by
   intro x kk k v hr hx;cases hr with
   |e h1 _ _=>exact(Hd h1 hx).1
  split at he
  ·rename_i s hs;have hs:Fi z=some s:=by simpa [hi,Gx]using hs
   split at he
   ·rename_i X7;obtain⟨w,hw,rfl⟩:=Av.1 he;obtain⟨kk,k,hk,h0,hb,hle⟩:Cn.den c.ρ (.mkroom x (P.bytesOf e')):=BY hc;have Fe:=ival r1 hk;have Dw:=ival r2 (by rw [←E.aw c.ρ _ _ HG];exact hk);have vY:DC c.w dl' z.cells.toList (w.den c.ρ).cells []:=by
     have IG:=cE (c:=c) hs;unfold zGk at X7;cases s with
     |agg cs=>
      obtain⟨k9,l9,hm,hl9,rfl⟩:=WM hw;cases IG with
      |agg h9 h1 h8=>have:=pJ (w:=c.w) X7 h1 hl9;simpa [Value.cells,AV.cells,E.den]using this
     |cr=>
      have BB:CA hp0 [] (A4+1) [.cr]=some (.cons w .nil):=by unfold CA;rw [hw];rfl
      have:=pJ (w:=c.w) X7 IG BB;rw [Mq hw]at this ⊢;cases IG with
      |cr _=>simpa [Value.cells,AV.cells,E.den,EL.den]using this
     |_=>cases X7
    obtain⟨c1,c2⟩:=pI (w:=c.w) (ρ:=c.ρ) hs hw;obtain⟨kn,rfl⟩:=Int.eq_ofNat_of_zero_le h0;have DY:(i.bytes:Int)*(kn:Int)≤281474976710656:=by rw [G0]at hb;rw [Int.mul_comm];omega
    have hlen:=c1.len;have XR:=aE z.cells (by omega) kn;have AU:=run_make (P:=P) c.w t e' i z BB hi Gx kk kk kn kn (by omega) (Int.le_refl _) DY (by omega);have FM:(madeCells z.cells (kn*z.cells.size)).size=kn*P.cellsOf e':=by rw [size_madeCells,D6,CI]
    have CN:(madeCells z.cells (kn*z.cells.size)).toList.take ((List.replicate kn (w.den c.ρ)).length*P.cellsOf e')=(List.replicate kn z.cells.toList).flatten:=by rw [List.length_replicate,List.take_of_length_le (by rw [Array.length_toList,FM];exact Nat.le_refl _),XR]
    have EE:AO (List.replicate kn (w.den c.ρ))=(List.replicate kn (w.den c.ρ).cells).flatten:=by
     clear AU FM CN XR hb hle DY hk Fe Dw h0 hc
     induction kn with
     |zero=>rfl
     |succ k ih=>simp only [List.replicate_succ,AO,List.flatMap_cons,List.flatten_cons]at ih ⊢;rw [ih]
    refine AF.ia (T:= []) h (by simp) (by simp) (by omega) DN (xs:=List.replicate kn (w.den c.ρ)) (C:=madeCells z.cells (kn*z.cells.size)) (cap:=kn) (by simp [E.den,hk,AV.rep]) (fun u hu=> ?_) (by simp) (by simp only [maxLen];omega) FM ?_ ?_ ?_
    ·rw [List.eq_of_mem_replicate hu,←hlen,Array.length_toList,D6,CI]
    ·rw [CN];intro u hu;obtain⟨q,hq,hu⟩:=List.mem_flatten.1 hu;rw [List.eq_of_mem_replicate hq]at hu;exact c2 u hu
    ·rw [CN,List.length_replicate,EE];exact vY.rep kn
    ·simp only [execOp,ho,Fe,Dw,Sem.run_bind,Int.ofNat_eq_natCast,List.length_replicate];rw [AU,D6];rfl
   ·cases he
  ·cases he
 ·cases he
end
section
variable {P:Program} {c:Cx} {n nx:Nat} {sl sl0:Nat→SV} {hp hp0:Nat→Option Aj} {a:Act} {o:Oper} {gs:Gd} {e:A7} {sg:BX} {nv:Nat}
theorem ztH {α:Type} (cs vs:List α) (o:Nat):setVs cs o vs=cs.take o++(vs++cs.drop (o+vs.length)):=by simp [setVs]
theorem DC.setVs {w:World} {ts:List DT} {L V:List Value} {X Y:List AV} {N1 N2 M:List Nat} {p:Nat} (h1:DC w (ts.take p) (L.take p) (X.take p) N1) (h2:DC w (ts.drop (p+V.length)) (L.drop (p+V.length)) (X.drop (p+V.length)) N2) (k:DC w ((ts.drop p).take V.length) V Y M):
  DC w ts (Go.Proofs.YtbmbkgalkfmjdaaGreatDoor.setVs L p V) (Go.Proofs.YtbmbkgalkfmjdaaGreatDoor.setVs X p Y) (N1++(M++N2)):=by
 have hk:=k.len;have ht:ts=ts.take p++((ts.drop p).take V.length++ts.drop (p+V.length)):=by rw [←List.drop_drop,List.take_append_drop,List.take_append_drop]
 rw [ztH,ztH];have hl:Y.length=V.length:=by omega
 rw [hl];have:=h1.app (k.app h2);rw [←ht]at this;exact this
theorem zve (h:Bx P c n nx sl hp a sl0 hp0 o []) {t:TypeId} {x y:Operand} (ho:o.op= .store t x y) {b g:Nat} {ix:E} {sz k:Nat} {s:SV} (r1:SR c [.c7 b g ix sz k] [a.eval x]) (r2:SR c [s] [a.eval y]) {el:Nat} {l:List DT} {ep:Nat} {c0:E} (hK:c.K b g) (Ev: ∀g',c.K b g'→g'≤g) (hE:c.E b=ep)
  (Bt:DH P t=true) (hle:k+P.cellsOf t≤sz) (FX:As P el=true∨(sz=1∧As P t=false)) (Es:As P t=true∨P.cellsOf t=1)
  {xe:E} {us:List Nat} {ck:List Cn} (Cp:TR P hp0 [] t ((l.drop k).take (P.cellsOf t)) s=some (xe,us,ck)) (JQ: ∀q∈ck,q.den c.ρ) (Co:us.Nodup) (hb:b∉us)
  (Ch: ∀(kk:IntKind) (kv:Int),ix.den c.ρ= .int kk kv→ ∃(m cap:Nat) (C:Array Value) (ys:List AV) (N1 N2:List Nat),c.H b g= .slice (some ⟨m,0,none⟩) ys.length cap∧c0.den c.ρ= .sl ys∧0<sz∧l.length=sz∧c.w.heap[m]?=some (.cells C el (0,0))∧ys.length≤cap∧cap≤maxLen∧C.size=cap*sz∧(∀y∈ys,y.cells.length=sz)∧(∀w∈C.toList.take (ys.length*sz),w.oneCell'=true)∧
   (m::(N1++N2)).Nodup∧(∀q∈m::(N1++N2),q∈(c.G b).top)∧DC c.w ((Dr ys.length l).take (kv.toNat*sz+k)) ((C.toList.take (ys.length*sz)).take (kv.toNat*sz+k)) ((AO ys).take (kv.toNat*sz+k)) N1∧
   DC c.w ((Dr ys.length l).drop (kv.toNat*sz+k+P.cellsOf t)) ((C.toList.take (ys.length*sz)).drop (kv.toNat*sz+k+P.cellsOf t)) ((AO ys).drop (kv.toNat*sz+k+P.cellsOf t)) N2):
  AF P o c n nx sl hp [] a {cc:=ck,bu:=(b, .deep el sz l g (ep+1) (.set c0 ix (.put (.idx c0 ix) k xe (As P el))))::FD us}:=by
 generalize hv:a.eval x=v at r1;cases r1 with
 |c7 k1 k2 k3 k4 k5 k6=>
  rename_i m0 len cap0 kk kv;obtain⟨m,cap,C,ys,N1,N2,p1,p2,p3,p4,p5,p6,p7,p8,p9,p10,p11,p12,p13,p14⟩:=Ch kk kv k3;rw [k2]at p1;cases p1;have G2:kv.toNat<ys.length:=by omega
  have hmul:(kv.toNat+1)*sz≤ys.length*sz:=Nat.mul_le_mul_right _ (by omega);have GB:ys.length*sz≤cap0*sz:=Nat.mul_le_mul_right _ p6;rw [Nat.add_mul]at hmul;have Ed:C.toList.length=cap0*sz:=by simpa using p8
  obtain⟨q1,q2,q3,q4,q5,q6⟩:=ztl h.eh h.gs (by rw [List.length_take,List.length_drop,p4];omega) Es Cp r2 JQ;have GG:=Oq G2;generalize HH:(AV.sl ys).nth kv.toNat=yk at GG;have F6:=p9 yk (List.mem_of_getElem? GG);have Ey:(a.eval y).cells.toList.length=P.cellsOf t:=by simpa using q4
  obtain⟨m1,m2,m3⟩:=Z1 (vs:=(a.eval y).cells.toList) p5 (show(kv.toNat*sz+k)+_≤C.size by rw [Ey,p8];omega);have O4:(C.toList.take (ys.length*sz)).length=ys.length*sz:=by rw [List.length_take,Ed];omega
  have H6:m0∈(c.G b).top:=p12 _ (by simp);have L4: ∀q∈Cr c us,q∉(c.G b).top:=fun q hq hh=>by obtain⟨u,hu,iI⟩:=Ta.1 hq;exact h.rel.gw.cz u b (fun hh=>hb (hh▸hu)) q (by simp [GI.own,iI]) (by simp [GI.own,hh])
  have M3: ∀q∈Cr c us,q<c.w.heap.size:=fun q hq=>by obtain⟨u,_,iI⟩:=Ta.1 hq;exact h.rel.gw.inb u q (by simp [GI.own,iI])
  have M1: ∀q∈(c.G b).top,q<c.w.heap.size:=fun q hq=>h.rel.gw.inb b q (by simp [GI.own,hq]);have Bc: ∀q,q∈Cr c us∨(q∈N1++N2)→(Dg c.w m0 (kv.toNat*sz+k) (a.eval y).cells.toList).heap[q]?=c.w.heap[q]?:=fun q hq=>by
   refine m1.block q ?_ ?_
   ·rcases hq with hq|hq
    ·exact M3 q hq
    ·exact M1 q (p12 q (by simp [Ai.1 hq]))
   ·simp only [List.mem_singleton];rintro rfl;rcases hq with hq|hq
    ·exact L4 _ hq H6
    ·exact(List.nodup_cons.1 p11).1 hq
  have hz:(yk.di k (xe.den c.ρ) (As P el)).cells=setVs yk.cells k (xe.den c.ρ).cells:=by
   refine qT ?_ (fun hg=> ?_)
   ·cases hg:As P el with
    |true=>exact .inr rfl
    |false=>
     left;rcases FX with h'|⟨_,h'⟩
     ·rw [hg]at h';cases h'
     ·rw [h']at q5;exact fun cs=>(q5.1 cs)
   ·rcases FX with h'|⟨h1,h'⟩
    ·rw [hg]at h';cases h'
    ·rw [h']at q5;have OQ:P.cellsOf t=1:=by rcases Es with h2|h2;rw [h']at h2;cases h2;exact h2
     refine⟨by omega,by omega, ?_⟩;cases jC:xe.den c.ρ<;>first|rfl|exact absurd jC (q5.1 _)
  have EV:AO (ys.set kv.toNat (yk.di k (xe.den c.ρ) (As P el)))=setVs (AO ys) (kv.toNat*sz+k) (xe.den c.ρ).cells:=
   cS ys _ _ yk k _ p9 GG (by rw [q3];exact hle) hz
  have Hr:((Dr ys.length l).drop (kv.toNat*sz+k)).take (P.cellsOf t)=(l.drop k).take (P.cellsOf t):=by rw [←p4];exact Wv l _ _ _ _ G2 (by omega)
  have AU:(execOp a.eval o).run P c.w= .ok .skip (Dg c.w m0 (kv.toNat*sz+k) (a.eval y).cells.toList):=by have:=pR (P:=P) (t:=t) (v:=a.eval y) (off:=kv.toNat*sz+k) p5 Bt q4 (by rw [q4,p8];omega) q2;simp [execOp,ho,hv,this]
  refine AF.l4 h Co q6 hb hK Ev hE AU (hs:=(c.G b).top++Cr c us) (fun q hq=>Ai.1 hq) ⟨m1.os,m1.tape,m1.output,m1.size,fun q hq hn=>m1.block q hq fun hh=>hn (by simp only [List.mem_singleton]at hh;subst hh;exact Ai.2 (.inl H6))⟩
   (top:=m0::(N1++(Cr c us++N2))) ?_ (fun q hq=> ?_) ?_
  ·have hnT:=aI h.rel.gw Co;rw [List.nodup_cons,List.nodup_append]at p11;obtain⟨n1,n2,n3,n4⟩:=p11;have a1: ∀q∈Cr c us,q∉N1∧q∉N2∧q≠m0:=fun q hq=>⟨fun hh=>L4 q hq (p12 q (by simp [hh])),fun hh=>L4 q hq (p12 q (by simp [hh])),fun hh=>L4 q hq (hh▸H6)⟩
   rw [List.nodup_cons,List.nodup_append,List.nodup_append];refine⟨fun hh=> ?_,n2,⟨hnT,n3,fun p hp q hq XW=>(a1 p hp).2.1 (XW▸hq)⟩,fun p hp q hq XW=> ?_⟩
   ·simp only [Ai]at hh n1;rcases hh with hh|hh|hh
    ·exact n1 (.inl hh)
    ·exact(a1 _ hh).2.2 rfl
    ·exact n1 (.inr hh)
   ·rcases Ai.1 hq with hq|hq
    ·exact(a1 q hq).1 (XW▸hp)
    ·exact n4 p hp q hq XW
  ·have:q∈(c.G b).top∨q∈Cr c us:=by
    simp only [Ag,Ai]at hq;rcases hq with rfl|hq|hq|hq
    ·exact .inl H6
    ·exact .inl (p12 q (by simp [hq]))
    ·exact .inr hq
    ·exact .inl (p12 q (by simp [hq]))
   refine⟨.inl (Ai.2 this),Nat.lt_of_lt_of_le ?_ m1.size⟩;rcases this with hh|hh
   ·exact M1 q hh
   ·exact M3 q hh
  ·have Cd:(E.set c0 ix (.put (.idx c0 ix) k xe (As P el))).den c.ρ= .sl (ys.set kv.toNat (yk.di k (xe.den c.ρ) (As P el))):=by
    simp only [E.den,p2,k3,AV.idx,HH,AV.da]
   rw [Cd,k2];have DN:(ys.set kv.toNat (yk.di k (xe.den c.ρ) (As P el))).length=ys.length:=List.length_set;have:=DC.row (w:=Dg c.w m0 (kv.toNat*sz+k) (a.eval y).cells.toList) (e:=el) (z:=sz) (l:=AY.of l) (g:=m0) (cap:=cap0) (ys:=ys.set kv.toNat (yk.di k (xe.den c.ρ) (As P el))) (N1:=N1++(Cr c us++N2)) (ts:= []) (vs:= []) (xs:= []) (N:= []) p3 (by rw [AY.bf];exact p4) m2 (by rw [DN];exact p6) p7 (by rw [List.size_toArray,To _ _ _ (by rw [Ey,Ed];omega),Array.length_toList];exact p8) (fun w hw=> ?_) ?_ ?_ .nil
   ·rw [DN]at this;simpa using this
   ·rcases List.mem_or_eq_of_mem_set hw with hw|rfl
    ·exact p9 w hw
    ·rw [hz,To _ _ _ (by rw [q3,F6];exact hle)];exact F6
   ·simp only [DN,List.toList_toArray];rw [S9 _ _ _ _ (by rw [Ey];omega) (by rw [Ed];omega)];intro u hu;unfold setVs at hu;simp only [Ai]at hu;rcases hu with(hu|hu)|hu
    ·exact p10 u (List.mem_of_mem_take hu)
    ·exact q2 u hu
    ·exact p10 u (List.mem_of_mem_drop hu)
   ·simp only [DN,List.toList_toArray];rw [S9 _ _ _ _ (by rw [Ey];omega) (by rw [Ed];omega),EV,AY.bf];refine DC.setVs (p13.frame fun q hq=>Bc q (.inr (by simp [hq]))) ?_ ?_
    ·rw [Ey];exact p14.frame fun q hq=>Bc q (.inr (by simp [hq]))
    ·rw [Ey,Hr];exact q1.frame fun q hq=>Bc q (.inl hq)
theorem zuk (h:Bx P c n nx sl hp a sl0 hp0 o gs) {t:TypeId} {x y:Operand} (ho:o.op= .store t x y) {b g:Nat} {ix:E} {sz k:Nat} {s:SV} (BF: ¬ ∃e z g c d,DA hp0 gs b=some (.row e z g c d)) (hx:BS sl0 gs x=some (.c7 b g ix sz k)) (hy:BS sl0 gs y=some s)
  (he:Of P hp0 gs t (.c7 b g ix sz k) s=some e) (hc: ∀q∈e.cc,Cn.den c.ρ q):AF P o c n nx sl hp gs a e:=by
 have r1:=h.db hx (by simp [ho,Op.operands]);have r2:=h.db hy (by simp [ho,Op.operands]);simp only [Of]at he;split at he
 ·rename_i hl;exact absurd ⟨_,_,_,_,_,hl⟩ BF
 ·rename_i el sz' l g' ep c0 hl;split at he
  ·rename_i hh;obtain⟨rfl,rfl,rfl,Bt,hle,FX,Es⟩:=hh;split at he
   ·rename_i xe us ck Cp;split at he
    ·cases he
    rename_i Fv;simp only [Bool.or_eq_true,Bool.not_eq_true',not_or,Bool.not_eq_false,Bool.not_eq_true,List.contains_eq_mem,decide_eq_false_iff_not]at Fv;simp only [Ah]at he;subst he;obtain⟨e1,e2,e3,e4,e5⟩:=h.eh b _ (C7 hl h.gs);refine zve h ho r1 r2 e1 e2 e3 Bt hle (by simpa using FX) Es Cp hc (Th Fv.1) Fv.2 fun kk kv Uz=> ?_;generalize a.eval x=v at r1;cases r1 with
    |c7 k1 k2 k3 k4 k5 _=>
     rw [k3]at Uz;cases Uz;obtain⟨d1,d2,⟨a9,d3,_⟩|⟨g9,cap9,C,ys,N,d3,d4,d5,d6,d7,d8,d9,d10,d11,d12⟩⟩:=e4.inv
     ·rw [k2]at d3;cases d3;omega
     ·rw [AY.bf]at d2 d12;obtain⟨N1,N2,N3,rfl,s1,s2,s3⟩:=d12.split (kv.toNat*sz+k) (P.cellsOf t);have Co:=h.rel.gw.nodup b;simp only [GI.own,e5,List.append_nil,d5]at Co;refine⟨g9,cap9,C,ys,N1,N3,d3,d4,d1,d2,d6,d7,d8,d9,d10,d11, ?_,fun q hq=> ?_,s1,s3⟩
      ·refine List.Sublist.nodup (List.Sublist.cons_cons _ ?_) Co;rw [List.append_assoc];exact List.Sublist.append (List.Sublist.refl _) (List.sublist_append_right _ _)
      ·rw [d5];simp only [Ag,Ai]at hq ⊢;rcases hq with hq|hq|hq
       ·exact .inl hq
       ·exact .inr (.inl (.inl hq))
       ·exact .inr (.inr hq)
   ·cases he
  ·cases he
 ·rename_i el sz' l g' ep c0 i' o' u' hl;split at he
  ·rename_i hh;obtain⟨rfl,rfl,rfl,Bt,rfl,hib,hle,OQ,Es,FX⟩:=hh;have Es:As P t=false:=by simpa using Es
   split at he
   ·rename_i xe us ck Cp;split at he
    ·cases he
    rename_i Fv;simp only [Bool.or_eq_true,Bool.not_eq_true',not_or,Bool.not_eq_false,Bool.not_eq_true,List.contains_eq_mem,decide_eq_false_iff_not]at Fv;simp only [Ah]at he;subst he;obtain⟨e1,e2,e3,⟨m,cap,C,ys,kk,kv,N1,N2,p1,p2,p3,p4,p5,p6,p7,p7',p8,p9,p10,p11,p12,p13,p14,p15,p16,p17,p18⟩,e5⟩:=h.eh b _ (C7 hl h.gs);refine zve h ho r1 r2 e1 e2 e3 Bt (by omega) (FX.imp id fun hh=>⟨hh,Es⟩) (.inr OQ) (by rw [OQ];exact Cp) hc (Th Fv.1) Fv.2 fun kk' kv' Uz=> ?_;rw [E.aw c.ρ _ _ hib,p3]at Uz;cases Uz;have Co:=h.rel.gw.nodup b;simp only [GI.own,e5,List.append_nil,p14]at Co;exact⟨m,cap,C,ys,N1,N2,p1,p2,p7,p7',p8,p9,p10,p11,p12,p13,Co,fun q hq=>by rw [p14];exact hq,p17,by rw [OQ];exact p18⟩
   ·cases he
  ·cases he
 ·cases he
end
section
variable {P:Program} {c:Cx} {n nx:Nat} {sl sl0:Nat→SV} {hp hp0:Nat→Option Aj} {a:Act} {o:Oper} {gs:Gd} {e:A7} {sg:BX} {nv:Nat}
theorem zxZ {w:World} {ety sz:Nat} {p:Option Addr} {m r:Nat} {x:AV} {top N:List Nat} (h:C8 w ety sz (.slice p m r) x top N): ∃xs,x= .sl xs∧xs.length=m∧m≤r∧0<sz∧(∀y∈xs,y.cells.length=sz)∧
  ((xs= []∧m=0∧r=0∧top= []∧N= [])∨ ∃g C,p=some ⟨g,0,none⟩∧r≤maxLen∧w.heap[g]?=some (.cells C ety (0,0))∧C.size=r*sz∧top= [g]∧(∀u∈C.toList.take (m*sz),u.oneCell'=true)∧Rd w (C.toList.take (m*sz)) (AO xs) N):=by
 obtain⟨xs,rfl,h2,h3,⟨rfl,⟨a,hv⟩,rfl,rfl⟩|⟨g,cap',C,hv,h6,h7,h8,h9,rfl,Hm,Er⟩⟩:=h
 ·cases hv;exact⟨[],rfl,rfl,Nat.le_refl _,h3,by simp, .inl ⟨rfl,rfl,rfl,rfl,rfl⟩⟩
 ·cases hv;exact⟨xs,rfl,rfl,h6,h3,h2, .inr ⟨g,C,rfl,h7,h8,h9,rfl,Hm,Er⟩⟩
theorem zw7 (h:Bx P c n nx sl hp a sl0 hp0 o gs) {t:TypeId} {x:Operand} {lo hi mx:Option Operand} (ho:o.op= .slice t x lo hi mx) {s:SV} (hs:BS sl0 gs x=some s) {l' h' m':Option SV} (BL:KJ (BS sl0 gs) lo=some l') (M0:KJ (BS sl0 gs) hi=some h') (Gz:KJ (BS sl0 gs) mx=some m') (he:dD P hp0 gs t s l' h' m'=some e) (hc: ∀q∈e.cc,Cn.den c.ρ q):AF P o c n nx sl hp gs a e:=by
 have hm:x∈o.op.operands:=by simp [ho,Op.operands]
 have O6: ∀y,lo=some y→y∈o.op.operands:=fun y hy=>by simp [ho,Op.operands,hy]
 have LY: ∀y,hi=some y→y∈o.op.operands:=fun y hy=>by simp [ho,Op.operands,hy]
 have hx:=h.db hs hm;have ival: ∀{x:E} {kk:IntKind} {k:Int} {v:Value},SR c [.e x] [v]→x.den c.ρ= .int kk k→v= .int kk k:=by
  intro x kk k v hr hx;cases hr with
  |e h1 _ _=>exact(Hd h1 hx).1
 have ex:(execOp a.eval o).run P c.w=((Instr.sliceAt t (a.eval x) (lo.map a.eval) (hi.map a.eval) (mx.map a.eval)).run P c.w).andThen fun v w=> .ok (.value v) w:=by simp [execOp,ho]
 unfold dD at he;split at he
 ·rename_i el0 b g BB;have hu:=K8 BB;split at he
  ·cases he
  rename_i Bt;have Bt:DH P el0=true:=by simpa using Bt
  have O8:mx=none:=by
   rcases Ky Gz with⟨hh,_⟩|⟨_,_,_,_,hh⟩
   ·exact hh
   ·cases hh
  subst O8;split at he
  ·rename_i el z g' c0 d hl;split at he
   ·cases he
   rename_i AM;simp only [not_or,Decidable.not_not,ne_eq]at AM;obtain⟨rfl,rfl,rfl⟩:=AM;obtain⟨q1,q2,N,q3,q4,q5,q6⟩:=h.eh b _ (C7 hl h.gs);generalize hv:a.eval x=v at hx ex;cases hx with
   |own k1 k2 k3=>
    rename_i p m r;rw [k2]at q3;obtain⟨xs,CO,Kg,UE,Cf,AJ,Bo⟩:=zxZ q3;split at he
    ·rename_i l;simp only [Ah]at he;subst he;obtain⟨ka,ai,kb,bi,mm,d1,d2,d3,d4,d5,d6⟩:Cn.den c.ρ (.win c0 l (.len c0)):=BY hc;have O7:mm=(m:Int):=by rw [CO]at d3;simp only [AV.len,AV.int.injEq,true_and]at d3;omega
     obtain⟨an,rfl⟩:=Int.eq_ofNat_of_zero_le d4;obtain⟨ol,Ci,hol⟩: ∃ol,lo=some ol∧BS sl0 [] ol=some (.e l):=by
      rcases Ky BL with⟨_,hh⟩|⟨ol,sl',OY,fU,fV⟩
      ·cases hh
      ·cases fV;exact⟨ol,OY,fU⟩
     have OZ:hi=none:=by
      rcases Ky M0 with⟨hh,_⟩|⟨_,_,_,_,hh⟩
      ·exact hh
      ·cases hh
     subst Ci;subst OZ;have gO:=ival (h.db hol (O6 _ rfl)) d1;have hle:an≤m:=by omega
     have AU:=nW (P:=P) (w:=c.w) (lo:=(some ol).map a.eval) (hi:=(none:Option Operand).map a.eval) hu Bt p m r an m (.inr ⟨ka,by rw [Option.map_some,gO]⟩) (.inl ⟨rfl,rfl⟩) hle (Nat.le_refl _) UE;have:=SR.wown (c:=c) (lo:=l) (sz:=P.cellsOf el) (q':=if r=an then p else p.map (·.add (an*P.cellsOf el))) (r:=r-an) k1 k2 d1 d4 (by omega) (fun Ak=>by
      rcases Bo with⟨_,Et,_⟩|⟨g9,C,rfl,_⟩
      ·omega
      ·exact⟨g9,rfl,by rw [if_neg (by omega)];simp [Addr.add_lit],by simp⟩) .nil
     refine AF.pure h (v:=sliced p an m r (P.cellsOf el)) ?_ (by simpa [sliced]using this) rfl;rw [ex];show Result.andThen (Sem.run P (Instr.sliceAt t (.slice p m r) ((some ol).map a.eval) ((none:Option Operand).map a.eval) none) c.w) _=_;rw [AU];rfl
    ·rename_i hb;simp only [Ah]at he;subst he;obtain⟨ka,ai,kb,bi,mm,d1,d2,d3,d4,d5,d6⟩:Cn.den c.ρ (.win c0 (.int .i64 0) hb):=BY hc;have O7:mm=(m:Int):=by rw [CO]at d3;simp only [AV.len,AV.int.injEq,true_and]at d3;omega
     simp only [E.den,AV.int.injEq]at d1;obtain⟨_,rfl⟩:=d1;obtain⟨bn,rfl⟩:=Int.eq_ofNat_of_zero_le d5;obtain⟨oh,OZ,hoh⟩: ∃oh,hi=some oh∧BS sl0 [] oh=some (.e hb):=by
      rcases Ky M0 with⟨_,hh⟩|⟨ol,sl',OY,fU,fV⟩
      ·cases hh
      ·cases fV;exact⟨ol,OY,fU⟩
     have Ci:lo=none:=by
      rcases Ky BL with⟨hh,_⟩|⟨_,_,_,_,hh⟩
      ·exact hh
      ·cases hh
     subst Ci;subst OZ;have gO:=ival (h.db hoh (LY _ rfl)) d2;have hle:bn≤m:=by omega
     have AU:=nW (P:=P) (w:=c.w) (lo:=(none:Option Operand).map a.eval) (hi:=(some oh).map a.eval) hu Bt p m r 0 bn (.inl ⟨rfl,rfl⟩) (.inr ⟨kb,by rw [Option.map_some,gO]⟩) (Nat.zero_le _) hle UE;have CR:sliced p 0 bn r (P.cellsOf el)= .slice p bn r:=by
      unfold sliced;rcases Bo with⟨_,_,rfl,_⟩|⟨g9,C,rfl,_⟩
      ·simp
      ·split<;>simp [Addr.add_lit]
     rw [CR]at AU;have FL:(execOp a.eval o).run P c.w= .ok (.value (.slice p bn r)) c.w:=by rw [ex];show Result.andThen (Sem.run P (Instr.sliceAt t (.slice p m r) ((none:Option Operand).map a.eval) ((some oh).map a.eval) none) c.w) _=_;rw [AU];rfl
     have A2: ¬c.K b (g+1):=fun hk=>by have:=q2 _ hk;omega
     have At:=h.rel;have D0:=At.bm (gs:= []) (t:=b) (g:=g+1) (w':=c.w) (row:=(c.G b).top.head?) (top:=(c.G b).top) (O:=if d=true then(c.G b).O else []) (v:= .slice p bn r) (.inr (by omega)) A2 ⟨rfl,rfl,rfl,Nat.le_refl _,fun _ _ _=>rfl⟩ (fun g0 Ft=> .inl (List.mem_of_mem_head? Ft)) (by
       rcases Bo with⟨_,_,_,ht,_⟩|⟨g9,C,_,_,_,_,ht,_⟩
       ·exact .inl ht
       ·exact .inr ⟨g9,by rw [ht];rfl,ht⟩) (by split;exact .inr rfl;exact .inl rfl)
      (.row el (P.cellsOf el) (g+1) (.win c0 (.int .i64 0) hb) d) (by intros;simp) (Fh _) (fun G3=>by
       have HF:(E.win c0 (.int .i64 0) hb).den c.ρ= .sl (xs.take bn):=by simp only [E.den,CO,d2,AV.win];simp
       obtain⟨N',BE,XE⟩: ∃N',C8 c.w el (P.cellsOf el) (.slice p bn r) (.sl (xs.take bn)) (c.G b).top N'∧ ∀q∈N',q∈N:=by
        rcases Bo with⟨rfl,Et,rfl,ht,rfl⟩|⟨g9,C,rfl,Ev,XK,hC,ht,h1,DO⟩
        ·have:bn=0:=by omega
         subst this;exact⟨[],⟨[],by simp,by simp,Cf, .inl ⟨rfl,⟨p,rfl⟩,ht,rfl⟩⟩,by simp⟩
        ·obtain⟨N',eI,CZ⟩:=DO.piece 0 (bn*P.cellsOf el);have G4:(xs.take bn).length=bn:=by rw [List.length_take];omega
         have hmul:bn*P.cellsOf el≤m*P.cellsOf el:=Nat.mul_le_mul_right _ hle;have ef:=rL xs AJ 0 bn (Nat.zero_le _) (by omega);simp only [Nat.zero_mul,Nat.sub_zero,List.drop_zero]at ef CZ;rw [ef,List.take_take,Nat.min_eq_left hmul]at CZ;refine⟨N',⟨xs.take bn,rfl,fun y hy=>AJ y (List.mem_of_mem_take hy),Cf, .inr ⟨g9,r,C,by rw [G4],by rw [G4];omega,Ev,XK,hC,ht, ?_, ?_⟩⟩,eI⟩
         ·rw [G4];intro u hu;refine h1 u ?_;have:C.toList.take (bn*P.cellsOf el)=(C.toList.take (m*P.cellsOf el)).take (bn*P.cellsOf el):=by rw [List.take_take,Nat.min_eq_left hmul]
          rw [this]at hu;exact List.mem_of_mem_take hu
         ·rw [G4];exact CZ
       refine⟨.inr ⟨rfl,rfl⟩,fun g'' OW=> ?_,N', ?_,fun q hq=>G3.ok q (BE.nw q hq) (q4 q (XE q hq)),fun hd=> ?_,fun hd=>by simp [Cx.bm,hd]⟩
       ·rcases OW with OW|⟨_,rfl⟩
        ·have:=q2 _ OW;omega
        ·exact Nat.le_refl _
       ·have e1:(c.bm b (g+1) c.w (.slice p bn r) (c.G b).top (if d=true then(c.G b).O else [])).H b (g+1)= .slice p bn r:=by simp [Cx.bm]
        have e2:((c.bm b (g+1) c.w (.slice p bn r) (c.G b).top (if d=true then(c.G b).O else [])).G b).top=(c.G b).top:=by simp [Cx.bm]
        rw [e1,e2];show C8 c.w el (P.cellsOf el) _ ((E.win c0 (.int .i64 0) hb).den c.ρ) _ N';rw [HF];exact BE
       ·obtain⟨u1,u2⟩:=q5 hd;have u1:N= []:=u1;subst u1;have OI:N'= []:=List.eq_nil_iff_forall_not_mem.2 fun q hq=>by simpa using XE q hq
        subst OI;exact⟨rfl,by simp only [Cx.bm,if_true,hd];exact u2⟩)
     intro next Q hk
     unfold Oper.wp;rw [FL,Oper.upon_value];refine hk _ (c.bm b (g+1) c.w (.slice p bn r) (c.G b).top (if d=true then(c.G b).O else [])) ⟨rfl,rfl,rfl,rfl,fun u hu=> ?_⟩ (D0.put (SR.mkGd (c:=c.bm b (g+1) c.w (.slice p bn r) (c.G b).top (if d=true then(c.G b).O else [])) (s:= .own b (g+1)) (v:= .slice p bn r) (.own (show _∨_ from .inr ⟨rfl,rfl⟩) (by simp [Cx.bm]) .nil) []) o.dst);rcases hu with hu|rfl
     ·exact .inl hu
     ·exact .inl (h.rel.cj _ _ k1)
    ·cases he
  ·cases he
 ·cases he
theorem zuj (z:Array Value) (hz:0<z.size) (k:Nat):(Builtin.zeroCells z k).toList=(List.replicate k z.toList).flatten:=by have:=aE z hz k;rw [←this];rfl
theorem zBL (h:Bx P c n nx sl hp a sl0 hp0 o gs) {x:Operand} {tx:TypeId} {cl:Call} (ho:o.op= .call cl) (AJ:cl.callee= .builtin .clear) (DB:cl.args.toList= [x]) (ES:cl.argTypes.toList= [tx]) {s:SV} (hs:BS sl0 gs x=some s) (he:sX P hp0 gs tx s=some e) (hc: ∀q∈e.cc,Cn.den c.ρ q):AF P o c n nx sl hp gs a e:=by
 have AB:cl.args= #[x]:=by apply Array.ext';simp [DB]
 have HE:cl.argTypes= #[tx]:=by apply Array.ext';simp [ES]
 have hm:x∈o.op.operands:=by simp [ho,Op.operands,Call.operands,AJ,AB]
 have hx:=h.db hs hm;unfold sX at he;split at he
 ·rename_i el0 b g l z BB;have hu:=K8 BB;split at he
  ·rename_i el z' g' c0 d hl;split at he
   ·cases he
   rename_i AM;simp only [not_or,Bool.not_eq_true',Bool.not_eq_false,Decidable.not_not,ne_eq]at AM;obtain⟨rfl,rfl,rfl,rfl,hz,AG⟩:=AM;have AG:As P el=true∨P.cellsOf el=1:=by simpa using AG
   obtain⟨i,zv,hi,Gx,D6,Cf,CI,G0⟩:=Mp hz;split at he
   ·rename_i q hq;split at he
    ·rename_i w hw;have hq:Fi zv=some q:=by simpa [hi,Gx]using hq
     simp only [Ah]at he;subst he;obtain⟨c1,c2⟩:=pI (w:=c.w) (ρ:=c.ρ) hq hw;have AS:=MD h.hp (C7 hl h.gs);obtain⟨q1,q2,N,q3,q4,q5,q6⟩:=h.rel.ents b _ AS;generalize hv:a.eval x=v at hx;cases hx with
     |wown k1 k2 k3 k4 k5 k6 k7=>
      rename_i p m r q' r' kk kv;rw [k2]at q3;obtain⟨xs,CO,Kg,UE,iQ,OP,Bo⟩:=zxZ q3;have OR:(E.bin .sub (.len c0) l).den c.ρ≠ .undef:=hc (.dfd (.bin .sub (.len c0) l)) (by simp);have M4:kk= .i64:=by
       simp only [E.den,CO,AV.len,k3,AV.bin]at OR;split at OR
       ·rename_i hh;rcases hh with hh|hh|hh
        ·exact hh.symm
        ·cases hh
        ·cases hh
       ·exact absurd rfl OR
      subst M4;have Cd:(E.bin .sub (.len c0) l).den c.ρ= .int .i64 ((m:Int)-kv):=by
       simp only [E.den,CO,AV.len,k3,AV.bin,true_or,if_true,BR,Kg];congr 1;have hm63:(m:Int)≤9223372036854775807:=by
        rcases Bo with⟨_,h0,_⟩|⟨_,_,_,Ev,_⟩
        ·omega
        ·have:maxLen=9223372036854775807:=rfl;omega
       exact(Qv .i64 _).2 ⟨by simp [IntKind.min,IntKind.signed,IntKind.bits];omega,by simp [IntKind.max,IntKind.signed,IntKind.bits];omega⟩
      have A2:(E.app (.win c0 (.int .i64 0) l) (.rep (.bin .sub (.len c0) l) w)).den c.ρ= .sl (xs.take kv.toNat++List.replicate (m-kv.toNat) (w.den c.ρ)):=by
       have e1:(E.win c0 (.int .i64 0) l).den c.ρ= .sl (xs.take kv.toNat):=by simp only [E.den,CO,k3,AV.win];simp
       have e2:(E.rep (.bin .sub (.len c0) l) w).den c.ρ= .sl (List.replicate (m-kv.toNat) (w.den c.ρ)):=by show AV.rep ((E.bin .sub (.len c0) l).den c.ρ) (w.den c.ρ)=_;rw [Cd];simp only [AV.rep];congr 2;omega
       show AV.app _ _=_;rw [e1,e2];rfl
      have ex:(execOp a.eval o).run P c.w=((Builtin.clear_ #[tx] o.type #[.slice q' (m-kv.toNat) r']).run P c.w).andThen fun v w=> .ok (.value v) w:=by simp [execOp,ho,resolve,AJ,AB,HE,invoke,builtin,hv]
      rcases Nat.eq_or_lt_of_le (show kv.toNat≤m by omega)with heq|Ak
      ·
       have BV:m-kv.toNat=0:=by omega
       have AU:(execOp a.eval o).run P c.w= .ok (.value (.tuple #[])) c.w:=by rw [ex,BV];cases q'<;>simp [Builtin.clear_,run_underlying hu]
       have Bc:(E.app (.win c0 (.int .i64 0) l) (.rep (.bin .sub (.len c0) l) w)).den c.ρ=c0.den c.ρ:=by rw [A2,CO,BV];simp [List.take_of_length_le (show xs.length≤kv.toNat by omega)]
       intro next Q hk
       unfold Oper.wp;rw [AU,Oper.upon_value];have D0:Rel c n sl (Bd hp [(b, .row el (P.cellsOf el) g (.app (.win c0 (.int .i64 0) l) (.rep (.bin .sub (.len c0) l) w)) d)]) a:=by
        have D5: ∀u,Bd hp [(b, .row el (P.cellsOf el) g (.app (.win c0 (.int .i64 0) l) (.rep (.bin .sub (.len c0) l) w)) d)] u=if u=b then some (.row el (P.cellsOf el) g (.app (.win c0 (.int .i64 0) l) (.rep (.bin .sub (.len c0) l) w)) d)else hp u:=fun u=>rfl;refine h.rel.change (fun u=>u=b) (DW.refl c) h.rel.base (fun u hu=>⟨by rw [D5,if_neg hu],rfl,rfl,fun _ hk=>hk⟩) (fun _ _ _ _=>rfl) (fun u hu=> ?_) h.rel.gw h.rel.cj (fun u f hf=> ?_)
        ·subst hu;rw [D5,if_pos rfl];refine⟨fun e' hr=> ?_,fun hn=>absurd rfl (hn _)⟩;simp only [CC]at hr;subst hr;exact⟨q1,q2,N,by rw [Bc,k2];exact q3,q4,q5,q6⟩
        ·rw [D5]at hf;split at hf
         ·rename_i hu;subst hu;exact h.rel.cj _ _ k1
         ·exact h.rel.c6 u f hf
       exact hk _ c (NB.refl _ _) (D0.put ((SR.undef .nil).mkGd []) o.dst)
      ·obtain⟨b9,vK,rfl,rfl⟩:=k6 (by omega);rcases Bo with⟨_,h0,_⟩|⟨g9,C,hp',Ev,XK,hC,ht,h1,DO⟩
       ·omega
       rw [vK]at hp';cases hp';have Ed:C.toList.length=r*P.cellsOf el:=by simpa using hC
       have vG:m*P.cellsOf el≤r*P.cellsOf el:=Nat.mul_le_mul_right _ UE;have vF:(m-kv.toNat)*P.cellsOf el+kv.toNat*P.cellsOf el=m*P.cellsOf el:=by rw [←Nat.add_mul];congr 1;omega
       have jH:=zuj zv.cells (by omega) (m-kv.toNat);generalize hZ:(List.replicate (m-kv.toNat) zv.cells.toList).flatten=Z at jH;have OJ:Z.length=(m-kv.toNat)*P.cellsOf el:=by rw [←hZ,List.length_flatten];simp only [List.map_replicate,List.sum_replicate_nat,Array.length_toList,D6,CI]
       have u4: ∀u∈Z,u.oneCell'=true:=fun u hu=>by rw [←hZ]at hu;obtain⟨L,hL,hu⟩:=List.mem_flatten.1 hu;rw [List.eq_of_mem_replicate hL]at hu;exact c2 u hu
       have F2:=oZ (P:=P) (off:=kv.toNat*P.cellsOf el) Z 0 c.w C XK (by rw [OJ,hC];omega) u4;have AU:(execOp a.eval o).run P c.w= .ok (.value (.tuple #[])) (Dg c.w b9 (kv.toNat*P.cellsOf el) Z):=by
        rw [ex];obtain⟨mm,O7⟩: ∃mm,m-kv.toNat=mm+1:=⟨m-kv.toNat-1,by omega⟩
        have hzv:(zeroValue el).run P c.w= .ok zv c.w:=by simp [zeroValue,typeInfo,hi,Gx]
        simp only [Nat.add_zero]at F2;rw [O7]at jH ⊢;simp [Builtin.clear_,run_underlying hu,hzv,jH,F2]
       obtain⟨m1,m2,m3⟩:=Z1 (off:=kv.toNat*P.cellsOf el) (vs:=Z) XK (by rw [OJ,hC];omega);have O4:(C.toList.take (m*P.cellsOf el)).length=m*P.cellsOf el:=by rw [List.length_take,Ed];omega
       have Ns:b9∈(c.G b).top:=by rw [ht];simp
       have Uc:Rd c.w Z (AO (List.replicate (m-kv.toNat) (w.den c.ρ))) []:=by rw [←hZ];exact jZ c1 _
       obtain⟨n1,n2,n3,hN,s1,s2⟩:=Rd.setVs (p:=kv.toNat*P.cellsOf el) DO Uc (by rw [O4,OJ];omega);have No:(w.den c.ρ).cells.length=P.cellsOf el:=by have:=c1.len;rw [←this];simp [D6,CI]
       have hYl:(AO (List.replicate (m-kv.toNat) (w.den c.ρ))).length=Z.length:=by rw [←Uc.len]
       have EE:setVs (AO xs) (kv.toNat*P.cellsOf el) (AO (List.replicate (m-kv.toNat) (w.den c.ρ)))=AO (xs.take kv.toNat++List.replicate (m-kv.toNat) (w.den c.ρ)):=by
        have ef:=rL xs OP 0 kv.toNat (Nat.zero_le _) (by omega)
        simp only [Nat.zero_mul,Nat.sub_zero,List.drop_zero]at ef;unfold setVs;rw [ef,pF,hYl,OJ,List.drop_eq_nil_of_le (by rw [N7 _ OP,Kg];omega),List.append_nil]
       rw [EE]at s1;have Ch: ∀q∈n1++ []++n3,q∈N:=fun q hq=>by rw [hN];simp at hq ⊢;rcases hq with hq|hq<;>simp [hq]
       have F1: ∀q,q<c.w.heap.size→c.ok q→(Dg c.w b9 (kv.toNat*P.cellsOf el) Z).heap[q]?=c.w.heap[q]?:=by intro q hq Az;refine m1.block q hq ?_;simp only [List.mem_singleton];rintro rfl;exact Az.1 ⟨b,Ns⟩
       have DN:(xs.take kv.toNat++List.replicate (m-kv.toNat) (w.den c.ρ)).length=m:=by rw [Ar,List.length_take,List.length_replicate];omega
       have D0:=h.rel.ky (t:=b) (b:=b9) (w':=Dg c.w b9 (kv.toNat*P.cellsOf el) Z) (O:=if d=true then(c.G b).O else []) AS Ns (by split;exact .inr rfl;exact .inl rfl) m1 m3
        (.row el (P.cellsOf el) g (.app (.win c0 (.int .i64 0) l) (.rep (.bin .sub (.len c0) l) w)) d) (by intros;simp) (fun G3=>by
         refine⟨q1,q2,n1++ []++n3, ?_,fun q hq=>G3.ok q (DO.inb q (Ch q hq)) (q4 q (Ch q hq)),fun hd=> ?_,fun hd=>by simp [Cx.gx,hd]⟩
         ·show C8 (Dg c.w b9 (kv.toNat*P.cellsOf el) Z) el (P.cellsOf el) (c.H b g) ((E.app (.win c0 (.int .i64 0) l) (.rep (.bin .sub (.len c0) l) w)).den c.ρ) _ _;rw [A2,k2,vK];refine⟨_,rfl,fun y hy=> ?_,iQ, .inr ⟨b9,r,_,by rw [DN],by rw [DN];exact UE,Ev,m2, ?_,by simpa [Cx.gx]using ht, ?_, ?_⟩⟩
          ·rcases Ai.1 hy with hy|hy
           ·exact OP y (List.mem_of_mem_take hy)
           ·rw [List.eq_of_mem_replicate hy];exact No
          ·rw [List.size_toArray,To _ _ _ (by rw [OJ,Ed];omega),Array.length_toList];exact hC
          ·simp only [DN,List.toList_toArray];rw [S9 _ _ _ _ (by rw [OJ];omega) (by rw [Ed];omega)];intro u hu;unfold setVs at hu;simp only [Ai]at hu;rcases hu with(hu|hu)|hu
           ·exact h1 u (List.mem_of_mem_take hu)
           ·exact u4 u hu
           ·exact h1 u (List.mem_of_mem_drop hu)
          ·simp only [DN,List.toList_toArray];rw [S9 _ _ _ _ (by rw [OJ];omega) (by rw [Ed];omega)];exact s1.frame fun q hq=>F1 q (DO.inb q (Ch q hq)) (q4 q (Ch q hq))
         ·obtain⟨u1,u2⟩:=q5 hd;have u1:N= []:=u1;subst u1;have OI:n1++ []++n3= []:=List.eq_nil_iff_forall_not_mem.2 fun q hq=>by simpa using Ch q hq
          rw [OI];exact⟨rfl,by simp only [Cx.gx,if_true,hd];exact u2⟩)
       intro next Q hk
       unfold Oper.wp;rw [AU,Oper.upon_value];exact hk _ (c.gx _ b _) ⟨rfl,rfl,rfl,rfl,fun t ht=> .inl ht⟩ (D0.put ((SR.undef .nil).mkGd []) o.dst)
    ·cases he
   ·cases he
  ·cases he
 ·cases he
end
section
variable {P:Program} {c:Cx} {n nx:Nat} {sl sl0:Nat→SV} {hp hp0:Nat→Option Aj} {a:Act} {o:Oper} {gs:Gd} {e:A7} {sg:BX} {nv:Nat}
theorem tY {w:World}: ∀(vs:List Value) {xs:List AV} {f:List Nat} (ts:List TypeId),Rd w vs xs f→ts.length≤vs.length→DU P w ts [] [] vs xs f [] []
 | [],xs,f,ts,h,hl=>by have:ts= []:=List.eq_nil_of_length_eq_zero (by simpa using hl);subst this;cases h;exact .nil
 |v::vs, [],f,ts,h,hl=>by have:=h.len;simp at this
 |v::vs,x::xs,f,ts,h,hl=>by
  obtain⟨f1,f2,rfl,h1,h2⟩:=h.ct;cases ts with
  |nil=>exact .free h1 (tY vs [] h2 (by simp))
  |cons t ts=>exact DU.cons (h:= []) ⟨h1,rfl⟩ (tY vs ts h2 (by simpa using hl))
theorem zHz (l:EL):EL.of (TC.go l)=l:=by
 induction l using EL.rec (motive_1:=fun _=>True)with
 |nil=>rfl
 |cons e es _ ih=>simp [TC.go,EL.of,ih]
 |_=>trivial
theorem zEW {w:World} {ts:List TypeId} {vs:List Value} {Bs:List AV} {f o:List Nat} (h:D7 P w ts [] vs Bs f o):Bs= []:=by
 have key: ∀(ts:List TypeId),BK ts []=false:=by
  intro ts
  induction ts with
  |nil=>rfl
  |cons t ts ih=>simp only [BK,List.headD_nil,Bool.false_or,List.tail_nil];exact ih
 exact(pL h).2 (key ts)
theorem zCG (t:TypeId):Hf P t []=false:=by simp [Hf]
theorem zrj (h:Bx P c n nx sl hp a sl0 hp0 o gs) {cl:Call} {fo:Operand} (ho:o.op= .call cl) (AJ:cl.callee= .value fo) {y:E} {sf:SV} (hf:BS sl0 gs fo=some sf) (hsf: ∀v,SR c [sf] [v]→ ∃f,Rd c.w [v] [y.den c.ρ] f) {as_:List SV} (has:cl.args.toList.mapM (BS sl0 gs)=some as_) {t:TypeId}
  (he:TC P hp0 gs nv t y as_=some e) (Bj: ∀c',e.call=some c'→ ∃r,c.ρ[nv]?=some r∧I6 (Cv P sg) c'.fn ((EL.of c'.args).den c.ρ) c.ρ r):AF P o c n nx sl hp gs a e:=by
 have gR:fo∈o.op.operands:=by simp [ho,Op.operands,Call.operands,AJ]
 have gQ: ∀x∈cl.args.toList,x∈o.op.operands:=fun x hx=>by
  have:x∈cl.args:=by simpa using hx
  simp [ho,Op.operands,Call.operands,AJ,this]
 have Ng:=h.db hf gR;have AB:=zxU (a:=a) (fun x hx s hs=>h.db hs (gQ x hx)) has;unfold TC at he;split at he
 ·cases he
 split at he
 ·cases he
 rename_i es IC;simp only [Ah]at he;subst he;obtain⟨r,hr,g,caps,hy,J9,Fx⟩:=Bj _ rfl;rw [zHz]at J9;obtain⟨f1,p1,p2⟩:=Ts h.eh h.gs A4 IC AB A4 (Nat.le_refl _);generalize fR:a.eval fo=fv at Ng;obtain⟨_,k1⟩:=hsf _ Ng;obtain⟨capv,f2,rfl,fF⟩: ∃capv f2,fv= .func (.func g) #[] capv.toArray∧Rd c.w capv caps f2:=by
  rw [hy]at k1;cases k1 with
  |fn q1 _=>exact⟨_,_,rfl,q1⟩
 have Pk:TZ P {cy:= [],res:= []} g (es.den c.ρ++caps) r:=by unfold Cv at J9;rw [if_neg (by omega)]at J9;simpa using J9
 obtain⟨fn,Hu,Ee,Eg,_,hlen,_,FZ⟩:=Pk;have DO:=p1.app fF;have Ey:=DO.len;have Bj:=FZ c.w _ _ [] [] (tY _ (fn.params.toList++ []) DO (by rw [Ey,hlen,List.append_nil,Array.length_toList];omega)) (by simp) (by simp) (by simp) (h.rel.oe (by simp));have ex:(execOp a.eval o).run P c.w= .ok (.enter g (cl.args.map a.eval++capv.toArray)) c.w:=by
  have hb:fn.body.isNone=false:=by simpa using Ee
  simp only [execOp,ho,resolve,AJ,fR,Deferred.ofValue,Sem.run_bind,Sem.run_pure,Result.andThen_ok,invoke,callFunc,run_program,Hu];simp [Eg,hb]
 intro next Q hk
 unfold Oper.wp;rw [ex,Oper.upon_enter];have OL:cl.args.map a.eval++capv.toArray=((cl.args.toList.map a.eval)++capv).toArray:=by apply Array.ext';simp
 rw [OL];refine Bj.mono ?_;rintro e' w' ⟨v,rfl,⟨R,Bs,f1',o1,f2',o2,L0,AS,FG,Hz,UM,Ur⟩,DD⟩;show next (a.put o.dst v) w'
 have OH:=zEW FG;subst OH;simp only at L0;subst L0;have hv:Rd w' [v] [r] []:=by
  unfold KX at AS;split at AS
  ·rename_i t' ht;unfold E8 at AS;rw [if_neg (by rw [zCG];simp)]at AS;have:=zqk AS.1 Fx;subst this;exact AS.1
  ·obtain⟨vs,ys,_,rfl,_⟩:=AS;have:=Fx (.tup ys) (by simp [AV.cells]);simp [AV.scalar]at this
 obtain⟨FJ,_⟩:=h.rel.changes (w':=w') (recs:= []) (hs:= []) (gs:=gs) h.gs DD (by simp) (by simp) (by simp) (by simp) (by simp) (by simp) (by simp);refine hk _ (c.dz w' []) ⟨rfl,rfl,rfl,rfl,fun t ht=> ?_⟩ (FJ.put (SR.mkGd (.e (f:= []) ?_ (by simp) .nil) gs h.gs) o.dst)
 ·rcases ht with ht|⟨r,hr,_⟩
  ·exact .inl ht
  ·simp at hr
 ·show Rd w' [v] [(E.var nv).den c.ρ] [];simp only [E.den,hr,Option.getD_some];exact hv
theorem jU (Kb: ∀f s,sg f=some s→f<1000000) (h:Bx P c n nx sl hp a sl0 hp0 o gs) (he:BJ P sg sl0 hp0 nv nx gs o=some e)
  (hc: ∀q∈e.cc,q.den c.ρ) (Bj: ∀cl,e.call=some cl→ ∃r,c.ρ[nv]?=some r∧I6 (Cv P sg) cl.fn ((EL.of cl.args).den c.ρ) c.ρ r) (CQ: ∀x,e.cq=some x→c.ρ[nv]?=some (.bool (Lu a o))):AF P o c n nx sl hp gs a e:=by
 have LS:=he;cases AT:o.op with
 |move x=>simp only [BJ,AT,Av]at he;obtain⟨s,hs,rfl⟩:=he;exact zxl h (.inl AT) hs
 |assign x=>simp only [BJ,AT,Av]at he;obtain⟨s,hs,rfl⟩:=he;exact zxl h (.inr AT) hs
 |pick x y z=>exact zCj h AT he hc
 |alloc t=>exact zBh h AT he hc
 |box t x=>exact zFU h AT he hc
 |build t parts=>exact zBM h AT he hc
 |buildSlice t m parts=>
  simp only [BJ,AT,Aw]at he;obtain⟨ps,Nd,he⟩:=he;split at he
  ·exact zux h AT Nd he hc
  ·exact zrS h AT Nd he hc
 |load t x=>exact zDV h AT he hc
 |nilCheck x=>exact zvW h AT he hc
 |makeSlice t l m=>
  simp only [BJ,AT,Aw]at he;obtain⟨s1,BO,s2,A6,he⟩:=he;split at he
  ·exact zw3 h AT BO A6 he hc
  ·exact zBZ h AT BO A6 he hc
 |slice t x lo hi mx=>
  simp only [BJ,AT,Aw]at he;obtain⟨s,hs,l',BL,h',M0,m',Gz,he⟩:=he;split at he
  ·exact zw7 h AT hs BL M0 Gz he hc
  ·exact zzm h AT hs BL M0 Gz he hc
 |fieldAddr t x f=>exact zud h AT he hc
 |field t x f=>exact zBy h AT he hc
 |extract x i=>exact zxK h AT he hc
 |store t x y=>
  simp only [BJ,AT,Aw]at he;obtain⟨p,hp',v,hv,he⟩:=he;cases p with
  |cw b k=>exact zwW h AT hp' hv he hc
  |c7 b g i sz k=>
   by_cases BF: ∃e z g c d,DA hp0 gs b=some (.row e z g c d)
   ·exact zwG h AT BF hp' hv he hc
   ·exact zuk h AT BF hp' hv he hc
  |_=>simp [Of]at he
 |binOp op t x y ty=>
  cases hu:P.underlying t with
  |none=>simp only [BJ,AT,Aw]at he;obtain⟨_,_,_,_,he⟩:=he;simp [TK,hu]at he
  |some d=>
   by_cases UW: ∃fs,d= .struct fs
   ·obtain⟨fs,rfl⟩:=UW;exact zE8 h AT hu he hc
   ·have Nb: ∀fs,P.underlying t≠some (.struct fs):=fun fs hh=>UW ⟨fs,by rw [hu]at hh;cases hh;rfl⟩;cases hq:e.cq with
    |none=>exact zEL h AT Nb he hq hc
    |some x'=>
     have GH:=CQ x' hq;simp only [BJ,AT,Aw]at he;obtain⟨s1,BO,s2,A6,he⟩:=he;have r1:=h.db BO (by simp [AT,Op.operands]);have r2:=h.db A6 (by simp [AT,Op.operands]);unfold TK at he;split at he
     ·rename_i el F4;have CR: ∀xq,Bw hp0 gs A4 s1=some xq→Cn.den c.ρ (.dfd (.len xq))→ ∃p q r,a.eval x= .slice p q r:=by
       intro xq Kh hd;obtain⟨f,q1,_⟩:=h.ln BO (by simp [AT,Op.operands]) Kh;have hd:(xq.den c.ρ).len≠ .undef:=hd;cases Bz:xq.den c.ρ<;>simp only [Bz,AV.len,ne_eq,not_true_eq_false]at hd;rename_i xs;have hl:(xq.den c.ρ).len= .int .i64 (xs.length:Int):=by rw [Bz];rfl
       rcases Tq q1 hl with⟨p,q,hv,Et⟩|⟨b,o',k,q,hv,Et⟩
       ·exact⟨_,_,_,hv⟩
       ·exact⟨_,_,_,hv⟩
      split at he
      ·simp at he;subst he;cases hq
      ·simp at he;subst he;cases hq
      ·obtain⟨xq,Kh,rfl⟩:=Av.1 he;obtain⟨p,q,r,hv⟩:=CR xq Kh (hc _ (by simp));exact zxV h AT F4 hv r2 (.inl rfl) GH _
      ·obtain⟨xq,Kh,rfl⟩:=Av.1 he;obtain⟨p,q,r,hv⟩:=CR xq Kh (hc _ (by simp));exact zxV h AT F4 hv r2 (.inr rfl) GH _
      ·cases he
     ·split at he
      ·simp at he;subst he;cases hq
      ·cases he
     ·split at he
      ·simp at he;subst he;cases hq
      ·cases he
     ·split at he
      ·simp at he;subst he;cases hq
      ·cases he
     ·rename_i fs F4;exact absurd F4 (Nb fs)
     ·cases he
 |unOp u t x=>
  cases u with
  |not=>exact zFe h AT he hc
  |neg=>exact zFW h AT he hc
  |_=>simp [BJ,AT]at he
 |convert src dst x=>
  have MU:=he;simp only [BJ,AT,Aw]at MU;obtain⟨s,_,MU⟩:=MU;unfold WY at MU;split at MU
  ·rename_i k0 k h1 h2;exact zxG h AT h1 h2 he hc
  ·rename_i h1 h2;exact zxp h AT h1 h2 he hc
  ·rename_i el h1 h2;exact zwR h AT h1 h2 he hc
  ·cases MU
 |makeFunc fr fst caps=>
  cases fr with
  |func f=>exact zwT h AT he
  |_=>simp [BJ,AT]at he
 |indexAddr t x i=>refine zuf h AT (fun hu=> ?_) he hc;simp only [BJ,AT,Aw]at he;obtain⟨_,_,_,_,he⟩:=he;simp [YH,hu]at he
 |index t x i=>
  refine zxF h AT ?_ he hc;simp only [BJ,AT,Aw]at he;obtain⟨_,_,_,_,he⟩:=he;split at he
  ·rename_i AZ;unfold YH at AZ;split at AZ
   ·assumption
   ·cases AZ
  ·cases he
 |call cl=>
  simp only [BJ,AT]at he;cases AJ:cl.callee with
  |invoke r m=>rw [AJ]at he;simp at he
  |value f=>
   rw [AJ]at he;simp only [Aw]at he;obtain⟨s,hs,as_,has,he⟩:=he;cases s with
   |fn g caps=>
    have he:Xc P sg hp0 gs nv nx g (as_++caps.toList)=some e:=he;refine zCN h AT AJ hs has ?_ he Bj;unfold Xc at he;split at he
    ·rename_i fn sg' Hu hh;exact Kb g sg' hh
    ·cases he
   |e y=>exact zrj h AT AJ hs (fun v hv=>by cases hv with|e k1 _ _=>exact⟨_,k1⟩) has he Bj
   |lent i=>exact zrj h AT AJ hs (fun v hv=>by
     cases hv with
     |lent g1 _=>obtain⟨f,p1,p2⟩:=h.rel.base.lo _ _ g1;exact⟨f,p1.frame fun b hb=>h.rel.base.block b (p1.inb b hb) (p2 b hb)⟩) has he Bj
   |_=>simp at he
  |builtin b=>
   rw [AJ]at he;cases b with
   |len=>
    simp only at he;split at he
    ·rename_i x tx DB ES;exact zEX h AT AJ DB ES LS hc
    ·cases he
   |append=>
    simp only at he;split at he
    ·rename_i x y tx ty DB ES;simp only [Aw]at he;obtain⟨s1,BO,s2,A6,he⟩:=he;split at he
     ·exact ztX h AT AJ DB ES BO A6 he hc
     ·exact zxc h AT AJ DB ES BO A6 he hc
    ·cases he
   |clear=>
    simp only at he;split at he
    ·rename_i x tx DB ES;simp only [Aw]at he;obtain⟨s,hs,he⟩:=he;exact zBL h AT AJ DB ES hs he hc
    ·cases he
   |max=>
    simp only at he;split at he
    ·rename_i x y DB;simp only [Aw]at he;obtain⟨s1,BO,s2,A6,he⟩:=he;exact ztq h AT (.inl ⟨rfl,AJ⟩) DB BO A6 he hc
    ·cases he
   |min=>
    simp only at he;split at he
    ·rename_i x y DB;simp only [Aw]at he;obtain⟨s1,BO,s2,A6,he⟩:=he;exact ztq h AT (.inr ⟨rfl,AJ⟩) DB BO A6 he hc
    ·cases he
   |_=>simp at he
 |_=>simp [BJ,AT]at he
end
section
variable {P:Program} {c:Cx} {n nx:Nat} {sl sl0:Nat→SV} {hp hp0:Nat→Option Aj} {a:Act} {o:Oper} {gs:Gd} {e:A7} {sg:BX} {nv:Nat}
theorem Rel.ki (h:Rel c n sl hp a) {sl':Nat→SV} (hs: ∀i,sl' i=sl i∨SR c [sl' i] [a.tmps.getD i undef]):Rel c n sl' hp a:=
 ⟨h.defers,h.size,h.base,fun i=>by
  rcases hs i with hh|hh
  ·rw [hh];exact h.de i
  ·exact hh,h.ents,h.off,h.gw,h.cj,h.c6⟩
theorem Wq {u:Nat}: ∀{l:List Operand} {t T v m:Nat} {p:E × Nat × Nat} {s:SV},ME sl0 u l=some (t,T,v,m,p,s)→Operand.tmp t∈l∧((∃y,sl0 t= .via T v m (some p) y∧s= .own u 0)∨ ∃y k z q,sl0 t= .vptr T v m (some p) y k z q∧s= .c7 u 0 k z q)
 | [],_,_,_,_,_,_,h=>by simp [ME]at h
 |x::l,t,T,v,m,p,s,h=>by
  cases x with
  |tmp i=>
   simp only [ME]at h;split at h
   ·rename_i hs;simp only [Ah,Prod.mk.injEq]at h;obtain⟨rfl,rfl,rfl,rfl,rfl,rfl⟩:=h;exact⟨by simp, .inl ⟨_,hs,rfl⟩⟩
   ·rename_i hs;simp only [Ah,Prod.mk.injEq]at h;obtain⟨rfl,rfl,rfl,rfl,rfl,rfl⟩:=h;exact⟨by simp, .inr ⟨_,_,_,_,hs,rfl⟩⟩
   ·obtain⟨h1,h2⟩:=Wq h;exact⟨by simp [h1],h2⟩
  |const v9=>simp only [ME]at h;obtain⟨h1,h2⟩:=Wq h;exact⟨by simp [h1],h2⟩
  |func f=>simp only [ME]at h;obtain⟨h1,h2⟩:=Wq h;exact⟨by simp [h1],h2⟩
  |global g=>simp only [ME]at h;obtain⟨h1,h2⟩:=Wq h;exact⟨by simp [h1],h2⟩
theorem Rel.split (h:Rel c n sl hp a) {T v m u:Nat} {p:E × Nat × Nat} {hl inn:Aj} (hs:W5 hp0 T v m u p=some (hl,inn)) (BV: ∀t e,hp0 t=some e→hp t=some e) (hu: ¬c.U u) {vv:Value} (J6:c.E T=m→I9 c T v (some p) vv):
  ∃recs c1,c1=c.dz c.w recs∧Rel c1 n sl (Bd hp [(T,hl),(u,inn)]) a∧DW c c1∧c1.K u 0∧c1.H u 0=vv∧(∃q n r,vv= .slice q n r∧(q=none∨n=0∨ ∃g,q=some ⟨g,0,none⟩))∧(∀t,c1.U t→c.U t∨t=u)∧c.K T v∧c.E T=m∧c1.E T=m+1∧T≠u:=by
 have eh:EH c hp0:=fun t e hr=>h.ents t e (MD BV hr);obtain⟨pi,z,po⟩:=p;unfold W5 at hs;split at hs
 ·rename_i e z0 l g ep c0 hlk;split at hs
  ·rename_i AM;obtain⟨rfl,rfl,vM⟩:=AM;simp only at vM;subst vM;split at hs
   ·rename_i e2 z2 l2 Ci;simp only [Ah,Prod.mk.injEq]at hs;obtain⟨rfl,rfl⟩:=hs;simp only at Ci;obtain⟨q1,q2,q3,q4,q5⟩:=eh T _ (C7 hlk (Fh _));obtain⟨b,n9,cap,C,ty,fz,kk,k,p1,p2,p3,p4,p5,p6,p7⟩:=J6 q3;obtain⟨d1,d2,⟨a9,d3,_⟩|⟨g9,cap9,C9,ys,N,d3,d4,d5,d6,d7,d8,d9,d10,d11,d12⟩⟩:=q4.inv
    ·rw [p1]at d3;cases d3;omega
    ·rw [p1]at d3;cases d3;rw [d6]at p3;cases p3;rw [AY.bf]at d2 d12;have hoz:po<z:=by
      rcases Nat.lt_or_ge po l.length with hh|hh
      ·omega
      ·rw [List.getElem?_eq_none hh]at Ci;cases Ci
     have G2:k.toNat<ys.length:=by omega
     have hmul:(k.toNat+1)*z≤ys.length*z:=Nat.mul_le_mul_right _ (by omega);have GB:ys.length*z≤cap*z:=Nat.mul_le_mul_right _ d7;rw [Nat.add_mul]at hmul;have Ed:C.toList.length=cap*z:=by simpa using d9
     have Ak:k.toNat*z+po<C.size:=by omega
     obtain⟨N1,N2,N3,rfl,s1,s2,s3⟩:=d12.split (k.toNat*z+po) 1;have CD:((C.toList.take (ys.length*z)).drop (k.toNat*z+po)).take 1= [vv]:=by have hv:C[k.toNat*z+po]?=some vv:=p7;rw [List.drop_take,List.take_take,Nat.min_eq_left (by omega),List.drop_eq_getElem_cons (by simpa using Ak),List.take_succ_cons,List.take_zero];rw [Array.getElem?_eq_getElem Ak]at hv;simpa using hv
     have HH:=Oq G2;generalize Pw:(AV.sl ys).nth k.toNat=yk at HH;have F6:=d10 yk (List.mem_of_getElem? HH);have EE:((AO ys).drop (k.toNat*z+po)).take 1= [(E.fld (.idx c0 pi) po 1 false).den c.ρ]:=by rw [WH ys d10 _ _ HH po 1 (by omega),List.drop_eq_getElem_cons (by omega),List.take_succ_cons,List.take_zero];simp only [E.den,d4,p4,AV.idx,Pw,AV.fld];simp [show po<yk.cells.length by omega]
     have Bt:((Dr ys.length l).drop (k.toNat*z+po)).take 1= [.row e2 z2 l2]:=by
      rw [←d2,Wv l _ _ _ _ G2 (by omega)];have Hy:po<l.length:=by omega
      rw [List.drop_eq_getElem_cons Hy,List.take_succ_cons,List.take_zero];rw [List.getElem?_eq_getElem Hy]at Ci;simpa using Ci
     rw [CD,EE,Bt]at s2;have GZ:=h.cj _ _ q1;have JL:T≠u:=fun hh=>hu (hh▸GZ);have Co:=h.gw.nodup T;simp only [GI.own,q5,List.append_nil,d5]at Co;have AS: ∀r∈([⟨T,none,b::(N1++N3), .hol e z l g (ep+1) c0 pi po u⟩,⟨u,some vv,N2,if l2.toList.all DT.cg then .row e2 z2 0 (.fld (.idx c0 pi) po 1 false) true else .deep e2 z2 l2.toList 0 0 (.fld (.idx c0 pi) po 1 false)⟩]:List AX),r.new.isSome=true→ ¬c.U r.tag:=fun r hr hs=>by
      simp only [Ag,List.not_mem_nil,or_false]at hr;rcases hr with rfl|rfl
      ·cases hs
      ·exact hu
     refine⟨[⟨T,none,b::(N1++N3), .hol e z l g (ep+1) c0 pi po u⟩,⟨u,some vv,N2,if l2.toList.all DT.cg then .row e2 z2 0 (.fld (.idx c0 pi) po 1 false) true else .deep e2 z2 l2.toList 0 0 (.fld (.idx c0 pi) po 1 false)⟩],_,rfl, ?_⟩;generalize Br:([⟨T,none,b::(N1++N3), .hol e z l g (ep+1) c0 pi po u⟩,⟨u,some vv,N2,if l2.toList.all DT.cg then .row e2 z2 0 (.fld (.idx c0 pi) po 1 false) true else .deep e2 z2 l2.toList 0 0 (.fld (.idx c0 pi) po 1 false)⟩]:List AX)=recs at AS;have hn:(recs.map AX.tag).Nodup:=by rw [←Br];simp [JL]
     have aft:=Cx.ed (w':=c.w) h.cj hn AS;have Eu:(⟨T,none,b::(N1++N3), .hol e z l g (ep+1) c0 pi po u⟩:AX)∈recs:=by rw [←Br];simp
     have D4:(⟨u,some vv,N2,if l2.toList.all DT.cg then .row e2 z2 0 (.fld (.idx c0 pi) po 1 false) true else .deep e2 z2 l2.toList 0 0 (.fld (.idx c0 pi) po 1 false)⟩:AX)∈recs:=by rw [←Br];simp
     obtain⟨k1,k2,k3⟩:=aft.new _ D4 vv rfl;have kgT:=aft.G _ Eu;have keT:=aft.jo _ Eu rfl;have kgu:=aft.G _ D4;have keu:=aft.ll _ D4 rfl;obtain⟨kT1,kT2⟩:=aft.K T g q1;simp only at k1 k2 k3 kgT keT kgu keu;have Nc: ∀q,q∈b::(N1++N3)∨q∈N2→q∈(c.G T).top:=fun q hq=>by rw [d5];simp only [Ag,Ai]at hq ⊢;rcases hq with(hq|hq|hq)|hq<;>simp [hq]
     obtain⟨At,BZ⟩:=h.changes (recs:=recs) (gs:= []) (hs:=(c.G T).top) (Fh _) (Mod.refl _ c.w) hn AS (fun q hq=>⟨_,Eu,hq⟩) (by
       rw [←Br];simp only [List.flatMap_cons,List.flatMap_nil,List.append_nil];rw [List.nodup_cons]at Co;obtain⟨n1,n2⟩:=Co;rw [List.append_assoc,List.nodup_append,List.nodup_append]at n2;obtain⟨a1,⟨a2,a3,a4⟩,a5⟩:=n2;rw [List.cons_append,List.nodup_cons,List.nodup_append,List.nodup_append];refine⟨fun hh=>n1 ?_,⟨a1,a3,fun x hx y hy=>a5 x hx y (Ai.2 (.inr hy))⟩,a2,fun x hx y hy HG=> ?_⟩
       ·simp only [Ai]at hh ⊢;rcases hh with(hh|hh)|hh<;>simp [hh]
       ·rcases Ai.1 hx with hx|hx
        ·exact a5 x hx y (Ai.2 (.inl hy)) HG
        ·exact a4 y hy x hx HG.symm)
      (fun r hr q hq=>by
       have:q∈(c.G T).top:=by
        rw [←Br]at hr;simp only [Ag,List.not_mem_nil,or_false]at hr;rcases hr with rfl|rfl
        ·exact Nc q (.inl hq)
        ·exact Nc q (.inr hq)
       exact⟨.inl this,h.gw.inb T q (by simp [GI.own,this])⟩)
      (fun r hr=>by
       rw [←Br]at hr;simp only [Ag,List.not_mem_nil,or_false]at hr;rcases hr with rfl|rfl
       ·intros;simp
       ·intros;simp only;split<;>simp)
      (fun hk r hr=>by
       rw [←Br]at hr;simp only [Ag,List.not_mem_nil,or_false]at hr;rcases hr with rfl|rfl
       ·refine⟨kT1,fun g' Cm=>q2 g' (aft.old T GZ g' Cm),by rw [keT,q3], ?_,by rw [kgT]⟩;rw [kT2,p1,kgT];exact⟨b,cap,C,ys,kk,k,N1,N3,rfl,d4,p4,p5,p6,hoz,d1,d2,d6,d7,d8,d9,d10,d11,rfl,k1,by rw [k3];exact p7,s1,s3⟩
       ·simp only;split
        ·rename_i hf;have BE:=s2.oa hf;refine⟨k1,k2, [], ?_,by simp,fun _=>⟨rfl,by rw [kgu]⟩,fun _=>by rw [kgu]⟩;rw [k3,kgu];exact BE
        ·refine⟨k1,k2,keu, ?_,by rw [kgu]⟩;rw [k3,kgu,AY.c8];exact s2)
     refine⟨?_,BZ,k1,k3, ?_,fun t ht=> ?_,q1,q3,by rw [keT,q3],JL⟩
     ·have:(recs.map fun r=>(r.tag,CV [] r.bu))= [(T, .hol e z l g (ep+1) c0 pi po u),(u,if l2.toList.all DT.cg then .row e2 z2 0 (.fld (.idx c0 pi) po 1 false) true else .deep e2 z2 l2.toList 0 0 (.fld (.idx c0 pi) po 1 false))]:=by
       rw [←Br];simp [CV]
      rw [this]at At;exact At
     ·obtain⟨_,_,⟨a9,h1,_⟩|⟨g9,cap9,C9,ys9,N9,h1,_⟩⟩:=s2.inv
      ·exact⟨a9,0,0,h1, .inr (.inl rfl)⟩
      ·exact⟨_,_,_,h1, .inr (.inr ⟨g9,rfl⟩)⟩
     ·rcases ht with ht|⟨r,hr,rfl⟩
      ·exact .inl ht
      ·rw [←Br]at hr;simp only [Ag,List.not_mem_nil,or_false]at hr;rcases hr with rfl|rfl
       ·exact .inl GZ
       ·exact .inr rfl
   ·cases hs
  ·cases hs
 ·cases hs
theorem Rel.close (h:Rel c n sl hp a) {T u:Nat} {hl r d:Aj} (hT:hp T=some hl) (hu:hp u=some r) (hr:WZ P hl r=some d) (L5: ∃q1 q2 q3 q4 q5 q6 q7 q8,hl= .hol q1 q2 q3 q4 q5 q6 q7 q8 u) (JL:T≠u):
  ∃recs c1,c1=c.dz c.w recs∧Rel c1 n sl (Bd hp [(T,d),(u, .dead)]) a∧(∀t,c1.U t→c.U t)∧c.E T<c1.E T:=by
 obtain⟨e,z,l,g,ep,c0,i,o',rfl⟩:=L5;have key: ∀(e2 z2:Nat) (l2:AY) (x:E),l[o']?=some (.row e2 z2 l2)→DC c.w [.row e2 z2 l2] [c.H u 0] [x.den c.ρ] (c.G u).top→c.U u→d= .deep e z l g (ep+1) (.set c0 i (.put (.idx c0 i) o' x (As P e)))→(As P e=false→z=1)→
   ∃recs c1,c1=c.dz c.w recs∧Rel c1 n sl (Bd hp [(T,d),(u, .dead)]) a∧(∀t,c1.U t→c.U t)∧c.E T<c1.E T:=by
  rintro e2 z2 l2 x Ci vA XH rfl Iy;obtain⟨q1,q2,q3,⟨b,cap,C,ys,kk,k,N1,N2,p1,p2,p3,p4,p5,p6,p7,p7',p8,p9,p10,p11,p12,p13,p14,p15,p16,p17,p18⟩,q5⟩:=h.ents T _ (by rw [hT];rfl);have GZ:=h.cj _ _ q1;have G2:k.toNat<ys.length:=by omega
  have hmul:(k.toNat+1)*z≤ys.length*z:=Nat.mul_le_mul_right _ (by omega);have GB:ys.length*z≤cap*z:=Nat.mul_le_mul_right _ p9;rw [Nat.add_mul]at hmul;have Ed:C.toList.length=cap*z:=by simpa using p11
  have Ak:k.toNat*z+o'<C.size:=by omega
  have HH:=Oq G2;generalize Pw:(AV.sl ys).nth k.toNat=yk at HH;have F6:=p12 yk (List.mem_of_getElem? HH);obtain⟨zs,D6⟩: ∃zs,x.den c.ρ= .sl zs:=by
   obtain⟨_,_,⟨_,_,hx,_⟩|⟨_,_,_,_,_,_,hx,_⟩⟩:=vA.inv
   ·exact⟨_,hx⟩
   ·exact⟨_,hx⟩
  have IH:(x.den c.ρ).cells= [x.den c.ρ]:=by rw [D6];rfl
  have hz:(yk.di o' (x.den c.ρ) (As P e)).cells=setVs yk.cells o' (x.den c.ρ).cells:=by
   refine qT ?_ (fun hg=> ?_)
   ·cases hg:As P e with
    |true=>exact .inr rfl
    |false=>left;rw [D6];intro cs hh;cases hh
   ·have:=Iy hg;exact⟨by omega,by omega,IH⟩
  have EV:AO (ys.set k.toNat (yk.di o' (x.den c.ρ) (As P e)))=setVs (AO ys) (k.toNat*z+o') (x.den c.ρ).cells:=
   cS ys _ _ yk o' _ p12 HH (by rw [IH];simp;omega) hz
  have Hr:((Dr ys.length l).drop (k.toNat*z+o')).take 1= [.row e2 z2 l2]:=by
   rw [←p7',Wv l _ _ _ _ G2 (by omega)];have Hy:o'<l.length:=by omega
   rw [List.drop_eq_getElem_cons Hy,List.take_succ_cons,List.take_zero];rw [List.getElem?_eq_getElem Hy]at Ci;simpa using Ci
  have UU:setVs (C.toList.take (ys.length*z)) (k.toNat*z+o') [c.H u 0]=C.toList.take (ys.length*z):=by
   apply List.ext_getElem?;intro j;have hl3:(C.toList.take (ys.length*z)).length=ys.length*z:=by rw [List.length_take,Ed];exact Nat.min_eq_left GB
   rw [Tf _ _ _ (by rw [hl3];show k.toNat*z+o'+1≤_;omega)];split
   ·rename_i hj;simp only [Ao,List.length_nil]at hj;have:j=k.toNat*z+o':=by omega
    subst this;rw [Nat.sub_self,List.getElem?_take,if_pos (by omega)];have:=p16;simpa using this.symm
   ·rfl
  have A2:DC c.w [.row e z (AY.of l)] [c.H T g] [(E.set c0 i (.put (.idx c0 i) o' x (As P e))).den c.ρ] (b::(N1++((c.G u).top++N2))):=by
   have Cd:(E.set c0 i (.put (.idx c0 i) o' x (As P e))).den c.ρ= .sl (ys.set k.toNat (yk.di o' (x.den c.ρ) (As P e))):=by simp only [E.den,p2,p3,AV.idx,Pw,AV.da]
   rw [Cd,p1];have DN:(ys.set k.toNat (yk.di o' (x.den c.ρ) (As P e))).length=ys.length:=List.length_set;have:=DC.row (w:=c.w) (e:=e) (z:=z) (l:=AY.of l) (g:=b) (cap:=cap) (C:=C) (ys:=ys.set k.toNat (yk.di o' (x.den c.ρ) (As P e))) (N1:=N1++((c.G u).top++N2)) (ts:= []) (vs:= []) (xs:= []) (N:= []) p7 (by rw [AY.bf];exact p7') p8 (by rw [DN];exact p9) p10 p11 (fun w hw=>by
     rcases List.mem_or_eq_of_mem_set hw with hw|rfl
     ·exact p12 w hw
     ·rw [hz,To _ _ _ (by rw [IH,F6];simp;omega)];exact F6) (by rw [DN];exact p13) (by
     rw [DN,AY.bf,EV,←UU];refine DC.setVs p17 ?_ ?_
     ·exact p18
     ·rw [AH,Hr,IH];exact vA) .nil
   rw [DN]at this;simpa using this
  have hTK:=q1;have AS: ∀r∈([⟨T,none,b::(N1++((c.G u).top++N2)), .deep e z l g (ep+1) (.set c0 i (.put (.idx c0 i) o' x (As P e)))⟩,⟨u,none, [], .dead⟩]:List AX),r.new.isSome=true→ ¬c.U r.tag:=fun r hr hs=>by simp only [Ag,List.not_mem_nil,or_false]at hr;rcases hr with rfl|rfl<;>cases hs
  refine⟨[⟨T,none,b::(N1++((c.G u).top++N2)), .deep e z l g (ep+1) (.set c0 i (.put (.idx c0 i) o' x (As P e)))⟩,⟨u,none, [], .dead⟩],_,rfl, ?_⟩;generalize Br:([⟨T,none,b::(N1++((c.G u).top++N2)), .deep e z l g (ep+1) (.set c0 i (.put (.idx c0 i) o' x (As P e)))⟩,⟨u,none, [], .dead⟩]:List AX)=recs at AS;have hn:(recs.map AX.tag).Nodup:=by rw [←Br];simp [JL]
  have aft:=Cx.ed (w':=c.w) h.cj hn AS;have Eu:(⟨T,none,b::(N1++((c.G u).top++N2)), .deep e z l g (ep+1) (.set c0 i (.put (.idx c0 i) o' x (As P e)))⟩:AX)∈recs:=by rw [←Br];simp
  have D4:(⟨u,none, [], .dead⟩:AX)∈recs:=by rw [←Br];simp
  have kgT:=aft.G _ Eu;have keT:=aft.jo _ Eu rfl;have kgu:=aft.G _ D4;obtain⟨kT1,kT2⟩:=aft.K T g q1;simp only at kgT keT kgu;have Ch: ∀q,q∈b::(N1++((c.G u).top++N2))→q∈(c.G T).top∨q∈(c.G u).top:=fun q hq=>by rw [p14];simp only [Ag,Ai]at hq ⊢;rcases hq with hq|hq|hq|hq<;>simp [hq]
  have Pa:=h.gw.nodup T;simp only [GI.own,q5,List.append_nil,p14]at Pa;have gZ:(c.G u).top.Nodup:=by have:=h.gw.nodup u;simp only [GI.own]at this;exact(List.nodup_append.1 this).1
  have Gw: ∀q∈(c.G u).top,q∉b::(N1++N2):=fun q hq hh=>h.gw.cz u T (Ne.symm JL) q (by simp [GI.own,hq]) (by rw [←p14]at hh;simp [GI.own,hh]);obtain⟨At,BZ⟩:=h.changes (recs:=recs) (gs:= []) (hs:=(c.G T).top++(c.G u).top) (Fh _) (Mod.refl _ c.w) hn AS (fun q hq=>by
    rcases Ai.1 hq with hq|hq
    ·exact⟨_,Eu,hq⟩
    ·exact⟨_,D4,hq⟩) (by
    rw [←Br];simp only [List.flatMap_cons,List.flatMap_nil,List.append_nil];rw [List.nodup_cons,List.nodup_append]at Pa;obtain⟨n1,a1,a2,a3⟩:=Pa;rw [List.nodup_cons,List.nodup_append,List.nodup_append];refine⟨fun hh=> ?_,a1,⟨gZ,a2,fun x hx y hy HG=>Gw x hx (by rw [HG];simp [hy])⟩,fun x hx y hy HG=> ?_⟩
    ·simp only [Ai]at hh n1;rcases hh with hh|hh|hh
     ·exact n1 (.inl hh)
     ·exact Gw b hh (by simp)
     ·exact n1 (.inr hh)
    ·rcases Ai.1 hy with hy|hy
     ·exact Gw y hy (by rw [←HG];simp [hx])
     ·exact a3 x hx y hy HG)
   (fun r hr q hq=>by
    have:q∈(c.G T).top∨q∈(c.G u).top:=by
     rw [←Br]at hr;simp only [Ag,List.not_mem_nil,or_false]at hr;rcases hr with rfl|rfl
     ·exact Ch q hq
     ·simp at hq
    refine⟨.inl (Ai.2 this), ?_⟩;rcases this with hh|hh
    ·exact h.gw.inb T q (by simp [GI.own,hh])
    ·exact h.gw.inb u q (by simp [GI.own,hh]))
   (fun r hr=>by rw [←Br]at hr;simp only [Ag,List.not_mem_nil,or_false]at hr;rcases hr with rfl|rfl<;>(intros;simp))
   (fun hk r hr=>by
    rw [←Br]at hr;simp only [Ag,List.not_mem_nil,or_false]at hr;rcases hr with rfl|rfl
    ·exact⟨kT1,fun g' Cm=>q2 g' (aft.old T GZ g' Cm),by rw [keT,q3],by rw [kT2,kgT];exact A2,by rw [kgT]⟩
    ·exact⟨by rw [kgu],by rw [kgu]⟩)
  refine⟨?_,fun t ht=> ?_,by rw [keT];omega⟩
  ·have:(recs.map fun r=>(r.tag,CV [] r.bu))= [(T, .deep e z l g (ep+1) (.set c0 i (.put (.idx c0 i) o' x (As P e)))),(u, .dead)]:=by
    rw [←Br];simp [CV]
   rw [this]at At;exact At
  ·rcases ht with ht|⟨r,hr,rfl⟩
   ·exact ht
   ·rw [←Br]at hr;simp only [Ag,List.not_mem_nil,or_false]at hr;rcases hr with rfl|rfl
    ·exact GZ
    ·exact XH
 have XH:c.U u:=h.c6 u r hu;unfold WZ at hr;simp only at hr;split at hr
 ·rename_i e2 z2 l2 e3 z3 x Ci;split at hr
  ·rename_i hh;obtain⟨hf,rfl,rfl,hlen,AG⟩:=hh;simp only [Ah]at hr;obtain⟨q1,q2,N,q4,q5,q6,q7⟩:=h.ents u _ (by rw [hu];rfl);obtain⟨hN,_⟩:=q6 rfl;have hN:N= []:=hN;subst hN;exact key _ _ _ _ Ci (DC.mg q4 hf hlen) XH hr.symm (by rcases AG with hh|hh;(rw [hh];simp);exact fun _=>hh)
  ·cases hr
 ·rename_i e2 z2 l2 e3 z3 l3 x Ci;split at hr
  ·rename_i hh;obtain⟨rfl,rfl,hb,AG⟩:=hh;simp only [Ah]at hr;have hb:=AY.of_eq hb;subst hb;obtain⟨q1,q2,q3,q4,q5⟩:=h.ents u _ (by rw [hu];rfl);rw [AY.c8]at q4;exact key _ _ _ _ Ci q4 XH hr.symm (by rcases AG with hh|hh;(rw [hh];simp);exact fun _=>hh)
  ·cases hr
 ·cases hr
end
section
variable {P:Program} {c:Cx} {n nx:Nat} {sl sl0:Nat→SV} {hp hp0:Nat→Option Aj} {a:Act} {o:Oper} {gs:Gd} {e:A7} {sg:BX} {nv:Nat}
theorem Te (hp:Nat→Option Aj): ∀(l:List (Nat × Aj)) (t:Nat),Bd hp l t=match MA l t with|some f=>some f|none=>hp t
 | [],t=>rfl
 |(u,e)::l,t=>by
  have:=Te (fun v=>if v=u then some e else hp v) l t;simp only [Bd,List.foldl_cons,MA]at this ⊢;rw [this];cases MA l t with
  |some f=>rfl
  |none=>
   simp only;by_cases h:u=t
   ·rw [if_pos h.symm,if_pos h]
   ·rw [if_neg (Ne.symm h),if_neg h]
theorem zxd {hp:Nat→Option Aj} {T v m u:Nat} {p:E × Nat × Nat} {h r:Aj} (hs:W5 hp T v m u p=some (h,r)): ∃e z l ep c0 i o',h= .hol e z l v (m+1) c0 i o' u∧DA hp [] T=some (.deep e z l v ep c0)∧ep=m:=by
 unfold W5 at hs;split at hs
 ·rename_i hl;split at hs
  ·rename_i hh;obtain⟨rfl,rfl,_⟩:=hh;split at hs
   ·simp only [Ah,Prod.mk.injEq]at hs;obtain⟨rfl,_⟩:=hs;exact⟨_,_,_,_,_,_,_,rfl,hl,rfl⟩
   ·cases hs
  ·cases hs
 ·cases hs
theorem zxy {h r d:Aj} {e z:Nat} {l:List DT} {g ep:Nat} {c0 i:E} {o' u:Nat} (hh:h= .hol e z l g ep c0 i o' u) (hc:WZ P h r=some d): ∃x,d= .deep e z l g (ep+1) x:=by
 subst hh;unfold WZ at hc;simp only at hc;split at hc
 ·split at hc
  ·simp only [Ah]at hc;exact⟨_,hc.symm⟩
  ·cases hc
 ·split at hc
  ·simp only [Ah]at hc;exact⟨_,hc.symm⟩
  ·cases hc
 ·cases hc
theorem zI0 (Kb: ∀f s,sg f=some s→f<1000000) (h:Bx P c n nx sl hp a sl0 hp0 o []) (hu: ¬c.U (nx+999)) (he:Xi P sg sl0 hp0 nv nx o=some e)
  (hc: ∀q∈e.cc,q.den c.ρ) (Bj: ∀cl,e.call=some cl→ ∃r,c.ρ[nv]?=some r∧I6 (Cv P sg) cl.fn ((EL.of cl.args).den c.ρ) c.ρ r):AF P o c n nx sl hp [] a e:=by
 unfold Xi at he;simp only at he;split at he
 ·cases he
 rename_i t T v m p s MW;split at he
 ·cases he
 rename_i hl inn Jl;split at he
 ·cases he
 rename_i e0 LS;split at he
 ·cases he
 rename_i CQ;have CQ:e0.cq=none:=by cases hh:e0.cq with|none=>rfl|some x=>rw [hh]at CQ;simp at CQ
 obtain⟨Fu,Bo⟩:=Wq MW;have Fu:Operand.tmp t∈o.op.operands:=by simpa using Fu
 obtain⟨fe,fz,fl,fep,fc0,fi,fo,rfl,H5,rfl⟩:=zxd Jl;have hE:c.E T=fep:=(h.eh T _ (C7 H5 (Fh _))).2.2.1;have E1:=h.rel.de t;rw [←h.sl t Fu]at E1;obtain⟨vv,J6,A6⟩: ∃vv,I9 c T v (some p) vv∧ ∀c1:Cx,c1.ρ=c.ρ→c1.K (nx+999) 0→c1.H (nx+999) 0=vv→(∃q n r,vv= .slice q n r∧(q=none∨n=0∨ ∃g,q=some ⟨g,0,none⟩))→SR c1 [s] [a.tmps.getD t undef]:=by
  rcases Bo with⟨y,CR,rfl⟩|⟨y,k,z,q,CR,rfl⟩
  ·rw [CR]at E1;generalize a.tmps.getD t undef=av at E1 ⊢;cases E1 with
   |via h1 h2 h3 _=>obtain⟨_,hp⟩:=h3 hE;refine⟨_,hp,fun c1 e1 k1 k2 k3=> ?_⟩;obtain⟨q,n,r,rfl,_⟩:=k3;exact .own k1 k2 .nil
  ·rw [CR]at E1;generalize a.tmps.getD t undef=av at E1 ⊢;cases E1 with
   |vptr h1 h2 h3 _=>
    obtain⟨b,off,len,cap,kk,kv,g1,g2,g3,g4,g5,g6,rfl⟩:=h3 hE;refine⟨_,g2,fun c1 e1 k1 k2 k3=> ?_⟩;obtain⟨q9,n9,r9,hv,hq⟩:=k3;cases hv;have GJ:off=0:=by
     rcases hq with hq|hq|⟨g,hq⟩
     ·cases hq
     ·omega
     ·cases hq;rfl
    subst GJ;have:=SR.c7 (c:=c1) (i:=k) (sz:=z) (o:=q) k1 k2 (by rw [e1];exact g3) g4 g5 .nil;simpa using this
 obtain⟨recs,c1,rfl,Du,O3,QU,LF,hvv,eS,hKT,_,uO,JL⟩:=h.rel.split Jl h.hp hu (fun _=>J6);have IG:=A6 _ O3.ρ QU LF hvv;have FJ:=Du.ki (sl':=fun i=>if i=t then s else sl i) (fun i=>by
  by_cases hi:i=t
  ·subst hi;right;simpa using IG
  ·left;simp [hi])
 have D5: ∀x,Bd hp [(T, .hol fe fz fl v (fep+1) fc0 fi fo (nx+999)),(nx+999,inn)] x=if x=nx+999 then some inn else if x=T then some (.hol fe fz fl v (fep+1) fc0 fi fo (nx+999))else hp x:=fun x=>rfl;have pre1:Bx P (c.dz c.w recs) n nx (fun i=>if i=t then s else sl i) (Bd hp [(T, .hol fe fz fl v (fep+1) fc0 fi fo (nx+999)),(nx+999,inn)]) a (fun i=>if i=t then s else sl0 i) (fun w=>if w=T then some (.hol fe fz fl v (fep+1) fc0 fi fo (nx+999))else if w=nx+999 then some inn else hp0 w) o []:=by
  refine⟨FJ,Fh _,fun i hi=> ?_,fun x f hf=> ?_,fun x h1 h2 hx=> ?_⟩
  ·by_cases hit:i=t
   ·simp [hit]
   ·simp only [if_neg hit];exact h.sl i hi
  ·rw [D5];by_cases h1:x=T
   ·rw [if_pos h1]at hf;rw [if_neg (by rw [h1];exact JL),if_pos h1];exact hf
   ·rw [if_neg h1]at hf;by_cases h2:x=nx+999
    ·rw [if_pos h2]at hf ⊢;exact hf
    ·rw [if_neg h2]at hf;rw [if_neg h2,if_neg h1];exact h.hp x f hf
  ·rcases eS x hx with hx|hx
   ·exact h.new x h1 h2 hx
   ·omega
 have hdst: ∀(c':Cx) (a':Act) (w9:SV),Rel c' n (CM n (fun i=>if i=t then s else sl i) o.dst w9) (fun _=>none) a'→True:=fun _ _ _ _=>trivial;have stale: ∀(c':Cx) (v':Value),c'.K T v→fep<c'.E T→SR c' [sl t] [v']:=by
  intro c' v' hk Ak;rw [←h.sl t Fu];rcases Bo with⟨y,CR,_⟩|⟨y,k,z,q,CR,_⟩
  ·rw [CR];exact .via hk (by omega) (fun hh=>by omega) .nil
  ·rw [CR];exact .vptr hk (by omega) (fun hh=>by omega) .nil
 have back: ∀{c':Cx} {hp':Nat→Option Aj} {a':Act} {w9:SV},Rel c' n (CM n (fun i=>if i=t then s else sl i) o.dst w9) hp' a'→c'.K T v→fep<c'.E T→Rel c' n (CM n sl o.dst w9) hp' a':=by
  intro c' hp' a' w9 hr hk Ak;refine hr.ki fun i=> ?_;unfold CM;by_cases h1:o.dst=some i∧i<n
  ·left;rw [if_pos h1,if_pos h1]
  ·rw [if_neg h1,if_neg h1];by_cases h2:i=t
   ·subst h2;right;exact stale _ _ hk Ak
   ·left;show sl i=if i=t then s else sl i;rw [if_neg h2]
 split at he
 ·
  split at he
  ·rename_i Ct;simp only [Ah]at he;subst he;have JS:=jU Kb pre1 LS hc Bj (fun x hx=>by rw [CQ]at hx;cases hx);intro next Q hk
   refine JS next Q fun a' c' Bc hr=> ?_
   have eQ:Bd (Bd hp [(T, .hol fe fz fl v (fep+1) fc0 fi fo (nx+999)),(nx+999,inn)]) e0.bu T=some (.hol fe fz fl v (fep+1) fc0 fi fo (nx+999)):=by rw [Te,Ct,D5,if_neg JL,if_pos rfl]
   obtain⟨g1,_,g3,_⟩:=hr.ents T _ (by rw [eQ];rfl);refine hk a' c' ⟨Bc.ρ,Bc.A,Bc.w0,Bc.Mu,fun x hx=> ?_⟩ (back hr g1 (by omega));rcases Bc.U x hx with hx|hx
   ·rcases eS x hx with hx|hx
    ·exact .inl hx
    ·exact .inr ⟨by omega,by simp only [BM];omega⟩
   ·exact .inr hx
  ·cases he
 ·split at he
  ·rename_i r' hlu hlT;obtain⟨d,hd,rfl⟩:=Av.1 he;have JS:=jU Kb pre1 LS hc Bj (fun x hx=>by rw [CQ]at hx;cases hx);intro next Q hk
   refine JS next Q fun a' c' Bc hr=> ?_
   have eQ:Bd (Bd hp [(T, .hol fe fz fl v (fep+1) fc0 fi fo (nx+999)),(nx+999,inn)]) e0.bu T=some (.hol fe fz fl v (fep+1) fc0 fi fo (nx+999)):=by rw [Te,hlT,D5,if_neg JL,if_pos rfl]
   have hue:Bd (Bd hp [(T, .hol fe fz fl v (fep+1) fc0 fi fo (nx+999)),(nx+999,inn)]) e0.bu (nx+999)=some r':=by rw [Te,hlu]
   obtain⟨recs2,c2,rfl,Dd,hU2,hE2⟩:=hr.close eQ hue hd ⟨_,_,_,_,_,_,_,_,rfl⟩ JL;obtain⟨x9,rfl⟩:=zxy rfl hd;have eR:Bd (Bd (Bd hp [(T, .hol fe fz fl v (fep+1) fc0 fi fo (nx+999)),(nx+999,inn)]) e0.bu) [(T, .deep fe fz fl v (fep+1+1) x9),(nx+999, .dead)] T=some (.deep fe fz fl v (fep+1+1) x9):=by show(if T=nx+999 then _ else if T=T then _ else _)=_;rw [if_neg JL,if_pos rfl]
   obtain⟨g1,_,g3,_⟩:=Dd.ents T _ (by rw [eR];rfl);have D0:=back Dd g1 (by omega);have Bq:Bd hp ((T, .hol fe fz fl v (fep+1) fc0 fi fo (nx+999))::(nx+999,inn)::e0.bu++ [(T, .deep fe fz fl v (fep+1+1) x9),(nx+999, .dead)])=Bd (Bd (Bd hp [(T, .hol fe fz fl v (fep+1) fc0 fi fo (nx+999)),(nx+999,inn)]) e0.bu) [(T, .deep fe fz fl v (fep+1+1) x9),(nx+999, .dead)]:=by rw [←Qt,←Qt];rfl
   refine hk a' (c'.dz c'.w recs2) ⟨Bc.ρ,Bc.A,Bc.w0,Bc.Mu,fun x hx=> ?_⟩ ?_
   ·rcases Bc.U x (hU2 x hx)with hx|hx
    ·rcases eS x hx with hx|hx
     ·exact .inl hx
     ·exact .inr ⟨by omega,by simp only [BM];omega⟩
    ·exact .inr hx
   ·have:=D0;rw [←Bq]at this;exact this
  ·cases he
theorem zD1 (h:Bx P c n nx sl hp a sl0 hp0 o gs) {e:A7} (dp:Bool) (hd:AF P o c n nx sl hp gs a e):AF P o c n nx sl hp gs a (KI dp hp0 gs e):=by
 unfold KI;split
 ·exact hd
 ·split
  ·rename_i l hl;intro next Q hk
   refine hd next Q fun a' c' hs hr=> ?_
   have e1:Bd hp0 e.bu=fun t=>match MA e.bu t with|some f=>some f|none=>hp0 t:=funext (Te hp0 e.bu)
   have hl:DV (Bd hp0 e.bu) [] (wN e.bu)=some l:=by rw [e1];exact hl
   have Jh:=hr.freeze (hp0:=Bd hp0 e.bu) (fun t e' h'=>by
    rw [Te]at h' ⊢;split at h'
    ·exact h'
    ·exact h.hp t e' h') (Fh _) hl
   refine hk a' (c'.cd (l.map (·.1))) ⟨hs.ρ,hs.A,hs.w0,hs.Mu,hs.U⟩ ?_;show Rel _ _ _ (Bd hp (e.bu++l)) a';rw [Qt];exact Jh
  ·exact hd
theorem zBj (dp:Bool) (e:A7):(KI dp hp0 gs e).call=e.call:=by
 unfold KI;split
 ·rfl
 ·split<;>rfl
theorem zC4 (dp:Bool) (e:A7):(KI dp hp0 gs e).cc=e.cc:=by
 unfold KI;split
 ·rfl
 ·split<;>rfl
theorem qI (dp:Bool) (e:A7):(KI dp hp0 gs e).cq=e.cq:=by
 unfold KI;split
 ·rfl
 ·split<;>rfl
theorem zDs {dp:Bool} {e:A7} {x:E} (h:e.cq=some x):KI dp hp0 gs e=e:=by unfold KI;rw [if_pos (by simp [h])]
theorem zFf (h:Bx P c n nx sl hp a sl0 hp0 o gs) {e:A7} (fz:Bool) (hd:AF P o c n nx sl hp gs a e):AF P o c n nx sl hp gs a (Km fz hp0 gs e):=by
 unfold Km;split
 ·exact hd
 ·rename_i Uh;simp only [Bool.or_eq_true,not_or]at Uh;have hen:e.bu= []:=by simpa using Uh.2
  split
  ·rename_i t g m p x hv;split
   ·rename_i y l hy hl;split
    ·rename_i J3;intro next Q hk
     refine hd next Q fun a' c' hs hr=> ?_
     rw [hen]at hr;have fT:gs= []:=by simpa using Uh.1.1.1.2
     subst fT;have hr:Rel c' n (CM n sl o.dst e.val) hp a':=hr;have eh:EH c' hp0:=fun t e CZ=>hr.ents t e (MD h.hp CZ);have Jh:=hr.freeze h.hp (Fh _) hl;refine hk a' (c'.cd (l.map (·.1))) ⟨hs.ρ,hs.A,hs.w0,hs.Mu,hs.U⟩ ?_;refine{Jh with de:=fun i=> ?_};have h1:=hr.de i;have h2:=Jh.de i;unfold CM at h1 h2 ⊢;split
     ·rename_i hi;rw [if_pos hi]at h1;obtain⟨f,q1,q2⟩:=Io eh (Fh _) A4 hy h1 A4 (Nat.le_refl _);exact .e q1 (fun b hb=>Ww hr eh (Fh _) hl J3 (q2 b hb)) .nil
     ·rename_i hi;rw [if_neg hi]at h2;exact h2
    ·exact hd
   ·exact hd
  ·exact hd
theorem zCU (fz:Bool) (e:A7):(Km fz hp0 gs e).call=e.call:=by
 unfold Km;split
 ·rfl
 ·split
  ·split
   ·split<;>rfl
   ·rfl
  ·rfl
theorem zFA (fz:Bool) (e:A7):(Km fz hp0 gs e).cc=e.cc:=by
 unfold Km;split
 ·rfl
 ·split
  ·split
   ·split<;>rfl
   ·rfl
  ·rfl
theorem zyr (fz:Bool) (e:A7):(Km fz hp0 gs e).cq=e.cq:=by
 unfold Km;split
 ·rfl
 ·split
  ·split
   ·split<;>rfl
   ·rfl
  ·rfl
theorem zFz {fz:Bool} {e:A7} {x:E} (h:e.cq=some x):Km fz hp0 gs e=e:=by unfold Km;rw [if_pos (by simp [h])]
theorem zJV (Kb: ∀f s,sg f=some s→f<1000000):Pz P sg (Cv P sg):=by
 intro c n nx sl hp a sl0 hp0 o gs e nv h hu he hc Bj CQ;unfold MF at he;split at he
 ·rename_i e' Fc;simp only [Ah]at he;subst he;rw [zFA,zC4]at hc;rw [zCU,zBj]at Bj;rw [zyr,qI]at CQ;exact zFf h _ (zD1 h _ (jU Kb h Fc hc Bj CQ))
 ·split at he
  ·exact zI0 Kb h hu he hc Bj
  ·cases he
theorem zzF {x:E} (he:Xi P sg sl0 hp0 nv nx o=some e) (hq:e.cq=some x):False:=by
 unfold Xi at he;simp only at he;split at he
 ·cases he
 split at he
 ·cases he
 split at he
 ·cases he
 rename_i e0 LS;split at he
 ·cases he
 rename_i CQ;have CQ:e0.cq=none:=by cases hh:e0.cq with|none=>rfl|some x=>rw [hh]at CQ;simp at CQ
 split at he
 ·split at he
  ·simp only [Ah]at he;subst he;rw [CQ]at hq;cases hq
  ·cases he
 ·split at he
  ·obtain⟨d,hd,rfl⟩:=Av.1 he;rw [CQ]at hq;cases hq
  ·cases he
theorem zzp {x:E} (he:MF P sg sl0 hp0 nv nx gs o=some e) (hq:e.cq=some x):BJ P sg sl0 hp0 nv nx gs o=some e:=by
 unfold MF at he;split at he
 ·rename_i e' Fc;simp only [Ah]at he;subst he;rw [zyr,qI]at hq;rw [zFz (by rw [qI];exact hq),zDs hq];exact Fc
 ·split at he
  ·exact(zzF he hq).elim
  ·cases he
theorem zIo:Vh P sg:=by
 intro c n nx sl hp a sl0 hp0 o gs e nv x h he hq hb;unfold Lu at hb;cases AT:o.op with
 |binOp op t y z ty=>
  rw [AT]at hb;simp only at hb;have he:=zzp he hq;simp only [BJ,AT,Aw]at he;obtain⟨s1,BO,s2,A6,he⟩:=he;have key: ∀xq,Bw hp0 gs A4 s1=some xq→xq.den c.ρ= .sl []:=by
   intro xq Kh;obtain⟨f,q1,_⟩:=h.ln BO (by simp [AT,Op.operands]) Kh;generalize a.eval y=v at q1 hb;split at hb
   ·generalize xq.den c.ρ=d at q1;cases q1 with
    |fb _=>rfl
   ·cases hb
  unfold TK at he;split at he
  ·split at he
   ·simp at he;subst he;cases hq
   ·simp at he;subst he;cases hq
   ·obtain⟨xq,Kh,rfl⟩:=Av.1 he;cases hq;exact key _ Kh
   ·obtain⟨xq,Kh,rfl⟩:=Av.1 he;cases hq;exact key _ Kh
   ·cases he
  ·split at he
   ·simp at he;subst he;cases hq
   ·cases he
  ·split at he
   ·simp at he;subst he;cases hq
   ·cases he
  ·split at he
   ·simp at he;subst he;cases hq
   ·cases he
  ·split at he
   ·cases he
   ·split at he
    ·split at he
     ·simp at he;subst he;cases hq
     ·simp at he;subst he;cases hq
     ·cases he
    ·cases he
  ·cases he
 |_=>rw [AT]at hb;simp at hb
end
end Go.Proofs.YtbmbkgalkfmjdaaGreatDoor
end

/- Parts of a proof, joined: WP, WQ, WR, WRa, WRb, WRc, WRd, WRe, WS, WSa, WSb. -/
import Derived.Test.YtmbknelgbjlhnaaGreatG4
set_option linter.unusedVariables false
set_option linter.unusedSimpArgs false
section
namespace Go.Proofs.YtmbknelgbjlhnaaGreat
open Go.RowKit
theorem Ct.{u} {α:Type u} {a:α}:[a].length=1:=rfl
section
variable {P:Program} {c:Cx} {hp:Nat→Option Ad} {gs:Gd}
theorem n6 (hb:Nf c) (eh:EH c hp) (k:A1 c.ρ gs) (hU: ∀t g,c.K t g→c.U t): ∀(ss:List SV) {ts:List TypeId} {ms:List PM} {lo:List Bool} {es:List E} {bs:List PA} {us uz:List Nat} {vs:List Value},Ti P hp gs ts ms lo ss=some (es,bs,us,uz)→SR c ss vs→ts.length≤ss.length→
  ∃rf lf hs,CT P c.w ts ms lo vs (es.map (E.den c.ρ)) rf lf hs∧(∀b∈rf,c.fg us b)∧(∀b∈lf,c.fg uz b∨b<c.w0.heap.size∧ ¬c.Mu b)∧hs=(CS bs).flatMap (fun t=>(c.G t).top)∧Hs P c ts ms vs bs∧(∀u∈CS bs,c.U u)∧(bs≠ []→gs= [])
 | [],ts,ms,lo,es,bs,us,uz,vs,h,hs,hl=>by simp [Ti]at h;obtain⟨rfl,rfl,rfl,rfl⟩:=h;cases hs;have:ts= []:=List.eq_nil_of_length_eq_zero (by simpa using hl);subst this;exact⟨[], [], [], .nil,by simp,by simp,by simp [CS], .nil,by simp [CS],by simp⟩
 |s::ss,ts,ms,lo,es,bs,us,uz, [],h,hs,hl=>by have:=hs.len;simp at this
 |s::ss,ts,ms,lo,es,bs,us,uz,v::vs,h,hs,hl=>by
  obtain⟨r1,r2⟩:=hs.cv;unfold Ti at h;split at h
  ·cases h
  rename_i ys bs' us' uz' CB;obtain⟨rf,lf,AY,q1,q2,qz,q3,q4,q5,q6⟩:=n6 hb eh k hU ss CB r2 (by simp at hl ⊢;omega);have see1: ∀{a b:List Nat} {x:Nat},c.fg a x→c.fg (a++b) x:=fun h=>h.mono fun t ht=>by simp [ht]
  have see2: ∀{a b:List Nat} {x:Nat},c.fg b x→c.fg (a++b) x:=fun h=>h.mono fun t ht=>by simp [ht]
  split at h
  ·rename_i hm;split at h
   ·rename_i BV;simp only [Ac,Bool.not_eq_true']at BV;obtain⟨t,ts,rfl⟩: ∃t ts',ts=t::ts':=by
     cases ts with
     |nil=>simp at BV
     |cons t ts=>exact⟨t,ts,rfl⟩
    split at h
    ·rename_i i;simp only [Ab,Prod.mk.injEq]at h;obtain⟨rfl,rfl,rfl,rfl⟩:=h;cases r1 with
     |lent g1 _=>obtain⟨f,p1,p2⟩:=hb.lo _ _ g1;have hw:Rd c.w [v] [(E.var i).den c.ρ] f:=p1.frame fun b BJ=>hb.block b (p1.inb b BJ) (p2 b BJ);exact⟨rf,f++lf,AY, .lent BV.1 hm hw q1,q2,fun b BJ=>(Ag.1 BJ).elim (fun BJ=> .inr ⟨p1.inb b BJ,p2 b BJ⟩) (qz b),q3, .ro hm q4,q5,q6⟩
    ·obtain⟨x,hx,hh⟩:=An.1 h;simp only [Prod.mk.injEq]at hh;obtain⟨rfl,rfl,rfl,rfl⟩:=hh;obtain⟨f,p1,p2⟩:=Gt eh k AN hx r1 AN (Nat.le_refl _);exact⟨rf,f++lf,AY, .lent BV.1 hm p1 q1,q2,fun b BJ=>(Ag.1 BJ).elim (fun BJ=> .inl (see1 (p2 b BJ))) (fun BJ=>(qz b BJ).imp see2 id),q3, .ro hm q4,q5,q6⟩
   obtain⟨x,hx,hh⟩:=An.1 h;simp only [Prod.mk.injEq]at hh;obtain⟨rfl,rfl,rfl,rfl⟩:=hh;obtain⟨f,p1,p2⟩:=Gt eh k AN hx r1 AN (Nat.le_refl _);have hb: ∀b∈f++rf,c.fg (Bv hp gs (AN+1) [s]++us') b:=fun b hb=>by
    rcases Ag.1 hb with hb|hb
    ·exact see1 (p2 b hb)
    ·exact see2 (q2 b hb)
   cases ts with
   |nil=>exact⟨f++rf,lf,AY, .free p1 q1,hb,qz,q3, .ro hm q4,q5,q6⟩
   |cons t ts=>exact⟨f++rf,lf, []++AY, .cons (by rw [hm];exact⟨p1,rfl⟩) q1,hb,qz,q3, .ro hm q4,q5,q6⟩
  ·rename_i own own' hm;split at h
   ·rename_i ty T A4;split at h
    ·rename_i ty' g cs M5;split at h
     ·cases h
     rename_i BE;have BE:ty'=ty:=by simpa using BE
     subst BE;split at h
     ·rename_i xs rs vs' Ce En;simp only [Ab,Prod.mk.injEq]at h;obtain⟨rfl,rfl,rfl,rfl⟩:=h;obtain⟨t,ts,rfl,Dw⟩: ∃t ts',ts=t::ts'∧IG P t=some ty':=by
       cases ts with
       |nil=>simp at A4
       |cons t ts=>exact⟨t,ts,rfl,by simpa using A4⟩
      obtain⟨b,C,g1,g2,g3,g4,g5,g6,g7⟩:=eh T _ (Cu M5 k);obtain⟨f,h8,p1,p2,p3,p4,p5⟩:=cS (P:=P) eh k hU (AZ P ty') En g7 Ce (Nat.le_refl _);have hv:v= .pointer (some ⟨b,0,none⟩):=by
       cases r1 with
       |cy k1 k2 _=>rw [g2]at k2;cases k2;rfl
      refine⟨f++rf,lf,(b::h8)++AY, .cons ?_ q1,fun x hx=> ?_,qz,by simp [CS,p3,q3,g3], .bx hm Dw hv g1 (by rw [g2,hv]) p5 q4,fun u hu=> ?_,fun _=>rfl⟩
      ·rw [hm];exact⟨ty',b,C,xs.den c.ρ,h8,Dw,hv,g5,g6,rfl,p1,rfl⟩
      ·rcases Ag.1 hx with hx|hx
       ·exact see1 (p2 x hx)
       ·exact see2 (q2 x hx)
      ·simp only [CS,List.cons_append,Ae,Ag]at hu;rcases hu with rfl|hu|hu
       ·exact hU _ _ g1
       ·exact p5 u hu
       ·exact q5 u hu
     ·cases h
    ·cases h
   ·cases h
  ·rename_i own hm;split at h
   ·rename_i t x A4 hx;split at h
    ·cases h
    rename_i Au;have Au:(Gs s).2=Ak P t:=by simpa using Au
    split at h
    ·rename_i rs vs' En;simp only [Ab,Prod.mk.injEq]at h;obtain⟨rfl,rfl,rfl,rfl⟩:=h;obtain⟨ts,rfl⟩: ∃ts',ts=t::ts':=by
      cases ts with
      |nil=>simp at A4
      |cons t' ts=>simp at A4;exact⟨ts,by rw [A4]⟩
     obtain⟨f,h8,p1,p2,p3,⟨vs9,p4,p5⟩,p6⟩:=mQ (P:=P) eh k hU r1 hx Au En;refine⟨f++rf,lf,h8++AY, .cons (by rw [hm];exact p1) q1,fun x hx=> ?_,qz,by simp [CS,p3,q3],by rw [Au];exact .mu hm p4 p5 q4,fun u hu=> ?_,fun _=>rfl⟩
     ·rcases Ag.1 hx with hx|hx
      ·exact see1 (p2 x hx)
      ·exact see2 (q2 x hx)
     ·simp only [CS,Ag]at hu;exact hu.elim (p6 u) (q5 u)
    ·cases h
   ·cases h
  ·rename_i own hm;split at h
   ·rename_i t x A4 hx;split at h
    ·cases h
    rename_i Au;have Au:(Gs s).2=Ak P t:=by simpa using Au
    split at h
    ·rename_i rs vs' En;simp only [Ab,Prod.mk.injEq]at h;obtain⟨rfl,rfl,rfl,rfl⟩:=h;obtain⟨ts,rfl⟩: ∃ts',ts=t::ts':=by
      cases ts with
      |nil=>simp at A4
      |cons t' ts=>simp at A4;exact⟨ts,by rw [A4]⟩
     obtain⟨f,h8,p1,p2,p3,⟨vs9,p4,p5⟩,p6⟩:=mQ (P:=P) eh k hU r1 hx Au En;refine⟨f++rf,lf,h8++AY, .cons (by rw [hm];exact p1) q1,fun x hx=> ?_,qz,by simp [CS,p3,q3], .va hm p6 q4,fun u hu=> ?_,fun _=>rfl⟩
     ·rcases Ag.1 hx with hx|hx
      ·exact see1 (p2 x hx)
      ·exact see2 (q2 x hx)
     ·simp only [CS,Ag]at hu;exact hu.elim (p6 u) (q5 u)
    ·cases h
   ·cases h
end
inductive Fo (P:Program) (w:World):List TypeId→List Bool→List Value→List AV→List Nat→List Nat→Prop where
 |nil {fl}:Fo P w [] fl [] [] [] []
 |own {t ts fl el u us y ys top N f o}:fl.headD false=true→Cv P t=some el→(BM P el=true∧N= []∨BM P el=false∧Dm P t=none)→CK w el (P.cellsOf el) u y top N→Fo P w ts fl.tail us ys f o→Fo P w (t::ts) fl (u::us) (y::ys) (N++f) (top++o)
 |deep {t ts fl el e z l u us y ys top f o}:fl.headD false=true→Cv P t=some el→BM P el=false→Dm P t=some (.row e z l)→DC w [.row e z l] [u] [y] top→Fo P w ts fl.tail us ys f o→Fo P w (t::ts) fl (u::us) (y::ys) f (top++o)
 |skip {t ts fl u us y ys f o}:(fl.headD false=true→Cv P t=none)→Fo P w ts fl.tail us ys f o→Fo P w (t::ts) fl (u::us) (y::ys) f o
inductive Dk (P:Program) (w:World):List TypeId→List PM→List Value→List AV→List Nat→List Nat→Prop where
 |nil {ms vs}:Dk P w [] ms vs [] [] []
 |ro {t ts ms v vs bs f o}:ms.headD .ro= .ro→Dk P w ts ms.tail vs bs f o→Dk P w (t::ts) ms (v::vs) bs f o
 |va {t ts ms own v vs bs f o}:ms.headD .ro= .va own→Dk P w ts ms.tail vs bs f o→Dk P w (t::ts) ms (v::vs) bs f o
 |mu {t ts ms own v vs us ys y bs f1 f o1 o}:ms.headD .ro= .mu own→(if Ak P t then v= .agg us.toArray∧y= .agg ys else us= [v]∧ys= [y])→Fo P w (AZ P t) own us ys f1 o1→Dk P w ts ms.tail vs bs f o→Dk P w (t::ts) ms (v::vs) (y::bs) (f1++f) (o1++o)
 |bx {t ts ms own own' ty b C v vs ys y bs f1 o1 f o}:ms.headD .ro= .bx own own'→IG P t=some ty→v= .pointer (some ⟨b,0,none⟩)→w.heap[b]?=some (.cells C ty (0,0))→(∀u∈C.toList,u.oneCell'=true)→y= .agg ys→B5 P w (AZ P ty) own' C.toList ys f1 o1→
   Dk P w ts ms.tail vs bs f o→Dk P w (t::ts) ms (v::vs) (y::bs) (f1++f) (b::o1++o)
section
variable {P:Program} {c:Cx} {w':World}
theorem zv4 {mk:Nat→E} {ts:List TypeId} {fl:List Bool} {us:List Value} {rs:List (Option RI)} (h:FB P c ts fl us rs) (hU: ∀t g,c.K t g→c.U t): ∀{ys:List AV} {f o:List Nat} (j:Nat),Fo P w' ts fl us ys f o→(∀i y,ys[i]?=some y→(mk (j+i)).den c.ρ=y)→
  ∃recs:List AD,Ka mk j rs=recs.map AD.pair∧(recs.flatMap AD.top).Sublist o∧(∀r∈recs,r.new=none∧c.U r.tag∧ ∀hs f,r.bt≠ .gd hs f)∧recs.map AD.tag=Ca rs∧ ∀c',D7 c c' w' recs→(∀b∈f,c'.ok b)→ ∀r∈recs,CD c' r.tag r.bt:=by
 induction h with
 |nil=>intro ys f o j hm _;cases hm;exact⟨[],rfl,by simp,by simp,rfl,by simp⟩
 | @row t ts fl v vs u g el rs h1 h2 Po h3 h4 h5 _ ih=>
  intro ys f o j hm EZ;cases hm with
  |skip hh _=>rw [hh h1]at h2;cases h2
  |deep _ k2 k21 k22 _ _=>
   rw [h2]at k2;cases k2;rcases Po with hh|hh
   ·rw [hh]at k21;cases k21
   ·rw [hh]at k22;cases k22
  | @own _ _ _ el' _ _ y ys top N f o k1 k2 k23 k3 k4=>
   rw [h2]at k2;cases k2;obtain⟨recs,e1,e2,e3,e4,e5⟩:=ih (j+1) k4 (fun i y hy=>by rw [show j+1+i=j+(i+1)from by omega];exact EZ (i+1) y (by simpa using hy));have hy:=EZ 0 y rfl;refine⟨⟨u,none,top, .row el (P.cellsOf el) g (mk j) (BM P el)⟩::recs,by simp [Ka,e1,AD.pair],by simpa using(List.Sublist.refl top).append e2,fun r hr=> ?_,by simp [Ca,RI.tag,e4],fun c' ha AF r hr=> ?_⟩
   ·rcases Ae.1 hr with rfl|hr
    ·exact⟨rfl,hU _ _ h3,by simp⟩
    ·exact e3 r hr
   ·rcases Ae.1 hr with rfl|hr
    ·obtain⟨a1,a2⟩:=ha.K u g h3;have kg:=ha.G _ (List.mem_cons_self ..);simp only at kg;refine⟨a1,fun g' Cc=>h5 g' (ha.old u (hU _ _ h3) g' Cc),N, ?_,fun b hb=>AF b (by simp [hb]),fun hd=> ?_,fun _=>by rw [kg]⟩
     rotate_left
     ·rcases k23 with⟨_,h⟩|⟨h,_⟩
      ·subst h;exact⟨rfl,by rw [kg]⟩
      ·rw [h]at hd;cases hd
     have Ba:(mk j).den c.ρ=y:=by simpa using hy
     rw [a2,h4,kg,ha.w,ha.ρ,Ba];exact k3
    ·exact e5 c' (ha.mono fun r hr=>by simp [hr]) (fun b hb=>AF b (by simp [hb])) r hr
 | @deep t ts fl v vs u g el e z l ep rs h1 h2 Pn MZ h3 h4 h5 h6 _ ih=>
  intro ys f o j hm EZ;cases hm with
  |skip hh _=>rw [hh h1]at h2;cases h2
  |own _ k2 k23 _ _=>
   rw [h2]at k2;cases k2;rcases k23 with⟨hh,_⟩|⟨_,hh⟩
   ·rw [hh]at Pn;cases Pn
   ·rw [hh]at MZ;cases MZ
  | @deep _ _ _ el' e' z' l' _ _ y ys top f o k1 k2 k21 k22 k3 k4=>
   rw [MZ]at k22;cases k22;obtain⟨recs,e1,e2,e3,e4,e5⟩:=ih (j+1) k4 (fun i y hy=>by rw [show j+1+i=j+(i+1)from by omega];exact EZ (i+1) y (by simpa using hy));have hy:=EZ 0 y rfl;refine⟨⟨u,none,top, .deep e z l g (ep+1) (mk j)⟩::recs,by simp [Ka,e1,AD.pair],by simpa using(List.Sublist.refl top).append e2,fun r hr=> ?_,by simp [Ca,RI.tag,e4],fun c' ha AF r hr=> ?_⟩
   ·rcases Ae.1 hr with rfl|hr
    ·exact⟨rfl,hU _ _ h3,by simp⟩
    ·exact e3 r hr
   ·rcases Ae.1 hr with rfl|hr
    ·obtain⟨a1,a2⟩:=ha.K u g h3;have kg:=ha.G _ (List.mem_cons_self ..);have ke:=ha.im _ (List.mem_cons_self ..) rfl;simp only at kg ke;refine⟨a1,fun g' Cc=>h5 g' (ha.old u (hU _ _ h3) g' Cc),by rw [ke,h6], ?_,by rw [kg]⟩;have Ba:(mk j).den c.ρ=y:=by simpa using hy
     rw [a2,h4,kg,ha.w,ha.ρ,Ba];exact k3
    ·exact e5 c' (ha.mono fun r hr=>by simp [hr]) (fun b hb=>AF b (by simp [hb])) r hr
 | @none t ts fl v vs rs _ _ ih=>
  intro ys f o j hm EZ;have go: ∀{y:AV} {ys':List AV} {f' o':List Nat},ys=y::ys'→Fo P w' ts fl.tail vs ys' f' o'→(∀b∈f',b∈f)→o'.Sublist o→ ∃recs:List AD,Ka mk j (none::rs)=recs.map AD.pair∧(recs.flatMap AD.top).Sublist o∧(∀r∈recs,r.new=none∧c.U r.tag∧ ∀hs f,r.bt≠ .gd hs f)∧recs.map AD.tag=Ca (none::rs)∧ ∀c',D7 c c' w' recs→(∀b∈f,c'.ok b)→ ∀r∈recs,CD c' r.tag r.bt:=by rintro y ys' f' o' rfl EY hf hs;obtain⟨recs,e1,e2,e3,e4,e5⟩:=ih (j+1) EY (fun i y hy=>by rw [show j+1+i=j+(i+1)from by omega];exact EZ (i+1) y (by simpa using hy));exact⟨recs,by simp [Ka,e1],e2.trans hs,e3,by simp [Ca]at e4 ⊢;exact e4,fun c' ha AF=>e5 c' ha fun b hb=>AF b (hf b hb)⟩
  cases hm with
  |skip _ h8=>exact go rfl h8 (fun _ h=>h) (List.Sublist.refl _)
  |own _ _ _ _ h8=>exact go rfl h8 (fun b hb=>by simp [hb]) (List.sublist_append_right _ _)
  |deep _ _ _ _ _ h8=>exact go rfl h8 (fun _ h=>h) (List.sublist_append_right _ _)
theorem nN (us:List Nat) (hU: ∀u∈us,c.U u): ∃recs:List AD,Ef us=recs.map AD.pair∧recs.flatMap AD.top= []∧(∀r∈recs,r.new=none∧c.U r.tag∧ ∀hs f,r.bt≠ .gd hs f)∧recs.map AD.tag=us∧ ∀c',D7 c c' w' recs→ ∀r∈recs,CD c' r.tag r.bt:=by
 induction us with
 |nil=>exact⟨[],rfl,rfl,by simp,rfl,by simp⟩
 |cons u us ih=>
  obtain⟨recs,e1,e2,e3,e4,e5⟩:=ih fun u hu=>hU u (by simp [hu]);refine⟨⟨u,none, [], .dead⟩::recs,by simp only [Ef]at e1;simp [Ef,e1,AD.pair],by simp [e2],fun r hr=> ?_,by simp [e4],fun c' ha r hr=> ?_⟩
  ·rcases Ae.1 hr with rfl|hr
   ·exact⟨rfl,hU _ (by simp),by simp⟩
   ·exact e3 r hr
  ·rcases Ae.1 hr with rfl|hr
   ·have kg:=ha.G _ (List.mem_cons_self ..);simp only at kg;exact⟨by rw [kg],by rw [kg]⟩
   ·exact e5 c' (ha.mono fun r hr=>by simp [hr]) r hr
structure HC (c:Cx) (w':World) (nx m:Nat) (l:List (Nat × Ad)) (hd o f:List Nat) (recs:List AD):Prop where
 ents:l=recs.map AD.pair
 l5:(recs.flatMap AD.top).Sublist o
 new: ∀r∈recs,r.new.isSome=true→nx≤r.tag∧r.tag<nx+m
 old: ∀r∈recs,r.new=none→r.tag∈hd∧c.U r.tag
 all: ∀t∈hd,∃r∈recs,r.tag=t
 nodup:hd.Nodup→(∀t,nx≤t→t<nx+m→ ¬c.U t)→(recs.map AD.tag).Nodup
 ne: ∀r∈recs,∀hs f,r.bt≠ .gd hs f
 ok: ∀c',D7 c c' w' recs→(∀b∈f,c'.ok b)→ ∀r∈recs,CD c' r.tag r.bt
theorem HC.app {nx m m':Nat} {l l':List (Nat × Ad)} {hd Jp o o' f f':List Nat} {recs recs':List AD} (h:HC c w' nx m l hd o f recs) (k:HC c w' (nx+m) m' l' Jp o' f' recs'):HC c w' nx (m+m') (l++l') (hd++Jp) (o++o') (f++f') (recs++recs'):=by
 refine⟨by rw [h.ents,k.ents,List.map_append],by rw [List.flatMap_append];exact h.l5.append k.l5,fun r hr hn=> ?_,fun r hr hn=> ?_,fun t ht=> ?_,fun hn hU=> ?_,fun r hr=> ?_,fun c' ha AF r hr=> ?_⟩
 ·rcases Ag.1 hr with hr|hr
  ·have:=h.new r hr hn;omega
  ·have:=k.new r hr hn;omega
 ·rcases Ag.1 hr with hr|hr
  ·exact⟨by simp [(h.old r hr hn).1],(h.old r hr hn).2⟩
  ·exact⟨by simp [(k.old r hr hn).1],(k.old r hr hn).2⟩
 ·rcases Ag.1 ht with ht|ht
  ·obtain⟨r,hr,e⟩:=h.all t ht;exact⟨r,by simp [hr],e⟩
  ·obtain⟨r,hr,e⟩:=k.all t ht;exact⟨r,by simp [hr],e⟩
 ·rw [List.nodup_append]at hn;rw [List.map_append,List.nodup_append];refine⟨h.nodup hn.1 fun t h1 h2=>hU t h1 (by omega),k.nodup hn.2.1 fun t h1 h2=>hU t (by omega) (by omega),fun t1 Qn t2 Qo he=> ?_⟩;obtain⟨q1,KF,rfl⟩:=List.mem_map.1 Qn;obtain⟨q2,Gf,rfl⟩:=List.mem_map.1 Qo;cases n1:q1.new with
  |none=>
   obtain⟨a1,a2⟩:=h.old q1 KF n1;cases n2:q2.new with
   |none=>exact hn.2.2 _ a1 _ (k.old q2 Gf n2).1 he
   |some v2=>have:=k.new q2 Gf (by simp [n2]);exact hU q2.tag (by omega) (by omega) (he▸a2)
  |some v1=>
   have:=h.new q1 KF (by simp [n1]);cases n2:q2.new with
   |none=>exact hU q1.tag (by omega) (by omega) (he▸(k.old q2 Gf n2).2)
   |some v2=>have:=k.new q2 Gf (by simp [n2]);omega
 ·rcases Ag.1 hr with hr|hr
  ·exact h.ne r hr
  ·exact k.ne r hr
 ·rcases Ag.1 hr with hr|hr
  ·exact h.ok c' (ha.mono fun r hr=>by simp [hr]) (fun b hb=>AF b (by simp [hb])) r hr
  ·exact k.ok c' (ha.mono fun r hr=>by simp [hr]) (fun b hb=>AF b (by simp [hb])) r hr
theorem HC.j6 {nx:Nat} {l:List (Nat × Ad)} {hd o f:List Nat} {recs:List AD} (e1:l=recs.map AD.pair) (e2:(recs.flatMap AD.top).Sublist o) (e3: ∀r∈recs,r.new=none∧c.U r.tag∧ ∀hs f,r.bt≠ .gd hs f) (e4:recs.map AD.tag=hd) (e5: ∀c',D7 c c' w' recs→(∀b∈f,c'.ok b)→ ∀r∈recs,CD c' r.tag r.bt):HC c w' nx 0 l hd o f recs:=by
 refine⟨e1,e2,fun r hr hn=> ?_,fun r hr _=>⟨?_,(e3 r hr).2.1⟩,fun t ht=> ?_,fun hn _=>by rw [e4];exact hn,fun r hr=>(e3 r hr).2.2,fun c' ha AF=>e5 c' ha AF⟩
 ·rw [(e3 r hr).1]at hn;cases hn
 ·rw [←e4];exact List.mem_map.2 ⟨r,hr,rfl⟩
 ·rw [←e4]at ht;obtain⟨r,hr,e⟩:=List.mem_map.1 ht;exact⟨r,hr,e⟩
theorem zx6 {ts:List TypeId} {ms:List PM} {vs:List Value} {bs:List PA} (h:Hs P c ts ms vs bs) (hU: ∀t g,c.K t g→c.U t) {r:Nat}: ∀{Bs:List AV} {f o:List Nat} (nx j:Nat),Dk P w' ts ms vs Bs f o→(∀k y,Bs[k]?=some y→(E.proj (.var r) (j+k+1)).den c.ρ=y)→
  Bs.length=Hc bs∧ ∃recs,HC c w' nx (Jd P bs) (after P r nx bs j) (CS bs) o f recs:=by
 have nilS: ∀nx,HC c w' nx 0 [] [] [] [] []:=fun nx=>⟨rfl,by simp,by simp,by simp,by simp,by simp,by simp,by simp⟩
 induction h with
 |nil=>intro Bs f o nx j hb _;cases hb;exact⟨rfl, [],by simpa [after,CS,Jd]using nilS nx⟩
 | @ro ts ms v vs bs hm DR ih=>
  intro Bs f o nx j hb hB;cases hb with
  |nil=>exact ih nx j .nil hB
  |ro _ h8=>exact ih nx j h8 hB
  |va h9 _=>rw [hm]at h9;cases h9
  |mu h9 _ _ _=>rw [hm]at h9;cases h9
  |bx h9 _ _ _ _ _ _ _=>rw [hm]at h9;cases h9
 | @va ts ms own v vs bs us hm JC DR ih=>
  intro Bs f o nx j hb hB;obtain⟨recs1,e1,e2,e3,e4,e5⟩:=nN (c:=c) (w':=w') us JC;have s1:HC c w' nx 0 (Ef us) us [] [] recs1:= .j6 e1 (by rw [e2];exact List.Sublist.refl _) e3 e4 fun c' ha _=>e5 c' ha;cases hb with
  |nil=>obtain⟨h1,recs2,s2⟩:=ih nx j .nil hB;exact⟨by simpa [Hc]using h1,recs1++recs2,by simpa [after,CS,Jd]using s1.app s2⟩
  |ro h9 _=>rw [hm]at h9;cases h9
  |va _ h8=>obtain⟨h1,recs2,s2⟩:=ih nx j h8 hB;exact⟨by simpa [Hc]using h1,recs1++recs2,by simpa [after,CS,Jd]using s1.app s2⟩
  |mu h9 _ _ _=>rw [hm]at h9;cases h9
  |bx h9 _ _ _ _ _ _ _=>rw [hm]at h9;cases h9
 | @mu t ts ms own v vs bs us rs hm JC En DR ih=>
  intro Bs f o nx j hb hB;cases hb with
  |ro h9 _=>rw [hm]at h9;cases h9
  |va h9 _=>rw [hm]at h9;cases h9
  |bx h9 _ _ _ _ _ _ _=>rw [hm]at h9;cases h9
  | @mu _ _ _ own2 _ _ us2 ys y Bs f1 f o1 o h9 hg P4 h8=>
   rw [hm]at h9;cases h9;obtain⟨h1,recs2,s2⟩:=ih nx (j+1) h8 (fun k y hy=>by rw [show j+1+k+1=j+(k+1)+1 from by omega];exact hB (k+1) y (by simpa using hy));have hy:=hB 0 y rfl;have L5:us2=us:=by
    split at JC
    ·rename_i Au;rw [if_pos Au]at hg;obtain⟨rfl,_⟩:=hg;exact mM JC
    ·rename_i Au;rw [if_neg Au]at hg;rw [hg.1,JC]
   subst L5;obtain⟨recs1,e1,e2,e3,e4,e5⟩:=zv4 (w':=w') (mk:=CU (.proj (.var r) (j+1)) (Ak P t)) En hU 0 P4 (by
    intro i z hz;split at hg
    ·rename_i Au;rw [Au];exact Sm (by rw [←hg.2];exact hy) i z hz
    ·rename_i Au;have FG:Ak P t=false:=by simpa using Au
     rw [hg.2]at hz;cases i with
     |zero=>simp at hz;subst hz;rw [FG];simpa [CU]using hy
     |succ i=>simp at hz)
   have s1:HC c w' nx 0 _ (Ca rs) o1 f1 recs1:= .j6 e1 e2 e3 e4 e5;exact⟨by simp [Hc,h1],recs1++recs2,by simpa [after,CS,Jd]using s1.app s2⟩
 | @bx t ts ms own own' ty v vs bs T b g olds hm Dw hv hK hH hol DR ih=>
  intro Bs f o nx j hb hB;cases hb with
  |ro h9 _=>rw [hm]at h9;cases h9
  |va h9 _=>rw [hm]at h9;cases h9
  |mu h9 _ _ _=>rw [hm]at h9;cases h9
  | @bx _ _ _ own2 own3 ty2 b2 C _ _ ys y Bs f1 o1 f o h9 H0 CQ hh Cr Hm hc h8=>
   rw [hm]at h9;cases h9;rw [Dw]at H0;cases H0;have rP:b2=b:=by rw [hv]at CQ;cases CQ;rfl
   subst rP;obtain⟨h1,recs2,s2⟩:=ih (nx+(AZ P ty).length) (j+1) h8 (fun k y hy=>by rw [show j+1+k+1=j+(k+1)+1 from by omega];exact hB (k+1) y (by simpa using hy));have hy:=hB 0 y rfl;obtain⟨recs0,d1,d2,d3,d4,d5⟩:=nN (c:=c) (w':=w') olds hol;have s0:HC c w' nx 0 (Ef olds) olds [] [] recs0:= .j6 d1 (by rw [d2];exact List.Sublist.refl _) d3 d4 fun c' ha _=>d5 c' ha;obtain⟨recs1,e1,e2,e3,e4,_,e5⟩:=Oe (c:=c) (nx:=nx) (mk:=CU (.proj (.var r) (j+1)) true) hc 0 (Sm (by rw [←Hm];exact hy));have iH:=hU _ _ hK;have s1:HC c w' nx (AZ P ty).length ((T, .box ty g (Cm P nx (CU (.proj (.var r) (j+1)) true) 0 (AZ P ty) own').1)::(Cm P nx (CU (.proj (.var r) (j+1)) true) 0 (AZ P ty) own').2) [T] (b2::o1) f1 (⟨T,none, [b2], .box ty g (Cm P nx (CU (.proj (.var r) (j+1)) true) 0 (AZ P ty) own').1⟩::recs1):=by
    refine⟨by simp [e1,AD.pair], ?_,fun q hq hn=> ?_,fun q hq hn=> ?_,by simp,fun _ AS=> ?_,fun q hq=> ?_,fun c' ha AF q hq=> ?_⟩
    ·simp only [List.flatMap_cons,e2,List.singleton_append];exact List.Sublist.refl _
    ·rcases Ae.1 hq with rfl|hq
     ·cases hn
     ·have:=e3 q hq;omega
    ·rcases Ae.1 hq with rfl|hq
     ·exact⟨by simp,iH⟩
     ·have:=(e3 q hq).2.2;rw [hn]at this;cases this
    ·simp only [List.map_cons,List.nodup_cons];refine⟨fun hm=> ?_,e4⟩;obtain⟨q,hq,tD⟩:=List.mem_map.1 hm;have:=e3 q hq;exact AS q.tag (by omega) (by omega) (tD▸iH)
    ·rcases Ae.1 hq with rfl|hq
     ·simp
     ·intro hs f he;obtain⟨q1,q2⟩:=e3 q hq;have:(q.tag,q.bt)∈(Cm P nx (CU (.proj (.var r) (j+1)) true) 0 (AZ P ty) own').2:=by
       rw [e1];exact List.mem_map.2 ⟨q,hq,rfl⟩
      exact Mn _ _ _ _ _ this he
    ·obtain⟨p1,p2⟩:=e5 c' (ha.mono fun r hr=>by simp [hr]) AF;rcases Ae.1 hq with rfl|hq
     ·obtain⟨a1,a2⟩:=ha.K T 0 hK;have kg:=ha.G _ (List.mem_cons_self ..);simp only at kg;exact⟨b2,C,a1,by rw [a2,hH,hv],by rw [kg],by rw [kg],by rw [ha.w];exact hh,Cr,p1⟩
     ·exact p2 q hq
   refine⟨by simp [Hc,h1],recs0++((⟨T,none, [b2], .box ty g (Cm P nx (CU (.proj (.var r) (j+1)) true) 0 (AZ P ty) own').1⟩::recs1)++recs2), ?_⟩;have s3:=s0.app (s1.app s2);rw [Nat.zero_add]at s3;refine⟨by simpa [after]using s3.ents,s3.l5,s3.new,fun q hq hn=> ?_,fun t ht=> ?_,fun hn AS=> ?_,s3.ne,s3.ok⟩
   ·have:=s3.old q hq hn;simp only [CS,List.cons_append,Ae,Ag,List.not_mem_nil,or_false,List.nil_append]at this ⊢;exact⟨by rcases this.1 with h|h|h;exact .inr (.inl h);exact .inl h;exact .inr (.inr h),this.2⟩
   ·refine s3.all t ?_;simp only [CS,List.cons_append,Ae,Ag,List.nil_append]at ht ⊢;rcases ht with h|h|h
    ·exact .inr (.inl h)
    ·exact .inl h
    ·exact .inr (.inr h)
   ·refine s3.nodup ?_ AS;simp only [CS,List.cons_append,List.nodup_cons,List.nodup_append,Ag,not_or,List.nil_append]at hn ⊢;obtain⟨⟨n1,n2⟩,n3,n4,n5⟩:=hn;refine⟨n3,⟨n2,n4⟩,fun a ha b hb=> ?_⟩;rcases Ae.1 hb with rfl|hb
    ·rintro rfl;exact n1 ha
    ·exact n5 a ha b hb
end
def MO (P:Program):List TypeId→List Bool→List AV→Bool
 |t::ts,fl,y::ys=>((fl.headD false&&(Cv P t).isSome)||Cp P t||y.scalar)&&MO P ts fl.tail ys
 |_,_,_=>true
def T1 (P:Program) (t:TypeId) (fl:List Bool) (x:AV):Bool:=if Ha P t fl then MO P (AZ P t) fl (if Ak P t then x.cells else [x])else Cp P t||x.cells.all AV.scalar
def XW (P:Program):List TypeId→List Bool→List AV→Bool
 |t::ts,fl,x::xs=>T1 P t fl x&&XW P ts (fl.drop (AZ P t).length) xs
 |_,_,_=>true
def TY (P:Program) (ts:List TypeId) (fl:List Bool) (R:AV):Bool:=match ts with
 | [t]=>T1 P t fl R
 |ts=>match R with
  | .tup ys=>XW P ts fl ys
  |_=>true
def G8 (P:Program):List TypeId→List PM→List AV→Bool
 |t::ts,ms,bs=>(match ms.headD .ro with
  | .ro=>G8 P ts ms.tail bs
  | .va _=>G8 P ts ms.tail bs
  | .mu _=>G8 P ts ms.tail bs.tail
  | .bx _ own'=>(match IG P t,bs with
   |some ty,b::_=>MO P (AZ P ty) own' b.cells
   |_,_=>true)&&G8 P ts ms.tail bs.tail)
 | [],_,_=>true
def Bh:List TypeId→List PM→Bool
 |_::ts,ms=>(match ms.headD .ro with
  | .mu _=>true
  | .bx .. =>true
  |_=>false)||Bh ts ms.tail
 | [],_=>false
def OS (P:Program) (fn:Func) (s:F7) (r:AV):Bool:=
 if Bh (fn.params.toList++s.ft) s.dc then(match r with
  | .tup (R::bs)=>TY P fn.resultTypes.toList s.res R&&G8 P (fn.params.toList++s.ft) s.dc bs
  |_=>false)
 else TY P fn.resultTypes.toList s.res r
def IH (P:Program) (w:World) (ts:List TypeId) (fl:List Bool) (v:Value) (R:AV) (f o:List Nat):Prop:=match ts with
 | [t]=>Fm P w t fl v R f o
 |ts=> ∃vs ys,v= .tuple vs.toArray∧R= .tup ys∧Kk P w ts fl vs ys f o
structure kV (P:Program) (fn:Func) (s:F7) (w:World) (vs:List Value) (rf hs:List Nat) (r:AV) (v:Value) (w':World):Prop where
 ex: ∃R bs f1 o1 f2 o2,r=(match bs with| []=>R|_=> .tup (R::bs))∧IH P w' fn.resultTypes.toList s.res v R f1 o1∧Dk P w' (fn.params.toList++s.ft) s.dc vs bs f2 o2∧(o1++o2).Nodup∧
  (∀b∈o1++o2,(b∈hs∨w.heap.size≤b)∧b<w'.heap.size)∧ ∀b∈f1++f2,b∉o1++o2∧(b∈rf∨b∈hs∨w.heap.size≤b)
 mod:Mod hs w w'
theorem Rel.mq {c:Cx} {n:Nat} {sl:Nat→SV} {hp:Nat→Option Ad} {a:Act} (h:Rel c n sl hp a) {hs:List Nat} (hh: ∀b∈hs,∃t,b∈(c.G t).top):ZV c.w (fun b=>b∈hs):=by
 obtain⟨p1,p2,p3⟩:=h.base.pk;refine⟨Nat.le_trans p1 h.base.size,JH.mono (fun b hb=>h.base.block b (by omega) fun hm=>by have:=p3 b hm;omega) p2,fun b hb=> ?_⟩;obtain⟨t,ht⟩:=hh b hb;rcases h.gw.allow t b (by simp [GI.own,ht])with k|k
 ·have:c.w0.heap.size≤b:=k;omega
 ·exact p3 b k
def Pk (P:Program) (s:F7) (f:Nat) (xs:List AV) (r:AV):Prop:=
 ∃fn,P.funcs[f]?=some fn∧fn.body.isSome=true∧(fn.name== "runtime.NumGoroutine")=false∧OS P fn s r=true∧xs.length=fn.params.size+fn.nfree∧s.ft.length≤fn.nfree∧
  ∀(w:World) (vs:List Value) (rf lf hs:List Nat),CT P w (fn.params.toList++s.ft) s.dc s.lo vs xs rf lf hs→(∀b∈hs,b∉rf)→(∀b∈hs,b∉lf)→hs.Nodup→ZV w (fun b=>b∈hs)→
   Calls P f vs.toArray w fun e w'=> ∃v,e= .returned v∧kV P fn s w vs rf hs r v w'
def CY (P:Program) (sg:BB) (f:Nat) (xs:List AV) (r:AV):Prop:=
 if f<1000000 then∃s,sg f=some s∧Pk P s f xs r else Pk P {dc:= [],res:= []} (f-1000000) xs r
section
variable {P:Program} {w:World}
theorem lR {v:Value} {x:AV} {f:List Nat} (h:Rd w [v] [x] f) (hx: ∀y∈x.cells,y.scalar=true):f= []:=by
 by_cases Au: ∃cs,x= .agg cs
 ·obtain⟨cs,rfl⟩:=Au;obtain⟨as_,_,_,hr⟩:=Iq h rfl;exact Gu hr hx
 ·have:x.cells= [x]:=by cases x<;>first|rfl|exact absurd ⟨_,rfl⟩ Au
  rw [this]at hx;exact Gu h hx
theorem zyA {t el:TypeId} (h:Cv P t=some el):Cp P t=true:=by have hu:=IU h;simp [Cp,BM,AZ,Xu,hu]
theorem B5.flat {ts:List TypeId} {fl:List Bool} {us:List Value} {ys:List AV} {rf hs:List Nat} (h:B5 P w ts fl us ys rf hs) (h1:DV P ts fl=false) (h2:MO P ts fl ys=true):rf= []:=by
 induction h with
 |nil=>rfl
 |own k1 k2 k23 _ _ ih=>
  simp only [DV,Bool.or_eq_false_iff]at h1;simp only [MO,Ac]at h2;have hN:=k23;have hw:=h1.1;rw [zyA k2,k1]at hw;rcases hN with⟨_,rfl⟩|⟨q1,q2⟩
  ·rw [ih h1.2 h2.2];rfl
  ·simp [XT,k2,q1,q2]at hw
 |deep _ _ _ _ _ _ ih=>simp only [DV,Bool.or_eq_false_iff]at h1;simp only [MO,Ac]at h2;exact ih h1.2 h2.2
 | @rd t ts fl u us y ys f rf hs hn hr _ ih=>
  simp only [DV,Bool.or_eq_false_iff]at h1;simp only [MO,Ac]at h2;have DP:(fl.headD false&&(Cv P t).isSome)=false:=by
   cases hh:fl.headD false with
   |false=>rfl
   |true=>rw [hn hh];rfl
  have Y2:(fl.headD false&&XT P t)=false:=by
   cases hh:fl.headD false with
   |false=>rfl
   |true=>simp [XT,hn hh]
  rw [Y2]at h1;rw [DP]at h2;have IA:Cp P t=false:=by simpa using h1.1
  rw [IA]at h2;have hs:y.scalar=true:=by simpa using h2.1
  rw [Gu hr (by simpa using hs),ih h1.2 h2.2];rfl
theorem Fm.flat {t:TypeId} {fl:List Bool} {v:Value} {x:AV} {rf hs:List Nat} (h:Fm P w t fl v x rf hs) (h1:ZG P t fl=false) (h2:T1 P t fl x=true):rf= []:=by
 unfold Fm at h;unfold ZG at h1;unfold T1 at h2;split at h
 ·rename_i hf;rw [if_pos hf]at h1 h2;obtain⟨us,ys,hg,hc⟩:=h;split at hg
  ·rename_i Au;obtain⟨_,rfl,_⟩:=hg;rw [if_pos Au]at h2;exact hc.flat h1 h2
  ·rename_i Au;obtain⟨_,rfl⟩:=hg;rw [if_neg Au]at h2;exact hc.flat h1 h2
 ·rename_i hf;rw [if_neg hf]at h1 h2;rw [h1]at h2;exact lR h.1 (by simpa using h2)
theorem Kk.flat {ts:List TypeId} {fl:List Bool} {vs:List Value} {xs:List AV} {rf hs:List Nat} (h:Kk P w ts fl vs xs rf hs) (h1:CJ P ts fl=false) (h2:XW P ts fl xs=true):rf= []:=by
 induction h with
 |nil=>rfl
 |cons hv _ ih=>simp only [CJ,Bool.or_eq_false_iff]at h1;simp only [XW,Ac]at h2;rw [hv.flat h1.1 h2.1,ih h1.2 h2.2];rfl
theorem IH.flat {ts:List TypeId} {fl:List Bool} {v:Value} {R:AV} {f o:List Nat} (h:IH P w ts fl v R f o) (h1:CJ P ts fl=false) (h2:TY P ts fl R=true):f= []:=by
 match ts,h,h1,h2 with
 | [t],h,h1,h2=>simp only [CJ,Bool.or_false]at h1;exact Fm.flat h h1 h2
 | [],h,h1,h2=>obtain⟨vs,ys,_,rfl,hv⟩:=h;exact hv.flat h1 h2
 |t::u::ts,h,h1,h2=>obtain⟨vs,ys,_,rfl,hv⟩:=h;exact hv.flat h1 h2
theorem CK.void {ety sz:Nat} {a:Option Addr} {x:AV} {top N:List Nat} (h:CK w ety sz (.slice a 0 0) x top N):N= []:=by
 obtain⟨xs,_,_,_,⟨_,_,_,h⟩|⟨g,cap,C,hv,h6,_,_,_,_,_,hr⟩⟩:=h
 ·exact h
 ·have h0:xs.length=0:=by injection hv with _ h _;exact h.symm
  have:xs= []:=by cases xs with|nil=>rfl|cons _ _=>simp at h0
  subst this;simp [AM]at hr;cases hr;rfl
theorem Fo.flat {c:Cx} {ts:List TypeId} {fl:List Bool} {us:List Value} {rs:List (Option RI)} (h:FB P c ts fl us rs): ∀{ys:List AV} {f o:List Nat},Fo P w ts fl us ys f o→rs.any RI.lent=false→f= []:=by
 induction h with
 |nil=>intro ys f o hm _;cases hm;rfl
 |row k1 k2 k23 _ _ _ _ ih=>
  intro ys f o hm hl;simp only [List.any_cons,Bool.or_eq_false_iff,RI.lent]at hl;cases hm with
  |own _ q2 q23 _ q4=>
   rw [k2]at q2;cases q2;rcases q23 with⟨_,rfl⟩|⟨q,_⟩
   ·exact ih q4 hl.2
   ·rw [q]at hl;simp at hl
  |deep _ _ _ _ _ q=>exact ih q hl.2
  |skip _ q=>exact ih q hl.2
 |deep k1 k2 k21 k22 _ _ _ _ _ ih=>
  intro ys f o hm hl;simp only [List.any_cons,Bool.or_eq_false_iff]at hl;cases hm with
  |own _ q2 q23 _ q4=>
   rw [k2]at q2;cases q2;rcases q23 with⟨_,rfl⟩|⟨_,q⟩
   ·exact ih q4 hl.2
   ·rw [q]at k22;cases k22
  |deep _ _ _ _ _ q=>exact ih q hl.2
  |skip _ q=>exact ih q hl.2
 |none hv _ ih=>
  intro ys f o hm hl;simp only [List.any_cons,Bool.or_eq_false_iff]at hl;cases hm with
  |own q1 q2 _ q3 q4=>
   rcases hv q1 with hh|⟨a,rfl⟩
   ·rw [hh]at q2;cases q2
   ·rw [CK.void q3];exact ih q4 hl.2
  |deep _ _ _ _ _ q=>exact ih q hl.2
  |skip _ q=>exact ih q hl.2
theorem Dk.flat {c:Cx} {ts:List TypeId} {ms:List PM} {vs:List Value} {bs:List PA} (h:Hs P c ts ms vs bs): ∀{Bs:List AV} {f o:List Nat},Dk P w ts ms vs Bs f o→Di P bs=false→G8 P ts ms Bs=true→f= []:=by
 induction h with
 |nil=>intro Bs f o hb _ _;cases hb;rfl
 | @ro ts ms v vs bs hm _ ih=>
  intro Bs f o hb h1 h2;cases hb with
  |nil=>rfl
  |ro _ h8=>simp only [G8,hm]at h2;exact ih h8 h1 h2
  |va h9 _=>rw [hm]at h9;cases h9
  |mu h9 _ _ _=>rw [hm]at h9;cases h9
  |bx h9 _ _ _ _ _ _ _=>rw [hm]at h9;cases h9
 | @va ts ms own v vs bs us hm _ _ ih=>
  intro Bs f o hb h1 h2;cases hb with
  |nil=>rfl
  |ro h9 _=>rw [hm]at h9;cases h9
  |va _ h8=>simp only [G8,hm]at h2;exact ih h8 h1 h2
  |mu h9 _ _ _=>rw [hm]at h9;cases h9
  |bx h9 _ _ _ _ _ _ _=>rw [hm]at h9;cases h9
 | @mu t ts ms own v vs bs us rs hm JC En _ ih=>
  intro Bs f o hb h1 h2;cases hb with
  |ro h9 _=>rw [hm]at h9;cases h9
  |va h9 _=>rw [hm]at h9;cases h9
  | @mu _ _ _ own2 _ _ us2 ys y Bs f1 f o1 o h9 hg P4 h8=>
   rw [hm]at h9;cases h9;simp only [G8,hm]at h2;simp only [Di,Bool.or_eq_false_iff]at h1;have L5:us2=us:=by
    split at JC
    ·rename_i Au;rw [if_pos Au]at hg;obtain⟨rfl,_⟩:=hg;exact mM JC
    ·rename_i Au;rw [if_neg Au]at hg;rw [hg.1,JC]
   subst L5;rw [Fo.flat En P4 h1.1,ih h8 h1.2 h2];rfl
  |bx h9 _ _ _ _ _ _ _=>rw [hm]at h9;cases h9
 | @bx t ts ms own own' ty v vs bs T b g olds hm Dw _ _ _ _ _ ih=>
  intro Bs f o hb h1 h2;cases hb with
  |ro h9 _=>rw [hm]at h9;cases h9
  |va h9 _=>rw [hm]at h9;cases h9
  |mu h9 _ _ _=>rw [hm]at h9;cases h9
  |bx h9 H0 _ _ _ hy hc h8=>rw [hm]at h9;cases h9;rw [Dw]at H0;cases H0;simp only [G8,hm,Dw,Ac,hy,List.tail_cons]at h2;simp only [Di,Bool.or_eq_false_iff]at h1;rw [hc.flat h1.1 h2.1,ih h8 h1.2 h2.2];rfl
theorem dC {ts:List TypeId} {ms:List PM} {vs:List Value} {Bs:List AV} {f o:List Nat} (h:Dk P w ts ms vs Bs f o):Bs= []↔Bh ts ms=false:=by
 induction h with
 |nil=>simp [Bh]
 |ro hm _ ih=>simp only [Bh,hm,Bool.false_or];exact ih
 |va hm _ ih=>simp only [Bh,hm,Bool.false_or];exact ih
 |mu hm _ _ _ _=>simp only [Bh,hm,Bool.true_or];simp
 |bx hm _ _ _ _ _ _ _ _=>simp only [Bh,hm,Bool.true_or];simp
end
section
variable {P:Program} {c:Cx} {n nx:Nat} {sl sl0:Nat→SV} {hp hp0:Nat→Option Ad} {a:Act} {o:Oper} {gs:Gd} {e:AP} {sg:BB} {nv:Nat}
theorem nY {xs:List Operand}: ∀{ss:List SV},(∀x∈xs,∀s,Bm sl0 gs x=some s→SR c [s] [a.eval x])→xs.mapM (Bm sl0 gs)=some ss→SR c ss (xs.map a.eval):=by
 induction xs with
 |nil=>intro ss _ h;simp at h;subst h;exact .nil
 |cons x xs ih=>intro ss hx h;rw [List.mapM_cons]at h;simp only [Option.bind_eq_bind,Ao,Option.pure_def,Ab]at h;obtain⟨s,hs,ss',E8,rfl⟩:=h;exact(hx x (by simp) s hs).cons (ih (fun y hy=>hx y (by simp [hy])) E8)
theorem OD: ∀{l:List Nat},Kb l=true→l.Nodup
 | [],_=>by simp
 |x::l,h=>by simp only [Kb,Ac,Bool.not_eq_true',List.contains_eq_mem,decide_eq_false_iff_not]at h;exact List.nodup_cons.2 ⟨h.1,OD h.2⟩
theorem zyt {c1:Cx} {w':World} {recs:List AD} {hs f o:List Nat} (gw:GW c) (hg: ∀t,(c1.G t).top=(c.G t).top∨(c1.G t).top= []) (hA:c1.A=c.A) (X4:c1.Mu=c.Mu) (TN:c1.w0=c.w0) (hB:c.w0.heap.size≤c.w.heap.size)
  (hn:(recs.map AD.tag).Nodup) (B4: ∀r∈recs,∀b∈r.top,b∈o) (FQ: ∀b∈hs,∃r∈recs,b∈(c.G r.tag).top) {rf:List Nat} (KH: ∀b∈rf,c1.ok b) (hf: ∀b∈f,b∉o∧(b∈rf∨b∈hs∨c.w.heap.size≤b)): ∀b∈f,(c1.ed w' recs).ok b:=by
 intro b hb;obtain⟨h1,h2⟩:=hf b hb;have hM:(c1.ed w' recs).M b→ ∃t,(∀r∈recs,r.tag≠t)∧b∈(c1.G t).top:=by
  rintro⟨t,ht⟩;by_cases hT: ∃r∈recs,r.tag=t
  ·obtain⟨r,hr,rfl⟩:=hT;rw [Cx.en hn hr]at ht;exact absurd (B4 r hr b ht) h1
  ·rw [Cx.dm fun r hr hh=>hT ⟨r,hr,hh⟩]at ht;exact⟨t,fun r hr hh=>hT ⟨r,hr,hh⟩,ht⟩
 have sub: ∀t,b∈(c1.G t).top→b∈(c.G t).top:=fun t ht=>by
  rcases hg t with hh|hh
  ·rw [←hh];exact ht
  ·rw [hh]at ht;simp at ht
 rcases h2 with h2|h2|h2
 ·refine⟨fun hm=> ?_,(KH b h2).2⟩;obtain⟨t,_,ht⟩:=hM hm;exact(KH b h2).1 ⟨t,ht⟩
 ·obtain⟨r,hr,Tz⟩:=FQ b h2;refine⟨fun hm=> ?_, .inr ?_⟩
  ·obtain⟨t,Dv,ht⟩:=hM hm;exact gw.c7 r.tag t (Dv r hr) b (by simp [GI.own,Tz]) (by simp [GI.own,sub t ht])
  ·have:=gw.allow r.tag b (by simp [GI.own,Tz]);simp only [Cx.ed,Cx.B,TN,X4]at this ⊢;exact this
 ·refine⟨fun hm=> ?_, .inr (.inl ?_)⟩
  ·obtain⟨t,_,ht⟩:=hM hm;have:=gw.inb t b (by simp [GI.own,sub t ht]);omega
  ·simp only [Cx.ed,Cx.B,TN];omega
theorem zzK (h:A6 P c n nx sl hp a sl0 hp0 o gs) {cl:Call} {fo:Operand} (ho:o.op= .call cl) (AA:cl.callee= .value fo) {g:Nat} {caps:Bb} (hf:Bm sl0 gs fo=some (.fn g caps)) {as_:List SV} (has:cl.args.toList.mapM (Bm sl0 gs)=some as_)
  (hg:g<1000000) (he:SL P sg hp0 gs nv nx g (as_++caps.toList)=some e) (AX: ∀c',e.call=some c'→ ∃r,c.ρ[nv]?=some r∧G6 (CY P sg) c'.fn ((EL.of c'.args).den c.ρ) c.ρ r):As P o c n nx sl hp gs a e:=by
 have YT:fo∈o.op.operands:=by simp [ho,Op.operands,Call.operands,AA]
 have YS: ∀x∈cl.args.toList,x∈o.op.operands:=fun x hx=>by
  have:x∈cl.args:=by simpa using hx
  simp [ho,Op.operands,Call.operands,AA,this]
 have KH:=h.de hf YT;generalize Yw:a.eval fo=fv at KH;cases KH with
 |fn PF h8=>
 rename_i capv;have Az:=(nY (a:=a) (fun x hx s hs=>h.de hs (YS x hx)) has).app PF;unfold SL at he;split at he
 ·rename_i fn s GK H3;split at he
  ·cases he
  rename_i hlen;simp only [Bool.or_eq_true,not_or,Bool.not_eq_true,bne_eq_false_iff_eq]at hlen;split at he
  ·cases he
  rename_i es bs us uz AR;split at he
  ·cases he
  rename_i BW;simp only [Bool.or_eq_true,Bool.not_eq_true',not_or,Bool.not_eq_false,Bool.not_eq_true]at BW;obtain⟨⟨Y0,P8⟩,P9⟩:=BW;have Qa:=OD Y0;have FH: ∀u∈us,u∉CS bs:=fun u hu hh=>by rw [List.any_eq_false]at P8;have:=P8 u hu;simp only [List.contains_eq_mem,decide_eq_true_eq]at this;exact this hh
  have Jm: ∀u∈uz,u∉CS bs:=fun u hu hh=>by rw [List.any_eq_false]at P9;have:=P9 u hu;simp only [List.contains_eq_mem,decide_eq_true_eq]at this;exact this hh
  simp only at he;split at he
  ·cases he
  rename_i B3;simp only [Nat.not_le]at B3;split at he
  ·cases he
  rename_i HX;split at he
  ·cases he
  rename_i fz FO;have hK: ∀t g,c.K t g→c.U t:=h.rel.cg;obtain⟨rf,lf,hs,q1,q2,qz,q3,q4,q5,q6⟩:=n6 (P:=P) h.rel.base h.eh h.gs hK (as_++caps.toList) AR Az (by rw [hlen.1.2,AG,Array.length_toList];have:=hlen.2;simp only [decide_eq_false_iff_not,Nat.not_lt]at this;omega);obtain⟨fts,F9,PS⟩: ∃fts,CW hp0 gs fts=some fz∧ ∀t∈fts,t∈us:=by
   split at FO
   ·exact⟨us,FO,fun t ht=>ht⟩
   ·simp only [Ab]at FO;subst FO;exact⟨[],rfl,by simp⟩
  have CF:=h.rel.freeze h.hp h.gs F9;have Ks: ∀t∈fz.map (·.1),t∈us:=fun t ht=>by obtain⟨⟨t',e'⟩,hm,rfl⟩:=List.mem_map.1 ht;exact PS _ ((Mp h.gs F9).1 t' e' hm).1
  have Pr: ∀t,((c.cc (fz.map (·.1))).G t).top=(c.G t).top∨((c.cc (fz.map (·.1))).G t).top= []:=fun t=>by
   simp only [Cx.cc];split
   ·exact .inr rfl
   ·exact .inl rfl
  have rF: ∀t∈CS bs,(c.cc (fz.map (·.1))).G t=c.G t:=fun t ht=>by simp only [Cx.cc];rw [if_neg];intro hh;exact FH t (Ks t hh) ht
  have gV: ∀t∈CS bs,(c.cc (fz.map (·.1))).E t=c.E t:=fun t ht=>by simp only [Cx.cc];rw [if_neg];intro hh;exact FH t (Ks t hh) ht
  have Zh:hs.Nodup:=by
   rw [q3];have: ∀l:List Nat,l.Nodup→(l.flatMap fun t=>(c.G t).top).Nodup:=by
    intro l
    induction l with
    |nil=>intro _;simp
    |cons t l ih=>intro hl;rw [List.nodup_cons]at hl;rw [List.flatMap_cons,List.nodup_append];refine⟨(List.nodup_append.1 (h.rel.gw.nodup t)).1,ih hl.2,fun x hx y hy Fc=> ?_⟩;subst Fc;obtain⟨u,hu,Zt⟩:=List.mem_flatMap.1 hy;exact h.rel.gw.c7 t u (fun hh=>hl.1 (hh▸hu)) x (by simp [GI.own,hx]) (by simp [GI.own,Zt])
   exact this _ Qa
  have HT: ∀b∈hs,∃t∈CS bs,b∈(c.G t).top:=fun b hb=>by rw [q3]at hb;exact List.mem_flatMap.1 hb
  have EV: ∀b∈hs,b∉rf:=fun b hb hr=>by
   obtain⟨t,ht,B9⟩:=HT b hb;rcases q2 b hr with hh|⟨u,hu,GH⟩
   ·exact hh.1 ⟨t,B9⟩
   ·exact h.rel.gw.c7 t u (fun hh=>FH u hu (hh▸ht)) b (by simp [GI.own,B9]) (by simp [GI.own,GH])
  have HN: ∀b∈hs,b∉lf:=fun b hb hr=>by
   obtain⟨t,ht,B9⟩:=HT b hb;rcases qz b hr with(hh|⟨u,hu,GH⟩)|⟨h1,h2⟩
   ·exact hh.1 ⟨t,B9⟩
   ·exact h.rel.gw.c7 t u (fun hh=>Jm u hu (hh▸ht)) b (by simp [GI.own,B9]) (by simp [GI.own,GH])
   ·rcases h.rel.gw.allow t b (by simp [GI.own,B9])with k|k
    ·have:c.w0.heap.size≤b:=k;omega
    ·exact h2 k
  have Ek: ∃(val:SV) (l:List (Nat × Ad)),e={call:=some ⟨.inl g,es⟩,val:=val,bt:=fz++(Tb gs l++after P nv (nx+(fn.resultTypes.toList.flatMap (AZ P)).length) bs 0)}∧
    ∀(R:AV) (w':World) (v:Value) (f1 o1:List Nat),IH P w' fn.resultTypes.toList s.res v R f1 o1→(if Hc bs=0 then E.var nv else .proj (.var nv) 0).den c.ρ=R→ ∃recs:List AD,l=recs.map AD.pair∧recs.flatMap AD.top=o1∧(∀r∈recs,nx≤r.tag∧r.tag<nx+(fn.resultTypes.toList.flatMap (AZ P)).length∧r.new.isSome)∧(recs.map AD.tag).Nodup∧
     (∀r∈recs,∀hs f,r.bt≠ .gd hs f)∧ ∀c',D7 c c' w' recs→(∀b∈f1,c'.ok b)→SR c' [val] [v]∧ ∀r∈recs,CD c' r.tag r.bt:=by
   have BE: ∀{l:List (Nat × Ad)} {recs:List AD},l=recs.map AD.pair→(∀t x,(t,x)∈l→ ∀hs f,x≠ .gd hs f)→ ∀r∈recs,∀hs f,r.bt≠ .gd hs f:=by rintro l recs rfl hh r hr;exact hh r.tag r.bt (List.mem_map.2 ⟨r,hr,rfl⟩)
   have fvne: ∀(t:TypeId) (k:Nat) (fl:List Bool) (x:E) (u:Nat) (y:Ad),(u,y)∈(Mw P k t fl x).2→ ∀hs f,y≠ .gd hs f:=by
    intro t k fl x u y hy hs f;unfold Mw at hy;split at hy
    ·exact Mn _ _ _ _ _ hy
    ·simp at hy
   split at he
   ·rename_i t Qt;simp only [Ab]at he;subst he;refine⟨_,_,rfl,fun R w' v f1 o1 hr hR=> ?_⟩;rw [Qt]at hr;obtain⟨recs,e1,e2,e3,e4,e5⟩:=lQ (c:=c) (nx:=nx) (x:=if Hc bs=0 then E.var nv else .proj (.var nv) 0) (show Fm P w' t s.res v R f1 o1 from hr) hR;exact⟨recs,e1,e2,by simpa [Qt]using e3,e4,BE e1 (fvne _ _ _ _),e5⟩
   ·rename_i Qt;simp only [Ab]at he;subst he;refine⟨_,_,rfl,fun R w' v f1 o1 hr hR=> ?_⟩;obtain⟨vs,ys,rfl,rfl,hv⟩: ∃vs ys,v= .tuple vs.toArray∧R= .tup ys∧Kk P w' fn.resultTypes.toList s.res vs ys f1 o1:=by
     unfold IH at hr;split at hr
     ·rename_i t ht;exact absurd ht (Qt t)
     ·exact hr
    obtain⟨recs,e1,e2,e3,e4,e5⟩:=zrV (c:=c) (x:=if Hc bs=0 then E.var nv else .proj (.var nv) 0) hv nx 0 (fun k y hy=>by show AV.proj ((if Hc bs=0 then E.var nv else .proj (.var nv) 0).den c.ρ) (0+k)=y;rw [hR];simp [AV.proj,hy])
    have fvsne: ∀(ts:List TypeId) (k:Nat) (fl:List Bool) (x:E) (i u:Nat) (y:Ad),(u,y)∈(La P k ts fl x i).2→ ∀hs f,y≠ .gd hs f:=by
     intro ts
     induction ts with
     |nil=>intro k fl x i u y hy;simp [La]at hy
     |cons t ts ih=>
      intro k fl x i u y hy;simp only [La,Ag]at hy;rcases hy with hy|hy
      ·exact fvne _ _ _ _ _ _ hy
      ·exact ih _ _ _ _ _ _ hy
    exact⟨recs,e1,e2,e3,e4,BE e1 (fvsne _ _ _ _ _),fun c' ha AF=>⟨.tup (by rw [Bb.az];exact(e5 c' ha AF).1) .nil,(e5 c' ha AF).2⟩⟩
  obtain⟨val,l,rfl,L3⟩:=Ek;obtain⟨r,hr,AF⟩:=AX _ rfl;have L2: ∃s',sg g=some s'∧Pk P s' g ((EL.of es).den c.ρ) r:=by have AF:CY P sg g ((EL.of es).den c.ρ) r:=AF;unfold CY at AF;rwa [if_pos hg]at AF
  obtain⟨s',AY,fn',HR,Dh,E1,BG,_,_,Ez⟩:=L2;rw [H3]at AY;cases AY;rw [GK]at HR;cases HR;rw [EL.du]at Ez;have AX:=Ez c.w _ rf lf hs q1 EV HN Zh (h.rel.mq fun b hb=>by obtain⟨t,_,ht⟩:=HT b hb;exact⟨t,ht⟩);have ex:(execOp a.eval o).run P c.w= .ok (.enter g (cl.args.map a.eval++capv.toArray)) c.w:=by
   have hb:fn.body.isNone=false:=by simpa using Dh
   simp only [execOp,ho,resolve,AA,Yw,Deferred.ofValue,Sem.run_bind,Sem.run_pure,Result.andThen_ok,invoke,callFunc,run_program,GK];simp [E1,hb]
  intro next Q hk
  unfold Oper.wp;rw [ex,Oper.upon_enter];have Lx:cl.args.map a.eval++capv.toArray=((cl.args.toList.map a.eval)++capv).toArray:=by apply Array.ext';simp
  rw [Lx];refine AX.mono ?_;rintro e' w' ⟨v,rfl,⟨R,Bs,f1,o1,f2,o2,Jy,AO,Ej,FR,Qd,PQ⟩,C5⟩;show next (a.put o.dst v) w'
  have rD: ∀k y,Bs[k]?=some y→(E.proj (.var nv) (0+k+1)).den c.ρ=y:=by
   intro k y hy;cases Bs with
   |nil=>simp at hy
   |cons B Bs=>simp only [E.den,hr,Option.getD_some,Jy,AV.proj,Nat.zero_add,List.getElem?_cons_succ,hy]
  obtain⟨P7,recsB,hB⟩:=zx6 (w':=w') q4 hK (r:=nv) (nx+(fn.resultTypes.toList.flatMap (AZ P)).length) 0 Ej rD;have hR:(if Hc bs=0 then E.var nv else .proj (.var nv) 0).den c.ρ=R:=by
   cases Bs with
   |nil=>rw [if_pos (by simpa using P7.symm)];simp only [E.den,hr,Option.getD_some,Jy]
   |cons B Bs=>rw [if_neg (by rw [←P7];simp)];simp [E.den,hr,Jy,AV.proj]
  obtain⟨recsV,v1,v2,v3,v4,v5,v6⟩:=L3 R w' v f1 o1 AO hR;have E2: ∀t,nx≤t→t<nx+((fn.resultTypes.toList.flatMap (AZ P)).length+Jd P bs)→ ¬c.U t:=fun t h1 h2=>h.new t h1 (by omega);have Pq:=hB.nodup Qa fun t h1 h2=>E2 t (by omega) (by omega);have Cq:((recsV++recsB).map AD.tag).Nodup:=by
   rw [List.map_append,List.nodup_append];refine⟨v4,Pq,fun t1 h1 t2 h2 he=> ?_⟩;obtain⟨p1,Y5,rfl⟩:=List.mem_map.1 h1;obtain⟨p2,iR,rfl⟩:=List.mem_map.1 h2;have a1:=v3 p1 Y5;cases hn:p2.new with
   |none=>exact E2 p1.tag (by omega) (by omega) (he▸(hB.old p2 iR hn).2)
   |some _=>have:=hB.new p2 iR (by simp [hn]);omega
  have Ge: ∀r∈recsV++recsB,r.new.isSome=true→nx≤r.tag∧r.tag<nx+((fn.resultTypes.toList.flatMap (AZ P)).length+Jd P bs):=fun r hr hn=>by
   rcases Ag.1 hr with hr|hr
   ·have:=v3 r hr;omega
   ·have:=hB.new r hr hn;omega
  have DU:((recsV++recsB).flatMap AD.top).Sublist (o1++o2):=by rw [List.flatMap_append,v2];exact(List.Sublist.refl _).append hB.l5
  have YD: ∀b∈hs,∃r∈recsV++recsB,b∈(c.G r.tag).top:=fun b hb=>by obtain⟨t,ht,B9⟩:=HT b hb;obtain⟨r,hr,rfl⟩:=hB.all t ht;exact⟨r,by simp [hr],B9⟩
  have PX: ∀b∈hs,∃r∈recsV++recsB,b∈((c.cc (fz.map (·.1))).G r.tag).top:=fun b hb=>by obtain⟨t,ht,B9⟩:=HT b hb;obtain⟨r,hr,rfl⟩:=hB.all t ht;exact⟨r,by simp [hr],by rw [rF _ ht];exact B9⟩
  have H5: ∀r∈recsV++recsB,∀b∈r.top,b∈o1++o2:=fun r hr b hb=>DU.subset (List.mem_flatMap.2 ⟨r,hr,hb⟩);have LX: ∀b∈f1++f2,((c.cc (fz.map (·.1))).ed w' (recsV++recsB)).ok b:=by
   cases TM:(CJ P fn.resultTypes.toList s.res||Di P bs)with
   |false=>
    simp only [Bool.or_eq_false_iff]at TM;have Fq:TY P fn.resultTypes.toList s.res R=true∧G8 P (fn.params.toList++s.ft) s.dc Bs=true:=by
     unfold OS at BG;cases Lu:Bs with
     |nil=>
      rw [if_neg (by rw [(dC Ej).1 Lu];simp)]at BG;rw [Lu]at Jy;rw [Jy]at BG;refine⟨BG, ?_⟩;have: ∀(ts:List TypeId) (ms:List PM),G8 P ts ms []=true:=by
       intro ts
       induction ts with
       |nil=>intro ms;rfl
       |cons t ts ih=>
        intro ms;unfold G8;split
        ·exact ih _
        ·exact ih _
        ·exact ih _
        ·split
         ·rename_i hh;cases hh
         ·simpa using ih _
      exact this _ _
     |cons B Bs'=>
      rw [if_pos (by
       cases hh:Bh (fn.params.toList++s.ft) s.dc with
       |true=>rfl
       |false=>rw [(dC Ej).2 hh]at Lu;cases Lu)]at BG
      rw [Jy,Lu]at BG;simpa using BG
    have e1:f1= []:=AO.flat TM.1 Fq.1;have e2:f2= []:=Dk.flat q4 Ej TM.2 Fq.2;subst e1;subst e2;simp
   |true=>rw [TM]at HX FO;simp only [Bool.true_and,Bool.not_eq_true',Bool.not_eq_false]at HX;simp only [if_true]at FO;exact zyt (rf:=rf) h.rel.gw Pr rfl rfl rfl h.rel.base.size Cq H5 YD (fun b hb=>RY h.rel h.eh h.gs FO (by simpa using HX) (q2 b hb)) PQ
  have PN:after P nv (nx+(fn.resultTypes.toList.flatMap (AZ P)).length) bs 0=recsB.map fun r=>(r.tag,Co gs r.bt):=by
   cases PC:bs with
   |nil=>
    have:=hB.ents;rw [PC]at this;simp only [after]at this;have:recsB= []:=by simpa using this.symm
    rw [this];rfl
   |cons b bs'=>have D9:=q6 (by rw [PC];simp);rw [←PC,hB.ents,D9];rfl
  have A8:Tb gs l++after P nv (nx+(fn.resultTypes.toList.flatMap (AZ P)).length) bs 0=(recsV++recsB).map fun r=>(r.tag,Co gs r.bt):=by rw [PN,List.map_append];congr 1;rw [v1];simp [Tb,AD.pair]
  obtain⟨El,Bw⟩:=CF.changes (w':=w') (recs:=recsV++recsB) (hs:=hs) (gs:=gs) h.gs C5 Cq (fun r hr hn=>by have:=Ge r hr hn;exact E2 _ this.1 this.2) PX (DU.nodup FR) (fun r hr b hb=>Qd b (H5 r hr b hb))
   (fun r hr=>by
    rcases Ag.1 hr with hr|hr
    ·exact v5 r hr
    ·exact hB.ne r hr)
   (fun _ r hr=>by
    have aft:=Cx.eg (c:=c.cc (fz.map (·.1))) (w':=w') (recs:=recsV++recsB) h.rel.cg Cq (fun r hr hn=>by have:=Ge r hr hn;exact E2 _ this.1 this.2);have aft':D7 c ((c.cc (fz.map (·.1))).ed w' (recsV++recsB)) w' (recsV++recsB):=⟨aft.ρ,aft.w,aft.G,aft.new,aft.K,aft.old,aft.j8,fun r hr DP=>(aft.im r hr DP).trans (by
     rcases Ag.1 hr with hr|hr
     ·have:=(v3 r hr).2.2;rw [DP]at this;cases this
     ·rw [gV _ (hB.old r hr DP).1])⟩
    rcases Ag.1 hr with hr|hr
    ·exact(v6 _ (aft'.mono fun r hr=>by simp [hr]) fun b hb=>LX b (by simp [hb])).2 r hr
    ·exact hB.ok _ (aft'.mono fun r hr=>by simp [hr]) (fun b hb=>LX b (by simp [hb])) r hr)
  have aft:=Cx.eg (c:=c.cc (fz.map (·.1))) (w':=w') (recs:=recsV++recsB) h.rel.cg Cq (fun r hr hn=>by have:=Ge r hr hn;exact E2 _ this.1 this.2);have aft':D7 c ((c.cc (fz.map (·.1))).ed w' (recsV++recsB)) w' (recsV++recsB):=⟨aft.ρ,aft.w,aft.G,aft.new,aft.K,aft.old,aft.j8,fun r hr DP=>(aft.im r hr DP).trans (by
     rcases Ag.1 hr with hr|hr
     ·have:=(v3 r hr).2.2;rw [DP]at this;cases this
     ·rw [gV _ (hB.old r hr DP).1])⟩
  have JF:=(v6 _ (aft'.mono fun r hr=>by simp [hr]) fun b hb=>LX b (by simp [hb])).1;rw [←A8,←My]at El;refine hk _ ((c.cc (fz.map (·.1))).ed w' (recsV++recsB)) ⟨rfl,rfl,rfl,rfl,fun t ht=> ?_⟩ (El.put (JF.mkGd gs h.gs) o.dst);rcases ht with ht|⟨r,hr,rfl⟩
  ·exact .inl ht
  ·cases hn:r.new with
   |none=>
    rcases Ag.1 hr with hr|hr
    ·have:=(v3 r hr).2.2;rw [hn]at this;cases this
    ·exact .inl (hB.old r hr hn).2
   |some _=>have:=Ge r hr (by simp [hn]);exact .inr ⟨this.1,by simp only [Bj];omega⟩
 ·cases he
end
def BL (c:Cx) (us:List Nat):List Nat:=us.flatMap fun t=>(c.G t).top
theorem dV (c:Cx):BL c []= []:=rfl
theorem W7 (c:Cx) (u:Nat) (us:List Nat):BL c (u::us)=(c.G u).top++BL c us:=by simp [BL]
theorem Ie (c:Cx) (us vs:List Nat):BL c (us++vs)=BL c us++BL c vs:=by simp [BL]
theorem OA {c:Cx} {us:List Nat} {b:Nat}:b∈BL c us↔ ∃t∈us,b∈(c.G t).top:=by simp [BL]
theorem WO {c:Cx} (gw:GW c): ∀{l:List Nat},l.Nodup→(BL c l).Nodup
 | [],_=>by simp [BL]
 |t::l,hl=>by
  rw [W7,List.nodup_append];rw [List.nodup_cons]at hl;refine⟨?_,WO gw hl.2,fun a ha b hb Jl=> ?_⟩
  ·have:=gw.nodup t;simp only [GI.own]at this;exact(List.nodup_append.1 this).1
  ·subst Jl;obtain⟨u,hu,GH⟩:=OA.1 hb;exact gw.c7 t u (fun hh=>hl.1 (hh▸hu)) a (by simp [GI.own,ha]) (by simp [GI.own,GH])
section
variable {P:Program} {c:Cx} {hp:Nat→Option Ad} {gs:Gd}
theorem eL {m:Nat} {u g:Nat} {x y:E} (hx:A5 hp gs m (.own u g)=some x) (hy:GY hp gs u g=some y):x=y:=by
 cases m with
 |zero=>simp [A5]at hx
 |succ m=>simp only [A5,hy,Ab]at hx;exact hx.symm
theorem oV {m:Nat} {x:E} (h:A5 hp gs m .emp=some x):x= .lst .nil:=by
 cases m with
 |zero=>simp [A5]at h
 |succ m=>simp [A5]at h;exact h.symm
theorem zvY (eh:EH c hp) (k:A1 c.ρ gs) {d:DT} {s:SV} {us:List Nat} {ck:List Cn} {v:Value} {x:E} {m:Nat} (h:gH hp gs d s=some (us,ck)) (hs:SR c [s] [v]) (hx:A5 hp gs m s=some x) (hc: ∀q∈ck,q.den c.ρ):
  DC c.w [d] [v] [x.den c.ρ] (BL c us)∧ ∀u∈us,∃g,c.K u g:=by
 unfold gH at h;split at h
 ·rename_i y;simp only [Ab,Prod.mk.injEq]at h;obtain⟨rfl,rfl⟩:=h;rw [Jb hx];cases hs with
  |e h1 h2 h3=>
   rename_i f;have Ec:(y.den c.ρ).scalar=true:=by
    cases hl:QF y with
    |true=>cases y<;>simp [QF]at hl<;>rfl
    |false=>rw [hl]at hc;exact(BD hc).2.2.2 rfl
   have hf:f= []:=Gu h1 (by simpa using Ec);subst hf;exact⟨.flat h1 .nil,by simp⟩
 ·split at h
  ·rename_i hh;simp only [Ab,Prod.mk.injEq]at h;obtain⟨rfl,rfl⟩:=h;rw [JS hx];cases hs with
   |cr _=>exact⟨.void hh.1 hh.2 .nil,by simp⟩
  ·cases h
 ·split at h
  ·rename_i hh;simp only [Ab,Prod.mk.injEq]at h;obtain⟨rfl,rfl⟩:=h;rw [oV hx];cases hs with
   |emp _=>exact⟨.void hh.1 hh.2 .nil,by simp⟩
  ·cases h
 ·rename_i e z l u g;split at h
  ·rename_i e' z' l' g' ep y hl;split at h
   ·rename_i hh;obtain⟨rfl,rfl,rfl,hb⟩:=hh;simp only [Ab,Prod.mk.injEq]at h;obtain⟨rfl,rfl⟩:=h;obtain⟨q1,q2,q3,q4,q5⟩:=eh u _ (Cu hl k);rw [eL (y:=y) hx (by simp only [GY,hl,if_true])];have hb:=AJ.of_eq hb;subst hb;rw [AJ.dd]at q4;cases hs with
    |own k1 k2 _=>rw [k2]at q4;exact⟨by rw [W7,dV,List.append_nil];exact q4,fun w hw=>by simp at hw;subst hw;exact⟨_,k1⟩⟩
   ·cases h
  ·rename_i e' z' g' y hl;split at h
   ·rename_i hh;obtain⟨rfl,rfl,rfl,hf,hlen⟩:=hh;simp only [Ab,Prod.mk.injEq]at h;obtain⟨rfl,rfl⟩:=h;obtain⟨q1,q2,N,q4,q5,q6,q7⟩:=eh u _ (Cu hl k);obtain⟨hN,_⟩:=q6 rfl;have hN:N= []:=hN;subst hN;rw [eL (y:=y) hx (by simp only [GY,hl,if_true])];cases hs with
    |own k1 k2 _=>rw [k2]at q4;exact⟨by rw [W7,dV,List.append_nil];exact DC.kx q4 hf hlen,fun w hw=>by simp at hw;subst hw;exact⟨_,k1⟩⟩
   ·cases h
  ·cases h
 ·cases h
theorem dG (eh:EH c hp) (k:A1 c.ρ gs): ∀(ds:List DT) {ss:List SV} {us:List Nat} {ck:List Cn} {vs:List Value} {xs:EL} {m:Nat},Lg hp gs ds ss=some (us,ck)→SR c ss vs→BZ hp gs m ss=some xs→(∀q∈ck,q.den c.ρ)→
  DC c.w ds vs (xs.den c.ρ) (BL c us)∧ ∀u∈us,∃g,c.K u g
 | [], [],us,ck,vs,xs,m,h,hs,hx,hc=>by
  simp [Lg]at h;obtain⟨rfl,rfl⟩:=h;cases hs;cases m with
  |zero=>simp [BZ]at hx
  |succ m=>simp [BZ]at hx;subst hx;exact⟨.nil,by simp⟩
 | [],_::_,us,ck,vs,xs,m,h,hs,hx,hc=>by simp [Lg]at h
 |_::_, [],us,ck,vs,xs,m,h,hs,hx,hc=>by simp [Lg]at h
 |d::ds,s::ss,us,ck, [],xs,m,h,hs,hx,hc=>by have:=hs.len;simp at this
 |d::ds,s::ss,us,ck,v::vs,xs,m,h,hs,hx,hc=>by
  obtain⟨j,y,ys,rfl,hy,CN,rfl⟩:=IV hx;obtain⟨r1,r2⟩:=hs.cv;unfold Lg at h;split at h
  ·rename_i us1 ck1 us2 ck2 h1 h2;simp only [Ab,Prod.mk.injEq]at h;obtain⟨rfl,rfl⟩:=h;obtain⟨q1,q2⟩:=zvY eh k h1 r1 hy fun q hq=>hc q (by simp [hq]);obtain⟨q3,q4⟩:=dG eh k ds h2 r2 CN fun q hq=>hc q (by simp [hq]);refine⟨by rw [Ie];exact q1.app q3,fun u hu=> ?_⟩;rcases Ag.1 hu with hu|hu
   ·exact q2 u hu
   ·exact q4 u hu
  ·cases h
theorem mT (eh:EH c hp) (k:A1 c.ρ gs) {t:TypeId} {ds:List DT} {s:SV} {us:List Nat} {ck:List Cn} {v:Value} {x:E} (FJ:ds.length=P.cellsOf t) (hg:Ak P t=true∨P.cellsOf t=1) (h:O0 P hp gs t ds s=some (x,us,ck)) (hs:SR c [s] [v]) (hc: ∀q∈ck,q.den c.ρ):
  DC c.w ds v.cells.toList (x.den c.ρ).cells (BL c us)∧(∀u∈v.cells.toList,u.oneCell'=true)∧(x.den c.ρ).cells.length=P.cellsOf t∧v.cells.size=P.cellsOf t∧
   (if Ak P t then∃cs,x.den c.ρ= .agg cs else(∀cs,x.den c.ρ≠ .agg cs)∧ ∀cs,x.den c.ρ≠ .tup cs)∧ ∀u∈us,∃g,c.K u g:=by
 unfold O0 at h;split at h
 ·cases h
 rename_i y hy;split at h
 ·rename_i Fq;simp only [Ab,Prod.mk.injEq]at h;obtain⟨rfl,rfl,rfl⟩:=h;obtain⟨f,q1,q2⟩:=Gt eh k AN hy hs AN (Nat.le_refl _);obtain⟨c1,c2,c3,c4⟩:=BD hc;have Ek:if Ak P t then∃cs,y.den c.ρ= .agg cs∧cs.length=P.cellsOf t else(∀cs,y.den c.ρ≠ .agg cs)∧ ∀cs,y.den c.ρ≠ .tup cs:=by
   split
   ·rename_i Au;obtain⟨cs,Bp⟩:=c3 Au;exact⟨cs,Bp,by rw [Bp]at c1;exact c1⟩
   ·rename_i Au;have:=c4 (by simpa using Au);exact⟨fun cs Bp=>by rw [Bp]at this;simp [AV.scalar]at this,fun cs Bp=>by rw [Bp]at this;simp [AV.scalar]at this⟩
  have hf:f= []:=by
   cases iL:Ak P t with
   |true=>obtain⟨cs,Bp⟩:=c3 iL;obtain⟨as_,rfl,_,r⟩:=Iq q1 Bp;exact Gu r (by rw [Bp]at c2;exact c2)
   |false=>exact Gu q1 (by simpa using c4 iL)
  subst hf;obtain⟨o1,o2,o3,o4⟩:=eE (P:=P) q1 hg Ek;refine⟨DC.l8 o1 Fq (by rw [FJ];simpa using o4.symm),o2,o3,o4, ?_,by simp⟩;split at Ek
  ·rename_i Au;rw [if_pos Au];obtain⟨cs,Bp,_⟩:=Ek;exact⟨cs,Bp⟩
  ·rename_i Au;rw [if_neg Au];exact Ek
 ·rename_i E3;split at h
  ·cases h
  rename_i Au;have Au:(Gs s).2=Ak P t:=by simpa using Au
  obtain⟨⟨us',ck'⟩,hr,h⟩:=An.1 h;simp only [Prod.mk.injEq]at h;obtain⟨rfl,rfl,rfl⟩:=h;have single:Ak P t=false→Lg hp gs ds [s]=some (us',ck')→DC c.w ds v.cells.toList (y.den c.ρ).cells (BL c us')∧(∀u∈v.cells.toList,u.oneCell'=true)∧(y.den c.ρ).cells.length=P.cellsOf t∧v.cells.size=P.cellsOf t∧
   (if Ak P t then∃cs,y.den c.ρ= .agg cs else(∀cs,y.den c.ρ≠ .agg cs)∧ ∀cs,y.den c.ρ≠ .tup cs)∧ ∀u∈us',∃g,c.K u g:=by
   intro Au hr;have Bc:BZ hp gs (AN+1) [s]=some (.cons y .nil):=by unfold BZ;rw [hy];rfl
   obtain⟨q1,q2⟩:=dG eh k ds hr hs Bc hc;have iI:=q1.len;simp only [EL.den,AL,List.length_nil]at iI
   match ds,iI,q1,E3,FJ with
   | [d],_,q1,E3,FJ=>
    cases d with
    |flat=>simp [DT.cd]at E3
    |row e z l=>
     obtain⟨p,q,r,rfl⟩:=q1.head;obtain⟨xs,Ce⟩: ∃xs,y.den c.ρ= .sl xs:=by
      obtain⟨_,_,⟨_,_,hx,_⟩|⟨_,_,_,_,_,_,hx,_⟩⟩:=q1.inv
      ·exact⟨_,hx⟩
      ·exact⟨_,hx⟩
     rw [if_neg (by rw [Au];simp)];refine⟨?_,by simp [Value.cells,Value.oneCell'],by rw [Ce,←FJ];rfl,by rw [←FJ];rfl, ?_,q2⟩
     ·simp only [EL.den]at q1;rw [Ce]at q1 ⊢;exact q1
     ·rw [Ce];exact⟨fun cs hh=>(by cases hh),fun cs hh=>(by cases hh)⟩
  cases s with
  |agg cs=>
   simp only [Gs]at Au hr;obtain⟨m,l,hm,hl,rfl⟩:=Sr hy;cases hs with
   |agg h9 h1 h8=>rename_i as_;obtain⟨q1,q2⟩:=dG eh k ds hr h1 hl hc;obtain⟨l1,l2⟩:=q1.len;rw [if_pos Au.symm];exact⟨by simpa [Value.cells,AV.cells,E.den]using q1,by simpa [Value.cells]using h9,by simp only [E.den,AV.cells];omega,by simp [Value.cells];omega,⟨_,rfl⟩,q2⟩
  |_=>exact single Au.symm hr
theorem lW (eh:EH c hp) (k:A1 c.ρ gs) {t:TypeId} {ds:List DT} (FJ:ds.length=P.cellsOf t) (hg:Ak P t=true∨P.cellsOf t=1): ∀(ss:List SV) (vs:List Value) {xs:List E} {us:List Nat} {ck:List Cn},SR c ss vs→Ss P hp gs t ds ss=some (xs,us,ck)→(∀q∈ck,q.den c.ρ)→
  DC c.w (CE vs.length ds) (vs.flatMap fun v=>v.cells.toList) (AM (xs.map (E.den c.ρ))) (BL c us)∧(∀v∈vs,v.cells.size=P.cellsOf t∧ ∀u∈v.cells.toList,u.oneCell'=true)∧(∀x∈xs,(x.den c.ρ).cells.length=P.cellsOf t)∧xs.length=vs.length∧ ∀u∈us,∃g,c.K u g
 | [],vs,xs,us,ck,hr,ht,hc=>by simp [Ss]at ht;obtain⟨rfl,rfl,rfl⟩:=ht;cases hr;exact⟨by simpa [AM,CE,BL]using DC.nil,by simp,by simp,rfl,by simp⟩
 |s::ss, [],xs,us,ck,hr,ht,hc=>by have:=hr.len;simp at this
 |s::ss,v::vs,xs,us,ck,hr,ht,hc=>by
  obtain⟨r1,r2⟩:=hr.cv;unfold Ss at ht;split at ht
  ·rename_i x us1 ck1 xs2 us2 ck2 h1 h2;simp only [Ab,Prod.mk.injEq]at ht;obtain⟨rfl,rfl,rfl⟩:=ht;obtain⟨q1,q2,q3,q4,q5,q6⟩:=mT eh k FJ hg h1 r1 (fun q hq=>hc q (by simp [hq]));obtain⟨p1,p2,p3,p4,p5⟩:=lW eh k FJ hg ss vs r2 h2 (fun q hq=>hc q (by simp [hq]));refine⟨?_, ?_, ?_,by simp [p4], ?_⟩
   ·have:=q1.app p1;rw [AL,Ms,Ie];simpa [AM]using this
   ·intro u hu;rcases Ae.1 hu with rfl|hu
    ·exact⟨q4,q2⟩
    ·exact p2 u hu
   ·intro u hu;rcases Ae.1 hu with rfl|hu
    ·exact q3
    ·exact p3 u hu
   ·intro u hu;rcases Ag.1 hu with hu|hu
    ·exact q6 u hu
    ·exact p5 u hu
  ·cases ht
theorem nA (eh:EH c hp) (k:A1 c.ρ gs) {e z:Nat} {l:List DT} {s:SV} {us:List Nat} {v:Value} {y:E} {m:Nat} (h:S5 hp gs e z l s=some us) (hs:SR c [s] [v]) (hy:A5 hp gs m s=some y):
  ∃ys q r news N,y.den c.ρ= .sl ys∧v= .slice q ys.length r∧Src c.w z q ys.length news∧DC c.w (CE ys.length l) news (AM ys) N∧N.Sublist (BL c us)∧(∀y∈ys,y.cells.length=z)∧(∀u∈news,u.oneCell'=true)∧ ∀u∈us,∃g,c.K u g:=by
 have empt: ∀q,v= .slice q 0 0→y= .lst .nil→us= []→ ∃ys q r news N,y.den c.ρ= .sl ys∧v= .slice q ys.length r∧Src c.w z q ys.length news∧DC c.w (CE ys.length l) news (AM ys) N∧N.Sublist (BL c us)∧(∀y∈ys,y.cells.length=z)∧(∀u∈news,u.oneCell'=true)∧ ∀u∈us,∃g,c.K u g:=by
  rintro q rfl rfl rfl;refine⟨[],q,0, [], [],rfl,rfl, ?_,by simpa [CE,AM]using DC.nil,by simp,by simp,by simp,by simp⟩;cases q with
  |none=>exact .inl ⟨rfl,rfl,rfl⟩
  |some p=>exact .inr ⟨p,rfl,by simp,by simp,by simp⟩
 unfold S5 at h;split at h
 ·simp only [Ab]at h;cases hs with
  |cr _=>exact empt _ rfl (JS hy) h.symm
 ·simp only [Ab]at h;cases hs with
  |emp _=>exact empt _ rfl (oV hy) h.symm
 ·rename_i u g;split at h
  ·rename_i e' z' l' g' ep x hl;split at h
   ·rename_i hh;obtain⟨rfl,rfl,rfl,hb⟩:=hh;simp only [Ab]at h;subst h;have hb:=AJ.ik hb;subst hb;obtain⟨q1,q2,q3,q4,q5⟩:=eh u _ (Cu hl k);have GU:=eL (y:=x) hy (by simp only [GY,hl,if_true]);subst GU;cases hs with
    |own k1 k2 k3=>
     rename_i p0 n0 r0;rw [k2]at q4;have hK: ∀w∈ [u],∃g,c.K w g:=fun w hw=>by simp at hw;subst hw;exact⟨_,k1⟩
     obtain⟨d1,d2,⟨a9,d3,d4,d5⟩|⟨g9,cap,C,ys,N1,d3,d4,d5,d6,d7,d8,d9,d10,d11,d12⟩⟩:=q4.inv
     ·cases d3;refine⟨[],_,0, [], [],d4,rfl, ?_,by simpa [CE,AM]using DC.nil,by simp,by simp,by simp,hK⟩;cases p0 with
      |none=>exact .inl ⟨rfl,rfl,rfl⟩
      |some p=>exact .inr ⟨p,rfl,by simp,by simp,by simp⟩
     ·cases d3;rw [AJ.az]at d12;have Dg:C.toList.length=r0*z:=by simpa using d9
      refine⟨ys,_,r0,_,N1,d4,rfl, .inr ⟨_,rfl, ?_,fun j w hw=> ?_,d11⟩,d12, ?_,d10,d11,hK⟩
      ·rw [List.length_take,Dg];exact Nat.min_eq_left (Nat.mul_le_mul_right _ d7)
      ·rw [Addr.add_lit,Nat.zero_add,D1 d6];rw [List.getElem?_take]at hw;split at hw
       ·simpa using hw
       ·cases hw
      ·rw [W7,dV,List.append_nil,d5];exact List.sublist_cons_self _ _
   ·cases h
  ·cases h
 ·cases h
end
def ES (T:List Nat):List AD:=T.map fun u=>⟨u,none, [], .dead⟩
theorem zzr (T:List Nat):(ES T).flatMap AD.top= []:=by induction T<;>simp_all [ES]
theorem vH (T:List Nat):(ES T).map AD.tag=T:=by induction T<;>simp_all [ES]
theorem zxy (T:List Nat):((ES T).map fun r=>(r.tag,Co [] r.bt))=Ef T:=by simp [ES,Ef,Co]
theorem Sd {T:List Nat} {r:AD} (h:r∈ES T):r.tag∈T∧r.new=none∧r.top= []∧r.bt= .dead:=by obtain⟨u,hu,rfl⟩:=List.mem_map.1 h;exact⟨hu,rfl,rfl,rfl⟩
section
variable {P:Program} {c:Cx} {n nx:Nat} {sl sl0:Nat→SV} {hp hp0:Nat→Option Ad} {a:Act} {o:Oper} {gs:Gd} {e:AP} {sg:BB} {nv:Nat}
theorem Rel.kz (h:Rel c n sl hp a) {T:List Nat} (hT:T.Nodup) (Fp: ∀u∈T,c.U u) {r0:AD} (IA:r0.tag∉T) (Gg:r0.new.isSome=true→ ¬c.U r0.tag) (C7:r0.new=none→c.U r0.tag) {w':World} {hs:List Nat} (FQ: ∀b∈hs,b∈(c.G r0.tag).top∨b∈BL c T) (hm:Mod hs c.w w')
  (BW:r0.top.Nodup) (BP: ∀b∈r0.top,(b∈hs∨c.w.heap.size≤b)∧b<w'.heap.size) (BE: ∀q f,r0.bt≠ .gd q f)
  (he:CX c (c.ed w' (r0::ES T))→D7 c (c.ed w' (r0::ES T)) w' (r0::ES T)→CD (c.ed w' (r0::ES T)) r0.tag r0.bt):
  Rel (c.ed w' (r0::ES T)) n sl (AW hp ((r0.tag,r0.bt)::Ef T)) a∧CX c (c.ed w' (r0::ES T))∧D7 c (c.ed w' (r0::ES T)) w' (r0::ES T)∧ ∀t,(c.ed w' (r0::ES T)).U t→c.U t∨t=r0.tag:=by
 have hn:((r0::ES T).map AD.tag).Nodup:=by rw [List.map_cons,vH];exact List.nodup_cons.2 ⟨IA,hT⟩
 have AS: ∀r∈r0::ES T,r.new.isSome=true→ ¬c.U r.tag:=fun r hr hs=>by
  rcases Ae.1 hr with rfl|hr
  ·exact Gg hs
  ·rw [(Sd hr).2.1]at hs;cases hs
 have aft:=Cx.eg (w':=w') h.cg hn AS;obtain⟨q1,q2⟩:=h.changes (gs:= []) (D3 _) hm hn AS (fun b hb=>by
   rcases FQ b hb with hb|hb
   ·exact⟨r0,by simp,hb⟩
   ·obtain⟨t,ht,B9⟩:=OA.1 hb;exact⟨⟨t,none, [], .dead⟩,List.mem_cons_of_mem _ (List.mem_map.2 ⟨t,ht,rfl⟩),B9⟩)
  (by rw [List.flatMap_cons,zzr,List.append_nil];exact BW)
  (fun r hr b hb=>by
   rcases Ae.1 hr with rfl|hr
   ·exact BP b hb
   ·rw [(Sd hr).2.2.1]at hb;cases hb)
  (fun r hr=>by
   rcases Ae.1 hr with rfl|hr
   ·exact BE
   ·rw [(Sd hr).2.2.2];intros;simp)
  (fun hk r hr=>by
   rcases Ae.1 hr with rfl|hr
   ·exact he hk aft
   ·have kg:=aft.G r (List.mem_cons_of_mem _ hr);obtain⟨_,_,e1,e2⟩:=Sd hr;rw [e2];exact⟨by rw [kg,e1],by rw [kg]⟩)
 refine⟨?_,q2,aft,fun t ht=> ?_⟩
 ·rw [List.map_cons,zxy]at q1;have:Co [] r0.bt=r0.bt:=rfl;rw [this]at q1;exact q1
 ·rcases ht with ht|⟨r,hr,rfl⟩
  ·exact .inl ht
  ·rcases Ae.1 hr with rfl|hr
   ·exact .inr rfl
   ·exact .inl (Fp _ (Sd hr).1)
theorem As.gr (h:A6 P c n nx sl hp a sl0 hp0 o []) {T:List Nat} (hT:T.Nodup) (Fp: ∀u∈T,∃g,c.K u g) {v':Value} {w':World} {ck:List Cn} {e z:Nat} {l:List DT} {x:E} {top:List Nat} (hr:(execOp a.eval o).run P c.w= .ok (.value v') w') (hm:Mod (BL c T) c.w w')
  (BW:top.Nodup) (BP: ∀b∈top,(b∈BL c T∨c.w.heap.size≤b)∧b<w'.heap.size) (hd:DC w' [.row e z (AJ.of l)] [v'] [x.den c.ρ] top):
  As P o c n nx sl hp [] a {c6:=ck,val:= .own nx 0,bt:=(nx, .deep e z l 0 0 x)::Ef T}:=by
 intro next Q hk
 unfold Oper.wp;rw [hr,Oper.upon_value];have hU:=Mz h;have Jk: ∀u∈T,c.U u:=fun u hu=>by obtain⟨g,hg⟩:=Fp u hu;exact h.rel.cg _ _ hg
 obtain⟨q1,q2,q3,q4⟩:=h.rel.kz (r0:=⟨nx,some v',top, .deep e z l 0 0 x⟩) hT Jk (fun hh=>hU (Jk _ hh)) (fun _=>hU) (fun hh=>by cases hh) (fun b hb=> .inr hb) hm BW BP (by intros;simp) (fun _ aft=>by obtain⟨k1,k2,k3⟩:=aft.new _ (List.mem_cons_self ..) v' rfl;have kg:=aft.G _ (List.mem_cons_self ..);have ke:=aft.j8 _ (List.mem_cons_self ..) rfl;simp only at k1 k2 k3 kg ke;exact⟨k1,k2,ke,by rw [k3,kg,aft.w,aft.ρ];exact hd,by rw [kg]⟩)
 obtain⟨k1,k2,k3⟩:=q3.new _ (List.mem_cons_self ..) v' rfl;simp only at k1 k3;obtain⟨p,m,r,rfl⟩:=hd.head;refine hk _ (c.ed w' _) ⟨rfl,rfl,rfl,rfl,fun t ht=> ?_⟩ (q1.put (SR.own k1 k3 .nil) o.dst);rcases q4 t ht with ht|rfl
 ·exact .inl ht
 ·exact .inr ⟨Nat.le_refl _,by simp [Bj]⟩
theorem As.km (h:A6 P c n nx sl hp a sl0 hp0 o []) {T:List Nat} (hT:T.Nodup) (Fp: ∀u∈T,∃g,c.K u g) {b g ep:Nat} (hb:b∉T) (hK:c.K b g) (Ea: ∀g',c.K b g'→g'≤g) (hE:c.E b=ep) {w':World} {ck:List Cn} {e z:Nat} {l:List DT} {x:E} {top:List Nat} (hr:(execOp a.eval o).run P c.w= .ok .skip w') {hs:List Nat} (FQ: ∀q∈hs,q∈(c.G b).top∨q∈BL c T) (hm:Mod hs c.w w')
  (BW:top.Nodup) (BP: ∀q∈top,(q∈hs∨c.w.heap.size≤q)∧q<w'.heap.size) (hd:DC w' [.row e z (AJ.of l)] [c.H b g] [x.den c.ρ] top):
  As P o c n nx sl hp [] a {c6:=ck,bt:=(b, .deep e z l g (ep+1) x)::Ef T}:=by
 intro next Q hk
 unfold Oper.wp;rw [hr,Oper.upon_skip];have Jk: ∀u∈T,c.U u:=fun u hu=>by obtain⟨g,hg⟩:=Fp u hu;exact h.rel.cg _ _ hg
 have Ye:=h.rel.cg _ _ hK;obtain⟨q1,q2,q3,q4⟩:=h.rel.kz (r0:=⟨b,none,top, .deep e z l g (ep+1) x⟩) hT Jk hb (fun hh=>by cases hh) (fun _=>Ye) FQ hm BW BP (by intros;simp) (fun _ aft=>by have kg:=aft.G _ (List.mem_cons_self ..);have ke:=aft.im _ (List.mem_cons_self ..) rfl;obtain⟨k1,k2⟩:=aft.K b g hK;simp only at kg ke;exact⟨k1,fun g' Cc=>Ea g' (aft.old b Ye g' Cc),by rw [ke,hE],by rw [k2,kg,aft.w,aft.ρ];exact hd,by rw [kg]⟩)
 refine hk _ (c.ed w' _) ⟨rfl,rfl,rfl,rfl,fun t ht=> ?_⟩ (q1.put ((SR.undef .nil).mkGd []) o.dst);rcases q4 t ht with ht|rfl
 ·exact .inl ht
 ·exact .inl Ye
theorem oQ {w w':World} {row:Option Nat} {S:List Nat} (h:w.grownBy w' row) (hr: ∀g,row=some g→g∈S∨w.heap.size≤g):Mod S w w':=by
 refine⟨h.os,h.tape,h.output,h.size,fun b hb hn=>h.block b hb fun hh=> ?_⟩;rcases hr b hh.symm with h1|h1
 ·exact hn h1
 ·omega
theorem cM (h:A6 P c n nx sl hp a sl0 hp0 o []) {x y:Operand} {tx:TypeId} {cl:Call} (ho:o.op= .call cl) (AA:cl.callee= .builtin .append) (CI:cl.args.toList= [x,y]) (DI:cl.argTypes.toList= [tx,tx])
  {el:TypeId} (Bc:P.underlying tx=some (.slice el)) (hz:G7 P el=true) {l:List DT} (hl:l.length=P.cellsOf el) {T us:List Nat} (hT:(T++us).Nodup) (Fp: ∀u∈T,∃g,c.K u g) {s2:SV} {ye:E} (AQ:Bm sl0 [] y=some s2) (hy:A5 hp0 [] AN s2=some ye) (BR:S5 hp0 [] el (P.cellsOf el) l s2=some us)
  {c0:E} {v:Value} (hv:a.eval x=v) {N:List Nat} (Da:DC c.w [.row el (P.cellsOf el) (AJ.of l)] [v] [c0.den c.ρ] N) (hN:N=BL c T) {ck:List Cn} (CP:Cn.den c.ρ (.room c0 ye (P.bytesOf el))):
  As P o c n nx sl hp [] a {c6:=ck,val:= .own nx 0,bt:=(nx, .deep el (P.cellsOf el) l 0 0 (.app c0 ye))::Ef (T++us)}:=by
 have Az:cl.args= #[x,y]:=by apply Array.ext';simp [CI]
 have FV:cl.argTypes= #[tx,tx]:=by apply Array.ext';simp [DI]
 have C4:y∈o.op.operands:=by simp [ho,Op.operands,Call.operands,AA,Az]
 obtain⟨i,z,hi,EW,Ed,B3,B6,HK⟩:=JR hz;obtain⟨ys,q,r,news,N2,CN,CQ,H4,Yq,Bt,L8,YY,Zk⟩:=nA h.eh h.gs BR (h.de AQ C4) hy;have Cq:=WO h.rel.gw hT;rw [Ie]at Cq;have DN: ∀b∈BL c (T++us),b<c.w.heap.size:=fun b hb=>by obtain⟨t,_,B9⟩:=OA.1 hb;exact h.rel.gw.inb t b (by simp [GI.own,B9])
 obtain⟨mm,kk,Gg,C7,Qh,Zb⟩:=CP;obtain⟨d1,d2,A2⟩:=Da.inv;rw [AJ.az]at d2 A2;have hU: ∀u∈T++us,∃g,c.K u g:=fun u hu=>by
  rcases Ag.1 hu with hu|hu
  ·exact Fp u hu
  ·exact Zk u hu
 obtain⟨xs,old,N1,Ce,hold,Gi,rW,GR,Cr,Tu,X6⟩: ∃(xs:List AV) (old:List Value) (N1:List Nat),c0.den c.ρ= .sl xs∧old.length=xs.length*i.size∧((xs.length=0∧ ∃q,v= .slice q 0 0)∨ ∃g cap C,v= .slice (some ⟨g,0,none⟩) xs.length cap∧xs.length≤cap∧cap≤maxLen∧c.w.heap[g]?=some (.cells C el (0,0))∧C.size=cap*i.size∧old=C.toList.take (xs.length*i.size)∧(g∈BL c T∧g∉N1))∧
   DC c.w (CE xs.length l) old (AM xs) N1∧(∀y∈xs,y.cells.length=P.cellsOf el)∧(∀u∈old,u.oneCell'=true)∧(∀b∈N1,b∈BL c T)∧N1.Nodup:=by
  rcases A2 with⟨p,rfl,Gj,rfl⟩|⟨g9,cap,C,xs,N1,rfl,Gj,rfl,h6,h7,h8,h9,GD,FE,rB⟩
  ·exact⟨[], [], [],Gj,by simp, .inl ⟨rfl,p,rfl⟩,by simpa [CE,AM]using DC.nil,by simp,by simp,by simp,by simp⟩
  ·have BW:(g9::N1).Nodup:=by rw [hN];exact(List.nodup_append.1 Cq).1
   rw [List.nodup_cons]at BW;refine⟨xs,_,N1,Gj, ?_, .inr ⟨g9,cap,C,rfl,h7,h8,h6,by rw [←B6];exact h9,rfl,by rw [←hN];simp,BW.1⟩,by rw [←B6];exact rB,GD,by rw [←B6];exact FE,fun b hb=>by rw [←hN];simp [hb],BW.2⟩;have e9:C.toList.length=cap*i.size:=by rw [←B6,←h9];simp
   rw [List.length_take,e9];exact Nat.min_eq_left (Nat.mul_le_mul_right _ h7)
 rw [Ce]at Gg;rw [CN]at C7;simp only [AV.len,AV.int.injEq,true_and]at Gg C7;have B8:(xs.length+ys.length)*i.bytes≤140737488355328:=by
  rw [←Gg,←C7,HK]at Qh;have h9:(((xs.length+ys.length)*i.bytes:Nat):Int)≤140737488355328:=by rw [Int.natCast_mul,Int.natCast_add];exact Qh
  omega
 have FI:xs.length+ys.length≤140737488355328:=by rw [←Gg,←C7]at Zb;omega
 rw [B6]at H4;obtain⟨v',w',AK,AO⟩:=qH (P:=P) c.w tx o.type el i z Bc hi EW Ed B3 (fun g9=>g9∈BL c T∧g9∉N1) v xs.length old hold Gi q ys.length r news H4 (by simp only [maxLen];omega) B8;have Eo:(execOp a.eval o).run P c.w= .ok (.value v') w':=by simp [execOp,ho,resolve,AA,Az,FV,invoke,builtin,hv,CQ,AK]
 have Ps: ∀b∈N2,b∈BL c us:=fun b hb=>Bt.subset hb;have X7:N2.Nodup:=Bt.nodup (List.nodup_append.1 Cq).2.1;have Py:(E.app c0 ye).den c.ρ= .sl (xs++ys):=by simp only [E.den,Ce,CN,AV.app]
 rcases AO with⟨rfl,rfl,Dt⟩|⟨g9,cap,C,rfl,h1,h2,h3,h4,h5,h6,h7⟩
 ·have Hm:ys= []:=List.eq_nil_of_length_eq_zero Dt;subst Hm;refine As.gr h hT hU Eo (Mod.refl _ _) (top:=N) (by rw [hN];exact(List.nodup_append.1 Cq).1) (fun b hb=>⟨.inl (by rw [Ie,←hN];simp [hb]),DN b (by rw [Ie,←hN];simp [hb])⟩) ?_;rw [Py,List.append_nil,←Ce];exact Da
 ·have M3:(g9∈BL c T∨c.w.heap.size≤g9)∧g9∉N1∧g9∉N2:=by
   rcases h7 with⟨rfl,_⟩|⟨hg,Cc⟩
   ·refine⟨.inr (Nat.le_refl _),fun hh=> ?_,fun hh=> ?_⟩
    ·have:=DN _ (by rw [Ie];exact Ag.2 (.inl (Tu _ hh)));omega
    ·have:=DN _ (by rw [Ie];exact Ag.2 (.inr (Ps _ hh)));omega
   ·exact⟨.inl hg,Cc,fun hh=>(List.nodup_append.1 Cq).2.2 _ hg _ (Ps _ hh) rfl⟩
  have AT: ∀b∈N1++N2,w'.heap[b]?=c.w.heap[b]?:=fun b hb=>by
   have AB:b<c.w.heap.size:=DN b (by
    rw [Ie];rcases Ag.1 hb with hb|hb
    ·exact Ag.2 (.inl (Tu b hb))
    ·exact Ag.2 (.inr (Ps b hb)))
   refine h6.block b AB fun hh=> ?_;cases hh;rcases Ag.1 hb with hb|hb
   ·exact M3.2.1 hb
   ·exact M3.2.2 hb
  refine As.gr h hT hU Eo (oQ h6 fun g hg=> ?_) (top:=g9::(N1++N2)) ?_ (fun b hb=> ?_) ?_
  ·cases hg;rcases M3.1 with hh|hh
   ·exact .inl (by rw [Ie];exact Ag.2 (.inl hh))
   ·exact .inr hh
  ·refine List.nodup_cons.2 ⟨fun hh=> ?_,List.nodup_append.2 ⟨X6,X7,fun p hp q hq=> ?_⟩⟩
   ·rcases Ag.1 hh with hh|hh
    ·exact M3.2.1 hh
    ·exact M3.2.2 hh
   ·exact(List.nodup_append.1 Cq).2.2 p (Tu p hp) q (Ps q hq)
  ·rcases Ae.1 hb with rfl|hb
   ·refine⟨?_,FX h3⟩;rcases M3.1 with hh|hh
    ·exact .inl (by rw [Ie];exact Ag.2 (.inl hh))
    ·exact .inr hh
   ·have iF:b∈BL c (T++us):=by
     rw [Ie];rcases Ag.1 hb with hb|hb
     ·exact Ag.2 (.inl (Tu b hb))
     ·exact Ag.2 (.inr (Ps b hb))
    exact⟨.inl iF,Nat.lt_of_lt_of_le (DN b iF) h6.size⟩
  ·rw [Py];have hlen:(xs++ys).length=xs.length+ys.length:=AG;rw [B6]at d1 d2 GR L8 ⊢;have:=DC.row (w:=w') (e:=el) (z:=i.size) (l:=AJ.of l) (g:=g9) (cap:=cap) (C:=C) (ys:=xs++ys) (N1:=N1++N2) (ts:= []) (vs:= []) (xs:= []) (N:= []) d1 (by rw [AJ.az];exact d2) h3 (by rw [hlen];exact h1) h2 h4 (fun w hw=> ?_) (by
     rw [hlen,h5];intro u hu;rcases Ag.1 hu with hu|hu
     ·exact Cr u hu
     ·exact YY u hu) (by
     rw [hlen,h5,cR,vV,AJ.az];exact(rW.app Yq).frame AT) .nil
   ·rw [hlen]at this;simpa using this
   ·rcases Ag.1 hw with hw|hw
    ·exact GR w hw
    ·exact L8 w hw
end
section
variable {P:Program} {c:Cx} {n nx:Nat} {sl sl0:Nat→SV} {hp hp0:Nat→Option Ad} {a:Act} {o:Oper} {gs:Gd} {e:AP} {sg:BB} {nv:Nat}
theorem zx2 {l:List Nat} (h:Kb l=true):l.Nodup:=OD h
theorem zqR (h:A6 P c n nx sl hp a sl0 hp0 o gs) {x y:Operand} {tx ty:TypeId} {cl:Call} (ho:o.op= .call cl) (AA:cl.callee= .builtin .append) (CI:cl.args.toList= [x,y]) (DI:cl.argTypes.toList= [tx,ty])
  {s1 s2:SV} (Br:Bm sl0 gs x=some s1) (AQ:Bm sl0 gs y=some s2) (he:W5 P hp0 gs nx tx ty s1 s2=some e) (hc: ∀q∈e.c6,Cn.den c.ρ q):As P o c n nx sl hp gs a e:=by
 have Az:cl.args= #[x,y]:=by apply Array.ext';simp [CI]
 have Du:x∈o.op.operands:=by simp [ho,Op.operands,Call.operands,AA,Az]
 have C4:y∈o.op.operands:=by simp [ho,Op.operands,Call.operands,AA,Az]
 unfold W5 at he;split at he
 ·cases he
 rename_i L4;have L4:tx=ty:=by simpa using L4
 subst L4;split at he
 ·rename_i el e' z dl Bc C2;have LF:=IU Bc;split at he
  ·cases he
  rename_i Ax;simp only [not_or,Bool.not_eq_true',Bool.not_eq_false,Bool.not_eq_true,ne_eq,Decidable.not_not]at Ax;obtain⟨hz,E3,rfl,rfl⟩:=Ax;obtain⟨_,_,l,Kz,Ds⟩:=Xq Bc C2;simp only [DT.row.injEq,true_and]at Kz;subst Kz;rw [AJ.az]at he;have r1:=h.de Br Du;split at he
  ·rename_i ye us hy BR;have hU: ∀u∈us,∃g,c.K u g:=(nA h.eh h.gs BR (h.de AQ C4) hy).choose_spec.choose_spec.choose_spec.choose_spec.choose_spec.2.2.2.2.2.2.2;have L6:us.Nodup:=by
    unfold S5 at BR;split at BR
    ·simp only [Ab]at BR;subst BR;simp
    ·simp only [Ab]at BR;subst BR;simp
    ·split at BR
     ·split at BR
      ·simp only [Ab]at BR;subst BR;simp
      ·cases BR
     ·cases BR
    ·cases BR
   have TP:0<P.cellsOf e':=by obtain⟨i,_,_,_,_,h1,h2,_⟩:=JR hz;omega
   split at he
   ·rename_i t g;split at he
    ·rename_i e2 z2 l2 g2 ep c0 hl;split at he
     ·rename_i hh;obtain⟨rfl,rfl,hb,rfl,Dv⟩:=hh;have hb:=AJ.ik hb;subst hb;simp only [Ab]at he;subst he;obtain⟨q1,q2,q3,q4,q5⟩:=h.eh t _ (Cu hl h.gs);generalize hv:a.eval x=v at r1;cases r1 with
      |own k1 k2 _=>rw [k2]at q4;simp only [Bool.not_eq_true',List.contains_eq_mem,decide_eq_false_iff_not]at Dv;exact cM h ho AA CI DI LF hz Ds (T:= [t]) (by simpa using List.nodup_cons.2 ⟨Dv,L6⟩) (fun u hu=>by simp at hu;subst hu;exact⟨_,k1⟩) AQ hy BR hv q4 (by simp [BL]) (hc _ (by simp))
     ·cases he
    ·cases he
   ·simp only [Ab]at he;subst he;generalize hv:a.eval x=v at r1;cases r1 with
    |emp _=>exact cM h ho AA CI DI LF hz Ds (T:= []) (by simpa using L6) (by simp) AQ hy BR hv (c0:= .lst .nil) (.void TP (by rw [AJ.az];exact Ds) .nil) rfl (hc _ (by simp))
   ·simp only [Ab]at he;subst he;generalize hv:a.eval x=v at r1;cases r1 with
    |cr _=>exact cM h ho AA CI DI LF hz Ds (T:= []) (by simpa using L6) (by simp) AQ hy BR hv (c0:= .lst .nil) (.void TP (by rw [AJ.az];exact Ds) .nil) rfl (hc _ (by simp))
   ·cases he
  ·cases he
 ·cases he
theorem As.gn (h:A6 P c n nx sl hp a sl0 hp0 o []) {T:List Nat} (hT:T.Nodup) (Fp: ∀u∈T,∃g,c.K u g) {ck:List Cn} {el z:Nat} {l:List DT} (hz:0<z) (hl:l.length=z) {x:E} {xs:List AV} {C:Array Value} {cap:Nat} (hx:x.den c.ρ= .sl xs) (AA: ∀y∈xs,y.cells.length=z) (hle:xs.length≤cap) (HM:cap≤maxLen) (hC:C.size=cap*z)
  (h1: ∀u∈C.toList.take (xs.length*z),u.oneCell'=true) (hD:DC c.w (CE xs.length l) (C.toList.take (xs.length*z)) (AM xs) (BL c T))
  (hr:(execOp a.eval o).run P c.w= .ok (.value (.slice (some ⟨c.w.heap.size,0,none⟩) xs.length cap)) (c.w.alloc (.cells C el))):
  As P o c n nx sl hp [] a {c6:=ck,val:= .own nx 0,bt:=(nx, .deep el z l 0 0 x)::Ef T}:=by
 have DN: ∀b∈BL c T,b<c.w.heap.size:=fun b hb=>by obtain⟨t,_,B9⟩:=OA.1 hb;exact h.rel.gw.inb t b (by simp [GI.own,B9])
 have AS:(c.w.alloc (.cells C el)).heap[c.w.heap.size]?=some (.cells C el (0,0)):=heap_alloc_new c.w _;have Yy:c.w.grownBy (c.w.alloc (.cells C el)) (some c.w.heap.size):=⟨rfl,rfl,rfl,by simp,fun j hj _=>Below.heap_alloc c.w _ _ hj⟩
 refine As.gr h hT Fp hr (oQ Yy fun g hg=> .inr (by cases hg;exact Nat.le_refl _)) (top:=c.w.heap.size::BL c T) ?_ (fun b hb=> ?_) ?_
 ·exact List.nodup_cons.2 ⟨fun hh=>by have:=DN _ hh;omega,WO h.rel.gw hT⟩
 ·rcases Ae.1 hb with rfl|hb
  ·exact⟨.inr (Nat.le_refl _),by simp⟩
  ·exact⟨.inl hb,Nat.lt_of_lt_of_le (DN b hb) (by simp)⟩
 ·rw [hx];have:=DC.row (w:=c.w.alloc (.cells C el)) (e:=el) (z:=z) (l:=AJ.of l) (g:=c.w.heap.size) (cap:=cap) (C:=C) (ys:=xs) (N1:=BL c T) (ts:= []) (vs:= []) (xs:= []) (N:= []) hz (by rw [AJ.az];exact hl) AS hle HM hC AA h1 (by
   rw [AJ.az];exact hD.frame fun b hb=>Below.heap_alloc c.w _ _ (DN b hb)) .nil
  simpa using this
theorem zrj (h:A6 P c n nx sl hp a sl0 hp0 o gs) {t:TypeId} {m:Nat} {parts:Array (Nat × Operand)} (ho:o.op= .buildSlice t m parts) {ps:List (Nat × SV)} (KE:parts.toList.mapM (fun(p:Nat × Operand)=>(Bm sl0 gs p.2).map fun s=>(p.1,s))=some ps) (he:Xe P hp0 gs nx t m ps=some e) (hc: ∀q∈e.c6,Cn.den c.ρ q):As P o c n nx sl hp gs a e:=by
 obtain⟨e1,e2⟩:=W1 (c:=c) (a:=a) (parts.toList.map (·.2)) (fun x s hx hm=>h.de hx (by simpa [ho,Op.operands]using hm)) (fun x hx=>List.mem_map.2 ⟨x,hx,rfl⟩) KE;unfold Xe at he;split at he
 ·rename_i el e' zz dl HQ C2;have Bc:=IU HQ;split at he
  ·cases he
  rename_i Ax;simp only [not_or,Bool.not_eq_true',Bool.not_eq_false',ne_eq,Bool.not_eq_false,Bool.not_eq_true,Nat.not_lt,Decidable.not_not]at Ax;obtain⟨hz,E3,rfl,rfl,A4,Au,hle,DK⟩:=Ax;obtain⟨_,_,l,Kz,Ds⟩:=Xq HQ C2;simp only [DT.row.injEq,true_and]at Kz;subst Kz;rw [AJ.az]at he;have Au:Ak P e'=true∨P.cellsOf e'=1:=by simpa using Au
  obtain⟨i,z,hi,EW,Ed,B3,B6,HK⟩:=JR hz;split at he
  ·rename_i xs us ck Qp;split at he
   ·rename_i BW;simp only [Ab]at he;subst he;obtain⟨p1,p5,p6,p7,p8⟩:=lW h.eh h.gs Ds Au (ps.map (·.2)) (parts.toList.map fun p=>a.eval p.2) e2 Qp hc;have hlen:(parts.toList.map fun p=>a.eval p.2).length=m:=by
     have:ps.length=m:=by have:=congrArg List.length DK;simpa using this
     have h9:=congrArg List.length e1;simp at h9 ⊢;omega
    have FU:(parts.map fun(x:Nat × Operand)=>(x.1,a.eval x.2)).toList=((parts.toList.map fun p=>a.eval p.2).zipIdx 0).map fun p=>(p.2,p.1):=by
     have LM:parts.toList.map (·.1)=List.range m:=by rw [←e1,DK]
     apply List.ext_getElem?;intro j;have hj:(parts.toList.map (·.1))[j]?=(List.range m)[j]?:=by rw [LM]
     simp only [Array.toList_map,List.getElem?_map,List.getElem?_zipIdx]at hj ⊢;cases hp:parts.toList[j]? with
     |none=>simp
     |some p=>
      rw [hp]at hj;simp only [Option.map_some,Ab]at hj ⊢;have YH:j<m:=by
       rcases Nat.lt_or_ge j m with hh|hh
       ·exact hh
       ·rw [List.getElem?_eq_none (by simpa using hh)]at hj;cases hj
      rw [List.getElem?_range YH]at hj;simp at hj;simp [hj]
    obtain⟨C',f1,f2⟩:=dW (sz:=i.size) (fun j=>some (j*i.size,i.size)) (fun j=>rfl) (parts.toList.map fun p=>a.eval p.2) 0 ((Array.range (m*i.size)).map (fun j=>(if m*i.size=0 then #[]else z.cells)[j % (if m*i.size=0 then #[]else z.cells).size]!)) [] _ (by simp;rfl) (by simp) (by simp [hlen]) (fun v hv=>by rw [←B6];exact(p5 v hv).1);have Dg:C'.toList.length=m*P.cellsOf e':=by
     rw [f2,B6];simp only [List.nil_append];have: ∀(L:List Value),(∀v∈L,v.cells.size=i.size)→(L.flatMap fun v=>v.cells.toList).length=L.length*i.size:=by
      intro L
      induction L with
      |nil=>intro _;simp
      |cons v L ih=>intro hL;simp only [List.flatMap_cons,AG,AL,Array.length_toList];rw [ih (fun u hu=>hL u (by simp [hu])),hL v (by simp),Nat.add_mul];omega
     rw [this _ (fun v hv=>by rw [←B6];exact(p5 v hv).1),hlen]
    have H7:(xs.map (E.den c.ρ)).length=m:=by rw [List.length_map,p7,hlen]
    have Cd:C'.toList.take ((xs.map (E.den c.ρ)).length*P.cellsOf e')=(parts.toList.map fun p=>a.eval p.2).flatMap fun v=>v.cells.toList:=by rw [H7,←Dg,List.take_length,f2];simp
    refine As.gn h (zx2 BW) p8 (by omega) Ds (xs:=xs.map (E.den c.ρ)) (C:=C') (cap:=m) (by simp [E.den,EL.du]) (fun y hy=> ?_) (by omega) (by simp only [maxLen];have:m*1≤m*P.cellsOf e':=Nat.mul_le_mul_left _ (by omega);omega) (by rw [←Array.length_toList,Dg]) ?_ ?_ ?_
    ·obtain⟨q,hq,rfl⟩:=List.mem_map.1 hy;exact p6 q hq
    ·rw [Cd];intro u hu;obtain⟨v,hv,hu⟩:=List.mem_flatMap.1 hu;exact(p5 v hv).2 u hu
    ·rw [Cd,H7,←hlen];exact p1
    ·rw [H7];have AK:=lK (P:=P) Bc A4 hi EW B6 m (by rw [←B6];omega) (parts.map fun(x:Nat × Operand)=>(x.1,a.eval x.2)) C' (by rw [FU];exact f1) c.w;simp only [execOp,ho,Sem.run_bind];rw [AK];rfl
   ·cases he
  ·cases he
 ·cases he
theorem cY {w:World}: ∀{ds:List DT} {ss:List SV} {vs:List Value},ML ds ss=true→SR c ss vs→ ∀{xs:EL} {m:Nat},BZ hp0 gs m ss=some xs→DC w ds vs (xs.den c.ρ) []
 | [], [],vs,_,hs,xs,m,hx=>by
  cases hs;cases m with
  |zero=>simp [BZ]at hx
  |succ m=>simp [BZ]at hx;subst hx;exact .nil
 | [],_::_,_,h,_,_,_,_=>by simp [ML]at h
 |_::_, [],_,h,_,_,_,_=>by simp [ML]at h
 |d::ds,s::ss, [],h,hs,_,_,_=>by have:=hs.len;simp at this
 |d::ds,s::ss,v::vs,h,hs,xs,m,hx=>by
  obtain⟨j,y,ys,rfl,hy,CN,rfl⟩:=IV hx;obtain⟨r1,r2⟩:=hs.cv;simp only [ML,Ac]at h;have ih:=cY (w:=w) h.2 r2 CN;unfold kI at h;obtain⟨h1,_⟩:=h;split at h1
  ·rename_i y';rw [EL.den,Jb hy];cases r1 with
   |e g1 g2 _=>
    cases y'<;>simp [QF]at h1
    ·cases g1 with
     |int hk _=>exact .flat (.int hk .nil) ih
    ·cases g1 with
     |bool _=>exact .flat (.bool .nil) ih
    ·rename_i s0;generalize hq:(E.str s0).den c.ρ=q at g1;cases g1 with
     |str hk _=>exact .flat (.str hk .nil) ih
     |_=>simp [E.den]at hq
  ·simp only [Ac,decide_eq_true_eq,beq_iff_eq]at h1;rw [EL.den,JS hy];cases r1 with
   |cr _=>exact .void h1.1 h1.2 ih
  ·cases h1
theorem DC.rep {w:World} {ds:List DT} {vs:List Value} {xs:List AV} (h:DC w ds vs xs []): ∀k,DC w (CE k ds) (List.replicate k vs).flatten (List.replicate k xs).flatten []
 |0=>by simpa [CE]using DC.nil
 |k+1=>by rw [Ms,List.replicate_succ,List.flatten_cons,List.replicate_succ,List.flatten_cons];simpa using h.app (DC.rep h k)
theorem ztG (h:A6 P c n nx sl hp a sl0 hp0 o gs) {t:TypeId} {l m:Operand} (ho:o.op= .makeSlice t l m) {s1 s2:SV} (Br:Bm sl0 gs l=some s1) (AQ:Bm sl0 gs m=some s2) (he:Xr P hp0 gs nx t s1 s2=some e) (hc: ∀q∈e.c6,Cn.den c.ρ q):As P o c n nx sl hp gs a e:=by
 have Du:l∈o.op.operands:=by simp [ho,Op.operands]
 have C4:m∈o.op.operands:=by simp [ho,Op.operands]
 unfold Xr at he;split at he
 ·rename_i el e' zz dl x y HQ C2;have Bc:=IU HQ;split at he
  ·cases he
  rename_i Ax;simp only [not_or,Bool.not_eq_true',Bool.not_eq_false',ne_eq,Bool.not_eq_false,Bool.not_eq_true,Decidable.not_not]at Ax;obtain⟨hz,E3,rfl,rfl,Fc,Yz⟩:=Ax;have Yz:gs= []:=by simpa using Yz
  subst Yz;obtain⟨_,_,dl',Kz,Ds⟩:=Xq HQ C2;simp only [DT.row.injEq,true_and]at Kz;subst Kz;rw [AJ.az]at he;obtain⟨i,z,hi,EW,Ed,B3,B6,HK⟩:=JR hz;have r1:=h.de Br Du;have r2:=h.de AQ C4;have ival: ∀{x:E} {kk:IntKind} {k:Int} {v:Value},SR c [.e x] [v]→x.den c.ρ= .int kk k→v= .int kk k:=by
   intro x kk k v hr hx;cases hr with
   |e h1 _ _=>exact(Fy h1 hx).1
  split at he
  ·rename_i s hs;have hs:D4 z=some s:=by simpa [hi,EW]using hs
   split at he
   ·rename_i TQ;obtain⟨w,hw,rfl⟩:=An.1 he;obtain⟨kk,k,hk,h0,hb,hle⟩:Cn.den c.ρ (.mkroom x (P.bytesOf e')):=BD hc;have EK:=ival r1 hk;have CQ:=ival r2 (by rw [←E.ah c.ρ _ _ Fc];exact hk);have jB:DC c.w dl' z.cells.toList (w.den c.ρ).cells []:=by
     have JA:=WX (c:=c) hs;unfold jZ at TQ;cases s with
     |agg cs=>
      obtain⟨k9,l9,hm,sK,rfl⟩:=Sr hw;cases JA with
      |agg h9 h1 h8=>have:=cY (w:=c.w) TQ h1 sK;simpa [Value.cells,AV.cells,E.den]using this
     |cr=>
      have Bc:BZ hp0 [] (AN+1) [.cr]=some (.cons w .nil):=by unfold BZ;rw [hw];rfl
      have:=cY (w:=c.w) TQ JA Bc;rw [JS hw]at this ⊢;cases JA with
      |cr _=>simpa [Value.cells,AV.cells,E.den,EL.den]using this
     |_=>cases TQ
    obtain⟨c1,c2⟩:=cX (w:=c.w) (ρ:=c.ρ) hs hw;obtain⟨kn,rfl⟩:=Int.eq_ofNat_of_zero_le h0;have C1:(i.bytes:Int)*(kn:Int)≤281474976710656:=by rw [HK]at hb;rw [Int.mul_comm];omega
    have hlen:=c1.len;have TF:=Wk z.cells (by omega) kn;have AK:=run_make (P:=P) c.w t e' i z Bc hi EW kk kk kn kn (by omega) (Int.le_refl _) C1 (by omega);have Ep:(madeCells z.cells (kn*z.cells.size)).size=kn*P.cellsOf e':=by rw [size_madeCells,Ed,B6]
    have Cd:(madeCells z.cells (kn*z.cells.size)).toList.take ((List.replicate kn (w.den c.ρ)).length*P.cellsOf e')=(List.replicate kn z.cells.toList).flatten:=by rw [List.length_replicate,List.take_of_length_le (by rw [Array.length_toList,Ep];exact Nat.le_refl _),TF]
    have Fq:AM (List.replicate kn (w.den c.ρ))=(List.replicate kn (w.den c.ρ).cells).flatten:=by
     clear AK Ep Cd TF hb hle C1 hk EK CQ h0 hc
     induction kn with
     |zero=>rfl
     |succ k ih=>simp only [List.replicate_succ,AM,List.flatMap_cons,List.flatten_cons]at ih ⊢;rw [ih]
    refine As.gn (T:= []) h (by simp) (by simp) (by omega) Ds (xs:=List.replicate kn (w.den c.ρ)) (C:=madeCells z.cells (kn*z.cells.size)) (cap:=kn) (by simp [E.den,hk,AV.rep]) (fun u hu=> ?_) (by simp) (by simp only [maxLen];omega) Ep ?_ ?_ ?_
    ·rw [List.eq_of_mem_replicate hu,←hlen,Array.length_toList,Ed,B6]
    ·rw [Cd];intro u hu;obtain⟨q,hq,hu⟩:=List.mem_flatten.1 hu;rw [List.eq_of_mem_replicate hq]at hu;exact c2 u hu
    ·rw [Cd,List.length_replicate,Fq];exact jB.rep kn
    ·simp only [execOp,ho,EK,CQ,Sem.run_bind,Int.ofNat_eq_natCast,List.length_replicate];rw [AK,Ed];rfl
   ·cases he
  ·cases he
 ·cases he
end
section
variable {P:Program} {c:Cx} {n nx:Nat} {sl sl0:Nat→SV} {hp hp0:Nat→Option Ad} {a:Act} {o:Oper} {gs:Gd} {e:AP} {sg:BB} {nv:Nat}
theorem mZ {α:Type} (cs vs:List α) (o:Nat):setVs cs o vs=cs.take o++(vs++cs.drop (o+vs.length)):=by simp [setVs]
theorem DC.setVs {w:World} {ts:List DT} {L V:List Value} {X Y:List AV} {N1 N2 M:List Nat} {p:Nat} (h1:DC w (ts.take p) (L.take p) (X.take p) N1) (h2:DC w (ts.drop (p+V.length)) (L.drop (p+V.length)) (X.drop (p+V.length)) N2) (k:DC w ((ts.drop p).take V.length) V Y M):
  DC w ts (Go.Proofs.YtmbknelgbjlhnaaGreat.setVs L p V) (Go.Proofs.YtmbknelgbjlhnaaGreat.setVs X p Y) (N1++(M++N2)):=by
 have hk:=k.len;have ht:ts=ts.take p++((ts.drop p).take V.length++ts.drop (p+V.length)):=by rw [←List.drop_drop,List.take_append_drop,List.take_append_drop]
 rw [mZ,mZ];have hl:Y.length=V.length:=by omega
 rw [hl];have:=h1.app (k.app h2);rw [←ht]at this;exact this
theorem nP (h:A6 P c n nx sl hp a sl0 hp0 o []) {t:TypeId} {x y:Operand} (ho:o.op= .store t x y) {b g:Nat} {ix:E} {sz k:Nat} {s:SV} (r1:SR c [.da b g ix sz k] [a.eval x]) (r2:SR c [s] [a.eval y]) {el:Nat} {l:List DT} {ep:Nat} {c0:E} (hK:c.K b g) (Ea: ∀g',c.K b g'→g'≤g) (hE:c.E b=ep)
  (A4:CM P t=true) (hle:k+P.cellsOf t≤sz) (Ey:Ak P el=true∨(sz=1∧Ak P t=false)) (Dp:Ak P t=true∨P.cellsOf t=1)
  {xe:E} {us:List Nat} {ck:List Cn} (BR:O0 P hp0 [] t ((l.drop k).take (P.cellsOf t)) s=some (xe,us,ck)) (Lz: ∀q∈ck,q.den c.ρ) (BW:us.Nodup) (hb:b∉us)
  (BP: ∀(kk:IntKind) (kv:Int),ix.den c.ρ= .int kk kv→ ∃(m cap:Nat) (C:Array Value) (ys:List AV) (N1 N2:List Nat),c.H b g= .slice (some ⟨m,0,none⟩) ys.length cap∧c0.den c.ρ= .sl ys∧0<sz∧l.length=sz∧c.w.heap[m]?=some (.cells C el (0,0))∧ys.length≤cap∧cap≤maxLen∧C.size=cap*sz∧(∀y∈ys,y.cells.length=sz)∧(∀w∈C.toList.take (ys.length*sz),w.oneCell'=true)∧
   (m::(N1++N2)).Nodup∧(∀q∈m::(N1++N2),q∈(c.G b).top)∧DC c.w ((CE ys.length l).take (kv.toNat*sz+k)) ((C.toList.take (ys.length*sz)).take (kv.toNat*sz+k)) ((AM ys).take (kv.toNat*sz+k)) N1∧
   DC c.w ((CE ys.length l).drop (kv.toNat*sz+k+P.cellsOf t)) ((C.toList.take (ys.length*sz)).drop (kv.toNat*sz+k+P.cellsOf t)) ((AM ys).drop (kv.toNat*sz+k+P.cellsOf t)) N2):
  As P o c n nx sl hp [] a {c6:=ck,bt:=(b, .deep el sz l g (ep+1) (.set c0 ix (.put (.idx c0 ix) k xe (Ak P el))))::Ef us}:=by
 generalize hv:a.eval x=v at r1;cases r1 with
 |da k1 k2 k3 k4 k5 k6=>
  rename_i m0 len cap0 kk kv;obtain⟨m,cap,C,ys,N1,N2,p1,p2,p3,p4,p5,p6,p7,p8,p9,p10,p11,p12,p13,p14⟩:=BP kk kv k3;rw [k2]at p1;cases p1;have GM:kv.toNat<ys.length:=by omega
  have hmul:(kv.toNat+1)*sz≤ys.length*sz:=Nat.mul_le_mul_right _ (by omega);have E0:ys.length*sz≤cap0*sz:=Nat.mul_le_mul_right _ p6;rw [Nat.add_mul]at hmul;have Dg:C.toList.length=cap0*sz:=by simpa using p8
  obtain⟨q1,q2,q3,q4,q5,q6⟩:=mT h.eh h.gs (by rw [List.length_take,List.length_drop,p4];omega) Dp BR r2 Lz;have E5:=Lf GM;generalize Ho:(AV.sl ys).nth kv.toNat=yk at E5;have ED:=p9 yk (List.mem_of_getElem? E5);have Fb:(a.eval y).cells.toList.length=P.cellsOf t:=by simpa using q4
  obtain⟨m1,m2,m3⟩:=VD (vs:=(a.eval y).cells.toList) p5 (show(kv.toNat*sz+k)+_≤C.size by rw [Fb,p8];omega);have LQ:(C.toList.take (ys.length*sz)).length=ys.length*sz:=by rw [List.length_take,Dg];omega
  have Gc:m0∈(c.G b).top:=p12 _ (by simp);have JD: ∀q∈BL c us,q∉(c.G b).top:=fun q hq hh=>by obtain⟨u,hu,Y9⟩:=OA.1 hq;exact h.rel.gw.c7 u b (fun hh=>hb (hh▸hu)) q (by simp [GI.own,Y9]) (by simp [GI.own,hh])
  have Kw: ∀q∈BL c us,q<c.w.heap.size:=fun q hq=>by obtain⟨u,_,Y9⟩:=OA.1 hq;exact h.rel.gw.inb u q (by simp [GI.own,Y9])
  have Kv: ∀q∈(c.G b).top,q<c.w.heap.size:=fun q hq=>h.rel.gw.inb b q (by simp [GI.own,hq]);have AT: ∀q,q∈BL c us∨(q∈N1++N2)→(Cy c.w m0 (kv.toNat*sz+k) (a.eval y).cells.toList).heap[q]?=c.w.heap[q]?:=fun q hq=>by
   refine m1.block q ?_ ?_
   ·rcases hq with hq|hq
    ·exact Kw q hq
    ·exact Kv q (p12 q (by simp [Ag.1 hq]))
   ·simp only [List.mem_singleton];rintro rfl;rcases hq with hq|hq
    ·exact JD _ hq Gc
    ·exact(List.nodup_cons.1 p11).1 hq
  have hz:(yk.eb k (xe.den c.ρ) (Ak P el)).cells=setVs yk.cells k (xe.den c.ρ).cells:=by
   refine dL ?_ (fun hg=> ?_)
   ·cases hg:Ak P el with
    |true=>exact .inr rfl
    |false=>
     left;rcases Ey with h'|⟨_,h'⟩
     ·rw [hg]at h';cases h'
     ·rw [h']at q5;exact fun cs=>(q5.1 cs)
   ·rcases Ey with h'|⟨h1,h'⟩
    ·rw [hg]at h';cases h'
    ·rw [h']at q5;have PK:P.cellsOf t=1:=by rcases Dp with h2|h2;rw [h']at h2;cases h2;exact h2
     refine⟨by omega,by omega, ?_⟩;cases Zq:xe.den c.ρ<;>first|rfl|exact absurd Zq (q5.1 _)
  have DL:AM (ys.set kv.toNat (yk.eb k (xe.den c.ρ) (Ak P el)))=setVs (AM ys) (kv.toNat*sz+k) (xe.den c.ρ).cells:=
   Xk ys _ _ yk k _ p9 E5 (by rw [q3];exact hle) hz
  have FJ:((CE ys.length l).drop (kv.toNat*sz+k)).take (P.cellsOf t)=(l.drop k).take (P.cellsOf t):=by rw [←p4];exact R5 l _ _ _ _ GM (by omega)
  have AK:(execOp a.eval o).run P c.w= .ok .skip (Cy c.w m0 (kv.toNat*sz+k) (a.eval y).cells.toList):=by have:=dD (P:=P) (t:=t) (v:=a.eval y) (off:=kv.toNat*sz+k) p5 A4 q4 (by rw [q4,p8];omega) q2;simp [execOp,ho,hv,this]
  refine As.km h BW q6 hb hK Ea hE AK (hs:=(c.G b).top++BL c us) (fun q hq=>Ag.1 hq) ⟨m1.os,m1.tape,m1.output,m1.size,fun q hq hn=>m1.block q hq fun hh=>hn (by simp only [List.mem_singleton]at hh;subst hh;exact Ag.2 (.inl Gc))⟩
   (top:=m0::(N1++(BL c us++N2))) ?_ (fun q hq=> ?_) ?_
  ·have sS:=WO h.rel.gw BW;rw [List.nodup_cons,List.nodup_append]at p11;obtain⟨n1,n2,n3,n4⟩:=p11;have a1: ∀q∈BL c us,q∉N1∧q∉N2∧q≠m0:=fun q hq=>⟨fun hh=>JD q hq (p12 q (by simp [hh])),fun hh=>JD q hq (p12 q (by simp [hh])),fun hh=>JD q hq (hh▸Gc)⟩
   rw [List.nodup_cons,List.nodup_append,List.nodup_append];refine⟨fun hh=> ?_,n2,⟨sS,n3,fun p hp q hq TJ=>(a1 p hp).2.1 (TJ▸hq)⟩,fun p hp q hq TJ=> ?_⟩
   ·simp only [Ag]at hh n1;rcases hh with hh|hh|hh
    ·exact n1 (.inl hh)
    ·exact(a1 _ hh).2.2 rfl
    ·exact n1 (.inr hh)
   ·rcases Ag.1 hq with hq|hq
    ·exact(a1 q hq).1 (TJ▸hp)
    ·exact n4 p hp q hq TJ
  ·have:q∈(c.G b).top∨q∈BL c us:=by
    simp only [Ae,Ag]at hq;rcases hq with rfl|hq|hq|hq
    ·exact .inl Gc
    ·exact .inl (p12 q (by simp [hq]))
    ·exact .inr hq
    ·exact .inl (p12 q (by simp [hq]))
   refine⟨.inl (Ag.2 this),Nat.lt_of_lt_of_le ?_ m1.size⟩;rcases this with hh|hh
   ·exact Kv q hh
   ·exact Kw q hh
  ·have BF:(E.set c0 ix (.put (.idx c0 ix) k xe (Ak P el))).den c.ρ= .sl (ys.set kv.toNat (yk.eb k (xe.den c.ρ) (Ak P el))):=by
    simp only [E.den,p2,k3,AV.idx,Ho,AV.ec]
   rw [BF,k2];have Ds:(ys.set kv.toNat (yk.eb k (xe.den c.ρ) (Ak P el))).length=ys.length:=List.length_set;have:=DC.row (w:=Cy c.w m0 (kv.toNat*sz+k) (a.eval y).cells.toList) (e:=el) (z:=sz) (l:=AJ.of l) (g:=m0) (cap:=cap0) (ys:=ys.set kv.toNat (yk.eb k (xe.den c.ρ) (Ak P el))) (N1:=N1++(BL c us++N2)) (ts:= []) (vs:= []) (xs:= []) (N:= []) p3 (by rw [AJ.az];exact p4) m2 (by rw [Ds];exact p6) p7 (by rw [List.size_toArray,OC _ _ _ (by rw [Fb,Dg];omega),Array.length_toList];exact p8) (fun w hw=> ?_) ?_ ?_ .nil
   ·rw [Ds]at this;simpa using this
   ·rcases List.mem_or_eq_of_mem_set hw with hw|rfl
    ·exact p9 w hw
    ·rw [hz,OC _ _ _ (by rw [q3,ED];exact hle)];exact ED
   ·simp only [Ds,List.toList_toArray];rw [Oz _ _ _ _ (by rw [Fb];omega) (by rw [Dg];omega)];intro u hu;unfold setVs at hu;simp only [Ag]at hu;rcases hu with(hu|hu)|hu
    ·exact p10 u (List.mem_of_mem_take hu)
    ·exact q2 u hu
    ·exact p10 u (List.mem_of_mem_drop hu)
   ·simp only [Ds,List.toList_toArray];rw [Oz _ _ _ _ (by rw [Fb];omega) (by rw [Dg];omega),DL,AJ.az];refine DC.setVs (p13.frame fun q hq=>AT q (.inr (by simp [hq]))) ?_ ?_
    ·rw [Fb];exact p14.frame fun q hq=>AT q (.inr (by simp [hq]))
    ·rw [Fb,FJ];exact q1.frame fun q hq=>AT q (.inl hq)
theorem zrL (h:A6 P c n nx sl hp a sl0 hp0 o gs) {t:TypeId} {x y:Operand} (ho:o.op= .store t x y) {b g:Nat} {ix:E} {sz k:Nat} {s:SV} (Da: ¬ ∃e z g c d,look hp0 gs b=some (.row e z g c d)) (hx:Bm sl0 gs x=some (.da b g ix sz k)) (hy:Bm sl0 gs y=some s)
  (he:Lc P hp0 gs t (.da b g ix sz k) s=some e) (hc: ∀q∈e.c6,Cn.den c.ρ q):As P o c n nx sl hp gs a e:=by
 have r1:=h.de hx (by simp [ho,Op.operands]);have r2:=h.de hy (by simp [ho,Op.operands]);simp only [Lc]at he;split at he
 ·rename_i hl;exact absurd ⟨_,_,_,_,_,hl⟩ Da
 ·rename_i el sz' l g' ep c0 hl;split at he
  ·rename_i hh;obtain⟨rfl,rfl,rfl,A4,hle,Ey,Dp⟩:=hh;split at he
   ·rename_i xe us ck BR;split at he
    ·cases he
    rename_i Dv;simp only [Bool.or_eq_true,Bool.not_eq_true',not_or,Bool.not_eq_false,Bool.not_eq_true,List.contains_eq_mem,decide_eq_false_iff_not]at Dv;simp only [Ab]at he;subst he;obtain⟨e1,e2,e3,e4,e5⟩:=h.eh b _ (Cu hl h.gs);refine nP h ho r1 r2 e1 e2 e3 A4 hle (by simpa using Ey) Dp BR hc (OD Dv.1) Dv.2 fun kk kv PY=> ?_;generalize a.eval x=v at r1;cases r1 with
    |da k1 k2 k3 k4 k5 _=>
     rw [k3]at PY;cases PY;obtain⟨d1,d2,⟨a9,d3,_⟩|⟨g9,cap9,C,ys,N,d3,d4,d5,d6,d7,d8,d9,d10,d11,d12⟩⟩:=e4.inv
     ·rw [k2]at d3;cases d3;omega
     ·rw [AJ.az]at d2 d12;obtain⟨N1,N2,N3,rfl,s1,s2,s3⟩:=d12.split (kv.toNat*sz+k) (P.cellsOf t);have BW:=h.rel.gw.nodup b;simp only [GI.own,e5,List.append_nil,d5]at BW;refine⟨g9,cap9,C,ys,N1,N3,d3,d4,d1,d2,d6,d7,d8,d9,d10,d11, ?_,fun q hq=> ?_,s1,s3⟩
      ·refine List.Sublist.nodup (List.Sublist.cons_cons _ ?_) BW;rw [List.append_assoc];exact List.Sublist.append (List.Sublist.refl _) (List.sublist_append_right _ _)
      ·rw [d5];simp only [Ae,Ag]at hq ⊢;rcases hq with hq|hq|hq
       ·exact .inl hq
       ·exact .inr (.inl (.inl hq))
       ·exact .inr (.inr hq)
   ·cases he
  ·cases he
 ·rename_i el sz' l g' ep c0 i' o' u' hl;split at he
  ·rename_i hh;obtain⟨rfl,rfl,rfl,A4,rfl,sC,hle,PK,Dp,Ey⟩:=hh;have Dp:Ak P t=false:=by simpa using Dp
   split at he
   ·rename_i xe us ck BR;split at he
    ·cases he
    rename_i Dv;simp only [Bool.or_eq_true,Bool.not_eq_true',not_or,Bool.not_eq_false,Bool.not_eq_true,List.contains_eq_mem,decide_eq_false_iff_not]at Dv;simp only [Ab]at he;subst he;obtain⟨e1,e2,e3,⟨m,cap,C,ys,kk,kv,N1,N2,p1,p2,p3,p4,p5,p6,p7,p7',p8,p9,p10,p11,p12,p13,p14,p15,p16,p17,p18⟩,e5⟩:=h.eh b _ (Cu hl h.gs);refine nP h ho r1 r2 e1 e2 e3 A4 (by omega) (Ey.imp id fun hh=>⟨hh,Dp⟩) (.inr PK) (by rw [PK];exact BR) hc (OD Dv.1) Dv.2 fun kk' kv' PY=> ?_;rw [E.ah c.ρ _ _ sC,p3]at PY;cases PY;have BW:=h.rel.gw.nodup b;simp only [GI.own,e5,List.append_nil,p14]at BW;exact⟨m,cap,C,ys,N1,N2,p1,p2,p7,p7',p8,p9,p10,p11,p12,p13,BW,fun q hq=>by rw [p14];exact hq,p17,by rw [PK];exact p18⟩
   ·cases he
  ·cases he
 ·cases he
end
section
variable {P:Program} {c:Cx} {n nx:Nat} {sl sl0:Nat→SV} {hp hp0:Nat→Option Ad} {a:Act} {o:Oper} {gs:Gd} {e:AP} {sg:BB} {nv:Nat}
theorem oS {w:World} {ety sz:Nat} {p:Option Addr} {m r:Nat} {x:AV} {top N:List Nat} (h:CK w ety sz (.slice p m r) x top N): ∃xs,x= .sl xs∧xs.length=m∧m≤r∧0<sz∧(∀y∈xs,y.cells.length=sz)∧
  ((xs= []∧m=0∧r=0∧top= []∧N= [])∨ ∃g C,p=some ⟨g,0,none⟩∧r≤maxLen∧w.heap[g]?=some (.cells C ety (0,0))∧C.size=r*sz∧top= [g]∧(∀u∈C.toList.take (m*sz),u.oneCell'=true)∧Rd w (C.toList.take (m*sz)) (AM xs) N):=by
 obtain⟨xs,rfl,h2,h3,⟨rfl,⟨a,hv⟩,rfl,rfl⟩|⟨g,cap',C,hv,h6,h7,h8,h9,rfl,GD,FE⟩⟩:=h
 ·cases hv;exact⟨[],rfl,rfl,Nat.le_refl _,h3,by simp, .inl ⟨rfl,rfl,rfl,rfl,rfl⟩⟩
 ·cases hv;exact⟨xs,rfl,rfl,h6,h3,h2, .inr ⟨g,C,rfl,h7,h8,h9,rfl,GD,FE⟩⟩
theorem ztO (h:A6 P c n nx sl hp a sl0 hp0 o gs) {t:TypeId} {x:Operand} {lo hi mx:Option Operand} (ho:o.op= .slice t x lo hi mx) {s:SV} (hs:Bm sl0 gs x=some s) {l' h' m':Option SV} (Bl:Iu (Bm sl0 gs) lo=some l') (Ku:Iu (Bm sl0 gs) hi=some h') (EY:Iu (Bm sl0 gs) mx=some m') (he:Xo P hp0 gs t s l' h' m'=some e) (hc: ∀q∈e.c6,Cn.den c.ρ q):As P o c n nx sl hp gs a e:=by
 have hm:x∈o.op.operands:=by simp [ho,Op.operands]
 have LR: ∀y,lo=some y→y∈o.op.operands:=fun y hy=>by simp [ho,Op.operands,hy]
 have Jw: ∀y,hi=some y→y∈o.op.operands:=fun y hy=>by simp [ho,Op.operands,hy]
 have hx:=h.de hs hm;have ival: ∀{x:E} {kk:IntKind} {k:Int} {v:Value},SR c [.e x] [v]→x.den c.ρ= .int kk k→v= .int kk k:=by
  intro x kk k v hr hx;cases hr with
  |e h1 _ _=>exact(Fy h1 hx).1
 have ex:(execOp a.eval o).run P c.w=((Instr.sliceAt t (a.eval x) (lo.map a.eval) (hi.map a.eval) (mx.map a.eval)).run P c.w).andThen fun v w=> .ok (.value v) w:=by simp [execOp,ho]
 unfold Xo at he;split at he
 ·rename_i el0 b g Bc;have hu:=IU Bc;split at he
  ·cases he
  rename_i A4;have A4:CM P el0=true:=by simpa using A4
  have LS:mx=none:=by
   rcases Ij EY with⟨hh,_⟩|⟨_,_,_,_,hh⟩
   ·exact hh
   ·cases hh
  subst LS;split at he
  ·rename_i el z g' c0 d hl;split at he
   ·cases he
   rename_i Ax;simp only [not_or,Decidable.not_not,ne_eq]at Ax;obtain⟨rfl,rfl,rfl⟩:=Ax;obtain⟨q1,q2,N,q3,q4,q5,q6⟩:=h.eh b _ (Cu hl h.gs);generalize hv:a.eval x=v at hx ex;cases hx with
   |own k1 k2 k3=>
    rename_i p m r;rw [k2]at q3;obtain⟨xs,Ce,H7,P5,B3,AA,A2⟩:=oS q3;split at he
    ·rename_i l;simp only [Ab]at he;subst he;obtain⟨ka,ai,kb,bi,mm,d1,d2,d3,d4,d5,d6⟩:Cn.den c.ρ (.win c0 l (.len c0)):=BD hc;have YV:mm=(m:Int):=by rw [Ce]at d3;simp only [AV.len,AV.int.injEq,true_and]at d3;omega
     obtain⟨an,rfl⟩:=Int.eq_ofNat_of_zero_le d4;obtain⟨ol,BV,hol⟩: ∃ol,lo=some ol∧Bm sl0 [] ol=some (.e l):=by
      rcases Ij Bl with⟨_,hh⟩|⟨ol,sl',LJ,EA,YB⟩
      ·cases hh
      ·cases YB;exact⟨ol,LJ,EA⟩
     have LL:hi=none:=by
      rcases Ij Ku with⟨hh,_⟩|⟨_,_,_,_,hh⟩
      ·exact hh
      ·cases hh
     subst BV;subst LL;have YQ:=ival (h.de hol (LR _ rfl)) d1;have hle:an≤m:=by omega
     have AK:=bY (P:=P) (w:=c.w) (lo:=(some ol).map a.eval) (hi:=(none:Option Operand).map a.eval) hu A4 p m r an m (.inr ⟨ka,by rw [Option.map_some,YQ]⟩) (.inl ⟨rfl,rfl⟩) hle (Nat.le_refl _) P5;have:=SR.wown (c:=c) (lo:=l) (sz:=P.cellsOf el) (q':=if r=an then p else p.map (·.add (an*P.cellsOf el))) (r:=r-an) k1 k2 d1 d4 (by omega) (fun AB=>by
      rcases A2 with⟨_,Dt,_⟩|⟨g9,C,rfl,_⟩
      ·omega
      ·exact⟨g9,rfl,by rw [if_neg (by omega)];simp [Addr.add_lit],by simp⟩) .nil
     refine As.pure h (v:=sliced p an m r (P.cellsOf el)) ?_ (by simpa [sliced]using this) rfl;rw [ex];show Result.andThen (Sem.run P (Instr.sliceAt t (.slice p m r) ((some ol).map a.eval) ((none:Option Operand).map a.eval) none) c.w) _=_;rw [AK];rfl
    ·rename_i hb;simp only [Ab]at he;subst he;obtain⟨ka,ai,kb,bi,mm,d1,d2,d3,d4,d5,d6⟩:Cn.den c.ρ (.win c0 (.int .i64 0) hb):=BD hc;have YV:mm=(m:Int):=by rw [Ce]at d3;simp only [AV.len,AV.int.injEq,true_and]at d3;omega
     simp only [E.den,AV.int.injEq]at d1;obtain⟨_,rfl⟩:=d1;obtain⟨bn,rfl⟩:=Int.eq_ofNat_of_zero_le d5;obtain⟨oh,LL,sY⟩: ∃oh,hi=some oh∧Bm sl0 [] oh=some (.e hb):=by
      rcases Ij Ku with⟨_,hh⟩|⟨ol,sl',LJ,EA,YB⟩
      ·cases hh
      ·cases YB;exact⟨ol,LJ,EA⟩
     have BV:lo=none:=by
      rcases Ij Bl with⟨hh,_⟩|⟨_,_,_,_,hh⟩
      ·exact hh
      ·cases hh
     subst BV;subst LL;have YQ:=ival (h.de sY (Jw _ rfl)) d2;have hle:bn≤m:=by omega
     have AK:=bY (P:=P) (w:=c.w) (lo:=(none:Option Operand).map a.eval) (hi:=(some oh).map a.eval) hu A4 p m r 0 bn (.inl ⟨rfl,rfl⟩) (.inr ⟨kb,by rw [Option.map_some,YQ]⟩) (Nat.zero_le _) hle P5;have CG:sliced p 0 bn r (P.cellsOf el)= .slice p bn r:=by
      unfold sliced;rcases A2 with⟨_,_,rfl,_⟩|⟨g9,C,rfl,_⟩
      ·simp
      ·split<;>simp [Addr.add_lit]
     rw [CG]at AK;have Eo:(execOp a.eval o).run P c.w= .ok (.value (.slice p bn r)) c.w:=by rw [ex];show Result.andThen (Sem.run P (Instr.sliceAt t (.slice p m r) ((none:Option Operand).map a.eval) ((some oh).map a.eval) none) c.w) _=_;rw [AK];rfl
     have AS: ¬c.K b (g+1):=fun hk=>by have:=q2 _ hk;omega
     have Am:=h.rel;have C3:=Am.bb (gs:= []) (t:=b) (g:=g+1) (w':=c.w) (row:=(c.G b).top.head?) (top:=(c.G b).top) (O:=if d=true then(c.G b).O else []) (v:= .slice p bn r) (.inr (by omega)) AS ⟨rfl,rfl,rfl,Nat.le_refl _,fun _ _ _=>rfl⟩ (fun g0 D9=> .inl (List.mem_of_mem_head? D9)) (by
       rcases A2 with⟨_,_,_,ht,_⟩|⟨g9,C,_,_,_,_,ht,_⟩
       ·exact .inl ht
       ·exact .inr ⟨g9,by rw [ht];rfl,ht⟩) (by split;exact .inr rfl;exact .inl rfl)
      (.row el (P.cellsOf el) (g+1) (.win c0 (.int .i64 0) hb) d) (by intros;simp) (D3 _) (fun Fs=>by
       have Zo:(E.win c0 (.int .i64 0) hb).den c.ρ= .sl (xs.take bn):=by simp only [E.den,Ce,d2,AV.win];simp
       obtain⟨N',Bk,Tv⟩: ∃N',CK c.w el (P.cellsOf el) (.slice p bn r) (.sl (xs.take bn)) (c.G b).top N'∧ ∀q∈N',q∈N:=by
        rcases A2 with⟨rfl,Dt,rfl,ht,rfl⟩|⟨g9,C,rfl,Ea,Tx,hC,ht,h1,C8⟩
        ·have:bn=0:=by omega
         subst this;exact⟨[],⟨[],by simp,by simp,B3, .inl ⟨rfl,⟨p,rfl⟩,ht,rfl⟩⟩,by simp⟩
        ·obtain⟨N',X5,C6⟩:=C8.piece 0 (bn*P.cellsOf el);have M5:(xs.take bn).length=bn:=by rw [List.length_take];omega
         have hmul:bn*P.cellsOf el≤m*P.cellsOf el:=Nat.mul_le_mul_right _ hle;have ef:=eD xs AA 0 bn (Nat.zero_le _) (by omega);simp only [Nat.zero_mul,Nat.sub_zero,List.drop_zero]at ef C6;rw [ef,List.take_take,Nat.min_eq_left hmul]at C6;refine⟨N',⟨xs.take bn,rfl,fun y hy=>AA y (List.mem_of_mem_take hy),B3, .inr ⟨g9,r,C,by rw [M5],by rw [M5];omega,Ea,Tx,hC,ht, ?_, ?_⟩⟩,X5⟩
         ·rw [M5];intro u hu;refine h1 u ?_;have:C.toList.take (bn*P.cellsOf el)=(C.toList.take (m*P.cellsOf el)).take (bn*P.cellsOf el):=by rw [List.take_take,Nat.min_eq_left hmul]
          rw [this]at hu;exact List.mem_of_mem_take hu
         ·rw [M5];exact C6
       refine⟨.inr ⟨rfl,rfl⟩,fun g'' LH=> ?_,N', ?_,fun q hq=>Fs.ok q (Bk.me q hq) (q4 q (Tv q hq)),fun hd=> ?_,fun hd=>by simp [Cx.bb,hd]⟩
       ·rcases LH with LH|⟨_,rfl⟩
        ·have:=q2 _ LH;omega
        ·exact Nat.le_refl _
       ·have e1:(c.bb b (g+1) c.w (.slice p bn r) (c.G b).top (if d=true then(c.G b).O else [])).H b (g+1)= .slice p bn r:=by simp [Cx.bb]
        have e2:((c.bb b (g+1) c.w (.slice p bn r) (c.G b).top (if d=true then(c.G b).O else [])).G b).top=(c.G b).top:=by simp [Cx.bb]
        rw [e1,e2];show CK c.w el (P.cellsOf el) _ ((E.win c0 (.int .i64 0) hb).den c.ρ) _ N';rw [Zo];exact Bk
       ·obtain⟨u1,u2⟩:=q5 hd;have u1:N= []:=u1;subst u1;have Lv:N'= []:=List.eq_nil_iff_forall_not_mem.2 fun q hq=>by simpa using Tv q hq
        subst Lv;exact⟨rfl,by simp only [Cx.bb,if_true,hd];exact u2⟩)
     intro next Q hk
     unfold Oper.wp;rw [Eo,Oper.upon_value];refine hk _ (c.bb b (g+1) c.w (.slice p bn r) (c.G b).top (if d=true then(c.G b).O else [])) ⟨rfl,rfl,rfl,rfl,fun u hu=> ?_⟩ (C3.put (SR.mkGd (c:=c.bb b (g+1) c.w (.slice p bn r) (c.G b).top (if d=true then(c.G b).O else [])) (s:= .own b (g+1)) (v:= .slice p bn r) (.own (show _∨_ from .inr ⟨rfl,rfl⟩) (by simp [Cx.bb]) .nil) []) o.dst);rcases hu with hu|rfl
     ·exact .inl hu
     ·exact .inl (h.rel.cg _ _ k1)
    ·cases he
  ·cases he
 ·cases he
theorem zrK (z:Array Value) (hz:0<z.size) (k:Nat):(Builtin.zeroCells z k).toList=(List.replicate k z.toList).flatten:=by have:=Wk z hz k;rw [←this];rfl
theorem zxD (h:A6 P c n nx sl hp a sl0 hp0 o gs) {x:Operand} {tx:TypeId} {cl:Call} (ho:o.op= .call cl) (AA:cl.callee= .builtin .clear) (CI:cl.args.toList= [x]) (DI:cl.argTypes.toList= [tx]) {s:SV} (hs:Bm sl0 gs x=some s) (he:eQ P hp0 gs tx s=some e) (hc: ∀q∈e.c6,Cn.den c.ρ q):As P o c n nx sl hp gs a e:=by
 have Az:cl.args= #[x]:=by apply Array.ext';simp [CI]
 have FV:cl.argTypes= #[tx]:=by apply Array.ext';simp [DI]
 have hm:x∈o.op.operands:=by simp [ho,Op.operands,Call.operands,AA,Az]
 have hx:=h.de hs hm;unfold eQ at he;split at he
 ·rename_i el0 b g l z Bc;have hu:=IU Bc;split at he
  ·rename_i el z' g' c0 d hl;split at he
   ·cases he
   rename_i Ax;simp only [not_or,Bool.not_eq_true',Bool.not_eq_false,Decidable.not_not,ne_eq]at Ax;obtain⟨rfl,rfl,rfl,rfl,hz,Au⟩:=Ax;have Au:Ak P el=true∨P.cellsOf el=1:=by simpa using Au
   obtain⟨i,zv,hi,EW,Ed,B3,B6,HK⟩:=JR hz;split at he
   ·rename_i q hq;split at he
    ·rename_i w hw;have hq:D4 zv=some q:=by simpa [hi,EW]using hq
     simp only [Ab]at he;subst he;obtain⟨c1,c2⟩:=cX (w:=c.w) (ρ:=c.ρ) hq hw;have AO:=J5 h.hp (Cu hl h.gs);obtain⟨q1,q2,N,q3,q4,q5,q6⟩:=h.rel.ents b _ AO;generalize hv:a.eval x=v at hx;cases hx with
     |wown k1 k2 k3 k4 k5 k6 k7=>
      rename_i p m r q' r' kk kv;rw [k2]at q3;obtain⟨xs,Ce,H7,P5,Zi,LB,A2⟩:=oS q3;have LC:(E.bin .sub (.len c0) l).den c.ρ≠ .undef:=hc (.dfd (.bin .sub (.len c0) l)) (by simp);have Kx:kk= .i64:=by
       simp only [E.den,Ce,AV.len,k3,AV.bin]at LC;split at LC
       ·rename_i hh;rcases hh with hh|hh|hh
        ·exact hh.symm
        ·cases hh
        ·cases hh
       ·exact absurd rfl LC
      subst Kx;have BF:(E.bin .sub (.len c0) l).den c.ρ= .int .i64 ((m:Int)-kv):=by
       simp only [E.den,Ce,AV.len,k3,AV.bin,true_or,if_true,CR,H7];congr 1;have sQ:(m:Int)≤9223372036854775807:=by
        rcases A2 with⟨_,h0,_⟩|⟨_,_,_,Ea,_⟩
        ·omega
        ·have:maxLen=9223372036854775807:=rfl;omega
       exact(MB .i64 _).2 ⟨by simp [IntKind.min,IntKind.signed,IntKind.bits];omega,by simp [IntKind.max,IntKind.signed,IntKind.bits];omega⟩
      have AS:(E.app (.win c0 (.int .i64 0) l) (.rep (.bin .sub (.len c0) l) w)).den c.ρ= .sl (xs.take kv.toNat++List.replicate (m-kv.toNat) (w.den c.ρ)):=by
       have e1:(E.win c0 (.int .i64 0) l).den c.ρ= .sl (xs.take kv.toNat):=by simp only [E.den,Ce,k3,AV.win];simp
       have e2:(E.rep (.bin .sub (.len c0) l) w).den c.ρ= .sl (List.replicate (m-kv.toNat) (w.den c.ρ)):=by show AV.rep ((E.bin .sub (.len c0) l).den c.ρ) (w.den c.ρ)=_;rw [BF];simp only [AV.rep];congr 2;omega
       show AV.app _ _=_;rw [e1,e2];rfl
      have ex:(execOp a.eval o).run P c.w=((Builtin.clear_ #[tx] o.type #[.slice q' (m-kv.toNat) r']).run P c.w).andThen fun v w=> .ok (.value v) w:=by simp [execOp,ho,resolve,AA,Az,FV,invoke,builtin,hv]
      rcases Nat.eq_or_lt_of_le (show kv.toNat≤m by omega)with heq|AB
      ·
       have Bt:m-kv.toNat=0:=by omega
       have AK:(execOp a.eval o).run P c.w= .ok (.value (.tuple #[])) c.w:=by rw [ex,Bt];cases q'<;>simp [Builtin.clear_,run_underlying hu]
       have AT:(E.app (.win c0 (.int .i64 0) l) (.rep (.bin .sub (.len c0) l) w)).den c.ρ=c0.den c.ρ:=by rw [AS,Ce,Bt];simp [List.take_of_length_le (show xs.length≤kv.toNat by omega)]
       intro next Q hk
       unfold Oper.wp;rw [AK,Oper.upon_value];have C3:Rel c n sl (AW hp [(b, .row el (P.cellsOf el) g (.app (.win c0 (.int .i64 0) l) (.rep (.bin .sub (.len c0) l) w)) d)]) a:=by
        have Db: ∀u,AW hp [(b, .row el (P.cellsOf el) g (.app (.win c0 (.int .i64 0) l) (.rep (.bin .sub (.len c0) l) w)) d)] u=if u=b then some (.row el (P.cellsOf el) g (.app (.win c0 (.int .i64 0) l) (.rep (.bin .sub (.len c0) l) w)) d)else hp u:=fun u=>rfl;refine h.rel.change (fun u=>u=b) (CX.refl c) h.rel.base (fun u hu=>⟨by rw [Db,if_neg hu],rfl,rfl,fun _ hk=>hk⟩) (fun _ _ _ _=>rfl) (fun u hu=> ?_) h.rel.gw h.rel.cg (fun u f hf=> ?_)
        ·subst hu;rw [Db,if_pos rfl];refine⟨fun e' hr=> ?_,fun hn=>absurd rfl (hn _)⟩;simp only [B0]at hr;subst hr;exact⟨q1,q2,N,by rw [AT,k2];exact q3,q4,q5,q6⟩
        ·rw [Db]at hf;split at hf
         ·rename_i hu;subst hu;exact h.rel.cg _ _ k1
         ·exact h.rel.c8 u f hf
       exact hk _ c (KR.refl _ _) (C3.put ((SR.undef .nil).mkGd []) o.dst)
      ·obtain⟨b9,iS,rfl,rfl⟩:=k6 (by omega);rcases A2 with⟨_,h0,_⟩|⟨g9,C,hp',Ea,Tx,hC,ht,h1,C8⟩
       ·omega
       rw [iS]at hp';cases hp';have Dg:C.toList.length=r*P.cellsOf el:=by simpa using hC
       have iP:m*P.cellsOf el≤r*P.cellsOf el:=Nat.mul_le_mul_right _ P5;have iO:(m-kv.toNat)*P.cellsOf el+kv.toNat*P.cellsOf el=m*P.cellsOf el:=by rw [←Nat.add_mul];congr 1;omega
       have Zv:=zrK zv.cells (by omega) (m-kv.toNat);generalize hZ:(List.replicate (m-kv.toNat) zv.cells.toList).flatten=Z at Zv;have Lw:Z.length=(m-kv.toNat)*P.cellsOf el:=by rw [←hZ,List.length_flatten];simp only [List.map_replicate,List.sum_replicate_nat,Array.length_toList,Ed,B6]
       have iC: ∀u∈Z,u.oneCell'=true:=fun u hu=>by rw [←hZ]at hu;obtain⟨L,hL,hu⟩:=List.mem_flatten.1 hu;rw [List.eq_of_mem_replicate hL]at hu;exact c2 u hu
       have Qg:=cN (P:=P) (off:=kv.toNat*P.cellsOf el) Z 0 c.w C Tx (by rw [Lw,hC];omega) iC;have AK:(execOp a.eval o).run P c.w= .ok (.value (.tuple #[])) (Cy c.w b9 (kv.toNat*P.cellsOf el) Z):=by
        rw [ex];obtain⟨mm,YV⟩: ∃mm,m-kv.toNat=mm+1:=⟨m-kv.toNat-1,by omega⟩
        have tR:(zeroValue el).run P c.w= .ok zv c.w:=by simp [zeroValue,typeInfo,hi,EW]
        simp only [Nat.add_zero]at Qg;rw [YV]at Zv ⊢;simp [Builtin.clear_,run_underlying hu,tR,Zv,Qg]
       obtain⟨m1,m2,m3⟩:=VD (off:=kv.toNat*P.cellsOf el) (vs:=Z) Tx (by rw [Lw,hC];omega);have LQ:(C.toList.take (m*P.cellsOf el)).length=m*P.cellsOf el:=by rw [List.length_take,Dg];omega
       have KM:b9∈(c.G b).top:=by rw [ht];simp
       have Pv:Rd c.w Z (AM (List.replicate (m-kv.toNat) (w.den c.ρ))) []:=by rw [←hZ];exact gK c1 _
       obtain⟨n1,n2,n3,hN,s1,s2⟩:=Rd.setVs (p:=kv.toNat*P.cellsOf el) C8 Pv (by rw [LQ,Lw];omega);have tN:(w.den c.ρ).cells.length=P.cellsOf el:=by have:=c1.len;rw [←this];simp [Ed,B6]
       have rO:(AM (List.replicate (m-kv.toNat) (w.den c.ρ))).length=Z.length:=by rw [←Pv.len]
       have Fq:setVs (AM xs) (kv.toNat*P.cellsOf el) (AM (List.replicate (m-kv.toNat) (w.den c.ρ)))=AM (xs.take kv.toNat++List.replicate (m-kv.toNat) (w.den c.ρ)):=by
        have ef:=eD xs LB 0 kv.toNat (Nat.zero_le _) (by omega)
        simp only [Nat.zero_mul,Nat.sub_zero,List.drop_zero]at ef;unfold setVs;rw [ef,cR,rO,Lw,List.drop_eq_nil_of_le (by rw [OJ _ LB,H7];omega),List.append_nil]
       rw [Fq]at s1;have BP: ∀q∈n1++ []++n3,q∈N:=fun q hq=>by rw [hN];simp at hq ⊢;rcases hq with hq|hq<;>simp [hq]
       have EB: ∀q,q<c.w.heap.size→c.ok q→(Cy c.w b9 (kv.toNat*P.cellsOf el) Z).heap[q]?=c.w.heap[q]?:=by intro q hq AF;refine m1.block q hq ?_;simp only [List.mem_singleton];rintro rfl;exact AF.1 ⟨b,KM⟩
       have Ds:(xs.take kv.toNat++List.replicate (m-kv.toNat) (w.den c.ρ)).length=m:=by rw [AG,List.length_take,List.length_replicate];omega
       have C3:=h.rel.jx (t:=b) (b:=b9) (w':=Cy c.w b9 (kv.toNat*P.cellsOf el) Z) (O:=if d=true then(c.G b).O else []) AO KM (by split;exact .inr rfl;exact .inl rfl) m1 m3
        (.row el (P.cellsOf el) g (.app (.win c0 (.int .i64 0) l) (.rep (.bin .sub (.len c0) l) w)) d) (by intros;simp) (fun Fs=>by
         refine⟨q1,q2,n1++ []++n3, ?_,fun q hq=>Fs.ok q (C8.inb q (BP q hq)) (q4 q (BP q hq)),fun hd=> ?_,fun hd=>by simp [Cx.gm,hd]⟩
         ·show CK (Cy c.w b9 (kv.toNat*P.cellsOf el) Z) el (P.cellsOf el) (c.H b g) ((E.app (.win c0 (.int .i64 0) l) (.rep (.bin .sub (.len c0) l) w)).den c.ρ) _ _;rw [AS,k2,iS];refine⟨_,rfl,fun y hy=> ?_,Zi, .inr ⟨b9,r,_,by rw [Ds],by rw [Ds];exact P5,Ea,m2, ?_,by simpa [Cx.gm]using ht, ?_, ?_⟩⟩
          ·rcases Ag.1 hy with hy|hy
           ·exact LB y (List.mem_of_mem_take hy)
           ·rw [List.eq_of_mem_replicate hy];exact tN
          ·rw [List.size_toArray,OC _ _ _ (by rw [Lw,Dg];omega),Array.length_toList];exact hC
          ·simp only [Ds,List.toList_toArray];rw [Oz _ _ _ _ (by rw [Lw];omega) (by rw [Dg];omega)];intro u hu;unfold setVs at hu;simp only [Ag]at hu;rcases hu with(hu|hu)|hu
           ·exact h1 u (List.mem_of_mem_take hu)
           ·exact iC u hu
           ·exact h1 u (List.mem_of_mem_drop hu)
          ·simp only [Ds,List.toList_toArray];rw [Oz _ _ _ _ (by rw [Lw];omega) (by rw [Dg];omega)];exact s1.frame fun q hq=>EB q (C8.inb q (BP q hq)) (q4 q (BP q hq))
         ·obtain⟨u1,u2⟩:=q5 hd;have u1:N= []:=u1;subst u1;have Lv:n1++ []++n3= []:=List.eq_nil_iff_forall_not_mem.2 fun q hq=>by simpa using BP q hq
          rw [Lv];exact⟨rfl,by simp only [Cx.gm,if_true,hd];exact u2⟩)
       intro next Q hk
       unfold Oper.wp;rw [AK,Oper.upon_value];exact hk _ (c.gm _ b _) ⟨rfl,rfl,rfl,rfl,fun t ht=> .inl ht⟩ (C3.put ((SR.undef .nil).mkGd []) o.dst)
    ·cases he
   ·cases he
  ·cases he
 ·cases he
end
section
variable {P:Program} {c:Cx} {n nx:Nat} {sl sl0:Nat→SV} {hp hp0:Nat→Option Ad} {a:Act} {o:Oper} {gs:Gd} {e:AP} {sg:BB} {nv:Nat}
theorem gB {w:World}: ∀(vs:List Value) {xs:List AV} {f:List Nat} (ts:List TypeId),Rd w vs xs f→ts.length≤vs.length→CT P w ts [] [] vs xs f [] []
 | [],xs,f,ts,h,hl=>by have:ts= []:=List.eq_nil_of_length_eq_zero (by simpa using hl);subst this;cases h;exact .nil
 |v::vs, [],f,ts,h,hl=>by have:=h.len;simp at this
 |v::vs,x::xs,f,ts,h,hl=>by
  obtain⟨f1,f2,rfl,h1,h2⟩:=h.cv;cases ts with
  |nil=>exact .free h1 (gB vs [] h2 (by simp))
  |cons t ts=>exact CT.cons (h:= []) ⟨h1,rfl⟩ (gB vs ts h2 (by simpa using hl))
theorem yO (l:EL):EL.of (OW.go l)=l:=by
 induction l using EL.rec (motive_1:=fun _=>True)with
 |nil=>rfl
 |cons e es _ ih=>simp [OW.go,EL.of,ih]
 |_=>trivial
theorem xE {w:World} {ts:List TypeId} {vs:List Value} {Bs:List AV} {f o:List Nat} (h:Dk P w ts [] vs Bs f o):Bs= []:=by
 have key: ∀(ts:List TypeId),Bh ts []=false:=by
  intro ts
  induction ts with
  |nil=>rfl
  |cons t ts ih=>simp only [Bh,List.headD_nil,Bool.false_or,List.tail_nil];exact ih
 exact(dC h).2 (key ts)
theorem zzA (t:TypeId):Ha P t []=false:=by simp [Ha]
theorem mK (h:A6 P c n nx sl hp a sl0 hp0 o gs) {cl:Call} {fo:Operand} (ho:o.op= .call cl) (AA:cl.callee= .value fo) {y:E} {sf:SV} (hf:Bm sl0 gs fo=some sf) (tE: ∀v,SR c [sf] [v]→ ∃f,Rd c.w [v] [y.den c.ρ] f) {as_:List SV} (has:cl.args.toList.mapM (Bm sl0 gs)=some as_) {t:TypeId}
  (he:OW P hp0 gs nv t y as_=some e) (AX: ∀c',e.call=some c'→ ∃r,c.ρ[nv]?=some r∧G6 (CY P sg) c'.fn ((EL.of c'.args).den c.ρ) c.ρ r):As P o c n nx sl hp gs a e:=by
 have YT:fo∈o.op.operands:=by simp [ho,Op.operands,Call.operands,AA]
 have YS: ∀x∈cl.args.toList,x∈o.op.operands:=fun x hx=>by
  have:x∈cl.args:=by simpa using hx
  simp [ho,Op.operands,Call.operands,AA,this]
 have KH:=h.de hf YT;have Az:=nY (a:=a) (fun x hx s hs=>h.de hs (YS x hx)) has;unfold OW at he;split at he
 ·cases he
 split at he
 ·cases he
 rename_i es GJ;simp only [Ab]at he;subst he;obtain⟨r,hr,g,caps,hy,H2,Ec⟩:=AX _ rfl;rw [yO]at H2;obtain⟨f1,p1,p2⟩:=OP h.eh h.gs AN GJ Az AN (Nat.le_refl _);generalize Yw:a.eval fo=fv at KH;obtain⟨_,k1⟩:=tE _ KH;obtain⟨capv,f2,rfl,Ym⟩: ∃capv f2,fv= .func (.func g) #[] capv.toArray∧Rd c.w capv caps f2:=by
  rw [hy]at k1;cases k1 with
  |fn q1 _=>exact⟨_,_,rfl,q1⟩
 have L2:Pk P {dc:= [],res:= []} g (es.den c.ρ++caps) r:=by unfold CY at H2;rw [if_neg (by omega)]at H2;simpa using H2
 obtain⟨fn,GK,Dh,E1,_,hlen,_,Ez⟩:=L2;have C8:=p1.app Ym;have Fb:=C8.len;have AX:=Ez c.w _ _ [] [] (gB _ (fn.params.toList++ []) C8 (by rw [Fb,hlen,List.append_nil,Array.length_toList];omega)) (by simp) (by simp) (by simp) (h.rel.mq (by simp));have ex:(execOp a.eval o).run P c.w= .ok (.enter g (cl.args.map a.eval++capv.toArray)) c.w:=by
  have hb:fn.body.isNone=false:=by simpa using Dh
  simp only [execOp,ho,resolve,AA,Yw,Deferred.ofValue,Sem.run_bind,Sem.run_pure,Result.andThen_ok,invoke,callFunc,run_program,GK];simp [E1,hb]
 intro next Q hk
 unfold Oper.wp;rw [ex,Oper.upon_enter];have Lx:cl.args.map a.eval++capv.toArray=((cl.args.toList.map a.eval)++capv).toArray:=by apply Array.ext';simp
 rw [Lx];refine AX.mono ?_;rintro e' w' ⟨v,rfl,⟨R,Bs,f1',o1,f2',o2,Jy,AO,Ej,FR,Qd,PQ⟩,C5⟩;show next (a.put o.dst v) w'
 have Lu:=xE Ej;subst Lu;simp only at Jy;subst Jy;have hv:Rd w' [v] [r] []:=by
  unfold IH at AO;split at AO
  ·rename_i t' ht;unfold Fm at AO;rw [if_neg (by rw [zzA];simp)]at AO;have:=lR AO.1 Ec;subst this;exact AO.1
  ·obtain⟨vs,ys,_,rfl,_⟩:=AO;have:=Ec (.tup ys) (by simp [AV.cells]);simp [AV.scalar]at this
 obtain⟨El,_⟩:=h.rel.changes (w':=w') (recs:= []) (hs:= []) (gs:=gs) h.gs C5 (by simp) (by simp) (by simp) (by simp) (by simp) (by simp) (by simp);refine hk _ (c.ed w' []) ⟨rfl,rfl,rfl,rfl,fun t ht=> ?_⟩ (El.put (SR.mkGd (.e (f:= []) ?_ (by simp) .nil) gs h.gs) o.dst)
 ·rcases ht with ht|⟨r,hr,_⟩
  ·exact .inl ht
  ·simp at hr
 ·show Rd w' [v] [(E.var nv).den c.ρ] [];simp only [E.den,hr,Option.getD_some];exact hv
theorem ZC (H3: ∀f s,sg f=some s→f<1000000) (h:A6 P c n nx sl hp a sl0 hp0 o gs) (he:Bg P sg sl0 hp0 nv nx gs o=some e)
  (hc: ∀q∈e.c6,q.den c.ρ) (AX: ∀cl,e.call=some cl→ ∃r,c.ρ[nv]?=some r∧G6 (CY P sg) cl.fn ((EL.of cl.args).den c.ρ) c.ρ r) (Ck: ∀x,e.cq=some x→c.ρ[nv]?=some (.bool (I7 a o))):As P o c n nx sl hp gs a e:=by
 have Jq:=he;cases AE:o.op with
 |move x=>simp only [Bg,AE,An]at he;obtain⟨s,hs,rfl⟩:=he;exact oG h (.inl AE) hs
 |assign x=>simp only [Bg,AE,An]at he;obtain⟨s,hs,rfl⟩:=he;exact oG h (.inr AE) hs
 |pick x y z=>exact zyU h AE he hc
 |alloc t=>exact zxR h AE he hc
 |box t x=>exact wR h AE he hc
 |build t parts=>exact zxF h AE he hc
 |buildSlice t m parts=>
  simp only [Bg,AE,Ao]at he;obtain⟨ps,KE,he⟩:=he;split at he
  ·exact zrj h AE KE he hc
  ·exact zpa h AE KE he hc
 |load t x=>exact zzM h AE he hc
 |nilCheck x=>exact zsT h AE he hc
 |makeSlice t l m=>
  simp only [Bg,AE,Ao]at he;obtain⟨s1,Br,s2,AQ,he⟩:=he;split at he
  ·exact ztG h AE Br AQ he hc
  ·exact zx4 h AE Br AQ he hc
 |slice t x lo hi mx=>
  simp only [Bg,AE,Ao]at he;obtain⟨s,hs,l',Bl,h',Ku,m',EY,he⟩:=he;split at he
  ·exact ztO h AE hs Bl Ku EY he hc
  ·exact zwo h AE hs Bl Ku EY he hc
 |fieldAddr t x f=>exact zrn h AE he hc
 |field t x f=>exact zyb h AE he hc
 |extract x i=>exact zuR h AE he hc
 |store t x y=>
  simp only [Bg,AE,Ao]at he;obtain⟨p,hp',v,hv,he⟩:=he;cases p with
  |cy b k=>exact ztv h AE hp' hv he hc
  |da b g i sz k=>
   by_cases Da: ∃e z g c d,look hp0 gs b=some (.row e z g c d)
   ·exact zsU h AE Da hp' hv he hc
   ·exact zrL h AE Da hp' hv he hc
  |_=>simp [Lc]at he
 |binOp op t x y ty=>
  cases hu:P.underlying t with
  |none=>simp only [Bg,AE,Ao]at he;obtain⟨_,_,_,_,he⟩:=he;simp [O3,hu]at he
  |some d=>
   by_cases Qm: ∃fs,d= .struct fs
   ·obtain⟨fs,rfl⟩:=Qm;exact wF h AE hu he hc
   ·have KC: ∀fs,P.underlying t≠some (.struct fs):=fun fs hh=>Qm ⟨fs,by rw [hu]at hh;cases hh;rfl⟩;cases hq:e.cq with
    |none=>exact uH h AE KC he hq hc
    |some x'=>
     have E6:=Ck x' hq;simp only [Bg,AE,Ao]at he;obtain⟨s1,Br,s2,AQ,he⟩:=he;have r1:=h.de Br (by simp [AE,Op.operands]);have r2:=h.de AQ (by simp [AE,Op.operands]);unfold O3 at he;split at he
     ·rename_i el EC;have CG: ∀xq,A5 hp0 gs AN s1=some xq→Cn.den c.ρ (.dfd (.len xq))→ ∃p q r,a.eval x= .slice p q r:=by
       intro xq H8 hd;obtain⟨f,q1,_⟩:=h.j9 Br (by simp [AE,Op.operands]) H8;have hd:(xq.den c.ρ).len≠ .undef:=hd;cases Ba:xq.den c.ρ<;>simp only [Ba,AV.len,ne_eq,not_true_eq_false]at hd;rename_i xs;have hl:(xq.den c.ρ).len= .int .i64 (xs.length:Int):=by rw [Ba];rfl
       rcases OO q1 hl with⟨p,q,hv,Dt⟩|⟨b,o',k,q,hv,Dt⟩
       ·exact⟨_,_,_,hv⟩
       ·exact⟨_,_,_,hv⟩
      split at he
      ·simp at he;subst he;cases hq
      ·simp at he;subst he;cases hq
      ·obtain⟨xq,H8,rfl⟩:=An.1 he;obtain⟨p,q,r,hv⟩:=CG xq H8 (hc _ (by simp));exact oR h AE EC hv r2 (.inl rfl) E6 _
      ·obtain⟨xq,H8,rfl⟩:=An.1 he;obtain⟨p,q,r,hv⟩:=CG xq H8 (hc _ (by simp));exact oR h AE EC hv r2 (.inr rfl) E6 _
      ·cases he
     ·split at he
      ·simp at he;subst he;cases hq
      ·cases he
     ·split at he
      ·simp at he;subst he;cases hq
      ·cases he
     ·split at he
      ·simp at he;subst he;cases hq
      ·cases he
     ·rename_i fs EC;exact absurd EC (KC fs)
     ·cases he
 |unOp u t x=>
  cases u with
  |not=>exact wL h AE he hc
  |neg=>exact wV h AE he hc
  |_=>simp [Bg,AE]at he
 |convert src dst x=>
  have Ko:=he;simp only [Bg,AE,Ao]at Ko;obtain⟨s,_,Ko⟩:=Ko;unfold SD at Ko;split at Ko
  ·rename_i k0 k h1 h2;exact zuE h AE h1 h2 he hc
  ·rename_i h1 h2;exact zud h AE h1 h2 he hc
  ·rename_i el h1 h2;exact ztb h AE h1 h2 he hc
  ·cases Ko
 |makeFunc fr fst caps=>
  cases fr with
  |func f=>exact ztp h AE he
  |_=>simp [Bg,AE]at he
 |indexAddr t x i=>refine zrC h AE (fun hu=> ?_) he hc;simp only [Bg,AE,Ao]at he;obtain⟨_,_,_,_,he⟩:=he;simp [Ua,hu]at he
 |index t x i=>
  refine zuC h AE ?_ he hc;simp only [Bg,AE,Ao]at he;obtain⟨_,_,_,_,he⟩:=he;split at he
  ·rename_i GQ;unfold Ua at GQ;split at GQ
   ·assumption
   ·cases GQ
  ·cases he
 |call cl=>
  simp only [Bg,AE]at he;cases AA:cl.callee with
  |invoke r m=>rw [AA]at he;simp at he
  |value f=>
   rw [AA]at he;simp only [Ao]at he;obtain⟨s,hs,as_,has,he⟩:=he;cases s with
   |fn g caps=>
    have he:SL P sg hp0 gs nv nx g (as_++caps.toList)=some e:=he;refine zzK h AE AA hs has ?_ he AX;unfold SL at he;split at he
    ·rename_i fn sg' GK hh;exact H3 g sg' hh
    ·cases he
   |e y=>exact mK h AE AA hs (fun v hv=>by cases hv with|e k1 _ _=>exact⟨_,k1⟩) has he AX
   |lent i=>exact mK h AE AA hs (fun v hv=>by
     cases hv with
     |lent g1 _=>obtain⟨f,p1,p2⟩:=h.rel.base.lo _ _ g1;exact⟨f,p1.frame fun b hb=>h.rel.base.block b (p1.inb b hb) (p2 b hb)⟩) has he AX
   |_=>simp at he
  |builtin b=>
   rw [AA]at he;cases b with
   |len=>
    simp only at he;split at he
    ·rename_i x tx CI DI;exact xG h AE AA CI DI Jq hc
    ·cases he
   |append=>
    simp only at he;split at he
    ·rename_i x y tx ty CI DI;simp only [Ao]at he;obtain⟨s1,Br,s2,AQ,he⟩:=he;split at he
     ·exact zqR h AE AA CI DI Br AQ he hc
     ·exact zt4 h AE AA CI DI Br AQ he hc
    ·cases he
   |clear=>
    simp only at he;split at he
    ·rename_i x tx CI DI;simp only [Ao]at he;obtain⟨s,hs,he⟩:=he;exact zxD h AE AA CI DI hs he hc
    ·cases he
   |max=>
    simp only at he;split at he
    ·rename_i x y CI;simp only [Ao]at he;obtain⟨s1,Br,s2,AQ,he⟩:=he;exact mO h AE (.inl ⟨rfl,AA⟩) CI Br AQ he hc
    ·cases he
   |min=>
    simp only at he;split at he
    ·rename_i x y CI;simp only [Ao]at he;obtain⟨s1,Br,s2,AQ,he⟩:=he;exact mO h AE (.inr ⟨rfl,AA⟩) CI Br AQ he hc
    ·cases he
   |_=>simp at he
 |_=>simp [Bg,AE]at he
end
section
variable {P:Program} {c:Cx} {n nx:Nat} {sl sl0:Nat→SV} {hp hp0:Nat→Option Ad} {a:Act} {o:Oper} {gs:Gd} {e:AP} {sg:BB} {nv:Nat}
theorem Rel.jj (h:Rel c n sl hp a) {sl':Nat→SV} (hs: ∀i,sl' i=sl i∨SR c [sl' i] [a.tmps.getD i undef]):Rel c n sl' hp a:=
 ⟨h.defers,h.size,h.base,fun i=>by
  rcases hs i with hh|hh
  ·rw [hh];exact h.dg i
  ·exact hh,h.ents,h.off,h.gw,h.cg,h.c8⟩
theorem RW {u:Nat}: ∀{l:List Operand} {t T v m:Nat} {p:E × Nat × Nat} {s:SV},JY sl0 u l=some (t,T,v,m,p,s)→Operand.tmp t∈l∧((∃y,sl0 t= .via T v m (some p) y∧s= .own u 0)∨ ∃y k z q,sl0 t= .vptr T v m (some p) y k z q∧s= .da u 0 k z q)
 | [],_,_,_,_,_,_,h=>by simp [JY]at h
 |x::l,t,T,v,m,p,s,h=>by
  cases x with
  |tmp i=>
   simp only [JY]at h;split at h
   ·rename_i hs;simp only [Ab,Prod.mk.injEq]at h;obtain⟨rfl,rfl,rfl,rfl,rfl,rfl⟩:=h;exact⟨by simp, .inl ⟨_,hs,rfl⟩⟩
   ·rename_i hs;simp only [Ab,Prod.mk.injEq]at h;obtain⟨rfl,rfl,rfl,rfl,rfl,rfl⟩:=h;exact⟨by simp, .inr ⟨_,_,_,_,hs,rfl⟩⟩
   ·obtain⟨h1,h2⟩:=RW h;exact⟨by simp [h1],h2⟩
  |const v9=>simp only [JY]at h;obtain⟨h1,h2⟩:=RW h;exact⟨by simp [h1],h2⟩
  |func f=>simp only [JY]at h;obtain⟨h1,h2⟩:=RW h;exact⟨by simp [h1],h2⟩
  |global g=>simp only [JY]at h;obtain⟨h1,h2⟩:=RW h;exact⟨by simp [h1],h2⟩
theorem Rel.split (h:Rel c n sl hp a) {T v m u:Nat} {p:E × Nat × Nat} {hl inn:Ad} (hs:SF hp0 T v m u p=some (hl,inn)) (Bt: ∀t e,hp0 t=some e→hp t=some e) (hu: ¬c.U u) {vv:Value} (HZ:c.E T=m→Hd c T v (some p) vv):
  ∃recs c1,c1=c.ed c.w recs∧Rel c1 n sl (AW hp [(T,hl),(u,inn)]) a∧CX c c1∧c1.K u 0∧c1.H u 0=vv∧(∃q n r,vv= .slice q n r∧(q=none∨n=0∨ ∃g,q=some ⟨g,0,none⟩))∧(∀t,c1.U t→c.U t∨t=u)∧c.K T v∧c.E T=m∧c1.E T=m+1∧T≠u:=by
 have eh:EH c hp0:=fun t e hr=>h.ents t e (J5 Bt hr);obtain⟨pi,z,po⟩:=p;unfold SF at hs;split at hs
 ·rename_i e z0 l g ep c0 sN;split at hs
  ·rename_i Ax;obtain⟨rfl,rfl,iU⟩:=Ax;simp only at iU;subst iU;split at hs
   ·rename_i e2 z2 l2 BV;simp only [Ab,Prod.mk.injEq]at hs;obtain⟨rfl,rfl⟩:=hs;simp only at BV;obtain⟨q1,q2,q3,q4,q5⟩:=eh T _ (Cu sN (D3 _));obtain⟨b,n9,cap,C,ty,fz,kk,k,p1,p2,p3,p4,p5,p6,p7⟩:=HZ q3;obtain⟨d1,d2,⟨a9,d3,_⟩|⟨g9,cap9,C9,ys,N,d3,d4,d5,d6,d7,d8,d9,d10,d11,d12⟩⟩:=q4.inv
    ·rw [p1]at d3;cases d3;omega
    ·rw [p1]at d3;cases d3;rw [d6]at p3;cases p3;rw [AJ.az]at d2 d12;have s9:po<z:=by
      rcases Nat.lt_or_ge po l.length with hh|hh
      ·omega
      ·rw [List.getElem?_eq_none hh]at BV;cases BV
     have GM:k.toNat<ys.length:=by omega
     have hmul:(k.toNat+1)*z≤ys.length*z:=Nat.mul_le_mul_right _ (by omega);have E0:ys.length*z≤cap*z:=Nat.mul_le_mul_right _ d7;rw [Nat.add_mul]at hmul;have Dg:C.toList.length=cap*z:=by simpa using d9
     have AB:k.toNat*z+po<C.size:=by omega
     obtain⟨N1,N2,N3,rfl,s1,s2,s3⟩:=d12.split (k.toNat*z+po) 1;have B1:((C.toList.take (ys.length*z)).drop (k.toNat*z+po)).take 1= [vv]:=by have hv:C[k.toNat*z+po]?=some vv:=p7;rw [List.drop_take,List.take_take,Nat.min_eq_left (by omega),List.drop_eq_getElem_cons (by simpa using AB),List.take_succ_cons,List.take_zero];rw [Array.getElem?_eq_getElem AB]at hv;simpa using hv
     have Ho:=Lf GM;generalize L9:(AV.sl ys).nth k.toNat=yk at Ho;have ED:=d10 yk (List.mem_of_getElem? Ho);have Fq:((AM ys).drop (k.toNat*z+po)).take 1= [(E.fld (.idx c0 pi) po 1 false).den c.ρ]:=by rw [Sc ys d10 _ _ Ho po 1 (by omega),List.drop_eq_getElem_cons (by omega),List.take_succ_cons,List.take_zero];simp only [E.den,d4,p4,AV.idx,L9,AV.fld];simp [show po<yk.cells.length by omega]
     have A4:((CE ys.length l).drop (k.toNat*z+po)).take 1= [.row e2 z2 l2]:=by
      rw [←d2,R5 l _ _ _ _ GM (by omega)];have HW:po<l.length:=by omega
      rw [List.drop_eq_getElem_cons HW,List.take_succ_cons,List.take_zero];rw [List.getElem?_eq_getElem HW]at BV;simpa using BV
     rw [B1,Fq,A4]at s2;have Fp:=h.cg _ _ q1;have HG:T≠u:=fun hh=>hu (hh▸Fp);have BW:=h.gw.nodup T;simp only [GI.own,q5,List.append_nil,d5]at BW;have AO: ∀r∈([⟨T,none,b::(N1++N3), .hol e z l g (ep+1) c0 pi po u⟩,⟨u,some vv,N2,if l2.toList.all DT.cd then .row e2 z2 0 (.fld (.idx c0 pi) po 1 false) true else .deep e2 z2 l2.toList 0 0 (.fld (.idx c0 pi) po 1 false)⟩]:List AD),r.new.isSome=true→ ¬c.U r.tag:=fun r hr hs=>by
      simp only [Ae,List.not_mem_nil,or_false]at hr;rcases hr with rfl|rfl
      ·cases hs
      ·exact hu
     refine⟨[⟨T,none,b::(N1++N3), .hol e z l g (ep+1) c0 pi po u⟩,⟨u,some vv,N2,if l2.toList.all DT.cd then .row e2 z2 0 (.fld (.idx c0 pi) po 1 false) true else .deep e2 z2 l2.toList 0 0 (.fld (.idx c0 pi) po 1 false)⟩],_,rfl, ?_⟩;generalize A3:([⟨T,none,b::(N1++N3), .hol e z l g (ep+1) c0 pi po u⟩,⟨u,some vv,N2,if l2.toList.all DT.cd then .row e2 z2 0 (.fld (.idx c0 pi) po 1 false) true else .deep e2 z2 l2.toList 0 0 (.fld (.idx c0 pi) po 1 false)⟩]:List AD)=recs at AO;have hn:(recs.map AD.tag).Nodup:=by rw [←A3];simp [HG]
     have aft:=Cx.eg (w':=c.w) h.cg hn AO;have Du:(⟨T,none,b::(N1++N3), .hol e z l g (ep+1) c0 pi po u⟩:AD)∈recs:=by rw [←A3];simp
     have C4:(⟨u,some vv,N2,if l2.toList.all DT.cd then .row e2 z2 0 (.fld (.idx c0 pi) po 1 false) true else .deep e2 z2 l2.toList 0 0 (.fld (.idx c0 pi) po 1 false)⟩:AD)∈recs:=by rw [←A3];simp
     obtain⟨k1,k2,k3⟩:=aft.new _ C4 vv rfl;have kgT:=aft.G _ Du;have keT:=aft.im _ Du rfl;have kgu:=aft.G _ C4;have keu:=aft.j8 _ C4 rfl;obtain⟨kT1,kT2⟩:=aft.K T g q1;simp only at k1 k2 k3 kgT keT kgu keu;have KD: ∀q,q∈b::(N1++N3)∨q∈N2→q∈(c.G T).top:=fun q hq=>by rw [d5];simp only [Ae,Ag]at hq ⊢;rcases hq with(hq|hq|hq)|hq<;>simp [hq]
     obtain⟨Am,Bw⟩:=h.changes (recs:=recs) (gs:= []) (hs:=(c.G T).top) (D3 _) (Mod.refl _ c.w) hn AO (fun q hq=>⟨_,Du,hq⟩) (by
       rw [←A3];simp only [List.flatMap_cons,List.flatMap_nil,List.append_nil];rw [List.nodup_cons]at BW;obtain⟨n1,n2⟩:=BW;rw [List.append_assoc,List.nodup_append,List.nodup_append]at n2;obtain⟨a1,⟨a2,a3,a4⟩,a5⟩:=n2;rw [List.cons_append,List.nodup_cons,List.nodup_append,List.nodup_append];refine⟨fun hh=>n1 ?_,⟨a1,a3,fun x hx y hy=>a5 x hx y (Ag.2 (.inr hy))⟩,a2,fun x hx y hy Fc=> ?_⟩
       ·simp only [Ag]at hh ⊢;rcases hh with(hh|hh)|hh<;>simp [hh]
       ·rcases Ag.1 hx with hx|hx
        ·exact a5 x hx y (Ag.2 (.inl hy)) Fc
        ·exact a4 y hy x hx Fc.symm)
      (fun r hr q hq=>by
       have:q∈(c.G T).top:=by
        rw [←A3]at hr;simp only [Ae,List.not_mem_nil,or_false]at hr;rcases hr with rfl|rfl
        ·exact KD q (.inl hq)
        ·exact KD q (.inr hq)
       exact⟨.inl this,h.gw.inb T q (by simp [GI.own,this])⟩)
      (fun r hr=>by
       rw [←A3]at hr;simp only [Ae,List.not_mem_nil,or_false]at hr;rcases hr with rfl|rfl
       ·intros;simp
       ·intros;simp only;split<;>simp)
      (fun hk r hr=>by
       rw [←A3]at hr;simp only [Ae,List.not_mem_nil,or_false]at hr;rcases hr with rfl|rfl
       ·refine⟨kT1,fun g' Cc=>q2 g' (aft.old T Fp g' Cc),by rw [keT,q3], ?_,by rw [kgT]⟩;rw [kT2,p1,kgT];exact⟨b,cap,C,ys,kk,k,N1,N3,rfl,d4,p4,p5,p6,s9,d1,d2,d6,d7,d8,d9,d10,d11,rfl,k1,by rw [k3];exact p7,s1,s3⟩
       ·simp only;split
        ·rename_i hf;have Bk:=s2.mj hf;refine⟨k1,k2, [], ?_,by simp,fun _=>⟨rfl,by rw [kgu]⟩,fun _=>by rw [kgu]⟩;rw [k3,kgu];exact Bk
        ·refine⟨k1,k2,keu, ?_,by rw [kgu]⟩;rw [k3,kgu,AJ.dd];exact s2)
     refine⟨?_,Bw,k1,k3, ?_,fun t ht=> ?_,q1,q3,by rw [keT,q3],HG⟩
     ·have:(recs.map fun r=>(r.tag,Co [] r.bt))= [(T, .hol e z l g (ep+1) c0 pi po u),(u,if l2.toList.all DT.cd then .row e2 z2 0 (.fld (.idx c0 pi) po 1 false) true else .deep e2 z2 l2.toList 0 0 (.fld (.idx c0 pi) po 1 false))]:=by
       rw [←A3];simp [Co]
      rw [this]at Am;exact Am
     ·obtain⟨_,_,⟨a9,h1,_⟩|⟨g9,cap9,C9,ys9,N9,h1,_⟩⟩:=s2.inv
      ·exact⟨a9,0,0,h1, .inr (.inl rfl)⟩
      ·exact⟨_,_,_,h1, .inr (.inr ⟨g9,rfl⟩)⟩
     ·rcases ht with ht|⟨r,hr,rfl⟩
      ·exact .inl ht
      ·rw [←A3]at hr;simp only [Ae,List.not_mem_nil,or_false]at hr;rcases hr with rfl|rfl
       ·exact .inl Fp
       ·exact .inr rfl
   ·cases hs
  ·cases hs
 ·cases hs
theorem Rel.close (h:Rel c n sl hp a) {T u:Nat} {hl r d:Ad} (hT:hp T=some hl) (hu:hp u=some r) (hr:SE P hl r=some d) (JE: ∃q1 q2 q3 q4 q5 q6 q7 q8,hl= .hol q1 q2 q3 q4 q5 q6 q7 q8 u) (HG:T≠u):
  ∃recs c1,c1=c.ed c.w recs∧Rel c1 n sl (AW hp [(T,d),(u, .dead)]) a∧(∀t,c1.U t→c.U t)∧c.E T<c1.E T:=by
 obtain⟨e,z,l,g,ep,c0,i,o',rfl⟩:=JE;have key: ∀(e2 z2:Nat) (l2:AJ) (x:E),l[o']?=some (.row e2 z2 l2)→DC c.w [.row e2 z2 l2] [c.H u 0] [x.den c.ρ] (c.G u).top→c.U u→d= .deep e z l g (ep+1) (.set c0 i (.put (.idx c0 i) o' x (Ak P e)))→(Ak P e=false→z=1)→
   ∃recs c1,c1=c.ed c.w recs∧Rel c1 n sl (AW hp [(T,d),(u, .dead)]) a∧(∀t,c1.U t→c.U t)∧c.E T<c1.E T:=by
  rintro e2 z2 l2 x BV iJ Tw rfl GF;obtain⟨q1,q2,q3,⟨b,cap,C,ys,kk,k,N1,N2,p1,p2,p3,p4,p5,p6,p7,p7',p8,p9,p10,p11,p12,p13,p14,p15,p16,p17,p18⟩,q5⟩:=h.ents T _ (by rw [hT];rfl);have Fp:=h.cg _ _ q1;have GM:k.toNat<ys.length:=by omega
  have hmul:(k.toNat+1)*z≤ys.length*z:=Nat.mul_le_mul_right _ (by omega);have E0:ys.length*z≤cap*z:=Nat.mul_le_mul_right _ p9;rw [Nat.add_mul]at hmul;have Dg:C.toList.length=cap*z:=by simpa using p11
  have AB:k.toNat*z+o'<C.size:=by omega
  have Ho:=Lf GM;generalize L9:(AV.sl ys).nth k.toNat=yk at Ho;have ED:=p12 yk (List.mem_of_getElem? Ho);obtain⟨zs,Ed⟩: ∃zs,x.den c.ρ= .sl zs:=by
   obtain⟨_,_,⟨_,_,hx,_⟩|⟨_,_,_,_,_,_,hx,_⟩⟩:=iJ.inv
   ·exact⟨_,hx⟩
   ·exact⟨_,hx⟩
  have GR:(x.den c.ρ).cells= [x.den c.ρ]:=by rw [Ed];rfl
  have hz:(yk.eb o' (x.den c.ρ) (Ak P e)).cells=setVs yk.cells o' (x.den c.ρ).cells:=by
   refine dL ?_ (fun hg=> ?_)
   ·cases hg:Ak P e with
    |true=>exact .inr rfl
    |false=>left;rw [Ed];intro cs hh;cases hh
   ·have:=GF hg;exact⟨by omega,by omega,GR⟩
  have DL:AM (ys.set k.toNat (yk.eb o' (x.den c.ρ) (Ak P e)))=setVs (AM ys) (k.toNat*z+o') (x.den c.ρ).cells:=
   Xk ys _ _ yk o' _ p12 Ho (by rw [GR];simp;omega) hz
  have FJ:((CE ys.length l).drop (k.toNat*z+o')).take 1= [.row e2 z2 l2]:=by
   rw [←p7',R5 l _ _ _ _ GM (by omega)];have HW:o'<l.length:=by omega
   rw [List.drop_eq_getElem_cons HW,List.take_succ_cons,List.take_zero];rw [List.getElem?_eq_getElem HW]at BV;simpa using BV
  have Qk:setVs (C.toList.take (ys.length*z)) (k.toNat*z+o') [c.H u 0]=C.toList.take (ys.length*z):=by
   apply List.ext_getElem?;intro j;have sJ:(C.toList.take (ys.length*z)).length=ys.length*z:=by rw [List.length_take,Dg];exact Nat.min_eq_left E0
   rw [OH _ _ _ (by rw [sJ];show k.toNat*z+o'+1≤_;omega)];split
   ·rename_i hj;simp only [AL,List.length_nil]at hj;have:j=k.toNat*z+o':=by omega
    subst this;rw [Nat.sub_self,List.getElem?_take,if_pos (by omega)];have:=p16;simpa using this.symm
   ·rfl
  have AS:DC c.w [.row e z (AJ.of l)] [c.H T g] [(E.set c0 i (.put (.idx c0 i) o' x (Ak P e))).den c.ρ] (b::(N1++((c.G u).top++N2))):=by
   have BF:(E.set c0 i (.put (.idx c0 i) o' x (Ak P e))).den c.ρ= .sl (ys.set k.toNat (yk.eb o' (x.den c.ρ) (Ak P e))):=by simp only [E.den,p2,p3,AV.idx,L9,AV.ec]
   rw [BF,p1];have Ds:(ys.set k.toNat (yk.eb o' (x.den c.ρ) (Ak P e))).length=ys.length:=List.length_set;have:=DC.row (w:=c.w) (e:=e) (z:=z) (l:=AJ.of l) (g:=b) (cap:=cap) (C:=C) (ys:=ys.set k.toNat (yk.eb o' (x.den c.ρ) (Ak P e))) (N1:=N1++((c.G u).top++N2)) (ts:= []) (vs:= []) (xs:= []) (N:= []) p7 (by rw [AJ.az];exact p7') p8 (by rw [Ds];exact p9) p10 p11 (fun w hw=>by
     rcases List.mem_or_eq_of_mem_set hw with hw|rfl
     ·exact p12 w hw
     ·rw [hz,OC _ _ _ (by rw [GR,ED];simp;omega)];exact ED) (by rw [Ds];exact p13) (by
     rw [Ds,AJ.az,DL,←Qk];refine DC.setVs p17 ?_ ?_
     ·exact p18
     ·rw [Ct,FJ,GR];exact iJ) .nil
   rw [Ds]at this;simpa using this
  have hTK:=q1;have AO: ∀r∈([⟨T,none,b::(N1++((c.G u).top++N2)), .deep e z l g (ep+1) (.set c0 i (.put (.idx c0 i) o' x (Ak P e)))⟩,⟨u,none, [], .dead⟩]:List AD),r.new.isSome=true→ ¬c.U r.tag:=fun r hr hs=>by simp only [Ae,List.not_mem_nil,or_false]at hr;rcases hr with rfl|rfl<;>cases hs
  refine⟨[⟨T,none,b::(N1++((c.G u).top++N2)), .deep e z l g (ep+1) (.set c0 i (.put (.idx c0 i) o' x (Ak P e)))⟩,⟨u,none, [], .dead⟩],_,rfl, ?_⟩;generalize A3:([⟨T,none,b::(N1++((c.G u).top++N2)), .deep e z l g (ep+1) (.set c0 i (.put (.idx c0 i) o' x (Ak P e)))⟩,⟨u,none, [], .dead⟩]:List AD)=recs at AO;have hn:(recs.map AD.tag).Nodup:=by rw [←A3];simp [HG]
  have aft:=Cx.eg (w':=c.w) h.cg hn AO;have Du:(⟨T,none,b::(N1++((c.G u).top++N2)), .deep e z l g (ep+1) (.set c0 i (.put (.idx c0 i) o' x (Ak P e)))⟩:AD)∈recs:=by rw [←A3];simp
  have C4:(⟨u,none, [], .dead⟩:AD)∈recs:=by rw [←A3];simp
  have kgT:=aft.G _ Du;have keT:=aft.im _ Du rfl;have kgu:=aft.G _ C4;obtain⟨kT1,kT2⟩:=aft.K T g q1;simp only at kgT keT kgu;have BP: ∀q,q∈b::(N1++((c.G u).top++N2))→q∈(c.G T).top∨q∈(c.G u).top:=fun q hq=>by rw [p14];simp only [Ae,Ag]at hq ⊢;rcases hq with hq|hq|hq|hq<;>simp [hq]
  have LU:=h.gw.nodup T;simp only [GI.own,q5,List.append_nil,p14]at LU;have Y1:(c.G u).top.Nodup:=by have:=h.gw.nodup u;simp only [GI.own]at this;exact(List.nodup_append.1 this).1
  have EV: ∀q∈(c.G u).top,q∉b::(N1++N2):=fun q hq hh=>h.gw.c7 u T (Ne.symm HG) q (by simp [GI.own,hq]) (by rw [←p14]at hh;simp [GI.own,hh]);obtain⟨Am,Bw⟩:=h.changes (recs:=recs) (gs:= []) (hs:=(c.G T).top++(c.G u).top) (D3 _) (Mod.refl _ c.w) hn AO (fun q hq=>by
    rcases Ag.1 hq with hq|hq
    ·exact⟨_,Du,hq⟩
    ·exact⟨_,C4,hq⟩) (by
    rw [←A3];simp only [List.flatMap_cons,List.flatMap_nil,List.append_nil];rw [List.nodup_cons,List.nodup_append]at LU;obtain⟨n1,a1,a2,a3⟩:=LU;rw [List.nodup_cons,List.nodup_append,List.nodup_append];refine⟨fun hh=> ?_,a1,⟨Y1,a2,fun x hx y hy Fc=>EV x hx (by rw [Fc];simp [hy])⟩,fun x hx y hy Fc=> ?_⟩
    ·simp only [Ag]at hh n1;rcases hh with hh|hh|hh
     ·exact n1 (.inl hh)
     ·exact EV b hh (by simp)
     ·exact n1 (.inr hh)
    ·rcases Ag.1 hy with hy|hy
     ·exact EV y hy (by rw [←Fc];simp [hx])
     ·exact a3 x hx y hy Fc)
   (fun r hr q hq=>by
    have:q∈(c.G T).top∨q∈(c.G u).top:=by
     rw [←A3]at hr;simp only [Ae,List.not_mem_nil,or_false]at hr;rcases hr with rfl|rfl
     ·exact BP q hq
     ·simp at hq
    refine⟨.inl (Ag.2 this), ?_⟩;rcases this with hh|hh
    ·exact h.gw.inb T q (by simp [GI.own,hh])
    ·exact h.gw.inb u q (by simp [GI.own,hh]))
   (fun r hr=>by rw [←A3]at hr;simp only [Ae,List.not_mem_nil,or_false]at hr;rcases hr with rfl|rfl<;>(intros;simp))
   (fun hk r hr=>by
    rw [←A3]at hr;simp only [Ae,List.not_mem_nil,or_false]at hr;rcases hr with rfl|rfl
    ·exact⟨kT1,fun g' Cc=>q2 g' (aft.old T Fp g' Cc),by rw [keT,q3],by rw [kT2,kgT];exact AS,by rw [kgT]⟩
    ·exact⟨by rw [kgu],by rw [kgu]⟩)
  refine⟨?_,fun t ht=> ?_,by rw [keT];omega⟩
  ·have:(recs.map fun r=>(r.tag,Co [] r.bt))= [(T, .deep e z l g (ep+1) (.set c0 i (.put (.idx c0 i) o' x (Ak P e)))),(u, .dead)]:=by
    rw [←A3];simp [Co]
   rw [this]at Am;exact Am
  ·rcases ht with ht|⟨r,hr,rfl⟩
   ·exact ht
   ·rw [←A3]at hr;simp only [Ae,List.not_mem_nil,or_false]at hr;rcases hr with rfl|rfl
    ·exact Fp
    ·exact Tw
 have Tw:c.U u:=h.c8 u r hu;unfold SE at hr;simp only at hr;split at hr
 ·rename_i e2 z2 l2 e3 z3 x BV;split at hr
  ·rename_i hh;obtain⟨hf,rfl,rfl,hlen,Au⟩:=hh;simp only [Ab]at hr;obtain⟨q1,q2,N,q4,q5,q6,q7⟩:=h.ents u _ (by rw [hu];rfl);obtain⟨hN,_⟩:=q6 rfl;have hN:N= []:=hN;subst hN;exact key _ _ _ _ BV (DC.kx q4 hf hlen) Tw hr.symm (by rcases Au with hh|hh;(rw [hh];simp);exact fun _=>hh)
  ·cases hr
 ·rename_i e2 z2 l2 e3 z3 l3 x BV;split at hr
  ·rename_i hh;obtain⟨rfl,rfl,hb,Au⟩:=hh;simp only [Ab]at hr;have hb:=AJ.of_eq hb;subst hb;obtain⟨q1,q2,q3,q4,q5⟩:=h.ents u _ (by rw [hu];rfl);rw [AJ.dd]at q4;exact key _ _ _ _ BV q4 Tw hr.symm (by rcases Au with hh|hh;(rw [hh];simp);exact fun _=>hh)
  ·cases hr
 ·cases hr
end
section
variable {P:Program} {c:Cx} {n nx:Nat} {sl sl0:Nat→SV} {hp hp0:Nat→Option Ad} {a:Act} {o:Oper} {gs:Gd} {e:AP} {sg:BB} {nv:Nat}
theorem OE (hp:Nat→Option Ad): ∀(l:List (Nat × Ad)) (t:Nat),AW hp l t=match J2 l t with|some f=>some f|none=>hp t
 | [],t=>rfl
 |(u,e)::l,t=>by
  have:=OE (fun v=>if v=u then some e else hp v) l t;simp only [AW,List.foldl_cons,J2]at this ⊢;rw [this];cases J2 l t with
  |some f=>rfl
  |none=>
   simp only;by_cases h:u=t
   ·rw [if_pos h.symm,if_pos h]
   ·rw [if_neg (Ne.symm h),if_neg h]
theorem zt5 {hp:Nat→Option Ad} {T v m u:Nat} {p:E × Nat × Nat} {h r:Ad} (hs:SF hp T v m u p=some (h,r)): ∃e z l ep c0 i o',h= .hol e z l v (m+1) c0 i o' u∧look hp [] T=some (.deep e z l v ep c0)∧ep=m:=by
 unfold SF at hs;split at hs
 ·rename_i hl;split at hs
  ·rename_i hh;obtain⟨rfl,rfl,_⟩:=hh;split at hs
   ·simp only [Ab,Prod.mk.injEq]at hs;obtain⟨rfl,_⟩:=hs;exact⟨_,_,_,_,_,_,_,rfl,hl,rfl⟩
   ·cases hs
  ·cases hs
 ·cases hs
theorem zus {h r d:Ad} {e z:Nat} {l:List DT} {g ep:Nat} {c0 i:E} {o' u:Nat} (hh:h= .hol e z l g ep c0 i o' u) (hc:SE P h r=some d): ∃x,d= .deep e z l g (ep+1) x:=by
 subst hh;unfold SE at hc;simp only at hc;split at hc
 ·split at hc
  ·simp only [Ab]at hc;exact⟨_,hc.symm⟩
  ·cases hc
 ·split at hc
  ·simp only [Ab]at hc;exact⟨_,hc.symm⟩
  ·cases hc
 ·cases hc
theorem zH (H3: ∀f s,sg f=some s→f<1000000) (h:A6 P c n nx sl hp a sl0 hp0 o []) (hu: ¬c.U (nx+999)) (he:SX P sg sl0 hp0 nv nx o=some e)
  (hc: ∀q∈e.c6,q.den c.ρ) (AX: ∀cl,e.call=some cl→ ∃r,c.ρ[nv]?=some r∧G6 (CY P sg) cl.fn ((EL.of cl.args).den c.ρ) c.ρ r):As P o c n nx sl hp [] a e:=by
 unfold SX at he;simp only at he;split at he
 ·cases he
 rename_i t T v m p s Kr;split at he
 ·cases he
 rename_i hl inn Ql;split at he
 ·cases he
 rename_i e0 Jq;split at he
 ·cases he
 rename_i Ck;have Ck:e0.cq=none:=by cases hh:e0.cq with|none=>rfl|some x=>rw [hh]at Ck;simp at Ck
 obtain⟨GN,A2⟩:=RW Kr;have GN:Operand.tmp t∈o.op.operands:=by simpa using GN
 obtain⟨fe,fz,fl,fep,fc0,fi,fo,rfl,Gb,rfl⟩:=zt5 Ql;have hE:c.E T=fep:=(h.eh T _ (Cu Gb (D3 _))).2.2.1;have DS:=h.rel.dg t;rw [←h.sl t GN]at DS;obtain⟨vv,HZ,AQ⟩: ∃vv,Hd c T v (some p) vv∧ ∀c1:Cx,c1.ρ=c.ρ→c1.K (nx+999) 0→c1.H (nx+999) 0=vv→(∃q n r,vv= .slice q n r∧(q=none∨n=0∨ ∃g,q=some ⟨g,0,none⟩))→SR c1 [s] [a.tmps.getD t undef]:=by
  rcases A2 with⟨y,CG,rfl⟩|⟨y,k,z,q,CG,rfl⟩
  ·rw [CG]at DS;generalize a.tmps.getD t undef=av at DS ⊢;cases DS with
   |via h1 h2 h3 _=>obtain⟨_,hp⟩:=h3 hE;refine⟨_,hp,fun c1 e1 k1 k2 k3=> ?_⟩;obtain⟨q,n,r,rfl,_⟩:=k3;exact .own k1 k2 .nil
  ·rw [CG]at DS;generalize a.tmps.getD t undef=av at DS ⊢;cases DS with
   |vptr h1 h2 h3 _=>
    obtain⟨b,off,len,cap,kk,kv,g1,g2,g3,g4,g5,g6,rfl⟩:=h3 hE;refine⟨_,g2,fun c1 e1 k1 k2 k3=> ?_⟩;obtain⟨q9,n9,r9,hv,hq⟩:=k3;cases hv;have E7:off=0:=by
     rcases hq with hq|hq|⟨g,hq⟩
     ·cases hq
     ·omega
     ·cases hq;rfl
    subst E7;have:=SR.da (c:=c1) (i:=k) (sz:=z) (o:=q) k1 k2 (by rw [e1];exact g3) g4 g5 .nil;simpa using this
 obtain⟨recs,c1,rfl,CF,LP,rH,Jj,tL,Yc,hKT,_,hE1,HG⟩:=h.rel.split Ql h.hp hu (fun _=>HZ);have JA:=AQ _ LP.ρ rH Jj tL;have El:=CF.jj (sl':=fun i=>if i=t then s else sl i) (fun i=>by
  by_cases hi:i=t
  ·subst hi;right;simpa using JA
  ·left;simp [hi])
 have Db: ∀x,AW hp [(T, .hol fe fz fl v (fep+1) fc0 fi fo (nx+999)),(nx+999,inn)] x=if x=nx+999 then some inn else if x=T then some (.hol fe fz fl v (fep+1) fc0 fi fo (nx+999))else hp x:=fun x=>rfl;have pre1:A6 P (c.ed c.w recs) n nx (fun i=>if i=t then s else sl i) (AW hp [(T, .hol fe fz fl v (fep+1) fc0 fi fo (nx+999)),(nx+999,inn)]) a (fun i=>if i=t then s else sl0 i) (fun w=>if w=T then some (.hol fe fz fl v (fep+1) fc0 fi fo (nx+999))else if w=nx+999 then some inn else hp0 w) o []:=by
  refine⟨El,D3 _,fun i hi=> ?_,fun x f hf=> ?_,fun x h1 h2 hx=> ?_⟩
  ·by_cases M4:i=t
   ·simp [M4]
   ·simp only [if_neg M4];exact h.sl i hi
  ·rw [Db];by_cases h1:x=T
   ·rw [if_pos h1]at hf;rw [if_neg (by rw [h1];exact HG),if_pos h1];exact hf
   ·rw [if_neg h1]at hf;by_cases h2:x=nx+999
    ·rw [if_pos h2]at hf ⊢;exact hf
    ·rw [if_neg h2]at hf;rw [if_neg h2,if_neg h1];exact h.hp x f hf
  ·rcases Yc x hx with hx|hx
   ·exact h.new x h1 h2 hx
   ·omega
 have rX: ∀(c':Cx) (a':Act) (w9:SV),Rel c' n (Cb n (fun i=>if i=t then s else sl i) o.dst w9) (fun _=>none) a'→True:=fun _ _ _ _=>trivial;have stale: ∀(c':Cx) (v':Value),c'.K T v→fep<c'.E T→SR c' [sl t] [v']:=by
  intro c' v' hk AB;rw [←h.sl t GN];rcases A2 with⟨y,CG,_⟩|⟨y,k,z,q,CG,_⟩
  ·rw [CG];exact .via hk (by omega) (fun hh=>by omega) .nil
  ·rw [CG];exact .vptr hk (by omega) (fun hh=>by omega) .nil
 have back: ∀{c':Cx} {hp':Nat→Option Ad} {a':Act} {w9:SV},Rel c' n (Cb n (fun i=>if i=t then s else sl i) o.dst w9) hp' a'→c'.K T v→fep<c'.E T→Rel c' n (Cb n sl o.dst w9) hp' a':=by
  intro c' hp' a' w9 hr hk AB;refine hr.jj fun i=> ?_;unfold Cb;by_cases h1:o.dst=some i∧i<n
  ·left;rw [if_pos h1,if_pos h1]
  ·rw [if_neg h1,if_neg h1];by_cases h2:i=t
   ·subst h2;right;exact stale _ _ hk AB
   ·left;show sl i=if i=t then s else sl i;rw [if_neg h2]
 split at he
 ·
  split at he
  ·rename_i P0;simp only [Ab]at he;subst he;have HO:=ZC H3 pre1 Jq hc AX (fun x hx=>by rw [Ck]at hx;cases hx);intro next Q hk
   refine HO next Q fun a' c' AT hr=> ?_
   have Ya:AW (AW hp [(T, .hol fe fz fl v (fep+1) fc0 fi fo (nx+999)),(nx+999,inn)]) e0.bt T=some (.hol fe fz fl v (fep+1) fc0 fi fo (nx+999)):=by rw [OE,P0,Db,if_neg HG,if_pos rfl]
   obtain⟨g1,_,g3,_⟩:=hr.ents T _ (by rw [Ya];rfl);refine hk a' c' ⟨AT.ρ,AT.A,AT.w0,AT.Mu,fun x hx=> ?_⟩ (back hr g1 (by omega));rcases AT.U x hx with hx|hx
   ·rcases Yc x hx with hx|hx
    ·exact .inl hx
    ·exact .inr ⟨by omega,by simp only [Bj];omega⟩
   ·exact .inr hx
  ·cases he
 ·split at he
  ·rename_i r' sO sL;obtain⟨d,hd,rfl⟩:=An.1 he;have HO:=ZC H3 pre1 Jq hc AX (fun x hx=>by rw [Ck]at hx;cases hx);intro next Q hk
   refine HO next Q fun a' c' AT hr=> ?_
   have Ya:AW (AW hp [(T, .hol fe fz fl v (fep+1) fc0 fi fo (nx+999)),(nx+999,inn)]) e0.bt T=some (.hol fe fz fl v (fep+1) fc0 fi fo (nx+999)):=by rw [OE,sL,Db,if_neg HG,if_pos rfl]
   have tJ:AW (AW hp [(T, .hol fe fz fl v (fep+1) fc0 fi fo (nx+999)),(nx+999,inn)]) e0.bt (nx+999)=some r':=by rw [OE,sO]
   obtain⟨recs2,c2,rfl,C7,rL,hE2⟩:=hr.close Ya tJ hd ⟨_,_,_,_,_,_,_,_,rfl⟩ HG;obtain⟨x9,rfl⟩:=zus rfl hd;have Yb:AW (AW (AW hp [(T, .hol fe fz fl v (fep+1) fc0 fi fo (nx+999)),(nx+999,inn)]) e0.bt) [(T, .deep fe fz fl v (fep+1+1) x9),(nx+999, .dead)] T=some (.deep fe fz fl v (fep+1+1) x9):=by show(if T=nx+999 then _ else if T=T then _ else _)=_;rw [if_neg HG,if_pos rfl]
   obtain⟨g1,_,g3,_⟩:=C7.ents T _ (by rw [Yb];rfl);have C3:=back C7 g1 (by omega);have A8:AW hp ((T, .hol fe fz fl v (fep+1) fc0 fi fo (nx+999))::(nx+999,inn)::e0.bt++ [(T, .deep fe fz fl v (fep+1+1) x9),(nx+999, .dead)])=AW (AW (AW hp [(T, .hol fe fz fl v (fep+1) fc0 fi fo (nx+999)),(nx+999,inn)]) e0.bt) [(T, .deep fe fz fl v (fep+1+1) x9),(nx+999, .dead)]:=by rw [←My,←My];rfl
   refine hk a' (c'.ed c'.w recs2) ⟨AT.ρ,AT.A,AT.w0,AT.Mu,fun x hx=> ?_⟩ ?_
   ·rcases AT.U x (rL x hx)with hx|hx
    ·rcases Yc x hx with hx|hx
     ·exact .inl hx
     ·exact .inr ⟨by omega,by simp only [Bj];omega⟩
    ·exact .inr hx
   ·have:=C3;rw [←A8]at this;exact this
  ·cases he
theorem zzZ (h:A6 P c n nx sl hp a sl0 hp0 o gs) {e:AP} (dp:Bool) (hd:As P o c n nx sl hp gs a e):As P o c n nx sl hp gs a (Iw dp hp0 gs e):=by
 unfold Iw;split
 ·exact hd
 ·split
  ·rename_i l hl;intro next Q hk
   refine hd next Q fun a' c' hs hr=> ?_
   have e1:AW hp0 e.bt=fun t=>match J2 e.bt t with|some f=>some f|none=>hp0 t:=funext (OE hp0 e.bt)
   have hl:CW (AW hp0 e.bt) [] (pI e.bt)=some l:=by rw [e1];exact hl
   have Kq:=hr.freeze (hp0:=AW hp0 e.bt) (fun t e' h'=>by
    rw [OE]at h' ⊢;split at h'
    ·exact h'
    ·exact h.hp t e' h') (D3 _) hl
   refine hk a' (c'.cc (l.map (·.1))) ⟨hs.ρ,hs.A,hs.w0,hs.Mu,hs.U⟩ ?_;show Rel _ _ _ (AW hp (e.bt++l)) a';rw [My];exact Kq
  ·exact hd
theorem zxX (dp:Bool) (e:AP):(Iw dp hp0 gs e).call=e.call:=by
 unfold Iw;split
 ·rfl
 ·split<;>rfl
theorem vJ (dp:Bool) (e:AP):(Iw dp hp0 gs e).c6=e.c6:=by
 unfold Iw;split
 ·rfl
 ·split<;>rfl
theorem dP (dp:Bool) (e:AP):(Iw dp hp0 gs e).cq=e.cq:=by
 unfold Iw;split
 ·rfl
 ·split<;>rfl
theorem zyS {dp:Bool} {e:AP} {x:E} (h:e.cq=some x):Iw dp hp0 gs e=e:=by unfold Iw;rw [if_pos (by simp [h])]
theorem wM (h:A6 P c n nx sl hp a sl0 hp0 o gs) {e:AP} (fz:Bool) (hd:As P o c n nx sl hp gs a e):As P o c n nx sl hp gs a (Iy fz hp0 gs e):=by
 unfold Iy;split
 ·exact hd
 ·rename_i Yg;simp only [Bool.or_eq_true,not_or]at Yg;have rY:e.bt= []:=by simpa using Yg.2
  split
  ·rename_i t g m p x hv;split
   ·rename_i y l hy hl;split
    ·rename_i HX;intro next Q hk
     refine hd next Q fun a' c' hs hr=> ?_
     rw [rY]at hr;have YA:gs= []:=by simpa using Yg.1.1.1.2
     subst YA;have hr:Rel c' n (Cb n sl o.dst e.val) hp a':=hr;have eh:EH c' hp0:=fun t e C6=>hr.ents t e (J5 h.hp C6);have Kq:=hr.freeze h.hp (D3 _) hl;refine hk a' (c'.cc (l.map (·.1))) ⟨hs.ρ,hs.A,hs.w0,hs.Mu,hs.U⟩ ?_;refine{Kq with dg:=fun i=> ?_};have h1:=hr.dg i;have h2:=Kq.dg i;unfold Cb at h1 h2 ⊢;split
     ·rename_i hi;rw [if_pos hi]at h1;obtain⟨f,q1,q2⟩:=Gt eh (D3 _) AN hy h1 AN (Nat.le_refl _);exact .e q1 (fun b hb=>RY hr eh (D3 _) hl HX (q2 b hb)) .nil
     ·rename_i hi;rw [if_neg hi]at h2;exact h2
    ·exact hd
   ·exact hd
  ·exact hd
theorem zz1 (fz:Bool) (e:AP):(Iy fz hp0 gs e).call=e.call:=by
 unfold Iy;split
 ·rfl
 ·split
  ·split
   ·split<;>rfl
   ·rfl
  ·rfl
theorem u7 (fz:Bool) (e:AP):(Iy fz hp0 gs e).c6=e.c6:=by
 unfold Iy;split
 ·rfl
 ·split
  ·split
   ·split<;>rfl
   ·rfl
  ·rfl
theorem nZ (fz:Bool) (e:AP):(Iy fz hp0 gs e).cq=e.cq:=by
 unfold Iy;split
 ·rfl
 ·split
  ·split
   ·split<;>rfl
   ·rfl
  ·rfl
theorem u6 {fz:Bool} {e:AP} {x:E} (h:e.cq=some x):Iy fz hp0 gs e=e:=by unfold Iy;rw [if_pos (by simp [h])]
theorem zE5 (H3: ∀f s,sg f=some s→f<1000000):Mb P sg (CY P sg):=by
 intro c n nx sl hp a sl0 hp0 o gs e nv h hu he hc AX Ck;unfold Kc at he;split at he
 ·rename_i e' D0;simp only [Ab]at he;subst he;rw [u7,vJ]at hc;rw [zz1,zxX]at AX;rw [nZ,dP]at Ck;exact wM h _ (zzZ h _ (ZC H3 h D0 hc AX Ck))
 ·split at he
  ·exact zH H3 h hu he hc AX
  ·cases he
theorem zvV {x:E} (he:SX P sg sl0 hp0 nv nx o=some e) (hq:e.cq=some x):False:=by
 unfold SX at he;simp only at he;split at he
 ·cases he
 split at he
 ·cases he
 split at he
 ·cases he
 rename_i e0 Jq;split at he
 ·cases he
 rename_i Ck;have Ck:e0.cq=none:=by cases hh:e0.cq with|none=>rfl|some x=>rw [hh]at Ck;simp at Ck
 split at he
 ·split at he
  ·simp only [Ab]at he;subst he;rw [Ck]at hq;cases hq
  ·cases he
 ·split at he
  ·obtain⟨d,hd,rfl⟩:=An.1 he;rw [Ck]at hq;cases hq
  ·cases he
theorem zvy {x:E} (he:Kc P sg sl0 hp0 nv nx gs o=some e) (hq:e.cq=some x):Bg P sg sl0 hp0 nv nx gs o=some e:=by
 unfold Kc at he;split at he
 ·rename_i e' D0;simp only [Ab]at he;subst he;rw [nZ,dP]at hq;rw [u6 (by rw [dP];exact hq),zyS hq];exact D0
 ·split at he
  ·exact(zvV he hq).elim
  ·cases he
theorem zEd:Ta P sg:=by
 intro c n nx sl hp a sl0 hp0 o gs e nv x h he hq hb;unfold I7 at hb;cases AE:o.op with
 |binOp op t y z ty=>
  rw [AE]at hb;simp only at hb;have he:=zvy he hq;simp only [Bg,AE,Ao]at he;obtain⟨s1,Br,s2,AQ,he⟩:=he;have key: ∀xq,A5 hp0 gs AN s1=some xq→xq.den c.ρ= .sl []:=by
   intro xq H8;obtain⟨f,q1,_⟩:=h.j9 Br (by simp [AE,Op.operands]) H8;generalize a.eval y=v at q1 hb;split at hb
   ·generalize xq.den c.ρ=d at q1;cases q1 with
    |fb _=>rfl
   ·cases hb
  unfold O3 at he;split at he
  ·split at he
   ·simp at he;subst he;cases hq
   ·simp at he;subst he;cases hq
   ·obtain⟨xq,H8,rfl⟩:=An.1 he;cases hq;exact key _ H8
   ·obtain⟨xq,H8,rfl⟩:=An.1 he;cases hq;exact key _ H8
   ·cases he
  ·split at he
   ·simp at he;subst he;cases hq
   ·cases he
  ·split at he
   ·simp at he;subst he;cases hq
   ·cases he
  ·split at he
   ·simp at he;subst he;cases hq
   ·cases he
  ·split at he
   ·cases he
   ·split at he
    ·split at he
     ·simp at he;subst he;cases hq
     ·simp at he;subst he;cases hq
     ·cases he
    ·cases he
  ·cases he
 |_=>rw [AE]at hb;simp at hb
end
end Go.Proofs.YtmbknelgbjlhnaaGreat
end

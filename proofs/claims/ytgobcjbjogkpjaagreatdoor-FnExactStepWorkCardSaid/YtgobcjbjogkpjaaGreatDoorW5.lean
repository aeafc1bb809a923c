/- Parts of a proof, joined: WP, WQ, WR, WRa, WRb, WRc, WRd, WRe, WS, WSa, WSb. -/
import Derived.Test.YtgobcjbjogkpjaaGreatDoorW4
set_option linter.unusedVariables false
set_option linter.unusedSimpArgs false
section
namespace Go.Proofs.YtgobcjbjogkpjaaGreatDoor
open Go.RowKit
theorem yqls.{u} {α:Type u} {a:α}:[a].length=1:=rfl
section
variable {P:Program} {c:Cx} {hp:Nat→Option Ent} {gs:Gd}
theorem zxz (hb:zHq c) (eh:EH c hp) (k:zfS c.ρ gs) (hU: ∀t g,c.K t g→c.U t): ∀(ss:List SV) {ts:List TypeId} {ms:List PM} {lo:List Bool} {es:List E} {bs:List PA} {us uz:List Nat} {vs:List Value},zC3 P hp gs ts ms lo ss=some (es,bs,us,uz)→SR c ss vs→ts.length≤ss.length→
  ∃rf lf hs,zhy P c.w ts ms lo vs (es.map (E.den c.ρ)) rf lf hs∧(∀b∈rf,c.en us b)∧(∀b∈lf,c.en uz b∨b<c.w0.heap.size∧ ¬c.Mu b)∧hs=(zeo bs).flatMap (fun t=>(c.G t).top)∧zgJ P c ts ms vs bs∧(∀u∈zeo bs,c.U u)∧(bs≠ []→gs= [])
 | [],ts,ms,lo,es,bs,us,uz,vs,h,hs,hl=>by
  simp [zC3]at h;obtain⟨rfl,rfl,rfl,rfl⟩:=h
  cases hs
  have:ts= []:=List.eq_nil_of_length_eq_zero (by simpa using hl)
  subst this
  exact⟨[], [], [], .nil,by simp,by simp,by simp [zeo], .nil,by simp [zeo],by simp⟩
 |s::ss,ts,ms,lo,es,bs,us,uz, [],h,hs,hl=>by have:=hs.len;simp at this
 |s::ss,ts,ms,lo,es,bs,us,uz,v::vs,h,hs,hl=>by
  obtain⟨r1,r2⟩:=hs.cf
  unfold zC3 at h
  split at h
  ·cases h
  rename_i ys bs' us' uz' hrec
  obtain⟨rf,lf,hs',q1,q2,qz,q3,q4,q5,q6⟩:=zxz hb eh k hU ss hrec r2 (by simp at hl ⊢;omega)
  have see1: ∀{a b:List Nat} {x:Nat},c.en a x→c.en (a++b) x:=fun h=>h.mono fun t ht=>by simp [ht]
  have see2: ∀{a b:List Nat} {x:Nat},c.en b x→c.en (a++b) x:=fun h=>h.mono fun t ht=>by simp [ht]
  split at h
  ·rename_i hm
   split at h
   ·rename_i hlo
    simp only [yqba,Bool.not_eq_true']at hlo
    obtain⟨t,ts,rfl⟩: ∃t ts',ts=t::ts':=by
     cases ts with
     |nil=>simp at hlo
     |cons t ts=>exact⟨t,ts,rfl⟩
    split at h
    ·rename_i i
     simp only [yqsi,Prod.mk.injEq]at h
     obtain⟨rfl,rfl,rfl,rfl⟩:=h
     cases r1 with
     |lent g1 _=>
      obtain⟨f,p1,p2⟩:=hb.lo _ _ g1
      have hw:Rd c.w [v] [(E.var i).den c.ρ] f:=p1.frame fun b hb'=>hb.block b (p1.inb b hb') (p2 b hb')
      exact⟨rf,f++lf,hs', .lent hlo.1 hm hw q1,q2,fun b hb'=>(yqma.1 hb').elim (fun hb'=> .inr ⟨p1.inb b hb',p2 b hb'⟩) (qz b),q3, .ro hm q4,q5,q6⟩
    ·obtain⟨x,hx,hh⟩:=yqme.1 h
     simp only [Prod.mk.injEq]at hh
     obtain⟨rfl,rfl,rfl,rfl⟩:=hh
     obtain⟨f,p1,p2⟩:=zhU eh k zad hx r1 zad (Nat.le_refl _)
     exact⟨rf,f++lf,hs', .lent hlo.1 hm p1 q1,q2,fun b hb'=>(yqma.1 hb').elim (fun hb'=> .inl (see1 (p2 b hb'))) (fun hb'=>(qz b hb').imp see2 id),q3, .ro hm q4,q5,q6⟩
   obtain⟨x,hx,hh⟩:=yqme.1 h
   simp only [Prod.mk.injEq]at hh
   obtain⟨rfl,rfl,rfl,rfl⟩:=hh
   obtain⟨f,p1,p2⟩:=zhU eh k zad hx r1 zad (Nat.le_refl _)
   have hb: ∀b∈f++rf,c.en (zcH hp gs (zad+1) [s]++us') b:=fun b hb=>by
    rcases yqma.1 hb with hb|hb
    ·exact see1 (p2 b hb)
    ·exact see2 (q2 b hb)
   cases ts with
   |nil=>exact⟨f++rf,lf,hs', .free p1 q1,hb,qz,q3, .ro hm q4,q5,q6⟩
   |cons t ts=>exact⟨f++rf,lf, []++hs', .cons (by rw [hm];exact⟨p1,rfl⟩) q1,hb,qz,q3, .ro hm q4,q5,q6⟩
  ·rename_i own own' hm
   split at h
   ·rename_i ty T hty
    split at h
    ·rename_i ty' g cs hl0
     split at h
     ·cases h
     rename_i hne
     have hne:ty'=ty:=by simpa using hne
     subst hne
     split at h
     ·rename_i xs rs vs' hxs hrs
      simp only [yqsi,Prod.mk.injEq]at h
      obtain⟨rfl,rfl,rfl,rfl⟩:=h
      obtain⟨t,ts,rfl,hpt⟩: ∃t ts',ts=t::ts'∧zDV P t=some ty':=by
       cases ts with
       |nil=>simp at hty
       |cons t ts=>exact⟨t,ts,rfl,by simpa using hty⟩
      obtain⟨b,C,g1,g2,g3,g4,g5,g6,g7⟩:=eh T _ (za2 hl0 k)
      obtain⟨f,h8,p1,p2,p3,p4,p5⟩:=zmP (P:=P) eh k hU (zau P ty') hrs g7 hxs (Nat.le_refl _)
      have hv:v= .pointer (some ⟨b,0,none⟩):=by
       cases r1 with
       |cj k1 k2 _=>rw [g2]at k2;cases k2;rfl
      refine⟨f++rf,lf,(b::h8)++hs', .cons ?_ q1,fun x hx=> ?_,qz,by simp [zeo,p3,q3,g3], .bx hm hpt hv g1 (by rw [g2,hv]) p5 q4,fun u hu=> ?_,fun _=>rfl⟩
      ·rw [hm]
       exact⟨ty',b,C,xs.den c.ρ,h8,hpt,hv,g5,g6,rfl,p1,rfl⟩
      ·rcases yqma.1 hx with hx|hx
       ·exact see1 (p2 x hx)
       ·exact see2 (q2 x hx)
      ·simp only [zeo,List.cons_append,yqmc,yqma]at hu
       rcases hu with rfl|hu|hu
       ·exact hU _ _ g1
       ·exact p5 u hu
       ·exact q5 u hu
     ·cases h
    ·cases h
   ·cases h
  ·rename_i own hm
   split at h
   ·rename_i t x hty hx
    split at h
    ·cases h
    rename_i hag
    have hag:(zfQ s).2=zaX P t:=by simpa using hag
    split at h
    ·rename_i rs vs' hrs
     simp only [yqsi,Prod.mk.injEq]at h
     obtain⟨rfl,rfl,rfl,rfl⟩:=h
     obtain⟨ts,rfl⟩: ∃ts',ts=t::ts':=by
      cases ts with
      |nil=>simp at hty
      |cons t' ts=>simp at hty;exact⟨ts,by rw [hty]⟩
     obtain⟨f,h8,p1,p2,p3,⟨vs9,p4,p5⟩,p6⟩:=zsd (P:=P) eh k hU r1 hx hag hrs
     refine⟨f++rf,lf,h8++hs', .cons (by rw [hm];exact p1) q1,fun x hx=> ?_,qz,by simp [zeo,p3,q3],by rw [hag];exact .mu hm p4 p5 q4,fun u hu=> ?_,fun _=>rfl⟩
     ·rcases yqma.1 hx with hx|hx
      ·exact see1 (p2 x hx)
      ·exact see2 (q2 x hx)
     ·simp only [zeo,yqma]at hu
      exact hu.elim (p6 u) (q5 u)
    ·cases h
   ·cases h
  ·rename_i own hm
   split at h
   ·rename_i t x hty hx
    split at h
    ·cases h
    rename_i hag
    have hag:(zfQ s).2=zaX P t:=by simpa using hag
    split at h
    ·rename_i rs vs' hrs
     simp only [yqsi,Prod.mk.injEq]at h
     obtain⟨rfl,rfl,rfl,rfl⟩:=h
     obtain⟨ts,rfl⟩: ∃ts',ts=t::ts':=by
      cases ts with
      |nil=>simp at hty
      |cons t' ts=>simp at hty;exact⟨ts,by rw [hty]⟩
     obtain⟨f,h8,p1,p2,p3,⟨vs9,p4,p5⟩,p6⟩:=zsd (P:=P) eh k hU r1 hx hag hrs
     refine⟨f++rf,lf,h8++hs', .cons (by rw [hm];exact p1) q1,fun x hx=> ?_,qz,by simp [zeo,p3,q3], .va hm p6 q4,fun u hu=> ?_,fun _=>rfl⟩
     ·rcases yqma.1 hx with hx|hx
      ·exact see1 (p2 x hx)
      ·exact see2 (q2 x hx)
     ·simp only [zeo,yqma]at hu
      exact hu.elim (p6 u) (q5 u)
    ·cases h
   ·cases h
end
inductive MuC (P:Program) (w:World):List TypeId→List Bool→List Value→List AV→List Nat→List Nat→Prop where
 |nil {fl}:MuC P w [] fl [] [] [] []
 |own {t ts fl el u us y ys top N f o}:fl.headD false=true→zfF P t=some el→(zdR P el=true∧N= []∨zdR P el=false∧zqZ P t=none)→zc2 w el (P.cellsOf el) u y top N→MuC P w ts fl.tail us ys f o→MuC P w (t::ts) fl (u::us) (y::ys) (N++f) (top++o)
 |deep {t ts fl el e z l u us y ys top f o}:fl.headD false=true→zfF P t=some el→zdR P el=false→zqZ P t=some (.row e z l)→DC w [.row e z l] [u] [y] top→MuC P w ts fl.tail us ys f o→MuC P w (t::ts) fl (u::us) (y::ys) f (top++o)
 |skip {t ts fl u us y ys f o}:(fl.headD false=true→zfF P t=none)→MuC P w ts fl.tail us ys f o→MuC P w (t::ts) fl (u::us) (y::ys) f o
inductive zeU (P:Program) (w:World):List TypeId→List PM→List Value→List AV→List Nat→List Nat→Prop where
 |nil {ms vs}:zeU P w [] ms vs [] [] []
 |ro {t ts ms v vs bs f o}:ms.headD .ro= .ro→zeU P w ts ms.tail vs bs f o→zeU P w (t::ts) ms (v::vs) bs f o
 |va {t ts ms own v vs bs f o}:ms.headD .ro= .va own→zeU P w ts ms.tail vs bs f o→zeU P w (t::ts) ms (v::vs) bs f o
 |mu {t ts ms own v vs us ys y bs f1 f o1 o}:ms.headD .ro= .mu own→(if zaX P t then v= .agg us.toArray∧y= .agg ys else us= [v]∧ys= [y])→MuC P w (zau P t) own us ys f1 o1→zeU P w ts ms.tail vs bs f o→zeU P w (t::ts) ms (v::vs) (y::bs) (f1++f) (o1++o)
 |bx {t ts ms own own' ty b C v vs ys y bs f1 o1 f o}:ms.headD .ro= .bx own own'→zDV P t=some ty→v= .pointer (some ⟨b,0,none⟩)→w.heap[b]?=some (.cells C ty (0,0))→(∀u∈C.toList,u.oneCell'=true)→y= .agg ys→zb0 P w (zau P ty) own' C.toList ys f1 o1→
   zeU P w ts ms.tail vs bs f o→zeU P w (t::ts) ms (v::vs) (y::bs) (f1++f) (b::o1++o)
section
variable {P:Program} {c:Cx} {w':World}
theorem zyU {mk:Nat→E} {ts:List TypeId} {fl:List Bool} {us:List Value} {rs:List (Option RI)} (h:znK P c ts fl us rs) (hU: ∀t g,c.K t g→c.U t): ∀{ys:List AV} {f o:List Nat} (j:Nat),MuC P w' ts fl us ys f o→(∀i y,ys[i]?=some y→(mk (j+i)).den c.ρ=y)→
  ∃recs:List Chg,zoW mk j rs=recs.map Chg.pair∧(recs.flatMap Chg.top).Sublist o∧(∀r∈recs,r.new=none∧c.U r.tag∧ ∀hs f,r.bq≠ .gd hs f)∧recs.map Chg.tag=zcm rs∧ ∀c',Aft c c' w' recs→(∀b∈f,c'.ok b)→ ∀r∈recs,znH c' r.tag r.bq:=by
 induction h with
 |nil=>
  intro ys f o j hm _
  cases hm
  exact⟨[],rfl,by simp,by simp,rfl,by simp⟩
 | @row t ts fl v vs u g el rs h1 h2 h23 h3 h4 h5 _ ih=>
  intro ys f o j hm hmk
  cases hm with
  |skip hh _=>rw [hh h1]at h2;cases h2
  |deep _ k2 k21 k22 _ _=>
   rw [h2]at k2;cases k2
   rcases h23 with hh|hh
   ·rw [hh]at k21;cases k21
   ·rw [hh]at k22;cases k22
  | @own _ _ _ el' _ _ y ys top N f o k1 k2 k23 k3 k4=>
   rw [h2]at k2;cases k2
   obtain⟨recs,e1,e2,e3,e4,e5⟩:=ih (j+1) k4 (fun i y hy=>by rw [show j+1+i=j+(i+1)from by omega];exact hmk (i+1) y (by simpa using hy))
   have hy:=hmk 0 y rfl
   refine⟨⟨u,none,top, .row el (P.cellsOf el) g (mk j) (zdR P el)⟩::recs,by simp [zoW,e1,Chg.pair],by simpa using(List.Sublist.refl top).append e2,fun r hr=> ?_,by simp [zcm,RI.tag,e4],fun c' ha hok r hr=> ?_⟩
   ·rcases yqmc.1 hr with rfl|hr
    ·exact⟨rfl,hU _ _ h3,by simp⟩
    ·exact e3 r hr
   ·rcases yqmc.1 hr with rfl|hr
    ·obtain⟨a1,a2⟩:=ha.K u g h3
     have kg:=ha.G _ (List.mem_cons_self ..)
     simp only at kg
     refine⟨a1,fun g' hg'=>h5 g' (ha.old u (hU _ _ h3) g' hg'),N, ?_,fun b hb=>hok b (by simp [hb]),fun hd=> ?_,fun _=>by rw [kg]⟩
     rotate_left
     ·rcases k23 with⟨_,h⟩|⟨h,_⟩
      ·subst h;exact⟨rfl,by rw [kg]⟩
      ·rw [h]at hd;cases hd
     have hy':(mk j).den c.ρ=y:=by simpa using hy
     rw [a2,h4,kg,ha.w,ha.ρ,hy'];exact k3
    ·exact e5 c' (ha.mono fun r hr=>by simp [hr]) (fun b hb=>hok b (by simp [hb])) r hr
 | @deep t ts fl v vs u g el e z l ep rs h1 h2 h21 h22 h3 h4 h5 h6 _ ih=>
  intro ys f o j hm hmk
  cases hm with
  |skip hh _=>rw [hh h1]at h2;cases h2
  |own _ k2 k23 _ _=>
   rw [h2]at k2;cases k2
   rcases k23 with⟨hh,_⟩|⟨_,hh⟩
   ·rw [hh]at h21;cases h21
   ·rw [hh]at h22;cases h22
  | @deep _ _ _ el' e' z' l' _ _ y ys top f o k1 k2 k21 k22 k3 k4=>
   rw [h22]at k22;cases k22
   obtain⟨recs,e1,e2,e3,e4,e5⟩:=ih (j+1) k4 (fun i y hy=>by rw [show j+1+i=j+(i+1)from by omega];exact hmk (i+1) y (by simpa using hy))
   have hy:=hmk 0 y rfl
   refine⟨⟨u,none,top, .deep e z l g (ep+1) (mk j)⟩::recs,by simp [zoW,e1,Chg.pair],by simpa using(List.Sublist.refl top).append e2,fun r hr=> ?_,by simp [zcm,RI.tag,e4],fun c' ha hok r hr=> ?_⟩
   ·rcases yqmc.1 hr with rfl|hr
    ·exact⟨rfl,hU _ _ h3,by simp⟩
    ·exact e3 r hr
   ·rcases yqmc.1 hr with rfl|hr
    ·obtain⟨a1,a2⟩:=ha.K u g h3
     have kg:=ha.G _ (List.mem_cons_self ..)
     have ke:=ha.ir _ (List.mem_cons_self ..) rfl
     simp only at kg ke
     refine⟨a1,fun g' hg'=>h5 g' (ha.old u (hU _ _ h3) g' hg'),by rw [ke,h6], ?_,by rw [kg]⟩
     have hy':(mk j).den c.ρ=y:=by simpa using hy
     rw [a2,h4,kg,ha.w,ha.ρ,hy'];exact k3
    ·exact e5 c' (ha.mono fun r hr=>by simp [hr]) (fun b hb=>hok b (by simp [hb])) r hr
 | @none t ts fl v vs rs _ _ ih=>
  intro ys f o j hm hmk
  have go: ∀{y:AV} {ys':List AV} {f' o':List Nat},ys=y::ys'→MuC P w' ts fl.tail vs ys' f' o'→(∀b∈f',b∈f)→o'.Sublist o→ ∃recs:List Chg,zoW mk j (none::rs)=recs.map Chg.pair∧(recs.flatMap Chg.top).Sublist o∧(∀r∈recs,r.new=none∧c.U r.tag∧ ∀hs f,r.bq≠ .gd hs f)∧recs.map Chg.tag=zcm (none::rs)∧ ∀c',Aft c c' w' recs→(∀b∈f,c'.ok b)→ ∀r∈recs,znH c' r.tag r.bq:=by
   rintro y ys' f' o' rfl hm' hf hs
   obtain⟨recs,e1,e2,e3,e4,e5⟩:=ih (j+1) hm' (fun i y hy=>by rw [show j+1+i=j+(i+1)from by omega];exact hmk (i+1) y (by simpa using hy))
   exact⟨recs,by simp [zoW,e1],e2.trans hs,e3,by simp [zcm]at e4 ⊢;exact e4,fun c' ha hok=>e5 c' ha fun b hb=>hok b (hf b hb)⟩
  cases hm with
  |skip _ h8=>exact go rfl h8 (fun _ h=>h) (List.Sublist.refl _)
  |own _ _ _ _ h8=>exact go rfl h8 (fun b hb=>by simp [hb]) (List.sublist_append_right _ _)
  |deep _ _ _ _ _ h8=>exact go rfl h8 (fun _ h=>h) (List.sublist_append_right _ _)
theorem zu3 (us:List Nat) (hU: ∀u∈us,c.U u): ∃recs:List Chg,zlc us=recs.map Chg.pair∧recs.flatMap Chg.top= []∧(∀r∈recs,r.new=none∧c.U r.tag∧ ∀hs f,r.bq≠ .gd hs f)∧recs.map Chg.tag=us∧ ∀c',Aft c c' w' recs→ ∀r∈recs,znH c' r.tag r.bq:=by
 induction us with
 |nil=>exact⟨[],rfl,rfl,by simp,rfl,by simp⟩
 |cons u us ih=>
  obtain⟨recs,e1,e2,e3,e4,e5⟩:=ih fun u hu=>hU u (by simp [hu])
  refine⟨⟨u,none, [], .dead⟩::recs,by simp only [zlc]at e1;simp [zlc,e1,Chg.pair],by simp [e2],fun r hr=> ?_,by simp [e4],fun c' ha r hr=> ?_⟩
  ·rcases yqmc.1 hr with rfl|hr
   ·exact⟨rfl,hU _ (by simp),by simp⟩
   ·exact e3 r hr
  ·rcases yqmc.1 hr with rfl|hr
   ·have kg:=ha.G _ (List.mem_cons_self ..)
    simp only at kg
    exact⟨by rw [kg],by rw [kg]⟩
   ·exact e5 c' (ha.mono fun r hr=>by simp [hr]) r hr
structure zBc (c:Cx) (w':World) (nx m:Nat) (l:List (Nat × Ent)) (hd o f:List Nat) (recs:List Chg):Prop where
 ents:l=recs.map Chg.pair
 mj:(recs.flatMap Chg.top).Sublist o
 new: ∀r∈recs,r.new.isSome=true→nx≤r.tag∧r.tag<nx+m
 old: ∀r∈recs,r.new=none→r.tag∈hd∧c.U r.tag
 all: ∀t∈hd,∃r∈recs,r.tag=t
 nodup:hd.Nodup→(∀t,nx≤t→t<nx+m→ ¬c.U t)→(recs.map Chg.tag).Nodup
 ne: ∀r∈recs,∀hs f,r.bq≠ .gd hs f
 ok: ∀c',Aft c c' w' recs→(∀b∈f,c'.ok b)→ ∀r∈recs,znH c' r.tag r.bq
theorem zBc.app {nx m m':Nat} {l l':List (Nat × Ent)} {hd hd' o o' f f':List Nat} {recs recs':List Chg} (h:zBc c w' nx m l hd o f recs) (k:zBc c w' (nx+m) m' l' hd' o' f' recs'):zBc c w' nx (m+m') (l++l') (hd++hd') (o++o') (f++f') (recs++recs'):=by
 refine⟨by rw [h.ents,k.ents,List.map_append],by rw [List.flatMap_append];exact h.mj.append k.mj,fun r hr hn=> ?_,fun r hr hn=> ?_,fun t ht=> ?_,fun hn hU=> ?_,fun r hr=> ?_,fun c' ha hok r hr=> ?_⟩
 ·rcases yqma.1 hr with hr|hr
  ·have:=h.new r hr hn;omega
  ·have:=k.new r hr hn;omega
 ·rcases yqma.1 hr with hr|hr
  ·exact⟨by simp [(h.old r hr hn).1],(h.old r hr hn).2⟩
  ·exact⟨by simp [(k.old r hr hn).1],(k.old r hr hn).2⟩
 ·rcases yqma.1 ht with ht|ht
  ·obtain⟨r,hr,e⟩:=h.all t ht;exact⟨r,by simp [hr],e⟩
  ·obtain⟨r,hr,e⟩:=k.all t ht;exact⟨r,by simp [hr],e⟩
 ·rw [List.nodup_append]at hn
  rw [List.map_append,List.nodup_append]
  refine⟨h.nodup hn.1 fun t h1 h2=>hU t h1 (by omega),k.nodup hn.2.1 fun t h1 h2=>hU t (by omega) (by omega),fun t1 ht1 t2 ht2 he=> ?_⟩
  obtain⟨q1,hq1,rfl⟩:=List.mem_map.1 ht1
  obtain⟨q2,hq2,rfl⟩:=List.mem_map.1 ht2
  cases n1:q1.new with
  |none=>
   obtain⟨a1,a2⟩:=h.old q1 hq1 n1
   cases n2:q2.new with
   |none=>exact hn.2.2 _ a1 _ (k.old q2 hq2 n2).1 he
   |some v2=>
    have:=k.new q2 hq2 (by simp [n2])
    exact hU q2.tag (by omega) (by omega) (he▸a2)
  |some v1=>
   have:=h.new q1 hq1 (by simp [n1])
   cases n2:q2.new with
   |none=>exact hU q1.tag (by omega) (by omega) (he▸(k.old q2 hq2 n2).2)
   |some v2=>have:=k.new q2 hq2 (by simp [n2]);omega
 ·rcases yqma.1 hr with hr|hr
  ·exact h.ne r hr
  ·exact k.ne r hr
 ·rcases yqma.1 hr with hr|hr
  ·exact h.ok c' (ha.mono fun r hr=>by simp [hr]) (fun b hb=>hok b (by simp [hb])) r hr
  ·exact k.ok c' (ha.mono fun r hr=>by simp [hr]) (fun b hb=>hok b (by simp [hb])) r hr
theorem zBc.km {nx:Nat} {l:List (Nat × Ent)} {hd o f:List Nat} {recs:List Chg} (e1:l=recs.map Chg.pair) (e2:(recs.flatMap Chg.top).Sublist o) (e3: ∀r∈recs,r.new=none∧c.U r.tag∧ ∀hs f,r.bq≠ .gd hs f) (e4:recs.map Chg.tag=hd) (e5: ∀c',Aft c c' w' recs→(∀b∈f,c'.ok b)→ ∀r∈recs,znH c' r.tag r.bq):zBc c w' nx 0 l hd o f recs:=by
 refine⟨e1,e2,fun r hr hn=> ?_,fun r hr _=>⟨?_,(e3 r hr).2.1⟩,fun t ht=> ?_,fun hn _=>by rw [e4];exact hn,fun r hr=>(e3 r hr).2.2,fun c' ha hok=>e5 c' ha hok⟩
 ·rw [(e3 r hr).1]at hn;cases hn
 ·rw [←e4];exact List.mem_map.2 ⟨r,hr,rfl⟩
 ·rw [←e4]at ht;obtain⟨r,hr,e⟩:=List.mem_map.1 ht;exact⟨r,hr,e⟩
theorem zA3 {ts:List TypeId} {ms:List PM} {vs:List Value} {bs:List PA} (h:zgJ P c ts ms vs bs) (hU: ∀t g,c.K t g→c.U t) {r:Nat}: ∀{Bs:List AV} {f o:List Nat} (nx j:Nat),zeU P w' ts ms vs Bs f o→(∀k y,Bs[k]?=some y→(E.proj (.var r) (j+k+1)).den c.ρ=y)→
  Bs.length=zp7 bs∧ ∃recs,zBc c w' nx (zn5 P bs) (after P r nx bs j) (zeo bs) o f recs:=by
 have nilS: ∀nx,zBc c w' nx 0 [] [] [] [] []:=fun nx=>⟨rfl,by simp,by simp,by simp,by simp,by simp,by simp,by simp⟩
 induction h with
 |nil=>
  intro Bs f o nx j hb _
  cases hb
  exact⟨rfl, [],by simpa [after,zeo,zn5]using nilS nx⟩
 | @ro ts ms v vs bs hm hrest ih=>
  intro Bs f o nx j hb hB
  cases hb with
  |nil=>
   exact ih nx j .nil hB
  |ro _ h8=>exact ih nx j h8 hB
  |va h9 _=>rw [hm]at h9;cases h9
  |mu h9 _ _ _=>rw [hm]at h9;cases h9
  |bx h9 _ _ _ _ _ _ _=>rw [hm]at h9;cases h9
 | @va ts ms own v vs bs us hm hus hrest ih=>
  intro Bs f o nx j hb hB
  obtain⟨recs1,e1,e2,e3,e4,e5⟩:=zu3 (c:=c) (w':=w') us hus
  have s1:zBc c w' nx 0 (zlc us) us [] [] recs1:= .km e1 (by rw [e2];exact List.Sublist.refl _) e3 e4 fun c' ha _=>e5 c' ha
  cases hb with
  |nil=>
   obtain⟨h1,recs2,s2⟩:=ih nx j .nil hB
   exact⟨by simpa [zp7]using h1,recs1++recs2,by simpa [after,zeo,zn5]using s1.app s2⟩
  |ro h9 _=>rw [hm]at h9;cases h9
  |va _ h8=>
   obtain⟨h1,recs2,s2⟩:=ih nx j h8 hB
   exact⟨by simpa [zp7]using h1,recs1++recs2,by simpa [after,zeo,zn5]using s1.app s2⟩
  |mu h9 _ _ _=>rw [hm]at h9;cases h9
  |bx h9 _ _ _ _ _ _ _=>rw [hm]at h9;cases h9
 | @mu t ts ms own v vs bs us rs hm hus hrs hrest ih=>
  intro Bs f o nx j hb hB
  cases hb with
  |ro h9 _=>rw [hm]at h9;cases h9
  |va h9 _=>rw [hm]at h9;cases h9
  |bx h9 _ _ _ _ _ _ _=>rw [hm]at h9;cases h9
  | @mu _ _ _ own2 _ _ us2 ys y Bs f1 f o1 o h9 hg hmc h8=>
   rw [hm]at h9;cases h9
   obtain⟨h1,recs2,s2⟩:=ih nx (j+1) h8 (fun k y hy=>by rw [show j+1+k+1=j+(k+1)+1 from by omega];exact hB (k+1) y (by simpa using hy))
   have hy:=hB 0 y rfl
   have hus2:us2=us:=by
    split at hus
    ·rename_i hag
     rw [if_pos hag]at hg
     obtain⟨rfl,_⟩:=hg
     exact zsn hus
    ·rename_i hag
     rw [if_neg hag]at hg
     rw [hg.1,hus]
   subst hus2
   obtain⟨recs1,e1,e2,e3,e4,e5⟩:=zyU (w':=w') (mk:=zhZ (.proj (.var r) (j+1)) (zaX P t)) hrs hU 0 hmc (by
    intro i z hz
    split at hg
    ·rename_i hag
     rw [hag]
     exact zmR (by rw [←hg.2];exact hy) i z hz
    ·rename_i hag
     have hag':zaX P t=false:=by simpa using hag
     rw [hg.2]at hz
     cases i with
     |zero=>simp at hz;subst hz;rw [hag'];simpa [zhZ]using hy
     |succ i=>simp at hz)
   have s1:zBc c w' nx 0 _ (zcm rs) o1 f1 recs1:= .km e1 e2 e3 e4 e5
   exact⟨by simp [zp7,h1],recs1++recs2,by simpa [after,zeo,zn5]using s1.app s2⟩
 | @bx t ts ms own own' ty v vs bs T b g olds hm hpt hv hK hH hol hrest ih=>
  intro Bs f o nx j hb hB
  cases hb with
  |ro h9 _=>rw [hm]at h9;cases h9
  |va h9 _=>rw [hm]at h9;cases h9
  |mu h9 _ _ _=>rw [hm]at h9;cases h9
  | @bx _ _ _ own2 own3 ty2 b2 C _ _ ys y Bs f1 o1 f o h9 hpt2 hv2 hh hone hy0 hc h8=>
   rw [hm]at h9;cases h9
   rw [hpt]at hpt2;cases hpt2
   have hbb:b2=b:=by rw [hv]at hv2;cases hv2;rfl
   subst hbb
   obtain⟨h1,recs2,s2⟩:=ih (nx+(zau P ty).length) (j+1) h8 (fun k y hy=>by rw [show j+1+k+1=j+(k+1)+1 from by omega];exact hB (k+1) y (by simpa using hy))
   have hy:=hB 0 y rfl
   obtain⟨recs0,d1,d2,d3,d4,d5⟩:=zu3 (c:=c) (w':=w') olds hol
   have s0:zBc c w' nx 0 (zlc olds) olds [] [] recs0:= .km d1 (by rw [d2];exact List.Sublist.refl _) d3 d4 fun c' ha _=>d5 c' ha
   obtain⟨recs1,e1,e2,e3,e4,_,e5⟩:=zeH (c:=c) (nx:=nx) (mk:=zhZ (.proj (.var r) (j+1)) true) hc 0 (zmR (by rw [←hy0];exact hy))
   have hcU:=hU _ _ hK
   have s1:zBc c w' nx (zau P ty).length ((T, .box ty g (zar P nx (zhZ (.proj (.var r) (j+1)) true) 0 (zau P ty) own').1)::(zar P nx (zhZ (.proj (.var r) (j+1)) true) 0 (zau P ty) own').2) [T] (b2::o1) f1 (⟨T,none, [b2], .box ty g (zar P nx (zhZ (.proj (.var r) (j+1)) true) 0 (zau P ty) own').1⟩::recs1):=by
    refine⟨by simp [e1,Chg.pair], ?_,fun q hq hn=> ?_,fun q hq hn=> ?_,by simp,fun _ hnew=> ?_,fun q hq=> ?_,fun c' ha hok q hq=> ?_⟩
    ·simp only [List.flatMap_cons,e2,List.singleton_append];exact List.Sublist.refl _
    ·rcases yqmc.1 hq with rfl|hq
     ·cases hn
     ·have:=e3 q hq;omega
    ·rcases yqmc.1 hq with rfl|hq
     ·exact⟨by simp,hcU⟩
     ·have:=(e3 q hq).2.2;rw [hn]at this;cases this
    ·simp only [List.map_cons,List.nodup_cons]
     refine⟨fun hm=> ?_,e4⟩
     obtain⟨q,hq,hqt⟩:=List.mem_map.1 hm
     have:=e3 q hq
     exact hnew q.tag (by omega) (by omega) (hqt▸hcU)
    ·rcases yqmc.1 hq with rfl|hq
     ·simp
     ·intro hs f he
      obtain⟨q1,q2⟩:=e3 q hq
      have:(q.tag,q.bq)∈(zar P nx (zhZ (.proj (.var r) (j+1)) true) 0 (zau P ty) own').2:=by
       rw [e1];exact List.mem_map.2 ⟨q,hq,rfl⟩
      exact zfb _ _ _ _ _ this he
    ·obtain⟨p1,p2⟩:=e5 c' (ha.mono fun r hr=>by simp [hr]) hok
     rcases yqmc.1 hq with rfl|hq
     ·obtain⟨a1,a2⟩:=ha.K T 0 hK
      have kg:=ha.G _ (List.mem_cons_self ..)
      simp only at kg
      exact⟨b2,C,a1,by rw [a2,hH,hv],by rw [kg],by rw [kg],by rw [ha.w];exact hh,hone,p1⟩
     ·exact p2 q hq
   refine⟨by simp [zp7,h1],recs0++((⟨T,none, [b2], .box ty g (zar P nx (zhZ (.proj (.var r) (j+1)) true) 0 (zau P ty) own').1⟩::recs1)++recs2), ?_⟩
   have s3:=s0.app (s1.app s2)
   rw [Nat.zero_add]at s3
   refine⟨by simpa [after]using s3.ents,s3.mj,s3.new,fun q hq hn=> ?_,fun t ht=> ?_,fun hn hnew=> ?_,s3.ne,s3.ok⟩
   ·have:=s3.old q hq hn
    simp only [zeo,List.cons_append,yqmc,yqma,List.not_mem_nil,or_false,List.nil_append]at this ⊢
    exact⟨by rcases this.1 with h|h|h;exact .inr (.inl h);exact .inl h;exact .inr (.inr h),this.2⟩
   ·refine s3.all t ?_
    simp only [zeo,List.cons_append,yqmc,yqma,List.nil_append]at ht ⊢
    rcases ht with h|h|h
    ·exact .inr (.inl h)
    ·exact .inl h
    ·exact .inr (.inr h)
   ·refine s3.nodup ?_ hnew
    simp only [zeo,List.cons_append,List.nodup_cons,List.nodup_append,yqma,not_or,List.nil_append]at hn ⊢
    obtain⟨⟨n1,n2⟩,n3,n4,n5⟩:=hn
    refine⟨n3,⟨n2,n4⟩,fun a ha b hb=> ?_⟩
    rcases yqmc.1 hb with rfl|hb
    ·rintro rfl;exact n1 ha
    ·exact n5 a ha b hb
end
def zsT (P:Program):List TypeId→List Bool→List AV→Bool
 |t::ts,fl,y::ys=>((fl.headD false&&(zfF P t).isSome)||hasRef P t||y.scalar)&&zsT P ts fl.tail ys
 |_,_,_=>true
def zEA (P:Program) (t:TypeId) (fl:List Bool) (x:AV):Bool:=if znI P t fl then zsT P (zau P t) fl (if zaX P t then x.cells else [x])else hasRef P t||x.cells.all AV.scalar
def zzc (P:Program):List TypeId→List Bool→List AV→Bool
 |t::ts,fl,x::xs=>zEA P t fl x&&zzc P ts (fl.drop (zau P t).length) xs
 |_,_,_=>true
def zFm (P:Program) (ts:List TypeId) (fl:List Bool) (R:AV):Bool:=match ts with
 | [t]=>zEA P t fl R
 |ts=>match R with
  | .tup ys=>zzc P ts fl ys
  |_=>true
def zpS (P:Program):List TypeId→List PM→List AV→Bool
 |t::ts,ms,bs=>(match ms.headD .ro with
  | .ro=>zpS P ts ms.tail bs
  | .va _=>zpS P ts ms.tail bs
  | .mu _=>zpS P ts ms.tail bs.tail
  | .bx _ own'=>(match zDV P t,bs with
   |some ty,b::_=>zsT P (zau P ty) own' b.cells
   |_,_=>true)&&zpS P ts ms.tail bs.tail)
 | [],_,_=>true
def hasBack:List TypeId→List PM→Bool
 |_::ts,ms=>(match ms.headD .ro with
  | .mu _=>true
  | .bx .. =>true
  |_=>false)||hasBack ts ms.tail
 | [],_=>false
def zmF (P:Program) (fn:Func) (s:Sig) (r:AV):Bool:=
 if hasBack (fn.params.toList++s.ft) s.cq then(match r with
  | .tup (R::bs)=>zFm P fn.resultTypes.toList s.res R&&zpS P (fn.params.toList++s.ft) s.cq bs
  |_=>false)
 else zFm P fn.resultTypes.toList s.res r
def zDW (P:Program) (w:World) (ts:List TypeId) (fl:List Bool) (v:Value) (R:AV) (f o:List Nat):Prop:=match ts with
 | [t]=>ztn P w t fl v R f o
 |ts=> ∃vs ys,v= .tuple vs.toArray∧R= .tup ys∧zq3 P w ts fl vs ys f o
structure zJv (P:Program) (fn:Func) (s:Sig) (w:World) (vs:List Value) (rf hs:List Nat) (r:AV) (v:Value) (w':World):Prop where
 ex: ∃R bs f1 o1 f2 o2,r=(match bs with| []=>R|_=> .tup (R::bs))∧zDW P w' fn.resultTypes.toList s.res v R f1 o1∧zeU P w' (fn.params.toList++s.ft) s.cq vs bs f2 o2∧(o1++o2).Nodup∧
  (∀b∈o1++o2,(b∈hs∨w.heap.size≤b)∧b<w'.heap.size)∧ ∀b∈f1++f2,b∉o1++o2∧(b∈rf∨b∈hs∨w.heap.size≤b)
 mod:Mod hs w w'
theorem Rel.nd {c:Cx} {n:Nat} {sl:Nat→SV} {hp:Nat→Option Ent} {a:Act} (h:Rel c n sl hp a) {hs:List Nat} (hh: ∀b∈hs,∃t,b∈(c.G t).top):zIX c.w (fun b=>b∈hs):=by
 obtain⟨p1,p2,p3⟩:=h.base.pk
 refine⟨Nat.le_trans p1 h.base.size,pkW.mono (fun b hb=>h.base.block b (by omega) fun hm=>by have:=p3 b hm;omega) p2,fun b hb=> ?_⟩
 obtain⟨t,ht⟩:=hh b hb
 rcases h.gw.allow t b (by simp [GI.own,ht])with k|k
 ·have:c.w0.heap.size≤b:=k
  omega
 ·exact p3 b k
def Ret (P:Program) (s:Sig) (f:Nat) (xs:List AV) (r:AV):Prop:=
 ∃fn,P.funcs[f]?=some fn∧fn.body.isSome=true∧(fn.name== "runtime.NumGoroutine")=false∧zmF P fn s r=true∧xs.length=fn.params.size+fn.nfree∧s.ft.length≤fn.nfree∧
  ∀(w:World) (vs:List Value) (rf lf hs:List Nat),zhy P w (fn.params.toList++s.ft) s.cq s.lo vs xs rf lf hs→(∀b∈hs,b∉rf)→(∀b∈hs,b∉lf)→hs.Nodup→zIX w (fun b=>b∈hs)→
   Calls P f vs.toArray w fun e w'=> ∃v,e= .returned v∧zJv P fn s w vs rf hs r v w'
def Rts (P:Program) (sg:SgT) (f:Nat) (xs:List AV) (r:AV):Prop:=
 if f<1000000 then∃s,sg f=some s∧Ret P s f xs r else Ret P {cq:= [],res:= []} (f-1000000) xs r
section
variable {P:Program} {w:World}
theorem zpv {v:Value} {x:AV} {f:List Nat} (h:Rd w [v] [x] f) (hx: ∀y∈x.cells,y.scalar=true):f= []:=by
 by_cases hag: ∃cs,x= .agg cs
 ·obtain⟨cs,rfl⟩:=hag
  obtain⟨as_,_,_,hr⟩:=zmU h rfl
  exact zhs hr hx
 ·have:x.cells= [x]:=by cases x<;>first|rfl|exact absurd ⟨_,rfl⟩ hag
  rw [this]at hx
  exact zhs h hx
theorem zBr {t el:TypeId} (h:zfF P t=some el):hasRef P t=true:=by
 have hu:=zfA h
 simp [hasRef,zdR,zau,zvo,hu]
theorem zb0.flat {ts:List TypeId} {fl:List Bool} {us:List Value} {ys:List AV} {rf hs:List Nat} (h:zb0 P w ts fl us ys rf hs) (h1:unflC P ts fl=false) (h2:zsT P ts fl ys=true):rf= []:=by
 induction h with
 |nil=>rfl
 |own k1 k2 k23 _ _ ih=>
  simp only [unflC,Bool.or_eq_false_iff]at h1
  simp only [zsT,yqba]at h2
  have hN:=k23
  have hw:=h1.1
  rw [zBr k2,k1]at hw
  rcases hN with⟨_,rfl⟩|⟨q1,q2⟩
  ·rw [ih h1.2 h2.2];rfl
  ·simp [zzC,k2,q1,q2]at hw
 |deep _ _ _ _ _ _ ih=>
  simp only [unflC,Bool.or_eq_false_iff]at h1
  simp only [zsT,yqba]at h2
  exact ih h1.2 h2.2
 | @rd t ts fl u us y ys f rf hs hn hr _ ih=>
  simp only [unflC,Bool.or_eq_false_iff]at h1
  simp only [zsT,yqba]at h2
  have hno:(fl.headD false&&(zfF P t).isSome)=false:=by
   cases hh:fl.headD false with
   |false=>rfl
   |true=>rw [hn hh];rfl
  have hno':(fl.headD false&&zzC P t)=false:=by
   cases hh:fl.headD false with
   |false=>rfl
   |true=>simp [zzC,hn hh]
  rw [hno']at h1
  rw [hno]at h2
  have hr0:hasRef P t=false:=by simpa using h1.1
  rw [hr0]at h2
  have hs:y.scalar=true:=by simpa using h2.1
  rw [zhs hr (by simpa using hs),ih h1.2 h2.2];rfl
theorem ztn.flat {t:TypeId} {fl:List Bool} {v:Value} {x:AV} {rf hs:List Nat} (h:ztn P w t fl v x rf hs) (h1:zGJ P t fl=false) (h2:zEA P t fl x=true):rf= []:=by
 unfold ztn at h
 unfold zGJ at h1
 unfold zEA at h2
 split at h
 ·rename_i hf
  rw [if_pos hf]at h1 h2
  obtain⟨us,ys,hg,hc⟩:=h
  split at hg
  ·rename_i hag
   obtain⟨_,rfl,_⟩:=hg
   rw [if_pos hag]at h2
   exact hc.flat h1 h2
  ·rename_i hag
   obtain⟨_,rfl⟩:=hg
   rw [if_neg hag]at h2
   exact hc.flat h1 h2
 ·rename_i hf
  rw [if_neg hf]at h1 h2
  rw [h1]at h2
  exact zpv h.1 (by simpa using h2)
theorem zq3.flat {ts:List TypeId} {fl:List Bool} {vs:List Value} {xs:List AV} {rf hs:List Nat} (h:zq3 P w ts fl vs xs rf hs) (h1:unflVs P ts fl=false) (h2:zzc P ts fl xs=true):rf= []:=by
 induction h with
 |nil=>rfl
 |cons hv _ ih=>
  simp only [unflVs,Bool.or_eq_false_iff]at h1
  simp only [zzc,yqba]at h2
  rw [hv.flat h1.1 h2.1,ih h1.2 h2.2];rfl
theorem zDW.flat {ts:List TypeId} {fl:List Bool} {v:Value} {R:AV} {f o:List Nat} (h:zDW P w ts fl v R f o) (h1:unflVs P ts fl=false) (h2:zFm P ts fl R=true):f= []:=by
 match ts,h,h1,h2 with
 | [t],h,h1,h2=>
  simp only [unflVs,Bool.or_false]at h1
  exact ztn.flat h h1 h2
 | [],h,h1,h2=>
  obtain⟨vs,ys,_,rfl,hv⟩:=h
  exact hv.flat h1 h2
 |t::u::ts,h,h1,h2=>
  obtain⟨vs,ys,_,rfl,hv⟩:=h
  exact hv.flat h1 h2
theorem zc2.void {ety sz:Nat} {a:Option Addr} {x:AV} {top N:List Nat} (h:zc2 w ety sz (.slice a 0 0) x top N):N= []:=by
 obtain⟨xs,_,_,_,⟨_,_,_,h⟩|⟨g,cap,C,hv,h6,_,_,_,_,_,hr⟩⟩:=h
 ·exact h
 ·have h0:xs.length=0:=by injection hv with _ h _;exact h.symm
  have:xs= []:=by cases xs with|nil=>rfl|cons _ _=>simp at h0
  subst this
  simp [zaB]at hr
  cases hr;rfl
theorem MuC.flat {c:Cx} {ts:List TypeId} {fl:List Bool} {us:List Value} {rs:List (Option RI)} (h:znK P c ts fl us rs): ∀{ys:List AV} {f o:List Nat},MuC P w ts fl us ys f o→rs.any RI.lent=false→f= []:=by
 induction h with
 |nil=>intro ys f o hm _;cases hm;rfl
 |row k1 k2 k23 _ _ _ _ ih=>
  intro ys f o hm hl
  simp only [List.any_cons,Bool.or_eq_false_iff,RI.lent]at hl
  cases hm with
  |own _ q2 q23 _ q4=>
   rw [k2]at q2;cases q2
   rcases q23 with⟨_,rfl⟩|⟨q,_⟩
   ·exact ih q4 hl.2
   ·rw [q]at hl;simp at hl
  |deep _ _ _ _ _ q=>exact ih q hl.2
  |skip _ q=>exact ih q hl.2
 |deep k1 k2 k21 k22 _ _ _ _ _ ih=>
  intro ys f o hm hl
  simp only [List.any_cons,Bool.or_eq_false_iff]at hl
  cases hm with
  |own _ q2 q23 _ q4=>
   rw [k2]at q2;cases q2
   rcases q23 with⟨_,rfl⟩|⟨_,q⟩
   ·exact ih q4 hl.2
   ·rw [q]at k22;cases k22
  |deep _ _ _ _ _ q=>exact ih q hl.2
  |skip _ q=>exact ih q hl.2
 |none hv _ ih=>
  intro ys f o hm hl
  simp only [List.any_cons,Bool.or_eq_false_iff]at hl
  cases hm with
  |own q1 q2 _ q3 q4=>
   rcases hv q1 with hh|⟨a,rfl⟩
   ·rw [hh]at q2;cases q2
   ·rw [zc2.void q3];exact ih q4 hl.2
  |deep _ _ _ _ _ q=>exact ih q hl.2
  |skip _ q=>exact ih q hl.2
theorem zeU.flat {c:Cx} {ts:List TypeId} {ms:List PM} {vs:List Value} {bs:List PA} (h:zgJ P c ts ms vs bs): ∀{Bs:List AV} {f o:List Nat},zeU P w ts ms vs Bs f o→unflB P bs=false→zpS P ts ms Bs=true→f= []:=by
 induction h with
 |nil=>
  intro Bs f o hb _ _
  cases hb;rfl
 | @ro ts ms v vs bs hm _ ih=>
  intro Bs f o hb h1 h2
  cases hb with
  |nil=>rfl
  |ro _ h8=>simp only [zpS,hm]at h2;exact ih h8 h1 h2
  |va h9 _=>rw [hm]at h9;cases h9
  |mu h9 _ _ _=>rw [hm]at h9;cases h9
  |bx h9 _ _ _ _ _ _ _=>rw [hm]at h9;cases h9
 | @va ts ms own v vs bs us hm _ _ ih=>
  intro Bs f o hb h1 h2
  cases hb with
  |nil=>rfl
  |ro h9 _=>rw [hm]at h9;cases h9
  |va _ h8=>simp only [zpS,hm]at h2;exact ih h8 h1 h2
  |mu h9 _ _ _=>rw [hm]at h9;cases h9
  |bx h9 _ _ _ _ _ _ _=>rw [hm]at h9;cases h9
 | @mu t ts ms own v vs bs us rs hm hus hrs _ ih=>
  intro Bs f o hb h1 h2
  cases hb with
  |ro h9 _=>rw [hm]at h9;cases h9
  |va h9 _=>rw [hm]at h9;cases h9
  | @mu _ _ _ own2 _ _ us2 ys y Bs f1 f o1 o h9 hg hmc h8=>
   rw [hm]at h9;cases h9
   simp only [zpS,hm]at h2
   simp only [unflB,Bool.or_eq_false_iff]at h1
   have hus2:us2=us:=by
    split at hus
    ·rename_i hag
     rw [if_pos hag]at hg
     obtain⟨rfl,_⟩:=hg
     exact zsn hus
    ·rename_i hag
     rw [if_neg hag]at hg
     rw [hg.1,hus]
   subst hus2
   rw [MuC.flat hrs hmc h1.1,ih h8 h1.2 h2];rfl
  |bx h9 _ _ _ _ _ _ _=>rw [hm]at h9;cases h9
 | @bx t ts ms own own' ty v vs bs T b g olds hm hpt _ _ _ _ _ ih=>
  intro Bs f o hb h1 h2
  cases hb with
  |ro h9 _=>rw [hm]at h9;cases h9
  |va h9 _=>rw [hm]at h9;cases h9
  |mu h9 _ _ _=>rw [hm]at h9;cases h9
  |bx h9 hpt2 _ _ _ hy hc h8=>
   rw [hm]at h9;cases h9
   rw [hpt]at hpt2;cases hpt2
   simp only [zpS,hm,hpt,yqba,hy,List.tail_cons]at h2
   simp only [unflB,Bool.or_eq_false_iff]at h1
   rw [hc.flat h1.1 h2.1,ih h8 h1.2 h2.2];rfl
theorem zoG {ts:List TypeId} {ms:List PM} {vs:List Value} {Bs:List AV} {f o:List Nat} (h:zeU P w ts ms vs Bs f o):Bs= []↔hasBack ts ms=false:=by
 induction h with
 |nil=>simp [hasBack]
 |ro hm _ ih=>simp only [hasBack,hm,Bool.false_or];exact ih
 |va hm _ ih=>simp only [hasBack,hm,Bool.false_or];exact ih
 |mu hm _ _ _ _=>simp only [hasBack,hm,Bool.true_or];simp
 |bx hm _ _ _ _ _ _ _ _=>simp only [hasBack,hm,Bool.true_or];simp
end
section
variable {P:Program} {c:Cx} {n nx:Nat} {sl sl0:Nat→SV} {hp hp0:Nat→Option Ent} {a:Act} {o:Oper} {gs:Gd} {e:Eff} {sg:SgT} {nv:Nat}
theorem zx2 {xs:List Operand}: ∀{ss:List SV},(∀x∈xs,∀s,zaj sl0 gs x=some s→SR c [s] [a.eval x])→xs.mapM (zaj sl0 gs)=some ss→SR c ss (xs.map a.eval):=by
 induction xs with
 |nil=>intro ss _ h;simp at h;subst h;exact .nil
 |cons x xs ih=>
  intro ss hx h
  rw [List.mapM_cons]at h
  simp only [Option.bind_eq_bind,yqbe,Option.pure_def,yqsi]at h
  obtain⟨s,hs,ss',hss,rfl⟩:=h
  exact(hx x (by simp) s hs).cons (ih (fun y hy=>hx y (by simp [hy])) hss)
theorem zls: ∀{l:List Nat},zoX l=true→l.Nodup
 | [],_=>by simp
 |x::l,h=>by
  simp only [zoX,yqba,Bool.not_eq_true',List.contains_eq_mem,decide_eq_false_iff_not]at h
  exact List.nodup_cons.2 ⟨h.1,zls h.2⟩
theorem zBl {c1:Cx} {w':World} {recs:List Chg} {hs f o:List Nat} (gw:GW c) (hg: ∀t,(c1.G t).top=(c.G t).top∨(c1.G t).top= []) (hA:c1.A=c.A) (hMu:c1.Mu=c.Mu) (hw0:c1.w0=c.w0) (hB:c.w0.heap.size≤c.w.heap.size)
  (hn:(recs.map Chg.tag).Nodup) (htop: ∀r∈recs,∀b∈r.top,b∈o) (hhs: ∀b∈hs,∃r∈recs,b∈(c.G r.tag).top) {rf:List Nat} (hrf: ∀b∈rf,c1.ok b) (hf: ∀b∈f,b∉o∧(b∈rf∨b∈hs∨c.w.heap.size≤b)): ∀b∈f,(c1.dr w' recs).ok b:=by
 intro b hb
 obtain⟨h1,h2⟩:=hf b hb
 have hM:(c1.dr w' recs).M b→ ∃t,(∀r∈recs,r.tag≠t)∧b∈(c1.G t).top:=by
  rintro⟨t,ht⟩
  by_cases hT: ∃r∈recs,r.tag=t
  ·obtain⟨r,hr,rfl⟩:=hT
   rw [Cx.dv hn hr]at ht
   exact absurd (htop r hr b ht) h1
  ·rw [Cx.de fun r hr hh=>hT ⟨r,hr,hh⟩]at ht
   exact⟨t,fun r hr hh=>hT ⟨r,hr,hh⟩,ht⟩
 have sub: ∀t,b∈(c1.G t).top→b∈(c.G t).top:=fun t ht=>by
  rcases hg t with hh|hh
  ·rw [←hh];exact ht
  ·rw [hh]at ht;simp at ht
 rcases h2 with h2|h2|h2
 ·refine⟨fun hm=> ?_,(hrf b h2).2⟩
  obtain⟨t,_,ht⟩:=hM hm
  exact(hrf b h2).1 ⟨t,ht⟩
 ·obtain⟨r,hr,hbr⟩:=hhs b h2
  refine⟨fun hm=> ?_, .inr ?_⟩
  ·obtain⟨t,hnt,ht⟩:=hM hm
   exact gw.cr r.tag t (hnt r hr) b (by simp [GI.own,hbr]) (by simp [GI.own,sub t ht])
  ·have:=gw.allow r.tag b (by simp [GI.own,hbr])
   simp only [Cx.dr,Cx.B,hw0,hMu]at this ⊢
   exact this
 ·refine⟨fun hm=> ?_, .inr (.inl ?_)⟩
  ·obtain⟨t,_,ht⟩:=hM hm
   have:=gw.inb t b (by simp [GI.own,sub t ht])
   omega
  ·simp only [Cx.dr,Cx.B,hw0];omega
theorem zCZ (h:Pre P c n nx sl hp a sl0 hp0 o gs) {cl:Call} {fo:Operand} (ho:o.op= .call cl) (hcl:cl.callee= .value fo) {g:Nat} {caps:SVL} (hf:zaj sl0 gs fo=some (.fn g caps)) {as_:List SV} (has:cl.args.toList.mapM (zaj sl0 gs)=some as_)
  (hg:g<1000000) (he:zs0 P sg hp0 gs nv nx g (as_++caps.toList)=some e) (hcall: ∀c',e.call=some c'→ ∃r,c.ρ[nv]?=some r∧zly (Rts P sg) c'.fn ((EL.of c'.args).den c.ρ) c.ρ r):zbP P o c n nx sl hp gs a e:=by
 have hmf:fo∈o.op.operands:=by simp [ho,Op.operands,Call.operands,hcl]
 have hma: ∀x∈cl.args.toList,x∈o.op.operands:=fun x hx=>by
  have:x∈cl.args:=by simpa using hx
  simp [ho,Op.operands,Call.operands,hcl,this]
 have hrf:=h.cz hf hmf
 generalize hfv:a.eval fo=fv at hrf
 cases hrf with
 |fn hcaps h8=>
 rename_i capv
 have hargs:=(zx2 (a:=a) (fun x hx s hs=>h.cz hs (hma x hx)) has).app hcaps
 unfold zs0 at he
 split at he
 ·rename_i fn s hfn hsg
  split at he
  ·cases he
  rename_i hlen
  simp only [Bool.or_eq_true,not_or,Bool.not_eq_true,bne_eq_false_iff_eq]at hlen
  split at he
  ·cases he
  rename_i es bs us uz harg
  split at he
  ·cases he
  rename_i hnd
  simp only [Bool.or_eq_true,Bool.not_eq_true',not_or,Bool.not_eq_false,Bool.not_eq_true]at hnd
  obtain⟨⟨hnd1,hnd2⟩,hnd3⟩:=hnd
  have hndh:=zls hnd1
  have hapart: ∀u∈us,u∉zeo bs:=fun u hu hh=>by
   rw [List.any_eq_false]at hnd2
   have:=hnd2 u hu
   simp only [List.contains_eq_mem,decide_eq_true_eq]at this
   exact this hh
  have hapartz: ∀u∈uz,u∉zeo bs:=fun u hu hh=>by
   rw [List.any_eq_false]at hnd3
   have:=hnd3 u hu
   simp only [List.contains_eq_mem,decide_eq_true_eq]at this
   exact this hh
  simp only at he
  split at he
  ·cases he
  rename_i hsz
  simp only [Nat.not_le]at hsz
  split at he
  ·cases he
  rename_i hnb
  split at he
  ·cases he
  rename_i fz hfz0
  have hK: ∀t g,c.K t g→c.U t:=h.rel.ca
  obtain⟨rf,lf,hs,q1,q2,qz,q3,q4,q5,q6⟩:=zxz (P:=P) h.rel.base h.eh h.gs hK (as_++caps.toList) harg hargs (by rw [hlen.1.2,yqla,Array.length_toList];have:=hlen.2;simp only [decide_eq_false_iff_not,Nat.not_lt]at this;omega)
  obtain⟨fts,hfz,hfsub⟩: ∃fts,za9 hp0 gs fts=some fz∧ ∀t∈fts,t∈us:=by
   split at hfz0
   ·exact⟨us,hfz0,fun t ht=>ht⟩
   ·simp only [yqsi]at hfz0;subst hfz0;exact⟨[],rfl,by simp⟩
  have hrel1:=h.rel.freeze h.hp h.gs hfz
  have hfzus: ∀t∈fz.map (·.1),t∈us:=fun t ht=>by
   obtain⟨⟨t',e'⟩,hm,rfl⟩:=List.mem_map.1 ht
   exact hfsub _ ((zew h.gs hfz).1 t' e' hm).1
  have hG1: ∀t,((c.bw (fz.map (·.1))).G t).top=(c.G t).top∨((c.bw (fz.map (·.1))).G t).top= []:=fun t=>by
   simp only [Cx.bw];split
   ·exact .inr rfl
   ·exact .inl rfl
  have hGh: ∀t∈zeo bs,(c.bw (fz.map (·.1))).G t=c.G t:=fun t ht=>by
   simp only [Cx.bw]
   rw [if_neg]
   intro hh;exact hapart t (hfzus t hh) ht
  have hEh: ∀t∈zeo bs,(c.bw (fz.map (·.1))).E t=c.E t:=fun t ht=>by
   simp only [Cx.bw]
   rw [if_neg]
   intro hh;exact hapart t (hfzus t hh) ht
  have hsnd:hs.Nodup:=by
   rw [q3]
   have: ∀l:List Nat,l.Nodup→(l.flatMap fun t=>(c.G t).top).Nodup:=by
    intro l
    induction l with
    |nil=>intro _;simp
    |cons t l ih=>
     intro hl
     rw [List.nodup_cons]at hl
     rw [List.flatMap_cons,List.nodup_append]
     refine⟨(List.nodup_append.1 (h.rel.gw.nodup t)).1,ih hl.2,fun x hx y hy hxy=> ?_⟩
     subst hxy
     obtain⟨u,hu,hxu⟩:=List.mem_flatMap.1 hy
     exact h.rel.gw.cr t u (fun hh=>hl.1 (hh▸hu)) x (by simp [GI.own,hx]) (by simp [GI.own,hxu])
   exact this _ hndh
  have hhsT: ∀b∈hs,∃t∈zeo bs,b∈(c.G t).top:=fun b hb=>by rw [q3]at hb;exact List.mem_flatMap.1 hb
  have hdis: ∀b∈hs,b∉rf:=fun b hb hr=>by
   obtain⟨t,ht,hbt⟩:=hhsT b hb
   rcases q2 b hr with hh|⟨u,hu,hbu⟩
   ·exact hh.1 ⟨t,hbt⟩
   ·exact h.rel.gw.cr t u (fun hh=>hapart u hu (hh▸ht)) b (by simp [GI.own,hbt]) (by simp [GI.own,hbu])
  have hdis2: ∀b∈hs,b∉lf:=fun b hb hr=>by
   obtain⟨t,ht,hbt⟩:=hhsT b hb
   rcases qz b hr with(hh|⟨u,hu,hbu⟩)|⟨h1,h2⟩
   ·exact hh.1 ⟨t,hbt⟩
   ·exact h.rel.gw.cr t u (fun hh=>hapartz u hu (hh▸ht)) b (by simp [GI.own,hbt]) (by simp [GI.own,hbu])
   ·rcases h.rel.gw.allow t b (by simp [GI.own,hbt])with k|k
    ·have:c.w0.heap.size≤b:=k
     omega
    ·exact h2 k
  have hform: ∃(val:SV) (l:List (Nat × Ent)),e={call:=some ⟨.inl g,es⟩,val:=val,bq:=fz++(zBM gs l++after P nv (nx+(fn.resultTypes.toList.flatMap (zau P)).length) bs 0)}∧
    ∀(R:AV) (w':World) (v:Value) (f1 o1:List Nat),zDW P w' fn.resultTypes.toList s.res v R f1 o1→(if zp7 bs=0 then E.var nv else .proj (.var nv) 0).den c.ρ=R→ ∃recs:List Chg,l=recs.map Chg.pair∧recs.flatMap Chg.top=o1∧(∀r∈recs,nx≤r.tag∧r.tag<nx+(fn.resultTypes.toList.flatMap (zau P)).length∧r.new.isSome)∧(recs.map Chg.tag).Nodup∧
     (∀r∈recs,∀hs f,r.bq≠ .gd hs f)∧ ∀c',Aft c c' w' recs→(∀b∈f1,c'.ok b)→SR c' [val] [v]∧ ∀r∈recs,znH c' r.tag r.bq:=by
   have hne: ∀{l:List (Nat × Ent)} {recs:List Chg},l=recs.map Chg.pair→(∀t x,(t,x)∈l→ ∀hs f,x≠ .gd hs f)→ ∀r∈recs,∀hs f,r.bq≠ .gd hs f:=by
    rintro l recs rfl hh r hr
    exact hh r.tag r.bq (List.mem_map.2 ⟨r,hr,rfl⟩)
   have fvne: ∀(t:TypeId) (k:Nat) (fl:List Bool) (x:E) (u:Nat) (y:Ent),(u,y)∈(zlQ P k t fl x).2→ ∀hs f,y≠ .gd hs f:=by
    intro t k fl x u y hy hs f
    unfold zlQ at hy
    split at hy
    ·exact zfb _ _ _ _ _ hy
    ·simp at hy
   split at he
   ·rename_i t hts
    simp only [yqsi]at he;subst he
    refine⟨_,_,rfl,fun R w' v f1 o1 hr hR=> ?_⟩
    rw [hts]at hr
    obtain⟨recs,e1,e2,e3,e4,e5⟩:=zpq (c:=c) (nx:=nx) (x:=if zp7 bs=0 then E.var nv else .proj (.var nv) 0) (show ztn P w' t s.res v R f1 o1 from hr) hR
    exact⟨recs,e1,e2,by simpa [hts]using e3,e4,hne e1 (fvne _ _ _ _),e5⟩
   ·rename_i hts
    simp only [yqsi]at he;subst he
    refine⟨_,_,rfl,fun R w' v f1 o1 hr hR=> ?_⟩
    obtain⟨vs,ys,rfl,rfl,hv⟩: ∃vs ys,v= .tuple vs.toArray∧R= .tup ys∧zq3 P w' fn.resultTypes.toList s.res vs ys f1 o1:=by
     unfold zDW at hr
     split at hr
     ·rename_i t ht;exact absurd ht (hts t)
     ·exact hr
    obtain⟨recs,e1,e2,e3,e4,e5⟩:=zuh (c:=c) (x:=if zp7 bs=0 then E.var nv else .proj (.var nv) 0) hv nx 0 (fun k y hy=>by
     show AV.proj ((if zp7 bs=0 then E.var nv else .proj (.var nv) 0).den c.ρ) (0+k)=y
     rw [hR];simp [AV.proj,hy])
    have fvsne: ∀(ts:List TypeId) (k:Nat) (fl:List Bool) (x:E) (i u:Nat) (y:Ent),(u,y)∈(zjd P k ts fl x i).2→ ∀hs f,y≠ .gd hs f:=by
     intro ts
     induction ts with
     |nil=>intro k fl x i u y hy;simp [zjd]at hy
     |cons t ts ih=>
      intro k fl x i u y hy
      simp only [zjd,yqma]at hy
      rcases hy with hy|hy
      ·exact fvne _ _ _ _ _ _ hy
      ·exact ih _ _ _ _ _ _ hy
    exact⟨recs,e1,e2,e3,e4,hne e1 (fvsne _ _ _ _ _),fun c' ha hok=>⟨.tup (by rw [SVL.a7];exact(e5 c' ha hok).1) .nil,(e5 c' ha hok).2⟩⟩
  obtain⟨val,l,rfl,hshape⟩:=hform
  obtain⟨r,hr,hok⟩:=hcall _ rfl
  have hret: ∃s',sg g=some s'∧Ret P s' g ((EL.of es).den c.ρ) r:=by
   have hok:Rts P sg g ((EL.of es).den c.ρ) r:=hok
   unfold Rts at hok
   rwa [if_pos hg]at hok
  obtain⟨s',hs',fn',hfn',hbody,hname,hflat,_,_,hcalls⟩:=hret
  rw [hsg]at hs';cases hs'
  rw [hfn]at hfn';cases hfn'
  rw [EL.dj]at hcalls
  have hcall:=hcalls c.w _ rf lf hs q1 hdis hdis2 hsnd (h.rel.nd fun b hb=>by obtain⟨t,_,ht⟩:=hhsT b hb;exact⟨t,ht⟩)
  have ex:(execOp a.eval o).run P c.w= .ok (.enter g (cl.args.map a.eval++capv.toArray)) c.w:=by
   have hb:fn.body.isNone=false:=by simpa using hbody
   simp only [execOp,ho,resolve,hcl,hfv,Deferred.ofValue,Sem.run_bind,Sem.run_pure,Result.andThen_ok,invoke,callFunc,run_program,hfn]
   simp [hname,hb]
  intro next Q hk
  unfold Oper.wp
  rw [ex,Oper.upon_enter]
  have harr:cl.args.map a.eval++capv.toArray=((cl.args.toList.map a.eval)++capv).toArray:=by
   apply Array.ext';simp
  rw [harr]
  refine hcall.mono ?_
  rintro e' w' ⟨v,rfl,⟨R,Bs,f1,o1,f2,o2,hrR,hres,hback,hnod,ho12,hf12⟩,hmod⟩
  show next (a.put o.dst v) w'
  have hBn: ∀k y,Bs[k]?=some y→(E.proj (.var nv) (0+k+1)).den c.ρ=y:=by
   intro k y hy
   cases Bs with
   |nil=>simp at hy
   |cons B Bs=>
    simp only [E.den,hr,Option.getD_some,hrR,AV.proj,Nat.zero_add,List.getElem?_cons_succ,hy]
  obtain⟨hnb',recsB,hB⟩:=zA3 (w':=w') q4 hK (r:=nv) (nx+(fn.resultTypes.toList.flatMap (zau P)).length) 0 hback hBn
  have hR:(if zp7 bs=0 then E.var nv else .proj (.var nv) 0).den c.ρ=R:=by
   cases Bs with
   |nil=>rw [if_pos (by simpa using hnb'.symm)];simp only [E.den,hr,Option.getD_some,hrR]
   |cons B Bs=>rw [if_neg (by rw [←hnb'];simp)];simp [E.den,hr,hrR,AV.proj]
  obtain⟨recsV,v1,v2,v3,v4,v5,v6⟩:=hshape R w' v f1 o1 hres hR
  have hnewU: ∀t,nx≤t→t<nx+((fn.resultTypes.toList.flatMap (zau P)).length+zn5 P bs)→ ¬c.U t:=fun t h1 h2=>h.new t h1 (by omega)
  have hBnod:=hB.nodup hndh fun t h1 h2=>hnewU t (by omega) (by omega)
  have hnodT:((recsV++recsB).map Chg.tag).Nodup:=by
   rw [List.map_append,List.nodup_append]
   refine⟨v4,hBnod,fun t1 h1 t2 h2 he=> ?_⟩
   obtain⟨p1,hp1,rfl⟩:=List.mem_map.1 h1
   obtain⟨p2,hp2,rfl⟩:=List.mem_map.1 h2
   have a1:=v3 p1 hp1
   cases hn:p2.new with
   |none=>exact hnewU p1.tag (by omega) (by omega) (he▸(hB.old p2 hp2 hn).2)
   |some _=>have:=hB.new p2 hp2 (by simp [hn]);omega
  have hnewT: ∀r∈recsV++recsB,r.new.isSome=true→nx≤r.tag∧r.tag<nx+((fn.resultTypes.toList.flatMap (zau P)).length+zn5 P bs):=fun r hr hn=>by
   rcases yqma.1 hr with hr|hr
   ·have:=v3 r hr;omega
   ·have:=hB.new r hr hn;omega
  have htops:((recsV++recsB).flatMap Chg.top).Sublist (o1++o2):=by
   rw [List.flatMap_append,v2];exact(List.Sublist.refl _).append hB.mj
  have hhsR: ∀b∈hs,∃r∈recsV++recsB,b∈(c.G r.tag).top:=fun b hb=>by
   obtain⟨t,ht,hbt⟩:=hhsT b hb
   obtain⟨r,hr,rfl⟩:=hB.all t ht
   exact⟨r,by simp [hr],hbt⟩
  have hhsR1: ∀b∈hs,∃r∈recsV++recsB,b∈((c.bw (fz.map (·.1))).G r.tag).top:=fun b hb=>by
   obtain⟨t,ht,hbt⟩:=hhsT b hb
   obtain⟨r,hr,rfl⟩:=hB.all t ht
   exact⟨r,by simp [hr],by rw [hGh _ ht];exact hbt⟩
  have htopin: ∀r∈recsV++recsB,∀b∈r.top,b∈o1++o2:=fun r hr b hb=>htops.subset (List.mem_flatMap.2 ⟨r,hr,hb⟩)
  have hokf: ∀b∈f1++f2,((c.bw (fz.map (·.1))).dr w' (recsV++recsB)).ok b:=by
   cases hun:(unflVs P fn.resultTypes.toList s.res||unflB P bs)with
   |false=>
    simp only [Bool.or_eq_false_iff]at hun
    have hfl:zFm P fn.resultTypes.toList s.res R=true∧zpS P (fn.params.toList++s.ft) s.cq Bs=true:=by
     unfold zmF at hflat
     cases hBs:Bs with
     |nil=>
      rw [if_neg (by rw [(zoG hback).1 hBs];simp)]at hflat
      rw [hBs]at hrR
      rw [hrR]at hflat
      refine⟨hflat, ?_⟩
      have: ∀(ts:List TypeId) (ms:List PM),zpS P ts ms []=true:=by
       intro ts
       induction ts with
       |nil=>intro ms;rfl
       |cons t ts ih=>
        intro ms
        unfold zpS
        split
        ·exact ih _
        ·exact ih _
        ·exact ih _
        ·split
         ·rename_i hh;cases hh
         ·simpa using ih _
      exact this _ _
     |cons B Bs'=>
      rw [if_pos (by
       cases hh:hasBack (fn.params.toList++s.ft) s.cq with
       |true=>rfl
       |false=>rw [(zoG hback).2 hh]at hBs;cases hBs)]at hflat
      rw [hrR,hBs]at hflat
      simpa using hflat
    have e1:f1= []:=hres.flat hun.1 hfl.1
    have e2:f2= []:=zeU.flat q4 hback hun.2 hfl.2
    subst e1;subst e2;simp
   |true=>
    rw [hun]at hnb hfz0
    simp only [Bool.true_and,Bool.not_eq_true',Bool.not_eq_false]at hnb
    simp only [if_true]at hfz0
    exact zBl (rf:=rf) h.rel.gw hG1 rfl rfl rfl h.rel.base.size hnodT htopin hhsR (fun b hb=>zll h.rel h.eh h.gs hfz0 (by simpa using hnb) (q2 b hb)) hf12
  have hentB:after P nv (nx+(fn.resultTypes.toList.flatMap (zau P)).length) bs 0=recsB.map fun r=>(r.tag,zfR gs r.bq):=by
   cases hbs:bs with
   |nil=>
    have:=hB.ents
    rw [hbs]at this
    simp only [after]at this
    have:recsB= []:=by simpa using this.symm
    rw [this];rfl
   |cons b bs'=>
    have hg0:=q6 (by rw [hbs];simp)
    rw [←hbs,hB.ents,hg0];rfl
  have hent:zBM gs l++after P nv (nx+(fn.resultTypes.toList.flatMap (zau P)).length) bs 0=(recsV++recsB).map fun r=>(r.tag,zfR gs r.bq):=by
   rw [hentB,List.map_append]
   congr 1
   rw [v1];simp [zBM,Chg.pair]
  obtain⟨hrel2,hkeep⟩:=hrel1.changes (w':=w') (recs:=recsV++recsB) (hs:=hs) (gs:=gs) h.gs hmod hnodT (fun r hr hn=>by have:=hnewT r hr hn;exact hnewU _ this.1 this.2) hhsR1 (htops.nodup hnod) (fun r hr b hb=>ho12 b (htopin r hr b hb))
   (fun r hr=>by
    rcases yqma.1 hr with hr|hr
    ·exact v5 r hr
    ·exact hB.ne r hr)
   (fun _ r hr=>by
    have aft:=Cx.dt (c:=c.bw (fz.map (·.1))) (w':=w') (recs:=recsV++recsB) h.rel.ca hnodT (fun r hr hn=>by have:=hnewT r hr hn;exact hnewU _ this.1 this.2)
    have aft':Aft c ((c.bw (fz.map (·.1))).dr w' (recsV++recsB)) w' (recsV++recsB):=⟨aft.ρ,aft.w,aft.G,aft.new,aft.K,aft.old,aft.kp,fun r hr hno=>(aft.ir r hr hno).trans (by
     rcases yqma.1 hr with hr|hr
     ·have:=(v3 r hr).2.2;rw [hno]at this;cases this
     ·rw [hEh _ (hB.old r hr hno).1])⟩
    rcases yqma.1 hr with hr|hr
    ·exact(v6 _ (aft'.mono fun r hr=>by simp [hr]) fun b hb=>hokf b (by simp [hb])).2 r hr
    ·exact hB.ok _ (aft'.mono fun r hr=>by simp [hr]) (fun b hb=>hokf b (by simp [hb])) r hr)
  have aft:=Cx.dt (c:=c.bw (fz.map (·.1))) (w':=w') (recs:=recsV++recsB) h.rel.ca hnodT (fun r hr hn=>by have:=hnewT r hr hn;exact hnewU _ this.1 this.2)
  have aft':Aft c ((c.bw (fz.map (·.1))).dr w' (recsV++recsB)) w' (recsV++recsB):=⟨aft.ρ,aft.w,aft.G,aft.new,aft.K,aft.old,aft.kp,fun r hr hno=>(aft.ir r hr hno).trans (by
     rcases yqma.1 hr with hr|hr
     ·have:=(v3 r hr).2.2;rw [hno]at this;cases this
     ·rw [hEh _ (hB.old r hr hno).1])⟩
  have hval:=(v6 _ (aft'.mono fun r hr=>by simp [hr]) fun b hb=>hokf b (by simp [hb])).1
  rw [←hent,←zl3]at hrel2
  refine hk _ ((c.bw (fz.map (·.1))).dr w' (recsV++recsB)) ⟨rfl,rfl,rfl,rfl,fun t ht=> ?_⟩ (hrel2.put (hval.mkGd gs h.gs) o.dst)
  rcases ht with ht|⟨r,hr,rfl⟩
  ·exact .inl ht
  ·cases hn:r.new with
   |none=>
    rcases yqma.1 hr with hr|hr
    ·have:=(v3 r hr).2.2;rw [hn]at this;cases this
    ·exact .inl (hB.old r hr hn).2
   |some _=>
    have:=hnewT r hr (by simp [hn])
    exact .inr ⟨this.1,by simp only [zan];omega⟩
 ·cases he
end
def zbI (c:Cx) (us:List Nat):List Nat:=us.flatMap fun t=>(c.G t).top
theorem zqw (c:Cx):zbI c []= []:=rfl
theorem zmm (c:Cx) (u:Nat) (us:List Nat):zbI c (u::us)=(c.G u).top++zbI c us:=by simp [zbI]
theorem zeD (c:Cx) (us vs:List Nat):zbI c (us++vs)=zbI c us++zbI c vs:=by simp [zbI]
theorem zkh {c:Cx} {us:List Nat} {b:Nat}:b∈zbI c us↔ ∃t∈us,b∈(c.G t).top:=by simp [zbI]
theorem zkK {c:Cx} (gw:GW c): ∀{l:List Nat},l.Nodup→(zbI c l).Nodup
 | [],_=>by simp [zbI]
 |t::l,hl=>by
  rw [zmm,List.nodup_append]
  rw [List.nodup_cons]at hl
  refine⟨?_,zkK gw hl.2,fun a ha b hb hab=> ?_⟩
  ·have:=gw.nodup t
   simp only [GI.own]at this
   exact(List.nodup_append.1 this).1
  ·subst hab
   obtain⟨u,hu,hbu⟩:=zkh.1 hb
   exact gw.cr t u (fun hh=>hl.1 (hh▸hu)) a (by simp [GI.own,ha]) (by simp [GI.own,hbu])
section
variable {P:Program} {c:Cx} {hp:Nat→Option Ent} {gs:Gd}
theorem zvQ {m:Nat} {u g:Nat} {x y:E} (hx:zgt hp gs m (.own u g)=some x) (hy:zeS hp gs u g=some y):x=y:=by
 cases m with
 |zero=>simp [zgt]at hx
 |succ m=>simp only [zgt,hy,yqsi]at hx;exact hx.symm
theorem zzL {m:Nat} {x:E} (h:zgt hp gs m .emp=some x):x= .lst .nil:=by
 cases m with
 |zero=>simp [zgt]at h
 |succ m=>simp [zgt]at h;exact h.symm
theorem zyL (eh:EH c hp) (k:zfS c.ρ gs) {d:DT} {s:SV} {us:List Nat} {ck:List Cn} {v:Value} {x:E} {m:Nat} (h:zBW hp gs d s=some (us,ck)) (hs:SR c [s] [v]) (hx:zgt hp gs m s=some x) (hc: ∀q∈ck,q.den c.ρ):
  DC c.w [d] [v] [x.den c.ρ] (zbI c us)∧ ∀u∈us,∃g,c.K u g:=by
 unfold zBW at h
 split at h
 ·rename_i y
  simp only [yqsi,Prod.mk.injEq]at h;obtain⟨rfl,rfl⟩:=h
  rw [zn3 hx]
  cases hs with
  |e h1 h2 h3=>
   rename_i f
   have hsc:(y.den c.ρ).scalar=true:=by
    cases hl:zIk y with
    |true=>cases y<;>simp [zIk]at hl<;>rfl
    |false=>
     rw [hl]at hc
     exact(hc1 hc).2.2.2 rfl
   have hf:f= []:=zhs h1 (by simpa using hsc)
   subst hf
   exact⟨.flat h1 .nil,by simp⟩
 ·split at h
  ·rename_i hh
   simp only [yqsi,Prod.mk.injEq]at h;obtain⟨rfl,rfl⟩:=h
   rw [zhT hx]
   cases hs with
   |cd _=>exact⟨.void hh.1 hh.2 .nil,by simp⟩
  ·cases h
 ·split at h
  ·rename_i hh
   simp only [yqsi,Prod.mk.injEq]at h;obtain⟨rfl,rfl⟩:=h
   rw [zzL hx]
   cases hs with
   |emp _=>exact⟨.void hh.1 hh.2 .nil,by simp⟩
  ·cases h
 ·rename_i e z l u g
  split at h
  ·rename_i e' z' l' g' ep y hl
   split at h
   ·rename_i hh
    obtain⟨rfl,rfl,rfl,hb⟩:=hh
    simp only [yqsi,Prod.mk.injEq]at h;obtain⟨rfl,rfl⟩:=h
    obtain⟨q1,q2,q3,q4,q5⟩:=eh u _ (za2 hl k)
    rw [zvQ (y:=y) hx (by simp only [zeS,hl,if_true])]
    have hb:=DTL.of_eq hb
    subst hb
    rw [DTL.cx]at q4
    cases hs with
    |own k1 k2 _=>
     rw [k2]at q4
     exact⟨by rw [zmm,zqw,List.append_nil];exact q4,fun w hw=>by simp at hw;subst hw;exact⟨_,k1⟩⟩
   ·cases h
  ·rename_i e' z' g' y hl
   split at h
   ·rename_i hh
    obtain⟨rfl,rfl,rfl,hf,hlen⟩:=hh
    simp only [yqsi,Prod.mk.injEq]at h;obtain⟨rfl,rfl⟩:=h
    obtain⟨q1,q2,N,q4,q5,q6,q7⟩:=eh u _ (za2 hl k)
    obtain⟨hN,_⟩:=q6 rfl
    have hN:N= []:=hN
    subst hN
    rw [zvQ (y:=y) hx (by simp only [zeS,hl,if_true])]
    cases hs with
    |own k1 k2 _=>
     rw [k2]at q4
     exact⟨by rw [zmm,zqw,List.append_nil];exact DC.lq q4 hf hlen,fun w hw=>by simp at hw;subst hw;exact⟨_,k1⟩⟩
   ·cases h
  ·cases h
 ·cases h
theorem zoj (eh:EH c hp) (k:zfS c.ρ gs): ∀(ds:List DT) {ss:List SV} {us:List Nat} {ck:List Cn} {vs:List Value} {xs:EL} {m:Nat},zq1 hp gs ds ss=some (us,ck)→SR c ss vs→zeA hp gs m ss=some xs→(∀q∈ck,q.den c.ρ)→
  DC c.w ds vs (xs.den c.ρ) (zbI c us)∧ ∀u∈us,∃g,c.K u g
 | [], [],us,ck,vs,xs,m,h,hs,hx,hc=>by
  simp [zq1]at h;obtain⟨rfl,rfl⟩:=h
  cases hs
  cases m with
  |zero=>simp [zeA]at hx
  |succ m=>simp [zeA]at hx;subst hx;exact⟨.nil,by simp⟩
 | [],_::_,us,ck,vs,xs,m,h,hs,hx,hc=>by simp [zq1]at h
 |_::_, [],us,ck,vs,xs,m,h,hs,hx,hc=>by simp [zq1]at h
 |d::ds,s::ss,us,ck, [],xs,m,h,hs,hx,hc=>by have:=hs.len;simp at this
 |d::ds,s::ss,us,ck,v::vs,xs,m,h,hs,hx,hc=>by
  obtain⟨j,y,ys,rfl,hy,hys,rfl⟩:=zfB hx
  obtain⟨r1,r2⟩:=hs.cf
  unfold zq1 at h
  split at h
  ·rename_i us1 ck1 us2 ck2 h1 h2
   simp only [yqsi,Prod.mk.injEq]at h;obtain⟨rfl,rfl⟩:=h
   obtain⟨q1,q2⟩:=zyL eh k h1 r1 hy fun q hq=>hc q (by simp [hq])
   obtain⟨q3,q4⟩:=zoj eh k ds h2 r2 hys fun q hq=>hc q (by simp [hq])
   refine⟨by rw [zeD];exact q1.app q3,fun u hu=> ?_⟩
   rcases yqma.1 hu with hu|hu
   ·exact q2 u hu
   ·exact q4 u hu
  ·cases h
theorem zrP (eh:EH c hp) (k:zfS c.ρ gs) {t:TypeId} {ds:List DT} {s:SV} {us:List Nat} {ck:List Cn} {v:Value} {x:E} (hds:ds.length=P.cellsOf t) (hg:zaX P t=true∨P.cellsOf t=1) (h:zuB P hp gs t ds s=some (x,us,ck)) (hs:SR c [s] [v]) (hc: ∀q∈ck,q.den c.ρ):
  DC c.w ds v.cells.toList (x.den c.ρ).cells (zbI c us)∧(∀u∈v.cells.toList,u.oneCell'=true)∧(x.den c.ρ).cells.length=P.cellsOf t∧v.cells.size=P.cellsOf t∧
   (if zaX P t then∃cs,x.den c.ρ= .agg cs else(∀cs,x.den c.ρ≠ .agg cs)∧ ∀cs,x.den c.ρ≠ .tup cs)∧ ∀u∈us,∃g,c.K u g:=by
 unfold zuB at h
 split at h
 ·cases h
 rename_i y hy
 split at h
 ·rename_i hfl
  simp only [yqsi,Prod.mk.injEq]at h;obtain⟨rfl,rfl,rfl⟩:=h
  obtain⟨f,q1,q2⟩:=zhU eh k zad hy hs zad (Nat.le_refl _)
  obtain⟨c1,c2,c3,c4⟩:=hc1 hc
  have hform:if zaX P t then∃cs,y.den c.ρ= .agg cs∧cs.length=P.cellsOf t else(∀cs,y.den c.ρ≠ .agg cs)∧ ∀cs,y.den c.ρ≠ .tup cs:=by
   split
   ·rename_i hag
    obtain⟨cs,hcs⟩:=c3 hag
    exact⟨cs,hcs,by rw [hcs]at c1;exact c1⟩
   ·rename_i hag
    have:=c4 (by simpa using hag)
    exact⟨fun cs hcs=>by rw [hcs]at this;simp [AV.scalar]at this,fun cs hcs=>by rw [hcs]at this;simp [AV.scalar]at this⟩
  have hf:f= []:=by
   cases hgg:zaX P t with
   |true=>
    obtain⟨cs,hcs⟩:=c3 hgg
    obtain⟨as_,rfl,_,r⟩:=zmU q1 hcs
    exact zhs r (by rw [hcs]at c2;exact c2)
   |false=>exact zhs q1 (by simpa using c4 hgg)
  subst hf
  obtain⟨o1,o2,o3,o4⟩:=zrQ (P:=P) q1 hg hform
  refine⟨DC.mo o1 hfl (by rw [hds];simpa using o4.symm),o2,o3,o4, ?_,by simp⟩
  split at hform
  ·rename_i hag;rw [if_pos hag];obtain⟨cs,hcs,_⟩:=hform;exact⟨cs,hcs⟩
  ·rename_i hag;rw [if_neg hag];exact hform
 ·rename_i hnf
  split at h
  ·cases h
  rename_i hag
  have hag:(zfQ s).2=zaX P t:=by simpa using hag
  obtain⟨⟨us',ck'⟩,hr,h⟩:=yqme.1 h
  simp only [Prod.mk.injEq]at h;obtain⟨rfl,rfl,rfl⟩:=h
  have single:zaX P t=false→zq1 hp gs ds [s]=some (us',ck')→DC c.w ds v.cells.toList (y.den c.ρ).cells (zbI c us')∧(∀u∈v.cells.toList,u.oneCell'=true)∧(y.den c.ρ).cells.length=P.cellsOf t∧v.cells.size=P.cellsOf t∧
   (if zaX P t then∃cs,y.den c.ρ= .agg cs else(∀cs,y.den c.ρ≠ .agg cs)∧ ∀cs,y.den c.ρ≠ .tup cs)∧ ∀u∈us',∃g,c.K u g:=by
   intro hag hr
   have hel:zeA hp gs (zad+1) [s]=some (.cons y .nil):=by
    unfold zeA
    rw [hy];rfl
   obtain⟨q1,q2⟩:=zoj eh k ds hr hs hel hc
   have hd1:=q1.len
   simp only [EL.den,yqlc,List.length_nil]at hd1
   match ds,hd1,q1,hnf,hds with
   | [d],_,q1,hnf,hds=>
    cases d with
    |flat=>simp [DT.bz]at hnf
    |row e z l=>
     obtain⟨p,q,r,rfl⟩:=q1.head
     obtain⟨xs,hxs⟩: ∃xs,y.den c.ρ= .sl xs:=by
      obtain⟨_,_,⟨_,_,hx,_⟩|⟨_,_,_,_,_,_,hx,_⟩⟩:=q1.inv
      ·exact⟨_,hx⟩
      ·exact⟨_,hx⟩
     rw [if_neg (by rw [hag];simp)]
     refine⟨?_,by simp [Value.cells,Value.oneCell'],by rw [hxs,←hds];rfl,by rw [←hds];rfl, ?_,q2⟩
     ·simp only [EL.den]at q1
      rw [hxs]at q1 ⊢
      exact q1
     ·rw [hxs];exact⟨fun cs hh=>(by cases hh),fun cs hh=>(by cases hh)⟩
  cases s with
  |agg cs=>
   simp only [zfQ]at hag hr
   obtain⟨m,l,hm,hl,rfl⟩:=zo9 hy
   cases hs with
   |agg h9 h1 h8=>
    rename_i as_
    obtain⟨q1,q2⟩:=zoj eh k ds hr h1 hl hc
    obtain⟨l1,l2⟩:=q1.len
    rw [if_pos hag.symm]
    exact⟨by simpa [Value.cells,AV.cells,E.den]using q1,by simpa [Value.cells]using h9,by simp only [E.den,AV.cells];omega,by simp [Value.cells];omega,⟨_,rfl⟩,q2⟩
  |_=>exact single hag.symm hr
theorem zpl (eh:EH c hp) (k:zfS c.ρ gs) {t:TypeId} {ds:List DT} (hds:ds.length=P.cellsOf t) (hg:zaX P t=true∨P.cellsOf t=1): ∀(ss:List SV) (vs:List Value) {xs:List E} {us:List Nat} {ck:List Cn},SR c ss vs→zpg P hp gs t ds ss=some (xs,us,ck)→(∀q∈ck,q.den c.ρ)→
  DC c.w (znL vs.length ds) (vs.flatMap fun v=>v.cells.toList) (zaB (xs.map (E.den c.ρ))) (zbI c us)∧(∀v∈vs,v.cells.size=P.cellsOf t∧ ∀u∈v.cells.toList,u.oneCell'=true)∧(∀x∈xs,(x.den c.ρ).cells.length=P.cellsOf t)∧xs.length=vs.length∧ ∀u∈us,∃g,c.K u g
 | [],vs,xs,us,ck,hr,ht,hc=>by
  simp [zpg]at ht;obtain⟨rfl,rfl,rfl⟩:=ht
  cases hr
  exact⟨by simpa [zaB,znL,zbI]using DC.nil,by simp,by simp,rfl,by simp⟩
 |s::ss, [],xs,us,ck,hr,ht,hc=>by have:=hr.len;simp at this
 |s::ss,v::vs,xs,us,ck,hr,ht,hc=>by
  obtain⟨r1,r2⟩:=hr.cf
  unfold zpg at ht
  split at ht
  ·rename_i x us1 ck1 xs2 us2 ck2 h1 h2
   simp only [yqsi,Prod.mk.injEq]at ht;obtain⟨rfl,rfl,rfl⟩:=ht
   obtain⟨q1,q2,q3,q4,q5,q6⟩:=zrP eh k hds hg h1 r1 (fun q hq=>hc q (by simp [hq]))
   obtain⟨p1,p2,p3,p4,p5⟩:=zpl eh k hds hg ss vs r2 h2 (fun q hq=>hc q (by simp [hq]))
   refine⟨?_, ?_, ?_,by simp [p4], ?_⟩
   ·have:=q1.app p1
    rw [yqlc,zkr,zeD]
    simpa [zaB]using this
   ·intro u hu
    rcases yqmc.1 hu with rfl|hu
    ·exact⟨q4,q2⟩
    ·exact p2 u hu
   ·intro u hu
    rcases yqmc.1 hu with rfl|hu
    ·exact q3
    ·exact p3 u hu
   ·intro u hu
    rcases yqma.1 hu with hu|hu
    ·exact q6 u hu
    ·exact p5 u hu
  ·cases ht
theorem zsO (eh:EH c hp) (k:zfS c.ρ gs) {e z:Nat} {l:List DT} {s:SV} {us:List Nat} {v:Value} {y:E} {m:Nat} (h:zx5 hp gs e z l s=some us) (hs:SR c [s] [v]) (hy:zgt hp gs m s=some y):
  ∃ys q r news N,y.den c.ρ= .sl ys∧v= .slice q ys.length r∧Src c.w z q ys.length news∧DC c.w (znL ys.length l) news (zaB ys) N∧N.Sublist (zbI c us)∧(∀y∈ys,y.cells.length=z)∧(∀u∈news,u.oneCell'=true)∧ ∀u∈us,∃g,c.K u g:=by
 have empt: ∀q,v= .slice q 0 0→y= .lst .nil→us= []→ ∃ys q r news N,y.den c.ρ= .sl ys∧v= .slice q ys.length r∧Src c.w z q ys.length news∧DC c.w (znL ys.length l) news (zaB ys) N∧N.Sublist (zbI c us)∧(∀y∈ys,y.cells.length=z)∧(∀u∈news,u.oneCell'=true)∧ ∀u∈us,∃g,c.K u g:=by
  rintro q rfl rfl rfl
  refine⟨[],q,0, [], [],rfl,rfl, ?_,by simpa [znL,zaB]using DC.nil,by simp,by simp,by simp,by simp⟩
  cases q with
  |none=>exact .inl ⟨rfl,rfl,rfl⟩
  |some p=>exact .inr ⟨p,rfl,by simp,by simp,by simp⟩
 unfold zx5 at h
 split at h
 ·simp only [yqsi]at h
  cases hs with
  |cd _=>exact empt _ rfl (zhT hy) h.symm
 ·simp only [yqsi]at h
  cases hs with
  |emp _=>exact empt _ rfl (zzL hy) h.symm
 ·rename_i u g
  split at h
  ·rename_i e' z' l' g' ep x hl
   split at h
   ·rename_i hh
    obtain⟨rfl,rfl,rfl,hb⟩:=hh
    simp only [yqsi]at h;subst h
    have hb:=DTL.im hb
    subst hb
    obtain⟨q1,q2,q3,q4,q5⟩:=eh u _ (za2 hl k)
    have hyx:=zvQ (y:=x) hy (by simp only [zeS,hl,if_true])
    subst hyx
    cases hs with
    |own k1 k2 k3=>
     rename_i p0 n0 r0
     rw [k2]at q4
     have hK: ∀w∈ [u],∃g,c.K w g:=fun w hw=>by simp at hw;subst hw;exact⟨_,k1⟩
     obtain⟨d1,d2,⟨a9,d3,d4,d5⟩|⟨g9,cap,C,ys,N1,d3,d4,d5,d6,d7,d8,d9,d10,d11,d12⟩⟩:=q4.inv
     ·cases d3
      refine⟨[],_,0, [], [],d4,rfl, ?_,by simpa [znL,zaB]using DC.nil,by simp,by simp,by simp,hK⟩
      cases p0 with
      |none=>exact .inl ⟨rfl,rfl,rfl⟩
      |some p=>exact .inr ⟨p,rfl,by simp,by simp,by simp⟩
     ·cases d3
      rw [DTL.a7]at d12
      have hCl:C.toList.length=r0*z:=by simpa using d9
      refine⟨ys,_,r0,_,N1,d4,rfl, .inr ⟨_,rfl, ?_,fun j w hw=> ?_,d11⟩,d12, ?_,d10,d11,hK⟩
      ·rw [List.length_take,hCl];exact Nat.min_eq_left (Nat.mul_le_mul_right _ d7)
      ·rw [Addr.add_lit,Nat.zero_add,zay d6]
       rw [List.getElem?_take]at hw
       split at hw
       ·simpa using hw
       ·cases hw
      ·rw [zmm,zqw,List.append_nil,d5];exact List.sublist_cons_self _ _
   ·cases h
  ·cases h
 ·cases h
end
def zmA (T:List Nat):List Chg:=T.map fun u=>⟨u,none, [], .dead⟩
theorem zCE (T:List Nat):(zmA T).flatMap Chg.top= []:=by induction T<;>simp_all [zmA]
theorem zDK (T:List Nat):(zmA T).map Chg.tag=T:=by induction T<;>simp_all [zmA]
theorem zAs (T:List Nat):((zmA T).map fun r=>(r.tag,zfR [] r.bq))=zlc T:=by simp [zmA,zlc,zfR]
theorem zm3 {T:List Nat} {r:Chg} (h:r∈zmA T):r.tag∈T∧r.new=none∧r.top= []∧r.bq= .dead:=by
 obtain⟨u,hu,rfl⟩:=List.mem_map.1 h
 exact⟨hu,rfl,rfl,rfl⟩
section
variable {P:Program} {c:Cx} {n nx:Nat} {sl sl0:Nat→SV} {hp hp0:Nat→Option Ent} {a:Act} {o:Oper} {gs:Gd} {e:Eff} {sg:SgT} {nv:Nat}
theorem Rel.lu (h:Rel c n sl hp a) {T:List Nat} (hT:T.Nodup) (hTU: ∀u∈T,c.U u) {r0:Chg} (hr0:r0.tag∉T) (hr1:r0.new.isSome=true→ ¬c.U r0.tag) (hr2:r0.new=none→c.U r0.tag) {w':World} {hs:List Nat} (hhs: ∀b∈hs,b∈(c.G r0.tag).top∨b∈zbI c T) (hm:Mod hs c.w w')
  (hnd:r0.top.Nodup) (hin: ∀b∈r0.top,(b∈hs∨c.w.heap.size≤b)∧b<w'.heap.size) (hne: ∀q f,r0.bq≠ .gd q f)
  (he:zpB c (c.dr w' (r0::zmA T))→Aft c (c.dr w' (r0::zmA T)) w' (r0::zmA T)→znH (c.dr w' (r0::zmA T)) r0.tag r0.bq):
  Rel (c.dr w' (r0::zmA T)) n sl (zfe hp ((r0.tag,r0.bq)::zlc T)) a∧zpB c (c.dr w' (r0::zmA T))∧Aft c (c.dr w' (r0::zmA T)) w' (r0::zmA T)∧ ∀t,(c.dr w' (r0::zmA T)).U t→c.U t∨t=r0.tag:=by
 have hn:((r0::zmA T).map Chg.tag).Nodup:=by
  rw [List.map_cons,zDK];exact List.nodup_cons.2 ⟨hr0,hT⟩
 have hnew: ∀r∈r0::zmA T,r.new.isSome=true→ ¬c.U r.tag:=fun r hr hs=>by
  rcases yqmc.1 hr with rfl|hr
  ·exact hr1 hs
  ·rw [(zm3 hr).2.1]at hs;cases hs
 have aft:=Cx.dt (w':=w') h.ca hn hnew
 obtain⟨q1,q2⟩:=h.changes (gs:= []) (zcA _) hm hn hnew (fun b hb=>by
   rcases hhs b hb with hb|hb
   ·exact⟨r0,by simp,hb⟩
   ·obtain⟨t,ht,hbt⟩:=zkh.1 hb
    exact⟨⟨t,none, [], .dead⟩,List.mem_cons_of_mem _ (List.mem_map.2 ⟨t,ht,rfl⟩),hbt⟩)
  (by rw [List.flatMap_cons,zCE,List.append_nil];exact hnd)
  (fun r hr b hb=>by
   rcases yqmc.1 hr with rfl|hr
   ·exact hin b hb
   ·rw [(zm3 hr).2.2.1]at hb;cases hb)
  (fun r hr=>by
   rcases yqmc.1 hr with rfl|hr
   ·exact hne
   ·rw [(zm3 hr).2.2.2];intros;simp)
  (fun hk r hr=>by
   rcases yqmc.1 hr with rfl|hr
   ·exact he hk aft
   ·have kg:=aft.G r (List.mem_cons_of_mem _ hr)
    obtain⟨_,_,e1,e2⟩:=zm3 hr
    rw [e2]
    exact⟨by rw [kg,e1],by rw [kg]⟩)
 refine⟨?_,q2,aft,fun t ht=> ?_⟩
 ·rw [List.map_cons,zAs]at q1
  have:zfR [] r0.bq=r0.bq:=rfl
  rw [this]at q1;exact q1
 ·rcases ht with ht|⟨r,hr,rfl⟩
  ·exact .inl ht
  ·rcases yqmc.1 hr with rfl|hr
   ·exact .inr rfl
   ·exact .inl (hTU _ (zm3 hr).1)
theorem zbP.gq (h:Pre P c n nx sl hp a sl0 hp0 o []) {T:List Nat} (hT:T.Nodup) (hTU: ∀u∈T,∃g,c.K u g) {v':Value} {w':World} {ck:List Cn} {e z:Nat} {l:List DT} {x:E} {top:List Nat} (hr:(execOp a.eval o).run P c.w= .ok (.value v') w') (hm:Mod (zbI c T) c.w w')
  (hnd:top.Nodup) (hin: ∀b∈top,(b∈zbI c T∨c.w.heap.size≤b)∧b<w'.heap.size) (hd:DC w' [.row e z (DTL.of l)] [v'] [x.den c.ρ] top):
  zbP P o c n nx sl hp [] a {bu:=ck,val:= .own nx 0,bq:=(nx, .deep e z l 0 0 x)::zlc T}:=by
 intro next Q hk
 unfold Oper.wp
 rw [hr,Oper.upon_value]
 have hU:=zl8 h
 have hTU': ∀u∈T,c.U u:=fun u hu=>by obtain⟨g,hg⟩:=hTU u hu;exact h.rel.ca _ _ hg
 obtain⟨q1,q2,q3,q4⟩:=h.rel.lu (r0:=⟨nx,some v',top, .deep e z l 0 0 x⟩) hT hTU' (fun hh=>hU (hTU' _ hh)) (fun _=>hU) (fun hh=>by cases hh) (fun b hb=> .inr hb) hm hnd hin (by intros;simp) (fun _ aft=>by
  obtain⟨k1,k2,k3⟩:=aft.new _ (List.mem_cons_self ..) v' rfl
  have kg:=aft.G _ (List.mem_cons_self ..)
  have ke:=aft.kp _ (List.mem_cons_self ..) rfl
  simp only at k1 k2 k3 kg ke
  exact⟨k1,k2,ke,by rw [k3,kg,aft.w,aft.ρ];exact hd,by rw [kg]⟩)
 obtain⟨k1,k2,k3⟩:=q3.new _ (List.mem_cons_self ..) v' rfl
 simp only at k1 k3
 obtain⟨p,m,r,rfl⟩:=hd.head
 refine hk _ (c.dr w' _) ⟨rfl,rfl,rfl,rfl,fun t ht=> ?_⟩ (q1.put (SR.own k1 k3 .nil) o.dst)
 rcases q4 t ht with ht|rfl
 ·exact .inl ht
 ·exact .inr ⟨Nat.le_refl _,by simp [zan]⟩
theorem zbP.la (h:Pre P c n nx sl hp a sl0 hp0 o []) {T:List Nat} (hT:T.Nodup) (hTU: ∀u∈T,∃g,c.K u g) {b g ep:Nat} (hb:b∉T) (hK:c.K b g) (hmax: ∀g',c.K b g'→g'≤g) (hE:c.E b=ep) {w':World} {ck:List Cn} {e z:Nat} {l:List DT} {x:E} {top:List Nat} (hr:(execOp a.eval o).run P c.w= .ok .skip w') {hs:List Nat} (hhs: ∀q∈hs,q∈(c.G b).top∨q∈zbI c T) (hm:Mod hs c.w w')
  (hnd:top.Nodup) (hin: ∀q∈top,(q∈hs∨c.w.heap.size≤q)∧q<w'.heap.size) (hd:DC w' [.row e z (DTL.of l)] [c.H b g] [x.den c.ρ] top):
  zbP P o c n nx sl hp [] a {bu:=ck,bq:=(b, .deep e z l g (ep+1) x)::zlc T}:=by
 intro next Q hk
 unfold Oper.wp
 rw [hr,Oper.upon_skip]
 have hTU': ∀u∈T,c.U u:=fun u hu=>by obtain⟨g,hg⟩:=hTU u hu;exact h.rel.ca _ _ hg
 have hbU:=h.rel.ca _ _ hK
 obtain⟨q1,q2,q3,q4⟩:=h.rel.lu (r0:=⟨b,none,top, .deep e z l g (ep+1) x⟩) hT hTU' hb (fun hh=>by cases hh) (fun _=>hbU) hhs hm hnd hin (by intros;simp) (fun _ aft=>by
  have kg:=aft.G _ (List.mem_cons_self ..)
  have ke:=aft.ir _ (List.mem_cons_self ..) rfl
  obtain⟨k1,k2⟩:=aft.K b g hK
  simp only at kg ke
  exact⟨k1,fun g' hg'=>hmax g' (aft.old b hbU g' hg'),by rw [ke,hE],by rw [k2,kg,aft.w,aft.ρ];exact hd,by rw [kg]⟩)
 refine hk _ (c.dr w' _) ⟨rfl,rfl,rfl,rfl,fun t ht=> ?_⟩ (q1.put ((SR.undef .nil).mkGd []) o.dst)
 rcases q4 t ht with ht|rfl
 ·exact .inl ht
 ·exact .inl hbU
theorem zxu {w w':World} {row:Option Nat} {S:List Nat} (h:w.grownBy w' row) (hr: ∀g,row=some g→g∈S∨w.heap.size≤g):Mod S w w':=by
 refine⟨h.os,h.tape,h.output,h.size,fun b hb hn=>h.block b hb fun hh=> ?_⟩
 rcases hr b hh.symm with h1|h1
 ·exact hn h1
 ·omega
theorem zm0 (h:Pre P c n nx sl hp a sl0 hp0 o []) {x y:Operand} {tx:TypeId} {cl:Call} (ho:o.op= .call cl) (hcl:cl.callee= .builtin .append) (ha1:cl.args.toList= [x,y]) (ha2:cl.argTypes.toList= [tx,tx])
  {el:TypeId} (hel:P.underlying tx=some (.slice el)) (hz:zlD P el=true) {l:List DT} (hl:l.length=P.cellsOf el) {T us:List Nat} (hT:(T++us).Nodup) (hTU: ∀u∈T,∃g,c.K u g) {s2:SV} {ye:E} (hs2:zaj sl0 [] y=some s2) (hy:zgt hp0 [] zad s2=some ye) (htk:zx5 hp0 [] el (P.cellsOf el) l s2=some us)
  {c0:E} {v:Value} (hv:a.eval x=v) {N:List Nat} (hrow:DC c.w [.row el (P.cellsOf el) (DTL.of l)] [v] [c0.den c.ρ] N) (hN:N=zbI c T) {ck:List Cn} (hroom:Cn.den c.ρ (.room c0 ye (P.bytesOf el))):
  zbP P o c n nx sl hp [] a {bu:=ck,val:= .own nx 0,bq:=(nx, .deep el (P.cellsOf el) l 0 0 (.app c0 ye))::zlc (T++us)}:=by
 have hargs:cl.args= #[x,y]:=by apply Array.ext';simp [ha1]
 have htys:cl.argTypes= #[tx,tx]:=by apply Array.ext';simp [ha2]
 have hm2:y∈o.op.operands:=by simp [ho,Op.operands,Call.operands,hcl,hargs]
 obtain⟨i,z,hi,hiz,hzs,hsz,hco,hby⟩:=ze2 hz
 obtain⟨ys,q,r,news,N2,hys,hv2,hsrc,hdn,hsub,hyc,hn1,husK⟩:=zsO h.eh h.gs htk (h.cz hs2 hm2) hy
 have hnodT:=zkK h.rel.gw hT
 rw [zeD]at hnodT
 have hinb: ∀b∈zbI c (T++us),b<c.w.heap.size:=fun b hb=>by
  obtain⟨t,_,hbt⟩:=zkh.1 hb
  exact h.rel.gw.inb t b (by simp [GI.own,hbt])
 obtain⟨mm,kk,hr1,hr2,hr3,hr4⟩:=hroom
 obtain⟨d1,d2,hcase⟩:=hrow.inv
 rw [DTL.a7]at d2 hcase
 have hU: ∀u∈T++us,∃g,c.K u g:=fun u hu=>by
  rcases yqma.1 hu with hu|hu
  ·exact hTU u hu
  ·exact husK u hu
 obtain⟨xs,old,N1,hxs,hold,hrowA,hdo,hxc,hone,hN1,hN1d⟩: ∃(xs:List AV) (old:List Value) (N1:List Nat),c0.den c.ρ= .sl xs∧old.length=xs.length*i.size∧((xs.length=0∧ ∃q,v= .slice q 0 0)∨ ∃g cap C,v= .slice (some ⟨g,0,none⟩) xs.length cap∧xs.length≤cap∧cap≤maxLen∧c.w.heap[g]?=some (.cells C el (0,0))∧C.size=cap*i.size∧old=C.toList.take (xs.length*i.size)∧(g∈zbI c T∧g∉N1))∧
   DC c.w (znL xs.length l) old (zaB xs) N1∧(∀y∈xs,y.cells.length=P.cellsOf el)∧(∀u∈old,u.oneCell'=true)∧(∀b∈N1,b∈zbI c T)∧N1.Nodup:=by
  rcases hcase with⟨p,rfl,hx0,rfl⟩|⟨g9,cap,C,xs,N1,rfl,hx0,rfl,h6,h7,h8,h9,h10,h11,h12⟩
  ·exact⟨[], [], [],hx0,by simp, .inl ⟨rfl,p,rfl⟩,by simpa [znL,zaB]using DC.nil,by simp,by simp,by simp,by simp⟩
  ·have hnd:(g9::N1).Nodup:=by rw [hN];exact(List.nodup_append.1 hnodT).1
   rw [List.nodup_cons]at hnd
   refine⟨xs,_,N1,hx0, ?_, .inr ⟨g9,cap,C,rfl,h7,h8,h6,by rw [←hco];exact h9,rfl,by rw [←hN];simp,hnd.1⟩,by rw [←hco];exact h12,h10,by rw [←hco];exact h11,fun b hb=>by rw [←hN];simp [hb],hnd.2⟩
   have e9:C.toList.length=cap*i.size:=by rw [←hco,←h9];simp
   rw [List.length_take,e9]
   exact Nat.min_eq_left (Nat.mul_le_mul_right _ h7)
 rw [hxs]at hr1;rw [hys]at hr2
 simp only [AV.len,AV.int.injEq,true_and]at hr1 hr2
 have hb1:(xs.length+ys.length)*i.bytes≤140737488355328:=by
  rw [←hr1,←hr2,hby]at hr3
  have h9:(((xs.length+ys.length)*i.bytes:Nat):Int)≤140737488355328:=by rw [Int.natCast_mul,Int.natCast_add];exact hr3
  omega
 have hb2:xs.length+ys.length≤140737488355328:=by rw [←hr1,←hr2]at hr4;omega
 rw [hco]at hsrc
 obtain⟨v',w',hrun,hres⟩:=zyv (P:=P) c.w tx o.type el i z hel hi hiz hzs hsz (fun g9=>g9∈zbI c T∧g9∉N1) v xs.length old hold hrowA q ys.length r news hsrc (by simp only [maxLen];omega) hb1
 have hrun':(execOp a.eval o).run P c.w= .ok (.value v') w':=by
  simp [execOp,ho,resolve,hcl,hargs,htys,invoke,builtin,hv,hv2,hrun]
 have hN2: ∀b∈N2,b∈zbI c us:=fun b hb=>hsub.subset hb
 have hN2d:N2.Nodup:=hsub.nodup (List.nodup_append.1 hnodT).2.1
 have happ:(E.app c0 ye).den c.ρ= .sl (xs++ys):=by simp only [E.den,hxs,hys,AV.app]
 rcases hres with⟨rfl,rfl,hm0⟩|⟨g9,cap,C,rfl,h1,h2,h3,h4,h5,h6,h7⟩
 ·have hy0:ys= []:=List.eq_nil_of_length_eq_zero hm0
  subst hy0
  refine zbP.gq h hT hU hrun' (Mod.refl _ _) (top:=N) (by rw [hN];exact(List.nodup_append.1 hnodT).1) (fun b hb=>⟨.inl (by rw [zeD,←hN];simp [hb]),hinb b (by rw [zeD,←hN];simp [hb])⟩) ?_
  rw [happ,List.append_nil,←hxs];exact hrow
 ·have hg9:(g9∈zbI c T∨c.w.heap.size≤g9)∧g9∉N1∧g9∉N2:=by
   rcases h7 with⟨rfl,_⟩|⟨hg,hg'⟩
   ·refine⟨.inr (Nat.le_refl _),fun hh=> ?_,fun hh=> ?_⟩
    ·have:=hinb _ (by rw [zeD];exact yqma.2 (.inl (hN1 _ hh)));omega
    ·have:=hinb _ (by rw [zeD];exact yqma.2 (.inr (hN2 _ hh)));omega
   ·exact⟨.inl hg,hg',fun hh=>(List.nodup_append.1 hnodT).2.2 _ hg _ (hN2 _ hh) rfl⟩
  have hsame: ∀b∈N1++N2,w'.heap[b]?=c.w.heap[b]?:=fun b hb=>by
   have hlt:b<c.w.heap.size:=hinb b (by
    rw [zeD]
    rcases yqma.1 hb with hb|hb
    ·exact yqma.2 (.inl (hN1 b hb))
    ·exact yqma.2 (.inr (hN2 b hb)))
   refine h6.block b hlt fun hh=> ?_
   cases hh
   rcases yqma.1 hb with hb|hb
   ·exact hg9.2.1 hb
   ·exact hg9.2.2 hb
  refine zbP.gq h hT hU hrun' (zxu h6 fun g hg=> ?_) (top:=g9::(N1++N2)) ?_ (fun b hb=> ?_) ?_
  ·cases hg
   rcases hg9.1 with hh|hh
   ·exact .inl (by rw [zeD];exact yqma.2 (.inl hh))
   ·exact .inr hh
  ·refine List.nodup_cons.2 ⟨fun hh=> ?_,List.nodup_append.2 ⟨hN1d,hN2d,fun p hp q hq=> ?_⟩⟩
   ·rcases yqma.1 hh with hh|hh
    ·exact hg9.2.1 hh
    ·exact hg9.2.2 hh
   ·exact(List.nodup_append.1 hnodT).2.2 p (hN1 p hp) q (hN2 q hq)
  ·rcases yqmc.1 hb with rfl|hb
   ·refine⟨?_,zbH h3⟩
    rcases hg9.1 with hh|hh
    ·exact .inl (by rw [zeD];exact yqma.2 (.inl hh))
    ·exact .inr hh
   ·have hbT:b∈zbI c (T++us):=by
     rw [zeD]
     rcases yqma.1 hb with hb|hb
     ·exact yqma.2 (.inl (hN1 b hb))
     ·exact yqma.2 (.inr (hN2 b hb))
    exact⟨.inl hbT,Nat.lt_of_lt_of_le (hinb b hbT) h6.size⟩
  ·rw [happ]
   have hlen:(xs++ys).length=xs.length+ys.length:=yqla
   rw [hco]at d1 d2 hxc hyc ⊢
   have:=DC.row (w:=w') (e:=el) (z:=i.size) (l:=DTL.of l) (g:=g9) (cap:=cap) (C:=C) (ys:=xs++ys) (N1:=N1++N2) (ts:= []) (vs:= []) (xs:= []) (N:= []) d1 (by rw [DTL.a7];exact d2) h3 (by rw [hlen];exact h1) h2 h4 (fun w hw=> ?_) (by
     rw [hlen,h5]
     intro u hu
     rcases yqma.1 hu with hu|hu
     ·exact hone u hu
     ·exact hn1 u hu) (by
     rw [hlen,h5,zmK,zFq,DTL.a7]
     exact(hdo.app hdn).frame hsame) .nil
   ·rw [hlen]at this
    simpa using this
   ·rcases yqma.1 hw with hw|hw
    ·exact hxc w hw
    ·exact hyc w hw
end
section
variable {P:Program} {c:Cx} {n nx:Nat} {sl sl0:Nat→SV} {hp hp0:Nat→Option Ent} {a:Act} {o:Oper} {gs:Gd} {e:Eff} {sg:SgT} {nv:Nat}
theorem zAW {l:List Nat} (h:zoX l=true):l.Nodup:=zls h
theorem ztg (h:Pre P c n nx sl hp a sl0 hp0 o gs) {x y:Operand} {tx ty:TypeId} {cl:Call} (ho:o.op= .call cl) (hcl:cl.callee= .builtin .append) (ha1:cl.args.toList= [x,y]) (ha2:cl.argTypes.toList= [tx,ty])
  {s1 s2:SV} (hs1:zaj sl0 gs x=some s1) (hs2:zaj sl0 gs y=some s2) (he:znu P hp0 gs nx tx ty s1 s2=some e) (hc: ∀q∈e.bu,Cn.den c.ρ q):zbP P o c n nx sl hp gs a e:=by
 have hargs:cl.args= #[x,y]:=by apply Array.ext';simp [ha1]
 have hm1:x∈o.op.operands:=by simp [ho,Op.operands,Call.operands,hcl,hargs]
 have hm2:y∈o.op.operands:=by simp [ho,Op.operands,Call.operands,hcl,hargs]
 unfold znu at he
 split at he
 ·cases he
 rename_i htt
 have htt:tx=ty:=by simpa using htt
 subst htt
 split at he
 ·rename_i el e' z dl hel hdt
  have hel':=zfA hel
  split at he
  ·cases he
  rename_i hcond
  simp only [not_or,Bool.not_eq_true',Bool.not_eq_false,Bool.not_eq_true,ne_eq,Decidable.not_not]at hcond
  obtain⟨hz,hnf,rfl,rfl⟩:=hcond
  obtain⟨_,_,l,hld,hll⟩:=zrE hel hdt
  simp only [DT.row.injEq,true_and]at hld
  subst hld
  rw [DTL.a7]at he
  have r1:=h.cz hs1 hm1
  split at he
  ·rename_i ye us hy htk
   have hU: ∀u∈us,∃g,c.K u g:=(zsO h.eh h.gs htk (h.cz hs2 hm2) hy).choose_spec.choose_spec.choose_spec.choose_spec.choose_spec.2.2.2.2.2.2.2
   have husd:us.Nodup:=by
    unfold zx5 at htk
    split at htk
    ·simp only [yqsi]at htk;subst htk;simp
    ·simp only [yqsi]at htk;subst htk;simp
    ·split at htk
     ·split at htk
      ·simp only [yqsi]at htk;subst htk;simp
      ·cases htk
     ·cases htk
    ·cases htk
   have hz0:0<P.cellsOf e':=by
    obtain⟨i,_,_,_,_,h1,h2,_⟩:=ze2 hz
    omega
   split at he
   ·rename_i t g
    split at he
    ·rename_i e2 z2 l2 g2 ep c0 hl
     split at he
     ·rename_i hh
      obtain⟨rfl,rfl,hb,rfl,hnt⟩:=hh
      have hb:=DTL.im hb
      subst hb
      simp only [yqsi]at he;subst he
      obtain⟨q1,q2,q3,q4,q5⟩:=h.eh t _ (za2 hl h.gs)
      generalize hv:a.eval x=v at r1
      cases r1 with
      |own k1 k2 _=>
       rw [k2]at q4
       simp only [Bool.not_eq_true',List.contains_eq_mem,decide_eq_false_iff_not]at hnt
       exact zm0 h ho hcl ha1 ha2 hel' hz hll (T:= [t]) (by simpa using List.nodup_cons.2 ⟨hnt,husd⟩) (fun u hu=>by simp at hu;subst hu;exact⟨_,k1⟩) hs2 hy htk hv q4 (by simp [zbI]) (hc _ (by simp))
     ·cases he
    ·cases he
   ·simp only [yqsi]at he;subst he
    generalize hv:a.eval x=v at r1
    cases r1 with
    |emp _=>exact zm0 h ho hcl ha1 ha2 hel' hz hll (T:= []) (by simpa using husd) (by simp) hs2 hy htk hv (c0:= .lst .nil) (.void hz0 (by rw [DTL.a7];exact hll) .nil) rfl (hc _ (by simp))
   ·simp only [yqsi]at he;subst he
    generalize hv:a.eval x=v at r1
    cases r1 with
    |cd _=>exact zm0 h ho hcl ha1 ha2 hel' hz hll (T:= []) (by simpa using husd) (by simp) hs2 hy htk hv (c0:= .lst .nil) (.void hz0 (by rw [DTL.a7];exact hll) .nil) rfl (hc _ (by simp))
   ·cases he
  ·cases he
 ·cases he
theorem zbP.gl (h:Pre P c n nx sl hp a sl0 hp0 o []) {T:List Nat} (hT:T.Nodup) (hTU: ∀u∈T,∃g,c.K u g) {ck:List Cn} {el z:Nat} {l:List DT} (hz:0<z) (hl:l.length=z) {x:E} {xs:List AV} {C:Array Value} {cap:Nat} (hx:x.den c.ρ= .sl xs) (hcl: ∀y∈xs,y.cells.length=z) (hle:xs.length≤cap) (hcap:cap≤maxLen) (hC:C.size=cap*z)
  (h1: ∀u∈C.toList.take (xs.length*z),u.oneCell'=true) (hD:DC c.w (znL xs.length l) (C.toList.take (xs.length*z)) (zaB xs) (zbI c T))
  (hr:(execOp a.eval o).run P c.w= .ok (.value (.slice (some ⟨c.w.heap.size,0,none⟩) xs.length cap)) (c.w.alloc (.cells C el))):
  zbP P o c n nx sl hp [] a {bu:=ck,val:= .own nx 0,bq:=(nx, .deep el z l 0 0 x)::zlc T}:=by
 have hinb: ∀b∈zbI c T,b<c.w.heap.size:=fun b hb=>by
  obtain⟨t,_,hbt⟩:=zkh.1 hb
  exact h.rel.gw.inb t b (by simp [GI.own,hbt])
 have hnew:(c.w.alloc (.cells C el)).heap[c.w.heap.size]?=some (.cells C el (0,0)):=heap_alloc_new c.w _
 have hgr:c.w.grownBy (c.w.alloc (.cells C el)) (some c.w.heap.size):=⟨rfl,rfl,rfl,by simp,fun j hj _=>Below.heap_alloc c.w _ _ hj⟩
 refine zbP.gq h hT hTU hr (zxu hgr fun g hg=> .inr (by cases hg;exact Nat.le_refl _)) (top:=c.w.heap.size::zbI c T) ?_ (fun b hb=> ?_) ?_
 ·exact List.nodup_cons.2 ⟨fun hh=>by have:=hinb _ hh;omega,zkK h.rel.gw hT⟩
 ·rcases yqmc.1 hb with rfl|hb
  ·exact⟨.inr (Nat.le_refl _),by simp⟩
  ·exact⟨.inl hb,Nat.lt_of_lt_of_le (hinb b hb) (by simp)⟩
 ·rw [hx]
  have:=DC.row (w:=c.w.alloc (.cells C el)) (e:=el) (z:=z) (l:=DTL.of l) (g:=c.w.heap.size) (cap:=cap) (C:=C) (ys:=xs) (N1:=zbI c T) (ts:= []) (vs:= []) (xs:= []) (N:= []) hz (by rw [DTL.a7];exact hl) hnew hle hcap hC hcl h1 (by
   rw [DTL.a7];exact hD.frame fun b hb=>Below.heap_alloc c.w _ _ (hinb b hb)) .nil
  simpa using this
theorem ztM (h:Pre P c n nx sl hp a sl0 hp0 o gs) {t:TypeId} {m:Nat} {parts:Array (Nat × Operand)} (ho:o.op= .buildSlice t m parts) {ps:List (Nat × SV)} (hps:parts.toList.mapM (fun(p:Nat × Operand)=>(zaj sl0 gs p.2).map fun s=>(p.1,s))=some ps) (he:zoZ P hp0 gs nx t m ps=some e) (hc: ∀q∈e.bu,Cn.den c.ρ q):zbP P o c n nx sl hp gs a e:=by
 obtain⟨e1,e2⟩:=znp (c:=c) (a:=a) (parts.toList.map (·.2)) (fun x s hx hm=>h.cz hx (by simpa [ho,Op.operands]using hm)) (fun x hx=>List.mem_map.2 ⟨x,hx,rfl⟩) hps
 unfold zoZ at he
 split at he
 ·rename_i el e' zz dl hel0 hdt
  have hel:=zfA hel0
  split at he
  ·cases he
  rename_i hcond
  simp only [not_or,Bool.not_eq_true',Bool.not_eq_false',ne_eq,Bool.not_eq_false,Bool.not_eq_true,Nat.not_lt,Decidable.not_not]at hcond
  obtain⟨hz,hnf,rfl,rfl,hty,hag,hle,hdense⟩:=hcond
  obtain⟨_,_,l,hld,hll⟩:=zrE hel0 hdt
  simp only [DT.row.injEq,true_and]at hld
  subst hld
  rw [DTL.a7]at he
  have hag:zaX P e'=true∨P.cellsOf e'=1:=by simpa using hag
  obtain⟨i,z,hi,hiz,hzs,hsz,hco,hby⟩:=ze2 hz
  split at he
  ·rename_i xs us ck hta
   split at he
   ·rename_i hnd
    simp only [yqsi]at he;subst he
    obtain⟨p1,p5,p6,p7,p8⟩:=zpl h.eh h.gs hll hag (ps.map (·.2)) (parts.toList.map fun p=>a.eval p.2) e2 hta hc
    have hlen:(parts.toList.map fun p=>a.eval p.2).length=m:=by
     have:ps.length=m:=by
      have:=congrArg List.length hdense;simpa using this
     have h9:=congrArg List.length e1
     simp at h9 ⊢;omega
    have hparts:(parts.map fun(x:Nat × Operand)=>(x.1,a.eval x.2)).toList=((parts.toList.map fun p=>a.eval p.2).zipIdx 0).map fun p=>(p.2,p.1):=by
     have hidx:parts.toList.map (·.1)=List.range m:=by rw [←e1,hdense]
     apply List.ext_getElem?
     intro j
     have hj:(parts.toList.map (·.1))[j]?=(List.range m)[j]?:=by rw [hidx]
     simp only [Array.toList_map,List.getElem?_map,List.getElem?_zipIdx]at hj ⊢
     cases hp:parts.toList[j]? with
     |none=>simp
     |some p=>
      rw [hp]at hj
      simp only [Option.map_some,yqsi]at hj ⊢
      have hjm:j<m:=by
       rcases Nat.lt_or_ge j m with hh|hh
       ·exact hh
       ·rw [List.getElem?_eq_none (by simpa using hh)]at hj;cases hj
      rw [List.getElem?_range hjm]at hj
      simp at hj
      simp [hj]
    obtain⟨C',f1,f2⟩:=zqx (sz:=i.size) (fun j=>some (j*i.size,i.size)) (fun j=>rfl) (parts.toList.map fun p=>a.eval p.2) 0 ((Array.range (m*i.size)).map (fun j=>(if m*i.size=0 then #[]else z.cells)[j % (if m*i.size=0 then #[]else z.cells).size]!)) [] _ (by simp;rfl) (by simp) (by simp [hlen]) (fun v hv=>by rw [←hco];exact(p5 v hv).1)
    have hCl:C'.toList.length=m*P.cellsOf e':=by
     rw [f2,hco]
     simp only [List.nil_append]
     have: ∀(L:List Value),(∀v∈L,v.cells.size=i.size)→(L.flatMap fun v=>v.cells.toList).length=L.length*i.size:=by
      intro L
      induction L with
      |nil=>intro _;simp
      |cons v L ih=>
       intro hL
       simp only [List.flatMap_cons,yqla,yqlc,Array.length_toList]
       rw [ih (fun u hu=>hL u (by simp [hu])),hL v (by simp),Nat.add_mul];omega
     rw [this _ (fun v hv=>by rw [←hco];exact(p5 v hv).1),hlen]
    have hxl:(xs.map (E.den c.ρ)).length=m:=by rw [List.length_map,p7,hlen]
    have htake:C'.toList.take ((xs.map (E.den c.ρ)).length*P.cellsOf e')=(parts.toList.map fun p=>a.eval p.2).flatMap fun v=>v.cells.toList:=by
     rw [hxl,←hCl,List.take_length,f2];simp
    refine zbP.gl h (zAW hnd) p8 (by omega) hll (xs:=xs.map (E.den c.ρ)) (C:=C') (cap:=m) (by simp [E.den,EL.dj]) (fun y hy=> ?_) (by omega) (by simp only [maxLen];have:m*1≤m*P.cellsOf e':=Nat.mul_le_mul_left _ (by omega);omega) (by rw [←Array.length_toList,hCl]) ?_ ?_ ?_
    ·obtain⟨q,hq,rfl⟩:=List.mem_map.1 hy
     exact p6 q hq
    ·rw [htake]
     intro u hu
     obtain⟨v,hv,hu⟩:=List.mem_flatMap.1 hu
     exact(p5 v hv).2 u hu
    ·rw [htake,hxl,←hlen];exact p1
    ·rw [hxl]
     have hrun:=znR (P:=P) hel hty hi hiz hco m (by rw [←hco];omega) (parts.map fun(x:Nat × Operand)=>(x.1,a.eval x.2)) C' (by rw [hparts];exact f1) c.w
     simp only [execOp,ho,Sem.run_bind]
     rw [hrun];rfl
   ·cases he
  ·cases he
 ·cases he
theorem zoy {w:World}: ∀{ds:List DT} {ss:List SV} {vs:List Value},ztk ds ss=true→SR c ss vs→ ∀{xs:EL} {m:Nat},zeA hp0 gs m ss=some xs→DC w ds vs (xs.den c.ρ) []
 | [], [],vs,_,hs,xs,m,hx=>by
  cases hs
  cases m with
  |zero=>simp [zeA]at hx
  |succ m=>simp [zeA]at hx;subst hx;exact .nil
 | [],_::_,_,h,_,_,_,_=>by simp [ztk]at h
 |_::_, [],_,h,_,_,_,_=>by simp [ztk]at h
 |d::ds,s::ss, [],h,hs,_,_,_=>by have:=hs.len;simp at this
 |d::ds,s::ss,v::vs,h,hs,xs,m,hx=>by
  obtain⟨j,y,ys,rfl,hy,hys,rfl⟩:=zfB hx
  obtain⟨r1,r2⟩:=hs.cf
  simp only [ztk,yqba]at h
  have ih:=zoy (w:=w) h.2 r2 hys
  unfold zH8 at h
  obtain⟨h1,_⟩:=h
  split at h1
  ·rename_i y'
   rw [EL.den,zn3 hy]
   cases r1 with
   |e g1 g2 _=>
    cases y'<;>simp [zIk]at h1
    ·cases g1 with
     |int hk _=>exact .flat (.int hk .nil) ih
    ·cases g1 with
     |bool _=>exact .flat (.bool .nil) ih
    ·rename_i s0
     generalize hq:(E.str s0).den c.ρ=q at g1
     cases g1 with
     |str hk _=>exact .flat (.str hk .nil) ih
     |_=>simp [E.den]at hq
  ·simp only [yqba,decide_eq_true_eq,beq_iff_eq]at h1
   rw [EL.den,zhT hy]
   cases r1 with
   |cd _=>exact .void h1.1 h1.2 ih
  ·cases h1
theorem DC.rep {w:World} {ds:List DT} {vs:List Value} {xs:List AV} (h:DC w ds vs xs []): ∀k,DC w (znL k ds) (List.replicate k vs).flatten (List.replicate k xs).flatten []
 |0=>by simpa [znL]using DC.nil
 |k+1=>by
  rw [zkr,List.replicate_succ,List.flatten_cons,List.replicate_succ,List.flatten_cons]
  simpa using h.app (DC.rep h k)
theorem zwr (h:Pre P c n nx sl hp a sl0 hp0 o gs) {t:TypeId} {l m:Operand} (ho:o.op= .makeSlice t l m) {s1 s2:SV} (hs1:zaj sl0 gs l=some s1) (hs2:zaj sl0 gs m=some s2) (he:zrF P hp0 gs nx t s1 s2=some e) (hc: ∀q∈e.bu,Cn.den c.ρ q):zbP P o c n nx sl hp gs a e:=by
 have hm1:l∈o.op.operands:=by simp [ho,Op.operands]
 have hm2:m∈o.op.operands:=by simp [ho,Op.operands]
 unfold zrF at he
 split at he
 ·rename_i el e' zz dl x y hel0 hdt
  have hel:=zfA hel0
  split at he
  ·cases he
  rename_i hcond
  simp only [not_or,Bool.not_eq_true',Bool.not_eq_false',ne_eq,Bool.not_eq_false,Bool.not_eq_true,Decidable.not_not]at hcond
  obtain⟨hz,hnf,rfl,rfl,hxy,hgs⟩:=hcond
  have hgs:gs= []:=by simpa using hgs
  subst hgs
  obtain⟨_,_,dl',hld,hll⟩:=zrE hel0 hdt
  simp only [DT.row.injEq,true_and]at hld
  subst hld
  rw [DTL.a7]at he
  obtain⟨i,z,hi,hiz,hzs,hsz,hco,hby⟩:=ze2 hz
  have r1:=h.cz hs1 hm1
  have r2:=h.cz hs2 hm2
  have ival: ∀{x:E} {kk:IntKind} {k:Int} {v:Value},SR c [.e x] [v]→x.den c.ρ= .int kk k→v= .int kk k:=by
   intro x kk k v hr hx
   cases hr with
   |e h1 _ _=>exact(zjH h1 hx).1
  split at he
  ·rename_i s hs
   have hs:zd4 z=some s:=by simpa [hi,hiz]using hs
   split at he
   ·rename_i hzd
    obtain⟨w,hw,rfl⟩:=yqme.1 he
    obtain⟨kk,k,hk,h0,hb,hle⟩:Cn.den c.ρ (.mkroom x (P.bytesOf e')):=hc1 hc
    have hv1:=ival r1 hk
    have hv2:=ival r2 (by rw [←E.ar c.ρ _ _ hxy];exact hk)
    have hzc:DC c.w dl' z.cells.toList (w.den c.ρ).cells []:=by
     have hsr:=znx (c:=c) hs
     unfold zFV at hzd
     cases s with
     |agg cs=>
      obtain⟨k9,l9,hm,hl9,rfl⟩:=zo9 hw
      cases hsr with
      |agg h9 h1 h8=>
       have:=zoy (w:=c.w) hzd h1 hl9
       simpa [Value.cells,AV.cells,E.den]using this
     |cd=>
      have hel:zeA hp0 [] (zad+1) [.cd]=some (.cons w .nil):=by
       unfold zeA
       rw [hw];rfl
      have:=zoy (w:=c.w) hzd hsr hel
      rw [zhT hw]at this ⊢
      cases hsr with
      |cd _=>simpa [Value.cells,AV.cells,E.den,EL.den]using this
     |_=>cases hzd
    obtain⟨c1,c2⟩:=zov (w:=c.w) (ρ:=c.ρ) hs hw
    obtain⟨kn,rfl⟩:=Int.eq_ofNat_of_zero_le h0
    have hbytes:(i.bytes:Int)*(kn:Int)≤281474976710656:=by
     rw [hby]at hb
     rw [Int.mul_comm];omega
    have hlen:=c1.len
    have hml:=ziT z.cells (by omega) kn
    have hrun:=run_make (P:=P) c.w t e' i z hel hi hiz kk kk kn kn (by omega) (Int.le_refl _) hbytes (by omega)
    have hsize:(madeCells z.cells (kn*z.cells.size)).size=kn*P.cellsOf e':=by rw [size_madeCells,hzs,hco]
    have htake:(madeCells z.cells (kn*z.cells.size)).toList.take ((List.replicate kn (w.den c.ρ)).length*P.cellsOf e')=(List.replicate kn z.cells.toList).flatten:=by
     rw [List.length_replicate,List.take_of_length_le (by rw [Array.length_toList,hsize];exact Nat.le_refl _),hml]
    have hfl:zaB (List.replicate kn (w.den c.ρ))=(List.replicate kn (w.den c.ρ).cells).flatten:=by
     clear hrun hsize htake hml hb hle hbytes hk hv1 hv2 h0 hc
     induction kn with
     |zero=>rfl
     |succ k ih=>simp only [List.replicate_succ,zaB,List.flatMap_cons,List.flatten_cons]at ih ⊢;rw [ih]
    refine zbP.gl (T:= []) h (by simp) (by simp) (by omega) hll (xs:=List.replicate kn (w.den c.ρ)) (C:=madeCells z.cells (kn*z.cells.size)) (cap:=kn) (by simp [E.den,hk,AV.rep]) (fun u hu=> ?_) (by simp) (by simp only [maxLen];omega) hsize ?_ ?_ ?_
    ·rw [List.eq_of_mem_replicate hu,←hlen,Array.length_toList,hzs,hco]
    ·rw [htake]
     intro u hu
     obtain⟨q,hq,hu⟩:=List.mem_flatten.1 hu
     rw [List.eq_of_mem_replicate hq]at hu
     exact c2 u hu
    ·rw [htake,List.length_replicate,hfl];exact hzc.rep kn
    ·simp only [execOp,ho,hv1,hv2,Sem.run_bind,Int.ofNat_eq_natCast,List.length_replicate]
     rw [hrun,hzs];rfl
   ·cases he
  ·cases he
 ·cases he
end
section
variable {P:Program} {c:Cx} {n nx:Nat} {sl sl0:Nat→SV} {hp hp0:Nat→Option Ent} {a:Act} {o:Oper} {gs:Gd} {e:Eff} {sg:SgT} {nv:Nat}
theorem zsJ {α:Type} (cs vs:List α) (o:Nat):setVs cs o vs=cs.take o++(vs++cs.drop (o+vs.length)):=by simp [setVs]
theorem DC.setVs {w:World} {ts:List DT} {L V:List Value} {X Y:List AV} {N1 N2 M:List Nat} {p:Nat} (h1:DC w (ts.take p) (L.take p) (X.take p) N1) (h2:DC w (ts.drop (p+V.length)) (L.drop (p+V.length)) (X.drop (p+V.length)) N2) (k:DC w ((ts.drop p).take V.length) V Y M):
  DC w ts (Go.Proofs.YtgobcjbjogkpjaaGreatDoor.setVs L p V) (Go.Proofs.YtgobcjbjogkpjaaGreatDoor.setVs X p Y) (N1++(M++N2)):=by
 have hk:=k.len
 have ht:ts=ts.take p++((ts.drop p).take V.length++ts.drop (p+V.length)):=by
  rw [←List.drop_drop,List.take_append_drop,List.take_append_drop]
 rw [zsJ,zsJ]
 have hl:Y.length=V.length:=by omega
 rw [hl]
 have:=h1.app (k.app h2)
 rw [←ht]at this
 exact this
theorem zu8 (h:Pre P c n nx sl hp a sl0 hp0 o []) {t:TypeId} {x y:Operand} (ho:o.op= .store t x y) {b g:Nat} {ix:E} {sz k:Nat} {s:SV} (r1:SR c [.cw b g ix sz k] [a.eval x]) (r2:SR c [s] [a.eval y]) {el:Nat} {l:List DT} {ep:Nat} {c0:E} (hK:c.K b g) (hmax: ∀g',c.K b g'→g'≤g) (hE:c.E b=ep)
  (hty:zog P t=true) (hle:k+P.cellsOf t≤sz) (hagE:zaX P el=true∨(sz=1∧zaX P t=false)) (hagT:zaX P t=true∨P.cellsOf t=1)
  {xe:E} {us:List Nat} {ck:List Cn} (htk:zuB P hp0 [] t ((l.drop k).take (P.cellsOf t)) s=some (xe,us,ck)) (hck: ∀q∈ck,q.den c.ρ) (hnd:us.Nodup) (hb:b∉us)
  (hin: ∀(kk:IntKind) (kv:Int),ix.den c.ρ= .int kk kv→ ∃(m cap:Nat) (C:Array Value) (ys:List AV) (N1 N2:List Nat),c.H b g= .slice (some ⟨m,0,none⟩) ys.length cap∧c0.den c.ρ= .sl ys∧0<sz∧l.length=sz∧c.w.heap[m]?=some (.cells C el (0,0))∧ys.length≤cap∧cap≤maxLen∧C.size=cap*sz∧(∀y∈ys,y.cells.length=sz)∧(∀w∈C.toList.take (ys.length*sz),w.oneCell'=true)∧
   (m::(N1++N2)).Nodup∧(∀q∈m::(N1++N2),q∈(c.G b).top)∧DC c.w ((znL ys.length l).take (kv.toNat*sz+k)) ((C.toList.take (ys.length*sz)).take (kv.toNat*sz+k)) ((zaB ys).take (kv.toNat*sz+k)) N1∧
   DC c.w ((znL ys.length l).drop (kv.toNat*sz+k+P.cellsOf t)) ((C.toList.take (ys.length*sz)).drop (kv.toNat*sz+k+P.cellsOf t)) ((zaB ys).drop (kv.toNat*sz+k+P.cellsOf t)) N2):
  zbP P o c n nx sl hp [] a {bu:=ck,bq:=(b, .deep el sz l g (ep+1) (.set c0 ix (.put (.idx c0 ix) k xe (zaX P el))))::zlc us}:=by
 generalize hv:a.eval x=v at r1
 cases r1 with
 |cw k1 k2 k3 k4 k5 k6=>
  rename_i m0 len cap0 kk kv
  obtain⟨m,cap,C,ys,N1,N2,p1,p2,p3,p4,p5,p6,p7,p8,p9,p10,p11,p12,p13,p14⟩:=hin kk kv k3
  rw [k2]at p1;cases p1
  have hkl:kv.toNat<ys.length:=by omega
  have hmul:(kv.toNat+1)*sz≤ys.length*sz:=Nat.mul_le_mul_right _ (by omega)
  have hmul2:ys.length*sz≤cap0*sz:=Nat.mul_le_mul_right _ p6
  rw [Nat.add_mul]at hmul
  have hCl:C.toList.length=cap0*sz:=by simpa using p8
  obtain⟨q1,q2,q3,q4,q5,q6⟩:=zrP h.eh h.gs (by rw [List.length_take,List.length_drop,p4];omega) hagT htk r2 hck
  have hnth:=zqY hkl
  generalize hyk:(AV.sl ys).nth kv.toNat=yk at hnth
  have hykl:=p9 yk (List.mem_of_getElem? hnth)
  have hvl:(a.eval y).cells.toList.length=P.cellsOf t:=by simpa using q4
  obtain⟨m1,m2,m3⟩:=ziO (vs:=(a.eval y).cells.toList) p5 (show(kv.toNat*sz+k)+_≤C.size by rw [hvl,p8];omega)
  have hlC:(C.toList.take (ys.length*sz)).length=ys.length*sz:=by rw [List.length_take,hCl];omega
  have hmtop:m0∈(c.G b).top:=p12 _ (by simp)
  have husb: ∀q∈zbI c us,q∉(c.G b).top:=fun q hq hh=>by
   obtain⟨u,hu,hqu⟩:=zkh.1 hq
   exact h.rel.gw.cr u b (fun hh=>hb (hh▸hu)) q (by simp [GI.own,hqu]) (by simp [GI.own,hh])
  have hinbT: ∀q∈zbI c us,q<c.w.heap.size:=fun q hq=>by
   obtain⟨u,_,hqu⟩:=zkh.1 hq
   exact h.rel.gw.inb u q (by simp [GI.own,hqu])
  have hinbB: ∀q∈(c.G b).top,q<c.w.heap.size:=fun q hq=>h.rel.gw.inb b q (by simp [GI.own,hq])
  have hsame: ∀q,q∈zbI c us∨(q∈N1++N2)→(za5 c.w m0 (kv.toNat*sz+k) (a.eval y).cells.toList).heap[q]?=c.w.heap[q]?:=fun q hq=>by
   refine m1.block q ?_ ?_
   ·rcases hq with hq|hq
    ·exact hinbT q hq
    ·exact hinbB q (p12 q (by simp [yqma.1 hq]))
   ·simp only [List.mem_singleton]
    rintro rfl
    rcases hq with hq|hq
    ·exact husb _ hq hmtop
    ·exact(List.nodup_cons.1 p11).1 hq
  have hz:(yk.db k (xe.den c.ρ) (zaX P el)).cells=setVs yk.cells k (xe.den c.ρ).cells:=by
   refine zpD ?_ (fun hg=> ?_)
   ·cases hg:zaX P el with
    |true=>exact .inr rfl
    |false=>
     left
     rcases hagE with h'|⟨_,h'⟩
     ·rw [hg]at h';cases h'
     ·rw [h']at q5
      exact fun cs=>(q5.1 cs)
   ·rcases hagE with h'|⟨h1,h'⟩
    ·rw [hg]at h';cases h'
    ·rw [h']at q5
     have hct:P.cellsOf t=1:=by rcases hagT with h2|h2;rw [h']at h2;cases h2;exact h2
     refine⟨by omega,by omega, ?_⟩
     cases hxe:xe.den c.ρ<;>first|rfl|exact absurd hxe (q5.1 _)
  have hflatC:zaB (ys.set kv.toNat (yk.db k (xe.den c.ρ) (zaX P el)))=setVs (zaB ys) (kv.toNat*sz+k) (xe.den c.ρ).cells:=
   zpn ys _ _ yk k _ p9 hnth (by rw [q3];exact hle) hz
  have hds:((znL ys.length l).drop (kv.toNat*sz+k)).take (P.cellsOf t)=(l.drop k).take (P.cellsOf t):=by
   rw [←p4];exact zlq l _ _ _ _ hkl (by omega)
  have hrun:(execOp a.eval o).run P c.w= .ok .skip (za5 c.w m0 (kv.toNat*sz+k) (a.eval y).cells.toList):=by
   have:=zoe (P:=P) (t:=t) (v:=a.eval y) (off:=kv.toNat*sz+k) p5 hty q4 (by rw [q4,p8];omega) q2
   simp [execOp,ho,hv,this]
  refine zbP.la h hnd q6 hb hK hmax hE hrun (hs:=(c.G b).top++zbI c us) (fun q hq=>yqma.1 hq) ⟨m1.os,m1.tape,m1.output,m1.size,fun q hq hn=>m1.block q hq fun hh=>hn (by simp only [List.mem_singleton]at hh;subst hh;exact yqma.2 (.inl hmtop))⟩
   (top:=m0::(N1++(zbI c us++N2))) ?_ (fun q hq=> ?_) ?_
  ·have hnT:=zkK h.rel.gw hnd
   rw [List.nodup_cons,List.nodup_append]at p11
   obtain⟨n1,n2,n3,n4⟩:=p11
   have a1: ∀q∈zbI c us,q∉N1∧q∉N2∧q≠m0:=fun q hq=>⟨fun hh=>husb q hq (p12 q (by simp [hh])),fun hh=>husb q hq (p12 q (by simp [hh])),fun hh=>husb q hq (hh▸hmtop)⟩
   rw [List.nodup_cons,List.nodup_append,List.nodup_append]
   refine⟨fun hh=> ?_,n2,⟨hnT,n3,fun p hp q hq hpq=>(a1 p hp).2.1 (hpq▸hq)⟩,fun p hp q hq hpq=> ?_⟩
   ·simp only [yqma]at hh n1
    rcases hh with hh|hh|hh
    ·exact n1 (.inl hh)
    ·exact(a1 _ hh).2.2 rfl
    ·exact n1 (.inr hh)
   ·rcases yqma.1 hq with hq|hq
    ·exact(a1 q hq).1 (hpq▸hp)
    ·exact n4 p hp q hq hpq
  ·have:q∈(c.G b).top∨q∈zbI c us:=by
    simp only [yqmc,yqma]at hq
    rcases hq with rfl|hq|hq|hq
    ·exact .inl hmtop
    ·exact .inl (p12 q (by simp [hq]))
    ·exact .inr hq
    ·exact .inl (p12 q (by simp [hq]))
   refine⟨.inl (yqma.2 this),Nat.lt_of_lt_of_le ?_ m1.size⟩
   rcases this with hh|hh
   ·exact hinbB q hh
   ·exact hinbT q hh
  ·have hden:(E.set c0 ix (.put (.idx c0 ix) k xe (zaX P el))).den c.ρ= .sl (ys.set kv.toNat (yk.db k (xe.den c.ρ) (zaX P el))):=by
    simp only [E.den,p2,k3,AV.idx,hyk,AV.cy]
   rw [hden,k2]
   have hll:(ys.set kv.toNat (yk.db k (xe.den c.ρ) (zaX P el))).length=ys.length:=List.length_set
   have:=DC.row (w:=za5 c.w m0 (kv.toNat*sz+k) (a.eval y).cells.toList) (e:=el) (z:=sz) (l:=DTL.of l) (g:=m0) (cap:=cap0) (ys:=ys.set kv.toNat (yk.db k (xe.den c.ρ) (zaX P el))) (N1:=N1++(zbI c us++N2)) (ts:= []) (vs:= []) (xs:= []) (N:= []) p3 (by rw [DTL.a7];exact p4) m2 (by rw [hll];exact p6) p7 (by rw [List.size_toArray,zlo _ _ _ (by rw [hvl,hCl];omega),Array.length_toList];exact p8) (fun w hw=> ?_) ?_ ?_ .nil
   ·rw [hll]at this
    simpa using this
   ·rcases List.mem_or_eq_of_mem_set hw with hw|rfl
    ·exact p9 w hw
    ·rw [hz,zlo _ _ _ (by rw [q3,hykl];exact hle)];exact hykl
   ·simp only [hll,List.toList_toArray]
    rw [zke _ _ _ _ (by rw [hvl];omega) (by rw [hCl];omega)]
    intro u hu
    unfold setVs at hu
    simp only [yqma]at hu
    rcases hu with(hu|hu)|hu
    ·exact p10 u (List.mem_of_mem_take hu)
    ·exact q2 u hu
    ·exact p10 u (List.mem_of_mem_drop hu)
   ·simp only [hll,List.toList_toArray]
    rw [zke _ _ _ _ (by rw [hvl];omega) (by rw [hCl];omega),hflatC,DTL.a7]
    refine DC.setVs (p13.frame fun q hq=>hsame q (.inr (by simp [hq]))) ?_ ?_
    ·rw [hvl];exact p14.frame fun q hq=>hsame q (.inr (by simp [hq]))
    ·rw [hvl,hds];exact q1.frame fun q hq=>hsame q (.inl hq)
theorem zt8 (h:Pre P c n nx sl hp a sl0 hp0 o gs) {t:TypeId} {x y:Operand} (ho:o.op= .store t x y) {b g:Nat} {ix:E} {sz k:Nat} {s:SV} (hrow: ¬ ∃e z g c d,znP hp0 gs b=some (.row e z g c d)) (hx:zaj sl0 gs x=some (.cw b g ix sz k)) (hy:zaj sl0 gs y=some s)
  (he:zkZ P hp0 gs t (.cw b g ix sz k) s=some e) (hc: ∀q∈e.bu,Cn.den c.ρ q):zbP P o c n nx sl hp gs a e:=by
 have r1:=h.cz hx (by simp [ho,Op.operands])
 have r2:=h.cz hy (by simp [ho,Op.operands])
 simp only [zkZ]at he
 split at he
 ·rename_i hl;exact absurd ⟨_,_,_,_,_,hl⟩ hrow
 ·rename_i el sz' l g' ep c0 hl
  split at he
  ·rename_i hh
   obtain⟨rfl,rfl,rfl,hty,hle,hagE,hagT⟩:=hh
   split at he
   ·rename_i xe us ck htk
    split at he
    ·cases he
    rename_i hnt
    simp only [Bool.or_eq_true,Bool.not_eq_true',not_or,Bool.not_eq_false,Bool.not_eq_true,List.contains_eq_mem,decide_eq_false_iff_not]at hnt
    simp only [yqsi]at he;subst he
    obtain⟨e1,e2,e3,e4,e5⟩:=h.eh b _ (za2 hl h.gs)
    refine zu8 h ho r1 r2 e1 e2 e3 hty hle (by simpa using hagE) hagT htk hc (zls hnt.1) hnt.2 fun kk kv hkv=> ?_
    generalize a.eval x=v at r1
    cases r1 with
    |cw k1 k2 k3 k4 k5 _=>
     rw [k3]at hkv;cases hkv
     obtain⟨d1,d2,⟨a9,d3,_⟩|⟨g9,cap9,C,ys,N,d3,d4,d5,d6,d7,d8,d9,d10,d11,d12⟩⟩:=e4.inv
     ·rw [k2]at d3;cases d3;omega
     ·rw [DTL.a7]at d2 d12
      obtain⟨N1,N2,N3,rfl,s1,s2,s3⟩:=d12.split (kv.toNat*sz+k) (P.cellsOf t)
      have hnd:=h.rel.gw.nodup b
      simp only [GI.own,e5,List.append_nil,d5]at hnd
      refine⟨g9,cap9,C,ys,N1,N3,d3,d4,d1,d2,d6,d7,d8,d9,d10,d11, ?_,fun q hq=> ?_,s1,s3⟩
      ·refine List.Sublist.nodup (List.Sublist.cons_cons _ ?_) hnd
       rw [List.append_assoc]
       exact List.Sublist.append (List.Sublist.refl _) (List.sublist_append_right _ _)
      ·rw [d5]
       simp only [yqmc,yqma]at hq ⊢
       rcases hq with hq|hq|hq
       ·exact .inl hq
       ·exact .inr (.inl (.inl hq))
       ·exact .inr (.inr hq)
   ·cases he
  ·cases he
 ·rename_i el sz' l g' ep c0 i' o' u' hl
  split at he
  ·rename_i hh
   obtain⟨rfl,rfl,rfl,hty,rfl,hib,hle,hct,hagT,hagE⟩:=hh
   have hagT:zaX P t=false:=by simpa using hagT
   split at he
   ·rename_i xe us ck htk
    split at he
    ·cases he
    rename_i hnt
    simp only [Bool.or_eq_true,Bool.not_eq_true',not_or,Bool.not_eq_false,Bool.not_eq_true,List.contains_eq_mem,decide_eq_false_iff_not]at hnt
    simp only [yqsi]at he;subst he
    obtain⟨e1,e2,e3,⟨m,cap,C,ys,kk,kv,N1,N2,p1,p2,p3,p4,p5,p6,p7,p7',p8,p9,p10,p11,p12,p13,p14,p15,p16,p17,p18⟩,e5⟩:=h.eh b _ (za2 hl h.gs)
    refine zu8 h ho r1 r2 e1 e2 e3 hty (by omega) (hagE.imp id fun hh=>⟨hh,hagT⟩) (.inr hct) (by rw [hct];exact htk) hc (zls hnt.1) hnt.2 fun kk' kv' hkv=> ?_
    rw [E.ar c.ρ _ _ hib,p3]at hkv
    cases hkv
    have hnd:=h.rel.gw.nodup b
    simp only [GI.own,e5,List.append_nil,p14]at hnd
    exact⟨m,cap,C,ys,N1,N2,p1,p2,p7,p7',p8,p9,p10,p11,p12,p13,hnd,fun q hq=>by rw [p14];exact hq,p17,by rw [hct];exact p18⟩
   ·cases he
  ·cases he
 ·cases he
end
section
variable {P:Program} {c:Cx} {n nx:Nat} {sl sl0:Nat→SV} {hp hp0:Nat→Option Ent} {a:Act} {o:Oper} {gs:Gd} {e:Eff} {sg:SgT} {nv:Nat}
theorem zyb {w:World} {ety sz:Nat} {p:Option Addr} {m r:Nat} {x:AV} {top N:List Nat} (h:zc2 w ety sz (.slice p m r) x top N): ∃xs,x= .sl xs∧xs.length=m∧m≤r∧0<sz∧(∀y∈xs,y.cells.length=sz)∧
  ((xs= []∧m=0∧r=0∧top= []∧N= [])∨ ∃g C,p=some ⟨g,0,none⟩∧r≤maxLen∧w.heap[g]?=some (.cells C ety (0,0))∧C.size=r*sz∧top= [g]∧(∀u∈C.toList.take (m*sz),u.oneCell'=true)∧Rd w (C.toList.take (m*sz)) (zaB xs) N):=by
 obtain⟨xs,rfl,h2,h3,⟨rfl,⟨a,hv⟩,rfl,rfl⟩|⟨g,cap',C,hv,h6,h7,h8,h9,rfl,h10,h11⟩⟩:=h
 ·cases hv;exact⟨[],rfl,rfl,Nat.le_refl _,h3,by simp, .inl ⟨rfl,rfl,rfl,rfl,rfl⟩⟩
 ·cases hv;exact⟨xs,rfl,rfl,h6,h3,h2, .inr ⟨g,C,rfl,h7,h8,h9,rfl,h10,h11⟩⟩
theorem zwy (h:Pre P c n nx sl hp a sl0 hp0 o gs) {t:TypeId} {x:Operand} {lo hi mx:Option Operand} (ho:o.op= .slice t x lo hi mx) {s:SV} (hs:zaj sl0 gs x=some s) {l' h' m':Option SV} (hl':ztp (zaj sl0 gs) lo=some l') (hh':ztp (zaj sl0 gs) hi=some h') (hm':ztp (zaj sl0 gs) mx=some m') (he:zry P hp0 gs t s l' h' m'=some e) (hc: ∀q∈e.bu,Cn.den c.ρ q):zbP P o c n nx sl hp gs a e:=by
 have hm:x∈o.op.operands:=by simp [ho,Op.operands]
 have hmlo: ∀y,lo=some y→y∈o.op.operands:=fun y hy=>by simp [ho,Op.operands,hy]
 have hmhi: ∀y,hi=some y→y∈o.op.operands:=fun y hy=>by simp [ho,Op.operands,hy]
 have hx:=h.cz hs hm
 have ival: ∀{x:E} {kk:IntKind} {k:Int} {v:Value},SR c [.e x] [v]→x.den c.ρ= .int kk k→v= .int kk k:=by
  intro x kk k v hr hx
  cases hr with
  |e h1 _ _=>exact(zjH h1 hx).1
 have ex:(execOp a.eval o).run P c.w=((Instr.sliceAt t (a.eval x) (lo.map a.eval) (hi.map a.eval) (mx.map a.eval)).run P c.w).andThen fun v w=> .ok (.value v) w:=by
  simp [execOp,ho]
 unfold zry at he
 split at he
 ·rename_i el0 b g hel
  have hu:=zfA hel
  split at he
  ·cases he
  rename_i hty
  have hty:zog P el0=true:=by simpa using hty
  have hmxn:mx=none:=by
   rcases zhB hm' with⟨hh,_⟩|⟨_,_,_,_,hh⟩
   ·exact hh
   ·cases hh
  subst hmxn
  split at he
  ·rename_i el z g' c0 d hl
   split at he
   ·cases he
   rename_i hcond
   simp only [not_or,Decidable.not_not,ne_eq]at hcond
   obtain⟨rfl,rfl,rfl⟩:=hcond
   obtain⟨q1,q2,N,q3,q4,q5,q6⟩:=h.eh b _ (za2 hl h.gs)
   generalize hv:a.eval x=v at hx ex
   cases hx with
   |own k1 k2 k3=>
    rename_i p m r
    rw [k2]at q3
    obtain⟨xs,hxs,hxl,hmr,hsz,hcl,hcase⟩:=zyb q3
    split at he
    ·rename_i l
     simp only [yqsi]at he;subst he
     obtain⟨ka,ai,kb,bi,mm,d1,d2,d3,d4,d5,d6⟩:Cn.den c.ρ (.win c0 l (.len c0)):=hc1 hc
     have hmm:mm=(m:Int):=by rw [hxs]at d3;simp only [AV.len,AV.int.injEq,true_and]at d3;omega
     obtain⟨an,rfl⟩:=Int.eq_ofNat_of_zero_le d4
     obtain⟨ol,hlo,hol⟩: ∃ol,lo=some ol∧zaj sl0 [] ol=some (.e l):=by
      rcases zhB hl' with⟨_,hh⟩|⟨ol,sl',hh1,hh2,hh3⟩
      ·cases hh
      ·cases hh3;exact⟨ol,hh1,hh2⟩
     have hhi:hi=none:=by
      rcases zhB hh' with⟨hh,_⟩|⟨_,_,_,_,hh⟩
      ·exact hh
      ·cases hh
     subst hlo;subst hhi
     have hlv:=ival (h.cz hol (hmlo _ rfl)) d1
     have hle:an≤m:=by omega
     have hrun:=zkE (P:=P) (w:=c.w) (lo:=(some ol).map a.eval) (hi:=(none:Option Operand).map a.eval) hu hty p m r an m (.inr ⟨ka,by rw [Option.map_some,hlv]⟩) (.inl ⟨rfl,rfl⟩) hle (Nat.le_refl _) hmr
     have:=SR.wown (c:=c) (lo:=l) (sz:=P.cellsOf el) (q':=if r=an then p else p.map (·.add (an*P.cellsOf el))) (r:=r-an) k1 k2 d1 d4 (by omega) (fun hlt=>by
      rcases hcase with⟨_,hm0,_⟩|⟨g9,C,rfl,_⟩
      ·omega
      ·exact⟨g9,rfl,by rw [if_neg (by omega)];simp [Addr.add_lit],by simp⟩) .nil
     refine zbP.pure h (v:=sliced p an m r (P.cellsOf el)) ?_ (by simpa [sliced]using this) rfl
     rw [ex];show Result.andThen (Sem.run P (Instr.sliceAt t (.slice p m r) ((some ol).map a.eval) ((none:Option Operand).map a.eval) none) c.w) _=_;rw [hrun];rfl
    ·rename_i hb
     simp only [yqsi]at he;subst he
     obtain⟨ka,ai,kb,bi,mm,d1,d2,d3,d4,d5,d6⟩:Cn.den c.ρ (.win c0 (.int .i64 0) hb):=hc1 hc
     have hmm:mm=(m:Int):=by rw [hxs]at d3;simp only [AV.len,AV.int.injEq,true_and]at d3;omega
     simp only [E.den,AV.int.injEq]at d1
     obtain⟨_,rfl⟩:=d1
     obtain⟨bn,rfl⟩:=Int.eq_ofNat_of_zero_le d5
     obtain⟨oh,hhi,hoh⟩: ∃oh,hi=some oh∧zaj sl0 [] oh=some (.e hb):=by
      rcases zhB hh' with⟨_,hh⟩|⟨ol,sl',hh1,hh2,hh3⟩
      ·cases hh
      ·cases hh3;exact⟨ol,hh1,hh2⟩
     have hlo:lo=none:=by
      rcases zhB hl' with⟨hh,_⟩|⟨_,_,_,_,hh⟩
      ·exact hh
      ·cases hh
     subst hlo;subst hhi
     have hlv:=ival (h.cz hoh (hmhi _ rfl)) d2
     have hle:bn≤m:=by omega
     have hrun:=zkE (P:=P) (w:=c.w) (lo:=(none:Option Operand).map a.eval) (hi:=(some oh).map a.eval) hu hty p m r 0 bn (.inl ⟨rfl,rfl⟩) (.inr ⟨kb,by rw [Option.map_some,hlv]⟩) (Nat.zero_le _) hle hmr
     have hsl:sliced p 0 bn r (P.cellsOf el)= .slice p bn r:=by
      unfold sliced
      rcases hcase with⟨_,_,rfl,_⟩|⟨g9,C,rfl,_⟩
      ·simp
      ·split<;>simp [Addr.add_lit]
     rw [hsl]at hrun
     have hrun':(execOp a.eval o).run P c.w= .ok (.value (.slice p bn r)) c.w:=by
      rw [ex];show Result.andThen (Sem.run P (Instr.sliceAt t (.slice p m r) ((none:Option Operand).map a.eval) ((some oh).map a.eval) none) c.w) _=_;rw [hrun];rfl
     have hnew: ¬c.K b (g+1):=fun hk=>by have:=q2 _ hk;omega
     have hrel:=h.rel
     have hfin:=hrel.bc (gs:= []) (t:=b) (g:=g+1) (w':=c.w) (row:=(c.G b).top.head?) (top:=(c.G b).top) (O:=if d=true then(c.G b).O else []) (v:= .slice p bn r) (.inr (by omega)) hnew ⟨rfl,rfl,rfl,Nat.le_refl _,fun _ _ _=>rfl⟩ (fun g0 hg0=> .inl (List.mem_of_mem_head? hg0)) (by
       rcases hcase with⟨_,_,_,ht,_⟩|⟨g9,C,_,_,_,_,ht,_⟩
       ·exact .inl ht
       ·exact .inr ⟨g9,by rw [ht];rfl,ht⟩) (by split;exact .inr rfl;exact .inl rfl)
      (.row el (P.cellsOf el) (g+1) (.win c0 (.int .i64 0) hb) d) (by intros;simp) (zcA _) (fun hkp=>by
       have hwin:(E.win c0 (.int .i64 0) hb).den c.ρ= .sl (xs.take bn):=by
        simp only [E.den,hxs,d2,AV.win];simp
       obtain⟨N',hown,hNN⟩: ∃N',zc2 c.w el (P.cellsOf el) (.slice p bn r) (.sl (xs.take bn)) (c.G b).top N'∧ ∀q∈N',q∈N:=by
        rcases hcase with⟨rfl,hm0,rfl,ht,rfl⟩|⟨g9,C,rfl,hmax,hb9,hC,ht,h1,hrd⟩
        ·have:bn=0:=by omega
         subst this
         exact⟨[],⟨[],by simp,by simp,hsz, .inl ⟨rfl,⟨p,rfl⟩,ht,rfl⟩⟩,by simp⟩
        ·obtain⟨N',hN',hr'⟩:=hrd.piece 0 (bn*P.cellsOf el)
         have hl0:(xs.take bn).length=bn:=by rw [List.length_take];omega
         have hmul:bn*P.cellsOf el≤m*P.cellsOf el:=Nat.mul_le_mul_right _ hle
         have ef:=zrL xs hcl 0 bn (Nat.zero_le _) (by omega)
         simp only [Nat.zero_mul,Nat.sub_zero,List.drop_zero]at ef hr'
         rw [ef,List.take_take,Nat.min_eq_left hmul]at hr'
         refine⟨N',⟨xs.take bn,rfl,fun y hy=>hcl y (List.mem_of_mem_take hy),hsz, .inr ⟨g9,r,C,by rw [hl0],by rw [hl0];omega,hmax,hb9,hC,ht, ?_, ?_⟩⟩,hN'⟩
         ·rw [hl0]
          intro u hu
          refine h1 u ?_
          have:C.toList.take (bn*P.cellsOf el)=(C.toList.take (m*P.cellsOf el)).take (bn*P.cellsOf el):=by rw [List.take_take,Nat.min_eq_left hmul]
          rw [this]at hu
          exact List.mem_of_mem_take hu
         ·rw [hl0];exact hr'
       refine⟨.inr ⟨rfl,rfl⟩,fun g'' hg''=> ?_,N', ?_,fun q hq=>hkp.ok q (hown.mw q hq) (q4 q (hNN q hq)),fun hd=> ?_,fun hd=>by simp [Cx.bc,hd]⟩
       ·rcases hg'' with hg''|⟨_,rfl⟩
        ·have:=q2 _ hg'';omega
        ·exact Nat.le_refl _
       ·have e1:(c.bc b (g+1) c.w (.slice p bn r) (c.G b).top (if d=true then(c.G b).O else [])).H b (g+1)= .slice p bn r:=by simp [Cx.bc]
        have e2:((c.bc b (g+1) c.w (.slice p bn r) (c.G b).top (if d=true then(c.G b).O else [])).G b).top=(c.G b).top:=by simp [Cx.bc]
        rw [e1,e2]
        show zc2 c.w el (P.cellsOf el) _ ((E.win c0 (.int .i64 0) hb).den c.ρ) _ N'
        rw [hwin];exact hown
       ·obtain⟨u1,u2⟩:=q5 hd
        have u1:N= []:=u1
        subst u1
        have hN0:N'= []:=List.eq_nil_iff_forall_not_mem.2 fun q hq=>by simpa using hNN q hq
        subst hN0
        exact⟨rfl,by simp only [Cx.bc,if_true,hd];exact u2⟩)
     intro next Q hk
     unfold Oper.wp
     rw [hrun',Oper.upon_value]
     refine hk _ (c.bc b (g+1) c.w (.slice p bn r) (c.G b).top (if d=true then(c.G b).O else [])) ⟨rfl,rfl,rfl,rfl,fun u hu=> ?_⟩ (hfin.put (SR.mkGd (c:=c.bc b (g+1) c.w (.slice p bn r) (c.G b).top (if d=true then(c.G b).O else [])) (s:= .own b (g+1)) (v:= .slice p bn r) (.own (show _∨_ from .inr ⟨rfl,rfl⟩) (by simp [Cx.bc]) .nil) []) o.dst)
     rcases hu with hu|rfl
     ·exact .inl hu
     ·exact .inl (h.rel.ca _ _ k1)
    ·cases he
  ·cases he
 ·cases he
theorem zt7 (z:Array Value) (hz:0<z.size) (k:Nat):(Builtin.zeroCells z k).toList=(List.replicate k z.toList).flatten:=by
 have:=ziT z hz k
 rw [←this];rfl
theorem zAy (h:Pre P c n nx sl hp a sl0 hp0 o gs) {x:Operand} {tx:TypeId} {cl:Call} (ho:o.op= .call cl) (hcl:cl.callee= .builtin .clear) (ha1:cl.args.toList= [x]) (ha2:cl.argTypes.toList= [tx]) {s:SV} (hs:zaj sl0 gs x=some s) (he:zvk P hp0 gs tx s=some e) (hc: ∀q∈e.bu,Cn.den c.ρ q):zbP P o c n nx sl hp gs a e:=by
 have hargs:cl.args= #[x]:=by apply Array.ext';simp [ha1]
 have htys:cl.argTypes= #[tx]:=by apply Array.ext';simp [ha2]
 have hm:x∈o.op.operands:=by simp [ho,Op.operands,Call.operands,hcl,hargs]
 have hx:=h.cz hs hm
 unfold zvk at he
 split at he
 ·rename_i el0 b g l z hel
  have hu:=zfA hel
  split at he
  ·rename_i el z' g' c0 d hl
   split at he
   ·cases he
   rename_i hcond
   simp only [not_or,Bool.not_eq_true',Bool.not_eq_false,Decidable.not_not,ne_eq]at hcond
   obtain⟨rfl,rfl,rfl,rfl,hz,hag⟩:=hcond
   have hag:zaX P el=true∨P.cellsOf el=1:=by simpa using hag
   obtain⟨i,zv,hi,hiz,hzs,hsz,hco,hby⟩:=ze2 hz
   split at he
   ·rename_i q hq
    split at he
    ·rename_i w hw
     have hq:zd4 zv=some q:=by simpa [hi,hiz]using hq
     simp only [yqsi]at he;subst he
     obtain⟨c1,c2⟩:=zov (w:=c.w) (ρ:=c.ρ) hq hw
     have hres:=zl9 h.hp (za2 hl h.gs)
     obtain⟨q1,q2,N,q3,q4,q5,q6⟩:=h.rel.ents b _ hres
     generalize hv:a.eval x=v at hx
     cases hx with
     |wown k1 k2 k3 k4 k5 k6 k7=>
      rename_i p m r q' r' kk kv
      rw [k2]at q3
      obtain⟨xs,hxs,hxl,hmr,hsz0,hcl9,hcase⟩:=zyb q3
      have hdef:(E.bin .sub (.len c0) l).den c.ρ≠ .undef:=hc (.dfd (.bin .sub (.len c0) l)) (by simp)
      have hkk:kk= .i64:=by
       simp only [E.den,hxs,AV.len,k3,AV.bin]at hdef
       split at hdef
       ·rename_i hh
        rcases hh with hh|hh|hh
        ·exact hh.symm
        ·cases hh
        ·cases hh
       ·exact absurd rfl hdef
      subst hkk
      have hden:(E.bin .sub (.len c0) l).den c.ρ= .int .i64 ((m:Int)-kv):=by
       simp only [E.den,hxs,AV.len,k3,AV.bin,true_or,if_true,za7,hxl]
       congr 1
       have hm63:(m:Int)≤9223372036854775807:=by
        rcases hcase with⟨_,h0,_⟩|⟨_,_,_,hmax,_⟩
        ·omega
        ·have:maxLen=9223372036854775807:=rfl;omega
       exact(zow .i64 _).2 ⟨by simp [IntKind.min,IntKind.signed,IntKind.bits];omega,by simp [IntKind.max,IntKind.signed,IntKind.bits];omega⟩
      have hnew:(E.app (.win c0 (.int .i64 0) l) (.rep (.bin .sub (.len c0) l) w)).den c.ρ= .sl (xs.take kv.toNat++List.replicate (m-kv.toNat) (w.den c.ρ)):=by
       have e1:(E.win c0 (.int .i64 0) l).den c.ρ= .sl (xs.take kv.toNat):=by simp only [E.den,hxs,k3,AV.win];simp
       have e2:(E.rep (.bin .sub (.len c0) l) w).den c.ρ= .sl (List.replicate (m-kv.toNat) (w.den c.ρ)):=by
        show AV.rep ((E.bin .sub (.len c0) l).den c.ρ) (w.den c.ρ)=_
        rw [hden];simp only [AV.rep]
        congr 2;omega
       show AV.app _ _=_
       rw [e1,e2];rfl
      have ex:(execOp a.eval o).run P c.w=((Builtin.clear_ #[tx] o.type #[.slice q' (m-kv.toNat) r']).run P c.w).andThen fun v w=> .ok (.value v) w:=by
       simp [execOp,ho,resolve,hcl,hargs,htys,invoke,builtin,hv]
      rcases Nat.eq_or_lt_of_le (show kv.toNat≤m by omega)with heq|hlt
      ·
       have hsub:m-kv.toNat=0:=by omega
       have hrun:(execOp a.eval o).run P c.w= .ok (.value (.tuple #[])) c.w:=by
        rw [ex,hsub]
        cases q'<;>simp [Builtin.clear_,run_underlying hu]
       have hsame:(E.app (.win c0 (.int .i64 0) l) (.rep (.bin .sub (.len c0) l) w)).den c.ρ=c0.den c.ρ:=by
        rw [hnew,hxs,hsub];simp [List.take_of_length_le (show xs.length≤kv.toNat by omega)]
       intro next Q hk
       unfold Oper.wp
       rw [hrun,Oper.upon_value]
       have hfin:Rel c n sl (zfe hp [(b, .row el (P.cellsOf el) g (.app (.win c0 (.int .i64 0) l) (.rep (.bin .sub (.len c0) l) w)) d)]) a:=by
        have hup: ∀u,zfe hp [(b, .row el (P.cellsOf el) g (.app (.win c0 (.int .i64 0) l) (.rep (.bin .sub (.len c0) l) w)) d)] u=if u=b then some (.row el (P.cellsOf el) g (.app (.win c0 (.int .i64 0) l) (.rep (.bin .sub (.len c0) l) w)) d)else hp u:=fun u=>rfl
        refine h.rel.change (fun u=>u=b) (zpB.refl c) h.rel.base (fun u hu=>⟨by rw [hup,if_neg hu],rfl,rfl,fun _ hk=>hk⟩) (fun _ _ _ _=>rfl) (fun u hu=> ?_) h.rel.gw h.rel.ca (fun u f hf=> ?_)
        ·subst hu
         rw [hup,if_pos rfl]
         refine⟨fun e' hr=> ?_,fun hn=>absurd rfl (hn _)⟩
         simp only [Res]at hr
         subst hr
         exact⟨q1,q2,N,by rw [hsame,k2];exact q3,q4,q5,q6⟩
        ·rw [hup]at hf
         split at hf
         ·rename_i hu;subst hu;exact h.rel.ca _ _ k1
         ·exact h.rel.ct u f hf
       exact hk _ c (zFC.refl _ _) (hfin.put ((SR.undef .nil).mkGd []) o.dst)
      ·obtain⟨b9,hp9,rfl,rfl⟩:=k6 (by omega)
       rcases hcase with⟨_,h0,_⟩|⟨g9,C,hp',hmax,hb9,hC,ht,h1,hrd⟩
       ·omega
       rw [hp9]at hp';cases hp'
       have hCl:C.toList.length=r*P.cellsOf el:=by simpa using hC
       have hmulr:m*P.cellsOf el≤r*P.cellsOf el:=Nat.mul_le_mul_right _ hmr
       have hmulk:(m-kv.toNat)*P.cellsOf el+kv.toNat*P.cellsOf el=m*P.cellsOf el:=by
        rw [←Nat.add_mul];congr 1;omega
       have hzl:=zt7 zv.cells (by omega) (m-kv.toNat)
       generalize hZ:(List.replicate (m-kv.toNat) zv.cells.toList).flatten=Z at hzl
       have hZl:Z.length=(m-kv.toNat)*P.cellsOf el:=by
        rw [←hZ,List.length_flatten]
        simp only [List.map_replicate,List.sum_replicate_nat,Array.length_toList,hzs,hco]
       have hZ1: ∀u∈Z,u.oneCell'=true:=fun u hu=>by
        rw [←hZ]at hu
        obtain⟨L,hL,hu⟩:=List.mem_flatten.1 hu
        rw [List.eq_of_mem_replicate hL]at hu
        exact c2 u hu
       have hput:=zna (P:=P) (off:=kv.toNat*P.cellsOf el) Z 0 c.w C hb9 (by rw [hZl,hC];omega) hZ1
       have hrun:(execOp a.eval o).run P c.w= .ok (.value (.tuple #[])) (za5 c.w b9 (kv.toNat*P.cellsOf el) Z):=by
        rw [ex]
        obtain⟨mm,hmm⟩: ∃mm,m-kv.toNat=mm+1:=⟨m-kv.toNat-1,by omega⟩
        have hzv:(zeroValue el).run P c.w= .ok zv c.w:=by simp [zeroValue,typeInfo,hi,hiz]
        simp only [Nat.add_zero]at hput
        rw [hmm]at hzl ⊢
        simp [Builtin.clear_,run_underlying hu,hzv,hzl,hput]
       obtain⟨m1,m2,m3⟩:=ziO (off:=kv.toNat*P.cellsOf el) (vs:=Z) hb9 (by rw [hZl,hC];omega)
       have hlC:(C.toList.take (m*P.cellsOf el)).length=m*P.cellsOf el:=by rw [List.length_take,hCl];omega
       have hztop:b9∈(c.G b).top:=by rw [ht];simp
       have hZrd:Rd c.w Z (zaB (List.replicate (m-kv.toNat) (w.den c.ρ))) []:=by rw [←hZ];exact zBx c1 _
       obtain⟨n1,n2,n3,hN,s1,s2⟩:=Rd.setVs (p:=kv.toNat*P.cellsOf el) hrd hZrd (by rw [hlC,hZl];omega)
       have hwl:(w.den c.ρ).cells.length=P.cellsOf el:=by have:=c1.len;rw [←this];simp [hzs,hco]
       have hYl:(zaB (List.replicate (m-kv.toNat) (w.den c.ρ))).length=Z.length:=by rw [←hZrd.len]
       have hfl:setVs (zaB xs) (kv.toNat*P.cellsOf el) (zaB (List.replicate (m-kv.toNat) (w.den c.ρ)))=zaB (xs.take kv.toNat++List.replicate (m-kv.toNat) (w.den c.ρ)):=by
        have ef:=zrL xs hcl9 0 kv.toNat (Nat.zero_le _) (by omega)
        simp only [Nat.zero_mul,Nat.sub_zero,List.drop_zero]at ef
        unfold setVs
        rw [ef,zmK,hYl,hZl,List.drop_eq_nil_of_le (by rw [zjk _ hcl9,hxl];omega),List.append_nil]
       rw [hfl]at s1
       have hin: ∀q∈n1++ []++n3,q∈N:=fun q hq=>by rw [hN];simp at hq ⊢;rcases hq with hq|hq<;>simp [hq]
       have hkeepw: ∀q,q<c.w.heap.size→c.ok q→(za5 c.w b9 (kv.toNat*P.cellsOf el) Z).heap[q]?=c.w.heap[q]?:=by
        intro q hq hok
        refine m1.block q hq ?_
        simp only [List.mem_singleton]
        rintro rfl
        exact hok.1 ⟨b,hztop⟩
       have hll:(xs.take kv.toNat++List.replicate (m-kv.toNat) (w.den c.ρ)).length=m:=by
        rw [yqla,List.length_take,List.length_replicate];omega
       have hfin:=h.rel.j9 (t:=b) (b:=b9) (w':=za5 c.w b9 (kv.toNat*P.cellsOf el) Z) (O:=if d=true then(c.G b).O else []) hres hztop (by split;exact .inr rfl;exact .inl rfl) m1 m3
        (.row el (P.cellsOf el) g (.app (.win c0 (.int .i64 0) l) (.rep (.bin .sub (.len c0) l) w)) d) (by intros;simp) (fun hkp=>by
         refine⟨q1,q2,n1++ []++n3, ?_,fun q hq=>hkp.ok q (hrd.inb q (hin q hq)) (q4 q (hin q hq)),fun hd=> ?_,fun hd=>by simp [Cx.gh,hd]⟩
         ·show zc2 (za5 c.w b9 (kv.toNat*P.cellsOf el) Z) el (P.cellsOf el) (c.H b g) ((E.app (.win c0 (.int .i64 0) l) (.rep (.bin .sub (.len c0) l) w)).den c.ρ) _ _
          rw [hnew,k2,hp9]
          refine⟨_,rfl,fun y hy=> ?_,hsz0, .inr ⟨b9,r,_,by rw [hll],by rw [hll];exact hmr,hmax,m2, ?_,by simpa [Cx.gh]using ht, ?_, ?_⟩⟩
          ·rcases yqma.1 hy with hy|hy
           ·exact hcl9 y (List.mem_of_mem_take hy)
           ·rw [List.eq_of_mem_replicate hy];exact hwl
          ·rw [List.size_toArray,zlo _ _ _ (by rw [hZl,hCl];omega),Array.length_toList];exact hC
          ·simp only [hll,List.toList_toArray]
           rw [zke _ _ _ _ (by rw [hZl];omega) (by rw [hCl];omega)]
           intro u hu
           unfold setVs at hu
           simp only [yqma]at hu
           rcases hu with(hu|hu)|hu
           ·exact h1 u (List.mem_of_mem_take hu)
           ·exact hZ1 u hu
           ·exact h1 u (List.mem_of_mem_drop hu)
          ·simp only [hll,List.toList_toArray]
           rw [zke _ _ _ _ (by rw [hZl];omega) (by rw [hCl];omega)]
           exact s1.frame fun q hq=>hkeepw q (hrd.inb q (hin q hq)) (q4 q (hin q hq))
         ·obtain⟨u1,u2⟩:=q5 hd
          have u1:N= []:=u1
          subst u1
          have hN0:n1++ []++n3= []:=List.eq_nil_iff_forall_not_mem.2 fun q hq=>by simpa using hin q hq
          rw [hN0]
          exact⟨rfl,by simp only [Cx.gh,if_true,hd];exact u2⟩)
       intro next Q hk
       unfold Oper.wp
       rw [hrun,Oper.upon_value]
       exact hk _ (c.gh _ b _) ⟨rfl,rfl,rfl,rfl,fun t ht=> .inl ht⟩ (hfin.put ((SR.undef .nil).mkGd []) o.dst)
    ·cases he
   ·cases he
  ·cases he
 ·cases he
end
section
variable {P:Program} {c:Cx} {n nx:Nat} {sl sl0:Nat→SV} {hp hp0:Nat→Option Ent} {a:Act} {o:Oper} {gs:Gd} {e:Eff} {sg:SgT} {nv:Nat}
theorem zy7 {w:World}: ∀(vs:List Value) {xs:List AV} {f:List Nat} (ts:List TypeId),Rd w vs xs f→ts.length≤vs.length→zhy P w ts [] [] vs xs f [] []
 | [],xs,f,ts,h,hl=>by
  have:ts= []:=List.eq_nil_of_length_eq_zero (by simpa using hl)
  subst this
  cases h;exact .nil
 |v::vs, [],f,ts,h,hl=>by have:=h.len;simp at this
 |v::vs,x::xs,f,ts,h,hl=>by
  obtain⟨f1,f2,rfl,h1,h2⟩:=h.cf
  cases ts with
  |nil=>exact .free h1 (zy7 vs [] h2 (by simp))
  |cons t ts=>exact zhy.cons (h:= []) ⟨h1,rfl⟩ (zy7 vs ts h2 (by simpa using hl))
theorem zGE (l:EL):EL.of (zpY.go l)=l:=by
 induction l using EL.rec (motive_1:=fun _=>True)with
 |nil=>rfl
 |cons e es _ ih=>simp [zpY.go,EL.of,ih]
 |_=>trivial
theorem zEH {w:World} {ts:List TypeId} {vs:List Value} {Bs:List AV} {f o:List Nat} (h:zeU P w ts [] vs Bs f o):Bs= []:=by
 have key: ∀(ts:List TypeId),hasBack ts []=false:=by
  intro ts
  induction ts with
  |nil=>rfl
  |cons t ts ih=>simp only [hasBack,List.headD_nil,Bool.false_or,List.tail_nil];exact ih
 exact(zoG h).2 (key ts)
theorem zCQ (t:TypeId):znI P t []=false:=by simp [znI]
theorem zqA (h:Pre P c n nx sl hp a sl0 hp0 o gs) {cl:Call} {fo:Operand} (ho:o.op= .call cl) (hcl:cl.callee= .value fo) {y:E} {sf:SV} (hf:zaj sl0 gs fo=some sf) (hsf: ∀v,SR c [sf] [v]→ ∃f,Rd c.w [v] [y.den c.ρ] f) {as_:List SV} (has:cl.args.toList.mapM (zaj sl0 gs)=some as_) {t:TypeId}
  (he:zpY P hp0 gs nv t y as_=some e) (hcall: ∀c',e.call=some c'→ ∃r,c.ρ[nv]?=some r∧zly (Rts P sg) c'.fn ((EL.of c'.args).den c.ρ) c.ρ r):zbP P o c n nx sl hp gs a e:=by
 have hmf:fo∈o.op.operands:=by simp [ho,Op.operands,Call.operands,hcl]
 have hma: ∀x∈cl.args.toList,x∈o.op.operands:=fun x hx=>by
  have:x∈cl.args:=by simpa using hx
  simp [ho,Op.operands,Call.operands,hcl,this]
 have hrf:=h.cz hf hmf
 have hargs:=zx2 (a:=a) (fun x hx s hs=>h.cz hs (hma x hx)) has
 unfold zpY at he
 split at he
 ·cases he
 split at he
 ·cases he
 rename_i es hes
 simp only [yqsi]at he;subst he
 obtain⟨r,hr,g,caps,hy,hrt,hsc⟩:=hcall _ rfl
 rw [zGE]at hrt
 obtain⟨f1,p1,p2⟩:=znk h.eh h.gs zad hes hargs zad (Nat.le_refl _)
 generalize hfv:a.eval fo=fv at hrf
 obtain⟨_,k1⟩:=hsf _ hrf
 obtain⟨capv,f2,rfl,hcv⟩: ∃capv f2,fv= .func (.func g) #[] capv.toArray∧Rd c.w capv caps f2:=by
  rw [hy]at k1
  cases k1 with
  |fn q1 _=>exact⟨_,_,rfl,q1⟩
 have hret:Ret P {cq:= [],res:= []} g (es.den c.ρ++caps) r:=by
  unfold Rts at hrt
  rw [if_neg (by omega)]at hrt
  simpa using hrt
 obtain⟨fn,hfn,hbody,hname,_,hlen,_,hcalls⟩:=hret
 have hrd:=p1.app hcv
 have hvl:=hrd.len
 have hcall:=hcalls c.w _ _ [] [] (zy7 _ (fn.params.toList++ []) hrd (by rw [hvl,hlen,List.append_nil,Array.length_toList];omega)) (by simp) (by simp) (by simp) (h.rel.nd (by simp))
 have ex:(execOp a.eval o).run P c.w= .ok (.enter g (cl.args.map a.eval++capv.toArray)) c.w:=by
  have hb:fn.body.isNone=false:=by simpa using hbody
  simp only [execOp,ho,resolve,hcl,hfv,Deferred.ofValue,Sem.run_bind,Sem.run_pure,Result.andThen_ok,invoke,callFunc,run_program,hfn]
  simp [hname,hb]
 intro next Q hk
 unfold Oper.wp
 rw [ex,Oper.upon_enter]
 have harr:cl.args.map a.eval++capv.toArray=((cl.args.toList.map a.eval)++capv).toArray:=by
  apply Array.ext';simp
 rw [harr]
 refine hcall.mono ?_
 rintro e' w' ⟨v,rfl,⟨R,Bs,f1',o1,f2',o2,hrR,hres,hback,hnod,ho12,hf12⟩,hmod⟩
 show next (a.put o.dst v) w'
 have hBs:=zEH hback
 subst hBs
 simp only at hrR
 subst hrR
 have hv:Rd w' [v] [r] []:=by
  unfold zDW at hres
  split at hres
  ·rename_i t' ht
   unfold ztn at hres
   rw [if_neg (by rw [zCQ];simp)]at hres
   have:=zpv hres.1 hsc
   subst this;exact hres.1
  ·obtain⟨vs,ys,_,rfl,_⟩:=hres
   have:=hsc (.tup ys) (by simp [AV.cells])
   simp [AV.scalar]at this
 obtain⟨hrel2,_⟩:=h.rel.changes (w':=w') (recs:= []) (hs:= []) (gs:=gs) h.gs hmod (by simp) (by simp) (by simp) (by simp) (by simp) (by simp) (by simp)
 refine hk _ (c.dr w' []) ⟨rfl,rfl,rfl,rfl,fun t ht=> ?_⟩ (hrel2.put (SR.mkGd (.e (f:= []) ?_ (by simp) .nil) gs h.gs) o.dst)
 ·rcases ht with ht|⟨r,hr,_⟩
  ·exact .inl ht
  ·simp at hr
 ·show Rd w' [v] [(E.var nv).den c.ρ] []
  simp only [E.den,hr,Option.getD_some];exact hv
theorem zDz (hsg: ∀f s,sg f=some s→f<1000000) (h:Pre P c n nx sl hp a sl0 hp0 o gs) (he:zcg P sg sl0 hp0 nv nx gs o=some e)
  (hc: ∀q∈e.bu,q.den c.ρ) (hcall: ∀cl,e.call=some cl→ ∃r,c.ρ[nv]?=some r∧zly (Rts P sg) cl.fn ((EL.of cl.args).den c.ρ) c.ρ r) (hnq: ∀x,e.cc=some x→c.ρ[nv]?=some (.bool (znQ a o))):zbP P o c n nx sl hp gs a e:=by
 have he0:=he
 cases hop:o.op with
 |move x=>simp only [zcg,hop,yqme]at he;obtain⟨s,hs,rfl⟩:=he;exact zw4 h (.inl hop) hs
 |assign x=>simp only [zcg,hop,yqme]at he;obtain⟨s,hs,rfl⟩:=he;exact zw4 h (.inr hop) hs
 |pick x y z=>exact zBN h hop he hc
 |alloc t=>exact zAM h hop he hc
 |box t x=>exact zFf h hop he hc
 |build t parts=>exact zAz h hop he hc
 |buildSlice t m parts=>
  simp only [zcg,hop,yqbe]at he
  obtain⟨ps,hps,he⟩:=he
  split at he
  ·exact ztM h hop hps he hc
  ·exact zrm h hop hps he hc
 |load t x=>exact zC2 h hop he hc
 |nilCheck x=>exact zvD h hop he hc
 |makeSlice t l m=>
  simp only [zcg,hop,yqbe]at he
  obtain⟨s1,hs1,s2,hs2,he⟩:=he
  split at he
  ·exact zwr h hop hs1 hs2 he hc
  ·exact zA0 h hop hs1 hs2 he hc
 |slice t x lo hi mx=>
  simp only [zcg,hop,yqbe]at he
  obtain⟨s,hs,l',hl',h',hh',m',hm',he⟩:=he
  split at he
  ·exact zwy h hop hs hl' hh' hm' he hc
  ·exact zza h hop hs hl' hh' hm' he hc
 |fieldAddr t x f=>exact ztO h hop he hc
 |field t x f=>exact zA8 h hop he hc
 |extract x i=>exact zxM h hop he hc
 |store t x y=>
  simp only [zcg,hop,yqbe]at he
  obtain⟨p,hp',v,hv,he⟩:=he
  cases p with
  |cj b k=>exact zwe h hop hp' hv he hc
  |cw b g i sz k=>
   by_cases hrow: ∃e z g c d,znP hp0 gs b=some (.row e z g c d)
   ·exact zvF h hop hrow hp' hv he hc
   ·exact zt8 h hop hrow hp' hv he hc
  |_=>simp [zkZ]at he
 |binOp op t x y ty=>
  cases hu:P.underlying t with
  |none=>simp only [zcg,hop,yqbe]at he;obtain⟨_,_,_,_,he⟩:=he;simp [zuE,hu]at he
  |some d=>
   by_cases hstr: ∃fs,d= .struct fs
   ·obtain⟨fs,rfl⟩:=hstr
    exact zE2 h hop hu he hc
   ·have hns: ∀fs,P.underlying t≠some (.struct fs):=fun fs hh=>hstr ⟨fs,by rw [hu]at hh;cases hh;rfl⟩
    cases hq:e.cc with
    |none=>exact zEp h hop hns he hq hc
    |some x'=>
     have hnv:=hnq x' hq
     simp only [zcg,hop,yqbe]at he
     obtain⟨s1,hs1,s2,hs2,he⟩:=he
     have r1:=h.cz hs1 (by simp [hop,Op.operands])
     have r2:=h.cz hs2 (by simp [hop,Op.operands])
     unfold zuE at he
     split at he
     ·rename_i el hu'
      have hsl: ∀xq,zgt hp0 gs zad s1=some xq→Cn.den c.ρ (.dfd (.len xq))→ ∃p q r,a.eval x= .slice p q r:=by
       intro xq hxq hd
       obtain⟨f,q1,_⟩:=h.kq hs1 (by simp [hop,Op.operands]) hxq
       have hd:(xq.den c.ρ).len≠ .undef:=hd
       cases hy':xq.den c.ρ<;>simp only [hy',AV.len,ne_eq,not_true_eq_false]at hd
       rename_i xs
       have hl:(xq.den c.ρ).len= .int .i64 (xs.length:Int):=by rw [hy'];rfl
       rcases znj q1 hl with⟨p,q,hv,hm0⟩|⟨b,o',k,q,hv,hm0⟩
       ·exact⟨_,_,_,hv⟩
       ·exact⟨_,_,_,hv⟩
      split at he
      ·simp at he;subst he;cases hq
      ·simp at he;subst he;cases hq
      ·obtain⟨xq,hxq,rfl⟩:=yqme.1 he
       obtain⟨p,q,r,hv⟩:=hsl xq hxq (hc _ (by simp))
       exact zx4 h hop hu' hv r2 (.inl rfl) hnv _
      ·obtain⟨xq,hxq,rfl⟩:=yqme.1 he
       obtain⟨p,q,r,hv⟩:=hsl xq hxq (hc _ (by simp))
       exact zx4 h hop hu' hv r2 (.inr rfl) hnv _
      ·cases he
     ·split at he
      ·simp at he;subst he;cases hq
      ·cases he
     ·split at he
      ·simp at he;subst he;cases hq
      ·cases he
     ·split at he
      ·simp at he;subst he;cases hq
      ·cases he
     ·rename_i fs hu';exact absurd hu' (hns fs)
     ·cases he
 |unOp u t x=>
  cases u with
  |not=>exact zE7 h hop he hc
  |neg=>exact zFi h hop he hc
  |_=>simp [zcg,hop]at he
 |convert src dst x=>
  have he1:=he
  simp only [zcg,hop,yqbe]at he1
  obtain⟨s,_,he1⟩:=he1
  unfold zsf at he1
  split at he1
  ·rename_i k0 k h1 h2;exact zxx h hop h1 h2 he hc
  ·rename_i h1 h2;exact zw7 h hop h1 h2 he hc
  ·rename_i el h1 h2;exact zvY h hop h1 h2 he hc
  ·cases he1
 |makeFunc fr fst caps=>
  cases fr with
  |func f=>exact zwa h hop he
  |_=>simp [zcg,hop]at he
 |indexAddr t x i=>
  refine zt1 h hop (fun hu=> ?_) he hc
  simp only [zcg,hop,yqbe]at he
  obtain⟨_,_,_,_,he⟩:=he
  simp [zIM,hu]at he
 |index t x i=>
  refine zxw h hop ?_ he hc
  simp only [zcg,hop,yqbe]at he
  obtain⟨_,_,_,_,he⟩:=he
  split at he
  ·rename_i hst
   unfold zIM at hst
   split at hst
   ·assumption
   ·cases hst
  ·cases he
 |call cl=>
  simp only [zcg,hop]at he
  cases hcl:cl.callee with
  |invoke r m=>rw [hcl]at he;simp at he
  |value f=>
   rw [hcl]at he
   simp only [yqbe]at he
   obtain⟨s,hs,as_,has,he⟩:=he
   cases s with
   |fn g caps=>
    have he:zs0 P sg hp0 gs nv nx g (as_++caps.toList)=some e:=he
    refine zCZ h hop hcl hs has ?_ he hcall
    unfold zs0 at he
    split at he
    ·rename_i fn sg' hfn hh;exact hsg g sg' hh
    ·cases he
   |e y=>exact zqA h hop hcl hs (fun v hv=>by cases hv with|e k1 _ _=>exact⟨_,k1⟩) has he hcall
   |lent i=>exact zqA h hop hcl hs (fun v hv=>by
     cases hv with
     |lent g1 _=>
      obtain⟨f,p1,p2⟩:=h.rel.base.lo _ _ g1
      exact⟨f,p1.frame fun b hb=>h.rel.base.block b (p1.inb b hb) (p2 b hb)⟩) has he hcall
   |_=>simp at he
  |builtin b=>
   rw [hcl]at he
   cases b with
   |len=>
    simp only at he
    split at he
    ·rename_i x tx ha1 ha2;exact zEK h hop hcl ha1 ha2 he0 hc
    ·cases he
   |append=>
    simp only at he
    split at he
    ·rename_i x y tx ty ha1 ha2
     simp only [yqbe]at he
     obtain⟨s1,hs1,s2,hs2,he⟩:=he
     split at he
     ·exact ztg h hop hcl ha1 ha2 hs1 hs2 he hc
     ·exact zwN h hop hcl ha1 ha2 hs1 hs2 he hc
    ·cases he
   |clear=>
    simp only at he
    split at he
    ·rename_i x tx ha1 ha2
     simp only [yqbe]at he
     obtain⟨s,hs,he⟩:=he
     exact zAy h hop hcl ha1 ha2 hs he hc
    ·cases he
   |max=>
    simp only at he
    split at he
    ·rename_i x y ha1
     simp only [yqbe]at he
     obtain⟨s1,hs1,s2,hs2,he⟩:=he
     exact zrZ h hop (.inl ⟨rfl,hcl⟩) ha1 hs1 hs2 he hc
    ·cases he
   |min=>
    simp only at he
    split at he
    ·rename_i x y ha1
     simp only [yqbe]at he
     obtain⟨s1,hs1,s2,hs2,he⟩:=he
     exact zrZ h hop (.inr ⟨rfl,hcl⟩) ha1 hs1 hs2 he hc
    ·cases he
   |_=>simp at he
 |_=>simp [zcg,hop]at he
end
section
variable {P:Program} {c:Cx} {n nx:Nat} {sl sl0:Nat→SV} {hp hp0:Nat→Option Ent} {a:Act} {o:Oper} {gs:Gd} {e:Eff} {sg:SgT} {nv:Nat}
theorem Rel.jy (h:Rel c n sl hp a) {sl':Nat→SV} (hs: ∀i,sl' i=sl i∨SR c [sl' i] [a.tmps.getD i undef]):Rel c n sl' hp a:=
 ⟨h.defers,h.size,h.base,fun i=>by
  rcases hs i with hh|hh
  ·rw [hh];exact h.c7 i
  ·exact hh,h.ents,h.off,h.gw,h.ca,h.ct⟩
theorem zjf {u:Nat}: ∀{l:List Operand} {t T v m:Nat} {p:E × Nat × Nat} {s:SV},zmd sl0 u l=some (t,T,v,m,p,s)→Operand.tmp t∈l∧((∃y,sl0 t= .via T v m (some p) y∧s= .own u 0)∨ ∃y k z q,sl0 t= .vptr T v m (some p) y k z q∧s= .cw u 0 k z q)
 | [],_,_,_,_,_,_,h=>by simp [zmd]at h
 |x::l,t,T,v,m,p,s,h=>by
  cases x with
  |tmp i=>
   simp only [zmd]at h
   split at h
   ·rename_i hs
    simp only [yqsi,Prod.mk.injEq]at h
    obtain⟨rfl,rfl,rfl,rfl,rfl,rfl⟩:=h
    exact⟨by simp, .inl ⟨_,hs,rfl⟩⟩
   ·rename_i hs
    simp only [yqsi,Prod.mk.injEq]at h
    obtain⟨rfl,rfl,rfl,rfl,rfl,rfl⟩:=h
    exact⟨by simp, .inr ⟨_,_,_,_,hs,rfl⟩⟩
   ·obtain⟨h1,h2⟩:=zjf h
    exact⟨by simp [h1],h2⟩
  |const v9=>simp only [zmd]at h;obtain⟨h1,h2⟩:=zjf h;exact⟨by simp [h1],h2⟩
  |func f=>simp only [zmd]at h;obtain⟨h1,h2⟩:=zjf h;exact⟨by simp [h1],h2⟩
  |global g=>simp only [zmd]at h;obtain⟨h1,h2⟩:=zjf h;exact⟨by simp [h1],h2⟩
theorem Rel.split (h:Rel c n sl hp a) {T v m u:Nat} {p:E × Nat × Nat} {hl inn:Ent} (hs:zrN hp0 T v m u p=some (hl,inn)) (hsub: ∀t e,hp0 t=some e→hp t=some e) (hu: ¬c.U u) {vv:Value} (hpath:c.E T=m→zp8 c T v (some p) vv):
  ∃recs c1,c1=c.dr c.w recs∧Rel c1 n sl (zfe hp [(T,hl),(u,inn)]) a∧zpB c c1∧c1.K u 0∧c1.H u 0=vv∧(∃q n r,vv= .slice q n r∧(q=none∨n=0∨ ∃g,q=some ⟨g,0,none⟩))∧(∀t,c1.U t→c.U t∨t=u)∧c.K T v∧c.E T=m∧c1.E T=m+1∧T≠u:=by
 have eh:EH c hp0:=fun t e hr=>h.ents t e (zl9 hsub hr)
 obtain⟨pi,z,po⟩:=p
 unfold zrN at hs
 split at hs
 ·rename_i e z0 l g ep c0 hlk
  split at hs
  ·rename_i hcond
   obtain⟨rfl,rfl,hpz⟩:=hcond
   simp only at hpz
   subst hpz
   split at hs
   ·rename_i e2 z2 l2 hlo
    simp only [yqsi,Prod.mk.injEq]at hs
    obtain⟨rfl,rfl⟩:=hs
    simp only at hlo
    obtain⟨q1,q2,q3,q4,q5⟩:=eh T _ (za2 hlk (zcA _))
    obtain⟨b,n9,cap,C,ty,fz,kk,k,p1,p2,p3,p4,p5,p6,p7⟩:=hpath q3
    obtain⟨d1,d2,⟨a9,d3,_⟩|⟨g9,cap9,C9,ys,N,d3,d4,d5,d6,d7,d8,d9,d10,d11,d12⟩⟩:=q4.inv
    ·rw [p1]at d3;cases d3;omega
    ·rw [p1]at d3;cases d3
     rw [d6]at p3;cases p3
     rw [DTL.a7]at d2 d12
     have hoz:po<z:=by
      rcases Nat.lt_or_ge po l.length with hh|hh
      ·omega
      ·rw [List.getElem?_eq_none hh]at hlo;cases hlo
     have hkl:k.toNat<ys.length:=by omega
     have hmul:(k.toNat+1)*z≤ys.length*z:=Nat.mul_le_mul_right _ (by omega)
     have hmul2:ys.length*z≤cap*z:=Nat.mul_le_mul_right _ d7
     rw [Nat.add_mul]at hmul
     have hCl:C.toList.length=cap*z:=by simpa using d9
     have hlt:k.toNat*z+po<C.size:=by omega
     obtain⟨N1,N2,N3,rfl,s1,s2,s3⟩:=d12.split (k.toNat*z+po) 1
     have hcell:((C.toList.take (ys.length*z)).drop (k.toNat*z+po)).take 1= [vv]:=by
      have hv:C[k.toNat*z+po]?=some vv:=p7
      rw [List.drop_take,List.take_take,Nat.min_eq_left (by omega),List.drop_eq_getElem_cons (by simpa using hlt),List.take_succ_cons,List.take_zero]
      rw [Array.getElem?_eq_getElem hlt]at hv
      simpa using hv
     have hyk:=zqY hkl
     generalize hykd:(AV.sl ys).nth k.toNat=yk at hyk
     have hykl:=d10 yk (List.mem_of_getElem? hyk)
     have hfl:((zaB ys).drop (k.toNat*z+po)).take 1= [(E.fld (.idx c0 pi) po 1 false).den c.ρ]:=by
      rw [zmZ ys d10 _ _ hyk po 1 (by omega),List.drop_eq_getElem_cons (by omega),List.take_succ_cons,List.take_zero]
      simp only [E.den,d4,p4,AV.idx,hykd,AV.fld]
      simp [show po<yk.cells.length by omega]
     have hty:((znL ys.length l).drop (k.toNat*z+po)).take 1= [.row e2 z2 l2]:=by
      rw [←d2,zlq l _ _ _ _ hkl (by omega)]
      have hlt2:po<l.length:=by omega
      rw [List.drop_eq_getElem_cons hlt2,List.take_succ_cons,List.take_zero]
      rw [List.getElem?_eq_getElem hlt2]at hlo
      simpa using hlo
     rw [hcell,hfl,hty]at s2
     have hTU:=h.ca _ _ q1
     have hTu:T≠u:=fun hh=>hu (hh▸hTU)
     have hnd:=h.gw.nodup T
     simp only [GI.own,q5,List.append_nil,d5]at hnd
     have hres: ∀r∈([⟨T,none,b::(N1++N3), .hol e z l g (ep+1) c0 pi po u⟩,⟨u,some vv,N2,if l2.toList.all DT.bz then .row e2 z2 0 (.fld (.idx c0 pi) po 1 false) true else .deep e2 z2 l2.toList 0 0 (.fld (.idx c0 pi) po 1 false)⟩]:List Chg),r.new.isSome=true→ ¬c.U r.tag:=fun r hr hs=>by
      simp only [yqmc,List.not_mem_nil,or_false]at hr
      rcases hr with rfl|rfl
      ·cases hs
      ·exact hu
     refine⟨[⟨T,none,b::(N1++N3), .hol e z l g (ep+1) c0 pi po u⟩,⟨u,some vv,N2,if l2.toList.all DT.bz then .row e2 z2 0 (.fld (.idx c0 pi) po 1 false) true else .deep e2 z2 l2.toList 0 0 (.fld (.idx c0 pi) po 1 false)⟩],_,rfl, ?_⟩
     generalize hrecs:([⟨T,none,b::(N1++N3), .hol e z l g (ep+1) c0 pi po u⟩,⟨u,some vv,N2,if l2.toList.all DT.bz then .row e2 z2 0 (.fld (.idx c0 pi) po 1 false) true else .deep e2 z2 l2.toList 0 0 (.fld (.idx c0 pi) po 1 false)⟩]:List Chg)=recs at hres
     have hn:(recs.map Chg.tag).Nodup:=by rw [←hrecs];simp [hTu]
     have aft:=Cx.dt (w':=c.w) h.ca hn hres
     have hm1:(⟨T,none,b::(N1++N3), .hol e z l g (ep+1) c0 pi po u⟩:Chg)∈recs:=by rw [←hrecs];simp
     have hm2:(⟨u,some vv,N2,if l2.toList.all DT.bz then .row e2 z2 0 (.fld (.idx c0 pi) po 1 false) true else .deep e2 z2 l2.toList 0 0 (.fld (.idx c0 pi) po 1 false)⟩:Chg)∈recs:=by rw [←hrecs];simp
     obtain⟨k1,k2,k3⟩:=aft.new _ hm2 vv rfl
     have kgT:=aft.G _ hm1
     have keT:=aft.ir _ hm1 rfl
     have kgu:=aft.G _ hm2
     have keu:=aft.kp _ hm2 rfl
     obtain⟨kT1,kT2⟩:=aft.K T g q1
     simp only at k1 k2 k3 kgT keT kgu keu
     have hperm: ∀q,q∈b::(N1++N3)∨q∈N2→q∈(c.G T).top:=fun q hq=>by
      rw [d5]
      simp only [yqmc,yqma]at hq ⊢
      rcases hq with(hq|hq|hq)|hq<;>simp [hq]
     obtain⟨hrel,hkeep⟩:=h.changes (recs:=recs) (gs:= []) (hs:=(c.G T).top) (zcA _) (Mod.refl _ c.w) hn hres (fun q hq=>⟨_,hm1,hq⟩) (by
       rw [←hrecs]
       simp only [List.flatMap_cons,List.flatMap_nil,List.append_nil]
       rw [List.nodup_cons]at hnd
       obtain⟨n1,n2⟩:=hnd
       rw [List.append_assoc,List.nodup_append,List.nodup_append]at n2
       obtain⟨a1,⟨a2,a3,a4⟩,a5⟩:=n2
       rw [List.cons_append,List.nodup_cons,List.nodup_append,List.nodup_append]
       refine⟨fun hh=>n1 ?_,⟨a1,a3,fun x hx y hy=>a5 x hx y (yqma.2 (.inr hy))⟩,a2,fun x hx y hy hxy=> ?_⟩
       ·simp only [yqma]at hh ⊢
        rcases hh with(hh|hh)|hh<;>simp [hh]
       ·rcases yqma.1 hx with hx|hx
        ·exact a5 x hx y (yqma.2 (.inl hy)) hxy
        ·exact a4 y hy x hx hxy.symm)
      (fun r hr q hq=>by
       have:q∈(c.G T).top:=by
        rw [←hrecs]at hr
        simp only [yqmc,List.not_mem_nil,or_false]at hr
        rcases hr with rfl|rfl
        ·exact hperm q (.inl hq)
        ·exact hperm q (.inr hq)
       exact⟨.inl this,h.gw.inb T q (by simp [GI.own,this])⟩)
      (fun r hr=>by
       rw [←hrecs]at hr
       simp only [yqmc,List.not_mem_nil,or_false]at hr
       rcases hr with rfl|rfl
       ·intros;simp
       ·intros;simp only;split<;>simp)
      (fun hk r hr=>by
       rw [←hrecs]at hr
       simp only [yqmc,List.not_mem_nil,or_false]at hr
       rcases hr with rfl|rfl
       ·refine⟨kT1,fun g' hg'=>q2 g' (aft.old T hTU g' hg'),by rw [keT,q3], ?_,by rw [kgT]⟩
        rw [kT2,p1,kgT]
        exact⟨b,cap,C,ys,kk,k,N1,N3,rfl,d4,p4,p5,p6,hoz,d1,d2,d6,d7,d8,d9,d10,d11,rfl,k1,by rw [k3];exact p7,s1,s3⟩
       ·simp only
        split
        ·rename_i hf
         have hown:=s2.na hf
         refine⟨k1,k2, [], ?_,by simp,fun _=>⟨rfl,by rw [kgu]⟩,fun _=>by rw [kgu]⟩
         rw [k3,kgu];exact hown
        ·refine⟨k1,k2,keu, ?_,by rw [kgu]⟩
         rw [k3,kgu,DTL.cx];exact s2)
     refine⟨?_,hkeep,k1,k3, ?_,fun t ht=> ?_,q1,q3,by rw [keT,q3],hTu⟩
     ·have:(recs.map fun r=>(r.tag,zfR [] r.bq))= [(T, .hol e z l g (ep+1) c0 pi po u),(u,if l2.toList.all DT.bz then .row e2 z2 0 (.fld (.idx c0 pi) po 1 false) true else .deep e2 z2 l2.toList 0 0 (.fld (.idx c0 pi) po 1 false))]:=by
       rw [←hrecs];simp [zfR]
      rw [this]at hrel;exact hrel
     ·obtain⟨_,_,⟨a9,h1,_⟩|⟨g9,cap9,C9,ys9,N9,h1,_⟩⟩:=s2.inv
      ·exact⟨a9,0,0,h1, .inr (.inl rfl)⟩
      ·exact⟨_,_,_,h1, .inr (.inr ⟨g9,rfl⟩)⟩
     ·rcases ht with ht|⟨r,hr,rfl⟩
      ·exact .inl ht
      ·rw [←hrecs]at hr
       simp only [yqmc,List.not_mem_nil,or_false]at hr
       rcases hr with rfl|rfl
       ·exact .inl hTU
       ·exact .inr rfl
   ·cases hs
  ·cases hs
 ·cases hs
theorem Rel.close (h:Rel c n sl hp a) {T u:Nat} {hl r d:Ent} (hT:hp T=some hl) (hu:hp u=some r) (hr:zsi P hl r=some d) (huu: ∃q1 q2 q3 q4 q5 q6 q7 q8,hl= .hol q1 q2 q3 q4 q5 q6 q7 q8 u) (hTu:T≠u):
  ∃recs c1,c1=c.dr c.w recs∧Rel c1 n sl (zfe hp [(T,d),(u, .dead)]) a∧(∀t,c1.U t→c.U t)∧c.E T<c1.E T:=by
 obtain⟨e,z,l,g,ep,c0,i,o',rfl⟩:=huu
 have key: ∀(e2 z2:Nat) (l2:DTL) (x:E),l[o']?=some (.row e2 z2 l2)→DC c.w [.row e2 z2 l2] [c.H u 0] [x.den c.ρ] (c.G u).top→c.U u→d= .deep e z l g (ep+1) (.set c0 i (.put (.idx c0 i) o' x (zaX P e)))→(zaX P e=false→z=1)→
   ∃recs c1,c1=c.dr c.w recs∧Rel c1 n sl (zfe hp [(T,d),(u, .dead)]) a∧(∀t,c1.U t→c.U t)∧c.E T<c1.E T:=by
  rintro e2 z2 l2 x hlo hdc hUu rfl hagg
  obtain⟨q1,q2,q3,⟨b,cap,C,ys,kk,k,N1,N2,p1,p2,p3,p4,p5,p6,p7,p7',p8,p9,p10,p11,p12,p13,p14,p15,p16,p17,p18⟩,q5⟩:=h.ents T _ (by rw [hT];rfl)
  have hTU:=h.ca _ _ q1
  have hkl:k.toNat<ys.length:=by omega
  have hmul:(k.toNat+1)*z≤ys.length*z:=Nat.mul_le_mul_right _ (by omega)
  have hmul2:ys.length*z≤cap*z:=Nat.mul_le_mul_right _ p9
  rw [Nat.add_mul]at hmul
  have hCl:C.toList.length=cap*z:=by simpa using p11
  have hlt:k.toNat*z+o'<C.size:=by omega
  have hyk:=zqY hkl
  generalize hykd:(AV.sl ys).nth k.toNat=yk at hyk
  have hykl:=p12 yk (List.mem_of_getElem? hyk)
  obtain⟨zs,hzs⟩: ∃zs,x.den c.ρ= .sl zs:=by
   obtain⟨_,_,⟨_,_,hx,_⟩|⟨_,_,_,_,_,_,hx,_⟩⟩:=hdc.inv
   ·exact⟨_,hx⟩
   ·exact⟨_,hx⟩
  have hxc:(x.den c.ρ).cells= [x.den c.ρ]:=by rw [hzs];rfl
  have hz:(yk.db o' (x.den c.ρ) (zaX P e)).cells=setVs yk.cells o' (x.den c.ρ).cells:=by
   refine zpD ?_ (fun hg=> ?_)
   ·cases hg:zaX P e with
    |true=>exact .inr rfl
    |false=>left;rw [hzs];intro cs hh;cases hh
   ·have:=hagg hg
    exact⟨by omega,by omega,hxc⟩
  have hflatC:zaB (ys.set k.toNat (yk.db o' (x.den c.ρ) (zaX P e)))=setVs (zaB ys) (k.toNat*z+o') (x.den c.ρ).cells:=
   zpn ys _ _ yk o' _ p12 hyk (by rw [hxc];simp;omega) hz
  have hds:((znL ys.length l).drop (k.toNat*z+o')).take 1= [.row e2 z2 l2]:=by
   rw [←p7',zlq l _ _ _ _ hkl (by omega)]
   have hlt2:o'<l.length:=by omega
   rw [List.drop_eq_getElem_cons hlt2,List.take_succ_cons,List.take_zero]
   rw [List.getElem?_eq_getElem hlt2]at hlo
   simpa using hlo
  have hsetC:setVs (C.toList.take (ys.length*z)) (k.toNat*z+o') [c.H u 0]=C.toList.take (ys.length*z):=by
   apply List.ext_getElem?
   intro j
   have hl3:(C.toList.take (ys.length*z)).length=ys.length*z:=by rw [List.length_take,hCl];exact Nat.min_eq_left hmul2
   rw [zlz _ _ _ (by rw [hl3];show k.toNat*z+o'+1≤_;omega)]
   split
   ·rename_i hj
    simp only [yqlc,List.length_nil]at hj
    have:j=k.toNat*z+o':=by omega
    subst this
    rw [Nat.sub_self,List.getElem?_take,if_pos (by omega)]
    have:=p16
    simpa using this.symm
   ·rfl
  have hnew:DC c.w [.row e z (DTL.of l)] [c.H T g] [(E.set c0 i (.put (.idx c0 i) o' x (zaX P e))).den c.ρ] (b::(N1++((c.G u).top++N2))):=by
   have hden:(E.set c0 i (.put (.idx c0 i) o' x (zaX P e))).den c.ρ= .sl (ys.set k.toNat (yk.db o' (x.den c.ρ) (zaX P e))):=by
    simp only [E.den,p2,p3,AV.idx,hykd,AV.cy]
   rw [hden,p1]
   have hll:(ys.set k.toNat (yk.db o' (x.den c.ρ) (zaX P e))).length=ys.length:=List.length_set
   have:=DC.row (w:=c.w) (e:=e) (z:=z) (l:=DTL.of l) (g:=b) (cap:=cap) (C:=C) (ys:=ys.set k.toNat (yk.db o' (x.den c.ρ) (zaX P e))) (N1:=N1++((c.G u).top++N2)) (ts:= []) (vs:= []) (xs:= []) (N:= []) p7 (by rw [DTL.a7];exact p7') p8 (by rw [hll];exact p9) p10 p11 (fun w hw=>by
     rcases List.mem_or_eq_of_mem_set hw with hw|rfl
     ·exact p12 w hw
     ·rw [hz,zlo _ _ _ (by rw [hxc,hykl];simp;omega)];exact hykl) (by rw [hll];exact p13) (by
     rw [hll,DTL.a7,hflatC,←hsetC]
     refine DC.setVs p17 ?_ ?_
     ·exact p18
     ·rw [yqls,hds,hxc];exact hdc) .nil
   rw [hll]at this
   simpa using this
  have hTK:=q1
  have hres: ∀r∈([⟨T,none,b::(N1++((c.G u).top++N2)), .deep e z l g (ep+1) (.set c0 i (.put (.idx c0 i) o' x (zaX P e)))⟩,⟨u,none, [], .dead⟩]:List Chg),r.new.isSome=true→ ¬c.U r.tag:=fun r hr hs=>by
   simp only [yqmc,List.not_mem_nil,or_false]at hr
   rcases hr with rfl|rfl<;>cases hs
  refine⟨[⟨T,none,b::(N1++((c.G u).top++N2)), .deep e z l g (ep+1) (.set c0 i (.put (.idx c0 i) o' x (zaX P e)))⟩,⟨u,none, [], .dead⟩],_,rfl, ?_⟩
  generalize hrecs:([⟨T,none,b::(N1++((c.G u).top++N2)), .deep e z l g (ep+1) (.set c0 i (.put (.idx c0 i) o' x (zaX P e)))⟩,⟨u,none, [], .dead⟩]:List Chg)=recs at hres
  have hn:(recs.map Chg.tag).Nodup:=by rw [←hrecs];simp [hTu]
  have aft:=Cx.dt (w':=c.w) h.ca hn hres
  have hm1:(⟨T,none,b::(N1++((c.G u).top++N2)), .deep e z l g (ep+1) (.set c0 i (.put (.idx c0 i) o' x (zaX P e)))⟩:Chg)∈recs:=by rw [←hrecs];simp
  have hm2:(⟨u,none, [], .dead⟩:Chg)∈recs:=by rw [←hrecs];simp
  have kgT:=aft.G _ hm1
  have keT:=aft.ir _ hm1 rfl
  have kgu:=aft.G _ hm2
  obtain⟨kT1,kT2⟩:=aft.K T g q1
  simp only at kgT keT kgu
  have hin: ∀q,q∈b::(N1++((c.G u).top++N2))→q∈(c.G T).top∨q∈(c.G u).top:=fun q hq=>by
   rw [p14]
   simp only [yqmc,yqma]at hq ⊢
   rcases hq with hq|hq|hq|hq<;>simp [hq]
  have hndT:=h.gw.nodup T
  simp only [GI.own,q5,List.append_nil,p14]at hndT
  have hndu:(c.G u).top.Nodup:=by have:=h.gw.nodup u;simp only [GI.own]at this;exact(List.nodup_append.1 this).1
  have hdis: ∀q∈(c.G u).top,q∉b::(N1++N2):=fun q hq hh=>h.gw.cr u T (Ne.symm hTu) q (by simp [GI.own,hq]) (by rw [←p14]at hh;simp [GI.own,hh])
  obtain⟨hrel,hkeep⟩:=h.changes (recs:=recs) (gs:= []) (hs:=(c.G T).top++(c.G u).top) (zcA _) (Mod.refl _ c.w) hn hres (fun q hq=>by
    rcases yqma.1 hq with hq|hq
    ·exact⟨_,hm1,hq⟩
    ·exact⟨_,hm2,hq⟩) (by
    rw [←hrecs]
    simp only [List.flatMap_cons,List.flatMap_nil,List.append_nil]
    rw [List.nodup_cons,List.nodup_append]at hndT
    obtain⟨n1,a1,a2,a3⟩:=hndT
    rw [List.nodup_cons,List.nodup_append,List.nodup_append]
    refine⟨fun hh=> ?_,a1,⟨hndu,a2,fun x hx y hy hxy=>hdis x hx (by rw [hxy];simp [hy])⟩,fun x hx y hy hxy=> ?_⟩
    ·simp only [yqma]at hh n1
     rcases hh with hh|hh|hh
     ·exact n1 (.inl hh)
     ·exact hdis b hh (by simp)
     ·exact n1 (.inr hh)
    ·rcases yqma.1 hy with hy|hy
     ·exact hdis y hy (by rw [←hxy];simp [hx])
     ·exact a3 x hx y hy hxy)
   (fun r hr q hq=>by
    have:q∈(c.G T).top∨q∈(c.G u).top:=by
     rw [←hrecs]at hr
     simp only [yqmc,List.not_mem_nil,or_false]at hr
     rcases hr with rfl|rfl
     ·exact hin q hq
     ·simp at hq
    refine⟨.inl (yqma.2 this), ?_⟩
    rcases this with hh|hh
    ·exact h.gw.inb T q (by simp [GI.own,hh])
    ·exact h.gw.inb u q (by simp [GI.own,hh]))
   (fun r hr=>by
    rw [←hrecs]at hr
    simp only [yqmc,List.not_mem_nil,or_false]at hr
    rcases hr with rfl|rfl<;>(intros;simp))
   (fun hk r hr=>by
    rw [←hrecs]at hr
    simp only [yqmc,List.not_mem_nil,or_false]at hr
    rcases hr with rfl|rfl
    ·exact⟨kT1,fun g' hg'=>q2 g' (aft.old T hTU g' hg'),by rw [keT,q3],by rw [kT2,kgT];exact hnew,by rw [kgT]⟩
    ·exact⟨by rw [kgu],by rw [kgu]⟩)
  refine⟨?_,fun t ht=> ?_,by rw [keT];omega⟩
  ·have:(recs.map fun r=>(r.tag,zfR [] r.bq))= [(T, .deep e z l g (ep+1) (.set c0 i (.put (.idx c0 i) o' x (zaX P e)))),(u, .dead)]:=by
    rw [←hrecs];simp [zfR]
   rw [this]at hrel;exact hrel
  ·rcases ht with ht|⟨r,hr,rfl⟩
   ·exact ht
   ·rw [←hrecs]at hr
    simp only [yqmc,List.not_mem_nil,or_false]at hr
    rcases hr with rfl|rfl
    ·exact hTU
    ·exact hUu
 have hUu:c.U u:=h.ct u r hu
 unfold zsi at hr
 simp only at hr
 split at hr
 ·rename_i e2 z2 l2 e3 z3 x hlo
  split at hr
  ·rename_i hh
   obtain⟨hf,rfl,rfl,hlen,hag⟩:=hh
   simp only [yqsi]at hr
   obtain⟨q1,q2,N,q4,q5,q6,q7⟩:=h.ents u _ (by rw [hu];rfl)
   obtain⟨hN,_⟩:=q6 rfl
   have hN:N= []:=hN
   subst hN
   exact key _ _ _ _ hlo (DC.lq q4 hf hlen) hUu hr.symm (by rcases hag with hh|hh;(rw [hh];simp);exact fun _=>hh)
  ·cases hr
 ·rename_i e2 z2 l2 e3 z3 l3 x hlo
  split at hr
  ·rename_i hh
   obtain⟨rfl,rfl,hb,hag⟩:=hh
   simp only [yqsi]at hr
   have hb:=DTL.of_eq hb
   subst hb
   obtain⟨q1,q2,q3,q4,q5⟩:=h.ents u _ (by rw [hu];rfl)
   rw [DTL.cx]at q4
   exact key _ _ _ _ hlo q4 hUu hr.symm (by rcases hag with hh|hh;(rw [hh];simp);exact fun _=>hh)
  ·cases hr
 ·cases hr
end
section
variable {P:Program} {c:Cx} {n nx:Nat} {sl sl0:Nat→SV} {hp hp0:Nat→Option Ent} {a:Act} {o:Oper} {gs:Gd} {e:Eff} {sg:SgT} {nv:Nat}
theorem zlv (hp:Nat→Option Ent): ∀(l:List (Nat × Ent)) (t:Nat),zfe hp l t=match zlT l t with|some f=>some f|none=>hp t
 | [],t=>rfl
 |(u,e)::l,t=>by
  have:=zlv (fun v=>if v=u then some e else hp v) l t
  simp only [zfe,List.foldl_cons,zlT]at this ⊢
  rw [this]
  cases zlT l t with
  |some f=>rfl
  |none=>
   simp only
   by_cases h:u=t
   ·rw [if_pos h.symm,if_pos h]
   ·rw [if_neg (Ne.symm h),if_neg h]
theorem zwP {hp:Nat→Option Ent} {T v m u:Nat} {p:E × Nat × Nat} {h r:Ent} (hs:zrN hp T v m u p=some (h,r)): ∃e z l ep c0 i o',h= .hol e z l v (m+1) c0 i o' u∧znP hp [] T=some (.deep e z l v ep c0)∧ep=m:=by
 unfold zrN at hs
 split at hs
 ·rename_i hl
  split at hs
  ·rename_i hh
   obtain⟨rfl,rfl,_⟩:=hh
   split at hs
   ·simp only [yqsi,Prod.mk.injEq]at hs
    obtain⟨rfl,_⟩:=hs
    exact⟨_,_,_,_,_,_,_,rfl,hl,rfl⟩
   ·cases hs
  ·cases hs
 ·cases hs
theorem zxj {h r d:Ent} {e z:Nat} {l:List DT} {g ep:Nat} {c0 i:E} {o' u:Nat} (hh:h= .hol e z l g ep c0 i o' u) (hc:zsi P h r=some d): ∃x,d= .deep e z l g (ep+1) x:=by
 subst hh
 unfold zsi at hc
 simp only at hc
 split at hc
 ·split at hc
  ·simp only [yqsi]at hc;exact⟨_,hc.symm⟩
  ·cases hc
 ·split at hc
  ·simp only [yqsi]at hc;exact⟨_,hc.symm⟩
  ·cases hc
 ·cases hc
theorem zHR (hsg: ∀f s,sg f=some s→f<1000000) (h:Pre P c n nx sl hp a sl0 hp0 o []) (hu: ¬c.U (nx+999)) (he:zwS P sg sl0 hp0 nv nx o=some e)
  (hc: ∀q∈e.bu,q.den c.ρ) (hcall: ∀cl,e.call=some cl→ ∃r,c.ρ[nv]?=some r∧zly (Rts P sg) cl.fn ((EL.of cl.args).den c.ρ) c.ρ r):zbP P o c n nx sl hp [] a e:=by
 unfold zwS at he
 simp only at he
 split at he
 ·cases he
 rename_i t T v m p s hfs
 split at he
 ·cases he
 rename_i hl inn hsp
 split at he
 ·cases he
 rename_i e0 he0
 split at he
 ·cases he
 rename_i hnq
 have hnq:e0.cc=none:=by cases hh:e0.cc with|none=>rfl|some x=>rw [hh]at hnq;simp at hnq
 obtain⟨hmem,hcase⟩:=zjf hfs
 have hmem:Operand.tmp t∈o.op.operands:=by simpa using hmem
 obtain⟨fe,fz,fl,fep,fc0,fi,fo,rfl,hlook,rfl⟩:=zwP hsp
 have hE:c.E T=fep:=(h.eh T _ (za2 hlook (zcA _))).2.2.1
 have hslot:=h.rel.c7 t
 rw [←h.sl t hmem]at hslot
 obtain⟨vv,hpath,hs2⟩: ∃vv,zp8 c T v (some p) vv∧ ∀c1:Cx,c1.ρ=c.ρ→c1.K (nx+999) 0→c1.H (nx+999) 0=vv→(∃q n r,vv= .slice q n r∧(q=none∨n=0∨ ∃g,q=some ⟨g,0,none⟩))→SR c1 [s] [a.tmps.getD t undef]:=by
  rcases hcase with⟨y,hsl,rfl⟩|⟨y,k,z,q,hsl,rfl⟩
  ·rw [hsl]at hslot
   generalize a.tmps.getD t undef=av at hslot ⊢
   cases hslot with
   |via h1 h2 h3 _=>
    obtain⟨_,hp⟩:=h3 hE
    refine⟨_,hp,fun c1 e1 k1 k2 k3=> ?_⟩
    obtain⟨q,n,r,rfl,_⟩:=k3
    exact .own k1 k2 .nil
  ·rw [hsl]at hslot
   generalize a.tmps.getD t undef=av at hslot ⊢
   cases hslot with
   |vptr h1 h2 h3 _=>
    obtain⟨b,off,len,cap,kk,kv,g1,g2,g3,g4,g5,g6,rfl⟩:=h3 hE
    refine⟨_,g2,fun c1 e1 k1 k2 k3=> ?_⟩
    obtain⟨q9,n9,r9,hv,hq⟩:=k3
    cases hv
    have hoff:off=0:=by
     rcases hq with hq|hq|⟨g,hq⟩
     ·cases hq
     ·omega
     ·cases hq;rfl
    subst hoff
    have:=SR.cw (c:=c1) (i:=k) (sz:=z) (o:=q) k1 k2 (by rw [e1];exact g3) g4 g5 .nil
    simpa using this
 obtain⟨recs,c1,rfl,hrel1,hkeep1,hK1,hH1,hvv,hU1,hKT,_,hE1,hTu⟩:=h.rel.split hsp h.hp hu (fun _=>hpath)
 have hsr:=hs2 _ hkeep1.ρ hK1 hH1 hvv
 have hrel2:=hrel1.jy (sl':=fun i=>if i=t then s else sl i) (fun i=>by
  by_cases hi:i=t
  ·subst hi;right;simpa using hsr
  ·left;simp [hi])
 have hup: ∀x,zfe hp [(T, .hol fe fz fl v (fep+1) fc0 fi fo (nx+999)),(nx+999,inn)] x=if x=nx+999 then some inn else if x=T then some (.hol fe fz fl v (fep+1) fc0 fi fo (nx+999))else hp x:=fun x=>rfl
 have pre1:Pre P (c.dr c.w recs) n nx (fun i=>if i=t then s else sl i) (zfe hp [(T, .hol fe fz fl v (fep+1) fc0 fi fo (nx+999)),(nx+999,inn)]) a (fun i=>if i=t then s else sl0 i) (fun w=>if w=T then some (.hol fe fz fl v (fep+1) fc0 fi fo (nx+999))else if w=nx+999 then some inn else hp0 w) o []:=by
  refine⟨hrel2,zcA _,fun i hi=> ?_,fun x f hf=> ?_,fun x h1 h2 hx=> ?_⟩
  ·by_cases hit:i=t
   ·simp [hit]
   ·simp only [if_neg hit];exact h.sl i hi
  ·rw [hup]
   by_cases h1:x=T
   ·rw [if_pos h1]at hf
    rw [if_neg (by rw [h1];exact hTu),if_pos h1];exact hf
   ·rw [if_neg h1]at hf
    by_cases h2:x=nx+999
    ·rw [if_pos h2]at hf ⊢;exact hf
    ·rw [if_neg h2]at hf
     rw [if_neg h2,if_neg h1];exact h.hp x f hf
  ·rcases hU1 x hx with hx|hx
   ·exact h.new x h1 h2 hx
   ·omega
 have hdst: ∀(c':Cx) (a':Act) (w9:SV),Rel c' n (zmg n (fun i=>if i=t then s else sl i) o.dst w9) (fun _=>none) a'→True:=fun _ _ _ _=>trivial
 have stale: ∀(c':Cx) (v':Value),c'.K T v→fep<c'.E T→SR c' [sl t] [v']:=by
  intro c' v' hk hlt
  rw [←h.sl t hmem]
  rcases hcase with⟨y,hsl,_⟩|⟨y,k,z,q,hsl,_⟩
  ·rw [hsl];exact .via hk (by omega) (fun hh=>by omega) .nil
  ·rw [hsl];exact .vptr hk (by omega) (fun hh=>by omega) .nil
 have back: ∀{c':Cx} {hp':Nat→Option Ent} {a':Act} {w9:SV},Rel c' n (zmg n (fun i=>if i=t then s else sl i) o.dst w9) hp' a'→c'.K T v→fep<c'.E T→Rel c' n (zmg n sl o.dst w9) hp' a':=by
  intro c' hp' a' w9 hr hk hlt
  refine hr.jy fun i=> ?_
  unfold zmg
  by_cases h1:o.dst=some i∧i<n
  ·left;rw [if_pos h1,if_pos h1]
  ·rw [if_neg h1,if_neg h1]
   by_cases h2:i=t
   ·subst h2;right;exact stale _ _ hk hlt
   ·left;show sl i=if i=t then s else sl i;rw [if_neg h2]
 split at he
 ·
  split at he
  ·rename_i hlast
   simp only [yqsi]at he;subst he
   have hdoes:=zDz hsg pre1 he0 hc hcall (fun x hx=>by rw [hnq]at hx;cases hx)
   intro next Q hk
   refine hdoes next Q fun a' c' hsame hr=> ?_
   have hTe:zfe (zfe hp [(T, .hol fe fz fl v (fep+1) fc0 fi fo (nx+999)),(nx+999,inn)]) e0.bq T=some (.hol fe fz fl v (fep+1) fc0 fi fo (nx+999)):=by
    rw [zlv,hlast,hup,if_neg hTu,if_pos rfl]
   obtain⟨g1,_,g3,_⟩:=hr.ents T _ (by rw [hTe];rfl)
   refine hk a' c' ⟨hsame.ρ,hsame.A,hsame.w0,hsame.Mu,fun x hx=> ?_⟩ (back hr g1 (by omega))
   rcases hsame.U x hx with hx|hx
   ·rcases hU1 x hx with hx|hx
    ·exact .inl hx
    ·exact .inr ⟨by omega,by simp only [zan];omega⟩
   ·exact .inr hx
  ·cases he
 ·split at he
  ·rename_i r' hlu hlT
   obtain⟨d,hd,rfl⟩:=yqme.1 he
   have hdoes:=zDz hsg pre1 he0 hc hcall (fun x hx=>by rw [hnq]at hx;cases hx)
   intro next Q hk
   refine hdoes next Q fun a' c' hsame hr=> ?_
   have hTe:zfe (zfe hp [(T, .hol fe fz fl v (fep+1) fc0 fi fo (nx+999)),(nx+999,inn)]) e0.bq T=some (.hol fe fz fl v (fep+1) fc0 fi fo (nx+999)):=by
    rw [zlv,hlT,hup,if_neg hTu,if_pos rfl]
   have hue:zfe (zfe hp [(T, .hol fe fz fl v (fep+1) fc0 fi fo (nx+999)),(nx+999,inn)]) e0.bq (nx+999)=some r':=by
    rw [zlv,hlu]
   obtain⟨recs2,c2,rfl,hr2,hU2,hE2⟩:=hr.close hTe hue hd ⟨_,_,_,_,_,_,_,_,rfl⟩ hTu
   obtain⟨x9,rfl⟩:=zxj rfl hd
   have hTe2:zfe (zfe (zfe hp [(T, .hol fe fz fl v (fep+1) fc0 fi fo (nx+999)),(nx+999,inn)]) e0.bq) [(T, .deep fe fz fl v (fep+1+1) x9),(nx+999, .dead)] T=some (.deep fe fz fl v (fep+1+1) x9):=by
    show(if T=nx+999 then _ else if T=T then _ else _)=_
    rw [if_neg hTu,if_pos rfl]
   obtain⟨g1,_,g3,_⟩:=hr2.ents T _ (by rw [hTe2];rfl)
   have hfin:=back hr2 g1 (by omega)
   have hent:zfe hp ((T, .hol fe fz fl v (fep+1) fc0 fi fo (nx+999))::(nx+999,inn)::e0.bq++ [(T, .deep fe fz fl v (fep+1+1) x9),(nx+999, .dead)])=zfe (zfe (zfe hp [(T, .hol fe fz fl v (fep+1) fc0 fi fo (nx+999)),(nx+999,inn)]) e0.bq) [(T, .deep fe fz fl v (fep+1+1) x9),(nx+999, .dead)]:=by
    rw [←zl3,←zl3];rfl
   refine hk a' (c'.dr c'.w recs2) ⟨hsame.ρ,hsame.A,hsame.w0,hsame.Mu,fun x hx=> ?_⟩ ?_
   ·rcases hsame.U x (hU2 x hx)with hx|hx
    ·rcases hU1 x hx with hx|hx
     ·exact .inl hx
     ·exact .inr ⟨by omega,by simp only [zan];omega⟩
    ·exact .inr hx
   ·have:=hfin
    rw [←hent]at this;exact this
  ·cases he
theorem zDf (h:Pre P c n nx sl hp a sl0 hp0 o gs) {e:Eff} (dp:Bool) (hd:zbP P o c n nx sl hp gs a e):zbP P o c n nx sl hp gs a (zsH dp hp0 gs e):=by
 unfold zsH
 split
 ·exact hd
 ·split
  ·rename_i l hl
   intro next Q hk
   refine hd next Q fun a' c' hs hr=> ?_
   have e1:zfe hp0 e.bq=fun t=>match zlT e.bq t with|some f=>some f|none=>hp0 t:=funext (zlv hp0 e.bq)
   have hl:za9 (zfe hp0 e.bq) [] (zzA e.bq)=some l:=by rw [e1];exact hl
   have hfr:=hr.freeze (hp0:=zfe hp0 e.bq) (fun t e' h'=>by
    rw [zlv]at h' ⊢
    split at h'
    ·exact h'
    ·exact h.hp t e' h') (zcA _) hl
   refine hk a' (c'.bw (l.map (·.1))) ⟨hs.ρ,hs.A,hs.w0,hs.Mu,hs.U⟩ ?_
   show Rel _ _ _ (zfe hp (e.bq++l)) a'
   rw [zl3];exact hfr
  ·exact hd
theorem zAP (dp:Bool) (e:Eff):(zsH dp hp0 gs e).call=e.call:=by
 unfold zsH
 split
 ·rfl
 ·split<;>rfl
theorem zDL (dp:Bool) (e:Eff):(zsH dp hp0 gs e).bu=e.bu:=by
 unfold zsH
 split
 ·rfl
 ·split<;>rfl
theorem zqa (dp:Bool) (e:Eff):(zsH dp hp0 gs e).cc=e.cc:=by
 unfold zsH
 split
 ·rfl
 ·split<;>rfl
theorem zBK {dp:Bool} {e:Eff} {x:E} (h:e.cc=some x):zsH dp hp0 gs e=e:=by
 unfold zsH
 rw [if_pos (by simp [h])]
theorem zE8 (h:Pre P c n nx sl hp a sl0 hp0 o gs) {e:Eff} (fz:Bool) (hd:zbP P o c n nx sl hp gs a e):zbP P o c n nx sl hp gs a (zCN fz hp0 gs e):=by
 unfold zCN
 split
 ·exact hd
 ·rename_i hc0
  simp only [Bool.or_eq_true,not_or]at hc0
  have hen:e.bq= []:=by simpa using hc0.2
  split
  ·rename_i t g m p x hv
   split
   ·rename_i y l hy hl
    split
    ·rename_i hnb
     intro next Q hk
     refine hd next Q fun a' c' hs hr=> ?_
     rw [hen]at hr
     have hgs':gs= []:=by simpa using hc0.1.1.1.2
     subst hgs'
     have hr:Rel c' n (zmg n sl o.dst e.val) hp a':=hr
     have eh:EH c' hp0:=fun t e hr'=>hr.ents t e (zl9 h.hp hr')
     have hfr:=hr.freeze h.hp (zcA _) hl
     refine hk a' (c'.bw (l.map (·.1))) ⟨hs.ρ,hs.A,hs.w0,hs.Mu,hs.U⟩ ?_
     refine{hfr with c7:=fun i=> ?_}
     have h1:=hr.c7 i
     have h2:=hfr.c7 i
     unfold zmg at h1 h2 ⊢
     split
     ·rename_i hi
      rw [if_pos hi]at h1
      obtain⟨f,q1,q2⟩:=zhU eh (zcA _) zad hy h1 zad (Nat.le_refl _)
      exact .e q1 (fun b hb=>zll hr eh (zcA _) hl hnb (q2 b hb)) .nil
     ·rename_i hi
      rw [if_neg hi]at h2
      exact h2
    ·exact hd
   ·exact hd
  ·exact hd
theorem zDh (fz:Bool) (e:Eff):(zCN fz hp0 gs e).call=e.call:=by
 unfold zCN
 split
 ·rfl
 ·split
  ·split
   ·split<;>rfl
   ·rfl
  ·rfl
theorem zEe (fz:Bool) (e:Eff):(zCN fz hp0 gs e).bu=e.bu:=by
 unfold zCN
 split
 ·rfl
 ·split
  ·split
   ·split<;>rfl
   ·rfl
  ·rfl
theorem zxv (fz:Bool) (e:Eff):(zCN fz hp0 gs e).cc=e.cc:=by
 unfold zCN
 split
 ·rfl
 ·split
  ·split
   ·split<;>rfl
   ·rfl
  ·rfl
theorem zEd {fz:Bool} {e:Eff} {x:E} (h:e.cc=some x):zCN fz hp0 gs e=e:=by
 unfold zCN
 rw [if_pos (by simp [h])]
theorem zI5 (hsg: ∀f s,sg f=some s→f<1000000):zGH P sg (Rts P sg):=by
 intro c n nx sl hp a sl0 hp0 o gs e nv h hu he hc hcall hnq
 unfold zo7 at he
 split at he
 ·rename_i e' he'
  simp only [yqsi]at he;subst he
  rw [zEe,zDL]at hc
  rw [zDh,zAP]at hcall
  rw [zxv,zqa]at hnq
  exact zE8 h _ (zDf h _ (zDz hsg h he' hc hcall hnq))
 ·split at he
  ·exact zHR hsg h hu he hc hcall
  ·cases he
theorem zyK {x:E} (he:zwS P sg sl0 hp0 nv nx o=some e) (hq:e.cc=some x):False:=by
 unfold zwS at he
 simp only at he
 split at he
 ·cases he
 split at he
 ·cases he
 split at he
 ·cases he
 rename_i e0 he0
 split at he
 ·cases he
 rename_i hnq
 have hnq:e0.cc=none:=by cases hh:e0.cc with|none=>rfl|some x=>rw [hh]at hnq;simp at hnq
 split at he
 ·split at he
  ·simp only [yqsi]at he;subst he;rw [hnq]at hq;cases hq
  ·cases he
 ·split at he
  ·obtain⟨d,hd,rfl⟩:=yqme.1 he
   rw [hnq]at hq;cases hq
  ·cases he
theorem zyq {x:E} (he:zo7 P sg sl0 hp0 nv nx gs o=some e) (hq:e.cc=some x):zcg P sg sl0 hp0 nv nx gs o=some e:=by
 unfold zo7 at he
 split at he
 ·rename_i e' he'
  simp only [yqsi]at he;subst he
  rw [zxv,zqa]at hq
  rw [zEd (by rw [zqa];exact hq),zBK hq];exact he'
 ·split at he
  ·exact(zyK he hq).elim
  ·cases he
theorem zH5:zBJ P sg:=by
 intro c n nx sl hp a sl0 hp0 o gs e nv x h he hq hb
 unfold znQ at hb
 cases hop:o.op with
 |binOp op t y z ty=>
  rw [hop]at hb
  simp only at hb
  have he:=zyq he hq
  simp only [zcg,hop,yqbe]at he
  obtain⟨s1,hs1,s2,hs2,he⟩:=he
  have key: ∀xq,zgt hp0 gs zad s1=some xq→xq.den c.ρ= .sl []:=by
   intro xq hxq
   obtain⟨f,q1,_⟩:=h.kq hs1 (by simp [hop,Op.operands]) hxq
   generalize a.eval y=v at q1 hb
   split at hb
   ·generalize xq.den c.ρ=d at q1
    cases q1 with
    |eg _=>rfl
   ·cases hb
  unfold zuE at he
  split at he
  ·split at he
   ·simp at he;subst he;cases hq
   ·simp at he;subst he;cases hq
   ·obtain⟨xq,hxq,rfl⟩:=yqme.1 he
    cases hq;exact key _ hxq
   ·obtain⟨xq,hxq,rfl⟩:=yqme.1 he
    cases hq;exact key _ hxq
   ·cases he
  ·split at he
   ·simp at he;subst he;cases hq
   ·cases he
  ·split at he
   ·simp at he;subst he;cases hq
   ·cases he
  ·split at he
   ·simp at he;subst he;cases hq
   ·cases he
  ·split at he
   ·cases he
   ·split at he
    ·split at he
     ·simp at he;subst he;cases hq
     ·simp at he;subst he;cases hq
     ·cases he
    ·cases he
  ·cases he
 |_=>rw [hop]at hb;simp at hb
end
end Go.Proofs.YtgobcjbjogkpjaaGreatDoor
end

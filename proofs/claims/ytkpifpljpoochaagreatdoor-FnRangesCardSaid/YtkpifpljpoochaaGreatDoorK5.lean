/- Parts of a proof, joined: WP, WQ, WR, WRa, WRb, WRc, WRd, WRe, WRf, WS. -/
import Derived.Test.YtkpifpljpoochaaGreatDoorK4
set_option linter.unusedVariables false
set_option linter.unusedSimpArgs false
namespace Go.Proofs.YtkpifpljpoochaaGreatDoor
open Go.RowKit
section
section
variable {P:Program} {c:Cx} {hp:Nat->Option Ah} {gs:Gd}
theorem iX(hb:PR c)(eh:EH c hp)(k:Bc c.ρ gs)(hU:∀t g,c.K t g->c.U t):∀(ss:List SV) {ts:List TypeId} {ms:List PM} {lo:List Bool} {es:List E} {bs:List PA} {us uz:List Nat} {vs:List Value},SA P hp gs ts ms lo ss=some (es,bs,us,uz)->SR c ss vs->ts.length<=ss.length->
  ∃rf lf hs,Dr P c.w ts ms lo vs (es.map (E.den c.ρ)) rf lf hs/\(∀b∈rf,c.dq us b)/\(∀b∈lf,c.dq uz b\/b<c.w0.heap.size/\ ¬c.Mu b)/\hs=(Dq bs).flatMap (λt=>(c.G t).top)/\H6 P c ts ms vs bs/\(∀u∈Dq bs,c.U u)/\(bs≠ []->gs=[])
 | [],ts,ms,lo,es,bs,us,uz,vs,h,hs,hl=>by simp[SA]at h;obtain⟨rfl,rfl,rfl,rfl⟩:=h;cases hs;have:ts=[]:=List.eq_nil_of_length_eq_zero (by simpa using hl);subst this;exact⟨[],[],[], .nil,by simp,by simp,by simp[Dq], .nil,by simp[Dq],by simp⟩
 |s::ss,ts,ms,lo,es,bs,us,uz,[],h,hs,hl=>by have:=hs.len;simp at this
 |s::ss,ts,ms,lo,es,bs,us,uz,v::vs,h,hs,hl=>by
  obtain⟨r1,r2⟩:=hs.bu;unfold SA at h;split at h
  ·cases h
  rename_i ys bs' us' uz' CW;obtain⟨rf,lf,Bd,q1,q2,qz,q3,q4,q5,q6⟩:=iX hb eh k hU ss CW r2 (by simp at hl ⊢;omega);have see1:∀{a b:List Nat} {x:Nat},c.dq a x->c.dq (a++b) x:=λh=>h.mono λt ht=>by simp[ht]
  have see2:∀{a b:List Nat} {x:Nat},c.dq b x->c.dq (a++b) x:=λh=>h.mono λt ht=>by simp[ht]
  split at h
  ·rename_i hm;split at h
   ·rename_i BO;simp only[Ae,Bt]at BO;obtain⟨t,ts,rfl⟩:∃t ts',ts=t::ts':=by
     cases ts with
     |nil=>simp at BO
     |cons t ts=>exact⟨t,ts,rfl⟩
    split at h
    ·rename_i i;simp only[Af,AO]at h;obtain⟨rfl,rfl,rfl,rfl⟩:=h;cases r1 with
     |lent g1 _=>obtain⟨f,p1,p2⟩:=hb.lo _ _ g1;have hw:Rd c.w [v] [(E.var i).den c.ρ] f:=p1.frame λb BF=>hb.block b (p1.inb b BF) (p2 b BF);exact⟨rf,f++lf,Bd, .lent BO.1 hm hw q1,q2,λb BF=>(Ag.1 BF).elim (λBF=> .inr ⟨p1.inb b BF,p2 b BF⟩) (qz b),q3, .ro hm q4,q5,q6⟩
    ·obtain⟨x,hx,hh⟩:=Aq.1 h;simp only[AO]at hh;obtain⟨rfl,rfl,rfl,rfl⟩:=hh;obtain⟨f,p1,p2⟩:=Hd eh k AW hx r1 AW (Ay _);exact⟨rf,f++lf,Bd, .lent BO.1 hm p1 q1,q2,λb BF=>(Ag.1 BF).elim (λBF=> .inl (see1 (p2 b BF))) (λBF=>(qz b BF).imp see2 id),q3, .ro hm q4,q5,q6⟩
   obtain⟨x,hx,hh⟩:=Aq.1 h;simp only[AO]at hh;obtain⟨rfl,rfl,rfl,rfl⟩:=hh;obtain⟨f,p1,p2⟩:=Hd eh k AW hx r1 AW (Ay _);have hb:∀b∈f++rf,c.dq (BN hp gs (AW+1) [s]++us') b:=λb hb=>by
    rcases Ag.1 hb with hb|hb
    ·exact see1 (p2 b hb)
    ·exact see2 (q2 b hb)
   cases ts with
   |nil=>exact⟨f++rf,lf,Bd, .free p1 q1,hb,qz,q3, .ro hm q4,q5,q6⟩
   |cons t ts=>exact⟨f++rf,lf,[]++Bd, .cons (by rw[hm];exact⟨p1,rfl⟩) q1,hb,qz,q3, .ro hm q4,q5,q6⟩
  ·rename_i own own' hm;split at h
   ·rename_i ty T Bb;split at h
    ·rename_i ty' g cs IC;split at h
     ·cases h
     rename_i BI;have BI:ty'=ty:=by simpa using BI
     subst BI;split at h
     ·rename_i xs rs vs' B9 EA;simp only[Af,AO]at h;obtain⟨rfl,rfl,rfl,rfl⟩:=h;obtain⟨t,ts,rfl,Dx⟩:∃t ts',ts=t::ts'/\JO P t=some ty':=by
       cases ts with
       |nil=>simp at Bb
       |cons t ts=>exact⟨t,ts,rfl,by simpa using Bb⟩
      obtain⟨b,C,g1,g2,g3,g4,g5,g6,g7⟩:=eh T _ (Cv IC k);obtain⟨f,h8,p1,p2,p3,p4,p5⟩:=YH (P:=P) eh k hU (A5 P ty') EA g7 B9 (Ay _);have hv:v= .pointer (some ⟨b,0,none⟩):=by
       cases r1 with
       |ca k1 k2 _=>rw[g2]at k2;cases k2;rfl
      refine⟨f++rf,lf,(b::h8)++Bd, .cons ?_ q1,λx hx=> ?_,qz,by simp[Dq,p3,q3,g3], .bx hm Dx hv g1 (by rw[g2,hv]) p5 q4,λu hu=> ?_,λ_=>rfl⟩
      ·rw[hm];exact⟨ty',b,C,xs.den c.ρ,h8,Dx,hv,g5,g6,rfl,p1,rfl⟩
      ·rcases Ag.1 hx with hx|hx
       ·exact see1 (p2 x hx)
       ·exact see2 (q2 x hx)
      ·simp only[Dq,List.cons_append,Ad,Ag]at hu;rcases hu with rfl|hu|hu
       ·exact hU _ _ g1
       ·exact p5 u hu
       ·exact q5 u hu
     ·cases h
    ·cases h
   ·cases h
  ·rename_i own hm;split at h
   ·rename_i t x Bb hx;split at h
    ·cases h
    rename_i Az;have Az:(G9 s).2=An P t:=by simpa using Az
    split at h
    ·rename_i rs vs' EA;simp only[Af,AO]at h;obtain⟨rfl,rfl,rfl,rfl⟩:=h;obtain⟨ts,rfl⟩:∃ts',ts=t::ts':=by
      cases ts with
      |nil=>simp at Bb
      |cons t' ts=>simp at Bb;exact⟨ts,by rw[Bb]⟩
     obtain⟨f,h8,p1,p2,p3,⟨vs9,p4,p5⟩,p6⟩:=gH (P:=P) eh k hU r1 hx Az EA;refine⟨f++rf,lf,h8++Bd, .cons (by rw[hm];exact p1) q1,λx hx=> ?_,qz,by simp[Dq,p3,q3],by rw[Az];exact .mu hm p4 p5 q4,λu hu=> ?_,λ_=>rfl⟩
     ·rcases Ag.1 hx with hx|hx
      ·exact see1 (p2 x hx)
      ·exact see2 (q2 x hx)
     ·simp only[Dq,Ag]at hu;exact hu.elim (p6 u) (q5 u)
    ·cases h
   ·cases h
  ·rename_i own hm;split at h
   ·rename_i t x Bb hx;split at h
    ·cases h
    rename_i Az;have Az:(G9 s).2=An P t:=by simpa using Az
    split at h
    ·rename_i rs vs' EA;simp only[Af,AO]at h;obtain⟨rfl,rfl,rfl,rfl⟩:=h;obtain⟨ts,rfl⟩:∃ts',ts=t::ts':=by
      cases ts with
      |nil=>simp at Bb
      |cons t' ts=>simp at Bb;exact⟨ts,by rw[Bb]⟩
     obtain⟨f,h8,p1,p2,p3,⟨vs9,p4,p5⟩,p6⟩:=gH (P:=P) eh k hU r1 hx Az EA;refine⟨f++rf,lf,h8++Bd, .cons (by rw[hm];exact p1) q1,λx hx=> ?_,qz,by simp[Dq,p3,q3], .va hm p6 q4,λu hu=> ?_,λ_=>rfl⟩
     ·rcases Ag.1 hx with hx|hx
      ·exact see1 (p2 x hx)
      ·exact see2 (q2 x hx)
     ·simp only[Dq,Ag]at hu;exact hu.elim (p6 u) (q5 u)
    ·cases h
   ·cases h
end
inductive EW(P:Program)(w:World):List TypeId->List Bool->List Value->List AV->List Nat->List Nat->Prop where
 |nil {fl}:EW P w [] fl [] [] [] []
 |own {t ts fl el u us y ys top N f o}:fl.headD false=true->Da P t=some el->(B1 P el=true/\N=[]\/B1 P el=false/\DF P t=none)->CQ w el (P.cellsOf el) u y top N->EW P w ts fl.tail us ys f o->EW P w (t::ts) fl (u::us) (y::ys) (N++f) (top++o)
 |deep {t ts fl el e z l u us y ys top f o}:fl.headD false=true->Da P t=some el->B1 P el=false->DF P t=some (.row e z l)->DC w [.row e z l] [u] [y] top->EW P w ts fl.tail us ys f o->EW P w (t::ts) fl (u::us) (y::ys) f (top++o)
 |skip {t ts fl u us y ys f o}:(fl.headD false=true->Da P t=none)->EW P w ts fl.tail us ys f o->EW P w (t::ts) fl (u::us) (y::ys) f o
inductive DA(P:Program)(w:World):List TypeId->List PM->List Value->List AV->List Nat->List Nat->Prop where
 |nil {ms vs}:DA P w [] ms vs [] [] []
 |ro {t ts ms v vs bs f o}:ms.headD .ro= .ro->DA P w ts ms.tail vs bs f o->DA P w (t::ts) ms (v::vs) bs f o
 |va {t ts ms own v vs bs f o}:ms.headD .ro= .va own->DA P w ts ms.tail vs bs f o->DA P w (t::ts) ms (v::vs) bs f o
 |mu {t ts ms own v vs us ys y bs f1 f o1 o}:ms.headD .ro= .mu own->(if An P t then v= .agg us.toArray/\y= .agg ys else us=[v]/\ys=[y])->EW P w (A5 P t) own us ys f1 o1->DA P w ts ms.tail vs bs f o->DA P w (t::ts) ms (v::vs) (y::bs) (f1++f) (o1++o)
 |bx {t ts ms own own' ty b C v vs ys y bs f1 o1 f o}:ms.headD .ro= .bx own own'->JO P t=some ty->v= .pointer (some ⟨b,0,none⟩)->w.heap[b]?=some (.cells C ty (0,0))->(∀u∈C.toList,u.oneCell'=true)->y= .agg ys->Cs P w (A5 P ty) own' C.toList ys f1 o1->
   DA P w ts ms.tail vs bs f o->DA P w (t::ts) ms (v::vs) (y::bs) (f1++f) (b::o1++o)
section
variable {P:Program} {c:Cx} {w':World}
theorem yO{mk:Nat->E}{ts:List TypeId}{fl:List Bool}{us:List Value}{rs:List (Option RI)}(h:Gc P c ts fl us rs)(hU:∀t g,c.K t g->c.U t):∀{ys:List AV} {f o:List Nat} (j:Nat),EW P w' ts fl us ys f o->(∀i y,ys[i]?=some y->(mk (j+i)).den c.ρ=y)->
  ∃recs:List AM,KN mk j rs=recs.map AM.pair/\(recs.flatMap AM.top).Sublist o/\(∀r∈recs,r.new=none/\c.U r.tag/\ ∀hs f,r.a6≠ .gd hs f)/\recs.map AM.tag=CB rs/\ ∀c',EJ c c' w' recs->(∀b∈f,c'.ok b)-> ∀r∈recs,C3 c' r.tag r.a6:=by
 induction h with
 |nil=>intro ys f o j hm _;cases hm;exact⟨[],rfl,by simp,by simp,rfl,by simp⟩
 | @row t ts fl v vs u g el rs h1 h2 P3 h3 h4 h5 _ ih=>
  intro ys f o j hm FL;cases hm with
  |skip hh _=>rw[hh h1]at h2;cases h2
  |deep _ k2 k21 k22 _ _=>
   rw[h2]at k2;cases k2;rcases P3 with hh|hh
   ·rw[hh]at k21;cases k21
   ·rw[hh]at k22;cases k22
  | @own _ _ _ el' _ _ y ys top N f o k1 k2 k23 k3 k4=>
   rw[h2]at k2;cases k2;obtain⟨recs,e1,e2,e3,e4,e5⟩:=ih (j+1) k4 (λi y hy=>by rw[show j+1+i=j+(i+1)from by omega];exact FL (i+1) y (by simpa using hy));have hy:=FL 0 y rfl;refine⟨⟨u,none,top, .row el (P.cellsOf el) g (mk j) (B1 P el)⟩::recs,by simp[KN,e1,AM.pair],by simpa using(List.Sublist.refl top).append e2,λr hr=> ?_,by simp[CB,RI.tag,e4],λc' ha AR r hr=> ?_⟩
   ·rcases Ad.1 hr with rfl|hr
    ·exact⟨rfl,hU _ _ h3,by simp⟩
    ·exact e3 r hr
   ·rcases Ad.1 hr with rfl|hr
    ·obtain⟨a1,a2⟩:=ha.K u g h3;have kg:=ha.G _ (List.mem_cons_self ..);simp only at kg;refine⟨a1,λg' Cg=>h5 g' (ha.old u (hU _ _ h3) g' Cg),N,?_,λb hb=>AR b (by simp[hb]),λhd=> ?_,λ_=>by rw[kg]⟩
     rotate_left
     ·rcases k23 with⟨_,h⟩|⟨h,_⟩
      ·subst h;exact⟨rfl,by rw[kg]⟩
      ·rw[h]at hd;cases hd
     have Bo:(mk j).den c.ρ=y:=by simpa using hy
     rw[a2,h4,kg,ha.w,ha.ρ,Bo];exact k3
    ·exact e5 c' (ha.mono λr hr=>by simp[hr]) (λb hb=>AR b (by simp[hb])) r hr
 | @deep t ts fl v vs u g el e z l ep rs h1 h2 P2 NM h3 h4 h5 h6 _ ih=>
  intro ys f o j hm FL;cases hm with
  |skip hh _=>rw[hh h1]at h2;cases h2
  |own _ k2 k23 _ _=>
   rw[h2]at k2;cases k2;rcases k23 with⟨hh,_⟩|⟨_,hh⟩
   ·rw[hh]at P2;cases P2
   ·rw[hh]at NM;cases NM
  | @deep _ _ _ el' e' z' l' _ _ y ys top f o k1 k2 k21 k22 k3 k4=>
   rw[NM]at k22;cases k22;obtain⟨recs,e1,e2,e3,e4,e5⟩:=ih (j+1) k4 (λi y hy=>by rw[show j+1+i=j+(i+1)from by omega];exact FL (i+1) y (by simpa using hy));have hy:=FL 0 y rfl;refine⟨⟨u,none,top, .deep e z l g (ep+1) (mk j)⟩::recs,by simp[KN,e1,AM.pair],by simpa using(List.Sublist.refl top).append e2,λr hr=> ?_,by simp[CB,RI.tag,e4],λc' ha AR r hr=> ?_⟩
   ·rcases Ad.1 hr with rfl|hr
    ·exact⟨rfl,hU _ _ h3,by simp⟩
    ·exact e3 r hr
   ·rcases Ad.1 hr with rfl|hr
    ·obtain⟨a1,a2⟩:=ha.K u g h3;have kg:=ha.G _ (List.mem_cons_self ..);have ke:=ha.fu _ (List.mem_cons_self ..) rfl;simp only at kg ke;refine⟨a1,λg' Cg=>h5 g' (ha.old u (hU _ _ h3) g' Cg),by rw[ke,h6],?_,by rw[kg]⟩;have Bo:(mk j).den c.ρ=y:=by simpa using hy
     rw[a2,h4,kg,ha.w,ha.ρ,Bo];exact k3
    ·exact e5 c' (ha.mono λr hr=>by simp[hr]) (λb hb=>AR b (by simp[hb])) r hr
 | @none t ts fl v vs rs _ _ ih=>
  intro ys f o j hm FL;have go:∀{y:AV} {ys':List AV} {f' o':List Nat},ys=y::ys'->EW P w' ts fl.tail vs ys' f' o'->(∀b∈f',b∈f)->o'.Sublist o-> ∃recs:List AM,KN mk j (none::rs)=recs.map AM.pair/\(recs.flatMap AM.top).Sublist o/\(∀r∈recs,r.new=none/\c.U r.tag/\ ∀hs f,r.a6≠ .gd hs f)/\recs.map AM.tag=CB (none::rs)/\ ∀c',EJ c c' w' recs->(∀b∈f,c'.ok b)-> ∀r∈recs,C3 c' r.tag r.a6:=by rintro y ys' f' o' rfl EZ hf hs;obtain⟨recs,e1,e2,e3,e4,e5⟩:=ih (j+1) EZ (λi y hy=>by rw[show j+1+i=j+(i+1)from by omega];exact FL (i+1) y (by simpa using hy));exact⟨recs,by simp[KN,e1],e2.trans hs,e3,by simp[CB]at e4 ⊢;exact e4,λc' ha AR=>e5 c' ha λb hb=>AR b (hf b hb)⟩
  cases hm with
  |skip _ h8=>exact go rfl h8 (λ_ h=>h) (List.Sublist.refl _)
  |own _ _ _ _ h8=>exact go rfl h8 (λb hb=>by simp[hb]) (List.sublist_append_right _ _)
  |deep _ _ _ _ _ h8=>exact go rfl h8 (λ_ h=>h) (List.sublist_append_right _ _)
theorem iJ(us:List Nat)(hU:∀u∈us,c.U u):∃recs:List AM,D2 us=recs.map AM.pair/\recs.flatMap AM.top=[]/\(∀r∈recs,r.new=none/\c.U r.tag/\ ∀hs f,r.a6≠ .gd hs f)/\recs.map AM.tag=us/\ ∀c',EJ c c' w' recs-> ∀r∈recs,C3 c' r.tag r.a6:=by
 induction us with
 |nil=>exact⟨[],rfl,rfl,by simp,rfl,by simp⟩
 |cons u us ih=>
  obtain⟨recs,e1,e2,e3,e4,e5⟩:=ih λu hu=>hU u (by simp[hu]);refine⟨⟨u,none,[], .dead⟩::recs,by simp only[D2]at e1;simp[D2,e1,AM.pair],by simp[e2],λr hr=> ?_,by simp[e4],λc' ha r hr=> ?_⟩
  ·rcases Ad.1 hr with rfl|hr
   ·exact⟨rfl,hU _ (by simp),by simp⟩
   ·exact e3 r hr
  ·rcases Ad.1 hr with rfl|hr
   ·have kg:=ha.G _ (List.mem_cons_self ..);simp only at kg;exact⟨by rw[kg],by rw[kg]⟩
   ·exact e5 c' (ha.mono λr hr=>by simp[hr]) r hr
structure Ig(c:Cx)(w':World)(nx m:Nat)(l:List (Nat × Ah))(hd o f:List Nat)(recs:List AM):Prop where
 ents:l=recs.map AM.pair
 kt:(recs.flatMap AM.top).Sublist o
 new:∀r∈recs,r.new.isSome=true->nx<=r.tag/\r.tag<nx+m
 old:∀r∈recs,r.new=none->r.tag∈hd/\c.U r.tag
 all:∀t∈hd,∃r∈recs,r.tag=t
 nodup:hd.Nodup->(∀t,nx<=t->t<nx+m-> ¬c.U t)->(recs.map AM.tag).Nodup
 ne:∀r∈recs,∀hs f,r.a6≠ .gd hs f
 ok:∀c',EJ c c' w' recs->(∀b∈f,c'.ok b)-> ∀r∈recs,C3 c' r.tag r.a6
theorem Ig.app{nx m m':Nat}{l l':List (Nat × Ah)}{hd J1 o o' f f':List Nat}{recs recs':List AM}(h:Ig c w' nx m l hd o f recs)(k:Ig c w' (nx+m) m' l' J1 o' f' recs'):Ig c w' nx (m+m') (l++l') (hd++J1) (o++o') (f++f') (recs++recs'):=by
 refine⟨by rw[h.ents,k.ents,List.map_append],by rw[List.flatMap_append];exact h.kt.append k.kt,λr hr hn=> ?_,λr hr hn=> ?_,λt ht=> ?_,λhn hU=> ?_,λr hr=> ?_,λc' ha AR r hr=> ?_⟩
 ·rcases Ag.1 hr with hr|hr
  ·have:=h.new r hr hn;omega
  ·have:=k.new r hr hn;omega
 ·rcases Ag.1 hr with hr|hr
  ·exact⟨by simp[(h.old r hr hn).1],(h.old r hr hn).2⟩
  ·exact⟨by simp[(k.old r hr hn).1],(k.old r hr hn).2⟩
 ·rcases Ag.1 ht with ht|ht
  ·obtain⟨r,hr,e⟩:=h.all t ht;exact⟨r,by simp[hr],e⟩
  ·obtain⟨r,hr,e⟩:=k.all t ht;exact⟨r,by simp[hr],e⟩
 ·rw[List.nodup_append]at hn;rw[List.map_append,List.nodup_append];refine⟨h.nodup hn.1 λt h1 h2=>hU t h1 (by omega),k.nodup hn.2.1 λt h1 h2=>hU t (by omega) (by omega),λt1 QT t2 QU he=> ?_⟩;obtain⟨q1,F6,rfl⟩:=List.mem_map.1 QT;obtain⟨q2,FA,rfl⟩:=List.mem_map.1 QU;cases n1:q1.new with
  |none=>
   obtain⟨a1,a2⟩:=h.old q1 F6 n1;cases n2:q2.new with
   |none=>exact hn.2.2 _ a1 _ (k.old q2 FA n2).1 he
   |some v2=>have:=k.new q2 FA (by simp[n2]);exact hU q2.tag (by omega) (by omega) (he▸a2)
  |some v1=>
   have:=h.new q1 F6 (by simp[n1]);cases n2:q2.new with
   |none=>exact hU q1.tag (by omega) (by omega) (he▸(k.old q2 FA n2).2)
   |some v2=>have:=k.new q2 FA (by simp[n2]);omega
 ·rcases Ag.1 hr with hr|hr
  ·exact h.ne r hr
  ·exact k.ne r hr
 ·rcases Ag.1 hr with hr|hr
  ·exact h.ok c' (ha.mono λr hr=>by simp[hr]) (λb hb=>AR b (by simp[hb])) r hr
  ·exact k.ok c' (ha.mono λr hr=>by simp[hr]) (λb hb=>AR b (by simp[hb])) r hr
theorem Ig.je{nx:Nat}{l:List (Nat × Ah)}{hd o f:List Nat}{recs:List AM}(e1:l=recs.map AM.pair)(e2:(recs.flatMap AM.top).Sublist o)(e3:∀r∈recs,r.new=none/\c.U r.tag/\ ∀hs f,r.a6≠ .gd hs f)(e4:recs.map AM.tag=hd)(e5:∀c',EJ c c' w' recs->(∀b∈f,c'.ok b)-> ∀r∈recs,C3 c' r.tag r.a6):Ig c w' nx 0 l hd o f recs:=by
 refine⟨e1,e2,λr hr hn=> ?_,λr hr _=>⟨?_,(e3 r hr).2.1⟩,λt ht=> ?_,λhn _=>by rw[e4];exact hn,λr hr=>(e3 r hr).2.2,λc' ha AR=>e5 c' ha AR⟩
 ·rw[(e3 r hr).1]at hn;cases hn
 ·rw[<-e4];exact List.mem_map.2 ⟨r,hr,rfl⟩
 ·rw[<-e4]at ht;obtain⟨r,hr,e⟩:=List.mem_map.1 ht;exact⟨r,hr,e⟩
theorem ztm{ts:List TypeId}{ms:List PM}{vs:List Value}{bs:List PA}(h:H6 P c ts ms vs bs)(hU:∀t g,c.K t g->c.U t){r:Nat}:∀{Bs:List AV} {f o:List Nat} (nx j:Nat),DA P w' ts ms vs Bs f o->(∀k y,Bs[k]?=some y->(E.proj (.var r) (j+k+1)).den c.ρ=y)->
  Bs.length=HN bs/\ ∃recs,Ig c w' nx (JC P bs) (after P r nx bs j) (Dq bs) o f recs:=by
 have nilS:∀nx,Ig c w' nx 0 [] [] [] [] []:=λnx=>⟨rfl,by simp,by simp,by simp,by simp,by simp,by simp,by simp⟩
 induction h with
 |nil=>intro Bs f o nx j hb _;cases hb;exact⟨rfl,[],by simpa[after,Dq,JC]using nilS nx⟩
 | @ro ts ms v vs bs hm C5 ih=>
  intro Bs f o nx j hb hB;cases hb with
  |nil=>exact ih nx j .nil hB
  |ro _ h8=>exact ih nx j h8 hB
  |va h9 _=>rw[hm]at h9;cases h9
  |mu h9 _ _ _=>rw[hm]at h9;cases h9
  |bx h9 _ _ _ _ _ _ _=>rw[hm]at h9;cases h9
 | @va ts ms own v vs bs us hm Kg C5 ih=>
  intro Bs f o nx j hb hB;obtain⟨recs1,e1,e2,e3,e4,e5⟩:=iJ (c:=c) (w':=w') us Kg;have s1:Ig c w' nx 0 (D2 us) us [] [] recs1:= .je e1 (by rw[e2];exact List.Sublist.refl _) e3 e4 λc' ha _=>e5 c' ha;cases hb with
  |nil=>obtain⟨h1,recs2,s2⟩:=ih nx j .nil hB;exact⟨by simpa[HN]using h1,recs1++recs2,by simpa[after,Dq,JC]using s1.app s2⟩
  |ro h9 _=>rw[hm]at h9;cases h9
  |va _ h8=>obtain⟨h1,recs2,s2⟩:=ih nx j h8 hB;exact⟨by simpa[HN]using h1,recs1++recs2,by simpa[after,Dq,JC]using s1.app s2⟩
  |mu h9 _ _ _=>rw[hm]at h9;cases h9
  |bx h9 _ _ _ _ _ _ _=>rw[hm]at h9;cases h9
 | @mu t ts ms own v vs bs us rs hm Kg EA C5 ih=>
  intro Bs f o nx j hb hB;cases hb with
  |ro h9 _=>rw[hm]at h9;cases h9
  |va h9 _=>rw[hm]at h9;cases h9
  |bx h9 _ _ _ _ _ _ _=>rw[hm]at h9;cases h9
  | @mu _ _ _ own2 _ _ us2 ys y Bs f1 f o1 o h9 hg QC h8=>
   rw[hm]at h9;cases h9;obtain⟨h1,recs2,s2⟩:=ih nx (j+1) h8 (λk y hy=>by rw[show j+1+k+1=j+(k+1)+1 from by omega];exact hB (k+1) y (by simpa using hy));have hy:=hB 0 y rfl;have MN:us2=us:=by
    split at Kg
    ·rename_i Az;rw[if_pos Az]at hg;obtain⟨rfl,_⟩:=hg;exact gJ Kg
    ·rename_i Az;rw[if_neg Az]at hg;rw[hg.1,Kg]
   subst MN;obtain⟨recs1,e1,e2,e3,e4,e5⟩:=yO (w':=w') (mk:=Dt (.proj (.var r) (j+1)) (An P t)) EA hU 0 QC (by
    intro i z hz;split at hg
    ·rename_i Az;rw[Az];exact RN (by rw[<-hg.2];exact hy) i z hz
    ·rename_i Az;have Gj:An P t=false:=by simpa using Az
     rw[hg.2]at hz;cases i with
     |zero=>simp at hz;subst hz;rw[Gj];simpa[Dt]using hy
     |succ i=>simp at hz)
   have s1:Ig c w' nx 0 _ (CB rs) o1 f1 recs1:= .je e1 e2 e3 e4 e5;exact⟨by simp[HN,h1],recs1++recs2,by simpa[after,Dq,JC]using s1.app s2⟩
 | @bx t ts ms own own' ty v vs bs T b g olds hm Dx hv hK hH hol C5 ih=>
  intro Bs f o nx j hb hB;cases hb with
  |ro h9 _=>rw[hm]at h9;cases h9
  |va h9 _=>rw[hm]at h9;cases h9
  |mu h9 _ _ _=>rw[hm]at h9;cases h9
  | @bx _ _ _ own2 own3 ty2 b2 C _ _ ys y Bs f1 o1 f o h9 II C6 hh CA G3 hc h8=>
   rw[hm]at h9;cases h9;rw[Dx]at II;cases II;have pK:b2=b:=by rw[hv]at C6;cases C6;rfl
   subst pK;obtain⟨h1,recs2,s2⟩:=ih (nx+(A5 P ty).length) (j+1) h8 (λk y hy=>by rw[show j+1+k+1=j+(k+1)+1 from by omega];exact hB (k+1) y (by simpa using hy));have hy:=hB 0 y rfl;obtain⟨recs0,d1,d2,d3,d4,d5⟩:=iJ (c:=c) (w':=w') olds hol;have s0:Ig c w' nx 0 (D2 olds) olds [] [] recs0:= .je d1 (by rw[d2];exact List.Sublist.refl _) d3 d4 λc' ha _=>d5 c' ha;obtain⟨recs1,e1,e2,e3,e4,_,e5⟩:=Oq (c:=c) (nx:=nx) (mk:=Dt (.proj (.var r) (j+1)) true) hc 0 (RN (by rw[<-G3];exact hy));have cS:=hU _ _ hK;have s1:Ig c w' nx (A5 P ty).length ((T, .box ty g (CI P nx (Dt (.proj (.var r) (j+1)) true) 0 (A5 P ty) own').1)::(CI P nx (Dt (.proj (.var r) (j+1)) true) 0 (A5 P ty) own').2) [T] (b2::o1) f1 (⟨T,none,[b2], .box ty g (CI P nx (Dt (.proj (.var r) (j+1)) true) 0 (A5 P ty) own').1⟩::recs1):=by
    refine⟨by simp[e1,AM.pair],?_,λq hq hn=> ?_,λq hq hn=> ?_,by simp,λ_ AZ=> ?_,λq hq=> ?_,λc' ha AR q hq=> ?_⟩
    ·simp only[List.flatMap_cons,e2,List.singleton_append];exact List.Sublist.refl _
    ·rcases Ad.1 hq with rfl|hq
     ·cases hn
     ·have:=e3 q hq;omega
    ·rcases Ad.1 hq with rfl|hq
     ·exact⟨by simp,cS⟩
     ·have:=(e3 q hq).2.2;rw[hn]at this;cases this
    ·simp only[List.map_cons,List.nodup_cons];refine⟨λhm=> ?_,e4⟩;obtain⟨q,hq,rH⟩:=List.mem_map.1 hm;have:=e3 q hq;exact AZ q.tag (by omega) (by omega) (rH▸cS)
    ·rcases Ad.1 hq with rfl|hq
     ·simp
     ·intro hs f he;obtain⟨q1,q2⟩:=e3 q hq;have:(q.tag,q.a6)∈(CI P nx (Dt (.proj (.var r) (j+1)) true) 0 (A5 P ty) own').2:=by
       rw[e1];exact List.mem_map.2 ⟨q,hq,rfl⟩
      exact M1 _ _ _ _ _ this he
    ·obtain⟨p1,p2⟩:=e5 c' (ha.mono λr hr=>by simp[hr]) AR;rcases Ad.1 hq with rfl|hq
     ·obtain⟨a1,a2⟩:=ha.K T 0 hK;have kg:=ha.G _ (List.mem_cons_self ..);simp only at kg;exact⟨b2,C,a1,by rw[a2,hH,hv],by rw[kg],by rw[kg],by rw[ha.w];exact hh,CA,p1⟩
     ·exact p2 q hq
   refine⟨by simp[HN,h1],recs0++((⟨T,none,[b2], .box ty g (CI P nx (Dt (.proj (.var r) (j+1)) true) 0 (A5 P ty) own').1⟩::recs1)++recs2),?_⟩;have s3:=s0.app (s1.app s2);rw[Nat.zero_add]at s3;refine⟨by simpa[after]using s3.ents,s3.kt,s3.new,λq hq hn=> ?_,λt ht=> ?_,λhn AZ=> ?_,s3.ne,s3.ok⟩
   ·have:=s3.old q hq hn;simp only[Dq,List.cons_append,Ad,Ag,List.not_mem_nil,or_false,List.nil_append]at this ⊢;exact⟨by rcases this.1 with h|h|h;exact .inr (.inl h);exact .inl h;exact .inr (.inr h),this.2⟩
   ·refine s3.all t ?_;simp only[Dq,List.cons_append,Ad,Ag,List.nil_append]at ht ⊢;rcases ht with h|h|h
    ·exact .inr (.inl h)
    ·exact .inl h
    ·exact .inr (.inr h)
   ·refine s3.nodup ?_ AZ;simp only[Dq,List.cons_append,List.nodup_cons,List.nodup_append,Ag,not_or,List.nil_append]at hn ⊢;obtain⟨⟨n1,n2⟩,n3,n4,n5⟩:=hn;refine⟨n3,⟨n2,n4⟩,λa ha b hb=> ?_⟩;rcases Ad.1 hb with rfl|hb
    ·rintro rfl;exact n1 ha
    ·exact n5 a ha b hb
end
def Nv(P:Program):List TypeId->List Bool->List AV->Bool
 |t::ts,fl,y::ys=>((fl.headD false&&(Da P t).isSome)||Cy P t||y.scalar)&&Nv P ts fl.tail ys
 |_,_,_=>true
def VP(P:Program)(t:TypeId)(fl:List Bool)(x:AV):Bool:=if HM P t fl then Nv P (A5 P t) fl (if An P t then x.cells else [x])else Cy P t||x.cells.all AV.scalar
def Sk(P:Program):List TypeId->List Bool->List AV->Bool
 |t::ts,fl,x::xs=>VP P t fl x&&Sk P ts (fl.drop (A5 P t).length) xs
 |_,_,_=>true
def SF(P:Program)(ts:List TypeId)(fl:List Bool)(R:AV):Bool:=match ts with
 | [t]=>VP P t fl R
 |ts=>match R with
  | .tup ys=>Sk P ts fl ys
  |_=>true
def Hj(P:Program):List TypeId->List PM->List AV->Bool
 |t::ts,ms,bs=>(match ms.headD .ro with
  | .ro=>Hj P ts ms.tail bs
  | .va _=>Hj P ts ms.tail bs
  | .mu _=>Hj P ts ms.tail bs.tail
  | .bx _ own'=>(match JO P t,bs with
   |some ty,b::_=>Nv P (A5 P ty) own' b.cells
   |_,_=>true)&&Hj P ts ms.tail bs.tail)
 | [],_,_=>true
def Bm:List TypeId->List PM->Bool
 |_::ts,ms=>(match ms.headD .ro with
  | .mu _=>true
  | .bx .. =>true
  |_=>false)||Bm ts ms.tail
 | [],_=>false
def Nl(P:Program)(fn:Func)(s:FF)(r:AV):Bool:=
 if Bm (Ew fn s++s.ft) s.cf then(match r with
  | .tup (R::bs)=>SF P (DE fn s) s.res R&&Hj P (Ew fn s++s.ft) s.cf bs
  |_=>false)
 else SF P (DE fn s) s.res r
def JP(P:Program)(w:World)(ts:List TypeId)(fl:List Bool)(v:Value)(R:AV)(f o:List Nat):Prop:=match ts with
 | [t]=>F0 P w t fl v R f o
 |ts=> ∃vs ys,v= .tuple vs.toArray/\R= .tup ys/\KR P w ts fl vs ys f o
structure dV(P:Program)(fn:Func)(s:FF)(w:World)(vs:List Value)(rf hs:List Nat)(r:AV)(v:Value)(w':World):Prop where
 ex:∃R bs f1 o1 f2 o2,r=(match bs with| []=>R|_=> .tup (R::bs))/\JP P w' (DE fn s) s.res v R f1 o1/\DA P w' (Ew fn s++s.ft) s.cf vs bs f2 o2/\(o1++o2).Nodup/\
  (∀b∈o1++o2,(b∈hs\/w.heap.size<=b)/\b<w'.heap.size)/\ ∀b∈f1++f2,b∉o1++o2/\(b∈rf\/b∈hs\/w.heap.size<=b)
 mod:Mod hs w w'
theorem Rel.l5{c:Cx}{n:Nat}{sl:Nat->SV}{hp:Nat->Option Ah}{a:Act}(h:Rel c n sl hp a){hs:List Nat}(hh:∀b∈hs,∃t,b∈(c.G t).top):bY c.w (λb=>b∈hs):=by
 obtain⟨p1,p2,p3⟩:=h.base.pk;refine⟨Nat.le_trans p1 h.base.size,Kl.mono (λb hb=>h.base.block b (by omega) λhm=>by have:=p3 b hm;omega) p2,λb hb=> ?_⟩;obtain⟨t,ht⟩:=hh b hb;rcases h.gw.allow t b (by simp[GI.own,ht])with k|k
 ·have:c.w0.heap.size<=b:=k;omega
 ·exact p3 b k
def PY(P:Program)(s:FF)(f:Nat)(xs:List AV)(r:AV):Prop:=
 ∃fn,P.funcs[f]?=some fn/\fn.body.isSome=true/\(fn.name== "runtime.NumGoroutine")=false/\Nl P fn s r=true/\xs.length=fn.params.size+fn.nfree/\s.ft.length<=fn.nfree/\
  ∀(w:World) (vs:List Value) (rf lf hs:List Nat),Dr P w (Ew fn s++s.ft) s.cf s.lo vs xs rf lf hs->(∀b∈hs,b∉rf)->(∀b∈hs,b∉lf)->hs.Nodup->bY w (λb=>b∈hs)->
   Calls P f vs.toArray w λe w'=> ∃v,e= .returned v/\dV P fn s w vs rf hs r v w'
def Cw(P:Program)(sg:BR)(f:Nat)(xs:List AV)(r:AV):Prop:=
 if f<1000000 then∃s,sg f=some s/\PY P s f xs r else PY P {cf:=[],res:=[]} (f-1000000) xs r
section
variable {P:Program} {w:World}
theorem fE{v:Value}{x:AV}{f:List Nat}(h:Rd w [v] [x] f)(hx:∀y∈x.cells,y.scalar=true):f=[]:=by
 by_cases Az:∃cs,x= .agg cs
 ·obtain⟨cs,rfl⟩:=Az;obtain⟨as_,_,_,hr⟩:=Jc h rfl;exact Ha hr hx
 ·have:x.cells=[x]:=by cases x<;>first|rfl|exact absurd ⟨_,rfl⟩ Az
  rw[this]at hx;exact Ha h hx
theorem x5{k el:TypeId}(h:GD P k=some el):KD P 6 k=[k]:=by have h8:=H2 h;simp only[KD,h8]
theorem ztK{t el:TypeId}(h:Da P t=some el):Cy P t=true:=by
 cases hu:P.underlying t with
 |some u=>unfold Da at h;rw[hu]at h;cases u<;>first|(cases h;done)|simp[Cy,B1,A5,KD,hu]
 |none=>
  unfold Da at h;rw[hu]at h;cases h9:N4 t with
  |some k=>
   rw[h9]at h;have e:A5 P t=[t]:=by
    unfold A5;rw[hu,h9];show(KD P 6 k).map NX=[t]
    rw[x5 h,List.map_cons,List.map_nil,zyA h9]
   unfold Cy B1;rw[e];simp only[List.all_cons,List.all_nil,hu,Bool.false_and,Bool.not_false]
  |none=>rw[h9]at h;cases h
theorem Cs.flat{ts:List TypeId}{fl:List Bool}{us:List Value}{ys:List AV}{rf hs:List Nat}(h:Cs P w ts fl us ys rf hs)(h1:Ep P ts fl=false)(h2:Nv P ts fl ys=true):rf=[]:=by
 induction h with
 |nil=>rfl
 |own k1 k2 k23 _ _ ih=>
  simp only[Ep,Bool.or_eq_false_iff]at h1;simp only[Nv,Ae]at h2;have hN:=k23;have hw:=h1.1;rw[ztK k2,k1]at hw;rcases hN with⟨_,rfl⟩|⟨q1,q2⟩
  ·rw[ih h1.2 h2.2];rfl
  ·simp[VK,k2,q1,q2]at hw
 |deep _ _ _ _ _ _ ih=>simp only[Ep,Bool.or_eq_false_iff]at h1;simp only[Nv,Ae]at h2;exact ih h1.2 h2.2
 | @rd t ts fl u us y ys f rf hs hn hr _ ih=>
  simp only[Ep,Bool.or_eq_false_iff]at h1;simp only[Nv,Ae]at h2;have DL:(fl.headD false&&(Da P t).isSome)=false:=by
   cases hh:fl.headD false with
   |false=>rfl
   |true=>rw[hn hh];rfl
  have Xb:(fl.headD false&&VK P t)=false:=by
   cases hh:fl.headD false with
   |false=>rfl
   |true=>simp[VK,hn hh]
  rw[Xb]at h1;rw[DL]at h2;have F7:Cy P t=false:=by simpa using h1.1
  rw[F7]at h2;have hs:y.scalar=true:=by simpa using h2.1
  rw[Ha hr (by simpa using hs),ih h1.2 h2.2];rfl
theorem F0.flat{t:TypeId}{fl:List Bool}{v:Value}{x:AV}{rf hs:List Nat}(h:F0 P w t fl v x rf hs)(h1:bI P t fl=false)(h2:VP P t fl x=true):rf=[]:=by
 unfold F0 at h;unfold bI at h1;unfold VP at h2;split at h
 ·rename_i hf;rw[if_pos hf]at h1 h2;obtain⟨us,ys,hg,hc⟩:=h;split at hg
  ·rename_i Az;obtain⟨_,rfl,_⟩:=hg;rw[if_pos Az]at h2;exact hc.flat h1 h2
  ·rename_i Az;obtain⟨_,rfl⟩:=hg;rw[if_neg Az]at h2;exact hc.flat h1 h2
 ·rename_i hf;rw[if_neg hf]at h1 h2;rw[h1]at h2;exact fE h.1 (by simpa using h2)
theorem KR.flat{ts:List TypeId}{fl:List Bool}{vs:List Value}{xs:List AV}{rf hs:List Nat}(h:KR P w ts fl vs xs rf hs)(h1:Dc P ts fl=false)(h2:Sk P ts fl xs=true):rf=[]:=by
 induction h with
 |nil=>rfl
 |cons hv _ ih=>simp only[Dc,Bool.or_eq_false_iff]at h1;simp only[Sk,Ae]at h2;rw[hv.flat h1.1 h2.1,ih h1.2 h2.2];rfl
theorem JP.flat{ts:List TypeId}{fl:List Bool}{v:Value}{R:AV}{f o:List Nat}(h:JP P w ts fl v R f o)(h1:Dc P ts fl=false)(h2:SF P ts fl R=true):f=[]:=by
 match ts,h,h1,h2 with
 | [t],h,h1,h2=>simp only[Dc,Bool.or_false]at h1;exact F0.flat h h1 h2
 | [],h,h1,h2=>obtain⟨vs,ys,_,rfl,hv⟩:=h;exact hv.flat h1 h2
 |t::u::ts,h,h1,h2=>obtain⟨vs,ys,_,rfl,hv⟩:=h;exact hv.flat h1 h2
theorem CQ.void{ety sz:Nat}{a:Option Addr}{x:AV}{top N:List Nat}(h:CQ w ety sz (.slice a 0 0) x top N):N=[]:=by
 obtain⟨xs,_,_,_,⟨_,_,_,h⟩|⟨g,cap,C,hv,h6,_,_,_,_,_,hr⟩⟩:=h
 ·exact h
 ·have h0:xs.length=0:=by injection hv with _ h _;exact h.symm
  have:xs=[]:=by cases xs with|nil=>rfl|cons _ _=>simp at h0
  subst this;simp[AA]at hr;cases hr;rfl
theorem EW.flat{c:Cx}{ts:List TypeId}{fl:List Bool}{us:List Value}{rs:List (Option RI)}(h:Gc P c ts fl us rs):∀{ys:List AV} {f o:List Nat},EW P w ts fl us ys f o->rs.any RI.lent=false->f=[]:=by
 induction h with
 |nil=>intro ys f o hm _;cases hm;rfl
 |row k1 k2 k23 _ _ _ _ ih=>
  intro ys f o hm hl;simp only[List.any_cons,Bool.or_eq_false_iff,RI.lent]at hl;cases hm with
  |own _ q2 q23 _ q4=>
   rw[k2]at q2;cases q2;rcases q23 with⟨_,rfl⟩|⟨q,_⟩
   ·exact ih q4 hl.2
   ·rw[q]at hl;simp at hl
  |deep _ _ _ _ _ q=>exact ih q hl.2
  |skip _ q=>exact ih q hl.2
 |deep k1 k2 k21 k22 _ _ _ _ _ ih=>
  intro ys f o hm hl;simp only[List.any_cons,Bool.or_eq_false_iff]at hl;cases hm with
  |own _ q2 q23 _ q4=>
   rw[k2]at q2;cases q2;rcases q23 with⟨_,rfl⟩|⟨_,q⟩
   ·exact ih q4 hl.2
   ·rw[q]at k22;cases k22
  |deep _ _ _ _ _ q=>exact ih q hl.2
  |skip _ q=>exact ih q hl.2
 |none hv _ ih=>
  intro ys f o hm hl;simp only[List.any_cons,Bool.or_eq_false_iff]at hl;cases hm with
  |own q1 q2 _ q3 q4=>
   rcases hv q1 with hh|⟨a,rfl⟩
   ·rw[hh]at q2;cases q2
   ·rw[CQ.void q3];exact ih q4 hl.2
  |deep _ _ _ _ _ q=>exact ih q hl.2
  |skip _ q=>exact ih q hl.2
theorem DA.flat{c:Cx}{ts:List TypeId}{ms:List PM}{vs:List Value}{bs:List PA}(h:H6 P c ts ms vs bs):∀{Bs:List AV} {f o:List Nat},DA P w ts ms vs Bs f o->DP P bs=false->Hj P ts ms Bs=true->f=[]:=by
 induction h with
 |nil=>intro Bs f o hb _ _;cases hb;rfl
 | @ro ts ms v vs bs hm _ ih=>
  intro Bs f o hb h1 h2;cases hb with
  |nil=>rfl
  |ro _ h8=>simp only[Hj,hm]at h2;exact ih h8 h1 h2
  |va h9 _=>rw[hm]at h9;cases h9
  |mu h9 _ _ _=>rw[hm]at h9;cases h9
  |bx h9 _ _ _ _ _ _ _=>rw[hm]at h9;cases h9
 | @va ts ms own v vs bs us hm _ _ ih=>
  intro Bs f o hb h1 h2;cases hb with
  |nil=>rfl
  |ro h9 _=>rw[hm]at h9;cases h9
  |va _ h8=>simp only[Hj,hm]at h2;exact ih h8 h1 h2
  |mu h9 _ _ _=>rw[hm]at h9;cases h9
  |bx h9 _ _ _ _ _ _ _=>rw[hm]at h9;cases h9
 | @mu t ts ms own v vs bs us rs hm Kg EA _ ih=>
  intro Bs f o hb h1 h2;cases hb with
  |ro h9 _=>rw[hm]at h9;cases h9
  |va h9 _=>rw[hm]at h9;cases h9
  | @mu _ _ _ own2 _ _ us2 ys y Bs f1 f o1 o h9 hg QC h8=>
   rw[hm]at h9;cases h9;simp only[Hj,hm]at h2;simp only[DP,Bool.or_eq_false_iff]at h1;have MN:us2=us:=by
    split at Kg
    ·rename_i Az;rw[if_pos Az]at hg;obtain⟨rfl,_⟩:=hg;exact gJ Kg
    ·rename_i Az;rw[if_neg Az]at hg;rw[hg.1,Kg]
   subst MN;rw[EW.flat EA QC h1.1,ih h8 h1.2 h2];rfl
  |bx h9 _ _ _ _ _ _ _=>rw[hm]at h9;cases h9
 | @bx t ts ms own own' ty v vs bs T b g olds hm Dx _ _ _ _ _ ih=>
  intro Bs f o hb h1 h2;cases hb with
  |ro h9 _=>rw[hm]at h9;cases h9
  |va h9 _=>rw[hm]at h9;cases h9
  |mu h9 _ _ _=>rw[hm]at h9;cases h9
  |bx h9 II _ _ _ hy hc h8=>rw[hm]at h9;cases h9;rw[Dx]at II;cases II;simp only[Hj,hm,Dx,Ae,hy,List.tail_cons]at h2;simp only[DP,Bool.or_eq_false_iff]at h1;rw[hc.flat h1.1 h2.1,ih h8 h1.2 h2.2];rfl
theorem Y5{ts:List TypeId}{ms:List PM}{vs:List Value}{Bs:List AV}{f o:List Nat}(h:DA P w ts ms vs Bs f o):Bs=[]↔Bm ts ms=false:=by
 induction h with
 |nil=>simp[Bm]
 |ro hm _ ih=>simp only[Bm,hm,Bool.false_or];exact ih
 |va hm _ ih=>simp only[Bm,hm,Bool.false_or];exact ih
 |mu hm _ _ _ _=>simp only[Bm,hm,Bool.true_or];simp
 |bx hm _ _ _ _ _ _ _ _=>simp only[Bm,hm,Bool.true_or];simp
end
section
variable {P:Program} {c:Cx} {n nx:Nat} {sl sl0:Nat->SV} {hp hp0:Nat->Option Ah} {a:Act} {o:Oper} {gs:Gd} {e:A2} {sg:BR} {nv:Nat}
theorem jE{xs:List Operand}:∀{ss:List SV},(∀x∈xs,∀s,Bn sl0 gs x=some s->SR c [s] [a.eval x])->xs.mapM (Bn sl0 gs)=some ss->SR c ss (xs.map a.eval):=by
 induction xs with
 |nil=>intro ss _ h;simp at h;subst h;exact .nil
 |cons x xs ih=>intro ss hx h;rw[List.mapM_cons]at h;simp only[Option.bind_eq_bind,As,Option.pure_def,Af]at h;obtain⟨s,hs,ss',FU,rfl⟩:=h;exact(hx x (by simp) s hs).cons (ih (λy hy=>hx y (by simp[hy])) FU)
theorem OZ:∀{l:List Nat},KP l=true->l.Nodup
 | [],_=>by simp
 |x::l,h=>by simp only[KP,Ae,Bt,List.contains_eq_mem,decide_eq_false_iff_not]at h;exact List.nodup_cons.2 ⟨h.1,OZ h.2⟩
theorem ztD{c1:Cx}{w':World}{recs:List AM}{hs f o:List Nat}(gw:GW c)(hg:∀t,(c1.G t).top=(c.G t).top\/(c1.G t).top=[])(hA:c1.A=c.A)(V6:c1.Mu=c.Mu)(Ln:c1.w0=c.w0)(hB:c.w0.heap.size<=c.w.heap.size)
  (hn:(recs.map AM.tag).Nodup) (Cb:∀r∈recs,∀b∈r.top,b∈o) (Gs:∀b∈hs,∃r∈recs,b∈(c.G r.tag).top) {rf:List Nat} (Lg:∀b∈rf,c1.ok b) (hf:∀b∈f,b∉o/\(b∈rf\/b∈hs\/c.w.heap.size<=b)):∀b∈f,(c1.dc w' recs).ok b:=by
 intro b hb;obtain⟨h1,h2⟩:=hf b hb;have hM:(c1.dc w' recs).M b-> ∃t,(∀r∈recs,r.tag≠t)/\b∈(c1.G t).top:=by
  rintro⟨t,ht⟩;by_cases hT:∃r∈recs,r.tag=t
  ·obtain⟨r,hr,rfl⟩:=hT;rw[Cx.de hn hr]at ht;exact absurd (Cb r hr b ht) h1
  ·rw[Cx.cy λr hr hh=>hT ⟨r,hr,hh⟩]at ht;exact⟨t,λr hr hh=>hT ⟨r,hr,hh⟩,ht⟩
 have sub:∀t,b∈(c1.G t).top->b∈(c.G t).top:=λt ht=>by
  rcases hg t with hh|hh
  ·rw[<-hh];exact ht
  ·rw[hh]at ht;simp at ht
 rcases h2 with h2|h2|h2
 ·refine⟨λhm=> ?_,(Lg b h2).2⟩;obtain⟨t,_,ht⟩:=hM hm;exact(Lg b h2).1 ⟨t,ht⟩
 ·obtain⟨r,hr,S0⟩:=Gs b h2;refine⟨λhm=> ?_, .inr ?_⟩
  ·obtain⟨t,Ej,ht⟩:=hM hm;exact gw.cc r.tag t (Ej r hr) b (by simp[GI.own,S0]) (by simp[GI.own,sub t ht])
  ·have:=gw.allow r.tag b (by simp[GI.own,S0]);simp only[Cx.dc,Cx.B,Ln,V6]at this ⊢;exact this
 ·refine⟨λhm=> ?_, .inr (.inl ?_)⟩
  ·obtain⟨t,_,ht⟩:=hM hm;have:=gw.inb t b (by simp[GI.own,sub t ht]);omega
  ·simp only[Cx.dc,Cx.B,Ln];omega
theorem zuV(h:Bh P c n nx sl hp a sl0 hp0 o gs){cl:Call}{fo:Operand}(ho:o.op= .call cl)(AF:cl.callee= .value fo){g:Nat}{caps:Bp}(hf:Bn sl0 gs fo=some (.fn g caps)){as_:List SV}(has:cl.args.toList.mapM (Bn sl0 gs)=some as_)
  (hg:g<1000000) (he:Si P sg hp0 gs nv nx g (as_++caps.toList)=some e) (A9:∀c',e.call=some c'-> ∃r,c.ρ[nv]?=some r/\HG (Cw P sg) c'.fn ((EL.of c'.args).den c.ρ) c.ρ r):Aw P o c n nx sl hp gs a e:=by
 have W4:fo∈o.op.operands:=by simp[ho,Op.operands,Call.operands,AF]
 have W3:∀x∈cl.args.toList,x∈o.op.operands:=λx hx=>by
  have:x∈cl.args:=by simpa using hx
  simp[ho,Op.operands,Call.operands,AF,this]
 have Lg:=h.ch hf W4;generalize WE:a.eval fo=fv at Lg;cases Lg with
 |fn Qf h8=>
 rename_i capv;have Au:=(jE (a:=a) (λx hx s hs=>h.ch hs (W3 x hx)) has).app Qf;unfold Si at he;split at he
 ·rename_i fn s FJ IJ;split at he
  ·cases he
  rename_i hlen;simp only[Bool.or_eq_true,not_or,Bool.not_eq_true,bne_eq_false_iff_eq]at hlen;split at he
  ·cases he
  rename_i es bs us uz A6;split at he
  ·cases he
  rename_i B8;simp only[Bool.or_eq_true,Bt,not_or,Bool.not_eq_false,Bool.not_eq_true]at B8;obtain⟨⟨W9,QF⟩,QG⟩:=B8;have QH:=OZ W9;have Gk:∀u∈us,u∉Dq bs:=λu hu hh=>by rw[List.any_eq_false]at QF;have:=QF u hu;simp only[List.contains_eq_mem,AN]at this;exact this hh
  have JW:∀u∈uz,u∉Dq bs:=λu hu hh=>by rw[List.any_eq_false]at QG;have:=QG u hu;simp only[List.contains_eq_mem,AN]at this;exact this hh
  simp only at he;split at he
  ·cases he
  rename_i BY;simp only[Nat.not_le]at BY;split at he
  ·cases he
  rename_i Hz;split at he
  ·cases he
  rename_i fz Gp;have hK:∀t g,c.K t g->c.U t:=h.rel.bc;obtain⟨rf,lf,hs,q1,q2,qz,q3,q4,q5,q6⟩:=iX (P:=P) h.rel.base h.eh h.gs hK (as_++caps.toList) A6 Au (by rw[hlen.1.2,Ap,Pe];have:=hlen.2;simp only[decide_eq_false_iff_not,Nat.not_lt]at this;omega);obtain⟨fts,GP,Qq⟩:∃fts,Dz hp0 gs fts=some fz/\ ∀t∈fts,t∈us:=by
   split at Gp
   ·exact⟨us,Gp,λt ht=>ht⟩
   ·simp only[Af]at Gp;subst Gp;exact⟨[],rfl,by simp⟩
  have C4:=h.rel.freeze h.hp h.gs GP;have K4:∀t∈fz.map (·.1),t∈us:=λt ht=>by obtain⟨⟨t',e'⟩,hm,rfl⟩:=List.mem_map.1 ht;exact Qq _ ((M0 h.gs GP).1 t' e' hm).1
  have P5:∀t,((c.bh (fz.map (·.1))).G t).top=(c.G t).top\/((c.bh (fz.map (·.1))).G t).top=[]:=λt=>by
   simp only[Cx.bh];split
   ·exact .inr rfl
   ·exact .inl rfl
  have oY:∀t∈Dq bs,(c.bh (fz.map (·.1))).G t=c.G t:=λt ht=>by simp only[Cx.bh];rw[if_neg];intro hh;exact Gk t (K4 t hh) ht
  have cG:∀t∈Dq bs,(c.bh (fz.map (·.1))).E t=c.E t:=λt ht=>by simp only[Cx.bh];rw[if_neg];intro hh;exact Gk t (K4 t hh) ht
  have Xs:hs.Nodup:=by
   rw[q3];have:∀l:List Nat,l.Nodup->(l.flatMap λt=>(c.G t).top).Nodup:=by
    intro l
    induction l with
    |nil=>intro _;simp
    |cons t l ih=>intro hl;rw[List.nodup_cons]at hl;rw[List.flatMap_cons,List.nodup_append];refine⟨(List.nodup_append.1 (h.rel.gw.nodup t)).1,ih hl.2,λx hx y hy Gy=> ?_⟩;subst Gy;obtain⟨u,hu,XJ⟩:=List.mem_flatMap.1 hy;exact h.rel.gw.cc t u (λhh=>hl.1 (hh▸hu)) x (by simp[GI.own,hx]) (by simp[GI.own,XJ])
   exact this _ QH
  have Iy:∀b∈hs,∃t∈Dq bs,b∈(c.G t).top:=λb hb=>by rw[q3]at hb;exact List.mem_flatMap.1 hb
  have FI:∀b∈hs,b∉rf:=λb hb hr=>by
   obtain⟨t,ht,Cz⟩:=Iy b hb;rcases q2 b hr with hh|⟨u,hu,Hq⟩
   ·exact hh.1 ⟨t,Cz⟩
   ·exact h.rel.gw.cc t u (λhh=>Gk u hu (hh▸ht)) b (by simp[GI.own,Cz]) (by simp[GI.own,Hq])
  have Iq:∀b∈hs,b∉lf:=λb hb hr=>by
   obtain⟨t,ht,Cz⟩:=Iy b hb;rcases qz b hr with(hh|⟨u,hu,Hq⟩)|⟨h1,h2⟩
   ·exact hh.1 ⟨t,Cz⟩
   ·exact h.rel.gw.cc t u (λhh=>JW u hu (hh▸ht)) b (by simp[GI.own,Cz]) (by simp[GI.own,Hq])
   ·rcases h.rel.gw.allow t b (by simp[GI.own,Cz])with k|k
    ·have:c.w0.heap.size<=b:=k;omega
    ·exact h2 k
  have EY:∃(val:SV) (l:List (Nat × Ah)),e={call:=some ⟨.inl g,es⟩,val:=val,a6:=fz++(Sw gs l++after P nv (nx+((DE fn s).flatMap (A5 P)).length) bs 0)}/\
    ∀(R:AV) (w':World) (v:Value) (f1 o1:List Nat),JP P w' (DE fn s) s.res v R f1 o1->(if HN bs=0 then E.var nv else .proj (.var nv) 0).den c.ρ=R-> ∃recs:List AM,l=recs.map AM.pair/\recs.flatMap AM.top=o1/\(∀r∈recs,nx<=r.tag/\r.tag<nx+((DE fn s).flatMap (A5 P)).length/\r.new.isSome)/\(recs.map AM.tag).Nodup/\
     (∀r∈recs,∀hs f,r.a6≠ .gd hs f)/\ ∀c',EJ c c' w' recs->(∀b∈f1,c'.ok b)->SR c' [val] [v]/\ ∀r∈recs,C3 c' r.tag r.a6:=by
   have BI:∀{l:List (Nat × Ah)} {recs:List AM},l=recs.map AM.pair->(∀t x,(t,x)∈l-> ∀hs f,x≠ .gd hs f)-> ∀r∈recs,∀hs f,r.a6≠ .gd hs f:=by rintro l recs rfl hh r hr;exact hh r.tag r.a6 (List.mem_map.2 ⟨r,hr,rfl⟩)
   have fvne:∀(t:TypeId) (k:Nat) (fl:List Bool) (x:E) (u:Nat) (y:Ah),(u,y)∈(Nb P k t fl x).2-> ∀hs f,y≠ .gd hs f:=by
    intro t k fl x u y hy hs f;unfold Nb at hy;split at hy
    ·exact M1 _ _ _ _ _ hy
    ·simp at hy
   split at he
   ·rename_i t QZ;simp only[Af]at he;subst he;refine⟨_,_,rfl,λR w' v f1 o1 hr hR=> ?_⟩;rw[QZ]at hr;obtain⟨recs,e1,e2,e3,e4,e5⟩:=fK (c:=c) (nx:=nx) (x:=if HN bs=0 then E.var nv else .proj (.var nv) 0) (show F0 P w' t s.res v R f1 o1 from hr) hR;exact⟨recs,e1,e2,by simpa[QZ]using e3,e4,BI e1 (fvne _ _ _ _),e5⟩
   ·rename_i QZ;simp only[Af]at he;subst he;refine⟨_,_,rfl,λR w' v f1 o1 hr hR=> ?_⟩;obtain⟨vs,ys,rfl,rfl,hv⟩:∃vs ys,v= .tuple vs.toArray/\R= .tup ys/\KR P w' (DE fn s) s.res vs ys f1 o1:=by
     unfold JP at hr;split at hr
     ·rename_i t ht;exact absurd ht (QZ t)
     ·exact hr
    obtain⟨recs,e1,e2,e3,e4,e5⟩:=w5 (c:=c) (x:=if HN bs=0 then E.var nv else .proj (.var nv) 0) hv nx 0 (λk y hy=>by show AV.proj ((if HN bs=0 then E.var nv else .proj (.var nv) 0).den c.ρ) (0+k)=y;rw[hR];simp[AV.proj,hy])
    have fvsne:∀(ts:List TypeId) (k:Nat) (fl:List Bool) (x:E) (i u:Nat) (y:Ah),(u,y)∈(LA P k ts fl x i).2-> ∀hs f,y≠ .gd hs f:=by
     intro ts
     induction ts with
     |nil=>intro k fl x i u y hy;simp[LA]at hy
     |cons t ts ih=>
      intro k fl x i u y hy;simp only[LA,Ag]at hy;rcases hy with hy|hy
      ·exact fvne _ _ _ _ _ _ hy
      ·exact ih _ _ _ _ _ _ hy
    exact⟨recs,e1,e2,e3,e4,BI e1 (fvsne _ _ _ _ _),λc' ha AR=>⟨.tup (by rw[Bp.ak];exact(e5 c' ha AR).1) .nil,(e5 c' ha AR).2⟩⟩
  obtain⟨val,l,rfl,ML⟩:=EY;obtain⟨r,hr,AR⟩:=A9 _ rfl;have MK:∃s',sg g=some s'/\PY P s' g ((EL.of es).den c.ρ) r:=by have AR:Cw P sg g ((EL.of es).den c.ρ) r:=AR;unfold Cw at AR;rwa[if_pos hg]at AR
  obtain⟨s',Bd,fn',Iu,DO,Ei,Bq,_,_,Fl⟩:=MK;rw[IJ]at Bd;cases Bd;rw[FJ]at Iu;cases Iu;rw[EL.c8]at Fl;have A9:=Fl c.w _ rf lf hs q1 FI Iq Xs (h.rel.l5 λb hb=>by obtain⟨t,_,ht⟩:=Iy b hb;exact⟨t,ht⟩);have ex:(execOp a.eval o).run P c.w= .ok (.enter g (cl.args.map a.eval++capv.toArray)) c.w:=by
   have hb:fn.body.isNone=false:=by simpa using DO
   simp only[execOp,ho,resolve,AF,WE,Deferred.ofValue,Sem.run_bind,Sem.run_pure,Result.andThen_ok,invoke,callFunc,run_program,FJ];simp[Ei,hb]
  intro next Q hk
  unfold Oper.wp;rw[ex,Oper.upon_enter];have Mg:cl.args.map a.eval++capv.toArray=((cl.args.toList.map a.eval)++capv).toArray:=by apply Array.ext';simp
  rw[Mg];refine A9.mono ?_;rintro e' w' ⟨v,rfl,⟨R,Bs,f1,o1,f2,o2,Kb,AQ,EX,Gu,QK,Qo⟩,Cq⟩;show next (a.put o.dst v) w'
  have oW:∀k y,Bs[k]?=some y->(E.proj (.var nv) (0+k+1)).den c.ρ=y:=by
   intro k y hy;cases Bs with
   |nil=>simp at hy
   |cons B Bs=>simp only[E.den,hr,BC,Kb,AV.proj,Nat.zero_add,List.getElem?_cons_succ,hy]
  obtain⟨QE,recsB,hB⟩:=ztm (w':=w') q4 hK (r:=nv) (nx+((DE fn s).flatMap (A5 P)).length) 0 EX oW;have hR:(if HN bs=0 then E.var nv else .proj (.var nv) 0).den c.ρ=R:=by
   cases Bs with
   |nil=>rw[if_pos (by simpa using QE.symm)];simp only[E.den,hr,BC,Kb]
   |cons B Bs=>rw[if_neg (by rw[<-QE];simp)];simp[E.den,hr,Kb,AV.proj]
  obtain⟨recsV,v1,v2,v3,v4,v5,v6⟩:=ML R w' v f1 o1 AQ hR;have FO:∀t,nx<=t->t<nx+(((DE fn s).flatMap (A5 P)).length+JC P bs)-> ¬c.U t:=λt h1 h2=>h.new t h1 (by omega);have P4:=hB.nodup QH λt h1 h2=>FO t (by omega) (by omega);have CJ:((recsV++recsB).map AM.tag).Nodup:=by
   rw[List.map_append,List.nodup_append];refine⟨v4,P4,λt1 h1 t2 h2 he=> ?_⟩;obtain⟨p1,Xf,rfl⟩:=List.mem_map.1 h1;obtain⟨p2,NS,rfl⟩:=List.mem_map.1 h2;have a1:=v3 p1 Xf;cases hn:p2.new with
   |none=>exact FO p1.tag (by omega) (by omega) (he▸(hB.old p2 NS hn).2)
   |some _=>have:=hB.new p2 NS (by simp[hn]);omega
  have GU:∀r∈recsV++recsB,r.new.isSome=true->nx<=r.tag/\r.tag<nx+(((DE fn s).flatMap (A5 P)).length+JC P bs):=λr hr hn=>by
   rcases Ag.1 hr with hr|hr
   ·have:=v3 r hr;omega
   ·have:=hB.new r hr hn;omega
  have En:((recsV++recsB).flatMap AM.top).Sublist (o1++o2):=by rw[List.flatMap_append,v2];exact(List.Sublist.refl _).append hB.kt
  have WM:∀b∈hs,∃r∈recsV++recsB,b∈(c.G r.tag).top:=λb hb=>by obtain⟨t,ht,Cz⟩:=Iy b hb;obtain⟨r,hr,rfl⟩:=hB.all t ht;exact⟨r,by simp[hr],Cz⟩
  have Qv:∀b∈hs,∃r∈recsV++recsB,b∈((c.bh (fz.map (·.1))).G r.tag).top:=λb hb=>by obtain⟨t,ht,Cz⟩:=Iy b hb;obtain⟨r,hr,rfl⟩:=hB.all t ht;exact⟨r,by simp[hr],by rw[oY _ ht];exact Cz⟩
  have Em:∀r∈recsV++recsB,∀b∈r.top,b∈o1++o2:=λr hr b hb=>En.subset (List.mem_flatMap.2 ⟨r,hr,hb⟩);have MH:∀b∈f1++f2,((c.bh (fz.map (·.1))).dc w' (recsV++recsB)).ok b:=by
   cases Tj:(Dc P (DE fn s) s.res||DP P bs)with
   |false=>
    simp only[Bool.or_eq_false_iff]at Tj;have F3:SF P (DE fn s) s.res R=true/\Hj P (Ew fn s++s.ft) s.cf Bs=true:=by
     unfold Nl at Bq;cases Ma:Bs with
     |nil=>
      rw[if_neg (by rw[(Y5 EX).1 Ma];simp)]at Bq;rw[Ma]at Kb;rw[Kb]at Bq;refine⟨Bq,?_⟩;have:∀(ts:List TypeId) (ms:List PM),Hj P ts ms []=true:=by
       intro ts
       induction ts with
       |nil=>intro ms;rfl
       |cons t ts ih=>
        intro ms;unfold Hj;split
        ·exact ih _
        ·exact ih _
        ·exact ih _
        ·split
         ·rename_i hh;cases hh
         ·simpa using ih _
      exact this _ _
     |cons B Bs'=>
      rw[if_pos (by
       cases hh:Bm (Ew fn s++s.ft) s.cf with
       |true=>rfl
       |false=>rw[(Y5 EX).2 hh]at Ma;cases Ma)]at Bq
      rw[Kb,Ma]at Bq;simpa using Bq
    have e1:f1=[]:=AQ.flat Tj.1 F3.1;have e2:f2=[]:=DA.flat q4 EX Tj.2 F3.2;subst e1;subst e2;simp
   |true=>rw[Tj]at Hz Gp;simp only[Bool.true_and,Bt,Bool.not_eq_false]at Hz;simp only[if_true]at Gp;exact ztD (rf:=rf) h.rel.gw P5 rfl rfl rfl h.rel.base.size CJ Em WM (λb hb=>RH h.rel h.eh h.gs Gp (by simpa using Hz) (q2 b hb)) Qo
  have Qm:after P nv (nx+((DE fn s).flatMap (A5 P)).length) bs 0=recsB.map λr=>(r.tag,CC gs r.a6):=by
   cases Mj:bs with
   |nil=>
    have:=hB.ents;rw[Mj]at this;simp only[after]at this;have:recsB=[]:=by simpa using this.symm
    rw[this];rfl
   |cons b bs'=>have EO:=q6 (by rw[Mj];simp);rw[<-Mj,hB.ents,EO];rfl
  have Bk:Sw gs l++after P nv (nx+((DE fn s).flatMap (A5 P)).length) bs 0=(recsV++recsB).map λr=>(r.tag,CC gs r.a6):=by rw[Qm,List.map_append];congr 1;rw[v1];simp[Sw,AM.pair]
  obtain⟨E0,BQ⟩:=C4.changes (w':=w') (recs:=recsV++recsB) (hs:=hs) (gs:=gs) h.gs Cq CJ (λr hr hn=>by have:=GU r hr hn;exact FO _ this.1 this.2) Qv (En.nodup Gu) (λr hr b hb=>QK b (Em r hr b hb))
   (λr hr=>by
    rcases Ag.1 hr with hr|hr
    ·exact v5 r hr
    ·exact hB.ne r hr)
   (λ_ r hr=>by
    have aft:=Cx.c9 (c:=c.bh (fz.map (·.1))) (w':=w') (recs:=recsV++recsB) h.rel.bc CJ (λr hr hn=>by have:=GU r hr hn;exact FO _ this.1 this.2);have aft':EJ c ((c.bh (fz.map (·.1))).dc w' (recsV++recsB)) w' (recsV++recsB):=⟨aft.ρ,aft.w,aft.G,aft.new,aft.K,aft.old,aft.ia,λr hr DL=>(aft.fu r hr DL).trans (by
     rcases Ag.1 hr with hr|hr
     ·have:=(v3 r hr).2.2;rw[DL]at this;cases this
     ·rw[cG _ (hB.old r hr DL).1])⟩
    rcases Ag.1 hr with hr|hr
    ·exact(v6 _ (aft'.mono λr hr=>by simp[hr]) λb hb=>MH b (by simp[hb])).2 r hr
    ·exact hB.ok _ (aft'.mono λr hr=>by simp[hr]) (λb hb=>MH b (by simp[hb])) r hr)
  have aft:=Cx.c9 (c:=c.bh (fz.map (·.1))) (w':=w') (recs:=recsV++recsB) h.rel.bc CJ (λr hr hn=>by have:=GU r hr hn;exact FO _ this.1 this.2);have aft':EJ c ((c.bh (fz.map (·.1))).dc w' (recsV++recsB)) w' (recsV++recsB):=⟨aft.ρ,aft.w,aft.G,aft.new,aft.K,aft.old,aft.ia,λr hr DL=>(aft.fu r hr DL).trans (by
     rcases Ag.1 hr with hr|hr
     ·have:=(v3 r hr).2.2;rw[DL]at this;cases this
     ·rw[cG _ (hB.old r hr DL).1])⟩
  have IN:=(v6 _ (aft'.mono λr hr=>by simp[hr]) λb hb=>MH b (by simp[hb])).1;rw[<-Bk,<-Ng]at E0;refine hk _ ((c.bh (fz.map (·.1))).dc w' (recsV++recsB)) ⟨rfl,rfl,rfl,rfl,λt ht=> ?_⟩ (E0.put (IN.mkGd gs h.gs) o.dst);rcases ht with ht|⟨r,hr,rfl⟩
  ·exact .inl ht
  ·cases hn:r.new with
   |none=>
    rcases Ag.1 hr with hr|hr
    ·have:=(v3 r hr).2.2;rw[hn]at this;cases this
    ·exact .inl (hB.old r hr hn).2
   |some _=>have:=GU r hr (by simp[hn]);exact .inr ⟨this.1,by simp only[Bx];omega⟩
 ·cases he
end
def B6(c:Cx)(us:List Nat):List Nat:=us.flatMap λt=>(c.G t).top
theorem Zc(c:Cx):B6 c []=[]:=rfl
theorem U0(c:Cx)(u:Nat)(us:List Nat):B6 c (u::us)=(c.G u).top++B6 c us:=by simp[B6]
theorem IZ(c:Cx)(us vs:List Nat):B6 c (us++vs)=B6 c us++B6 c vs:=by simp[B6]
theorem OY{c:Cx}{us:List Nat}{b:Nat}:b∈B6 c us↔ ∃t∈us,b∈(c.G t).top:=by simp[B6]
theorem Uy{c:Cx}(gw:GW c):∀{l:List Nat},l.Nodup->(B6 c l).Nodup
 | [],_=>by simp[B6]
 |t::l,hl=>by
  rw[U0,List.nodup_append];rw[List.nodup_cons]at hl;refine⟨?_,Uy gw hl.2,λa ha b hb GO=> ?_⟩
  ·have:=gw.nodup t;simp only[GI.own]at this;exact(List.nodup_append.1 this).1
  ·subst GO;obtain⟨u,hu,Hq⟩:=OY.1 hb;exact gw.cc t u (λhh=>hl.1 (hh▸hu)) a (by simp[GI.own,ha]) (by simp[GI.own,Hq])
section
variable {P:Program} {c:Cx} {hp:Nat->Option Ah} {gs:Gd}
theorem Z7{m:Nat}{u g:Nat}{x y:E}(hx:Bj hp gs m (.own u g)=some x)(hy:HE hp gs u g=some y):x=y:=by
 cases m with
 |zero=>simp[Bj]at hx
 |succ m=>simp only[Bj,hy,Af]at hx;exact hx.symm
theorem lI{m:Nat}{x:E}(h:Bj hp gs m .emp=some x):x= .lst .nil:=by
 cases m with
 |zero=>simp[Bj]at h
 |succ m=>simp[Bj]at h;exact h.symm
theorem zH(eh:EH c hp)(k:Bc c.ρ gs){d:DT}{s:SV}{us:List Nat}{ck:List Cn}{v:Value}{x:E}{m:Nat}(h:bA hp gs d s=some (us,ck))(hs:SR c [s] [v])(hx:Bj hp gs m s=some x)(hc:∀q∈ck,q.den c.ρ):
  DC c.w [d] [v] [x.den c.ρ] (B6 c us)/\ ∀u∈us,∃g,c.K u g:=by
 unfold bA at h;split at h
 ·rename_i y;simp only[Af,AO]at h;obtain⟨rfl,rfl⟩:=h;rw[JA hx];cases hs with
  |e h1 h2 h3=>
   rename_i f;have DM:(y.den c.ρ).scalar=true:=by
    cases hl:SI y with
    |true=>cases y<;>simp[SI]at hl<;>rfl
    |false=>rw[hl]at hc;exact(BG hc).2.2.2 rfl
   have hf:f=[]:=Ha h1 (by simpa using DM);subst hf;exact⟨.flat h1 .nil,by simp⟩
 ·split at h
  ·rename_i hh;simp only[Af,AO]at h;obtain⟨rfl,rfl⟩:=h;rw[Kw hx];cases hs with
   |bq _=>exact⟨.void hh.1 hh.2 .nil,by simp⟩
  ·cases h
 ·split at h
  ·rename_i hh;simp only[Af,AO]at h;obtain⟨rfl,rfl⟩:=h;rw[lI hx];cases hs with
   |emp _=>exact⟨.void hh.1 hh.2 .nil,by simp⟩
  ·cases h
 ·rename_i e z l u g;split at h
  ·rename_i e' z' l' g' ep y hl;split at h
   ·rename_i hh;obtain⟨rfl,rfl,rfl,hb⟩:=hh;simp only[Af,AO]at h;obtain⟨rfl,rfl⟩:=h;obtain⟨q1,q2,q3,q4,q5⟩:=eh u _ (Cv hl k);rw[Z7 (y:=y) hx (by simp only[HE,hl,if_true])];have hb:=AG.of_eq hb;subst hb;rw[AG.cj]at q4;cases hs with
    |own k1 k2 _=>rw[k2]at q4;exact⟨by rw[U0,Zc,AJ];exact q4,λw hw=>by simp at hw;subst hw;exact⟨_,k1⟩⟩
   ·cases h
  ·rename_i e' z' g' y hl;split at h
   ·rename_i hh;obtain⟨rfl,rfl,rfl,hf,hlen⟩:=hh;simp only[Af,AO]at h;obtain⟨rfl,rfl⟩:=h;obtain⟨q1,q2,N,q4,q5,q6,q7⟩:=eh u _ (Cv hl k);obtain⟨hN,_⟩:=q6 rfl;have hN:N=[]:=hN;subst hN;rw[Z7 (y:=y) hx (by simp only[HE,hl,if_true])];cases hs with
    |own k1 k2 _=>rw[k2]at q4;exact⟨by rw[U0,Zc,AJ];exact DC.jy q4 hf hlen,λw hw=>by simp at hw;subst hw;exact⟨_,k1⟩⟩
   ·cases h
  ·cases h
 ·cases h
theorem YX(eh:EH c hp)(k:Bc c.ρ gs):∀(ds:List DT) {ss:List SV} {us:List Nat} {ck:List Cn} {vs:List Value} {xs:EL} {m:Nat},LM hp gs ds ss=some (us,ck)->SR c ss vs->Cm hp gs m ss=some xs->(∀q∈ck,q.den c.ρ)->
  DC c.w ds vs (xs.den c.ρ) (B6 c us)/\ ∀u∈us,∃g,c.K u g
 | [],[],us,ck,vs,xs,m,h,hs,hx,hc=>by
  simp[LM]at h;obtain⟨rfl,rfl⟩:=h;cases hs;cases m with
  |zero=>simp[Cm]at hx
  |succ m=>simp[Cm]at hx;subst hx;exact⟨.nil,by simp⟩
 | [],_::_,us,ck,vs,xs,m,h,hs,hx,hc=>by simp[LM]at h
 |_::_,[],us,ck,vs,xs,m,h,hs,hx,hc=>by simp[LM]at h
 |d::ds,s::ss,us,ck,[],xs,m,h,hs,hx,hc=>by have:=hs.len;simp at this
 |d::ds,s::ss,us,ck,v::vs,xs,m,h,hs,hx,hc=>by
  obtain⟨j,y,ys,rfl,hy,CX,rfl⟩:=Jw hx;obtain⟨r1,r2⟩:=hs.bu;unfold LM at h;split at h
  ·rename_i us1 ck1 us2 ck2 h1 h2;simp only[Af,AO]at h;obtain⟨rfl,rfl⟩:=h;obtain⟨q1,q2⟩:=zH eh k h1 r1 hy λq hq=>hc q (by simp[hq]);obtain⟨q3,q4⟩:=YX eh k ds h2 r2 CX λq hq=>hc q (by simp[hq]);refine⟨by rw[IZ];exact q1.app q3,λu hu=> ?_⟩;rcases Ag.1 hu with hu|hu
   ·exact q2 u hu
   ·exact q4 u hu
  ·cases h
theorem gA(eh:EH c hp)(k:Bc c.ρ gs){t:TypeId}{ds:List DT}{s:SV}{us:List Nat}{ck:List Cn}{v:Value}{x:E}(Gl:ds.length=P.cellsOf t)(hg:An P t=true\/P.cellsOf t=1)(h:PD P hp gs t ds s=some (x,us,ck))(hs:SR c [s] [v])(hc:∀q∈ck,q.den c.ρ):
  DC c.w ds v.cells.toList (x.den c.ρ).cells (B6 c us)/\(∀u∈v.cells.toList,u.oneCell'=true)/\(x.den c.ρ).cells.length=P.cellsOf t/\v.cells.size=P.cellsOf t/\
   (if An P t then∃cs,x.den c.ρ= .agg cs else(∀cs,x.den c.ρ≠ .agg cs)/\ ∀cs,x.den c.ρ≠ .tup cs)/\ ∀u∈us,∃g,c.K u g:=by
 unfold PD at h;split at h
 ·cases h
 rename_i y hy;split at h
 ·rename_i F3;simp only[Af,AO]at h;obtain⟨rfl,rfl,rfl⟩:=h;obtain⟨f,q1,q2⟩:=Hd eh k AW hy hs AW (Ay _);obtain⟨c1,c2,c3,c4⟩:=BG hc;have EY:if An P t then∃cs,y.den c.ρ= .agg cs/\cs.length=P.cellsOf t else(∀cs,y.den c.ρ≠ .agg cs)/\ ∀cs,y.den c.ρ≠ .tup cs:=by
   split
   ·rename_i Az;obtain⟨cs,Bi⟩:=c3 Az;exact⟨cs,Bi,by rw[Bi]at c1;exact c1⟩
   ·rename_i Az;have:=c4 (by simpa using Az);exact⟨λcs Bi=>by rw[Bi]at this;simp[AV.scalar]at this,λcs Bi=>by rw[Bi]at this;simp[AV.scalar]at this⟩
  have hf:f=[]:=by
   cases cV:An P t with
   |true=>obtain⟨cs,Bi⟩:=c3 cV;obtain⟨as_,rfl,_,r⟩:=Jc q1 Bi;exact Ha r (by rw[Bi]at c2;exact c2)
   |false=>exact Ha q1 (by simpa using c4 cV)
  subst hf;obtain⟨o1,o2,o3,o4⟩:=Zp (P:=P) q1 hg EY;refine⟨DC.k8 o1 F3 (by rw[Gl];simpa using o4.symm),o2,o3,o4,?_,by simp⟩;split at EY
  ·rename_i Az;rw[if_pos Az];obtain⟨cs,Bi,_⟩:=EY;exact⟨cs,Bi⟩
  ·rename_i Az;rw[if_neg Az];exact EY
 ·rename_i FP;split at h
  ·cases h
  rename_i Az;have Az:(G9 s).2=An P t:=by simpa using Az
  obtain⟨⟨us',ck'⟩,hr,h⟩:=Aq.1 h;simp only[AO]at h;obtain⟨rfl,rfl,rfl⟩:=h;have single:An P t=false->LM hp gs ds [s]=some (us',ck')->DC c.w ds v.cells.toList (y.den c.ρ).cells (B6 c us')/\(∀u∈v.cells.toList,u.oneCell'=true)/\(y.den c.ρ).cells.length=P.cellsOf t/\v.cells.size=P.cellsOf t/\
   (if An P t then∃cs,y.den c.ρ= .agg cs else(∀cs,y.den c.ρ≠ .agg cs)/\ ∀cs,y.den c.ρ≠ .tup cs)/\ ∀u∈us',∃g,c.K u g:=by
   intro Az hr;have Ba:Cm hp gs (AW+1) [s]=some (.cons y .nil):=by unfold Cm;rw[hy];rfl
   obtain⟨q1,q2⟩:=YX eh k ds hr hs Ba hc;have cT:=q1.len;simp only[EL.den,Ao,List.length_nil]at cT
   match ds,cT,q1,FP,Gl with
   | [d],_,q1,FP,Gl=>
    cases d with
    |flat=>simp[DT.bj]at FP
    |row e z l=>
     obtain⟨p,q,r,rfl⟩:=q1.head;obtain⟨xs,B9⟩:∃xs,y.den c.ρ= .sl xs:=by
      obtain⟨_,_,⟨_,_,hx,_⟩|⟨_,_,_,_,_,_,hx,_⟩⟩:=q1.inv
      ·exact⟨_,hx⟩
      ·exact⟨_,hx⟩
     rw[if_neg (by rw[Az];simp)];refine⟨?_,by simp[Value.cells,Value.oneCell'],by rw[B9,<-Gl];rfl,by rw[<-Gl];rfl,?_,q2⟩
     ·simp only[EL.den]at q1;rw[B9]at q1 ⊢;exact q1
     ·rw[B9];exact⟨λcs hh=>(by cases hh),λcs hh=>(by cases hh)⟩
  cases s with
  |agg cs=>
   simp only[G9]at Az hr;obtain⟨m,l,hm,hl,rfl⟩:=RW hy;cases hs with
   |agg h9 h1 h8=>rename_i as_;obtain⟨q1,q2⟩:=YX eh k ds hr h1 hl hc;obtain⟨l1,l2⟩:=q1.len;rw[if_pos Az.symm];exact⟨by simpa[Value.cells,AV.cells,E.den]using q1,by simpa[Value.cells]using h9,by simp only[E.den,AV.cells];omega,by simp[Value.cells];omega,⟨_,rfl⟩,q2⟩
  |_=>exact single Az.symm hr
theorem fI(eh:EH c hp)(k:Bc c.ρ gs){t:TypeId}{ds:List DT}(Gl:ds.length=P.cellsOf t)(hg:An P t=true\/P.cellsOf t=1):∀(ss:List SV) (vs:List Value) {xs:List E} {us:List Nat} {ck:List Cn},SR c ss vs->RZ P hp gs t ds ss=some (xs,us,ck)->(∀q∈ck,q.den c.ρ)->
  DC c.w (Ci vs.length ds) (vs.flatMap λv=>v.cells.toList) (AA (xs.map (E.den c.ρ))) (B6 c us)/\(∀v∈vs,v.cells.size=P.cellsOf t/\ ∀u∈v.cells.toList,u.oneCell'=true)/\(∀x∈xs,(x.den c.ρ).cells.length=P.cellsOf t)/\xs.length=vs.length/\ ∀u∈us,∃g,c.K u g
 | [],vs,xs,us,ck,hr,ht,hc=>by simp[RZ]at ht;obtain⟨rfl,rfl,rfl⟩:=ht;cases hr;exact⟨by simpa[AA,Ci,B6]using DC.nil,by simp,by simp,rfl,by simp⟩
 |s::ss,[],xs,us,ck,hr,ht,hc=>by have:=hr.len;simp at this
 |s::ss,v::vs,xs,us,ck,hr,ht,hc=>by
  obtain⟨r1,r2⟩:=hr.bu;unfold RZ at ht;split at ht
  ·rename_i x us1 ck1 xs2 us2 ck2 h1 h2;simp only[Af,AO]at ht;obtain⟨rfl,rfl,rfl⟩:=ht;obtain⟨q1,q2,q3,q4,q5,q6⟩:=gA eh k Gl hg h1 r1 (λq hq=>hc q (by simp[hq]));obtain⟨p1,p2,p3,p4,p5⟩:=fI eh k Gl hg ss vs r2 h2 (λq hq=>hc q (by simp[hq]));refine⟨?_,?_,?_,by simp[p4],?_⟩
   ·have:=q1.app p1;rw[Ao,Na,IZ];simpa[AA]using this
   ·intro u hu;rcases Ad.1 hu with rfl|hu
    ·exact⟨q4,q2⟩
    ·exact p2 u hu
   ·intro u hu;rcases Ad.1 hu with rfl|hu
    ·exact q3
    ·exact p3 u hu
   ·intro u hu;rcases Ag.1 hu with hu|hu
    ·exact q6 u hu
    ·exact p5 u hu
  ·cases ht
theorem gS(eh:EH c hp)(k:Bc c.ρ gs){e z:Nat}{l:List DT}{s:SV}{us:List Nat}{v:Value}{y:E}{m:Nat}(h:Sr hp gs e z l s=some us)(hs:SR c [s] [v])(hy:Bj hp gs m s=some y):
  ∃ys q r news N,y.den c.ρ= .sl ys/\v= .slice q ys.length r/\Src c.w z q ys.length news/\DC c.w (Ci ys.length l) news (AA ys) N/\N.Sublist (B6 c us)/\(∀y∈ys,y.cells.length=z)/\(∀u∈news,u.oneCell'=true)/\ ∀u∈us,∃g,c.K u g:=by
 have empt:∀q,v= .slice q 0 0->y= .lst .nil->us=[]-> ∃ys q r news N,y.den c.ρ= .sl ys/\v= .slice q ys.length r/\Src c.w z q ys.length news/\DC c.w (Ci ys.length l) news (AA ys) N/\N.Sublist (B6 c us)/\(∀y∈ys,y.cells.length=z)/\(∀u∈news,u.oneCell'=true)/\ ∀u∈us,∃g,c.K u g:=by
  rintro q rfl rfl rfl;refine⟨[],q,0,[],[],rfl,rfl,?_,by simpa[Ci,AA]using DC.nil,by simp,by simp,by simp,by simp⟩;cases q with
  |none=>exact .inl ⟨rfl,rfl,rfl⟩
  |some p=>exact .inr ⟨p,rfl,by simp,by simp,by simp⟩
 unfold Sr at h;split at h
 ·simp only[Af]at h;cases hs with
  |bq _=>exact empt _ rfl (Kw hy) h.symm
 ·simp only[Af]at h;cases hs with
  |emp _=>exact empt _ rfl (lI hy) h.symm
 ·rename_i u g;split at h
  ·rename_i e' z' l' g' ep x hl;split at h
   ·rename_i hh;obtain⟨rfl,rfl,rfl,hb⟩:=hh;simp only[Af]at h;subst h;have hb:=AG.ej hb;subst hb;obtain⟨q1,q2,q3,q4,q5⟩:=eh u _ (Cv hl k);have HC:=Z7 (y:=x) hy (by simp only[HE,hl,if_true]);subst HC;cases hs with
    |own k1 k2 k3=>
     rename_i p0 n0 r0;rw[k2]at q4;have hK:∀w∈ [u],∃g,c.K w g:=λw hw=>by simp at hw;subst hw;exact⟨_,k1⟩
     obtain⟨d1,d2,⟨a9,d3,d4,d5⟩|⟨g9,cap,C,ys,N1,d3,d4,d5,d6,d7,d8,d9,d10,d11,d12⟩⟩:=q4.inv
     ·cases d3;refine⟨[],_,0,[],[],d4,rfl,?_,by simpa[Ci,AA]using DC.nil,by simp,by simp,by simp,hK⟩;cases p0 with
      |none=>exact .inl ⟨rfl,rfl,rfl⟩
      |some p=>exact .inr ⟨p,rfl,by simp,by simp,by simp⟩
     ·cases d3;rw[AG.ak]at d12;have Du:C.toList.length=r0*z:=by simpa using d9
      refine⟨ys,_,r0,_,N1,d4,rfl, .inr ⟨_,rfl,?_,λj w hw=> ?_,d11⟩,d12,?_,d10,d11,hK⟩
      ·rw[A1,Du];exact Nat.min_eq_left (BB _ d7)
      ·rw[Addr.add_lit,Nat.zero_add,D5 d6];rw[List.getElem?_take]at hw;split at hw
       ·simpa using hw
       ·cases hw
      ·rw[U0,Zc,AJ,d5];exact List.sublist_cons_self _ _
   ·cases h
  ·cases h
 ·cases h
end
def FD(T:List Nat):List AM:=T.map λu=>⟨u,none,[], .dead⟩
theorem zuF(T:List Nat):(FD T).flatMap AM.top=[]:=by induction T<;>simp_all[FD]
theorem zvu(T:List Nat):(FD T).map AM.tag=T:=by induction T<;>simp_all[FD]
theorem zY(T:List Nat):((FD T).map λr=>(r.tag,CC [] r.a6))=D2 T:=by simp[FD,D2,CC]
theorem RP{T:List Nat}{r:AM}(h:r∈FD T):r.tag∈T/\r.new=none/\r.top=[]/\r.a6= .dead:=by obtain⟨u,hu,rfl⟩:=List.mem_map.1 h;exact⟨hu,rfl,rfl,rfl⟩
section
variable {P:Program} {c:Cx} {n nx:Nat} {sl sl0:Nat->SV} {hp hp0:Nat->Option Ah} {a:Act} {o:Oper} {gs:Gd} {e:A2} {sg:BR} {nv:Nat}
theorem Rel.j0(h:Rel c n sl hp a){T:List Nat}(hT:T.Nodup)(F1:∀u∈T,c.U u){r0:AM}(F7:r0.tag∉T)(GX:r0.new.isSome=true-> ¬c.U r0.tag)(Dy:r0.new=none->c.U r0.tag){w':World}{hs:List Nat}(Gs:∀b∈hs,b∈(c.G r0.tag).top\/b∈B6 c T)(hm:Mod hs c.w w')
  (B8:r0.top.Nodup) (BS:∀b∈r0.top,(b∈hs\/c.w.heap.size<=b)/\b<w'.heap.size) (BI:∀q f,r0.a6≠ .gd q f)
  (he:DD c (c.dc w' (r0::FD T))->EJ c (c.dc w' (r0::FD T)) w' (r0::FD T)->C3 (c.dc w' (r0::FD T)) r0.tag r0.a6):
  Rel (c.dc w' (r0::FD T)) n sl (A8 hp ((r0.tag,r0.a6)::D2 T)) a/\DD c (c.dc w' (r0::FD T))/\EJ c (c.dc w' (r0::FD T)) w' (r0::FD T)/\ ∀t,(c.dc w' (r0::FD T)).U t->c.U t\/t=r0.tag:=by
 have hn:((r0::FD T).map AM.tag).Nodup:=by rw[List.map_cons,zvu];exact List.nodup_cons.2 ⟨F7,hT⟩
 have AZ:∀r∈r0::FD T,r.new.isSome=true-> ¬c.U r.tag:=λr hr hs=>by
  rcases Ad.1 hr with rfl|hr
  ·exact GX hs
  ·rw[(RP hr).2.1]at hs;cases hs
 have aft:=Cx.c9 (w':=w') h.bc hn AZ;obtain⟨q1,q2⟩:=h.changes (gs:=[]) (Et _) hm hn AZ (λb hb=>by
   rcases Gs b hb with hb|hb
   ·exact⟨r0,by simp,hb⟩
   ·obtain⟨t,ht,Cz⟩:=OY.1 hb;exact⟨⟨t,none,[], .dead⟩,List.mem_cons_of_mem _ (List.mem_map.2 ⟨t,ht,rfl⟩),Cz⟩)
  (by rw[List.flatMap_cons,zuF,AJ];exact B8)
  (λr hr b hb=>by
   rcases Ad.1 hr with rfl|hr
   ·exact BS b hb
   ·rw[(RP hr).2.2.1]at hb;cases hb)
  (λr hr=>by
   rcases Ad.1 hr with rfl|hr
   ·exact BI
   ·rw[(RP hr).2.2.2];intros;simp)
  (λhk r hr=>by
   rcases Ad.1 hr with rfl|hr
   ·exact he hk aft
   ·have kg:=aft.G r (List.mem_cons_of_mem _ hr);obtain⟨_,_,e1,e2⟩:=RP hr;rw[e2];exact⟨by rw[kg,e1],by rw[kg]⟩)
 refine⟨?_,q2,aft,λt ht=> ?_⟩
 ·rw[List.map_cons,zY]at q1;have:CC [] r0.a6=r0.a6:=rfl;rw[this]at q1;exact q1
 ·rcases ht with ht|⟨r,hr,rfl⟩
  ·exact .inl ht
  ·rcases Ad.1 hr with rfl|hr
   ·exact .inr rfl
   ·exact .inl (F1 _ (RP hr).1)
theorem Aw.ee(h:Bh P c n nx sl hp a sl0 hp0 o []){T:List Nat}(hT:T.Nodup)(F1:∀u∈T,∃g,c.K u g){v':Value}{w':World}{ck:List Cn}{e z:Nat}{l:List DT}{x:E}{top:List Nat}(hr:(execOp a.eval o).run P c.w= .ok (.value v') w')(hm:Mod (B6 c T) c.w w')
  (B8:top.Nodup) (BS:∀b∈top,(b∈B6 c T\/c.w.heap.size<=b)/\b<w'.heap.size) (hd:DC w' [.row e z (AG.of l)] [v'] [x.den c.ρ] top):
  Aw P o c n nx sl hp [] a {bg:=ck,val:= .own nx 0,a6:=(nx, .deep e z l 0 0 x)::D2 T}:=by
 intro next Q hk
 unfold Oper.wp;rw[hr,Oper.upon_value];have hU:=LF h;have JU:∀u∈T,c.U u:=λu hu=>by obtain⟨g,hg⟩:=F1 u hu;exact h.rel.bc _ _ hg
 obtain⟨q1,q2,q3,q4⟩:=h.rel.j0 (r0:=⟨nx,some v',top, .deep e z l 0 0 x⟩) hT JU (λhh=>hU (JU _ hh)) (λ_=>hU) (λhh=>by cases hh) (λb hb=> .inr hb) hm B8 BS (by intros;simp) (λ_ aft=>by obtain⟨k1,k2,k3⟩:=aft.new _ (List.mem_cons_self ..) v' rfl;have kg:=aft.G _ (List.mem_cons_self ..);have ke:=aft.ia _ (List.mem_cons_self ..) rfl;simp only at k1 k2 k3 kg ke;exact⟨k1,k2,ke,by rw[k3,kg,aft.w,aft.ρ];exact hd,by rw[kg]⟩)
 obtain⟨k1,k2,k3⟩:=q3.new _ (List.mem_cons_self ..) v' rfl;simp only at k1 k3;obtain⟨p,m,r,rfl⟩:=hd.head;refine hk _ (c.dc w' _) ⟨rfl,rfl,rfl,rfl,λt ht=> ?_⟩ (q1.put (SR.own k1 k3 .nil) o.dst);rcases q4 t ht with ht|rfl
 ·exact .inl ht
 ·exact .inr ⟨Ay _,by simp[Bx]⟩
theorem Aw.jo(h:Bh P c n nx sl hp a sl0 hp0 o []){T:List Nat}(hT:T.Nodup)(F1:∀u∈T,∃g,c.K u g){b g ep:Nat}(hb:b∉T)(hK:c.K b g)(EP:∀g',c.K b g'->g'<=g)(hE:c.E b=ep){w':World}{ck:List Cn}{e z:Nat}{l:List DT}{x:E}{top:List Nat}(hr:(execOp a.eval o).run P c.w= .ok .skip w'){hs:List Nat}(Gs:∀q∈hs,q∈(c.G b).top\/q∈B6 c T)(hm:Mod hs c.w w')
  (B8:top.Nodup) (BS:∀q∈top,(q∈hs\/c.w.heap.size<=q)/\q<w'.heap.size) (hd:DC w' [.row e z (AG.of l)] [c.H b g] [x.den c.ρ] top):
  Aw P o c n nx sl hp [] a {bg:=ck,a6:=(b, .deep e z l g (ep+1) x)::D2 T}:=by
 intro next Q hk
 unfold Oper.wp;rw[hr,Oper.upon_skip];have JU:∀u∈T,c.U u:=λu hu=>by obtain⟨g,hg⟩:=F1 u hu;exact h.rel.bc _ _ hg
 have Wi:=h.rel.bc _ _ hK;obtain⟨q1,q2,q3,q4⟩:=h.rel.j0 (r0:=⟨b,none,top, .deep e z l g (ep+1) x⟩) hT JU hb (λhh=>by cases hh) (λ_=>Wi) Gs hm B8 BS (by intros;simp) (λ_ aft=>by have kg:=aft.G _ (List.mem_cons_self ..);have ke:=aft.fu _ (List.mem_cons_self ..) rfl;obtain⟨k1,k2⟩:=aft.K b g hK;simp only at kg ke;exact⟨k1,λg' Cg=>EP g' (aft.old b Wi g' Cg),by rw[ke,hE],by rw[k2,kg,aft.w,aft.ρ];exact hd,by rw[kg]⟩)
 refine hk _ (c.dc w' _) ⟨rfl,rfl,rfl,rfl,λt ht=> ?_⟩ (q1.put ((SR.undef .nil).mkGd []) o.dst);rcases q4 t ht with ht|rfl
 ·exact .inl ht
 ·exact .inl Wi
theorem Zo{w w':World}{row:Option Nat}{S:List Nat}(h:w.grownBy w' row)(hr:∀g,row=some g->g∈S\/w.heap.size<=g):Mod S w w':=by
 refine⟨h.os,h.tape,h.output,h.size,λb hb hn=>h.block b hb λhh=> ?_⟩;rcases hr b hh.symm with h1|h1
 ·exact hn h1
 ·omega
theorem YI(h:Bh P c n nx sl hp a sl0 hp0 o []){x y:Operand}{tx:TypeId}{cl:Call}(ho:o.op= .call cl)(AF:cl.callee= .builtin .append)(CD:cl.args.toList=[x,y])(Dv:cl.argTypes.toList=[tx,tx])
  {el:TypeId} (Ba:P.underlying tx=some (.slice el)) (hz:GB P el=true) {l:List DT} (hl:l.length=P.cellsOf el) {T us:List Nat} (hT:(T++us).Nodup) (F1:∀u∈T,∃g,c.K u g) {s2:SV} {ye:E} (AY:Bn sl0 [] y=some s2) (hy:Bj hp0 [] AW s2=some ye) (Ca:Sr hp0 [] el (P.cellsOf el) l s2=some us)
  {c0:E} {v:Value} (hv:a.eval x=v) {N:List Nat} (CE:DC c.w [.row el (P.cellsOf el) (AG.of l)] [v] [c0.den c.ρ] N) (hN:N=B6 c T) {ck:List Cn} (Dn:Cn.den c.ρ (.room c0 ye (P.bytesOf el))):
  Aw P o c n nx sl hp [] a {bg:=ck,val:= .own nx 0,a6:=(nx, .deep el (P.cellsOf el) l 0 0 (.app c0 ye))::D2 (T++us)}:=by
 have Au:cl.args= #[x,y]:=by apply Array.ext';simp[CD]
 have Fq:cl.argTypes= #[tx,tx]:=by apply Array.ext';simp[Dv]
 have Dl:y∈o.op.operands:=by simp[ho,Op.operands,Call.operands,AF,Au]
 obtain⟨i,z,hi,Fo,Eo,BY,B3,Hr⟩:=Ju hz;obtain⟨ys,q,r,news,N2,CX,C6,ES,Mp,BJ,HY,MD,Xx⟩:=gS h.eh h.gs Ca (h.ch AY Dl) hy;have CJ:=Uy h.rel.gw hT;rw[IZ]at CJ;have Ef:∀b∈B6 c (T++us),b<c.w.heap.size:=λb hb=>by obtain⟨t,_,Cz⟩:=OY.1 hb;exact h.rel.gw.inb t b (by simp[GI.own,Cz])
 obtain⟨mm,kk,GX,Dy,Le,Tf⟩:=Dn;obtain⟨d1,d2,AT⟩:=CE.inv;rw[AG.ak]at d2 AT;have hU:∀u∈T++us,∃g,c.K u g:=λu hu=>by
  rcases Ag.1 hu with hu|hu
  ·exact F1 u hu
  ·exact Xx u hu
 obtain⟨xs,old,N1,B9,hold,E2,Ww,F9,CA,Jl,Mc⟩:∃(xs:List AV) (old:List Value) (N1:List Nat),c0.den c.ρ= .sl xs/\old.length=xs.length*i.size/\((xs.length=0/\ ∃q,v= .slice q 0 0)\/ ∃g cap C,v= .slice (some ⟨g,0,none⟩) xs.length cap/\xs.length<=cap/\cap<=maxLen/\c.w.heap[g]?=some (.cells C el (0,0))/\C.size=cap*i.size/\old=C.toList.take (xs.length*i.size)/\(g∈B6 c T/\g∉N1))/\
   DC c.w (Ci xs.length l) old (AA xs) N1/\(∀y∈xs,y.cells.length=P.cellsOf el)/\(∀u∈old,u.oneCell'=true)/\(∀b∈N1,b∈B6 c T)/\N1.Nodup:=by
  rcases AT with⟨p,rfl,E6,rfl⟩|⟨g9,cap,C,xs,N1,rfl,E6,rfl,h6,h7,h8,h9,EM,Ea,P0⟩
  ·exact⟨[],[],[],E6,by simp, .inl ⟨rfl,p,rfl⟩,by simpa[Ci,AA]using DC.nil,by simp,by simp,by simp,by simp⟩
  ·have B8:(g9::N1).Nodup:=by rw[hN];exact(List.nodup_append.1 CJ).1
   rw[List.nodup_cons]at B8;refine⟨xs,_,N1,E6,?_, .inr ⟨g9,cap,C,rfl,h7,h8,h6,by rw[<-B3];exact h9,rfl,by rw[<-hN];simp,B8.1⟩,by rw[<-B3];exact P0,EM,by rw[<-B3];exact Ea,λb hb=>by rw[<-hN];simp[hb],B8.2⟩;have e9:C.toList.length=cap*i.size:=by rw[<-B3,<-h9];simp
   rw[A1,e9];exact Nat.min_eq_left (BB _ h7)
 rw[B9]at GX;rw[CX]at Dy;simp only[AV.len,AV.int.injEq,true_and]at GX Dy;have Ho:(xs.length+ys.length)*i.bytes<=140737488355328:=by
  rw[<-GX,<-Dy,Hr]at Le;have h9:(((xs.length+ys.length)*i.bytes:Nat):Int)<=140737488355328:=by rw[Int.natCast_mul,Int.natCast_add];exact Le
  omega
 have F2:xs.length+ys.length<=140737488355328:=by rw[<-GX,<-Dy]at Tf;omega
 rw[B3]at ES;obtain⟨v',w',AH,AQ⟩:=aM (P:=P) c.w tx o.type el i z Ba hi Fo Eo BY (λg9=>g9∈B6 c T/\g9∉N1) v xs.length old hold E2 q ys.length r news ES (by simp only[maxLen];omega) Ho;have CN:(execOp a.eval o).run P c.w= .ok (.value v') w':=by simp[execOp,ho,resolve,AF,Au,Fq,invoke,builtin,hv,C6,AH]
 have P6:∀b∈N2,b∈B6 c us:=λb hb=>BJ.subset hb;have Md:N2.Nodup:=BJ.nodup (List.nodup_append.1 CJ).2.1;have JX:(E.app c0 ye).den c.ρ= .sl (xs++ys):=by simp only[E.den,B9,CX,AV.app]
 rcases AQ with⟨rfl,rfl,Dw⟩|⟨g9,cap,C,rfl,h1,h2,h3,h4,h5,h6,h7⟩
 ·have G3:ys=[]:=List.eq_nil_of_length_eq_zero Dw;subst G3;refine Aw.ee h hT hU CN (Mod.refl _ _) (top:=N) (by rw[hN];exact(List.nodup_append.1 CJ).1) (λb hb=>⟨.inl (by rw[IZ,<-hN];simp[hb]),Ef b (by rw[IZ,<-hN];simp[hb])⟩) ?_;rw[JX,AJ,<-B9];exact CE
 ·have Ht:(g9∈B6 c T\/c.w.heap.size<=g9)/\g9∉N1/\g9∉N2:=by
   rcases h7 with⟨rfl,_⟩|⟨hg,Cg⟩
   ·refine⟨.inr (Ay _),λhh=> ?_,λhh=> ?_⟩
    ·have:=Ef _ (by rw[IZ];exact Ag.2 (.inl (Jl _ hh)));omega
    ·have:=Ef _ (by rw[IZ];exact Ag.2 (.inr (P6 _ hh)));omega
   ·exact⟨.inl hg,Cg,λhh=>(List.nodup_append.1 CJ).2.2 _ hg _ (P6 _ hh) rfl⟩
  have A3:∀b∈N1++N2,w'.heap[b]?=c.w.heap[b]?:=λb hb=>by
   have AI:b<c.w.heap.size:=Ef b (by
    rw[IZ];rcases Ag.1 hb with hb|hb
    ·exact Ag.2 (.inl (Jl b hb))
    ·exact Ag.2 (.inr (P6 b hb)))
   refine h6.block b AI λhh=> ?_;cases hh;rcases Ag.1 hb with hb|hb
   ·exact Ht.2.1 hb
   ·exact Ht.2.2 hb
  refine Aw.ee h hT hU CN (Zo h6 λg hg=> ?_) (top:=g9::(N1++N2)) ?_ (λb hb=> ?_) ?_
  ·cases hg;rcases Ht.1 with hh|hh
   ·exact .inl (by rw[IZ];exact Ag.2 (.inl hh))
   ·exact .inr hh
  ·refine List.nodup_cons.2 ⟨λhh=> ?_,List.nodup_append.2 ⟨Mc,Md,λp hp q hq=> ?_⟩⟩
   ·rcases Ag.1 hh with hh|hh
    ·exact Ht.2.1 hh
    ·exact Ht.2.2 hh
   ·exact(List.nodup_append.1 CJ).2.2 p (Jl p hp) q (P6 q hq)
  ·rcases Ad.1 hb with rfl|hb
   ·refine⟨?_,Fv h3⟩;rcases Ht.1 with hh|hh
    ·exact .inl (by rw[IZ];exact Ag.2 (.inl hh))
    ·exact .inr hh
   ·have cR:b∈B6 c (T++us):=by
     rw[IZ];rcases Ag.1 hb with hb|hb
     ·exact Ag.2 (.inl (Jl b hb))
     ·exact Ag.2 (.inr (P6 b hb))
    exact⟨.inl cR,Nat.lt_of_lt_of_le (Ef b cR) h6.size⟩
  ·rw[JX];have hlen:(xs++ys).length=xs.length+ys.length:=Ap;rw[B3]at d1 d2 F9 HY ⊢;have:=DC.row (w:=w') (e:=el) (z:=i.size) (l:=AG.of l) (g:=g9) (cap:=cap) (C:=C) (ys:=xs++ys) (N1:=N1++N2) (ts:=[]) (vs:=[]) (xs:=[]) (N:=[]) d1 (by rw[AG.ak];exact d2) h3 (by rw[hlen];exact h1) h2 h4 (λw hw=> ?_) (by
     rw[hlen,h5];intro u hu;rcases Ag.1 hu with hu|hu
     ·exact CA u hu
     ·exact MD u hu) (by
     rw[hlen,h5,RA,ZK,AG.ak];exact(Ww.app Mp).frame A3) .nil
   ·rw[hlen]at this;simpa using this
   ·rcases Ag.1 hw with hw|hw
    ·exact F9 w hw
    ·exact HY w hw
end
section
variable {P:Program} {c:Cx} {n nx:Nat} {sl sl0:Nat->SV} {hp hp0:Nat->Option Ah} {a:Act} {o:Oper} {gs:Gd} {e:A2} {sg:BR} {nv:Nat}
theorem zti{l:List Nat}(h:KP l=true):l.Nodup:=OZ h
theorem wG(h:Bh P c n nx sl hp a sl0 hp0 o gs){x y:Operand}{tx ty:TypeId}{cl:Call}(ho:o.op= .call cl)(AF:cl.callee= .builtin .append)(CD:cl.args.toList=[x,y])(Dv:cl.argTypes.toList=[tx,ty])
  {s1 s2:SV} (BA:Bn sl0 gs x=some s1) (AY:Bn sl0 gs y=some s2) (he:UW P hp0 gs nx tx ty s1 s2=some e) (hc:∀q∈e.bg,Cn.den c.ρ q):Aw P o c n nx sl hp gs a e:=by
 have Au:cl.args= #[x,y]:=by apply Array.ext';simp[CD]
 have DK:x∈o.op.operands:=by simp[ho,Op.operands,Call.operands,AF,Au]
 have Dl:y∈o.op.operands:=by simp[ho,Op.operands,Call.operands,AF,Au]
 unfold UW at he;split at he
 ·cases he
 rename_i IL;have IL:tx=ty:=by simpa using IL
 subst IL;split at he
 ·rename_i el e' z dl Ba Dk;have Is:=H2 Ba;split at he
  ·cases he
  rename_i Av;simp only[not_or,Bt,Bool.not_eq_false,Bool.not_eq_true,ne_eq,Decidable.not_not]at Av;obtain⟨hz,FP,rfl,rfl⟩:=Av;obtain⟨_,_,l,ID,DJ⟩:=RY (U9 Ba) Dk;simp only[DT.row.injEq,true_and]at ID;subst ID;rw[AG.ak]at he;have r1:=h.ch BA DK;split at he
  ·rename_i ye us hy Ca;have hU:∀u∈us,∃g,c.K u g:=(gS h.eh h.gs Ca (h.ch AY Dl) hy).choose_spec.choose_spec.choose_spec.choose_spec.choose_spec.2.2.2.2.2.2.2;have MO:us.Nodup:=by
    unfold Sr at Ca;split at Ca
    ·simp only[Af]at Ca;subst Ca;simp
    ·simp only[Af]at Ca;subst Ca;simp
    ·split at Ca
     ·split at Ca
      ·simp only[Af]at Ca;subst Ca;simp
      ·cases Ca
     ·cases Ca
    ·cases Ca
   have Tl:0<P.cellsOf e':=by obtain⟨i,_,_,_,_,h1,h2,_⟩:=Ju hz;omega
   split at he
   ·rename_i t g;split at he
    ·rename_i e2 z2 l2 g2 ep c0 hl;split at he
     ·rename_i hh;obtain⟨rfl,rfl,hb,rfl,Ej⟩:=hh;have hb:=AG.ej hb;subst hb;simp only[Af]at he;subst he;obtain⟨q1,q2,q3,q4,q5⟩:=h.eh t _ (Cv hl h.gs);generalize hv:a.eval x=v at r1;cases r1 with
      |own k1 k2 _=>rw[k2]at q4;simp only[Bt,List.contains_eq_mem,decide_eq_false_iff_not]at Ej;exact YI h ho AF CD Dv Is hz DJ (T:=[t]) (by simpa using List.nodup_cons.2 ⟨Ej,MO⟩) (λu hu=>by simp at hu;subst hu;exact⟨_,k1⟩) AY hy Ca hv q4 (by simp[B6]) (hc _ (by simp))
     ·cases he
    ·cases he
   ·simp only[Af]at he;subst he;generalize hv:a.eval x=v at r1;cases r1 with
    |emp _=>exact YI h ho AF CD Dv Is hz DJ (T:=[]) (by simpa using MO) (by simp) AY hy Ca hv (c0:= .lst .nil) (.void Tl (by rw[AG.ak];exact DJ) .nil) rfl (hc _ (by simp))
   ·simp only[Af]at he;subst he;generalize hv:a.eval x=v at r1;cases r1 with
    |bq _=>exact YI h ho AF CD Dv Is hz DJ (T:=[]) (by simpa using MO) (by simp) AY hy Ca hv (c0:= .lst .nil) (.void Tl (by rw[AG.ak];exact DJ) .nil) rfl (hc _ (by simp))
   ·cases he
  ·cases he
 ·cases he
theorem Aw.ez(h:Bh P c n nx sl hp a sl0 hp0 o []){T:List Nat}(hT:T.Nodup)(F1:∀u∈T,∃g,c.K u g){ck:List Cn}{el z:Nat}{l:List DT}(hz:0<z)(hl:l.length=z){x:E}{xs:List AV}{C:Array Value}{cap:Nat}(hx:x.den c.ρ= .sl xs)(AF:∀y∈xs,y.cells.length=z)(hle:xs.length<=cap)(Io:cap<=maxLen)(hC:C.size=cap*z)
  (h1:∀u∈C.toList.take (xs.length*z),u.oneCell'=true) (hD:DC c.w (Ci xs.length l) (C.toList.take (xs.length*z)) (AA xs) (B6 c T))
  (hr:(execOp a.eval o).run P c.w= .ok (.value (.slice (some ⟨c.w.heap.size,0,none⟩) xs.length cap)) (c.w.alloc (.cells C el))):
  Aw P o c n nx sl hp [] a {bg:=ck,val:= .own nx 0,a6:=(nx, .deep el z l 0 0 x)::D2 T}:=by
 have Ef:∀b∈B6 c T,b<c.w.heap.size:=λb hb=>by obtain⟨t,_,Cz⟩:=OY.1 hb;exact h.rel.gw.inb t b (by simp[GI.own,Cz])
 have AZ:(c.w.alloc (.cells C el)).heap[c.w.heap.size]?=some (.cells C el (0,0)):=heap_alloc_new c.w _;have WI:c.w.grownBy (c.w.alloc (.cells C el)) (some c.w.heap.size):=⟨rfl,rfl,rfl,by simp,λj hj _=>Below.heap_alloc c.w _ _ hj⟩
 refine Aw.ee h hT F1 hr (Zo WI λg hg=> .inr (by cases hg;exact Ay _)) (top:=c.w.heap.size::B6 c T) ?_ (λb hb=> ?_) ?_
 ·exact List.nodup_cons.2 ⟨λhh=>by have:=Ef _ hh;omega,Uy h.rel.gw hT⟩
 ·rcases Ad.1 hb with rfl|hb
  ·exact⟨.inr (Ay _),by simp⟩
  ·exact⟨.inl hb,Nat.lt_of_lt_of_le (Ef b hb) (by simp)⟩
 ·rw[hx];have:=DC.row (w:=c.w.alloc (.cells C el)) (e:=el) (z:=z) (l:=AG.of l) (g:=c.w.heap.size) (cap:=cap) (C:=C) (ys:=xs) (N1:=B6 c T) (ts:=[]) (vs:=[]) (xs:=[]) (N:=[]) hz (by rw[AG.ak];exact hl) AZ hle Io hC AF h1 (by
   rw[AG.ak];exact hD.frame λb hb=>Below.heap_alloc c.w _ _ (Ef b hb)) .nil
  simpa using this
theorem wL(h:Bh P c n nx sl hp a sl0 hp0 o gs){t:TypeId}{m:Nat}{parts:Array (Nat × Operand)}(ho:o.op= .buildSlice t m parts){ps:List (Nat × SV)}(Ld:parts.toList.mapM (λ(p:Nat × Operand)=>(Bn sl0 gs p.2).map λs=>(p.1,s))=some ps)(he:Vj P hp0 gs nx t m ps=some e)(hc:∀q∈e.bg,Cn.den c.ρ q):Aw P o c n nx sl hp gs a e:=by
 obtain⟨e1,e2⟩:=UR (c:=c) (a:=a) (parts.toList.map (·.2)) (λx s hx hm=>h.ch hx (by simpa[ho,Op.operands]using hm)) (λx hx=>List.mem_map.2 ⟨x,hx,rfl⟩) Ld;unfold Vj at he;split at he
 ·rename_i el e' zz dl It Dk;have Ba:=H2 It;split at he
  ·cases he
  rename_i Av;simp only[not_or,Bt,Bool.not_eq_false',ne_eq,Bool.not_eq_false,Bool.not_eq_true,Nat.not_lt,Decidable.not_not]at Av;obtain⟨hz,FP,rfl,rfl,Bb,Az,hle,Ec⟩:=Av;obtain⟨_,_,l,ID,DJ⟩:=RY (U9 It) Dk;simp only[DT.row.injEq,true_and]at ID;subst ID;rw[AG.ak]at he;have Az:An P e'=true\/P.cellsOf e'=1:=by simpa using Az
  obtain⟨i,z,hi,Fo,Eo,BY,B3,Hr⟩:=Ju hz;split at he
  ·rename_i xs us ck QV;split at he
   ·rename_i B8;simp only[Af]at he;subst he;obtain⟨p1,p5,p6,p7,p8⟩:=fI h.eh h.gs DJ Az (ps.map (·.2)) (parts.toList.map λp=>a.eval p.2) e2 QV hc;have hlen:(parts.toList.map λp=>a.eval p.2).length=m:=by
     have:ps.length=m:=by have:=congrArg List.length Ec;simpa using this
     have h9:=congrArg List.length e1;simp at h9 ⊢;omega
    have Gw:(parts.map λ(x:Nat × Operand)=>(x.1,a.eval x.2)).toList=((parts.toList.map λp=>a.eval p.2).zipIdx 0).map λp=>(p.2,p.1):=by
     have IA:parts.toList.map (·.1)=List.range m:=by rw[<-e1,Ec]
     apply List.ext_getElem?;intro j;have hj:(parts.toList.map (·.1))[j]?=(List.range m)[j]?:=by rw[IA]
     simp only[Array.toList_map,List.getElem?_map,List.getElem?_zipIdx]at hj ⊢;cases hp:parts.toList[j]? with
     |none=>simp
     |some p=>
      rw[hp]at hj;simp only[Option.map_some,Af]at hj ⊢;have WT:j<m:=by
       rcases Nat.lt_or_ge j m with hh|hh
       ·exact hh
       ·rw[List.getElem?_eq_none (by simpa using hh)]at hj;cases hj
      rw[List.getElem?_range WT]at hj;simp at hj;simp[hj]
    obtain⟨C',f1,f2⟩:=Zd (sz:=i.size) (λj=>some (j*i.size,i.size)) (λj=>rfl) (parts.toList.map λp=>a.eval p.2) 0 ((Array.range (m*i.size)).map (λj=>(if m*i.size=0 then #[]else z.cells)[j % (if m*i.size=0 then #[]else z.cells).size]!)) [] _ (by simp;rfl) (by simp) (by simp[hlen]) (λv hv=>by rw[<-B3];exact(p5 v hv).1);have Du:C'.toList.length=m*P.cellsOf e':=by
     rw[f2,B3];simp only[List.nil_append];have:∀(L:List Value),(∀v∈L,v.cells.size=i.size)->(L.flatMap λv=>v.cells.toList).length=L.length*i.size:=by
      intro L
      induction L with
      |nil=>intro _;simp
      |cons v L ih=>intro hL;simp only[List.flatMap_cons,Ap,Ao,Cc];rw[ih (λu hu=>hL u (by simp[hu])),hL v (by simp),Nat.add_mul];omega
     rw[this _ (λv hv=>by rw[<-B3];exact(p5 v hv).1),hlen]
    have G2:(xs.map (E.den c.ρ)).length=m:=by rw[List.length_map,p7,hlen]
    have B5:C'.toList.take ((xs.map (E.den c.ρ)).length*P.cellsOf e')=(parts.toList.map λp=>a.eval p.2).flatMap λv=>v.cells.toList:=by rw[G2,<-Du,List.take_length,f2];simp
    refine Aw.ez h (zti B8) p8 (by omega) DJ (xs:=xs.map (E.den c.ρ)) (C:=C') (cap:=m) (by simp[E.den,EL.c8]) (λy hy=> ?_) (by omega) (by simp only[maxLen];have:m*1<=m*P.cellsOf e':=Nat.mul_le_mul_left _ (by omega);omega) (by rw[<-Cc,Du]) ?_ ?_ ?_
    ·obtain⟨q,hq,rfl⟩:=List.mem_map.1 hy;exact p6 q hq
    ·rw[B5];intro u hu;obtain⟨v,hv,hu⟩:=List.mem_flatMap.1 hu;exact(p5 v hv).2 u hu
    ·rw[B5,G2,<-hlen];exact p1
    ·rw[G2];have AH:=fB (P:=P) Ba Bb hi Fo B3 m (by rw[<-B3];omega) (parts.map λ(x:Nat × Operand)=>(x.1,a.eval x.2)) C' (by rw[Gw];exact f1) c.w;simp only[execOp,ho,Sem.run_bind];rw[AH];rfl
   ·cases he
  ·cases he
 ·cases he
theorem YR{w:World}:∀{ds:List DT} {ss:List SV} {vs:List Value},Nu ds ss=true->SR c ss vs-> ∀{xs:EL} {m:Nat},Cm hp0 gs m ss=some xs->DC w ds vs (xs.den c.ρ) []
 | [],[],vs,_,hs,xs,m,hx=>by
  cases hs;cases m with
  |zero=>simp[Cm]at hx
  |succ m=>simp[Cm]at hx;subst hx;exact .nil
 | [],_::_,_,h,_,_,_,_=>by simp[Nu]at h
 |_::_,[],_,h,_,_,_,_=>by simp[Nu]at h
 |d::ds,s::ss,[],h,hs,_,_,_=>by have:=hs.len;simp at this
 |d::ds,s::ss,v::vs,h,hs,xs,m,hx=>by
  obtain⟨j,y,ys,rfl,hy,CX,rfl⟩:=Jw hx;obtain⟨r1,r2⟩:=hs.bu;simp only[Nu,Ae]at h;have ih:=YR (w:=w) h.2 r2 CX;unfold nZ at h;obtain⟨h1,_⟩:=h;split at h1
  ·rename_i y';rw[EL.den,JA hy];cases r1 with
   |e g1 g2 _=>
    cases y'<;>simp[SI]at h1
    ·cases g1 with
     |int hk _=>exact .flat (.int hk .nil) ih
    ·cases g1 with
     |bool _=>exact .flat (.bool .nil) ih
    ·rename_i s0;generalize hq:(E.str s0).den c.ρ=q at g1;cases g1 with
     |str hk _=>exact .flat (.str hk .nil) ih
     |_=>simp[E.den]at hq
  ·simp only[Ae,AN,Ax]at h1;rw[EL.den,Kw hy];cases r1 with
   |bq _=>exact .void h1.1 h1.2 ih
  ·cases h1
theorem DC.rep{w:World}{ds:List DT}{vs:List Value}{xs:List AV}(h:DC w ds vs xs []):∀k,DC w (Ci k ds) (List.replicate k vs).flatten (List.replicate k xs).flatten []
 |0=>by simpa[Ci]using DC.nil
 |k+1=>by rw[Na,List.replicate_succ,List.flatten_cons,List.replicate_succ,List.flatten_cons];simpa using h.app (DC.rep h k)
theorem xJ(h:Bh P c n nx sl hp a sl0 hp0 o gs){t:TypeId}{l m:Operand}(ho:o.op= .makeSlice t l m){s1 s2:SV}(BA:Bn sl0 gs l=some s1)(AY:Bn sl0 gs m=some s2)(he:Vs P hp0 gs nx t s1 s2=some e)(hc:∀q∈e.bg,Cn.den c.ρ q):Aw P o c n nx sl hp gs a e:=by
 have DK:l∈o.op.operands:=by simp[ho,Op.operands]
 have Dl:m∈o.op.operands:=by simp[ho,Op.operands]
 unfold Vs at he;split at he
 ·rename_i el e' zz dl x y It Dk;have Ba:=H2 It;split at he
  ·cases he
  rename_i Av;simp only[not_or,Bt,Bool.not_eq_false',ne_eq,Bool.not_eq_false,Bool.not_eq_true,Decidable.not_not]at Av;obtain⟨hz,FP,rfl,rfl,Gy,WJ⟩:=Av;have WJ:gs=[]:=by simpa using WJ
  subst WJ;obtain⟨_,_,dl',ID,DJ⟩:=RY (U9 It) Dk;simp only[DT.row.injEq,true_and]at ID;subst ID;rw[AG.ak]at he;obtain⟨i,z,hi,Fo,Eo,BY,B3,Hr⟩:=Ju hz;have r1:=h.ch BA DK;have r2:=h.ch AY Dl;have ival:∀{x:E} {kk:IntKind} {k:Int} {v:Value},SR c [.e x] [v]->x.den c.ρ= .int kk k->v= .int kk k:=by
   intro x kk k v hr hx;cases hr with
   |e h1 _ _=>exact(FC h1 hx).1
  split at he
  ·rename_i s hs;have hs:ED z=some s:=by simpa[hi,Fo]using hs
   split at he
   ·rename_i Tm;obtain⟨w,hw,rfl⟩:=Aq.1 he;obtain⟨kk,k,hk,h0,hb,hle⟩:Cn.den c.ρ (.mkroom x (P.bytesOf e')):=BG hc;have E5:=ival r1 hk;have C6:=ival r2 (by rw[<-E.aj c.ρ _ _ Gy];exact hk);have dQ:DC c.w dl' z.cells.toList (w.den c.ρ).cells []:=by
     have Ke:=U2 (c:=c) hs;unfold mZ at Tm;cases s with
     |agg cs=>
      obtain⟨k9,l9,hm,qJ,rfl⟩:=RW hw;cases Ke with
      |agg h9 h1 h8=>have:=YR (w:=c.w) Tm h1 qJ;simpa[Value.cells,AV.cells,E.den]using this
     |bq=>
      have Ba:Cm hp0 [] (AW+1) [.bq]=some (.cons w .nil):=by unfold Cm;rw[hw];rfl
      have:=YR (w:=c.w) Tm Ke Ba;rw[Kw hw]at this ⊢;cases Ke with
      |bq _=>simpa[Value.cells,AV.cells,E.den,EL.den]using this
     |_=>cases Tm
    obtain⟨c1,c2⟩:=YQ (w:=c.w) (ρ:=c.ρ) hs hw;obtain⟨kn,rfl⟩:=Int.eq_ofNat_of_zero_le h0;have DH:(i.bytes:Int)*(kn:Int)<=281474976710656:=by rw[Hr]at hb;rw[Int.mul_comm];omega
    have hlen:=c1.len;have S8:=UG z.cells (by omega) kn;have AH:=run_make (P:=P) c.w t e' i z Ba hi Fo kk kk kn kn (by omega) (Int.le_refl _) DH (by omega);have E3:(madeCells z.cells (kn*z.cells.size)).size=kn*P.cellsOf e':=by rw[size_madeCells,Eo,B3]
    have B5:(madeCells z.cells (kn*z.cells.size)).toList.take ((List.replicate kn (w.den c.ρ)).length*P.cellsOf e')=(List.replicate kn z.cells.toList).flatten:=by rw[List.length_replicate,List.take_of_length_le (by rw[Cc,E3];exact Ay _),S8]
    have F3:AA (List.replicate kn (w.den c.ρ))=(List.replicate kn (w.den c.ρ).cells).flatten:=by
     clear AH E3 B5 S8 hb hle DH hk E5 C6 h0 hc
     induction kn with
     |zero=>rfl
     |succ k ih=>simp only[List.replicate_succ,AA,List.flatMap_cons,List.flatten_cons]at ih ⊢;rw[ih]
    refine Aw.ez (T:=[]) h (by simp) (by simp) (by omega) DJ (xs:=List.replicate kn (w.den c.ρ)) (C:=madeCells z.cells (kn*z.cells.size)) (cap:=kn) (by simp[E.den,hk,AV.rep]) (λu hu=> ?_) (by simp) (by simp only[maxLen];omega) E3 ?_ ?_ ?_
    ·rw[List.eq_of_mem_replicate hu,<-hlen,Cc,Eo,B3]
    ·rw[B5];intro u hu;obtain⟨q,hq,hu⟩:=List.mem_flatten.1 hu;rw[List.eq_of_mem_replicate hq]at hu;exact c2 u hu
    ·rw[B5,List.length_replicate,F3];exact dQ.rep kn
    ·simp only[execOp,ho,E5,C6,Sem.run_bind,Int.ofNat_eq_natCast,List.length_replicate];rw[AH,Eo];rfl
   ·cases he
  ·cases he
 ·cases he
end
section
variable {P:Program} {c:Cx} {n nx:Nat} {sl sl0:Nat->SV} {hp hp0:Nat->Option Ah} {a:Act} {o:Oper} {gs:Gd} {e:A2} {sg:BR} {nv:Nat}
theorem gP{α:Type}(cs vs:List α)(o:Nat):setVs cs o vs=cs.take o++(vs++cs.drop (o+vs.length)):=by simp[setVs]
theorem DC.setVs{w:World}{ts:List DT}{L V:List Value}{X Y:List AV}{N1 N2 M:List Nat}{p:Nat}(h1:DC w (ts.take p) (L.take p) (X.take p) N1)(h2:DC w (ts.drop (p+V.length)) (L.drop (p+V.length)) (X.drop (p+V.length)) N2)(k:DC w ((ts.drop p).take V.length) V Y M):
  DC w ts (Go.Proofs.YtkpifpljpoochaaGreatDoor.setVs L p V) (Go.Proofs.YtkpifpljpoochaaGreatDoor.setVs X p Y) (N1++(M++N2)):=by
 have hk:=k.len;have ht:ts=ts.take p++((ts.drop p).take V.length++ts.drop (p+V.length)):=by rw[<-List.drop_drop,BV,BV]
 rw[gP,gP];have hl:Y.length=V.length:=by omega
 rw[hl];have:=h1.app (k.app h2);rw[<-ht]at this;exact this
theorem iO(h:Bh P c n nx sl hp a sl0 hp0 o []){t:TypeId}{x y:Operand}(ho:o.op= .store t x y){b g:Nat}{ix:E}{sz k:Nat}{s:SV}(r1:SR c [.cd b g ix sz k] [a.eval x])(r2:SR c [s] [a.eval y]){el:Nat}{l:List DT}{ep:Nat}{c0:E}(hK:c.K b g)(EP:∀g',c.K b g'->g'<=g)(hE:c.E b=ep)
  (Bb:C2 P t=true) (hle:k+P.cellsOf t<=sz) (Fk:An P el=true\/(sz=1/\An P t=false)) (DW:An P t=true\/P.cellsOf t=1)
  {xe:E} {us:List Nat} {ck:List Cn} (Ca:PD P hp0 [] t ((l.drop k).take (P.cellsOf t)) s=some (xe,us,ck)) (Ip:∀q∈ck,q.den c.ρ) (B8:us.Nodup) (hb:b∉us)
  (BS:∀(kk:IntKind) (kv:Int),ix.den c.ρ= .int kk kv-> ∃(m cap:Nat) (C:Array Value) (ys:List AV) (N1 N2:List Nat),c.H b g= .slice (some ⟨m,0,none⟩) ys.length cap/\c0.den c.ρ= .sl ys/\0<sz/\l.length=sz/\c.w.heap[m]?=some (.cells C el (0,0))/\ys.length<=cap/\cap<=maxLen/\C.size=cap*sz/\(∀y∈ys,y.cells.length=sz)/\(∀w∈C.toList.take (ys.length*sz),w.oneCell'=true)/\
   (m::(N1++N2)).Nodup/\(∀q∈m::(N1++N2),q∈(c.G b).top)/\DC c.w ((Ci ys.length l).take (kv.toNat*sz+k)) ((C.toList.take (ys.length*sz)).take (kv.toNat*sz+k)) ((AA ys).take (kv.toNat*sz+k)) N1/\
   DC c.w ((Ci ys.length l).drop (kv.toNat*sz+k+P.cellsOf t)) ((C.toList.take (ys.length*sz)).drop (kv.toNat*sz+k+P.cellsOf t)) ((AA ys).drop (kv.toNat*sz+k+P.cellsOf t)) N2):
  Aw P o c n nx sl hp [] a {bg:=ck,a6:=(b, .deep el sz l g (ep+1) (.set c0 ix (.put (.idx c0 ix) k xe (An P el))))::D2 us}:=by
 generalize hv:a.eval x=v at r1;cases r1 with
 |cd k1 k2 k3 k4 k5 k6=>
  rename_i m0 len cap0 kk kv;obtain⟨m,cap,C,ys,N1,N2,p1,p2,p3,p4,p5,p6,p7,p8,p9,p10,p11,p12,p13,p14⟩:=BS kk kv k3;rw[k2]at p1;cases p1;have Hx:kv.toNat<ys.length:=by omega
  have hmul:(kv.toNat+1)*sz<=ys.length*sz:=BB _ (by omega);have Eh:ys.length*sz<=cap0*sz:=BB _ p6;rw[Nat.add_mul]at hmul;have Du:C.toList.length=cap0*sz:=by simpa using p8
  obtain⟨q1,q2,q3,q4,q5,q6⟩:=gA h.eh h.gs (by rw[A1,Dp,p4];omega) DW Ca r2 Ip;have FQ:=LL Hx;generalize HZ:(AV.sl ys).nth kv.toNat=yk at FQ;have Fu:=p9 yk (List.mem_of_getElem? FQ);have FB:(a.eval y).cells.toList.length=P.cellsOf t:=by simpa using q4
  obtain⟨m1,m2,m3⟩:=UF (vs:=(a.eval y).cells.toList) p5 (show(kv.toNat*sz+k)+_<=C.size by rw[FB,p8];omega);have Mz:(C.toList.take (ys.length*sz)).length=ys.length*sz:=by rw[A1,Du];omega
  have GR:m0∈(c.G b).top:=p12 _ (by simp);have Kh:∀q∈B6 c us,q∉(c.G b).top:=λq hq hh=>by obtain⟨u,hu,Xk⟩:=OY.1 hq;exact h.rel.gw.cc u b (λhh=>hb (hh▸hu)) q (by simp[GI.own,Xk]) (by simp[GI.own,hh])
  have K7:∀q∈B6 c us,q<c.w.heap.size:=λq hq=>by obtain⟨u,_,Xk⟩:=OY.1 hq;exact h.rel.gw.inb u q (by simp[GI.own,Xk])
  have K6:∀q∈(c.G b).top,q<c.w.heap.size:=λq hq=>h.rel.gw.inb b q (by simp[GI.own,hq]);have A3:∀q,q∈B6 c us\/(q∈N1++N2)->(putCells c.w m0 (kv.toNat*sz+k) (a.eval y).cells.toList).heap[q]?=c.w.heap[q]?:=λq hq=>by
   refine m1.block q ?_ ?_
   ·rcases hq with hq|hq
    ·exact K7 q hq
    ·exact K6 q (p12 q (by simp[Ag.1 hq]))
   ·simp only[List.mem_singleton];rintro rfl;rcases hq with hq|hq
    ·exact Kh _ hq GR
    ·exact(List.nodup_cons.1 p11).1 hq
  have hz:(yk.cx k (xe.den c.ρ) (An P el)).cells=setVs yk.cells k (xe.den c.ρ).cells:=by
   refine Zf ?_ (λhg=> ?_)
   ·cases hg:An P el with
    |true=>exact .inr rfl
    |false=>
     left;rcases Fk with h'|⟨_,h'⟩
     ·rw[hg]at h';cases h'
     ·rw[h']at q5;exact λcs=>(q5.1 cs)
   ·rcases Fk with h'|⟨h1,h'⟩
    ·rw[hg]at h';cases h'
    ·rw[h']at q5;have Mm:P.cellsOf t=1:=by rcases DW with h2|h2;rw[h']at h2;cases h2;exact h2
     refine⟨by omega,by omega,?_⟩;cases XG:xe.den c.ρ<;>first|rfl|exact absurd XG (q5.1 _)
  have Ed:AA (ys.set kv.toNat (yk.cx k (xe.den c.ρ) (An P el)))=setVs (AA ys) (kv.toNat*sz+k) (xe.den c.ρ).cells:=
   Vc ys _ _ yk k _ p9 FQ (by rw[q3];exact hle) hz
  have Gl:((Ci ys.length l).drop (kv.toNat*sz+k)).take (P.cellsOf t)=(l.drop k).take (P.cellsOf t):=by rw[<-p4];exact RC l _ _ _ _ Hx (by omega)
  have AH:(execOp a.eval o).run P c.w= .ok .skip (putCells c.w m0 (kv.toNat*sz+k) (a.eval y).cells.toList):=by have:=YU (P:=P) (t:=t) (v:=a.eval y) (off:=kv.toNat*sz+k) p5 Bb q4 (by rw[q4,p8];omega) q2;simp[execOp,ho,hv,this]
  refine Aw.jo h B8 q6 hb hK EP hE AH (hs:=(c.G b).top++B6 c us) (λq hq=>Ag.1 hq) ⟨m1.os,m1.tape,m1.output,m1.size,λq hq hn=>m1.block q hq λhh=>hn (by simp only[List.mem_singleton]at hh;subst hh;exact Ag.2 (.inl GR))⟩
   (top:=m0::(N1++(B6 c us++N2))) ?_ (λq hq=> ?_) ?_
  ·have qT:=Uy h.rel.gw B8;rw[List.nodup_cons,List.nodup_append]at p11;obtain⟨n1,n2,n3,n4⟩:=p11;have a1:∀q∈B6 c us,q∉N1/\q∉N2/\q≠m0:=λq hq=>⟨λhh=>Kh q hq (p12 q (by simp[hh])),λhh=>Kh q hq (p12 q (by simp[hh])),λhh=>Kh q hq (hh▸GR)⟩
   rw[List.nodup_cons,List.nodup_append,List.nodup_append];refine⟨λhh=> ?_,n2,⟨qT,n3,λp hp q hq Td=>(a1 p hp).2.1 (Td▸hq)⟩,λp hp q hq Td=> ?_⟩
   ·simp only[Ag]at hh n1;rcases hh with hh|hh|hh
    ·exact n1 (.inl hh)
    ·exact(a1 _ hh).2.2 rfl
    ·exact n1 (.inr hh)
   ·rcases Ag.1 hq with hq|hq
    ·exact(a1 q hq).1 (Td▸hp)
    ·exact n4 p hp q hq Td
  ·have:q∈(c.G b).top\/q∈B6 c us:=by
    simp only[Ad,Ag]at hq;rcases hq with rfl|hq|hq|hq
    ·exact .inl GR
    ·exact .inl (p12 q (by simp[hq]))
    ·exact .inr hq
    ·exact .inl (p12 q (by simp[hq]))
   refine⟨.inl (Ag.2 this),Nat.lt_of_lt_of_le ?_ m1.size⟩;rcases this with hh|hh
   ·exact K6 q hh
   ·exact K7 q hh
  ·have B4:(E.set c0 ix (.put (.idx c0 ix) k xe (An P el))).den c.ρ= .sl (ys.set kv.toNat (yk.cx k (xe.den c.ρ) (An P el))):=by
    simp only[E.den,p2,k3,AV.idx,HZ,AV.cr]
   rw[B4,k2];have DJ:(ys.set kv.toNat (yk.cx k (xe.den c.ρ) (An P el))).length=ys.length:=List.length_set;have:=DC.row (w:=putCells c.w m0 (kv.toNat*sz+k) (a.eval y).cells.toList) (e:=el) (z:=sz) (l:=AG.of l) (g:=m0) (cap:=cap0) (ys:=ys.set kv.toNat (yk.cx k (xe.den c.ρ) (An P el))) (N1:=N1++(B6 c us++N2)) (ts:=[]) (vs:=[]) (xs:=[]) (N:=[]) p3 (by rw[AG.ak];exact p4) m2 (by rw[DJ];exact p6) p7 (by rw[List.size_toArray,O8 _ _ _ (by rw[FB,Du];omega),Cc];exact p8) (λw hw=> ?_) ?_ ?_ .nil
   ·rw[DJ]at this;simpa using this
   ·rcases List.mem_or_eq_of_mem_set hw with hw|rfl
    ·exact p9 w hw
    ·rw[hz,O8 _ _ _ (by rw[q3,Fu];exact hle)];exact Fu
   ·simp only[DJ,List.toList_toArray];rw[OU _ _ _ _ (by rw[FB];omega) (by rw[Du];omega)];intro u hu;unfold setVs at hu;simp only[Ag]at hu;rcases hu with(hu|hu)|hu
    ·exact p10 u (BM hu)
    ·exact q2 u hu
    ·exact p10 u (Cd hu)
   ·simp only[DJ,List.toList_toArray];rw[OU _ _ _ _ (by rw[FB];omega) (by rw[Du];omega),Ed,AG.ak];refine DC.setVs (p13.frame λq hq=>A3 q (.inr (by simp[hq]))) ?_ ?_
    ·rw[FB];exact p14.frame λq hq=>A3 q (.inr (by simp[hq]))
    ·rw[FB,Gl];exact q1.frame λq hq=>A3 q (.inl hq)
theorem wW(h:Bh P c n nx sl hp a sl0 hp0 o gs){t:TypeId}{x y:Operand}(ho:o.op= .store t x y){b g:Nat}{ix:E}{sz k:Nat}{s:SV}(CE: ¬ ∃e z g c d,CR hp0 gs b=some (.row e z g c d))(hx:Bn sl0 gs x=some (.cd b g ix sz k))(hy:Bn sl0 gs y=some s)
  (he:LG P hp0 gs t (.cd b g ix sz k) s=some e) (hc:∀q∈e.bg,Cn.den c.ρ q):Aw P o c n nx sl hp gs a e:=by
 have r1:=h.ch hx (by simp[ho,Op.operands]);have r2:=h.ch hy (by simp[ho,Op.operands]);simp only[LG]at he;split at he
 ·rename_i hl;exact absurd ⟨_,_,_,_,_,hl⟩ CE
 ·rename_i el sz' l g' ep c0 hl;split at he
  ·rename_i hh;obtain⟨rfl,rfl,rfl,Bb,hle,Fk,DW⟩:=hh;split at he
   ·rename_i xe us ck Ca;split at he
    ·cases he
    rename_i Ej;simp only[Bool.or_eq_true,Bt,not_or,Bool.not_eq_false,Bool.not_eq_true,List.contains_eq_mem,decide_eq_false_iff_not]at Ej;simp only[Af]at he;subst he;obtain⟨e1,e2,e3,e4,e5⟩:=h.eh b _ (Cv hl h.gs);refine iO h ho r1 r2 e1 e2 e3 Bb hle (by simpa using Fk) DW Ca hc (OZ Ej.1) Ej.2 λkk kv Qw=> ?_;generalize a.eval x=v at r1;cases r1 with
    |cd k1 k2 k3 k4 k5 _=>
     rw[k3]at Qw;cases Qw;obtain⟨d1,d2,⟨a9,d3,_⟩|⟨g9,cap9,C,ys,N,d3,d4,d5,d6,d7,d8,d9,d10,d11,d12⟩⟩:=e4.inv
     ·rw[k2]at d3;cases d3;omega
     ·rw[AG.ak]at d2 d12;obtain⟨N1,N2,N3,rfl,s1,s2,s3⟩:=d12.split (kv.toNat*sz+k) (P.cellsOf t);have B8:=h.rel.gw.nodup b;simp only[GI.own,e5,AJ,d5]at B8;refine⟨g9,cap9,C,ys,N1,N3,d3,d4,d1,d2,d6,d7,d8,d9,d10,d11,?_,λq hq=> ?_,s1,s3⟩
      ·refine List.Sublist.nodup (List.Sublist.cons_cons _ ?_) B8;rw[List.append_assoc];exact List.Sublist.append (List.Sublist.refl _) (List.sublist_append_right _ _)
      ·rw[d5];simp only[Ad,Ag]at hq ⊢;rcases hq with hq|hq|hq
       ·exact .inl hq
       ·exact .inr (.inl (.inl hq))
       ·exact .inr (.inr hq)
   ·cases he
  ·cases he
 ·rename_i el sz' l g' ep c0 i' o' u' hl;split at he
  ·rename_i hh;obtain⟨rfl,rfl,rfl,Bb,rfl,qD,hle,Mm,DW,Fk⟩:=hh;have DW:An P t=false:=by simpa using DW
   split at he
   ·rename_i xe us ck Ca;split at he
    ·cases he
    rename_i Ej;simp only[Bool.or_eq_true,Bt,not_or,Bool.not_eq_false,Bool.not_eq_true,List.contains_eq_mem,decide_eq_false_iff_not]at Ej;simp only[Af]at he;subst he;obtain⟨e1,e2,e3,⟨m,cap,C,ys,kk,kv,N1,N2,p1,p2,p3,p4,p5,p6,p7,p7',p8,p9,p10,p11,p12,p13,p14,p15,p16,p17,p18⟩,e5⟩:=h.eh b _ (Cv hl h.gs);refine iO h ho r1 r2 e1 e2 e3 Bb (by omega) (Fk.imp id λhh=>⟨hh,DW⟩) (.inr Mm) (by rw[Mm];exact Ca) hc (OZ Ej.1) Ej.2 λkk' kv' Qw=> ?_;rw[E.aj c.ρ _ _ qD,p3]at Qw;cases Qw;have B8:=h.rel.gw.nodup b;simp only[GI.own,e5,AJ,p14]at B8;exact⟨m,cap,C,ys,N1,N2,p1,p2,p7,p7',p8,p9,p10,p11,p12,p13,B8,λq hq=>by rw[p14];exact hq,p17,by rw[Mm];exact p18⟩
   ·cases he
  ·cases he
 ·cases he
end
section
variable {P:Program} {c:Cx} {n nx:Nat} {sl sl0:Nat->SV} {hp hp0:Nat->Option Ah} {a:Act} {o:Oper} {gs:Gd} {e:A2} {sg:BR} {nv:Nat}
theorem Zz{w:World}{ety sz:Nat}{p:Option Addr}{m r:Nat}{x:AV}{top N:List Nat}(h:CQ w ety sz (.slice p m r) x top N):∃xs,x= .sl xs/\xs.length=m/\m<=r/\0<sz/\(∀y∈xs,y.cells.length=sz)/\
  ((xs=[]/\m=0/\r=0/\top=[]/\N=[])\/ ∃g C,p=some ⟨g,0,none⟩/\r<=maxLen/\w.heap[g]?=some (.cells C ety (0,0))/\C.size=r*sz/\top=[g]/\(∀u∈C.toList.take (m*sz),u.oneCell'=true)/\Rd w (C.toList.take (m*sz)) (AA xs) N):=by
 obtain⟨xs,rfl,h2,h3,⟨rfl,⟨a,hv⟩,rfl,rfl⟩|⟨g,cap',C,hv,h6,h7,h8,h9,rfl,EM,Ea⟩⟩:=h
 ·cases hv;exact⟨[],rfl,rfl,Ay _,h3,by simp, .inl ⟨rfl,rfl,rfl,rfl,rfl⟩⟩
 ·cases hv;exact⟨xs,rfl,rfl,h6,h3,h2, .inr ⟨g,C,rfl,h7,h8,h9,rfl,EM,Ea⟩⟩
theorem xL(h:Bh P c n nx sl hp a sl0 hp0 o gs){t:TypeId}{x:Operand}{lo hi mx:Option Operand}(ho:o.op= .slice t x lo hi mx){s:SV}(hs:Bn sl0 gs x=some s){l' h' m':Option SV}(Bw:Hf (Bn sl0 gs) lo=some l')(HV:Hf (Bn sl0 gs) hi=some h')(EZ:Hf (Bn sl0 gs) mx=some m')(he:Vn P hp0 gs t s l' h' m'=some e)(hc:∀q∈e.bg,Cn.den c.ρ q):Aw P o c n nx sl hp gs a e:=by
 have hm:x∈o.op.operands:=by simp[ho,Op.operands]
 have IE:∀y,lo=some y->y∈o.op.operands:=λy hy=>by simp[ho,Op.operands,hy]
 have Hy:∀y,hi=some y->y∈o.op.operands:=λy hy=>by simp[ho,Op.operands,hy]
 have hx:=h.ch hs hm;have ival:∀{x:E} {kk:IntKind} {k:Int} {v:Value},SR c [.e x] [v]->x.den c.ρ= .int kk k->v= .int kk k:=by
  intro x kk k v hr hx;cases hr with
  |e h1 _ _=>exact(FC h1 hx).1
 have ex:(execOp a.eval o).run P c.w=((Instr.sliceAt t (a.eval x) (lo.map a.eval) (hi.map a.eval) (mx.map a.eval)).run P c.w).andThen λv w=> .ok (.value v) w:=by simp[execOp,ho]
 unfold Vn at he;split at he
 ·rename_i el0 b g Ba;have hu:=H2 Ba;split at he
  ·cases he
  rename_i Bb;have Bb:C2 P el0=true:=by simpa using Bb
  have IF:mx=none:=by
   rcases Ga EZ with⟨hh,_⟩|⟨_,_,_,_,hh⟩
   ·exact hh
   ·cases hh
  subst IF;split at he
  ·rename_i el z g' c0 d hl;split at he
   ·cases he
   rename_i Av;simp only[not_or,Decidable.not_not,ne_eq]at Av;obtain⟨rfl,rfl,rfl⟩:=Av;obtain⟨q1,q2,N,q3,q4,q5,q6⟩:=h.eh b _ (Cv hl h.gs);generalize hv:a.eval x=v at hx ex;cases hx with
   |own k1 k2 k3=>
    rename_i p m r;rw[k2]at q3;obtain⟨xs,B9,G2,MC,BY,AF,AT⟩:=Zz q3;split at he
    ·rename_i l;simp only[Af]at he;subst he;obtain⟨ka,ai,kb,bi,mm,d1,d2,d3,d4,d5,d6⟩:Cn.den c.ρ (.win c0 l (.len c0)):=BG hc;have S9:mm=(m:Int):=by rw[B9]at d3;simp only[AV.len,AV.int.injEq,true_and]at d3;omega
     obtain⟨an,rfl⟩:=Int.eq_ofNat_of_zero_le d4;obtain⟨ol,BO,hol⟩:∃ol,lo=some ol/\Bn sl0 [] ol=some (.e l):=by
      rcases Ga Bw with⟨_,hh⟩|⟨ol,sl',Iw,Mt,Mv⟩
      ·cases hh
      ·cases Mv;exact⟨ol,Iw,Mt⟩
     have F4:hi=none:=by
      rcases Ga HV with⟨hh,_⟩|⟨_,_,_,_,hh⟩
      ·exact hh
      ·cases hh
     subst BO;subst F4;have MA:=ival (h.ch hol (IE _ rfl)) d1;have hle:an<=m:=by omega
     have AH:=Ro (P:=P) (w:=c.w) (lo:=(some ol).map a.eval) (hi:=(none:Option Operand).map a.eval) hu Bb p m r an m (.inr ⟨ka,by rw[Option.map_some,MA]⟩) (.inl ⟨rfl,rfl⟩) hle (Ay _) MC;have:=SR.wown (c:=c) (lo:=l) (sz:=P.cellsOf el) (q':=if r=an then p else p.map (·.add (an*P.cellsOf el))) (r:=r-an) k1 k2 d1 d4 (by omega) (λAI=>by
      rcases AT with⟨_,Dw,_⟩|⟨g9,C,rfl,_⟩
      ·omega
      ·exact⟨g9,rfl,by rw[if_neg (by omega)];simp[Addr.add_lit],by simp⟩) .nil
     refine Aw.pure h (v:=sliced p an m r (P.cellsOf el)) ?_ (by simpa[sliced]using this) rfl;rw[ex];show Result.andThen (Sem.run P (Instr.sliceAt t (.slice p m r) ((some ol).map a.eval) ((none:Option Operand).map a.eval) none) c.w) _=_;rw[AH];rfl
    ·rename_i hb;simp only[Af]at he;subst he;obtain⟨ka,ai,kb,bi,mm,d1,d2,d3,d4,d5,d6⟩:Cn.den c.ρ (.win c0 (.int .i64 0) hb):=BG hc;have S9:mm=(m:Int):=by rw[B9]at d3;simp only[AV.len,AV.int.injEq,true_and]at d3;omega
     simp only[E.den,AV.int.injEq]at d1;obtain⟨_,rfl⟩:=d1;obtain⟨bn,rfl⟩:=Int.eq_ofNat_of_zero_le d5;obtain⟨oh,F4,Xd⟩:∃oh,hi=some oh/\Bn sl0 [] oh=some (.e hb):=by
      rcases Ga HV with⟨_,hh⟩|⟨ol,sl',Iw,Mt,Mv⟩
      ·cases hh
      ·cases Mv;exact⟨ol,Iw,Mt⟩
     have BO:lo=none:=by
      rcases Ga Bw with⟨hh,_⟩|⟨_,_,_,_,hh⟩
      ·exact hh
      ·cases hh
     subst BO;subst F4;have MA:=ival (h.ch Xd (Hy _ rfl)) d2;have hle:bn<=m:=by omega
     have AH:=Ro (P:=P) (w:=c.w) (lo:=(none:Option Operand).map a.eval) (hi:=(some oh).map a.eval) hu Bb p m r 0 bn (.inl ⟨rfl,rfl⟩) (.inr ⟨kb,by rw[Option.map_some,MA]⟩) (Nat.zero_le _) hle MC;have CS:sliced p 0 bn r (P.cellsOf el)= .slice p bn r:=by
      unfold sliced;rcases AT with⟨_,_,rfl,_⟩|⟨g9,C,rfl,_⟩
      ·simp
      ·split<;>simp[Addr.add_lit]
     rw[CS]at AH;have CN:(execOp a.eval o).run P c.w= .ok (.value (.slice p bn r)) c.w:=by rw[ex];show Result.andThen (Sem.run P (Instr.sliceAt t (.slice p m r) ((none:Option Operand).map a.eval) ((some oh).map a.eval) none) c.w) _=_;rw[AH];rfl
     have AZ: ¬c.K b (g+1):=λhk=>by have:=q2 _ hk;omega
     have hrel:=h.rel;have DI:=hrel.ax (gs:=[]) (t:=b) (g:=g+1) (w':=c.w) (row:=(c.G b).top.head?) (top:=(c.G b).top) (O:=if d=true then(c.G b).O else []) (v:= .slice p bn r) (.inr (by omega)) AZ ⟨rfl,rfl,rfl,Ay _,λ_ _ _=>rfl⟩ (λg0 EO=> .inl (List.mem_of_mem_head? EO)) (by
       rcases AT with⟨_,_,_,ht,_⟩|⟨g9,C,_,_,_,_,ht,_⟩
       ·exact .inl ht
       ·exact .inr ⟨g9,by rw[ht];rfl,ht⟩) (by split;exact .inr rfl;exact .inl rfl)
      (.row el (P.cellsOf el) (g+1) (.win c0 (.int .i64 0) hb) d) (by intros;simp) (Et _) (λF5=>by
       have Ft:(E.win c0 (.int .i64 0) hb).den c.ρ= .sl (xs.take bn):=by simp only[E.den,B9,d2,AV.win];simp
       obtain⟨N',Br,SX⟩:∃N',CQ c.w el (P.cellsOf el) (.slice p bn r) (.sl (xs.take bn)) (c.G b).top N'/\ ∀q∈N',q∈N:=by
        rcases AT with⟨rfl,Dw,rfl,ht,rfl⟩|⟨g9,C,rfl,EP,NR,hC,ht,h1,Dm⟩
        ·have:bn=0:=by omega
         subst this;exact⟨[],⟨[],by simp,by simp,BY, .inl ⟨rfl,⟨p,rfl⟩,ht,rfl⟩⟩,by simp⟩
        ·obtain⟨N',V7,CL⟩:=Dm.piece 0 (bn*P.cellsOf el);have IC:(xs.take bn).length=bn:=by rw[A1];omega
         have hmul:bn*P.cellsOf el<=m*P.cellsOf el:=BB _ hle;have ef:=Zv xs AF 0 bn (Nat.zero_le _) (by omega);simp only[Nat.zero_mul,Nat.sub_zero,List.drop_zero]at ef CL;rw[ef,List.take_take,Nat.min_eq_left hmul]at CL;refine⟨N',⟨xs.take bn,rfl,λy hy=>AF y (BM hy),BY, .inr ⟨g9,r,C,by rw[IC],by rw[IC];omega,EP,NR,hC,ht,?_,?_⟩⟩,V7⟩
         ·rw[IC];intro u hu;refine h1 u ?_;have:C.toList.take (bn*P.cellsOf el)=(C.toList.take (m*P.cellsOf el)).take (bn*P.cellsOf el):=by rw[List.take_take,Nat.min_eq_left hmul]
          rw[this]at hu;exact BM hu
         ·rw[IC];exact CL
       refine⟨.inr ⟨rfl,rfl⟩,λg'' Ms=> ?_,N',?_,λq hq=>F5.ok q (Br.ll q hq) (q4 q (SX q hq)),λhd=> ?_,λhd=>by simp[Cx.ax,hd]⟩
       ·rcases Ms with Ms|⟨_,rfl⟩
        ·have:=q2 _ Ms;omega
        ·exact Ay _
       ·have e1:(c.ax b (g+1) c.w (.slice p bn r) (c.G b).top (if d=true then(c.G b).O else [])).H b (g+1)= .slice p bn r:=by simp[Cx.ax]
        have e2:((c.ax b (g+1) c.w (.slice p bn r) (c.G b).top (if d=true then(c.G b).O else [])).G b).top=(c.G b).top:=by simp[Cx.ax]
        rw[e1,e2];show CQ c.w el (P.cellsOf el) _ ((E.win c0 (.int .i64 0) hb).den c.ρ) _ N';rw[Ft];exact Br
       ·obtain⟨u1,u2⟩:=q5 hd;have u1:N=[]:=u1;subst u1;have Mb:N'=[]:=List.eq_nil_iff_forall_not_mem.2 λq hq=>by simpa using SX q hq
        subst Mb;exact⟨rfl,by simp only[Cx.ax,if_true,hd];exact u2⟩)
     intro next Q hk
     unfold Oper.wp;rw[CN,Oper.upon_value];refine hk _ (c.ax b (g+1) c.w (.slice p bn r) (c.G b).top (if d=true then(c.G b).O else [])) ⟨rfl,rfl,rfl,rfl,λu hu=> ?_⟩ (DI.put (SR.mkGd (c:=c.ax b (g+1) c.w (.slice p bn r) (c.G b).top (if d=true then(c.G b).O else [])) (s:= .own b (g+1)) (v:= .slice p bn r) (.own (show _\/_ from .inr ⟨rfl,rfl⟩) (by simp[Cx.ax]) .nil) []) o.dst);rcases hu with hu|rfl
     ·exact .inl hu
     ·exact .inl (h.rel.bc _ _ k1)
    ·cases he
  ·cases he
 ·cases he
theorem wV(z:Array Value)(hz:0<z.size)(k:Nat):(Builtin.zeroCells z k).toList=(List.replicate k z.toList).flatten:=by have:=UG z hz k;rw[<-this];rfl
theorem z7(h:Bh P c n nx sl hp a sl0 hp0 o gs){x:Operand}{tx:TypeId}{cl:Call}(ho:o.op= .call cl)(AF:cl.callee= .builtin .clear)(CD:cl.args.toList=[x])(Dv:cl.argTypes.toList=[tx]){s:SV}(hs:Bn sl0 gs x=some s)(he:ZJ P hp0 gs tx s=some e)(hc:∀q∈e.bg,Cn.den c.ρ q):Aw P o c n nx sl hp gs a e:=by
 have Au:cl.args= #[x]:=by apply Array.ext';simp[CD]
 have Fq:cl.argTypes= #[tx]:=by apply Array.ext';simp[Dv]
 have hm:x∈o.op.operands:=by simp[ho,Op.operands,Call.operands,AF,Au]
 have hx:=h.ch hs hm;unfold ZJ at he;split at he
 ·rename_i el0 b g l z Ba;have hu:=H2 Ba;split at he
  ·rename_i el z' g' c0 d hl;split at he
   ·cases he
   rename_i Av;simp only[not_or,Bt,Bool.not_eq_false,Decidable.not_not,ne_eq]at Av;obtain⟨rfl,rfl,rfl,rfl,hz,Az⟩:=Av;have Az:An P el=true\/P.cellsOf el=1:=by simpa using Az
   obtain⟨i,zv,hi,Fo,Eo,BY,B3,Hr⟩:=Ju hz;split at he
   ·rename_i q hq;split at he
    ·rename_i w hw;have hq:ED zv=some q:=by simpa[hi,Fo]using hq
     simp only[Af]at he;subst he;obtain⟨c1,c2⟩:=YQ (w:=c.w) (ρ:=c.ρ) hq hw;have AQ:=KH h.hp (Cv hl h.gs);obtain⟨q1,q2,N,q3,q4,q5,q6⟩:=h.rel.ents b _ AQ;generalize hv:a.eval x=v at hx;cases hx with
     |wown k1 k2 k3 k4 k5 k6 k7=>
      rename_i p m r q' r' kk kv;rw[k2]at q3;obtain⟨xs,B9,G2,MC,Xu,Ml,AT⟩:=Zz q3;have Mn:(E.bin .sub (.len c0) l).den c.ρ≠ .undef:=hc (.dfd (.bin .sub (.len c0) l)) (by simp);have HW:kk= .i64:=by
       simp only[E.den,B9,AV.len,k3,AV.bin]at Mn;split at Mn
       ·rename_i hh;rcases hh with hh|hh|hh
        ·exact hh.symm
        ·cases hh
        ·cases hh
       ·exact absurd rfl Mn
      subst HW;have B4:(E.bin .sub (.len c0) l).den c.ρ= .int .i64 ((m:Int)-kv):=by
       simp only[E.den,B9,AV.len,k3,AV.bin,true_or,if_true,BD,G2];congr 1;have qR:(m:Int)<=9223372036854775807:=by
        rcases AT with⟨_,h0,_⟩|⟨_,_,_,EP,_⟩
        ·omega
        ·have:maxLen=9223372036854775807:=rfl;omega
       exact(Nj .i64 _).2 ⟨by simp[IntKind.min,IntKind.signed,IntKind.bits];omega,by simp[IntKind.max,IntKind.signed,IntKind.bits];omega⟩
      have AZ:(E.app (.win c0 (.int .i64 0) l) (.rep (.bin .sub (.len c0) l) w)).den c.ρ= .sl (xs.take kv.toNat++List.replicate (m-kv.toNat) (w.den c.ρ)):=by
       have e1:(E.win c0 (.int .i64 0) l).den c.ρ= .sl (xs.take kv.toNat):=by simp only[E.den,B9,k3,AV.win];simp
       have e2:(E.rep (.bin .sub (.len c0) l) w).den c.ρ= .sl (List.replicate (m-kv.toNat) (w.den c.ρ)):=by show AV.rep ((E.bin .sub (.len c0) l).den c.ρ) (w.den c.ρ)=_;rw[B4];simp only[AV.rep];congr 2;omega
       show AV.app _ _=_;rw[e1,e2];rfl
      have ex:(execOp a.eval o).run P c.w=((Builtin.clear_ #[tx] o.type #[.slice q' (m-kv.toNat) r']).run P c.w).andThen λv w=> .ok (.value v) w:=by simp[execOp,ho,resolve,AF,Au,Fq,invoke,builtin,hv]
      rcases Nat.eq_or_lt_of_le (show kv.toNat<=m by omega)with heq|AI
      ·
       have BJ:m-kv.toNat=0:=by omega
       have AH:(execOp a.eval o).run P c.w= .ok (.value (.tuple #[])) c.w:=by rw[ex,BJ];cases q'<;>simp[Builtin.clear_,run_underlying hu]
       have A3:(E.app (.win c0 (.int .i64 0) l) (.rep (.bin .sub (.len c0) l) w)).den c.ρ=c0.den c.ρ:=by rw[AZ,B9,BJ];simp[List.take_of_length_le (show xs.length<=kv.toNat by omega)]
       intro next Q hk
       unfold Oper.wp;rw[AH,Oper.upon_value];have DI:Rel c n sl (A8 hp [(b, .row el (P.cellsOf el) g (.app (.win c0 (.int .i64 0) l) (.rep (.bin .sub (.len c0) l) w)) d)]) a:=by
        have DN:∀u,A8 hp [(b, .row el (P.cellsOf el) g (.app (.win c0 (.int .i64 0) l) (.rep (.bin .sub (.len c0) l) w)) d)] u=if u=b then some (.row el (P.cellsOf el) g (.app (.win c0 (.int .i64 0) l) (.rep (.bin .sub (.len c0) l) w)) d)else hp u:=λu=>rfl;refine h.rel.change (λu=>u=b) (DD.refl c) h.rel.base (λu hu=>⟨by rw[DN,if_neg hu],rfl,rfl,λ_ hk=>hk⟩) (λ_ _ _ _=>rfl) (λu hu=> ?_) h.rel.gw h.rel.bc (λu f hf=> ?_)
        ·subst hu;rw[DN,if_pos rfl];refine⟨λe' hr=> ?_,λhn=>absurd rfl (hn _)⟩;simp only[Cp]at hr;subst hr;exact⟨q1,q2,N,by rw[A3,k2];exact q3,q4,q5,q6⟩
        ·rw[DN]at hf;split at hf
         ·rename_i hu;subst hu;exact h.rel.bc _ _ k1
         ·exact h.rel.cg u f hf
       exact hk _ c (L3.refl _ _) (DI.put ((SR.undef .nil).mkGd []) o.dst)
      ·obtain⟨b9,dE,rfl,rfl⟩:=k6 (by omega);rcases AT with⟨_,h0,_⟩|⟨g9,C,hp',EP,NR,hC,ht,h1,Dm⟩
       ·omega
       rw[dE]at hp';cases hp';have Du:C.toList.length=r*P.cellsOf el:=by simpa using hC
       have dC:m*P.cellsOf el<=r*P.cellsOf el:=BB _ MC;have dB:(m-kv.toNat)*P.cellsOf el+kv.toNat*P.cellsOf el=m*P.cellsOf el:=by rw[<-Nat.add_mul];congr 1;omega
       have XL:=wV zv.cells (by omega) (m-kv.toNat);generalize hZ:(List.replicate (m-kv.toNat) zv.cells.toList).flatten=Z at XL;have Mf:Z.length=(m-kv.toNat)*P.cellsOf el:=by rw[<-hZ,List.length_flatten];simp only[List.map_replicate,List.sum_replicate_nat,Cc,Eo,B3]
       have cQ:∀u∈Z,u.oneCell'=true:=λu hu=>by rw[<-hZ]at hu;obtain⟨L,hL,hu⟩:=List.mem_flatten.1 hu;rw[List.eq_of_mem_replicate hL]at hu;exact c2 u hu
       have HA:=YJ (P:=P) (off:=kv.toNat*P.cellsOf el) Z 0 c.w C NR (by rw[Mf,hC];omega) cQ;have AH:(execOp a.eval o).run P c.w= .ok (.value (.tuple #[])) (putCells c.w b9 (kv.toNat*P.cellsOf el) Z):=by
        rw[ex];obtain⟨mm,S9⟩:∃mm,m-kv.toNat=mm+1:=⟨m-kv.toNat-1,by omega⟩
        have rZ:(zeroValue el).run P c.w= .ok zv c.w:=by simp[zeroValue,typeInfo,hi,Fo]
        simp only[Nat.add_zero]at HA;rw[S9]at XL ⊢;simp[Builtin.clear_,run_underlying hu,rZ,XL,HA]
       obtain⟨m1,m2,m3⟩:=UF (off:=kv.toNat*P.cellsOf el) (vs:=Z) NR (by rw[Mf,hC];omega);have Mz:(C.toList.take (m*P.cellsOf el)).length=m*P.cellsOf el:=by rw[A1,Du];omega
       have Lo:b9∈(c.G b).top:=by rw[ht];simp
       have Qa:Rd c.w Z (AA (List.replicate (m-kv.toNat) (w.den c.ρ))) []:=by rw[<-hZ];exact aT c1 _
       obtain⟨n1,n2,n3,hN,s1,s2⟩:=Rd.setVs (p:=kv.toNat*P.cellsOf el) Dm Qa (by rw[Mz,Mf];omega);have rU:(w.den c.ρ).cells.length=P.cellsOf el:=by have:=c1.len;rw[<-this];simp[Eo,B3]
       have pI:(AA (List.replicate (m-kv.toNat) (w.den c.ρ))).length=Z.length:=by rw[<-Qa.len]
       have F3:setVs (AA xs) (kv.toNat*P.cellsOf el) (AA (List.replicate (m-kv.toNat) (w.den c.ρ)))=AA (xs.take kv.toNat++List.replicate (m-kv.toNat) (w.den c.ρ)):=by
        have ef:=Zv xs Ml 0 kv.toNat (Nat.zero_le _) (by omega)
        simp only[Nat.zero_mul,Nat.sub_zero,List.drop_zero]at ef;unfold setVs;rw[ef,RA,pI,Mf,List.drop_eq_nil_of_le (by rw[M8 _ Ml,G2];omega),AJ]
       rw[F3]at s1;have BS:∀q∈n1++ []++n3,q∈N:=λq hq=>by rw[hN];simp at hq ⊢;rcases hq with hq|hq<;>simp[hq]
       have Fp:∀q,q<c.w.heap.size->c.ok q->(putCells c.w b9 (kv.toNat*P.cellsOf el) Z).heap[q]?=c.w.heap[q]?:=by intro q hq AR;refine m1.block q hq ?_;simp only[List.mem_singleton];rintro rfl;exact AR.1 ⟨b,Lo⟩
       have DJ:(xs.take kv.toNat++List.replicate (m-kv.toNat) (w.den c.ρ)).length=m:=by rw[Ap,A1,List.length_replicate];omega
       have DI:=h.rel.iy (t:=b) (b:=b9) (w':=putCells c.w b9 (kv.toNat*P.cellsOf el) Z) (O:=if d=true then(c.G b).O else []) AQ Lo (by split;exact .inr rfl;exact .inl rfl) m1 m3
        (.row el (P.cellsOf el) g (.app (.win c0 (.int .i64 0) l) (.rep (.bin .sub (.len c0) l) w)) d) (by intros;simp) (λF5=>by
         refine⟨q1,q2,n1++ []++n3,?_,λq hq=>F5.ok q (Dm.inb q (BS q hq)) (q4 q (BS q hq)),λhd=> ?_,λhd=>by simp[Cx.eu,hd]⟩
         ·show CQ (putCells c.w b9 (kv.toNat*P.cellsOf el) Z) el (P.cellsOf el) (c.H b g) ((E.app (.win c0 (.int .i64 0) l) (.rep (.bin .sub (.len c0) l) w)).den c.ρ) _ _;rw[AZ,k2,dE];refine⟨_,rfl,λy hy=> ?_,Xu, .inr ⟨b9,r,_,by rw[DJ],by rw[DJ];exact MC,EP,m2,?_,by simpa[Cx.eu]using ht,?_,?_⟩⟩
          ·rcases Ag.1 hy with hy|hy
           ·exact Ml y (BM hy)
           ·rw[List.eq_of_mem_replicate hy];exact rU
          ·rw[List.size_toArray,O8 _ _ _ (by rw[Mf,Du];omega),Cc];exact hC
          ·simp only[DJ,List.toList_toArray];rw[OU _ _ _ _ (by rw[Mf];omega) (by rw[Du];omega)];intro u hu;unfold setVs at hu;simp only[Ag]at hu;rcases hu with(hu|hu)|hu
           ·exact h1 u (BM hu)
           ·exact cQ u hu
           ·exact h1 u (Cd hu)
          ·simp only[DJ,List.toList_toArray];rw[OU _ _ _ _ (by rw[Mf];omega) (by rw[Du];omega)];exact s1.frame λq hq=>Fp q (Dm.inb q (BS q hq)) (q4 q (BS q hq))
         ·obtain⟨u1,u2⟩:=q5 hd;have u1:N=[]:=u1;subst u1;have Mb:n1++ []++n3=[]:=List.eq_nil_iff_forall_not_mem.2 λq hq=>by simpa using BS q hq
          rw[Mb];exact⟨rfl,by simp only[Cx.eu,if_true,hd];exact u2⟩)
       intro next Q hk
       unfold Oper.wp;rw[AH,Oper.upon_value];exact hk _ (c.eu _ b _) ⟨rfl,rfl,rfl,rfl,λt ht=> .inl ht⟩ (DI.put ((SR.undef .nil).mkGd []) o.dst)
    ·cases he
   ·cases he
  ·cases he
 ·cases he
end
section
variable {P:Program} {c:Cx} {n nx:Nat} {sl sl0:Nat->SV} {hp hp0:Nat->Option Ah} {a:Act} {o:Oper} {gs:Gd} {e:A2} {sg:BR} {nv:Nat}
theorem zuM(l:List DT){n i:Nat}(hi:i<=n):Ci n l=Ci i l++Ci (n-i) l:=by rw[<-ZK];congr 1;omega
theorem z6{K:Nat}{xs:List AV}(h:∀y∈xs,y.cells.length=K){i:Nat}(hi:i<=xs.length):AA (xs.take i)=(AA xs).take (i*K)/\AA (xs.drop i)=(AA xs).drop (i*K):=by
 have l1:(AA (xs.take i)).length=i*K:=by rw[M8 _ λy hy=>h y (BM hy),A1,Nat.min_eq_left hi]
 have e:AA xs=AA (xs.take i)++AA (xs.drop i):=by rw[<-RA,BV]
 rw[e,<-l1,List.take_left,List.drop_left];exact⟨rfl,rfl⟩
theorem DC.mg{w:World}{xs:List AV}{l:List DT}{K:Nat}{cs:List Value}{N:List Nat}(hK:l.length=K)(h:DC w (Ci xs.length l) cs (AA xs) N)(hx:∀y∈xs,y.cells.length=K){i:Nat}(hi:i<=xs.length):
  ∃N1 N2,N=N1++N2/\DC w (Ci i l) (cs.take (i*K)) (AA (xs.take i)) N1/\DC w (Ci (xs.length-i) l) (cs.drop (i*K)) (AA (xs.drop i)) N2:=by
 have hlen:=h.len;have t1:=z6 hx hi;have hmul:=BB K hi;rw[zuM l hi,<-BV (i*K) cs,<-BV (i*K) (AA xs)]at h;rw[Vu,hK]at hlen;obtain⟨N1,N2,rfl,h1,h2⟩:=DC.df (by rw[Vu,hK,A1];omega) (by rw[Vu,hK,A1];omega) h;exact⟨N1,N2,rfl,by rw[t1.1];exact h1,by rw[t1.2];exact h2⟩
theorem x4(h:Bh P c n nx sl hp a sl0 hp0 o gs){t:TypeId}{x:Operand}{lo hi mx:Option Operand}(ho:o.op= .slice t x lo hi mx){s:SV}(hs:Bn sl0 gs x=some s){l' h' m':Option SV}(Bw:Hf (Bn sl0 gs) lo=some l')(HV:Hf (Bn sl0 gs) hi=some h')(EZ:Hf (Bn sl0 gs) mx=some m')(he:Vw P hp0 gs nx t s l' h' m'=some e)(hc:∀q∈e.bg,Cn.den c.ρ q):Aw P o c n nx sl hp gs a e:=by
 have hm:x∈o.op.operands:=by simp[ho,Op.operands]
 have IE:∀y,lo=some y->y∈o.op.operands:=λy hy=>by simp[ho,Op.operands,hy]
 have Hy:∀y,hi=some y->y∈o.op.operands:=λy hy=>by simp[ho,Op.operands,hy]
 have hx:=h.ch hs hm;have ival:∀{x:E} {kk:IntKind} {k:Int} {v:Value},SR c [.e x] [v]->x.den c.ρ= .int kk k->v= .int kk k:=by
  intro x kk k v hr hx;cases hr with
  |e h1 _ _=>exact(FC h1 hx).1
 have ex:(execOp a.eval o).run P c.w=((Instr.sliceAt t (a.eval x) (lo.map a.eval) (hi.map a.eval) (mx.map a.eval)).run P c.w).andThen λv w=> .ok (.value v) w:=by simp[execOp,ho]
 unfold Vw at he;split at he
 ·rename_i el0 b g Ba;have hu:=H2 Ba;split at he
  ·cases he
  rename_i Bb;have Bb:C2 P el0=true:=by simpa using Bb
  have IF:mx=none:=by
   rcases Ga EZ with⟨hh,_⟩|⟨_,_,_,_,hh⟩
   ·exact hh
   ·cases hh
  subst IF;split at he
  ·rename_i el z dl g' ep c0 hl;split at he
   ·cases he
   rename_i Av;simp only[not_or,Decidable.not_not,ne_eq]at Av;obtain⟨rfl,rfl,rfl⟩:=Av;obtain⟨q1,q2,_,q4,_⟩:=h.eh b _ (Cv hl h.gs);generalize hv:a.eval x=v at hx ex;cases hx with
   |own k1 k2 k3=>
    rename_i p m r;rw[k2]at q4;obtain⟨_,q3,_⟩:=q4.ownRow;obtain⟨xs,B9,G2,MC,BY,AF,AT⟩:=Zz q3;split at he
    ·rename_i l;simp only[Af]at he;subst he;obtain⟨ka,ai,kb,bi,mm,d1,d2,d3,d4,d5,d6⟩:Cn.den c.ρ (.win c0 l (.len c0)):=BG hc;have S9:mm=(m:Int):=by rw[B9]at d3;simp only[AV.len,AV.int.injEq,true_and]at d3;omega
     obtain⟨an,rfl⟩:=Int.eq_ofNat_of_zero_le d4;obtain⟨ol,BO,hol⟩:∃ol,lo=some ol/\Bn sl0 [] ol=some (.e l):=by
      rcases Ga Bw with⟨_,hh⟩|⟨ol,sl',Iw,Mt,Mv⟩
      ·cases hh
      ·cases Mv;exact⟨ol,Iw,Mt⟩
     have F4:hi=none:=by
      rcases Ga HV with⟨hh,_⟩|⟨_,_,_,_,hh⟩
      ·exact hh
      ·cases hh
     subst BO;subst F4;have MA:=ival (h.ch hol (IE _ rfl)) d1;have hle:an<=m:=by omega
     have AH:=Ro (P:=P) (w:=c.w) (lo:=(some ol).map a.eval) (hi:=(none:Option Operand).map a.eval) hu Bb p m r an m (.inr ⟨ka,by rw[Option.map_some,MA]⟩) (.inl ⟨rfl,rfl⟩) hle (Ay _) MC;have:=SR.wown (c:=c) (lo:=l) (sz:=P.cellsOf el) (q':=if r=an then p else p.map (·.add (an*P.cellsOf el))) (r:=r-an) k1 k2 d1 d4 (by omega) (λAI=>by
      rcases AT with⟨_,Dw,_⟩|⟨g9,C,rfl,_⟩
      ·omega
      ·exact⟨g9,rfl,by rw[if_neg (by omega)];simp[Addr.add_lit],by simp⟩) .nil
     refine Aw.pure h (v:=sliced p an m r (P.cellsOf el)) ?_ (by simpa[sliced]using this) rfl;rw[ex];show Result.andThen (Sem.run P (Instr.sliceAt t (.slice p m r) ((some ol).map a.eval) ((none:Option Operand).map a.eval) none) c.w) _=_;rw[AH];rfl
    ·cases he
  ·rename_i el z dl g' ep c0 kE hl;split at he
   ·cases he
   rename_i Av;simp only[not_or,Decidable.not_not,ne_eq]at Av;obtain⟨rfl,rfl,rfl⟩:=Av;obtain⟨q1,q2,_,⟨p',cap',ys,kk,kv,e1,e2,e3,e4,e5,e6⟩,_⟩:=h.eh b _ (Cv hl h.gs);generalize hv:a.eval x=v at hx ex;cases hx with
   |own k1 k2 k3=>
    rename_i p m r;rw[k2]at e1;simp only[Value.slice.injEq]at e1;obtain⟨rfl,rfl,rfl⟩:=e1;split at he
    ·rename_i hb;split at he
     ·rename_i Mi;rw[<-E.aj c.ρ _ _ Mi]at e3;simp only[Af]at he;subst he;obtain⟨oh,F4,Xd⟩:∃oh,hi=some oh/\Bn sl0 [] oh=some (.e hb):=by
       rcases Ga HV with⟨_,hh⟩|⟨ol,sl',Iw,Mt,Mv⟩
       ·cases hh
       ·cases Mv;exact⟨ol,Iw,Mt⟩
      have BO:lo=none:=by
       rcases Ga Bw with⟨hh,_⟩|⟨_,_,_,_,hh⟩
       ·exact hh
       ·cases hh
      subst BO;subst F4;have MA:=ival (h.ch Xd (Hy _ rfl)) e3;have AH:=Ro (P:=P) (w:=c.w) (lo:=(none:Option Operand).map a.eval) (hi:=(some oh).map a.eval) hu Bb p ys.length r 0 kv (.inl ⟨rfl,rfl⟩) (.inr ⟨kk,by rw[Option.map_some,MA]⟩) (Nat.zero_le _) e4 e5;have CS:sliced p 0 kv r (P.cellsOf el)= .slice p kv r:=by
       obtain⟨_,_,⟨a9,h9,_⟩|⟨g9,cap,C,zs,N1,h9,_⟩⟩:=e6.inv
       ·simp only[Value.slice.injEq]at h9;obtain⟨rfl,_,rfl⟩:=h9;simp[sliced]
       ·simp only[Value.slice.injEq]at h9;obtain⟨rfl,_,_⟩:=h9;unfold sliced;split<;>simp[Addr.add_lit]
      rw[CS]at AH;have CN:(execOp a.eval o).run P c.w= .ok (.value (.slice p kv r)) c.w:=by rw[ex];show Result.andThen (Sem.run P (Instr.sliceAt t (.slice p ys.length r) ((none:Option Operand).map a.eval) ((some oh).map a.eval) none) c.w) _=_;rw[AH];rfl
      have Ft:(E.win c0 (.int .i64 0) hb).den c.ρ= .sl (ys.take kv):=by simp only[E.den,e2,e3,AV.win];simp
      have Cb:B6 c [b]=(c.G b).top:=by simp[B6]
      have B8:=h.rel.gw.nodup b;simp only[GI.own]at B8;exact Aw.ee h (T:=[b]) (by simp) (by simpa using⟨_,q1⟩) CN (Mod.refl _ _) (top:=(c.G b).top) (List.nodup_append.1 B8).1 (λq hq=>⟨.inl (by rw[Cb];exact hq),h.rel.gw.inb b q (by simp[GI.own,hq])⟩) (by rw[Ft];exact e6)
     ·cases he
    ·cases he
  ·cases he
 ·cases he
theorem yT{x y:Operand}{tx:TypeId}{cl:Call}(ho:o.op= .call cl)(AF:cl.callee= .builtin .append)(CD:cl.args.toList=[x,y])(Dv:cl.argTypes.toList=[tx,tx])
  {el:TypeId} (Ba:P.underlying tx=some (.slice el)) (hz:GB P el=true) {l:List DT} (hl:l.length=P.cellsOf el) {TT:List Nat} (SY:TT.Nodup) (JV:∀b∈TT,b<c.w.heap.size) {N2:List Nat} (Md:N2.Nodup) (Ik:∀b∈N2,b<c.w.heap.size) (P7:∀b∈N2,b∉TT)
  {ys:List AV} {q:Option Addr} {r:Nat} {news:List Value} (C6:a.eval y= .slice q ys.length r) (ES:Src c.w (P.cellsOf el) q ys.length news) (Mp:DC c.w (Ci ys.length l) news (AA ys) N2) (HY:∀y∈ys,y.cells.length=P.cellsOf el) (MD:∀u∈news,u.oneCell'=true)
  {X:AV} {v:Value} (hv:a.eval x=v) (CE:DC c.w [.row el (P.cellsOf el) (AG.of l)] [v] [X] TT) {xs:List AV} (hX:X= .sl xs) (Le:((xs.length:Int)+ys.length)*P.bytesOf el<=140737488355328) (Tf:(xs.length:Int)+ys.length<=140737488355328):
  ∃v' w' top,(execOp a.eval o).run P c.w= .ok (.value v') w'/\Mod TT c.w w'/\top.Nodup/\(∀b∈top,(b∈TT\/b∈N2\/c.w.heap.size<=b)/\b<w'.heap.size)/\DC w' [.row el (P.cellsOf el) (AG.of l)] [v'] [.sl (xs++ys)] top:=by
 have Au:cl.args= #[x,y]:=by apply Array.ext';simp[CD]
 have Fq:cl.argTypes= #[tx,tx]:=by apply Array.ext';simp[Dv]
 obtain⟨i,z,hi,Fo,Eo,BY,B3,Hr⟩:=Ju hz;obtain⟨d1,d2,AT⟩:=CE.inv;rw[AG.ak]at d2 AT;subst hX;obtain⟨old,N1,hold,E2,Ww,F9,CA,Jl,Mc⟩:∃(old:List Value) (N1:List Nat),old.length=xs.length*i.size/\((xs.length=0/\ ∃q,v= .slice q 0 0)\/ ∃g cap C,v= .slice (some ⟨g,0,none⟩) xs.length cap/\xs.length<=cap/\cap<=maxLen/\c.w.heap[g]?=some (.cells C el (0,0))/\C.size=cap*i.size/\old=C.toList.take (xs.length*i.size)/\(g∈TT/\g∉N1))/\
   DC c.w (Ci xs.length l) old (AA xs) N1/\(∀y∈xs,y.cells.length=P.cellsOf el)/\(∀u∈old,u.oneCell'=true)/\(∀b∈N1,b∈TT)/\N1.Nodup:=by
  rcases AT with⟨p,rfl,E6,rfl⟩|⟨g9,cap,C,xs',N1,rfl,E6,rfl,h6,h7,h8,h9,EM,Ea,P0⟩
  ·cases E6;exact⟨[],[],by simp, .inl ⟨rfl,p,rfl⟩,by simpa[Ci,AA]using DC.nil,by simp,by simp,by simp,by simp⟩
  ·cases E6;rw[List.nodup_cons]at SY;refine⟨_,N1,?_, .inr ⟨g9,cap,C,rfl,h7,h8,h6,by rw[<-B3];exact h9,rfl,by simp,SY.1⟩,by rw[<-B3];exact P0,EM,by rw[<-B3];exact Ea,λb hb=>by simp[hb],SY.2⟩;have e9:C.toList.length=cap*i.size:=by rw[<-B3,<-h9];simp
   rw[A1,e9];exact Nat.min_eq_left (BB _ h7)
 have Ho:(xs.length+ys.length)*i.bytes<=140737488355328:=by
  rw[Hr]at Le;have h9:(((xs.length+ys.length)*i.bytes:Nat):Int)<=140737488355328:=by rw[Int.natCast_mul,Int.natCast_add];exact Le
  omega
 have F2:xs.length+ys.length<=140737488355328:=by omega
 rw[B3]at ES;obtain⟨v',w',AH,AQ⟩:=aM (P:=P) c.w tx o.type el i z Ba hi Fo Eo BY (λg9=>g9∈TT/\g9∉N1) v xs.length old hold E2 q ys.length r news ES (by simp only[maxLen];omega) Ho;have CN:(execOp a.eval o).run P c.w= .ok (.value v') w':=by simp[execOp,ho,resolve,AF,Au,Fq,invoke,builtin,hv,C6,AH]
 rcases AQ with⟨rfl,rfl,Dw⟩|⟨g9,cap,C,rfl,h1,h2,h3,h4,h5,h6,h7⟩
 ·have G3:ys=[]:=List.eq_nil_of_length_eq_zero Dw;subst G3;refine⟨_,_,TT,CN,Mod.refl _ _,SY,λb hb=>⟨.inl hb,JV b hb⟩,?_⟩;rw[AJ];exact CE
 ·have Ht:(g9∈TT\/c.w.heap.size<=g9)/\g9∉N1/\g9∉N2:=by
   rcases h7 with⟨rfl,_⟩|⟨hg,Cg⟩
   ·refine⟨.inr (Ay _),λhh=> ?_,λhh=> ?_⟩
    ·have:=JV _ (Jl _ hh);omega
    ·have:=Ik _ hh;omega
   ·exact⟨.inl hg,Cg,λhh=>P7 _ hh hg⟩
  have A3:∀b∈N1++N2,w'.heap[b]?=c.w.heap[b]?:=λb hb=>by
   have AI:b<c.w.heap.size:=by
    rcases Ag.1 hb with hb|hb
    ·exact JV b (Jl b hb)
    ·exact Ik b hb
   refine h6.block b AI λhh=> ?_;cases hh;rcases Ag.1 hb with hb|hb
   ·exact Ht.2.1 hb
   ·exact Ht.2.2 hb
  refine⟨_,w',g9::(N1++N2),CN,Zo h6 λg hg=> ?_,?_,λb hb=> ?_,?_⟩
  ·cases hg;exact Ht.1
  ·refine List.nodup_cons.2 ⟨λhh=> ?_,List.nodup_append.2 ⟨Mc,Md,λp hp q hq e=>P7 q hq (e▸Jl p hp)⟩⟩;rcases Ag.1 hh with hh|hh
   ·exact Ht.2.1 hh
   ·exact Ht.2.2 hh
  ·rcases Ad.1 hb with rfl|hb
   ·exact⟨Ht.1.elim .inl λh=> .inr (.inr h),Fv h3⟩
   ·rcases Ag.1 hb with hb|hb
    ·exact⟨.inl (Jl b hb),Nat.lt_of_lt_of_le (JV b (Jl b hb)) h6.size⟩
    ·exact⟨.inr (.inl hb),Nat.lt_of_lt_of_le (Ik b hb) h6.size⟩
  ·have hlen:(xs++ys).length=xs.length+ys.length:=Ap;rw[B3]at d1 d2 F9 HY ⊢;have:=DC.row (w:=w') (e:=el) (z:=i.size) (l:=AG.of l) (g:=g9) (cap:=cap) (C:=C) (ys:=xs++ys) (N1:=N1++N2) (ts:=[]) (vs:=[]) (xs:=[]) (N:=[]) d1 (by rw[AG.ak];exact d2) h3 (by rw[hlen];exact h1) h2 h4 (λw hw=> ?_) (by
     rw[hlen,h5];intro u hu;rcases Ag.1 hu with hu|hu
     ·exact CA u hu
     ·exact MD u hu) (by
     rw[hlen,h5,RA,ZK,AG.ak];exact(Ww.app Mp).frame A3) .nil
   ·rw[hlen]at this;simpa using this
   ·rcases Ag.1 hw with hw|hw
    ·exact F9 w hw
    ·exact HY w hw
theorem xK(h:Bh P c n nx sl hp a sl0 hp0 o gs){x y:Operand}{tx ty:TypeId}{cl:Call}(ho:o.op= .call cl)(AF:cl.callee= .builtin .append)(CD:cl.args.toList=[x,y])(Dv:cl.argTypes.toList=[tx,ty])
  {s1 s2:SV} (BA:Bn sl0 gs x=some s1) (AY:Bn sl0 gs y=some s2) (he:Vr P hp0 gs nx tx ty s1 s2=some e) (hc:∀q∈e.bg,Cn.den c.ρ q):Aw P o c n nx sl hp gs a e:=by
 have Au:cl.args= #[x,y]:=by apply Array.ext';simp[CD]
 have DK:x∈o.op.operands:=by simp[ho,Op.operands,Call.operands,AF,Au]
 have Dl:y∈o.op.operands:=by simp[ho,Op.operands,Call.operands,AF,Au]
 unfold Vr at he;split at he
 ·cases he
 rename_i IL;have IL:tx=ty:=by simpa using IL
 subst IL;split at he
 ·rename_i el e' z dl t g2 b g lo z' Ba Dk;have Is:=H2 Ba;split at he
  ·cases he
  rename_i Av;simp only[not_or,Bt,Bool.not_eq_false,ne_eq,Decidable.not_not]at Av;obtain⟨hz,rfl,rfl,rfl,Ti⟩:=Av;obtain⟨_,_,l,ID,DJ⟩:=RY (U9 Ba) Dk;simp only[DT.row.injEq,true_and]at ID;subst ID;rw[AG.ak]at he;have r1:=h.ch BA DK;have r2:=h.ch AY Dl;split at he
  ·rename_i e2 z2 l2 g2' ep2 c2 e3 z3 l3 g3 ep c0 AI qL;split at he
   ·rename_i hh;obtain⟨rfl,rfl,F2,rfl,rfl,rfl,Qb,rfl⟩:=hh;have F2:=AG.ej F2;have Qb:=AG.ej Qb;subst F2;subst Qb;simp only[Af]at he;subst he;obtain⟨qt1,qt2,qt3,qt4,qt5⟩:=h.eh t _ (Cv AI h.gs);obtain⟨qb1,qb2,qb3,qb4,qb5⟩:=h.eh b _ (Cv qL h.gs);obtain⟨ka,ai,kb,bi,mm,d1,d2,d3,d4,d5,d6⟩:Cn.den c.ρ (.win c0 lo (.len c0)):=hc _ (by simp);obtain⟨m1,m2,rr1,rr2,rr3,rr4⟩:Cn.den c.ρ (.room c2 (.win c0 lo (.len c0)) (P.bytesOf e3)):=hc _ (by simp);generalize rR:a.eval x=v at r1;generalize rS:a.eval y=v2 at r2;cases r1 with
    |own k1 k2 k3=>
     cases r2 with
     | @wown _ _ _ _ qq nn cap qq' r kk kI _ _ j1 j2 j3 j4 j5 j6 j7=>
      have rL:(c.G t).top.Nodup:=by have:=h.rel.gw.nodup t;simp only[GI.own]at this;exact(List.nodup_append.1 this).1
      have Wj:(c.G b).top.Nodup:=by have:=h.rel.gw.nodup b;simp only[GI.own]at this;exact(List.nodup_append.1 this).1
      have Xv:∀q∈(c.G t).top,q<c.w.heap.size:=λq hq=>h.rel.gw.inb t q (by simp[GI.own,hq]);have J0:∀q∈(c.G b).top,q<c.w.heap.size:=λq hq=>h.rel.gw.inb b q (by simp[GI.own,hq]);have NQ:∀q∈(c.G b).top,q∉(c.G t).top:=λq hq Ka=>h.rel.gw.cc b t (λe=>Ti e.symm) q (by simp[GI.own,hq]) (by simp[GI.own,Ka]);obtain⟨z1,z2',AT⟩:=qb4.inv;rw[AG.ak]at z2' AT;obtain⟨an,rfl⟩:=Int.eq_ofNat_of_zero_le j4;obtain⟨ys,news,NB,CX,Jp,ES,Mp,HY,MD,V8,topb,E4,Me,Xj⟩:∃(ys:List AV) (news:List Value) (NB:List Nat),(E.win c0 lo (.len c0)).den c.ρ= .sl ys/\ys.length=nn-an/\Src c.w (P.cellsOf e3) qq' ys.length news/\DC c.w (Ci ys.length l3) news (AA ys) NB/\(∀y∈ys,y.cells.length=P.cellsOf e3)/\(∀u∈news,u.oneCell'=true)/\(∀q∈NB,q∈(c.G b).top)/\
        ∃topb:List Nat,(∀q∈topb,q∈(c.G b).top)/\(topb++NB).Nodup/\ ∀w':World,(∀q∈topb,w'.heap[q]?=c.w.heap[q]?)-> ∃(p:Option Addr) (cp:Nat) (zs:List AV),c.H b g= .slice p zs.length cp/\c0.den c.ρ= .sl zs/\an<=zs.length/\zs.length<=cp/\DC w' [.row e3 (P.cellsOf e3) (AG.of l3)] [.slice p an cp] [.sl (zs.take an)] topb:=by
       rcases AT with⟨a9,hH,E6,Lk⟩|⟨g9,cp,C,zs,N1,hH,E6,Lk,h6,h7,h8,h9,EM,Ea,P0⟩
       ·rw[j2]at hH;simp only[Value.slice.injEq]at hH;obtain⟨rfl,rfl,rfl⟩:=hH;have pJ:an=0:=by omega
        subst pJ;have Ln:(E.win c0 lo (.len c0)).den c.ρ= .sl []:=by simp only[E.den,E6,j3,AV.win,AV.len];simp
        refine⟨[],[],[],Ln,by simp,?_,by simpa[Ci,AA]using DC.nil,by simp,by simp,by simp,[],by simp,by simp,λw' _=>⟨qq,0,[],by rw[j2];rfl,E6,by simp,by simp, .void z1 (by rw[AG.ak];exact z2') .nil⟩⟩;cases qq' with
        |none=>exact .inl ⟨rfl,rfl,rfl⟩
        |some ad=>exact .inr ⟨ad,rfl,by simp,by simp,by simp⟩
       ·rw[j2]at hH;simp only[Value.slice.injEq]at hH;obtain⟨rfl,rfl,rfl⟩:=hH;have hle:an<=zs.length:=by omega
        obtain⟨NA,NB,hN,c1,c2'⟩:=P0.mg z2' EM hle;have hmul:=BB (P.cellsOf e3) hle;have Eh:=BB (P.cellsOf e3) h7;have Du:C.toList.length=cap*P.cellsOf e3:=by simpa using h9
        have Ln:(E.win c0 lo (.len c0)).den c.ρ= .sl (zs.drop an):=by simp only[E.den,E6,j3,AV.win,AV.len];simp
        have Mo:(zs.drop an).length=zs.length-an:=Dp;rw[Lk]at Wj;rw[hN]at Wj;refine⟨zs.drop an,(C.toList.take (zs.length*P.cellsOf e3)).drop (an*P.cellsOf e3),NB,Ln,Mo,?_,by rw[Mo];exact c2',λy hy=>EM y (Cd hy),λu hu=>Ea u (Cd hu),λq hq=>by rw[Lk,hN];simp[hq],g9::NA,λq hq=>by rw[Lk,hN];rcases Ad.1 hq with rfl|hq<;>simp_all,by simpa using Wj,λw' dM=>⟨some ⟨g9,0,none⟩,cap,zs,by rw[j2],E6,hle,h7,?_⟩⟩
        ·rw[Mo];by_cases AI:an<zs.length
         ·obtain⟨b9,NR,Ka,_⟩:=j6 (by omega);cases NR;subst Ka;refine .inr ⟨_,rfl,?_,λj u hj=> ?_,λu hu=>Ea u (Cd hu)⟩
          ·rw[Dp,A1,Du,Nat.min_eq_left Eh,Nat.sub_mul]
          ·rw[Addr.add_lit,D5 h6];rw[List.getElem?_drop,List.getElem?_take]at hj;split at hj
           ·rw[Array.getElem?_toList]at hj;simpa using hj
           ·cases hj
         ·have:zs.length-an=0:=by omega
          rw[this];have e0:(C.toList.take (zs.length*P.cellsOf e3)).drop (an*P.cellsOf e3)=[]:=by
           apply List.drop_eq_nil_of_le;rw[A1];have:zs.length=an:=by omega
           rw[this];omega
          rw[e0];cases qq' with
          |none=>exact .inl ⟨rfl,rfl,rfl⟩
          |some ad=>exact .inr ⟨ad,rfl,by simp,by simp,by simp⟩
        ·have IC:(zs.take an).length=an:=by rw[A1];omega
         have e5:C.toList.take (an*P.cellsOf e3)=(C.toList.take (zs.length*P.cellsOf e3)).take (an*P.cellsOf e3):=by rw[List.take_take,Nat.min_eq_left hmul]
         have:=DC.row (w:=w') (e:=e3) (z:=P.cellsOf e3) (l:=AG.of l3) (g:=g9) (cap:=cap) (C:=C) (ys:=zs.take an) (N1:=NA) (ts:=[]) (vs:=[]) (xs:=[]) (N:=[]) z1 (by rw[AG.ak];exact z2') (by rw[dM g9 (by simp)];exact h6) (by rw[IC];omega) h8 h9 (λy hy=>EM y (BM hy)) (by
           rw[IC,e5];intro u hu;exact Ea u (BM hu)) (by
           rw[IC,e5,AG.ak];exact c1.frame λq hq=>dM q (by simp[hq])) .nil
         rw[IC]at this;simpa using this
      have V9:NB.Nodup:=(List.nodup_append.1 Me).2.1;obtain⟨xs,B9⟩:∃xs,c2.den c.ρ= .sl xs:=by
       obtain⟨_,_,⟨_,_,hh,_⟩|⟨_,_,_,zs,_,_,hh,_⟩⟩:=qt4.inv
       ·exact⟨_,hh⟩
       ·exact⟨_,hh⟩
      have cZ:(nn:Int)-(an:Int)=(ys.length:Int):=by omega
      rw[B9]at rr1;rw[CX]at rr2;simp only[AV.len,AV.int.injEq,true_and]at rr1 rr2;have C6:a.eval y= .slice qq' ys.length r:=by rw[rS];congr 1;omega
      obtain⟨v',w',top,AH,Cq,QY,Em,Qk⟩:=yT (c:=c) (o:=o) (a:=a) ho AF CD Dv Is hz DJ rL Xv V9 (λq hq=>J0 q (V8 q hq)) (λq hq=>NQ q (V8 q hq)) C6 ES Mp HY MD rR (by rw[<-k2];exact qt4) B9 (by rw[rr1,rr2];exact rr3) (by rw[rr1,rr2];exact rr4);have JX:(E.app c2 (.win c0 lo (.len c0))).den c.ρ= .sl (xs++ys):=by have:(E.app c2 (.win c0 lo (.len c0))).den c.ρ=AV.app (c2.den c.ρ) ((E.win c0 lo (.len c0)).den c.ρ):=rfl;rw[this,B9,CX];rfl
      have cP:=h.rel.bc _ _ qt1;have Wg:=h.rel.bc _ _ qb1;have NO:=LF h;have Ej:nx≠t:=λe=>NO (e▸cP);have Hz:nx≠b:=λe=>NO (e▸Wg);obtain⟨recs,AU⟩:∃recs:List AM,recs=[⟨nx,some v',top, .deep e3 (P.cellsOf e3) l3 0 0 (.app c2 (.win c0 lo (.len c0)))⟩,⟨b,none,topb, .pre e3 (P.cellsOf e3) l3 g (ep+1) c0 lo⟩,⟨t,none,[], .dead⟩]:=⟨_,rfl⟩
      have Db:∀r∈recs,r=⟨nx,some v',top, .deep e3 (P.cellsOf e3) l3 0 0 (.app c2 (.win c0 lo (.len c0)))⟩\/r=⟨b,none,topb, .pre e3 (P.cellsOf e3) l3 g (ep+1) c0 lo⟩\/r=⟨t,none,[], .dead⟩:=λr hr=>by rw[AU]at hr;simpa using hr
      have hn:(recs.map AM.tag).Nodup:=by rw[AU];simp[Ej,Hz];exact λe=>Ti e.symm
      have AZ:∀r∈recs,r.new.isSome=true-> ¬c.U r.tag:=λr hr hs=>by
       rcases Db r hr with rfl|rfl|rfl
       ·exact NO
       ·cases hs
       ·cases hs
      have aft:=Cx.c9 (w':=w') h.rel.bc hn AZ;have J8:(⟨nx,some v',top, .deep e3 (P.cellsOf e3) l3 0 0 (.app c2 (.win c0 lo (.len c0)))⟩:AM)∈recs:=by rw[AU];simp
      have MB:(⟨b,none,topb, .pre e3 (P.cellsOf e3) l3 g (ep+1) c0 lo⟩:AM)∈recs:=by rw[AU];simp
      have QB:(⟨t,none,[], .dead⟩:AM)∈recs:=by rw[AU];simp
      have MM:∀q∈topb,q∉NB:=λq hq Ka=>(List.nodup_append.1 Me).2.2 q hq q Ka rfl;obtain⟨q1,q2⟩:=h.rel.changes (recs:=recs) (gs:=[]) (hs:=(c.G t).top++(c.G b).top) (Et _) (Cq.weaken λq hq=> .inl (by simp[hq])) hn AZ (λq hq=>by
        rcases Ag.1 hq with hq|hq
        ·exact⟨_,QB,hq⟩
        ·exact⟨_,MB,hq⟩)
       (by
        rw[AU];simp only[List.flatMap_cons,List.flatMap_nil,AJ];refine List.nodup_append.2 ⟨QY,(List.nodup_append.1 Me).1,λp hp q hq e=> ?_⟩;subst e;rcases(Em p hp).1 with hh|hh|hh
        ·exact NQ p (E4 p hq) hh
        ·exact MM p hq hh
        ·have:=J0 p (E4 p hq);omega)
       (λr hr q hq=>by
        rcases Db r hr with rfl|rfl|rfl
        ·obtain⟨k1',k2'⟩:=Em q hq;refine⟨?_,k2'⟩;rcases k1' with hh|hh|hh
         ·exact .inl (by simp[hh])
         ·exact .inl (by simp[V8 q hh])
         ·exact .inr hh
        ·exact⟨.inl (by simp[E4 q hq]),Nat.lt_of_lt_of_le (J0 q (E4 q hq)) Cq.size⟩
        ·cases hq)
       (λr hr=>by rcases Db r hr with rfl|rfl|rfl<;>(intros;simp))
       (λhk r hr=>by
        rcases Db r hr with rfl|rfl|rfl
        ·obtain⟨k1',k2',k3'⟩:=aft.new _ J8 v' rfl;have kg:=aft.G _ J8;have ke:=aft.ia _ J8 rfl;simp only at k1' k2' k3' kg ke;exact⟨k1',k2',ke,by rw[k3',kg,aft.w,aft.ρ,JX];exact Qk,by rw[kg]⟩
        ·have kg:=aft.G _ MB;have ke:=aft.fu _ MB rfl;obtain⟨k1',k2'⟩:=aft.K b g qb1;simp only at kg ke;obtain⟨p,cp,zs,f1,f2,f3,f4,f5⟩:=Xj w' λq hq=>Cq.block q (J0 q (E4 q hq)) (NQ q (E4 q hq));refine⟨k1',λg' Cg=>qb2 g' (aft.old b Wg g' Cg),by rw[ke,qb3],⟨p,cp,zs,kk,an,by rw[k2'];exact f1,by rw[aft.ρ];exact f2,by rw[aft.ρ];exact j3,f3,f4,by rw[aft.w,kg];exact f5⟩,by rw[kg]⟩
        ·have kg:=aft.G _ QB;exact⟨by rw[kg],by rw[kg]⟩)
      intro next Q hk
      unfold Oper.wp;rw[AH,Oper.upon_value];obtain⟨k1',k2',k3'⟩:=aft.new _ J8 v' rfl;simp only at k1' k3';obtain⟨p,m,r,rfl⟩:=Qk.head;have QM:(recs.map λr=>(r.tag,CC [] r.a6))=(nx, .deep e3 (P.cellsOf e3) l3 0 0 (.app c2 (.win c0 lo (.len c0))))::(b, .pre e3 (P.cellsOf e3) l3 g (ep+1) c0 lo)::D2 [t]:=by rw[AU];simp[CC,D2]
      rw[QM]at q1;refine hk _ (c.dc w' _) ⟨rfl,rfl,rfl,rfl,λu hu=> ?_⟩ (q1.put (SR.own k1' k3' .nil) o.dst);rcases hu with hu|⟨r,hr,rfl⟩
      ·exact .inl hu
      ·rcases Db r hr with rfl|rfl|rfl
       ·exact .inr ⟨Ay _,by simp[Bx]⟩
       ·exact .inl Wg
       ·exact .inl cP
   ·cases he
  ·cases he
 ·cases he
end
section
variable {P:Program} {c:Cx} {n nx:Nat} {sl sl0:Nat->SV} {hp hp0:Nat->Option Ah} {a:Act} {o:Oper} {gs:Gd} {e:A2} {sg:BR} {nv:Nat}
theorem aI{w:World}:∀(vs:List Value) {xs:List AV} {f:List Nat} (ts:List TypeId),Rd w vs xs f->ts.length<=vs.length->Dr P w ts [] [] vs xs f [] []
 | [],xs,f,ts,h,hl=>by have:ts=[]:=List.eq_nil_of_length_eq_zero (by simpa using hl);subst this;cases h;exact .nil
 |v::vs,[],f,ts,h,hl=>by have:=h.len;simp at this
 |v::vs,x::xs,f,ts,h,hl=>by
  obtain⟨f1,f2,rfl,h1,h2⟩:=h.bu;cases ts with
  |nil=>exact .free h1 (aI vs [] h2 (by simp))
  |cons t ts=>exact Dr.cons (h:=[]) ⟨h1,rfl⟩ (aI vs ts h2 (by simpa using hl))
theorem zxB(l:EL):EL.of (Pr.go l)=l:=by
 induction l using EL.rec (motive_1:=λ_=>True)with
 |nil=>rfl
 |cons e es _ ih=>simp[Pr.go,EL.of,ih]
 |_=>trivial
theorem zwa{w:World}{ts:List TypeId}{vs:List Value}{Bs:List AV}{f o:List Nat}(h:DA P w ts [] vs Bs f o):Bs=[]:=by
 have key:∀(ts:List TypeId),Bm ts []=false:=by
  intro ts
  induction ts with
  |nil=>rfl
  |cons t ts ih=>simp only[Bm,List.headD_nil,Bool.false_or,List.tail_nil];exact ih
 exact(Y5 h).2 (key ts)
theorem zuO(t:TypeId):HM P t []=false:=by simp[HM]
theorem fR(h:Bh P c n nx sl hp a sl0 hp0 o gs){cl:Call}{fo:Operand}(ho:o.op= .call cl)(AF:cl.callee= .value fo){y:E}{sf:SV}(hf:Bn sl0 gs fo=some sf)(rJ:∀v,SR c [sf] [v]-> ∃f,Rd c.w [v] [y.den c.ρ] f){as_:List SV}(has:cl.args.toList.mapM (Bn sl0 gs)=some as_){t:TypeId}
  (he:Pr P hp0 gs nv t y as_=some e) (A9:∀c',e.call=some c'-> ∃r,c.ρ[nv]?=some r/\HG (Cw P sg) c'.fn ((EL.of c'.args).den c.ρ) c.ρ r):Aw P o c n nx sl hp gs a e:=by
 have W4:fo∈o.op.operands:=by simp[ho,Op.operands,Call.operands,AF]
 have W3:∀x∈cl.args.toList,x∈o.op.operands:=λx hx=>by
  have:x∈cl.args:=by simpa using hx
  simp[ho,Op.operands,Call.operands,AF,this]
 have Lg:=h.ch hf W4;have Au:=jE (a:=a) (λx hx s hs=>h.ch hs (W3 x hx)) has;unfold Pr at he;split at he
 ·cases he
 split at he
 ·cases he
 rename_i es Hs;simp only[Af]at he;subst he;obtain⟨r,hr,g,caps,hy,GZ,DM⟩:=A9 _ rfl;rw[zxB]at GZ;obtain⟨f1,p1,p2⟩:=Pa h.eh h.gs AW Hs Au AW (Ay _);generalize WE:a.eval fo=fv at Lg;obtain⟨_,k1⟩:=rJ _ Lg;obtain⟨capv,f2,rfl,Ws⟩:∃capv f2,fv= .func (.func g) #[] capv.toArray/\Rd c.w capv caps f2:=by
  rw[hy]at k1;cases k1 with
  |fn q1 _=>exact⟨_,_,rfl,q1⟩
 have MK:PY P {cf:=[],res:=[]} g (es.den c.ρ++caps) r:=by unfold Cw at GZ;rw[if_neg (by omega)]at GZ;simpa using GZ
 obtain⟨fn,FJ,DO,Ei,_,hlen,_,Fl⟩:=MK;have Dm:=p1.app Ws;have FB:=Dm.len;have A9:=Fl c.w _ _ [] [] (aI _ (fn.params.toList++ []) Dm (by rw[FB,hlen,AJ,Cc];omega)) (by simp) (by simp) (by simp) (h.rel.l5 (by simp));have ex:(execOp a.eval o).run P c.w= .ok (.enter g (cl.args.map a.eval++capv.toArray)) c.w:=by
  have hb:fn.body.isNone=false:=by simpa using DO
  simp only[execOp,ho,resolve,AF,WE,Deferred.ofValue,Sem.run_bind,Sem.run_pure,Result.andThen_ok,invoke,callFunc,run_program,FJ];simp[Ei,hb]
 intro next Q hk
 unfold Oper.wp;rw[ex,Oper.upon_enter];have Mg:cl.args.map a.eval++capv.toArray=((cl.args.toList.map a.eval)++capv).toArray:=by apply Array.ext';simp
 rw[Mg];refine A9.mono ?_;rintro e' w' ⟨v,rfl,⟨R,Bs,f1',o1,f2',o2,Kb,AQ,EX,Gu,QK,Qo⟩,Cq⟩;show next (a.put o.dst v) w'
 have Ma:=zwa EX;subst Ma;simp only at Kb;subst Kb;have hv:Rd w' [v] [r] []:=by
  unfold JP at AQ;split at AQ
  ·rename_i t' ht;unfold F0 at AQ;rw[if_neg (by rw[zuO];simp)]at AQ;have:=fE AQ.1 DM;subst this;exact AQ.1
  ·obtain⟨vs,ys,_,rfl,_⟩:=AQ;have:=DM (.tup ys) (by simp[AV.cells]);simp[AV.scalar]at this
 obtain⟨E0,_⟩:=h.rel.changes (w':=w') (recs:=[]) (hs:=[]) (gs:=gs) h.gs Cq (by simp) (by simp) (by simp) (by simp) (by simp) (by simp) (by simp);refine hk _ (c.dc w' []) ⟨rfl,rfl,rfl,rfl,λt ht=> ?_⟩ (E0.put (SR.mkGd (.e (f:=[]) ?_ (by simp) .nil) gs h.gs) o.dst)
 ·rcases ht with ht|⟨r,hr,_⟩
  ·exact .inl ht
  ·simp at hr
 ·show Rd w' [v] [(E.var nv).den c.ρ] [];simp only[E.den,hr,BC];exact hv
theorem bE(IJ:∀f s,sg f=some s->f<1000000)(h:Bh P c n nx sl hp a sl0 hp0 o gs)(he:Bz P sg sl0 hp0 nv nx gs o=some e)
  (hc:∀q∈e.bg,q.den c.ρ) (A9:∀cl,e.call=some cl-> ∃r,c.ρ[nv]?=some r/\HG (Cw P sg) cl.fn ((EL.of cl.args).den c.ρ) c.ρ r) (CH:∀x,e.br=some x->c.ρ[nv]?=some (.bool (JD a o))):Aw P o c n nx sl hp gs a e:=by
 have J2:=he;cases AP:o.op with
 |move x=>simp only[Bz,AP,Aq]at he;obtain⟨s,hs,rfl⟩:=he;exact jN h (.inl AP) hs
 |assign x=>simp only[Bz,AP,Aq]at he;obtain⟨s,hs,rfl⟩:=he;exact jN h (.inr AP) hs
 |pick x y z=>exact zt4 h AP he hc
 |alloc t=>exact zQ h AP he hc
 |box t x=>exact zwB h AP he hc
 |build t parts=>exact zsY h AP he hc
 |buildSlice t m parts=>
  simp only[Bz,AP,As]at he;obtain⟨ps,Ld,he⟩:=he;split at he
  ·exact wL h AP Ld he hc
  ·exact vV h AP Ld he hc
 |load t x=>exact zuY h AP he hc
 |nilCheck x=>exact xR h AP he hc
 |makeSlice t l m=>
  simp only[Bz,AP,As]at he;obtain⟨s1,BA,s2,AY,he⟩:=he;split at he
  ·exact xJ h AP BA AY he hc
  ·exact ztk h AP BA AY he hc
 |slice t x lo hi mx=>
  simp only[Bz,AP,As]at he;obtain⟨s,hs,l',Bw,h',HV,m',EZ,he⟩:=he;split at he
  ·exact x4 h AP hs Bw HV EZ he hc
  split at he
  ·exact xL h AP hs Bw HV EZ he hc
  ·exact yV h AP hs Bw HV EZ he hc
 |fieldAddr t x f=>exact vY h AP he hc
 |field t x f=>exact ztt h AP he hc
 |extract x i=>exact yC h AP he hc
 |store t x y=>
  simp only[Bz,AP,As]at he;obtain⟨p,hp',v,hv,he⟩:=he;cases p with
  |ca b k=>exact xF h AP hp' hv he hc
  |cd b g i sz k=>
   by_cases CE:∃e z g c d,CR hp0 gs b=some (.row e z g c d)
   ·exact xS h AP CE hp' hv he hc
   ·exact wW h AP CE hp' hv he hc
  |_=>simp[LG]at he
 |binOp op t x y ty=>
  cases hu:P.underlying t with
  |none=>simp only[Bz,AP,As]at he;obtain⟨_,_,_,_,he⟩:=he;simp[PG,hu]at he
  |some d=>
   by_cases QS:∃fs,d= .struct fs
   ·obtain⟨fs,rfl⟩:=QS;exact zws h AP hu he hc
   ·have Lb:∀fs,P.underlying t≠some (.struct fs):=λfs hh=>QS ⟨fs,by rw[hu]at hh;cases hh;rfl⟩;cases hq:e.br with
    |none=>exact zvZ h AP Lb he hq hc
    |some x'=>
     have FR:=CH x' hq;simp only[Bz,AP,As]at he;obtain⟨s1,BA,s2,AY,he⟩:=he;have r1:=h.ch BA (by simp[AP,Op.operands]);have r2:=h.ch AY (by simp[AP,Op.operands]);unfold PG at he;split at he
     ·rename_i el Fs;have CS:∀xq,Bj hp0 gs AW s1=some xq->Cn.den c.ρ (.dfd (.len xq))-> ∃p q r,a.eval x= .slice p q r:=by
       intro xq IP hd;obtain⟨f,q1,_⟩:=h.jg BA (by simp[AP,Op.operands]) IP;have hd:(xq.den c.ρ).len≠ .undef:=hd;cases Bo:xq.den c.ρ<;>simp only[Bo,AV.len,ne_eq,not_true_eq_false]at hd;rename_i xs;have hl:(xq.den c.ρ).len= .int .i64 (xs.length:Int):=by rw[Bo];rfl
       rcases O9 q1 hl with⟨p,q,hv,Dw⟩|⟨b,o',k,q,hv,Dw⟩
       ·exact⟨_,_,_,hv⟩
       ·exact⟨_,_,_,hv⟩
      split at he
      ·simp at he;subst he;cases hq
      ·simp at he;subst he;cases hq
      ·obtain⟨xq,IP,rfl⟩:=Aq.1 he;obtain⟨p,q,r,hv⟩:=CS xq IP (hc _ (by simp));exact jG h AP Fs hv r2 (.inl rfl) FR _
      ·obtain⟨xq,IP,rfl⟩:=Aq.1 he;obtain⟨p,q,r,hv⟩:=CS xq IP (hc _ (by simp));exact jG h AP Fs hv r2 (.inr rfl) FR _
      ·cases he
     ·split at he
      ·simp at he;subst he;cases hq
      ·cases he
     ·split at he
      ·simp at he;subst he;cases hq
      ·cases he
     ·split at he
      ·simp at he;subst he;cases hq
      ·cases he
     ·rename_i fs Fs;exact absurd Fs (Lb fs)
     ·cases he
 |unOp u t x=>
  cases u with
  |not=>exact zwz h AP he hc
  |neg=>exact zwD h AP he hc
  |_=>simp[Bz,AP]at he
 |convert src dst x=>
  have K0:=he;simp only[Bz,AP,As]at K0;obtain⟨s,_,K0⟩:=K0;unfold R6 at K0;split at K0
  ·rename_i k0 k h1 h2;exact yA h AP h1 h2 he hc
  ·rename_i h1 h2;exact yH h AP h1 h2 he hc
  ·rename_i el h1 h2;exact xX h AP h1 h2 he hc
  ·cases K0
 |makeFunc fr fst caps=>
  cases fr with
  |func f=>exact xE h AP he
  |_=>simp[Bz,AP]at he
 |indexAddr t x i=>refine wC h AP (λhu=> ?_) he hc;simp only[Bz,AP,As]at he;obtain⟨_,_,_,_,he⟩:=he;simp[V2,hu]at he
 |index t x i=>
  refine x8 h AP ?_ he hc;simp only[Bz,AP,As]at he;obtain⟨_,_,_,_,he⟩:=he;split at he
  ·rename_i G1;unfold V2 at G1;split at G1
   ·assumption
   ·cases G1
  ·cases he
 |call cl=>
  simp only[Bz,AP]at he;cases AF:cl.callee with
  |invoke r m=>rw[AF]at he;simp at he
  |value f=>
   rw[AF]at he;simp only[As]at he;obtain⟨s,hs,as_,has,he⟩:=he;cases s with
   |fn g caps=>
    have he:Si P sg hp0 gs nv nx g (as_++caps.toList)=some e:=he;refine zuV h AP AF hs has ?_ he A9;unfold Si at he;split at he
    ·rename_i fn sg' FJ hh;exact IJ g sg' hh
    ·cases he
   |e y=>exact fR h AP AF hs (λv hv=>by cases hv with|e k1 _ _=>exact⟨_,k1⟩) has he A9
   |lent i=>exact fR h AP AF hs (λv hv=>by
     cases hv with
     |lent g1 _=>obtain⟨f,p1,p2⟩:=h.rel.base.lo _ _ g1;exact⟨f,p1.frame λb hb=>h.rel.base.block b (p1.inb b hb) (p2 b hb)⟩) has he A9
   |_=>simp at he
  |builtin b=>
   rw[AF]at he;cases b with
   |len=>
    simp only at he;split at he
    ·rename_i x tx CD Dv;exact zwc h AP AF CD Dv J2 hc
    ·cases he
   |append=>
    simp only at he;split at he
    ·rename_i x y tx ty CD Dv;simp only[As]at he;obtain⟨s1,BA,s2,AY,he⟩:=he;split at he
     ·exact xK h AP AF CD Dv BA AY he hc
     split at he
     ·exact wG h AP AF CD Dv BA AY he hc
     ·exact xB h AP AF CD Dv BA AY he hc
    ·cases he
   |clear=>
    simp only at he;split at he
    ·rename_i x tx CD Dv;simp only[As]at he;obtain⟨s,hs,he⟩:=he;exact z7 h AP AF CD Dv hs he hc
    ·cases he
   |max=>
    simp only at he;split at he
    ·rename_i x y CD;simp only[As]at he;obtain⟨s1,BA,s2,AY,he⟩:=he;exact gE h AP (.inl ⟨rfl,AF⟩) CD BA AY he hc
    ·cases he
   |min=>
    simp only at he;split at he
    ·rename_i x y CD;simp only[As]at he;obtain⟨s1,BA,s2,AY,he⟩:=he;exact gE h AP (.inr ⟨rfl,AF⟩) CD BA AY he hc
    ·cases he
   |_=>simp at he
 |_=>simp[Bz,AP]at he
end
end
end Go.Proofs.YtkpifpljpoochaaGreatDoor

/- Parts of a proof, joined: WP, WQ, WR, WRa, WRb, WRc, WRd, WRe, WRf, WS. -/
import Derived.Test.YteeafhlnofapaaaGreatC4
set_option linter.unusedVariables false
set_option linter.unusedSimpArgs false
namespace Go.Proofs.YteeafhlnofapaaaGreat
open Go.RowKit
section
section
variable {P:Program} {c:Cx} {hp:Nat->Option Ab} {gs:Gd}
theorem cP(hb:Ol c)(eh:EH c hp)(k:A4 c.ρ gs)(hU:∀t g,c.K t g->c.U t):∀(ss:List SV) {ts:List TypeId} {ms:List PM} {lo:List Bool} {es:List E} {bs:List PA} {us uz:List Nat} {vs:List Value},Q5 P hp gs ts ms lo ss=some (es,bs,us,uz)->SR c ss vs->ts.length<=ss.length->
  ∃rf lf hs,Db P c.w ts ms lo vs (es.map (E.den c.ρ)) rf lf hs/\(∀b∈rf,c.de us b)/\(∀b∈lf,c.de uz b\/b<c.w0.heap.size/\ ¬c.Mu b)/\hs=(C8 bs).flatMap (λt=>(c.G t).top)/\Hr P c ts ms vs bs/\(∀u∈C8 bs,c.U u)/\(bs≠ []->gs=[])
 | [],ts,ms,lo,es,bs,us,uz,vs,h,hs,hl=>by simp[Q5]at h;obtain⟨rfl,rfl,rfl,rfl⟩:=h;cases hs;have:ts=[]:=List.eq_nil_of_length_eq_zero (by simpa using hl);subst this;exact⟨[],[],[], .nil,by simp,by simp,by simp[C8], .nil,by simp[C8],by simp⟩
 |s::ss,ts,ms,lo,es,bs,us,uz,[],h,hs,hl=>by have:=hs.len;simp at this
 |s::ss,ts,ms,lo,es,bs,us,uz,v::vs,h,hs,hl=>by
  obtain⟨r1,r2⟩:=hs.bd;unfold Q5 at h;split at h
  ·cases h
  rename_i ys bs' us' uz' CH;obtain⟨rf,lf,A1,q1,q2,qz,q3,q4,q5,q6⟩:=cP hb eh k hU ss CH r2 (by simp at hl ⊢;omega);have see1:∀{a b:List Nat} {x:Nat},c.de a x->c.de (a++b) x:=λh=>h.mono λt ht=>by simp[ht]
  have see2:∀{a b:List Nat} {x:Nat},c.de b x->c.de (a++b) x:=λh=>h.mono λt ht=>by simp[ht]
  split at h
  ·rename_i hm;split at h
   ·rename_i BN;simp only[Ad,Bh]at BN;obtain⟨t,ts,rfl⟩:∃t ts',ts=t::ts':=by
     cases ts with
     |nil=>simp at BN
     |cons t ts=>exact⟨t,ts,rfl⟩
    split at h
    ·rename_i i;simp only[Aa,AG]at h;obtain⟨rfl,rfl,rfl,rfl⟩:=h;cases r1 with
     |lent g1 _=>obtain⟨f,p1,p2⟩:=hb.lo _ _ g1;have hw:Rd c.w [v] [(E.var i).den c.ρ] f:=p1.frame λb BF=>hb.block b (p1.inb b BF) (p2 b BF);exact⟨rf,f++lf,A1, .lent BN.1 hm hw q1,q2,λb BF=>(Ae.1 BF).elim (λBF=> .inr ⟨p1.inb b BF,p2 b BF⟩) (qz b),q3, .ro hm q4,q5,q6⟩
    ·obtain⟨x,hx,hh⟩:=Aj.1 h;simp only[AG]at hh;obtain⟨rfl,rfl,rfl,rfl⟩:=hh;obtain⟨f,p1,p2⟩:=Gx eh k AN hx r1 AN (Ar _);exact⟨rf,f++lf,A1, .lent BN.1 hm p1 q1,q2,λb BF=>(Ae.1 BF).elim (λBF=> .inl (see1 (p2 b BF))) (λBF=>(qz b BF).imp see2 id),q3, .ro hm q4,q5,q6⟩
   obtain⟨x,hx,hh⟩:=Aj.1 h;simp only[AG]at hh;obtain⟨rfl,rfl,rfl,rfl⟩:=hh;obtain⟨f,p1,p2⟩:=Gx eh k AN hx r1 AN (Ar _);have hb:∀b∈f++rf,c.de (BI hp gs (AN+1) [s]++us') b:=λb hb=>by
    rcases Ae.1 hb with hb|hb
    ·exact see1 (p2 b hb)
    ·exact see2 (q2 b hb)
   cases ts with
   |nil=>exact⟨f++rf,lf,A1, .free p1 q1,hb,qz,q3, .ro hm q4,q5,q6⟩
   |cons t ts=>exact⟨f++rf,lf,[]++A1, .cons (by rw[hm];exact⟨p1,rfl⟩) q1,hb,qz,q3, .ro hm q4,q5,q6⟩
  ·rename_i own own' hm;split at h
   ·rename_i ty T A2;split at h
    ·rename_i ty' g cs HW;split at h
     ·cases h
     rename_i BM;have BM:ty'=ty:=by simpa using BM
     subst BM;split at h
     ·rename_i xs rs vs' B3 EG;simp only[Aa,AG]at h;obtain⟨rfl,rfl,rfl,rfl⟩:=h;obtain⟨t,ts,rfl,DG⟩:∃t ts',ts=t::ts'/\I5 P t=some ty':=by
       cases ts with
       |nil=>simp at A2
       |cons t ts=>exact⟨t,ts,rfl,by simpa using A2⟩
      obtain⟨b,C,g1,g2,g3,g4,g5,g6,g7⟩:=eh T _ (Ci HW k);obtain⟨f,h8,p1,p2,p3,p4,p5⟩:=WJ (P:=P) eh k hU (AW P ty') EG g7 B3 (Ar _);have hv:v= .pointer (some ⟨b,0,none⟩):=by
       cases r1 with
       |bp k1 k2 _=>rw[g2]at k2;cases k2;rfl
      refine⟨f++rf,lf,(b::h8)++A1, .cons ?_ q1,λx hx=> ?_,qz,by simp[C8,p3,q3,g3], .bx hm DG hv g1 (by rw[g2,hv]) p5 q4,λu hu=> ?_,λ_=>rfl⟩
      ·rw[hm];exact⟨ty',b,C,xs.den c.ρ,h8,DG,hv,g5,g6,rfl,p1,rfl⟩
      ·rcases Ae.1 hx with hx|hx
       ·exact see1 (p2 x hx)
       ·exact see2 (q2 x hx)
      ·simp only[C8,List.cons_append,Ac,Ae]at hu;rcases hu with rfl|hu|hu
       ·exact hU _ _ g1
       ·exact p5 u hu
       ·exact q5 u hu
     ·cases h
    ·cases h
   ·cases h
  ·rename_i own hm;split at h
   ·rename_i t x A2 hx;split at h
    ·cases h
    rename_i As;have As:(Gw s).2=Ah P t:=by simpa using As
    split at h
    ·rename_i rs vs' EG;simp only[Aa,AG]at h;obtain⟨rfl,rfl,rfl,rfl⟩:=h;obtain⟨ts,rfl⟩:∃ts',ts=t::ts':=by
      cases ts with
      |nil=>simp at A2
      |cons t' ts=>simp at A2;exact⟨ts,by rw[A2]⟩
     obtain⟨f,h8,p1,p2,p3,⟨vs9,p4,p5⟩,p6⟩:=bB (P:=P) eh k hU r1 hx As EG;refine⟨f++rf,lf,h8++A1, .cons (by rw[hm];exact p1) q1,λx hx=> ?_,qz,by simp[C8,p3,q3],by rw[As];exact .mu hm p4 p5 q4,λu hu=> ?_,λ_=>rfl⟩
     ·rcases Ae.1 hx with hx|hx
      ·exact see1 (p2 x hx)
      ·exact see2 (q2 x hx)
     ·simp only[C8,Ae]at hu;exact hu.elim (p6 u) (q5 u)
    ·cases h
   ·cases h
  ·rename_i own hm;split at h
   ·rename_i t x A2 hx;split at h
    ·cases h
    rename_i As;have As:(Gw s).2=Ah P t:=by simpa using As
    split at h
    ·rename_i rs vs' EG;simp only[Aa,AG]at h;obtain⟨rfl,rfl,rfl,rfl⟩:=h;obtain⟨ts,rfl⟩:∃ts',ts=t::ts':=by
      cases ts with
      |nil=>simp at A2
      |cons t' ts=>simp at A2;exact⟨ts,by rw[A2]⟩
     obtain⟨f,h8,p1,p2,p3,⟨vs9,p4,p5⟩,p6⟩:=bB (P:=P) eh k hU r1 hx As EG;refine⟨f++rf,lf,h8++A1, .cons (by rw[hm];exact p1) q1,λx hx=> ?_,qz,by simp[C8,p3,q3], .va hm p6 q4,λu hu=> ?_,λ_=>rfl⟩
     ·rcases Ae.1 hx with hx|hx
      ·exact see1 (p2 x hx)
      ·exact see2 (q2 x hx)
     ·simp only[C8,Ae]at hu;exact hu.elim (p6 u) (q5 u)
    ·cases h
   ·cases h
end
inductive Ey(P:Program)(w:World):List TypeId->List Bool->List Value->List AV->List Nat->List Nat->Prop where
 |nil {fl}:Ey P w [] fl [] [] [] []
 |own {t ts fl el u us y ys top N f o}:fl.headD false=true->Cj P t=some el->(BW P el=true/\N=[]\/BW P el=false/\Ds P t=none)->Cy w el (P.cellsOf el) u y top N->Ey P w ts fl.tail us ys f o->Ey P w (t::ts) fl (u::us) (y::ys) (N++f) (top++o)
 |deep {t ts fl el e z l u us y ys top f o}:fl.headD false=true->Cj P t=some el->BW P el=false->Ds P t=some (.row e z l)->DC w [.row e z l] [u] [y] top->Ey P w ts fl.tail us ys f o->Ey P w (t::ts) fl (u::us) (y::ys) f (top++o)
 |skip {t ts fl u us y ys f o}:(fl.headD false=true->Cj P t=none)->Ey P w ts fl.tail us ys f o->Ey P w (t::ts) fl (u::us) (y::ys) f o
inductive Da(P:Program)(w:World):List TypeId->List PM->List Value->List AV->List Nat->List Nat->Prop where
 |nil {ms vs}:Da P w [] ms vs [] [] []
 |ro {t ts ms v vs bs f o}:ms.headD .ro= .ro->Da P w ts ms.tail vs bs f o->Da P w (t::ts) ms (v::vs) bs f o
 |va {t ts ms own v vs bs f o}:ms.headD .ro= .va own->Da P w ts ms.tail vs bs f o->Da P w (t::ts) ms (v::vs) bs f o
 |mu {t ts ms own v vs us ys y bs f1 f o1 o}:ms.headD .ro= .mu own->(if Ah P t then v= .agg us.toArray/\y= .agg ys else us=[v]/\ys=[y])->Ey P w (AW P t) own us ys f1 o1->Da P w ts ms.tail vs bs f o->Da P w (t::ts) ms (v::vs) (y::bs) (f1++f) (o1++o)
 |bx {t ts ms own own' ty b C v vs ys y bs f1 o1 f o}:ms.headD .ro= .bx own own'->I5 P t=some ty->v= .pointer (some ⟨b,0,none⟩)->w.heap[b]?=some (.cells C ty (0,0))->(∀u∈C.toList,u.oneCell'=true)->y= .agg ys->Cd P w (AW P ty) own' C.toList ys f1 o1->
   Da P w ts ms.tail vs bs f o->Da P w (t::ts) ms (v::vs) (y::bs) (f1++f) (b::o1++o)
section
variable {P:Program} {c:Cx} {w':World}
theorem qU{mk:Nat->E}{ts:List TypeId}{fl:List Bool}{us:List Value}{rs:List (Option RI)}(h:FK P c ts fl us rs)(hU:∀t g,c.K t g->c.U t):∀{ys:List AV} {f o:List Nat} (j:Nat),Ey P w' ts fl us ys f o->(∀i y,ys[i]?=some y->(mk (j+i)).den c.ρ=y)->
  ∃recs:List AD,JW mk j rs=recs.map AD.pair/\(recs.flatMap AD.top).Sublist o/\(∀r∈recs,r.new=none/\c.U r.tag/\ ∀hs f,r.ay≠ .gd hs f)/\recs.map AD.tag=Cm rs/\ ∀c',Eo c c' w' recs->(∀b∈f,c'.ok b)-> ∀r∈recs,CM c' r.tag r.ay:=by
 induction h with
 |nil=>intro ys f o j hm _;cases hm;exact⟨[],rfl,by simp,by simp,rfl,by simp⟩
 | @row t ts fl v vs u g el rs h1 h2 Oz h3 h4 h5 _ ih=>
  intro ys f o j hm Fj;cases hm with
  |skip hh _=>rw[hh h1]at h2;cases h2
  |deep _ k2 k21 k22 _ _=>
   rw[h2]at k2;cases k2;rcases Oz with hh|hh
   ·rw[hh]at k21;cases k21
   ·rw[hh]at k22;cases k22
  | @own _ _ _ el' _ _ y ys top N f o k1 k2 k23 k3 k4=>
   rw[h2]at k2;cases k2;obtain⟨recs,e1,e2,e3,e4,e5⟩:=ih (j+1) k4 (λi y hy=>by rw[show j+1+i=j+(i+1)from by omega];exact Fj (i+1) y (by simpa using hy));have hy:=Fj 0 y rfl;refine⟨⟨u,none,top, .row el (P.cellsOf el) g (mk j) (BW P el)⟩::recs,by simp[JW,e1,AD.pair],by simpa using(List.Sublist.refl top).append e2,λr hr=> ?_,by simp[Cm,RI.tag,e4],λc' ha AI r hr=> ?_⟩
   ·rcases Ac.1 hr with rfl|hr
    ·exact⟨rfl,hU _ _ h3,by simp⟩
    ·exact e3 r hr
   ·rcases Ac.1 hr with rfl|hr
    ·obtain⟨a1,a2⟩:=ha.K u g h3;have kg:=ha.G _ (List.mem_cons_self ..);simp only at kg;refine⟨a1,λg' B7=>h5 g' (ha.old u (hU _ _ h3) g' B7),N,?_,λb hb=>AI b (by simp[hb]),λhd=> ?_,λ_=>by rw[kg]⟩
     rotate_left
     ·rcases k23 with⟨_,h⟩|⟨h,_⟩
      ·subst h;exact⟨rfl,by rw[kg]⟩
      ·rw[h]at hd;cases hd
     have Bn:(mk j).den c.ρ=y:=by simpa using hy
     rw[a2,h4,kg,ha.w,ha.ρ,Bn];exact k3
    ·exact e5 c' (ha.mono λr hr=>by simp[hr]) (λb hb=>AI b (by simp[hb])) r hr
 | @deep t ts fl v vs u g el e z l ep rs h1 h2 Oy MP h3 h4 h5 h6 _ ih=>
  intro ys f o j hm Fj;cases hm with
  |skip hh _=>rw[hh h1]at h2;cases h2
  |own _ k2 k23 _ _=>
   rw[h2]at k2;cases k2;rcases k23 with⟨hh,_⟩|⟨_,hh⟩
   ·rw[hh]at Oy;cases Oy
   ·rw[hh]at MP;cases MP
  | @deep _ _ _ el' e' z' l' _ _ y ys top f o k1 k2 k21 k22 k3 k4=>
   rw[MP]at k22;cases k22;obtain⟨recs,e1,e2,e3,e4,e5⟩:=ih (j+1) k4 (λi y hy=>by rw[show j+1+i=j+(i+1)from by omega];exact Fj (i+1) y (by simpa using hy));have hy:=Fj 0 y rfl;refine⟨⟨u,none,top, .deep e z l g (ep+1) (mk j)⟩::recs,by simp[JW,e1,AD.pair],by simpa using(List.Sublist.refl top).append e2,λr hr=> ?_,by simp[Cm,RI.tag,e4],λc' ha AI r hr=> ?_⟩
   ·rcases Ac.1 hr with rfl|hr
    ·exact⟨rfl,hU _ _ h3,by simp⟩
    ·exact e3 r hr
   ·rcases Ac.1 hr with rfl|hr
    ·obtain⟨a1,a2⟩:=ha.K u g h3;have kg:=ha.G _ (List.mem_cons_self ..);have ke:=ha.eo _ (List.mem_cons_self ..) rfl;simp only at kg ke;refine⟨a1,λg' B7=>h5 g' (ha.old u (hU _ _ h3) g' B7),by rw[ke,h6],?_,by rw[kg]⟩;have Bn:(mk j).den c.ρ=y:=by simpa using hy
     rw[a2,h4,kg,ha.w,ha.ρ,Bn];exact k3
    ·exact e5 c' (ha.mono λr hr=>by simp[hr]) (λb hb=>AI b (by simp[hb])) r hr
 | @none t ts fl v vs rs _ _ ih=>
  intro ys f o j hm Fj;have go:∀{y:AV} {ys':List AV} {f' o':List Nat},ys=y::ys'->Ey P w' ts fl.tail vs ys' f' o'->(∀b∈f',b∈f)->o'.Sublist o-> ∃recs:List AD,JW mk j (none::rs)=recs.map AD.pair/\(recs.flatMap AD.top).Sublist o/\(∀r∈recs,r.new=none/\c.U r.tag/\ ∀hs f,r.ay≠ .gd hs f)/\recs.map AD.tag=Cm (none::rs)/\ ∀c',Eo c c' w' recs->(∀b∈f,c'.ok b)-> ∀r∈recs,CM c' r.tag r.ay:=by rintro y ys' f' o' rfl EC hf hs;obtain⟨recs,e1,e2,e3,e4,e5⟩:=ih (j+1) EC (λi y hy=>by rw[show j+1+i=j+(i+1)from by omega];exact Fj (i+1) y (by simpa using hy));exact⟨recs,by simp[JW,e1],e2.trans hs,e3,by simp[Cm]at e4 ⊢;exact e4,λc' ha AI=>e5 c' ha λb hb=>AI b (hf b hb)⟩
  cases hm with
  |skip _ h8=>exact go rfl h8 (λ_ h=>h) (List.Sublist.refl _)
  |own _ _ _ _ h8=>exact go rfl h8 (λb hb=>by simp[hb]) (List.sublist_append_right _ _)
  |deep _ _ _ _ _ h8=>exact go rfl h8 (λ_ h=>h) (List.sublist_append_right _ _)
theorem bK(us:List Nat)(hU:∀u∈us,c.U u):∃recs:List AD,DL us=recs.map AD.pair/\recs.flatMap AD.top=[]/\(∀r∈recs,r.new=none/\c.U r.tag/\ ∀hs f,r.ay≠ .gd hs f)/\recs.map AD.tag=us/\ ∀c',Eo c c' w' recs-> ∀r∈recs,CM c' r.tag r.ay:=by
 induction us with
 |nil=>exact⟨[],rfl,rfl,by simp,rfl,by simp⟩
 |cons u us ih=>
  obtain⟨recs,e1,e2,e3,e4,e5⟩:=ih λu hu=>hU u (by simp[hu]);refine⟨⟨u,none,[], .dead⟩::recs,by simp only[DL]at e1;simp[DL,e1,AD.pair],by simp[e2],λr hr=> ?_,by simp[e4],λc' ha r hr=> ?_⟩
  ·rcases Ac.1 hr with rfl|hr
   ·exact⟨rfl,hU _ (by simp),by simp⟩
   ·exact e3 r hr
  ·rcases Ac.1 hr with rfl|hr
   ·have kg:=ha.G _ (List.mem_cons_self ..);simp only at kg;exact⟨by rw[kg],by rw[kg]⟩
   ·exact e5 c' (ha.mono λr hr=>by simp[hr]) r hr
structure Hz(c:Cx)(w':World)(nx m:Nat)(l:List (Nat × Ab))(hd o f:List Nat)(recs:List AD):Prop where
 ents:l=recs.map AD.pair
 j8:(recs.flatMap AD.top).Sublist o
 new:∀r∈recs,r.new.isSome=true->nx<=r.tag/\r.tag<nx+m
 old:∀r∈recs,r.new=none->r.tag∈hd/\c.U r.tag
 all:∀t∈hd,∃r∈recs,r.tag=t
 nodup:hd.Nodup->(∀t,nx<=t->t<nx+m-> ¬c.U t)->(recs.map AD.tag).Nodup
 ne:∀r∈recs,∀hs f,r.ay≠ .gd hs f
 ok:∀c',Eo c c' w' recs->(∀b∈f,c'.ok b)-> ∀r∈recs,CM c' r.tag r.ay
theorem Hz.app{nx m m':Nat}{l l':List (Nat × Ab)}{hd Jj o o' f f':List Nat}{recs recs':List AD}(h:Hz c w' nx m l hd o f recs)(k:Hz c w' (nx+m) m' l' Jj o' f' recs'):Hz c w' nx (m+m') (l++l') (hd++Jj) (o++o') (f++f') (recs++recs'):=by
 refine⟨by rw[h.ents,k.ents,List.map_append],by rw[List.flatMap_append];exact h.j8.append k.j8,λr hr hn=> ?_,λr hr hn=> ?_,λt ht=> ?_,λhn hU=> ?_,λr hr=> ?_,λc' ha AI r hr=> ?_⟩
 ·rcases Ae.1 hr with hr|hr
  ·have:=h.new r hr hn;omega
  ·have:=k.new r hr hn;omega
 ·rcases Ae.1 hr with hr|hr
  ·exact⟨by simp[(h.old r hr hn).1],(h.old r hr hn).2⟩
  ·exact⟨by simp[(k.old r hr hn).1],(k.old r hr hn).2⟩
 ·rcases Ae.1 ht with ht|ht
  ·obtain⟨r,hr,e⟩:=h.all t ht;exact⟨r,by simp[hr],e⟩
  ·obtain⟨r,hr,e⟩:=k.all t ht;exact⟨r,by simp[hr],e⟩
 ·rw[List.nodup_append]at hn;rw[List.map_append,List.nodup_append];refine⟨h.nodup hn.1 λt h1 h2=>hU t h1 (by omega),k.nodup hn.2.1 λt h1 h2=>hU t (by omega) (by omega),λt1 Pw t2 Px he=> ?_⟩;obtain⟨q1,H7,rfl⟩:=List.mem_map.1 Pw;obtain⟨q2,Hj,rfl⟩:=List.mem_map.1 Px;cases n1:q1.new with
  |none=>
   obtain⟨a1,a2⟩:=h.old q1 H7 n1;cases n2:q2.new with
   |none=>exact hn.2.2 _ a1 _ (k.old q2 Hj n2).1 he
   |some v2=>have:=k.new q2 Hj (by simp[n2]);exact hU q2.tag (by omega) (by omega) (he▸a2)
  |some v1=>
   have:=h.new q1 H7 (by simp[n1]);cases n2:q2.new with
   |none=>exact hU q1.tag (by omega) (by omega) (he▸(k.old q2 Hj n2).2)
   |some v2=>have:=k.new q2 Hj (by simp[n2]);omega
 ·rcases Ae.1 hr with hr|hr
  ·exact h.ne r hr
  ·exact k.ne r hr
 ·rcases Ae.1 hr with hr|hr
  ·exact h.ok c' (ha.mono λr hr=>by simp[hr]) (λb hb=>AI b (by simp[hb])) r hr
  ·exact k.ok c' (ha.mono λr hr=>by simp[hr]) (λb hb=>AI b (by simp[hb])) r hr
theorem Hz.ij{nx:Nat}{l:List (Nat × Ab)}{hd o f:List Nat}{recs:List AD}(e1:l=recs.map AD.pair)(e2:(recs.flatMap AD.top).Sublist o)(e3:∀r∈recs,r.new=none/\c.U r.tag/\ ∀hs f,r.ay≠ .gd hs f)(e4:recs.map AD.tag=hd)(e5:∀c',Eo c c' w' recs->(∀b∈f,c'.ok b)-> ∀r∈recs,CM c' r.tag r.ay):Hz c w' nx 0 l hd o f recs:=by
 refine⟨e1,e2,λr hr hn=> ?_,λr hr _=>⟨?_,(e3 r hr).2.1⟩,λt ht=> ?_,λhn _=>by rw[e4];exact hn,λr hr=>(e3 r hr).2.2,λc' ha AI=>e5 c' ha AI⟩
 ·rw[(e3 r hr).1]at hn;cases hn
 ·rw[<-e4];exact List.mem_map.2 ⟨r,hr,rfl⟩
 ·rw[<-e4]at ht;obtain⟨r,hr,e⟩:=List.mem_map.1 ht;exact⟨r,hr,e⟩
theorem sH{ts:List TypeId}{ms:List PM}{vs:List Value}{bs:List PA}(h:Hr P c ts ms vs bs)(hU:∀t g,c.K t g->c.U t){r:Nat}:∀{Bs:List AV} {f o:List Nat} (nx j:Nat),Da P w' ts ms vs Bs f o->(∀k y,Bs[k]?=some y->(E.proj (.var r) (j+k+1)).den c.ρ=y)->
  Bs.length=Hb bs/\ ∃recs,Hz c w' nx (IZ P bs) (after P r nx bs j) (C8 bs) o f recs:=by
 have nilS:∀nx,Hz c w' nx 0 [] [] [] [] []:=λnx=>⟨rfl,by simp,by simp,by simp,by simp,by simp,by simp,by simp⟩
 induction h with
 |nil=>intro Bs f o nx j hb _;cases hb;exact⟨rfl,[],by simpa[after,C8,IZ]using nilS nx⟩
 | @ro ts ms v vs bs hm D7 ih=>
  intro Bs f o nx j hb hB;cases hb with
  |nil=>exact ih nx j .nil hB
  |ro _ h8=>exact ih nx j h8 hB
  |va h9 _=>rw[hm]at h9;cases h9
  |mu h9 _ _ _=>rw[hm]at h9;cases h9
  |bx h9 _ _ _ _ _ _ _=>rw[hm]at h9;cases h9
 | @va ts ms own v vs bs us hm Jw D7 ih=>
  intro Bs f o nx j hb hB;obtain⟨recs1,e1,e2,e3,e4,e5⟩:=bK (c:=c) (w':=w') us Jw;have s1:Hz c w' nx 0 (DL us) us [] [] recs1:= .ij e1 (by rw[e2];exact List.Sublist.refl _) e3 e4 λc' ha _=>e5 c' ha;cases hb with
  |nil=>obtain⟨h1,recs2,s2⟩:=ih nx j .nil hB;exact⟨by simpa[Hb]using h1,recs1++recs2,by simpa[after,C8,IZ]using s1.app s2⟩
  |ro h9 _=>rw[hm]at h9;cases h9
  |va _ h8=>obtain⟨h1,recs2,s2⟩:=ih nx j h8 hB;exact⟨by simpa[Hb]using h1,recs1++recs2,by simpa[after,C8,IZ]using s1.app s2⟩
  |mu h9 _ _ _=>rw[hm]at h9;cases h9
  |bx h9 _ _ _ _ _ _ _=>rw[hm]at h9;cases h9
 | @mu t ts ms own v vs bs us rs hm Jw EG D7 ih=>
  intro Bs f o nx j hb hB;cases hb with
  |ro h9 _=>rw[hm]at h9;cases h9
  |va h9 _=>rw[hm]at h9;cases h9
  |bx h9 _ _ _ _ _ _ _=>rw[hm]at h9;cases h9
  | @mu _ _ _ own2 _ _ us2 ys y Bs f1 f o1 o h9 hg Pd h8=>
   rw[hm]at h9;cases h9;obtain⟨h1,recs2,s2⟩:=ih nx (j+1) h8 (λk y hy=>by rw[show j+1+k+1=j+(k+1)+1 from by omega];exact hB (k+1) y (by simpa using hy));have hy:=hB 0 y rfl;have LY:us2=us:=by
    split at Jw
    ·rename_i As;rw[if_pos As]at hg;obtain⟨rfl,_⟩:=hg;exact bD Jw
    ·rename_i As;rw[if_neg As]at hg;rw[hg.1,Jw]
   subst LY;obtain⟨recs1,e1,e2,e3,e4,e5⟩:=qU (w':=w') (mk:=Dd (.proj (.var r) (j+1)) (Ah P t)) EG hU 0 Pd (by
    intro i z hz;split at hg
    ·rename_i As;rw[As];exact Qu (by rw[<-hg.2];exact hy) i z hz
    ·rename_i As;have FO:Ah P t=false:=by simpa using As
     rw[hg.2]at hz;cases i with
     |zero=>simp at hz;subst hz;rw[FO];simpa[Dd]using hy
     |succ i=>simp at hz)
   have s1:Hz c w' nx 0 _ (Cm rs) o1 f1 recs1:= .ij e1 e2 e3 e4 e5;exact⟨by simp[Hb,h1],recs1++recs2,by simpa[after,C8,IZ]using s1.app s2⟩
 | @bx t ts ms own own' ty v vs bs T b g olds hm DG hv hK hH hol D7 ih=>
  intro Bs f o nx j hb hB;cases hb with
  |ro h9 _=>rw[hm]at h9;cases h9
  |va h9 _=>rw[hm]at h9;cases h9
  |mu h9 _ _ _=>rw[hm]at h9;cases h9
  | @bx _ _ _ own2 own3 ty2 b2 C _ _ ys y Bs f1 o1 f o h9 H5 CR hh Cl Gp hc h8=>
   rw[hm]at h9;cases h9;rw[DG]at H5;cases H5;have Rz:b2=b:=by rw[hv]at CR;cases CR;rfl
   subst Rz;obtain⟨h1,recs2,s2⟩:=ih (nx+(AW P ty).length) (j+1) h8 (λk y hy=>by rw[show j+1+k+1=j+(k+1)+1 from by omega];exact hB (k+1) y (by simpa using hy));have hy:=hB 0 y rfl;obtain⟨recs0,d1,d2,d3,d4,d5⟩:=bK (c:=c) (w':=w') olds hol;have s0:Hz c w' nx 0 (DL olds) olds [] [] recs0:= .ij d1 (by rw[d2];exact List.Sublist.refl _) d3 d4 λc' ha _=>d5 c' ha;obtain⟨recs1,e1,e2,e3,e4,_,e5⟩:=Nf (c:=c) (nx:=nx) (mk:=Dd (.proj (.var r) (j+1)) true) hc 0 (Qu (by rw[<-Gp];exact hy));have Zk:=hU _ _ hK;have s1:Hz c w' nx (AW P ty).length ((T, .box ty g (Cz P nx (Dd (.proj (.var r) (j+1)) true) 0 (AW P ty) own').1)::(Cz P nx (Dd (.proj (.var r) (j+1)) true) 0 (AW P ty) own').2) [T] (b2::o1) f1 (⟨T,none,[b2], .box ty g (Cz P nx (Dd (.proj (.var r) (j+1)) true) 0 (AW P ty) own').1⟩::recs1):=by
    refine⟨by simp[e1,AD.pair],?_,λq hq hn=> ?_,λq hq hn=> ?_,by simp,λ_ AP=> ?_,λq hq=> ?_,λc' ha AI q hq=> ?_⟩
    ·simp only[List.flatMap_cons,e2,List.singleton_append];exact List.Sublist.refl _
    ·rcases Ac.1 hq with rfl|hq
     ·cases hn
     ·have:=e3 q hq;omega
    ·rcases Ac.1 hq with rfl|hq
     ·exact⟨by simp,Zk⟩
     ·have:=(e3 q hq).2.2;rw[hn]at this;cases this
    ·simp only[List.map_cons,List.nodup_cons];refine⟨λhm=> ?_,e4⟩;obtain⟨q,hq,lM⟩:=List.mem_map.1 hm;have:=e3 q hq;exact AP q.tag (by omega) (by omega) (lM▸Zk)
    ·rcases Ac.1 hq with rfl|hq
     ·simp
     ·intro hs f he;obtain⟨q1,q2⟩:=e3 q hq;have:(q.tag,q.ay)∈(Cz P nx (Dd (.proj (.var r) (j+1)) true) 0 (AW P ty) own').2:=by
       rw[e1];exact List.mem_map.2 ⟨q,hq,rfl⟩
      exact L7 _ _ _ _ _ this he
    ·obtain⟨p1,p2⟩:=e5 c' (ha.mono λr hr=>by simp[hr]) AI;rcases Ac.1 hq with rfl|hq
     ·obtain⟨a1,a2⟩:=ha.K T 0 hK;have kg:=ha.G _ (List.mem_cons_self ..);simp only at kg;exact⟨b2,C,a1,by rw[a2,hH,hv],by rw[kg],by rw[kg],by rw[ha.w];exact hh,Cl,p1⟩
     ·exact p2 q hq
   refine⟨by simp[Hb,h1],recs0++((⟨T,none,[b2], .box ty g (Cz P nx (Dd (.proj (.var r) (j+1)) true) 0 (AW P ty) own').1⟩::recs1)++recs2),?_⟩;have s3:=s0.app (s1.app s2);rw[Nat.zero_add]at s3;refine⟨by simpa[after]using s3.ents,s3.j8,s3.new,λq hq hn=> ?_,λt ht=> ?_,λhn AP=> ?_,s3.ne,s3.ok⟩
   ·have:=s3.old q hq hn;simp only[C8,List.cons_append,Ac,Ae,List.not_mem_nil,or_false,List.nil_append]at this ⊢;exact⟨by rcases this.1 with h|h|h;exact .inr (.inl h);exact .inl h;exact .inr (.inr h),this.2⟩
   ·refine s3.all t ?_;simp only[C8,List.cons_append,Ac,Ae,List.nil_append]at ht ⊢;rcases ht with h|h|h
    ·exact .inr (.inl h)
    ·exact .inl h
    ·exact .inr (.inr h)
   ·refine s3.nodup ?_ AP;simp only[C8,List.cons_append,List.nodup_cons,List.nodup_append,Ae,not_or,List.nil_append]at hn ⊢;obtain⟨⟨n1,n2⟩,n3,n4,n5⟩:=hn;refine⟨n3,⟨n2,n4⟩,λa ha b hb=> ?_⟩;rcases Ac.1 hb with rfl|hb
    ·rintro rfl;exact n1 ha
    ·exact n5 a ha b hb
end
def Mx(P:Program):List TypeId->List Bool->List AV->Bool
 |t::ts,fl,y::ys=>((fl.headD false&&(Cj P t).isSome)||CA P t||y.scalar)&&Mx P ts fl.tail ys
 |_,_,_=>true
def T7(P:Program)(t:TypeId)(fl:List Bool)(x:AV):Bool:=if FJ P t fl then Mx P (AW P t) fl (if Ah P t then x.cells else [x])else CA P t||x.cells.all AV.scalar
def QY(P:Program):List TypeId->List Bool->List AV->Bool
 |t::ts,fl,x::xs=>T7 P t fl x&&QY P ts (fl.drop (AW P t).length) xs
 |_,_,_=>true
def Rc(P:Program)(ts:List TypeId)(fl:List Bool)(R:AV):Bool:=match ts with
 | [t]=>T7 P t fl R
 |ts=>match R with
  | .tup ys=>QY P ts fl ys
  |_=>true
def GB(P:Program):List TypeId->List PM->List AV->Bool
 |t::ts,ms,bs=>(match ms.headD .ro with
  | .ro=>GB P ts ms.tail bs
  | .va _=>GB P ts ms.tail bs
  | .mu _=>GB P ts ms.tail bs.tail
  | .bx _ own'=>(match I5 P t,bs with
   |some ty,b::_=>Mx P (AW P ty) own' b.cells
   |_,_=>true)&&GB P ts ms.tail bs.tail)
 | [],_,_=>true
def Bj:List TypeId->List PM->Bool
 |_::ts,ms=>(match ms.headD .ro with
  | .mu _=>true
  | .bx .. =>true
  |_=>false)||Bj ts ms.tail
 | [],_=>false
def JI(P:Program)(fn:Func)(s:Gc)(r:AV):Bool:=
 if Bj (fn.params.toList++s.ft) s.bh then(match r with
  | .tup (R::bs)=>Rc P fn.resultTypes.toList s.res R&&GB P (fn.params.toList++s.ft) s.bh bs
  |_=>false)
 else Rc P fn.resultTypes.toList s.res r
def Iz(P:Program)(w:World)(ts:List TypeId)(fl:List Bool)(v:Value)(R:AV)(f o:List Nat):Prop:=match ts with
 | [t]=>Ee P w t fl v R f o
 |ts=> ∃vs ys,v= .tuple vs.toArray/\R= .tup ys/\Is P w ts fl vs ys f o
structure iO(P:Program)(fn:Func)(s:Gc)(w:World)(vs:List Value)(rf hs:List Nat)(r:AV)(v:Value)(w':World):Prop where
 ex:∃R bs f1 o1 f2 o2,r=(match bs with| []=>R|_=> .tup (R::bs))/\Iz P w' fn.resultTypes.toList s.res v R f1 o1/\Da P w' (fn.params.toList++s.ft) s.bh vs bs f2 o2/\(o1++o2).Nodup/\
  (∀b∈o1++o2,(b∈hs\/w.heap.size<=b)/\b<w'.heap.size)/\ ∀b∈f1++f2,b∉o1++o2/\(b∈rf\/b∈hs\/w.heap.size<=b)
 mod:Mod hs w w'
theorem Rel.la{c:Cx}{n:Nat}{sl:Nat->SV}{hp:Nat->Option Ab}{a:Act}(h:Rel c n sl hp a){hs:List Nat}(hh:∀b∈hs,∃t,b∈(c.G t).top):YU c.w (λb=>b∈hs):=by
 obtain⟨p1,p2,p3⟩:=h.base.pk;refine⟨Nat.le_trans p1 h.base.size,JB.mono (λb hb=>h.base.block b (by omega) λhm=>by have:=p3 b hm;omega) p2,λb hb=> ?_⟩;obtain⟨t,ht⟩:=hh b hb;rcases h.gw.allow t b (by simp[GI.own,ht])with k|k
 ·have:c.w0.heap.size<=b:=k;omega
 ·exact p3 b k
def Ov(P:Program)(s:Gc)(f:Nat)(xs:List AV)(r:AV):Prop:=
 ∃fn,P.funcs[f]?=some fn/\fn.body.isSome=true/\(fn.name== "runtime.NumGoroutine")=false/\JI P fn s r=true/\xs.length=fn.params.size+fn.nfree/\s.ft.length<=fn.nfree/\
  ∀(w:World) (vs:List Value) (rf lf hs:List Nat),Db P w (fn.params.toList++s.ft) s.bh s.lo vs xs rf lf hs->(∀b∈hs,b∉rf)->(∀b∈hs,b∉lf)->hs.Nodup->YU w (λb=>b∈hs)->
   Calls P f vs.toArray w λe w'=> ∃v,e= .returned v/\iO P fn s w vs rf hs r v w'
def Cr(P:Program)(sg:BE)(f:Nat)(xs:List AV)(r:AV):Prop:=
 if f<1000000 then∃s,sg f=some s/\Ov P s f xs r else Ov P {bh:=[],res:=[]} (f-1000000) xs r
section
variable {P:Program} {w:World}
theorem aC{v:Value}{x:AV}{f:List Nat}(h:Rd w [v] [x] f)(hx:∀y∈x.cells,y.scalar=true):f=[]:=by
 by_cases As:∃cs,x= .agg cs
 ·obtain⟨cs,rfl⟩:=As;obtain⟨as_,_,_,hr⟩:=Hv h rfl;exact Gt hr hx
 ·have:x.cells=[x]:=by cases x<;>first|rfl|exact absurd ⟨_,rfl⟩ As
  rw[this]at hx;exact Gt h hx
theorem rX{t el:TypeId}(h:Cj P t=some el):CA P t=true:=by have hu:=Hq h;simp[CA,BW,AW,TS,hu]
theorem Cd.flat{ts:List TypeId}{fl:List Bool}{us:List Value}{ys:List AV}{rf hs:List Nat}(h:Cd P w ts fl us ys rf hs)(h1:Eb P ts fl=false)(h2:Mx P ts fl ys=true):rf=[]:=by
 induction h with
 |nil=>rfl
 |own k1 k2 k23 _ _ ih=>
  simp only[Eb,Bool.or_eq_false_iff]at h1;simp only[Mx,Ad]at h2;have hN:=k23;have hw:=h1.1;rw[rX k2,k1]at hw;rcases hN with⟨_,rfl⟩|⟨q1,q2⟩
  ·rw[ih h1.2 h2.2];rfl
  ·simp[T2,k2,q1,q2]at hw
 |deep _ _ _ _ _ _ ih=>simp only[Eb,Bool.or_eq_false_iff]at h1;simp only[Mx,Ad]at h2;exact ih h1.2 h2.2
 | @rd t ts fl u us y ys f rf hs hn hr _ ih=>
  simp only[Eb,Bool.or_eq_false_iff]at h1;simp only[Mx,Ad]at h2;have Du:(fl.headD false&&(Cj P t).isSome)=false:=by
   cases hh:fl.headD false with
   |false=>rfl
   |true=>rw[hn hh];rfl
  have VE:(fl.headD false&&T2 P t)=false:=by
   cases hh:fl.headD false with
   |false=>rfl
   |true=>simp[T2,hn hh]
  rw[VE]at h1;rw[Du]at h2;have Hk:CA P t=false:=by simpa using h1.1
  rw[Hk]at h2;have hs:y.scalar=true:=by simpa using h2.1
  rw[Gt hr (by simpa using hs),ih h1.2 h2.2];rfl
theorem Ee.flat{t:TypeId}{fl:List Bool}{v:Value}{x:AV}{rf hs:List Nat}(h:Ee P w t fl v x rf hs)(h1:YI P t fl=false)(h2:T7 P t fl x=true):rf=[]:=by
 unfold Ee at h;unfold YI at h1;unfold T7 at h2;split at h
 ·rename_i hf;rw[if_pos hf]at h1 h2;obtain⟨us,ys,hg,hc⟩:=h;split at hg
  ·rename_i As;obtain⟨_,rfl,_⟩:=hg;rw[if_pos As]at h2;exact hc.flat h1 h2
  ·rename_i As;obtain⟨_,rfl⟩:=hg;rw[if_neg As]at h2;exact hc.flat h1 h2
 ·rename_i hf;rw[if_neg hf]at h1 h2;rw[h1]at h2;exact aC h.1 (by simpa using h2)
theorem Is.flat{ts:List TypeId}{fl:List Bool}{vs:List Value}{xs:List AV}{rf hs:List Nat}(h:Is P w ts fl vs xs rf hs)(h1:CS P ts fl=false)(h2:QY P ts fl xs=true):rf=[]:=by
 induction h with
 |nil=>rfl
 |cons hv _ ih=>simp only[CS,Bool.or_eq_false_iff]at h1;simp only[QY,Ad]at h2;rw[hv.flat h1.1 h2.1,ih h1.2 h2.2];rfl
theorem Iz.flat{ts:List TypeId}{fl:List Bool}{v:Value}{R:AV}{f o:List Nat}(h:Iz P w ts fl v R f o)(h1:CS P ts fl=false)(h2:Rc P ts fl R=true):f=[]:=by
 match ts,h,h1,h2 with
 | [t],h,h1,h2=>simp only[CS,Bool.or_false]at h1;exact Ee.flat h h1 h2
 | [],h,h1,h2=>obtain⟨vs,ys,_,rfl,hv⟩:=h;exact hv.flat h1 h2
 |t::u::ts,h,h1,h2=>obtain⟨vs,ys,_,rfl,hv⟩:=h;exact hv.flat h1 h2
theorem Cy.void{ety sz:Nat}{a:Option Addr}{x:AV}{top N:List Nat}(h:Cy w ety sz (.slice a 0 0) x top N):N=[]:=by
 obtain⟨xs,_,_,_,⟨_,_,_,h⟩|⟨g,cap,C,hv,h6,_,_,_,_,_,hr⟩⟩:=h
 ·exact h
 ·have h0:xs.length=0:=by injection hv with _ h _;exact h.symm
  have:xs=[]:=by cases xs with|nil=>rfl|cons _ _=>simp at h0
  subst this;simp[Am]at hr;cases hr;rfl
theorem Ey.flat{c:Cx}{ts:List TypeId}{fl:List Bool}{us:List Value}{rs:List (Option RI)}(h:FK P c ts fl us rs):∀{ys:List AV} {f o:List Nat},Ey P w ts fl us ys f o->rs.any RI.lent=false->f=[]:=by
 induction h with
 |nil=>intro ys f o hm _;cases hm;rfl
 |row k1 k2 k23 _ _ _ _ ih=>
  intro ys f o hm hl;simp only[List.any_cons,Bool.or_eq_false_iff,RI.lent]at hl;cases hm with
  |own _ q2 q23 _ q4=>
   rw[k2]at q2;cases q2;rcases q23 with⟨_,rfl⟩|⟨q,_⟩
   ·exact ih q4 hl.2
   ·rw[q]at hl;simp at hl
  |deep _ _ _ _ _ q=>exact ih q hl.2
  |skip _ q=>exact ih q hl.2
 |deep k1 k2 k21 k22 _ _ _ _ _ ih=>
  intro ys f o hm hl;simp only[List.any_cons,Bool.or_eq_false_iff]at hl;cases hm with
  |own _ q2 q23 _ q4=>
   rw[k2]at q2;cases q2;rcases q23 with⟨_,rfl⟩|⟨_,q⟩
   ·exact ih q4 hl.2
   ·rw[q]at k22;cases k22
  |deep _ _ _ _ _ q=>exact ih q hl.2
  |skip _ q=>exact ih q hl.2
 |none hv _ ih=>
  intro ys f o hm hl;simp only[List.any_cons,Bool.or_eq_false_iff]at hl;cases hm with
  |own q1 q2 _ q3 q4=>
   rcases hv q1 with hh|⟨a,rfl⟩
   ·rw[hh]at q2;cases q2
   ·rw[Cy.void q3];exact ih q4 hl.2
  |deep _ _ _ _ _ q=>exact ih q hl.2
  |skip _ q=>exact ih q hl.2
theorem Da.flat{c:Cx}{ts:List TypeId}{ms:List PM}{vs:List Value}{bs:List PA}(h:Hr P c ts ms vs bs):∀{Bs:List AV} {f o:List Nat},Da P w ts ms vs Bs f o->Dx P bs=false->GB P ts ms Bs=true->f=[]:=by
 induction h with
 |nil=>intro Bs f o hb _ _;cases hb;rfl
 | @ro ts ms v vs bs hm _ ih=>
  intro Bs f o hb h1 h2;cases hb with
  |nil=>rfl
  |ro _ h8=>simp only[GB,hm]at h2;exact ih h8 h1 h2
  |va h9 _=>rw[hm]at h9;cases h9
  |mu h9 _ _ _=>rw[hm]at h9;cases h9
  |bx h9 _ _ _ _ _ _ _=>rw[hm]at h9;cases h9
 | @va ts ms own v vs bs us hm _ _ ih=>
  intro Bs f o hb h1 h2;cases hb with
  |nil=>rfl
  |ro h9 _=>rw[hm]at h9;cases h9
  |va _ h8=>simp only[GB,hm]at h2;exact ih h8 h1 h2
  |mu h9 _ _ _=>rw[hm]at h9;cases h9
  |bx h9 _ _ _ _ _ _ _=>rw[hm]at h9;cases h9
 | @mu t ts ms own v vs bs us rs hm Jw EG _ ih=>
  intro Bs f o hb h1 h2;cases hb with
  |ro h9 _=>rw[hm]at h9;cases h9
  |va h9 _=>rw[hm]at h9;cases h9
  | @mu _ _ _ own2 _ _ us2 ys y Bs f1 f o1 o h9 hg Pd h8=>
   rw[hm]at h9;cases h9;simp only[GB,hm]at h2;simp only[Dx,Bool.or_eq_false_iff]at h1;have LY:us2=us:=by
    split at Jw
    ·rename_i As;rw[if_pos As]at hg;obtain⟨rfl,_⟩:=hg;exact bD Jw
    ·rename_i As;rw[if_neg As]at hg;rw[hg.1,Jw]
   subst LY;rw[Ey.flat EG Pd h1.1,ih h8 h1.2 h2];rfl
  |bx h9 _ _ _ _ _ _ _=>rw[hm]at h9;cases h9
 | @bx t ts ms own own' ty v vs bs T b g olds hm DG _ _ _ _ _ ih=>
  intro Bs f o hb h1 h2;cases hb with
  |ro h9 _=>rw[hm]at h9;cases h9
  |va h9 _=>rw[hm]at h9;cases h9
  |mu h9 _ _ _=>rw[hm]at h9;cases h9
  |bx h9 H5 _ _ _ hy hc h8=>rw[hm]at h9;cases h9;rw[DG]at H5;cases H5;simp only[GB,hm,DG,Ad,hy,List.tail_cons]at h2;simp only[Dx,Bool.or_eq_false_iff]at h1;rw[hc.flat h1.1 h2.1,ih h8 h1.2 h2.2];rfl
theorem WW{ts:List TypeId}{ms:List PM}{vs:List Value}{Bs:List AV}{f o:List Nat}(h:Da P w ts ms vs Bs f o):Bs=[]↔Bj ts ms=false:=by
 induction h with
 |nil=>simp[Bj]
 |ro hm _ ih=>simp only[Bj,hm,Bool.false_or];exact ih
 |va hm _ ih=>simp only[Bj,hm,Bool.false_or];exact ih
 |mu hm _ _ _ _=>simp only[Bj,hm,Bool.true_or];simp
 |bx hm _ _ _ _ _ _ _ _=>simp only[Bj,hm,Bool.true_or];simp
end
section
variable {P:Program} {c:Cx} {n nx:Nat} {sl sl0:Nat->SV} {hp hp0:Nat->Option Ab} {a:Act} {o:Oper} {gs:Gd} {e:AS} {sg:BE} {nv:Nat}
theorem dS{xs:List Operand}:∀{ss:List SV},(∀x∈xs,∀s,Bl sl0 gs x=some s->SR c [s] [a.eval x])->xs.mapM (Bl sl0 gs)=some ss->SR c ss (xs.map a.eval):=by
 induction xs with
 |nil=>intro ss _ h;simp at h;subst h;exact .nil
 |cons x xs ih=>intro ss hx h;rw[List.mapM_cons]at h;simp only[Option.bind_eq_bind,Ak,Option.pure_def,Aa]at h;obtain⟨s,hs,ss',Ft,rfl⟩:=h;exact(hx x (by simp) s hs).cons (ih (λy hy=>hx y (by simp[hy])) Ft)
theorem Ny:∀{l:List Nat},JX l=true->l.Nodup
 | [],_=>by simp
 |x::l,h=>by simp only[JX,Ad,Bh,List.contains_eq_mem,decide_eq_false_iff_not]at h;exact List.nodup_cons.2 ⟨h.1,Ny h.2⟩
theorem sN{c1:Cx}{w':World}{recs:List AD}{hs f o:List Nat}(gw:GW c)(hg:∀t,(c1.G t).top=(c.G t).top\/(c1.G t).top=[])(hA:c1.A=c.A)(UA:c1.Mu=c.Mu)(KC:c1.w0=c.w0)(hB:c.w0.heap.size<=c.w.heap.size)
  (hn:(recs.map AD.tag).Nodup) (B5:∀r∈recs,∀b∈r.top,b∈o) (FW:∀b∈hs,∃r∈recs,b∈(c.G r.tag).top) {rf:List Nat} (Kw:∀b∈rf,c1.ok b) (hf:∀b∈f,b∉o/\(b∈rf\/b∈hs\/c.w.heap.size<=b)):∀b∈f,(c1.cy w' recs).ok b:=by
 intro b hb;obtain⟨h1,h2⟩:=hf b hb;have hM:(c1.cy w' recs).M b-> ∃t,(∀r∈recs,r.tag≠t)/\b∈(c1.G t).top:=by
  rintro⟨t,ht⟩;by_cases hT:∃r∈recs,r.tag=t
  ·obtain⟨r,hr,rfl⟩:=hT;rw[Cx.c7 hn hr]at ht;exact absurd (B5 r hr b ht) h1
  ·rw[Cx.cj λr hr hh=>hT ⟨r,hr,hh⟩]at ht;exact⟨t,λr hr hh=>hT ⟨r,hr,hh⟩,ht⟩
 have sub:∀t,b∈(c1.G t).top->b∈(c.G t).top:=λt ht=>by
  rcases hg t with hh|hh
  ·rw[<-hh];exact ht
  ·rw[hh]at ht;simp at ht
 rcases h2 with h2|h2|h2
 ·refine⟨λhm=> ?_,(Kw b h2).2⟩;obtain⟨t,_,ht⟩:=hM hm;exact(Kw b h2).1 ⟨t,ht⟩
 ·obtain⟨r,hr,RA⟩:=FW b h2;refine⟨λhm=> ?_, .inr ?_⟩
  ·obtain⟨t,D4,ht⟩:=hM hm;exact gw.br r.tag t (D4 r hr) b (by simp[GI.own,RA]) (by simp[GI.own,sub t ht])
  ·have:=gw.allow r.tag b (by simp[GI.own,RA]);simp only[Cx.cy,Cx.B,KC,UA]at this ⊢;exact this
 ·refine⟨λhm=> ?_, .inr (.inl ?_)⟩
  ·obtain⟨t,_,ht⟩:=hM hm;have:=gw.inb t b (by simp[GI.own,sub t ht]);omega
  ·simp only[Cx.cy,Cx.B,KC];omega
theorem uB(h:A5 P c n nx sl hp a sl0 hp0 o gs){cl:Call}{fo:Operand}(ho:o.op= .call cl)(Aq:cl.callee= .value fo){g:Nat}{caps:Bo}(hf:Bl sl0 gs fo=some (.fn g caps)){as_:List SV}(has:cl.args.toList.mapM (Bl sl0 gs)=some as_)
  (hg:g<1000000) (he:QI P sg hp0 gs nv nx g (as_++caps.toList)=some e) (A0:∀c',e.call=some c'-> ∃r,c.ρ[nv]?=some r/\G8 (Cr P sg) c'.fn ((EL.of c'.args).den c.ρ) c.ρ r):Ap P o c n nx sl hp gs a e:=by
 have Vy:fo∈o.op.operands:=by simp[ho,Op.operands,Call.operands,Aq]
 have Vx:∀x∈cl.args.toList,x∈o.op.operands:=λx hx=>by
  have:x∈cl.args:=by simpa using hx
  simp[ho,Op.operands,Call.operands,Aq,this]
 have Kw:=h.ca hf Vy;generalize Vc:a.eval fo=fv at Kw;cases Kw with
 |fn OR h8=>
 rename_i capv;have Ai:=(dS (a:=a) (λx hx s hs=>h.ca hs (Vx x hx)) has).app OR;unfold QI at he;split at he
 ·rename_i fn s GP Ia;split at he
  ·cases he
  rename_i hlen;simp only[Bool.or_eq_true,not_or,Bool.not_eq_true,bne_eq_false_iff_eq]at hlen;split at he
  ·cases he
  rename_i es bs us uz AX;split at he
  ·cases he
  rename_i BT;simp only[Bool.or_eq_true,Bh,not_or,Bool.not_eq_false,Bool.not_eq_true]at BT;obtain⟨⟨VB,Pg⟩,Ph⟩:=BT;have Pj:=Ny VB;have FP:∀u∈us,u∉C8 bs:=λu hu hh=>by rw[List.any_eq_false]at Pg;have:=Pg u hu;simp only[List.contains_eq_mem,Au]at this;exact this hh
  have Jd:∀u∈uz,u∉C8 bs:=λu hu hh=>by rw[List.any_eq_false]at Ph;have:=Ph u hu;simp only[List.contains_eq_mem,Au]at this;exact this hh
  simp only at he;split at he
  ·cases he
  rename_i BB;simp only[Nat.not_le]at BB;split at he
  ·cases he
  rename_i GY;split at he
  ·cases he
  rename_i fz FU;have hK:∀t g,c.K t g->c.U t:=h.rel.az;obtain⟨rf,lf,hs,q1,q2,qz,q3,q4,q5,q6⟩:=cP (P:=P) h.rel.base h.eh h.gs hK (as_++caps.toList) AX Ai (by rw[hlen.1.2,AO,Bp];have:=hlen.2;simp only[decide_eq_false_iff_not,Nat.not_lt]at this;omega);obtain⟨fts,Gh,O3⟩:∃fts,Di hp0 gs fts=some fz/\ ∀t∈fts,t∈us:=by
   split at FU
   ·exact⟨us,FU,λt ht=>ht⟩
   ·simp only[Aa]at FU;subst FU;exact⟨[],rfl,by simp⟩
  have CN:=h.rel.freeze h.hp h.gs Gh;have Ki:∀t∈fz.map (·.1),t∈us:=λt ht=>by obtain⟨⟨t',e'⟩,hm,rfl⟩:=List.mem_map.1 ht;exact O3 _ ((L8 h.gs Gh).1 t' e' hm).1
  have OC:∀t,((c.a6 (fz.map (·.1))).G t).top=(c.G t).top\/((c.a6 (fz.map (·.1))).G t).top=[]:=λt=>by
   simp only[Cx.a6];split
   ·exact .inr rfl
   ·exact .inl rfl
  have jA:∀t∈C8 bs,(c.a6 (fz.map (·.1))).G t=c.G t:=λt ht=>by simp only[Cx.a6];rw[if_neg];intro hh;exact FP t (Ki t hh) ht
  have Y4:∀t∈C8 bs,(c.a6 (fz.map (·.1))).E t=c.E t:=λt ht=>by simp only[Cx.a6];rw[if_neg];intro hh;exact FP t (Ki t hh) ht
  have VU:hs.Nodup:=by
   rw[q3];have:∀l:List Nat,l.Nodup->(l.flatMap λt=>(c.G t).top).Nodup:=by
    intro l
    induction l with
    |nil=>intro _;simp
    |cons t l ih=>intro hl;rw[List.nodup_cons]at hl;rw[List.flatMap_cons,List.nodup_append];refine⟨(List.nodup_append.1 (h.rel.gw.nodup t)).1,ih hl.2,λx hx y hy E8=> ?_⟩;subst E8;obtain⟨u,hu,V4⟩:=List.mem_flatMap.1 hy;exact h.rel.gw.br t u (λhh=>hl.1 (hh▸hu)) x (by simp[GI.own,hx]) (by simp[GI.own,V4])
   exact this _ Pj
  have HV:∀b∈hs,∃t∈C8 bs,b∈(c.G t).top:=λb hb=>by rw[q3]at hb;exact List.mem_flatMap.1 hb
  have Fh:∀b∈hs,b∉rf:=λb hb hr=>by
   obtain⟨t,ht,Ck⟩:=HV b hb;rcases q2 b hr with hh|⟨u,hu,GN⟩
   ·exact hh.1 ⟨t,Ck⟩
   ·exact h.rel.gw.br t u (λhh=>FP u hu (hh▸ht)) b (by simp[GI.own,Ck]) (by simp[GI.own,GN])
  have HI:∀b∈hs,b∉lf:=λb hb hr=>by
   obtain⟨t,ht,Ck⟩:=HV b hb;rcases qz b hr with(hh|⟨u,hu,GN⟩)|⟨h1,h2⟩
   ·exact hh.1 ⟨t,Ck⟩
   ·exact h.rel.gw.br t u (λhh=>Jd u hu (hh▸ht)) b (by simp[GI.own,Ck]) (by simp[GI.own,GN])
   ·rcases h.rel.gw.allow t b (by simp[GI.own,Ck])with k|k
    ·have:c.w0.heap.size<=b:=k;omega
    ·exact h2 k
  have EA:∃(val:SV) (l:List (Nat × Ab)),e={call:=some ⟨.inl g,es⟩,val:=val,ay:=fz++(Q9 gs l++after P nv (nx+(fn.resultTypes.toList.flatMap (AW P)).length) bs 0)}/\
    ∀(R:AV) (w':World) (v:Value) (f1 o1:List Nat),Iz P w' fn.resultTypes.toList s.res v R f1 o1->(if Hb bs=0 then E.var nv else .proj (.var nv) 0).den c.ρ=R-> ∃recs:List AD,l=recs.map AD.pair/\recs.flatMap AD.top=o1/\(∀r∈recs,nx<=r.tag/\r.tag<nx+(fn.resultTypes.toList.flatMap (AW P)).length/\r.new.isSome)/\(recs.map AD.tag).Nodup/\
     (∀r∈recs,∀hs f,r.ay≠ .gd hs f)/\ ∀c',Eo c c' w' recs->(∀b∈f1,c'.ok b)->SR c' [val] [v]/\ ∀r∈recs,CM c' r.tag r.ay:=by
   have BM:∀{l:List (Nat × Ab)} {recs:List AD},l=recs.map AD.pair->(∀t x,(t,x)∈l-> ∀hs f,x≠ .gd hs f)-> ∀r∈recs,∀hs f,r.ay≠ .gd hs f:=by rintro l recs rfl hh r hr;exact hh r.tag r.ay (List.mem_map.2 ⟨r,hr,rfl⟩)
   have fvne:∀(t:TypeId) (k:Nat) (fl:List Bool) (x:E) (u:Nat) (y:Ab),(u,y)∈(Mh P k t fl x).2-> ∀hs f,y≠ .gd hs f:=by
    intro t k fl x u y hy hs f;unfold Mh at hy;split at hy
    ·exact L7 _ _ _ _ _ hy
    ·simp at hy
   split at he
   ·rename_i t PD;simp only[Aa]at he;subst he;refine⟨_,_,rfl,λR w' v f1 o1 hr hR=> ?_⟩;rw[PD]at hr;obtain⟨recs,e1,e2,e3,e4,e5⟩:=aA (c:=c) (nx:=nx) (x:=if Hb bs=0 then E.var nv else .proj (.var nv) 0) (show Ee P w' t s.res v R f1 o1 from hr) hR;exact⟨recs,e1,e2,by simpa[PD]using e3,e4,BM e1 (fvne _ _ _ _),e5⟩
   ·rename_i PD;simp only[Aa]at he;subst he;refine⟨_,_,rfl,λR w' v f1 o1 hr hR=> ?_⟩;obtain⟨vs,ys,rfl,rfl,hv⟩:∃vs ys,v= .tuple vs.toArray/\R= .tup ys/\Is P w' fn.resultTypes.toList s.res vs ys f1 o1:=by
     unfold Iz at hr;split at hr
     ·rename_i t ht;exact absurd ht (PD t)
     ·exact hr
    obtain⟨recs,e1,e2,e3,e4,e5⟩:=oP (c:=c) (x:=if Hb bs=0 then E.var nv else .proj (.var nv) 0) hv nx 0 (λk y hy=>by show AV.proj ((if Hb bs=0 then E.var nv else .proj (.var nv) 0).den c.ρ) (0+k)=y;rw[hR];simp[AV.proj,hy])
    have fvsne:∀(ts:List TypeId) (k:Nat) (fl:List Bool) (x:E) (i u:Nat) (y:Ab),(u,y)∈(KL P k ts fl x i).2-> ∀hs f,y≠ .gd hs f:=by
     intro ts
     induction ts with
     |nil=>intro k fl x i u y hy;simp[KL]at hy
     |cons t ts ih=>
      intro k fl x i u y hy;simp only[KL,Ae]at hy;rcases hy with hy|hy
      ·exact fvne _ _ _ _ _ _ hy
      ·exact ih _ _ _ _ _ _ hy
    exact⟨recs,e1,e2,e3,e4,BM e1 (fvsne _ _ _ _ _),λc' ha AI=>⟨.tup (by rw[Bo.ak];exact(e5 c' ha AI).1) .nil,(e5 c' ha AI).2⟩⟩
  obtain⟨val,l,rfl,LW⟩:=EA;obtain⟨r,hr,AI⟩:=A0 _ rfl;have LV:∃s',sg g=some s'/\Ov P s' g ((EL.of es).den c.ρ) r:=by have AI:Cr P sg g ((EL.of es).den c.ρ) r:=AI;unfold Cr at AI;rwa[if_pos hg]at AI
  obtain⟨s',A1,fn',HO,Dt,Fl,BC,_,_,EV⟩:=LV;rw[Ia]at A1;cases A1;rw[GP]at HO;cases HO;rw[EL.ct]at EV;have A0:=EV c.w _ rf lf hs q1 Fh HI VU (h.rel.la λb hb=>by obtain⟨t,_,ht⟩:=HV b hb;exact⟨t,ht⟩);have ex:(execOp a.eval o).run P c.w= .ok (.enter g (cl.args.map a.eval++capv.toArray)) c.w:=by
   have hb:fn.body.isNone=false:=by simpa using Dt
   simp only[execOp,ho,resolve,Aq,Vc,Deferred.ofValue,Sem.run_bind,Sem.run_pure,Result.andThen_ok,invoke,callFunc,run_program,GP];simp[Fl,hb]
  intro next Q hk
  unfold Oper.wp;rw[ex,Oper.upon_enter];have Lk:cl.args.map a.eval++capv.toArray=((cl.args.toList.map a.eval)++capv).toArray:=by apply Array.ext';simp
  rw[Lk];refine A0.mono ?_;rintro e' w' ⟨v,rfl,⟨R,Bs,f1,o1,f2,o2,Jt,AJ,Ez,FX,Pm,O1⟩,B4⟩;show next (a.put o.dst v) w'
  have OA:∀k y,Bs[k]?=some y->(E.proj (.var nv) (0+k+1)).den c.ρ=y:=by
   intro k y hy;cases Bs with
   |nil=>simp at hy
   |cons B Bs=>simp only[E.den,hr,C7,Jt,AV.proj,Nat.zero_add,List.getElem?_cons_succ,hy]
  obtain⟨Pf,recsB,hB⟩:=sH (w':=w') q4 hK (r:=nv) (nx+(fn.resultTypes.toList.flatMap (AW P)).length) 0 Ez OA;have hR:(if Hb bs=0 then E.var nv else .proj (.var nv) 0).den c.ρ=R:=by
   cases Bs with
   |nil=>rw[if_pos (by simpa using Pf.symm)];simp only[E.den,hr,C7,Jt]
   |cons B Bs=>rw[if_neg (by rw[<-Pf];simp)];simp[E.den,hr,Jt,AV.proj]
  obtain⟨recsV,v1,v2,v3,v4,v5,v6⟩:=LW R w' v f1 o1 AJ hR;have Fm:∀t,nx<=t->t<nx+((fn.resultTypes.toList.flatMap (AW P)).length+IZ P bs)-> ¬c.U t:=λt h1 h2=>h.new t h1 (by omega);have OB:=hB.nodup Pj λt h1 h2=>Fm t (by omega) (by omega);have CB:((recsV++recsB).map AD.tag).Nodup:=by
   rw[List.map_append,List.nodup_append];refine⟨v4,OB,λt1 h1 t2 h2 he=> ?_⟩;obtain⟨p1,RJ,rfl⟩:=List.mem_map.1 h1;obtain⟨p2,Zx,rfl⟩:=List.mem_map.1 h2;have a1:=v3 p1 RJ;cases hn:p2.new with
   |none=>exact Fm p1.tag (by omega) (by omega) (he▸(hB.old p2 Zx hn).2)
   |some _=>have:=hB.new p2 Zx (by simp[hn]);omega
  have Gk:∀r∈recsV++recsB,r.new.isSome=true->nx<=r.tag/\r.tag<nx+((fn.resultTypes.toList.flatMap (AW P)).length+IZ P bs):=λr hr hn=>by
   rcases Ae.1 hr with hr|hr
   ·have:=v3 r hr;omega
   ·have:=hB.new r hr hn;omega
  have Ea:((recsV++recsB).flatMap AD.top).Sublist (o1++o2):=by rw[List.flatMap_append,v2];exact(List.Sublist.refl _).append hB.j8
  have Vj:∀b∈hs,∃r∈recsV++recsB,b∈(c.G r.tag).top:=λb hb=>by obtain⟨t,ht,Ck⟩:=HV b hb;obtain⟨r,hr,rfl⟩:=hB.all t ht;exact⟨r,by simp[hr],Ck⟩
  have O7:∀b∈hs,∃r∈recsV++recsB,b∈((c.a6 (fz.map (·.1))).G r.tag).top:=λb hb=>by obtain⟨t,ht,Ck⟩:=HV b hb;obtain⟨r,hr,rfl⟩:=hB.all t ht;exact⟨r,by simp[hr],by rw[jA _ ht];exact Ck⟩
  have D9:∀r∈recsV++recsB,∀b∈r.top,b∈o1++o2:=λr hr b hb=>Ea.subset (List.mem_flatMap.2 ⟨r,hr,hb⟩);have LR:∀b∈f1++f2,((c.a6 (fz.map (·.1))).cy w' (recsV++recsB)).ok b:=by
   cases RU:(CS P fn.resultTypes.toList s.res||Dx P bs)with
   |false=>
    simp only[Bool.or_eq_false_iff]at RU;have Ei:Rc P fn.resultTypes.toList s.res R=true/\GB P (fn.params.toList++s.ft) s.bh Bs=true:=by
     unfold JI at BC;cases GJ:Bs with
     |nil=>
      rw[if_neg (by rw[(WW Ez).1 GJ];simp)]at BC;rw[GJ]at Jt;rw[Jt]at BC;refine⟨BC,?_⟩;have:∀(ts:List TypeId) (ms:List PM),GB P ts ms []=true:=by
       intro ts
       induction ts with
       |nil=>intro ms;rfl
       |cons t ts ih=>
        intro ms;unfold GB;split
        ·exact ih _
        ·exact ih _
        ·exact ih _
        ·split
         ·rename_i hh;cases hh
         ·simpa using ih _
      exact this _ _
     |cons B Bs'=>
      rw[if_pos (by
       cases hh:Bj (fn.params.toList++s.ft) s.bh with
       |true=>rfl
       |false=>rw[(WW Ez).2 hh]at GJ;cases GJ)]at BC
      rw[Jt,GJ]at BC;simpa using BC
    have e1:f1=[]:=AJ.flat RU.1 Ei.1;have e2:f2=[]:=Da.flat q4 Ez RU.2 Ei.2;subst e1;subst e2;simp
   |true=>rw[RU]at GY FU;simp only[Bool.true_and,Bh,Bool.not_eq_false]at GY;simp only[if_true]at FU;exact sN (rf:=rf) h.rel.gw OC rfl rfl rfl h.rel.base.size CB D9 Vj (λb hb=>Qm h.rel h.eh h.gs FU (by simpa using GY) (q2 b hb)) O1
  have OZ:after P nv (nx+(fn.resultTypes.toList.flatMap (AW P)).length) bs 0=recsB.map λr=>(r.tag,Cq gs r.ay):=by
   cases Lm:bs with
   |nil=>
    have:=hB.ents;rw[Lm]at this;simp only[after]at this;have:recsB=[]:=by simpa using this.symm
    rw[this];rfl
   |cons b bs'=>have Es:=q6 (by rw[Lm];simp);rw[<-Lm,hB.ents,Es];rfl
  have Be:Q9 gs l++after P nv (nx+(fn.resultTypes.toList.flatMap (AW P)).length) bs 0=(recsV++recsB).map λr=>(r.tag,Cq gs r.ay):=by rw[OZ,List.map_append];congr 1;rw[v1];simp[Q9,AD.pair]
  obtain⟨ED,BL⟩:=CN.changes (w':=w') (recs:=recsV++recsB) (hs:=hs) (gs:=gs) h.gs B4 CB (λr hr hn=>by have:=Gk r hr hn;exact Fm _ this.1 this.2) O7 (Ea.nodup FX) (λr hr b hb=>Pm b (D9 r hr b hb))
   (λr hr=>by
    rcases Ae.1 hr with hr|hr
    ·exact v5 r hr
    ·exact hB.ne r hr)
   (λ_ r hr=>by
    have aft:=Cx.cw (c:=c.a6 (fz.map (·.1))) (w':=w') (recs:=recsV++recsB) h.rel.az CB (λr hr hn=>by have:=Gk r hr hn;exact Fm _ this.1 this.2);have aft':Eo c ((c.a6 (fz.map (·.1))).cy w' (recsV++recsB)) w' (recsV++recsB):=⟨aft.ρ,aft.w,aft.G,aft.new,aft.K,aft.old,aft.gh,λr hr Du=>(aft.eo r hr Du).trans (by
     rcases Ae.1 hr with hr|hr
     ·have:=(v3 r hr).2.2;rw[Du]at this;cases this
     ·rw[Y4 _ (hB.old r hr Du).1])⟩
    rcases Ae.1 hr with hr|hr
    ·exact(v6 _ (aft'.mono λr hr=>by simp[hr]) λb hb=>LR b (by simp[hb])).2 r hr
    ·exact hB.ok _ (aft'.mono λr hr=>by simp[hr]) (λb hb=>LR b (by simp[hb])) r hr)
  have aft:=Cx.cw (c:=c.a6 (fz.map (·.1))) (w':=w') (recs:=recsV++recsB) h.rel.az CB (λr hr hn=>by have:=Gk r hr hn;exact Fm _ this.1 this.2);have aft':Eo c ((c.a6 (fz.map (·.1))).cy w' (recsV++recsB)) w' (recsV++recsB):=⟨aft.ρ,aft.w,aft.G,aft.new,aft.K,aft.old,aft.gh,λr hr Du=>(aft.eo r hr Du).trans (by
     rcases Ae.1 hr with hr|hr
     ·have:=(v3 r hr).2.2;rw[Du]at this;cases this
     ·rw[Y4 _ (hB.old r hr Du).1])⟩
  have JA:=(v6 _ (aft'.mono λr hr=>by simp[hr]) λb hb=>LR b (by simp[hb])).1;rw[<-Be,<-Ml]at ED;refine hk _ ((c.a6 (fz.map (·.1))).cy w' (recsV++recsB)) ⟨rfl,rfl,rfl,rfl,λt ht=> ?_⟩ (ED.put (JA.mkGd gs h.gs) o.dst);rcases ht with ht|⟨r,hr,rfl⟩
  ·exact .inl ht
  ·cases hn:r.new with
   |none=>
    rcases Ae.1 hr with hr|hr
    ·have:=(v3 r hr).2.2;rw[hn]at this;cases this
    ·exact .inl (hB.old r hr hn).2
   |some _=>have:=Gk r hr (by simp[hn]);exact .inr ⟨this.1,by simp only[Bw];omega⟩
 ·cases he
end
def B2(c:Cx)(us:List Nat):List Nat:=us.flatMap λt=>(c.G t).top
theorem Xo(c:Cx):B2 c []=[]:=rfl
theorem S6(c:Cx)(u:Nat)(us:List Nat):B2 c (u::us)=(c.G u).top++B2 c us:=by simp[B2]
theorem Ik(c:Cx)(us vs:List Nat):B2 c (us++vs)=B2 c us++B2 c vs:=by simp[B2]
theorem ND{c:Cx}{us:List Nat}{b:Nat}:b∈B2 c us↔ ∃t∈us,b∈(c.G t).top:=by simp[B2]
theorem SN{c:Cx}(gw:GW c):∀{l:List Nat},l.Nodup->(B2 c l).Nodup
 | [],_=>by simp[B2]
 |t::l,hl=>by
  rw[S6,List.nodup_append];rw[List.nodup_cons]at hl;refine⟨?_,SN gw hl.2,λa ha b hb jQ=> ?_⟩
  ·have:=gw.nodup t;simp only[GI.own]at this;exact(List.nodup_append.1 this).1
  ·subst jQ;obtain⟨u,hu,GN⟩:=ND.1 hb;exact gw.br t u (λhh=>hl.1 (hh▸hu)) a (by simp[GI.own,ha]) (by simp[GI.own,GN])
section
variable {P:Program} {c:Cx} {hp:Nat->Option Ab} {gs:Gd}
theorem XR{m:Nat}{u g:Nat}{x y:E}(hx:Ba hp gs m (.own u g)=some x)(hy:G4 hp gs u g=some y):x=y:=by
 cases m with
 |zero=>simp[Ba]at hx
 |succ m=>simp only[Ba,hy,Aa]at hx;exact hx.symm
theorem eR{m:Nat}{x:E}(h:Ba hp gs m .emp=some x):x= .lst .nil:=by
 cases m with
 |zero=>simp[Ba]at h
 |succ m=>simp[Ba]at h;exact h.symm
theorem qS(eh:EH c hp)(k:A4 c.ρ gs){d:DT}{s:SV}{us:List Nat}{ck:List Cn}{v:Value}{x:E}{m:Nat}(h:Yy hp gs d s=some (us,ck))(hs:SR c [s] [v])(hx:Ba hp gs m s=some x)(hc:∀q∈ck,q.den c.ρ):
  DC c.w [d] [v] [x.den c.ρ] (B2 c us)/\ ∀u∈us,∃g,c.K u g:=by
 unfold Yy at h;split at h
 ·rename_i y;simp only[Aa,AG]at h;obtain⟨rfl,rfl⟩:=h;rw[IY hx];cases hs with
  |e h1 h2 h3=>
   rename_i f;have Dq:(y.den c.ρ).scalar=true:=by
    cases hl:Rj y with
    |true=>cases y<;>simp[Rj]at hl<;>rfl
    |false=>rw[hl]at hc;exact(BK hc).2.2.2 rfl
   have hf:f=[]:=Gt h1 (by simpa using Dq);subst hf;exact⟨.flat h1 .nil,by simp⟩
 ·split at h
  ·rename_i hh;simp only[Aa,AG]at h;obtain⟨rfl,rfl⟩:=h;rw[JD hx];cases hs with
   |bc _=>exact⟨.void hh.1 hh.2 .nil,by simp⟩
  ·cases h
 ·split at h
  ·rename_i hh;simp only[Aa,AG]at h;obtain⟨rfl,rfl⟩:=h;rw[eR hx];cases hs with
   |emp _=>exact⟨.void hh.1 hh.2 .nil,by simp⟩
  ·cases h
 ·rename_i e z l u g;split at h
  ·rename_i e' z' l' g' ep y hl;split at h
   ·rename_i hh;obtain⟨rfl,rfl,rfl,hb⟩:=hh;simp only[Aa,AG]at h;obtain⟨rfl,rfl⟩:=h;obtain⟨q1,q2,q3,q4,q5⟩:=eh u _ (Ci hl k);rw[XR (y:=y) hx (by simp only[G4,hl,if_true])];have hb:=Ax.of_eq hb;subst hb;rw[Ax.cc]at q4;cases hs with
    |own k1 k2 _=>rw[k2]at q4;exact⟨by rw[S6,Xo,AE];exact q4,λw hw=>by simp at hw;subst hw;exact⟨_,k1⟩⟩
   ·cases h
  ·rename_i e' z' g' y hl;split at h
   ·rename_i hh;obtain⟨rfl,rfl,rfl,hf,hlen⟩:=hh;simp only[Aa,AG]at h;obtain⟨rfl,rfl⟩:=h;obtain⟨q1,q2,N,q4,q5,q6,q7⟩:=eh u _ (Ci hl k);obtain⟨hN,_⟩:=q6 rfl;have hN:N=[]:=hN;subst hN;rw[XR (y:=y) hx (by simp only[G4,hl,if_true])];cases hs with
    |own k1 k2 _=>rw[k2]at q4;exact⟨by rw[S6,Xo,AE];exact DC.jf q4 hf hlen,λw hw=>by simp at hw;subst hw;exact⟨_,k1⟩⟩
   ·cases h
  ·cases h
 ·cases h
theorem W4(eh:EH c hp)(k:A4 c.ρ gs):∀(ds:List DT) {ss:List SV} {us:List Nat} {ck:List Cn} {vs:List Value} {xs:EL} {m:Nat},KS hp gs ds ss=some (us,ck)->SR c ss vs->Cf hp gs m ss=some xs->(∀q∈ck,q.den c.ρ)->
  DC c.w ds vs (xs.den c.ρ) (B2 c us)/\ ∀u∈us,∃g,c.K u g
 | [],[],us,ck,vs,xs,m,h,hs,hx,hc=>by
  simp[KS]at h;obtain⟨rfl,rfl⟩:=h;cases hs;cases m with
  |zero=>simp[Cf]at hx
  |succ m=>simp[Cf]at hx;subst hx;exact⟨.nil,by simp⟩
 | [],_::_,us,ck,vs,xs,m,h,hs,hx,hc=>by simp[KS]at h
 |_::_,[],us,ck,vs,xs,m,h,hs,hx,hc=>by simp[KS]at h
 |d::ds,s::ss,us,ck,[],xs,m,h,hs,hx,hc=>by have:=hs.len;simp at this
 |d::ds,s::ss,us,ck,v::vs,xs,m,h,hs,hx,hc=>by
  obtain⟨j,y,ys,rfl,hy,CI,rfl⟩:=IT hx;obtain⟨r1,r2⟩:=hs.bd;unfold KS at h;split at h
  ·rename_i us1 ck1 us2 ck2 h1 h2;simp only[Aa,AG]at h;obtain⟨rfl,rfl⟩:=h;obtain⟨q1,q2⟩:=qS eh k h1 r1 hy λq hq=>hc q (by simp[hq]);obtain⟨q3,q4⟩:=W4 eh k ds h2 r2 CI λq hq=>hc q (by simp[hq]);refine⟨by rw[Ik];exact q1.app q3,λu hu=> ?_⟩;rcases Ae.1 hu with hu|hu
   ·exact q2 u hu
   ·exact q4 u hu
  ·cases h
theorem aG(eh:EH c hp)(k:A4 c.ρ gs){t:TypeId}{ds:List DT}{s:SV}{us:List Nat}{ck:List Cn}{v:Value}{x:E}(FQ:ds.length=P.cellsOf t)(hg:Ah P t=true\/P.cellsOf t=1)(h:NZ P hp gs t ds s=some (x,us,ck))(hs:SR c [s] [v])(hc:∀q∈ck,q.den c.ρ):
  DC c.w ds v.cells.toList (x.den c.ρ).cells (B2 c us)/\(∀u∈v.cells.toList,u.oneCell'=true)/\(x.den c.ρ).cells.length=P.cellsOf t/\v.cells.size=P.cellsOf t/\
   (if Ah P t then∃cs,x.den c.ρ= .agg cs else(∀cs,x.den c.ρ≠ .agg cs)/\ ∀cs,x.den c.ρ≠ .tup cs)/\ ∀u∈us,∃g,c.K u g:=by
 unfold NZ at h;split at h
 ·cases h
 rename_i y hy;split at h
 ·rename_i Ei;simp only[Aa,AG]at h;obtain⟨rfl,rfl,rfl⟩:=h;obtain⟨f,q1,q2⟩:=Gx eh k AN hy hs AN (Ar _);obtain⟨c1,c2,c3,c4⟩:=BK hc;have EA:if Ah P t then∃cs,y.den c.ρ= .agg cs/\cs.length=P.cellsOf t else(∀cs,y.den c.ρ≠ .agg cs)/\ ∀cs,y.den c.ρ≠ .tup cs:=by
   split
   ·rename_i As;obtain⟨cs,Bb⟩:=c3 As;exact⟨cs,Bb,by rw[Bb]at c1;exact c1⟩
   ·rename_i As;have:=c4 (by simpa using As);exact⟨λcs Bb=>by rw[Bb]at this;simp[AV.scalar]at this,λcs Bb=>by rw[Bb]at this;simp[AV.scalar]at this⟩
  have hf:f=[]:=by
   cases Zn:Ah P t with
   |true=>obtain⟨cs,Bb⟩:=c3 Zn;obtain⟨as_,rfl,_,r⟩:=Hv q1 Bb;exact Gt r (by rw[Bb]at c2;exact c2)
   |false=>exact Gt q1 (by simpa using c4 Zn)
  subst hf;obtain⟨o1,o2,o3,o4⟩:=XD (P:=P) q1 hg EA;refine⟨DC.kj o1 Ei (by rw[FQ];simpa using o4.symm),o2,o3,o4,?_,by simp⟩;split at EA
  ·rename_i As;rw[if_pos As];obtain⟨cs,Bb,_⟩:=EA;exact⟨cs,Bb⟩
  ·rename_i As;rw[if_neg As];exact EA
 ·rename_i Fo;split at h
  ·cases h
  rename_i As;have As:(Gw s).2=Ah P t:=by simpa using As
  obtain⟨⟨us',ck'⟩,hr,h⟩:=Aj.1 h;simp only[AG]at h;obtain⟨rfl,rfl,rfl⟩:=h;have single:Ah P t=false->KS hp gs ds [s]=some (us',ck')->DC c.w ds v.cells.toList (y.den c.ρ).cells (B2 c us')/\(∀u∈v.cells.toList,u.oneCell'=true)/\(y.den c.ρ).cells.length=P.cellsOf t/\v.cells.size=P.cellsOf t/\
   (if Ah P t then∃cs,y.den c.ρ= .agg cs else(∀cs,y.den c.ρ≠ .agg cs)/\ ∀cs,y.den c.ρ≠ .tup cs)/\ ∀u∈us',∃g,c.K u g:=by
   intro As hr;have A6:Cf hp gs (AN+1) [s]=some (.cons y .nil):=by unfold Cf;rw[hy];rfl
   obtain⟨q1,q2⟩:=W4 eh k ds hr hs A6 hc;have Zl:=q1.len;simp only[EL.den,AM,List.length_nil]at Zl
   match ds,Zl,q1,Fo,FQ with
   | [d],_,q1,Fo,FQ=>
    cases d with
    |flat=>simp[DT.a7]at Fo
    |row e z l=>
     obtain⟨p,q,r,rfl⟩:=q1.head;obtain⟨xs,B3⟩:∃xs,y.den c.ρ= .sl xs:=by
      obtain⟨_,_,⟨_,_,hx,_⟩|⟨_,_,_,_,_,_,hx,_⟩⟩:=q1.inv
      ·exact⟨_,hx⟩
      ·exact⟨_,hx⟩
     rw[if_neg (by rw[As];simp)];refine⟨?_,by simp[Value.cells,Value.oneCell'],by rw[B3,<-FQ];rfl,by rw[<-FQ];rfl,?_,q2⟩
     ·simp only[EL.den]at q1;rw[B3]at q1 ⊢;exact q1
     ·rw[B3];exact⟨λcs hh=>(by cases hh),λcs hh=>(by cases hh)⟩
  cases s with
  |agg cs=>
   simp only[Gw]at As hr;obtain⟨m,l,hm,hl,rfl⟩:=QC hy;cases hs with
   |agg h9 h1 h8=>rename_i as_;obtain⟨q1,q2⟩:=W4 eh k ds hr h1 hl hc;obtain⟨l1,l2⟩:=q1.len;rw[if_pos As.symm];exact⟨by simpa[Value.cells,AV.cells,E.den]using q1,by simpa[Value.cells]using h9,by simp only[E.den,AV.cells];omega,by simp[Value.cells];omega,⟨_,rfl⟩,q2⟩
  |_=>exact single As.symm hr
theorem aE(eh:EH c hp)(k:A4 c.ρ gs){t:TypeId}{ds:List DT}(FQ:ds.length=P.cellsOf t)(hg:Ah P t=true\/P.cellsOf t=1):∀(ss:List SV) (vs:List Value) {xs:List E} {us:List Nat} {ck:List Cn},SR c ss vs->QG P hp gs t ds ss=some (xs,us,ck)->(∀q∈ck,q.den c.ρ)->
  DC c.w (BS vs.length ds) (vs.flatMap λv=>v.cells.toList) (Am (xs.map (E.den c.ρ))) (B2 c us)/\(∀v∈vs,v.cells.size=P.cellsOf t/\ ∀u∈v.cells.toList,u.oneCell'=true)/\(∀x∈xs,(x.den c.ρ).cells.length=P.cellsOf t)/\xs.length=vs.length/\ ∀u∈us,∃g,c.K u g
 | [],vs,xs,us,ck,hr,ht,hc=>by simp[QG]at ht;obtain⟨rfl,rfl,rfl⟩:=ht;cases hr;exact⟨by simpa[Am,BS,B2]using DC.nil,by simp,by simp,rfl,by simp⟩
 |s::ss,[],xs,us,ck,hr,ht,hc=>by have:=hr.len;simp at this
 |s::ss,v::vs,xs,us,ck,hr,ht,hc=>by
  obtain⟨r1,r2⟩:=hr.bd;unfold QG at ht;split at ht
  ·rename_i x us1 ck1 xs2 us2 ck2 h1 h2;simp only[Aa,AG]at ht;obtain⟨rfl,rfl,rfl⟩:=ht;obtain⟨q1,q2,q3,q4,q5,q6⟩:=aG eh k FQ hg h1 r1 (λq hq=>hc q (by simp[hq]));obtain⟨p1,p2,p3,p4,p5⟩:=aE eh k FQ hg ss vs r2 h2 (λq hq=>hc q (by simp[hq]));refine⟨?_,?_,?_,by simp[p4],?_⟩
   ·have:=q1.app p1;rw[AM,Md,Ik];simpa[Am]using this
   ·intro u hu;rcases Ac.1 hu with rfl|hu
    ·exact⟨q4,q2⟩
    ·exact p2 u hu
   ·intro u hu;rcases Ac.1 hu with rfl|hu
    ·exact q3
    ·exact p3 u hu
   ·intro u hu;rcases Ae.1 hu with hu|hu
    ·exact q6 u hu
    ·exact p5 u hu
  ·cases ht
theorem aU(eh:EH c hp)(k:A4 c.ρ gs){e z:Nat}{l:List DT}{s:SV}{us:List Nat}{v:Value}{y:E}{m:Nat}(h:QZ hp gs e z l s=some us)(hs:SR c [s] [v])(hy:Ba hp gs m s=some y):
  ∃ys q r news N,y.den c.ρ= .sl ys/\v= .slice q ys.length r/\Src c.w z q ys.length news/\DC c.w (BS ys.length l) news (Am ys) N/\N.Sublist (B2 c us)/\(∀y∈ys,y.cells.length=z)/\(∀u∈news,u.oneCell'=true)/\ ∀u∈us,∃g,c.K u g:=by
 have empt:∀q,v= .slice q 0 0->y= .lst .nil->us=[]-> ∃ys q r news N,y.den c.ρ= .sl ys/\v= .slice q ys.length r/\Src c.w z q ys.length news/\DC c.w (BS ys.length l) news (Am ys) N/\N.Sublist (B2 c us)/\(∀y∈ys,y.cells.length=z)/\(∀u∈news,u.oneCell'=true)/\ ∀u∈us,∃g,c.K u g:=by
  rintro q rfl rfl rfl;refine⟨[],q,0,[],[],rfl,rfl,?_,by simpa[BS,Am]using DC.nil,by simp,by simp,by simp,by simp⟩;cases q with
  |none=>exact .inl ⟨rfl,rfl,rfl⟩
  |some p=>exact .inr ⟨p,rfl,by simp,by simp,by simp⟩
 unfold QZ at h;split at h
 ·simp only[Aa]at h;cases hs with
  |bc _=>exact empt _ rfl (JD hy) h.symm
 ·simp only[Aa]at h;cases hs with
  |emp _=>exact empt _ rfl (eR hy) h.symm
 ·rename_i u g;split at h
  ·rename_i e' z' l' g' ep x hl;split at h
   ·rename_i hh;obtain⟨rfl,rfl,rfl,hb⟩:=hh;simp only[Aa]at h;subst h;have hb:=Ax.dt hb;subst hb;obtain⟨q1,q2,q3,q4,q5⟩:=eh u _ (Ci hl k);have F1:=XR (y:=x) hy (by simp only[G4,hl,if_true]);subst F1;cases hs with
    |own k1 k2 k3=>
     rename_i p0 n0 r0;rw[k2]at q4;have hK:∀w∈ [u],∃g,c.K w g:=λw hw=>by simp at hw;subst hw;exact⟨_,k1⟩
     obtain⟨d1,d2,⟨a9,d3,d4,d5⟩|⟨g9,cap,C,ys,N1,d3,d4,d5,d6,d7,d8,d9,d10,d11,d12⟩⟩:=q4.inv
     ·cases d3;refine⟨[],_,0,[],[],d4,rfl,?_,by simpa[BS,Am]using DC.nil,by simp,by simp,by simp,hK⟩;cases p0 with
      |none=>exact .inl ⟨rfl,rfl,rfl⟩
      |some p=>exact .inr ⟨p,rfl,by simp,by simp,by simp⟩
     ·cases d3;rw[Ax.ak]at d12;have De:C.toList.length=r0*z:=by simpa using d9
      refine⟨ys,_,r0,_,N1,d4,rfl, .inr ⟨_,rfl,?_,λj w hw=> ?_,d11⟩,d12,?_,d10,d11,hK⟩
      ·rw[AF,De];exact Nat.min_eq_left (A3 _ d7)
      ·rw[Addr.add_lit,Nat.zero_add,DR d6];rw[List.getElem?_take]at hw;split at hw
       ·simpa using hw
       ·cases hw
      ·rw[S6,Xo,AE,d5];exact List.sublist_cons_self _ _
   ·cases h
  ·cases h
 ·cases h
end
def Fe(T:List Nat):List AD:=T.map λu=>⟨u,none,[], .dead⟩
theorem tR(T:List Nat):(Fe T).flatMap AD.top=[]:=by induction T<;>simp_all[Fe]
theorem vY(T:List Nat):(Fe T).map AD.tag=T:=by induction T<;>simp_all[Fe]
theorem sY(T:List Nat):((Fe T).map λr=>(r.tag,Cq [] r.ay))=DL T:=by simp[Fe,DL,Cq]
theorem Qw{T:List Nat}{r:AD}(h:r∈Fe T):r.tag∈T/\r.new=none/\r.top=[]/\r.ay= .dead:=by obtain⟨u,hu,rfl⟩:=List.mem_map.1 h;exact⟨hu,rfl,rfl,rfl⟩
section
variable {P:Program} {c:Cx} {n nx:Nat} {sl sl0:Nat->SV} {hp hp0:Nat->Option Ab} {a:Act} {o:Oper} {gs:Gd} {e:AS} {sg:BE} {nv:Nat}
theorem Rel.jh(h:Rel c n sl hp a){T:List Nat}(hT:T.Nodup)(FD:∀u∈T,c.U u){r0:AD}(Hk:r0.tag∉T)(Gl:r0.new.isSome=true-> ¬c.U r0.tag)(Dv:r0.new=none->c.U r0.tag){w':World}{hs:List Nat}(FW:∀b∈hs,b∈(c.G r0.tag).top\/b∈B2 c T)(hm:Mod hs c.w w')
  (BT:r0.top.Nodup) (B8:∀b∈r0.top,(b∈hs\/c.w.heap.size<=b)/\b<w'.heap.size) (BM:∀q f,r0.ay≠ .gd q f)
  (he:Dj c (c.cy w' (r0::Fe T))->Eo c (c.cy w' (r0::Fe T)) w' (r0::Fe T)->CM (c.cy w' (r0::Fe T)) r0.tag r0.ay):
  Rel (c.cy w' (r0::Fe T)) n sl (AZ hp ((r0.tag,r0.ay)::DL T)) a/\Dj c (c.cy w' (r0::Fe T))/\Eo c (c.cy w' (r0::Fe T)) w' (r0::Fe T)/\ ∀t,(c.cy w' (r0::Fe T)).U t->c.U t\/t=r0.tag:=by
 have hn:((r0::Fe T).map AD.tag).Nodup:=by rw[List.map_cons,vY];exact List.nodup_cons.2 ⟨Hk,hT⟩
 have AP:∀r∈r0::Fe T,r.new.isSome=true-> ¬c.U r.tag:=λr hr hs=>by
  rcases Ac.1 hr with rfl|hr
  ·exact Gl hs
  ·rw[(Qw hr).2.1]at hs;cases hs
 have aft:=Cx.cw (w':=w') h.az hn AP;obtain⟨q1,q2⟩:=h.changes (gs:=[]) (Ed _) hm hn AP (λb hb=>by
   rcases FW b hb with hb|hb
   ·exact⟨r0,by simp,hb⟩
   ·obtain⟨t,ht,Ck⟩:=ND.1 hb;exact⟨⟨t,none,[], .dead⟩,List.mem_cons_of_mem _ (List.mem_map.2 ⟨t,ht,rfl⟩),Ck⟩)
  (by rw[List.flatMap_cons,tR,AE];exact BT)
  (λr hr b hb=>by
   rcases Ac.1 hr with rfl|hr
   ·exact B8 b hb
   ·rw[(Qw hr).2.2.1]at hb;cases hb)
  (λr hr=>by
   rcases Ac.1 hr with rfl|hr
   ·exact BM
   ·rw[(Qw hr).2.2.2];intros;simp)
  (λhk r hr=>by
   rcases Ac.1 hr with rfl|hr
   ·exact he hk aft
   ·have kg:=aft.G r (List.mem_cons_of_mem _ hr);obtain⟨_,_,e1,e2⟩:=Qw hr;rw[e2];exact⟨by rw[kg,e1],by rw[kg]⟩)
 refine⟨?_,q2,aft,λt ht=> ?_⟩
 ·rw[List.map_cons,sY]at q1;have:Cq [] r0.ay=r0.ay:=rfl;rw[this]at q1;exact q1
 ·rcases ht with ht|⟨r,hr,rfl⟩
  ·exact .inl ht
  ·rcases Ac.1 hr with rfl|hr
   ·exact .inr rfl
   ·exact .inl (FD _ (Qw hr).1)
theorem Ap.dr(h:A5 P c n nx sl hp a sl0 hp0 o []){T:List Nat}(hT:T.Nodup)(FD:∀u∈T,∃g,c.K u g){v':Value}{w':World}{ck:List Cn}{e z:Nat}{l:List DT}{x:E}{top:List Nat}(hr:(execOp a.eval o).run P c.w= .ok (.value v') w')(hm:Mod (B2 c T) c.w w')
  (BT:top.Nodup) (B8:∀b∈top,(b∈B2 c T\/c.w.heap.size<=b)/\b<w'.heap.size) (hd:DC w' [.row e z (Ax.of l)] [v'] [x.den c.ρ] top):
  Ap P o c n nx sl hp [] a {bf:=ck,val:= .own nx 0,ay:=(nx, .deep e z l 0 0 x)::DL T}:=by
 intro next Q hk
 unfold Oper.wp;rw[hr,Oper.upon_value];have hU:=KN h;have Jb:∀u∈T,c.U u:=λu hu=>by obtain⟨g,hg⟩:=FD u hu;exact h.rel.az _ _ hg
 obtain⟨q1,q2,q3,q4⟩:=h.rel.jh (r0:=⟨nx,some v',top, .deep e z l 0 0 x⟩) hT Jb (λhh=>hU (Jb _ hh)) (λ_=>hU) (λhh=>by cases hh) (λb hb=> .inr hb) hm BT B8 (by intros;simp) (λ_ aft=>by obtain⟨k1,k2,k3⟩:=aft.new _ (List.mem_cons_self ..) v' rfl;have kg:=aft.G _ (List.mem_cons_self ..);have ke:=aft.gh _ (List.mem_cons_self ..) rfl;simp only at k1 k2 k3 kg ke;exact⟨k1,k2,ke,by rw[k3,kg,aft.w,aft.ρ];exact hd,by rw[kg]⟩)
 obtain⟨k1,k2,k3⟩:=q3.new _ (List.mem_cons_self ..) v' rfl;simp only at k1 k3;obtain⟨p,m,r,rfl⟩:=hd.head;refine hk _ (c.cy w' _) ⟨rfl,rfl,rfl,rfl,λt ht=> ?_⟩ (q1.put (SR.own k1 k3 .nil) o.dst);rcases q4 t ht with ht|rfl
 ·exact .inl ht
 ·exact .inr ⟨Ar _,by simp[Bw]⟩
theorem Ap.iy(h:A5 P c n nx sl hp a sl0 hp0 o []){T:List Nat}(hT:T.Nodup)(FD:∀u∈T,∃g,c.K u g){b g ep:Nat}(hb:b∉T)(hK:c.K b g)(Et:∀g',c.K b g'->g'<=g)(hE:c.E b=ep){w':World}{ck:List Cn}{e z:Nat}{l:List DT}{x:E}{top:List Nat}(hr:(execOp a.eval o).run P c.w= .ok .skip w'){hs:List Nat}(FW:∀q∈hs,q∈(c.G b).top\/q∈B2 c T)(hm:Mod hs c.w w')
  (BT:top.Nodup) (B8:∀q∈top,(q∈hs\/c.w.heap.size<=q)/\q<w'.heap.size) (hd:DC w' [.row e z (Ax.of l)] [c.H b g] [x.den c.ρ] top):
  Ap P o c n nx sl hp [] a {bf:=ck,ay:=(b, .deep e z l g (ep+1) x)::DL T}:=by
 intro next Q hk
 unfold Oper.wp;rw[hr,Oper.upon_skip];have Jb:∀u∈T,c.U u:=λu hu=>by obtain⟨g,hg⟩:=FD u hu;exact h.rel.az _ _ hg
 have UO:=h.rel.az _ _ hK;obtain⟨q1,q2,q3,q4⟩:=h.rel.jh (r0:=⟨b,none,top, .deep e z l g (ep+1) x⟩) hT Jb hb (λhh=>by cases hh) (λ_=>UO) FW hm BT B8 (by intros;simp) (λ_ aft=>by have kg:=aft.G _ (List.mem_cons_self ..);have ke:=aft.eo _ (List.mem_cons_self ..) rfl;obtain⟨k1,k2⟩:=aft.K b g hK;simp only at kg ke;exact⟨k1,λg' B7=>Et g' (aft.old b UO g' B7),by rw[ke,hE],by rw[k2,kg,aft.w,aft.ρ];exact hd,by rw[kg]⟩)
 refine hk _ (c.cy w' _) ⟨rfl,rfl,rfl,rfl,λt ht=> ?_⟩ (q1.put ((SR.undef .nil).mkGd []) o.dst);rcases q4 t ht with ht|rfl
 ·exact .inl ht
 ·exact .inl UO
theorem Xv{w w':World}{row:Option Nat}{S:List Nat}(h:w.grownBy w' row)(hr:∀g,row=some g->g∈S\/w.heap.size<=g):Mod S w w':=by
 refine⟨h.os,h.tape,h.output,h.size,λb hb hn=>h.block b hb λhh=> ?_⟩;rcases hr b hh.symm with h1|h1
 ·exact hn h1
 ·omega
theorem WK(h:A5 P c n nx sl hp a sl0 hp0 o []){x y:Operand}{tx:TypeId}{cl:Call}(ho:o.op= .call cl)(Aq:cl.callee= .builtin .append)(Cs:cl.args.toList=[x,y])(Df:cl.argTypes.toList=[tx,tx])
  {el:TypeId} (A6:P.underlying tx=some (.slice el)) (hz:F7 P el=true) {l:List DT} (hl:l.length=P.cellsOf el) {T us:List Nat} (hT:(T++us).Nodup) (FD:∀u∈T,∃g,c.K u g) {s2:SV} {ye:E} (AQ:Bl sl0 [] y=some s2) (hy:Ba hp0 [] AN s2=some ye) (B9:QZ hp0 [] el (P.cellsOf el) l s2=some us)
  {c0:E} {v:Value} (hv:a.eval x=v) {N:List Nat} (AY:DC c.w [.row el (P.cellsOf el) (Ax.of l)] [v] [c0.den c.ρ] N) (hN:N=B2 c T) {ck:List Cn} (BD:Cn.den c.ρ (.room c0 ye (P.bytesOf el))):
  Ap P o c n nx sl hp [] a {bf:=ck,val:= .own nx 0,ay:=(nx, .deep el (P.cellsOf el) l 0 0 (.app c0 ye))::DL (T++us)}:=by
 have Ai:cl.args= #[x,y]:=by apply Array.ext';simp[Cs]
 have EY:cl.argTypes= #[tx,tx]:=by apply Array.ext';simp[Df]
 have C3:y∈o.op.operands:=by simp[ho,Op.operands,Call.operands,Aq,Ai]
 obtain⟨i,z,hi,EW,C5,BB,BX,E6⟩:=IP hz;obtain⟨ys,q,r,news,N2,CI,CR,C4,Lr,BG,Hm,LJ,VX⟩:=aU h.eh h.gs B9 (h.ca AQ C3) hy;have CB:=SN h.rel.gw hT;rw[Ik]at CB;have D1:∀b∈B2 c (T++us),b<c.w.heap.size:=λb hb=>by obtain⟨t,_,Ck⟩:=ND.1 hb;exact h.rel.gw.inb t b (by simp[GI.own,Ck])
 obtain⟨mm,kk,Gl,Dv,Ku,RQ⟩:=BD;obtain⟨d1,d2,AK⟩:=AY.inv;rw[Ax.ak]at d2 AK;have hU:∀u∈T++us,∃g,c.K u g:=λu hu=>by
  rcases Ae.1 hu with hu|hu
  ·exact FD u hu
  ·exact VX u hu
 obtain⟨xs,old,N1,B3,hold,EF,U4,FG,Cl,IC,Lf⟩:∃(xs:List AV) (old:List Value) (N1:List Nat),c0.den c.ρ= .sl xs/\old.length=xs.length*i.size/\((xs.length=0/\ ∃q,v= .slice q 0 0)\/ ∃g cap C,v= .slice (some ⟨g,0,none⟩) xs.length cap/\xs.length<=cap/\cap<=maxLen/\c.w.heap[g]?=some (.cells C el (0,0))/\C.size=cap*i.size/\old=C.toList.take (xs.length*i.size)/\(g∈B2 c T/\g∉N1))/\
   DC c.w (BS xs.length l) old (Am xs) N1/\(∀y∈xs,y.cells.length=P.cellsOf el)/\(∀u∈old,u.oneCell'=true)/\(∀b∈N1,b∈B2 c T)/\N1.Nodup:=by
  rcases AK with⟨p,rfl,EK,rfl⟩|⟨g9,cap,C,xs,N1,rfl,EK,rfl,h6,h7,h8,h9,Er,DW,Ox⟩
  ·exact⟨[],[],[],EK,by simp, .inl ⟨rfl,p,rfl⟩,by simpa[BS,Am]using DC.nil,by simp,by simp,by simp,by simp⟩
  ·have BT:(g9::N1).Nodup:=by rw[hN];exact(List.nodup_append.1 CB).1
   rw[List.nodup_cons]at BT;refine⟨xs,_,N1,EK,?_, .inr ⟨g9,cap,C,rfl,h7,h8,h6,by rw[<-BX];exact h9,rfl,by rw[<-hN];simp,BT.1⟩,by rw[<-BX];exact Ox,Er,by rw[<-BX];exact DW,λb hb=>by rw[<-hN];simp[hb],BT.2⟩;have e9:C.toList.length=cap*i.size:=by rw[<-BX,<-h9];simp
   rw[AF,e9];exact Nat.min_eq_left (A3 _ h7)
 rw[B3]at Gl;rw[CI]at Dv;simp only[AV.len,AV.int.injEq,true_and]at Gl Dv;have GL:(xs.length+ys.length)*i.bytes<=140737488355328:=by
  rw[<-Gl,<-Dv,E6]at Ku;have h9:(((xs.length+ys.length)*i.bytes:Nat):Int)<=140737488355328:=by rw[Int.natCast_mul,Int.natCast_add];exact Ku
  omega
 have Gg:xs.length+ys.length<=140737488355328:=by rw[<-Gl,<-Dv]at RQ;omega
 rw[BX]at C4;obtain⟨v',w',Ay,AJ⟩:=TN (P:=P) c.w tx o.type el i z A6 hi EW C5 BB (λg9=>g9∈B2 c T/\g9∉N1) v xs.length old hold EF q ys.length r news C4 (by simp only[maxLen];omega) GL;have CD:(execOp a.eval o).run P c.w= .ok (.value v') w':=by simp[execOp,ho,resolve,Aq,Ai,EY,invoke,builtin,hv,CR,Ay]
 have OF:∀b∈N2,b∈B2 c us:=λb hb=>BG.subset hb;have Lg:N2.Nodup:=BG.nodup (List.nodup_append.1 CB).2.1;have Je:(E.app c0 ye).den c.ρ= .sl (xs++ys):=by simp only[E.den,B3,CI,AV.app]
 rcases AJ with⟨rfl,rfl,Dg⟩|⟨g9,cap,C,rfl,h1,h2,h3,h4,h5,h6,h7⟩
 ·have Gp:ys=[]:=List.eq_nil_of_length_eq_zero Dg;subst Gp;refine Ap.dr h hT hU CD (Mod.refl _ _) (top:=N) (by rw[hN];exact(List.nodup_append.1 CB).1) (λb hb=>⟨.inl (by rw[Ik,<-hN];simp[hb]),D1 b (by rw[Ik,<-hN];simp[hb])⟩) ?_;rw[Je,AE,<-B3];exact AY
 ·have GQ:(g9∈B2 c T\/c.w.heap.size<=g9)/\g9∉N1/\g9∉N2:=by
   rcases h7 with⟨rfl,_⟩|⟨hg,B7⟩
   ·refine⟨.inr (Ar _),λhh=> ?_,λhh=> ?_⟩
    ·have:=D1 _ (by rw[Ik];exact Ae.2 (.inl (IC _ hh)));omega
    ·have:=D1 _ (by rw[Ik];exact Ae.2 (.inr (OF _ hh)));omega
   ·exact⟨.inl hg,B7,λhh=>(List.nodup_append.1 CB).2.2 _ hg _ (OF _ hh) rfl⟩
  have AU:∀b∈N1++N2,w'.heap[b]?=c.w.heap[b]?:=λb hb=>by
   have AA:b<c.w.heap.size:=D1 b (by
    rw[Ik];rcases Ae.1 hb with hb|hb
    ·exact Ae.2 (.inl (IC b hb))
    ·exact Ae.2 (.inr (OF b hb)))
   refine h6.block b AA λhh=> ?_;cases hh;rcases Ae.1 hb with hb|hb
   ·exact GQ.2.1 hb
   ·exact GQ.2.2 hb
  refine Ap.dr h hT hU CD (Xv h6 λg hg=> ?_) (top:=g9::(N1++N2)) ?_ (λb hb=> ?_) ?_
  ·cases hg;rcases GQ.1 with hh|hh
   ·exact .inl (by rw[Ik];exact Ae.2 (.inl hh))
   ·exact .inr hh
  ·refine List.nodup_cons.2 ⟨λhh=> ?_,List.nodup_append.2 ⟨Lf,Lg,λp hp q hq=> ?_⟩⟩
   ·rcases Ae.1 hh with hh|hh
    ·exact GQ.2.1 hh
    ·exact GQ.2.2 hh
   ·exact(List.nodup_append.1 CB).2.2 p (IC p hp) q (OF q hq)
  ·rcases Ac.1 hb with rfl|hb
   ·refine⟨?_,Dy h3⟩;rcases GQ.1 with hh|hh
    ·exact .inl (by rw[Ik];exact Ae.2 (.inl hh))
    ·exact .inr hh
   ·have Zi:b∈B2 c (T++us):=by
     rw[Ik];rcases Ae.1 hb with hb|hb
     ·exact Ae.2 (.inl (IC b hb))
     ·exact Ae.2 (.inr (OF b hb))
    exact⟨.inl Zi,Nat.lt_of_lt_of_le (D1 b Zi) h6.size⟩
  ·rw[Je];have hlen:(xs++ys).length=xs.length+ys.length:=AO;rw[BX]at d1 d2 FG Hm ⊢;have:=DC.row (w:=w') (e:=el) (z:=i.size) (l:=Ax.of l) (g:=g9) (cap:=cap) (C:=C) (ys:=xs++ys) (N1:=N1++N2) (ts:=[]) (vs:=[]) (xs:=[]) (N:=[]) d1 (by rw[Ax.ak];exact d2) h3 (by rw[hlen];exact h1) h2 h4 (λw hw=> ?_) (by
     rw[hlen,h5];intro u hu;rcases Ae.1 hu with hu|hu
     ·exact Cl u hu
     ·exact LJ u hu) (by
     rw[hlen,h5,Qg,TA,Ax.ak];exact(U4.app Lr).frame AU) .nil
   ·rw[hlen]at this;simpa using this
   ·rcases Ae.1 hw with hw|hw
    ·exact FG w hw
    ·exact Hm w hw
end
section
variable {P:Program} {c:Cx} {n nx:Nat} {sl sl0:Nat->SV} {hp hp0:Nat->Option Ab} {a:Act} {o:Oper} {gs:Gd} {e:AS} {sg:BE} {nv:Nat}
theorem sC{l:List Nat}(h:JX l=true):l.Nodup:=Ny h
theorem oG(h:A5 P c n nx sl hp a sl0 hp0 o gs){x y:Operand}{tx ty:TypeId}{cl:Call}(ho:o.op= .call cl)(Aq:cl.callee= .builtin .append)(Cs:cl.args.toList=[x,y])(Df:cl.argTypes.toList=[tx,ty])
  {s1 s2:SV} (Bu:Bl sl0 gs x=some s1) (AQ:Bl sl0 gs y=some s2) (he:Tg P hp0 gs nx tx ty s1 s2=some e) (hc:∀q∈e.bf,Cn.den c.ρ q):Ap P o c n nx sl hp gs a e:=by
 have Ai:cl.args= #[x,y]:=by apply Array.ext';simp[Cs]
 have Dp:x∈o.op.operands:=by simp[ho,Op.operands,Call.operands,Aq,Ai]
 have C3:y∈o.op.operands:=by simp[ho,Op.operands,Call.operands,Aq,Ai]
 unfold Tg at he;split at he
 ·cases he
 rename_i Ic;have Ic:tx=ty:=by simpa using Ic
 subst Ic;split at he
 ·rename_i el e' z dl A6 CZ;have HM:=Hq A6;split at he
  ·cases he
  rename_i Ao;simp only[not_or,Bh,Bool.not_eq_false,Bool.not_eq_true,ne_eq,Decidable.not_not]at Ao;obtain⟨hz,Fo,rfl,rfl⟩:=Ao;obtain⟨_,_,l,HY,Dn⟩:=QF A6 CZ;simp only[DT.row.injEq,true_and]at HY;subst HY;rw[Ax.ak]at he;have r1:=h.ca Bu Dp;split at he
  ·rename_i ye us hy B9;have hU:∀u∈us,∃g,c.K u g:=(aU h.eh h.gs B9 (h.ca AQ C3) hy).choose_spec.choose_spec.choose_spec.choose_spec.choose_spec.2.2.2.2.2.2.2;have LZ:us.Nodup:=by
    unfold QZ at B9;split at B9
    ·simp only[Aa]at B9;subst B9;simp
    ·simp only[Aa]at B9;subst B9;simp
    ·split at B9
     ·split at B9
      ·simp only[Aa]at B9;subst B9;simp
      ·cases B9
     ·cases B9
    ·cases B9
   have RX:0<P.cellsOf e':=by obtain⟨i,_,_,_,_,h1,h2,_⟩:=IP hz;omega
   split at he
   ·rename_i t g;split at he
    ·rename_i e2 z2 l2 g2 ep c0 hl;split at he
     ·rename_i hh;obtain⟨rfl,rfl,hb,rfl,D4⟩:=hh;have hb:=Ax.dt hb;subst hb;simp only[Aa]at he;subst he;obtain⟨q1,q2,q3,q4,q5⟩:=h.eh t _ (Ci hl h.gs);generalize hv:a.eval x=v at r1;cases r1 with
      |own k1 k2 _=>rw[k2]at q4;simp only[Bh,List.contains_eq_mem,decide_eq_false_iff_not]at D4;exact WK h ho Aq Cs Df HM hz Dn (T:=[t]) (by simpa using List.nodup_cons.2 ⟨D4,LZ⟩) (λu hu=>by simp at hu;subst hu;exact⟨_,k1⟩) AQ hy B9 hv q4 (by simp[B2]) (hc _ (by simp))
     ·cases he
    ·cases he
   ·simp only[Aa]at he;subst he;generalize hv:a.eval x=v at r1;cases r1 with
    |emp _=>exact WK h ho Aq Cs Df HM hz Dn (T:=[]) (by simpa using LZ) (by simp) AQ hy B9 hv (c0:= .lst .nil) (.void RX (by rw[Ax.ak];exact Dn) .nil) rfl (hc _ (by simp))
   ·simp only[Aa]at he;subst he;generalize hv:a.eval x=v at r1;cases r1 with
    |bc _=>exact WK h ho Aq Cs Df HM hz Dn (T:=[]) (by simpa using LZ) (by simp) AQ hy B9 hv (c0:= .lst .nil) (.void RX (by rw[Ax.ak];exact Dn) .nil) rfl (hc _ (by simp))
   ·cases he
  ·cases he
 ·cases he
theorem Ap.ea(h:A5 P c n nx sl hp a sl0 hp0 o []){T:List Nat}(hT:T.Nodup)(FD:∀u∈T,∃g,c.K u g){ck:List Cn}{el z:Nat}{l:List DT}(hz:0<z)(hl:l.length=z){x:E}{xs:List AV}{C:Array Value}{cap:Nat}(hx:x.den c.ρ= .sl xs)(Aq:∀y∈xs,y.cells.length=z)(hle:xs.length<=cap)(Ln:cap<=maxLen)(hC:C.size=cap*z)
  (h1:∀u∈C.toList.take (xs.length*z),u.oneCell'=true) (hD:DC c.w (BS xs.length l) (C.toList.take (xs.length*z)) (Am xs) (B2 c T))
  (hr:(execOp a.eval o).run P c.w= .ok (.value (.slice (some ⟨c.w.heap.size,0,none⟩) xs.length cap)) (c.w.alloc (.cells C el))):
  Ap P o c n nx sl hp [] a {bf:=ck,val:= .own nx 0,ay:=(nx, .deep el z l 0 0 x)::DL T}:=by
 have D1:∀b∈B2 c T,b<c.w.heap.size:=λb hb=>by obtain⟨t,_,Ck⟩:=ND.1 hb;exact h.rel.gw.inb t b (by simp[GI.own,Ck])
 have AP:(c.w.alloc (.cells C el)).heap[c.w.heap.size]?=some (.cells C el (0,0)):=heap_alloc_new c.w _;have Ve:c.w.grownBy (c.w.alloc (.cells C el)) (some c.w.heap.size):=⟨rfl,rfl,rfl,by simp,λj hj _=>Below.heap_alloc c.w _ _ hj⟩
 refine Ap.dr h hT FD hr (Xv Ve λg hg=> .inr (by cases hg;exact Ar _)) (top:=c.w.heap.size::B2 c T) ?_ (λb hb=> ?_) ?_
 ·exact List.nodup_cons.2 ⟨λhh=>by have:=D1 _ hh;omega,SN h.rel.gw hT⟩
 ·rcases Ac.1 hb with rfl|hb
  ·exact⟨.inr (Ar _),by simp⟩
  ·exact⟨.inl hb,Nat.lt_of_lt_of_le (D1 b hb) (by simp)⟩
 ·rw[hx];have:=DC.row (w:=c.w.alloc (.cells C el)) (e:=el) (z:=z) (l:=Ax.of l) (g:=c.w.heap.size) (cap:=cap) (C:=C) (ys:=xs) (N1:=B2 c T) (ts:=[]) (vs:=[]) (xs:=[]) (N:=[]) hz (by rw[Ax.ak];exact hl) AP hle Ln hC Aq h1 (by
   rw[Ax.ak];exact hD.frame λb hb=>Below.heap_alloc c.w _ _ (D1 b hb)) .nil
  simpa using this
theorem oU(h:A5 P c n nx sl hp a sl0 hp0 o gs){t:TypeId}{m:Nat}{parts:Array (Nat × Operand)}(ho:o.op= .buildSlice t m parts){ps:List (Nat × SV)}(Kt:parts.toList.mapM (λ(p:Nat × Operand)=>(Bl sl0 gs p.2).map λs=>(p.1,s))=some ps)(he:Ts P hp0 gs nx t m ps=some e)(hc:∀q∈e.bf,Cn.den c.ρ q):Ap P o c n nx sl hp gs a e:=by
 obtain⟨e1,e2⟩:=Tc (c:=c) (a:=a) (parts.toList.map (·.2)) (λx s hx hm=>h.ca hx (by simpa[ho,Op.operands]using hm)) (λx hx=>List.mem_map.2 ⟨x,hx,rfl⟩) Kt;unfold Ts at he;split at he
 ·rename_i el e' zz dl HN CZ;have A6:=Hq HN;split at he
  ·cases he
  rename_i Ao;simp only[not_or,Bh,Bool.not_eq_false',ne_eq,Bool.not_eq_false,Bool.not_eq_true,Nat.not_lt,Decidable.not_not]at Ao;obtain⟨hz,Fo,rfl,rfl,A2,As,hle,DY⟩:=Ao;obtain⟨_,_,l,HY,Dn⟩:=QF HN CZ;simp only[DT.row.injEq,true_and]at HY;subst HY;rw[Ax.ak]at he;have As:Ah P e'=true\/P.cellsOf e'=1:=by simpa using As
  obtain⟨i,z,hi,EW,C5,BB,BX,E6⟩:=IP hz;split at he
  ·rename_i xs us ck Py;split at he
   ·rename_i BT;simp only[Aa]at he;subst he;obtain⟨p1,p5,p6,p7,p8⟩:=aE h.eh h.gs Dn As (ps.map (·.2)) (parts.toList.map λp=>a.eval p.2) e2 Py hc;have hlen:(parts.toList.map λp=>a.eval p.2).length=m:=by
     have:ps.length=m:=by have:=congrArg List.length DY;simpa using this
     have h9:=congrArg List.length e1;simp at h9 ⊢;omega
    have FZ:(parts.map λ(x:Nat × Operand)=>(x.1,a.eval x.2)).toList=((parts.toList.map λp=>a.eval p.2).zipIdx 0).map λp=>(p.2,p.1):=by
     have Lz:parts.toList.map (·.1)=List.range m:=by rw[<-e1,DY]
     apply List.ext_getElem?;intro j;have hj:(parts.toList.map (·.1))[j]?=(List.range m)[j]?:=by rw[Lz]
     simp only[Array.toList_map,List.getElem?_map,List.getElem?_zipIdx]at hj ⊢;cases hp:parts.toList[j]? with
     |none=>simp
     |some p=>
      rw[hp]at hj;simp only[Option.map_some,Aa]at hj ⊢;have Vp:j<m:=by
       rcases Nat.lt_or_ge j m with hh|hh
       ·exact hh
       ·rw[List.getElem?_eq_none (by simpa using hh)]at hj;cases hj
      rw[List.getElem?_range Vp]at hj;simp at hj;simp[hj]
    obtain⟨C',f1,f2⟩:=Xp (sz:=i.size) (λj=>some (j*i.size,i.size)) (λj=>rfl) (parts.toList.map λp=>a.eval p.2) 0 ((Array.range (m*i.size)).map (λj=>(if m*i.size=0 then #[]else z.cells)[j % (if m*i.size=0 then #[]else z.cells).size]!)) [] _ (by simp;rfl) (by simp) (by simp[hlen]) (λv hv=>by rw[<-BX];exact(p5 v hv).1);have De:C'.toList.length=m*P.cellsOf e':=by
     rw[f2,BX];simp only[List.nil_append];have:∀(L:List Value),(∀v∈L,v.cells.size=i.size)->(L.flatMap λv=>v.cells.toList).length=L.length*i.size:=by
      intro L
      induction L with
      |nil=>intro _;simp
      |cons v L ih=>intro hL;simp only[List.flatMap_cons,AO,AM,Bp];rw[ih (λu hu=>hL u (by simp[hu])),hL v (by simp),Nat.add_mul];omega
     rw[this _ (λv hv=>by rw[<-BX];exact(p5 v hv).1),hlen]
    have Gn:(xs.map (E.den c.ρ)).length=m:=by rw[List.length_map,p7,hlen]
    have BZ:C'.toList.take ((xs.map (E.den c.ρ)).length*P.cellsOf e')=(parts.toList.map λp=>a.eval p.2).flatMap λv=>v.cells.toList:=by rw[Gn,<-De,List.take_length,f2];simp
    refine Ap.ea h (sC BT) p8 (by omega) Dn (xs:=xs.map (E.den c.ρ)) (C:=C') (cap:=m) (by simp[E.den,EL.ct]) (λy hy=> ?_) (by omega) (by simp only[maxLen];have:m*1<=m*P.cellsOf e':=Nat.mul_le_mul_left _ (by omega);omega) (by rw[<-Bp,De]) ?_ ?_ ?_
    ·obtain⟨q,hq,rfl⟩:=List.mem_map.1 hy;exact p6 q hq
    ·rw[BZ];intro u hu;obtain⟨v,hv,hu⟩:=List.mem_flatMap.1 hu;exact(p5 v hv).2 u hu
    ·rw[BZ,Gn,<-hlen];exact p1
    ·rw[Gn];have Ay:=Z8 (P:=P) A6 A2 hi EW BX m (by rw[<-BX];omega) (parts.map λ(x:Nat × Operand)=>(x.1,a.eval x.2)) C' (by rw[FZ];exact f1) c.w;simp only[execOp,ho,Sem.run_bind];rw[Ay];rfl
   ·cases he
  ·cases he
 ·cases he
theorem W8{w:World}:∀{ds:List DT} {ss:List SV} {vs:List Value},MC ds ss=true->SR c ss vs-> ∀{xs:EL} {m:Nat},Cf hp0 gs m ss=some xs->DC w ds vs (xs.den c.ρ) []
 | [],[],vs,_,hs,xs,m,hx=>by
  cases hs;cases m with
  |zero=>simp[Cf]at hx
  |succ m=>simp[Cf]at hx;subst hx;exact .nil
 | [],_::_,_,h,_,_,_,_=>by simp[MC]at h
 |_::_,[],_,h,_,_,_,_=>by simp[MC]at h
 |d::ds,s::ss,[],h,hs,_,_,_=>by have:=hs.len;simp at this
 |d::ds,s::ss,v::vs,h,hs,xs,m,hx=>by
  obtain⟨j,y,ys,rfl,hy,CI,rfl⟩:=IT hx;obtain⟨r1,r2⟩:=hs.bd;simp only[MC,Ad]at h;have ih:=W8 (w:=w) h.2 r2 CI;unfold hP at h;obtain⟨h1,_⟩:=h;split at h1
  ·rename_i y';rw[EL.den,IY hy];cases r1 with
   |e g1 g2 _=>
    cases y'<;>simp[Rj]at h1
    ·cases g1 with
     |int hk _=>exact .flat (.int hk .nil) ih
    ·cases g1 with
     |bool _=>exact .flat (.bool .nil) ih
    ·rename_i s0;generalize hq:(E.str s0).den c.ρ=q at g1;cases g1 with
     |str hk _=>exact .flat (.str hk .nil) ih
     |_=>simp[E.den]at hq
  ·simp only[Ad,Au,AB]at h1;rw[EL.den,JD hy];cases r1 with
   |bc _=>exact .void h1.1 h1.2 ih
  ·cases h1
theorem DC.rep{w:World}{ds:List DT}{vs:List Value}{xs:List AV}(h:DC w ds vs xs []):∀k,DC w (BS k ds) (List.replicate k vs).flatten (List.replicate k xs).flatten []
 |0=>by simpa[BS]using DC.nil
 |k+1=>by rw[Md,List.replicate_succ,List.flatten_cons,List.replicate_succ,List.flatten_cons];simpa using h.app (DC.rep h k)
theorem qF(h:A5 P c n nx sl hp a sl0 hp0 o gs){t:TypeId}{l m:Operand}(ho:o.op= .makeSlice t l m){s1 s2:SV}(Bu:Bl sl0 gs l=some s1)(AQ:Bl sl0 gs m=some s2)(he:Tx P hp0 gs nx t s1 s2=some e)(hc:∀q∈e.bf,Cn.den c.ρ q):Ap P o c n nx sl hp gs a e:=by
 have Dp:l∈o.op.operands:=by simp[ho,Op.operands]
 have C3:m∈o.op.operands:=by simp[ho,Op.operands]
 unfold Tx at he;split at he
 ·rename_i el e' zz dl x y HN CZ;have A6:=Hq HN;split at he
  ·cases he
  rename_i Ao;simp only[not_or,Bh,Bool.not_eq_false',ne_eq,Bool.not_eq_false,Bool.not_eq_true,Decidable.not_not]at Ao;obtain⟨hz,Fo,rfl,rfl,E8,Vf⟩:=Ao;have Vf:gs=[]:=by simpa using Vf
  subst Vf;obtain⟨_,_,dl',HY,Dn⟩:=QF HN CZ;simp only[DT.row.injEq,true_and]at HY;subst HY;rw[Ax.ak]at he;obtain⟨i,z,hi,EW,C5,BB,BX,E6⟩:=IP hz;have r1:=h.ca Bu Dp;have r2:=h.ca AQ C3;have ival:∀{x:E} {kk:IntKind} {k:Int} {v:Value},SR c [.e x] [v]->x.den c.ρ= .int kk k->v= .int kk k:=by
   intro x kk k v hr hx;cases hr with
   |e h1 _ _=>exact(Fb h1 hx).1
  split at he
  ·rename_i s hs;have hs:Ej z=some s:=by simpa[hi,EW]using hs
   split at he
   ·rename_i RZ;obtain⟨w,hw,rfl⟩:=Aj.1 he;obtain⟨kk,k,hk,h0,hb,hle⟩:Cn.den c.ρ (.mkroom x (P.bytesOf e')):=BK hc;have E7:=ival r1 hk;have CR:=ival r2 (by rw[<-E.ah c.ρ _ _ E8];exact hk);have ZL:DC c.w dl' z.cells.toList (w.den c.ρ).cells []:=by
     have Ju:=Tj (c:=c) hs;unfold gT at RZ;cases s with
     |agg cs=>
      obtain⟨k9,l9,hm,kP,rfl⟩:=QC hw;cases Ju with
      |agg h9 h1 h8=>have:=W8 (w:=c.w) RZ h1 kP;simpa[Value.cells,AV.cells,E.den]using this
     |bc=>
      have A6:Cf hp0 [] (AN+1) [.bc]=some (.cons w .nil):=by unfold Cf;rw[hw];rfl
      have:=W8 (w:=c.w) RZ Ju A6;rw[JD hw]at this ⊢;cases Ju with
      |bc _=>simpa[Value.cells,AV.cells,E.den,EL.den]using this
     |_=>cases RZ
    obtain⟨c1,c2⟩:=W7 (w:=c.w) (ρ:=c.ρ) hs hw;obtain⟨kn,rfl⟩:=Int.eq_ofNat_of_zero_le h0;have Dl:(i.bytes:Int)*(kn:Int)<=281474976710656:=by rw[E6]at hb;rw[Int.mul_comm];omega
    have hlen:=c1.len;have LH:=SD z.cells (by omega) kn;have Ay:=run_make (P:=P) c.w t e' i z A6 hi EW kk kk kn kn (by omega) (Int.le_refl _) Dl (by omega);have EI:(madeCells z.cells (kn*z.cells.size)).size=kn*P.cellsOf e':=by rw[size_madeCells,C5,BX]
    have BZ:(madeCells z.cells (kn*z.cells.size)).toList.take ((List.replicate kn (w.den c.ρ)).length*P.cellsOf e')=(List.replicate kn z.cells.toList).flatten:=by rw[List.length_replicate,List.take_of_length_le (by rw[Bp,EI];exact Ar _),LH]
    have Ei:Am (List.replicate kn (w.den c.ρ))=(List.replicate kn (w.den c.ρ).cells).flatten:=by
     clear Ay EI BZ LH hb hle Dl hk E7 CR h0 hc
     induction kn with
     |zero=>rfl
     |succ k ih=>simp only[List.replicate_succ,Am,List.flatMap_cons,List.flatten_cons]at ih ⊢;rw[ih]
    refine Ap.ea (T:=[]) h (by simp) (by simp) (by omega) Dn (xs:=List.replicate kn (w.den c.ρ)) (C:=madeCells z.cells (kn*z.cells.size)) (cap:=kn) (by simp[E.den,hk,AV.rep]) (λu hu=> ?_) (by simp) (by simp only[maxLen];omega) EI ?_ ?_ ?_
    ·rw[List.eq_of_mem_replicate hu,<-hlen,Bp,C5,BX]
    ·rw[BZ];intro u hu;obtain⟨q,hq,hu⟩:=List.mem_flatten.1 hu;rw[List.eq_of_mem_replicate hq]at hu;exact c2 u hu
    ·rw[BZ,List.length_replicate,Ei];exact ZL.rep kn
    ·simp only[execOp,ho,E7,CR,Sem.run_bind,Int.ofNat_eq_natCast,List.length_replicate];rw[Ay,C5];rfl
   ·cases he
  ·cases he
 ·cases he
end
section
variable {P:Program} {c:Cx} {n nx:Nat} {sl sl0:Nat->SV} {hp hp0:Nat->Option Ab} {a:Act} {o:Oper} {gs:Gd} {e:AS} {sg:BE} {nv:Nat}
theorem aT{α:Type}(cs vs:List α)(o:Nat):setVs cs o vs=cs.take o++(vs++cs.drop (o+vs.length)):=by simp[setVs]
theorem DC.setVs{w:World}{ts:List DT}{L V:List Value}{X Y:List AV}{N1 N2 M:List Nat}{p:Nat}(h1:DC w (ts.take p) (L.take p) (X.take p) N1)(h2:DC w (ts.drop (p+V.length)) (L.drop (p+V.length)) (X.drop (p+V.length)) N2)(k:DC w ((ts.drop p).take V.length) V Y M):
  DC w ts (Go.Proofs.YteeafhlnofapaaaGreat.setVs L p V) (Go.Proofs.YteeafhlnofapaaaGreat.setVs X p Y) (N1++(M++N2)):=by
 have hk:=k.len;have ht:ts=ts.take p++((ts.drop p).take V.length++ts.drop (p+V.length)):=by rw[<-List.drop_drop,Bq,Bq]
 rw[aT,aT];have hl:Y.length=V.length:=by omega
 rw[hl];have:=h1.app (k.app h2);rw[<-ht]at this;exact this
theorem cI(h:A5 P c n nx sl hp a sl0 hp0 o []){t:TypeId}{x y:Operand}(ho:o.op= .store t x y){b g:Nat}{ix:E}{sz k:Nat}{s:SV}(r1:SR c [.bz b g ix sz k] [a.eval x])(r2:SR c [s] [a.eval y]){el:Nat}{l:List DT}{ep:Nat}{c0:E}(hK:c.K b g)(Et:∀g',c.K b g'->g'<=g)(hE:c.E b=ep)
  (A2:CL P t=true) (hle:k+P.cellsOf t<=sz) (EU:Ah P el=true\/(sz=1/\Ah P t=false)) (DE:Ah P t=true\/P.cellsOf t=1)
  {xe:E} {us:List Nat} {ck:List Cn} (B9:NZ P hp0 [] t ((l.drop k).take (P.cellsOf t)) s=some (xe,us,ck)) (Ji:∀q∈ck,q.den c.ρ) (BT:us.Nodup) (hb:b∉us)
  (B8:∀(kk:IntKind) (kv:Int),ix.den c.ρ= .int kk kv-> ∃(m cap:Nat) (C:Array Value) (ys:List AV) (N1 N2:List Nat),c.H b g= .slice (some ⟨m,0,none⟩) ys.length cap/\c0.den c.ρ= .sl ys/\0<sz/\l.length=sz/\c.w.heap[m]?=some (.cells C el (0,0))/\ys.length<=cap/\cap<=maxLen/\C.size=cap*sz/\(∀y∈ys,y.cells.length=sz)/\(∀w∈C.toList.take (ys.length*sz),w.oneCell'=true)/\
   (m::(N1++N2)).Nodup/\(∀q∈m::(N1++N2),q∈(c.G b).top)/\DC c.w ((BS ys.length l).take (kv.toNat*sz+k)) ((C.toList.take (ys.length*sz)).take (kv.toNat*sz+k)) ((Am ys).take (kv.toNat*sz+k)) N1/\
   DC c.w ((BS ys.length l).drop (kv.toNat*sz+k+P.cellsOf t)) ((C.toList.take (ys.length*sz)).drop (kv.toNat*sz+k+P.cellsOf t)) ((Am ys).drop (kv.toNat*sz+k+P.cellsOf t)) N2):
  Ap P o c n nx sl hp [] a {bf:=ck,ay:=(b, .deep el sz l g (ep+1) (.set c0 ix (.put (.idx c0 ix) k xe (Ah P el))))::DL us}:=by
 generalize hv:a.eval x=v at r1;cases r1 with
 |bz k1 k2 k3 k4 k5 k6=>
  rename_i m0 len cap0 kk kv;obtain⟨m,cap,C,ys,N1,N2,p1,p2,p3,p4,p5,p6,p7,p8,p9,p10,p11,p12,p13,p14⟩:=B8 kk kv k3;rw[k2]at p1;cases p1;have GV:kv.toNat<ys.length:=by omega
  have hmul:(kv.toNat+1)*sz<=ys.length*sz:=A3 _ (by omega);have D3:ys.length*sz<=cap0*sz:=A3 _ p6;rw[Nat.add_mul]at hmul;have De:C.toList.length=cap0*sz:=by simpa using p8
  obtain⟨q1,q2,q3,q4,q5,q6⟩:=aG h.eh h.gs (by rw[AF,B1,p4];omega) DE B9 r2 Ji;have Fp:=KR GV;generalize Hn:(AV.sl ys).nth kv.toNat=yk at Fp;have E0:=p9 yk (List.mem_of_getElem? Fp);have DH:(a.eval y).cells.toList.length=P.cellsOf t:=by simpa using q4
  obtain⟨m1,m2,m3⟩:=SC (vs:=(a.eval y).cells.toList) p5 (show(kv.toNat*sz+k)+_<=C.size by rw[DH,p8];omega);have LD:(C.toList.take (ys.length*sz)).length=ys.length*sz:=by rw[AF,De];omega
  have Gj:m0∈(c.G b).top:=p12 _ (by simp);have Jy:∀q∈B2 c us,q∉(c.G b).top:=λq hq hh=>by obtain⟨u,hu,VN⟩:=ND.1 hq;exact h.rel.gw.br u b (λhh=>hb (hh▸hu)) q (by simp[GI.own,VN]) (by simp[GI.own,hh])
  have Kl:∀q∈B2 c us,q<c.w.heap.size:=λq hq=>by obtain⟨u,_,VN⟩:=ND.1 hq;exact h.rel.gw.inb u q (by simp[GI.own,VN])
  have Kk:∀q∈(c.G b).top,q<c.w.heap.size:=λq hq=>h.rel.gw.inb b q (by simp[GI.own,hq]);have AU:∀q,q∈B2 c us\/(q∈N1++N2)->(putCells c.w m0 (kv.toNat*sz+k) (a.eval y).cells.toList).heap[q]?=c.w.heap[q]?:=λq hq=>by
   refine m1.block q ?_ ?_
   ·rcases hq with hq|hq
    ·exact Kl q hq
    ·exact Kk q (p12 q (by simp[Ae.1 hq]))
   ·simp only[List.mem_singleton];rintro rfl;rcases hq with hq|hq
    ·exact Jy _ hq Gj
    ·exact(List.nodup_cons.1 p11).1 hq
  have hz:(yk.cm k (xe.den c.ρ) (Ah P el)).cells=setVs yk.cells k (xe.den c.ρ).cells:=by
   refine Xe ?_ (λhg=> ?_)
   ·cases hg:Ah P el with
    |true=>exact .inr rfl
    |false=>
     left;rcases EU with h'|⟨_,h'⟩
     ·rw[hg]at h';cases h'
     ·rw[h']at q5;exact λcs=>(q5.1 cs)
   ·rcases EU with h'|⟨h1,h'⟩
    ·rw[hg]at h';cases h'
    ·rw[h']at q5;have OW:P.cellsOf t=1:=by rcases DE with h2|h2;rw[h']at h2;cases h2;exact h2
     refine⟨by omega,by omega,?_⟩;cases V1:xe.den c.ρ<;>first|rfl|exact absurd V1 (q5.1 _)
  have DZ:Am (ys.set kv.toNat (yk.cm k (xe.den c.ρ) (Ah P el)))=setVs (Am ys) (kv.toNat*sz+k) (xe.den c.ρ).cells:=
   Tm ys _ _ yk k _ p9 Fp (by rw[q3];exact hle) hz
  have FQ:((BS ys.length l).drop (kv.toNat*sz+k)).take (P.cellsOf t)=(l.drop k).take (P.cellsOf t):=by rw[<-p4];exact Qn l _ _ _ _ GV (by omega)
  have Ay:(execOp a.eval o).run P c.w= .ok .skip (putCells c.w m0 (kv.toNat*sz+k) (a.eval y).cells.toList):=by have:=WY (P:=P) (t:=t) (v:=a.eval y) (off:=kv.toNat*sz+k) p5 A2 q4 (by rw[q4,p8];omega) q2;simp[execOp,ho,hv,this]
  refine Ap.iy h BT q6 hb hK Et hE Ay (hs:=(c.G b).top++B2 c us) (λq hq=>Ae.1 hq) ⟨m1.os,m1.tape,m1.output,m1.size,λq hq hn=>m1.block q hq λhh=>hn (by simp only[List.mem_singleton]at hh;subst hh;exact Ae.2 (.inl Gj))⟩
   (top:=m0::(N1++(B2 c us++N2))) ?_ (λq hq=> ?_) ?_
  ·have kY:=SN h.rel.gw BT;rw[List.nodup_cons,List.nodup_append]at p11;obtain⟨n1,n2,n3,n4⟩:=p11;have a1:∀q∈B2 c us,q∉N1/\q∉N2/\q≠m0:=λq hq=>⟨λhh=>Jy q hq (p12 q (by simp[hh])),λhh=>Jy q hq (p12 q (by simp[hh])),λhh=>Jy q hq (hh▸Gj)⟩
   rw[List.nodup_cons,List.nodup_append,List.nodup_append];refine⟨λhh=> ?_,n2,⟨kY,n3,λp hp q hq RN=>(a1 p hp).2.1 (RN▸hq)⟩,λp hp q hq RN=> ?_⟩
   ·simp only[Ae]at hh n1;rcases hh with hh|hh|hh
    ·exact n1 (.inl hh)
    ·exact(a1 _ hh).2.2 rfl
    ·exact n1 (.inr hh)
   ·rcases Ae.1 hq with hq|hq
    ·exact(a1 q hq).1 (RN▸hp)
    ·exact n4 p hp q hq RN
  ·have:q∈(c.G b).top\/q∈B2 c us:=by
    simp only[Ac,Ae]at hq;rcases hq with rfl|hq|hq|hq
    ·exact .inl Gj
    ·exact .inl (p12 q (by simp[hq]))
    ·exact .inr hq
    ·exact .inl (p12 q (by simp[hq]))
   refine⟨.inl (Ae.2 this),Nat.lt_of_lt_of_le ?_ m1.size⟩;rcases this with hh|hh
   ·exact Kk q hh
   ·exact Kl q hh
  ·have BY:(E.set c0 ix (.put (.idx c0 ix) k xe (Ah P el))).den c.ρ= .sl (ys.set kv.toNat (yk.cm k (xe.den c.ρ) (Ah P el))):=by
    simp only[E.den,p2,k3,AV.idx,Hn,AV.ch]
   rw[BY,k2];have Dn:(ys.set kv.toNat (yk.cm k (xe.den c.ρ) (Ah P el))).length=ys.length:=List.length_set;have:=DC.row (w:=putCells c.w m0 (kv.toNat*sz+k) (a.eval y).cells.toList) (e:=el) (z:=sz) (l:=Ax.of l) (g:=m0) (cap:=cap0) (ys:=ys.set kv.toNat (yk.cm k (xe.den c.ρ) (Ah P el))) (N1:=N1++(B2 c us++N2)) (ts:=[]) (vs:=[]) (xs:=[]) (N:=[]) p3 (by rw[Ax.ak];exact p4) m2 (by rw[Dn];exact p6) p7 (by rw[List.size_toArray,Nx _ _ _ (by rw[DH,De];omega),Bp];exact p8) (λw hw=> ?_) ?_ ?_ .nil
   ·rw[Dn]at this;simpa using this
   ·rcases List.mem_or_eq_of_mem_set hw with hw|rfl
    ·exact p9 w hw
    ·rw[hz,Nx _ _ _ (by rw[q3,E0];exact hle)];exact E0
   ·simp only[Dn,List.toList_toArray];rw[NC _ _ _ _ (by rw[DH];omega) (by rw[De];omega)];intro u hu;unfold setVs at hu;simp only[Ae]at hu;rcases hu with(hu|hu)|hu
    ·exact p10 u (BA hu)
    ·exact q2 u hu
    ·exact p10 u (BP hu)
   ·simp only[Dn,List.toList_toArray];rw[NC _ _ _ _ (by rw[DH];omega) (by rw[De];omega),DZ,Ax.ak];refine DC.setVs (p13.frame λq hq=>AU q (.inr (by simp[hq]))) ?_ ?_
    ·rw[DH];exact p14.frame λq hq=>AU q (.inr (by simp[hq]))
    ·rw[DH,FQ];exact q1.frame λq hq=>AU q (.inl hq)
theorem o5(h:A5 P c n nx sl hp a sl0 hp0 o gs){t:TypeId}{x y:Operand}(ho:o.op= .store t x y){b g:Nat}{ix:E}{sz k:Nat}{s:SV}(AY: ¬ ∃e z g c d,CE hp0 gs b=some (.row e z g c d))(hx:Bl sl0 gs x=some (.bz b g ix sz k))(hy:Bl sl0 gs y=some s)
  (he:KO P hp0 gs t (.bz b g ix sz k) s=some e) (hc:∀q∈e.bf,Cn.den c.ρ q):Ap P o c n nx sl hp gs a e:=by
 have r1:=h.ca hx (by simp[ho,Op.operands]);have r2:=h.ca hy (by simp[ho,Op.operands]);simp only[KO]at he;split at he
 ·rename_i hl;exact absurd ⟨_,_,_,_,_,hl⟩ AY
 ·rename_i el sz' l g' ep c0 hl;split at he
  ·rename_i hh;obtain⟨rfl,rfl,rfl,A2,hle,EU,DE⟩:=hh;split at he
   ·rename_i xe us ck B9;split at he
    ·cases he
    rename_i D4;simp only[Bool.or_eq_true,Bh,not_or,Bool.not_eq_false,Bool.not_eq_true,List.contains_eq_mem,decide_eq_false_iff_not]at D4;simp only[Aa]at he;subst he;obtain⟨e1,e2,e3,e4,e5⟩:=h.eh b _ (Ci hl h.gs);refine cI h ho r1 r2 e1 e2 e3 A2 hle (by simpa using EU) DE B9 hc (Ny D4.1) D4.2 λkk kv O8=> ?_;generalize a.eval x=v at r1;cases r1 with
    |bz k1 k2 k3 k4 k5 _=>
     rw[k3]at O8;cases O8;obtain⟨d1,d2,⟨a9,d3,_⟩|⟨g9,cap9,C,ys,N,d3,d4,d5,d6,d7,d8,d9,d10,d11,d12⟩⟩:=e4.inv
     ·rw[k2]at d3;cases d3;omega
     ·rw[Ax.ak]at d2 d12;obtain⟨N1,N2,N3,rfl,s1,s2,s3⟩:=d12.split (kv.toNat*sz+k) (P.cellsOf t);have BT:=h.rel.gw.nodup b;simp only[GI.own,e5,AE,d5]at BT;refine⟨g9,cap9,C,ys,N1,N3,d3,d4,d1,d2,d6,d7,d8,d9,d10,d11,?_,λq hq=> ?_,s1,s3⟩
      ·refine List.Sublist.nodup (List.Sublist.cons_cons _ ?_) BT;rw[List.append_assoc];exact List.Sublist.append (List.Sublist.refl _) (List.sublist_append_right _ _)
      ·rw[d5];simp only[Ac,Ae]at hq ⊢;rcases hq with hq|hq|hq
       ·exact .inl hq
       ·exact .inr (.inl (.inl hq))
       ·exact .inr (.inr hq)
   ·cases he
  ·cases he
 ·rename_i el sz' l g' ep c0 i' o' u' hl;split at he
  ·rename_i hh;obtain⟨rfl,rfl,rfl,A2,rfl,kD,hle,OW,DE,EU⟩:=hh;have DE:Ah P t=false:=by simpa using DE
   split at he
   ·rename_i xe us ck B9;split at he
    ·cases he
    rename_i D4;simp only[Bool.or_eq_true,Bh,not_or,Bool.not_eq_false,Bool.not_eq_true,List.contains_eq_mem,decide_eq_false_iff_not]at D4;simp only[Aa]at he;subst he;obtain⟨e1,e2,e3,⟨m,cap,C,ys,kk,kv,N1,N2,p1,p2,p3,p4,p5,p6,p7,p7',p8,p9,p10,p11,p12,p13,p14,p15,p16,p17,p18⟩,e5⟩:=h.eh b _ (Ci hl h.gs);refine cI h ho r1 r2 e1 e2 e3 A2 (by omega) (EU.imp id λhh=>⟨hh,DE⟩) (.inr OW) (by rw[OW];exact B9) hc (Ny D4.1) D4.2 λkk' kv' O8=> ?_;rw[E.ah c.ρ _ _ kD,p3]at O8;cases O8;have BT:=h.rel.gw.nodup b;simp only[GI.own,e5,AE,p14]at BT;exact⟨m,cap,C,ys,N1,N2,p1,p2,p7,p7',p8,p9,p10,p11,p12,p13,BT,λq hq=>by rw[p14];exact hq,p17,by rw[OW];exact p18⟩
   ·cases he
  ·cases he
 ·cases he
end
section
variable {P:Program} {c:Cx} {n nx:Nat} {sl sl0:Nat->SV} {hp hp0:Nat->Option Ab} {a:Act} {o:Oper} {gs:Gd} {e:AS} {sg:BE} {nv:Nat}
theorem XK{w:World}{ety sz:Nat}{p:Option Addr}{m r:Nat}{x:AV}{top N:List Nat}(h:Cy w ety sz (.slice p m r) x top N):∃xs,x= .sl xs/\xs.length=m/\m<=r/\0<sz/\(∀y∈xs,y.cells.length=sz)/\
  ((xs=[]/\m=0/\r=0/\top=[]/\N=[])\/ ∃g C,p=some ⟨g,0,none⟩/\r<=maxLen/\w.heap[g]?=some (.cells C ety (0,0))/\C.size=r*sz/\top=[g]/\(∀u∈C.toList.take (m*sz),u.oneCell'=true)/\Rd w (C.toList.take (m*sz)) (Am xs) N):=by
 obtain⟨xs,rfl,h2,h3,⟨rfl,⟨a,hv⟩,rfl,rfl⟩|⟨g,cap',C,hv,h6,h7,h8,h9,rfl,Er,DW⟩⟩:=h
 ·cases hv;exact⟨[],rfl,rfl,Ar _,h3,by simp, .inl ⟨rfl,rfl,rfl,rfl,rfl⟩⟩
 ·cases hv;exact⟨xs,rfl,rfl,h6,h3,h2, .inr ⟨g,C,rfl,h7,h8,h9,rfl,Er,DW⟩⟩
theorem qI(h:A5 P c n nx sl hp a sl0 hp0 o gs){t:TypeId}{x:Operand}{lo hi mx:Option Operand}(ho:o.op= .slice t x lo hi mx){s:SV}(hs:Bl sl0 gs x=some s){l' h' m':Option SV}(Bm:Gz (Bl sl0 gs) lo=some l')(Hi:Gz (Bl sl0 gs) hi=some h')(EC:Gz (Bl sl0 gs) mx=some m')(he:TG P hp0 gs t s l' h' m'=some e)(hc:∀q∈e.bf,Cn.den c.ρ q):Ap P o c n nx sl hp gs a e:=by
 have hm:x∈o.op.operands:=by simp[ho,Op.operands]
 have H0:∀y,lo=some y->y∈o.op.operands:=λy hy=>by simp[ho,Op.operands,hy]
 have GX:∀y,hi=some y->y∈o.op.operands:=λy hy=>by simp[ho,Op.operands,hy]
 have hx:=h.ca hs hm;have ival:∀{x:E} {kk:IntKind} {k:Int} {v:Value},SR c [.e x] [v]->x.den c.ρ= .int kk k->v= .int kk k:=by
  intro x kk k v hr hx;cases hr with
  |e h1 _ _=>exact(Fb h1 hx).1
 have ex:(execOp a.eval o).run P c.w=((Instr.sliceAt t (a.eval x) (lo.map a.eval) (hi.map a.eval) (mx.map a.eval)).run P c.w).andThen λv w=> .ok (.value v) w:=by simp[execOp,ho]
 unfold TG at he;split at he
 ·rename_i el0 b g A6;have hu:=Hq A6;split at he
  ·cases he
  rename_i A2;have A2:CL P el0=true:=by simpa using A2
  have H2:mx=none:=by
   rcases FI EC with⟨hh,_⟩|⟨_,_,_,_,hh⟩
   ·exact hh
   ·cases hh
  subst H2;split at he
  ·rename_i el z g' c0 d hl;split at he
   ·cases he
   rename_i Ao;simp only[not_or,Decidable.not_not,ne_eq]at Ao;obtain⟨rfl,rfl,rfl⟩:=Ao;obtain⟨q1,q2,N,q3,q4,q5,q6⟩:=h.eh b _ (Ci hl h.gs);generalize hv:a.eval x=v at hx ex;cases hx with
   |own k1 k2 k3=>
    rename_i p m r;rw[k2]at q3;obtain⟨xs,B3,Gn,LI,BB,Aq,AK⟩:=XK q3;split at he
    ·rename_i l;simp only[Aa]at he;subst he;obtain⟨ka,ai,kb,bi,mm,d1,d2,d3,d4,d5,d6⟩:Cn.den c.ρ (.win c0 l (.len c0)):=BK hc;have RE:mm=(m:Int):=by rw[B3]at d3;simp only[AV.len,AV.int.injEq,true_and]at d3;omega
     obtain⟨an,rfl⟩:=Int.eq_ofNat_of_zero_le d4;obtain⟨ol,BN,hol⟩:∃ol,lo=some ol/\Bl sl0 [] ol=some (.e l):=by
      rcases FI Bm with⟨_,hh⟩|⟨ol,sl',HR,Lx,Ly⟩
      ·cases hh
      ·cases Ly;exact⟨ol,HR,Lx⟩
     have HU:hi=none:=by
      rcases FI Hi with⟨hh,_⟩|⟨_,_,_,_,hh⟩
      ·exact hh
      ·cases hh
     subst BN;subst HU;have LF:=ival (h.ca hol (H0 _ rfl)) d1;have hle:an<=m:=by omega
     have Ay:=Qf (P:=P) (w:=c.w) (lo:=(some ol).map a.eval) (hi:=(none:Option Operand).map a.eval) hu A2 p m r an m (.inr ⟨ka,by rw[Option.map_some,LF]⟩) (.inl ⟨rfl,rfl⟩) hle (Ar _) LI;have:=SR.wown (c:=c) (lo:=l) (sz:=P.cellsOf el) (q':=if r=an then p else p.map (·.add (an*P.cellsOf el))) (r:=r-an) k1 k2 d1 d4 (by omega) (λAA=>by
      rcases AK with⟨_,Dg,_⟩|⟨g9,C,rfl,_⟩
      ·omega
      ·exact⟨g9,rfl,by rw[if_neg (by omega)];simp[Addr.add_lit],by simp⟩) .nil
     refine Ap.pure h (v:=sliced p an m r (P.cellsOf el)) ?_ (by simpa[sliced]using this) rfl;rw[ex];show Result.andThen (Sem.run P (Instr.sliceAt t (.slice p m r) ((some ol).map a.eval) ((none:Option Operand).map a.eval) none) c.w) _=_;rw[Ay];rfl
    ·rename_i hb;simp only[Aa]at he;subst he;obtain⟨ka,ai,kb,bi,mm,d1,d2,d3,d4,d5,d6⟩:Cn.den c.ρ (.win c0 (.int .i64 0) hb):=BK hc;have RE:mm=(m:Int):=by rw[B3]at d3;simp only[AV.len,AV.int.injEq,true_and]at d3;omega
     simp only[E.den,AV.int.injEq]at d1;obtain⟨_,rfl⟩:=d1;obtain⟨bn,rfl⟩:=Int.eq_ofNat_of_zero_le d5;obtain⟨oh,HU,VG⟩:∃oh,hi=some oh/\Bl sl0 [] oh=some (.e hb):=by
      rcases FI Hi with⟨_,hh⟩|⟨ol,sl',HR,Lx,Ly⟩
      ·cases hh
      ·cases Ly;exact⟨ol,HR,Lx⟩
     have BN:lo=none:=by
      rcases FI Bm with⟨hh,_⟩|⟨_,_,_,_,hh⟩
      ·exact hh
      ·cases hh
     subst BN;subst HU;have LF:=ival (h.ca VG (GX _ rfl)) d2;have hle:bn<=m:=by omega
     have Ay:=Qf (P:=P) (w:=c.w) (lo:=(none:Option Operand).map a.eval) (hi:=(some oh).map a.eval) hu A2 p m r 0 bn (.inl ⟨rfl,rfl⟩) (.inr ⟨kb,by rw[Option.map_some,LF]⟩) (Nat.zero_le _) hle LI;have CF:sliced p 0 bn r (P.cellsOf el)= .slice p bn r:=by
      unfold sliced;rcases AK with⟨_,_,rfl,_⟩|⟨g9,C,rfl,_⟩
      ·simp
      ·split<;>simp[Addr.add_lit]
     rw[CF]at Ay;have CD:(execOp a.eval o).run P c.w= .ok (.value (.slice p bn r)) c.w:=by rw[ex];show Result.andThen (Sem.run P (Instr.sliceAt t (.slice p m r) ((none:Option Operand).map a.eval) ((some oh).map a.eval) none) c.w) _=_;rw[Ay];rfl
     have AP: ¬c.K b (g+1):=λhk=>by have:=q2 _ hk;omega
     have hrel:=h.rel;have Dm:=hrel.aq (gs:=[]) (t:=b) (g:=g+1) (w':=c.w) (row:=(c.G b).top.head?) (top:=(c.G b).top) (O:=if d=true then(c.G b).O else []) (v:= .slice p bn r) (.inr (by omega)) AP ⟨rfl,rfl,rfl,Ar _,λ_ _ _=>rfl⟩ (λg0 Es=> .inl (List.mem_of_mem_head? Es)) (by
       rcases AK with⟨_,_,_,ht,_⟩|⟨g9,C,_,_,_,_,ht,_⟩
       ·exact .inl ht
       ·exact .inr ⟨g9,by rw[ht];rfl,ht⟩) (by split;exact .inr rfl;exact .inl rfl)
      (.row el (P.cellsOf el) (g+1) (.win c0 (.int .i64 0) hb) d) (by intros;simp) (Ed _) (λFE=>by
       have G1:(E.win c0 (.int .i64 0) hb).den c.ρ= .sl (xs.take bn):=by simp only[E.den,B3,d2,AV.win];simp
       obtain⟨N',Bf,Rv⟩:∃N',Cy c.w el (P.cellsOf el) (.slice p bn r) (.sl (xs.take bn)) (c.G b).top N'/\ ∀q∈N',q∈N:=by
        rcases AK with⟨rfl,Dg,rfl,ht,rfl⟩|⟨g9,C,rfl,Et,MT,hC,ht,h1,CQ⟩
        ·have:bn=0:=by omega
         subst this;exact⟨[],⟨[],by simp,by simp,BB, .inl ⟨rfl,⟨p,rfl⟩,ht,rfl⟩⟩,by simp⟩
        ·obtain⟨N',UB,CP⟩:=CQ.piece 0 (bn*P.cellsOf el);have HW:(xs.take bn).length=bn:=by rw[AF];omega
         have hmul:bn*P.cellsOf el<=m*P.cellsOf el:=A3 _ hle;have ef:=Xh xs Aq 0 bn (Nat.zero_le _) (by omega);simp only[Nat.zero_mul,Nat.sub_zero,List.drop_zero]at ef CP;rw[ef,List.take_take,Nat.min_eq_left hmul]at CP;refine⟨N',⟨xs.take bn,rfl,λy hy=>Aq y (BA hy),BB, .inr ⟨g9,r,C,by rw[HW],by rw[HW];omega,Et,MT,hC,ht,?_,?_⟩⟩,UB⟩
         ·rw[HW];intro u hu;refine h1 u ?_;have:C.toList.take (bn*P.cellsOf el)=(C.toList.take (m*P.cellsOf el)).take (bn*P.cellsOf el):=by rw[List.take_take,Nat.min_eq_left hmul]
          rw[this]at hu;exact BA hu
         ·rw[HW];exact CP
       refine⟨.inr ⟨rfl,rfl⟩,λg'' Lw=> ?_,N',?_,λq hq=>FE.ok q (Bf.kp q hq) (q4 q (Rv q hq)),λhd=> ?_,λhd=>by simp[Cx.aq,hd]⟩
       ·rcases Lw with Lw|⟨_,rfl⟩
        ·have:=q2 _ Lw;omega
        ·exact Ar _
       ·have e1:(c.aq b (g+1) c.w (.slice p bn r) (c.G b).top (if d=true then(c.G b).O else [])).H b (g+1)= .slice p bn r:=by simp[Cx.aq]
        have e2:((c.aq b (g+1) c.w (.slice p bn r) (c.G b).top (if d=true then(c.G b).O else [])).G b).top=(c.G b).top:=by simp[Cx.aq]
        rw[e1,e2];show Cy c.w el (P.cellsOf el) _ ((E.win c0 (.int .i64 0) hb).den c.ρ) _ N';rw[G1];exact Bf
       ·obtain⟨u1,u2⟩:=q5 hd;have u1:N=[]:=u1;subst u1;have Le:N'=[]:=List.eq_nil_iff_forall_not_mem.2 λq hq=>by simpa using Rv q hq
        subst Le;exact⟨rfl,by simp only[Cx.aq,if_true,hd];exact u2⟩)
     intro next Q hk
     unfold Oper.wp;rw[CD,Oper.upon_value];refine hk _ (c.aq b (g+1) c.w (.slice p bn r) (c.G b).top (if d=true then(c.G b).O else [])) ⟨rfl,rfl,rfl,rfl,λu hu=> ?_⟩ (Dm.put (SR.mkGd (c:=c.aq b (g+1) c.w (.slice p bn r) (c.G b).top (if d=true then(c.G b).O else [])) (s:= .own b (g+1)) (v:= .slice p bn r) (.own (show _\/_ from .inr ⟨rfl,rfl⟩) (by simp[Cx.aq]) .nil) []) o.dst);rcases hu with hu|rfl
     ·exact .inl hu
     ·exact .inl (h.rel.az _ _ k1)
    ·cases he
  ·cases he
 ·cases he
theorem o0(z:Array Value)(hz:0<z.size)(k:Nat):(Builtin.zeroCells z k).toList=(List.replicate k z.toList).flatten:=by have:=SD z hz k;rw[<-this];rfl
theorem s5(h:A5 P c n nx sl hp a sl0 hp0 o gs){x:Operand}{tx:TypeId}{cl:Call}(ho:o.op= .call cl)(Aq:cl.callee= .builtin .clear)(Cs:cl.args.toList=[x])(Df:cl.argTypes.toList=[tx]){s:SV}(hs:Bl sl0 gs x=some s)(he:X0 P hp0 gs tx s=some e)(hc:∀q∈e.bf,Cn.den c.ρ q):Ap P o c n nx sl hp gs a e:=by
 have Ai:cl.args= #[x]:=by apply Array.ext';simp[Cs]
 have EY:cl.argTypes= #[tx]:=by apply Array.ext';simp[Df]
 have hm:x∈o.op.operands:=by simp[ho,Op.operands,Call.operands,Aq,Ai]
 have hx:=h.ca hs hm;unfold X0 at he;split at he
 ·rename_i el0 b g l z A6;have hu:=Hq A6;split at he
  ·rename_i el z' g' c0 d hl;split at he
   ·cases he
   rename_i Ao;simp only[not_or,Bh,Bool.not_eq_false,Decidable.not_not,ne_eq]at Ao;obtain⟨rfl,rfl,rfl,rfl,hz,As⟩:=Ao;have As:Ah P el=true\/P.cellsOf el=1:=by simpa using As
   obtain⟨i,zv,hi,EW,C5,BB,BX,E6⟩:=IP hz;split at he
   ·rename_i q hq;split at he
    ·rename_i w hw;have hq:Ej zv=some q:=by simpa[hi,EW]using hq
     simp only[Aa]at he;subst he;obtain⟨c1,c2⟩:=W7 (w:=c.w) (ρ:=c.ρ) hq hw;have AJ:=JQ h.hp (Ci hl h.gs);obtain⟨q1,q2,N,q3,q4,q5,q6⟩:=h.rel.ents b _ AJ;generalize hv:a.eval x=v at hx;cases hx with
     |wown k1 k2 k3 k4 k5 k6 k7=>
      rename_i p m r q' r' kk kv;rw[k2]at q3;obtain⟨xs,B3,Gn,LI,VV,Lo,AK⟩:=XK q3;have Lp:(E.bin .sub (.len c0) l).den c.ρ≠ .undef:=hc (.dfd (.bin .sub (.len c0) l)) (by simp);have Kn:kk= .i64:=by
       simp only[E.den,B3,AV.len,k3,AV.bin]at Lp;split at Lp
       ·rename_i hh;rcases hh with hh|hh|hh
        ·exact hh.symm
        ·cases hh
        ·cases hh
       ·exact absurd rfl Lp
      subst Kn;have BY:(E.bin .sub (.len c0) l).den c.ρ= .int .i64 ((m:Int)-kv):=by
       simp only[E.den,B3,AV.len,k3,AV.bin,true_or,if_true,Cv,Gn];congr 1;have kW:(m:Int)<=9223372036854775807:=by
        rcases AK with⟨_,h0,_⟩|⟨_,_,_,Et,_⟩
        ·omega
        ·have:maxLen=9223372036854775807:=rfl;omega
       exact(Mt .i64 _).2 ⟨by simp[IntKind.min,IntKind.signed,IntKind.bits];omega,by simp[IntKind.max,IntKind.signed,IntKind.bits];omega⟩
      have AP:(E.app (.win c0 (.int .i64 0) l) (.rep (.bin .sub (.len c0) l) w)).den c.ρ= .sl (xs.take kv.toNat++List.replicate (m-kv.toNat) (w.den c.ρ)):=by
       have e1:(E.win c0 (.int .i64 0) l).den c.ρ= .sl (xs.take kv.toNat):=by simp only[E.den,B3,k3,AV.win];simp
       have e2:(E.rep (.bin .sub (.len c0) l) w).den c.ρ= .sl (List.replicate (m-kv.toNat) (w.den c.ρ)):=by show AV.rep ((E.bin .sub (.len c0) l).den c.ρ) (w.den c.ρ)=_;rw[BY];simp only[AV.rep];congr 2;omega
       show AV.app _ _=_;rw[e1,e2];rfl
      have ex:(execOp a.eval o).run P c.w=((Builtin.clear_ #[tx] o.type #[.slice q' (m-kv.toNat) r']).run P c.w).andThen λv w=> .ok (.value v) w:=by simp[execOp,ho,resolve,Aq,Ai,EY,invoke,builtin,hv]
      rcases Nat.eq_or_lt_of_le (show kv.toNat<=m by omega)with heq|AA
      ·
       have BG:m-kv.toNat=0:=by omega
       have Ay:(execOp a.eval o).run P c.w= .ok (.value (.tuple #[])) c.w:=by rw[ex,BG];cases q'<;>simp[Builtin.clear_,run_underlying hu]
       have AU:(E.app (.win c0 (.int .i64 0) l) (.rep (.bin .sub (.len c0) l) w)).den c.ρ=c0.den c.ρ:=by rw[AP,B3,BG];simp[List.take_of_length_le (show xs.length<=kv.toNat by omega)]
       intro next Q hk
       unfold Oper.wp;rw[Ay,Oper.upon_value];have Dm:Rel c n sl (AZ hp [(b, .row el (P.cellsOf el) g (.app (.win c0 (.int .i64 0) l) (.rep (.bin .sub (.len c0) l) w)) d)]) a:=by
        have Dr:∀u,AZ hp [(b, .row el (P.cellsOf el) g (.app (.win c0 (.int .i64 0) l) (.rep (.bin .sub (.len c0) l) w)) d)] u=if u=b then some (.row el (P.cellsOf el) g (.app (.win c0 (.int .i64 0) l) (.rep (.bin .sub (.len c0) l) w)) d)else hp u:=λu=>rfl;refine h.rel.change (λu=>u=b) (Dj.refl c) h.rel.base (λu hu=>⟨by rw[Dr,if_neg hu],rfl,rfl,λ_ hk=>hk⟩) (λ_ _ _ _=>rfl) (λu hu=> ?_) h.rel.gw h.rel.az (λu f hf=> ?_)
        ·subst hu;rw[Dr,if_pos rfl];refine⟨λe' hr=> ?_,λhn=>absurd rfl (hn _)⟩;simp only[Cg]at hr;subst hr;exact⟨q1,q2,N,by rw[AU,k2];exact q3,q4,q5,q6⟩
        ·rw[Dr]at hf;split at hf
         ·rename_i hu;subst hu;exact h.rel.az _ _ k1
         ·exact h.rel.b8 u f hf
       exact hk _ c (K9.refl _ _) (Dm.put ((SR.undef .nil).mkGd []) o.dst)
      ·obtain⟨b9,Zy,rfl,rfl⟩:=k6 (by omega);rcases AK with⟨_,h0,_⟩|⟨g9,C,hp',Et,MT,hC,ht,h1,CQ⟩
       ·omega
       rw[Zy]at hp';cases hp';have De:C.toList.length=r*P.cellsOf el:=by simpa using hC
       have Zv:m*P.cellsOf el<=r*P.cellsOf el:=A3 _ LI;have Zu:(m-kv.toNat)*P.cellsOf el+kv.toNat*P.cellsOf el=m*P.cellsOf el:=by rw[<-Nat.add_mul];congr 1;omega
       have M0:=o0 zv.cells (by omega) (m-kv.toNat);generalize hZ:(List.replicate (m-kv.toNat) zv.cells.toList).flatten=Z at M0;have Lj:Z.length=(m-kv.toNat)*P.cellsOf el:=by rw[<-hZ,List.length_flatten];simp only[List.map_replicate,List.sum_replicate_nat,Bp,C5,BX]
       have Zg:∀u∈Z,u.oneCell'=true:=λu hu=>by rw[<-hZ]at hu;obtain⟨L,hL,hu⟩:=List.mem_flatten.1 hu;rw[List.eq_of_mem_replicate hL]at hu;exact c2 u hu
       have H6:=WG (P:=P) (off:=kv.toNat*P.cellsOf el) Z 0 c.w C MT (by rw[Lj,hC];omega) Zg;have Ay:(execOp a.eval o).run P c.w= .ok (.value (.tuple #[])) (putCells c.w b9 (kv.toNat*P.cellsOf el) Z):=by
        rw[ex];obtain⟨mm,RE⟩:∃mm,m-kv.toNat=mm+1:=⟨m-kv.toNat-1,by omega⟩
        have mL:(zeroValue el).run P c.w= .ok zv c.w:=by simp[zeroValue,typeInfo,hi,EW]
        simp only[Nat.add_zero]at H6;rw[RE]at M0 ⊢;simp[Builtin.clear_,run_underlying hu,mL,M0,H6]
       obtain⟨m1,m2,m3⟩:=SC (off:=kv.toNat*P.cellsOf el) (vs:=Z) MT (by rw[Lj,hC];omega);have LD:(C.toList.take (m*P.cellsOf el)).length=m*P.cellsOf el:=by rw[AF,De];omega
       have KD:b9∈(c.G b).top:=by rw[ht];simp
       have OL:Rd c.w Z (Am (List.replicate (m-kv.toNat) (w.den c.ρ))) []:=by rw[<-hZ];exact Yq c1 _
       obtain⟨n1,n2,n3,hN,s1,s2⟩:=Rd.setVs (p:=kv.toNat*P.cellsOf el) CQ OL (by rw[LD,Lj];omega);have mC:(w.den c.ρ).cells.length=P.cellsOf el:=by have:=c1.len;rw[<-this];simp[C5,BX]
       have jO:(Am (List.replicate (m-kv.toNat) (w.den c.ρ))).length=Z.length:=by rw[<-OL.len]
       have Ei:setVs (Am xs) (kv.toNat*P.cellsOf el) (Am (List.replicate (m-kv.toNat) (w.den c.ρ)))=Am (xs.take kv.toNat++List.replicate (m-kv.toNat) (w.den c.ρ)):=by
        have ef:=Xh xs Lo 0 kv.toNat (Nat.zero_le _) (by omega)
        simp only[Nat.zero_mul,Nat.sub_zero,List.drop_zero]at ef;unfold setVs;rw[ef,Qg,jO,Lj,List.drop_eq_nil_of_le (by rw[IQ _ Lo,Gn];omega),AE]
       rw[Ei]at s1;have B8:∀q∈n1++ []++n3,q∈N:=λq hq=>by rw[hN];simp at hq ⊢;rcases hq with hq|hq<;>simp[hq]
       have EX:∀q,q<c.w.heap.size->c.ok q->(putCells c.w b9 (kv.toNat*P.cellsOf el) Z).heap[q]?=c.w.heap[q]?:=by intro q hq AI;refine m1.block q hq ?_;simp only[List.mem_singleton];rintro rfl;exact AI.1 ⟨b,KD⟩
       have Dn:(xs.take kv.toNat++List.replicate (m-kv.toNat) (w.den c.ρ)).length=m:=by rw[AO,AF,List.length_replicate];omega
       have Dm:=h.rel.ia (t:=b) (b:=b9) (w':=putCells c.w b9 (kv.toNat*P.cellsOf el) Z) (O:=if d=true then(c.G b).O else []) AJ KD (by split;exact .inr rfl;exact .inl rfl) m1 m3
        (.row el (P.cellsOf el) g (.app (.win c0 (.int .i64 0) l) (.rep (.bin .sub (.len c0) l) w)) d) (by intros;simp) (λFE=>by
         refine⟨q1,q2,n1++ []++n3,?_,λq hq=>FE.ok q (CQ.inb q (B8 q hq)) (q4 q (B8 q hq)),λhd=> ?_,λhd=>by simp[Cx.dw,hd]⟩
         ·show Cy (putCells c.w b9 (kv.toNat*P.cellsOf el) Z) el (P.cellsOf el) (c.H b g) ((E.app (.win c0 (.int .i64 0) l) (.rep (.bin .sub (.len c0) l) w)).den c.ρ) _ _;rw[AP,k2,Zy];refine⟨_,rfl,λy hy=> ?_,VV, .inr ⟨b9,r,_,by rw[Dn],by rw[Dn];exact LI,Et,m2,?_,by simpa[Cx.dw]using ht,?_,?_⟩⟩
          ·rcases Ae.1 hy with hy|hy
           ·exact Lo y (BA hy)
           ·rw[List.eq_of_mem_replicate hy];exact mC
          ·rw[List.size_toArray,Nx _ _ _ (by rw[Lj,De];omega),Bp];exact hC
          ·simp only[Dn,List.toList_toArray];rw[NC _ _ _ _ (by rw[Lj];omega) (by rw[De];omega)];intro u hu;unfold setVs at hu;simp only[Ae]at hu;rcases hu with(hu|hu)|hu
           ·exact h1 u (BA hu)
           ·exact Zg u hu
           ·exact h1 u (BP hu)
          ·simp only[Dn,List.toList_toArray];rw[NC _ _ _ _ (by rw[Lj];omega) (by rw[De];omega)];exact s1.frame λq hq=>EX q (CQ.inb q (B8 q hq)) (q4 q (B8 q hq))
         ·obtain⟨u1,u2⟩:=q5 hd;have u1:N=[]:=u1;subst u1;have Le:n1++ []++n3=[]:=List.eq_nil_iff_forall_not_mem.2 λq hq=>by simpa using B8 q hq
          rw[Le];exact⟨rfl,by simp only[Cx.dw,if_true,hd];exact u2⟩)
       intro next Q hk
       unfold Oper.wp;rw[Ay,Oper.upon_value];exact hk _ (c.dw _ b _) ⟨rfl,rfl,rfl,rfl,λt ht=> .inl ht⟩ (Dm.put ((SR.undef .nil).mkGd []) o.dst)
    ·cases he
   ·cases he
  ·cases he
 ·cases he
end
section
variable {P:Program} {c:Cx} {n nx:Nat} {sl sl0:Nat->SV} {hp hp0:Nat->Option Ab} {a:Act} {o:Oper} {gs:Gd} {e:AS} {sg:BE} {nv:Nat}
theorem tU(l:List DT){n i:Nat}(hi:i<=n):BS n l=BS i l++BS (n-i) l:=by rw[<-TA];congr 1;omega
theorem s4{K:Nat}{xs:List AV}(h:∀y∈xs,y.cells.length=K){i:Nat}(hi:i<=xs.length):Am (xs.take i)=(Am xs).take (i*K)/\Am (xs.drop i)=(Am xs).drop (i*K):=by
 have l1:(Am (xs.take i)).length=i*K:=by rw[IQ _ λy hy=>h y (BA hy),AF,Nat.min_eq_left hi]
 have e:Am xs=Am (xs.take i)++Am (xs.drop i):=by rw[<-Qg,Bq]
 rw[e,<-l1,List.take_left,List.drop_left];exact⟨rfl,rfl⟩
theorem DC.lu{w:World}{xs:List AV}{l:List DT}{K:Nat}{cs:List Value}{N:List Nat}(hK:l.length=K)(h:DC w (BS xs.length l) cs (Am xs) N)(hx:∀y∈xs,y.cells.length=K){i:Nat}(hi:i<=xs.length):
  ∃N1 N2,N=N1++N2/\DC w (BS i l) (cs.take (i*K)) (Am (xs.take i)) N1/\DC w (BS (xs.length-i) l) (cs.drop (i*K)) (Am (xs.drop i)) N2:=by
 have hlen:=h.len;have t1:=s4 hx hi;have hmul:=A3 K hi;rw[tU l hi,<-Bq (i*K) cs,<-Bq (i*K) (Am xs)]at h;rw[Mg,hK]at hlen;obtain⟨N1,N2,rfl,h1,h2⟩:=DC.c8 (by rw[Mg,hK,AF];omega) (by rw[Mg,hK,AF];omega) h;exact⟨N1,N2,rfl,by rw[t1.1];exact h1,by rw[t1.2];exact h2⟩
theorem qZ(h:A5 P c n nx sl hp a sl0 hp0 o gs){t:TypeId}{x:Operand}{lo hi mx:Option Operand}(ho:o.op= .slice t x lo hi mx){s:SV}(hs:Bl sl0 gs x=some s){l' h' m':Option SV}(Bm:Gz (Bl sl0 gs) lo=some l')(Hi:Gz (Bl sl0 gs) hi=some h')(EC:Gz (Bl sl0 gs) mx=some m')(he:TX P hp0 gs nx t s l' h' m'=some e)(hc:∀q∈e.bf,Cn.den c.ρ q):Ap P o c n nx sl hp gs a e:=by
 have hm:x∈o.op.operands:=by simp[ho,Op.operands]
 have H0:∀y,lo=some y->y∈o.op.operands:=λy hy=>by simp[ho,Op.operands,hy]
 have GX:∀y,hi=some y->y∈o.op.operands:=λy hy=>by simp[ho,Op.operands,hy]
 have hx:=h.ca hs hm;have ival:∀{x:E} {kk:IntKind} {k:Int} {v:Value},SR c [.e x] [v]->x.den c.ρ= .int kk k->v= .int kk k:=by
  intro x kk k v hr hx;cases hr with
  |e h1 _ _=>exact(Fb h1 hx).1
 have ex:(execOp a.eval o).run P c.w=((Instr.sliceAt t (a.eval x) (lo.map a.eval) (hi.map a.eval) (mx.map a.eval)).run P c.w).andThen λv w=> .ok (.value v) w:=by simp[execOp,ho]
 unfold TX at he;split at he
 ·rename_i el0 b g A6;have hu:=Hq A6;split at he
  ·cases he
  rename_i A2;have A2:CL P el0=true:=by simpa using A2
  have H2:mx=none:=by
   rcases FI EC with⟨hh,_⟩|⟨_,_,_,_,hh⟩
   ·exact hh
   ·cases hh
  subst H2;split at he
  ·rename_i el z dl g' ep c0 hl;split at he
   ·cases he
   rename_i Ao;simp only[not_or,Decidable.not_not,ne_eq]at Ao;obtain⟨rfl,rfl,rfl⟩:=Ao;obtain⟨q1,q2,_,q4,_⟩:=h.eh b _ (Ci hl h.gs);generalize hv:a.eval x=v at hx ex;cases hx with
   |own k1 k2 k3=>
    rename_i p m r;rw[k2]at q4;obtain⟨_,q3,_⟩:=q4.ownRow;obtain⟨xs,B3,Gn,LI,BB,Aq,AK⟩:=XK q3;split at he
    ·rename_i l;simp only[Aa]at he;subst he;obtain⟨ka,ai,kb,bi,mm,d1,d2,d3,d4,d5,d6⟩:Cn.den c.ρ (.win c0 l (.len c0)):=BK hc;have RE:mm=(m:Int):=by rw[B3]at d3;simp only[AV.len,AV.int.injEq,true_and]at d3;omega
     obtain⟨an,rfl⟩:=Int.eq_ofNat_of_zero_le d4;obtain⟨ol,BN,hol⟩:∃ol,lo=some ol/\Bl sl0 [] ol=some (.e l):=by
      rcases FI Bm with⟨_,hh⟩|⟨ol,sl',HR,Lx,Ly⟩
      ·cases hh
      ·cases Ly;exact⟨ol,HR,Lx⟩
     have HU:hi=none:=by
      rcases FI Hi with⟨hh,_⟩|⟨_,_,_,_,hh⟩
      ·exact hh
      ·cases hh
     subst BN;subst HU;have LF:=ival (h.ca hol (H0 _ rfl)) d1;have hle:an<=m:=by omega
     have Ay:=Qf (P:=P) (w:=c.w) (lo:=(some ol).map a.eval) (hi:=(none:Option Operand).map a.eval) hu A2 p m r an m (.inr ⟨ka,by rw[Option.map_some,LF]⟩) (.inl ⟨rfl,rfl⟩) hle (Ar _) LI;have:=SR.wown (c:=c) (lo:=l) (sz:=P.cellsOf el) (q':=if r=an then p else p.map (·.add (an*P.cellsOf el))) (r:=r-an) k1 k2 d1 d4 (by omega) (λAA=>by
      rcases AK with⟨_,Dg,_⟩|⟨g9,C,rfl,_⟩
      ·omega
      ·exact⟨g9,rfl,by rw[if_neg (by omega)];simp[Addr.add_lit],by simp⟩) .nil
     refine Ap.pure h (v:=sliced p an m r (P.cellsOf el)) ?_ (by simpa[sliced]using this) rfl;rw[ex];show Result.andThen (Sem.run P (Instr.sliceAt t (.slice p m r) ((some ol).map a.eval) ((none:Option Operand).map a.eval) none) c.w) _=_;rw[Ay];rfl
    ·cases he
  ·rename_i el z dl g' ep c0 kE hl;split at he
   ·cases he
   rename_i Ao;simp only[not_or,Decidable.not_not,ne_eq]at Ao;obtain⟨rfl,rfl,rfl⟩:=Ao;obtain⟨q1,q2,_,⟨p',cap',ys,kk,kv,e1,e2,e3,e4,e5,e6⟩,_⟩:=h.eh b _ (Ci hl h.gs);generalize hv:a.eval x=v at hx ex;cases hx with
   |own k1 k2 k3=>
    rename_i p m r;rw[k2]at e1;simp only[Value.slice.injEq]at e1;obtain⟨rfl,rfl,rfl⟩:=e1;split at he
    ·rename_i hb;split at he
     ·rename_i Kd;rw[<-E.ah c.ρ _ _ Kd]at e3;simp only[Aa]at he;subst he;obtain⟨oh,HU,VG⟩:∃oh,hi=some oh/\Bl sl0 [] oh=some (.e hb):=by
       rcases FI Hi with⟨_,hh⟩|⟨ol,sl',HR,Lx,Ly⟩
       ·cases hh
       ·cases Ly;exact⟨ol,HR,Lx⟩
      have BN:lo=none:=by
       rcases FI Bm with⟨hh,_⟩|⟨_,_,_,_,hh⟩
       ·exact hh
       ·cases hh
      subst BN;subst HU;have LF:=ival (h.ca VG (GX _ rfl)) e3;have Ay:=Qf (P:=P) (w:=c.w) (lo:=(none:Option Operand).map a.eval) (hi:=(some oh).map a.eval) hu A2 p ys.length r 0 kv (.inl ⟨rfl,rfl⟩) (.inr ⟨kk,by rw[Option.map_some,LF]⟩) (Nat.zero_le _) e4 e5;have CF:sliced p 0 kv r (P.cellsOf el)= .slice p kv r:=by
       obtain⟨_,_,⟨a9,h9,_⟩|⟨g9,cap,C,zs,N1,h9,_⟩⟩:=e6.inv
       ·simp only[Value.slice.injEq]at h9;obtain⟨rfl,_,rfl⟩:=h9;simp[sliced]
       ·simp only[Value.slice.injEq]at h9;obtain⟨rfl,_,_⟩:=h9;unfold sliced;split<;>simp[Addr.add_lit]
      rw[CF]at Ay;have CD:(execOp a.eval o).run P c.w= .ok (.value (.slice p kv r)) c.w:=by rw[ex];show Result.andThen (Sem.run P (Instr.sliceAt t (.slice p ys.length r) ((none:Option Operand).map a.eval) ((some oh).map a.eval) none) c.w) _=_;rw[Ay];rfl
      have G1:(E.win c0 (.int .i64 0) hb).den c.ρ= .sl (ys.take kv):=by simp only[E.den,e2,e3,AV.win];simp
      have B5:B2 c [b]=(c.G b).top:=by simp[B2]
      have BT:=h.rel.gw.nodup b;simp only[GI.own]at BT;exact Ap.dr h (T:=[b]) (by simp) (by simpa using⟨_,q1⟩) CD (Mod.refl _ _) (top:=(c.G b).top) (List.nodup_append.1 BT).1 (λq hq=>⟨.inl (by rw[B5];exact hq),h.rel.gw.inb b q (by simp[GI.own,hq])⟩) (by rw[G1];exact e6)
     ·cases he
    ·cases he
  ·cases he
 ·cases he
theorem rU{x y:Operand}{tx:TypeId}{cl:Call}(ho:o.op= .call cl)(Aq:cl.callee= .builtin .append)(Cs:cl.args.toList=[x,y])(Df:cl.argTypes.toList=[tx,tx])
  {el:TypeId} (A6:P.underlying tx=some (.slice el)) (hz:F7 P el=true) {l:List DT} (hl:l.length=P.cellsOf el) {TT:List Nat} (Rw:TT.Nodup) (Jc:∀b∈TT,b<c.w.heap.size) {N2:List Nat} (Lg:N2.Nodup) (HE:∀b∈N2,b<c.w.heap.size) (OG:∀b∈N2,b∉TT)
  {ys:List AV} {q:Option Addr} {r:Nat} {news:List Value} (CR:a.eval y= .slice q ys.length r) (C4:Src c.w (P.cellsOf el) q ys.length news) (Lr:DC c.w (BS ys.length l) news (Am ys) N2) (Hm:∀y∈ys,y.cells.length=P.cellsOf el) (LJ:∀u∈news,u.oneCell'=true)
  {X:AV} {v:Value} (hv:a.eval x=v) (AY:DC c.w [.row el (P.cellsOf el) (Ax.of l)] [v] [X] TT) {xs:List AV} (hX:X= .sl xs) (Ku:((xs.length:Int)+ys.length)*P.bytesOf el<=140737488355328) (RQ:(xs.length:Int)+ys.length<=140737488355328):
  ∃v' w' top,(execOp a.eval o).run P c.w= .ok (.value v') w'/\Mod TT c.w w'/\top.Nodup/\(∀b∈top,(b∈TT\/b∈N2\/c.w.heap.size<=b)/\b<w'.heap.size)/\DC w' [.row el (P.cellsOf el) (Ax.of l)] [v'] [.sl (xs++ys)] top:=by
 have Ai:cl.args= #[x,y]:=by apply Array.ext';simp[Cs]
 have EY:cl.argTypes= #[tx,tx]:=by apply Array.ext';simp[Df]
 obtain⟨i,z,hi,EW,C5,BB,BX,E6⟩:=IP hz;obtain⟨d1,d2,AK⟩:=AY.inv;rw[Ax.ak]at d2 AK;subst hX;obtain⟨old,N1,hold,EF,U4,FG,Cl,IC,Lf⟩:∃(old:List Value) (N1:List Nat),old.length=xs.length*i.size/\((xs.length=0/\ ∃q,v= .slice q 0 0)\/ ∃g cap C,v= .slice (some ⟨g,0,none⟩) xs.length cap/\xs.length<=cap/\cap<=maxLen/\c.w.heap[g]?=some (.cells C el (0,0))/\C.size=cap*i.size/\old=C.toList.take (xs.length*i.size)/\(g∈TT/\g∉N1))/\
   DC c.w (BS xs.length l) old (Am xs) N1/\(∀y∈xs,y.cells.length=P.cellsOf el)/\(∀u∈old,u.oneCell'=true)/\(∀b∈N1,b∈TT)/\N1.Nodup:=by
  rcases AK with⟨p,rfl,EK,rfl⟩|⟨g9,cap,C,xs',N1,rfl,EK,rfl,h6,h7,h8,h9,Er,DW,Ox⟩
  ·cases EK;exact⟨[],[],by simp, .inl ⟨rfl,p,rfl⟩,by simpa[BS,Am]using DC.nil,by simp,by simp,by simp,by simp⟩
  ·cases EK;rw[List.nodup_cons]at Rw;refine⟨_,N1,?_, .inr ⟨g9,cap,C,rfl,h7,h8,h6,by rw[<-BX];exact h9,rfl,by simp,Rw.1⟩,by rw[<-BX];exact Ox,Er,by rw[<-BX];exact DW,λb hb=>by simp[hb],Rw.2⟩;have e9:C.toList.length=cap*i.size:=by rw[<-BX,<-h9];simp
   rw[AF,e9];exact Nat.min_eq_left (A3 _ h7)
 have GL:(xs.length+ys.length)*i.bytes<=140737488355328:=by
  rw[E6]at Ku;have h9:(((xs.length+ys.length)*i.bytes:Nat):Int)<=140737488355328:=by rw[Int.natCast_mul,Int.natCast_add];exact Ku
  omega
 have Gg:xs.length+ys.length<=140737488355328:=by omega
 rw[BX]at C4;obtain⟨v',w',Ay,AJ⟩:=TN (P:=P) c.w tx o.type el i z A6 hi EW C5 BB (λg9=>g9∈TT/\g9∉N1) v xs.length old hold EF q ys.length r news C4 (by simp only[maxLen];omega) GL;have CD:(execOp a.eval o).run P c.w= .ok (.value v') w':=by simp[execOp,ho,resolve,Aq,Ai,EY,invoke,builtin,hv,CR,Ay]
 rcases AJ with⟨rfl,rfl,Dg⟩|⟨g9,cap,C,rfl,h1,h2,h3,h4,h5,h6,h7⟩
 ·have Gp:ys=[]:=List.eq_nil_of_length_eq_zero Dg;subst Gp;refine⟨_,_,TT,CD,Mod.refl _ _,Rw,λb hb=>⟨.inl hb,Jc b hb⟩,?_⟩;rw[AE];exact AY
 ·have GQ:(g9∈TT\/c.w.heap.size<=g9)/\g9∉N1/\g9∉N2:=by
   rcases h7 with⟨rfl,_⟩|⟨hg,B7⟩
   ·refine⟨.inr (Ar _),λhh=> ?_,λhh=> ?_⟩
    ·have:=Jc _ (IC _ hh);omega
    ·have:=HE _ hh;omega
   ·exact⟨.inl hg,B7,λhh=>OG _ hh hg⟩
  have AU:∀b∈N1++N2,w'.heap[b]?=c.w.heap[b]?:=λb hb=>by
   have AA:b<c.w.heap.size:=by
    rcases Ae.1 hb with hb|hb
    ·exact Jc b (IC b hb)
    ·exact HE b hb
   refine h6.block b AA λhh=> ?_;cases hh;rcases Ae.1 hb with hb|hb
   ·exact GQ.2.1 hb
   ·exact GQ.2.2 hb
  refine⟨_,w',g9::(N1++N2),CD,Xv h6 λg hg=> ?_,?_,λb hb=> ?_,?_⟩
  ·cases hg;exact GQ.1
  ·refine List.nodup_cons.2 ⟨λhh=> ?_,List.nodup_append.2 ⟨Lf,Lg,λp hp q hq e=>OG q hq (e▸IC p hp)⟩⟩;rcases Ae.1 hh with hh|hh
   ·exact GQ.2.1 hh
   ·exact GQ.2.2 hh
  ·rcases Ac.1 hb with rfl|hb
   ·exact⟨GQ.1.elim .inl λh=> .inr (.inr h),Dy h3⟩
   ·rcases Ae.1 hb with hb|hb
    ·exact⟨.inl (IC b hb),Nat.lt_of_lt_of_le (Jc b (IC b hb)) h6.size⟩
    ·exact⟨.inr (.inl hb),Nat.lt_of_lt_of_le (HE b hb) h6.size⟩
  ·have hlen:(xs++ys).length=xs.length+ys.length:=AO;rw[BX]at d1 d2 FG Hm ⊢;have:=DC.row (w:=w') (e:=el) (z:=i.size) (l:=Ax.of l) (g:=g9) (cap:=cap) (C:=C) (ys:=xs++ys) (N1:=N1++N2) (ts:=[]) (vs:=[]) (xs:=[]) (N:=[]) d1 (by rw[Ax.ak];exact d2) h3 (by rw[hlen];exact h1) h2 h4 (λw hw=> ?_) (by
     rw[hlen,h5];intro u hu;rcases Ae.1 hu with hu|hu
     ·exact Cl u hu
     ·exact LJ u hu) (by
     rw[hlen,h5,Qg,TA,Ax.ak];exact(U4.app Lr).frame AU) .nil
   ·rw[hlen]at this;simpa using this
   ·rcases Ae.1 hw with hw|hw
    ·exact FG w hw
    ·exact Hm w hw
theorem qG(h:A5 P c n nx sl hp a sl0 hp0 o gs){x y:Operand}{tx ty:TypeId}{cl:Call}(ho:o.op= .call cl)(Aq:cl.callee= .builtin .append)(Cs:cl.args.toList=[x,y])(Df:cl.argTypes.toList=[tx,ty])
  {s1 s2:SV} (Bu:Bl sl0 gs x=some s1) (AQ:Bl sl0 gs y=some s2) (he:Tw P hp0 gs nx tx ty s1 s2=some e) (hc:∀q∈e.bf,Cn.den c.ρ q):Ap P o c n nx sl hp gs a e:=by
 have Ai:cl.args= #[x,y]:=by apply Array.ext';simp[Cs]
 have Dp:x∈o.op.operands:=by simp[ho,Op.operands,Call.operands,Aq,Ai]
 have C3:y∈o.op.operands:=by simp[ho,Op.operands,Call.operands,Aq,Ai]
 unfold Tw at he;split at he
 ·cases he
 rename_i Ic;have Ic:tx=ty:=by simpa using Ic
 subst Ic;split at he
 ·rename_i el e' z dl t g2 b g lo z' A6 CZ;have HM:=Hq A6;split at he
  ·cases he
  rename_i Ao;simp only[not_or,Bh,Bool.not_eq_false,ne_eq,Decidable.not_not]at Ao;obtain⟨hz,rfl,rfl,rfl,RS⟩:=Ao;obtain⟨_,_,l,HY,Dn⟩:=QF A6 CZ;simp only[DT.row.injEq,true_and]at HY;subst HY;rw[Ax.ak]at he;have r1:=h.ca Bu Dp;have r2:=h.ca AQ C3;split at he
  ·rename_i e2 z2 l2 g2' ep2 c2 e3 z3 l3 g3 ep c0 AA kR;split at he
   ·rename_i hh;obtain⟨rfl,rfl,Gg,rfl,rfl,rfl,Ll,rfl⟩:=hh;have Gg:=Ax.dt Gg;have Ll:=Ax.dt Ll;subst Gg;subst Ll;simp only[Aa]at he;subst he;obtain⟨qt1,qt2,qt3,qt4,qt5⟩:=h.eh t _ (Ci AA h.gs);obtain⟨qb1,qb2,qb3,qb4,qb5⟩:=h.eh b _ (Ci kR h.gs);obtain⟨ka,ai,kb,bi,mm,d1,d2,d3,d4,d5,d6⟩:Cn.den c.ρ (.win c0 lo (.len c0)):=hc _ (by simp);obtain⟨m1,m2,rr1,rr2,rr3,rr4⟩:Cn.den c.ρ (.room c2 (.win c0 lo (.len c0)) (P.bytesOf e3)):=hc _ (by simp);generalize lY:a.eval x=v at r1;generalize lZ:a.eval y=v2 at r2;cases r1 with
    |own k1 k2 k3=>
     cases r2 with
     | @wown _ _ _ _ qq nn cap qq' r kk kI _ _ j1 j2 j3 j4 j5 j6 j7=>
      have lR:(c.G t).top.Nodup:=by have:=h.rel.gw.nodup t;simp only[GI.own]at this;exact(List.nodup_append.1 this).1
      have UP:(c.G b).top.Nodup:=by have:=h.rel.gw.nodup b;simp only[GI.own]at this;exact(List.nodup_append.1 this).1
      have VW:∀q∈(c.G t).top,q<c.w.heap.size:=λq hq=>h.rel.gw.inb t q (by simp[GI.own,hq]);have Jh:∀q∈(c.G b).top,q<c.w.heap.size:=λq hq=>h.rel.gw.inb b q (by simp[GI.own,hq]);have Kc:∀q∈(c.G b).top,q∉(c.G t).top:=λq hq Js=>h.rel.gw.br b t (λe=>RS e.symm) q (by simp[GI.own,hq]) (by simp[GI.own,Js]);obtain⟨z1,z2',AK⟩:=qb4.inv;rw[Ax.ak]at z2' AK;obtain⟨an,rfl⟩:=Int.eq_ofNat_of_zero_le j4;obtain⟨ys,news,NB,CI,PI,C4,Lr,Hm,LJ,Ru,topb,EJ,Lh,VM⟩:∃(ys:List AV) (news:List Value) (NB:List Nat),(E.win c0 lo (.len c0)).den c.ρ= .sl ys/\ys.length=nn-an/\Src c.w (P.cellsOf e3) qq' ys.length news/\DC c.w (BS ys.length l3) news (Am ys) NB/\(∀y∈ys,y.cells.length=P.cellsOf e3)/\(∀u∈news,u.oneCell'=true)/\(∀q∈NB,q∈(c.G b).top)/\
        ∃topb:List Nat,(∀q∈topb,q∈(c.G b).top)/\(topb++NB).Nodup/\ ∀w':World,(∀q∈topb,w'.heap[q]?=c.w.heap[q]?)-> ∃(p:Option Addr) (cp:Nat) (zs:List AV),c.H b g= .slice p zs.length cp/\c0.den c.ρ= .sl zs/\an<=zs.length/\zs.length<=cp/\DC w' [.row e3 (P.cellsOf e3) (Ax.of l3)] [.slice p an cp] [.sl (zs.take an)] topb:=by
       rcases AK with⟨a9,hH,EK,Kz⟩|⟨g9,cp,C,zs,N1,hH,EK,Kz,h6,h7,h8,h9,Er,DW,Ox⟩
       ·rw[j2]at hH;simp only[Value.slice.injEq]at hH;obtain⟨rfl,rfl,rfl⟩:=hH;have jP:an=0:=by omega
        subst jP;have KC:(E.win c0 lo (.len c0)).den c.ρ= .sl []:=by simp only[E.den,EK,j3,AV.win,AV.len];simp
        refine⟨[],[],[],KC,by simp,?_,by simpa[BS,Am]using DC.nil,by simp,by simp,by simp,[],by simp,by simp,λw' _=>⟨qq,0,[],by rw[j2];rfl,EK,by simp,by simp, .void z1 (by rw[Ax.ak];exact z2') .nil⟩⟩;cases qq' with
        |none=>exact .inl ⟨rfl,rfl,rfl⟩
        |some ad=>exact .inr ⟨ad,rfl,by simp,by simp,by simp⟩
       ·rw[j2]at hH;simp only[Value.slice.injEq]at hH;obtain⟨rfl,rfl,rfl⟩:=hH;have hle:an<=zs.length:=by omega
        obtain⟨NA,NB,hN,c1,c2'⟩:=Ox.lu z2' Er hle;have hmul:=A3 (P.cellsOf e3) hle;have D3:=A3 (P.cellsOf e3) h7;have De:C.toList.length=cap*P.cellsOf e3:=by simpa using h9
        have KC:(E.win c0 lo (.len c0)).den c.ρ= .sl (zs.drop an):=by simp only[E.den,EK,j3,AV.win,AV.len];simp
        have Lq:(zs.drop an).length=zs.length-an:=B1;rw[Kz]at UP;rw[hN]at UP;refine⟨zs.drop an,(C.toList.take (zs.length*P.cellsOf e3)).drop (an*P.cellsOf e3),NB,KC,Lq,?_,by rw[Lq];exact c2',λy hy=>Er y (BP hy),λu hu=>DW u (BP hu),λq hq=>by rw[Kz,hN];simp[hq],g9::NA,λq hq=>by rw[Kz,hN];rcases Ac.1 hq with rfl|hq<;>simp_all,by simpa using UP,λw' ZH=>⟨some ⟨g9,0,none⟩,cap,zs,by rw[j2],EK,hle,h7,?_⟩⟩
        ·rw[Lq];by_cases AA:an<zs.length
         ·obtain⟨b9,MT,Js,_⟩:=j6 (by omega);cases MT;subst Js;refine .inr ⟨_,rfl,?_,λj u hj=> ?_,λu hu=>DW u (BP hu)⟩
          ·rw[B1,AF,De,Nat.min_eq_left D3,Nat.sub_mul]
          ·rw[Addr.add_lit,DR h6];rw[List.getElem?_drop,List.getElem?_take]at hj;split at hj
           ·rw[Array.getElem?_toList]at hj;simpa using hj
           ·cases hj
         ·have:zs.length-an=0:=by omega
          rw[this];have e0:(C.toList.take (zs.length*P.cellsOf e3)).drop (an*P.cellsOf e3)=[]:=by
           apply List.drop_eq_nil_of_le;rw[AF];have:zs.length=an:=by omega
           rw[this];omega
          rw[e0];cases qq' with
          |none=>exact .inl ⟨rfl,rfl,rfl⟩
          |some ad=>exact .inr ⟨ad,rfl,by simp,by simp,by simp⟩
        ·have HW:(zs.take an).length=an:=by rw[AF];omega
         have e5:C.toList.take (an*P.cellsOf e3)=(C.toList.take (zs.length*P.cellsOf e3)).take (an*P.cellsOf e3):=by rw[List.take_take,Nat.min_eq_left hmul]
         have:=DC.row (w:=w') (e:=e3) (z:=P.cellsOf e3) (l:=Ax.of l3) (g:=g9) (cap:=cap) (C:=C) (ys:=zs.take an) (N1:=NA) (ts:=[]) (vs:=[]) (xs:=[]) (N:=[]) z1 (by rw[Ax.ak];exact z2') (by rw[ZH g9 (by simp)];exact h6) (by rw[HW];omega) h8 h9 (λy hy=>Er y (BA hy)) (by
           rw[HW,e5];intro u hu;exact DW u (BA hu)) (by
           rw[HW,e5,Ax.ak];exact c1.frame λq hq=>ZH q (by simp[hq])) .nil
         rw[HW]at this;simpa using this
      have UC:NB.Nodup:=(List.nodup_append.1 Lh).2.1;obtain⟨xs,B3⟩:∃xs,c2.den c.ρ= .sl xs:=by
       obtain⟨_,_,⟨_,_,hh,_⟩|⟨_,_,_,zs,_,_,hh,_⟩⟩:=qt4.inv
       ·exact⟨_,hh⟩
       ·exact⟨_,hh⟩
      have Zs:(nn:Int)-(an:Int)=(ys.length:Int):=by omega
      rw[B3]at rr1;rw[CI]at rr2;simp only[AV.len,AV.int.injEq,true_and]at rr1 rr2;have CR:a.eval y= .slice qq' ys.length r:=by rw[lZ];congr 1;omega
      obtain⟨v',w',top,Ay,B4,PC,D9,OX⟩:=rU (c:=c) (o:=o) (a:=a) ho Aq Cs Df HM hz Dn lR VW UC (λq hq=>Jh q (Ru q hq)) (λq hq=>Kc q (Ru q hq)) CR C4 Lr Hm LJ lY (by rw[<-k2];exact qt4) B3 (by rw[rr1,rr2];exact rr3) (by rw[rr1,rr2];exact rr4);have Je:(E.app c2 (.win c0 lo (.len c0))).den c.ρ= .sl (xs++ys):=by have:(E.app c2 (.win c0 lo (.len c0))).den c.ρ=AV.app (c2.den c.ρ) ((E.win c0 lo (.len c0)).den c.ρ):=rfl;rw[this,B3,CI];rfl
      have Ze:=h.rel.az _ _ qt1;have UL:=h.rel.az _ _ qb1;have MS:=KN h;have D4:nx≠t:=λe=>MS (e▸Ze);have GY:nx≠b:=λe=>MS (e▸UL);obtain⟨recs,AL⟩:∃recs:List AD,recs=[⟨nx,some v',top, .deep e3 (P.cellsOf e3) l3 0 0 (.app c2 (.win c0 lo (.len c0)))⟩,⟨b,none,topb, .pre e3 (P.cellsOf e3) l3 g (ep+1) c0 lo⟩,⟨t,none,[], .dead⟩]:=⟨_,rfl⟩
      have Cu:∀r∈recs,r=⟨nx,some v',top, .deep e3 (P.cellsOf e3) l3 0 0 (.app c2 (.win c0 lo (.len c0)))⟩\/r=⟨b,none,topb, .pre e3 (P.cellsOf e3) l3 g (ep+1) c0 lo⟩\/r=⟨t,none,[], .dead⟩:=λr hr=>by rw[AL]at hr;simpa using hr
      have hn:(recs.map AD.tag).Nodup:=by rw[AL];simp[D4,GY];exact λe=>RS e.symm
      have AP:∀r∈recs,r.new.isSome=true-> ¬c.U r.tag:=λr hr hs=>by
       rcases Cu r hr with rfl|rfl|rfl
       ·exact MS
       ·cases hs
       ·cases hs
      have aft:=Cx.cw (w':=w') h.rel.az hn AP;have Jp:(⟨nx,some v',top, .deep e3 (P.cellsOf e3) l3 0 0 (.app c2 (.win c0 lo (.len c0)))⟩:AD)∈recs:=by rw[AL];simp
      have LG:(⟨b,none,topb, .pre e3 (P.cellsOf e3) l3 g (ep+1) c0 lo⟩:AD)∈recs:=by rw[AL];simp
      have Pc:(⟨t,none,[], .dead⟩:AD)∈recs:=by rw[AL];simp
      have LX:∀q∈topb,q∉NB:=λq hq Js=>(List.nodup_append.1 Lh).2.2 q hq q Js rfl;obtain⟨q1,q2⟩:=h.rel.changes (recs:=recs) (gs:=[]) (hs:=(c.G t).top++(c.G b).top) (Ed _) (B4.weaken λq hq=> .inl (by simp[hq])) hn AP (λq hq=>by
        rcases Ae.1 hq with hq|hq
        ·exact⟨_,Pc,hq⟩
        ·exact⟨_,LG,hq⟩)
       (by
        rw[AL];simp only[List.flatMap_cons,List.flatMap_nil,AE];refine List.nodup_append.2 ⟨PC,(List.nodup_append.1 Lh).1,λp hp q hq e=> ?_⟩;subst e;rcases(D9 p hp).1 with hh|hh|hh
        ·exact Kc p (EJ p hq) hh
        ·exact LX p hq hh
        ·have:=Jh p (EJ p hq);omega)
       (λr hr q hq=>by
        rcases Cu r hr with rfl|rfl|rfl
        ·obtain⟨k1',k2'⟩:=D9 q hq;refine⟨?_,k2'⟩;rcases k1' with hh|hh|hh
         ·exact .inl (by simp[hh])
         ·exact .inl (by simp[Ru q hh])
         ·exact .inr hh
        ·exact⟨.inl (by simp[EJ q hq]),Nat.lt_of_lt_of_le (Jh q (EJ q hq)) B4.size⟩
        ·cases hq)
       (λr hr=>by rcases Cu r hr with rfl|rfl|rfl<;>(intros;simp))
       (λhk r hr=>by
        rcases Cu r hr with rfl|rfl|rfl
        ·obtain⟨k1',k2',k3'⟩:=aft.new _ Jp v' rfl;have kg:=aft.G _ Jp;have ke:=aft.gh _ Jp rfl;simp only at k1' k2' k3' kg ke;exact⟨k1',k2',ke,by rw[k3',kg,aft.w,aft.ρ,Je];exact OX,by rw[kg]⟩
        ·have kg:=aft.G _ LG;have ke:=aft.eo _ LG rfl;obtain⟨k1',k2'⟩:=aft.K b g qb1;simp only at kg ke;obtain⟨p,cp,zs,f1,f2,f3,f4,f5⟩:=VM w' λq hq=>B4.block q (Jh q (EJ q hq)) (Kc q (EJ q hq));refine⟨k1',λg' B7=>qb2 g' (aft.old b UL g' B7),by rw[ke,qb3],⟨p,cp,zs,kk,an,by rw[k2'];exact f1,by rw[aft.ρ];exact f2,by rw[aft.ρ];exact j3,f3,f4,by rw[aft.w,kg];exact f5⟩,by rw[kg]⟩
        ·have kg:=aft.G _ Pc;exact⟨by rw[kg],by rw[kg]⟩)
      intro next Q hk
      unfold Oper.wp;rw[Ay,Oper.upon_value];obtain⟨k1',k2',k3'⟩:=aft.new _ Jp v' rfl;simp only at k1' k3';obtain⟨p,m,r,rfl⟩:=OX.head;have Po:(recs.map λr=>(r.tag,Cq [] r.ay))=(nx, .deep e3 (P.cellsOf e3) l3 0 0 (.app c2 (.win c0 lo (.len c0))))::(b, .pre e3 (P.cellsOf e3) l3 g (ep+1) c0 lo)::DL [t]:=by rw[AL];simp[Cq,DL]
      rw[Po]at q1;refine hk _ (c.cy w' _) ⟨rfl,rfl,rfl,rfl,λu hu=> ?_⟩ (q1.put (SR.own k1' k3' .nil) o.dst);rcases hu with hu|⟨r,hr,rfl⟩
      ·exact .inl hu
      ·rcases Cu r hr with rfl|rfl|rfl
       ·exact .inr ⟨Ar _,by simp[Bw]⟩
       ·exact .inl UL
       ·exact .inl Ze
   ·cases he
  ·cases he
 ·cases he
end
section
variable {P:Program} {c:Cx} {n nx:Nat} {sl sl0:Nat->SV} {hp hp0:Nat->Option Ab} {a:Act} {o:Oper} {gs:Gd} {e:AS} {sg:BE} {nv:Nat}
theorem Ym{w:World}:∀(vs:List Value) {xs:List AV} {f:List Nat} (ts:List TypeId),Rd w vs xs f->ts.length<=vs.length->Db P w ts [] [] vs xs f [] []
 | [],xs,f,ts,h,hl=>by have:ts=[]:=List.eq_nil_of_length_eq_zero (by simpa using hl);subst this;cases h;exact .nil
 |v::vs,[],f,ts,h,hl=>by have:=h.len;simp at this
 |v::vs,x::xs,f,ts,h,hl=>by
  obtain⟨f1,f2,rfl,h1,h2⟩:=h.bd;cases ts with
  |nil=>exact .free h1 (Ym vs [] h2 (by simp))
  |cons t ts=>exact Db.cons (h:=[]) ⟨h1,rfl⟩ (Ym vs ts h2 (by simpa using hl))
theorem xV(l:EL):EL.of (NM.go l)=l:=by
 induction l using EL.rec (motive_1:=λ_=>True)with
 |nil=>rfl
 |cons e es _ ih=>simp[NM.go,EL.of,ih]
 |_=>trivial
theorem wV{w:World}{ts:List TypeId}{vs:List Value}{Bs:List AV}{f o:List Nat}(h:Da P w ts [] vs Bs f o):Bs=[]:=by
 have key:∀(ts:List TypeId),Bj ts []=false:=by
  intro ts
  induction ts with
  |nil=>rfl
  |cons t ts ih=>simp only[Bj,List.headD_nil,Bool.false_or,List.tail_nil];exact ih
 exact(WW h).2 (key ts)
theorem tW(t:TypeId):FJ P t []=false:=by simp[FJ]
theorem aI(h:A5 P c n nx sl hp a sl0 hp0 o gs){cl:Call}{fo:Operand}(ho:o.op= .call cl)(Aq:cl.callee= .value fo){y:E}{sf:SV}(hf:Bl sl0 gs fo=some sf)(lO:∀v,SR c [sf] [v]-> ∃f,Rd c.w [v] [y.den c.ρ] f){as_:List SV}(has:cl.args.toList.mapM (Bl sl0 gs)=some as_){t:TypeId}
  (he:NM P hp0 gs nv t y as_=some e) (A0:∀c',e.call=some c'-> ∃r,c.ρ[nv]?=some r/\G8 (Cr P sg) c'.fn ((EL.of c'.args).den c.ρ) c.ρ r):Ap P o c n nx sl hp gs a e:=by
 have Vy:fo∈o.op.operands:=by simp[ho,Op.operands,Call.operands,Aq]
 have Vx:∀x∈cl.args.toList,x∈o.op.operands:=λx hx=>by
  have:x∈cl.args:=by simpa using hx
  simp[ho,Op.operands,Call.operands,Aq,this]
 have Kw:=h.ca hf Vy;have Ai:=dS (a:=a) (λx hx s hs=>h.ca hs (Vx x hx)) has;unfold NM at he;split at he
 ·cases he
 split at he
 ·cases he
 rename_i es GO;simp only[Aa]at he;subst he;obtain⟨r,hr,g,caps,hy,H8,Dq⟩:=A0 _ rfl;rw[xV]at H8;obtain⟨f1,p1,p2⟩:=NH h.eh h.gs AN GO Ai AN (Ar _);generalize Vc:a.eval fo=fv at Kw;obtain⟨_,k1⟩:=lO _ Kw;obtain⟨capv,f2,rfl,U1⟩:∃capv f2,fv= .func (.func g) #[] capv.toArray/\Rd c.w capv caps f2:=by
  rw[hy]at k1;cases k1 with
  |fn q1 _=>exact⟨_,_,rfl,q1⟩
 have LV:Ov P {bh:=[],res:=[]} g (es.den c.ρ++caps) r:=by unfold Cr at H8;rw[if_neg (by omega)]at H8;simpa using H8
 obtain⟨fn,GP,Dt,Fl,_,hlen,_,EV⟩:=LV;have CQ:=p1.app U1;have DH:=CQ.len;have A0:=EV c.w _ _ [] [] (Ym _ (fn.params.toList++ []) CQ (by rw[DH,hlen,AE,Bp];omega)) (by simp) (by simp) (by simp) (h.rel.la (by simp));have ex:(execOp a.eval o).run P c.w= .ok (.enter g (cl.args.map a.eval++capv.toArray)) c.w:=by
  have hb:fn.body.isNone=false:=by simpa using Dt
  simp only[execOp,ho,resolve,Aq,Vc,Deferred.ofValue,Sem.run_bind,Sem.run_pure,Result.andThen_ok,invoke,callFunc,run_program,GP];simp[Fl,hb]
 intro next Q hk
 unfold Oper.wp;rw[ex,Oper.upon_enter];have Lk:cl.args.map a.eval++capv.toArray=((cl.args.toList.map a.eval)++capv).toArray:=by apply Array.ext';simp
 rw[Lk];refine A0.mono ?_;rintro e' w' ⟨v,rfl,⟨R,Bs,f1',o1,f2',o2,Jt,AJ,Ez,FX,Pm,O1⟩,B4⟩;show next (a.put o.dst v) w'
 have GJ:=wV Ez;subst GJ;simp only at Jt;subst Jt;have hv:Rd w' [v] [r] []:=by
  unfold Iz at AJ;split at AJ
  ·rename_i t' ht;unfold Ee at AJ;rw[if_neg (by rw[tW];simp)]at AJ;have:=aC AJ.1 Dq;subst this;exact AJ.1
  ·obtain⟨vs,ys,_,rfl,_⟩:=AJ;have:=Dq (.tup ys) (by simp[AV.cells]);simp[AV.scalar]at this
 obtain⟨ED,_⟩:=h.rel.changes (w':=w') (recs:=[]) (hs:=[]) (gs:=gs) h.gs B4 (by simp) (by simp) (by simp) (by simp) (by simp) (by simp) (by simp);refine hk _ (c.cy w' []) ⟨rfl,rfl,rfl,rfl,λt ht=> ?_⟩ (ED.put (SR.mkGd (.e (f:=[]) ?_ (by simp) .nil) gs h.gs) o.dst)
 ·rcases ht with ht|⟨r,hr,_⟩
  ·exact .inl ht
  ·simp at hr
 ·show Rd w' [v] [(E.var nv).den c.ρ] [];simp only[E.den,hr,C7];exact hv
theorem YA(Ia:∀f s,sg f=some s->f<1000000)(h:A5 P c n nx sl hp a sl0 hp0 o gs)(he:Bv P sg sl0 hp0 nv nx gs o=some e)
  (hc:∀q∈e.bf,q.den c.ρ) (A0:∀cl,e.call=some cl-> ∃r,c.ρ[nv]?=some r/\G8 (Cr P sg) cl.fn ((EL.of cl.args).den c.ρ) c.ρ r) (Cw:∀x,e.bb=some x->c.ρ[nv]?=some (.bool (I0 a o))):Ap P o c n nx sl hp gs a e:=by
 have Jk:=he;cases AH:o.op with
 |move x=>simp only[Bv,AH,Aj]at he;obtain⟨s,hs,rfl⟩:=he;exact cY h (.inl AH) hs
 |assign x=>simp only[Bv,AH,Aj]at he;obtain⟨s,hs,rfl⟩:=he;exact cY h (.inr AH) hs
 |pick x y z=>exact uE h AH he hc
 |alloc t=>exact tE h AH he hc
 |box t x=>exact wG h AH he hc
 |build t parts=>exact s6 h AH he hc
 |buildSlice t m parts=>
  simp only[Bv,AH,Ak]at he;obtain⟨ps,Kt,he⟩:=he;split at he
  ·exact oU h AH Kt he hc
  ·exact oB h AH Kt he hc
 |load t x=>exact uC h AH he hc
 |nilCheck x=>exact pD h AH he hc
 |makeSlice t l m=>
  simp only[Bv,AH,Ak]at he;obtain⟨s1,Bu,s2,AQ,he⟩:=he;split at he
  ·exact qF h AH Bu AQ he hc
  ·exact sF h AH Bu AQ he hc
 |slice t x lo hi mx=>
  simp only[Bv,AH,Ak]at he;obtain⟨s,hs,l',Bm,h',Hi,m',EC,he⟩:=he;split at he
  ·exact qZ h AH hs Bm Hi EC he hc
  split at he
  ·exact qI h AH hs Bm Hi EC he hc
  ·exact rW h AH hs Bm Hi EC he hc
 |fieldAddr t x f=>exact oW h AH he hc
 |field t x f=>exact sJ h AH he hc
 |extract x i=>exact rK h AH he hc
 |store t x y=>
  simp only[Bv,AH,Ak]at he;obtain⟨p,hp',v,hv,he⟩:=he;cases p with
  |bp b k=>exact pA h AH hp' hv he hc
  |bz b g i sz k=>
   by_cases AY:∃e z g c d,CE hp0 gs b=some (.row e z g c d)
   ·exact pG h AH AY hp' hv he hc
   ·exact o5 h AH AY hp' hv he hc
  |_=>simp[KO]at he
 |binOp op t x y ty=>
  cases hu:P.underlying t with
  |none=>simp only[Bv,AH,Ak]at he;obtain⟨_,_,_,_,he⟩:=he;simp[N5,hu]at he
  |some d=>
   by_cases Pv:∃fs,d= .struct fs
   ·obtain⟨fs,rfl⟩:=Pv;exact xI h AH hu he hc
   ·have Kr:∀fs,P.underlying t≠some (.struct fs):=λfs hh=>Pv ⟨fs,by rw[hu]at hh;cases hh;rfl⟩;cases hq:e.bb with
    |none=>exact vN h AH Kr he hq hc
    |some x'=>
     have Fq:=Cw x' hq;simp only[Bv,AH,Ak]at he;obtain⟨s1,Bu,s2,AQ,he⟩:=he;have r1:=h.ca Bu (by simp[AH,Op.operands]);have r2:=h.ca AQ (by simp[AH,Op.operands]);unfold N5 at he;split at he
     ·rename_i el EZ;have CF:∀xq,Ba hp0 gs AN s1=some xq->Cn.den c.ρ (.dfd (.len xq))-> ∃p q r,a.eval x= .slice p q r:=by
       intro xq Ig hd;obtain⟨f,q1,_⟩:=h.il Bu (by simp[AH,Op.operands]) Ig;have hd:(xq.den c.ρ).len≠ .undef:=hd;cases Bn:xq.den c.ρ<;>simp only[Bn,AV.len,ne_eq,not_true_eq_false]at hd;rename_i xs;have hl:(xq.den c.ρ).len= .int .i64 (xs.length:Int):=by rw[Bn];rfl
       rcases NF q1 hl with⟨p,q,hv,Dg⟩|⟨b,o',k,q,hv,Dg⟩
       ·exact⟨_,_,_,hv⟩
       ·exact⟨_,_,_,hv⟩
      split at he
      ·simp at he;subst he;cases hq
      ·simp at he;subst he;cases hq
      ·obtain⟨xq,Ig,rfl⟩:=Aj.1 he;obtain⟨p,q,r,hv⟩:=CF xq Ig (hc _ (by simp));exact dW h AH EZ hv r2 (.inl rfl) Fq _
      ·obtain⟨xq,Ig,rfl⟩:=Aj.1 he;obtain⟨p,q,r,hv⟩:=CF xq Ig (hc _ (by simp));exact dW h AH EZ hv r2 (.inr rfl) Fq _
      ·cases he
     ·split at he
      ·simp at he;subst he;cases hq
      ·cases he
     ·split at he
      ·simp at he;subst he;cases hq
      ·cases he
     ·split at he
      ·simp at he;subst he;cases hq
      ·cases he
     ·rename_i fs EZ;exact absurd EZ (Kr fs)
     ·cases he
 |unOp u t x=>
  cases u with
  |not=>exact wC h AH he hc
  |neg=>exact wI h AH he hc
  |_=>simp[Bv,AH]at he
 |convert src dst x=>
  have Kf:=he;simp only[Bv,AH,Ak]at Kf;obtain⟨s,_,Kf⟩:=Kf;unfold QR at Kf;split at Kf
  ·rename_i k0 k h1 h2;exact pU h AH h1 h2 he hc
  ·rename_i h1 h2;exact pX h AH h1 h2 he hc
  ·rename_i el h1 h2;exact pK h AH h1 h2 he hc
  ·cases Kf
 |makeFunc fr fst caps=>
  cases fr with
  |func f=>exact o7 h AH he
  |_=>simp[Bv,AH]at he
 |indexAddr t x i=>refine oZ h AH (λhu=> ?_) he hc;simp only[Bv,AH,Ak]at he;obtain⟨_,_,_,_,he⟩:=he;simp[Un,hu]at he
 |index t x i=>
  refine pS h AH ?_ he hc;simp only[Bv,AH,Ak]at he;obtain⟨_,_,_,_,he⟩:=he;split at he
  ·rename_i Ib;unfold Un at Ib;split at Ib
   ·assumption
   ·cases Ib
  ·cases he
 |call cl=>
  simp only[Bv,AH]at he;cases Aq:cl.callee with
  |invoke r m=>rw[Aq]at he;simp at he
  |value f=>
   rw[Aq]at he;simp only[Ak]at he;obtain⟨s,hs,as_,has,he⟩:=he;cases s with
   |fn g caps=>
    have he:QI P sg hp0 gs nv nx g (as_++caps.toList)=some e:=he;refine uB h AH Aq hs has ?_ he A0;unfold QI at he;split at he
    ·rename_i fn sg' GP hh;exact Ia g sg' hh
    ·cases he
   |e y=>exact aI h AH Aq hs (λv hv=>by cases hv with|e k1 _ _=>exact⟨_,k1⟩) has he A0
   |lent i=>exact aI h AH Aq hs (λv hv=>by
     cases hv with
     |lent g1 _=>obtain⟨f,p1,p2⟩:=h.rel.base.lo _ _ g1;exact⟨f,p1.frame λb hb=>h.rel.base.block b (p1.inb b hb) (p2 b hb)⟩) has he A0
   |_=>simp at he
  |builtin b=>
   rw[Aq]at he;cases b with
   |len=>
    simp only at he;split at he
    ·rename_i x tx Cs Df;exact wY h AH Aq Cs Df Jk hc
    ·cases he
   |append=>
    simp only at he;split at he
    ·rename_i x y tx ty Cs Df;simp only[Ak]at he;obtain⟨s1,Bu,s2,AQ,he⟩:=he;split at he
     ·exact qG h AH Aq Cs Df Bu AQ he hc
     split at he
     ·exact oG h AH Aq Cs Df Bu AQ he hc
     ·exact qP h AH Aq Cs Df Bu AQ he hc
    ·cases he
   |clear=>
    simp only at he;split at he
    ·rename_i x tx Cs Df;simp only[Ak]at he;obtain⟨s,hs,he⟩:=he;exact s5 h AH Aq Cs Df hs he hc
    ·cases he
   |max=>
    simp only at he;split at he
    ·rename_i x y Cs;simp only[Ak]at he;obtain⟨s1,Bu,s2,AQ,he⟩:=he;exact aY h AH (.inl ⟨rfl,Aq⟩) Cs Bu AQ he hc
    ·cases he
   |min=>
    simp only at he;split at he
    ·rename_i x y Cs;simp only[Ak]at he;obtain⟨s1,Bu,s2,AQ,he⟩:=he;exact aY h AH (.inr ⟨rfl,Aq⟩) Cs Bu AQ he hc
    ·cases he
   |_=>simp at he
 |_=>simp[Bv,AH]at he
end
end
end Go.Proofs.YteeafhlnofapaaaGreat

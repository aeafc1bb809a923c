/- Parts of a proof, joined: WP, WQ, WR, WRa, WRb, WRc, WRd, WRe, WRf, WS. -/
import Derived.Test.YteeafhlnofapaaaJ4
set_option linter.unusedVariables false
set_option linter.unusedSimpArgs false
namespace Go.Proofs.Yteeafhlnofapaaa
open Go.RowKit
section
section
variable {P:Program} {c:Cx} {hp:Nat->Option Ab} {gs:Gd}
theorem YR(hb:M5 c)(eh:EH c hp)(k:A0 c.ρ gs)(hU:∀t g,c.K t g->c.U t):∀(ss:List SV) {ts:List TypeId} {ms:List PM} {lo:List Bool} {es:List E} {bs:List PA} {us uz:List Nat} {vs:List Value},PK P hp gs ts ms lo ss=some (es,bs,us,uz)->SR c ss vs->ts.length<=ss.length->
  ∃rf lf hs,CV P c.w ts ms lo vs (es.map (E.den c.ρ)) rf lf hs/\(∀b∈rf,c.c9 us b)/\(∀b∈lf,c.c9 uz b\/b<c.w0.heap.size/\ ¬c.Mu b)/\hs=(CU bs).flatMap (λt=>(c.G t).top)/\G0 P c ts ms vs bs/\(∀u∈CU bs,c.U u)/\(bs≠ []->gs=[])
 | [],ts,ms,lo,es,bs,us,uz,vs,h,hs,hl=>by simp[PK]at h;obtain⟨rfl,rfl,rfl,rfl⟩:=h;cases hs;have:ts=[]:=List.eq_nil_of_length_eq_zero (by simpa using hl);subst this;exact⟨[],[],[], .nil,by simp,by simp,by simp[CU], .nil,by simp[CU],by simp⟩
 |s::ss,ts,ms,lo,es,bs,us,uz,[],h,hs,hl=>by have:=hs.len;simp at this
 |s::ss,ts,ms,lo,es,bs,us,uz,v::vs,h,hs,hl=>by
  obtain⟨r1,r2⟩:=hs.bd;unfold PK at h;split at h
  ·cases h
  rename_i ys bs' us' uz' CA;obtain⟨rf,lf,AY,q1,q2,qz,q3,q4,q5,q6⟩:=YR hb eh k hU ss CA r2 (by simp at hl ⊢;omega);have see1:∀{a b:List Nat} {x:Nat},c.c9 a x->c.c9 (a++b) x:=λh=>h.mono λt ht=>by simp[ht]
  have see2:∀{a b:List Nat} {x:Nat},c.c9 b x->c.c9 (a++b) x:=λh=>h.mono λt ht=>by simp[ht]
  split at h
  ·rename_i hm;split at h
   ·rename_i BH;simp only[Ad,Bn]at BH;obtain⟨t,ts,rfl⟩:∃t ts',ts=t::ts':=by
     cases ts with
     |nil=>simp at BH
     |cons t ts=>exact⟨t,ts,rfl⟩
    split at h
    ·rename_i i;simp only[Aa,AB]at h;obtain⟨rfl,rfl,rfl,rfl⟩:=h;cases r1 with
     |lent g1 _=>obtain⟨f,p1,p2⟩:=hb.lo _ _ g1;have hw:Rd c.w [v] [(E.var i).den c.ρ] f:=p1.frame λb Bt=>hb.block b (p1.inb b Bt) (p2 b Bt);exact⟨rf,f++lf,AY, .lent BH.1 hm hw q1,q2,λb Bt=>(Ae.1 Bt).elim (λBt=> .inr ⟨p1.inb b Bt,p2 b Bt⟩) (qz b),q3, .ro hm q4,q5,q6⟩
    ·obtain⟨x,hx,hh⟩:=Aj.1 h;simp only[AB]at hh;obtain⟨rfl,rfl,rfl,rfl⟩:=hh;obtain⟨f,p1,p2⟩:=Gb eh k AJ hx r1 AJ (Ax _);exact⟨rf,f++lf,AY, .lent BH.1 hm p1 q1,q2,λb Bt=>(Ae.1 Bt).elim (λBt=> .inl (see1 (p2 b Bt))) (λBt=>(qz b Bt).imp see2 id),q3, .ro hm q4,q5,q6⟩
   obtain⟨x,hx,hh⟩:=Aj.1 h;simp only[AB]at hh;obtain⟨rfl,rfl,rfl,rfl⟩:=hh;obtain⟨f,p1,p2⟩:=Gb eh k AJ hx r1 AJ (Ax _);have hb:∀b∈f++rf,c.c9 (Bw hp gs (AJ+1) [s]++us') b:=λb hb=>by
    rcases Ae.1 hb with hb|hb
    ·exact see1 (p2 b hb)
    ·exact see2 (q2 b hb)
   cases ts with
   |nil=>exact⟨f++rf,lf,AY, .free p1 q1,hb,qz,q3, .ro hm q4,q5,q6⟩
   |cons t ts=>exact⟨f++rf,lf,[]++AY, .cons (by rw[hm];exact⟨p1,rfl⟩) q1,hb,qz,q3, .ro hm q4,q5,q6⟩
  ·rename_i own own' hm;split at h
   ·rename_i ty T AX;split at h
    ·rename_i ty' g cs Hm;split at h
     ·cases h
     rename_i BE;have BE:ty'=ty:=by simpa using BE
     subst BE;split at h
     ·rename_i xs rs vs' BS Ep;simp only[Aa,AB]at h;obtain⟨rfl,rfl,rfl,rfl⟩:=h;obtain⟨t,ts,rfl,Dt⟩:∃t ts',ts=t::ts'/\Im P t=some ty':=by
       cases ts with
       |nil=>simp at AX
       |cons t ts=>exact⟨t,ts,rfl,by simpa using AX⟩
      obtain⟨b,C,g1,g2,g3,g4,g5,g6,g7⟩:=eh T _ (Cc Hm k);obtain⟨f,h8,p1,p2,p3,p4,p5⟩:=Uv (P:=P) eh k hU (AR P ty') Ep g7 BS (Ax _);have hv:v= .pointer (some ⟨b,0,none⟩):=by
       cases r1 with
       |bj k1 k2 _=>rw[g2]at k2;cases k2;rfl
      refine⟨f++rf,lf,(b::h8)++AY, .cons ?_ q1,λx hx=> ?_,qz,by simp[CU,p3,q3,g3], .bx hm Dt hv g1 (by rw[g2,hv]) p5 q4,λu hu=> ?_,λ_=>rfl⟩
      ·rw[hm];exact⟨ty',b,C,xs.den c.ρ,h8,Dt,hv,g5,g6,rfl,p1,rfl⟩
      ·rcases Ae.1 hx with hx|hx
       ·exact see1 (p2 x hx)
       ·exact see2 (q2 x hx)
      ·simp only[CU,List.cons_append,Ac,Ae]at hu;rcases hu with rfl|hu|hu
       ·exact hU _ _ g1
       ·exact p5 u hu
       ·exact q5 u hu
     ·cases h
    ·cases h
   ·cases h
  ·rename_i own hm;split at h
   ·rename_i t x AX hx;split at h
    ·cases h
    rename_i Ap;have Ap:(F7 s).2=Ag P t:=by simpa using Ap
    split at h
    ·rename_i rs vs' Ep;simp only[Aa,AB]at h;obtain⟨rfl,rfl,rfl,rfl⟩:=h;obtain⟨ts,rfl⟩:∃ts',ts=t::ts':=by
      cases ts with
      |nil=>simp at AX
      |cons t' ts=>simp at AX;exact⟨ts,by rw[AX]⟩
     obtain⟨f,h8,p1,p2,p3,⟨vs9,p4,p5⟩,p6⟩:=XL (P:=P) eh k hU r1 hx Ap Ep;refine⟨f++rf,lf,h8++AY, .cons (by rw[hm];exact p1) q1,λx hx=> ?_,qz,by simp[CU,p3,q3],by rw[Ap];exact .mu hm p4 p5 q4,λu hu=> ?_,λ_=>rfl⟩
     ·rcases Ae.1 hx with hx|hx
      ·exact see1 (p2 x hx)
      ·exact see2 (q2 x hx)
     ·simp only[CU,Ae]at hu;exact hu.elim (p6 u) (q5 u)
    ·cases h
   ·cases h
  ·rename_i own hm;split at h
   ·rename_i t x AX hx;split at h
    ·cases h
    rename_i Ap;have Ap:(F7 s).2=Ag P t:=by simpa using Ap
    split at h
    ·rename_i rs vs' Ep;simp only[Aa,AB]at h;obtain⟨rfl,rfl,rfl,rfl⟩:=h;obtain⟨ts,rfl⟩:∃ts',ts=t::ts':=by
      cases ts with
      |nil=>simp at AX
      |cons t' ts=>simp at AX;exact⟨ts,by rw[AX]⟩
     obtain⟨f,h8,p1,p2,p3,⟨vs9,p4,p5⟩,p6⟩:=XL (P:=P) eh k hU r1 hx Ap Ep;refine⟨f++rf,lf,h8++AY, .cons (by rw[hm];exact p1) q1,λx hx=> ?_,qz,by simp[CU,p3,q3], .va hm p6 q4,λu hu=> ?_,λ_=>rfl⟩
     ·rcases Ae.1 hx with hx|hx
      ·exact see1 (p2 x hx)
      ·exact see2 (q2 x hx)
     ·simp only[CU,Ae]at hu;exact hu.elim (p6 u) (q5 u)
    ·cases h
   ·cases h
end
inductive Eh(P:Program)(w:World):List TypeId->List Bool->List Value->List AV->List Nat->List Nat->Prop where
 |nil {fl}:Eh P w [] fl [] [] [] []
 |own {t ts fl el u us y ys top N f o}:fl.headD false=true->Cb P t=some el->(BI P el=true/\N=[]\/BI P el=false/\Dg P t=none)->Cp w el (P.cellsOf el) u y top N->Eh P w ts fl.tail us ys f o->Eh P w (t::ts) fl (u::us) (y::ys) (N++f) (top++o)
 |deep {t ts fl el e z l u us y ys top f o}:fl.headD false=true->Cb P t=some el->BI P el=false->Dg P t=some (.row e z l)->DC w [.row e z l] [u] [y] top->Eh P w ts fl.tail us ys f o->Eh P w (t::ts) fl (u::us) (y::ys) f (top++o)
 |skip {t ts fl u us y ys f o}:(fl.headD false=true->Cb P t=none)->Eh P w ts fl.tail us ys f o->Eh P w (t::ts) fl (u::us) (y::ys) f o
inductive C5(P:Program)(w:World):List TypeId->List PM->List Value->List AV->List Nat->List Nat->Prop where
 |nil {ms vs}:C5 P w [] ms vs [] [] []
 |ro {t ts ms v vs bs f o}:ms.headD .ro= .ro->C5 P w ts ms.tail vs bs f o->C5 P w (t::ts) ms (v::vs) bs f o
 |va {t ts ms own v vs bs f o}:ms.headD .ro= .va own->C5 P w ts ms.tail vs bs f o->C5 P w (t::ts) ms (v::vs) bs f o
 |mu {t ts ms own v vs us ys y bs f1 f o1 o}:ms.headD .ro= .mu own->(if Ag P t then v= .agg us.toArray/\y= .agg ys else us=[v]/\ys=[y])->Eh P w (AR P t) own us ys f1 o1->C5 P w ts ms.tail vs bs f o->C5 P w (t::ts) ms (v::vs) (y::bs) (f1++f) (o1++o)
 |bx {t ts ms own own' ty b C v vs ys y bs f1 o1 f o}:ms.headD .ro= .bx own own'->Im P t=some ty->v= .pointer (some ⟨b,0,none⟩)->w.heap[b]?=some (.cells C ty (0,0))->(∀u∈C.toList,u.oneCell'=true)->y= .agg ys->B5 P w (AR P ty) own' C.toList ys f1 o1->
   C5 P w ts ms.tail vs bs f o->C5 P w (t::ts) ms (v::vs) (y::bs) (f1++f) (b::o1++o)
section
variable {P:Program} {c:Cx} {w':World}
theorem jE{mk:Nat->E}{ts:List TypeId}{fl:List Bool}{us:List Value}{rs:List (Option RI)}(h:Fm P c ts fl us rs)(hU:∀t g,c.K t g->c.U t):∀{ys:List AV} {f o:List Nat} (j:Nat),Eh P w' ts fl us ys f o->(∀i y,ys[i]?=some y->(mk (j+i)).den c.ρ=y)->
  ∃recs:List Az,Jb mk j rs=recs.map Az.pair/\(recs.flatMap Az.top).Sublist o/\(∀r∈recs,r.new=none/\c.U r.tag/\ ∀hs f,r.au≠ .gd hs f)/\recs.map Az.tag=Cg rs/\ ∀c',D6 c c' w' recs->(∀b∈f,c'.ok b)-> ∀r∈recs,CF c' r.tag r.au:=by
 induction h with
 |nil=>intro ys f o j hm _;cases hm;exact⟨[],rfl,by simp,by simp,rfl,by simp⟩
 | @row t ts fl v vs u g el rs h1 h2 Nc h3 h4 h5 _ ih=>
  intro ys f o j hm E0;cases hm with
  |skip hh _=>rw[hh h1]at h2;cases h2
  |deep _ k2 k21 k22 _ _=>
   rw[h2]at k2;cases k2;rcases Nc with hh|hh
   ·rw[hh]at k21;cases k21
   ·rw[hh]at k22;cases k22
  | @own _ _ _ el' _ _ y ys top N f o k1 k2 k23 k3 k4=>
   rw[h2]at k2;cases k2;obtain⟨recs,e1,e2,e3,e4,e5⟩:=ih (j+1) k4 (λi y hy=>by rw[show j+1+i=j+(i+1)from by omega];exact E0 (i+1) y (by simpa using hy));have hy:=E0 0 y rfl;refine⟨⟨u,none,top, .row el (P.cellsOf el) g (mk j) (BI P el)⟩::recs,by simp[Jb,e1,Az.pair],by simpa using(List.Sublist.refl top).append e2,λr hr=> ?_,by simp[Cg,RI.tag,e4],λc' ha AF r hr=> ?_⟩
   ·rcases Ac.1 hr with rfl|hr
    ·exact⟨rfl,hU _ _ h3,by simp⟩
    ·exact e3 r hr
   ·rcases Ac.1 hr with rfl|hr
    ·obtain⟨a1,a2⟩:=ha.K u g h3;have kg:=ha.G _ (List.mem_cons_self ..);simp only at kg;refine⟨a1,λg' BW=>h5 g' (ha.old u (hU _ _ h3) g' BW),N,?_,λb hb=>AF b (by simp[hb]),λhd=> ?_,λ_=>by rw[kg]⟩
     rotate_left
     ·rcases k23 with⟨_,h⟩|⟨h,_⟩
      ·subst h;exact⟨rfl,by rw[kg]⟩
      ·rw[h]at hd;cases hd
     have Be:(mk j).den c.ρ=y:=by simpa using hy
     rw[a2,h4,kg,ha.w,ha.ρ,Be];exact k3
    ·exact e5 c' (ha.mono λr hr=>by simp[hr]) (λb hb=>AF b (by simp[hb])) r hr
 | @deep t ts fl v vs u g el e z l ep rs h1 h2 Nb LM h3 h4 h5 h6 _ ih=>
  intro ys f o j hm E0;cases hm with
  |skip hh _=>rw[hh h1]at h2;cases h2
  |own _ k2 k23 _ _=>
   rw[h2]at k2;cases k2;rcases k23 with⟨hh,_⟩|⟨_,hh⟩
   ·rw[hh]at Nb;cases Nb
   ·rw[hh]at LM;cases LM
  | @deep _ _ _ el' e' z' l' _ _ y ys top f o k1 k2 k21 k22 k3 k4=>
   rw[LM]at k22;cases k22;obtain⟨recs,e1,e2,e3,e4,e5⟩:=ih (j+1) k4 (λi y hy=>by rw[show j+1+i=j+(i+1)from by omega];exact E0 (i+1) y (by simpa using hy));have hy:=E0 0 y rfl;refine⟨⟨u,none,top, .deep e z l g (ep+1) (mk j)⟩::recs,by simp[Jb,e1,Az.pair],by simpa using(List.Sublist.refl top).append e2,λr hr=> ?_,by simp[Cg,RI.tag,e4],λc' ha AF r hr=> ?_⟩
   ·rcases Ac.1 hr with rfl|hr
    ·exact⟨rfl,hU _ _ h3,by simp⟩
    ·exact e3 r hr
   ·rcases Ac.1 hr with rfl|hr
    ·obtain⟨a1,a2⟩:=ha.K u g h3;have kg:=ha.G _ (List.mem_cons_self ..);have ke:=ha.ej _ (List.mem_cons_self ..) rfl;simp only at kg ke;refine⟨a1,λg' BW=>h5 g' (ha.old u (hU _ _ h3) g' BW),by rw[ke,h6],?_,by rw[kg]⟩;have Be:(mk j).den c.ρ=y:=by simpa using hy
     rw[a2,h4,kg,ha.w,ha.ρ,Be];exact k3
    ·exact e5 c' (ha.mono λr hr=>by simp[hr]) (λb hb=>AF b (by simp[hb])) r hr
 | @none t ts fl v vs rs _ _ ih=>
  intro ys f o j hm E0;have go:∀{y:AV} {ys':List AV} {f' o':List Nat},ys=y::ys'->Eh P w' ts fl.tail vs ys' f' o'->(∀b∈f',b∈f)->o'.Sublist o-> ∃recs:List Az,Jb mk j (none::rs)=recs.map Az.pair/\(recs.flatMap Az.top).Sublist o/\(∀r∈recs,r.new=none/\c.U r.tag/\ ∀hs f,r.au≠ .gd hs f)/\recs.map Az.tag=Cg (none::rs)/\ ∀c',D6 c c' w' recs->(∀b∈f,c'.ok b)-> ∀r∈recs,CF c' r.tag r.au:=by rintro y ys' f' o' rfl El hf hs;obtain⟨recs,e1,e2,e3,e4,e5⟩:=ih (j+1) El (λi y hy=>by rw[show j+1+i=j+(i+1)from by omega];exact E0 (i+1) y (by simpa using hy));exact⟨recs,by simp[Jb,e1],e2.trans hs,e3,by simp[Cg]at e4 ⊢;exact e4,λc' ha AF=>e5 c' ha λb hb=>AF b (hf b hb)⟩
  cases hm with
  |skip _ h8=>exact go rfl h8 (λ_ h=>h) (List.Sublist.refl _)
  |own _ _ _ _ h8=>exact go rfl h8 (λb hb=>by simp[hb]) (List.sublist_append_right _ _)
  |deep _ _ _ _ _ h8=>exact go rfl h8 (λ_ h=>h) (List.sublist_append_right _ _)
theorem Ya(us:List Nat)(hU:∀u∈us,c.U u):∃recs:List Az,Dw us=recs.map Az.pair/\recs.flatMap Az.top=[]/\(∀r∈recs,r.new=none/\c.U r.tag/\ ∀hs f,r.au≠ .gd hs f)/\recs.map Az.tag=us/\ ∀c',D6 c c' w' recs-> ∀r∈recs,CF c' r.tag r.au:=by
 induction us with
 |nil=>exact⟨[],rfl,rfl,by simp,rfl,by simp⟩
 |cons u us ih=>
  obtain⟨recs,e1,e2,e3,e4,e5⟩:=ih λu hu=>hU u (by simp[hu]);refine⟨⟨u,none,[], .dead⟩::recs,by simp only[Dw]at e1;simp[Dw,e1,Az.pair],by simp[e2],λr hr=> ?_,by simp[e4],λc' ha r hr=> ?_⟩
  ·rcases Ac.1 hr with rfl|hr
   ·exact⟨rfl,hU _ (by simp),by simp⟩
   ·exact e3 r hr
  ·rcases Ac.1 hr with rfl|hr
   ·have kg:=ha.G _ (List.mem_cons_self ..);simp only at kg;exact⟨by rw[kg],by rw[kg]⟩
   ·exact e5 c' (ha.mono λr hr=>by simp[hr]) r hr
structure G6(c:Cx)(w':World)(nx m:Nat)(l:List (Nat × Ab))(hd o f:List Nat)(recs:List Az):Prop where
 ents:l=recs.map Az.pair
 jq:(recs.flatMap Az.top).Sublist o
 new:∀r∈recs,r.new.isSome=true->nx<=r.tag/\r.tag<nx+m
 old:∀r∈recs,r.new=none->r.tag∈hd/\c.U r.tag
 all:∀t∈hd,∃r∈recs,r.tag=t
 nodup:hd.Nodup->(∀t,nx<=t->t<nx+m-> ¬c.U t)->(recs.map Az.tag).Nodup
 ne:∀r∈recs,∀hs f,r.au≠ .gd hs f
 ok:∀c',D6 c c' w' recs->(∀b∈f,c'.ok b)-> ∀r∈recs,CF c' r.tag r.au
theorem G6.app{nx m m':Nat}{l l':List (Nat × Ab)}{hd IB o o' f f':List Nat}{recs recs':List Az}(h:G6 c w' nx m l hd o f recs)(k:G6 c w' (nx+m) m' l' IB o' f' recs'):G6 c w' nx (m+m') (l++l') (hd++IB) (o++o') (f++f') (recs++recs'):=by
 refine⟨by rw[h.ents,k.ents,List.map_append],by rw[List.flatMap_append];exact h.jq.append k.jq,λr hr hn=> ?_,λr hr hn=> ?_,λt ht=> ?_,λhn hU=> ?_,λr hr=> ?_,λc' ha AF r hr=> ?_⟩
 ·rcases Ae.1 hr with hr|hr
  ·have:=h.new r hr hn;omega
  ·have:=k.new r hr hn;omega
 ·rcases Ae.1 hr with hr|hr
  ·exact⟨by simp[(h.old r hr hn).1],(h.old r hr hn).2⟩
  ·exact⟨by simp[(k.old r hr hn).1],(k.old r hr hn).2⟩
 ·rcases Ae.1 ht with ht|ht
  ·obtain⟨r,hr,e⟩:=h.all t ht;exact⟨r,by simp[hr],e⟩
  ·obtain⟨r,hr,e⟩:=k.all t ht;exact⟨r,by simp[hr],e⟩
 ·rw[List.nodup_append]at hn;rw[List.map_append,List.nodup_append];refine⟨h.nodup hn.1 λt h1 h2=>hU t h1 (by omega),k.nodup hn.2.1 λt h1 h2=>hU t (by omega) (by omega),λt1 Oc t2 Od he=> ?_⟩;obtain⟨q1,Hu,rfl⟩:=List.mem_map.1 Oc;obtain⟨q2,GQ,rfl⟩:=List.mem_map.1 Od;cases n1:q1.new with
  |none=>
   obtain⟨a1,a2⟩:=h.old q1 Hu n1;cases n2:q2.new with
   |none=>exact hn.2.2 _ a1 _ (k.old q2 GQ n2).1 he
   |some v2=>have:=k.new q2 GQ (by simp[n2]);exact hU q2.tag (by omega) (by omega) (he▸a2)
  |some v1=>
   have:=h.new q1 Hu (by simp[n1]);cases n2:q2.new with
   |none=>exact hU q1.tag (by omega) (by omega) (he▸(k.old q2 GQ n2).2)
   |some v2=>have:=k.new q2 GQ (by simp[n2]);omega
 ·rcases Ae.1 hr with hr|hr
  ·exact h.ne r hr
  ·exact k.ne r hr
 ·rcases Ae.1 hr with hr|hr
  ·exact h.ok c' (ha.mono λr hr=>by simp[hr]) (λb hb=>AF b (by simp[hb])) r hr
  ·exact k.ok c' (ha.mono λr hr=>by simp[hr]) (λb hb=>AF b (by simp[hb])) r hr
theorem G6.gx{nx:Nat}{l:List (Nat × Ab)}{hd o f:List Nat}{recs:List Az}(e1:l=recs.map Az.pair)(e2:(recs.flatMap Az.top).Sublist o)(e3:∀r∈recs,r.new=none/\c.U r.tag/\ ∀hs f,r.au≠ .gd hs f)(e4:recs.map Az.tag=hd)(e5:∀c',D6 c c' w' recs->(∀b∈f,c'.ok b)-> ∀r∈recs,CF c' r.tag r.au):G6 c w' nx 0 l hd o f recs:=by
 refine⟨e1,e2,λr hr hn=> ?_,λr hr _=>⟨?_,(e3 r hr).2.1⟩,λt ht=> ?_,λhn _=>by rw[e4];exact hn,λr hr=>(e3 r hr).2.2,λc' ha AF=>e5 c' ha AF⟩
 ·rw[(e3 r hr).1]at hn;cases hn
 ·rw[<-e4];exact List.mem_map.2 ⟨r,hr,rfl⟩
 ·rw[<-e4]at ht;obtain⟨r,hr,e⟩:=List.mem_map.1 ht;exact⟨r,hr,e⟩
theorem jW{ts:List TypeId}{ms:List PM}{vs:List Value}{bs:List PA}(h:G0 P c ts ms vs bs)(hU:∀t g,c.K t g->c.U t){r:Nat}:∀{Bs:List AV} {f o:List Nat} (nx j:Nat),C5 P w' ts ms vs Bs f o->(∀k y,Bs[k]?=some y->(E.proj (.var r) (j+k+1)).den c.ρ=y)->
  Bs.length=GK bs/\ ∃recs,G6 c w' nx (Ih P bs) (after P r nx bs j) (CU bs) o f recs:=by
 have nilS:∀nx,G6 c w' nx 0 [] [] [] [] []:=λnx=>⟨rfl,by simp,by simp,by simp,by simp,by simp,by simp,by simp⟩
 induction h with
 |nil=>intro Bs f o nx j hb _;cases hb;exact⟨rfl,[],by simpa[after,CU,Ih]using nilS nx⟩
 | @ro ts ms v vs bs hm DQ ih=>
  intro Bs f o nx j hb hB;cases hb with
  |nil=>exact ih nx j .nil hB
  |ro _ h8=>exact ih nx j h8 hB
  |va h9 _=>rw[hm]at h9;cases h9
  |mu h9 _ _ _=>rw[hm]at h9;cases h9
  |bx h9 _ _ _ _ _ _ _=>rw[hm]at h9;cases h9
 | @va ts ms own v vs bs us hm IQ DQ ih=>
  intro Bs f o nx j hb hB;obtain⟨recs1,e1,e2,e3,e4,e5⟩:=Ya (c:=c) (w':=w') us IQ;have s1:G6 c w' nx 0 (Dw us) us [] [] recs1:= .gx e1 (by rw[e2];exact List.Sublist.refl _) e3 e4 λc' ha _=>e5 c' ha;cases hb with
  |nil=>obtain⟨h1,recs2,s2⟩:=ih nx j .nil hB;exact⟨by simpa[GK]using h1,recs1++recs2,by simpa[after,CU,Ih]using s1.app s2⟩
  |ro h9 _=>rw[hm]at h9;cases h9
  |va _ h8=>obtain⟨h1,recs2,s2⟩:=ih nx j h8 hB;exact⟨by simpa[GK]using h1,recs1++recs2,by simpa[after,CU,Ih]using s1.app s2⟩
  |mu h9 _ _ _=>rw[hm]at h9;cases h9
  |bx h9 _ _ _ _ _ _ _=>rw[hm]at h9;cases h9
 | @mu t ts ms own v vs bs us rs hm IQ Ep DQ ih=>
  intro Bs f o nx j hb hB;cases hb with
  |ro h9 _=>rw[hm]at h9;cases h9
  |va h9 _=>rw[hm]at h9;cases h9
  |bx h9 _ _ _ _ _ _ _=>rw[hm]at h9;cases h9
  | @mu _ _ _ own2 _ _ us2 ys y Bs f1 f o1 o h9 hg NP h8=>
   rw[hm]at h9;cases h9;obtain⟨h1,recs2,s2⟩:=ih nx (j+1) h8 (λk y hy=>by rw[show j+1+k+1=j+(k+1)+1 from by omega];exact hB (k+1) y (by simpa using hy));have hy:=hB 0 y rfl;have KX:us2=us:=by
    split at IQ
    ·rename_i Ap;rw[if_pos Ap]at hg;obtain⟨rfl,_⟩:=hg;exact X4 IQ
    ·rename_i Ap;rw[if_neg Ap]at hg;rw[hg.1,IQ]
   subst KX;obtain⟨recs1,e1,e2,e3,e4,e5⟩:=jE (w':=w') (mk:=CW (.proj (.var r) (j+1)) (Ag P t)) Ep hU 0 NP (by
    intro i z hz;split at hg
    ·rename_i Ap;rw[Ap];exact O2 (by rw[<-hg.2];exact hy) i z hz
    ·rename_i Ap;have Fq:Ag P t=false:=by simpa using Ap
     rw[hg.2]at hz;cases i with
     |zero=>simp at hz;subst hz;rw[Fq];simpa[CW]using hy
     |succ i=>simp at hz)
   have s1:G6 c w' nx 0 _ (Cg rs) o1 f1 recs1:= .gx e1 e2 e3 e4 e5;exact⟨by simp[GK,h1],recs1++recs2,by simpa[after,CU,Ih]using s1.app s2⟩
 | @bx t ts ms own own' ty v vs bs T b g olds hm Dt hv hK hH hol DQ ih=>
  intro Bs f o nx j hb hB;cases hb with
  |ro h9 _=>rw[hm]at h9;cases h9
  |va h9 _=>rw[hm]at h9;cases h9
  |mu h9 _ _ _=>rw[hm]at h9;cases h9
  | @bx _ _ _ own2 own3 ty2 b2 C _ _ ys y Bs f1 o1 f o h9 Ht CK hh Cf F4 hc h8=>
   rw[hm]at h9;cases h9;rw[Dt]at Ht;cases Ht;have SM:b2=b:=by rw[hv]at CK;cases CK;rfl
   subst SM;obtain⟨h1,recs2,s2⟩:=ih (nx+(AR P ty).length) (j+1) h8 (λk y hy=>by rw[show j+1+k+1=j+(k+1)+1 from by omega];exact hB (k+1) y (by simpa using hy));have hy:=hB 0 y rfl;obtain⟨recs0,d1,d2,d3,d4,d5⟩:=Ya (c:=c) (w':=w') olds hol;have s0:G6 c w' nx 0 (Dw olds) olds [] [] recs0:= .gx d1 (by rw[d2];exact List.Sublist.refl _) d3 d4 λc' ha _=>d5 c' ha;obtain⟨recs1,e1,e2,e3,e4,_,e5⟩:=L5 (c:=c) (nx:=nx) (mk:=CW (.proj (.var r) (j+1)) true) hc 0 (O2 (by rw[<-F4];exact hy));have WT:=hU _ _ hK;have s1:G6 c w' nx (AR P ty).length ((T, .box ty g (Cq P nx (CW (.proj (.var r) (j+1)) true) 0 (AR P ty) own').1)::(Cq P nx (CW (.proj (.var r) (j+1)) true) 0 (AR P ty) own').2) [T] (b2::o1) f1 (⟨T,none,[b2], .box ty g (Cq P nx (CW (.proj (.var r) (j+1)) true) 0 (AR P ty) own').1⟩::recs1):=by
    refine⟨by simp[e1,Az.pair],?_,λq hq hn=> ?_,λq hq hn=> ?_,by simp,λ_ AM=> ?_,λq hq=> ?_,λc' ha AF q hq=> ?_⟩
    ·simp only[List.flatMap_cons,e2,List.singleton_append];exact List.Sublist.refl _
    ·rcases Ac.1 hq with rfl|hq
     ·cases hn
     ·have:=e3 q hq;omega
    ·rcases Ac.1 hq with rfl|hq
     ·exact⟨by simp,WT⟩
     ·have:=(e3 q hq).2.2;rw[hn]at this;cases this
    ·simp only[List.map_cons,List.nodup_cons];refine⟨λhm=> ?_,e4⟩;obtain⟨q,hq,dE⟩:=List.mem_map.1 hm;have:=e3 q hq;exact AM q.tag (by omega) (by omega) (dE▸WT)
    ·rcases Ac.1 hq with rfl|hq
     ·simp
     ·intro hs f he;obtain⟨q1,q2⟩:=e3 q hq;have:(q.tag,q.au)∈(Cq P nx (CW (.proj (.var r) (j+1)) true) 0 (AR P ty) own').2:=by
       rw[e1];exact List.mem_map.2 ⟨q,hq,rfl⟩
      exact La _ _ _ _ _ this he
    ·obtain⟨p1,p2⟩:=e5 c' (ha.mono λr hr=>by simp[hr]) AF;rcases Ac.1 hq with rfl|hq
     ·obtain⟨a1,a2⟩:=ha.K T 0 hK;have kg:=ha.G _ (List.mem_cons_self ..);simp only at kg;exact⟨b2,C,a1,by rw[a2,hH,hv],by rw[kg],by rw[kg],by rw[ha.w];exact hh,Cf,p1⟩
     ·exact p2 q hq
   refine⟨by simp[GK,h1],recs0++((⟨T,none,[b2], .box ty g (Cq P nx (CW (.proj (.var r) (j+1)) true) 0 (AR P ty) own').1⟩::recs1)++recs2),?_⟩;have s3:=s0.app (s1.app s2);rw[Nat.zero_add]at s3;refine⟨by simpa[after]using s3.ents,s3.jq,s3.new,λq hq hn=> ?_,λt ht=> ?_,λhn AM=> ?_,s3.ne,s3.ok⟩
   ·have:=s3.old q hq hn;simp only[CU,List.cons_append,Ac,Ae,List.not_mem_nil,or_false,List.nil_append]at this ⊢;exact⟨by rcases this.1 with h|h|h;exact .inr (.inl h);exact .inl h;exact .inr (.inr h),this.2⟩
   ·refine s3.all t ?_;simp only[CU,List.cons_append,Ac,Ae,List.nil_append]at ht ⊢;rcases ht with h|h|h
    ·exact .inr (.inl h)
    ·exact .inl h
    ·exact .inr (.inr h)
   ·refine s3.nodup ?_ AM;simp only[CU,List.cons_append,List.nodup_cons,List.nodup_append,Ae,not_or,List.nil_append]at hn ⊢;obtain⟨⟨n1,n2⟩,n3,n4,n5⟩:=hn;refine⟨n3,⟨n2,n4⟩,λa ha b hb=> ?_⟩;rcases Ac.1 hb with rfl|hb
    ·rintro rfl;exact n1 ha
    ·exact n5 a ha b hb
end
def Ly(P:Program):List TypeId->List Bool->List AV->Bool
 |t::ts,fl,y::ys=>((fl.headD false&&(Cb P t).isSome)||Cr P t||y.scalar)&&Ly P ts fl.tail ys
 |_,_,_=>true
def Sh(P:Program)(t:TypeId)(fl:List Bool)(x:AV):Bool:=if FM P t fl then Ly P (AR P t) fl (if Ag P t then x.cells else [x])else Cr P t||x.cells.all AV.scalar
def Py(P:Program):List TypeId->List Bool->List AV->Bool
 |t::ts,fl,x::xs=>Sh P t fl x&&Py P ts (fl.drop (AR P t).length) xs
 |_,_,_=>true
def PQ(P:Program)(ts:List TypeId)(fl:List Bool)(R:AV):Bool:=match ts with
 | [t]=>Sh P t fl R
 |ts=>match R with
  | .tup ys=>Py P ts fl ys
  |_=>true
def Gg(P:Program):List TypeId->List PM->List AV->Bool
 |t::ts,ms,bs=>(match ms.headD .ro with
  | .ro=>Gg P ts ms.tail bs
  | .va _=>Gg P ts ms.tail bs
  | .mu _=>Gg P ts ms.tail bs.tail
  | .bx _ own'=>(match Im P t,bs with
   |some ty,b::_=>Ly P (AR P ty) own' b.cells
   |_,_=>true)&&Gg P ts ms.tail bs.tail)
 | [],_,_=>true
def Ba:List TypeId->List PM->Bool
 |_::ts,ms=>(match ms.headD .ro with
  | .mu _=>true
  | .bx .. =>true
  |_=>false)||Ba ts ms.tail
 | [],_=>false
def J1(P:Program)(fn:Func)(s:FT)(r:AV):Bool:=
 if Ba (fn.params.toList++s.ft) s.bg then(match r with
  | .tup (R::bs)=>PQ P fn.resultTypes.toList s.res R&&Gg P (fn.params.toList++s.ft) s.bg bs
  |_=>false)
 else PQ P fn.resultTypes.toList s.res r
def Io(P:Program)(w:World)(ts:List TypeId)(fl:List Bool)(v:Value)(R:AV)(f o:List Nat):Prop:=match ts with
 | [t]=>EN P w t fl v R f o
 |ts=> ∃vs ys,v= .tuple vs.toArray/\R= .tup ys/\Jf P w ts fl vs ys f o
structure aR(P:Program)(fn:Func)(s:FT)(w:World)(vs:List Value)(rf hs:List Nat)(r:AV)(v:Value)(w':World):Prop where
 ex:∃R bs f1 o1 f2 o2,r=(match bs with| []=>R|_=> .tup (R::bs))/\Io P w' fn.resultTypes.toList s.res v R f1 o1/\C5 P w' (fn.params.toList++s.ft) s.bg vs bs f2 o2/\(o1++o2).Nodup/\
  (∀b∈o1++o2,(b∈hs\/w.heap.size<=b)/\b<w'.heap.size)/\ ∀b∈f1++f2,b∉o1++o2/\(b∈rf\/b∈hs\/w.heap.size<=b)
 mod:Mod hs w w'
theorem Rel.ko{c:Cx}{n:Nat}{sl:Nat->SV}{hp:Nat->Option Ab}{a:Act}(h:Rel c n sl hp a){hs:List Nat}(hh:∀b∈hs,∃t,b∈(c.G t).top):Ww c.w (λb=>b∈hs):=by
 obtain⟨p1,p2,p3⟩:=h.base.pk;refine⟨Nat.le_trans p1 h.base.size,IV.mono (λb hb=>h.base.block b (by omega) λhm=>by have:=p3 b hm;omega) p2,λb hb=> ?_⟩;obtain⟨t,ht⟩:=hh b hb;rcases h.gw.allow t b (by simp[GI.own,ht])with k|k
 ·have:c.w0.heap.size<=b:=k;omega
 ·exact p3 b k
def M7(P:Program)(s:FT)(f:Nat)(xs:List AV)(r:AV):Prop:=
 ∃fn,P.funcs[f]?=some fn/\fn.body.isSome=true/\(fn.name== "runtime.NumGoroutine")=false/\J1 P fn s r=true/\xs.length=fn.params.size+fn.nfree/\s.ft.length<=fn.nfree/\
  ∀(w:World) (vs:List Value) (rf lf hs:List Nat),CV P w (fn.params.toList++s.ft) s.bg s.lo vs xs rf lf hs->(∀b∈hs,b∉rf)->(∀b∈hs,b∉lf)->hs.Nodup->Ww w (λb=>b∈hs)->
   Calls P f vs.toArray w λe w'=> ∃v,e= .returned v/\aR P fn s w vs rf hs r v w'
def CI(P:Program)(sg:Br)(f:Nat)(xs:List AV)(r:AV):Prop:=
 if f<1000000 then∃s,sg f=some s/\M7 P s f xs r else M7 P {bg:=[],res:=[]} (f-1000000) xs r
section
variable {P:Program} {w:World}
theorem XF{v:Value}{x:AV}{f:List Nat}(h:Rd w [v] [x] f)(hx:∀y∈x.cells,y.scalar=true):f=[]:=by
 by_cases Ap:∃cs,x= .agg cs
 ·obtain⟨cs,rfl⟩:=Ap;obtain⟨as_,_,_,hr⟩:=HH h rfl;exact F9 hr hx
 ·have:x.cells=[x]:=by cases x<;>first|rfl|exact absurd ⟨_,rfl⟩ Ap
  rw[this]at hx;exact F9 h hx
theorem jL{t el:TypeId}(h:Cb P t=some el):Cr P t=true:=by have hu:=GZ h;simp[Cr,BI,AR,RX,hu]
theorem B5.flat{ts:List TypeId}{fl:List Bool}{us:List Value}{ys:List AV}{rf hs:List Nat}(h:B5 P w ts fl us ys rf hs)(h1:DV P ts fl=false)(h2:Ly P ts fl ys=true):rf=[]:=by
 induction h with
 |nil=>rfl
 |own k1 k2 k23 _ _ ih=>
  simp only[DV,Bool.or_eq_false_iff]at h1;simp only[Ly,Ad]at h2;have hN:=k23;have hw:=h1.1;rw[jL k2,k1]at hw;rcases hN with⟨_,rfl⟩|⟨q1,q2⟩
  ·rw[ih h1.2 h2.2];rfl
  ·simp[Sc,k2,q1,q2]at hw
 |deep _ _ _ _ _ _ ih=>simp only[DV,Bool.or_eq_false_iff]at h1;simp only[Ly,Ad]at h2;exact ih h1.2 h2.2
 | @rd t ts fl u us y ys f rf hs hn hr _ ih=>
  simp only[DV,Bool.or_eq_false_iff]at h1;simp only[Ly,Ad]at h2;have Di:(fl.headD false&&(Cb P t).isSome)=false:=by
   cases hh:fl.headD false with
   |false=>rfl
   |true=>rw[hn hh];rfl
  have TF:(fl.headD false&&Sc P t)=false:=by
   cases hh:fl.headD false with
   |false=>rfl
   |true=>simp[Sc,hn hh]
  rw[TF]at h1;rw[Di]at h2;have HY:Cr P t=false:=by simpa using h1.1
  rw[HY]at h2;have hs:y.scalar=true:=by simpa using h2.1
  rw[F9 hr (by simpa using hs),ih h1.2 h2.2];rfl
theorem EN.flat{t:TypeId}{fl:List Bool}{v:Value}{x:AV}{rf hs:List Nat}(h:EN P w t fl v x rf hs)(h1:Wq P t fl=false)(h2:Sh P t fl x=true):rf=[]:=by
 unfold EN at h;unfold Wq at h1;unfold Sh at h2;split at h
 ·rename_i hf;rw[if_pos hf]at h1 h2;obtain⟨us,ys,hg,hc⟩:=h;split at hg
  ·rename_i Ap;obtain⟨_,rfl,_⟩:=hg;rw[if_pos Ap]at h2;exact hc.flat h1 h2
  ·rename_i Ap;obtain⟨_,rfl⟩:=hg;rw[if_neg Ap]at h2;exact hc.flat h1 h2
 ·rename_i hf;rw[if_neg hf]at h1 h2;rw[h1]at h2;exact XF h.1 (by simpa using h2)
theorem Jf.flat{ts:List TypeId}{fl:List Bool}{vs:List Value}{xs:List AV}{rf hs:List Nat}(h:Jf P w ts fl vs xs rf hs)(h1:CL P ts fl=false)(h2:Py P ts fl xs=true):rf=[]:=by
 induction h with
 |nil=>rfl
 |cons hv _ ih=>simp only[CL,Bool.or_eq_false_iff]at h1;simp only[Py,Ad]at h2;rw[hv.flat h1.1 h2.1,ih h1.2 h2.2];rfl
theorem Io.flat{ts:List TypeId}{fl:List Bool}{v:Value}{R:AV}{f o:List Nat}(h:Io P w ts fl v R f o)(h1:CL P ts fl=false)(h2:PQ P ts fl R=true):f=[]:=by
 match ts,h,h1,h2 with
 | [t],h,h1,h2=>simp only[CL,Bool.or_false]at h1;exact EN.flat h h1 h2
 | [],h,h1,h2=>obtain⟨vs,ys,_,rfl,hv⟩:=h;exact hv.flat h1 h2
 |t::u::ts,h,h1,h2=>obtain⟨vs,ys,_,rfl,hv⟩:=h;exact hv.flat h1 h2
theorem Cp.void{ety sz:Nat}{a:Option Addr}{x:AV}{top N:List Nat}(h:Cp w ety sz (.slice a 0 0) x top N):N=[]:=by
 obtain⟨xs,_,_,_,⟨_,_,_,h⟩|⟨g,cap,C,hv,h6,_,_,_,_,_,hr⟩⟩:=h
 ·exact h
 ·have h0:xs.length=0:=by injection hv with _ h _;exact h.symm
  have:xs=[]:=by cases xs with|nil=>rfl|cons _ _=>simp at h0
  subst this;simp[Ar]at hr;cases hr;rfl
theorem Eh.flat{c:Cx}{ts:List TypeId}{fl:List Bool}{us:List Value}{rs:List (Option RI)}(h:Fm P c ts fl us rs):∀{ys:List AV} {f o:List Nat},Eh P w ts fl us ys f o->rs.any RI.lent=false->f=[]:=by
 induction h with
 |nil=>intro ys f o hm _;cases hm;rfl
 |row k1 k2 k23 _ _ _ _ ih=>
  intro ys f o hm hl;simp only[List.any_cons,Bool.or_eq_false_iff,RI.lent]at hl;cases hm with
  |own _ q2 q23 _ q4=>
   rw[k2]at q2;cases q2;rcases q23 with⟨_,rfl⟩|⟨q,_⟩
   ·exact ih q4 hl.2
   ·rw[q]at hl;simp at hl
  |deep _ _ _ _ _ q=>exact ih q hl.2
  |skip _ q=>exact ih q hl.2
 |deep k1 k2 k21 k22 _ _ _ _ _ ih=>
  intro ys f o hm hl;simp only[List.any_cons,Bool.or_eq_false_iff]at hl;cases hm with
  |own _ q2 q23 _ q4=>
   rw[k2]at q2;cases q2;rcases q23 with⟨_,rfl⟩|⟨_,q⟩
   ·exact ih q4 hl.2
   ·rw[q]at k22;cases k22
  |deep _ _ _ _ _ q=>exact ih q hl.2
  |skip _ q=>exact ih q hl.2
 |none hv _ ih=>
  intro ys f o hm hl;simp only[List.any_cons,Bool.or_eq_false_iff]at hl;cases hm with
  |own q1 q2 _ q3 q4=>
   rcases hv q1 with hh|⟨a,rfl⟩
   ·rw[hh]at q2;cases q2
   ·rw[Cp.void q3];exact ih q4 hl.2
  |deep _ _ _ _ _ q=>exact ih q hl.2
  |skip _ q=>exact ih q hl.2
theorem C5.flat{c:Cx}{ts:List TypeId}{ms:List PM}{vs:List Value}{bs:List PA}(h:G0 P c ts ms vs bs):∀{Bs:List AV} {f o:List Nat},C5 P w ts ms vs Bs f o->Dk P bs=false->Gg P ts ms Bs=true->f=[]:=by
 induction h with
 |nil=>intro Bs f o hb _ _;cases hb;rfl
 | @ro ts ms v vs bs hm _ ih=>
  intro Bs f o hb h1 h2;cases hb with
  |nil=>rfl
  |ro _ h8=>simp only[Gg,hm]at h2;exact ih h8 h1 h2
  |va h9 _=>rw[hm]at h9;cases h9
  |mu h9 _ _ _=>rw[hm]at h9;cases h9
  |bx h9 _ _ _ _ _ _ _=>rw[hm]at h9;cases h9
 | @va ts ms own v vs bs us hm _ _ ih=>
  intro Bs f o hb h1 h2;cases hb with
  |nil=>rfl
  |ro h9 _=>rw[hm]at h9;cases h9
  |va _ h8=>simp only[Gg,hm]at h2;exact ih h8 h1 h2
  |mu h9 _ _ _=>rw[hm]at h9;cases h9
  |bx h9 _ _ _ _ _ _ _=>rw[hm]at h9;cases h9
 | @mu t ts ms own v vs bs us rs hm IQ Ep _ ih=>
  intro Bs f o hb h1 h2;cases hb with
  |ro h9 _=>rw[hm]at h9;cases h9
  |va h9 _=>rw[hm]at h9;cases h9
  | @mu _ _ _ own2 _ _ us2 ys y Bs f1 f o1 o h9 hg NP h8=>
   rw[hm]at h9;cases h9;simp only[Gg,hm]at h2;simp only[Dk,Bool.or_eq_false_iff]at h1;have KX:us2=us:=by
    split at IQ
    ·rename_i Ap;rw[if_pos Ap]at hg;obtain⟨rfl,_⟩:=hg;exact X4 IQ
    ·rename_i Ap;rw[if_neg Ap]at hg;rw[hg.1,IQ]
   subst KX;rw[Eh.flat Ep NP h1.1,ih h8 h1.2 h2];rfl
  |bx h9 _ _ _ _ _ _ _=>rw[hm]at h9;cases h9
 | @bx t ts ms own own' ty v vs bs T b g olds hm Dt _ _ _ _ _ ih=>
  intro Bs f o hb h1 h2;cases hb with
  |ro h9 _=>rw[hm]at h9;cases h9
  |va h9 _=>rw[hm]at h9;cases h9
  |mu h9 _ _ _=>rw[hm]at h9;cases h9
  |bx h9 Ht _ _ _ hy hc h8=>rw[hm]at h9;cases h9;rw[Dt]at Ht;cases Ht;simp only[Gg,hm,Dt,Ad,hy,List.tail_cons]at h2;simp only[Dk,Bool.or_eq_false_iff]at h1;rw[hc.flat h1.1 h2.1,ih h8 h1.2 h2.2];rfl
theorem UY{ts:List TypeId}{ms:List PM}{vs:List Value}{Bs:List AV}{f o:List Nat}(h:C5 P w ts ms vs Bs f o):Bs=[]↔Ba ts ms=false:=by
 induction h with
 |nil=>simp[Ba]
 |ro hm _ ih=>simp only[Ba,hm,Bool.false_or];exact ih
 |va hm _ ih=>simp only[Ba,hm,Bool.false_or];exact ih
 |mu hm _ _ _ _=>simp only[Ba,hm,Bool.true_or];simp
 |bx hm _ _ _ _ _ _ _ _=>simp only[Ba,hm,Bool.true_or];simp
end
section
variable {P:Program} {c:Cx} {n nx:Nat} {sl sl0:Nat->SV} {hp hp0:Nat->Option Ab} {a:Act} {o:Oper} {gs:Gd} {e:AO} {sg:Br} {nv:Nat}
theorem YF{xs:List Operand}:∀{ss:List SV},(∀x∈xs,∀s,Bc sl0 gs x=some s->SR c [s] [a.eval x])->xs.mapM (Bc sl0 gs)=some ss->SR c ss (xs.map a.eval):=by
 induction xs with
 |nil=>intro ss _ h;simp at h;subst h;exact .nil
 |cons x xs ih=>intro ss hx h;rw[List.mapM_cons]at h;simp only[Option.bind_eq_bind,Ak,Option.pure_def,Aa]at h;obtain⟨s,hs,ss',E8,rfl⟩:=h;exact(hx x (by simp) s hs).cons (ih (λy hy=>hx y (by simp[hy])) E8)
theorem Mj:∀{l:List Nat},Jc l=true->l.Nodup
 | [],_=>by simp
 |x::l,h=>by simp only[Jc,Ad,Bn,List.contains_eq_mem,decide_eq_false_iff_not]at h;exact List.nodup_cons.2 ⟨h.1,Mj h.2⟩
theorem kC{c1:Cx}{w':World}{recs:List Az}{hs f o:List Nat}(gw:GW c)(hg:∀t,(c1.G t).top=(c.G t).top\/(c1.G t).top=[])(hA:c1.A=c.A)(Sz:c1.Mu=c.Mu)(JQ:c1.w0=c.w0)(hB:c.w0.heap.size<=c.w.heap.size)
  (hn:(recs.map Az.tag).Nodup) (BU:∀r∈recs,∀b∈r.top,b∈o) (FA:∀b∈hs,∃r∈recs,b∈(c.G r.tag).top) {rf:List Nat} (JI:∀b∈rf,c1.ok b) (hf:∀b∈f,b∉o/\(b∈rf\/b∈hs\/c.w.heap.size<=b)):∀b∈f,(c1.cr w' recs).ok b:=by
 intro b hb;obtain⟨h1,h2⟩:=hf b hb;have hM:(c1.cr w' recs).M b-> ∃t,(∀r∈recs,r.tag≠t)/\b∈(c1.G t).top:=by
  rintro⟨t,ht⟩;by_cases hT:∃r∈recs,r.tag=t
  ·obtain⟨r,hr,rfl⟩:=hT;rw[Cx.cw hn hr]at ht;exact absurd (BU r hr b ht) h1
  ·rw[Cx.cd λr hr hh=>hT ⟨r,hr,hh⟩]at ht;exact⟨t,λr hr hh=>hT ⟨r,hr,hh⟩,ht⟩
 have sub:∀t,b∈(c1.G t).top->b∈(c.G t).top:=λt ht=>by
  rcases hg t with hh|hh
  ·rw[<-hh];exact ht
  ·rw[hh]at ht;simp at ht
 rcases h2 with h2|h2|h2
 ·refine⟨λhm=> ?_,(JI b h2).2⟩;obtain⟨t,_,ht⟩:=hM hm;exact(JI b h2).1 ⟨t,ht⟩
 ·obtain⟨r,hr,P8⟩:=FA b h2;refine⟨λhm=> ?_, .inr ?_⟩
  ·obtain⟨t,DN,ht⟩:=hM hm;exact gw.bm r.tag t (DN r hr) b (by simp[GI.own,P8]) (by simp[GI.own,sub t ht])
  ·have:=gw.allow r.tag b (by simp[GI.own,P8]);simp only[Cx.cr,Cx.B,JQ,Sz]at this ⊢;exact this
 ·refine⟨λhm=> ?_, .inr (.inl ?_)⟩
  ·obtain⟨t,_,ht⟩:=hM hm;have:=gw.inb t b (by simp[GI.own,sub t ht]);omega
  ·simp only[Cx.cr,Cx.B,JQ];omega
theorem lR(h:A1 P c n nx sl hp a sl0 hp0 o gs){cl:Call}{fo:Operand}(ho:o.op= .call cl)(As:cl.callee= .value fo){g:Nat}{caps:Bf}(hf:Bc sl0 gs fo=some (.fn g caps)){as_:List SV}(has:cl.args.toList.mapM (Bc sl0 gs)=some as_)
  (hg:g<1000000) (he:Pk P sg hp0 gs nv nx g (as_++caps.toList)=some e) (AW:∀c',e.call=some c'-> ∃r,c.ρ[nv]?=some r/\GG (CI P sg) c'.fn ((EL.of c'.args).den c.ρ) c.ρ r):Ao P o c n nx sl hp gs a e:=by
 have Tx:fo∈o.op.operands:=by simp[ho,Op.operands,Call.operands,As]
 have Tw:∀x∈cl.args.toList,x∈o.op.operands:=λx hx=>by
  have:x∈cl.args:=by simpa using hx
  simp[ho,Op.operands,Call.operands,As,this]
 have JI:=h.bz hf Tx;generalize Tb:a.eval fo=fv at JI;cases JI with
 |fn Nq h8=>
 rename_i capv;have Ai:=(YF (a:=a) (λx hx s hs=>h.bz hs (Tw x hx)) has).app Nq;unfold Pk at he;split at he
 ·rename_i fn s Gq Hx;split at he
  ·cases he
  rename_i hlen;simp only[Bool.or_eq_true,not_or,Bool.not_eq_true,bne_eq_false_iff_eq]at hlen;split at he
  ·cases he
  rename_i es bs us uz AS;split at he
  ·cases he
  rename_i BP;simp only[Bool.or_eq_true,Bn,not_or,Bool.not_eq_false,Bool.not_eq_true]at BP;obtain⟨⟨TD,NS⟩,NT⟩:=BP;have NU:=Mj TD;have Fs:∀u∈us,u∉CU bs:=λu hu hh=>by rw[List.any_eq_false]at NS;have:=NS u hu;simp only[List.contains_eq_mem,Au]at this;exact this hh
  have Iv:∀u∈uz,u∉CU bs:=λu hu hh=>by rw[List.any_eq_false]at NT;have:=NT u hu;simp only[List.contains_eq_mem,Au]at this;exact this hh
  simp only at he;split at he
  ·cases he
  rename_i BK;simp only[Nat.not_le]at BK;split at he
  ·cases he
  rename_i Gx;split at he
  ·cases he
  rename_i fz Fx;have hK:∀t g,c.K t g->c.U t:=h.rel.az;obtain⟨rf,lf,hs,q1,q2,qz,q3,q4,q5,q6⟩:=YR (P:=P) h.rel.base h.eh h.gs hK (as_++caps.toList) AS Ai (by rw[hlen.1.2,AZ,BF];have:=hlen.2;simp only[decide_eq_false_iff_not,Nat.not_lt]at this;omega);obtain⟨fts,FX,ND⟩:∃fts,C3 hp0 gs fts=some fz/\ ∀t∈fts,t∈us:=by
   split at Fx
   ·exact⟨us,Fx,λt ht=>ht⟩
   ·simp only[Aa]at Fx;subst Fx;exact⟨[],rfl,by simp⟩
  have CG:=h.rel.freeze h.hp h.gs FX;have Ju:∀t∈fz.map (·.1),t∈us:=λt ht=>by obtain⟨⟨t',e'⟩,hm,rfl⟩:=List.mem_map.1 ht;exact ND _ ((Lb h.gs FX).1 t' e' hm).1
  have Nf:∀t,((c.a6 (fz.map (·.1))).G t).top=(c.G t).top\/((c.a6 (fz.map (·.1))).G t).top=[]:=λt=>by
   simp only[Cx.a6];split
   ·exact .inr rfl
   ·exact .inl rfl
  have aZ:∀t∈CU bs,(c.a6 (fz.map (·.1))).G t=c.G t:=λt ht=>by simp only[Cx.a6];rw[if_neg];intro hh;exact Fs t (Ju t hh) ht
  have WD:∀t∈CU bs,(c.a6 (fz.map (·.1))).E t=c.E t:=λt ht=>by simp only[Cx.a6];rw[if_neg];intro hh;exact Fs t (Ju t hh) ht
  have TS:hs.Nodup:=by
   rw[q3];have:∀l:List Nat,l.Nodup->(l.flatMap λt=>(c.G t).top).Nodup:=by
    intro l
    induction l with
    |nil=>intro _;simp
    |cons t l ih=>intro hl;rw[List.nodup_cons]at hl;rw[List.flatMap_cons,List.nodup_append];refine⟨(List.nodup_append.1 (h.rel.gw.nodup t)).1,ih hl.2,λx hx y hy EP=> ?_⟩;subst EP;obtain⟨u,hu,T3⟩:=List.mem_flatMap.1 hy;exact h.rel.gw.bm t u (λhh=>hl.1 (hh▸hu)) x (by simp[GI.own,hx]) (by simp[GI.own,T3])
   exact this _ NU
  have Hl:∀b∈hs,∃t∈CU bs,b∈(c.G t).top:=λb hb=>by rw[q3]at hb;exact List.mem_flatMap.1 hb
  have EY:∀b∈hs,b∉rf:=λb hb hr=>by
   obtain⟨t,ht,Ce⟩:=Hl b hb;rcases q2 b hr with hh|⟨u,hu,Gn⟩
   ·exact hh.1 ⟨t,Ce⟩
   ·exact h.rel.gw.bm t u (λhh=>Fs u hu (hh▸ht)) b (by simp[GI.own,Ce]) (by simp[GI.own,Gn])
  have Hd:∀b∈hs,b∉lf:=λb hb hr=>by
   obtain⟨t,ht,Ce⟩:=Hl b hb;rcases qz b hr with(hh|⟨u,hu,Gn⟩)|⟨h1,h2⟩
   ·exact hh.1 ⟨t,Ce⟩
   ·exact h.rel.gw.bm t u (λhh=>Iv u hu (hh▸ht)) b (by simp[GI.own,Ce]) (by simp[GI.own,Gn])
   ·rcases h.rel.gw.allow t b (by simp[GI.own,Ce])with k|k
    ·have:c.w0.heap.size<=b:=k;omega
    ·exact h2 k
  have Ek:∃(val:SV) (l:List (Nat × Ab)),e={call:=some ⟨.inl g,es⟩,val:=val,au:=fz++(PN gs l++after P nv (nx+(fn.resultTypes.toList.flatMap (AR P)).length) bs 0)}/\
    ∀(R:AV) (w':World) (v:Value) (f1 o1:List Nat),Io P w' fn.resultTypes.toList s.res v R f1 o1->(if GK bs=0 then E.var nv else .proj (.var nv) 0).den c.ρ=R-> ∃recs:List Az,l=recs.map Az.pair/\recs.flatMap Az.top=o1/\(∀r∈recs,nx<=r.tag/\r.tag<nx+(fn.resultTypes.toList.flatMap (AR P)).length/\r.new.isSome)/\(recs.map Az.tag).Nodup/\
     (∀r∈recs,∀hs f,r.au≠ .gd hs f)/\ ∀c',D6 c c' w' recs->(∀b∈f1,c'.ok b)->SR c' [val] [v]/\ ∀r∈recs,CF c' r.tag r.au:=by
   have BE:∀{l:List (Nat × Ab)} {recs:List Az},l=recs.map Az.pair->(∀t x,(t,x)∈l-> ∀hs f,x≠ .gd hs f)-> ∀r∈recs,∀hs f,r.au≠ .gd hs f:=by rintro l recs rfl hh r hr;exact hh r.tag r.au (List.mem_map.2 ⟨r,hr,rfl⟩)
   have fvne:∀(t:TypeId) (k:Nat) (fl:List Bool) (x:E) (u:Nat) (y:Ab),(u,y)∈(Li P k t fl x).2-> ∀hs f,y≠ .gd hs f:=by
    intro t k fl x u y hy hs f;unfold Li at hy;split at hy
    ·exact La _ _ _ _ _ hy
    ·simp at hy
   split at he
   ·rename_i t Oi;simp only[Aa]at he;subst he;refine⟨_,_,rfl,λR w' v f1 o1 hr hR=> ?_⟩;rw[Oi]at hr;obtain⟨recs,e1,e2,e3,e4,e5⟩:=XD (c:=c) (nx:=nx) (x:=if GK bs=0 then E.var nv else .proj (.var nv) 0) (show EN P w' t s.res v R f1 o1 from hr) hR;exact⟨recs,e1,e2,by simpa[Oi]using e3,e4,BE e1 (fvne _ _ _ _),e5⟩
   ·rename_i Oi;simp only[Aa]at he;subst he;refine⟨_,_,rfl,λR w' v f1 o1 hr hR=> ?_⟩;obtain⟨vs,ys,rfl,rfl,hv⟩:∃vs ys,v= .tuple vs.toArray/\R= .tup ys/\Jf P w' fn.resultTypes.toList s.res vs ys f1 o1:=by
     unfold Io at hr;split at hr
     ·rename_i t ht;exact absurd ht (Oi t)
     ·exact hr
    obtain⟨recs,e1,e2,e3,e4,e5⟩:=fQ (c:=c) (x:=if GK bs=0 then E.var nv else .proj (.var nv) 0) hv nx 0 (λk y hy=>by show AV.proj ((if GK bs=0 then E.var nv else .proj (.var nv) 0).den c.ρ) (0+k)=y;rw[hR];simp[AV.proj,hy])
    have fvsne:∀(ts:List TypeId) (k:Nat) (fl:List Bool) (x:E) (i u:Nat) (y:Ab),(u,y)∈(J0 P k ts fl x i).2-> ∀hs f,y≠ .gd hs f:=by
     intro ts
     induction ts with
     |nil=>intro k fl x i u y hy;simp[J0]at hy
     |cons t ts ih=>
      intro k fl x i u y hy;simp only[J0,Ae]at hy;rcases hy with hy|hy
      ·exact fvne _ _ _ _ _ _ hy
      ·exact ih _ _ _ _ _ _ hy
    exact⟨recs,e1,e2,e3,e4,BE e1 (fvsne _ _ _ _ _),λc' ha AF=>⟨.tup (by rw[Bf.aj];exact(e5 c' ha AF).1) .nil,(e5 c' ha AF).2⟩⟩
  obtain⟨val,l,rfl,KV⟩:=Ek;obtain⟨r,hr,AF⟩:=AW _ rfl;have KU:∃s',sg g=some s'/\M7 P s' g ((EL.of es).den c.ρ) r:=by have AF:CI P sg g ((EL.of es).den c.ρ) r:=AF;unfold CI at AF;rwa[if_pos hg]at AF
  obtain⟨s',AY,fn',Hh,Dh,E2,BO,_,_,EB⟩:=KU;rw[Hx]at AY;cases AY;rw[Gq]at Hh;cases Hh;rw[EL.ch]at EB;have AW:=EB c.w _ rf lf hs q1 EY Hd TS (h.rel.ko λb hb=>by obtain⟨t,_,ht⟩:=Hl b hb;exact⟨t,ht⟩);have ex:(execOp a.eval o).run P c.w= .ok (.enter g (cl.args.map a.eval++capv.toArray)) c.w:=by
   have hb:fn.body.isNone=false:=by simpa using Dh
   simp only[execOp,ho,resolve,As,Tb,Deferred.ofValue,Sem.run_bind,Sem.run_pure,Result.andThen_ok,invoke,callFunc,run_program,Gq];simp[E2,hb]
  intro next Q hk
  unfold Oper.wp;rw[ex,Oper.upon_enter];have Kq:cl.args.map a.eval++capv.toArray=((cl.args.toList.map a.eval)++capv).toArray:=by apply Array.ext';simp
  rw[Kq];refine AW.mono ?_;rintro e' w' ⟨v,rfl,⟨R,Bs,f1,o1,f2,o2,IK,AK,Ei,FB,NX,Nz⟩,BT⟩;show next (a.put o.dst v) w'
  have aX:∀k y,Bs[k]?=some y->(E.proj (.var nv) (0+k+1)).den c.ρ=y:=by
   intro k y hy;cases Bs with
   |nil=>simp at hy
   |cons B Bs=>simp only[E.den,hr,CT,IK,AV.proj,Nat.zero_add,List.getElem?_cons_succ,hy]
  obtain⟨NR,recsB,hB⟩:=jW (w':=w') q4 hK (r:=nv) (nx+(fn.resultTypes.toList.flatMap (AR P)).length) 0 Ei aX;have hR:(if GK bs=0 then E.var nv else .proj (.var nv) 0).den c.ρ=R:=by
   cases Bs with
   |nil=>rw[if_pos (by simpa using NR.symm)];simp only[E.den,hr,CT,IK]
   |cons B Bs=>rw[if_neg (by rw[<-NR];simp)];simp[E.den,hr,IK,AV.proj]
  obtain⟨recsV,v1,v2,v3,v4,v5,v6⟩:=KV R w' v f1 o1 AK hR;have E3:∀t,nx<=t->t<nx+((fn.resultTypes.toList.flatMap (AR P)).length+Ih P bs)-> ¬c.U t:=λt h1 h2=>h.new t h1 (by omega);have Nd:=hB.nodup NU λt h1 h2=>E3 t (by omega) (by omega);have Cs:((recsV++recsB).map Az.tag).Nodup:=by
   rw[List.map_append,List.nodup_append];refine⟨v4,Nd,λt1 h1 t2 h2 he=> ?_⟩;obtain⟨p1,Qi,rfl⟩:=List.mem_map.1 h1;obtain⟨p2,W6,rfl⟩:=List.mem_map.1 h2;have a1:=v3 p1 Qi;cases hn:p2.new with
   |none=>exact E3 p1.tag (by omega) (by omega) (he▸(hB.old p2 W6 hn).2)
   |some _=>have:=hB.new p2 W6 (by simp[hn]);omega
  have F0:∀r∈recsV++recsB,r.new.isSome=true->nx<=r.tag/\r.tag<nx+((fn.resultTypes.toList.flatMap (AR P)).length+Ih P bs):=λr hr hn=>by
   rcases Ae.1 hr with hr|hr
   ·have:=v3 r hr;omega
   ·have:=hB.new r hr hn;omega
  have DU:((recsV++recsB).flatMap Az.top).Sublist (o1++o2):=by rw[List.flatMap_append,v2];exact(List.Sublist.refl _).append hB.jq
  have Tg:∀b∈hs,∃r∈recsV++recsB,b∈(c.G r.tag).top:=λb hb=>by obtain⟨t,ht,Ce⟩:=Hl b hb;obtain⟨r,hr,rfl⟩:=hB.all t ht;exact⟨r,by simp[hr],Ce⟩
  have NI:∀b∈hs,∃r∈recsV++recsB,b∈((c.a6 (fz.map (·.1))).G r.tag).top:=λb hb=>by obtain⟨t,ht,Ce⟩:=Hl b hb;obtain⟨r,hr,rfl⟩:=hB.all t ht;exact⟨r,by simp[hr],by rw[aZ _ ht];exact Ce⟩
  have DS:∀r∈recsV++recsB,∀b∈r.top,b∈o1++o2:=λr hr b hb=>DU.subset (List.mem_flatMap.2 ⟨r,hr,hb⟩);have KP:∀b∈f1++f2,((c.a6 (fz.map (·.1))).cr w' (recsV++recsB)).ok b:=by
   cases Qp:(CL P fn.resultTypes.toList s.res||Dk P bs)with
   |false=>
    simp only[Bool.or_eq_false_iff]at Qp;have Ej:PQ P fn.resultTypes.toList s.res R=true/\Gg P (fn.params.toList++s.ft) s.bg Bs=true:=by
     unfold J1 at BO;cases Kk:Bs with
     |nil=>
      rw[if_neg (by rw[(UY Ei).1 Kk];simp)]at BO;rw[Kk]at IK;rw[IK]at BO;refine⟨BO,?_⟩;have:∀(ts:List TypeId) (ms:List PM),Gg P ts ms []=true:=by
       intro ts
       induction ts with
       |nil=>intro ms;rfl
       |cons t ts ih=>
        intro ms;unfold Gg;split
        ·exact ih _
        ·exact ih _
        ·exact ih _
        ·split
         ·rename_i hh;cases hh
         ·simpa using ih _
      exact this _ _
     |cons B Bs'=>
      rw[if_pos (by
       cases hh:Ba (fn.params.toList++s.ft) s.bg with
       |true=>rfl
       |false=>rw[(UY Ei).2 hh]at Kk;cases Kk)]at BO
      rw[IK,Kk]at BO;simpa using BO
    have e1:f1=[]:=AK.flat Qp.1 Ej.1;have e2:f2=[]:=C5.flat q4 Ei Qp.2 Ej.2;subst e1;subst e2;simp
   |true=>rw[Qp]at Gx Fx;simp only[Bool.true_and,Bn,Bool.not_eq_false]at Gx;simp only[if_true]at Fx;exact kC (rf:=rf) h.rel.gw Nf rfl rfl rfl h.rel.base.size Cs DS Tg (λb hb=>O4 h.rel h.eh h.gs Fx (by simpa using Gx) (q2 b hb)) Nz
  have Nx:after P nv (nx+(fn.resultTypes.toList.flatMap (AR P)).length) bs 0=recsB.map λr=>(r.tag,Cj gs r.au):=by
   cases Kr:bs with
   |nil=>
    have:=hB.ents;rw[Kr]at this;simp only[after]at this;have:recsB=[]:=by simpa using this.symm
    rw[this];rfl
   |cons b bs'=>have D9:=q6 (by rw[Kr];simp);rw[<-Kr,hB.ents,D9];rfl
  have A8:PN gs l++after P nv (nx+(fn.resultTypes.toList.flatMap (AR P)).length) bs 0=(recsV++recsB).map λr=>(r.tag,Cj gs r.au):=by rw[Nx,List.map_append];congr 1;rw[v1];simp[PN,Az.pair]
  obtain⟨Em,By⟩:=CG.changes (w':=w') (recs:=recsV++recsB) (hs:=hs) (gs:=gs) h.gs BT Cs (λr hr hn=>by have:=F0 r hr hn;exact E3 _ this.1 this.2) NI (DU.nodup FB) (λr hr b hb=>NX b (DS r hr b hb))
   (λr hr=>by
    rcases Ae.1 hr with hr|hr
    ·exact v5 r hr
    ·exact hB.ne r hr)
   (λ_ r hr=>by
    have aft:=Cx.cm (c:=c.a6 (fz.map (·.1))) (w':=w') (recs:=recsV++recsB) h.rel.az Cs (λr hr hn=>by have:=F0 r hr hn;exact E3 _ this.1 this.2);have aft':D6 c ((c.a6 (fz.map (·.1))).cr w' (recsV++recsB)) w' (recsV++recsB):=⟨aft.ρ,aft.w,aft.G,aft.new,aft.K,aft.old,aft.fw,λr hr Di=>(aft.ej r hr Di).trans (by
     rcases Ae.1 hr with hr|hr
     ·have:=(v3 r hr).2.2;rw[Di]at this;cases this
     ·rw[WD _ (hB.old r hr Di).1])⟩
    rcases Ae.1 hr with hr|hr
    ·exact(v6 _ (aft'.mono λr hr=>by simp[hr]) λb hb=>KP b (by simp[hb])).2 r hr
    ·exact hB.ok _ (aft'.mono λr hr=>by simp[hr]) (λb hb=>KP b (by simp[hb])) r hr)
  have aft:=Cx.cm (c:=c.a6 (fz.map (·.1))) (w':=w') (recs:=recsV++recsB) h.rel.az Cs (λr hr hn=>by have:=F0 r hr hn;exact E3 _ this.1 this.2);have aft':D6 c ((c.a6 (fz.map (·.1))).cr w' (recsV++recsB)) w' (recsV++recsB):=⟨aft.ρ,aft.w,aft.G,aft.new,aft.K,aft.old,aft.fw,λr hr Di=>(aft.ej r hr Di).trans (by
     rcases Ae.1 hr with hr|hr
     ·have:=(v3 r hr).2.2;rw[Di]at this;cases this
     ·rw[WD _ (hB.old r hr Di).1])⟩
  have IU:=(v6 _ (aft'.mono λr hr=>by simp[hr]) λb hb=>KP b (by simp[hb])).1;rw[<-A8,<-Ll]at Em;refine hk _ ((c.a6 (fz.map (·.1))).cr w' (recsV++recsB)) ⟨rfl,rfl,rfl,rfl,λt ht=> ?_⟩ (Em.put (IU.mkGd gs h.gs) o.dst);rcases ht with ht|⟨r,hr,rfl⟩
  ·exact .inl ht
  ·cases hn:r.new with
   |none=>
    rcases Ae.1 hr with hr|hr
    ·have:=(v3 r hr).2.2;rw[hn]at this;cases this
    ·exact .inl (hB.old r hr hn).2
   |some _=>have:=F0 r hr (by simp[hn]);exact .inr ⟨this.1,by simp only[Bl];omega⟩
 ·cases he
end
def BR(c:Cx)(us:List Nat):List Nat:=us.flatMap λt=>(c.G t).top
theorem U9(c:Cx):BR c []=[]:=rfl
theorem Rl(c:Cx)(u:Nat)(us:List Nat):BR c (u::us)=(c.G u).top++BR c us:=by simp[BR]
theorem HF(c:Cx)(us vs:List Nat):BR c (us++vs)=BR c us++BR c vs:=by simp[BR]
theorem Mg{c:Cx}{us:List Nat}{b:Nat}:b∈BR c us↔ ∃t∈us,b∈(c.G t).top:=by simp[BR]
theorem QY{c:Cx}(gw:GW c):∀{l:List Nat},l.Nodup->(BR c l).Nodup
 | [],_=>by simp[BR]
 |t::l,hl=>by
  rw[Rl,List.nodup_append];rw[List.nodup_cons]at hl;refine⟨?_,QY gw hl.2,λa ha b hb bO=> ?_⟩
  ·have:=gw.nodup t;simp only[GI.own]at this;exact(List.nodup_append.1 this).1
  ·subst bO;obtain⟨u,hu,Gn⟩:=Mg.1 hb;exact gw.bm t u (λhh=>hl.1 (hh▸hu)) a (by simp[GI.own,ha]) (by simp[GI.own,Gn])
section
variable {P:Program} {c:Cx} {hp:Nat->Option Ab} {gs:Gd}
theorem VD{m:Nat}{u g:Nat}{x y:E}(hx:A5 hp gs m (.own u g)=some x)(hy:GA hp gs u g=some y):x=y:=by
 cases m with
 |zero=>simp[A5]at hx
 |succ m=>simp only[A5,hy,Aa]at hx;exact hx.symm
theorem YX{m:Nat}{x:E}(h:A5 hp gs m .emp=some x):x= .lst .nil:=by
 cases m with
 |zero=>simp[A5]at h
 |succ m=>simp[A5]at h;exact h.symm
theorem jB(eh:EH c hp)(k:A0 c.ρ gs){d:DT}{s:SV}{us:List Nat}{ck:List Cn}{v:Value}{x:E}{m:Nat}(h:V8 hp gs d s=some (us,ck))(hs:SR c [s] [v])(hx:A5 hp gs m s=some x)(hc:∀q∈ck,q.den c.ρ):
  DC c.w [d] [v] [x.den c.ρ] (BR c us)/\ ∀u∈us,∃g,c.K u g:=by
 unfold V8 at h;split at h
 ·rename_i y;simp only[Aa,AB]at h;obtain⟨rfl,rfl⟩:=h;rw[Ig hx];cases hs with
  |e h1 h2 h3=>
   rename_i f;have De:(y.den c.ρ).scalar=true:=by
    cases hl:PV y with
    |true=>cases y<;>simp[PV]at hl<;>rfl
    |false=>rw[hl]at hc;exact(BD hc).2.2.2 rfl
   have hf:f=[]:=F9 h1 (by simpa using De);subst hf;exact⟨.flat h1 .nil,by simp⟩
 ·split at h
  ·rename_i hh;simp only[Aa,AB]at h;obtain⟨rfl,rfl⟩:=h;rw[IX hx];cases hs with
   |bb _=>exact⟨.void hh.1 hh.2 .nil,by simp⟩
  ·cases h
 ·split at h
  ·rename_i hh;simp only[Aa,AB]at h;obtain⟨rfl,rfl⟩:=h;rw[YX hx];cases hs with
   |emp _=>exact⟨.void hh.1 hh.2 .nil,by simp⟩
  ·cases h
 ·rename_i e z l u g;split at h
  ·rename_i e' z' l' g' ep y hl;split at h
   ·rename_i hh;obtain⟨rfl,rfl,rfl,hb⟩:=hh;simp only[Aa,AB]at h;obtain⟨rfl,rfl⟩:=h;obtain⟨q1,q2,q3,q4,q5⟩:=eh u _ (Cc hl k);rw[VD (y:=y) hx (by simp only[GA,hl,if_true])];have hb:=Av.of_eq hb;subst hb;rw[Av.b8]at q4;cases hs with
    |own k1 k2 _=>rw[k2]at q4;exact⟨by rw[Rl,U9,AG];exact q4,λw hw=>by simp at hw;subst hw;exact⟨_,k1⟩⟩
   ·cases h
  ·rename_i e' z' g' y hl;split at h
   ·rename_i hh;obtain⟨rfl,rfl,rfl,hf,hlen⟩:=hh;simp only[Aa,AB]at h;obtain⟨rfl,rfl⟩:=h;obtain⟨q1,q2,N,q4,q5,q6,q7⟩:=eh u _ (Cc hl k);obtain⟨hN,_⟩:=q6 rfl;have hN:N=[]:=hN;subst hN;rw[VD (y:=y) hx (by simp only[GA,hl,if_true])];cases hs with
    |own k1 k2 _=>rw[k2]at q4;exact⟨by rw[Rl,U9,AG];exact DC.iw q4 hf hlen,λw hw=>by simp at hw;subst hw;exact⟨_,k1⟩⟩
   ·cases h
  ·cases h
 ·cases h
theorem UL(eh:EH c hp)(k:A0 c.ρ gs):∀(ds:List DT) {ss:List SV} {us:List Nat} {ck:List Cn} {vs:List Value} {xs:EL} {m:Nat},J6 hp gs ds ss=some (us,ck)->SR c ss vs->B8 hp gs m ss=some xs->(∀q∈ck,q.den c.ρ)->
  DC c.w ds vs (xs.den c.ρ) (BR c us)/\ ∀u∈us,∃g,c.K u g
 | [],[],us,ck,vs,xs,m,h,hs,hx,hc=>by
  simp[J6]at h;obtain⟨rfl,rfl⟩:=h;cases hs;cases m with
  |zero=>simp[B8]at hx
  |succ m=>simp[B8]at hx;subst hx;exact⟨.nil,by simp⟩
 | [],_::_,us,ck,vs,xs,m,h,hs,hx,hc=>by simp[J6]at h
 |_::_,[],us,ck,vs,xs,m,h,hs,hx,hc=>by simp[J6]at h
 |d::ds,s::ss,us,ck,[],xs,m,h,hs,hx,hc=>by have:=hs.len;simp at this
 |d::ds,s::ss,us,ck,v::vs,xs,m,h,hs,hx,hc=>by
  obtain⟨j,y,ys,rfl,hy,CC,rfl⟩:=H7 hx;obtain⟨r1,r2⟩:=hs.bd;unfold J6 at h;split at h
  ·rename_i us1 ck1 us2 ck2 h1 h2;simp only[Aa,AB]at h;obtain⟨rfl,rfl⟩:=h;obtain⟨q1,q2⟩:=jB eh k h1 r1 hy λq hq=>hc q (by simp[hq]);obtain⟨q3,q4⟩:=UL eh k ds h2 r2 CC λq hq=>hc q (by simp[hq]);refine⟨by rw[HF];exact q1.app q3,λu hu=> ?_⟩;rcases Ae.1 hu with hu|hu
   ·exact q2 u hu
   ·exact q4 u hu
  ·cases h
theorem XM(eh:EH c hp)(k:A0 c.ρ gs){t:TypeId}{ds:List DT}{s:SV}{us:List Nat}{ck:List Cn}{v:Value}{x:E}(Fu:ds.length=P.cellsOf t)(hg:Ag P t=true\/P.cellsOf t=1)(h:MH P hp gs t ds s=some (x,us,ck))(hs:SR c [s] [v])(hc:∀q∈ck,q.den c.ρ):
  DC c.w ds v.cells.toList (x.den c.ρ).cells (BR c us)/\(∀u∈v.cells.toList,u.oneCell'=true)/\(x.den c.ρ).cells.length=P.cellsOf t/\v.cells.size=P.cellsOf t/\
   (if Ag P t then∃cs,x.den c.ρ= .agg cs else(∀cs,x.den c.ρ≠ .agg cs)/\ ∀cs,x.den c.ρ≠ .tup cs)/\ ∀u∈us,∃g,c.K u g:=by
 unfold MH at h;split at h
 ·cases h
 rename_i y hy;split at h
 ·rename_i Ej;simp only[Aa,AB]at h;obtain⟨rfl,rfl,rfl⟩:=h;obtain⟨f,q1,q2⟩:=Gb eh k AJ hy hs AJ (Ax _);obtain⟨c1,c2,c3,c4⟩:=BD hc;have Ek:if Ag P t then∃cs,y.den c.ρ= .agg cs/\cs.length=P.cellsOf t else(∀cs,y.den c.ρ≠ .agg cs)/\ ∀cs,y.den c.ρ≠ .tup cs:=by
   split
   ·rename_i Ap;obtain⟨cs,Bg⟩:=c3 Ap;exact⟨cs,Bg,by rw[Bg]at c1;exact c1⟩
   ·rename_i Ap;have:=c4 (by simpa using Ap);exact⟨λcs Bg=>by rw[Bg]at this;simp[AV.scalar]at this,λcs Bg=>by rw[Bg]at this;simp[AV.scalar]at this⟩
  have hf:f=[]:=by
   cases WW:Ag P t with
   |true=>obtain⟨cs,Bg⟩:=c3 WW;obtain⟨as_,rfl,_,r⟩:=HH q1 Bg;exact F9 r (by rw[Bg]at c2;exact c2)
   |false=>exact F9 q1 (by simpa using c4 WW)
  subst hf;obtain⟨o1,o2,o3,o4⟩:=U4 (P:=P) q1 hg Ek;refine⟨DC.jv o1 Ej (by rw[Fu];simpa using o4.symm),o2,o3,o4,?_,by simp⟩;split at Ek
  ·rename_i Ap;rw[if_pos Ap];obtain⟨cs,Bg,_⟩:=Ek;exact⟨cs,Bg⟩
  ·rename_i Ap;rw[if_neg Ap];exact Ek
 ·rename_i E4;split at h
  ·cases h
  rename_i Ap;have Ap:(F7 s).2=Ag P t:=by simpa using Ap
  obtain⟨⟨us',ck'⟩,hr,h⟩:=Aj.1 h;simp only[AB]at h;obtain⟨rfl,rfl,rfl⟩:=h;have single:Ag P t=false->J6 hp gs ds [s]=some (us',ck')->DC c.w ds v.cells.toList (y.den c.ρ).cells (BR c us')/\(∀u∈v.cells.toList,u.oneCell'=true)/\(y.den c.ρ).cells.length=P.cellsOf t/\v.cells.size=P.cellsOf t/\
   (if Ag P t then∃cs,y.den c.ρ= .agg cs else(∀cs,y.den c.ρ≠ .agg cs)/\ ∀cs,y.den c.ρ≠ .tup cs)/\ ∀u∈us',∃g,c.K u g:=by
   intro Ap hr;have A2:B8 hp gs (AJ+1) [s]=some (.cons y .nil):=by unfold B8;rw[hy];rfl
   obtain⟨q1,q2⟩:=UL eh k ds hr hs A2 hc;have WU:=q1.len;simp only[EL.den,AQ,List.length_nil]at WU
   match ds,WU,q1,E4,Fu with
   | [d],_,q1,E4,Fu=>
    cases d with
    |flat=>simp[DT.a7]at E4
    |row e z l=>
     obtain⟨p,q,r,rfl⟩:=q1.head;obtain⟨xs,BS⟩:∃xs,y.den c.ρ= .sl xs:=by
      obtain⟨_,_,⟨_,_,hx,_⟩|⟨_,_,_,_,_,_,hx,_⟩⟩:=q1.inv
      ·exact⟨_,hx⟩
      ·exact⟨_,hx⟩
     rw[if_neg (by rw[Ap];simp)];refine⟨?_,by simp[Value.cells,Value.oneCell'],by rw[BS,<-Fu];rfl,by rw[<-Fu];rfl,?_,q2⟩
     ·simp only[EL.den]at q1;rw[BS]at q1 ⊢;exact q1
     ·rw[BS];exact⟨λcs hh=>(by cases hh),λcs hh=>(by cases hh)⟩
  cases s with
  |agg cs=>
   simp only[F7]at Ap hr;obtain⟨m,l,hm,hl,rfl⟩:=Pe hy;cases hs with
   |agg h9 h1 h8=>rename_i as_;obtain⟨q1,q2⟩:=UL eh k ds hr h1 hl hc;obtain⟨l1,l2⟩:=q1.len;rw[if_pos Ap.symm];exact⟨by simpa[Value.cells,AV.cells,E.den]using q1,by simpa[Value.cells]using h9,by simp only[E.den,AV.cells];omega,by simp[Value.cells];omega,⟨_,rfl⟩,q2⟩
  |_=>exact single Ap.symm hr
theorem XC(eh:EH c hp)(k:A0 c.ρ gs){t:TypeId}{ds:List DT}(Fu:ds.length=P.cellsOf t)(hg:Ag P t=true\/P.cellsOf t=1):∀(ss:List SV) (vs:List Value) {xs:List E} {us:List Nat} {ck:List Cn},SR c ss vs->Pg P hp gs t ds ss=some (xs,us,ck)->(∀q∈ck,q.den c.ρ)->
  DC c.w (BX vs.length ds) (vs.flatMap λv=>v.cells.toList) (Ar (xs.map (E.den c.ρ))) (BR c us)/\(∀v∈vs,v.cells.size=P.cellsOf t/\ ∀u∈v.cells.toList,u.oneCell'=true)/\(∀x∈xs,(x.den c.ρ).cells.length=P.cellsOf t)/\xs.length=vs.length/\ ∀u∈us,∃g,c.K u g
 | [],vs,xs,us,ck,hr,ht,hc=>by simp[Pg]at ht;obtain⟨rfl,rfl,rfl⟩:=ht;cases hr;exact⟨by simpa[Ar,BX,BR]using DC.nil,by simp,by simp,rfl,by simp⟩
 |s::ss,[],xs,us,ck,hr,ht,hc=>by have:=hr.len;simp at this
 |s::ss,v::vs,xs,us,ck,hr,ht,hc=>by
  obtain⟨r1,r2⟩:=hr.bd;unfold Pg at ht;split at ht
  ·rename_i x us1 ck1 xs2 us2 ck2 h1 h2;simp only[Aa,AB]at ht;obtain⟨rfl,rfl,rfl⟩:=ht;obtain⟨q1,q2,q3,q4,q5,q6⟩:=XM eh k Fu hg h1 r1 (λq hq=>hc q (by simp[hq]));obtain⟨p1,p2,p3,p4,p5⟩:=XC eh k Fu hg ss vs r2 h2 (λq hq=>hc q (by simp[hq]));refine⟨?_,?_,?_,by simp[p4],?_⟩
   ·have:=q1.app p1;rw[AQ,Le,HF];simpa[Ar]using this
   ·intro u hu;rcases Ac.1 hu with rfl|hu
    ·exact⟨q4,q2⟩
    ·exact p2 u hu
   ·intro u hu;rcases Ac.1 hu with rfl|hu
    ·exact q3
    ·exact p3 u hu
   ·intro u hu;rcases Ae.1 hu with hu|hu
    ·exact q6 u hu
    ·exact p5 u hu
  ·cases ht
theorem X6(eh:EH c hp)(k:A0 c.ρ gs){e z:Nat}{l:List DT}{s:SV}{us:List Nat}{v:Value}{y:E}{m:Nat}(h:PC hp gs e z l s=some us)(hs:SR c [s] [v])(hy:A5 hp gs m s=some y):
  ∃ys q r news N,y.den c.ρ= .sl ys/\v= .slice q ys.length r/\Src c.w z q ys.length news/\DC c.w (BX ys.length l) news (Ar ys) N/\N.Sublist (BR c us)/\(∀y∈ys,y.cells.length=z)/\(∀u∈news,u.oneCell'=true)/\ ∀u∈us,∃g,c.K u g:=by
 have empt:∀q,v= .slice q 0 0->y= .lst .nil->us=[]-> ∃ys q r news N,y.den c.ρ= .sl ys/\v= .slice q ys.length r/\Src c.w z q ys.length news/\DC c.w (BX ys.length l) news (Ar ys) N/\N.Sublist (BR c us)/\(∀y∈ys,y.cells.length=z)/\(∀u∈news,u.oneCell'=true)/\ ∀u∈us,∃g,c.K u g:=by
  rintro q rfl rfl rfl;refine⟨[],q,0,[],[],rfl,rfl,?_,by simpa[BX,Ar]using DC.nil,by simp,by simp,by simp,by simp⟩;cases q with
  |none=>exact .inl ⟨rfl,rfl,rfl⟩
  |some p=>exact .inr ⟨p,rfl,by simp,by simp,by simp⟩
 unfold PC at h;split at h
 ·simp only[Aa]at h;cases hs with
  |bb _=>exact empt _ rfl (IX hy) h.symm
 ·simp only[Aa]at h;cases hs with
  |emp _=>exact empt _ rfl (YX hy) h.symm
 ·rename_i u g;split at h
  ·rename_i e' z' l' g' ep x hl;split at h
   ·rename_i hh;obtain⟨rfl,rfl,rfl,hb⟩:=hh;simp only[Aa]at h;subst h;have hb:=Av.dm hb;subst hb;obtain⟨q1,q2,q3,q4,q5⟩:=eh u _ (Cc hl k);have FF:=VD (y:=x) hy (by simp only[GA,hl,if_true]);subst FF;cases hs with
    |own k1 k2 k3=>
     rename_i p0 n0 r0;rw[k2]at q4;have hK:∀w∈ [u],∃g,c.K w g:=λw hw=>by simp at hw;subst hw;exact⟨_,k1⟩
     obtain⟨d1,d2,⟨a9,d3,d4,d5⟩|⟨g9,cap,C,ys,N1,d3,d4,d5,d6,d7,d8,d9,d10,d11,d12⟩⟩:=q4.inv
     ·cases d3;refine⟨[],_,0,[],[],d4,rfl,?_,by simpa[BX,Ar]using DC.nil,by simp,by simp,by simp,hK⟩;cases p0 with
      |none=>exact .inl ⟨rfl,rfl,rfl⟩
      |some p=>exact .inr ⟨p,rfl,by simp,by simp,by simp⟩
     ·cases d3;rw[Av.aj]at d12;have CX:C.toList.length=r0*z:=by simpa using d9
      refine⟨ys,_,r0,_,N1,d4,rfl, .inr ⟨_,rfl,?_,λj w hw=> ?_,d11⟩,d12,?_,d10,d11,hK⟩
      ·rw[AU,CX];exact Nat.min_eq_left (Bo _ d7)
      ·rw[Addr.add_lit,Nat.zero_add,DZ d6];rw[List.getElem?_take]at hw;split at hw
       ·simpa using hw
       ·cases hw
      ·rw[Rl,U9,AG,d5];exact List.sublist_cons_self _ _
   ·cases h
  ·cases h
 ·cases h
end
def EV(T:List Nat):List Az:=T.map λu=>⟨u,none,[], .dead⟩
theorem lJ(T:List Nat):(EV T).flatMap Az.top=[]:=by induction T<;>simp_all[EV]
theorem nM(T:List Nat):(EV T).map Az.tag=T:=by induction T<;>simp_all[EV]
theorem kO(T:List Nat):((EV T).map λr=>(r.tag,Cj [] r.au))=Dw T:=by simp[EV,Dw,Cj]
theorem O7{T:List Nat}{r:Az}(h:r∈EV T):r.tag∈T/\r.new=none/\r.top=[]/\r.au= .dead:=by obtain⟨u,hu,rfl⟩:=List.mem_map.1 h;exact⟨hu,rfl,rfl,rfl⟩
section
variable {P:Program} {c:Cx} {n nx:Nat} {sl sl0:Nat->SV} {hp hp0:Nat->Option Ab} {a:Act} {o:Oper} {gs:Gd} {e:AO} {sg:Br} {nv:Nat}
theorem Rel.iz(h:Rel c n sl hp a){T:List Nat}(hT:T.Nodup)(Fh:∀u∈T,c.U u){r0:Az}(HY:r0.tag∉T)(F1:r0.new.isSome=true-> ¬c.U r0.tag)(Dy:r0.new=none->c.U r0.tag){w':World}{hs:List Nat}(FA:∀b∈hs,b∈(c.G r0.tag).top\/b∈BR c T)(hm:Mod hs c.w w')
  (BP:r0.top.Nodup) (Cm:∀b∈r0.top,(b∈hs\/c.w.heap.size<=b)/\b<w'.heap.size) (BE:∀q f,r0.au≠ .gd q f)
  (he:C6 c (c.cr w' (r0::EV T))->D6 c (c.cr w' (r0::EV T)) w' (r0::EV T)->CF (c.cr w' (r0::EV T)) r0.tag r0.au):
  Rel (c.cr w' (r0::EV T)) n sl (AT hp ((r0.tag,r0.au)::Dw T)) a/\C6 c (c.cr w' (r0::EV T))/\D6 c (c.cr w' (r0::EV T)) w' (r0::EV T)/\ ∀t,(c.cr w' (r0::EV T)).U t->c.U t\/t=r0.tag:=by
 have hn:((r0::EV T).map Az.tag).Nodup:=by rw[List.map_cons,nM];exact List.nodup_cons.2 ⟨HY,hT⟩
 have AM:∀r∈r0::EV T,r.new.isSome=true-> ¬c.U r.tag:=λr hr hs=>by
  rcases Ac.1 hr with rfl|hr
  ·exact F1 hs
  ·rw[(O7 hr).2.1]at hs;cases hs
 have aft:=Cx.cm (w':=w') h.az hn AM;obtain⟨q1,q2⟩:=h.changes (gs:=[]) (DY _) hm hn AM (λb hb=>by
   rcases FA b hb with hb|hb
   ·exact⟨r0,by simp,hb⟩
   ·obtain⟨t,ht,Ce⟩:=Mg.1 hb;exact⟨⟨t,none,[], .dead⟩,List.mem_cons_of_mem _ (List.mem_map.2 ⟨t,ht,rfl⟩),Ce⟩)
  (by rw[List.flatMap_cons,lJ,AG];exact BP)
  (λr hr b hb=>by
   rcases Ac.1 hr with rfl|hr
   ·exact Cm b hb
   ·rw[(O7 hr).2.2.1]at hb;cases hb)
  (λr hr=>by
   rcases Ac.1 hr with rfl|hr
   ·exact BE
   ·rw[(O7 hr).2.2.2];intros;simp)
  (λhk r hr=>by
   rcases Ac.1 hr with rfl|hr
   ·exact he hk aft
   ·have kg:=aft.G r (List.mem_cons_of_mem _ hr);obtain⟨_,_,e1,e2⟩:=O7 hr;rw[e2];exact⟨by rw[kg,e1],by rw[kg]⟩)
 refine⟨?_,q2,aft,λt ht=> ?_⟩
 ·rw[List.map_cons,kO]at q1;have:Cj [] r0.au=r0.au:=rfl;rw[this]at q1;exact q1
 ·rcases ht with ht|⟨r,hr,rfl⟩
  ·exact .inl ht
  ·rcases Ac.1 hr with rfl|hr
   ·exact .inr rfl
   ·exact .inl (Fh _ (O7 hr).1)
theorem Ao.dj(h:A1 P c n nx sl hp a sl0 hp0 o []){T:List Nat}(hT:T.Nodup)(Fh:∀u∈T,∃g,c.K u g){v':Value}{w':World}{ck:List Cn}{e z:Nat}{l:List DT}{x:E}{top:List Nat}(hr:(execOp a.eval o).run P c.w= .ok (.value v') w')(hm:Mod (BR c T) c.w w')
  (BP:top.Nodup) (Cm:∀b∈top,(b∈BR c T\/c.w.heap.size<=b)/\b<w'.heap.size) (hd:DC w' [.row e z (Av.of l)] [v'] [x.den c.ρ] top):
  Ao P o c n nx sl hp [] a {bu:=ck,val:= .own nx 0,au:=(nx, .deep e z l 0 0 x)::Dw T}:=by
 intro next Q hk
 unfold Oper.wp;rw[hr,Oper.upon_value];have hU:=JY h;have It:∀u∈T,c.U u:=λu hu=>by obtain⟨g,hg⟩:=Fh u hu;exact h.rel.az _ _ hg
 obtain⟨q1,q2,q3,q4⟩:=h.rel.iz (r0:=⟨nx,some v',top, .deep e z l 0 0 x⟩) hT It (λhh=>hU (It _ hh)) (λ_=>hU) (λhh=>by cases hh) (λb hb=> .inr hb) hm BP Cm (by intros;simp) (λ_ aft=>by obtain⟨k1,k2,k3⟩:=aft.new _ (List.mem_cons_self ..) v' rfl;have kg:=aft.G _ (List.mem_cons_self ..);have ke:=aft.fw _ (List.mem_cons_self ..) rfl;simp only at k1 k2 k3 kg ke;exact⟨k1,k2,ke,by rw[k3,kg,aft.w,aft.ρ];exact hd,by rw[kg]⟩)
 obtain⟨k1,k2,k3⟩:=q3.new _ (List.mem_cons_self ..) v' rfl;simp only at k1 k3;obtain⟨p,m,r,rfl⟩:=hd.head;refine hk _ (c.cr w' _) ⟨rfl,rfl,rfl,rfl,λt ht=> ?_⟩ (q1.put (SR.own k1 k3 .nil) o.dst);rcases q4 t ht with ht|rfl
 ·exact .inl ht
 ·exact .inr ⟨Ax _,by simp[Bl]⟩
theorem Ao.ij(h:A1 P c n nx sl hp a sl0 hp0 o []){T:List Nat}(hT:T.Nodup)(Fh:∀u∈T,∃g,c.K u g){b g ep:Nat}(hb:b∉T)(hK:c.K b g)(Ea:∀g',c.K b g'->g'<=g)(hE:c.E b=ep){w':World}{ck:List Cn}{e z:Nat}{l:List DT}{x:E}{top:List Nat}(hr:(execOp a.eval o).run P c.w= .ok .skip w'){hs:List Nat}(FA:∀q∈hs,q∈(c.G b).top\/q∈BR c T)(hm:Mod hs c.w w')
  (BP:top.Nodup) (Cm:∀q∈top,(q∈hs\/c.w.heap.size<=q)/\q<w'.heap.size) (hd:DC w' [.row e z (Av.of l)] [c.H b g] [x.den c.ρ] top):
  Ao P o c n nx sl hp [] a {bu:=ck,au:=(b, .deep e z l g (ep+1) x)::Dw T}:=by
 intro next Q hk
 unfold Oper.wp;rw[hr,Oper.upon_skip];have It:∀u∈T,c.U u:=λu hu=>by obtain⟨g,hg⟩:=Fh u hu;exact h.rel.az _ _ hg
 have SL:=h.rel.az _ _ hK;obtain⟨q1,q2,q3,q4⟩:=h.rel.iz (r0:=⟨b,none,top, .deep e z l g (ep+1) x⟩) hT It hb (λhh=>by cases hh) (λ_=>SL) FA hm BP Cm (by intros;simp) (λ_ aft=>by have kg:=aft.G _ (List.mem_cons_self ..);have ke:=aft.ej _ (List.mem_cons_self ..) rfl;obtain⟨k1,k2⟩:=aft.K b g hK;simp only at kg ke;exact⟨k1,λg' BW=>Ea g' (aft.old b SL g' BW),by rw[ke,hE],by rw[k2,kg,aft.w,aft.ρ];exact hd,by rw[kg]⟩)
 refine hk _ (c.cr w' _) ⟨rfl,rfl,rfl,rfl,λt ht=> ?_⟩ (q1.put ((SR.undef .nil).mkGd []) o.dst);rcases q4 t ht with ht|rfl
 ·exact .inl ht
 ·exact .inl SL
theorem Vi{w w':World}{row:Option Nat}{S:List Nat}(h:w.grownBy w' row)(hr:∀g,row=some g->g∈S\/w.heap.size<=g):Mod S w w':=by
 refine⟨h.os,h.tape,h.output,h.size,λb hb hn=>h.block b hb λhh=> ?_⟩;rcases hr b hh.symm with h1|h1
 ·exact hn h1
 ·omega
theorem Uw(h:A1 P c n nx sl hp a sl0 hp0 o []){x y:Operand}{tx:TypeId}{cl:Call}(ho:o.op= .call cl)(As:cl.callee= .builtin .append)(Ck:cl.args.toList=[x,y])(CY:cl.argTypes.toList=[tx,tx])
  {el:TypeId} (A2:P.underlying tx=some (.slice el)) (hz:FL P el=true) {l:List DT} (hl:l.length=P.cellsOf el) {T us:List Nat} (hT:(T++us).Nodup) (Fh:∀u∈T,∃g,c.K u g) {s2:SV} {ye:E} (AN:Bc sl0 [] y=some s2) (hy:A5 hp0 [] AJ s2=some ye) (BZ:PC hp0 [] el (P.cellsOf el) l s2=some us)
  {c0:E} {v:Value} (hv:a.eval x=v) {N:List Nat} (CB:DC c.w [.row el (P.cellsOf el) (Av.of l)] [v] [c0.den c.ρ] N) (hN:N=BR c T) {ck:List Cn} (Cu:Cn.den c.ρ (.room c0 ye (P.bytesOf el))):
  Ao P o c n nx sl hp [] a {bu:=ck,val:= .own nx 0,au:=(nx, .deep el (P.cellsOf el) l 0 0 (.app c0 ye))::Dw (T++us)}:=by
 have Ai:cl.args= #[x,y]:=by apply Array.ext';simp[Ck]
 have EE:cl.argTypes= #[tx,tx]:=by apply Array.ext';simp[CY]
 have CQ:y∈o.op.operands:=by simp[ho,Op.operands,Call.operands,As,Ai]
 obtain⟨i,z,hi,EC,Du,BK,BM,Ft⟩:=H8 hz;obtain⟨ys,q,r,news,N2,CC,CK,Eb,Kx,Bu,GU,KL,TW⟩:=X6 h.eh h.gs BZ (h.bz AN CQ) hy;have Cs:=QY h.rel.gw hT;rw[HF]at Cs;have DK:∀b∈BR c (T++us),b<c.w.heap.size:=λb hb=>by obtain⟨t,_,Ce⟩:=Mg.1 hb;exact h.rel.gw.inb t b (by simp[GI.own,Ce])
 obtain⟨mm,kk,F1,Dy,JG,Qm⟩:=Cu;obtain⟨d1,d2,AH⟩:=CB.inv;rw[Av.aj]at d2 AH;have hU:∀u∈T++us,∃g,c.K u g:=λu hu=>by
  rcases Ae.1 hu with hu|hu
  ·exact Fh u hu
  ·exact TW u hu
 obtain⟨xs,old,N1,BS,hold,Eo,S3,Fk,Cf,HV,Km⟩:∃(xs:List AV) (old:List Value) (N1:List Nat),c0.den c.ρ= .sl xs/\old.length=xs.length*i.size/\((xs.length=0/\ ∃q,v= .slice q 0 0)\/ ∃g cap C,v= .slice (some ⟨g,0,none⟩) xs.length cap/\xs.length<=cap/\cap<=maxLen/\c.w.heap[g]?=some (.cells C el (0,0))/\C.size=cap*i.size/\old=C.toList.take (xs.length*i.size)/\(g∈BR c T/\g∉N1))/\
   DC c.w (BX xs.length l) old (Ar xs) N1/\(∀y∈xs,y.cells.length=P.cellsOf el)/\(∀u∈old,u.oneCell'=true)/\(∀b∈N1,b∈BR c T)/\N1.Nodup:=by
  rcases AH with⟨p,rfl,Et,rfl⟩|⟨g9,cap,C,xs,N1,rfl,Et,rfl,h6,h7,h8,h9,D8,DF,M9⟩
  ·exact⟨[],[],[],Et,by simp, .inl ⟨rfl,p,rfl⟩,by simpa[BX,Ar]using DC.nil,by simp,by simp,by simp,by simp⟩
  ·have BP:(g9::N1).Nodup:=by rw[hN];exact(List.nodup_append.1 Cs).1
   rw[List.nodup_cons]at BP;refine⟨xs,_,N1,Et,?_, .inr ⟨g9,cap,C,rfl,h7,h8,h6,by rw[<-BM];exact h9,rfl,by rw[<-hN];simp,BP.1⟩,by rw[<-BM];exact M9,D8,by rw[<-BM];exact DF,λb hb=>by rw[<-hN];simp[hb],BP.2⟩;have e9:C.toList.length=cap*i.size:=by rw[<-BM,<-h9];simp
   rw[AU,e9];exact Nat.min_eq_left (Bo _ h7)
 rw[BS]at F1;rw[CC]at Dy;simp only[AV.len,AV.int.injEq,true_and]at F1 Dy;have Hc:(xs.length+ys.length)*i.bytes<=140737488355328:=by
  rw[<-F1,<-Dy,Ft]at JG;have h9:(((xs.length+ys.length)*i.bytes:Nat):Int)<=140737488355328:=by rw[Int.natCast_mul,Int.natCast_add];exact JG
  omega
 have FW:xs.length+ys.length<=140737488355328:=by rw[<-F1,<-Dy]at Qm;omega
 rw[BM]at Eb;obtain⟨v',w',Aw,AK⟩:=VO (P:=P) c.w tx o.type el i z A2 hi EC Du BK (λg9=>g9∈BR c T/\g9∉N1) v xs.length old hold Eo q ys.length r news Eb (by simp only[maxLen];omega) Hc;have Cv:(execOp a.eval o).run P c.w= .ok (.value v') w':=by simp[execOp,ho,resolve,As,Ai,EE,invoke,builtin,hv,CK,Aw]
 have Ng:∀b∈N2,b∈BR c us:=λb hb=>Bu.subset hb;have Kn:N2.Nodup:=Bu.nodup (List.nodup_append.1 Cs).2.1;have Iw:(E.app c0 ye).den c.ρ= .sl (xs++ys):=by simp only[E.den,BS,CC,AV.app]
 rcases AK with⟨rfl,rfl,CZ⟩|⟨g9,cap,C,rfl,h1,h2,h3,h4,h5,h6,h7⟩
 ·have F4:ys=[]:=List.eq_nil_of_length_eq_zero CZ;subst F4;refine Ao.dj h hT hU Cv (Mod.refl _ _) (top:=N) (by rw[hN];exact(List.nodup_append.1 Cs).1) (λb hb=>⟨.inl (by rw[HF,<-hN];simp[hb]),DK b (by rw[HF,<-hN];simp[hb])⟩) ?_;rw[Iw,AG,<-BS];exact CB
 ·have Gs:(g9∈BR c T\/c.w.heap.size<=g9)/\g9∉N1/\g9∉N2:=by
   rcases h7 with⟨rfl,_⟩|⟨hg,BW⟩
   ·refine⟨.inr (Ax _),λhh=> ?_,λhh=> ?_⟩
    ·have:=DK _ (by rw[HF];exact Ae.2 (.inl (HV _ hh)));omega
    ·have:=DK _ (by rw[HF];exact Ae.2 (.inr (Ng _ hh)));omega
   ·exact⟨.inl hg,BW,λhh=>(List.nodup_append.1 Cs).2.2 _ hg _ (Ng _ hh) rfl⟩
  have AP:∀b∈N1++N2,w'.heap[b]?=c.w.heap[b]?:=λb hb=>by
   have AE:b<c.w.heap.size:=DK b (by
    rw[HF];rcases Ae.1 hb with hb|hb
    ·exact Ae.2 (.inl (HV b hb))
    ·exact Ae.2 (.inr (Ng b hb)))
   refine h6.block b AE λhh=> ?_;cases hh;rcases Ae.1 hb with hb|hb
   ·exact Gs.2.1 hb
   ·exact Gs.2.2 hb
  refine Ao.dj h hT hU Cv (Vi h6 λg hg=> ?_) (top:=g9::(N1++N2)) ?_ (λb hb=> ?_) ?_
  ·cases hg;rcases Gs.1 with hh|hh
   ·exact .inl (by rw[HF];exact Ae.2 (.inl hh))
   ·exact .inr hh
  ·refine List.nodup_cons.2 ⟨λhh=> ?_,List.nodup_append.2 ⟨Km,Kn,λp hp q hq=> ?_⟩⟩
   ·rcases Ae.1 hh with hh|hh
    ·exact Gs.2.1 hh
    ·exact Gs.2.2 hh
   ·exact(List.nodup_append.1 Cs).2.2 p (HV p hp) q (Ng q hq)
  ·rcases Ac.1 hb with rfl|hb
   ·refine⟨?_,EI h3⟩;rcases Gs.1 with hh|hh
    ·exact .inl (by rw[HF];exact Ae.2 (.inl hh))
    ·exact .inr hh
   ·have WR:b∈BR c (T++us):=by
     rw[HF];rcases Ae.1 hb with hb|hb
     ·exact Ae.2 (.inl (HV b hb))
     ·exact Ae.2 (.inr (Ng b hb))
    exact⟨.inl WR,Nat.lt_of_lt_of_le (DK b WR) h6.size⟩
  ·rw[Iw];have hlen:(xs++ys).length=xs.length+ys.length:=AZ;rw[BM]at d1 d2 Fk GU ⊢;have:=DC.row (w:=w') (e:=el) (z:=i.size) (l:=Av.of l) (g:=g9) (cap:=cap) (C:=C) (ys:=xs++ys) (N1:=N1++N2) (ts:=[]) (vs:=[]) (xs:=[]) (N:=[]) d1 (by rw[Av.aj];exact d2) h3 (by rw[hlen];exact h1) h2 h4 (λw hw=> ?_) (by
     rw[hlen,h5];intro u hu;rcases Ae.1 hu with hu|hu
     ·exact Cf u hu
     ·exact KL u hu) (by
     rw[hlen,h5,OV,VB,Av.aj];exact(S3.app Kx).frame AP) .nil
   ·rw[hlen]at this;simpa using this
   ·rcases Ae.1 hw with hw|hw
    ·exact Fk w hw
    ·exact GU w hw
end
section
variable {P:Program} {c:Cx} {n nx:Nat} {sl sl0:Nat->SV} {hp hp0:Nat->Option Ab} {a:Act} {o:Oper} {gs:Gd} {e:AO} {sg:Br} {nv:Nat}
theorem jS{l:List Nat}(h:Jc l=true):l.Nodup:=Mj h
theorem fR(h:A1 P c n nx sl hp a sl0 hp0 o gs){x y:Operand}{tx ty:TypeId}{cl:Call}(ho:o.op= .call cl)(As:cl.callee= .builtin .append)(Ck:cl.args.toList=[x,y])(CY:cl.argTypes.toList=[tx,ty])
  {s1 s2:SV} (Bj:Bc sl0 gs x=some s1) (AN:Bc sl0 gs y=some s2) (he:Rv P hp0 gs nx tx ty s1 s2=some e) (hc:∀q∈e.bu,Cn.den c.ρ q):Ao P o c n nx sl hp gs a e:=by
 have Ai:cl.args= #[x,y]:=by apply Array.ext';simp[Ck]
 have Dc:x∈o.op.operands:=by simp[ho,Op.operands,Call.operands,As,Ai]
 have CQ:y∈o.op.operands:=by simp[ho,Op.operands,Call.operands,As,Ai]
 unfold Rv at he;split at he
 ·cases he
 rename_i Hy;have Hy:tx=ty:=by simpa using Hy
 subst Hy;split at he
 ·rename_i el e' z dl A2 CP;have Hf:=GZ A2;split at he
  ·cases he
  rename_i An;simp only[not_or,Bn,Bool.not_eq_false,Bool.not_eq_true,ne_eq,Decidable.not_not]at An;obtain⟨hz,E4,rfl,rfl⟩:=An;obtain⟨_,_,l,Hn,Db⟩:=Pf A2 CP;simp only[DT.row.injEq,true_and]at Hn;subst Hn;rw[Av.aj]at he;have r1:=h.bz Bj Dc;split at he
  ·rename_i ye us hy BZ;have hU:∀u∈us,∃g,c.K u g:=(X6 h.eh h.gs BZ (h.bz AN CQ) hy).choose_spec.choose_spec.choose_spec.choose_spec.choose_spec.2.2.2.2.2.2.2;have KY:us.Nodup:=by
    unfold PC at BZ;split at BZ
    ·simp only[Aa]at BZ;subst BZ;simp
    ·simp only[Aa]at BZ;subst BZ;simp
    ·split at BZ
     ·split at BZ
      ·simp only[Aa]at BZ;subst BZ;simp
      ·cases BZ
     ·cases BZ
    ·cases BZ
   have Qt:0<P.cellsOf e':=by obtain⟨i,_,_,_,_,h1,h2,_⟩:=H8 hz;omega
   split at he
   ·rename_i t g;split at he
    ·rename_i e2 z2 l2 g2 ep c0 hl;split at he
     ·rename_i hh;obtain⟨rfl,rfl,hb,rfl,DN⟩:=hh;have hb:=Av.dm hb;subst hb;simp only[Aa]at he;subst he;obtain⟨q1,q2,q3,q4,q5⟩:=h.eh t _ (Cc hl h.gs);generalize hv:a.eval x=v at r1;cases r1 with
      |own k1 k2 _=>rw[k2]at q4;simp only[Bn,List.contains_eq_mem,decide_eq_false_iff_not]at DN;exact Uw h ho As Ck CY Hf hz Db (T:=[t]) (by simpa using List.nodup_cons.2 ⟨DN,KY⟩) (λu hu=>by simp at hu;subst hu;exact⟨_,k1⟩) AN hy BZ hv q4 (by simp[BR]) (hc _ (by simp))
     ·cases he
    ·cases he
   ·simp only[Aa]at he;subst he;generalize hv:a.eval x=v at r1;cases r1 with
    |emp _=>exact Uw h ho As Ck CY Hf hz Db (T:=[]) (by simpa using KY) (by simp) AN hy BZ hv (c0:= .lst .nil) (.void Qt (by rw[Av.aj];exact Db) .nil) rfl (hc _ (by simp))
   ·simp only[Aa]at he;subst he;generalize hv:a.eval x=v at r1;cases r1 with
    |bb _=>exact Uw h ho As Ck CY Hf hz Db (T:=[]) (by simpa using KY) (by simp) AN hy BZ hv (c0:= .lst .nil) (.void Qt (by rw[Av.aj];exact Db) .nil) rfl (hc _ (by simp))
   ·cases he
  ·cases he
 ·cases he
theorem Ao.dw(h:A1 P c n nx sl hp a sl0 hp0 o []){T:List Nat}(hT:T.Nodup)(Fh:∀u∈T,∃g,c.K u g){ck:List Cn}{el z:Nat}{l:List DT}(hz:0<z)(hl:l.length=z){x:E}{xs:List AV}{C:Array Value}{cap:Nat}(hx:x.den c.ρ= .sl xs)(As:∀y∈xs,y.cells.length=z)(hle:xs.length<=cap)(Ks:cap<=maxLen)(hC:C.size=cap*z)
  (h1:∀u∈C.toList.take (xs.length*z),u.oneCell'=true) (hD:DC c.w (BX xs.length l) (C.toList.take (xs.length*z)) (Ar xs) (BR c T))
  (hr:(execOp a.eval o).run P c.w= .ok (.value (.slice (some ⟨c.w.heap.size,0,none⟩) xs.length cap)) (c.w.alloc (.cells C el))):
  Ao P o c n nx sl hp [] a {bu:=ck,val:= .own nx 0,au:=(nx, .deep el z l 0 0 x)::Dw T}:=by
 have DK:∀b∈BR c T,b<c.w.heap.size:=λb hb=>by obtain⟨t,_,Ce⟩:=Mg.1 hb;exact h.rel.gw.inb t b (by simp[GI.own,Ce])
 have AM:(c.w.alloc (.cells C el)).heap[c.w.heap.size]?=some (.cells C el (0,0)):=heap_alloc_new c.w _;have KB:c.w.grownBy (c.w.alloc (.cells C el)) (some c.w.heap.size):=⟨rfl,rfl,rfl,by simp,λj hj _=>Below.heap_alloc c.w _ _ hj⟩
 refine Ao.dj h hT Fh hr (Vi KB λg hg=> .inr (by cases hg;exact Ax _)) (top:=c.w.heap.size::BR c T) ?_ (λb hb=> ?_) ?_
 ·exact List.nodup_cons.2 ⟨λhh=>by have:=DK _ hh;omega,QY h.rel.gw hT⟩
 ·rcases Ac.1 hb with rfl|hb
  ·exact⟨.inr (Ax _),by simp⟩
  ·exact⟨.inl hb,Nat.lt_of_lt_of_le (DK b hb) (by simp)⟩
 ·rw[hx];have:=DC.row (w:=c.w.alloc (.cells C el)) (e:=el) (z:=z) (l:=Av.of l) (g:=c.w.heap.size) (cap:=cap) (C:=C) (ys:=xs) (N1:=BR c T) (ts:=[]) (vs:=[]) (xs:=[]) (N:=[]) hz (by rw[Av.aj];exact hl) AM hle Ks hC As h1 (by
   rw[Av.aj];exact hD.frame λb hb=>Below.heap_alloc c.w _ _ (DK b hb)) .nil
  simpa using this
theorem fU(h:A1 P c n nx sl hp a sl0 hp0 o gs){t:TypeId}{m:Nat}{parts:Array (Nat × Operand)}(ho:o.op= .buildSlice t m parts){ps:List (Nat × SV)}(JF:parts.toList.mapM (λ(p:Nat × Operand)=>(Bc sl0 gs p.2).map λs=>(p.1,s))=some ps)(he:RE P hp0 gs nx t m ps=some e)(hc:∀q∈e.bu,Cn.den c.ρ q):Ao P o c n nx sl hp gs a e:=by
 obtain⟨e1,e2⟩:=Rp (c:=c) (a:=a) (parts.toList.map (·.2)) (λx s hx hm=>h.bz hx (by simpa[ho,Op.operands]using hm)) (λx hx=>List.mem_map.2 ⟨x,hx,rfl⟩) JF;unfold RE at he;split at he
 ·rename_i el e' zz dl Hg CP;have A2:=GZ Hg;split at he
  ·cases he
  rename_i An;simp only[not_or,Bn,Bool.not_eq_false',ne_eq,Bool.not_eq_false,Bool.not_eq_true,Nat.not_lt,Decidable.not_not]at An;obtain⟨hz,E4,rfl,rfl,AX,Ap,hle,DH⟩:=An;obtain⟨_,_,l,Hn,Db⟩:=Pf Hg CP;simp only[DT.row.injEq,true_and]at Hn;subst Hn;rw[Av.aj]at he;have Ap:Ag P e'=true\/P.cellsOf e'=1:=by simpa using Ap
  obtain⟨i,z,hi,EC,Du,BK,BM,Ft⟩:=H8 hz;split at he
  ·rename_i xs us ck Oe;split at he
   ·rename_i BP;simp only[Aa]at he;subst he;obtain⟨p1,p5,p6,p7,p8⟩:=XC h.eh h.gs Db Ap (ps.map (·.2)) (parts.toList.map λp=>a.eval p.2) e2 Oe hc;have hlen:(parts.toList.map λp=>a.eval p.2).length=m:=by
     have:ps.length=m:=by have:=congrArg List.length DH;simpa using this
     have h9:=congrArg List.length e1;simp at h9 ⊢;omega
    have FD:(parts.map λ(x:Nat × Operand)=>(x.1,a.eval x.2)).toList=((parts.toList.map λp=>a.eval p.2).zipIdx 0).map λp=>(p.2,p.1):=by
     have KE:parts.toList.map (·.1)=List.range m:=by rw[<-e1,DH]
     apply List.ext_getElem?;intro j;have hj:(parts.toList.map (·.1))[j]?=(List.range m)[j]?:=by rw[KE]
     simp only[Array.toList_map,List.getElem?_map,List.getElem?_zipIdx]at hj ⊢;cases hp:parts.toList[j]? with
     |none=>simp
     |some p=>
      rw[hp]at hj;simp only[Option.map_some,Aa]at hj ⊢;have Tm:j<m:=by
       rcases Nat.lt_or_ge j m with hh|hh
       ·exact hh
       ·rw[List.getElem?_eq_none (by simpa using hh)]at hj;cases hj
      rw[List.getElem?_range Tm]at hj;simp at hj;simp[hj]
    obtain⟨C',f1,f2⟩:=Va (sz:=i.size) (λj=>some (j*i.size,i.size)) (λj=>rfl) (parts.toList.map λp=>a.eval p.2) 0 ((Array.range (m*i.size)).map (λj=>(if m*i.size=0 then #[]else z.cells)[j % (if m*i.size=0 then #[]else z.cells).size]!)) [] _ (by simp;rfl) (by simp) (by simp[hlen]) (λv hv=>by rw[<-BM];exact(p5 v hv).1);have CX:C'.toList.length=m*P.cellsOf e':=by
     rw[f2,BM];simp only[List.nil_append];have:∀(L:List Value),(∀v∈L,v.cells.size=i.size)->(L.flatMap λv=>v.cells.toList).length=L.length*i.size:=by
      intro L
      induction L with
      |nil=>intro _;simp
      |cons v L ih=>intro hL;simp only[List.flatMap_cons,AZ,AQ,BF];rw[ih (λu hu=>hL u (by simp[hu])),hL v (by simp),Nat.add_mul];omega
     rw[this _ (λv hv=>by rw[<-BM];exact(p5 v hv).1),hlen]
    have F3:(xs.map (E.den c.ρ)).length=m:=by rw[List.length_map,p7,hlen]
    have BQ:C'.toList.take ((xs.map (E.den c.ρ)).length*P.cellsOf e')=(parts.toList.map λp=>a.eval p.2).flatMap λv=>v.cells.toList:=by rw[F3,<-CX,List.take_length,f2];simp
    refine Ao.dw h (jS BP) p8 (by omega) Db (xs:=xs.map (E.den c.ρ)) (C:=C') (cap:=m) (by simp[E.den,EL.ch]) (λy hy=> ?_) (by omega) (by simp only[maxLen];have:m*1<=m*P.cellsOf e':=Nat.mul_le_mul_left _ (by omega);omega) (by rw[<-BF,CX]) ?_ ?_ ?_
    ·obtain⟨q,hq,rfl⟩:=List.mem_map.1 hy;exact p6 q hq
    ·rw[BQ];intro u hu;obtain⟨v,hv,hu⟩:=List.mem_flatMap.1 hu;exact(p5 v hv).2 u hu
    ·rw[BQ,F3,<-hlen];exact p1
    ·rw[F3];have Aw:=Xu (P:=P) A2 AX hi EC BM m (by rw[<-BM];omega) (parts.map λ(x:Nat × Operand)=>(x.1,a.eval x.2)) C' (by rw[FD];exact f1) c.w;simp only[execOp,ho,Sem.run_bind];rw[Aw];rfl
   ·cases he
  ·cases he
 ·cases he
theorem UG{w:World}:∀{ds:List DT} {ss:List SV} {vs:List Value},Lv ds ss=true->SR c ss vs-> ∀{xs:EL} {m:Nat},B8 hp0 gs m ss=some xs->DC w ds vs (xs.den c.ρ) []
 | [],[],vs,_,hs,xs,m,hx=>by
  cases hs;cases m with
  |zero=>simp[B8]at hx
  |succ m=>simp[B8]at hx;subst hx;exact .nil
 | [],_::_,_,h,_,_,_,_=>by simp[Lv]at h
 |_::_,[],_,h,_,_,_,_=>by simp[Lv]at h
 |d::ds,s::ss,[],h,hs,_,_,_=>by have:=hs.len;simp at this
 |d::ds,s::ss,v::vs,h,hs,xs,m,hx=>by
  obtain⟨j,y,ys,rfl,hy,CC,rfl⟩:=H7 hx;obtain⟨r1,r2⟩:=hs.bd;simp only[Lv,Ad]at h;have ih:=UG (w:=w) h.2 r2 CC;unfold aJ at h;obtain⟨h1,_⟩:=h;split at h1
  ·rename_i y';rw[EL.den,Ig hy];cases r1 with
   |e g1 g2 _=>
    cases y'<;>simp[PV]at h1
    ·cases g1 with
     |int hk _=>exact .flat (.int hk .nil) ih
    ·cases g1 with
     |bool _=>exact .flat (.bool .nil) ih
    ·rename_i s0;generalize hq:(E.str s0).den c.ρ=q at g1;cases g1 with
     |str hk _=>exact .flat (.str hk .nil) ih
     |_=>simp[E.den]at hq
  ·simp only[Ad,Au,AA]at h1;rw[EL.den,IX hy];cases r1 with
   |bb _=>exact .void h1.1 h1.2 ih
  ·cases h1
theorem DC.rep{w:World}{ds:List DT}{vs:List Value}{xs:List AV}(h:DC w ds vs xs []):∀k,DC w (BX k ds) (List.replicate k vs).flatten (List.replicate k xs).flatten []
 |0=>by simpa[BX]using DC.nil
 |k+1=>by rw[Le,List.replicate_succ,List.flatten_cons,List.replicate_succ,List.flatten_cons];simpa using h.app (DC.rep h k)
theorem gL(h:A1 P c n nx sl hp a sl0 hp0 o gs){t:TypeId}{l m:Operand}(ho:o.op= .makeSlice t l m){s1 s2:SV}(Bj:Bc sl0 gs l=some s1)(AN:Bc sl0 gs m=some s2)(he:RR P hp0 gs nx t s1 s2=some e)(hc:∀q∈e.bu,Cn.den c.ρ q):Ao P o c n nx sl hp gs a e:=by
 have Dc:l∈o.op.operands:=by simp[ho,Op.operands]
 have CQ:m∈o.op.operands:=by simp[ho,Op.operands]
 unfold RR at he;split at he
 ·rename_i el e' zz dl x y Hg CP;have A2:=GZ Hg;split at he
  ·cases he
  rename_i An;simp only[not_or,Bn,Bool.not_eq_false',ne_eq,Bool.not_eq_false,Bool.not_eq_true,Decidable.not_not]at An;obtain⟨hz,E4,rfl,rfl,EP,Td⟩:=An;have Td:gs=[]:=by simpa using Td
  subst Td;obtain⟨_,_,dl',Hn,Db⟩:=Pf Hg CP;simp only[DT.row.injEq,true_and]at Hn;subst Hn;rw[Av.aj]at he;obtain⟨i,z,hi,EC,Du,BK,BM,Ft⟩:=H8 hz;have r1:=h.bz Bj Dc;have r2:=h.bz AN CQ;have ival:∀{x:E} {kk:IntKind} {k:Int} {v:Value},SR c [.e x] [v]->x.den c.ρ= .int kk k->v= .int kk k:=by
   intro x kk k v hr hx;cases hr with
   |e h1 _ _=>exact(ET h1 hx).1
  split at he
  ·rename_i s hs;have hs:D5 z=some s:=by simpa[hi,EC]using hs
   split at he
   ·rename_i Qu;obtain⟨w,hw,rfl⟩:=Aj.1 he;obtain⟨kk,k,hk,h0,hb,hle⟩:Cn.den c.ρ (.mkroom x (P.bytesOf e')):=BD hc;have EO:=ival r1 hk;have CK:=ival r2 (by rw[<-E.af c.ρ _ _ EP];exact hk);have Xi:DC c.w dl' z.cells.toList (w.den c.ρ).cells []:=by
     have IM:=Rw (c:=c) hs;unfold Z8 at Qu;cases s with
     |agg cs=>
      obtain⟨k9,l9,hm,cJ,rfl⟩:=Pe hw;cases IM with
      |agg h9 h1 h8=>have:=UG (w:=c.w) Qu h1 cJ;simpa[Value.cells,AV.cells,E.den]using this
     |bb=>
      have A2:B8 hp0 [] (AJ+1) [.bb]=some (.cons w .nil):=by unfold B8;rw[hw];rfl
      have:=UG (w:=c.w) Qu IM A2;rw[IX hw]at this ⊢;cases IM with
      |bb _=>simpa[Value.cells,AV.cells,E.den,EL.den]using this
     |_=>cases Qu
    obtain⟨c1,c2⟩:=UF (w:=c.w) (ρ:=c.ρ) hs hw;obtain⟨kn,rfl⟩:=Int.eq_ofNat_of_zero_le h0;have C8:(i.bytes:Int)*(kn:Int)<=281474976710656:=by rw[Ft]at hb;rw[Int.mul_comm];omega
    have hlen:=c1.len;have Qe:=Ra z.cells (by omega) kn;have Aw:=run_make (P:=P) c.w t e' i z A2 hi EC kk kk kn kn (by omega) (Int.le_refl _) C8 (by omega);have Er:(madeCells z.cells (kn*z.cells.size)).size=kn*P.cellsOf e':=by rw[size_madeCells,Du,BM]
    have BQ:(madeCells z.cells (kn*z.cells.size)).toList.take ((List.replicate kn (w.den c.ρ)).length*P.cellsOf e')=(List.replicate kn z.cells.toList).flatten:=by rw[List.length_replicate,List.take_of_length_le (by rw[BF,Er];exact Ax _),Qe]
    have Ej:Ar (List.replicate kn (w.den c.ρ))=(List.replicate kn (w.den c.ρ).cells).flatten:=by
     clear Aw Er BQ Qe hb hle C8 hk EO CK h0 hc
     induction kn with
     |zero=>rfl
     |succ k ih=>simp only[List.replicate_succ,Ar,List.flatMap_cons,List.flatten_cons]at ih ⊢;rw[ih]
    refine Ao.dw (T:=[]) h (by simp) (by simp) (by omega) Db (xs:=List.replicate kn (w.den c.ρ)) (C:=madeCells z.cells (kn*z.cells.size)) (cap:=kn) (by simp[E.den,hk,AV.rep]) (λu hu=> ?_) (by simp) (by simp only[maxLen];omega) Er ?_ ?_ ?_
    ·rw[List.eq_of_mem_replicate hu,<-hlen,BF,Du,BM]
    ·rw[BQ];intro u hu;obtain⟨q,hq,hu⟩:=List.mem_flatten.1 hu;rw[List.eq_of_mem_replicate hq]at hu;exact c2 u hu
    ·rw[BQ,List.length_replicate,Ej];exact Xi.rep kn
    ·simp only[execOp,ho,EO,CK,Sem.run_bind,Int.ofNat_eq_natCast,List.length_replicate];rw[Aw,Du];rfl
   ·cases he
  ·cases he
 ·cases he
end
section
variable {P:Program} {c:Cx} {n nx:Nat} {sl sl0:Nat->SV} {hp hp0:Nat->Option Ab} {a:Act} {o:Oper} {gs:Gd} {e:AO} {sg:Br} {nv:Nat}
theorem X5{α:Type}(cs vs:List α)(o:Nat):setVs cs o vs=cs.take o++(vs++cs.drop (o+vs.length)):=by simp[setVs]
theorem DC.setVs{w:World}{ts:List DT}{L V:List Value}{X Y:List AV}{N1 N2 M:List Nat}{p:Nat}(h1:DC w (ts.take p) (L.take p) (X.take p) N1)(h2:DC w (ts.drop (p+V.length)) (L.drop (p+V.length)) (X.drop (p+V.length)) N2)(k:DC w ((ts.drop p).take V.length) V Y M):
  DC w ts (Go.Proofs.Yteeafhlnofapaaa.setVs L p V) (Go.Proofs.Yteeafhlnofapaaa.setVs X p Y) (N1++(M++N2)):=by
 have hk:=k.len;have ht:ts=ts.take p++((ts.drop p).take V.length++ts.drop (p+V.length)):=by rw[<-List.drop_drop,BB,BB]
 rw[X5,X5];have hl:Y.length=V.length:=by omega
 rw[hl];have:=h1.app (k.app h2);rw[<-ht]at this;exact this
theorem Yc(h:A1 P c n nx sl hp a sl0 hp0 o []){t:TypeId}{x y:Operand}(ho:o.op= .store t x y){b g:Nat}{ix:E}{sz k:Nat}{s:SV}(r1:SR c [.br b g ix sz k] [a.eval x])(r2:SR c [s] [a.eval y]){el:Nat}{l:List DT}{ep:Nat}{c0:E}(hK:c.K b g)(Ea:∀g',c.K b g'->g'<=g)(hE:c.E b=ep)
  (AX:CE P t=true) (hle:k+P.cellsOf t<=sz) (EA:Ag P el=true\/(sz=1/\Ag P t=false)) (Dp:Ag P t=true\/P.cellsOf t=1)
  {xe:E} {us:List Nat} {ck:List Cn} (BZ:MH P hp0 [] t ((l.drop k).take (P.cellsOf t)) s=some (xe,us,ck)) (Kt:∀q∈ck,q.den c.ρ) (BP:us.Nodup) (hb:b∉us)
  (Cm:∀(kk:IntKind) (kv:Int),ix.den c.ρ= .int kk kv-> ∃(m cap:Nat) (C:Array Value) (ys:List AV) (N1 N2:List Nat),c.H b g= .slice (some ⟨m,0,none⟩) ys.length cap/\c0.den c.ρ= .sl ys/\0<sz/\l.length=sz/\c.w.heap[m]?=some (.cells C el (0,0))/\ys.length<=cap/\cap<=maxLen/\C.size=cap*sz/\(∀y∈ys,y.cells.length=sz)/\(∀w∈C.toList.take (ys.length*sz),w.oneCell'=true)/\
   (m::(N1++N2)).Nodup/\(∀q∈m::(N1++N2),q∈(c.G b).top)/\DC c.w ((BX ys.length l).take (kv.toNat*sz+k)) ((C.toList.take (ys.length*sz)).take (kv.toNat*sz+k)) ((Ar ys).take (kv.toNat*sz+k)) N1/\
   DC c.w ((BX ys.length l).drop (kv.toNat*sz+k+P.cellsOf t)) ((C.toList.take (ys.length*sz)).drop (kv.toNat*sz+k+P.cellsOf t)) ((Ar ys).drop (kv.toNat*sz+k+P.cellsOf t)) N2):
  Ao P o c n nx sl hp [] a {bu:=ck,au:=(b, .deep el sz l g (ep+1) (.set c0 ix (.put (.idx c0 ix) k xe (Ag P el))))::Dw us}:=by
 generalize hv:a.eval x=v at r1;cases r1 with
 |br k1 k2 k3 k4 k5 k6=>
  rename_i m0 len cap0 kk kv;obtain⟨m,cap,C,ys,N1,N2,p1,p2,p3,p4,p5,p6,p7,p8,p9,p10,p11,p12,p13,p14⟩:=Cm kk kv k3;rw[k2]at p1;cases p1;have Gv:kv.toNat<ys.length:=by omega
  have hmul:(kv.toNat+1)*sz<=ys.length*sz:=Bo _ (by omega);have DM:ys.length*sz<=cap0*sz:=Bo _ p6;rw[Nat.add_mul]at hmul;have CX:C.toList.length=cap0*sz:=by simpa using p8
  obtain⟨q1,q2,q3,q4,q5,q6⟩:=XM h.eh h.gs (by rw[AU,Dv,p4];omega) Dp BZ r2 Kt;have E5:=J5 Gv;generalize GX:(AV.sl ys).nth kv.toNat=yk at E5;have EG:=p9 yk (List.mem_of_getElem? E5);have Fb:(a.eval y).cells.toList.length=P.cellsOf t:=by simpa using q4
  obtain⟨m1,m2,m3⟩:=Q9 (vs:=(a.eval y).cells.toList) p5 (show(kv.toNat*sz+k)+_<=C.size by rw[Fb,p8];omega);have KH:(C.toList.take (ys.length*sz)).length=ys.length*sz:=by rw[AU,CX];omega
  have FZ:m0∈(c.G b).top:=p12 _ (by simp);have IS:∀q∈BR c us,q∉(c.G b).top:=λq hq hh=>by obtain⟨u,hu,TN⟩:=Mg.1 hq;exact h.rel.gw.bm u b (λhh=>hb (hh▸hu)) q (by simp[GI.own,TN]) (by simp[GI.own,hh])
  have Jx:∀q∈BR c us,q<c.w.heap.size:=λq hq=>by obtain⟨u,_,TN⟩:=Mg.1 hq;exact h.rel.gw.inb u q (by simp[GI.own,TN])
  have Jw:∀q∈(c.G b).top,q<c.w.heap.size:=λq hq=>h.rel.gw.inb b q (by simp[GI.own,hq]);have AP:∀q,q∈BR c us\/(q∈N1++N2)->(putCells c.w m0 (kv.toNat*sz+k) (a.eval y).cells.toList).heap[q]?=c.w.heap[q]?:=λq hq=>by
   refine m1.block q ?_ ?_
   ·rcases hq with hq|hq
    ·exact Jx q hq
    ·exact Jw q (p12 q (by simp[Ae.1 hq]))
   ·simp only[List.mem_singleton];rintro rfl;rcases hq with hq|hq
    ·exact IS _ hq FZ
    ·exact(List.nodup_cons.1 p11).1 hq
  have hz:(yk.ct k (xe.den c.ρ) (Ag P el)).cells=setVs yk.cells k (xe.den c.ρ).cells:=by
   refine UR ?_ (λhg=> ?_)
   ·cases hg:Ag P el with
    |true=>exact .inr rfl
    |false=>
     left;rcases EA with h'|⟨_,h'⟩
     ·rw[hg]at h';cases h'
     ·rw[h']at q5;exact λcs=>(q5.1 cs)
   ·rcases EA with h'|⟨h1,h'⟩
    ·rw[hg]at h';cases h'
    ·rw[h']at q5;have Nu:P.cellsOf t=1:=by rcases Dp with h2|h2;rw[h']at h2;cases h2;exact h2
     refine⟨by omega,by omega,?_⟩;cases T0:xe.den c.ρ<;>first|rfl|exact absurd T0 (q5.1 _)
  have DI:Ar (ys.set kv.toNat (yk.ct k (xe.den c.ρ) (Ag P el)))=setVs (Ar ys) (kv.toNat*sz+k) (xe.den c.ρ).cells:=
   Rz ys _ _ yk k _ p9 E5 (by rw[q3];exact hle) hz
  have Fu:((BX ys.length l).drop (kv.toNat*sz+k)).take (P.cellsOf t)=(l.drop k).take (P.cellsOf t):=by rw[<-p4];exact O5 l _ _ _ _ Gv (by omega)
  have Aw:(execOp a.eval o).run P c.w= .ok .skip (putCells c.w m0 (kv.toNat*sz+k) (a.eval y).cells.toList):=by have:=UI (P:=P) (t:=t) (v:=a.eval y) (off:=kv.toNat*sz+k) p5 AX q4 (by rw[q4,p8];omega) q2;simp[execOp,ho,hv,this]
  refine Ao.ij h BP q6 hb hK Ea hE Aw (hs:=(c.G b).top++BR c us) (λq hq=>Ae.1 hq) ⟨m1.os,m1.tape,m1.output,m1.size,λq hq hn=>m1.block q hq λhh=>hn (by simp only[List.mem_singleton]at hh;subst hh;exact Ae.2 (.inl FZ))⟩
   (top:=m0::(N1++(BR c us++N2))) ?_ (λq hq=> ?_) ?_
  ·have cS:=QY h.rel.gw BP;rw[List.nodup_cons,List.nodup_append]at p11;obtain⟨n1,n2,n3,n4⟩:=p11;have a1:∀q∈BR c us,q∉N1/\q∉N2/\q≠m0:=λq hq=>⟨λhh=>IS q hq (p12 q (by simp[hh])),λhh=>IS q hq (p12 q (by simp[hh])),λhh=>IS q hq (hh▸FZ)⟩
   rw[List.nodup_cons,List.nodup_append,List.nodup_append];refine⟨λhh=> ?_,n2,⟨cS,n3,λp hp q hq KR=>(a1 p hp).2.1 (KR▸hq)⟩,λp hp q hq KR=> ?_⟩
   ·simp only[Ae]at hh n1;rcases hh with hh|hh|hh
    ·exact n1 (.inl hh)
    ·exact(a1 _ hh).2.2 rfl
    ·exact n1 (.inr hh)
   ·rcases Ae.1 hq with hq|hq
    ·exact(a1 q hq).1 (KR▸hp)
    ·exact n4 p hp q hq KR
  ·have:q∈(c.G b).top\/q∈BR c us:=by
    simp only[Ac,Ae]at hq;rcases hq with rfl|hq|hq|hq
    ·exact .inl FZ
    ·exact .inl (p12 q (by simp[hq]))
    ·exact .inr hq
    ·exact .inl (p12 q (by simp[hq]))
   refine⟨.inl (Ae.2 this),Nat.lt_of_lt_of_le ?_ m1.size⟩;rcases this with hh|hh
   ·exact Jw q hh
   ·exact Jx q hh
  ·have BN:(E.set c0 ix (.put (.idx c0 ix) k xe (Ag P el))).den c.ρ= .sl (ys.set kv.toNat (yk.ct k (xe.den c.ρ) (Ag P el))):=by
    simp only[E.den,p2,k3,AV.idx,GX,AV.cu]
   rw[BN,k2];have Db:(ys.set kv.toNat (yk.ct k (xe.den c.ρ) (Ag P el))).length=ys.length:=List.length_set;have:=DC.row (w:=putCells c.w m0 (kv.toNat*sz+k) (a.eval y).cells.toList) (e:=el) (z:=sz) (l:=Av.of l) (g:=m0) (cap:=cap0) (ys:=ys.set kv.toNat (yk.ct k (xe.den c.ρ) (Ag P el))) (N1:=N1++(BR c us++N2)) (ts:=[]) (vs:=[]) (xs:=[]) (N:=[]) p3 (by rw[Av.aj];exact p4) m2 (by rw[Db];exact p6) p7 (by rw[List.size_toArray,Mh _ _ _ (by rw[Fb,CX];omega),BF];exact p8) (λw hw=> ?_) ?_ ?_ .nil
   ·rw[Db]at this;simpa using this
   ·rcases List.mem_or_eq_of_mem_set hw with hw|rfl
    ·exact p9 w hw
    ·rw[hz,Mh _ _ _ (by rw[q3,EG];exact hle)];exact EG
   ·simp only[Db,List.toList_toArray];rw[Mf _ _ _ _ (by rw[Fb];omega) (by rw[CX];omega)];intro u hu;unfold setVs at hu;simp only[Ae]at hu;rcases hu with(hu|hu)|hu
    ·exact p10 u (BA hu)
    ·exact q2 u hu
    ·exact p10 u (B2 hu)
   ·simp only[Db,List.toList_toArray];rw[Mf _ _ _ _ (by rw[Fb];omega) (by rw[CX];omega),DI,Av.aj];refine DC.setVs (p13.frame λq hq=>AP q (.inr (by simp[hq]))) ?_ ?_
    ·rw[Fb];exact p14.frame λq hq=>AP q (.inr (by simp[hq]))
    ·rw[Fb,Fu];exact q1.frame λq hq=>AP q (.inl hq)
theorem fO(h:A1 P c n nx sl hp a sl0 hp0 o gs){t:TypeId}{x y:Operand}(ho:o.op= .store t x y){b g:Nat}{ix:E}{sz k:Nat}{s:SV}(CB: ¬ ∃e z g c d,Cw hp0 gs b=some (.row e z g c d))(hx:Bc sl0 gs x=some (.br b g ix sz k))(hy:Bc sl0 gs y=some s)
  (he:JZ P hp0 gs t (.br b g ix sz k) s=some e) (hc:∀q∈e.bu,Cn.den c.ρ q):Ao P o c n nx sl hp gs a e:=by
 have r1:=h.bz hx (by simp[ho,Op.operands]);have r2:=h.bz hy (by simp[ho,Op.operands]);simp only[JZ]at he;split at he
 ·rename_i hl;exact absurd ⟨_,_,_,_,_,hl⟩ CB
 ·rename_i el sz' l g' ep c0 hl;split at he
  ·rename_i hh;obtain⟨rfl,rfl,rfl,AX,hle,EA,Dp⟩:=hh;split at he
   ·rename_i xe us ck BZ;split at he
    ·cases he
    rename_i DN;simp only[Bool.or_eq_true,Bn,not_or,Bool.not_eq_false,Bool.not_eq_true,List.contains_eq_mem,decide_eq_false_iff_not]at DN;simp only[Aa]at he;subst he;obtain⟨e1,e2,e3,e4,e5⟩:=h.eh b _ (Cc hl h.gs);refine Yc h ho r1 r2 e1 e2 e3 AX hle (by simpa using EA) Dp BZ hc (Mj DN.1) DN.2 λkk kv NJ=> ?_;generalize a.eval x=v at r1;cases r1 with
    |br k1 k2 k3 k4 k5 _=>
     rw[k3]at NJ;cases NJ;obtain⟨d1,d2,⟨a9,d3,_⟩|⟨g9,cap9,C,ys,N,d3,d4,d5,d6,d7,d8,d9,d10,d11,d12⟩⟩:=e4.inv
     ·rw[k2]at d3;cases d3;omega
     ·rw[Av.aj]at d2 d12;obtain⟨N1,N2,N3,rfl,s1,s2,s3⟩:=d12.split (kv.toNat*sz+k) (P.cellsOf t);have BP:=h.rel.gw.nodup b;simp only[GI.own,e5,AG,d5]at BP;refine⟨g9,cap9,C,ys,N1,N3,d3,d4,d1,d2,d6,d7,d8,d9,d10,d11,?_,λq hq=> ?_,s1,s3⟩
      ·refine List.Sublist.nodup (List.Sublist.cons_cons _ ?_) BP;rw[List.append_assoc];exact List.Sublist.append (List.Sublist.refl _) (List.sublist_append_right _ _)
      ·rw[d5];simp only[Ac,Ae]at hq ⊢;rcases hq with hq|hq|hq
       ·exact .inl hq
       ·exact .inr (.inl (.inl hq))
       ·exact .inr (.inr hq)
   ·cases he
  ·cases he
 ·rename_i el sz' l g' ep c0 i' o' u' hl;split at he
  ·rename_i hh;obtain⟨rfl,rfl,rfl,AX,rfl,cA,hle,Nu,Dp,EA⟩:=hh;have Dp:Ag P t=false:=by simpa using Dp
   split at he
   ·rename_i xe us ck BZ;split at he
    ·cases he
    rename_i DN;simp only[Bool.or_eq_true,Bn,not_or,Bool.not_eq_false,Bool.not_eq_true,List.contains_eq_mem,decide_eq_false_iff_not]at DN;simp only[Aa]at he;subst he;obtain⟨e1,e2,e3,⟨m,cap,C,ys,kk,kv,N1,N2,p1,p2,p3,p4,p5,p6,p7,p7',p8,p9,p10,p11,p12,p13,p14,p15,p16,p17,p18⟩,e5⟩:=h.eh b _ (Cc hl h.gs);refine Yc h ho r1 r2 e1 e2 e3 AX (by omega) (EA.imp id λhh=>⟨hh,Dp⟩) (.inr Nu) (by rw[Nu];exact BZ) hc (Mj DN.1) DN.2 λkk' kv' NJ=> ?_;rw[E.af c.ρ _ _ cA,p3]at NJ;cases NJ;have BP:=h.rel.gw.nodup b;simp only[GI.own,e5,AG,p14]at BP;exact⟨m,cap,C,ys,N1,N2,p1,p2,p7,p7',p8,p9,p10,p11,p12,p13,BP,λq hq=>by rw[p14];exact hq,p17,by rw[Nu];exact p18⟩
   ·cases he
  ·cases he
 ·cases he
end
section
variable {P:Program} {c:Cx} {n nx:Nat} {sl sl0:Nat->SV} {hp hp0:Nat->Option Ab} {a:Act} {o:Oper} {gs:Gd} {e:AO} {sg:Br} {nv:Nat}
theorem Vf{w:World}{ety sz:Nat}{p:Option Addr}{m r:Nat}{x:AV}{top N:List Nat}(h:Cp w ety sz (.slice p m r) x top N):∃xs,x= .sl xs/\xs.length=m/\m<=r/\0<sz/\(∀y∈xs,y.cells.length=sz)/\
  ((xs=[]/\m=0/\r=0/\top=[]/\N=[])\/ ∃g C,p=some ⟨g,0,none⟩/\r<=maxLen/\w.heap[g]?=some (.cells C ety (0,0))/\C.size=r*sz/\top=[g]/\(∀u∈C.toList.take (m*sz),u.oneCell'=true)/\Rd w (C.toList.take (m*sz)) (Ar xs) N):=by
 obtain⟨xs,rfl,h2,h3,⟨rfl,⟨a,hv⟩,rfl,rfl⟩|⟨g,cap',C,hv,h6,h7,h8,h9,rfl,D8,DF⟩⟩:=h
 ·cases hv;exact⟨[],rfl,rfl,Ax _,h3,by simp, .inl ⟨rfl,rfl,rfl,rfl,rfl⟩⟩
 ·cases hv;exact⟨xs,rfl,rfl,h6,h3,h2, .inr ⟨g,C,rfl,h7,h8,h9,rfl,D8,DF⟩⟩
theorem gO(h:A1 P c n nx sl hp a sl0 hp0 o gs){t:TypeId}{x:Operand}{lo hi mx:Option Operand}(ho:o.op= .slice t x lo hi mx){s:SV}(hs:Bc sl0 gs x=some s){l' h' m':Option SV}(Bd:Ge (Bc sl0 gs) lo=some l')(GP:Ge (Bc sl0 gs) hi=some h')(El:Ge (Bc sl0 gs) mx=some m')(he:RN P hp0 gs t s l' h' m'=some e)(hc:∀q∈e.bu,Cn.den c.ρ q):Ao P o c n nx sl hp gs a e:=by
 have hm:x∈o.op.operands:=by simp[ho,Op.operands]
 have Hp:∀y,lo=some y->y∈o.op.operands:=λy hy=>by simp[ho,Op.operands,hy]
 have Gw:∀y,hi=some y->y∈o.op.operands:=λy hy=>by simp[ho,Op.operands,hy]
 have hx:=h.bz hs hm;have ival:∀{x:E} {kk:IntKind} {k:Int} {v:Value},SR c [.e x] [v]->x.den c.ρ= .int kk k->v= .int kk k:=by
  intro x kk k v hr hx;cases hr with
  |e h1 _ _=>exact(ET h1 hx).1
 have ex:(execOp a.eval o).run P c.w=((Instr.sliceAt t (a.eval x) (lo.map a.eval) (hi.map a.eval) (mx.map a.eval)).run P c.w).andThen λv w=> .ok (.value v) w:=by simp[execOp,ho]
 unfold RN at he;split at he
 ·rename_i el0 b g A2;have hu:=GZ A2;split at he
  ·cases he
  rename_i AX;have AX:CE P el0=true:=by simpa using AX
  have Hq:mx=none:=by
   rcases Fl El with⟨hh,_⟩|⟨_,_,_,_,hh⟩
   ·exact hh
   ·cases hh
  subst Hq;split at he
  ·rename_i el z g' c0 d hl;split at he
   ·cases he
   rename_i An;simp only[not_or,Decidable.not_not,ne_eq]at An;obtain⟨rfl,rfl,rfl⟩:=An;obtain⟨q1,q2,N,q3,q4,q5,q6⟩:=h.eh b _ (Cc hl h.gs);generalize hv:a.eval x=v at hx ex;cases hx with
   |own k1 k2 k3=>
    rename_i p m r;rw[k2]at q3;obtain⟨xs,BS,F3,KK,BK,As,AH⟩:=Vf q3;split at he
    ·rename_i l;simp only[Aa]at he;subst he;obtain⟨ka,ai,kb,bi,mm,d1,d2,d3,d4,d5,d6⟩:Cn.den c.ρ (.win c0 l (.len c0)):=BD hc;have Qf:mm=(m:Int):=by rw[BS]at d3;simp only[AV.len,AV.int.injEq,true_and]at d3;omega
     obtain⟨an,rfl⟩:=Int.eq_ofNat_of_zero_le d4;obtain⟨ol,BH,hol⟩:∃ol,lo=some ol/\Bc sl0 [] ol=some (.e l):=by
      rcases Fl Bd with⟨_,hh⟩|⟨ol,sl',Hi,KC,KD⟩
      ·cases hh
      ·cases KD;exact⟨ol,Hi,KC⟩
     have Hk:hi=none:=by
      rcases Fl GP with⟨hh,_⟩|⟨_,_,_,_,hh⟩
      ·exact hh
      ·cases hh
     subst BH;subst Hk;have KI:=ival (h.bz hol (Hp _ rfl)) d1;have hle:an<=m:=by omega
     have Aw:=OM (P:=P) (w:=c.w) (lo:=(some ol).map a.eval) (hi:=(none:Option Operand).map a.eval) hu AX p m r an m (.inr ⟨ka,by rw[Option.map_some,KI]⟩) (.inl ⟨rfl,rfl⟩) hle (Ax _) KK;have:=SR.wown (c:=c) (lo:=l) (sz:=P.cellsOf el) (q':=if r=an then p else p.map (·.add (an*P.cellsOf el))) (r:=r-an) k1 k2 d1 d4 (by omega) (λAE=>by
      rcases AH with⟨_,CZ,_⟩|⟨g9,C,rfl,_⟩
      ·omega
      ·exact⟨g9,rfl,by rw[if_neg (by omega)];simp[Addr.add_lit],by simp⟩) .nil
     refine Ao.pure h (v:=sliced p an m r (P.cellsOf el)) ?_ (by simpa[sliced]using this) rfl;rw[ex];show Result.andThen (Sem.run P (Instr.sliceAt t (.slice p m r) ((some ol).map a.eval) ((none:Option Operand).map a.eval) none) c.w) _=_;rw[Aw];rfl
    ·rename_i hb;simp only[Aa]at he;subst he;obtain⟨ka,ai,kb,bi,mm,d1,d2,d3,d4,d5,d6⟩:Cn.den c.ρ (.win c0 (.int .i64 0) hb):=BD hc;have Qf:mm=(m:Int):=by rw[BS]at d3;simp only[AV.len,AV.int.injEq,true_and]at d3;omega
     simp only[E.den,AV.int.injEq]at d1;obtain⟨_,rfl⟩:=d1;obtain⟨bn,rfl⟩:=Int.eq_ofNat_of_zero_le d5;obtain⟨oh,Hk,TH⟩:∃oh,hi=some oh/\Bc sl0 [] oh=some (.e hb):=by
      rcases Fl GP with⟨_,hh⟩|⟨ol,sl',Hi,KC,KD⟩
      ·cases hh
      ·cases KD;exact⟨ol,Hi,KC⟩
     have BH:lo=none:=by
      rcases Fl Bd with⟨hh,_⟩|⟨_,_,_,_,hh⟩
      ·exact hh
      ·cases hh
     subst BH;subst Hk;have KI:=ival (h.bz TH (Gw _ rfl)) d2;have hle:bn<=m:=by omega
     have Aw:=OM (P:=P) (w:=c.w) (lo:=(none:Option Operand).map a.eval) (hi:=(some oh).map a.eval) hu AX p m r 0 bn (.inl ⟨rfl,rfl⟩) (.inr ⟨kb,by rw[Option.map_some,KI]⟩) (Nat.zero_le _) hle KK;have Cy:sliced p 0 bn r (P.cellsOf el)= .slice p bn r:=by
      unfold sliced;rcases AH with⟨_,_,rfl,_⟩|⟨g9,C,rfl,_⟩
      ·simp
      ·split<;>simp[Addr.add_lit]
     rw[Cy]at Aw;have Cv:(execOp a.eval o).run P c.w= .ok (.value (.slice p bn r)) c.w:=by rw[ex];show Result.andThen (Sem.run P (Instr.sliceAt t (.slice p m r) ((none:Option Operand).map a.eval) ((some oh).map a.eval) none) c.w) _=_;rw[Aw];rfl
     have AM: ¬c.K b (g+1):=λhk=>by have:=q2 _ hk;omega
     have hrel:=h.rel;have Da:=hrel.ao (gs:=[]) (t:=b) (g:=g+1) (w':=c.w) (row:=(c.G b).top.head?) (top:=(c.G b).top) (O:=if d=true then(c.G b).O else []) (v:= .slice p bn r) (.inr (by omega)) AM ⟨rfl,rfl,rfl,Ax _,λ_ _ _=>rfl⟩ (λg0 D9=> .inl (List.mem_of_mem_head? D9)) (by
       rcases AH with⟨_,_,_,ht,_⟩|⟨g9,C,_,_,_,_,ht,_⟩
       ·exact .inl ht
       ·exact .inr ⟨g9,by rw[ht];rfl,ht⟩) (by split;exact .inr rfl;exact .inl rfl)
      (.row el (P.cellsOf el) (g+1) (.win c0 (.int .i64 0) hb) d) (by intros;simp) (DY _) (λFi=>by
       have K0:(E.win c0 (.int .i64 0) hb).den c.ρ= .sl (xs.take bn):=by simp only[E.den,BS,d2,AV.win];simp
       obtain⟨N',A9,P5⟩:∃N',Cp c.w el (P.cellsOf el) (.slice p bn r) (.sl (xs.take bn)) (c.G b).top N'/\ ∀q∈N',q∈N:=by
        rcases AH with⟨rfl,CZ,rfl,ht,rfl⟩|⟨g9,C,rfl,Ea,LR,hC,ht,h1,CR⟩
        ·have:bn=0:=by omega
         subst this;exact⟨[],⟨[],by simp,by simp,BK, .inl ⟨rfl,⟨p,rfl⟩,ht,rfl⟩⟩,by simp⟩
        ·obtain⟨N',SA,Dd⟩:=CR.piece 0 (bn*P.cellsOf el);have Hm:(xs.take bn).length=bn:=by rw[AU];omega
         have hmul:bn*P.cellsOf el<=m*P.cellsOf el:=Bo _ hle;have ef:=U3 xs As 0 bn (Nat.zero_le _) (by omega);simp only[Nat.zero_mul,Nat.sub_zero,List.drop_zero]at ef Dd;rw[ef,List.take_take,Nat.min_eq_left hmul]at Dd;refine⟨N',⟨xs.take bn,rfl,λy hy=>As y (BA hy),BK, .inr ⟨g9,r,C,by rw[Hm],by rw[Hm];omega,Ea,LR,hC,ht,?_,?_⟩⟩,SA⟩
         ·rw[Hm];intro u hu;refine h1 u ?_;have:C.toList.take (bn*P.cellsOf el)=(C.toList.take (m*P.cellsOf el)).take (bn*P.cellsOf el):=by rw[List.take_take,Nat.min_eq_left hmul]
          rw[this]at hu;exact BA hu
         ·rw[Hm];exact Dd
       refine⟨.inr ⟨rfl,rfl⟩,λg'' KA=> ?_,N',?_,λq hq=>Fi.ok q (A9.j0 q hq) (q4 q (P5 q hq)),λhd=> ?_,λhd=>by simp[Cx.ao,hd]⟩
       ·rcases KA with KA|⟨_,rfl⟩
        ·have:=q2 _ KA;omega
        ·exact Ax _
       ·have e1:(c.ao b (g+1) c.w (.slice p bn r) (c.G b).top (if d=true then(c.G b).O else [])).H b (g+1)= .slice p bn r:=by simp[Cx.ao]
        have e2:((c.ao b (g+1) c.w (.slice p bn r) (c.G b).top (if d=true then(c.G b).O else [])).G b).top=(c.G b).top:=by simp[Cx.ao]
        rw[e1,e2];show Cp c.w el (P.cellsOf el) _ ((E.win c0 (.int .i64 0) hb).den c.ρ) _ N';rw[K0];exact A9
       ·obtain⟨u1,u2⟩:=q5 hd;have u1:N=[]:=u1;subst u1;have Kl:N'=[]:=List.eq_nil_iff_forall_not_mem.2 λq hq=>by simpa using P5 q hq
        subst Kl;exact⟨rfl,by simp only[Cx.ao,if_true,hd];exact u2⟩)
     intro next Q hk
     unfold Oper.wp;rw[Cv,Oper.upon_value];refine hk _ (c.ao b (g+1) c.w (.slice p bn r) (c.G b).top (if d=true then(c.G b).O else [])) ⟨rfl,rfl,rfl,rfl,λu hu=> ?_⟩ (Da.put (SR.mkGd (c:=c.ao b (g+1) c.w (.slice p bn r) (c.G b).top (if d=true then(c.G b).O else [])) (s:= .own b (g+1)) (v:= .slice p bn r) (.own (show _\/_ from .inr ⟨rfl,rfl⟩) (by simp[Cx.ao]) .nil) []) o.dst);rcases hu with hu|rfl
     ·exact .inl hu
     ·exact .inl (h.rel.az _ _ k1)
    ·cases he
  ·cases he
 ·cases he
theorem fN(z:Array Value)(hz:0<z.size)(k:Nat):(Builtin.zeroCells z k).toList=(List.replicate k z.toList).flatten:=by have:=Ra z hz k;rw[<-this];rfl
theorem kR(h:A1 P c n nx sl hp a sl0 hp0 o gs){x:Operand}{tx:TypeId}{cl:Call}(ho:o.op= .call cl)(As:cl.callee= .builtin .clear)(Ck:cl.args.toList=[x])(CY:cl.argTypes.toList=[tx]){s:SV}(hs:Bc sl0 gs x=some s)(he:Vu P hp0 gs tx s=some e)(hc:∀q∈e.bu,Cn.den c.ρ q):Ao P o c n nx sl hp gs a e:=by
 have Ai:cl.args= #[x]:=by apply Array.ext';simp[Ck]
 have EE:cl.argTypes= #[tx]:=by apply Array.ext';simp[CY]
 have hm:x∈o.op.operands:=by simp[ho,Op.operands,Call.operands,As,Ai]
 have hx:=h.bz hs hm;unfold Vu at he;split at he
 ·rename_i el0 b g l z A2;have hu:=GZ A2;split at he
  ·rename_i el z' g' c0 d hl;split at he
   ·cases he
   rename_i An;simp only[not_or,Bn,Bool.not_eq_false,Decidable.not_not,ne_eq]at An;obtain⟨rfl,rfl,rfl,rfl,hz,Ap⟩:=An;have Ap:Ag P el=true\/P.cellsOf el=1:=by simpa using Ap
   obtain⟨i,zv,hi,EC,Du,BK,BM,Ft⟩:=H8 hz;split at he
   ·rename_i q hq;split at he
    ·rename_i w hw;have hq:D5 zv=some q:=by simpa[hi,EC]using hq
     simp only[Aa]at he;subst he;obtain⟨c1,c2⟩:=UF (w:=c.w) (ρ:=c.ρ) hq hw;have AK:=I4 h.hp (Cc hl h.gs);obtain⟨q1,q2,N,q3,q4,q5,q6⟩:=h.rel.ents b _ AK;generalize hv:a.eval x=v at hx;cases hx with
     |wown k1 k2 k3 k4 k5 k6 k7=>
      rename_i p m r q' r' kk kv;rw[k2]at q3;obtain⟨xs,BS,F3,KK,TU,Ku,AH⟩:=Vf q3;have Kv:(E.bin .sub (.len c0) l).den c.ρ≠ .undef:=hc (.dfd (.bin .sub (.len c0) l)) (by simp);have Jz:kk= .i64:=by
       simp only[E.den,BS,AV.len,k3,AV.bin]at Kv;split at Kv
       ·rename_i hh;rcases hh with hh|hh|hh
        ·exact hh.symm
        ·cases hh
        ·cases hh
       ·exact absurd rfl Kv
      subst Jz;have BN:(E.bin .sub (.len c0) l).den c.ρ= .int .i64 ((m:Int)-kv):=by
       simp only[E.den,BS,AV.len,k3,AV.bin,true_or,if_true,D0,F3];congr 1;have cQ:(m:Int)<=9223372036854775807:=by
        rcases AH with⟨_,h0,_⟩|⟨_,_,_,Ea,_⟩
        ·omega
        ·have:maxLen=9223372036854775807:=rfl;omega
       exact(Ln .i64 _).2 ⟨by simp[IntKind.min,IntKind.signed,IntKind.bits];omega,by simp[IntKind.max,IntKind.signed,IntKind.bits];omega⟩
      have AM:(E.app (.win c0 (.int .i64 0) l) (.rep (.bin .sub (.len c0) l) w)).den c.ρ= .sl (xs.take kv.toNat++List.replicate (m-kv.toNat) (w.den c.ρ)):=by
       have e1:(E.win c0 (.int .i64 0) l).den c.ρ= .sl (xs.take kv.toNat):=by simp only[E.den,BS,k3,AV.win];simp
       have e2:(E.rep (.bin .sub (.len c0) l) w).den c.ρ= .sl (List.replicate (m-kv.toNat) (w.den c.ρ)):=by show AV.rep ((E.bin .sub (.len c0) l).den c.ρ) (w.den c.ρ)=_;rw[BN];simp only[AV.rep];congr 2;omega
       show AV.app _ _=_;rw[e1,e2];rfl
      have ex:(execOp a.eval o).run P c.w=((Builtin.clear_ #[tx] o.type #[.slice q' (m-kv.toNat) r']).run P c.w).andThen λv w=> .ok (.value v) w:=by simp[execOp,ho,resolve,As,Ai,EE,invoke,builtin,hv]
      rcases Nat.eq_or_lt_of_le (show kv.toNat<=m by omega)with heq|AE
      ·
       have Bu:m-kv.toNat=0:=by omega
       have Aw:(execOp a.eval o).run P c.w= .ok (.value (.tuple #[])) c.w:=by rw[ex,Bu];cases q'<;>simp[Builtin.clear_,run_underlying hu]
       have AP:(E.app (.win c0 (.int .i64 0) l) (.rep (.bin .sub (.len c0) l) w)).den c.ρ=c0.den c.ρ:=by rw[AM,BS,Bu];simp[List.take_of_length_le (show xs.length<=kv.toNat by omega)]
       intro next Q hk
       unfold Oper.wp;rw[Aw,Oper.upon_value];have Da:Rel c n sl (AT hp [(b, .row el (P.cellsOf el) g (.app (.win c0 (.int .i64 0) l) (.rep (.bin .sub (.len c0) l) w)) d)]) a:=by
        have Df:∀u,AT hp [(b, .row el (P.cellsOf el) g (.app (.win c0 (.int .i64 0) l) (.rep (.bin .sub (.len c0) l) w)) d)] u=if u=b then some (.row el (P.cellsOf el) g (.app (.win c0 (.int .i64 0) l) (.rep (.bin .sub (.len c0) l) w)) d)else hp u:=λu=>rfl;refine h.rel.change (λu=>u=b) (C6.refl c) h.rel.base (λu hu=>⟨by rw[Df,if_neg hu],rfl,rfl,λ_ hk=>hk⟩) (λ_ _ _ _=>rfl) (λu hu=> ?_) h.rel.gw h.rel.az (λu f hf=> ?_)
        ·subst hu;rw[Df,if_pos rfl];refine⟨λe' hr=> ?_,λhn=>absurd rfl (hn _)⟩;simp only[B9]at hr;subst hr;exact⟨q1,q2,N,by rw[AP,k2];exact q3,q4,q5,q6⟩
        ·rw[Df]at hf;split at hf
         ·rename_i hu;subst hu;exact h.rel.az _ _ k1
         ·exact h.rel.bw u f hf
       exact hk _ c (Kc.refl _ _) (Da.put ((SR.undef .nil).mkGd []) o.dst)
      ·obtain⟨b9,W7,rfl,rfl⟩:=k6 (by omega);rcases AH with⟨_,h0,_⟩|⟨g9,C,hp',Ea,LR,hC,ht,h1,CR⟩
       ·omega
       rw[W7]at hp';cases hp';have CX:C.toList.length=r*P.cellsOf el:=by simpa using hC
       have W4:m*P.cellsOf el<=r*P.cellsOf el:=Bo _ KK;have W3:(m-kv.toNat)*P.cellsOf el+kv.toNat*P.cellsOf el=m*P.cellsOf el:=by rw[<-Nat.add_mul];congr 1;omega
       have T5:=fN zv.cells (by omega) (m-kv.toNat);generalize hZ:(List.replicate (m-kv.toNat) zv.cells.toList).flatten=Z at T5;have Kp:Z.length=(m-kv.toNat)*P.cellsOf el:=by rw[<-hZ,List.length_flatten];simp only[List.map_replicate,List.sum_replicate_nat,BF,Du,BM]
       have WO:∀u∈Z,u.oneCell'=true:=λu hu=>by rw[<-hZ]at hu;obtain⟨L,hL,hu⟩:=List.mem_flatten.1 hu;rw[List.eq_of_mem_replicate hL]at hu;exact c2 u hu
       have KS:=UM (P:=P) (off:=kv.toNat*P.cellsOf el) Z 0 c.w C LR (by rw[Kp,hC];omega) WO;have Aw:(execOp a.eval o).run P c.w= .ok (.value (.tuple #[])) (putCells c.w b9 (kv.toNat*P.cellsOf el) Z):=by
        rw[ex];obtain⟨mm,Qf⟩:∃mm,m-kv.toNat=mm+1:=⟨m-kv.toNat-1,by omega⟩
        have dX:(zeroValue el).run P c.w= .ok zv c.w:=by simp[zeroValue,typeInfo,hi,EC]
        simp only[Nat.add_zero]at KS;rw[Qf]at T5 ⊢;simp[Builtin.clear_,run_underlying hu,dX,T5,KS]
       obtain⟨m1,m2,m3⟩:=Q9 (off:=kv.toNat*P.cellsOf el) (vs:=Z) LR (by rw[Kp,hC];omega);have KH:(C.toList.take (m*P.cellsOf el)).length=m*P.cellsOf el:=by rw[AU,CX];omega
       have JR:b9∈(c.G b).top:=by rw[ht];simp
       have Nk:Rd c.w Z (Ar (List.replicate (m-kv.toNat) (w.den c.ρ))) []:=by rw[<-hZ];exact V0 c1 _
       obtain⟨n1,n2,n3,hN,s1,s2⟩:=Rd.setVs (p:=kv.toNat*P.cellsOf el) CR Nk (by rw[KH,Kp];omega);have dR:(w.den c.ρ).cells.length=P.cellsOf el:=by have:=c1.len;rw[<-this];simp[Du,BM]
       have bM:(Ar (List.replicate (m-kv.toNat) (w.den c.ρ))).length=Z.length:=by rw[<-Nk.len]
       have Ej:setVs (Ar xs) (kv.toNat*P.cellsOf el) (Ar (List.replicate (m-kv.toNat) (w.den c.ρ)))=Ar (xs.take kv.toNat++List.replicate (m-kv.toNat) (w.den c.ρ)):=by
        have ef:=U3 xs Ku 0 kv.toNat (Nat.zero_le _) (by omega)
        simp only[Nat.zero_mul,Nat.sub_zero,List.drop_zero]at ef;unfold setVs;rw[ef,OV,bM,Kp,List.drop_eq_nil_of_le (by rw[Lg _ Ku,F3];omega),AG]
       rw[Ej]at s1;have Cm:∀q∈n1++ []++n3,q∈N:=λq hq=>by rw[hN];simp at hq ⊢;rcases hq with hq|hq<;>simp[hq]
       have ED:∀q,q<c.w.heap.size->c.ok q->(putCells c.w b9 (kv.toNat*P.cellsOf el) Z).heap[q]?=c.w.heap[q]?:=by intro q hq AF;refine m1.block q hq ?_;simp only[List.mem_singleton];rintro rfl;exact AF.1 ⟨b,JR⟩
       have Db:(xs.take kv.toNat++List.replicate (m-kv.toNat) (w.den c.ρ)).length=m:=by rw[AZ,AU,List.length_replicate];omega
       have Da:=h.rel.gn (t:=b) (b:=b9) (w':=putCells c.w b9 (kv.toNat*P.cellsOf el) Z) (O:=if d=true then(c.G b).O else []) AK JR (by split;exact .inr rfl;exact .inl rfl) m1 m3
        (.row el (P.cellsOf el) g (.app (.win c0 (.int .i64 0) l) (.rep (.bin .sub (.len c0) l) w)) d) (by intros;simp) (λFi=>by
         refine⟨q1,q2,n1++ []++n3,?_,λq hq=>Fi.ok q (CR.inb q (Cm q hq)) (q4 q (Cm q hq)),λhd=> ?_,λhd=>by simp[Cx.dt,hd]⟩
         ·show Cp (putCells c.w b9 (kv.toNat*P.cellsOf el) Z) el (P.cellsOf el) (c.H b g) ((E.app (.win c0 (.int .i64 0) l) (.rep (.bin .sub (.len c0) l) w)).den c.ρ) _ _;rw[AM,k2,W7];refine⟨_,rfl,λy hy=> ?_,TU, .inr ⟨b9,r,_,by rw[Db],by rw[Db];exact KK,Ea,m2,?_,by simpa[Cx.dt]using ht,?_,?_⟩⟩
          ·rcases Ae.1 hy with hy|hy
           ·exact Ku y (BA hy)
           ·rw[List.eq_of_mem_replicate hy];exact dR
          ·rw[List.size_toArray,Mh _ _ _ (by rw[Kp,CX];omega),BF];exact hC
          ·simp only[Db,List.toList_toArray];rw[Mf _ _ _ _ (by rw[Kp];omega) (by rw[CX];omega)];intro u hu;unfold setVs at hu;simp only[Ae]at hu;rcases hu with(hu|hu)|hu
           ·exact h1 u (BA hu)
           ·exact WO u hu
           ·exact h1 u (B2 hu)
          ·simp only[Db,List.toList_toArray];rw[Mf _ _ _ _ (by rw[Kp];omega) (by rw[CX];omega)];exact s1.frame λq hq=>ED q (CR.inb q (Cm q hq)) (q4 q (Cm q hq))
         ·obtain⟨u1,u2⟩:=q5 hd;have u1:N=[]:=u1;subst u1;have Kl:n1++ []++n3=[]:=List.eq_nil_iff_forall_not_mem.2 λq hq=>by simpa using Cm q hq
          rw[Kl];exact⟨rfl,by simp only[Cx.dt,if_true,hd];exact u2⟩)
       intro next Q hk
       unfold Oper.wp;rw[Aw,Oper.upon_value];exact hk _ (c.dt _ b _) ⟨rfl,rfl,rfl,rfl,λt ht=> .inl ht⟩ (Da.put ((SR.undef .nil).mkGd []) o.dst)
    ·cases he
   ·cases he
  ·cases he
 ·cases he
end
section
variable {P:Program} {c:Cx} {n nx:Nat} {sl sl0:Nat->SV} {hp hp0:Nat->Option Ab} {a:Act} {o:Oper} {gs:Gd} {e:AO} {sg:Br} {nv:Nat}
theorem lM(l:List DT){n i:Nat}(hi:i<=n):BX n l=BX i l++BX (n-i) l:=by rw[<-VB];congr 1;omega
theorem kQ{K:Nat}{xs:List AV}(h:∀y∈xs,y.cells.length=K){i:Nat}(hi:i<=xs.length):Ar (xs.take i)=(Ar xs).take (i*K)/\Ar (xs.drop i)=(Ar xs).drop (i*K):=by
 have l1:(Ar (xs.take i)).length=i*K:=by rw[Lg _ λy hy=>h y (BA hy),AU,Nat.min_eq_left hi]
 have e:Ar xs=Ar (xs.take i)++Ar (xs.drop i):=by rw[<-OV,BB]
 rw[e,<-l1,List.take_left,List.drop_left];exact⟨rfl,rfl⟩
theorem DC.k8{w:World}{xs:List AV}{l:List DT}{K:Nat}{cs:List Value}{N:List Nat}(hK:l.length=K)(h:DC w (BX xs.length l) cs (Ar xs) N)(hx:∀y∈xs,y.cells.length=K){i:Nat}(hi:i<=xs.length):
  ∃N1 N2,N=N1++N2/\DC w (BX i l) (cs.take (i*K)) (Ar (xs.take i)) N1/\DC w (BX (xs.length-i) l) (cs.drop (i*K)) (Ar (xs.drop i)) N2:=by
 have hlen:=h.len;have t1:=kQ hx hi;have hmul:=Bo K hi;rw[lM l hi,<-BB (i*K) cs,<-BB (i*K) (Ar xs)]at h;rw[RU,hK]at hlen;obtain⟨N1,N2,rfl,h1,h2⟩:=DC.cy (by rw[RU,hK,AU];omega) (by rw[RU,hK,AU];omega) h;exact⟨N1,N2,rfl,by rw[t1.1];exact h1,by rw[t1.2];exact h2⟩
theorem iM(h:A1 P c n nx sl hp a sl0 hp0 o gs){t:TypeId}{x:Operand}{lo hi mx:Option Operand}(ho:o.op= .slice t x lo hi mx){s:SV}(hs:Bc sl0 gs x=some s){l' h' m':Option SV}(Bd:Ge (Bc sl0 gs) lo=some l')(GP:Ge (Bc sl0 gs) hi=some h')(El:Ge (Bc sl0 gs) mx=some m')(he:R1 P hp0 gs nx t s l' h' m'=some e)(hc:∀q∈e.bu,Cn.den c.ρ q):Ao P o c n nx sl hp gs a e:=by
 have hm:x∈o.op.operands:=by simp[ho,Op.operands]
 have Hp:∀y,lo=some y->y∈o.op.operands:=λy hy=>by simp[ho,Op.operands,hy]
 have Gw:∀y,hi=some y->y∈o.op.operands:=λy hy=>by simp[ho,Op.operands,hy]
 have hx:=h.bz hs hm;have ival:∀{x:E} {kk:IntKind} {k:Int} {v:Value},SR c [.e x] [v]->x.den c.ρ= .int kk k->v= .int kk k:=by
  intro x kk k v hr hx;cases hr with
  |e h1 _ _=>exact(ET h1 hx).1
 have ex:(execOp a.eval o).run P c.w=((Instr.sliceAt t (a.eval x) (lo.map a.eval) (hi.map a.eval) (mx.map a.eval)).run P c.w).andThen λv w=> .ok (.value v) w:=by simp[execOp,ho]
 unfold R1 at he;split at he
 ·rename_i el0 b g A2;have hu:=GZ A2;split at he
  ·cases he
  rename_i AX;have AX:CE P el0=true:=by simpa using AX
  have Hq:mx=none:=by
   rcases Fl El with⟨hh,_⟩|⟨_,_,_,_,hh⟩
   ·exact hh
   ·cases hh
  subst Hq;split at he
  ·rename_i el z dl g' ep c0 hl;split at he
   ·cases he
   rename_i An;simp only[not_or,Decidable.not_not,ne_eq]at An;obtain⟨rfl,rfl,rfl⟩:=An;obtain⟨q1,q2,_,q4,_⟩:=h.eh b _ (Cc hl h.gs);generalize hv:a.eval x=v at hx ex;cases hx with
   |own k1 k2 k3=>
    rename_i p m r;rw[k2]at q4;obtain⟨_,q3,_⟩:=q4.ownRow;obtain⟨xs,BS,F3,KK,BK,As,AH⟩:=Vf q3;split at he
    ·rename_i l;simp only[Aa]at he;subst he;obtain⟨ka,ai,kb,bi,mm,d1,d2,d3,d4,d5,d6⟩:Cn.den c.ρ (.win c0 l (.len c0)):=BD hc;have Qf:mm=(m:Int):=by rw[BS]at d3;simp only[AV.len,AV.int.injEq,true_and]at d3;omega
     obtain⟨an,rfl⟩:=Int.eq_ofNat_of_zero_le d4;obtain⟨ol,BH,hol⟩:∃ol,lo=some ol/\Bc sl0 [] ol=some (.e l):=by
      rcases Fl Bd with⟨_,hh⟩|⟨ol,sl',Hi,KC,KD⟩
      ·cases hh
      ·cases KD;exact⟨ol,Hi,KC⟩
     have Hk:hi=none:=by
      rcases Fl GP with⟨hh,_⟩|⟨_,_,_,_,hh⟩
      ·exact hh
      ·cases hh
     subst BH;subst Hk;have KI:=ival (h.bz hol (Hp _ rfl)) d1;have hle:an<=m:=by omega
     have Aw:=OM (P:=P) (w:=c.w) (lo:=(some ol).map a.eval) (hi:=(none:Option Operand).map a.eval) hu AX p m r an m (.inr ⟨ka,by rw[Option.map_some,KI]⟩) (.inl ⟨rfl,rfl⟩) hle (Ax _) KK;have:=SR.wown (c:=c) (lo:=l) (sz:=P.cellsOf el) (q':=if r=an then p else p.map (·.add (an*P.cellsOf el))) (r:=r-an) k1 k2 d1 d4 (by omega) (λAE=>by
      rcases AH with⟨_,CZ,_⟩|⟨g9,C,rfl,_⟩
      ·omega
      ·exact⟨g9,rfl,by rw[if_neg (by omega)];simp[Addr.add_lit],by simp⟩) .nil
     refine Ao.pure h (v:=sliced p an m r (P.cellsOf el)) ?_ (by simpa[sliced]using this) rfl;rw[ex];show Result.andThen (Sem.run P (Instr.sliceAt t (.slice p m r) ((some ol).map a.eval) ((none:Option Operand).map a.eval) none) c.w) _=_;rw[Aw];rfl
    ·cases he
  ·rename_i el z dl g' ep c0 kE hl;split at he
   ·cases he
   rename_i An;simp only[not_or,Decidable.not_not,ne_eq]at An;obtain⟨rfl,rfl,rfl⟩:=An;obtain⟨q1,q2,_,⟨p',cap',ys,kk,kv,e1,e2,e3,e4,e5,e6⟩,_⟩:=h.eh b _ (Cc hl h.gs);generalize hv:a.eval x=v at hx ex;cases hx with
   |own k1 k2 k3=>
    rename_i p m r;rw[k2]at e1;simp only[Value.slice.injEq]at e1;obtain⟨rfl,rfl,rfl⟩:=e1;split at he
    ·rename_i hb;split at he
     ·rename_i SO;rw[<-E.af c.ρ _ _ SO]at e3;simp only[Aa]at he;subst he;obtain⟨oh,Hk,TH⟩:∃oh,hi=some oh/\Bc sl0 [] oh=some (.e hb):=by
       rcases Fl GP with⟨_,hh⟩|⟨ol,sl',Hi,KC,KD⟩
       ·cases hh
       ·cases KD;exact⟨ol,Hi,KC⟩
      have BH:lo=none:=by
       rcases Fl Bd with⟨hh,_⟩|⟨_,_,_,_,hh⟩
       ·exact hh
       ·cases hh
      subst BH;subst Hk;have KI:=ival (h.bz TH (Gw _ rfl)) e3;have Aw:=OM (P:=P) (w:=c.w) (lo:=(none:Option Operand).map a.eval) (hi:=(some oh).map a.eval) hu AX p ys.length r 0 kv (.inl ⟨rfl,rfl⟩) (.inr ⟨kk,by rw[Option.map_some,KI]⟩) (Nat.zero_le _) e4 e5;have Cy:sliced p 0 kv r (P.cellsOf el)= .slice p kv r:=by
       obtain⟨_,_,⟨a9,h9,_⟩|⟨g9,cap,C,zs,N1,h9,_⟩⟩:=e6.inv
       ·simp only[Value.slice.injEq]at h9;obtain⟨rfl,_,rfl⟩:=h9;simp[sliced]
       ·simp only[Value.slice.injEq]at h9;obtain⟨rfl,_,_⟩:=h9;unfold sliced;split<;>simp[Addr.add_lit]
      rw[Cy]at Aw;have Cv:(execOp a.eval o).run P c.w= .ok (.value (.slice p kv r)) c.w:=by rw[ex];show Result.andThen (Sem.run P (Instr.sliceAt t (.slice p ys.length r) ((none:Option Operand).map a.eval) ((some oh).map a.eval) none) c.w) _=_;rw[Aw];rfl
      have K0:(E.win c0 (.int .i64 0) hb).den c.ρ= .sl (ys.take kv):=by simp only[E.den,e2,e3,AV.win];simp
      have BU:BR c [b]=(c.G b).top:=by simp[BR]
      have BP:=h.rel.gw.nodup b;simp only[GI.own]at BP;exact Ao.dj h (T:=[b]) (by simp) (by simpa using⟨_,q1⟩) Cv (Mod.refl _ _) (top:=(c.G b).top) (List.nodup_append.1 BP).1 (λq hq=>⟨.inl (by rw[BU];exact hq),h.rel.gw.inb b q (by simp[GI.own,hq])⟩) (by rw[K0];exact e6)
     ·cases he
    ·cases he
  ·cases he
 ·cases he
theorem jI{x y:Operand}{tx:TypeId}{cl:Call}(ho:o.op= .call cl)(As:cl.callee= .builtin .append)(Ck:cl.args.toList=[x,y])(CY:cl.argTypes.toList=[tx,tx])
  {el:TypeId} (A2:P.underlying tx=some (.slice el)) (hz:FL P el=true) {l:List DT} (hl:l.length=P.cellsOf el) {TT:List Nat} (P6:TT.Nodup) (Iu:∀b∈TT,b<c.w.heap.size) {N2:List Nat} (Kn:N2.Nodup) (G9:∀b∈N2,b<c.w.heap.size) (Nh:∀b∈N2,b∉TT)
  {ys:List AV} {q:Option Addr} {r:Nat} {news:List Value} (CK:a.eval y= .slice q ys.length r) (Eb:Src c.w (P.cellsOf el) q ys.length news) (Kx:DC c.w (BX ys.length l) news (Ar ys) N2) (GU:∀y∈ys,y.cells.length=P.cellsOf el) (KL:∀u∈news,u.oneCell'=true)
  {X:AV} {v:Value} (hv:a.eval x=v) (CB:DC c.w [.row el (P.cellsOf el) (Av.of l)] [v] [X] TT) {xs:List AV} (hX:X= .sl xs) (JG:((xs.length:Int)+ys.length)*P.bytesOf el<=140737488355328) (Qm:(xs.length:Int)+ys.length<=140737488355328):
  ∃v' w' top,(execOp a.eval o).run P c.w= .ok (.value v') w'/\Mod TT c.w w'/\top.Nodup/\(∀b∈top,(b∈TT\/b∈N2\/c.w.heap.size<=b)/\b<w'.heap.size)/\DC w' [.row el (P.cellsOf el) (Av.of l)] [v'] [.sl (xs++ys)] top:=by
 have Ai:cl.args= #[x,y]:=by apply Array.ext';simp[Ck]
 have EE:cl.argTypes= #[tx,tx]:=by apply Array.ext';simp[CY]
 obtain⟨i,z,hi,EC,Du,BK,BM,Ft⟩:=H8 hz;obtain⟨d1,d2,AH⟩:=CB.inv;rw[Av.aj]at d2 AH;subst hX;obtain⟨old,N1,hold,Eo,S3,Fk,Cf,HV,Km⟩:∃(old:List Value) (N1:List Nat),old.length=xs.length*i.size/\((xs.length=0/\ ∃q,v= .slice q 0 0)\/ ∃g cap C,v= .slice (some ⟨g,0,none⟩) xs.length cap/\xs.length<=cap/\cap<=maxLen/\c.w.heap[g]?=some (.cells C el (0,0))/\C.size=cap*i.size/\old=C.toList.take (xs.length*i.size)/\(g∈TT/\g∉N1))/\
   DC c.w (BX xs.length l) old (Ar xs) N1/\(∀y∈xs,y.cells.length=P.cellsOf el)/\(∀u∈old,u.oneCell'=true)/\(∀b∈N1,b∈TT)/\N1.Nodup:=by
  rcases AH with⟨p,rfl,Et,rfl⟩|⟨g9,cap,C,xs',N1,rfl,Et,rfl,h6,h7,h8,h9,D8,DF,M9⟩
  ·cases Et;exact⟨[],[],by simp, .inl ⟨rfl,p,rfl⟩,by simpa[BX,Ar]using DC.nil,by simp,by simp,by simp,by simp⟩
  ·cases Et;rw[List.nodup_cons]at P6;refine⟨_,N1,?_, .inr ⟨g9,cap,C,rfl,h7,h8,h6,by rw[<-BM];exact h9,rfl,by simp,P6.1⟩,by rw[<-BM];exact M9,D8,by rw[<-BM];exact DF,λb hb=>by simp[hb],P6.2⟩;have e9:C.toList.length=cap*i.size:=by rw[<-BM,<-h9];simp
   rw[AU,e9];exact Nat.min_eq_left (Bo _ h7)
 have Hc:(xs.length+ys.length)*i.bytes<=140737488355328:=by
  rw[Ft]at JG;have h9:(((xs.length+ys.length)*i.bytes:Nat):Int)<=140737488355328:=by rw[Int.natCast_mul,Int.natCast_add];exact JG
  omega
 have FW:xs.length+ys.length<=140737488355328:=by omega
 rw[BM]at Eb;obtain⟨v',w',Aw,AK⟩:=VO (P:=P) c.w tx o.type el i z A2 hi EC Du BK (λg9=>g9∈TT/\g9∉N1) v xs.length old hold Eo q ys.length r news Eb (by simp only[maxLen];omega) Hc;have Cv:(execOp a.eval o).run P c.w= .ok (.value v') w':=by simp[execOp,ho,resolve,As,Ai,EE,invoke,builtin,hv,CK,Aw]
 rcases AK with⟨rfl,rfl,CZ⟩|⟨g9,cap,C,rfl,h1,h2,h3,h4,h5,h6,h7⟩
 ·have F4:ys=[]:=List.eq_nil_of_length_eq_zero CZ;subst F4;refine⟨_,_,TT,Cv,Mod.refl _ _,P6,λb hb=>⟨.inl hb,Iu b hb⟩,?_⟩;rw[AG];exact CB
 ·have Gs:(g9∈TT\/c.w.heap.size<=g9)/\g9∉N1/\g9∉N2:=by
   rcases h7 with⟨rfl,_⟩|⟨hg,BW⟩
   ·refine⟨.inr (Ax _),λhh=> ?_,λhh=> ?_⟩
    ·have:=Iu _ (HV _ hh);omega
    ·have:=G9 _ hh;omega
   ·exact⟨.inl hg,BW,λhh=>Nh _ hh hg⟩
  have AP:∀b∈N1++N2,w'.heap[b]?=c.w.heap[b]?:=λb hb=>by
   have AE:b<c.w.heap.size:=by
    rcases Ae.1 hb with hb|hb
    ·exact Iu b (HV b hb)
    ·exact G9 b hb
   refine h6.block b AE λhh=> ?_;cases hh;rcases Ae.1 hb with hb|hb
   ·exact Gs.2.1 hb
   ·exact Gs.2.2 hb
  refine⟨_,w',g9::(N1++N2),Cv,Vi h6 λg hg=> ?_,?_,λb hb=> ?_,?_⟩
  ·cases hg;exact Gs.1
  ·refine List.nodup_cons.2 ⟨λhh=> ?_,List.nodup_append.2 ⟨Km,Kn,λp hp q hq e=>Nh q hq (e▸HV p hp)⟩⟩;rcases Ae.1 hh with hh|hh
   ·exact Gs.2.1 hh
   ·exact Gs.2.2 hh
  ·rcases Ac.1 hb with rfl|hb
   ·exact⟨Gs.1.elim .inl λh=> .inr (.inr h),EI h3⟩
   ·rcases Ae.1 hb with hb|hb
    ·exact⟨.inl (HV b hb),Nat.lt_of_lt_of_le (Iu b (HV b hb)) h6.size⟩
    ·exact⟨.inr (.inl hb),Nat.lt_of_lt_of_le (G9 b hb) h6.size⟩
  ·have hlen:(xs++ys).length=xs.length+ys.length:=AZ;rw[BM]at d1 d2 Fk GU ⊢;have:=DC.row (w:=w') (e:=el) (z:=i.size) (l:=Av.of l) (g:=g9) (cap:=cap) (C:=C) (ys:=xs++ys) (N1:=N1++N2) (ts:=[]) (vs:=[]) (xs:=[]) (N:=[]) d1 (by rw[Av.aj];exact d2) h3 (by rw[hlen];exact h1) h2 h4 (λw hw=> ?_) (by
     rw[hlen,h5];intro u hu;rcases Ae.1 hu with hu|hu
     ·exact Cf u hu
     ·exact KL u hu) (by
     rw[hlen,h5,OV,VB,Av.aj];exact(S3.app Kx).frame AP) .nil
   ·rw[hlen]at this;simpa using this
   ·rcases Ae.1 hw with hw|hw
    ·exact Fk w hw
    ·exact GU w hw
theorem gM(h:A1 P c n nx sl hp a sl0 hp0 o gs){x y:Operand}{tx ty:TypeId}{cl:Call}(ho:o.op= .call cl)(As:cl.callee= .builtin .append)(Ck:cl.args.toList=[x,y])(CY:cl.argTypes.toList=[tx,ty])
  {s1 s2:SV} (Bj:Bc sl0 gs x=some s1) (AN:Bc sl0 gs y=some s2) (he:RQ P hp0 gs nx tx ty s1 s2=some e) (hc:∀q∈e.bu,Cn.den c.ρ q):Ao P o c n nx sl hp gs a e:=by
 have Ai:cl.args= #[x,y]:=by apply Array.ext';simp[Ck]
 have Dc:x∈o.op.operands:=by simp[ho,Op.operands,Call.operands,As,Ai]
 have CQ:y∈o.op.operands:=by simp[ho,Op.operands,Call.operands,As,Ai]
 unfold RQ at he;split at he
 ·cases he
 rename_i Hy;have Hy:tx=ty:=by simpa using Hy
 subst Hy;split at he
 ·rename_i el e' z dl t g2 b g lo z' A2 CP;have Hf:=GZ A2;split at he
  ·cases he
  rename_i An;simp only[not_or,Bn,Bool.not_eq_false,ne_eq,Decidable.not_not]at An;obtain⟨hz,rfl,rfl,rfl,Qo⟩:=An;obtain⟨_,_,l,Hn,Db⟩:=Pf A2 CP;simp only[DT.row.injEq,true_and]at Hn;subst Hn;rw[Av.aj]at he;have r1:=h.bz Bj Dc;have r2:=h.bz AN CQ;split at he
  ·rename_i e2 z2 l2 g2' ep2 c2 e3 z3 l3 g3 ep c0 AE cL;split at he
   ·rename_i hh;obtain⟨rfl,rfl,FW,rfl,rfl,rfl,Nl,rfl⟩:=hh;have FW:=Av.dm FW;have Nl:=Av.dm Nl;subst FW;subst Nl;simp only[Aa]at he;subst he;obtain⟨qt1,qt2,qt3,qt4,qt5⟩:=h.eh t _ (Cc AE h.gs);obtain⟨qb1,qb2,qb3,qb4,qb5⟩:=h.eh b _ (Cc cL h.gs);obtain⟨ka,ai,kb,bi,mm,d1,d2,d3,d4,d5,d6⟩:Cn.den c.ρ (.win c0 lo (.len c0)):=hc _ (by simp);obtain⟨m1,m2,rr1,rr2,rr3,rr4⟩:Cn.den c.ρ (.room c2 (.win c0 lo (.len c0)) (P.bytesOf e3)):=hc _ (by simp);generalize dO:a.eval x=v at r1;generalize dP:a.eval y=v2 at r2;cases r1 with
    |own k1 k2 k3=>
     cases r2 with
     | @wown _ _ _ _ qq nn cap qq' r kk kI _ _ j1 j2 j3 j4 j5 j6 j7=>
      have dJ:(c.G t).top.Nodup:=by have:=h.rel.gw.nodup t;simp only[GI.own]at this;exact(List.nodup_append.1 this).1
      have SN:(c.G b).top.Nodup:=by have:=h.rel.gw.nodup b;simp only[GI.own]at this;exact(List.nodup_append.1 this).1
      have TV:∀q∈(c.G t).top,q<c.w.heap.size:=λq hq=>h.rel.gw.inb t q (by simp[GI.own,hq]);have Iz:∀q∈(c.G b).top,q<c.w.heap.size:=λq hq=>h.rel.gw.inb b q (by simp[GI.own,hq]);have LQ:∀q∈(c.G b).top,q∉(c.G t).top:=λq hq IJ=>h.rel.gw.bm b t (λe=>Qo e.symm) q (by simp[GI.own,hq]) (by simp[GI.own,IJ]);obtain⟨z1,z2',AH⟩:=qb4.inv;rw[Av.aj]at z2' AH;obtain⟨an,rfl⟩:=Int.eq_ofNat_of_zero_le j4;obtain⟨ys,news,NB,CC,sA,Eb,Kx,GU,KL,SB,topb,Es,Ko,TM⟩:∃(ys:List AV) (news:List Value) (NB:List Nat),(E.win c0 lo (.len c0)).den c.ρ= .sl ys/\ys.length=nn-an/\Src c.w (P.cellsOf e3) qq' ys.length news/\DC c.w (BX ys.length l3) news (Ar ys) NB/\(∀y∈ys,y.cells.length=P.cellsOf e3)/\(∀u∈news,u.oneCell'=true)/\(∀q∈NB,q∈(c.G b).top)/\
        ∃topb:List Nat,(∀q∈topb,q∈(c.G b).top)/\(topb++NB).Nodup/\ ∀w':World,(∀q∈topb,w'.heap[q]?=c.w.heap[q]?)-> ∃(p:Option Addr) (cp:Nat) (zs:List AV),c.H b g= .slice p zs.length cp/\c0.den c.ρ= .sl zs/\an<=zs.length/\zs.length<=cp/\DC w' [.row e3 (P.cellsOf e3) (Av.of l3)] [.slice p an cp] [.sl (zs.take an)] topb:=by
       rcases AH with⟨a9,hH,Et,JN⟩|⟨g9,cp,C,zs,N1,hH,Et,JN,h6,h7,h8,h9,D8,DF,M9⟩
       ·rw[j2]at hH;simp only[Value.slice.injEq]at hH;obtain⟨rfl,rfl,rfl⟩:=hH;have bN:an=0:=by omega
        subst bN;have JQ:(E.win c0 lo (.len c0)).den c.ρ= .sl []:=by simp only[E.den,Et,j3,AV.win,AV.len];simp
        refine⟨[],[],[],JQ,by simp,?_,by simpa[BX,Ar]using DC.nil,by simp,by simp,by simp,[],by simp,by simp,λw' _=>⟨qq,0,[],by rw[j2];rfl,Et,by simp,by simp, .void z1 (by rw[Av.aj];exact z2') .nil⟩⟩;cases qq' with
        |none=>exact .inl ⟨rfl,rfl,rfl⟩
        |some ad=>exact .inr ⟨ad,rfl,by simp,by simp,by simp⟩
       ·rw[j2]at hH;simp only[Value.slice.injEq]at hH;obtain⟨rfl,rfl,rfl⟩:=hH;have hle:an<=zs.length:=by omega
        obtain⟨NA,NB,hN,c1,c2'⟩:=M9.k8 z2' D8 hle;have hmul:=Bo (P.cellsOf e3) hle;have DM:=Bo (P.cellsOf e3) h7;have CX:C.toList.length=cap*P.cellsOf e3:=by simpa using h9
        have JQ:(E.win c0 lo (.len c0)).den c.ρ= .sl (zs.drop an):=by simp only[E.den,Et,j3,AV.win,AV.len];simp
        have Kw:(zs.drop an).length=zs.length-an:=Dv;rw[JN]at SN;rw[hN]at SN;refine⟨zs.drop an,(C.toList.take (zs.length*P.cellsOf e3)).drop (an*P.cellsOf e3),NB,JQ,Kw,?_,by rw[Kw];exact c2',λy hy=>D8 y (B2 hy),λu hu=>DF u (B2 hu),λq hq=>by rw[JN,hN];simp[hq],g9::NA,λq hq=>by rw[JN,hN];rcases Ac.1 hq with rfl|hq<;>simp_all,by simpa using SN,λw' Xe=>⟨some ⟨g9,0,none⟩,cap,zs,by rw[j2],Et,hle,h7,?_⟩⟩
        ·rw[Kw];by_cases AE:an<zs.length
         ·obtain⟨b9,LR,IJ,_⟩:=j6 (by omega);cases LR;subst IJ;refine .inr ⟨_,rfl,?_,λj u hj=> ?_,λu hu=>DF u (B2 hu)⟩
          ·rw[Dv,AU,CX,Nat.min_eq_left DM,Nat.sub_mul]
          ·rw[Addr.add_lit,DZ h6];rw[List.getElem?_drop,List.getElem?_take]at hj;split at hj
           ·rw[Array.getElem?_toList]at hj;simpa using hj
           ·cases hj
         ·have:zs.length-an=0:=by omega
          rw[this];have e0:(C.toList.take (zs.length*P.cellsOf e3)).drop (an*P.cellsOf e3)=[]:=by
           apply List.drop_eq_nil_of_le;rw[AU];have:zs.length=an:=by omega
           rw[this];omega
          rw[e0];cases qq' with
          |none=>exact .inl ⟨rfl,rfl,rfl⟩
          |some ad=>exact .inr ⟨ad,rfl,by simp,by simp,by simp⟩
        ·have Hm:(zs.take an).length=an:=by rw[AU];omega
         have e5:C.toList.take (an*P.cellsOf e3)=(C.toList.take (zs.length*P.cellsOf e3)).take (an*P.cellsOf e3):=by rw[List.take_take,Nat.min_eq_left hmul]
         have:=DC.row (w:=w') (e:=e3) (z:=P.cellsOf e3) (l:=Av.of l3) (g:=g9) (cap:=cap) (C:=C) (ys:=zs.take an) (N1:=NA) (ts:=[]) (vs:=[]) (xs:=[]) (N:=[]) z1 (by rw[Av.aj];exact z2') (by rw[Xe g9 (by simp)];exact h6) (by rw[Hm];omega) h8 h9 (λy hy=>D8 y (BA hy)) (by
           rw[Hm,e5];intro u hu;exact DF u (BA hu)) (by
           rw[Hm,e5,Av.aj];exact c1.frame λq hq=>Xe q (by simp[hq])) .nil
         rw[Hm]at this;simpa using this
      have SC:NB.Nodup:=(List.nodup_append.1 Ko).2.1;obtain⟨xs,BS⟩:∃xs,c2.den c.ρ= .sl xs:=by
       obtain⟨_,_,⟨_,_,hh,_⟩|⟨_,_,_,zs,_,_,hh,_⟩⟩:=qt4.inv
       ·exact⟨_,hh⟩
       ·exact⟨_,hh⟩
      have W0:(nn:Int)-(an:Int)=(ys.length:Int):=by omega
      rw[BS]at rr1;rw[CC]at rr2;simp only[AV.len,AV.int.injEq,true_and]at rr1 rr2;have CK:a.eval y= .slice qq' ys.length r:=by rw[dP];congr 1;omega
      obtain⟨v',w',top,Aw,BT,Oh,DS,Nv⟩:=jI (c:=c) (o:=o) (a:=a) ho As Ck CY Hf hz Db dJ TV SC (λq hq=>Iz q (SB q hq)) (λq hq=>LQ q (SB q hq)) CK Eb Kx GU KL dO (by rw[<-k2];exact qt4) BS (by rw[rr1,rr2];exact rr3) (by rw[rr1,rr2];exact rr4);have Iw:(E.app c2 (.win c0 lo (.len c0))).den c.ρ= .sl (xs++ys):=by have:(E.app c2 (.win c0 lo (.len c0))).den c.ρ=AV.app (c2.den c.ρ) ((E.win c0 lo (.len c0)).den c.ρ):=rfl;rw[this,BS,CC];rfl
      have WN:=h.rel.az _ _ qt1;have SI:=h.rel.az _ _ qb1;have LP:=JY h;have DN:nx≠t:=λe=>LP (e▸WN);have Gx:nx≠b:=λe=>LP (e▸SI);obtain⟨recs,AI⟩:∃recs:List Az,recs=[⟨nx,some v',top, .deep e3 (P.cellsOf e3) l3 0 0 (.app c2 (.win c0 lo (.len c0)))⟩,⟨b,none,topb, .pre e3 (P.cellsOf e3) l3 g (ep+1) c0 lo⟩,⟨t,none,[], .dead⟩]:=⟨_,rfl⟩
      have CJ:∀r∈recs,r=⟨nx,some v',top, .deep e3 (P.cellsOf e3) l3 0 0 (.app c2 (.win c0 lo (.len c0)))⟩\/r=⟨b,none,topb, .pre e3 (P.cellsOf e3) l3 g (ep+1) c0 lo⟩\/r=⟨t,none,[], .dead⟩:=λr hr=>by rw[AI]at hr;simpa using hr
      have hn:(recs.map Az.tag).Nodup:=by rw[AI];simp[DN,Gx];exact λe=>Qo e.symm
      have AM:∀r∈recs,r.new.isSome=true-> ¬c.U r.tag:=λr hr hs=>by
       rcases CJ r hr with rfl|rfl|rfl
       ·exact LP
       ·cases hs
       ·cases hs
      have aft:=Cx.cm (w':=w') h.rel.az hn AM;have IH:(⟨nx,some v',top, .deep e3 (P.cellsOf e3) l3 0 0 (.app c2 (.win c0 lo (.len c0)))⟩:Az)∈recs:=by rw[AI];simp
      have KJ:(⟨b,none,topb, .pre e3 (P.cellsOf e3) l3 g (ep+1) c0 lo⟩:Az)∈recs:=by rw[AI];simp
      have NO:(⟨t,none,[], .dead⟩:Az)∈recs:=by rw[AI];simp
      have KW:∀q∈topb,q∉NB:=λq hq IJ=>(List.nodup_append.1 Ko).2.2 q hq q IJ rfl;obtain⟨q1,q2⟩:=h.rel.changes (recs:=recs) (gs:=[]) (hs:=(c.G t).top++(c.G b).top) (DY _) (BT.weaken λq hq=> .inl (by simp[hq])) hn AM (λq hq=>by
        rcases Ae.1 hq with hq|hq
        ·exact⟨_,NO,hq⟩
        ·exact⟨_,KJ,hq⟩)
       (by
        rw[AI];simp only[List.flatMap_cons,List.flatMap_nil,AG];refine List.nodup_append.2 ⟨Oh,(List.nodup_append.1 Ko).1,λp hp q hq e=> ?_⟩;subst e;rcases(DS p hp).1 with hh|hh|hh
        ·exact LQ p (Es p hq) hh
        ·exact KW p hq hh
        ·have:=Iz p (Es p hq);omega)
       (λr hr q hq=>by
        rcases CJ r hr with rfl|rfl|rfl
        ·obtain⟨k1',k2'⟩:=DS q hq;refine⟨?_,k2'⟩;rcases k1' with hh|hh|hh
         ·exact .inl (by simp[hh])
         ·exact .inl (by simp[SB q hh])
         ·exact .inr hh
        ·exact⟨.inl (by simp[Es q hq]),Nat.lt_of_lt_of_le (Iz q (Es q hq)) BT.size⟩
        ·cases hq)
       (λr hr=>by rcases CJ r hr with rfl|rfl|rfl<;>(intros;simp))
       (λhk r hr=>by
        rcases CJ r hr with rfl|rfl|rfl
        ·obtain⟨k1',k2',k3'⟩:=aft.new _ IH v' rfl;have kg:=aft.G _ IH;have ke:=aft.fw _ IH rfl;simp only at k1' k2' k3' kg ke;exact⟨k1',k2',ke,by rw[k3',kg,aft.w,aft.ρ,Iw];exact Nv,by rw[kg]⟩
        ·have kg:=aft.G _ KJ;have ke:=aft.ej _ KJ rfl;obtain⟨k1',k2'⟩:=aft.K b g qb1;simp only at kg ke;obtain⟨p,cp,zs,f1,f2,f3,f4,f5⟩:=TM w' λq hq=>BT.block q (Iz q (Es q hq)) (LQ q (Es q hq));refine⟨k1',λg' BW=>qb2 g' (aft.old b SI g' BW),by rw[ke,qb3],⟨p,cp,zs,kk,an,by rw[k2'];exact f1,by rw[aft.ρ];exact f2,by rw[aft.ρ];exact j3,f3,f4,by rw[aft.w,kg];exact f5⟩,by rw[kg]⟩
        ·have kg:=aft.G _ NO;exact⟨by rw[kg],by rw[kg]⟩)
      intro next Q hk
      unfold Oper.wp;rw[Aw,Oper.upon_value];obtain⟨k1',k2',k3'⟩:=aft.new _ IH v' rfl;simp only at k1' k3';obtain⟨p,m,r,rfl⟩:=Nv.head;have NZ:(recs.map λr=>(r.tag,Cj [] r.au))=(nx, .deep e3 (P.cellsOf e3) l3 0 0 (.app c2 (.win c0 lo (.len c0))))::(b, .pre e3 (P.cellsOf e3) l3 g (ep+1) c0 lo)::Dw [t]:=by rw[AI];simp[Cj,Dw]
      rw[NZ]at q1;refine hk _ (c.cr w' _) ⟨rfl,rfl,rfl,rfl,λu hu=> ?_⟩ (q1.put (SR.own k1' k3' .nil) o.dst);rcases hu with hu|⟨r,hr,rfl⟩
      ·exact .inl hu
      ·rcases CJ r hr with rfl|rfl|rfl
       ·exact .inr ⟨Ax _,by simp[Bl]⟩
       ·exact .inl SI
       ·exact .inl WN
   ·cases he
  ·cases he
 ·cases he
end
section
variable {P:Program} {c:Cx} {n nx:Nat} {sl sl0:Nat->SV} {hp hp0:Nat->Option Ab} {a:Act} {o:Oper} {gs:Gd} {e:AO} {sg:Br} {nv:Nat}
theorem VW{w:World}:∀(vs:List Value) {xs:List AV} {f:List Nat} (ts:List TypeId),Rd w vs xs f->ts.length<=vs.length->CV P w ts [] [] vs xs f [] []
 | [],xs,f,ts,h,hl=>by have:ts=[]:=List.eq_nil_of_length_eq_zero (by simpa using hl);subst this;cases h;exact .nil
 |v::vs,[],f,ts,h,hl=>by have:=h.len;simp at this
 |v::vs,x::xs,f,ts,h,hl=>by
  obtain⟨f1,f2,rfl,h1,h2⟩:=h.bd;cases ts with
  |nil=>exact .free h1 (VW vs [] h2 (by simp))
  |cons t ts=>exact CV.cons (h:=[]) ⟨h1,rfl⟩ (VW vs ts h2 (by simpa using hl))
theorem pK(l:EL):EL.of (Mw.go l)=l:=by
 induction l using EL.rec (motive_1:=λ_=>True)with
 |nil=>rfl
 |cons e es _ ih=>simp[Mw.go,EL.of,ih]
 |_=>trivial
theorem mB{w:World}{ts:List TypeId}{vs:List Value}{Bs:List AV}{f o:List Nat}(h:C5 P w ts [] vs Bs f o):Bs=[]:=by
 have key:∀(ts:List TypeId),Ba ts []=false:=by
  intro ts
  induction ts with
  |nil=>rfl
  |cons t ts ih=>simp only[Ba,List.headD_nil,Bool.false_or,List.tail_nil];exact ih
 exact(UY h).2 (key ts)
theorem lO(t:TypeId):FM P t []=false:=by simp[FM]
theorem XO(h:A1 P c n nx sl hp a sl0 hp0 o gs){cl:Call}{fo:Operand}(ho:o.op= .call cl)(As:cl.callee= .value fo){y:E}{sf:SV}(hf:Bc sl0 gs fo=some sf)(dF:∀v,SR c [sf] [v]-> ∃f,Rd c.w [v] [y.den c.ρ] f){as_:List SV}(has:cl.args.toList.mapM (Bc sl0 gs)=some as_){t:TypeId}
  (he:Mw P hp0 gs nv t y as_=some e) (AW:∀c',e.call=some c'-> ∃r,c.ρ[nv]?=some r/\GG (CI P sg) c'.fn ((EL.of c'.args).den c.ρ) c.ρ r):Ao P o c n nx sl hp gs a e:=by
 have Tx:fo∈o.op.operands:=by simp[ho,Op.operands,Call.operands,As]
 have Tw:∀x∈cl.args.toList,x∈o.op.operands:=λx hx=>by
  have:x∈cl.args:=by simpa using hx
  simp[ho,Op.operands,Call.operands,As,this]
 have JI:=h.bz hf Tx;have Ai:=YF (a:=a) (λx hx s hs=>h.bz hs (Tw x hx)) has;unfold Mw at he;split at he
 ·cases he
 split at he
 ·cases he
 rename_i es Gp;simp only[Aa]at he;subst he;obtain⟨r,hr,g,caps,hy,Hv,De⟩:=AW _ rfl;rw[pK]at Hv;obtain⟨f1,p1,p2⟩:=Mq h.eh h.gs AJ Gp Ai AJ (Ax _);generalize Tb:a.eval fo=fv at JI;obtain⟨_,k1⟩:=dF _ JI;obtain⟨capv,f2,rfl,S0⟩:∃capv f2,fv= .func (.func g) #[] capv.toArray/\Rd c.w capv caps f2:=by
  rw[hy]at k1;cases k1 with
  |fn q1 _=>exact⟨_,_,rfl,q1⟩
 have KU:M7 P {bg:=[],res:=[]} g (es.den c.ρ++caps) r:=by unfold CI at Hv;rw[if_neg (by omega)]at Hv;simpa using Hv
 obtain⟨fn,Gq,Dh,E2,_,hlen,_,EB⟩:=KU;have CR:=p1.app S0;have Fb:=CR.len;have AW:=EB c.w _ _ [] [] (VW _ (fn.params.toList++ []) CR (by rw[Fb,hlen,AG,BF];omega)) (by simp) (by simp) (by simp) (h.rel.ko (by simp));have ex:(execOp a.eval o).run P c.w= .ok (.enter g (cl.args.map a.eval++capv.toArray)) c.w:=by
  have hb:fn.body.isNone=false:=by simpa using Dh
  simp only[execOp,ho,resolve,As,Tb,Deferred.ofValue,Sem.run_bind,Sem.run_pure,Result.andThen_ok,invoke,callFunc,run_program,Gq];simp[E2,hb]
 intro next Q hk
 unfold Oper.wp;rw[ex,Oper.upon_enter];have Kq:cl.args.map a.eval++capv.toArray=((cl.args.toList.map a.eval)++capv).toArray:=by apply Array.ext';simp
 rw[Kq];refine AW.mono ?_;rintro e' w' ⟨v,rfl,⟨R,Bs,f1',o1,f2',o2,IK,AK,Ei,FB,NX,Nz⟩,BT⟩;show next (a.put o.dst v) w'
 have Kk:=mB Ei;subst Kk;simp only at IK;subst IK;have hv:Rd w' [v] [r] []:=by
  unfold Io at AK;split at AK
  ·rename_i t' ht;unfold EN at AK;rw[if_neg (by rw[lO];simp)]at AK;have:=XF AK.1 De;subst this;exact AK.1
  ·obtain⟨vs,ys,_,rfl,_⟩:=AK;have:=De (.tup ys) (by simp[AV.cells]);simp[AV.scalar]at this
 obtain⟨Em,_⟩:=h.rel.changes (w':=w') (recs:=[]) (hs:=[]) (gs:=gs) h.gs BT (by simp) (by simp) (by simp) (by simp) (by simp) (by simp) (by simp);refine hk _ (c.cr w' []) ⟨rfl,rfl,rfl,rfl,λt ht=> ?_⟩ (Em.put (SR.mkGd (.e (f:=[]) ?_ (by simp) .nil) gs h.gs) o.dst)
 ·rcases ht with ht|⟨r,hr,_⟩
  ·exact .inl ht
  ·simp at hr
 ·show Rd w' [v] [(E.var nv).den c.ρ] [];simp only[E.den,hr,CT];exact hv
theorem Wa(Hx:∀f s,sg f=some s->f<1000000)(h:A1 P c n nx sl hp a sl0 hp0 o gs)(he:Bk P sg sl0 hp0 nv nx gs o=some e)
  (hc:∀q∈e.bu,q.den c.ρ) (AW:∀cl,e.call=some cl-> ∃r,c.ρ[nv]?=some r/\GG (CI P sg) cl.fn ((EL.of cl.args).den c.ρ) c.ρ r) (Co:∀x,e.bc=some x->c.ρ[nv]?=some (.bool (Ib a o))):Ao P o c n nx sl hp gs a e:=by
 have IC:=he;cases AD:o.op with
 |move x=>simp only[Bk,AD,Aj]at he;obtain⟨s,hs,rfl⟩:=he;exact Yz h (.inl AD) hs
 |assign x=>simp only[Bk,AD,Aj]at he;obtain⟨s,hs,rfl⟩:=he;exact Yz h (.inr AD) hs
 |pick x y z=>exact lU h AD he hc
 |alloc t=>exact kY h AD he hc
 |box t x=>exact oN h AD he hc
 |build t parts=>exact kS h AD he hc
 |buildSlice t m parts=>
  simp only[Bk,AD,Ak]at he;obtain⟨ps,JF,he⟩:=he;split at he
  ·exact fU h AD JF he hc
  ·exact fH h AD JF he hc
 |load t x=>exact lS h AD he hc
 |nilCheck x=>exact gA h AD he hc
 |makeSlice t l m=>
  simp only[Bk,AD,Ak]at he;obtain⟨s1,Bj,s2,AN,he⟩:=he;split at he
  ·exact gL h AD Bj AN he hc
  ·exact jU h AD Bj AN he hc
 |slice t x lo hi mx=>
  simp only[Bk,AD,Ak]at he;obtain⟨s,hs,l',Bd,h',GP,m',El,he⟩:=he;split at he
  ·exact iM h AD hs Bd GP El he hc
  split at he
  ·exact gO h AD hs Bd GP El he hc
  ·exact jK h AD hs Bd GP El he hc
 |fieldAddr t x f=>exact fW h AD he hc
 |field t x f=>exact jY h AD he hc
 |extract x i=>exact iZ h AD he hc
 |store t x y=>
  simp only[Bk,AD,Ak]at he;obtain⟨p,hp',v,hv,he⟩:=he;cases p with
  |bj b k=>exact iD h AD hp' hv he hc
  |br b g i sz k=>
   by_cases CB:∃e z g c d,Cw hp0 gs b=some (.row e z g c d)
   ·exact gC h AD CB hp' hv he hc
   ·exact fO h AD CB hp' hv he hc
  |_=>simp[JZ]at he
 |binOp op t x y ty=>
  cases hu:P.underlying t with
  |none=>simp only[Bk,AD,Ak]at he;obtain⟨_,_,_,_,he⟩:=he;simp[MJ,hu]at he
  |some d=>
   by_cases Ob:∃fs,d= .struct fs
   ·obtain⟨fs,rfl⟩:=Ob;exact oH h AD hu he hc
   ·have JD:∀fs,P.underlying t≠some (.struct fs):=λfs hh=>Ob ⟨fs,by rw[hu]at hh;cases hh;rfl⟩;cases hq:e.bc with
    |none=>exact nA h AD JD he hq hc
    |some x'=>
     have E6:=Co x' hq;simp only[Bk,AD,Ak]at he;obtain⟨s1,Bj,s2,AN,he⟩:=he;have r1:=h.bz Bj (by simp[AD,Op.operands]);have r2:=h.bz AN (by simp[AD,Op.operands]);unfold MJ at he;split at he
     ·rename_i el EF;have Cy:∀xq,A5 hp0 gs AJ s1=some xq->Cn.den c.ρ (.dfd (.len xq))-> ∃p q r,a.eval x= .slice p q r:=by
       intro xq HA hd;obtain⟨f,q1,_⟩:=h.gz Bj (by simp[AD,Op.operands]) HA;have hd:(xq.den c.ρ).len≠ .undef:=hd;cases Be:xq.den c.ρ<;>simp only[Be,AV.len,ne_eq,not_true_eq_false]at hd;rename_i xs;have hl:(xq.den c.ρ).len= .int .i64 (xs.length:Int):=by rw[Be];rfl
       rcases Mp q1 hl with⟨p,q,hv,CZ⟩|⟨b,o',k,q,hv,CZ⟩
       ·exact⟨_,_,_,hv⟩
       ·exact⟨_,_,_,hv⟩
      split at he
      ·simp at he;subst he;cases hq
      ·simp at he;subst he;cases hq
      ·obtain⟨xq,HA,rfl⟩:=Aj.1 he;obtain⟨p,q,r,hv⟩:=Cy xq HA (hc _ (by simp));exact YI h AD EF hv r2 (.inl rfl) E6 _
      ·obtain⟨xq,HA,rfl⟩:=Aj.1 he;obtain⟨p,q,r,hv⟩:=Cy xq HA (hc _ (by simp));exact YI h AD EF hv r2 (.inr rfl) E6 _
      ·cases he
     ·split at he
      ·simp at he;subst he;cases hq
      ·cases he
     ·split at he
      ·simp at he;subst he;cases hq
      ·cases he
     ·split at he
      ·simp at he;subst he;cases hq
      ·cases he
     ·rename_i fs EF;exact absurd EF (JD fs)
     ·cases he
 |unOp u t x=>
  cases u with
  |not=>exact oL h AD he hc
  |neg=>exact oP h AD he hc
  |_=>simp[Bk,AD]at he
 |convert src dst x=>
  have Jq:=he;simp only[Bk,AD,Ak]at Jq;obtain⟨s,_,Jq⟩:=Jq;unfold Po at Jq;split at Jq
  ·rename_i k0 k h1 h2;exact iY h AD h1 h2 he hc
  ·rename_i h1 h2;exact gH h AD h1 h2 he hc
  ·rename_i el h1 h2;exact hF h AD h1 h2 he hc
  ·cases Jq
 |makeFunc fr fst caps=>
  cases fr with
  |func f=>exact iA h AD he
  |_=>simp[Bk,AD]at he
 |indexAddr t x i=>refine fM h AD (λhu=> ?_) he hc;simp only[Bk,AD,Ak]at he;obtain⟨_,_,_,_,he⟩:=he;simp[Ss,hu]at he
 |index t x i=>
  refine iW h AD ?_ he hc;simp only[Bk,AD,Ak]at he;obtain⟨_,_,_,_,he⟩:=he;split at he
  ·rename_i IN;unfold Ss at IN;split at IN
   ·assumption
   ·cases IN
  ·cases he
 |call cl=>
  simp only[Bk,AD]at he;cases As:cl.callee with
  |invoke r m=>rw[As]at he;simp at he
  |value f=>
   rw[As]at he;simp only[Ak]at he;obtain⟨s,hs,as_,has,he⟩:=he;cases s with
   |fn g caps=>
    have he:Pk P sg hp0 gs nv nx g (as_++caps.toList)=some e:=he;refine lR h AD As hs has ?_ he AW;unfold Pk at he;split at he
    ·rename_i fn sg' Gq hh;exact Hx g sg' hh
    ·cases he
   |e y=>exact XO h AD As hs (λv hv=>by cases hv with|e k1 _ _=>exact⟨_,k1⟩) has he AW
   |lent i=>exact XO h AD As hs (λv hv=>by
     cases hv with
     |lent g1 _=>obtain⟨f,p1,p2⟩:=h.rel.base.lo _ _ g1;exact⟨f,p1.frame λb hb=>h.rel.base.block b (p1.inb b hb) (p2 b hb)⟩) has he AW
   |_=>simp at he
  |builtin b=>
   rw[As]at he;cases b with
   |len=>
    simp only at he;split at he
    ·rename_i x tx Ck CY;exact mE h AD As Ck CY IC hc
    ·cases he
   |append=>
    simp only at he;split at he
    ·rename_i x y tx ty Ck CY;simp only[Ak]at he;obtain⟨s1,Bj,s2,AN,he⟩:=he;split at he
     ·exact gM h AD As Ck CY Bj AN he hc
     split at he
     ·exact fR h AD As Ck CY Bj AN he hc
     ·exact gV h AD As Ck CY Bj AN he hc
    ·cases he
   |clear=>
    simp only at he;split at he
    ·rename_i x tx Ck CY;simp only[Ak]at he;obtain⟨s,hs,he⟩:=he;exact kR h AD As Ck CY hs he hc
    ·cases he
   |max=>
    simp only at he;split at he
    ·rename_i x y Ck;simp only[Ak]at he;obtain⟨s1,Bj,s2,AN,he⟩:=he;exact XJ h AD (.inl ⟨rfl,As⟩) Ck Bj AN he hc
    ·cases he
   |min=>
    simp only at he;split at he
    ·rename_i x y Ck;simp only[Ak]at he;obtain⟨s1,Bj,s2,AN,he⟩:=he;exact XJ h AD (.inr ⟨rfl,As⟩) Ck Bj AN he hc
    ·cases he
   |_=>simp at he
 |_=>simp[Bk,AD]at he
end
end
end Go.Proofs.Yteeafhlnofapaaa

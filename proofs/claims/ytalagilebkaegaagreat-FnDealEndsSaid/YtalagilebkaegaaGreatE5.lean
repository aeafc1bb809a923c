/- Parts of a proof, joined: WP, WQ, WR, WRa, WRb, WRc, WRd, WRe, WRf, WS. -/
import Derived.Test.YtalagilebkaegaaGreatE4
set_option linter.unusedVariables false
set_option linter.unusedSimpArgs false
namespace Go.Proofs.YtalagilebkaegaaGreat
open Go.RowKit
section
section
variable {P:Program} {c:Cx} {hp:Nat->Option Ah} {gs:Gd}
theorem zwd(hb:Rb c)(eh:EH c hp)(k:BH c.ρ gs)(hU:∀t g,c.K t g->c.U t):∀(ss:List SV) {ts:List TypeId} {ms:List PM} {lo:List Bool} {es:List E} {bs:List PA} {us uz:List Nat} {vs:List Value},Vw P hp gs ts ms lo ss=some (es,bs,us,uz)->SR c ss vs->ts.length<=ss.length->
  ∃rf lf hs,D8 P c.w ts ms lo vs (es.map (E.den c.ρ)) rf lf hs/\(∀b∈rf,c.ek us b)/\(∀b∈lf,c.ek uz b\/b<c.w0.heap.size/\ ¬c.Mu b)/\hs=(D6 bs).flatMap (λt=>(c.G t).top)/\JP P c ts ms vs bs/\(∀u∈D6 bs,c.U u)/\(bs≠ []->gs=[])
 | [],ts,ms,lo,es,bs,us,uz,vs,h,hs,hl=>by simp[Vw]at h;obtain⟨rfl,rfl,rfl,rfl⟩:=h;cases hs;have:ts=[]:=List.eq_nil_of_length_eq_zero (by simpa using hl);subst this;exact⟨[],[],[], .nil,by simp,by simp,by simp[D6], .nil,by simp[D6],by simp⟩
 |s::ss,ts,ms,lo,es,bs,us,uz,[],h,hs,hl=>by have:=hs.len;simp at this
 |s::ss,ts,ms,lo,es,bs,us,uz,v::vs,h,hs,hl=>by
  obtain⟨r1,r2⟩:=hs.ct;unfold Vw at h;split at h
  ·cases h
  rename_i ys bs' us' uz' DB;obtain⟨rf,lf,Bh,q1,q2,qz,q3,q4,q5,q6⟩:=zwd hb eh k hU ss DB r2 (by simp at hl ⊢;omega);have see1:∀{a b:List Nat} {x:Nat},c.ek a x->c.ek (a++b) x:=λh=>h.mono λt ht=>by simp[ht]
  have see2:∀{a b:List Nat} {x:Nat},c.ek b x->c.ek (a++b) x:=λh=>h.mono λt ht=>by simp[ht]
  split at h
  ·rename_i hm;split at h
   ·rename_i BZ;simp only[Ab,Be]at BZ;obtain⟨t,ts,rfl⟩:∃t ts',ts=t::ts':=by
     cases ts with
     |nil=>simp at BZ
     |cons t ts=>exact⟨t,ts,rfl⟩
    split at h
    ·rename_i i;simp only[Ad,A4]at h;obtain⟨rfl,rfl,rfl,rfl⟩:=h;cases r1 with
     |lent g1 _=>obtain⟨f,p1,p2⟩:=hb.lo _ _ g1;have hw:Rd c.w [v] [(E.var i).den c.ρ] f:=p1.frame λb Cq=>hb.block b (p1.inb b Cq) (p2 b Cq);exact⟨rf,f++lf,Bh, .lent BZ.1 hm hw q1,q2,λb Cq=>(Ac.1 Cq).elim (λCq=> .inr ⟨p1.inb b Cq,p2 b Cq⟩) (qz b),q3, .ro hm q4,q5,q6⟩
    ·obtain⟨x,hx,hh⟩:=Av.1 h;simp only[A4]at hh;obtain⟨rfl,rfl,rfl,rfl⟩:=hh;obtain⟨f,p1,p2⟩:=IE eh k Bg hx r1 Bg (AQ _);exact⟨rf,f++lf,Bh, .lent BZ.1 hm p1 q1,q2,λb Cq=>(Ac.1 Cq).elim (λCq=> .inl (see1 (p2 b Cq))) (λCq=>(qz b Cq).imp see2 id),q3, .ro hm q4,q5,q6⟩
   obtain⟨x,hx,hh⟩:=Av.1 h;simp only[A4]at hh;obtain⟨rfl,rfl,rfl,rfl⟩:=hh;obtain⟨f,p1,p2⟩:=IE eh k Bg hx r1 Bg (AQ _);have hb:∀b∈f++rf,c.ek (Cf hp gs (Bg+1) [s]++us') b:=λb hb=>by
    rcases Ac.1 hb with hb|hb
    ·exact see1 (p2 b hb)
    ·exact see2 (q2 b hb)
   cases ts with
   |nil=>exact⟨f++rf,lf,Bh, .free p1 q1,hb,qz,q3, .ro hm q4,q5,q6⟩
   |cons t ts=>exact⟨f++rf,lf,[]++Bh, .cons (by rw[hm];exact⟨p1,rfl⟩) q1,hb,qz,q3, .ro hm q4,q5,q6⟩
  ·rename_i own own' hm;split at h
   ·rename_i ty T BC;split at h
    ·rename_i ty' g cs I4;split at h
     ·cases h
     rename_i A9;have A9:ty'=ty:=by simpa using A9
     subst A9;split at h
     ·rename_i xs rs vs' Cu FO;simp only[Ad,A4]at h;obtain⟨rfl,rfl,rfl,rfl⟩:=h;obtain⟨t,ts,rfl,EJ⟩:∃t ts',ts=t::ts'/\Lk P t=some ty':=by
       cases ts with
       |nil=>simp at BC
       |cons t ts=>exact⟨t,ts,rfl,by simpa using BC⟩
      obtain⟨b,C,g1,g2,g3,g4,g5,g6,g7⟩:=eh T _ (CU I4 k);obtain⟨f,h8,p1,p2,p3,p4,p5⟩:=mV (P:=P) eh k hU (Bl P ty') FO g7 Cu (AQ _);have hv:v= .pointer (some ⟨b,0,none⟩):=by
       cases r1 with
       |cw k1 k2 _=>rw[g2]at k2;cases k2;rfl
      refine⟨f++rf,lf,(b::h8)++Bh, .cons ?_ q1,λx hx=> ?_,qz,by simp[D6,p3,q3,g3], .bx hm EJ hv g1 (by rw[g2,hv]) p5 q4,λu hu=> ?_,λ_=>rfl⟩
      ·rw[hm];exact⟨ty',b,C,xs.den c.ρ,h8,EJ,hv,g5,g6,rfl,p1,rfl⟩
      ·rcases Ac.1 hx with hx|hx
       ·exact see1 (p2 x hx)
       ·exact see2 (q2 x hx)
      ·simp only[D6,List.cons_append,Ae,Ac]at hu;rcases hu with rfl|hu|hu
       ·exact hU _ _ g1
       ·exact p5 u hu
       ·exact q5 u hu
     ·cases h
    ·cases h
   ·cases h
  ·rename_i own hm;split at h
   ·rename_i t x BC hx;split at h
    ·cases h
    rename_i AM;have AM:(IC s).2=Ap P t:=by simpa using AM
    split at h
    ·rename_i rs vs' FO;simp only[Ad,A4]at h;obtain⟨rfl,rfl,rfl,rfl⟩:=h;obtain⟨ts,rfl⟩:∃ts',ts=t::ts':=by
      cases ts with
      |nil=>simp at BC
      |cons t' ts=>simp at BC;exact⟨ts,by rw[BC]⟩
     obtain⟨f,h8,p1,p2,p3,⟨vs9,p4,p5⟩,p6⟩:=zU (P:=P) eh k hU r1 hx AM FO;refine⟨f++rf,lf,h8++Bh, .cons (by rw[hm];exact p1) q1,λx hx=> ?_,qz,by simp[D6,p3,q3],by rw[AM];exact .mu hm p4 p5 q4,λu hu=> ?_,λ_=>rfl⟩
     ·rcases Ac.1 hx with hx|hx
      ·exact see1 (p2 x hx)
      ·exact see2 (q2 x hx)
     ·simp only[D6,Ac]at hu;exact hu.elim (p6 u) (q5 u)
    ·cases h
   ·cases h
  ·rename_i own hm;split at h
   ·rename_i t x BC hx;split at h
    ·cases h
    rename_i AM;have AM:(IC s).2=Ap P t:=by simpa using AM
    split at h
    ·rename_i rs vs' FO;simp only[Ad,A4]at h;obtain⟨rfl,rfl,rfl,rfl⟩:=h;obtain⟨ts,rfl⟩:∃ts',ts=t::ts':=by
      cases ts with
      |nil=>simp at BC
      |cons t' ts=>simp at BC;exact⟨ts,by rw[BC]⟩
     obtain⟨f,h8,p1,p2,p3,⟨vs9,p4,p5⟩,p6⟩:=zU (P:=P) eh k hU r1 hx AM FO;refine⟨f++rf,lf,h8++Bh, .cons (by rw[hm];exact p1) q1,λx hx=> ?_,qz,by simp[D6,p3,q3], .va hm p6 q4,λu hu=> ?_,λ_=>rfl⟩
     ·rcases Ac.1 hx with hx|hx
      ·exact see1 (p2 x hx)
      ·exact see2 (q2 x hx)
     ·simp only[D6,Ac]at hu;exact hu.elim (p6 u) (q5 u)
    ·cases h
   ·cases h
end
inductive FG(P:Program)(w:World):List TypeId->List Bool->List Value->List AV->List Nat->List Nat->Prop where
 |nil {fl}:FG P w [] fl [] [] [] []
 |own {t ts fl el u us y ys top N f o}:fl.headD false=true->C3 P t=some el->(Cg P el=true/\N=[]\/Cg P el=false/\DK P t=none)->De w el (P.cellsOf el) u y top N->FG P w ts fl.tail us ys f o->FG P w (t::ts) fl (u::us) (y::ys) (N++f) (top++o)
 |deep {t ts fl el e z l u us y ys top f o}:fl.headD false=true->C3 P t=some el->Cg P el=false->DK P t=some (.row e z l)->DC w [.row e z l] [u] [y] top->FG P w ts fl.tail us ys f o->FG P w (t::ts) fl (u::us) (y::ys) f (top++o)
 |skip {t ts fl u us y ys f o}:(fl.headD false=true->C3 P t=none)->FG P w ts fl.tail us ys f o->FG P w (t::ts) fl (u::us) (y::ys) f o
inductive D7(P:Program)(w:World):List TypeId->List PM->List Value->List AV->List Nat->List Nat->Prop where
 |nil {ms vs}:D7 P w [] ms vs [] [] []
 |ro {t ts ms v vs bs f o}:ms.headD .ro= .ro->D7 P w ts ms.tail vs bs f o->D7 P w (t::ts) ms (v::vs) bs f o
 |va {t ts ms own v vs bs f o}:ms.headD .ro= .va own->D7 P w ts ms.tail vs bs f o->D7 P w (t::ts) ms (v::vs) bs f o
 |mu {t ts ms own v vs us ys y bs f1 f o1 o}:ms.headD .ro= .mu own->(if Ap P t then v= .agg us.toArray/\y= .agg ys else us=[v]/\ys=[y])->FG P w (Bl P t) own us ys f1 o1->D7 P w ts ms.tail vs bs f o->D7 P w (t::ts) ms (v::vs) (y::bs) (f1++f) (o1++o)
 |bx {t ts ms own own' ty b C v vs ys y bs f1 o1 f o}:ms.headD .ro= .bx own own'->Lk P t=some ty->v= .pointer (some ⟨b,0,none⟩)->w.heap[b]?=some (.cells C ty (0,0))->(∀u∈C.toList,u.oneCell'=true)->y= .agg ys->CA P w (Bl P ty) own' C.toList ys f1 o1->
   D7 P w ts ms.tail vs bs f o->D7 P w (t::ts) ms (v::vs) (y::bs) (f1++f) (b::o1++o)
section
variable {P:Program} {c:Cx} {w':World}
theorem zxx{mk:Nat->E}{ts:List TypeId}{fl:List Bool}{us:List Value}{rs:List (Option RI)}(h:Hh P c ts fl us rs)(hU:∀t g,c.K t g->c.U t):∀{ys:List AV} {f o:List Nat} (j:Nat),FG P w' ts fl us ys f o->(∀i y,ys[i]?=some y->(mk (j+i)).den c.ρ=y)->
  ∃recs:List A3,MR mk j rs=recs.map A3.pair/\(recs.flatMap A3.top).Sublist o/\(∀r∈recs,r.new=none/\c.U r.tag/\ ∀hs f,r.bu≠ .gd hs f)/\recs.map A3.tag=CZ rs/\ ∀c',Fy c c' w' recs->(∀b∈f,c'.ok b)-> ∀r∈recs,DJ c' r.tag r.bu:=by
 induction h with
 |nil=>intro ys f o j hm _;cases hm;exact⟨[],rfl,by simp,by simp,rfl,by simp⟩
 | @row t ts fl v vs u g el rs h1 h2 M1 h3 h4 h5 _ ih=>
  intro ys f o j hm GH;cases hm with
  |skip hh _=>rw[hh h1]at h2;cases h2
  |deep _ k2 k21 k22 _ _=>
   rw[h2]at k2;cases k2;rcases M1 with hh|hh
   ·rw[hh]at k21;cases k21
   ·rw[hh]at k22;cases k22
  | @own _ _ _ el' _ _ y ys top N f o k1 k2 k23 k3 k4=>
   rw[h2]at k2;cases k2;obtain⟨recs,e1,e2,e3,e4,e5⟩:=ih (j+1) k4 (λi y hy=>by rw[show j+1+i=j+(i+1)from by omega];exact GH (i+1) y (by simpa using hy));have hy:=GH 0 y rfl;refine⟨⟨u,none,top, .row el (P.cellsOf el) g (mk j) (Cg P el)⟩::recs,by simp[MR,e1,A3.pair],by simpa using(List.Sublist.refl top).append e2,λr hr=> ?_,by simp[CZ,RI.tag,e4],λc' ha A5 r hr=> ?_⟩
   ·rcases Ae.1 hr with rfl|hr
    ·exact⟨rfl,hU _ _ h3,by simp⟩
    ·exact e3 r hr
   ·rcases Ae.1 hr with rfl|hr
    ·obtain⟨a1,a2⟩:=ha.K u g h3;have kg:=ha.G _ (List.mem_cons_self ..);simp only at kg;refine⟨a1,λg' CG=>h5 g' (ha.old u (hU _ _ h3) g' CG),N,?_,λb hb=>A5 b (by simp[hb]),λhd=> ?_,λ_=>by rw[kg]⟩
     rotate_left
     ·rcases k23 with⟨_,h⟩|⟨h,_⟩
      ·subst h;exact⟨rfl,by rw[kg]⟩
      ·rw[h]at hd;cases hd
     have BO:(mk j).den c.ρ=y:=by simpa using hy
     rw[a2,h4,kg,ha.w,ha.ρ,BO];exact k3
    ·exact e5 c' (ha.mono λr hr=>by simp[hr]) (λb hb=>A5 b (by simp[hb])) r hr
 | @deep t ts fl v vs u g el e z l ep rs h1 h2 Ua QO h3 h4 h5 h6 _ ih=>
  intro ys f o j hm GH;cases hm with
  |skip hh _=>rw[hh h1]at h2;cases h2
  |own _ k2 k23 _ _=>
   rw[h2]at k2;cases k2;rcases k23 with⟨hh,_⟩|⟨_,hh⟩
   ·rw[hh]at Ua;cases Ua
   ·rw[hh]at QO;cases QO
  | @deep _ _ _ el' e' z' l' _ _ y ys top f o k1 k2 k21 k22 k3 k4=>
   rw[QO]at k22;cases k22;obtain⟨recs,e1,e2,e3,e4,e5⟩:=ih (j+1) k4 (λi y hy=>by rw[show j+1+i=j+(i+1)from by omega];exact GH (i+1) y (by simpa using hy));have hy:=GH 0 y rfl;refine⟨⟨u,none,top, .deep e z l g (ep+1) (mk j)⟩::recs,by simp[MR,e1,A3.pair],by simpa using(List.Sublist.refl top).append e2,λr hr=> ?_,by simp[CZ,RI.tag,e4],λc' ha A5 r hr=> ?_⟩
   ·rcases Ae.1 hr with rfl|hr
    ·exact⟨rfl,hU _ _ h3,by simp⟩
    ·exact e3 r hr
   ·rcases Ae.1 hr with rfl|hr
    ·obtain⟨a1,a2⟩:=ha.K u g h3;have kg:=ha.G _ (List.mem_cons_self ..);have ke:=ha.gn _ (List.mem_cons_self ..) rfl;simp only at kg ke;refine⟨a1,λg' CG=>h5 g' (ha.old u (hU _ _ h3) g' CG),by rw[ke,h6],?_,by rw[kg]⟩;have BO:(mk j).den c.ρ=y:=by simpa using hy
     rw[a2,h4,kg,ha.w,ha.ρ,BO];exact k3
    ·exact e5 c' (ha.mono λr hr=>by simp[hr]) (λb hb=>A5 b (by simp[hb])) r hr
 | @none t ts fl v vs rs _ _ ih=>
  intro ys f o j hm GH;have go:∀{y:AV} {ys':List AV} {f' o':List Nat},ys=y::ys'->FG P w' ts fl.tail vs ys' f' o'->(∀b∈f',b∈f)->o'.Sublist o-> ∃recs:List A3,MR mk j (none::rs)=recs.map A3.pair/\(recs.flatMap A3.top).Sublist o/\(∀r∈recs,r.new=none/\c.U r.tag/\ ∀hs f,r.bu≠ .gd hs f)/\recs.map A3.tag=CZ (none::rs)/\ ∀c',Fy c c' w' recs->(∀b∈f,c'.ok b)-> ∀r∈recs,DJ c' r.tag r.bu:=by rintro y ys' f' o' rfl Dd hf hs;obtain⟨recs,e1,e2,e3,e4,e5⟩:=ih (j+1) Dd (λi y hy=>by rw[show j+1+i=j+(i+1)from by omega];exact GH (i+1) y (by simpa using hy));exact⟨recs,by simp[MR,e1],e2.trans hs,e3,by simp[CZ]at e4 ⊢;exact e4,λc' ha A5=>e5 c' ha λb hb=>A5 b (hf b hb)⟩
  cases hm with
  |skip _ h8=>exact go rfl h8 (λ_ h=>h) (List.Sublist.refl _)
  |own _ _ _ _ h8=>exact go rfl h8 (λb hb=>by simp[hb]) (List.sublist_append_right _ _)
  |deep _ _ _ _ _ h8=>exact go rfl h8 (λ_ h=>h) (List.sublist_append_right _ _)
theorem ztO(us:List Nat)(hU:∀u∈us,c.U u):∃recs:List A3,EP us=recs.map A3.pair/\recs.flatMap A3.top=[]/\(∀r∈recs,r.new=none/\c.U r.tag/\ ∀hs f,r.bu≠ .gd hs f)/\recs.map A3.tag=us/\ ∀c',Fy c c' w' recs-> ∀r∈recs,DJ c' r.tag r.bu:=by
 induction us with
 |nil=>exact⟨[],rfl,rfl,by simp,rfl,by simp⟩
 |cons u us ih=>
  obtain⟨recs,e1,e2,e3,e4,e5⟩:=ih λu hu=>hU u (by simp[hu]);refine⟨⟨u,none,[], .dead⟩::recs,by simp only[EP]at e1;simp[EP,e1,A3.pair],by simp[e2],λr hr=> ?_,by simp[e4],λc' ha r hr=> ?_⟩
  ·rcases Ae.1 hr with rfl|hr
   ·exact⟨rfl,hU _ (by simp),by simp⟩
   ·exact e3 r hr
  ·rcases Ae.1 hr with rfl|hr
   ·have kg:=ha.G _ (List.mem_cons_self ..);simp only at kg;exact⟨by rw[kg],by rw[kg]⟩
   ·exact e5 c' (ha.mono λr hr=>by simp[hr]) r hr
structure J0(c:Cx)(w':World)(nx m:Nat)(l:List (Nat × Ah))(hd o f:List Nat)(recs:List A3):Prop where
 ents:l=recs.map A3.pair
 l5:(recs.flatMap A3.top).Sublist o
 new:∀r∈recs,r.new.isSome=true->nx<=r.tag/\r.tag<nx+m
 old:∀r∈recs,r.new=none->r.tag∈hd/\c.U r.tag
 all:∀t∈hd,∃r∈recs,r.tag=t
 nodup:hd.Nodup->(∀t,nx<=t->t<nx+m-> ¬c.U t)->(recs.map A3.tag).Nodup
 ne:∀r∈recs,∀hs f,r.bu≠ .gd hs f
 ok:∀c',Fy c c' w' recs->(∀b∈f,c'.ok b)-> ∀r∈recs,DJ c' r.tag r.bu
theorem J0.app{nx m m':Nat}{l l':List (Nat × Ah)}{hd J8 o o' f f':List Nat}{recs recs':List A3}(h:J0 c w' nx m l hd o f recs)(k:J0 c w' (nx+m) m' l' J8 o' f' recs'):J0 c w' nx (m+m') (l++l') (hd++J8) (o++o') (f++f') (recs++recs'):=by
 refine⟨by rw[h.ents,k.ents,List.map_append],by rw[List.flatMap_append];exact h.l5.append k.l5,λr hr hn=> ?_,λr hr hn=> ?_,λt ht=> ?_,λhn hU=> ?_,λr hr=> ?_,λc' ha A5 r hr=> ?_⟩
 ·rcases Ac.1 hr with hr|hr
  ·have:=h.new r hr hn;omega
  ·have:=k.new r hr hn;omega
 ·rcases Ac.1 hr with hr|hr
  ·exact⟨by simp[(h.old r hr hn).1],(h.old r hr hn).2⟩
  ·exact⟨by simp[(k.old r hr hn).1],(k.old r hr hn).2⟩
 ·rcases Ac.1 ht with ht|ht
  ·obtain⟨r,hr,e⟩:=h.all t ht;exact⟨r,by simp[hr],e⟩
  ·obtain⟨r,hr,e⟩:=k.all t ht;exact⟨r,by simp[hr],e⟩
 ·rw[List.nodup_append]at hn;rw[List.map_append,List.nodup_append];refine⟨h.nodup hn.1 λt h1 h2=>hU t h1 (by omega),k.nodup hn.2.1 λt h1 h2=>hU t (by omega) (by omega),λt1 It t2 Lf he=> ?_⟩;obtain⟨q1,G8,rfl⟩:=List.mem_map.1 It;obtain⟨q2,FJ,rfl⟩:=List.mem_map.1 Lf;cases n1:q1.new with
  |none=>
   obtain⟨a1,a2⟩:=h.old q1 G8 n1;cases n2:q2.new with
   |none=>exact hn.2.2 _ a1 _ (k.old q2 FJ n2).1 he
   |some v2=>have:=k.new q2 FJ (by simp[n2]);exact hU q2.tag (by omega) (by omega) (he▸a2)
  |some v1=>
   have:=h.new q1 G8 (by simp[n1]);cases n2:q2.new with
   |none=>exact hU q1.tag (by omega) (by omega) (he▸(k.old q2 FJ n2).2)
   |some v2=>have:=k.new q2 FJ (by simp[n2]);omega
 ·rcases Ac.1 hr with hr|hr
  ·exact h.ne r hr
  ·exact k.ne r hr
 ·rcases Ac.1 hr with hr|hr
  ·exact h.ok c' (ha.mono λr hr=>by simp[hr]) (λb hb=>A5 b (by simp[hb])) r hr
  ·exact k.ok c' (ha.mono λr hr=>by simp[hr]) (λb hb=>A5 b (by simp[hb])) r hr
theorem J0.jy{nx:Nat}{l:List (Nat × Ah)}{hd o f:List Nat}{recs:List A3}(e1:l=recs.map A3.pair)(e2:(recs.flatMap A3.top).Sublist o)(e3:∀r∈recs,r.new=none/\c.U r.tag/\ ∀hs f,r.bu≠ .gd hs f)(e4:recs.map A3.tag=hd)(e5:∀c',Fy c c' w' recs->(∀b∈f,c'.ok b)-> ∀r∈recs,DJ c' r.tag r.bu):J0 c w' nx 0 l hd o f recs:=by
 refine⟨e1,e2,λr hr hn=> ?_,λr hr _=>⟨?_,(e3 r hr).2.1⟩,λt ht=> ?_,λhn _=>by rw[e4];exact hn,λr hr=>(e3 r hr).2.2,λc' ha A5=>e5 c' ha A5⟩
 ·rw[(e3 r hr).1]at hn;cases hn
 ·rw[<-e4];exact List.mem_map.2 ⟨r,hr,rfl⟩
 ·rw[<-e4]at ht;obtain⟨r,hr,e⟩:=List.mem_map.1 ht;exact⟨r,hr,e⟩
theorem zzQ{ts:List TypeId}{ms:List PM}{vs:List Value}{bs:List PA}(h:JP P c ts ms vs bs)(hU:∀t g,c.K t g->c.U t){r:Nat}:∀{Bs:List AV} {f o:List Nat} (nx j:Nat),D7 P w' ts ms vs Bs f o->(∀k y,Bs[k]?=some y->(E.proj (.var r) (j+k+1)).den c.ρ=y)->
  Bs.length=Jq bs/\ ∃recs,J0 c w' nx (LB P bs) (after P r nx bs j) (D6 bs) o f recs:=by
 have nilS:∀nx,J0 c w' nx 0 [] [] [] [] []:=λnx=>⟨rfl,by simp,by simp,by simp,by simp,by simp,by simp,by simp⟩
 induction h with
 |nil=>intro Bs f o nx j hb _;cases hb;exact⟨rfl,[],by simpa[after,D6,LB]using nilS nx⟩
 | @ro ts ms v vs bs hm Fc ih=>
  intro Bs f o nx j hb hB;cases hb with
  |nil=>exact ih nx j .nil hB
  |ro _ h8=>exact ih nx j h8 hB
  |va h9 _=>rw[hm]at h9;cases h9
  |mu h9 _ _ _=>rw[hm]at h9;cases h9
  |bx h9 _ _ _ _ _ _ _=>rw[hm]at h9;cases h9
 | @va ts ms own v vs bs us hm Mj Fc ih=>
  intro Bs f o nx j hb hB;obtain⟨recs1,e1,e2,e3,e4,e5⟩:=ztO (c:=c) (w':=w') us Mj;have s1:J0 c w' nx 0 (EP us) us [] [] recs1:= .jy e1 (by rw[e2];exact List.Sublist.refl _) e3 e4 λc' ha _=>e5 c' ha;cases hb with
  |nil=>obtain⟨h1,recs2,s2⟩:=ih nx j .nil hB;exact⟨by simpa[Jq]using h1,recs1++recs2,by simpa[after,D6,LB]using s1.app s2⟩
  |ro h9 _=>rw[hm]at h9;cases h9
  |va _ h8=>obtain⟨h1,recs2,s2⟩:=ih nx j h8 hB;exact⟨by simpa[Jq]using h1,recs1++recs2,by simpa[after,D6,LB]using s1.app s2⟩
  |mu h9 _ _ _=>rw[hm]at h9;cases h9
  |bx h9 _ _ _ _ _ _ _=>rw[hm]at h9;cases h9
 | @mu t ts ms own v vs bs us rs hm Mj FO Fc ih=>
  intro Bs f o nx j hb hB;cases hb with
  |ro h9 _=>rw[hm]at h9;cases h9
  |va h9 _=>rw[hm]at h9;cases h9
  |bx h9 _ _ _ _ _ _ _=>rw[hm]at h9;cases h9
  | @mu _ _ _ own2 _ _ us2 ys y Bs f1 f o1 o h9 hg UO h8=>
   rw[hm]at h9;cases h9;obtain⟨h1,recs2,s2⟩:=ih nx (j+1) h8 (λk y hy=>by rw[show j+1+k+1=j+(k+1)+1 from by omega];exact hB (k+1) y (by simpa using hy));have hy:=hB 0 y rfl;have Pu:us2=us:=by
    split at Mj
    ·rename_i AM;rw[if_pos AM]at hg;obtain⟨rfl,_⟩:=hg;exact zV Mj
    ·rename_i AM;rw[if_neg AM]at hg;rw[hg.1,Mj]
   subst Pu;obtain⟨recs1,e1,e2,e3,e4,e5⟩:=zxx (w':=w') (mk:=D9 (.proj (.var r) (j+1)) (Ap P t)) FO hU 0 UO (by
    intro i z hz;split at hg
    ·rename_i AM;rw[AM];exact WQ (by rw[<-hg.2];exact hy) i z hz
    ·rename_i AM;have Ho:Ap P t=false:=by simpa using AM
     rw[hg.2]at hz;cases i with
     |zero=>simp at hz;subst hz;rw[Ho];simpa[D9]using hy
     |succ i=>simp at hz)
   have s1:J0 c w' nx 0 _ (CZ rs) o1 f1 recs1:= .jy e1 e2 e3 e4 e5;exact⟨by simp[Jq,h1],recs1++recs2,by simpa[after,D6,LB]using s1.app s2⟩
 | @bx t ts ms own own' ty v vs bs T b g olds hm EJ hv hK hH hol Fc ih=>
  intro Bs f o nx j hb hB;cases hb with
  |ro h9 _=>rw[hm]at h9;cases h9
  |va h9 _=>rw[hm]at h9;cases h9
  |mu h9 _ _ _=>rw[hm]at h9;cases h9
  | @bx _ _ _ own2 own3 ty2 b2 C _ _ ys y Bs f1 o1 f o h9 Ks Ds hh Cs Iu hc h8=>
   rw[hm]at h9;cases h9;rw[EJ]at Ks;cases Ks;have XU:b2=b:=by rw[hv]at Ds;cases Ds;rfl
   subst XU;obtain⟨h1,recs2,s2⟩:=ih (nx+(Bl P ty).length) (j+1) h8 (λk y hy=>by rw[show j+1+k+1=j+(k+1)+1 from by omega];exact hB (k+1) y (by simpa using hy));have hy:=hB 0 y rfl;obtain⟨recs0,d1,d2,d3,d4,d5⟩:=ztO (c:=c) (w':=w') olds hol;have s0:J0 c w' nx 0 (EP olds) olds [] [] recs0:= .jy d1 (by rw[d2];exact List.Sublist.refl _) d3 d4 λc' ha _=>d5 c' ha;obtain⟨recs1,e1,e2,e3,e4,_,e5⟩:=SF (c:=c) (nx:=nx) (mk:=D9 (.proj (.var r) (j+1)) true) hc 0 (WQ (by rw[<-Iu];exact hy));have sE:=hU _ _ hK;have s1:J0 c w' nx (Bl P ty).length ((T, .box ty g (Dg P nx (D9 (.proj (.var r) (j+1)) true) 0 (Bl P ty) own').1)::(Dg P nx (D9 (.proj (.var r) (j+1)) true) 0 (Bl P ty) own').2) [T] (b2::o1) f1 (⟨T,none,[b2], .box ty g (Dg P nx (D9 (.proj (.var r) (j+1)) true) 0 (Bl P ty) own').1⟩::recs1):=by
    refine⟨by simp[e1,A3.pair],?_,λq hq hn=> ?_,λq hq hn=> ?_,by simp,λ_ Bm=> ?_,λq hq=> ?_,λc' ha A5 q hq=> ?_⟩
    ·simp only[List.flatMap_cons,e2,List.singleton_append];exact List.Sublist.refl _
    ·rcases Ae.1 hq with rfl|hq
     ·cases hn
     ·have:=e3 q hq;omega
    ·rcases Ae.1 hq with rfl|hq
     ·exact⟨by simp,sE⟩
     ·have:=(e3 q hq).2.2;rw[hn]at this;cases this
    ·simp only[List.map_cons,List.nodup_cons];refine⟨λhm=> ?_,e4⟩;obtain⟨q,hq,hqt⟩:=List.mem_map.1 hm;have:=e3 q hq;exact Bm q.tag (by omega) (by omega) (hqt▸sE)
    ·rcases Ae.1 hq with rfl|hq
     ·simp
     ·intro hs f he;obtain⟨q1,q2⟩:=e3 q hq;have:(q.tag,q.bu)∈(Dg P nx (D9 (.proj (.var r) (j+1)) true) 0 (Bl P ty) own').2:=by
       rw[e1];exact List.mem_map.2 ⟨q,hq,rfl⟩
      exact P9 _ _ _ _ _ this he
    ·obtain⟨p1,p2⟩:=e5 c' (ha.mono λr hr=>by simp[hr]) A5;rcases Ae.1 hq with rfl|hq
     ·obtain⟨a1,a2⟩:=ha.K T 0 hK;have kg:=ha.G _ (List.mem_cons_self ..);simp only at kg;exact⟨b2,C,a1,by rw[a2,hH,hv],by rw[kg],by rw[kg],by rw[ha.w];exact hh,Cs,p1⟩
     ·exact p2 q hq
   refine⟨by simp[Jq,h1],recs0++((⟨T,none,[b2], .box ty g (Dg P nx (D9 (.proj (.var r) (j+1)) true) 0 (Bl P ty) own').1⟩::recs1)++recs2),?_⟩;have s3:=s0.app (s1.app s2);rw[Nat.zero_add]at s3;refine⟨by simpa[after]using s3.ents,s3.l5,s3.new,λq hq hn=> ?_,λt ht=> ?_,λhn Bm=> ?_,s3.ne,s3.ok⟩
   ·have:=s3.old q hq hn;simp only[D6,List.cons_append,Ae,Ac,List.not_mem_nil,or_false,List.nil_append]at this ⊢;exact⟨by rcases this.1 with h|h|h;exact .inr (.inl h);exact .inl h;exact .inr (.inr h),this.2⟩
   ·refine s3.all t ?_;simp only[D6,List.cons_append,Ae,Ac,List.nil_append]at ht ⊢;rcases ht with h|h|h
    ·exact .inr (.inl h)
    ·exact .inl h
    ·exact .inr (.inr h)
   ·refine s3.nodup ?_ Bm;simp only[D6,List.cons_append,List.nodup_cons,List.nodup_append,Ac,not_or,List.nil_append]at hn ⊢;obtain⟨⟨n1,n2⟩,n3,n4,n5⟩:=hn;refine⟨n3,⟨n2,n4⟩,λa ha b hb=> ?_⟩;rcases Ae.1 hb with rfl|hb
    ·rintro rfl;exact n1 ha
    ·exact n5 a ha b hb
end
def QC(P:Program):List TypeId->List Bool->List AV->Bool
 |t::ts,fl,y::ys=>((fl.headD false&&(C3 P t).isSome)||CW P t||y.scalar)&&QC P ts fl.tail ys
 |_,_,_=>true
def Ym(P:Program)(t:TypeId)(fl:List Bool)(x:AV):Bool:=if Gj P t fl then QC P (Bl P t) fl (if Ap P t then x.cells else [x])else CW P t||x.cells.all AV.scalar
def XA(P:Program):List TypeId->List Bool->List AV->Bool
 |t::ts,fl,x::xs=>Ym P t fl x&&XA P ts (fl.drop (Bl P t).length) xs
 |_,_,_=>true
def Vz(P:Program)(ts:List TypeId)(fl:List Bool)(R:AV):Bool:=match ts with
 | [t]=>Ym P t fl R
 |ts=>match R with
  | .tup ys=>XA P ts fl ys
  |_=>true
def IJ(P:Program):List TypeId->List PM->List AV->Bool
 |t::ts,ms,bs=>(match ms.headD .ro with
  | .ro=>IJ P ts ms.tail bs
  | .va _=>IJ P ts ms.tail bs
  | .mu _=>IJ P ts ms.tail bs.tail
  | .bx _ own'=>(match Lk P t,bs with
   |some ty,b::_=>QC P (Bl P ty) own' b.cells
   |_,_=>true)&&IJ P ts ms.tail bs.tail)
 | [],_,_=>true
def BQ:List TypeId->List PM->Bool
 |_::ts,ms=>(match ms.headD .ro with
  | .mu _=>true
  | .bx .. =>true
  |_=>false)||BQ ts ms.tail
 | [],_=>false
def Oi(P:Program)(fn:Func)(s:Hn)(r:AV):Bool:=
 if BQ (fn.params.toList++s.ft) s.cf then(match r with
  | .tup (R::bs)=>Vz P (Dz fn s) s.res R&&IJ P (fn.params.toList++s.ft) s.cf bs
  |_=>false)
 else Vz P (Dz fn s) s.res r
def Ll(P:Program)(w:World)(ts:List TypeId)(fl:List Bool)(v:Value)(R:AV)(f o:List Nat):Prop:=match ts with
 | [t]=>Ea P w t fl v R f o
 |ts=> ∃vs ys,v= .tuple vs.toArray/\R= .tup ys/\MV P w ts fl vs ys f o
structure jO(P:Program)(fn:Func)(s:Hn)(w:World)(vs:List Value)(rf hs:List Nat)(r:AV)(v:Value)(w':World):Prop where
 ex:∃R bs f1 o1 f2 o2,r=(match bs with| []=>R|_=> .tup (R::bs))/\Ll P w' (Dz fn s) s.res v R f1 o1/\D7 P w' (fn.params.toList++s.ft) s.cf vs bs f2 o2/\(o1++o2).Nodup/\
  (∀b∈o1++o2,(b∈hs\/w.heap.size<=b)/\b<w'.heap.size)/\ ∀b∈f1++f2,b∉o1++o2/\(b∈rf\/b∈hs\/w.heap.size<=b)
 mod:Mod hs w w'
theorem Rel.mj{c:Cx}{n:Nat}{sl:Nat->SV}{hp:Nat->Option Ah}{a:Act}(h:Rel c n sl hp a){hs:List Nat}(hh:∀b∈hs,∃t,b∈(c.G t).top):jI c.w (λb=>b∈hs):=by
 obtain⟨p1,p2,p3⟩:=h.base.pk;refine⟨Nat.le_trans p1 h.base.size,Mm.mono (λb hb=>h.base.block b (by omega) λhm=>by have:=p3 b hm;omega) p2,λb hb=> ?_⟩;obtain⟨t,ht⟩:=hh b hb;rcases h.gw.allow t b (by simp[GI.own,ht])with k|k
 ·have:c.w0.heap.size<=b:=k;omega
 ·exact p3 b k
def T7(P:Program)(s:Hn)(f:Nat)(xs:List AV)(r:AV):Prop:=
 ∃fn,P.funcs[f]?=some fn/\fn.body.isSome=true/\(fn.name== "runtime.NumGoroutine")=false/\Oi P fn s r=true/\xs.length=fn.params.size+fn.nfree/\s.ft.length<=fn.nfree/\
  ∀(w:World) (vs:List Value) (rf lf hs:List Nat),D8 P w (fn.params.toList++s.ft) s.cf s.lo vs xs rf lf hs->(∀b∈hs,b∉rf)->(∀b∈hs,b∉lf)->hs.Nodup->jI w (λb=>b∈hs)->
   Calls P f vs.toArray w λe w'=> ∃v,e= .returned v/\jO P fn s w vs rf hs r v w'
def Cr(P:Program)(sg:B4)(f:Nat)(xs:List AV)(r:AV):Prop:=
 if f<1000000 then∃s,sg f=some s/\T7 P s f xs r else T7 P {cf:=[],res:=[]} (f-1000000) xs r
section
variable {P:Program} {w:World}
theorem yY{v:Value}{x:AV}{f:List Nat}(h:Rd w [v] [x] f)(hx:∀y∈x.cells,y.scalar=true):f=[]:=by
 by_cases AM:∃cs,x= .agg cs
 ·obtain⟨cs,rfl⟩:=AM;obtain⟨as_,_,_,hr⟩:=K2 h rfl;exact HV hr hx
 ·have:x.cells=[x]:=by cases x<;>first|rfl|exact absurd ⟨_,rfl⟩ AM
  rw[this]at hx;exact HV h hx
theorem zwT{k el:TypeId}(h:HZ P k=some el):MH P 6 k=[k]:=by have h8:=JL h;simp only[MH,h8]
theorem zAo{t el:TypeId}(h:C3 P t=some el):CW P t=true:=by
 cases hu:P.underlying t with
 |some u=>unfold C3 at h;rw[hu]at h;cases u<;>first|(cases h;done)|simp[CW,Cg,Bl,MH,hu]
 |none=>
  unfold C3 at h;rw[hu]at h;cases h9:Q8 t with
  |some k=>
   rw[h9]at h;have e:Bl P t=[t]:=by
    unfold Bl;rw[hu,h9];show(MH P 6 k).map Vl=[t]
    rw[zwT h,List.map_cons,List.map_nil,zFX h9]
   unfold CW Cg;rw[e];simp only[List.all_cons,List.all_nil,hu,Bool.false_and,Bool.not_false]
  |none=>rw[h9]at h;cases h
theorem CA.flat{ts:List TypeId}{fl:List Bool}{us:List Value}{ys:List AV}{rf hs:List Nat}(h:CA P w ts fl us ys rf hs)(h1:Fh P ts fl=false)(h2:QC P ts fl ys=true):rf=[]:=by
 induction h with
 |nil=>rfl
 |own k1 k2 k23 _ _ ih=>
  simp only[Fh,Bool.or_eq_false_iff]at h1;simp only[QC,Ab]at h2;have hN:=k23;have hw:=h1.1;rw[zAo k2,k1]at hw;rcases hN with⟨_,rfl⟩|⟨q1,q2⟩
  ·rw[ih h1.2 h2.2];rfl
  ·simp[dE,k2,q1,q2]at hw
 |deep _ _ _ _ _ _ ih=>simp only[Fh,Bool.or_eq_false_iff]at h1;simp only[QC,Ab]at h2;exact ih h1.2 h2.2
 | @rd t ts fl u us y ys f rf hs hn hr _ ih=>
  simp only[Fh,Bool.or_eq_false_iff]at h1;simp only[QC,Ab]at h2;have Dl:(fl.headD false&&(C3 P t).isSome)=false:=by
   cases hh:fl.headD false with
   |false=>rfl
   |true=>rw[hn hh];rfl
  have fX:(fl.headD false&&dE P t)=false:=by
   cases hh:fl.headD false with
   |false=>rfl
   |true=>simp[dE,hn hh]
  rw[fX]at h1;rw[Dl]at h2;have JD:CW P t=false:=by simpa using h1.1
  rw[JD]at h2;have hs:y.scalar=true:=by simpa using h2.1
  rw[HV hr (by simpa using hs),ih h1.2 h2.2];rfl
theorem Ea.flat{t:TypeId}{fl:List Bool}{v:Value}{x:AV}{rf hs:List Nat}(h:Ea P w t fl v x rf hs)(h1:jA P t fl=false)(h2:Ym P t fl x=true):rf=[]:=by
 unfold Ea at h;unfold jA at h1;unfold Ym at h2;split at h
 ·rename_i hf;rw[if_pos hf]at h1 h2;obtain⟨us,ys,hg,hc⟩:=h;split at hg
  ·rename_i AM;obtain⟨_,rfl,_⟩:=hg;rw[if_pos AM]at h2;exact hc.flat h1 h2
  ·rename_i AM;obtain⟨_,rfl⟩:=hg;rw[if_neg AM]at h2;exact hc.flat h1 h2
 ·rename_i hf;rw[if_neg hf]at h1 h2;rw[h1]at h2;exact yY h.1 (by simpa using h2)
theorem MV.flat{ts:List TypeId}{fl:List Bool}{vs:List Value}{xs:List AV}{rf hs:List Nat}(h:MV P w ts fl vs xs rf hs)(h1:DQ P ts fl=false)(h2:XA P ts fl xs=true):rf=[]:=by
 induction h with
 |nil=>rfl
 |cons hv _ ih=>simp only[DQ,Bool.or_eq_false_iff]at h1;simp only[XA,Ab]at h2;rw[hv.flat h1.1 h2.1,ih h1.2 h2.2];rfl
theorem Ll.flat{ts:List TypeId}{fl:List Bool}{v:Value}{R:AV}{f o:List Nat}(h:Ll P w ts fl v R f o)(h1:DQ P ts fl=false)(h2:Vz P ts fl R=true):f=[]:=by
 match ts,h,h1,h2 with
 | [t],h,h1,h2=>simp only[DQ,Bool.or_false]at h1;exact Ea.flat h h1 h2
 | [],h,h1,h2=>obtain⟨vs,ys,_,rfl,hv⟩:=h;exact hv.flat h1 h2
 |t::u::ts,h,h1,h2=>obtain⟨vs,ys,_,rfl,hv⟩:=h;exact hv.flat h1 h2
theorem De.void{ety sz:Nat}{a:Option Addr}{x:AV}{top N:List Nat}(h:De w ety sz (.slice a 0 0) x top N):N=[]:=by
 obtain⟨xs,_,_,_,⟨_,_,_,h⟩|⟨g,cap,C,hv,h6,_,_,_,_,_,hr⟩⟩:=h
 ·exact h
 ·have h0:xs.length=0:=by injection hv with _ h _;exact h.symm
  have:xs=[]:=by cases xs with|nil=>rfl|cons _ _=>simp at h0
  subst this;simp[Aq]at hr;cases hr;rfl
theorem FG.flat{c:Cx}{ts:List TypeId}{fl:List Bool}{us:List Value}{rs:List (Option RI)}(h:Hh P c ts fl us rs):∀{ys:List AV} {f o:List Nat},FG P w ts fl us ys f o->rs.any RI.lent=false->f=[]:=by
 induction h with
 |nil=>intro ys f o hm _;cases hm;rfl
 |row k1 k2 k23 _ _ _ _ ih=>
  intro ys f o hm hl;simp only[List.any_cons,Bool.or_eq_false_iff,RI.lent]at hl;cases hm with
  |own _ q2 q23 _ q4=>
   rw[k2]at q2;cases q2;rcases q23 with⟨_,rfl⟩|⟨q,_⟩
   ·exact ih q4 hl.2
   ·rw[q]at hl;simp at hl
  |deep _ _ _ _ _ q=>exact ih q hl.2
  |skip _ q=>exact ih q hl.2
 |deep k1 k2 k21 k22 _ _ _ _ _ ih=>
  intro ys f o hm hl;simp only[List.any_cons,Bool.or_eq_false_iff]at hl;cases hm with
  |own _ q2 q23 _ q4=>
   rw[k2]at q2;cases q2;rcases q23 with⟨_,rfl⟩|⟨_,q⟩
   ·exact ih q4 hl.2
   ·rw[q]at k22;cases k22
  |deep _ _ _ _ _ q=>exact ih q hl.2
  |skip _ q=>exact ih q hl.2
 |none hv _ ih=>
  intro ys f o hm hl;simp only[List.any_cons,Bool.or_eq_false_iff]at hl;cases hm with
  |own q1 q2 _ q3 q4=>
   rcases hv q1 with hh|⟨a,rfl⟩
   ·rw[hh]at q2;cases q2
   ·rw[De.void q3];exact ih q4 hl.2
  |deep _ _ _ _ _ q=>exact ih q hl.2
  |skip _ q=>exact ih q hl.2
theorem D7.flat{c:Cx}{ts:List TypeId}{ms:List PM}{vs:List Value}{bs:List PA}(h:JP P c ts ms vs bs):∀{Bs:List AV} {f o:List Nat},D7 P w ts ms vs Bs f o->Ex P bs=false->IJ P ts ms Bs=true->f=[]:=by
 induction h with
 |nil=>intro Bs f o hb _ _;cases hb;rfl
 | @ro ts ms v vs bs hm _ ih=>
  intro Bs f o hb h1 h2;cases hb with
  |nil=>rfl
  |ro _ h8=>simp only[IJ,hm]at h2;exact ih h8 h1 h2
  |va h9 _=>rw[hm]at h9;cases h9
  |mu h9 _ _ _=>rw[hm]at h9;cases h9
  |bx h9 _ _ _ _ _ _ _=>rw[hm]at h9;cases h9
 | @va ts ms own v vs bs us hm _ _ ih=>
  intro Bs f o hb h1 h2;cases hb with
  |nil=>rfl
  |ro h9 _=>rw[hm]at h9;cases h9
  |va _ h8=>simp only[IJ,hm]at h2;exact ih h8 h1 h2
  |mu h9 _ _ _=>rw[hm]at h9;cases h9
  |bx h9 _ _ _ _ _ _ _=>rw[hm]at h9;cases h9
 | @mu t ts ms own v vs bs us rs hm Mj FO _ ih=>
  intro Bs f o hb h1 h2;cases hb with
  |ro h9 _=>rw[hm]at h9;cases h9
  |va h9 _=>rw[hm]at h9;cases h9
  | @mu _ _ _ own2 _ _ us2 ys y Bs f1 f o1 o h9 hg UO h8=>
   rw[hm]at h9;cases h9;simp only[IJ,hm]at h2;simp only[Ex,Bool.or_eq_false_iff]at h1;have Pu:us2=us:=by
    split at Mj
    ·rename_i AM;rw[if_pos AM]at hg;obtain⟨rfl,_⟩:=hg;exact zV Mj
    ·rename_i AM;rw[if_neg AM]at hg;rw[hg.1,Mj]
   subst Pu;rw[FG.flat FO UO h1.1,ih h8 h1.2 h2];rfl
  |bx h9 _ _ _ _ _ _ _=>rw[hm]at h9;cases h9
 | @bx t ts ms own own' ty v vs bs T b g olds hm EJ _ _ _ _ _ ih=>
  intro Bs f o hb h1 h2;cases hb with
  |ro h9 _=>rw[hm]at h9;cases h9
  |va h9 _=>rw[hm]at h9;cases h9
  |mu h9 _ _ _=>rw[hm]at h9;cases h9
  |bx h9 Ks _ _ _ hy hc h8=>rw[hm]at h9;cases h9;rw[EJ]at Ks;cases Ks;simp only[IJ,hm,EJ,Ab,hy,List.tail_cons]at h2;simp only[Ex,Bool.or_eq_false_iff]at h1;rw[hc.flat h1.1 h2.1,ih h8 h1.2 h2.2];rfl
theorem nQ{ts:List TypeId}{ms:List PM}{vs:List Value}{Bs:List AV}{f o:List Nat}(h:D7 P w ts ms vs Bs f o):Bs=[]↔BQ ts ms=false:=by
 induction h with
 |nil=>simp[BQ]
 |ro hm _ ih=>simp only[BQ,hm,Bool.false_or];exact ih
 |va hm _ ih=>simp only[BQ,hm,Bool.false_or];exact ih
 |mu hm _ _ _ _=>simp only[BQ,hm,Bool.true_or];simp
 |bx hm _ _ _ _ _ _ _ _=>simp only[BQ,hm,Bool.true_or];simp
end
section
variable {P:Program} {c:Cx} {n nx:Nat} {sl sl0:Nat->SV} {hp hp0:Nat->Option Ah} {a:Act} {o:Oper} {gs:Gd} {e:Bn} {sg:B4} {nv:Nat}
theorem zwD{xs:List Operand}:∀{ss:List SV},(∀x∈xs,∀s,BT sl0 gs x=some s->SR c [s] [a.eval x])->xs.mapM (BT sl0 gs)=some ss->SR c ss (xs.map a.eval):=by
 induction xs with
 |nil=>intro ss _ h;simp at h;subst h;exact .nil
 |cons x xs ih=>intro ss hx h;rw[List.mapM_cons]at h;simp only[Option.bind_eq_bind,Ax,Option.pure_def,Ad]at h;obtain⟨s,hs,ss',GR,rfl⟩:=h;exact(hx x (by simp) s hs).cons (ih (λy hy=>hx y (by simp[hy])) GR)
theorem Tg:∀{l:List Nat},MS l=true->l.Nodup
 | [],_=>by simp
 |x::l,h=>by simp only[MS,Ab,Be,List.contains_eq_mem,decide_eq_false_iff_not]at h;exact List.nodup_cons.2 ⟨h.1,Tg h.2⟩
theorem zAh{c1:Cx}{w':World}{recs:List A3}{hs f o:List Nat}(gw:GW c)(hg:∀t,(c1.G t).top=(c.G t).top\/(c1.G t).top=[])(hA:c1.A=c.A)(dJ:c1.Mu=c.Mu)(ND:c1.w0=c.w0)(hB:c.w0.heap.size<=c.w.heap.size)
  (hn:(recs.map A3.tag).Nodup) (Cp:∀r∈recs,∀b∈r.top,b∈o) (Hv:∀b∈hs,∃r∈recs,b∈(c.G r.tag).top) {rf:List Nat} (Nr:∀b∈rf,c1.ok b) (hf:∀b∈f,b∉o/\(b∈rf\/b∈hs\/c.w.heap.size<=b)):∀b∈f,(c1.du w' recs).ok b:=by
 intro b hb;obtain⟨h1,h2⟩:=hf b hb;have hM:(c1.du w' recs).M b-> ∃t,(∀r∈recs,r.tag≠t)/\b∈(c1.G t).top:=by
  rintro⟨t,ht⟩;by_cases hT:∃r∈recs,r.tag=t
  ·obtain⟨r,hr,rfl⟩:=hT;rw[Cx.dy hn hr]at ht;exact absurd (Cp r hr b ht) h1
  ·rw[Cx.df λr hr hh=>hT ⟨r,hr,hh⟩]at ht;exact⟨t,λr hr hh=>hT ⟨r,hr,hh⟩,ht⟩
 have sub:∀t,b∈(c1.G t).top->b∈(c.G t).top:=λt ht=>by
  rcases hg t with hh|hh
  ·rw[<-hh];exact ht
  ·rw[hh]at ht;simp at ht
 rcases h2 with h2|h2|h2
 ·refine⟨λhm=> ?_,(Nr b h2).2⟩;obtain⟨t,_,ht⟩:=hM hm;exact(Nr b h2).1 ⟨t,ht⟩
 ·obtain⟨r,hr,XW⟩:=Hv b h2;refine⟨λhm=> ?_, .inr ?_⟩
  ·obtain⟨t,EI,ht⟩:=hM hm;exact gw.cy r.tag t (EI r hr) b (by simp[GI.own,XW]) (by simp[GI.own,sub t ht])
  ·have:=gw.allow r.tag b (by simp[GI.own,XW]);simp only[Cx.du,Cx.B,ND,dJ]at this ⊢;exact this
 ·refine⟨λhm=> ?_, .inr (.inl ?_)⟩
  ·obtain⟨t,_,ht⟩:=hM hm;have:=gw.inb t b (by simp[GI.own,sub t ht]);omega
  ·simp only[Cx.du,Cx.B,ND];omega
theorem zBK(h:BJ P c n nx sl hp a sl0 hp0 o gs){cl:Call}{fo:Operand}(ho:o.op= .call cl)(AB:cl.callee= .value fo){g:Nat}{caps:BV}(hf:BT sl0 gs fo=some (.fn g caps)){as_:List SV}(has:cl.args.toList.mapM (BT sl0 gs)=some as_)
  (hg:g<1000000) (he:Xu P sg hp0 gs nv nx g (as_++caps.toList)=some e) (BB:∀c',e.call=some c'-> ∃r,c.ρ[nv]?=some r/\Jn (Cr P sg) c'.fn ((EL.of c'.args).den c.ρ) c.ρ r):AI P o c n nx sl hp gs a e:=by
 have fS:fo∈o.op.operands:=by simp[ho,Op.operands,Call.operands,AB]
 have fR:∀x∈cl.args.toList,x∈o.op.operands:=λx hx=>by
  have:x∈cl.args:=by simpa using hx
  simp[ho,Op.operands,Call.operands,AB,this]
 have Nr:=h.c7 hf fS;generalize eU:a.eval fo=fv at Nr;cases Nr with
 |fn Uq h8=>
 rename_i capv;have Aj:=(zwD (a:=a) (λx hx s hs=>h.c7 hs (fR x hx)) has).app Uq;unfold Xu at he;split at he
 ·rename_i fn s IZ Kt;split at he
  ·cases he
  rename_i hlen;simp only[Bool.or_eq_true,not_or,Bool.not_eq_true,bne_eq_false_iff_eq]at hlen;split at he
  ·cases he
  rename_i es bs us uz Bu;split at he
  ·cases he
  rename_i Cb;simp only[Bool.or_eq_true,Be,not_or,Bool.not_eq_false,Bool.not_eq_true]at Cb;obtain⟨⟨fV,Eo⟩,Mc⟩:=Cb;have US:=Tg fV;have Hp:∀u∈us,u∉D6 bs:=λu hu hh=>by rw[List.any_eq_false]at Eo;have:=Eo u hu;simp only[List.contains_eq_mem,AJ]at this;exact this hh
  have LY:∀u∈uz,u∉D6 bs:=λu hu hh=>by rw[List.any_eq_false]at Mc;have:=Mc u hu;simp only[List.contains_eq_mem,AJ]at this;exact this hh
  simp only at he;split at he
  ·cases he
  rename_i Bv;simp only[Nat.not_le]at Bv;split at he
  ·cases he
  rename_i I6;split at he
  ·cases he
  rename_i fz Ht;have hK:∀t g,c.K t g->c.U t:=h.rel.ca;obtain⟨rf,lf,hs,q1,q2,qz,q3,q4,q5,q6⟩:=zwd (P:=P) h.rel.base h.eh h.gs hK (as_++caps.toList) Bu Aj (by rw[hlen.1.2,AF,BL];have:=hlen.2;simp only[decide_eq_false_iff_not,Nat.not_lt]at this;omega);obtain⟨fts,Ij,UE⟩:∃fts,Ef hp0 gs fts=some fz/\ ∀t∈fts,t∈us:=by
   split at Ht
   ·exact⟨us,Ht,λt ht=>ht⟩
   ·simp only[Ad]at Ht;subst Ht;exact⟨[],rfl,by simp⟩
  have DN:=h.rel.freeze h.hp h.gs Ij;have Na:∀t∈fz.map (·.1),t∈us:=λt ht=>by obtain⟨⟨t',e'⟩,hm,rfl⟩:=List.mem_map.1 ht;exact UE _ ((P6 h.gs Ij).1 t' e' hm).1
  have Uc:∀t,((c.cg (fz.map (·.1))).G t).top=(c.G t).top\/((c.cg (fz.map (·.1))).G t).top=[]:=λt=>by
   simp only[Cx.cg];split
   ·exact .inr rfl
   ·exact .inl rfl
  have hGh:∀t∈D6 bs,(c.cg (fz.map (·.1))).G t=c.G t:=λt ht=>by simp only[Cx.cg];rw[if_neg];intro hh;exact Hp t (Na t hh) ht
  have rS:∀t∈D6 bs,(c.cg (fz.map (·.1))).E t=c.E t:=λt ht=>by simp only[Cx.cg];rw[if_neg];intro hh;exact Hp t (Na t hh) ht
  have gS:hs.Nodup:=by
   rw[q3];have:∀l:List Nat,l.Nodup->(l.flatMap λt=>(c.G t).top).Nodup:=by
    intro l
    induction l with
    |nil=>intro _;simp
    |cons t l ih=>intro hl;rw[List.nodup_cons]at hl;rw[List.flatMap_cons,List.nodup_append];refine⟨(List.nodup_append.1 (h.rel.gw.nodup t)).1,ih hl.2,λx hx y hy HC=> ?_⟩;subst HC;obtain⟨u,hu,hY⟩:=List.mem_flatMap.1 hy;exact h.rel.gw.cy t u (λhh=>hl.1 (hh▸hu)) x (by simp[GI.own,hx]) (by simp[GI.own,hY])
   exact this _ US
  have Kj:∀b∈hs,∃t∈D6 bs,b∈(c.G t).top:=λb hb=>by rw[q3]at hb;exact List.mem_flatMap.1 hb
  have GF:∀b∈hs,b∉rf:=λb hb hr=>by
   obtain⟨t,ht,CX⟩:=Kj b hb;rcases q2 b hr with hh|⟨u,hu,IW⟩
   ·exact hh.1 ⟨t,CX⟩
   ·exact h.rel.gw.cy t u (λhh=>Hp u hu (hh▸ht)) b (by simp[GI.own,CX]) (by simp[GI.own,IW])
  have Ka:∀b∈hs,b∉lf:=λb hb hr=>by
   obtain⟨t,ht,CX⟩:=Kj b hb;rcases qz b hr with(hh|⟨u,hu,IW⟩)|⟨h1,h2⟩
   ·exact hh.1 ⟨t,CX⟩
   ·exact h.rel.gw.cy t u (λhh=>LY u hu (hh▸ht)) b (by simp[GI.own,CX]) (by simp[GI.own,IW])
   ·rcases h.rel.gw.allow t b (by simp[GI.own,CX])with k|k
    ·have:c.w0.heap.size<=b:=k;omega
    ·exact h2 k
  have FI:∃(val:SV) (l:List (Nat × Ah)),e={call:=some ⟨.inl g,es⟩,val:=val,bu:=fz++(Vq gs l++after P nv (nx+((Dz fn s).flatMap (Bl P)).length) bs 0)}/\
    ∀(R:AV) (w':World) (v:Value) (f1 o1:List Nat),Ll P w' (Dz fn s) s.res v R f1 o1->(if Jq bs=0 then E.var nv else .proj (.var nv) 0).den c.ρ=R-> ∃recs:List A3,l=recs.map A3.pair/\recs.flatMap A3.top=o1/\(∀r∈recs,nx<=r.tag/\r.tag<nx+((Dz fn s).flatMap (Bl P)).length/\r.new.isSome)/\(recs.map A3.tag).Nodup/\
     (∀r∈recs,∀hs f,r.bu≠ .gd hs f)/\ ∀c',Fy c c' w' recs->(∀b∈f1,c'.ok b)->SR c' [val] [v]/\ ∀r∈recs,DJ c' r.tag r.bu:=by
   have A9:∀{l:List (Nat × Ah)} {recs:List A3},l=recs.map A3.pair->(∀t x,(t,x)∈l-> ∀hs f,x≠ .gd hs f)-> ∀r∈recs,∀hs f,r.bu≠ .gd hs f:=by rintro l recs rfl hh r hr;exact hh r.tag r.bu (List.mem_map.2 ⟨r,hr,rfl⟩)
   have fvne:∀(t:TypeId) (k:Nat) (fl:List Bool) (x:E) (u:Nat) (y:Ah),(u,y)∈(Ql P k t fl x).2-> ∀hs f,y≠ .gd hs f:=by
    intro t k fl x u y hy hs f;unfold Ql at hy;split at hy
    ·exact P9 _ _ _ _ _ hy
    ·simp at hy
   split at he
   ·rename_i t U9;simp only[Ad]at he;subst he;refine⟨_,_,rfl,λR w' v f1 o1 hr hR=> ?_⟩;rw[U9]at hr;obtain⟨recs,e1,e2,e3,e4,e5⟩:=yW (c:=c) (nx:=nx) (x:=if Jq bs=0 then E.var nv else .proj (.var nv) 0) (show Ea P w' t s.res v R f1 o1 from hr) hR;exact⟨recs,e1,e2,by simpa[U9]using e3,e4,A9 e1 (fvne _ _ _ _),e5⟩
   ·rename_i U9;simp only[Ad]at he;subst he;refine⟨_,_,rfl,λR w' v f1 o1 hr hR=> ?_⟩;obtain⟨vs,ys,rfl,rfl,hv⟩:∃vs ys,v= .tuple vs.toArray/\R= .tup ys/\MV P w' (Dz fn s) s.res vs ys f1 o1:=by
     unfold Ll at hr;split at hr
     ·rename_i t ht;exact absurd ht (U9 t)
     ·exact hr
    obtain⟨recs,e1,e2,e3,e4,e5⟩:=ztc (c:=c) (x:=if Jq bs=0 then E.var nv else .proj (.var nv) 0) hv nx 0 (λk y hy=>by show AV.proj ((if Jq bs=0 then E.var nv else .proj (.var nv) 0).den c.ρ) (0+k)=y;rw[hR];simp[AV.proj,hy])
    have fvsne:∀(ts:List TypeId) (k:Nat) (fl:List Bool) (x:E) (i u:Nat) (y:Ah),(u,y)∈(Oa P k ts fl x i).2-> ∀hs f,y≠ .gd hs f:=by
     intro ts
     induction ts with
     |nil=>intro k fl x i u y hy;simp[Oa]at hy
     |cons t ts ih=>
      intro k fl x i u y hy;simp only[Oa,Ac]at hy;rcases hy with hy|hy
      ·exact fvne _ _ _ _ _ _ hy
      ·exact ih _ _ _ _ _ _ hy
    exact⟨recs,e1,e2,e3,e4,A9 e1 (fvsne _ _ _ _ _),λc' ha A5=>⟨.tup (by rw[BV.ay];exact(e5 c' ha A5).1) .nil,(e5 c' ha A5).2⟩⟩
  obtain⟨val,l,rfl,Ps⟩:=FI;obtain⟨r,hr,A5⟩:=BB _ rfl;have Pq:∃s',sg g=some s'/\T7 P s' g ((EL.of es).den c.ρ) r:=by have A5:Cr P sg g ((EL.of es).den c.ρ) r:=A5;unfold Cr at A5;rwa[if_pos hg]at A5
  obtain⟨s',Bh,fn',Kf,Ev,GK,Cd,_,_,F2⟩:=Pq;rw[Kt]at Bh;cases Bh;rw[IZ]at Kf;cases Kf;rw[EL.dq]at F2;have BB:=F2 c.w _ rf lf hs q1 GF Ka gS (h.rel.mj λb hb=>by obtain⟨t,_,ht⟩:=Kj b hb;exact⟨t,ht⟩);have ex:(execOp a.eval o).run P c.w= .ok (.enter g (cl.args.map a.eval++capv.toArray)) c.w:=by
   have hb:fn.body.isNone=false:=by simpa using Ev
   simp only[execOp,ho,resolve,AB,eU,Deferred.ofValue,Sem.run_bind,Sem.run_pure,Result.andThen_ok,invoke,callFunc,run_program,IZ];simp[GK,hb]
  intro next Q hk
  unfold Oper.wp;rw[ex,Oper.upon_enter];have OY:cl.args.map a.eval++capv.toArray=((cl.args.toList.map a.eval)++capv).toArray:=by apply Array.ext';simp
  rw[OY];refine BB.mono ?_;rintro e' w' ⟨v,rfl,⟨R,Bs,f1,o1,f2,o2,Mg,AN,FH,Hx,UU,UB⟩,Bp⟩;show next (a.put o.dst v) w'
  have hBn:∀k y,Bs[k]?=some y->(E.proj (.var nv) (0+k+1)).den c.ρ=y:=by
   intro k y hy;cases Bs with
   |nil=>simp at hy
   |cons B Bs=>simp only[E.den,hr,Dt,Mg,AV.proj,Nat.zero_add,List.getElem?_cons_succ,hy]
  obtain⟨UR,recsB,hB⟩:=zzQ (w':=w') q4 hK (r:=nv) (nx+((Dz fn s).flatMap (Bl P)).length) 0 FH hBn;have hR:(if Jq bs=0 then E.var nv else .proj (.var nv) 0).den c.ρ=R:=by
   cases Bs with
   |nil=>rw[if_pos (by simpa using UR.symm)];simp only[E.den,hr,Dt,Mg]
   |cons B Bs=>rw[if_neg (by rw[<-UR];simp)];simp[E.den,hr,Mg,AV.proj]
  obtain⟨recsV,v1,v2,v3,v4,v5,v6⟩:=Ps R w' v f1 o1 AN hR;have GL:∀t,nx<=t->t<nx+(((Dz fn s).flatMap (Bl P)).length+LB P bs)-> ¬c.U t:=λt h1 h2=>h.new t h1 (by omega);have Ub:=hB.nodup US λt h1 h2=>GL t (by omega) (by omega);have Dm:((recsV++recsB).map A3.tag).Nodup:=by
   rw[List.map_append,List.nodup_append];refine⟨v4,Ub,λt1 h1 t2 h2 he=> ?_⟩;obtain⟨p1,QY,rfl⟩:=List.mem_map.1 h1;obtain⟨p2,Pn,rfl⟩:=List.mem_map.1 h2;have a1:=v3 p1 QY;cases hn:p2.new with
   |none=>exact GL p1.tag (by omega) (by omega) (he▸(hB.old p2 Pn hn).2)
   |some _=>have:=hB.new p2 Pn (by simp[hn]);omega
  have Ip:∀r∈recsV++recsB,r.new.isSome=true->nx<=r.tag/\r.tag<nx+(((Dz fn s).flatMap (Bl P)).length+LB P bs):=λr hr hn=>by
   rcases Ac.1 hr with hr|hr
   ·have:=v3 r hr;omega
   ·have:=hB.new r hr hn;omega
  have Fg:((recsV++recsB).flatMap A3.top).Sublist (o1++o2):=by rw[List.flatMap_append,v2];exact(List.Sublist.refl _).append hB.l5
  have fB:∀b∈hs,∃r∈recsV++recsB,b∈(c.G r.tag).top:=λb hb=>by obtain⟨t,ht,CX⟩:=Kj b hb;obtain⟨r,hr,rfl⟩:=hB.all t ht;exact⟨r,by simp[hr],CX⟩
  have UI:∀b∈hs,∃r∈recsV++recsB,b∈((c.cg (fz.map (·.1))).G r.tag).top:=λb hb=>by obtain⟨t,ht,CX⟩:=Kj b hb;obtain⟨r,hr,rfl⟩:=hB.all t ht;exact⟨r,by simp[hr],by rw[hGh _ ht];exact CX⟩
  have Ff:∀r∈recsV++recsB,∀b∈r.top,b∈o1++o2:=λr hr b hb=>Fg.subset (List.mem_flatMap.2 ⟨r,hr,hb⟩);have Pm:∀b∈f1++f2,((c.cg (fz.map (·.1))).du w' (recsV++recsB)).ok b:=by
   cases X7:(DQ P (Dz fn s) s.res||Ex P bs)with
   |false=>
    simp only[Bool.or_eq_false_iff]at X7;have Ca:Vz P (Dz fn s) s.res R=true/\IJ P (fn.params.toList++s.ft) s.cf Bs=true:=by
     unfold Oi at Cd;cases OQ:Bs with
     |nil=>
      rw[if_neg (by rw[(nQ FH).1 OQ];simp)]at Cd;rw[OQ]at Mg;rw[Mg]at Cd;refine⟨Cd,?_⟩;have:∀(ts:List TypeId) (ms:List PM),IJ P ts ms []=true:=by
       intro ts
       induction ts with
       |nil=>intro ms;rfl
       |cons t ts ih=>
        intro ms;unfold IJ;split
        ·exact ih _
        ·exact ih _
        ·exact ih _
        ·split
         ·rename_i hh;cases hh
         ·simpa using ih _
      exact this _ _
     |cons B Bs'=>
      rw[if_pos (by
       cases hh:BQ (fn.params.toList++s.ft) s.cf with
       |true=>rfl
       |false=>rw[(nQ FH).2 hh]at OQ;cases OQ)]at Cd
      rw[Mg,OQ]at Cd;simpa using Cd
    have e1:f1=[]:=AN.flat X7.1 Ca.1;have e2:f2=[]:=D7.flat q4 FH X7.2 Ca.2;subst e1;subst e2;simp
   |true=>rw[X7]at I6 Ht;simp only[Bool.true_and,Be,Bool.not_eq_false]at I6;simp only[if_true]at Ht;exact zAh (rf:=rf) h.rel.gw Uc rfl rfl rfl h.rel.base.size Dm Ff fB (λb hb=>WE h.rel h.eh h.gs Ht (by simpa using I6) (q2 b hb)) UB
  have Uz:after P nv (nx+((Dz fn s).flatMap (Bl P)).length) bs 0=recsB.map λr=>(r.tag,Da gs r.bu):=by
   cases QS:bs with
   |nil=>
    have:=hB.ents;rw[QS]at this;simp only[after]at this;have:recsB=[]:=by simpa using this.symm
    rw[this];rfl
   |cons b bs'=>have FC:=q6 (by rw[QS];simp);rw[<-QS,hB.ents,FC];rfl
  have BN:Vq gs l++after P nv (nx+((Dz fn s).flatMap (Bl P)).length) bs 0=(recsV++recsB).map λr=>(r.tag,Da gs r.bu):=by rw[Uz,List.map_append];congr 1;rw[v1];simp[Vq,A3.pair]
  obtain⟨FK,Cj⟩:=DN.changes (w':=w') (recs:=recsV++recsB) (hs:=hs) (gs:=gs) h.gs Bp Dm (λr hr hn=>by have:=Ip r hr hn;exact GL _ this.1 this.2) UI (Fg.nodup Hx) (λr hr b hb=>UU b (Ff r hr b hb))
   (λr hr=>by
    rcases Ac.1 hr with hr|hr
    ·exact v5 r hr
    ·exact hB.ne r hr)
   (λ_ r hr=>by
    have aft:=Cx.dr (c:=c.cg (fz.map (·.1))) (w':=w') (recs:=recsV++recsB) h.rel.ca Dm (λr hr hn=>by have:=Ip r hr hn;exact GL _ this.1 this.2);have aft':Fy c ((c.cg (fz.map (·.1))).du w' (recsV++recsB)) w' (recsV++recsB):=⟨aft.ρ,aft.w,aft.G,aft.new,aft.K,aft.old,aft.iz,λr hr Dl=>(aft.gn r hr Dl).trans (by
     rcases Ac.1 hr with hr|hr
     ·have:=(v3 r hr).2.2;rw[Dl]at this;cases this
     ·rw[rS _ (hB.old r hr Dl).1])⟩
    rcases Ac.1 hr with hr|hr
    ·exact(v6 _ (aft'.mono λr hr=>by simp[hr]) λb hb=>Pm b (by simp[hb])).2 r hr
    ·exact hB.ok _ (aft'.mono λr hr=>by simp[hr]) (λb hb=>Pm b (by simp[hb])) r hr)
  have aft:=Cx.dr (c:=c.cg (fz.map (·.1))) (w':=w') (recs:=recsV++recsB) h.rel.ca Dm (λr hr hn=>by have:=Ip r hr hn;exact GL _ this.1 this.2);have aft':Fy c ((c.cg (fz.map (·.1))).du w' (recsV++recsB)) w' (recsV++recsB):=⟨aft.ρ,aft.w,aft.G,aft.new,aft.K,aft.old,aft.iz,λr hr Dl=>(aft.gn r hr Dl).trans (by
     rcases Ac.1 hr with hr|hr
     ·have:=(v3 r hr).2.2;rw[Dl]at this;cases this
     ·rw[rS _ (hB.old r hr Dl).1])⟩
  have Kw:=(v6 _ (aft'.mono λr hr=>by simp[hr]) λb hb=>Pm b (by simp[hb])).1;rw[<-BN,<-Qq]at FK;refine hk _ ((c.cg (fz.map (·.1))).du w' (recsV++recsB)) ⟨rfl,rfl,rfl,rfl,λt ht=> ?_⟩ (FK.put (Kw.mkGd gs h.gs) o.dst);rcases ht with ht|⟨r,hr,rfl⟩
  ·exact .inl ht
  ·cases hn:r.new with
   |none=>
    rcases Ac.1 hr with hr|hr
    ·have:=(v3 r hr).2.2;rw[hn]at this;cases this
    ·exact .inl (hB.old r hr hn).2
   |some _=>have:=Ip r hr (by simp[hn]);exact .inr ⟨this.1,by simp only[B1];omega⟩
 ·cases he
end
def Cz(c:Cx)(us:List Nat):List Nat:=us.flatMap λt=>(c.G t).top
theorem oG(c:Cx):Cz c []=[]:=rfl
theorem aL(c:Cx)(u:Nat)(us:List Nat):Cz c (u::us)=(c.G u).top++Cz c us:=by simp[Cz]
theorem KS(c:Cx)(us vs:List Nat):Cz c (us++vs)=Cz c us++Cz c vs:=by simp[Cz]
theorem Ta{c:Cx}{us:List Nat}{b:Nat}:b∈Cz c us↔ ∃t∈us,b∈(c.G t).top:=by simp[Cz]
theorem aE{c:Cx}(gw:GW c):∀{l:List Nat},l.Nodup->(Cz c l).Nodup
 | [],_=>by simp[Cz]
 |t::l,hl=>by
  rw[aL,List.nodup_append];rw[List.nodup_cons]at hl;refine⟨?_,aE gw hl.2,λa ha b hb hab=> ?_⟩
  ·have:=gw.nodup t;simp only[GI.own]at this;exact(List.nodup_append.1 this).1
  ·subst hab;obtain⟨u,hu,IW⟩:=Ta.1 hb;exact gw.cy t u (λhh=>hl.1 (hh▸hu)) a (by simp[GI.own,ha]) (by simp[GI.own,IW])
section
variable {P:Program} {c:Cx} {hp:Nat->Option Ah} {gs:Gd}
theorem qF{m:Nat}{u g:Nat}{x y:E}(hx:BK hp gs m (.own u g)=some x)(hy:Jg hp gs u g=some y):x=y:=by
 cases m with
 |zero=>simp[BK]at hx
 |succ m=>simp only[BK,hy,Ad]at hx;exact hx.symm
theorem zyz{m:Nat}{x:E}(h:BK hp gs m .emp=some x):x= .lst .nil:=by
 cases m with
 |zero=>simp[BK]at h
 |succ m=>simp[BK]at h;exact h.symm
theorem zxs(eh:EH c hp)(k:BH c.ρ gs){d:DT}{s:SV}{us:List Nat}{ck:List Cn}{v:Value}{x:E}{m:Nat}(h:iJ hp gs d s=some (us,ck))(hs:SR c [s] [v])(hx:BK hp gs m s=some x)(hc:∀q∈ck,q.den c.ρ):
  DC c.w [d] [v] [x.den c.ρ] (Cz c us)/\ ∀u∈us,∃g,c.K u g:=by
 unfold iJ at h;split at h
 ·rename_i y;simp only[Ad,A4]at h;obtain⟨rfl,rfl⟩:=h;rw[LA hx];cases hs with
  |e h1 h2 h3=>
   rename_i f;have Fp:(y.den c.ρ).scalar=true:=by
    cases hl:VE y with
    |true=>cases y<;>simp[VE]at hl<;>rfl
    |false=>rw[hl]at hc;exact(Cl hc).2.2.2 rfl
   have hf:f=[]:=HV h1 (by simpa using Fp);subst hf;exact⟨.flat h1 .nil,by simp⟩
 ·split at h
  ·rename_i hh;simp only[Ad,A4]at h;obtain⟨rfl,rfl⟩:=h;rw[Mz hx];cases hs with
   |cr _=>exact⟨.void hh.1 hh.2 .nil,by simp⟩
  ·cases h
 ·split at h
  ·rename_i hh;simp only[Ad,A4]at h;obtain⟨rfl,rfl⟩:=h;rw[zyz hx];cases hs with
   |emp _=>exact⟨.void hh.1 hh.2 .nil,by simp⟩
  ·cases h
 ·rename_i e z l u g;split at h
  ·rename_i e' z' l' g' ep y hl;split at h
   ·rename_i hh;obtain⟨rfl,rfl,rfl,hb⟩:=hh;simp only[Ad,A4]at h;obtain⟨rfl,rfl⟩:=h;obtain⟨q1,q2,q3,q4,q5⟩:=eh u _ (CU hl k);rw[qF (y:=y) hx (by simp only[Jg,hl,if_true])];have hb:=AA.of_eq hb;subst hb;rw[AA.c8]at q4;cases hs with
    |own k1 k2 _=>rw[k2]at q4;exact⟨by rw[aL,oG,AE];exact q4,λw hw=>by simp at hw;subst hw;exact⟨_,k1⟩⟩
   ·cases h
  ·rename_i e' z' g' y hl;split at h
   ·rename_i hh;obtain⟨rfl,rfl,rfl,hf,hlen⟩:=hh;simp only[Ad,A4]at h;obtain⟨rfl,rfl⟩:=h;obtain⟨q1,q2,N,q4,q5,q6,q7⟩:=eh u _ (CU hl k);obtain⟨hN,_⟩:=q6 rfl;have hN:N=[]:=hN;subst hN;rw[qF (y:=y) hx (by simp only[Jg,hl,if_true])];cases hs with
    |own k1 k2 _=>rw[k2]at q4;exact⟨by rw[aL,oG,AE];exact DC.kt q4 hf hlen,λw hw=>by simp at hw;subst hw;exact⟨_,k1⟩⟩
   ·cases h
  ·cases h
 ·cases h
theorem nI(eh:EH c hp)(k:BH c.ρ gs):∀(ds:List DT) {ss:List SV} {us:List Nat} {ck:List Cn} {vs:List Value} {xs:EL} {m:Nat},Ov hp gs ds ss=some (us,ck)->SR c ss vs->CQ hp gs m ss=some xs->(∀q∈ck,q.den c.ρ)->
  DC c.w ds vs (xs.den c.ρ) (Cz c us)/\ ∀u∈us,∃g,c.K u g
 | [],[],us,ck,vs,xs,m,h,hs,hx,hc=>by
  simp[Ov]at h;obtain⟨rfl,rfl⟩:=h;cases hs;cases m with
  |zero=>simp[CQ]at hx
  |succ m=>simp[CQ]at hx;subst hx;exact⟨.nil,by simp⟩
 | [],_::_,us,ck,vs,xs,m,h,hs,hx,hc=>by simp[Ov]at h
 |_::_,[],us,ck,vs,xs,m,h,hs,hx,hc=>by simp[Ov]at h
 |d::ds,s::ss,us,ck,[],xs,m,h,hs,hx,hc=>by have:=hs.len;simp at this
 |d::ds,s::ss,us,ck,v::vs,xs,m,h,hs,hx,hc=>by
  obtain⟨j,y,ys,rfl,hy,DE,rfl⟩:=Lp hx;obtain⟨r1,r2⟩:=hs.ct;unfold Ov at h;split at h
  ·rename_i us1 ck1 us2 ck2 h1 h2;simp only[Ad,A4]at h;obtain⟨rfl,rfl⟩:=h;obtain⟨q1,q2⟩:=zxs eh k h1 r1 hy λq hq=>hc q (by simp[hq]);obtain⟨q3,q4⟩:=nI eh k ds h2 r2 DE λq hq=>hc q (by simp[hq]);refine⟨by rw[KS];exact q1.app q3,λu hu=> ?_⟩;rcases Ac.1 hu with hu|hu
   ·exact q2 u hu
   ·exact q4 u hu
  ·cases h
theorem z8(eh:EH c hp)(k:BH c.ρ gs){t:TypeId}{ds:List DT}{s:SV}{us:List Nat}{ck:List Cn}{v:Value}{x:E}(Hq:ds.length=P.cellsOf t)(hg:Ap P t=true\/P.cellsOf t=1)(h:TW P hp gs t ds s=some (x,us,ck))(hs:SR c [s] [v])(hc:∀q∈ck,q.den c.ρ):
  DC c.w ds v.cells.toList (x.den c.ρ).cells (Cz c us)/\(∀u∈v.cells.toList,u.oneCell'=true)/\(x.den c.ρ).cells.length=P.cellsOf t/\v.cells.size=P.cellsOf t/\
   (if Ap P t then∃cs,x.den c.ρ= .agg cs else(∀cs,x.den c.ρ≠ .agg cs)/\ ∀cs,x.den c.ρ≠ .tup cs)/\ ∀u∈us,∃g,c.K u g:=by
 unfold TW at h;split at h
 ·cases h
 rename_i y hy;split at h
 ·rename_i Ca;simp only[Ad,A4]at h;obtain⟨rfl,rfl,rfl⟩:=h;obtain⟨f,q1,q2⟩:=IE eh k Bg hy hs Bg (AQ _);obtain⟨c1,c2,c3,c4⟩:=Cl hc;have FI:if Ap P t then∃cs,y.den c.ρ= .agg cs/\cs.length=P.cellsOf t else(∀cs,y.den c.ρ≠ .agg cs)/\ ∀cs,y.den c.ρ≠ .tup cs:=by
   split
   ·rename_i AM;obtain⟨cs,BI⟩:=c3 AM;exact⟨cs,BI,by rw[BI]at c1;exact c1⟩
   ·rename_i AM;have:=c4 (by simpa using AM);exact⟨λcs BI=>by rw[BI]at this;simp[AV.scalar]at this,λcs BI=>by rw[BI]at this;simp[AV.scalar]at this⟩
  have hf:f=[]:=by
   cases sJ:Ap P t with
   |true=>obtain⟨cs,BI⟩:=c3 sJ;obtain⟨as_,rfl,_,r⟩:=K2 q1 BI;exact HV r (by rw[BI]at c2;exact c2)
   |false=>exact HV q1 (by simpa using c4 sJ)
  subst hf;obtain⟨o1,o2,o3,o4⟩:=oS (P:=P) q1 hg FI;refine⟨DC.kq o1 Ca (by rw[Hq];simpa using o4.symm),o2,o3,o4,?_,by simp⟩;split at FI
  ·rename_i AM;rw[if_pos AM];obtain⟨cs,BI,_⟩:=FI;exact⟨cs,BI⟩
  ·rename_i AM;rw[if_neg AM];exact FI
 ·rename_i GM;split at h
  ·cases h
  rename_i AM;have AM:(IC s).2=Ap P t:=by simpa using AM
  obtain⟨⟨us',ck'⟩,hr,h⟩:=Av.1 h;simp only[A4]at h;obtain⟨rfl,rfl,rfl⟩:=h;have single:Ap P t=false->Ov hp gs ds [s]=some (us',ck')->DC c.w ds v.cells.toList (y.den c.ρ).cells (Cz c us')/\(∀u∈v.cells.toList,u.oneCell'=true)/\(y.den c.ρ).cells.length=P.cellsOf t/\v.cells.size=P.cellsOf t/\
   (if Ap P t then∃cs,y.den c.ρ= .agg cs else(∀cs,y.den c.ρ≠ .agg cs)/\ ∀cs,y.den c.ρ≠ .tup cs)/\ ∀u∈us',∃g,c.K u g:=by
   intro AM hr;have BE:CQ hp gs (Bg+1) [s]=some (.cons y .nil):=by unfold CQ;rw[hy];rfl
   obtain⟨q1,q2⟩:=nI eh k ds hr hs BE hc;have sG:=q1.len;simp only[EL.den,Bk,List.length_nil]at sG
   match ds,sG,q1,GM,Hq with
   | [d],_,q1,GM,Hq=>
    cases d with
    |flat=>simp[DT.ch]at GM
    |row e z l=>
     obtain⟨p,q,r,rfl⟩:=q1.head;obtain⟨xs,Cu⟩:∃xs,y.den c.ρ= .sl xs:=by
      obtain⟨_,_,⟨_,_,hx,_⟩|⟨_,_,_,_,_,_,hx,_⟩⟩:=q1.inv
      ·exact⟨_,hx⟩
      ·exact⟨_,hx⟩
     rw[if_neg (by rw[AM];simp)];refine⟨?_,by simp[Value.cells,Value.oneCell'],by rw[Cu,<-Hq];rfl,by rw[<-Hq];rfl,?_,q2⟩
     ·simp only[EL.den]at q1;rw[Cu]at q1 ⊢;exact q1
     ·rw[Cu];exact⟨λcs hh=>(by cases hh),λcs hh=>(by cases hh)⟩
  cases s with
  |agg cs=>
   simp only[IC]at AM hr;obtain⟨m,l,hm,hl,rfl⟩:=W5 hy;cases hs with
   |agg h9 h1 h8=>rename_i as_;obtain⟨q1,q2⟩:=nI eh k ds hr h1 hl hc;obtain⟨l1,l2⟩:=q1.len;rw[if_pos AM.symm];exact⟨by simpa[Value.cells,AV.cells,E.den]using q1,by simpa[Value.cells]using h9,by simp only[E.den,AV.cells];omega,by simp[Value.cells];omega,⟨_,rfl⟩,q2⟩
  |_=>exact single AM.symm hr
theorem yR(eh:EH c hp)(k:BH c.ρ gs){t:TypeId}{ds:List DT}(Hq:ds.length=P.cellsOf t)(hg:Ap P t=true\/P.cellsOf t=1):∀(ss:List SV) (vs:List Value) {xs:List E} {us:List Nat} {ck:List Cn},SR c ss vs->Xa P hp gs t ds ss=some (xs,us,ck)->(∀q∈ck,q.den c.ρ)->
  DC c.w (Bz vs.length ds) (vs.flatMap λv=>v.cells.toList) (Aq (xs.map (E.den c.ρ))) (Cz c us)/\(∀v∈vs,v.cells.size=P.cellsOf t/\ ∀u∈v.cells.toList,u.oneCell'=true)/\(∀x∈xs,(x.den c.ρ).cells.length=P.cellsOf t)/\xs.length=vs.length/\ ∀u∈us,∃g,c.K u g
 | [],vs,xs,us,ck,hr,ht,hc=>by simp[Xa]at ht;obtain⟨rfl,rfl,rfl⟩:=ht;cases hr;exact⟨by simpa[Aq,Bz,Cz]using DC.nil,by simp,by simp,rfl,by simp⟩
 |s::ss,[],xs,us,ck,hr,ht,hc=>by have:=hr.len;simp at this
 |s::ss,v::vs,xs,us,ck,hr,ht,hc=>by
  obtain⟨r1,r2⟩:=hr.ct;unfold Xa at ht;split at ht
  ·rename_i x us1 ck1 xs2 us2 ck2 h1 h2;simp only[Ad,A4]at ht;obtain⟨rfl,rfl,rfl⟩:=ht;obtain⟨q1,q2,q3,q4,q5,q6⟩:=z8 eh k Hq hg h1 r1 (λq hq=>hc q (by simp[hq]));obtain⟨p1,p2,p3,p4,p5⟩:=yR eh k Hq hg ss vs r2 h2 (λq hq=>hc q (by simp[hq]));refine⟨?_,?_,?_,by simp[p4],?_⟩
   ·have:=q1.app p1;rw[Bk,Qj,KS];simpa[Aq]using this
   ·intro u hu;rcases Ae.1 hu with rfl|hu
    ·exact⟨q4,q2⟩
    ·exact p2 u hu
   ·intro u hu;rcases Ae.1 hu with rfl|hu
    ·exact q3
    ·exact p3 u hu
   ·intro u hu;rcases Ac.1 hu with hu|hu
    ·exact q6 u hu
    ·exact p5 u hu
  ·cases ht
theorem zse(eh:EH c hp)(k:BH c.ρ gs){e z:Nat}{l:List DT}{s:SV}{us:List Nat}{v:Value}{y:E}{m:Nat}(h:XD hp gs e z l s=some us)(hs:SR c [s] [v])(hy:BK hp gs m s=some y):
  ∃ys q r news N,y.den c.ρ= .sl ys/\v= .slice q ys.length r/\Src c.w z q ys.length news/\DC c.w (Bz ys.length l) news (Aq ys) N/\N.Sublist (Cz c us)/\(∀y∈ys,y.cells.length=z)/\(∀u∈news,u.oneCell'=true)/\ ∀u∈us,∃g,c.K u g:=by
 have empt:∀q,v= .slice q 0 0->y= .lst .nil->us=[]-> ∃ys q r news N,y.den c.ρ= .sl ys/\v= .slice q ys.length r/\Src c.w z q ys.length news/\DC c.w (Bz ys.length l) news (Aq ys) N/\N.Sublist (Cz c us)/\(∀y∈ys,y.cells.length=z)/\(∀u∈news,u.oneCell'=true)/\ ∀u∈us,∃g,c.K u g:=by
  rintro q rfl rfl rfl;refine⟨[],q,0,[],[],rfl,rfl,?_,by simpa[Bz,Aq]using DC.nil,by simp,by simp,by simp,by simp⟩;cases q with
  |none=>exact .inl ⟨rfl,rfl,rfl⟩
  |some p=>exact .inr ⟨p,rfl,by simp,by simp,by simp⟩
 unfold XD at h;split at h
 ·simp only[Ad]at h;cases hs with
  |cr _=>exact empt _ rfl (Mz hy) h.symm
 ·simp only[Ad]at h;cases hs with
  |emp _=>exact empt _ rfl (zyz hy) h.symm
 ·rename_i u g;split at h
  ·rename_i e' z' l' g' ep x hl;split at h
   ·rename_i hh;obtain⟨rfl,rfl,rfl,hb⟩:=hh;simp only[Ad]at h;subst h;have hb:=AA.fh hb;subst hb;obtain⟨q1,q2,q3,q4,q5⟩:=eh u _ (CU hl k);have HD:=qF (y:=x) hy (by simp only[Jg,hl,if_true]);subst HD;cases hs with
    |own k1 k2 k3=>
     rename_i p0 n0 r0;rw[k2]at q4;have hK:∀w∈ [u],∃g,c.K w g:=λw hw=>by simp at hw;subst hw;exact⟨_,k1⟩
     obtain⟨d1,d2,⟨a9,d3,d4,d5⟩|⟨g9,cap,C,ys,N1,d3,d4,d5,d6,d7,d8,d9,d10,d11,d12⟩⟩:=q4.inv
     ·cases d3;refine⟨[],_,0,[],[],d4,rfl,?_,by simpa[Bz,Aq]using DC.nil,by simp,by simp,by simp,hK⟩;cases p0 with
      |none=>exact .inl ⟨rfl,rfl,rfl⟩
      |some p=>exact .inr ⟨p,rfl,by simp,by simp,by simp⟩
     ·cases d3;rw[AA.ay]at d12;have DP:C.toList.length=r0*z:=by simpa using d9
      refine⟨ys,_,r0,_,N1,d4,rfl, .inr ⟨_,rfl,?_,λj w hw=> ?_,d11⟩,d12,?_,d10,d11,hK⟩
      ·rw[Au,DP];exact Nat.min_eq_left (BF _ d7)
      ·rw[Addr.add_lit,Nat.zero_add,EU d6];rw[List.getElem?_take]at hw;split at hw
       ·simpa using hw
       ·cases hw
      ·rw[aL,oG,AE,d5];exact List.sublist_cons_self _ _
   ·cases h
  ·cases h
 ·cases h
end
def Gy(T:List Nat):List A3:=T.map λu=>⟨u,none,[], .dead⟩
theorem zBr(T:List Nat):(Gy T).flatMap A3.top=[]:=by induction T<;>simp_all[Gy]
theorem zCq(T:List Nat):(Gy T).map A3.tag=T:=by induction T<;>simp_all[Gy]
theorem zy7(T:List Nat):((Gy T).map λr=>(r.tag,Da [] r.bu))=EP T:=by simp[Gy,EP,Da]
theorem WU{T:List Nat}{r:A3}(h:r∈Gy T):r.tag∈T/\r.new=none/\r.top=[]/\r.bu= .dead:=by obtain⟨u,hu,rfl⟩:=List.mem_map.1 h;exact⟨hu,rfl,rfl,rfl⟩
section
variable {P:Program} {c:Cx} {n nx:Nat} {sl sl0:Nat->SV} {hp hp0:Nat->Option Ah} {a:Act} {o:Oper} {gs:Gd} {e:Bn} {sg:B4} {nv:Nat}
theorem Rel.ky(h:Rel c n sl hp a){T:List Nat}(hT:T.Nodup)(G4:∀u∈T,c.U u){r0:A3}(JD:r0.tag∉T)(F6:r0.new.isSome=true-> ¬c.U r0.tag)(D3:r0.new=none->c.U r0.tag){w':World}{hs:List Nat}(Hv:∀b∈hs,b∈(c.G r0.tag).top\/b∈Cz c T)(hm:Mod hs c.w w')
  (Cb:r0.top.Nodup) (Cm:∀b∈r0.top,(b∈hs\/c.w.heap.size<=b)/\b<w'.heap.size) (A9:∀q f,r0.bu≠ .gd q f)
  (he:Ej c (c.du w' (r0::Gy T))->Fy c (c.du w' (r0::Gy T)) w' (r0::Gy T)->DJ (c.du w' (r0::Gy T)) r0.tag r0.bu):
  Rel (c.du w' (r0::Gy T)) n sl (By hp ((r0.tag,r0.bu)::EP T)) a/\Ej c (c.du w' (r0::Gy T))/\Fy c (c.du w' (r0::Gy T)) w' (r0::Gy T)/\ ∀t,(c.du w' (r0::Gy T)).U t->c.U t\/t=r0.tag:=by
 have hn:((r0::Gy T).map A3.tag).Nodup:=by rw[List.map_cons,zCq];exact List.nodup_cons.2 ⟨JD,hT⟩
 have Bm:∀r∈r0::Gy T,r.new.isSome=true-> ¬c.U r.tag:=λr hr hs=>by
  rcases Ae.1 hr with rfl|hr
  ·exact F6 hs
  ·rw[(WU hr).2.1]at hs;cases hs
 have aft:=Cx.dr (w':=w') h.ca hn Bm;obtain⟨q1,q2⟩:=h.changes (gs:=[]) (Fj _) hm hn Bm (λb hb=>by
   rcases Hv b hb with hb|hb
   ·exact⟨r0,by simp,hb⟩
   ·obtain⟨t,ht,CX⟩:=Ta.1 hb;exact⟨⟨t,none,[], .dead⟩,List.mem_cons_of_mem _ (List.mem_map.2 ⟨t,ht,rfl⟩),CX⟩)
  (by rw[List.flatMap_cons,zBr,AE];exact Cb)
  (λr hr b hb=>by
   rcases Ae.1 hr with rfl|hr
   ·exact Cm b hb
   ·rw[(WU hr).2.2.1]at hb;cases hb)
  (λr hr=>by
   rcases Ae.1 hr with rfl|hr
   ·exact A9
   ·rw[(WU hr).2.2.2];intros;simp)
  (λhk r hr=>by
   rcases Ae.1 hr with rfl|hr
   ·exact he hk aft
   ·have kg:=aft.G r (List.mem_cons_of_mem _ hr);obtain⟨_,_,e1,e2⟩:=WU hr;rw[e2];exact⟨by rw[kg,e1],by rw[kg]⟩)
 refine⟨?_,q2,aft,λt ht=> ?_⟩
 ·rw[List.map_cons,zy7]at q1;have:Da [] r0.bu=r0.bu:=rfl;rw[this]at q1;exact q1
 ·rcases ht with ht|⟨r,hr,rfl⟩
  ·exact .inl ht
  ·rcases Ae.1 hr with rfl|hr
   ·exact .inr rfl
   ·exact .inl (G4 _ (WU hr).1)
theorem AI.fg(h:BJ P c n nx sl hp a sl0 hp0 o []){T:List Nat}(hT:T.Nodup)(G4:∀u∈T,∃g,c.K u g){v':Value}{w':World}{ck:List Cn}{e z:Nat}{l:List DT}{x:E}{top:List Nat}(hr:(execOp a.eval o).run P c.w= .ok (.value v') w')(hm:Mod (Cz c T) c.w w')
  (Cb:top.Nodup) (Cm:∀b∈top,(b∈Cz c T\/c.w.heap.size<=b)/\b<w'.heap.size) (hd:DC w' [.row e z (AA.of l)] [v'] [x.den c.ρ] top):
  AI P o c n nx sl hp [] a {cq:=ck,val:= .own nx 0,bu:=(nx, .deep e z l 0 0 x)::EP T}:=by
 intro next Q hk
 unfold Oper.wp;rw[hr,Oper.upon_value];have hU:=Of h;have LW:∀u∈T,c.U u:=λu hu=>by obtain⟨g,hg⟩:=G4 u hu;exact h.rel.ca _ _ hg
 obtain⟨q1,q2,q3,q4⟩:=h.rel.ky (r0:=⟨nx,some v',top, .deep e z l 0 0 x⟩) hT LW (λhh=>hU (LW _ hh)) (λ_=>hU) (λhh=>by cases hh) (λb hb=> .inr hb) hm Cb Cm (by intros;simp) (λ_ aft=>by obtain⟨k1,k2,k3⟩:=aft.new _ (List.mem_cons_self ..) v' rfl;have kg:=aft.G _ (List.mem_cons_self ..);have ke:=aft.iz _ (List.mem_cons_self ..) rfl;simp only at k1 k2 k3 kg ke;exact⟨k1,k2,ke,by rw[k3,kg,aft.w,aft.ρ];exact hd,by rw[kg]⟩)
 obtain⟨k1,k2,k3⟩:=q3.new _ (List.mem_cons_self ..) v' rfl;simp only at k1 k3;obtain⟨p,m,r,rfl⟩:=hd.head;refine hk _ (c.du w' _) ⟨rfl,rfl,rfl,rfl,λt ht=> ?_⟩ (q1.put (SR.own k1 k3 .nil) o.dst);rcases q4 t ht with ht|rfl
 ·exact .inl ht
 ·exact .inr ⟨AQ _,by simp[B1]⟩
theorem AI.kj(h:BJ P c n nx sl hp a sl0 hp0 o []){T:List Nat}(hT:T.Nodup)(G4:∀u∈T,∃g,c.K u g){b g ep:Nat}(hb:b∉T)(hK:c.K b g)(FE:∀g',c.K b g'->g'<=g)(hE:c.E b=ep){w':World}{ck:List Cn}{e z:Nat}{l:List DT}{x:E}{top:List Nat}(hr:(execOp a.eval o).run P c.w= .ok .skip w'){hs:List Nat}(Hv:∀q∈hs,q∈(c.G b).top\/q∈Cz c T)(hm:Mod hs c.w w')
  (Cb:top.Nodup) (Cm:∀q∈top,(q∈hs\/c.w.heap.size<=q)/\q<w'.heap.size) (hd:DC w' [.row e z (AA.of l)] [c.H b g] [x.den c.ρ] top):
  AI P o c n nx sl hp [] a {cq:=ck,bu:=(b, .deep e z l g (ep+1) x)::EP T}:=by
 intro next Q hk
 unfold Oper.wp;rw[hr,Oper.upon_skip];have LW:∀u∈T,c.U u:=λu hu=>by obtain⟨g,hg⟩:=G4 u hu;exact h.rel.ca _ _ hg
 have dY:=h.rel.ca _ _ hK;obtain⟨q1,q2,q3,q4⟩:=h.rel.ky (r0:=⟨b,none,top, .deep e z l g (ep+1) x⟩) hT LW hb (λhh=>by cases hh) (λ_=>dY) Hv hm Cb Cm (by intros;simp) (λ_ aft=>by have kg:=aft.G _ (List.mem_cons_self ..);have ke:=aft.gn _ (List.mem_cons_self ..) rfl;obtain⟨k1,k2⟩:=aft.K b g hK;simp only at kg ke;exact⟨k1,λg' CG=>FE g' (aft.old b dY g' CG),by rw[ke,hE],by rw[k2,kg,aft.w,aft.ρ];exact hd,by rw[kg]⟩)
 refine hk _ (c.du w' _) ⟨rfl,rfl,rfl,rfl,λt ht=> ?_⟩ (q1.put ((SR.undef .nil).mkGd []) o.dst);rcases q4 t ht with ht|rfl
 ·exact .inl ht
 ·exact .inl dY
theorem oP{w w':World}{row:Option Nat}{S:List Nat}(h:w.grownBy w' row)(hr:∀g,row=some g->g∈S\/w.heap.size<=g):Mod S w w':=by
 refine⟨h.os,h.tape,h.output,h.size,λb hb hn=>h.block b hb λhh=> ?_⟩;rcases hr b hh.symm with h1|h1
 ·exact hn h1
 ·omega
theorem mX(h:BJ P c n nx sl hp a sl0 hp0 o []){x y:Operand}{tx:TypeId}{cl:Call}(ho:o.op= .call cl)(AB:cl.callee= .builtin .append)(C6:cl.args.toList=[x,y])(Eb:cl.argTypes.toList=[tx,tx])
  {el:TypeId} (BE:P.underlying tx=some (.slice el)) (hz:HX P el=true) {l:List DT} (hl:l.length=P.cellsOf el) {T us:List Nat} (hT:(T++us).Nodup) (G4:∀u∈T,∃g,c.K u g) {s2:SV} {ye:E} (Bi:BT sl0 [] y=some s2) (hy:BK hp0 [] Bg s2=some ye) (CI:XD hp0 [] el (P.cellsOf el) l s2=some us)
  {c0:E} {v:Value} (hv:a.eval x=v) {N:List Nat} (AX:DC c.w [.row el (P.cellsOf el) (AA.of l)] [v] [c0.den c.ρ] N) (hN:N=Cz c T) {ck:List Cn} (BW:Cn.den c.ρ (.room c0 ye (P.bytesOf el))):
  AI P o c n nx sl hp [] a {cq:=ck,val:= .own nx 0,bu:=(nx, .deep el (P.cellsOf el) l 0 0 (.app c0 ye))::EP (T++us)}:=by
 have Aj:cl.args= #[x,y]:=by apply Array.ext';simp[C6]
 have F8:cl.argTypes= #[tx,tx]:=by apply Array.ext';simp[Eb]
 have CS:y∈o.op.operands:=by simp[ho,Op.operands,Call.operands,AB,Aj]
 obtain⟨i,z,hi,F4,CY,Bv,Cv,ES⟩:=Lo hz;obtain⟨ys,q,r,news,N2,DE,Ds,Dr,O2,B7,JF,Ph,gW⟩:=zse h.eh h.gs CI (h.c7 Bi CS) hy;have Dm:=aE h.rel.gw hT;rw[KS]at Dm;have E6:∀b∈Cz c (T++us),b<c.w.heap.size:=λb hb=>by obtain⟨t,_,CX⟩:=Ta.1 hb;exact h.rel.gw.inb t b (by simp[GI.own,CX])
 obtain⟨mm,kk,F6,D3,Np,X5⟩:=BW;obtain⟨d1,d2,Bc⟩:=AX.inv;rw[AA.ay]at d2 Bc;have hU:∀u∈T++us,∃g,c.K u g:=λu hu=>by
  rcases Ac.1 hu with hu|hu
  ·exact G4 u hu
  ·exact gW u hu
 obtain⟨xs,old,N1,Cu,hold,FM,eL,Ha,Cs,Lc,OS⟩:∃(xs:List AV) (old:List Value) (N1:List Nat),c0.den c.ρ= .sl xs/\old.length=xs.length*i.size/\((xs.length=0/\ ∃q,v= .slice q 0 0)\/ ∃g cap C,v= .slice (some ⟨g,0,none⟩) xs.length cap/\xs.length<=cap/\cap<=maxLen/\c.w.heap[g]?=some (.cells C el (0,0))/\C.size=cap*i.size/\old=C.toList.take (xs.length*i.size)/\(g∈Cz c T/\g∉N1))/\
   DC c.w (Bz xs.length l) old (Aq xs) N1/\(∀y∈xs,y.cells.length=P.cellsOf el)/\(∀u∈old,u.oneCell'=true)/\(∀b∈N1,b∈Cz c T)/\N1.Nodup:=by
  rcases Bc with⟨p,rfl,FT,rfl⟩|⟨g9,cap,C,xs,N1,rfl,FT,rfl,h6,h7,h8,h9,FA,EZ,FZ⟩
  ·exact⟨[],[],[],FT,by simp, .inl ⟨rfl,p,rfl⟩,by simpa[Bz,Aq]using DC.nil,by simp,by simp,by simp,by simp⟩
  ·have Cb:(g9::N1).Nodup:=by rw[hN];exact(List.nodup_append.1 Dm).1
   rw[List.nodup_cons]at Cb;refine⟨xs,_,N1,FT,?_, .inr ⟨g9,cap,C,rfl,h7,h8,h6,by rw[<-Cv];exact h9,rfl,by rw[<-hN];simp,Cb.1⟩,by rw[<-Cv];exact FZ,FA,by rw[<-Cv];exact EZ,λb hb=>by rw[<-hN];simp[hb],Cb.2⟩;have e9:C.toList.length=cap*i.size:=by rw[<-Cv,<-h9];simp
   rw[Au,e9];exact Nat.min_eq_left (BF _ h7)
 rw[Cu]at F6;rw[DE]at D3;simp only[AV.len,AV.int.injEq,true_and]at F6 D3;have GA:(xs.length+ys.length)*i.bytes<=140737488355328:=by
  rw[<-F6,<-D3,ES]at Np;have h9:(((xs.length+ys.length)*i.bytes:Nat):Int)<=140737488355328:=by rw[Int.natCast_mul,Int.natCast_add];exact Np
  omega
 have GB:xs.length+ys.length<=140737488355328:=by rw[<-F6,<-D3]at X5;omega
 rw[Cv]at Dr;obtain⟨v',w',AW,AN⟩:=Qw (P:=P) c.w tx o.type el i z BE hi F4 CY Bv (λg9=>g9∈Cz c T/\g9∉N1) v xs.length old hold FM q ys.length r news Dr (by simp only[maxLen];omega) GA;have Dq:(execOp a.eval o).run P c.w= .ok (.value v') w':=by simp[execOp,ho,resolve,AB,Aj,F8,invoke,builtin,hv,Ds,AW]
 have Uf:∀b∈N2,b∈Cz c us:=λb hb=>B7.subset hb;have OT:N2.Nodup:=B7.nodup (List.nodup_append.1 Dm).2.1;have LZ:(E.app c0 ye).den c.ρ= .sl (xs++ys):=by simp only[E.den,Cu,DE,AV.app]
 rcases AN with⟨rfl,rfl,Ct⟩|⟨g9,cap,C,rfl,h1,h2,h3,h4,h5,h6,h7⟩
 ·have Iu:ys=[]:=List.eq_nil_of_length_eq_zero Ct;subst Iu;refine AI.fg h hT hU Dq (Mod.refl _ _) (top:=N) (by rw[hN];exact(List.nodup_append.1 Dm).1) (λb hb=>⟨.inl (by rw[KS,<-hN];simp[hb]),E6 b (by rw[KS,<-hN];simp[hb])⟩) ?_;rw[LZ,AE,<-Cu];exact AX
 ·have I0:(g9∈Cz c T\/c.w.heap.size<=g9)/\g9∉N1/\g9∉N2:=by
   rcases h7 with⟨rfl,_⟩|⟨hg,CG⟩
   ·refine⟨.inr (AQ _),λhh=> ?_,λhh=> ?_⟩
    ·have:=E6 _ (by rw[KS];exact Ac.2 (.inl (Lc _ hh)));omega
    ·have:=E6 _ (by rw[KS];exact Ac.2 (.inr (Uf _ hh)));omega
   ·exact⟨.inl hg,CG,λhh=>(List.nodup_append.1 Dm).2.2 _ hg _ (Uf _ hh) rfl⟩
  have Bo:∀b∈N1++N2,w'.heap[b]?=c.w.heap[b]?:=λb hb=>by
   have AD:b<c.w.heap.size:=E6 b (by
    rw[KS];rcases Ac.1 hb with hb|hb
    ·exact Ac.2 (.inl (Lc b hb))
    ·exact Ac.2 (.inr (Uf b hb)))
   refine h6.block b AD λhh=> ?_;cases hh;rcases Ac.1 hb with hb|hb
   ·exact I0.2.1 hb
   ·exact I0.2.2 hb
  refine AI.fg h hT hU Dq (oP h6 λg hg=> ?_) (top:=g9::(N1++N2)) ?_ (λb hb=> ?_) ?_
  ·cases hg;rcases I0.1 with hh|hh
   ·exact .inl (by rw[KS];exact Ac.2 (.inl hh))
   ·exact .inr hh
  ·refine List.nodup_cons.2 ⟨λhh=> ?_,List.nodup_append.2 ⟨OS,OT,λp hp q hq=> ?_⟩⟩
   ·rcases Ac.1 hh with hh|hh
    ·exact I0.2.1 hh
    ·exact I0.2.2 hh
   ·exact(List.nodup_append.1 Dm).2.2 p (Lc p hp) q (Uf q hq)
  ·rcases Ae.1 hb with rfl|hb
   ·refine⟨?_,Dh h3⟩;rcases I0.1 with hh|hh
    ·exact .inl (by rw[KS];exact Ac.2 (.inl hh))
    ·exact .inr hh
   ·have sC:b∈Cz c (T++us):=by
     rw[KS];rcases Ac.1 hb with hb|hb
     ·exact Ac.2 (.inl (Lc b hb))
     ·exact Ac.2 (.inr (Uf b hb))
    exact⟨.inl sC,Nat.lt_of_lt_of_le (E6 b sC) h6.size⟩
  ·rw[LZ];have hlen:(xs++ys).length=xs.length+ys.length:=AF;rw[Cv]at d1 d2 Ha JF ⊢;have:=DC.row (w:=w') (e:=el) (z:=i.size) (l:=AA.of l) (g:=g9) (cap:=cap) (C:=C) (ys:=xs++ys) (N1:=N1++N2) (ts:=[]) (vs:=[]) (xs:=[]) (N:=[]) d1 (by rw[AA.ay];exact d2) h3 (by rw[hlen];exact h1) h2 h4 (λw hw=> ?_) (by
     rw[hlen,h5];intro u hu;rcases Ac.1 hu with hu|hu
     ·exact Cs u hu
     ·exact Ph u hu) (by
     rw[hlen,h5,Wv,Lu,AA.ay];exact(eL.app O2).frame Bo) .nil
   ·rw[hlen]at this;simpa using this
   ·rcases Ac.1 hw with hw|hw
    ·exact Ha w hw
    ·exact JF w hw
end
section
variable {P:Program} {c:Cx} {n nx:Nat} {sl sl0:Nat->SV} {hp hp0:Nat->Option Ah} {a:Act} {o:Oper} {gs:Gd} {e:Bn} {sg:B4} {nv:Nat}
theorem zzJ{l:List Nat}(h:MS l=true):l.Nodup:=Tg h
theorem zsz(h:BJ P c n nx sl hp a sl0 hp0 o gs){x y:Operand}{tx ty:TypeId}{cl:Call}(ho:o.op= .call cl)(AB:cl.callee= .builtin .append)(C6:cl.args.toList=[x,y])(Eb:cl.argTypes.toList=[tx,ty])
  {s1 s2:SV} (BR:BT sl0 gs x=some s1) (Bi:BT sl0 gs y=some s2) (he:aY P hp0 gs nx tx ty s1 s2=some e) (hc:∀q∈e.cq,Cn.den c.ρ q):AI P o c n nx sl hp gs a e:=by
 have Aj:cl.args= #[x,y]:=by apply Array.ext';simp[C6]
 have DM:x∈o.op.operands:=by simp[ho,Op.operands,Call.operands,AB,Aj]
 have CS:y∈o.op.operands:=by simp[ho,Op.operands,Call.operands,AB,Aj]
 unfold aY at he;split at he
 ·cases he
 rename_i Ku;have Ku:tx=ty:=by simpa using Ku
 subst Ku;split at he
 ·rename_i el e' z dl BE D1;have Kc:=JL BE;split at he
  ·cases he
  rename_i AG;simp only[not_or,Be,Bool.not_eq_false,Bool.not_eq_true,ne_eq,Decidable.not_not]at AG;obtain⟨hz,GM,rfl,rfl⟩:=AG;obtain⟨_,_,l,Km,En⟩:=W9 (bF BE) D1;simp only[DT.row.injEq,true_and]at Km;subst Km;rw[AA.ay]at he;have r1:=h.c7 BR DM;split at he
  ·rename_i ye us hy CI;have hU:∀u∈us,∃g,c.K u g:=(zse h.eh h.gs CI (h.c7 Bi CS) hy).choose_spec.choose_spec.choose_spec.choose_spec.choose_spec.2.2.2.2.2.2.2;have Pv:us.Nodup:=by
    unfold XD at CI;split at CI
    ·simp only[Ad]at CI;subst CI;simp
    ·simp only[Ad]at CI;subst CI;simp
    ·split at CI
     ·split at CI
      ·simp only[Ad]at CI;subst CI;simp
      ·cases CI
     ·cases CI
    ·cases CI
   have Hc:0<P.cellsOf e':=by obtain⟨i,_,_,_,_,h1,h2,_⟩:=Lo hz;omega
   split at he
   ·rename_i t g;split at he
    ·rename_i e2 z2 l2 g2 ep c0 hl;split at he
     ·rename_i hh;obtain⟨rfl,rfl,hb,rfl,EI⟩:=hh;have hb:=AA.fh hb;subst hb;simp only[Ad]at he;subst he;obtain⟨q1,q2,q3,q4,q5⟩:=h.eh t _ (CU hl h.gs);generalize hv:a.eval x=v at r1;cases r1 with
      |own k1 k2 _=>rw[k2]at q4;simp only[Be,List.contains_eq_mem,decide_eq_false_iff_not]at EI;exact mX h ho AB C6 Eb Kc hz En (T:=[t]) (by simpa using List.nodup_cons.2 ⟨EI,Pv⟩) (λu hu=>by simp at hu;subst hu;exact⟨_,k1⟩) Bi hy CI hv q4 (by simp[Cz]) (hc _ (by simp))
     ·cases he
    ·cases he
   ·simp only[Ad]at he;subst he;generalize hv:a.eval x=v at r1;cases r1 with
    |emp _=>exact mX h ho AB C6 Eb Kc hz En (T:=[]) (by simpa using Pv) (by simp) Bi hy CI hv (c0:= .lst .nil) (.void Hc (by rw[AA.ay];exact En) .nil) rfl (hc _ (by simp))
   ·simp only[Ad]at he;subst he;generalize hv:a.eval x=v at r1;cases r1 with
    |cr _=>exact mX h ho AB C6 Eb Kc hz En (T:=[]) (by simpa using Pv) (by simp) Bi hy CI hv (c0:= .lst .nil) (.void Hc (by rw[AA.ay];exact En) .nil) rfl (hc _ (by simp))
   ·cases he
  ·cases he
 ·cases he
theorem AI.fy(h:BJ P c n nx sl hp a sl0 hp0 o []){T:List Nat}(hT:T.Nodup)(G4:∀u∈T,∃g,c.K u g){ck:List Cn}{el z:Nat}{l:List DT}(hz:0<z)(hl:l.length=z){x:E}{xs:List AV}{C:Array Value}{cap:Nat}(hx:x.den c.ρ= .sl xs)(AB:∀y∈xs,y.cells.length=z)(hle:xs.length<=cap)(FB:cap<=maxLen)(hC:C.size=cap*z)
  (h1:∀u∈C.toList.take (xs.length*z),u.oneCell'=true) (hD:DC c.w (Bz xs.length l) (C.toList.take (xs.length*z)) (Aq xs) (Cz c T))
  (hr:(execOp a.eval o).run P c.w= .ok (.value (.slice (some ⟨c.w.heap.size,0,none⟩) xs.length cap)) (c.w.alloc (.cells C el))):
  AI P o c n nx sl hp [] a {cq:=ck,val:= .own nx 0,bu:=(nx, .deep el z l 0 0 x)::EP T}:=by
 have E6:∀b∈Cz c T,b<c.w.heap.size:=λb hb=>by obtain⟨t,_,CX⟩:=Ta.1 hb;exact h.rel.gw.inb t b (by simp[GI.own,CX])
 have Bm:(c.w.alloc (.cells C el)).heap[c.w.heap.size]?=some (.cells C el (0,0)):=heap_alloc_new c.w _;have O7:c.w.grownBy (c.w.alloc (.cells C el)) (some c.w.heap.size):=⟨rfl,rfl,rfl,by simp,λj hj _=>Below.heap_alloc c.w _ _ hj⟩
 refine AI.fg h hT G4 hr (oP O7 λg hg=> .inr (by cases hg;exact AQ _)) (top:=c.w.heap.size::Cz c T) ?_ (λb hb=> ?_) ?_
 ·exact List.nodup_cons.2 ⟨λhh=>by have:=E6 _ hh;omega,aE h.rel.gw hT⟩
 ·rcases Ae.1 hb with rfl|hb
  ·exact⟨.inr (AQ _),by simp⟩
  ·exact⟨.inl hb,Nat.lt_of_lt_of_le (E6 b hb) (by simp)⟩
 ·rw[hx];have:=DC.row (w:=c.w.alloc (.cells C el)) (e:=el) (z:=z) (l:=AA.of l) (g:=c.w.heap.size) (cap:=cap) (C:=C) (ys:=xs) (N1:=Cz c T) (ts:=[]) (vs:=[]) (xs:=[]) (N:=[]) hz (by rw[AA.ay];exact hl) Bm hle FB hC AB h1 (by
   rw[AA.ay];exact hD.frame λb hb=>Below.heap_alloc c.w _ _ (E6 b hb)) .nil
  simpa using this
theorem zsZ(h:BJ P c n nx sl hp a sl0 hp0 o gs){t:TypeId}{m:Nat}{parts:Array (Nat × Operand)}(ho:o.op= .buildSlice t m parts){ps:List (Nat × SV)}(Le:parts.toList.mapM (λ(p:Nat × Operand)=>(BT sl0 gs p.2).map λs=>(p.1,s))=some ps)(he:bD P hp0 gs nx t m ps=some e)(hc:∀q∈e.cq,Cn.den c.ρ q):AI P o c n nx sl hp gs a e:=by
 obtain⟨e1,e2⟩:=aT (c:=c) (a:=a) (parts.toList.map (·.2)) (λx s hx hm=>h.c7 hx (by simpa[ho,Op.operands]using hm)) (λx hx=>List.mem_map.2 ⟨x,hx,rfl⟩) Le;unfold bD at he;split at he
 ·rename_i el e' zz dl Kd D1;have BE:=JL Kd;split at he
  ·cases he
  rename_i AG;simp only[not_or,Be,Bool.not_eq_false',ne_eq,Bool.not_eq_false,Bool.not_eq_true,Nat.not_lt,Decidable.not_not]at AG;obtain⟨hz,GM,rfl,rfl,BC,AM,hle,E1⟩:=AG;obtain⟨_,_,l,Km,En⟩:=W9 (bF Kd) D1;simp only[DT.row.injEq,true_and]at Km;subst Km;rw[AA.ay]at he;have AM:Ap P e'=true\/P.cellsOf e'=1:=by simpa using AM
  obtain⟨i,z,hi,F4,CY,Bv,Cv,ES⟩:=Lo hz;split at he
  ·rename_i xs us ck Nw;split at he
   ·rename_i Cb;simp only[Ad]at he;subst he;obtain⟨p1,p5,p6,p7,p8⟩:=yR h.eh h.gs En AM (ps.map (·.2)) (parts.toList.map λp=>a.eval p.2) e2 Nw hc;have hlen:(parts.toList.map λp=>a.eval p.2).length=m:=by
     have:ps.length=m:=by have:=congrArg List.length E1;simpa using this
     have h9:=congrArg List.length e1;simp at h9 ⊢;omega
    have Hz:(parts.map λ(x:Nat × Operand)=>(x.1,a.eval x.2)).toList=((parts.toList.map λp=>a.eval p.2).zipIdx 0).map λp=>(p.2,p.1):=by
     have Pa:parts.toList.map (·.1)=List.range m:=by rw[<-e1,E1]
     apply List.ext_getElem?;intro j;have hj:(parts.toList.map (·.1))[j]?=(List.range m)[j]?:=by rw[Pa]
     simp only[Array.toList_map,List.getElem?_map,List.getElem?_zipIdx]at hj ⊢;cases hp:parts.toList[j]? with
     |none=>simp
     |some p=>
      rw[hp]at hj;simp only[Option.map_some,Ad]at hj ⊢;have fH:j<m:=by
       rcases Nat.lt_or_ge j m with hh|hh
       ·exact hh
       ·rw[List.getElem?_eq_none (by simpa using hh)]at hj;cases hj
      rw[List.getElem?_range fH]at hj;simp at hj;simp[hj]
    obtain⟨C',f1,f2⟩:=oH (sz:=i.size) (λj=>some (j*i.size,i.size)) (λj=>rfl) (parts.toList.map λp=>a.eval p.2) 0 ((Array.range (m*i.size)).map (λj=>(if m*i.size=0 then #[]else z.cells)[j % (if m*i.size=0 then #[]else z.cells).size]!)) [] _ (by simp;rfl) (by simp) (by simp[hlen]) (λv hv=>by rw[<-Cv];exact(p5 v hv).1);have DP:C'.toList.length=m*P.cellsOf e':=by
     rw[f2,Cv];simp only[List.nil_append];have:∀(L:List Value),(∀v∈L,v.cells.size=i.size)->(L.flatMap λv=>v.cells.toList).length=L.length*i.size:=by
      intro L
      induction L with
      |nil=>intro _;simp
      |cons v L ih=>intro hL;simp only[List.flatMap_cons,AF,Bk,BL];rw[ih (λu hu=>hL u (by simp[hu])),hL v (by simp),Nat.add_mul];omega
     rw[this _ (λv hv=>by rw[<-Cv];exact(p5 v hv).1),hlen]
    have Jb:(xs.map (E.den c.ρ)).length=m:=by rw[List.length_map,p7,hlen]
    have B8:C'.toList.take ((xs.map (E.den c.ρ)).length*P.cellsOf e')=(parts.toList.map λp=>a.eval p.2).flatMap λv=>v.cells.toList:=by rw[Jb,<-DP,List.take_length,f2];simp
    refine AI.fy h (zzJ Cb) p8 (by omega) En (xs:=xs.map (E.den c.ρ)) (C:=C') (cap:=m) (by simp[E.den,EL.dq]) (λy hy=> ?_) (by omega) (by simp only[maxLen];have:m*1<=m*P.cellsOf e':=Nat.mul_le_mul_left _ (by omega);omega) (by rw[<-BL,DP]) ?_ ?_ ?_
    ·obtain⟨q,hq,rfl⟩:=List.mem_map.1 hy;exact p6 q hq
    ·rw[B8];intro u hu;obtain⟨v,hv,hu⟩:=List.mem_flatMap.1 hu;exact(p5 v hv).2 u hu
    ·rw[B8,Jb,<-hlen];exact p1
    ·rw[Jb];have AW:=yK (P:=P) BE BC hi F4 Cv m (by rw[<-Cv];omega) (parts.map λ(x:Nat × Operand)=>(x.1,a.eval x.2)) C' (by rw[Hz];exact f1) c.w;simp only[execOp,ho,Sem.run_bind];rw[AW];rfl
   ·cases he
  ·cases he
 ·cases he
theorem nB{w:World}:∀{ds:List DT} {ss:List SV} {vs:List Value},QA ds ss=true->SR c ss vs-> ∀{xs:EL} {m:Nat},CQ hp0 gs m ss=some xs->DC w ds vs (xs.den c.ρ) []
 | [],[],vs,_,hs,xs,m,hx=>by
  cases hs;cases m with
  |zero=>simp[CQ]at hx
  |succ m=>simp[CQ]at hx;subst hx;exact .nil
 | [],_::_,_,h,_,_,_,_=>by simp[QA]at h
 |_::_,[],_,h,_,_,_,_=>by simp[QA]at h
 |d::ds,s::ss,[],h,hs,_,_,_=>by have:=hs.len;simp at this
 |d::ds,s::ss,v::vs,h,hs,xs,m,hx=>by
  obtain⟨j,y,ys,rfl,hy,DE,rfl⟩:=Lp hx;obtain⟨r1,r2⟩:=hs.ct;simp only[QA,Ab]at h;have ih:=nB (w:=w) h.2 r2 DE;unfold wM at h;obtain⟨h1,_⟩:=h;split at h1
  ·rename_i y';rw[EL.den,LA hy];cases r1 with
   |e g1 g2 _=>
    cases y'<;>simp[VE]at h1
    ·cases g1 with
     |int hk _=>exact .flat (.int hk .nil) ih
    ·cases g1 with
     |bool _=>exact .flat (.bool .nil) ih
    ·rename_i s0;generalize hq:(E.str s0).den c.ρ=q at g1;cases g1 with
     |str hk _=>exact .flat (.str hk .nil) ih
     |_=>simp[E.den]at hq
  ·simp only[Ab,AJ,AO]at h1;rw[EL.den,Mz hy];cases r1 with
   |cr _=>exact .void h1.1 h1.2 ih
  ·cases h1
theorem DC.rep{w:World}{ds:List DT}{vs:List Value}{xs:List AV}(h:DC w ds vs xs []):∀k,DC w (Bz k ds) (List.replicate k vs).flatten (List.replicate k xs).flatten []
 |0=>by simpa[Bz]using DC.nil
 |k+1=>by rw[Qj,List.replicate_succ,List.flatten_cons,List.replicate_succ,List.flatten_cons];simpa using h.app (DC.rep h k)
theorem zu3(h:BJ P c n nx sl hp a sl0 hp0 o gs){t:TypeId}{l m:Operand}(ho:o.op= .makeSlice t l m){s1 s2:SV}(BR:BT sl0 gs l=some s1)(Bi:BT sl0 gs m=some s2)(he:cH P hp0 gs nx t s1 s2=some e)(hc:∀q∈e.cq,Cn.den c.ρ q):AI P o c n nx sl hp gs a e:=by
 have DM:l∈o.op.operands:=by simp[ho,Op.operands]
 have CS:m∈o.op.operands:=by simp[ho,Op.operands]
 unfold cH at he;split at he
 ·rename_i el e' zz dl x y Kd D1;have BE:=JL Kd;split at he
  ·cases he
  rename_i AG;simp only[not_or,Be,Bool.not_eq_false',ne_eq,Bool.not_eq_false,Bool.not_eq_true,Decidable.not_not]at AG;obtain⟨hz,GM,rfl,rfl,HC,eX⟩:=AG;have eX:gs=[]:=by simpa using eX
  subst eX;obtain⟨_,_,dl',Km,En⟩:=W9 (bF Kd) D1;simp only[DT.row.injEq,true_and]at Km;subst Km;rw[AA.ay]at he;obtain⟨i,z,hi,F4,CY,Bv,Cv,ES⟩:=Lo hz;have r1:=h.c7 BR DM;have r2:=h.c7 Bi CS;have ival:∀{x:E} {kk:IntKind} {k:Int} {v:Value},SR c [.e x] [v]->x.den c.ρ= .int kk k->v= .int kk k:=by
   intro x kk k v hr hx;cases hr with
   |e h1 _ _=>exact(Gw h1 hx).1
  split at he
  ·rename_i s hs;have hs:Fv z=some s:=by simpa[hi,F4]using hs
   split at he
   ·rename_i Yb;obtain⟨w,hw,rfl⟩:=Av.1 he;obtain⟨kk,k,hk,h0,hb,hle⟩:Cn.den c.ρ (.mkroom x (P.bytesOf e')):=Cl hc;have FR:=ival r1 hk;have Ds:=ival r2 (by rw[<-E.bb c.ρ _ _ HC];exact hk);have tE:DC c.w dl' z.cells.toList (w.den c.ρ).cells []:=by
     have Mh:=aN (c:=c) hs;unfold vV at Yb;cases s with
     |agg cs=>
      obtain⟨k9,l9,hm,hl9,rfl⟩:=W5 hw;cases Mh with
      |agg h9 h1 h8=>have:=nB (w:=c.w) Yb h1 hl9;simpa[Value.cells,AV.cells,E.den]using this
     |cr=>
      have BE:CQ hp0 [] (Bg+1) [.cr]=some (.cons w .nil):=by unfold CQ;rw[hw];rfl
      have:=nB (w:=c.w) Yb Mh BE;rw[Mz hw]at this ⊢;cases Mh with
      |cr _=>simpa[Value.cells,AV.cells,E.den,EL.den]using this
     |_=>cases Yb
    obtain⟨c1,c2⟩:=nA (w:=c.w) (ρ:=c.ρ) hs hw;obtain⟨kn,rfl⟩:=Int.eq_ofNat_of_zero_le h0;have El:(i.bytes:Int)*(kn:Int)<=281474976710656:=by rw[ES]at hb;rw[Int.mul_comm];omega
    have hlen:=c1.len;have XZ:=Z2 z.cells (by omega) kn;have AW:=run_make (P:=P) c.w t e' i z BE hi F4 kk kk kn kn (by omega) (Int.le_refl _) El (by omega);have FP:(madeCells z.cells (kn*z.cells.size)).size=kn*P.cellsOf e':=by rw[size_madeCells,CY,Cv]
    have B8:(madeCells z.cells (kn*z.cells.size)).toList.take ((List.replicate kn (w.den c.ρ)).length*P.cellsOf e')=(List.replicate kn z.cells.toList).flatten:=by rw[List.length_replicate,List.take_of_length_le (by rw[BL,FP];exact AQ _),XZ]
    have Ca:Aq (List.replicate kn (w.den c.ρ))=(List.replicate kn (w.den c.ρ).cells).flatten:=by
     clear AW FP B8 XZ hb hle El hk FR Ds h0 hc
     induction kn with
     |zero=>rfl
     |succ k ih=>simp only[List.replicate_succ,Aq,List.flatMap_cons,List.flatten_cons]at ih ⊢;rw[ih]
    refine AI.fy (T:=[]) h (by simp) (by simp) (by omega) En (xs:=List.replicate kn (w.den c.ρ)) (C:=madeCells z.cells (kn*z.cells.size)) (cap:=kn) (by simp[E.den,hk,AV.rep]) (λu hu=> ?_) (by simp) (by simp only[maxLen];omega) FP ?_ ?_ ?_
    ·rw[List.eq_of_mem_replicate hu,<-hlen,BL,CY,Cv]
    ·rw[B8];intro u hu;obtain⟨q,hq,hu⟩:=List.mem_flatten.1 hu;rw[List.eq_of_mem_replicate hq]at hu;exact c2 u hu
    ·rw[B8,List.length_replicate,Ca];exact tE.rep kn
    ·simp only[execOp,ho,FR,Ds,Sem.run_bind,Int.ofNat_eq_natCast,List.length_replicate];rw[AW,CY];rfl
   ·cases he
  ·cases he
 ·cases he
end
section
variable {P:Program} {c:Cx} {n nx:Nat} {sl sl0:Nat->SV} {hp hp0:Nat->Option Ah} {a:Act} {o:Oper} {gs:Gd} {e:Bn} {sg:B4} {nv:Nat}
theorem zR{α:Type}(cs vs:List α)(o:Nat):setVs cs o vs=cs.take o++(vs++cs.drop (o+vs.length)):=by simp[setVs]
theorem DC.setVs{w:World}{ts:List DT}{L V:List Value}{X Y:List AV}{N1 N2 M:List Nat}{p:Nat}(h1:DC w (ts.take p) (L.take p) (X.take p) N1)(h2:DC w (ts.drop (p+V.length)) (L.drop (p+V.length)) (X.drop (p+V.length)) N2)(k:DC w ((ts.drop p).take V.length) V Y M):
  DC w ts (Go.Proofs.YtalagilebkaegaaGreat.setVs L p V) (Go.Proofs.YtalagilebkaegaaGreat.setVs X p Y) (N1++(M++N2)):=by
 have hk:=k.len;have ht:ts=ts.take p++((ts.drop p).take V.length++ts.drop (p+V.length)):=by rw[<-List.drop_drop,Ck,Ck]
 rw[zR,zR];have hl:Y.length=V.length:=by omega
 rw[hl];have:=h1.app (k.app h2);rw[<-ht]at this;exact this
theorem ztR(h:BJ P c n nx sl hp a sl0 hp0 o []){t:TypeId}{x y:Operand}(ho:o.op= .store t x y){b g:Nat}{ix:E}{sz k:Nat}{s:SV}(r1:SR c [.cz b g ix sz k] [a.eval x])(r2:SR c [s] [a.eval y]){el:Nat}{l:List DT}{ep:Nat}{c0:E}(hK:c.K b g)(FE:∀g',c.K b g'->g'<=g)(hE:c.E b=ep)
  (BC:DI P t=true) (hle:k+P.cellsOf t<=sz) (F1:Ap P el=true\/(sz=1/\Ap P t=false)) (ED:Ap P t=true\/P.cellsOf t=1)
  {xe:E} {us:List Nat} {ck:List Cn} (CI:TW P hp0 [] t ((l.drop k).take (P.cellsOf t)) s=some (xe,us,ck)) (IX:∀q∈ck,q.den c.ρ) (Cb:us.Nodup) (hb:b∉us)
  (Cm:∀(kk:IntKind) (kv:Int),ix.den c.ρ= .int kk kv-> ∃(m cap:Nat) (C:Array Value) (ys:List AV) (N1 N2:List Nat),c.H b g= .slice (some ⟨m,0,none⟩) ys.length cap/\c0.den c.ρ= .sl ys/\0<sz/\l.length=sz/\c.w.heap[m]?=some (.cells C el (0,0))/\ys.length<=cap/\cap<=maxLen/\C.size=cap*sz/\(∀y∈ys,y.cells.length=sz)/\(∀w∈C.toList.take (ys.length*sz),w.oneCell'=true)/\
   (m::(N1++N2)).Nodup/\(∀q∈m::(N1++N2),q∈(c.G b).top)/\DC c.w ((Bz ys.length l).take (kv.toNat*sz+k)) ((C.toList.take (ys.length*sz)).take (kv.toNat*sz+k)) ((Aq ys).take (kv.toNat*sz+k)) N1/\
   DC c.w ((Bz ys.length l).drop (kv.toNat*sz+k+P.cellsOf t)) ((C.toList.take (ys.length*sz)).drop (kv.toNat*sz+k+P.cellsOf t)) ((Aq ys).drop (kv.toNat*sz+k+P.cellsOf t)) N2):
  AI P o c n nx sl hp [] a {cq:=ck,bu:=(b, .deep el sz l g (ep+1) (.set c0 ix (.put (.idx c0 ix) k xe (Ap P el))))::EP us}:=by
 generalize hv:a.eval x=v at r1;cases r1 with
 |cz k1 k2 k3 k4 k5 k6=>
  rename_i m0 len cap0 kk kv;obtain⟨m,cap,C,ys,N1,N2,p1,p2,p3,p4,p5,p6,p7,p8,p9,p10,p11,p12,p13,p14⟩:=Cm kk kv k3;rw[k2]at p1;cases p1;have I3:kv.toNat<ys.length:=by omega
  have hmul:(kv.toNat+1)*sz<=ys.length*sz:=BF _ (by omega);have E9:ys.length*sz<=cap0*sz:=BF _ p6;rw[Nat.add_mul]at hmul;have DP:C.toList.length=cap0*sz:=by simpa using p8
  obtain⟨q1,q2,q3,q4,q5,q6⟩:=z8 h.eh h.gs (by rw[Au,Bx,p4];omega) ED CI r2 IX;have GN:=Ot I3;generalize JG:(AV.sl ys).nth kv.toNat=yk at GN;have Ga:=p9 yk (List.mem_of_getElem? GN);have EK:(a.eval y).cells.toList.length=P.cellsOf t:=by simpa using q4
  obtain⟨m1,m2,m3⟩:=ZY (vs:=(a.eval y).cells.toList) p5 (show(kv.toNat*sz+k)+_<=C.size by rw[EK,p8];omega);have Pe:(C.toList.take (ys.length*sz)).length=ys.length*sz:=by rw[Au,DP];omega
  have Io:m0∈(c.G b).top:=p12 _ (by simp);have Mk:∀q∈Cz c us,q∉(c.G b).top:=λq hq hh=>by obtain⟨u,hu,gJ⟩:=Ta.1 hq;exact h.rel.gw.cy u b (λhh=>hb (hh▸hu)) q (by simp[GI.own,gJ]) (by simp[GI.own,hh])
  have Ng:∀q∈Cz c us,q<c.w.heap.size:=λq hq=>by obtain⟨u,_,gJ⟩:=Ta.1 hq;exact h.rel.gw.inb u q (by simp[GI.own,gJ])
  have Nf:∀q∈(c.G b).top,q<c.w.heap.size:=λq hq=>h.rel.gw.inb b q (by simp[GI.own,hq]);have Bo:∀q,q∈Cz c us\/(q∈N1++N2)->(putCells c.w m0 (kv.toNat*sz+k) (a.eval y).cells.toList).heap[q]?=c.w.heap[q]?:=λq hq=>by
   refine m1.block q ?_ ?_
   ·rcases hq with hq|hq
    ·exact Ng q hq
    ·exact Nf q (p12 q (by simp[Ac.1 hq]))
   ·simp only[List.mem_singleton];rintro rfl;rcases hq with hq|hq
    ·exact Mk _ hq Io
    ·exact(List.nodup_cons.1 p11).1 hq
  have hz:(yk.di k (xe.den c.ρ) (Ap P el)).cells=setVs yk.cells k (xe.den c.ρ).cells:=by
   refine oD ?_ (λhg=> ?_)
   ·cases hg:Ap P el with
    |true=>exact .inr rfl
    |false=>
     left;rcases F1 with h'|⟨_,h'⟩
     ·rw[hg]at h';cases h'
     ·rw[h']at q5;exact λcs=>(q5.1 cs)
   ·rcases F1 with h'|⟨h1,h'⟩
    ·rw[hg]at h';cases h'
    ·rw[h']at q5;have Ux:P.cellsOf t=1:=by rcases ED with h2|h2;rw[h']at h2;cases h2;exact h2
     refine⟨by omega,by omega,?_⟩;cases hF:xe.den c.ρ<;>first|rfl|exact absurd hF (q5.1 _)
  have E3:Aq (ys.set kv.toNat (yk.di k (xe.den c.ρ) (Ap P el)))=setVs (Aq ys) (kv.toNat*sz+k) (xe.den c.ρ).cells:=
   bC ys _ _ yk k _ p9 GN (by rw[q3];exact hle) hz
  have Hq:((Bz ys.length l).drop (kv.toNat*sz+k)).take (P.cellsOf t)=(l.drop k).take (P.cellsOf t):=by rw[<-p4];exact WH l _ _ _ _ I3 (by omega)
  have AW:(execOp a.eval o).run P c.w= .ok .skip (putCells c.w m0 (kv.toNat*sz+k) (a.eval y).cells.toList):=by have:=nE (P:=P) (t:=t) (v:=a.eval y) (off:=kv.toNat*sz+k) p5 BC q4 (by rw[q4,p8];omega) q2;simp[execOp,ho,hv,this]
  refine AI.kj h Cb q6 hb hK FE hE AW (hs:=(c.G b).top++Cz c us) (λq hq=>Ac.1 hq) ⟨m1.os,m1.tape,m1.output,m1.size,λq hq hn=>m1.block q hq λhh=>hn (by simp only[List.mem_singleton]at hh;subst hh;exact Ac.2 (.inl Io))⟩
   (top:=m0::(N1++(Cz c us++N2))) ?_ (λq hq=> ?_) ?_
  ·have hnT:=aE h.rel.gw Cb;rw[List.nodup_cons,List.nodup_append]at p11;obtain⟨n1,n2,n3,n4⟩:=p11;have a1:∀q∈Cz c us,q∉N1/\q∉N2/\q≠m0:=λq hq=>⟨λhh=>Mk q hq (p12 q (by simp[hh])),λhh=>Mk q hq (p12 q (by simp[hh])),λhh=>Mk q hq (hh▸Io)⟩
   rw[List.nodup_cons,List.nodup_append,List.nodup_append];refine⟨λhh=> ?_,n2,⟨hnT,n3,λp hp q hq X2=>(a1 p hp).2.1 (X2▸hq)⟩,λp hp q hq X2=> ?_⟩
   ·simp only[Ac]at hh n1;rcases hh with hh|hh|hh
    ·exact n1 (.inl hh)
    ·exact(a1 _ hh).2.2 rfl
    ·exact n1 (.inr hh)
   ·rcases Ac.1 hq with hq|hq
    ·exact(a1 q hq).1 (X2▸hp)
    ·exact n4 p hp q hq X2
  ·have:q∈(c.G b).top\/q∈Cz c us:=by
    simp only[Ae,Ac]at hq;rcases hq with rfl|hq|hq|hq
    ·exact .inl Io
    ·exact .inl (p12 q (by simp[hq]))
    ·exact .inr hq
    ·exact .inl (p12 q (by simp[hq]))
   refine⟨.inl (Ac.2 this),Nat.lt_of_lt_of_le ?_ m1.size⟩;rcases this with hh|hh
   ·exact Nf q hh
   ·exact Ng q hh
  ·have Cw:(E.set c0 ix (.put (.idx c0 ix) k xe (Ap P el))).den c.ρ= .sl (ys.set kv.toNat (yk.di k (xe.den c.ρ) (Ap P el))):=by
    simp only[E.den,p2,k3,AV.idx,JG,AV.de]
   rw[Cw,k2];have En:(ys.set kv.toNat (yk.di k (xe.den c.ρ) (Ap P el))).length=ys.length:=List.length_set;have:=DC.row (w:=putCells c.w m0 (kv.toNat*sz+k) (a.eval y).cells.toList) (e:=el) (z:=sz) (l:=AA.of l) (g:=m0) (cap:=cap0) (ys:=ys.set kv.toNat (yk.di k (xe.den c.ρ) (Ap P el))) (N1:=N1++(Cz c us++N2)) (ts:=[]) (vs:=[]) (xs:=[]) (N:=[]) p3 (by rw[AA.ay];exact p4) m2 (by rw[En];exact p6) p7 (by rw[List.size_toArray,Te _ _ _ (by rw[EK,DP];omega),BL];exact p8) (λw hw=> ?_) ?_ ?_ .nil
   ·rw[En]at this;simpa using this
   ·rcases List.mem_or_eq_of_mem_set hw with hw|rfl
    ·exact p9 w hw
    ·rw[hz,Te _ _ _ (by rw[q3,Ga];exact hle)];exact Ga
   ·simp only[En,List.toList_toArray];rw[S8 _ _ _ _ (by rw[EK];omega) (by rw[DP];omega)];intro u hu;unfold setVs at hu;simp only[Ac]at hu;rcases hu with(hu|hu)|hu
    ·exact p10 u (BA hu)
    ·exact q2 u hu
    ·exact p10 u (BM hu)
   ·simp only[En,List.toList_toArray];rw[S8 _ _ _ _ (by rw[EK];omega) (by rw[DP];omega),E3,AA.ay];refine DC.setVs (p13.frame λq hq=>Bo q (.inr (by simp[hq]))) ?_ ?_
    ·rw[EK];exact p14.frame λq hq=>Bo q (.inr (by simp[hq]))
    ·rw[EK,Hq];exact q1.frame λq hq=>Bo q (.inl hq)
theorem ztb(h:BJ P c n nx sl hp a sl0 hp0 o gs){t:TypeId}{x y:Operand}(ho:o.op= .store t x y){b g:Nat}{ix:E}{sz k:Nat}{s:SV}(AX: ¬ ∃e z g c d,Dv hp0 gs b=some (.row e z g c d))(hx:BT sl0 gs x=some (.cz b g ix sz k))(hy:BT sl0 gs y=some s)
  (he:Og P hp0 gs t (.cz b g ix sz k) s=some e) (hc:∀q∈e.cq,Cn.den c.ρ q):AI P o c n nx sl hp gs a e:=by
 have r1:=h.c7 hx (by simp[ho,Op.operands]);have r2:=h.c7 hy (by simp[ho,Op.operands]);simp only[Og]at he;split at he
 ·rename_i hl;exact absurd ⟨_,_,_,_,_,hl⟩ AX
 ·rename_i el sz' l g' ep c0 hl;split at he
  ·rename_i hh;obtain⟨rfl,rfl,rfl,BC,hle,F1,ED⟩:=hh;split at he
   ·rename_i xe us ck CI;split at he
    ·cases he
    rename_i EI;simp only[Bool.or_eq_true,Be,not_or,Bool.not_eq_false,Bool.not_eq_true,List.contains_eq_mem,decide_eq_false_iff_not]at EI;simp only[Ad]at he;subst he;obtain⟨e1,e2,e3,e4,e5⟩:=h.eh b _ (CU hl h.gs);refine ztR h ho r1 r2 e1 e2 e3 BC hle (by simpa using F1) ED CI hc (Tg EI.1) EI.2 λkk kv UJ=> ?_;generalize a.eval x=v at r1;cases r1 with
    |cz k1 k2 k3 k4 k5 _=>
     rw[k3]at UJ;cases UJ;obtain⟨d1,d2,⟨a9,d3,_⟩|⟨g9,cap9,C,ys,N,d3,d4,d5,d6,d7,d8,d9,d10,d11,d12⟩⟩:=e4.inv
     ·rw[k2]at d3;cases d3;omega
     ·rw[AA.ay]at d2 d12;obtain⟨N1,N2,N3,rfl,s1,s2,s3⟩:=d12.split (kv.toNat*sz+k) (P.cellsOf t);have Cb:=h.rel.gw.nodup b;simp only[GI.own,e5,AE,d5]at Cb;refine⟨g9,cap9,C,ys,N1,N3,d3,d4,d1,d2,d6,d7,d8,d9,d10,d11,?_,λq hq=> ?_,s1,s3⟩
      ·refine List.Sublist.nodup (List.Sublist.cons_cons _ ?_) Cb;rw[List.append_assoc];exact List.Sublist.append (List.Sublist.refl _) (List.sublist_append_right _ _)
      ·rw[d5];simp only[Ae,Ac]at hq ⊢;rcases hq with hq|hq|hq
       ·exact .inl hq
       ·exact .inr (.inl (.inl hq))
       ·exact .inr (.inr hq)
   ·cases he
  ·cases he
 ·rename_i el sz' l g' ep c0 i' o' u' hl;split at he
  ·rename_i hh;obtain⟨rfl,rfl,rfl,BC,rfl,hib,hle,Ux,ED,F1⟩:=hh;have ED:Ap P t=false:=by simpa using ED
   split at he
   ·rename_i xe us ck CI;split at he
    ·cases he
    rename_i EI;simp only[Bool.or_eq_true,Be,not_or,Bool.not_eq_false,Bool.not_eq_true,List.contains_eq_mem,decide_eq_false_iff_not]at EI;simp only[Ad]at he;subst he;obtain⟨e1,e2,e3,⟨m,cap,C,ys,kk,kv,N1,N2,p1,p2,p3,p4,p5,p6,p7,p7',p8,p9,p10,p11,p12,p13,p14,p15,p16,p17,p18⟩,e5⟩:=h.eh b _ (CU hl h.gs);refine ztR h ho r1 r2 e1 e2 e3 BC (by omega) (F1.imp id λhh=>⟨hh,ED⟩) (.inr Ux) (by rw[Ux];exact CI) hc (Tg EI.1) EI.2 λkk' kv' UJ=> ?_;rw[E.bb c.ρ _ _ hib,p3]at UJ;cases UJ;have Cb:=h.rel.gw.nodup b;simp only[GI.own,e5,AE,p14]at Cb;exact⟨m,cap,C,ys,N1,N2,p1,p2,p7,p7',p8,p9,p10,p11,p12,p13,Cb,λq hq=>by rw[p14];exact hq,p17,by rw[Ux];exact p18⟩
   ·cases he
  ·cases he
 ·cases he
end
section
variable {P:Program} {c:Cx} {n nx:Nat} {sl sl0:Nat->SV} {hp hp0:Nat->Option Ah} {a:Act} {o:Oper} {gs:Gd} {e:Bn} {sg:B4} {nv:Nat}
theorem oV{w:World}{ety sz:Nat}{p:Option Addr}{m r:Nat}{x:AV}{top N:List Nat}(h:De w ety sz (.slice p m r) x top N):∃xs,x= .sl xs/\xs.length=m/\m<=r/\0<sz/\(∀y∈xs,y.cells.length=sz)/\
  ((xs=[]/\m=0/\r=0/\top=[]/\N=[])\/ ∃g C,p=some ⟨g,0,none⟩/\r<=maxLen/\w.heap[g]?=some (.cells C ety (0,0))/\C.size=r*sz/\top=[g]/\(∀u∈C.toList.take (m*sz),u.oneCell'=true)/\Rd w (C.toList.take (m*sz)) (Aq xs) N):=by
 obtain⟨xs,rfl,h2,h3,⟨rfl,⟨a,hv⟩,rfl,rfl⟩|⟨g,cap',C,hv,h6,h7,h8,h9,rfl,FA,EZ⟩⟩:=h
 ·cases hv;exact⟨[],rfl,rfl,AQ _,h3,by simp, .inl ⟨rfl,rfl,rfl,rfl,rfl⟩⟩
 ·cases hv;exact⟨xs,rfl,rfl,h6,h3,h2, .inr ⟨g,C,rfl,h7,h8,h9,rfl,FA,EZ⟩⟩
theorem zu8(h:BJ P c n nx sl hp a sl0 hp0 o gs){t:TypeId}{x:Operand}{lo hi mx:Option Operand}(ho:o.op= .slice t x lo hi mx){s:SV}(hs:BT sl0 gs x=some s){l' h' m':Option SV}(BY:IM (BT sl0 gs) lo=some l')(Ik:IM (BT sl0 gs) hi=some h')(Dd:IM (BT sl0 gs) mx=some m')(he:bZ P hp0 gs t s l' h' m'=some e)(hc:∀q∈e.cq,Cn.den c.ρ q):AI P o c n nx sl hp gs a e:=by
 have hm:x∈o.op.operands:=by simp[ho,Op.operands]
 have Ko:∀y,lo=some y->y∈o.op.operands:=λy hy=>by simp[ho,Op.operands,hy]
 have I5:∀y,hi=some y->y∈o.op.operands:=λy hy=>by simp[ho,Op.operands,hy]
 have hx:=h.c7 hs hm;have ival:∀{x:E} {kk:IntKind} {k:Int} {v:Value},SR c [.e x] [v]->x.den c.ρ= .int kk k->v= .int kk k:=by
  intro x kk k v hr hx;cases hr with
  |e h1 _ _=>exact(Gw h1 hx).1
 have ex:(execOp a.eval o).run P c.w=((Instr.sliceAt t (a.eval x) (lo.map a.eval) (hi.map a.eval) (mx.map a.eval)).run P c.w).andThen λv w=> .ok (.value v) w:=by simp[execOp,ho]
 unfold bZ at he;split at he
 ·rename_i el0 b g BE;have hu:=JL BE;split at he
  ·cases he
  rename_i BC;have BC:DI P el0=true:=by simpa using BC
  have Kp:mx=none:=by
   rcases He Dd with⟨hh,_⟩|⟨_,_,_,_,hh⟩
   ·exact hh
   ·cases hh
  subst Kp;split at he
  ·rename_i el z g' c0 d hl;split at he
   ·cases he
   rename_i AG;simp only[not_or,Decidable.not_not,ne_eq]at AG;obtain⟨rfl,rfl,rfl⟩:=AG;obtain⟨q1,q2,N,q3,q4,q5,q6⟩:=h.eh b _ (CU hl h.gs);generalize hv:a.eval x=v at hx ex;cases hx with
   |own k1 k2 k3=>
    rename_i p m r;rw[k2]at q3;obtain⟨xs,Cu,Jb,Pg,Bv,AB,Bc⟩:=oV q3;split at he
    ·rename_i l;simp only[Ad]at he;subst he;obtain⟨ka,ai,kb,bi,mm,d1,d2,d3,d4,d5,d6⟩:Cn.den c.ρ (.win c0 l (.len c0)):=Cl hc;have X0:mm=(m:Int):=by rw[Cu]at d3;simp only[AV.len,AV.int.injEq,true_and]at d3;omega
     obtain⟨an,rfl⟩:=Int.eq_ofNat_of_zero_le d4;obtain⟨ol,BZ,hol⟩:∃ol,lo=some ol/\BT sl0 [] ol=some (.e l):=by
      rcases He BY with⟨_,hh⟩|⟨ol,sl',Kh,O8,O9⟩
      ·cases hh
      ·cases O9;exact⟨ol,Kh,O8⟩
     have Ki:hi=none:=by
      rcases He Ik with⟨hh,_⟩|⟨_,_,_,_,hh⟩
      ·exact hh
      ·cases hh
     subst BZ;subst Ki;have L8:=ival (h.c7 hol (Ko _ rfl)) d1;have hle:an<=m:=by omega
     have AW:=Wq (P:=P) (w:=c.w) (lo:=(some ol).map a.eval) (hi:=(none:Option Operand).map a.eval) hu BC p m r an m (.inr ⟨ka,by rw[Option.map_some,L8]⟩) (.inl ⟨rfl,rfl⟩) hle (AQ _) Pg;have:=SR.wown (c:=c) (lo:=l) (sz:=P.cellsOf el) (q':=if r=an then p else p.map (·.add (an*P.cellsOf el))) (r:=r-an) k1 k2 d1 d4 (by omega) (λAD=>by
      rcases Bc with⟨_,Ct,_⟩|⟨g9,C,rfl,_⟩
      ·omega
      ·exact⟨g9,rfl,by rw[if_neg (by omega)];simp[Addr.add_lit],by simp⟩) .nil
     refine AI.pure h (v:=sliced p an m r (P.cellsOf el)) ?_ (by simpa[sliced]using this) rfl;rw[ex];show Result.andThen (Sem.run P (Instr.sliceAt t (.slice p m r) ((some ol).map a.eval) ((none:Option Operand).map a.eval) none) c.w) _=_;rw[AW];rfl
    ·rename_i hb;simp only[Ad]at he;subst he;obtain⟨ka,ai,kb,bi,mm,d1,d2,d3,d4,d5,d6⟩:Cn.den c.ρ (.win c0 (.int .i64 0) hb):=Cl hc;have X0:mm=(m:Int):=by rw[Cu]at d3;simp only[AV.len,AV.int.injEq,true_and]at d3;omega
     simp only[E.den,AV.int.injEq]at d1;obtain⟨_,rfl⟩:=d1;obtain⟨bn,rfl⟩:=Int.eq_ofNat_of_zero_le d5;obtain⟨oh,Ki,gB⟩:∃oh,hi=some oh/\BT sl0 [] oh=some (.e hb):=by
      rcases He Ik with⟨_,hh⟩|⟨ol,sl',Kh,O8,O9⟩
      ·cases hh
      ·cases O9;exact⟨ol,Kh,O8⟩
     have BZ:lo=none:=by
      rcases He BY with⟨hh,_⟩|⟨_,_,_,_,hh⟩
      ·exact hh
      ·cases hh
     subst BZ;subst Ki;have L8:=ival (h.c7 gB (I5 _ rfl)) d2;have hle:bn<=m:=by omega
     have AW:=Wq (P:=P) (w:=c.w) (lo:=(none:Option Operand).map a.eval) (hi:=(some oh).map a.eval) hu BC p m r 0 bn (.inl ⟨rfl,rfl⟩) (.inr ⟨kb,by rw[Option.map_some,L8]⟩) (Nat.zero_le _) hle Pg;have Dw:sliced p 0 bn r (P.cellsOf el)= .slice p bn r:=by
      unfold sliced;rcases Bc with⟨_,_,rfl,_⟩|⟨g9,C,rfl,_⟩
      ·simp
      ·split<;>simp[Addr.add_lit]
     rw[Dw]at AW;have Dq:(execOp a.eval o).run P c.w= .ok (.value (.slice p bn r)) c.w:=by rw[ex];show Result.andThen (Sem.run P (Instr.sliceAt t (.slice p m r) ((none:Option Operand).map a.eval) ((some oh).map a.eval) none) c.w) _=_;rw[AW];rfl
     have Bm: ¬c.K b (g+1):=λhk=>by have:=q2 _ hk;omega
     have hrel:=h.rel;have Em:=hrel.bg (gs:=[]) (t:=b) (g:=g+1) (w':=c.w) (row:=(c.G b).top.head?) (top:=(c.G b).top) (O:=if d=true then(c.G b).O else []) (v:= .slice p bn r) (.inr (by omega)) Bm ⟨rfl,rfl,rfl,AQ _,λ_ _ _=>rfl⟩ (λg0 FC=> .inl (List.mem_of_mem_head? FC)) (by
       rcases Bc with⟨_,_,_,ht,_⟩|⟨g9,C,_,_,_,_,ht,_⟩
       ·exact .inl ht
       ·exact .inr ⟨g9,by rw[ht];rfl,ht⟩) (by split;exact .inr rfl;exact .inl rfl)
      (.row el (P.cellsOf el) (g+1) (.win c0 (.int .i64 0) hb) d) (by intros;simp) (Fj _) (λG6=>by
       have Ja:(E.win c0 (.int .i64 0) hb).den c.ρ= .sl (xs.take bn):=by simp only[E.den,Cu,d2,AV.win];simp
       obtain⟨N',Bq,XR⟩:∃N',De c.w el (P.cellsOf el) (.slice p bn r) (.sl (xs.take bn)) (c.G b).top N'/\ ∀q∈N',q∈N:=by
        rcases Bc with⟨rfl,Ct,rfl,ht,rfl⟩|⟨g9,C,rfl,FE,QR,hC,ht,h1,Dn⟩
        ·have:bn=0:=by omega
         subst this;exact⟨[],⟨[],by simp,by simp,Bv, .inl ⟨rfl,⟨p,rfl⟩,ht,rfl⟩⟩,by simp⟩
        ·obtain⟨N',dK,CN⟩:=Dn.piece 0 (bn*P.cellsOf el);have I4:(xs.take bn).length=bn:=by rw[Au];omega
         have hmul:bn*P.cellsOf el<=m*P.cellsOf el:=BF _ hle;have ef:=oR xs AB 0 bn (Nat.zero_le _) (by omega);simp only[Nat.zero_mul,Nat.sub_zero,List.drop_zero]at ef CN;rw[ef,List.take_take,Nat.min_eq_left hmul]at CN;refine⟨N',⟨xs.take bn,rfl,λy hy=>AB y (BA hy),Bv, .inr ⟨g9,r,C,by rw[I4],by rw[I4];omega,FE,QR,hC,ht,?_,?_⟩⟩,dK⟩
         ·rw[I4];intro u hu;refine h1 u ?_;have:C.toList.take (bn*P.cellsOf el)=(C.toList.take (m*P.cellsOf el)).take (bn*P.cellsOf el):=by rw[List.take_take,Nat.min_eq_left hmul]
          rw[this]at hu;exact BA hu
         ·rw[I4];exact CN
       refine⟨.inr ⟨rfl,rfl⟩,λg'' O6=> ?_,N',?_,λq hq=>G6.ok q (Bq.me q hq) (q4 q (XR q hq)),λhd=> ?_,λhd=>by simp[Cx.bg,hd]⟩
       ·rcases O6 with O6|⟨_,rfl⟩
        ·have:=q2 _ O6;omega
        ·exact AQ _
       ·have e1:(c.bg b (g+1) c.w (.slice p bn r) (c.G b).top (if d=true then(c.G b).O else [])).H b (g+1)= .slice p bn r:=by simp[Cx.bg]
        have e2:((c.bg b (g+1) c.w (.slice p bn r) (c.G b).top (if d=true then(c.G b).O else [])).G b).top=(c.G b).top:=by simp[Cx.bg]
        rw[e1,e2];show De c.w el (P.cellsOf el) _ ((E.win c0 (.int .i64 0) hb).den c.ρ) _ N';rw[Ja];exact Bq
       ·obtain⟨u1,u2⟩:=q5 hd;have u1:N=[]:=u1;subst u1;have OR:N'=[]:=List.eq_nil_iff_forall_not_mem.2 λq hq=>by simpa using XR q hq
        subst OR;exact⟨rfl,by simp only[Cx.bg,if_true,hd];exact u2⟩)
     intro next Q hk
     unfold Oper.wp;rw[Dq,Oper.upon_value];refine hk _ (c.bg b (g+1) c.w (.slice p bn r) (c.G b).top (if d=true then(c.G b).O else [])) ⟨rfl,rfl,rfl,rfl,λu hu=> ?_⟩ (Em.put (SR.mkGd (c:=c.bg b (g+1) c.w (.slice p bn r) (c.G b).top (if d=true then(c.G b).O else [])) (s:= .own b (g+1)) (v:= .slice p bn r) (.own (show _\/_ from .inr ⟨rfl,rfl⟩) (by simp[Cx.bg]) .nil) []) o.dst);rcases hu with hu|rfl
     ·exact .inl hu
     ·exact .inl (h.rel.ca _ _ k1)
    ·cases he
  ·cases he
 ·cases he
theorem zta(z:Array Value)(hz:0<z.size)(k:Nat):(Builtin.zeroCells z k).toList=(List.replicate k z.toList).flatten:=by have:=Z2 z hz k;rw[<-this];rfl
theorem zzf(h:BJ P c n nx sl hp a sl0 hp0 o gs){x:Operand}{tx:TypeId}{cl:Call}(ho:o.op= .call cl)(AB:cl.callee= .builtin .clear)(C6:cl.args.toList=[x])(Eb:cl.argTypes.toList=[tx]){s:SV}(hs:BT sl0 gs x=some s)(he:pC P hp0 gs tx s=some e)(hc:∀q∈e.cq,Cn.den c.ρ q):AI P o c n nx sl hp gs a e:=by
 have Aj:cl.args= #[x]:=by apply Array.ext';simp[C6]
 have F8:cl.argTypes= #[tx]:=by apply Array.ext';simp[Eb]
 have hm:x∈o.op.operands:=by simp[ho,Op.operands,Call.operands,AB,Aj]
 have hx:=h.c7 hs hm;unfold pC at he;split at he
 ·rename_i el0 b g l z BE;have hu:=JL BE;split at he
  ·rename_i el z' g' c0 d hl;split at he
   ·cases he
   rename_i AG;simp only[not_or,Be,Bool.not_eq_false,Decidable.not_not,ne_eq]at AG;obtain⟨rfl,rfl,rfl,rfl,hz,AM⟩:=AG;have AM:Ap P el=true\/P.cellsOf el=1:=by simpa using AM
   obtain⟨i,zv,hi,F4,CY,Bv,Cv,ES⟩:=Lo hz;split at he
   ·rename_i q hq;split at he
    ·rename_i w hw;have hq:Fv zv=some q:=by simpa[hi,F4]using hq
     simp only[Ad]at he;subst he;obtain⟨c1,c2⟩:=nA (w:=c.w) (ρ:=c.ρ) hq hw;have AN:=MN h.hp (CU hl h.gs);obtain⟨q1,q2,N,q3,q4,q5,q6⟩:=h.rel.ents b _ AN;generalize hv:a.eval x=v at hx;cases hx with
     |wown k1 k2 k3 k4 k5 k6 k7=>
      rename_i p m r q' r' kk kv;rw[k2]at q3;obtain⟨xs,Cu,Jb,Pg,gT,O0,Bc⟩:=oV q3;have O1:(E.bin .sub (.len c0) l).den c.ρ≠ .undef:=hc (.dfd (.bin .sub (.len c0) l)) (by simp);have Ni:kk= .i64:=by
       simp only[E.den,Cu,AV.len,k3,AV.bin]at O1;split at O1
       ·rename_i hh;rcases hh with hh|hh|hh
        ·exact hh.symm
        ·cases hh
        ·cases hh
       ·exact absurd rfl O1
      subst Ni;have Cw:(E.bin .sub (.len c0) l).den c.ρ= .int .i64 ((m:Int)-kv):=by
       simp only[E.den,Cu,AV.len,k3,AV.bin,true_or,if_true,CK,Jb];congr 1;have hm63:(m:Int)<=9223372036854775807:=by
        rcases Bc with⟨_,h0,_⟩|⟨_,_,_,FE,_⟩
        ·omega
        ·have:maxLen=9223372036854775807:=rfl;omega
       exact(Qr .i64 _).2 ⟨by simp[IntKind.min,IntKind.signed,IntKind.bits];omega,by simp[IntKind.max,IntKind.signed,IntKind.bits];omega⟩
      have Bm:(E.app (.win c0 (.int .i64 0) l) (.rep (.bin .sub (.len c0) l) w)).den c.ρ= .sl (xs.take kv.toNat++List.replicate (m-kv.toNat) (w.den c.ρ)):=by
       have e1:(E.win c0 (.int .i64 0) l).den c.ρ= .sl (xs.take kv.toNat):=by simp only[E.den,Cu,k3,AV.win];simp
       have e2:(E.rep (.bin .sub (.len c0) l) w).den c.ρ= .sl (List.replicate (m-kv.toNat) (w.den c.ρ)):=by show AV.rep ((E.bin .sub (.len c0) l).den c.ρ) (w.den c.ρ)=_;rw[Cw];simp only[AV.rep];congr 2;omega
       show AV.app _ _=_;rw[e1,e2];rfl
      have ex:(execOp a.eval o).run P c.w=((Builtin.clear_ #[tx] o.type #[.slice q' (m-kv.toNat) r']).run P c.w).andThen λv w=> .ok (.value v) w:=by simp[execOp,ho,resolve,AB,Aj,F8,invoke,builtin,hv]
      rcases Nat.eq_or_lt_of_le (show kv.toNat<=m by omega)with heq|AD
      ·
       have B7:m-kv.toNat=0:=by omega
       have AW:(execOp a.eval o).run P c.w= .ok (.value (.tuple #[])) c.w:=by rw[ex,B7];cases q'<;>simp[Builtin.clear_,run_underlying hu]
       have Bo:(E.app (.win c0 (.int .i64 0) l) (.rep (.bin .sub (.len c0) l) w)).den c.ρ=c0.den c.ρ:=by rw[Bm,Cu,B7];simp[List.take_of_length_le (show xs.length<=kv.toNat by omega)]
       intro next Q hk
       unfold Oper.wp;rw[AW,Oper.upon_value];have Em:Rel c n sl (By hp [(b, .row el (P.cellsOf el) g (.app (.win c0 (.int .i64 0) l) (.rep (.bin .sub (.len c0) l) w)) d)]) a:=by
        have Ep:∀u,By hp [(b, .row el (P.cellsOf el) g (.app (.win c0 (.int .i64 0) l) (.rep (.bin .sub (.len c0) l) w)) d)] u=if u=b then some (.row el (P.cellsOf el) g (.app (.win c0 (.int .i64 0) l) (.rep (.bin .sub (.len c0) l) w)) d)else hp u:=λu=>rfl;refine h.rel.change (λu=>u=b) (Ej.refl c) h.rel.base (λu hu=>⟨by rw[Ep,if_neg hu],rfl,rfl,λ_ hk=>hk⟩) (λ_ _ _ _=>rfl) (λu hu=> ?_) h.rel.gw h.rel.ca (λu f hf=> ?_)
        ·subst hu;rw[Ep,if_pos rfl];refine⟨λe' hr=> ?_,λhn=>absurd rfl (hn _)⟩;simp only[CR]at hr;subst hr;exact⟨q1,q2,N,by rw[Bo,k2];exact q3,q4,q5,q6⟩
        ·rw[Ep]at hf;split at hf
         ·rename_i hu;subst hu;exact h.rel.ca _ _ k1
         ·exact h.rel.c6 u f hf
       exact hk _ c (NN.refl _ _) (Em.put ((SR.undef .nil).mkGd []) o.dst)
      ·obtain⟨b9,sW,rfl,rfl⟩:=k6 (by omega);rcases Bc with⟨_,h0,_⟩|⟨g9,C,hp',FE,QR,hC,ht,h1,Dn⟩
       ·omega
       rw[sW]at hp';cases hp';have DP:C.toList.length=r*P.cellsOf el:=by simpa using hC
       have sR:m*P.cellsOf el<=r*P.cellsOf el:=BF _ Pg;have sQ:(m-kv.toNat)*P.cellsOf el+kv.toNat*P.cellsOf el=m*P.cellsOf el:=by rw[<-Nat.add_mul];congr 1;omega
       have iC:=zta zv.cells (by omega) (m-kv.toNat);generalize hZ:(List.replicate (m-kv.toNat) zv.cells.toList).flatten=Z at iC;have OX:Z.length=(m-kv.toNat)*P.cellsOf el:=by rw[<-hZ,List.length_flatten];simp only[List.map_replicate,List.sum_replicate_nat,BL,CY,Cv]
       have sB:∀u∈Z,u.oneCell'=true:=λu hu=>by rw[<-hZ]at hu;obtain⟨L,hL,hu⟩:=List.mem_flatten.1 hu;rw[List.eq_of_mem_replicate hL]at hu;exact c2 u hu
       have Mf:=mY (P:=P) (off:=kv.toNat*P.cellsOf el) Z 0 c.w C QR (by rw[OX,hC];omega) sB;have AW:(execOp a.eval o).run P c.w= .ok (.value (.tuple #[])) (putCells c.w b9 (kv.toNat*P.cellsOf el) Z):=by
        rw[ex];obtain⟨mm,X0⟩:∃mm,m-kv.toNat=mm+1:=⟨m-kv.toNat-1,by omega⟩
        have hzv:(zeroValue el).run P c.w= .ok zv c.w:=by simp[zeroValue,typeInfo,hi,F4]
        simp only[Nat.add_zero]at Mf;rw[X0]at iC ⊢;simp[Builtin.clear_,run_underlying hu,hzv,iC,Mf]
       obtain⟨m1,m2,m3⟩:=ZY (off:=kv.toNat*P.cellsOf el) (vs:=Z) QR (by rw[OX,hC];omega);have Pe:(C.toList.take (m*P.cellsOf el)).length=m*P.cellsOf el:=by rw[Au,DP];omega
       have NH:b9∈(c.G b).top:=by rw[ht];simp
       have Ul:Rd c.w Z (Aq (List.replicate (m-kv.toNat) (w.den c.ρ))) []:=by rw[<-hZ];exact iN c1 _
       obtain⟨n1,n2,n3,hN,s1,s2⟩:=Rd.setVs (p:=kv.toNat*P.cellsOf el) Dn Ul (by rw[Pe,OX];omega);have Ve:(w.den c.ρ).cells.length=P.cellsOf el:=by have:=c1.len;rw[<-this];simp[CY,Cv]
       have hYl:(Aq (List.replicate (m-kv.toNat) (w.den c.ρ))).length=Z.length:=by rw[<-Ul.len]
       have Ca:setVs (Aq xs) (kv.toNat*P.cellsOf el) (Aq (List.replicate (m-kv.toNat) (w.den c.ρ)))=Aq (xs.take kv.toNat++List.replicate (m-kv.toNat) (w.den c.ρ)):=by
        have ef:=oR xs O0 0 kv.toNat (Nat.zero_le _) (by omega)
        simp only[Nat.zero_mul,Nat.sub_zero,List.drop_zero]at ef;unfold setVs;rw[ef,Wv,hYl,OX,List.drop_eq_nil_of_le (by rw[Lq _ O0,Jb];omega),AE]
       rw[Ca]at s1;have Cm:∀q∈n1++ []++n3,q∈N:=λq hq=>by rw[hN];simp at hq ⊢;rcases hq with hq|hq<;>simp[hq]
       have F5:∀q,q<c.w.heap.size->c.ok q->(putCells c.w b9 (kv.toNat*P.cellsOf el) Z).heap[q]?=c.w.heap[q]?:=by intro q hq A5;refine m1.block q hq ?_;simp only[List.mem_singleton];rintro rfl;exact A5.1 ⟨b,NH⟩
       have En:(xs.take kv.toNat++List.replicate (m-kv.toNat) (w.den c.ρ)).length=m:=by rw[AF,Au,List.length_replicate];omega
       have Em:=h.rel.jq (t:=b) (b:=b9) (w':=putCells c.w b9 (kv.toNat*P.cellsOf el) Z) (O:=if d=true then(c.G b).O else []) AN NH (by split;exact .inr rfl;exact .inl rfl) m1 m3
        (.row el (P.cellsOf el) g (.app (.win c0 (.int .i64 0) l) (.rep (.bin .sub (.len c0) l) w)) d) (by intros;simp) (λG6=>by
         refine⟨q1,q2,n1++ []++n3,?_,λq hq=>G6.ok q (Dn.inb q (Cm q hq)) (q4 q (Cm q hq)),λhd=> ?_,λhd=>by simp[Cx.fq,hd]⟩
         ·show De (putCells c.w b9 (kv.toNat*P.cellsOf el) Z) el (P.cellsOf el) (c.H b g) ((E.app (.win c0 (.int .i64 0) l) (.rep (.bin .sub (.len c0) l) w)).den c.ρ) _ _;rw[Bm,k2,sW];refine⟨_,rfl,λy hy=> ?_,gT, .inr ⟨b9,r,_,by rw[En],by rw[En];exact Pg,FE,m2,?_,by simpa[Cx.fq]using ht,?_,?_⟩⟩
          ·rcases Ac.1 hy with hy|hy
           ·exact O0 y (BA hy)
           ·rw[List.eq_of_mem_replicate hy];exact Ve
          ·rw[List.size_toArray,Te _ _ _ (by rw[OX,DP];omega),BL];exact hC
          ·simp only[En,List.toList_toArray];rw[S8 _ _ _ _ (by rw[OX];omega) (by rw[DP];omega)];intro u hu;unfold setVs at hu;simp only[Ac]at hu;rcases hu with(hu|hu)|hu
           ·exact h1 u (BA hu)
           ·exact sB u hu
           ·exact h1 u (BM hu)
          ·simp only[En,List.toList_toArray];rw[S8 _ _ _ _ (by rw[OX];omega) (by rw[DP];omega)];exact s1.frame λq hq=>F5 q (Dn.inb q (Cm q hq)) (q4 q (Cm q hq))
         ·obtain⟨u1,u2⟩:=q5 hd;have u1:N=[]:=u1;subst u1;have OR:n1++ []++n3=[]:=List.eq_nil_iff_forall_not_mem.2 λq hq=>by simpa using Cm q hq
          rw[OR];exact⟨rfl,by simp only[Cx.fq,if_true,hd];exact u2⟩)
       intro next Q hk
       unfold Oper.wp;rw[AW,Oper.upon_value];exact hk _ (c.fq _ b _) ⟨rfl,rfl,rfl,rfl,λt ht=> .inl ht⟩ (Em.put ((SR.undef .nil).mkGd []) o.dst)
    ·cases he
   ·cases he
  ·cases he
 ·cases he
end
section
variable {P:Program} {c:Cx} {n nx:Nat} {sl sl0:Nat->SV} {hp hp0:Nat->Option Ah} {a:Act} {o:Oper} {gs:Gd} {e:Bn} {sg:B4} {nv:Nat}
theorem zBx(l:List DT){n i:Nat}(hi:i<=n):Bz n l=Bz i l++Bz (n-i) l:=by rw[<-Lu];congr 1;omega
theorem zzb{K:Nat}{xs:List AV}(h:∀y∈xs,y.cells.length=K){i:Nat}(hi:i<=xs.length):Aq (xs.take i)=(Aq xs).take (i*K)/\Aq (xs.drop i)=(Aq xs).drop (i*K):=by
 have l1:(Aq (xs.take i)).length=i*K:=by rw[Lq _ λy hy=>h y (BA hy),Au,Nat.min_eq_left hi]
 have e:Aq xs=Aq (xs.take i)++Aq (xs.drop i):=by rw[<-Wv,Ck]
 rw[e,<-l1,List.take_left,List.drop_left];exact⟨rfl,rfl⟩
theorem DC.mz{w:World}{xs:List AV}{l:List DT}{K:Nat}{cs:List Value}{N:List Nat}(hK:l.length=K)(h:DC w (Bz xs.length l) cs (Aq xs) N)(hx:∀y∈xs,y.cells.length=K){i:Nat}(hi:i<=xs.length):
  ∃N1 N2,N=N1++N2/\DC w (Bz i l) (cs.take (i*K)) (Aq (xs.take i)) N1/\DC w (Bz (xs.length-i) l) (cs.drop (i*K)) (Aq (xs.drop i)) N2:=by
 have hlen:=h.len;have t1:=zzb hx hi;have hmul:=BF K hi;rw[zBx l hi,<-Ck (i*K) cs,<-Ck (i*K) (Aq xs)]at h;rw[Lt,hK]at hlen;obtain⟨N1,N2,rfl,h1,h2⟩:=DC.ec (by rw[Lt,hK,Au];omega) (by rw[Lt,hK,Au];omega) h;exact⟨N1,N2,rfl,by rw[t1.1];exact h1,by rw[t1.2];exact h2⟩
theorem zwS(h:BJ P c n nx sl hp a sl0 hp0 o gs){t:TypeId}{x:Operand}{lo hi mx:Option Operand}(ho:o.op= .slice t x lo hi mx){s:SV}(hs:BT sl0 gs x=some s){l' h' m':Option SV}(BY:IM (BT sl0 gs) lo=some l')(Ik:IM (BT sl0 gs) hi=some h')(Dd:IM (BT sl0 gs) mx=some m')(he:cW P hp0 gs nx t s l' h' m'=some e)(hc:∀q∈e.cq,Cn.den c.ρ q):AI P o c n nx sl hp gs a e:=by
 have hm:x∈o.op.operands:=by simp[ho,Op.operands]
 have Ko:∀y,lo=some y->y∈o.op.operands:=λy hy=>by simp[ho,Op.operands,hy]
 have I5:∀y,hi=some y->y∈o.op.operands:=λy hy=>by simp[ho,Op.operands,hy]
 have hx:=h.c7 hs hm;have ival:∀{x:E} {kk:IntKind} {k:Int} {v:Value},SR c [.e x] [v]->x.den c.ρ= .int kk k->v= .int kk k:=by
  intro x kk k v hr hx;cases hr with
  |e h1 _ _=>exact(Gw h1 hx).1
 have ex:(execOp a.eval o).run P c.w=((Instr.sliceAt t (a.eval x) (lo.map a.eval) (hi.map a.eval) (mx.map a.eval)).run P c.w).andThen λv w=> .ok (.value v) w:=by simp[execOp,ho]
 unfold cW at he;split at he
 ·rename_i el0 b g BE;have hu:=JL BE;split at he
  ·cases he
  rename_i BC;have BC:DI P el0=true:=by simpa using BC
  have Kp:mx=none:=by
   rcases He Dd with⟨hh,_⟩|⟨_,_,_,_,hh⟩
   ·exact hh
   ·cases hh
  subst Kp;split at he
  ·rename_i el z dl g' ep c0 hl;split at he
   ·cases he
   rename_i AG;simp only[not_or,Decidable.not_not,ne_eq]at AG;obtain⟨rfl,rfl,rfl⟩:=AG;obtain⟨q1,q2,_,q4,_⟩:=h.eh b _ (CU hl h.gs);generalize hv:a.eval x=v at hx ex;cases hx with
   |own k1 k2 k3=>
    rename_i p m r;rw[k2]at q4;obtain⟨_,q3,_⟩:=q4.ownRow;obtain⟨xs,Cu,Jb,Pg,Bv,AB,Bc⟩:=oV q3;split at he
    ·rename_i l;simp only[Ad]at he;subst he;obtain⟨ka,ai,kb,bi,mm,d1,d2,d3,d4,d5,d6⟩:Cn.den c.ρ (.win c0 l (.len c0)):=Cl hc;have X0:mm=(m:Int):=by rw[Cu]at d3;simp only[AV.len,AV.int.injEq,true_and]at d3;omega
     obtain⟨an,rfl⟩:=Int.eq_ofNat_of_zero_le d4;obtain⟨ol,BZ,hol⟩:∃ol,lo=some ol/\BT sl0 [] ol=some (.e l):=by
      rcases He BY with⟨_,hh⟩|⟨ol,sl',Kh,O8,O9⟩
      ·cases hh
      ·cases O9;exact⟨ol,Kh,O8⟩
     have Ki:hi=none:=by
      rcases He Ik with⟨hh,_⟩|⟨_,_,_,_,hh⟩
      ·exact hh
      ·cases hh
     subst BZ;subst Ki;have L8:=ival (h.c7 hol (Ko _ rfl)) d1;have hle:an<=m:=by omega
     have AW:=Wq (P:=P) (w:=c.w) (lo:=(some ol).map a.eval) (hi:=(none:Option Operand).map a.eval) hu BC p m r an m (.inr ⟨ka,by rw[Option.map_some,L8]⟩) (.inl ⟨rfl,rfl⟩) hle (AQ _) Pg;have:=SR.wown (c:=c) (lo:=l) (sz:=P.cellsOf el) (q':=if r=an then p else p.map (·.add (an*P.cellsOf el))) (r:=r-an) k1 k2 d1 d4 (by omega) (λAD=>by
      rcases Bc with⟨_,Ct,_⟩|⟨g9,C,rfl,_⟩
      ·omega
      ·exact⟨g9,rfl,by rw[if_neg (by omega)];simp[Addr.add_lit],by simp⟩) .nil
     refine AI.pure h (v:=sliced p an m r (P.cellsOf el)) ?_ (by simpa[sliced]using this) rfl;rw[ex];show Result.andThen (Sem.run P (Instr.sliceAt t (.slice p m r) ((some ol).map a.eval) ((none:Option Operand).map a.eval) none) c.w) _=_;rw[AW];rfl
    ·cases he
  ·rename_i el z dl g' ep c0 kE hl;split at he
   ·cases he
   rename_i AG;simp only[not_or,Decidable.not_not,ne_eq]at AG;obtain⟨rfl,rfl,rfl⟩:=AG;obtain⟨q1,q2,_,⟨p',cap',ys,kk,kv,e1,e2,e3,e4,e5,e6⟩,_⟩:=h.eh b _ (CU hl h.gs);generalize hv:a.eval x=v at hx ex;cases hx with
   |own k1 k2 k3=>
    rename_i p m r;rw[k2]at e1;simp only[Value.slice.injEq]at e1;obtain⟨rfl,rfl,rfl⟩:=e1;split at he
    ·rename_i hb;split at he
     ·rename_i XV;rw[<-E.bb c.ρ _ _ XV]at e3;simp only[Ad]at he;subst he;obtain⟨oh,Ki,gB⟩:∃oh,hi=some oh/\BT sl0 [] oh=some (.e hb):=by
       rcases He Ik with⟨_,hh⟩|⟨ol,sl',Kh,O8,O9⟩
       ·cases hh
       ·cases O9;exact⟨ol,Kh,O8⟩
      have BZ:lo=none:=by
       rcases He BY with⟨hh,_⟩|⟨_,_,_,_,hh⟩
       ·exact hh
       ·cases hh
      subst BZ;subst Ki;have L8:=ival (h.c7 gB (I5 _ rfl)) e3;have AW:=Wq (P:=P) (w:=c.w) (lo:=(none:Option Operand).map a.eval) (hi:=(some oh).map a.eval) hu BC p ys.length r 0 kv (.inl ⟨rfl,rfl⟩) (.inr ⟨kk,by rw[Option.map_some,L8]⟩) (Nat.zero_le _) e4 e5;have Dw:sliced p 0 kv r (P.cellsOf el)= .slice p kv r:=by
       obtain⟨_,_,⟨a9,h9,_⟩|⟨g9,cap,C,zs,N1,h9,_⟩⟩:=e6.inv
       ·simp only[Value.slice.injEq]at h9;obtain⟨rfl,_,rfl⟩:=h9;simp[sliced]
       ·simp only[Value.slice.injEq]at h9;obtain⟨rfl,_,_⟩:=h9;unfold sliced;split<;>simp[Addr.add_lit]
      rw[Dw]at AW;have Dq:(execOp a.eval o).run P c.w= .ok (.value (.slice p kv r)) c.w:=by rw[ex];show Result.andThen (Sem.run P (Instr.sliceAt t (.slice p ys.length r) ((none:Option Operand).map a.eval) ((some oh).map a.eval) none) c.w) _=_;rw[AW];rfl
      have Ja:(E.win c0 (.int .i64 0) hb).den c.ρ= .sl (ys.take kv):=by simp only[E.den,e2,e3,AV.win];simp
      have Cp:Cz c [b]=(c.G b).top:=by simp[Cz]
      have Cb:=h.rel.gw.nodup b;simp only[GI.own]at Cb;exact AI.fg h (T:=[b]) (by simp) (by simpa using⟨_,q1⟩) Dq (Mod.refl _ _) (top:=(c.G b).top) (List.nodup_append.1 Cb).1 (λq hq=>⟨.inl (by rw[Cp];exact hq),h.rel.gw.inb b q (by simp[GI.own,hq])⟩) (by rw[Ja];exact e6)
     ·cases he
    ·cases he
  ·cases he
 ·cases he
theorem zxL{x y:Operand}{tx:TypeId}{cl:Call}(ho:o.op= .call cl)(AB:cl.callee= .builtin .append)(C6:cl.args.toList=[x,y])(Eb:cl.argTypes.toList=[tx,tx])
  {el:TypeId} (BE:P.underlying tx=some (.slice el)) (hz:HX P el=true) {l:List DT} (hl:l.length=P.cellsOf el) {TT:List Nat} (XS:TT.Nodup) (LX:∀b∈TT,b<c.w.heap.size) {N2:List Nat} (OT:N2.Nodup) (J5:∀b∈N2,b<c.w.heap.size) (Ug:∀b∈N2,b∉TT)
  {ys:List AV} {q:Option Addr} {r:Nat} {news:List Value} (Ds:a.eval y= .slice q ys.length r) (Dr:Src c.w (P.cellsOf el) q ys.length news) (O2:DC c.w (Bz ys.length l) news (Aq ys) N2) (JF:∀y∈ys,y.cells.length=P.cellsOf el) (Ph:∀u∈news,u.oneCell'=true)
  {X:AV} {v:Value} (hv:a.eval x=v) (AX:DC c.w [.row el (P.cellsOf el) (AA.of l)] [v] [X] TT) {xs:List AV} (hX:X= .sl xs) (Np:((xs.length:Int)+ys.length)*P.bytesOf el<=140737488355328) (X5:(xs.length:Int)+ys.length<=140737488355328):
  ∃v' w' top,(execOp a.eval o).run P c.w= .ok (.value v') w'/\Mod TT c.w w'/\top.Nodup/\(∀b∈top,(b∈TT\/b∈N2\/c.w.heap.size<=b)/\b<w'.heap.size)/\DC w' [.row el (P.cellsOf el) (AA.of l)] [v'] [.sl (xs++ys)] top:=by
 have Aj:cl.args= #[x,y]:=by apply Array.ext';simp[C6]
 have F8:cl.argTypes= #[tx,tx]:=by apply Array.ext';simp[Eb]
 obtain⟨i,z,hi,F4,CY,Bv,Cv,ES⟩:=Lo hz;obtain⟨d1,d2,Bc⟩:=AX.inv;rw[AA.ay]at d2 Bc;subst hX;obtain⟨old,N1,hold,FM,eL,Ha,Cs,Lc,OS⟩:∃(old:List Value) (N1:List Nat),old.length=xs.length*i.size/\((xs.length=0/\ ∃q,v= .slice q 0 0)\/ ∃g cap C,v= .slice (some ⟨g,0,none⟩) xs.length cap/\xs.length<=cap/\cap<=maxLen/\c.w.heap[g]?=some (.cells C el (0,0))/\C.size=cap*i.size/\old=C.toList.take (xs.length*i.size)/\(g∈TT/\g∉N1))/\
   DC c.w (Bz xs.length l) old (Aq xs) N1/\(∀y∈xs,y.cells.length=P.cellsOf el)/\(∀u∈old,u.oneCell'=true)/\(∀b∈N1,b∈TT)/\N1.Nodup:=by
  rcases Bc with⟨p,rfl,FT,rfl⟩|⟨g9,cap,C,xs',N1,rfl,FT,rfl,h6,h7,h8,h9,FA,EZ,FZ⟩
  ·cases FT;exact⟨[],[],by simp, .inl ⟨rfl,p,rfl⟩,by simpa[Bz,Aq]using DC.nil,by simp,by simp,by simp,by simp⟩
  ·cases FT;rw[List.nodup_cons]at XS;refine⟨_,N1,?_, .inr ⟨g9,cap,C,rfl,h7,h8,h6,by rw[<-Cv];exact h9,rfl,by simp,XS.1⟩,by rw[<-Cv];exact FZ,FA,by rw[<-Cv];exact EZ,λb hb=>by simp[hb],XS.2⟩;have e9:C.toList.length=cap*i.size:=by rw[<-Cv,<-h9];simp
   rw[Au,e9];exact Nat.min_eq_left (BF _ h7)
 have GA:(xs.length+ys.length)*i.bytes<=140737488355328:=by
  rw[ES]at Np;have h9:(((xs.length+ys.length)*i.bytes:Nat):Int)<=140737488355328:=by rw[Int.natCast_mul,Int.natCast_add];exact Np
  omega
 have GB:xs.length+ys.length<=140737488355328:=by omega
 rw[Cv]at Dr;obtain⟨v',w',AW,AN⟩:=Qw (P:=P) c.w tx o.type el i z BE hi F4 CY Bv (λg9=>g9∈TT/\g9∉N1) v xs.length old hold FM q ys.length r news Dr (by simp only[maxLen];omega) GA;have Dq:(execOp a.eval o).run P c.w= .ok (.value v') w':=by simp[execOp,ho,resolve,AB,Aj,F8,invoke,builtin,hv,Ds,AW]
 rcases AN with⟨rfl,rfl,Ct⟩|⟨g9,cap,C,rfl,h1,h2,h3,h4,h5,h6,h7⟩
 ·have Iu:ys=[]:=List.eq_nil_of_length_eq_zero Ct;subst Iu;refine⟨_,_,TT,Dq,Mod.refl _ _,XS,λb hb=>⟨.inl hb,LX b hb⟩,?_⟩;rw[AE];exact AX
 ·have I0:(g9∈TT\/c.w.heap.size<=g9)/\g9∉N1/\g9∉N2:=by
   rcases h7 with⟨rfl,_⟩|⟨hg,CG⟩
   ·refine⟨.inr (AQ _),λhh=> ?_,λhh=> ?_⟩
    ·have:=LX _ (Lc _ hh);omega
    ·have:=J5 _ hh;omega
   ·exact⟨.inl hg,CG,λhh=>Ug _ hh hg⟩
  have Bo:∀b∈N1++N2,w'.heap[b]?=c.w.heap[b]?:=λb hb=>by
   have AD:b<c.w.heap.size:=by
    rcases Ac.1 hb with hb|hb
    ·exact LX b (Lc b hb)
    ·exact J5 b hb
   refine h6.block b AD λhh=> ?_;cases hh;rcases Ac.1 hb with hb|hb
   ·exact I0.2.1 hb
   ·exact I0.2.2 hb
  refine⟨_,w',g9::(N1++N2),Dq,oP h6 λg hg=> ?_,?_,λb hb=> ?_,?_⟩
  ·cases hg;exact I0.1
  ·refine List.nodup_cons.2 ⟨λhh=> ?_,List.nodup_append.2 ⟨OS,OT,λp hp q hq e=>Ug q hq (e▸Lc p hp)⟩⟩;rcases Ac.1 hh with hh|hh
   ·exact I0.2.1 hh
   ·exact I0.2.2 hh
  ·rcases Ae.1 hb with rfl|hb
   ·exact⟨I0.1.elim .inl λh=> .inr (.inr h),Dh h3⟩
   ·rcases Ac.1 hb with hb|hb
    ·exact⟨.inl (Lc b hb),Nat.lt_of_lt_of_le (LX b (Lc b hb)) h6.size⟩
    ·exact⟨.inr (.inl hb),Nat.lt_of_lt_of_le (J5 b hb) h6.size⟩
  ·have hlen:(xs++ys).length=xs.length+ys.length:=AF;rw[Cv]at d1 d2 Ha JF ⊢;have:=DC.row (w:=w') (e:=el) (z:=i.size) (l:=AA.of l) (g:=g9) (cap:=cap) (C:=C) (ys:=xs++ys) (N1:=N1++N2) (ts:=[]) (vs:=[]) (xs:=[]) (N:=[]) d1 (by rw[AA.ay];exact d2) h3 (by rw[hlen];exact h1) h2 h4 (λw hw=> ?_) (by
     rw[hlen,h5];intro u hu;rcases Ac.1 hu with hu|hu
     ·exact Cs u hu
     ·exact Ph u hu) (by
     rw[hlen,h5,Wv,Lu,AA.ay];exact(eL.app O2).frame Bo) .nil
   ·rw[hlen]at this;simpa using this
   ·rcases Ac.1 hw with hw|hw
    ·exact Ha w hw
    ·exact JF w hw
theorem zu6(h:BJ P c n nx sl hp a sl0 hp0 o gs){x y:Operand}{tx ty:TypeId}{cl:Call}(ho:o.op= .call cl)(AB:cl.callee= .builtin .append)(C6:cl.args.toList=[x,y])(Eb:cl.argTypes.toList=[tx,ty])
  {s1 s2:SV} (BR:BT sl0 gs x=some s1) (Bi:BT sl0 gs y=some s2) (he:cG P hp0 gs nx tx ty s1 s2=some e) (hc:∀q∈e.cq,Cn.den c.ρ q):AI P o c n nx sl hp gs a e:=by
 have Aj:cl.args= #[x,y]:=by apply Array.ext';simp[C6]
 have DM:x∈o.op.operands:=by simp[ho,Op.operands,Call.operands,AB,Aj]
 have CS:y∈o.op.operands:=by simp[ho,Op.operands,Call.operands,AB,Aj]
 unfold cG at he;split at he
 ·cases he
 rename_i Ku;have Ku:tx=ty:=by simpa using Ku
 subst Ku;split at he
 ·rename_i el e' z dl t g2 b g lo z' BE D1;have Kc:=JL BE;split at he
  ·cases he
  rename_i AG;simp only[not_or,Be,Bool.not_eq_false,ne_eq,Decidable.not_not]at AG;obtain⟨hz,rfl,rfl,rfl,X6⟩:=AG;obtain⟨_,_,l,Km,En⟩:=W9 (bF BE) D1;simp only[DT.row.injEq,true_and]at Km;subst Km;rw[AA.ay]at he;have r1:=h.c7 BR DM;have r2:=h.c7 Bi CS;split at he
  ·rename_i e2 z2 l2 g2' ep2 c2 e3 z3 l3 g3 ep c0 AD hlb;split at he
   ·rename_i hh;obtain⟨rfl,rfl,GB,rfl,rfl,rfl,OZ,rfl⟩:=hh;have GB:=AA.fh GB;have OZ:=AA.fh OZ;subst GB;subst OZ;simp only[Ad]at he;subst he;obtain⟨qt1,qt2,qt3,qt4,qt5⟩:=h.eh t _ (CU AD h.gs);obtain⟨qb1,qb2,qb3,qb4,qb5⟩:=h.eh b _ (CU hlb h.gs);obtain⟨ka,ai,kb,bi,mm,d1,d2,d3,d4,d5,d6⟩:Cn.den c.ρ (.win c0 lo (.len c0)):=hc _ (by simp);obtain⟨m1,m2,rr1,rr2,rr3,rr4⟩:Cn.den c.ρ (.room c2 (.win c0 lo (.len c0)) (P.bytesOf e3)):=hc _ (by simp);generalize hvx:a.eval x=v at r1;generalize hvy:a.eval y=v2 at r2;cases r1 with
    |own k1 k2 k3=>
     cases r2 with
     | @wown _ _ _ _ qq nn cap qq' r kk kI _ _ j1 j2 j3 j4 j5 j6 j7=>
      have htd:(c.G t).top.Nodup:=by have:=h.rel.gw.nodup t;simp only[GI.own]at this;exact(List.nodup_append.1 this).1
      have dZ:(c.G b).top.Nodup:=by have:=h.rel.gw.nodup b;simp only[GI.own]at this;exact(List.nodup_append.1 this).1
      have gU:∀q∈(c.G t).top,q<c.w.heap.size:=λq hq=>h.rel.gw.inb t q (by simp[GI.own,hq]);have L2:∀q∈(c.G b).top,q<c.w.heap.size:=λq hq=>h.rel.gw.inb b q (by simp[GI.own,hq]);have Jy:∀q∈(c.G b).top,q∉(c.G t).top:=λq hq G7=>h.rel.gw.cy b t (λe=>X6 e.symm) q (by simp[GI.own,hq]) (by simp[GI.own,G7]);obtain⟨z1,z2',Bc⟩:=qb4.inv;rw[AA.ay]at z2' Bc;obtain⟨an,rfl⟩:=Int.eq_ofNat_of_zero_le j4;obtain⟨ys,news,NB,DE,Vi,Dr,O2,JF,Ph,dL,topb,FQ,OU,gH⟩:∃(ys:List AV) (news:List Value) (NB:List Nat),(E.win c0 lo (.len c0)).den c.ρ= .sl ys/\ys.length=nn-an/\Src c.w (P.cellsOf e3) qq' ys.length news/\DC c.w (Bz ys.length l3) news (Aq ys) NB/\(∀y∈ys,y.cells.length=P.cellsOf e3)/\(∀u∈news,u.oneCell'=true)/\(∀q∈NB,q∈(c.G b).top)/\
        ∃topb:List Nat,(∀q∈topb,q∈(c.G b).top)/\(topb++NB).Nodup/\ ∀w':World,(∀q∈topb,w'.heap[q]?=c.w.heap[q]?)-> ∃(p:Option Addr) (cp:Nat) (zs:List AV),c.H b g= .slice p zs.length cp/\c0.den c.ρ= .sl zs/\an<=zs.length/\zs.length<=cp/\DC w' [.row e3 (P.cellsOf e3) (AA.of l3)] [.slice p an cp] [.sl (zs.take an)] topb:=by
       rcases Bc with⟨a9,hH,FT,Nv⟩|⟨g9,cp,C,zs,N1,hH,FT,Nv,h6,h7,h8,h9,FA,EZ,FZ⟩
       ·rw[j2]at hH;simp only[Value.slice.injEq]at hH;obtain⟨rfl,rfl,rfl⟩:=hH;have ha0:an=0:=by omega
        subst ha0;have ND:(E.win c0 lo (.len c0)).den c.ρ= .sl []:=by simp only[E.den,FT,j3,AV.win,AV.len];simp
        refine⟨[],[],[],ND,by simp,?_,by simpa[Bz,Aq]using DC.nil,by simp,by simp,by simp,[],by simp,by simp,λw' _=>⟨qq,0,[],by rw[j2];rfl,FT,by simp,by simp, .void z1 (by rw[AA.ay];exact z2') .nil⟩⟩;cases qq' with
        |none=>exact .inl ⟨rfl,rfl,rfl⟩
        |some ad=>exact .inr ⟨ad,rfl,by simp,by simp,by simp⟩
       ·rw[j2]at hH;simp only[Value.slice.injEq]at hH;obtain⟨rfl,rfl,rfl⟩:=hH;have hle:an<=zs.length:=by omega
        obtain⟨NA,NB,hN,c1,c2'⟩:=FZ.mz z2' FA hle;have hmul:=BF (P.cellsOf e3) hle;have E9:=BF (P.cellsOf e3) h7;have DP:C.toList.length=cap*P.cellsOf e3:=by simpa using h9
        have ND:(E.win c0 lo (.len c0)).den c.ρ= .sl (zs.drop an):=by simp only[E.den,FT,j3,AV.win,AV.len];simp
        have M6:(zs.drop an).length=zs.length-an:=Bx;rw[Nv]at dZ;rw[hN]at dZ;refine⟨zs.drop an,(C.toList.take (zs.length*P.cellsOf e3)).drop (an*P.cellsOf e3),NB,ND,M6,?_,by rw[M6];exact c2',λy hy=>FA y (BM hy),λu hu=>EZ u (BM hu),λq hq=>by rw[Nv,hN];simp[hq],g9::NA,λq hq=>by rw[Nv,hN];rcases Ae.1 hq with rfl|hq<;>simp_all,by simpa using dZ,λw' Vb=>⟨some ⟨g9,0,none⟩,cap,zs,by rw[j2],FT,hle,h7,?_⟩⟩
        ·rw[M6];by_cases AD:an<zs.length
         ·obtain⟨b9,QR,G7,_⟩:=j6 (by omega);cases QR;subst G7;refine .inr ⟨_,rfl,?_,λj u hj=> ?_,λu hu=>EZ u (BM hu)⟩
          ·rw[Bx,Au,DP,Nat.min_eq_left E9,Nat.sub_mul]
          ·rw[Addr.add_lit,EU h6];rw[List.getElem?_drop,List.getElem?_take]at hj;split at hj
           ·rw[Array.getElem?_toList]at hj;simpa using hj
           ·cases hj
         ·have:zs.length-an=0:=by omega
          rw[this];have e0:(C.toList.take (zs.length*P.cellsOf e3)).drop (an*P.cellsOf e3)=[]:=by
           apply List.drop_eq_nil_of_le;rw[Au];have:zs.length=an:=by omega
           rw[this];omega
          rw[e0];cases qq' with
          |none=>exact .inl ⟨rfl,rfl,rfl⟩
          |some ad=>exact .inr ⟨ad,rfl,by simp,by simp,by simp⟩
        ·have I4:(zs.take an).length=an:=by rw[Au];omega
         have e5:C.toList.take (an*P.cellsOf e3)=(C.toList.take (zs.length*P.cellsOf e3)).take (an*P.cellsOf e3):=by rw[List.take_take,Nat.min_eq_left hmul]
         have:=DC.row (w:=w') (e:=e3) (z:=P.cellsOf e3) (l:=AA.of l3) (g:=g9) (cap:=cap) (C:=C) (ys:=zs.take an) (N1:=NA) (ts:=[]) (vs:=[]) (xs:=[]) (N:=[]) z1 (by rw[AA.ay];exact z2') (by rw[Vb g9 (by simp)];exact h6) (by rw[I4];omega) h8 h9 (λy hy=>FA y (BA hy)) (by
           rw[I4,e5];intro u hu;exact EZ u (BA hu)) (by
           rw[I4,e5,AA.ay];exact c1.frame λq hq=>Vb q (by simp[hq])) .nil
         rw[I4]at this;simpa using this
      have dM:NB.Nodup:=(List.nodup_append.1 OU).2.1;obtain⟨xs,Cu⟩:∃xs,c2.den c.ρ= .sl xs:=by
       obtain⟨_,_,⟨_,_,hh,_⟩|⟨_,_,_,zs,_,_,hh,_⟩⟩:=qt4.inv
       ·exact⟨_,hh⟩
       ·exact⟨_,hh⟩
      have sO:(nn:Int)-(an:Int)=(ys.length:Int):=by omega
      rw[Cu]at rr1;rw[DE]at rr2;simp only[AV.len,AV.int.injEq,true_and]at rr1 rr2;have Ds:a.eval y= .slice qq' ys.length r:=by rw[hvy];congr 1;omega
      obtain⟨v',w',top,AW,Bp,U8,Ff,Ii⟩:=zxL (c:=c) (o:=o) (a:=a) ho AB C6 Eb Kc hz En htd gU dM (λq hq=>L2 q (dL q hq)) (λq hq=>Jy q (dL q hq)) Ds Dr O2 JF Ph hvx (by rw[<-k2];exact qt4) Cu (by rw[rr1,rr2];exact rr3) (by rw[rr1,rr2];exact rr4);have LZ:(E.app c2 (.win c0 lo (.len c0))).den c.ρ= .sl (xs++ys):=by have:(E.app c2 (.win c0 lo (.len c0))).den c.ρ=AV.app (c2.den c.ρ) ((E.win c0 lo (.len c0)).den c.ρ):=rfl;rw[this,Cu,DE];rfl
      have sA:=h.rel.ca _ _ qt1;have dW:=h.rel.ca _ _ qb1;have QQ:=Of h;have EI:nx≠t:=λe=>QQ (e▸sA);have I6:nx≠b:=λe=>QQ (e▸dW);obtain⟨recs,Bd⟩:∃recs:List A3,recs=[⟨nx,some v',top, .deep e3 (P.cellsOf e3) l3 0 0 (.app c2 (.win c0 lo (.len c0)))⟩,⟨b,none,topb, .pre e3 (P.cellsOf e3) l3 g (ep+1) c0 lo⟩,⟨t,none,[], .dead⟩]:=⟨_,rfl⟩
      have EF:∀r∈recs,r=⟨nx,some v',top, .deep e3 (P.cellsOf e3) l3 0 0 (.app c2 (.win c0 lo (.len c0)))⟩\/r=⟨b,none,topb, .pre e3 (P.cellsOf e3) l3 g (ep+1) c0 lo⟩\/r=⟨t,none,[], .dead⟩:=λr hr=>by rw[Bd]at hr;simpa using hr
      have hn:(recs.map A3.tag).Nodup:=by rw[Bd];simp[EI,I6];exact λe=>X6 e.symm
      have Bm:∀r∈recs,r.new.isSome=true-> ¬c.U r.tag:=λr hr hs=>by
       rcases EF r hr with rfl|rfl|rfl
       ·exact QQ
       ·cases hs
       ·cases hs
      have aft:=Cx.dr (w':=w') h.rel.ca hn Bm;have L9:(⟨nx,some v',top, .deep e3 (P.cellsOf e3) l3 0 0 (.app c2 (.win c0 lo (.len c0)))⟩:A3)∈recs:=by rw[Bd];simp
      have Pf:(⟨b,none,topb, .pre e3 (P.cellsOf e3) l3 g (ep+1) c0 lo⟩:A3)∈recs:=by rw[Bd];simp
      have UN:(⟨t,none,[], .dead⟩:A3)∈recs:=by rw[Bd];simp
      have Pt:∀q∈topb,q∉NB:=λq hq G7=>(List.nodup_append.1 OU).2.2 q hq q G7 rfl;obtain⟨q1,q2⟩:=h.rel.changes (recs:=recs) (gs:=[]) (hs:=(c.G t).top++(c.G b).top) (Fj _) (Bp.weaken λq hq=> .inl (by simp[hq])) hn Bm (λq hq=>by
        rcases Ac.1 hq with hq|hq
        ·exact⟨_,UN,hq⟩
        ·exact⟨_,Pf,hq⟩)
       (by
        rw[Bd];simp only[List.flatMap_cons,List.flatMap_nil,AE];refine List.nodup_append.2 ⟨U8,(List.nodup_append.1 OU).1,λp hp q hq e=> ?_⟩;subst e;rcases(Ff p hp).1 with hh|hh|hh
        ·exact Jy p (FQ p hq) hh
        ·exact Pt p hq hh
        ·have:=L2 p (FQ p hq);omega)
       (λr hr q hq=>by
        rcases EF r hr with rfl|rfl|rfl
        ·obtain⟨k1',k2'⟩:=Ff q hq;refine⟨?_,k2'⟩;rcases k1' with hh|hh|hh
         ·exact .inl (by simp[hh])
         ·exact .inl (by simp[dL q hh])
         ·exact .inr hh
        ·exact⟨.inl (by simp[FQ q hq]),Nat.lt_of_lt_of_le (L2 q (FQ q hq)) Bp.size⟩
        ·cases hq)
       (λr hr=>by rcases EF r hr with rfl|rfl|rfl<;>(intros;simp))
       (λhk r hr=>by
        rcases EF r hr with rfl|rfl|rfl
        ·obtain⟨k1',k2',k3'⟩:=aft.new _ L9 v' rfl;have kg:=aft.G _ L9;have ke:=aft.iz _ L9 rfl;simp only at k1' k2' k3' kg ke;exact⟨k1',k2',ke,by rw[k3',kg,aft.w,aft.ρ,LZ];exact Ii,by rw[kg]⟩
        ·have kg:=aft.G _ Pf;have ke:=aft.gn _ Pf rfl;obtain⟨k1',k2'⟩:=aft.K b g qb1;simp only at kg ke;obtain⟨p,cp,zs,f1,f2,f3,f4,f5⟩:=gH w' λq hq=>Bp.block q (L2 q (FQ q hq)) (Jy q (FQ q hq));refine⟨k1',λg' CG=>qb2 g' (aft.old b dW g' CG),by rw[ke,qb3],⟨p,cp,zs,kk,an,by rw[k2'];exact f1,by rw[aft.ρ];exact f2,by rw[aft.ρ];exact j3,f3,f4,by rw[aft.w,kg];exact f5⟩,by rw[kg]⟩
        ·have kg:=aft.G _ UN;exact⟨by rw[kg],by rw[kg]⟩)
      intro next Q hk
      unfold Oper.wp;rw[AW,Oper.upon_value];obtain⟨k1',k2',k3'⟩:=aft.new _ L9 v' rfl;simp only at k1' k3';obtain⟨p,m,r,rfl⟩:=Ii.head;have UX:(recs.map λr=>(r.tag,Da [] r.bu))=(nx, .deep e3 (P.cellsOf e3) l3 0 0 (.app c2 (.win c0 lo (.len c0))))::(b, .pre e3 (P.cellsOf e3) l3 g (ep+1) c0 lo)::EP [t]:=by rw[Bd];simp[Da,EP]
      rw[UX]at q1;refine hk _ (c.du w' _) ⟨rfl,rfl,rfl,rfl,λu hu=> ?_⟩ (q1.put (SR.own k1' k3' .nil) o.dst);rcases hu with hu|⟨r,hr,rfl⟩
      ·exact .inl hu
      ·rcases EF r hr with rfl|rfl|rfl
       ·exact .inr ⟨AQ _,by simp[B1]⟩
       ·exact .inl dW
       ·exact .inl sA
   ·cases he
  ·cases he
 ·cases he
end
section
variable {P:Program} {c:Cx} {n nx:Nat} {sl sl0:Nat->SV} {hp hp0:Nat->Option Ah} {a:Act} {o:Oper} {gs:Gd} {e:Bn} {sg:B4} {nv:Nat}
theorem qY{w:World}:∀(vs:List Value) {xs:List AV} {f:List Nat} (ts:List TypeId),Rd w vs xs f->ts.length<=vs.length->D8 P w ts [] [] vs xs f [] []
 | [],xs,f,ts,h,hl=>by have:ts=[]:=List.eq_nil_of_length_eq_zero (by simpa using hl);subst this;cases h;exact .nil
 |v::vs,[],f,ts,h,hl=>by have:=h.len;simp at this
 |v::vs,x::xs,f,ts,h,hl=>by
  obtain⟨f1,f2,rfl,h1,h2⟩:=h.ct;cases ts with
  |nil=>exact .free h1 (qY vs [] h2 (by simp))
  |cons t ts=>exact D8.cons (h:=[]) ⟨h1,rfl⟩ (qY vs ts h2 (by simpa using hl))
theorem zEP(l:EL):EL.of (TF.go l)=l:=by
 induction l using EL.rec (motive_1:=λ_=>True)with
 |nil=>rfl
 |cons e es _ ih=>simp[TF.go,EL.of,ih]
 |_=>trivial
theorem zDf{w:World}{ts:List TypeId}{vs:List Value}{Bs:List AV}{f o:List Nat}(h:D7 P w ts [] vs Bs f o):Bs=[]:=by
 have key:∀(ts:List TypeId),BQ ts []=false:=by
  intro ts
  induction ts with
  |nil=>rfl
  |cons t ts ih=>simp only[BQ,List.headD_nil,Bool.false_or,List.tail_nil];exact ih
 exact(nQ h).2 (key ts)
theorem zBz(t:TypeId):Gj P t []=false:=by simp[Gj]
theorem zB(h:BJ P c n nx sl hp a sl0 hp0 o gs){cl:Call}{fo:Operand}(ho:o.op= .call cl)(AB:cl.callee= .value fo){y:E}{sf:SV}(hf:BT sl0 gs fo=some sf)(hsf:∀v,SR c [sf] [v]-> ∃f,Rd c.w [v] [y.den c.ρ] f){as_:List SV}(has:cl.args.toList.mapM (BT sl0 gs)=some as_){t:TypeId}
  (he:TF P hp0 gs nv t y as_=some e) (BB:∀c',e.call=some c'-> ∃r,c.ρ[nv]?=some r/\Jn (Cr P sg) c'.fn ((EL.of c'.args).den c.ρ) c.ρ r):AI P o c n nx sl hp gs a e:=by
 have fS:fo∈o.op.operands:=by simp[ho,Op.operands,Call.operands,AB]
 have fR:∀x∈cl.args.toList,x∈o.op.operands:=λx hx=>by
  have:x∈cl.args:=by simpa using hx
  simp[ho,Op.operands,Call.operands,AB,this]
 have Nr:=h.c7 hf fS;have Aj:=zwD (a:=a) (λx hx s hs=>h.c7 hs (fR x hx)) has;unfold TF at he;split at he
 ·cases he
 split at he
 ·cases he
 rename_i es IY;simp only[Ad]at he;subst he;obtain⟨r,hr,g,caps,hy,Ir,Fp⟩:=BB _ rfl;rw[zEP]at Ir;obtain⟨f1,p1,p2⟩:=Tv h.eh h.gs Bg IY Aj Bg (AQ _);generalize eU:a.eval fo=fv at Nr;obtain⟨_,k1⟩:=hsf _ Nr;obtain⟨capv,f2,rfl,QT⟩:∃capv f2,fv= .func (.func g) #[] capv.toArray/\Rd c.w capv caps f2:=by
  rw[hy]at k1;cases k1 with
  |fn q1 _=>exact⟨_,_,rfl,q1⟩
 have Pq:T7 P {cf:=[],res:=[]} g (es.den c.ρ++caps) r:=by unfold Cr at Ir;rw[if_neg (by omega)]at Ir;simpa using Ir
 obtain⟨fn,IZ,Ev,GK,_,hlen,_,F2⟩:=Pq;have Dn:=p1.app QT;have EK:=Dn.len;have BB:=F2 c.w _ _ [] [] (qY _ (fn.params.toList++ []) Dn (by rw[EK,hlen,AE,BL];omega)) (by simp) (by simp) (by simp) (h.rel.mj (by simp));have ex:(execOp a.eval o).run P c.w= .ok (.enter g (cl.args.map a.eval++capv.toArray)) c.w:=by
  have hb:fn.body.isNone=false:=by simpa using Ev
  simp only[execOp,ho,resolve,AB,eU,Deferred.ofValue,Sem.run_bind,Sem.run_pure,Result.andThen_ok,invoke,callFunc,run_program,IZ];simp[GK,hb]
 intro next Q hk
 unfold Oper.wp;rw[ex,Oper.upon_enter];have OY:cl.args.map a.eval++capv.toArray=((cl.args.toList.map a.eval)++capv).toArray:=by apply Array.ext';simp
 rw[OY];refine BB.mono ?_;rintro e' w' ⟨v,rfl,⟨R,Bs,f1',o1,f2',o2,Mg,AN,FH,Hx,UU,UB⟩,Bp⟩;show next (a.put o.dst v) w'
 have OQ:=zDf FH;subst OQ;simp only at Mg;subst Mg;have hv:Rd w' [v] [r] []:=by
  unfold Ll at AN;split at AN
  ·rename_i t' ht;unfold Ea at AN;rw[if_neg (by rw[zBz];simp)]at AN;have:=yY AN.1 Fp;subst this;exact AN.1
  ·obtain⟨vs,ys,_,rfl,_⟩:=AN;have:=Fp (.tup ys) (by simp[AV.cells]);simp[AV.scalar]at this
 obtain⟨FK,_⟩:=h.rel.changes (w':=w') (recs:=[]) (hs:=[]) (gs:=gs) h.gs Bp (by simp) (by simp) (by simp) (by simp) (by simp) (by simp) (by simp);refine hk _ (c.du w' []) ⟨rfl,rfl,rfl,rfl,λt ht=> ?_⟩ (FK.put (SR.mkGd (.e (f:=[]) ?_ (by simp) .nil) gs h.gs) o.dst)
 ·rcases ht with ht|⟨r,hr,_⟩
  ·exact .inl ht
  ·simp at hr
 ·show Rd w' [v] [(E.var nv).den c.ρ] [];simp only[E.den,hr,Dt];exact hv
theorem iP(Kt:∀f s,sg f=some s->f<1000000)(h:BJ P c n nx sl hp a sl0 hp0 o gs)(he:B2 P sg sl0 hp0 nv nx gs o=some e)
  (hc:∀q∈e.cq,q.den c.ρ) (BB:∀cl,e.call=some cl-> ∃r,c.ρ[nv]?=some r/\Jn (Cr P sg) cl.fn ((EL.of cl.args).den c.ρ) c.ρ r) (Df:∀x,e.cm=some x->c.ρ[nv]?=some (.bool (LC a o))):AI P o c n nx sl hp gs a e:=by
 have L4:=he;cases A0:o.op with
 |move x=>simp only[B2,A0,Av]at he;obtain⟨s,hs,rfl⟩:=he;exact zvD h (.inl A0) hs
 |assign x=>simp only[B2,A0,Av]at he;obtain⟨s,hs,rfl⟩:=he;exact zvD h (.inr A0) hs
 |pick x y z=>exact zAI h A0 he hc
 |alloc t=>exact zzx h A0 he hc
 |box t x=>exact zDJ h A0 he hc
 |build t parts=>exact zzg h A0 he hc
 |buildSlice t m parts=>
  simp only[B2,A0,Ax]at he;obtain⟨ps,Le,he⟩:=he;split at he
  ·exact zsZ h A0 Le he hc
  ·exact zqY h A0 Le he hc
 |load t x=>exact zBL h A0 he hc
 |nilCheck x=>exact zui h A0 he hc
 |makeSlice t l m=>
  simp only[B2,A0,Ax]at he;obtain⟨s1,BR,s2,Bi,he⟩:=he;split at he
  ·exact zu3 h A0 BR Bi he hc
  ·exact zzL h A0 BR Bi he hc
 |slice t x lo hi mx=>
  simp only[B2,A0,Ax]at he;obtain⟨s,hs,l',BY,h',Ik,m',Dd,he⟩:=he;split at he
  ·exact zwS h A0 hs BY Ik Dd he hc
  split at he
  ·exact zu8 h A0 hs BY Ik Dd he hc
  ·exact zxP h A0 hs BY Ik Dd he hc
 |fieldAddr t x f=>exact zs1 h A0 he hc
 |field t x f=>exact zzW h A0 he hc
 |extract x i=>exact zwo h A0 he hc
 |store t x y=>
  simp only[B2,A0,Ax]at he;obtain⟨p,hp',v,hv,he⟩:=he;cases p with
  |cw b k=>exact zuQ h A0 hp' hv he hc
  |cz b g i sz k=>
   by_cases AX:∃e z g c d,Dv hp0 gs b=some (.row e z g c d)
   ·exact zuk h A0 AX hp' hv he hc
   ·exact ztb h A0 AX hp' hv he hc
  |_=>simp[Og]at he
 |binOp op t x y ty=>
  cases hu:P.underlying t with
  |none=>simp only[B2,A0,Ax]at he;obtain⟨_,_,_,_,he⟩:=he;simp[TY,hu]at he
  |some d=>
   by_cases U5:∃fs,d= .struct fs
   ·obtain⟨fs,rfl⟩:=U5;exact zDy h A0 hu he hc
   ·have Nn:∀fs,P.underlying t≠some (.struct fs):=λfs hh=>U5 ⟨fs,by rw[hu]at hh;cases hh;rfl⟩;cases hq:e.cm with
    |none=>exact zCZ h A0 Nn he hq hc
    |some x'=>
     have GO:=Df x' hq;simp only[B2,A0,Ax]at he;obtain⟨s1,BR,s2,Bi,he⟩:=he;have r1:=h.c7 BR (by simp[A0,Op.operands]);have r2:=h.c7 Bi (by simp[A0,Op.operands]);unfold TY at he;split at he
     ·rename_i el F9;have Dw:∀xq,BK hp0 gs Bg s1=some xq->Cn.den c.ρ (.dfd (.len xq))-> ∃p q r,a.eval x= .slice p q r:=by
       intro xq Kx hd;obtain⟨f,q1,_⟩:=h.j0 BR (by simp[A0,Op.operands]) Kx;have hd:(xq.den c.ρ).len≠ .undef:=hd;cases BO:xq.den c.ρ<;>simp only[BO,AV.len,ne_eq,not_true_eq_false]at hd;rename_i xs;have hl:(xq.den c.ρ).len= .int .i64 (xs.length:Int):=by rw[BO];rfl
       rcases Tu q1 hl with⟨p,q,hv,Ct⟩|⟨b,o',k,q,hv,Ct⟩
       ·exact⟨_,_,_,hv⟩
       ·exact⟨_,_,_,hv⟩
      split at he
      ·simp at he;subst he;cases hq
      ·simp at he;subst he;cases hq
      ·obtain⟨xq,Kx,rfl⟩:=Av.1 he;obtain⟨p,q,r,hv⟩:=Dw xq Kx (hc _ (by simp));exact zwG h A0 F9 hv r2 (.inl rfl) GO _
      ·obtain⟨xq,Kx,rfl⟩:=Av.1 he;obtain⟨p,q,r,hv⟩:=Dw xq Kx (hc _ (by simp));exact zwG h A0 F9 hv r2 (.inr rfl) GO _
      ·cases he
     ·split at he
      ·simp at he;subst he;cases hq
      ·cases he
     ·split at he
      ·simp at he;subst he;cases hq
      ·cases he
     ·split at he
      ·simp at he;subst he;cases hq
      ·cases he
     ·rename_i fs F9;exact absurd F9 (Nn fs)
     ·cases he
 |unOp u t x=>
  cases u with
  |not=>exact zDE h A0 he hc
  |neg=>exact zDN h A0 he hc
  |_=>simp[B2,A0]at he
 |convert src dst x=>
  have M7:=he;simp only[B2,A0,Ax]at M7;obtain⟨s,_,M7⟩:=M7;unfold Xj at M7;split at M7
  ·rename_i k0 k h1 h2;exact zwa h A0 h1 h2 he hc
  ·rename_i h1 h2;exact zvE h A0 h1 h2 he hc
  ·rename_i el h1 h2;exact zuw h A0 h1 h2 he hc
  ·cases M7
 |makeFunc fr fst caps=>
  cases fr with
  |func f=>exact zuN h A0 he
  |_=>simp[B2,A0]at he
 |indexAddr t x i=>refine zs8 h A0 (λhu=> ?_) he hc;simp only[B2,A0,Ax]at he;obtain⟨_,_,_,_,he⟩:=he;simp[Yz,hu]at he
 |index t x i=>
  refine zv8 h A0 ?_ he hc;simp only[B2,A0,Ax]at he;obtain⟨_,_,_,_,he⟩:=he;split at he
  ·rename_i DD;unfold Yz at DD;split at DD
   ·assumption
   ·cases DD
  ·cases he
 |call cl=>
  simp only[B2,A0]at he;cases AB:cl.callee with
  |invoke r m=>rw[AB]at he;simp at he
  |value f=>
   rw[AB]at he;simp only[Ax]at he;obtain⟨s,hs,as_,has,he⟩:=he;cases s with
   |fn g caps=>
    have he:Xu P sg hp0 gs nv nx g (as_++caps.toList)=some e:=he;refine zBK h A0 AB hs has ?_ he BB;unfold Xu at he;split at he
    ·rename_i fn sg' IZ hh;exact Kt g sg' hh
    ·cases he
   |e y=>exact zB h A0 AB hs (λv hv=>by cases hv with|e k1 _ _=>exact⟨_,k1⟩) has he BB
   |lent i=>exact zB h A0 AB hs (λv hv=>by
     cases hv with
     |lent g1 _=>obtain⟨f,p1,p2⟩:=h.rel.base.lo _ _ g1;exact⟨f,p1.frame λb hb=>h.rel.base.block b (p1.inb b hb) (p2 b hb)⟩) has he BB
   |_=>simp at he
  |builtin b=>
   rw[AB]at he;cases b with
   |len=>
    simp only at he;split at he
    ·rename_i x tx C6 Eb;exact zDi h A0 AB C6 Eb L4 hc
    ·cases he
   |append=>
    simp only at he;split at he
    ·rename_i x y tx ty C6 Eb;simp only[Ax]at he;obtain⟨s1,BR,s2,Bi,he⟩:=he;split at he
     ·exact zu6 h A0 AB C6 Eb BR Bi he hc
     split at he
     ·exact zsz h A0 AB C6 Eb BR Bi he hc
     ·exact zvk h A0 AB C6 Eb BR Bi he hc
    ·cases he
   |clear=>
    simp only at he;split at he
    ·rename_i x tx C6 Eb;simp only[Ax]at he;obtain⟨s,hs,he⟩:=he;exact zzf h A0 AB C6 Eb hs he hc
    ·cases he
   |max=>
    simp only at he;split at he
    ·rename_i x y C6;simp only[Ax]at he;obtain⟨s1,BR,s2,Bi,he⟩:=he;exact zS h A0 (.inl ⟨rfl,AB⟩) C6 BR Bi he hc
    ·cases he
   |min=>
    simp only at he;split at he
    ·rename_i x y C6;simp only[Ax]at he;obtain⟨s1,BR,s2,Bi,he⟩:=he;exact zS h A0 (.inr ⟨rfl,AB⟩) C6 BR Bi he hc
    ·cases he
   |_=>simp at he
 |_=>simp[B2,A0]at he
end
end
end Go.Proofs.YtalagilebkaegaaGreat

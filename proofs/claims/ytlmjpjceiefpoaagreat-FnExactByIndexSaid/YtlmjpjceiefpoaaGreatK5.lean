/- Parts of a proof, joined: WP, WQ, WR, WRa, WRb, WRc, WRd, WRe, WRf, WS, WSa. -/
import Derived.Test.YtlmjpjceiefpoaaGreatK4
set_option linter.unusedVariables false
set_option linter.unusedSimpArgs false
namespace Go.Proofs.YtlmjpjceiefpoaaGreat
open Go.RowKit
section
theorem AO.{u}{α:Type u}{a:α}:[a].length=1:=rfl
section
variable {P:Program} {c:Cx} {hp:Nat->Option Aj} {gs:Gd}
theorem zCH(hb:RX c)(eh:EH c hp)(k:Bt c.ρ gs)(hU:∀t g,c.K t g->c.U t):∀(ss:List SV) {ts:List TypeId} {ms:List PM} {lo:List Bool} {es:List E} {bs:List PA} {us uz:List Nat} {vs:List Value},WR P hp gs ts ms lo ss=some (es,bs,us,uz)->SR c ss vs->ts.length<=ss.length->
  ∃rf lf hs,Eg P c.w ts ms lo vs (es.map (E.den c.ρ)) rf lf hs/\(∀b∈rf,c.gq us b)/\(∀b∈lf,c.gq uz b\/b<c.w0.heap.size/\ ¬c.Mu b)/\hs=(Ef bs).flatMap (λt=>(c.G t).top)/\Kq P c ts ms vs bs/\(∀u∈Ef bs,c.U u)/\(bs≠ []->gs=[])
 | [],ts,ms,lo,es,bs,us,uz,vs,h,hs,hl=>by simp[WR]at h;obtain⟨rfl,rfl,rfl,rfl⟩:=h;cases hs;have:ts=[]:=List.eq_nil_of_length_eq_zero (by simpa using hl);subst this;exact⟨[],[],[], .nil,by simp,by simp,by simp[Ef], .nil,by simp[Ef],by simp⟩
 |s::ss,ts,ms,lo,es,bs,us,uz,[],h,hs,hl=>by have:=hs.len;simp at this
 |s::ss,ts,ms,lo,es,bs,us,uz,v::vs,h,hs,hl=>by
  obtain⟨r1,r2⟩:=hs.dh;unfold WR at h;split at h
  ·cases h
  rename_i ys bs' us' uz' DI;obtain⟨rf,lf,A9,q1,q2,qz,q3,q4,q5,q6⟩:=zCH hb eh k hU ss DI r2 (by simp at hl ⊢;omega);have see1:∀{a b:List Nat} {x:Nat},c.gq a x->c.gq (a++b) x:=λh=>h.mono λt ht=>by simp[ht]
  have see2:∀{a b:List Nat} {x:Nat},c.gq b x->c.gq (a++b) x:=λh=>h.mono λt ht=>by simp[ht]
  split at h
  ·rename_i hm;split at h
   ·rename_i Ca;simp only[Ac,Bk]at Ca;obtain⟨t,ts,rfl⟩:∃t ts',ts=t::ts':=by
     cases ts with
     |nil=>simp at Ca
     |cons t ts=>exact⟨t,ts,rfl⟩
    split at h
    ·rename_i i;simp only[Af,A0]at h;obtain⟨rfl,rfl,rfl,rfl⟩:=h;cases r1 with
     |lent g1 _=>obtain⟨f,p1,p2⟩:=hb.lo _ _ g1;have hw:Rd c.w [v] [(E.var i).den c.ρ] f:=p1.frame λb Cd=>hb.block b (p1.inb b Cd) (p2 b Cd);exact⟨rf,f++lf,A9, .lent Ca.1 hm hw q1,q2,λb Cd=>(Ae.1 Cd).elim (λCd=> .inr ⟨p1.inb b Cd,p2 b Cd⟩) (qz b),q3, .ro hm q4,q5,q6⟩
    ·obtain⟨x,hx,hh⟩:=Ay.1 h;simp only[A0]at hh;obtain⟨rfl,rfl,rfl,rfl⟩:=hh;obtain⟨f,p1,p2⟩:=Je eh k Bb hx r1 Bb (AF _);exact⟨rf,f++lf,A9, .lent Ca.1 hm p1 q1,q2,λb Cd=>(Ae.1 Cd).elim (λCd=> .inl (see1 (p2 b Cd))) (λCd=>(qz b Cd).imp see2 id),q3, .ro hm q4,q5,q6⟩
   obtain⟨x,hx,hh⟩:=Ay.1 h;simp only[A0]at hh;obtain⟨rfl,rfl,rfl,rfl⟩:=hh;obtain⟨f,p1,p2⟩:=Je eh k Bb hx r1 Bb (AF _);have hb:∀b∈f++rf,c.gq (Cg hp gs (Bb+1) [s]++us') b:=λb hb=>by
    rcases Ae.1 hb with hb|hb
    ·exact see1 (p2 b hb)
    ·exact see2 (q2 b hb)
   cases ts with
   |nil=>exact⟨f++rf,lf,A9, .free p1 q1,hb,qz,q3, .ro hm q4,q5,q6⟩
   |cons t ts=>exact⟨f++rf,lf,[]++A9, .cons (by rw[hm];exact⟨p1,rfl⟩) q1,hb,qz,q3, .ro hm q4,q5,q6⟩
  ·rename_i own own' hm;split at h
   ·rename_i ty T BC;split at h
    ·rename_i ty' g cs NW;split at h
     ·cases h
     rename_i BY;have BY:ty'=ty:=by simpa using BY
     subst BY;split at h
     ·rename_i xs rs vs' Db FX;simp only[Af,A0]at h;obtain⟨rfl,rfl,rfl,rfl⟩:=h;obtain⟨t,ts,rfl,EK⟩:∃t ts',ts=t::ts'/\LQ P t=some ty':=by
       cases ts with
       |nil=>simp at BC
       |cons t ts=>exact⟨t,ts,rfl,by simpa using BC⟩
      obtain⟨b,C,g1,g2,g3,g4,g5,g6,g7⟩:=eh T _ (Di NW k);obtain⟨f,h8,p1,p2,p3,p4,p5⟩:=zqo (P:=P) eh k hU (Bc P ty') FX g7 Db (AF _);have hv:v= .pointer (some ⟨b,0,none⟩):=by
       cases r1 with
       |dq k1 k2 _=>rw[g2]at k2;cases k2;rfl
      refine⟨f++rf,lf,(b::h8)++A9, .cons ?_ q1,λx hx=> ?_,qz,by simp[Ef,p3,q3,g3], .bx hm EK hv g1 (by rw[g2,hv]) p5 q4,λu hu=> ?_,λ_=>rfl⟩
      ·rw[hm];exact⟨ty',b,C,xs.den c.ρ,h8,EK,hv,g5,g6,rfl,p1,rfl⟩
      ·rcases Ae.1 hx with hx|hx
       ·exact see1 (p2 x hx)
       ·exact see2 (q2 x hx)
      ·simp only[Ef,List.cons_append,Ag,Ae]at hu;rcases hu with rfl|hu|hu
       ·exact hU _ _ g1
       ·exact p5 u hu
       ·exact q5 u hu
     ·cases h
    ·cases h
   ·cases h
  ·rename_i own hm;split at h
   ·rename_i t x BC hx;split at h
    ·cases h
    rename_i AP;have AP:(Jc s).2=Ar P t:=by simpa using AP
    split at h
    ·rename_i rs vs' FX;simp only[Af,A0]at h;obtain⟨rfl,rfl,rfl,rfl⟩:=h;obtain⟨ts,rfl⟩:∃ts',ts=t::ts':=by
      cases ts with
      |nil=>simp at BC
      |cons t' ts=>simp at BC;exact⟨ts,by rw[BC]⟩
     obtain⟨f,h8,p1,p2,p3,⟨vs9,p4,p5⟩,p6⟩:=zww (P:=P) eh k hU r1 hx AP FX;refine⟨f++rf,lf,h8++A9, .cons (by rw[hm];exact p1) q1,λx hx=> ?_,qz,by simp[Ef,p3,q3],by rw[AP];exact .mu hm p4 p5 q4,λu hu=> ?_,λ_=>rfl⟩
     ·rcases Ae.1 hx with hx|hx
      ·exact see1 (p2 x hx)
      ·exact see2 (q2 x hx)
     ·simp only[Ef,Ae]at hu;exact hu.elim (p6 u) (q5 u)
    ·cases h
   ·cases h
  ·rename_i own hm;split at h
   ·rename_i t x BC hx;split at h
    ·cases h
    rename_i AP;have AP:(Jc s).2=Ar P t:=by simpa using AP
    split at h
    ·rename_i rs vs' FX;simp only[Af,A0]at h;obtain⟨rfl,rfl,rfl,rfl⟩:=h;obtain⟨ts,rfl⟩:∃ts',ts=t::ts':=by
      cases ts with
      |nil=>simp at BC
      |cons t' ts=>simp at BC;exact⟨ts,by rw[BC]⟩
     obtain⟨f,h8,p1,p2,p3,⟨vs9,p4,p5⟩,p6⟩:=zww (P:=P) eh k hU r1 hx AP FX;refine⟨f++rf,lf,h8++A9, .cons (by rw[hm];exact p1) q1,λx hx=> ?_,qz,by simp[Ef,p3,q3], .va hm p6 q4,λu hu=> ?_,λ_=>rfl⟩
     ·rcases Ae.1 hx with hx|hx
      ·exact see1 (p2 x hx)
      ·exact see2 (q2 x hx)
     ·simp only[Ef,Ae]at hu;exact hu.elim (p6 u) (q5 u)
    ·cases h
   ·cases h
end
inductive FP(P:Program)(w:World):List TypeId->List Bool->List Value->List AV->List Nat->List Nat->Prop where
 |nil {fl}:FP P w [] fl [] [] [] []
 |own {t ts fl el u us y ys top N f o}:fl.headD false=true->CK P t=some el->(Ch P el=true/\N=[]\/Ch P el=false/\DN P t=none)->Df w el (P.cellsOf el) u y top N->FP P w ts fl.tail us ys f o->FP P w (t::ts) fl (u::us) (y::ys) (N++f) (top++o)
 |deep {t ts fl el e z l u us y ys top f o}:fl.headD false=true->CK P t=some el->Ch P el=false->DN P t=some (.row e z l)->DC w [.row e z l] [u] [y] top->FP P w ts fl.tail us ys f o->FP P w (t::ts) fl (u::us) (y::ys) f (top++o)
 |skip {t ts fl u us y ys f o}:(fl.headD false=true->CK P t=none)->FP P w ts fl.tail us ys f o->FP P w (t::ts) fl (u::us) (y::ys) f o
inductive D4(P:Program)(w:World):List TypeId->List PM->List Value->List AV->List Nat->List Nat->Prop where
 |nil {ms vs}:D4 P w [] ms vs [] [] []
 |ro {t ts ms v vs bs f o}:ms.headD .ro= .ro->D4 P w ts ms.tail vs bs f o->D4 P w (t::ts) ms (v::vs) bs f o
 |va {t ts ms own v vs bs f o}:ms.headD .ro= .va own->D4 P w ts ms.tail vs bs f o->D4 P w (t::ts) ms (v::vs) bs f o
 |mu {t ts ms own v vs us ys y bs f1 f o1 o}:ms.headD .ro= .mu own->(if Ar P t then v= .agg us.toArray/\y= .agg ys else us=[v]/\ys=[y])->FP P w (Bc P t) own us ys f1 o1->D4 P w ts ms.tail vs bs f o->D4 P w (t::ts) ms (v::vs) (y::bs) (f1++f) (o1++o)
 |bx {t ts ms own own' ty b C v vs ys y bs f1 o1 f o}:ms.headD .ro= .bx own own'->LQ P t=some ty->v= .pointer (some ⟨b,0,none⟩)->w.heap[b]?=some (.cells C ty (0,0))->(∀u∈C.toList,u.oneCell'=true)->y= .agg ys->CA P w (Bc P ty) own' C.toList ys f1 o1->
   D4 P w ts ms.tail vs bs f o->D4 P w (t::ts) ms (v::vs) (y::bs) (f1++f) (b::o1++o)
section
variable {P:Program} {c:Cx} {w':World}
theorem zE7{mk:Nat->E}{ts:List TypeId}{fl:List Bool}{us:List Value}{rs:List (Option RI)}(h:HV P c ts fl us rs)(hU:∀t g,c.K t g->c.U t):∀{ys:List AV} {f o:List Nat} (j:Nat),FP P w' ts fl us ys f o->(∀i y,ys[i]?=some y->(mk (j+i)).den c.ρ=y)->
  ∃recs:List AZ,NK mk j rs=recs.map AZ.pair/\(recs.flatMap AZ.top).Sublist o/\(∀r∈recs,r.new=none/\c.U r.tag/\ ∀hs f,r.cy≠ .gd hs f)/\recs.map AZ.tag=De rs/\ ∀c',FC c c' w' recs->(∀b∈f,c'.ok b)-> ∀r∈recs,DL c' r.tag r.cy:=by
 induction h with
 |nil=>intro ys f o j hm _;cases hm;exact⟨[],rfl,by simp,by simp,rfl,by simp⟩
 | @row t ts fl v vs u g el rs h1 h2 KG h3 h4 h5 _ ih=>
  intro ys f o j hm GO;cases hm with
  |skip hh _=>rw[hh h1]at h2;cases h2
  |deep _ k2 k21 k22 _ _=>
   rw[h2]at k2;cases k2;rcases KG with hh|hh
   ·rw[hh]at k21;cases k21
   ·rw[hh]at k22;cases k22
  | @own _ _ _ el' _ _ y ys top N f o k1 k2 k23 k3 k4=>
   rw[h2]at k2;cases k2;obtain⟨recs,e1,e2,e3,e4,e5⟩:=ih (j+1) k4 (λi y hy=>by rw[show j+1+i=j+(i+1)from by omega];exact GO (i+1) y (by simpa using hy));have hy:=GO 0 y rfl;refine⟨⟨u,none,top, .row el (P.cellsOf el) g (mk j) (Ch P el)⟩::recs,by simp[NK,e1,AZ.pair],by simpa using(List.Sublist.refl top).append e2,λr hr=> ?_,by simp[De,RI.tag,e4],λc' ha A4 r hr=> ?_⟩
   ·rcases Ag.1 hr with rfl|hr
    ·exact⟨rfl,hU _ _ h3,by simp⟩
    ·exact e3 r hr
   ·rcases Ag.1 hr with rfl|hr
    ·obtain⟨a1,a2⟩:=ha.K u g h3;have kg:=ha.G _ (List.mem_cons_self ..);simp only at kg;refine⟨a1,λg' CN=>h5 g' (ha.old u (hU _ _ h3) g' CN),N,?_,λb hb=>A4 b (by simp[hb]),λhd=> ?_,λ_=>by rw[kg]⟩
     rotate_left
     ·rcases k23 with⟨_,h⟩|⟨h,_⟩
      ·subst h;exact⟨rfl,by rw[kg]⟩
      ·rw[h]at hd;cases hd
     have BP:(mk j).den c.ρ=y:=by simpa using hy
     rw[a2,h4,kg,ha.w,ha.ρ,BP];exact k3
    ·exact e5 c' (ha.mono λr hr=>by simp[hr]) (λb hb=>A4 b (by simp[hb])) r hr
 | @deep t ts fl v vs u g el e z l ep rs h1 h2 U5 Ro h3 h4 h5 h6 _ ih=>
  intro ys f o j hm GO;cases hm with
  |skip hh _=>rw[hh h1]at h2;cases h2
  |own _ k2 k23 _ _=>
   rw[h2]at k2;cases k2;rcases k23 with⟨hh,_⟩|⟨_,hh⟩
   ·rw[hh]at U5;cases U5
   ·rw[hh]at Ro;cases Ro
  | @deep _ _ _ el' e' z' l' _ _ y ys top f o k1 k2 k21 k22 k3 k4=>
   rw[Ro]at k22;cases k22;obtain⟨recs,e1,e2,e3,e4,e5⟩:=ih (j+1) k4 (λi y hy=>by rw[show j+1+i=j+(i+1)from by omega];exact GO (i+1) y (by simpa using hy));have hy:=GO 0 y rfl;refine⟨⟨u,none,top, .deep e z l g (ep+1) (mk j)⟩::recs,by simp[NK,e1,AZ.pair],by simpa using(List.Sublist.refl top).append e2,λr hr=> ?_,by simp[De,RI.tag,e4],λc' ha A4 r hr=> ?_⟩
   ·rcases Ag.1 hr with rfl|hr
    ·exact⟨rfl,hU _ _ h3,by simp⟩
    ·exact e3 r hr
   ·rcases Ag.1 hr with rfl|hr
    ·obtain⟨a1,a2⟩:=ha.K u g h3;have kg:=ha.G _ (List.mem_cons_self ..);have ke:=ha.jh _ (List.mem_cons_self ..) rfl;simp only at kg ke;refine⟨a1,λg' CN=>h5 g' (ha.old u (hU _ _ h3) g' CN),by rw[ke,h6],?_,by rw[kg]⟩;have BP:(mk j).den c.ρ=y:=by simpa using hy
     rw[a2,h4,kg,ha.w,ha.ρ,BP];exact k3
    ·exact e5 c' (ha.mono λr hr=>by simp[hr]) (λb hb=>A4 b (by simp[hb])) r hr
 | @none t ts fl v vs rs _ _ ih=>
  intro ys f o j hm GO;have go:∀{y:AV} {ys':List AV} {f' o':List Nat},ys=y::ys'->FP P w' ts fl.tail vs ys' f' o'->(∀b∈f',b∈f)->o'.Sublist o-> ∃recs:List AZ,NK mk j (none::rs)=recs.map AZ.pair/\(recs.flatMap AZ.top).Sublist o/\(∀r∈recs,r.new=none/\c.U r.tag/\ ∀hs f,r.cy≠ .gd hs f)/\recs.map AZ.tag=De (none::rs)/\ ∀c',FC c c' w' recs->(∀b∈f,c'.ok b)-> ∀r∈recs,DL c' r.tag r.cy:=by rintro y ys' f' o' rfl Dq hf hs;obtain⟨recs,e1,e2,e3,e4,e5⟩:=ih (j+1) Dq (λi y hy=>by rw[show j+1+i=j+(i+1)from by omega];exact GO (i+1) y (by simpa using hy));exact⟨recs,by simp[NK,e1],e2.trans hs,e3,by simp[De]at e4 ⊢;exact e4,λc' ha A4=>e5 c' ha λb hb=>A4 b (hf b hb)⟩
  cases hm with
  |skip _ h8=>exact go rfl h8 (λ_ h=>h) (List.Sublist.refl _)
  |own _ _ _ _ h8=>exact go rfl h8 (λb hb=>by simp[hb]) (List.sublist_append_right _ _)
  |deep _ _ _ _ _ h8=>exact go rfl h8 (λ_ h=>h) (List.sublist_append_right _ _)
theorem zAe(us:List Nat)(hU:∀u∈us,c.U u):∃recs:List AZ,ES us=recs.map AZ.pair/\recs.flatMap AZ.top=[]/\(∀r∈recs,r.new=none/\c.U r.tag/\ ∀hs f,r.cy≠ .gd hs f)/\recs.map AZ.tag=us/\ ∀c',FC c c' w' recs-> ∀r∈recs,DL c' r.tag r.cy:=by
 induction us with
 |nil=>exact⟨[],rfl,rfl,by simp,rfl,by simp⟩
 |cons u us ih=>
  obtain⟨recs,e1,e2,e3,e4,e5⟩:=ih λu hu=>hU u (by simp[hu]);refine⟨⟨u,none,[], .dead⟩::recs,by simp only[ES]at e1;simp[ES,e1,AZ.pair],by simp[e2],λr hr=> ?_,by simp[e4],λc' ha r hr=> ?_⟩
  ·rcases Ag.1 hr with rfl|hr
   ·exact⟨rfl,hU _ (by simp),by simp⟩
   ·exact e3 r hr
  ·rcases Ag.1 hr with rfl|hr
   ·have kg:=ha.G _ (List.mem_cons_self ..);simp only at kg;exact⟨by rw[kg],by rw[kg]⟩
   ·exact e5 c' (ha.mono λr hr=>by simp[hr]) r hr
structure Km(c:Cx)(w':World)(nx m:Nat)(l:List (Nat × Aj))(hd o f:List Nat)(recs:List AZ):Prop where
 ents:l=recs.map AZ.pair
 n7:(recs.flatMap AZ.top).Sublist o
 new:∀r∈recs,r.new.isSome=true->nx<=r.tag/\r.tag<nx+m
 old:∀r∈recs,r.new=none->r.tag∈hd/\c.U r.tag
 all:∀t∈hd,∃r∈recs,r.tag=t
 nodup:hd.Nodup->(∀t,nx<=t->t<nx+m-> ¬c.U t)->(recs.map AZ.tag).Nodup
 ne:∀r∈recs,∀hs f,r.cy≠ .gd hs f
 ok:∀c',FC c c' w' recs->(∀b∈f,c'.ok b)-> ∀r∈recs,DL c' r.tag r.cy
theorem Km.app{nx m m':Nat}{l l':List (Nat × Aj)}{hd My o o' f f':List Nat}{recs recs':List AZ}(h:Km c w' nx m l hd o f recs)(k:Km c w' (nx+m) m' l' My o' f' recs'):Km c w' nx (m+m') (l++l') (hd++My) (o++o') (f++f') (recs++recs'):=by
 refine⟨by rw[h.ents,k.ents,List.map_append],by rw[List.flatMap_append];exact h.n7.append k.n7,λr hr hn=> ?_,λr hr hn=> ?_,λt ht=> ?_,λhn hU=> ?_,λr hr=> ?_,λc' ha A4 r hr=> ?_⟩
 ·rcases Ae.1 hr with hr|hr
  ·have:=h.new r hr hn;omega
  ·have:=k.new r hr hn;omega
 ·rcases Ae.1 hr with hr|hr
  ·exact⟨by simp[(h.old r hr hn).1],(h.old r hr hn).2⟩
  ·exact⟨by simp[(k.old r hr hn).1],(k.old r hr hn).2⟩
 ·rcases Ae.1 ht with ht|ht
  ·obtain⟨r,hr,e⟩:=h.all t ht;exact⟨r,by simp[hr],e⟩
  ·obtain⟨r,hr,e⟩:=k.all t ht;exact⟨r,by simp[hr],e⟩
 ·rw[List.nodup_append]at hn;rw[List.map_append,List.nodup_append];refine⟨h.nodup hn.1 λt h1 h2=>hU t h1 (by omega),k.nodup hn.2.1 λt h1 h2=>hU t (by omega) (by omega),λt1 Od t2 LL he=> ?_⟩;obtain⟨q1,Hr,rfl⟩:=List.mem_map.1 Od;obtain⟨q2,FT,rfl⟩:=List.mem_map.1 LL;cases n1:q1.new with
  |none=>
   obtain⟨a1,a2⟩:=h.old q1 Hr n1;cases n2:q2.new with
   |none=>exact hn.2.2 _ a1 _ (k.old q2 FT n2).1 he
   |some v2=>have:=k.new q2 FT (by simp[n2]);exact hU q2.tag (by omega) (by omega) (he▸a2)
  |some v1=>
   have:=h.new q1 Hr (by simp[n1]);cases n2:q2.new with
   |none=>exact hU q1.tag (by omega) (by omega) (he▸(k.old q2 FT n2).2)
   |some v2=>have:=k.new q2 FT (by simp[n2]);omega
 ·rcases Ae.1 hr with hr|hr
  ·exact h.ne r hr
  ·exact k.ne r hr
 ·rcases Ae.1 hr with hr|hr
  ·exact h.ok c' (ha.mono λr hr=>by simp[hr]) (λb hb=>A4 b (by simp[hb])) r hr
  ·exact k.ok c' (ha.mono λr hr=>by simp[hr]) (λb hb=>A4 b (by simp[hb])) r hr
theorem Km.l7{nx:Nat}{l:List (Nat × Aj)}{hd o f:List Nat}{recs:List AZ}(e1:l=recs.map AZ.pair)(e2:(recs.flatMap AZ.top).Sublist o)(e3:∀r∈recs,r.new=none/\c.U r.tag/\ ∀hs f,r.cy≠ .gd hs f)(e4:recs.map AZ.tag=hd)(e5:∀c',FC c c' w' recs->(∀b∈f,c'.ok b)-> ∀r∈recs,DL c' r.tag r.cy):Km c w' nx 0 l hd o f recs:=by
 refine⟨e1,e2,λr hr hn=> ?_,λr hr _=>⟨?_,(e3 r hr).2.1⟩,λt ht=> ?_,λhn _=>by rw[e4];exact hn,λr hr=>(e3 r hr).2.2,λc' ha A4=>e5 c' ha A4⟩
 ·rw[(e3 r hr).1]at hn;cases hn
 ·rw[<-e4];exact List.mem_map.2 ⟨r,hr,rfl⟩
 ·rw[<-e4]at ht;obtain⟨r,hr,e⟩:=List.mem_map.1 ht;exact⟨r,hr,e⟩
theorem zHG{ts:List TypeId}{ms:List PM}{vs:List Value}{bs:List PA}(h:Kq P c ts ms vs bs)(hU:∀t g,c.K t g->c.U t){r:Nat}:∀{Bs:List AV} {f o:List Nat} (nx j:Nat),D4 P w' ts ms vs Bs f o->(∀k y,Bs[k]?=some y->(E.proj (.var r) (j+k+1)).den c.ρ=y)->
  Bs.length=J2 bs/\ ∃recs,Km c w' nx (Mb P bs) (after P r nx bs j) (Ef bs) o f recs:=by
 have nilS:∀nx,Km c w' nx 0 [] [] [] [] []:=λnx=>⟨rfl,by simp,by simp,by simp,by simp,by simp,by simp,by simp⟩
 induction h with
 |nil=>intro Bs f o nx j hb _;cases hb;exact⟨rfl,[],by simpa[after,Ef,Mb]using nilS nx⟩
 | @ro ts ms v vs bs hm DS ih=>
  intro Bs f o nx j hb hB;cases hb with
  |nil=>exact ih nx j .nil hB
  |ro _ h8=>exact ih nx j h8 hB
  |va h9 _=>rw[hm]at h9;cases h9
  |mu h9 _ _ _=>rw[hm]at h9;cases h9
  |bx h9 _ _ _ _ _ _ _=>rw[hm]at h9;cases h9
 | @va ts ms own v vs bs us hm MM DS ih=>
  intro Bs f o nx j hb hB;obtain⟨recs1,e1,e2,e3,e4,e5⟩:=zAe (c:=c) (w':=w') us MM;have s1:Km c w' nx 0 (ES us) us [] [] recs1:= .l7 e1 (by rw[e2];exact List.Sublist.refl _) e3 e4 λc' ha _=>e5 c' ha;cases hb with
  |nil=>obtain⟨h1,recs2,s2⟩:=ih nx j .nil hB;exact⟨by simpa[J2]using h1,recs1++recs2,by simpa[after,Ef,Mb]using s1.app s2⟩
  |ro h9 _=>rw[hm]at h9;cases h9
  |va _ h8=>obtain⟨h1,recs2,s2⟩:=ih nx j h8 hB;exact⟨by simpa[J2]using h1,recs1++recs2,by simpa[after,Ef,Mb]using s1.app s2⟩
  |mu h9 _ _ _=>rw[hm]at h9;cases h9
  |bx h9 _ _ _ _ _ _ _=>rw[hm]at h9;cases h9
 | @mu t ts ms own v vs bs us rs hm MM FX DS ih=>
  intro Bs f o nx j hb hB;cases hb with
  |ro h9 _=>rw[hm]at h9;cases h9
  |va h9 _=>rw[hm]at h9;cases h9
  |bx h9 _ _ _ _ _ _ _=>rw[hm]at h9;cases h9
  | @mu _ _ _ own2 _ _ us2 ys y Bs f1 f o1 o h9 hg VR h8=>
   rw[hm]at h9;cases h9;obtain⟨h1,recs2,s2⟩:=ih nx (j+1) h8 (λk y hy=>by rw[show j+1+k+1=j+(k+1)+1 from by omega];exact hB (k+1) y (by simpa using hy));have hy:=hB 0 y rfl;have P6:us2=us:=by
    split at MM
    ·rename_i AP;rw[if_pos AP]at hg;obtain⟨rfl,_⟩:=hg;exact zwE MM
    ·rename_i AP;rw[if_neg AP]at hg;rw[hg.1,MM]
   subst P6;obtain⟨recs1,e1,e2,e3,e4,e5⟩:=zE7 (w':=w') (mk:=Eh (.proj (.var r) (j+1)) (Ar P t)) FX hU 0 VR (by
    intro i z hz;split at hg
    ·rename_i AP;rw[AP];exact YD (by rw[<-hg.2];exact hy) i z hz
    ·rename_i AP;have H6:Ar P t=false:=by simpa using AP
     rw[hg.2]at hz;cases i with
     |zero=>simp at hz;subst hz;rw[H6];simpa[Eh]using hy
     |succ i=>simp at hz)
   have s1:Km c w' nx 0 _ (De rs) o1 f1 recs1:= .l7 e1 e2 e3 e4 e5;exact⟨by simp[J2,h1],recs1++recs2,by simpa[after,Ef,Mb]using s1.app s2⟩
 | @bx t ts ms own own' ty v vs bs T b g olds hm EK hv hK hH hol DS ih=>
  intro Bs f o nx j hb hB;cases hb with
  |ro h9 _=>rw[hm]at h9;cases h9
  |va h9 _=>rw[hm]at h9;cases h9
  |mu h9 _ _ _=>rw[hm]at h9;cases h9
  | @bx _ _ _ own2 own3 ty2 b2 C _ _ ys y Bs f1 o1 f o h9 K3 Dl hh Da IZ hc h8=>
   rw[hm]at h9;cases h9;rw[EK]at K3;cases K3;have Zu:b2=b:=by rw[hv]at Dl;cases Dl;rfl
   subst Zu;obtain⟨h1,recs2,s2⟩:=ih (nx+(Bc P ty).length) (j+1) h8 (λk y hy=>by rw[show j+1+k+1=j+(k+1)+1 from by omega];exact hB (k+1) y (by simpa using hy));have hy:=hB 0 y rfl;obtain⟨recs0,d1,d2,d3,d4,d5⟩:=zAe (c:=c) (w':=w') olds hol;have s0:Km c w' nx 0 (ES olds) olds [] [] recs0:= .l7 d1 (by rw[d2];exact List.Sublist.refl _) d3 d4 λc' ha _=>d5 c' ha;obtain⟨recs1,e1,e2,e3,e4,_,e5⟩:=TL (c:=c) (nx:=nx) (mk:=Eh (.proj (.var r) (j+1)) true) hc 0 (YD (by rw[<-IZ];exact hy));have hcU:=hU _ _ hK;have s1:Km c w' nx (Bc P ty).length ((T, .box ty g (Ds P nx (Eh (.proj (.var r) (j+1)) true) 0 (Bc P ty) own').1)::(Ds P nx (Eh (.proj (.var r) (j+1)) true) 0 (Bc P ty) own').2) [T] (b2::o1) f1 (⟨T,none,[b2], .box ty g (Ds P nx (Eh (.proj (.var r) (j+1)) true) 0 (Bc P ty) own').1⟩::recs1):=by
    refine⟨by simp[e1,AZ.pair],?_,λq hq hn=> ?_,λq hq hn=> ?_,by simp,λ_ Bm=> ?_,λq hq=> ?_,λc' ha A4 q hq=> ?_⟩
    ·simp only[List.flatMap_cons,e2,List.singleton_append];exact List.Sublist.refl _
    ·rcases Ag.1 hq with rfl|hq
     ·cases hn
     ·have:=e3 q hq;omega
    ·rcases Ag.1 hq with rfl|hq
     ·exact⟨by simp,hcU⟩
     ·have:=(e3 q hq).2.2;rw[hn]at this;cases this
    ·simp only[List.map_cons,List.nodup_cons];refine⟨λhm=> ?_,e4⟩;obtain⟨q,hq,hqt⟩:=List.mem_map.1 hm;have:=e3 q hq;exact Bm q.tag (by omega) (by omega) (hqt▸hcU)
    ·rcases Ag.1 hq with rfl|hq
     ·simp
     ·intro hs f he;obtain⟨q1,q2⟩:=e3 q hq;have:(q.tag,q.cy)∈(Ds P nx (Eh (.proj (.var r) (j+1)) true) 0 (Bc P ty) own').2:=by
       rw[e1];exact List.mem_map.2 ⟨q,hq,rfl⟩
      exact QU _ _ _ _ _ this he
    ·obtain⟨p1,p2⟩:=e5 c' (ha.mono λr hr=>by simp[hr]) A4;rcases Ag.1 hq with rfl|hq
     ·obtain⟨a1,a2⟩:=ha.K T 0 hK;have kg:=ha.G _ (List.mem_cons_self ..);simp only at kg;exact⟨b2,C,a1,by rw[a2,hH,hv],by rw[kg],by rw[kg],by rw[ha.w];exact hh,Da,p1⟩
     ·exact p2 q hq
   refine⟨by simp[J2,h1],recs0++((⟨T,none,[b2], .box ty g (Ds P nx (Eh (.proj (.var r) (j+1)) true) 0 (Bc P ty) own').1⟩::recs1)++recs2),?_⟩;have s3:=s0.app (s1.app s2);rw[Nat.zero_add]at s3;refine⟨by simpa[after]using s3.ents,s3.n7,s3.new,λq hq hn=> ?_,λt ht=> ?_,λhn Bm=> ?_,s3.ne,s3.ok⟩
   ·have:=s3.old q hq hn;simp only[Ef,List.cons_append,Ag,Ae,List.not_mem_nil,or_false,List.nil_append]at this ⊢;exact⟨by rcases this.1 with h|h|h;exact .inr (.inl h);exact .inl h;exact .inr (.inr h),this.2⟩
   ·refine s3.all t ?_;simp only[Ef,List.cons_append,Ag,Ae,List.nil_append]at ht ⊢;rcases ht with h|h|h
    ·exact .inr (.inl h)
    ·exact .inl h
    ·exact .inr (.inr h)
   ·refine s3.nodup ?_ Bm;simp only[Ef,List.cons_append,List.nodup_cons,List.nodup_append,Ae,not_or,List.nil_append]at hn ⊢;obtain⟨⟨n1,n2⟩,n3,n4,n5⟩:=hn;refine⟨n3,⟨n2,n4⟩,λa ha b hb=> ?_⟩;rcases Ag.1 hb with rfl|hb
    ·rintro rfl;exact n1 ha
    ·exact n5 a ha b hb
end
def Ri(P:Program):List TypeId->List Bool->List AV->Bool
 |t::ts,fl,y::ys=>((fl.headD false&&(CK P t).isSome)||Dw P t||y.scalar)&&Ri P ts fl.tail ys
 |_,_,_=>true
def aY(P:Program)(t:TypeId)(fl:List Bool)(x:AV):Bool:=if FL P t fl then Ri P (Bc P t) fl (if Ar P t then x.cells else [x])else Dw P t||x.cells.all AV.scalar
def Wv(P:Program):List TypeId->List Bool->List AV->Bool
 |t::ts,fl,x::xs=>aY P t fl x&&Wv P ts (fl.drop (Bc P t).length) xs
 |_,_,_=>true
def WK(P:Program)(ts:List TypeId)(fl:List Bool)(R:AV):Bool:=match ts with
 | [t]=>aY P t fl R
 |ts=>match R with
  | .tup ys=>Wv P ts fl ys
  |_=>true
def Js(P:Program):List TypeId->List PM->List AV->Bool
 |t::ts,ms,bs=>(match ms.headD .ro with
  | .ro=>Js P ts ms.tail bs
  | .va _=>Js P ts ms.tail bs
  | .mu _=>Js P ts ms.tail bs.tail
  | .bx _ own'=>(match LQ P t,bs with
   |some ty,b::_=>Ri P (Bc P ty) own' b.cells
   |_,_=>true)&&Js P ts ms.tail bs.tail)
 | [],_,_=>true
def BM:List TypeId->List PM->Bool
 |_::ts,ms=>(match ms.headD .ro with
  | .mu _=>true
  | .bx .. =>true
  |_=>false)||BM ts ms.tail
 | [],_=>false
def Nq(P:Program)(fn:Func)(s:IN)(r:AV):Bool:=
 if BM (fn.params.toList++s.ft) s.c8 then(match r with
  | .tup (R::bs)=>WK P fn.resultTypes.toList s.res R&&Js P (fn.params.toList++s.ft) s.c8 bs
  |_=>false)
 else WK P fn.resultTypes.toList s.res r
def Lb(P:Program)(w:World)(ts:List TypeId)(fl:List Bool)(v:Value)(R:AV)(f o:List Nat):Prop:=match ts with
 | [t]=>DM P w t fl v R f o
 |ts=> ∃vs ys,v= .tuple vs.toArray/\R= .tup ys/\Lv P w ts fl vs ys f o
structure uM(P:Program)(fn:Func)(s:IN)(w:World)(vs:List Value)(rf hs:List Nat)(r:AV)(v:Value)(w':World):Prop where
 ex:∃R bs f1 o1 f2 o2,r=(match bs with| []=>R|_=> .tup (R::bs))/\Lb P w' fn.resultTypes.toList s.res v R f1 o1/\D4 P w' (fn.params.toList++s.ft) s.c8 vs bs f2 o2/\(o1++o2).Nodup/\
  (∀b∈o1++o2,(b∈hs\/w.heap.size<=b)/\b<w'.heap.size)/\ ∀b∈f1++f2,b∉o1++o2/\(b∈rf\/b∈hs\/w.heap.size<=b)
 mod:Mod hs w w'
theorem Rel.oy{c:Cx}{n:Nat}{sl:Nat->SV}{hp:Nat->Option Aj}{a:Act}(h:Rel c n sl hp a){hs:List Nat}(hh:∀b∈hs,∃t,b∈(c.G t).top):uS c.w (λb=>b∈hs):=by
 obtain⟨p1,p2,p3⟩:=h.base.pk;refine⟨Nat.le_trans p1 h.base.size,MS.mono (λb hb=>h.base.block b (by omega) λhm=>by have:=p3 b hm;omega) p2,λb hb=> ?_⟩;obtain⟨t,ht⟩:=hh b hb;rcases h.gw.allow t b (by simp[GI.own,ht])with k|k
 ·have:c.w0.heap.size<=b:=k;omega
 ·exact p3 b k
def U1(P:Program)(s:IN)(f:Nat)(xs:List AV)(r:AV):Prop:=
 ∃fn,P.funcs[f]?=some fn/\fn.body.isSome=true/\(fn.name== "runtime.NumGoroutine")=false/\Nq P fn s r=true/\xs.length=fn.params.size+fn.nfree/\s.ft.length<=fn.nfree/\
  ∀(w:World) (vs:List Value) (rf lf hs:List Nat),Eg P w (fn.params.toList++s.ft) s.c8 s.lo vs xs rf lf hs->(∀b∈hs,b∉rf)->(∀b∈hs,b∉lf)->hs.Nodup->uS w (λb=>b∈hs)->
   Calls P f vs.toArray w λe w'=> ∃v,e= .returned v/\uM P fn s w vs rf hs r v w'
def Cp(P:Program)(sg:BW)(f:Nat)(xs:List AV)(r:AV):Prop:=
 if f<1000000 then∃s,sg f=some s/\U1 P s f xs r else U1 P {c8:=[],res:=[]} (f-1000000) xs r
section
variable {P:Program} {w:World}
theorem ztS{v:Value}{x:AV}{f:List Nat}(h:Rd w [v] [x] f)(hx:∀y∈x.cells,y.scalar=true):f=[]:=by
 by_cases AP:∃cs,x= .agg cs
 ·obtain⟨cs,rfl⟩:=AP;obtain⟨as_,_,_,hr⟩:=Ky h rfl;exact IG hr hx
 ·have:x.cells=[x]:=by cases x<;>first|rfl|exact absurd ⟨_,rfl⟩ AP
  rw[this]at hx;exact IG h hx
theorem zH4{t el:TypeId}(h:CK P t=some el):Dw P t=true:=by have hu:=L1 h;simp[Dw,Ch,Bc,Z0,hu]
theorem CA.flat{ts:List TypeId}{fl:List Bool}{us:List Value}{ys:List AV}{rf hs:List Nat}(h:CA P w ts fl us ys rf hs)(h1:Fk P ts fl=false)(h2:Ri P ts fl ys=true):rf=[]:=by
 induction h with
 |nil=>rfl
 |own k1 k2 k23 _ _ ih=>
  simp only[Fk,Bool.or_eq_false_iff]at h1;simp only[Ri,Ac]at h2;have hN:=k23;have hw:=h1.1;rw[zH4 k2,k1]at hw;rcases hN with⟨_,rfl⟩|⟨q1,q2⟩
  ·rw[ih h1.2 h2.2];rfl
  ·simp[aN,k2,q1,q2]at hw
 |deep _ _ _ _ _ _ ih=>simp only[Fk,Bool.or_eq_false_iff]at h1;simp only[Ri,Ac]at h2;exact ih h1.2 h2.2
 | @rd t ts fl u us y ys f rf hs hn hr _ ih=>
  simp only[Fk,Bool.or_eq_false_iff]at h1;simp only[Ri,Ac]at h2;have DQ:(fl.headD false&&(CK P t).isSome)=false:=by
   cases hh:fl.headD false with
   |false=>rfl
   |true=>rw[hn hh];rfl
  have oQ:(fl.headD false&&aN P t)=false:=by
   cases hh:fl.headD false with
   |false=>rfl
   |true=>simp[aN,hn hh]
  rw[oQ]at h1;rw[DQ]at h2;have Kf:Dw P t=false:=by simpa using h1.1
  rw[Kf]at h2;have hs:y.scalar=true:=by simpa using h2.1
  rw[IG hr (by simpa using hs),ih h1.2 h2.2];rfl
theorem DM.flat{t:TypeId}{fl:List Bool}{v:Value}{x:AV}{rf hs:List Nat}(h:DM P w t fl v x rf hs)(h1:uA P t fl=false)(h2:aY P t fl x=true):rf=[]:=by
 unfold DM at h;unfold uA at h1;unfold aY at h2;split at h
 ·rename_i hf;rw[if_pos hf]at h1 h2;obtain⟨us,ys,hg,hc⟩:=h;split at hg
  ·rename_i AP;obtain⟨_,rfl,_⟩:=hg;rw[if_pos AP]at h2;exact hc.flat h1 h2
  ·rename_i AP;obtain⟨_,rfl⟩:=hg;rw[if_neg AP]at h2;exact hc.flat h1 h2
 ·rename_i hf;rw[if_neg hf]at h1 h2;rw[h1]at h2;exact ztS h.1 (by simpa using h2)
theorem Lv.flat{ts:List TypeId}{fl:List Bool}{vs:List Value}{xs:List AV}{rf hs:List Nat}(h:Lv P w ts fl vs xs rf hs)(h1:DZ P ts fl=false)(h2:Wv P ts fl xs=true):rf=[]:=by
 induction h with
 |nil=>rfl
 |cons hv _ ih=>simp only[DZ,Bool.or_eq_false_iff]at h1;simp only[Wv,Ac]at h2;rw[hv.flat h1.1 h2.1,ih h1.2 h2.2];rfl
theorem Lb.flat{ts:List TypeId}{fl:List Bool}{v:Value}{R:AV}{f o:List Nat}(h:Lb P w ts fl v R f o)(h1:DZ P ts fl=false)(h2:WK P ts fl R=true):f=[]:=by
 match ts,h,h1,h2 with
 | [t],h,h1,h2=>simp only[DZ,Bool.or_false]at h1;exact DM.flat h h1 h2
 | [],h,h1,h2=>obtain⟨vs,ys,_,rfl,hv⟩:=h;exact hv.flat h1 h2
 |t::u::ts,h,h1,h2=>obtain⟨vs,ys,_,rfl,hv⟩:=h;exact hv.flat h1 h2
theorem Df.void{ety sz:Nat}{a:Option Addr}{x:AV}{top N:List Nat}(h:Df w ety sz (.slice a 0 0) x top N):N=[]:=by
 obtain⟨xs,_,_,_,⟨_,_,_,h⟩|⟨g,cap,C,hv,h6,_,_,_,_,_,hr⟩⟩:=h
 ·exact h
 ·have h0:xs.length=0:=by injection hv with _ h _;exact h.symm
  have:xs=[]:=by cases xs with|nil=>rfl|cons _ _=>simp at h0
  subst this;simp[AA]at hr;cases hr;rfl
theorem FP.flat{c:Cx}{ts:List TypeId}{fl:List Bool}{us:List Value}{rs:List (Option RI)}(h:HV P c ts fl us rs):∀{ys:List AV} {f o:List Nat},FP P w ts fl us ys f o->rs.any RI.lent=false->f=[]:=by
 induction h with
 |nil=>intro ys f o hm _;cases hm;rfl
 |row k1 k2 k23 _ _ _ _ ih=>
  intro ys f o hm hl;simp only[List.any_cons,Bool.or_eq_false_iff,RI.lent]at hl;cases hm with
  |own _ q2 q23 _ q4=>
   rw[k2]at q2;cases q2;rcases q23 with⟨_,rfl⟩|⟨q,_⟩
   ·exact ih q4 hl.2
   ·rw[q]at hl;simp at hl
  |deep _ _ _ _ _ q=>exact ih q hl.2
  |skip _ q=>exact ih q hl.2
 |deep k1 k2 k21 k22 _ _ _ _ _ ih=>
  intro ys f o hm hl;simp only[List.any_cons,Bool.or_eq_false_iff]at hl;cases hm with
  |own _ q2 q23 _ q4=>
   rw[k2]at q2;cases q2;rcases q23 with⟨_,rfl⟩|⟨_,q⟩
   ·exact ih q4 hl.2
   ·rw[q]at k22;cases k22
  |deep _ _ _ _ _ q=>exact ih q hl.2
  |skip _ q=>exact ih q hl.2
 |none hv _ ih=>
  intro ys f o hm hl;simp only[List.any_cons,Bool.or_eq_false_iff]at hl;cases hm with
  |own q1 q2 _ q3 q4=>
   rcases hv q1 with hh|⟨a,rfl⟩
   ·rw[hh]at q2;cases q2
   ·rw[Df.void q3];exact ih q4 hl.2
  |deep _ _ _ _ _ q=>exact ih q hl.2
  |skip _ q=>exact ih q hl.2
theorem D4.flat{c:Cx}{ts:List TypeId}{ms:List PM}{vs:List Value}{bs:List PA}(h:Kq P c ts ms vs bs):∀{Bs:List AV} {f o:List Nat},D4 P w ts ms vs Bs f o->EA P bs=false->Js P ts ms Bs=true->f=[]:=by
 induction h with
 |nil=>intro Bs f o hb _ _;cases hb;rfl
 | @ro ts ms v vs bs hm _ ih=>
  intro Bs f o hb h1 h2;cases hb with
  |nil=>rfl
  |ro _ h8=>simp only[Js,hm]at h2;exact ih h8 h1 h2
  |va h9 _=>rw[hm]at h9;cases h9
  |mu h9 _ _ _=>rw[hm]at h9;cases h9
  |bx h9 _ _ _ _ _ _ _=>rw[hm]at h9;cases h9
 | @va ts ms own v vs bs us hm _ _ ih=>
  intro Bs f o hb h1 h2;cases hb with
  |nil=>rfl
  |ro h9 _=>rw[hm]at h9;cases h9
  |va _ h8=>simp only[Js,hm]at h2;exact ih h8 h1 h2
  |mu h9 _ _ _=>rw[hm]at h9;cases h9
  |bx h9 _ _ _ _ _ _ _=>rw[hm]at h9;cases h9
 | @mu t ts ms own v vs bs us rs hm MM FX _ ih=>
  intro Bs f o hb h1 h2;cases hb with
  |ro h9 _=>rw[hm]at h9;cases h9
  |va h9 _=>rw[hm]at h9;cases h9
  | @mu _ _ _ own2 _ _ us2 ys y Bs f1 f o1 o h9 hg VR h8=>
   rw[hm]at h9;cases h9;simp only[Js,hm]at h2;simp only[EA,Bool.or_eq_false_iff]at h1;have P6:us2=us:=by
    split at MM
    ·rename_i AP;rw[if_pos AP]at hg;obtain⟨rfl,_⟩:=hg;exact zwE MM
    ·rename_i AP;rw[if_neg AP]at hg;rw[hg.1,MM]
   subst P6;rw[FP.flat FX VR h1.1,ih h8 h1.2 h2];rfl
  |bx h9 _ _ _ _ _ _ _=>rw[hm]at h9;cases h9
 | @bx t ts ms own own' ty v vs bs T b g olds hm EK _ _ _ _ _ ih=>
  intro Bs f o hb h1 h2;cases hb with
  |ro h9 _=>rw[hm]at h9;cases h9
  |va h9 _=>rw[hm]at h9;cases h9
  |mu h9 _ _ _=>rw[hm]at h9;cases h9
  |bx h9 K3 _ _ _ hy hc h8=>rw[hm]at h9;cases h9;rw[EK]at K3;cases K3;simp only[Js,hm,EK,Ac,hy,List.tail_cons]at h2;simp only[EA,Bool.or_eq_false_iff]at h1;rw[hc.flat h1.1 h2.1,ih h8 h1.2 h2.2];rfl
theorem zsb{ts:List TypeId}{ms:List PM}{vs:List Value}{Bs:List AV}{f o:List Nat}(h:D4 P w ts ms vs Bs f o):Bs=[]↔BM ts ms=false:=by
 induction h with
 |nil=>simp[BM]
 |ro hm _ ih=>simp only[BM,hm,Bool.false_or];exact ih
 |va hm _ ih=>simp only[BM,hm,Bool.false_or];exact ih
 |mu hm _ _ _ _=>simp only[BM,hm,Bool.true_or];simp
 |bx hm _ _ _ _ _ _ _ _=>simp only[BM,hm,Bool.true_or];simp
end
section
variable {P:Program} {c:Cx} {n nx:Nat} {sl sl0:Nat->SV} {hp hp0:Nat->Option Aj} {a:Act} {o:Oper} {gs:Gd} {e:Bf} {sg:BW} {nv:Nat}
theorem zC0{xs:List Operand}:∀{ss:List SV},(∀x∈xs,∀s,BU sl0 gs x=some s->SR c [s] [a.eval x])->xs.mapM (BU sl0 gs)=some ss->SR c ss (xs.map a.eval):=by
 induction xs with
 |nil=>intro ss _ h;simp at h;subst h;exact .nil
 |cons x xs ih=>intro ss hx h;rw[List.mapM_cons]at h;simp only[Option.bind_eq_bind,AB,Option.pure_def,Af]at h;obtain⟨s,hs,ss',G1,rfl⟩:=h;exact(hx x (by simp) s hs).cons (ih (λy hy=>hx y (by simp[hy])) G1)
theorem Uk:∀{l:List Nat},NL l=true->l.Nodup
 | [],_=>by simp
 |x::l,h=>by simp only[NL,Ac,Bk,List.contains_eq_mem,decide_eq_false_iff_not]at h;exact List.nodup_cons.2 ⟨h.1,Uk h.2⟩
theorem zHZ{c1:Cx}{w':World}{recs:List AZ}{hs f o:List Nat}(gw:GW c)(hg:∀t,(c1.G t).top=(c.G t).top\/(c1.G t).top=[])(hA:c1.A=c.A)(mM:c1.Mu=c.Mu)(Og:c1.w0=c.w0)(hB:c.w0.heap.size<=c.w.heap.size)
  (hn:(recs.map AZ.tag).Nodup) (Cs:∀r∈recs,∀b∈r.top,b∈o) (Ii:∀b∈hs,∃r∈recs,b∈(c.G r.tag).top) {rf:List Nat} (Oa:∀b∈rf,c1.ok b) (hf:∀b∈f,b∉o/\(b∈rf\/b∈hs\/c.w.heap.size<=b)):∀b∈f,(c1.fm w' recs).ok b:=by
 intro b hb;obtain⟨h1,h2⟩:=hf b hb;have hM:(c1.fm w' recs).M b-> ∃t,(∀r∈recs,r.tag≠t)/\b∈(c1.G t).top:=by
  rintro⟨t,ht⟩;by_cases hT:∃r∈recs,r.tag=t
  ·obtain⟨r,hr,rfl⟩:=hT;rw[Cx.gb hn hr]at ht;exact absurd (Cs r hr b ht) h1
  ·rw[Cx.ej λr hr hh=>hT ⟨r,hr,hh⟩]at ht;exact⟨t,λr hr hh=>hT ⟨r,hr,hh⟩,ht⟩
 have sub:∀t,b∈(c1.G t).top->b∈(c.G t).top:=λt ht=>by
  rcases hg t with hh|hh
  ·rw[<-hh];exact ht
  ·rw[hh]at ht;simp at ht
 rcases h2 with h2|h2|h2
 ·refine⟨λhm=> ?_,(Oa b h2).2⟩;obtain⟨t,_,ht⟩:=hM hm;exact(Oa b h2).1 ⟨t,ht⟩
 ·obtain⟨r,hr,Zv⟩:=Ii b h2;refine⟨λhm=> ?_, .inr ?_⟩
  ·obtain⟨t,D9,ht⟩:=hM hm;exact gw.dt r.tag t (D9 r hr) b (by simp[GI.own,Zv]) (by simp[GI.own,sub t ht])
  ·have:=gw.allow r.tag b (by simp[GI.own,Zv]);simp only[Cx.fm,Cx.B,Og,mM]at this ⊢;exact this
 ·refine⟨λhm=> ?_, .inr (.inl ?_)⟩
  ·obtain⟨t,_,ht⟩:=hM hm;have:=gw.inb t b (by simp[GI.own,sub t ht]);omega
  ·simp only[Cx.fm,Cx.B,Og];omega
theorem zIS(h:BB P c n nx sl hp a sl0 hp0 o gs){cl:Call}{fo:Operand}(ho:o.op= .call cl)(AG:cl.callee= .value fo){g:Nat}{caps:BS}(hf:BU sl0 gs fo=some (.fn g caps)){as_:List SV}(has:cl.args.toList.mapM (BU sl0 gs)=some as_)
  (hg:g<1000000) (he:Ze P sg hp0 gs nv nx g (as_++caps.toList)=some e) (Bp:∀c',e.call=some c'-> ∃r,c.ρ[nv]?=some r/\JZ (Cp P sg) c'.fn ((EL.of c'.args).den c.ρ) c.ρ r):AK P o c n nx sl hp gs a e:=by
 have oL:fo∈o.op.operands:=by simp[ho,Op.operands,Call.operands,AG]
 have oK:∀x∈cl.args.toList,x∈o.op.operands:=λx hx=>by
  have:x∈cl.args:=by simpa using hx
  simp[ho,Op.operands,Call.operands,AG,this]
 have Oa:=h.dy hf oL;generalize nQ:a.eval fo=fv at Oa;cases Oa with
 |fn Vp h8=>
 rename_i capv;have Am:=(zC0 (a:=a) (λx hx s hs=>h.dy hs (oK x hx)) has).app Vp;unfold Ze at he;split at he
 ·rename_i fn s JB JL;split at he
  ·cases he
  rename_i hlen;simp only[Bool.or_eq_true,not_or,Bool.not_eq_true,bne_eq_false_iff_eq]at hlen;split at he
  ·cases he
  rename_i es bs us uz Bi;split at he
  ·cases he
  rename_i BX;simp only[Bool.or_eq_true,Bk,not_or,Bool.not_eq_false,Bool.not_eq_true]at BX;obtain⟨⟨oO,GR⟩,MH⟩:=BX;have VW:=Uk oO;have H7:∀u∈us,u∉Ef bs:=λu hu hh=>by rw[List.any_eq_false]at GR;have:=GR u hu;simp only[List.contains_eq_mem,AS]at this;exact this hh
  have Mr:∀u∈uz,u∉Ef bs:=λu hu hh=>by rw[List.any_eq_false]at MH;have:=MH u hu;simp only[List.contains_eq_mem,AS]at this;exact this hh
  simp only at he;split at he
  ·cases he
  rename_i BI;simp only[Nat.not_le]at BI;split at he
  ·cases he
  rename_i JI;split at he
  ·cases he
  rename_i fz Ie;have hK:∀t g,c.K t g->c.U t:=h.rel.de;obtain⟨rf,lf,hs,q1,q2,qz,q3,q4,q5,q6⟩:=zCH (P:=P) h.rel.base h.eh h.gs hK (as_++caps.toList) Bi Am (by rw[hlen.1.2,Aq,BL];have:=hlen.2;simp only[decide_eq_false_iff_not,Nat.not_lt]at this;omega);obtain⟨fts,IU,VE⟩:∃fts,El hp0 gs fts=some fz/\ ∀t∈fts,t∈us:=by
   split at Ie
   ·exact⟨us,Ie,λt ht=>ht⟩
   ·simp only[Af]at Ie;subst Ie;exact⟨[],rfl,by simp⟩
  have DR:=h.rel.freeze h.hp h.gs IU;have NS:∀t∈fz.map (·.1),t∈us:=λt ht=>by obtain⟨⟨t',e'⟩,hm,rfl⟩:=List.mem_map.1 ht;exact VE _ ((QR h.gs IU).1 t' e' hm).1
  have U9:∀t,((c.da (fz.map (·.1))).G t).top=(c.G t).top\/((c.da (fz.map (·.1))).G t).top=[]:=λt=>by
   simp only[Cx.da];split
   ·exact .inr rfl
   ·exact .inl rfl
  have hGh:∀t∈Ef bs,(c.da (fz.map (·.1))).G t=c.G t:=λt ht=>by simp only[Cx.da];rw[if_neg];intro hh;exact H7 t (NS t hh) ht
  have hEh:∀t∈Ef bs,(c.da (fz.map (·.1))).E t=c.E t:=λt ht=>by simp only[Cx.da];rw[if_neg];intro hh;exact H7 t (NS t hh) ht
  have pI:hs.Nodup:=by
   rw[q3];have:∀l:List Nat,l.Nodup->(l.flatMap λt=>(c.G t).top).Nodup:=by
    intro l
    induction l with
    |nil=>intro _;simp
    |cons t l ih=>intro hl;rw[List.nodup_cons]at hl;rw[List.flatMap_cons,List.nodup_append];refine⟨(List.nodup_append.1 (h.rel.gw.nodup t)).1,ih hl.2,λx hx y hy Gg=> ?_⟩;subst Gg;obtain⟨u,hu,pU⟩:=List.mem_flatMap.1 hy;exact h.rel.gw.dt t u (λhh=>hl.1 (hh▸hu)) x (by simp[GI.own,hx]) (by simp[GI.own,pU])
   exact this _ VW
  have KU:∀b∈hs,∃t∈Ef bs,b∈(c.G t).top:=λb hb=>by rw[q3]at hb;exact List.mem_flatMap.1 hb
  have GM:∀b∈hs,b∉rf:=λb hb hr=>by
   obtain⟨t,ht,C7⟩:=KU b hb;rcases q2 b hr with hh|⟨u,hu,Jz⟩
   ·exact hh.1 ⟨t,C7⟩
   ·exact h.rel.gw.dt t u (λhh=>H7 u hu (hh▸ht)) b (by simp[GI.own,C7]) (by simp[GI.own,Jz])
  have KO:∀b∈hs,b∉lf:=λb hb hr=>by
   obtain⟨t,ht,C7⟩:=KU b hb;rcases qz b hr with(hh|⟨u,hu,Jz⟩)|⟨h1,h2⟩
   ·exact hh.1 ⟨t,C7⟩
   ·exact h.rel.gw.dt t u (λhh=>Mr u hu (hh▸ht)) b (by simp[GI.own,C7]) (by simp[GI.own,Jz])
   ·rcases h.rel.gw.allow t b (by simp[GI.own,C7])with k|k
    ·have:c.w0.heap.size<=b:=k;omega
    ·exact h2 k
  have FR:∃(val:SV) (l:List (Nat × Aj)),e={call:=some ⟨.inl g,es⟩,val:=val,cy:=fz++(WM gs l++after P nv (nx+(fn.resultTypes.toList.flatMap (Bc P)).length) bs 0)}/\
    ∀(R:AV) (w':World) (v:Value) (f1 o1:List Nat),Lb P w' fn.resultTypes.toList s.res v R f1 o1->(if J2 bs=0 then E.var nv else .proj (.var nv) 0).den c.ρ=R-> ∃recs:List AZ,l=recs.map AZ.pair/\recs.flatMap AZ.top=o1/\(∀r∈recs,nx<=r.tag/\r.tag<nx+(fn.resultTypes.toList.flatMap (Bc P)).length/\r.new.isSome)/\(recs.map AZ.tag).Nodup/\
     (∀r∈recs,∀hs f,r.cy≠ .gd hs f)/\ ∀c',FC c c' w' recs->(∀b∈f1,c'.ok b)->SR c' [val] [v]/\ ∀r∈recs,DL c' r.tag r.cy:=by
   have BY:∀{l:List (Nat × Aj)} {recs:List AZ},l=recs.map AZ.pair->(∀t x,(t,x)∈l-> ∀hs f,x≠ .gd hs f)-> ∀r∈recs,∀hs f,r.cy≠ .gd hs f:=by rintro l recs rfl hh r hr;exact hh r.tag r.cy (List.mem_map.2 ⟨r,hr,rfl⟩)
   have fvne:∀(t:TypeId) (k:Nat) (fl:List Bool) (x:E) (u:Nat) (y:Aj),(u,y)∈(Q2 P k t fl x).2-> ∀hs f,y≠ .gd hs f:=by
    intro t k fl x u y hy hs f;unfold Q2 at hy;split at hy
    ·exact QU _ _ _ _ _ hy
    ·simp at hy
   split at he
   ·rename_i t Wf;simp only[Af]at he;subst he;refine⟨_,_,rfl,λR w' v f1 o1 hr hR=> ?_⟩;rw[Wf]at hr;obtain⟨recs,e1,e2,e3,e4,e5⟩:=ztQ (c:=c) (nx:=nx) (x:=if J2 bs=0 then E.var nv else .proj (.var nv) 0) (show DM P w' t s.res v R f1 o1 from hr) hR;exact⟨recs,e1,e2,by simpa[Wf]using e3,e4,BY e1 (fvne _ _ _ _),e5⟩
   ·rename_i Wf;simp only[Af]at he;subst he;refine⟨_,_,rfl,λR w' v f1 o1 hr hR=> ?_⟩;obtain⟨vs,ys,rfl,rfl,hv⟩:∃vs ys,v= .tuple vs.toArray/\R= .tup ys/\Lv P w' fn.resultTypes.toList s.res vs ys f1 o1:=by
     unfold Lb at hr;split at hr
     ·rename_i t ht;exact absurd ht (Wf t)
     ·exact hr
    obtain⟨recs,e1,e2,e3,e4,e5⟩:=zzt (c:=c) (x:=if J2 bs=0 then E.var nv else .proj (.var nv) 0) hv nx 0 (λk y hy=>by show AV.proj ((if J2 bs=0 then E.var nv else .proj (.var nv) 0).den c.ρ) (0+k)=y;rw[hR];simp[AV.proj,hy])
    have fvsne:∀(ts:List TypeId) (k:Nat) (fl:List Bool) (x:E) (i u:Nat) (y:Aj),(u,y)∈(O3 P k ts fl x i).2-> ∀hs f,y≠ .gd hs f:=by
     intro ts
     induction ts with
     |nil=>intro k fl x i u y hy;simp[O3]at hy
     |cons t ts ih=>
      intro k fl x i u y hy;simp only[O3,Ae]at hy;rcases hy with hy|hy
      ·exact fvne _ _ _ _ _ _ hy
      ·exact ih _ _ _ _ _ _ hy
    exact⟨recs,e1,e2,e3,e4,BY e1 (fvsne _ _ _ _ _),λc' ha A4=>⟨.tup (by rw[BS.ax];exact(e5 c' ha A4).1) .nil,(e5 c' ha A4).2⟩⟩
  obtain⟨val,l,rfl,P3⟩:=FR;obtain⟨r,hr,A4⟩:=Bp _ rfl;have P2:∃s',sg g=some s'/\U1 P s' g ((EL.of es).den c.ρ) r:=by have A4:Cp P sg g ((EL.of es).den c.ρ) r:=A4;unfold Cp at A4;rwa[if_pos hg]at A4
  obtain⟨s',A9,fn',KS,Ex,GQ,Cz,_,_,Gb⟩:=P2;rw[JL]at A9;cases A9;rw[JB]at KS;cases KS;rw[EL.fb]at Gb;have Bp:=Gb c.w _ rf lf hs q1 GM KO pI (h.rel.oy λb hb=>by obtain⟨t,_,ht⟩:=KU b hb;exact⟨t,ht⟩);have ex:(execOp a.eval o).run P c.w= .ok (.enter g (cl.args.map a.eval++capv.toArray)) c.w:=by
   have hb:fn.body.isNone=false:=by simpa using Ex
   simp only[execOp,ho,resolve,AG,nQ,Deferred.ofValue,Sem.run_bind,Sem.run_pure,Result.andThen_ok,invoke,callFunc,run_program,JB];simp[GQ,hb]
  intro next Q hk
  unfold Oper.wp;rw[ex,Oper.upon_enter];have Px:cl.args.map a.eval++capv.toArray=((cl.args.toList.map a.eval)++capv).toArray:=by apply Array.ext';simp
  rw[Px];refine Bp.mono ?_;rintro e' w' ⟨v,rfl,⟨R,Bs,f1,o1,f2,o2,MJ,A2,FQ,Il,VZ,VA⟩,Bg⟩;show next (a.put o.dst v) w'
  have U7:∀k y,Bs[k]?=some y->(E.proj (.var nv) (0+k+1)).den c.ρ=y:=by
   intro k y hy;cases Bs with
   |nil=>simp at hy
   |cons B Bs=>simp only[E.den,hr,Be,MJ,AV.proj,Nat.zero_add,List.getElem?_cons_succ,hy]
  obtain⟨VV,recsB,hB⟩:=zHG (w':=w') q4 hK (r:=nv) (nx+(fn.resultTypes.toList.flatMap (Bc P)).length) 0 FQ U7;have hR:(if J2 bs=0 then E.var nv else .proj (.var nv) 0).den c.ρ=R:=by
   cases Bs with
   |nil=>rw[if_pos (by simpa using VV.symm)];simp only[E.den,hr,Be,MJ]
   |cons B Bs=>rw[if_neg (by rw[<-VV];simp)];simp[E.den,hr,MJ,AV.proj]
  obtain⟨recsV,v1,v2,v3,v4,v5,v6⟩:=P3 R w' v f1 o1 A2 hR;have GU:∀t,nx<=t->t<nx+((fn.resultTypes.toList.flatMap (Bc P)).length+Mb P bs)-> ¬c.U t:=λt h1 h2=>h.new t h1 (by omega);have U8:=hB.nodup VW λt h1 h2=>GU t (by omega) (by omega);have Dy:((recsV++recsB).map AZ.tag).Nodup:=by
   rw[List.map_append,List.nodup_append];refine⟨v4,U8,λt1 h1 t2 h2 he=> ?_⟩;obtain⟨p1,oV,rfl⟩:=List.mem_map.1 h1;obtain⟨p2,Rx,rfl⟩:=List.mem_map.1 h2;have a1:=v3 p1 oV;cases hn:p2.new with
   |none=>exact GU p1.tag (by omega) (by omega) (he▸(hB.old p2 Rx hn).2)
   |some _=>have:=hB.new p2 Rx (by simp[hn]);omega
  have IX:∀r∈recsV++recsB,r.new.isSome=true->nx<=r.tag/\r.tag<nx+((fn.resultTypes.toList.flatMap (Bc P)).length+Mb P bs):=λr hr hn=>by
   rcases Ae.1 hr with hr|hr
   ·have:=v3 r hr;omega
   ·have:=hB.new r hr hn;omega
  have Fi:((recsV++recsB).flatMap AZ.top).Sublist (o1++o2):=by rw[List.flatMap_append,v2];exact(List.Sublist.refl _).append hB.n7
  have nX:∀b∈hs,∃r∈recsV++recsB,b∈(c.G r.tag).top:=λb hb=>by obtain⟨t,ht,C7⟩:=KU b hb;obtain⟨r,hr,rfl⟩:=hB.all t ht;exact⟨r,by simp[hr],C7⟩
  have VH:∀b∈hs,∃r∈recsV++recsB,b∈((c.da (fz.map (·.1))).G r.tag).top:=λb hb=>by obtain⟨t,ht,C7⟩:=KU b hb;obtain⟨r,hr,rfl⟩:=hB.all t ht;exact⟨r,by simp[hr],by rw[hGh _ ht];exact C7⟩
  have Fh:∀r∈recsV++recsB,∀b∈r.top,b∈o1++o2:=λr hr b hb=>Fi.subset (List.mem_flatMap.2 ⟨r,hr,hb⟩);have PY:∀b∈f1++f2,((c.da (fz.map (·.1))).fm w' (recsV++recsB)).ok b:=by
   cases ZM:(DZ P fn.resultTypes.toList s.res||EA P bs)with
   |false=>
    simp only[Bool.or_eq_false_iff]at ZM;have Ci:WK P fn.resultTypes.toList s.res R=true/\Js P (fn.params.toList++s.ft) s.c8 Bs=true:=by
     unfold Nq at Cz;cases Ju:Bs with
     |nil=>
      rw[if_neg (by rw[(zsb FQ).1 Ju];simp)]at Cz;rw[Ju]at MJ;rw[MJ]at Cz;refine⟨Cz,?_⟩;have:∀(ts:List TypeId) (ms:List PM),Js P ts ms []=true:=by
       intro ts
       induction ts with
       |nil=>intro ms;rfl
       |cons t ts ih=>
        intro ms;unfold Js;split
        ·exact ih _
        ·exact ih _
        ·exact ih _
        ·split
         ·rename_i hh;cases hh
         ·simpa using ih _
      exact this _ _
     |cons B Bs'=>
      rw[if_pos (by
       cases hh:BM (fn.params.toList++s.ft) s.c8 with
       |true=>rfl
       |false=>rw[(zsb FQ).2 hh]at Ju;cases Ju)]at Cz
      rw[MJ,Ju]at Cz;simpa using Cz
    have e1:f1=[]:=A2.flat ZM.1 Ci.1;have e2:f2=[]:=D4.flat q4 FQ ZM.2 Ci.2;subst e1;subst e2;simp
   |true=>rw[ZM]at JI Ie;simp only[Bool.true_and,Bk,Bool.not_eq_false]at JI;simp only[if_true]at Ie;exact zHZ (rf:=rf) h.rel.gw U9 rfl rfl rfl h.rel.base.size Dy Fh nX (λb hb=>Yu h.rel h.eh h.gs Ie (by simpa using JI) (q2 b hb)) VA
  have Vy:after P nv (nx+(fn.resultTypes.toList.flatMap (Bc P)).length) bs 0=recsB.map λr=>(r.tag,Dk gs r.cy):=by
   cases Ru:bs with
   |nil=>
    have:=hB.ents;rw[Ru]at this;simp only[after]at this;have:recsB=[]:=by simpa using this.symm
    rw[this];rfl
   |cons b bs'=>have FH:=q6 (by rw[Ru];simp);rw[<-Ru,hB.ents,FH];rfl
  have BK:WM gs l++after P nv (nx+(fn.resultTypes.toList.flatMap (Bc P)).length) bs 0=(recsV++recsB).map λr=>(r.tag,Dk gs r.cy):=by rw[Vy,List.map_append];congr 1;rw[v1];simp[WM,AZ.pair]
  obtain⟨FU,Ck⟩:=DR.changes (w':=w') (recs:=recsV++recsB) (hs:=hs) (gs:=gs) h.gs Bg Dy (λr hr hn=>by have:=IX r hr hn;exact GU _ this.1 this.2) VH (Fi.nodup Il) (λr hr b hb=>VZ b (Fh r hr b hb))
   (λr hr=>by
    rcases Ae.1 hr with hr|hr
    ·exact v5 r hr
    ·exact hB.ne r hr)
   (λ_ r hr=>by
    have aft:=Cx.ff (c:=c.da (fz.map (·.1))) (w':=w') (recs:=recsV++recsB) h.rel.de Dy (λr hr hn=>by have:=IX r hr hn;exact GU _ this.1 this.2);have aft':FC c ((c.da (fz.map (·.1))).fm w' (recsV++recsB)) w' (recsV++recsB):=⟨aft.ρ,aft.w,aft.G,aft.new,aft.K,aft.old,aft.kt,λr hr DQ=>(aft.jh r hr DQ).trans (by
     rcases Ae.1 hr with hr|hr
     ·have:=(v3 r hr).2.2;rw[DQ]at this;cases this
     ·rw[hEh _ (hB.old r hr DQ).1])⟩
    rcases Ae.1 hr with hr|hr
    ·exact(v6 _ (aft'.mono λr hr=>by simp[hr]) λb hb=>PY b (by simp[hb])).2 r hr
    ·exact hB.ok _ (aft'.mono λr hr=>by simp[hr]) (λb hb=>PY b (by simp[hb])) r hr)
  have aft:=Cx.ff (c:=c.da (fz.map (·.1))) (w':=w') (recs:=recsV++recsB) h.rel.de Dy (λr hr hn=>by have:=IX r hr hn;exact GU _ this.1 this.2);have aft':FC c ((c.da (fz.map (·.1))).fm w' (recsV++recsB)) w' (recsV++recsB):=⟨aft.ρ,aft.w,aft.G,aft.new,aft.K,aft.old,aft.kt,λr hr DQ=>(aft.jh r hr DQ).trans (by
     rcases Ae.1 hr with hr|hr
     ·have:=(v3 r hr).2.2;rw[DQ]at this;cases this
     ·rw[hEh _ (hB.old r hr DQ).1])⟩
  have JO:=(v6 _ (aft'.mono λr hr=>by simp[hr]) λb hb=>PY b (by simp[hb])).1;rw[<-BK,<-Q4]at FU;refine hk _ ((c.da (fz.map (·.1))).fm w' (recsV++recsB)) ⟨rfl,rfl,rfl,rfl,λt ht=> ?_⟩ (FU.put (JO.mkGd gs h.gs) o.dst);rcases ht with ht|⟨r,hr,rfl⟩
  ·exact .inl ht
  ·cases hn:r.new with
   |none=>
    rcases Ae.1 hr with hr|hr
    ·have:=(v3 r hr).2.2;rw[hn]at this;cases this
    ·exact .inl (hB.old r hr hn).2
   |some _=>have:=IX r hr (by simp[hn]);exact .inr ⟨this.1,by simp only[B1];omega⟩
 ·cases he
end
def CB(c:Cx)(us:List Nat):List Nat:=us.flatMap λt=>(c.G t).top
theorem zuX(c:Cx):CB c []=[]:=rfl
theorem kD(c:Cx)(u:Nat)(us:List Nat):CB c (u::us)=(c.G u).top++CB c us:=by simp[CB]
theorem Lh(c:Cx)(us vs:List Nat):CB c (us++vs)=CB c us++CB c vs:=by simp[CB]
theorem Ud{c:Cx}{us:List Nat}{b:Nat}:b∈CB c us↔ ∃t∈us,b∈(c.G t).top:=by simp[CB]
theorem jS{c:Cx}(gw:GW c):∀{l:List Nat},l.Nodup->(CB c l).Nodup
 | [],_=>by simp[CB]
 |t::l,hl=>by
  rw[kD,List.nodup_append];rw[List.nodup_cons]at hl;refine⟨?_,jS gw hl.2,λa ha b hb KK=> ?_⟩
  ·have:=gw.nodup t;simp only[GI.own]at this;exact(List.nodup_append.1 this).1
  ·subst KK;obtain⟨u,hu,Jz⟩:=Ud.1 hb;exact gw.dt t u (λhh=>hl.1 (hh▸hu)) a (by simp[GI.own,ha]) (by simp[GI.own,Jz])
section
variable {P:Program} {c:Cx} {hp:Nat->Option Aj} {gs:Gd}
theorem rD{m:Nat}{u g:Nat}{x y:E}(hx:BH hp gs m (.own u g)=some x)(hy:JU hp gs u g=some y):x=y:=by
 cases m with
 |zero=>simp[BH]at hx
 |succ m=>simp only[BH,hy,Af]at hx;exact hx.symm
theorem zFM{m:Nat}{x:E}(h:BH hp gs m .emp=some x):x= .lst .nil:=by
 cases m with
 |zero=>simp[BH]at h
 |succ m=>simp[BH]at h;exact h.symm
theorem zEp(eh:EH c hp)(k:Bt c.ρ gs){d:DT}{s:SV}{us:List Nat}{ck:List Cn}{v:Value}{x:E}{m:Nat}(h:tH hp gs d s=some (us,ck))(hs:SR c [s] [v])(hx:BH hp gs m s=some x)(hc:∀q∈ck,q.den c.ρ):
  DC c.w [d] [v] [x.den c.ρ] (CB c us)/\ ∀u∈us,∃g,c.K u g:=by
 unfold tH at h;split at h
 ·rename_i y;simp only[Af,A0]at h;obtain⟨rfl,rfl⟩:=h;rw[Ma hx];cases hs with
  |e h1 h2 h3=>
   rename_i f;have Fv:(y.den c.ρ).scalar=true:=by
    cases hl:Xf y with
    |true=>cases y<;>simp[Xf]at hl<;>rfl
    |false=>rw[hl]at hc;exact(Cq hc).2.2.2 rfl
   have hf:f=[]:=IG h1 (by simpa using Fv);subst hf;exact⟨.flat h1 .nil,by simp⟩
 ·split at h
  ·rename_i hh;simp only[Af,A0]at h;obtain⟨rfl,rfl⟩:=h;rw[Ng hx];cases hs with
   |dg _=>exact⟨.void hh.1 hh.2 .nil,by simp⟩
  ·cases h
 ·split at h
  ·rename_i hh;simp only[Af,A0]at h;obtain⟨rfl,rfl⟩:=h;rw[zFM hx];cases hs with
   |emp _=>exact⟨.void hh.1 hh.2 .nil,by simp⟩
  ·cases h
 ·rename_i e z l u g;split at h
  ·rename_i e' z' l' g' ep y hl;split at h
   ·rename_i hh;obtain⟨rfl,rfl,rfl,hb⟩:=hh;simp only[Af,A0]at h;obtain⟨rfl,rfl⟩:=h;obtain⟨q1,q2,q3,q4,q5⟩:=eh u _ (Di hl k);rw[rD (y:=y) hx (by simp only[JU,hl,if_true])];have hb:=AN.of_eq hb;subst hb;rw[AN.dw]at q4;cases hs with
    |own k1 k2 _=>rw[k2]at q4;exact⟨by rw[kD,zuX,AH];exact q4,λw hw=>by simp at hw;subst hw;exact⟨_,k1⟩⟩
   ·cases h
  ·rename_i e' z' g' y hl;split at h
   ·rename_i hh;obtain⟨rfl,rfl,rfl,hf,hlen⟩:=hh;simp only[Af,A0]at h;obtain⟨rfl,rfl⟩:=h;obtain⟨q1,q2,N,q4,q5,q6,q7⟩:=eh u _ (Di hl k);obtain⟨hN,_⟩:=q6 rfl;have hN:N=[]:=hN;subst hN;rw[rD (y:=y) hx (by simp only[JU,hl,if_true])];cases hs with
    |own k1 k2 _=>rw[k2]at q4;exact⟨by rw[kD,zuX,AH];exact DC.my q4 hf hlen,λw hw=>by simp at hw;subst hw;exact⟨_,k1⟩⟩
   ·cases h
  ·cases h
 ·cases h
theorem zsh(eh:EH c hp)(k:Bt c.ρ gs):∀(ds:List DT) {ss:List SV} {us:List Nat} {ck:List Cn} {vs:List Value} {xs:EL} {m:Nat},Pm hp gs ds ss=some (us,ck)->SR c ss vs->CZ hp gs m ss=some xs->(∀q∈ck,q.den c.ρ)->
  DC c.w ds vs (xs.den c.ρ) (CB c us)/\ ∀u∈us,∃g,c.K u g
 | [],[],us,ck,vs,xs,m,h,hs,hx,hc=>by
  simp[Pm]at h;obtain⟨rfl,rfl⟩:=h;cases hs;cases m with
  |zero=>simp[CZ]at hx
  |succ m=>simp[CZ]at hx;subst hx;exact⟨.nil,by simp⟩
 | [],_::_,us,ck,vs,xs,m,h,hs,hx,hc=>by simp[Pm]at h
 |_::_,[],us,ck,vs,xs,m,h,hs,hx,hc=>by simp[Pm]at h
 |d::ds,s::ss,us,ck,[],xs,m,h,hs,hx,hc=>by have:=hs.len;simp at this
 |d::ds,s::ss,us,ck,v::vs,xs,m,h,hs,hx,hc=>by
  obtain⟨j,y,ys,rfl,hy,DJ,rfl⟩:=L2 hx;obtain⟨r1,r2⟩:=hs.dh;unfold Pm at h;split at h
  ·rename_i us1 ck1 us2 ck2 h1 h2;simp only[Af,A0]at h;obtain⟨rfl,rfl⟩:=h;obtain⟨q1,q2⟩:=zEp eh k h1 r1 hy λq hq=>hc q (by simp[hq]);obtain⟨q3,q4⟩:=zsh eh k ds h2 r2 DJ λq hq=>hc q (by simp[hq]);refine⟨by rw[Lh];exact q1.app q3,λu hu=> ?_⟩;rcases Ae.1 hu with hu|hu
   ·exact q2 u hu
   ·exact q4 u hu
  ·cases h
theorem zxk(eh:EH c hp)(k:Bt c.ρ gs){t:TypeId}{ds:List DT}{s:SV}{us:List Nat}{ck:List Cn}{v:Value}{x:E}(H8:ds.length=P.cellsOf t)(hg:Ar P t=true\/P.cellsOf t=1)(h:U0 P hp gs t ds s=some (x,us,ck))(hs:SR c [s] [v])(hc:∀q∈ck,q.den c.ρ):
  DC c.w ds v.cells.toList (x.den c.ρ).cells (CB c us)/\(∀u∈v.cells.toList,u.oneCell'=true)/\(x.den c.ρ).cells.length=P.cellsOf t/\v.cells.size=P.cellsOf t/\
   (if Ar P t then∃cs,x.den c.ρ= .agg cs else(∀cs,x.den c.ρ≠ .agg cs)/\ ∀cs,x.den c.ρ≠ .tup cs)/\ ∀u∈us,∃g,c.K u g:=by
 unfold U0 at h;split at h
 ·cases h
 rename_i y hy;split at h
 ·rename_i Ci;simp only[Af,A0]at h;obtain⟨rfl,rfl,rfl⟩:=h;obtain⟨f,q1,q2⟩:=Je eh k Bb hy hs Bb (AF _);obtain⟨c1,c2,c3,c4⟩:=Cq hc;have FR:if Ar P t then∃cs,y.den c.ρ= .agg cs/\cs.length=P.cellsOf t else(∀cs,y.den c.ρ≠ .agg cs)/\ ∀cs,y.den c.ρ≠ .tup cs:=by
   split
   ·rename_i AP;obtain⟨cs,BF⟩:=c3 AP;exact⟨cs,BF,by rw[BF]at c1;exact c1⟩
   ·rename_i AP;have:=c4 (by simpa using AP);exact⟨λcs BF=>by rw[BF]at this;simp[AV.scalar]at this,λcs BF=>by rw[BF]at this;simp[AV.scalar]at this⟩
  have hf:f=[]:=by
   cases hgg:Ar P t with
   |true=>obtain⟨cs,BF⟩:=c3 hgg;obtain⟨as_,rfl,_,r⟩:=Ky q1 BF;exact IG r (by rw[BF]at c2;exact c2)
   |false=>exact IG q1 (by simpa using c4 hgg)
  subst hf;obtain⟨o1,o2,o3,o4⟩:=zwm (P:=P) q1 hg FR;refine⟨DC.mv o1 Ci (by rw[H8];simpa using o4.symm),o2,o3,o4,?_,by simp⟩;split at FR
  ·rename_i AP;rw[if_pos AP];obtain⟨cs,BF,_⟩:=FR;exact⟨cs,BF⟩
  ·rename_i AP;rw[if_neg AP];exact FR
 ·rename_i GV;split at h
  ·cases h
  rename_i AP;have AP:(Jc s).2=Ar P t:=by simpa using AP
  obtain⟨⟨us',ck'⟩,hr,h⟩:=Ay.1 h;simp only[A0]at h;obtain⟨rfl,rfl,rfl⟩:=h;have single:Ar P t=false->Pm hp gs ds [s]=some (us',ck')->DC c.w ds v.cells.toList (y.den c.ρ).cells (CB c us')/\(∀u∈v.cells.toList,u.oneCell'=true)/\(y.den c.ρ).cells.length=P.cellsOf t/\v.cells.size=P.cellsOf t/\
   (if Ar P t then∃cs,y.den c.ρ= .agg cs else(∀cs,y.den c.ρ≠ .agg cs)/\ ∀cs,y.den c.ρ≠ .tup cs)/\ ∀u∈us',∃g,c.K u g:=by
   intro AP hr;have BJ:CZ hp gs (Bb+1) [s]=some (.cons y .nil):=by unfold CZ;rw[hy];rfl
   obtain⟨q1,q2⟩:=zsh eh k ds hr hs BJ hc;have hd1:=q1.len;simp only[EL.den,AE,List.length_nil]at hd1
   match ds,hd1,q1,GV,H8 with
   | [d],_,q1,GV,H8=>
    cases d with
    |flat=>simp[DT.db]at GV
    |row e z l=>
     obtain⟨p,q,r,rfl⟩:=q1.head;obtain⟨xs,Db⟩:∃xs,y.den c.ρ= .sl xs:=by
      obtain⟨_,_,⟨_,_,hx,_⟩|⟨_,_,_,_,_,_,hx,_⟩⟩:=q1.inv
      ·exact⟨_,hx⟩
      ·exact⟨_,hx⟩
     rw[if_neg (by rw[AP];simp)];refine⟨?_,by simp[Value.cells,Value.oneCell'],by rw[Db,<-H8];rfl,by rw[<-H8];rfl,?_,q2⟩
     ·simp only[EL.den]at q1;rw[Db]at q1 ⊢;exact q1
     ·rw[Db];exact⟨λcs hh=>(by cases hh),λcs hh=>(by cases hh)⟩
  cases s with
  |agg cs=>
   simp only[Jc]at AP hr;obtain⟨m,l,hm,hl,rfl⟩:=YU hy;cases hs with
   |agg h9 h1 h8=>rename_i as_;obtain⟨q1,q2⟩:=zsh eh k ds hr h1 hl hc;obtain⟨l1,l2⟩:=q1.len;rw[if_pos AP.symm];exact⟨by simpa[Value.cells,AV.cells,E.den]using q1,by simpa[Value.cells]using h9,by simp only[E.den,AV.cells];omega,by simp[Value.cells];omega,⟨_,rfl⟩,q2⟩
  |_=>exact single AP.symm hr
theorem zs5(eh:EH c hp)(k:Bt c.ρ gs){t:TypeId}{ds:List DT}(H8:ds.length=P.cellsOf t)(hg:Ar P t=true\/P.cellsOf t=1):∀(ss:List SV) (vs:List Value) {xs:List E} {us:List Nat} {ck:List Cn},SR c ss vs->YP P hp gs t ds ss=some (xs,us,ck)->(∀q∈ck,q.den c.ρ)->
  DC c.w (Cc vs.length ds) (vs.flatMap λv=>v.cells.toList) (AA (xs.map (E.den c.ρ))) (CB c us)/\(∀v∈vs,v.cells.size=P.cellsOf t/\ ∀u∈v.cells.toList,u.oneCell'=true)/\(∀x∈xs,(x.den c.ρ).cells.length=P.cellsOf t)/\xs.length=vs.length/\ ∀u∈us,∃g,c.K u g
 | [],vs,xs,us,ck,hr,ht,hc=>by simp[YP]at ht;obtain⟨rfl,rfl,rfl⟩:=ht;cases hr;exact⟨by simpa[AA,Cc,CB]using DC.nil,by simp,by simp,rfl,by simp⟩
 |s::ss,[],xs,us,ck,hr,ht,hc=>by have:=hr.len;simp at this
 |s::ss,v::vs,xs,us,ck,hr,ht,hc=>by
  obtain⟨r1,r2⟩:=hr.dh;unfold YP at ht;split at ht
  ·rename_i x us1 ck1 xs2 us2 ck2 h1 h2;simp only[Af,A0]at ht;obtain⟨rfl,rfl,rfl⟩:=ht;obtain⟨q1,q2,q3,q4,q5,q6⟩:=zxk eh k H8 hg h1 r1 (λq hq=>hc q (by simp[hq]));obtain⟨p1,p2,p3,p4,p5⟩:=zs5 eh k H8 hg ss vs r2 h2 (λq hq=>hc q (by simp[hq]));refine⟨?_,?_,?_,by simp[p4],?_⟩
   ·have:=q1.app p1;rw[AE,QZ,Lh];simpa[AA]using this
   ·intro u hu;rcases Ag.1 hu with rfl|hu
    ·exact⟨q4,q2⟩
    ·exact p2 u hu
   ·intro u hu;rcases Ag.1 hu with rfl|hu
    ·exact q3
    ·exact p3 u hu
   ·intro u hu;rcases Ae.1 hu with hu|hu
    ·exact q6 u hu
    ·exact p5 u hu
  ·cases ht
theorem zwR(eh:EH c hp)(k:Bt c.ρ gs){e z:Nat}{l:List DT}{s:SV}{us:List Nat}{v:Value}{y:E}{m:Nat}(h:Wr hp gs e z l s=some us)(hs:SR c [s] [v])(hy:BH hp gs m s=some y):
  ∃ys q r news N,y.den c.ρ= .sl ys/\v= .slice q ys.length r/\Src c.w z q ys.length news/\DC c.w (Cc ys.length l) news (AA ys) N/\N.Sublist (CB c us)/\(∀y∈ys,y.cells.length=z)/\(∀u∈news,u.oneCell'=true)/\ ∀u∈us,∃g,c.K u g:=by
 have empt:∀q,v= .slice q 0 0->y= .lst .nil->us=[]-> ∃ys q r news N,y.den c.ρ= .sl ys/\v= .slice q ys.length r/\Src c.w z q ys.length news/\DC c.w (Cc ys.length l) news (AA ys) N/\N.Sublist (CB c us)/\(∀y∈ys,y.cells.length=z)/\(∀u∈news,u.oneCell'=true)/\ ∀u∈us,∃g,c.K u g:=by
  rintro q rfl rfl rfl;refine⟨[],q,0,[],[],rfl,rfl,?_,by simpa[Cc,AA]using DC.nil,by simp,by simp,by simp,by simp⟩;cases q with
  |none=>exact .inl ⟨rfl,rfl,rfl⟩
  |some p=>exact .inr ⟨p,rfl,by simp,by simp,by simp⟩
 unfold Wr at h;split at h
 ·simp only[Af]at h;cases hs with
  |dg _=>exact empt _ rfl (Ng hy) h.symm
 ·simp only[Af]at h;cases hs with
  |emp _=>exact empt _ rfl (zFM hy) h.symm
 ·rename_i u g;split at h
  ·rename_i e' z' l' g' ep x hl;split at h
   ·rename_i hh;obtain⟨rfl,rfl,rfl,hb⟩:=hh;simp only[Af]at h;subst h;have hb:=AN.ik hb;subst hb;obtain⟨q1,q2,q3,q4,q5⟩:=eh u _ (Di hl k);have Ir:=rD (y:=x) hy (by simp only[JU,hl,if_true]);subst Ir;cases hs with
    |own k1 k2 k3=>
     rename_i p0 n0 r0;rw[k2]at q4;have hK:∀w∈ [u],∃g,c.K w g:=λw hw=>by simp at hw;subst hw;exact⟨_,k1⟩
     obtain⟨d1,d2,⟨a9,d3,d4,d5⟩|⟨g9,cap,C,ys,N1,d3,d4,d5,d6,d7,d8,d9,d10,d11,d12⟩⟩:=q4.inv
     ·cases d3;refine⟨[],_,0,[],[],d4,rfl,?_,by simpa[Cc,AA]using DC.nil,by simp,by simp,by simp,hK⟩;cases p0 with
      |none=>exact .inl ⟨rfl,rfl,rfl⟩
      |some p=>exact .inr ⟨p,rfl,by simp,by simp,by simp⟩
     ·cases d3;rw[AN.ax]at d12;have Ew:C.toList.length=r0*z:=by simpa using d9
      refine⟨ys,_,r0,_,N1,d4,rfl, .inr ⟨_,rfl,?_,λj w hw=> ?_,d11⟩,d12,?_,d10,d11,hK⟩
      ·rw[AI,Ew];exact Nat.min_eq_left (By _ d7)
      ·rw[Addr.add_lit,Nat.zero_add,EO d6];rw[List.getElem?_take]at hw;split at hw
       ·simpa using hw
       ·cases hw
      ·rw[kD,zuX,AH,d5];exact List.sublist_cons_self _ _
   ·cases h
  ·cases h
 ·cases h
end
def GH(T:List Nat):List AZ:=T.map λu=>⟨u,none,[], .dead⟩
theorem zIB(T:List Nat):(GH T).flatMap AZ.top=[]:=by induction T<;>simp_all[GH]
theorem zKz(T:List Nat):(GH T).map AZ.tag=T:=by induction T<;>simp_all[GH]
theorem zGG(T:List Nat):((GH T).map λr=>(r.tag,Dk [] r.cy))=ES T:=by simp[GH,ES,Dk]
theorem YH{T:List Nat}{r:AZ}(h:r∈GH T):r.tag∈T/\r.new=none/\r.top=[]/\r.cy= .dead:=by obtain⟨u,hu,rfl⟩:=List.mem_map.1 h;exact⟨hu,rfl,rfl,rfl⟩
section
variable {P:Program} {c:Cx} {n nx:Nat} {sl sl0:Nat->SV} {hp hp0:Nat->Option Aj} {a:Act} {o:Oper} {gs:Gd} {e:Bf} {sg:BW} {nv:Nat}
theorem Rel.nf(h:Rel c n sl hp a){T:List Nat}(hT:T.Nodup)(Hm:∀u∈T,c.U u){r0:AZ}(Kf:r0.tag∉T)(Hs:r0.new.isSome=true-> ¬c.U r0.tag)(Eb:r0.new=none->c.U r0.tag){w':World}{hs:List Nat}(Ii:∀b∈hs,b∈(c.G r0.tag).top\/b∈CB c T)(hm:Mod hs c.w w')
  (BX:r0.top.Nodup) (B9:∀b∈r0.top,(b∈hs\/c.w.heap.size<=b)/\b<w'.heap.size) (BY:∀q f,r0.cy≠ .gd q f)
  (he:Ev c (c.fm w' (r0::GH T))->FC c (c.fm w' (r0::GH T)) w' (r0::GH T)->DL (c.fm w' (r0::GH T)) r0.tag r0.cy):
  Rel (c.fm w' (r0::GH T)) n sl (Bo hp ((r0.tag,r0.cy)::ES T)) a/\Ev c (c.fm w' (r0::GH T))/\FC c (c.fm w' (r0::GH T)) w' (r0::GH T)/\ ∀t,(c.fm w' (r0::GH T)).U t->c.U t\/t=r0.tag:=by
 have hn:((r0::GH T).map AZ.tag).Nodup:=by rw[List.map_cons,zKz];exact List.nodup_cons.2 ⟨Kf,hT⟩
 have Bm:∀r∈r0::GH T,r.new.isSome=true-> ¬c.U r.tag:=λr hr hs=>by
  rcases Ag.1 hr with rfl|hr
  ·exact Hs hs
  ·rw[(YH hr).2.1]at hs;cases hs
 have aft:=Cx.ff (w':=w') h.de hn Bm;obtain⟨q1,q2⟩:=h.changes (gs:=[]) (Fy _) hm hn Bm (λb hb=>by
   rcases Ii b hb with hb|hb
   ·exact⟨r0,by simp,hb⟩
   ·obtain⟨t,ht,C7⟩:=Ud.1 hb;exact⟨⟨t,none,[], .dead⟩,List.mem_cons_of_mem _ (List.mem_map.2 ⟨t,ht,rfl⟩),C7⟩)
  (by rw[List.flatMap_cons,zIB,AH];exact BX)
  (λr hr b hb=>by
   rcases Ag.1 hr with rfl|hr
   ·exact B9 b hb
   ·rw[(YH hr).2.2.1]at hb;cases hb)
  (λr hr=>by
   rcases Ag.1 hr with rfl|hr
   ·exact BY
   ·rw[(YH hr).2.2.2];intros;simp)
  (λhk r hr=>by
   rcases Ag.1 hr with rfl|hr
   ·exact he hk aft
   ·have kg:=aft.G r (List.mem_cons_of_mem _ hr);obtain⟨_,_,e1,e2⟩:=YH hr;rw[e2];exact⟨by rw[kg,e1],by rw[kg]⟩)
 refine⟨?_,q2,aft,λt ht=> ?_⟩
 ·rw[List.map_cons,zGG]at q1;have:Dk [] r0.cy=r0.cy:=rfl;rw[this]at q1;exact q1
 ·rcases ht with ht|⟨r,hr,rfl⟩
  ·exact .inl ht
  ·rcases Ag.1 hr with rfl|hr
   ·exact .inr rfl
   ·exact .inl (Hm _ (YH hr).1)
theorem AK.ij(h:BB P c n nx sl hp a sl0 hp0 o []){T:List Nat}(hT:T.Nodup)(Hm:∀u∈T,∃g,c.K u g){v':Value}{w':World}{ck:List Cn}{e z:Nat}{l:List DT}{x:E}{top:List Nat}(hr:(execOp a.eval o).run P c.w= .ok (.value v') w')(hm:Mod (CB c T) c.w w')
  (BX:top.Nodup) (B9:∀b∈top,(b∈CB c T\/c.w.heap.size<=b)/\b<w'.heap.size) (hd:DC w' [.row e z (AN.of l)] [v'] [x.den c.ρ] top):
  AK P o c n nx sl hp [] a {dn:=ck,val:= .own nx 0,cy:=(nx, .deep e z l 0 0 x)::ES T}:=by
 intro next Q hk
 unfold Oper.wp;rw[hr,Oper.upon_value];have hU:=O8 h;have Mp:∀u∈T,c.U u:=λu hu=>by obtain⟨g,hg⟩:=Hm u hu;exact h.rel.de _ _ hg
 obtain⟨q1,q2,q3,q4⟩:=h.rel.nf (r0:=⟨nx,some v',top, .deep e z l 0 0 x⟩) hT Mp (λhh=>hU (Mp _ hh)) (λ_=>hU) (λhh=>by cases hh) (λb hb=> .inr hb) hm BX B9 (by intros;simp) (λ_ aft=>by obtain⟨k1,k2,k3⟩:=aft.new _ (List.mem_cons_self ..) v' rfl;have kg:=aft.G _ (List.mem_cons_self ..);have ke:=aft.kt _ (List.mem_cons_self ..) rfl;simp only at k1 k2 k3 kg ke;exact⟨k1,k2,ke,by rw[k3,kg,aft.w,aft.ρ];exact hd,by rw[kg]⟩)
 obtain⟨k1,k2,k3⟩:=q3.new _ (List.mem_cons_self ..) v' rfl;simp only at k1 k3;obtain⟨p,m,r,rfl⟩:=hd.head;refine hk _ (c.fm w' _) ⟨rfl,rfl,rfl,rfl,λt ht=> ?_⟩ (q1.put (SR.own k1 k3 .nil) o.dst);rcases q4 t ht with ht|rfl
 ·exact .inl ht
 ·exact .inr ⟨AF _,by simp[B1]⟩
theorem AK.ml(h:BB P c n nx sl hp a sl0 hp0 o []){T:List Nat}(hT:T.Nodup)(Hm:∀u∈T,∃g,c.K u g){b g ep:Nat}(hb:b∉T)(hK:c.K b g)(K0:∀g',c.K b g'->g'<=g)(hE:c.E b=ep){w':World}{ck:List Cn}{e z:Nat}{l:List DT}{x:E}{top:List Nat}(hr:(execOp a.eval o).run P c.w= .ok .skip w'){hs:List Nat}(Ii:∀q∈hs,q∈(c.G b).top\/q∈CB c T)(hm:Mod hs c.w w')
  (BX:top.Nodup) (B9:∀q∈top,(q∈hs\/c.w.heap.size<=q)/\q<w'.heap.size) (hd:DC w' [.row e z (AN.of l)] [c.H b g] [x.den c.ρ] top):
  AK P o c n nx sl hp [] a {dn:=ck,cy:=(b, .deep e z l g (ep+1) x)::ES T}:=by
 intro next Q hk
 unfold Oper.wp;rw[hr,Oper.upon_skip];have Mp:∀u∈T,c.U u:=λu hu=>by obtain⟨g,hg⟩:=Hm u hu;exact h.rel.de _ _ hg
 have mZ:=h.rel.de _ _ hK;obtain⟨q1,q2,q3,q4⟩:=h.rel.nf (r0:=⟨b,none,top, .deep e z l g (ep+1) x⟩) hT Mp hb (λhh=>by cases hh) (λ_=>mZ) Ii hm BX B9 (by intros;simp) (λ_ aft=>by have kg:=aft.G _ (List.mem_cons_self ..);have ke:=aft.jh _ (List.mem_cons_self ..) rfl;obtain⟨k1,k2⟩:=aft.K b g hK;simp only at kg ke;exact⟨k1,λg' CN=>K0 g' (aft.old b mZ g' CN),by rw[ke,hE],by rw[k2,kg,aft.w,aft.ρ];exact hd,by rw[kg]⟩)
 refine hk _ (c.fm w' _) ⟨rfl,rfl,rfl,rfl,λt ht=> ?_⟩ (q1.put ((SR.undef .nil).mkGd []) o.dst);rcases q4 t ht with ht|rfl
 ·exact .inl ht
 ·exact .inl mZ
theorem zwH{w w':World}{row:Option Nat}{S:List Nat}(h:w.grownBy w' row)(hr:∀g,row=some g->g∈S\/w.heap.size<=g):Mod S w w':=by
 refine⟨h.os,h.tape,h.output,h.size,λb hb hn=>h.block b hb λhh=> ?_⟩;rcases hr b hh.symm with h1|h1
 ·exact hn h1
 ·omega
theorem zqW(h:BB P c n nx sl hp a sl0 hp0 o []){x y:Operand}{tx:TypeId}{cl:Call}(ho:o.op= .call cl)(AG:cl.callee= .builtin .append)(Dp:cl.args.toList=[x,y])(Er:cl.argTypes.toList=[tx,tx])
  {el:TypeId} (BJ:P.underlying tx=some (.slice el)) (hz:Jj P el=true) {l:List DT} (hl:l.length=P.cellsOf el) {T us:List Nat} (hT:(T++us).Nodup) (Hm:∀u∈T,∃g,c.K u g) {s2:SV} {ye:E} (Ba:BU sl0 [] y=some s2) (hy:BH hp0 [] Bb s2=some ye) (CJ:Wr hp0 [] el (P.cellsOf el) l s2=some us)
  {c0:E} {v:Value} (hv:a.eval x=v) {N:List Nat} (A3:DC c.w [.row el (P.cellsOf el) (AN.of l)] [v] [c0.den c.ρ] N) (hN:N=CB c T) {ck:List Cn} (BT:Cn.den c.ρ (.room c0 ye (P.bytesOf el))):
  AK P o c n nx sl hp [] a {dn:=ck,val:= .own nx 0,cy:=(nx, .deep el (P.cellsOf el) l 0 0 (.app c0 ye))::ES (T++us)}:=by
 have Am:cl.args= #[x,y]:=by apply Array.ext';simp[Dp]
 have Iq:cl.argTypes= #[tx,tx]:=by apply Array.ext';simp[Er]
 have C8:y∈o.op.operands:=by simp[ho,Op.operands,Call.operands,AG,Am]
 obtain⟨i,z,hi,Ho,DE,BI,CL,FF⟩:=Nd hz;obtain⟨ys,q,r,news,N2,DJ,Dl,DA,PC,Cl,Kh,PS,pL⟩:=zwR h.eh h.gs CJ (h.dy Ba C8) hy;have Dy:=jS h.rel.gw hT;rw[Lh]at Dy;have E7:∀b∈CB c (T++us),b<c.w.heap.size:=λb hb=>by obtain⟨t,_,C7⟩:=Ud.1 hb;exact h.rel.gw.inb t b (by simp[GI.own,C7])
 obtain⟨mm,kk,Hs,Eb,N7,ZI⟩:=BT;obtain⟨d1,d2,Bu⟩:=A3.inv;rw[AN.ax]at d2 Bu;have hU:∀u∈T++us,∃g,c.K u g:=λu hu=>by
  rcases Ae.1 hu with hu|hu
  ·exact Hm u hu
  ·exact pL u hu
 obtain⟨xs,old,N1,Db,hold,FW,nL,Hu,Da,LG,Pr⟩:∃(xs:List AV) (old:List Value) (N1:List Nat),c0.den c.ρ= .sl xs/\old.length=xs.length*i.size/\((xs.length=0/\ ∃q,v= .slice q 0 0)\/ ∃g cap C,v= .slice (some ⟨g,0,none⟩) xs.length cap/\xs.length<=cap/\cap<=maxLen/\c.w.heap[g]?=some (.cells C el (0,0))/\C.size=cap*i.size/\old=C.toList.take (xs.length*i.size)/\(g∈CB c T/\g∉N1))/\
   DC c.w (Cc xs.length l) old (AA xs) N1/\(∀y∈xs,y.cells.length=P.cellsOf el)/\(∀u∈old,u.oneCell'=true)/\(∀b∈N1,b∈CB c T)/\N1.Nodup:=by
  rcases Bu with⟨p,rfl,EU,rfl⟩|⟨g9,cap,C,xs,N1,rfl,EU,rfl,h6,h7,h8,h9,E1,EE,H4⟩
  ·exact⟨[],[],[],EU,by simp, .inl ⟨rfl,p,rfl⟩,by simpa[Cc,AA]using DC.nil,by simp,by simp,by simp,by simp⟩
  ·have BX:(g9::N1).Nodup:=by rw[hN];exact(List.nodup_append.1 Dy).1
   rw[List.nodup_cons]at BX;refine⟨xs,_,N1,EU,?_, .inr ⟨g9,cap,C,rfl,h7,h8,h6,by rw[<-CL];exact h9,rfl,by rw[<-hN];simp,BX.1⟩,by rw[<-CL];exact H4,E1,by rw[<-CL];exact EE,λb hb=>by rw[<-hN];simp[hb],BX.2⟩;have e9:C.toList.length=cap*i.size:=by rw[<-CL,<-h9];simp
   rw[AI,e9];exact Nat.min_eq_left (By _ h7)
 rw[Db]at Hs;rw[DJ]at Eb;simp only[AV.len,AV.int.injEq,true_and]at Hs Eb;have CF:(xs.length+ys.length)*i.bytes<=140737488355328:=by
  rw[<-Hs,<-Eb,FF]at N7;have h9:(((xs.length+ys.length)*i.bytes:Nat):Int)<=140737488355328:=by rw[Int.natCast_mul,Int.natCast_add];exact N7
  omega
 have FE:xs.length+ys.length<=140737488355328:=by rw[<-Hs,<-Eb]at ZI;omega
 rw[CL]at DA;obtain⟨v',w',A7,A2⟩:=UD (P:=P) c.w tx o.type el i z BJ hi Ho DE BI (λg9=>g9∈CB c T/\g9∉N1) v xs.length old hold FW q ys.length r news DA (by simp only[maxLen];omega) CF;have Ec:(execOp a.eval o).run P c.w= .ok (.value v') w':=by simp[execOp,ho,resolve,AG,Am,Iq,invoke,builtin,hv,Dl,A7]
 have Vb:∀b∈N2,b∈CB c us:=λb hb=>Cl.subset hb;have Ps:N2.Nodup:=Cl.nodup (List.nodup_append.1 Dy).2.1;have Ms:(E.app c0 ye).den c.ρ= .sl (xs++ys):=by simp only[E.den,Db,DJ,AV.app]
 rcases A2 with⟨rfl,rfl,CG⟩|⟨g9,cap,C,rfl,h1,h2,h3,h4,h5,h6,h7⟩
 ·have IZ:ys=[]:=List.eq_nil_of_length_eq_zero CG;subst IZ;refine AK.ij h hT hU Ec (Mod.refl _ _) (top:=N) (by rw[hN];exact(List.nodup_append.1 Dy).1) (λb hb=>⟨.inl (by rw[Lh,<-hN];simp[hb]),E7 b (by rw[Lh,<-hN];simp[hb])⟩) ?_;rw[Ms,AH,<-Db];exact A3
 ·have JC:(g9∈CB c T\/c.w.heap.size<=g9)/\g9∉N1/\g9∉N2:=by
   rcases h7 with⟨rfl,_⟩|⟨hg,CN⟩
   ·refine⟨.inr (AF _),λhh=> ?_,λhh=> ?_⟩
    ·have:=E7 _ (by rw[Lh];exact Ae.2 (.inl (LG _ hh)));omega
    ·have:=E7 _ (by rw[Lh];exact Ae.2 (.inr (Vb _ hh)));omega
   ·exact⟨.inl hg,CN,λhh=>(List.nodup_append.1 Dy).2.2 _ hg _ (Vb _ hh) rfl⟩
  have Bl:∀b∈N1++N2,w'.heap[b]?=c.w.heap[b]?:=λb hb=>by
   have AQ:b<c.w.heap.size:=E7 b (by
    rw[Lh];rcases Ae.1 hb with hb|hb
    ·exact Ae.2 (.inl (LG b hb))
    ·exact Ae.2 (.inr (Vb b hb)))
   refine h6.block b AQ λhh=> ?_;cases hh;rcases Ae.1 hb with hb|hb
   ·exact JC.2.1 hb
   ·exact JC.2.2 hb
  refine AK.ij h hT hU Ec (zwH h6 λg hg=> ?_) (top:=g9::(N1++N2)) ?_ (λb hb=> ?_) ?_
  ·cases hg;rcases JC.1 with hh|hh
   ·exact .inl (by rw[Lh];exact Ae.2 (.inl hh))
   ·exact .inr hh
  ·refine List.nodup_cons.2 ⟨λhh=> ?_,List.nodup_append.2 ⟨Pr,Ps,λp hp q hq=> ?_⟩⟩
   ·rcases Ae.1 hh with hh|hh
    ·exact JC.2.1 hh
    ·exact JC.2.2 hh
   ·exact(List.nodup_append.1 Dy).2.2 p (LG p hp) q (Vb q hq)
  ·rcases Ag.1 hb with rfl|hb
   ·refine⟨?_,Dm h3⟩;rcases JC.1 with hh|hh
    ·exact .inl (by rw[Lh];exact Ae.2 (.inl hh))
    ·exact .inr hh
   ·have hbT:b∈CB c (T++us):=by
     rw[Lh];rcases Ae.1 hb with hb|hb
     ·exact Ae.2 (.inl (LG b hb))
     ·exact Ae.2 (.inr (Vb b hb))
    exact⟨.inl hbT,Nat.lt_of_lt_of_le (E7 b hbT) h6.size⟩
  ·rw[Ms];have hlen:(xs++ys).length=xs.length+ys.length:=Aq;rw[CL]at d1 d2 Hu Kh ⊢;have:=DC.row (w:=w') (e:=el) (z:=i.size) (l:=AN.of l) (g:=g9) (cap:=cap) (C:=C) (ys:=xs++ys) (N1:=N1++N2) (ts:=[]) (vs:=[]) (xs:=[]) (N:=[]) d1 (by rw[AN.ax];exact d2) h3 (by rw[hlen];exact h1) h2 h4 (λw hw=> ?_) (by
     rw[hlen,h5];intro u hu;rcases Ae.1 hu with hu|hu
     ·exact Da u hu
     ·exact PS u hu) (by
     rw[hlen,h5,jK,Q1,AN.ax];exact(nL.app PC).frame Bl) .nil
   ·rw[hlen]at this;simpa using this
   ·rcases Ae.1 hw with hw|hw
    ·exact Hu w hw
    ·exact Kh w hw
end
section
variable {P:Program} {c:Cx} {n nx:Nat} {sl sl0:Nat->SV} {hp hp0:Nat->Option Aj} {a:Act} {o:Oper} {gs:Gd} {e:Bf} {sg:BW} {nv:Nat}
theorem zG4{l:List Nat}(h:NL l=true):l.Nodup:=Uk h
theorem zyi(h:BB P c n nx sl hp a sl0 hp0 o gs){x y:Operand}{tx ty:TypeId}{cl:Call}(ho:o.op= .call cl)(AG:cl.callee= .builtin .append)(Dp:cl.args.toList=[x,y])(Er:cl.argTypes.toList=[tx,ty])
  {s1 s2:SV} (BN:BU sl0 gs x=some s1) (Ba:BU sl0 gs y=some s2) (he:kT P hp0 gs nx tx ty s1 s2=some e) (hc:∀q∈e.dn,Cn.den c.ρ q):AK P o c n nx sl hp gs a e:=by
 have Am:cl.args= #[x,y]:=by apply Array.ext';simp[Dp]
 have DP:x∈o.op.operands:=by simp[ho,Op.operands,Call.operands,AG,Am]
 have C8:y∈o.op.operands:=by simp[ho,Op.operands,Call.operands,AG,Am]
 unfold kT at he;split at he
 ·cases he
 rename_i K5;have K5:tx=ty:=by simpa using K5
 subst K5;split at he
 ·rename_i el e' z dl BJ D7;have KQ:=L1 BJ;split at he
  ·cases he
  rename_i AU;simp only[not_or,Bk,Bool.not_eq_false,Bool.not_eq_true,ne_eq,Decidable.not_not]at AU;obtain⟨hz,GV,rfl,rfl⟩:=AU;obtain⟨_,_,l,KX,Fu⟩:=YO BJ D7;simp only[DT.row.injEq,true_and]at KX;subst KX;rw[AN.ax]at he;have r1:=h.dy BN DP;split at he
  ·rename_i ye us hy CJ;have hU:∀u∈us,∃g,c.K u g:=(zwR h.eh h.gs CJ (h.dy Ba C8) hy).choose_spec.choose_spec.choose_spec.choose_spec.choose_spec.2.2.2.2.2.2.2;have P7:us.Nodup:=by
    unfold Wr at CJ;split at CJ
    ·simp only[Af]at CJ;subst CJ;simp
    ·simp only[Af]at CJ;subst CJ;simp
    ·split at CJ
     ·split at CJ
      ·simp only[Af]at CJ;subst CJ;simp
      ·cases CJ
     ·cases CJ
    ·cases CJ
   have ZO:0<P.cellsOf e':=by obtain⟨i,_,_,_,_,h1,h2,_⟩:=Nd hz;omega
   split at he
   ·rename_i t g;split at he
    ·rename_i e2 z2 l2 g2 ep c0 hl;split at he
     ·rename_i hh;obtain⟨rfl,rfl,hb,rfl,D9⟩:=hh;have hb:=AN.ik hb;subst hb;simp only[Af]at he;subst he;obtain⟨q1,q2,q3,q4,q5⟩:=h.eh t _ (Di hl h.gs);generalize hv:a.eval x=v at r1;cases r1 with
      |own k1 k2 _=>rw[k2]at q4;simp only[Bk,List.contains_eq_mem,decide_eq_false_iff_not]at D9;exact zqW h ho AG Dp Er KQ hz Fu (T:=[t]) (by simpa using List.nodup_cons.2 ⟨D9,P7⟩) (λu hu=>by simp at hu;subst hu;exact⟨_,k1⟩) Ba hy CJ hv q4 (by simp[CB]) (hc _ (by simp))
     ·cases he
    ·cases he
   ·simp only[Af]at he;subst he;generalize hv:a.eval x=v at r1;cases r1 with
    |emp _=>exact zqW h ho AG Dp Er KQ hz Fu (T:=[]) (by simpa using P7) (by simp) Ba hy CJ hv (c0:= .lst .nil) (.void ZO (by rw[AN.ax];exact Fu) .nil) rfl (hc _ (by simp))
   ·simp only[Af]at he;subst he;generalize hv:a.eval x=v at r1;cases r1 with
    |dg _=>exact zqW h ho AG Dp Er KQ hz Fu (T:=[]) (by simpa using P7) (by simp) Ba hy CJ hv (c0:= .lst .nil) (.void ZO (by rw[AN.ax];exact Fu) .nil) rfl (hc _ (by simp))
   ·cases he
  ·cases he
 ·cases he
theorem AK.iu(h:BB P c n nx sl hp a sl0 hp0 o []){T:List Nat}(hT:T.Nodup)(Hm:∀u∈T,∃g,c.K u g){ck:List Cn}{el z:Nat}{l:List DT}(hz:0<z)(hl:l.length=z){x:E}{xs:List AV}{C:Array Value}{cap:Nat}(hx:x.den c.ρ= .sl xs)(AG:∀y∈xs,y.cells.length=z)(hle:xs.length<=cap)(FG:cap<=maxLen)(hC:C.size=cap*z)
  (h1:∀u∈C.toList.take (xs.length*z),u.oneCell'=true) (hD:DC c.w (Cc xs.length l) (C.toList.take (xs.length*z)) (AA xs) (CB c T))
  (hr:(execOp a.eval o).run P c.w= .ok (.value (.slice (some ⟨c.w.heap.size,0,none⟩) xs.length cap)) (c.w.alloc (.cells C el))):
  AK P o c n nx sl hp [] a {dn:=ck,val:= .own nx 0,cy:=(nx, .deep el z l 0 0 x)::ES T}:=by
 have E7:∀b∈CB c T,b<c.w.heap.size:=λb hb=>by obtain⟨t,_,C7⟩:=Ud.1 hb;exact h.rel.gw.inb t b (by simp[GI.own,C7])
 have Bm:(c.w.alloc (.cells C el)).heap[c.w.heap.size]?=some (.cells C el (0,0)):=heap_alloc_new c.w _;have KT:c.w.grownBy (c.w.alloc (.cells C el)) (some c.w.heap.size):=⟨rfl,rfl,rfl,by simp,λj hj _=>Below.heap_alloc c.w _ _ hj⟩
 refine AK.ij h hT Hm hr (zwH KT λg hg=> .inr (by cases hg;exact AF _)) (top:=c.w.heap.size::CB c T) ?_ (λb hb=> ?_) ?_
 ·exact List.nodup_cons.2 ⟨λhh=>by have:=E7 _ hh;omega,jS h.rel.gw hT⟩
 ·rcases Ag.1 hb with rfl|hb
  ·exact⟨.inr (AF _),by simp⟩
  ·exact⟨.inl hb,Nat.lt_of_lt_of_le (E7 b hb) (by simp)⟩
 ·rw[hx];have:=DC.row (w:=c.w.alloc (.cells C el)) (e:=el) (z:=z) (l:=AN.of l) (g:=c.w.heap.size) (cap:=cap) (C:=C) (ys:=xs) (N1:=CB c T) (ts:=[]) (vs:=[]) (xs:=[]) (N:=[]) hz (by rw[AN.ax];exact hl) Bm hle FG hC AG h1 (by
   rw[AN.ax];exact hD.frame λb hb=>Below.heap_alloc c.w _ _ (E7 b hb)) .nil
  simpa using this
theorem zza(h:BB P c n nx sl hp a sl0 hp0 o gs){t:TypeId}{m:Nat}{parts:Array (Nat × Operand)}(ho:o.op= .buildSlice t m parts){ps:List (Nat × SV)}(N6:parts.toList.mapM (λ(p:Nat × Operand)=>(BU sl0 gs p.2).map λs=>(p.1,s))=some ps)(he:lQ P hp0 gs nx t m ps=some e)(hc:∀q∈e.dn,Cn.den c.ρ q):AK P o c n nx sl hp gs a e:=by
 obtain⟨e1,e2⟩:=kP (c:=c) (a:=a) (parts.toList.map (·.2)) (λx s hx hm=>h.dy hx (by simpa[ho,Op.operands]using hm)) (λx hx=>List.mem_map.2 ⟨x,hx,rfl⟩) N6;unfold lQ at he;split at he
 ·rename_i el e' zz dl KR D7;have BJ:=L1 KR;split at he
  ·cases he
  rename_i AU;simp only[not_or,Bk,Bool.not_eq_false',ne_eq,Bool.not_eq_false,Bool.not_eq_true,Nat.not_lt,Decidable.not_not]at AU;obtain⟨hz,GV,rfl,rfl,BC,AP,hle,E3⟩:=AU;obtain⟨_,_,l,KX,Fu⟩:=YO KR D7;simp only[DT.row.injEq,true_and]at KX;subst KX;rw[AN.ax]at he;have AP:Ar P e'=true\/P.cellsOf e'=1:=by simpa using AP
  obtain⟨i,z,hi,Ho,DE,BI,CL,FF⟩:=Nd hz;split at he
  ·rename_i xs us ck Wa;split at he
   ·rename_i BX;simp only[Af]at he;subst he;obtain⟨p1,p5,p6,p7,p8⟩:=zs5 h.eh h.gs Fu AP (ps.map (·.2)) (parts.toList.map λp=>a.eval p.2) e2 Wa hc;have hlen:(parts.toList.map λp=>a.eval p.2).length=m:=by
     have:ps.length=m:=by have:=congrArg List.length E3;simpa using this
     have h9:=congrArg List.length e1;simp at h9 ⊢;omega
    have Io:(parts.map λ(x:Nat × Operand)=>(x.1,a.eval x.2)).toList=((parts.toList.map λp=>a.eval p.2).zipIdx 0).map λp=>(p.2,p.1):=by
     have PI:parts.toList.map (·.1)=List.range m:=by rw[<-e1,E3]
     apply List.ext_getElem?;intro j;have hj:(parts.toList.map (·.1))[j]?=(List.range m)[j]?:=by rw[PI]
     simp only[Array.toList_map,List.getElem?_map,List.getElem?_zipIdx]at hj ⊢;cases hp:parts.toList[j]? with
     |none=>simp
     |some p=>
      rw[hp]at hj;simp only[Option.map_some,Af]at hj ⊢;have oB:j<m:=by
       rcases Nat.lt_or_ge j m with hh|hh
       ·exact hh
       ·rw[List.getElem?_eq_none (by simpa using hh)]at hj;cases hj
      rw[List.getElem?_range oB]at hj;simp at hj;simp[hj]
    obtain⟨C',f1,f2⟩:=zuY (sz:=i.size) (λj=>some (j*i.size,i.size)) (λj=>rfl) (parts.toList.map λp=>a.eval p.2) 0 ((Array.range (m*i.size)).map (λj=>(if m*i.size=0 then #[]else z.cells)[j % (if m*i.size=0 then #[]else z.cells).size]!)) [] _ (by simp;rfl) (by simp) (by simp[hlen]) (λv hv=>by rw[<-CL];exact(p5 v hv).1);have Ew:C'.toList.length=m*P.cellsOf e':=by
     rw[f2,CL];simp only[List.nil_append];have:∀(L:List Value),(∀v∈L,v.cells.size=i.size)->(L.flatMap λv=>v.cells.toList).length=L.length*i.size:=by
      intro L
      induction L with
      |nil=>intro _;simp
      |cons v L ih=>intro hL;simp only[List.flatMap_cons,Aq,AE,BL];rw[ih (λu hu=>hL u (by simp[hu])),hL v (by simp),Nat.add_mul];omega
     rw[this _ (λv hv=>by rw[<-CL];exact(p5 v hv).1),hlen]
    have MQ:(xs.map (E.den c.ρ)).length=m:=by rw[List.length_map,p7,hlen]
    have B4:C'.toList.take ((xs.map (E.den c.ρ)).length*P.cellsOf e')=(parts.toList.map λp=>a.eval p.2).flatMap λv=>v.cells.toList:=by rw[MQ,<-Ew,List.take_length,f2];simp
    refine AK.iu h (zG4 BX) p8 (by omega) Fu (xs:=xs.map (E.den c.ρ)) (C:=C') (cap:=m) (by simp[E.den,EL.fb]) (λy hy=> ?_) (by omega) (by simp only[maxLen];have:m*1<=m*P.cellsOf e':=Nat.mul_le_mul_left _ (by omega);omega) (by rw[<-BL,Ew]) ?_ ?_ ?_
    ·obtain⟨q,hq,rfl⟩:=List.mem_map.1 hy;exact p6 q hq
    ·rw[B4];intro u hu;obtain⟨v,hv,hu⟩:=List.mem_flatMap.1 hu;exact(p5 v hv).2 u hu
    ·rw[B4,MQ,<-hlen];exact p1
    ·rw[MQ];have A7:=zrz (P:=P) BJ BC hi Ho CL m (by rw[<-CL];omega) (parts.map λ(x:Nat × Operand)=>(x.1,a.eval x.2)) C' (by rw[Io];exact f1) c.w;simp only[execOp,ho,Sem.run_bind];rw[A7];rfl
   ·cases he
  ·cases he
 ·cases he
theorem zr3{w:World}:∀{ds:List DT} {ss:List SV} {vs:List Value},Rl ds ss=true->SR c ss vs-> ∀{xs:EL} {m:Nat},CZ hp0 gs m ss=some xs->DC w ds vs (xs.den c.ρ) []
 | [],[],vs,_,hs,xs,m,hx=>by
  cases hs;cases m with
  |zero=>simp[CZ]at hx
  |succ m=>simp[CZ]at hx;subst hx;exact .nil
 | [],_::_,_,h,_,_,_,_=>by simp[Rl]at h
 |_::_,[],_,h,_,_,_,_=>by simp[Rl]at h
 |d::ds,s::ss,[],h,hs,_,_,_=>by have:=hs.len;simp at this
 |d::ds,s::ss,v::vs,h,hs,xs,m,hx=>by
  obtain⟨j,y,ys,rfl,hy,DJ,rfl⟩:=L2 hx;obtain⟨r1,r2⟩:=hs.dh;simp only[Rl,Ac]at h;have ih:=zr3 (w:=w) h.2 r2 DJ;unfold zQc at h;obtain⟨h1,_⟩:=h;split at h1
  ·rename_i y';rw[EL.den,Ma hy];cases r1 with
   |e g1 g2 _=>
    cases y'<;>simp[Xf]at h1
    ·cases g1 with
     |int hk _=>exact .flat (.int hk .nil) ih
    ·cases g1 with
     |bool _=>exact .flat (.bool .nil) ih
    ·rename_i s0;generalize hq:(E.str s0).den c.ρ=q at g1;cases g1 with
     |str hk _=>exact .flat (.str hk .nil) ih
     |_=>simp[E.den]at hq
  ·simp only[Ac,AS,Az]at h1;rw[EL.den,Ng hy];cases r1 with
   |dg _=>exact .void h1.1 h1.2 ih
  ·cases h1
theorem DC.rep{w:World}{ds:List DT}{vs:List Value}{xs:List AV}(h:DC w ds vs xs []):∀k,DC w (Cc k ds) (List.replicate k vs).flatten (List.replicate k xs).flatten []
 |0=>by simpa[Cc]using DC.nil
 |k+1=>by rw[QZ,List.replicate_succ,List.flatten_cons,List.replicate_succ,List.flatten_cons];simpa using h.app (DC.rep h k)
theorem zB3(h:BB P c n nx sl hp a sl0 hp0 o gs){t:TypeId}{l m:Operand}(ho:o.op= .makeSlice t l m){s1 s2:SV}(BN:BU sl0 gs l=some s1)(Ba:BU sl0 gs m=some s2)(he:mE P hp0 gs nx t s1 s2=some e)(hc:∀q∈e.dn,Cn.den c.ρ q):AK P o c n nx sl hp gs a e:=by
 have DP:l∈o.op.operands:=by simp[ho,Op.operands]
 have C8:m∈o.op.operands:=by simp[ho,Op.operands]
 unfold mE at he;split at he
 ·rename_i el e' zz dl x y KR D7;have BJ:=L1 KR;split at he
  ·cases he
  rename_i AU;simp only[not_or,Bk,Bool.not_eq_false',ne_eq,Bool.not_eq_false,Bool.not_eq_true,Decidable.not_not]at AU;obtain⟨hz,GV,rfl,rfl,Gg,nS⟩:=AU;have nS:gs=[]:=by simpa using nS
  subst nS;obtain⟨_,_,dl',KX,Fu⟩:=YO KR D7;simp only[DT.row.injEq,true_and]at KX;subst KX;rw[AN.ax]at he;obtain⟨i,z,hi,Ho,DE,BI,CL,FF⟩:=Nd hz;have r1:=h.dy BN DP;have r2:=h.dy Ba C8;have ival:∀{x:E} {kk:IntKind} {k:Int} {v:Value},SR c [.e x] [v]->x.den c.ρ= .int kk k->v= .int kk k:=by
   intro x kk k v hr hx;cases hr with
   |e h1 _ _=>exact(Hg h1 hx).1
  split at he
  ·rename_i s hs;have hs:F4 z=some s:=by simpa[hi,Ho]using hs
   split at he
   ·rename_i ZQ;obtain⟨w,hw,rfl⟩:=Ay.1 he;obtain⟨kk,k,hk,h0,hb,hle⟩:Cn.den c.ρ (.mkroom x (P.bytesOf e')):=Cq hc;have F1:=ival r1 hk;have Dl:=ival r2 (by rw[<-E.ay c.ρ _ _ Gg];exact hk);have hzc:DC c.w dl' z.cells.toList (w.den c.ρ).cells []:=by
     have MK:=kU (c:=c) hs;unfold zNb at ZQ;cases s with
     |agg cs=>
      obtain⟨k9,l9,hm,hl9,rfl⟩:=YU hw;cases MK with
      |agg h9 h1 h8=>have:=zr3 (w:=c.w) ZQ h1 hl9;simpa[Value.cells,AV.cells,E.den]using this
     |dg=>
      have BJ:CZ hp0 [] (Bb+1) [.dg]=some (.cons w .nil):=by unfold CZ;rw[hw];rfl
      have:=zr3 (w:=c.w) ZQ MK BJ;rw[Ng hw]at this ⊢;cases MK with
      |dg _=>simpa[Value.cells,AV.cells,E.den,EL.den]using this
     |_=>cases ZQ
    obtain⟨c1,c2⟩:=zwV (w:=c.w) (ρ:=c.ρ) hs hw;obtain⟨kn,rfl⟩:=Int.eq_ofNat_of_zero_le h0;have Es:(i.bytes:Int)*(kn:Int)<=281474976710656:=by rw[FF]at hb;rw[Int.mul_comm];omega
    have hlen:=c1.len;have PO:=zow z.cells (by omega) kn;have A7:=run_make (P:=P) c.w t e' i z BJ hi Ho kk kk kn kn (by omega) (Int.le_refl _) Es (by omega);have FZ:(madeCells z.cells (kn*z.cells.size)).size=kn*P.cellsOf e':=by rw[size_madeCells,DE,CL]
    have B4:(madeCells z.cells (kn*z.cells.size)).toList.take ((List.replicate kn (w.den c.ρ)).length*P.cellsOf e')=(List.replicate kn z.cells.toList).flatten:=by rw[List.length_replicate,List.take_of_length_le (by rw[BL,FZ];exact AF _),PO]
    have Ci:AA (List.replicate kn (w.den c.ρ))=(List.replicate kn (w.den c.ρ).cells).flatten:=by
     clear A7 FZ B4 PO hb hle Es hk F1 Dl h0 hc
     induction kn with
     |zero=>rfl
     |succ k ih=>simp only[List.replicate_succ,AA,List.flatMap_cons,List.flatten_cons]at ih ⊢;rw[ih]
    refine AK.iu (T:=[]) h (by simp) (by simp) (by omega) Fu (xs:=List.replicate kn (w.den c.ρ)) (C:=madeCells z.cells (kn*z.cells.size)) (cap:=kn) (by simp[E.den,hk,AV.rep]) (λu hu=> ?_) (by simp) (by simp only[maxLen];omega) FZ ?_ ?_ ?_
    ·rw[List.eq_of_mem_replicate hu,<-hlen,BL,DE,CL]
    ·rw[B4];intro u hu;obtain⟨q,hq,hu⟩:=List.mem_flatten.1 hu;rw[List.eq_of_mem_replicate hq]at hu;exact c2 u hu
    ·rw[B4,List.length_replicate,Ci];exact hzc.rep kn
    ·simp only[execOp,ho,F1,Dl,Sem.run_bind,Int.ofNat_eq_natCast,List.length_replicate];rw[A7,DE];rfl
   ·cases he
  ·cases he
 ·cases he
end
section
variable {P:Program} {c:Cx} {n nx:Nat} {sl sl0:Nat->SV} {hp hp0:Nat->Option Aj} {a:Act} {o:Oper} {gs:Gd} {e:Bf} {sg:BW} {nv:Nat}
theorem zxV{α:Type}(cs vs:List α)(o:Nat):setVs cs o vs=cs.take o++(vs++cs.drop (o+vs.length)):=by simp[setVs]
theorem DC.setVs{w:World}{ts:List DT}{L V:List Value}{X Y:List AV}{N1 N2 M:List Nat}{p:Nat}(h1:DC w (ts.take p) (L.take p) (X.take p) N1)(h2:DC w (ts.drop (p+V.length)) (L.drop (p+V.length)) (X.drop (p+V.length)) N2)(k:DC w ((ts.drop p).take V.length) V Y M):
  DC w ts (Go.Proofs.YtlmjpjceiefpoaaGreat.setVs L p V) (Go.Proofs.YtlmjpjceiefpoaaGreat.setVs X p Y) (N1++(M++N2)):=by
 have hk:=k.len;have ht:ts=ts.take p++((ts.drop p).take V.length++ts.drop (p+V.length)):=by rw[<-List.drop_drop,B6,B6]
 rw[zxV,zxV];have hl:Y.length=V.length:=by omega
 rw[hl];have:=h1.app (k.app h2);rw[<-ht]at this;exact this
theorem zzP(h:BB P c n nx sl hp a sl0 hp0 o []){t:TypeId}{x y:Operand}(ho:o.op= .store t x y){b g:Nat}{ix:E}{sz k:Nat}{s:SV}(r1:SR c [.du b g ix sz k] [a.eval x])(r2:SR c [s] [a.eval y]){el:Nat}{l:List DT}{ep:Nat}{c0:E}(hK:c.K b g)(K0:∀g',c.K b g'->g'<=g)(hE:c.E b=ep)
  (BC:D0 P t=true) (hle:k+P.cellsOf t<=sz) (Ga:Ar P el=true\/(sz=1/\Ar P t=false)) (EF:Ar P t=true\/P.cellsOf t=1)
  {xe:E} {us:List Nat} {ck:List Cn} (CJ:U0 P hp0 [] t ((l.drop k).take (P.cellsOf t)) s=some (xe,us,ck)) (KM:∀q∈ck,q.den c.ρ) (BX:us.Nodup) (hb:b∉us)
  (B9:∀(kk:IntKind) (kv:Int),ix.den c.ρ= .int kk kv-> ∃(m cap:Nat) (C:Array Value) (ys:List AV) (N1 N2:List Nat),c.H b g= .slice (some ⟨m,0,none⟩) ys.length cap/\c0.den c.ρ= .sl ys/\0<sz/\l.length=sz/\c.w.heap[m]?=some (.cells C el (0,0))/\ys.length<=cap/\cap<=maxLen/\C.size=cap*sz/\(∀y∈ys,y.cells.length=sz)/\(∀w∈C.toList.take (ys.length*sz),w.oneCell'=true)/\
   (m::(N1++N2)).Nodup/\(∀q∈m::(N1++N2),q∈(c.G b).top)/\DC c.w ((Cc ys.length l).take (kv.toNat*sz+k)) ((C.toList.take (ys.length*sz)).take (kv.toNat*sz+k)) ((AA ys).take (kv.toNat*sz+k)) N1/\
   DC c.w ((Cc ys.length l).drop (kv.toNat*sz+k+P.cellsOf t)) ((C.toList.take (ys.length*sz)).drop (kv.toNat*sz+k+P.cellsOf t)) ((AA ys).drop (kv.toNat*sz+k+P.cellsOf t)) N2):
  AK P o c n nx sl hp [] a {dn:=ck,cy:=(b, .deep el sz l g (ep+1) (.set c0 ix (.put (.idx c0 ix) k xe (Ar P el))))::ES us}:=by
 generalize hv:a.eval x=v at r1;cases r1 with
 |du k1 k2 k3 k4 k5 k6=>
  rename_i m0 len cap0 kk kv;obtain⟨m,cap,C,ys,N1,N2,p1,p2,p3,p4,p5,p6,p7,p8,p9,p10,p11,p12,p13,p14⟩:=B9 kk kv k3;rw[k2]at p1;cases p1;have JH:kv.toNat<ys.length:=by omega
  have hmul:(kv.toNat+1)*sz<=ys.length*sz:=By _ (by omega);have Fb:ys.length*sz<=cap0*sz:=By _ p6;rw[Nat.add_mul]at hmul;have Ew:C.toList.length=cap0*sz:=by simpa using p8
  obtain⟨q1,q2,q3,q4,q5,q6⟩:=zxk h.eh h.gs (by rw[AI,Br,p4];omega) EF CJ r2 KM;have GX:=Pl JH;generalize Kj:(AV.sl ys).nth kv.toNat=yk at GX;have Gh:=p9 yk (List.mem_of_getElem? GX);have EM:(a.eval y).cells.toList.length=P.cellsOf t:=by simpa using q4
  obtain⟨m1,m2,m3⟩:=zoj (vs:=(a.eval y).cells.toList) p5 (show(kv.toNat*sz+k)+_<=C.size by rw[EM,p8];omega);have VK:(C.toList.take (ys.length*sz)).length=ys.length*sz:=by rw[AI,Ew];omega
  have IW:m0∈(c.G b).top:=p12 _ (by simp);have MN:∀q∈CB c us,q∉(c.G b).top:=λq hq hh=>by obtain⟨u,hu,pA⟩:=Ud.1 hq;exact h.rel.gw.dt u b (λhh=>hb (hh▸hu)) q (by simp[GI.own,pA]) (by simp[GI.own,hh])
  have NV:∀q∈CB c us,q<c.w.heap.size:=λq hq=>by obtain⟨u,_,pA⟩:=Ud.1 hq;exact h.rel.gw.inb u q (by simp[GI.own,pA])
  have NU:∀q∈(c.G b).top,q<c.w.heap.size:=λq hq=>h.rel.gw.inb b q (by simp[GI.own,hq]);have Bl:∀q,q∈CB c us\/(q∈N1++N2)->(putCells c.w m0 (kv.toNat*sz+k) (a.eval y).cells.toList).heap[q]?=c.w.heap[q]?:=λq hq=>by
   refine m1.block q ?_ ?_
   ·rcases hq with hq|hq
    ·exact NV q hq
    ·exact NU q (p12 q (by simp[Ae.1 hq]))
   ·simp only[List.mem_singleton];rintro rfl;rcases hq with hq|hq
    ·exact MN _ hq IW
    ·exact(List.nodup_cons.1 p11).1 hq
  have hz:(yk.fq k (xe.den c.ρ) (Ar P el)).cells=setVs yk.cells k (xe.den c.ρ).cells:=by
   refine zt1 ?_ (λhg=> ?_)
   ·cases hg:Ar P el with
    |true=>exact .inr rfl
    |false=>
     left;rcases Ga with h'|⟨_,h'⟩
     ·rw[hg]at h';cases h'
     ·rw[h']at q5;exact λcs=>(q5.1 cs)
   ·rcases Ga with h'|⟨h1,h'⟩
    ·rw[hg]at h';cases h'
    ·rw[h']at q5;have Vw:P.cellsOf t=1:=by rcases EF with h2|h2;rw[h']at h2;cases h2;exact h2
     refine⟨by omega,by omega,?_⟩;cases pR:xe.den c.ρ<;>first|rfl|exact absurd pR (q5.1 _)
  have E4:AA (ys.set kv.toNat (yk.fq k (xe.den c.ρ) (Ar P el)))=setVs (AA ys) (kv.toNat*sz+k) (xe.den c.ρ).cells:=
   lH ys _ _ yk k _ p9 GX (by rw[q3];exact hle) hz
  have H8:((Cc ys.length l).drop (kv.toNat*sz+k)).take (P.cellsOf t)=(l.drop k).take (P.cellsOf t):=by rw[<-p4];exact Yr l _ _ _ _ JH (by omega)
  have A7:(execOp a.eval o).run P c.w= .ok .skip (putCells c.w m0 (kv.toNat*sz+k) (a.eval y).cells.toList):=by have:=zse (P:=P) (t:=t) (v:=a.eval y) (off:=kv.toNat*sz+k) p5 BC q4 (by rw[q4,p8];omega) q2;simp[execOp,ho,hv,this]
  refine AK.ml h BX q6 hb hK K0 hE A7 (hs:=(c.G b).top++CB c us) (λq hq=>Ae.1 hq) ⟨m1.os,m1.tape,m1.output,m1.size,λq hq hn=>m1.block q hq λhh=>hn (by simp only[List.mem_singleton]at hh;subst hh;exact Ae.2 (.inl IW))⟩
   (top:=m0::(N1++(CB c us++N2))) ?_ (λq hq=> ?_) ?_
  ·have hnT:=jS h.rel.gw BX;rw[List.nodup_cons,List.nodup_append]at p11;obtain⟨n1,n2,n3,n4⟩:=p11;have a1:∀q∈CB c us,q∉N1/\q∉N2/\q≠m0:=λq hq=>⟨λhh=>MN q hq (p12 q (by simp[hh])),λhh=>MN q hq (p12 q (by simp[hh])),λhh=>MN q hq (hh▸IW)⟩
   rw[List.nodup_cons,List.nodup_append,List.nodup_append];refine⟨λhh=> ?_,n2,⟨hnT,n3,λp hp q hq ZF=>(a1 p hp).2.1 (ZF▸hq)⟩,λp hp q hq ZF=> ?_⟩
   ·simp only[Ae]at hh n1;rcases hh with hh|hh|hh
    ·exact n1 (.inl hh)
    ·exact(a1 _ hh).2.2 rfl
    ·exact n1 (.inr hh)
   ·rcases Ae.1 hq with hq|hq
    ·exact(a1 q hq).1 (ZF▸hp)
    ·exact n4 p hp q hq ZF
  ·have:q∈(c.G b).top\/q∈CB c us:=by
    simp only[Ag,Ae]at hq;rcases hq with rfl|hq|hq|hq
    ·exact .inl IW
    ·exact .inl (p12 q (by simp[hq]))
    ·exact .inr hq
    ·exact .inl (p12 q (by simp[hq]))
   refine⟨.inl (Ae.2 this),Nat.lt_of_lt_of_le ?_ m1.size⟩;rcases this with hh|hh
   ·exact NU q hh
   ·exact NV q hh
  ·have CQ:(E.set c0 ix (.put (.idx c0 ix) k xe (Ar P el))).den c.ρ= .sl (ys.set kv.toNat (yk.fq k (xe.den c.ρ) (Ar P el))):=by
    simp only[E.den,p2,k3,AV.idx,Kj,AV.fu]
   rw[CQ,k2];have Fu:(ys.set kv.toNat (yk.fq k (xe.den c.ρ) (Ar P el))).length=ys.length:=List.length_set;have:=DC.row (w:=putCells c.w m0 (kv.toNat*sz+k) (a.eval y).cells.toList) (e:=el) (z:=sz) (l:=AN.of l) (g:=m0) (cap:=cap0) (ys:=ys.set kv.toNat (yk.fq k (xe.den c.ρ) (Ar P el))) (N1:=N1++(CB c us++N2)) (ts:=[]) (vs:=[]) (xs:=[]) (N:=[]) p3 (by rw[AN.ax];exact p4) m2 (by rw[Fu];exact p6) p7 (by rw[List.size_toArray,YA _ _ _ (by rw[EM,Ew];omega),BL];exact p8) (λw hw=> ?_) ?_ ?_ .nil
   ·rw[Fu]at this;simpa using this
   ·rcases List.mem_or_eq_of_mem_set hw with hw|rfl
    ·exact p9 w hw
    ·rw[hz,YA _ _ _ (by rw[q3,Gh];exact hle)];exact Gh
   ·simp only[Fu,List.toList_toArray];rw[kV _ _ _ _ (by rw[EM];omega) (by rw[Ew];omega)];intro u hu;unfold setVs at hu;simp only[Ae]at hu;rcases hu with(hu|hu)|hu
    ·exact p10 u (BD hu)
    ·exact q2 u hu
    ·exact p10 u (BR hu)
   ·simp only[Fu,List.toList_toArray];rw[kV _ _ _ _ (by rw[EM];omega) (by rw[Ew];omega),E4,AN.ax];refine DC.setVs (p13.frame λq hq=>Bl q (.inr (by simp[hq]))) ?_ ?_
    ·rw[EM];exact p14.frame λq hq=>Bl q (.inr (by simp[hq]))
    ·rw[EM,H8];exact q1.frame λq hq=>Bl q (.inl hq)
theorem zyQ(h:BB P c n nx sl hp a sl0 hp0 o gs){t:TypeId}{x y:Operand}(ho:o.op= .store t x y){b g:Nat}{ix:E}{sz k:Nat}{s:SV}(A3: ¬ ∃e z g c d,look hp0 gs b=some (.row e z g c d))(hx:BU sl0 gs x=some (.du b g ix sz k))(hy:BU sl0 gs y=some s)
  (he:Pb P hp0 gs t (.du b g ix sz k) s=some e) (hc:∀q∈e.dn,Cn.den c.ρ q):AK P o c n nx sl hp gs a e:=by
 have r1:=h.dy hx (by simp[ho,Op.operands]);have r2:=h.dy hy (by simp[ho,Op.operands]);simp only[Pb]at he;split at he
 ·rename_i hl;exact absurd ⟨_,_,_,_,_,hl⟩ A3
 ·rename_i el sz' l g' ep c0 hl;split at he
  ·rename_i hh;obtain⟨rfl,rfl,rfl,BC,hle,Ga,EF⟩:=hh;split at he
   ·rename_i xe us ck CJ;split at he
    ·cases he
    rename_i D9;simp only[Bool.or_eq_true,Bk,not_or,Bool.not_eq_false,Bool.not_eq_true,List.contains_eq_mem,decide_eq_false_iff_not]at D9;simp only[Af]at he;subst he;obtain⟨e1,e2,e3,e4,e5⟩:=h.eh b _ (Di hl h.gs);refine zzP h ho r1 r2 e1 e2 e3 BC hle (by simpa using Ga) EF CJ hc (Uk D9.1) D9.2 λkk kv VJ=> ?_;generalize a.eval x=v at r1;cases r1 with
    |du k1 k2 k3 k4 k5 _=>
     rw[k3]at VJ;cases VJ;obtain⟨d1,d2,⟨a9,d3,_⟩|⟨g9,cap9,C,ys,N,d3,d4,d5,d6,d7,d8,d9,d10,d11,d12⟩⟩:=e4.inv
     ·rw[k2]at d3;cases d3;omega
     ·rw[AN.ax]at d2 d12;obtain⟨N1,N2,N3,rfl,s1,s2,s3⟩:=d12.split (kv.toNat*sz+k) (P.cellsOf t);have BX:=h.rel.gw.nodup b;simp only[GI.own,e5,AH,d5]at BX;refine⟨g9,cap9,C,ys,N1,N3,d3,d4,d1,d2,d6,d7,d8,d9,d10,d11,?_,λq hq=> ?_,s1,s3⟩
      ·refine List.Sublist.nodup (List.Sublist.cons_cons _ ?_) BX;rw[List.append_assoc];exact List.Sublist.append (List.Sublist.refl _) (List.sublist_append_right _ _)
      ·rw[d5];simp only[Ag,Ae]at hq ⊢;rcases hq with hq|hq|hq
       ·exact .inl hq
       ·exact .inr (.inl (.inl hq))
       ·exact .inr (.inr hq)
   ·cases he
  ·cases he
 ·rename_i el sz' l g' ep c0 i' o' u' hl;split at he
  ·rename_i hh;obtain⟨rfl,rfl,rfl,BC,rfl,hib,hle,Vw,EF,Ga⟩:=hh;have EF:Ar P t=false:=by simpa using EF
   split at he
   ·rename_i xe us ck CJ;split at he
    ·cases he
    rename_i D9;simp only[Bool.or_eq_true,Bk,not_or,Bool.not_eq_false,Bool.not_eq_true,List.contains_eq_mem,decide_eq_false_iff_not]at D9;simp only[Af]at he;subst he;obtain⟨e1,e2,e3,⟨m,cap,C,ys,kk,kv,N1,N2,p1,p2,p3,p4,p5,p6,p7,p7',p8,p9,p10,p11,p12,p13,p14,p15,p16,p17,p18⟩,e5⟩:=h.eh b _ (Di hl h.gs);refine zzP h ho r1 r2 e1 e2 e3 BC (by omega) (Ga.imp id λhh=>⟨hh,EF⟩) (.inr Vw) (by rw[Vw];exact CJ) hc (Uk D9.1) D9.2 λkk' kv' VJ=> ?_;rw[E.ay c.ρ _ _ hib,p3]at VJ;cases VJ;have BX:=h.rel.gw.nodup b;simp only[GI.own,e5,AH,p14]at BX;exact⟨m,cap,C,ys,N1,N2,p1,p2,p7,p7',p8,p9,p10,p11,p12,p13,BX,λq hq=>by rw[p14];exact hq,p17,by rw[Vw];exact p18⟩
   ·cases he
  ·cases he
 ·cases he
end
section
variable {P:Program} {c:Cx} {n nx:Nat} {sl sl0:Nat->SV} {hp hp0:Nat->Option Aj} {a:Act} {o:Oper} {gs:Gd} {e:Bf} {sg:BW} {nv:Nat}
theorem zI9{w:World}{ety sz:Nat}{p:Option Addr}{m r:Nat}{x:AV}{top N:List Nat}(h:Df w ety sz (.slice p m r) x top N):∃xs,x= .sl xs/\xs.length=m/\m<=r/\0<sz/\(∀y∈xs,y.cells.length=sz)/\
  ((xs=[]/\m=0/\r=0/\top=[]/\N=[])\/ ∃g C,p=some ⟨g,0,none⟩/\r<=maxLen/\w.heap[g]?=some (.cells C ety (0,0))/\C.size=r*sz/\top=[g]/\(∀u∈C.toList.take (m*sz),u.oneCell'=true)/\Rd w (C.toList.take (m*sz)) (AA xs) N):=by
 obtain⟨xs,rfl,h2,h3,⟨rfl,⟨a,hv⟩,rfl,rfl⟩|⟨g,cap',C,hv,h6,h7,h8,h9,rfl,E1,EE⟩⟩:=h
 ·cases hv;exact⟨[],rfl,rfl,AF _,h3,by simp, .inl ⟨rfl,rfl,rfl,rfl,rfl⟩⟩
 ·cases hv;exact⟨xs,rfl,rfl,h6,h3,h2, .inr ⟨g,C,rfl,h7,h8,h9,rfl,E1,EE⟩⟩
theorem zB8(h:BB P c n nx sl hp a sl0 hp0 o gs){t:TypeId}{x:Operand}{lo hi mx:Option Operand}(ho:o.op= .slice t x lo hi mx){s:SV}(hs:BU sl0 gs x=some s){l' h' m':Option SV}(BO:Jp (BU sl0 gs) lo=some l')(LH:Jp (BU sl0 gs) hi=some h')(Dq:Jp (BU sl0 gs) mx=some m')(he:rF P hp0 gs t s l' h' m'=some e)(hc:∀q∈e.dn,Cn.den c.ρ q):AK P o c n nx sl hp gs a e:=by cases(show(none:Option Bf)=some e from he)
theorem zHi(h:BB P c n nx sl hp a sl0 hp0 o gs){x:Operand}{tx:TypeId}{cl:Call}(ho:o.op= .call cl)(AG:cl.callee= .builtin .clear)(Dp:cl.args.toList=[x])(Er:cl.argTypes.toList=[tx]){s:SV}(hs:BU sl0 gs x=some s)(he:zF2 P hp0 gs tx s=some e)(hc:∀q∈e.dn,Cn.den c.ρ q):AK P o c n nx sl hp gs a e:=by cases(show(none:Option Bf)=some e from he)
end
section
variable {P:Program} {c:Cx} {n nx:Nat} {sl sl0:Nat->SV} {hp hp0:Nat->Option Aj} {a:Act} {o:Oper} {gs:Gd} {e:Bf} {sg:BW} {nv:Nat}
theorem zIH(l:List DT){n i:Nat}(hi:i<=n):Cc n l=Cc i l++Cc (n-i) l:=by rw[<-Q1];congr 1;omega
theorem zGH{K:Nat}{xs:List AV}(h:∀y∈xs,y.cells.length=K){i:Nat}(hi:i<=xs.length):AA (xs.take i)=(AA xs).take (i*K)/\AA (xs.drop i)=(AA xs).drop (i*K):=by
 have l1:(AA (xs.take i)).length=i*K:=by rw[Li _ λy hy=>h y (BD hy),AI,Nat.min_eq_left hi]
 have e:AA xs=AA (xs.take i)++AA (xs.drop i):=by rw[<-jK,B6]
 rw[e,<-l1,List.take_left,List.drop_left];exact⟨rfl,rfl⟩
theorem DC.pb{w:World}{xs:List AV}{l:List DT}{K:Nat}{cs:List Value}{N:List Nat}(hK:l.length=K)(h:DC w (Cc xs.length l) cs (AA xs) N)(hx:∀y∈xs,y.cells.length=K){i:Nat}(hi:i<=xs.length):
  ∃N1 N2,N=N1++N2/\DC w (Cc i l) (cs.take (i*K)) (AA (xs.take i)) N1/\DC w (Cc (xs.length-i) l) (cs.drop (i*K)) (AA (xs.drop i)) N2:=by
 have hlen:=h.len;have t1:=zGH hx hi;have hmul:=By K hi;rw[zIH l hi,<-B6 (i*K) cs,<-B6 (i*K) (AA xs)]at h;rw[Pc,hK]at hlen;obtain⟨N1,N2,rfl,h1,h2⟩:=DC.gj (by rw[Pc,hK,AI];omega) (by rw[Pc,hK,AI];omega) h;exact⟨N1,N2,rfl,by rw[t1.1];exact h1,by rw[t1.2];exact h2⟩
theorem zDX(h:BB P c n nx sl hp a sl0 hp0 o gs){t:TypeId}{x:Operand}{lo hi mx:Option Operand}(ho:o.op= .slice t x lo hi mx){s:SV}(hs:BU sl0 gs x=some s){l' h' m':Option SV}(BO:Jp (BU sl0 gs) lo=some l')(LH:Jp (BU sl0 gs) hi=some h')(Dq:Jp (BU sl0 gs) mx=some m')(he:Z9 P hp0 gs nx t s l' h' m'=some e)(hc:∀q∈e.dn,Cn.den c.ρ q):AK P o c n nx sl hp gs a e:=by
 have hm:x∈o.op.operands:=by simp[ho,Op.operands]
 have PQ:∀y,lo=some y->y∈o.op.operands:=λy hy=>by simp[ho,Op.operands,hy]
 have ME:∀y,hi=some y->y∈o.op.operands:=λy hy=>by simp[ho,Op.operands,hy]
 have hx:=h.dy hs hm;have ival:∀{x:E} {kk:IntKind} {k:Int} {v:Value},SR c [.e x] [v]->x.den c.ρ= .int kk k->v= .int kk k:=by
  intro x kk k v hr hx;cases hr with
  |e h1 _ _=>exact(Hg h1 hx).1
 have ex:(execOp a.eval o).run P c.w=((Instr.sliceAt t (a.eval x) (lo.map a.eval) (hi.map a.eval) (mx.map a.eval)).run P c.w).andThen λv w=> .ok (.value v) w:=by simp[execOp,ho]
 unfold Z9 at he;split at he
 ·rename_i el0 b g BJ;have hu:=L1 BJ;split at he
  ·cases he
  rename_i BC;have BC:D0 P el0=true:=by simpa using BC
  have PR:mx=none:=by
   rcases Ll Dq with⟨hh,_⟩|⟨_,_,_,_,hh⟩
   ·exact hh
   ·cases hh
  subst PR;split at he
  ·rename_i el z dl g' ep c0 hl;split at he
   ·cases he
   rename_i AU;simp only[not_or,Decidable.not_not,ne_eq]at AU;obtain⟨rfl,rfl,rfl⟩:=AU;obtain⟨q1,q2,_,q4,_⟩:=h.eh b _ (Di hl h.gs);generalize hv:a.eval x=v at hx ex;cases hx with
   |own k1 k2 k3=>
    rename_i p m r;rw[k2]at q4;obtain⟨_,q3,_⟩:=q4.ownRow;obtain⟨xs,Db,MQ,hmr,BI,AG,Bu⟩:=zI9 q3;split at he
    ·rename_i l;simp only[Af]at he;subst he;obtain⟨ka,ai,kb,bi,mm,d1,d2,d3,d4,d5,d6⟩:Cn.den c.ρ (.win c0 l (.len c0)):=Cq hc;have hmm:mm=(m:Int):=by rw[Db]at d3;simp only[AV.len,AV.int.injEq,true_and]at d3;omega
     obtain⟨an,rfl⟩:=Int.eq_ofNat_of_zero_le d4;obtain⟨ol,Ca,hol⟩:∃ol,lo=some ol/\BU sl0 [] ol=some (.e l):=by
      rcases Ll BO with⟨_,hh⟩|⟨ol,sl',PG,Gc,nV⟩
      ·cases hh
      ·cases nV;exact⟨ol,PG,Gc⟩
     have PH:hi=none:=by
      rcases Ll LH with⟨hh,_⟩|⟨_,_,_,_,hh⟩
      ·exact hh
      ·cases hh
     subst Ca;subst PH;have VO:=ival (h.dy hol (PQ _ rfl)) d1;have hle:an<=m:=by omega
     have A7:=zK (P:=P) (w:=c.w) (lo:=(some ol).map a.eval) (hi:=(none:Option Operand).map a.eval) hu BC p m r an m (.inr ⟨ka,by rw[Option.map_some,VO]⟩) (.inl ⟨rfl,rfl⟩) hle (AF _) hmr;have:=SR.wown (c:=c) (lo:=l) (sz:=P.cellsOf el) (q':=if r=an then p else p.map (·.add (an*P.cellsOf el))) (r:=r-an) k1 k2 d1 d4 (by omega) (λAQ=>by
      rcases Bu with⟨_,CG,_⟩|⟨g9,C,rfl,_⟩
      ·omega
      ·exact⟨g9,rfl,by rw[if_neg (by omega)];simp[Addr.add_lit],by simp⟩) .nil
     refine AK.pure h (v:=sliced p an m r (P.cellsOf el)) ?_ (by simpa[sliced]using this) rfl;rw[ex];show Result.andThen (Sem.run P (Instr.sliceAt t (.slice p m r) ((some ol).map a.eval) ((none:Option Operand).map a.eval) none) c.w) _=_;rw[A7];rfl
    ·cases he
  ·rename_i el z dl g' ep c0 kE hl;split at he
   ·cases he
   rename_i AU;simp only[not_or,Decidable.not_not,ne_eq]at AU;obtain⟨rfl,rfl,rfl⟩:=AU;obtain⟨q1,q2,_,⟨p',cap',ys,kk,kv,e1,e2,e3,e4,e5,e6⟩,_⟩:=h.eh b _ (Di hl h.gs);generalize hv:a.eval x=v at hx ex;cases hx with
   |own k1 k2 k3=>
    rename_i p m r;rw[k2]at e1;simp only[Value.slice.injEq]at e1;obtain⟨rfl,rfl,rfl⟩:=e1;split at he
    ·rename_i hb;split at he
     ·rename_i J9;rw[<-E.ay c.ρ _ _ J9]at e3;simp only[Af]at he;subst he;obtain⟨oh,PH,hoh⟩:∃oh,hi=some oh/\BU sl0 [] oh=some (.e hb):=by
       rcases Ll LH with⟨_,hh⟩|⟨ol,sl',PG,Gc,nV⟩
       ·cases hh
       ·cases nV;exact⟨ol,PG,Gc⟩
      have Ca:lo=none:=by
       rcases Ll BO with⟨hh,_⟩|⟨_,_,_,_,hh⟩
       ·exact hh
       ·cases hh
      subst Ca;subst PH;have VO:=ival (h.dy hoh (ME _ rfl)) e3;have A7:=zK (P:=P) (w:=c.w) (lo:=(none:Option Operand).map a.eval) (hi:=(some oh).map a.eval) hu BC p ys.length r 0 kv (.inl ⟨rfl,rfl⟩) (.inr ⟨kk,by rw[Option.map_some,VO]⟩) (Nat.zero_le _) e4 e5;have Dh:sliced p 0 kv r (P.cellsOf el)= .slice p kv r:=by
       obtain⟨_,_,⟨a9,h9,_⟩|⟨g9,cap,C,zs,N1,h9,_⟩⟩:=e6.inv
       ·simp only[Value.slice.injEq]at h9;obtain⟨rfl,_,rfl⟩:=h9;simp[sliced]
       ·simp only[Value.slice.injEq]at h9;obtain⟨rfl,_,_⟩:=h9;unfold sliced;split<;>simp[Addr.add_lit]
      rw[Dh]at A7;have Ec:(execOp a.eval o).run P c.w= .ok (.value (.slice p kv r)) c.w:=by rw[ex];show Result.andThen (Sem.run P (Instr.sliceAt t (.slice p ys.length r) ((none:Option Operand).map a.eval) ((some oh).map a.eval) none) c.w) _=_;rw[A7];rfl
      have pO:(E.win c0 (.int .i64 0) hb).den c.ρ= .sl (ys.take kv):=by simp only[E.den,e2,e3,AV.win];simp
      have Cs:CB c [b]=(c.G b).top:=by simp[CB]
      have BX:=h.rel.gw.nodup b;simp only[GI.own]at BX;exact AK.ij h (T:=[b]) (by simp) (by simpa using⟨_,q1⟩) Ec (Mod.refl _ _) (top:=(c.G b).top) (List.nodup_append.1 BX).1 (λq hq=>⟨.inl (by rw[Cs];exact hq),h.rel.gw.inb b q (by simp[GI.own,hq])⟩) (by rw[pO];exact e6)
     ·cases he
    ·cases he
  ·cases he
 ·cases he
theorem zEC{x y:Operand}{tx:TypeId}{cl:Call}(ho:o.op= .call cl)(AG:cl.callee= .builtin .append)(Dp:cl.args.toList=[x,y])(Er:cl.argTypes.toList=[tx,tx])
  {el:TypeId} (BJ:P.underlying tx=some (.slice el)) (hz:Jj P el=true) {l:List DT} (hl:l.length=P.cellsOf el) {TT:List Nat} (Zs:TT.Nodup) (Mq:∀b∈TT,b<c.w.heap.size) {N2:List Nat} (Ps:N2.Nodup) (KI:∀b∈N2,b<c.w.heap.size) (Vc:∀b∈N2,b∉TT)
  {ys:List AV} {q:Option Addr} {r:Nat} {news:List Value} (Dl:a.eval y= .slice q ys.length r) (DA:Src c.w (P.cellsOf el) q ys.length news) (PC:DC c.w (Cc ys.length l) news (AA ys) N2) (Kh:∀y∈ys,y.cells.length=P.cellsOf el) (PS:∀u∈news,u.oneCell'=true)
  {X:AV} {v:Value} (hv:a.eval x=v) (A3:DC c.w [.row el (P.cellsOf el) (AN.of l)] [v] [X] TT) {xs:List AV} (hX:X= .sl xs) (N7:((xs.length:Int)+ys.length)*P.bytesOf el<=140737488355328) (ZI:(xs.length:Int)+ys.length<=140737488355328):
  ∃v' w' top,(execOp a.eval o).run P c.w= .ok (.value v') w'/\Mod TT c.w w'/\top.Nodup/\(∀b∈top,(b∈TT\/b∈N2\/c.w.heap.size<=b)/\b<w'.heap.size)/\DC w' [.row el (P.cellsOf el) (AN.of l)] [v'] [.sl (xs++ys)] top:=by
 have Am:cl.args= #[x,y]:=by apply Array.ext';simp[Dp]
 have Iq:cl.argTypes= #[tx,tx]:=by apply Array.ext';simp[Er]
 obtain⟨i,z,hi,Ho,DE,BI,CL,FF⟩:=Nd hz;obtain⟨d1,d2,Bu⟩:=A3.inv;rw[AN.ax]at d2 Bu;subst hX;obtain⟨old,N1,hold,FW,nL,Hu,Da,LG,Pr⟩:∃(old:List Value) (N1:List Nat),old.length=xs.length*i.size/\((xs.length=0/\ ∃q,v= .slice q 0 0)\/ ∃g cap C,v= .slice (some ⟨g,0,none⟩) xs.length cap/\xs.length<=cap/\cap<=maxLen/\c.w.heap[g]?=some (.cells C el (0,0))/\C.size=cap*i.size/\old=C.toList.take (xs.length*i.size)/\(g∈TT/\g∉N1))/\
   DC c.w (Cc xs.length l) old (AA xs) N1/\(∀y∈xs,y.cells.length=P.cellsOf el)/\(∀u∈old,u.oneCell'=true)/\(∀b∈N1,b∈TT)/\N1.Nodup:=by
  rcases Bu with⟨p,rfl,EU,rfl⟩|⟨g9,cap,C,xs',N1,rfl,EU,rfl,h6,h7,h8,h9,E1,EE,H4⟩
  ·cases EU;exact⟨[],[],by simp, .inl ⟨rfl,p,rfl⟩,by simpa[Cc,AA]using DC.nil,by simp,by simp,by simp,by simp⟩
  ·cases EU;rw[List.nodup_cons]at Zs;refine⟨_,N1,?_, .inr ⟨g9,cap,C,rfl,h7,h8,h6,by rw[<-CL];exact h9,rfl,by simp,Zs.1⟩,by rw[<-CL];exact H4,E1,by rw[<-CL];exact EE,λb hb=>by simp[hb],Zs.2⟩;have e9:C.toList.length=cap*i.size:=by rw[<-CL,<-h9];simp
   rw[AI,e9];exact Nat.min_eq_left (By _ h7)
 have CF:(xs.length+ys.length)*i.bytes<=140737488355328:=by
  rw[FF]at N7;have h9:(((xs.length+ys.length)*i.bytes:Nat):Int)<=140737488355328:=by rw[Int.natCast_mul,Int.natCast_add];exact N7
  omega
 have FE:xs.length+ys.length<=140737488355328:=by omega
 rw[CL]at DA;obtain⟨v',w',A7,A2⟩:=UD (P:=P) c.w tx o.type el i z BJ hi Ho DE BI (λg9=>g9∈TT/\g9∉N1) v xs.length old hold FW q ys.length r news DA (by simp only[maxLen];omega) CF;have Ec:(execOp a.eval o).run P c.w= .ok (.value v') w':=by simp[execOp,ho,resolve,AG,Am,Iq,invoke,builtin,hv,Dl,A7]
 rcases A2 with⟨rfl,rfl,CG⟩|⟨g9,cap,C,rfl,h1,h2,h3,h4,h5,h6,h7⟩
 ·have IZ:ys=[]:=List.eq_nil_of_length_eq_zero CG;subst IZ;refine⟨_,_,TT,Ec,Mod.refl _ _,Zs,λb hb=>⟨.inl hb,Mq b hb⟩,?_⟩;rw[AH];exact A3
 ·have JC:(g9∈TT\/c.w.heap.size<=g9)/\g9∉N1/\g9∉N2:=by
   rcases h7 with⟨rfl,_⟩|⟨hg,CN⟩
   ·refine⟨.inr (AF _),λhh=> ?_,λhh=> ?_⟩
    ·have:=Mq _ (LG _ hh);omega
    ·have:=KI _ hh;omega
   ·exact⟨.inl hg,CN,λhh=>Vc _ hh hg⟩
  have Bl:∀b∈N1++N2,w'.heap[b]?=c.w.heap[b]?:=λb hb=>by
   have AQ:b<c.w.heap.size:=by
    rcases Ae.1 hb with hb|hb
    ·exact Mq b (LG b hb)
    ·exact KI b hb
   refine h6.block b AQ λhh=> ?_;cases hh;rcases Ae.1 hb with hb|hb
   ·exact JC.2.1 hb
   ·exact JC.2.2 hb
  refine⟨_,w',g9::(N1++N2),Ec,zwH h6 λg hg=> ?_,?_,λb hb=> ?_,?_⟩
  ·cases hg;exact JC.1
  ·refine List.nodup_cons.2 ⟨λhh=> ?_,List.nodup_append.2 ⟨Pr,Ps,λp hp q hq e=>Vc q hq (e▸LG p hp)⟩⟩;rcases Ae.1 hh with hh|hh
   ·exact JC.2.1 hh
   ·exact JC.2.2 hh
  ·rcases Ag.1 hb with rfl|hb
   ·exact⟨JC.1.elim .inl λh=> .inr (.inr h),Dm h3⟩
   ·rcases Ae.1 hb with hb|hb
    ·exact⟨.inl (LG b hb),Nat.lt_of_lt_of_le (Mq b (LG b hb)) h6.size⟩
    ·exact⟨.inr (.inl hb),Nat.lt_of_lt_of_le (KI b hb) h6.size⟩
  ·have hlen:(xs++ys).length=xs.length+ys.length:=Aq;rw[CL]at d1 d2 Hu Kh ⊢;have:=DC.row (w:=w') (e:=el) (z:=i.size) (l:=AN.of l) (g:=g9) (cap:=cap) (C:=C) (ys:=xs++ys) (N1:=N1++N2) (ts:=[]) (vs:=[]) (xs:=[]) (N:=[]) d1 (by rw[AN.ax];exact d2) h3 (by rw[hlen];exact h1) h2 h4 (λw hw=> ?_) (by
     rw[hlen,h5];intro u hu;rcases Ae.1 hu with hu|hu
     ·exact Da u hu
     ·exact PS u hu) (by
     rw[hlen,h5,jK,Q1,AN.ax];exact(nL.app PC).frame Bl) .nil
   ·rw[hlen]at this;simpa using this
   ·rcases Ae.1 hw with hw|hw
    ·exact Hu w hw
    ·exact Kh w hw
theorem zB5(h:BB P c n nx sl hp a sl0 hp0 o gs){x y:Operand}{tx ty:TypeId}{cl:Call}(ho:o.op= .call cl)(AG:cl.callee= .builtin .append)(Dp:cl.args.toList=[x,y])(Er:cl.argTypes.toList=[tx,ty])
  {s1 s2:SV} (BN:BU sl0 gs x=some s1) (Ba:BU sl0 gs y=some s2) (he:mD P hp0 gs nx tx ty s1 s2=some e) (hc:∀q∈e.dn,Cn.den c.ρ q):AK P o c n nx sl hp gs a e:=by
 have Am:cl.args= #[x,y]:=by apply Array.ext';simp[Dp]
 have DP:x∈o.op.operands:=by simp[ho,Op.operands,Call.operands,AG,Am]
 have C8:y∈o.op.operands:=by simp[ho,Op.operands,Call.operands,AG,Am]
 unfold mD at he;split at he
 ·cases he
 rename_i K5;have K5:tx=ty:=by simpa using K5
 subst K5;split at he
 ·rename_i el e' z dl t g2 b g lo z' BJ D7;have KQ:=L1 BJ;split at he
  ·cases he
  rename_i AU;simp only[not_or,Bk,Bool.not_eq_false,ne_eq,Decidable.not_not]at AU;obtain⟨hz,rfl,rfl,rfl,ZK⟩:=AU;obtain⟨_,_,l,KX,Fu⟩:=YO BJ D7;simp only[DT.row.injEq,true_and]at KX;subst KX;rw[AN.ax]at he;have r1:=h.dy BN DP;have r2:=h.dy Ba C8;split at he
  ·rename_i e2 z2 l2 g2' ep2 c2 e3 z3 l3 g3 ep c0 AQ hlb;split at he
   ·rename_i hh;obtain⟨rfl,rfl,FE,rfl,rfl,rfl,GK,rfl⟩:=hh;have FE:=AN.ik FE;have GK:=AN.ik GK;subst FE;subst GK;simp only[Af]at he;subst he;obtain⟨qt1,qt2,qt3,qt4,qt5⟩:=h.eh t _ (Di AQ h.gs);obtain⟨qb1,qb2,qb3,qb4,qb5⟩:=h.eh b _ (Di hlb h.gs);obtain⟨ka,ai,kb,bi,mm,d1,d2,d3,d4,d5,d6⟩:Cn.den c.ρ (.win c0 lo (.len c0)):=hc _ (by simp);obtain⟨m1,m2,rr1,rr2,rr3,rr4⟩:Cn.den c.ρ (.room c2 (.win c0 lo (.len c0)) (P.bytesOf e3)):=hc _ (by simp);generalize hvx:a.eval x=v at r1;generalize hvy:a.eval y=v2 at r2;cases r1 with
    |own k1 k2 k3=>
     cases r2 with
     | @wown _ _ _ _ qq nn cap qq' r kk kI _ _ j1 j2 j3 j4 j5 j6 j7=>
      have htd:(c.G t).top.Nodup:=by have:=h.rel.gw.nodup t;simp only[GI.own]at this;exact(List.nodup_append.1 this).1
      have nA:(c.G b).top.Nodup:=by have:=h.rel.gw.nodup b;simp only[GI.own]at this;exact(List.nodup_append.1 this).1
      have pJ:∀q∈(c.G t).top,q<c.w.heap.size:=λq hq=>h.rel.gw.inb t q (by simp[GI.own,hq]);have Mw:∀q∈(c.G b).top,q<c.w.heap.size:=λq hq=>h.rel.gw.inb b q (by simp[GI.own,hq]);have IT:∀q∈(c.G b).top,q∉(c.G t).top:=λq hq Hq=>h.rel.gw.dt b t (λe=>ZK e.symm) q (by simp[GI.own,hq]) (by simp[GI.own,Hq]);obtain⟨z1,z2',Bu⟩:=qb4.inv;rw[AN.ax]at z2' Bu;obtain⟨an,rfl⟩:=Int.eq_ofNat_of_zero_le j4;obtain⟨ys,news,NB,DJ,hyl,DA,PC,Kh,PS,Zr,topb,F0,Pt,oY⟩:∃(ys:List AV) (news:List Value) (NB:List Nat),(E.win c0 lo (.len c0)).den c.ρ= .sl ys/\ys.length=nn-an/\Src c.w (P.cellsOf e3) qq' ys.length news/\DC c.w (Cc ys.length l3) news (AA ys) NB/\(∀y∈ys,y.cells.length=P.cellsOf e3)/\(∀u∈news,u.oneCell'=true)/\(∀q∈NB,q∈(c.G b).top)/\
        ∃topb:List Nat,(∀q∈topb,q∈(c.G b).top)/\(topb++NB).Nodup/\ ∀w':World,(∀q∈topb,w'.heap[q]?=c.w.heap[q]?)-> ∃(p:Option Addr) (cp:Nat) (zs:List AV),c.H b g= .slice p zs.length cp/\c0.den c.ρ= .sl zs/\an<=zs.length/\zs.length<=cp/\DC w' [.row e3 (P.cellsOf e3) (AN.of l3)] [.slice p an cp] [.sl (zs.take an)] topb:=by
       rcases Bu with⟨a9,hH,EU,Oc⟩|⟨g9,cp,C,zs,N1,hH,EU,Oc,h6,h7,h8,h9,E1,EE,H4⟩
       ·rw[j2]at hH;simp only[Value.slice.injEq]at hH;obtain⟨rfl,rfl,rfl⟩:=hH;have Pw:an=0:=by omega
        subst Pw;have Og:(E.win c0 lo (.len c0)).den c.ρ= .sl []:=by simp only[E.den,EU,j3,AV.win,AV.len];simp
        refine⟨[],[],[],Og,by simp,?_,by simpa[Cc,AA]using DC.nil,by simp,by simp,by simp,[],by simp,by simp,λw' _=>⟨qq,0,[],by rw[j2];rfl,EU,by simp,by simp, .void z1 (by rw[AN.ax];exact z2') .nil⟩⟩;cases qq' with
        |none=>exact .inl ⟨rfl,rfl,rfl⟩
        |some ad=>exact .inr ⟨ad,rfl,by simp,by simp,by simp⟩
       ·rw[j2]at hH;simp only[Value.slice.injEq]at hH;obtain⟨rfl,rfl,rfl⟩:=hH;have hle:an<=zs.length:=by omega
        obtain⟨NA,NB,hN,c1,c2'⟩:=H4.pb z2' E1 hle;have hmul:=By (P.cellsOf e3) hle;have Fb:=By (P.cellsOf e3) h7;have Ew:C.toList.length=cap*P.cellsOf e3:=by simpa using h9
        have Og:(E.win c0 lo (.len c0)).den c.ρ= .sl (zs.drop an):=by simp only[E.den,EU,j3,AV.win,AV.len];simp
        have PB:(zs.drop an).length=zs.length-an:=Br;rw[Oc]at nA;rw[hN]at nA;refine⟨zs.drop an,(C.toList.take (zs.length*P.cellsOf e3)).drop (an*P.cellsOf e3),NB,Og,PB,?_,by rw[PB];exact c2',λy hy=>E1 y (BR hy),λu hu=>EE u (BR hu),λq hq=>by rw[Oc,hN];simp[hq],g9::NA,λq hq=>by rw[Oc,hN];rcases Ag.1 hq with rfl|hq<;>simp_all,by simpa using nA,λw' hw'=>⟨some ⟨g9,0,none⟩,cap,zs,by rw[j2],EU,hle,h7,?_⟩⟩
        ·rw[PB];by_cases AQ:an<zs.length
         ·obtain⟨b9,hb9,Hq,_⟩:=j6 (by omega);cases hb9;subst Hq;refine .inr ⟨_,rfl,?_,λj u hj=> ?_,λu hu=>EE u (BR hu)⟩
          ·rw[Br,AI,Ew,Nat.min_eq_left Fb,Nat.sub_mul]
          ·rw[Addr.add_lit,EO h6];rw[List.getElem?_drop,List.getElem?_take]at hj;split at hj
           ·rw[Array.getElem?_toList]at hj;simpa using hj
           ·cases hj
         ·have:zs.length-an=0:=by omega
          rw[this];have e0:(C.toList.take (zs.length*P.cellsOf e3)).drop (an*P.cellsOf e3)=[]:=by
           apply List.drop_eq_nil_of_le;rw[AI];have:zs.length=an:=by omega
           rw[this];omega
          rw[e0];cases qq' with
          |none=>exact .inl ⟨rfl,rfl,rfl⟩
          |some ad=>exact .inr ⟨ad,rfl,by simp,by simp,by simp⟩
        ·have NW:(zs.take an).length=an:=by rw[AI];omega
         have e5:C.toList.take (an*P.cellsOf e3)=(C.toList.take (zs.length*P.cellsOf e3)).take (an*P.cellsOf e3):=by rw[List.take_take,Nat.min_eq_left hmul]
         have:=DC.row (w:=w') (e:=e3) (z:=P.cellsOf e3) (l:=AN.of l3) (g:=g9) (cap:=cap) (C:=C) (ys:=zs.take an) (N1:=NA) (ts:=[]) (vs:=[]) (xs:=[]) (N:=[]) z1 (by rw[AN.ax];exact z2') (by rw[hw' g9 (by simp)];exact h6) (by rw[NW];omega) h8 h9 (λy hy=>E1 y (BD hy)) (by
           rw[NW,e5];intro u hu;exact EE u (BD hu)) (by
           rw[NW,e5,AN.ax];exact c1.frame λq hq=>hw' q (by simp[hq])) .nil
         rw[NW]at this;simpa using this
      have mO:NB.Nodup:=(List.nodup_append.1 Pt).2.1;obtain⟨xs,Db⟩:∃xs,c2.den c.ρ= .sl xs:=by
       obtain⟨_,_,⟨_,_,hh,_⟩|⟨_,_,_,zs,_,_,hh,_⟩⟩:=qt4.inv
       ·exact⟨_,hh⟩
       ·exact⟨_,hh⟩
      have hlenE:(nn:Int)-(an:Int)=(ys.length:Int):=by omega
      rw[Db]at rr1;rw[DJ]at rr2;simp only[AV.len,AV.int.injEq,true_and]at rr1 rr2;have Dl:a.eval y= .slice qq' ys.length r:=by rw[hvy];congr 1;omega
      obtain⟨v',w',top,A7,Bg,We,Fh,Ka⟩:=zEC (c:=c) (o:=o) (a:=a) ho AG Dp Er KQ hz Fu htd pJ mO (λq hq=>Mw q (Zr q hq)) (λq hq=>IT q (Zr q hq)) Dl DA PC Kh PS hvx (by rw[<-k2];exact qt4) Db (by rw[rr1,rr2];exact rr3) (by rw[rr1,rr2];exact rr4);have Ms:(E.app c2 (.win c0 lo (.len c0))).den c.ρ= .sl (xs++ys):=by have:(E.app c2 (.win c0 lo (.len c0))).den c.ρ=AV.app (c2.den c.ρ) ((E.win c0 lo (.len c0)).den c.ρ):=rfl;rw[this,Db,DJ];rfl
      have hUt:=h.rel.de _ _ qt1;have mX:=h.rel.de _ _ qb1;have Rr:=O8 h;have D9:nx≠t:=λe=>Rr (e▸hUt);have JI:nx≠b:=λe=>Rr (e▸mX);obtain⟨recs,A8⟩:∃recs:List AZ,recs=[⟨nx,some v',top, .deep e3 (P.cellsOf e3) l3 0 0 (.app c2 (.win c0 lo (.len c0)))⟩,⟨b,none,topb, .pre e3 (P.cellsOf e3) l3 g (ep+1) c0 lo⟩,⟨t,none,[], .dead⟩]:=⟨_,rfl⟩
      have EI:∀r∈recs,r=⟨nx,some v',top, .deep e3 (P.cellsOf e3) l3 0 0 (.app c2 (.win c0 lo (.len c0)))⟩\/r=⟨b,none,topb, .pre e3 (P.cellsOf e3) l3 g (ep+1) c0 lo⟩\/r=⟨t,none,[], .dead⟩:=λr hr=>by rw[A8]at hr;simpa using hr
      have hn:(recs.map AZ.tag).Nodup:=by rw[A8];simp[D9,JI];exact λe=>ZK e.symm
      have Bm:∀r∈recs,r.new.isSome=true-> ¬c.U r.tag:=λr hr hs=>by
       rcases EI r hr with rfl|rfl|rfl
       ·exact Rr
       ·cases hs
       ·cases hs
      have aft:=Cx.ff (w':=w') h.rel.de hn Bm;have MD:(⟨nx,some v',top, .deep e3 (P.cellsOf e3) l3 0 0 (.app c2 (.win c0 lo (.len c0)))⟩:AZ)∈recs:=by rw[A8];simp
      have PN:(⟨b,none,topb, .pre e3 (P.cellsOf e3) l3 g (ep+1) c0 lo⟩:AZ)∈recs:=by rw[A8];simp
      have VQ:(⟨t,none,[], .dead⟩:AZ)∈recs:=by rw[A8];simp
      have P5:∀q∈topb,q∉NB:=λq hq Hq=>(List.nodup_append.1 Pt).2.2 q hq q Hq rfl;obtain⟨q1,q2⟩:=h.rel.changes (recs:=recs) (gs:=[]) (hs:=(c.G t).top++(c.G b).top) (Fy _) (Bg.weaken λq hq=> .inl (by simp[hq])) hn Bm (λq hq=>by
        rcases Ae.1 hq with hq|hq
        ·exact⟨_,VQ,hq⟩
        ·exact⟨_,PN,hq⟩)
       (by
        rw[A8];simp only[List.flatMap_cons,List.flatMap_nil,AH];refine List.nodup_append.2 ⟨We,(List.nodup_append.1 Pt).1,λp hp q hq e=> ?_⟩;subst e;rcases(Fh p hp).1 with hh|hh|hh
        ·exact IT p (F0 p hq) hh
        ·exact P5 p hq hh
        ·have:=Mw p (F0 p hq);omega)
       (λr hr q hq=>by
        rcases EI r hr with rfl|rfl|rfl
        ·obtain⟨k1',k2'⟩:=Fh q hq;refine⟨?_,k2'⟩;rcases k1' with hh|hh|hh
         ·exact .inl (by simp[hh])
         ·exact .inl (by simp[Zr q hh])
         ·exact .inr hh
        ·exact⟨.inl (by simp[F0 q hq]),Nat.lt_of_lt_of_le (Mw q (F0 q hq)) Bg.size⟩
        ·cases hq)
       (λr hr=>by rcases EI r hr with rfl|rfl|rfl<;>(intros;simp))
       (λhk r hr=>by
        rcases EI r hr with rfl|rfl|rfl
        ·obtain⟨k1',k2',k3'⟩:=aft.new _ MD v' rfl;have kg:=aft.G _ MD;have ke:=aft.kt _ MD rfl;simp only at k1' k2' k3' kg ke;exact⟨k1',k2',ke,by rw[k3',kg,aft.w,aft.ρ,Ms];exact Ka,by rw[kg]⟩
        ·have kg:=aft.G _ PN;have ke:=aft.jh _ PN rfl;obtain⟨k1',k2'⟩:=aft.K b g qb1;simp only at kg ke;obtain⟨p,cp,zs,f1,f2,f3,f4,f5⟩:=oY w' λq hq=>Bg.block q (Mw q (F0 q hq)) (IT q (F0 q hq));refine⟨k1',λg' CN=>qb2 g' (aft.old b mX g' CN),by rw[ke,qb3],⟨p,cp,zs,kk,an,by rw[k2'];exact f1,by rw[aft.ρ];exact f2,by rw[aft.ρ];exact j3,f3,f4,by rw[aft.w,kg];exact f5⟩,by rw[kg]⟩
        ·have kg:=aft.G _ VQ;exact⟨by rw[kg],by rw[kg]⟩)
      intro next Q hk
      unfold Oper.wp;rw[A7,Oper.upon_value];obtain⟨k1',k2',k3'⟩:=aft.new _ MD v' rfl;simp only at k1' k3';obtain⟨p,m,r,rfl⟩:=Ka.head;have V2:(recs.map λr=>(r.tag,Dk [] r.cy))=(nx, .deep e3 (P.cellsOf e3) l3 0 0 (.app c2 (.win c0 lo (.len c0))))::(b, .pre e3 (P.cellsOf e3) l3 g (ep+1) c0 lo)::ES [t]:=by rw[A8];simp[Dk,ES]
      rw[V2]at q1;refine hk _ (c.fm w' _) ⟨rfl,rfl,rfl,rfl,λu hu=> ?_⟩ (q1.put (SR.own k1' k3' .nil) o.dst);rcases hu with hu|⟨r,hr,rfl⟩
      ·exact .inl hu
      ·rcases EI r hr with rfl|rfl|rfl
       ·exact .inr ⟨AF _,by simp[B1]⟩
       ·exact .inl mX
       ·exact .inl hUt
   ·cases he
  ·cases he
 ·cases he
end
section
variable {P:Program} {c:Cx} {n nx:Nat} {sl sl0:Nat->SV} {hp hp0:Nat->Option Aj} {a:Act} {o:Oper} {gs:Gd} {e:Bf} {sg:BW} {nv:Nat}
theorem sR{w:World}:∀(vs:List Value) {xs:List AV} {f:List Nat} (ts:List TypeId),Rd w vs xs f->ts.length<=vs.length->Eg P w ts [] [] vs xs f [] []
 | [],xs,f,ts,h,hl=>by have:ts=[]:=List.eq_nil_of_length_eq_zero (by simpa using hl);subst this;cases h;exact .nil
 |v::vs,[],f,ts,h,hl=>by have:=h.len;simp at this
 |v::vs,x::xs,f,ts,h,hl=>by
  obtain⟨f1,f2,rfl,h1,h2⟩:=h.dh;cases ts with
  |nil=>exact .free h1 (sR vs [] h2 (by simp))
  |cons t ts=>exact Eg.cons (h:=[]) ⟨h1,rfl⟩ (sR vs ts h2 (by simpa using hl))
theorem zOw(l:EL):EL.of (UI.go l)=l:=by
 induction l using EL.rec (motive_1:=λ_=>True)with
 |nil=>rfl
 |cons e es _ ih=>simp[UI.go,EL.of,ih]
 |_=>trivial
theorem zLl{w:World}{ts:List TypeId}{vs:List Value}{Bs:List AV}{f o:List Nat}(h:D4 P w ts [] vs Bs f o):Bs=[]:=by
 have key:∀(ts:List TypeId),BM ts []=false:=by
  intro ts
  induction ts with
  |nil=>rfl
  |cons t ts ih=>simp only[BM,List.headD_nil,Bool.false_or,List.tail_nil];exact ih
 exact(zsb h).2 (key ts)
theorem zIJ(t:TypeId):FL P t []=false:=by simp[FL]
theorem zu1(h:BB P c n nx sl hp a sl0 hp0 o gs){cl:Call}{fo:Operand}(ho:o.op= .call cl)(AG:cl.callee= .value fo){y:E}{sf:SV}(hf:BU sl0 gs fo=some sf)(hsf:∀v,SR c [sf] [v]-> ∃f,Rd c.w [v] [y.den c.ρ] f){as_:List SV}(has:cl.args.toList.mapM (BU sl0 gs)=some as_){t:TypeId}
  (he:UI P hp0 gs nv t y as_=some e) (Bp:∀c',e.call=some c'-> ∃r,c.ρ[nv]?=some r/\JZ (Cp P sg) c'.fn ((EL.of c'.args).den c.ρ) c.ρ r):AK P o c n nx sl hp gs a e:=by
 have oL:fo∈o.op.operands:=by simp[ho,Op.operands,Call.operands,AG]
 have oK:∀x∈cl.args.toList,x∈o.op.operands:=λx hx=>by
  have:x∈cl.args:=by simpa using hx
  simp[ho,Op.operands,Call.operands,AG,this]
 have Oa:=h.dy hf oL;have Am:=zC0 (a:=a) (λx hx s hs=>h.dy hs (oK x hx)) has;unfold UI at he;split at he
 ·cases he
 split at he
 ·cases he
 rename_i es JA;simp only[Af]at he;subst he;obtain⟨r,hr,g,caps,hy,K4,Fv⟩:=Bp _ rfl;rw[zOw]at K4;obtain⟨f1,p1,p2⟩:=Us h.eh h.gs Bb JA Am Bb (AF _);generalize nQ:a.eval fo=fv at Oa;obtain⟨_,k1⟩:=hsf _ Oa;obtain⟨capv,f2,rfl,Rv⟩:∃capv f2,fv= .func (.func g) #[] capv.toArray/\Rd c.w capv caps f2:=by
  rw[hy]at k1;cases k1 with
  |fn q1 _=>exact⟨_,_,rfl,q1⟩
 have P2:U1 P {c8:=[],res:=[]} g (es.den c.ρ++caps) r:=by unfold Cp at K4;rw[if_neg (by omega)]at K4;simpa using K4
 obtain⟨fn,JB,Ex,GQ,_,hlen,_,Gb⟩:=P2;have D1:=p1.app Rv;have EM:=D1.len;have Bp:=Gb c.w _ _ [] [] (sR _ (fn.params.toList++ []) D1 (by rw[EM,hlen,AH,BL];omega)) (by simp) (by simp) (by simp) (h.rel.oy (by simp));have ex:(execOp a.eval o).run P c.w= .ok (.enter g (cl.args.map a.eval++capv.toArray)) c.w:=by
  have hb:fn.body.isNone=false:=by simpa using Ex
  simp only[execOp,ho,resolve,AG,nQ,Deferred.ofValue,Sem.run_bind,Sem.run_pure,Result.andThen_ok,invoke,callFunc,run_program,JB];simp[GQ,hb]
 intro next Q hk
 unfold Oper.wp;rw[ex,Oper.upon_enter];have Px:cl.args.map a.eval++capv.toArray=((cl.args.toList.map a.eval)++capv).toArray:=by apply Array.ext';simp
 rw[Px];refine Bp.mono ?_;rintro e' w' ⟨v,rfl,⟨R,Bs,f1',o1,f2',o2,MJ,A2,FQ,Il,VZ,VA⟩,Bg⟩;show next (a.put o.dst v) w'
 have Ju:=zLl FQ;subst Ju;simp only at MJ;subst MJ;have hv:Rd w' [v] [r] []:=by
  unfold Lb at A2;split at A2
  ·rename_i t' ht;unfold DM at A2;rw[if_neg (by rw[zIJ];simp)]at A2;have:=ztS A2.1 Fv;subst this;exact A2.1
  ·obtain⟨vs,ys,_,rfl,_⟩:=A2;have:=Fv (.tup ys) (by simp[AV.cells]);simp[AV.scalar]at this
 obtain⟨FU,_⟩:=h.rel.changes (w':=w') (recs:=[]) (hs:=[]) (gs:=gs) h.gs Bg (by simp) (by simp) (by simp) (by simp) (by simp) (by simp) (by simp);refine hk _ (c.fm w' []) ⟨rfl,rfl,rfl,rfl,λt ht=> ?_⟩ (FU.put (SR.mkGd (.e (f:=[]) ?_ (by simp) .nil) gs h.gs) o.dst)
 ·rcases ht with ht|⟨r,hr,_⟩
  ·exact .inl ht
  ·simp at hr
 ·show Rd w' [v] [(E.var nv).den c.ρ] [];simp only[E.den,hr,Be];exact hv
theorem tA(JL:∀f s,sg f=some s->f<1000000)(h:BB P c n nx sl hp a sl0 hp0 o gs)(he:B2 P sg sl0 hp0 nv nx gs o=some e)
  (hc:∀q∈e.dn,q.den c.ρ) (Bp:∀cl,e.call=some cl-> ∃r,c.ρ[nv]?=some r/\JZ (Cp P sg) cl.fn ((EL.of cl.args).den c.ρ) c.ρ r) (Dr:∀x,e.df=some x->c.ρ[nv]?=some (.bool (Mg a o))):AK P o c n nx sl hp gs a e:=by
 have Mz:=he;cases AY:o.op with
 |move x=>simp only[B2,AY,Ay]at he;obtain⟨s,hs,rfl⟩:=he;exact zCo h (.inl AY) hs
 |assign x=>simp only[B2,AY,Ay]at he;obtain⟨s,hs,rfl⟩:=he;exact zCo h (.inr AY) hs
 |pick x y z=>exact zIe h AY he hc
 |alloc t=>exact zGT h AY he hc
 |box t x=>exact zMK h AY he hc
 |build t parts=>exact zHk h AY he hc
 |buildSlice t m parts=>
  simp only[B2,AY,AB]at he;obtain⟨ps,N6,he⟩:=he;split at he
  ·exact zza h AY N6 he hc
  ·exact zvH h AY N6 he hc
 |load t x=>exact zJ5 h AY he hc
 |nilCheck x=>exact zAB h AY he hc
 |makeSlice t l m=>
  simp only[B2,AY,AB]at he;obtain⟨s1,BN,s2,Ba,he⟩:=he;split at he
  ·exact zB3 h AY BN Ba he hc
  ·exact zHF h AY BN Ba he hc
 |slice t x lo hi mx=>
  simp only[B2,AY,AB]at he;obtain⟨s,hs,l',BO,h',LH,m',Dq,he⟩:=he;split at he
  ·exact zDX h AY hs BO LH Dq he hc
  split at he
  ·exact zB8 h AY hs BO LH Dq he hc
  ·exact zED h AY hs BO LH Dq he hc
 |fieldAddr t x f=>exact zyA h AY he hc
 |field t x f=>exact zHa h AY he hc
 |extract x i=>exact zCN h AY he hc
 |store t x y=>
  simp only[B2,AY,AB]at he;obtain⟨p,hp',v,hv,he⟩:=he;cases p with
  |dq b k=>exact zBY h AY hp' hv he hc
  |du b g i sz k=>
   by_cases A3:∃e z g c d,look hp0 gs b=some (.row e z g c d)
   ·exact zBy h AY A3 hp' hv he hc
   ·exact zyQ h AY A3 hp' hv he hc
  |_=>simp[Pb]at he
 |binOp op t x y ty=>
  cases hu:P.underlying t with
  |none=>simp only[B2,AY,AB]at he;obtain⟨_,_,_,_,he⟩:=he;simp[US,hu]at he
  |some d=>
   by_cases V9:∃fs,d= .struct fs
   ·obtain⟨fs,rfl⟩:=V9;exact zLB h AY hu he hc
   ·have N4:∀fs,P.underlying t≠some (.struct fs):=λfs hh=>V9 ⟨fs,by rw[hu]at hh;cases hh;rfl⟩;cases hq:e.df with
    |none=>exact zK6 h AY N4 he hq hc
    |some x'=>
     have GY:=Dr x' hq;simp only[B2,AY,AB]at he;obtain⟨s1,BN,s2,Ba,he⟩:=he;have r1:=h.dy BN (by simp[AY,Op.operands]);have r2:=h.dy Ba (by simp[AY,Op.operands]);unfold US at he;split at he
     ·rename_i el Gf;have Dh:∀xq,BH hp0 gs Bb s1=some xq->Cn.den c.ρ (.dfd (.len xq))-> ∃p q r,a.eval x= .slice p q r:=by
       intro xq K7 hd;obtain⟨f,q1,_⟩:=h.mc BN (by simp[AY,Op.operands]) K7;have hd:(xq.den c.ρ).len≠ .undef:=hd;cases BP:xq.den c.ρ<;>simp only[BP,AV.len,ne_eq,not_true_eq_false]at hd;rename_i xs;have hl:(xq.den c.ρ).len= .int .i64 (xs.length:Int):=by rw[BP];rfl
       rcases Ur q1 hl with⟨p,q,hv,CG⟩|⟨b,o',k,q,hv,CG⟩
       ·exact⟨_,_,_,hv⟩
       ·exact⟨_,_,_,hv⟩
      split at he
      ·simp at he;subst he;cases hq
      ·simp at he;subst he;cases hq
      ·obtain⟨xq,K7,rfl⟩:=Ay.1 he;obtain⟨p,q,r,hv⟩:=Dh xq K7 (hc _ (by simp));exact zC2 h AY Gf hv r2 (.inl rfl) GY _
      ·obtain⟨xq,K7,rfl⟩:=Ay.1 he;obtain⟨p,q,r,hv⟩:=Dh xq K7 (hc _ (by simp));exact zC2 h AY Gf hv r2 (.inr rfl) GY _
      ·cases he
     ·split at he
      ·simp at he;subst he;cases hq
      ·cases he
     ·split at he
      ·simp at he;subst he;cases hq
      ·cases he
     ·split at he
      ·simp at he;subst he;cases hq
      ·cases he
     ·rename_i fs Gf;exact absurd Gf (N4 fs)
     ·cases he
 |unOp u t x=>
  cases u with
  |not=>exact zLH h AY he hc
  |neg=>exact zML h AY he hc
  |_=>simp[B2,AY]at he
 |convert src dst x=>
  have NP:=he;simp only[B2,AY,AB]at NP;obtain⟨s,_,NP⟩:=NP;unfold Y3 at NP;split at NP
  ·rename_i k0 k h1 h2;exact zCG h AY h1 h2 he hc
  ·rename_i h1 h2;exact zCp h AY h1 h2 he hc
  ·rename_i el h1 h2;exact zBM h AY h1 h2 he hc
  ·cases NP
 |makeFunc fr fst caps=>
  cases fr with
  |func f=>exact zBT h AY he
  |_=>simp[B2,AY]at he
 |indexAddr t x i=>refine zyJ h AY (λhu=> ?_) he hc;simp only[B2,AY,AB]at he;obtain⟨_,_,_,_,he⟩:=he;simp[bE,hu]at he
 |index t x i=>
  refine zCF h AY ?_ he hc;simp only[B2,AY,AB]at he;obtain⟨_,_,_,_,he⟩:=he;split at he
  ·rename_i FI;unfold bE at FI;split at FI
   ·assumption
   ·cases FI
  ·cases he
 |call cl=>
  simp only[B2,AY]at he;cases AG:cl.callee with
  |invoke r m=>rw[AG]at he;simp at he
  |value f=>
   rw[AG]at he;simp only[AB]at he;obtain⟨s,hs,as_,has,he⟩:=he;cases s with
   |fn g caps=>
    have he:Ze P sg hp0 gs nv nx g (as_++caps.toList)=some e:=he;refine zIS h AY AG hs has ?_ he Bp;unfold Ze at he;split at he
    ·rename_i fn sg' JB hh;exact JL g sg' hh
    ·cases he
   |e y=>exact zu1 h AY AG hs (λv hv=>by cases hv with|e k1 _ _=>exact⟨_,k1⟩) has he Bp
   |lent i=>exact zu1 h AY AG hs (λv hv=>by
     cases hv with
     |lent g1 _=>obtain⟨f,p1,p2⟩:=h.rel.base.lo _ _ g1;exact⟨f,p1.frame λb hb=>h.rel.base.block b (p1.inb b hb) (p2 b hb)⟩) has he Bp
   |_=>simp at he
  |builtin b=>
   rw[AG]at he;cases b with
   |len=>
    simp only at he;split at he
    ·rename_i x tx Dp Er;exact zLm h AY AG Dp Er Mz hc
    ·cases he
   |append=>
    simp only at he;split at he
    ·rename_i x y tx ty Dp Er;simp only[AB]at he;obtain⟨s1,BN,s2,Ba,he⟩:=he;split at he
     ·exact zB5 h AY AG Dp Er BN Ba he hc
     split at he
     ·exact zyi h AY AG Dp Er BN Ba he hc
     ·exact zCj h AY AG Dp Er BN Ba he hc
    ·cases he
   |clear=>
    simp only at he;split at he
    ·rename_i x tx Dp Er;simp only[AB]at he;obtain⟨s,hs,he⟩:=he;exact zHi h AY AG Dp Er hs he hc
    ·cases he
   |max=>
    simp only at he;split at he
    ·rename_i x y Dp;simp only[AB]at he;obtain⟨s1,BN,s2,Ba,he⟩:=he;exact zxp h AY (.inl ⟨rfl,AG⟩) Dp BN Ba he hc
    ·cases he
   |min=>
    simp only at he;split at he
    ·rename_i x y Dp;simp only[AB]at he;obtain⟨s1,BN,s2,Ba,he⟩:=he;exact zxp h AY (.inr ⟨rfl,AG⟩) Dp BN Ba he hc
    ·cases he
   |_=>simp at he
 |_=>simp[B2,AY]at he
end
section
variable {P:Program} {c:Cx} {n nx:Nat} {sl sl0:Nat->SV} {hp hp0:Nat->Option Aj} {a:Act} {o:Oper} {gs:Gd} {e:Bf} {sg:BW} {nv:Nat}
theorem Rel.la(h:Rel c n sl hp a){sl':Nat->SV}(hs:∀i,sl' i=sl i\/SR c [sl' i] [a.tmps.getD i undef]):Rel c n sl' hp a:=
 ⟨h.defers,h.size,h.base,λi=>by
  rcases hs i with hh|hh
  ·rw[hh];exact h.ee i
  ·exact hh,h.ents,h.off,h.gw,h.de,h.dv⟩
theorem Yi{u:Nat}:∀{l:List Operand} {t T v m:Nat} {p:E × Nat × Nat} {s:SV},Ny sl0 u l=some (t,T,v,m,p,s)->Operand.tmp t∈l/\((∃y,sl0 t= .via T v m (some p) y/\s= .own u 0)\/ ∃y k z q,sl0 t= .vptr T v m (some p) y k z q/\s= .du u 0 k z q)
 | [],_,_,_,_,_,_,h=>by simp[Ny]at h
 |x::l,t,T,v,m,p,s,h=>by
  cases x with
  |tmp i=>
   simp only[Ny]at h;split at h
   ·rename_i hs;simp only[Af,A0]at h;obtain⟨rfl,rfl,rfl,rfl,rfl,rfl⟩:=h;exact⟨by simp, .inl ⟨_,hs,rfl⟩⟩
   ·rename_i hs;simp only[Af,A0]at h;obtain⟨rfl,rfl,rfl,rfl,rfl,rfl⟩:=h;exact⟨by simp, .inr ⟨_,_,_,_,hs,rfl⟩⟩
   ·obtain⟨h1,h2⟩:=Yi h;exact⟨by simp[h1],h2⟩
  |const v9=>simp only[Ny]at h;obtain⟨h1,h2⟩:=Yi h;exact⟨by simp[h1],h2⟩
  |func f=>simp only[Ny]at h;obtain⟨h1,h2⟩:=Yi h;exact⟨by simp[h1],h2⟩
  |global g=>simp only[Ny]at h;obtain⟨h1,h2⟩:=Yi h;exact⟨by simp[h1],h2⟩
theorem Rel.split(h:Rel c n sl hp a){T v m u:Nat}{p:E × Nat × Nat}{hl inn:Aj}(hs:Y0 hp0 T v m u p=some (hl,inn))(Cl:∀t e,hp0 t=some e->hp t=some e)(hu: ¬c.U u){vv:Value}(K2:c.E T=m->J3 c T v (some p) vv):
  ∃recs c1,c1=c.fm c.w recs/\Rel c1 n sl (Bo hp [(T,hl),(u,inn)]) a/\Ev c c1/\c1.K u 0/\c1.H u 0=vv/\(∃q n r,vv= .slice q n r/\(q=none\/n=0\/ ∃g,q=some ⟨g,0,none⟩))/\(∀t,c1.U t->c.U t\/t=u)/\c.K T v/\c.E T=m/\c1.E T=m+1/\T≠u:=by
 have eh:EH c hp0:=λt e hr=>h.ents t e (Pg Cl hr);obtain⟨pi,z,po⟩:=p;unfold Y0 at hs;split at hs
 ·rename_i e z0 l g ep c0 hlk;split at hs
  ·rename_i AU;obtain⟨rfl,rfl,hpz⟩:=AU;simp only at hpz;subst hpz;split at hs
   ·rename_i e2 z2 l2 Ca;simp only[Af,A0]at hs;obtain⟨rfl,rfl⟩:=hs;simp only at Ca;obtain⟨q1,q2,q3,q4,q5⟩:=eh T _ (Di hlk (Fy _));obtain⟨b,n9,cap,C,ty,fz,kk,k,p1,p2,p3,p4,p5,p6,p7⟩:=K2 q3;obtain⟨d1,d2,⟨a9,d3,_⟩|⟨g9,cap9,C9,ys,N,d3,d4,d5,d6,d7,d8,d9,d10,d11,d12⟩⟩:=q4.inv
    ·rw[p1]at d3;cases d3;omega
    ·rw[p1]at d3;cases d3;rw[d6]at p3;cases p3;rw[AN.ax]at d2 d12;have hoz:po<z:=by
      rcases Nat.lt_or_ge po l.length with hh|hh
      ·omega
      ·rw[List.getElem?_eq_none hh]at Ca;cases Ca
     have JH:k.toNat<ys.length:=by omega
     have hmul:(k.toNat+1)*z<=ys.length*z:=By _ (by omega);have Fb:ys.length*z<=cap*z:=By _ d7;rw[Nat.add_mul]at hmul;have Ew:C.toList.length=cap*z:=by simpa using d9
     have AQ:k.toNat*z+po<C.size:=by omega
     obtain⟨N1,N2,N3,rfl,s1,s2,s3⟩:=d12.split (k.toNat*z+po) 1;have Bv:((C.toList.take (ys.length*z)).drop (k.toNat*z+po)).take 1=[vv]:=by have hv:C[k.toNat*z+po]?=some vv:=p7;rw[List.drop_take,List.take_take,Nat.min_eq_left (by omega),Bw (by simpa using AQ),List.take_succ_cons,List.take_zero];rw[Array.getElem?_eq_getElem AQ]at hv;simpa using hv
     have Kj:=Pl JH;generalize P9:(AV.sl ys).nth k.toNat=yk at Kj;have Gh:=d10 yk (List.mem_of_getElem? Kj);have Ci:((AA ys).drop (k.toNat*z+po)).take 1=[(E.fld (.idx c0 pi) po 1 false).den c.ρ]:=by rw[YG ys d10 _ _ Kj po 1 (by omega),Bw (by omega),List.take_succ_cons,List.take_zero];simp only[E.den,d4,p4,AV.idx,P9,AV.fld];simp[show po<yk.cells.length by omega]
     have BC:((Cc ys.length l).drop (k.toNat*z+po)).take 1=[.row e2 z2 l2]:=by
      rw[<-d2,Yr l _ _ _ _ JH (by omega)];have KZ:po<l.length:=by omega
      rw[Bw KZ,List.take_succ_cons,List.take_zero];rw[AM KZ]at Ca;simpa using Ca
     rw[Bv,Ci,BC]at s2;have Hm:=h.de _ _ q1;have KJ:T≠u:=λhh=>hu (hh▸Hm);have BX:=h.gw.nodup T;simp only[GI.own,q5,AH,d5]at BX;have A2:∀r∈([⟨T,none,b::(N1++N3), .hol e z l g (ep+1) c0 pi po u⟩,⟨u,some vv,N2,if l2.toList.all DT.db then .row e2 z2 0 (.fld (.idx c0 pi) po 1 false) true else .deep e2 z2 l2.toList 0 0 (.fld (.idx c0 pi) po 1 false)⟩]:List AZ),r.new.isSome=true-> ¬c.U r.tag:=λr hr hs=>by
      simp only[Ag,List.not_mem_nil,or_false]at hr;rcases hr with rfl|rfl
      ·cases hs
      ·exact hu
     refine⟨[⟨T,none,b::(N1++N3), .hol e z l g (ep+1) c0 pi po u⟩,⟨u,some vv,N2,if l2.toList.all DT.db then .row e2 z2 0 (.fld (.idx c0 pi) po 1 false) true else .deep e2 z2 l2.toList 0 0 (.fld (.idx c0 pi) po 1 false)⟩],_,rfl,?_⟩;generalize A8:([⟨T,none,b::(N1++N3), .hol e z l g (ep+1) c0 pi po u⟩,⟨u,some vv,N2,if l2.toList.all DT.db then .row e2 z2 0 (.fld (.idx c0 pi) po 1 false) true else .deep e2 z2 l2.toList 0 0 (.fld (.idx c0 pi) po 1 false)⟩]:List AZ)=recs at A2;have hn:(recs.map AZ.tag).Nodup:=by rw[<-A8];simp[KJ]
     have aft:=Cx.ff (w':=c.w) h.de hn A2;have DP:(⟨T,none,b::(N1++N3), .hol e z l g (ep+1) c0 pi po u⟩:AZ)∈recs:=by rw[<-A8];simp
     have C8:(⟨u,some vv,N2,if l2.toList.all DT.db then .row e2 z2 0 (.fld (.idx c0 pi) po 1 false) true else .deep e2 z2 l2.toList 0 0 (.fld (.idx c0 pi) po 1 false)⟩:AZ)∈recs:=by rw[<-A8];simp
     obtain⟨k1,k2,k3⟩:=aft.new _ C8 vv rfl;have kgT:=aft.G _ DP;have keT:=aft.jh _ DP rfl;have kgu:=aft.G _ C8;have keu:=aft.kt _ C8 rfl;obtain⟨kT1,kT2⟩:=aft.K T g q1;simp only at k1 k2 k3 kgT keT kgu keu;have N5:∀q,q∈b::(N1++N3)\/q∈N2->q∈(c.G T).top:=λq hq=>by rw[d5];simp only[Ag,Ae]at hq ⊢;rcases hq with(hq|hq|hq)|hq<;>simp[hq]
     obtain⟨As,Ck⟩:=h.changes (recs:=recs) (gs:=[]) (hs:=(c.G T).top) (Fy _) (Mod.refl _ c.w) hn A2 (λq hq=>⟨_,DP,hq⟩) (by
       rw[<-A8];simp only[List.flatMap_cons,List.flatMap_nil,AH];rw[List.nodup_cons]at BX;obtain⟨n1,n2⟩:=BX;rw[List.append_assoc,List.nodup_append,List.nodup_append]at n2;obtain⟨a1,⟨a2,a3,a4⟩,a5⟩:=n2;rw[List.cons_append,List.nodup_cons,List.nodup_append,List.nodup_append];refine⟨λhh=>n1 ?_,⟨a1,a3,λx hx y hy=>a5 x hx y (Ae.2 (.inr hy))⟩,a2,λx hx y hy Gg=> ?_⟩
       ·simp only[Ae]at hh ⊢;rcases hh with(hh|hh)|hh<;>simp[hh]
       ·rcases Ae.1 hx with hx|hx
        ·exact a5 x hx y (Ae.2 (.inl hy)) Gg
        ·exact a4 y hy x hx Gg.symm)
      (λr hr q hq=>by
       have:q∈(c.G T).top:=by
        rw[<-A8]at hr;simp only[Ag,List.not_mem_nil,or_false]at hr;rcases hr with rfl|rfl
        ·exact N5 q (.inl hq)
        ·exact N5 q (.inr hq)
       exact⟨.inl this,h.gw.inb T q (by simp[GI.own,this])⟩)
      (λr hr=>by
       rw[<-A8]at hr;simp only[Ag,List.not_mem_nil,or_false]at hr;rcases hr with rfl|rfl
       ·intros;simp
       ·intros;simp only;split<;>simp)
      (λhk r hr=>by
       rw[<-A8]at hr;simp only[Ag,List.not_mem_nil,or_false]at hr;rcases hr with rfl|rfl
       ·refine⟨kT1,λg' CN=>q2 g' (aft.old T Hm g' CN),by rw[keT,q3],?_,by rw[kgT]⟩;rw[kT2,p1,kgT];exact⟨b,cap,C,ys,kk,k,N1,N3,rfl,d4,p4,p5,p6,hoz,d1,d2,d6,d7,d8,d9,d10,d11,rfl,k1,by rw[k3];exact p7,s1,s3⟩
       ·simp only;split
        ·rename_i hf;have Bj:=s2.ou hf;refine⟨k1,k2,[],?_,by simp,λ_=>⟨rfl,by rw[kgu]⟩,λ_=>by rw[kgu]⟩;rw[k3,kgu];exact Bj
        ·refine⟨k1,k2,keu,?_,by rw[kgu]⟩;rw[k3,kgu,AN.dw];exact s2)
     refine⟨?_,Ck,k1,k3,?_,λt ht=> ?_,q1,q3,by rw[keT,q3],KJ⟩
     ·have:(recs.map λr=>(r.tag,Dk [] r.cy))=[(T, .hol e z l g (ep+1) c0 pi po u),(u,if l2.toList.all DT.db then .row e2 z2 0 (.fld (.idx c0 pi) po 1 false) true else .deep e2 z2 l2.toList 0 0 (.fld (.idx c0 pi) po 1 false))]:=by
       rw[<-A8];simp[Dk]
      rw[this]at As;exact As
     ·obtain⟨_,_,⟨a9,h1,_⟩|⟨g9,cap9,C9,ys9,N9,h1,_⟩⟩:=s2.inv
      ·exact⟨a9,0,0,h1, .inr (.inl rfl)⟩
      ·exact⟨_,_,_,h1, .inr (.inr ⟨g9,rfl⟩)⟩
     ·rcases ht with ht|⟨r,hr,rfl⟩
      ·exact .inl ht
      ·rw[<-A8]at hr;simp only[Ag,List.not_mem_nil,or_false]at hr;rcases hr with rfl|rfl
       ·exact .inl Hm
       ·exact .inr rfl
   ·cases hs
  ·cases hs
 ·cases hs
theorem Rel.close(h:Rel c n sl hp a){T u:Nat}{hl r d:Aj}(hT:hp T=some hl)(hu:hp u=some r)(hr:YW P hl r=some d)(MO:∃q1 q2 q3 q4 q5 q6 q7 q8,hl= .hol q1 q2 q3 q4 q5 q6 q7 q8 u)(KJ:T≠u):
  ∃recs c1,c1=c.fm c.w recs/\Rel c1 n sl (Bo hp [(T,d),(u, .dead)]) a/\(∀t,c1.U t->c.U t)/\c.E T<c1.E T:=by
 obtain⟨e,z,l,g,ep,c0,i,o',rfl⟩:=MO;have key:∀(e2 z2:Nat) (l2:AN) (x:E),l[o']?=some (.row e2 z2 l2)->DC c.w [.row e2 z2 l2] [c.H u 0] [x.den c.ρ] (c.G u).top->c.U u->d= .deep e z l g (ep+1) (.set c0 i (.put (.idx c0 i) o' x (Ar P e)))->(Ar P e=false->z=1)->
   ∃recs c1,c1=c.fm c.w recs/\Rel c1 n sl (Bo hp [(T,d),(u, .dead)]) a/\(∀t,c1.U t->c.U t)/\c.E T<c1.E T:=by
  rintro e2 z2 l2 x Ca Ka Zt rfl Jw;obtain⟨q1,q2,q3,⟨b,cap,C,ys,kk,k,N1,N2,p1,p2,p3,p4,p5,p6,p7,p7',p8,p9,p10,p11,p12,p13,p14,p15,p16,p17,p18⟩,q5⟩:=h.ents T _ (by rw[hT];rfl);have Hm:=h.de _ _ q1;have JH:k.toNat<ys.length:=by omega
  have hmul:(k.toNat+1)*z<=ys.length*z:=By _ (by omega);have Fb:ys.length*z<=cap*z:=By _ p9;rw[Nat.add_mul]at hmul;have Ew:C.toList.length=cap*z:=by simpa using p11
  have AQ:k.toNat*z+o'<C.size:=by omega
  have Kj:=Pl JH;generalize P9:(AV.sl ys).nth k.toNat=yk at Kj;have Gh:=p12 yk (List.mem_of_getElem? Kj);obtain⟨zs,DE⟩:∃zs,x.den c.ρ= .sl zs:=by
   obtain⟨_,_,⟨_,_,hx,_⟩|⟨_,_,_,_,_,_,hx,_⟩⟩:=Ka.inv
   ·exact⟨_,hx⟩
   ·exact⟨_,hx⟩
  have Hu:(x.den c.ρ).cells=[x.den c.ρ]:=by rw[DE];rfl
  have hz:(yk.fq o' (x.den c.ρ) (Ar P e)).cells=setVs yk.cells o' (x.den c.ρ).cells:=by
   refine zt1 ?_ (λhg=> ?_)
   ·cases hg:Ar P e with
    |true=>exact .inr rfl
    |false=>left;rw[DE];intro cs hh;cases hh
   ·have:=Jw hg;exact⟨by omega,by omega,Hu⟩
  have E4:AA (ys.set k.toNat (yk.fq o' (x.den c.ρ) (Ar P e)))=setVs (AA ys) (k.toNat*z+o') (x.den c.ρ).cells:=
   lH ys _ _ yk o' _ p12 Kj (by rw[Hu];simp;omega) hz
  have H8:((Cc ys.length l).drop (k.toNat*z+o')).take 1=[.row e2 z2 l2]:=by
   rw[<-p7',Yr l _ _ _ _ JH (by omega)];have KZ:o'<l.length:=by omega
   rw[Bw KZ,List.take_succ_cons,List.take_zero];rw[AM KZ]at Ca;simpa using Ca
  have V8:setVs (C.toList.take (ys.length*z)) (k.toNat*z+o') [c.H u 0]=C.toList.take (ys.length*z):=by
   apply List.ext_getElem?;intro j;have hl3:(C.toList.take (ys.length*z)).length=ys.length*z:=by rw[AI,Ew];exact Nat.min_eq_left Fb
   rw[Ui _ _ _ (by rw[hl3];show k.toNat*z+o'+1<=_;omega)];split
   ·rename_i hj;simp only[AE,List.length_nil]at hj;have:j=k.toNat*z+o':=by omega
    subst this;rw[Nat.sub_self,List.getElem?_take,if_pos (by omega)];have:=p16;simpa using this.symm
   ·rfl
  have Bm:DC c.w [.row e z (AN.of l)] [c.H T g] [(E.set c0 i (.put (.idx c0 i) o' x (Ar P e))).den c.ρ] (b::(N1++((c.G u).top++N2))):=by
   have CQ:(E.set c0 i (.put (.idx c0 i) o' x (Ar P e))).den c.ρ= .sl (ys.set k.toNat (yk.fq o' (x.den c.ρ) (Ar P e))):=by simp only[E.den,p2,p3,AV.idx,P9,AV.fu]
   rw[CQ,p1];have Fu:(ys.set k.toNat (yk.fq o' (x.den c.ρ) (Ar P e))).length=ys.length:=List.length_set;have:=DC.row (w:=c.w) (e:=e) (z:=z) (l:=AN.of l) (g:=b) (cap:=cap) (C:=C) (ys:=ys.set k.toNat (yk.fq o' (x.den c.ρ) (Ar P e))) (N1:=N1++((c.G u).top++N2)) (ts:=[]) (vs:=[]) (xs:=[]) (N:=[]) p7 (by rw[AN.ax];exact p7') p8 (by rw[Fu];exact p9) p10 p11 (λw hw=>by
     rcases List.mem_or_eq_of_mem_set hw with hw|rfl
     ·exact p12 w hw
     ·rw[hz,YA _ _ _ (by rw[Hu,Gh];simp;omega)];exact Gh) (by rw[Fu];exact p13) (by
     rw[Fu,AN.ax,E4,<-V8];refine DC.setVs p17 ?_ ?_
     ·exact p18
     ·rw[AO,H8,Hu];exact Ka) .nil
   rw[Fu]at this;simpa using this
  have hTK:=q1;have A2:∀r∈([⟨T,none,b::(N1++((c.G u).top++N2)), .deep e z l g (ep+1) (.set c0 i (.put (.idx c0 i) o' x (Ar P e)))⟩,⟨u,none,[], .dead⟩]:List AZ),r.new.isSome=true-> ¬c.U r.tag:=λr hr hs=>by simp only[Ag,List.not_mem_nil,or_false]at hr;rcases hr with rfl|rfl<;>cases hs
  refine⟨[⟨T,none,b::(N1++((c.G u).top++N2)), .deep e z l g (ep+1) (.set c0 i (.put (.idx c0 i) o' x (Ar P e)))⟩,⟨u,none,[], .dead⟩],_,rfl,?_⟩;generalize A8:([⟨T,none,b::(N1++((c.G u).top++N2)), .deep e z l g (ep+1) (.set c0 i (.put (.idx c0 i) o' x (Ar P e)))⟩,⟨u,none,[], .dead⟩]:List AZ)=recs at A2;have hn:(recs.map AZ.tag).Nodup:=by rw[<-A8];simp[KJ]
  have aft:=Cx.ff (w':=c.w) h.de hn A2;have DP:(⟨T,none,b::(N1++((c.G u).top++N2)), .deep e z l g (ep+1) (.set c0 i (.put (.idx c0 i) o' x (Ar P e)))⟩:AZ)∈recs:=by rw[<-A8];simp
  have C8:(⟨u,none,[], .dead⟩:AZ)∈recs:=by rw[<-A8];simp
  have kgT:=aft.G _ DP;have keT:=aft.jh _ DP rfl;have kgu:=aft.G _ C8;obtain⟨kT1,kT2⟩:=aft.K T g q1;simp only at kgT keT kgu;have B9:∀q,q∈b::(N1++((c.G u).top++N2))->q∈(c.G T).top\/q∈(c.G u).top:=λq hq=>by rw[p14];simp only[Ag,Ae]at hq ⊢;rcases hq with hq|hq|hq|hq<;>simp[hq]
  have PU:=h.gw.nodup T;simp only[GI.own,q5,AH,p14]at PU;have oP:(c.G u).top.Nodup:=by have:=h.gw.nodup u;simp only[GI.own]at this;exact(List.nodup_append.1 this).1
  have GM:∀q∈(c.G u).top,q∉b::(N1++N2):=λq hq hh=>h.gw.dt u T (Ne.symm KJ) q (by simp[GI.own,hq]) (by rw[<-p14]at hh;simp[GI.own,hh]);obtain⟨As,Ck⟩:=h.changes (recs:=recs) (gs:=[]) (hs:=(c.G T).top++(c.G u).top) (Fy _) (Mod.refl _ c.w) hn A2 (λq hq=>by
    rcases Ae.1 hq with hq|hq
    ·exact⟨_,DP,hq⟩
    ·exact⟨_,C8,hq⟩) (by
    rw[<-A8];simp only[List.flatMap_cons,List.flatMap_nil,AH];rw[List.nodup_cons,List.nodup_append]at PU;obtain⟨n1,a1,a2,a3⟩:=PU;rw[List.nodup_cons,List.nodup_append,List.nodup_append];refine⟨λhh=> ?_,a1,⟨oP,a2,λx hx y hy Gg=>GM x hx (by rw[Gg];simp[hy])⟩,λx hx y hy Gg=> ?_⟩
    ·simp only[Ae]at hh n1;rcases hh with hh|hh|hh
     ·exact n1 (.inl hh)
     ·exact GM b hh (by simp)
     ·exact n1 (.inr hh)
    ·rcases Ae.1 hy with hy|hy
     ·exact GM y hy (by rw[<-Gg];simp[hx])
     ·exact a3 x hx y hy Gg)
   (λr hr q hq=>by
    have:q∈(c.G T).top\/q∈(c.G u).top:=by
     rw[<-A8]at hr;simp only[Ag,List.not_mem_nil,or_false]at hr;rcases hr with rfl|rfl
     ·exact B9 q hq
     ·simp at hq
    refine⟨.inl (Ae.2 this),?_⟩;rcases this with hh|hh
    ·exact h.gw.inb T q (by simp[GI.own,hh])
    ·exact h.gw.inb u q (by simp[GI.own,hh]))
   (λr hr=>by rw[<-A8]at hr;simp only[Ag,List.not_mem_nil,or_false]at hr;rcases hr with rfl|rfl<;>(intros;simp))
   (λhk r hr=>by
    rw[<-A8]at hr;simp only[Ag,List.not_mem_nil,or_false]at hr;rcases hr with rfl|rfl
    ·exact⟨kT1,λg' CN=>q2 g' (aft.old T Hm g' CN),by rw[keT,q3],by rw[kT2,kgT];exact Bm,by rw[kgT]⟩
    ·exact⟨by rw[kgu],by rw[kgu]⟩)
  refine⟨?_,λt ht=> ?_,by rw[keT];omega⟩
  ·have:(recs.map λr=>(r.tag,Dk [] r.cy))=[(T, .deep e z l g (ep+1) (.set c0 i (.put (.idx c0 i) o' x (Ar P e)))),(u, .dead)]:=by
    rw[<-A8];simp[Dk]
   rw[this]at As;exact As
  ·rcases ht with ht|⟨r,hr,rfl⟩
   ·exact ht
   ·rw[<-A8]at hr;simp only[Ag,List.not_mem_nil,or_false]at hr;rcases hr with rfl|rfl
    ·exact Hm
    ·exact Zt
 have Zt:c.U u:=h.dv u r hu;unfold YW at hr;simp only at hr;split at hr
 ·rename_i e2 z2 l2 e3 z3 x Ca;split at hr
  ·rename_i hh;obtain⟨hf,rfl,rfl,hlen,AP⟩:=hh;simp only[Af]at hr;obtain⟨q1,q2,N,q4,q5,q6,q7⟩:=h.ents u _ (by rw[hu];rfl);obtain⟨hN,_⟩:=q6 rfl;have hN:N=[]:=hN;subst hN;exact key _ _ _ _ Ca (DC.my q4 hf hlen) Zt hr.symm (by rcases AP with hh|hh;(rw[hh];simp);exact λ_=>hh)
  ·cases hr
 ·rename_i e2 z2 l2 e3 z3 l3 x Ca;split at hr
  ·rename_i hh;obtain⟨rfl,rfl,hb,AP⟩:=hh;simp only[Af]at hr;have hb:=AN.of_eq hb;subst hb;obtain⟨q1,q2,q3,q4,q5⟩:=h.ents u _ (by rw[hu];rfl);rw[AN.dw]at q4;exact key _ _ _ _ Ca q4 Zt hr.symm (by rcases AP with hh|hh;(rw[hh];simp);exact λ_=>hh)
  ·cases hr
 ·cases hr
end
end
end Go.Proofs.YtlmjpjceiefpoaaGreat

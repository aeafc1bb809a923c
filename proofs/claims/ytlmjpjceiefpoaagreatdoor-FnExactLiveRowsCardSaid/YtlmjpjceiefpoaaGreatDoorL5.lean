/- Parts of a proof, joined: WP, WQ, WR, WRa, WRb, WRc, WRd, WRe, WRf, WS, WSa. -/
import Derived.Test.YtlmjpjceiefpoaaGreatDoorL4
set_option linter.unusedVariables false
set_option linter.unusedSimpArgs false
namespace Go.Proofs.YtlmjpjceiefpoaaGreatDoor
open Go.RowKit
section
theorem AO.{u}{α:Type u}{a:α}:[a].length=1:=rfl
section
variable {P:Program} {c:Cx} {hp:Nat->Option Ai} {gs:Gd}
theorem zCv(hb:RN c)(eh:EH c hp)(k:Bu c.ρ gs)(hU:∀t g,c.K t g->c.U t):∀(ss:List SV) {ts:List TypeId} {ms:List PM} {lo:List Bool} {es:List E} {bs:List PA} {us uz:List Nat} {vs:List Value},Wz P hp gs ts ms lo ss=some (es,bs,us,uz)->SR c ss vs->ts.length<=ss.length->
  ∃rf lf hs,Eb P c.w ts ms lo vs (es.map (E.den c.ρ)) rf lf hs/\(∀b∈rf,c.gp us b)/\(∀b∈lf,c.gp uz b\/b<c.w0.heap.size/\ ¬c.Mu b)/\hs=(Ea bs).flatMap (λt=>(c.G t).top)/\Kl P c ts ms vs bs/\(∀u∈Ea bs,c.U u)/\(bs≠ []->gs=[])
 | [],ts,ms,lo,es,bs,us,uz,vs,h,hs,hl=>by simp[Wz]at h;obtain⟨rfl,rfl,rfl,rfl⟩:=h;cases hs;have:ts=[]:=List.eq_nil_of_length_eq_zero (by simpa using hl);subst this;exact⟨[],[],[], .nil,by simp,by simp,by simp[Ea], .nil,by simp[Ea],by simp⟩
 |s::ss,ts,ms,lo,es,bs,us,uz,[],h,hs,hl=>by have:=hs.len;simp at this
 |s::ss,ts,ms,lo,es,bs,us,uz,v::vs,h,hs,hl=>by
  obtain⟨r1,r2⟩:=hs.dh;unfold Wz at h;split at h
  ·cases h
  rename_i ys bs' us' uz' DE;obtain⟨rf,lf,A9,q1,q2,qz,q3,q4,q5,q6⟩:=zCv hb eh k hU ss DE r2 (by simp at hl ⊢;omega);have see1:∀{a b:List Nat} {x:Nat},c.gp a x->c.gp (a++b) x:=λh=>h.mono λt ht=>by simp[ht]
  have see2:∀{a b:List Nat} {x:Nat},c.gp b x->c.gp (a++b) x:=λh=>h.mono λt ht=>by simp[ht]
  split at h
  ·rename_i hm;split at h
   ·rename_i B7;simp only[Ac,Bk]at B7;obtain⟨t,ts,rfl⟩:∃t ts',ts=t::ts':=by
     cases ts with
     |nil=>simp at B7
     |cons t ts=>exact⟨t,ts,rfl⟩
    split at h
    ·rename_i i;simp only[Af,A0]at h;obtain⟨rfl,rfl,rfl,rfl⟩:=h;cases r1 with
     |lent g1 _=>obtain⟨f,p1,p2⟩:=hb.lo _ _ g1;have hw:Rd c.w [v] [(E.var i).den c.ρ] f:=p1.frame λb Cc=>hb.block b (p1.inb b Cc) (p2 b Cc);exact⟨rf,f++lf,A9, .lent B7.1 hm hw q1,q2,λb Cc=>(Ae.1 Cc).elim (λCc=> .inr ⟨p1.inb b Cc,p2 b Cc⟩) (qz b),q3, .ro hm q4,q5,q6⟩
    ·obtain⟨x,hx,hh⟩:=Aw.1 h;simp only[A0]at hh;obtain⟨rfl,rfl,rfl,rfl⟩:=hh;obtain⟨f,p1,p2⟩:=Je eh k Bb hx r1 Bb (AB _);exact⟨rf,f++lf,A9, .lent B7.1 hm p1 q1,q2,λb Cc=>(Ae.1 Cc).elim (λCc=> .inl (see1 (p2 b Cc))) (λCc=>(qz b Cc).imp see2 id),q3, .ro hm q4,q5,q6⟩
   obtain⟨x,hx,hh⟩:=Aw.1 h;simp only[A0]at hh;obtain⟨rfl,rfl,rfl,rfl⟩:=hh;obtain⟨f,p1,p2⟩:=Je eh k Bb hx r1 Bb (AB _);have hb:∀b∈f++rf,c.gp (Cg hp gs (Bb+1) [s]++us') b:=λb hb=>by
    rcases Ae.1 hb with hb|hb
    ·exact see1 (p2 b hb)
    ·exact see2 (q2 b hb)
   cases ts with
   |nil=>exact⟨f++rf,lf,A9, .free p1 q1,hb,qz,q3, .ro hm q4,q5,q6⟩
   |cons t ts=>exact⟨f++rf,lf,[]++A9, .cons (by rw[hm];exact⟨p1,rfl⟩) q1,hb,qz,q3, .ro hm q4,q5,q6⟩
  ·rename_i own own' hm;split at h
   ·rename_i ty T BC;split at h
    ·rename_i ty' g cs NV;split at h
     ·cases h
     rename_i BU;have BU:ty'=ty:=by simpa using BU
     subst BU;split at h
     ·rename_i xs rs vs' Da FV;simp only[Af,A0]at h;obtain⟨rfl,rfl,rfl,rfl⟩:=h;obtain⟨t,ts,rfl,EK⟩:∃t ts',ts=t::ts'/\LM P t=some ty':=by
       cases ts with
       |nil=>simp at BC
       |cons t ts=>exact⟨t,ts,rfl,by simpa using BC⟩
      obtain⟨b,C,g1,g2,g3,g4,g5,g6,g7⟩:=eh T _ (Df NV k);obtain⟨f,h8,p1,p2,p3,p4,p5⟩:=zqa (P:=P) eh k hU (Bc P ty') FV g7 Da (AB _);have hv:v= .pointer (some ⟨b,0,none⟩):=by
       cases r1 with
       |dq k1 k2 _=>rw[g2]at k2;cases k2;rfl
      refine⟨f++rf,lf,(b::h8)++A9, .cons ?_ q1,λx hx=> ?_,qz,by simp[Ea,p3,q3,g3], .bx hm EK hv g1 (by rw[g2,hv]) p5 q4,λu hu=> ?_,λ_=>rfl⟩
      ·rw[hm];exact⟨ty',b,C,xs.den c.ρ,h8,EK,hv,g5,g6,rfl,p1,rfl⟩
      ·rcases Ae.1 hx with hx|hx
       ·exact see1 (p2 x hx)
       ·exact see2 (q2 x hx)
      ·simp only[Ea,List.cons_append,Ag,Ae]at hu;rcases hu with rfl|hu|hu
       ·exact hU _ _ g1
       ·exact p5 u hu
       ·exact q5 u hu
     ·cases h
    ·cases h
   ·cases h
  ·rename_i own hm;split at h
   ·rename_i t x BC hx;split at h
    ·cases h
    rename_i AN;have AN:(Jb s).2=Aq P t:=by simpa using AN
    split at h
    ·rename_i rs vs' FV;simp only[Af,A0]at h;obtain⟨rfl,rfl,rfl,rfl⟩:=h;obtain⟨ts,rfl⟩:∃ts',ts=t::ts':=by
      cases ts with
      |nil=>simp at BC
      |cons t' ts=>simp at BC;exact⟨ts,by rw[BC]⟩
     obtain⟨f,h8,p1,p2,p3,⟨vs9,p4,p5⟩,p6⟩:=zv9 (P:=P) eh k hU r1 hx AN FV;refine⟨f++rf,lf,h8++A9, .cons (by rw[hm];exact p1) q1,λx hx=> ?_,qz,by simp[Ea,p3,q3],by rw[AN];exact .mu hm p4 p5 q4,λu hu=> ?_,λ_=>rfl⟩
     ·rcases Ae.1 hx with hx|hx
      ·exact see1 (p2 x hx)
      ·exact see2 (q2 x hx)
     ·simp only[Ea,Ae]at hu;exact hu.elim (p6 u) (q5 u)
    ·cases h
   ·cases h
  ·rename_i own hm;split at h
   ·rename_i t x BC hx;split at h
    ·cases h
    rename_i AN;have AN:(Jb s).2=Aq P t:=by simpa using AN
    split at h
    ·rename_i rs vs' FV;simp only[Af,A0]at h;obtain⟨rfl,rfl,rfl,rfl⟩:=h;obtain⟨ts,rfl⟩:∃ts',ts=t::ts':=by
      cases ts with
      |nil=>simp at BC
      |cons t' ts=>simp at BC;exact⟨ts,by rw[BC]⟩
     obtain⟨f,h8,p1,p2,p3,⟨vs9,p4,p5⟩,p6⟩:=zv9 (P:=P) eh k hU r1 hx AN FV;refine⟨f++rf,lf,h8++A9, .cons (by rw[hm];exact p1) q1,λx hx=> ?_,qz,by simp[Ea,p3,q3], .va hm p6 q4,λu hu=> ?_,λ_=>rfl⟩
     ·rcases Ae.1 hx with hx|hx
      ·exact see1 (p2 x hx)
      ·exact see2 (q2 x hx)
     ·simp only[Ea,Ae]at hu;exact hu.elim (p6 u) (q5 u)
    ·cases h
   ·cases h
end
inductive FO(P:Program)(w:World):List TypeId->List Bool->List Value->List AV->List Nat->List Nat->Prop where
 |nil {fl}:FO P w [] fl [] [] [] []
 |own {t ts fl el u us y ys top N f o}:fl.headD false=true->CH P t=some el->(Ch P el=true/\N=[]\/Ch P el=false/\DJ P t=none)->Dd w el (P.cellsOf el) u y top N->FO P w ts fl.tail us ys f o->FO P w (t::ts) fl (u::us) (y::ys) (N++f) (top++o)
 |deep {t ts fl el e z l u us y ys top f o}:fl.headD false=true->CH P t=some el->Ch P el=false->DJ P t=some (.row e z l)->DC w [.row e z l] [u] [y] top->FO P w ts fl.tail us ys f o->FO P w (t::ts) fl (u::us) (y::ys) f (top++o)
 |skip {t ts fl u us y ys f o}:(fl.headD false=true->CH P t=none)->FO P w ts fl.tail us ys f o->FO P w (t::ts) fl (u::us) (y::ys) f o
inductive DY(P:Program)(w:World):List TypeId->List PM->List Value->List AV->List Nat->List Nat->Prop where
 |nil {ms vs}:DY P w [] ms vs [] [] []
 |ro {t ts ms v vs bs f o}:ms.headD .ro= .ro->DY P w ts ms.tail vs bs f o->DY P w (t::ts) ms (v::vs) bs f o
 |va {t ts ms own v vs bs f o}:ms.headD .ro= .va own->DY P w ts ms.tail vs bs f o->DY P w (t::ts) ms (v::vs) bs f o
 |mu {t ts ms own v vs us ys y bs f1 f o1 o}:ms.headD .ro= .mu own->(if Aq P t then v= .agg us.toArray/\y= .agg ys else us=[v]/\ys=[y])->FO P w (Bc P t) own us ys f1 o1->DY P w ts ms.tail vs bs f o->DY P w (t::ts) ms (v::vs) (y::bs) (f1++f) (o1++o)
 |bx {t ts ms own own' ty b C v vs ys y bs f1 o1 f o}:ms.headD .ro= .bx own own'->LM P t=some ty->v= .pointer (some ⟨b,0,none⟩)->w.heap[b]?=some (.cells C ty (0,0))->(∀u∈C.toList,u.oneCell'=true)->y= .agg ys->CA P w (Bc P ty) own' C.toList ys f1 o1->
   DY P w ts ms.tail vs bs f o->DY P w (t::ts) ms (v::vs) (y::bs) (f1++f) (b::o1++o)
section
variable {P:Program} {c:Cx} {w':World}
theorem zET{mk:Nat->E}{ts:List TypeId}{fl:List Bool}{us:List Value}{rs:List (Option RI)}(h:HO P c ts fl us rs)(hU:∀t g,c.K t g->c.U t):∀{ys:List AV} {f o:List Nat} (j:Nat),FO P w' ts fl us ys f o->(∀i y,ys[i]?=some y->(mk (j+i)).den c.ρ=y)->
  ∃recs:List AZ,Ny mk j rs=recs.map AZ.pair/\(recs.flatMap AZ.top).Sublist o/\(∀r∈recs,r.new=none/\c.U r.tag/\ ∀hs f,r.cx≠ .gd hs f)/\recs.map AZ.tag=Dc rs/\ ∀c',FA c c' w' recs->(∀b∈f,c'.ok b)-> ∀r∈recs,DH c' r.tag r.cx:=by
 induction h with
 |nil=>intro ys f o j hm _;cases hm;exact⟨[],rfl,by simp,by simp,rfl,by simp⟩
 | @row t ts fl v vs u g el rs h1 h2 KB h3 h4 h5 _ ih=>
  intro ys f o j hm GJ;cases hm with
  |skip hh _=>rw[hh h1]at h2;cases h2
  |deep _ k2 k21 k22 _ _=>
   rw[h2]at k2;cases k2;rcases KB with hh|hh
   ·rw[hh]at k21;cases k21
   ·rw[hh]at k22;cases k22
  | @own _ _ _ el' _ _ y ys top N f o k1 k2 k23 k3 k4=>
   rw[h2]at k2;cases k2;obtain⟨recs,e1,e2,e3,e4,e5⟩:=ih (j+1) k4 (λi y hy=>by rw[show j+1+i=j+(i+1)from by omega];exact GJ (i+1) y (by simpa using hy));have hy:=GJ 0 y rfl;refine⟨⟨u,none,top, .row el (P.cellsOf el) g (mk j) (Ch P el)⟩::recs,by simp[Ny,e1,AZ.pair],by simpa using(List.Sublist.refl top).append e2,λr hr=> ?_,by simp[Dc,RI.tag,e4],λc' ha A3 r hr=> ?_⟩
   ·rcases Ag.1 hr with rfl|hr
    ·exact⟨rfl,hU _ _ h3,by simp⟩
    ·exact e3 r hr
   ·rcases Ag.1 hr with rfl|hr
    ·obtain⟨a1,a2⟩:=ha.K u g h3;have kg:=ha.G _ (List.mem_cons_self ..);simp only at kg;refine⟨a1,λg' CK=>h5 g' (ha.old u (hU _ _ h3) g' CK),N,?_,λb hb=>A3 b (by simp[hb]),λhd=> ?_,λ_=>by rw[kg]⟩
     rotate_left
     ·rcases k23 with⟨_,h⟩|⟨h,_⟩
      ·subst h;exact⟨rfl,by rw[kg]⟩
      ·rw[h]at hd;cases hd
     have BQ:(mk j).den c.ρ=y:=by simpa using hy
     rw[a2,h4,kg,ha.w,ha.ρ,BQ];exact k3
    ·exact e5 c' (ha.mono λr hr=>by simp[hr]) (λb hb=>A3 b (by simp[hb])) r hr
 | @deep t ts fl v vs u g el e z l ep rs h1 h2 UP Rh h3 h4 h5 h6 _ ih=>
  intro ys f o j hm GJ;cases hm with
  |skip hh _=>rw[hh h1]at h2;cases h2
  |own _ k2 k23 _ _=>
   rw[h2]at k2;cases k2;rcases k23 with⟨hh,_⟩|⟨_,hh⟩
   ·rw[hh]at UP;cases UP
   ·rw[hh]at Rh;cases Rh
  | @deep _ _ _ el' e' z' l' _ _ y ys top f o k1 k2 k21 k22 k3 k4=>
   rw[Rh]at k22;cases k22;obtain⟨recs,e1,e2,e3,e4,e5⟩:=ih (j+1) k4 (λi y hy=>by rw[show j+1+i=j+(i+1)from by omega];exact GJ (i+1) y (by simpa using hy));have hy:=GJ 0 y rfl;refine⟨⟨u,none,top, .deep e z l g (ep+1) (mk j)⟩::recs,by simp[Ny,e1,AZ.pair],by simpa using(List.Sublist.refl top).append e2,λr hr=> ?_,by simp[Dc,RI.tag,e4],λc' ha A3 r hr=> ?_⟩
   ·rcases Ag.1 hr with rfl|hr
    ·exact⟨rfl,hU _ _ h3,by simp⟩
    ·exact e3 r hr
   ·rcases Ag.1 hr with rfl|hr
    ·obtain⟨a1,a2⟩:=ha.K u g h3;have kg:=ha.G _ (List.mem_cons_self ..);have ke:=ha.jg _ (List.mem_cons_self ..) rfl;simp only at kg ke;refine⟨a1,λg' CK=>h5 g' (ha.old u (hU _ _ h3) g' CK),by rw[ke,h6],?_,by rw[kg]⟩;have BQ:(mk j).den c.ρ=y:=by simpa using hy
     rw[a2,h4,kg,ha.w,ha.ρ,BQ];exact k3
    ·exact e5 c' (ha.mono λr hr=>by simp[hr]) (λb hb=>A3 b (by simp[hb])) r hr
 | @none t ts fl v vs rs _ _ ih=>
  intro ys f o j hm GJ;have go:∀{y:AV} {ys':List AV} {f' o':List Nat},ys=y::ys'->FO P w' ts fl.tail vs ys' f' o'->(∀b∈f',b∈f)->o'.Sublist o-> ∃recs:List AZ,Ny mk j (none::rs)=recs.map AZ.pair/\(recs.flatMap AZ.top).Sublist o/\(∀r∈recs,r.new=none/\c.U r.tag/\ ∀hs f,r.cx≠ .gd hs f)/\recs.map AZ.tag=Dc (none::rs)/\ ∀c',FA c c' w' recs->(∀b∈f,c'.ok b)-> ∀r∈recs,DH c' r.tag r.cx:=by rintro y ys' f' o' rfl Dl hf hs;obtain⟨recs,e1,e2,e3,e4,e5⟩:=ih (j+1) Dl (λi y hy=>by rw[show j+1+i=j+(i+1)from by omega];exact GJ (i+1) y (by simpa using hy));exact⟨recs,by simp[Ny,e1],e2.trans hs,e3,by simp[Dc]at e4 ⊢;exact e4,λc' ha A3=>e5 c' ha λb hb=>A3 b (hf b hb)⟩
  cases hm with
  |skip _ h8=>exact go rfl h8 (λ_ h=>h) (List.Sublist.refl _)
  |own _ _ _ _ h8=>exact go rfl h8 (λb hb=>by simp[hb]) (List.sublist_append_right _ _)
  |deep _ _ _ _ _ h8=>exact go rfl h8 (λ_ h=>h) (List.sublist_append_right _ _)
theorem zzZ(us:List Nat)(hU:∀u∈us,c.U u):∃recs:List AZ,ER us=recs.map AZ.pair/\recs.flatMap AZ.top=[]/\(∀r∈recs,r.new=none/\c.U r.tag/\ ∀hs f,r.cx≠ .gd hs f)/\recs.map AZ.tag=us/\ ∀c',FA c c' w' recs-> ∀r∈recs,DH c' r.tag r.cx:=by
 induction us with
 |nil=>exact⟨[],rfl,rfl,by simp,rfl,by simp⟩
 |cons u us ih=>
  obtain⟨recs,e1,e2,e3,e4,e5⟩:=ih λu hu=>hU u (by simp[hu]);refine⟨⟨u,none,[], .dead⟩::recs,by simp only[ER]at e1;simp[ER,e1,AZ.pair],by simp[e2],λr hr=> ?_,by simp[e4],λc' ha r hr=> ?_⟩
  ·rcases Ag.1 hr with rfl|hr
   ·exact⟨rfl,hU _ (by simp),by simp⟩
   ·exact e3 r hr
  ·rcases Ag.1 hr with rfl|hr
   ·have kg:=ha.G _ (List.mem_cons_self ..);simp only at kg;exact⟨by rw[kg],by rw[kg]⟩
   ·exact e5 c' (ha.mono λr hr=>by simp[hr]) r hr
structure Kh(c:Cx)(w':World)(nx m:Nat)(l:List (Nat × Ai))(hd o f:List Nat)(recs:List AZ):Prop where
 ents:l=recs.map AZ.pair
 ny:(recs.flatMap AZ.top).Sublist o
 new:∀r∈recs,r.new.isSome=true->nx<=r.tag/\r.tag<nx+m
 old:∀r∈recs,r.new=none->r.tag∈hd/\c.U r.tag
 all:∀t∈hd,∃r∈recs,r.tag=t
 nodup:hd.Nodup->(∀t,nx<=t->t<nx+m-> ¬c.U t)->(recs.map AZ.tag).Nodup
 ne:∀r∈recs,∀hs f,r.cx≠ .gd hs f
 ok:∀c',FA c c' w' recs->(∀b∈f,c'.ok b)-> ∀r∈recs,DH c' r.tag r.cx
theorem Kh.app{nx m m':Nat}{l l':List (Nat × Ai)}{hd Mw o o' f f':List Nat}{recs recs':List AZ}(h:Kh c w' nx m l hd o f recs)(k:Kh c w' (nx+m) m' l' Mw o' f' recs'):Kh c w' nx (m+m') (l++l') (hd++Mw) (o++o') (f++f') (recs++recs'):=by
 refine⟨by rw[h.ents,k.ents,List.map_append],by rw[List.flatMap_append];exact h.ny.append k.ny,λr hr hn=> ?_,λr hr hn=> ?_,λt ht=> ?_,λhn hU=> ?_,λr hr=> ?_,λc' ha A3 r hr=> ?_⟩
 ·rcases Ae.1 hr with hr|hr
  ·have:=h.new r hr hn;omega
  ·have:=k.new r hr hn;omega
 ·rcases Ae.1 hr with hr|hr
  ·exact⟨by simp[(h.old r hr hn).1],(h.old r hr hn).2⟩
  ·exact⟨by simp[(k.old r hr hn).1],(k.old r hr hn).2⟩
 ·rcases Ae.1 ht with ht|ht
  ·obtain⟨r,hr,e⟩:=h.all t ht;exact⟨r,by simp[hr],e⟩
  ·obtain⟨r,hr,e⟩:=k.all t ht;exact⟨r,by simp[hr],e⟩
 ·rw[List.nodup_append]at hn;rw[List.map_append,List.nodup_append];refine⟨h.nodup hn.1 λt h1 h2=>hU t h1 (by omega),k.nodup hn.2.1 λt h1 h2=>hU t (by omega) (by omega),λt1 Oc t2 LH he=> ?_⟩;obtain⟨q1,Hn,rfl⟩:=List.mem_map.1 Oc;obtain⟨q2,IX,rfl⟩:=List.mem_map.1 LH;cases n1:q1.new with
  |none=>
   obtain⟨a1,a2⟩:=h.old q1 Hn n1;cases n2:q2.new with
   |none=>exact hn.2.2 _ a1 _ (k.old q2 IX n2).1 he
   |some v2=>have:=k.new q2 IX (by simp[n2]);exact hU q2.tag (by omega) (by omega) (he▸a2)
  |some v1=>
   have:=h.new q1 Hn (by simp[n1]);cases n2:q2.new with
   |none=>exact hU q1.tag (by omega) (by omega) (he▸(k.old q2 IX n2).2)
   |some v2=>have:=k.new q2 IX (by simp[n2]);omega
 ·rcases Ae.1 hr with hr|hr
  ·exact h.ne r hr
  ·exact k.ne r hr
 ·rcases Ae.1 hr with hr|hr
  ·exact h.ok c' (ha.mono λr hr=>by simp[hr]) (λb hb=>A3 b (by simp[hb])) r hr
  ·exact k.ok c' (ha.mono λr hr=>by simp[hr]) (λb hb=>A3 b (by simp[hb])) r hr
theorem Kh.l5{nx:Nat}{l:List (Nat × Ai)}{hd o f:List Nat}{recs:List AZ}(e1:l=recs.map AZ.pair)(e2:(recs.flatMap AZ.top).Sublist o)(e3:∀r∈recs,r.new=none/\c.U r.tag/\ ∀hs f,r.cx≠ .gd hs f)(e4:recs.map AZ.tag=hd)(e5:∀c',FA c c' w' recs->(∀b∈f,c'.ok b)-> ∀r∈recs,DH c' r.tag r.cx):Kh c w' nx 0 l hd o f recs:=by
 refine⟨e1,e2,λr hr hn=> ?_,λr hr _=>⟨?_,(e3 r hr).2.1⟩,λt ht=> ?_,λhn _=>by rw[e4];exact hn,λr hr=>(e3 r hr).2.2,λc' ha A3=>e5 c' ha A3⟩
 ·rw[(e3 r hr).1]at hn;cases hn
 ·rw[<-e4];exact List.mem_map.2 ⟨r,hr,rfl⟩
 ·rw[<-e4]at ht;obtain⟨r,hr,e⟩:=List.mem_map.1 ht;exact⟨r,hr,e⟩
theorem zHn{ts:List TypeId}{ms:List PM}{vs:List Value}{bs:List PA}(h:Kl P c ts ms vs bs)(hU:∀t g,c.K t g->c.U t){r:Nat}:∀{Bs:List AV} {f o:List Nat} (nx j:Nat),DY P w' ts ms vs Bs f o->(∀k y,Bs[k]?=some y->(E.proj (.var r) (j+k+1)).den c.ρ=y)->
  Bs.length=J0 bs/\ ∃recs,Kh c w' nx (L9 P bs) (after P r nx bs j) (Ea bs) o f recs:=by
 have nilS:∀nx,Kh c w' nx 0 [] [] [] [] []:=λnx=>⟨rfl,by simp,by simp,by simp,by simp,by simp,by simp,by simp⟩
 induction h with
 |nil=>intro Bs f o nx j hb _;cases hb;exact⟨rfl,[],by simpa[after,Ea,L9]using nilS nx⟩
 | @ro ts ms v vs bs hm E9 ih=>
  intro Bs f o nx j hb hB;cases hb with
  |nil=>exact ih nx j .nil hB
  |ro _ h8=>exact ih nx j h8 hB
  |va h9 _=>rw[hm]at h9;cases h9
  |mu h9 _ _ _=>rw[hm]at h9;cases h9
  |bx h9 _ _ _ _ _ _ _=>rw[hm]at h9;cases h9
 | @va ts ms own v vs bs us hm MJ E9 ih=>
  intro Bs f o nx j hb hB;obtain⟨recs1,e1,e2,e3,e4,e5⟩:=zzZ (c:=c) (w':=w') us MJ;have s1:Kh c w' nx 0 (ER us) us [] [] recs1:= .l5 e1 (by rw[e2];exact List.Sublist.refl _) e3 e4 λc' ha _=>e5 c' ha;cases hb with
  |nil=>obtain⟨h1,recs2,s2⟩:=ih nx j .nil hB;exact⟨by simpa[J0]using h1,recs1++recs2,by simpa[after,Ea,L9]using s1.app s2⟩
  |ro h9 _=>rw[hm]at h9;cases h9
  |va _ h8=>obtain⟨h1,recs2,s2⟩:=ih nx j h8 hB;exact⟨by simpa[J0]using h1,recs1++recs2,by simpa[after,Ea,L9]using s1.app s2⟩
  |mu h9 _ _ _=>rw[hm]at h9;cases h9
  |bx h9 _ _ _ _ _ _ _=>rw[hm]at h9;cases h9
 | @mu t ts ms own v vs bs us rs hm MJ FV E9 ih=>
  intro Bs f o nx j hb hB;cases hb with
  |ro h9 _=>rw[hm]at h9;cases h9
  |va h9 _=>rw[hm]at h9;cases h9
  |bx h9 _ _ _ _ _ _ _=>rw[hm]at h9;cases h9
  | @mu _ _ _ own2 _ _ us2 ys y Bs f1 f o1 o h9 hg Vz h8=>
   rw[hm]at h9;cases h9;obtain⟨h1,recs2,s2⟩:=ih nx (j+1) h8 (λk y hy=>by rw[show j+1+k+1=j+(k+1)+1 from by omega];exact hB (k+1) y (by simpa using hy));have hy:=hB 0 y rfl;have P5:us2=us:=by
    split at MJ
    ·rename_i AN;rw[if_pos AN]at hg;obtain⟨rfl,_⟩:=hg;exact zwh MJ
    ·rename_i AN;rw[if_neg AN]at hg;rw[hg.1,MJ]
   subst P5;obtain⟨recs1,e1,e2,e3,e4,e5⟩:=zET (w':=w') (mk:=Ec (.proj (.var r) (j+1)) (Aq P t)) FV hU 0 Vz (by
    intro i z hz;split at hg
    ·rename_i AN;rw[AN];exact Yd (by rw[<-hg.2];exact hy) i z hz
    ·rename_i AN;have H0:Aq P t=false:=by simpa using AN
     rw[hg.2]at hz;cases i with
     |zero=>simp at hz;subst hz;rw[H0];simpa[Ec]using hy
     |succ i=>simp at hz)
   have s1:Kh c w' nx 0 _ (Dc rs) o1 f1 recs1:= .l5 e1 e2 e3 e4 e5;exact⟨by simp[J0,h1],recs1++recs2,by simpa[after,Ea,L9]using s1.app s2⟩
 | @bx t ts ms own own' ty v vs bs T b g olds hm EK hv hK hH hol E9 ih=>
  intro Bs f o nx j hb hB;cases hb with
  |ro h9 _=>rw[hm]at h9;cases h9
  |va h9 _=>rw[hm]at h9;cases h9
  |mu h9 _ _ _=>rw[hm]at h9;cases h9
  | @bx _ _ _ own2 own3 ty2 b2 C _ _ ys y Bs f1 o1 f o h9 KY Dh hh C8 I0 hc h8=>
   rw[hm]at h9;cases h9;rw[EK]at KY;cases KY;have Y5:b2=b:=by rw[hv]at Dh;cases Dh;rfl
   subst Y5;obtain⟨h1,recs2,s2⟩:=ih (nx+(Bc P ty).length) (j+1) h8 (λk y hy=>by rw[show j+1+k+1=j+(k+1)+1 from by omega];exact hB (k+1) y (by simpa using hy));have hy:=hB 0 y rfl;obtain⟨recs0,d1,d2,d3,d4,d5⟩:=zzZ (c:=c) (w':=w') olds hol;have s0:Kh c w' nx 0 (ER olds) olds [] [] recs0:= .l5 d1 (by rw[d2];exact List.Sublist.refl _) d3 d4 λc' ha _=>d5 c' ha;obtain⟨recs1,e1,e2,e3,e4,_,e5⟩:=Tu (c:=c) (nx:=nx) (mk:=Ec (.proj (.var r) (j+1)) true) hc 0 (Yd (by rw[<-I0];exact hy));have hcU:=hU _ _ hK;have s1:Kh c w' nx (Bc P ty).length ((T, .box ty g (Dn P nx (Ec (.proj (.var r) (j+1)) true) 0 (Bc P ty) own').1)::(Dn P nx (Ec (.proj (.var r) (j+1)) true) 0 (Bc P ty) own').2) [T] (b2::o1) f1 (⟨T,none,[b2], .box ty g (Dn P nx (Ec (.proj (.var r) (j+1)) true) 0 (Bc P ty) own').1⟩::recs1):=by
    refine⟨by simp[e1,AZ.pair],?_,λq hq hn=> ?_,λq hq hn=> ?_,by simp,λ_ Bo=> ?_,λq hq=> ?_,λc' ha A3 q hq=> ?_⟩
    ·simp only[List.flatMap_cons,e2,List.singleton_append];exact List.Sublist.refl _
    ·rcases Ag.1 hq with rfl|hq
     ·cases hn
     ·have:=e3 q hq;omega
    ·rcases Ag.1 hq with rfl|hq
     ·exact⟨by simp,hcU⟩
     ·have:=(e3 q hq).2.2;rw[hn]at this;cases this
    ·simp only[List.map_cons,List.nodup_cons];refine⟨λhm=> ?_,e4⟩;obtain⟨q,hq,hqt⟩:=List.mem_map.1 hm;have:=e3 q hq;exact Bo q.tag (by omega) (by omega) (hqt▸hcU)
    ·rcases Ag.1 hq with rfl|hq
     ·simp
     ·intro hs f he;obtain⟨q1,q2⟩:=e3 q hq;have:(q.tag,q.cx)∈(Dn P nx (Ec (.proj (.var r) (j+1)) true) 0 (Bc P ty) own').2:=by
       rw[e1];exact List.mem_map.2 ⟨q,hq,rfl⟩
      exact QL _ _ _ _ _ this he
    ·obtain⟨p1,p2⟩:=e5 c' (ha.mono λr hr=>by simp[hr]) A3;rcases Ag.1 hq with rfl|hq
     ·obtain⟨a1,a2⟩:=ha.K T 0 hK;have kg:=ha.G _ (List.mem_cons_self ..);simp only at kg;exact⟨b2,C,a1,by rw[a2,hH,hv],by rw[kg],by rw[kg],by rw[ha.w];exact hh,C8,p1⟩
     ·exact p2 q hq
   refine⟨by simp[J0,h1],recs0++((⟨T,none,[b2], .box ty g (Dn P nx (Ec (.proj (.var r) (j+1)) true) 0 (Bc P ty) own').1⟩::recs1)++recs2),?_⟩;have s3:=s0.app (s1.app s2);rw[Nat.zero_add]at s3;refine⟨by simpa[after]using s3.ents,s3.ny,s3.new,λq hq hn=> ?_,λt ht=> ?_,λhn Bo=> ?_,s3.ne,s3.ok⟩
   ·have:=s3.old q hq hn;simp only[Ea,List.cons_append,Ag,Ae,List.not_mem_nil,or_false,List.nil_append]at this ⊢;exact⟨by rcases this.1 with h|h|h;exact .inr (.inl h);exact .inl h;exact .inr (.inr h),this.2⟩
   ·refine s3.all t ?_;simp only[Ea,List.cons_append,Ag,Ae,List.nil_append]at ht ⊢;rcases ht with h|h|h
    ·exact .inr (.inl h)
    ·exact .inl h
    ·exact .inr (.inr h)
   ·refine s3.nodup ?_ Bo;simp only[Ea,List.cons_append,List.nodup_cons,List.nodup_append,Ae,not_or,List.nil_append]at hn ⊢;obtain⟨⟨n1,n2⟩,n3,n4,n5⟩:=hn;refine⟨n3,⟨n2,n4⟩,λa ha b hb=> ?_⟩;rcases Ag.1 hb with rfl|hb
    ·rintro rfl;exact n1 ha
    ·exact n5 a ha b hb
end
def Rc(P:Program):List TypeId->List Bool->List AV->Bool
 |t::ts,fl,y::ys=>((fl.headD false&&(CH P t).isSome)||Ds P t||y.scalar)&&Rc P ts fl.tail ys
 |_,_,_=>true
def Z0(P:Program)(t:TypeId)(fl:List Bool)(x:AV):Bool:=if FL P t fl then Rc P (Bc P t) fl (if Aq P t then x.cells else [x])else Ds P t||x.cells.all AV.scalar
def V7(P:Program):List TypeId->List Bool->List AV->Bool
 |t::ts,fl,x::xs=>Z0 P t fl x&&V7 P ts (fl.drop (Bc P t).length) xs
 |_,_,_=>true
def Wu(P:Program)(ts:List TypeId)(fl:List Bool)(R:AV):Bool:=match ts with
 | [t]=>Z0 P t fl R
 |ts=>match R with
  | .tup ys=>V7 P ts fl ys
  |_=>true
def Ji(P:Program):List TypeId->List PM->List AV->Bool
 |t::ts,ms,bs=>(match ms.headD .ro with
  | .ro=>Ji P ts ms.tail bs
  | .va _=>Ji P ts ms.tail bs
  | .mu _=>Ji P ts ms.tail bs.tail
  | .bx _ own'=>(match LM P t,bs with
   |some ty,b::_=>Rc P (Bc P ty) own' b.cells
   |_,_=>true)&&Ji P ts ms.tail bs.tail)
 | [],_,_=>true
def BN:List TypeId->List PM->Bool
 |_::ts,ms=>(match ms.headD .ro with
  | .mu _=>true
  | .bx .. =>true
  |_=>false)||BN ts ms.tail
 | [],_=>false
def Nv(P:Program)(fn:Func)(s:IM)(r:AV):Bool:=
 if BN (fn.params.toList++s.ft) s.c8 then(match r with
  | .tup (R::bs)=>Wu P fn.resultTypes.toList s.res R&&Ji P (fn.params.toList++s.ft) s.c8 bs
  |_=>false)
 else Wu P fn.resultTypes.toList s.res r
def K9(P:Program)(w:World)(ts:List TypeId)(fl:List Bool)(v:Value)(R:AV)(f o:List Nat):Prop:=match ts with
 | [t]=>DI P w t fl v R f o
 |ts=> ∃vs ys,v= .tuple vs.toArray/\R= .tup ys/\Lt P w ts fl vs ys f o
structure tH(P:Program)(fn:Func)(s:IM)(w:World)(vs:List Value)(rf hs:List Nat)(r:AV)(v:Value)(w':World):Prop where
 ex:∃R bs f1 o1 f2 o2,r=(match bs with| []=>R|_=> .tup (R::bs))/\K9 P w' fn.resultTypes.toList s.res v R f1 o1/\DY P w' (fn.params.toList++s.ft) s.c8 vs bs f2 o2/\(o1++o2).Nodup/\
  (∀b∈o1++o2,(b∈hs\/w.heap.size<=b)/\b<w'.heap.size)/\ ∀b∈f1++f2,b∉o1++o2/\(b∈rf\/b∈hs\/w.heap.size<=b)
 mod:Mod hs w w'
theorem Rel.ox{c:Cx}{n:Nat}{sl:Nat->SV}{hp:Nat->Option Ai}{a:Act}(h:Rel c n sl hp a){hs:List Nat}(hh:∀b∈hs,∃t,b∈(c.G t).top):tM c.w (λb=>b∈hs):=by
 obtain⟨p1,p2,p3⟩:=h.base.pk;refine⟨Nat.le_trans p1 h.base.size,MQ.mono (λb hb=>h.base.block b (by omega) λhm=>by have:=p3 b hm;omega) p2,λb hb=> ?_⟩;obtain⟨t,ht⟩:=hh b hb;rcases h.gw.allow t b (by simp[GI.own,ht])with k|k
 ·have:c.w0.heap.size<=b:=k;omega
 ·exact p3 b k
def UM(P:Program)(s:IM)(f:Nat)(xs:List AV)(r:AV):Prop:=
 ∃fn,P.funcs[f]?=some fn/\fn.body.isSome=true/\(fn.name== "runtime.NumGoroutine")=false/\Nv P fn s r=true/\xs.length=fn.params.size+fn.nfree/\s.ft.length<=fn.nfree/\
  ∀(w:World) (vs:List Value) (rf lf hs:List Nat),Eb P w (fn.params.toList++s.ft) s.c8 s.lo vs xs rf lf hs->(∀b∈hs,b∉rf)->(∀b∈hs,b∉lf)->hs.Nodup->tM w (λb=>b∈hs)->
   Calls P f vs.toArray w λe w'=> ∃v,e= .returned v/\tH P fn s w vs rf hs r v w'
def Cj(P:Program)(sg:BY)(f:Nat)(xs:List AV)(r:AV):Prop:=
 if f<1000000 then∃s,sg f=some s/\UM P s f xs r else UM P {c8:=[],res:=[]} (f-1000000) xs r
section
variable {P:Program} {w:World}
theorem zts{v:Value}{x:AV}{f:List Nat}(h:Rd w [v] [x] f)(hx:∀y∈x.cells,y.scalar=true):f=[]:=by
 by_cases AN:∃cs,x= .agg cs
 ·obtain⟨cs,rfl⟩:=AN;obtain⟨as_,_,_,hr⟩:=Kq h rfl;exact IG hr hx
 ·have:x.cells=[x]:=by cases x<;>first|rfl|exact absurd ⟨_,rfl⟩ AN
  rw[this]at hx;exact IG h hx
theorem zHJ{t el:TypeId}(h:CH P t=some el):Ds P t=true:=by have hu:=LY h;simp[Ds,Ch,Bc,ZC,hu]
theorem CA.flat{ts:List TypeId}{fl:List Bool}{us:List Value}{ys:List AV}{rf hs:List Nat}(h:CA P w ts fl us ys rf hs)(h1:Fg P ts fl=false)(h2:Rc P ts fl ys=true):rf=[]:=by
 induction h with
 |nil=>rfl
 |own k1 k2 k23 _ _ ih=>
  simp only[Fg,Bool.or_eq_false_iff]at h1;simp only[Rc,Ac]at h2;have hN:=k23;have hw:=h1.1;rw[zHJ k2,k1]at hw;rcases hN with⟨_,rfl⟩|⟨q1,q2⟩
  ·rw[ih h1.2 h2.2];rfl
  ·simp[ZL,k2,q1,q2]at hw
 |deep _ _ _ _ _ _ ih=>simp only[Fg,Bool.or_eq_false_iff]at h1;simp only[Rc,Ac]at h2;exact ih h1.2 h2.2
 | @rd t ts fl u us y ys f rf hs hn hr _ ih=>
  simp only[Fg,Bool.or_eq_false_iff]at h1;simp only[Rc,Ac]at h2;have DW:(fl.headD false&&(CH P t).isSome)=false:=by
   cases hh:fl.headD false with
   |false=>rfl
   |true=>rw[hn hh];rfl
  have nW:(fl.headD false&&ZL P t)=false:=by
   cases hh:fl.headD false with
   |false=>rfl
   |true=>simp[ZL,hn hh]
  rw[nW]at h1;rw[DW]at h2;have IY:Ds P t=false:=by simpa using h1.1
  rw[IY]at h2;have hs:y.scalar=true:=by simpa using h2.1
  rw[IG hr (by simpa using hs),ih h1.2 h2.2];rfl
theorem DI.flat{t:TypeId}{fl:List Bool}{v:Value}{x:AV}{rf hs:List Nat}(h:DI P w t fl v x rf hs)(h1:sK P t fl=false)(h2:Z0 P t fl x=true):rf=[]:=by
 unfold DI at h;unfold sK at h1;unfold Z0 at h2;split at h
 ·rename_i hf;rw[if_pos hf]at h1 h2;obtain⟨us,ys,hg,hc⟩:=h;split at hg
  ·rename_i AN;obtain⟨_,rfl,_⟩:=hg;rw[if_pos AN]at h2;exact hc.flat h1 h2
  ·rename_i AN;obtain⟨_,rfl⟩:=hg;rw[if_neg AN]at h2;exact hc.flat h1 h2
 ·rename_i hf;rw[if_neg hf]at h1 h2;rw[h1]at h2;exact zts h.1 (by simpa using h2)
theorem Lt.flat{ts:List TypeId}{fl:List Bool}{vs:List Value}{xs:List AV}{rf hs:List Nat}(h:Lt P w ts fl vs xs rf hs)(h1:DS P ts fl=false)(h2:V7 P ts fl xs=true):rf=[]:=by
 induction h with
 |nil=>rfl
 |cons hv _ ih=>simp only[DS,Bool.or_eq_false_iff]at h1;simp only[V7,Ac]at h2;rw[hv.flat h1.1 h2.1,ih h1.2 h2.2];rfl
theorem K9.flat{ts:List TypeId}{fl:List Bool}{v:Value}{R:AV}{f o:List Nat}(h:K9 P w ts fl v R f o)(h1:DS P ts fl=false)(h2:Wu P ts fl R=true):f=[]:=by
 match ts,h,h1,h2 with
 | [t],h,h1,h2=>simp only[DS,Bool.or_false]at h1;exact DI.flat h h1 h2
 | [],h,h1,h2=>obtain⟨vs,ys,_,rfl,hv⟩:=h;exact hv.flat h1 h2
 |t::u::ts,h,h1,h2=>obtain⟨vs,ys,_,rfl,hv⟩:=h;exact hv.flat h1 h2
theorem Dd.void{ety sz:Nat}{a:Option Addr}{x:AV}{top N:List Nat}(h:Dd w ety sz (.slice a 0 0) x top N):N=[]:=by
 obtain⟨xs,_,_,_,⟨_,_,_,h⟩|⟨g,cap,C,hv,h6,_,_,_,_,_,hr⟩⟩:=h
 ·exact h
 ·have h0:xs.length=0:=by injection hv with _ h _;exact h.symm
  have:xs=[]:=by cases xs with|nil=>rfl|cons _ _=>simp at h0
  subst this;simp[Az]at hr;cases hr;rfl
theorem FO.flat{c:Cx}{ts:List TypeId}{fl:List Bool}{us:List Value}{rs:List (Option RI)}(h:HO P c ts fl us rs):∀{ys:List AV} {f o:List Nat},FO P w ts fl us ys f o->rs.any RI.lent=false->f=[]:=by
 induction h with
 |nil=>intro ys f o hm _;cases hm;rfl
 |row k1 k2 k23 _ _ _ _ ih=>
  intro ys f o hm hl;simp only[List.any_cons,Bool.or_eq_false_iff,RI.lent]at hl;cases hm with
  |own _ q2 q23 _ q4=>
   rw[k2]at q2;cases q2;rcases q23 with⟨_,rfl⟩|⟨q,_⟩
   ·exact ih q4 hl.2
   ·rw[q]at hl;simp at hl
  |deep _ _ _ _ _ q=>exact ih q hl.2
  |skip _ q=>exact ih q hl.2
 |deep k1 k2 k21 k22 _ _ _ _ _ ih=>
  intro ys f o hm hl;simp only[List.any_cons,Bool.or_eq_false_iff]at hl;cases hm with
  |own _ q2 q23 _ q4=>
   rw[k2]at q2;cases q2;rcases q23 with⟨_,rfl⟩|⟨_,q⟩
   ·exact ih q4 hl.2
   ·rw[q]at k22;cases k22
  |deep _ _ _ _ _ q=>exact ih q hl.2
  |skip _ q=>exact ih q hl.2
 |none hv _ ih=>
  intro ys f o hm hl;simp only[List.any_cons,Bool.or_eq_false_iff]at hl;cases hm with
  |own q1 q2 _ q3 q4=>
   rcases hv q1 with hh|⟨a,rfl⟩
   ·rw[hh]at q2;cases q2
   ·rw[Dd.void q3];exact ih q4 hl.2
  |deep _ _ _ _ _ q=>exact ih q hl.2
  |skip _ q=>exact ih q hl.2
theorem DY.flat{c:Cx}{ts:List TypeId}{ms:List PM}{vs:List Value}{bs:List PA}(h:Kl P c ts ms vs bs):∀{Bs:List AV} {f o:List Nat},DY P w ts ms vs Bs f o->EA P bs=false->Ji P ts ms Bs=true->f=[]:=by
 induction h with
 |nil=>intro Bs f o hb _ _;cases hb;rfl
 | @ro ts ms v vs bs hm _ ih=>
  intro Bs f o hb h1 h2;cases hb with
  |nil=>rfl
  |ro _ h8=>simp only[Ji,hm]at h2;exact ih h8 h1 h2
  |va h9 _=>rw[hm]at h9;cases h9
  |mu h9 _ _ _=>rw[hm]at h9;cases h9
  |bx h9 _ _ _ _ _ _ _=>rw[hm]at h9;cases h9
 | @va ts ms own v vs bs us hm _ _ ih=>
  intro Bs f o hb h1 h2;cases hb with
  |nil=>rfl
  |ro h9 _=>rw[hm]at h9;cases h9
  |va _ h8=>simp only[Ji,hm]at h2;exact ih h8 h1 h2
  |mu h9 _ _ _=>rw[hm]at h9;cases h9
  |bx h9 _ _ _ _ _ _ _=>rw[hm]at h9;cases h9
 | @mu t ts ms own v vs bs us rs hm MJ FV _ ih=>
  intro Bs f o hb h1 h2;cases hb with
  |ro h9 _=>rw[hm]at h9;cases h9
  |va h9 _=>rw[hm]at h9;cases h9
  | @mu _ _ _ own2 _ _ us2 ys y Bs f1 f o1 o h9 hg Vz h8=>
   rw[hm]at h9;cases h9;simp only[Ji,hm]at h2;simp only[EA,Bool.or_eq_false_iff]at h1;have P5:us2=us:=by
    split at MJ
    ·rename_i AN;rw[if_pos AN]at hg;obtain⟨rfl,_⟩:=hg;exact zwh MJ
    ·rename_i AN;rw[if_neg AN]at hg;rw[hg.1,MJ]
   subst P5;rw[FO.flat FV Vz h1.1,ih h8 h1.2 h2];rfl
  |bx h9 _ _ _ _ _ _ _=>rw[hm]at h9;cases h9
 | @bx t ts ms own own' ty v vs bs T b g olds hm EK _ _ _ _ _ ih=>
  intro Bs f o hb h1 h2;cases hb with
  |ro h9 _=>rw[hm]at h9;cases h9
  |va h9 _=>rw[hm]at h9;cases h9
  |mu h9 _ _ _=>rw[hm]at h9;cases h9
  |bx h9 KY _ _ _ hy hc h8=>rw[hm]at h9;cases h9;rw[EK]at KY;cases KY;simp only[Ji,hm,EK,Ac,hy,List.tail_cons]at h2;simp only[EA,Bool.or_eq_false_iff]at h1;rw[hc.flat h1.1 h2.1,ih h8 h1.2 h2.2];rfl
theorem zrS{ts:List TypeId}{ms:List PM}{vs:List Value}{Bs:List AV}{f o:List Nat}(h:DY P w ts ms vs Bs f o):Bs=[]↔BN ts ms=false:=by
 induction h with
 |nil=>simp[BN]
 |ro hm _ ih=>simp only[BN,hm,Bool.false_or];exact ih
 |va hm _ ih=>simp only[BN,hm,Bool.false_or];exact ih
 |mu hm _ _ _ _=>simp only[BN,hm,Bool.true_or];simp
 |bx hm _ _ _ _ _ _ _ _=>simp only[BN,hm,Bool.true_or];simp
end
section
variable {P:Program} {c:Cx} {n nx:Nat} {sl sl0:Nat->SV} {hp hp0:Nat->Option Ai} {a:Act} {o:Oper} {gs:Gd} {e:Bf} {sg:BY} {nv:Nat}
theorem zCP{xs:List Operand}:∀{ss:List SV},(∀x∈xs,∀s,BW sl0 gs x=some s->SR c [s] [a.eval x])->xs.mapM (BW sl0 gs)=some ss->SR c ss (xs.map a.eval):=by
 induction xs with
 |nil=>intro ss _ h;simp at h;subst h;exact .nil
 |cons x xs ih=>intro ss hx h;rw[List.mapM_cons]at h;simp only[Option.bind_eq_bind,AA,Option.pure_def,Af]at h;obtain⟨s,hs,ss',GV,rfl⟩:=h;exact(hx x (by simp) s hs).cons (ih (λy hy=>hx y (by simp[hy])) GV)
theorem T9:∀{l:List Nat},Nz l=true->l.Nodup
 | [],_=>by simp
 |x::l,h=>by simp only[Nz,Ac,Bk,List.contains_eq_mem,decide_eq_false_iff_not]at h;exact List.nodup_cons.2 ⟨h.1,T9 h.2⟩
theorem zHF{c1:Cx}{w':World}{recs:List AZ}{hs f o:List Nat}(gw:GW c)(hg:∀t,(c1.G t).top=(c.G t).top\/(c1.G t).top=[])(hA:c1.A=c.A)(lQ:c1.Mu=c.Mu)(Of:c1.w0=c.w0)(hB:c.w0.heap.size<=c.w.heap.size)
  (hn:(recs.map AZ.tag).Nodup) (Ct:∀r∈recs,∀b∈r.top,b∈o) (Ie:∀b∈hs,∃r∈recs,b∈(c.G r.tag).top) {rf:List Nat} (N8:∀b∈rf,c1.ok b) (hf:∀b∈f,b∉o/\(b∈rf\/b∈hs\/c.w.heap.size<=b)):∀b∈f,(c1.fj w' recs).ok b:=by
 intro b hb;obtain⟨h1,h2⟩:=hf b hb;have hM:(c1.fj w' recs).M b-> ∃t,(∀r∈recs,r.tag≠t)/\b∈(c1.G t).top:=by
  rintro⟨t,ht⟩;by_cases hT:∃r∈recs,r.tag=t
  ·obtain⟨r,hr,rfl⟩:=hT;rw[Cx.fy hn hr]at ht;exact absurd (Ct r hr b ht) h1
  ·rw[Cx.ej λr hr hh=>hT ⟨r,hr,hh⟩]at ht;exact⟨t,λr hr hh=>hT ⟨r,hr,hh⟩,ht⟩
 have sub:∀t,b∈(c1.G t).top->b∈(c.G t).top:=λt ht=>by
  rcases hg t with hh|hh
  ·rw[<-hh];exact ht
  ·rw[hh]at ht;simp at ht
 rcases h2 with h2|h2|h2
 ·refine⟨λhm=> ?_,(N8 b h2).2⟩;obtain⟨t,_,ht⟩:=hM hm;exact(N8 b h2).1 ⟨t,ht⟩
 ·obtain⟨r,hr,Y6⟩:=Ie b h2;refine⟨λhm=> ?_, .inr ?_⟩
  ·obtain⟨t,D4,ht⟩:=hM hm;exact gw.dt r.tag t (D4 r hr) b (by simp[GI.own,Y6]) (by simp[GI.own,sub t ht])
  ·have:=gw.allow r.tag b (by simp[GI.own,Y6]);simp only[Cx.fj,Cx.B,Of,lQ]at this ⊢;exact this
 ·refine⟨λhm=> ?_, .inr (.inl ?_)⟩
  ·obtain⟨t,_,ht⟩:=hM hm;have:=gw.inb t b (by simp[GI.own,sub t ht]);omega
  ·simp only[Cx.fj,Cx.B,Of];omega
theorem zIx(h:BB P c n nx sl hp a sl0 hp0 o gs){cl:Call}{fo:Operand}(ho:o.op= .call cl)(AD:cl.callee= .value fo){g:Nat}{caps:BS}(hf:BW sl0 gs fo=some (.fn g caps)){as_:List SV}(has:cl.args.toList.mapM (BW sl0 gs)=some as_)
  (hg:g<1000000) (he:YO P sg hp0 gs nv nx g (as_++caps.toList)=some e) (Br:∀c',e.call=some c'-> ∃r,c.ρ[nv]?=some r/\JQ (Cj P sg) c'.fn ((EL.of c'.args).den c.ρ) c.ρ r):AJ P o c n nx sl hp gs a e:=by
 have nR:fo∈o.op.operands:=by simp[ho,Op.operands,Call.operands,AD]
 have nQ:∀x∈cl.args.toList,x∈o.op.operands:=λx hx=>by
  have:x∈cl.args:=by simpa using hx
  simp[ho,Op.operands,Call.operands,AD,this]
 have N8:=h.dy hf nR;generalize mU:a.eval fo=fv at N8;cases N8 with
 |fn Va h8=>
 rename_i capv;have Aj:=(zCP (a:=a) (λx hx s hs=>h.dy hs (nQ x hx)) has).app Va;unfold YO at he;split at he
 ·rename_i fn s GG JE;split at he
  ·cases he
  rename_i hlen;simp only[Bool.or_eq_true,not_or,Bool.not_eq_true,bne_eq_false_iff_eq]at hlen;split at he
  ·cases he
  rename_i es bs us uz Bi;split at he
  ·cases he
  rename_i Cb;simp only[Bool.or_eq_true,Bk,not_or,Bool.not_eq_false,Bool.not_eq_true]at Cb;obtain⟨⟨nU,GM⟩,ME⟩:=Cb;have VE:=T9 nU;have H4:∀u∈us,u∉Ea bs:=λu hu hh=>by rw[List.any_eq_false]at GM;have:=GM u hu;simp only[List.contains_eq_mem,AR]at this;exact this hh
  have Mp:∀u∈uz,u∉Ea bs:=λu hu hh=>by rw[List.any_eq_false]at ME;have:=ME u hu;simp only[List.contains_eq_mem,AR]at this;exact this hh
  simp only at he;split at he
  ·cases he
  rename_i BJ;simp only[Nat.not_le]at BJ;split at he
  ·cases he
  rename_i JC;split at he
  ·cases he
  rename_i fz Ia;have hK:∀t g,c.K t g->c.U t:=h.rel.de;obtain⟨rf,lf,hs,q1,q2,qz,q3,q4,q5,q6⟩:=zCv (P:=P) h.rel.base h.eh h.gs hK (as_++caps.toList) Bi Aj (by rw[hlen.1.2,Av,BF];have:=hlen.2;simp only[decide_eq_false_iff_not,Nat.not_lt]at this;omega);obtain⟨fts,IT,Vn⟩:∃fts,Eg hp0 gs fts=some fz/\ ∀t∈fts,t∈us:=by
   split at Ia
   ·exact⟨us,Ia,λt ht=>ht⟩
   ·simp only[Af]at Ia;subst Ia;exact⟨[],rfl,by simp⟩
  have DM:=h.rel.freeze h.hp h.gs IT;have NR:∀t∈fz.map (·.1),t∈us:=λt ht=>by obtain⟨⟨t',e'⟩,hm,rfl⟩:=List.mem_map.1 ht;exact Vn _ ((QI h.gs IT).1 t' e' hm).1
  have UT:∀t,((c.da (fz.map (·.1))).G t).top=(c.G t).top\/((c.da (fz.map (·.1))).G t).top=[]:=λt=>by
   simp only[Cx.da];split
   ·exact .inr rfl
   ·exact .inl rfl
  have hGh:∀t∈Ea bs,(c.da (fz.map (·.1))).G t=c.G t:=λt ht=>by simp only[Cx.da];rw[if_neg];intro hh;exact H4 t (NR t hh) ht
  have hEh:∀t∈Ea bs,(c.da (fz.map (·.1))).E t=c.E t:=λt ht=>by simp only[Cx.da];rw[if_neg];intro hh;exact H4 t (NR t hh) ht
  have oO:hs.Nodup:=by
   rw[q3];have:∀l:List Nat,l.Nodup->(l.flatMap λt=>(c.G t).top).Nodup:=by
    intro l
    induction l with
    |nil=>intro _;simp
    |cons t l ih=>intro hl;rw[List.nodup_cons]at hl;rw[List.flatMap_cons,List.nodup_append];refine⟨(List.nodup_append.1 (h.rel.gw.nodup t)).1,ih hl.2,λx hx y hy GY=> ?_⟩;subst GY;obtain⟨u,hu,oZ⟩:=List.mem_flatMap.1 hy;exact h.rel.gw.dt t u (λhh=>hl.1 (hh▸hu)) x (by simp[GI.own,hx]) (by simp[GI.own,oZ])
   exact this _ VE
  have KO:∀b∈hs,∃t∈Ea bs,b∈(c.G t).top:=λb hb=>by rw[q3]at hb;exact List.mem_flatMap.1 hb
  have GF:∀b∈hs,b∉rf:=λb hb hr=>by
   obtain⟨t,ht,C6⟩:=KO b hb;rcases q2 b hr with hh|⟨u,hu,Jv⟩
   ·exact hh.1 ⟨t,C6⟩
   ·exact h.rel.gw.dt t u (λhh=>H4 u hu (hh▸ht)) b (by simp[GI.own,C6]) (by simp[GI.own,Jv])
  have KI:∀b∈hs,b∉lf:=λb hb hr=>by
   obtain⟨t,ht,C6⟩:=KO b hb;rcases qz b hr with(hh|⟨u,hu,Jv⟩)|⟨h1,h2⟩
   ·exact hh.1 ⟨t,C6⟩
   ·exact h.rel.gw.dt t u (λhh=>Mp u hu (hh▸ht)) b (by simp[GI.own,C6]) (by simp[GI.own,Jv])
   ·rcases h.rel.gw.allow t b (by simp[GI.own,C6])with k|k
    ·have:c.w0.heap.size<=b:=k;omega
    ·exact h2 k
  have FQ:∃(val:SV) (l:List (Nat × Ai)),e={call:=some ⟨.inl g,es⟩,val:=val,cx:=fz++(Wq gs l++after P nv (nx+(fn.resultTypes.toList.flatMap (Bc P)).length) bs 0)}/\
    ∀(R:AV) (w':World) (v:Value) (f1 o1:List Nat),K9 P w' fn.resultTypes.toList s.res v R f1 o1->(if J0 bs=0 then E.var nv else .proj (.var nv) 0).den c.ρ=R-> ∃recs:List AZ,l=recs.map AZ.pair/\recs.flatMap AZ.top=o1/\(∀r∈recs,nx<=r.tag/\r.tag<nx+(fn.resultTypes.toList.flatMap (Bc P)).length/\r.new.isSome)/\(recs.map AZ.tag).Nodup/\
     (∀r∈recs,∀hs f,r.cx≠ .gd hs f)/\ ∀c',FA c c' w' recs->(∀b∈f1,c'.ok b)->SR c' [val] [v]/\ ∀r∈recs,DH c' r.tag r.cx:=by
   have BU:∀{l:List (Nat × Ai)} {recs:List AZ},l=recs.map AZ.pair->(∀t x,(t,x)∈l-> ∀hs f,x≠ .gd hs f)-> ∀r∈recs,∀hs f,r.cx≠ .gd hs f:=by rintro l recs rfl hh r hr;exact hh r.tag r.cx (List.mem_map.2 ⟨r,hr,rfl⟩)
   have fvne:∀(t:TypeId) (k:Nat) (fl:List Bool) (x:E) (u:Nat) (y:Ai),(u,y)∈(QX P k t fl x).2-> ∀hs f,y≠ .gd hs f:=by
    intro t k fl x u y hy hs f;unfold QX at hy;split at hy
    ·exact QL _ _ _ _ _ hy
    ·simp at hy
   split at he
   ·rename_i t VY;simp only[Af]at he;subst he;refine⟨_,_,rfl,λR w' v f1 o1 hr hR=> ?_⟩;rw[VY]at hr;obtain⟨recs,e1,e2,e3,e4,e5⟩:=ztq (c:=c) (nx:=nx) (x:=if J0 bs=0 then E.var nv else .proj (.var nv) 0) (show DI P w' t s.res v R f1 o1 from hr) hR;exact⟨recs,e1,e2,by simpa[VY]using e3,e4,BU e1 (fvne _ _ _ _),e5⟩
   ·rename_i VY;simp only[Af]at he;subst he;refine⟨_,_,rfl,λR w' v f1 o1 hr hR=> ?_⟩;obtain⟨vs,ys,rfl,rfl,hv⟩:∃vs ys,v= .tuple vs.toArray/\R= .tup ys/\Lt P w' fn.resultTypes.toList s.res vs ys f1 o1:=by
     unfold K9 at hr;split at hr
     ·rename_i t ht;exact absurd ht (VY t)
     ·exact hr
    obtain⟨recs,e1,e2,e3,e4,e5⟩:=zzd (c:=c) (x:=if J0 bs=0 then E.var nv else .proj (.var nv) 0) hv nx 0 (λk y hy=>by show AV.proj ((if J0 bs=0 then E.var nv else .proj (.var nv) 0).den c.ρ) (0+k)=y;rw[hR];simp[AV.proj,hy])
    have fvsne:∀(ts:List TypeId) (k:Nat) (fl:List Bool) (x:E) (i u:Nat) (y:Ai),(u,y)∈(O1 P k ts fl x i).2-> ∀hs f,y≠ .gd hs f:=by
     intro ts
     induction ts with
     |nil=>intro k fl x i u y hy;simp[O1]at hy
     |cons t ts ih=>
      intro k fl x i u y hy;simp only[O1,Ae]at hy;rcases hy with hy|hy
      ·exact fvne _ _ _ _ _ _ hy
      ·exact ih _ _ _ _ _ _ hy
    exact⟨recs,e1,e2,e3,e4,BU e1 (fvsne _ _ _ _ _),λc' ha A3=>⟨.tup (by rw[BS.ax];exact(e5 c' ha A3).1) .nil,(e5 c' ha A3).2⟩⟩
  obtain⟨val,l,rfl,P2⟩:=FQ;obtain⟨r,hr,A3⟩:=Br _ rfl;have P1:∃s',sg g=some s'/\UM P s' g ((EL.of es).den c.ρ) r:=by have A3:Cj P sg g ((EL.of es).den c.ρ) r:=A3;unfold Cj at A3;rwa[if_pos hg]at A3
  obtain⟨s',A9,fn',KM,Ex,GL,Cz,_,_,F7⟩:=P1;rw[JE]at A9;cases A9;rw[GG]at KM;cases KM;rw[EL.ez]at F7;have Br:=F7 c.w _ rf lf hs q1 GF KI oO (h.rel.ox λb hb=>by obtain⟨t,_,ht⟩:=KO b hb;exact⟨t,ht⟩);have ex:(execOp a.eval o).run P c.w= .ok (.enter g (cl.args.map a.eval++capv.toArray)) c.w:=by
   have hb:fn.body.isNone=false:=by simpa using Ex
   simp only[execOp,ho,resolve,AD,mU,Deferred.ofValue,Sem.run_bind,Sem.run_pure,Result.andThen_ok,invoke,callFunc,run_program,GG];simp[GL,hb]
  intro next Q hk
  unfold Oper.wp;rw[ex,Oper.upon_enter];have Ps:cl.args.map a.eval++capv.toArray=((cl.args.toList.map a.eval)++capv).toArray:=by apply Array.ext';simp
  rw[Ps];refine Br.mono ?_;rintro e' w' ⟨v,rfl,⟨R,Bs,f1,o1,f2,o2,MG,A1,FP,Ii,VH,Vk⟩,Bg⟩;show next (a.put o.dst v) w'
  have UR:∀k y,Bs[k]?=some y->(E.proj (.var nv) (0+k+1)).den c.ρ=y:=by
   intro k y hy;cases Bs with
   |nil=>simp at hy
   |cons B Bs=>simp only[E.den,hr,Be,MG,AV.proj,Nat.zero_add,List.getElem?_cons_succ,hy]
  obtain⟨VD,recsB,hB⟩:=zHn (w':=w') q4 hK (r:=nv) (nx+(fn.resultTypes.toList.flatMap (Bc P)).length) 0 FP UR;have hR:(if J0 bs=0 then E.var nv else .proj (.var nv) 0).den c.ρ=R:=by
   cases Bs with
   |nil=>rw[if_pos (by simpa using VD.symm)];simp only[E.den,hr,Be,MG]
   |cons B Bs=>rw[if_neg (by rw[<-VD];simp)];simp[E.den,hr,MG,AV.proj]
  obtain⟨recsV,v1,v2,v3,v4,v5,v6⟩:=P2 R w' v f1 o1 A1 hR;have GN:∀t,nx<=t->t<nx+((fn.resultTypes.toList.flatMap (Bc P)).length+L9 P bs)-> ¬c.U t:=λt h1 h2=>h.new t h1 (by omega);have US:=hB.nodup VE λt h1 h2=>GN t (by omega) (by omega);have Du:((recsV++recsB).map AZ.tag).Nodup:=by
   rw[List.map_append,List.nodup_append];refine⟨v4,US,λt1 h1 t2 h2 he=> ?_⟩;obtain⟨p1,oB,rfl⟩:=List.mem_map.1 h1;obtain⟨p2,hp2,rfl⟩:=List.mem_map.1 h2;have a1:=v3 p1 oB;cases hn:p2.new with
   |none=>exact GN p1.tag (by omega) (by omega) (he▸(hB.old p2 hp2 hn).2)
   |some _=>have:=hB.new p2 hp2 (by simp[hn]);omega
  have IW:∀r∈recsV++recsB,r.new.isSome=true->nx<=r.tag/\r.tag<nx+((fn.resultTypes.toList.flatMap (Bc P)).length+L9 P bs):=λr hr hn=>by
   rcases Ae.1 hr with hr|hr
   ·have:=v3 r hr;omega
   ·have:=hB.new r hr hn;omega
  have Fe:((recsV++recsB).flatMap AZ.top).Sublist (o1++o2):=by rw[List.flatMap_append,v2];exact(List.Sublist.refl _).append hB.ny
  have nB:∀b∈hs,∃r∈recsV++recsB,b∈(c.G r.tag).top:=λb hb=>by obtain⟨t,ht,C6⟩:=KO b hb;obtain⟨r,hr,rfl⟩:=hB.all t ht;exact⟨r,by simp[hr],C6⟩
  have Vr:∀b∈hs,∃r∈recsV++recsB,b∈((c.da (fz.map (·.1))).G r.tag).top:=λb hb=>by obtain⟨t,ht,C6⟩:=KO b hb;obtain⟨r,hr,rfl⟩:=hB.all t ht;exact⟨r,by simp[hr],by rw[hGh _ ht];exact C6⟩
  have Fc:∀r∈recsV++recsB,∀b∈r.top,b∈o1++o2:=λr hr b hb=>Fe.subset (List.mem_flatMap.2 ⟨r,hr,hb⟩);have PX:∀b∈f1++f2,((c.da (fz.map (·.1))).fj w' (recsV++recsB)).ok b:=by
   cases Zm:(DS P fn.resultTypes.toList s.res||EA P bs)with
   |false=>
    simp only[Bool.or_eq_false_iff]at Zm;have Ci:Wu P fn.resultTypes.toList s.res R=true/\Ji P (fn.params.toList++s.ft) s.c8 Bs=true:=by
     unfold Nv at Cz;cases Jr:Bs with
     |nil=>
      rw[if_neg (by rw[(zrS FP).1 Jr];simp)]at Cz;rw[Jr]at MG;rw[MG]at Cz;refine⟨Cz,?_⟩;have:∀(ts:List TypeId) (ms:List PM),Ji P ts ms []=true:=by
       intro ts
       induction ts with
       |nil=>intro ms;rfl
       |cons t ts ih=>
        intro ms;unfold Ji;split
        ·exact ih _
        ·exact ih _
        ·exact ih _
        ·split
         ·rename_i hh;cases hh
         ·simpa using ih _
      exact this _ _
     |cons B Bs'=>
      rw[if_pos (by
       cases hh:BN (fn.params.toList++s.ft) s.c8 with
       |true=>rfl
       |false=>rw[(zrS FP).2 hh]at Jr;cases Jr)]at Cz
      rw[MG,Jr]at Cz;simpa using Cz
    have e1:f1=[]:=A1.flat Zm.1 Ci.1;have e2:f2=[]:=DY.flat q4 FP Zm.2 Ci.2;subst e1;subst e2;simp
   |true=>rw[Zm]at JC Ia;simp only[Bool.true_and,Bk,Bool.not_eq_false]at JC;simp only[if_true]at Ia;exact zHF (rf:=rf) h.rel.gw UT rfl rfl rfl h.rel.base.size Du Fc nB (λb hb=>X5 h.rel h.eh h.gs Ia (by simpa using JC) (q2 b hb)) Vk
  have Vi:after P nv (nx+(fn.resultTypes.toList.flatMap (Bc P)).length) bs 0=recsB.map λr=>(r.tag,Dg gs r.cx):=by
   cases Rl:bs with
   |nil=>
    have:=hB.ents;rw[Rl]at this;simp only[after]at this;have:recsB=[]:=by simpa using this.symm
    rw[this];rfl
   |cons b bs'=>have FF:=q6 (by rw[Rl];simp);rw[<-Rl,hB.ents,FF];rfl
  have BL:Wq gs l++after P nv (nx+(fn.resultTypes.toList.flatMap (Bc P)).length) bs 0=(recsV++recsB).map λr=>(r.tag,Dg gs r.cx):=by rw[Vi,List.map_append];congr 1;rw[v1];simp[Wq,AZ.pair]
  obtain⟨FR,Cm⟩:=DM.changes (w':=w') (recs:=recsV++recsB) (hs:=hs) (gs:=gs) h.gs Bg Du (λr hr hn=>by have:=IW r hr hn;exact GN _ this.1 this.2) Vr (Fe.nodup Ii) (λr hr b hb=>VH b (Fc r hr b hb))
   (λr hr=>by
    rcases Ae.1 hr with hr|hr
    ·exact v5 r hr
    ·exact hB.ne r hr)
   (λ_ r hr=>by
    have aft:=Cx.fc (c:=c.da (fz.map (·.1))) (w':=w') (recs:=recsV++recsB) h.rel.de Du (λr hr hn=>by have:=IW r hr hn;exact GN _ this.1 this.2);have aft':FA c ((c.da (fz.map (·.1))).fj w' (recsV++recsB)) w' (recsV++recsB):=⟨aft.ρ,aft.w,aft.G,aft.new,aft.K,aft.old,aft.kt,λr hr DW=>(aft.jg r hr DW).trans (by
     rcases Ae.1 hr with hr|hr
     ·have:=(v3 r hr).2.2;rw[DW]at this;cases this
     ·rw[hEh _ (hB.old r hr DW).1])⟩
    rcases Ae.1 hr with hr|hr
    ·exact(v6 _ (aft'.mono λr hr=>by simp[hr]) λb hb=>PX b (by simp[hb])).2 r hr
    ·exact hB.ok _ (aft'.mono λr hr=>by simp[hr]) (λb hb=>PX b (by simp[hb])) r hr)
  have aft:=Cx.fc (c:=c.da (fz.map (·.1))) (w':=w') (recs:=recsV++recsB) h.rel.de Du (λr hr hn=>by have:=IW r hr hn;exact GN _ this.1 this.2);have aft':FA c ((c.da (fz.map (·.1))).fj w' (recsV++recsB)) w' (recsV++recsB):=⟨aft.ρ,aft.w,aft.G,aft.new,aft.K,aft.old,aft.kt,λr hr DW=>(aft.jg r hr DW).trans (by
     rcases Ae.1 hr with hr|hr
     ·have:=(v3 r hr).2.2;rw[DW]at this;cases this
     ·rw[hEh _ (hB.old r hr DW).1])⟩
  have K2:=(v6 _ (aft'.mono λr hr=>by simp[hr]) λb hb=>PX b (by simp[hb])).1;rw[<-BL,<-QV]at FR;refine hk _ ((c.da (fz.map (·.1))).fj w' (recsV++recsB)) ⟨rfl,rfl,rfl,rfl,λt ht=> ?_⟩ (FR.put (K2.mkGd gs h.gs) o.dst);rcases ht with ht|⟨r,hr,rfl⟩
  ·exact .inl ht
  ·cases hn:r.new with
   |none=>
    rcases Ae.1 hr with hr|hr
    ·have:=(v3 r hr).2.2;rw[hn]at this;cases this
    ·exact .inl (hB.old r hr hn).2
   |some _=>have:=IW r hr (by simp[hn]);exact .inr ⟨this.1,by simp only[B1];omega⟩
 ·cases he
end
def CB(c:Cx)(us:List Nat):List Nat:=us.flatMap λt=>(c.G t).top
theorem zuA(c:Cx):CB c []=[]:=rfl
theorem jL(c:Cx)(u:Nat)(us:List Nat):CB c (u::us)=(c.G u).top++CB c us:=by simp[CB]
theorem Le(c:Cx)(us vs:List Nat):CB c (us++vs)=CB c us++CB c vs:=by simp[CB]
theorem TZ{c:Cx}{us:List Nat}{b:Nat}:b∈CB c us↔ ∃t∈us,b∈(c.G t).top:=by simp[CB]
theorem iR{c:Cx}(gw:GW c):∀{l:List Nat},l.Nodup->(CB c l).Nodup
 | [],_=>by simp[CB]
 |t::l,hl=>by
  rw[jL,List.nodup_append];rw[List.nodup_cons]at hl;refine⟨?_,iR gw hl.2,λa ha b hb Mo=> ?_⟩
  ·have:=gw.nodup t;simp only[GI.own]at this;exact(List.nodup_append.1 this).1
  ·subst Mo;obtain⟨u,hu,Jv⟩:=TZ.1 hb;exact gw.dt t u (λhh=>hl.1 (hh▸hu)) a (by simp[GI.own,ha]) (by simp[GI.own,Jv])
section
variable {P:Program} {c:Cx} {hp:Nat->Option Ai} {gs:Gd}
theorem qP{m:Nat}{u g:Nat}{x y:E}(hx:BI hp gs m (.own u g)=some x)(hy:JJ hp gs u g=some y):x=y:=by
 cases m with
 |zero=>simp[BI]at hx
 |succ m=>simp only[BI,hy,Af]at hx;exact hx.symm
theorem zFx{m:Nat}{x:E}(h:BI hp gs m .emp=some x):x= .lst .nil:=by
 cases m with
 |zero=>simp[BI]at h
 |succ m=>simp[BI]at h;exact h.symm
theorem zEe(eh:EH c hp)(k:Bu c.ρ gs){d:DT}{s:SV}{us:List Nat}{ck:List Cn}{v:Value}{x:E}{m:Nat}(h:sH hp gs d s=some (us,ck))(hs:SR c [s] [v])(hx:BI hp gs m s=some x)(hc:∀q∈ck,q.den c.ρ):
  DC c.w [d] [v] [x.den c.ρ] (CB c us)/\ ∀u∈us,∃g,c.K u g:=by
 unfold sH at h;split at h
 ·rename_i y;simp only[Af,A0]at h;obtain⟨rfl,rfl⟩:=h;rw[L8 hx];cases hs with
  |e h1 h2 h3=>
   rename_i f;have Fs:(y.den c.ρ).scalar=true:=by
    cases hl:WT y with
    |true=>cases y<;>simp[WT]at hl<;>rfl
    |false=>rw[hl]at hc;exact(Cl hc).2.2.2 rfl
   have hf:f=[]:=IG h1 (by simpa using Fs);subst hf;exact⟨.flat h1 .nil,by simp⟩
 ·split at h
  ·rename_i hh;simp only[Af,A0]at h;obtain⟨rfl,rfl⟩:=h;rw[Ng hx];cases hs with
   |dg _=>exact⟨.void hh.1 hh.2 .nil,by simp⟩
  ·cases h
 ·split at h
  ·rename_i hh;simp only[Af,A0]at h;obtain⟨rfl,rfl⟩:=h;rw[zFx hx];cases hs with
   |emp _=>exact⟨.void hh.1 hh.2 .nil,by simp⟩
  ·cases h
 ·rename_i e z l u g;split at h
  ·rename_i e' z' l' g' ep y hl;split at h
   ·rename_i hh;obtain⟨rfl,rfl,rfl,hb⟩:=hh;simp only[Af,A0]at h;obtain⟨rfl,rfl⟩:=h;obtain⟨q1,q2,q3,q4,q5⟩:=eh u _ (Df hl k);rw[qP (y:=y) hx (by simp only[JJ,hl,if_true])];have hb:=AM.of_eq hb;subst hb;rw[AM.dw]at q4;cases hs with
    |own k1 k2 _=>rw[k2]at q4;exact⟨by rw[jL,zuA,AG];exact q4,λw hw=>by simp at hw;subst hw;exact⟨_,k1⟩⟩
   ·cases h
  ·rename_i e' z' g' y hl;split at h
   ·rename_i hh;obtain⟨rfl,rfl,rfl,hf,hlen⟩:=hh;simp only[Af,A0]at h;obtain⟨rfl,rfl⟩:=h;obtain⟨q1,q2,N,q4,q5,q6,q7⟩:=eh u _ (Df hl k);obtain⟨hN,_⟩:=q6 rfl;have hN:N=[]:=hN;subst hN;rw[qP (y:=y) hx (by simp only[JJ,hl,if_true])];cases hs with
    |own k1 k2 _=>rw[k2]at q4;exact⟨by rw[jL,zuA,AG];exact DC.mw q4 hf hlen,λw hw=>by simp at hw;subst hw;exact⟨_,k1⟩⟩
   ·cases h
  ·cases h
 ·cases h
theorem zrY(eh:EH c hp)(k:Bu c.ρ gs):∀(ds:List DT) {ss:List SV} {us:List Nat} {ck:List Cn} {vs:List Value} {xs:EL} {m:Nat},Pg hp gs ds ss=some (us,ck)->SR c ss vs->CY hp gs m ss=some xs->(∀q∈ck,q.den c.ρ)->
  DC c.w ds vs (xs.den c.ρ) (CB c us)/\ ∀u∈us,∃g,c.K u g
 | [],[],us,ck,vs,xs,m,h,hs,hx,hc=>by
  simp[Pg]at h;obtain⟨rfl,rfl⟩:=h;cases hs;cases m with
  |zero=>simp[CY]at hx
  |succ m=>simp[CY]at hx;subst hx;exact⟨.nil,by simp⟩
 | [],_::_,us,ck,vs,xs,m,h,hs,hx,hc=>by simp[Pg]at h
 |_::_,[],us,ck,vs,xs,m,h,hs,hx,hc=>by simp[Pg]at h
 |d::ds,s::ss,us,ck,[],xs,m,h,hs,hx,hc=>by have:=hs.len;simp at this
 |d::ds,s::ss,us,ck,v::vs,xs,m,h,hs,hx,hc=>by
  obtain⟨j,y,ys,rfl,hy,DF,rfl⟩:=LZ hx;obtain⟨r1,r2⟩:=hs.dh;unfold Pg at h;split at h
  ·rename_i us1 ck1 us2 ck2 h1 h2;simp only[Af,A0]at h;obtain⟨rfl,rfl⟩:=h;obtain⟨q1,q2⟩:=zEe eh k h1 r1 hy λq hq=>hc q (by simp[hq]);obtain⟨q3,q4⟩:=zrY eh k ds h2 r2 DF λq hq=>hc q (by simp[hq]);refine⟨by rw[Le];exact q1.app q3,λu hu=> ?_⟩;rcases Ae.1 hu with hu|hu
   ·exact q2 u hu
   ·exact q4 u hu
  ·cases h
theorem zw2(eh:EH c hp)(k:Bu c.ρ gs){t:TypeId}{ds:List DT}{s:SV}{us:List Nat}{ck:List Cn}{v:Value}{x:E}(H5:ds.length=P.cellsOf t)(hg:Aq P t=true\/P.cellsOf t=1)(h:UB P hp gs t ds s=some (x,us,ck))(hs:SR c [s] [v])(hc:∀q∈ck,q.den c.ρ):
  DC c.w ds v.cells.toList (x.den c.ρ).cells (CB c us)/\(∀u∈v.cells.toList,u.oneCell'=true)/\(x.den c.ρ).cells.length=P.cellsOf t/\v.cells.size=P.cellsOf t/\
   (if Aq P t then∃cs,x.den c.ρ= .agg cs else(∀cs,x.den c.ρ≠ .agg cs)/\ ∀cs,x.den c.ρ≠ .tup cs)/\ ∀u∈us,∃g,c.K u g:=by
 unfold UB at h;split at h
 ·cases h
 rename_i y hy;split at h
 ·rename_i Ci;simp only[Af,A0]at h;obtain⟨rfl,rfl,rfl⟩:=h;obtain⟨f,q1,q2⟩:=Je eh k Bb hy hs Bb (AB _);obtain⟨c1,c2,c3,c4⟩:=Cl hc;have FQ:if Aq P t then∃cs,y.den c.ρ= .agg cs/\cs.length=P.cellsOf t else(∀cs,y.den c.ρ≠ .agg cs)/\ ∀cs,y.den c.ρ≠ .tup cs:=by
   split
   ·rename_i AN;obtain⟨cs,BE⟩:=c3 AN;exact⟨cs,BE,by rw[BE]at c1;exact c1⟩
   ·rename_i AN;have:=c4 (by simpa using AN);exact⟨λcs BE=>by rw[BE]at this;simp[AV.scalar]at this,λcs BE=>by rw[BE]at this;simp[AV.scalar]at this⟩
  have hf:f=[]:=by
   cases hgg:Aq P t with
   |true=>obtain⟨cs,BE⟩:=c3 hgg;obtain⟨as_,rfl,_,r⟩:=Kq q1 BE;exact IG r (by rw[BE]at c2;exact c2)
   |false=>exact IG q1 (by simpa using c4 hgg)
  subst hf;obtain⟨o1,o2,o3,o4⟩:=zvY (P:=P) q1 hg FQ;refine⟨DC.mr o1 Ci (by rw[H5];simpa using o4.symm),o2,o3,o4,?_,by simp⟩;split at FQ
  ·rename_i AN;rw[if_pos AN];obtain⟨cs,BE,_⟩:=FQ;exact⟨cs,BE⟩
  ·rename_i AN;rw[if_neg AN];exact FQ
 ·rename_i GO;split at h
  ·cases h
  rename_i AN;have AN:(Jb s).2=Aq P t:=by simpa using AN
  obtain⟨⟨us',ck'⟩,hr,h⟩:=Aw.1 h;simp only[A0]at h;obtain⟨rfl,rfl,rfl⟩:=h;have single:Aq P t=false->Pg hp gs ds [s]=some (us',ck')->DC c.w ds v.cells.toList (y.den c.ρ).cells (CB c us')/\(∀u∈v.cells.toList,u.oneCell'=true)/\(y.den c.ρ).cells.length=P.cellsOf t/\v.cells.size=P.cellsOf t/\
   (if Aq P t then∃cs,y.den c.ρ= .agg cs else(∀cs,y.den c.ρ≠ .agg cs)/\ ∀cs,y.den c.ρ≠ .tup cs)/\ ∀u∈us',∃g,c.K u g:=by
   intro AN hr;have BK:CY hp gs (Bb+1) [s]=some (.cons y .nil):=by unfold CY;rw[hy];rfl
   obtain⟨q1,q2⟩:=zrY eh k ds hr hs BK hc;have hd1:=q1.len;simp only[EL.den,AH,List.length_nil]at hd1
   match ds,hd1,q1,GO,H5 with
   | [d],_,q1,GO,H5=>
    cases d with
    |flat=>simp[DT.db]at GO
    |row e z l=>
     obtain⟨p,q,r,rfl⟩:=q1.head;obtain⟨xs,Da⟩:∃xs,y.den c.ρ= .sl xs:=by
      obtain⟨_,_,⟨_,_,hx,_⟩|⟨_,_,_,_,_,_,hx,_⟩⟩:=q1.inv
      ·exact⟨_,hx⟩
      ·exact⟨_,hx⟩
     rw[if_neg (by rw[AN];simp)];refine⟨?_,by simp[Value.cells,Value.oneCell'],by rw[Da,<-H5];rfl,by rw[<-H5];rfl,?_,q2⟩
     ·simp only[EL.den]at q1;rw[Da]at q1 ⊢;exact q1
     ·rw[Da];exact⟨λcs hh=>(by cases hh),λcs hh=>(by cases hh)⟩
  cases s with
  |agg cs=>
   simp only[Jb]at AN hr;obtain⟨m,l,hm,hl,rfl⟩:=Yt hy;cases hs with
   |agg h9 h1 h8=>rename_i as_;obtain⟨q1,q2⟩:=zrY eh k ds hr h1 hl hc;obtain⟨l1,l2⟩:=q1.len;rw[if_pos AN.symm];exact⟨by simpa[Value.cells,AV.cells,E.den]using q1,by simpa[Value.cells]using h9,by simp only[E.den,AV.cells];omega,by simp[Value.cells];omega,⟨_,rfl⟩,q2⟩
  |_=>exact single AN.symm hr
theorem zsK(eh:EH c hp)(k:Bu c.ρ gs){t:TypeId}{ds:List DT}(H5:ds.length=P.cellsOf t)(hg:Aq P t=true\/P.cellsOf t=1):∀(ss:List SV) (vs:List Value) {xs:List E} {us:List Nat} {ck:List Cn},SR c ss vs->Yv P hp gs t ds ss=some (xs,us,ck)->(∀q∈ck,q.den c.ρ)->
  DC c.w (B9 vs.length ds) (vs.flatMap λv=>v.cells.toList) (Az (xs.map (E.den c.ρ))) (CB c us)/\(∀v∈vs,v.cells.size=P.cellsOf t/\ ∀u∈v.cells.toList,u.oneCell'=true)/\(∀x∈xs,(x.den c.ρ).cells.length=P.cellsOf t)/\xs.length=vs.length/\ ∀u∈us,∃g,c.K u g
 | [],vs,xs,us,ck,hr,ht,hc=>by simp[Yv]at ht;obtain⟨rfl,rfl,rfl⟩:=ht;cases hr;exact⟨by simpa[Az,B9,CB]using DC.nil,by simp,by simp,rfl,by simp⟩
 |s::ss,[],xs,us,ck,hr,ht,hc=>by have:=hr.len;simp at this
 |s::ss,v::vs,xs,us,ck,hr,ht,hc=>by
  obtain⟨r1,r2⟩:=hr.dh;unfold Yv at ht;split at ht
  ·rename_i x us1 ck1 xs2 us2 ck2 h1 h2;simp only[Af,A0]at ht;obtain⟨rfl,rfl,rfl⟩:=ht;obtain⟨q1,q2,q3,q4,q5,q6⟩:=zw2 eh k H5 hg h1 r1 (λq hq=>hc q (by simp[hq]));obtain⟨p1,p2,p3,p4,p5⟩:=zsK eh k H5 hg ss vs r2 h2 (λq hq=>hc q (by simp[hq]));refine⟨?_,?_,?_,by simp[p4],?_⟩
   ·have:=q1.app p1;rw[AH,QS,Le];simpa[Az]using this
   ·intro u hu;rcases Ag.1 hu with rfl|hu
    ·exact⟨q4,q2⟩
    ·exact p2 u hu
   ·intro u hu;rcases Ag.1 hu with rfl|hu
    ·exact q3
    ·exact p3 u hu
   ·intro u hu;rcases Ae.1 hu with hu|hu
    ·exact q6 u hu
    ·exact p5 u hu
  ·cases ht
theorem zww(eh:EH c hp)(k:Bu c.ρ gs){e z:Nat}{l:List DT}{s:SV}{us:List Nat}{v:Value}{y:E}{m:Nat}(h:We hp gs e z l s=some us)(hs:SR c [s] [v])(hy:BI hp gs m s=some y):
  ∃ys q r news N,y.den c.ρ= .sl ys/\v= .slice q ys.length r/\Src c.w z q ys.length news/\DC c.w (B9 ys.length l) news (Az ys) N/\N.Sublist (CB c us)/\(∀y∈ys,y.cells.length=z)/\(∀u∈news,u.oneCell'=true)/\ ∀u∈us,∃g,c.K u g:=by
 have empt:∀q,v= .slice q 0 0->y= .lst .nil->us=[]-> ∃ys q r news N,y.den c.ρ= .sl ys/\v= .slice q ys.length r/\Src c.w z q ys.length news/\DC c.w (B9 ys.length l) news (Az ys) N/\N.Sublist (CB c us)/\(∀y∈ys,y.cells.length=z)/\(∀u∈news,u.oneCell'=true)/\ ∀u∈us,∃g,c.K u g:=by
  rintro q rfl rfl rfl;refine⟨[],q,0,[],[],rfl,rfl,?_,by simpa[B9,Az]using DC.nil,by simp,by simp,by simp,by simp⟩;cases q with
  |none=>exact .inl ⟨rfl,rfl,rfl⟩
  |some p=>exact .inr ⟨p,rfl,by simp,by simp,by simp⟩
 unfold We at h;split at h
 ·simp only[Af]at h;cases hs with
  |dg _=>exact empt _ rfl (Ng hy) h.symm
 ·simp only[Af]at h;cases hs with
  |emp _=>exact empt _ rfl (zFx hy) h.symm
 ·rename_i u g;split at h
  ·rename_i e' z' l' g' ep x hl;split at h
   ·rename_i hh;obtain⟨rfl,rfl,rfl,hb⟩:=hh;simp only[Af]at h;subst h;have hb:=AM.ij hb;subst hb;obtain⟨q1,q2,q3,q4,q5⟩:=eh u _ (Df hl k);have Ip:=qP (y:=x) hy (by simp only[JJ,hl,if_true]);subst Ip;cases hs with
    |own k1 k2 k3=>
     rename_i p0 n0 r0;rw[k2]at q4;have hK:∀w∈ [u],∃g,c.K w g:=λw hw=>by simp at hw;subst hw;exact⟨_,k1⟩
     obtain⟨d1,d2,⟨a9,d3,d4,d5⟩|⟨g9,cap,C,ys,N1,d3,d4,d5,d6,d7,d8,d9,d10,d11,d12⟩⟩:=q4.inv
     ·cases d3;refine⟨[],_,0,[],[],d4,rfl,?_,by simpa[B9,Az]using DC.nil,by simp,by simp,by simp,hK⟩;cases p0 with
      |none=>exact .inl ⟨rfl,rfl,rfl⟩
      |some p=>exact .inr ⟨p,rfl,by simp,by simp,by simp⟩
     ·cases d3;rw[AM.ax]at d12;have Ew:C.toList.length=r0*z:=by simpa using d9
      refine⟨ys,_,r0,_,N1,d4,rfl, .inr ⟨_,rfl,?_,λj w hw=> ?_,d11⟩,d12,?_,d10,d11,hK⟩
      ·rw[AE,Ew];exact Nat.min_eq_left (Bz _ d7)
      ·rw[Addr.add_lit,Nat.zero_add,EO d6];rw[List.getElem?_take]at hw;split at hw
       ·simpa using hw
       ·cases hw
      ·rw[jL,zuA,AG,d5];exact List.sublist_cons_self _ _
   ·cases h
  ·cases h
 ·cases h
end
def Gx(T:List Nat):List AZ:=T.map λu=>⟨u,none,[], .dead⟩
theorem zIg(T:List Nat):(Gx T).flatMap AZ.top=[]:=by induction T<;>simp_all[Gx]
theorem zKf(T:List Nat):(Gx T).map AZ.tag=T:=by induction T<;>simp_all[Gx]
theorem zGr(T:List Nat):((Gx T).map λr=>(r.tag,Dg [] r.cx))=ER T:=by simp[Gx,ER,Dg]
theorem Yh{T:List Nat}{r:AZ}(h:r∈Gx T):r.tag∈T/\r.new=none/\r.top=[]/\r.cx= .dead:=by obtain⟨u,hu,rfl⟩:=List.mem_map.1 h;exact⟨hu,rfl,rfl,rfl⟩
section
variable {P:Program} {c:Cx} {n nx:Nat} {sl sl0:Nat->SV} {hp hp0:Nat->Option Ai} {a:Act} {o:Oper} {gs:Gd} {e:Bf} {sg:BY} {nv:Nat}
theorem Rel.mz(h:Rel c n sl hp a){T:List Nat}(hT:T.Nodup)(Hi:∀u∈T,c.U u){r0:AZ}(IY:r0.tag∉T)(Ho:r0.new.isSome=true-> ¬c.U r0.tag)(D6:r0.new=none->c.U r0.tag){w':World}{hs:List Nat}(Ie:∀b∈hs,b∈(c.G r0.tag).top\/b∈CB c T)(hm:Mod hs c.w w')
  (Cb:r0.top.Nodup) (Cs:∀b∈r0.top,(b∈hs\/c.w.heap.size<=b)/\b<w'.heap.size) (BU:∀q f,r0.cx≠ .gd q f)
  (he:Ev c (c.fj w' (r0::Gx T))->FA c (c.fj w' (r0::Gx T)) w' (r0::Gx T)->DH (c.fj w' (r0::Gx T)) r0.tag r0.cx):
  Rel (c.fj w' (r0::Gx T)) n sl (Bq hp ((r0.tag,r0.cx)::ER T)) a/\Ev c (c.fj w' (r0::Gx T))/\FA c (c.fj w' (r0::Gx T)) w' (r0::Gx T)/\ ∀t,(c.fj w' (r0::Gx T)).U t->c.U t\/t=r0.tag:=by
 have hn:((r0::Gx T).map AZ.tag).Nodup:=by rw[List.map_cons,zKf];exact List.nodup_cons.2 ⟨IY,hT⟩
 have Bo:∀r∈r0::Gx T,r.new.isSome=true-> ¬c.U r.tag:=λr hr hs=>by
  rcases Ag.1 hr with rfl|hr
  ·exact Ho hs
  ·rw[(Yh hr).2.1]at hs;cases hs
 have aft:=Cx.fc (w':=w') h.de hn Bo;obtain⟨q1,q2⟩:=h.changes (gs:=[]) (Fw _) hm hn Bo (λb hb=>by
   rcases Ie b hb with hb|hb
   ·exact⟨r0,by simp,hb⟩
   ·obtain⟨t,ht,C6⟩:=TZ.1 hb;exact⟨⟨t,none,[], .dead⟩,List.mem_cons_of_mem _ (List.mem_map.2 ⟨t,ht,rfl⟩),C6⟩)
  (by rw[List.flatMap_cons,zIg,AG];exact Cb)
  (λr hr b hb=>by
   rcases Ag.1 hr with rfl|hr
   ·exact Cs b hb
   ·rw[(Yh hr).2.2.1]at hb;cases hb)
  (λr hr=>by
   rcases Ag.1 hr with rfl|hr
   ·exact BU
   ·rw[(Yh hr).2.2.2];intros;simp)
  (λhk r hr=>by
   rcases Ag.1 hr with rfl|hr
   ·exact he hk aft
   ·have kg:=aft.G r (List.mem_cons_of_mem _ hr);obtain⟨_,_,e1,e2⟩:=Yh hr;rw[e2];exact⟨by rw[kg,e1],by rw[kg]⟩)
 refine⟨?_,q2,aft,λt ht=> ?_⟩
 ·rw[List.map_cons,zGr]at q1;have:Dg [] r0.cx=r0.cx:=rfl;rw[this]at q1;exact q1
 ·rcases ht with ht|⟨r,hr,rfl⟩
  ·exact .inl ht
  ·rcases Ag.1 hr with rfl|hr
   ·exact .inr rfl
   ·exact .inl (Hi _ (Yh hr).1)
theorem AJ.ig(h:BB P c n nx sl hp a sl0 hp0 o []){T:List Nat}(hT:T.Nodup)(Hi:∀u∈T,∃g,c.K u g){v':Value}{w':World}{ck:List Cn}{e z:Nat}{l:List DT}{x:E}{top:List Nat}(hr:(execOp a.eval o).run P c.w= .ok (.value v') w')(hm:Mod (CB c T) c.w w')
  (Cb:top.Nodup) (Cs:∀b∈top,(b∈CB c T\/c.w.heap.size<=b)/\b<w'.heap.size) (hd:DC w' [.row e z (AM.of l)] [v'] [x.den c.ρ] top):
  AJ P o c n nx sl hp [] a {dn:=ck,val:= .own nx 0,cx:=(nx, .deep e z l 0 0 x)::ER T}:=by
 intro next Q hk
 unfold Oper.wp;rw[hr,Oper.upon_value];have hU:=O5 h;have Mm:∀u∈T,c.U u:=λu hu=>by obtain⟨g,hg⟩:=Hi u hu;exact h.rel.de _ _ hg
 obtain⟨q1,q2,q3,q4⟩:=h.rel.mz (r0:=⟨nx,some v',top, .deep e z l 0 0 x⟩) hT Mm (λhh=>hU (Mm _ hh)) (λ_=>hU) (λhh=>by cases hh) (λb hb=> .inr hb) hm Cb Cs (by intros;simp) (λ_ aft=>by obtain⟨k1,k2,k3⟩:=aft.new _ (List.mem_cons_self ..) v' rfl;have kg:=aft.G _ (List.mem_cons_self ..);have ke:=aft.kt _ (List.mem_cons_self ..) rfl;simp only at k1 k2 k3 kg ke;exact⟨k1,k2,ke,by rw[k3,kg,aft.w,aft.ρ];exact hd,by rw[kg]⟩)
 obtain⟨k1,k2,k3⟩:=q3.new _ (List.mem_cons_self ..) v' rfl;simp only at k1 k3;obtain⟨p,m,r,rfl⟩:=hd.head;refine hk _ (c.fj w' _) ⟨rfl,rfl,rfl,rfl,λt ht=> ?_⟩ (q1.put (SR.own k1 k3 .nil) o.dst);rcases q4 t ht with ht|rfl
 ·exact .inl ht
 ·exact .inr ⟨AB _,by simp[B1]⟩
theorem AJ.mi(h:BB P c n nx sl hp a sl0 hp0 o []){T:List Nat}(hT:T.Nodup)(Hi:∀u∈T,∃g,c.K u g){b g ep:Nat}(hb:b∉T)(hK:c.K b g)(KV:∀g',c.K b g'->g'<=g)(hE:c.E b=ep){w':World}{ck:List Cn}{e z:Nat}{l:List DT}{x:E}{top:List Nat}(hr:(execOp a.eval o).run P c.w= .ok .skip w'){hs:List Nat}(Ie:∀q∈hs,q∈(c.G b).top\/q∈CB c T)(hm:Mod hs c.w w')
  (Cb:top.Nodup) (Cs:∀q∈top,(q∈hs\/c.w.heap.size<=q)/\q<w'.heap.size) (hd:DC w' [.row e z (AM.of l)] [c.H b g] [x.den c.ρ] top):
  AJ P o c n nx sl hp [] a {dn:=ck,cx:=(b, .deep e z l g (ep+1) x)::ER T}:=by
 intro next Q hk
 unfold Oper.wp;rw[hr,Oper.upon_skip];have Mm:∀u∈T,c.U u:=λu hu=>by obtain⟨g,hg⟩:=Hi u hu;exact h.rel.de _ _ hg
 have mD:=h.rel.de _ _ hK;obtain⟨q1,q2,q3,q4⟩:=h.rel.mz (r0:=⟨b,none,top, .deep e z l g (ep+1) x⟩) hT Mm hb (λhh=>by cases hh) (λ_=>mD) Ie hm Cb Cs (by intros;simp) (λ_ aft=>by have kg:=aft.G _ (List.mem_cons_self ..);have ke:=aft.jg _ (List.mem_cons_self ..) rfl;obtain⟨k1,k2⟩:=aft.K b g hK;simp only at kg ke;exact⟨k1,λg' CK=>KV g' (aft.old b mD g' CK),by rw[ke,hE],by rw[k2,kg,aft.w,aft.ρ];exact hd,by rw[kg]⟩)
 refine hk _ (c.fj w' _) ⟨rfl,rfl,rfl,rfl,λt ht=> ?_⟩ (q1.put ((SR.undef .nil).mkGd []) o.dst);rcases q4 t ht with ht|rfl
 ·exact .inl ht
 ·exact .inl mD
theorem zwl{w w':World}{row:Option Nat}{S:List Nat}(h:w.grownBy w' row)(hr:∀g,row=some g->g∈S\/w.heap.size<=g):Mod S w w':=by
 refine⟨h.os,h.tape,h.output,h.size,λb hb hn=>h.block b hb λhh=> ?_⟩;rcases hr b hh.symm with h1|h1
 ·exact hn h1
 ·omega
theorem zqE(h:BB P c n nx sl hp a sl0 hp0 o []){x y:Operand}{tx:TypeId}{cl:Call}(ho:o.op= .call cl)(AD:cl.callee= .builtin .append)(Dk:cl.args.toList=[x,y])(Eo:cl.argTypes.toList=[tx,tx])
  {el:TypeId} (BK:P.underlying tx=some (.slice el)) (hz:Jh P el=true) {l:List DT} (hl:l.length=P.cellsOf el) {T us:List Nat} (hT:(T++us).Nodup) (Hi:∀u∈T,∃g,c.K u g) {s2:SV} {ye:E} (Bd:BW sl0 [] y=some s2) (hy:BI hp0 [] Bb s2=some ye) (CG:We hp0 [] el (P.cellsOf el) l s2=some us)
  {c0:E} {v:Value} (hv:a.eval x=v) {N:List Nat} (A2:DC c.w [.row el (P.cellsOf el) (AM.of l)] [v] [c0.den c.ρ] N) (hN:N=CB c T) {ck:List Cn} (BV:Cn.den c.ρ (.room c0 ye (P.bytesOf el))):
  AJ P o c n nx sl hp [] a {dn:=ck,val:= .own nx 0,cx:=(nx, .deep el (P.cellsOf el) l 0 0 (.app c0 ye))::ER (T++us)}:=by
 have Aj:cl.args= #[x,y]:=by apply Array.ext';simp[Dk]
 have Io:cl.argTypes= #[tx,tx]:=by apply Array.ext';simp[Eo]
 have C7:y∈o.op.operands:=by simp[ho,Op.operands,Call.operands,AD,Aj]
 obtain⟨i,z,hi,Hk,DA,BJ,CI,FD⟩:=Nd hz;obtain⟨ys,q,r,news,N2,DF,Dh,Dx,Py,Co,Kd,PR,oQ⟩:=zww h.eh h.gs CG (h.dy Bd C7) hy;have Du:=iR h.rel.gw hT;rw[Le]at Du;have E3:∀b∈CB c (T++us),b<c.w.heap.size:=λb hb=>by obtain⟨t,_,C6⟩:=TZ.1 hb;exact h.rel.gw.inb t b (by simp[GI.own,C6])
 obtain⟨mm,kk,Ho,D6,N6,Zi⟩:=BV;obtain⟨d1,d2,Bv⟩:=A2.inv;rw[AM.ax]at d2 Bv;have hU:∀u∈T++us,∃g,c.K u g:=λu hu=>by
  rcases Ae.1 hu with hu|hu
  ·exact Hi u hu
  ·exact oQ u hu
 obtain⟨xs,old,N1,Da,hold,FU,mP,Hr,C8,LD,Pm⟩:∃(xs:List AV) (old:List Value) (N1:List Nat),c0.den c.ρ= .sl xs/\old.length=xs.length*i.size/\((xs.length=0/\ ∃q,v= .slice q 0 0)\/ ∃g cap C,v= .slice (some ⟨g,0,none⟩) xs.length cap/\xs.length<=cap/\cap<=maxLen/\c.w.heap[g]?=some (.cells C el (0,0))/\C.size=cap*i.size/\old=C.toList.take (xs.length*i.size)/\(g∈CB c T/\g∉N1))/\
   DC c.w (B9 xs.length l) old (Az xs) N1/\(∀y∈xs,y.cells.length=P.cellsOf el)/\(∀u∈old,u.oneCell'=true)/\(∀b∈N1,b∈CB c T)/\N1.Nodup:=by
  rcases Bv with⟨p,rfl,ET,rfl⟩|⟨g9,cap,C,xs,N1,rfl,ET,rfl,h6,h7,h8,h9,EX,EE,HY⟩
  ·exact⟨[],[],[],ET,by simp, .inl ⟨rfl,p,rfl⟩,by simpa[B9,Az]using DC.nil,by simp,by simp,by simp,by simp⟩
  ·have Cb:(g9::N1).Nodup:=by rw[hN];exact(List.nodup_append.1 Du).1
   rw[List.nodup_cons]at Cb;refine⟨xs,_,N1,ET,?_, .inr ⟨g9,cap,C,rfl,h7,h8,h6,by rw[<-CI];exact h9,rfl,by rw[<-hN];simp,Cb.1⟩,by rw[<-CI];exact HY,EX,by rw[<-CI];exact EE,λb hb=>by rw[<-hN];simp[hb],Cb.2⟩;have e9:C.toList.length=cap*i.size:=by rw[<-CI,<-h9];simp
   rw[AE,e9];exact Nat.min_eq_left (Bz _ h7)
 rw[Da]at Ho;rw[DF]at D6;simp only[AV.len,AV.int.injEq,true_and]at Ho D6;have CE:(xs.length+ys.length)*i.bytes<=140737488355328:=by
  rw[<-Ho,<-D6,FD]at N6;have h9:(((xs.length+ys.length)*i.bytes:Nat):Int)<=140737488355328:=by rw[Int.natCast_mul,Int.natCast_add];exact N6
  omega
 have FC:xs.length+ys.length<=140737488355328:=by rw[<-Ho,<-D6]at Zi;omega
 rw[CI]at Dx;obtain⟨v',w',A6,A1⟩:=Un (P:=P) c.w tx o.type el i z BK hi Hk DA BJ (λg9=>g9∈CB c T/\g9∉N1) v xs.length old hold FU q ys.length r news Dx (by simp only[maxLen];omega) CE;have D7:(execOp a.eval o).run P c.w= .ok (.value v') w':=by simp[execOp,ho,resolve,AD,Aj,Io,invoke,builtin,hv,Dh,A6]
 have UW:∀b∈N2,b∈CB c us:=λb hb=>Co.subset hb;have Pn:N2.Nodup:=Co.nodup (List.nodup_append.1 Du).2.1;have Mq:(E.app c0 ye).den c.ρ= .sl (xs++ys):=by simp only[E.den,Da,DF,AV.app]
 rcases A1 with⟨rfl,rfl,CF⟩|⟨g9,cap,C,rfl,h1,h2,h3,h4,h5,h6,h7⟩
 ·have I0:ys=[]:=List.eq_nil_of_length_eq_zero CF;subst I0;refine AJ.ig h hT hU D7 (Mod.refl _ _) (top:=N) (by rw[hN];exact(List.nodup_append.1 Du).1) (λb hb=>⟨.inl (by rw[Le,<-hN];simp[hb]),E3 b (by rw[Le,<-hN];simp[hb])⟩) ?_;rw[Mq,AG,<-Da];exact A2
 ·have Jy:(g9∈CB c T\/c.w.heap.size<=g9)/\g9∉N1/\g9∉N2:=by
   rcases h7 with⟨rfl,_⟩|⟨hg,CK⟩
   ·refine⟨.inr (AB _),λhh=> ?_,λhh=> ?_⟩
    ·have:=E3 _ (by rw[Le];exact Ae.2 (.inl (LD _ hh)));omega
    ·have:=E3 _ (by rw[Le];exact Ae.2 (.inr (UW _ hh)));omega
   ·exact⟨.inl hg,CK,λhh=>(List.nodup_append.1 Du).2.2 _ hg _ (UW _ hh) rfl⟩
  have Bm:∀b∈N1++N2,w'.heap[b]?=c.w.heap[b]?:=λb hb=>by
   have AP:b<c.w.heap.size:=E3 b (by
    rw[Le];rcases Ae.1 hb with hb|hb
    ·exact Ae.2 (.inl (LD b hb))
    ·exact Ae.2 (.inr (UW b hb)))
   refine h6.block b AP λhh=> ?_;cases hh;rcases Ae.1 hb with hb|hb
   ·exact Jy.2.1 hb
   ·exact Jy.2.2 hb
  refine AJ.ig h hT hU D7 (zwl h6 λg hg=> ?_) (top:=g9::(N1++N2)) ?_ (λb hb=> ?_) ?_
  ·cases hg;rcases Jy.1 with hh|hh
   ·exact .inl (by rw[Le];exact Ae.2 (.inl hh))
   ·exact .inr hh
  ·refine List.nodup_cons.2 ⟨λhh=> ?_,List.nodup_append.2 ⟨Pm,Pn,λp hp q hq=> ?_⟩⟩
   ·rcases Ae.1 hh with hh|hh
    ·exact Jy.2.1 hh
    ·exact Jy.2.2 hh
   ·exact(List.nodup_append.1 Du).2.2 p (LD p hp) q (UW q hq)
  ·rcases Ag.1 hb with rfl|hb
   ·refine⟨?_,Di h3⟩;rcases Jy.1 with hh|hh
    ·exact .inl (by rw[Le];exact Ae.2 (.inl hh))
    ·exact .inr hh
   ·have hbT:b∈CB c (T++us):=by
     rw[Le];rcases Ae.1 hb with hb|hb
     ·exact Ae.2 (.inl (LD b hb))
     ·exact Ae.2 (.inr (UW b hb))
    exact⟨.inl hbT,Nat.lt_of_lt_of_le (E3 b hbT) h6.size⟩
  ·rw[Mq];have hlen:(xs++ys).length=xs.length+ys.length:=Av;rw[CI]at d1 d2 Hr Kd ⊢;have:=DC.row (w:=w') (e:=el) (z:=i.size) (l:=AM.of l) (g:=g9) (cap:=cap) (C:=C) (ys:=xs++ys) (N1:=N1++N2) (ts:=[]) (vs:=[]) (xs:=[]) (N:=[]) d1 (by rw[AM.ax];exact d2) h3 (by rw[hlen];exact h1) h2 h4 (λw hw=> ?_) (by
     rw[hlen,h5];intro u hu;rcases Ae.1 hu with hu|hu
     ·exact C8 u hu
     ·exact PR u hu) (by
     rw[hlen,h5,jA,QW,AM.ax];exact(mP.app Py).frame Bm) .nil
   ·rw[hlen]at this;simpa using this
   ·rcases Ae.1 hw with hw|hw
    ·exact Hr w hw
    ·exact Kd w hw
end
section
variable {P:Program} {c:Cx} {n nx:Nat} {sl sl0:Nat->SV} {hp hp0:Nat->Option Ai} {a:Act} {o:Oper} {gs:Gd} {e:Bf} {sg:BY} {nv:Nat}
theorem zGO{l:List Nat}(h:Nz l=true):l.Nodup:=T9 h
theorem zxZ(h:BB P c n nx sl hp a sl0 hp0 o gs){x y:Operand}{tx ty:TypeId}{cl:Call}(ho:o.op= .call cl)(AD:cl.callee= .builtin .append)(Dk:cl.args.toList=[x,y])(Eo:cl.argTypes.toList=[tx,ty])
  {s1 s2:SV} (BO:BW sl0 gs x=some s1) (Bd:BW sl0 gs y=some s2) (he:jW P hp0 gs nx tx ty s1 s2=some e) (hc:∀q∈e.dn,Cn.den c.ρ q):AJ P o c n nx sl hp gs a e:=by
 have Aj:cl.args= #[x,y]:=by apply Array.ext';simp[Dk]
 have DL:x∈o.op.operands:=by simp[ho,Op.operands,Call.operands,AD,Aj]
 have C7:y∈o.op.operands:=by simp[ho,Op.operands,Call.operands,AD,Aj]
 unfold jW at he;split at he
 ·cases he
 rename_i K0;have K0:tx=ty:=by simpa using K0
 subst K0;split at he
 ·rename_i el e' z dl BK D2;have KK:=LY BK;split at he
  ·cases he
  rename_i AT;simp only[not_or,Bk,Bool.not_eq_false,Bool.not_eq_true,ne_eq,Decidable.not_not]at AT;obtain⟨hz,GO,rfl,rfl⟩:=AT;obtain⟨_,_,l,KS,Fq⟩:=Yu BK D2;simp only[DT.row.injEq,true_and]at KS;subst KS;rw[AM.ax]at he;have r1:=h.dy BO DL;split at he
  ·rename_i ye us hy CG;have hU:∀u∈us,∃g,c.K u g:=(zww h.eh h.gs CG (h.dy Bd C7) hy).choose_spec.choose_spec.choose_spec.choose_spec.choose_spec.2.2.2.2.2.2.2;have P6:us.Nodup:=by
    unfold We at CG;split at CG
    ·simp only[Af]at CG;subst CG;simp
    ·simp only[Af]at CG;subst CG;simp
    ·split at CG
     ·split at CG
      ·simp only[Af]at CG;subst CG;simp
      ·cases CG
     ·cases CG
    ·cases CG
   have Zo:0<P.cellsOf e':=by obtain⟨i,_,_,_,_,h1,h2,_⟩:=Nd hz;omega
   split at he
   ·rename_i t g;split at he
    ·rename_i e2 z2 l2 g2 ep c0 hl;split at he
     ·rename_i hh;obtain⟨rfl,rfl,hb,rfl,D4⟩:=hh;have hb:=AM.ij hb;subst hb;simp only[Af]at he;subst he;obtain⟨q1,q2,q3,q4,q5⟩:=h.eh t _ (Df hl h.gs);generalize hv:a.eval x=v at r1;cases r1 with
      |own k1 k2 _=>rw[k2]at q4;simp only[Bk,List.contains_eq_mem,decide_eq_false_iff_not]at D4;exact zqE h ho AD Dk Eo KK hz Fq (T:=[t]) (by simpa using List.nodup_cons.2 ⟨D4,P6⟩) (λu hu=>by simp at hu;subst hu;exact⟨_,k1⟩) Bd hy CG hv q4 (by simp[CB]) (hc _ (by simp))
     ·cases he
    ·cases he
   ·simp only[Af]at he;subst he;generalize hv:a.eval x=v at r1;cases r1 with
    |emp _=>exact zqE h ho AD Dk Eo KK hz Fq (T:=[]) (by simpa using P6) (by simp) Bd hy CG hv (c0:= .lst .nil) (.void Zo (by rw[AM.ax];exact Fq) .nil) rfl (hc _ (by simp))
   ·simp only[Af]at he;subst he;generalize hv:a.eval x=v at r1;cases r1 with
    |dg _=>exact zqE h ho AD Dk Eo KK hz Fq (T:=[]) (by simpa using P6) (by simp) Bd hy CG hv (c0:= .lst .nil) (.void Zo (by rw[AM.ax];exact Fq) .nil) rfl (hc _ (by simp))
   ·cases he
  ·cases he
 ·cases he
theorem AJ.ir(h:BB P c n nx sl hp a sl0 hp0 o []){T:List Nat}(hT:T.Nodup)(Hi:∀u∈T,∃g,c.K u g){ck:List Cn}{el z:Nat}{l:List DT}(hz:0<z)(hl:l.length=z){x:E}{xs:List AV}{C:Array Value}{cap:Nat}(hx:x.den c.ρ= .sl xs)(AD:∀y∈xs,y.cells.length=z)(hle:xs.length<=cap)(FE:cap<=maxLen)(hC:C.size=cap*z)
  (h1:∀u∈C.toList.take (xs.length*z),u.oneCell'=true) (hD:DC c.w (B9 xs.length l) (C.toList.take (xs.length*z)) (Az xs) (CB c T))
  (hr:(execOp a.eval o).run P c.w= .ok (.value (.slice (some ⟨c.w.heap.size,0,none⟩) xs.length cap)) (c.w.alloc (.cells C el))):
  AJ P o c n nx sl hp [] a {dn:=ck,val:= .own nx 0,cx:=(nx, .deep el z l 0 0 x)::ER T}:=by
 have E3:∀b∈CB c T,b<c.w.heap.size:=λb hb=>by obtain⟨t,_,C6⟩:=TZ.1 hb;exact h.rel.gw.inb t b (by simp[GI.own,C6])
 have Bo:(c.w.alloc (.cells C el)).heap[c.w.heap.size]?=some (.cells C el (0,0)):=heap_alloc_new c.w _;have PD:c.w.grownBy (c.w.alloc (.cells C el)) (some c.w.heap.size):=⟨rfl,rfl,rfl,by simp,λj hj _=>Below.heap_alloc c.w _ _ hj⟩
 refine AJ.ig h hT Hi hr (zwl PD λg hg=> .inr (by cases hg;exact AB _)) (top:=c.w.heap.size::CB c T) ?_ (λb hb=> ?_) ?_
 ·exact List.nodup_cons.2 ⟨λhh=>by have:=E3 _ hh;omega,iR h.rel.gw hT⟩
 ·rcases Ag.1 hb with rfl|hb
  ·exact⟨.inr (AB _),by simp⟩
  ·exact⟨.inl hb,Nat.lt_of_lt_of_le (E3 b hb) (by simp)⟩
 ·rw[hx];have:=DC.row (w:=c.w.alloc (.cells C el)) (e:=el) (z:=z) (l:=AM.of l) (g:=c.w.heap.size) (cap:=cap) (C:=C) (ys:=xs) (N1:=CB c T) (ts:=[]) (vs:=[]) (xs:=[]) (N:=[]) hz (by rw[AM.ax];exact hl) Bo hle FE hC AD h1 (by
   rw[AM.ax];exact hD.frame λb hb=>Below.heap_alloc c.w _ _ (E3 b hb)) .nil
  simpa using this
theorem zyU(h:BB P c n nx sl hp a sl0 hp0 o gs){t:TypeId}{m:Nat}{parts:Array (Nat × Operand)}(ho:o.op= .buildSlice t m parts){ps:List (Nat × SV)}(N5:parts.toList.mapM (λ(p:Nat × Operand)=>(BW sl0 gs p.2).map λs=>(p.1,s))=some ps)(he:kB P hp0 gs nx t m ps=some e)(hc:∀q∈e.dn,Cn.den c.ρ q):AJ P o c n nx sl hp gs a e:=by
 obtain⟨e1,e2⟩:=jT (c:=c) (a:=a) (parts.toList.map (·.2)) (λx s hx hm=>h.dy hx (by simpa[ho,Op.operands]using hm)) (λx hx=>List.mem_map.2 ⟨x,hx,rfl⟩) N5;unfold kB at he;split at he
 ·rename_i el e' zz dl KL D2;have BK:=LY KL;split at he
  ·cases he
  rename_i AT;simp only[not_or,Bk,Bool.not_eq_false',ne_eq,Bool.not_eq_false,Bool.not_eq_true,Nat.not_lt,Decidable.not_not]at AT;obtain⟨hz,GO,rfl,rfl,BC,AN,hle,EZ⟩:=AT;obtain⟨_,_,l,KS,Fq⟩:=Yu KL D2;simp only[DT.row.injEq,true_and]at KS;subst KS;rw[AM.ax]at he;have AN:Aq P e'=true\/P.cellsOf e'=1:=by simpa using AN
  obtain⟨i,z,hi,Hk,DA,BJ,CI,FD⟩:=Nd hz;split at he
  ·rename_i xs us ck VU;split at he
   ·rename_i Cb;simp only[Af]at he;subst he;obtain⟨p1,p5,p6,p7,p8⟩:=zsK h.eh h.gs Fq AN (ps.map (·.2)) (parts.toList.map λp=>a.eval p.2) e2 VU hc;have hlen:(parts.toList.map λp=>a.eval p.2).length=m:=by
     have:ps.length=m:=by have:=congrArg List.length EZ;simpa using this
     have h9:=congrArg List.length e1;simp at h9 ⊢;omega
    have Ik:(parts.map λ(x:Nat × Operand)=>(x.1,a.eval x.2)).toList=((parts.toList.map λp=>a.eval p.2).zipIdx 0).map λp=>(p.2,p.1):=by
     have KP:parts.toList.map (·.1)=List.range m:=by rw[<-e1,EZ]
     apply List.ext_getElem?;intro j;have hj:(parts.toList.map (·.1))[j]?=(List.range m)[j]?:=by rw[KP]
     simp only[Array.toList_map,List.getElem?_map,List.getElem?_zipIdx]at hj ⊢;cases hp:parts.toList[j]? with
     |none=>simp
     |some p=>
      rw[hp]at hj;simp only[Option.map_some,Af]at hj ⊢;have nG:j<m:=by
       rcases Nat.lt_or_ge j m with hh|hh
       ·exact hh
       ·rw[List.getElem?_eq_none (by simpa using hh)]at hj;cases hj
      rw[List.getElem?_range nG]at hj;simp at hj;simp[hj]
    obtain⟨C',f1,f2⟩:=zuB (sz:=i.size) (λj=>some (j*i.size,i.size)) (λj=>rfl) (parts.toList.map λp=>a.eval p.2) 0 ((Array.range (m*i.size)).map (λj=>(if m*i.size=0 then #[]else z.cells)[j % (if m*i.size=0 then #[]else z.cells).size]!)) [] _ (by simp;rfl) (by simp) (by simp[hlen]) (λv hv=>by rw[<-CI];exact(p5 v hv).1);have Ew:C'.toList.length=m*P.cellsOf e':=by
     rw[f2,CI];simp only[List.nil_append];have:∀(L:List Value),(∀v∈L,v.cells.size=i.size)->(L.flatMap λv=>v.cells.toList).length=L.length*i.size:=by
      intro L
      induction L with
      |nil=>intro _;simp
      |cons v L ih=>intro hL;simp only[List.flatMap_cons,Av,AH,BF];rw[ih (λu hu=>hL u (by simp[hu])),hL v (by simp),Nat.add_mul];omega
     rw[this _ (λv hv=>by rw[<-CI];exact(p5 v hv).1),hlen]
    have MO:(xs.map (E.den c.ρ)).length=m:=by rw[List.length_map,p7,hlen]
    have B4:C'.toList.take ((xs.map (E.den c.ρ)).length*P.cellsOf e')=(parts.toList.map λp=>a.eval p.2).flatMap λv=>v.cells.toList:=by rw[MO,<-Ew,List.take_length,f2];simp
    refine AJ.ir h (zGO Cb) p8 (by omega) Fq (xs:=xs.map (E.den c.ρ)) (C:=C') (cap:=m) (by simp[E.den,EL.ez]) (λy hy=> ?_) (by omega) (by simp only[maxLen];have:m*1<=m*P.cellsOf e':=Nat.mul_le_mul_left _ (by omega);omega) (by rw[<-BF,Ew]) ?_ ?_ ?_
    ·obtain⟨q,hq,rfl⟩:=List.mem_map.1 hy;exact p6 q hq
    ·rw[B4];intro u hu;obtain⟨v,hv,hu⟩:=List.mem_flatMap.1 hu;exact(p5 v hv).2 u hu
    ·rw[B4,MO,<-hlen];exact p1
    ·rw[MO];have A6:=zri (P:=P) BK BC hi Hk CI m (by rw[<-CI];omega) (parts.map λ(x:Nat × Operand)=>(x.1,a.eval x.2)) C' (by rw[Ik];exact f1) c.w;simp only[execOp,ho,Sem.run_bind];rw[A6];rfl
   ·cases he
  ·cases he
 ·cases he
theorem zrJ{w:World}:∀{ds:List DT} {ss:List SV} {vs:List Value},Rb ds ss=true->SR c ss vs-> ∀{xs:EL} {m:Nat},CY hp0 gs m ss=some xs->DC w ds vs (xs.den c.ρ) []
 | [],[],vs,_,hs,xs,m,hx=>by
  cases hs;cases m with
  |zero=>simp[CY]at hx
  |succ m=>simp[CY]at hx;subst hx;exact .nil
 | [],_::_,_,h,_,_,_,_=>by simp[Rb]at h
 |_::_,[],_,h,_,_,_,_=>by simp[Rb]at h
 |d::ds,s::ss,[],h,hs,_,_,_=>by have:=hs.len;simp at this
 |d::ds,s::ss,v::vs,h,hs,xs,m,hx=>by
  obtain⟨j,y,ys,rfl,hy,DF,rfl⟩:=LZ hx;obtain⟨r1,r2⟩:=hs.dh;simp only[Rb,Ac]at h;have ih:=zrJ (w:=w) h.2 r2 DF;unfold zPX at h;obtain⟨h1,_⟩:=h;split at h1
  ·rename_i y';rw[EL.den,L8 hy];cases r1 with
   |e g1 g2 _=>
    cases y'<;>simp[WT]at h1
    ·cases g1 with
     |int hk _=>exact .flat (.int hk .nil) ih
    ·cases g1 with
     |bool _=>exact .flat (.bool .nil) ih
    ·rename_i s0;generalize hq:(E.str s0).den c.ρ=q at g1;cases g1 with
     |str hk _=>exact .flat (.str hk .nil) ih
     |_=>simp[E.den]at hq
  ·simp only[Ac,AR,Ay]at h1;rw[EL.den,Ng hy];cases r1 with
   |dg _=>exact .void h1.1 h1.2 ih
  ·cases h1
theorem DC.rep{w:World}{ds:List DT}{vs:List Value}{xs:List AV}(h:DC w ds vs xs []):∀k,DC w (B9 k ds) (List.replicate k vs).flatten (List.replicate k xs).flatten []
 |0=>by simpa[B9]using DC.nil
 |k+1=>by rw[QS,List.replicate_succ,List.flatten_cons,List.replicate_succ,List.flatten_cons];simpa using h.app (DC.rep h k)
theorem zBO(h:BB P c n nx sl hp a sl0 hp0 o gs){t:TypeId}{l m:Operand}(ho:o.op= .makeSlice t l m){s1 s2:SV}(BO:BW sl0 gs l=some s1)(Bd:BW sl0 gs m=some s2)(he:lH P hp0 gs nx t s1 s2=some e)(hc:∀q∈e.dn,Cn.den c.ρ q):AJ P o c n nx sl hp gs a e:=by
 have DL:l∈o.op.operands:=by simp[ho,Op.operands]
 have C7:m∈o.op.operands:=by simp[ho,Op.operands]
 unfold lH at he;split at he
 ·rename_i el e' zz dl x y KL D2;have BK:=LY KL;split at he
  ·cases he
  rename_i AT;simp only[not_or,Bk,Bool.not_eq_false',ne_eq,Bool.not_eq_false,Bool.not_eq_true,Decidable.not_not]at AT;obtain⟨hz,GO,rfl,rfl,GY,mW⟩:=AT;have mW:gs=[]:=by simpa using mW
  subst mW;obtain⟨_,_,dl',KS,Fq⟩:=Yu KL D2;simp only[DT.row.injEq,true_and]at KS;subst KS;rw[AM.ax]at he;obtain⟨i,z,hi,Hk,DA,BJ,CI,FD⟩:=Nd hz;have r1:=h.dy BO DL;have r2:=h.dy Bd C7;have ival:∀{x:E} {kk:IntKind} {k:Int} {v:Value},SR c [.e x] [v]->x.den c.ρ= .int kk k->v= .int kk k:=by
   intro x kk k v hr hx;cases hr with
   |e h1 _ _=>exact(Hd h1 hx).1
  split at he
  ·rename_i s hs;have hs:F1 z=some s:=by simpa[hi,Hk]using hs
   split at he
   ·rename_i Zq;obtain⟨w,hw,rfl⟩:=Aw.1 he;obtain⟨kk,k,hk,h0,hb,hle⟩:Cn.den c.ρ (.mkroom x (P.bytesOf e')):=Cl hc;have Fu:=ival r1 hk;have Dh:=ival r2 (by rw[<-E.bb c.ρ _ _ GY];exact hk);have hzc:DC c.w dl' z.cells.toList (w.den c.ρ).cells []:=by
     have MH:=jY (c:=c) hs;unfold zMS at Zq;cases s with
     |agg cs=>
      obtain⟨k9,l9,hm,hl9,rfl⟩:=Yt hw;cases MH with
      |agg h9 h1 h8=>have:=zrJ (w:=c.w) Zq h1 hl9;simpa[Value.cells,AV.cells,E.den]using this
     |dg=>
      have BK:CY hp0 [] (Bb+1) [.dg]=some (.cons w .nil):=by unfold CY;rw[hw];rfl
      have:=zrJ (w:=c.w) Zq MH BK;rw[Ng hw]at this ⊢;cases MH with
      |dg _=>simpa[Value.cells,AV.cells,E.den,EL.den]using this
     |_=>cases Zq
    obtain⟨c1,c2⟩:=zwA (w:=c.w) (ρ:=c.ρ) hs hw;obtain⟨kn,rfl⟩:=Int.eq_ofNat_of_zero_le h0;have Ep:(i.bytes:Int)*(kn:Int)<=281474976710656:=by rw[FD]at hb;rw[Int.mul_comm];omega
    have hlen:=c1.len;have PN:=zO z.cells (by omega) kn;have A6:=run_make (P:=P) c.w t e' i z BK hi Hk kk kk kn kn (by omega) (Int.le_refl _) Ep (by omega);have FW:(madeCells z.cells (kn*z.cells.size)).size=kn*P.cellsOf e':=by rw[size_madeCells,DA,CI]
    have B4:(madeCells z.cells (kn*z.cells.size)).toList.take ((List.replicate kn (w.den c.ρ)).length*P.cellsOf e')=(List.replicate kn z.cells.toList).flatten:=by rw[List.length_replicate,List.take_of_length_le (by rw[BF,FW];exact AB _),PN]
    have Ci:Az (List.replicate kn (w.den c.ρ))=(List.replicate kn (w.den c.ρ).cells).flatten:=by
     clear A6 FW B4 PN hb hle Ep hk Fu Dh h0 hc
     induction kn with
     |zero=>rfl
     |succ k ih=>simp only[List.replicate_succ,Az,List.flatMap_cons,List.flatten_cons]at ih ⊢;rw[ih]
    refine AJ.ir (T:=[]) h (by simp) (by simp) (by omega) Fq (xs:=List.replicate kn (w.den c.ρ)) (C:=madeCells z.cells (kn*z.cells.size)) (cap:=kn) (by simp[E.den,hk,AV.rep]) (λu hu=> ?_) (by simp) (by simp only[maxLen];omega) FW ?_ ?_ ?_
    ·rw[List.eq_of_mem_replicate hu,<-hlen,BF,DA,CI]
    ·rw[B4];intro u hu;obtain⟨q,hq,hu⟩:=List.mem_flatten.1 hu;rw[List.eq_of_mem_replicate hq]at hu;exact c2 u hu
    ·rw[B4,List.length_replicate,Ci];exact hzc.rep kn
    ·simp only[execOp,ho,Fu,Dh,Sem.run_bind,Int.ofNat_eq_natCast,List.length_replicate];rw[A6,DA];rfl
   ·cases he
  ·cases he
 ·cases he
end
section
variable {P:Program} {c:Cx} {n nx:Nat} {sl sl0:Nat->SV} {hp hp0:Nat->Option Ai} {a:Act} {o:Oper} {gs:Gd} {e:Bf} {sg:BY} {nv:Nat}
theorem zxD{α:Type}(cs vs:List α)(o:Nat):setVs cs o vs=cs.take o++(vs++cs.drop (o+vs.length)):=by simp[setVs]
theorem DC.setVs{w:World}{ts:List DT}{L V:List Value}{X Y:List AV}{N1 N2 M:List Nat}{p:Nat}(h1:DC w (ts.take p) (L.take p) (X.take p) N1)(h2:DC w (ts.drop (p+V.length)) (L.drop (p+V.length)) (X.drop (p+V.length)) N2)(k:DC w ((ts.drop p).take V.length) V Y M):
  DC w ts (Go.Proofs.YtlmjpjceiefpoaaGreatDoor.setVs L p V) (Go.Proofs.YtlmjpjceiefpoaaGreatDoor.setVs X p Y) (N1++(M++N2)):=by
 have hk:=k.len;have ht:ts=ts.take p++((ts.drop p).take V.length++ts.drop (p+V.length)):=by rw[<-List.drop_drop,B6,B6]
 rw[zxD,zxD];have hl:Y.length=V.length:=by omega
 rw[hl];have:=h1.app (k.app h2);rw[<-ht]at this;exact this
theorem zzA(h:BB P c n nx sl hp a sl0 hp0 o []){t:TypeId}{x y:Operand}(ho:o.op= .store t x y){b g:Nat}{ix:E}{sz k:Nat}{s:SV}(r1:SR c [.du b g ix sz k] [a.eval x])(r2:SR c [s] [a.eval y]){el:Nat}{l:List DT}{ep:Nat}{c0:E}(hK:c.K b g)(KV:∀g',c.K b g'->g'<=g)(hE:c.E b=ep)
  (BC:DV P t=true) (hle:k+P.cellsOf t<=sz) (F6:Aq P el=true\/(sz=1/\Aq P t=false)) (EF:Aq P t=true\/P.cellsOf t=1)
  {xe:E} {us:List Nat} {ck:List Cn} (CG:UB P hp0 [] t ((l.drop k).take (P.cellsOf t)) s=some (xe,us,ck)) (KG:∀q∈ck,q.den c.ρ) (Cb:us.Nodup) (hb:b∉us)
  (Cs:∀(kk:IntKind) (kv:Int),ix.den c.ρ= .int kk kv-> ∃(m cap:Nat) (C:Array Value) (ys:List AV) (N1 N2:List Nat),c.H b g= .slice (some ⟨m,0,none⟩) ys.length cap/\c0.den c.ρ= .sl ys/\0<sz/\l.length=sz/\c.w.heap[m]?=some (.cells C el (0,0))/\ys.length<=cap/\cap<=maxLen/\C.size=cap*sz/\(∀y∈ys,y.cells.length=sz)/\(∀w∈C.toList.take (ys.length*sz),w.oneCell'=true)/\
   (m::(N1++N2)).Nodup/\(∀q∈m::(N1++N2),q∈(c.G b).top)/\DC c.w ((B9 ys.length l).take (kv.toNat*sz+k)) ((C.toList.take (ys.length*sz)).take (kv.toNat*sz+k)) ((Az ys).take (kv.toNat*sz+k)) N1/\
   DC c.w ((B9 ys.length l).drop (kv.toNat*sz+k+P.cellsOf t)) ((C.toList.take (ys.length*sz)).drop (kv.toNat*sz+k+P.cellsOf t)) ((Az ys).drop (kv.toNat*sz+k+P.cellsOf t)) N2):
  AJ P o c n nx sl hp [] a {dn:=ck,cx:=(b, .deep el sz l g (ep+1) (.set c0 ix (.put (.idx c0 ix) k xe (Aq P el))))::ER us}:=by
 generalize hv:a.eval x=v at r1;cases r1 with
 |du k1 k2 k3 k4 k5 k6=>
  rename_i m0 len cap0 kk kv;obtain⟨m,cap,C,ys,N1,N2,p1,p2,p3,p4,p5,p6,p7,p8,p9,p10,p11,p12,p13,p14⟩:=Cs kk kv k3;rw[k2]at p1;cases p1;have JB:kv.toNat<ys.length:=by omega
  have hmul:(kv.toNat+1)*sz<=ys.length*sz:=Bz _ (by omega);have E6:ys.length*sz<=cap0*sz:=Bz _ p6;rw[Nat.add_mul]at hmul;have Ew:C.toList.length=cap0*sz:=by simpa using p8
  obtain⟨q1,q2,q3,q4,q5,q6⟩:=zw2 h.eh h.gs (by rw[AE,Bn,p4];omega) EF CG r2 KG;have GP:=Pf JB;generalize Kf:(AV.sl ys).nth kv.toNat=yk at GP;have Gb:=p9 yk (List.mem_of_getElem? GP);have EM:(a.eval y).cells.toList.length=P.cellsOf t:=by simpa using q4
  obtain⟨m1,m2,m3⟩:=yI (vs:=(a.eval y).cells.toList) p5 (show(kv.toNat*sz+k)+_<=C.size by rw[EM,p8];omega);have Vt:(C.toList.take (ys.length*sz)).length=ys.length*sz:=by rw[AE,Ew];omega
  have IV:m0∈(c.G b).top:=p12 _ (by simp);have MK:∀q∈CB c us,q∉(c.G b).top:=λq hq hh=>by obtain⟨u,hu,oG⟩:=TZ.1 hq;exact h.rel.gw.dt u b (λhh=>hb (hh▸hu)) q (by simp[GI.own,oG]) (by simp[GI.own,hh])
  have NU:∀q∈CB c us,q<c.w.heap.size:=λq hq=>by obtain⟨u,_,oG⟩:=TZ.1 hq;exact h.rel.gw.inb u q (by simp[GI.own,oG])
  have NT:∀q∈(c.G b).top,q<c.w.heap.size:=λq hq=>h.rel.gw.inb b q (by simp[GI.own,hq]);have Bm:∀q,q∈CB c us\/(q∈N1++N2)->(putCells c.w m0 (kv.toNat*sz+k) (a.eval y).cells.toList).heap[q]?=c.w.heap[q]?:=λq hq=>by
   refine m1.block q ?_ ?_
   ·rcases hq with hq|hq
    ·exact NU q hq
    ·exact NT q (p12 q (by simp[Ae.1 hq]))
   ·simp only[List.mem_singleton];rintro rfl;rcases hq with hq|hq
    ·exact MK _ hq IV
    ·exact(List.nodup_cons.1 p11).1 hq
  have hz:(yk.fm k (xe.den c.ρ) (Aq P el)).cells=setVs yk.cells k (xe.den c.ρ).cells:=by
   refine ztD ?_ (λhg=> ?_)
   ·cases hg:Aq P el with
    |true=>exact .inr rfl
    |false=>
     left;rcases F6 with h'|⟨_,h'⟩
     ·rw[hg]at h';cases h'
     ·rw[h']at q5;exact λcs=>(q5.1 cs)
   ·rcases F6 with h'|⟨h1,h'⟩
    ·rw[hg]at h';cases h'
    ·rw[h']at q5;have Pw:P.cellsOf t=1:=by rcases EF with h2|h2;rw[h']at h2;cases h2;exact h2
     refine⟨by omega,by omega,?_⟩;cases oW:xe.den c.ρ<;>first|rfl|exact absurd oW (q5.1 _)
  have E0:Az (ys.set kv.toNat (yk.fm k (xe.den c.ρ) (Aq P el)))=setVs (Az ys) (kv.toNat*sz+k) (xe.den c.ρ).cells:=
   kR ys _ _ yk k _ p9 GP (by rw[q3];exact hle) hz
  have H5:((B9 ys.length l).drop (kv.toNat*sz+k)).take (P.cellsOf t)=(l.drop k).take (P.cellsOf t):=by rw[<-p4];exact Yb l _ _ _ _ JB (by omega)
  have A6:(execOp a.eval o).run P c.w= .ok .skip (putCells c.w m0 (kv.toNat*sz+k) (a.eval y).cells.toList):=by have:=zrV (P:=P) (t:=t) (v:=a.eval y) (off:=kv.toNat*sz+k) p5 BC q4 (by rw[q4,p8];omega) q2;simp[execOp,ho,hv,this]
  refine AJ.mi h Cb q6 hb hK KV hE A6 (hs:=(c.G b).top++CB c us) (λq hq=>Ae.1 hq) ⟨m1.os,m1.tape,m1.output,m1.size,λq hq hn=>m1.block q hq λhh=>hn (by simp only[List.mem_singleton]at hh;subst hh;exact Ae.2 (.inl IV))⟩
   (top:=m0::(N1++(CB c us++N2))) ?_ (λq hq=> ?_) ?_
  ·have hnT:=iR h.rel.gw Cb;rw[List.nodup_cons,List.nodup_append]at p11;obtain⟨n1,n2,n3,n4⟩:=p11;have a1:∀q∈CB c us,q∉N1/\q∉N2/\q≠m0:=λq hq=>⟨λhh=>MK q hq (p12 q (by simp[hh])),λhh=>MK q hq (p12 q (by simp[hh])),λhh=>MK q hq (hh▸IV)⟩
   rw[List.nodup_cons,List.nodup_append,List.nodup_append];refine⟨λhh=> ?_,n2,⟨hnT,n3,λp hp q hq Zf=>(a1 p hp).2.1 (Zf▸hq)⟩,λp hp q hq Zf=> ?_⟩
   ·simp only[Ae]at hh n1;rcases hh with hh|hh|hh
    ·exact n1 (.inl hh)
    ·exact(a1 _ hh).2.2 rfl
    ·exact n1 (.inr hh)
   ·rcases Ae.1 hq with hq|hq
    ·exact(a1 q hq).1 (Zf▸hp)
    ·exact n4 p hp q hq Zf
  ·have:q∈(c.G b).top\/q∈CB c us:=by
    simp only[Ag,Ae]at hq;rcases hq with rfl|hq|hq|hq
    ·exact .inl IV
    ·exact .inl (p12 q (by simp[hq]))
    ·exact .inr hq
    ·exact .inl (p12 q (by simp[hq]))
   refine⟨.inl (Ae.2 this),Nat.lt_of_lt_of_le ?_ m1.size⟩;rcases this with hh|hh
   ·exact NT q hh
   ·exact NU q hh
  ·have CN:(E.set c0 ix (.put (.idx c0 ix) k xe (Aq P el))).den c.ρ= .sl (ys.set kv.toNat (yk.fm k (xe.den c.ρ) (Aq P el))):=by
    simp only[E.den,p2,k3,AV.idx,Kf,AV.fq]
   rw[CN,k2];have Fq:(ys.set kv.toNat (yk.fm k (xe.den c.ρ) (Aq P el))).length=ys.length:=List.length_set;have:=DC.row (w:=putCells c.w m0 (kv.toNat*sz+k) (a.eval y).cells.toList) (e:=el) (z:=sz) (l:=AM.of l) (g:=m0) (cap:=cap0) (ys:=ys.set kv.toNat (yk.fm k (xe.den c.ρ) (Aq P el))) (N1:=N1++(CB c us++N2)) (ts:=[]) (vs:=[]) (xs:=[]) (N:=[]) p3 (by rw[AM.ax];exact p4) m2 (by rw[Fq];exact p6) p7 (by rw[List.size_toArray,Yk _ _ _ (by rw[EM,Ew];omega),BF];exact p8) (λw hw=> ?_) ?_ ?_ .nil
   ·rw[Fq]at this;simpa using this
   ·rcases List.mem_or_eq_of_mem_set hw with hw|rfl
    ·exact p9 w hw
    ·rw[hz,Yk _ _ _ (by rw[q3,Gb];exact hle)];exact Gb
   ·simp only[Fq,List.toList_toArray];rw[jP _ _ _ _ (by rw[EM];omega) (by rw[Ew];omega)];intro u hu;unfold setVs at hu;simp only[Ae]at hu;rcases hu with(hu|hu)|hu
    ·exact p10 u (BD hu)
    ·exact q2 u hu
    ·exact p10 u (BR hu)
   ·simp only[Fq,List.toList_toArray];rw[jP _ _ _ _ (by rw[EM];omega) (by rw[Ew];omega),E0,AM.ax];refine DC.setVs (p13.frame λq hq=>Bm q (.inr (by simp[hq]))) ?_ ?_
    ·rw[EM];exact p14.frame λq hq=>Bm q (.inr (by simp[hq]))
    ·rw[EM,H5];exact q1.frame λq hq=>Bm q (.inl hq)
theorem zyy(h:BB P c n nx sl hp a sl0 hp0 o gs){t:TypeId}{x y:Operand}(ho:o.op= .store t x y){b g:Nat}{ix:E}{sz k:Nat}{s:SV}(A2: ¬ ∃e z g c d,look hp0 gs b=some (.row e z g c d))(hx:BW sl0 gs x=some (.du b g ix sz k))(hy:BW sl0 gs y=some s)
  (he:O8 P hp0 gs t (.du b g ix sz k) s=some e) (hc:∀q∈e.dn,Cn.den c.ρ q):AJ P o c n nx sl hp gs a e:=by
 have r1:=h.dy hx (by simp[ho,Op.operands]);have r2:=h.dy hy (by simp[ho,Op.operands]);simp only[O8]at he;split at he
 ·rename_i hl;exact absurd ⟨_,_,_,_,_,hl⟩ A2
 ·rename_i el sz' l g' ep c0 hl;split at he
  ·rename_i hh;obtain⟨rfl,rfl,rfl,BC,hle,F6,EF⟩:=hh;split at he
   ·rename_i xe us ck CG;split at he
    ·cases he
    rename_i D4;simp only[Bool.or_eq_true,Bk,not_or,Bool.not_eq_false,Bool.not_eq_true,List.contains_eq_mem,decide_eq_false_iff_not]at D4;simp only[Af]at he;subst he;obtain⟨e1,e2,e3,e4,e5⟩:=h.eh b _ (Df hl h.gs);refine zzA h ho r1 r2 e1 e2 e3 BC hle (by simpa using F6) EF CG hc (T9 D4.1) D4.2 λkk kv Vs=> ?_;generalize a.eval x=v at r1;cases r1 with
    |du k1 k2 k3 k4 k5 _=>
     rw[k3]at Vs;cases Vs;obtain⟨d1,d2,⟨a9,d3,_⟩|⟨g9,cap9,C,ys,N,d3,d4,d5,d6,d7,d8,d9,d10,d11,d12⟩⟩:=e4.inv
     ·rw[k2]at d3;cases d3;omega
     ·rw[AM.ax]at d2 d12;obtain⟨N1,N2,N3,rfl,s1,s2,s3⟩:=d12.split (kv.toNat*sz+k) (P.cellsOf t);have Cb:=h.rel.gw.nodup b;simp only[GI.own,e5,AG,d5]at Cb;refine⟨g9,cap9,C,ys,N1,N3,d3,d4,d1,d2,d6,d7,d8,d9,d10,d11,?_,λq hq=> ?_,s1,s3⟩
      ·refine List.Sublist.nodup (List.Sublist.cons_cons _ ?_) Cb;rw[List.append_assoc];exact List.Sublist.append (List.Sublist.refl _) (List.sublist_append_right _ _)
      ·rw[d5];simp only[Ag,Ae]at hq ⊢;rcases hq with hq|hq|hq
       ·exact .inl hq
       ·exact .inr (.inl (.inl hq))
       ·exact .inr (.inr hq)
   ·cases he
  ·cases he
 ·rename_i el sz' l g' ep c0 i' o' u' hl;split at he
  ·rename_i hh;obtain⟨rfl,rfl,rfl,BC,rfl,hib,hle,Pw,EF,F6⟩:=hh;have EF:Aq P t=false:=by simpa using EF
   split at he
   ·rename_i xe us ck CG;split at he
    ·cases he
    rename_i D4;simp only[Bool.or_eq_true,Bk,not_or,Bool.not_eq_false,Bool.not_eq_true,List.contains_eq_mem,decide_eq_false_iff_not]at D4;simp only[Af]at he;subst he;obtain⟨e1,e2,e3,⟨m,cap,C,ys,kk,kv,N1,N2,p1,p2,p3,p4,p5,p6,p7,p7',p8,p9,p10,p11,p12,p13,p14,p15,p16,p17,p18⟩,e5⟩:=h.eh b _ (Df hl h.gs);refine zzA h ho r1 r2 e1 e2 e3 BC (by omega) (F6.imp id λhh=>⟨hh,EF⟩) (.inr Pw) (by rw[Pw];exact CG) hc (T9 D4.1) D4.2 λkk' kv' Vs=> ?_;rw[E.bb c.ρ _ _ hib,p3]at Vs;cases Vs;have Cb:=h.rel.gw.nodup b;simp only[GI.own,e5,AG,p14]at Cb;exact⟨m,cap,C,ys,N1,N2,p1,p2,p7,p7',p8,p9,p10,p11,p12,p13,Cb,λq hq=>by rw[p14];exact hq,p17,by rw[Pw];exact p18⟩
   ·cases he
  ·cases he
 ·cases he
end
section
variable {P:Program} {c:Cx} {n nx:Nat} {sl sl0:Nat->SV} {hp hp0:Nat->Option Ai} {a:Act} {o:Oper} {gs:Gd} {e:Bf} {sg:BY} {nv:Nat}
theorem zIP{w:World}{ety sz:Nat}{p:Option Addr}{m r:Nat}{x:AV}{top N:List Nat}(h:Dd w ety sz (.slice p m r) x top N):∃xs,x= .sl xs/\xs.length=m/\m<=r/\0<sz/\(∀y∈xs,y.cells.length=sz)/\
  ((xs=[]/\m=0/\r=0/\top=[]/\N=[])\/ ∃g C,p=some ⟨g,0,none⟩/\r<=maxLen/\w.heap[g]?=some (.cells C ety (0,0))/\C.size=r*sz/\top=[g]/\(∀u∈C.toList.take (m*sz),u.oneCell'=true)/\Rd w (C.toList.take (m*sz)) (Az xs) N):=by
 obtain⟨xs,rfl,h2,h3,⟨rfl,⟨a,hv⟩,rfl,rfl⟩|⟨g,cap',C,hv,h6,h7,h8,h9,rfl,EX,EE⟩⟩:=h
 ·cases hv;exact⟨[],rfl,rfl,AB _,h3,by simp, .inl ⟨rfl,rfl,rfl,rfl,rfl⟩⟩
 ·cases hv;exact⟨xs,rfl,rfl,h6,h3,h2, .inr ⟨g,C,rfl,h7,h8,h9,rfl,EX,EE⟩⟩
theorem zBU(h:BB P c n nx sl hp a sl0 hp0 o gs){t:TypeId}{x:Operand}{lo hi mx:Option Operand}(ho:o.op= .slice t x lo hi mx){s:SV}(hs:BW sl0 gs x=some s){l' h' m':Option SV}(BP:Jk (BW sl0 gs) lo=some l')(LF:Jk (BW sl0 gs) hi=some h')(Dl:Jk (BW sl0 gs) mx=some m')(he:qR P hp0 gs t s l' h' m'=some e)(hc:∀q∈e.dn,Cn.den c.ρ q):AJ P o c n nx sl hp gs a e:=by cases(show(none:Option Bf)=some e from he)
theorem zG2(h:BB P c n nx sl hp a sl0 hp0 o gs){x:Operand}{tx:TypeId}{cl:Call}(ho:o.op= .call cl)(AD:cl.callee= .builtin .clear)(Dk:cl.args.toList=[x])(Eo:cl.argTypes.toList=[tx]){s:SV}(hs:BW sl0 gs x=some s)(he:zFN P hp0 gs tx s=some e)(hc:∀q∈e.dn,Cn.den c.ρ q):AJ P o c n nx sl hp gs a e:=by cases(show(none:Option Bf)=some e from he)
end
section
variable {P:Program} {c:Cx} {n nx:Nat} {sl sl0:Nat->SV} {hp hp0:Nat->Option Ai} {a:Act} {o:Oper} {gs:Gd} {e:Bf} {sg:BY} {nv:Nat}
theorem zIn(l:List DT){n i:Nat}(hi:i<=n):B9 n l=B9 i l++B9 (n-i) l:=by rw[<-QW];congr 1;omega
theorem zGs{K:Nat}{xs:List AV}(h:∀y∈xs,y.cells.length=K){i:Nat}(hi:i<=xs.length):Az (xs.take i)=(Az xs).take (i*K)/\Az (xs.drop i)=(Az xs).drop (i*K):=by
 have l1:(Az (xs.take i)).length=i*K:=by rw[Lf _ λy hy=>h y (BD hy),AE,Nat.min_eq_left hi]
 have e:Az xs=Az (xs.take i)++Az (xs.drop i):=by rw[<-jA,B6]
 rw[e,<-l1,List.take_left,List.drop_left];exact⟨rfl,rfl⟩
theorem DC.pa{w:World}{xs:List AV}{l:List DT}{K:Nat}{cs:List Value}{N:List Nat}(hK:l.length=K)(h:DC w (B9 xs.length l) cs (Az xs) N)(hx:∀y∈xs,y.cells.length=K){i:Nat}(hi:i<=xs.length):
  ∃N1 N2,N=N1++N2/\DC w (B9 i l) (cs.take (i*K)) (Az (xs.take i)) N1/\DC w (B9 (xs.length-i) l) (cs.drop (i*K)) (Az (xs.drop i)) N2:=by
 have hlen:=h.len;have t1:=zGs hx hi;have hmul:=Bz K hi;rw[zIn l hi,<-B6 (i*K) cs,<-B6 (i*K) (Az xs)]at h;rw[O3,hK]at hlen;obtain⟨N1,N2,rfl,h1,h2⟩:=DC.gh (by rw[O3,hK,AE];omega) (by rw[O3,hK,AE];omega) h;exact⟨N1,N2,rfl,by rw[t1.1];exact h1,by rw[t1.2];exact h2⟩
theorem zDL(h:BB P c n nx sl hp a sl0 hp0 o gs){t:TypeId}{x:Operand}{lo hi mx:Option Operand}(ho:o.op= .slice t x lo hi mx){s:SV}(hs:BW sl0 gs x=some s){l' h' m':Option SV}(BP:Jk (BW sl0 gs) lo=some l')(LF:Jk (BW sl0 gs) hi=some h')(Dl:Jk (BW sl0 gs) mx=some m')(he:Zv P hp0 gs nx t s l' h' m'=some e)(hc:∀q∈e.dn,Cn.den c.ρ q):AJ P o c n nx sl hp gs a e:=by
 have hm:x∈o.op.operands:=by simp[ho,Op.operands]
 have PO:∀y,lo=some y->y∈o.op.operands:=λy hy=>by simp[ho,Op.operands,hy]
 have MB:∀y,hi=some y->y∈o.op.operands:=λy hy=>by simp[ho,Op.operands,hy]
 have hx:=h.dy hs hm;have ival:∀{x:E} {kk:IntKind} {k:Int} {v:Value},SR c [.e x] [v]->x.den c.ρ= .int kk k->v= .int kk k:=by
  intro x kk k v hr hx;cases hr with
  |e h1 _ _=>exact(Hd h1 hx).1
 have ex:(execOp a.eval o).run P c.w=((Instr.sliceAt t (a.eval x) (lo.map a.eval) (hi.map a.eval) (mx.map a.eval)).run P c.w).andThen λv w=> .ok (.value v) w:=by simp[execOp,ho]
 unfold Zv at he;split at he
 ·rename_i el0 b g BK;have hu:=LY BK;split at he
  ·cases he
  rename_i BC;have BC:DV P el0=true:=by simpa using BC
  have PQ:mx=none:=by
   rcases Lg Dl with⟨hh,_⟩|⟨_,_,_,_,hh⟩
   ·exact hh
   ·cases hh
  subst PQ;split at he
  ·rename_i el z dl g' ep c0 hl;split at he
   ·cases he
   rename_i AT;simp only[not_or,Decidable.not_not,ne_eq]at AT;obtain⟨rfl,rfl,rfl⟩:=AT;obtain⟨q1,q2,_,q4,_⟩:=h.eh b _ (Df hl h.gs);generalize hv:a.eval x=v at hx ex;cases hx with
   |own k1 k2 k3=>
    rename_i p m r;rw[k2]at q4;obtain⟨_,q3,_⟩:=q4.ownRow;obtain⟨xs,Da,MO,hmr,BJ,AD,Bv⟩:=zIP q3;split at he
    ·rename_i l;simp only[Af]at he;subst he;obtain⟨ka,ai,kb,bi,mm,d1,d2,d3,d4,d5,d6⟩:Cn.den c.ρ (.win c0 l (.len c0)):=Cl hc;have hmm:mm=(m:Int):=by rw[Da]at d3;simp only[AV.len,AV.int.injEq,true_and]at d3;omega
     obtain⟨an,rfl⟩:=Int.eq_ofNat_of_zero_le d4;obtain⟨ol,B7,hol⟩:∃ol,lo=some ol/\BW sl0 [] ol=some (.e l):=by
      rcases Lg BP with⟨_,hh⟩|⟨ol,sl',PF,F8,mZ⟩
      ·cases hh
      ·cases mZ;exact⟨ol,PF,F8⟩
     have PG:hi=none:=by
      rcases Lg LF with⟨hh,_⟩|⟨_,_,_,_,hh⟩
      ·exact hh
      ·cases hh
     subst B7;subst PG;have Vw:=ival (h.dy hol (PO _ rfl)) d1;have hle:an<=m:=by omega
     have A6:=xV (P:=P) (w:=c.w) (lo:=(some ol).map a.eval) (hi:=(none:Option Operand).map a.eval) hu BC p m r an m (.inr ⟨ka,by rw[Option.map_some,Vw]⟩) (.inl ⟨rfl,rfl⟩) hle (AB _) hmr;have:=SR.wown (c:=c) (lo:=l) (sz:=P.cellsOf el) (q':=if r=an then p else p.map (·.add (an*P.cellsOf el))) (r:=r-an) k1 k2 d1 d4 (by omega) (λAP=>by
      rcases Bv with⟨_,CF,_⟩|⟨g9,C,rfl,_⟩
      ·omega
      ·exact⟨g9,rfl,by rw[if_neg (by omega)];simp[Addr.add_lit],by simp⟩) .nil
     refine AJ.pure h (v:=sliced p an m r (P.cellsOf el)) ?_ (by simpa[sliced]using this) rfl;rw[ex];show Result.andThen (Sem.run P (Instr.sliceAt t (.slice p m r) ((some ol).map a.eval) ((none:Option Operand).map a.eval) none) c.w) _=_;rw[A6];rfl
    ·cases he
  ·rename_i el z dl g' ep c0 kE hl;split at he
   ·cases he
   rename_i AT;simp only[not_or,Decidable.not_not,ne_eq]at AT;obtain⟨rfl,rfl,rfl⟩:=AT;obtain⟨q1,q2,_,⟨p',cap',ys,kk,kv,e1,e2,e3,e4,e5,e6⟩,_⟩:=h.eh b _ (Df hl h.gs);generalize hv:a.eval x=v at hx ex;cases hx with
   |own k1 k2 k3=>
    rename_i p m r;rw[k2]at e1;simp only[Value.slice.injEq]at e1;obtain⟨rfl,rfl,rfl⟩:=e1;split at he
    ·rename_i hb;split at he
     ·rename_i J5;rw[<-E.bb c.ρ _ _ J5]at e3;simp only[Af]at he;subst he;obtain⟨oh,PG,hoh⟩:∃oh,hi=some oh/\BW sl0 [] oh=some (.e hb):=by
       rcases Lg LF with⟨_,hh⟩|⟨ol,sl',PF,F8,mZ⟩
       ·cases hh
       ·cases mZ;exact⟨ol,PF,F8⟩
      have B7:lo=none:=by
       rcases Lg BP with⟨hh,_⟩|⟨_,_,_,_,hh⟩
       ·exact hh
       ·cases hh
      subst B7;subst PG;have Vw:=ival (h.dy hoh (MB _ rfl)) e3;have A6:=xV (P:=P) (w:=c.w) (lo:=(none:Option Operand).map a.eval) (hi:=(some oh).map a.eval) hu BC p ys.length r 0 kv (.inl ⟨rfl,rfl⟩) (.inr ⟨kk,by rw[Option.map_some,Vw]⟩) (Nat.zero_le _) e4 e5;have Dw:sliced p 0 kv r (P.cellsOf el)= .slice p kv r:=by
       obtain⟨_,_,⟨a9,h9,_⟩|⟨g9,cap,C,zs,N1,h9,_⟩⟩:=e6.inv
       ·simp only[Value.slice.injEq]at h9;obtain⟨rfl,_,rfl⟩:=h9;simp[sliced]
       ·simp only[Value.slice.injEq]at h9;obtain⟨rfl,_,_⟩:=h9;unfold sliced;split<;>simp[Addr.add_lit]
      rw[Dw]at A6;have D7:(execOp a.eval o).run P c.w= .ok (.value (.slice p kv r)) c.w:=by rw[ex];show Result.andThen (Sem.run P (Instr.sliceAt t (.slice p ys.length r) ((none:Option Operand).map a.eval) ((some oh).map a.eval) none) c.w) _=_;rw[A6];rfl
      have oT:(E.win c0 (.int .i64 0) hb).den c.ρ= .sl (ys.take kv):=by simp only[E.den,e2,e3,AV.win];simp
      have Ct:CB c [b]=(c.G b).top:=by simp[CB]
      have Cb:=h.rel.gw.nodup b;simp only[GI.own]at Cb;exact AJ.ig h (T:=[b]) (by simp) (by simpa using⟨_,q1⟩) D7 (Mod.refl _ _) (top:=(c.G b).top) (List.nodup_append.1 Cb).1 (λq hq=>⟨.inl (by rw[Ct];exact hq),h.rel.gw.inb b q (by simp[GI.own,hq])⟩) (by rw[oT];exact e6)
     ·cases he
    ·cases he
  ·cases he
 ·cases he
theorem zEq{x y:Operand}{tx:TypeId}{cl:Call}(ho:o.op= .call cl)(AD:cl.callee= .builtin .append)(Dk:cl.args.toList=[x,y])(Eo:cl.argTypes.toList=[tx,tx])
  {el:TypeId} (BK:P.underlying tx=some (.slice el)) (hz:Jh P el=true) {l:List DT} (hl:l.length=P.cellsOf el) {TT:List Nat} (Y3:TT.Nodup) (Mn:∀b∈TT,b<c.w.heap.size) {N2:List Nat} (Pn:N2.Nodup) (KD:∀b∈N2,b<c.w.heap.size) (UX:∀b∈N2,b∉TT)
  {ys:List AV} {q:Option Addr} {r:Nat} {news:List Value} (Dh:a.eval y= .slice q ys.length r) (Dx:Src c.w (P.cellsOf el) q ys.length news) (Py:DC c.w (B9 ys.length l) news (Az ys) N2) (Kd:∀y∈ys,y.cells.length=P.cellsOf el) (PR:∀u∈news,u.oneCell'=true)
  {X:AV} {v:Value} (hv:a.eval x=v) (A2:DC c.w [.row el (P.cellsOf el) (AM.of l)] [v] [X] TT) {xs:List AV} (hX:X= .sl xs) (N6:((xs.length:Int)+ys.length)*P.bytesOf el<=140737488355328) (Zi:(xs.length:Int)+ys.length<=140737488355328):
  ∃v' w' top,(execOp a.eval o).run P c.w= .ok (.value v') w'/\Mod TT c.w w'/\top.Nodup/\(∀b∈top,(b∈TT\/b∈N2\/c.w.heap.size<=b)/\b<w'.heap.size)/\DC w' [.row el (P.cellsOf el) (AM.of l)] [v'] [.sl (xs++ys)] top:=by
 have Aj:cl.args= #[x,y]:=by apply Array.ext';simp[Dk]
 have Io:cl.argTypes= #[tx,tx]:=by apply Array.ext';simp[Eo]
 obtain⟨i,z,hi,Hk,DA,BJ,CI,FD⟩:=Nd hz;obtain⟨d1,d2,Bv⟩:=A2.inv;rw[AM.ax]at d2 Bv;subst hX;obtain⟨old,N1,hold,FU,mP,Hr,C8,LD,Pm⟩:∃(old:List Value) (N1:List Nat),old.length=xs.length*i.size/\((xs.length=0/\ ∃q,v= .slice q 0 0)\/ ∃g cap C,v= .slice (some ⟨g,0,none⟩) xs.length cap/\xs.length<=cap/\cap<=maxLen/\c.w.heap[g]?=some (.cells C el (0,0))/\C.size=cap*i.size/\old=C.toList.take (xs.length*i.size)/\(g∈TT/\g∉N1))/\
   DC c.w (B9 xs.length l) old (Az xs) N1/\(∀y∈xs,y.cells.length=P.cellsOf el)/\(∀u∈old,u.oneCell'=true)/\(∀b∈N1,b∈TT)/\N1.Nodup:=by
  rcases Bv with⟨p,rfl,ET,rfl⟩|⟨g9,cap,C,xs',N1,rfl,ET,rfl,h6,h7,h8,h9,EX,EE,HY⟩
  ·cases ET;exact⟨[],[],by simp, .inl ⟨rfl,p,rfl⟩,by simpa[B9,Az]using DC.nil,by simp,by simp,by simp,by simp⟩
  ·cases ET;rw[List.nodup_cons]at Y3;refine⟨_,N1,?_, .inr ⟨g9,cap,C,rfl,h7,h8,h6,by rw[<-CI];exact h9,rfl,by simp,Y3.1⟩,by rw[<-CI];exact HY,EX,by rw[<-CI];exact EE,λb hb=>by simp[hb],Y3.2⟩;have e9:C.toList.length=cap*i.size:=by rw[<-CI,<-h9];simp
   rw[AE,e9];exact Nat.min_eq_left (Bz _ h7)
 have CE:(xs.length+ys.length)*i.bytes<=140737488355328:=by
  rw[FD]at N6;have h9:(((xs.length+ys.length)*i.bytes:Nat):Int)<=140737488355328:=by rw[Int.natCast_mul,Int.natCast_add];exact N6
  omega
 have FC:xs.length+ys.length<=140737488355328:=by omega
 rw[CI]at Dx;obtain⟨v',w',A6,A1⟩:=Un (P:=P) c.w tx o.type el i z BK hi Hk DA BJ (λg9=>g9∈TT/\g9∉N1) v xs.length old hold FU q ys.length r news Dx (by simp only[maxLen];omega) CE;have D7:(execOp a.eval o).run P c.w= .ok (.value v') w':=by simp[execOp,ho,resolve,AD,Aj,Io,invoke,builtin,hv,Dh,A6]
 rcases A1 with⟨rfl,rfl,CF⟩|⟨g9,cap,C,rfl,h1,h2,h3,h4,h5,h6,h7⟩
 ·have I0:ys=[]:=List.eq_nil_of_length_eq_zero CF;subst I0;refine⟨_,_,TT,D7,Mod.refl _ _,Y3,λb hb=>⟨.inl hb,Mn b hb⟩,?_⟩;rw[AG];exact A2
 ·have Jy:(g9∈TT\/c.w.heap.size<=g9)/\g9∉N1/\g9∉N2:=by
   rcases h7 with⟨rfl,_⟩|⟨hg,CK⟩
   ·refine⟨.inr (AB _),λhh=> ?_,λhh=> ?_⟩
    ·have:=Mn _ (LD _ hh);omega
    ·have:=KD _ hh;omega
   ·exact⟨.inl hg,CK,λhh=>UX _ hh hg⟩
  have Bm:∀b∈N1++N2,w'.heap[b]?=c.w.heap[b]?:=λb hb=>by
   have AP:b<c.w.heap.size:=by
    rcases Ae.1 hb with hb|hb
    ·exact Mn b (LD b hb)
    ·exact KD b hb
   refine h6.block b AP λhh=> ?_;cases hh;rcases Ae.1 hb with hb|hb
   ·exact Jy.2.1 hb
   ·exact Jy.2.2 hb
  refine⟨_,w',g9::(N1++N2),D7,zwl h6 λg hg=> ?_,?_,λb hb=> ?_,?_⟩
  ·cases hg;exact Jy.1
  ·refine List.nodup_cons.2 ⟨λhh=> ?_,List.nodup_append.2 ⟨Pm,Pn,λp hp q hq e=>UX q hq (e▸LD p hp)⟩⟩;rcases Ae.1 hh with hh|hh
   ·exact Jy.2.1 hh
   ·exact Jy.2.2 hh
  ·rcases Ag.1 hb with rfl|hb
   ·exact⟨Jy.1.elim .inl λh=> .inr (.inr h),Di h3⟩
   ·rcases Ae.1 hb with hb|hb
    ·exact⟨.inl (LD b hb),Nat.lt_of_lt_of_le (Mn b (LD b hb)) h6.size⟩
    ·exact⟨.inr (.inl hb),Nat.lt_of_lt_of_le (KD b hb) h6.size⟩
  ·have hlen:(xs++ys).length=xs.length+ys.length:=Av;rw[CI]at d1 d2 Hr Kd ⊢;have:=DC.row (w:=w') (e:=el) (z:=i.size) (l:=AM.of l) (g:=g9) (cap:=cap) (C:=C) (ys:=xs++ys) (N1:=N1++N2) (ts:=[]) (vs:=[]) (xs:=[]) (N:=[]) d1 (by rw[AM.ax];exact d2) h3 (by rw[hlen];exact h1) h2 h4 (λw hw=> ?_) (by
     rw[hlen,h5];intro u hu;rcases Ae.1 hu with hu|hu
     ·exact C8 u hu
     ·exact PR u hu) (by
     rw[hlen,h5,jA,QW,AM.ax];exact(mP.app Py).frame Bm) .nil
   ·rw[hlen]at this;simpa using this
   ·rcases Ae.1 hw with hw|hw
    ·exact Hr w hw
    ·exact Kd w hw
theorem zBQ(h:BB P c n nx sl hp a sl0 hp0 o gs){x y:Operand}{tx ty:TypeId}{cl:Call}(ho:o.op= .call cl)(AD:cl.callee= .builtin .append)(Dk:cl.args.toList=[x,y])(Eo:cl.argTypes.toList=[tx,ty])
  {s1 s2:SV} (BO:BW sl0 gs x=some s1) (Bd:BW sl0 gs y=some s2) (he:lG P hp0 gs nx tx ty s1 s2=some e) (hc:∀q∈e.dn,Cn.den c.ρ q):AJ P o c n nx sl hp gs a e:=by
 have Aj:cl.args= #[x,y]:=by apply Array.ext';simp[Dk]
 have DL:x∈o.op.operands:=by simp[ho,Op.operands,Call.operands,AD,Aj]
 have C7:y∈o.op.operands:=by simp[ho,Op.operands,Call.operands,AD,Aj]
 unfold lG at he;split at he
 ·cases he
 rename_i K0;have K0:tx=ty:=by simpa using K0
 subst K0;split at he
 ·rename_i el e' z dl t g2 b g lo z' BK D2;have KK:=LY BK;split at he
  ·cases he
  rename_i AT;simp only[not_or,Bk,Bool.not_eq_false,ne_eq,Decidable.not_not]at AT;obtain⟨hz,rfl,rfl,rfl,Zk⟩:=AT;obtain⟨_,_,l,KS,Fq⟩:=Yu BK D2;simp only[DT.row.injEq,true_and]at KS;subst KS;rw[AM.ax]at he;have r1:=h.dy BO DL;have r2:=h.dy Bd C7;split at he
  ·rename_i e2 z2 l2 g2' ep2 c2 e3 z3 l3 g3 ep c0 AP hlb;split at he
   ·rename_i hh;obtain⟨rfl,rfl,FC,rfl,rfl,rfl,GC,rfl⟩:=hh;have FC:=AM.ij FC;have GC:=AM.ij GC;subst FC;subst GC;simp only[Af]at he;subst he;obtain⟨qt1,qt2,qt3,qt4,qt5⟩:=h.eh t _ (Df AP h.gs);obtain⟨qb1,qb2,qb3,qb4,qb5⟩:=h.eh b _ (Df hlb h.gs);obtain⟨ka,ai,kb,bi,mm,d1,d2,d3,d4,d5,d6⟩:Cn.den c.ρ (.win c0 lo (.len c0)):=hc _ (by simp);obtain⟨m1,m2,rr1,rr2,rr3,rr4⟩:Cn.den c.ρ (.room c2 (.win c0 lo (.len c0)) (P.bytesOf e3)):=hc _ (by simp);generalize hvx:a.eval x=v at r1;generalize hvy:a.eval y=v2 at r2;cases r1 with
    |own k1 k2 k3=>
     cases r2 with
     | @wown _ _ _ _ qq nn cap qq' r kk kI _ _ j1 j2 j3 j4 j5 j6 j7=>
      have htd:(c.G t).top.Nodup:=by have:=h.rel.gw.nodup t;simp only[GI.own]at this;exact(List.nodup_append.1 this).1
      have mE:(c.G b).top.Nodup:=by have:=h.rel.gw.nodup b;simp only[GI.own]at this;exact(List.nodup_append.1 this).1
      have oP:∀q∈(c.G t).top,q<c.w.heap.size:=λq hq=>h.rel.gw.inb t q (by simp[GI.own,hq]);have Mt:∀q∈(c.G b).top,q<c.w.heap.size:=λq hq=>h.rel.gw.inb b q (by simp[GI.own,hq]);have IS:∀q∈(c.G b).top,q∉(c.G t).top:=λq hq Hm=>h.rel.gw.dt b t (λe=>Zk e.symm) q (by simp[GI.own,hq]) (by simp[GI.own,Hm]);obtain⟨z1,z2',Bv⟩:=qb4.inv;rw[AM.ax]at z2' Bv;obtain⟨an,rfl⟩:=Int.eq_ofNat_of_zero_le j4;obtain⟨ys,news,NB,DF,hyl,Dx,Py,Kd,PR,Y2,topb,FX,Po,oE⟩:∃(ys:List AV) (news:List Value) (NB:List Nat),(E.win c0 lo (.len c0)).den c.ρ= .sl ys/\ys.length=nn-an/\Src c.w (P.cellsOf e3) qq' ys.length news/\DC c.w (B9 ys.length l3) news (Az ys) NB/\(∀y∈ys,y.cells.length=P.cellsOf e3)/\(∀u∈news,u.oneCell'=true)/\(∀q∈NB,q∈(c.G b).top)/\
        ∃topb:List Nat,(∀q∈topb,q∈(c.G b).top)/\(topb++NB).Nodup/\ ∀w':World,(∀q∈topb,w'.heap[q]?=c.w.heap[q]?)-> ∃(p:Option Addr) (cp:Nat) (zs:List AV),c.H b g= .slice p zs.length cp/\c0.den c.ρ= .sl zs/\an<=zs.length/\zs.length<=cp/\DC w' [.row e3 (P.cellsOf e3) (AM.of l3)] [.slice p an cp] [.sl (zs.take an)] topb:=by
       rcases Bv with⟨a9,hH,ET,Ob⟩|⟨g9,cp,C,zs,N1,hH,ET,Ob,h6,h7,h8,h9,EX,EE,HY⟩
       ·rw[j2]at hH;simp only[Value.slice.injEq]at hH;obtain⟨rfl,rfl,rfl⟩:=hH;have Pr:an=0:=by omega
        subst Pr;have Of:(E.win c0 lo (.len c0)).den c.ρ= .sl []:=by simp only[E.den,ET,j3,AV.win,AV.len];simp
        refine⟨[],[],[],Of,by simp,?_,by simpa[B9,Az]using DC.nil,by simp,by simp,by simp,[],by simp,by simp,λw' _=>⟨qq,0,[],by rw[j2];rfl,ET,by simp,by simp, .void z1 (by rw[AM.ax];exact z2') .nil⟩⟩;cases qq' with
        |none=>exact .inl ⟨rfl,rfl,rfl⟩
        |some ad=>exact .inr ⟨ad,rfl,by simp,by simp,by simp⟩
       ·rw[j2]at hH;simp only[Value.slice.injEq]at hH;obtain⟨rfl,rfl,rfl⟩:=hH;have hle:an<=zs.length:=by omega
        obtain⟨NA,NB,hN,c1,c2'⟩:=HY.pa z2' EX hle;have hmul:=Bz (P.cellsOf e3) hle;have E6:=Bz (P.cellsOf e3) h7;have Ew:C.toList.length=cap*P.cellsOf e3:=by simpa using h9
        have Of:(E.win c0 lo (.len c0)).den c.ρ= .sl (zs.drop an):=by simp only[E.den,ET,j3,AV.win,AV.len];simp
        have Px:(zs.drop an).length=zs.length-an:=Bn;rw[Ob]at mE;rw[hN]at mE;refine⟨zs.drop an,(C.toList.take (zs.length*P.cellsOf e3)).drop (an*P.cellsOf e3),NB,Of,Px,?_,by rw[Px];exact c2',λy hy=>EX y (BR hy),λu hu=>EE u (BR hu),λq hq=>by rw[Ob,hN];simp[hq],g9::NA,λq hq=>by rw[Ob,hN];rcases Ag.1 hq with rfl|hq<;>simp_all,by simpa using mE,λw' hw'=>⟨some ⟨g9,0,none⟩,cap,zs,by rw[j2],ET,hle,h7,?_⟩⟩
        ·rw[Px];by_cases AP:an<zs.length
         ·obtain⟨b9,hb9,Hm,_⟩:=j6 (by omega);cases hb9;subst Hm;refine .inr ⟨_,rfl,?_,λj u hj=> ?_,λu hu=>EE u (BR hu)⟩
          ·rw[Bn,AE,Ew,Nat.min_eq_left E6,Nat.sub_mul]
          ·rw[Addr.add_lit,EO h6];rw[List.getElem?_drop,List.getElem?_take]at hj;split at hj
           ·rw[Array.getElem?_toList]at hj;simpa using hj
           ·cases hj
         ·have:zs.length-an=0:=by omega
          rw[this];have e0:(C.toList.take (zs.length*P.cellsOf e3)).drop (an*P.cellsOf e3)=[]:=by
           apply List.drop_eq_nil_of_le;rw[AE];have:zs.length=an:=by omega
           rw[this];omega
          rw[e0];cases qq' with
          |none=>exact .inl ⟨rfl,rfl,rfl⟩
          |some ad=>exact .inr ⟨ad,rfl,by simp,by simp,by simp⟩
        ·have NV:(zs.take an).length=an:=by rw[AE];omega
         have e5:C.toList.take (an*P.cellsOf e3)=(C.toList.take (zs.length*P.cellsOf e3)).take (an*P.cellsOf e3):=by rw[List.take_take,Nat.min_eq_left hmul]
         have:=DC.row (w:=w') (e:=e3) (z:=P.cellsOf e3) (l:=AM.of l3) (g:=g9) (cap:=cap) (C:=C) (ys:=zs.take an) (N1:=NA) (ts:=[]) (vs:=[]) (xs:=[]) (N:=[]) z1 (by rw[AM.ax];exact z2') (by rw[hw' g9 (by simp)];exact h6) (by rw[NV];omega) h8 h9 (λy hy=>EX y (BD hy)) (by
           rw[NV,e5];intro u hu;exact EE u (BD hu)) (by
           rw[NV,e5,AM.ax];exact c1.frame λq hq=>hw' q (by simp[hq])) .nil
         rw[NV]at this;simpa using this
      have lS:NB.Nodup:=(List.nodup_append.1 Po).2.1;obtain⟨xs,Da⟩:∃xs,c2.den c.ρ= .sl xs:=by
       obtain⟨_,_,⟨_,_,hh,_⟩|⟨_,_,_,zs,_,_,hh,_⟩⟩:=qt4.inv
       ·exact⟨_,hh⟩
       ·exact⟨_,hh⟩
      have hlenE:(nn:Int)-(an:Int)=(ys.length:Int):=by omega
      rw[Da]at rr1;rw[DF]at rr2;simp only[AV.len,AV.int.injEq,true_and]at rr1 rr2;have Dh:a.eval y= .slice qq' ys.length r:=by rw[hvy];congr 1;omega
      obtain⟨v',w',top,A6,Bg,VX,Fc,J6⟩:=zEq (c:=c) (o:=o) (a:=a) ho AD Dk Eo KK hz Fq htd oP lS (λq hq=>Mt q (Y2 q hq)) (λq hq=>IS q (Y2 q hq)) Dh Dx Py Kd PR hvx (by rw[<-k2];exact qt4) Da (by rw[rr1,rr2];exact rr3) (by rw[rr1,rr2];exact rr4);have Mq:(E.app c2 (.win c0 lo (.len c0))).den c.ρ= .sl (xs++ys):=by have:(E.app c2 (.win c0 lo (.len c0))).den c.ρ=AV.app (c2.den c.ρ) ((E.win c0 lo (.len c0)).den c.ρ):=rfl;rw[this,Da,DF];rfl
      have hUt:=h.rel.de _ _ qt1;have mB:=h.rel.de _ _ qb1;have Rk:=O5 h;have D4:nx≠t:=λe=>Rk (e▸hUt);have JC:nx≠b:=λe=>Rk (e▸mB);obtain⟨recs,A8⟩:∃recs:List AZ,recs=[⟨nx,some v',top, .deep e3 (P.cellsOf e3) l3 0 0 (.app c2 (.win c0 lo (.len c0)))⟩,⟨b,none,topb, .pre e3 (P.cellsOf e3) l3 g (ep+1) c0 lo⟩,⟨t,none,[], .dead⟩]:=⟨_,rfl⟩
      have EI:∀r∈recs,r=⟨nx,some v',top, .deep e3 (P.cellsOf e3) l3 0 0 (.app c2 (.win c0 lo (.len c0)))⟩\/r=⟨b,none,topb, .pre e3 (P.cellsOf e3) l3 g (ep+1) c0 lo⟩\/r=⟨t,none,[], .dead⟩:=λr hr=>by rw[A8]at hr;simpa using hr
      have hn:(recs.map AZ.tag).Nodup:=by rw[A8];simp[D4,JC];exact λe=>Zk e.symm
      have Bo:∀r∈recs,r.new.isSome=true-> ¬c.U r.tag:=λr hr hs=>by
       rcases EI r hr with rfl|rfl|rfl
       ·exact Rk
       ·cases hs
       ·cases hs
      have aft:=Cx.fc (w':=w') h.rel.de hn Bo;have MA:(⟨nx,some v',top, .deep e3 (P.cellsOf e3) l3 0 0 (.app c2 (.win c0 lo (.len c0)))⟩:AZ)∈recs:=by rw[A8];simp
      have PL:(⟨b,none,topb, .pre e3 (P.cellsOf e3) l3 g (ep+1) c0 lo⟩:AZ)∈recs:=by rw[A8];simp
      have Vy:(⟨t,none,[], .dead⟩:AZ)∈recs:=by rw[A8];simp
      have P4:∀q∈topb,q∉NB:=λq hq Hm=>(List.nodup_append.1 Po).2.2 q hq q Hm rfl;obtain⟨q1,q2⟩:=h.rel.changes (recs:=recs) (gs:=[]) (hs:=(c.G t).top++(c.G b).top) (Fw _) (Bg.weaken λq hq=> .inl (by simp[hq])) hn Bo (λq hq=>by
        rcases Ae.1 hq with hq|hq
        ·exact⟨_,Vy,hq⟩
        ·exact⟨_,PL,hq⟩)
       (by
        rw[A8];simp only[List.flatMap_cons,List.flatMap_nil,AG];refine List.nodup_append.2 ⟨VX,(List.nodup_append.1 Po).1,λp hp q hq e=> ?_⟩;subst e;rcases(Fc p hp).1 with hh|hh|hh
        ·exact IS p (FX p hq) hh
        ·exact P4 p hq hh
        ·have:=Mt p (FX p hq);omega)
       (λr hr q hq=>by
        rcases EI r hr with rfl|rfl|rfl
        ·obtain⟨k1',k2'⟩:=Fc q hq;refine⟨?_,k2'⟩;rcases k1' with hh|hh|hh
         ·exact .inl (by simp[hh])
         ·exact .inl (by simp[Y2 q hh])
         ·exact .inr hh
        ·exact⟨.inl (by simp[FX q hq]),Nat.lt_of_lt_of_le (Mt q (FX q hq)) Bg.size⟩
        ·cases hq)
       (λr hr=>by rcases EI r hr with rfl|rfl|rfl<;>(intros;simp))
       (λhk r hr=>by
        rcases EI r hr with rfl|rfl|rfl
        ·obtain⟨k1',k2',k3'⟩:=aft.new _ MA v' rfl;have kg:=aft.G _ MA;have ke:=aft.kt _ MA rfl;simp only at k1' k2' k3' kg ke;exact⟨k1',k2',ke,by rw[k3',kg,aft.w,aft.ρ,Mq];exact J6,by rw[kg]⟩
        ·have kg:=aft.G _ PL;have ke:=aft.jg _ PL rfl;obtain⟨k1',k2'⟩:=aft.K b g qb1;simp only at kg ke;obtain⟨p,cp,zs,f1,f2,f3,f4,f5⟩:=oE w' λq hq=>Bg.block q (Mt q (FX q hq)) (IS q (FX q hq));refine⟨k1',λg' CK=>qb2 g' (aft.old b mB g' CK),by rw[ke,qb3],⟨p,cp,zs,kk,an,by rw[k2'];exact f1,by rw[aft.ρ];exact f2,by rw[aft.ρ];exact j3,f3,f4,by rw[aft.w,kg];exact f5⟩,by rw[kg]⟩
        ·have kg:=aft.G _ Vy;exact⟨by rw[kg],by rw[kg]⟩)
      intro next Q hk
      unfold Oper.wp;rw[A6,Oper.upon_value];obtain⟨k1',k2',k3'⟩:=aft.new _ MA v' rfl;simp only at k1' k3';obtain⟨p,m,r,rfl⟩:=J6.head;have VK:(recs.map λr=>(r.tag,Dg [] r.cx))=(nx, .deep e3 (P.cellsOf e3) l3 0 0 (.app c2 (.win c0 lo (.len c0))))::(b, .pre e3 (P.cellsOf e3) l3 g (ep+1) c0 lo)::ER [t]:=by rw[A8];simp[Dg,ER]
      rw[VK]at q1;refine hk _ (c.fj w' _) ⟨rfl,rfl,rfl,rfl,λu hu=> ?_⟩ (q1.put (SR.own k1' k3' .nil) o.dst);rcases hu with hu|⟨r,hr,rfl⟩
      ·exact .inl hu
      ·rcases EI r hr with rfl|rfl|rfl
       ·exact .inr ⟨AB _,by simp[B1]⟩
       ·exact .inl mB
       ·exact .inl hUt
   ·cases he
  ·cases he
 ·cases he
end
section
variable {P:Program} {c:Cx} {n nx:Nat} {sl sl0:Nat->SV} {hp hp0:Nat->Option Ai} {a:Act} {o:Oper} {gs:Gd} {e:Bf} {sg:BY} {nv:Nat}
theorem qY{w:World}:∀(vs:List Value) {xs:List AV} {f:List Nat} (ts:List TypeId),Rd w vs xs f->ts.length<=vs.length->Eb P w ts [] [] vs xs f [] []
 | [],xs,f,ts,h,hl=>by have:ts=[]:=List.eq_nil_of_length_eq_zero (by simpa using hl);subst this;cases h;exact .nil
 |v::vs,[],f,ts,h,hl=>by have:=h.len;simp at this
 |v::vs,x::xs,f,ts,h,hl=>by
  obtain⟨f1,f2,rfl,h1,h2⟩:=h.dh;cases ts with
  |nil=>exact .free h1 (qY vs [] h2 (by simp))
  |cons t ts=>exact Eb.cons (h:=[]) ⟨h1,rfl⟩ (qY vs ts h2 (by simpa using hl))
theorem zOc(l:EL):EL.of (Ux.go l)=l:=by
 induction l using EL.rec (motive_1:=λ_=>True)with
 |nil=>rfl
 |cons e es _ ih=>simp[Ux.go,EL.of,ih]
 |_=>trivial
theorem zK3{w:World}{ts:List TypeId}{vs:List Value}{Bs:List AV}{f o:List Nat}(h:DY P w ts [] vs Bs f o):Bs=[]:=by
 have key:∀(ts:List TypeId),BN ts []=false:=by
  intro ts
  induction ts with
  |nil=>rfl
  |cons t ts ih=>simp only[BN,List.headD_nil,Bool.false_or,List.tail_nil];exact ih
 exact(zrS h).2 (key ts)
theorem zIo(t:TypeId):FL P t []=false:=by simp[FL]
theorem zuE(h:BB P c n nx sl hp a sl0 hp0 o gs){cl:Call}{fo:Operand}(ho:o.op= .call cl)(AD:cl.callee= .value fo){y:E}{sf:SV}(hf:BW sl0 gs fo=some sf)(hsf:∀v,SR c [sf] [v]-> ∃f,Rd c.w [v] [y.den c.ρ] f){as_:List SV}(has:cl.args.toList.mapM (BW sl0 gs)=some as_){t:TypeId}
  (he:Ux P hp0 gs nv t y as_=some e) (Br:∀c',e.call=some c'-> ∃r,c.ρ[nv]?=some r/\JQ (Cj P sg) c'.fn ((EL.of c'.args).den c.ρ) c.ρ r):AJ P o c n nx sl hp gs a e:=by
 have nR:fo∈o.op.operands:=by simp[ho,Op.operands,Call.operands,AD]
 have nQ:∀x∈cl.args.toList,x∈o.op.operands:=λx hx=>by
  have:x∈cl.args:=by simpa using hx
  simp[ho,Op.operands,Call.operands,AD,this]
 have N8:=h.dy hf nR;have Aj:=zCP (a:=a) (λx hx s hs=>h.dy hs (nQ x hx)) has;unfold Ux at he;split at he
 ·cases he
 split at he
 ·cases he
 rename_i es Jw;simp only[Af]at he;subst he;obtain⟨r,hr,g,caps,hy,KZ,Fs⟩:=Br _ rfl;rw[zOc]at KZ;obtain⟨f1,p1,p2⟩:=Uf h.eh h.gs Bb Jw Aj Bb (AB _);generalize mU:a.eval fo=fv at N8;obtain⟨_,k1⟩:=hsf _ N8;obtain⟨capv,f2,rfl,Rm⟩:∃capv f2,fv= .func (.func g) #[] capv.toArray/\Rd c.w capv caps f2:=by
  rw[hy]at k1;cases k1 with
  |fn q1 _=>exact⟨_,_,rfl,q1⟩
 have P1:UM P {c8:=[],res:=[]} g (es.den c.ρ++caps) r:=by unfold Cj at KZ;rw[if_neg (by omega)]at KZ;simpa using KZ
 obtain⟨fn,GG,Ex,GL,_,hlen,_,F7⟩:=P1;have DX:=p1.app Rm;have EM:=DX.len;have Br:=F7 c.w _ _ [] [] (qY _ (fn.params.toList++ []) DX (by rw[EM,hlen,AG,BF];omega)) (by simp) (by simp) (by simp) (h.rel.ox (by simp));have ex:(execOp a.eval o).run P c.w= .ok (.enter g (cl.args.map a.eval++capv.toArray)) c.w:=by
  have hb:fn.body.isNone=false:=by simpa using Ex
  simp only[execOp,ho,resolve,AD,mU,Deferred.ofValue,Sem.run_bind,Sem.run_pure,Result.andThen_ok,invoke,callFunc,run_program,GG];simp[GL,hb]
 intro next Q hk
 unfold Oper.wp;rw[ex,Oper.upon_enter];have Ps:cl.args.map a.eval++capv.toArray=((cl.args.toList.map a.eval)++capv).toArray:=by apply Array.ext';simp
 rw[Ps];refine Br.mono ?_;rintro e' w' ⟨v,rfl,⟨R,Bs,f1',o1,f2',o2,MG,A1,FP,Ii,VH,Vk⟩,Bg⟩;show next (a.put o.dst v) w'
 have Jr:=zK3 FP;subst Jr;simp only at MG;subst MG;have hv:Rd w' [v] [r] []:=by
  unfold K9 at A1;split at A1
  ·rename_i t' ht;unfold DI at A1;rw[if_neg (by rw[zIo];simp)]at A1;have:=zts A1.1 Fs;subst this;exact A1.1
  ·obtain⟨vs,ys,_,rfl,_⟩:=A1;have:=Fs (.tup ys) (by simp[AV.cells]);simp[AV.scalar]at this
 obtain⟨FR,_⟩:=h.rel.changes (w':=w') (recs:=[]) (hs:=[]) (gs:=gs) h.gs Bg (by simp) (by simp) (by simp) (by simp) (by simp) (by simp) (by simp);refine hk _ (c.fj w' []) ⟨rfl,rfl,rfl,rfl,λt ht=> ?_⟩ (FR.put (SR.mkGd (.e (f:=[]) ?_ (by simp) .nil) gs h.gs) o.dst)
 ·rcases ht with ht|⟨r,hr,_⟩
  ·exact .inl ht
  ·simp at hr
 ·show Rd w' [v] [(E.var nv).den c.ρ] [];simp only[E.den,hr,Be];exact hv
theorem sA(JE:∀f s,sg f=some s->f<1000000)(h:BB P c n nx sl hp a sl0 hp0 o gs)(he:B2 P sg sl0 hp0 nv nx gs o=some e)
  (hc:∀q∈e.dn,q.den c.ρ) (Br:∀cl,e.call=some cl-> ∃r,c.ρ[nv]?=some r/\JQ (Cj P sg) cl.fn ((EL.of cl.args).den c.ρ) c.ρ r) (Dm:∀x,e.df=some x->c.ρ[nv]?=some (.bool (L7 a o))):AJ P o c n nx sl hp gs a e:=by
 have Mx:=he;cases AY:o.op with
 |move x=>simp only[B2,AY,Aw]at he;obtain⟨s,hs,rfl⟩:=he;exact zCc h (.inl AY) hs
 |assign x=>simp only[B2,AY,Aw]at he;obtain⟨s,hs,rfl⟩:=he;exact zCc h (.inr AY) hs
 |pick x y z=>exact zHU h AY he hc
 |alloc t=>exact zGD h AY he hc
 |box t x=>exact zMr h AY he hc
 |build t parts=>exact zG4 h AY he hc
 |buildSlice t m parts=>
  simp only[B2,AY,AA]at he;obtain⟨ps,N5,he⟩:=he;split at he
  ·exact zyU h AY N5 he hc
  ·exact zvl h AY N5 he hc
 |load t x=>exact zJL h AY he hc
 |nilCheck x=>exact zAo h AY he hc
 |makeSlice t l m=>
  simp only[B2,AY,AA]at he;obtain⟨s1,BO,s2,Bd,he⟩:=he;split at he
  ·exact zBO h AY BO Bd he hc
  ·exact zHm h AY BO Bd he hc
 |slice t x lo hi mx=>
  simp only[B2,AY,AA]at he;obtain⟨s,hs,l',BP,h',LF,m',Dl,he⟩:=he;split at he
  ·exact zDL h AY hs BP LF Dl he hc
  split at he
  ·exact zBU h AY hs BP LF Dl he hc
  ·exact zEr h AY hs BP LF Dl he hc
 |fieldAddr t x f=>exact zyi h AY he hc
 |field t x f=>exact zGU h AY he hc
 |extract x i=>exact zCC h AY he hc
 |store t x y=>
  simp only[B2,AY,AA]at he;obtain⟨p,hp',v,hv,he⟩:=he;cases p with
  |dq b k=>exact zBJ h AY hp' hv he hc
  |du b g i sz k=>
   by_cases A2:∃e z g c d,look hp0 gs b=some (.row e z g c d)
   ·exact zBj h AY A2 hp' hv he hc
   ·exact zyy h AY A2 hp' hv he hc
  |_=>simp[O8]at he
 |binOp op t x y ty=>
  cases hu:P.underlying t with
  |none=>simp only[B2,AY,AA]at he;obtain⟨_,_,_,_,he⟩:=he;simp[UH,hu]at he
  |some d=>
   by_cases VS:∃fs,d= .struct fs
   ·obtain⟨fs,rfl⟩:=VS;exact zLj h AY hu he hc
   ·have NZ:∀fs,P.underlying t≠some (.struct fs):=λfs hh=>VS ⟨fs,by rw[hu]at hh;cases hh;rfl⟩;cases hq:e.df with
    |none=>exact zKN h AY NZ he hq hc
    |some x'=>
     have GQ:=Dm x' hq;simp only[B2,AY,AA]at he;obtain⟨s1,BO,s2,Bd,he⟩:=he;have r1:=h.dy BO (by simp[AY,Op.operands]);have r2:=h.dy Bd (by simp[AY,Op.operands]);unfold UH at he;split at he
     ·rename_i el Ga;have Dw:∀xq,BI hp0 gs Bb s1=some xq->Cn.den c.ρ (.dfd (.len xq))-> ∃p q r,a.eval x= .slice p q r:=by
       intro xq K4 hd;obtain⟨f,q1,_⟩:=h.l7 BO (by simp[AY,Op.operands]) K4;have hd:(xq.den c.ρ).len≠ .undef:=hd;cases BQ:xq.den c.ρ<;>simp only[BQ,AV.len,ne_eq,not_true_eq_false]at hd;rename_i xs;have hl:(xq.den c.ρ).len= .int .i64 (xs.length:Int):=by rw[BQ];rfl
       rcases Ue q1 hl with⟨p,q,hv,CF⟩|⟨b,o',k,q,hv,CF⟩
       ·exact⟨_,_,_,hv⟩
       ·exact⟨_,_,_,hv⟩
      split at he
      ·simp at he;subst he;cases hq
      ·simp at he;subst he;cases hq
      ·obtain⟨xq,K4,rfl⟩:=Aw.1 he;obtain⟨p,q,r,hv⟩:=Dw xq K4 (hc _ (by simp));exact zCQ h AY Ga hv r2 (.inl rfl) GQ _
      ·obtain⟨xq,K4,rfl⟩:=Aw.1 he;obtain⟨p,q,r,hv⟩:=Dw xq K4 (hc _ (by simp));exact zCQ h AY Ga hv r2 (.inr rfl) GQ _
      ·cases he
     ·split at he
      ·simp at he;subst he;cases hq
      ·cases he
     ·split at he
      ·simp at he;subst he;cases hq
      ·cases he
     ·split at he
      ·simp at he;subst he;cases hq
      ·cases he
     ·rename_i fs Ga;exact absurd Ga (NZ fs)
     ·cases he
 |unOp u t x=>
  cases u with
  |not=>exact zLp h AY he hc
  |neg=>exact zMs h AY he hc
  |_=>simp[B2,AY]at he
 |convert src dst x=>
  have NO:=he;simp only[B2,AY,AA]at NO;obtain⟨s,_,NO⟩:=NO;unfold YF at NO;split at NO
  ·rename_i k0 k h1 h2;exact zCu h AY h1 h2 he hc
  ·rename_i h1 h2;exact zCd h AY h1 h2 he hc
  ·rename_i el h1 h2;exact zBx h AY h1 h2 he hc
  ·cases NO
 |makeFunc fr fst caps=>
  cases fr with
  |func f=>exact zBE h AY he
  |_=>simp[B2,AY]at he
 |indexAddr t x i=>refine zyr h AY (λhu=> ?_) he hc;simp only[B2,AY,AA]at he;obtain⟨_,_,_,_,he⟩:=he;simp[aJ,hu]at he
 |index t x i=>
  refine zCt h AY ?_ he hc;simp only[B2,AY,AA]at he;obtain⟨_,_,_,_,he⟩:=he;split at he
  ·rename_i FG;unfold aJ at FG;split at FG
   ·assumption
   ·cases FG
  ·cases he
 |call cl=>
  simp only[B2,AY]at he;cases AD:cl.callee with
  |invoke r m=>rw[AD]at he;simp at he
  |value f=>
   rw[AD]at he;simp only[AA]at he;obtain⟨s,hs,as_,has,he⟩:=he;cases s with
   |fn g caps=>
    have he:YO P sg hp0 gs nv nx g (as_++caps.toList)=some e:=he;refine zIx h AY AD hs has ?_ he Br;unfold YO at he;split at he
    ·rename_i fn sg' GG hh;exact JE g sg' hh
    ·cases he
   |e y=>exact zuE h AY AD hs (λv hv=>by cases hv with|e k1 _ _=>exact⟨_,k1⟩) has he Br
   |lent i=>exact zuE h AY AD hs (λv hv=>by
     cases hv with
     |lent g1 _=>obtain⟨f,p1,p2⟩:=h.rel.base.lo _ _ g1;exact⟨f,p1.frame λb hb=>h.rel.base.block b (p1.inb b hb) (p2 b hb)⟩) has he Br
   |_=>simp at he
  |builtin b=>
   rw[AD]at he;cases b with
   |len=>
    simp only at he;split at he
    ·rename_i x tx Dk Eo;exact zK4 h AY AD Dk Eo Mx hc
    ·cases he
   |append=>
    simp only at he;split at he
    ·rename_i x y tx ty Dk Eo;simp only[AA]at he;obtain⟨s1,BO,s2,Bd,he⟩:=he;split at he
     ·exact zBQ h AY AD Dk Eo BO Bd he hc
     split at he
     ·exact zxZ h AY AD Dk Eo BO Bd he hc
     ·exact zB4 h AY AD Dk Eo BO Bd he hc
    ·cases he
   |clear=>
    simp only at he;split at he
    ·rename_i x tx Dk Eo;simp only[AA]at he;obtain⟨s,hs,he⟩:=he;exact zG2 h AY AD Dk Eo hs he hc
    ·cases he
   |max=>
    simp only at he;split at he
    ·rename_i x y Dk;simp only[AA]at he;obtain⟨s1,BO,s2,Bd,he⟩:=he;exact zxb h AY (.inl ⟨rfl,AD⟩) Dk BO Bd he hc
    ·cases he
   |min=>
    simp only at he;split at he
    ·rename_i x y Dk;simp only[AA]at he;obtain⟨s1,BO,s2,Bd,he⟩:=he;exact zxb h AY (.inr ⟨rfl,AD⟩) Dk BO Bd he hc
    ·cases he
   |_=>simp at he
 |_=>simp[B2,AY]at he
end
section
variable {P:Program} {c:Cx} {n nx:Nat} {sl sl0:Nat->SV} {hp hp0:Nat->Option Ai} {a:Act} {o:Oper} {gs:Gd} {e:Bf} {sg:BY} {nv:Nat}
theorem Rel.la(h:Rel c n sl hp a){sl':Nat->SV}(hs:∀i,sl' i=sl i\/SR c [sl' i] [a.tmps.getD i undef]):Rel c n sl' hp a:=
 ⟨h.defers,h.size,h.base,λi=>by
  rcases hs i with hh|hh
  ·rw[hh];exact h.ee i
  ·exact hh,h.ents,h.off,h.gw,h.de,h.dv⟩
theorem XW{u:Nat}:∀{l:List Operand} {t T v m:Nat} {p:E × Nat × Nat} {s:SV},Ns sl0 u l=some (t,T,v,m,p,s)->Operand.tmp t∈l/\((∃y,sl0 t= .via T v m (some p) y/\s= .own u 0)\/ ∃y k z q,sl0 t= .vptr T v m (some p) y k z q/\s= .du u 0 k z q)
 | [],_,_,_,_,_,_,h=>by simp[Ns]at h
 |x::l,t,T,v,m,p,s,h=>by
  cases x with
  |tmp i=>
   simp only[Ns]at h;split at h
   ·rename_i hs;simp only[Af,A0]at h;obtain⟨rfl,rfl,rfl,rfl,rfl,rfl⟩:=h;exact⟨by simp, .inl ⟨_,hs,rfl⟩⟩
   ·rename_i hs;simp only[Af,A0]at h;obtain⟨rfl,rfl,rfl,rfl,rfl,rfl⟩:=h;exact⟨by simp, .inr ⟨_,_,_,_,hs,rfl⟩⟩
   ·obtain⟨h1,h2⟩:=XW h;exact⟨by simp[h1],h2⟩
  |const v9=>simp only[Ns]at h;obtain⟨h1,h2⟩:=XW h;exact⟨by simp[h1],h2⟩
  |func f=>simp only[Ns]at h;obtain⟨h1,h2⟩:=XW h;exact⟨by simp[h1],h2⟩
  |global g=>simp only[Ns]at h;obtain⟨h1,h2⟩:=XW h;exact⟨by simp[h1],h2⟩
theorem Rel.split(h:Rel c n sl hp a){T v m u:Nat}{p:E × Nat × Nat}{hl inn:Ai}(hs:Yz hp0 T v m u p=some (hl,inn))(Co:∀t e,hp0 t=some e->hp t=some e)(hu: ¬c.U u){vv:Value}(KX:c.E T=m->J1 c T v (some p) vv):
  ∃recs c1,c1=c.fj c.w recs/\Rel c1 n sl (Bq hp [(T,hl),(u,inn)]) a/\Ev c c1/\c1.K u 0/\c1.H u 0=vv/\(∃q n r,vv= .slice q n r/\(q=none\/n=0\/ ∃g,q=some ⟨g,0,none⟩))/\(∀t,c1.U t->c.U t\/t=u)/\c.K T v/\c.E T=m/\c1.E T=m+1/\T≠u:=by
 have eh:EH c hp0:=λt e hr=>h.ents t e (Pa Co hr);obtain⟨pi,z,po⟩:=p;unfold Yz at hs;split at hs
 ·rename_i e z0 l g ep c0 hlk;split at hs
  ·rename_i AT;obtain⟨rfl,rfl,hpz⟩:=AT;simp only at hpz;subst hpz;split at hs
   ·rename_i e2 z2 l2 B7;simp only[Af,A0]at hs;obtain⟨rfl,rfl⟩:=hs;simp only at B7;obtain⟨q1,q2,q3,q4,q5⟩:=eh T _ (Df hlk (Fw _));obtain⟨b,n9,cap,C,ty,fz,kk,k,p1,p2,p3,p4,p5,p6,p7⟩:=KX q3;obtain⟨d1,d2,⟨a9,d3,_⟩|⟨g9,cap9,C9,ys,N,d3,d4,d5,d6,d7,d8,d9,d10,d11,d12⟩⟩:=q4.inv
    ·rw[p1]at d3;cases d3;omega
    ·rw[p1]at d3;cases d3;rw[d6]at p3;cases p3;rw[AM.ax]at d2 d12;have hoz:po<z:=by
      rcases Nat.lt_or_ge po l.length with hh|hh
      ·omega
      ·rw[List.getElem?_eq_none hh]at B7;cases B7
     have JB:k.toNat<ys.length:=by omega
     have hmul:(k.toNat+1)*z<=ys.length*z:=Bz _ (by omega);have E6:ys.length*z<=cap*z:=Bz _ d7;rw[Nat.add_mul]at hmul;have Ew:C.toList.length=cap*z:=by simpa using d9
     have AP:k.toNat*z+po<C.size:=by omega
     obtain⟨N1,N2,N3,rfl,s1,s2,s3⟩:=d12.split (k.toNat*z+po) 1;have Bw:((C.toList.take (ys.length*z)).drop (k.toNat*z+po)).take 1=[vv]:=by have hv:C[k.toNat*z+po]?=some vv:=p7;rw[List.drop_take,List.take_take,Nat.min_eq_left (by omega),By (by simpa using AP),List.take_succ_cons,List.take_zero];rw[Array.getElem?_eq_getElem AP]at hv;simpa using hv
     have Kf:=Pf JB;generalize P7:(AV.sl ys).nth k.toNat=yk at Kf;have Gb:=d10 yk (List.mem_of_getElem? Kf);have Ci:((Az ys).drop (k.toNat*z+po)).take 1=[(E.fld (.idx c0 pi) po 1 false).den c.ρ]:=by rw[Yg ys d10 _ _ Kf po 1 (by omega),By (by omega),List.take_succ_cons,List.take_zero];simp only[E.den,d4,p4,AV.idx,P7,AV.fld];simp[show po<yk.cells.length by omega]
     have BC:((B9 ys.length l).drop (k.toNat*z+po)).take 1=[.row e2 z2 l2]:=by
      rw[<-d2,Yb l _ _ _ _ JB (by omega)];have KU:po<l.length:=by omega
      rw[By KU,List.take_succ_cons,List.take_zero];rw[AL KU]at B7;simpa using B7
     rw[Bw,Ci,BC]at s2;have Hi:=h.de _ _ q1;have KE:T≠u:=λhh=>hu (hh▸Hi);have Cb:=h.gw.nodup T;simp only[GI.own,q5,AG,d5]at Cb;have A1:∀r∈([⟨T,none,b::(N1++N3), .hol e z l g (ep+1) c0 pi po u⟩,⟨u,some vv,N2,if l2.toList.all DT.db then .row e2 z2 0 (.fld (.idx c0 pi) po 1 false) true else .deep e2 z2 l2.toList 0 0 (.fld (.idx c0 pi) po 1 false)⟩]:List AZ),r.new.isSome=true-> ¬c.U r.tag:=λr hr hs=>by
      simp only[Ag,List.not_mem_nil,or_false]at hr;rcases hr with rfl|rfl
      ·cases hs
      ·exact hu
     refine⟨[⟨T,none,b::(N1++N3), .hol e z l g (ep+1) c0 pi po u⟩,⟨u,some vv,N2,if l2.toList.all DT.db then .row e2 z2 0 (.fld (.idx c0 pi) po 1 false) true else .deep e2 z2 l2.toList 0 0 (.fld (.idx c0 pi) po 1 false)⟩],_,rfl,?_⟩;generalize A8:([⟨T,none,b::(N1++N3), .hol e z l g (ep+1) c0 pi po u⟩,⟨u,some vv,N2,if l2.toList.all DT.db then .row e2 z2 0 (.fld (.idx c0 pi) po 1 false) true else .deep e2 z2 l2.toList 0 0 (.fld (.idx c0 pi) po 1 false)⟩]:List AZ)=recs at A1;have hn:(recs.map AZ.tag).Nodup:=by rw[<-A8];simp[KE]
     have aft:=Cx.fc (w':=c.w) h.de hn A1;have DL:(⟨T,none,b::(N1++N3), .hol e z l g (ep+1) c0 pi po u⟩:AZ)∈recs:=by rw[<-A8];simp
     have C7:(⟨u,some vv,N2,if l2.toList.all DT.db then .row e2 z2 0 (.fld (.idx c0 pi) po 1 false) true else .deep e2 z2 l2.toList 0 0 (.fld (.idx c0 pi) po 1 false)⟩:AZ)∈recs:=by rw[<-A8];simp
     obtain⟨k1,k2,k3⟩:=aft.new _ C7 vv rfl;have kgT:=aft.G _ DL;have keT:=aft.jg _ DL rfl;have kgu:=aft.G _ C7;have keu:=aft.kt _ C7 rfl;obtain⟨kT1,kT2⟩:=aft.K T g q1;simp only at k1 k2 k3 kgT keT kgu keu;have N4:∀q,q∈b::(N1++N3)\/q∈N2->q∈(c.G T).top:=λq hq=>by rw[d5];simp only[Ag,Ae]at hq ⊢;rcases hq with(hq|hq|hq)|hq<;>simp[hq]
     obtain⟨hrel,Cm⟩:=h.changes (recs:=recs) (gs:=[]) (hs:=(c.G T).top) (Fw _) (Mod.refl _ c.w) hn A1 (λq hq=>⟨_,DL,hq⟩) (by
       rw[<-A8];simp only[List.flatMap_cons,List.flatMap_nil,AG];rw[List.nodup_cons]at Cb;obtain⟨n1,n2⟩:=Cb;rw[List.append_assoc,List.nodup_append,List.nodup_append]at n2;obtain⟨a1,⟨a2,a3,a4⟩,a5⟩:=n2;rw[List.cons_append,List.nodup_cons,List.nodup_append,List.nodup_append];refine⟨λhh=>n1 ?_,⟨a1,a3,λx hx y hy=>a5 x hx y (Ae.2 (.inr hy))⟩,a2,λx hx y hy GY=> ?_⟩
       ·simp only[Ae]at hh ⊢;rcases hh with(hh|hh)|hh<;>simp[hh]
       ·rcases Ae.1 hx with hx|hx
        ·exact a5 x hx y (Ae.2 (.inl hy)) GY
        ·exact a4 y hy x hx GY.symm)
      (λr hr q hq=>by
       have:q∈(c.G T).top:=by
        rw[<-A8]at hr;simp only[Ag,List.not_mem_nil,or_false]at hr;rcases hr with rfl|rfl
        ·exact N4 q (.inl hq)
        ·exact N4 q (.inr hq)
       exact⟨.inl this,h.gw.inb T q (by simp[GI.own,this])⟩)
      (λr hr=>by
       rw[<-A8]at hr;simp only[Ag,List.not_mem_nil,or_false]at hr;rcases hr with rfl|rfl
       ·intros;simp
       ·intros;simp only;split<;>simp)
      (λhk r hr=>by
       rw[<-A8]at hr;simp only[Ag,List.not_mem_nil,or_false]at hr;rcases hr with rfl|rfl
       ·refine⟨kT1,λg' CK=>q2 g' (aft.old T Hi g' CK),by rw[keT,q3],?_,by rw[kgT]⟩;rw[kT2,p1,kgT];exact⟨b,cap,C,ys,kk,k,N1,N3,rfl,d4,p4,p5,p6,hoz,d1,d2,d6,d7,d8,d9,d10,d11,rfl,k1,by rw[k3];exact p7,s1,s3⟩
       ·simp only;split
        ·rename_i hf;have Bj:=s2.ot hf;refine⟨k1,k2,[],?_,by simp,λ_=>⟨rfl,by rw[kgu]⟩,λ_=>by rw[kgu]⟩;rw[k3,kgu];exact Bj
        ·refine⟨k1,k2,keu,?_,by rw[kgu]⟩;rw[k3,kgu,AM.dw];exact s2)
     refine⟨?_,Cm,k1,k3,?_,λt ht=> ?_,q1,q3,by rw[keT,q3],KE⟩
     ·have:(recs.map λr=>(r.tag,Dg [] r.cx))=[(T, .hol e z l g (ep+1) c0 pi po u),(u,if l2.toList.all DT.db then .row e2 z2 0 (.fld (.idx c0 pi) po 1 false) true else .deep e2 z2 l2.toList 0 0 (.fld (.idx c0 pi) po 1 false))]:=by
       rw[<-A8];simp[Dg]
      rw[this]at hrel;exact hrel
     ·obtain⟨_,_,⟨a9,h1,_⟩|⟨g9,cap9,C9,ys9,N9,h1,_⟩⟩:=s2.inv
      ·exact⟨a9,0,0,h1, .inr (.inl rfl)⟩
      ·exact⟨_,_,_,h1, .inr (.inr ⟨g9,rfl⟩)⟩
     ·rcases ht with ht|⟨r,hr,rfl⟩
      ·exact .inl ht
      ·rw[<-A8]at hr;simp only[Ag,List.not_mem_nil,or_false]at hr;rcases hr with rfl|rfl
       ·exact .inl Hi
       ·exact .inr rfl
   ·cases hs
  ·cases hs
 ·cases hs
theorem Rel.close(h:Rel c n sl hp a){T u:Nat}{hl r d:Ai}(hT:hp T=some hl)(hu:hp u=some r)(hr:YG P hl r=some d)(ML:∃q1 q2 q3 q4 q5 q6 q7 q8,hl= .hol q1 q2 q3 q4 q5 q6 q7 q8 u)(KE:T≠u):
  ∃recs c1,c1=c.fj c.w recs/\Rel c1 n sl (Bq hp [(T,d),(u, .dead)]) a/\(∀t,c1.U t->c.U t)/\c.E T<c1.E T:=by
 obtain⟨e,z,l,g,ep,c0,i,o',rfl⟩:=ML;have key:∀(e2 z2:Nat) (l2:AM) (x:E),l[o']?=some (.row e2 z2 l2)->DC c.w [.row e2 z2 l2] [c.H u 0] [x.den c.ρ] (c.G u).top->c.U u->d= .deep e z l g (ep+1) (.set c0 i (.put (.idx c0 i) o' x (Aq P e)))->(Aq P e=false->z=1)->
   ∃recs c1,c1=c.fj c.w recs/\Rel c1 n sl (Bq hp [(T,d),(u, .dead)]) a/\(∀t,c1.U t->c.U t)/\c.E T<c1.E T:=by
  rintro e2 z2 l2 x B7 J6 Y4 rfl Jt;obtain⟨q1,q2,q3,⟨b,cap,C,ys,kk,k,N1,N2,p1,p2,p3,p4,p5,p6,p7,p7',p8,p9,p10,p11,p12,p13,p14,p15,p16,p17,p18⟩,q5⟩:=h.ents T _ (by rw[hT];rfl);have Hi:=h.de _ _ q1;have JB:k.toNat<ys.length:=by omega
  have hmul:(k.toNat+1)*z<=ys.length*z:=Bz _ (by omega);have E6:ys.length*z<=cap*z:=Bz _ p9;rw[Nat.add_mul]at hmul;have Ew:C.toList.length=cap*z:=by simpa using p11
  have AP:k.toNat*z+o'<C.size:=by omega
  have Kf:=Pf JB;generalize P7:(AV.sl ys).nth k.toNat=yk at Kf;have Gb:=p12 yk (List.mem_of_getElem? Kf);obtain⟨zs,DA⟩:∃zs,x.den c.ρ= .sl zs:=by
   obtain⟨_,_,⟨_,_,hx,_⟩|⟨_,_,_,_,_,_,hx,_⟩⟩:=J6.inv
   ·exact⟨_,hx⟩
   ·exact⟨_,hx⟩
  have Hr:(x.den c.ρ).cells=[x.den c.ρ]:=by rw[DA];rfl
  have hz:(yk.fm o' (x.den c.ρ) (Aq P e)).cells=setVs yk.cells o' (x.den c.ρ).cells:=by
   refine ztD ?_ (λhg=> ?_)
   ·cases hg:Aq P e with
    |true=>exact .inr rfl
    |false=>left;rw[DA];intro cs hh;cases hh
   ·have:=Jt hg;exact⟨by omega,by omega,Hr⟩
  have E0:Az (ys.set k.toNat (yk.fm o' (x.den c.ρ) (Aq P e)))=setVs (Az ys) (k.toNat*z+o') (x.den c.ρ).cells:=
   kR ys _ _ yk o' _ p12 Kf (by rw[Hr];simp;omega) hz
  have H5:((B9 ys.length l).drop (k.toNat*z+o')).take 1=[.row e2 z2 l2]:=by
   rw[<-p7',Yb l _ _ _ _ JB (by omega)];have KU:o'<l.length:=by omega
   rw[By KU,List.take_succ_cons,List.take_zero];rw[AL KU]at B7;simpa using B7
  have VR:setVs (C.toList.take (ys.length*z)) (k.toNat*z+o') [c.H u 0]=C.toList.take (ys.length*z):=by
   apply List.ext_getElem?;intro j;have hl3:(C.toList.take (ys.length*z)).length=ys.length*z:=by rw[AE,Ew];exact Nat.min_eq_left E6
   rw[T7 _ _ _ (by rw[hl3];show k.toNat*z+o'+1<=_;omega)];split
   ·rename_i hj;simp only[AH,List.length_nil]at hj;have:j=k.toNat*z+o':=by omega
    subst this;rw[Nat.sub_self,List.getElem?_take,if_pos (by omega)];have:=p16;simpa using this.symm
   ·rfl
  have Bo:DC c.w [.row e z (AM.of l)] [c.H T g] [(E.set c0 i (.put (.idx c0 i) o' x (Aq P e))).den c.ρ] (b::(N1++((c.G u).top++N2))):=by
   have CN:(E.set c0 i (.put (.idx c0 i) o' x (Aq P e))).den c.ρ= .sl (ys.set k.toNat (yk.fm o' (x.den c.ρ) (Aq P e))):=by simp only[E.den,p2,p3,AV.idx,P7,AV.fq]
   rw[CN,p1];have Fq:(ys.set k.toNat (yk.fm o' (x.den c.ρ) (Aq P e))).length=ys.length:=List.length_set;have:=DC.row (w:=c.w) (e:=e) (z:=z) (l:=AM.of l) (g:=b) (cap:=cap) (C:=C) (ys:=ys.set k.toNat (yk.fm o' (x.den c.ρ) (Aq P e))) (N1:=N1++((c.G u).top++N2)) (ts:=[]) (vs:=[]) (xs:=[]) (N:=[]) p7 (by rw[AM.ax];exact p7') p8 (by rw[Fq];exact p9) p10 p11 (λw hw=>by
     rcases List.mem_or_eq_of_mem_set hw with hw|rfl
     ·exact p12 w hw
     ·rw[hz,Yk _ _ _ (by rw[Hr,Gb];simp;omega)];exact Gb) (by rw[Fq];exact p13) (by
     rw[Fq,AM.ax,E0,<-VR];refine DC.setVs p17 ?_ ?_
     ·exact p18
     ·rw[AO,H5,Hr];exact J6) .nil
   rw[Fq]at this;simpa using this
  have hTK:=q1;have A1:∀r∈([⟨T,none,b::(N1++((c.G u).top++N2)), .deep e z l g (ep+1) (.set c0 i (.put (.idx c0 i) o' x (Aq P e)))⟩,⟨u,none,[], .dead⟩]:List AZ),r.new.isSome=true-> ¬c.U r.tag:=λr hr hs=>by simp only[Ag,List.not_mem_nil,or_false]at hr;rcases hr with rfl|rfl<;>cases hs
  refine⟨[⟨T,none,b::(N1++((c.G u).top++N2)), .deep e z l g (ep+1) (.set c0 i (.put (.idx c0 i) o' x (Aq P e)))⟩,⟨u,none,[], .dead⟩],_,rfl,?_⟩;generalize A8:([⟨T,none,b::(N1++((c.G u).top++N2)), .deep e z l g (ep+1) (.set c0 i (.put (.idx c0 i) o' x (Aq P e)))⟩,⟨u,none,[], .dead⟩]:List AZ)=recs at A1;have hn:(recs.map AZ.tag).Nodup:=by rw[<-A8];simp[KE]
  have aft:=Cx.fc (w':=c.w) h.de hn A1;have DL:(⟨T,none,b::(N1++((c.G u).top++N2)), .deep e z l g (ep+1) (.set c0 i (.put (.idx c0 i) o' x (Aq P e)))⟩:AZ)∈recs:=by rw[<-A8];simp
  have C7:(⟨u,none,[], .dead⟩:AZ)∈recs:=by rw[<-A8];simp
  have kgT:=aft.G _ DL;have keT:=aft.jg _ DL rfl;have kgu:=aft.G _ C7;obtain⟨kT1,kT2⟩:=aft.K T g q1;simp only at kgT keT kgu;have Cs:∀q,q∈b::(N1++((c.G u).top++N2))->q∈(c.G T).top\/q∈(c.G u).top:=λq hq=>by rw[p14];simp only[Ag,Ae]at hq ⊢;rcases hq with hq|hq|hq|hq<;>simp[hq]
  have PS:=h.gw.nodup T;simp only[GI.own,q5,AG,p14]at PS;have nV:(c.G u).top.Nodup:=by have:=h.gw.nodup u;simp only[GI.own]at this;exact(List.nodup_append.1 this).1
  have GF:∀q∈(c.G u).top,q∉b::(N1++N2):=λq hq hh=>h.gw.dt u T (Ne.symm KE) q (by simp[GI.own,hq]) (by rw[<-p14]at hh;simp[GI.own,hh]);obtain⟨hrel,Cm⟩:=h.changes (recs:=recs) (gs:=[]) (hs:=(c.G T).top++(c.G u).top) (Fw _) (Mod.refl _ c.w) hn A1 (λq hq=>by
    rcases Ae.1 hq with hq|hq
    ·exact⟨_,DL,hq⟩
    ·exact⟨_,C7,hq⟩) (by
    rw[<-A8];simp only[List.flatMap_cons,List.flatMap_nil,AG];rw[List.nodup_cons,List.nodup_append]at PS;obtain⟨n1,a1,a2,a3⟩:=PS;rw[List.nodup_cons,List.nodup_append,List.nodup_append];refine⟨λhh=> ?_,a1,⟨nV,a2,λx hx y hy GY=>GF x hx (by rw[GY];simp[hy])⟩,λx hx y hy GY=> ?_⟩
    ·simp only[Ae]at hh n1;rcases hh with hh|hh|hh
     ·exact n1 (.inl hh)
     ·exact GF b hh (by simp)
     ·exact n1 (.inr hh)
    ·rcases Ae.1 hy with hy|hy
     ·exact GF y hy (by rw[<-GY];simp[hx])
     ·exact a3 x hx y hy GY)
   (λr hr q hq=>by
    have:q∈(c.G T).top\/q∈(c.G u).top:=by
     rw[<-A8]at hr;simp only[Ag,List.not_mem_nil,or_false]at hr;rcases hr with rfl|rfl
     ·exact Cs q hq
     ·simp at hq
    refine⟨.inl (Ae.2 this),?_⟩;rcases this with hh|hh
    ·exact h.gw.inb T q (by simp[GI.own,hh])
    ·exact h.gw.inb u q (by simp[GI.own,hh]))
   (λr hr=>by rw[<-A8]at hr;simp only[Ag,List.not_mem_nil,or_false]at hr;rcases hr with rfl|rfl<;>(intros;simp))
   (λhk r hr=>by
    rw[<-A8]at hr;simp only[Ag,List.not_mem_nil,or_false]at hr;rcases hr with rfl|rfl
    ·exact⟨kT1,λg' CK=>q2 g' (aft.old T Hi g' CK),by rw[keT,q3],by rw[kT2,kgT];exact Bo,by rw[kgT]⟩
    ·exact⟨by rw[kgu],by rw[kgu]⟩)
  refine⟨?_,λt ht=> ?_,by rw[keT];omega⟩
  ·have:(recs.map λr=>(r.tag,Dg [] r.cx))=[(T, .deep e z l g (ep+1) (.set c0 i (.put (.idx c0 i) o' x (Aq P e)))),(u, .dead)]:=by
    rw[<-A8];simp[Dg]
   rw[this]at hrel;exact hrel
  ·rcases ht with ht|⟨r,hr,rfl⟩
   ·exact ht
   ·rw[<-A8]at hr;simp only[Ag,List.not_mem_nil,or_false]at hr;rcases hr with rfl|rfl
    ·exact Hi
    ·exact Y4
 have Y4:c.U u:=h.dv u r hu;unfold YG at hr;simp only at hr;split at hr
 ·rename_i e2 z2 l2 e3 z3 x B7;split at hr
  ·rename_i hh;obtain⟨hf,rfl,rfl,hlen,AN⟩:=hh;simp only[Af]at hr;obtain⟨q1,q2,N,q4,q5,q6,q7⟩:=h.ents u _ (by rw[hu];rfl);obtain⟨hN,_⟩:=q6 rfl;have hN:N=[]:=hN;subst hN;exact key _ _ _ _ B7 (DC.mw q4 hf hlen) Y4 hr.symm (by rcases AN with hh|hh;(rw[hh];simp);exact λ_=>hh)
  ·cases hr
 ·rename_i e2 z2 l2 e3 z3 l3 x B7;split at hr
  ·rename_i hh;obtain⟨rfl,rfl,hb,AN⟩:=hh;simp only[Af]at hr;have hb:=AM.of_eq hb;subst hb;obtain⟨q1,q2,q3,q4,q5⟩:=h.ents u _ (by rw[hu];rfl);rw[AM.dw]at q4;exact key _ _ _ _ B7 q4 Y4 hr.symm (by rcases AN with hh|hh;(rw[hh];simp);exact λ_=>hh)
  ·cases hr
 ·cases hr
end
end
end Go.Proofs.YtlmjpjceiefpoaaGreatDoor

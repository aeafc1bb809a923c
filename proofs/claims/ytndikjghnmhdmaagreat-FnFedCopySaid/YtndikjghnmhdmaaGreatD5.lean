/- Parts of a proof, joined: WP, WQ, WR, WRa, WRb, WRc, WRd, WRe, WRf, WS. -/
import Derived.Test.YtndikjghnmhdmaaGreatD4
set_option linter.unusedVariables false
set_option linter.unusedSimpArgs false
namespace Go.Proofs.YtndikjghnmhdmaaGreat
open Go.RowKit
section
section
variable {P:Program} {c:Cx} {hp:Nat->Option Ae} {gs:Gd}
theorem nY(hb:QE c)(eh:EH c hp)(k:Bg c.ρ gs)(hU:∀t g,c.K t g->c.U t):∀(ss:List SV) {ts:List TypeId} {ms:List PM} {lo:List Bool} {es:List E} {bs:List PA} {us uz:List Nat} {vs:List Value},TO P hp gs ts ms lo ss=some (es,bs,us,uz)->SR c ss vs->ts.length<=ss.length->
  ∃rf lf hs,Dt P c.w ts ms lo vs (es.map (E.den c.ρ)) rf lf hs/\(∀b∈rf,c.dr us b)/\(∀b∈lf,c.dr uz b\/b<c.w0.heap.size/\ ¬c.Mu b)/\hs=(Ds bs).flatMap (λt=>(c.G t).top)/\Ii P c ts ms vs bs/\(∀u∈Ds bs,c.U u)/\(bs≠ []->gs=[])
 | [],ts,ms,lo,es,bs,us,uz,vs,h,hs,hl=>by simp[TO]at h;obtain⟨rfl,rfl,rfl,rfl⟩:=h;cases hs;have:ts=[]:=List.eq_nil_of_length_eq_zero (by simpa using hl);subst this;exact⟨[],[],[], .nil,by simp,by simp,by simp[Ds], .nil,by simp[Ds],by simp⟩
 |s::ss,ts,ms,lo,es,bs,us,uz,[],h,hs,hl=>by have:=hs.len;simp at this
 |s::ss,ts,ms,lo,es,bs,us,uz,v::vs,h,hs,hl=>by
  obtain⟨r1,r2⟩:=hs.br;unfold TO at h;split at h
  ·cases h
  rename_i ys bs' us' uz' CX;obtain⟨rf,lf,Ba,q1,q2,qz,q3,q4,q5,q6⟩:=nY hb eh k hU ss CX r2 (by simp at hl ⊢;omega);have see1:∀{a b:List Nat} {x:Nat},c.dr a x->c.dr (a++b) x:=λh=>h.mono λt ht=>by simp[ht]
  have see2:∀{a b:List Nat} {x:Nat},c.dr b x->c.dr (a++b) x:=λh=>h.mono λt ht=>by simp[ht]
  split at h
  ·rename_i hm;split at h
   ·rename_i BQ;simp only[Ab,Br]at BQ;obtain⟨t,ts,rfl⟩:∃t ts',ts=t::ts':=by
     cases ts with
     |nil=>simp at BQ
     |cons t ts=>exact⟨t,ts,rfl⟩
    split at h
    ·rename_i i;simp only[Ac,AP]at h;obtain⟨rfl,rfl,rfl,rfl⟩:=h;cases r1 with
     |lent g1 _=>obtain⟨f,p1,p2⟩:=hb.lo _ _ g1;have hw:Rd c.w [v] [(E.var i).den c.ρ] f:=p1.frame λb BS=>hb.block b (p1.inb b BS) (p2 b BS);exact⟨rf,f++lf,Ba, .lent BQ.1 hm hw q1,q2,λb BS=>(Af.1 BS).elim (λBS=> .inr ⟨p1.inb b BS,p2 b BS⟩) (qz b),q3, .ro hm q4,q5,q6⟩
    ·obtain⟨x,hx,hh⟩:=An.1 h;simp only[AP]at hh;obtain⟨rfl,rfl,rfl,rfl⟩:=hh;obtain⟨f,p1,p2⟩:=G8 eh k AZ hx r1 AZ (Av _);exact⟨rf,f++lf,Ba, .lent BQ.1 hm p1 q1,q2,λb BS=>(Af.1 BS).elim (λBS=> .inl (see1 (p2 b BS))) (λBS=>(qz b BS).imp see2 id),q3, .ro hm q4,q5,q6⟩
   obtain⟨x,hx,hh⟩:=An.1 h;simp only[AP]at hh;obtain⟨rfl,rfl,rfl,rfl⟩:=hh;obtain⟨f,p1,p2⟩:=G8 eh k AZ hx r1 AZ (Av _);have hb:∀b∈f++rf,c.dr (BV hp gs (AZ+1) [s]++us') b:=λb hb=>by
    rcases Af.1 hb with hb|hb
    ·exact see1 (p2 b hb)
    ·exact see2 (q2 b hb)
   cases ts with
   |nil=>exact⟨f++rf,lf,Ba, .free p1 q1,hb,qz,q3, .ro hm q4,q5,q6⟩
   |cons t ts=>exact⟨f++rf,lf,[]++Ba, .cons (by rw[hm];exact⟨p1,rfl⟩) q1,hb,qz,q3, .ro hm q4,q5,q6⟩
  ·rename_i own own' hm;split at h
   ·rename_i ty T Bc;split at h
    ·rename_i ty' g cs IN;split at h
     ·cases h
     rename_i BM;have BM:ty'=ty:=by simpa using BM
     subst BM;split at h
     ·rename_i xs rs vs' B3 E5;simp only[Ac,AP]at h;obtain⟨rfl,rfl,rfl,rfl⟩:=h;obtain⟨t,ts,rfl,D3⟩:∃t ts',ts=t::ts'/\J4 P t=some ty':=by
       cases ts with
       |nil=>simp at Bc
       |cons t ts=>exact⟨t,ts,rfl,by simpa using Bc⟩
      obtain⟨b,C,g1,g2,g3,g4,g5,g6,g7⟩:=eh T _ (Cu IN k);obtain⟨f,h8,p1,p2,p3,p4,p5⟩:=aU (P:=P) eh k hU (A2 P ty') E5 g7 B3 (Av _);have hv:v= .pointer (some ⟨b,0,none⟩):=by
       cases r1 with
       |ca k1 k2 _=>rw[g2]at k2;cases k2;rfl
      refine⟨f++rf,lf,(b::h8)++Ba, .cons ?_ q1,λx hx=> ?_,qz,by simp[Ds,p3,q3,g3], .bx hm D3 hv g1 (by rw[g2,hv]) p5 q4,λu hu=> ?_,λ_=>rfl⟩
      ·rw[hm];exact⟨ty',b,C,xs.den c.ρ,h8,D3,hv,g5,g6,rfl,p1,rfl⟩
      ·rcases Af.1 hx with hx|hx
       ·exact see1 (p2 x hx)
       ·exact see2 (q2 x hx)
      ·simp only[Ds,List.cons_append,Ad,Af]at hu;rcases hu with rfl|hu|hu
       ·exact hU _ _ g1
       ·exact p5 u hu
       ·exact q5 u hu
     ·cases h
    ·cases h
   ·cases h
  ·rename_i own hm;split at h
   ·rename_i t x Bc hx;split at h
    ·cases h
    rename_i Ay;have Ay:(G7 s).2=Aj P t:=by simpa using Ay
    split at h
    ·rename_i rs vs' E5;simp only[Ac,AP]at h;obtain⟨rfl,rfl,rfl,rfl⟩:=h;obtain⟨ts,rfl⟩:∃ts',ts=t::ts':=by
      cases ts with
      |nil=>simp at Bc
      |cons t' ts=>simp at Bc;exact⟨ts,by rw[Bc]⟩
     obtain⟨f,h8,p1,p2,p3,⟨vs9,p4,p5⟩,p6⟩:=lO (P:=P) eh k hU r1 hx Ay E5;refine⟨f++rf,lf,h8++Ba, .cons (by rw[hm];exact p1) q1,λx hx=> ?_,qz,by simp[Ds,p3,q3],by rw[Ay];exact .mu hm p4 p5 q4,λu hu=> ?_,λ_=>rfl⟩
     ·rcases Af.1 hx with hx|hx
      ·exact see1 (p2 x hx)
      ·exact see2 (q2 x hx)
     ·simp only[Ds,Af]at hu;exact hu.elim (p6 u) (q5 u)
    ·cases h
   ·cases h
  ·rename_i own hm;split at h
   ·rename_i t x Bc hx;split at h
    ·cases h
    rename_i Ay;have Ay:(G7 s).2=Aj P t:=by simpa using Ay
    split at h
    ·rename_i rs vs' E5;simp only[Ac,AP]at h;obtain⟨rfl,rfl,rfl,rfl⟩:=h;obtain⟨ts,rfl⟩:∃ts',ts=t::ts':=by
      cases ts with
      |nil=>simp at Bc
      |cons t' ts=>simp at Bc;exact⟨ts,by rw[Bc]⟩
     obtain⟨f,h8,p1,p2,p3,⟨vs9,p4,p5⟩,p6⟩:=lO (P:=P) eh k hU r1 hx Ay E5;refine⟨f++rf,lf,h8++Ba, .cons (by rw[hm];exact p1) q1,λx hx=> ?_,qz,by simp[Ds,p3,q3], .va hm p6 q4,λu hu=> ?_,λ_=>rfl⟩
     ·rcases Af.1 hx with hx|hx
      ·exact see1 (p2 x hx)
      ·exact see2 (q2 x hx)
     ·simp only[Ds,Af]at hu;exact hu.elim (p6 u) (q5 u)
    ·cases h
   ·cases h
end
inductive Ec(P:Program)(w:World):List TypeId->List Bool->List Value->List AV->List Nat->List Nat->Prop where
 |nil {fl}:Ec P w [] fl [] [] [] []
 |own {t ts fl el u us y ys top N f o}:fl.headD false=true->Co P t=some el->(B4 P el=true/\N=[]\/B4 P el=false/\DO P t=none)->CA w el (P.cellsOf el) u y top N->Ec P w ts fl.tail us ys f o->Ec P w (t::ts) fl (u::us) (y::ys) (N++f) (top++o)
 |deep {t ts fl el e z l u us y ys top f o}:fl.headD false=true->Co P t=some el->B4 P el=false->DO P t=some (.row e z l)->DC w [.row e z l] [u] [y] top->Ec P w ts fl.tail us ys f o->Ec P w (t::ts) fl (u::us) (y::ys) f (top++o)
 |skip {t ts fl u us y ys f o}:(fl.headD false=true->Co P t=none)->Ec P w ts fl.tail us ys f o->Ec P w (t::ts) fl (u::us) (y::ys) f o
inductive Dg(P:Program)(w:World):List TypeId->List PM->List Value->List AV->List Nat->List Nat->Prop where
 |nil {ms vs}:Dg P w [] ms vs [] [] []
 |ro {t ts ms v vs bs f o}:ms.headD .ro= .ro->Dg P w ts ms.tail vs bs f o->Dg P w (t::ts) ms (v::vs) bs f o
 |va {t ts ms own v vs bs f o}:ms.headD .ro= .va own->Dg P w ts ms.tail vs bs f o->Dg P w (t::ts) ms (v::vs) bs f o
 |mu {t ts ms own v vs us ys y bs f1 f o1 o}:ms.headD .ro= .mu own->(if Aj P t then v= .agg us.toArray/\y= .agg ys else us=[v]/\ys=[y])->Ec P w (A2 P t) own us ys f1 o1->Dg P w ts ms.tail vs bs f o->Dg P w (t::ts) ms (v::vs) (y::bs) (f1++f) (o1++o)
 |bx {t ts ms own own' ty b C v vs ys y bs f1 o1 f o}:ms.headD .ro= .bx own own'->J4 P t=some ty->v= .pointer (some ⟨b,0,none⟩)->w.heap[b]?=some (.cells C ty (0,0))->(∀u∈C.toList,u.oneCell'=true)->y= .agg ys->Cj P w (A2 P ty) own' C.toList ys f1 o1->
   Dg P w ts ms.tail vs bs f o->Dg P w (t::ts) ms (v::vs) (y::bs) (f1++f) (b::o1++o)
section
variable {P:Program} {c:Cx} {w':World}
theorem zrX{mk:Nat->E}{ts:List TypeId}{fl:List Bool}{us:List Value}{rs:List (Option RI)}(h:Gh P c ts fl us rs)(hU:∀t g,c.K t g->c.U t):∀{ys:List AV} {f o:List Nat} (j:Nat),Ec P w' ts fl us ys f o->(∀i y,ys[i]?=some y->(mk (j+i)).den c.ρ=y)->
  ∃recs:List AN,K5 mk j rs=recs.map AN.pair/\(recs.flatMap AN.top).Sublist o/\(∀r∈recs,r.new=none/\c.U r.tag/\ ∀hs f,r.bc≠ .gd hs f)/\recs.map AN.tag=Cy rs/\ ∀c',EO c c' w' recs->(∀b∈f,c'.ok b)-> ∀r∈recs,C5 c' r.tag r.bc:=by
 induction h with
 |nil=>intro ys f o j hm _;cases hm;exact⟨[],rfl,by simp,by simp,rfl,by simp⟩
 | @row t ts fl v vs u g el rs h1 h2 Iy h3 h4 h5 _ ih=>
  intro ys f o j hm FJ;cases hm with
  |skip hh _=>rw[hh h1]at h2;cases h2
  |deep _ k2 k21 k22 _ _=>
   rw[h2]at k2;cases k2;rcases Iy with hh|hh
   ·rw[hh]at k21;cases k21
   ·rw[hh]at k22;cases k22
  | @own _ _ _ el' _ _ y ys top N f o k1 k2 k23 k3 k4=>
   rw[h2]at k2;cases k2;obtain⟨recs,e1,e2,e3,e4,e5⟩:=ih (j+1) k4 (λi y hy=>by rw[show j+1+i=j+(i+1)from by omega];exact FJ (i+1) y (by simpa using hy));have hy:=FJ 0 y rfl;refine⟨⟨u,none,top, .row el (P.cellsOf el) g (mk j) (B4 P el)⟩::recs,by simp[K5,e1,AN.pair],by simpa using(List.Sublist.refl top).append e2,λr hr=> ?_,by simp[Cy,RI.tag,e4],λc' ha AS r hr=> ?_⟩
   ·rcases Ad.1 hr with rfl|hr
    ·exact⟨rfl,hU _ _ h3,by simp⟩
    ·exact e3 r hr
   ·rcases Ad.1 hr with rfl|hr
    ·obtain⟨a1,a2⟩:=ha.K u g h3;have kg:=ha.G _ (List.mem_cons_self ..);simp only at kg;refine⟨a1,λg' Cf=>h5 g' (ha.old u (hU _ _ h3) g' Cf),N,?_,λb hb=>AS b (by simp[hb]),λhd=> ?_,λ_=>by rw[kg]⟩
     rotate_left
     ·rcases k23 with⟨_,h⟩|⟨h,_⟩
      ·subst h;exact⟨rfl,by rw[kg]⟩
      ·rw[h]at hd;cases hd
     have BA:(mk j).den c.ρ=y:=by simpa using hy
     rw[a2,h4,kg,ha.w,ha.ρ,BA];exact k3
    ·exact e5 c' (ha.mono λr hr=>by simp[hr]) (λb hb=>AS b (by simp[hb])) r hr
 | @deep t ts fl v vs u g el e z l ep rs h1 h2 QO Ow h3 h4 h5 h6 _ ih=>
  intro ys f o j hm FJ;cases hm with
  |skip hh _=>rw[hh h1]at h2;cases h2
  |own _ k2 k23 _ _=>
   rw[h2]at k2;cases k2;rcases k23 with⟨hh,_⟩|⟨_,hh⟩
   ·rw[hh]at QO;cases QO
   ·rw[hh]at Ow;cases Ow
  | @deep _ _ _ el' e' z' l' _ _ y ys top f o k1 k2 k21 k22 k3 k4=>
   rw[Ow]at k22;cases k22;obtain⟨recs,e1,e2,e3,e4,e5⟩:=ih (j+1) k4 (λi y hy=>by rw[show j+1+i=j+(i+1)from by omega];exact FJ (i+1) y (by simpa using hy));have hy:=FJ 0 y rfl;refine⟨⟨u,none,top, .deep e z l g (ep+1) (mk j)⟩::recs,by simp[K5,e1,AN.pair],by simpa using(List.Sublist.refl top).append e2,λr hr=> ?_,by simp[Cy,RI.tag,e4],λc' ha AS r hr=> ?_⟩
   ·rcases Ad.1 hr with rfl|hr
    ·exact⟨rfl,hU _ _ h3,by simp⟩
    ·exact e3 r hr
   ·rcases Ad.1 hr with rfl|hr
    ·obtain⟨a1,a2⟩:=ha.K u g h3;have kg:=ha.G _ (List.mem_cons_self ..);have ke:=ha.fm _ (List.mem_cons_self ..) rfl;simp only at kg ke;refine⟨a1,λg' Cf=>h5 g' (ha.old u (hU _ _ h3) g' Cf),by rw[ke,h6],?_,by rw[kg]⟩;have BA:(mk j).den c.ρ=y:=by simpa using hy
     rw[a2,h4,kg,ha.w,ha.ρ,BA];exact k3
    ·exact e5 c' (ha.mono λr hr=>by simp[hr]) (λb hb=>AS b (by simp[hb])) r hr
 | @none t ts fl v vs rs _ _ ih=>
  intro ys f o j hm FJ;have go:∀{y:AV} {ys':List AV} {f' o':List Nat},ys=y::ys'->Ec P w' ts fl.tail vs ys' f' o'->(∀b∈f',b∈f)->o'.Sublist o-> ∃recs:List AN,K5 mk j (none::rs)=recs.map AN.pair/\(recs.flatMap AN.top).Sublist o/\(∀r∈recs,r.new=none/\c.U r.tag/\ ∀hs f,r.bc≠ .gd hs f)/\recs.map AN.tag=Cy (none::rs)/\ ∀c',EO c c' w' recs->(∀b∈f,c'.ok b)-> ∀r∈recs,C5 c' r.tag r.bc:=by rintro y ys' f' o' rfl E1 hf hs;obtain⟨recs,e1,e2,e3,e4,e5⟩:=ih (j+1) E1 (λi y hy=>by rw[show j+1+i=j+(i+1)from by omega];exact FJ (i+1) y (by simpa using hy));exact⟨recs,by simp[K5,e1],e2.trans hs,e3,by simp[Cy]at e4 ⊢;exact e4,λc' ha AS=>e5 c' ha λb hb=>AS b (hf b hb)⟩
  cases hm with
  |skip _ h8=>exact go rfl h8 (λ_ h=>h) (List.Sublist.refl _)
  |own _ _ _ _ h8=>exact go rfl h8 (λb hb=>by simp[hb]) (List.sublist_append_right _ _)
  |deep _ _ _ _ _ h8=>exact go rfl h8 (λ_ h=>h) (List.sublist_append_right _ _)
theorem mN(us:List Nat)(hU:∀u∈us,c.U u):∃recs:List AN,D6 us=recs.map AN.pair/\recs.flatMap AN.top=[]/\(∀r∈recs,r.new=none/\c.U r.tag/\ ∀hs f,r.bc≠ .gd hs f)/\recs.map AN.tag=us/\ ∀c',EO c c' w' recs-> ∀r∈recs,C5 c' r.tag r.bc:=by
 induction us with
 |nil=>exact⟨[],rfl,rfl,by simp,rfl,by simp⟩
 |cons u us ih=>
  obtain⟨recs,e1,e2,e3,e4,e5⟩:=ih λu hu=>hU u (by simp[hu]);refine⟨⟨u,none,[], .dead⟩::recs,by simp only[D6]at e1;simp[D6,e1,AN.pair],by simp[e2],λr hr=> ?_,by simp[e4],λc' ha r hr=> ?_⟩
  ·rcases Ad.1 hr with rfl|hr
   ·exact⟨rfl,hU _ (by simp),by simp⟩
   ·exact e3 r hr
  ·rcases Ad.1 hr with rfl|hr
   ·have kg:=ha.G _ (List.mem_cons_self ..);simp only at kg;exact⟨by rw[kg],by rw[kg]⟩
   ·exact e5 c' (ha.mono λr hr=>by simp[hr]) r hr
structure It(c:Cx)(w':World)(nx m:Nat)(l:List (Nat × Ae))(hd o f:List Nat)(recs:List AN):Prop where
 ents:l=recs.map AN.pair
 ky:(recs.flatMap AN.top).Sublist o
 new:∀r∈recs,r.new.isSome=true->nx<=r.tag/\r.tag<nx+m
 old:∀r∈recs,r.new=none->r.tag∈hd/\c.U r.tag
 all:∀t∈hd,∃r∈recs,r.tag=t
 nodup:hd.Nodup->(∀t,nx<=t->t<nx+m-> ¬c.U t)->(recs.map AN.tag).Nodup
 ne:∀r∈recs,∀hs f,r.bc≠ .gd hs f
 ok:∀c',EO c c' w' recs->(∀b∈f,c'.ok b)-> ∀r∈recs,C5 c' r.tag r.bc
theorem It.app{nx m m':Nat}{l l':List (Nat × Ae)}{hd Kj o o' f f':List Nat}{recs recs':List AN}(h:It c w' nx m l hd o f recs)(k:It c w' (nx+m) m' l' Kj o' f' recs'):It c w' nx (m+m') (l++l') (hd++Kj) (o++o') (f++f') (recs++recs'):=by
 refine⟨by rw[h.ents,k.ents,List.map_append],by rw[List.flatMap_append];exact h.ky.append k.ky,λr hr hn=> ?_,λr hr hn=> ?_,λt ht=> ?_,λhn hU=> ?_,λr hr=> ?_,λc' ha AS r hr=> ?_⟩
 ·rcases Af.1 hr with hr|hr
  ·have:=h.new r hr hn;omega
  ·have:=k.new r hr hn;omega
 ·rcases Af.1 hr with hr|hr
  ·exact⟨by simp[(h.old r hr hn).1],(h.old r hr hn).2⟩
  ·exact⟨by simp[(k.old r hr hn).1],(k.old r hr hn).2⟩
 ·rcases Af.1 ht with ht|ht
  ·obtain⟨r,hr,e⟩:=h.all t ht;exact⟨r,by simp[hr],e⟩
  ·obtain⟨r,hr,e⟩:=k.all t ht;exact⟨r,by simp[hr],e⟩
 ·rw[List.nodup_append]at hn;rw[List.map_append,List.nodup_append];refine⟨h.nodup hn.1 λt h1 h2=>hU t h1 (by omega),k.nodup hn.2.1 λt h1 h2=>hU t (by omega) (by omega),λt1 LQ t2 JA he=> ?_⟩;obtain⟨q1,OD,rfl⟩:=List.mem_map.1 LQ;obtain⟨q2,H6,rfl⟩:=List.mem_map.1 JA;cases n1:q1.new with
  |none=>
   obtain⟨a1,a2⟩:=h.old q1 OD n1;cases n2:q2.new with
   |none=>exact hn.2.2 _ a1 _ (k.old q2 H6 n2).1 he
   |some v2=>have:=k.new q2 H6 (by simp[n2]);exact hU q2.tag (by omega) (by omega) (he▸a2)
  |some v1=>
   have:=h.new q1 OD (by simp[n1]);cases n2:q2.new with
   |none=>exact hU q1.tag (by omega) (by omega) (he▸(k.old q2 H6 n2).2)
   |some v2=>have:=k.new q2 H6 (by simp[n2]);omega
 ·rcases Af.1 hr with hr|hr
  ·exact h.ne r hr
  ·exact k.ne r hr
 ·rcases Af.1 hr with hr|hr
  ·exact h.ok c' (ha.mono λr hr=>by simp[hr]) (λb hb=>AS b (by simp[hb])) r hr
  ·exact k.ok c' (ha.mono λr hr=>by simp[hr]) (λb hb=>AS b (by simp[hb])) r hr
theorem It.jg{nx:Nat}{l:List (Nat × Ae)}{hd o f:List Nat}{recs:List AN}(e1:l=recs.map AN.pair)(e2:(recs.flatMap AN.top).Sublist o)(e3:∀r∈recs,r.new=none/\c.U r.tag/\ ∀hs f,r.bc≠ .gd hs f)(e4:recs.map AN.tag=hd)(e5:∀c',EO c c' w' recs->(∀b∈f,c'.ok b)-> ∀r∈recs,C5 c' r.tag r.bc):It c w' nx 0 l hd o f recs:=by
 refine⟨e1,e2,λr hr hn=> ?_,λr hr _=>⟨?_,(e3 r hr).2.1⟩,λt ht=> ?_,λhn _=>by rw[e4];exact hn,λr hr=>(e3 r hr).2.2,λc' ha AS=>e5 c' ha AS⟩
 ·rw[(e3 r hr).1]at hn;cases hn
 ·rw[<-e4];exact List.mem_map.2 ⟨r,hr,rfl⟩
 ·rw[<-e4]at ht;obtain⟨r,hr,e⟩:=List.mem_map.1 ht;exact⟨r,hr,e⟩
theorem zt0{ts:List TypeId}{ms:List PM}{vs:List Value}{bs:List PA}(h:Ii P c ts ms vs bs)(hU:∀t g,c.K t g->c.U t){r:Nat}:∀{Bs:List AV} {f o:List Nat} (nx j:Nat),Dg P w' ts ms vs Bs f o->(∀k y,Bs[k]?=some y->(E.proj (.var r) (j+k+1)).den c.ρ=y)->
  Bs.length=HT bs/\ ∃recs,It c w' nx (JY P bs) (after P r nx bs j) (Ds bs) o f recs:=by
 have nilS:∀nx,It c w' nx 0 [] [] [] [] []:=λnx=>⟨rfl,by simp,by simp,by simp,by simp,by simp,by simp,by simp⟩
 induction h with
 |nil=>intro Bs f o nx j hb _;cases hb;exact⟨rfl,[],by simpa[after,Ds,JY]using nilS nx⟩
 | @ro ts ms v vs bs hm Ex ih=>
  intro Bs f o nx j hb hB;cases hb with
  |nil=>exact ih nx j .nil hB
  |ro _ h8=>exact ih nx j h8 hB
  |va h9 _=>rw[hm]at h9;cases h9
  |mu h9 _ _ _=>rw[hm]at h9;cases h9
  |bx h9 _ _ _ _ _ _ _=>rw[hm]at h9;cases h9
 | @va ts ms own v vs bs us hm Kz Ex ih=>
  intro Bs f o nx j hb hB;obtain⟨recs1,e1,e2,e3,e4,e5⟩:=mN (c:=c) (w':=w') us Kz;have s1:It c w' nx 0 (D6 us) us [] [] recs1:= .jg e1 (by rw[e2];exact List.Sublist.refl _) e3 e4 λc' ha _=>e5 c' ha;cases hb with
  |nil=>obtain⟨h1,recs2,s2⟩:=ih nx j .nil hB;exact⟨by simpa[HT]using h1,recs1++recs2,by simpa[after,Ds,JY]using s1.app s2⟩
  |ro h9 _=>rw[hm]at h9;cases h9
  |va _ h8=>obtain⟨h1,recs2,s2⟩:=ih nx j h8 hB;exact⟨by simpa[HT]using h1,recs1++recs2,by simpa[after,Ds,JY]using s1.app s2⟩
  |mu h9 _ _ _=>rw[hm]at h9;cases h9
  |bx h9 _ _ _ _ _ _ _=>rw[hm]at h9;cases h9
 | @mu t ts ms own v vs bs us rs hm Kz E5 Ex ih=>
  intro Bs f o nx j hb hB;cases hb with
  |ro h9 _=>rw[hm]at h9;cases h9
  |va h9 _=>rw[hm]at h9;cases h9
  |bx h9 _ _ _ _ _ _ _=>rw[hm]at h9;cases h9
  | @mu _ _ _ own2 _ _ us2 ys y Bs f1 f o1 o h9 hg Rv h8=>
   rw[hm]at h9;cases h9;obtain⟨h1,recs2,s2⟩:=ih nx (j+1) h8 (λk y hy=>by rw[show j+1+k+1=j+(k+1)+1 from by omega];exact hB (k+1) y (by simpa using hy));have hy:=hB 0 y rfl;have Nn:us2=us:=by
    split at Kz
    ·rename_i Ay;rw[if_pos Ay]at hg;obtain⟨rfl,_⟩:=hg;exact lP Kz
    ·rename_i Ay;rw[if_neg Ay]at hg;rw[hg.1,Kz]
   subst Nn;obtain⟨recs1,e1,e2,e3,e4,e5⟩:=zrX (w':=w') (mk:=Du (.proj (.var r) (j+1)) (Aj P t)) E5 hU 0 Rv (by
    intro i z hz;split at hg
    ·rename_i Ay;rw[Ay];exact S5 (by rw[<-hg.2];exact hy) i z hz
    ·rename_i Ay;have Gm:Aj P t=false:=by simpa using Ay
     rw[hg.2]at hz;cases i with
     |zero=>simp at hz;subst hz;rw[Gm];simpa[Du]using hy
     |succ i=>simp at hz)
   have s1:It c w' nx 0 _ (Cy rs) o1 f1 recs1:= .jg e1 e2 e3 e4 e5;exact⟨by simp[HT,h1],recs1++recs2,by simpa[after,Ds,JY]using s1.app s2⟩
 | @bx t ts ms own own' ty v vs bs T b g olds hm D3 hv hK hH hol Ex ih=>
  intro Bs f o nx j hb hB;cases hb with
  |ro h9 _=>rw[hm]at h9;cases h9
  |va h9 _=>rw[hm]at h9;cases h9
  |mu h9 _ _ _=>rw[hm]at h9;cases h9
  | @bx _ _ _ own2 own3 ty2 b2 C _ _ ys y Bs f1 o1 f o h9 IY CQ hh Cw G3 hc h8=>
   rw[hm]at h9;cases h9;rw[D3]at IY;cases IY;have T8:b2=b:=by rw[hv]at CQ;cases CQ;rfl
   subst T8;obtain⟨h1,recs2,s2⟩:=ih (nx+(A2 P ty).length) (j+1) h8 (λk y hy=>by rw[show j+1+k+1=j+(k+1)+1 from by omega];exact hB (k+1) y (by simpa using hy));have hy:=hB 0 y rfl;obtain⟨recs0,d1,d2,d3,d4,d5⟩:=mN (c:=c) (w':=w') olds hol;have s0:It c w' nx 0 (D6 olds) olds [] [] recs0:= .jg d1 (by rw[d2];exact List.Sublist.refl _) d3 d4 λc' ha _=>d5 c' ha;obtain⟨recs1,e1,e2,e3,e4,_,e5⟩:=Pn (c:=c) (nx:=nx) (mk:=Du (.proj (.var r) (j+1)) true) hc 0 (S5 (by rw[<-G3];exact hy));have gS:=hU _ _ hK;have s1:It c w' nx (A2 P ty).length ((T, .box ty g (CJ P nx (Du (.proj (.var r) (j+1)) true) 0 (A2 P ty) own').1)::(CJ P nx (Du (.proj (.var r) (j+1)) true) 0 (A2 P ty) own').2) [T] (b2::o1) f1 (⟨T,none,[b2], .box ty g (CJ P nx (Du (.proj (.var r) (j+1)) true) 0 (A2 P ty) own').1⟩::recs1):=by
    refine⟨by simp[e1,AN.pair],?_,λq hq hn=> ?_,λq hq hn=> ?_,by simp,λ_ A0=> ?_,λq hq=> ?_,λc' ha AS q hq=> ?_⟩
    ·simp only[List.flatMap_cons,e2,List.singleton_append];exact List.Sublist.refl _
    ·rcases Ad.1 hq with rfl|hq
     ·cases hn
     ·have:=e3 q hq;omega
    ·rcases Ad.1 hq with rfl|hq
     ·exact⟨by simp,gS⟩
     ·have:=(e3 q hq).2.2;rw[hn]at this;cases this
    ·simp only[List.map_cons,List.nodup_cons];refine⟨λhm=> ?_,e4⟩;obtain⟨q,hq,vT⟩:=List.mem_map.1 hm;have:=e3 q hq;exact A0 q.tag (by omega) (by omega) (vT▸gS)
    ·rcases Ad.1 hq with rfl|hq
     ·simp
     ·intro hs f he;obtain⟨q1,q2⟩:=e3 q hq;have:(q.tag,q.bc)∈(CJ P nx (Du (.proj (.var r) (j+1)) true) 0 (A2 P ty) own').2:=by
       rw[e1];exact List.mem_map.2 ⟨q,hq,rfl⟩
      exact NM _ _ _ _ _ this he
    ·obtain⟨p1,p2⟩:=e5 c' (ha.mono λr hr=>by simp[hr]) AS;rcases Ad.1 hq with rfl|hq
     ·obtain⟨a1,a2⟩:=ha.K T 0 hK;have kg:=ha.G _ (List.mem_cons_self ..);simp only at kg;exact⟨b2,C,a1,by rw[a2,hH,hv],by rw[kg],by rw[kg],by rw[ha.w];exact hh,Cw,p1⟩
     ·exact p2 q hq
   refine⟨by simp[HT,h1],recs0++((⟨T,none,[b2], .box ty g (CJ P nx (Du (.proj (.var r) (j+1)) true) 0 (A2 P ty) own').1⟩::recs1)++recs2),?_⟩;have s3:=s0.app (s1.app s2);rw[Nat.zero_add]at s3;refine⟨by simpa[after]using s3.ents,s3.ky,s3.new,λq hq hn=> ?_,λt ht=> ?_,λhn A0=> ?_,s3.ne,s3.ok⟩
   ·have:=s3.old q hq hn;simp only[Ds,List.cons_append,Ad,Af,List.not_mem_nil,or_false,List.nil_append]at this ⊢;exact⟨by rcases this.1 with h|h|h;exact .inr (.inl h);exact .inl h;exact .inr (.inr h),this.2⟩
   ·refine s3.all t ?_;simp only[Ds,List.cons_append,Ad,Af,List.nil_append]at ht ⊢;rcases ht with h|h|h
    ·exact .inr (.inl h)
    ·exact .inl h
    ·exact .inr (.inr h)
   ·refine s3.nodup ?_ A0;simp only[Ds,List.cons_append,List.nodup_cons,List.nodup_append,Af,not_or,List.nil_append]at hn ⊢;obtain⟨⟨n1,n2⟩,n3,n4,n5⟩:=hn;refine⟨n3,⟨n2,n4⟩,λa ha b hb=> ?_⟩;rcases Ad.1 hb with rfl|hb
    ·rintro rfl;exact n1 ha
    ·exact n5 a ha b hb
end
def Of(P:Program):List TypeId->List Bool->List AV->Bool
 |t::ts,fl,y::ys=>((fl.headD false&&(Co P t).isSome)||CL P t||y.scalar)&&Of P ts fl.tail ys
 |_,_,_=>true
def Xk(P:Program)(t:TypeId)(fl:List Bool)(x:AV):Bool:=if FW P t fl then Of P (A2 P t) fl (if Aj P t then x.cells else [x])else CL P t||x.cells.all AV.scalar
def Qk(P:Program):List TypeId->List Bool->List AV->Bool
 |t::ts,fl,x::xs=>Xk P t fl x&&Qk P ts (fl.drop (A2 P t).length) xs
 |_,_,_=>true
def Qp(P:Program)(ts:List TypeId)(fl:List Bool)(R:AV):Bool:=match ts with
 | [t]=>Xk P t fl R
 |ts=>match R with
  | .tup ys=>Qk P ts fl ys
  |_=>true
def GK(P:Program):List TypeId->List PM->List AV->Bool
 |t::ts,ms,bs=>(match ms.headD .ro with
  | .ro=>GK P ts ms.tail bs
  | .va _=>GK P ts ms.tail bs
  | .mu _=>GK P ts ms.tail bs.tail
  | .bx _ own'=>(match J4 P t,bs with
   |some ty,b::_=>Of P (A2 P ty) own' b.cells
   |_,_=>true)&&GK P ts ms.tail bs.tail)
 | [],_,_=>true
def Bl:List TypeId->List PM->Bool
 |_::ts,ms=>(match ms.headD .ro with
  | .mu _=>true
  | .bx .. =>true
  |_=>false)||Bl ts ms.tail
 | [],_=>false
def JN(P:Program)(fn:Func)(s:GR)(r:AV):Bool:=
 if Bl (fn.params.toList++s.ft) s.bj then(match r with
  | .tup (R::bs)=>Qp P fn.resultTypes.toList s.res R&&GK P (fn.params.toList++s.ft) s.bj bs
  |_=>false)
 else Qp P fn.resultTypes.toList s.res r
def Jq(P:Program)(w:World)(ts:List TypeId)(fl:List Bool)(v:Value)(R:AV)(f o:List Nat):Prop:=match ts with
 | [t]=>Eb P w t fl v R f o
 |ts=> ∃vs ys,v= .tuple vs.toArray/\R= .tup ys/\Jn P w ts fl vs ys f o
structure Zf(P:Program)(fn:Func)(s:GR)(w:World)(vs:List Value)(rf hs:List Nat)(r:AV)(v:Value)(w':World):Prop where
 ex:∃R bs f1 o1 f2 o2,r=(match bs with| []=>R|_=> .tup (R::bs))/\Jq P w' fn.resultTypes.toList s.res v R f1 o1/\Dg P w' (fn.params.toList++s.ft) s.bj vs bs f2 o2/\(o1++o2).Nodup/\
  (∀b∈o1++o2,(b∈hs\/w.heap.size<=b)/\b<w'.heap.size)/\ ∀b∈f1++f2,b∉o1++o2/\(b∈rf\/b∈hs\/w.heap.size<=b)
 mod:Mod hs w w'
theorem Rel.lz{c:Cx}{n:Nat}{sl:Nat->SV}{hp:Nat->Option Ae}{a:Act}(h:Rel c n sl hp a){hs:List Nat}(hh:∀b∈hs,∃t,b∈(c.G t).top):Zj c.w (λb=>b∈hs):=by
 obtain⟨p1,p2,p3⟩:=h.base.pk;refine⟨Nat.le_trans p1 h.base.size,KE.mono (λb hb=>h.base.block b (by omega) λhm=>by have:=p3 b hm;omega) p2,λb hb=> ?_⟩;obtain⟨t,ht⟩:=hh b hb;rcases h.gw.allow t b (by simp[GI.own,ht])with k|k
 ·have:c.w0.heap.size<=b:=k;omega
 ·exact p3 b k
def QL(P:Program)(s:GR)(f:Nat)(xs:List AV)(r:AV):Prop:=
 ∃fn,P.funcs[f]?=some fn/\fn.body.isSome=true/\(fn.name== "runtime.NumGoroutine")=false/\JN P fn s r=true/\xs.length=fn.params.size+fn.nfree/\s.ft.length<=fn.nfree/\
  ∀(w:World) (vs:List Value) (rf lf hs:List Nat),Dt P w (fn.params.toList++s.ft) s.bj s.lo vs xs rf lf hs->(∀b∈hs,b∉rf)->(∀b∈hs,b∉lf)->hs.Nodup->Zj w (λb=>b∈hs)->
   Calls P f vs.toArray w λe w'=> ∃v,e= .returned v/\Zf P fn s w vs rf hs r v w'
def Cg(P:Program)(sg:BN)(f:Nat)(xs:List AV)(r:AV):Prop:=
 if f<1000000 then∃s,sg f=some s/\QL P s f xs r else QL P {bj:=[],res:=[]} (f-1000000) xs r
section
variable {P:Program} {w:World}
theorem kP{v:Value}{x:AV}{f:List Nat}(h:Rd w [v] [x] f)(hx:∀y∈x.cells,y.scalar=true):f=[]:=by
 by_cases Ay:∃cs,x= .agg cs
 ·obtain⟨cs,rfl⟩:=Ay;obtain⟨as_,_,_,hr⟩:=Io h rfl;exact G9 hr hx
 ·have:x.cells=[x]:=by cases x<;>first|rfl|exact absurd ⟨_,rfl⟩ Ay
  rw[this]at hx;exact G9 h hx
theorem zur{t el:TypeId}(h:Co P t=some el):CL P t=true:=by have hu:=Ig h;simp[CL,B4,A2,WJ,hu]
theorem Cj.flat{ts:List TypeId}{fl:List Bool}{us:List Value}{ys:List AV}{rf hs:List Nat}(h:Cj P w ts fl us ys rf hs)(h1:EB P ts fl=false)(h2:Of P ts fl ys=true):rf=[]:=by
 induction h with
 |nil=>rfl
 |own k1 k2 k23 _ _ ih=>
  simp only[EB,Bool.or_eq_false_iff]at h1;simp only[Of,Ab]at h2;have hN:=k23;have hw:=h1.1;rw[zur k2,k1]at hw;rcases hN with⟨_,rfl⟩|⟨q1,q2⟩
  ·rw[ih h1.2 h2.2];rfl
  ·simp[W9,k2,q1,q2]at hw
 |deep _ _ _ _ _ _ ih=>simp only[EB,Bool.or_eq_false_iff]at h1;simp only[Of,Ab]at h2;exact ih h1.2 h2.2
 | @rd t ts fl u us y ys f rf hs hn hr _ ih=>
  simp only[EB,Bool.or_eq_false_iff]at h1;simp only[Of,Ab]at h2;have DQ:(fl.headD false&&(Co P t).isSome)=false:=by
   cases hh:fl.headD false with
   |false=>rfl
   |true=>rw[hn hh];rfl
  have YD:(fl.headD false&&W9 P t)=false:=by
   cases hh:fl.headD false with
   |false=>rfl
   |true=>simp[W9,hn hh]
  rw[YD]at h1;rw[DQ]at h2;have H7:CL P t=false:=by simpa using h1.1
  rw[H7]at h2;have hs:y.scalar=true:=by simpa using h2.1
  rw[G9 hr (by simpa using hs),ih h1.2 h2.2];rfl
theorem Eb.flat{t:TypeId}{fl:List Bool}{v:Value}{x:AV}{rf hs:List Nat}(h:Eb P w t fl v x rf hs)(h1:fK P t fl=false)(h2:Xk P t fl x=true):rf=[]:=by
 unfold Eb at h;unfold fK at h1;unfold Xk at h2;split at h
 ·rename_i hf;rw[if_pos hf]at h1 h2;obtain⟨us,ys,hg,hc⟩:=h;split at hg
  ·rename_i Ay;obtain⟨_,rfl,_⟩:=hg;rw[if_pos Ay]at h2;exact hc.flat h1 h2
  ·rename_i Ay;obtain⟨_,rfl⟩:=hg;rw[if_neg Ay]at h2;exact hc.flat h1 h2
 ·rename_i hf;rw[if_neg hf]at h1 h2;rw[h1]at h2;exact kP h.1 (by simpa using h2)
theorem Jn.flat{ts:List TypeId}{fl:List Bool}{vs:List Value}{xs:List AV}{rf hs:List Nat}(h:Jn P w ts fl vs xs rf hs)(h1:Dd P ts fl=false)(h2:Qk P ts fl xs=true):rf=[]:=by
 induction h with
 |nil=>rfl
 |cons hv _ ih=>simp only[Dd,Bool.or_eq_false_iff]at h1;simp only[Qk,Ab]at h2;rw[hv.flat h1.1 h2.1,ih h1.2 h2.2];rfl
theorem Jq.flat{ts:List TypeId}{fl:List Bool}{v:Value}{R:AV}{f o:List Nat}(h:Jq P w ts fl v R f o)(h1:Dd P ts fl=false)(h2:Qp P ts fl R=true):f=[]:=by
 match ts,h,h1,h2 with
 | [t],h,h1,h2=>simp only[Dd,Bool.or_false]at h1;exact Eb.flat h h1 h2
 | [],h,h1,h2=>obtain⟨vs,ys,_,rfl,hv⟩:=h;exact hv.flat h1 h2
 |t::u::ts,h,h1,h2=>obtain⟨vs,ys,_,rfl,hv⟩:=h;exact hv.flat h1 h2
theorem CA.void{ety sz:Nat}{a:Option Addr}{x:AV}{top N:List Nat}(h:CA w ety sz (.slice a 0 0) x top N):N=[]:=by
 obtain⟨xs,_,_,_,⟨_,_,_,h⟩|⟨g,cap,C,hv,h6,_,_,_,_,_,hr⟩⟩:=h
 ·exact h
 ·have h0:xs.length=0:=by injection hv with _ h _;exact h.symm
  have:xs=[]:=by cases xs with|nil=>rfl|cons _ _=>simp at h0
  subst this;simp[Ap]at hr;cases hr;rfl
theorem Ec.flat{c:Cx}{ts:List TypeId}{fl:List Bool}{us:List Value}{rs:List (Option RI)}(h:Gh P c ts fl us rs):∀{ys:List AV} {f o:List Nat},Ec P w ts fl us ys f o->rs.any RI.lent=false->f=[]:=by
 induction h with
 |nil=>intro ys f o hm _;cases hm;rfl
 |row k1 k2 k23 _ _ _ _ ih=>
  intro ys f o hm hl;simp only[List.any_cons,Bool.or_eq_false_iff,RI.lent]at hl;cases hm with
  |own _ q2 q23 _ q4=>
   rw[k2]at q2;cases q2;rcases q23 with⟨_,rfl⟩|⟨q,_⟩
   ·exact ih q4 hl.2
   ·rw[q]at hl;simp at hl
  |deep _ _ _ _ _ q=>exact ih q hl.2
  |skip _ q=>exact ih q hl.2
 |deep k1 k2 k21 k22 _ _ _ _ _ ih=>
  intro ys f o hm hl;simp only[List.any_cons,Bool.or_eq_false_iff]at hl;cases hm with
  |own _ q2 q23 _ q4=>
   rw[k2]at q2;cases q2;rcases q23 with⟨_,rfl⟩|⟨_,q⟩
   ·exact ih q4 hl.2
   ·rw[q]at k22;cases k22
  |deep _ _ _ _ _ q=>exact ih q hl.2
  |skip _ q=>exact ih q hl.2
 |none hv _ ih=>
  intro ys f o hm hl;simp only[List.any_cons,Bool.or_eq_false_iff]at hl;cases hm with
  |own q1 q2 _ q3 q4=>
   rcases hv q1 with hh|⟨a,rfl⟩
   ·rw[hh]at q2;cases q2
   ·rw[CA.void q3];exact ih q4 hl.2
  |deep _ _ _ _ _ q=>exact ih q hl.2
  |skip _ q=>exact ih q hl.2
theorem Dg.flat{c:Cx}{ts:List TypeId}{ms:List PM}{vs:List Value}{bs:List PA}(h:Ii P c ts ms vs bs):∀{Bs:List AV} {f o:List Nat},Dg P w ts ms vs Bs f o->DU P bs=false->GK P ts ms Bs=true->f=[]:=by
 induction h with
 |nil=>intro Bs f o hb _ _;cases hb;rfl
 | @ro ts ms v vs bs hm _ ih=>
  intro Bs f o hb h1 h2;cases hb with
  |nil=>rfl
  |ro _ h8=>simp only[GK,hm]at h2;exact ih h8 h1 h2
  |va h9 _=>rw[hm]at h9;cases h9
  |mu h9 _ _ _=>rw[hm]at h9;cases h9
  |bx h9 _ _ _ _ _ _ _=>rw[hm]at h9;cases h9
 | @va ts ms own v vs bs us hm _ _ ih=>
  intro Bs f o hb h1 h2;cases hb with
  |nil=>rfl
  |ro h9 _=>rw[hm]at h9;cases h9
  |va _ h8=>simp only[GK,hm]at h2;exact ih h8 h1 h2
  |mu h9 _ _ _=>rw[hm]at h9;cases h9
  |bx h9 _ _ _ _ _ _ _=>rw[hm]at h9;cases h9
 | @mu t ts ms own v vs bs us rs hm Kz E5 _ ih=>
  intro Bs f o hb h1 h2;cases hb with
  |ro h9 _=>rw[hm]at h9;cases h9
  |va h9 _=>rw[hm]at h9;cases h9
  | @mu _ _ _ own2 _ _ us2 ys y Bs f1 f o1 o h9 hg Rv h8=>
   rw[hm]at h9;cases h9;simp only[GK,hm]at h2;simp only[DU,Bool.or_eq_false_iff]at h1;have Nn:us2=us:=by
    split at Kz
    ·rename_i Ay;rw[if_pos Ay]at hg;obtain⟨rfl,_⟩:=hg;exact lP Kz
    ·rename_i Ay;rw[if_neg Ay]at hg;rw[hg.1,Kz]
   subst Nn;rw[Ec.flat E5 Rv h1.1,ih h8 h1.2 h2];rfl
  |bx h9 _ _ _ _ _ _ _=>rw[hm]at h9;cases h9
 | @bx t ts ms own own' ty v vs bs T b g olds hm D3 _ _ _ _ _ ih=>
  intro Bs f o hb h1 h2;cases hb with
  |ro h9 _=>rw[hm]at h9;cases h9
  |va h9 _=>rw[hm]at h9;cases h9
  |mu h9 _ _ _=>rw[hm]at h9;cases h9
  |bx h9 IY _ _ _ hy hc h8=>rw[hm]at h9;cases h9;rw[D3]at IY;cases IY;simp only[GK,hm,D3,Ab,hy,List.tail_cons]at h2;simp only[DU,Bool.or_eq_false_iff]at h1;rw[hc.flat h1.1 h2.1,ih h8 h1.2 h2.2];rfl
theorem aY{ts:List TypeId}{ms:List PM}{vs:List Value}{Bs:List AV}{f o:List Nat}(h:Dg P w ts ms vs Bs f o):Bs=[]↔Bl ts ms=false:=by
 induction h with
 |nil=>simp[Bl]
 |ro hm _ ih=>simp only[Bl,hm,Bool.false_or];exact ih
 |va hm _ ih=>simp only[Bl,hm,Bool.false_or];exact ih
 |mu hm _ _ _ _=>simp only[Bl,hm,Bool.true_or];simp
 |bx hm _ _ _ _ _ _ _ _=>simp only[Bl,hm,Bool.true_or];simp
end
section
variable {P:Program} {c:Cx} {n nx:Nat} {sl sl0:Nat->SV} {hp hp0:Nat->Option Ae} {a:Act} {o:Oper} {gs:Gd} {e:A3} {sg:BN} {nv:Nat}
theorem oP{xs:List Operand}:∀{ss:List SV},(∀x∈xs,∀s,By sl0 gs x=some s->SR c [s] [a.eval x])->xs.mapM (By sl0 gs)=some ss->SR c ss (xs.map a.eval):=by
 induction xs with
 |nil=>intro ss _ h;simp at h;subst h;exact .nil
 |cons x xs ih=>intro ss hx h;rw[List.mapM_cons]at h;simp only[Option.bind_eq_bind,Ao,Option.pure_def,Ac]at h;obtain⟨s,hs,ss',FR,rfl⟩:=h;exact(hx x (by simp) s hs).cons (ih (λy hy=>hx y (by simp[hy])) FR)
theorem PL:∀{l:List Nat},K6 l=true->l.Nodup
 | [],_=>by simp
 |x::l,h=>by simp only[K6,Ab,Br,List.contains_eq_mem,decide_eq_false_iff_not]at h;exact List.nodup_cons.2 ⟨h.1,PL h.2⟩
theorem zun{c1:Cx}{w':World}{recs:List AN}{hs f o:List Nat}(gw:GW c)(hg:∀t,(c1.G t).top=(c.G t).top\/(c1.G t).top=[])(hA:c1.A=c.A)(XB:c1.Mu=c.Mu)(LU:c1.w0=c.w0)(hB:c.w0.heap.size<=c.w.heap.size)
  (hn:(recs.map AN.tag).Nodup) (B0:∀r∈recs,∀b∈r.top,b∈o) (Gv:∀b∈hs,∃r∈recs,b∈(c.G r.tag).top) {rf:List Nat} (LL:∀b∈rf,c1.ok b) (hf:∀b∈f,b∉o/\(b∈rf\/b∈hs\/c.w.heap.size<=b)):∀b∈f,(c1.dd w' recs).ok b:=by
 intro b hb;obtain⟨h1,h2⟩:=hf b hb;have hM:(c1.dd w' recs).M b-> ∃t,(∀r∈recs,r.tag≠t)/\b∈(c1.G t).top:=by
  rintro⟨t,ht⟩;by_cases hT:∃r∈recs,r.tag=t
  ·obtain⟨r,hr,rfl⟩:=hT;rw[Cx.df hn hr]at ht;exact absurd (B0 r hr b ht) h1
  ·rw[Cx.cy λr hr hh=>hT ⟨r,hr,hh⟩]at ht;exact⟨t,λr hr hh=>hT ⟨r,hr,hh⟩,ht⟩
 have sub:∀t,b∈(c1.G t).top->b∈(c.G t).top:=λt ht=>by
  rcases hg t with hh|hh
  ·rw[<-hh];exact ht
  ·rw[hh]at ht;simp at ht
 rcases h2 with h2|h2|h2
 ·refine⟨λhm=> ?_,(LL b h2).2⟩;obtain⟨t,_,ht⟩:=hM hm;exact(LL b h2).1 ⟨t,ht⟩
 ·obtain⟨r,hr,T9⟩:=Gv b h2;refine⟨λhm=> ?_, .inr ?_⟩
  ·obtain⟨t,D2,ht⟩:=hM hm;exact gw.cd r.tag t (D2 r hr) b (by simp[GI.own,T9]) (by simp[GI.own,sub t ht])
  ·have:=gw.allow r.tag b (by simp[GI.own,T9]);simp only[Cx.dd,Cx.B,LU,XB]at this ⊢;exact this
 ·refine⟨λhm=> ?_, .inr (.inl ?_)⟩
  ·obtain⟨t,_,ht⟩:=hM hm;have:=gw.inb t b (by simp[GI.own,sub t ht]);omega
  ·simp only[Cx.dd,Cx.B,LU];omega
theorem zvx(h:Bk P c n nx sl hp a sl0 hp0 o gs){cl:Call}{fo:Operand}(ho:o.op= .call cl)(Ar:cl.callee= .value fo){g:Nat}{caps:BD}(hf:By sl0 gs fo=some (.fn g caps)){as_:List SV}(has:cl.args.toList.mapM (By sl0 gs)=some as_)
  (hg:g<1000000) (he:Tu P sg hp0 gs nv nx g (as_++caps.toList)=some e) (Bb:∀c',e.call=some c'-> ∃r,c.ρ[nv]?=some r/\HH (Cg P sg) c'.fn ((EL.of c'.args).den c.ρ) c.ρ r):Aw P o c n nx sl hp gs a e:=by
 have Yz:fo∈o.op.operands:=by simp[ho,Op.operands,Call.operands,Ar]
 have Yy:∀x∈cl.args.toList,x∈o.op.operands:=λx hx=>by
  have:x∈cl.args:=by simpa using hx
  simp[ho,Op.operands,Call.operands,Ar,this]
 have LL:=h.cj hf Yz;generalize Ye:a.eval fo=fv at LL;cases LL with
 |fn Q5 h8=>
 rename_i capv;have Ah:=(oP (a:=a) (λx hx s hs=>h.cj hs (Yy x hx)) has).app Q5;unfold Tu at he;split at he
 ·rename_i fn s Hn I0;split at he
  ·cases he
  rename_i hlen;simp only[Bool.or_eq_true,not_or,Bool.not_eq_true,bne_eq_false_iff_eq]at hlen;split at he
  ·cases he
  rename_i es bs us uz A5;split at he
  ·cases he
  rename_i BZ;simp only[Bool.or_eq_true,Br,not_or,Bool.not_eq_false,Bool.not_eq_true]at BZ;obtain⟨⟨YB,Rz⟩,RA⟩:=BZ;have RB:=PL YB;have Gn:∀u∈us,u∉Ds bs:=λu hu hh=>by rw[List.any_eq_false]at Rz;have:=Rz u hu;simp only[List.contains_eq_mem,Aq]at this;exact this hh
  have Kd:∀u∈uz,u∉Ds bs:=λu hu hh=>by rw[List.any_eq_false]at RA;have:=RA u hu;simp only[List.contains_eq_mem,Aq]at this;exact this hh
  simp only at he;split at he
  ·cases he
  rename_i BF;simp only[Nat.not_le]at BF;split at he
  ·cases he
  rename_i Ht;split at he
  ·cases he
  rename_i fz Gt;have hK:∀t g,c.K t g->c.U t:=h.rel.bd;obtain⟨rf,lf,hs,q1,q2,qz,q3,q4,q5,q6⟩:=nY (P:=P) h.rel.base h.eh h.gs hK (as_++caps.toList) A5 Ah (by rw[hlen.1.2,AE,BG];have:=hlen.2;simp only[decide_eq_false_iff_not,Nat.not_lt]at this;omega);obtain⟨fts,GY,Ri⟩:∃fts,DB hp0 gs fts=some fz/\ ∀t∈fts,t∈us:=by
   split at Gt
   ·exact⟨us,Gt,λt ht=>ht⟩
   ·simp only[Ac]at Gt;subst Gt;exact⟨[],rfl,by simp⟩
  have C7:=h.rel.freeze h.hp h.gs GY;have Lt:∀t∈fz.map (·.1),t∈us:=λt ht=>by obtain⟨⟨t',e'⟩,hm,rfl⟩:=List.mem_map.1 ht;exact Ri _ ((NI h.gs GY).1 t' e' hm).1
  have QR:∀t,((c.bf (fz.map (·.1))).G t).top=(c.G t).top\/((c.bf (fz.map (·.1))).G t).top=[]:=λt=>by
   simp only[Cx.bf];split
   ·exact .inr rfl
   ·exact .inl rfl
  have tN:∀t∈Ds bs,(c.bf (fz.map (·.1))).G t=c.G t:=λt ht=>by simp only[Cx.bf];rw[if_neg];intro hh;exact Gn t (Lt t hh) ht
  have gC:∀t∈Ds bs,(c.bf (fz.map (·.1))).E t=c.E t:=λt ht=>by simp only[Cx.bf];rw[if_neg];intro hh;exact Gn t (Lt t hh) ht
  have YV:hs.Nodup:=by
   rw[q3];have:∀l:List Nat,l.Nodup->(l.flatMap λt=>(c.G t).top).Nodup:=by
    intro l
    induction l with
    |nil=>intro _;simp
    |cons t l ih=>intro hl;rw[List.nodup_cons]at hl;rw[List.flatMap_cons,List.nodup_append];refine⟨(List.nodup_append.1 (h.rel.gw.nodup t)).1,ih hl.2,λx hx y hy Fw=> ?_⟩;subst Fw;obtain⟨u,hu,Y6⟩:=List.mem_flatMap.1 hy;exact h.rel.gw.cd t u (λhh=>hl.1 (hh▸hu)) x (by simp[GI.own,hx]) (by simp[GI.own,Y6])
   exact this _ RB
  have IM:∀b∈hs,∃t∈Ds bs,b∈(c.G t).top:=λb hb=>by rw[q3]at hb;exact List.mem_flatMap.1 hb
  have FH:∀b∈hs,b∉rf:=λb hb hr=>by
   obtain⟨t,ht,Cv⟩:=IM b hb;rcases q2 b hr with hh|⟨u,hu,Hl⟩
   ·exact hh.1 ⟨t,Cv⟩
   ·exact h.rel.gw.cd t u (λhh=>Gn u hu (hh▸ht)) b (by simp[GI.own,Cv]) (by simp[GI.own,Hl])
  have IE:∀b∈hs,b∉lf:=λb hb hr=>by
   obtain⟨t,ht,Cv⟩:=IM b hb;rcases qz b hr with(hh|⟨u,hu,Hl⟩)|⟨h1,h2⟩
   ·exact hh.1 ⟨t,Cv⟩
   ·exact h.rel.gw.cd t u (λhh=>Kd u hu (hh▸ht)) b (by simp[GI.own,Cv]) (by simp[GI.own,Hl])
   ·rcases h.rel.gw.allow t b (by simp[GI.own,Cv])with k|k
    ·have:c.w0.heap.size<=b:=k;omega
    ·exact h2 k
  have EZ:∃(val:SV) (l:List (Nat × Ae)),e={call:=some ⟨.inl g,es⟩,val:=val,bc:=fz++(TL gs l++after P nv (nx+(fn.resultTypes.toList.flatMap (A2 P)).length) bs 0)}/\
    ∀(R:AV) (w':World) (v:Value) (f1 o1:List Nat),Jq P w' fn.resultTypes.toList s.res v R f1 o1->(if HT bs=0 then E.var nv else .proj (.var nv) 0).den c.ρ=R-> ∃recs:List AN,l=recs.map AN.pair/\recs.flatMap AN.top=o1/\(∀r∈recs,nx<=r.tag/\r.tag<nx+(fn.resultTypes.toList.flatMap (A2 P)).length/\r.new.isSome)/\(recs.map AN.tag).Nodup/\
     (∀r∈recs,∀hs f,r.bc≠ .gd hs f)/\ ∀c',EO c c' w' recs->(∀b∈f1,c'.ok b)->SR c' [val] [v]/\ ∀r∈recs,C5 c' r.tag r.bc:=by
   have BM:∀{l:List (Nat × Ae)} {recs:List AN},l=recs.map AN.pair->(∀t x,(t,x)∈l-> ∀hs f,x≠ .gd hs f)-> ∀r∈recs,∀hs f,r.bc≠ .gd hs f:=by rintro l recs rfl hh r hr;exact hh r.tag r.bc (List.mem_map.2 ⟨r,hr,rfl⟩)
   have fvne:∀(t:TypeId) (k:Nat) (fl:List Bool) (x:E) (u:Nat) (y:Ae),(u,y)∈(NU P k t fl x).2-> ∀hs f,y≠ .gd hs f:=by
    intro t k fl x u y hy hs f;unfold NU at hy;split at hy
    ·exact NM _ _ _ _ _ hy
    ·simp at hy
   split at he
   ·rename_i t RV;simp only[Ac]at he;subst he;refine⟨_,_,rfl,λR w' v f1 o1 hr hR=> ?_⟩;rw[RV]at hr;obtain⟨recs,e1,e2,e3,e4,e5⟩:=kO (c:=c) (nx:=nx) (x:=if HT bs=0 then E.var nv else .proj (.var nv) 0) (show Eb P w' t s.res v R f1 o1 from hr) hR;exact⟨recs,e1,e2,by simpa[RV]using e3,e4,BM e1 (fvne _ _ _ _),e5⟩
   ·rename_i RV;simp only[Ac]at he;subst he;refine⟨_,_,rfl,λR w' v f1 o1 hr hR=> ?_⟩;obtain⟨vs,ys,rfl,rfl,hv⟩:∃vs ys,v= .tuple vs.toArray/\R= .tup ys/\Jn P w' fn.resultTypes.toList s.res vs ys f1 o1:=by
     unfold Jq at hr;split at hr
     ·rename_i t ht;exact absurd ht (RV t)
     ·exact hr
    obtain⟨recs,e1,e2,e3,e4,e5⟩:=zod (c:=c) (x:=if HT bs=0 then E.var nv else .proj (.var nv) 0) hv nx 0 (λk y hy=>by show AV.proj ((if HT bs=0 then E.var nv else .proj (.var nv) 0).den c.ρ) (0+k)=y;rw[hR];simp[AV.proj,hy])
    have fvsne:∀(ts:List TypeId) (k:Nat) (fl:List Bool) (x:E) (i u:Nat) (y:Ae),(u,y)∈(L6 P k ts fl x i).2-> ∀hs f,y≠ .gd hs f:=by
     intro ts
     induction ts with
     |nil=>intro k fl x i u y hy;simp[L6]at hy
     |cons t ts ih=>
      intro k fl x i u y hy;simp only[L6,Af]at hy;rcases hy with hy|hy
      ·exact fvne _ _ _ _ _ _ hy
      ·exact ih _ _ _ _ _ _ hy
    exact⟨recs,e1,e2,e3,e4,BM e1 (fvsne _ _ _ _ _),λc' ha AS=>⟨.tup (by rw[BD.ar];exact(e5 c' ha AS).1) .nil,(e5 c' ha AS).2⟩⟩
  obtain⟨val,l,rfl,Nk⟩:=EZ;obtain⟨r,hr,AS⟩:=Bb _ rfl;have Nj:∃s',sg g=some s'/\QL P s' g ((EL.of es).den c.ρ) r:=by have AS:Cg P sg g ((EL.of es).den c.ρ) r:=AS;unfold Cg at AS;rwa[if_pos hg]at AS
  obtain⟨s',Ba,fn',IJ,DP,FK,BP,_,_,Fi⟩:=Nj;rw[I0]at Ba;cases Ba;rw[Hn]at IJ;cases IJ;rw[EL.c8]at Fi;have Bb:=Fi c.w _ rf lf hs q1 FH IE YV (h.rel.lz λb hb=>by obtain⟨t,_,ht⟩:=IM b hb;exact⟨t,ht⟩);have ex:(execOp a.eval o).run P c.w= .ok (.enter g (cl.args.map a.eval++capv.toArray)) c.w:=by
   have hb:fn.body.isNone=false:=by simpa using DP
   simp only[execOp,ho,resolve,Ar,Ye,Deferred.ofValue,Sem.run_bind,Sem.run_pure,Result.andThen_ok,invoke,callFunc,run_program,Hn];simp[FK,hb]
  intro next Q hk
  unfold Oper.wp;rw[ex,Oper.upon_enter];have MI:cl.args.map a.eval++capv.toArray=((cl.args.toList.map a.eval)++capv).toArray:=by apply Array.ext';simp
  rw[MI];refine Bb.mono ?_;rintro e' w' ⟨v,rfl,⟨R,Bs,f1,o1,f2,o2,Kv,AT,EY,Gw,RE,Rg⟩,BO⟩;show next (a.put o.dst v) w'
  have QP:∀k y,Bs[k]?=some y->(E.proj (.var nv) (0+k+1)).den c.ρ=y:=by
   intro k y hy;cases Bs with
   |nil=>simp at hy
   |cons B Bs=>simp only[E.den,hr,CR,Kv,AV.proj,Nat.zero_add,List.getElem?_cons_succ,hy]
  obtain⟨Ry,recsB,hB⟩:=zt0 (w':=w') q4 hK (r:=nv) (nx+(fn.resultTypes.toList.flatMap (A2 P)).length) 0 EY QP;have hR:(if HT bs=0 then E.var nv else .proj (.var nv) 0).den c.ρ=R:=by
   cases Bs with
   |nil=>rw[if_pos (by simpa using Ry.symm)];simp only[E.den,hr,CR,Kv]
   |cons B Bs=>rw[if_neg (by rw[<-Ry];simp)];simp[E.den,hr,Kv,AV.proj]
  obtain⟨recsV,v1,v2,v3,v4,v5,v6⟩:=Nk R w' v f1 o1 AT hR;have FL:∀t,nx<=t->t<nx+((fn.resultTypes.toList.flatMap (A2 P)).length+JY P bs)-> ¬c.U t:=λt h1 h2=>h.new t h1 (by omega);have QQ:=hB.nodup RB λt h1 h2=>FL t (by omega) (by omega);have CN:((recsV++recsB).map AN.tag).Nodup:=by
   rw[List.map_append,List.nodup_append];refine⟨v4,QQ,λt1 h1 t2 h2 he=> ?_⟩;obtain⟨p1,YI,rfl⟩:=List.mem_map.1 h1;obtain⟨p2,iB,rfl⟩:=List.mem_map.1 h2;have a1:=v3 p1 YI;cases hn:p2.new with
   |none=>exact FL p1.tag (by omega) (by omega) (he▸(hB.old p2 iB hn).2)
   |some _=>have:=hB.new p2 iB (by simp[hn]);omega
  have G1:∀r∈recsV++recsB,r.new.isSome=true->nx<=r.tag/\r.tag<nx+((fn.resultTypes.toList.flatMap (A2 P)).length+JY P bs):=λr hr hn=>by
   rcases Af.1 hr with hr|hr
   ·have:=v3 r hr;omega
   ·have:=hB.new r hr hn;omega
  have EA:((recsV++recsB).flatMap AN.top).Sublist (o1++o2):=by rw[List.flatMap_append,v2];exact(List.Sublist.refl _).append hB.ky
  have Yl:∀b∈hs,∃r∈recsV++recsB,b∈(c.G r.tag).top:=λb hb=>by obtain⟨t,ht,Cv⟩:=IM b hb;obtain⟨r,hr,rfl⟩:=hB.all t ht;exact⟨r,by simp[hr],Cv⟩
  have Rn:∀b∈hs,∃r∈recsV++recsB,b∈((c.bf (fz.map (·.1))).G r.tag).top:=λb hb=>by obtain⟨t,ht,Cv⟩:=IM b hb;obtain⟨r,hr,rfl⟩:=hB.all t ht;exact⟨r,by simp[hr],by rw[tN _ ht];exact Cv⟩
  have Ez:∀r∈recsV++recsB,∀b∈r.top,b∈o1++o2:=λr hr b hb=>EA.subset (List.mem_flatMap.2 ⟨r,hr,hb⟩);have Nd:∀b∈f1++f2,((c.bf (fz.map (·.1))).dd w' (recsV++recsB)).ok b:=by
   cases Ul:(Dd P fn.resultTypes.toList s.res||DU P bs)with
   |false=>
    simp only[Bool.or_eq_false_iff]at Ul;have C6:Qp P fn.resultTypes.toList s.res R=true/\GK P (fn.params.toList++s.ft) s.bj Bs=true:=by
     unfold JN at BP;cases Hh:Bs with
     |nil=>
      rw[if_neg (by rw[(aY EY).1 Hh];simp)]at BP;rw[Hh]at Kv;rw[Kv]at BP;refine⟨BP,?_⟩;have:∀(ts:List TypeId) (ms:List PM),GK P ts ms []=true:=by
       intro ts
       induction ts with
       |nil=>intro ms;rfl
       |cons t ts ih=>
        intro ms;unfold GK;split
        ·exact ih _
        ·exact ih _
        ·exact ih _
        ·split
         ·rename_i hh;cases hh
         ·simpa using ih _
      exact this _ _
     |cons B Bs'=>
      rw[if_pos (by
       cases hh:Bl (fn.params.toList++s.ft) s.bj with
       |true=>rfl
       |false=>rw[(aY EY).2 hh]at Hh;cases Hh)]at BP
      rw[Kv,Hh]at BP;simpa using BP
    have e1:f1=[]:=AT.flat Ul.1 C6.1;have e2:f2=[]:=Dg.flat q4 EY Ul.2 C6.2;subst e1;subst e2;simp
   |true=>rw[Ul]at Ht Gt;simp only[Bool.true_and,Br,Bool.not_eq_false]at Ht;simp only[if_true]at Gt;exact zun (rf:=rf) h.rel.gw QR rfl rfl rfl h.rel.base.size CN Ez Yl (λb hb=>SU h.rel h.eh h.gs Gt (by simpa using Ht) (q2 b hb)) Rg
  have Re:after P nv (nx+(fn.resultTypes.toList.flatMap (A2 P)).length) bs 0=recsB.map λr=>(r.tag,CB gs r.bc):=by
   cases Ln:bs with
   |nil=>
    have:=hB.ents;rw[Ln]at this;simp only[after]at this;have:recsB=[]:=by simpa using this.symm
    rw[this];rfl
   |cons b bs'=>have ES:=q6 (by rw[Ln];simp);rw[<-Ln,hB.ents,ES];rfl
  have Bu:TL gs l++after P nv (nx+(fn.resultTypes.toList.flatMap (A2 P)).length) bs 0=(recsV++recsB).map λr=>(r.tag,CB gs r.bc):=by rw[Re,List.map_append];congr 1;rw[v1];simp[TL,AN.pair]
  obtain⟨E2,BX⟩:=C7.changes (w':=w') (recs:=recsV++recsB) (hs:=hs) (gs:=gs) h.gs BO CN (λr hr hn=>by have:=G1 r hr hn;exact FL _ this.1 this.2) Rn (EA.nodup Gw) (λr hr b hb=>RE b (Ez r hr b hb))
   (λr hr=>by
    rcases Af.1 hr with hr|hr
    ·exact v5 r hr
    ·exact hB.ne r hr)
   (λ_ r hr=>by
    have aft:=Cx.da (c:=c.bf (fz.map (·.1))) (w':=w') (recs:=recsV++recsB) h.rel.bd CN (λr hr hn=>by have:=G1 r hr hn;exact FL _ this.1 this.2);have aft':EO c ((c.bf (fz.map (·.1))).dd w' (recsV++recsB)) w' (recsV++recsB):=⟨aft.ρ,aft.w,aft.G,aft.new,aft.K,aft.old,aft.ic,λr hr DQ=>(aft.fm r hr DQ).trans (by
     rcases Af.1 hr with hr|hr
     ·have:=(v3 r hr).2.2;rw[DQ]at this;cases this
     ·rw[gC _ (hB.old r hr DQ).1])⟩
    rcases Af.1 hr with hr|hr
    ·exact(v6 _ (aft'.mono λr hr=>by simp[hr]) λb hb=>Nd b (by simp[hb])).2 r hr
    ·exact hB.ok _ (aft'.mono λr hr=>by simp[hr]) (λb hb=>Nd b (by simp[hb])) r hr)
  have aft:=Cx.da (c:=c.bf (fz.map (·.1))) (w':=w') (recs:=recsV++recsB) h.rel.bd CN (λr hr hn=>by have:=G1 r hr hn;exact FL _ this.1 this.2);have aft':EO c ((c.bf (fz.map (·.1))).dd w' (recsV++recsB)) w' (recsV++recsB):=⟨aft.ρ,aft.w,aft.G,aft.new,aft.K,aft.old,aft.ic,λr hr DQ=>(aft.fm r hr DQ).trans (by
     rcases Af.1 hr with hr|hr
     ·have:=(v3 r hr).2.2;rw[DQ]at this;cases this
     ·rw[gC _ (hB.old r hr DQ).1])⟩
  have KD:=(v6 _ (aft'.mono λr hr=>by simp[hr]) λb hb=>Nd b (by simp[hb])).1;rw[<-Bu,<-NW]at E2;refine hk _ ((c.bf (fz.map (·.1))).dd w' (recsV++recsB)) ⟨rfl,rfl,rfl,rfl,λt ht=> ?_⟩ (E2.put (KD.mkGd gs h.gs) o.dst);rcases ht with ht|⟨r,hr,rfl⟩
  ·exact .inl ht
  ·cases hn:r.new with
   |none=>
    rcases Af.1 hr with hr|hr
    ·have:=(v3 r hr).2.2;rw[hn]at this;cases this
    ·exact .inl (hB.old r hr hn).2
   |some _=>have:=G1 r hr (by simp[hn]);exact .inr ⟨this.1,by simp only[BJ];omega⟩
 ·cases he
end
def Cb(c:Cx)(us:List Nat):List Nat:=us.flatMap λt=>(c.G t).top
theorem cE(c:Cx):Cb c []=[]:=rfl
theorem V1(c:Cx)(u:Nat)(us:List Nat):Cb c (u::us)=(c.G u).top++Cb c us:=by simp[Cb]
theorem Ja(c:Cx)(us vs:List Nat):Cb c (us++vs)=Cb c us++Cb c vs:=by simp[Cb]
theorem PG{c:Cx}{us:List Nat}{b:Nat}:b∈Cb c us↔ ∃t∈us,b∈(c.G t).top:=by simp[Cb]
theorem VJ{c:Cx}(gw:GW c):∀{l:List Nat},l.Nodup->(Cb c l).Nodup
 | [],_=>by simp[Cb]
 |t::l,hl=>by
  rw[V1,List.nodup_append];rw[List.nodup_cons]at hl;refine⟨?_,VJ gw hl.2,λa ha b hb XO=> ?_⟩
  ·have:=gw.nodup t;simp only[GI.own]at this;exact(List.nodup_append.1 this).1
  ·subst XO;obtain⟨u,hu,Hl⟩:=PG.1 hb;exact gw.cd t u (λhh=>hl.1 (hh▸hu)) a (by simp[GI.own,ha]) (by simp[GI.own,Hl])
section
variable {P:Program} {c:Cx} {hp:Nat->Option Ae} {gs:Gd}
theorem eD{m:Nat}{u g:Nat}{x y:E}(hx:Bp hp gs m (.own u g)=some x)(hy:HD hp gs u g=some y):x=y:=by
 cases m with
 |zero=>simp[Bp]at hx
 |succ m=>simp only[Bp,hy,Ac]at hx;exact hx.symm
theorem pT{m:Nat}{x:E}(h:Bp hp gs m .emp=some x):x= .lst .nil:=by
 cases m with
 |zero=>simp[Bp]at h
 |succ m=>simp[Bp]at h;exact h.symm
theorem zrT(eh:EH c hp)(k:Bg c.ρ gs){d:DT}{s:SV}{us:List Nat}{ck:List Cn}{v:Value}{x:E}{m:Nat}(h:eV hp gs d s=some (us,ck))(hs:SR c [s] [v])(hx:Bp hp gs m s=some x)(hc:∀q∈ck,q.den c.ρ):
  DC c.w [d] [v] [x.den c.ρ] (Cb c us)/\ ∀u∈us,∃g,c.K u g:=by
 unfold eV at h;split at h
 ·rename_i y;simp only[Ac,AP]at h;obtain⟨rfl,rfl⟩:=h;rw[JX hx];cases hs with
  |e h1 h2 h3=>
   rename_i f;have DL:(y.den c.ρ).scalar=true:=by
    cases hl:TV y with
    |true=>cases y<;>simp[TV]at hl<;>rfl
    |false=>rw[hl]at hc;exact(BW hc).2.2.2 rfl
   have hf:f=[]:=G9 h1 (by simpa using DL);subst hf;exact⟨.flat h1 .nil,by simp⟩
 ·split at h
  ·rename_i hh;simp only[Ac,AP]at h;obtain⟨rfl,rfl⟩:=h;rw[KL hx];cases hs with
   |bq _=>exact⟨.void hh.1 hh.2 .nil,by simp⟩
  ·cases h
 ·split at h
  ·rename_i hh;simp only[Ac,AP]at h;obtain⟨rfl,rfl⟩:=h;rw[pT hx];cases hs with
   |emp _=>exact⟨.void hh.1 hh.2 .nil,by simp⟩
  ·cases h
 ·rename_i e z l u g;split at h
  ·rename_i e' z' l' g' ep y hl;split at h
   ·rename_i hh;obtain⟨rfl,rfl,rfl,hb⟩:=hh;simp only[Ac,AP]at h;obtain⟨rfl,rfl⟩:=h;obtain⟨q1,q2,q3,q4,q5⟩:=eh u _ (Cu hl k);rw[eD (y:=y) hx (by simp only[HD,hl,if_true])];have hb:=AH.of_eq hb;subst hb;rw[AH.cm]at q4;cases hs with
    |own k1 k2 _=>rw[k2]at q4;exact⟨by rw[V1,cE,AB];exact q4,λw hw=>by simp at hw;subst hw;exact⟨_,k1⟩⟩
   ·cases h
  ·rename_i e' z' g' y hl;split at h
   ·rename_i hh;obtain⟨rfl,rfl,rfl,hf,hlen⟩:=hh;simp only[Ac,AP]at h;obtain⟨rfl,rfl⟩:=h;obtain⟨q1,q2,N,q4,q5,q6,q7⟩:=eh u _ (Cu hl k);obtain⟨hN,_⟩:=q6 rfl;have hN:N=[]:=hN;subst hN;rw[eD (y:=y) hx (by simp only[HD,hl,if_true])];cases hs with
    |own k1 k2 _=>rw[k2]at q4;exact⟨by rw[V1,cE,AB];exact DC.jz q4 hf hlen,λw hw=>by simp at hw;subst hw;exact⟨_,k1⟩⟩
   ·cases h
  ·cases h
 ·cases h
theorem bD(eh:EH c hp)(k:Bg c.ρ gs):∀(ds:List DT) {ss:List SV} {us:List Nat} {ck:List Cn} {vs:List Value} {xs:EL} {m:Nat},Mi hp gs ds ss=some (us,ck)->SR c ss vs->Cp hp gs m ss=some xs->(∀q∈ck,q.den c.ρ)->
  DC c.w ds vs (xs.den c.ρ) (Cb c us)/\ ∀u∈us,∃g,c.K u g
 | [],[],us,ck,vs,xs,m,h,hs,hx,hc=>by
  simp[Mi]at h;obtain⟨rfl,rfl⟩:=h;cases hs;cases m with
  |zero=>simp[Cp]at hx
  |succ m=>simp[Cp]at hx;subst hx;exact⟨.nil,by simp⟩
 | [],_::_,us,ck,vs,xs,m,h,hs,hx,hc=>by simp[Mi]at h
 |_::_,[],us,ck,vs,xs,m,h,hs,hx,hc=>by simp[Mi]at h
 |d::ds,s::ss,us,ck,[],xs,m,h,hs,hx,hc=>by have:=hs.len;simp at this
 |d::ds,s::ss,us,ck,v::vs,xs,m,h,hs,hx,hc=>by
  obtain⟨j,y,ys,rfl,hy,CY,rfl⟩:=JH hx;obtain⟨r1,r2⟩:=hs.br;unfold Mi at h;split at h
  ·rename_i us1 ck1 us2 ck2 h1 h2;simp only[Ac,AP]at h;obtain⟨rfl,rfl⟩:=h;obtain⟨q1,q2⟩:=zrT eh k h1 r1 hy λq hq=>hc q (by simp[hq]);obtain⟨q3,q4⟩:=bD eh k ds h2 r2 CY λq hq=>hc q (by simp[hq]);refine⟨by rw[Ja];exact q1.app q3,λu hu=> ?_⟩;rcases Af.1 hu with hu|hu
   ·exact q2 u hu
   ·exact q4 u hu
  ·cases h
theorem lH(eh:EH c hp)(k:Bg c.ρ gs){t:TypeId}{ds:List DT}{s:SV}{us:List Nat}{ck:List Cn}{v:Value}{x:E}(Gp:ds.length=P.cellsOf t)(hg:Aj P t=true\/P.cellsOf t=1)(h:Ql P hp gs t ds s=some (x,us,ck))(hs:SR c [s] [v])(hc:∀q∈ck,q.den c.ρ):
  DC c.w ds v.cells.toList (x.den c.ρ).cells (Cb c us)/\(∀u∈v.cells.toList,u.oneCell'=true)/\(x.den c.ρ).cells.length=P.cellsOf t/\v.cells.size=P.cellsOf t/\
   (if Aj P t then∃cs,x.den c.ρ= .agg cs else(∀cs,x.den c.ρ≠ .agg cs)/\ ∀cs,x.den c.ρ≠ .tup cs)/\ ∀u∈us,∃g,c.K u g:=by
 unfold Ql at h;split at h
 ·cases h
 rename_i y hy;split at h
 ·rename_i C6;simp only[Ac,AP]at h;obtain⟨rfl,rfl,rfl⟩:=h;obtain⟨f,q1,q2⟩:=G8 eh k AZ hy hs AZ (Av _);obtain⟨c1,c2,c3,c4⟩:=BW hc;have EZ:if Aj P t then∃cs,y.den c.ρ= .agg cs/\cs.length=P.cellsOf t else(∀cs,y.den c.ρ≠ .agg cs)/\ ∀cs,y.den c.ρ≠ .tup cs:=by
   split
   ·rename_i Ay;obtain⟨cs,Bi⟩:=c3 Ay;exact⟨cs,Bi,by rw[Bi]at c1;exact c1⟩
   ·rename_i Ay;have:=c4 (by simpa using Ay);exact⟨λcs Bi=>by rw[Bi]at this;simp[AV.scalar]at this,λcs Bi=>by rw[Bi]at this;simp[AV.scalar]at this⟩
  have hf:f=[]:=by
   cases gV:Aj P t with
   |true=>obtain⟨cs,Bi⟩:=c3 gV;obtain⟨as_,rfl,_,r⟩:=Io q1 Bi;exact G9 r (by rw[Bi]at c2;exact c2)
   |false=>exact G9 q1 (by simpa using c4 gV)
  subst hf;obtain⟨o1,o2,o3,o4⟩:=cI (P:=P) q1 hg EZ;refine⟨DC.lj o1 C6 (by rw[Gp];simpa using o4.symm),o2,o3,o4,?_,by simp⟩;split at EZ
  ·rename_i Ay;rw[if_pos Ay];obtain⟨cs,Bi,_⟩:=EZ;exact⟨cs,Bi⟩
  ·rename_i Ay;rw[if_neg Ay];exact EZ
 ·rename_i FM;split at h
  ·cases h
  rename_i Ay;have Ay:(G7 s).2=Aj P t:=by simpa using Ay
  obtain⟨⟨us',ck'⟩,hr,h⟩:=An.1 h;simp only[AP]at h;obtain⟨rfl,rfl,rfl⟩:=h;have single:Aj P t=false->Mi hp gs ds [s]=some (us',ck')->DC c.w ds v.cells.toList (y.den c.ρ).cells (Cb c us')/\(∀u∈v.cells.toList,u.oneCell'=true)/\(y.den c.ρ).cells.length=P.cellsOf t/\v.cells.size=P.cellsOf t/\
   (if Aj P t then∃cs,y.den c.ρ= .agg cs else(∀cs,y.den c.ρ≠ .agg cs)/\ ∀cs,y.den c.ρ≠ .tup cs)/\ ∀u∈us',∃g,c.K u g:=by
   intro Ay hr;have Bm:Cp hp gs (AZ+1) [s]=some (.cons y .nil):=by unfold Cp;rw[hy];rfl
   obtain⟨q1,q2⟩:=bD eh k ds hr hs Bm hc;have gT:=q1.len;simp only[EL.den,AR,List.length_nil]at gT
   match ds,gT,q1,FM,Gp with
   | [d],_,q1,FM,Gp=>
    cases d with
    |flat=>simp[DT.bg]at FM
    |row e z l=>
     obtain⟨p,q,r,rfl⟩:=q1.head;obtain⟨xs,B3⟩:∃xs,y.den c.ρ= .sl xs:=by
      obtain⟨_,_,⟨_,_,hx,_⟩|⟨_,_,_,_,_,_,hx,_⟩⟩:=q1.inv
      ·exact⟨_,hx⟩
      ·exact⟨_,hx⟩
     rw[if_neg (by rw[Ay];simp)];refine⟨?_,by simp[Value.cells,Value.oneCell'],by rw[B3,<-Gp];rfl,by rw[<-Gp];rfl,?_,q2⟩
     ·simp only[EL.den]at q1;rw[B3]at q1 ⊢;exact q1
     ·rw[B3];exact⟨λcs hh=>(by cases hh),λcs hh=>(by cases hh)⟩
  cases s with
  |agg cs=>
   simp only[G7]at Ay hr;obtain⟨m,l,hm,hl,rfl⟩:=Tc hy;cases hs with
   |agg h9 h1 h8=>rename_i as_;obtain⟨q1,q2⟩:=bD eh k ds hr h1 hl hc;obtain⟨l1,l2⟩:=q1.len;rw[if_pos Ay.symm];exact⟨by simpa[Value.cells,AV.cells,E.den]using q1,by simpa[Value.cells]using h9,by simp only[E.den,AV.cells];omega,by simp[Value.cells];omega,⟨_,rfl⟩,q2⟩
  |_=>exact single Ay.symm hr
theorem kU(eh:EH c hp)(k:Bg c.ρ gs){t:TypeId}{ds:List DT}(Gp:ds.length=P.cellsOf t)(hg:Aj P t=true\/P.cellsOf t=1):∀(ss:List SV) (vs:List Value) {xs:List E} {us:List Nat} {ck:List Cn},SR c ss vs->Tg P hp gs t ds ss=some (xs,us,ck)->(∀q∈ck,q.den c.ρ)->
  DC c.w (B5 vs.length ds) (vs.flatMap λv=>v.cells.toList) (Ap (xs.map (E.den c.ρ))) (Cb c us)/\(∀v∈vs,v.cells.size=P.cellsOf t/\ ∀u∈v.cells.toList,u.oneCell'=true)/\(∀x∈xs,(x.den c.ρ).cells.length=P.cellsOf t)/\xs.length=vs.length/\ ∀u∈us,∃g,c.K u g
 | [],vs,xs,us,ck,hr,ht,hc=>by simp[Tg]at ht;obtain⟨rfl,rfl,rfl⟩:=ht;cases hr;exact⟨by simpa[Ap,B5,Cb]using DC.nil,by simp,by simp,rfl,by simp⟩
 |s::ss,[],xs,us,ck,hr,ht,hc=>by have:=hr.len;simp at this
 |s::ss,v::vs,xs,us,ck,hr,ht,hc=>by
  obtain⟨r1,r2⟩:=hr.br;unfold Tg at ht;split at ht
  ·rename_i x us1 ck1 xs2 us2 ck2 h1 h2;simp only[Ac,AP]at ht;obtain⟨rfl,rfl,rfl⟩:=ht;obtain⟨q1,q2,q3,q4,q5,q6⟩:=lH eh k Gp hg h1 r1 (λq hq=>hc q (by simp[hq]));obtain⟨p1,p2,p3,p4,p5⟩:=kU eh k Gp hg ss vs r2 h2 (λq hq=>hc q (by simp[hq]));refine⟨?_,?_,?_,by simp[p4],?_⟩
   ·have:=q1.app p1;rw[AR,NQ,Ja];simpa[Ap]using this
   ·intro u hu;rcases Ad.1 hu with rfl|hu
    ·exact⟨q4,q2⟩
    ·exact p2 u hu
   ·intro u hu;rcases Ad.1 hu with rfl|hu
    ·exact q3
    ·exact p3 u hu
   ·intro u hu;rcases Af.1 hu with hu|hu
    ·exact q6 u hu
    ·exact p5 u hu
  ·cases ht
theorem lX(eh:EH c hp)(k:Bg c.ρ gs){e z:Nat}{l:List DT}{s:SV}{us:List Nat}{v:Value}{y:E}{m:Nat}(h:TG hp gs e z l s=some us)(hs:SR c [s] [v])(hy:Bp hp gs m s=some y):
  ∃ys q r news N,y.den c.ρ= .sl ys/\v= .slice q ys.length r/\Src c.w z q ys.length news/\DC c.w (B5 ys.length l) news (Ap ys) N/\N.Sublist (Cb c us)/\(∀y∈ys,y.cells.length=z)/\(∀u∈news,u.oneCell'=true)/\ ∀u∈us,∃g,c.K u g:=by
 have empt:∀q,v= .slice q 0 0->y= .lst .nil->us=[]-> ∃ys q r news N,y.den c.ρ= .sl ys/\v= .slice q ys.length r/\Src c.w z q ys.length news/\DC c.w (B5 ys.length l) news (Ap ys) N/\N.Sublist (Cb c us)/\(∀y∈ys,y.cells.length=z)/\(∀u∈news,u.oneCell'=true)/\ ∀u∈us,∃g,c.K u g:=by
  rintro q rfl rfl rfl;refine⟨[],q,0,[],[],rfl,rfl,?_,by simpa[B5,Ap]using DC.nil,by simp,by simp,by simp,by simp⟩;cases q with
  |none=>exact .inl ⟨rfl,rfl,rfl⟩
  |some p=>exact .inr ⟨p,rfl,by simp,by simp,by simp⟩
 unfold TG at h;split at h
 ·simp only[Ac]at h;cases hs with
  |bq _=>exact empt _ rfl (KL hy) h.symm
 ·simp only[Ac]at h;cases hs with
  |emp _=>exact empt _ rfl (pT hy) h.symm
 ·rename_i u g;split at h
  ·rename_i e' z' l' g' ep x hl;split at h
   ·rename_i hh;obtain⟨rfl,rfl,rfl,hb⟩:=hh;simp only[Ac]at h;subst h;have hb:=AH.ei hb;subst hb;obtain⟨q1,q2,q3,q4,q5⟩:=eh u _ (Cu hl k);have GA:=eD (y:=x) hy (by simp only[HD,hl,if_true]);subst GA;cases hs with
    |own k1 k2 k3=>
     rename_i p0 n0 r0;rw[k2]at q4;have hK:∀w∈ [u],∃g,c.K w g:=λw hw=>by simp at hw;subst hw;exact⟨_,k1⟩
     obtain⟨d1,d2,⟨a9,d3,d4,d5⟩|⟨g9,cap,C,ys,N1,d3,d4,d5,d6,d7,d8,d9,d10,d11,d12⟩⟩:=q4.inv
     ·cases d3;refine⟨[],_,0,[],[],d4,rfl,?_,by simpa[B5,Ap]using DC.nil,by simp,by simp,by simp,hK⟩;cases p0 with
      |none=>exact .inl ⟨rfl,rfl,rfl⟩
      |some p=>exact .inr ⟨p,rfl,by simp,by simp,by simp⟩
     ·cases d3;rw[AH.ar]at d12;have Dw:C.toList.length=r0*z:=by simpa using d9
      refine⟨ys,_,r0,_,N1,d4,rfl, .inr ⟨_,rfl,?_,λj w hw=> ?_,d11⟩,d12,?_,d10,d11,hK⟩
      ·rw[Ax,Dw];exact Nat.min_eq_left (Bf _ d7)
      ·rw[Addr.add_lit,Nat.zero_add,Ef d6];rw[List.getElem?_take]at hw;split at hw
       ·simpa using hw
       ·cases hw
      ·rw[V1,cE,AB,d5];exact List.sublist_cons_self _ _
   ·cases h
  ·cases h
 ·cases h
end
def FD(T:List Nat):List AN:=T.map λu=>⟨u,none,[], .dead⟩
theorem zvh(T:List Nat):(FD T).flatMap AN.top=[]:=by induction T<;>simp_all[FD]
theorem zv7(T:List Nat):(FD T).map AN.tag=T:=by induction T<;>simp_all[FD]
theorem ztu(T:List Nat):((FD T).map λr=>(r.tag,CB [] r.bc))=D6 T:=by simp[FD,D6,CB]
theorem S7{T:List Nat}{r:AN}(h:r∈FD T):r.tag∈T/\r.new=none/\r.top=[]/\r.bc= .dead:=by obtain⟨u,hu,rfl⟩:=List.mem_map.1 h;exact⟨hu,rfl,rfl,rfl⟩
section
variable {P:Program} {c:Cx} {n nx:Nat} {sl sl0:Nat->SV} {hp hp0:Nat->Option Ae} {a:Act} {o:Oper} {gs:Gd} {e:A3} {sg:BN} {nv:Nat}
theorem Rel.j8(h:Rel c n sl hp a){T:List Nat}(hT:T.Nodup)(F4:∀u∈T,c.U u){r0:AN}(H7:r0.tag∉T)(F6:r0.new.isSome=true-> ¬c.U r0.tag)(Dz:r0.new=none->c.U r0.tag){w':World}{hs:List Nat}(Gv:∀b∈hs,b∈(c.G r0.tag).top\/b∈Cb c T)(hm:Mod hs c.w w')
  (BZ:r0.top.Nodup) (Cc:∀b∈r0.top,(b∈hs\/c.w.heap.size<=b)/\b<w'.heap.size) (BM:∀q f,r0.bc≠ .gd q f)
  (he:DE c (c.dd w' (r0::FD T))->EO c (c.dd w' (r0::FD T)) w' (r0::FD T)->C5 (c.dd w' (r0::FD T)) r0.tag r0.bc):
  Rel (c.dd w' (r0::FD T)) n sl (A9 hp ((r0.tag,r0.bc)::D6 T)) a/\DE c (c.dd w' (r0::FD T))/\EO c (c.dd w' (r0::FD T)) w' (r0::FD T)/\ ∀t,(c.dd w' (r0::FD T)).U t->c.U t\/t=r0.tag:=by
 have hn:((r0::FD T).map AN.tag).Nodup:=by rw[List.map_cons,zv7];exact List.nodup_cons.2 ⟨H7,hT⟩
 have A0:∀r∈r0::FD T,r.new.isSome=true-> ¬c.U r.tag:=λr hr hs=>by
  rcases Ad.1 hr with rfl|hr
  ·exact F6 hs
  ·rw[(S7 hr).2.1]at hs;cases hs
 have aft:=Cx.da (w':=w') h.bd hn A0;obtain⟨q1,q2⟩:=h.changes (gs:=[]) (ED _) hm hn A0 (λb hb=>by
   rcases Gv b hb with hb|hb
   ·exact⟨r0,by simp,hb⟩
   ·obtain⟨t,ht,Cv⟩:=PG.1 hb;exact⟨⟨t,none,[], .dead⟩,List.mem_cons_of_mem _ (List.mem_map.2 ⟨t,ht,rfl⟩),Cv⟩)
  (by rw[List.flatMap_cons,zvh,AB];exact BZ)
  (λr hr b hb=>by
   rcases Ad.1 hr with rfl|hr
   ·exact Cc b hb
   ·rw[(S7 hr).2.2.1]at hb;cases hb)
  (λr hr=>by
   rcases Ad.1 hr with rfl|hr
   ·exact BM
   ·rw[(S7 hr).2.2.2];intros;simp)
  (λhk r hr=>by
   rcases Ad.1 hr with rfl|hr
   ·exact he hk aft
   ·have kg:=aft.G r (List.mem_cons_of_mem _ hr);obtain⟨_,_,e1,e2⟩:=S7 hr;rw[e2];exact⟨by rw[kg,e1],by rw[kg]⟩)
 refine⟨?_,q2,aft,λt ht=> ?_⟩
 ·rw[List.map_cons,ztu]at q1;have:CB [] r0.bc=r0.bc:=rfl;rw[this]at q1;exact q1
 ·rcases ht with ht|⟨r,hr,rfl⟩
  ·exact .inl ht
  ·rcases Ad.1 hr with rfl|hr
   ·exact .inr rfl
   ·exact .inl (F4 _ (S7 hr).1)
theorem Aw.ee(h:Bk P c n nx sl hp a sl0 hp0 o []){T:List Nat}(hT:T.Nodup)(F4:∀u∈T,∃g,c.K u g){v':Value}{w':World}{ck:List Cn}{e z:Nat}{l:List DT}{x:E}{top:List Nat}(hr:(execOp a.eval o).run P c.w= .ok (.value v') w')(hm:Mod (Cb c T) c.w w')
  (BZ:top.Nodup) (Cc:∀b∈top,(b∈Cb c T\/c.w.heap.size<=b)/\b<w'.heap.size) (hd:DC w' [.row e z (AH.of l)] [v'] [x.den c.ρ] top):
  Aw P o c n nx sl hp [] a {bu:=ck,val:= .own nx 0,bc:=(nx, .deep e z l 0 0 x)::D6 T}:=by
 intro next Q hk
 unfold Oper.wp;rw[hr,Oper.upon_value];have hU:=L9 h;have Kb:∀u∈T,c.U u:=λu hu=>by obtain⟨g,hg⟩:=F4 u hu;exact h.rel.bd _ _ hg
 obtain⟨q1,q2,q3,q4⟩:=h.rel.j8 (r0:=⟨nx,some v',top, .deep e z l 0 0 x⟩) hT Kb (λhh=>hU (Kb _ hh)) (λ_=>hU) (λhh=>by cases hh) (λb hb=> .inr hb) hm BZ Cc (by intros;simp) (λ_ aft=>by obtain⟨k1,k2,k3⟩:=aft.new _ (List.mem_cons_self ..) v' rfl;have kg:=aft.G _ (List.mem_cons_self ..);have ke:=aft.ic _ (List.mem_cons_self ..) rfl;simp only at k1 k2 k3 kg ke;exact⟨k1,k2,ke,by rw[k3,kg,aft.w,aft.ρ];exact hd,by rw[kg]⟩)
 obtain⟨k1,k2,k3⟩:=q3.new _ (List.mem_cons_self ..) v' rfl;simp only at k1 k3;obtain⟨p,m,r,rfl⟩:=hd.head;refine hk _ (c.dd w' _) ⟨rfl,rfl,rfl,rfl,λt ht=> ?_⟩ (q1.put (SR.own k1 k3 .nil) o.dst);rcases q4 t ht with ht|rfl
 ·exact .inl ht
 ·exact .inr ⟨Av _,by simp[BJ]⟩
theorem Aw.jt(h:Bk P c n nx sl hp a sl0 hp0 o []){T:List Nat}(hT:T.Nodup)(F4:∀u∈T,∃g,c.K u g){b g ep:Nat}(hb:b∉T)(hK:c.K b g)(ET:∀g',c.K b g'->g'<=g)(hE:c.E b=ep){w':World}{ck:List Cn}{e z:Nat}{l:List DT}{x:E}{top:List Nat}(hr:(execOp a.eval o).run P c.w= .ok .skip w'){hs:List Nat}(Gv:∀q∈hs,q∈(c.G b).top\/q∈Cb c T)(hm:Mod hs c.w w')
  (BZ:top.Nodup) (Cc:∀q∈top,(q∈hs\/c.w.heap.size<=q)/\q<w'.heap.size) (hd:DC w' [.row e z (AH.of l)] [c.H b g] [x.den c.ρ] top):
  Aw P o c n nx sl hp [] a {bu:=ck,bc:=(b, .deep e z l g (ep+1) x)::D6 T}:=by
 intro next Q hk
 unfold Oper.wp;rw[hr,Oper.upon_skip];have Kb:∀u∈T,c.U u:=λu hu=>by obtain⟨g,hg⟩:=F4 u hu;exact h.rel.bd _ _ hg
 have XR:=h.rel.bd _ _ hK;obtain⟨q1,q2,q3,q4⟩:=h.rel.j8 (r0:=⟨b,none,top, .deep e z l g (ep+1) x⟩) hT Kb hb (λhh=>by cases hh) (λ_=>XR) Gv hm BZ Cc (by intros;simp) (λ_ aft=>by have kg:=aft.G _ (List.mem_cons_self ..);have ke:=aft.fm _ (List.mem_cons_self ..) rfl;obtain⟨k1,k2⟩:=aft.K b g hK;simp only at kg ke;exact⟨k1,λg' Cf=>ET g' (aft.old b XR g' Cf),by rw[ke,hE],by rw[k2,kg,aft.w,aft.ρ];exact hd,by rw[kg]⟩)
 refine hk _ (c.dd w' _) ⟨rfl,rfl,rfl,rfl,λt ht=> ?_⟩ (q1.put ((SR.undef .nil).mkGd []) o.dst);rcases q4 t ht with ht|rfl
 ·exact .inl ht
 ·exact .inl XR
theorem cH{w w':World}{row:Option Nat}{S:List Nat}(h:w.grownBy w' row)(hr:∀g,row=some g->g∈S\/w.heap.size<=g):Mod S w w':=by
 refine⟨h.os,h.tape,h.output,h.size,λb hb hn=>h.block b hb λhh=> ?_⟩;rcases hr b hh.symm with h1|h1
 ·exact hn h1
 ·omega
theorem aV(h:Bk P c n nx sl hp a sl0 hp0 o []){x y:Operand}{tx:TypeId}{cl:Call}(ho:o.op= .call cl)(Ar:cl.callee= .builtin .append)(CC:cl.args.toList=[x,y])(Dx:cl.argTypes.toList=[tx,tx])
  {el:TypeId} (Bm:P.underlying tx=some (.slice el)) (hz:GH P el=true) {l:List DT} (hl:l.length=P.cellsOf el) {T us:List Nat} (hT:(T++us).Nodup) (F4:∀u∈T,∃g,c.K u g) {s2:SV} {ye:E} (A1:By sl0 [] y=some s2) (hy:Bp hp0 [] AZ s2=some ye) (Ch:TG hp0 [] el (P.cellsOf el) l s2=some us)
  {c0:E} {v:Value} (hv:a.eval x=v) {N:List Nat} (A6:DC c.w [.row el (P.cellsOf el) (AH.of l)] [v] [c0.den c.ρ] N) (hN:N=Cb c T) {ck:List Cn} (BR:Cn.den c.ρ (.room c0 ye (P.bytesOf el))):
  Aw P o c n nx sl hp [] a {bu:=ck,val:= .own nx 0,bc:=(nx, .deep el (P.cellsOf el) l 0 0 (.app c0 ye))::D6 (T++us)}:=by
 have Ah:cl.args= #[x,y]:=by apply Array.ext';simp[CC]
 have Fl:cl.argTypes= #[tx,tx]:=by apply Array.ext';simp[Dx]
 have Dn:y∈o.op.operands:=by simp[ho,Op.operands,Call.operands,Ar,Ah]
 obtain⟨i,z,hi,Fj,Dr,BF,B9,Fu⟩:=JF hz;obtain⟨ys,q,r,news,N2,CY,CQ,Dq,MO,BT,H9,M7,YZ⟩:=lX h.eh h.gs Ch (h.cj A1 Dn) hy;have CN:=VJ h.rel.gw hT;rw[Ja]at CN;have Er:∀b∈Cb c (T++us),b<c.w.heap.size:=λb hb=>by obtain⟨t,_,Cv⟩:=PG.1 hb;exact h.rel.gw.inb t b (by simp[GI.own,Cv])
 obtain⟨mm,kk,F6,Dz,LI,Ui⟩:=BR;obtain⟨d1,d2,AX⟩:=A6.inv;rw[AH.ar]at d2 AX;have hU:∀u∈T++us,∃g,c.K u g:=λu hu=>by
  rcases Af.1 hu with hu|hu
  ·exact F4 u hu
  ·exact YZ u hu
 obtain⟨xs,old,N1,B3,hold,E4,X6,F8,Cw,Ju,MC⟩:∃(xs:List AV) (old:List Value) (N1:List Nat),c0.den c.ρ= .sl xs/\old.length=xs.length*i.size/\((xs.length=0/\ ∃q,v= .slice q 0 0)\/ ∃g cap C,v= .slice (some ⟨g,0,none⟩) xs.length cap/\xs.length<=cap/\cap<=maxLen/\c.w.heap[g]?=some (.cells C el (0,0))/\C.size=cap*i.size/\old=C.toList.take (xs.length*i.size)/\(g∈Cb c T/\g∉N1))/\
   DC c.w (B5 xs.length l) old (Ap xs) N1/\(∀y∈xs,y.cells.length=P.cellsOf el)/\(∀u∈old,u.oneCell'=true)/\(∀b∈N1,b∈Cb c T)/\N1.Nodup:=by
  rcases AX with⟨p,rfl,E9,rfl⟩|⟨g9,cap,C,xs,N1,rfl,E9,rfl,h6,h7,h8,h9,ER,El,Gl⟩
  ·exact⟨[],[],[],E9,by simp, .inl ⟨rfl,p,rfl⟩,by simpa[B5,Ap]using DC.nil,by simp,by simp,by simp,by simp⟩
  ·have BZ:(g9::N1).Nodup:=by rw[hN];exact(List.nodup_append.1 CN).1
   rw[List.nodup_cons]at BZ;refine⟨xs,_,N1,E9,?_, .inr ⟨g9,cap,C,rfl,h7,h8,h6,by rw[<-B9];exact h9,rfl,by rw[<-hN];simp,BZ.1⟩,by rw[<-B9];exact Gl,ER,by rw[<-B9];exact El,λb hb=>by rw[<-hN];simp[hb],BZ.2⟩;have e9:C.toList.length=cap*i.size:=by rw[<-B9,<-h9];simp
   rw[Ax,e9];exact Nat.min_eq_left (Bf _ h7)
 rw[B3]at F6;rw[CY]at Dz;simp only[AV.len,AV.int.injEq,true_and]at F6 Dz;have Hj:(xs.length+ys.length)*i.bytes<=140737488355328:=by
  rw[<-F6,<-Dz,Fu]at LI;have h9:(((xs.length+ys.length)*i.bytes:Nat):Int)<=140737488355328:=by rw[Int.natCast_mul,Int.natCast_add];exact LI
  omega
 have GX:xs.length+ys.length<=140737488355328:=by rw[<-F6,<-Dz]at Ui;omega
 rw[B9]at Dq;obtain⟨v',w',AI,AT⟩:=WW (P:=P) c.w tx o.type el i z Bm hi Fj Dr BF (λg9=>g9∈Cb c T/\g9∉N1) v xs.length old hold E4 q ys.length r news Dq (by simp only[maxLen];omega) Hj;have CP:(execOp a.eval o).run P c.w= .ok (.value v') w':=by simp[execOp,ho,resolve,Ar,Ah,Fl,invoke,builtin,hv,CQ,AI]
 have QU:∀b∈N2,b∈Cb c us:=λb hb=>BT.subset hb;have MD:N2.Nodup:=BT.nodup (List.nodup_append.1 CN).2.1;have Ke:(E.app c0 ye).den c.ρ= .sl (xs++ys):=by simp only[E.den,B3,CY,AV.app]
 rcases AT with⟨rfl,rfl,Dy⟩|⟨g9,cap,C,rfl,h1,h2,h3,h4,h5,h6,h7⟩
 ·have G3:ys=[]:=List.eq_nil_of_length_eq_zero Dy;subst G3;refine Aw.ee h hT hU CP (Mod.refl _ _) (top:=N) (by rw[hN];exact(List.nodup_append.1 CN).1) (λb hb=>⟨.inl (by rw[Ja,<-hN];simp[hb]),Er b (by rw[Ja,<-hN];simp[hb])⟩) ?_;rw[Ke,AB,<-B3];exact A6
 ·have Ho:(g9∈Cb c T\/c.w.heap.size<=g9)/\g9∉N1/\g9∉N2:=by
   rcases h7 with⟨rfl,_⟩|⟨hg,Cf⟩
   ·refine⟨.inr (Av _),λhh=> ?_,λhh=> ?_⟩
    ·have:=Er _ (by rw[Ja];exact Af.2 (.inl (Ju _ hh)));omega
    ·have:=Er _ (by rw[Ja];exact Af.2 (.inr (QU _ hh)));omega
   ·exact⟨.inl hg,Cf,λhh=>(List.nodup_append.1 CN).2.2 _ hg _ (QU _ hh) rfl⟩
  have A4:∀b∈N1++N2,w'.heap[b]?=c.w.heap[b]?:=λb hb=>by
   have AL:b<c.w.heap.size:=Er b (by
    rw[Ja];rcases Af.1 hb with hb|hb
    ·exact Af.2 (.inl (Ju b hb))
    ·exact Af.2 (.inr (QU b hb)))
   refine h6.block b AL λhh=> ?_;cases hh;rcases Af.1 hb with hb|hb
   ·exact Ho.2.1 hb
   ·exact Ho.2.2 hb
  refine Aw.ee h hT hU CP (cH h6 λg hg=> ?_) (top:=g9::(N1++N2)) ?_ (λb hb=> ?_) ?_
  ·cases hg;rcases Ho.1 with hh|hh
   ·exact .inl (by rw[Ja];exact Af.2 (.inl hh))
   ·exact .inr hh
  ·refine List.nodup_cons.2 ⟨λhh=> ?_,List.nodup_append.2 ⟨MC,MD,λp hp q hq=> ?_⟩⟩
   ·rcases Af.1 hh with hh|hh
    ·exact Ho.2.1 hh
    ·exact Ho.2.2 hh
   ·exact(List.nodup_append.1 CN).2.2 p (Ju p hp) q (QU q hq)
  ·rcases Ad.1 hb with rfl|hb
   ·refine⟨?_,De h3⟩;rcases Ho.1 with hh|hh
    ·exact .inl (by rw[Ja];exact Af.2 (.inl hh))
    ·exact .inr hh
   ·have gQ:b∈Cb c (T++us):=by
     rw[Ja];rcases Af.1 hb with hb|hb
     ·exact Af.2 (.inl (Ju b hb))
     ·exact Af.2 (.inr (QU b hb))
    exact⟨.inl gQ,Nat.lt_of_lt_of_le (Er b gQ) h6.size⟩
  ·rw[Ke];have hlen:(xs++ys).length=xs.length+ys.length:=AE;rw[B9]at d1 d2 F8 H9 ⊢;have:=DC.row (w:=w') (e:=el) (z:=i.size) (l:=AH.of l) (g:=g9) (cap:=cap) (C:=C) (ys:=xs++ys) (N1:=N1++N2) (ts:=[]) (vs:=[]) (xs:=[]) (N:=[]) d1 (by rw[AH.ar];exact d2) h3 (by rw[hlen];exact h1) h2 h4 (λw hw=> ?_) (by
     rw[hlen,h5];intro u hu;rcases Af.1 hu with hu|hu
     ·exact Cw u hu
     ·exact M7 u hu) (by
     rw[hlen,h5,SM,WH,AH.ar];exact(X6.app MO).frame A4) .nil
   ·rw[hlen]at this;simpa using this
   ·rcases Af.1 hw with hw|hw
    ·exact F8 w hw
    ·exact H9 w hw
end
section
variable {P:Program} {c:Cx} {n nx:Nat} {sl sl0:Nat->SV} {hp hp0:Nat->Option Ae} {a:Act} {o:Oper} {gs:Gd} {e:A3} {sg:BN} {nv:Nat}
theorem ztV{l:List Nat}(h:K6 l=true):l.Nodup:=PL h
theorem znA(h:Bk P c n nx sl hp a sl0 hp0 o gs){x y:Operand}{tx ty:TypeId}{cl:Call}(ho:o.op= .call cl)(Ar:cl.callee= .builtin .append)(CC:cl.args.toList=[x,y])(Dx:cl.argTypes.toList=[tx,ty])
  {s1 s2:SV} (BE:By sl0 gs x=some s1) (A1:By sl0 gs y=some s2) (he:Wh P hp0 gs nx tx ty s1 s2=some e) (hc:∀q∈e.bu,Cn.den c.ρ q):Aw P o c n nx sl hp gs a e:=by
 have Ah:cl.args= #[x,y]:=by apply Array.ext';simp[CC]
 have DK:x∈o.op.operands:=by simp[ho,Op.operands,Call.operands,Ar,Ah]
 have Dn:y∈o.op.operands:=by simp[ho,Op.operands,Call.operands,Ar,Ah]
 unfold Wh at he;split at he
 ·cases he
 rename_i I2;have I2:tx=ty:=by simpa using I2
 subst I2;split at he
 ·rename_i el e' z dl Bm Dl;have IG:=Ig Bm;split at he
  ·cases he
  rename_i As;simp only[not_or,Br,Bool.not_eq_false,Bool.not_eq_true,ne_eq,Decidable.not_not]at As;obtain⟨hz,FM,rfl,rfl⟩:=As;obtain⟨_,_,l,IQ,DJ⟩:=Tf Bm Dl;simp only[DT.row.injEq,true_and]at IQ;subst IQ;rw[AH.ar]at he;have r1:=h.cj BE DK;split at he
  ·rename_i ye us hy Ch;have hU:∀u∈us,∃g,c.K u g:=(lX h.eh h.gs Ch (h.cj A1 Dn) hy).choose_spec.choose_spec.choose_spec.choose_spec.choose_spec.2.2.2.2.2.2.2;have No:us.Nodup:=by
    unfold TG at Ch;split at Ch
    ·simp only[Ac]at Ch;subst Ch;simp
    ·simp only[Ac]at Ch;subst Ch;simp
    ·split at Ch
     ·split at Ch
      ·simp only[Ac]at Ch;subst Ch;simp
      ·cases Ch
     ·cases Ch
    ·cases Ch
   have Uo:0<P.cellsOf e':=by obtain⟨i,_,_,_,_,h1,h2,_⟩:=JF hz;omega
   split at he
   ·rename_i t g;split at he
    ·rename_i e2 z2 l2 g2 ep c0 hl;split at he
     ·rename_i hh;obtain⟨rfl,rfl,hb,rfl,D2⟩:=hh;have hb:=AH.ei hb;subst hb;simp only[Ac]at he;subst he;obtain⟨q1,q2,q3,q4,q5⟩:=h.eh t _ (Cu hl h.gs);generalize hv:a.eval x=v at r1;cases r1 with
      |own k1 k2 _=>rw[k2]at q4;simp only[Br,List.contains_eq_mem,decide_eq_false_iff_not]at D2;exact aV h ho Ar CC Dx IG hz DJ (T:=[t]) (by simpa using List.nodup_cons.2 ⟨D2,No⟩) (λu hu=>by simp at hu;subst hu;exact⟨_,k1⟩) A1 hy Ch hv q4 (by simp[Cb]) (hc _ (by simp))
     ·cases he
    ·cases he
   ·simp only[Ac]at he;subst he;generalize hv:a.eval x=v at r1;cases r1 with
    |emp _=>exact aV h ho Ar CC Dx IG hz DJ (T:=[]) (by simpa using No) (by simp) A1 hy Ch hv (c0:= .lst .nil) (.void Uo (by rw[AH.ar];exact DJ) .nil) rfl (hc _ (by simp))
   ·simp only[Ac]at he;subst he;generalize hv:a.eval x=v at r1;cases r1 with
    |bq _=>exact aV h ho Ar CC Dx IG hz DJ (T:=[]) (by simpa using No) (by simp) A1 hy Ch hv (c0:= .lst .nil) (.void Uo (by rw[AH.ar];exact DJ) .nil) rfl (hc _ (by simp))
   ·cases he
  ·cases he
 ·cases he
theorem Aw.ew(h:Bk P c n nx sl hp a sl0 hp0 o []){T:List Nat}(hT:T.Nodup)(F4:∀u∈T,∃g,c.K u g){ck:List Cn}{el z:Nat}{l:List DT}(hz:0<z)(hl:l.length=z){x:E}{xs:List AV}{C:Array Value}{cap:Nat}(hx:x.den c.ρ= .sl xs)(Ar:∀y∈xs,y.cells.length=z)(hle:xs.length<=cap)(IC:cap<=maxLen)(hC:C.size=cap*z)
  (h1:∀u∈C.toList.take (xs.length*z),u.oneCell'=true) (hD:DC c.w (B5 xs.length l) (C.toList.take (xs.length*z)) (Ap xs) (Cb c T))
  (hr:(execOp a.eval o).run P c.w= .ok (.value (.slice (some ⟨c.w.heap.size,0,none⟩) xs.length cap)) (c.w.alloc (.cells C el))):
  Aw P o c n nx sl hp [] a {bu:=ck,val:= .own nx 0,bc:=(nx, .deep el z l 0 0 x)::D6 T}:=by
 have Er:∀b∈Cb c T,b<c.w.heap.size:=λb hb=>by obtain⟨t,_,Cv⟩:=PG.1 hb;exact h.rel.gw.inb t b (by simp[GI.own,Cv])
 have A0:(c.w.alloc (.cells C el)).heap[c.w.heap.size]?=some (.cells C el (0,0)):=heap_alloc_new c.w _;have Yg:c.w.grownBy (c.w.alloc (.cells C el)) (some c.w.heap.size):=⟨rfl,rfl,rfl,by simp,λj hj _=>Below.heap_alloc c.w _ _ hj⟩
 refine Aw.ee h hT F4 hr (cH Yg λg hg=> .inr (by cases hg;exact Av _)) (top:=c.w.heap.size::Cb c T) ?_ (λb hb=> ?_) ?_
 ·exact List.nodup_cons.2 ⟨λhh=>by have:=Er _ hh;omega,VJ h.rel.gw hT⟩
 ·rcases Ad.1 hb with rfl|hb
  ·exact⟨.inr (Av _),by simp⟩
  ·exact⟨.inl hb,Nat.lt_of_lt_of_le (Er b hb) (by simp)⟩
 ·rw[hx];have:=DC.row (w:=c.w.alloc (.cells C el)) (e:=el) (z:=z) (l:=AH.of l) (g:=c.w.heap.size) (cap:=cap) (C:=C) (ys:=xs) (N1:=Cb c T) (ts:=[]) (vs:=[]) (xs:=[]) (N:=[]) hz (by rw[AH.ar];exact hl) A0 hle IC hC Ar h1 (by
   rw[AH.ar];exact hD.frame λb hb=>Below.heap_alloc c.w _ _ (Er b hb)) .nil
  simpa using this
theorem znU(h:Bk P c n nx sl hp a sl0 hp0 o gs){t:TypeId}{m:Nat}{parts:Array (Nat × Operand)}(ho:o.op= .buildSlice t m parts){ps:List (Nat × SV)}(LH:parts.toList.mapM (λ(p:Nat × Operand)=>(By sl0 gs p.2).map λs=>(p.1,s))=some ps)(he:Wr P hp0 gs nx t m ps=some e)(hc:∀q∈e.bu,Cn.den c.ρ q):Aw P o c n nx sl hp gs a e:=by
 obtain⟨e1,e2⟩:=Wc (c:=c) (a:=a) (parts.toList.map (·.2)) (λx s hx hm=>h.cj hx (by simpa[ho,Op.operands]using hm)) (λx hx=>List.mem_map.2 ⟨x,hx,rfl⟩) LH;unfold Wr at he;split at he
 ·rename_i el e' zz dl IH Dl;have Bm:=Ig IH;split at he
  ·cases he
  rename_i As;simp only[not_or,Br,Bool.not_eq_false',ne_eq,Bool.not_eq_false,Bool.not_eq_true,Nat.not_lt,Decidable.not_not]at As;obtain⟨hz,FM,rfl,rfl,Bc,Ay,hle,En⟩:=As;obtain⟨_,_,l,IQ,DJ⟩:=Tf IH Dl;simp only[DT.row.injEq,true_and]at IQ;subst IQ;rw[AH.ar]at he;have Ay:Aj P e'=true\/P.cellsOf e'=1:=by simpa using Ay
  obtain⟨i,z,hi,Fj,Dr,BF,B9,Fu⟩:=JF hz;split at he
  ·rename_i xs us ck RQ;split at he
   ·rename_i BZ;simp only[Ac]at he;subst he;obtain⟨p1,p5,p6,p7,p8⟩:=kU h.eh h.gs DJ Ay (ps.map (·.2)) (parts.toList.map λp=>a.eval p.2) e2 RQ hc;have hlen:(parts.toList.map λp=>a.eval p.2).length=m:=by
     have:ps.length=m:=by have:=congrArg List.length En;simpa using this
     have h9:=congrArg List.length e1;simp at h9 ⊢;omega
    have Gy:(parts.map λ(x:Nat × Operand)=>(x.1,a.eval x.2)).toList=((parts.toList.map λp=>a.eval p.2).zipIdx 0).map λp=>(p.2,p.1):=by
     have MW:parts.toList.map (·.1)=List.range m:=by rw[<-e1,En]
     apply List.ext_getElem?;intro j;have hj:(parts.toList.map (·.1))[j]?=(List.range m)[j]?:=by rw[MW]
     simp only[Array.toList_map,List.getElem?_map,List.getElem?_zipIdx]at hj ⊢;cases hp:parts.toList[j]? with
     |none=>simp
     |some p=>
      rw[hp]at hj;simp only[Option.map_some,Ac]at hj ⊢;have Yq:j<m:=by
       rcases Nat.lt_or_ge j m with hh|hh
       ·exact hh
       ·rw[List.getElem?_eq_none (by simpa using hh)]at hj;cases hj
      rw[List.getElem?_range Yq]at hj;simp at hj;simp[hj]
    obtain⟨C',f1,f2⟩:=cF (sz:=i.size) (λj=>some (j*i.size,i.size)) (λj=>rfl) (parts.toList.map λp=>a.eval p.2) 0 ((Array.range (m*i.size)).map (λj=>(if m*i.size=0 then #[]else z.cells)[j % (if m*i.size=0 then #[]else z.cells).size]!)) [] _ (by simp;rfl) (by simp) (by simp[hlen]) (λv hv=>by rw[<-B9];exact(p5 v hv).1);have Dw:C'.toList.length=m*P.cellsOf e':=by
     rw[f2,B9];simp only[List.nil_append];have:∀(L:List Value),(∀v∈L,v.cells.size=i.size)->(L.flatMap λv=>v.cells.toList).length=L.length*i.size:=by
      intro L
      induction L with
      |nil=>intro _;simp
      |cons v L ih=>intro hL;simp only[List.flatMap_cons,AE,AR,BG];rw[ih (λu hu=>hL u (by simp[hu])),hL v (by simp),Nat.add_mul];omega
     rw[this _ (λv hv=>by rw[<-B9];exact(p5 v hv).1),hlen]
    have Gz:(xs.map (E.den c.ρ)).length=m:=by rw[List.length_map,p7,hlen]
    have Bo:C'.toList.take ((xs.map (E.den c.ρ)).length*P.cellsOf e')=(parts.toList.map λp=>a.eval p.2).flatMap λv=>v.cells.toList:=by rw[Gz,<-Dw,List.take_length,f2];simp
    refine Aw.ew h (ztV BZ) p8 (by omega) DJ (xs:=xs.map (E.den c.ρ)) (C:=C') (cap:=m) (by simp[E.den,EL.c8]) (λy hy=> ?_) (by omega) (by simp only[maxLen];have:m*1<=m*P.cellsOf e':=Nat.mul_le_mul_left _ (by omega);omega) (by rw[<-BG,Dw]) ?_ ?_ ?_
    ·obtain⟨q,hq,rfl⟩:=List.mem_map.1 hy;exact p6 q hq
    ·rw[Bo];intro u hu;obtain⟨v,hv,hu⟩:=List.mem_flatMap.1 hu;exact(p5 v hv).2 u hu
    ·rw[Bo,Gz,<-hlen];exact p1
    ·rw[Gz];have AI:=kH (P:=P) Bm Bc hi Fj B9 m (by rw[<-B9];omega) (parts.map λ(x:Nat × Operand)=>(x.1,a.eval x.2)) C' (by rw[Gy];exact f1) c.w;simp only[execOp,ho,Sem.run_bind];rw[AI];rfl
   ·cases he
  ·cases he
 ·cases he
theorem bJ{w:World}:∀{ds:List DT} {ss:List SV} {vs:List Value},Ob ds ss=true->SR c ss vs-> ∀{xs:EL} {m:Nat},Cp hp0 gs m ss=some xs->DC w ds vs (xs.den c.ρ) []
 | [],[],vs,_,hs,xs,m,hx=>by
  cases hs;cases m with
  |zero=>simp[Cp]at hx
  |succ m=>simp[Cp]at hx;subst hx;exact .nil
 | [],_::_,_,h,_,_,_,_=>by simp[Ob]at h
 |_::_,[],_,h,_,_,_,_=>by simp[Ob]at h
 |d::ds,s::ss,[],h,hs,_,_,_=>by have:=hs.len;simp at this
 |d::ds,s::ss,v::vs,h,hs,xs,m,hx=>by
  obtain⟨j,y,ys,rfl,hy,CY,rfl⟩:=JH hx;obtain⟨r1,r2⟩:=hs.br;simp only[Ob,Ab]at h;have ih:=bJ (w:=w) h.2 r2 CY;unfold tD at h;obtain⟨h1,_⟩:=h;split at h1
  ·rename_i y';rw[EL.den,JX hy];cases r1 with
   |e g1 g2 _=>
    cases y'<;>simp[TV]at h1
    ·cases g1 with
     |int hk _=>exact .flat (.int hk .nil) ih
    ·cases g1 with
     |bool _=>exact .flat (.bool .nil) ih
    ·rename_i s0;generalize hq:(E.str s0).den c.ρ=q at g1;cases g1 with
     |str hk _=>exact .flat (.str hk .nil) ih
     |_=>simp[E.den]at hq
  ·simp only[Ab,Aq,AJ]at h1;rw[EL.den,KL hy];cases r1 with
   |bq _=>exact .void h1.1 h1.2 ih
  ·cases h1
theorem DC.rep{w:World}{ds:List DT}{vs:List Value}{xs:List AV}(h:DC w ds vs xs []):∀k,DC w (B5 k ds) (List.replicate k vs).flatten (List.replicate k xs).flatten []
 |0=>by simpa[B5]using DC.nil
 |k+1=>by rw[NQ,List.replicate_succ,List.flatten_cons,List.replicate_succ,List.flatten_cons];simpa using h.app (DC.rep h k)
theorem zpX(h:Bk P c n nx sl hp a sl0 hp0 o gs){t:TypeId}{l m:Operand}(ho:o.op= .makeSlice t l m){s1 s2:SV}(BE:By sl0 gs l=some s1)(A1:By sl0 gs m=some s2)(he:WE P hp0 gs nx t s1 s2=some e)(hc:∀q∈e.bu,Cn.den c.ρ q):Aw P o c n nx sl hp gs a e:=by
 have DK:l∈o.op.operands:=by simp[ho,Op.operands]
 have Dn:m∈o.op.operands:=by simp[ho,Op.operands]
 unfold WE at he;split at he
 ·rename_i el e' zz dl x y IH Dl;have Bm:=Ig IH;split at he
  ·cases he
  rename_i As;simp only[not_or,Br,Bool.not_eq_false',ne_eq,Bool.not_eq_false,Bool.not_eq_true,Decidable.not_not]at As;obtain⟨hz,FM,rfl,rfl,Fw,Yh⟩:=As;have Yh:gs=[]:=by simpa using Yh
  subst Yh;obtain⟨_,_,dl',IQ,DJ⟩:=Tf IH Dl;simp only[DT.row.injEq,true_and]at IQ;subst IQ;rw[AH.ar]at he;obtain⟨i,z,hi,Fj,Dr,BF,B9,Fu⟩:=JF hz;have r1:=h.cj BE DK;have r2:=h.cj A1 Dn;have ival:∀{x:E} {kk:IntKind} {k:Int} {v:Value},SR c [.e x] [v]->x.den c.ρ= .int kk k->v= .int kk k:=by
   intro x kk k v hr hx;cases hr with
   |e h1 _ _=>exact(FA h1 hx).1
  split at he
  ·rename_i s hs;have hs:EK z=some s:=by simpa[hi,Fj]using hs
   split at he
   ·rename_i Uq;obtain⟨w,hw,rfl⟩:=An.1 he;obtain⟨kk,k,hk,h0,hb,hle⟩:Cn.den c.ρ (.mkroom x (P.bytesOf e')):=BW hc;have E8:=ival r1 hk;have CQ:=ival r2 (by rw[<-E.ak c.ρ _ _ Fw];exact hk);have iQ:DC c.w dl' z.cells.toList (w.den c.ρ).cells []:=by
     have Kw:=V6 (c:=c) hs;unfold r7 at Uq;cases s with
     |agg cs=>
      obtain⟨k9,l9,hm,uZ,rfl⟩:=Tc hw;cases Kw with
      |agg h9 h1 h8=>have:=bJ (w:=c.w) Uq h1 uZ;simpa[Value.cells,AV.cells,E.den]using this
     |bq=>
      have Bm:Cp hp0 [] (AZ+1) [.bq]=some (.cons w .nil):=by unfold Cp;rw[hw];rfl
      have:=bJ (w:=c.w) Uq Kw Bm;rw[KL hw]at this ⊢;cases Kw with
      |bq _=>simpa[Value.cells,AV.cells,E.den,EL.den]using this
     |_=>cases Uq
    obtain⟨c1,c2⟩:=bI (w:=c.w) (ρ:=c.ρ) hs hw;obtain⟨kn,rfl⟩:=Int.eq_ofNat_of_zero_le h0;have DH:(i.bytes:Int)*(kn:Int)<=281474976710656:=by rw[Fu]at hb;rw[Int.mul_comm];omega
    have hlen:=c1.len;have M5:=VB z.cells (by omega) kn;have AI:=run_make (P:=P) c.w t e' i z Bm hi Fj kk kk kn kn (by omega) (Int.le_refl _) DH (by omega);have E6:(madeCells z.cells (kn*z.cells.size)).size=kn*P.cellsOf e':=by rw[size_madeCells,Dr,B9]
    have Bo:(madeCells z.cells (kn*z.cells.size)).toList.take ((List.replicate kn (w.den c.ρ)).length*P.cellsOf e')=(List.replicate kn z.cells.toList).flatten:=by rw[List.length_replicate,List.take_of_length_le (by rw[BG,E6];exact Av _),M5]
    have C6:Ap (List.replicate kn (w.den c.ρ))=(List.replicate kn (w.den c.ρ).cells).flatten:=by
     clear AI E6 Bo M5 hb hle DH hk E8 CQ h0 hc
     induction kn with
     |zero=>rfl
     |succ k ih=>simp only[List.replicate_succ,Ap,List.flatMap_cons,List.flatten_cons]at ih ⊢;rw[ih]
    refine Aw.ew (T:=[]) h (by simp) (by simp) (by omega) DJ (xs:=List.replicate kn (w.den c.ρ)) (C:=madeCells z.cells (kn*z.cells.size)) (cap:=kn) (by simp[E.den,hk,AV.rep]) (λu hu=> ?_) (by simp) (by simp only[maxLen];omega) E6 ?_ ?_ ?_
    ·rw[List.eq_of_mem_replicate hu,<-hlen,BG,Dr,B9]
    ·rw[Bo];intro u hu;obtain⟨q,hq,hu⟩:=List.mem_flatten.1 hu;rw[List.eq_of_mem_replicate hq]at hu;exact c2 u hu
    ·rw[Bo,List.length_replicate,C6];exact iQ.rep kn
    ·simp only[execOp,ho,E8,CQ,Sem.run_bind,Int.ofNat_eq_natCast,List.length_replicate];rw[AI,Dr];rfl
   ·cases he
  ·cases he
 ·cases he
end
section
variable {P:Program} {c:Cx} {n nx:Nat} {sl sl0:Nat->SV} {hp hp0:Nat->Option Ae} {a:Act} {o:Oper} {gs:Gd} {e:A3} {sg:BN} {nv:Nat}
theorem lW{α:Type}(cs vs:List α)(o:Nat):setVs cs o vs=cs.take o++(vs++cs.drop (o+vs.length)):=by simp[setVs]
theorem DC.setVs{w:World}{ts:List DT}{L V:List Value}{X Y:List AV}{N1 N2 M:List Nat}{p:Nat}(h1:DC w (ts.take p) (L.take p) (X.take p) N1)(h2:DC w (ts.drop (p+V.length)) (L.drop (p+V.length)) (X.drop (p+V.length)) N2)(k:DC w ((ts.drop p).take V.length) V Y M):
  DC w ts (Go.Proofs.YtndikjghnmhdmaaGreat.setVs L p V) (Go.Proofs.YtndikjghnmhdmaaGreat.setVs X p Y) (N1++(M++N2)):=by
 have hk:=k.len;have ht:ts=ts.take p++((ts.drop p).take V.length++ts.drop (p+V.length)):=by rw[<-List.drop_drop,BC,BC]
 rw[lW,lW];have hl:Y.length=V.length:=by omega
 rw[hl];have:=h1.app (k.app h2);rw[<-ht]at this;exact this
theorem mQ(h:Bk P c n nx sl hp a sl0 hp0 o []){t:TypeId}{x y:Operand}(ho:o.op= .store t x y){b g:Nat}{ix:E}{sz k:Nat}{s:SV}(r1:SR c [.cf b g ix sz k] [a.eval x])(r2:SR c [s] [a.eval y]){el:Nat}{l:List DT}{ep:Nat}{c0:E}(hK:c.K b g)(ET:∀g',c.K b g'->g'<=g)(hE:c.E b=ep)
  (Bc:C4 P t=true) (hle:k+P.cellsOf t<=sz) (Fh:Aj P el=true\/(sz=1/\Aj P t=false)) (D0:Aj P t=true\/P.cellsOf t=1)
  {xe:E} {us:List Nat} {ck:List Cn} (Ch:Ql P hp0 [] t ((l.drop k).take (P.cellsOf t)) s=some (xe,us,ck)) (Ki:∀q∈ck,q.den c.ρ) (BZ:us.Nodup) (hb:b∉us)
  (Cc:∀(kk:IntKind) (kv:Int),ix.den c.ρ= .int kk kv-> ∃(m cap:Nat) (C:Array Value) (ys:List AV) (N1 N2:List Nat),c.H b g= .slice (some ⟨m,0,none⟩) ys.length cap/\c0.den c.ρ= .sl ys/\0<sz/\l.length=sz/\c.w.heap[m]?=some (.cells C el (0,0))/\ys.length<=cap/\cap<=maxLen/\C.size=cap*sz/\(∀y∈ys,y.cells.length=sz)/\(∀w∈C.toList.take (ys.length*sz),w.oneCell'=true)/\
   (m::(N1++N2)).Nodup/\(∀q∈m::(N1++N2),q∈(c.G b).top)/\DC c.w ((B5 ys.length l).take (kv.toNat*sz+k)) ((C.toList.take (ys.length*sz)).take (kv.toNat*sz+k)) ((Ap ys).take (kv.toNat*sz+k)) N1/\
   DC c.w ((B5 ys.length l).drop (kv.toNat*sz+k+P.cellsOf t)) ((C.toList.take (ys.length*sz)).drop (kv.toNat*sz+k+P.cellsOf t)) ((Ap ys).drop (kv.toNat*sz+k+P.cellsOf t)) N2):
  Aw P o c n nx sl hp [] a {bu:=ck,bc:=(b, .deep el sz l g (ep+1) (.set c0 ix (.put (.idx c0 ix) k xe (Aj P el))))::D6 us}:=by
 generalize hv:a.eval x=v at r1;cases r1 with
 |cf k1 k2 k3 k4 k5 k6=>
  rename_i m0 len cap0 kk kv;obtain⟨m,cap,C,ys,N1,N2,p1,p2,p3,p4,p5,p6,p7,p8,p9,p10,p11,p12,p13,p14⟩:=Cc kk kv k3;rw[k2]at p1;cases p1;have Hr:kv.toNat<ys.length:=by omega
  have hmul:(kv.toNat+1)*sz<=ys.length*sz:=Bf _ (by omega);have Et:ys.length*sz<=cap0*sz:=Bf _ p6;rw[Nat.add_mul]at hmul;have Dw:C.toList.length=cap0*sz:=by simpa using p8
  obtain⟨q1,q2,q3,q4,q5,q6⟩:=lH h.eh h.gs (by rw[Ax,BU,p4];omega) D0 Ch r2 Ki;have FO:=Mg Hr;generalize Ia:(AV.sl ys).nth kv.toNat=yk at FO;have Fo:=p9 yk (List.mem_of_getElem? FO);have D4:(a.eval y).cells.toList.length=P.cellsOf t:=by simpa using q4
  obtain⟨m1,m2,m3⟩:=Vz (vs:=(a.eval y).cells.toList) p5 (show(kv.toNat*sz+k)+_<=C.size by rw[D4,p8];omega);have M1:(C.toList.take (ys.length*sz)).length=ys.length*sz:=by rw[Ax,Dw];omega
  have G0:m0∈(c.G b).top:=p12 _ (by simp);have KA:∀q∈Cb c us,q∉(c.G b).top:=λq hq hh=>by obtain⟨u,hu,YN⟩:=PG.1 hq;exact h.rel.gw.cd u b (λhh=>hb (hh▸hu)) q (by simp[GI.own,YN]) (by simp[GI.own,hh])
  have Lw:∀q∈Cb c us,q<c.w.heap.size:=λq hq=>by obtain⟨u,_,YN⟩:=PG.1 hq;exact h.rel.gw.inb u q (by simp[GI.own,YN])
  have Lv:∀q∈(c.G b).top,q<c.w.heap.size:=λq hq=>h.rel.gw.inb b q (by simp[GI.own,hq]);have A4:∀q,q∈Cb c us\/(q∈N1++N2)->(putCells c.w m0 (kv.toNat*sz+k) (a.eval y).cells.toList).heap[q]?=c.w.heap[q]?:=λq hq=>by
   refine m1.block q ?_ ?_
   ·rcases hq with hq|hq
    ·exact Lw q hq
    ·exact Lv q (p12 q (by simp[Af.1 hq]))
   ·simp only[List.mem_singleton];rintro rfl;rcases hq with hq|hq
    ·exact KA _ hq G0
    ·exact(List.nodup_cons.1 p11).1 hq
  have hz:(yk.cz k (xe.den c.ρ) (Aj P el)).cells=setVs yk.cells k (xe.den c.ρ).cells:=by
   refine bU ?_ (λhg=> ?_)
   ·cases hg:Aj P el with
    |true=>exact .inr rfl
    |false=>
     left;rcases Fh with h'|⟨_,h'⟩
     ·rw[hg]at h';cases h'
     ·rw[h']at q5;exact λcs=>(q5.1 cs)
   ·rcases Fh with h'|⟨h1,h'⟩
    ·rw[hg]at h';cases h'
    ·rw[h']at q5;have Ra:P.cellsOf t=1:=by rcases D0 with h2|h2;rw[h']at h2;cases h2;exact h2
     refine⟨by omega,by omega,?_⟩;cases Y3:xe.den c.ρ<;>first|rfl|exact absurd Y3 (q5.1 _)
  have Eo:Ap (ys.set kv.toNat (yk.cz k (xe.den c.ρ) (Aj P el)))=setVs (Ap ys) (kv.toNat*sz+k) (xe.den c.ρ).cells:=
   Wm ys _ _ yk k _ p9 FO (by rw[q3];exact hle) hz
  have Gp:((B5 ys.length l).drop (kv.toNat*sz+k)).take (P.cellsOf t)=(l.drop k).take (P.cellsOf t):=by rw[<-p4];exact SY l _ _ _ _ Hr (by omega)
  have AI:(execOp a.eval o).run P c.w= .ok .skip (putCells c.w m0 (kv.toNat*sz+k) (a.eval y).cells.toList):=by have:=aZ (P:=P) (t:=t) (v:=a.eval y) (off:=kv.toNat*sz+k) p5 Bc q4 (by rw[q4,p8];omega) q2;simp[execOp,ho,hv,this]
  refine Aw.jt h BZ q6 hb hK ET hE AI (hs:=(c.G b).top++Cb c us) (λq hq=>Af.1 hq) ⟨m1.os,m1.tape,m1.output,m1.size,λq hq hn=>m1.block q hq λhh=>hn (by simp only[List.mem_singleton]at hh;subst hh;exact Af.2 (.inl G0))⟩
   (top:=m0::(N1++(Cb c us++N2))) ?_ (λq hq=> ?_) ?_
  ·have vC:=VJ h.rel.gw BZ;rw[List.nodup_cons,List.nodup_append]at p11;obtain⟨n1,n2,n3,n4⟩:=p11;have a1:∀q∈Cb c us,q∉N1/\q∉N2/\q≠m0:=λq hq=>⟨λhh=>KA q hq (p12 q (by simp[hh])),λhh=>KA q hq (p12 q (by simp[hh])),λhh=>KA q hq (hh▸G0)⟩
   rw[List.nodup_cons,List.nodup_append,List.nodup_append];refine⟨λhh=> ?_,n2,⟨vC,n3,λp hp q hq Ng=>(a1 p hp).2.1 (Ng▸hq)⟩,λp hp q hq Ng=> ?_⟩
   ·simp only[Af]at hh n1;rcases hh with hh|hh|hh
    ·exact n1 (.inl hh)
    ·exact(a1 _ hh).2.2 rfl
    ·exact n1 (.inr hh)
   ·rcases Af.1 hq with hq|hq
    ·exact(a1 q hq).1 (Ng▸hp)
    ·exact n4 p hp q hq Ng
  ·have:q∈(c.G b).top\/q∈Cb c us:=by
    simp only[Ad,Af]at hq;rcases hq with rfl|hq|hq|hq
    ·exact .inl G0
    ·exact .inl (p12 q (by simp[hq]))
    ·exact .inr hq
    ·exact .inl (p12 q (by simp[hq]))
   refine⟨.inl (Af.2 this),Nat.lt_of_lt_of_le ?_ m1.size⟩;rcases this with hh|hh
   ·exact Lv q hh
   ·exact Lw q hh
  ·have Ca:(E.set c0 ix (.put (.idx c0 ix) k xe (Aj P el))).den c.ρ= .sl (ys.set kv.toNat (yk.cz k (xe.den c.ρ) (Aj P el))):=by
    simp only[E.den,p2,k3,AV.idx,Ia,AV.cx]
   rw[Ca,k2];have DJ:(ys.set kv.toNat (yk.cz k (xe.den c.ρ) (Aj P el))).length=ys.length:=List.length_set;have:=DC.row (w:=putCells c.w m0 (kv.toNat*sz+k) (a.eval y).cells.toList) (e:=el) (z:=sz) (l:=AH.of l) (g:=m0) (cap:=cap0) (ys:=ys.set kv.toNat (yk.cz k (xe.den c.ρ) (Aj P el))) (N1:=N1++(Cb c us++N2)) (ts:=[]) (vs:=[]) (xs:=[]) (N:=[]) p3 (by rw[AH.ar];exact p4) m2 (by rw[DJ];exact p6) p7 (by rw[List.size_toArray,PK _ _ _ (by rw[D4,Dw];omega),BG];exact p8) (λw hw=> ?_) ?_ ?_ .nil
   ·rw[DJ]at this;simpa using this
   ·rcases List.mem_or_eq_of_mem_set hw with hw|rfl
    ·exact p9 w hw
    ·rw[hz,PK _ _ _ (by rw[q3,Fo];exact hle)];exact Fo
   ·simp only[DJ,List.toList_toArray];rw[PF _ _ _ _ (by rw[D4];omega) (by rw[Dw];omega)];intro u hu;unfold setVs at hu;simp only[Af]at hu;rcases hu with(hu|hu)|hu
    ·exact p10 u (Bw hu)
    ·exact q2 u hu
    ·exact p10 u (B1 hu)
   ·simp only[DJ,List.toList_toArray];rw[PF _ _ _ _ (by rw[D4];omega) (by rw[Dw];omega),Eo,AH.ar];refine DC.setVs (p13.frame λq hq=>A4 q (.inr (by simp[hq]))) ?_ ?_
    ·rw[D4];exact p14.frame λq hq=>A4 q (.inr (by simp[hq]))
    ·rw[D4,Gp];exact q1.frame λq hq=>A4 q (.inl hq)
theorem zn9(h:Bk P c n nx sl hp a sl0 hp0 o gs){t:TypeId}{x y:Operand}(ho:o.op= .store t x y){b g:Nat}{ix:E}{sz k:Nat}{s:SV}(A6: ¬ ∃e z g c d,CT hp0 gs b=some (.row e z g c d))(hx:By sl0 gs x=some (.cf b g ix sz k))(hy:By sl0 gs y=some s)
  (he:Ma P hp0 gs t (.cf b g ix sz k) s=some e) (hc:∀q∈e.bu,Cn.den c.ρ q):Aw P o c n nx sl hp gs a e:=by
 have r1:=h.cj hx (by simp[ho,Op.operands]);have r2:=h.cj hy (by simp[ho,Op.operands]);simp only[Ma]at he;split at he
 ·rename_i hl;exact absurd ⟨_,_,_,_,_,hl⟩ A6
 ·rename_i el sz' l g' ep c0 hl;split at he
  ·rename_i hh;obtain⟨rfl,rfl,rfl,Bc,hle,Fh,D0⟩:=hh;split at he
   ·rename_i xe us ck Ch;split at he
    ·cases he
    rename_i D2;simp only[Bool.or_eq_true,Br,not_or,Bool.not_eq_false,Bool.not_eq_true,List.contains_eq_mem,decide_eq_false_iff_not]at D2;simp only[Ac]at he;subst he;obtain⟨e1,e2,e3,e4,e5⟩:=h.eh b _ (Cu hl h.gs);refine mQ h ho r1 r2 e1 e2 e3 Bc hle (by simpa using Fh) D0 Ch hc (PL D2.1) D2.2 λkk kv Ro=> ?_;generalize a.eval x=v at r1;cases r1 with
    |cf k1 k2 k3 k4 k5 _=>
     rw[k3]at Ro;cases Ro;obtain⟨d1,d2,⟨a9,d3,_⟩|⟨g9,cap9,C,ys,N,d3,d4,d5,d6,d7,d8,d9,d10,d11,d12⟩⟩:=e4.inv
     ·rw[k2]at d3;cases d3;omega
     ·rw[AH.ar]at d2 d12;obtain⟨N1,N2,N3,rfl,s1,s2,s3⟩:=d12.split (kv.toNat*sz+k) (P.cellsOf t);have BZ:=h.rel.gw.nodup b;simp only[GI.own,e5,AB,d5]at BZ;refine⟨g9,cap9,C,ys,N1,N3,d3,d4,d1,d2,d6,d7,d8,d9,d10,d11,?_,λq hq=> ?_,s1,s3⟩
      ·refine List.Sublist.nodup (List.Sublist.cons_cons _ ?_) BZ;rw[List.append_assoc];exact List.Sublist.append (List.Sublist.refl _) (List.sublist_append_right _ _)
      ·rw[d5];simp only[Ad,Af]at hq ⊢;rcases hq with hq|hq|hq
       ·exact .inl hq
       ·exact .inr (.inl (.inl hq))
       ·exact .inr (.inr hq)
   ·cases he
  ·cases he
 ·rename_i el sz' l g' ep c0 i' o' u' hl;split at he
  ·rename_i hh;obtain⟨rfl,rfl,rfl,Bc,rfl,uQ,hle,Ra,D0,Fh⟩:=hh;have D0:Aj P t=false:=by simpa using D0
   split at he
   ·rename_i xe us ck Ch;split at he
    ·cases he
    rename_i D2;simp only[Bool.or_eq_true,Br,not_or,Bool.not_eq_false,Bool.not_eq_true,List.contains_eq_mem,decide_eq_false_iff_not]at D2;simp only[Ac]at he;subst he;obtain⟨e1,e2,e3,⟨m,cap,C,ys,kk,kv,N1,N2,p1,p2,p3,p4,p5,p6,p7,p7',p8,p9,p10,p11,p12,p13,p14,p15,p16,p17,p18⟩,e5⟩:=h.eh b _ (Cu hl h.gs);refine mQ h ho r1 r2 e1 e2 e3 Bc (by omega) (Fh.imp id λhh=>⟨hh,D0⟩) (.inr Ra) (by rw[Ra];exact Ch) hc (PL D2.1) D2.2 λkk' kv' Ro=> ?_;rw[E.ak c.ρ _ _ uQ,p3]at Ro;cases Ro;have BZ:=h.rel.gw.nodup b;simp only[GI.own,e5,AB,p14]at BZ;exact⟨m,cap,C,ys,N1,N2,p1,p2,p7,p7',p8,p9,p10,p11,p12,p13,BZ,λq hq=>by rw[p14];exact hq,p17,by rw[Ra];exact p18⟩
   ·cases he
  ·cases he
 ·cases he
end
section
variable {P:Program} {c:Cx} {n nx:Nat} {sl sl0:Nat->SV} {hp hp0:Nat->Option Ae} {a:Act} {o:Oper} {gs:Gd} {e:A3} {sg:BN} {nv:Nat}
theorem cQ{w:World}{ety sz:Nat}{p:Option Addr}{m r:Nat}{x:AV}{top N:List Nat}(h:CA w ety sz (.slice p m r) x top N):∃xs,x= .sl xs/\xs.length=m/\m<=r/\0<sz/\(∀y∈xs,y.cells.length=sz)/\
  ((xs=[]/\m=0/\r=0/\top=[]/\N=[])\/ ∃g C,p=some ⟨g,0,none⟩/\r<=maxLen/\w.heap[g]?=some (.cells C ety (0,0))/\C.size=r*sz/\top=[g]/\(∀u∈C.toList.take (m*sz),u.oneCell'=true)/\Rd w (C.toList.take (m*sz)) (Ap xs) N):=by
 obtain⟨xs,rfl,h2,h3,⟨rfl,⟨a,hv⟩,rfl,rfl⟩|⟨g,cap',C,hv,h6,h7,h8,h9,rfl,ER,El⟩⟩:=h
 ·cases hv;exact⟨[],rfl,rfl,Av _,h3,by simp, .inl ⟨rfl,rfl,rfl,rfl,rfl⟩⟩
 ·cases hv;exact⟨xs,rfl,rfl,h6,h3,h2, .inr ⟨g,C,rfl,h7,h8,h9,rfl,ER,El⟩⟩
theorem zp5(h:Bk P c n nx sl hp a sl0 hp0 o gs){t:TypeId}{x:Operand}{lo hi mx:Option Operand}(ho:o.op= .slice t x lo hi mx){s:SV}(hs:By sl0 gs x=some s){l' h' m':Option SV}(Bz:Hc (By sl0 gs) lo=some l')(H3:Hc (By sl0 gs) hi=some h')(E1:Hc (By sl0 gs) mx=some m')(he:Wx P hp0 gs t s l' h' m'=some e)(hc:∀q∈e.bu,Cn.den c.ρ q):Aw P o c n nx sl hp gs a e:=by
 have hm:x∈o.op.operands:=by simp[ho,Op.operands]
 have IU:∀y,lo=some y->y∈o.op.operands:=λy hy=>by simp[ho,Op.operands,hy]
 have Hs:∀y,hi=some y->y∈o.op.operands:=λy hy=>by simp[ho,Op.operands,hy]
 have hx:=h.cj hs hm;have ival:∀{x:E} {kk:IntKind} {k:Int} {v:Value},SR c [.e x] [v]->x.den c.ρ= .int kk k->v= .int kk k:=by
  intro x kk k v hr hx;cases hr with
  |e h1 _ _=>exact(FA h1 hx).1
 have ex:(execOp a.eval o).run P c.w=((Instr.sliceAt t (a.eval x) (lo.map a.eval) (hi.map a.eval) (mx.map a.eval)).run P c.w).andThen λv w=> .ok (.value v) w:=by simp[execOp,ho]
 unfold Wx at he;split at he
 ·rename_i el0 b g Bm;have hu:=Ig Bm;split at he
  ·cases he
  rename_i Bc;have Bc:C4 P el0=true:=by simpa using Bc
  have IV:mx=none:=by
   rcases Gb E1 with⟨hh,_⟩|⟨_,_,_,_,hh⟩
   ·exact hh
   ·cases hh
  subst IV;split at he
  ·rename_i el z g' c0 d hl;split at he
   ·cases he
   rename_i As;simp only[not_or,Decidable.not_not,ne_eq]at As;obtain⟨rfl,rfl,rfl⟩:=As;obtain⟨q1,q2,N,q3,q4,q5,q6⟩:=h.eh b _ (Cu hl h.gs);generalize hv:a.eval x=v at hx ex;cases hx with
   |own k1 k2 k3=>
    rename_i p m r;rw[k2]at q3;obtain⟨xs,B3,Gz,M6,BF,Ar,AX⟩:=cQ q3;split at he
    ·rename_i l;simp only[Ac]at he;subst he;obtain⟨ka,ai,kb,bi,mm,d1,d2,d3,d4,d5,d6⟩:Cn.den c.ρ (.win c0 l (.len c0)):=BW hc;have Uc:mm=(m:Int):=by rw[B3]at d3;simp only[AV.len,AV.int.injEq,true_and]at d3;omega
     obtain⟨an,rfl⟩:=Int.eq_ofNat_of_zero_le d4;obtain⟨ol,BQ,hol⟩:∃ol,lo=some ol/\By sl0 [] ol=some (.e l):=by
      rcases Gb Bz with⟨_,hh⟩|⟨ol,sl',IK,MU,MV⟩
      ·cases hh
      ·cases MV;exact⟨ol,IK,MU⟩
     have IL:hi=none:=by
      rcases Gb H3 with⟨hh,_⟩|⟨_,_,_,_,hh⟩
      ·exact hh
      ·cases hh
     subst BQ;subst IL;have M3:=ival (h.cj hol (IU _ rfl)) d1;have hle:an<=m:=by omega
     have AI:=Ss (P:=P) (w:=c.w) (lo:=(some ol).map a.eval) (hi:=(none:Option Operand).map a.eval) hu Bc p m r an m (.inr ⟨ka,by rw[Option.map_some,M3]⟩) (.inl ⟨rfl,rfl⟩) hle (Av _) M6;have:=SR.wown (c:=c) (lo:=l) (sz:=P.cellsOf el) (q':=if r=an then p else p.map (·.add (an*P.cellsOf el))) (r:=r-an) k1 k2 d1 d4 (by omega) (λAL=>by
      rcases AX with⟨_,Dy,_⟩|⟨g9,C,rfl,_⟩
      ·omega
      ·exact⟨g9,rfl,by rw[if_neg (by omega)];simp[Addr.add_lit],by simp⟩) .nil
     refine Aw.pure h (v:=sliced p an m r (P.cellsOf el)) ?_ (by simpa[sliced]using this) rfl;rw[ex];show Result.andThen (Sem.run P (Instr.sliceAt t (.slice p m r) ((some ol).map a.eval) ((none:Option Operand).map a.eval) none) c.w) _=_;rw[AI];rfl
    ·rename_i hb;simp only[Ac]at he;subst he;obtain⟨ka,ai,kb,bi,mm,d1,d2,d3,d4,d5,d6⟩:Cn.den c.ρ (.win c0 (.int .i64 0) hb):=BW hc;have Uc:mm=(m:Int):=by rw[B3]at d3;simp only[AV.len,AV.int.injEq,true_and]at d3;omega
     simp only[E.den,AV.int.injEq]at d1;obtain⟨_,rfl⟩:=d1;obtain⟨bn,rfl⟩:=Int.eq_ofNat_of_zero_le d5;obtain⟨oh,IL,YF⟩:∃oh,hi=some oh/\By sl0 [] oh=some (.e hb):=by
      rcases Gb H3 with⟨_,hh⟩|⟨ol,sl',IK,MU,MV⟩
      ·cases hh
      ·cases MV;exact⟨ol,IK,MU⟩
     have BQ:lo=none:=by
      rcases Gb Bz with⟨hh,_⟩|⟨_,_,_,_,hh⟩
      ·exact hh
      ·cases hh
     subst BQ;subst IL;have M3:=ival (h.cj YF (Hs _ rfl)) d2;have hle:bn<=m:=by omega
     have AI:=Ss (P:=P) (w:=c.w) (lo:=(none:Option Operand).map a.eval) (hi:=(some oh).map a.eval) hu Bc p m r 0 bn (.inl ⟨rfl,rfl⟩) (.inr ⟨kb,by rw[Option.map_some,M3]⟩) (Nat.zero_le _) hle M6;have CU:sliced p 0 bn r (P.cellsOf el)= .slice p bn r:=by
      unfold sliced;rcases AX with⟨_,_,rfl,_⟩|⟨g9,C,rfl,_⟩
      ·simp
      ·split<;>simp[Addr.add_lit]
     rw[CU]at AI;have CP:(execOp a.eval o).run P c.w= .ok (.value (.slice p bn r)) c.w:=by rw[ex];show Result.andThen (Sem.run P (Instr.sliceAt t (.slice p m r) ((none:Option Operand).map a.eval) ((some oh).map a.eval) none) c.w) _=_;rw[AI];rfl
     have A0: ¬c.K b (g+1):=λhk=>by have:=q2 _ hk;omega
     have hrel:=h.rel;have DI:=hrel.a6 (gs:=[]) (t:=b) (g:=g+1) (w':=c.w) (row:=(c.G b).top.head?) (top:=(c.G b).top) (O:=if d=true then(c.G b).O else []) (v:= .slice p bn r) (.inr (by omega)) A0 ⟨rfl,rfl,rfl,Av _,λ_ _ _=>rfl⟩ (λg0 ES=> .inl (List.mem_of_mem_head? ES)) (by
       rcases AX with⟨_,_,_,ht,_⟩|⟨g9,C,_,_,_,_,ht,_⟩
       ·exact .inl ht
       ·exact .inr ⟨g9,by rw[ht];rfl,ht⟩) (by split;exact .inr rfl;exact .inl rfl)
      (.row el (P.cellsOf el) (g+1) (.win c0 (.int .i64 0) hb) d) (by intros;simp) (ED _) (λF5=>by
       have Hx:(E.win c0 (.int .i64 0) hb).den c.ρ= .sl (xs.take bn):=by simp only[E.den,B3,d2,AV.win];simp
       obtain⟨N',Bd,T4⟩:∃N',CA c.w el (P.cellsOf el) (.slice p bn r) (.sl (xs.take bn)) (c.G b).top N'/\ ∀q∈N',q∈N:=by
        rcases AX with⟨rfl,Dy,rfl,ht,rfl⟩|⟨g9,C,rfl,ET,OA,hC,ht,h1,Db⟩
        ·have:bn=0:=by omega
         subst this;exact⟨[],⟨[],by simp,by simp,BF, .inl ⟨rfl,⟨p,rfl⟩,ht,rfl⟩⟩,by simp⟩
        ·obtain⟨N',XC,CW⟩:=Db.piece 0 (bn*P.cellsOf el);have IN:(xs.take bn).length=bn:=by rw[Ax];omega
         have hmul:bn*P.cellsOf el<=m*P.cellsOf el:=Bf _ hle;have ef:=cM xs Ar 0 bn (Nat.zero_le _) (by omega);simp only[Nat.zero_mul,Nat.sub_zero,List.drop_zero]at ef CW;rw[ef,List.take_take,Nat.min_eq_left hmul]at CW;refine⟨N',⟨xs.take bn,rfl,λy hy=>Ar y (Bw hy),BF, .inr ⟨g9,r,C,by rw[IN],by rw[IN];omega,ET,OA,hC,ht,?_,?_⟩⟩,XC⟩
         ·rw[IN];intro u hu;refine h1 u ?_;have:C.toList.take (bn*P.cellsOf el)=(C.toList.take (m*P.cellsOf el)).take (bn*P.cellsOf el):=by rw[List.take_take,Nat.min_eq_left hmul]
          rw[this]at hu;exact Bw hu
         ·rw[IN];exact CW
       refine⟨.inr ⟨rfl,rfl⟩,λg'' MT=> ?_,N',?_,λq hq=>F5.ok q (Bd.ln q hq) (q4 q (T4 q hq)),λhd=> ?_,λhd=>by simp[Cx.a6,hd]⟩
       ·rcases MT with MT|⟨_,rfl⟩
        ·have:=q2 _ MT;omega
        ·exact Av _
       ·have e1:(c.a6 b (g+1) c.w (.slice p bn r) (c.G b).top (if d=true then(c.G b).O else [])).H b (g+1)= .slice p bn r:=by simp[Cx.a6]
        have e2:((c.a6 b (g+1) c.w (.slice p bn r) (c.G b).top (if d=true then(c.G b).O else [])).G b).top=(c.G b).top:=by simp[Cx.a6]
        rw[e1,e2];show CA c.w el (P.cellsOf el) _ ((E.win c0 (.int .i64 0) hb).den c.ρ) _ N';rw[Hx];exact Bd
       ·obtain⟨u1,u2⟩:=q5 hd;have u1:N=[]:=u1;subst u1;have MB:N'=[]:=List.eq_nil_iff_forall_not_mem.2 λq hq=>by simpa using T4 q hq
        subst MB;exact⟨rfl,by simp only[Cx.a6,if_true,hd];exact u2⟩)
     intro next Q hk
     unfold Oper.wp;rw[CP,Oper.upon_value];refine hk _ (c.a6 b (g+1) c.w (.slice p bn r) (c.G b).top (if d=true then(c.G b).O else [])) ⟨rfl,rfl,rfl,rfl,λu hu=> ?_⟩ (DI.put (SR.mkGd (c:=c.a6 b (g+1) c.w (.slice p bn r) (c.G b).top (if d=true then(c.G b).O else [])) (s:= .own b (g+1)) (v:= .slice p bn r) (.own (show _\/_ from .inr ⟨rfl,rfl⟩) (by simp[Cx.a6]) .nil) []) o.dst);rcases hu with hu|rfl
     ·exact .inl hu
     ·exact .inl (h.rel.bd _ _ k1)
    ·cases he
  ·cases he
 ·cases he
theorem zn7(z:Array Value)(hz:0<z.size)(k:Nat):(Builtin.zeroCells z k).toList=(List.replicate k z.toList).flatten:=by have:=VB z hz k;rw[<-this];rfl
theorem ztA(h:Bk P c n nx sl hp a sl0 hp0 o gs){x:Operand}{tx:TypeId}{cl:Call}(ho:o.op= .call cl)(Ar:cl.callee= .builtin .clear)(CC:cl.args.toList=[x])(Dx:cl.argTypes.toList=[tx]){s:SV}(hs:By sl0 gs x=some s)(he:dJ P hp0 gs tx s=some e)(hc:∀q∈e.bu,Cn.den c.ρ q):Aw P o c n nx sl hp gs a e:=by
 have Ah:cl.args= #[x]:=by apply Array.ext';simp[CC]
 have Fl:cl.argTypes= #[tx]:=by apply Array.ext';simp[Dx]
 have hm:x∈o.op.operands:=by simp[ho,Op.operands,Call.operands,Ar,Ah]
 have hx:=h.cj hs hm;unfold dJ at he;split at he
 ·rename_i el0 b g l z Bm;have hu:=Ig Bm;split at he
  ·rename_i el z' g' c0 d hl;split at he
   ·cases he
   rename_i As;simp only[not_or,Br,Bool.not_eq_false,Decidable.not_not,ne_eq]at As;obtain⟨rfl,rfl,rfl,rfl,hz,Ay⟩:=As;have Ay:Aj P el=true\/P.cellsOf el=1:=by simpa using Ay
   obtain⟨i,zv,hi,Fj,Dr,BF,B9,Fu⟩:=JF hz;split at he
   ·rename_i q hq;split at he
    ·rename_i w hw;have hq:EK zv=some q:=by simpa[hi,Fj]using hq
     simp only[Ac]at he;subst he;obtain⟨c1,c2⟩:=bI (w:=c.w) (ρ:=c.ρ) hq hw;have AT:=K0 h.hp (Cu hl h.gs);obtain⟨q1,q2,N,q3,q4,q5,q6⟩:=h.rel.ents b _ AT;generalize hv:a.eval x=v at hx;cases hx with
     |wown k1 k2 k3 k4 k5 k6 k7=>
      rename_i p m r q' r' kk kv;rw[k2]at q3;obtain⟨xs,B3,Gz,M6,YW,MK,AX⟩:=cQ q3;have MM:(E.bin .sub (.len c0) l).den c.ρ≠ .undef:=hc (.dfd (.bin .sub (.len c0) l)) (by simp);have Lz:kk= .i64:=by
       simp only[E.den,B3,AV.len,k3,AV.bin]at MM;split at MM
       ·rename_i hh;rcases hh with hh|hh|hh
        ·exact hh.symm
        ·cases hh
        ·cases hh
       ·exact absurd rfl MM
      subst Lz;have Ca:(E.bin .sub (.len c0) l).den c.ρ= .int .i64 ((m:Int)-kv):=by
       simp only[E.den,B3,AV.len,k3,AV.bin,true_or,if_true,CG,Gz];congr 1;have u9:(m:Int)<=9223372036854775807:=by
        rcases AX with⟨_,h0,_⟩|⟨_,_,_,ET,_⟩
        ·omega
        ·have:maxLen=9223372036854775807:=rfl;omega
       exact(N4 .i64 _).2 ⟨by simp[IntKind.min,IntKind.signed,IntKind.bits];omega,by simp[IntKind.max,IntKind.signed,IntKind.bits];omega⟩
      have A0:(E.app (.win c0 (.int .i64 0) l) (.rep (.bin .sub (.len c0) l) w)).den c.ρ= .sl (xs.take kv.toNat++List.replicate (m-kv.toNat) (w.den c.ρ)):=by
       have e1:(E.win c0 (.int .i64 0) l).den c.ρ= .sl (xs.take kv.toNat):=by simp only[E.den,B3,k3,AV.win];simp
       have e2:(E.rep (.bin .sub (.len c0) l) w).den c.ρ= .sl (List.replicate (m-kv.toNat) (w.den c.ρ)):=by show AV.rep ((E.bin .sub (.len c0) l).den c.ρ) (w.den c.ρ)=_;rw[Ca];simp only[AV.rep];congr 2;omega
       show AV.app _ _=_;rw[e1,e2];rfl
      have ex:(execOp a.eval o).run P c.w=((Builtin.clear_ #[tx] o.type #[.slice q' (m-kv.toNat) r']).run P c.w).andThen λv w=> .ok (.value v) w:=by simp[execOp,ho,resolve,Ar,Ah,Fl,invoke,builtin,hv]
      rcases Nat.eq_or_lt_of_le (show kv.toNat<=m by omega)with heq|AL
      ·
       have BT:m-kv.toNat=0:=by omega
       have AI:(execOp a.eval o).run P c.w= .ok (.value (.tuple #[])) c.w:=by rw[ex,BT];cases q'<;>simp[Builtin.clear_,run_underlying hu]
       have A4:(E.app (.win c0 (.int .i64 0) l) (.rep (.bin .sub (.len c0) l) w)).den c.ρ=c0.den c.ρ:=by rw[A0,B3,BT];simp[List.take_of_length_le (show xs.length<=kv.toNat by omega)]
       intro next Q hk
       unfold Oper.wp;rw[AI,Oper.upon_value];have DI:Rel c n sl (A9 hp [(b, .row el (P.cellsOf el) g (.app (.win c0 (.int .i64 0) l) (.rep (.bin .sub (.len c0) l) w)) d)]) a:=by
        have DM:∀u,A9 hp [(b, .row el (P.cellsOf el) g (.app (.win c0 (.int .i64 0) l) (.rep (.bin .sub (.len c0) l) w)) d)] u=if u=b then some (.row el (P.cellsOf el) g (.app (.win c0 (.int .i64 0) l) (.rep (.bin .sub (.len c0) l) w)) d)else hp u:=λu=>rfl;refine h.rel.change (λu=>u=b) (DE.refl c) h.rel.base (λu hu=>⟨by rw[DM,if_neg hu],rfl,rfl,λ_ hk=>hk⟩) (λ_ _ _ _=>rfl) (λu hu=> ?_) h.rel.gw h.rel.bd (λu f hf=> ?_)
        ·subst hu;rw[DM,if_pos rfl];refine⟨λe' hr=> ?_,λhn=>absurd rfl (hn _)⟩;simp only[Cq]at hr;subst hr;exact⟨q1,q2,N,by rw[A4,k2];exact q3,q4,q5,q6⟩
        ·rw[DM]at hf;split at hf
         ·rename_i hu;subst hu;exact h.rel.bd _ _ k1
         ·exact h.rel.ch u f hf
       exact hk _ c (Mp.refl _ _) (DI.put ((SR.undef .nil).mkGd []) o.dst)
      ·obtain⟨b9,iC,rfl,rfl⟩:=k6 (by omega);rcases AX with⟨_,h0,_⟩|⟨g9,C,hp',ET,OA,hC,ht,h1,Db⟩
       ·omega
       rw[iC]at hp';cases hp';have Dw:C.toList.length=r*P.cellsOf el:=by simpa using hC
       have hP:m*P.cellsOf el<=r*P.cellsOf el:=Bf _ M6;have hF:(m-kv.toNat)*P.cellsOf el+kv.toNat*P.cellsOf el=m*P.cellsOf el:=by rw[<-Nat.add_mul];congr 1;omega
       have OJ:=zn7 zv.cells (by omega) (m-kv.toNat);generalize hZ:(List.replicate (m-kv.toNat) zv.cells.toList).flatten=Z at OJ;have MH:Z.length=(m-kv.toNat)*P.cellsOf el:=by rw[<-hZ,List.length_flatten];simp only[List.map_replicate,List.sum_replicate_nat,BG,Dr,B9]
       have gO:∀u∈Z,u.oneCell'=true:=λu hu=>by rw[<-hZ]at hu;obtain⟨L,hL,hu⟩:=List.mem_flatten.1 hu;rw[List.eq_of_mem_replicate hL]at hu;exact c2 u hu
       have Kt:=aR (P:=P) (off:=kv.toNat*P.cellsOf el) Z 0 c.w C OA (by rw[MH,hC];omega) gO;have AI:(execOp a.eval o).run P c.w= .ok (.value (.tuple #[])) (putCells c.w b9 (kv.toNat*P.cellsOf el) Z):=by
        rw[ex];obtain⟨mm,Uc⟩:∃mm,m-kv.toNat=mm+1:=⟨m-kv.toNat-1,by omega⟩
        have wT:(zeroValue el).run P c.w= .ok zv c.w:=by simp[zeroValue,typeInfo,hi,Fj]
        simp only[Nat.add_zero]at Kt;rw[Uc]at OJ ⊢;simp[Builtin.clear_,run_underlying hu,wT,OJ,Kt]
       obtain⟨m1,m2,m3⟩:=Vz (off:=kv.toNat*P.cellsOf el) (vs:=Z) OA (by rw[MH,hC];omega);have M1:(C.toList.take (m*P.cellsOf el)).length=m*P.cellsOf el:=by rw[Ax,Dw];omega
       have LV:b9∈(c.G b).top:=by rw[ht];simp
       have QZ:Rd c.w Z (Ap (List.replicate (m-kv.toNat) (w.den c.ρ))) []:=by rw[<-hZ];exact eZ c1 _
       obtain⟨n1,n2,n3,hN,s1,s2⟩:=Rd.setVs (p:=kv.toNat*P.cellsOf el) Db QZ (by rw[M1,MH];omega);have iN:(w.den c.ρ).cells.length=P.cellsOf el:=by have:=c1.len;rw[<-this];simp[Dr,B9]
       have uA:(Ap (List.replicate (m-kv.toNat) (w.den c.ρ))).length=Z.length:=by rw[<-QZ.len]
       have C6:setVs (Ap xs) (kv.toNat*P.cellsOf el) (Ap (List.replicate (m-kv.toNat) (w.den c.ρ)))=Ap (xs.take kv.toNat++List.replicate (m-kv.toNat) (w.den c.ρ)):=by
        have ef:=cM xs MK 0 kv.toNat (Nat.zero_le _) (by omega)
        simp only[Nat.zero_mul,Nat.sub_zero,List.drop_zero]at ef;unfold setVs;rw[ef,SM,uA,MH,List.drop_eq_nil_of_le (by rw[JI _ MK,Gz];omega),AB]
       rw[C6]at s1;have Cc:∀q∈n1++ []++n3,q∈N:=λq hq=>by rw[hN];simp at hq ⊢;rcases hq with hq|hq<;>simp[hq]
       have Fk:∀q,q<c.w.heap.size->c.ok q->(putCells c.w b9 (kv.toNat*P.cellsOf el) Z).heap[q]?=c.w.heap[q]?:=by intro q hq AS;refine m1.block q hq ?_;simp only[List.mem_singleton];rintro rfl;exact AS.1 ⟨b,LV⟩
       have DJ:(xs.take kv.toNat++List.replicate (m-kv.toNat) (w.den c.ρ)).length=m:=by rw[AE,Ax,List.length_replicate];omega
       have DI:=h.rel.jb (t:=b) (b:=b9) (w':=putCells c.w b9 (kv.toNat*P.cellsOf el) Z) (O:=if d=true then(c.G b).O else []) AT LV (by split;exact .inr rfl;exact .inl rfl) m1 m3
        (.row el (P.cellsOf el) g (.app (.win c0 (.int .i64 0) l) (.rep (.bin .sub (.len c0) l) w)) d) (by intros;simp) (λF5=>by
         refine⟨q1,q2,n1++ []++n3,?_,λq hq=>F5.ok q (Db.inb q (Cc q hq)) (q4 q (Cc q hq)),λhd=> ?_,λhd=>by simp[Cx.en,hd]⟩
         ·show CA (putCells c.w b9 (kv.toNat*P.cellsOf el) Z) el (P.cellsOf el) (c.H b g) ((E.app (.win c0 (.int .i64 0) l) (.rep (.bin .sub (.len c0) l) w)).den c.ρ) _ _;rw[A0,k2,iC];refine⟨_,rfl,λy hy=> ?_,YW, .inr ⟨b9,r,_,by rw[DJ],by rw[DJ];exact M6,ET,m2,?_,by simpa[Cx.en]using ht,?_,?_⟩⟩
          ·rcases Af.1 hy with hy|hy
           ·exact MK y (Bw hy)
           ·rw[List.eq_of_mem_replicate hy];exact iN
          ·rw[List.size_toArray,PK _ _ _ (by rw[MH,Dw];omega),BG];exact hC
          ·simp only[DJ,List.toList_toArray];rw[PF _ _ _ _ (by rw[MH];omega) (by rw[Dw];omega)];intro u hu;unfold setVs at hu;simp only[Af]at hu;rcases hu with(hu|hu)|hu
           ·exact h1 u (Bw hu)
           ·exact gO u hu
           ·exact h1 u (B1 hu)
          ·simp only[DJ,List.toList_toArray];rw[PF _ _ _ _ (by rw[MH];omega) (by rw[Dw];omega)];exact s1.frame λq hq=>Fk q (Db.inb q (Cc q hq)) (q4 q (Cc q hq))
         ·obtain⟨u1,u2⟩:=q5 hd;have u1:N=[]:=u1;subst u1;have MB:n1++ []++n3=[]:=List.eq_nil_iff_forall_not_mem.2 λq hq=>by simpa using Cc q hq
          rw[MB];exact⟨rfl,by simp only[Cx.en,if_true,hd];exact u2⟩)
       intro next Q hk
       unfold Oper.wp;rw[AI,Oper.upon_value];exact hk _ (c.en _ b _) ⟨rfl,rfl,rfl,rfl,λt ht=> .inl ht⟩ (DI.put ((SR.undef .nil).mkGd []) o.dst)
    ·cases he
   ·cases he
  ·cases he
 ·cases he
end
section
variable {P:Program} {c:Cx} {n nx:Nat} {sl sl0:Nat->SV} {hp hp0:Nat->Option Ae} {a:Act} {o:Oper} {gs:Gd} {e:A3} {sg:BN} {nv:Nat}
theorem zvo(l:List DT){n i:Nat}(hi:i<=n):B5 n l=B5 i l++B5 (n-i) l:=by rw[<-WH];congr 1;omega
theorem ztw{K:Nat}{xs:List AV}(h:∀y∈xs,y.cells.length=K){i:Nat}(hi:i<=xs.length):Ap (xs.take i)=(Ap xs).take (i*K)/\Ap (xs.drop i)=(Ap xs).drop (i*K):=by
 have l1:(Ap (xs.take i)).length=i*K:=by rw[JI _ λy hy=>h y (Bw hy),Ax,Nat.min_eq_left hi]
 have e:Ap xs=Ap (xs.take i)++Ap (xs.drop i):=by rw[<-SM,BC]
 rw[e,<-l1,List.take_left,List.drop_left];exact⟨rfl,rfl⟩
theorem DC.l8{w:World}{xs:List AV}{l:List DT}{K:Nat}{cs:List Value}{N:List Nat}(hK:l.length=K)(h:DC w (B5 xs.length l) cs (Ap xs) N)(hx:∀y∈xs,y.cells.length=K){i:Nat}(hi:i<=xs.length):
  ∃N1 N2,N=N1++N2/\DC w (B5 i l) (cs.take (i*K)) (Ap (xs.take i)) N1/\DC w (B5 (xs.length-i) l) (cs.drop (i*K)) (Ap (xs.drop i)) N2:=by
 have hlen:=h.len;have t1:=ztw hx hi;have hmul:=Bf K hi;rw[zvo l hi,<-BC (i*K) cs,<-BC (i*K) (Ap xs)]at h;rw[NT,hK]at hlen;obtain⟨N1,N2,rfl,h1,h2⟩:=DC.dg (by rw[NT,hK,Ax];omega) (by rw[NT,hK,Ax];omega) h;exact⟨N1,N2,rfl,by rw[t1.1];exact h1,by rw[t1.2];exact h2⟩
theorem zrw(h:Bk P c n nx sl hp a sl0 hp0 o gs){t:TypeId}{x:Operand}{lo hi mx:Option Operand}(ho:o.op= .slice t x lo hi mx){s:SV}(hs:By sl0 gs x=some s){l' h' m':Option SV}(Bz:Hc (By sl0 gs) lo=some l')(H3:Hc (By sl0 gs) hi=some h')(E1:Hc (By sl0 gs) mx=some m')(he:W6 P hp0 gs nx t s l' h' m'=some e)(hc:∀q∈e.bu,Cn.den c.ρ q):Aw P o c n nx sl hp gs a e:=by
 have hm:x∈o.op.operands:=by simp[ho,Op.operands]
 have IU:∀y,lo=some y->y∈o.op.operands:=λy hy=>by simp[ho,Op.operands,hy]
 have Hs:∀y,hi=some y->y∈o.op.operands:=λy hy=>by simp[ho,Op.operands,hy]
 have hx:=h.cj hs hm;have ival:∀{x:E} {kk:IntKind} {k:Int} {v:Value},SR c [.e x] [v]->x.den c.ρ= .int kk k->v= .int kk k:=by
  intro x kk k v hr hx;cases hr with
  |e h1 _ _=>exact(FA h1 hx).1
 have ex:(execOp a.eval o).run P c.w=((Instr.sliceAt t (a.eval x) (lo.map a.eval) (hi.map a.eval) (mx.map a.eval)).run P c.w).andThen λv w=> .ok (.value v) w:=by simp[execOp,ho]
 unfold W6 at he;split at he
 ·rename_i el0 b g Bm;have hu:=Ig Bm;split at he
  ·cases he
  rename_i Bc;have Bc:C4 P el0=true:=by simpa using Bc
  have IV:mx=none:=by
   rcases Gb E1 with⟨hh,_⟩|⟨_,_,_,_,hh⟩
   ·exact hh
   ·cases hh
  subst IV;split at he
  ·rename_i el z dl g' ep c0 hl;split at he
   ·cases he
   rename_i As;simp only[not_or,Decidable.not_not,ne_eq]at As;obtain⟨rfl,rfl,rfl⟩:=As;obtain⟨q1,q2,_,q4,_⟩:=h.eh b _ (Cu hl h.gs);generalize hv:a.eval x=v at hx ex;cases hx with
   |own k1 k2 k3=>
    rename_i p m r;rw[k2]at q4;obtain⟨_,q3,_⟩:=q4.ownRow;obtain⟨xs,B3,Gz,M6,BF,Ar,AX⟩:=cQ q3;split at he
    ·rename_i l;simp only[Ac]at he;subst he;obtain⟨ka,ai,kb,bi,mm,d1,d2,d3,d4,d5,d6⟩:Cn.den c.ρ (.win c0 l (.len c0)):=BW hc;have Uc:mm=(m:Int):=by rw[B3]at d3;simp only[AV.len,AV.int.injEq,true_and]at d3;omega
     obtain⟨an,rfl⟩:=Int.eq_ofNat_of_zero_le d4;obtain⟨ol,BQ,hol⟩:∃ol,lo=some ol/\By sl0 [] ol=some (.e l):=by
      rcases Gb Bz with⟨_,hh⟩|⟨ol,sl',IK,MU,MV⟩
      ·cases hh
      ·cases MV;exact⟨ol,IK,MU⟩
     have IL:hi=none:=by
      rcases Gb H3 with⟨hh,_⟩|⟨_,_,_,_,hh⟩
      ·exact hh
      ·cases hh
     subst BQ;subst IL;have M3:=ival (h.cj hol (IU _ rfl)) d1;have hle:an<=m:=by omega
     have AI:=Ss (P:=P) (w:=c.w) (lo:=(some ol).map a.eval) (hi:=(none:Option Operand).map a.eval) hu Bc p m r an m (.inr ⟨ka,by rw[Option.map_some,M3]⟩) (.inl ⟨rfl,rfl⟩) hle (Av _) M6;have:=SR.wown (c:=c) (lo:=l) (sz:=P.cellsOf el) (q':=if r=an then p else p.map (·.add (an*P.cellsOf el))) (r:=r-an) k1 k2 d1 d4 (by omega) (λAL=>by
      rcases AX with⟨_,Dy,_⟩|⟨g9,C,rfl,_⟩
      ·omega
      ·exact⟨g9,rfl,by rw[if_neg (by omega)];simp[Addr.add_lit],by simp⟩) .nil
     refine Aw.pure h (v:=sliced p an m r (P.cellsOf el)) ?_ (by simpa[sliced]using this) rfl;rw[ex];show Result.andThen (Sem.run P (Instr.sliceAt t (.slice p m r) ((some ol).map a.eval) ((none:Option Operand).map a.eval) none) c.w) _=_;rw[AI];rfl
    ·cases he
  ·rename_i el z dl g' ep c0 kE hl;split at he
   ·cases he
   rename_i As;simp only[not_or,Decidable.not_not,ne_eq]at As;obtain⟨rfl,rfl,rfl⟩:=As;obtain⟨q1,q2,_,⟨p',cap',ys,kk,kv,e1,e2,e3,e4,e5,e6⟩,_⟩:=h.eh b _ (Cu hl h.gs);generalize hv:a.eval x=v at hx ex;cases hx with
   |own k1 k2 k3=>
    rename_i p m r;rw[k2]at e1;simp only[Value.slice.injEq]at e1;obtain⟨rfl,rfl,rfl⟩:=e1;split at he
    ·rename_i hb;split at he
     ·rename_i Lm;rw[<-E.ak c.ρ _ _ Lm]at e3;simp only[Ac]at he;subst he;obtain⟨oh,IL,YF⟩:∃oh,hi=some oh/\By sl0 [] oh=some (.e hb):=by
       rcases Gb H3 with⟨_,hh⟩|⟨ol,sl',IK,MU,MV⟩
       ·cases hh
       ·cases MV;exact⟨ol,IK,MU⟩
      have BQ:lo=none:=by
       rcases Gb Bz with⟨hh,_⟩|⟨_,_,_,_,hh⟩
       ·exact hh
       ·cases hh
      subst BQ;subst IL;have M3:=ival (h.cj YF (Hs _ rfl)) e3;have AI:=Ss (P:=P) (w:=c.w) (lo:=(none:Option Operand).map a.eval) (hi:=(some oh).map a.eval) hu Bc p ys.length r 0 kv (.inl ⟨rfl,rfl⟩) (.inr ⟨kk,by rw[Option.map_some,M3]⟩) (Nat.zero_le _) e4 e5;have CU:sliced p 0 kv r (P.cellsOf el)= .slice p kv r:=by
       obtain⟨_,_,⟨a9,h9,_⟩|⟨g9,cap,C,zs,N1,h9,_⟩⟩:=e6.inv
       ·simp only[Value.slice.injEq]at h9;obtain⟨rfl,_,rfl⟩:=h9;simp[sliced]
       ·simp only[Value.slice.injEq]at h9;obtain⟨rfl,_,_⟩:=h9;unfold sliced;split<;>simp[Addr.add_lit]
      rw[CU]at AI;have CP:(execOp a.eval o).run P c.w= .ok (.value (.slice p kv r)) c.w:=by rw[ex];show Result.andThen (Sem.run P (Instr.sliceAt t (.slice p ys.length r) ((none:Option Operand).map a.eval) ((some oh).map a.eval) none) c.w) _=_;rw[AI];rfl
      have Hx:(E.win c0 (.int .i64 0) hb).den c.ρ= .sl (ys.take kv):=by simp only[E.den,e2,e3,AV.win];simp
      have B0:Cb c [b]=(c.G b).top:=by simp[Cb]
      have BZ:=h.rel.gw.nodup b;simp only[GI.own]at BZ;exact Aw.ee h (T:=[b]) (by simp) (by simpa using⟨_,q1⟩) CP (Mod.refl _ _) (top:=(c.G b).top) (List.nodup_append.1 BZ).1 (λq hq=>⟨.inl (by rw[B0];exact hq),h.rel.gw.inb b q (by simp[GI.own,hq])⟩) (by rw[Hx];exact e6)
     ·cases he
    ·cases he
  ·cases he
 ·cases he
theorem zr8{x y:Operand}{tx:TypeId}{cl:Call}(ho:o.op= .call cl)(Ar:cl.callee= .builtin .append)(CC:cl.args.toList=[x,y])(Dx:cl.argTypes.toList=[tx,tx])
  {el:TypeId} (Bm:P.underlying tx=some (.slice el)) (hz:GH P el=true) {l:List DT} (hl:l.length=P.cellsOf el) {TT:List Nat} (T5:TT.Nodup) (Kc:∀b∈TT,b<c.w.heap.size) {N2:List Nat} (MD:N2.Nodup) (Iz:∀b∈N2,b<c.w.heap.size) (QV:∀b∈N2,b∉TT)
  {ys:List AV} {q:Option Addr} {r:Nat} {news:List Value} (CQ:a.eval y= .slice q ys.length r) (Dq:Src c.w (P.cellsOf el) q ys.length news) (MO:DC c.w (B5 ys.length l) news (Ap ys) N2) (H9:∀y∈ys,y.cells.length=P.cellsOf el) (M7:∀u∈news,u.oneCell'=true)
  {X:AV} {v:Value} (hv:a.eval x=v) (A6:DC c.w [.row el (P.cellsOf el) (AH.of l)] [v] [X] TT) {xs:List AV} (hX:X= .sl xs) (LI:((xs.length:Int)+ys.length)*P.bytesOf el<=140737488355328) (Ui:(xs.length:Int)+ys.length<=140737488355328):
  ∃v' w' top,(execOp a.eval o).run P c.w= .ok (.value v') w'/\Mod TT c.w w'/\top.Nodup/\(∀b∈top,(b∈TT\/b∈N2\/c.w.heap.size<=b)/\b<w'.heap.size)/\DC w' [.row el (P.cellsOf el) (AH.of l)] [v'] [.sl (xs++ys)] top:=by
 have Ah:cl.args= #[x,y]:=by apply Array.ext';simp[CC]
 have Fl:cl.argTypes= #[tx,tx]:=by apply Array.ext';simp[Dx]
 obtain⟨i,z,hi,Fj,Dr,BF,B9,Fu⟩:=JF hz;obtain⟨d1,d2,AX⟩:=A6.inv;rw[AH.ar]at d2 AX;subst hX;obtain⟨old,N1,hold,E4,X6,F8,Cw,Ju,MC⟩:∃(old:List Value) (N1:List Nat),old.length=xs.length*i.size/\((xs.length=0/\ ∃q,v= .slice q 0 0)\/ ∃g cap C,v= .slice (some ⟨g,0,none⟩) xs.length cap/\xs.length<=cap/\cap<=maxLen/\c.w.heap[g]?=some (.cells C el (0,0))/\C.size=cap*i.size/\old=C.toList.take (xs.length*i.size)/\(g∈TT/\g∉N1))/\
   DC c.w (B5 xs.length l) old (Ap xs) N1/\(∀y∈xs,y.cells.length=P.cellsOf el)/\(∀u∈old,u.oneCell'=true)/\(∀b∈N1,b∈TT)/\N1.Nodup:=by
  rcases AX with⟨p,rfl,E9,rfl⟩|⟨g9,cap,C,xs',N1,rfl,E9,rfl,h6,h7,h8,h9,ER,El,Gl⟩
  ·cases E9;exact⟨[],[],by simp, .inl ⟨rfl,p,rfl⟩,by simpa[B5,Ap]using DC.nil,by simp,by simp,by simp,by simp⟩
  ·cases E9;rw[List.nodup_cons]at T5;refine⟨_,N1,?_, .inr ⟨g9,cap,C,rfl,h7,h8,h6,by rw[<-B9];exact h9,rfl,by simp,T5.1⟩,by rw[<-B9];exact Gl,ER,by rw[<-B9];exact El,λb hb=>by simp[hb],T5.2⟩;have e9:C.toList.length=cap*i.size:=by rw[<-B9,<-h9];simp
   rw[Ax,e9];exact Nat.min_eq_left (Bf _ h7)
 have Hj:(xs.length+ys.length)*i.bytes<=140737488355328:=by
  rw[Fu]at LI;have h9:(((xs.length+ys.length)*i.bytes:Nat):Int)<=140737488355328:=by rw[Int.natCast_mul,Int.natCast_add];exact LI
  omega
 have GX:xs.length+ys.length<=140737488355328:=by omega
 rw[B9]at Dq;obtain⟨v',w',AI,AT⟩:=WW (P:=P) c.w tx o.type el i z Bm hi Fj Dr BF (λg9=>g9∈TT/\g9∉N1) v xs.length old hold E4 q ys.length r news Dq (by simp only[maxLen];omega) Hj;have CP:(execOp a.eval o).run P c.w= .ok (.value v') w':=by simp[execOp,ho,resolve,Ar,Ah,Fl,invoke,builtin,hv,CQ,AI]
 rcases AT with⟨rfl,rfl,Dy⟩|⟨g9,cap,C,rfl,h1,h2,h3,h4,h5,h6,h7⟩
 ·have G3:ys=[]:=List.eq_nil_of_length_eq_zero Dy;subst G3;refine⟨_,_,TT,CP,Mod.refl _ _,T5,λb hb=>⟨.inl hb,Kc b hb⟩,?_⟩;rw[AB];exact A6
 ·have Ho:(g9∈TT\/c.w.heap.size<=g9)/\g9∉N1/\g9∉N2:=by
   rcases h7 with⟨rfl,_⟩|⟨hg,Cf⟩
   ·refine⟨.inr (Av _),λhh=> ?_,λhh=> ?_⟩
    ·have:=Kc _ (Ju _ hh);omega
    ·have:=Iz _ hh;omega
   ·exact⟨.inl hg,Cf,λhh=>QV _ hh hg⟩
  have A4:∀b∈N1++N2,w'.heap[b]?=c.w.heap[b]?:=λb hb=>by
   have AL:b<c.w.heap.size:=by
    rcases Af.1 hb with hb|hb
    ·exact Kc b (Ju b hb)
    ·exact Iz b hb
   refine h6.block b AL λhh=> ?_;cases hh;rcases Af.1 hb with hb|hb
   ·exact Ho.2.1 hb
   ·exact Ho.2.2 hb
  refine⟨_,w',g9::(N1++N2),CP,cH h6 λg hg=> ?_,?_,λb hb=> ?_,?_⟩
  ·cases hg;exact Ho.1
  ·refine List.nodup_cons.2 ⟨λhh=> ?_,List.nodup_append.2 ⟨MC,MD,λp hp q hq e=>QV q hq (e▸Ju p hp)⟩⟩;rcases Af.1 hh with hh|hh
   ·exact Ho.2.1 hh
   ·exact Ho.2.2 hh
  ·rcases Ad.1 hb with rfl|hb
   ·exact⟨Ho.1.elim .inl λh=> .inr (.inr h),De h3⟩
   ·rcases Af.1 hb with hb|hb
    ·exact⟨.inl (Ju b hb),Nat.lt_of_lt_of_le (Kc b (Ju b hb)) h6.size⟩
    ·exact⟨.inr (.inl hb),Nat.lt_of_lt_of_le (Iz b hb) h6.size⟩
  ·have hlen:(xs++ys).length=xs.length+ys.length:=AE;rw[B9]at d1 d2 F8 H9 ⊢;have:=DC.row (w:=w') (e:=el) (z:=i.size) (l:=AH.of l) (g:=g9) (cap:=cap) (C:=C) (ys:=xs++ys) (N1:=N1++N2) (ts:=[]) (vs:=[]) (xs:=[]) (N:=[]) d1 (by rw[AH.ar];exact d2) h3 (by rw[hlen];exact h1) h2 h4 (λw hw=> ?_) (by
     rw[hlen,h5];intro u hu;rcases Af.1 hu with hu|hu
     ·exact Cw u hu
     ·exact M7 u hu) (by
     rw[hlen,h5,SM,WH,AH.ar];exact(X6.app MO).frame A4) .nil
   ·rw[hlen]at this;simpa using this
   ·rcases Af.1 hw with hw|hw
    ·exact F8 w hw
    ·exact H9 w hw
theorem zp1(h:Bk P c n nx sl hp a sl0 hp0 o gs){x y:Operand}{tx ty:TypeId}{cl:Call}(ho:o.op= .call cl)(Ar:cl.callee= .builtin .append)(CC:cl.args.toList=[x,y])(Dx:cl.argTypes.toList=[tx,ty])
  {s1 s2:SV} (BE:By sl0 gs x=some s1) (A1:By sl0 gs y=some s2) (he:WD P hp0 gs nx tx ty s1 s2=some e) (hc:∀q∈e.bu,Cn.den c.ρ q):Aw P o c n nx sl hp gs a e:=by
 have Ah:cl.args= #[x,y]:=by apply Array.ext';simp[CC]
 have DK:x∈o.op.operands:=by simp[ho,Op.operands,Call.operands,Ar,Ah]
 have Dn:y∈o.op.operands:=by simp[ho,Op.operands,Call.operands,Ar,Ah]
 unfold WD at he;split at he
 ·cases he
 rename_i I2;have I2:tx=ty:=by simpa using I2
 subst I2;split at he
 ·rename_i el e' z dl t g2 b g lo z' Bm Dl;have IG:=Ig Bm;split at he
  ·cases he
  rename_i As;simp only[not_or,Br,Bool.not_eq_false,ne_eq,Decidable.not_not]at As;obtain⟨hz,rfl,rfl,rfl,Uk⟩:=As;obtain⟨_,_,l,IQ,DJ⟩:=Tf Bm Dl;simp only[DT.row.injEq,true_and]at IQ;subst IQ;rw[AH.ar]at he;have r1:=h.cj BE DK;have r2:=h.cj A1 Dn;split at he
  ·rename_i e2 z2 l2 g2' ep2 c2 e3 z3 l3 g3 ep c0 AL u3;split at he
   ·rename_i hh;obtain⟨rfl,rfl,GX,rfl,rfl,rfl,MJ,rfl⟩:=hh;have GX:=AH.ei GX;have MJ:=AH.ei MJ;subst GX;subst MJ;simp only[Ac]at he;subst he;obtain⟨qt1,qt2,qt3,qt4,qt5⟩:=h.eh t _ (Cu AL h.gs);obtain⟨qb1,qb2,qb3,qb4,qb5⟩:=h.eh b _ (Cu u3 h.gs);obtain⟨ka,ai,kb,bi,mm,d1,d2,d3,d4,d5,d6⟩:Cn.den c.ρ (.win c0 lo (.len c0)):=hc _ (by simp);obtain⟨m1,m2,rr1,rr2,rr3,rr4⟩:Cn.den c.ρ (.room c2 (.win c0 lo (.len c0)) (P.bytesOf e3)):=hc _ (by simp);generalize wG:a.eval x=v at r1;generalize wH:a.eval y=v2 at r2;cases r1 with
    |own k1 k2 k3=>
     cases r2 with
     | @wown _ _ _ _ qq nn cap qq' r kk kI _ _ j1 j2 j3 j4 j5 j6 j7=>
      have vY:(c.G t).top.Nodup:=by have:=h.rel.gw.nodup t;simp only[GI.own]at this;exact(List.nodup_append.1 this).1
      have XS:(c.G b).top.Nodup:=by have:=h.rel.gw.nodup b;simp only[GI.own]at this;exact(List.nodup_append.1 this).1
      have YX:∀q∈(c.G t).top,q<c.w.heap.size:=λq hq=>h.rel.gw.inb t q (by simp[GI.own,hq]);have Kh:∀q∈(c.G b).top,q<c.w.heap.size:=λq hq=>h.rel.gw.inb b q (by simp[GI.own,hq]);have Ll:∀q∈(c.G b).top,q∉(c.G t).top:=λq hq Ku=>h.rel.gw.cd b t (λe=>Uk e.symm) q (by simp[GI.own,hq]) (by simp[GI.own,Ku]);obtain⟨z1,z2',AX⟩:=qb4.inv;rw[AH.ar]at z2' AX;obtain⟨an,rfl⟩:=Int.eq_ofNat_of_zero_le j4;obtain⟨ys,news,NB,CY,R1,Dq,MO,H9,M7,T3,topb,E7,ME,YM⟩:∃(ys:List AV) (news:List Value) (NB:List Nat),(E.win c0 lo (.len c0)).den c.ρ= .sl ys/\ys.length=nn-an/\Src c.w (P.cellsOf e3) qq' ys.length news/\DC c.w (B5 ys.length l3) news (Ap ys) NB/\(∀y∈ys,y.cells.length=P.cellsOf e3)/\(∀u∈news,u.oneCell'=true)/\(∀q∈NB,q∈(c.G b).top)/\
        ∃topb:List Nat,(∀q∈topb,q∈(c.G b).top)/\(topb++NB).Nodup/\ ∀w':World,(∀q∈topb,w'.heap[q]?=c.w.heap[q]?)-> ∃(p:Option Addr) (cp:Nat) (zs:List AV),c.H b g= .slice p zs.length cp/\c0.den c.ρ= .sl zs/\an<=zs.length/\zs.length<=cp/\DC w' [.row e3 (P.cellsOf e3) (AH.of l3)] [.slice p an cp] [.sl (zs.take an)] topb:=by
       rcases AX with⟨a9,hH,E9,LP⟩|⟨g9,cp,C,zs,N1,hH,E9,LP,h6,h7,h8,h9,ER,El,Gl⟩
       ·rw[j2]at hH;simp only[Value.slice.injEq]at hH;obtain⟨rfl,rfl,rfl⟩:=hH;have uB:an=0:=by omega
        subst uB;have LU:(E.win c0 lo (.len c0)).den c.ρ= .sl []:=by simp only[E.den,E9,j3,AV.win,AV.len];simp
        refine⟨[],[],[],LU,by simp,?_,by simpa[B5,Ap]using DC.nil,by simp,by simp,by simp,[],by simp,by simp,λw' _=>⟨qq,0,[],by rw[j2];rfl,E9,by simp,by simp, .void z1 (by rw[AH.ar];exact z2') .nil⟩⟩;cases qq' with
        |none=>exact .inl ⟨rfl,rfl,rfl⟩
        |some ad=>exact .inr ⟨ad,rfl,by simp,by simp,by simp⟩
       ·rw[j2]at hH;simp only[Value.slice.injEq]at hH;obtain⟨rfl,rfl,rfl⟩:=hH;have hle:an<=zs.length:=by omega
        obtain⟨NA,NB,hN,c1,c2'⟩:=Gl.l8 z2' ER hle;have hmul:=Bf (P.cellsOf e3) hle;have Et:=Bf (P.cellsOf e3) h7;have Dw:C.toList.length=cap*P.cellsOf e3:=by simpa using h9
        have LU:(E.win c0 lo (.len c0)).den c.ρ= .sl (zs.drop an):=by simp only[E.den,E9,j3,AV.win,AV.len];simp
        have MN:(zs.drop an).length=zs.length-an:=BU;rw[LP]at XS;rw[hN]at XS;refine⟨zs.drop an,(C.toList.take (zs.length*P.cellsOf e3)).drop (an*P.cellsOf e3),NB,LU,MN,?_,by rw[MN];exact c2',λy hy=>ER y (B1 hy),λu hu=>El u (B1 hu),λq hq=>by rw[LP,hN];simp[hq],g9::NA,λq hq=>by rw[LP,hN];rcases Ad.1 hq with rfl|hq<;>simp_all,by simpa using XS,λw' iL=>⟨some ⟨g9,0,none⟩,cap,zs,by rw[j2],E9,hle,h7,?_⟩⟩
        ·rw[MN];by_cases AL:an<zs.length
         ·obtain⟨b9,OA,Ku,_⟩:=j6 (by omega);cases OA;subst Ku;refine .inr ⟨_,rfl,?_,λj u hj=> ?_,λu hu=>El u (B1 hu)⟩
          ·rw[BU,Ax,Dw,Nat.min_eq_left Et,Nat.sub_mul]
          ·rw[Addr.add_lit,Ef h6];rw[List.getElem?_drop,List.getElem?_take]at hj;split at hj
           ·rw[Array.getElem?_toList]at hj;simpa using hj
           ·cases hj
         ·have:zs.length-an=0:=by omega
          rw[this];have e0:(C.toList.take (zs.length*P.cellsOf e3)).drop (an*P.cellsOf e3)=[]:=by
           apply List.drop_eq_nil_of_le;rw[Ax];have:zs.length=an:=by omega
           rw[this];omega
          rw[e0];cases qq' with
          |none=>exact .inl ⟨rfl,rfl,rfl⟩
          |some ad=>exact .inr ⟨ad,rfl,by simp,by simp,by simp⟩
        ·have IN:(zs.take an).length=an:=by rw[Ax];omega
         have e5:C.toList.take (an*P.cellsOf e3)=(C.toList.take (zs.length*P.cellsOf e3)).take (an*P.cellsOf e3):=by rw[List.take_take,Nat.min_eq_left hmul]
         have:=DC.row (w:=w') (e:=e3) (z:=P.cellsOf e3) (l:=AH.of l3) (g:=g9) (cap:=cap) (C:=C) (ys:=zs.take an) (N1:=NA) (ts:=[]) (vs:=[]) (xs:=[]) (N:=[]) z1 (by rw[AH.ar];exact z2') (by rw[iL g9 (by simp)];exact h6) (by rw[IN];omega) h8 h9 (λy hy=>ER y (Bw hy)) (by
           rw[IN,e5];intro u hu;exact El u (Bw hu)) (by
           rw[IN,e5,AH.ar];exact c1.frame λq hq=>iL q (by simp[hq])) .nil
         rw[IN]at this;simpa using this
      have XD:NB.Nodup:=(List.nodup_append.1 ME).2.1;obtain⟨xs,B3⟩:∃xs,c2.den c.ρ= .sl xs:=by
       obtain⟨_,_,⟨_,_,hh,_⟩|⟨_,_,_,zs,_,_,hh,_⟩⟩:=qt4.inv
       ·exact⟨_,hh⟩
       ·exact⟨_,hh⟩
      have gY:(nn:Int)-(an:Int)=(ys.length:Int):=by omega
      rw[B3]at rr1;rw[CY]at rr2;simp only[AV.len,AV.int.injEq,true_and]at rr1 rr2;have CQ:a.eval y= .slice qq' ys.length r:=by rw[wH];congr 1;omega
      obtain⟨v',w',top,AI,BO,RU,Ez,Rb⟩:=zr8 (c:=c) (o:=o) (a:=a) ho Ar CC Dx IG hz DJ vY YX XD (λq hq=>Kh q (T3 q hq)) (λq hq=>Ll q (T3 q hq)) CQ Dq MO H9 M7 wG (by rw[<-k2];exact qt4) B3 (by rw[rr1,rr2];exact rr3) (by rw[rr1,rr2];exact rr4);have Ke:(E.app c2 (.win c0 lo (.len c0))).den c.ρ= .sl (xs++ys):=by have:(E.app c2 (.win c0 lo (.len c0))).den c.ρ=AV.app (c2.den c.ρ) ((E.win c0 lo (.len c0)).den c.ρ):=rfl;rw[this,B3,CY];rfl
      have gM:=h.rel.bd _ _ qt1;have XN:=h.rel.bd _ _ qb1;have Oz:=L9 h;have D2:nx≠t:=λe=>Oz (e▸gM);have Ht:nx≠b:=λe=>Oz (e▸XN);obtain⟨recs,AY⟩:∃recs:List AN,recs=[⟨nx,some v',top, .deep e3 (P.cellsOf e3) l3 0 0 (.app c2 (.win c0 lo (.len c0)))⟩,⟨b,none,topb, .pre e3 (P.cellsOf e3) l3 g (ep+1) c0 lo⟩,⟨t,none,[], .dead⟩]:=⟨_,rfl⟩
      have CE:∀r∈recs,r=⟨nx,some v',top, .deep e3 (P.cellsOf e3) l3 0 0 (.app c2 (.win c0 lo (.len c0)))⟩\/r=⟨b,none,topb, .pre e3 (P.cellsOf e3) l3 g (ep+1) c0 lo⟩\/r=⟨t,none,[], .dead⟩:=λr hr=>by rw[AY]at hr;simpa using hr
      have hn:(recs.map AN.tag).Nodup:=by rw[AY];simp[D2,Ht];exact λe=>Uk e.symm
      have A0:∀r∈recs,r.new.isSome=true-> ¬c.U r.tag:=λr hr hs=>by
       rcases CE r hr with rfl|rfl|rfl
       ·exact Oz
       ·cases hs
       ·cases hs
      have aft:=Cx.da (w':=w') h.rel.bd hn A0;have Kq:(⟨nx,some v',top, .deep e3 (P.cellsOf e3) l3 0 0 (.app c2 (.win c0 lo (.len c0)))⟩:AN)∈recs:=by rw[AY];simp
      have M4:(⟨b,none,topb, .pre e3 (P.cellsOf e3) l3 g (ep+1) c0 lo⟩:AN)∈recs:=by rw[AY];simp
      have Ru:(⟨t,none,[], .dead⟩:AN)∈recs:=by rw[AY];simp
      have Nl:∀q∈topb,q∉NB:=λq hq Ku=>(List.nodup_append.1 ME).2.2 q hq q Ku rfl;obtain⟨q1,q2⟩:=h.rel.changes (recs:=recs) (gs:=[]) (hs:=(c.G t).top++(c.G b).top) (ED _) (BO.weaken λq hq=> .inl (by simp[hq])) hn A0 (λq hq=>by
        rcases Af.1 hq with hq|hq
        ·exact⟨_,Ru,hq⟩
        ·exact⟨_,M4,hq⟩)
       (by
        rw[AY];simp only[List.flatMap_cons,List.flatMap_nil,AB];refine List.nodup_append.2 ⟨RU,(List.nodup_append.1 ME).1,λp hp q hq e=> ?_⟩;subst e;rcases(Ez p hp).1 with hh|hh|hh
        ·exact Ll p (E7 p hq) hh
        ·exact Nl p hq hh
        ·have:=Kh p (E7 p hq);omega)
       (λr hr q hq=>by
        rcases CE r hr with rfl|rfl|rfl
        ·obtain⟨k1',k2'⟩:=Ez q hq;refine⟨?_,k2'⟩;rcases k1' with hh|hh|hh
         ·exact .inl (by simp[hh])
         ·exact .inl (by simp[T3 q hh])
         ·exact .inr hh
        ·exact⟨.inl (by simp[E7 q hq]),Nat.lt_of_lt_of_le (Kh q (E7 q hq)) BO.size⟩
        ·cases hq)
       (λr hr=>by rcases CE r hr with rfl|rfl|rfl<;>(intros;simp))
       (λhk r hr=>by
        rcases CE r hr with rfl|rfl|rfl
        ·obtain⟨k1',k2',k3'⟩:=aft.new _ Kq v' rfl;have kg:=aft.G _ Kq;have ke:=aft.ic _ Kq rfl;simp only at k1' k2' k3' kg ke;exact⟨k1',k2',ke,by rw[k3',kg,aft.w,aft.ρ,Ke];exact Rb,by rw[kg]⟩
        ·have kg:=aft.G _ M4;have ke:=aft.fm _ M4 rfl;obtain⟨k1',k2'⟩:=aft.K b g qb1;simp only at kg ke;obtain⟨p,cp,zs,f1,f2,f3,f4,f5⟩:=YM w' λq hq=>BO.block q (Kh q (E7 q hq)) (Ll q (E7 q hq));refine⟨k1',λg' Cf=>qb2 g' (aft.old b XN g' Cf),by rw[ke,qb3],⟨p,cp,zs,kk,an,by rw[k2'];exact f1,by rw[aft.ρ];exact f2,by rw[aft.ρ];exact j3,f3,f4,by rw[aft.w,kg];exact f5⟩,by rw[kg]⟩
        ·have kg:=aft.G _ Ru;exact⟨by rw[kg],by rw[kg]⟩)
      intro next Q hk
      unfold Oper.wp;rw[AI,Oper.upon_value];obtain⟨k1',k2',k3'⟩:=aft.new _ Kq v' rfl;simp only at k1' k3';obtain⟨p,m,r,rfl⟩:=Rb.head;have RG:(recs.map λr=>(r.tag,CB [] r.bc))=(nx, .deep e3 (P.cellsOf e3) l3 0 0 (.app c2 (.win c0 lo (.len c0))))::(b, .pre e3 (P.cellsOf e3) l3 g (ep+1) c0 lo)::D6 [t]:=by rw[AY];simp[CB,D6]
      rw[RG]at q1;refine hk _ (c.dd w' _) ⟨rfl,rfl,rfl,rfl,λu hu=> ?_⟩ (q1.put (SR.own k1' k3' .nil) o.dst);rcases hu with hu|⟨r,hr,rfl⟩
      ·exact .inl hu
      ·rcases CE r hr with rfl|rfl|rfl
       ·exact .inr ⟨Av _,by simp[BJ]⟩
       ·exact .inl XN
       ·exact .inl gM
   ·cases he
  ·cases he
 ·cases he
end
section
variable {P:Program} {c:Cx} {n nx:Nat} {sl sl0:Nat->SV} {hp hp0:Nat->Option Ae} {a:Act} {o:Oper} {gs:Gd} {e:A3} {sg:BN} {nv:Nat}
theorem eK{w:World}:∀(vs:List Value) {xs:List AV} {f:List Nat} (ts:List TypeId),Rd w vs xs f->ts.length<=vs.length->Dt P w ts [] [] vs xs f [] []
 | [],xs,f,ts,h,hl=>by have:ts=[]:=List.eq_nil_of_length_eq_zero (by simpa using hl);subst this;cases h;exact .nil
 |v::vs,[],f,ts,h,hl=>by have:=h.len;simp at this
 |v::vs,x::xs,f,ts,h,hl=>by
  obtain⟨f1,f2,rfl,h1,h2⟩:=h.br;cases ts with
  |nil=>exact .free h1 (eK vs [] h2 (by simp))
  |cons t ts=>exact Dt.cons (h:=[]) ⟨h1,rfl⟩ (eK vs ts h2 (by simpa using hl))
theorem zyz(l:EL):EL.of (P5.go l)=l:=by
 induction l using EL.rec (motive_1:=λ_=>True)with
 |nil=>rfl
 |cons e es _ ih=>simp[P5.go,EL.of,ih]
 |_=>trivial
theorem zwT{w:World}{ts:List TypeId}{vs:List Value}{Bs:List AV}{f o:List Nat}(h:Dg P w ts [] vs Bs f o):Bs=[]:=by
 have key:∀(ts:List TypeId),Bl ts []=false:=by
  intro ts
  induction ts with
  |nil=>rfl
  |cons t ts ih=>simp only[Bl,List.headD_nil,Bool.false_or,List.tail_nil];exact ih
 exact(aY h).2 (key ts)
theorem zvq(t:TypeId):FW P t []=false:=by simp[FW]
theorem kV(h:Bk P c n nx sl hp a sl0 hp0 o gs){cl:Call}{fo:Operand}(ho:o.op= .call cl)(Ar:cl.callee= .value fo){y:E}{sf:SV}(hf:By sl0 gs fo=some sf)(vV:∀v,SR c [sf] [v]-> ∃f,Rd c.w [v] [y.den c.ρ] f){as_:List SV}(has:cl.args.toList.mapM (By sl0 gs)=some as_){t:TypeId}
  (he:P5 P hp0 gs nv t y as_=some e) (Bb:∀c',e.call=some c'-> ∃r,c.ρ[nv]?=some r/\HH (Cg P sg) c'.fn ((EL.of c'.args).den c.ρ) c.ρ r):Aw P o c n nx sl hp gs a e:=by
 have Yz:fo∈o.op.operands:=by simp[ho,Op.operands,Call.operands,Ar]
 have Yy:∀x∈cl.args.toList,x∈o.op.operands:=λx hx=>by
  have:x∈cl.args:=by simpa using hx
  simp[ho,Op.operands,Call.operands,Ar,this]
 have LL:=h.cj hf Yz;have Ah:=oP (a:=a) (λx hx s hs=>h.cj hs (Yy x hx)) has;unfold P5 at he;split at he
 ·cases he
 split at he
 ·cases he
 rename_i es Hm;simp only[Ac]at he;subst he;obtain⟨r,hr,g,caps,hy,IZ,DL⟩:=Bb _ rfl;rw[zyz]at IZ;obtain⟨f1,p1,p2⟩:=P0 h.eh h.gs AZ Hm Ah AZ (Av _);generalize Ye:a.eval fo=fv at LL;obtain⟨_,k1⟩:=vV _ LL;obtain⟨capv,f2,rfl,X3⟩:∃capv f2,fv= .func (.func g) #[] capv.toArray/\Rd c.w capv caps f2:=by
  rw[hy]at k1;cases k1 with
  |fn q1 _=>exact⟨_,_,rfl,q1⟩
 have Nj:QL P {bj:=[],res:=[]} g (es.den c.ρ++caps) r:=by unfold Cg at IZ;rw[if_neg (by omega)]at IZ;simpa using IZ
 obtain⟨fn,Hn,DP,FK,_,hlen,_,Fi⟩:=Nj;have Db:=p1.app X3;have D4:=Db.len;have Bb:=Fi c.w _ _ [] [] (eK _ (fn.params.toList++ []) Db (by rw[D4,hlen,AB,BG];omega)) (by simp) (by simp) (by simp) (h.rel.lz (by simp));have ex:(execOp a.eval o).run P c.w= .ok (.enter g (cl.args.map a.eval++capv.toArray)) c.w:=by
  have hb:fn.body.isNone=false:=by simpa using DP
  simp only[execOp,ho,resolve,Ar,Ye,Deferred.ofValue,Sem.run_bind,Sem.run_pure,Result.andThen_ok,invoke,callFunc,run_program,Hn];simp[FK,hb]
 intro next Q hk
 unfold Oper.wp;rw[ex,Oper.upon_enter];have MI:cl.args.map a.eval++capv.toArray=((cl.args.toList.map a.eval)++capv).toArray:=by apply Array.ext';simp
 rw[MI];refine Bb.mono ?_;rintro e' w' ⟨v,rfl,⟨R,Bs,f1',o1,f2',o2,Kv,AT,EY,Gw,RE,Rg⟩,BO⟩;show next (a.put o.dst v) w'
 have Hh:=zwT EY;subst Hh;simp only at Kv;subst Kv;have hv:Rd w' [v] [r] []:=by
  unfold Jq at AT;split at AT
  ·rename_i t' ht;unfold Eb at AT;rw[if_neg (by rw[zvq];simp)]at AT;have:=kP AT.1 DL;subst this;exact AT.1
  ·obtain⟨vs,ys,_,rfl,_⟩:=AT;have:=DL (.tup ys) (by simp[AV.cells]);simp[AV.scalar]at this
 obtain⟨E2,_⟩:=h.rel.changes (w':=w') (recs:=[]) (hs:=[]) (gs:=gs) h.gs BO (by simp) (by simp) (by simp) (by simp) (by simp) (by simp) (by simp);refine hk _ (c.dd w' []) ⟨rfl,rfl,rfl,rfl,λt ht=> ?_⟩ (E2.put (SR.mkGd (.e (f:=[]) ?_ (by simp) .nil) gs h.gs) o.dst)
 ·rcases ht with ht|⟨r,hr,_⟩
  ·exact .inl ht
  ·simp at hr
 ·show Rd w' [v] [(E.var nv).den c.ρ] [];simp only[E.den,hr,CR];exact hv
theorem fC(I0:∀f s,sg f=some s->f<1000000)(h:Bk P c n nx sl hp a sl0 hp0 o gs)(he:BL P sg sl0 hp0 nv nx gs o=some e)
  (hc:∀q∈e.bu,q.den c.ρ) (Bb:∀cl,e.call=some cl-> ∃r,c.ρ[nv]?=some r/\HH (Cg P sg) cl.fn ((EL.of cl.args).den c.ρ) c.ρ r) (CI:∀x,e.bm=some x->c.ρ[nv]?=some (.bool (JP a o))):Aw P o c n nx sl hp gs a e:=by
 have Kk:=he;cases AQ:o.op with
 |move x=>simp only[BL,AQ,An]at he;obtain⟨s,hs,rfl⟩:=he;exact oG h (.inl AQ) hs
 |assign x=>simp only[BL,AQ,An]at he;obtain⟨s,hs,rfl⟩:=he;exact oG h (.inr AQ) hs
 |pick x y z=>exact zuH h AQ he hc
 |alloc t=>exact ztN h AQ he hc
 |box t x=>exact zxm h AQ he hc
 |build t parts=>exact ztB h AQ he hc
 |buildSlice t m parts=>
  simp only[BL,AQ,Ao]at he;obtain⟨ps,LH,he⟩:=he;split at he
  ·exact znU h AQ LH he hc
  ·exact zW h AQ LH he hc
 |load t x=>exact zvz h AQ he hc
 |nilCheck x=>exact zph h AQ he hc
 |makeSlice t l m=>
  simp only[BL,AQ,Ao]at he;obtain⟨s1,BE,s2,A1,he⟩:=he;split at he
  ·exact zpX h AQ BE A1 he hc
  ·exact ztX h AQ BE A1 he hc
 |slice t x lo hi mx=>
  simp only[BL,AQ,Ao]at he;obtain⟨s,hs,l',Bz,h',H3,m',E1,he⟩:=he;split at he
  ·exact zrw h AQ hs Bz H3 E1 he hc
  split at he
  ·exact zp5 h AQ hs Bz H3 E1 he hc
  ·exact zsc h AQ hs Bz H3 E1 he hc
 |fieldAddr t x f=>exact znX h AQ he hc
 |field t x f=>exact zt7 h AQ he hc
 |extract x i=>exact zq2 h AQ he hc
 |store t x y=>
  simp only[BL,AQ,Ao]at he;obtain⟨p,hp',v,hv,he⟩:=he;cases p with
  |ca b k=>exact zpM h AQ hp' hv he hc
  |cf b g i sz k=>
   by_cases A6:∃e z g c d,CT hp0 gs b=some (.row e z g c d)
   ·exact zpi h AQ A6 hp' hv he hc
   ·exact zn9 h AQ A6 hp' hv he hc
  |_=>simp[Ma]at he
 |binOp op t x y ty=>
  cases hu:P.underlying t with
  |none=>simp only[BL,AQ,Ao]at he;obtain⟨_,_,_,_,he⟩:=he;simp[Qn,hu]at he
  |some d=>
   by_cases RP:∃fs,d= .struct fs
   ·obtain⟨fs,rfl⟩:=RP;exact zxd h AQ hu he hc
   ·have LF:∀fs,P.underlying t≠some (.struct fs):=λfs hh=>RP ⟨fs,by rw[hu]at hh;cases hh;rfl⟩;cases hq:e.bm with
    |none=>exact zwH h AQ LF he hq hc
    |some x'=>
     have FP:=CI x' hq;simp only[BL,AQ,Ao]at he;obtain⟨s1,BE,s2,A1,he⟩:=he;have r1:=h.cj BE (by simp[AQ,Op.operands]);have r2:=h.cj A1 (by simp[AQ,Op.operands]);unfold Qn at he;split at he
     ·rename_i el Fm;have CU:∀xq,Bp hp0 gs AZ s1=some xq->Cn.den c.ρ (.dfd (.len xq))-> ∃p q r,a.eval x= .slice p q r:=by
       intro xq I4 hd;obtain⟨f,q1,_⟩:=h.ji BE (by simp[AQ,Op.operands]) I4;have hd:(xq.den c.ρ).len≠ .undef:=hd;cases BA:xq.den c.ρ<;>simp only[BA,AV.len,ne_eq,not_true_eq_false]at hd;rename_i xs;have hl:(xq.den c.ρ).len= .int .i64 (xs.length:Int):=by rw[BA];rfl
       rcases PZ q1 hl with⟨p,q,hv,Dy⟩|⟨b,o',k,q,hv,Dy⟩
       ·exact⟨_,_,_,hv⟩
       ·exact⟨_,_,_,hv⟩
      split at he
      ·simp at he;subst he;cases hq
      ·simp at he;subst he;cases hq
      ·obtain⟨xq,I4,rfl⟩:=An.1 he;obtain⟨p,q,r,hv⟩:=CU xq I4 (hc _ (by simp));exact oS h AQ Fm hv r2 (.inl rfl) FP _
      ·obtain⟨xq,I4,rfl⟩:=An.1 he;obtain⟨p,q,r,hv⟩:=CU xq I4 (hc _ (by simp));exact oS h AQ Fm hv r2 (.inr rfl) FP _
      ·cases he
     ·split at he
      ·simp at he;subst he;cases hq
      ·cases he
     ·split at he
      ·simp at he;subst he;cases hq
      ·cases he
     ·split at he
      ·simp at he;subst he;cases hq
      ·cases he
     ·rename_i fs Fm;exact absurd Fm (LF fs)
     ·cases he
 |unOp u t x=>
  cases u with
  |not=>exact zxi h AQ he hc
  |neg=>exact zxp h AQ he hc
  |_=>simp[BL,AQ]at he
 |convert src dst x=>
  have Lp:=he;simp only[BL,AQ,Ao]at Lp;obtain⟨s,_,Lp⟩:=Lp;unfold Tl at Lp;split at Lp
  ·rename_i k0 k h1 h2;exact zqP h AQ h1 h2 he hc
  ·rename_i h1 h2;exact zqq h AQ h1 h2 he hc
  ·rename_i el h1 h2;exact zpu h AQ h1 h2 he hc
  ·cases Lp
 |makeFunc fr fst caps=>
  cases fr with
  |func f=>exact zpH h AQ he
  |_=>simp[BL,AQ]at he
 |indexAddr t x i=>refine zn4 h AQ (λhu=> ?_) he hc;simp only[BL,AQ,Ao]at he;obtain⟨_,_,_,_,he⟩:=he;simp[UD,hu]at he
 |index t x i=>
  refine zqO h AQ ?_ he hc;simp only[BL,AQ,Ao]at he;obtain⟨_,_,_,_,he⟩:=he;split at he
  ·rename_i I1;unfold UD at I1;split at I1
   ·assumption
   ·cases I1
  ·cases he
 |call cl=>
  simp only[BL,AQ]at he;cases Ar:cl.callee with
  |invoke r m=>rw[Ar]at he;simp at he
  |value f=>
   rw[Ar]at he;simp only[Ao]at he;obtain⟨s,hs,as_,has,he⟩:=he;cases s with
   |fn g caps=>
    have he:Tu P sg hp0 gs nv nx g (as_++caps.toList)=some e:=he;refine zvx h AQ Ar hs has ?_ he Bb;unfold Tu at he;split at he
    ·rename_i fn sg' Hn hh;exact I0 g sg' hh
    ·cases he
   |e y=>exact kV h AQ Ar hs (λv hv=>by cases hv with|e k1 _ _=>exact⟨_,k1⟩) has he Bb
   |lent i=>exact kV h AQ Ar hs (λv hv=>by
     cases hv with
     |lent g1 _=>obtain⟨f,p1,p2⟩:=h.rel.base.lo _ _ g1;exact⟨f,p1.frame λb hb=>h.rel.base.block b (p1.inb b hb) (p2 b hb)⟩) has he Bb
   |_=>simp at he
  |builtin b=>
   rw[Ar]at he;cases b with
   |len=>
    simp only at he;split at he
    ·rename_i x tx CC Dx;exact zwW h AQ Ar CC Dx Kk hc
    ·cases he
   |append=>
    simp only at he;split at he
    ·rename_i x y tx ty CC Dx;simp only[Ao]at he;obtain⟨s1,BE,s2,A1,he⟩:=he;split at he
     ·exact zp1 h AQ Ar CC Dx BE A1 he hc
     split at he
     ·exact znA h AQ Ar CC Dx BE A1 he hc
     ·exact zqf h AQ Ar CC Dx BE A1 he hc
    ·cases he
   |clear=>
    simp only at he;split at he
    ·rename_i x tx CC Dx;simp only[Ao]at he;obtain⟨s,hs,he⟩:=he;exact ztA h AQ Ar CC Dx hs he hc
    ·cases he
   |max=>
    simp only at he;split at he
    ·rename_i x y CC;simp only[Ao]at he;obtain⟨s1,BE,s2,A1,he⟩:=he;exact lL h AQ (.inl ⟨rfl,Ar⟩) CC BE A1 he hc
    ·cases he
   |min=>
    simp only at he;split at he
    ·rename_i x y CC;simp only[Ao]at he;obtain⟨s1,BE,s2,A1,he⟩:=he;exact lL h AQ (.inr ⟨rfl,Ar⟩) CC BE A1 he hc
    ·cases he
   |_=>simp at he
 |_=>simp[BL,AQ]at he
end
end
end Go.Proofs.YtndikjghnmhdmaaGreat

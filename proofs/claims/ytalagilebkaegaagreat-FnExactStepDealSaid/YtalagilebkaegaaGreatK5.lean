/- Parts of a proof, joined: WP, WQ, WR, WRa, WRb, WRc, WRd, WRe, WRf, WS. -/
import Derived.Test.YtalagilebkaegaaGreatK4
set_option linter.unusedVariables false
set_option linter.unusedSimpArgs false
namespace Go.Proofs.YtalagilebkaegaaGreat
open Go.RowKit
section
section
variable {P:Program} {c:Cx} {hp:Nat->Option Af} {gs:Gd}
theorem yN(hb:Qk c)(eh:EH c hp)(k:Bt c.ρ gs)(hU:∀t g,c.K t g->c.U t):∀(ss:List SV) {ts:List TypeId} {ms:List PM} {lo:List Bool} {es:List E} {bs:List PA} {us uz:List Nat} {vs:List Value},Un P hp gs ts ms lo ss=some (es,bs,us,uz)->SR c ss vs->ts.length<=ss.length->
  ∃rf lf hs,DN P c.w ts ms lo vs (es.map (E.den c.ρ)) rf lf hs/\(∀b∈rf,c.dw us b)/\(∀b∈lf,c.dw uz b\/b<c.w0.heap.size/\ ¬c.Mu b)/\hs=(DK bs).flatMap (λt=>(c.G t).top)/\Je P c ts ms vs bs/\(∀u∈DK bs,c.U u)/\(bs≠ []->gs=[])
 | [],ts,ms,lo,es,bs,us,uz,vs,h,hs,hl=>by simp[Un]at h;obtain⟨rfl,rfl,rfl,rfl⟩:=h;cases hs;have:ts=[]:=List.eq_nil_of_length_eq_zero (by simpa using hl);subst this;exact⟨[],[],[], .nil,by simp,by simp,by simp[DK], .nil,by simp[DK],by simp⟩
 |s::ss,ts,ms,lo,es,bs,us,uz,[],h,hs,hl=>by have:=hs.len;simp at this
 |s::ss,ts,ms,lo,es,bs,us,uz,v::vs,h,hs,hl=>by
  obtain⟨r1,r2⟩:=hs.cd;unfold Un at h;split at h
  ·cases h
  rename_i ys bs' us' uz' Dm;obtain⟨rf,lf,A4,q1,q2,qz,q3,q4,q5,q6⟩:=yN hb eh k hU ss Dm r2 (by simp at hl ⊢;omega);have see1:∀{a b:List Nat} {x:Nat},c.dw a x->c.dw (a++b) x:=λh=>h.mono λt ht=>by simp[ht]
  have see2:∀{a b:List Nat} {x:Nat},c.dw b x->c.dw (a++b) x:=λh=>h.mono λt ht=>by simp[ht]
  split at h
  ·rename_i hm;split at h
   ·rename_i B0;simp only[Ab,Bf]at B0;obtain⟨t,ts,rfl⟩:∃t ts',ts=t::ts':=by
     cases ts with
     |nil=>simp at B0
     |cons t ts=>exact⟨t,ts,rfl⟩
    split at h
    ·rename_i i;simp only[Ad,AX]at h;obtain⟨rfl,rfl,rfl,rfl⟩:=h;cases r1 with
     |lent g1 _=>obtain⟨f,p1,p2⟩:=hb.lo _ _ g1;have hw:Rd c.w [v] [(E.var i).den c.ρ] f:=p1.frame λb Cc=>hb.block b (p1.inb b Cc) (p2 b Cc);exact⟨rf,f++lf,A4, .lent B0.1 hm hw q1,q2,λb Cc=>(Ac.1 Cc).elim (λCc=> .inr ⟨p1.inb b Cc,p2 b Cc⟩) (qz b),q3, .ro hm q4,q5,q6⟩
    ·obtain⟨x,hx,hh⟩:=Ar.1 h;simp only[AX]at hh;obtain⟨rfl,rfl,rfl,rfl⟩:=hh;obtain⟨f,p1,p2⟩:=H6 eh k A5 hx r1 A5 (AI _);exact⟨rf,f++lf,A4, .lent B0.1 hm p1 q1,q2,λb Cc=>(Ac.1 Cc).elim (λCc=> .inl (see1 (p2 b Cc))) (λCc=>(qz b Cc).imp see2 id),q3, .ro hm q4,q5,q6⟩
   obtain⟨x,hx,hh⟩:=Ar.1 h;simp only[AX]at hh;obtain⟨rfl,rfl,rfl,rfl⟩:=hh;obtain⟨f,p1,p2⟩:=H6 eh k A5 hx r1 A5 (AI _);have hb:∀b∈f++rf,c.dw (B9 hp gs (A5+1) [s]++us') b:=λb hb=>by
    rcases Ac.1 hb with hb|hb
    ·exact see1 (p2 b hb)
    ·exact see2 (q2 b hb)
   cases ts with
   |nil=>exact⟨f++rf,lf,A4, .free p1 q1,hb,qz,q3, .ro hm q4,q5,q6⟩
   |cons t ts=>exact⟨f++rf,lf,[]++A4, .cons (by rw[hm];exact⟨p1,rfl⟩) q1,hb,qz,q3, .ro hm q4,q5,q6⟩
  ·rename_i own own' hm;split at h
   ·rename_i ty T Bm;split at h
    ·rename_i ty' g cs Ix;split at h
     ·cases h
     rename_i BF;have BF:ty'=ty:=by simpa using BF
     subst BF;split at h
     ·rename_i xs rs vs' Ck Fx;simp only[Ad,AX]at h;obtain⟨rfl,rfl,rfl,rfl⟩:=h;obtain⟨t,ts,rfl,El⟩:∃t ts',ts=t::ts'/\KA P t=some ty':=by
       cases ts with
       |nil=>simp at Bm
       |cons t ts=>exact⟨t,ts,rfl,by simpa using Bm⟩
      obtain⟨b,C,g1,g2,g3,g4,g5,g6,g7⟩:=eh T _ (CG Ix k);obtain⟨f,h8,p1,p2,p3,p4,p5⟩:=kV (P:=P) eh k hU (A8 P ty') Fx g7 Ck (AI _);have hv:v= .pointer (some ⟨b,0,none⟩):=by
       cases r1 with
       |ch k1 k2 _=>rw[g2]at k2;cases k2;rfl
      refine⟨f++rf,lf,(b::h8)++A4, .cons ?_ q1,λx hx=> ?_,qz,by simp[DK,p3,q3,g3], .bx hm El hv g1 (by rw[g2,hv]) p5 q4,λu hu=> ?_,λ_=>rfl⟩
      ·rw[hm];exact⟨ty',b,C,xs.den c.ρ,h8,El,hv,g5,g6,rfl,p1,rfl⟩
      ·rcases Ac.1 hx with hx|hx
       ·exact see1 (p2 x hx)
       ·exact see2 (q2 x hx)
      ·simp only[DK,List.cons_append,Ae,Ac]at hu;rcases hu with rfl|hu|hu
       ·exact hU _ _ g1
       ·exact p5 u hu
       ·exact q5 u hu
     ·cases h
    ·cases h
   ·cases h
  ·rename_i own hm;split at h
   ·rename_i t x Bm hx;split at h
    ·cases h
    rename_i AH;have AH:(H5 s).2=Ao P t:=by simpa using AH
    split at h
    ·rename_i rs vs' Fx;simp only[Ad,AX]at h;obtain⟨rfl,rfl,rfl,rfl⟩:=h;obtain⟨ts,rfl⟩:∃ts',ts=t::ts':=by
      cases ts with
      |nil=>simp at Bm
      |cons t' ts=>simp at Bm;exact⟨ts,by rw[Bm]⟩
     obtain⟨f,h8,p1,p2,p3,⟨vs9,p4,p5⟩,p6⟩:=vY (P:=P) eh k hU r1 hx AH Fx;refine⟨f++rf,lf,h8++A4, .cons (by rw[hm];exact p1) q1,λx hx=> ?_,qz,by simp[DK,p3,q3],by rw[AH];exact .mu hm p4 p5 q4,λu hu=> ?_,λ_=>rfl⟩
     ·rcases Ac.1 hx with hx|hx
      ·exact see1 (p2 x hx)
      ·exact see2 (q2 x hx)
     ·simp only[DK,Ac]at hu;exact hu.elim (p6 u) (q5 u)
    ·cases h
   ·cases h
  ·rename_i own hm;split at h
   ·rename_i t x Bm hx;split at h
    ·cases h
    rename_i AH;have AH:(H5 s).2=Ao P t:=by simpa using AH
    split at h
    ·rename_i rs vs' Fx;simp only[Ad,AX]at h;obtain⟨rfl,rfl,rfl,rfl⟩:=h;obtain⟨ts,rfl⟩:∃ts',ts=t::ts':=by
      cases ts with
      |nil=>simp at Bm
      |cons t' ts=>simp at Bm;exact⟨ts,by rw[Bm]⟩
     obtain⟨f,h8,p1,p2,p3,⟨vs9,p4,p5⟩,p6⟩:=vY (P:=P) eh k hU r1 hx AH Fx;refine⟨f++rf,lf,h8++A4, .cons (by rw[hm];exact p1) q1,λx hx=> ?_,qz,by simp[DK,p3,q3], .va hm p6 q4,λu hu=> ?_,λ_=>rfl⟩
     ·rcases Ac.1 hx with hx|hx
      ·exact see1 (p2 x hx)
      ·exact see2 (q2 x hx)
     ·simp only[DK,Ac]at hu;exact hu.elim (p6 u) (q5 u)
    ·cases h
   ·cases h
end
inductive Fq(P:Program)(w:World):List TypeId->List Bool->List Value->List AV->List Nat->List Nat->Prop where
 |nil {fl}:Fq P w [] fl [] [] [] []
 |own {t ts fl el u us y ys top N f o}:fl.headD false=true->CR P t=some el->(Ca P el=true/\N=[]\/Ca P el=false/\DB P t=none)->CZ w el (P.cellsOf el) u y top N->Fq P w ts fl.tail us ys f o->Fq P w (t::ts) fl (u::us) (y::ys) (N++f) (top++o)
 |deep {t ts fl el e z l u us y ys top f o}:fl.headD false=true->CR P t=some el->Ca P el=false->DB P t=some (.row e z l)->DC w [.row e z l] [u] [y] top->Fq P w ts fl.tail us ys f o->Fq P w (t::ts) fl (u::us) (y::ys) f (top++o)
 |skip {t ts fl u us y ys f o}:(fl.headD false=true->CR P t=none)->Fq P w ts fl.tail us ys f o->Fq P w (t::ts) fl (u::us) (y::ys) f o
inductive DL(P:Program)(w:World):List TypeId->List PM->List Value->List AV->List Nat->List Nat->Prop where
 |nil {ms vs}:DL P w [] ms vs [] [] []
 |ro {t ts ms v vs bs f o}:ms.headD .ro= .ro->DL P w ts ms.tail vs bs f o->DL P w (t::ts) ms (v::vs) bs f o
 |va {t ts ms own v vs bs f o}:ms.headD .ro= .va own->DL P w ts ms.tail vs bs f o->DL P w (t::ts) ms (v::vs) bs f o
 |mu {t ts ms own v vs us ys y bs f1 f o1 o}:ms.headD .ro= .mu own->(if Ao P t then v= .agg us.toArray/\y= .agg ys else us=[v]/\ys=[y])->Fq P w (A8 P t) own us ys f1 o1->DL P w ts ms.tail vs bs f o->DL P w (t::ts) ms (v::vs) (y::bs) (f1++f) (o1++o)
 |bx {t ts ms own own' ty b C v vs ys y bs f1 o1 f o}:ms.headD .ro= .bx own own'->KA P t=some ty->v= .pointer (some ⟨b,0,none⟩)->w.heap[b]?=some (.cells C ty (0,0))->(∀u∈C.toList,u.oneCell'=true)->y= .agg ys->Cr P w (A8 P ty) own' C.toList ys f1 o1->
   DL P w ts ms.tail vs bs f o->DL P w (t::ts) ms (v::vs) (y::bs) (f1++f) (b::o1++o)
section
variable {P:Program} {c:Cx} {w':World}
theorem zwM{mk:Nat->E}{ts:List TypeId}{fl:List Bool}{us:List Value}{rs:List (Option RI)}(h:G2 P c ts fl us rs)(hU:∀t g,c.K t g->c.U t):∀{ys:List AV} {f o:List Nat} (j:Nat),Fq P w' ts fl us ys f o->(∀i y,ys[i]?=some y->(mk (j+i)).den c.ρ=y)->
  ∃recs:List AU,L9 mk j rs=recs.map AU.pair/\(recs.flatMap AU.top).Sublist o/\(∀r∈recs,r.new=none/\c.U r.tag/\ ∀hs f,r.bj≠ .gd hs f)/\recs.map AU.tag=CL rs/\ ∀c',Ff c c' w' recs->(∀b∈f,c'.ok b)-> ∀r∈recs,Du c' r.tag r.bj:=by
 induction h with
 |nil=>intro ys f o j hm _;cases hm;exact⟨[],rfl,by simp,by simp,rfl,by simp⟩
 | @row t ts fl v vs u g el rs h1 h2 Mj h3 h4 h5 _ ih=>
  intro ys f o j hm Ge;cases hm with
  |skip hh _=>rw[hh h1]at h2;cases h2
  |deep _ k2 k21 k22 _ _=>
   rw[h2]at k2;cases k2;rcases Mj with hh|hh
   ·rw[hh]at k21;cases k21
   ·rw[hh]at k22;cases k22
  | @own _ _ _ el' _ _ y ys top N f o k1 k2 k23 k3 k4=>
   rw[h2]at k2;cases k2;obtain⟨recs,e1,e2,e3,e4,e5⟩:=ih (j+1) k4 (λi y hy=>by rw[show j+1+i=j+(i+1)from by omega];exact Ge (i+1) y (by simpa using hy));have hy:=Ge 0 y rfl;refine⟨⟨u,none,top, .row el (P.cellsOf el) g (mk j) (Ca P el)⟩::recs,by simp[L9,e1,AU.pair],by simpa using(List.Sublist.refl top).append e2,λr hr=> ?_,by simp[CL,RI.tag,e4],λc' ha AZ r hr=> ?_⟩
   ·rcases Ae.1 hr with rfl|hr
    ·exact⟨rfl,hU _ _ h3,by simp⟩
    ·exact e3 r hr
   ·rcases Ae.1 hr with rfl|hr
    ·obtain⟨a1,a2⟩:=ha.K u g h3;have kg:=ha.G _ (List.mem_cons_self ..);simp only at kg;refine⟨a1,λg' Ct=>h5 g' (ha.old u (hU _ _ h3) g' Ct),N,?_,λb hb=>AZ b (by simp[hb]),λhd=> ?_,λ_=>by rw[kg]⟩
     rotate_left
     ·rcases k23 with⟨_,h⟩|⟨h,_⟩
      ·subst h;exact⟨rfl,by rw[kg]⟩
      ·rw[h]at hd;cases hd
     have BN:(mk j).den c.ρ=y:=by simpa using hy
     rw[a2,h4,kg,ha.w,ha.ρ,BN];exact k3
    ·exact e5 c' (ha.mono λr hr=>by simp[hr]) (λb hb=>AZ b (by simp[hb])) r hr
 | @deep t ts fl v vs u g el e z l ep rs h1 h2 S0 PW h3 h4 h5 h6 _ ih=>
  intro ys f o j hm Ge;cases hm with
  |skip hh _=>rw[hh h1]at h2;cases h2
  |own _ k2 k23 _ _=>
   rw[h2]at k2;cases k2;rcases k23 with⟨hh,_⟩|⟨_,hh⟩
   ·rw[hh]at S0;cases S0
   ·rw[hh]at PW;cases PW
  | @deep _ _ _ el' e' z' l' _ _ y ys top f o k1 k2 k21 k22 k3 k4=>
   rw[PW]at k22;cases k22;obtain⟨recs,e1,e2,e3,e4,e5⟩:=ih (j+1) k4 (λi y hy=>by rw[show j+1+i=j+(i+1)from by omega];exact Ge (i+1) y (by simpa using hy));have hy:=Ge 0 y rfl;refine⟨⟨u,none,top, .deep e z l g (ep+1) (mk j)⟩::recs,by simp[L9,e1,AU.pair],by simpa using(List.Sublist.refl top).append e2,λr hr=> ?_,by simp[CL,RI.tag,e4],λc' ha AZ r hr=> ?_⟩
   ·rcases Ae.1 hr with rfl|hr
    ·exact⟨rfl,hU _ _ h3,by simp⟩
    ·exact e3 r hr
   ·rcases Ae.1 hr with rfl|hr
    ·obtain⟨a1,a2⟩:=ha.K u g h3;have kg:=ha.G _ (List.mem_cons_self ..);have ke:=ha.fw _ (List.mem_cons_self ..) rfl;simp only at kg ke;refine⟨a1,λg' Ct=>h5 g' (ha.old u (hU _ _ h3) g' Ct),by rw[ke,h6],?_,by rw[kg]⟩;have BN:(mk j).den c.ρ=y:=by simpa using hy
     rw[a2,h4,kg,ha.w,ha.ρ,BN];exact k3
    ·exact e5 c' (ha.mono λr hr=>by simp[hr]) (λb hb=>AZ b (by simp[hb])) r hr
 | @none t ts fl v vs rs _ _ ih=>
  intro ys f o j hm Ge;have go:∀{y:AV} {ys':List AV} {f' o':List Nat},ys=y::ys'->Fq P w' ts fl.tail vs ys' f' o'->(∀b∈f',b∈f)->o'.Sublist o-> ∃recs:List AU,L9 mk j (none::rs)=recs.map AU.pair/\(recs.flatMap AU.top).Sublist o/\(∀r∈recs,r.new=none/\c.U r.tag/\ ∀hs f,r.bj≠ .gd hs f)/\recs.map AU.tag=CL (none::rs)/\ ∀c',Ff c c' w' recs->(∀b∈f,c'.ok b)-> ∀r∈recs,Du c' r.tag r.bj:=by rintro y ys' f' o' rfl CW hf hs;obtain⟨recs,e1,e2,e3,e4,e5⟩:=ih (j+1) CW (λi y hy=>by rw[show j+1+i=j+(i+1)from by omega];exact Ge (i+1) y (by simpa using hy));exact⟨recs,by simp[L9,e1],e2.trans hs,e3,by simp[CL]at e4 ⊢;exact e4,λc' ha AZ=>e5 c' ha λb hb=>AZ b (hf b hb)⟩
  cases hm with
  |skip _ h8=>exact go rfl h8 (λ_ h=>h) (List.Sublist.refl _)
  |own _ _ _ _ h8=>exact go rfl h8 (λb hb=>by simp[hb]) (List.sublist_append_right _ _)
  |deep _ _ _ _ _ h8=>exact go rfl h8 (λ_ h=>h) (List.sublist_append_right _ _)
theorem xA(us:List Nat)(hU:∀u∈us,c.U u):∃recs:List AU,Et us=recs.map AU.pair/\recs.flatMap AU.top=[]/\(∀r∈recs,r.new=none/\c.U r.tag/\ ∀hs f,r.bj≠ .gd hs f)/\recs.map AU.tag=us/\ ∀c',Ff c c' w' recs-> ∀r∈recs,Du c' r.tag r.bj:=by
 induction us with
 |nil=>exact⟨[],rfl,rfl,by simp,rfl,by simp⟩
 |cons u us ih=>
  obtain⟨recs,e1,e2,e3,e4,e5⟩:=ih λu hu=>hU u (by simp[hu]);refine⟨⟨u,none,[], .dead⟩::recs,by simp only[Et]at e1;simp[Et,e1,AU.pair],by simp[e2],λr hr=> ?_,by simp[e4],λc' ha r hr=> ?_⟩
  ·rcases Ae.1 hr with rfl|hr
   ·exact⟨rfl,hU _ (by simp),by simp⟩
   ·exact e3 r hr
  ·rcases Ae.1 hr with rfl|hr
   ·have kg:=ha.G _ (List.mem_cons_self ..);simp only at kg;exact⟨by rw[kg],by rw[kg]⟩
   ·exact e5 c' (ha.mono λr hr=>by simp[hr]) r hr
structure Jl(c:Cx)(w':World)(nx m:Nat)(l:List (Nat × Af))(hd o f:List Nat)(recs:List AU):Prop where
 ents:l=recs.map AU.pair
 ky:(recs.flatMap AU.top).Sublist o
 new:∀r∈recs,r.new.isSome=true->nx<=r.tag/\r.tag<nx+m
 old:∀r∈recs,r.new=none->r.tag∈hd/\c.U r.tag
 all:∀t∈hd,∃r∈recs,r.tag=t
 nodup:hd.Nodup->(∀t,nx<=t->t<nx+m-> ¬c.U t)->(recs.map AU.tag).Nodup
 ne:∀r∈recs,∀hs f,r.bj≠ .gd hs f
 ok:∀c',Ff c c' w' recs->(∀b∈f,c'.ok b)-> ∀r∈recs,Du c' r.tag r.bj
theorem Jl.app{nx m m':Nat}{l l':List (Nat × Af)}{hd Ld o o' f f':List Nat}{recs recs':List AU}(h:Jl c w' nx m l hd o f recs)(k:Jl c w' (nx+m) m' l' Ld o' f' recs'):Jl c w' nx (m+m') (l++l') (hd++Ld) (o++o') (f++f') (recs++recs'):=by
 refine⟨by rw[h.ents,k.ents,List.map_append],by rw[List.flatMap_append];exact h.ky.append k.ky,λr hr hn=> ?_,λr hr hn=> ?_,λt ht=> ?_,λhn hU=> ?_,λr hr=> ?_,λc' ha AZ r hr=> ?_⟩
 ·rcases Ac.1 hr with hr|hr
  ·have:=h.new r hr hn;omega
  ·have:=k.new r hr hn;omega
 ·rcases Ac.1 hr with hr|hr
  ·exact⟨by simp[(h.old r hr hn).1],(h.old r hr hn).2⟩
  ·exact⟨by simp[(k.old r hr hn).1],(k.old r hr hn).2⟩
 ·rcases Ac.1 ht with ht|ht
  ·obtain⟨r,hr,e⟩:=h.all t ht;exact⟨r,by simp[hr],e⟩
  ·obtain⟨r,hr,e⟩:=k.all t ht;exact⟨r,by simp[hr],e⟩
 ·rw[List.nodup_append]at hn;rw[List.map_append,List.nodup_append];refine⟨h.nodup hn.1 λt h1 h2=>hU t h1 (by omega),k.nodup hn.2.1 λt h1 h2=>hU t (by omega) (by omega),λt1 JR t2 Kw he=> ?_⟩;obtain⟨q1,P6,rfl⟩:=List.mem_map.1 JR;obtain⟨q2,I3,rfl⟩:=List.mem_map.1 Kw;cases n1:q1.new with
  |none=>
   obtain⟨a1,a2⟩:=h.old q1 P6 n1;cases n2:q2.new with
   |none=>exact hn.2.2 _ a1 _ (k.old q2 I3 n2).1 he
   |some v2=>have:=k.new q2 I3 (by simp[n2]);exact hU q2.tag (by omega) (by omega) (he▸a2)
  |some v1=>
   have:=h.new q1 P6 (by simp[n1]);cases n2:q2.new with
   |none=>exact hU q1.tag (by omega) (by omega) (he▸(k.old q2 I3 n2).2)
   |some v2=>have:=k.new q2 I3 (by simp[n2]);omega
 ·rcases Ac.1 hr with hr|hr
  ·exact h.ne r hr
  ·exact k.ne r hr
 ·rcases Ac.1 hr with hr|hr
  ·exact h.ok c' (ha.mono λr hr=>by simp[hr]) (λb hb=>AZ b (by simp[hb])) r hr
  ·exact k.ok c' (ha.mono λr hr=>by simp[hr]) (λb hb=>AZ b (by simp[hb])) r hr
theorem Jl.jg{nx:Nat}{l:List (Nat × Af)}{hd o f:List Nat}{recs:List AU}(e1:l=recs.map AU.pair)(e2:(recs.flatMap AU.top).Sublist o)(e3:∀r∈recs,r.new=none/\c.U r.tag/\ ∀hs f,r.bj≠ .gd hs f)(e4:recs.map AU.tag=hd)(e5:∀c',Ff c c' w' recs->(∀b∈f,c'.ok b)-> ∀r∈recs,Du c' r.tag r.bj):Jl c w' nx 0 l hd o f recs:=by
 refine⟨e1,e2,λr hr hn=> ?_,λr hr _=>⟨?_,(e3 r hr).2.1⟩,λt ht=> ?_,λhn _=>by rw[e4];exact hn,λr hr=>(e3 r hr).2.2,λc' ha AZ=>e5 c' ha AZ⟩
 ·rw[(e3 r hr).1]at hn;cases hn
 ·rw[<-e4];exact List.mem_map.2 ⟨r,hr,rfl⟩
 ·rw[<-e4]at ht;obtain⟨r,hr,e⟩:=List.mem_map.1 ht;exact⟨r,hr,e⟩
theorem zyK{ts:List TypeId}{ms:List PM}{vs:List Value}{bs:List PA}(h:Je P c ts ms vs bs)(hU:∀t g,c.K t g->c.U t){r:Nat}:∀{Bs:List AV} {f o:List Nat} (nx j:Nat),DL P w' ts ms vs Bs f o->(∀k y,Bs[k]?=some y->(E.proj (.var r) (j+k+1)).den c.ρ=y)->
  Bs.length=IQ bs/\ ∃recs,Jl c w' nx (KS P bs) (after P r nx bs j) (DK bs) o f recs:=by
 have nilS:∀nx,Jl c w' nx 0 [] [] [] [] []:=λnx=>⟨rfl,by simp,by simp,by simp,by simp,by simp,by simp,by simp⟩
 induction h with
 |nil=>intro Bs f o nx j hb _;cases hb;exact⟨rfl,[],by simpa[after,DK,KS]using nilS nx⟩
 | @ro ts ms v vs bs hm EV ih=>
  intro Bs f o nx j hb hB;cases hb with
  |nil=>exact ih nx j .nil hB
  |ro _ h8=>exact ih nx j h8 hB
  |va h9 _=>rw[hm]at h9;cases h9
  |mu h9 _ _ _=>rw[hm]at h9;cases h9
  |bx h9 _ _ _ _ _ _ _=>rw[hm]at h9;cases h9
 | @va ts ms own v vs bs us hm Lu EV ih=>
  intro Bs f o nx j hb hB;obtain⟨recs1,e1,e2,e3,e4,e5⟩:=xA (c:=c) (w':=w') us Lu;have s1:Jl c w' nx 0 (Et us) us [] [] recs1:= .jg e1 (by rw[e2];exact List.Sublist.refl _) e3 e4 λc' ha _=>e5 c' ha;cases hb with
  |nil=>obtain⟨h1,recs2,s2⟩:=ih nx j .nil hB;exact⟨by simpa[IQ]using h1,recs1++recs2,by simpa[after,DK,KS]using s1.app s2⟩
  |ro h9 _=>rw[hm]at h9;cases h9
  |va _ h8=>obtain⟨h1,recs2,s2⟩:=ih nx j h8 hB;exact⟨by simpa[IQ]using h1,recs1++recs2,by simpa[after,DK,KS]using s1.app s2⟩
  |mu h9 _ _ _=>rw[hm]at h9;cases h9
  |bx h9 _ _ _ _ _ _ _=>rw[hm]at h9;cases h9
 | @mu t ts ms own v vs bs us rs hm Lu Fx EV ih=>
  intro Bs f o nx j hb hB;cases hb with
  |ro h9 _=>rw[hm]at h9;cases h9
  |va h9 _=>rw[hm]at h9;cases h9
  |bx h9 _ _ _ _ _ _ _=>rw[hm]at h9;cases h9
  | @mu _ _ _ own2 _ _ us2 ys y Bs f1 f o1 o h9 hg TH h8=>
   rw[hm]at h9;cases h9;obtain⟨h1,recs2,s2⟩:=ih nx (j+1) h8 (λk y hy=>by rw[show j+1+k+1=j+(k+1)+1 from by omega];exact hB (k+1) y (by simpa using hy));have hy:=hB 0 y rfl;have OB:us2=us:=by
    split at Lu
    ·rename_i AH;rw[if_pos AH]at hg;obtain⟨rfl,_⟩:=hg;exact vJ Lu
    ·rename_i AH;rw[if_neg AH]at hg;rw[hg.1,Lu]
   subst OB;obtain⟨recs1,e1,e2,e3,e4,e5⟩:=zwM (w':=w') (mk:=DM (.proj (.var r) (j+1)) (Ao P t)) Fx hU 0 TH (by
    intro i z hz;split at hg
    ·rename_i AH;rw[AH];exact VA (by rw[<-hg.2];exact hy) i z hz
    ·rename_i AH;have G7:Ao P t=false:=by simpa using AH
     rw[hg.2]at hz;cases i with
     |zero=>simp at hz;subst hz;rw[G7];simpa[DM]using hy
     |succ i=>simp at hz)
   have s1:Jl c w' nx 0 _ (CL rs) o1 f1 recs1:= .jg e1 e2 e3 e4 e5;exact⟨by simp[IQ,h1],recs1++recs2,by simpa[after,DK,KS]using s1.app s2⟩
 | @bx t ts ms own own' ty v vs bs T b g olds hm El hv hK hH hol EV ih=>
  intro Bs f o nx j hb hB;cases hb with
  |ro h9 _=>rw[hm]at h9;cases h9
  |va h9 _=>rw[hm]at h9;cases h9
  |mu h9 _ _ _=>rw[hm]at h9;cases h9
  | @bx _ _ _ own2 own3 ty2 b2 C _ _ ys y Bs f1 o1 f o h9 JP De hh CK HX hc h8=>
   rw[hm]at h9;cases h9;rw[El]at JP;cases JP;have WC:b2=b:=by rw[hv]at De;cases De;rfl
   subst WC;obtain⟨h1,recs2,s2⟩:=ih (nx+(A8 P ty).length) (j+1) h8 (λk y hy=>by rw[show j+1+k+1=j+(k+1)+1 from by omega];exact hB (k+1) y (by simpa using hy));have hy:=hB 0 y rfl;obtain⟨recs0,d1,d2,d3,d4,d5⟩:=xA (c:=c) (w':=w') olds hol;have s0:Jl c w' nx 0 (Et olds) olds [] [] recs0:= .jg d1 (by rw[d2];exact List.Sublist.refl _) d3 d4 λc' ha _=>d5 c' ha;obtain⟨recs1,e1,e2,e3,e4,_,e5⟩:=RD (c:=c) (nx:=nx) (mk:=DM (.proj (.var r) (j+1)) true) hc 0 (VA (by rw[<-HX];exact hy));have pY:=hU _ _ hK;have s1:Jl c w' nx (A8 P ty).length ((T, .box ty g (C6 P nx (DM (.proj (.var r) (j+1)) true) 0 (A8 P ty) own').1)::(C6 P nx (DM (.proj (.var r) (j+1)) true) 0 (A8 P ty) own').2) [T] (b2::o1) f1 (⟨T,none,[b2], .box ty g (C6 P nx (DM (.proj (.var r) (j+1)) true) 0 (A8 P ty) own').1⟩::recs1):=by
    refine⟨by simp[e1,AU.pair],?_,λq hq hn=> ?_,λq hq hn=> ?_,by simp,λ_ A9=> ?_,λq hq=> ?_,λc' ha AZ q hq=> ?_⟩
    ·simp only[List.flatMap_cons,e2,List.singleton_append];exact List.Sublist.refl _
    ·rcases Ae.1 hq with rfl|hq
     ·cases hn
     ·have:=e3 q hq;omega
    ·rcases Ae.1 hq with rfl|hq
     ·exact⟨by simp,pY⟩
     ·have:=(e3 q hq).2.2;rw[hn]at this;cases this
    ·simp only[List.map_cons,List.nodup_cons];refine⟨λhm=> ?_,e4⟩;obtain⟨q,hq,hqt⟩:=List.mem_map.1 hm;have:=e3 q hq;exact A9 q.tag (by omega) (by omega) (hqt▸pY)
    ·rcases Ae.1 hq with rfl|hq
     ·simp
     ·intro hs f he;obtain⟨q1,q2⟩:=e3 q hq;have:(q.tag,q.bj)∈(C6 P nx (DM (.proj (.var r) (j+1)) true) 0 (A8 P ty) own').2:=by
       rw[e1];exact List.mem_map.2 ⟨q,hq,rfl⟩
      exact O8 _ _ _ _ _ this he
    ·obtain⟨p1,p2⟩:=e5 c' (ha.mono λr hr=>by simp[hr]) AZ;rcases Ae.1 hq with rfl|hq
     ·obtain⟨a1,a2⟩:=ha.K T 0 hK;have kg:=ha.G _ (List.mem_cons_self ..);simp only at kg;exact⟨b2,C,a1,by rw[a2,hH,hv],by rw[kg],by rw[kg],by rw[ha.w];exact hh,CK,p1⟩
     ·exact p2 q hq
   refine⟨by simp[IQ,h1],recs0++((⟨T,none,[b2], .box ty g (C6 P nx (DM (.proj (.var r) (j+1)) true) 0 (A8 P ty) own').1⟩::recs1)++recs2),?_⟩;have s3:=s0.app (s1.app s2);rw[Nat.zero_add]at s3;refine⟨by simpa[after]using s3.ents,s3.ky,s3.new,λq hq hn=> ?_,λt ht=> ?_,λhn A9=> ?_,s3.ne,s3.ok⟩
   ·have:=s3.old q hq hn;simp only[DK,List.cons_append,Ae,Ac,List.not_mem_nil,or_false,List.nil_append]at this ⊢;exact⟨by rcases this.1 with h|h|h;exact .inr (.inl h);exact .inl h;exact .inr (.inr h),this.2⟩
   ·refine s3.all t ?_;simp only[DK,List.cons_append,Ae,Ac,List.nil_append]at ht ⊢;rcases ht with h|h|h
    ·exact .inr (.inl h)
    ·exact .inl h
    ·exact .inr (.inr h)
   ·refine s3.nodup ?_ A9;simp only[DK,List.cons_append,List.nodup_cons,List.nodup_append,Ac,not_or,List.nil_append]at hn ⊢;obtain⟨⟨n1,n2⟩,n3,n4,n5⟩:=hn;refine⟨n3,⟨n2,n4⟩,λa ha b hb=> ?_⟩;rcases Ae.1 hb with rfl|hb
    ·rintro rfl;exact n1 ha
    ·exact n5 a ha b hb
end
def PE(P:Program):List TypeId->List Bool->List AV->Bool
 |t::ts,fl,y::ys=>((fl.headD false&&(CR P t).isSome)||CH P t||y.scalar)&&PE P ts fl.tail ys
 |_,_,_=>true
def W6(P:Program)(t:TypeId)(fl:List Bool)(x:AV):Bool:=if F4 P t fl then PE P (A8 P t) fl (if Ao P t then x.cells else [x])else CH P t||x.cells.all AV.scalar
def Wa(P:Program):List TypeId->List Bool->List AV->Bool
 |t::ts,fl,x::xs=>W6 P t fl x&&Wa P ts (fl.drop (A8 P t).length) xs
 |_,_,_=>true
def Uh(P:Program)(ts:List TypeId)(fl:List Bool)(R:AV):Bool:=match ts with
 | [t]=>W6 P t fl R
 |ts=>match R with
  | .tup ys=>Wa P ts fl ys
  |_=>true
def Ib(P:Program):List TypeId->List PM->List AV->Bool
 |t::ts,ms,bs=>(match ms.headD .ro with
  | .ro=>Ib P ts ms.tail bs
  | .va _=>Ib P ts ms.tail bs
  | .mu _=>Ib P ts ms.tail bs.tail
  | .bx _ own'=>(match KA P t,bs with
   |some ty,b::_=>PE P (A8 P ty) own' b.cells
   |_,_=>true)&&Ib P ts ms.tail bs.tail)
 | [],_,_=>true
def BJ:List TypeId->List PM->Bool
 |_::ts,ms=>(match ms.headD .ro with
  | .mu _=>true
  | .bx .. =>true
  |_=>false)||BJ ts ms.tail
 | [],_=>false
def Ns(P:Program)(fn:Func)(s:G6)(r:AV):Bool:=
 if BJ (fn.params.toList++s.ft) s.bz then(match r with
  | .tup (R::bs)=>Uh P (Dv fn s) s.res R&&Ib P (fn.params.toList++s.ft) s.bz bs
  |_=>false)
 else Uh P (Dv fn s) s.res r
def KB(P:Program)(w:World)(ts:List TypeId)(fl:List Bool)(v:Value)(R:AV)(f o:List Nat):Prop:=match ts with
 | [t]=>D6 P w t fl v R f o
 |ts=> ∃vs ys,v= .tuple vs.toArray/\R= .tup ys/\Md P w ts fl vs ys f o
structure fS(P:Program)(fn:Func)(s:G6)(w:World)(vs:List Value)(rf hs:List Nat)(r:AV)(v:Value)(w':World):Prop where
 ex:∃R bs f1 o1 f2 o2,r=(match bs with| []=>R|_=> .tup (R::bs))/\KB P w' (Dv fn s) s.res v R f1 o1/\DL P w' (fn.params.toList++s.ft) s.bz vs bs f2 o2/\(o1++o2).Nodup/\
  (∀b∈o1++o2,(b∈hs\/w.heap.size<=b)/\b<w'.heap.size)/\ ∀b∈f1++f2,b∉o1++o2/\(b∈rf\/b∈hs\/w.heap.size<=b)
 mod:Mod hs w w'
theorem Rel.lz{c:Cx}{n:Nat}{sl:Nat->SV}{hp:Nat->Option Af}{a:Act}(h:Rel c n sl hp a){hs:List Nat}(hh:∀b∈hs,∃t,b∈(c.G t).top):fO c.w (λb=>b∈hs):=by
 obtain⟨p1,p2,p3⟩:=h.base.pk;refine⟨Nat.le_trans p1 h.base.size,Lx.mono (λb hb=>h.base.block b (by omega) λhm=>by have:=p3 b hm;omega) p2,λb hb=> ?_⟩;obtain⟨t,ht⟩:=hh b hb;rcases h.gw.allow t b (by simp[GI.own,ht])with k|k
 ·have:c.w0.heap.size<=b:=k;omega
 ·exact p3 b k
def SX(P:Program)(s:G6)(f:Nat)(xs:List AV)(r:AV):Prop:=
 ∃fn,P.funcs[f]?=some fn/\fn.body.isSome=true/\(fn.name== "runtime.NumGoroutine")=false/\Ns P fn s r=true/\xs.length=fn.params.size+fn.nfree/\s.ft.length<=fn.nfree/\
  ∀(w:World) (vs:List Value) (rf lf hs:List Nat),DN P w (fn.params.toList++s.ft) s.bz s.lo vs xs rf lf hs->(∀b∈hs,b∉rf)->(∀b∈hs,b∉lf)->hs.Nodup->fO w (λb=>b∈hs)->
   Calls P f vs.toArray w λe w'=> ∃v,e= .returned v/\fS P fn s w vs rf hs r v w'
def Cl(P:Program)(sg:BZ)(f:Nat)(xs:List AV)(r:AV):Prop:=
 if f<1000000 then∃s,sg f=some s/\SX P s f xs r else SX P {bz:=[],res:=[]} (f-1000000) xs r
section
variable {P:Program} {w:World}
theorem uZ{v:Value}{x:AV}{f:List Nat}(h:Rd w [v] [x] f)(hx:∀y∈x.cells,y.scalar=true):f=[]:=by
 by_cases AH:∃cs,x= .agg cs
 ·obtain⟨cs,rfl⟩:=AH;obtain⟨as_,_,_,hr⟩:=Kj h rfl;exact Hv hr hx
 ·have:x.cells=[x]:=by cases x<;>first|rfl|exact absurd ⟨_,rfl⟩ AH
  rw[this]at hx;exact Hv h hx
theorem zwe{k el:TypeId}(h:Hx P k=some el):LU P 6 k=[k]:=by have h8:=Jc h;simp only[LU,h8]
theorem zzg{t el:TypeId}(h:CR P t=some el):CH P t=true:=by
 cases hu:P.underlying t with
 |some u=>unfold CR at h;rw[hu]at h;cases u<;>first|(cases h;done)|simp[CH,Ca,A8,LU,hu]
 |none=>
  unfold CR at h;rw[hu]at h;cases h9:Qf t with
  |some k=>
   rw[h9]at h;have e:A8 P t=[t]:=by
    unfold A8;rw[hu,h9];show(LU P 6 k).map Ud=[t]
    rw[zwe h,List.map_cons,List.map_nil,zE6 h9]
   unfold CH Ca;rw[e];simp only[List.all_cons,List.all_nil,hu,Bool.false_and,Bool.not_false]
  |none=>rw[h9]at h;cases h
theorem Cr.flat{ts:List TypeId}{fl:List Bool}{us:List Value}{ys:List AV}{rf hs:List Nat}(h:Cr P w ts fl us ys rf hs)(h1:EZ P ts fl=false)(h2:PE P ts fl ys=true):rf=[]:=by
 induction h with
 |nil=>rfl
 |own k1 k2 k23 _ _ ih=>
  simp only[EZ,Bool.or_eq_false_iff]at h1;simp only[PE,Ab]at h2;have hN:=k23;have hw:=h1.1;rw[zzg k2,k1]at hw;rcases hN with⟨_,rfl⟩|⟨q1,q2⟩
  ·rw[ih h1.2 h2.2];rfl
  ·simp[aP,k2,q1,q2]at hw
 |deep _ _ _ _ _ _ ih=>simp only[EZ,Bool.or_eq_false_iff]at h1;simp only[PE,Ab]at h2;exact ih h1.2 h2.2
 | @rd t ts fl u us y ys f rf hs hn hr _ ih=>
  simp only[EZ,Bool.or_eq_false_iff]at h1;simp only[PE,Ab]at h2;have DR:(fl.headD false&&(CR P t).isSome)=false:=by
   cases hh:fl.headD false with
   |false=>rfl
   |true=>rw[hn hh];rfl
  have dA:(fl.headD false&&aP P t)=false:=by
   cases hh:fl.headD false with
   |false=>rfl
   |true=>simp[aP,hn hh]
  rw[dA]at h1;rw[DR]at h2;have I5:CH P t=false:=by simpa using h1.1
  rw[I5]at h2;have hs:y.scalar=true:=by simpa using h2.1
  rw[Hv hr (by simpa using hs),ih h1.2 h2.2];rfl
theorem D6.flat{t:TypeId}{fl:List Bool}{v:Value}{x:AV}{rf hs:List Nat}(h:D6 P w t fl v x rf hs)(h1:eX P t fl=false)(h2:W6 P t fl x=true):rf=[]:=by
 unfold D6 at h;unfold eX at h1;unfold W6 at h2;split at h
 ·rename_i hf;rw[if_pos hf]at h1 h2;obtain⟨us,ys,hg,hc⟩:=h;split at hg
  ·rename_i AH;obtain⟨_,rfl,_⟩:=hg;rw[if_pos AH]at h2;exact hc.flat h1 h2
  ·rename_i AH;obtain⟨_,rfl⟩:=hg;rw[if_neg AH]at h2;exact hc.flat h1 h2
 ·rename_i hf;rw[if_neg hf]at h1 h2;rw[h1]at h2;exact uZ h.1 (by simpa using h2)
theorem Md.flat{ts:List TypeId}{fl:List Bool}{vs:List Value}{xs:List AV}{rf hs:List Nat}(h:Md P w ts fl vs xs rf hs)(h1:DE P ts fl=false)(h2:Wa P ts fl xs=true):rf=[]:=by
 induction h with
 |nil=>rfl
 |cons hv _ ih=>simp only[DE,Bool.or_eq_false_iff]at h1;simp only[Wa,Ab]at h2;rw[hv.flat h1.1 h2.1,ih h1.2 h2.2];rfl
theorem KB.flat{ts:List TypeId}{fl:List Bool}{v:Value}{R:AV}{f o:List Nat}(h:KB P w ts fl v R f o)(h1:DE P ts fl=false)(h2:Uh P ts fl R=true):f=[]:=by
 match ts,h,h1,h2 with
 | [t],h,h1,h2=>simp only[DE,Bool.or_false]at h1;exact D6.flat h h1 h2
 | [],h,h1,h2=>obtain⟨vs,ys,_,rfl,hv⟩:=h;exact hv.flat h1 h2
 |t::u::ts,h,h1,h2=>obtain⟨vs,ys,_,rfl,hv⟩:=h;exact hv.flat h1 h2
theorem CZ.void{ety sz:Nat}{a:Option Addr}{x:AV}{top N:List Nat}(h:CZ w ety sz (.slice a 0 0) x top N):N=[]:=by
 obtain⟨xs,_,_,_,⟨_,_,_,h⟩|⟨g,cap,C,hv,h6,_,_,_,_,_,hr⟩⟩:=h
 ·exact h
 ·have h0:xs.length=0:=by injection hv with _ h _;exact h.symm
  have:xs=[]:=by cases xs with|nil=>rfl|cons _ _=>simp at h0
  subst this;simp[Aq]at hr;cases hr;rfl
theorem Fq.flat{c:Cx}{ts:List TypeId}{fl:List Bool}{us:List Value}{rs:List (Option RI)}(h:G2 P c ts fl us rs):∀{ys:List AV} {f o:List Nat},Fq P w ts fl us ys f o->rs.any RI.lent=false->f=[]:=by
 induction h with
 |nil=>intro ys f o hm _;cases hm;rfl
 |row k1 k2 k23 _ _ _ _ ih=>
  intro ys f o hm hl;simp only[List.any_cons,Bool.or_eq_false_iff,RI.lent]at hl;cases hm with
  |own _ q2 q23 _ q4=>
   rw[k2]at q2;cases q2;rcases q23 with⟨_,rfl⟩|⟨q,_⟩
   ·exact ih q4 hl.2
   ·rw[q]at hl;simp at hl
  |deep _ _ _ _ _ q=>exact ih q hl.2
  |skip _ q=>exact ih q hl.2
 |deep k1 k2 k21 k22 _ _ _ _ _ ih=>
  intro ys f o hm hl;simp only[List.any_cons,Bool.or_eq_false_iff]at hl;cases hm with
  |own _ q2 q23 _ q4=>
   rw[k2]at q2;cases q2;rcases q23 with⟨_,rfl⟩|⟨_,q⟩
   ·exact ih q4 hl.2
   ·rw[q]at k22;cases k22
  |deep _ _ _ _ _ q=>exact ih q hl.2
  |skip _ q=>exact ih q hl.2
 |none hv _ ih=>
  intro ys f o hm hl;simp only[List.any_cons,Bool.or_eq_false_iff]at hl;cases hm with
  |own q1 q2 _ q3 q4=>
   rcases hv q1 with hh|⟨a,rfl⟩
   ·rw[hh]at q2;cases q2
   ·rw[CZ.void q3];exact ih q4 hl.2
  |deep _ _ _ _ _ q=>exact ih q hl.2
  |skip _ q=>exact ih q hl.2
theorem DL.flat{c:Cx}{ts:List TypeId}{ms:List PM}{vs:List Value}{bs:List PA}(h:Je P c ts ms vs bs):∀{Bs:List AV} {f o:List Nat},DL P w ts ms vs Bs f o->D8 P bs=false->Ib P ts ms Bs=true->f=[]:=by
 induction h with
 |nil=>intro Bs f o hb _ _;cases hb;rfl
 | @ro ts ms v vs bs hm _ ih=>
  intro Bs f o hb h1 h2;cases hb with
  |nil=>rfl
  |ro _ h8=>simp only[Ib,hm]at h2;exact ih h8 h1 h2
  |va h9 _=>rw[hm]at h9;cases h9
  |mu h9 _ _ _=>rw[hm]at h9;cases h9
  |bx h9 _ _ _ _ _ _ _=>rw[hm]at h9;cases h9
 | @va ts ms own v vs bs us hm _ _ ih=>
  intro Bs f o hb h1 h2;cases hb with
  |nil=>rfl
  |ro h9 _=>rw[hm]at h9;cases h9
  |va _ h8=>simp only[Ib,hm]at h2;exact ih h8 h1 h2
  |mu h9 _ _ _=>rw[hm]at h9;cases h9
  |bx h9 _ _ _ _ _ _ _=>rw[hm]at h9;cases h9
 | @mu t ts ms own v vs bs us rs hm Lu Fx _ ih=>
  intro Bs f o hb h1 h2;cases hb with
  |ro h9 _=>rw[hm]at h9;cases h9
  |va h9 _=>rw[hm]at h9;cases h9
  | @mu _ _ _ own2 _ _ us2 ys y Bs f1 f o1 o h9 hg TH h8=>
   rw[hm]at h9;cases h9;simp only[Ib,hm]at h2;simp only[D8,Bool.or_eq_false_iff]at h1;have OB:us2=us:=by
    split at Lu
    ·rename_i AH;rw[if_pos AH]at hg;obtain⟨rfl,_⟩:=hg;exact vJ Lu
    ·rename_i AH;rw[if_neg AH]at hg;rw[hg.1,Lu]
   subst OB;rw[Fq.flat Fx TH h1.1,ih h8 h1.2 h2];rfl
  |bx h9 _ _ _ _ _ _ _=>rw[hm]at h9;cases h9
 | @bx t ts ms own own' ty v vs bs T b g olds hm El _ _ _ _ _ ih=>
  intro Bs f o hb h1 h2;cases hb with
  |ro h9 _=>rw[hm]at h9;cases h9
  |va h9 _=>rw[hm]at h9;cases h9
  |mu h9 _ _ _=>rw[hm]at h9;cases h9
  |bx h9 JP _ _ _ hy hc h8=>rw[hm]at h9;cases h9;rw[El]at JP;cases JP;simp only[Ib,hm,El,Ab,hy,List.tail_cons]at h2;simp only[D8,Bool.or_eq_false_iff]at h1;rw[hc.flat h1.1 h2.1,ih h8 h1.2 h2.2];rfl
theorem lM{ts:List TypeId}{ms:List PM}{vs:List Value}{Bs:List AV}{f o:List Nat}(h:DL P w ts ms vs Bs f o):Bs=[]↔BJ ts ms=false:=by
 induction h with
 |nil=>simp[BJ]
 |ro hm _ ih=>simp only[BJ,hm,Bool.false_or];exact ih
 |va hm _ ih=>simp only[BJ,hm,Bool.false_or];exact ih
 |mu hm _ _ _ _=>simp only[BJ,hm,Bool.true_or];simp
 |bx hm _ _ _ _ _ _ _ _=>simp only[BJ,hm,Bool.true_or];simp
end
section
variable {P:Program} {c:Cx} {n nx:Nat} {sl sl0:Nat->SV} {hp hp0:Nat->Option Af} {a:Act} {o:Oper} {gs:Gd} {e:Bb} {sg:BZ} {nv:Nat}
theorem xQ{xs:List Operand}:∀{ss:List SV},(∀x∈xs,∀s,BK sl0 gs x=some s->SR c [s] [a.eval x])->xs.mapM (BK sl0 gs)=some ss->SR c ss (xs.map a.eval):=by
 induction xs with
 |nil=>intro ss _ h;simp at h;subst h;exact .nil
 |cons x xs ih=>intro ss hx h;rw[List.mapM_cons]at h;simp only[Option.bind_eq_bind,As,Option.pure_def,Ad]at h;obtain⟨s,hs,ss',Gn,rfl⟩:=h;exact(hx x (by simp) s hs).cons (ih (λy hy=>hx y (by simp[hy])) Gn)
theorem R2:∀{l:List Nat},Ma l=true->l.Nodup
 | [],_=>by simp
 |x::l,h=>by simp only[Ma,Ab,Bf,List.contains_eq_mem,decide_eq_false_iff_not]at h;exact List.nodup_cons.2 ⟨h.1,R2 h.2⟩
theorem zzb{c1:Cx}{w':World}{recs:List AU}{hs f o:List Nat}(gw:GW c)(hg:∀t,(c1.G t).top=(c.G t).top\/(c1.G t).top=[])(hA:c1.A=c.A)(aU:c1.Mu=c.Mu)(MN:c1.w0=c.w0)(hB:c.w0.heap.size<=c.w.heap.size)
  (hn:(recs.map AU.tag).Nodup) (Ci:∀r∈recs,∀b∈r.top,b∈o) (Hf:∀b∈hs,∃r∈recs,b∈(c.G r.tag).top) {rf:List Nat} (MF:∀b∈rf,c1.ok b) (hf:∀b∈f,b∉o/\(b∈rf\/b∈hs\/c.w.heap.size<=b)):∀b∈f,(c1.dg w' recs).ok b:=by
 intro b hb;obtain⟨h1,h2⟩:=hf b hb;have hM:(c1.dg w' recs).M b-> ∃t,(∀r∈recs,r.tag≠t)/\b∈(c1.G t).top:=by
  rintro⟨t,ht⟩;by_cases hT:∃r∈recs,r.tag=t
  ·obtain⟨r,hr,rfl⟩:=hT;rw[Cx.dq hn hr]at ht;exact absurd (Ci r hr b ht) h1
  ·rw[Cx.c7 λr hr hh=>hT ⟨r,hr,hh⟩]at ht;exact⟨t,λr hr hh=>hT ⟨r,hr,hh⟩,ht⟩
 have sub:∀t,b∈(c1.G t).top->b∈(c.G t).top:=λt ht=>by
  rcases hg t with hh|hh
  ·rw[<-hh];exact ht
  ·rw[hh]at ht;simp at ht
 rcases h2 with h2|h2|h2
 ·refine⟨λhm=> ?_,(MF b h2).2⟩;obtain⟨t,_,ht⟩:=hM hm;exact(MF b h2).1 ⟨t,ht⟩
 ·obtain⟨r,hr,WE⟩:=Hf b h2;refine⟨λhm=> ?_, .inr ?_⟩
  ·obtain⟨t,Ek,ht⟩:=hM hm;exact gw.cm r.tag t (Ek r hr) b (by simp[GI.own,WE]) (by simp[GI.own,sub t ht])
  ·have:=gw.allow r.tag b (by simp[GI.own,WE]);simp only[Cx.dg,Cx.B,MN,aU]at this ⊢;exact this
 ·refine⟨λhm=> ?_, .inr (.inl ?_)⟩
  ·obtain⟨t,_,ht⟩:=hM hm;have:=gw.inb t b (by simp[GI.own,sub t ht]);omega
  ·simp only[Cx.dg,Cx.B,MN];omega
theorem zAr(h:Bz P c n nx sl hp a sl0 hp0 o gs){cl:Call}{fo:Operand}(ho:o.op= .call cl)(Aw:cl.callee= .value fo){g:Nat}{caps:BP}(hf:BK sl0 gs fo=some (.fn g caps)){as_:List SV}(has:cl.args.toList.mapM (BK sl0 gs)=some as_)
  (hg:g<1000000) (he:V2 P sg hp0 gs nv nx g (as_++caps.toList)=some e) (Bl:∀c',e.call=some c'-> ∃r,c.ρ[nv]?=some r/\IM (Cl P sg) c'.fn ((EL.of c'.args).den c.ρ) c.ρ r):AB P o c n nx sl hp gs a e:=by
 have cV:fo∈o.op.operands:=by simp[ho,Op.operands,Call.operands,Aw]
 have cU:∀x∈cl.args.toList,x∈o.op.operands:=λx hx=>by
  have:x∈cl.args:=by simpa using hx
  simp[ho,Op.operands,Call.operands,Aw,this]
 have MF:=h.ct hf cV;generalize cA:a.eval fo=fv at MF;cases MF with
 |fn Tg h8=>
 rename_i capv;have Ah:=(xQ (a:=a) (λx hx s hs=>h.ct hs (cU x hx)) has).app Tg;unfold V2 at he;split at he
 ·rename_i fn s It JQ;split at he
  ·cases he
  rename_i hlen;simp only[Bool.or_eq_true,not_or,Bool.not_eq_true,bne_eq_false_iff_eq]at hlen;split at he
  ·cases he
  rename_i es bs us uz Be;split at he
  ·cases he
  rename_i B7;simp only[Bool.or_eq_true,Bf,not_or,Bool.not_eq_false,Bool.not_eq_true]at B7;obtain⟨⟨cY,ET⟩,Lm⟩:=B7;have TL:=R2 cY;have G8:∀u∈us,u∉DK bs:=λu hu hh=>by rw[List.any_eq_false]at ET;have:=ET u hu;simp only[List.contains_eq_mem,AR]at this;exact this hh
  have K7:∀u∈uz,u∉DK bs:=λu hu hh=>by rw[List.any_eq_false]at Lm;have:=Lm u hu;simp only[List.contains_eq_mem,AR]at this;exact this hh
  simp only at he;split at he
  ·cases he
  rename_i By;simp only[Nat.not_le]at By;split at he
  ·cases he
  rename_i Iz;split at he
  ·cases he
  rename_i fz Hd;have hK:∀t g,c.K t g->c.U t:=h.rel.bp;obtain⟨rf,lf,hs,q1,q2,qz,q3,q4,q5,q6⟩:=yN (P:=P) h.rel.base h.eh h.gs hK (as_++caps.toList) Be Ah (by rw[hlen.1.2,AO,BC];have:=hlen.2;simp only[decide_eq_false_iff_not,Nat.not_lt]at this;omega);obtain⟨fts,HN,Tv⟩:∃fts,DV hp0 gs fts=some fz/\ ∀t∈fts,t∈us:=by
   split at Hd
   ·exact⟨us,Hd,λt ht=>ht⟩
   ·simp only[Ad]at Hd;subst Hd;exact⟨[],rfl,by simp⟩
  have Dz:=h.rel.freeze h.hp h.gs HN;have Mq:∀t∈fz.map (·.1),t∈us:=λt ht=>by obtain⟨⟨t',e'⟩,hm,rfl⟩:=List.mem_map.1 ht;exact Tv _ ((Pb h.gs HN).1 t' e' hm).1
  have S2:∀t,((c.br (fz.map (·.1))).G t).top=(c.G t).top\/((c.br (fz.map (·.1))).G t).top=[]:=λt=>by
   simp only[Cx.br];split
   ·exact .inr rfl
   ·exact .inl rfl
  have hGh:∀t∈DK bs,(c.br (fz.map (·.1))).G t=c.G t:=λt ht=>by simp only[Cx.br];rw[if_neg];intro hh;exact G8 t (Mq t hh) ht
  have pL:∀t∈DK bs,(c.br (fz.map (·.1))).E t=c.E t:=λt ht=>by simp only[Cx.br];rw[if_neg];intro hh;exact G8 t (Mq t hh) ht
  have dW:hs.Nodup:=by
   rw[q3];have:∀l:List Nat,l.Nodup->(l.flatMap λt=>(c.G t).top).Nodup:=by
    intro l
    induction l with
    |nil=>intro _;simp
    |cons t l ih=>intro hl;rw[List.nodup_cons]at hl;rw[List.flatMap_cons,List.nodup_append];refine⟨(List.nodup_append.1 (h.rel.gw.nodup t)).1,ih hl.2,λx hx y hy Hl=> ?_⟩;subst Hl;obtain⟨u,hu,eI⟩:=List.mem_flatMap.1 hy;exact h.rel.gw.cm t u (λhh=>hl.1 (hh▸hu)) x (by simp[GI.own,hx]) (by simp[GI.own,eI])
   exact this _ TL
  have JD:∀b∈hs,∃t∈DK bs,b∈(c.G t).top:=λb hb=>by rw[q3]at hb;exact List.mem_flatMap.1 hb
  have Ga:∀b∈hs,b∉rf:=λb hb hr=>by
   obtain⟨t,ht,CI⟩:=JD b hb;rcases q2 b hr with hh|⟨u,hu,Iq⟩
   ·exact hh.1 ⟨t,CI⟩
   ·exact h.rel.gw.cm t u (λhh=>G8 u hu (hh▸ht)) b (by simp[GI.own,CI]) (by simp[GI.own,Iq])
  have Jv:∀b∈hs,b∉lf:=λb hb hr=>by
   obtain⟨t,ht,CI⟩:=JD b hb;rcases qz b hr with(hh|⟨u,hu,Iq⟩)|⟨h1,h2⟩
   ·exact hh.1 ⟨t,CI⟩
   ·exact h.rel.gw.cm t u (λhh=>K7 u hu (hh▸ht)) b (by simp[GI.own,CI]) (by simp[GI.own,Iq])
   ·rcases h.rel.gw.allow t b (by simp[GI.own,CI])with k|k
    ·have:c.w0.heap.size<=b:=k;omega
    ·exact h2 k
  have Ft:∃(val:SV) (l:List (Nat × Af)),e={call:=some ⟨.inl g,es⟩,val:=val,bj:=fz++(Wt gs l++after P nv (nx+((Dv fn s).flatMap (A8 P)).length) bs 0)}/\
    ∀(R:AV) (w':World) (v:Value) (f1 o1:List Nat),KB P w' (Dv fn s) s.res v R f1 o1->(if IQ bs=0 then E.var nv else .proj (.var nv) 0).den c.ρ=R-> ∃recs:List AU,l=recs.map AU.pair/\recs.flatMap AU.top=o1/\(∀r∈recs,nx<=r.tag/\r.tag<nx+((Dv fn s).flatMap (A8 P)).length/\r.new.isSome)/\(recs.map AU.tag).Nodup/\
     (∀r∈recs,∀hs f,r.bj≠ .gd hs f)/\ ∀c',Ff c c' w' recs->(∀b∈f1,c'.ok b)->SR c' [val] [v]/\ ∀r∈recs,Du c' r.tag r.bj:=by
   have BF:∀{l:List (Nat × Af)} {recs:List AU},l=recs.map AU.pair->(∀t x,(t,x)∈l-> ∀hs f,x≠ .gd hs f)-> ∀r∈recs,∀hs f,r.bj≠ .gd hs f:=by rintro l recs rfl hh r hr;exact hh r.tag r.bj (List.mem_map.2 ⟨r,hr,rfl⟩)
   have fvne:∀(t:TypeId) (k:Nat) (fl:List Bool) (x:E) (u:Nat) (y:Af),(u,y)∈(Pm P k t fl x).2-> ∀hs f,y≠ .gd hs f:=by
    intro t k fl x u y hy hs f;unfold Pm at hy;split at hy
    ·exact O8 _ _ _ _ _ hy
    ·simp at hy
   split at he
   ·rename_i t T3;simp only[Ad]at he;subst he;refine⟨_,_,rfl,λR w' v f1 o1 hr hR=> ?_⟩;rw[T3]at hr;obtain⟨recs,e1,e2,e3,e4,e5⟩:=uQ (c:=c) (nx:=nx) (x:=if IQ bs=0 then E.var nv else .proj (.var nv) 0) (show D6 P w' t s.res v R f1 o1 from hr) hR;exact⟨recs,e1,e2,by simpa[T3]using e3,e4,BF e1 (fvne _ _ _ _),e5⟩
   ·rename_i T3;simp only[Ad]at he;subst he;refine⟨_,_,rfl,λR w' v f1 o1 hr hR=> ?_⟩;obtain⟨vs,ys,rfl,rfl,hv⟩:∃vs ys,v= .tuple vs.toArray/\R= .tup ys/\Md P w' (Dv fn s) s.res vs ys f1 o1:=by
     unfold KB at hr;split at hr
     ·rename_i t ht;exact absurd ht (T3 t)
     ·exact hr
    obtain⟨recs,e1,e2,e3,e4,e5⟩:=zsl (c:=c) (x:=if IQ bs=0 then E.var nv else .proj (.var nv) 0) hv nx 0 (λk y hy=>by show AV.proj ((if IQ bs=0 then E.var nv else .proj (.var nv) 0).den c.ρ) (0+k)=y;rw[hR];simp[AV.proj,hy])
    have fvsne:∀(ts:List TypeId) (k:Nat) (fl:List Bool) (x:E) (i u:Nat) (y:Af),(u,y)∈(Nf P k ts fl x i).2-> ∀hs f,y≠ .gd hs f:=by
     intro ts
     induction ts with
     |nil=>intro k fl x i u y hy;simp[Nf]at hy
     |cons t ts ih=>
      intro k fl x i u y hy;simp only[Nf,Ac]at hy;rcases hy with hy|hy
      ·exact fvne _ _ _ _ _ _ hy
      ·exact ih _ _ _ _ _ _ hy
    exact⟨recs,e1,e2,e3,e4,BF e1 (fvsne _ _ _ _ _),λc' ha AZ=>⟨.tup (by rw[BP.au];exact(e5 c' ha AZ).1) .nil,(e5 c' ha AZ).2⟩⟩
  obtain⟨val,l,rfl,Oz⟩:=Ft;obtain⟨r,hr,AZ⟩:=Bl _ rfl;have Oy:∃s',sg g=some s'/\SX P s' g ((EL.of es).den c.ρ) r:=by have AZ:Cl P sg g ((EL.of es).den c.ρ) r:=AZ;unfold Cl at AZ;rwa[if_pos hg]at AZ
  obtain⟨s',A4,fn',Jz,D7,Gg,B2,_,_,FK⟩:=Oy;rw[JQ]at A4;cases A4;rw[It]at Jz;cases Jz;rw[EL.db]at FK;have Bl:=FK c.w _ rf lf hs q1 Ga Jv dW (h.rel.lz λb hb=>by obtain⟨t,_,ht⟩:=JD b hb;exact⟨t,ht⟩);have ex:(execOp a.eval o).run P c.w= .ok (.enter g (cl.args.map a.eval++capv.toArray)) c.w:=by
   have hb:fn.body.isNone=false:=by simpa using D7
   simp only[execOp,ho,resolve,Aw,cA,Deferred.ofValue,Sem.run_bind,Sem.run_pure,Result.andThen_ok,invoke,callFunc,run_program,It];simp[Gg,hb]
  intro next Q hk
  unfold Oper.wp;rw[ex,Oper.upon_enter];have NY:cl.args.map a.eval++capv.toArray=((cl.args.toList.map a.eval)++capv).toArray:=by apply Array.ext';simp
  rw[NY];refine Bl.mono ?_;rintro e' w' ⟨v,rfl,⟨R,Bs,f1,o1,f2,o2,Lp,AN,Fs,Hh,TO,Ts⟩,Bp⟩;show next (a.put o.dst v) w'
  have hBn:∀k y,Bs[k]?=some y->(E.proj (.var nv) (0+k+1)).den c.ρ=y:=by
   intro k y hy;cases Bs with
   |nil=>simp at hy
   |cons B Bs=>simp only[E.den,hr,Df,Lp,AV.proj,Nat.zero_add,List.getElem?_cons_succ,hy]
  obtain⟨TK,recsB,hB⟩:=zyK (w':=w') q4 hK (r:=nv) (nx+((Dv fn s).flatMap (A8 P)).length) 0 Fs hBn;have hR:(if IQ bs=0 then E.var nv else .proj (.var nv) 0).den c.ρ=R:=by
   cases Bs with
   |nil=>rw[if_pos (by simpa using TK.symm)];simp only[E.den,hr,Df,Lp]
   |cons B Bs=>rw[if_neg (by rw[<-TK];simp)];simp[E.den,hr,Lp,AV.proj]
  obtain⟨recsV,v1,v2,v3,v4,v5,v6⟩:=Oz R w' v f1 o1 AN hR;have Gh:∀t,nx<=t->t<nx+(((Dv fn s).flatMap (A8 P)).length+KS P bs)-> ¬c.U t:=λt h1 h2=>h.new t h1 (by omega);have S1:=hB.nodup TL λt h1 h2=>Gh t (by omega) (by omega);have C8:((recsV++recsB).map AU.tag).Nodup:=by
   rw[List.map_append,List.nodup_append];refine⟨v4,S1,λt1 h1 t2 h2 he=> ?_⟩;obtain⟨p1,dH,rfl⟩:=List.mem_map.1 h1;obtain⟨p2,qP,rfl⟩:=List.mem_map.1 h2;have a1:=v3 p1 dH;cases hn:p2.new with
   |none=>exact Gh p1.tag (by omega) (by omega) (he▸(hB.old p2 qP hn).2)
   |some _=>have:=hB.new p2 qP (by simp[hn]);omega
  have HT:∀r∈recsV++recsB,r.new.isSome=true->nx<=r.tag/\r.tag<nx+(((Dv fn s).flatMap (A8 P)).length+KS P bs):=λr hr hn=>by
   rcases Ac.1 hr with hr|hr
   ·have:=v3 r hr;omega
   ·have:=hB.new r hr hn;omega
  have EY:((recsV++recsB).flatMap AU.top).Sublist (o1++o2):=by rw[List.flatMap_append,v2];exact(List.Sublist.refl _).append hB.ky
  have cH:∀b∈hs,∃r∈recsV++recsB,b∈(c.G r.tag).top:=λb hb=>by obtain⟨t,ht,CI⟩:=JD b hb;obtain⟨r,hr,rfl⟩:=hB.all t ht;exact⟨r,by simp[hr],CI⟩
  have TB:∀b∈hs,∃r∈recsV++recsB,b∈((c.br (fz.map (·.1))).G r.tag).top:=λb hb=>by obtain⟨t,ht,CI⟩:=JD b hb;obtain⟨r,hr,rfl⟩:=hB.all t ht;exact⟨r,by simp[hr],by rw[hGh _ ht];exact CI⟩
  have EX:∀r∈recsV++recsB,∀b∈r.top,b∈o1++o2:=λr hr b hb=>EY.subset (List.mem_flatMap.2 ⟨r,hr,hb⟩);have Ov:∀b∈f1++f2,((c.br (fz.map (·.1))).dg w' (recsV++recsB)).ok b:=by
   cases WU:(DE P (Dv fn s) s.res||D8 P bs)with
   |false=>
    simp only[Bool.or_eq_false_iff]at WU;have B5:Uh P (Dv fn s) s.res R=true/\Ib P (fn.params.toList++s.ft) s.bz Bs=true:=by
     unfold Ns at B2;cases NQ:Bs with
     |nil=>
      rw[if_neg (by rw[(lM Fs).1 NQ];simp)]at B2;rw[NQ]at Lp;rw[Lp]at B2;refine⟨B2,?_⟩;have:∀(ts:List TypeId) (ms:List PM),Ib P ts ms []=true:=by
       intro ts
       induction ts with
       |nil=>intro ms;rfl
       |cons t ts ih=>
        intro ms;unfold Ib;split
        ·exact ih _
        ·exact ih _
        ·exact ih _
        ·split
         ·rename_i hh;cases hh
         ·simpa using ih _
      exact this _ _
     |cons B Bs'=>
      rw[if_pos (by
       cases hh:BJ (fn.params.toList++s.ft) s.bz with
       |true=>rfl
       |false=>rw[(lM Fs).2 hh]at NQ;cases NQ)]at B2
      rw[Lp,NQ]at B2;simpa using B2
    have e1:f1=[]:=AN.flat WU.1 B5.1;have e2:f2=[]:=DL.flat q4 Fs WU.2 B5.2;subst e1;subst e2;simp
   |true=>rw[WU]at Iz Hd;simp only[Bool.true_and,Bf,Bool.not_eq_false]at Iz;simp only[if_true]at Hd;exact zzb (rf:=rf) h.rel.gw S2 rfl rfl rfl h.rel.base.size C8 EX cH (λb hb=>Vm h.rel h.eh h.gs Hd (by simpa using Iz) (q2 b hb)) Ts
  have Tp:after P nv (nx+((Dv fn s).flatMap (A8 P)).length) bs 0=recsB.map λr=>(r.tag,CS gs r.bj):=by
   cases P0:bs with
   |nil=>
    have:=hB.ents;rw[P0]at this;simp only[after]at this;have:recsB=[]:=by simpa using this.symm
    rw[this];rfl
   |cons b bs'=>have Fj:=q6 (by rw[P0];simp);rw[<-P0,hB.ents,Fj];rfl
  have BG:Wt gs l++after P nv (nx+((Dv fn s).flatMap (A8 P)).length) bs 0=(recsV++recsB).map λr=>(r.tag,CS gs r.bj):=by rw[Tp,List.map_append];congr 1;rw[v1];simp[Wt,AU.pair]
  obtain⟨Fu,Cb⟩:=Dz.changes (w':=w') (recs:=recsV++recsB) (hs:=hs) (gs:=gs) h.gs Bp C8 (λr hr hn=>by have:=HT r hr hn;exact Gh _ this.1 this.2) TB (EY.nodup Hh) (λr hr b hb=>TO b (EX r hr b hb))
   (λr hr=>by
    rcases Ac.1 hr with hr|hr
    ·exact v5 r hr
    ·exact hB.ne r hr)
   (λ_ r hr=>by
    have aft:=Cx.de (c:=c.br (fz.map (·.1))) (w':=w') (recs:=recsV++recsB) h.rel.bp C8 (λr hr hn=>by have:=HT r hr hn;exact Gh _ this.1 this.2);have aft':Ff c ((c.br (fz.map (·.1))).dg w' (recsV++recsB)) w' (recsV++recsB):=⟨aft.ρ,aft.w,aft.G,aft.new,aft.K,aft.old,aft.ic,λr hr DR=>(aft.fw r hr DR).trans (by
     rcases Ac.1 hr with hr|hr
     ·have:=(v3 r hr).2.2;rw[DR]at this;cases this
     ·rw[pL _ (hB.old r hr DR).1])⟩
    rcases Ac.1 hr with hr|hr
    ·exact(v6 _ (aft'.mono λr hr=>by simp[hr]) λb hb=>Ov b (by simp[hb])).2 r hr
    ·exact hB.ok _ (aft'.mono λr hr=>by simp[hr]) (λb hb=>Ov b (by simp[hb])) r hr)
  have aft:=Cx.de (c:=c.br (fz.map (·.1))) (w':=w') (recs:=recsV++recsB) h.rel.bp C8 (λr hr hn=>by have:=HT r hr hn;exact Gh _ this.1 this.2);have aft':Ff c ((c.br (fz.map (·.1))).dg w' (recsV++recsB)) w' (recsV++recsB):=⟨aft.ρ,aft.w,aft.G,aft.new,aft.K,aft.old,aft.ic,λr hr DR=>(aft.fw r hr DR).trans (by
     rcases Ac.1 hr with hr|hr
     ·have:=(v3 r hr).2.2;rw[DR]at this;cases this
     ·rw[pL _ (hB.old r hr DR).1])⟩
  have JV:=(v6 _ (aft'.mono λr hr=>by simp[hr]) λb hb=>Ov b (by simp[hb])).1;rw[<-BG,<-Pp]at Fu;refine hk _ ((c.br (fz.map (·.1))).dg w' (recsV++recsB)) ⟨rfl,rfl,rfl,rfl,λt ht=> ?_⟩ (Fu.put (JV.mkGd gs h.gs) o.dst);rcases ht with ht|⟨r,hr,rfl⟩
  ·exact .inl ht
  ·cases hn:r.new with
   |none=>
    rcases Ac.1 hr with hr|hr
    ·have:=(v3 r hr).2.2;rw[hn]at this;cases this
    ·exact .inl (hB.old r hr hn).2
   |some _=>have:=HT r hr (by simp[hn]);exact .inr ⟨this.1,by simp only[BT];omega⟩
 ·cases he
end
def Cq(c:Cx)(us:List Nat):List Nat:=us.flatMap λt=>(c.G t).top
theorem lP(c:Cx):Cq c []=[]:=rfl
theorem Zh(c:Cx)(u:Nat)(us:List Nat):Cq c (u::us)=(c.G u).top++Cq c us:=by simp[Cq]
theorem Kb(c:Cx)(us vs:List Nat):Cq c (us++vs)=Cq c us++Cq c vs:=by simp[Cq]
theorem RW{c:Cx}{us:List Nat}{b:Nat}:b∈Cq c us↔ ∃t∈us,b∈(c.G t).top:=by simp[Cq]
theorem Zg{c:Cx}(gw:GW c):∀{l:List Nat},l.Nodup->(Cq c l).Nodup
 | [],_=>by simp[Cq]
 |t::l,hl=>by
  rw[Zh,List.nodup_append];rw[List.nodup_cons]at hl;refine⟨?_,Zg gw hl.2,λa ha b hb hab=> ?_⟩
  ·have:=gw.nodup t;simp only[GI.own]at this;exact(List.nodup_append.1 this).1
  ·subst hab;obtain⟨u,hu,Iq⟩:=RW.1 hb;exact gw.cm t u (λhh=>hl.1 (hh▸hu)) a (by simp[GI.own,ha]) (by simp[GI.own,Iq])
section
variable {P:Program} {c:Cx} {hp:Nat->Option Af} {gs:Gd}
theorem nD{m:Nat}{u g:Nat}{x y:E}(hx:BB hp gs m (.own u g)=some x)(hy:II hp gs u g=some y):x=y:=by
 cases m with
 |zero=>simp[BB]at hx
 |succ m=>simp only[BB,hy,Ad]at hx;exact hx.symm
theorem yZ{m:Nat}{x:E}(h:BB hp gs m .emp=some x):x= .lst .nil:=by
 cases m with
 |zero=>simp[BB]at h
 |succ m=>simp[BB]at h;exact h.symm
theorem zwJ(eh:EH c hp)(k:Bt c.ρ gs){d:DT}{s:SV}{us:List Nat}{ck:List Cn}{v:Value}{x:E}{m:Nat}(h:o7 hp gs d s=some (us,ck))(hs:SR c [s] [v])(hx:BB hp gs m s=some x)(hc:∀q∈ck,q.den c.ρ):
  DC c.w [d] [v] [x.den c.ρ] (Cq c us)/\ ∀u∈us,∃g,c.K u g:=by
 unfold o7 at h;split at h
 ·rename_i y;simp only[Ad,AX]at h;obtain⟨rfl,rfl⟩:=h;rw[KR hx];cases hs with
  |e h1 h2 h3=>
   rename_i f;have E7:(y.den c.ρ).scalar=true:=by
    cases hl:Uw y with
    |true=>cases y<;>simp[Uw]at hl<;>rfl
    |false=>rw[hl]at hc;exact(Ch hc).2.2.2 rfl
   have hf:f=[]:=Hv h1 (by simpa using E7);subst hf;exact⟨.flat h1 .nil,by simp⟩
 ·split at h
  ·rename_i hh;simp only[Ad,AX]at h;obtain⟨rfl,rfl⟩:=h;rw[LM hx];cases hs with
   |cc _=>exact⟨.void hh.1 hh.2 .nil,by simp⟩
  ·cases h
 ·split at h
  ·rename_i hh;simp only[Ad,AX]at h;obtain⟨rfl,rfl⟩:=h;rw[yZ hx];cases hs with
   |emp _=>exact⟨.void hh.1 hh.2 .nil,by simp⟩
  ·cases h
 ·rename_i e z l u g;split at h
  ·rename_i e' z' l' g' ep y hl;split at h
   ·rename_i hh;obtain⟨rfl,rfl,rfl,hb⟩:=hh;simp only[Ad,AX]at h;obtain⟨rfl,rfl⟩:=h;obtain⟨q1,q2,q3,q4,q5⟩:=eh u _ (CG hl k);rw[nD (y:=y) hx (by simp only[II,hl,if_true])];have hb:=Ay.of_eq hb;subst hb;rw[Ay.cu]at q4;cases hs with
    |own k1 k2 _=>rw[k2]at q4;exact⟨by rw[Zh,lP,AE];exact q4,λw hw=>by simp at hw;subst hw;exact⟨_,k1⟩⟩
   ·cases h
  ·rename_i e' z' g' y hl;split at h
   ·rename_i hh;obtain⟨rfl,rfl,rfl,hf,hlen⟩:=hh;simp only[Ad,AX]at h;obtain⟨rfl,rfl⟩:=h;obtain⟨q1,q2,N,q4,q5,q6,q7⟩:=eh u _ (CG hl k);obtain⟨hN,_⟩:=q6 rfl;have hN:N=[]:=hN;subst hN;rw[nD (y:=y) hx (by simp only[II,hl,if_true])];cases hs with
    |own k1 k2 _=>rw[k2]at q4;exact⟨by rw[Zh,lP,AE];exact DC.j0 q4 hf hlen,λw hw=>by simp at hw;subst hw;exact⟨_,k1⟩⟩
   ·cases h
  ·cases h
 ·cases h
theorem lF(eh:EH c hp)(k:Bt c.ρ gs):∀(ds:List DT) {ss:List SV} {us:List Nat} {ck:List Cn} {vs:List Value} {xs:EL} {m:Nat},NG hp gs ds ss=some (us,ck)->SR c ss vs->CD hp gs m ss=some xs->(∀q∈ck,q.den c.ρ)->
  DC c.w ds vs (xs.den c.ρ) (Cq c us)/\ ∀u∈us,∃g,c.K u g
 | [],[],us,ck,vs,xs,m,h,hs,hx,hc=>by
  simp[NG]at h;obtain⟨rfl,rfl⟩:=h;cases hs;cases m with
  |zero=>simp[CD]at hx
  |succ m=>simp[CD]at hx;subst hx;exact⟨.nil,by simp⟩
 | [],_::_,us,ck,vs,xs,m,h,hs,hx,hc=>by simp[NG]at h
 |_::_,[],us,ck,vs,xs,m,h,hs,hx,hc=>by simp[NG]at h
 |d::ds,s::ss,us,ck,[],xs,m,h,hs,hx,hc=>by have:=hs.len;simp at this
 |d::ds,s::ss,us,ck,v::vs,xs,m,h,hs,hx,hc=>by
  obtain⟨j,y,ys,rfl,hy,Dn,rfl⟩:=KH hx;obtain⟨r1,r2⟩:=hs.cd;unfold NG at h;split at h
  ·rename_i us1 ck1 us2 ck2 h1 h2;simp only[Ad,AX]at h;obtain⟨rfl,rfl⟩:=h;obtain⟨q1,q2⟩:=zwJ eh k h1 r1 hy λq hq=>hc q (by simp[hq]);obtain⟨q3,q4⟩:=lF eh k ds h2 r2 Dn λq hq=>hc q (by simp[hq]);refine⟨by rw[Kb];exact q1.app q3,λu hu=> ?_⟩;rcases Ac.1 hu with hu|hu
   ·exact q2 u hu
   ·exact q4 u hu
  ·cases h
theorem vQ(eh:EH c hp)(k:Bt c.ρ gs){t:TypeId}{ds:List DT}{s:SV}{us:List Nat}{ck:List Cn}{v:Value}{x:E}(Ha:ds.length=P.cellsOf t)(hg:Ao P t=true\/P.cellsOf t=1)(h:Sz P hp gs t ds s=some (x,us,ck))(hs:SR c [s] [v])(hc:∀q∈ck,q.den c.ρ):
  DC c.w ds v.cells.toList (x.den c.ρ).cells (Cq c us)/\(∀u∈v.cells.toList,u.oneCell'=true)/\(x.den c.ρ).cells.length=P.cellsOf t/\v.cells.size=P.cellsOf t/\
   (if Ao P t then∃cs,x.den c.ρ= .agg cs else(∀cs,x.den c.ρ≠ .agg cs)/\ ∀cs,x.den c.ρ≠ .tup cs)/\ ∀u∈us,∃g,c.K u g:=by
 unfold Sz at h;split at h
 ·cases h
 rename_i y hy;split at h
 ·rename_i B5;simp only[Ad,AX]at h;obtain⟨rfl,rfl,rfl⟩:=h;obtain⟨f,q1,q2⟩:=H6 eh k A5 hy hs A5 (AI _);obtain⟨c1,c2,c3,c4⟩:=Ch hc;have Ft:if Ao P t then∃cs,y.den c.ρ= .agg cs/\cs.length=P.cellsOf t else(∀cs,y.den c.ρ≠ .agg cs)/\ ∀cs,y.den c.ρ≠ .tup cs:=by
   split
   ·rename_i AH;obtain⟨cs,Bx⟩:=c3 AH;exact⟨cs,Bx,by rw[Bx]at c1;exact c1⟩
   ·rename_i AH;have:=c4 (by simpa using AH);exact⟨λcs Bx=>by rw[Bx]at this;simp[AV.scalar]at this,λcs Bx=>by rw[Bx]at this;simp[AV.scalar]at this⟩
  have hf:f=[]:=by
   cases qD:Ao P t with
   |true=>obtain⟨cs,Bx⟩:=c3 qD;obtain⟨as_,rfl,_,r⟩:=Kj q1 Bx;exact Hv r (by rw[Bx]at c2;exact c2)
   |false=>exact Hv q1 (by simpa using c4 qD)
  subst hf;obtain⟨o1,o2,o3,o4⟩:=mK (P:=P) q1 hg Ft;refine⟨DC.jy o1 B5 (by rw[Ha];simpa using o4.symm),o2,o3,o4,?_,by simp⟩;split at Ft
  ·rename_i AH;rw[if_pos AH];obtain⟨cs,Bx,_⟩:=Ft;exact⟨cs,Bx⟩
  ·rename_i AH;rw[if_neg AH];exact Ft
 ·rename_i Gi;split at h
  ·cases h
  rename_i AH;have AH:(H5 s).2=Ao P t:=by simpa using AH
  obtain⟨⟨us',ck'⟩,hr,h⟩:=Ar.1 h;simp only[AX]at h;obtain⟨rfl,rfl,rfl⟩:=h;have single:Ao P t=false->NG hp gs ds [s]=some (us',ck')->DC c.w ds v.cells.toList (y.den c.ρ).cells (Cq c us')/\(∀u∈v.cells.toList,u.oneCell'=true)/\(y.den c.ρ).cells.length=P.cellsOf t/\v.cells.size=P.cellsOf t/\
   (if Ao P t then∃cs,y.den c.ρ= .agg cs else(∀cs,y.den c.ρ≠ .agg cs)/\ ∀cs,y.den c.ρ≠ .tup cs)/\ ∀u∈us',∃g,c.K u g:=by
   intro AH hr;have Bo:CD hp gs (A5+1) [s]=some (.cons y .nil):=by unfold CD;rw[hy];rfl
   obtain⟨q1,q2⟩:=lF eh k ds hr hs Bo hc;have qA:=q1.len;simp only[EL.den,A6,List.length_nil]at qA
   match ds,qA,q1,Gi,Ha with
   | [d],_,q1,Gi,Ha=>
    cases d with
    |flat=>simp[DT.bu]at Gi
    |row e z l=>
     obtain⟨p,q,r,rfl⟩:=q1.head;obtain⟨xs,Ck⟩:∃xs,y.den c.ρ= .sl xs:=by
      obtain⟨_,_,⟨_,_,hx,_⟩|⟨_,_,_,_,_,_,hx,_⟩⟩:=q1.inv
      ·exact⟨_,hx⟩
      ·exact⟨_,hx⟩
     rw[if_neg (by rw[AH];simp)];refine⟨?_,by simp[Value.cells,Value.oneCell'],by rw[Ck,<-Ha];rfl,by rw[<-Ha];rfl,?_,q2⟩
     ·simp only[EL.den]at q1;rw[Ck]at q1 ⊢;exact q1
     ·rw[Ck];exact⟨λcs hh=>(by cases hh),λcs hh=>(by cases hh)⟩
  cases s with
  |agg cs=>
   simp only[H5]at AH hr;obtain⟨m,l,hm,hl,rfl⟩:=VG hy;cases hs with
   |agg h9 h1 h8=>rename_i as_;obtain⟨q1,q2⟩:=lF eh k ds hr h1 hl hc;obtain⟨l1,l2⟩:=q1.len;rw[if_pos AH.symm];exact⟨by simpa[Value.cells,AV.cells,E.den]using q1,by simpa[Value.cells]using h9,by simp only[E.den,AV.cells];omega,by simp[Value.cells];omega,⟨_,rfl⟩,q2⟩
  |_=>exact single AH.symm hr
theorem uV(eh:EH c hp)(k:Bt c.ρ gs){t:TypeId}{ds:List DT}(Ha:ds.length=P.cellsOf t)(hg:Ao P t=true\/P.cellsOf t=1):∀(ss:List SV) (vs:List Value) {xs:List E} {us:List Nat} {ck:List Cn},SR c ss vs->VJ P hp gs t ds ss=some (xs,us,ck)->(∀q∈ck,q.den c.ρ)->
  DC c.w (BI vs.length ds) (vs.flatMap λv=>v.cells.toList) (Aq (xs.map (E.den c.ρ))) (Cq c us)/\(∀v∈vs,v.cells.size=P.cellsOf t/\ ∀u∈v.cells.toList,u.oneCell'=true)/\(∀x∈xs,(x.den c.ρ).cells.length=P.cellsOf t)/\xs.length=vs.length/\ ∀u∈us,∃g,c.K u g
 | [],vs,xs,us,ck,hr,ht,hc=>by simp[VJ]at ht;obtain⟨rfl,rfl,rfl⟩:=ht;cases hr;exact⟨by simpa[Aq,BI,Cq]using DC.nil,by simp,by simp,rfl,by simp⟩
 |s::ss,[],xs,us,ck,hr,ht,hc=>by have:=hr.len;simp at this
 |s::ss,v::vs,xs,us,ck,hr,ht,hc=>by
  obtain⟨r1,r2⟩:=hr.cd;unfold VJ at ht;split at ht
  ·rename_i x us1 ck1 xs2 us2 ck2 h1 h2;simp only[Ad,AX]at ht;obtain⟨rfl,rfl,rfl⟩:=ht;obtain⟨q1,q2,q3,q4,q5,q6⟩:=vQ eh k Ha hg h1 r1 (λq hq=>hc q (by simp[hq]));obtain⟨p1,p2,p3,p4,p5⟩:=uV eh k Ha hg ss vs r2 h2 (λq hq=>hc q (by simp[hq]));refine⟨?_,?_,?_,by simp[p4],?_⟩
   ·have:=q1.app p1;rw[A6,Pj,Kb];simpa[Aq]using this
   ·intro u hu;rcases Ae.1 hu with rfl|hu
    ·exact⟨q4,q2⟩
    ·exact p2 u hu
   ·intro u hu;rcases Ae.1 hu with rfl|hu
    ·exact q3
    ·exact p3 u hu
   ·intro u hu;rcases Ac.1 hu with hu|hu
    ·exact q6 u hu
    ·exact p5 u hu
  ·cases ht
theorem vH(eh:EH c hp)(k:Bt c.ρ gs){e z:Nat}{l:List DT}{s:SV}{us:List Nat}{v:Value}{y:E}{m:Nat}(h:Wc hp gs e z l s=some us)(hs:SR c [s] [v])(hy:BB hp gs m s=some y):
  ∃ys q r news N,y.den c.ρ= .sl ys/\v= .slice q ys.length r/\Src c.w z q ys.length news/\DC c.w (BI ys.length l) news (Aq ys) N/\N.Sublist (Cq c us)/\(∀y∈ys,y.cells.length=z)/\(∀u∈news,u.oneCell'=true)/\ ∀u∈us,∃g,c.K u g:=by
 have empt:∀q,v= .slice q 0 0->y= .lst .nil->us=[]-> ∃ys q r news N,y.den c.ρ= .sl ys/\v= .slice q ys.length r/\Src c.w z q ys.length news/\DC c.w (BI ys.length l) news (Aq ys) N/\N.Sublist (Cq c us)/\(∀y∈ys,y.cells.length=z)/\(∀u∈news,u.oneCell'=true)/\ ∀u∈us,∃g,c.K u g:=by
  rintro q rfl rfl rfl;refine⟨[],q,0,[],[],rfl,rfl,?_,by simpa[BI,Aq]using DC.nil,by simp,by simp,by simp,by simp⟩;cases q with
  |none=>exact .inl ⟨rfl,rfl,rfl⟩
  |some p=>exact .inr ⟨p,rfl,by simp,by simp,by simp⟩
 unfold Wc at h;split at h
 ·simp only[Ad]at h;cases hs with
  |cc _=>exact empt _ rfl (LM hy) h.symm
 ·simp only[Ad]at h;cases hs with
  |emp _=>exact empt _ rfl (yZ hy) h.symm
 ·rename_i u g;split at h
  ·rename_i e' z' l' g' ep x hl;split at h
   ·rename_i hh;obtain⟨rfl,rfl,rfl,hb⟩:=hh;simp only[Ad]at h;subst h;have hb:=Ay.eo hb;subst hb;obtain⟨q1,q2,q3,q4,q5⟩:=eh u _ (CG hl k);have Hm:=nD (y:=x) hy (by simp only[II,hl,if_true]);subst Hm;cases hs with
    |own k1 k2 k3=>
     rename_i p0 n0 r0;rw[k2]at q4;have hK:∀w∈ [u],∃g,c.K w g:=λw hw=>by simp at hw;subst hw;exact⟨_,k1⟩
     obtain⟨d1,d2,⟨a9,d3,d4,d5⟩|⟨g9,cap,C,ys,N1,d3,d4,d5,d6,d7,d8,d9,d10,d11,d12⟩⟩:=q4.inv
     ·cases d3;refine⟨[],_,0,[],[],d4,rfl,?_,by simpa[BI,Aq]using DC.nil,by simp,by simp,by simp,hK⟩;cases p0 with
      |none=>exact .inl ⟨rfl,rfl,rfl⟩
      |some p=>exact .inr ⟨p,rfl,by simp,by simp,by simp⟩
     ·cases d3;rw[Ay.au]at d12;have DD:C.toList.length=r0*z:=by simpa using d9
      refine⟨ys,_,r0,_,N1,d4,rfl, .inr ⟨_,rfl,?_,λj w hw=> ?_,d11⟩,d12,?_,d10,d11,hK⟩
      ·rw[Au,DD];exact Nat.min_eq_left (Bq _ d7)
      ·rw[Addr.add_lit,Nat.zero_add,EA d6];rw[List.getElem?_take]at hw;split at hw
       ·simpa using hw
       ·cases hw
      ·rw[Zh,lP,AE,d5];exact List.sublist_cons_self _ _
   ·cases h
  ·cases h
 ·cases h
end
def F5(T:List Nat):List AU:=T.map λu=>⟨u,none,[], .dead⟩
theorem zz9(T:List Nat):(F5 T).flatMap AU.top=[]:=by induction T<;>simp_all[F5]
theorem zA6(T:List Nat):(F5 T).map AU.tag=T:=by induction T<;>simp_all[F5]
theorem zx8(T:List Nat):((F5 T).map λr=>(r.tag,CS [] r.bj))=Et T:=by simp[F5,Et,CS]
theorem Vs{T:List Nat}{r:AU}(h:r∈F5 T):r.tag∈T/\r.new=none/\r.top=[]/\r.bj= .dead:=by obtain⟨u,hu,rfl⟩:=List.mem_map.1 h;exact⟨hu,rfl,rfl,rfl⟩
section
variable {P:Program} {c:Cx} {n nx:Nat} {sl sl0:Nat->SV} {hp hp0:Nat->Option Af} {a:Act} {o:Oper} {gs:Gd} {e:Bb} {sg:BZ} {nv:Nat}
theorem Rel.j9(h:Rel c n sl hp a){T:List Nat}(hT:T.Nodup)(GL:∀u∈T,c.U u){r0:AU}(I5:r0.tag∉T)(GP:r0.new.isSome=true-> ¬c.U r0.tag)(DS:r0.new=none->c.U r0.tag){w':World}{hs:List Nat}(Hf:∀b∈hs,b∈(c.G r0.tag).top\/b∈Cq c T)(hm:Mod hs c.w w')
  (B7:r0.top.Nodup) (Cd:∀b∈r0.top,(b∈hs\/c.w.heap.size<=b)/\b<w'.heap.size) (BF:∀q f,r0.bj≠ .gd q f)
  (he:DW c (c.dg w' (r0::F5 T))->Ff c (c.dg w' (r0::F5 T)) w' (r0::F5 T)->Du (c.dg w' (r0::F5 T)) r0.tag r0.bj):
  Rel (c.dg w' (r0::F5 T)) n sl (Bi hp ((r0.tag,r0.bj)::Et T)) a/\DW c (c.dg w' (r0::F5 T))/\Ff c (c.dg w' (r0::F5 T)) w' (r0::F5 T)/\ ∀t,(c.dg w' (r0::F5 T)).U t->c.U t\/t=r0.tag:=by
 have hn:((r0::F5 T).map AU.tag).Nodup:=by rw[List.map_cons,zA6];exact List.nodup_cons.2 ⟨I5,hT⟩
 have A9:∀r∈r0::F5 T,r.new.isSome=true-> ¬c.U r.tag:=λr hr hs=>by
  rcases Ae.1 hr with rfl|hr
  ·exact GP hs
  ·rw[(Vs hr).2.1]at hs;cases hs
 have aft:=Cx.de (w':=w') h.bp hn A9;obtain⟨q1,q2⟩:=h.changes (gs:=[]) (E1 _) hm hn A9 (λb hb=>by
   rcases Hf b hb with hb|hb
   ·exact⟨r0,by simp,hb⟩
   ·obtain⟨t,ht,CI⟩:=RW.1 hb;exact⟨⟨t,none,[], .dead⟩,List.mem_cons_of_mem _ (List.mem_map.2 ⟨t,ht,rfl⟩),CI⟩)
  (by rw[List.flatMap_cons,zz9,AE];exact B7)
  (λr hr b hb=>by
   rcases Ae.1 hr with rfl|hr
   ·exact Cd b hb
   ·rw[(Vs hr).2.2.1]at hb;cases hb)
  (λr hr=>by
   rcases Ae.1 hr with rfl|hr
   ·exact BF
   ·rw[(Vs hr).2.2.2];intros;simp)
  (λhk r hr=>by
   rcases Ae.1 hr with rfl|hr
   ·exact he hk aft
   ·have kg:=aft.G r (List.mem_cons_of_mem _ hr);obtain⟨_,_,e1,e2⟩:=Vs hr;rw[e2];exact⟨by rw[kg,e1],by rw[kg]⟩)
 refine⟨?_,q2,aft,λt ht=> ?_⟩
 ·rw[List.map_cons,zx8]at q1;have:CS [] r0.bj=r0.bj:=rfl;rw[this]at q1;exact q1
 ·rcases ht with ht|⟨r,hr,rfl⟩
  ·exact .inl ht
  ·rcases Ae.1 hr with rfl|hr
   ·exact .inr rfl
   ·exact .inl (GL _ (Vs hr).1)
theorem AB.en(h:Bz P c n nx sl hp a sl0 hp0 o []){T:List Nat}(hT:T.Nodup)(GL:∀u∈T,∃g,c.K u g){v':Value}{w':World}{ck:List Cn}{e z:Nat}{l:List DT}{x:E}{top:List Nat}(hr:(execOp a.eval o).run P c.w= .ok (.value v') w')(hm:Mod (Cq c T) c.w w')
  (B7:top.Nodup) (Cd:∀b∈top,(b∈Cq c T\/c.w.heap.size<=b)/\b<w'.heap.size) (hd:DC w' [.row e z (Ay.of l)] [v'] [x.den c.ρ] top):
  AB P o c n nx sl hp [] a {ca:=ck,val:= .own nx 0,bj:=(nx, .deep e z l 0 0 x)::Et T}:=by
 intro next Q hk
 unfold Oper.wp;rw[hr,Oper.upon_value];have hU:=Ni h;have K5:∀u∈T,c.U u:=λu hu=>by obtain⟨g,hg⟩:=GL u hu;exact h.rel.bp _ _ hg
 obtain⟨q1,q2,q3,q4⟩:=h.rel.j9 (r0:=⟨nx,some v',top, .deep e z l 0 0 x⟩) hT K5 (λhh=>hU (K5 _ hh)) (λ_=>hU) (λhh=>by cases hh) (λb hb=> .inr hb) hm B7 Cd (by intros;simp) (λ_ aft=>by obtain⟨k1,k2,k3⟩:=aft.new _ (List.mem_cons_self ..) v' rfl;have kg:=aft.G _ (List.mem_cons_self ..);have ke:=aft.ic _ (List.mem_cons_self ..) rfl;simp only at k1 k2 k3 kg ke;exact⟨k1,k2,ke,by rw[k3,kg,aft.w,aft.ρ];exact hd,by rw[kg]⟩)
 obtain⟨k1,k2,k3⟩:=q3.new _ (List.mem_cons_self ..) v' rfl;simp only at k1 k3;obtain⟨p,m,r,rfl⟩:=hd.head;refine hk _ (c.dg w' _) ⟨rfl,rfl,rfl,rfl,λt ht=> ?_⟩ (q1.put (SR.own k1 k3 .nil) o.dst);rcases q4 t ht with ht|rfl
 ·exact .inl ht
 ·exact .inr ⟨AI _,by simp[BT]⟩
theorem AB.jt(h:Bz P c n nx sl hp a sl0 hp0 o []){T:List Nat}(hT:T.Nodup)(GL:∀u∈T,∃g,c.K u g){b g ep:Nat}(hb:b∉T)(hK:c.K b g)(Fl:∀g',c.K b g'->g'<=g)(hE:c.E b=ep){w':World}{ck:List Cn}{e z:Nat}{l:List DT}{x:E}{top:List Nat}(hr:(execOp a.eval o).run P c.w= .ok .skip w'){hs:List Nat}(Hf:∀q∈hs,q∈(c.G b).top\/q∈Cq c T)(hm:Mod hs c.w w')
  (B7:top.Nodup) (Cd:∀q∈top,(q∈hs\/c.w.heap.size<=q)/\q<w'.heap.size) (hd:DC w' [.row e z (Ay.of l)] [c.H b g] [x.den c.ρ] top):
  AB P o c n nx sl hp [] a {ca:=ck,bj:=(b, .deep e z l g (ep+1) x)::Et T}:=by
 intro next Q hk
 unfold Oper.wp;rw[hr,Oper.upon_skip];have K5:∀u∈T,c.U u:=λu hu=>by obtain⟨g,hg⟩:=GL u hu;exact h.rel.bp _ _ hg
 have bI:=h.rel.bp _ _ hK;obtain⟨q1,q2,q3,q4⟩:=h.rel.j9 (r0:=⟨b,none,top, .deep e z l g (ep+1) x⟩) hT K5 hb (λhh=>by cases hh) (λ_=>bI) Hf hm B7 Cd (by intros;simp) (λ_ aft=>by have kg:=aft.G _ (List.mem_cons_self ..);have ke:=aft.fw _ (List.mem_cons_self ..) rfl;obtain⟨k1,k2⟩:=aft.K b g hK;simp only at kg ke;exact⟨k1,λg' Ct=>Fl g' (aft.old b bI g' Ct),by rw[ke,hE],by rw[k2,kg,aft.w,aft.ρ];exact hd,by rw[kg]⟩)
 refine hk _ (c.dg w' _) ⟨rfl,rfl,rfl,rfl,λt ht=> ?_⟩ (q1.put ((SR.undef .nil).mkGd []) o.dst);rcases q4 t ht with ht|rfl
 ·exact .inl ht
 ·exact .inl bI
theorem mH{w w':World}{row:Option Nat}{S:List Nat}(h:w.grownBy w' row)(hr:∀g,row=some g->g∈S\/w.heap.size<=g):Mod S w w':=by
 refine⟨h.os,h.tape,h.output,h.size,λb hb hn=>h.block b hb λhh=> ?_⟩;rcases hr b hh.symm with h1|h1
 ·exact hn h1
 ·omega
theorem kQ(h:Bz P c n nx sl hp a sl0 hp0 o []){x y:Operand}{tx:TypeId}{cl:Call}(ho:o.op= .call cl)(Aw:cl.callee= .builtin .append)(CV:cl.args.toList=[x,y])(DP:cl.argTypes.toList=[tx,tx])
  {el:TypeId} (Bo:P.underlying tx=some (.slice el)) (hz:Hy P el=true) {l:List DT} (hl:l.length=P.cellsOf el) {T us:List Nat} (hT:(T++us).Nodup) (GL:∀u∈T,∃g,c.K u g) {s2:SV} {ye:E} (A7:BK sl0 [] y=some s2) (hy:BB hp0 [] A5 s2=some ye) (Cu:Wc hp0 [] el (P.cellsOf el) l s2=some us)
  {c0:E} {v:Value} (hv:a.eval x=v) {N:List Nat} (AY:DC c.w [.row el (P.cellsOf el) (Ay.of l)] [v] [c0.den c.ρ] N) (hN:N=Cq c T) {ck:List Cn} (BQ:Cn.den c.ρ (.room c0 ye (P.bytesOf el))):
  AB P o c n nx sl hp [] a {ca:=ck,val:= .own nx 0,bj:=(nx, .deep el (P.cellsOf el) l 0 0 (.app c0 ye))::Et (T++us)}:=by
 have Ah:cl.args= #[x,y]:=by apply Array.ext';simp[CV]
 have FP:cl.argTypes= #[tx,tx]:=by apply Array.ext';simp[DP]
 have CJ:y∈o.op.operands:=by simp[ho,Op.operands,Call.operands,Aw,Ah]
 obtain⟨i,z,hi,FL,CX,By,Cm,E4⟩:=KG hz;obtain⟨ys,q,r,news,N2,Dn,De,Dd,N7,BX,I7,Oo,dZ⟩:=vH h.eh h.gs Cu (h.ct A7 CJ) hy;have C8:=Zg h.rel.gw hT;rw[Kb]at C8;have EO:∀b∈Cq c (T++us),b<c.w.heap.size:=λb hb=>by obtain⟨t,_,CI⟩:=RW.1 hb;exact h.rel.gw.inb t b (by simp[GI.own,CI])
 obtain⟨mm,kk,GP,DS,MD,WQ⟩:=BQ;obtain⟨d1,d2,A1⟩:=AY.inv;rw[Ay.au]at d2 A1;have hU:∀u∈T++us,∃g,c.K u g:=λu hu=>by
  rcases Ac.1 hu with hu|hu
  ·exact GL u hu
  ·exact dZ u hu
 obtain⟨xs,old,N1,Ck,hold,Fw,bT,GR,CK,Kv,NS⟩:∃(xs:List AV) (old:List Value) (N1:List Nat),c0.den c.ρ= .sl xs/\old.length=xs.length*i.size/\((xs.length=0/\ ∃q,v= .slice q 0 0)\/ ∃g cap C,v= .slice (some ⟨g,0,none⟩) xs.length cap/\xs.length<=cap/\cap<=maxLen/\c.w.heap[g]?=some (.cells C el (0,0))/\C.size=cap*i.size/\old=C.toList.take (xs.length*i.size)/\(g∈Cq c T/\g∉N1))/\
   DC c.w (BI xs.length l) old (Aq xs) N1/\(∀y∈xs,y.cells.length=P.cellsOf el)/\(∀u∈old,u.oneCell'=true)/\(∀b∈N1,b∈Cq c T)/\N1.Nodup:=by
  rcases A1 with⟨p,rfl,FB,rfl⟩|⟨g9,cap,C,xs,N1,rfl,FB,rfl,h6,h7,h8,h9,Fh,EE,FH⟩
  ·exact⟨[],[],[],FB,by simp, .inl ⟨rfl,p,rfl⟩,by simpa[BI,Aq]using DC.nil,by simp,by simp,by simp,by simp⟩
  ·have B7:(g9::N1).Nodup:=by rw[hN];exact(List.nodup_append.1 C8).1
   rw[List.nodup_cons]at B7;refine⟨xs,_,N1,FB,?_, .inr ⟨g9,cap,C,rfl,h7,h8,h6,by rw[<-Cm];exact h9,rfl,by rw[<-hN];simp,B7.1⟩,by rw[<-Cm];exact FH,Fh,by rw[<-Cm];exact EE,λb hb=>by rw[<-hN];simp[hb],B7.2⟩;have e9:C.toList.length=cap*i.size:=by rw[<-Cm,<-h9];simp
   rw[Au,e9];exact Nat.min_eq_left (Bq _ h7)
 rw[Ck]at GP;rw[Dn]at DS;simp only[AV.len,AV.int.injEq,true_and]at GP DS;have Dx:(xs.length+ys.length)*i.bytes<=140737488355328:=by
  rw[<-GP,<-DS,E4]at MD;have h9:(((xs.length+ys.length)*i.bytes:Nat):Int)<=140737488355328:=by rw[Int.natCast_mul,Int.natCast_add];exact MD
  omega
 have F8:xs.length+ys.length<=140737488355328:=by rw[<-GP,<-DS]at WQ;omega
 rw[Cm]at Dd;obtain⟨v',w',AQ,AN⟩:=Su (P:=P) c.w tx o.type el i z Bo hi FL CX By (λg9=>g9∈Cq c T/\g9∉N1) v xs.length old hold Fw q ys.length r news Dd (by simp only[maxLen];omega) Dx;have Dc:(execOp a.eval o).run P c.w= .ok (.value v') w':=by simp[execOp,ho,resolve,Aw,Ah,FP,invoke,builtin,hv,De,AQ]
 have S5:∀b∈N2,b∈Cq c us:=λb hb=>BX.subset hb;have NT:N2.Nodup:=BX.nodup (List.nodup_append.1 C8).2.1;have K8:(E.app c0 ye).den c.ρ= .sl (xs++ys):=by simp only[E.den,Ck,Dn,AV.app]
 rcases AN with⟨rfl,rfl,Cj⟩|⟨g9,cap,C,rfl,h1,h2,h3,h4,h5,h6,h7⟩
 ·have HX:ys=[]:=List.eq_nil_of_length_eq_zero Cj;subst HX;refine AB.en h hT hU Dc (Mod.refl _ _) (top:=N) (by rw[hN];exact(List.nodup_append.1 C8).1) (λb hb=>⟨.inl (by rw[Kb,<-hN];simp[hb]),EO b (by rw[Kb,<-hN];simp[hb])⟩) ?_;rw[K8,AE,<-Ck];exact AY
 ·have Iu:(g9∈Cq c T\/c.w.heap.size<=g9)/\g9∉N1/\g9∉N2:=by
   rcases h7 with⟨rfl,_⟩|⟨hg,Ct⟩
   ·refine⟨.inr (AI _),λhh=> ?_,λhh=> ?_⟩
    ·have:=EO _ (by rw[Kb];exact Ac.2 (.inl (Kv _ hh)));omega
    ·have:=EO _ (by rw[Kb];exact Ac.2 (.inr (S5 _ hh)));omega
   ·exact⟨.inl hg,Ct,λhh=>(List.nodup_append.1 C8).2.2 _ hg _ (S5 _ hh) rfl⟩
  have Bc:∀b∈N1++N2,w'.heap[b]?=c.w.heap[b]?:=λb hb=>by
   have AG:b<c.w.heap.size:=EO b (by
    rw[Kb];rcases Ac.1 hb with hb|hb
    ·exact Ac.2 (.inl (Kv b hb))
    ·exact Ac.2 (.inr (S5 b hb)))
   refine h6.block b AG λhh=> ?_;cases hh;rcases Ac.1 hb with hb|hb
   ·exact Iu.2.1 hb
   ·exact Iu.2.2 hb
  refine AB.en h hT hU Dc (mH h6 λg hg=> ?_) (top:=g9::(N1++N2)) ?_ (λb hb=> ?_) ?_
  ·cases hg;rcases Iu.1 with hh|hh
   ·exact .inl (by rw[Kb];exact Ac.2 (.inl hh))
   ·exact .inr hh
  ·refine List.nodup_cons.2 ⟨λhh=> ?_,List.nodup_append.2 ⟨NS,NT,λp hp q hq=> ?_⟩⟩
   ·rcases Ac.1 hh with hh|hh
    ·exact Iu.2.1 hh
    ·exact Iu.2.2 hh
   ·exact(List.nodup_append.1 C8).2.2 p (Kv p hp) q (S5 q hq)
  ·rcases Ae.1 hb with rfl|hb
   ·refine⟨?_,Dp h3⟩;rcases Iu.1 with hh|hh
    ·exact .inl (by rw[Kb];exact Ac.2 (.inl hh))
    ·exact .inr hh
   ·have pW:b∈Cq c (T++us):=by
     rw[Kb];rcases Ac.1 hb with hb|hb
     ·exact Ac.2 (.inl (Kv b hb))
     ·exact Ac.2 (.inr (S5 b hb))
    exact⟨.inl pW,Nat.lt_of_lt_of_le (EO b pW) h6.size⟩
  ·rw[K8];have hlen:(xs++ys).length=xs.length+ys.length:=AO;rw[Cm]at d1 d2 GR I7 ⊢;have:=DC.row (w:=w') (e:=el) (z:=i.size) (l:=Ay.of l) (g:=g9) (cap:=cap) (C:=C) (ys:=xs++ys) (N1:=N1++N2) (ts:=[]) (vs:=[]) (xs:=[]) (N:=[]) d1 (by rw[Ay.au];exact d2) h3 (by rw[hlen];exact h1) h2 h4 (λw hw=> ?_) (by
     rw[hlen,h5];intro u hu;rcases Ac.1 hu with hu|hu
     ·exact CK u hu
     ·exact Oo u hu) (by
     rw[hlen,h5,Vf,Nl,Ay.au];exact(bT.app N7).frame Bc) .nil
   ·rw[hlen]at this;simpa using this
   ·rcases Ac.1 hw with hw|hw
    ·exact GR w hw
    ·exact I7 w hw
end
section
variable {P:Program} {c:Cx} {n nx:Nat} {sl sl0:Nat->SV} {hp hp0:Nat->Option Af} {a:Act} {o:Oper} {gs:Gd} {e:Bb} {sg:BZ} {nv:Nat}
theorem zyE{l:List Nat}(h:Ma l=true):l.Nodup:=R2 h
theorem zrw(h:Bz P c n nx sl hp a sl0 hp0 o gs){x y:Operand}{tx ty:TypeId}{cl:Call}(ho:o.op= .call cl)(Aw:cl.callee= .builtin .append)(CV:cl.args.toList=[x,y])(DP:cl.argTypes.toList=[tx,ty])
  {s1 s2:SV} (BM:BK sl0 gs x=some s1) (A7:BK sl0 gs y=some s2) (he:Zo P hp0 gs nx tx ty s1 s2=some e) (hc:∀q∈e.ca,Cn.den c.ρ q):AB P o c n nx sl hp gs a e:=by
 have Ah:cl.args= #[x,y]:=by apply Array.ext';simp[CV]
 have Dy:x∈o.op.operands:=by simp[ho,Op.operands,Call.operands,Aw,Ah]
 have CJ:y∈o.op.operands:=by simp[ho,Op.operands,Call.operands,Aw,Ah]
 unfold Zo at he;split at he
 ·cases he
 rename_i JS;have JS:tx=ty:=by simpa using JS
 subst JS;split at he
 ·rename_i el e' z dl Bo DH;have Jx:=Jc Bo;split at he
  ·cases he
  rename_i AA;simp only[not_or,Bf,Bool.not_eq_false,Bool.not_eq_true,ne_eq,Decidable.not_not]at AA;obtain⟨hz,Gi,rfl,rfl⟩:=AA;obtain⟨_,_,l,JH,D0⟩:=VI (Zx Bo) DH;simp only[DT.row.injEq,true_and]at JH;subst JH;rw[Ay.au]at he;have r1:=h.ct BM Dy;split at he
  ·rename_i ye us hy Cu;have hU:∀u∈us,∃g,c.K u g:=(vH h.eh h.gs Cu (h.ct A7 CJ) hy).choose_spec.choose_spec.choose_spec.choose_spec.choose_spec.2.2.2.2.2.2.2;have OC:us.Nodup:=by
    unfold Wc at Cu;split at Cu
    ·simp only[Ad]at Cu;subst Cu;simp
    ·simp only[Ad]at Cu;subst Cu;simp
    ·split at Cu
     ·split at Cu
      ·simp only[Ad]at Cu;subst Cu;simp
      ·cases Cu
     ·cases Cu
    ·cases Cu
   have WY:0<P.cellsOf e':=by obtain⟨i,_,_,_,_,h1,h2,_⟩:=KG hz;omega
   split at he
   ·rename_i t g;split at he
    ·rename_i e2 z2 l2 g2 ep c0 hl;split at he
     ·rename_i hh;obtain⟨rfl,rfl,hb,rfl,Ek⟩:=hh;have hb:=Ay.eo hb;subst hb;simp only[Ad]at he;subst he;obtain⟨q1,q2,q3,q4,q5⟩:=h.eh t _ (CG hl h.gs);generalize hv:a.eval x=v at r1;cases r1 with
      |own k1 k2 _=>rw[k2]at q4;simp only[Bf,List.contains_eq_mem,decide_eq_false_iff_not]at Ek;exact kQ h ho Aw CV DP Jx hz D0 (T:=[t]) (by simpa using List.nodup_cons.2 ⟨Ek,OC⟩) (λu hu=>by simp at hu;subst hu;exact⟨_,k1⟩) A7 hy Cu hv q4 (by simp[Cq]) (hc _ (by simp))
     ·cases he
    ·cases he
   ·simp only[Ad]at he;subst he;generalize hv:a.eval x=v at r1;cases r1 with
    |emp _=>exact kQ h ho Aw CV DP Jx hz D0 (T:=[]) (by simpa using OC) (by simp) A7 hy Cu hv (c0:= .lst .nil) (.void WY (by rw[Ay.au];exact D0) .nil) rfl (hc _ (by simp))
   ·simp only[Ad]at he;subst he;generalize hv:a.eval x=v at r1;cases r1 with
    |cc _=>exact kQ h ho Aw CV DP Jx hz D0 (T:=[]) (by simpa using OC) (by simp) A7 hy Cu hv (c0:= .lst .nil) (.void WY (by rw[Ay.au];exact D0) .nil) rfl (hc _ (by simp))
   ·cases he
  ·cases he
 ·cases he
theorem AB.fb(h:Bz P c n nx sl hp a sl0 hp0 o []){T:List Nat}(hT:T.Nodup)(GL:∀u∈T,∃g,c.K u g){ck:List Cn}{el z:Nat}{l:List DT}(hz:0<z)(hl:l.length=z){x:E}{xs:List AV}{C:Array Value}{cap:Nat}(hx:x.den c.ρ= .sl xs)(Aw:∀y∈xs,y.cells.length=z)(hle:xs.length<=cap)(Fi:cap<=maxLen)(hC:C.size=cap*z)
  (h1:∀u∈C.toList.take (xs.length*z),u.oneCell'=true) (hD:DC c.w (BI xs.length l) (C.toList.take (xs.length*z)) (Aq xs) (Cq c T))
  (hr:(execOp a.eval o).run P c.w= .ok (.value (.slice (some ⟨c.w.heap.size,0,none⟩) xs.length cap)) (c.w.alloc (.cells C el))):
  AB P o c n nx sl hp [] a {ca:=ck,val:= .own nx 0,bj:=(nx, .deep el z l 0 0 x)::Et T}:=by
 have EO:∀b∈Cq c T,b<c.w.heap.size:=λb hb=>by obtain⟨t,_,CI⟩:=RW.1 hb;exact h.rel.gw.inb t b (by simp[GI.own,CI])
 have A9:(c.w.alloc (.cells C el)).heap[c.w.heap.size]?=some (.cells C el (0,0)):=heap_alloc_new c.w _;have Od:c.w.grownBy (c.w.alloc (.cells C el)) (some c.w.heap.size):=⟨rfl,rfl,rfl,by simp,λj hj _=>Below.heap_alloc c.w _ _ hj⟩
 refine AB.en h hT GL hr (mH Od λg hg=> .inr (by cases hg;exact AI _)) (top:=c.w.heap.size::Cq c T) ?_ (λb hb=> ?_) ?_
 ·exact List.nodup_cons.2 ⟨λhh=>by have:=EO _ hh;omega,Zg h.rel.gw hT⟩
 ·rcases Ae.1 hb with rfl|hb
  ·exact⟨.inr (AI _),by simp⟩
  ·exact⟨.inl hb,Nat.lt_of_lt_of_le (EO b hb) (by simp)⟩
 ·rw[hx];have:=DC.row (w:=c.w.alloc (.cells C el)) (e:=el) (z:=z) (l:=Ay.of l) (g:=c.w.heap.size) (cap:=cap) (C:=C) (ys:=xs) (N1:=Cq c T) (ts:=[]) (vs:=[]) (xs:=[]) (N:=[]) hz (by rw[Ay.au];exact hl) A9 hle Fi hC Aw h1 (by
   rw[Ay.au];exact hD.frame λb hb=>Below.heap_alloc c.w _ _ (EO b hb)) .nil
  simpa using this
theorem zrU(h:Bz P c n nx sl hp a sl0 hp0 o gs){t:TypeId}{m:Nat}{parts:Array (Nat × Operand)}(ho:o.op= .buildSlice t m parts){ps:List (Nat × SV)}(MC:parts.toList.mapM (λ(p:Nat × Operand)=>(BK sl0 gs p.2).map λs=>(p.1,s))=some ps)(he:ZJ P hp0 gs nx t m ps=some e)(hc:∀q∈e.ca,Cn.den c.ρ q):AB P o c n nx sl hp gs a e:=by
 obtain⟨e1,e2⟩:=Zk (c:=c) (a:=a) (parts.toList.map (·.2)) (λx s hx hm=>h.ct hx (by simpa[ho,Op.operands]using hm)) (λx hx=>List.mem_map.2 ⟨x,hx,rfl⟩) MC;unfold ZJ at he;split at he
 ·rename_i el e' zz dl Jy DH;have Bo:=Jc Jy;split at he
  ·cases he
  rename_i AA;simp only[not_or,Bf,Bool.not_eq_false',ne_eq,Bool.not_eq_false,Bool.not_eq_true,Nat.not_lt,Decidable.not_not]at AA;obtain⟨hz,Gi,rfl,rfl,Bm,AH,hle,EG⟩:=AA;obtain⟨_,_,l,JH,D0⟩:=VI (Zx Jy) DH;simp only[DT.row.injEq,true_and]at JH;subst JH;rw[Ay.au]at he;have AH:Ao P e'=true\/P.cellsOf e'=1:=by simpa using AH
  obtain⟨i,z,hi,FL,CX,By,Cm,E4⟩:=KG hz;split at he
  ·rename_i xs us ck MK;split at he
   ·rename_i B7;simp only[Ad]at he;subst he;obtain⟨p1,p5,p6,p7,p8⟩:=uV h.eh h.gs D0 AH (ps.map (·.2)) (parts.toList.map λp=>a.eval p.2) e2 MK hc;have hlen:(parts.toList.map λp=>a.eval p.2).length=m:=by
     have:ps.length=m:=by have:=congrArg List.length EG;simpa using this
     have h9:=congrArg List.length e1;simp at h9 ⊢;omega
    have Hj:(parts.map λ(x:Nat × Operand)=>(x.1,a.eval x.2)).toList=((parts.toList.map λp=>a.eval p.2).zipIdx 0).map λp=>(p.2,p.1):=by
     have Og:parts.toList.map (·.1)=List.range m:=by rw[<-e1,EG]
     apply List.ext_getElem?;intro j;have hj:(parts.toList.map (·.1))[j]?=(List.range m)[j]?:=by rw[Og]
     simp only[Array.toList_map,List.getElem?_map,List.getElem?_zipIdx]at hj ⊢;cases hp:parts.toList[j]? with
     |none=>simp
     |some p=>
      rw[hp]at hj;simp only[Option.map_some,Ad]at hj ⊢;have cM:j<m:=by
       rcases Nat.lt_or_ge j m with hh|hh
       ·exact hh
       ·rw[List.getElem?_eq_none (by simpa using hh)]at hj;cases hj
      rw[List.getElem?_range cM]at hj;simp at hj;simp[hj]
    obtain⟨C',f1,f2⟩:=lQ (sz:=i.size) (λj=>some (j*i.size,i.size)) (λj=>rfl) (parts.toList.map λp=>a.eval p.2) 0 ((Array.range (m*i.size)).map (λj=>(if m*i.size=0 then #[]else z.cells)[j % (if m*i.size=0 then #[]else z.cells).size]!)) [] _ (by simp;rfl) (by simp) (by simp[hlen]) (λv hv=>by rw[<-Cm];exact(p5 v hv).1);have DD:C'.toList.length=m*P.cellsOf e':=by
     rw[f2,Cm];simp only[List.nil_append];have:∀(L:List Value),(∀v∈L,v.cells.size=i.size)->(L.flatMap λv=>v.cells.toList).length=L.length*i.size:=by
      intro L
      induction L with
      |nil=>intro _;simp
      |cons v L ih=>intro hL;simp only[List.flatMap_cons,AO,A6,BC];rw[ih (λu hu=>hL u (by simp[hu])),hL v (by simp),Nat.add_mul];omega
     rw[this _ (λv hv=>by rw[<-Cm];exact(p5 v hv).1),hlen]
    have IC:(xs.map (E.den c.ρ)).length=m:=by rw[List.length_map,p7,hlen]
    have BY:C'.toList.take ((xs.map (E.den c.ρ)).length*P.cellsOf e')=(parts.toList.map λp=>a.eval p.2).flatMap λv=>v.cells.toList:=by rw[IC,<-DD,List.take_length,f2];simp
    refine AB.fb h (zyE B7) p8 (by omega) D0 (xs:=xs.map (E.den c.ρ)) (C:=C') (cap:=m) (by simp[E.den,EL.db]) (λy hy=> ?_) (by omega) (by simp only[maxLen];have:m*1<=m*P.cellsOf e':=Nat.mul_le_mul_left _ (by omega);omega) (by rw[<-BC,DD]) ?_ ?_ ?_
    ·obtain⟨q,hq,rfl⟩:=List.mem_map.1 hy;exact p6 q hq
    ·rw[BY];intro u hu;obtain⟨v,hv,hu⟩:=List.mem_flatMap.1 hu;exact(p5 v hv).2 u hu
    ·rw[BY,IC,<-hlen];exact p1
    ·rw[IC];have AQ:=uM (P:=P) Bo Bm hi FL Cm m (by rw[<-Cm];omega) (parts.map λ(x:Nat × Operand)=>(x.1,a.eval x.2)) C' (by rw[Hj];exact f1) c.w;simp only[execOp,ho,Sem.run_bind];rw[AQ];rfl
   ·cases he
  ·cases he
 ·cases he
theorem kX{w:World}:∀{ds:List DT} {ss:List SV} {vs:List Value},PD ds ss=true->SR c ss vs-> ∀{xs:EL} {m:Nat},CD hp0 gs m ss=some xs->DC w ds vs (xs.den c.ρ) []
 | [],[],vs,_,hs,xs,m,hx=>by
  cases hs;cases m with
  |zero=>simp[CD]at hx
  |succ m=>simp[CD]at hx;subst hx;exact .nil
 | [],_::_,_,h,_,_,_,_=>by simp[PD]at h
 |_::_,[],_,h,_,_,_,_=>by simp[PD]at h
 |d::ds,s::ss,[],h,hs,_,_,_=>by have:=hs.len;simp at this
 |d::ds,s::ss,v::vs,h,hs,xs,m,hx=>by
  obtain⟨j,y,ys,rfl,hy,Dn,rfl⟩:=KH hx;obtain⟨r1,r2⟩:=hs.cd;simp only[PD,Ab]at h;have ih:=kX (w:=w) h.2 r2 Dn;unfold s7 at h;obtain⟨h1,_⟩:=h;split at h1
  ·rename_i y';rw[EL.den,KR hy];cases r1 with
   |e g1 g2 _=>
    cases y'<;>simp[Uw]at h1
    ·cases g1 with
     |int hk _=>exact .flat (.int hk .nil) ih
    ·cases g1 with
     |bool _=>exact .flat (.bool .nil) ih
    ·rename_i s0;generalize hq:(E.str s0).den c.ρ=q at g1;cases g1 with
     |str hk _=>exact .flat (.str hk .nil) ih
     |_=>simp[E.den]at hq
  ·simp only[Ab,AR,AK]at h1;rw[EL.den,LM hy];cases r1 with
   |cc _=>exact .void h1.1 h1.2 ih
  ·cases h1
theorem DC.rep{w:World}{ds:List DT}{vs:List Value}{xs:List AV}(h:DC w ds vs xs []):∀k,DC w (BI k ds) (List.replicate k vs).flatten (List.replicate k xs).flatten []
 |0=>by simpa[BI]using DC.nil
 |k+1=>by rw[Pj,List.replicate_succ,List.flatten_cons,List.replicate_succ,List.flatten_cons];simpa using h.app (DC.rep h k)
theorem zus(h:Bz P c n nx sl hp a sl0 hp0 o gs){t:TypeId}{l m:Operand}(ho:o.op= .makeSlice t l m){s1 s2:SV}(BM:BK sl0 gs l=some s1)(A7:BK sl0 gs m=some s2)(he:ZP P hp0 gs nx t s1 s2=some e)(hc:∀q∈e.ca,Cn.den c.ρ q):AB P o c n nx sl hp gs a e:=by
 have Dy:l∈o.op.operands:=by simp[ho,Op.operands]
 have CJ:m∈o.op.operands:=by simp[ho,Op.operands]
 unfold ZP at he;split at he
 ·rename_i el e' zz dl x y Jy DH;have Bo:=Jc Jy;split at he
  ·cases he
  rename_i AA;simp only[not_or,Bf,Bool.not_eq_false',ne_eq,Bool.not_eq_false,Bool.not_eq_true,Decidable.not_not]at AA;obtain⟨hz,Gi,rfl,rfl,Hl,cD⟩:=AA;have cD:gs=[]:=by simpa using cD
  subst cD;obtain⟨_,_,dl',JH,D0⟩:=VI (Zx Jy) DH;simp only[DT.row.injEq,true_and]at JH;subst JH;rw[Ay.au]at he;obtain⟨i,z,hi,FL,CX,By,Cm,E4⟩:=KG hz;have r1:=h.ct BM Dy;have r2:=h.ct A7 CJ;have ival:∀{x:E} {kk:IntKind} {k:Int} {v:Value},SR c [.e x] [v]->x.den c.ρ= .int kk k->v= .int kk k:=by
   intro x kk k v hr hx;cases hr with
   |e h1 _ _=>exact(F1 h1 hx).1
  split at he
  ·rename_i s hs;have hs:E9 z=some s:=by simpa[hi,FL]using hs
   split at he
   ·rename_i W0;obtain⟨w,hw,rfl⟩:=Ar.1 he;obtain⟨kk,k,hk,h0,hb,hle⟩:Cn.den c.ρ (.mkroom x (P.bytesOf e')):=Ch hc;have FA:=ival r1 hk;have De:=ival r2 (by rw[<-E.ay c.ρ _ _ Hl];exact hk);have rC:DC c.w dl' z.cells.toList (w.den c.ρ).cells []:=by
     have Lr:=Zp (c:=c) hs;unfold sK at W0;cases s with
     |agg cs=>
      obtain⟨k9,l9,hm,hl9,rfl⟩:=VG hw;cases Lr with
      |agg h9 h1 h8=>have:=kX (w:=c.w) W0 h1 hl9;simpa[Value.cells,AV.cells,E.den]using this
     |cc=>
      have Bo:CD hp0 [] (A5+1) [.cc]=some (.cons w .nil):=by unfold CD;rw[hw];rfl
      have:=kX (w:=c.w) W0 Lr Bo;rw[LM hw]at this ⊢;cases Lr with
      |cc _=>simpa[Value.cells,AV.cells,E.den,EL.den]using this
     |_=>cases W0
    obtain⟨c1,c2⟩:=lJ (w:=c.w) (ρ:=c.ρ) hs hw;obtain⟨kn,rfl⟩:=Int.eq_ofNat_of_zero_le h0;have DY:(i.bytes:Int)*(kn:Int)<=281474976710656:=by rw[E4]at hb;rw[Int.mul_comm];omega
    have hlen:=c1.len;have WI:=YP z.cells (by omega) kn;have AQ:=run_make (P:=P) c.w t e' i z Bo hi FL kk kk kn kn (by omega) (Int.le_refl _) DY (by omega);have Fy:(madeCells z.cells (kn*z.cells.size)).size=kn*P.cellsOf e':=by rw[size_madeCells,CX,Cm]
    have BY:(madeCells z.cells (kn*z.cells.size)).toList.take ((List.replicate kn (w.den c.ρ)).length*P.cellsOf e')=(List.replicate kn z.cells.toList).flatten:=by rw[List.length_replicate,List.take_of_length_le (by rw[BC,Fy];exact AI _),WI]
    have B5:Aq (List.replicate kn (w.den c.ρ))=(List.replicate kn (w.den c.ρ).cells).flatten:=by
     clear AQ Fy BY WI hb hle DY hk FA De h0 hc
     induction kn with
     |zero=>rfl
     |succ k ih=>simp only[List.replicate_succ,Aq,List.flatMap_cons,List.flatten_cons]at ih ⊢;rw[ih]
    refine AB.fb (T:=[]) h (by simp) (by simp) (by omega) D0 (xs:=List.replicate kn (w.den c.ρ)) (C:=madeCells z.cells (kn*z.cells.size)) (cap:=kn) (by simp[E.den,hk,AV.rep]) (λu hu=> ?_) (by simp) (by simp only[maxLen];omega) Fy ?_ ?_ ?_
    ·rw[List.eq_of_mem_replicate hu,<-hlen,BC,CX,Cm]
    ·rw[BY];intro u hu;obtain⟨q,hq,hu⟩:=List.mem_flatten.1 hu;rw[List.eq_of_mem_replicate hq]at hu;exact c2 u hu
    ·rw[BY,List.length_replicate,B5];exact rC.rep kn
    ·simp only[execOp,ho,FA,De,Sem.run_bind,Int.ofNat_eq_natCast,List.length_replicate];rw[AQ,CX];rfl
   ·cases he
  ·cases he
 ·cases he
end
section
variable {P:Program} {c:Cx} {n nx:Nat} {sl sl0:Nat->SV} {hp hp0:Nat->Option Af} {a:Act} {o:Oper} {gs:Gd} {e:Bb} {sg:BZ} {nv:Nat}
theorem vN{α:Type}(cs vs:List α)(o:Nat):setVs cs o vs=cs.take o++(vs++cs.drop (o+vs.length)):=by simp[setVs]
theorem DC.setVs{w:World}{ts:List DT}{L V:List Value}{X Y:List AV}{N1 N2 M:List Nat}{p:Nat}(h1:DC w (ts.take p) (L.take p) (X.take p) N1)(h2:DC w (ts.drop (p+V.length)) (L.drop (p+V.length)) (X.drop (p+V.length)) N2)(k:DC w ((ts.drop p).take V.length) V Y M):
  DC w ts (Go.Proofs.YtalagilebkaegaaGreat.setVs L p V) (Go.Proofs.YtalagilebkaegaaGreat.setVs X p Y) (N1++(M++N2)):=by
 have hk:=k.len;have ht:ts=ts.take p++((ts.drop p).take V.length++ts.drop (p+V.length)):=by rw[<-List.drop_drop,B8,B8]
 rw[vN,vN];have hl:Y.length=V.length:=by omega
 rw[hl];have:=h1.app (k.app h2);rw[<-ht]at this;exact this
theorem wL(h:Bz P c n nx sl hp a sl0 hp0 o []){t:TypeId}{x y:Operand}(ho:o.op= .store t x y){b g:Nat}{ix:E}{sz k:Nat}{s:SV}(r1:SR c [.cq b g ix sz k] [a.eval x])(r2:SR c [s] [a.eval y]){el:Nat}{l:List DT}{ep:Nat}{c0:E}(hK:c.K b g)(Fl:∀g',c.K b g'->g'<=g)(hE:c.E b=ep)
  (Bm:Dt P t=true) (hle:k+P.cellsOf t<=sz) (FJ:Ao P el=true\/(sz=1/\Ao P t=false)) (Eg:Ao P t=true\/P.cellsOf t=1)
  {xe:E} {us:List Nat} {ck:List Cn} (Cu:Sz P hp0 [] t ((l.drop k).take (P.cellsOf t)) s=some (xe,us,ck)) (Ir:∀q∈ck,q.den c.ρ) (B7:us.Nodup) (hb:b∉us)
  (Cd:∀(kk:IntKind) (kv:Int),ix.den c.ρ= .int kk kv-> ∃(m cap:Nat) (C:Array Value) (ys:List AV) (N1 N2:List Nat),c.H b g= .slice (some ⟨m,0,none⟩) ys.length cap/\c0.den c.ρ= .sl ys/\0<sz/\l.length=sz/\c.w.heap[m]?=some (.cells C el (0,0))/\ys.length<=cap/\cap<=maxLen/\C.size=cap*sz/\(∀y∈ys,y.cells.length=sz)/\(∀w∈C.toList.take (ys.length*sz),w.oneCell'=true)/\
   (m::(N1++N2)).Nodup/\(∀q∈m::(N1++N2),q∈(c.G b).top)/\DC c.w ((BI ys.length l).take (kv.toNat*sz+k)) ((C.toList.take (ys.length*sz)).take (kv.toNat*sz+k)) ((Aq ys).take (kv.toNat*sz+k)) N1/\
   DC c.w ((BI ys.length l).drop (kv.toNat*sz+k+P.cellsOf t)) ((C.toList.take (ys.length*sz)).drop (kv.toNat*sz+k+P.cellsOf t)) ((Aq ys).drop (kv.toNat*sz+k+P.cellsOf t)) N2):
  AB P o c n nx sl hp [] a {ca:=ck,bj:=(b, .deep el sz l g (ep+1) (.set c0 ix (.put (.idx c0 ix) k xe (Ao P el))))::Et us}:=by
 generalize hv:a.eval x=v at r1;cases r1 with
 |cq k1 k2 k3 k4 k5 k6=>
  rename_i m0 len cap0 kk kv;obtain⟨m,cap,C,ys,N1,N2,p1,p2,p3,p4,p5,p6,p7,p8,p9,p10,p11,p12,p13,p14⟩:=Cd kk kv k3;rw[k2]at p1;cases p1;have Iw:kv.toNat<ys.length:=by omega
  have hmul:(kv.toNat+1)*sz<=ys.length*sz:=Bq _ (by omega);have ES:ys.length*sz<=cap0*sz:=Bq _ p6;rw[Nat.add_mul]at hmul;have DD:C.toList.length=cap0*sz:=by simpa using p8
  obtain⟨q1,q2,q3,q4,q5,q6⟩:=vQ h.eh h.gs (by rw[Au,BD,p4];omega) Eg Cu r2 Ir;have Gj:=Nz Iw;generalize I8:(AV.sl ys).nth kv.toNat=yk at Gj;have FR:=p9 yk (List.mem_of_getElem? Gj);have En:(a.eval y).cells.toList.length=P.cellsOf t:=by simpa using q4
  obtain⟨m1,m2,m3⟩:=YN (vs:=(a.eval y).cells.toList) p5 (show(kv.toNat*sz+k)+_<=C.size by rw[En,p8];omega);have Ol:(C.toList.take (ys.length*sz)).length=ys.length*sz:=by rw[Au,DD];omega
  have HR:m0∈(c.G b).top:=p12 _ (by simp);have Lv:∀q∈Cq c us,q∉(c.G b).top:=λq hq hh=>by obtain⟨u,hu,dM⟩:=RW.1 hq;exact h.rel.gw.cm u b (λhh=>hb (hh▸hu)) q (by simp[GI.own,dM]) (by simp[GI.own,hh])
  have Mt:∀q∈Cq c us,q<c.w.heap.size:=λq hq=>by obtain⟨u,_,dM⟩:=RW.1 hq;exact h.rel.gw.inb u q (by simp[GI.own,dM])
  have Ms:∀q∈(c.G b).top,q<c.w.heap.size:=λq hq=>h.rel.gw.inb b q (by simp[GI.own,hq]);have Bc:∀q,q∈Cq c us\/(q∈N1++N2)->(putCells c.w m0 (kv.toNat*sz+k) (a.eval y).cells.toList).heap[q]?=c.w.heap[q]?:=λq hq=>by
   refine m1.block q ?_ ?_
   ·rcases hq with hq|hq
    ·exact Mt q hq
    ·exact Ms q (p12 q (by simp[Ac.1 hq]))
   ·simp only[List.mem_singleton];rintro rfl;rcases hq with hq|hq
    ·exact Lv _ hq HR
    ·exact(List.nodup_cons.1 p11).1 hq
  have hz:(yk.c8 k (xe.den c.ρ) (Ao P el)).cells=setVs yk.cells k (xe.den c.ρ).cells:=by
   refine mB ?_ (λhg=> ?_)
   ·cases hg:Ao P el with
    |true=>exact .inr rfl
    |false=>
     left;rcases FJ with h'|⟨_,h'⟩
     ·rw[hg]at h';cases h'
     ·rw[h']at q5;exact λcs=>(q5.1 cs)
   ·rcases FJ with h'|⟨h1,h'⟩
    ·rw[hg]at h';cases h'
    ·rw[h']at q5;have Tn:P.cellsOf t=1:=by rcases Eg with h2|h2;rw[h']at h2;cases h2;exact h2
     refine⟨by omega,by omega,?_⟩;cases eF:xe.den c.ρ<;>first|rfl|exact absurd eF (q5.1 _)
  have EJ:Aq (ys.set kv.toNat (yk.c8 k (xe.den c.ρ) (Ao P el)))=setVs (Aq ys) (kv.toNat*sz+k) (xe.den c.ρ).cells:=
   ZB ys _ _ yk k _ p9 Gj (by rw[q3];exact hle) hz
  have Ha:((BI ys.length l).drop (kv.toNat*sz+k)).take (P.cellsOf t)=(l.drop k).take (P.cellsOf t):=by rw[<-p4];exact Vo l _ _ _ _ Iw (by omega)
  have AQ:(execOp a.eval o).run P c.w= .ok .skip (putCells c.w m0 (kv.toNat*sz+k) (a.eval y).cells.toList):=by have:=lC (P:=P) (t:=t) (v:=a.eval y) (off:=kv.toNat*sz+k) p5 Bm q4 (by rw[q4,p8];omega) q2;simp[execOp,ho,hv,this]
  refine AB.jt h B7 q6 hb hK Fl hE AQ (hs:=(c.G b).top++Cq c us) (λq hq=>Ac.1 hq) ⟨m1.os,m1.tape,m1.output,m1.size,λq hq hn=>m1.block q hq λhh=>hn (by simp only[List.mem_singleton]at hh;subst hh;exact Ac.2 (.inl HR))⟩
   (top:=m0::(N1++(Cq c us++N2))) ?_ (λq hq=> ?_) ?_
  ·have hnT:=Zg h.rel.gw B7;rw[List.nodup_cons,List.nodup_append]at p11;obtain⟨n1,n2,n3,n4⟩:=p11;have a1:∀q∈Cq c us,q∉N1/\q∉N2/\q≠m0:=λq hq=>⟨λhh=>Lv q hq (p12 q (by simp[hh])),λhh=>Lv q hq (p12 q (by simp[hh])),λhh=>Lv q hq (hh▸HR)⟩
   rw[List.nodup_cons,List.nodup_append,List.nodup_append];refine⟨λhh=> ?_,n2,⟨hnT,n3,λp hp q hq WM=>(a1 p hp).2.1 (WM▸hq)⟩,λp hp q hq WM=> ?_⟩
   ·simp only[Ac]at hh n1;rcases hh with hh|hh|hh
    ·exact n1 (.inl hh)
    ·exact(a1 _ hh).2.2 rfl
    ·exact n1 (.inr hh)
   ·rcases Ac.1 hq with hq|hq
    ·exact(a1 q hq).1 (WM▸hp)
    ·exact n4 p hp q hq WM
  ·have:q∈(c.G b).top\/q∈Cq c us:=by
    simp only[Ae,Ac]at hq;rcases hq with rfl|hq|hq|hq
    ·exact .inl HR
    ·exact .inl (p12 q (by simp[hq]))
    ·exact .inr hq
    ·exact .inl (p12 q (by simp[hq]))
   refine⟨.inl (Ac.2 this),Nat.lt_of_lt_of_le ?_ m1.size⟩;rcases this with hh|hh
   ·exact Ms q hh
   ·exact Mt q hh
  ·have Co:(E.set c0 ix (.put (.idx c0 ix) k xe (Ao P el))).den c.ρ= .sl (ys.set kv.toNat (yk.c8 k (xe.den c.ρ) (Ao P el))):=by
    simp only[E.den,p2,k3,AV.idx,I8,AV.c6]
   rw[Co,k2];have D0:(ys.set kv.toNat (yk.c8 k (xe.den c.ρ) (Ao P el))).length=ys.length:=List.length_set;have:=DC.row (w:=putCells c.w m0 (kv.toNat*sz+k) (a.eval y).cells.toList) (e:=el) (z:=sz) (l:=Ay.of l) (g:=m0) (cap:=cap0) (ys:=ys.set kv.toNat (yk.c8 k (xe.den c.ρ) (Ao P el))) (N1:=N1++(Cq c us++N2)) (ts:=[]) (vs:=[]) (xs:=[]) (N:=[]) p3 (by rw[Ay.au];exact p4) m2 (by rw[D0];exact p6) p7 (by rw[List.size_toArray,R1 _ _ _ (by rw[En,DD];omega),BC];exact p8) (λw hw=> ?_) ?_ ?_ .nil
   ·rw[D0]at this;simpa using this
   ·rcases List.mem_or_eq_of_mem_set hw with hw|rfl
    ·exact p9 w hw
    ·rw[hz,R1 _ _ _ (by rw[q3,FR];exact hle)];exact FR
   ·simp only[D0,List.toList_toArray];rw[RZ _ _ _ _ (by rw[En];omega) (by rw[DD];omega)];intro u hu;unfold setVs at hu;simp only[Ac]at hu;rcases hu with(hu|hu)|hu
    ·exact p10 u (Br hu)
    ·exact q2 u hu
    ·exact p10 u (BO hu)
   ·simp only[D0,List.toList_toArray];rw[RZ _ _ _ _ (by rw[En];omega) (by rw[DD];omega),EJ,Ay.au];refine DC.setVs (p13.frame λq hq=>Bc q (.inr (by simp[hq]))) ?_ ?_
    ·rw[En];exact p14.frame λq hq=>Bc q (.inr (by simp[hq]))
    ·rw[En,Ha];exact q1.frame λq hq=>Bc q (.inl hq)
theorem zsj(h:Bz P c n nx sl hp a sl0 hp0 o gs){t:TypeId}{x y:Operand}(ho:o.op= .store t x y){b g:Nat}{ix:E}{sz k:Nat}{s:SV}(AY: ¬ ∃e z g c d,Dh hp0 gs b=some (.row e z g c d))(hx:BK sl0 gs x=some (.cq b g ix sz k))(hy:BK sl0 gs y=some s)
  (he:Nj P hp0 gs t (.cq b g ix sz k) s=some e) (hc:∀q∈e.ca,Cn.den c.ρ q):AB P o c n nx sl hp gs a e:=by
 have r1:=h.ct hx (by simp[ho,Op.operands]);have r2:=h.ct hy (by simp[ho,Op.operands]);simp only[Nj]at he;split at he
 ·rename_i hl;exact absurd ⟨_,_,_,_,_,hl⟩ AY
 ·rename_i el sz' l g' ep c0 hl;split at he
  ·rename_i hh;obtain⟨rfl,rfl,rfl,Bm,hle,FJ,Eg⟩:=hh;split at he
   ·rename_i xe us ck Cu;split at he
    ·cases he
    rename_i Ek;simp only[Bool.or_eq_true,Bf,not_or,Bool.not_eq_false,Bool.not_eq_true,List.contains_eq_mem,decide_eq_false_iff_not]at Ek;simp only[Ad]at he;subst he;obtain⟨e1,e2,e3,e4,e5⟩:=h.eh b _ (CG hl h.gs);refine wL h ho r1 r2 e1 e2 e3 Bm hle (by simpa using FJ) Eg Cu hc (R2 Ek.1) Ek.2 λkk kv TC=> ?_;generalize a.eval x=v at r1;cases r1 with
    |cq k1 k2 k3 k4 k5 _=>
     rw[k3]at TC;cases TC;obtain⟨d1,d2,⟨a9,d3,_⟩|⟨g9,cap9,C,ys,N,d3,d4,d5,d6,d7,d8,d9,d10,d11,d12⟩⟩:=e4.inv
     ·rw[k2]at d3;cases d3;omega
     ·rw[Ay.au]at d2 d12;obtain⟨N1,N2,N3,rfl,s1,s2,s3⟩:=d12.split (kv.toNat*sz+k) (P.cellsOf t);have B7:=h.rel.gw.nodup b;simp only[GI.own,e5,AE,d5]at B7;refine⟨g9,cap9,C,ys,N1,N3,d3,d4,d1,d2,d6,d7,d8,d9,d10,d11,?_,λq hq=> ?_,s1,s3⟩
      ·refine List.Sublist.nodup (List.Sublist.cons_cons _ ?_) B7;rw[List.append_assoc];exact List.Sublist.append (List.Sublist.refl _) (List.sublist_append_right _ _)
      ·rw[d5];simp only[Ae,Ac]at hq ⊢;rcases hq with hq|hq|hq
       ·exact .inl hq
       ·exact .inr (.inl (.inl hq))
       ·exact .inr (.inr hq)
   ·cases he
  ·cases he
 ·rename_i el sz' l g' ep c0 i' o' u' hl;split at he
  ·rename_i hh;obtain⟨rfl,rfl,rfl,Bm,rfl,hib,hle,Tn,Eg,FJ⟩:=hh;have Eg:Ao P t=false:=by simpa using Eg
   split at he
   ·rename_i xe us ck Cu;split at he
    ·cases he
    rename_i Ek;simp only[Bool.or_eq_true,Bf,not_or,Bool.not_eq_false,Bool.not_eq_true,List.contains_eq_mem,decide_eq_false_iff_not]at Ek;simp only[Ad]at he;subst he;obtain⟨e1,e2,e3,⟨m,cap,C,ys,kk,kv,N1,N2,p1,p2,p3,p4,p5,p6,p7,p7',p8,p9,p10,p11,p12,p13,p14,p15,p16,p17,p18⟩,e5⟩:=h.eh b _ (CG hl h.gs);refine wL h ho r1 r2 e1 e2 e3 Bm (by omega) (FJ.imp id λhh=>⟨hh,Eg⟩) (.inr Tn) (by rw[Tn];exact Cu) hc (R2 Ek.1) Ek.2 λkk' kv' TC=> ?_;rw[E.ay c.ρ _ _ hib,p3]at TC;cases TC;have B7:=h.rel.gw.nodup b;simp only[GI.own,e5,AE,p14]at B7;exact⟨m,cap,C,ys,N1,N2,p1,p2,p7,p7',p8,p9,p10,p11,p12,p13,B7,λq hq=>by rw[p14];exact hq,p17,by rw[Tn];exact p18⟩
   ·cases he
  ·cases he
 ·cases he
end
section
variable {P:Program} {c:Cx} {n nx:Nat} {sl sl0:Nat->SV} {hp hp0:Nat->Option Af} {a:Act} {o:Oper} {gs:Gd} {e:Bb} {sg:BZ} {nv:Nat}
theorem mP{w:World}{ety sz:Nat}{p:Option Addr}{m r:Nat}{x:AV}{top N:List Nat}(h:CZ w ety sz (.slice p m r) x top N):∃xs,x= .sl xs/\xs.length=m/\m<=r/\0<sz/\(∀y∈xs,y.cells.length=sz)/\
  ((xs=[]/\m=0/\r=0/\top=[]/\N=[])\/ ∃g C,p=some ⟨g,0,none⟩/\r<=maxLen/\w.heap[g]?=some (.cells C ety (0,0))/\C.size=r*sz/\top=[g]/\(∀u∈C.toList.take (m*sz),u.oneCell'=true)/\Rd w (C.toList.take (m*sz)) (Aq xs) N):=by
 obtain⟨xs,rfl,h2,h3,⟨rfl,⟨a,hv⟩,rfl,rfl⟩|⟨g,cap',C,hv,h6,h7,h8,h9,rfl,Fh,EE⟩⟩:=h
 ·cases hv;exact⟨[],rfl,rfl,AI _,h3,by simp, .inl ⟨rfl,rfl,rfl,rfl,rfl⟩⟩
 ·cases hv;exact⟨xs,rfl,rfl,h6,h3,h2, .inr ⟨g,C,rfl,h7,h8,h9,rfl,Fh,EE⟩⟩
theorem zuz(h:Bz P c n nx sl hp a sl0 hp0 o gs){t:TypeId}{x:Operand}{lo hi mx:Option Operand}(ho:o.op= .slice t x lo hi mx){s:SV}(hs:BK sl0 gs x=some s){l' h' m':Option SV}(BL:Ig (BK sl0 gs) lo=some l')(I1:Ig (BK sl0 gs) hi=some h')(CW:Ig (BK sl0 gs) mx=some m')(he:ZZ P hp0 gs t s l' h' m'=some e)(hc:∀q∈e.ca,Cn.den c.ρ q):AB P o c n nx sl hp gs a e:=by
 have hm:x∈o.op.operands:=by simp[ho,Op.operands]
 have JJ:∀y,lo=some y->y∈o.op.operands:=λy hy=>by simp[ho,Op.operands,hy]
 have Iy:∀y,hi=some y->y∈o.op.operands:=λy hy=>by simp[ho,Op.operands,hy]
 have hx:=h.ct hs hm;have ival:∀{x:E} {kk:IntKind} {k:Int} {v:Value},SR c [.e x] [v]->x.den c.ρ= .int kk k->v= .int kk k:=by
  intro x kk k v hr hx;cases hr with
  |e h1 _ _=>exact(F1 h1 hx).1
 have ex:(execOp a.eval o).run P c.w=((Instr.sliceAt t (a.eval x) (lo.map a.eval) (hi.map a.eval) (mx.map a.eval)).run P c.w).andThen λv w=> .ok (.value v) w:=by simp[execOp,ho]
 unfold ZZ at he;split at he
 ·rename_i el0 b g Bo;have hu:=Jc Bo;split at he
  ·cases he
  rename_i Bm;have Bm:Dt P el0=true:=by simpa using Bm
  have JL:mx=none:=by
   rcases GY CW with⟨hh,_⟩|⟨_,_,_,_,hh⟩
   ·exact hh
   ·cases hh
  subst JL;split at he
  ·rename_i el z g' c0 d hl;split at he
   ·cases he
   rename_i AA;simp only[not_or,Decidable.not_not,ne_eq]at AA;obtain⟨rfl,rfl,rfl⟩:=AA;obtain⟨q1,q2,N,q3,q4,q5,q6⟩:=h.eh b _ (CG hl h.gs);generalize hv:a.eval x=v at hx ex;cases hx with
   |own k1 k2 k3=>
    rename_i p m r;rw[k2]at q3;obtain⟨xs,Ck,IC,On,By,Aw,A1⟩:=mP q3;split at he
    ·rename_i l;simp only[Ad]at he;subst he;obtain⟨ka,ai,kb,bi,mm,d1,d2,d3,d4,d5,d6⟩:Cn.den c.ρ (.win c0 l (.len c0)):=Ch hc;have WJ:mm=(m:Int):=by rw[Ck]at d3;simp only[AV.len,AV.int.injEq,true_and]at d3;omega
     obtain⟨an,rfl⟩:=Int.eq_ofNat_of_zero_le d4;obtain⟨ol,B0,hol⟩:∃ol,lo=some ol/\BK sl0 [] ol=some (.e l):=by
      rcases GY BL with⟨_,hh⟩|⟨ol,sl',JB,Oe,Of⟩
      ·cases hh
      ·cases Of;exact⟨ol,JB,Oe⟩
     have JC:hi=none:=by
      rcases GY I1 with⟨hh,_⟩|⟨_,_,_,_,hh⟩
      ·exact hh
      ·cases hh
     subst B0;subst JC;have Li:=ival (h.ct hol (JJ _ rfl)) d1;have hle:an<=m:=by omega
     have AQ:=U8 (P:=P) (w:=c.w) (lo:=(some ol).map a.eval) (hi:=(none:Option Operand).map a.eval) hu Bm p m r an m (.inr ⟨ka,by rw[Option.map_some,Li]⟩) (.inl ⟨rfl,rfl⟩) hle (AI _) On;have:=SR.wown (c:=c) (lo:=l) (sz:=P.cellsOf el) (q':=if r=an then p else p.map (·.add (an*P.cellsOf el))) (r:=r-an) k1 k2 d1 d4 (by omega) (λAG=>by
      rcases A1 with⟨_,Cj,_⟩|⟨g9,C,rfl,_⟩
      ·omega
      ·exact⟨g9,rfl,by rw[if_neg (by omega)];simp[Addr.add_lit],by simp⟩) .nil
     refine AB.pure h (v:=sliced p an m r (P.cellsOf el)) ?_ (by simpa[sliced]using this) rfl;rw[ex];show Result.andThen (Sem.run P (Instr.sliceAt t (.slice p m r) ((some ol).map a.eval) ((none:Option Operand).map a.eval) none) c.w) _=_;rw[AQ];rfl
    ·rename_i hb;simp only[Ad]at he;subst he;obtain⟨ka,ai,kb,bi,mm,d1,d2,d3,d4,d5,d6⟩:Cn.den c.ρ (.win c0 (.int .i64 0) hb):=Ch hc;have WJ:mm=(m:Int):=by rw[Ck]at d3;simp only[AV.len,AV.int.injEq,true_and]at d3;omega
     simp only[E.den,AV.int.injEq]at d1;obtain⟨_,rfl⟩:=d1;obtain⟨bn,rfl⟩:=Int.eq_ofNat_of_zero_le d5;obtain⟨oh,JC,dE⟩:∃oh,hi=some oh/\BK sl0 [] oh=some (.e hb):=by
      rcases GY I1 with⟨_,hh⟩|⟨ol,sl',JB,Oe,Of⟩
      ·cases hh
      ·cases Of;exact⟨ol,JB,Oe⟩
     have B0:lo=none:=by
      rcases GY BL with⟨hh,_⟩|⟨_,_,_,_,hh⟩
      ·exact hh
      ·cases hh
     subst B0;subst JC;have Li:=ival (h.ct dE (Iy _ rfl)) d2;have hle:bn<=m:=by omega
     have AQ:=U8 (P:=P) (w:=c.w) (lo:=(none:Option Operand).map a.eval) (hi:=(some oh).map a.eval) hu Bm p m r 0 bn (.inl ⟨rfl,rfl⟩) (.inr ⟨kb,by rw[Option.map_some,Li]⟩) (Nat.zero_le _) hle On;have Di:sliced p 0 bn r (P.cellsOf el)= .slice p bn r:=by
      unfold sliced;rcases A1 with⟨_,_,rfl,_⟩|⟨g9,C,rfl,_⟩
      ·simp
      ·split<;>simp[Addr.add_lit]
     rw[Di]at AQ;have Dc:(execOp a.eval o).run P c.w= .ok (.value (.slice p bn r)) c.w:=by rw[ex];show Result.andThen (Sem.run P (Instr.sliceAt t (.slice p m r) ((none:Option Operand).map a.eval) ((some oh).map a.eval) none) c.w) _=_;rw[AQ];rfl
     have A9: ¬c.K b (g+1):=λhk=>by have:=q2 _ hk;omega
     have hrel:=h.rel;have DZ:=hrel.bd (gs:=[]) (t:=b) (g:=g+1) (w':=c.w) (row:=(c.G b).top.head?) (top:=(c.G b).top) (O:=if d=true then(c.G b).O else []) (v:= .slice p bn r) (.inr (by omega)) A9 ⟨rfl,rfl,rfl,AI _,λ_ _ _=>rfl⟩ (λg0 Fj=> .inl (List.mem_of_mem_head? Fj)) (by
       rcases A1 with⟨_,_,_,ht,_⟩|⟨g9,C,_,_,_,_,ht,_⟩
       ·exact .inl ht
       ·exact .inr ⟨g9,by rw[ht];rfl,ht⟩) (by split;exact .inr rfl;exact .inl rfl)
      (.row el (P.cellsOf el) (g+1) (.win c0 (.int .i64 0) hb) d) (by intros;simp) (E1 _) (λGN=>by
       have IB:(E.win c0 (.int .i64 0) hb).den c.ρ= .sl (xs.take bn):=by simp only[E.den,Ck,d2,AV.win];simp
       obtain⟨N',Bd,Wz⟩:∃N',CZ c.w el (P.cellsOf el) (.slice p bn r) (.sl (xs.take bn)) (c.G b).top N'/\ ∀q∈N',q∈N:=by
        rcases A1 with⟨rfl,Cj,rfl,ht,rfl⟩|⟨g9,C,rfl,Fl,PZ,hC,ht,h1,Da⟩
        ·have:bn=0:=by omega
         subst this;exact⟨[],⟨[],by simp,by simp,By, .inl ⟨rfl,⟨p,rfl⟩,ht,rfl⟩⟩,by simp⟩
        ·obtain⟨N',aV,CA⟩:=Da.piece 0 (bn*P.cellsOf el);have Ix:(xs.take bn).length=bn:=by rw[Au];omega
         have hmul:bn*P.cellsOf el<=m*P.cellsOf el:=Bq _ hle;have ef:=mJ xs Aw 0 bn (Nat.zero_le _) (by omega);simp only[Nat.zero_mul,Nat.sub_zero,List.drop_zero]at ef CA;rw[ef,List.take_take,Nat.min_eq_left hmul]at CA;refine⟨N',⟨xs.take bn,rfl,λy hy=>Aw y (Br hy),By, .inr ⟨g9,r,C,by rw[Ix],by rw[Ix];omega,Fl,PZ,hC,ht,?_,?_⟩⟩,aV⟩
         ·rw[Ix];intro u hu;refine h1 u ?_;have:C.toList.take (bn*P.cellsOf el)=(C.toList.take (m*P.cellsOf el)).take (bn*P.cellsOf el):=by rw[List.take_take,Nat.min_eq_left hmul]
          rw[this]at hu;exact Br hu
         ·rw[Ix];exact CA
       refine⟨.inr ⟨rfl,rfl⟩,λg'' Oc=> ?_,N',?_,λq hq=>GN.ok q (Bd.ll q hq) (q4 q (Wz q hq)),λhd=> ?_,λhd=>by simp[Cx.bd,hd]⟩
       ·rcases Oc with Oc|⟨_,rfl⟩
        ·have:=q2 _ Oc;omega
        ·exact AI _
       ·have e1:(c.bd b (g+1) c.w (.slice p bn r) (c.G b).top (if d=true then(c.G b).O else [])).H b (g+1)= .slice p bn r:=by simp[Cx.bd]
        have e2:((c.bd b (g+1) c.w (.slice p bn r) (c.G b).top (if d=true then(c.G b).O else [])).G b).top=(c.G b).top:=by simp[Cx.bd]
        rw[e1,e2];show CZ c.w el (P.cellsOf el) _ ((E.win c0 (.int .i64 0) hb).den c.ρ) _ N';rw[IB];exact Bd
       ·obtain⟨u1,u2⟩:=q5 hd;have u1:N=[]:=u1;subst u1;have NR:N'=[]:=List.eq_nil_iff_forall_not_mem.2 λq hq=>by simpa using Wz q hq
        subst NR;exact⟨rfl,by simp only[Cx.bd,if_true,hd];exact u2⟩)
     intro next Q hk
     unfold Oper.wp;rw[Dc,Oper.upon_value];refine hk _ (c.bd b (g+1) c.w (.slice p bn r) (c.G b).top (if d=true then(c.G b).O else [])) ⟨rfl,rfl,rfl,rfl,λu hu=> ?_⟩ (DZ.put (SR.mkGd (c:=c.bd b (g+1) c.w (.slice p bn r) (c.G b).top (if d=true then(c.G b).O else [])) (s:= .own b (g+1)) (v:= .slice p bn r) (.own (show _\/_ from .inr ⟨rfl,rfl⟩) (by simp[Cx.bd]) .nil) []) o.dst);rcases hu with hu|rfl
     ·exact .inl hu
     ·exact .inl (h.rel.bp _ _ k1)
    ·cases he
  ·cases he
 ·cases he
theorem zsi(z:Array Value)(hz:0<z.size)(k:Nat):(Builtin.zeroCells z k).toList=(List.replicate k z.toList).flatten:=by have:=YP z hz k;rw[<-this];rfl
theorem zyf(h:Bz P c n nx sl hp a sl0 hp0 o gs){x:Operand}{tx:TypeId}{cl:Call}(ho:o.op= .call cl)(Aw:cl.callee= .builtin .clear)(CV:cl.args.toList=[x])(DP:cl.argTypes.toList=[tx]){s:SV}(hs:BK sl0 gs x=some s)(he:nO P hp0 gs tx s=some e)(hc:∀q∈e.ca,Cn.den c.ρ q):AB P o c n nx sl hp gs a e:=by
 have Ah:cl.args= #[x]:=by apply Array.ext';simp[CV]
 have FP:cl.argTypes= #[tx]:=by apply Array.ext';simp[DP]
 have hm:x∈o.op.operands:=by simp[ho,Op.operands,Call.operands,Aw,Ah]
 have hx:=h.ct hs hm;unfold nO at he;split at he
 ·rename_i el0 b g l z Bo;have hu:=Jc Bo;split at he
  ·rename_i el z' g' c0 d hl;split at he
   ·cases he
   rename_i AA;simp only[not_or,Bf,Bool.not_eq_false,Decidable.not_not,ne_eq]at AA;obtain⟨rfl,rfl,rfl,rfl,hz,AH⟩:=AA;have AH:Ao P el=true\/P.cellsOf el=1:=by simpa using AH
   obtain⟨i,zv,hi,FL,CX,By,Cm,E4⟩:=KG hz;split at he
   ·rename_i q hq;split at he
    ·rename_i w hw;have hq:E9 zv=some q:=by simpa[hi,FL]using hq
     simp only[Ad]at he;subst he;obtain⟨c1,c2⟩:=lJ (w:=c.w) (ρ:=c.ρ) hq hw;have AN:=L2 h.hp (CG hl h.gs);obtain⟨q1,q2,N,q3,q4,q5,q6⟩:=h.rel.ents b _ AN;generalize hv:a.eval x=v at hx;cases hx with
     |wown k1 k2 k3 k4 k5 k6 k7=>
      rename_i p m r q' r' kk kv;rw[k2]at q3;obtain⟨xs,Ck,IC,On,dX,N4,A1⟩:=mP q3;have N5:(E.bin .sub (.len c0) l).den c.ρ≠ .undef:=hc (.dfd (.bin .sub (.len c0) l)) (by simp);have Mw:kk= .i64:=by
       simp only[E.den,Ck,AV.len,k3,AV.bin]at N5;split at N5
       ·rename_i hh;rcases hh with hh|hh|hh
        ·exact hh.symm
        ·cases hh
        ·cases hh
       ·exact absurd rfl N5
      subst Mw;have Co:(E.bin .sub (.len c0) l).den c.ρ= .int .i64 ((m:Int)-kv):=by
       simp only[E.den,Ck,AV.len,k3,AV.bin,true_or,if_true,Cw,IC];congr 1;have hm63:(m:Int)<=9223372036854775807:=by
        rcases A1 with⟨_,h0,_⟩|⟨_,_,_,Fl,_⟩
        ·omega
        ·have:maxLen=9223372036854775807:=rfl;omega
       exact(Pq .i64 _).2 ⟨by simp[IntKind.min,IntKind.signed,IntKind.bits];omega,by simp[IntKind.max,IntKind.signed,IntKind.bits];omega⟩
      have A9:(E.app (.win c0 (.int .i64 0) l) (.rep (.bin .sub (.len c0) l) w)).den c.ρ= .sl (xs.take kv.toNat++List.replicate (m-kv.toNat) (w.den c.ρ)):=by
       have e1:(E.win c0 (.int .i64 0) l).den c.ρ= .sl (xs.take kv.toNat):=by simp only[E.den,Ck,k3,AV.win];simp
       have e2:(E.rep (.bin .sub (.len c0) l) w).den c.ρ= .sl (List.replicate (m-kv.toNat) (w.den c.ρ)):=by show AV.rep ((E.bin .sub (.len c0) l).den c.ρ) (w.den c.ρ)=_;rw[Co];simp only[AV.rep];congr 2;omega
       show AV.app _ _=_;rw[e1,e2];rfl
      have ex:(execOp a.eval o).run P c.w=((Builtin.clear_ #[tx] o.type #[.slice q' (m-kv.toNat) r']).run P c.w).andThen λv w=> .ok (.value v) w:=by simp[execOp,ho,resolve,Aw,Ah,FP,invoke,builtin,hv]
      rcases Nat.eq_or_lt_of_le (show kv.toNat<=m by omega)with heq|AG
      ·
       have BX:m-kv.toNat=0:=by omega
       have AQ:(execOp a.eval o).run P c.w= .ok (.value (.tuple #[])) c.w:=by rw[ex,BX];cases q'<;>simp[Builtin.clear_,run_underlying hu]
       have Bc:(E.app (.win c0 (.int .i64 0) l) (.rep (.bin .sub (.len c0) l) w)).den c.ρ=c0.den c.ρ:=by rw[A9,Ck,BX];simp[List.take_of_length_le (show xs.length<=kv.toNat by omega)]
       intro next Q hk
       unfold Oper.wp;rw[AQ,Oper.upon_value];have DZ:Rel c n sl (Bi hp [(b, .row el (P.cellsOf el) g (.app (.win c0 (.int .i64 0) l) (.rep (.bin .sub (.len c0) l) w)) d)]) a:=by
        have D2:∀u,Bi hp [(b, .row el (P.cellsOf el) g (.app (.win c0 (.int .i64 0) l) (.rep (.bin .sub (.len c0) l) w)) d)] u=if u=b then some (.row el (P.cellsOf el) g (.app (.win c0 (.int .i64 0) l) (.rep (.bin .sub (.len c0) l) w)) d)else hp u:=λu=>rfl;refine h.rel.change (λu=>u=b) (DW.refl c) h.rel.base (λu hu=>⟨by rw[D2,if_neg hu],rfl,rfl,λ_ hk=>hk⟩) (λ_ _ _ _=>rfl) (λu hu=> ?_) h.rel.gw h.rel.bp (λu f hf=> ?_)
        ·subst hu;rw[D2,if_pos rfl];refine⟨λe' hr=> ?_,λhn=>absurd rfl (hn _)⟩;simp only[CE]at hr;subst hr;exact⟨q1,q2,N,by rw[Bc,k2];exact q3,q4,q5,q6⟩
        ·rw[D2]at hf;split at hf
         ·rename_i hu;subst hu;exact h.rel.bp _ _ k1
         ·exact h.rel.cr u f hf
       exact hk _ c (MV.refl _ _) (DZ.put ((SR.undef .nil).mkGd []) o.dst)
      ·obtain⟨b9,qQ,rfl,rfl⟩:=k6 (by omega);rcases A1 with⟨_,h0,_⟩|⟨g9,C,hp',Fl,PZ,hC,ht,h1,Da⟩
       ·omega
       rw[qQ]at hp';cases hp';have DD:C.toList.length=r*P.cellsOf el:=by simpa using hC
       have qL:m*P.cellsOf el<=r*P.cellsOf el:=Bq _ On;have qK:(m-kv.toNat)*P.cellsOf el+kv.toNat*P.cellsOf el=m*P.cellsOf el:=by rw[<-Nat.add_mul];congr 1;omega
       have eL:=zsi zv.cells (by omega) (m-kv.toNat);generalize hZ:(List.replicate (m-kv.toNat) zv.cells.toList).flatten=Z at eL;have NX:Z.length=(m-kv.toNat)*P.cellsOf el:=by rw[<-hZ,List.length_flatten];simp only[List.map_replicate,List.sum_replicate_nat,BC,CX,Cm]
       have pV:∀u∈Z,u.oneCell'=true:=λu hu=>by rw[<-hZ]at hu;obtain⟨L,hL,hu⟩:=List.mem_flatten.1 hu;rw[List.eq_of_mem_replicate hL]at hu;exact c2 u hu
       have Lo:=kR (P:=P) (off:=kv.toNat*P.cellsOf el) Z 0 c.w C PZ (by rw[NX,hC];omega) pV;have AQ:(execOp a.eval o).run P c.w= .ok (.value (.tuple #[])) (putCells c.w b9 (kv.toNat*P.cellsOf el) Z):=by
        rw[ex];obtain⟨mm,WJ⟩:∃mm,m-kv.toNat=mm+1:=⟨m-kv.toNat-1,by omega⟩
        have hzv:(zeroValue el).run P c.w= .ok zv c.w:=by simp[zeroValue,typeInfo,hi,FL]
        simp only[Nat.add_zero]at Lo;rw[WJ]at eL ⊢;simp[Builtin.clear_,run_underlying hu,hzv,eL,Lo]
       obtain⟨m1,m2,m3⟩:=YN (off:=kv.toNat*P.cellsOf el) (vs:=Z) PZ (by rw[NX,hC];omega);have Ol:(C.toList.take (m*P.cellsOf el)).length=m*P.cellsOf el:=by rw[Au,DD];omega
       have MP:b9∈(c.G b).top:=by rw[ht];simp
       have Tb:Rd c.w Z (Aq (List.replicate (m-kv.toNat) (w.den c.ρ))) []:=by rw[<-hZ];exact pB c1 _
       obtain⟨n1,n2,n3,hN,s1,s2⟩:=Rd.setVs (p:=kv.toNat*P.cellsOf el) Da Tb (by rw[Ol,NX];omega);have qZ:(w.den c.ρ).cells.length=P.cellsOf el:=by have:=c1.len;rw[<-this];simp[CX,Cm]
       have hYl:(Aq (List.replicate (m-kv.toNat) (w.den c.ρ))).length=Z.length:=by rw[<-Tb.len]
       have B5:setVs (Aq xs) (kv.toNat*P.cellsOf el) (Aq (List.replicate (m-kv.toNat) (w.den c.ρ)))=Aq (xs.take kv.toNat++List.replicate (m-kv.toNat) (w.den c.ρ)):=by
        have ef:=mJ xs N4 0 kv.toNat (Nat.zero_le _) (by omega)
        simp only[Nat.zero_mul,Nat.sub_zero,List.drop_zero]at ef;unfold setVs;rw[ef,Vf,hYl,NX,List.drop_eq_nil_of_le (by rw[KI _ N4,IC];omega),AE]
       rw[B5]at s1;have Cd:∀q∈n1++ []++n3,q∈N:=λq hq=>by rw[hN];simp at hq ⊢;rcases hq with hq|hq<;>simp[hq]
       have FM:∀q,q<c.w.heap.size->c.ok q->(putCells c.w b9 (kv.toNat*P.cellsOf el) Z).heap[q]?=c.w.heap[q]?:=by intro q hq AZ;refine m1.block q hq ?_;simp only[List.mem_singleton];rintro rfl;exact AZ.1 ⟨b,MP⟩
       have D0:(xs.take kv.toNat++List.replicate (m-kv.toNat) (w.den c.ρ)).length=m:=by rw[AO,Au,List.length_replicate];omega
       have DZ:=h.rel.ja (t:=b) (b:=b9) (w':=putCells c.w b9 (kv.toNat*P.cellsOf el) Z) (O:=if d=true then(c.G b).O else []) AN MP (by split;exact .inr rfl;exact .inl rfl) m1 m3
        (.row el (P.cellsOf el) g (.app (.win c0 (.int .i64 0) l) (.rep (.bin .sub (.len c0) l) w)) d) (by intros;simp) (λGN=>by
         refine⟨q1,q2,n1++ []++n3,?_,λq hq=>GN.ok q (Da.inb q (Cd q hq)) (q4 q (Cd q hq)),λhd=> ?_,λhd=>by simp[Cx.ew,hd]⟩
         ·show CZ (putCells c.w b9 (kv.toNat*P.cellsOf el) Z) el (P.cellsOf el) (c.H b g) ((E.app (.win c0 (.int .i64 0) l) (.rep (.bin .sub (.len c0) l) w)).den c.ρ) _ _;rw[A9,k2,qQ];refine⟨_,rfl,λy hy=> ?_,dX, .inr ⟨b9,r,_,by rw[D0],by rw[D0];exact On,Fl,m2,?_,by simpa[Cx.ew]using ht,?_,?_⟩⟩
          ·rcases Ac.1 hy with hy|hy
           ·exact N4 y (Br hy)
           ·rw[List.eq_of_mem_replicate hy];exact qZ
          ·rw[List.size_toArray,R1 _ _ _ (by rw[NX,DD];omega),BC];exact hC
          ·simp only[D0,List.toList_toArray];rw[RZ _ _ _ _ (by rw[NX];omega) (by rw[DD];omega)];intro u hu;unfold setVs at hu;simp only[Ac]at hu;rcases hu with(hu|hu)|hu
           ·exact h1 u (Br hu)
           ·exact pV u hu
           ·exact h1 u (BO hu)
          ·simp only[D0,List.toList_toArray];rw[RZ _ _ _ _ (by rw[NX];omega) (by rw[DD];omega)];exact s1.frame λq hq=>FM q (Da.inb q (Cd q hq)) (q4 q (Cd q hq))
         ·obtain⟨u1,u2⟩:=q5 hd;have u1:N=[]:=u1;subst u1;have NR:n1++ []++n3=[]:=List.eq_nil_iff_forall_not_mem.2 λq hq=>by simpa using Cd q hq
          rw[NR];exact⟨rfl,by simp only[Cx.ew,if_true,hd];exact u2⟩)
       intro next Q hk
       unfold Oper.wp;rw[AQ,Oper.upon_value];exact hk _ (c.ew _ b _) ⟨rfl,rfl,rfl,rfl,λt ht=> .inl ht⟩ (DZ.put ((SR.undef .nil).mkGd []) o.dst)
    ·cases he
   ·cases he
  ·cases he
 ·cases he
end
section
variable {P:Program} {c:Cx} {n nx:Nat} {sl sl0:Nat->SV} {hp hp0:Nat->Option Af} {a:Act} {o:Oper} {gs:Gd} {e:Bb} {sg:BZ} {nv:Nat}
theorem zAh(l:List DT){n i:Nat}(hi:i<=n):BI n l=BI i l++BI (n-i) l:=by rw[<-Nl];congr 1;omega
theorem zyb{K:Nat}{xs:List AV}(h:∀y∈xs,y.cells.length=K){i:Nat}(hi:i<=xs.length):Aq (xs.take i)=(Aq xs).take (i*K)/\Aq (xs.drop i)=(Aq xs).drop (i*K):=by
 have l1:(Aq (xs.take i)).length=i*K:=by rw[KI _ λy hy=>h y (Br hy),Au,Nat.min_eq_left hi]
 have e:Aq xs=Aq (xs.take i)++Aq (xs.drop i):=by rw[<-Vf,B8]
 rw[e,<-l1,List.take_left,List.drop_left];exact⟨rfl,rfl⟩
theorem DC.l8{w:World}{xs:List AV}{l:List DT}{K:Nat}{cs:List Value}{N:List Nat}(hK:l.length=K)(h:DC w (BI xs.length l) cs (Aq xs) N)(hx:∀y∈xs,y.cells.length=K){i:Nat}(hi:i<=xs.length):
  ∃N1 N2,N=N1++N2/\DC w (BI i l) (cs.take (i*K)) (Aq (xs.take i)) N1/\DC w (BI (xs.length-i) l) (cs.drop (i*K)) (Aq (xs.drop i)) N2:=by
 have hlen:=h.len;have t1:=zyb hx hi;have hmul:=Bq K hi;rw[zAh l hi,<-B8 (i*K) cs,<-B8 (i*K) (Aq xs)]at h;rw[KJ,hK]at hlen;obtain⟨N1,N2,rfl,h1,h2⟩:=DC.dr (by rw[KJ,hK,Au];omega) (by rw[KJ,hK,Au];omega) h;exact⟨N1,N2,rfl,by rw[t1.1];exact h1,by rw[t1.2];exact h2⟩
theorem zwd(h:Bz P c n nx sl hp a sl0 hp0 o gs){t:TypeId}{x:Operand}{lo hi mx:Option Operand}(ho:o.op= .slice t x lo hi mx){s:SV}(hs:BK sl0 gs x=some s){l' h' m':Option SV}(BL:Ig (BK sl0 gs) lo=some l')(I1:Ig (BK sl0 gs) hi=some h')(CW:Ig (BK sl0 gs) mx=some m')(he:aB P hp0 gs nx t s l' h' m'=some e)(hc:∀q∈e.ca,Cn.den c.ρ q):AB P o c n nx sl hp gs a e:=by
 have hm:x∈o.op.operands:=by simp[ho,Op.operands]
 have JJ:∀y,lo=some y->y∈o.op.operands:=λy hy=>by simp[ho,Op.operands,hy]
 have Iy:∀y,hi=some y->y∈o.op.operands:=λy hy=>by simp[ho,Op.operands,hy]
 have hx:=h.ct hs hm;have ival:∀{x:E} {kk:IntKind} {k:Int} {v:Value},SR c [.e x] [v]->x.den c.ρ= .int kk k->v= .int kk k:=by
  intro x kk k v hr hx;cases hr with
  |e h1 _ _=>exact(F1 h1 hx).1
 have ex:(execOp a.eval o).run P c.w=((Instr.sliceAt t (a.eval x) (lo.map a.eval) (hi.map a.eval) (mx.map a.eval)).run P c.w).andThen λv w=> .ok (.value v) w:=by simp[execOp,ho]
 unfold aB at he;split at he
 ·rename_i el0 b g Bo;have hu:=Jc Bo;split at he
  ·cases he
  rename_i Bm;have Bm:Dt P el0=true:=by simpa using Bm
  have JL:mx=none:=by
   rcases GY CW with⟨hh,_⟩|⟨_,_,_,_,hh⟩
   ·exact hh
   ·cases hh
  subst JL;split at he
  ·rename_i el z dl g' ep c0 hl;split at he
   ·cases he
   rename_i AA;simp only[not_or,Decidable.not_not,ne_eq]at AA;obtain⟨rfl,rfl,rfl⟩:=AA;obtain⟨q1,q2,_,q4,_⟩:=h.eh b _ (CG hl h.gs);generalize hv:a.eval x=v at hx ex;cases hx with
   |own k1 k2 k3=>
    rename_i p m r;rw[k2]at q4;obtain⟨_,q3,_⟩:=q4.ownRow;obtain⟨xs,Ck,IC,On,By,Aw,A1⟩:=mP q3;split at he
    ·rename_i l;simp only[Ad]at he;subst he;obtain⟨ka,ai,kb,bi,mm,d1,d2,d3,d4,d5,d6⟩:Cn.den c.ρ (.win c0 l (.len c0)):=Ch hc;have WJ:mm=(m:Int):=by rw[Ck]at d3;simp only[AV.len,AV.int.injEq,true_and]at d3;omega
     obtain⟨an,rfl⟩:=Int.eq_ofNat_of_zero_le d4;obtain⟨ol,B0,hol⟩:∃ol,lo=some ol/\BK sl0 [] ol=some (.e l):=by
      rcases GY BL with⟨_,hh⟩|⟨ol,sl',JB,Oe,Of⟩
      ·cases hh
      ·cases Of;exact⟨ol,JB,Oe⟩
     have JC:hi=none:=by
      rcases GY I1 with⟨hh,_⟩|⟨_,_,_,_,hh⟩
      ·exact hh
      ·cases hh
     subst B0;subst JC;have Li:=ival (h.ct hol (JJ _ rfl)) d1;have hle:an<=m:=by omega
     have AQ:=U8 (P:=P) (w:=c.w) (lo:=(some ol).map a.eval) (hi:=(none:Option Operand).map a.eval) hu Bm p m r an m (.inr ⟨ka,by rw[Option.map_some,Li]⟩) (.inl ⟨rfl,rfl⟩) hle (AI _) On;have:=SR.wown (c:=c) (lo:=l) (sz:=P.cellsOf el) (q':=if r=an then p else p.map (·.add (an*P.cellsOf el))) (r:=r-an) k1 k2 d1 d4 (by omega) (λAG=>by
      rcases A1 with⟨_,Cj,_⟩|⟨g9,C,rfl,_⟩
      ·omega
      ·exact⟨g9,rfl,by rw[if_neg (by omega)];simp[Addr.add_lit],by simp⟩) .nil
     refine AB.pure h (v:=sliced p an m r (P.cellsOf el)) ?_ (by simpa[sliced]using this) rfl;rw[ex];show Result.andThen (Sem.run P (Instr.sliceAt t (.slice p m r) ((some ol).map a.eval) ((none:Option Operand).map a.eval) none) c.w) _=_;rw[AQ];rfl
    ·cases he
  ·rename_i el z dl g' ep c0 kE hl;split at he
   ·cases he
   rename_i AA;simp only[not_or,Decidable.not_not,ne_eq]at AA;obtain⟨rfl,rfl,rfl⟩:=AA;obtain⟨q1,q2,_,⟨p',cap',ys,kk,kv,e1,e2,e3,e4,e5,e6⟩,_⟩:=h.eh b _ (CG hl h.gs);generalize hv:a.eval x=v at hx ex;cases hx with
   |own k1 k2 k3=>
    rename_i p m r;rw[k2]at e1;simp only[Value.slice.injEq]at e1;obtain⟨rfl,rfl,rfl⟩:=e1;split at he
    ·rename_i hb;split at he
     ·rename_i WD;rw[<-E.ay c.ρ _ _ WD]at e3;simp only[Ad]at he;subst he;obtain⟨oh,JC,dE⟩:∃oh,hi=some oh/\BK sl0 [] oh=some (.e hb):=by
       rcases GY I1 with⟨_,hh⟩|⟨ol,sl',JB,Oe,Of⟩
       ·cases hh
       ·cases Of;exact⟨ol,JB,Oe⟩
      have B0:lo=none:=by
       rcases GY BL with⟨hh,_⟩|⟨_,_,_,_,hh⟩
       ·exact hh
       ·cases hh
      subst B0;subst JC;have Li:=ival (h.ct dE (Iy _ rfl)) e3;have AQ:=U8 (P:=P) (w:=c.w) (lo:=(none:Option Operand).map a.eval) (hi:=(some oh).map a.eval) hu Bm p ys.length r 0 kv (.inl ⟨rfl,rfl⟩) (.inr ⟨kk,by rw[Option.map_some,Li]⟩) (Nat.zero_le _) e4 e5;have Di:sliced p 0 kv r (P.cellsOf el)= .slice p kv r:=by
       obtain⟨_,_,⟨a9,h9,_⟩|⟨g9,cap,C,zs,N1,h9,_⟩⟩:=e6.inv
       ·simp only[Value.slice.injEq]at h9;obtain⟨rfl,_,rfl⟩:=h9;simp[sliced]
       ·simp only[Value.slice.injEq]at h9;obtain⟨rfl,_,_⟩:=h9;unfold sliced;split<;>simp[Addr.add_lit]
      rw[Di]at AQ;have Dc:(execOp a.eval o).run P c.w= .ok (.value (.slice p kv r)) c.w:=by rw[ex];show Result.andThen (Sem.run P (Instr.sliceAt t (.slice p ys.length r) ((none:Option Operand).map a.eval) ((some oh).map a.eval) none) c.w) _=_;rw[AQ];rfl
      have IB:(E.win c0 (.int .i64 0) hb).den c.ρ= .sl (ys.take kv):=by simp only[E.den,e2,e3,AV.win];simp
      have Ci:Cq c [b]=(c.G b).top:=by simp[Cq]
      have B7:=h.rel.gw.nodup b;simp only[GI.own]at B7;exact AB.en h (T:=[b]) (by simp) (by simpa using⟨_,q1⟩) Dc (Mod.refl _ _) (top:=(c.G b).top) (List.nodup_append.1 B7).1 (λq hq=>⟨.inl (by rw[Ci];exact hq),h.rel.gw.inb b q (by simp[GI.own,hq])⟩) (by rw[IB];exact e6)
     ·cases he
    ·cases he
  ·cases he
 ·cases he
theorem zw0{x y:Operand}{tx:TypeId}{cl:Call}(ho:o.op= .call cl)(Aw:cl.callee= .builtin .append)(CV:cl.args.toList=[x,y])(DP:cl.argTypes.toList=[tx,tx])
  {el:TypeId} (Bo:P.underlying tx=some (.slice el)) (hz:Hy P el=true) {l:List DT} (hl:l.length=P.cellsOf el) {TT:List Nat} (WA:TT.Nodup) (K6:∀b∈TT,b<c.w.heap.size) {N2:List Nat} (NT:N2.Nodup) (Jr:∀b∈N2,b<c.w.heap.size) (S6:∀b∈N2,b∉TT)
  {ys:List AV} {q:Option Addr} {r:Nat} {news:List Value} (De:a.eval y= .slice q ys.length r) (Dd:Src c.w (P.cellsOf el) q ys.length news) (N7:DC c.w (BI ys.length l) news (Aq ys) N2) (I7:∀y∈ys,y.cells.length=P.cellsOf el) (Oo:∀u∈news,u.oneCell'=true)
  {X:AV} {v:Value} (hv:a.eval x=v) (AY:DC c.w [.row el (P.cellsOf el) (Ay.of l)] [v] [X] TT) {xs:List AV} (hX:X= .sl xs) (MD:((xs.length:Int)+ys.length)*P.bytesOf el<=140737488355328) (WQ:(xs.length:Int)+ys.length<=140737488355328):
  ∃v' w' top,(execOp a.eval o).run P c.w= .ok (.value v') w'/\Mod TT c.w w'/\top.Nodup/\(∀b∈top,(b∈TT\/b∈N2\/c.w.heap.size<=b)/\b<w'.heap.size)/\DC w' [.row el (P.cellsOf el) (Ay.of l)] [v'] [.sl (xs++ys)] top:=by
 have Ah:cl.args= #[x,y]:=by apply Array.ext';simp[CV]
 have FP:cl.argTypes= #[tx,tx]:=by apply Array.ext';simp[DP]
 obtain⟨i,z,hi,FL,CX,By,Cm,E4⟩:=KG hz;obtain⟨d1,d2,A1⟩:=AY.inv;rw[Ay.au]at d2 A1;subst hX;obtain⟨old,N1,hold,Fw,bT,GR,CK,Kv,NS⟩:∃(old:List Value) (N1:List Nat),old.length=xs.length*i.size/\((xs.length=0/\ ∃q,v= .slice q 0 0)\/ ∃g cap C,v= .slice (some ⟨g,0,none⟩) xs.length cap/\xs.length<=cap/\cap<=maxLen/\c.w.heap[g]?=some (.cells C el (0,0))/\C.size=cap*i.size/\old=C.toList.take (xs.length*i.size)/\(g∈TT/\g∉N1))/\
   DC c.w (BI xs.length l) old (Aq xs) N1/\(∀y∈xs,y.cells.length=P.cellsOf el)/\(∀u∈old,u.oneCell'=true)/\(∀b∈N1,b∈TT)/\N1.Nodup:=by
  rcases A1 with⟨p,rfl,FB,rfl⟩|⟨g9,cap,C,xs',N1,rfl,FB,rfl,h6,h7,h8,h9,Fh,EE,FH⟩
  ·cases FB;exact⟨[],[],by simp, .inl ⟨rfl,p,rfl⟩,by simpa[BI,Aq]using DC.nil,by simp,by simp,by simp,by simp⟩
  ·cases FB;rw[List.nodup_cons]at WA;refine⟨_,N1,?_, .inr ⟨g9,cap,C,rfl,h7,h8,h6,by rw[<-Cm];exact h9,rfl,by simp,WA.1⟩,by rw[<-Cm];exact FH,Fh,by rw[<-Cm];exact EE,λb hb=>by simp[hb],WA.2⟩;have e9:C.toList.length=cap*i.size:=by rw[<-Cm,<-h9];simp
   rw[Au,e9];exact Nat.min_eq_left (Bq _ h7)
 have Dx:(xs.length+ys.length)*i.bytes<=140737488355328:=by
  rw[E4]at MD;have h9:(((xs.length+ys.length)*i.bytes:Nat):Int)<=140737488355328:=by rw[Int.natCast_mul,Int.natCast_add];exact MD
  omega
 have F8:xs.length+ys.length<=140737488355328:=by omega
 rw[Cm]at Dd;obtain⟨v',w',AQ,AN⟩:=Su (P:=P) c.w tx o.type el i z Bo hi FL CX By (λg9=>g9∈TT/\g9∉N1) v xs.length old hold Fw q ys.length r news Dd (by simp only[maxLen];omega) Dx;have Dc:(execOp a.eval o).run P c.w= .ok (.value v') w':=by simp[execOp,ho,resolve,Aw,Ah,FP,invoke,builtin,hv,De,AQ]
 rcases AN with⟨rfl,rfl,Cj⟩|⟨g9,cap,C,rfl,h1,h2,h3,h4,h5,h6,h7⟩
 ·have HX:ys=[]:=List.eq_nil_of_length_eq_zero Cj;subst HX;refine⟨_,_,TT,Dc,Mod.refl _ _,WA,λb hb=>⟨.inl hb,K6 b hb⟩,?_⟩;rw[AE];exact AY
 ·have Iu:(g9∈TT\/c.w.heap.size<=g9)/\g9∉N1/\g9∉N2:=by
   rcases h7 with⟨rfl,_⟩|⟨hg,Ct⟩
   ·refine⟨.inr (AI _),λhh=> ?_,λhh=> ?_⟩
    ·have:=K6 _ (Kv _ hh);omega
    ·have:=Jr _ hh;omega
   ·exact⟨.inl hg,Ct,λhh=>S6 _ hh hg⟩
  have Bc:∀b∈N1++N2,w'.heap[b]?=c.w.heap[b]?:=λb hb=>by
   have AG:b<c.w.heap.size:=by
    rcases Ac.1 hb with hb|hb
    ·exact K6 b (Kv b hb)
    ·exact Jr b hb
   refine h6.block b AG λhh=> ?_;cases hh;rcases Ac.1 hb with hb|hb
   ·exact Iu.2.1 hb
   ·exact Iu.2.2 hb
  refine⟨_,w',g9::(N1++N2),Dc,mH h6 λg hg=> ?_,?_,λb hb=> ?_,?_⟩
  ·cases hg;exact Iu.1
  ·refine List.nodup_cons.2 ⟨λhh=> ?_,List.nodup_append.2 ⟨NS,NT,λp hp q hq e=>S6 q hq (e▸Kv p hp)⟩⟩;rcases Ac.1 hh with hh|hh
   ·exact Iu.2.1 hh
   ·exact Iu.2.2 hh
  ·rcases Ae.1 hb with rfl|hb
   ·exact⟨Iu.1.elim .inl λh=> .inr (.inr h),Dp h3⟩
   ·rcases Ac.1 hb with hb|hb
    ·exact⟨.inl (Kv b hb),Nat.lt_of_lt_of_le (K6 b (Kv b hb)) h6.size⟩
    ·exact⟨.inr (.inl hb),Nat.lt_of_lt_of_le (Jr b hb) h6.size⟩
  ·have hlen:(xs++ys).length=xs.length+ys.length:=AO;rw[Cm]at d1 d2 GR I7 ⊢;have:=DC.row (w:=w') (e:=el) (z:=i.size) (l:=Ay.of l) (g:=g9) (cap:=cap) (C:=C) (ys:=xs++ys) (N1:=N1++N2) (ts:=[]) (vs:=[]) (xs:=[]) (N:=[]) d1 (by rw[Ay.au];exact d2) h3 (by rw[hlen];exact h1) h2 h4 (λw hw=> ?_) (by
     rw[hlen,h5];intro u hu;rcases Ac.1 hu with hu|hu
     ·exact CK u hu
     ·exact Oo u hu) (by
     rw[hlen,h5,Vf,Nl,Ay.au];exact(bT.app N7).frame Bc) .nil
   ·rw[hlen]at this;simpa using this
   ·rcases Ac.1 hw with hw|hw
    ·exact GR w hw
    ·exact I7 w hw
theorem zuw(h:Bz P c n nx sl hp a sl0 hp0 o gs){x y:Operand}{tx ty:TypeId}{cl:Call}(ho:o.op= .call cl)(Aw:cl.callee= .builtin .append)(CV:cl.args.toList=[x,y])(DP:cl.argTypes.toList=[tx,ty])
  {s1 s2:SV} (BM:BK sl0 gs x=some s1) (A7:BK sl0 gs y=some s2) (he:ZO P hp0 gs nx tx ty s1 s2=some e) (hc:∀q∈e.ca,Cn.den c.ρ q):AB P o c n nx sl hp gs a e:=by
 have Ah:cl.args= #[x,y]:=by apply Array.ext';simp[CV]
 have Dy:x∈o.op.operands:=by simp[ho,Op.operands,Call.operands,Aw,Ah]
 have CJ:y∈o.op.operands:=by simp[ho,Op.operands,Call.operands,Aw,Ah]
 unfold ZO at he;split at he
 ·cases he
 rename_i JS;have JS:tx=ty:=by simpa using JS
 subst JS;split at he
 ·rename_i el e' z dl t g2 b g lo z' Bo DH;have Jx:=Jc Bo;split at he
  ·cases he
  rename_i AA;simp only[not_or,Bf,Bool.not_eq_false,ne_eq,Decidable.not_not]at AA;obtain⟨hz,rfl,rfl,rfl,WT⟩:=AA;obtain⟨_,_,l,JH,D0⟩:=VI (Zx Bo) DH;simp only[DT.row.injEq,true_and]at JH;subst JH;rw[Ay.au]at he;have r1:=h.ct BM Dy;have r2:=h.ct A7 CJ;split at he
  ·rename_i e2 z2 l2 g2' ep2 c2 e3 z3 l3 g3 ep c0 AG hlb;split at he
   ·rename_i hh;obtain⟨rfl,rfl,F8,rfl,rfl,rfl,NZ,rfl⟩:=hh;have F8:=Ay.eo F8;have NZ:=Ay.eo NZ;subst F8;subst NZ;simp only[Ad]at he;subst he;obtain⟨qt1,qt2,qt3,qt4,qt5⟩:=h.eh t _ (CG AG h.gs);obtain⟨qb1,qb2,qb3,qb4,qb5⟩:=h.eh b _ (CG hlb h.gs);obtain⟨ka,ai,kb,bi,mm,d1,d2,d3,d4,d5,d6⟩:Cn.den c.ρ (.win c0 lo (.len c0)):=hc _ (by simp);obtain⟨m1,m2,rr1,rr2,rr3,rr4⟩:Cn.den c.ρ (.room c2 (.win c0 lo (.len c0)) (P.bytesOf e3)):=hc _ (by simp);generalize hvx:a.eval x=v at r1;generalize hvy:a.eval y=v2 at r2;cases r1 with
    |own k1 k2 k3=>
     cases r2 with
     | @wown _ _ _ _ qq nn cap qq' r kk kI _ _ j1 j2 j3 j4 j5 j6 j7=>
      have htd:(c.G t).top.Nodup:=by have:=h.rel.gw.nodup t;simp only[GI.own]at this;exact(List.nodup_append.1 this).1
      have bJ:(c.G b).top.Nodup:=by have:=h.rel.gw.nodup b;simp only[GI.own]at this;exact(List.nodup_append.1 this).1
      have dY:∀q∈(c.G t).top,q<c.w.heap.size:=λq hq=>h.rel.gw.inb t q (by simp[GI.own,hq]);have Lb:∀q∈(c.G b).top,q<c.w.heap.size:=λq hq=>h.rel.gw.inb b q (by simp[GI.own,hq]);have IY:∀q∈(c.G b).top,q∉(c.G t).top:=λq hq GO=>h.rel.gw.cm b t (λe=>WT e.symm) q (by simp[GI.own,hq]) (by simp[GI.own,GO]);obtain⟨z1,z2',A1⟩:=qb4.inv;rw[Ay.au]at z2' A1;obtain⟨an,rfl⟩:=Int.eq_ofNat_of_zero_le j4;obtain⟨ys,news,NB,Dn,T9,Dd,N7,I7,Oo,aW,topb,Fz,NU,dK⟩:∃(ys:List AV) (news:List Value) (NB:List Nat),(E.win c0 lo (.len c0)).den c.ρ= .sl ys/\ys.length=nn-an/\Src c.w (P.cellsOf e3) qq' ys.length news/\DC c.w (BI ys.length l3) news (Aq ys) NB/\(∀y∈ys,y.cells.length=P.cellsOf e3)/\(∀u∈news,u.oneCell'=true)/\(∀q∈NB,q∈(c.G b).top)/\
        ∃topb:List Nat,(∀q∈topb,q∈(c.G b).top)/\(topb++NB).Nodup/\ ∀w':World,(∀q∈topb,w'.heap[q]?=c.w.heap[q]?)-> ∃(p:Option Addr) (cp:Nat) (zs:List AV),c.H b g= .slice p zs.length cp/\c0.den c.ρ= .sl zs/\an<=zs.length/\zs.length<=cp/\DC w' [.row e3 (P.cellsOf e3) (Ay.of l3)] [.slice p an cp] [.sl (zs.take an)] topb:=by
       rcases A1 with⟨a9,hH,FB,MJ⟩|⟨g9,cp,C,zs,N1,hH,FB,MJ,h6,h7,h8,h9,Fh,EE,FH⟩
       ·rw[j2]at hH;simp only[Value.slice.injEq]at hH;obtain⟨rfl,rfl,rfl⟩:=hH;have ha0:an=0:=by omega
        subst ha0;have MN:(E.win c0 lo (.len c0)).den c.ρ= .sl []:=by simp only[E.den,FB,j3,AV.win,AV.len];simp
        refine⟨[],[],[],MN,by simp,?_,by simpa[BI,Aq]using DC.nil,by simp,by simp,by simp,[],by simp,by simp,λw' _=>⟨qq,0,[],by rw[j2];rfl,FB,by simp,by simp, .void z1 (by rw[Ay.au];exact z2') .nil⟩⟩;cases qq' with
        |none=>exact .inl ⟨rfl,rfl,rfl⟩
        |some ad=>exact .inr ⟨ad,rfl,by simp,by simp,by simp⟩
       ·rw[j2]at hH;simp only[Value.slice.injEq]at hH;obtain⟨rfl,rfl,rfl⟩:=hH;have hle:an<=zs.length:=by omega
        obtain⟨NA,NB,hN,c1,c2'⟩:=FH.l8 z2' Fh hle;have hmul:=Bq (P.cellsOf e3) hle;have ES:=Bq (P.cellsOf e3) h7;have DD:C.toList.length=cap*P.cellsOf e3:=by simpa using h9
        have MN:(E.win c0 lo (.len c0)).den c.ρ= .sl (zs.drop an):=by simp only[E.den,FB,j3,AV.win,AV.len];simp
        have N6:(zs.drop an).length=zs.length-an:=BD;rw[MJ]at bJ;rw[hN]at bJ;refine⟨zs.drop an,(C.toList.take (zs.length*P.cellsOf e3)).drop (an*P.cellsOf e3),NB,MN,N6,?_,by rw[N6];exact c2',λy hy=>Fh y (BO hy),λu hu=>EE u (BO hu),λq hq=>by rw[MJ,hN];simp[hq],g9::NA,λq hq=>by rw[MJ,hN];rcases Ae.1 hq with rfl|hq<;>simp_all,by simpa using bJ,λw' qY=>⟨some ⟨g9,0,none⟩,cap,zs,by rw[j2],FB,hle,h7,?_⟩⟩
        ·rw[N6];by_cases AG:an<zs.length
         ·obtain⟨b9,PZ,GO,_⟩:=j6 (by omega);cases PZ;subst GO;refine .inr ⟨_,rfl,?_,λj u hj=> ?_,λu hu=>EE u (BO hu)⟩
          ·rw[BD,Au,DD,Nat.min_eq_left ES,Nat.sub_mul]
          ·rw[Addr.add_lit,EA h6];rw[List.getElem?_drop,List.getElem?_take]at hj;split at hj
           ·rw[Array.getElem?_toList]at hj;simpa using hj
           ·cases hj
         ·have:zs.length-an=0:=by omega
          rw[this];have e0:(C.toList.take (zs.length*P.cellsOf e3)).drop (an*P.cellsOf e3)=[]:=by
           apply List.drop_eq_nil_of_le;rw[Au];have:zs.length=an:=by omega
           rw[this];omega
          rw[e0];cases qq' with
          |none=>exact .inl ⟨rfl,rfl,rfl⟩
          |some ad=>exact .inr ⟨ad,rfl,by simp,by simp,by simp⟩
        ·have Ix:(zs.take an).length=an:=by rw[Au];omega
         have e5:C.toList.take (an*P.cellsOf e3)=(C.toList.take (zs.length*P.cellsOf e3)).take (an*P.cellsOf e3):=by rw[List.take_take,Nat.min_eq_left hmul]
         have:=DC.row (w:=w') (e:=e3) (z:=P.cellsOf e3) (l:=Ay.of l3) (g:=g9) (cap:=cap) (C:=C) (ys:=zs.take an) (N1:=NA) (ts:=[]) (vs:=[]) (xs:=[]) (N:=[]) z1 (by rw[Ay.au];exact z2') (by rw[qY g9 (by simp)];exact h6) (by rw[Ix];omega) h8 h9 (λy hy=>Fh y (Br hy)) (by
           rw[Ix,e5];intro u hu;exact EE u (Br hu)) (by
           rw[Ix,e5,Ay.au];exact c1.frame λq hq=>qY q (by simp[hq])) .nil
         rw[Ix]at this;simpa using this
      have aX:NB.Nodup:=(List.nodup_append.1 NU).2.1;obtain⟨xs,Ck⟩:∃xs,c2.den c.ρ= .sl xs:=by
       obtain⟨_,_,⟨_,_,hh,_⟩|⟨_,_,_,zs,_,_,hh,_⟩⟩:=qt4.inv
       ·exact⟨_,hh⟩
       ·exact⟨_,hh⟩
      have qI:(nn:Int)-(an:Int)=(ys.length:Int):=by omega
      rw[Ck]at rr1;rw[Dn]at rr2;simp only[AV.len,AV.int.injEq,true_and]at rr1 rr2;have De:a.eval y= .slice qq' ys.length r:=by rw[hvy];congr 1;omega
      obtain⟨v',w',top,AQ,Bp,T2,EX,IZ⟩:=zw0 (c:=c) (o:=o) (a:=a) ho Aw CV DP Jx hz D0 htd dY aX (λq hq=>Lb q (aW q hq)) (λq hq=>IY q (aW q hq)) De Dd N7 I7 Oo hvx (by rw[<-k2];exact qt4) Ck (by rw[rr1,rr2];exact rr3) (by rw[rr1,rr2];exact rr4);have K8:(E.app c2 (.win c0 lo (.len c0))).den c.ρ= .sl (xs++ys):=by have:(E.app c2 (.win c0 lo (.len c0))).den c.ρ=AV.app (c2.den c.ρ) ((E.win c0 lo (.len c0)).den c.ρ):=rfl;rw[this,Ck,Dn];rfl
      have pU:=h.rel.bp _ _ qt1;have bG:=h.rel.bp _ _ qb1;have PY:=Ni h;have Ek:nx≠t:=λe=>PY (e▸pU);have Iz:nx≠b:=λe=>PY (e▸bG);obtain⟨recs,A2⟩:∃recs:List AU,recs=[⟨nx,some v',top, .deep e3 (P.cellsOf e3) l3 0 0 (.app c2 (.win c0 lo (.len c0)))⟩,⟨b,none,topb, .pre e3 (P.cellsOf e3) l3 g (ep+1) c0 lo⟩,⟨t,none,[], .dead⟩]:=⟨_,rfl⟩
      have Ei:∀r∈recs,r=⟨nx,some v',top, .deep e3 (P.cellsOf e3) l3 0 0 (.app c2 (.win c0 lo (.len c0)))⟩\/r=⟨b,none,topb, .pre e3 (P.cellsOf e3) l3 g (ep+1) c0 lo⟩\/r=⟨t,none,[], .dead⟩:=λr hr=>by rw[A2]at hr;simpa using hr
      have hn:(recs.map AU.tag).Nodup:=by rw[A2];simp[Ek,Iz];exact λe=>WT e.symm
      have A9:∀r∈recs,r.new.isSome=true-> ¬c.U r.tag:=λr hr hs=>by
       rcases Ei r hr with rfl|rfl|rfl
       ·exact PY
       ·cases hs
       ·cases hs
      have aft:=Cx.de (w':=w') h.rel.bp hn A9;have Lj:(⟨nx,some v',top, .deep e3 (P.cellsOf e3) l3 0 0 (.app c2 (.win c0 lo (.len c0)))⟩:AU)∈recs:=by rw[A2];simp
      have Om:(⟨b,none,topb, .pre e3 (P.cellsOf e3) l3 g (ep+1) c0 lo⟩:AU)∈recs:=by rw[A2];simp
      have TG:(⟨t,none,[], .dead⟩:AU)∈recs:=by rw[A2];simp
      have OA:∀q∈topb,q∉NB:=λq hq GO=>(List.nodup_append.1 NU).2.2 q hq q GO rfl;obtain⟨q1,q2⟩:=h.rel.changes (recs:=recs) (gs:=[]) (hs:=(c.G t).top++(c.G b).top) (E1 _) (Bp.weaken λq hq=> .inl (by simp[hq])) hn A9 (λq hq=>by
        rcases Ac.1 hq with hq|hq
        ·exact⟨_,TG,hq⟩
        ·exact⟨_,Om,hq⟩)
       (by
        rw[A2];simp only[List.flatMap_cons,List.flatMap_nil,AE];refine List.nodup_append.2 ⟨T2,(List.nodup_append.1 NU).1,λp hp q hq e=> ?_⟩;subst e;rcases(EX p hp).1 with hh|hh|hh
        ·exact IY p (Fz p hq) hh
        ·exact OA p hq hh
        ·have:=Lb p (Fz p hq);omega)
       (λr hr q hq=>by
        rcases Ei r hr with rfl|rfl|rfl
        ·obtain⟨k1',k2'⟩:=EX q hq;refine⟨?_,k2'⟩;rcases k1' with hh|hh|hh
         ·exact .inl (by simp[hh])
         ·exact .inl (by simp[aW q hh])
         ·exact .inr hh
        ·exact⟨.inl (by simp[Fz q hq]),Nat.lt_of_lt_of_le (Lb q (Fz q hq)) Bp.size⟩
        ·cases hq)
       (λr hr=>by rcases Ei r hr with rfl|rfl|rfl<;>(intros;simp))
       (λhk r hr=>by
        rcases Ei r hr with rfl|rfl|rfl
        ·obtain⟨k1',k2',k3'⟩:=aft.new _ Lj v' rfl;have kg:=aft.G _ Lj;have ke:=aft.ic _ Lj rfl;simp only at k1' k2' k3' kg ke;exact⟨k1',k2',ke,by rw[k3',kg,aft.w,aft.ρ,K8];exact IZ,by rw[kg]⟩
        ·have kg:=aft.G _ Om;have ke:=aft.fw _ Om rfl;obtain⟨k1',k2'⟩:=aft.K b g qb1;simp only at kg ke;obtain⟨p,cp,zs,f1,f2,f3,f4,f5⟩:=dK w' λq hq=>Bp.block q (Lb q (Fz q hq)) (IY q (Fz q hq));refine⟨k1',λg' Ct=>qb2 g' (aft.old b bG g' Ct),by rw[ke,qb3],⟨p,cp,zs,kk,an,by rw[k2'];exact f1,by rw[aft.ρ];exact f2,by rw[aft.ρ];exact j3,f3,f4,by rw[aft.w,kg];exact f5⟩,by rw[kg]⟩
        ·have kg:=aft.G _ TG;exact⟨by rw[kg],by rw[kg]⟩)
      intro next Q hk
      unfold Oper.wp;rw[AQ,Oper.upon_value];obtain⟨k1',k2',k3'⟩:=aft.new _ Lj v' rfl;simp only at k1' k3';obtain⟨p,m,r,rfl⟩:=IZ.head;have TQ:(recs.map λr=>(r.tag,CS [] r.bj))=(nx, .deep e3 (P.cellsOf e3) l3 0 0 (.app c2 (.win c0 lo (.len c0))))::(b, .pre e3 (P.cellsOf e3) l3 g (ep+1) c0 lo)::Et [t]:=by rw[A2];simp[CS,Et]
      rw[TQ]at q1;refine hk _ (c.dg w' _) ⟨rfl,rfl,rfl,rfl,λu hu=> ?_⟩ (q1.put (SR.own k1' k3' .nil) o.dst);rcases hu with hu|⟨r,hr,rfl⟩
      ·exact .inl hu
      ·rcases Ei r hr with rfl|rfl|rfl
       ·exact .inr ⟨AI _,by simp[BT]⟩
       ·exact .inl bG
       ·exact .inl pU
   ·cases he
  ·cases he
 ·cases he
end
section
variable {P:Program} {c:Cx} {n nx:Nat} {sl sl0:Nat->SV} {hp hp0:Nat->Option Af} {a:Act} {o:Oper} {gs:Gd} {e:Bb} {sg:BZ} {nv:Nat}
theorem oT{w:World}:∀(vs:List Value) {xs:List AV} {f:List Nat} (ts:List TypeId),Rd w vs xs f->ts.length<=vs.length->DN P w ts [] [] vs xs f [] []
 | [],xs,f,ts,h,hl=>by have:ts=[]:=List.eq_nil_of_length_eq_zero (by simpa using hl);subst this;cases h;exact .nil
 |v::vs,[],f,ts,h,hl=>by have:=h.len;simp at this
 |v::vs,x::xs,f,ts,h,hl=>by
  obtain⟨f1,f2,rfl,h1,h2⟩:=h.cd;cases ts with
  |nil=>exact .free h1 (oT vs [] h2 (by simp))
  |cons t ts=>exact DN.cons (h:=[]) ⟨h1,rfl⟩ (oT vs ts h2 (by simpa using hl))
theorem zDX(l:EL):EL.of (Sk.go l)=l:=by
 induction l using EL.rec (motive_1:=λ_=>True)with
 |nil=>rfl
 |cons e es _ ih=>simp[Sk.go,EL.of,ih]
 |_=>trivial
theorem zB7{w:World}{ts:List TypeId}{vs:List Value}{Bs:List AV}{f o:List Nat}(h:DL P w ts [] vs Bs f o):Bs=[]:=by
 have key:∀(ts:List TypeId),BJ ts []=false:=by
  intro ts
  induction ts with
  |nil=>rfl
  |cons t ts ih=>simp only[BJ,List.headD_nil,Bool.false_or,List.tail_nil];exact ih
 exact(lM h).2 (key ts)
theorem zAj(t:TypeId):F4 P t []=false:=by simp[F4]
theorem uY(h:Bz P c n nx sl hp a sl0 hp0 o gs){cl:Call}{fo:Operand}(ho:o.op= .call cl)(Aw:cl.callee= .value fo){y:E}{sf:SV}(hf:BK sl0 gs fo=some sf)(hsf:∀v,SR c [sf] [v]-> ∃f,Rd c.w [v] [y.den c.ρ] f){as_:List SV}(has:cl.args.toList.mapM (BK sl0 gs)=some as_){t:TypeId}
  (he:Sk P hp0 gs nv t y as_=some e) (Bl:∀c',e.call=some c'-> ∃r,c.ρ[nv]?=some r/\IM (Cl P sg) c'.fn ((EL.of c'.args).den c.ρ) c.ρ r):AB P o c n nx sl hp gs a e:=by
 have cV:fo∈o.op.operands:=by simp[ho,Op.operands,Call.operands,Aw]
 have cU:∀x∈cl.args.toList,x∈o.op.operands:=λx hx=>by
  have:x∈cl.args:=by simpa using hx
  simp[ho,Op.operands,Call.operands,Aw,this]
 have MF:=h.ct hf cV;have Ah:=xQ (a:=a) (λx hx s hs=>h.ct hs (cU x hx)) has;unfold Sk at he;split at he
 ·cases he
 split at he
 ·cases he
 rename_i es Is;simp only[Ad]at he;subst he;obtain⟨r,hr,g,caps,hy,HV,E7⟩:=Bl _ rfl;rw[zDX]at HV;obtain⟨f1,p1,p2⟩:=Sd h.eh h.gs A5 Is Ah A5 (AI _);generalize cA:a.eval fo=fv at MF;obtain⟨_,k1⟩:=hsf _ MF;obtain⟨capv,f2,rfl,P1⟩:∃capv f2,fv= .func (.func g) #[] capv.toArray/\Rd c.w capv caps f2:=by
  rw[hy]at k1;cases k1 with
  |fn q1 _=>exact⟨_,_,rfl,q1⟩
 have Oy:SX P {bz:=[],res:=[]} g (es.den c.ρ++caps) r:=by unfold Cl at HV;rw[if_neg (by omega)]at HV;simpa using HV
 obtain⟨fn,It,D7,Gg,_,hlen,_,FK⟩:=Oy;have Da:=p1.app P1;have En:=Da.len;have Bl:=FK c.w _ _ [] [] (oT _ (fn.params.toList++ []) Da (by rw[En,hlen,AE,BC];omega)) (by simp) (by simp) (by simp) (h.rel.lz (by simp));have ex:(execOp a.eval o).run P c.w= .ok (.enter g (cl.args.map a.eval++capv.toArray)) c.w:=by
  have hb:fn.body.isNone=false:=by simpa using D7
  simp only[execOp,ho,resolve,Aw,cA,Deferred.ofValue,Sem.run_bind,Sem.run_pure,Result.andThen_ok,invoke,callFunc,run_program,It];simp[Gg,hb]
 intro next Q hk
 unfold Oper.wp;rw[ex,Oper.upon_enter];have NY:cl.args.map a.eval++capv.toArray=((cl.args.toList.map a.eval)++capv).toArray:=by apply Array.ext';simp
 rw[NY];refine Bl.mono ?_;rintro e' w' ⟨v,rfl,⟨R,Bs,f1',o1,f2',o2,Lp,AN,Fs,Hh,TO,Ts⟩,Bp⟩;show next (a.put o.dst v) w'
 have NQ:=zB7 Fs;subst NQ;simp only at Lp;subst Lp;have hv:Rd w' [v] [r] []:=by
  unfold KB at AN;split at AN
  ·rename_i t' ht;unfold D6 at AN;rw[if_neg (by rw[zAj];simp)]at AN;have:=uZ AN.1 E7;subst this;exact AN.1
  ·obtain⟨vs,ys,_,rfl,_⟩:=AN;have:=E7 (.tup ys) (by simp[AV.cells]);simp[AV.scalar]at this
 obtain⟨Fu,_⟩:=h.rel.changes (w':=w') (recs:=[]) (hs:=[]) (gs:=gs) h.gs Bp (by simp) (by simp) (by simp) (by simp) (by simp) (by simp) (by simp);refine hk _ (c.dg w' []) ⟨rfl,rfl,rfl,rfl,λt ht=> ?_⟩ (Fu.put (SR.mkGd (.e (f:=[]) ?_ (by simp) .nil) gs h.gs) o.dst)
 ·rcases ht with ht|⟨r,hr,_⟩
  ·exact .inl ht
  ·simp at hr
 ·show Rd w' [v] [(E.var nv).den c.ρ] [];simp only[E.den,hr,Df];exact hv
theorem eS(JQ:∀f s,sg f=some s->f<1000000)(h:Bz P c n nx sl hp a sl0 hp0 o gs)(he:BU P sg sl0 hp0 nv nx gs o=some e)
  (hc:∀q∈e.ca,q.den c.ρ) (Bl:∀cl,e.call=some cl-> ∃r,c.ρ[nv]?=some r/\IM (Cl P sg) cl.fn ((EL.of cl.args).den c.ρ) c.ρ r) (C4:∀x,e.b8=some x->c.ρ[nv]?=some (.bool (KT a o))):AB P o c n nx sl hp gs a e:=by
 have Le:=he;cases AT:o.op with
 |move x=>simp only[BU,AT,Ar]at he;obtain⟨s,hs,rfl⟩:=he;exact xJ h (.inl AT) hs
 |assign x=>simp only[BU,AT,Ar]at he;obtain⟨s,hs,rfl⟩:=he;exact xJ h (.inr AT) hs
 |pick x y z=>exact zzx h AT he hc
 |alloc t=>exact zyw h AT he hc
 |box t x=>exact zCQ h AT he hc
 |build t parts=>exact zyg h AT he hc
 |buildSlice t m parts=>
  simp only[BU,AT,As]at he;obtain⟨ps,MC,he⟩:=he;split at he
  ·exact zrU h AT MC he hc
  ·exact zpR h AT MC he hc
 |load t x=>exact zAt h AT he hc
 |nilCheck x=>exact ztx h AT he hc
 |makeSlice t l m=>
  simp only[BU,AT,As]at he;obtain⟨s1,BM,s2,A7,he⟩:=he;split at he
  ·exact zus h AT BM A7 he hc
  ·exact zyG h AT BM A7 he hc
 |slice t x lo hi mx=>
  simp only[BU,AT,As]at he;obtain⟨s,hs,l',BL,h',I1,m',CW,he⟩:=he;split at he
  ·exact zwd h AT hs BL I1 CW he hc
  split at he
  ·exact zuz h AT hs BL I1 CW he hc
  ·exact zw4 h AT hs BL I1 CW he hc
 |fieldAddr t x f=>exact zrX h AT he hc
 |field t x f=>exact zyO h AT he hc
 |extract x i=>exact zvK h AT he hc
 |store t x y=>
  simp only[BU,AT,As]at he;obtain⟨p,hp',v,hv,he⟩:=he;cases p with
  |ch b k=>exact zue h AT hp' hv he hc
  |cq b g i sz k=>
   by_cases AY:∃e z g c d,Dh hp0 gs b=some (.row e z g c d)
   ·exact ztA h AT AY hp' hv he hc
   ·exact zsj h AT AY hp' hv he hc
  |_=>simp[Nj]at he
 |binOp op t x y ty=>
  cases hu:P.underlying t with
  |none=>simp only[BU,AT,As]at he;obtain⟨_,_,_,_,he⟩:=he;simp[SB,hu]at he
  |some d=>
   by_cases TZ:∃fs,d= .struct fs
   ·obtain⟨fs,rfl⟩:=TZ;exact zCy h AT hu he hc
   ·have MA:∀fs,P.underlying t≠some (.struct fs):=λfs hh=>TZ ⟨fs,by rw[hu]at hh;cases hh;rfl⟩;cases hq:e.b8 with
    |none=>exact zBP h AT MA he hq hc
    |some x'=>
     have Gk:=C4 x' hq;simp only[BU,AT,As]at he;obtain⟨s1,BM,s2,A7,he⟩:=he;have r1:=h.ct BM (by simp[AT,Op.operands]);have r2:=h.ct A7 (by simp[AT,Op.operands]);unfold SB at he;split at he
     ·rename_i el FQ;have Di:∀xq,BB hp0 gs A5 s1=some xq->Cn.den c.ρ (.dfd (.len xq))-> ∃p q r,a.eval x= .slice p q r:=by
       intro xq JW hd;obtain⟨f,q1,_⟩:=h.ji BM (by simp[AT,Op.operands]) JW;have hd:(xq.den c.ρ).len≠ .undef:=hd;cases BN:xq.den c.ρ<;>simp only[BN,AV.len,ne_eq,not_true_eq_false]at hd;rename_i xs;have hl:(xq.den c.ρ).len= .int .i64 (xs.length:Int):=by rw[BN];rfl
       rcases Sc q1 hl with⟨p,q,hv,Cj⟩|⟨b,o',k,q,hv,Cj⟩
       ·exact⟨_,_,_,hv⟩
       ·exact⟨_,_,_,hv⟩
      split at he
      ·simp at he;subst he;cases hq
      ·simp at he;subst he;cases hq
      ·obtain⟨xq,JW,rfl⟩:=Ar.1 he;obtain⟨p,q,r,hv⟩:=Di xq JW (hc _ (by simp));exact xT h AT FQ hv r2 (.inl rfl) Gk _
      ·obtain⟨xq,JW,rfl⟩:=Ar.1 he;obtain⟨p,q,r,hv⟩:=Di xq JW (hc _ (by simp));exact xT h AT FQ hv r2 (.inr rfl) Gk _
      ·cases he
     ·split at he
      ·simp at he;subst he;cases hq
      ·cases he
     ·split at he
      ·simp at he;subst he;cases hq
      ·cases he
     ·split at he
      ·simp at he;subst he;cases hq
      ·cases he
     ·rename_i fs FQ;exact absurd FQ (MA fs)
     ·cases he
 |unOp u t x=>
  cases u with
  |not=>exact zCG h AT he hc
  |neg=>exact zCV h AT he hc
  |_=>simp[BU,AT]at he
 |convert src dst x=>
  have Mn:=he;simp only[BU,AT,As]at Mn;obtain⟨s,_,Mn⟩:=Mn;unfold VS at Mn;split at Mn
  ·rename_i k0 k h1 h2;exact zvx h AT h1 h2 he hc
  ·rename_i h1 h2;exact zu3 h AT h1 h2 he hc
  ·rename_i el h1 h2;exact ztR h AT h1 h2 he hc
  ·cases Mn
 |makeFunc fr fst caps=>
  cases fr with
  |func f=>exact zua h AT he
  |_=>simp[BU,AT]at he
 |indexAddr t x i=>refine zsc h AT (λhu=> ?_) he hc;simp only[BU,AT,As]at he;obtain⟨_,_,_,_,he⟩:=he;simp[Xo,hu]at he
 |index t x i=>
  refine zvv h AT ?_ he hc;simp only[BU,AT,As]at he;obtain⟨_,_,_,_,he⟩:=he;split at he
  ·rename_i Em;unfold Xo at Em;split at Em
   ·assumption
   ·cases Em
  ·cases he
 |call cl=>
  simp only[BU,AT]at he;cases Aw:cl.callee with
  |invoke r m=>rw[Aw]at he;simp at he
  |value f=>
   rw[Aw]at he;simp only[As]at he;obtain⟨s,hs,as_,has,he⟩:=he;cases s with
   |fn g caps=>
    have he:V2 P sg hp0 gs nv nx g (as_++caps.toList)=some e:=he;refine zAr h AT Aw hs has ?_ he Bl;unfold V2 at he;split at he
    ·rename_i fn sg' It hh;exact JQ g sg' hh
    ·cases he
   |e y=>exact uY h AT Aw hs (λv hv=>by cases hv with|e k1 _ _=>exact⟨_,k1⟩) has he Bl
   |lent i=>exact uY h AT Aw hs (λv hv=>by
     cases hv with
     |lent g1 _=>obtain⟨f,p1,p2⟩:=h.rel.base.lo _ _ g1;exact⟨f,p1.frame λb hb=>h.rel.base.block b (p1.inb b hb) (p2 b hb)⟩) has he Bl
   |_=>simp at he
  |builtin b=>
   rw[Aw]at he;cases b with
   |len=>
    simp only at he;split at he
    ·rename_i x tx CV DP;exact zCa h AT Aw CV DP Le hc
    ·cases he
   |append=>
    simp only at he;split at he
    ·rename_i x y tx ty CV DP;simp only[As]at he;obtain⟨s1,BM,s2,A7,he⟩:=he;split at he
     ·exact zuw h AT Aw CV DP BM A7 he hc
     split at he
     ·exact zrw h AT Aw CV DP BM A7 he hc
     ·exact zuM h AT Aw CV DP BM A7 he hc
    ·cases he
   |clear=>
    simp only at he;split at he
    ·rename_i x tx CV DP;simp only[As]at he;obtain⟨s,hs,he⟩:=he;exact zyf h AT Aw CV DP hs he hc
    ·cases he
   |max=>
    simp only at he;split at he
    ·rename_i x y CV;simp only[As]at he;obtain⟨s1,BM,s2,A7,he⟩:=he;exact vW h AT (.inl ⟨rfl,Aw⟩) CV BM A7 he hc
    ·cases he
   |min=>
    simp only at he;split at he
    ·rename_i x y CV;simp only[As]at he;obtain⟨s1,BM,s2,A7,he⟩:=he;exact vW h AT (.inr ⟨rfl,Aw⟩) CV BM A7 he hc
    ·cases he
   |_=>simp at he
 |_=>simp[BU,AT]at he
end
end
end Go.Proofs.YtalagilebkaegaaGreat

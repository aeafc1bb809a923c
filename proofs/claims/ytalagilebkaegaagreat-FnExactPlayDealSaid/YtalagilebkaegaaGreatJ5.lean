/- Parts of a proof, joined: WP, WQ, WR, WRa, WRb, WRc, WRd, WRe, WRf, WS. -/
import Derived.Test.YtalagilebkaegaaGreatJ4
set_option linter.unusedVariables false
set_option linter.unusedSimpArgs false
namespace Go.Proofs.YtalagilebkaegaaGreat
open Go.RowKit
section
section
variable {P:Program} {c:Cx} {hp:Nat->Option Af} {gs:Gd}
theorem zwf(hb:Qt c)(eh:EH c hp)(k:Bu c.ρ gs)(hU:∀t g,c.K t g->c.U t):∀(ss:List SV) {ts:List TypeId} {ms:List PM} {lo:List Bool} {es:List E} {bs:List PA} {us uz:List Nat} {vs:List Value},UJ P hp gs ts ms lo ss=some (es,bs,us,uz)->SR c ss vs->ts.length<=ss.length->
  ∃rf lf hs,DO P c.w ts ms lo vs (es.map (E.den c.ρ)) rf lf hs/\(∀b∈rf,c.dy us b)/\(∀b∈lf,c.dy uz b\/b<c.w0.heap.size/\ ¬c.Mu b)/\hs=(DM bs).flatMap (λt=>(c.G t).top)/\Ji P c ts ms vs bs/\(∀u∈DM bs,c.U u)/\(bs≠ []->gs=[])
 | [],ts,ms,lo,es,bs,us,uz,vs,h,hs,hl=>by simp[UJ]at h;obtain⟨rfl,rfl,rfl,rfl⟩:=h;cases hs;have:ts=[]:=List.eq_nil_of_length_eq_zero (by simpa using hl);subst this;exact⟨[],[],[], .nil,by simp,by simp,by simp[DM], .nil,by simp[DM],by simp⟩
 |s::ss,ts,ms,lo,es,bs,us,uz,[],h,hs,hl=>by have:=hs.len;simp at this
 |s::ss,ts,ms,lo,es,bs,us,uz,v::vs,h,hs,hl=>by
  obtain⟨r1,r2⟩:=hs.cf;unfold UJ at h;split at h
  ·cases h
  rename_i ys bs' us' uz' Dn;obtain⟨rf,lf,A5,q1,q2,qz,q3,q4,q5,q6⟩:=zwf hb eh k hU ss Dn r2 (by simp at hl ⊢;omega);have see1:∀{a b:List Nat} {x:Nat},c.dy a x->c.dy (a++b) x:=λh=>h.mono λt ht=>by simp[ht]
  have see2:∀{a b:List Nat} {x:Nat},c.dy b x->c.dy (a++b) x:=λh=>h.mono λt ht=>by simp[ht]
  split at h
  ·rename_i hm;split at h
   ·rename_i B2;simp only[Ab,Bg]at B2;obtain⟨t,ts,rfl⟩:∃t ts',ts=t::ts':=by
     cases ts with
     |nil=>simp at B2
     |cons t ts=>exact⟨t,ts,rfl⟩
    split at h
    ·rename_i i;simp only[Ad,AX]at h;obtain⟨rfl,rfl,rfl,rfl⟩:=h;cases r1 with
     |lent g1 _=>obtain⟨f,p1,p2⟩:=hb.lo _ _ g1;have hw:Rd c.w [v] [(E.var i).den c.ρ] f:=p1.frame λb Cb=>hb.block b (p1.inb b Cb) (p2 b Cb);exact⟨rf,f++lf,A5, .lent B2.1 hm hw q1,q2,λb Cb=>(Ac.1 Cb).elim (λCb=> .inr ⟨p1.inb b Cb,p2 b Cb⟩) (qz b),q3, .ro hm q4,q5,q6⟩
    ·obtain⟨x,hx,hh⟩:=As.1 h;simp only[AX]at hh;obtain⟨rfl,rfl,rfl,rfl⟩:=hh;obtain⟨f,p1,p2⟩:=H8 eh k A6 hx r1 A6 (AJ _);exact⟨rf,f++lf,A5, .lent B2.1 hm p1 q1,q2,λb Cb=>(Ac.1 Cb).elim (λCb=> .inl (see1 (p2 b Cb))) (λCb=>(qz b Cb).imp see2 id),q3, .ro hm q4,q5,q6⟩
   obtain⟨x,hx,hh⟩:=As.1 h;simp only[AX]at hh;obtain⟨rfl,rfl,rfl,rfl⟩:=hh;obtain⟨f,p1,p2⟩:=H8 eh k A6 hx r1 A6 (AJ _);have hb:∀b∈f++rf,c.dy (Ca hp gs (A6+1) [s]++us') b:=λb hb=>by
    rcases Ac.1 hb with hb|hb
    ·exact see1 (p2 b hb)
    ·exact see2 (q2 b hb)
   cases ts with
   |nil=>exact⟨f++rf,lf,A5, .free p1 q1,hb,qz,q3, .ro hm q4,q5,q6⟩
   |cons t ts=>exact⟨f++rf,lf,[]++A5, .cons (by rw[hm];exact⟨p1,rfl⟩) q1,hb,qz,q3, .ro hm q4,q5,q6⟩
  ·rename_i own own' hm;split at h
   ·rename_i ty T Bn;split at h
    ·rename_i ty' g cs Iy;split at h
     ·cases h
     rename_i BF;have BF:ty'=ty:=by simpa using BF
     subst BF;split at h
     ·rename_i xs rs vs' Cl Fy;simp only[Ad,AX]at h;obtain⟨rfl,rfl,rfl,rfl⟩:=h;obtain⟨t,ts,rfl,El⟩:∃t ts',ts=t::ts'/\KH P t=some ty':=by
       cases ts with
       |nil=>simp at Bn
       |cons t ts=>exact⟨t,ts,rfl,by simpa using Bn⟩
      obtain⟨b,C,g1,g2,g3,g4,g5,g6,g7⟩:=eh T _ (CJ Iy k);obtain⟨f,h8,p1,p2,p3,p4,p5⟩:=lO (P:=P) eh k hU (A9 P ty') Fy g7 Cl (AJ _);have hv:v= .pointer (some ⟨b,0,none⟩):=by
       cases r1 with
       |cj k1 k2 _=>rw[g2]at k2;cases k2;rfl
      refine⟨f++rf,lf,(b::h8)++A5, .cons ?_ q1,λx hx=> ?_,qz,by simp[DM,p3,q3,g3], .bx hm El hv g1 (by rw[g2,hv]) p5 q4,λu hu=> ?_,λ_=>rfl⟩
      ·rw[hm];exact⟨ty',b,C,xs.den c.ρ,h8,El,hv,g5,g6,rfl,p1,rfl⟩
      ·rcases Ac.1 hx with hx|hx
       ·exact see1 (p2 x hx)
       ·exact see2 (q2 x hx)
      ·simp only[DM,List.cons_append,Ae,Ac]at hu;rcases hu with rfl|hu|hu
       ·exact hU _ _ g1
       ·exact p5 u hu
       ·exact q5 u hu
     ·cases h
    ·cases h
   ·cases h
  ·rename_i own hm;split at h
   ·rename_i t x Bn hx;split at h
    ·cases h
    rename_i AI;have AI:(H6 s).2=Ao P t:=by simpa using AI
    split at h
    ·rename_i rs vs' Fy;simp only[Ad,AX]at h;obtain⟨rfl,rfl,rfl,rfl⟩:=h;obtain⟨ts,rfl⟩:∃ts',ts=t::ts':=by
      cases ts with
      |nil=>simp at Bn
      |cons t' ts=>simp at Bn;exact⟨ts,by rw[Bn]⟩
     obtain⟨f,h8,p1,p2,p3,⟨vs9,p4,p5⟩,p6⟩:=xJ (P:=P) eh k hU r1 hx AI Fy;refine⟨f++rf,lf,h8++A5, .cons (by rw[hm];exact p1) q1,λx hx=> ?_,qz,by simp[DM,p3,q3],by rw[AI];exact .mu hm p4 p5 q4,λu hu=> ?_,λ_=>rfl⟩
     ·rcases Ac.1 hx with hx|hx
      ·exact see1 (p2 x hx)
      ·exact see2 (q2 x hx)
     ·simp only[DM,Ac]at hu;exact hu.elim (p6 u) (q5 u)
    ·cases h
   ·cases h
  ·rename_i own hm;split at h
   ·rename_i t x Bn hx;split at h
    ·cases h
    rename_i AI;have AI:(H6 s).2=Ao P t:=by simpa using AI
    split at h
    ·rename_i rs vs' Fy;simp only[Ad,AX]at h;obtain⟨rfl,rfl,rfl,rfl⟩:=h;obtain⟨ts,rfl⟩:∃ts',ts=t::ts':=by
      cases ts with
      |nil=>simp at Bn
      |cons t' ts=>simp at Bn;exact⟨ts,by rw[Bn]⟩
     obtain⟨f,h8,p1,p2,p3,⟨vs9,p4,p5⟩,p6⟩:=xJ (P:=P) eh k hU r1 hx AI Fy;refine⟨f++rf,lf,h8++A5, .cons (by rw[hm];exact p1) q1,λx hx=> ?_,qz,by simp[DM,p3,q3], .va hm p6 q4,λu hu=> ?_,λ_=>rfl⟩
     ·rcases Ac.1 hx with hx|hx
      ·exact see1 (p2 x hx)
      ·exact see2 (q2 x hx)
     ·simp only[DM,Ac]at hu;exact hu.elim (p6 u) (q5 u)
    ·cases h
   ·cases h
end
inductive Fs(P:Program)(w:World):List TypeId->List Bool->List Value->List AV->List Nat->List Nat->Prop where
 |nil {fl}:Fs P w [] fl [] [] [] []
 |own {t ts fl el u us y ys top N f o}:fl.headD false=true->CT P t=some el->(Cc P el=true/\N=[]\/Cc P el=false/\DE P t=none)->C3 w el (P.cellsOf el) u y top N->Fs P w ts fl.tail us ys f o->Fs P w (t::ts) fl (u::us) (y::ys) (N++f) (top++o)
 |deep {t ts fl el e z l u us y ys top f o}:fl.headD false=true->CT P t=some el->Cc P el=false->DE P t=some (.row e z l)->DC w [.row e z l] [u] [y] top->Fs P w ts fl.tail us ys f o->Fs P w (t::ts) fl (u::us) (y::ys) f (top++o)
 |skip {t ts fl u us y ys f o}:(fl.headD false=true->CT P t=none)->Fs P w ts fl.tail us ys f o->Fs P w (t::ts) fl (u::us) (y::ys) f o
inductive DN(P:Program)(w:World):List TypeId->List PM->List Value->List AV->List Nat->List Nat->Prop where
 |nil {ms vs}:DN P w [] ms vs [] [] []
 |ro {t ts ms v vs bs f o}:ms.headD .ro= .ro->DN P w ts ms.tail vs bs f o->DN P w (t::ts) ms (v::vs) bs f o
 |va {t ts ms own v vs bs f o}:ms.headD .ro= .va own->DN P w ts ms.tail vs bs f o->DN P w (t::ts) ms (v::vs) bs f o
 |mu {t ts ms own v vs us ys y bs f1 f o1 o}:ms.headD .ro= .mu own->(if Ao P t then v= .agg us.toArray/\y= .agg ys else us=[v]/\ys=[y])->Fs P w (A9 P t) own us ys f1 o1->DN P w ts ms.tail vs bs f o->DN P w (t::ts) ms (v::vs) (y::bs) (f1++f) (o1++o)
 |bx {t ts ms own own' ty b C v vs ys y bs f1 o1 f o}:ms.headD .ro= .bx own own'->KH P t=some ty->v= .pointer (some ⟨b,0,none⟩)->w.heap[b]?=some (.cells C ty (0,0))->(∀u∈C.toList,u.oneCell'=true)->y= .agg ys->Cs P w (A9 P ty) own' C.toList ys f1 o1->
   DN P w ts ms.tail vs bs f o->DN P w (t::ts) ms (v::vs) (y::bs) (f1++f) (b::o1++o)
section
variable {P:Program} {c:Cx} {w':World}
theorem zxr{mk:Nat->E}{ts:List TypeId}{fl:List Bool}{us:List Value}{rs:List (Option RI)}(h:G2 P c ts fl us rs)(hU:∀t g,c.K t g->c.U t):∀{ys:List AV} {f o:List Nat} (j:Nat),Fs P w' ts fl us ys f o->(∀i y,ys[i]?=some y->(mk (j+i)).den c.ρ=y)->
  ∃recs:List AW,Mg mk j rs=recs.map AW.pair/\(recs.flatMap AW.top).Sublist o/\(∀r∈recs,r.new=none/\c.U r.tag/\ ∀hs f,r.bk≠ .gd hs f)/\recs.map AW.tag=CP rs/\ ∀c',Fh c c' w' recs->(∀b∈f,c'.ok b)-> ∀r∈recs,Dv c' r.tag r.bk:=by
 induction h with
 |nil=>intro ys f o j hm _;cases hm;exact⟨[],rfl,by simp,by simp,rfl,by simp⟩
 | @row t ts fl v vs u g el rs h1 h2 Ms h3 h4 h5 _ ih=>
  intro ys f o j hm Gf;cases hm with
  |skip hh _=>rw[hh h1]at h2;cases h2
  |deep _ k2 k21 k22 _ _=>
   rw[h2]at k2;cases k2;rcases Ms with hh|hh
   ·rw[hh]at k21;cases k21
   ·rw[hh]at k22;cases k22
  | @own _ _ _ el' _ _ y ys top N f o k1 k2 k23 k3 k4=>
   rw[h2]at k2;cases k2;obtain⟨recs,e1,e2,e3,e4,e5⟩:=ih (j+1) k4 (λi y hy=>by rw[show j+1+i=j+(i+1)from by omega];exact Gf (i+1) y (by simpa using hy));have hy:=Gf 0 y rfl;refine⟨⟨u,none,top, .row el (P.cellsOf el) g (mk j) (Cc P el)⟩::recs,by simp[Mg,e1,AW.pair],by simpa using(List.Sublist.refl top).append e2,λr hr=> ?_,by simp[CP,RI.tag,e4],λc' ha AZ r hr=> ?_⟩
   ·rcases Ae.1 hr with rfl|hr
    ·exact⟨rfl,hU _ _ h3,by simp⟩
    ·exact e3 r hr
   ·rcases Ae.1 hr with rfl|hr
    ·obtain⟨a1,a2⟩:=ha.K u g h3;have kg:=ha.G _ (List.mem_cons_self ..);simp only at kg;refine⟨a1,λg' Cu=>h5 g' (ha.old u (hU _ _ h3) g' Cu),N,?_,λb hb=>AZ b (by simp[hb]),λhd=> ?_,λ_=>by rw[kg]⟩
     rotate_left
     ·rcases k23 with⟨_,h⟩|⟨h,_⟩
      ·subst h;exact⟨rfl,by rw[kg]⟩
      ·rw[h]at hd;cases hd
     have BN:(mk j).den c.ρ=y:=by simpa using hy
     rw[a2,h4,kg,ha.w,ha.ρ,BN];exact k3
    ·exact e5 c' (ha.mono λr hr=>by simp[hr]) (λb hb=>AZ b (by simp[hb])) r hr
 | @deep t ts fl v vs u g el e z l ep rs h1 h2 Th P4 h3 h4 h5 h6 _ ih=>
  intro ys f o j hm Gf;cases hm with
  |skip hh _=>rw[hh h1]at h2;cases h2
  |own _ k2 k23 _ _=>
   rw[h2]at k2;cases k2;rcases k23 with⟨hh,_⟩|⟨_,hh⟩
   ·rw[hh]at Th;cases Th
   ·rw[hh]at P4;cases P4
  | @deep _ _ _ el' e' z' l' _ _ y ys top f o k1 k2 k21 k22 k3 k4=>
   rw[P4]at k22;cases k22;obtain⟨recs,e1,e2,e3,e4,e5⟩:=ih (j+1) k4 (λi y hy=>by rw[show j+1+i=j+(i+1)from by omega];exact Gf (i+1) y (by simpa using hy));have hy:=Gf 0 y rfl;refine⟨⟨u,none,top, .deep e z l g (ep+1) (mk j)⟩::recs,by simp[Mg,e1,AW.pair],by simpa using(List.Sublist.refl top).append e2,λr hr=> ?_,by simp[CP,RI.tag,e4],λc' ha AZ r hr=> ?_⟩
   ·rcases Ae.1 hr with rfl|hr
    ·exact⟨rfl,hU _ _ h3,by simp⟩
    ·exact e3 r hr
   ·rcases Ae.1 hr with rfl|hr
    ·obtain⟨a1,a2⟩:=ha.K u g h3;have kg:=ha.G _ (List.mem_cons_self ..);have ke:=ha.fy _ (List.mem_cons_self ..) rfl;simp only at kg ke;refine⟨a1,λg' Cu=>h5 g' (ha.old u (hU _ _ h3) g' Cu),by rw[ke,h6],?_,by rw[kg]⟩;have BN:(mk j).den c.ρ=y:=by simpa using hy
     rw[a2,h4,kg,ha.w,ha.ρ,BN];exact k3
    ·exact e5 c' (ha.mono λr hr=>by simp[hr]) (λb hb=>AZ b (by simp[hb])) r hr
 | @none t ts fl v vs rs _ _ ih=>
  intro ys f o j hm Gf;have go:∀{y:AV} {ys':List AV} {f' o':List Nat},ys=y::ys'->Fs P w' ts fl.tail vs ys' f' o'->(∀b∈f',b∈f)->o'.Sublist o-> ∃recs:List AW,Mg mk j (none::rs)=recs.map AW.pair/\(recs.flatMap AW.top).Sublist o/\(∀r∈recs,r.new=none/\c.U r.tag/\ ∀hs f,r.bk≠ .gd hs f)/\recs.map AW.tag=CP (none::rs)/\ ∀c',Fh c c' w' recs->(∀b∈f,c'.ok b)-> ∀r∈recs,Dv c' r.tag r.bk:=by rintro y ys' f' o' rfl CX hf hs;obtain⟨recs,e1,e2,e3,e4,e5⟩:=ih (j+1) CX (λi y hy=>by rw[show j+1+i=j+(i+1)from by omega];exact Gf (i+1) y (by simpa using hy));exact⟨recs,by simp[Mg,e1],e2.trans hs,e3,by simp[CP]at e4 ⊢;exact e4,λc' ha AZ=>e5 c' ha λb hb=>AZ b (hf b hb)⟩
  cases hm with
  |skip _ h8=>exact go rfl h8 (λ_ h=>h) (List.Sublist.refl _)
  |own _ _ _ _ h8=>exact go rfl h8 (λb hb=>by simp[hb]) (List.sublist_append_right _ _)
  |deep _ _ _ _ _ h8=>exact go rfl h8 (λ_ h=>h) (List.sublist_append_right _ _)
theorem yI(us:List Nat)(hU:∀u∈us,c.U u):∃recs:List AW,Et us=recs.map AW.pair/\recs.flatMap AW.top=[]/\(∀r∈recs,r.new=none/\c.U r.tag/\ ∀hs f,r.bk≠ .gd hs f)/\recs.map AW.tag=us/\ ∀c',Fh c c' w' recs-> ∀r∈recs,Dv c' r.tag r.bk:=by
 induction us with
 |nil=>exact⟨[],rfl,rfl,by simp,rfl,by simp⟩
 |cons u us ih=>
  obtain⟨recs,e1,e2,e3,e4,e5⟩:=ih λu hu=>hU u (by simp[hu]);refine⟨⟨u,none,[], .dead⟩::recs,by simp only[Et]at e1;simp[Et,e1,AW.pair],by simp[e2],λr hr=> ?_,by simp[e4],λc' ha r hr=> ?_⟩
  ·rcases Ae.1 hr with rfl|hr
   ·exact⟨rfl,hU _ (by simp),by simp⟩
   ·exact e3 r hr
  ·rcases Ae.1 hr with rfl|hr
   ·have kg:=ha.G _ (List.mem_cons_self ..);simp only at kg;exact⟨by rw[kg],by rw[kg]⟩
   ·exact e5 c' (ha.mono λr hr=>by simp[hr]) r hr
structure Jq(c:Cx)(w':World)(nx m:Nat)(l:List (Nat × Af))(hd o f:List Nat)(recs:List AW):Prop where
 ents:l=recs.map AW.pair
 kz:(recs.flatMap AW.top).Sublist o
 new:∀r∈recs,r.new.isSome=true->nx<=r.tag/\r.tag<nx+m
 old:∀r∈recs,r.new=none->r.tag∈hd/\c.U r.tag
 all:∀t∈hd,∃r∈recs,r.tag=t
 nodup:hd.Nodup->(∀t,nx<=t->t<nx+m-> ¬c.U t)->(recs.map AW.tag).Nodup
 ne:∀r∈recs,∀hs f,r.bk≠ .gd hs f
 ok:∀c',Fh c c' w' recs->(∀b∈f,c'.ok b)-> ∀r∈recs,Dv c' r.tag r.bk
theorem Jq.app{nx m m':Nat}{l l':List (Nat × Af)}{hd Lk o o' f f':List Nat}{recs recs':List AW}(h:Jq c w' nx m l hd o f recs)(k:Jq c w' (nx+m) m' l' Lk o' f' recs'):Jq c w' nx (m+m') (l++l') (hd++Lk) (o++o') (f++f') (recs++recs'):=by
 refine⟨by rw[h.ents,k.ents,List.map_append],by rw[List.flatMap_append];exact h.kz.append k.kz,λr hr hn=> ?_,λr hr hn=> ?_,λt ht=> ?_,λhn hU=> ?_,λr hr=> ?_,λc' ha AZ r hr=> ?_⟩
 ·rcases Ac.1 hr with hr|hr
  ·have:=h.new r hr hn;omega
  ·have:=k.new r hr hn;omega
 ·rcases Ac.1 hr with hr|hr
  ·exact⟨by simp[(h.old r hr hn).1],(h.old r hr hn).2⟩
  ·exact⟨by simp[(k.old r hr hn).1],(k.old r hr hn).2⟩
 ·rcases Ac.1 ht with ht|ht
  ·obtain⟨r,hr,e⟩:=h.all t ht;exact⟨r,by simp[hr],e⟩
  ·obtain⟨r,hr,e⟩:=k.all t ht;exact⟨r,by simp[hr],e⟩
 ·rw[List.nodup_append]at hn;rw[List.map_append,List.nodup_append];refine⟨h.nodup hn.1 λt h1 h2=>hU t h1 (by omega),k.nodup hn.2.1 λt h1 h2=>hU t (by omega) (by omega),λt1 JW t2 KD he=> ?_⟩;obtain⟨q1,Qe,rfl⟩:=List.mem_map.1 JW;obtain⟨q2,I6,rfl⟩:=List.mem_map.1 KD;cases n1:q1.new with
  |none=>
   obtain⟨a1,a2⟩:=h.old q1 Qe n1;cases n2:q2.new with
   |none=>exact hn.2.2 _ a1 _ (k.old q2 I6 n2).1 he
   |some v2=>have:=k.new q2 I6 (by simp[n2]);exact hU q2.tag (by omega) (by omega) (he▸a2)
  |some v1=>
   have:=h.new q1 Qe (by simp[n1]);cases n2:q2.new with
   |none=>exact hU q1.tag (by omega) (by omega) (he▸(k.old q2 I6 n2).2)
   |some v2=>have:=k.new q2 I6 (by simp[n2]);omega
 ·rcases Ac.1 hr with hr|hr
  ·exact h.ne r hr
  ·exact k.ne r hr
 ·rcases Ac.1 hr with hr|hr
  ·exact h.ok c' (ha.mono λr hr=>by simp[hr]) (λb hb=>AZ b (by simp[hb])) r hr
  ·exact k.ok c' (ha.mono λr hr=>by simp[hr]) (λb hb=>AZ b (by simp[hb])) r hr
theorem Jq.jh{nx:Nat}{l:List (Nat × Af)}{hd o f:List Nat}{recs:List AW}(e1:l=recs.map AW.pair)(e2:(recs.flatMap AW.top).Sublist o)(e3:∀r∈recs,r.new=none/\c.U r.tag/\ ∀hs f,r.bk≠ .gd hs f)(e4:recs.map AW.tag=hd)(e5:∀c',Fh c c' w' recs->(∀b∈f,c'.ok b)-> ∀r∈recs,Dv c' r.tag r.bk):Jq c w' nx 0 l hd o f recs:=by
 refine⟨e1,e2,λr hr hn=> ?_,λr hr _=>⟨?_,(e3 r hr).2.1⟩,λt ht=> ?_,λhn _=>by rw[e4];exact hn,λr hr=>(e3 r hr).2.2,λc' ha AZ=>e5 c' ha AZ⟩
 ·rw[(e3 r hr).1]at hn;cases hn
 ·rw[<-e4];exact List.mem_map.2 ⟨r,hr,rfl⟩
 ·rw[<-e4]at ht;obtain⟨r,hr,e⟩:=List.mem_map.1 ht;exact⟨r,hr,e⟩
theorem zzt{ts:List TypeId}{ms:List PM}{vs:List Value}{bs:List PA}(h:Ji P c ts ms vs bs)(hU:∀t g,c.K t g->c.U t){r:Nat}:∀{Bs:List AV} {f o:List Nat} (nx j:Nat),DN P w' ts ms vs Bs f o->(∀k y,Bs[k]?=some y->(E.proj (.var r) (j+k+1)).den c.ρ=y)->
  Bs.length=IT bs/\ ∃recs,Jq c w' nx (KY P bs) (after P r nx bs j) (DM bs) o f recs:=by
 have nilS:∀nx,Jq c w' nx 0 [] [] [] [] []:=λnx=>⟨rfl,by simp,by simp,by simp,by simp,by simp,by simp,by simp⟩
 induction h with
 |nil=>intro Bs f o nx j hb _;cases hb;exact⟨rfl,[],by simpa[after,DM,KY]using nilS nx⟩
 | @ro ts ms v vs bs hm EV ih=>
  intro Bs f o nx j hb hB;cases hb with
  |nil=>exact ih nx j .nil hB
  |ro _ h8=>exact ih nx j h8 hB
  |va h9 _=>rw[hm]at h9;cases h9
  |mu h9 _ _ _=>rw[hm]at h9;cases h9
  |bx h9 _ _ _ _ _ _ _=>rw[hm]at h9;cases h9
 | @va ts ms own v vs bs us hm LB EV ih=>
  intro Bs f o nx j hb hB;obtain⟨recs1,e1,e2,e3,e4,e5⟩:=yI (c:=c) (w':=w') us LB;have s1:Jq c w' nx 0 (Et us) us [] [] recs1:= .jh e1 (by rw[e2];exact List.Sublist.refl _) e3 e4 λc' ha _=>e5 c' ha;cases hb with
  |nil=>obtain⟨h1,recs2,s2⟩:=ih nx j .nil hB;exact⟨by simpa[IT]using h1,recs1++recs2,by simpa[after,DM,KY]using s1.app s2⟩
  |ro h9 _=>rw[hm]at h9;cases h9
  |va _ h8=>obtain⟨h1,recs2,s2⟩:=ih nx j h8 hB;exact⟨by simpa[IT]using h1,recs1++recs2,by simpa[after,DM,KY]using s1.app s2⟩
  |mu h9 _ _ _=>rw[hm]at h9;cases h9
  |bx h9 _ _ _ _ _ _ _=>rw[hm]at h9;cases h9
 | @mu t ts ms own v vs bs us rs hm LB Fy EV ih=>
  intro Bs f o nx j hb hB;cases hb with
  |ro h9 _=>rw[hm]at h9;cases h9
  |va h9 _=>rw[hm]at h9;cases h9
  |bx h9 _ _ _ _ _ _ _=>rw[hm]at h9;cases h9
  | @mu _ _ _ own2 _ _ us2 ys y Bs f1 f o1 o h9 hg TZ h8=>
   rw[hm]at h9;cases h9;obtain⟨h1,recs2,s2⟩:=ih nx (j+1) h8 (λk y hy=>by rw[show j+1+k+1=j+(k+1)+1 from by omega];exact hB (k+1) y (by simpa using hy));have hy:=hB 0 y rfl;have ON:us2=us:=by
    split at LB
    ·rename_i AI;rw[if_pos AI]at hg;obtain⟨rfl,_⟩:=hg;exact xY LB
    ·rename_i AI;rw[if_neg AI]at hg;rw[hg.1,LB]
   subst ON;obtain⟨recs1,e1,e2,e3,e4,e5⟩:=zxr (w':=w') (mk:=DP (.proj (.var r) (j+1)) (Ao P t)) Fy hU 0 TZ (by
    intro i z hz;split at hg
    ·rename_i AI;rw[AI];exact VX (by rw[<-hg.2];exact hy) i z hz
    ·rename_i AI;have G8:Ao P t=false:=by simpa using AI
     rw[hg.2]at hz;cases i with
     |zero=>simp at hz;subst hz;rw[G8];simpa[DP]using hy
     |succ i=>simp at hz)
   have s1:Jq c w' nx 0 _ (CP rs) o1 f1 recs1:= .jh e1 e2 e3 e4 e5;exact⟨by simp[IT,h1],recs1++recs2,by simpa[after,DM,KY]using s1.app s2⟩
 | @bx t ts ms own own' ty v vs bs T b g olds hm El hv hK hH hol EV ih=>
  intro Bs f o nx j hb hB;cases hb with
  |ro h9 _=>rw[hm]at h9;cases h9
  |va h9 _=>rw[hm]at h9;cases h9
  |mu h9 _ _ _=>rw[hm]at h9;cases h9
  | @bx _ _ _ own2 own3 ty2 b2 C _ _ ys y Bs f1 o1 f o h9 JU Df hh CN HY hc h8=>
   rw[hm]at h9;cases h9;rw[El]at JU;cases JU;have WX:b2=b:=by rw[hv]at Df;cases Df;rfl
   subst WX;obtain⟨h1,recs2,s2⟩:=ih (nx+(A9 P ty).length) (j+1) h8 (λk y hy=>by rw[show j+1+k+1=j+(k+1)+1 from by omega];exact hB (k+1) y (by simpa using hy));have hy:=hB 0 y rfl;obtain⟨recs0,d1,d2,d3,d4,d5⟩:=yI (c:=c) (w':=w') olds hol;have s0:Jq c w' nx 0 (Et olds) olds [] [] recs0:= .jh d1 (by rw[d2];exact List.Sublist.refl _) d3 d4 λc' ha _=>d5 c' ha;obtain⟨recs1,e1,e2,e3,e4,_,e5⟩:=RS (c:=c) (nx:=nx) (mk:=DP (.proj (.var r) (j+1)) true) hc 0 (VX (by rw[<-HY];exact hy));have qZ:=hU _ _ hK;have s1:Jq c w' nx (A9 P ty).length ((T, .box ty g (C7 P nx (DP (.proj (.var r) (j+1)) true) 0 (A9 P ty) own').1)::(C7 P nx (DP (.proj (.var r) (j+1)) true) 0 (A9 P ty) own').2) [T] (b2::o1) f1 (⟨T,none,[b2], .box ty g (C7 P nx (DP (.proj (.var r) (j+1)) true) 0 (A9 P ty) own').1⟩::recs1):=by
    refine⟨by simp[e1,AW.pair],?_,λq hq hn=> ?_,λq hq hn=> ?_,by simp,λ_ Ba=> ?_,λq hq=> ?_,λc' ha AZ q hq=> ?_⟩
    ·simp only[List.flatMap_cons,e2,List.singleton_append];exact List.Sublist.refl _
    ·rcases Ae.1 hq with rfl|hq
     ·cases hn
     ·have:=e3 q hq;omega
    ·rcases Ae.1 hq with rfl|hq
     ·exact⟨by simp,qZ⟩
     ·have:=(e3 q hq).2.2;rw[hn]at this;cases this
    ·simp only[List.map_cons,List.nodup_cons];refine⟨λhm=> ?_,e4⟩;obtain⟨q,hq,hqt⟩:=List.mem_map.1 hm;have:=e3 q hq;exact Ba q.tag (by omega) (by omega) (hqt▸qZ)
    ·rcases Ae.1 hq with rfl|hq
     ·simp
     ·intro hs f he;obtain⟨q1,q2⟩:=e3 q hq;have:(q.tag,q.bk)∈(C7 P nx (DP (.proj (.var r) (j+1)) true) 0 (A9 P ty) own').2:=by
       rw[e1];exact List.mem_map.2 ⟨q,hq,rfl⟩
      exact Ph _ _ _ _ _ this he
    ·obtain⟨p1,p2⟩:=e5 c' (ha.mono λr hr=>by simp[hr]) AZ;rcases Ae.1 hq with rfl|hq
     ·obtain⟨a1,a2⟩:=ha.K T 0 hK;have kg:=ha.G _ (List.mem_cons_self ..);simp only at kg;exact⟨b2,C,a1,by rw[a2,hH,hv],by rw[kg],by rw[kg],by rw[ha.w];exact hh,CN,p1⟩
     ·exact p2 q hq
   refine⟨by simp[IT,h1],recs0++((⟨T,none,[b2], .box ty g (C7 P nx (DP (.proj (.var r) (j+1)) true) 0 (A9 P ty) own').1⟩::recs1)++recs2),?_⟩;have s3:=s0.app (s1.app s2);rw[Nat.zero_add]at s3;refine⟨by simpa[after]using s3.ents,s3.kz,s3.new,λq hq hn=> ?_,λt ht=> ?_,λhn Ba=> ?_,s3.ne,s3.ok⟩
   ·have:=s3.old q hq hn;simp only[DM,List.cons_append,Ae,Ac,List.not_mem_nil,or_false,List.nil_append]at this ⊢;exact⟨by rcases this.1 with h|h|h;exact .inr (.inl h);exact .inl h;exact .inr (.inr h),this.2⟩
   ·refine s3.all t ?_;simp only[DM,List.cons_append,Ae,Ac,List.nil_append]at ht ⊢;rcases ht with h|h|h
    ·exact .inr (.inl h)
    ·exact .inl h
    ·exact .inr (.inr h)
   ·refine s3.nodup ?_ Ba;simp only[DM,List.cons_append,List.nodup_cons,List.nodup_append,Ac,not_or,List.nil_append]at hn ⊢;obtain⟨⟨n1,n2⟩,n3,n4,n5⟩:=hn;refine⟨n3,⟨n2,n4⟩,λa ha b hb=> ?_⟩;rcases Ae.1 hb with rfl|hb
    ·rintro rfl;exact n1 ha
    ·exact n5 a ha b hb
end
def PQ(P:Program):List TypeId->List Bool->List AV->Bool
 |t::ts,fl,y::ys=>((fl.headD false&&(CT P t).isSome)||CK P t||y.scalar)&&PQ P ts fl.tail ys
 |_,_,_=>true
def Xo(P:Program)(t:TypeId)(fl:List Bool)(x:AV):Bool:=if F6 P t fl then PQ P (A9 P t) fl (if Ao P t then x.cells else [x])else CK P t||x.cells.all AV.scalar
def WB(P:Program):List TypeId->List Bool->List AV->Bool
 |t::ts,fl,x::xs=>Xo P t fl x&&WB P ts (fl.drop (A9 P t).length) xs
 |_,_,_=>true
def UG(P:Program)(ts:List TypeId)(fl:List Bool)(R:AV):Bool:=match ts with
 | [t]=>Xo P t fl R
 |ts=>match R with
  | .tup ys=>WB P ts fl ys
  |_=>true
def Ib(P:Program):List TypeId->List PM->List AV->Bool
 |t::ts,ms,bs=>(match ms.headD .ro with
  | .ro=>Ib P ts ms.tail bs
  | .va _=>Ib P ts ms.tail bs
  | .mu _=>Ib P ts ms.tail bs.tail
  | .bx _ own'=>(match KH P t,bs with
   |some ty,b::_=>PQ P (A9 P ty) own' b.cells
   |_,_=>true)&&Ib P ts ms.tail bs.tail)
 | [],_,_=>true
def BK:List TypeId->List PM->Bool
 |_::ts,ms=>(match ms.headD .ro with
  | .mu _=>true
  | .bx .. =>true
  |_=>false)||BK ts ms.tail
 | [],_=>false
def Ny(P:Program)(fn:Func)(s:G7)(r:AV):Bool:=
 if BK (fn.params.toList++s.ft) s.b8 then(match r with
  | .tup (R::bs)=>UG P (Dw fn s) s.res R&&Ib P (fn.params.toList++s.ft) s.b8 bs
  |_=>false)
 else UG P (Dw fn s) s.res r
def KJ(P:Program)(w:World)(ts:List TypeId)(fl:List Bool)(v:Value)(R:AV)(f o:List Nat):Prop:=match ts with
 | [t]=>D7 P w t fl v R f o
 |ts=> ∃vs ys,v= .tuple vs.toArray/\R= .tup ys/\Mm P w ts fl vs ys f o
structure gR(P:Program)(fn:Func)(s:G7)(w:World)(vs:List Value)(rf hs:List Nat)(r:AV)(v:Value)(w':World):Prop where
 ex:∃R bs f1 o1 f2 o2,r=(match bs with| []=>R|_=> .tup (R::bs))/\KJ P w' (Dw fn s) s.res v R f1 o1/\DN P w' (fn.params.toList++s.ft) s.b8 vs bs f2 o2/\(o1++o2).Nodup/\
  (∀b∈o1++o2,(b∈hs\/w.heap.size<=b)/\b<w'.heap.size)/\ ∀b∈f1++f2,b∉o1++o2/\(b∈rf\/b∈hs\/w.heap.size<=b)
 mod:Mod hs w w'
theorem Rel.l0{c:Cx}{n:Nat}{sl:Nat->SV}{hp:Nat->Option Af}{a:Act}(h:Rel c n sl hp a){hs:List Nat}(hh:∀b∈hs,∃t,b∈(c.G t).top):gP c.w (λb=>b∈hs):=by
 obtain⟨p1,p2,p3⟩:=h.base.pk;refine⟨Nat.le_trans p1 h.base.size,LF.mono (λb hb=>h.base.block b (by omega) λhm=>by have:=p3 b hm;omega) p2,λb hb=> ?_⟩;obtain⟨t,ht⟩:=hh b hb;rcases h.gw.allow t b (by simp[GI.own,ht])with k|k
 ·have:c.w0.heap.size<=b:=k;omega
 ·exact p3 b k
def Te(P:Program)(s:G7)(f:Nat)(xs:List AV)(r:AV):Prop:=
 ∃fn,P.funcs[f]?=some fn/\fn.body.isSome=true/\(fn.name== "runtime.NumGoroutine")=false/\Ny P fn s r=true/\xs.length=fn.params.size+fn.nfree/\s.ft.length<=fn.nfree/\
  ∀(w:World) (vs:List Value) (rf lf hs:List Nat),DO P w (fn.params.toList++s.ft) s.b8 s.lo vs xs rf lf hs->(∀b∈hs,b∉rf)->(∀b∈hs,b∉lf)->hs.Nodup->gP w (λb=>b∈hs)->
   Calls P f vs.toArray w λe w'=> ∃v,e= .returned v/\gR P fn s w vs rf hs r v w'
def Cm(P:Program)(sg:B1)(f:Nat)(xs:List AV)(r:AV):Prop:=
 if f<1000000 then∃s,sg f=some s/\Te P s f xs r else Te P {b8:=[],res:=[]} (f-1000000) xs r
section
variable {P:Program} {w:World}
theorem wX{v:Value}{x:AV}{f:List Nat}(h:Rd w [v] [x] f)(hx:∀y∈x.cells,y.scalar=true):f=[]:=by
 by_cases AI:∃cs,x= .agg cs
 ·obtain⟨cs,rfl⟩:=AI;obtain⟨as_,_,_,hr⟩:=Kt h rfl;exact Hw hr hx
 ·have:x.cells=[x]:=by cases x<;>first|rfl|exact absurd ⟨_,rfl⟩ AI
  rw[this]at hx;exact Hw h hx
theorem zwS{k el:TypeId}(h:Hz P k=some el):L8 P 6 k=[k]:=by have h8:=Jg h;simp only[L8,h8]
theorem zzY{t el:TypeId}(h:CT P t=some el):CK P t=true:=by
 cases hu:P.underlying t with
 |some u=>unfold CT at h;rw[hu]at h;cases u<;>first|(cases h;done)|simp[CK,Cc,A9,L8,hu]
 |none=>
  unfold CT at h;rw[hu]at h;cases h9:Qn t with
  |some k=>
   rw[h9]at h;have e:A9 P t=[t]:=by
    unfold A9;rw[hu,h9];show(L8 P 6 k).map Ut=[t]
    rw[zwS h,List.map_cons,List.map_nil,zFR h9]
   unfold CK Cc;rw[e];simp only[List.all_cons,List.all_nil,hu,Bool.false_and,Bool.not_false]
  |none=>rw[h9]at h;cases h
theorem Cs.flat{ts:List TypeId}{fl:List Bool}{us:List Value}{ys:List AV}{rf hs:List Nat}(h:Cs P w ts fl us ys rf hs)(h1:EZ P ts fl=false)(h2:PQ P ts fl ys=true):rf=[]:=by
 induction h with
 |nil=>rfl
 |own k1 k2 k23 _ _ ih=>
  simp only[EZ,Bool.or_eq_false_iff]at h1;simp only[PQ,Ab]at h2;have hN:=k23;have hw:=h1.1;rw[zzY k2,k1]at hw;rcases hN with⟨_,rfl⟩|⟨q1,q2⟩
  ·rw[ih h1.2 h2.2];rfl
  ·simp[bG,k2,q1,q2]at hw
 |deep _ _ _ _ _ _ ih=>simp only[EZ,Bool.or_eq_false_iff]at h1;simp only[PQ,Ab]at h2;exact ih h1.2 h2.2
 | @rd t ts fl u us y ys f rf hs hn hr _ ih=>
  simp only[EZ,Bool.or_eq_false_iff]at h1;simp only[PQ,Ab]at h2;have DU:(fl.headD false&&(CT P t).isSome)=false:=by
   cases hh:fl.headD false with
   |false=>rfl
   |true=>rw[hn hh];rfl
  have dW:(fl.headD false&&bG P t)=false:=by
   cases hh:fl.headD false with
   |false=>rfl
   |true=>simp[bG,hn hh]
  rw[dW]at h1;rw[DU]at h2;have I8:CK P t=false:=by simpa using h1.1
  rw[I8]at h2;have hs:y.scalar=true:=by simpa using h2.1
  rw[Hw hr (by simpa using hs),ih h1.2 h2.2];rfl
theorem D7.flat{t:TypeId}{fl:List Bool}{v:Value}{x:AV}{rf hs:List Nat}(h:D7 P w t fl v x rf hs)(h1:gE P t fl=false)(h2:Xo P t fl x=true):rf=[]:=by
 unfold D7 at h;unfold gE at h1;unfold Xo at h2;split at h
 ·rename_i hf;rw[if_pos hf]at h1 h2;obtain⟨us,ys,hg,hc⟩:=h;split at hg
  ·rename_i AI;obtain⟨_,rfl,_⟩:=hg;rw[if_pos AI]at h2;exact hc.flat h1 h2
  ·rename_i AI;obtain⟨_,rfl⟩:=hg;rw[if_neg AI]at h2;exact hc.flat h1 h2
 ·rename_i hf;rw[if_neg hf]at h1 h2;rw[h1]at h2;exact wX h.1 (by simpa using h2)
theorem Mm.flat{ts:List TypeId}{fl:List Bool}{vs:List Value}{xs:List AV}{rf hs:List Nat}(h:Mm P w ts fl vs xs rf hs)(h1:DG P ts fl=false)(h2:WB P ts fl xs=true):rf=[]:=by
 induction h with
 |nil=>rfl
 |cons hv _ ih=>simp only[DG,Bool.or_eq_false_iff]at h1;simp only[WB,Ab]at h2;rw[hv.flat h1.1 h2.1,ih h1.2 h2.2];rfl
theorem KJ.flat{ts:List TypeId}{fl:List Bool}{v:Value}{R:AV}{f o:List Nat}(h:KJ P w ts fl v R f o)(h1:DG P ts fl=false)(h2:UG P ts fl R=true):f=[]:=by
 match ts,h,h1,h2 with
 | [t],h,h1,h2=>simp only[DG,Bool.or_false]at h1;exact D7.flat h h1 h2
 | [],h,h1,h2=>obtain⟨vs,ys,_,rfl,hv⟩:=h;exact hv.flat h1 h2
 |t::u::ts,h,h1,h2=>obtain⟨vs,ys,_,rfl,hv⟩:=h;exact hv.flat h1 h2
theorem C3.void{ety sz:Nat}{a:Option Addr}{x:AV}{top N:List Nat}(h:C3 w ety sz (.slice a 0 0) x top N):N=[]:=by
 obtain⟨xs,_,_,_,⟨_,_,_,h⟩|⟨g,cap,C,hv,h6,_,_,_,_,_,hr⟩⟩:=h
 ·exact h
 ·have h0:xs.length=0:=by injection hv with _ h _;exact h.symm
  have:xs=[]:=by cases xs with|nil=>rfl|cons _ _=>simp at h0
  subst this;simp[Aq]at hr;cases hr;rfl
theorem Fs.flat{c:Cx}{ts:List TypeId}{fl:List Bool}{us:List Value}{rs:List (Option RI)}(h:G2 P c ts fl us rs):∀{ys:List AV} {f o:List Nat},Fs P w ts fl us ys f o->rs.any RI.lent=false->f=[]:=by
 induction h with
 |nil=>intro ys f o hm _;cases hm;rfl
 |row k1 k2 k23 _ _ _ _ ih=>
  intro ys f o hm hl;simp only[List.any_cons,Bool.or_eq_false_iff,RI.lent]at hl;cases hm with
  |own _ q2 q23 _ q4=>
   rw[k2]at q2;cases q2;rcases q23 with⟨_,rfl⟩|⟨q,_⟩
   ·exact ih q4 hl.2
   ·rw[q]at hl;simp at hl
  |deep _ _ _ _ _ q=>exact ih q hl.2
  |skip _ q=>exact ih q hl.2
 |deep k1 k2 k21 k22 _ _ _ _ _ ih=>
  intro ys f o hm hl;simp only[List.any_cons,Bool.or_eq_false_iff]at hl;cases hm with
  |own _ q2 q23 _ q4=>
   rw[k2]at q2;cases q2;rcases q23 with⟨_,rfl⟩|⟨_,q⟩
   ·exact ih q4 hl.2
   ·rw[q]at k22;cases k22
  |deep _ _ _ _ _ q=>exact ih q hl.2
  |skip _ q=>exact ih q hl.2
 |none hv _ ih=>
  intro ys f o hm hl;simp only[List.any_cons,Bool.or_eq_false_iff]at hl;cases hm with
  |own q1 q2 _ q3 q4=>
   rcases hv q1 with hh|⟨a,rfl⟩
   ·rw[hh]at q2;cases q2
   ·rw[C3.void q3];exact ih q4 hl.2
  |deep _ _ _ _ _ q=>exact ih q hl.2
  |skip _ q=>exact ih q hl.2
theorem DN.flat{c:Cx}{ts:List TypeId}{ms:List PM}{vs:List Value}{bs:List PA}(h:Ji P c ts ms vs bs):∀{Bs:List AV} {f o:List Nat},DN P w ts ms vs Bs f o->D9 P bs=false->Ib P ts ms Bs=true->f=[]:=by
 induction h with
 |nil=>intro Bs f o hb _ _;cases hb;rfl
 | @ro ts ms v vs bs hm _ ih=>
  intro Bs f o hb h1 h2;cases hb with
  |nil=>rfl
  |ro _ h8=>simp only[Ib,hm]at h2;exact ih h8 h1 h2
  |va h9 _=>rw[hm]at h9;cases h9
  |mu h9 _ _ _=>rw[hm]at h9;cases h9
  |bx h9 _ _ _ _ _ _ _=>rw[hm]at h9;cases h9
 | @va ts ms own v vs bs us hm _ _ ih=>
  intro Bs f o hb h1 h2;cases hb with
  |nil=>rfl
  |ro h9 _=>rw[hm]at h9;cases h9
  |va _ h8=>simp only[Ib,hm]at h2;exact ih h8 h1 h2
  |mu h9 _ _ _=>rw[hm]at h9;cases h9
  |bx h9 _ _ _ _ _ _ _=>rw[hm]at h9;cases h9
 | @mu t ts ms own v vs bs us rs hm LB Fy _ ih=>
  intro Bs f o hb h1 h2;cases hb with
  |ro h9 _=>rw[hm]at h9;cases h9
  |va h9 _=>rw[hm]at h9;cases h9
  | @mu _ _ _ own2 _ _ us2 ys y Bs f1 f o1 o h9 hg TZ h8=>
   rw[hm]at h9;cases h9;simp only[Ib,hm]at h2;simp only[D9,Bool.or_eq_false_iff]at h1;have ON:us2=us:=by
    split at LB
    ·rename_i AI;rw[if_pos AI]at hg;obtain⟨rfl,_⟩:=hg;exact xY LB
    ·rename_i AI;rw[if_neg AI]at hg;rw[hg.1,LB]
   subst ON;rw[Fs.flat Fy TZ h1.1,ih h8 h1.2 h2];rfl
  |bx h9 _ _ _ _ _ _ _=>rw[hm]at h9;cases h9
 | @bx t ts ms own own' ty v vs bs T b g olds hm El _ _ _ _ _ ih=>
  intro Bs f o hb h1 h2;cases hb with
  |ro h9 _=>rw[hm]at h9;cases h9
  |va h9 _=>rw[hm]at h9;cases h9
  |mu h9 _ _ _=>rw[hm]at h9;cases h9
  |bx h9 JU _ _ _ hy hc h8=>rw[hm]at h9;cases h9;rw[El]at JU;cases JU;simp only[Ib,hm,El,Ab,hy,List.tail_cons]at h2;simp only[D9,Bool.or_eq_false_iff]at h1;rw[hc.flat h1.1 h2.1,ih h8 h1.2 h2.2];rfl
theorem mC{ts:List TypeId}{ms:List PM}{vs:List Value}{Bs:List AV}{f o:List Nat}(h:DN P w ts ms vs Bs f o):Bs=[]↔BK ts ms=false:=by
 induction h with
 |nil=>simp[BK]
 |ro hm _ ih=>simp only[BK,hm,Bool.false_or];exact ih
 |va hm _ ih=>simp only[BK,hm,Bool.false_or];exact ih
 |mu hm _ _ _ _=>simp only[BK,hm,Bool.true_or];simp
 |bx hm _ _ _ _ _ _ _ _=>simp only[BK,hm,Bool.true_or];simp
end
section
variable {P:Program} {c:Cx} {n nx:Nat} {sl sl0:Nat->SV} {hp hp0:Nat->Option Af} {a:Act} {o:Oper} {gs:Gd} {e:Bb} {sg:B1} {nv:Nat}
theorem zZ{xs:List Operand}:∀{ss:List SV},(∀x∈xs,∀s,BL sl0 gs x=some s->SR c [s] [a.eval x])->xs.mapM (BL sl0 gs)=some ss->SR c ss (xs.map a.eval):=by
 induction xs with
 |nil=>intro ss _ h;simp at h;subst h;exact .nil
 |cons x xs ih=>intro ss hx h;rw[List.mapM_cons]at h;simp only[Option.bind_eq_bind,Av,Option.pure_def,Ad]at h;obtain⟨s,hs,ss',Gp,rfl⟩:=h;exact(hx x (by simp) s hs).cons (ih (λy hy=>hx y (by simp[hy])) Gp)
theorem Sq:∀{l:List Nat},Mh l=true->l.Nodup
 | [],_=>by simp
 |x::l,h=>by simp only[Mh,Ab,Bg,List.contains_eq_mem,decide_eq_false_iff_not]at h;exact List.nodup_cons.2 ⟨h.1,Sq h.2⟩
theorem zzT{c1:Cx}{w':World}{recs:List AW}{hs f o:List Nat}(gw:GW c)(hg:∀t,(c1.G t).top=(c.G t).top\/(c1.G t).top=[])(hA:c1.A=c.A)(bP:c1.Mu=c.Mu)(MW:c1.w0=c.w0)(hB:c.w0.heap.size<=c.w.heap.size)
  (hn:(recs.map AW.tag).Nodup) (Cj:∀r∈recs,∀b∈r.top,b∈o) (Hg:∀b∈hs,∃r∈recs,b∈(c.G r.tag).top) {rf:List Nat} (MO:∀b∈rf,c1.ok b) (hf:∀b∈f,b∉o/\(b∈rf\/b∈hs\/c.w.heap.size<=b)):∀b∈f,(c1.dh w' recs).ok b:=by
 intro b hb;obtain⟨h1,h2⟩:=hf b hb;have hM:(c1.dh w' recs).M b-> ∃t,(∀r∈recs,r.tag≠t)/\b∈(c1.G t).top:=by
  rintro⟨t,ht⟩;by_cases hT:∃r∈recs,r.tag=t
  ·obtain⟨r,hr,rfl⟩:=hT;rw[Cx.dr hn hr]at ht;exact absurd (Cj r hr b ht) h1
  ·rw[Cx.c8 λr hr hh=>hT ⟨r,hr,hh⟩]at ht;exact⟨t,λr hr hh=>hT ⟨r,hr,hh⟩,ht⟩
 have sub:∀t,b∈(c1.G t).top->b∈(c.G t).top:=λt ht=>by
  rcases hg t with hh|hh
  ·rw[<-hh];exact ht
  ·rw[hh]at ht;simp at ht
 rcases h2 with h2|h2|h2
 ·refine⟨λhm=> ?_,(MO b h2).2⟩;obtain⟨t,_,ht⟩:=hM hm;exact(MO b h2).1 ⟨t,ht⟩
 ·obtain⟨r,hr,WZ⟩:=Hg b h2;refine⟨λhm=> ?_, .inr ?_⟩
  ·obtain⟨t,Ek,ht⟩:=hM hm;exact gw.cq r.tag t (Ek r hr) b (by simp[GI.own,WZ]) (by simp[GI.own,sub t ht])
  ·have:=gw.allow r.tag b (by simp[GI.own,WZ]);simp only[Cx.dh,Cx.B,MW,bP]at this ⊢;exact this
 ·refine⟨λhm=> ?_, .inr (.inl ?_)⟩
  ·obtain⟨t,_,ht⟩:=hM hm;have:=gw.inb t b (by simp[GI.own,sub t ht]);omega
  ·simp only[Cx.dh,Cx.B,MW];omega
theorem zBd(h:BA P c n nx sl hp a sl0 hp0 o gs){cl:Call}{fo:Operand}(ho:o.op= .call cl)(Ax:cl.callee= .value fo){g:Nat}{caps:BP}(hf:BL sl0 gs fo=some (.fn g caps)){as_:List SV}(has:cl.args.toList.mapM (BL sl0 gs)=some as_)
  (hg:g<1000000) (he:Wk P sg hp0 gs nv nx g (as_++caps.toList)=some e) (Bm:∀c',e.call=some c'-> ∃r,c.ρ[nv]?=some r/\IN (Cm P sg) c'.fn ((EL.of c'.args).den c.ρ) c.ρ r):AB P o c n nx sl hp gs a e:=by
 have dQ:fo∈o.op.operands:=by simp[ho,Op.operands,Call.operands,Ax]
 have dP:∀x∈cl.args.toList,x∈o.op.operands:=λx hx=>by
  have:x∈cl.args:=by simpa using hx
  simp[ho,Op.operands,Call.operands,Ax,this]
 have MO:=h.cu hf dQ;generalize cV:a.eval fo=fv at MO;cases MO with
 |fn Tz h8=>
 rename_i capv;have Ah:=(zZ (a:=a) (λx hx s hs=>h.cu hs (dP x hx)) has).app Tz;unfold Wk at he;split at he
 ·rename_i fn s Iu JV;split at he
  ·cases he
  rename_i hlen;simp only[Bool.or_eq_true,not_or,Bool.not_eq_true,bne_eq_false_iff_eq]at hlen;split at he
  ·cases he
  rename_i es bs us uz Bf;split at he
  ·cases he
  rename_i B8;simp only[Bool.or_eq_true,Bg,not_or,Bool.not_eq_false,Bool.not_eq_true]at B8;obtain⟨⟨dU,ET⟩,Lu⟩:=B8;have T3:=Sq dU;have G9:∀u∈us,u∉DM bs:=λu hu hh=>by rw[List.any_eq_false]at ET;have:=ET u hu;simp only[List.contains_eq_mem,AR]at this;exact this hh
  have Le:∀u∈uz,u∉DM bs:=λu hu hh=>by rw[List.any_eq_false]at Lu;have:=Lu u hu;simp only[List.contains_eq_mem,AR]at this;exact this hh
  simp only at he;split at he
  ·cases he
  rename_i Bz;simp only[Nat.not_le]at Bz;split at he
  ·cases he
  rename_i IB;split at he
  ·cases he
  rename_i fz He;have hK:∀t g,c.K t g->c.U t:=h.rel.bq;obtain⟨rf,lf,hs,q1,q2,qz,q3,q4,q5,q6⟩:=zwf (P:=P) h.rel.base h.eh h.gs hK (as_++caps.toList) Bf Ah (by rw[hlen.1.2,AP,BC];have:=hlen.2;simp only[decide_eq_false_iff_not,Nat.not_lt]at this;omega);obtain⟨fts,HO,TN⟩:∃fts,DX hp0 gs fts=some fz/\ ∀t∈fts,t∈us:=by
   split at He
   ·exact⟨us,He,λt ht=>ht⟩
   ·simp only[Ad]at He;subst He;exact⟨[],rfl,by simp⟩
  have DA:=h.rel.freeze h.hp h.gs HO;have MA:∀t∈fz.map (·.1),t∈us:=λt ht=>by obtain⟨⟨t',e'⟩,hm,rfl⟩:=List.mem_map.1 ht;exact TN _ ((Pn h.gs HO).1 t' e' hm).1
  have Tj:∀t,((c.bu (fz.map (·.1))).G t).top=(c.G t).top\/((c.bu (fz.map (·.1))).G t).top=[]:=λt=>by
   simp only[Cx.bu];split
   ·exact .inr rfl
   ·exact .inl rfl
  have hGh:∀t∈DM bs,(c.bu (fz.map (·.1))).G t=c.G t:=λt ht=>by simp only[Cx.bu];rw[if_neg];intro hh;exact G9 t (MA t hh) ht
  have qM:∀t∈DM bs,(c.bu (fz.map (·.1))).E t=c.E t:=λt ht=>by simp only[Cx.bu];rw[if_neg];intro hh;exact G9 t (MA t hh) ht
  have eU:hs.Nodup:=by
   rw[q3];have:∀l:List Nat,l.Nodup->(l.flatMap λt=>(c.G t).top).Nodup:=by
    intro l
    induction l with
    |nil=>intro _;simp
    |cons t l ih=>intro hl;rw[List.nodup_cons]at hl;rw[List.flatMap_cons,List.nodup_append];refine⟨(List.nodup_append.1 (h.rel.gw.nodup t)).1,ih hl.2,λx hx y hy Hm=> ?_⟩;subst Hm;obtain⟨u,hu,fE⟩:=List.mem_flatMap.1 hy;exact h.rel.gw.cq t u (λhh=>hl.1 (hh▸hu)) x (by simp[GI.own,hx]) (by simp[GI.own,fE])
   exact this _ T3
  have JI:∀b∈hs,∃t∈DM bs,b∈(c.G t).top:=λb hb=>by rw[q3]at hb;exact List.mem_flatMap.1 hb
  have Gb:∀b∈hs,b∉rf:=λb hb hr=>by
   obtain⟨t,ht,CL⟩:=JI b hb;rcases q2 b hr with hh|⟨u,hu,Ir⟩
   ·exact hh.1 ⟨t,CL⟩
   ·exact h.rel.gw.cq t u (λhh=>G9 u hu (hh▸ht)) b (by simp[GI.own,CL]) (by simp[GI.own,Ir])
  have JA:∀b∈hs,b∉lf:=λb hb hr=>by
   obtain⟨t,ht,CL⟩:=JI b hb;rcases qz b hr with(hh|⟨u,hu,Ir⟩)|⟨h1,h2⟩
   ·exact hh.1 ⟨t,CL⟩
   ·exact h.rel.gw.cq t u (λhh=>Le u hu (hh▸ht)) b (by simp[GI.own,CL]) (by simp[GI.own,Ir])
   ·rcases h.rel.gw.allow t b (by simp[GI.own,CL])with k|k
    ·have:c.w0.heap.size<=b:=k;omega
    ·exact h2 k
  have Fu:∃(val:SV) (l:List (Nat × Af)),e={call:=some ⟨.inl g,es⟩,val:=val,bk:=fz++(UC gs l++after P nv (nx+((Dw fn s).flatMap (A9 P)).length) bs 0)}/\
    ∀(R:AV) (w':World) (v:Value) (f1 o1:List Nat),KJ P w' (Dw fn s) s.res v R f1 o1->(if IT bs=0 then E.var nv else .proj (.var nv) 0).den c.ρ=R-> ∃recs:List AW,l=recs.map AW.pair/\recs.flatMap AW.top=o1/\(∀r∈recs,nx<=r.tag/\r.tag<nx+((Dw fn s).flatMap (A9 P)).length/\r.new.isSome)/\(recs.map AW.tag).Nodup/\
     (∀r∈recs,∀hs f,r.bk≠ .gd hs f)/\ ∀c',Fh c c' w' recs->(∀b∈f1,c'.ok b)->SR c' [val] [v]/\ ∀r∈recs,Dv c' r.tag r.bk:=by
   have BF:∀{l:List (Nat × Af)} {recs:List AW},l=recs.map AW.pair->(∀t x,(t,x)∈l-> ∀hs f,x≠ .gd hs f)-> ∀r∈recs,∀hs f,r.bk≠ .gd hs f:=by rintro l recs rfl hh r hr;exact hh r.tag r.bk (List.mem_map.2 ⟨r,hr,rfl⟩)
   have fvne:∀(t:TypeId) (k:Nat) (fl:List Bool) (x:E) (u:Nat) (y:Af),(u,y)∈(Px P k t fl x).2-> ∀hs f,y≠ .gd hs f:=by
    intro t k fl x u y hy hs f;unfold Px at hy;split at hy
    ·exact Ph _ _ _ _ _ hy
    ·simp at hy
   split at he
   ·rename_i t Uk;simp only[Ad]at he;subst he;refine⟨_,_,rfl,λR w' v f1 o1 hr hR=> ?_⟩;rw[Uk]at hr;obtain⟨recs,e1,e2,e3,e4,e5⟩:=wV (c:=c) (nx:=nx) (x:=if IT bs=0 then E.var nv else .proj (.var nv) 0) (show D7 P w' t s.res v R f1 o1 from hr) hR;exact⟨recs,e1,e2,by simpa[Uk]using e3,e4,BF e1 (fvne _ _ _ _),e5⟩
   ·rename_i Uk;simp only[Ad]at he;subst he;refine⟨_,_,rfl,λR w' v f1 o1 hr hR=> ?_⟩;obtain⟨vs,ys,rfl,rfl,hv⟩:∃vs ys,v= .tuple vs.toArray/\R= .tup ys/\Mm P w' (Dw fn s) s.res vs ys f1 o1:=by
     unfold KJ at hr;split at hr
     ·rename_i t ht;exact absurd ht (Uk t)
     ·exact hr
    obtain⟨recs,e1,e2,e3,e4,e5⟩:=zsW (c:=c) (x:=if IT bs=0 then E.var nv else .proj (.var nv) 0) hv nx 0 (λk y hy=>by show AV.proj ((if IT bs=0 then E.var nv else .proj (.var nv) 0).den c.ρ) (0+k)=y;rw[hR];simp[AV.proj,hy])
    have fvsne:∀(ts:List TypeId) (k:Nat) (fl:List Bool) (x:E) (i u:Nat) (y:Af),(u,y)∈(Nq P k ts fl x i).2-> ∀hs f,y≠ .gd hs f:=by
     intro ts
     induction ts with
     |nil=>intro k fl x i u y hy;simp[Nq]at hy
     |cons t ts ih=>
      intro k fl x i u y hy;simp only[Nq,Ac]at hy;rcases hy with hy|hy
      ·exact fvne _ _ _ _ _ _ hy
      ·exact ih _ _ _ _ _ _ hy
    exact⟨recs,e1,e2,e3,e4,BF e1 (fvsne _ _ _ _ _),λc' ha AZ=>⟨.tup (by rw[BP.ax];exact(e5 c' ha AZ).1) .nil,(e5 c' ha AZ).2⟩⟩
  obtain⟨val,l,rfl,OL⟩:=Fu;obtain⟨r,hr,AZ⟩:=Bm _ rfl;have OJ:∃s',sg g=some s'/\Te P s' g ((EL.of es).den c.ρ) r:=by have AZ:Cm P sg g ((EL.of es).den c.ρ) r:=AZ;unfold Cm at AZ;rwa[if_pos hg]at AZ
  obtain⟨s',A5,fn',JE,D8,Gh,B4,_,_,FM⟩:=OJ;rw[JV]at A5;cases A5;rw[Iu]at JE;cases JE;rw[EL.dd]at FM;have Bm:=FM c.w _ rf lf hs q1 Gb JA eU (h.rel.l0 λb hb=>by obtain⟨t,_,ht⟩:=JI b hb;exact⟨t,ht⟩);have ex:(execOp a.eval o).run P c.w= .ok (.enter g (cl.args.map a.eval++capv.toArray)) c.w:=by
   have hb:fn.body.isNone=false:=by simpa using D8
   simp only[execOp,ho,resolve,Ax,cV,Deferred.ofValue,Sem.run_bind,Sem.run_pure,Result.andThen_ok,invoke,callFunc,run_program,Iu];simp[Gh,hb]
  intro next Q hk
  unfold Oper.wp;rw[ex,Oper.upon_enter];have Oe:cl.args.map a.eval++capv.toArray=((cl.args.toList.map a.eval)++capv).toArray:=by apply Array.ext';simp
  rw[Oe];refine Bm.mono ?_;rintro e' w' ⟨v,rfl,⟨R,Bs,f1,o1,f2,o2,Lx,AO,Ft,Hi,T6,TK⟩,Bq⟩;show next (a.put o.dst v) w'
  have hBn:∀k y,Bs[k]?=some y->(E.proj (.var nv) (0+k+1)).den c.ρ=y:=by
   intro k y hy;cases Bs with
   |nil=>simp at hy
   |cons B Bs=>simp only[E.den,hr,Dg,Lx,AV.proj,Nat.zero_add,List.getElem?_cons_succ,hy]
  obtain⟨T2,recsB,hB⟩:=zzt (w':=w') q4 hK (r:=nv) (nx+((Dw fn s).flatMap (A9 P)).length) 0 Ft hBn;have hR:(if IT bs=0 then E.var nv else .proj (.var nv) 0).den c.ρ=R:=by
   cases Bs with
   |nil=>rw[if_pos (by simpa using T2.symm)];simp only[E.den,hr,Dg,Lx]
   |cons B Bs=>rw[if_neg (by rw[<-T2];simp)];simp[E.den,hr,Lx,AV.proj]
  obtain⟨recsV,v1,v2,v3,v4,v5,v6⟩:=OL R w' v f1 o1 AO hR;have Gi:∀t,nx<=t->t<nx+(((Dw fn s).flatMap (A9 P)).length+KY P bs)-> ¬c.U t:=λt h1 h2=>h.new t h1 (by omega);have Ti:=hB.nodup T3 λt h1 h2=>Gi t (by omega) (by omega);have Da:((recsV++recsB).map AW.tag).Nodup:=by
   rw[List.map_append,List.nodup_append];refine⟨v4,Ti,λt1 h1 t2 h2 he=> ?_⟩;obtain⟨p1,eF,rfl⟩:=List.mem_map.1 h1;obtain⟨p2,rQ,rfl⟩:=List.mem_map.1 h2;have a1:=v3 p1 eF;cases hn:p2.new with
   |none=>exact Gi p1.tag (by omega) (by omega) (he▸(hB.old p2 rQ hn).2)
   |some _=>have:=hB.new p2 rQ (by simp[hn]);omega
  have HU:∀r∈recsV++recsB,r.new.isSome=true->nx<=r.tag/\r.tag<nx+(((Dw fn s).flatMap (A9 P)).length+KY P bs):=λr hr hn=>by
   rcases Ac.1 hr with hr|hr
   ·have:=v3 r hr;omega
   ·have:=hB.new r hr hn;omega
  have EY:((recsV++recsB).flatMap AW.top).Sublist (o1++o2):=by rw[List.flatMap_append,v2];exact(List.Sublist.refl _).append hB.kz
  have dC:∀b∈hs,∃r∈recsV++recsB,b∈(c.G r.tag).top:=λb hb=>by obtain⟨t,ht,CL⟩:=JI b hb;obtain⟨r,hr,rfl⟩:=hB.all t ht;exact⟨r,by simp[hr],CL⟩
  have TS:∀b∈hs,∃r∈recsV++recsB,b∈((c.bu (fz.map (·.1))).G r.tag).top:=λb hb=>by obtain⟨t,ht,CL⟩:=JI b hb;obtain⟨r,hr,rfl⟩:=hB.all t ht;exact⟨r,by simp[hr],by rw[hGh _ ht];exact CL⟩
  have EX:∀r∈recsV++recsB,∀b∈r.top,b∈o1++o2:=λr hr b hb=>EY.subset (List.mem_flatMap.2 ⟨r,hr,hb⟩);have OG:∀b∈f1++f2,((c.bu (fz.map (·.1))).dh w' (recsV++recsB)).ok b:=by
   cases Xd:(DG P (Dw fn s) s.res||D9 P bs)with
   |false=>
    simp only[Bool.or_eq_false_iff]at Xd;have B7:UG P (Dw fn s) s.res R=true/\Ib P (fn.params.toList++s.ft) s.b8 Bs=true:=by
     unfold Ny at B4;cases N5:Bs with
     |nil=>
      rw[if_neg (by rw[(mC Ft).1 N5];simp)]at B4;rw[N5]at Lx;rw[Lx]at B4;refine⟨B4,?_⟩;have:∀(ts:List TypeId) (ms:List PM),Ib P ts ms []=true:=by
       intro ts
       induction ts with
       |nil=>intro ms;rfl
       |cons t ts ih=>
        intro ms;unfold Ib;split
        ·exact ih _
        ·exact ih _
        ·exact ih _
        ·split
         ·rename_i hh;cases hh
         ·simpa using ih _
      exact this _ _
     |cons B Bs'=>
      rw[if_pos (by
       cases hh:BK (fn.params.toList++s.ft) s.b8 with
       |true=>rfl
       |false=>rw[(mC Ft).2 hh]at N5;cases N5)]at B4
      rw[Lx,N5]at B4;simpa using B4
    have e1:f1=[]:=AO.flat Xd.1 B7.1;have e2:f2=[]:=DN.flat q4 Ft Xd.2 B7.2;subst e1;subst e2;simp
   |true=>rw[Xd]at IB He;simp only[Bool.true_and,Bg,Bool.not_eq_false]at IB;simp only[if_true]at He;exact zzT (rf:=rf) h.rel.gw Tj rfl rfl rfl h.rel.base.size Da EX dC (λb hb=>VM h.rel h.eh h.gs He (by simpa using IB) (q2 b hb)) TK
  have TI:after P nv (nx+((Dw fn s).flatMap (A9 P)).length) bs 0=recsB.map λr=>(r.tag,CS gs r.bk):=by
   cases P8:bs with
   |nil=>
    have:=hB.ents;rw[P8]at this;simp only[after]at this;have:recsB=[]:=by simpa using this.symm
    rw[this];rfl
   |cons b bs'=>have Fl:=q6 (by rw[P8];simp);rw[<-P8,hB.ents,Fl];rfl
  have BG:UC gs l++after P nv (nx+((Dw fn s).flatMap (A9 P)).length) bs 0=(recsV++recsB).map λr=>(r.tag,CS gs r.bk):=by rw[TI,List.map_append];congr 1;rw[v1];simp[UC,AW.pair]
  obtain⟨Fv,Cd⟩:=DA.changes (w':=w') (recs:=recsV++recsB) (hs:=hs) (gs:=gs) h.gs Bq Da (λr hr hn=>by have:=HU r hr hn;exact Gi _ this.1 this.2) TS (EY.nodup Hi) (λr hr b hb=>T6 b (EX r hr b hb))
   (λr hr=>by
    rcases Ac.1 hr with hr|hr
    ·exact v5 r hr
    ·exact hB.ne r hr)
   (λ_ r hr=>by
    have aft:=Cx.df (c:=c.bu (fz.map (·.1))) (w':=w') (recs:=recsV++recsB) h.rel.bq Da (λr hr hn=>by have:=HU r hr hn;exact Gi _ this.1 this.2);have aft':Fh c ((c.bu (fz.map (·.1))).dh w' (recsV++recsB)) w' (recsV++recsB):=⟨aft.ρ,aft.w,aft.G,aft.new,aft.K,aft.old,aft.ie,λr hr DU=>(aft.fy r hr DU).trans (by
     rcases Ac.1 hr with hr|hr
     ·have:=(v3 r hr).2.2;rw[DU]at this;cases this
     ·rw[qM _ (hB.old r hr DU).1])⟩
    rcases Ac.1 hr with hr|hr
    ·exact(v6 _ (aft'.mono λr hr=>by simp[hr]) λb hb=>OG b (by simp[hb])).2 r hr
    ·exact hB.ok _ (aft'.mono λr hr=>by simp[hr]) (λb hb=>OG b (by simp[hb])) r hr)
  have aft:=Cx.df (c:=c.bu (fz.map (·.1))) (w':=w') (recs:=recsV++recsB) h.rel.bq Da (λr hr hn=>by have:=HU r hr hn;exact Gi _ this.1 this.2);have aft':Fh c ((c.bu (fz.map (·.1))).dh w' (recsV++recsB)) w' (recsV++recsB):=⟨aft.ρ,aft.w,aft.G,aft.new,aft.K,aft.old,aft.ie,λr hr DU=>(aft.fy r hr DU).trans (by
     rcases Ac.1 hr with hr|hr
     ·have:=(v3 r hr).2.2;rw[DU]at this;cases this
     ·rw[qM _ (hB.old r hr DU).1])⟩
  have JZ:=(v6 _ (aft'.mono λr hr=>by simp[hr]) λb hb=>OG b (by simp[hb])).1;rw[<-BG,<-PB]at Fv;refine hk _ ((c.bu (fz.map (·.1))).dh w' (recsV++recsB)) ⟨rfl,rfl,rfl,rfl,λt ht=> ?_⟩ (Fv.put (JZ.mkGd gs h.gs) o.dst);rcases ht with ht|⟨r,hr,rfl⟩
  ·exact .inl ht
  ·cases hn:r.new with
   |none=>
    rcases Ac.1 hr with hr|hr
    ·have:=(v3 r hr).2.2;rw[hn]at this;cases this
    ·exact .inl (hB.old r hr hn).2
   |some _=>have:=HU r hr (by simp[hn]);exact .inr ⟨this.1,by simp only[BV];omega⟩
 ·cases he
end
def Cr(c:Cx)(us:List Nat):List Nat:=us.flatMap λt=>(c.G t).top
theorem nH(c:Cx):Cr c []=[]:=rfl
theorem Zy(c:Cx)(u:Nat)(us:List Nat):Cr c (u::us)=(c.G u).top++Cr c us:=by simp[Cr]
theorem Kh(c:Cx)(us vs:List Nat):Cr c (us++vs)=Cr c us++Cr c vs:=by simp[Cr]
theorem Sf{c:Cx}{us:List Nat}{b:Nat}:b∈Cr c us↔ ∃t∈us,b∈(c.G t).top:=by simp[Cr]
theorem Zo{c:Cx}(gw:GW c):∀{l:List Nat},l.Nodup->(Cr c l).Nodup
 | [],_=>by simp[Cr]
 |t::l,hl=>by
  rw[Zy,List.nodup_append];rw[List.nodup_cons]at hl;refine⟨?_,Zo gw hl.2,λa ha b hb hab=> ?_⟩
  ·have:=gw.nodup t;simp only[GI.own]at this;exact(List.nodup_append.1 this).1
  ·subst hab;obtain⟨u,hu,Ir⟩:=Sf.1 hb;exact gw.cq t u (λhh=>hl.1 (hh▸hu)) a (by simp[GI.own,ha]) (by simp[GI.own,Ir])
section
variable {P:Program} {c:Cx} {hp:Nat->Option Af} {gs:Gd}
theorem o7{m:Nat}{u g:Nat}{x y:E}(hx:BB hp gs m (.own u g)=some x)(hy:IK hp gs u g=some y):x=y:=by
 cases m with
 |zero=>simp[BB]at hx
 |succ m=>simp only[BB,hy,Ad]at hx;exact hx.symm
theorem zyn{m:Nat}{x:E}(h:BB hp gs m .emp=some x):x= .lst .nil:=by
 cases m with
 |zero=>simp[BB]at h
 |succ m=>simp[BB]at h;exact h.symm
theorem zxm(eh:EH c hp)(k:Bu c.ρ gs){d:DT}{s:SV}{us:List Nat}{ck:List Cn}{v:Value}{x:E}{m:Nat}(h:fO hp gs d s=some (us,ck))(hs:SR c [s] [v])(hx:BB hp gs m s=some x)(hc:∀q∈ck,q.den c.ρ):
  DC c.w [d] [v] [x.den c.ρ] (Cr c us)/\ ∀u∈us,∃g,c.K u g:=by
 unfold fO at h;split at h
 ·rename_i y;simp only[Ad,AX]at h;obtain⟨rfl,rfl⟩:=h;rw[KX hx];cases hs with
  |e h1 h2 h3=>
   rename_i f;have E8:(y.den c.ρ).scalar=true:=by
    cases hl:UQ y with
    |true=>cases y<;>simp[UQ]at hl<;>rfl
    |false=>rw[hl]at hc;exact(Ci hc).2.2.2 rfl
   have hf:f=[]:=Hw h1 (by simpa using E8);subst hf;exact⟨.flat h1 .nil,by simp⟩
 ·split at h
  ·rename_i hh;simp only[Ad,AX]at h;obtain⟨rfl,rfl⟩:=h;rw[LW hx];cases hs with
   |cd _=>exact⟨.void hh.1 hh.2 .nil,by simp⟩
  ·cases h
 ·split at h
  ·rename_i hh;simp only[Ad,AX]at h;obtain⟨rfl,rfl⟩:=h;rw[zyn hx];cases hs with
   |emp _=>exact⟨.void hh.1 hh.2 .nil,by simp⟩
  ·cases h
 ·rename_i e z l u g;split at h
  ·rename_i e' z' l' g' ep y hl;split at h
   ·rename_i hh;obtain⟨rfl,rfl,rfl,hb⟩:=hh;simp only[Ad,AX]at h;obtain⟨rfl,rfl⟩:=h;obtain⟨q1,q2,q3,q4,q5⟩:=eh u _ (CJ hl k);rw[o7 (y:=y) hx (by simp only[IK,hl,if_true])];have hb:=Az.of_eq hb;subst hb;rw[Az.cw]at q4;cases hs with
    |own k1 k2 _=>rw[k2]at q4;exact⟨by rw[Zy,nH,AE];exact q4,λw hw=>by simp at hw;subst hw;exact⟨_,k1⟩⟩
   ·cases h
  ·rename_i e' z' g' y hl;split at h
   ·rename_i hh;obtain⟨rfl,rfl,rfl,hf,hlen⟩:=hh;simp only[Ad,AX]at h;obtain⟨rfl,rfl⟩:=h;obtain⟨q1,q2,N,q4,q5,q6,q7⟩:=eh u _ (CJ hl k);obtain⟨hN,_⟩:=q6 rfl;have hN:N=[]:=hN;subst hN;rw[o7 (y:=y) hx (by simp only[IK,hl,if_true])];cases hs with
    |own k1 k2 _=>rw[k2]at q4;exact⟨by rw[Zy,nH,AE];exact DC.j8 q4 hf hlen,λw hw=>by simp at hw;subst hw;exact⟨_,k1⟩⟩
   ·cases h
  ·cases h
 ·cases h
theorem mF(eh:EH c hp)(k:Bu c.ρ gs):∀(ds:List DT) {ss:List SV} {us:List Nat} {ck:List Cn} {vs:List Value} {xs:EL} {m:Nat},NP hp gs ds ss=some (us,ck)->SR c ss vs->CF hp gs m ss=some xs->(∀q∈ck,q.den c.ρ)->
  DC c.w ds vs (xs.den c.ρ) (Cr c us)/\ ∀u∈us,∃g,c.K u g
 | [],[],us,ck,vs,xs,m,h,hs,hx,hc=>by
  simp[NP]at h;obtain⟨rfl,rfl⟩:=h;cases hs;cases m with
  |zero=>simp[CF]at hx
  |succ m=>simp[CF]at hx;subst hx;exact⟨.nil,by simp⟩
 | [],_::_,us,ck,vs,xs,m,h,hs,hx,hc=>by simp[NP]at h
 |_::_,[],us,ck,vs,xs,m,h,hs,hx,hc=>by simp[NP]at h
 |d::ds,s::ss,us,ck,[],xs,m,h,hs,hx,hc=>by have:=hs.len;simp at this
 |d::ds,s::ss,us,ck,v::vs,xs,m,h,hs,hx,hc=>by
  obtain⟨j,y,ys,rfl,hy,Dp,rfl⟩:=KP hx;obtain⟨r1,r2⟩:=hs.cf;unfold NP at h;split at h
  ·rename_i us1 ck1 us2 ck2 h1 h2;simp only[Ad,AX]at h;obtain⟨rfl,rfl⟩:=h;obtain⟨q1,q2⟩:=zxm eh k h1 r1 hy λq hq=>hc q (by simp[hq]);obtain⟨q3,q4⟩:=mF eh k ds h2 r2 Dp λq hq=>hc q (by simp[hq]);refine⟨by rw[Kh];exact q1.app q3,λu hu=> ?_⟩;rcases Ac.1 hu with hu|hu
   ·exact q2 u hu
   ·exact q4 u hu
  ·cases h
theorem xM(eh:EH c hp)(k:Bu c.ρ gs){t:TypeId}{ds:List DT}{s:SV}{us:List Nat}{ck:List Cn}{v:Value}{x:E}(Hb:ds.length=P.cellsOf t)(hg:Ao P t=true\/P.cellsOf t=1)(h:SU P hp gs t ds s=some (x,us,ck))(hs:SR c [s] [v])(hc:∀q∈ck,q.den c.ρ):
  DC c.w ds v.cells.toList (x.den c.ρ).cells (Cr c us)/\(∀u∈v.cells.toList,u.oneCell'=true)/\(x.den c.ρ).cells.length=P.cellsOf t/\v.cells.size=P.cellsOf t/\
   (if Ao P t then∃cs,x.den c.ρ= .agg cs else(∀cs,x.den c.ρ≠ .agg cs)/\ ∀cs,x.den c.ρ≠ .tup cs)/\ ∀u∈us,∃g,c.K u g:=by
 unfold SU at h;split at h
 ·cases h
 rename_i y hy;split at h
 ·rename_i B7;simp only[Ad,AX]at h;obtain⟨rfl,rfl,rfl⟩:=h;obtain⟨f,q1,q2⟩:=H8 eh k A6 hy hs A6 (AJ _);obtain⟨c1,c2,c3,c4⟩:=Ci hc;have Fu:if Ao P t then∃cs,y.den c.ρ= .agg cs/\cs.length=P.cellsOf t else(∀cs,y.den c.ρ≠ .agg cs)/\ ∀cs,y.den c.ρ≠ .tup cs:=by
   split
   ·rename_i AI;obtain⟨cs,By⟩:=c3 AI;exact⟨cs,By,by rw[By]at c1;exact c1⟩
   ·rename_i AI;have:=c4 (by simpa using AI);exact⟨λcs By=>by rw[By]at this;simp[AV.scalar]at this,λcs By=>by rw[By]at this;simp[AV.scalar]at this⟩
  have hf:f=[]:=by
   cases rE:Ao P t with
   |true=>obtain⟨cs,By⟩:=c3 rE;obtain⟨as_,rfl,_,r⟩:=Kt q1 By;exact Hw r (by rw[By]at c2;exact c2)
   |false=>exact Hw q1 (by simpa using c4 rE)
  subst hf;obtain⟨o1,o2,o3,o4⟩:=nO (P:=P) q1 hg Fu;refine⟨DC.jz o1 B7 (by rw[Hb];simpa using o4.symm),o2,o3,o4,?_,by simp⟩;split at Fu
  ·rename_i AI;rw[if_pos AI];obtain⟨cs,By,_⟩:=Fu;exact⟨cs,By⟩
  ·rename_i AI;rw[if_neg AI];exact Fu
 ·rename_i Gj;split at h
  ·cases h
  rename_i AI;have AI:(H6 s).2=Ao P t:=by simpa using AI
  obtain⟨⟨us',ck'⟩,hr,h⟩:=As.1 h;simp only[AX]at h;obtain⟨rfl,rfl,rfl⟩:=h;have single:Ao P t=false->NP hp gs ds [s]=some (us',ck')->DC c.w ds v.cells.toList (y.den c.ρ).cells (Cr c us')/\(∀u∈v.cells.toList,u.oneCell'=true)/\(y.den c.ρ).cells.length=P.cellsOf t/\v.cells.size=P.cellsOf t/\
   (if Ao P t then∃cs,y.den c.ρ= .agg cs else(∀cs,y.den c.ρ≠ .agg cs)/\ ∀cs,y.den c.ρ≠ .tup cs)/\ ∀u∈us',∃g,c.K u g:=by
   intro AI hr;have Bp:CF hp gs (A6+1) [s]=some (.cons y .nil):=by unfold CF;rw[hy];rfl
   obtain⟨q1,q2⟩:=mF eh k ds hr hs Bp hc;have rB:=q1.len;simp only[EL.den,A3,List.length_nil]at rB
   match ds,rB,q1,Gj,Hb with
   | [d],_,q1,Gj,Hb=>
    cases d with
    |flat=>simp[DT.bw]at Gj
    |row e z l=>
     obtain⟨p,q,r,rfl⟩:=q1.head;obtain⟨xs,Cl⟩:∃xs,y.den c.ρ= .sl xs:=by
      obtain⟨_,_,⟨_,_,hx,_⟩|⟨_,_,_,_,_,_,hx,_⟩⟩:=q1.inv
      ·exact⟨_,hx⟩
      ·exact⟨_,hx⟩
     rw[if_neg (by rw[AI];simp)];refine⟨?_,by simp[Value.cells,Value.oneCell'],by rw[Cl,<-Hb];rfl,by rw[<-Hb];rfl,?_,q2⟩
     ·simp only[EL.den]at q1;rw[Cl]at q1 ⊢;exact q1
     ·rw[Cl];exact⟨λcs hh=>(by cases hh),λcs hh=>(by cases hh)⟩
  cases s with
  |agg cs=>
   simp only[H6]at AI hr;obtain⟨m,l,hm,hl,rfl⟩:=V2 hy;cases hs with
   |agg h9 h1 h8=>rename_i as_;obtain⟨q1,q2⟩:=mF eh k ds hr h1 hl hc;obtain⟨l1,l2⟩:=q1.len;rw[if_pos AI.symm];exact⟨by simpa[Value.cells,AV.cells,E.den]using q1,by simpa[Value.cells]using h9,by simp only[E.den,AV.cells];omega,by simp[Value.cells];omega,⟨_,rfl⟩,q2⟩
  |_=>exact single AI.symm hr
theorem wR(eh:EH c hp)(k:Bu c.ρ gs){t:TypeId}{ds:List DT}(Hb:ds.length=P.cellsOf t)(hg:Ao P t=true\/P.cellsOf t=1):∀(ss:List SV) (vs:List Value) {xs:List E} {us:List Nat} {ck:List Cn},SR c ss vs->Wb P hp gs t ds ss=some (xs,us,ck)->(∀q∈ck,q.den c.ρ)->
  DC c.w (BJ vs.length ds) (vs.flatMap λv=>v.cells.toList) (Aq (xs.map (E.den c.ρ))) (Cr c us)/\(∀v∈vs,v.cells.size=P.cellsOf t/\ ∀u∈v.cells.toList,u.oneCell'=true)/\(∀x∈xs,(x.den c.ρ).cells.length=P.cellsOf t)/\xs.length=vs.length/\ ∀u∈us,∃g,c.K u g
 | [],vs,xs,us,ck,hr,ht,hc=>by simp[Wb]at ht;obtain⟨rfl,rfl,rfl⟩:=ht;cases hr;exact⟨by simpa[Aq,BJ,Cr]using DC.nil,by simp,by simp,rfl,by simp⟩
 |s::ss,[],xs,us,ck,hr,ht,hc=>by have:=hr.len;simp at this
 |s::ss,v::vs,xs,us,ck,hr,ht,hc=>by
  obtain⟨r1,r2⟩:=hr.cf;unfold Wb at ht;split at ht
  ·rename_i x us1 ck1 xs2 us2 ck2 h1 h2;simp only[Ad,AX]at ht;obtain⟨rfl,rfl,rfl⟩:=ht;obtain⟨q1,q2,q3,q4,q5,q6⟩:=xM eh k Hb hg h1 r1 (λq hq=>hc q (by simp[hq]));obtain⟨p1,p2,p3,p4,p5⟩:=wR eh k Hb hg ss vs r2 h2 (λq hq=>hc q (by simp[hq]));refine⟨?_,?_,?_,by simp[p4],?_⟩
   ·have:=q1.app p1;rw[A3,Pw,Kh];simpa[Aq]using this
   ·intro u hu;rcases Ae.1 hu with rfl|hu
    ·exact⟨q4,q2⟩
    ·exact p2 u hu
   ·intro u hu;rcases Ae.1 hu with rfl|hu
    ·exact q3
    ·exact p3 u hu
   ·intro u hu;rcases Ac.1 hu with hu|hu
    ·exact q6 u hu
    ·exact p5 u hu
  ·cases ht
theorem xR(eh:EH c hp)(k:Bu c.ρ gs){e z:Nat}{l:List DT}{s:SV}{us:List Nat}{v:Value}{y:E}{m:Nat}(h:WE hp gs e z l s=some us)(hs:SR c [s] [v])(hy:BB hp gs m s=some y):
  ∃ys q r news N,y.den c.ρ= .sl ys/\v= .slice q ys.length r/\Src c.w z q ys.length news/\DC c.w (BJ ys.length l) news (Aq ys) N/\N.Sublist (Cr c us)/\(∀y∈ys,y.cells.length=z)/\(∀u∈news,u.oneCell'=true)/\ ∀u∈us,∃g,c.K u g:=by
 have empt:∀q,v= .slice q 0 0->y= .lst .nil->us=[]-> ∃ys q r news N,y.den c.ρ= .sl ys/\v= .slice q ys.length r/\Src c.w z q ys.length news/\DC c.w (BJ ys.length l) news (Aq ys) N/\N.Sublist (Cr c us)/\(∀y∈ys,y.cells.length=z)/\(∀u∈news,u.oneCell'=true)/\ ∀u∈us,∃g,c.K u g:=by
  rintro q rfl rfl rfl;refine⟨[],q,0,[],[],rfl,rfl,?_,by simpa[BJ,Aq]using DC.nil,by simp,by simp,by simp,by simp⟩;cases q with
  |none=>exact .inl ⟨rfl,rfl,rfl⟩
  |some p=>exact .inr ⟨p,rfl,by simp,by simp,by simp⟩
 unfold WE at h;split at h
 ·simp only[Ad]at h;cases hs with
  |cd _=>exact empt _ rfl (LW hy) h.symm
 ·simp only[Ad]at h;cases hs with
  |emp _=>exact empt _ rfl (zyn hy) h.symm
 ·rename_i u g;split at h
  ·rename_i e' z' l' g' ep x hl;split at h
   ·rename_i hh;obtain⟨rfl,rfl,rfl,hb⟩:=hh;simp only[Ad]at h;subst h;have hb:=Az.er hb;subst hb;obtain⟨q1,q2,q3,q4,q5⟩:=eh u _ (CJ hl k);have Hn:=o7 (y:=x) hy (by simp only[IK,hl,if_true]);subst Hn;cases hs with
    |own k1 k2 k3=>
     rename_i p0 n0 r0;rw[k2]at q4;have hK:∀w∈ [u],∃g,c.K w g:=λw hw=>by simp at hw;subst hw;exact⟨_,k1⟩
     obtain⟨d1,d2,⟨a9,d3,d4,d5⟩|⟨g9,cap,C,ys,N1,d3,d4,d5,d6,d7,d8,d9,d10,d11,d12⟩⟩:=q4.inv
     ·cases d3;refine⟨[],_,0,[],[],d4,rfl,?_,by simpa[BJ,Aq]using DC.nil,by simp,by simp,by simp,hK⟩;cases p0 with
      |none=>exact .inl ⟨rfl,rfl,rfl⟩
      |some p=>exact .inr ⟨p,rfl,by simp,by simp,by simp⟩
     ·cases d3;rw[Az.ax]at d12;have DF:C.toList.length=r0*z:=by simpa using d9
      refine⟨ys,_,r0,_,N1,d4,rfl, .inr ⟨_,rfl,?_,λj w hw=> ?_,d11⟩,d12,?_,d10,d11,hK⟩
      ·rw[Aw,DF];exact Nat.min_eq_left (Br _ d7)
      ·rw[Addr.add_lit,Nat.zero_add,EA d6];rw[List.getElem?_take]at hw;split at hw
       ·simpa using hw
       ·cases hw
      ·rw[Zy,nH,AE,d5];exact List.sublist_cons_self _ _
   ·cases h
  ·cases h
 ·cases h
end
def F4(T:List Nat):List AW:=T.map λu=>⟨u,none,[], .dead⟩
theorem zAS(T:List Nat):(F4 T).flatMap AW.top=[]:=by induction T<;>simp_all[F4]
theorem zBS(T:List Nat):(F4 T).map AW.tag=T:=by induction T<;>simp_all[F4]
theorem zyQ(T:List Nat):((F4 T).map λr=>(r.tag,CS [] r.bk))=Et T:=by simp[F4,Et,CS]
theorem VQ{T:List Nat}{r:AW}(h:r∈F4 T):r.tag∈T/\r.new=none/\r.top=[]/\r.bk= .dead:=by obtain⟨u,hu,rfl⟩:=List.mem_map.1 h;exact⟨hu,rfl,rfl,rfl⟩
section
variable {P:Program} {c:Cx} {n nx:Nat} {sl sl0:Nat->SV} {hp hp0:Nat->Option Af} {a:Act} {o:Oper} {gs:Gd} {e:Bb} {sg:B1} {nv:Nat}
theorem Rel.kd(h:Rel c n sl hp a){T:List Nat}(hT:T.Nodup)(GL:∀u∈T,c.U u){r0:AW}(I8:r0.tag∉T)(GP:r0.new.isSome=true-> ¬c.U r0.tag)(DV:r0.new=none->c.U r0.tag){w':World}{hs:List Nat}(Hg:∀b∈hs,b∈(c.G r0.tag).top\/b∈Cr c T)(hm:Mod hs c.w w')
  (B8:r0.top.Nodup) (Ce:∀b∈r0.top,(b∈hs\/c.w.heap.size<=b)/\b<w'.heap.size) (BF:∀q f,r0.bk≠ .gd q f)
  (he:DY c (c.dh w' (r0::F4 T))->Fh c (c.dh w' (r0::F4 T)) w' (r0::F4 T)->Dv (c.dh w' (r0::F4 T)) r0.tag r0.bk):
  Rel (c.dh w' (r0::F4 T)) n sl (Bk hp ((r0.tag,r0.bk)::Et T)) a/\DY c (c.dh w' (r0::F4 T))/\Fh c (c.dh w' (r0::F4 T)) w' (r0::F4 T)/\ ∀t,(c.dh w' (r0::F4 T)).U t->c.U t\/t=r0.tag:=by
 have hn:((r0::F4 T).map AW.tag).Nodup:=by rw[List.map_cons,zBS];exact List.nodup_cons.2 ⟨I8,hT⟩
 have Ba:∀r∈r0::F4 T,r.new.isSome=true-> ¬c.U r.tag:=λr hr hs=>by
  rcases Ae.1 hr with rfl|hr
  ·exact GP hs
  ·rw[(VQ hr).2.1]at hs;cases hs
 have aft:=Cx.df (w':=w') h.bq hn Ba;obtain⟨q1,q2⟩:=h.changes (gs:=[]) (E1 _) hm hn Ba (λb hb=>by
   rcases Hg b hb with hb|hb
   ·exact⟨r0,by simp,hb⟩
   ·obtain⟨t,ht,CL⟩:=Sf.1 hb;exact⟨⟨t,none,[], .dead⟩,List.mem_cons_of_mem _ (List.mem_map.2 ⟨t,ht,rfl⟩),CL⟩)
  (by rw[List.flatMap_cons,zAS,AE];exact B8)
  (λr hr b hb=>by
   rcases Ae.1 hr with rfl|hr
   ·exact Ce b hb
   ·rw[(VQ hr).2.2.1]at hb;cases hb)
  (λr hr=>by
   rcases Ae.1 hr with rfl|hr
   ·exact BF
   ·rw[(VQ hr).2.2.2];intros;simp)
  (λhk r hr=>by
   rcases Ae.1 hr with rfl|hr
   ·exact he hk aft
   ·have kg:=aft.G r (List.mem_cons_of_mem _ hr);obtain⟨_,_,e1,e2⟩:=VQ hr;rw[e2];exact⟨by rw[kg,e1],by rw[kg]⟩)
 refine⟨?_,q2,aft,λt ht=> ?_⟩
 ·rw[List.map_cons,zyQ]at q1;have:CS [] r0.bk=r0.bk:=rfl;rw[this]at q1;exact q1
 ·rcases ht with ht|⟨r,hr,rfl⟩
  ·exact .inl ht
  ·rcases Ae.1 hr with rfl|hr
   ·exact .inr rfl
   ·exact .inl (GL _ (VQ hr).1)
theorem AB.eo(h:BA P c n nx sl hp a sl0 hp0 o []){T:List Nat}(hT:T.Nodup)(GL:∀u∈T,∃g,c.K u g){v':Value}{w':World}{ck:List Cn}{e z:Nat}{l:List DT}{x:E}{top:List Nat}(hr:(execOp a.eval o).run P c.w= .ok (.value v') w')(hm:Mod (Cr c T) c.w w')
  (B8:top.Nodup) (Ce:∀b∈top,(b∈Cr c T\/c.w.heap.size<=b)/\b<w'.heap.size) (hd:DC w' [.row e z (Az.of l)] [v'] [x.den c.ρ] top):
  AB P o c n nx sl hp [] a {cc:=ck,val:= .own nx 0,bk:=(nx, .deep e z l 0 0 x)::Et T}:=by
 intro next Q hk
 unfold Oper.wp;rw[hr,Oper.upon_value];have hU:=Nr h;have Lc:∀u∈T,c.U u:=λu hu=>by obtain⟨g,hg⟩:=GL u hu;exact h.rel.bq _ _ hg
 obtain⟨q1,q2,q3,q4⟩:=h.rel.kd (r0:=⟨nx,some v',top, .deep e z l 0 0 x⟩) hT Lc (λhh=>hU (Lc _ hh)) (λ_=>hU) (λhh=>by cases hh) (λb hb=> .inr hb) hm B8 Ce (by intros;simp) (λ_ aft=>by obtain⟨k1,k2,k3⟩:=aft.new _ (List.mem_cons_self ..) v' rfl;have kg:=aft.G _ (List.mem_cons_self ..);have ke:=aft.ie _ (List.mem_cons_self ..) rfl;simp only at k1 k2 k3 kg ke;exact⟨k1,k2,ke,by rw[k3,kg,aft.w,aft.ρ];exact hd,by rw[kg]⟩)
 obtain⟨k1,k2,k3⟩:=q3.new _ (List.mem_cons_self ..) v' rfl;simp only at k1 k3;obtain⟨p,m,r,rfl⟩:=hd.head;refine hk _ (c.dh w' _) ⟨rfl,rfl,rfl,rfl,λt ht=> ?_⟩ (q1.put (SR.own k1 k3 .nil) o.dst);rcases q4 t ht with ht|rfl
 ·exact .inl ht
 ·exact .inr ⟨AJ _,by simp[BV]⟩
theorem AB.ju(h:BA P c n nx sl hp a sl0 hp0 o []){T:List Nat}(hT:T.Nodup)(GL:∀u∈T,∃g,c.K u g){b g ep:Nat}(hb:b∉T)(hK:c.K b g)(Fo:∀g',c.K b g'->g'<=g)(hE:c.E b=ep){w':World}{ck:List Cn}{e z:Nat}{l:List DT}{x:E}{top:List Nat}(hr:(execOp a.eval o).run P c.w= .ok .skip w'){hs:List Nat}(Hg:∀q∈hs,q∈(c.G b).top\/q∈Cr c T)(hm:Mod hs c.w w')
  (B8:top.Nodup) (Ce:∀q∈top,(q∈hs\/c.w.heap.size<=q)/\q<w'.heap.size) (hd:DC w' [.row e z (Az.of l)] [c.H b g] [x.den c.ρ] top):
  AB P o c n nx sl hp [] a {cc:=ck,bk:=(b, .deep e z l g (ep+1) x)::Et T}:=by
 intro next Q hk
 unfold Oper.wp;rw[hr,Oper.upon_skip];have Lc:∀u∈T,c.U u:=λu hu=>by obtain⟨g,hg⟩:=GL u hu;exact h.rel.bq _ _ hg
 have cD:=h.rel.bq _ _ hK;obtain⟨q1,q2,q3,q4⟩:=h.rel.kd (r0:=⟨b,none,top, .deep e z l g (ep+1) x⟩) hT Lc hb (λhh=>by cases hh) (λ_=>cD) Hg hm B8 Ce (by intros;simp) (λ_ aft=>by have kg:=aft.G _ (List.mem_cons_self ..);have ke:=aft.fy _ (List.mem_cons_self ..) rfl;obtain⟨k1,k2⟩:=aft.K b g hK;simp only at kg ke;exact⟨k1,λg' Cu=>Fo g' (aft.old b cD g' Cu),by rw[ke,hE],by rw[k2,kg,aft.w,aft.ρ];exact hd,by rw[kg]⟩)
 refine hk _ (c.dh w' _) ⟨rfl,rfl,rfl,rfl,λt ht=> ?_⟩ (q1.put ((SR.undef .nil).mkGd []) o.dst);rcases q4 t ht with ht|rfl
 ·exact .inl ht
 ·exact .inl cD
theorem nX{w w':World}{row:Option Nat}{S:List Nat}(h:w.grownBy w' row)(hr:∀g,row=some g->g∈S\/w.heap.size<=g):Mod S w w':=by
 refine⟨h.os,h.tape,h.output,h.size,λb hb hn=>h.block b hb λhh=> ?_⟩;rcases hr b hh.symm with h1|h1
 ·exact hn h1
 ·omega
theorem lR(h:BA P c n nx sl hp a sl0 hp0 o []){x y:Operand}{tx:TypeId}{cl:Call}(ho:o.op= .call cl)(Ax:cl.callee= .builtin .append)(CW:cl.args.toList=[x,y])(DR:cl.argTypes.toList=[tx,tx])
  {el:TypeId} (Bp:P.underlying tx=some (.slice el)) (hz:Hx P el=true) {l:List DT} (hl:l.length=P.cellsOf el) {T us:List Nat} (hT:(T++us).Nodup) (GL:∀u∈T,∃g,c.K u g) {s2:SV} {ye:E} (A8:BL sl0 [] y=some s2) (hy:BB hp0 [] A6 s2=some ye) (Cv:WE hp0 [] el (P.cellsOf el) l s2=some us)
  {c0:E} {v:Value} (hv:a.eval x=v) {N:List Nat} (AY:DC c.w [.row el (P.cellsOf el) (Az.of l)] [v] [c0.den c.ρ] N) (hN:N=Cr c T) {ck:List Cn} (BQ:Cn.den c.ρ (.room c0 ye (P.bytesOf el))):
  AB P o c n nx sl hp [] a {cc:=ck,val:= .own nx 0,bk:=(nx, .deep el (P.cellsOf el) l 0 0 (.app c0 ye))::Et (T++us)}:=by
 have Ah:cl.args= #[x,y]:=by apply Array.ext';simp[CW]
 have FR:cl.argTypes= #[tx,tx]:=by apply Array.ext';simp[DR]
 have CM:y∈o.op.operands:=by simp[ho,Op.operands,Call.operands,Ax,Ah]
 obtain⟨i,z,hi,FO,CY,Bz,Co,E5⟩:=KO hz;obtain⟨ys,q,r,news,N2,Dp,Df,De,Oj,BZ,Ja,OC,eX⟩:=xR h.eh h.gs Cv (h.cu A8 CM) hy;have Da:=Zo h.rel.gw hT;rw[Kh]at Da;have EO:∀b∈Cr c (T++us),b<c.w.heap.size:=λb hb=>by obtain⟨t,_,CL⟩:=Sf.1 hb;exact h.rel.gw.inb t b (by simp[GI.own,CL])
 obtain⟨mm,kk,GP,DV,MM,Xa⟩:=BQ;obtain⟨d1,d2,A1⟩:=AY.inv;rw[Az.ax]at d2 A1;have hU:∀u∈T++us,∃g,c.K u g:=λu hu=>by
  rcases Ac.1 hu with hu|hu
  ·exact GL u hu
  ·exact eX u hu
 obtain⟨xs,old,N1,Cl,hold,Fx,cO,GR,CN,KC,N7⟩:∃(xs:List AV) (old:List Value) (N1:List Nat),c0.den c.ρ= .sl xs/\old.length=xs.length*i.size/\((xs.length=0/\ ∃q,v= .slice q 0 0)\/ ∃g cap C,v= .slice (some ⟨g,0,none⟩) xs.length cap/\xs.length<=cap/\cap<=maxLen/\c.w.heap[g]?=some (.cells C el (0,0))/\C.size=cap*i.size/\old=C.toList.take (xs.length*i.size)/\(g∈Cr c T/\g∉N1))/\
   DC c.w (BJ xs.length l) old (Aq xs) N1/\(∀y∈xs,y.cells.length=P.cellsOf el)/\(∀u∈old,u.oneCell'=true)/\(∀b∈N1,b∈Cr c T)/\N1.Nodup:=by
  rcases A1 with⟨p,rfl,FC,rfl⟩|⟨g9,cap,C,xs,N1,rfl,FC,rfl,h6,h7,h8,h9,Fj,EE,FJ⟩
  ·exact⟨[],[],[],FC,by simp, .inl ⟨rfl,p,rfl⟩,by simpa[BJ,Aq]using DC.nil,by simp,by simp,by simp,by simp⟩
  ·have B8:(g9::N1).Nodup:=by rw[hN];exact(List.nodup_append.1 Da).1
   rw[List.nodup_cons]at B8;refine⟨xs,_,N1,FC,?_, .inr ⟨g9,cap,C,rfl,h7,h8,h6,by rw[<-Co];exact h9,rfl,by rw[<-hN];simp,B8.1⟩,by rw[<-Co];exact FJ,Fj,by rw[<-Co];exact EE,λb hb=>by rw[<-hN];simp[hb],B8.2⟩;have e9:C.toList.length=cap*i.size:=by rw[<-Co,<-h9];simp
   rw[Aw,e9];exact Nat.min_eq_left (Br _ h7)
 rw[Cl]at GP;rw[Dp]at DV;simp only[AV.len,AV.int.injEq,true_and]at GP DV;have Dy:(xs.length+ys.length)*i.bytes<=140737488355328:=by
  rw[<-GP,<-DV,E5]at MM;have h9:(((xs.length+ys.length)*i.bytes:Nat):Int)<=140737488355328:=by rw[Int.natCast_mul,Int.natCast_add];exact MM
  omega
 have F9:xs.length+ys.length<=140737488355328:=by rw[<-GP,<-DV]at Xa;omega
 rw[Co]at De;obtain⟨v',w',AQ,AO⟩:=SH (P:=P) c.w tx o.type el i z Bp hi FO CY Bz (λg9=>g9∈Cr c T/\g9∉N1) v xs.length old hold Fx q ys.length r news De (by simp only[maxLen];omega) Dy;have Dd:(execOp a.eval o).run P c.w= .ok (.value v') w':=by simp[execOp,ho,resolve,Ax,Ah,FR,invoke,builtin,hv,Df,AQ]
 have Tm:∀b∈N2,b∈Cr c us:=λb hb=>BZ.subset hb;have N8:N2.Nodup:=BZ.nodup (List.nodup_append.1 Da).2.1;have Lf:(E.app c0 ye).den c.ρ= .sl (xs++ys):=by simp only[E.den,Cl,Dp,AV.app]
 rcases AO with⟨rfl,rfl,Ck⟩|⟨g9,cap,C,rfl,h1,h2,h3,h4,h5,h6,h7⟩
 ·have HY:ys=[]:=List.eq_nil_of_length_eq_zero Ck;subst HY;refine AB.eo h hT hU Dd (Mod.refl _ _) (top:=N) (by rw[hN];exact(List.nodup_append.1 Da).1) (λb hb=>⟨.inl (by rw[Kh,<-hN];simp[hb]),EO b (by rw[Kh,<-hN];simp[hb])⟩) ?_;rw[Lf,AE,<-Cl];exact AY
 ·have Iv:(g9∈Cr c T\/c.w.heap.size<=g9)/\g9∉N1/\g9∉N2:=by
   rcases h7 with⟨rfl,_⟩|⟨hg,Cu⟩
   ·refine⟨.inr (AJ _),λhh=> ?_,λhh=> ?_⟩
    ·have:=EO _ (by rw[Kh];exact Ac.2 (.inl (KC _ hh)));omega
    ·have:=EO _ (by rw[Kh];exact Ac.2 (.inr (Tm _ hh)));omega
   ·exact⟨.inl hg,Cu,λhh=>(List.nodup_append.1 Da).2.2 _ hg _ (Tm _ hh) rfl⟩
  have Bc:∀b∈N1++N2,w'.heap[b]?=c.w.heap[b]?:=λb hb=>by
   have AH:b<c.w.heap.size:=EO b (by
    rw[Kh];rcases Ac.1 hb with hb|hb
    ·exact Ac.2 (.inl (KC b hb))
    ·exact Ac.2 (.inr (Tm b hb)))
   refine h6.block b AH λhh=> ?_;cases hh;rcases Ac.1 hb with hb|hb
   ·exact Iv.2.1 hb
   ·exact Iv.2.2 hb
  refine AB.eo h hT hU Dd (nX h6 λg hg=> ?_) (top:=g9::(N1++N2)) ?_ (λb hb=> ?_) ?_
  ·cases hg;rcases Iv.1 with hh|hh
   ·exact .inl (by rw[Kh];exact Ac.2 (.inl hh))
   ·exact .inr hh
  ·refine List.nodup_cons.2 ⟨λhh=> ?_,List.nodup_append.2 ⟨N7,N8,λp hp q hq=> ?_⟩⟩
   ·rcases Ac.1 hh with hh|hh
    ·exact Iv.2.1 hh
    ·exact Iv.2.2 hh
   ·exact(List.nodup_append.1 Da).2.2 p (KC p hp) q (Tm q hq)
  ·rcases Ae.1 hb with rfl|hb
   ·refine⟨?_,Dq h3⟩;rcases Iv.1 with hh|hh
    ·exact .inl (by rw[Kh];exact Ac.2 (.inl hh))
    ·exact .inr hh
   ·have qX:b∈Cr c (T++us):=by
     rw[Kh];rcases Ac.1 hb with hb|hb
     ·exact Ac.2 (.inl (KC b hb))
     ·exact Ac.2 (.inr (Tm b hb))
    exact⟨.inl qX,Nat.lt_of_lt_of_le (EO b qX) h6.size⟩
  ·rw[Lf];have hlen:(xs++ys).length=xs.length+ys.length:=AP;rw[Co]at d1 d2 GR Ja ⊢;have:=DC.row (w:=w') (e:=el) (z:=i.size) (l:=Az.of l) (g:=g9) (cap:=cap) (C:=C) (ys:=xs++ys) (N1:=N1++N2) (ts:=[]) (vs:=[]) (xs:=[]) (N:=[]) d1 (by rw[Az.ax];exact d2) h3 (by rw[hlen];exact h1) h2 h4 (λw hw=> ?_) (by
     rw[hlen,h5];intro u hu;rcases Ac.1 hu with hu|hu
     ·exact CN u hu
     ·exact OC u hu) (by
     rw[hlen,h5,VD,Nu,Az.ax];exact(cO.app Oj).frame Bc) .nil
   ·rw[hlen]at this;simpa using this
   ·rcases Ac.1 hw with hw|hw
    ·exact GR w hw
    ·exact Ja w hw
end
section
variable {P:Program} {c:Cx} {n nx:Nat} {sl sl0:Nat->SV} {hp hp0:Nat->Option Af} {a:Act} {o:Oper} {gs:Gd} {e:Bb} {sg:B1} {nv:Nat}
theorem zzn{l:List Nat}(h:Mh l=true):l.Nodup:=Sq h
theorem zr5(h:BA P c n nx sl hp a sl0 hp0 o gs){x y:Operand}{tx ty:TypeId}{cl:Call}(ho:o.op= .call cl)(Ax:cl.callee= .builtin .append)(CW:cl.args.toList=[x,y])(DR:cl.argTypes.toList=[tx,ty])
  {s1 s2:SV} (BM:BL sl0 gs x=some s1) (A8:BL sl0 gs y=some s2) (he:ZG P hp0 gs nx tx ty s1 s2=some e) (hc:∀q∈e.cc,Cn.den c.ρ q):AB P o c n nx sl hp gs a e:=by
 have Ah:cl.args= #[x,y]:=by apply Array.ext';simp[CW]
 have Dz:x∈o.op.operands:=by simp[ho,Op.operands,Call.operands,Ax,Ah]
 have CM:y∈o.op.operands:=by simp[ho,Op.operands,Call.operands,Ax,Ah]
 unfold ZG at he;split at he
 ·cases he
 rename_i JX;have JX:tx=ty:=by simpa using JX
 subst JX;split at he
 ·rename_i el e' z dl Bp DJ;have JC:=Jg Bp;split at he
  ·cases he
  rename_i AA;simp only[not_or,Bg,Bool.not_eq_false,Bool.not_eq_true,ne_eq,Decidable.not_not]at AA;obtain⟨hz,Gj,rfl,rfl⟩:=AA;obtain⟨_,_,l,JN,D2⟩:=Wa (ZJ Bp) DJ;simp only[DT.row.injEq,true_and]at JN;subst JN;rw[Az.ax]at he;have r1:=h.cu BM Dz;split at he
  ·rename_i ye us hy Cv;have hU:∀u∈us,∃g,c.K u g:=(xR h.eh h.gs Cv (h.cu A8 CM) hy).choose_spec.choose_spec.choose_spec.choose_spec.choose_spec.2.2.2.2.2.2.2;have OO:us.Nodup:=by
    unfold WE at Cv;split at Cv
    ·simp only[Ad]at Cv;subst Cv;simp
    ·simp only[Ad]at Cv;subst Cv;simp
    ·split at Cv
     ·split at Cv
      ·simp only[Ad]at Cv;subst Cv;simp
      ·cases Cv
     ·cases Cv
    ·cases Cv
   have Xh:0<P.cellsOf e':=by obtain⟨i,_,_,_,_,h1,h2,_⟩:=KO hz;omega
   split at he
   ·rename_i t g;split at he
    ·rename_i e2 z2 l2 g2 ep c0 hl;split at he
     ·rename_i hh;obtain⟨rfl,rfl,hb,rfl,Ek⟩:=hh;have hb:=Az.er hb;subst hb;simp only[Ad]at he;subst he;obtain⟨q1,q2,q3,q4,q5⟩:=h.eh t _ (CJ hl h.gs);generalize hv:a.eval x=v at r1;cases r1 with
      |own k1 k2 _=>rw[k2]at q4;simp only[Bg,List.contains_eq_mem,decide_eq_false_iff_not]at Ek;exact lR h ho Ax CW DR JC hz D2 (T:=[t]) (by simpa using List.nodup_cons.2 ⟨Ek,OO⟩) (λu hu=>by simp at hu;subst hu;exact⟨_,k1⟩) A8 hy Cv hv q4 (by simp[Cr]) (hc _ (by simp))
     ·cases he
    ·cases he
   ·simp only[Ad]at he;subst he;generalize hv:a.eval x=v at r1;cases r1 with
    |emp _=>exact lR h ho Ax CW DR JC hz D2 (T:=[]) (by simpa using OO) (by simp) A8 hy Cv hv (c0:= .lst .nil) (.void Xh (by rw[Az.ax];exact D2) .nil) rfl (hc _ (by simp))
   ·simp only[Ad]at he;subst he;generalize hv:a.eval x=v at r1;cases r1 with
    |cd _=>exact lR h ho Ax CW DR JC hz D2 (T:=[]) (by simpa using OO) (by simp) A8 hy Cv hv (c0:= .lst .nil) (.void Xh (by rw[Az.ax];exact D2) .nil) rfl (hc _ (by simp))
   ·cases he
  ·cases he
 ·cases he
theorem AB.fc(h:BA P c n nx sl hp a sl0 hp0 o []){T:List Nat}(hT:T.Nodup)(GL:∀u∈T,∃g,c.K u g){ck:List Cn}{el z:Nat}{l:List DT}(hz:0<z)(hl:l.length=z){x:E}{xs:List AV}{C:Array Value}{cap:Nat}(hx:x.den c.ρ= .sl xs)(Ax:∀y∈xs,y.cells.length=z)(hle:xs.length<=cap)(Fk:cap<=maxLen)(hC:C.size=cap*z)
  (h1:∀u∈C.toList.take (xs.length*z),u.oneCell'=true) (hD:DC c.w (BJ xs.length l) (C.toList.take (xs.length*z)) (Aq xs) (Cr c T))
  (hr:(execOp a.eval o).run P c.w= .ok (.value (.slice (some ⟨c.w.heap.size,0,none⟩) xs.length cap)) (c.w.alloc (.cells C el))):
  AB P o c n nx sl hp [] a {cc:=ck,val:= .own nx 0,bk:=(nx, .deep el z l 0 0 x)::Et T}:=by
 have EO:∀b∈Cr c T,b<c.w.heap.size:=λb hb=>by obtain⟨t,_,CL⟩:=Sf.1 hb;exact h.rel.gw.inb t b (by simp[GI.own,CL])
 have Ba:(c.w.alloc (.cells C el)).heap[c.w.heap.size]?=some (.cells C el (0,0)):=heap_alloc_new c.w _;have Oq:c.w.grownBy (c.w.alloc (.cells C el)) (some c.w.heap.size):=⟨rfl,rfl,rfl,by simp,λj hj _=>Below.heap_alloc c.w _ _ hj⟩
 refine AB.eo h hT GL hr (nX Oq λg hg=> .inr (by cases hg;exact AJ _)) (top:=c.w.heap.size::Cr c T) ?_ (λb hb=> ?_) ?_
 ·exact List.nodup_cons.2 ⟨λhh=>by have:=EO _ hh;omega,Zo h.rel.gw hT⟩
 ·rcases Ae.1 hb with rfl|hb
  ·exact⟨.inr (AJ _),by simp⟩
  ·exact⟨.inl hb,Nat.lt_of_lt_of_le (EO b hb) (by simp)⟩
 ·rw[hx];have:=DC.row (w:=c.w.alloc (.cells C el)) (e:=el) (z:=z) (l:=Az.of l) (g:=c.w.heap.size) (cap:=cap) (C:=C) (ys:=xs) (N1:=Cr c T) (ts:=[]) (vs:=[]) (xs:=[]) (N:=[]) hz (by rw[Az.ax];exact hl) Ba hle Fk hC Ax h1 (by
   rw[Az.ax];exact hD.frame λb hb=>Below.heap_alloc c.w _ _ (EO b hb)) .nil
  simpa using this
theorem zst(h:BA P c n nx sl hp a sl0 hp0 o gs){t:TypeId}{m:Nat}{parts:Array (Nat × Operand)}(ho:o.op= .buildSlice t m parts){ps:List (Nat × SV)}(ML:parts.toList.mapM (λ(p:Nat × Operand)=>(BL sl0 gs p.2).map λs=>(p.1,s))=some ps)(he:ZR P hp0 gs nx t m ps=some e)(hc:∀q∈e.cc,Cn.den c.ρ q):AB P o c n nx sl hp gs a e:=by
 obtain⟨e1,e2⟩:=ZC (c:=c) (a:=a) (parts.toList.map (·.2)) (λx s hx hm=>h.cu hx (by simpa[ho,Op.operands]using hm)) (λx hx=>List.mem_map.2 ⟨x,hx,rfl⟩) ML;unfold ZR at he;split at he
 ·rename_i el e' zz dl JD DJ;have Bp:=Jg JD;split at he
  ·cases he
  rename_i AA;simp only[not_or,Bg,Bool.not_eq_false',ne_eq,Bool.not_eq_false,Bool.not_eq_true,Nat.not_lt,Decidable.not_not]at AA;obtain⟨hz,Gj,rfl,rfl,Bn,AI,hle,EG⟩:=AA;obtain⟨_,_,l,JN,D2⟩:=Wa (ZJ JD) DJ;simp only[DT.row.injEq,true_and]at JN;subst JN;rw[Az.ax]at he;have AI:Ao P e'=true\/P.cellsOf e'=1:=by simpa using AI
  obtain⟨i,z,hi,FO,CY,Bz,Co,E5⟩:=KO hz;split at he
  ·rename_i xs us ck MT;split at he
   ·rename_i B8;simp only[Ad]at he;subst he;obtain⟨p1,p5,p6,p7,p8⟩:=wR h.eh h.gs D2 AI (ps.map (·.2)) (parts.toList.map λp=>a.eval p.2) e2 MT hc;have hlen:(parts.toList.map λp=>a.eval p.2).length=m:=by
     have:ps.length=m:=by have:=congrArg List.length EG;simpa using this
     have h9:=congrArg List.length e1;simp at h9 ⊢;omega
    have Hk:(parts.map λ(x:Nat × Operand)=>(x.1,a.eval x.2)).toList=((parts.toList.map λp=>a.eval p.2).zipIdx 0).map λp=>(p.2,p.1):=by
     have Ov:parts.toList.map (·.1)=List.range m:=by rw[<-e1,EG]
     apply List.ext_getElem?;intro j;have hj:(parts.toList.map (·.1))[j]?=(List.range m)[j]?:=by rw[Ov]
     simp only[Array.toList_map,List.getElem?_map,List.getElem?_zipIdx]at hj ⊢;cases hp:parts.toList[j]? with
     |none=>simp
     |some p=>
      rw[hp]at hj;simp only[Option.map_some,Ad]at hj ⊢;have dH:j<m:=by
       rcases Nat.lt_or_ge j m with hh|hh
       ·exact hh
       ·rw[List.getElem?_eq_none (by simpa using hh)]at hj;cases hj
      rw[List.getElem?_range dH]at hj;simp at hj;simp[hj]
    obtain⟨C',f1,f2⟩:=nI (sz:=i.size) (λj=>some (j*i.size,i.size)) (λj=>rfl) (parts.toList.map λp=>a.eval p.2) 0 ((Array.range (m*i.size)).map (λj=>(if m*i.size=0 then #[]else z.cells)[j % (if m*i.size=0 then #[]else z.cells).size]!)) [] _ (by simp;rfl) (by simp) (by simp[hlen]) (λv hv=>by rw[<-Co];exact(p5 v hv).1);have DF:C'.toList.length=m*P.cellsOf e':=by
     rw[f2,Co];simp only[List.nil_append];have:∀(L:List Value),(∀v∈L,v.cells.size=i.size)->(L.flatMap λv=>v.cells.toList).length=L.length*i.size:=by
      intro L
      induction L with
      |nil=>intro _;simp
      |cons v L ih=>intro hL;simp only[List.flatMap_cons,AP,A3,BC];rw[ih (λu hu=>hL u (by simp[hu])),hL v (by simp),Nat.add_mul];omega
     rw[this _ (λv hv=>by rw[<-Co];exact(p5 v hv).1),hlen]
    have IE:(xs.map (E.den c.ρ)).length=m:=by rw[List.length_map,p7,hlen]
    have B0:C'.toList.take ((xs.map (E.den c.ρ)).length*P.cellsOf e')=(parts.toList.map λp=>a.eval p.2).flatMap λv=>v.cells.toList:=by rw[IE,<-DF,List.take_length,f2];simp
    refine AB.fc h (zzn B8) p8 (by omega) D2 (xs:=xs.map (E.den c.ρ)) (C:=C') (cap:=m) (by simp[E.den,EL.dd]) (λy hy=> ?_) (by omega) (by simp only[maxLen];have:m*1<=m*P.cellsOf e':=Nat.mul_le_mul_left _ (by omega);omega) (by rw[<-BC,DF]) ?_ ?_ ?_
    ·obtain⟨q,hq,rfl⟩:=List.mem_map.1 hy;exact p6 q hq
    ·rw[B0];intro u hu;obtain⟨v,hv,hu⟩:=List.mem_flatMap.1 hu;exact(p5 v hv).2 u hu
    ·rw[B0,IE,<-hlen];exact p1
    ·rw[IE];have AQ:=wD (P:=P) Bp Bn hi FO Co m (by rw[<-Co];omega) (parts.map λ(x:Nat × Operand)=>(x.1,a.eval x.2)) C' (by rw[Hk];exact f1) c.w;simp only[execOp,ho,Sem.run_bind];rw[AQ];rfl
   ·cases he
  ·cases he
 ·cases he
theorem mK{w:World}:∀{ds:List DT} {ss:List SV} {vs:List Value},PN ds ss=true->SR c ss vs-> ∀{xs:EL} {m:Nat},CF hp0 gs m ss=some xs->DC w ds vs (xs.den c.ρ) []
 | [],[],vs,_,hs,xs,m,hx=>by
  cases hs;cases m with
  |zero=>simp[CF]at hx
  |succ m=>simp[CF]at hx;subst hx;exact .nil
 | [],_::_,_,h,_,_,_,_=>by simp[PN]at h
 |_::_,[],_,h,_,_,_,_=>by simp[PN]at h
 |d::ds,s::ss,[],h,hs,_,_,_=>by have:=hs.len;simp at this
 |d::ds,s::ss,v::vs,h,hs,xs,m,hx=>by
  obtain⟨j,y,ys,rfl,hy,Dp,rfl⟩:=KP hx;obtain⟨r1,r2⟩:=hs.cf;simp only[PN,Ab]at h;have ih:=mK (w:=w) h.2 r2 Dp;unfold uQ at h;obtain⟨h1,_⟩:=h;split at h1
  ·rename_i y';rw[EL.den,KX hy];cases r1 with
   |e g1 g2 _=>
    cases y'<;>simp[UQ]at h1
    ·cases g1 with
     |int hk _=>exact .flat (.int hk .nil) ih
    ·cases g1 with
     |bool _=>exact .flat (.bool .nil) ih
    ·rename_i s0;generalize hq:(E.str s0).den c.ρ=q at g1;cases g1 with
     |str hk _=>exact .flat (.str hk .nil) ih
     |_=>simp[E.den]at hq
  ·simp only[Ab,AR,AM]at h1;rw[EL.den,LW hy];cases r1 with
   |cd _=>exact .void h1.1 h1.2 ih
  ·cases h1
theorem DC.rep{w:World}{ds:List DT}{vs:List Value}{xs:List AV}(h:DC w ds vs xs []):∀k,DC w (BJ k ds) (List.replicate k vs).flatten (List.replicate k xs).flatten []
 |0=>by simpa[BJ]using DC.nil
 |k+1=>by rw[Pw,List.replicate_succ,List.flatten_cons,List.replicate_succ,List.flatten_cons];simpa using h.app (DC.rep h k)
theorem zu7(h:BA P c n nx sl hp a sl0 hp0 o gs){t:TypeId}{l m:Operand}(ho:o.op= .makeSlice t l m){s1 s2:SV}(BM:BL sl0 gs l=some s1)(A8:BL sl0 gs m=some s2)(he:Z5 P hp0 gs nx t s1 s2=some e)(hc:∀q∈e.cc,Cn.den c.ρ q):AB P o c n nx sl hp gs a e:=by
 have Dz:l∈o.op.operands:=by simp[ho,Op.operands]
 have CM:m∈o.op.operands:=by simp[ho,Op.operands]
 unfold Z5 at he;split at he
 ·rename_i el e' zz dl x y JD DJ;have Bp:=Jg JD;split at he
  ·cases he
  rename_i AA;simp only[not_or,Bg,Bool.not_eq_false',ne_eq,Bool.not_eq_false,Bool.not_eq_true,Decidable.not_not]at AA;obtain⟨hz,Gj,rfl,rfl,Hm,cY⟩:=AA;have cY:gs=[]:=by simpa using cY
  subst cY;obtain⟨_,_,dl',JN,D2⟩:=Wa (ZJ JD) DJ;simp only[DT.row.injEq,true_and]at JN;subst JN;rw[Az.ax]at he;obtain⟨i,z,hi,FO,CY,Bz,Co,E5⟩:=KO hz;have r1:=h.cu BM Dz;have r2:=h.cu A8 CM;have ival:∀{x:E} {kk:IntKind} {k:Int} {v:Value},SR c [.e x] [v]->x.den c.ρ= .int kk k->v= .int kk k:=by
   intro x kk k v hr hx;cases hr with
   |e h1 _ _=>exact(F2 h1 hx).1
  split at he
  ·rename_i s hs;have hs:Fc z=some s:=by simpa[hi,FO]using hs
   split at he
   ·rename_i Xj;obtain⟨w,hw,rfl⟩:=As.1 he;obtain⟨kk,k,hk,h0,hb,hle⟩:Cn.den c.ρ (.mkroom x (P.bytesOf e')):=Ci hc;have FB:=ival r1 hk;have Df:=ival r2 (by rw[<-E.az c.ρ _ _ Hm];exact hk);have sC:DC c.w dl' z.cells.toList (w.den c.ρ).cells []:=by
     have Lz:=ZH (c:=c) hs;unfold uB at Xj;cases s with
     |agg cs=>
      obtain⟨k9,l9,hm,hl9,rfl⟩:=V2 hw;cases Lz with
      |agg h9 h1 h8=>have:=mK (w:=c.w) Xj h1 hl9;simpa[Value.cells,AV.cells,E.den]using this
     |cd=>
      have Bp:CF hp0 [] (A6+1) [.cd]=some (.cons w .nil):=by unfold CF;rw[hw];rfl
      have:=mK (w:=c.w) Xj Lz Bp;rw[LW hw]at this ⊢;cases Lz with
      |cd _=>simpa[Value.cells,AV.cells,E.den,EL.den]using this
     |_=>cases Xj
    obtain⟨c1,c2⟩:=mJ (w:=c.w) (ρ:=c.ρ) hs hw;obtain⟨kn,rfl⟩:=Int.eq_ofNat_of_zero_le h0;have D0:(i.bytes:Int)*(kn:Int)<=281474976710656:=by rw[E5]at hb;rw[Int.mul_comm];omega
    have hlen:=c1.len;have W3:=Zf z.cells (by omega) kn;have AQ:=run_make (P:=P) c.w t e' i z Bp hi FO kk kk kn kn (by omega) (Int.le_refl _) D0 (by omega);have Fz:(madeCells z.cells (kn*z.cells.size)).size=kn*P.cellsOf e':=by rw[size_madeCells,CY,Co]
    have B0:(madeCells z.cells (kn*z.cells.size)).toList.take ((List.replicate kn (w.den c.ρ)).length*P.cellsOf e')=(List.replicate kn z.cells.toList).flatten:=by rw[List.length_replicate,List.take_of_length_le (by rw[BC,Fz];exact AJ _),W3]
    have B7:Aq (List.replicate kn (w.den c.ρ))=(List.replicate kn (w.den c.ρ).cells).flatten:=by
     clear AQ Fz B0 W3 hb hle D0 hk FB Df h0 hc
     induction kn with
     |zero=>rfl
     |succ k ih=>simp only[List.replicate_succ,Aq,List.flatMap_cons,List.flatten_cons]at ih ⊢;rw[ih]
    refine AB.fc (T:=[]) h (by simp) (by simp) (by omega) D2 (xs:=List.replicate kn (w.den c.ρ)) (C:=madeCells z.cells (kn*z.cells.size)) (cap:=kn) (by simp[E.den,hk,AV.rep]) (λu hu=> ?_) (by simp) (by simp only[maxLen];omega) Fz ?_ ?_ ?_
    ·rw[List.eq_of_mem_replicate hu,<-hlen,BC,CY,Co]
    ·rw[B0];intro u hu;obtain⟨q,hq,hu⟩:=List.mem_flatten.1 hu;rw[List.eq_of_mem_replicate hq]at hu;exact c2 u hu
    ·rw[B0,List.length_replicate,B7];exact sC.rep kn
    ·simp only[execOp,ho,FB,Df,Sem.run_bind,Int.ofNat_eq_natCast,List.length_replicate];rw[AQ,CY];rfl
   ·cases he
  ·cases he
 ·cases he
end
section
variable {P:Program} {c:Cx} {n nx:Nat} {sl sl0:Nat->SV} {hp hp0:Nat->Option Af} {a:Act} {o:Oper} {gs:Gd} {e:Bb} {sg:B1} {nv:Nat}
theorem xQ{α:Type}(cs vs:List α)(o:Nat):setVs cs o vs=cs.take o++(vs++cs.drop (o+vs.length)):=by simp[setVs]
theorem DC.setVs{w:World}{ts:List DT}{L V:List Value}{X Y:List AV}{N1 N2 M:List Nat}{p:Nat}(h1:DC w (ts.take p) (L.take p) (X.take p) N1)(h2:DC w (ts.drop (p+V.length)) (L.drop (p+V.length)) (X.drop (p+V.length)) N2)(k:DC w ((ts.drop p).take V.length) V Y M):
  DC w ts (Go.Proofs.YtalagilebkaegaaGreat.setVs L p V) (Go.Proofs.YtalagilebkaegaaGreat.setVs X p Y) (N1++(M++N2)):=by
 have hk:=k.len;have ht:ts=ts.take p++((ts.drop p).take V.length++ts.drop (p+V.length)):=by rw[<-List.drop_drop,B9,B9]
 rw[xQ,xQ];have hl:Y.length=V.length:=by omega
 rw[hl];have:=h1.app (k.app h2);rw[<-ht]at this;exact this
theorem yK(h:BA P c n nx sl hp a sl0 hp0 o []){t:TypeId}{x y:Operand}(ho:o.op= .store t x y){b g:Nat}{ix:E}{sz k:Nat}{s:SV}(r1:SR c [.cr b g ix sz k] [a.eval x])(r2:SR c [s] [a.eval y]){el:Nat}{l:List DT}{ep:Nat}{c0:E}(hK:c.K b g)(Fo:∀g',c.K b g'->g'<=g)(hE:c.E b=ep)
  (Bn:Du P t=true) (hle:k+P.cellsOf t<=sz) (FL:Ao P el=true\/(sz=1/\Ao P t=false)) (Eg:Ao P t=true\/P.cellsOf t=1)
  {xe:E} {us:List Nat} {ck:List Cn} (Cv:SU P hp0 [] t ((l.drop k).take (P.cellsOf t)) s=some (xe,us,ck)) (Is:∀q∈ck,q.den c.ρ) (B8:us.Nodup) (hb:b∉us)
  (Ce:∀(kk:IntKind) (kv:Int),ix.den c.ρ= .int kk kv-> ∃(m cap:Nat) (C:Array Value) (ys:List AV) (N1 N2:List Nat),c.H b g= .slice (some ⟨m,0,none⟩) ys.length cap/\c0.den c.ρ= .sl ys/\0<sz/\l.length=sz/\c.w.heap[m]?=some (.cells C el (0,0))/\ys.length<=cap/\cap<=maxLen/\C.size=cap*sz/\(∀y∈ys,y.cells.length=sz)/\(∀w∈C.toList.take (ys.length*sz),w.oneCell'=true)/\
   (m::(N1++N2)).Nodup/\(∀q∈m::(N1++N2),q∈(c.G b).top)/\DC c.w ((BJ ys.length l).take (kv.toNat*sz+k)) ((C.toList.take (ys.length*sz)).take (kv.toNat*sz+k)) ((Aq ys).take (kv.toNat*sz+k)) N1/\
   DC c.w ((BJ ys.length l).drop (kv.toNat*sz+k+P.cellsOf t)) ((C.toList.take (ys.length*sz)).drop (kv.toNat*sz+k+P.cellsOf t)) ((Aq ys).drop (kv.toNat*sz+k+P.cellsOf t)) N2):
  AB P o c n nx sl hp [] a {cc:=ck,bk:=(b, .deep el sz l g (ep+1) (.set c0 ix (.put (.idx c0 ix) k xe (Ao P el))))::Et us}:=by
 generalize hv:a.eval x=v at r1;cases r1 with
 |cr k1 k2 k3 k4 k5 k6=>
  rename_i m0 len cap0 kk kv;obtain⟨m,cap,C,ys,N1,N2,p1,p2,p3,p4,p5,p6,p7,p8,p9,p10,p11,p12,p13,p14⟩:=Ce kk kv k3;rw[k2]at p1;cases p1;have Ix:kv.toNat<ys.length:=by omega
  have hmul:(kv.toNat+1)*sz<=ys.length*sz:=Br _ (by omega);have ES:ys.length*sz<=cap0*sz:=Br _ p6;rw[Nat.add_mul]at hmul;have DF:C.toList.length=cap0*sz:=by simpa using p8
  obtain⟨q1,q2,q3,q4,q5,q6⟩:=xM h.eh h.gs (by rw[Aw,BD,p4];omega) Eg Cv r2 Is;have Gk:=NM Ix;generalize Jb:(AV.sl ys).nth kv.toNat=yk at Gk;have FU:=p9 yk (List.mem_of_getElem? Gk);have En:(a.eval y).cells.toList.length=P.cellsOf t:=by simpa using q4
  obtain⟨m1,m2,m3⟩:=Zd (vs:=(a.eval y).cells.toList) p5 (show(kv.toNat*sz+k)+_<=C.size by rw[En,p8];omega);have Oz:(C.toList.take (ys.length*sz)).length=ys.length*sz:=by rw[Aw,DF];omega
  have HT:m0∈(c.G b).top:=p12 _ (by simp);have LC:∀q∈Cr c us,q∉(c.G b).top:=λq hq hh=>by obtain⟨u,hu,eK⟩:=Sf.1 hq;exact h.rel.gw.cq u b (λhh=>hb (hh▸hu)) q (by simp[GI.own,eK]) (by simp[GI.own,hh])
  have MD:∀q∈Cr c us,q<c.w.heap.size:=λq hq=>by obtain⟨u,_,eK⟩:=Sf.1 hq;exact h.rel.gw.inb u q (by simp[GI.own,eK])
  have MC:∀q∈(c.G b).top,q<c.w.heap.size:=λq hq=>h.rel.gw.inb b q (by simp[GI.own,hq]);have Bc:∀q,q∈Cr c us\/(q∈N1++N2)->(putCells c.w m0 (kv.toNat*sz+k) (a.eval y).cells.toList).heap[q]?=c.w.heap[q]?:=λq hq=>by
   refine m1.block q ?_ ?_
   ·rcases hq with hq|hq
    ·exact MD q hq
    ·exact MC q (p12 q (by simp[Ac.1 hq]))
   ·simp only[List.mem_singleton];rintro rfl;rcases hq with hq|hq
    ·exact LC _ hq HT
    ·exact(List.nodup_cons.1 p11).1 hq
  have hz:(yk.c9 k (xe.den c.ρ) (Ao P el)).cells=setVs yk.cells k (xe.den c.ρ).cells:=by
   refine mU ?_ (λhg=> ?_)
   ·cases hg:Ao P el with
    |true=>exact .inr rfl
    |false=>
     left;rcases FL with h'|⟨_,h'⟩
     ·rw[hg]at h';cases h'
     ·rw[h']at q5;exact λcs=>(q5.1 cs)
   ·rcases FL with h'|⟨h1,h'⟩
    ·rw[hg]at h';cases h'
    ·rw[h']at q5;have TG:P.cellsOf t=1:=by rcases Eg with h2|h2;rw[h']at h2;cases h2;exact h2
     refine⟨by omega,by omega,?_⟩;cases fB:xe.den c.ρ<;>first|rfl|exact absurd fB (q5.1 _)
  have EJ:Aq (ys.set kv.toNat (yk.c9 k (xe.den c.ρ) (Ao P el)))=setVs (Aq ys) (kv.toNat*sz+k) (xe.den c.ρ).cells:=
   ZX ys _ _ yk k _ p9 Gk (by rw[q3];exact hle) hz
  have Hb:((BJ ys.length l).drop (kv.toNat*sz+k)).take (P.cellsOf t)=(l.drop k).take (P.cellsOf t):=by rw[<-p4];exact VO l _ _ _ _ Ix (by omega)
  have AQ:(execOp a.eval o).run P c.w= .ok .skip (putCells c.w m0 (kv.toNat*sz+k) (a.eval y).cells.toList):=by have:=lZ (P:=P) (t:=t) (v:=a.eval y) (off:=kv.toNat*sz+k) p5 Bn q4 (by rw[q4,p8];omega) q2;simp[execOp,ho,hv,this]
  refine AB.ju h B8 q6 hb hK Fo hE AQ (hs:=(c.G b).top++Cr c us) (λq hq=>Ac.1 hq) ⟨m1.os,m1.tape,m1.output,m1.size,λq hq hn=>m1.block q hq λhh=>hn (by simp only[List.mem_singleton]at hh;subst hh;exact Ac.2 (.inl HT))⟩
   (top:=m0::(N1++(Cr c us++N2))) ?_ (λq hq=> ?_) ?_
  ·have hnT:=Zo h.rel.gw B8;rw[List.nodup_cons,List.nodup_append]at p11;obtain⟨n1,n2,n3,n4⟩:=p11;have a1:∀q∈Cr c us,q∉N1/\q∉N2/\q≠m0:=λq hq=>⟨λhh=>LC q hq (p12 q (by simp[hh])),λhh=>LC q hq (p12 q (by simp[hh])),λhh=>LC q hq (hh▸HT)⟩
   rw[List.nodup_cons,List.nodup_append,List.nodup_append];refine⟨λhh=> ?_,n2,⟨hnT,n3,λp hp q hq W7=>(a1 p hp).2.1 (W7▸hq)⟩,λp hp q hq W7=> ?_⟩
   ·simp only[Ac]at hh n1;rcases hh with hh|hh|hh
    ·exact n1 (.inl hh)
    ·exact(a1 _ hh).2.2 rfl
    ·exact n1 (.inr hh)
   ·rcases Ac.1 hq with hq|hq
    ·exact(a1 q hq).1 (W7▸hp)
    ·exact n4 p hp q hq W7
  ·have:q∈(c.G b).top\/q∈Cr c us:=by
    simp only[Ae,Ac]at hq;rcases hq with rfl|hq|hq|hq
    ·exact .inl HT
    ·exact .inl (p12 q (by simp[hq]))
    ·exact .inr hq
    ·exact .inl (p12 q (by simp[hq]))
   refine⟨.inl (Ac.2 this),Nat.lt_of_lt_of_le ?_ m1.size⟩;rcases this with hh|hh
   ·exact MC q hh
   ·exact MD q hh
  ·have Cp:(E.set c0 ix (.put (.idx c0 ix) k xe (Ao P el))).den c.ρ= .sl (ys.set kv.toNat (yk.c9 k (xe.den c.ρ) (Ao P el))):=by
    simp only[E.den,p2,k3,AV.idx,Jb,AV.c7]
   rw[Cp,k2];have D2:(ys.set kv.toNat (yk.c9 k (xe.den c.ρ) (Ao P el))).length=ys.length:=List.length_set;have:=DC.row (w:=putCells c.w m0 (kv.toNat*sz+k) (a.eval y).cells.toList) (e:=el) (z:=sz) (l:=Az.of l) (g:=m0) (cap:=cap0) (ys:=ys.set kv.toNat (yk.c9 k (xe.den c.ρ) (Ao P el))) (N1:=N1++(Cr c us++N2)) (ts:=[]) (vs:=[]) (xs:=[]) (N:=[]) p3 (by rw[Az.ax];exact p4) m2 (by rw[D2];exact p6) p7 (by rw[List.size_toArray,Sp _ _ _ (by rw[En,DF];omega),BC];exact p8) (λw hw=> ?_) ?_ ?_ .nil
   ·rw[D2]at this;simpa using this
   ·rcases List.mem_or_eq_of_mem_set hw with hw|rfl
    ·exact p9 w hw
    ·rw[hz,Sp _ _ _ (by rw[q3,FU];exact hle)];exact FU
   ·simp only[D2,List.toList_toArray];rw[Sd _ _ _ _ (by rw[En];omega) (by rw[DF];omega)];intro u hu;unfold setVs at hu;simp only[Ac]at hu;rcases hu with(hu|hu)|hu
    ·exact p10 u (Bt hu)
    ·exact q2 u hu
    ·exact p10 u (BO hu)
   ·simp only[D2,List.toList_toArray];rw[Sd _ _ _ _ (by rw[En];omega) (by rw[DF];omega),EJ,Az.ax];refine DC.setVs (p13.frame λq hq=>Bc q (.inr (by simp[hq]))) ?_ ?_
    ·rw[En];exact p14.frame λq hq=>Bc q (.inr (by simp[hq]))
    ·rw[En,Hb];exact q1.frame λq hq=>Bc q (.inl hq)
theorem zsT(h:BA P c n nx sl hp a sl0 hp0 o gs){t:TypeId}{x y:Operand}(ho:o.op= .store t x y){b g:Nat}{ix:E}{sz k:Nat}{s:SV}(AY: ¬ ∃e z g c d,Di hp0 gs b=some (.row e z g c d))(hx:BL sl0 gs x=some (.cr b g ix sz k))(hy:BL sl0 gs y=some s)
  (he:Ns P hp0 gs t (.cr b g ix sz k) s=some e) (hc:∀q∈e.cc,Cn.den c.ρ q):AB P o c n nx sl hp gs a e:=by
 have r1:=h.cu hx (by simp[ho,Op.operands]);have r2:=h.cu hy (by simp[ho,Op.operands]);simp only[Ns]at he;split at he
 ·rename_i hl;exact absurd ⟨_,_,_,_,_,hl⟩ AY
 ·rename_i el sz' l g' ep c0 hl;split at he
  ·rename_i hh;obtain⟨rfl,rfl,rfl,Bn,hle,FL,Eg⟩:=hh;split at he
   ·rename_i xe us ck Cv;split at he
    ·cases he
    rename_i Ek;simp only[Bool.or_eq_true,Bg,not_or,Bool.not_eq_false,Bool.not_eq_true,List.contains_eq_mem,decide_eq_false_iff_not]at Ek;simp only[Ad]at he;subst he;obtain⟨e1,e2,e3,e4,e5⟩:=h.eh b _ (CJ hl h.gs);refine yK h ho r1 r2 e1 e2 e3 Bn hle (by simpa using FL) Eg Cv hc (Sq Ek.1) Ek.2 λkk kv TU=> ?_;generalize a.eval x=v at r1;cases r1 with
    |cr k1 k2 k3 k4 k5 _=>
     rw[k3]at TU;cases TU;obtain⟨d1,d2,⟨a9,d3,_⟩|⟨g9,cap9,C,ys,N,d3,d4,d5,d6,d7,d8,d9,d10,d11,d12⟩⟩:=e4.inv
     ·rw[k2]at d3;cases d3;omega
     ·rw[Az.ax]at d2 d12;obtain⟨N1,N2,N3,rfl,s1,s2,s3⟩:=d12.split (kv.toNat*sz+k) (P.cellsOf t);have B8:=h.rel.gw.nodup b;simp only[GI.own,e5,AE,d5]at B8;refine⟨g9,cap9,C,ys,N1,N3,d3,d4,d1,d2,d6,d7,d8,d9,d10,d11,?_,λq hq=> ?_,s1,s3⟩
      ·refine List.Sublist.nodup (List.Sublist.cons_cons _ ?_) B8;rw[List.append_assoc];exact List.Sublist.append (List.Sublist.refl _) (List.sublist_append_right _ _)
      ·rw[d5];simp only[Ae,Ac]at hq ⊢;rcases hq with hq|hq|hq
       ·exact .inl hq
       ·exact .inr (.inl (.inl hq))
       ·exact .inr (.inr hq)
   ·cases he
  ·cases he
 ·rename_i el sz' l g' ep c0 i' o' u' hl;split at he
  ·rename_i hh;obtain⟨rfl,rfl,rfl,Bn,rfl,hib,hle,TG,Eg,FL⟩:=hh;have Eg:Ao P t=false:=by simpa using Eg
   split at he
   ·rename_i xe us ck Cv;split at he
    ·cases he
    rename_i Ek;simp only[Bool.or_eq_true,Bg,not_or,Bool.not_eq_false,Bool.not_eq_true,List.contains_eq_mem,decide_eq_false_iff_not]at Ek;simp only[Ad]at he;subst he;obtain⟨e1,e2,e3,⟨m,cap,C,ys,kk,kv,N1,N2,p1,p2,p3,p4,p5,p6,p7,p7',p8,p9,p10,p11,p12,p13,p14,p15,p16,p17,p18⟩,e5⟩:=h.eh b _ (CJ hl h.gs);refine yK h ho r1 r2 e1 e2 e3 Bn (by omega) (FL.imp id λhh=>⟨hh,Eg⟩) (.inr TG) (by rw[TG];exact Cv) hc (Sq Ek.1) Ek.2 λkk' kv' TU=> ?_;rw[E.az c.ρ _ _ hib,p3]at TU;cases TU;have B8:=h.rel.gw.nodup b;simp only[GI.own,e5,AE,p14]at B8;exact⟨m,cap,C,ys,N1,N2,p1,p2,p7,p7',p8,p9,p10,p11,p12,p13,B8,λq hq=>by rw[p14];exact hq,p17,by rw[TG];exact p18⟩
   ·cases he
  ·cases he
 ·cases he
end
section
variable {P:Program} {c:Cx} {n nx:Nat} {sl sl0:Nat->SV} {hp hp0:Nat->Option Af} {a:Act} {o:Oper} {gs:Gd} {e:Bb} {sg:B1} {nv:Nat}
theorem nZ{w:World}{ety sz:Nat}{p:Option Addr}{m r:Nat}{x:AV}{top N:List Nat}(h:C3 w ety sz (.slice p m r) x top N):∃xs,x= .sl xs/\xs.length=m/\m<=r/\0<sz/\(∀y∈xs,y.cells.length=sz)/\
  ((xs=[]/\m=0/\r=0/\top=[]/\N=[])\/ ∃g C,p=some ⟨g,0,none⟩/\r<=maxLen/\w.heap[g]?=some (.cells C ety (0,0))/\C.size=r*sz/\top=[g]/\(∀u∈C.toList.take (m*sz),u.oneCell'=true)/\Rd w (C.toList.take (m*sz)) (Aq xs) N):=by
 obtain⟨xs,rfl,h2,h3,⟨rfl,⟨a,hv⟩,rfl,rfl⟩|⟨g,cap',C,hv,h6,h7,h8,h9,rfl,Fj,EE⟩⟩:=h
 ·cases hv;exact⟨[],rfl,rfl,AJ _,h3,by simp, .inl ⟨rfl,rfl,rfl,rfl,rfl⟩⟩
 ·cases hv;exact⟨xs,rfl,rfl,h6,h3,h2, .inr ⟨g,C,rfl,h7,h8,h9,rfl,Fj,EE⟩⟩
theorem zve(h:BA P c n nx sl hp a sl0 hp0 o gs){t:TypeId}{x:Operand}{lo hi mx:Option Operand}(ho:o.op= .slice t x lo hi mx){s:SV}(hs:BL sl0 gs x=some s){l' h' m':Option SV}(BH:Ig (BL sl0 gs) lo=some l')(I4:Ig (BL sl0 gs) hi=some h')(CX:Ig (BL sl0 gs) mx=some m')(he:aG P hp0 gs t s l' h' m'=some e)(hc:∀q∈e.cc,Cn.den c.ρ q):AB P o c n nx sl hp gs a e:=by
 have hm:x∈o.op.operands:=by simp[ho,Op.operands]
 have JP:∀y,lo=some y->y∈o.op.operands:=λy hy=>by simp[ho,Op.operands,hy]
 have IA:∀y,hi=some y->y∈o.op.operands:=λy hy=>by simp[ho,Op.operands,hy]
 have hx:=h.cu hs hm;have ival:∀{x:E} {kk:IntKind} {k:Int} {v:Value},SR c [.e x] [v]->x.den c.ρ= .int kk k->v= .int kk k:=by
  intro x kk k v hr hx;cases hr with
  |e h1 _ _=>exact(F2 h1 hx).1
 have ex:(execOp a.eval o).run P c.w=((Instr.sliceAt t (a.eval x) (lo.map a.eval) (hi.map a.eval) (mx.map a.eval)).run P c.w).andThen λv w=> .ok (.value v) w:=by simp[execOp,ho]
 unfold aG at he;split at he
 ·rename_i el0 b g Bp;have hu:=Jg Bp;split at he
  ·cases he
  rename_i Bn;have Bn:Du P el0=true:=by simpa using Bn
  have JQ:mx=none:=by
   rcases GY CX with⟨hh,_⟩|⟨_,_,_,_,hh⟩
   ·exact hh
   ·cases hh
  subst JQ;split at he
  ·rename_i el z g' c0 d hl;split at he
   ·cases he
   rename_i AA;simp only[not_or,Decidable.not_not,ne_eq]at AA;obtain⟨rfl,rfl,rfl⟩:=AA;obtain⟨q1,q2,N,q3,q4,q5,q6⟩:=h.eh b _ (CJ hl h.gs);generalize hv:a.eval x=v at hx ex;cases hx with
   |own k1 k2 k3=>
    rename_i p m r;rw[k2]at q3;obtain⟨xs,Cl,IE,OB,Bz,Ax,A1⟩:=nZ q3;split at he
    ·rename_i l;simp only[Ad]at he;subst he;obtain⟨ka,ai,kb,bi,mm,d1,d2,d3,d4,d5,d6⟩:Cn.den c.ρ (.win c0 l (.len c0)):=Ci hc;have W4:mm=(m:Int):=by rw[Cl]at d3;simp only[AV.len,AV.int.injEq,true_and]at d3;omega
     obtain⟨an,rfl⟩:=Int.eq_ofNat_of_zero_le d4;obtain⟨ol,B2,hol⟩:∃ol,lo=some ol/\BL sl0 [] ol=some (.e l):=by
      rcases GY BH with⟨_,hh⟩|⟨ol,sl',JG,Ot,Ou⟩
      ·cases hh
      ·cases Ou;exact⟨ol,JG,Ot⟩
     have JH:hi=none:=by
      rcases GY I4 with⟨hh,_⟩|⟨_,_,_,_,hh⟩
      ·exact hh
      ·cases hh
     subst B2;subst JH;have Lp:=ival (h.cu hol (JP _ rfl)) d1;have hle:an<=m:=by omega
     have AQ:=Vg (P:=P) (w:=c.w) (lo:=(some ol).map a.eval) (hi:=(none:Option Operand).map a.eval) hu Bn p m r an m (.inr ⟨ka,by rw[Option.map_some,Lp]⟩) (.inl ⟨rfl,rfl⟩) hle (AJ _) OB;have:=SR.wown (c:=c) (lo:=l) (sz:=P.cellsOf el) (q':=if r=an then p else p.map (·.add (an*P.cellsOf el))) (r:=r-an) k1 k2 d1 d4 (by omega) (λAH=>by
      rcases A1 with⟨_,Ck,_⟩|⟨g9,C,rfl,_⟩
      ·omega
      ·exact⟨g9,rfl,by rw[if_neg (by omega)];simp[Addr.add_lit],by simp⟩) .nil
     refine AB.pure h (v:=sliced p an m r (P.cellsOf el)) ?_ (by simpa[sliced]using this) rfl;rw[ex];show Result.andThen (Sem.run P (Instr.sliceAt t (.slice p m r) ((some ol).map a.eval) ((none:Option Operand).map a.eval) none) c.w) _=_;rw[AQ];rfl
    ·rename_i hb;simp only[Ad]at he;subst he;obtain⟨ka,ai,kb,bi,mm,d1,d2,d3,d4,d5,d6⟩:Cn.den c.ρ (.win c0 (.int .i64 0) hb):=Ci hc;have W4:mm=(m:Int):=by rw[Cl]at d3;simp only[AV.len,AV.int.injEq,true_and]at d3;omega
     simp only[E.den,AV.int.injEq]at d1;obtain⟨_,rfl⟩:=d1;obtain⟨bn,rfl⟩:=Int.eq_ofNat_of_zero_le d5;obtain⟨oh,JH,eB⟩:∃oh,hi=some oh/\BL sl0 [] oh=some (.e hb):=by
      rcases GY I4 with⟨_,hh⟩|⟨ol,sl',JG,Ot,Ou⟩
      ·cases hh
      ·cases Ou;exact⟨ol,JG,Ot⟩
     have B2:lo=none:=by
      rcases GY BH with⟨hh,_⟩|⟨_,_,_,_,hh⟩
      ·exact hh
      ·cases hh
     subst B2;subst JH;have Lp:=ival (h.cu eB (IA _ rfl)) d2;have hle:bn<=m:=by omega
     have AQ:=Vg (P:=P) (w:=c.w) (lo:=(none:Option Operand).map a.eval) (hi:=(some oh).map a.eval) hu Bn p m r 0 bn (.inl ⟨rfl,rfl⟩) (.inr ⟨kb,by rw[Option.map_some,Lp]⟩) (Nat.zero_le _) hle OB;have Dj:sliced p 0 bn r (P.cellsOf el)= .slice p bn r:=by
      unfold sliced;rcases A1 with⟨_,_,rfl,_⟩|⟨g9,C,rfl,_⟩
      ·simp
      ·split<;>simp[Addr.add_lit]
     rw[Dj]at AQ;have Dd:(execOp a.eval o).run P c.w= .ok (.value (.slice p bn r)) c.w:=by rw[ex];show Result.andThen (Sem.run P (Instr.sliceAt t (.slice p m r) ((none:Option Operand).map a.eval) ((some oh).map a.eval) none) c.w) _=_;rw[AQ];rfl
     have Ba: ¬c.K b (g+1):=λhk=>by have:=q2 _ hk;omega
     have hrel:=h.rel;have D1:=hrel.bf (gs:=[]) (t:=b) (g:=g+1) (w':=c.w) (row:=(c.G b).top.head?) (top:=(c.G b).top) (O:=if d=true then(c.G b).O else []) (v:= .slice p bn r) (.inr (by omega)) Ba ⟨rfl,rfl,rfl,AJ _,λ_ _ _=>rfl⟩ (λg0 Fl=> .inl (List.mem_of_mem_head? Fl)) (by
       rcases A1 with⟨_,_,_,ht,_⟩|⟨g9,C,_,_,_,_,ht,_⟩
       ·exact .inl ht
       ·exact .inr ⟨g9,by rw[ht];rfl,ht⟩) (by split;exact .inr rfl;exact .inl rfl)
      (.row el (P.cellsOf el) (g+1) (.win c0 (.int .i64 0) hb) d) (by intros;simp) (E1 _) (λGN=>by
       have ID:(E.win c0 (.int .i64 0) hb).den c.ρ= .sl (xs.take bn):=by simp only[E.den,Cl,d2,AV.win];simp
       obtain⟨N',Be,WU⟩:∃N',C3 c.w el (P.cellsOf el) (.slice p bn r) (.sl (xs.take bn)) (c.G b).top N'/\ ∀q∈N',q∈N:=by
        rcases A1 with⟨rfl,Ck,rfl,ht,rfl⟩|⟨g9,C,rfl,Fo,P7,hC,ht,h1,Db⟩
        ·have:bn=0:=by omega
         subst this;exact⟨[],⟨[],by simp,by simp,Bz, .inl ⟨rfl,⟨p,rfl⟩,ht,rfl⟩⟩,by simp⟩
        ·obtain⟨N',bQ,CB⟩:=Db.piece 0 (bn*P.cellsOf el);have Iy:(xs.take bn).length=bn:=by rw[Aw];omega
         have hmul:bn*P.cellsOf el<=m*P.cellsOf el:=Br _ hle;have ef:=nM xs Ax 0 bn (Nat.zero_le _) (by omega);simp only[Nat.zero_mul,Nat.sub_zero,List.drop_zero]at ef CB;rw[ef,List.take_take,Nat.min_eq_left hmul]at CB;refine⟨N',⟨xs.take bn,rfl,λy hy=>Ax y (Bt hy),Bz, .inr ⟨g9,r,C,by rw[Iy],by rw[Iy];omega,Fo,P7,hC,ht,?_,?_⟩⟩,bQ⟩
         ·rw[Iy];intro u hu;refine h1 u ?_;have:C.toList.take (bn*P.cellsOf el)=(C.toList.take (m*P.cellsOf el)).take (bn*P.cellsOf el):=by rw[List.take_take,Nat.min_eq_left hmul]
          rw[this]at hu;exact Bt hu
         ·rw[Iy];exact CB
       refine⟨.inr ⟨rfl,rfl⟩,λg'' Oo=> ?_,N',?_,λq hq=>GN.ok q (Be.ln q hq) (q4 q (WU q hq)),λhd=> ?_,λhd=>by simp[Cx.bf,hd]⟩
       ·rcases Oo with Oo|⟨_,rfl⟩
        ·have:=q2 _ Oo;omega
        ·exact AJ _
       ·have e1:(c.bf b (g+1) c.w (.slice p bn r) (c.G b).top (if d=true then(c.G b).O else [])).H b (g+1)= .slice p bn r:=by simp[Cx.bf]
        have e2:((c.bf b (g+1) c.w (.slice p bn r) (c.G b).top (if d=true then(c.G b).O else [])).G b).top=(c.G b).top:=by simp[Cx.bf]
        rw[e1,e2];show C3 c.w el (P.cellsOf el) _ ((E.win c0 (.int .i64 0) hb).den c.ρ) _ N';rw[ID];exact Be
       ·obtain⟨u1,u2⟩:=q5 hd;have u1:N=[]:=u1;subst u1;have N6:N'=[]:=List.eq_nil_iff_forall_not_mem.2 λq hq=>by simpa using WU q hq
        subst N6;exact⟨rfl,by simp only[Cx.bf,if_true,hd];exact u2⟩)
     intro next Q hk
     unfold Oper.wp;rw[Dd,Oper.upon_value];refine hk _ (c.bf b (g+1) c.w (.slice p bn r) (c.G b).top (if d=true then(c.G b).O else [])) ⟨rfl,rfl,rfl,rfl,λu hu=> ?_⟩ (D1.put (SR.mkGd (c:=c.bf b (g+1) c.w (.slice p bn r) (c.G b).top (if d=true then(c.G b).O else [])) (s:= .own b (g+1)) (v:= .slice p bn r) (.own (show _\/_ from .inr ⟨rfl,rfl⟩) (by simp[Cx.bf]) .nil) []) o.dst);rcases hu with hu|rfl
     ·exact .inl hu
     ·exact .inl (h.rel.bq _ _ k1)
    ·cases he
  ·cases he
 ·cases he
theorem zsS(z:Array Value)(hz:0<z.size)(k:Nat):(Builtin.zeroCells z k).toList=(List.replicate k z.toList).flatten:=by have:=Zf z hz k;rw[<-this];rfl
theorem zyY(h:BA P c n nx sl hp a sl0 hp0 o gs){x:Operand}{tx:TypeId}{cl:Call}(ho:o.op= .call cl)(Ax:cl.callee= .builtin .clear)(CW:cl.args.toList=[x])(DR:cl.argTypes.toList=[tx]){s:SV}(hs:BL sl0 gs x=some s)(he:oH P hp0 gs tx s=some e)(hc:∀q∈e.cc,Cn.den c.ρ q):AB P o c n nx sl hp gs a e:=by
 have Ah:cl.args= #[x]:=by apply Array.ext';simp[CW]
 have FR:cl.argTypes= #[tx]:=by apply Array.ext';simp[DR]
 have hm:x∈o.op.operands:=by simp[ho,Op.operands,Call.operands,Ax,Ah]
 have hx:=h.cu hs hm;unfold oH at he;split at he
 ·rename_i el0 b g l z Bp;have hu:=Jg Bp;split at he
  ·rename_i el z' g' c0 d hl;split at he
   ·cases he
   rename_i AA;simp only[not_or,Bg,Bool.not_eq_false,Decidable.not_not,ne_eq]at AA;obtain⟨rfl,rfl,rfl,rfl,hz,AI⟩:=AA;have AI:Ao P el=true\/P.cellsOf el=1:=by simpa using AI
   obtain⟨i,zv,hi,FO,CY,Bz,Co,E5⟩:=KO hz;split at he
   ·rename_i q hq;split at he
    ·rename_i w hw;have hq:Fc zv=some q:=by simpa[hi,FO]using hq
     simp only[Ad]at he;subst he;obtain⟨c1,c2⟩:=mJ (w:=c.w) (ρ:=c.ρ) hq hw;have AO:=Mb h.hp (CJ hl h.gs);obtain⟨q1,q2,N,q3,q4,q5,q6⟩:=h.rel.ents b _ AO;generalize hv:a.eval x=v at hx;cases hx with
     |wown k1 k2 k3 k4 k5 k6 k7=>
      rename_i p m r q' r' kk kv;rw[k2]at q3;obtain⟨xs,Cl,IE,OB,eV,Og,A1⟩:=nZ q3;have Oh:(E.bin .sub (.len c0) l).den c.ρ≠ .undef:=hc (.dfd (.bin .sub (.len c0) l)) (by simp);have MF:kk= .i64:=by
       simp only[E.den,Cl,AV.len,k3,AV.bin]at Oh;split at Oh
       ·rename_i hh;rcases hh with hh|hh|hh
        ·exact hh.symm
        ·cases hh
        ·cases hh
       ·exact absurd rfl Oh
      subst MF;have Cp:(E.bin .sub (.len c0) l).den c.ρ= .int .i64 ((m:Int)-kv):=by
       simp only[E.den,Cl,AV.len,k3,AV.bin,true_or,if_true,Cy,IE];congr 1;have hm63:(m:Int)<=9223372036854775807:=by
        rcases A1 with⟨_,h0,_⟩|⟨_,_,_,Fo,_⟩
        ·omega
        ·have:maxLen=9223372036854775807:=rfl;omega
       exact(PF .i64 _).2 ⟨by simp[IntKind.min,IntKind.signed,IntKind.bits];omega,by simp[IntKind.max,IntKind.signed,IntKind.bits];omega⟩
      have Ba:(E.app (.win c0 (.int .i64 0) l) (.rep (.bin .sub (.len c0) l) w)).den c.ρ= .sl (xs.take kv.toNat++List.replicate (m-kv.toNat) (w.den c.ρ)):=by
       have e1:(E.win c0 (.int .i64 0) l).den c.ρ= .sl (xs.take kv.toNat):=by simp only[E.den,Cl,k3,AV.win];simp
       have e2:(E.rep (.bin .sub (.len c0) l) w).den c.ρ= .sl (List.replicate (m-kv.toNat) (w.den c.ρ)):=by show AV.rep ((E.bin .sub (.len c0) l).den c.ρ) (w.den c.ρ)=_;rw[Cp];simp only[AV.rep];congr 2;omega
       show AV.app _ _=_;rw[e1,e2];rfl
      have ex:(execOp a.eval o).run P c.w=((Builtin.clear_ #[tx] o.type #[.slice q' (m-kv.toNat) r']).run P c.w).andThen λv w=> .ok (.value v) w:=by simp[execOp,ho,resolve,Ax,Ah,FR,invoke,builtin,hv]
      rcases Nat.eq_or_lt_of_le (show kv.toNat<=m by omega)with heq|AH
      ·
       have BZ:m-kv.toNat=0:=by omega
       have AQ:(execOp a.eval o).run P c.w= .ok (.value (.tuple #[])) c.w:=by rw[ex,BZ];cases q'<;>simp[Builtin.clear_,run_underlying hu]
       have Bc:(E.app (.win c0 (.int .i64 0) l) (.rep (.bin .sub (.len c0) l) w)).den c.ρ=c0.den c.ρ:=by rw[Ba,Cl,BZ];simp[List.take_of_length_le (show xs.length<=kv.toNat by omega)]
       intro next Q hk
       unfold Oper.wp;rw[AQ,Oper.upon_value];have D1:Rel c n sl (Bk hp [(b, .row el (P.cellsOf el) g (.app (.win c0 (.int .i64 0) l) (.rep (.bin .sub (.len c0) l) w)) d)]) a:=by
        have D4:∀u,Bk hp [(b, .row el (P.cellsOf el) g (.app (.win c0 (.int .i64 0) l) (.rep (.bin .sub (.len c0) l) w)) d)] u=if u=b then some (.row el (P.cellsOf el) g (.app (.win c0 (.int .i64 0) l) (.rep (.bin .sub (.len c0) l) w)) d)else hp u:=λu=>rfl;refine h.rel.change (λu=>u=b) (DY.refl c) h.rel.base (λu hu=>⟨by rw[D4,if_neg hu],rfl,rfl,λ_ hk=>hk⟩) (λ_ _ _ _=>rfl) (λu hu=> ?_) h.rel.gw h.rel.bq (λu f hf=> ?_)
        ·subst hu;rw[D4,if_pos rfl];refine⟨λe' hr=> ?_,λhn=>absurd rfl (hn _)⟩;simp only[CH]at hr;subst hr;exact⟨q1,q2,N,by rw[Bc,k2];exact q3,q4,q5,q6⟩
        ·rw[D4]at hf;split at hf
         ·rename_i hu;subst hu;exact h.rel.bq _ _ k1
         ·exact h.rel.ct u f hf
       exact hk _ c (M3.refl _ _) (D1.put ((SR.undef .nil).mkGd []) o.dst)
      ·obtain⟨b9,rR,rfl,rfl⟩:=k6 (by omega);rcases A1 with⟨_,h0,_⟩|⟨g9,C,hp',Fo,P7,hC,ht,h1,Db⟩
       ·omega
       rw[rR]at hp';cases hp';have DF:C.toList.length=r*P.cellsOf el:=by simpa using hC
       have rM:m*P.cellsOf el<=r*P.cellsOf el:=Br _ OB;have rL:(m-kv.toNat)*P.cellsOf el+kv.toNat*P.cellsOf el=m*P.cellsOf el:=by rw[<-Nat.add_mul];congr 1;omega
       have fH:=zsS zv.cells (by omega) (m-kv.toNat);generalize hZ:(List.replicate (m-kv.toNat) zv.cells.toList).flatten=Z at fH;have Od:Z.length=(m-kv.toNat)*P.cellsOf el:=by rw[<-hZ,List.length_flatten];simp only[List.map_replicate,List.sum_replicate_nat,BC,CY,Co]
       have qW:∀u∈Z,u.oneCell'=true:=λu hu=>by rw[<-hZ]at hu;obtain⟨L,hL,hu⟩:=List.mem_flatten.1 hu;rw[List.eq_of_mem_replicate hL]at hu;exact c2 u hu
       have Lw:=lM (P:=P) (off:=kv.toNat*P.cellsOf el) Z 0 c.w C P7 (by rw[Od,hC];omega) qW;have AQ:(execOp a.eval o).run P c.w= .ok (.value (.tuple #[])) (putCells c.w b9 (kv.toNat*P.cellsOf el) Z):=by
        rw[ex];obtain⟨mm,W4⟩:∃mm,m-kv.toNat=mm+1:=⟨m-kv.toNat-1,by omega⟩
        have hzv:(zeroValue el).run P c.w= .ok zv c.w:=by simp[zeroValue,typeInfo,hi,FO]
        simp only[Nat.add_zero]at Lw;rw[W4]at fH ⊢;simp[Builtin.clear_,run_underlying hu,hzv,fH,Lw]
       obtain⟨m1,m2,m3⟩:=Zd (off:=kv.toNat*P.cellsOf el) (vs:=Z) P7 (by rw[Od,hC];omega);have Oz:(C.toList.take (m*P.cellsOf el)).length=m*P.cellsOf el:=by rw[Aw,DF];omega
       have MY:b9∈(c.G b).top:=by rw[ht];simp
       have Tt:Rd c.w Z (Aq (List.replicate (m-kv.toNat) (w.den c.ρ))) []:=by rw[<-hZ];exact qB c1 _
       obtain⟨n1,n2,n3,hN,s1,s2⟩:=Rd.setVs (p:=kv.toNat*P.cellsOf el) Db Tt (by rw[Oz,Od];omega);have r7:(w.den c.ρ).cells.length=P.cellsOf el:=by have:=c1.len;rw[<-this];simp[CY,Co]
       have hYl:(Aq (List.replicate (m-kv.toNat) (w.den c.ρ))).length=Z.length:=by rw[<-Tt.len]
       have B7:setVs (Aq xs) (kv.toNat*P.cellsOf el) (Aq (List.replicate (m-kv.toNat) (w.den c.ρ)))=Aq (xs.take kv.toNat++List.replicate (m-kv.toNat) (w.den c.ρ)):=by
        have ef:=nM xs Og 0 kv.toNat (Nat.zero_le _) (by omega)
        simp only[Nat.zero_mul,Nat.sub_zero,List.drop_zero]at ef;unfold setVs;rw[ef,VD,hYl,Od,List.drop_eq_nil_of_le (by rw[KQ _ Og,IE];omega),AE]
       rw[B7]at s1;have Ce:∀q∈n1++ []++n3,q∈N:=λq hq=>by rw[hN];simp at hq ⊢;rcases hq with hq|hq<;>simp[hq]
       have FP:∀q,q<c.w.heap.size->c.ok q->(putCells c.w b9 (kv.toNat*P.cellsOf el) Z).heap[q]?=c.w.heap[q]?:=by intro q hq AZ;refine m1.block q hq ?_;simp only[List.mem_singleton];rintro rfl;exact AZ.1 ⟨b,MY⟩
       have D2:(xs.take kv.toNat++List.replicate (m-kv.toNat) (w.den c.ρ)).length=m:=by rw[AP,Aw,List.length_replicate];omega
       have D1:=h.rel.jb (t:=b) (b:=b9) (w':=putCells c.w b9 (kv.toNat*P.cellsOf el) Z) (O:=if d=true then(c.G b).O else []) AO MY (by split;exact .inr rfl;exact .inl rfl) m1 m3
        (.row el (P.cellsOf el) g (.app (.win c0 (.int .i64 0) l) (.rep (.bin .sub (.len c0) l) w)) d) (by intros;simp) (λGN=>by
         refine⟨q1,q2,n1++ []++n3,?_,λq hq=>GN.ok q (Db.inb q (Ce q hq)) (q4 q (Ce q hq)),λhd=> ?_,λhd=>by simp[Cx.ey,hd]⟩
         ·show C3 (putCells c.w b9 (kv.toNat*P.cellsOf el) Z) el (P.cellsOf el) (c.H b g) ((E.app (.win c0 (.int .i64 0) l) (.rep (.bin .sub (.len c0) l) w)).den c.ρ) _ _;rw[Ba,k2,rR];refine⟨_,rfl,λy hy=> ?_,eV, .inr ⟨b9,r,_,by rw[D2],by rw[D2];exact OB,Fo,m2,?_,by simpa[Cx.ey]using ht,?_,?_⟩⟩
          ·rcases Ac.1 hy with hy|hy
           ·exact Og y (Bt hy)
           ·rw[List.eq_of_mem_replicate hy];exact r7
          ·rw[List.size_toArray,Sp _ _ _ (by rw[Od,DF];omega),BC];exact hC
          ·simp only[D2,List.toList_toArray];rw[Sd _ _ _ _ (by rw[Od];omega) (by rw[DF];omega)];intro u hu;unfold setVs at hu;simp only[Ac]at hu;rcases hu with(hu|hu)|hu
           ·exact h1 u (Bt hu)
           ·exact qW u hu
           ·exact h1 u (BO hu)
          ·simp only[D2,List.toList_toArray];rw[Sd _ _ _ _ (by rw[Od];omega) (by rw[DF];omega)];exact s1.frame λq hq=>FP q (Db.inb q (Ce q hq)) (q4 q (Ce q hq))
         ·obtain⟨u1,u2⟩:=q5 hd;have u1:N=[]:=u1;subst u1;have N6:n1++ []++n3=[]:=List.eq_nil_iff_forall_not_mem.2 λq hq=>by simpa using Ce q hq
          rw[N6];exact⟨rfl,by simp only[Cx.ey,if_true,hd];exact u2⟩)
       intro next Q hk
       unfold Oper.wp;rw[AQ,Oper.upon_value];exact hk _ (c.ey _ b _) ⟨rfl,rfl,rfl,rfl,λt ht=> .inl ht⟩ (D1.put ((SR.undef .nil).mkGd []) o.dst)
    ·cases he
   ·cases he
  ·cases he
 ·cases he
end
section
variable {P:Program} {c:Cx} {n nx:Nat} {sl sl0:Nat->SV} {hp hp0:Nat->Option Af} {a:Act} {o:Oper} {gs:Gd} {e:Bb} {sg:B1} {nv:Nat}
theorem zA0(l:List DT){n i:Nat}(hi:i<=n):BJ n l=BJ i l++BJ (n-i) l:=by rw[<-Nu];congr 1;omega
theorem zyU{K:Nat}{xs:List AV}(h:∀y∈xs,y.cells.length=K){i:Nat}(hi:i<=xs.length):Aq (xs.take i)=(Aq xs).take (i*K)/\Aq (xs.drop i)=(Aq xs).drop (i*K):=by
 have l1:(Aq (xs.take i)).length=i*K:=by rw[KQ _ λy hy=>h y (Bt hy),Aw,Nat.min_eq_left hi]
 have e:Aq xs=Aq (xs.take i)++Aq (xs.drop i):=by rw[<-VD,B9]
 rw[e,<-l1,List.take_left,List.drop_left];exact⟨rfl,rfl⟩
theorem DC.ma{w:World}{xs:List AV}{l:List DT}{K:Nat}{cs:List Value}{N:List Nat}(hK:l.length=K)(h:DC w (BJ xs.length l) cs (Aq xs) N)(hx:∀y∈xs,y.cells.length=K){i:Nat}(hi:i<=xs.length):
  ∃N1 N2,N=N1++N2/\DC w (BJ i l) (cs.take (i*K)) (Aq (xs.take i)) N1/\DC w (BJ (xs.length-i) l) (cs.drop (i*K)) (Aq (xs.drop i)) N2:=by
 have hlen:=h.len;have t1:=zyU hx hi;have hmul:=Br K hi;rw[zA0 l hi,<-B9 (i*K) cs,<-B9 (i*K) (Aq xs)]at h;rw[KS,hK]at hlen;obtain⟨N1,N2,rfl,h1,h2⟩:=DC.dt (by rw[KS,hK,Aw];omega) (by rw[KS,hK,Aw];omega) h;exact⟨N1,N2,rfl,by rw[t1.1];exact h1,by rw[t1.2];exact h2⟩
theorem zwR(h:BA P c n nx sl hp a sl0 hp0 o gs){t:TypeId}{x:Operand}{lo hi mx:Option Operand}(ho:o.op= .slice t x lo hi mx){s:SV}(hs:BL sl0 gs x=some s){l' h' m':Option SV}(BH:Ig (BL sl0 gs) lo=some l')(I4:Ig (BL sl0 gs) hi=some h')(CX:Ig (BL sl0 gs) mx=some m')(he:bA P hp0 gs nx t s l' h' m'=some e)(hc:∀q∈e.cc,Cn.den c.ρ q):AB P o c n nx sl hp gs a e:=by
 have hm:x∈o.op.operands:=by simp[ho,Op.operands]
 have JP:∀y,lo=some y->y∈o.op.operands:=λy hy=>by simp[ho,Op.operands,hy]
 have IA:∀y,hi=some y->y∈o.op.operands:=λy hy=>by simp[ho,Op.operands,hy]
 have hx:=h.cu hs hm;have ival:∀{x:E} {kk:IntKind} {k:Int} {v:Value},SR c [.e x] [v]->x.den c.ρ= .int kk k->v= .int kk k:=by
  intro x kk k v hr hx;cases hr with
  |e h1 _ _=>exact(F2 h1 hx).1
 have ex:(execOp a.eval o).run P c.w=((Instr.sliceAt t (a.eval x) (lo.map a.eval) (hi.map a.eval) (mx.map a.eval)).run P c.w).andThen λv w=> .ok (.value v) w:=by simp[execOp,ho]
 unfold bA at he;split at he
 ·rename_i el0 b g Bp;have hu:=Jg Bp;split at he
  ·cases he
  rename_i Bn;have Bn:Du P el0=true:=by simpa using Bn
  have JQ:mx=none:=by
   rcases GY CX with⟨hh,_⟩|⟨_,_,_,_,hh⟩
   ·exact hh
   ·cases hh
  subst JQ;split at he
  ·rename_i el z dl g' ep c0 hl;split at he
   ·cases he
   rename_i AA;simp only[not_or,Decidable.not_not,ne_eq]at AA;obtain⟨rfl,rfl,rfl⟩:=AA;obtain⟨q1,q2,_,q4,_⟩:=h.eh b _ (CJ hl h.gs);generalize hv:a.eval x=v at hx ex;cases hx with
   |own k1 k2 k3=>
    rename_i p m r;rw[k2]at q4;obtain⟨_,q3,_⟩:=q4.ownRow;obtain⟨xs,Cl,IE,OB,Bz,Ax,A1⟩:=nZ q3;split at he
    ·rename_i l;simp only[Ad]at he;subst he;obtain⟨ka,ai,kb,bi,mm,d1,d2,d3,d4,d5,d6⟩:Cn.den c.ρ (.win c0 l (.len c0)):=Ci hc;have W4:mm=(m:Int):=by rw[Cl]at d3;simp only[AV.len,AV.int.injEq,true_and]at d3;omega
     obtain⟨an,rfl⟩:=Int.eq_ofNat_of_zero_le d4;obtain⟨ol,B2,hol⟩:∃ol,lo=some ol/\BL sl0 [] ol=some (.e l):=by
      rcases GY BH with⟨_,hh⟩|⟨ol,sl',JG,Ot,Ou⟩
      ·cases hh
      ·cases Ou;exact⟨ol,JG,Ot⟩
     have JH:hi=none:=by
      rcases GY I4 with⟨hh,_⟩|⟨_,_,_,_,hh⟩
      ·exact hh
      ·cases hh
     subst B2;subst JH;have Lp:=ival (h.cu hol (JP _ rfl)) d1;have hle:an<=m:=by omega
     have AQ:=Vg (P:=P) (w:=c.w) (lo:=(some ol).map a.eval) (hi:=(none:Option Operand).map a.eval) hu Bn p m r an m (.inr ⟨ka,by rw[Option.map_some,Lp]⟩) (.inl ⟨rfl,rfl⟩) hle (AJ _) OB;have:=SR.wown (c:=c) (lo:=l) (sz:=P.cellsOf el) (q':=if r=an then p else p.map (·.add (an*P.cellsOf el))) (r:=r-an) k1 k2 d1 d4 (by omega) (λAH=>by
      rcases A1 with⟨_,Ck,_⟩|⟨g9,C,rfl,_⟩
      ·omega
      ·exact⟨g9,rfl,by rw[if_neg (by omega)];simp[Addr.add_lit],by simp⟩) .nil
     refine AB.pure h (v:=sliced p an m r (P.cellsOf el)) ?_ (by simpa[sliced]using this) rfl;rw[ex];show Result.andThen (Sem.run P (Instr.sliceAt t (.slice p m r) ((some ol).map a.eval) ((none:Option Operand).map a.eval) none) c.w) _=_;rw[AQ];rfl
    ·cases he
  ·rename_i el z dl g' ep c0 kE hl;split at he
   ·cases he
   rename_i AA;simp only[not_or,Decidable.not_not,ne_eq]at AA;obtain⟨rfl,rfl,rfl⟩:=AA;obtain⟨q1,q2,_,⟨p',cap',ys,kk,kv,e1,e2,e3,e4,e5,e6⟩,_⟩:=h.eh b _ (CJ hl h.gs);generalize hv:a.eval x=v at hx ex;cases hx with
   |own k1 k2 k3=>
    rename_i p m r;rw[k2]at e1;simp only[Value.slice.injEq]at e1;obtain⟨rfl,rfl,rfl⟩:=e1;split at he
    ·rename_i hb;split at he
     ·rename_i WY;rw[<-E.az c.ρ _ _ WY]at e3;simp only[Ad]at he;subst he;obtain⟨oh,JH,eB⟩:∃oh,hi=some oh/\BL sl0 [] oh=some (.e hb):=by
       rcases GY I4 with⟨_,hh⟩|⟨ol,sl',JG,Ot,Ou⟩
       ·cases hh
       ·cases Ou;exact⟨ol,JG,Ot⟩
      have B2:lo=none:=by
       rcases GY BH with⟨hh,_⟩|⟨_,_,_,_,hh⟩
       ·exact hh
       ·cases hh
      subst B2;subst JH;have Lp:=ival (h.cu eB (IA _ rfl)) e3;have AQ:=Vg (P:=P) (w:=c.w) (lo:=(none:Option Operand).map a.eval) (hi:=(some oh).map a.eval) hu Bn p ys.length r 0 kv (.inl ⟨rfl,rfl⟩) (.inr ⟨kk,by rw[Option.map_some,Lp]⟩) (Nat.zero_le _) e4 e5;have Dj:sliced p 0 kv r (P.cellsOf el)= .slice p kv r:=by
       obtain⟨_,_,⟨a9,h9,_⟩|⟨g9,cap,C,zs,N1,h9,_⟩⟩:=e6.inv
       ·simp only[Value.slice.injEq]at h9;obtain⟨rfl,_,rfl⟩:=h9;simp[sliced]
       ·simp only[Value.slice.injEq]at h9;obtain⟨rfl,_,_⟩:=h9;unfold sliced;split<;>simp[Addr.add_lit]
      rw[Dj]at AQ;have Dd:(execOp a.eval o).run P c.w= .ok (.value (.slice p kv r)) c.w:=by rw[ex];show Result.andThen (Sem.run P (Instr.sliceAt t (.slice p ys.length r) ((none:Option Operand).map a.eval) ((some oh).map a.eval) none) c.w) _=_;rw[AQ];rfl
      have ID:(E.win c0 (.int .i64 0) hb).den c.ρ= .sl (ys.take kv):=by simp only[E.den,e2,e3,AV.win];simp
      have Cj:Cr c [b]=(c.G b).top:=by simp[Cr]
      have B8:=h.rel.gw.nodup b;simp only[GI.own]at B8;exact AB.eo h (T:=[b]) (by simp) (by simpa using⟨_,q1⟩) Dd (Mod.refl _ _) (top:=(c.G b).top) (List.nodup_append.1 B8).1 (λq hq=>⟨.inl (by rw[Cj];exact hq),h.rel.gw.inb b q (by simp[GI.own,hq])⟩) (by rw[ID];exact e6)
     ·cases he
    ·cases he
  ·cases he
 ·cases he
theorem zxE{x y:Operand}{tx:TypeId}{cl:Call}(ho:o.op= .call cl)(Ax:cl.callee= .builtin .append)(CW:cl.args.toList=[x,y])(DR:cl.argTypes.toList=[tx,tx])
  {el:TypeId} (Bp:P.underlying tx=some (.slice el)) (hz:Hx P el=true) {l:List DT} (hl:l.length=P.cellsOf el) {TT:List Nat} (WV:TT.Nodup) (Ld:∀b∈TT,b<c.w.heap.size) {N2:List Nat} (N8:N2.Nodup) (Jw:∀b∈N2,b<c.w.heap.size) (Tn:∀b∈N2,b∉TT)
  {ys:List AV} {q:Option Addr} {r:Nat} {news:List Value} (Df:a.eval y= .slice q ys.length r) (De:Src c.w (P.cellsOf el) q ys.length news) (Oj:DC c.w (BJ ys.length l) news (Aq ys) N2) (Ja:∀y∈ys,y.cells.length=P.cellsOf el) (OC:∀u∈news,u.oneCell'=true)
  {X:AV} {v:Value} (hv:a.eval x=v) (AY:DC c.w [.row el (P.cellsOf el) (Az.of l)] [v] [X] TT) {xs:List AV} (hX:X= .sl xs) (MM:((xs.length:Int)+ys.length)*P.bytesOf el<=140737488355328) (Xa:(xs.length:Int)+ys.length<=140737488355328):
  ∃v' w' top,(execOp a.eval o).run P c.w= .ok (.value v') w'/\Mod TT c.w w'/\top.Nodup/\(∀b∈top,(b∈TT\/b∈N2\/c.w.heap.size<=b)/\b<w'.heap.size)/\DC w' [.row el (P.cellsOf el) (Az.of l)] [v'] [.sl (xs++ys)] top:=by
 have Ah:cl.args= #[x,y]:=by apply Array.ext';simp[CW]
 have FR:cl.argTypes= #[tx,tx]:=by apply Array.ext';simp[DR]
 obtain⟨i,z,hi,FO,CY,Bz,Co,E5⟩:=KO hz;obtain⟨d1,d2,A1⟩:=AY.inv;rw[Az.ax]at d2 A1;subst hX;obtain⟨old,N1,hold,Fx,cO,GR,CN,KC,N7⟩:∃(old:List Value) (N1:List Nat),old.length=xs.length*i.size/\((xs.length=0/\ ∃q,v= .slice q 0 0)\/ ∃g cap C,v= .slice (some ⟨g,0,none⟩) xs.length cap/\xs.length<=cap/\cap<=maxLen/\c.w.heap[g]?=some (.cells C el (0,0))/\C.size=cap*i.size/\old=C.toList.take (xs.length*i.size)/\(g∈TT/\g∉N1))/\
   DC c.w (BJ xs.length l) old (Aq xs) N1/\(∀y∈xs,y.cells.length=P.cellsOf el)/\(∀u∈old,u.oneCell'=true)/\(∀b∈N1,b∈TT)/\N1.Nodup:=by
  rcases A1 with⟨p,rfl,FC,rfl⟩|⟨g9,cap,C,xs',N1,rfl,FC,rfl,h6,h7,h8,h9,Fj,EE,FJ⟩
  ·cases FC;exact⟨[],[],by simp, .inl ⟨rfl,p,rfl⟩,by simpa[BJ,Aq]using DC.nil,by simp,by simp,by simp,by simp⟩
  ·cases FC;rw[List.nodup_cons]at WV;refine⟨_,N1,?_, .inr ⟨g9,cap,C,rfl,h7,h8,h6,by rw[<-Co];exact h9,rfl,by simp,WV.1⟩,by rw[<-Co];exact FJ,Fj,by rw[<-Co];exact EE,λb hb=>by simp[hb],WV.2⟩;have e9:C.toList.length=cap*i.size:=by rw[<-Co,<-h9];simp
   rw[Aw,e9];exact Nat.min_eq_left (Br _ h7)
 have Dy:(xs.length+ys.length)*i.bytes<=140737488355328:=by
  rw[E5]at MM;have h9:(((xs.length+ys.length)*i.bytes:Nat):Int)<=140737488355328:=by rw[Int.natCast_mul,Int.natCast_add];exact MM
  omega
 have F9:xs.length+ys.length<=140737488355328:=by omega
 rw[Co]at De;obtain⟨v',w',AQ,AO⟩:=SH (P:=P) c.w tx o.type el i z Bp hi FO CY Bz (λg9=>g9∈TT/\g9∉N1) v xs.length old hold Fx q ys.length r news De (by simp only[maxLen];omega) Dy;have Dd:(execOp a.eval o).run P c.w= .ok (.value v') w':=by simp[execOp,ho,resolve,Ax,Ah,FR,invoke,builtin,hv,Df,AQ]
 rcases AO with⟨rfl,rfl,Ck⟩|⟨g9,cap,C,rfl,h1,h2,h3,h4,h5,h6,h7⟩
 ·have HY:ys=[]:=List.eq_nil_of_length_eq_zero Ck;subst HY;refine⟨_,_,TT,Dd,Mod.refl _ _,WV,λb hb=>⟨.inl hb,Ld b hb⟩,?_⟩;rw[AE];exact AY
 ·have Iv:(g9∈TT\/c.w.heap.size<=g9)/\g9∉N1/\g9∉N2:=by
   rcases h7 with⟨rfl,_⟩|⟨hg,Cu⟩
   ·refine⟨.inr (AJ _),λhh=> ?_,λhh=> ?_⟩
    ·have:=Ld _ (KC _ hh);omega
    ·have:=Jw _ hh;omega
   ·exact⟨.inl hg,Cu,λhh=>Tn _ hh hg⟩
  have Bc:∀b∈N1++N2,w'.heap[b]?=c.w.heap[b]?:=λb hb=>by
   have AH:b<c.w.heap.size:=by
    rcases Ac.1 hb with hb|hb
    ·exact Ld b (KC b hb)
    ·exact Jw b hb
   refine h6.block b AH λhh=> ?_;cases hh;rcases Ac.1 hb with hb|hb
   ·exact Iv.2.1 hb
   ·exact Iv.2.2 hb
  refine⟨_,w',g9::(N1++N2),Dd,nX h6 λg hg=> ?_,?_,λb hb=> ?_,?_⟩
  ·cases hg;exact Iv.1
  ·refine List.nodup_cons.2 ⟨λhh=> ?_,List.nodup_append.2 ⟨N7,N8,λp hp q hq e=>Tn q hq (e▸KC p hp)⟩⟩;rcases Ac.1 hh with hh|hh
   ·exact Iv.2.1 hh
   ·exact Iv.2.2 hh
  ·rcases Ae.1 hb with rfl|hb
   ·exact⟨Iv.1.elim .inl λh=> .inr (.inr h),Dq h3⟩
   ·rcases Ac.1 hb with hb|hb
    ·exact⟨.inl (KC b hb),Nat.lt_of_lt_of_le (Ld b (KC b hb)) h6.size⟩
    ·exact⟨.inr (.inl hb),Nat.lt_of_lt_of_le (Jw b hb) h6.size⟩
  ·have hlen:(xs++ys).length=xs.length+ys.length:=AP;rw[Co]at d1 d2 GR Ja ⊢;have:=DC.row (w:=w') (e:=el) (z:=i.size) (l:=Az.of l) (g:=g9) (cap:=cap) (C:=C) (ys:=xs++ys) (N1:=N1++N2) (ts:=[]) (vs:=[]) (xs:=[]) (N:=[]) d1 (by rw[Az.ax];exact d2) h3 (by rw[hlen];exact h1) h2 h4 (λw hw=> ?_) (by
     rw[hlen,h5];intro u hu;rcases Ac.1 hu with hu|hu
     ·exact CN u hu
     ·exact OC u hu) (by
     rw[hlen,h5,VD,Nu,Az.ax];exact(cO.app Oj).frame Bc) .nil
   ·rw[hlen]at this;simpa using this
   ·rcases Ac.1 hw with hw|hw
    ·exact GR w hw
    ·exact Ja w hw
theorem zvb(h:BA P c n nx sl hp a sl0 hp0 o gs){x y:Operand}{tx ty:TypeId}{cl:Call}(ho:o.op= .call cl)(Ax:cl.callee= .builtin .append)(CW:cl.args.toList=[x,y])(DR:cl.argTypes.toList=[tx,ty])
  {s1 s2:SV} (BM:BL sl0 gs x=some s1) (A8:BL sl0 gs y=some s2) (he:Z4 P hp0 gs nx tx ty s1 s2=some e) (hc:∀q∈e.cc,Cn.den c.ρ q):AB P o c n nx sl hp gs a e:=by
 have Ah:cl.args= #[x,y]:=by apply Array.ext';simp[CW]
 have Dz:x∈o.op.operands:=by simp[ho,Op.operands,Call.operands,Ax,Ah]
 have CM:y∈o.op.operands:=by simp[ho,Op.operands,Call.operands,Ax,Ah]
 unfold Z4 at he;split at he
 ·cases he
 rename_i JX;have JX:tx=ty:=by simpa using JX
 subst JX;split at he
 ·rename_i el e' z dl t g2 b g lo z' Bp DJ;have JC:=Jg Bp;split at he
  ·cases he
  rename_i AA;simp only[not_or,Bg,Bool.not_eq_false,ne_eq,Decidable.not_not]at AA;obtain⟨hz,rfl,rfl,rfl,Xc⟩:=AA;obtain⟨_,_,l,JN,D2⟩:=Wa (ZJ Bp) DJ;simp only[DT.row.injEq,true_and]at JN;subst JN;rw[Az.ax]at he;have r1:=h.cu BM Dz;have r2:=h.cu A8 CM;split at he
  ·rename_i e2 z2 l2 g2' ep2 c2 e3 z3 l3 g3 ep c0 AH hlb;split at he
   ·rename_i hh;obtain⟨rfl,rfl,F9,rfl,rfl,rfl,Of,rfl⟩:=hh;have F9:=Az.er F9;have Of:=Az.er Of;subst F9;subst Of;simp only[Ad]at he;subst he;obtain⟨qt1,qt2,qt3,qt4,qt5⟩:=h.eh t _ (CJ AH h.gs);obtain⟨qb1,qb2,qb3,qb4,qb5⟩:=h.eh b _ (CJ hlb h.gs);obtain⟨ka,ai,kb,bi,mm,d1,d2,d3,d4,d5,d6⟩:Cn.den c.ρ (.win c0 lo (.len c0)):=hc _ (by simp);obtain⟨m1,m2,rr1,rr2,rr3,rr4⟩:Cn.den c.ρ (.room c2 (.win c0 lo (.len c0)) (P.bytesOf e3)):=hc _ (by simp);generalize hvx:a.eval x=v at r1;generalize hvy:a.eval y=v2 at r2;cases r1 with
    |own k1 k2 k3=>
     cases r2 with
     | @wown _ _ _ _ qq nn cap qq' r kk kI _ _ j1 j2 j3 j4 j5 j6 j7=>
      have htd:(c.G t).top.Nodup:=by have:=h.rel.gw.nodup t;simp only[GI.own]at this;exact(List.nodup_append.1 this).1
      have cE:(c.G b).top.Nodup:=by have:=h.rel.gw.nodup b;simp only[GI.own]at this;exact(List.nodup_append.1 this).1
      have eW:∀q∈(c.G t).top,q<c.w.heap.size:=λq hq=>h.rel.gw.inb t q (by simp[GI.own,hq]);have Li:∀q∈(c.G b).top,q<c.w.heap.size:=λq hq=>h.rel.gw.inb b q (by simp[GI.own,hq]);have I1:∀q∈(c.G b).top,q∉(c.G t).top:=λq hq GO=>h.rel.gw.cq b t (λe=>Xc e.symm) q (by simp[GI.own,hq]) (by simp[GI.own,GO]);obtain⟨z1,z2',A1⟩:=qb4.inv;rw[Az.ax]at z2' A1;obtain⟨an,rfl⟩:=Int.eq_ofNat_of_zero_le j4;obtain⟨ys,news,NB,Dp,Uq,De,Oj,Ja,OC,bR,topb,FA,Oa,eI⟩:∃(ys:List AV) (news:List Value) (NB:List Nat),(E.win c0 lo (.len c0)).den c.ρ= .sl ys/\ys.length=nn-an/\Src c.w (P.cellsOf e3) qq' ys.length news/\DC c.w (BJ ys.length l3) news (Aq ys) NB/\(∀y∈ys,y.cells.length=P.cellsOf e3)/\(∀u∈news,u.oneCell'=true)/\(∀q∈NB,q∈(c.G b).top)/\
        ∃topb:List Nat,(∀q∈topb,q∈(c.G b).top)/\(topb++NB).Nodup/\ ∀w':World,(∀q∈topb,w'.heap[q]?=c.w.heap[q]?)-> ∃(p:Option Addr) (cp:Nat) (zs:List AV),c.H b g= .slice p zs.length cp/\c0.den c.ρ= .sl zs/\an<=zs.length/\zs.length<=cp/\DC w' [.row e3 (P.cellsOf e3) (Az.of l3)] [.slice p an cp] [.sl (zs.take an)] topb:=by
       rcases A1 with⟨a9,hH,FC,MS⟩|⟨g9,cp,C,zs,N1,hH,FC,MS,h6,h7,h8,h9,Fj,EE,FJ⟩
       ·rw[j2]at hH;simp only[Value.slice.injEq]at hH;obtain⟨rfl,rfl,rfl⟩:=hH;have ha0:an=0:=by omega
        subst ha0;have MW:(E.win c0 lo (.len c0)).den c.ρ= .sl []:=by simp only[E.den,FC,j3,AV.win,AV.len];simp
        refine⟨[],[],[],MW,by simp,?_,by simpa[BJ,Aq]using DC.nil,by simp,by simp,by simp,[],by simp,by simp,λw' _=>⟨qq,0,[],by rw[j2];rfl,FC,by simp,by simp, .void z1 (by rw[Az.ax];exact z2') .nil⟩⟩;cases qq' with
        |none=>exact .inl ⟨rfl,rfl,rfl⟩
        |some ad=>exact .inr ⟨ad,rfl,by simp,by simp,by simp⟩
       ·rw[j2]at hH;simp only[Value.slice.injEq]at hH;obtain⟨rfl,rfl,rfl⟩:=hH;have hle:an<=zs.length:=by omega
        obtain⟨NA,NB,hN,c1,c2'⟩:=FJ.ma z2' Fj hle;have hmul:=Br (P.cellsOf e3) hle;have ES:=Br (P.cellsOf e3) h7;have DF:C.toList.length=cap*P.cellsOf e3:=by simpa using h9
        have MW:(E.win c0 lo (.len c0)).den c.ρ= .sl (zs.drop an):=by simp only[E.den,FC,j3,AV.win,AV.len];simp
        have Oi:(zs.drop an).length=zs.length-an:=BD;rw[MS]at cE;rw[hN]at cE;refine⟨zs.drop an,(C.toList.take (zs.length*P.cellsOf e3)).drop (an*P.cellsOf e3),NB,MW,Oi,?_,by rw[Oi];exact c2',λy hy=>Fj y (BO hy),λu hu=>EE u (BO hu),λq hq=>by rw[MS,hN];simp[hq],g9::NA,λq hq=>by rw[MS,hN];rcases Ae.1 hq with rfl|hq<;>simp_all,by simpa using cE,λw' rZ=>⟨some ⟨g9,0,none⟩,cap,zs,by rw[j2],FC,hle,h7,?_⟩⟩
        ·rw[Oi];by_cases AH:an<zs.length
         ·obtain⟨b9,P7,GO,_⟩:=j6 (by omega);cases P7;subst GO;refine .inr ⟨_,rfl,?_,λj u hj=> ?_,λu hu=>EE u (BO hu)⟩
          ·rw[BD,Aw,DF,Nat.min_eq_left ES,Nat.sub_mul]
          ·rw[Addr.add_lit,EA h6];rw[List.getElem?_drop,List.getElem?_take]at hj;split at hj
           ·rw[Array.getElem?_toList]at hj;simpa using hj
           ·cases hj
         ·have:zs.length-an=0:=by omega
          rw[this];have e0:(C.toList.take (zs.length*P.cellsOf e3)).drop (an*P.cellsOf e3)=[]:=by
           apply List.drop_eq_nil_of_le;rw[Aw];have:zs.length=an:=by omega
           rw[this];omega
          rw[e0];cases qq' with
          |none=>exact .inl ⟨rfl,rfl,rfl⟩
          |some ad=>exact .inr ⟨ad,rfl,by simp,by simp,by simp⟩
        ·have Iy:(zs.take an).length=an:=by rw[Aw];omega
         have e5:C.toList.take (an*P.cellsOf e3)=(C.toList.take (zs.length*P.cellsOf e3)).take (an*P.cellsOf e3):=by rw[List.take_take,Nat.min_eq_left hmul]
         have:=DC.row (w:=w') (e:=e3) (z:=P.cellsOf e3) (l:=Az.of l3) (g:=g9) (cap:=cap) (C:=C) (ys:=zs.take an) (N1:=NA) (ts:=[]) (vs:=[]) (xs:=[]) (N:=[]) z1 (by rw[Az.ax];exact z2') (by rw[rZ g9 (by simp)];exact h6) (by rw[Iy];omega) h8 h9 (λy hy=>Fj y (Bt hy)) (by
           rw[Iy,e5];intro u hu;exact EE u (Bt hu)) (by
           rw[Iy,e5,Az.ax];exact c1.frame λq hq=>rZ q (by simp[hq])) .nil
         rw[Iy]at this;simpa using this
      have bS:NB.Nodup:=(List.nodup_append.1 Oa).2.1;obtain⟨xs,Cl⟩:∃xs,c2.den c.ρ= .sl xs:=by
       obtain⟨_,_,⟨_,_,hh,_⟩|⟨_,_,_,zs,_,_,hh,_⟩⟩:=qt4.inv
       ·exact⟨_,hh⟩
       ·exact⟨_,hh⟩
      have rJ:(nn:Int)-(an:Int)=(ys.length:Int):=by omega
      rw[Cl]at rr1;rw[Dp]at rr2;simp only[AV.len,AV.int.injEq,true_and]at rr1 rr2;have Df:a.eval y= .slice qq' ys.length r:=by rw[hvy];congr 1;omega
      obtain⟨v',w',top,AQ,Bq,Uj,EX,I2⟩:=zxE (c:=c) (o:=o) (a:=a) ho Ax CW DR JC hz D2 htd eW bS (λq hq=>Li q (bR q hq)) (λq hq=>I1 q (bR q hq)) Df De Oj Ja OC hvx (by rw[<-k2];exact qt4) Cl (by rw[rr1,rr2];exact rr3) (by rw[rr1,rr2];exact rr4);have Lf:(E.app c2 (.win c0 lo (.len c0))).den c.ρ= .sl (xs++ys):=by have:(E.app c2 (.win c0 lo (.len c0))).den c.ρ=AV.app (c2.den c.ρ) ((E.win c0 lo (.len c0)).den c.ρ):=rfl;rw[this,Cl,Dp];rfl
      have qV:=h.rel.bq _ _ qt1;have cB:=h.rel.bq _ _ qb1;have P6:=Nr h;have Ek:nx≠t:=λe=>P6 (e▸qV);have IB:nx≠b:=λe=>P6 (e▸cB);obtain⟨recs,A2⟩:∃recs:List AW,recs=[⟨nx,some v',top, .deep e3 (P.cellsOf e3) l3 0 0 (.app c2 (.win c0 lo (.len c0)))⟩,⟨b,none,topb, .pre e3 (P.cellsOf e3) l3 g (ep+1) c0 lo⟩,⟨t,none,[], .dead⟩]:=⟨_,rfl⟩
      have Ei:∀r∈recs,r=⟨nx,some v',top, .deep e3 (P.cellsOf e3) l3 0 0 (.app c2 (.win c0 lo (.len c0)))⟩\/r=⟨b,none,topb, .pre e3 (P.cellsOf e3) l3 g (ep+1) c0 lo⟩\/r=⟨t,none,[], .dead⟩:=λr hr=>by rw[A2]at hr;simpa using hr
      have hn:(recs.map AW.tag).Nodup:=by rw[A2];simp[Ek,IB];exact λe=>Xc e.symm
      have Ba:∀r∈recs,r.new.isSome=true-> ¬c.U r.tag:=λr hr hs=>by
       rcases Ei r hr with rfl|rfl|rfl
       ·exact P6
       ·cases hs
       ·cases hs
      have aft:=Cx.df (w':=w') h.rel.bq hn Ba;have Lq:(⟨nx,some v',top, .deep e3 (P.cellsOf e3) l3 0 0 (.app c2 (.win c0 lo (.len c0)))⟩:AW)∈recs:=by rw[A2];simp
      have OA:(⟨b,none,topb, .pre e3 (P.cellsOf e3) l3 g (ep+1) c0 lo⟩:AW)∈recs:=by rw[A2];simp
      have TY:(⟨t,none,[], .dead⟩:AW)∈recs:=by rw[A2];simp
      have OM:∀q∈topb,q∉NB:=λq hq GO=>(List.nodup_append.1 Oa).2.2 q hq q GO rfl;obtain⟨q1,q2⟩:=h.rel.changes (recs:=recs) (gs:=[]) (hs:=(c.G t).top++(c.G b).top) (E1 _) (Bq.weaken λq hq=> .inl (by simp[hq])) hn Ba (λq hq=>by
        rcases Ac.1 hq with hq|hq
        ·exact⟨_,TY,hq⟩
        ·exact⟨_,OA,hq⟩)
       (by
        rw[A2];simp only[List.flatMap_cons,List.flatMap_nil,AE];refine List.nodup_append.2 ⟨Uj,(List.nodup_append.1 Oa).1,λp hp q hq e=> ?_⟩;subst e;rcases(EX p hp).1 with hh|hh|hh
        ·exact I1 p (FA p hq) hh
        ·exact OM p hq hh
        ·have:=Li p (FA p hq);omega)
       (λr hr q hq=>by
        rcases Ei r hr with rfl|rfl|rfl
        ·obtain⟨k1',k2'⟩:=EX q hq;refine⟨?_,k2'⟩;rcases k1' with hh|hh|hh
         ·exact .inl (by simp[hh])
         ·exact .inl (by simp[bR q hh])
         ·exact .inr hh
        ·exact⟨.inl (by simp[FA q hq]),Nat.lt_of_lt_of_le (Li q (FA q hq)) Bq.size⟩
        ·cases hq)
       (λr hr=>by rcases Ei r hr with rfl|rfl|rfl<;>(intros;simp))
       (λhk r hr=>by
        rcases Ei r hr with rfl|rfl|rfl
        ·obtain⟨k1',k2',k3'⟩:=aft.new _ Lq v' rfl;have kg:=aft.G _ Lq;have ke:=aft.ie _ Lq rfl;simp only at k1' k2' k3' kg ke;exact⟨k1',k2',ke,by rw[k3',kg,aft.w,aft.ρ,Lf];exact I2,by rw[kg]⟩
        ·have kg:=aft.G _ OA;have ke:=aft.fy _ OA rfl;obtain⟨k1',k2'⟩:=aft.K b g qb1;simp only at kg ke;obtain⟨p,cp,zs,f1,f2,f3,f4,f5⟩:=eI w' λq hq=>Bq.block q (Li q (FA q hq)) (I1 q (FA q hq));refine⟨k1',λg' Cu=>qb2 g' (aft.old b cB g' Cu),by rw[ke,qb3],⟨p,cp,zs,kk,an,by rw[k2'];exact f1,by rw[aft.ρ];exact f2,by rw[aft.ρ];exact j3,f3,f4,by rw[aft.w,kg];exact f5⟩,by rw[kg]⟩
        ·have kg:=aft.G _ TY;exact⟨by rw[kg],by rw[kg]⟩)
      intro next Q hk
      unfold Oper.wp;rw[AQ,Oper.upon_value];obtain⟨k1',k2',k3'⟩:=aft.new _ Lq v' rfl;simp only at k1' k3';obtain⟨p,m,r,rfl⟩:=I2.head;have T8:(recs.map λr=>(r.tag,CS [] r.bk))=(nx, .deep e3 (P.cellsOf e3) l3 0 0 (.app c2 (.win c0 lo (.len c0))))::(b, .pre e3 (P.cellsOf e3) l3 g (ep+1) c0 lo)::Et [t]:=by rw[A2];simp[CS,Et]
      rw[T8]at q1;refine hk _ (c.dh w' _) ⟨rfl,rfl,rfl,rfl,λu hu=> ?_⟩ (q1.put (SR.own k1' k3' .nil) o.dst);rcases hu with hu|⟨r,hr,rfl⟩
      ·exact .inl hu
      ·rcases Ei r hr with rfl|rfl|rfl
       ·exact .inr ⟨AJ _,by simp[BV]⟩
       ·exact .inl cB
       ·exact .inl qV
   ·cases he
  ·cases he
 ·cases he
end
section
variable {P:Program} {c:Cx} {n nx:Nat} {sl sl0:Nat->SV} {hp hp0:Nat->Option Af} {a:Act} {o:Oper} {gs:Gd} {e:Bb} {sg:B1} {nv:Nat}
theorem pP{w:World}:∀(vs:List Value) {xs:List AV} {f:List Nat} (ts:List TypeId),Rd w vs xs f->ts.length<=vs.length->DO P w ts [] [] vs xs f [] []
 | [],xs,f,ts,h,hl=>by have:ts=[]:=List.eq_nil_of_length_eq_zero (by simpa using hl);subst this;cases h;exact .nil
 |v::vs,[],f,ts,h,hl=>by have:=h.len;simp at this
 |v::vs,x::xs,f,ts,h,hl=>by
  obtain⟨f1,f2,rfl,h1,h2⟩:=h.cf;cases ts with
  |nil=>exact .free h1 (pP vs [] h2 (by simp))
  |cons t ts=>exact DO.cons (h:=[]) ⟨h1,rfl⟩ (pP vs ts h2 (by simpa using hl))
theorem zEL(l:EL):EL.of (SB.go l)=l:=by
 induction l using EL.rec (motive_1:=λ_=>True)with
 |nil=>rfl
 |cons e es _ ih=>simp[SB.go,EL.of,ih]
 |_=>trivial
theorem zCX{w:World}{ts:List TypeId}{vs:List Value}{Bs:List AV}{f o:List Nat}(h:DN P w ts [] vs Bs f o):Bs=[]:=by
 have key:∀(ts:List TypeId),BK ts []=false:=by
  intro ts
  induction ts with
  |nil=>rfl
  |cons t ts ih=>simp only[BK,List.headD_nil,Bool.false_or,List.tail_nil];exact ih
 exact(mC h).2 (key ts)
theorem zA2(t:TypeId):F6 P t []=false:=by simp[F6]
theorem wY(h:BA P c n nx sl hp a sl0 hp0 o gs){cl:Call}{fo:Operand}(ho:o.op= .call cl)(Ax:cl.callee= .value fo){y:E}{sf:SV}(hf:BL sl0 gs fo=some sf)(hsf:∀v,SR c [sf] [v]-> ∃f,Rd c.w [v] [y.den c.ρ] f){as_:List SV}(has:cl.args.toList.mapM (BL sl0 gs)=some as_){t:TypeId}
  (he:SB P hp0 gs nv t y as_=some e) (Bm:∀c',e.call=some c'-> ∃r,c.ρ[nv]?=some r/\IN (Cm P sg) c'.fn ((EL.of c'.args).den c.ρ) c.ρ r):AB P o c n nx sl hp gs a e:=by
 have dQ:fo∈o.op.operands:=by simp[ho,Op.operands,Call.operands,Ax]
 have dP:∀x∈cl.args.toList,x∈o.op.operands:=λx hx=>by
  have:x∈cl.args:=by simpa using hx
  simp[ho,Op.operands,Call.operands,Ax,this]
 have MO:=h.cu hf dQ;have Ah:=zZ (a:=a) (λx hx s hs=>h.cu hs (dP x hx)) has;unfold SB at he;split at he
 ·cases he
 split at he
 ·cases he
 rename_i es It;simp only[Ad]at he;subst he;obtain⟨r,hr,g,caps,hy,HX,E8⟩:=Bm _ rfl;rw[zEL]at HX;obtain⟨f1,p1,p2⟩:=Sx h.eh h.gs A6 It Ah A6 (AJ _);generalize cV:a.eval fo=fv at MO;obtain⟨_,k1⟩:=hsf _ MO;obtain⟨capv,f2,rfl,P9⟩:∃capv f2,fv= .func (.func g) #[] capv.toArray/\Rd c.w capv caps f2:=by
  rw[hy]at k1;cases k1 with
  |fn q1 _=>exact⟨_,_,rfl,q1⟩
 have OJ:Te P {b8:=[],res:=[]} g (es.den c.ρ++caps) r:=by unfold Cm at HX;rw[if_neg (by omega)]at HX;simpa using HX
 obtain⟨fn,Iu,D8,Gh,_,hlen,_,FM⟩:=OJ;have Db:=p1.app P9;have En:=Db.len;have Bm:=FM c.w _ _ [] [] (pP _ (fn.params.toList++ []) Db (by rw[En,hlen,AE,BC];omega)) (by simp) (by simp) (by simp) (h.rel.l0 (by simp));have ex:(execOp a.eval o).run P c.w= .ok (.enter g (cl.args.map a.eval++capv.toArray)) c.w:=by
  have hb:fn.body.isNone=false:=by simpa using D8
  simp only[execOp,ho,resolve,Ax,cV,Deferred.ofValue,Sem.run_bind,Sem.run_pure,Result.andThen_ok,invoke,callFunc,run_program,Iu];simp[Gh,hb]
 intro next Q hk
 unfold Oper.wp;rw[ex,Oper.upon_enter];have Oe:cl.args.map a.eval++capv.toArray=((cl.args.toList.map a.eval)++capv).toArray:=by apply Array.ext';simp
 rw[Oe];refine Bm.mono ?_;rintro e' w' ⟨v,rfl,⟨R,Bs,f1',o1,f2',o2,Lx,AO,Ft,Hi,T6,TK⟩,Bq⟩;show next (a.put o.dst v) w'
 have N5:=zCX Ft;subst N5;simp only at Lx;subst Lx;have hv:Rd w' [v] [r] []:=by
  unfold KJ at AO;split at AO
  ·rename_i t' ht;unfold D7 at AO;rw[if_neg (by rw[zA2];simp)]at AO;have:=wX AO.1 E8;subst this;exact AO.1
  ·obtain⟨vs,ys,_,rfl,_⟩:=AO;have:=E8 (.tup ys) (by simp[AV.cells]);simp[AV.scalar]at this
 obtain⟨Fv,_⟩:=h.rel.changes (w':=w') (recs:=[]) (hs:=[]) (gs:=gs) h.gs Bq (by simp) (by simp) (by simp) (by simp) (by simp) (by simp) (by simp);refine hk _ (c.dh w' []) ⟨rfl,rfl,rfl,rfl,λt ht=> ?_⟩ (Fv.put (SR.mkGd (.e (f:=[]) ?_ (by simp) .nil) gs h.gs) o.dst)
 ·rcases ht with ht|⟨r,hr,_⟩
  ·exact .inl ht
  ·simp at hr
 ·show Rd w' [v] [(E.var nv).den c.ρ] [];simp only[E.den,hr,Dg];exact hv
theorem fR(JV:∀f s,sg f=some s->f<1000000)(h:BA P c n nx sl hp a sl0 hp0 o gs)(he:BW P sg sl0 hp0 nv nx gs o=some e)
  (hc:∀q∈e.cc,q.den c.ρ) (Bm:∀cl,e.call=some cl-> ∃r,c.ρ[nv]?=some r/\IN (Cm P sg) cl.fn ((EL.of cl.args).den c.ρ) c.ρ r) (C5:∀x,e.ca=some x->c.ρ[nv]?=some (.bool (KZ a o))):AB P o c n nx sl hp gs a e:=by
 have Ll:=he;cases AU:o.op with
 |move x=>simp only[BW,AU,As]at he;obtain⟨s,hs,rfl⟩:=he;exact zO h (.inl AU) hs
 |assign x=>simp only[BW,AU,As]at he;obtain⟨s,hs,rfl⟩:=he;exact zO h (.inr AU) hs
 |pick x y z=>exact zAe h AU he hc
 |alloc t=>exact zzf h AU he hc
 |box t x=>exact zDE h AU he hc
 |build t parts=>exact zyZ h AU he hc
 |buildSlice t m parts=>
  simp only[BW,AU,Av]at he;obtain⟨ps,ML,he⟩:=he;split at he
  ·exact zst h AU ML he hc
  ·exact zqo h AU ML he hc
 |load t x=>exact zBf h AU he hc
 |nilCheck x=>exact zub h AU he hc
 |makeSlice t l m=>
  simp only[BW,AU,Av]at he;obtain⟨s1,BM,s2,A8,he⟩:=he;split at he
  ·exact zu7 h AU BM A8 he hc
  ·exact zzp h AU BM A8 he hc
 |slice t x lo hi mx=>
  simp only[BW,AU,Av]at he;obtain⟨s,hs,l',BH,h',I4,m',CX,he⟩:=he;split at he
  ·exact zwR h AU hs BH I4 CX he hc
  split at he
  ·exact zve h AU hs BH I4 CX he hc
  ·exact zxJ h AU hs BH I4 CX he hc
 |fieldAddr t x f=>exact zsx h AU he hc
 |field t x f=>exact zzx h AU he hc
 |extract x i=>exact zwp h AU he hc
 |store t x y=>
  simp only[BW,AU,Av]at he;obtain⟨p,hp',v,hv,he⟩:=he;cases p with
  |cj b k=>exact zuT h AU hp' hv he hc
  |cr b g i sz k=>
   by_cases AY:∃e z g c d,Di hp0 gs b=some (.row e z g c d)
   ·exact zue h AU AY hp' hv he hc
   ·exact zsT h AU AY hp' hv he hc
  |_=>simp[Ns]at he
 |binOp op t x y ty=>
  cases hu:P.underlying t with
  |none=>simp only[BW,AU,Av]at he;obtain⟨_,_,_,_,he⟩:=he;simp[SX,hu]at he
  |some d=>
   by_cases Ug:∃fs,d= .struct fs
   ·obtain⟨fs,rfl⟩:=Ug;exact zDn h AU hu he hc
   ·have MJ:∀fs,P.underlying t≠some (.struct fs):=λfs hh=>Ug ⟨fs,by rw[hu]at hh;cases hh;rfl⟩;cases hq:e.ca with
    |none=>exact zCF h AU MJ he hq hc
    |some x'=>
     have Gl:=C5 x' hq;simp only[BW,AU,Av]at he;obtain⟨s1,BM,s2,A8,he⟩:=he;have r1:=h.cu BM (by simp[AU,Op.operands]);have r2:=h.cu A8 (by simp[AU,Op.operands]);unfold SX at he;split at he
     ·rename_i el FT;have Dj:∀xq,BB hp0 gs A6 s1=some xq->Cn.den c.ρ (.dfd (.len xq))-> ∃p q r,a.eval x= .slice p q r:=by
       intro xq J0 hd;obtain⟨f,q1,_⟩:=h.jj BM (by simp[AU,Op.operands]) J0;have hd:(xq.den c.ρ).len≠ .undef:=hd;cases BN:xq.den c.ρ<;>simp only[BN,AV.len,ne_eq,not_true_eq_false]at hd;rename_i xs;have hl:(xq.den c.ρ).len= .int .i64 (xs.length:Int):=by rw[BN];rfl
       rcases Sw q1 hl with⟨p,q,hv,Ck⟩|⟨b,o',k,q,hv,Ck⟩
       ·exact⟨_,_,_,hv⟩
       ·exact⟨_,_,_,hv⟩
      split at he
      ·simp at he;subst he;cases hq
      ·simp at he;subst he;cases hq
      ·obtain⟨xq,J0,rfl⟩:=As.1 he;obtain⟨p,q,r,hv⟩:=Dj xq J0 (hc _ (by simp));exact z8 h AU FT hv r2 (.inl rfl) Gl _
      ·obtain⟨xq,J0,rfl⟩:=As.1 he;obtain⟨p,q,r,hv⟩:=Dj xq J0 (hc _ (by simp));exact z8 h AU FT hv r2 (.inr rfl) Gl _
      ·cases he
     ·split at he
      ·simp at he;subst he;cases hq
      ·cases he
     ·split at he
      ·simp at he;subst he;cases hq
      ·cases he
     ·split at he
      ·simp at he;subst he;cases hq
      ·cases he
     ·rename_i fs FT;exact absurd FT (MJ fs)
     ·cases he
 |unOp u t x=>
  cases u with
  |not=>exact zDv h AU he hc
  |neg=>exact zDJ h AU he hc
  |_=>simp[BW,AU]at he
 |convert src dst x=>
  have Mx:=he;simp only[BW,AU,Av]at Mx;obtain⟨s,_,Mx⟩:=Mx;unfold Wn at Mx;split at Mx
  ·rename_i k0 k h1 h2;exact zwd h AU h1 h2 he hc
  ·rename_i h1 h2;exact zvJ h AU h1 h2 he hc
  ·rename_i el h1 h2;exact zuv h AU h1 h2 he hc
  ·cases Mx
 |makeFunc fr fst caps=>
  cases fr with
  |func f=>exact zuP h AU he
  |_=>simp[BW,AU]at he
 |indexAddr t x i=>refine zsM h AU (λhu=> ?_) he hc;simp only[BW,AU,Av]at he;obtain⟨_,_,_,_,he⟩:=he;simp[XD,hu]at he
 |index t x i=>
  refine zwb h AU ?_ he hc;simp only[BW,AU,Av]at he;obtain⟨_,_,_,_,he⟩:=he;split at he
  ·rename_i Em;unfold XD at Em;split at Em
   ·assumption
   ·cases Em
  ·cases he
 |call cl=>
  simp only[BW,AU]at he;cases Ax:cl.callee with
  |invoke r m=>rw[Ax]at he;simp at he
  |value f=>
   rw[Ax]at he;simp only[Av]at he;obtain⟨s,hs,as_,has,he⟩:=he;cases s with
   |fn g caps=>
    have he:Wk P sg hp0 gs nv nx g (as_++caps.toList)=some e:=he;refine zBd h AU Ax hs has ?_ he Bm;unfold Wk at he;split at he
    ·rename_i fn sg' Iu hh;exact JV g sg' hh
    ·cases he
   |e y=>exact wY h AU Ax hs (λv hv=>by cases hv with|e k1 _ _=>exact⟨_,k1⟩) has he Bm
   |lent i=>exact wY h AU Ax hs (λv hv=>by
     cases hv with
     |lent g1 _=>obtain⟨f,p1,p2⟩:=h.rel.base.lo _ _ g1;exact⟨f,p1.frame λb hb=>h.rel.base.block b (p1.inb b hb) (p2 b hb)⟩) has he Bm
   |_=>simp at he
  |builtin b=>
   rw[Ax]at he;cases b with
   |len=>
    simp only at he;split at he
    ·rename_i x tx CW DR;exact zC0 h AU Ax CW DR Ll hc
    ·cases he
   |append=>
    simp only at he;split at he
    ·rename_i x y tx ty CW DR;simp only[Av]at he;obtain⟨s1,BM,s2,A8,he⟩:=he;split at he
     ·exact zvb h AU Ax CW DR BM A8 he hc
     split at he
     ·exact zr5 h AU Ax CW DR BM A8 he hc
     ·exact zvr h AU Ax CW DR BM A8 he hc
    ·cases he
   |clear=>
    simp only at he;split at he
    ·rename_i x tx CW DR;simp only[Av]at he;obtain⟨s,hs,he⟩:=he;exact zyY h AU Ax CW DR hs he hc
    ·cases he
   |max=>
    simp only at he;split at he
    ·rename_i x y CW;simp only[Av]at he;obtain⟨s1,BM,s2,A8,he⟩:=he;exact xG h AU (.inl ⟨rfl,Ax⟩) CW BM A8 he hc
    ·cases he
   |min=>
    simp only at he;split at he
    ·rename_i x y CW;simp only[Av]at he;obtain⟨s1,BM,s2,A8,he⟩:=he;exact xG h AU (.inr ⟨rfl,Ax⟩) CW BM A8 he hc
    ·cases he
   |_=>simp at he
 |_=>simp[BW,AU]at he
end
end
end Go.Proofs.YtalagilebkaegaaGreat

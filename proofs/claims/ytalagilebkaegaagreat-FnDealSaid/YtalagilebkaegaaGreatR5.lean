/- Parts of a proof, joined: WP, WQ, WR, WRa, WRb, WRc, WRd, WRe, WRf, WS. -/
import Derived.Test.YtalagilebkaegaaGreatR4
set_option linter.unusedVariables false
set_option linter.unusedSimpArgs false
namespace Go.Proofs.YtalagilebkaegaaGreat
open Go.RowKit
section
section
variable {P:Program} {c:Cx} {hp:Nat->Option Af} {gs:Gd}
theorem xW(hb:QD c)(eh:EH c hp)(k:BA c.ρ gs)(hU:∀t g,c.K t g->c.U t):∀(ss:List SV) {ts:List TypeId} {ms:List PM} {lo:List Bool} {es:List E} {bs:List PA} {us uz:List Nat} {vs:List Value},UG P hp gs ts ms lo ss=some (es,bs,us,uz)->SR c ss vs->ts.length<=ss.length->
  ∃rf lf hs,DV P c.w ts ms lo vs (es.map (E.den c.ρ)) rf lf hs/\(∀b∈rf,c.ei us b)/\(∀b∈lf,c.ei uz b\/b<c.w0.heap.size/\ ¬c.Mu b)/\hs=(DS bs).flatMap (λt=>(c.G t).top)/\Jp P c ts ms vs bs/\(∀u∈DS bs,c.U u)/\(bs≠ []->gs=[])
 | [],ts,ms,lo,es,bs,us,uz,vs,h,hs,hl=>by simp[UG]at h;obtain⟨rfl,rfl,rfl,rfl⟩:=h;cases hs;have:ts=[]:=List.eq_nil_of_length_eq_zero (by simpa using hl);subst this;exact⟨[],[],[], .nil,by simp,by simp,by simp[DS], .nil,by simp[DS],by simp⟩
 |s::ss,ts,ms,lo,es,bs,us,uz,[],h,hs,hl=>by have:=hs.len;simp at this
 |s::ss,ts,ms,lo,es,bs,us,uz,v::vs,h,hs,hl=>by
  obtain⟨r1,r2⟩:=hs.cr;unfold UG at h;split at h
  ·cases h
  rename_i ys bs' us' uz' Dw;obtain⟨rf,lf,A9,q1,q2,qz,q3,q4,q5,q6⟩:=xW hb eh k hU ss Dw r2 (by simp at hl ⊢;omega);have see1:∀{a b:List Nat} {x:Nat},c.ei a x->c.ei (a++b) x:=λh=>h.mono λt ht=>by simp[ht]
  have see2:∀{a b:List Nat} {x:Nat},c.ei b x->c.ei (a++b) x:=λh=>h.mono λt ht=>by simp[ht]
  split at h
  ·rename_i hm;split at h
   ·rename_i BT;simp only[Ab,Bc]at BT;obtain⟨t,ts,rfl⟩:∃t ts',ts=t::ts':=by
     cases ts with
     |nil=>simp at BT
     |cons t ts=>exact⟨t,ts,rfl⟩
    split at h
    ·rename_i i;simp only[Ad,AY]at h;obtain⟨rfl,rfl,rfl,rfl⟩:=h;cases r1 with
     |lent g1 _=>obtain⟨f,p1,p2⟩:=hb.lo _ _ g1;have hw:Rd c.w [v] [(E.var i).den c.ρ] f:=p1.frame λb Cl=>hb.block b (p1.inb b Cl) (p2 b Cl);exact⟨rf,f++lf,A9, .lent BT.1 hm hw q1,q2,λb Cl=>(Ac.1 Cl).elim (λCl=> .inr ⟨p1.inb b Cl,p2 b Cl⟩) (qz b),q3, .ro hm q4,q5,q6⟩
    ·obtain⟨x,hx,hh⟩:=As.1 h;simp only[AY]at hh;obtain⟨rfl,rfl,rfl,rfl⟩:=hh;obtain⟨f,p1,p2⟩:=Ig eh k A8 hx r1 A8 (AN _);exact⟨rf,f++lf,A9, .lent BT.1 hm p1 q1,q2,λb Cl=>(Ac.1 Cl).elim (λCl=> .inl (see1 (p2 b Cl))) (λCl=>(qz b Cl).imp see2 id),q3, .ro hm q4,q5,q6⟩
   obtain⟨x,hx,hh⟩:=As.1 h;simp only[AY]at hh;obtain⟨rfl,rfl,rfl,rfl⟩:=hh;obtain⟨f,p1,p2⟩:=Ig eh k A8 hx r1 A8 (AN _);have hb:∀b∈f++rf,c.ei (Cb hp gs (A8+1) [s]++us') b:=λb hb=>by
    rcases Ac.1 hb with hb|hb
    ·exact see1 (p2 b hb)
    ·exact see2 (q2 b hb)
   cases ts with
   |nil=>exact⟨f++rf,lf,A9, .free p1 q1,hb,qz,q3, .ro hm q4,q5,q6⟩
   |cons t ts=>exact⟨f++rf,lf,[]++A9, .cons (by rw[hm];exact⟨p1,rfl⟩) q1,hb,qz,q3, .ro hm q4,q5,q6⟩
  ·rename_i own own' hm;split at h
   ·rename_i ty T Bv;split at h
    ·rename_i ty' g cs II;split at h
     ·cases h
     rename_i BB;have BB:ty'=ty:=by simpa using BB
     subst BB;split at h
     ·rename_i xs rs vs' Cs Fy;simp only[Ad,AY]at h;obtain⟨rfl,rfl,rfl,rfl⟩:=h;obtain⟨t,ts,rfl,Ev⟩:∃t ts',ts=t::ts'/\KU P t=some ty':=by
       cases ts with
       |nil=>simp at Bv
       |cons t ts=>exact⟨t,ts,rfl,by simpa using Bv⟩
      obtain⟨b,C,g1,g2,g3,g4,g5,g6,g7⟩:=eh T _ (CP II k);obtain⟨f,h8,p1,p2,p3,p4,p5⟩:=jV (P:=P) eh k hU (Bf P ty') Fy g7 Cs (AN _);have hv:v= .pointer (some ⟨b,0,none⟩):=by
       cases r1 with
       |cw k1 k2 _=>rw[g2]at k2;cases k2;rfl
      refine⟨f++rf,lf,(b::h8)++A9, .cons ?_ q1,λx hx=> ?_,qz,by simp[DS,p3,q3,g3], .bx hm Ev hv g1 (by rw[g2,hv]) p5 q4,λu hu=> ?_,λ_=>rfl⟩
      ·rw[hm];exact⟨ty',b,C,xs.den c.ρ,h8,Ev,hv,g5,g6,rfl,p1,rfl⟩
      ·rcases Ac.1 hx with hx|hx
       ·exact see1 (p2 x hx)
       ·exact see2 (q2 x hx)
      ·simp only[DS,List.cons_append,Ae,Ac]at hu;rcases hu with rfl|hu|hu
       ·exact hU _ _ g1
       ·exact p5 u hu
       ·exact q5 u hu
     ·cases h
    ·cases h
   ·cases h
  ·rename_i own hm;split at h
   ·rename_i t x Bv hx;split at h
    ·cases h
    rename_i AK;have AK:(Ic s).2=Am P t:=by simpa using AK
    split at h
    ·rename_i rs vs' Fy;simp only[Ad,AY]at h;obtain⟨rfl,rfl,rfl,rfl⟩:=h;obtain⟨ts,rfl⟩:∃ts',ts=t::ts':=by
      cases ts with
      |nil=>simp at Bv
      |cons t' ts=>simp at Bv;exact⟨ts,by rw[Bv]⟩
     obtain⟨f,h8,p1,p2,p3,⟨vs9,p4,p5⟩,p6⟩:=vT (P:=P) eh k hU r1 hx AK Fy;refine⟨f++rf,lf,h8++A9, .cons (by rw[hm];exact p1) q1,λx hx=> ?_,qz,by simp[DS,p3,q3],by rw[AK];exact .mu hm p4 p5 q4,λu hu=> ?_,λ_=>rfl⟩
     ·rcases Ac.1 hx with hx|hx
      ·exact see1 (p2 x hx)
      ·exact see2 (q2 x hx)
     ·simp only[DS,Ac]at hu;exact hu.elim (p6 u) (q5 u)
    ·cases h
   ·cases h
  ·rename_i own hm;split at h
   ·rename_i t x Bv hx;split at h
    ·cases h
    rename_i AK;have AK:(Ic s).2=Am P t:=by simpa using AK
    split at h
    ·rename_i rs vs' Fy;simp only[Ad,AY]at h;obtain⟨rfl,rfl,rfl,rfl⟩:=h;obtain⟨ts,rfl⟩:∃ts',ts=t::ts':=by
      cases ts with
      |nil=>simp at Bv
      |cons t' ts=>simp at Bv;exact⟨ts,by rw[Bv]⟩
     obtain⟨f,h8,p1,p2,p3,⟨vs9,p4,p5⟩,p6⟩:=vT (P:=P) eh k hU r1 hx AK Fy;refine⟨f++rf,lf,h8++A9, .cons (by rw[hm];exact p1) q1,λx hx=> ?_,qz,by simp[DS,p3,q3], .va hm p6 q4,λu hu=> ?_,λ_=>rfl⟩
     ·rcases Ac.1 hx with hx|hx
      ·exact see1 (p2 x hx)
      ·exact see2 (q2 x hx)
     ·simp only[DS,Ac]at hu;exact hu.elim (p6 u) (q5 u)
    ·cases h
   ·cases h
end
inductive Fq(P:Program)(w:World):List TypeId->List Bool->List Value->List AV->List Nat->List Nat->Prop where
 |nil {fl}:Fq P w [] fl [] [] [] []
 |own {t ts fl el u us y ys top N f o}:fl.headD false=true->CX P t=some el->(Cc P el=true/\N=[]\/Cc P el=false/\DF P t=none)->Db w el (P.cellsOf el) u y top N->Fq P w ts fl.tail us ys f o->Fq P w (t::ts) fl (u::us) (y::ys) (N++f) (top++o)
 |deep {t ts fl el e z l u us y ys top f o}:fl.headD false=true->CX P t=some el->Cc P el=false->DF P t=some (.row e z l)->DC w [.row e z l] [u] [y] top->Fq P w ts fl.tail us ys f o->Fq P w (t::ts) fl (u::us) (y::ys) f (top++o)
 |skip {t ts fl u us y ys f o}:(fl.headD false=true->CX P t=none)->Fq P w ts fl.tail us ys f o->Fq P w (t::ts) fl (u::us) (y::ys) f o
inductive DU(P:Program)(w:World):List TypeId->List PM->List Value->List AV->List Nat->List Nat->Prop where
 |nil {ms vs}:DU P w [] ms vs [] [] []
 |ro {t ts ms v vs bs f o}:ms.headD .ro= .ro->DU P w ts ms.tail vs bs f o->DU P w (t::ts) ms (v::vs) bs f o
 |va {t ts ms own v vs bs f o}:ms.headD .ro= .va own->DU P w ts ms.tail vs bs f o->DU P w (t::ts) ms (v::vs) bs f o
 |mu {t ts ms own v vs us ys y bs f1 f o1 o}:ms.headD .ro= .mu own->(if Am P t then v= .agg us.toArray/\y= .agg ys else us=[v]/\ys=[y])->Fq P w (Bf P t) own us ys f1 o1->DU P w ts ms.tail vs bs f o->DU P w (t::ts) ms (v::vs) (y::bs) (f1++f) (o1++o)
 |bx {t ts ms own own' ty b C v vs ys y bs f1 o1 f o}:ms.headD .ro= .bx own own'->KU P t=some ty->v= .pointer (some ⟨b,0,none⟩)->w.heap[b]?=some (.cells C ty (0,0))->(∀u∈C.toList,u.oneCell'=true)->y= .agg ys->Cz P w (Bf P ty) own' C.toList ys f1 o1->
   DU P w ts ms.tail vs bs f o->DU P w (t::ts) ms (v::vs) (y::bs) (f1++f) (b::o1++o)
section
variable {P:Program} {c:Cx} {w':World}
theorem zwh{mk:Nat->E}{ts:List TypeId}{fl:List Bool}{us:List Value}{rs:List (Option RI)}(h:G2 P c ts fl us rs)(hU:∀t g,c.K t g->c.U t):∀{ys:List AV} {f o:List Nat} (j:Nat),Fq P w' ts fl us ys f o->(∀i y,ys[i]?=some y->(mk (j+i)).den c.ρ=y)->
  ∃recs:List AX,Mr mk j rs=recs.map AX.pair/\(recs.flatMap AX.top).Sublist o/\(∀r∈recs,r.new=none/\c.U r.tag/\ ∀hs f,r.bq≠ .gd hs f)/\recs.map AX.tag=CW rs/\ ∀c',Fi c c' w' recs->(∀b∈f,c'.ok b)-> ∀r∈recs,DE c' r.tag r.bq:=by
 induction h with
 |nil=>intro ys f o j hm _;cases hm;exact⟨[],rfl,by simp,by simp,rfl,by simp⟩
 | @row t ts fl v vs u g el rs h1 h2 ME h3 h4 h5 _ ih=>
  intro ys f o j hm Gm;cases hm with
  |skip hh _=>rw[hh h1]at h2;cases h2
  |deep _ k2 k21 k22 _ _=>
   rw[h2]at k2;cases k2;rcases ME with hh|hh
   ·rw[hh]at k21;cases k21
   ·rw[hh]at k22;cases k22
  | @own _ _ _ el' _ _ y ys top N f o k1 k2 k23 k3 k4=>
   rw[h2]at k2;cases k2;obtain⟨recs,e1,e2,e3,e4,e5⟩:=ih (j+1) k4 (λi y hy=>by rw[show j+1+i=j+(i+1)from by omega];exact Gm (i+1) y (by simpa using hy));have hy:=Gm 0 y rfl;refine⟨⟨u,none,top, .row el (P.cellsOf el) g (mk j) (Cc P el)⟩::recs,by simp[Mr,e1,AX.pair],by simpa using(List.Sublist.refl top).append e2,λr hr=> ?_,by simp[CW,RI.tag,e4],λc' ha AZ r hr=> ?_⟩
   ·rcases Ae.1 hr with rfl|hr
    ·exact⟨rfl,hU _ _ h3,by simp⟩
    ·exact e3 r hr
   ·rcases Ae.1 hr with rfl|hr
    ·obtain⟨a1,a2⟩:=ha.K u g h3;have kg:=ha.G _ (List.mem_cons_self ..);simp only at kg;refine⟨a1,λg' CE=>h5 g' (ha.old u (hU _ _ h3) g' CE),N,?_,λb hb=>AZ b (by simp[hb]),λhd=> ?_,λ_=>by rw[kg]⟩
     rotate_left
     ·rcases k23 with⟨_,h⟩|⟨h,_⟩
      ·subst h;exact⟨rfl,by rw[kg]⟩
      ·rw[h]at hd;cases hd
     have BN:(mk j).den c.ρ=y:=by simpa using hy
     rw[a2,h4,kg,ha.w,ha.ρ,BN];exact k3
    ·exact e5 c' (ha.mono λr hr=>by simp[hr]) (λb hb=>AZ b (by simp[hb])) r hr
 | @deep t ts fl v vs u g el e z l ep rs h1 h2 Tl Qe h3 h4 h5 h6 _ ih=>
  intro ys f o j hm Gm;cases hm with
  |skip hh _=>rw[hh h1]at h2;cases h2
  |own _ k2 k23 _ _=>
   rw[h2]at k2;cases k2;rcases k23 with⟨hh,_⟩|⟨_,hh⟩
   ·rw[hh]at Tl;cases Tl
   ·rw[hh]at Qe;cases Qe
  | @deep _ _ _ el' e' z' l' _ _ y ys top f o k1 k2 k21 k22 k3 k4=>
   rw[Qe]at k22;cases k22;obtain⟨recs,e1,e2,e3,e4,e5⟩:=ih (j+1) k4 (λi y hy=>by rw[show j+1+i=j+(i+1)from by omega];exact Gm (i+1) y (by simpa using hy));have hy:=Gm 0 y rfl;refine⟨⟨u,none,top, .deep e z l g (ep+1) (mk j)⟩::recs,by simp[Mr,e1,AX.pair],by simpa using(List.Sublist.refl top).append e2,λr hr=> ?_,by simp[CW,RI.tag,e4],λc' ha AZ r hr=> ?_⟩
   ·rcases Ae.1 hr with rfl|hr
    ·exact⟨rfl,hU _ _ h3,by simp⟩
    ·exact e3 r hr
   ·rcases Ae.1 hr with rfl|hr
    ·obtain⟨a1,a2⟩:=ha.K u g h3;have kg:=ha.G _ (List.mem_cons_self ..);have ke:=ha.gj _ (List.mem_cons_self ..) rfl;simp only at kg ke;refine⟨a1,λg' CE=>h5 g' (ha.old u (hU _ _ h3) g' CE),by rw[ke,h6],?_,by rw[kg]⟩;have BN:(mk j).den c.ρ=y:=by simpa using hy
     rw[a2,h4,kg,ha.w,ha.ρ,BN];exact k3
    ·exact e5 c' (ha.mono λr hr=>by simp[hr]) (λb hb=>AZ b (by simp[hb])) r hr
 | @none t ts fl v vs rs _ _ ih=>
  intro ys f o j hm Gm;have go:∀{y:AV} {ys':List AV} {f' o':List Nat},ys=y::ys'->Fq P w' ts fl.tail vs ys' f' o'->(∀b∈f',b∈f)->o'.Sublist o-> ∃recs:List AX,Mr mk j (none::rs)=recs.map AX.pair/\(recs.flatMap AX.top).Sublist o/\(∀r∈recs,r.new=none/\c.U r.tag/\ ∀hs f,r.bq≠ .gd hs f)/\recs.map AX.tag=CW (none::rs)/\ ∀c',Fi c c' w' recs->(∀b∈f,c'.ok b)-> ∀r∈recs,DE c' r.tag r.bq:=by rintro y ys' f' o' rfl C7 hf hs;obtain⟨recs,e1,e2,e3,e4,e5⟩:=ih (j+1) C7 (λi y hy=>by rw[show j+1+i=j+(i+1)from by omega];exact Gm (i+1) y (by simpa using hy));exact⟨recs,by simp[Mr,e1],e2.trans hs,e3,by simp[CW]at e4 ⊢;exact e4,λc' ha AZ=>e5 c' ha λb hb=>AZ b (hf b hb)⟩
  cases hm with
  |skip _ h8=>exact go rfl h8 (λ_ h=>h) (List.Sublist.refl _)
  |own _ _ _ _ h8=>exact go rfl h8 (λb hb=>by simp[hb]) (List.sublist_append_right _ _)
  |deep _ _ _ _ _ h8=>exact go rfl h8 (λ_ h=>h) (List.sublist_append_right _ _)
theorem w5(us:List Nat)(hU:∀u∈us,c.U u):∃recs:List AX,Ez us=recs.map AX.pair/\recs.flatMap AX.top=[]/\(∀r∈recs,r.new=none/\c.U r.tag/\ ∀hs f,r.bq≠ .gd hs f)/\recs.map AX.tag=us/\ ∀c',Fi c c' w' recs-> ∀r∈recs,DE c' r.tag r.bq:=by
 induction us with
 |nil=>exact⟨[],rfl,rfl,by simp,rfl,by simp⟩
 |cons u us ih=>
  obtain⟨recs,e1,e2,e3,e4,e5⟩:=ih λu hu=>hU u (by simp[hu]);refine⟨⟨u,none,[], .dead⟩::recs,by simp only[Ez]at e1;simp[Ez,e1,AX.pair],by simp[e2],λr hr=> ?_,by simp[e4],λc' ha r hr=> ?_⟩
  ·rcases Ae.1 hr with rfl|hr
   ·exact⟨rfl,hU _ (by simp),by simp⟩
   ·exact e3 r hr
  ·rcases Ae.1 hr with rfl|hr
   ·have kg:=ha.G _ (List.mem_cons_self ..);simp only at kg;exact⟨by rw[kg],by rw[kg]⟩
   ·exact e5 c' (ha.mono λr hr=>by simp[hr]) r hr
structure Jx(c:Cx)(w':World)(nx m:Nat)(l:List (Nat × Af))(hd o f:List Nat)(recs:List AX):Prop where
 ents:l=recs.map AX.pair
 lq:(recs.flatMap AX.top).Sublist o
 new:∀r∈recs,r.new.isSome=true->nx<=r.tag/\r.tag<nx+m
 old:∀r∈recs,r.new=none->r.tag∈hd/\c.U r.tag
 all:∀t∈hd,∃r∈recs,r.tag=t
 nodup:hd.Nodup->(∀t,nx<=t->t<nx+m-> ¬c.U t)->(recs.map AX.tag).Nodup
 ne:∀r∈recs,∀hs f,r.bq≠ .gd hs f
 ok:∀c',Fi c c' w' recs->(∀b∈f,c'.ok b)-> ∀r∈recs,DE c' r.tag r.bq
theorem Jx.app{nx m m':Nat}{l l':List (Nat × Af)}{hd JE o o' f f':List Nat}{recs recs':List AX}(h:Jx c w' nx m l hd o f recs)(k:Jx c w' (nx+m) m' l' JE o' f' recs'):Jx c w' nx (m+m') (l++l') (hd++JE) (o++o') (f++f') (recs++recs'):=by
 refine⟨by rw[h.ents,k.ents,List.map_append],by rw[List.flatMap_append];exact h.lq.append k.lq,λr hr hn=> ?_,λr hr hn=> ?_,λt ht=> ?_,λhn hU=> ?_,λr hr=> ?_,λc' ha AZ r hr=> ?_⟩
 ·rcases Ac.1 hr with hr|hr
  ·have:=h.new r hr hn;omega
  ·have:=k.new r hr hn;omega
 ·rcases Ac.1 hr with hr|hr
  ·exact⟨by simp[(h.old r hr hn).1],(h.old r hr hn).2⟩
  ·exact⟨by simp[(k.old r hr hn).1],(k.old r hr hn).2⟩
 ·rcases Ac.1 ht with ht|ht
  ·obtain⟨r,hr,e⟩:=h.all t ht;exact⟨r,by simp[hr],e⟩
  ·obtain⟨r,hr,e⟩:=k.all t ht;exact⟨r,by simp[hr],e⟩
 ·rw[List.nodup_append]at hn;rw[List.map_append,List.nodup_append];refine⟨h.nodup hn.1 λt h1 h2=>hU t h1 (by omega),k.nodup hn.2.1 λt h1 h2=>hU t (by omega) (by omega),λt1 Jf t2 KP he=> ?_⟩;obtain⟨q1,GQ,rfl⟩:=List.mem_map.1 Jf;obtain⟨q2,Fu,rfl⟩:=List.mem_map.1 KP;cases n1:q1.new with
  |none=>
   obtain⟨a1,a2⟩:=h.old q1 GQ n1;cases n2:q2.new with
   |none=>exact hn.2.2 _ a1 _ (k.old q2 Fu n2).1 he
   |some v2=>have:=k.new q2 Fu (by simp[n2]);exact hU q2.tag (by omega) (by omega) (he▸a2)
  |some v1=>
   have:=h.new q1 GQ (by simp[n1]);cases n2:q2.new with
   |none=>exact hU q1.tag (by omega) (by omega) (he▸(k.old q2 Fu n2).2)
   |some v2=>have:=k.new q2 Fu (by simp[n2]);omega
 ·rcases Ac.1 hr with hr|hr
  ·exact h.ne r hr
  ·exact k.ne r hr
 ·rcases Ac.1 hr with hr|hr
  ·exact h.ok c' (ha.mono λr hr=>by simp[hr]) (λb hb=>AZ b (by simp[hb])) r hr
  ·exact k.ok c' (ha.mono λr hr=>by simp[hr]) (λb hb=>AZ b (by simp[hb])) r hr
theorem Jx.jt{nx:Nat}{l:List (Nat × Af)}{hd o f:List Nat}{recs:List AX}(e1:l=recs.map AX.pair)(e2:(recs.flatMap AX.top).Sublist o)(e3:∀r∈recs,r.new=none/\c.U r.tag/\ ∀hs f,r.bq≠ .gd hs f)(e4:recs.map AX.tag=hd)(e5:∀c',Fi c c' w' recs->(∀b∈f,c'.ok b)-> ∀r∈recs,DE c' r.tag r.bq):Jx c w' nx 0 l hd o f recs:=by
 refine⟨e1,e2,λr hr hn=> ?_,λr hr _=>⟨?_,(e3 r hr).2.1⟩,λt ht=> ?_,λhn _=>by rw[e4];exact hn,λr hr=>(e3 r hr).2.2,λc' ha AZ=>e5 c' ha AZ⟩
 ·rw[(e3 r hr).1]at hn;cases hn
 ·rw[<-e4];exact List.mem_map.2 ⟨r,hr,rfl⟩
 ·rw[<-e4]at ht;obtain⟨r,hr,e⟩:=List.mem_map.1 ht;exact⟨r,hr,e⟩
theorem zyq{ts:List TypeId}{ms:List PM}{vs:List Value}{bs:List PA}(h:Jp P c ts ms vs bs)(hU:∀t g,c.K t g->c.U t){r:Nat}:∀{Bs:List AV} {f o:List Nat} (nx j:Nat),DU P w' ts ms vs Bs f o->(∀k y,Bs[k]?=some y->(E.proj (.var r) (j+k+1)).den c.ρ=y)->
  Bs.length=I1 bs/\ ∃recs,Jx c w' nx (Lh P bs) (after P r nx bs j) (DS bs) o f recs:=by
 have nilS:∀nx,Jx c w' nx 0 [] [] [] [] []:=λnx=>⟨rfl,by simp,by simp,by simp,by simp,by simp,by simp,by simp⟩
 induction h with
 |nil=>intro Bs f o nx j hb _;cases hb;exact⟨rfl,[],by simpa[after,DS,Lh]using nilS nx⟩
 | @ro ts ms v vs bs hm EZ ih=>
  intro Bs f o nx j hb hB;cases hb with
  |nil=>exact ih nx j .nil hB
  |ro _ h8=>exact ih nx j h8 hB
  |va h9 _=>rw[hm]at h9;cases h9
  |mu h9 _ _ _=>rw[hm]at h9;cases h9
  |bx h9 _ _ _ _ _ _ _=>rw[hm]at h9;cases h9
 | @va ts ms own v vs bs us hm LU EZ ih=>
  intro Bs f o nx j hb hB;obtain⟨recs1,e1,e2,e3,e4,e5⟩:=w5 (c:=c) (w':=w') us LU;have s1:Jx c w' nx 0 (Ez us) us [] [] recs1:= .jt e1 (by rw[e2];exact List.Sublist.refl _) e3 e4 λc' ha _=>e5 c' ha;cases hb with
  |nil=>obtain⟨h1,recs2,s2⟩:=ih nx j .nil hB;exact⟨by simpa[I1]using h1,recs1++recs2,by simpa[after,DS,Lh]using s1.app s2⟩
  |ro h9 _=>rw[hm]at h9;cases h9
  |va _ h8=>obtain⟨h1,recs2,s2⟩:=ih nx j h8 hB;exact⟨by simpa[I1]using h1,recs1++recs2,by simpa[after,DS,Lh]using s1.app s2⟩
  |mu h9 _ _ _=>rw[hm]at h9;cases h9
  |bx h9 _ _ _ _ _ _ _=>rw[hm]at h9;cases h9
 | @mu t ts ms own v vs bs us rs hm LU Fy EZ ih=>
  intro Bs f o nx j hb hB;cases hb with
  |ro h9 _=>rw[hm]at h9;cases h9
  |va h9 _=>rw[hm]at h9;cases h9
  |bx h9 _ _ _ _ _ _ _=>rw[hm]at h9;cases h9
  | @mu _ _ _ own2 _ _ us2 ys y Bs f1 f o1 o h9 hg T4 h8=>
   rw[hm]at h9;cases h9;obtain⟨h1,recs2,s2⟩:=ih nx (j+1) h8 (λk y hy=>by rw[show j+1+k+1=j+(k+1)+1 from by omega];exact hB (k+1) y (by simpa using hy));have hy:=hB 0 y rfl;have OZ:us2=us:=by
    split at LU
    ·rename_i AK;rw[if_pos AK]at hg;obtain⟨rfl,_⟩:=hg;exact vU LU
    ·rename_i AK;rw[if_neg AK]at hg;rw[hg.1,LU]
   subst OZ;obtain⟨recs1,e1,e2,e3,e4,e5⟩:=zwh (w':=w') (mk:=DW (.proj (.var r) (j+1)) (Am P t)) Fy hU 0 T4 (by
    intro i z hz;split at hg
    ·rename_i AK;rw[AK];exact VW (by rw[<-hg.2];exact hy) i z hz
    ·rename_i AK;have G9:Am P t=false:=by simpa using AK
     rw[hg.2]at hz;cases i with
     |zero=>simp at hz;subst hz;rw[G9];simpa[DW]using hy
     |succ i=>simp at hz)
   have s1:Jx c w' nx 0 _ (CW rs) o1 f1 recs1:= .jt e1 e2 e3 e4 e5;exact⟨by simp[I1,h1],recs1++recs2,by simpa[after,DS,Lh]using s1.app s2⟩
 | @bx t ts ms own own' ty v vs bs T b g olds hm Ev hv hK hH hol EZ ih=>
  intro Bs f o nx j hb hB;cases hb with
  |ro h9 _=>rw[hm]at h9;cases h9
  |va h9 _=>rw[hm]at h9;cases h9
  |mu h9 _ _ _=>rw[hm]at h9;cases h9
  | @bx _ _ _ own2 own3 ty2 b2 C _ _ ys y Bs f1 o1 f o h9 J1 Dn hh Cp H7 hc h8=>
   rw[hm]at h9;cases h9;rw[Ev]at J1;cases J1;have WX:b2=b:=by rw[hv]at Dn;cases Dn;rfl
   subst WX;obtain⟨h1,recs2,s2⟩:=ih (nx+(Bf P ty).length) (j+1) h8 (λk y hy=>by rw[show j+1+k+1=j+(k+1)+1 from by omega];exact hB (k+1) y (by simpa using hy));have hy:=hB 0 y rfl;obtain⟨recs0,d1,d2,d3,d4,d5⟩:=w5 (c:=c) (w':=w') olds hol;have s0:Jx c w' nx 0 (Ez olds) olds [] [] recs0:= .jt d1 (by rw[d2];exact List.Sublist.refl _) d3 d4 λc' ha _=>d5 c' ha;obtain⟨recs1,e1,e2,e3,e4,_,e5⟩:=RW (c:=c) (nx:=nx) (mk:=DW (.proj (.var r) (j+1)) true) hc 0 (VW (by rw[<-H7];exact hy));have pI:=hU _ _ hK;have s1:Jx c w' nx (Bf P ty).length ((T, .box ty g (Dd P nx (DW (.proj (.var r) (j+1)) true) 0 (Bf P ty) own').1)::(Dd P nx (DW (.proj (.var r) (j+1)) true) 0 (Bf P ty) own').2) [T] (b2::o1) f1 (⟨T,none,[b2], .box ty g (Dd P nx (DW (.proj (.var r) (j+1)) true) 0 (Bf P ty) own').1⟩::recs1):=by
    refine⟨by simp[e1,AX.pair],?_,λq hq hn=> ?_,λq hq hn=> ?_,by simp,λ_ Bg=> ?_,λq hq=> ?_,λc' ha AZ q hq=> ?_⟩
    ·simp only[List.flatMap_cons,e2,List.singleton_append];exact List.Sublist.refl _
    ·rcases Ae.1 hq with rfl|hq
     ·cases hn
     ·have:=e3 q hq;omega
    ·rcases Ae.1 hq with rfl|hq
     ·exact⟨by simp,pI⟩
     ·have:=(e3 q hq).2.2;rw[hn]at this;cases this
    ·simp only[List.map_cons,List.nodup_cons];refine⟨λhm=> ?_,e4⟩;obtain⟨q,hq,hqt⟩:=List.mem_map.1 hm;have:=e3 q hq;exact Bg q.tag (by omega) (by omega) (hqt▸pI)
    ·rcases Ae.1 hq with rfl|hq
     ·simp
     ·intro hs f he;obtain⟨q1,q2⟩:=e3 q hq;have:(q.tag,q.bq)∈(Dd P nx (DW (.proj (.var r) (j+1)) true) 0 (Bf P ty) own').2:=by
       rw[e1];exact List.mem_map.2 ⟨q,hq,rfl⟩
      exact Ps _ _ _ _ _ this he
    ·obtain⟨p1,p2⟩:=e5 c' (ha.mono λr hr=>by simp[hr]) AZ;rcases Ae.1 hq with rfl|hq
     ·obtain⟨a1,a2⟩:=ha.K T 0 hK;have kg:=ha.G _ (List.mem_cons_self ..);simp only at kg;exact⟨b2,C,a1,by rw[a2,hH,hv],by rw[kg],by rw[kg],by rw[ha.w];exact hh,Cp,p1⟩
     ·exact p2 q hq
   refine⟨by simp[I1,h1],recs0++((⟨T,none,[b2], .box ty g (Dd P nx (DW (.proj (.var r) (j+1)) true) 0 (Bf P ty) own').1⟩::recs1)++recs2),?_⟩;have s3:=s0.app (s1.app s2);rw[Nat.zero_add]at s3;refine⟨by simpa[after]using s3.ents,s3.lq,s3.new,λq hq hn=> ?_,λt ht=> ?_,λhn Bg=> ?_,s3.ne,s3.ok⟩
   ·have:=s3.old q hq hn;simp only[DS,List.cons_append,Ae,Ac,List.not_mem_nil,or_false,List.nil_append]at this ⊢;exact⟨by rcases this.1 with h|h|h;exact .inr (.inl h);exact .inl h;exact .inr (.inr h),this.2⟩
   ·refine s3.all t ?_;simp only[DS,List.cons_append,Ae,Ac,List.nil_append]at ht ⊢;rcases ht with h|h|h
    ·exact .inr (.inl h)
    ·exact .inl h
    ·exact .inr (.inr h)
   ·refine s3.nodup ?_ Bg;simp only[DS,List.cons_append,List.nodup_cons,List.nodup_append,Ac,not_or,List.nil_append]at hn ⊢;obtain⟨⟨n1,n2⟩,n3,n4,n5⟩:=hn;refine⟨n3,⟨n2,n4⟩,λa ha b hb=> ?_⟩;rcases Ae.1 hb with rfl|hb
    ·rintro rfl;exact n1 ha
    ·exact n5 a ha b hb
end
def PX(P:Program):List TypeId->List Bool->List AV->Bool
 |t::ts,fl,y::ys=>((fl.headD false&&(CX P t).isSome)||CR P t||y.scalar)&&PX P ts fl.tail ys
 |_,_,_=>true
def Xn(P:Program)(t:TypeId)(fl:List Bool)(x:AV):Bool:=if F0 P t fl then PX P (Bf P t) fl (if Am P t then x.cells else [x])else CR P t||x.cells.all AV.scalar
def Wu(P:Program):List TypeId->List Bool->List AV->Bool
 |t::ts,fl,x::xs=>Xn P t fl x&&Wu P ts (fl.drop (Bf P t).length) xs
 |_,_,_=>true
def UE(P:Program)(ts:List TypeId)(fl:List Bool)(R:AV):Bool:=match ts with
 | [t]=>Xn P t fl R
 |ts=>match R with
  | .tup ys=>Wu P ts fl ys
  |_=>true
def Ij(P:Program):List TypeId->List PM->List AV->Bool
 |t::ts,ms,bs=>(match ms.headD .ro with
  | .ro=>Ij P ts ms.tail bs
  | .va _=>Ij P ts ms.tail bs
  | .mu _=>Ij P ts ms.tail bs.tail
  | .bx _ own'=>(match KU P t,bs with
   |some ty,b::_=>PX P (Bf P ty) own' b.cells
   |_,_=>true)&&Ij P ts ms.tail bs.tail)
 | [],_,_=>true
def BK:List TypeId->List PM->Bool
 |_::ts,ms=>(match ms.headD .ro with
  | .mu _=>true
  | .bx .. =>true
  |_=>false)||BK ts ms.tail
 | [],_=>false
def NN(P:Program)(fn:Func)(s:G8)(r:AV):Bool:=
 if BK (fn.params.toList++s.ft) s.b8 then(match r with
  | .tup (R::bs)=>UE P (Du fn s) s.res R&&Ij P (fn.params.toList++s.ft) s.b8 bs
  |_=>false)
 else UE P (Du fn s) s.res r
def KX(P:Program)(w:World)(ts:List TypeId)(fl:List Bool)(v:Value)(R:AV)(f o:List Nat):Prop:=match ts with
 | [t]=>DY P w t fl v R f o
 |ts=> ∃vs ys,v= .tuple vs.toArray/\R= .tup ys/\Mz P w ts fl vs ys f o
structure fU(P:Program)(fn:Func)(s:G8)(w:World)(vs:List Value)(rf hs:List Nat)(r:AV)(v:Value)(w':World):Prop where
 ex:∃R bs f1 o1 f2 o2,r=(match bs with| []=>R|_=> .tup (R::bs))/\KX P w' (Du fn s) s.res v R f1 o1/\DU P w' (fn.params.toList++s.ft) s.b8 vs bs f2 o2/\(o1++o2).Nodup/\
  (∀b∈o1++o2,(b∈hs\/w.heap.size<=b)/\b<w'.heap.size)/\ ∀b∈f1++f2,b∉o1++o2/\(b∈rf\/b∈hs\/w.heap.size<=b)
 mod:Mod hs w w'
theorem Rel.mf{c:Cx}{n:Nat}{sl:Nat->SV}{hp:Nat->Option Af}{a:Act}(h:Rel c n sl hp a){hs:List Nat}(hh:∀b∈hs,∃t,b∈(c.G t).top):fY c.w (λb=>b∈hs):=by
 obtain⟨p1,p2,p3⟩:=h.base.pk;refine⟨Nat.le_trans p1 h.base.size,LX.mono (λb hb=>h.base.block b (by omega) λhm=>by have:=p3 b hm;omega) p2,λb hb=> ?_⟩;obtain⟨t,ht⟩:=hh b hb;rcases h.gw.allow t b (by simp[GI.own,ht])with k|k
 ·have:c.w0.heap.size<=b:=k;omega
 ·exact p3 b k
def Ti(P:Program)(s:G8)(f:Nat)(xs:List AV)(r:AV):Prop:=
 ∃fn,P.funcs[f]?=some fn/\fn.body.isSome=true/\(fn.name== "runtime.NumGoroutine")=false/\NN P fn s r=true/\xs.length=fn.params.size+fn.nfree/\s.ft.length<=fn.nfree/\
  ∀(w:World) (vs:List Value) (rf lf hs:List Nat),DV P w (fn.params.toList++s.ft) s.b8 s.lo vs xs rf lf hs->(∀b∈hs,b∉rf)->(∀b∈hs,b∉lf)->hs.Nodup->fY w (λb=>b∈hs)->
   Calls P f vs.toArray w λe w'=> ∃v,e= .returned v/\fU P fn s w vs rf hs r v w'
def Co(P:Program)(sg:BY)(f:Nat)(xs:List AV)(r:AV):Prop:=
 if f<1000000 then∃s,sg f=some s/\Ti P s f xs r else Ti P {b8:=[],res:=[]} (f-1000000) xs r
section
variable {P:Program} {w:World}
theorem u4{v:Value}{x:AV}{f:List Nat}(h:Rd w [v] [x] f)(hx:∀y∈x.cells,y.scalar=true):f=[]:=by
 by_cases AK:∃cs,x= .agg cs
 ·obtain⟨cs,rfl⟩:=AK;obtain⟨as_,_,_,hr⟩:=KE h rfl;exact Hs hr hx
 ·have:x.cells=[x]:=by cases x<;>first|rfl|exact absurd ⟨_,rfl⟩ AK
  rw[this]at hx;exact Hs h hx
theorem zvH{k el:TypeId}(h:Hu P k=some el):Ml P 6 k=[k]:=by have h8:=Jk h;simp only[Ml,h8]
theorem zy0{t el:TypeId}(h:CX P t=some el):CR P t=true:=by
 cases hu:P.underlying t with
 |some u=>unfold CX at h;rw[hu]at h;cases u<;>first|(cases h;done)|simp[CR,Cc,Bf,Ml,hu]
 |none=>
  unfold CX at h;rw[hu]at h;cases h9:Qx t with
  |some k=>
   rw[h9]at h;have e:Bf P t=[t]:=by
    unfold Bf;rw[hu,h9];show(Ml P 6 k).map Uy=[t]
    rw[zvH h,List.map_cons,List.map_nil,zEt h9]
   unfold CR Cc;rw[e];simp only[List.all_cons,List.all_nil,hu,Bool.false_and,Bool.not_false]
  |none=>rw[h9]at h;cases h
theorem Cz.flat{ts:List TypeId}{fl:List Bool}{us:List Value}{ys:List AV}{rf hs:List Nat}(h:Cz P w ts fl us ys rf hs)(h1:E3 P ts fl=false)(h2:PX P ts fl ys=true):rf=[]:=by
 induction h with
 |nil=>rfl
 |own k1 k2 k23 _ _ ih=>
  simp only[E3,Bool.or_eq_false_iff]at h1;simp only[PX,Ab]at h2;have hN:=k23;have hw:=h1.1;rw[zy0 k2,k1]at hw;rcases hN with⟨_,rfl⟩|⟨q1,q2⟩
  ·rw[ih h1.2 h2.2];rfl
  ·simp[aM,k2,q1,q2]at hw
 |deep _ _ _ _ _ _ ih=>simp only[E3,Bool.or_eq_false_iff]at h1;simp only[PX,Ab]at h2;exact ih h1.2 h2.2
 | @rd t ts fl u us y ys f rf hs hn hr _ ih=>
  simp only[E3,Bool.or_eq_false_iff]at h1;simp only[PX,Ab]at h2;have DI:(fl.headD false&&(CX P t).isSome)=false:=by
   cases hh:fl.headD false with
   |false=>rfl
   |true=>rw[hn hh];rfl
  have dG:(fl.headD false&&aM P t)=false:=by
   cases hh:fl.headD false with
   |false=>rfl
   |true=>simp[aM,hn hh]
  rw[dG]at h1;rw[DI]at h2;have Jd:CR P t=false:=by simpa using h1.1
  rw[Jd]at h2;have hs:y.scalar=true:=by simpa using h2.1
  rw[Hs hr (by simpa using hs),ih h1.2 h2.2];rfl
theorem DY.flat{t:TypeId}{fl:List Bool}{v:Value}{x:AV}{rf hs:List Nat}(h:DY P w t fl v x rf hs)(h1:fQ P t fl=false)(h2:Xn P t fl x=true):rf=[]:=by
 unfold DY at h;unfold fQ at h1;unfold Xn at h2;split at h
 ·rename_i hf;rw[if_pos hf]at h1 h2;obtain⟨us,ys,hg,hc⟩:=h;split at hg
  ·rename_i AK;obtain⟨_,rfl,_⟩:=hg;rw[if_pos AK]at h2;exact hc.flat h1 h2
  ·rename_i AK;obtain⟨_,rfl⟩:=hg;rw[if_neg AK]at h2;exact hc.flat h1 h2
 ·rename_i hf;rw[if_neg hf]at h1 h2;rw[h1]at h2;exact u4 h.1 (by simpa using h2)
theorem Mz.flat{ts:List TypeId}{fl:List Bool}{vs:List Value}{xs:List AV}{rf hs:List Nat}(h:Mz P w ts fl vs xs rf hs)(h1:DM P ts fl=false)(h2:Wu P ts fl xs=true):rf=[]:=by
 induction h with
 |nil=>rfl
 |cons hv _ ih=>simp only[DM,Bool.or_eq_false_iff]at h1;simp only[Wu,Ab]at h2;rw[hv.flat h1.1 h2.1,ih h1.2 h2.2];rfl
theorem KX.flat{ts:List TypeId}{fl:List Bool}{v:Value}{R:AV}{f o:List Nat}(h:KX P w ts fl v R f o)(h1:DM P ts fl=false)(h2:UE P ts fl R=true):f=[]:=by
 match ts,h,h1,h2 with
 | [t],h,h1,h2=>simp only[DM,Bool.or_false]at h1;exact DY.flat h h1 h2
 | [],h,h1,h2=>obtain⟨vs,ys,_,rfl,hv⟩:=h;exact hv.flat h1 h2
 |t::u::ts,h,h1,h2=>obtain⟨vs,ys,_,rfl,hv⟩:=h;exact hv.flat h1 h2
theorem Db.void{ety sz:Nat}{a:Option Addr}{x:AV}{top N:List Nat}(h:Db w ety sz (.slice a 0 0) x top N):N=[]:=by
 obtain⟨xs,_,_,_,⟨_,_,_,h⟩|⟨g,cap,C,hv,h6,_,_,_,_,_,hr⟩⟩:=h
 ·exact h
 ·have h0:xs.length=0:=by injection hv with _ h _;exact h.symm
  have:xs=[]:=by cases xs with|nil=>rfl|cons _ _=>simp at h0
  subst this;simp[Ao]at hr;cases hr;rfl
theorem Fq.flat{c:Cx}{ts:List TypeId}{fl:List Bool}{us:List Value}{rs:List (Option RI)}(h:G2 P c ts fl us rs):∀{ys:List AV} {f o:List Nat},Fq P w ts fl us ys f o->rs.any RI.lent=false->f=[]:=by
 induction h with
 |nil=>intro ys f o hm _;cases hm;rfl
 |row k1 k2 k23 _ _ _ _ ih=>
  intro ys f o hm hl;simp only[List.any_cons,Bool.or_eq_false_iff,RI.lent]at hl;cases hm with
  |own _ q2 q23 _ q4=>
   rw[k2]at q2;cases q2;rcases q23 with⟨_,rfl⟩|⟨q,_⟩
   ·exact ih q4 hl.2
   ·rw[q]at hl;simp at hl
  |deep _ _ _ _ _ q=>exact ih q hl.2
  |skip _ q=>exact ih q hl.2
 |deep k1 k2 k21 k22 _ _ _ _ _ ih=>
  intro ys f o hm hl;simp only[List.any_cons,Bool.or_eq_false_iff]at hl;cases hm with
  |own _ q2 q23 _ q4=>
   rw[k2]at q2;cases q2;rcases q23 with⟨_,rfl⟩|⟨_,q⟩
   ·exact ih q4 hl.2
   ·rw[q]at k22;cases k22
  |deep _ _ _ _ _ q=>exact ih q hl.2
  |skip _ q=>exact ih q hl.2
 |none hv _ ih=>
  intro ys f o hm hl;simp only[List.any_cons,Bool.or_eq_false_iff]at hl;cases hm with
  |own q1 q2 _ q3 q4=>
   rcases hv q1 with hh|⟨a,rfl⟩
   ·rw[hh]at q2;cases q2
   ·rw[Db.void q3];exact ih q4 hl.2
  |deep _ _ _ _ _ q=>exact ih q hl.2
  |skip _ q=>exact ih q hl.2
theorem DU.flat{c:Cx}{ts:List TypeId}{ms:List PM}{vs:List Value}{bs:List PA}(h:Jp P c ts ms vs bs):∀{Bs:List AV} {f o:List Nat},DU P w ts ms vs Bs f o->Ej P bs=false->Ij P ts ms Bs=true->f=[]:=by
 induction h with
 |nil=>intro Bs f o hb _ _;cases hb;rfl
 | @ro ts ms v vs bs hm _ ih=>
  intro Bs f o hb h1 h2;cases hb with
  |nil=>rfl
  |ro _ h8=>simp only[Ij,hm]at h2;exact ih h8 h1 h2
  |va h9 _=>rw[hm]at h9;cases h9
  |mu h9 _ _ _=>rw[hm]at h9;cases h9
  |bx h9 _ _ _ _ _ _ _=>rw[hm]at h9;cases h9
 | @va ts ms own v vs bs us hm _ _ ih=>
  intro Bs f o hb h1 h2;cases hb with
  |nil=>rfl
  |ro h9 _=>rw[hm]at h9;cases h9
  |va _ h8=>simp only[Ij,hm]at h2;exact ih h8 h1 h2
  |mu h9 _ _ _=>rw[hm]at h9;cases h9
  |bx h9 _ _ _ _ _ _ _=>rw[hm]at h9;cases h9
 | @mu t ts ms own v vs bs us rs hm LU Fy _ ih=>
  intro Bs f o hb h1 h2;cases hb with
  |ro h9 _=>rw[hm]at h9;cases h9
  |va h9 _=>rw[hm]at h9;cases h9
  | @mu _ _ _ own2 _ _ us2 ys y Bs f1 f o1 o h9 hg T4 h8=>
   rw[hm]at h9;cases h9;simp only[Ij,hm]at h2;simp only[Ej,Bool.or_eq_false_iff]at h1;have OZ:us2=us:=by
    split at LU
    ·rename_i AK;rw[if_pos AK]at hg;obtain⟨rfl,_⟩:=hg;exact vU LU
    ·rename_i AK;rw[if_neg AK]at hg;rw[hg.1,LU]
   subst OZ;rw[Fq.flat Fy T4 h1.1,ih h8 h1.2 h2];rfl
  |bx h9 _ _ _ _ _ _ _=>rw[hm]at h9;cases h9
 | @bx t ts ms own own' ty v vs bs T b g olds hm Ev _ _ _ _ _ ih=>
  intro Bs f o hb h1 h2;cases hb with
  |ro h9 _=>rw[hm]at h9;cases h9
  |va h9 _=>rw[hm]at h9;cases h9
  |mu h9 _ _ _=>rw[hm]at h9;cases h9
  |bx h9 J1 _ _ _ hy hc h8=>rw[hm]at h9;cases h9;rw[Ev]at J1;cases J1;simp only[Ij,hm,Ev,Ab,hy,List.tail_cons]at h2;simp only[Ej,Bool.or_eq_false_iff]at h1;rw[hc.flat h1.1 h2.1,ih h8 h1.2 h2.2];rfl
theorem kR{ts:List TypeId}{ms:List PM}{vs:List Value}{Bs:List AV}{f o:List Nat}(h:DU P w ts ms vs Bs f o):Bs=[]↔BK ts ms=false:=by
 induction h with
 |nil=>simp[BK]
 |ro hm _ ih=>simp only[BK,hm,Bool.false_or];exact ih
 |va hm _ ih=>simp only[BK,hm,Bool.false_or];exact ih
 |mu hm _ _ _ _=>simp only[BK,hm,Bool.true_or];simp
 |bx hm _ _ _ _ _ _ _ _=>simp only[BK,hm,Bool.true_or];simp
end
section
variable {P:Program} {c:Cx} {n nx:Nat} {sl sl0:Nat->SV} {hp hp0:Nat->Option Af} {a:Act} {o:Oper} {gs:Gd} {e:Bh} {sg:BY} {nv:Nat}
theorem zC{xs:List Operand}:∀{ss:List SV},(∀x∈xs,∀s,BM sl0 gs x=some s->SR c [s] [a.eval x])->xs.mapM (BM sl0 gs)=some ss->SR c ss (xs.map a.eval):=by
 induction xs with
 |nil=>intro ss _ h;simp at h;subst h;exact .nil
 |cons x xs ih=>intro ss hx h;rw[List.mapM_cons]at h;simp only[Option.bind_eq_bind,Au,Option.pure_def,Ad]at h;obtain⟨s,hs,ss',Gx,rfl⟩:=h;exact(hx x (by simp) s hs).cons (ih (λy hy=>hx y (by simp[hy])) Gx)
theorem Si:∀{l:List Nat},Ms l=true->l.Nodup
 | [],_=>by simp
 |x::l,h=>by simp only[Ms,Ab,Bc,List.contains_eq_mem,decide_eq_false_iff_not]at h;exact List.nodup_cons.2 ⟨h.1,Si h.2⟩
theorem zyR{c1:Cx}{w':World}{recs:List AX}{hs f o:List Nat}(gw:GW c)(hg:∀t,(c1.G t).top=(c.G t).top\/(c1.G t).top=[])(hA:c1.A=c.A)(aZ:c1.Mu=c.Mu)(Na:c1.w0=c.w0)(hB:c.w0.heap.size<=c.w.heap.size)
  (hn:(recs.map AX.tag).Nodup) (Ck:∀r∈recs,∀b∈r.top,b∈o) (Hg:∀b∈hs,∃r∈recs,b∈(c.G r.tag).top) {rf:List Nat} (M0:∀b∈rf,c1.ok b) (hf:∀b∈f,b∉o/\(b∈rf\/b∈hs\/c.w.heap.size<=b)):∀b∈f,(c1.du w' recs).ok b:=by
 intro b hb;obtain⟨h1,h2⟩:=hf b hb;have hM:(c1.du w' recs).M b-> ∃t,(∀r∈recs,r.tag≠t)/\b∈(c1.G t).top:=by
  rintro⟨t,ht⟩;by_cases hT:∃r∈recs,r.tag=t
  ·obtain⟨r,hr,rfl⟩:=hT;rw[Cx.dw hn hr]at ht;exact absurd (Ck r hr b ht) h1
  ·rw[Cx.de λr hr hh=>hT ⟨r,hr,hh⟩]at ht;exact⟨t,λr hr hh=>hT ⟨r,hr,hh⟩,ht⟩
 have sub:∀t,b∈(c1.G t).top->b∈(c.G t).top:=λt ht=>by
  rcases hg t with hh|hh
  ·rw[<-hh];exact ht
  ·rw[hh]at ht;simp at ht
 rcases h2 with h2|h2|h2
 ·refine⟨λhm=> ?_,(M0 b h2).2⟩;obtain⟨t,_,ht⟩:=hM hm;exact(M0 b h2).1 ⟨t,ht⟩
 ·obtain⟨r,hr,WZ⟩:=Hg b h2;refine⟨λhm=> ?_, .inr ?_⟩
  ·obtain⟨t,Eu,ht⟩:=hM hm;exact gw.cy r.tag t (Eu r hr) b (by simp[GI.own,WZ]) (by simp[GI.own,sub t ht])
  ·have:=gw.allow r.tag b (by simp[GI.own,WZ]);simp only[Cx.du,Cx.B,Na,aZ]at this ⊢;exact this
 ·refine⟨λhm=> ?_, .inr (.inl ?_)⟩
  ·obtain⟨t,_,ht⟩:=hM hm;have:=gw.inb t b (by simp[GI.own,sub t ht]);omega
  ·simp only[Cx.du,Cx.B,Na];omega
theorem zAi(h:BE P c n nx sl hp a sl0 hp0 o gs){cl:Call}{fo:Operand}(ho:o.op= .call cl)(Aw:cl.callee= .value fo){g:Nat}{caps:BP}(hf:BM sl0 gs fo=some (.fn g caps)){as_:List SV}(has:cl.args.toList.mapM (BM sl0 gs)=some as_)
  (hg:g<1000000) (he:Wo P sg hp0 gs nv nx g (as_++caps.toList)=some e) (Bu:∀c',e.call=some c'-> ∃r,c.ρ[nv]?=some r/\IZ (Co P sg) c'.fn ((EL.of c'.args).den c.ρ) c.ρ r):AD P o c n nx sl hp gs a e:=by
 have dB:fo∈o.op.operands:=by simp[ho,Op.operands,Call.operands,Aw]
 have dA:∀x∈cl.args.toList,x∈o.op.operands:=λx hx=>by
  have:x∈cl.args:=by simpa using hx
  simp[ho,Op.operands,Call.operands,Aw,this]
 have M0:=h.c7 hf dB;generalize cG:a.eval fo=fv at M0;cases M0 with
 |fn TD h8=>
 rename_i capv;have Ah:=(zC (a:=a) (λx hx s hs=>h.c7 hs (dA x hx)) has).app TD;unfold Wo at he;split at he
 ·rename_i fn s ID J2;split at he
  ·cases he
  rename_i hlen;simp only[Bool.or_eq_true,not_or,Bool.not_eq_true,bne_eq_false_iff_eq]at hlen;split at he
  ·cases he
  rename_i es bs us uz Bn;split at he
  ·cases he
  rename_i B6;simp only[Bool.or_eq_true,Bc,not_or,Bool.not_eq_false,Bool.not_eq_true]at B6;obtain⟨⟨dE,Eb⟩,LJ⟩:=B6;have T8:=Si dE;have Ha:∀u∈us,u∉DS bs:=λu hu hh=>by rw[List.any_eq_false]at Eb;have:=Eb u hu;simp only[List.contains_eq_mem,AI]at this;exact this hh
  have Lv:∀u∈uz,u∉DS bs:=λu hu hh=>by rw[List.any_eq_false]at LJ;have:=LJ u hu;simp only[List.contains_eq_mem,AI]at this;exact this hh
  simp only at he;split at he
  ·cases he
  rename_i Bo;simp only[Nat.not_le]at Bo;split at he
  ·cases he
  rename_i IK;split at he
  ·cases he
  rename_i fz He;have hK:∀t g,c.K t g->c.U t:=h.rel.bz;obtain⟨rf,lf,hs,q1,q2,qz,q3,q4,q5,q6⟩:=xW (P:=P) h.rel.base h.eh h.gs hK (as_++caps.toList) Bn Ah (by rw[hlen.1.2,AH,BG];have:=hlen.2;simp only[decide_eq_false_iff_not,Nat.not_lt]at this;omega);obtain⟨fts,HV,TS⟩:∃fts,D3 hp0 gs fts=some fz/\ ∀t∈fts,t∈us:=by
   split at He
   ·exact⟨us,He,λt ht=>ht⟩
   ·simp only[Ad]at He;subst He;exact⟨[],rfl,by simp⟩
  have DJ:=h.rel.freeze h.hp h.gs HV;have ML:∀t∈fz.map (·.1),t∈us:=λt ht=>by obtain⟨⟨t',e'⟩,hm,rfl⟩:=List.mem_map.1 ht;exact TS _ ((Pq h.gs HV).1 t' e' hm).1
  have Tn:∀t,((c.ca (fz.map (·.1))).G t).top=(c.G t).top\/((c.ca (fz.map (·.1))).G t).top=[]:=λt=>by
   simp only[Cx.ca];split
   ·exact .inr rfl
   ·exact .inl rfl
  have hGh:∀t∈DS bs,(c.ca (fz.map (·.1))).G t=c.G t:=λt ht=>by simp only[Cx.ca];rw[if_neg];intro hh;exact Ha t (ML t hh) ht
  have oZ:∀t∈DS bs,(c.ca (fz.map (·.1))).E t=c.E t:=λt ht=>by simp only[Cx.ca];rw[if_neg];intro hh;exact Ha t (ML t hh) ht
  have eD:hs.Nodup:=by
   rw[q3];have:∀l:List Nat,l.Nodup->(l.flatMap λt=>(c.G t).top).Nodup:=by
    intro l
    induction l with
    |nil=>intro _;simp
    |cons t l ih=>intro hl;rw[List.nodup_cons]at hl;rw[List.flatMap_cons,List.nodup_append];refine⟨(List.nodup_append.1 (h.rel.gw.nodup t)).1,ih hl.2,λx hx y hy Hm=> ?_⟩;subst Hm;obtain⟨u,hu,eP⟩:=List.mem_flatMap.1 hy;exact h.rel.gw.cy t u (λhh=>hl.1 (hh▸hu)) x (by simp[GI.own,hx]) (by simp[GI.own,eP])
   exact this _ T8
  have JR:∀b∈hs,∃t∈DS bs,b∈(c.G t).top:=λb hb=>by rw[q3]at hb;exact List.mem_flatMap.1 hb
  have Gk:∀b∈hs,b∉rf:=λb hb hr=>by
   obtain⟨t,ht,CS⟩:=JR b hb;rcases q2 b hr with hh|⟨u,hu,IA⟩
   ·exact hh.1 ⟨t,CS⟩
   ·exact h.rel.gw.cy t u (λhh=>Ha u hu (hh▸ht)) b (by simp[GI.own,CS]) (by simp[GI.own,IA])
  have JG:∀b∈hs,b∉lf:=λb hb hr=>by
   obtain⟨t,ht,CS⟩:=JR b hb;rcases qz b hr with(hh|⟨u,hu,IA⟩)|⟨h1,h2⟩
   ·exact hh.1 ⟨t,CS⟩
   ·exact h.rel.gw.cy t u (λhh=>Lv u hu (hh▸ht)) b (by simp[GI.own,CS]) (by simp[GI.own,IA])
   ·rcases h.rel.gw.allow t b (by simp[GI.own,CS])with k|k
    ·have:c.w0.heap.size<=b:=k;omega
    ·exact h2 k
  have Ft:∃(val:SV) (l:List (Nat × Af)),e={call:=some ⟨.inl g,es⟩,val:=val,bq:=fz++(WL gs l++after P nv (nx+((Du fn s).flatMap (Bf P)).length) bs 0)}/\
    ∀(R:AV) (w':World) (v:Value) (f1 o1:List Nat),KX P w' (Du fn s) s.res v R f1 o1->(if I1 bs=0 then E.var nv else .proj (.var nv) 0).den c.ρ=R-> ∃recs:List AX,l=recs.map AX.pair/\recs.flatMap AX.top=o1/\(∀r∈recs,nx<=r.tag/\r.tag<nx+((Du fn s).flatMap (Bf P)).length/\r.new.isSome)/\(recs.map AX.tag).Nodup/\
     (∀r∈recs,∀hs f,r.bq≠ .gd hs f)/\ ∀c',Fi c c' w' recs->(∀b∈f1,c'.ok b)->SR c' [val] [v]/\ ∀r∈recs,DE c' r.tag r.bq:=by
   have BB:∀{l:List (Nat × Af)} {recs:List AX},l=recs.map AX.pair->(∀t x,(t,x)∈l-> ∀hs f,x≠ .gd hs f)-> ∀r∈recs,∀hs f,r.bq≠ .gd hs f:=by rintro l recs rfl hh r hr;exact hh r.tag r.bq (List.mem_map.2 ⟨r,hr,rfl⟩)
   have fvne:∀(t:TypeId) (k:Nat) (fl:List Bool) (x:E) (u:Nat) (y:Af),(u,y)∈(PJ P k t fl x).2-> ∀hs f,y≠ .gd hs f:=by
    intro t k fl x u y hy hs f;unfold PJ at hy;split at hy
    ·exact Ps _ _ _ _ _ hy
    ·simp at hy
   split at he
   ·rename_i t Uo;simp only[Ad]at he;subst he;refine⟨_,_,rfl,λR w' v f1 o1 hr hR=> ?_⟩;rw[Uo]at hr;obtain⟨recs,e1,e2,e3,e4,e5⟩:=u0 (c:=c) (nx:=nx) (x:=if I1 bs=0 then E.var nv else .proj (.var nv) 0) (show DY P w' t s.res v R f1 o1 from hr) hR;exact⟨recs,e1,e2,by simpa[Uo]using e3,e4,BB e1 (fvne _ _ _ _),e5⟩
   ·rename_i Uo;simp only[Ad]at he;subst he;refine⟨_,_,rfl,λR w' v f1 o1 hr hR=> ?_⟩;obtain⟨vs,ys,rfl,rfl,hv⟩:∃vs ys,v= .tuple vs.toArray/\R= .tup ys/\Mz P w' (Du fn s) s.res vs ys f1 o1:=by
     unfold KX at hr;split at hr
     ·rename_i t ht;exact absurd ht (Uo t)
     ·exact hr
    obtain⟨recs,e1,e2,e3,e4,e5⟩:=zr4 (c:=c) (x:=if I1 bs=0 then E.var nv else .proj (.var nv) 0) hv nx 0 (λk y hy=>by show AV.proj ((if I1 bs=0 then E.var nv else .proj (.var nv) 0).den c.ρ) (0+k)=y;rw[hR];simp[AV.proj,hy])
    have fvsne:∀(ts:List TypeId) (k:Nat) (fl:List Bool) (x:E) (i u:Nat) (y:Af),(u,y)∈(zip P k ts fl x i).2-> ∀hs f,y≠ .gd hs f:=by
     intro ts
     induction ts with
     |nil=>intro k fl x i u y hy;simp[zip]at hy
     |cons t ts ih=>
      intro k fl x i u y hy;simp only[zip,Ac]at hy;rcases hy with hy|hy
      ·exact fvne _ _ _ _ _ _ hy
      ·exact ih _ _ _ _ _ _ hy
    exact⟨recs,e1,e2,e3,e4,BB e1 (fvsne _ _ _ _ _),λc' ha AZ=>⟨.tup (by rw[BP.ax];exact(e5 c' ha AZ).1) .nil,(e5 c' ha AZ).2⟩⟩
  obtain⟨val,l,rfl,OX⟩:=Ft;obtain⟨r,hr,AZ⟩:=Bu _ rfl;have OV:∃s',sg g=some s'/\Ti P s' g ((EL.of es).den c.ρ) r:=by have AZ:Co P sg g ((EL.of es).den c.ρ) r:=AZ;unfold Co at AZ;rwa[if_pos hg]at AZ
  obtain⟨s',A9,fn',JN,Eg,Gp,B7,_,_,FM⟩:=OV;rw[J2]at A9;cases A9;rw[ID]at JN;cases JN;rw[EL.dq]at FM;have Bu:=FM c.w _ rf lf hs q1 Gk JG eD (h.rel.mf λb hb=>by obtain⟨t,_,ht⟩:=JR b hb;exact⟨t,ht⟩);have ex:(execOp a.eval o).run P c.w= .ok (.enter g (cl.args.map a.eval++capv.toArray)) c.w:=by
   have hb:fn.body.isNone=false:=by simpa using Eg
   simp only[execOp,ho,resolve,Aw,cG,Deferred.ofValue,Sem.run_bind,Sem.run_pure,Result.andThen_ok,invoke,callFunc,run_program,ID];simp[Gp,hb]
  intro next Q hk
  unfold Oper.wp;rw[ex,Oper.upon_enter];have Oq:cl.args.map a.eval++capv.toArray=((cl.args.toList.map a.eval)++capv).toArray:=by apply Array.ext';simp
  rw[Oq];refine Bu.mono ?_;rintro e' w' ⟨v,rfl,⟨R,Bs,f1,o1,f2,o2,LP,AL,Fs,Hi,Ua,TP⟩,Bj⟩;show next (a.put o.dst v) w'
  have hBn:∀k y,Bs[k]?=some y->(E.proj (.var nv) (0+k+1)).den c.ρ=y:=by
   intro k y hy;cases Bs with
   |nil=>simp at hy
   |cons B Bs=>simp only[E.den,hr,Dp,LP,AV.proj,Nat.zero_add,List.getElem?_cons_succ,hy]
  obtain⟨T7,recsB,hB⟩:=zyq (w':=w') q4 hK (r:=nv) (nx+((Du fn s).flatMap (Bf P)).length) 0 Fs hBn;have hR:(if I1 bs=0 then E.var nv else .proj (.var nv) 0).den c.ρ=R:=by
   cases Bs with
   |nil=>rw[if_pos (by simpa using T7.symm)];simp only[E.den,hr,Dp,LP]
   |cons B Bs=>rw[if_neg (by rw[<-T7];simp)];simp[E.den,hr,LP,AV.proj]
  obtain⟨recsV,v1,v2,v3,v4,v5,v6⟩:=OX R w' v f1 o1 AL hR;have Gq:∀t,nx<=t->t<nx+(((Du fn s).flatMap (Bf P)).length+Lh P bs)-> ¬c.U t:=λt h1 h2=>h.new t h1 (by omega);have Tm:=hB.nodup T8 λt h1 h2=>Gq t (by omega) (by omega);have Di:((recsV++recsB).map AX.tag).Nodup:=by
   rw[List.map_append,List.nodup_append];refine⟨v4,Tm,λt1 h1 t2 h2 he=> ?_⟩;obtain⟨p1,Qm,rfl⟩:=List.mem_map.1 h1;obtain⟨p2,OS,rfl⟩:=List.mem_map.1 h2;have a1:=v3 p1 Qm;cases hn:p2.new with
   |none=>exact Gq p1.tag (by omega) (by omega) (he▸(hB.old p2 OS hn).2)
   |some _=>have:=hB.new p2 OS (by simp[hn]);omega
  have H0:∀r∈recsV++recsB,r.new.isSome=true->nx<=r.tag/\r.tag<nx+(((Du fn s).flatMap (Bf P)).length+Lh P bs):=λr hr hn=>by
   rcases Ac.1 hr with hr|hr
   ·have:=v3 r hr;omega
   ·have:=hB.new r hr hn;omega
  have E2:((recsV++recsB).flatMap AX.top).Sublist (o1++o2):=by rw[List.flatMap_append,v2];exact(List.Sublist.refl _).append hB.lq
  have cN:∀b∈hs,∃r∈recsV++recsB,b∈(c.G r.tag).top:=λb hb=>by obtain⟨t,ht,CS⟩:=JR b hb;obtain⟨r,hr,rfl⟩:=hB.all t ht;exact⟨r,by simp[hr],CS⟩
  have TY:∀b∈hs,∃r∈recsV++recsB,b∈((c.ca (fz.map (·.1))).G r.tag).top:=λb hb=>by obtain⟨t,ht,CS⟩:=JR b hb;obtain⟨r,hr,rfl⟩:=hB.all t ht;exact⟨r,by simp[hr],by rw[hGh _ ht];exact CS⟩
  have E1:∀r∈recsV++recsB,∀b∈r.top,b∈o1++o2:=λr hr b hb=>E2.subset (List.mem_flatMap.2 ⟨r,hr,hb⟩);have OR:∀b∈f1++f2,((c.ca (fz.map (·.1))).du w' (recsV++recsB)).ok b:=by
   cases Xc:(DM P (Du fn s) s.res||Ej P bs)with
   |false=>
    simp only[Bool.or_eq_false_iff]at Xc;have B5:UE P (Du fn s) s.res R=true/\Ij P (fn.params.toList++s.ft) s.b8 Bs=true:=by
     unfold NN at B7;cases Og:Bs with
     |nil=>
      rw[if_neg (by rw[(kR Fs).1 Og];simp)]at B7;rw[Og]at LP;rw[LP]at B7;refine⟨B7,?_⟩;have:∀(ts:List TypeId) (ms:List PM),Ij P ts ms []=true:=by
       intro ts
       induction ts with
       |nil=>intro ms;rfl
       |cons t ts ih=>
        intro ms;unfold Ij;split
        ·exact ih _
        ·exact ih _
        ·exact ih _
        ·split
         ·rename_i hh;cases hh
         ·simpa using ih _
      exact this _ _
     |cons B Bs'=>
      rw[if_pos (by
       cases hh:BK (fn.params.toList++s.ft) s.b8 with
       |true=>rfl
       |false=>rw[(kR Fs).2 hh]at Og;cases Og)]at B7
      rw[LP,Og]at B7;simpa using B7
    have e1:f1=[]:=AL.flat Xc.1 B5.1;have e2:f2=[]:=DU.flat q4 Fs Xc.2 B5.2;subst e1;subst e2;simp
   |true=>rw[Xc]at IK He;simp only[Bool.true_and,Bc,Bool.not_eq_false]at IK;simp only[if_true]at He;exact zyR (rf:=rf) h.rel.gw Tn rfl rfl rfl h.rel.base.size Di E1 cN (λb hb=>VG h.rel h.eh h.gs He (by simpa using IK) (q2 b hb)) TP
  have TN:after P nv (nx+((Du fn s).flatMap (Bf P)).length) bs 0=recsB.map λr=>(r.tag,C5 gs r.bq):=by
   cases Qi:bs with
   |nil=>
    have:=hB.ents;rw[Qi]at this;simp only[after]at this;have:recsB=[]:=by simpa using this.symm
    rw[this];rfl
   |cons b bs'=>have Fm:=q6 (by rw[Qi];simp);rw[<-Qi,hB.ents,Fm];rfl
  have BI:WL gs l++after P nv (nx+((Du fn s).flatMap (Bf P)).length) bs 0=(recsV++recsB).map λr=>(r.tag,C5 gs r.bq):=by rw[TN,List.map_append];congr 1;rw[v1];simp[WL,AX.pair]
  obtain⟨Fv,Ce⟩:=DJ.changes (w':=w') (recs:=recsV++recsB) (hs:=hs) (gs:=gs) h.gs Bj Di (λr hr hn=>by have:=H0 r hr hn;exact Gq _ this.1 this.2) TY (E2.nodup Hi) (λr hr b hb=>Ua b (E1 r hr b hb))
   (λr hr=>by
    rcases Ac.1 hr with hr|hr
    ·exact v5 r hr
    ·exact hB.ne r hr)
   (λ_ r hr=>by
    have aft:=Cx.dr (c:=c.ca (fz.map (·.1))) (w':=w') (recs:=recsV++recsB) h.rel.bz Di (λr hr hn=>by have:=H0 r hr hn;exact Gq _ this.1 this.2);have aft':Fi c ((c.ca (fz.map (·.1))).du w' (recsV++recsB)) w' (recsV++recsB):=⟨aft.ρ,aft.w,aft.G,aft.new,aft.K,aft.old,aft.iu,λr hr DI=>(aft.gj r hr DI).trans (by
     rcases Ac.1 hr with hr|hr
     ·have:=(v3 r hr).2.2;rw[DI]at this;cases this
     ·rw[oZ _ (hB.old r hr DI).1])⟩
    rcases Ac.1 hr with hr|hr
    ·exact(v6 _ (aft'.mono λr hr=>by simp[hr]) λb hb=>OR b (by simp[hb])).2 r hr
    ·exact hB.ok _ (aft'.mono λr hr=>by simp[hr]) (λb hb=>OR b (by simp[hb])) r hr)
  have aft:=Cx.dr (c:=c.ca (fz.map (·.1))) (w':=w') (recs:=recsV++recsB) h.rel.bz Di (λr hr hn=>by have:=H0 r hr hn;exact Gq _ this.1 this.2);have aft':Fi c ((c.ca (fz.map (·.1))).du w' (recsV++recsB)) w' (recsV++recsB):=⟨aft.ρ,aft.w,aft.G,aft.new,aft.K,aft.old,aft.iu,λr hr DI=>(aft.gj r hr DI).trans (by
     rcases Ac.1 hr with hr|hr
     ·have:=(v3 r hr).2.2;rw[DI]at this;cases this
     ·rw[oZ _ (hB.old r hr DI).1])⟩
  have J5:=(v6 _ (aft'.mono λr hr=>by simp[hr]) λb hb=>OR b (by simp[hb])).1;rw[<-BI,<-PI]at Fv;refine hk _ ((c.ca (fz.map (·.1))).du w' (recsV++recsB)) ⟨rfl,rfl,rfl,rfl,λt ht=> ?_⟩ (Fv.put (J5.mkGd gs h.gs) o.dst);rcases ht with ht|⟨r,hr,rfl⟩
  ·exact .inl ht
  ·cases hn:r.new with
   |none=>
    rcases Ac.1 hr with hr|hr
    ·have:=(v3 r hr).2.2;rw[hn]at this;cases this
    ·exact .inl (hB.old r hr hn).2
   |some _=>have:=H0 r hr (by simp[hn]);exact .inr ⟨this.1,by simp only[BW];omega⟩
 ·cases he
end
def Cy(c:Cx)(us:List Nat):List Nat:=us.flatMap λt=>(c.G t).top
theorem kV(c:Cx):Cy c []=[]:=rfl
theorem Zt(c:Cx)(u:Nat)(us:List Nat):Cy c (u::us)=(c.G u).top++Cy c us:=by simp[Cy]
theorem Kp(c:Cx)(us vs:List Nat):Cy c (us++vs)=Cy c us++Cy c vs:=by simp[Cy]
theorem Sd{c:Cx}{us:List Nat}{b:Nat}:b∈Cy c us↔ ∃t∈us,b∈(c.G t).top:=by simp[Cy]
theorem Zq{c:Cx}(gw:GW c):∀{l:List Nat},l.Nodup->(Cy c l).Nodup
 | [],_=>by simp[Cy]
 |t::l,hl=>by
  rw[Zt,List.nodup_append];rw[List.nodup_cons]at hl;refine⟨?_,Zq gw hl.2,λa ha b hb hab=> ?_⟩
  ·have:=gw.nodup t;simp only[GI.own]at this;exact(List.nodup_append.1 this).1
  ·subst hab;obtain⟨u,hu,IA⟩:=Sd.1 hb;exact gw.cy t u (λhh=>hl.1 (hh▸hu)) a (by simp[GI.own,ha]) (by simp[GI.own,IA])
section
variable {P:Program} {c:Cx} {hp:Nat->Option Af} {gs:Gd}
theorem nF{m:Nat}{u g:Nat}{x y:E}(hx:BF hp gs m (.own u g)=some x)(hy:IU hp gs u g=some y):x=y:=by
 cases m with
 |zero=>simp[BF]at hx
 |succ m=>simp only[BF,hy,Ad]at hx;exact hx.symm
theorem zxg{m:Nat}{x:E}(h:BF hp gs m .emp=some x):x= .lst .nil:=by
 cases m with
 |zero=>simp[BF]at h
 |succ m=>simp[BF]at h;exact h.symm
theorem zwc(eh:EH c hp)(k:BA c.ρ gs){d:DT}{s:SV}{us:List Nat}{ck:List Cn}{v:Value}{x:E}{m:Nat}(h:oQ hp gs d s=some (us,ck))(hs:SR c [s] [v])(hx:BF hp gs m s=some x)(hc:∀q∈ck,q.den c.ρ):
  DC c.w [d] [v] [x.den c.ρ] (Cy c us)/\ ∀u∈us,∃g,c.K u g:=by
 unfold oQ at h;split at h
 ·rename_i y;simp only[Ad,AY]at h;obtain⟨rfl,rfl⟩:=h;rw[Lg hx];cases hs with
  |e h1 h2 h3=>
   rename_i f;have Fe:(y.den c.ρ).scalar=true:=by
    cases hl:UJ y with
    |true=>cases y<;>simp[UJ]at hl<;>rfl
    |false=>rw[hl]at hc;exact(Cg hc).2.2.2 rfl
   have hf:f=[]:=Hs h1 (by simpa using Fe);subst hf;exact⟨.flat h1 .nil,by simp⟩
 ·split at h
  ·rename_i hh;simp only[Ad,AY]at h;obtain⟨rfl,rfl⟩:=h;rw[Md hx];cases hs with
   |cm _=>exact⟨.void hh.1 hh.2 .nil,by simp⟩
  ·cases h
 ·split at h
  ·rename_i hh;simp only[Ad,AY]at h;obtain⟨rfl,rfl⟩:=h;rw[zxg hx];cases hs with
   |emp _=>exact⟨.void hh.1 hh.2 .nil,by simp⟩
  ·cases h
 ·rename_i e z l u g;split at h
  ·rename_i e' z' l' g' ep y hl;split at h
   ·rename_i hh;obtain⟨rfl,rfl,rfl,hb⟩:=hh;simp only[Ad,AY]at h;obtain⟨rfl,rfl⟩:=h;obtain⟨q1,q2,q3,q4,q5⟩:=eh u _ (CP hl k);rw[nF (y:=y) hx (by simp only[IU,hl,if_true])];have hb:=Av.of_eq hb;subst hb;rw[Av.c8]at q4;cases hs with
    |own k1 k2 _=>rw[k2]at q4;exact⟨by rw[Zt,kV,AB];exact q4,λw hw=>by simp at hw;subst hw;exact⟨_,k1⟩⟩
   ·cases h
  ·rename_i e' z' g' y hl;split at h
   ·rename_i hh;obtain⟨rfl,rfl,rfl,hf,hlen⟩:=hh;simp only[Ad,AY]at h;obtain⟨rfl,rfl⟩:=h;obtain⟨q1,q2,N,q4,q5,q6,q7⟩:=eh u _ (CP hl k);obtain⟨hN,_⟩:=q6 rfl;have hN:N=[]:=hN;subst hN;rw[nF (y:=y) hx (by simp only[IU,hl,if_true])];cases hs with
    |own k1 k2 _=>rw[k2]at q4;exact⟨by rw[Zt,kV,AB];exact DC.ko q4 hf hlen,λw hw=>by simp at hw;subst hw;exact⟨_,k1⟩⟩
   ·cases h
  ·cases h
 ·cases h
theorem jZ(eh:EH c hp)(k:BA c.ρ gs):∀(ds:List DT) {ss:List SV} {us:List Nat} {ck:List Cn} {vs:List Value} {xs:EL} {m:Nat},NR hp gs ds ss=some (us,ck)->SR c ss vs->CM hp gs m ss=some xs->(∀q∈ck,q.den c.ρ)->
  DC c.w ds vs (xs.den c.ρ) (Cy c us)/\ ∀u∈us,∃g,c.K u g
 | [],[],us,ck,vs,xs,m,h,hs,hx,hc=>by
  simp[NR]at h;obtain⟨rfl,rfl⟩:=h;cases hs;cases m with
  |zero=>simp[CM]at hx
  |succ m=>simp[CM]at hx;subst hx;exact⟨.nil,by simp⟩
 | [],_::_,us,ck,vs,xs,m,h,hs,hx,hc=>by simp[NR]at h
 |_::_,[],us,ck,vs,xs,m,h,hs,hx,hc=>by simp[NR]at h
 |d::ds,s::ss,us,ck,[],xs,m,h,hs,hx,hc=>by have:=hs.len;simp at this
 |d::ds,s::ss,us,ck,v::vs,xs,m,h,hs,hx,hc=>by
  obtain⟨j,y,ys,rfl,hy,Dx,rfl⟩:=K2 hx;obtain⟨r1,r2⟩:=hs.cr;unfold NR at h;split at h
  ·rename_i us1 ck1 us2 ck2 h1 h2;simp only[Ad,AY]at h;obtain⟨rfl,rfl⟩:=h;obtain⟨q1,q2⟩:=zwc eh k h1 r1 hy λq hq=>hc q (by simp[hq]);obtain⟨q3,q4⟩:=jZ eh k ds h2 r2 Dx λq hq=>hc q (by simp[hq]);refine⟨by rw[Kp];exact q1.app q3,λu hu=> ?_⟩;rcases Ac.1 hu with hu|hu
   ·exact q2 u hu
   ·exact q4 u hu
  ·cases h
theorem wB(eh:EH c hp)(k:BA c.ρ gs){t:TypeId}{ds:List DT}{s:SV}{us:List Nat}{ck:List Cn}{v:Value}{x:E}(Hb:ds.length=P.cellsOf t)(hg:Am P t=true\/P.cellsOf t=1)(h:S6 P hp gs t ds s=some (x,us,ck))(hs:SR c [s] [v])(hc:∀q∈ck,q.den c.ρ):
  DC c.w ds v.cells.toList (x.den c.ρ).cells (Cy c us)/\(∀u∈v.cells.toList,u.oneCell'=true)/\(x.den c.ρ).cells.length=P.cellsOf t/\v.cells.size=P.cellsOf t/\
   (if Am P t then∃cs,x.den c.ρ= .agg cs else(∀cs,x.den c.ρ≠ .agg cs)/\ ∀cs,x.den c.ρ≠ .tup cs)/\ ∀u∈us,∃g,c.K u g:=by
 unfold S6 at h;split at h
 ·cases h
 rename_i y hy;split at h
 ·rename_i B5;simp only[Ad,AY]at h;obtain⟨rfl,rfl,rfl⟩:=h;obtain⟨f,q1,q2⟩:=Ig eh k A8 hy hs A8 (AN _);obtain⟨c1,c2,c3,c4⟩:=Cg hc;have Ft:if Am P t then∃cs,y.den c.ρ= .agg cs/\cs.length=P.cellsOf t else(∀cs,y.den c.ρ≠ .agg cs)/\ ∀cs,y.den c.ρ≠ .tup cs:=by
   split
   ·rename_i AK;obtain⟨cs,BD⟩:=c3 AK;exact⟨cs,BD,by rw[BD]at c1;exact c1⟩
   ·rename_i AK;have:=c4 (by simpa using AK);exact⟨λcs BD=>by rw[BD]at this;simp[AV.scalar]at this,λcs BD=>by rw[BD]at this;simp[AV.scalar]at this⟩
  have hf:f=[]:=by
   cases pN:Am P t with
   |true=>obtain⟨cs,BD⟩:=c3 pN;obtain⟨as_,rfl,_,r⟩:=KE q1 BD;exact Hs r (by rw[BD]at c2;exact c2)
   |false=>exact Hs q1 (by simpa using c4 pN)
  subst hf;obtain⟨o1,o2,o3,o4⟩:=lN (P:=P) q1 hg Ft;refine⟨DC.kj o1 B5 (by rw[Hb];simpa using o4.symm),o2,o3,o4,?_,by simp⟩;split at Ft
  ·rename_i AK;rw[if_pos AK];obtain⟨cs,BD,_⟩:=Ft;exact⟨cs,BD⟩
  ·rename_i AK;rw[if_neg AK];exact Ft
 ·rename_i Gs;split at h
  ·cases h
  rename_i AK;have AK:(Ic s).2=Am P t:=by simpa using AK
  obtain⟨⟨us',ck'⟩,hr,h⟩:=As.1 h;simp only[AY]at h;obtain⟨rfl,rfl,rfl⟩:=h;have single:Am P t=false->NR hp gs ds [s]=some (us',ck')->DC c.w ds v.cells.toList (y.den c.ρ).cells (Cy c us')/\(∀u∈v.cells.toList,u.oneCell'=true)/\(y.den c.ρ).cells.length=P.cellsOf t/\v.cells.size=P.cellsOf t/\
   (if Am P t then∃cs,y.den c.ρ= .agg cs else(∀cs,y.den c.ρ≠ .agg cs)/\ ∀cs,y.den c.ρ≠ .tup cs)/\ ∀u∈us',∃g,c.K u g:=by
   intro AK hr;have Bx:CM hp gs (A8+1) [s]=some (.cons y .nil):=by unfold CM;rw[hy];rfl
   obtain⟨q1,q2⟩:=jZ eh k ds hr hs Bx hc;have pK:=q1.len;simp only[EL.den,Bd,List.length_nil]at pK
   match ds,pK,q1,Gs,Hb with
   | [d],_,q1,Gs,Hb=>
    cases d with
    |flat=>simp[DT.cc]at Gs
    |row e z l=>
     obtain⟨p,q,r,rfl⟩:=q1.head;obtain⟨xs,Cs⟩:∃xs,y.den c.ρ= .sl xs:=by
      obtain⟨_,_,⟨_,_,hx,_⟩|⟨_,_,_,_,_,_,hx,_⟩⟩:=q1.inv
      ·exact⟨_,hx⟩
      ·exact⟨_,hx⟩
     rw[if_neg (by rw[AK];simp)];refine⟨?_,by simp[Value.cells,Value.oneCell'],by rw[Cs,<-Hb];rfl,by rw[<-Hb];rfl,?_,q2⟩
     ·simp only[EL.den]at q1;rw[Cs]at q1 ⊢;exact q1
     ·rw[Cs];exact⟨λcs hh=>(by cases hh),λcs hh=>(by cases hh)⟩
  cases s with
  |agg cs=>
   simp only[Ic]at AK hr;obtain⟨m,l,hm,hl,rfl⟩:=V5 hy;cases hs with
   |agg h9 h1 h8=>rename_i as_;obtain⟨q1,q2⟩:=jZ eh k ds hr h1 hl hc;obtain⟨l1,l2⟩:=q1.len;rw[if_pos AK.symm];exact⟨by simpa[Value.cells,AV.cells,E.den]using q1,by simpa[Value.cells]using h9,by simp only[E.den,AV.cells];omega,by simp[Value.cells];omega,⟨_,rfl⟩,q2⟩
  |_=>exact single AK.symm hr
theorem uY(eh:EH c hp)(k:BA c.ρ gs){t:TypeId}{ds:List DT}(Hb:ds.length=P.cellsOf t)(hg:Am P t=true\/P.cellsOf t=1):∀(ss:List SV) (vs:List Value) {xs:List E} {us:List Nat} {ck:List Cn},SR c ss vs->V1 P hp gs t ds ss=some (xs,us,ck)->(∀q∈ck,q.den c.ρ)->
  DC c.w (Bq vs.length ds) (vs.flatMap λv=>v.cells.toList) (Ao (xs.map (E.den c.ρ))) (Cy c us)/\(∀v∈vs,v.cells.size=P.cellsOf t/\ ∀u∈v.cells.toList,u.oneCell'=true)/\(∀x∈xs,(x.den c.ρ).cells.length=P.cellsOf t)/\xs.length=vs.length/\ ∀u∈us,∃g,c.K u g
 | [],vs,xs,us,ck,hr,ht,hc=>by simp[V1]at ht;obtain⟨rfl,rfl,rfl⟩:=ht;cases hr;exact⟨by simpa[Ao,Bq,Cy]using DC.nil,by simp,by simp,rfl,by simp⟩
 |s::ss,[],xs,us,ck,hr,ht,hc=>by have:=hr.len;simp at this
 |s::ss,v::vs,xs,us,ck,hr,ht,hc=>by
  obtain⟨r1,r2⟩:=hr.cr;unfold V1 at ht;split at ht
  ·rename_i x us1 ck1 xs2 us2 ck2 h1 h2;simp only[Ad,AY]at ht;obtain⟨rfl,rfl,rfl⟩:=ht;obtain⟨q1,q2,q3,q4,q5,q6⟩:=wB eh k Hb hg h1 r1 (λq hq=>hc q (by simp[hq]));obtain⟨p1,p2,p3,p4,p5⟩:=uY eh k Hb hg ss vs r2 h2 (λq hq=>hc q (by simp[hq]));refine⟨?_,?_,?_,by simp[p4],?_⟩
   ·have:=q1.app p1;rw[Bd,PE,Kp];simpa[Ao]using this
   ·intro u hu;rcases Ae.1 hu with rfl|hu
    ·exact⟨q4,q2⟩
    ·exact p2 u hu
   ·intro u hu;rcases Ae.1 hu with rfl|hu
    ·exact q3
    ·exact p3 u hu
   ·intro u hu;rcases Ac.1 hu with hu|hu
    ·exact q6 u hu
    ·exact p5 u hu
  ·cases ht
theorem vQ(eh:EH c hp)(k:BA c.ρ gs){e z:Nat}{l:List DT}{s:SV}{us:List Nat}{v:Value}{y:E}{m:Nat}(h:WC hp gs e z l s=some us)(hs:SR c [s] [v])(hy:BF hp gs m s=some y):
  ∃ys q r news N,y.den c.ρ= .sl ys/\v= .slice q ys.length r/\Src c.w z q ys.length news/\DC c.w (Bq ys.length l) news (Ao ys) N/\N.Sublist (Cy c us)/\(∀y∈ys,y.cells.length=z)/\(∀u∈news,u.oneCell'=true)/\ ∀u∈us,∃g,c.K u g:=by
 have empt:∀q,v= .slice q 0 0->y= .lst .nil->us=[]-> ∃ys q r news N,y.den c.ρ= .sl ys/\v= .slice q ys.length r/\Src c.w z q ys.length news/\DC c.w (Bq ys.length l) news (Ao ys) N/\N.Sublist (Cy c us)/\(∀y∈ys,y.cells.length=z)/\(∀u∈news,u.oneCell'=true)/\ ∀u∈us,∃g,c.K u g:=by
  rintro q rfl rfl rfl;refine⟨[],q,0,[],[],rfl,rfl,?_,by simpa[Bq,Ao]using DC.nil,by simp,by simp,by simp,by simp⟩;cases q with
  |none=>exact .inl ⟨rfl,rfl,rfl⟩
  |some p=>exact .inr ⟨p,rfl,by simp,by simp,by simp⟩
 unfold WC at h;split at h
 ·simp only[Ad]at h;cases hs with
  |cm _=>exact empt _ rfl (Md hy) h.symm
 ·simp only[Ad]at h;cases hs with
  |emp _=>exact empt _ rfl (zxg hy) h.symm
 ·rename_i u g;split at h
  ·rename_i e' z' l' g' ep x hl;split at h
   ·rename_i hh;obtain⟨rfl,rfl,rfl,hb⟩:=hh;simp only[Ad]at h;subst h;have hb:=Av.fb hb;subst hb;obtain⟨q1,q2,q3,q4,q5⟩:=eh u _ (CP hl k);have Hn:=nF (y:=x) hy (by simp only[IU,hl,if_true]);subst Hn;cases hs with
    |own k1 k2 k3=>
     rename_i p0 n0 r0;rw[k2]at q4;have hK:∀w∈ [u],∃g,c.K w g:=λw hw=>by simp at hw;subst hw;exact⟨_,k1⟩
     obtain⟨d1,d2,⟨a9,d3,d4,d5⟩|⟨g9,cap,C,ys,N1,d3,d4,d5,d6,d7,d8,d9,d10,d11,d12⟩⟩:=q4.inv
     ·cases d3;refine⟨[],_,0,[],[],d4,rfl,?_,by simpa[Bq,Ao]using DC.nil,by simp,by simp,by simp,hK⟩;cases p0 with
      |none=>exact .inl ⟨rfl,rfl,rfl⟩
      |some p=>exact .inr ⟨p,rfl,by simp,by simp,by simp⟩
     ·cases d3;rw[Av.ax]at d12;have DL:C.toList.length=r0*z:=by simpa using d9
      refine⟨ys,_,r0,_,N1,d4,rfl, .inr ⟨_,rfl,?_,λj w hw=> ?_,d11⟩,d12,?_,d10,d11,hK⟩
      ·rw[Ar,DL];exact Nat.min_eq_left (By _ d7)
      ·rw[Addr.add_lit,Nat.zero_add,ED d6];rw[List.getElem?_take]at hw;split at hw
       ·simpa using hw
       ·cases hw
      ·rw[Zt,kV,AB,d5];exact List.sublist_cons_self _ _
   ·cases h
  ·cases h
 ·cases h
end
def Ge(T:List Nat):List AX:=T.map λu=>⟨u,none,[], .dead⟩
theorem zz0(T:List Nat):(Ge T).flatMap AX.top=[]:=by induction T<;>simp_all[Ge]
theorem zAS(T:List Nat):(Ge T).map AX.tag=T:=by induction T<;>simp_all[Ge]
theorem zxL(T:List Nat):((Ge T).map λr=>(r.tag,C5 [] r.bq))=Ez T:=by simp[Ge,Ez,C5]
theorem VN{T:List Nat}{r:AX}(h:r∈Ge T):r.tag∈T/\r.new=none/\r.top=[]/\r.bq= .dead:=by obtain⟨u,hu,rfl⟩:=List.mem_map.1 h;exact⟨hu,rfl,rfl,rfl⟩
section
variable {P:Program} {c:Cx} {n nx:Nat} {sl sl0:Nat->SV} {hp hp0:Nat->Option Af} {a:Act} {o:Oper} {gs:Gd} {e:Bh} {sg:BY} {nv:Nat}
theorem Rel.kq(h:Rel c n sl hp a){T:List Nat}(hT:T.Nodup)(GM:∀u∈T,c.U u){r0:AX}(Jd:r0.tag∉T)(FR:r0.new.isSome=true-> ¬c.U r0.tag)(DR:r0.new=none->c.U r0.tag){w':World}{hs:List Nat}(Hg:∀b∈hs,b∈(c.G r0.tag).top\/b∈Cy c T)(hm:Mod hs c.w w')
  (B6:r0.top.Nodup) (Ch:∀b∈r0.top,(b∈hs\/c.w.heap.size<=b)/\b<w'.heap.size) (BB:∀q f,r0.bq≠ .gd q f)
  (he:D6 c (c.du w' (r0::Ge T))->Fi c (c.du w' (r0::Ge T)) w' (r0::Ge T)->DE (c.du w' (r0::Ge T)) r0.tag r0.bq):
  Rel (c.du w' (r0::Ge T)) n sl (Bp hp ((r0.tag,r0.bq)::Ez T)) a/\D6 c (c.du w' (r0::Ge T))/\Fi c (c.du w' (r0::Ge T)) w' (r0::Ge T)/\ ∀t,(c.du w' (r0::Ge T)).U t->c.U t\/t=r0.tag:=by
 have hn:((r0::Ge T).map AX.tag).Nodup:=by rw[List.map_cons,zAS];exact List.nodup_cons.2 ⟨Jd,hT⟩
 have Bg:∀r∈r0::Ge T,r.new.isSome=true-> ¬c.U r.tag:=λr hr hs=>by
  rcases Ae.1 hr with rfl|hr
  ·exact FR hs
  ·rw[(VN hr).2.1]at hs;cases hs
 have aft:=Cx.dr (w':=w') h.bz hn Bg;obtain⟨q1,q2⟩:=h.changes (gs:=[]) (E4 _) hm hn Bg (λb hb=>by
   rcases Hg b hb with hb|hb
   ·exact⟨r0,by simp,hb⟩
   ·obtain⟨t,ht,CS⟩:=Sd.1 hb;exact⟨⟨t,none,[], .dead⟩,List.mem_cons_of_mem _ (List.mem_map.2 ⟨t,ht,rfl⟩),CS⟩)
  (by rw[List.flatMap_cons,zz0,AB];exact B6)
  (λr hr b hb=>by
   rcases Ae.1 hr with rfl|hr
   ·exact Ch b hb
   ·rw[(VN hr).2.2.1]at hb;cases hb)
  (λr hr=>by
   rcases Ae.1 hr with rfl|hr
   ·exact BB
   ·rw[(VN hr).2.2.2];intros;simp)
  (λhk r hr=>by
   rcases Ae.1 hr with rfl|hr
   ·exact he hk aft
   ·have kg:=aft.G r (List.mem_cons_of_mem _ hr);obtain⟨_,_,e1,e2⟩:=VN hr;rw[e2];exact⟨by rw[kg,e1],by rw[kg]⟩)
 refine⟨?_,q2,aft,λt ht=> ?_⟩
 ·rw[List.map_cons,zxL]at q1;have:C5 [] r0.bq=r0.bq:=rfl;rw[this]at q1;exact q1
 ·rcases ht with ht|⟨r,hr,rfl⟩
  ·exact .inl ht
  ·rcases Ae.1 hr with rfl|hr
   ·exact .inr rfl
   ·exact .inl (GM _ (VN hr).1)
theorem AD.ez(h:BE P c n nx sl hp a sl0 hp0 o []){T:List Nat}(hT:T.Nodup)(GM:∀u∈T,∃g,c.K u g){v':Value}{w':World}{ck:List Cn}{e z:Nat}{l:List DT}{x:E}{top:List Nat}(hr:(execOp a.eval o).run P c.w= .ok (.value v') w')(hm:Mod (Cy c T) c.w w')
  (B6:top.Nodup) (Ch:∀b∈top,(b∈Cy c T\/c.w.heap.size<=b)/\b<w'.heap.size) (hd:DC w' [.row e z (Av.of l)] [v'] [x.den c.ρ] top):
  AD P o c n nx sl hp [] a {cj:=ck,val:= .own nx 0,bq:=(nx, .deep e z l 0 0 x)::Ez T}:=by
 intro next Q hk
 unfold Oper.wp;rw[hr,Oper.upon_value];have hU:=ND h;have Lt:∀u∈T,c.U u:=λu hu=>by obtain⟨g,hg⟩:=GM u hu;exact h.rel.bz _ _ hg
 obtain⟨q1,q2,q3,q4⟩:=h.rel.kq (r0:=⟨nx,some v',top, .deep e z l 0 0 x⟩) hT Lt (λhh=>hU (Lt _ hh)) (λ_=>hU) (λhh=>by cases hh) (λb hb=> .inr hb) hm B6 Ch (by intros;simp) (λ_ aft=>by obtain⟨k1,k2,k3⟩:=aft.new _ (List.mem_cons_self ..) v' rfl;have kg:=aft.G _ (List.mem_cons_self ..);have ke:=aft.iu _ (List.mem_cons_self ..) rfl;simp only at k1 k2 k3 kg ke;exact⟨k1,k2,ke,by rw[k3,kg,aft.w,aft.ρ];exact hd,by rw[kg]⟩)
 obtain⟨k1,k2,k3⟩:=q3.new _ (List.mem_cons_self ..) v' rfl;simp only at k1 k3;obtain⟨p,m,r,rfl⟩:=hd.head;refine hk _ (c.du w' _) ⟨rfl,rfl,rfl,rfl,λt ht=> ?_⟩ (q1.put (SR.own k1 k3 .nil) o.dst);rcases q4 t ht with ht|rfl
 ·exact .inl ht
 ·exact .inr ⟨AN _,by simp[BW]⟩
theorem AD.j9(h:BE P c n nx sl hp a sl0 hp0 o []){T:List Nat}(hT:T.Nodup)(GM:∀u∈T,∃g,c.K u g){b g ep:Nat}(hb:b∉T)(hK:c.K b g)(Fp:∀g',c.K b g'->g'<=g)(hE:c.E b=ep){w':World}{ck:List Cn}{e z:Nat}{l:List DT}{x:E}{top:List Nat}(hr:(execOp a.eval o).run P c.w= .ok .skip w'){hs:List Nat}(Hg:∀q∈hs,q∈(c.G b).top\/q∈Cy c T)(hm:Mod hs c.w w')
  (B6:top.Nodup) (Ch:∀q∈top,(q∈hs\/c.w.heap.size<=q)/\q<w'.heap.size) (hd:DC w' [.row e z (Av.of l)] [c.H b g] [x.den c.ρ] top):
  AD P o c n nx sl hp [] a {cj:=ck,bq:=(b, .deep e z l g (ep+1) x)::Ez T}:=by
 intro next Q hk
 unfold Oper.wp;rw[hr,Oper.upon_skip];have Lt:∀u∈T,c.U u:=λu hu=>by obtain⟨g,hg⟩:=GM u hu;exact h.rel.bz _ _ hg
 have bN:=h.rel.bz _ _ hK;obtain⟨q1,q2,q3,q4⟩:=h.rel.kq (r0:=⟨b,none,top, .deep e z l g (ep+1) x⟩) hT Lt hb (λhh=>by cases hh) (λ_=>bN) Hg hm B6 Ch (by intros;simp) (λ_ aft=>by have kg:=aft.G _ (List.mem_cons_self ..);have ke:=aft.gj _ (List.mem_cons_self ..) rfl;obtain⟨k1,k2⟩:=aft.K b g hK;simp only at kg ke;exact⟨k1,λg' CE=>Fp g' (aft.old b bN g' CE),by rw[ke,hE],by rw[k2,kg,aft.w,aft.ρ];exact hd,by rw[kg]⟩)
 refine hk _ (c.du w' _) ⟨rfl,rfl,rfl,rfl,λt ht=> ?_⟩ (q1.put ((SR.undef .nil).mkGd []) o.dst);rcases q4 t ht with ht|rfl
 ·exact .inl ht
 ·exact .inl bN
theorem lK{w w':World}{row:Option Nat}{S:List Nat}(h:w.grownBy w' row)(hr:∀g,row=some g->g∈S\/w.heap.size<=g):Mod S w w':=by
 refine⟨h.os,h.tape,h.output,h.size,λb hb hn=>h.block b hb λhh=> ?_⟩;rcases hr b hh.symm with h1|h1
 ·exact hn h1
 ·omega
theorem jX(h:BE P c n nx sl hp a sl0 hp0 o []){x y:Operand}{tx:TypeId}{cl:Call}(ho:o.op= .call cl)(Aw:cl.callee= .builtin .append)(C3:cl.args.toList=[x,y])(DZ:cl.argTypes.toList=[tx,tx])
  {el:TypeId} (Bx:P.underlying tx=some (.slice el)) (hz:Hv P el=true) {l:List DT} (hl:l.length=P.cellsOf el) {T us:List Nat} (hT:(T++us).Nodup) (GM:∀u∈T,∃g,c.K u g) {s2:SV} {ye:E} (Bb:BM sl0 [] y=some s2) (hy:BF hp0 [] A8 s2=some ye) (CF:WC hp0 [] el (P.cellsOf el) l s2=some us)
  {c0:E} {v:Value} (hv:a.eval x=v) {N:List Nat} (AT:DC c.w [.row el (P.cellsOf el) (Av.of l)] [v] [c0.den c.ρ] N) (hN:N=Cy c T) {ck:List Cn} (BQ:Cn.den c.ρ (.room c0 ye (P.bytesOf el))):
  AD P o c n nx sl hp [] a {cj:=ck,val:= .own nx 0,bq:=(nx, .deep el (P.cellsOf el) l 0 0 (.app c0 ye))::Ez (T++us)}:=by
 have Ah:cl.args= #[x,y]:=by apply Array.ext';simp[C3]
 have FU:cl.argTypes= #[tx,tx]:=by apply Array.ext';simp[DZ]
 have CT:y∈o.op.operands:=by simp[ho,Op.operands,Call.operands,Aw,Ah]
 obtain⟨i,z,hi,FP,CU,Bo,Cu,EB⟩:=K1 hz;obtain⟨ys,q,r,news,N2,Dx,Dn,Dm,Ox,B1,Jg,ON,eH⟩:=vQ h.eh h.gs CF (h.c7 Bb CT) hy;have Di:=Zq h.rel.gw hT;rw[Kp]at Di;have EU:∀b∈Cy c (T++us),b<c.w.heap.size:=λb hb=>by obtain⟨t,_,CS⟩:=Sd.1 hb;exact h.rel.gw.inb t b (by simp[GI.own,CS])
 obtain⟨mm,kk,FR,DR,MY,Xa⟩:=BQ;obtain⟨d1,d2,A4⟩:=AT.inv;rw[Av.ax]at d2 A4;have hU:∀u∈T++us,∃g,c.K u g:=λu hu=>by
  rcases Ac.1 hu with hu|hu
  ·exact GM u hu
  ·exact eH u hu
 obtain⟨xs,old,N1,Cs,hold,Fx,bY,GU,Cp,KN,Oi⟩:∃(xs:List AV) (old:List Value) (N1:List Nat),c0.den c.ρ= .sl xs/\old.length=xs.length*i.size/\((xs.length=0/\ ∃q,v= .slice q 0 0)\/ ∃g cap C,v= .slice (some ⟨g,0,none⟩) xs.length cap/\xs.length<=cap/\cap<=maxLen/\c.w.heap[g]?=some (.cells C el (0,0))/\C.size=cap*i.size/\old=C.toList.take (xs.length*i.size)/\(g∈Cy c T/\g∉N1))/\
   DC c.w (Bq xs.length l) old (Ao xs) N1/\(∀y∈xs,y.cells.length=P.cellsOf el)/\(∀u∈old,u.oneCell'=true)/\(∀b∈N1,b∈Cy c T)/\N1.Nodup:=by
  rcases A4 with⟨p,rfl,FC,rfl⟩|⟨g9,cap,C,xs,N1,rfl,FC,rfl,h6,h7,h8,h9,Fk,EM,FJ⟩
  ·exact⟨[],[],[],FC,by simp, .inl ⟨rfl,p,rfl⟩,by simpa[Bq,Ao]using DC.nil,by simp,by simp,by simp,by simp⟩
  ·have B6:(g9::N1).Nodup:=by rw[hN];exact(List.nodup_append.1 Di).1
   rw[List.nodup_cons]at B6;refine⟨xs,_,N1,FC,?_, .inr ⟨g9,cap,C,rfl,h7,h8,h6,by rw[<-Cu];exact h9,rfl,by rw[<-hN];simp,B6.1⟩,by rw[<-Cu];exact FJ,Fk,by rw[<-Cu];exact EM,λb hb=>by rw[<-hN];simp[hb],B6.2⟩;have e9:C.toList.length=cap*i.size:=by rw[<-Cu,<-h9];simp
   rw[Ar,e9];exact Nat.min_eq_left (By _ h7)
 rw[Cs]at FR;rw[Dx]at DR;simp only[AV.len,AV.int.injEq,true_and]at FR DR;have Gh:(xs.length+ys.length)*i.bytes<=140737488355328:=by
  rw[<-FR,<-DR,EB]at MY;have h9:(((xs.length+ys.length)*i.bytes:Nat):Int)<=140737488355328:=by rw[Int.natCast_mul,Int.natCast_add];exact MY
  omega
 have Gi:xs.length+ys.length<=140737488355328:=by rw[<-FR,<-DR]at Xa;omega
 rw[Cu]at Dm;obtain⟨v',w',AR,AL⟩:=PN (P:=P) c.w tx o.type el i z Bx hi FP CU Bo (λg9=>g9∈Cy c T/\g9∉N1) v xs.length old hold Fx q ys.length r news Dm (by simp only[maxLen];omega) Gh;have Dl:(execOp a.eval o).run P c.w= .ok (.value v') w':=by simp[execOp,ho,resolve,Aw,Ah,FU,invoke,builtin,hv,Dn,AR]
 have Tq:∀b∈N2,b∈Cy c us:=λb hb=>B1.subset hb;have Oj:N2.Nodup:=B1.nodup (List.nodup_append.1 Di).2.1;have Lw:(E.app c0 ye).den c.ρ= .sl (xs++ys):=by simp only[E.den,Cs,Dx,AV.app]
 rcases AL with⟨rfl,rfl,Cr⟩|⟨g9,cap,C,rfl,h1,h2,h3,h4,h5,h6,h7⟩
 ·have H7:ys=[]:=List.eq_nil_of_length_eq_zero Cr;subst H7;refine AD.ez h hT hU Dl (Mod.refl _ _) (top:=N) (by rw[hN];exact(List.nodup_append.1 Di).1) (λb hb=>⟨.inl (by rw[Kp,<-hN];simp[hb]),EU b (by rw[Kp,<-hN];simp[hb])⟩) ?_;rw[Lw,AB,<-Cs];exact AT
 ·have IE:(g9∈Cy c T\/c.w.heap.size<=g9)/\g9∉N1/\g9∉N2:=by
   rcases h7 with⟨rfl,_⟩|⟨hg,CE⟩
   ·refine⟨.inr (AN _),λhh=> ?_,λhh=> ?_⟩
    ·have:=EU _ (by rw[Kp];exact Ac.2 (.inl (KN _ hh)));omega
    ·have:=EU _ (by rw[Kp];exact Ac.2 (.inr (Tq _ hh)));omega
   ·exact⟨.inl hg,CE,λhh=>(List.nodup_append.1 Di).2.2 _ hg _ (Tq _ hh) rfl⟩
  have Bi:∀b∈N1++N2,w'.heap[b]?=c.w.heap[b]?:=λb hb=>by
   have Ax:b<c.w.heap.size:=EU b (by
    rw[Kp];rcases Ac.1 hb with hb|hb
    ·exact Ac.2 (.inl (KN b hb))
    ·exact Ac.2 (.inr (Tq b hb)))
   refine h6.block b Ax λhh=> ?_;cases hh;rcases Ac.1 hb with hb|hb
   ·exact IE.2.1 hb
   ·exact IE.2.2 hb
  refine AD.ez h hT hU Dl (lK h6 λg hg=> ?_) (top:=g9::(N1++N2)) ?_ (λb hb=> ?_) ?_
  ·cases hg;rcases IE.1 with hh|hh
   ·exact .inl (by rw[Kp];exact Ac.2 (.inl hh))
   ·exact .inr hh
  ·refine List.nodup_cons.2 ⟨λhh=> ?_,List.nodup_append.2 ⟨Oi,Oj,λp hp q hq=> ?_⟩⟩
   ·rcases Ac.1 hh with hh|hh
    ·exact IE.2.1 hh
    ·exact IE.2.2 hh
   ·exact(List.nodup_append.1 Di).2.2 p (KN p hp) q (Tq q hq)
  ·rcases Ae.1 hb with rfl|hb
   ·refine⟨?_,De h3⟩;rcases IE.1 with hh|hh
    ·exact .inl (by rw[Kp];exact Ac.2 (.inl hh))
    ·exact .inr hh
   ·have pG:b∈Cy c (T++us):=by
     rw[Kp];rcases Ac.1 hb with hb|hb
     ·exact Ac.2 (.inl (KN b hb))
     ·exact Ac.2 (.inr (Tq b hb))
    exact⟨.inl pG,Nat.lt_of_lt_of_le (EU b pG) h6.size⟩
  ·rw[Lw];have hlen:(xs++ys).length=xs.length+ys.length:=AH;rw[Cu]at d1 d2 GU Jg ⊢;have:=DC.row (w:=w') (e:=el) (z:=i.size) (l:=Av.of l) (g:=g9) (cap:=cap) (C:=C) (ys:=xs++ys) (N1:=N1++N2) (ts:=[]) (vs:=[]) (xs:=[]) (N:=[]) d1 (by rw[Av.ax];exact d2) h3 (by rw[hlen];exact h1) h2 h4 (λw hw=> ?_) (by
     rw[hlen,h5];intro u hu;rcases Ac.1 hu with hu|hu
     ·exact Cp u hu
     ·exact ON u hu) (by
     rw[hlen,h5,VA,K7,Av.ax];exact(bY.app Ox).frame Bi) .nil
   ·rw[hlen]at this;simpa using this
   ·rcases Ac.1 hw with hw|hw
    ·exact GU w hw
    ·exact Jg w hw
end
section
variable {P:Program} {c:Cx} {n nx:Nat} {sl sl0:Nat->SV} {hp hp0:Nat->Option Af} {a:Act} {o:Oper} {gs:Gd} {e:Bh} {sg:BY} {nv:Nat}
theorem zyj{l:List Nat}(h:Ms l=true):l.Nodup:=Si h
theorem zru(h:BE P c n nx sl hp a sl0 hp0 o gs){x y:Operand}{tx ty:TypeId}{cl:Call}(ho:o.op= .call cl)(Aw:cl.callee= .builtin .append)(C3:cl.args.toList=[x,y])(DZ:cl.argTypes.toList=[tx,ty])
  {s1 s2:SV} (BL:BM sl0 gs x=some s1) (Bb:BM sl0 gs y=some s2) (he:ZB P hp0 gs nx tx ty s1 s2=some e) (hc:∀q∈e.cj,Cn.den c.ρ q):AD P o c n nx sl hp gs a e:=by
 have Ah:cl.args= #[x,y]:=by apply Array.ext';simp[C3]
 have DH:x∈o.op.operands:=by simp[ho,Op.operands,Call.operands,Aw,Ah]
 have CT:y∈o.op.operands:=by simp[ho,Op.operands,Call.operands,Aw,Ah]
 unfold ZB at he;split at he
 ·cases he
 rename_i J3;have J3:tx=ty:=by simpa using J3
 subst J3;split at he
 ·rename_i el e' z dl Bx DQ;have JI:=Jk Bx;split at he
  ·cases he
  rename_i AA;simp only[not_or,Bc,Bool.not_eq_false,Bool.not_eq_true,ne_eq,Decidable.not_not]at AA;obtain⟨hz,Gs,rfl,rfl⟩:=AA;obtain⟨_,_,l,JV,Ea⟩:=V0 (ZM Bx) DQ;simp only[DT.row.injEq,true_and]at JV;subst JV;rw[Av.ax]at he;have r1:=h.c7 BL DH;split at he
  ·rename_i ye us hy CF;have hU:∀u∈us,∃g,c.K u g:=(vQ h.eh h.gs CF (h.c7 Bb CT) hy).choose_spec.choose_spec.choose_spec.choose_spec.choose_spec.2.2.2.2.2.2.2;have O0:us.Nodup:=by
    unfold WC at CF;split at CF
    ·simp only[Ad]at CF;subst CF;simp
    ·simp only[Ad]at CF;subst CF;simp
    ·split at CF
     ·split at CF
      ·simp only[Ad]at CF;subst CF;simp
      ·cases CF
     ·cases CF
    ·cases CF
   have GX:0<P.cellsOf e':=by obtain⟨i,_,_,_,_,h1,h2,_⟩:=K1 hz;omega
   split at he
   ·rename_i t g;split at he
    ·rename_i e2 z2 l2 g2 ep c0 hl;split at he
     ·rename_i hh;obtain⟨rfl,rfl,hb,rfl,Eu⟩:=hh;have hb:=Av.fb hb;subst hb;simp only[Ad]at he;subst he;obtain⟨q1,q2,q3,q4,q5⟩:=h.eh t _ (CP hl h.gs);generalize hv:a.eval x=v at r1;cases r1 with
      |own k1 k2 _=>rw[k2]at q4;simp only[Bc,List.contains_eq_mem,decide_eq_false_iff_not]at Eu;exact jX h ho Aw C3 DZ JI hz Ea (T:=[t]) (by simpa using List.nodup_cons.2 ⟨Eu,O0⟩) (λu hu=>by simp at hu;subst hu;exact⟨_,k1⟩) Bb hy CF hv q4 (by simp[Cy]) (hc _ (by simp))
     ·cases he
    ·cases he
   ·simp only[Ad]at he;subst he;generalize hv:a.eval x=v at r1;cases r1 with
    |emp _=>exact jX h ho Aw C3 DZ JI hz Ea (T:=[]) (by simpa using O0) (by simp) Bb hy CF hv (c0:= .lst .nil) (.void GX (by rw[Av.ax];exact Ea) .nil) rfl (hc _ (by simp))
   ·simp only[Ad]at he;subst he;generalize hv:a.eval x=v at r1;cases r1 with
    |cm _=>exact jX h ho Aw C3 DZ JI hz Ea (T:=[]) (by simpa using O0) (by simp) Bb hy CF hv (c0:= .lst .nil) (.void GX (by rw[Av.ax];exact Ea) .nil) rfl (hc _ (by simp))
   ·cases he
  ·cases he
 ·cases he
theorem AD.fm(h:BE P c n nx sl hp a sl0 hp0 o []){T:List Nat}(hT:T.Nodup)(GM:∀u∈T,∃g,c.K u g){ck:List Cn}{el z:Nat}{l:List DT}(hz:0<z)(hl:l.length=z){x:E}{xs:List AV}{C:Array Value}{cap:Nat}(hx:x.den c.ρ= .sl xs)(Aw:∀y∈xs,y.cells.length=z)(hle:xs.length<=cap)(Fl:cap<=maxLen)(hC:C.size=cap*z)
  (h1:∀u∈C.toList.take (xs.length*z),u.oneCell'=true) (hD:DC c.w (Bq xs.length l) (C.toList.take (xs.length*z)) (Ao xs) (Cy c T))
  (hr:(execOp a.eval o).run P c.w= .ok (.value (.slice (some ⟨c.w.heap.size,0,none⟩) xs.length cap)) (c.w.alloc (.cells C el))):
  AD P o c n nx sl hp [] a {cj:=ck,val:= .own nx 0,bq:=(nx, .deep el z l 0 0 x)::Ez T}:=by
 have EU:∀b∈Cy c T,b<c.w.heap.size:=λb hb=>by obtain⟨t,_,CS⟩:=Sd.1 hb;exact h.rel.gw.inb t b (by simp[GI.own,CS])
 have Bg:(c.w.alloc (.cells C el)).heap[c.w.heap.size]?=some (.cells C el (0,0)):=heap_alloc_new c.w _;have OC:c.w.grownBy (c.w.alloc (.cells C el)) (some c.w.heap.size):=⟨rfl,rfl,rfl,by simp,λj hj _=>Below.heap_alloc c.w _ _ hj⟩
 refine AD.ez h hT GM hr (lK OC λg hg=> .inr (by cases hg;exact AN _)) (top:=c.w.heap.size::Cy c T) ?_ (λb hb=> ?_) ?_
 ·exact List.nodup_cons.2 ⟨λhh=>by have:=EU _ hh;omega,Zq h.rel.gw hT⟩
 ·rcases Ae.1 hb with rfl|hb
  ·exact⟨.inr (AN _),by simp⟩
  ·exact⟨.inl hb,Nat.lt_of_lt_of_le (EU b hb) (by simp)⟩
 ·rw[hx];have:=DC.row (w:=c.w.alloc (.cells C el)) (e:=el) (z:=z) (l:=Av.of l) (g:=c.w.heap.size) (cap:=cap) (C:=C) (ys:=xs) (N1:=Cy c T) (ts:=[]) (vs:=[]) (xs:=[]) (N:=[]) hz (by rw[Av.ax];exact hl) Bg hle Fl hC Aw h1 (by
   rw[Av.ax];exact hD.frame λb hb=>Below.heap_alloc c.w _ _ (EU b hb)) .nil
  simpa using this
theorem zrQ(h:BE P c n nx sl hp a sl0 hp0 o gs){t:TypeId}{m:Nat}{parts:Array (Nat × Operand)}(ho:o.op= .buildSlice t m parts){ps:List (Nat × SV)}(KO:parts.toList.mapM (λ(p:Nat × Operand)=>(BM sl0 gs p.2).map λs=>(p.1,s))=some ps)(he:ZK P hp0 gs nx t m ps=some e)(hc:∀q∈e.cj,Cn.den c.ρ q):AD P o c n nx sl hp gs a e:=by
 obtain⟨e1,e2⟩:=Zv (c:=c) (a:=a) (parts.toList.map (·.2)) (λx s hx hm=>h.c7 hx (by simpa[ho,Op.operands]using hm)) (λx hx=>List.mem_map.2 ⟨x,hx,rfl⟩) KO;unfold ZK at he;split at he
 ·rename_i el e' zz dl JJ DQ;have Bx:=Jk JJ;split at he
  ·cases he
  rename_i AA;simp only[not_or,Bc,Bool.not_eq_false',ne_eq,Bool.not_eq_false,Bool.not_eq_true,Nat.not_lt,Decidable.not_not]at AA;obtain⟨hz,Gs,rfl,rfl,Bv,AK,hle,EO⟩:=AA;obtain⟨_,_,l,JV,Ea⟩:=V0 (ZM JJ) DQ;simp only[DT.row.injEq,true_and]at JV;subst JV;rw[Av.ax]at he;have AK:Am P e'=true\/P.cellsOf e'=1:=by simpa using AK
  obtain⟨i,z,hi,FP,CU,Bo,Cu,EB⟩:=K1 hz;split at he
  ·rename_i xs us ck M7;split at he
   ·rename_i B6;simp only[Ad]at he;subst he;obtain⟨p1,p5,p6,p7,p8⟩:=uY h.eh h.gs Ea AK (ps.map (·.2)) (parts.toList.map λp=>a.eval p.2) e2 M7 hc;have hlen:(parts.toList.map λp=>a.eval p.2).length=m:=by
     have:ps.length=m:=by have:=congrArg List.length EO;simpa using this
     have h9:=congrArg List.length e1;simp at h9 ⊢;omega
    have Hk:(parts.map λ(x:Nat × Operand)=>(x.1,a.eval x.2)).toList=((parts.toList.map λp=>a.eval p.2).zipIdx 0).map λp=>(p.2,p.1):=by
     have OF:parts.toList.map (·.1)=List.range m:=by rw[<-e1,EO]
     apply List.ext_getElem?;intro j;have hj:(parts.toList.map (·.1))[j]?=(List.range m)[j]?:=by rw[OF]
     simp only[Array.toList_map,List.getElem?_map,List.getElem?_zipIdx]at hj ⊢;cases hp:parts.toList[j]? with
     |none=>simp
     |some p=>
      rw[hp]at hj;simp only[Option.map_some,Ad]at hj ⊢;have cS:j<m:=by
       rcases Nat.lt_or_ge j m with hh|hh
       ·exact hh
       ·rw[List.getElem?_eq_none (by simpa using hh)]at hj;cases hj
      rw[List.getElem?_range cS]at hj;simp at hj;simp[hj]
    obtain⟨C',f1,f2⟩:=lG (sz:=i.size) (λj=>some (j*i.size,i.size)) (λj=>rfl) (parts.toList.map λp=>a.eval p.2) 0 ((Array.range (m*i.size)).map (λj=>(if m*i.size=0 then #[]else z.cells)[j % (if m*i.size=0 then #[]else z.cells).size]!)) [] _ (by simp;rfl) (by simp) (by simp[hlen]) (λv hv=>by rw[<-Cu];exact(p5 v hv).1);have DL:C'.toList.length=m*P.cellsOf e':=by
     rw[f2,Cu];simp only[List.nil_append];have:∀(L:List Value),(∀v∈L,v.cells.size=i.size)->(L.flatMap λv=>v.cells.toList).length=L.length*i.size:=by
      intro L
      induction L with
      |nil=>intro _;simp
      |cons v L ih=>intro hL;simp only[List.flatMap_cons,AH,Bd,BG];rw[ih (λu hu=>hL u (by simp[hu])),hL v (by simp),Nat.add_mul];omega
     rw[this _ (λv hv=>by rw[<-Cu];exact(p5 v hv).1),hlen]
    have IN:(xs.map (E.den c.ρ)).length=m:=by rw[List.length_map,p7,hlen]
    have B2:C'.toList.take ((xs.map (E.den c.ρ)).length*P.cellsOf e')=(parts.toList.map λp=>a.eval p.2).flatMap λv=>v.cells.toList:=by rw[IN,<-DL,List.take_length,f2];simp
    refine AD.fm h (zyj B6) p8 (by omega) Ea (xs:=xs.map (E.den c.ρ)) (C:=C') (cap:=m) (by simp[E.den,EL.dq]) (λy hy=> ?_) (by omega) (by simp only[maxLen];have:m*1<=m*P.cellsOf e':=Nat.mul_le_mul_left _ (by omega);omega) (by rw[<-BG,DL]) ?_ ?_ ?_
    ·obtain⟨q,hq,rfl⟩:=List.mem_map.1 hy;exact p6 q hq
    ·rw[B2];intro u hu;obtain⟨v,hv,hu⟩:=List.mem_flatMap.1 hu;exact(p5 v hv).2 u hu
    ·rw[B2,IN,<-hlen];exact p1
    ·rw[IN];have AR:=uJ (P:=P) Bx Bv hi FP Cu m (by rw[<-Cu];omega) (parts.map λ(x:Nat × Operand)=>(x.1,a.eval x.2)) C' (by rw[Hk];exact f1) c.w;simp only[execOp,ho,Sem.run_bind];rw[AR];rfl
   ·cases he
  ·cases he
 ·cases he
theorem kJ{w:World}:∀{ds:List DT} {ss:List SV} {vs:List Value},P0 ds ss=true->SR c ss vs-> ∀{xs:EL} {m:Nat},CM hp0 gs m ss=some xs->DC w ds vs (xs.den c.ρ) []
 | [],[],vs,_,hs,xs,m,hx=>by
  cases hs;cases m with
  |zero=>simp[CM]at hx
  |succ m=>simp[CM]at hx;subst hx;exact .nil
 | [],_::_,_,h,_,_,_,_=>by simp[P0]at h
 |_::_,[],_,h,_,_,_,_=>by simp[P0]at h
 |d::ds,s::ss,[],h,hs,_,_,_=>by have:=hs.len;simp at this
 |d::ds,s::ss,v::vs,h,hs,xs,m,hx=>by
  obtain⟨j,y,ys,rfl,hy,Dx,rfl⟩:=K2 hx;obtain⟨r1,r2⟩:=hs.cr;simp only[P0,Ab]at h;have ih:=kJ (w:=w) h.2 r2 Dx;unfold sM at h;obtain⟨h1,_⟩:=h;split at h1
  ·rename_i y';rw[EL.den,Lg hy];cases r1 with
   |e g1 g2 _=>
    cases y'<;>simp[UJ]at h1
    ·cases g1 with
     |int hk _=>exact .flat (.int hk .nil) ih
    ·cases g1 with
     |bool _=>exact .flat (.bool .nil) ih
    ·rename_i s0;generalize hq:(E.str s0).den c.ρ=q at g1;cases g1 with
     |str hk _=>exact .flat (.str hk .nil) ih
     |_=>simp[E.den]at hq
  ·simp only[Ab,AI,AM]at h1;rw[EL.den,Md hy];cases r1 with
   |cm _=>exact .void h1.1 h1.2 ih
  ·cases h1
theorem DC.rep{w:World}{ds:List DT}{vs:List Value}{xs:List AV}(h:DC w ds vs xs []):∀k,DC w (Bq k ds) (List.replicate k vs).flatten (List.replicate k xs).flatten []
 |0=>by simpa[Bq]using DC.nil
 |k+1=>by rw[PE,List.replicate_succ,List.flatten_cons,List.replicate_succ,List.flatten_cons];simpa using h.app (DC.rep h k)
theorem ztX(h:BE P c n nx sl hp a sl0 hp0 o gs){t:TypeId}{l m:Operand}(ho:o.op= .makeSlice t l m){s1 s2:SV}(BL:BM sl0 gs l=some s1)(Bb:BM sl0 gs m=some s2)(he:Z3 P hp0 gs nx t s1 s2=some e)(hc:∀q∈e.cj,Cn.den c.ρ q):AD P o c n nx sl hp gs a e:=by
 have DH:l∈o.op.operands:=by simp[ho,Op.operands]
 have CT:m∈o.op.operands:=by simp[ho,Op.operands]
 unfold Z3 at he;split at he
 ·rename_i el e' zz dl x y JJ DQ;have Bx:=Jk JJ;split at he
  ·cases he
  rename_i AA;simp only[not_or,Bc,Bool.not_eq_false',ne_eq,Bool.not_eq_false,Bool.not_eq_true,Decidable.not_not]at AA;obtain⟨hz,Gs,rfl,rfl,Hm,cJ⟩:=AA;have cJ:gs=[]:=by simpa using cJ
  subst cJ;obtain⟨_,_,dl',JV,Ea⟩:=V0 (ZM JJ) DQ;simp only[DT.row.injEq,true_and]at JV;subst JV;rw[Av.ax]at he;obtain⟨i,z,hi,FP,CU,Bo,Cu,EB⟩:=K1 hz;have r1:=h.c7 BL DH;have r2:=h.c7 Bb CT;have ival:∀{x:E} {kk:IntKind} {k:Int} {v:Value},SR c [.e x] [v]->x.den c.ρ= .int kk k->v= .int kk k:=by
   intro x kk k v hr hx;cases hr with
   |e h1 _ _=>exact(Gb h1 hx).1
  split at he
  ·rename_i s hs;have hs:Fg z=some s:=by simpa[hi,FP]using hs
   split at he
   ·rename_i Xg;obtain⟨w,hw,rfl⟩:=As.1 he;obtain⟨kk,k,hk,h0,hb,hle⟩:Cn.den c.ρ (.mkroom x (P.bytesOf e')):=Cg hc;have FB:=ival r1 hk;have Dn:=ival r2 (by rw[<-E.ay c.ρ _ _ Hm];exact hk);have qN:DC c.w dl' z.cells.toList (w.den c.ρ).cells []:=by
     have LR:=ZC (c:=c) hs;unfold rK at Xg;cases s with
     |agg cs=>
      obtain⟨k9,l9,hm,hl9,rfl⟩:=V5 hw;cases LR with
      |agg h9 h1 h8=>have:=kJ (w:=c.w) Xg h1 hl9;simpa[Value.cells,AV.cells,E.den]using this
     |cm=>
      have Bx:CM hp0 [] (A8+1) [.cm]=some (.cons w .nil):=by unfold CM;rw[hw];rfl
      have:=kJ (w:=c.w) Xg LR Bx;rw[Md hw]at this ⊢;cases LR with
      |cm _=>simpa[Value.cells,AV.cells,E.den,EL.den]using this
     |_=>cases Xg
    obtain⟨c1,c2⟩:=kH (w:=c.w) (ρ:=c.ρ) hs hw;obtain⟨kn,rfl⟩:=Int.eq_ofNat_of_zero_le h0;have D8:(i.bytes:Int)*(kn:Int)<=281474976710656:=by rw[EB]at hb;rw[Int.mul_comm];omega
    have hlen:=c1.len;have W3:=Zk z.cells (by omega) kn;have AR:=run_make (P:=P) c.w t e' i z Bx hi FP kk kk kn kn (by omega) (Int.le_refl _) D8 (by omega);have Fz:(madeCells z.cells (kn*z.cells.size)).size=kn*P.cellsOf e':=by rw[size_madeCells,CU,Cu]
    have B2:(madeCells z.cells (kn*z.cells.size)).toList.take ((List.replicate kn (w.den c.ρ)).length*P.cellsOf e')=(List.replicate kn z.cells.toList).flatten:=by rw[List.length_replicate,List.take_of_length_le (by rw[BG,Fz];exact AN _),W3]
    have B5:Ao (List.replicate kn (w.den c.ρ))=(List.replicate kn (w.den c.ρ).cells).flatten:=by
     clear AR Fz B2 W3 hb hle D8 hk FB Dn h0 hc
     induction kn with
     |zero=>rfl
     |succ k ih=>simp only[List.replicate_succ,Ao,List.flatMap_cons,List.flatten_cons]at ih ⊢;rw[ih]
    refine AD.fm (T:=[]) h (by simp) (by simp) (by omega) Ea (xs:=List.replicate kn (w.den c.ρ)) (C:=madeCells z.cells (kn*z.cells.size)) (cap:=kn) (by simp[E.den,hk,AV.rep]) (λu hu=> ?_) (by simp) (by simp only[maxLen];omega) Fz ?_ ?_ ?_
    ·rw[List.eq_of_mem_replicate hu,<-hlen,BG,CU,Cu]
    ·rw[B2];intro u hu;obtain⟨q,hq,hu⟩:=List.mem_flatten.1 hu;rw[List.eq_of_mem_replicate hq]at hu;exact c2 u hu
    ·rw[B2,List.length_replicate,B5];exact qN.rep kn
    ·simp only[execOp,ho,FB,Dn,Sem.run_bind,Int.ofNat_eq_natCast,List.length_replicate];rw[AR,CU];rfl
   ·cases he
  ·cases he
 ·cases he
end
section
variable {P:Program} {c:Cx} {n nx:Nat} {sl sl0:Nat->SV} {hp hp0:Nat->Option Af} {a:Act} {o:Oper} {gs:Gd} {e:Bh} {sg:BY} {nv:Nat}
theorem vO{α:Type}(cs vs:List α)(o:Nat):setVs cs o vs=cs.take o++(vs++cs.drop (o+vs.length)):=by simp[setVs]
theorem DC.setVs{w:World}{ts:List DT}{L V:List Value}{X Y:List AV}{N1 N2 M:List Nat}{p:Nat}(h1:DC w (ts.take p) (L.take p) (X.take p) N1)(h2:DC w (ts.drop (p+V.length)) (L.drop (p+V.length)) (X.drop (p+V.length)) N2)(k:DC w ((ts.drop p).take V.length) V Y M):
  DC w ts (Go.Proofs.YtalagilebkaegaaGreat.setVs L p V) (Go.Proofs.YtalagilebkaegaaGreat.setVs X p Y) (N1++(M++N2)):=by
 have hk:=k.len;have ht:ts=ts.take p++((ts.drop p).take V.length++ts.drop (p+V.length)):=by rw[<-List.drop_drop,Cf,Cf]
 rw[vO,vO];have hl:Y.length=V.length:=by omega
 rw[hl];have:=h1.app (k.app h2);rw[<-ht]at this;exact this
theorem w7(h:BE P c n nx sl hp a sl0 hp0 o []){t:TypeId}{x y:Operand}(ho:o.op= .store t x y){b g:Nat}{ix:E}{sz k:Nat}{s:SV}(r1:SR c [.cz b g ix sz k] [a.eval x])(r2:SR c [s] [a.eval y]){el:Nat}{l:List DT}{ep:Nat}{c0:E}(hK:c.K b g)(Fp:∀g',c.K b g'->g'<=g)(hE:c.E b=ep)
  (Bv:DD P t=true) (hle:k+P.cellsOf t<=sz) (FL:Am P el=true\/(sz=1/\Am P t=false)) (Ep:Am P t=true\/P.cellsOf t=1)
  {xe:E} {us:List Nat} {ck:List Cn} (CF:S6 P hp0 [] t ((l.drop k).take (P.cellsOf t)) s=some (xe,us,ck)) (IB:∀q∈ck,q.den c.ρ) (B6:us.Nodup) (hb:b∉us)
  (Ch:∀(kk:IntKind) (kv:Int),ix.den c.ρ= .int kk kv-> ∃(m cap:Nat) (C:Array Value) (ys:List AV) (N1 N2:List Nat),c.H b g= .slice (some ⟨m,0,none⟩) ys.length cap/\c0.den c.ρ= .sl ys/\0<sz/\l.length=sz/\c.w.heap[m]?=some (.cells C el (0,0))/\ys.length<=cap/\cap<=maxLen/\C.size=cap*sz/\(∀y∈ys,y.cells.length=sz)/\(∀w∈C.toList.take (ys.length*sz),w.oneCell'=true)/\
   (m::(N1++N2)).Nodup/\(∀q∈m::(N1++N2),q∈(c.G b).top)/\DC c.w ((Bq ys.length l).take (kv.toNat*sz+k)) ((C.toList.take (ys.length*sz)).take (kv.toNat*sz+k)) ((Ao ys).take (kv.toNat*sz+k)) N1/\
   DC c.w ((Bq ys.length l).drop (kv.toNat*sz+k+P.cellsOf t)) ((C.toList.take (ys.length*sz)).drop (kv.toNat*sz+k+P.cellsOf t)) ((Ao ys).drop (kv.toNat*sz+k+P.cellsOf t)) N2):
  AD P o c n nx sl hp [] a {cj:=ck,bq:=(b, .deep el sz l g (ep+1) (.set c0 ix (.put (.idx c0 ix) k xe (Am P el))))::Ez us}:=by
 generalize hv:a.eval x=v at r1;cases r1 with
 |cz k1 k2 k3 k4 k5 k6=>
  rename_i m0 len cap0 kk kv;obtain⟨m,cap,C,ys,N1,N2,p1,p2,p3,p4,p5,p6,p7,p8,p9,p10,p11,p12,p13,p14⟩:=Ch kk kv k3;rw[k2]at p1;cases p1;have IH:kv.toNat<ys.length:=by omega
  have hmul:(kv.toNat+1)*sz<=ys.length*sz:=By _ (by omega);have EX:ys.length*sz<=cap0*sz:=By _ p6;rw[Nat.add_mul]at hmul;have DL:C.toList.length=cap0*sz:=by simpa using p8
  obtain⟨q1,q2,q3,q4,q5,q6⟩:=wB h.eh h.gs (by rw[Ar,BC,p4];omega) Ep CF r2 IB;have Gt:=NX IH;generalize Jh:(AV.sl ys).nth kv.toNat=yk at Gt;have FX:=p9 yk (List.mem_of_getElem? Gt);have Ex:(a.eval y).cells.toList.length=P.cellsOf t:=by simpa using q4
  obtain⟨m1,m2,m3⟩:=Zg (vs:=(a.eval y).cells.toList) p5 (show(kv.toNat*sz+k)+_<=C.size by rw[Ex,p8];omega);have OJ:(C.toList.take (ys.length*sz)).length=ys.length*sz:=by rw[Ar,DL];omega
  have HZ:m0∈(c.G b).top:=p12 _ (by simp);have LV:∀q∈Cy c us,q∉(c.G b).top:=λq hq hh=>by obtain⟨u,hu,dR⟩:=Sd.1 hq;exact h.rel.gw.cy u b (λhh=>hb (hh▸hu)) q (by simp[GI.own,dR]) (by simp[GI.own,hh])
  have MP:∀q∈Cy c us,q<c.w.heap.size:=λq hq=>by obtain⟨u,_,dR⟩:=Sd.1 hq;exact h.rel.gw.inb u q (by simp[GI.own,dR])
  have MO:∀q∈(c.G b).top,q<c.w.heap.size:=λq hq=>h.rel.gw.inb b q (by simp[GI.own,hq]);have Bi:∀q,q∈Cy c us\/(q∈N1++N2)->(putCells c.w m0 (kv.toNat*sz+k) (a.eval y).cells.toList).heap[q]?=c.w.heap[q]?:=λq hq=>by
   refine m1.block q ?_ ?_
   ·rcases hq with hq|hq
    ·exact MP q hq
    ·exact MO q (p12 q (by simp[Ac.1 hq]))
   ·simp only[List.mem_singleton];rintro rfl;rcases hq with hq|hq
    ·exact LV _ hq HZ
    ·exact(List.nodup_cons.1 p11).1 hq
  have hz:(yk.dg k (xe.den c.ρ) (Am P el)).cells=setVs yk.cells k (xe.den c.ρ).cells:=by
   refine lF ?_ (λhg=> ?_)
   ·cases hg:Am P el with
    |true=>exact .inr rfl
    |false=>
     left;rcases FL with h'|⟨_,h'⟩
     ·rw[hg]at h';cases h'
     ·rw[h']at q5;exact λcs=>(q5.1 cs)
   ·rcases FL with h'|⟨h1,h'⟩
    ·rw[hg]at h';cases h'
    ·rw[h']at q5;have TK:P.cellsOf t=1:=by rcases Ep with h2|h2;rw[h']at h2;cases h2;exact h2
     refine⟨by omega,by omega,?_⟩;cases eL:xe.den c.ρ<;>first|rfl|exact absurd eL (q5.1 _)
  have ER:Ao (ys.set kv.toNat (yk.dg k (xe.den c.ρ) (Am P el)))=setVs (Ao ys) (kv.toNat*sz+k) (xe.den c.ρ).cells:=
   ZR ys _ _ yk k _ p9 Gt (by rw[q3];exact hle) hz
  have Hb:((Bq ys.length l).drop (kv.toNat*sz+k)).take (P.cellsOf t)=(l.drop k).take (P.cellsOf t):=by rw[<-p4];exact VI l _ _ _ _ IH (by omega)
  have AR:(execOp a.eval o).run P c.w= .ok .skip (putCells c.w m0 (kv.toNat*sz+k) (a.eval y).cells.toList):=by have:=kF (P:=P) (t:=t) (v:=a.eval y) (off:=kv.toNat*sz+k) p5 Bv q4 (by rw[q4,p8];omega) q2;simp[execOp,ho,hv,this]
  refine AD.j9 h B6 q6 hb hK Fp hE AR (hs:=(c.G b).top++Cy c us) (λq hq=>Ac.1 hq) ⟨m1.os,m1.tape,m1.output,m1.size,λq hq hn=>m1.block q hq λhh=>hn (by simp only[List.mem_singleton]at hh;subst hh;exact Ac.2 (.inl HZ))⟩
   (top:=m0::(N1++(Cy c us++N2))) ?_ (λq hq=> ?_) ?_
  ·have hnT:=Zq h.rel.gw B6;rw[List.nodup_cons,List.nodup_append]at p11;obtain⟨n1,n2,n3,n4⟩:=p11;have a1:∀q∈Cy c us,q∉N1/\q∉N2/\q≠m0:=λq hq=>⟨λhh=>LV q hq (p12 q (by simp[hh])),λhh=>LV q hq (p12 q (by simp[hh])),λhh=>LV q hq (hh▸HZ)⟩
   rw[List.nodup_cons,List.nodup_append,List.nodup_append];refine⟨λhh=> ?_,n2,⟨hnT,n3,λp hp q hq W7=>(a1 p hp).2.1 (W7▸hq)⟩,λp hp q hq W7=> ?_⟩
   ·simp only[Ac]at hh n1;rcases hh with hh|hh|hh
    ·exact n1 (.inl hh)
    ·exact(a1 _ hh).2.2 rfl
    ·exact n1 (.inr hh)
   ·rcases Ac.1 hq with hq|hq
    ·exact(a1 q hq).1 (W7▸hp)
    ·exact n4 p hp q hq W7
  ·have:q∈(c.G b).top\/q∈Cy c us:=by
    simp only[Ae,Ac]at hq;rcases hq with rfl|hq|hq|hq
    ·exact .inl HZ
    ·exact .inl (p12 q (by simp[hq]))
    ·exact .inr hq
    ·exact .inl (p12 q (by simp[hq]))
   refine⟨.inl (Ac.2 this),Nat.lt_of_lt_of_le ?_ m1.size⟩;rcases this with hh|hh
   ·exact MO q hh
   ·exact MP q hh
  ·have Cv:(E.set c0 ix (.put (.idx c0 ix) k xe (Am P el))).den c.ρ= .sl (ys.set kv.toNat (yk.dg k (xe.den c.ρ) (Am P el))):=by
    simp only[E.den,p2,k3,AV.idx,Jh,AV.dd]
   rw[Cv,k2];have Ea:(ys.set kv.toNat (yk.dg k (xe.den c.ρ) (Am P el))).length=ys.length:=List.length_set;have:=DC.row (w:=putCells c.w m0 (kv.toNat*sz+k) (a.eval y).cells.toList) (e:=el) (z:=sz) (l:=Av.of l) (g:=m0) (cap:=cap0) (ys:=ys.set kv.toNat (yk.dg k (xe.den c.ρ) (Am P el))) (N1:=N1++(Cy c us++N2)) (ts:=[]) (vs:=[]) (xs:=[]) (N:=[]) p3 (by rw[Av.ax];exact p4) m2 (by rw[Ea];exact p6) p7 (by rw[List.size_toArray,Sm _ _ _ (by rw[Ex,DL];omega),BG];exact p8) (λw hw=> ?_) ?_ ?_ .nil
   ·rw[Ea]at this;simpa using this
   ·rcases List.mem_or_eq_of_mem_set hw with hw|rfl
    ·exact p9 w hw
    ·rw[hz,Sm _ _ _ (by rw[q3,FX];exact hle)];exact FX
   ·simp only[Ea,List.toList_toArray];rw[Sg _ _ _ _ (by rw[Ex];omega) (by rw[DL];omega)];intro u hu;unfold setVs at hu;simp only[Ac]at hu;rcases hu with(hu|hu)|hu
    ·exact p10 u (Bt hu)
    ·exact q2 u hu
    ·exact p10 u (BH hu)
   ·simp only[Ea,List.toList_toArray];rw[Sg _ _ _ _ (by rw[Ex];omega) (by rw[DL];omega),ER,Av.ax];refine DC.setVs (p13.frame λq hq=>Bi q (.inr (by simp[hq]))) ?_ ?_
    ·rw[Ex];exact p14.frame λq hq=>Bi q (.inr (by simp[hq]))
    ·rw[Ex,Hb];exact q1.frame λq hq=>Bi q (.inl hq)
theorem zr3(h:BE P c n nx sl hp a sl0 hp0 o gs){t:TypeId}{x y:Operand}(ho:o.op= .store t x y){b g:Nat}{ix:E}{sz k:Nat}{s:SV}(AT: ¬ ∃e z g c d,Dq hp0 gs b=some (.row e z g c d))(hx:BM sl0 gs x=some (.cz b g ix sz k))(hy:BM sl0 gs y=some s)
  (he:NF P hp0 gs t (.cz b g ix sz k) s=some e) (hc:∀q∈e.cj,Cn.den c.ρ q):AD P o c n nx sl hp gs a e:=by
 have r1:=h.c7 hx (by simp[ho,Op.operands]);have r2:=h.c7 hy (by simp[ho,Op.operands]);simp only[NF]at he;split at he
 ·rename_i hl;exact absurd ⟨_,_,_,_,_,hl⟩ AT
 ·rename_i el sz' l g' ep c0 hl;split at he
  ·rename_i hh;obtain⟨rfl,rfl,rfl,Bv,hle,FL,Ep⟩:=hh;split at he
   ·rename_i xe us ck CF;split at he
    ·cases he
    rename_i Eu;simp only[Bool.or_eq_true,Bc,not_or,Bool.not_eq_false,Bool.not_eq_true,List.contains_eq_mem,decide_eq_false_iff_not]at Eu;simp only[Ad]at he;subst he;obtain⟨e1,e2,e3,e4,e5⟩:=h.eh b _ (CP hl h.gs);refine w7 h ho r1 r2 e1 e2 e3 Bv hle (by simpa using FL) Ep CF hc (Si Eu.1) Eu.2 λkk kv TZ=> ?_;generalize a.eval x=v at r1;cases r1 with
    |cz k1 k2 k3 k4 k5 _=>
     rw[k3]at TZ;cases TZ;obtain⟨d1,d2,⟨a9,d3,_⟩|⟨g9,cap9,C,ys,N,d3,d4,d5,d6,d7,d8,d9,d10,d11,d12⟩⟩:=e4.inv
     ·rw[k2]at d3;cases d3;omega
     ·rw[Av.ax]at d2 d12;obtain⟨N1,N2,N3,rfl,s1,s2,s3⟩:=d12.split (kv.toNat*sz+k) (P.cellsOf t);have B6:=h.rel.gw.nodup b;simp only[GI.own,e5,AB,d5]at B6;refine⟨g9,cap9,C,ys,N1,N3,d3,d4,d1,d2,d6,d7,d8,d9,d10,d11,?_,λq hq=> ?_,s1,s3⟩
      ·refine List.Sublist.nodup (List.Sublist.cons_cons _ ?_) B6;rw[List.append_assoc];exact List.Sublist.append (List.Sublist.refl _) (List.sublist_append_right _ _)
      ·rw[d5];simp only[Ae,Ac]at hq ⊢;rcases hq with hq|hq|hq
       ·exact .inl hq
       ·exact .inr (.inl (.inl hq))
       ·exact .inr (.inr hq)
   ·cases he
  ·cases he
 ·rename_i el sz' l g' ep c0 i' o' u' hl;split at he
  ·rename_i hh;obtain⟨rfl,rfl,rfl,Bv,rfl,hib,hle,TK,Ep,FL⟩:=hh;have Ep:Am P t=false:=by simpa using Ep
   split at he
   ·rename_i xe us ck CF;split at he
    ·cases he
    rename_i Eu;simp only[Bool.or_eq_true,Bc,not_or,Bool.not_eq_false,Bool.not_eq_true,List.contains_eq_mem,decide_eq_false_iff_not]at Eu;simp only[Ad]at he;subst he;obtain⟨e1,e2,e3,⟨m,cap,C,ys,kk,kv,N1,N2,p1,p2,p3,p4,p5,p6,p7,p7',p8,p9,p10,p11,p12,p13,p14,p15,p16,p17,p18⟩,e5⟩:=h.eh b _ (CP hl h.gs);refine w7 h ho r1 r2 e1 e2 e3 Bv (by omega) (FL.imp id λhh=>⟨hh,Ep⟩) (.inr TK) (by rw[TK];exact CF) hc (Si Eu.1) Eu.2 λkk' kv' TZ=> ?_;rw[E.ay c.ρ _ _ hib,p3]at TZ;cases TZ;have B6:=h.rel.gw.nodup b;simp only[GI.own,e5,AB,p14]at B6;exact⟨m,cap,C,ys,N1,N2,p1,p2,p7,p7',p8,p9,p10,p11,p12,p13,B6,λq hq=>by rw[p14];exact hq,p17,by rw[TK];exact p18⟩
   ·cases he
  ·cases he
 ·cases he
end
section
variable {P:Program} {c:Cx} {n nx:Nat} {sl sl0:Nat->SV} {hp hp0:Nat->Option Af} {a:Act} {o:Oper} {gs:Gd} {e:Bh} {sg:BY} {nv:Nat}
theorem lR{w:World}{ety sz:Nat}{p:Option Addr}{m r:Nat}{x:AV}{top N:List Nat}(h:Db w ety sz (.slice p m r) x top N):∃xs,x= .sl xs/\xs.length=m/\m<=r/\0<sz/\(∀y∈xs,y.cells.length=sz)/\
  ((xs=[]/\m=0/\r=0/\top=[]/\N=[])\/ ∃g C,p=some ⟨g,0,none⟩/\r<=maxLen/\w.heap[g]?=some (.cells C ety (0,0))/\C.size=r*sz/\top=[g]/\(∀u∈C.toList.take (m*sz),u.oneCell'=true)/\Rd w (C.toList.take (m*sz)) (Ao xs) N):=by
 obtain⟨xs,rfl,h2,h3,⟨rfl,⟨a,hv⟩,rfl,rfl⟩|⟨g,cap',C,hv,h6,h7,h8,h9,rfl,Fk,EM⟩⟩:=h
 ·cases hv;exact⟨[],rfl,rfl,AN _,h3,by simp, .inl ⟨rfl,rfl,rfl,rfl,rfl⟩⟩
 ·cases hv;exact⟨xs,rfl,rfl,h6,h3,h2, .inr ⟨g,C,rfl,h7,h8,h9,rfl,Fk,EM⟩⟩
theorem zt2(h:BE P c n nx sl hp a sl0 hp0 o gs){t:TypeId}{x:Operand}{lo hi mx:Option Operand}(ho:o.op= .slice t x lo hi mx){s:SV}(hs:BM sl0 gs x=some s){l' h' m':Option SV}(BS:Iq (BM sl0 gs) lo=some l')(I9:Iq (BM sl0 gs) hi=some h')(C7:Iq (BM sl0 gs) mx=some m')(he:ZY P hp0 gs t s l' h' m'=some e)(hc:∀q∈e.cj,Cn.den c.ρ q):AD P o c n nx sl hp gs a e:=by
 have hm:x∈o.op.operands:=by simp[ho,Op.operands]
 have JX:∀y,lo=some y->y∈o.op.operands:=λy hy=>by simp[ho,Op.operands,hy]
 have IJ:∀y,hi=some y->y∈o.op.operands:=λy hy=>by simp[ho,Op.operands,hy]
 have hx:=h.c7 hs hm;have ival:∀{x:E} {kk:IntKind} {k:Int} {v:Value},SR c [.e x] [v]->x.den c.ρ= .int kk k->v= .int kk k:=by
  intro x kk k v hr hx;cases hr with
  |e h1 _ _=>exact(Gb h1 hx).1
 have ex:(execOp a.eval o).run P c.w=((Instr.sliceAt t (a.eval x) (lo.map a.eval) (hi.map a.eval) (mx.map a.eval)).run P c.w).andThen λv w=> .ok (.value v) w:=by simp[execOp,ho]
 unfold ZY at he;split at he
 ·rename_i el0 b g Bx;have hu:=Jk Bx;split at he
  ·cases he
  rename_i Bv;have Bv:DD P el0=true:=by simpa using Bv
  have JY:mx=none:=by
   rcases G0 C7 with⟨hh,_⟩|⟨_,_,_,_,hh⟩
   ·exact hh
   ·cases hh
  subst JY;split at he
  ·rename_i el z g' c0 d hl;split at he
   ·cases he
   rename_i AA;simp only[not_or,Decidable.not_not,ne_eq]at AA;obtain⟨rfl,rfl,rfl⟩:=AA;obtain⟨q1,q2,N,q3,q4,q5,q6⟩:=h.eh b _ (CP hl h.gs);generalize hv:a.eval x=v at hx ex;cases hx with
   |own k1 k2 k3=>
    rename_i p m r;rw[k2]at q3;obtain⟨xs,Cs,IN,OM,Bo,Aw,A4⟩:=lR q3;split at he
    ·rename_i l;simp only[Ad]at he;subst he;obtain⟨ka,ai,kb,bi,mm,d1,d2,d3,d4,d5,d6⟩:Cn.den c.ρ (.win c0 l (.len c0)):=Cg hc;have W4:mm=(m:Int):=by rw[Cs]at d3;simp only[AV.len,AV.int.injEq,true_and]at d3;omega
     obtain⟨an,rfl⟩:=Int.eq_ofNat_of_zero_le d4;obtain⟨ol,BT,hol⟩:∃ol,lo=some ol/\BM sl0 [] ol=some (.e l):=by
      rcases G0 BS with⟨_,hh⟩|⟨ol,sl',JP,OD,OE⟩
      ·cases hh
      ·cases OE;exact⟨ol,JP,OD⟩
     have JQ:hi=none:=by
      rcases G0 I9 with⟨hh,_⟩|⟨_,_,_,_,hh⟩
      ·exact hh
      ·cases hh
     subst BT;subst JQ;have LF:=ival (h.c7 hol (JX _ rfl)) d1;have hle:an<=m:=by omega
     have AR:=Vc (P:=P) (w:=c.w) (lo:=(some ol).map a.eval) (hi:=(none:Option Operand).map a.eval) hu Bv p m r an m (.inr ⟨ka,by rw[Option.map_some,LF]⟩) (.inl ⟨rfl,rfl⟩) hle (AN _) OM;have:=SR.wown (c:=c) (lo:=l) (sz:=P.cellsOf el) (q':=if r=an then p else p.map (·.add (an*P.cellsOf el))) (r:=r-an) k1 k2 d1 d4 (by omega) (λAx=>by
      rcases A4 with⟨_,Cr,_⟩|⟨g9,C,rfl,_⟩
      ·omega
      ·exact⟨g9,rfl,by rw[if_neg (by omega)];simp[Addr.add_lit],by simp⟩) .nil
     refine AD.pure h (v:=sliced p an m r (P.cellsOf el)) ?_ (by simpa[sliced]using this) rfl;rw[ex];show Result.andThen (Sem.run P (Instr.sliceAt t (.slice p m r) ((some ol).map a.eval) ((none:Option Operand).map a.eval) none) c.w) _=_;rw[AR];rfl
    ·rename_i hb;simp only[Ad]at he;subst he;obtain⟨ka,ai,kb,bi,mm,d1,d2,d3,d4,d5,d6⟩:Cn.den c.ρ (.win c0 (.int .i64 0) hb):=Cg hc;have W4:mm=(m:Int):=by rw[Cs]at d3;simp only[AV.len,AV.int.injEq,true_and]at d3;omega
     simp only[E.den,AV.int.injEq]at d1;obtain⟨_,rfl⟩:=d1;obtain⟨bn,rfl⟩:=Int.eq_ofNat_of_zero_le d5;obtain⟨oh,JQ,dK⟩:∃oh,hi=some oh/\BM sl0 [] oh=some (.e hb):=by
      rcases G0 I9 with⟨_,hh⟩|⟨ol,sl',JP,OD,OE⟩
      ·cases hh
      ·cases OE;exact⟨ol,JP,OD⟩
     have BT:lo=none:=by
      rcases G0 BS with⟨hh,_⟩|⟨_,_,_,_,hh⟩
      ·exact hh
      ·cases hh
     subst BT;subst JQ;have LF:=ival (h.c7 dK (IJ _ rfl)) d2;have hle:bn<=m:=by omega
     have AR:=Vc (P:=P) (w:=c.w) (lo:=(none:Option Operand).map a.eval) (hi:=(some oh).map a.eval) hu Bv p m r 0 bn (.inl ⟨rfl,rfl⟩) (.inr ⟨kb,by rw[Option.map_some,LF]⟩) (Nat.zero_le _) hle OM;have Dr:sliced p 0 bn r (P.cellsOf el)= .slice p bn r:=by
      unfold sliced;rcases A4 with⟨_,_,rfl,_⟩|⟨g9,C,rfl,_⟩
      ·simp
      ·split<;>simp[Addr.add_lit]
     rw[Dr]at AR;have Dl:(execOp a.eval o).run P c.w= .ok (.value (.slice p bn r)) c.w:=by rw[ex];show Result.andThen (Sem.run P (Instr.sliceAt t (.slice p m r) ((none:Option Operand).map a.eval) ((some oh).map a.eval) none) c.w) _=_;rw[AR];rfl
     have Bg: ¬c.K b (g+1):=λhk=>by have:=q2 _ hk;omega
     have hrel:=h.rel;have D9:=hrel.bf (gs:=[]) (t:=b) (g:=g+1) (w':=c.w) (row:=(c.G b).top.head?) (top:=(c.G b).top) (O:=if d=true then(c.G b).O else []) (v:= .slice p bn r) (.inr (by omega)) Bg ⟨rfl,rfl,rfl,AN _,λ_ _ _=>rfl⟩ (λg0 Fm=> .inl (List.mem_of_mem_head? Fm)) (by
       rcases A4 with⟨_,_,_,ht,_⟩|⟨g9,C,_,_,_,_,ht,_⟩
       ·exact .inl ht
       ·exact .inr ⟨g9,by rw[ht];rfl,ht⟩) (by split;exact .inr rfl;exact .inl rfl)
      (.row el (P.cellsOf el) (g+1) (.win c0 (.int .i64 0) hb) d) (by intros;simp) (E4 _) (λGO=>by
       have IM:(E.win c0 (.int .i64 0) hb).den c.ρ= .sl (xs.take bn):=by simp only[E.den,Cs,d2,AV.win];simp
       obtain⟨N',Bk,WU⟩:∃N',Db c.w el (P.cellsOf el) (.slice p bn r) (.sl (xs.take bn)) (c.G b).top N'/\ ∀q∈N',q∈N:=by
        rcases A4 with⟨rfl,Cr,rfl,ht,rfl⟩|⟨g9,C,rfl,Fp,Qh,hC,ht,h1,Dj⟩
        ·have:bn=0:=by omega
         subst this;exact⟨[],⟨[],by simp,by simp,Bo, .inl ⟨rfl,⟨p,rfl⟩,ht,rfl⟩⟩,by simp⟩
        ·obtain⟨N',bA,CJ⟩:=Dj.piece 0 (bn*P.cellsOf el);have II:(xs.take bn).length=bn:=by rw[Ar];omega
         have hmul:bn*P.cellsOf el<=m*P.cellsOf el:=By _ hle;have ef:=lM xs Aw 0 bn (Nat.zero_le _) (by omega);simp only[Nat.zero_mul,Nat.sub_zero,List.drop_zero]at ef CJ;rw[ef,List.take_take,Nat.min_eq_left hmul]at CJ;refine⟨N',⟨xs.take bn,rfl,λy hy=>Aw y (Bt hy),Bo, .inr ⟨g9,r,C,by rw[II],by rw[II];omega,Fp,Qh,hC,ht,?_,?_⟩⟩,bA⟩
         ·rw[II];intro u hu;refine h1 u ?_;have:C.toList.take (bn*P.cellsOf el)=(C.toList.take (m*P.cellsOf el)).take (bn*P.cellsOf el):=by rw[List.take_take,Nat.min_eq_left hmul]
          rw[this]at hu;exact Bt hu
         ·rw[II];exact CJ
       refine⟨.inr ⟨rfl,rfl⟩,λg'' OB=> ?_,N',?_,λq hq=>GO.ok q (Bk.l8 q hq) (q4 q (WU q hq)),λhd=> ?_,λhd=>by simp[Cx.bf,hd]⟩
       ·rcases OB with OB|⟨_,rfl⟩
        ·have:=q2 _ OB;omega
        ·exact AN _
       ·have e1:(c.bf b (g+1) c.w (.slice p bn r) (c.G b).top (if d=true then(c.G b).O else [])).H b (g+1)= .slice p bn r:=by simp[Cx.bf]
        have e2:((c.bf b (g+1) c.w (.slice p bn r) (c.G b).top (if d=true then(c.G b).O else [])).G b).top=(c.G b).top:=by simp[Cx.bf]
        rw[e1,e2];show Db c.w el (P.cellsOf el) _ ((E.win c0 (.int .i64 0) hb).den c.ρ) _ N';rw[IM];exact Bk
       ·obtain⟨u1,u2⟩:=q5 hd;have u1:N=[]:=u1;subst u1;have Oh:N'=[]:=List.eq_nil_iff_forall_not_mem.2 λq hq=>by simpa using WU q hq
        subst Oh;exact⟨rfl,by simp only[Cx.bf,if_true,hd];exact u2⟩)
     intro next Q hk
     unfold Oper.wp;rw[Dl,Oper.upon_value];refine hk _ (c.bf b (g+1) c.w (.slice p bn r) (c.G b).top (if d=true then(c.G b).O else [])) ⟨rfl,rfl,rfl,rfl,λu hu=> ?_⟩ (D9.put (SR.mkGd (c:=c.bf b (g+1) c.w (.slice p bn r) (c.G b).top (if d=true then(c.G b).O else [])) (s:= .own b (g+1)) (v:= .slice p bn r) (.own (show _\/_ from .inr ⟨rfl,rfl⟩) (by simp[Cx.bf]) .nil) []) o.dst);rcases hu with hu|rfl
     ·exact .inl hu
     ·exact .inl (h.rel.bz _ _ k1)
    ·cases he
  ·cases he
 ·cases he
theorem zr2(z:Array Value)(hz:0<z.size)(k:Nat):(Builtin.zeroCells z k).toList=(List.replicate k z.toList).flatten:=by have:=Zk z hz k;rw[<-this];rfl
theorem zxT(h:BE P c n nx sl hp a sl0 hp0 o gs){x:Operand}{tx:TypeId}{cl:Call}(ho:o.op= .call cl)(Aw:cl.callee= .builtin .clear)(C3:cl.args.toList=[x])(DZ:cl.argTypes.toList=[tx]){s:SV}(hs:BM sl0 gs x=some s)(he:mN P hp0 gs tx s=some e)(hc:∀q∈e.cj,Cn.den c.ρ q):AD P o c n nx sl hp gs a e:=by
 have Ah:cl.args= #[x]:=by apply Array.ext';simp[C3]
 have FU:cl.argTypes= #[tx]:=by apply Array.ext';simp[DZ]
 have hm:x∈o.op.operands:=by simp[ho,Op.operands,Call.operands,Aw,Ah]
 have hx:=h.c7 hs hm;unfold mN at he;split at he
 ·rename_i el0 b g l z Bx;have hu:=Jk Bx;split at he
  ·rename_i el z' g' c0 d hl;split at he
   ·cases he
   rename_i AA;simp only[not_or,Bc,Bool.not_eq_false,Decidable.not_not,ne_eq]at AA;obtain⟨rfl,rfl,rfl,rfl,hz,AK⟩:=AA;have AK:Am P el=true\/P.cellsOf el=1:=by simpa using AK
   obtain⟨i,zv,hi,FP,CU,Bo,Cu,EB⟩:=K1 hz;split at he
   ·rename_i q hq;split at he
    ·rename_i w hw;have hq:Fg zv=some q:=by simpa[hi,FP]using hq
     simp only[Ad]at he;subst he;obtain⟨c1,c2⟩:=kH (w:=c.w) (ρ:=c.ρ) hq hw;have AL:=Mi h.hp (CP hl h.gs);obtain⟨q1,q2,N,q3,q4,q5,q6⟩:=h.rel.ents b _ AL;generalize hv:a.eval x=v at hx;cases hx with
     |wown k1 k2 k3 k4 k5 k6 k7=>
      rename_i p m r q' r' kk kv;rw[k2]at q3;obtain⟨xs,Cs,IN,OM,eE,Ou,A4⟩:=lR q3;have Ov:(E.bin .sub (.len c0) l).den c.ρ≠ .undef:=hc (.dfd (.bin .sub (.len c0) l)) (by simp);have MR:kk= .i64:=by
       simp only[E.den,Cs,AV.len,k3,AV.bin]at Ov;split at Ov
       ·rename_i hh;rcases hh with hh|hh|hh
        ·exact hh.symm
        ·cases hh
        ·cases hh
       ·exact absurd rfl Ov
      subst MR;have Cv:(E.bin .sub (.len c0) l).den c.ρ= .int .i64 ((m:Int)-kv):=by
       simp only[E.den,Cs,AV.len,k3,AV.bin,true_or,if_true,CH,IN];congr 1;have hm63:(m:Int)<=9223372036854775807:=by
        rcases A4 with⟨_,h0,_⟩|⟨_,_,_,Fp,_⟩
        ·omega
        ·have:maxLen=9223372036854775807:=rfl;omega
       exact(PQ .i64 _).2 ⟨by simp[IntKind.min,IntKind.signed,IntKind.bits];omega,by simp[IntKind.max,IntKind.signed,IntKind.bits];omega⟩
      have Bg:(E.app (.win c0 (.int .i64 0) l) (.rep (.bin .sub (.len c0) l) w)).den c.ρ= .sl (xs.take kv.toNat++List.replicate (m-kv.toNat) (w.den c.ρ)):=by
       have e1:(E.win c0 (.int .i64 0) l).den c.ρ= .sl (xs.take kv.toNat):=by simp only[E.den,Cs,k3,AV.win];simp
       have e2:(E.rep (.bin .sub (.len c0) l) w).den c.ρ= .sl (List.replicate (m-kv.toNat) (w.den c.ρ)):=by show AV.rep ((E.bin .sub (.len c0) l).den c.ρ) (w.den c.ρ)=_;rw[Cv];simp only[AV.rep];congr 2;omega
       show AV.app _ _=_;rw[e1,e2];rfl
      have ex:(execOp a.eval o).run P c.w=((Builtin.clear_ #[tx] o.type #[.slice q' (m-kv.toNat) r']).run P c.w).andThen λv w=> .ok (.value v) w:=by simp[execOp,ho,resolve,Aw,Ah,FU,invoke,builtin,hv]
      rcases Nat.eq_or_lt_of_le (show kv.toNat<=m by omega)with heq|Ax
      ·
       have B1:m-kv.toNat=0:=by omega
       have AR:(execOp a.eval o).run P c.w= .ok (.value (.tuple #[])) c.w:=by rw[ex,B1];cases q'<;>simp[Builtin.clear_,run_underlying hu]
       have Bi:(E.app (.win c0 (.int .i64 0) l) (.rep (.bin .sub (.len c0) l) w)).den c.ρ=c0.den c.ρ:=by rw[Bg,Cs,B1];simp[List.take_of_length_le (show xs.length<=kv.toNat by omega)]
       intro next Q hk
       unfold Oper.wp;rw[AR,Oper.upon_value];have D9:Rel c n sl (Bp hp [(b, .row el (P.cellsOf el) g (.app (.win c0 (.int .i64 0) l) (.rep (.bin .sub (.len c0) l) w)) d)]) a:=by
        have Ec:∀u,Bp hp [(b, .row el (P.cellsOf el) g (.app (.win c0 (.int .i64 0) l) (.rep (.bin .sub (.len c0) l) w)) d)] u=if u=b then some (.row el (P.cellsOf el) g (.app (.win c0 (.int .i64 0) l) (.rep (.bin .sub (.len c0) l) w)) d)else hp u:=λu=>rfl;refine h.rel.change (λu=>u=b) (D6.refl c) h.rel.base (λu hu=>⟨by rw[Ec,if_neg hu],rfl,rfl,λ_ hk=>hk⟩) (λ_ _ _ _=>rfl) (λu hu=> ?_) h.rel.gw h.rel.bz (λu f hf=> ?_)
        ·subst hu;rw[Ec,if_pos rfl];refine⟨λe' hr=> ?_,λhn=>absurd rfl (hn _)⟩;simp only[CN]at hr;subst hr;exact⟨q1,q2,N,by rw[Bi,k2];exact q3,q4,q5,q6⟩
        ·rw[Ec]at hf;split at hf
         ·rename_i hu;subst hu;exact h.rel.bz _ _ k1
         ·exact h.rel.c6 u f hf
       exact hk _ c (Nk.refl _ _) (D9.put ((SR.undef .nil).mkGd []) o.dst)
      ·obtain⟨b9,pZ,rfl,rfl⟩:=k6 (by omega);rcases A4 with⟨_,h0,_⟩|⟨g9,C,hp',Fp,Qh,hC,ht,h1,Dj⟩
       ·omega
       rw[pZ]at hp';cases hp';have DL:C.toList.length=r*P.cellsOf el:=by simpa using hC
       have pV:m*P.cellsOf el<=r*P.cellsOf el:=By _ OM;have pU:(m-kv.toNat)*P.cellsOf el+kv.toNat*P.cellsOf el=m*P.cellsOf el:=by rw[<-Nat.add_mul];congr 1;omega
       have eS:=zr2 zv.cells (by omega) (m-kv.toNat);generalize hZ:(List.replicate (m-kv.toNat) zv.cells.toList).flatten=Z at eS;have Oo:Z.length=(m-kv.toNat)*P.cellsOf el:=by rw[<-hZ,List.length_flatten];simp only[List.map_replicate,List.sum_replicate_nat,BG,CU,Cu]
       have pF:∀u∈Z,u.oneCell'=true:=λu hu=>by rw[<-hZ]at hu;obtain⟨L,hL,hu⟩:=List.mem_flatten.1 hu;rw[List.eq_of_mem_replicate hL]at hu;exact c2 u hu
       have LN:=jS (P:=P) (off:=kv.toNat*P.cellsOf el) Z 0 c.w C Qh (by rw[Oo,hC];omega) pF;have AR:(execOp a.eval o).run P c.w= .ok (.value (.tuple #[])) (putCells c.w b9 (kv.toNat*P.cellsOf el) Z):=by
        rw[ex];obtain⟨mm,W4⟩:∃mm,m-kv.toNat=mm+1:=⟨m-kv.toNat-1,by omega⟩
        have hzv:(zeroValue el).run P c.w= .ok zv c.w:=by simp[zeroValue,typeInfo,hi,FP]
        simp only[Nat.add_zero]at LN;rw[W4]at eS ⊢;simp[Builtin.clear_,run_underlying hu,hzv,eS,LN]
       obtain⟨m1,m2,m3⟩:=Zg (off:=kv.toNat*P.cellsOf el) (vs:=Z) Qh (by rw[Oo,hC];omega);have OJ:(C.toList.take (m*P.cellsOf el)).length=m*P.cellsOf el:=by rw[Ar,DL];omega
       have Nd:b9∈(c.G b).top:=by rw[ht];simp
       have Tx:Rd c.w Z (Ao (List.replicate (m-kv.toNat) (w.den c.ρ))) []:=by rw[<-hZ];exact oK c1 _
       obtain⟨n1,n2,n3,hN,s1,s2⟩:=Rd.setVs (p:=kv.toNat*P.cellsOf el) Dj Tx (by rw[OJ,Oo];omega);have Us:(w.den c.ρ).cells.length=P.cellsOf el:=by have:=c1.len;rw[<-this];simp[CU,Cu]
       have hYl:(Ao (List.replicate (m-kv.toNat) (w.den c.ρ))).length=Z.length:=by rw[<-Tx.len]
       have B5:setVs (Ao xs) (kv.toNat*P.cellsOf el) (Ao (List.replicate (m-kv.toNat) (w.den c.ρ)))=Ao (xs.take kv.toNat++List.replicate (m-kv.toNat) (w.den c.ρ)):=by
        have ef:=lM xs Ou 0 kv.toNat (Nat.zero_le _) (by omega)
        simp only[Nat.zero_mul,Nat.sub_zero,List.drop_zero]at ef;unfold setVs;rw[ef,VA,hYl,Oo,List.drop_eq_nil_of_le (by rw[K4 _ Ou,IN];omega),AB]
       rw[B5]at s1;have Ch:∀q∈n1++ []++n3,q∈N:=λq hq=>by rw[hN];simp at hq ⊢;rcases hq with hq|hq<;>simp[hq]
       have FQ:∀q,q<c.w.heap.size->c.ok q->(putCells c.w b9 (kv.toNat*P.cellsOf el) Z).heap[q]?=c.w.heap[q]?:=by intro q hq AZ;refine m1.block q hq ?_;simp only[List.mem_singleton];rintro rfl;exact AZ.1 ⟨b,Nd⟩
       have Ea:(xs.take kv.toNat++List.replicate (m-kv.toNat) (w.den c.ρ)).length=m:=by rw[AH,Ar,List.length_replicate];omega
       have D9:=h.rel.jj (t:=b) (b:=b9) (w':=putCells c.w b9 (kv.toNat*P.cellsOf el) Z) (O:=if d=true then(c.G b).O else []) AL Nd (by split;exact .inr rfl;exact .inl rfl) m1 m3
        (.row el (P.cellsOf el) g (.app (.win c0 (.int .i64 0) l) (.rep (.bin .sub (.len c0) l) w)) d) (by intros;simp) (λGO=>by
         refine⟨q1,q2,n1++ []++n3,?_,λq hq=>GO.ok q (Dj.inb q (Ch q hq)) (q4 q (Ch q hq)),λhd=> ?_,λhd=>by simp[Cx.fg,hd]⟩
         ·show Db (putCells c.w b9 (kv.toNat*P.cellsOf el) Z) el (P.cellsOf el) (c.H b g) ((E.app (.win c0 (.int .i64 0) l) (.rep (.bin .sub (.len c0) l) w)).den c.ρ) _ _;rw[Bg,k2,pZ];refine⟨_,rfl,λy hy=> ?_,eE, .inr ⟨b9,r,_,by rw[Ea],by rw[Ea];exact OM,Fp,m2,?_,by simpa[Cx.fg]using ht,?_,?_⟩⟩
          ·rcases Ac.1 hy with hy|hy
           ·exact Ou y (Bt hy)
           ·rw[List.eq_of_mem_replicate hy];exact Us
          ·rw[List.size_toArray,Sm _ _ _ (by rw[Oo,DL];omega),BG];exact hC
          ·simp only[Ea,List.toList_toArray];rw[Sg _ _ _ _ (by rw[Oo];omega) (by rw[DL];omega)];intro u hu;unfold setVs at hu;simp only[Ac]at hu;rcases hu with(hu|hu)|hu
           ·exact h1 u (Bt hu)
           ·exact pF u hu
           ·exact h1 u (BH hu)
          ·simp only[Ea,List.toList_toArray];rw[Sg _ _ _ _ (by rw[Oo];omega) (by rw[DL];omega)];exact s1.frame λq hq=>FQ q (Dj.inb q (Ch q hq)) (q4 q (Ch q hq))
         ·obtain⟨u1,u2⟩:=q5 hd;have u1:N=[]:=u1;subst u1;have Oh:n1++ []++n3=[]:=List.eq_nil_iff_forall_not_mem.2 λq hq=>by simpa using Ch q hq
          rw[Oh];exact⟨rfl,by simp only[Cx.fg,if_true,hd];exact u2⟩)
       intro next Q hk
       unfold Oper.wp;rw[AR,Oper.upon_value];exact hk _ (c.fg _ b _) ⟨rfl,rfl,rfl,rfl,λt ht=> .inl ht⟩ (D9.put ((SR.undef .nil).mkGd []) o.dst)
    ·cases he
   ·cases he
  ·cases he
 ·cases he
end
section
variable {P:Program} {c:Cx} {n nx:Nat} {sl sl0:Nat->SV} {hp hp0:Nat->Option Af} {a:Act} {o:Oper} {gs:Gd} {e:Bh} {sg:BY} {nv:Nat}
theorem zz6(l:List DT){n i:Nat}(hi:i<=n):Bq n l=Bq i l++Bq (n-i) l:=by rw[<-K7];congr 1;omega
theorem zxP{K:Nat}{xs:List AV}(h:∀y∈xs,y.cells.length=K){i:Nat}(hi:i<=xs.length):Ao (xs.take i)=(Ao xs).take (i*K)/\Ao (xs.drop i)=(Ao xs).drop (i*K):=by
 have l1:(Ao (xs.take i)).length=i*K:=by rw[K4 _ λy hy=>h y (Bt hy),Ar,Nat.min_eq_left hi]
 have e:Ao xs=Ao (xs.take i)++Ao (xs.drop i):=by rw[<-VA,Cf]
 rw[e,<-l1,List.take_left,List.drop_left];exact⟨rfl,rfl⟩
theorem DC.mr{w:World}{xs:List AV}{l:List DT}{K:Nat}{cs:List Value}{N:List Nat}(hK:l.length=K)(h:DC w (Bq xs.length l) cs (Ao xs) N)(hx:∀y∈xs,y.cells.length=K){i:Nat}(hi:i<=xs.length):
  ∃N1 N2,N=N1++N2/\DC w (Bq i l) (cs.take (i*K)) (Ao (xs.take i)) N1/\DC w (Bq (xs.length-i) l) (cs.drop (i*K)) (Ao (xs.drop i)) N2:=by
 have hlen:=h.len;have t1:=zxP hx hi;have hmul:=By K hi;rw[zz6 l hi,<-Cf (i*K) cs,<-Cf (i*K) (Ao xs)]at h;rw[K6,hK]at hlen;obtain⟨N1,N2,rfl,h1,h2⟩:=DC.dy (by rw[K6,hK,Ar];omega) (by rw[K6,hK,Ar];omega) h;exact⟨N1,N2,rfl,by rw[t1.1];exact h1,by rw[t1.2];exact h2⟩
theorem zvG(h:BE P c n nx sl hp a sl0 hp0 o gs){t:TypeId}{x:Operand}{lo hi mx:Option Operand}(ho:o.op= .slice t x lo hi mx){s:SV}(hs:BM sl0 gs x=some s){l' h' m':Option SV}(BS:Iq (BM sl0 gs) lo=some l')(I9:Iq (BM sl0 gs) hi=some h')(C7:Iq (BM sl0 gs) mx=some m')(he:aL P hp0 gs nx t s l' h' m'=some e)(hc:∀q∈e.cj,Cn.den c.ρ q):AD P o c n nx sl hp gs a e:=by
 have hm:x∈o.op.operands:=by simp[ho,Op.operands]
 have JX:∀y,lo=some y->y∈o.op.operands:=λy hy=>by simp[ho,Op.operands,hy]
 have IJ:∀y,hi=some y->y∈o.op.operands:=λy hy=>by simp[ho,Op.operands,hy]
 have hx:=h.c7 hs hm;have ival:∀{x:E} {kk:IntKind} {k:Int} {v:Value},SR c [.e x] [v]->x.den c.ρ= .int kk k->v= .int kk k:=by
  intro x kk k v hr hx;cases hr with
  |e h1 _ _=>exact(Gb h1 hx).1
 have ex:(execOp a.eval o).run P c.w=((Instr.sliceAt t (a.eval x) (lo.map a.eval) (hi.map a.eval) (mx.map a.eval)).run P c.w).andThen λv w=> .ok (.value v) w:=by simp[execOp,ho]
 unfold aL at he;split at he
 ·rename_i el0 b g Bx;have hu:=Jk Bx;split at he
  ·cases he
  rename_i Bv;have Bv:DD P el0=true:=by simpa using Bv
  have JY:mx=none:=by
   rcases G0 C7 with⟨hh,_⟩|⟨_,_,_,_,hh⟩
   ·exact hh
   ·cases hh
  subst JY;split at he
  ·rename_i el z dl g' ep c0 hl;split at he
   ·cases he
   rename_i AA;simp only[not_or,Decidable.not_not,ne_eq]at AA;obtain⟨rfl,rfl,rfl⟩:=AA;obtain⟨q1,q2,_,q4,_⟩:=h.eh b _ (CP hl h.gs);generalize hv:a.eval x=v at hx ex;cases hx with
   |own k1 k2 k3=>
    rename_i p m r;rw[k2]at q4;obtain⟨_,q3,_⟩:=q4.ownRow;obtain⟨xs,Cs,IN,OM,Bo,Aw,A4⟩:=lR q3;split at he
    ·rename_i l;simp only[Ad]at he;subst he;obtain⟨ka,ai,kb,bi,mm,d1,d2,d3,d4,d5,d6⟩:Cn.den c.ρ (.win c0 l (.len c0)):=Cg hc;have W4:mm=(m:Int):=by rw[Cs]at d3;simp only[AV.len,AV.int.injEq,true_and]at d3;omega
     obtain⟨an,rfl⟩:=Int.eq_ofNat_of_zero_le d4;obtain⟨ol,BT,hol⟩:∃ol,lo=some ol/\BM sl0 [] ol=some (.e l):=by
      rcases G0 BS with⟨_,hh⟩|⟨ol,sl',JP,OD,OE⟩
      ·cases hh
      ·cases OE;exact⟨ol,JP,OD⟩
     have JQ:hi=none:=by
      rcases G0 I9 with⟨hh,_⟩|⟨_,_,_,_,hh⟩
      ·exact hh
      ·cases hh
     subst BT;subst JQ;have LF:=ival (h.c7 hol (JX _ rfl)) d1;have hle:an<=m:=by omega
     have AR:=Vc (P:=P) (w:=c.w) (lo:=(some ol).map a.eval) (hi:=(none:Option Operand).map a.eval) hu Bv p m r an m (.inr ⟨ka,by rw[Option.map_some,LF]⟩) (.inl ⟨rfl,rfl⟩) hle (AN _) OM;have:=SR.wown (c:=c) (lo:=l) (sz:=P.cellsOf el) (q':=if r=an then p else p.map (·.add (an*P.cellsOf el))) (r:=r-an) k1 k2 d1 d4 (by omega) (λAx=>by
      rcases A4 with⟨_,Cr,_⟩|⟨g9,C,rfl,_⟩
      ·omega
      ·exact⟨g9,rfl,by rw[if_neg (by omega)];simp[Addr.add_lit],by simp⟩) .nil
     refine AD.pure h (v:=sliced p an m r (P.cellsOf el)) ?_ (by simpa[sliced]using this) rfl;rw[ex];show Result.andThen (Sem.run P (Instr.sliceAt t (.slice p m r) ((some ol).map a.eval) ((none:Option Operand).map a.eval) none) c.w) _=_;rw[AR];rfl
    ·cases he
  ·rename_i el z dl g' ep c0 kE hl;split at he
   ·cases he
   rename_i AA;simp only[not_or,Decidable.not_not,ne_eq]at AA;obtain⟨rfl,rfl,rfl⟩:=AA;obtain⟨q1,q2,_,⟨p',cap',ys,kk,kv,e1,e2,e3,e4,e5,e6⟩,_⟩:=h.eh b _ (CP hl h.gs);generalize hv:a.eval x=v at hx ex;cases hx with
   |own k1 k2 k3=>
    rename_i p m r;rw[k2]at e1;simp only[Value.slice.injEq]at e1;obtain⟨rfl,rfl,rfl⟩:=e1;split at he
    ·rename_i hb;split at he
     ·rename_i WY;rw[<-E.ay c.ρ _ _ WY]at e3;simp only[Ad]at he;subst he;obtain⟨oh,JQ,dK⟩:∃oh,hi=some oh/\BM sl0 [] oh=some (.e hb):=by
       rcases G0 I9 with⟨_,hh⟩|⟨ol,sl',JP,OD,OE⟩
       ·cases hh
       ·cases OE;exact⟨ol,JP,OD⟩
      have BT:lo=none:=by
       rcases G0 BS with⟨hh,_⟩|⟨_,_,_,_,hh⟩
       ·exact hh
       ·cases hh
      subst BT;subst JQ;have LF:=ival (h.c7 dK (IJ _ rfl)) e3;have AR:=Vc (P:=P) (w:=c.w) (lo:=(none:Option Operand).map a.eval) (hi:=(some oh).map a.eval) hu Bv p ys.length r 0 kv (.inl ⟨rfl,rfl⟩) (.inr ⟨kk,by rw[Option.map_some,LF]⟩) (Nat.zero_le _) e4 e5;have Dr:sliced p 0 kv r (P.cellsOf el)= .slice p kv r:=by
       obtain⟨_,_,⟨a9,h9,_⟩|⟨g9,cap,C,zs,N1,h9,_⟩⟩:=e6.inv
       ·simp only[Value.slice.injEq]at h9;obtain⟨rfl,_,rfl⟩:=h9;simp[sliced]
       ·simp only[Value.slice.injEq]at h9;obtain⟨rfl,_,_⟩:=h9;unfold sliced;split<;>simp[Addr.add_lit]
      rw[Dr]at AR;have Dl:(execOp a.eval o).run P c.w= .ok (.value (.slice p kv r)) c.w:=by rw[ex];show Result.andThen (Sem.run P (Instr.sliceAt t (.slice p ys.length r) ((none:Option Operand).map a.eval) ((some oh).map a.eval) none) c.w) _=_;rw[AR];rfl
      have IM:(E.win c0 (.int .i64 0) hb).den c.ρ= .sl (ys.take kv):=by simp only[E.den,e2,e3,AV.win];simp
      have Ck:Cy c [b]=(c.G b).top:=by simp[Cy]
      have B6:=h.rel.gw.nodup b;simp only[GI.own]at B6;exact AD.ez h (T:=[b]) (by simp) (by simpa using⟨_,q1⟩) Dl (Mod.refl _ _) (top:=(c.G b).top) (List.nodup_append.1 B6).1 (λq hq=>⟨.inl (by rw[Ck];exact hq),h.rel.gw.inb b q (by simp[GI.own,hq])⟩) (by rw[IM];exact e6)
     ·cases he
    ·cases he
  ·cases he
 ·cases he
theorem zwv{x y:Operand}{tx:TypeId}{cl:Call}(ho:o.op= .call cl)(Aw:cl.callee= .builtin .append)(C3:cl.args.toList=[x,y])(DZ:cl.argTypes.toList=[tx,tx])
  {el:TypeId} (Bx:P.underlying tx=some (.slice el)) (hz:Hv P el=true) {l:List DT} (hl:l.length=P.cellsOf el) {TT:List Nat} (WV:TT.Nodup) (Lu:∀b∈TT,b<c.w.heap.size) {N2:List Nat} (Oj:N2.Nodup) (JB:∀b∈N2,b<c.w.heap.size) (Ts:∀b∈N2,b∉TT)
  {ys:List AV} {q:Option Addr} {r:Nat} {news:List Value} (Dn:a.eval y= .slice q ys.length r) (Dm:Src c.w (P.cellsOf el) q ys.length news) (Ox:DC c.w (Bq ys.length l) news (Ao ys) N2) (Jg:∀y∈ys,y.cells.length=P.cellsOf el) (ON:∀u∈news,u.oneCell'=true)
  {X:AV} {v:Value} (hv:a.eval x=v) (AT:DC c.w [.row el (P.cellsOf el) (Av.of l)] [v] [X] TT) {xs:List AV} (hX:X= .sl xs) (MY:((xs.length:Int)+ys.length)*P.bytesOf el<=140737488355328) (Xa:(xs.length:Int)+ys.length<=140737488355328):
  ∃v' w' top,(execOp a.eval o).run P c.w= .ok (.value v') w'/\Mod TT c.w w'/\top.Nodup/\(∀b∈top,(b∈TT\/b∈N2\/c.w.heap.size<=b)/\b<w'.heap.size)/\DC w' [.row el (P.cellsOf el) (Av.of l)] [v'] [.sl (xs++ys)] top:=by
 have Ah:cl.args= #[x,y]:=by apply Array.ext';simp[C3]
 have FU:cl.argTypes= #[tx,tx]:=by apply Array.ext';simp[DZ]
 obtain⟨i,z,hi,FP,CU,Bo,Cu,EB⟩:=K1 hz;obtain⟨d1,d2,A4⟩:=AT.inv;rw[Av.ax]at d2 A4;subst hX;obtain⟨old,N1,hold,Fx,bY,GU,Cp,KN,Oi⟩:∃(old:List Value) (N1:List Nat),old.length=xs.length*i.size/\((xs.length=0/\ ∃q,v= .slice q 0 0)\/ ∃g cap C,v= .slice (some ⟨g,0,none⟩) xs.length cap/\xs.length<=cap/\cap<=maxLen/\c.w.heap[g]?=some (.cells C el (0,0))/\C.size=cap*i.size/\old=C.toList.take (xs.length*i.size)/\(g∈TT/\g∉N1))/\
   DC c.w (Bq xs.length l) old (Ao xs) N1/\(∀y∈xs,y.cells.length=P.cellsOf el)/\(∀u∈old,u.oneCell'=true)/\(∀b∈N1,b∈TT)/\N1.Nodup:=by
  rcases A4 with⟨p,rfl,FC,rfl⟩|⟨g9,cap,C,xs',N1,rfl,FC,rfl,h6,h7,h8,h9,Fk,EM,FJ⟩
  ·cases FC;exact⟨[],[],by simp, .inl ⟨rfl,p,rfl⟩,by simpa[Bq,Ao]using DC.nil,by simp,by simp,by simp,by simp⟩
  ·cases FC;rw[List.nodup_cons]at WV;refine⟨_,N1,?_, .inr ⟨g9,cap,C,rfl,h7,h8,h6,by rw[<-Cu];exact h9,rfl,by simp,WV.1⟩,by rw[<-Cu];exact FJ,Fk,by rw[<-Cu];exact EM,λb hb=>by simp[hb],WV.2⟩;have e9:C.toList.length=cap*i.size:=by rw[<-Cu,<-h9];simp
   rw[Ar,e9];exact Nat.min_eq_left (By _ h7)
 have Gh:(xs.length+ys.length)*i.bytes<=140737488355328:=by
  rw[EB]at MY;have h9:(((xs.length+ys.length)*i.bytes:Nat):Int)<=140737488355328:=by rw[Int.natCast_mul,Int.natCast_add];exact MY
  omega
 have Gi:xs.length+ys.length<=140737488355328:=by omega
 rw[Cu]at Dm;obtain⟨v',w',AR,AL⟩:=PN (P:=P) c.w tx o.type el i z Bx hi FP CU Bo (λg9=>g9∈TT/\g9∉N1) v xs.length old hold Fx q ys.length r news Dm (by simp only[maxLen];omega) Gh;have Dl:(execOp a.eval o).run P c.w= .ok (.value v') w':=by simp[execOp,ho,resolve,Aw,Ah,FU,invoke,builtin,hv,Dn,AR]
 rcases AL with⟨rfl,rfl,Cr⟩|⟨g9,cap,C,rfl,h1,h2,h3,h4,h5,h6,h7⟩
 ·have H7:ys=[]:=List.eq_nil_of_length_eq_zero Cr;subst H7;refine⟨_,_,TT,Dl,Mod.refl _ _,WV,λb hb=>⟨.inl hb,Lu b hb⟩,?_⟩;rw[AB];exact AT
 ·have IE:(g9∈TT\/c.w.heap.size<=g9)/\g9∉N1/\g9∉N2:=by
   rcases h7 with⟨rfl,_⟩|⟨hg,CE⟩
   ·refine⟨.inr (AN _),λhh=> ?_,λhh=> ?_⟩
    ·have:=Lu _ (KN _ hh);omega
    ·have:=JB _ hh;omega
   ·exact⟨.inl hg,CE,λhh=>Ts _ hh hg⟩
  have Bi:∀b∈N1++N2,w'.heap[b]?=c.w.heap[b]?:=λb hb=>by
   have Ax:b<c.w.heap.size:=by
    rcases Ac.1 hb with hb|hb
    ·exact Lu b (KN b hb)
    ·exact JB b hb
   refine h6.block b Ax λhh=> ?_;cases hh;rcases Ac.1 hb with hb|hb
   ·exact IE.2.1 hb
   ·exact IE.2.2 hb
  refine⟨_,w',g9::(N1++N2),Dl,lK h6 λg hg=> ?_,?_,λb hb=> ?_,?_⟩
  ·cases hg;exact IE.1
  ·refine List.nodup_cons.2 ⟨λhh=> ?_,List.nodup_append.2 ⟨Oi,Oj,λp hp q hq e=>Ts q hq (e▸KN p hp)⟩⟩;rcases Ac.1 hh with hh|hh
   ·exact IE.2.1 hh
   ·exact IE.2.2 hh
  ·rcases Ae.1 hb with rfl|hb
   ·exact⟨IE.1.elim .inl λh=> .inr (.inr h),De h3⟩
   ·rcases Ac.1 hb with hb|hb
    ·exact⟨.inl (KN b hb),Nat.lt_of_lt_of_le (Lu b (KN b hb)) h6.size⟩
    ·exact⟨.inr (.inl hb),Nat.lt_of_lt_of_le (JB b hb) h6.size⟩
  ·have hlen:(xs++ys).length=xs.length+ys.length:=AH;rw[Cu]at d1 d2 GU Jg ⊢;have:=DC.row (w:=w') (e:=el) (z:=i.size) (l:=Av.of l) (g:=g9) (cap:=cap) (C:=C) (ys:=xs++ys) (N1:=N1++N2) (ts:=[]) (vs:=[]) (xs:=[]) (N:=[]) d1 (by rw[Av.ax];exact d2) h3 (by rw[hlen];exact h1) h2 h4 (λw hw=> ?_) (by
     rw[hlen,h5];intro u hu;rcases Ac.1 hu with hu|hu
     ·exact Cp u hu
     ·exact ON u hu) (by
     rw[hlen,h5,VA,K7,Av.ax];exact(bY.app Ox).frame Bi) .nil
   ·rw[hlen]at this;simpa using this
   ·rcases Ac.1 hw with hw|hw
    ·exact GU w hw
    ·exact Jg w hw
theorem zt0(h:BE P c n nx sl hp a sl0 hp0 o gs){x y:Operand}{tx ty:TypeId}{cl:Call}(ho:o.op= .call cl)(Aw:cl.callee= .builtin .append)(C3:cl.args.toList=[x,y])(DZ:cl.argTypes.toList=[tx,ty])
  {s1 s2:SV} (BL:BM sl0 gs x=some s1) (Bb:BM sl0 gs y=some s2) (he:Z2 P hp0 gs nx tx ty s1 s2=some e) (hc:∀q∈e.cj,Cn.den c.ρ q):AD P o c n nx sl hp gs a e:=by
 have Ah:cl.args= #[x,y]:=by apply Array.ext';simp[C3]
 have DH:x∈o.op.operands:=by simp[ho,Op.operands,Call.operands,Aw,Ah]
 have CT:y∈o.op.operands:=by simp[ho,Op.operands,Call.operands,Aw,Ah]
 unfold Z2 at he;split at he
 ·cases he
 rename_i J3;have J3:tx=ty:=by simpa using J3
 subst J3;split at he
 ·rename_i el e' z dl t g2 b g lo z' Bx DQ;have JI:=Jk Bx;split at he
  ·cases he
  rename_i AA;simp only[not_or,Bc,Bool.not_eq_false,ne_eq,Decidable.not_not]at AA;obtain⟨hz,rfl,rfl,rfl,Xb⟩:=AA;obtain⟨_,_,l,JV,Ea⟩:=V0 (ZM Bx) DQ;simp only[DT.row.injEq,true_and]at JV;subst JV;rw[Av.ax]at he;have r1:=h.c7 BL DH;have r2:=h.c7 Bb CT;split at he
  ·rename_i e2 z2 l2 g2' ep2 c2 e3 z3 l3 g3 ep c0 Ax hlb;split at he
   ·rename_i hh;obtain⟨rfl,rfl,Gi,rfl,rfl,rfl,Ot,rfl⟩:=hh;have Gi:=Av.fb Gi;have Ot:=Av.fb Ot;subst Gi;subst Ot;simp only[Ad]at he;subst he;obtain⟨qt1,qt2,qt3,qt4,qt5⟩:=h.eh t _ (CP Ax h.gs);obtain⟨qb1,qb2,qb3,qb4,qb5⟩:=h.eh b _ (CP hlb h.gs);obtain⟨ka,ai,kb,bi,mm,d1,d2,d3,d4,d5,d6⟩:Cn.den c.ρ (.win c0 lo (.len c0)):=hc _ (by simp);obtain⟨m1,m2,rr1,rr2,rr3,rr4⟩:Cn.den c.ρ (.room c2 (.win c0 lo (.len c0)) (P.bytesOf e3)):=hc _ (by simp);generalize hvx:a.eval x=v at r1;generalize hvy:a.eval y=v2 at r2;cases r1 with
    |own k1 k2 k3=>
     cases r2 with
     | @wown _ _ _ _ qq nn cap qq' r kk kI _ _ j1 j2 j3 j4 j5 j6 j7=>
      have htd:(c.G t).top.Nodup:=by have:=h.rel.gw.nodup t;simp only[GI.own]at this;exact(List.nodup_append.1 this).1
      have bO:(c.G b).top.Nodup:=by have:=h.rel.gw.nodup b;simp only[GI.own]at this;exact(List.nodup_append.1 this).1
      have eF:∀q∈(c.G t).top,q<c.w.heap.size:=λq hq=>h.rel.gw.inb t q (by simp[GI.own,hq]);have Lz:∀q∈(c.G b).top,q<c.w.heap.size:=λq hq=>h.rel.gw.inb b q (by simp[GI.own,hq]);have I7:∀q∈(c.G b).top,q∉(c.G t).top:=λq hq GP=>h.rel.gw.cy b t (λe=>Xb e.symm) q (by simp[GI.own,hq]) (by simp[GI.own,GP]);obtain⟨z1,z2',A4⟩:=qb4.inv;rw[Av.ax]at z2' A4;obtain⟨an,rfl⟩:=Int.eq_ofNat_of_zero_le j4;obtain⟨ys,news,NB,Dx,Uv,Dm,Ox,Jg,ON,bB,topb,FA,Ol,dP⟩:∃(ys:List AV) (news:List Value) (NB:List Nat),(E.win c0 lo (.len c0)).den c.ρ= .sl ys/\ys.length=nn-an/\Src c.w (P.cellsOf e3) qq' ys.length news/\DC c.w (Bq ys.length l3) news (Ao ys) NB/\(∀y∈ys,y.cells.length=P.cellsOf e3)/\(∀u∈news,u.oneCell'=true)/\(∀q∈NB,q∈(c.G b).top)/\
        ∃topb:List Nat,(∀q∈topb,q∈(c.G b).top)/\(topb++NB).Nodup/\ ∀w':World,(∀q∈topb,w'.heap[q]?=c.w.heap[q]?)-> ∃(p:Option Addr) (cp:Nat) (zs:List AV),c.H b g= .slice p zs.length cp/\c0.den c.ρ= .sl zs/\an<=zs.length/\zs.length<=cp/\DC w' [.row e3 (P.cellsOf e3) (Av.of l3)] [.slice p an cp] [.sl (zs.take an)] topb:=by
       rcases A4 with⟨a9,hH,FC,M6⟩|⟨g9,cp,C,zs,N1,hH,FC,M6,h6,h7,h8,h9,Fk,EM,FJ⟩
       ·rw[j2]at hH;simp only[Value.slice.injEq]at hH;obtain⟨rfl,rfl,rfl⟩:=hH;have ha0:an=0:=by omega
        subst ha0;have Na:(E.win c0 lo (.len c0)).den c.ρ= .sl []:=by simp only[E.den,FC,j3,AV.win,AV.len];simp
        refine⟨[],[],[],Na,by simp,?_,by simpa[Bq,Ao]using DC.nil,by simp,by simp,by simp,[],by simp,by simp,λw' _=>⟨qq,0,[],by rw[j2];rfl,FC,by simp,by simp, .void z1 (by rw[Av.ax];exact z2') .nil⟩⟩;cases qq' with
        |none=>exact .inl ⟨rfl,rfl,rfl⟩
        |some ad=>exact .inr ⟨ad,rfl,by simp,by simp,by simp⟩
       ·rw[j2]at hH;simp only[Value.slice.injEq]at hH;obtain⟨rfl,rfl,rfl⟩:=hH;have hle:an<=zs.length:=by omega
        obtain⟨NA,NB,hN,c1,c2'⟩:=FJ.mr z2' Fk hle;have hmul:=By (P.cellsOf e3) hle;have EX:=By (P.cellsOf e3) h7;have DL:C.toList.length=cap*P.cellsOf e3:=by simpa using h9
        have Na:(E.win c0 lo (.len c0)).den c.ρ= .sl (zs.drop an):=by simp only[E.den,FC,j3,AV.win,AV.len];simp
        have Ow:(zs.drop an).length=zs.length-an:=BC;rw[M6]at bO;rw[hN]at bO;refine⟨zs.drop an,(C.toList.take (zs.length*P.cellsOf e3)).drop (an*P.cellsOf e3),NB,Na,Ow,?_,by rw[Ow];exact c2',λy hy=>Fk y (BH hy),λu hu=>EM u (BH hu),λq hq=>by rw[M6,hN];simp[hq],g9::NA,λq hq=>by rw[M6,hN];rcases Ae.1 hq with rfl|hq<;>simp_all,by simpa using bO,λw' qI=>⟨some ⟨g9,0,none⟩,cap,zs,by rw[j2],FC,hle,h7,?_⟩⟩
        ·rw[Ow];by_cases Ax:an<zs.length
         ·obtain⟨b9,Qh,GP,_⟩:=j6 (by omega);cases Qh;subst GP;refine .inr ⟨_,rfl,?_,λj u hj=> ?_,λu hu=>EM u (BH hu)⟩
          ·rw[BC,Ar,DL,Nat.min_eq_left EX,Nat.sub_mul]
          ·rw[Addr.add_lit,ED h6];rw[List.getElem?_drop,List.getElem?_take]at hj;split at hj
           ·rw[Array.getElem?_toList]at hj;simpa using hj
           ·cases hj
         ·have:zs.length-an=0:=by omega
          rw[this];have e0:(C.toList.take (zs.length*P.cellsOf e3)).drop (an*P.cellsOf e3)=[]:=by
           apply List.drop_eq_nil_of_le;rw[Ar];have:zs.length=an:=by omega
           rw[this];omega
          rw[e0];cases qq' with
          |none=>exact .inl ⟨rfl,rfl,rfl⟩
          |some ad=>exact .inr ⟨ad,rfl,by simp,by simp,by simp⟩
        ·have II:(zs.take an).length=an:=by rw[Ar];omega
         have e5:C.toList.take (an*P.cellsOf e3)=(C.toList.take (zs.length*P.cellsOf e3)).take (an*P.cellsOf e3):=by rw[List.take_take,Nat.min_eq_left hmul]
         have:=DC.row (w:=w') (e:=e3) (z:=P.cellsOf e3) (l:=Av.of l3) (g:=g9) (cap:=cap) (C:=C) (ys:=zs.take an) (N1:=NA) (ts:=[]) (vs:=[]) (xs:=[]) (N:=[]) z1 (by rw[Av.ax];exact z2') (by rw[qI g9 (by simp)];exact h6) (by rw[II];omega) h8 h9 (λy hy=>Fk y (Bt hy)) (by
           rw[II,e5];intro u hu;exact EM u (Bt hu)) (by
           rw[II,e5,Av.ax];exact c1.frame λq hq=>qI q (by simp[hq])) .nil
         rw[II]at this;simpa using this
      have bC:NB.Nodup:=(List.nodup_append.1 Ol).2.1;obtain⟨xs,Cs⟩:∃xs,c2.den c.ρ= .sl xs:=by
       obtain⟨_,_,⟨_,_,hh,_⟩|⟨_,_,_,zs,_,_,hh,_⟩⟩:=qt4.inv
       ·exact⟨_,hh⟩
       ·exact⟨_,hh⟩
      have pS:(nn:Int)-(an:Int)=(ys.length:Int):=by omega
      rw[Cs]at rr1;rw[Dx]at rr2;simp only[AV.len,AV.int.injEq,true_and]at rr1 rr2;have Dn:a.eval y= .slice qq' ys.length r:=by rw[hvy];congr 1;omega
      obtain⟨v',w',top,AR,Bj,Un,E1,HU⟩:=zwv (c:=c) (o:=o) (a:=a) ho Aw C3 DZ JI hz Ea htd eF bC (λq hq=>Lz q (bB q hq)) (λq hq=>I7 q (bB q hq)) Dn Dm Ox Jg ON hvx (by rw[<-k2];exact qt4) Cs (by rw[rr1,rr2];exact rr3) (by rw[rr1,rr2];exact rr4);have Lw:(E.app c2 (.win c0 lo (.len c0))).den c.ρ= .sl (xs++ys):=by have:(E.app c2 (.win c0 lo (.len c0))).den c.ρ=AV.app (c2.den c.ρ) ((E.win c0 lo (.len c0)).den c.ρ):=rfl;rw[this,Cs,Dx];rfl
      have pD:=h.rel.bz _ _ qt1;have bL:=h.rel.bz _ _ qb1;have Qg:=ND h;have Eu:nx≠t:=λe=>Qg (e▸pD);have IK:nx≠b:=λe=>Qg (e▸bL);obtain⟨recs,A5⟩:∃recs:List AX,recs=[⟨nx,some v',top, .deep e3 (P.cellsOf e3) l3 0 0 (.app c2 (.win c0 lo (.len c0)))⟩,⟨b,none,topb, .pre e3 (P.cellsOf e3) l3 g (ep+1) c0 lo⟩,⟨t,none,[], .dead⟩]:=⟨_,rfl⟩
      have Es:∀r∈recs,r=⟨nx,some v',top, .deep e3 (P.cellsOf e3) l3 0 0 (.app c2 (.win c0 lo (.len c0)))⟩\/r=⟨b,none,topb, .pre e3 (P.cellsOf e3) l3 g (ep+1) c0 lo⟩\/r=⟨t,none,[], .dead⟩:=λr hr=>by rw[A5]at hr;simpa using hr
      have hn:(recs.map AX.tag).Nodup:=by rw[A5];simp[Eu,IK];exact λe=>Xb e.symm
      have Bg:∀r∈recs,r.new.isSome=true-> ¬c.U r.tag:=λr hr hs=>by
       rcases Es r hr with rfl|rfl|rfl
       ·exact Qg
       ·cases hs
       ·cases hs
      have aft:=Cx.dr (w':=w') h.rel.bz hn Bg;have LG:(⟨nx,some v',top, .deep e3 (P.cellsOf e3) l3 0 0 (.app c2 (.win c0 lo (.len c0)))⟩:AX)∈recs:=by rw[A5];simp
      have OL:(⟨b,none,topb, .pre e3 (P.cellsOf e3) l3 g (ep+1) c0 lo⟩:AX)∈recs:=by rw[A5];simp
      have T3:(⟨t,none,[], .dead⟩:AX)∈recs:=by rw[A5];simp
      have OY:∀q∈topb,q∉NB:=λq hq GP=>(List.nodup_append.1 Ol).2.2 q hq q GP rfl;obtain⟨q1,q2⟩:=h.rel.changes (recs:=recs) (gs:=[]) (hs:=(c.G t).top++(c.G b).top) (E4 _) (Bj.weaken λq hq=> .inl (by simp[hq])) hn Bg (λq hq=>by
        rcases Ac.1 hq with hq|hq
        ·exact⟨_,T3,hq⟩
        ·exact⟨_,OL,hq⟩)
       (by
        rw[A5];simp only[List.flatMap_cons,List.flatMap_nil,AB];refine List.nodup_append.2 ⟨Un,(List.nodup_append.1 Ol).1,λp hp q hq e=> ?_⟩;subst e;rcases(E1 p hp).1 with hh|hh|hh
        ·exact I7 p (FA p hq) hh
        ·exact OY p hq hh
        ·have:=Lz p (FA p hq);omega)
       (λr hr q hq=>by
        rcases Es r hr with rfl|rfl|rfl
        ·obtain⟨k1',k2'⟩:=E1 q hq;refine⟨?_,k2'⟩;rcases k1' with hh|hh|hh
         ·exact .inl (by simp[hh])
         ·exact .inl (by simp[bB q hh])
         ·exact .inr hh
        ·exact⟨.inl (by simp[FA q hq]),Nat.lt_of_lt_of_le (Lz q (FA q hq)) Bj.size⟩
        ·cases hq)
       (λr hr=>by rcases Es r hr with rfl|rfl|rfl<;>(intros;simp))
       (λhk r hr=>by
        rcases Es r hr with rfl|rfl|rfl
        ·obtain⟨k1',k2',k3'⟩:=aft.new _ LG v' rfl;have kg:=aft.G _ LG;have ke:=aft.iu _ LG rfl;simp only at k1' k2' k3' kg ke;exact⟨k1',k2',ke,by rw[k3',kg,aft.w,aft.ρ,Lw];exact HU,by rw[kg]⟩
        ·have kg:=aft.G _ OL;have ke:=aft.gj _ OL rfl;obtain⟨k1',k2'⟩:=aft.K b g qb1;simp only at kg ke;obtain⟨p,cp,zs,f1,f2,f3,f4,f5⟩:=dP w' λq hq=>Bj.block q (Lz q (FA q hq)) (I7 q (FA q hq));refine⟨k1',λg' CE=>qb2 g' (aft.old b bL g' CE),by rw[ke,qb3],⟨p,cp,zs,kk,an,by rw[k2'];exact f1,by rw[aft.ρ];exact f2,by rw[aft.ρ];exact j3,f3,f4,by rw[aft.w,kg];exact f5⟩,by rw[kg]⟩
        ·have kg:=aft.G _ T3;exact⟨by rw[kg],by rw[kg]⟩)
      intro next Q hk
      unfold Oper.wp;rw[AR,Oper.upon_value];obtain⟨k1',k2',k3'⟩:=aft.new _ LG v' rfl;simp only at k1' k3';obtain⟨p,m,r,rfl⟩:=HU.head;have Uc:(recs.map λr=>(r.tag,C5 [] r.bq))=(nx, .deep e3 (P.cellsOf e3) l3 0 0 (.app c2 (.win c0 lo (.len c0))))::(b, .pre e3 (P.cellsOf e3) l3 g (ep+1) c0 lo)::Ez [t]:=by rw[A5];simp[C5,Ez]
      rw[Uc]at q1;refine hk _ (c.du w' _) ⟨rfl,rfl,rfl,rfl,λu hu=> ?_⟩ (q1.put (SR.own k1' k3' .nil) o.dst);rcases hu with hu|⟨r,hr,rfl⟩
      ·exact .inl hu
      ·rcases Es r hr with rfl|rfl|rfl
       ·exact .inr ⟨AN _,by simp[BW]⟩
       ·exact .inl bL
       ·exact .inl pD
   ·cases he
  ·cases he
 ·cases he
end
section
variable {P:Program} {c:Cx} {n nx:Nat} {sl sl0:Nat->SV} {hp hp0:Nat->Option Af} {a:Act} {o:Oper} {gs:Gd} {e:Bh} {sg:BY} {nv:Nat}
theorem oI{w:World}:∀(vs:List Value) {xs:List AV} {f:List Nat} (ts:List TypeId),Rd w vs xs f->ts.length<=vs.length->DV P w ts [] [] vs xs f [] []
 | [],xs,f,ts,h,hl=>by have:ts=[]:=List.eq_nil_of_length_eq_zero (by simpa using hl);subst this;cases h;exact .nil
 |v::vs,[],f,ts,h,hl=>by have:=h.len;simp at this
 |v::vs,x::xs,f,ts,h,hl=>by
  obtain⟨f1,f2,rfl,h1,h2⟩:=h.cr;cases ts with
  |nil=>exact .free h1 (oI vs [] h2 (by simp))
  |cons t ts=>exact DV.cons (h:=[]) ⟨h1,rfl⟩ (oI vs ts h2 (by simpa using hl))
theorem zDq(l:EL):EL.of (SQ.go l)=l:=by
 induction l using EL.rec (motive_1:=λ_=>True)with
 |nil=>rfl
 |cons e es _ ih=>simp[SQ.go,EL.of,ih]
 |_=>trivial
theorem zBP{w:World}{ts:List TypeId}{vs:List Value}{Bs:List AV}{f o:List Nat}(h:DU P w ts [] vs Bs f o):Bs=[]:=by
 have key:∀(ts:List TypeId),BK ts []=false:=by
  intro ts
  induction ts with
  |nil=>rfl
  |cons t ts ih=>simp only[BK,List.headD_nil,Bool.false_or,List.tail_nil];exact ih
 exact(kR h).2 (key ts)
theorem zz8(t:TypeId):F0 P t []=false:=by simp[F0]
theorem u6(h:BE P c n nx sl hp a sl0 hp0 o gs){cl:Call}{fo:Operand}(ho:o.op= .call cl)(Aw:cl.callee= .value fo){y:E}{sf:SV}(hf:BM sl0 gs fo=some sf)(hsf:∀v,SR c [sf] [v]-> ∃f,Rd c.w [v] [y.den c.ρ] f){as_:List SV}(has:cl.args.toList.mapM (BM sl0 gs)=some as_){t:TypeId}
  (he:SQ P hp0 gs nv t y as_=some e) (Bu:∀c',e.call=some c'-> ∃r,c.ρ[nv]?=some r/\IZ (Co P sg) c'.fn ((EL.of c'.args).den c.ρ) c.ρ r):AD P o c n nx sl hp gs a e:=by
 have dB:fo∈o.op.operands:=by simp[ho,Op.operands,Call.operands,Aw]
 have dA:∀x∈cl.args.toList,x∈o.op.operands:=λx hx=>by
  have:x∈cl.args:=by simpa using hx
  simp[ho,Op.operands,Call.operands,Aw,this]
 have M0:=h.c7 hf dB;have Ah:=zC (a:=a) (λx hx s hs=>h.c7 hs (dA x hx)) has;unfold SQ at he;split at he
 ·cases he
 split at he
 ·cases he
 rename_i es IC;simp only[Ad]at he;subst he;obtain⟨r,hr,g,caps,hy,H6,Fe⟩:=Bu _ rfl;rw[zDq]at H6;obtain⟨f1,p1,p2⟩:=Sv h.eh h.gs A8 IC Ah A8 (AN _);generalize cG:a.eval fo=fv at M0;obtain⟨_,k1⟩:=hsf _ M0;obtain⟨capv,f2,rfl,Qj⟩:∃capv f2,fv= .func (.func g) #[] capv.toArray/\Rd c.w capv caps f2:=by
  rw[hy]at k1;cases k1 with
  |fn q1 _=>exact⟨_,_,rfl,q1⟩
 have OV:Ti P {b8:=[],res:=[]} g (es.den c.ρ++caps) r:=by unfold Co at H6;rw[if_neg (by omega)]at H6;simpa using H6
 obtain⟨fn,ID,Eg,Gp,_,hlen,_,FM⟩:=OV;have Dj:=p1.app Qj;have Ex:=Dj.len;have Bu:=FM c.w _ _ [] [] (oI _ (fn.params.toList++ []) Dj (by rw[Ex,hlen,AB,BG];omega)) (by simp) (by simp) (by simp) (h.rel.mf (by simp));have ex:(execOp a.eval o).run P c.w= .ok (.enter g (cl.args.map a.eval++capv.toArray)) c.w:=by
  have hb:fn.body.isNone=false:=by simpa using Eg
  simp only[execOp,ho,resolve,Aw,cG,Deferred.ofValue,Sem.run_bind,Sem.run_pure,Result.andThen_ok,invoke,callFunc,run_program,ID];simp[Gp,hb]
 intro next Q hk
 unfold Oper.wp;rw[ex,Oper.upon_enter];have Oq:cl.args.map a.eval++capv.toArray=((cl.args.toList.map a.eval)++capv).toArray:=by apply Array.ext';simp
 rw[Oq];refine Bu.mono ?_;rintro e' w' ⟨v,rfl,⟨R,Bs,f1',o1,f2',o2,LP,AL,Fs,Hi,Ua,TP⟩,Bj⟩;show next (a.put o.dst v) w'
 have Og:=zBP Fs;subst Og;simp only at LP;subst LP;have hv:Rd w' [v] [r] []:=by
  unfold KX at AL;split at AL
  ·rename_i t' ht;unfold DY at AL;rw[if_neg (by rw[zz8];simp)]at AL;have:=u4 AL.1 Fe;subst this;exact AL.1
  ·obtain⟨vs,ys,_,rfl,_⟩:=AL;have:=Fe (.tup ys) (by simp[AV.cells]);simp[AV.scalar]at this
 obtain⟨Fv,_⟩:=h.rel.changes (w':=w') (recs:=[]) (hs:=[]) (gs:=gs) h.gs Bj (by simp) (by simp) (by simp) (by simp) (by simp) (by simp) (by simp);refine hk _ (c.du w' []) ⟨rfl,rfl,rfl,rfl,λt ht=> ?_⟩ (Fv.put (SR.mkGd (.e (f:=[]) ?_ (by simp) .nil) gs h.gs) o.dst)
 ·rcases ht with ht|⟨r,hr,_⟩
  ·exact .inl ht
  ·simp at hr
 ·show Rd w' [v] [(E.var nv).den c.ρ] [];simp only[E.den,hr,Dp];exact hv
theorem eX(J2:∀f s,sg f=some s->f<1000000)(h:BE P c n nx sl hp a sl0 hp0 o gs)(he:BX P sg sl0 hp0 nv nx gs o=some e)
  (hc:∀q∈e.cj,q.den c.ρ) (Bu:∀cl,e.call=some cl-> ∃r,c.ρ[nv]?=some r/\IZ (Co P sg) cl.fn ((EL.of cl.args).den c.ρ) c.ρ r) (Dc:∀x,e.ch=some x->c.ρ[nv]?=some (.bool (Li a o))):AD P o c n nx sl hp gs a e:=by
 have LB:=he;cases AW:o.op with
 |move x=>simp only[BX,AW,As]at he;obtain⟨s,hs,rfl⟩:=he;exact yP h (.inl AW) hs
 |assign x=>simp only[BX,AW,As]at he;obtain⟨s,hs,rfl⟩:=he;exact yP h (.inr AW) hs
 |pick x y z=>exact zzj h AW he hc
 |alloc t=>exact zyb h AW he hc
 |box t x=>exact zCm h AW he hc
 |build t parts=>exact zxU h AW he hc
 |buildSlice t m parts=>
  simp only[BX,AW,Au]at he;obtain⟨ps,KO,he⟩:=he;split at he
  ·exact zrQ h AW KO he hc
  ·exact zpS h AW KO he hc
 |load t x=>exact zAj h AW he hc
 |nilCheck x=>exact ztd h AW he hc
 |makeSlice t l m=>
  simp only[BX,AW,Au]at he;obtain⟨s1,BL,s2,Bb,he⟩:=he;split at he
  ·exact ztX h AW BL Bb he hc
  ·exact zyl h AW BL Bb he hc
 |slice t x lo hi mx=>
  simp only[BX,AW,Au]at he;obtain⟨s,hs,l',BS,h',I9,m',C7,he⟩:=he;split at he
  ·exact zvG h AW hs BS I9 C7 he hc
  split at he
  ·exact zt2 h AW hs BS I9 C7 he hc
  ·exact zwz h AW hs BS I9 C7 he hc
 |fieldAddr t x f=>exact zrS h AW he hc
 |field t x f=>exact zyw h AW he hc
 |extract x i=>exact zve h AW he hc
 |store t x y=>
  simp only[BX,AW,Au]at he;obtain⟨p,hp',v,hv,he⟩:=he;cases p with
  |cw b k=>exact ztJ h AW hp' hv he hc
  |cz b g i sz k=>
   by_cases AT:∃e z g c d,Dq hp0 gs b=some (.row e z g c d)
   ·exact ztf h AW AT hp' hv he hc
   ·exact zr3 h AW AT hp' hv he hc
  |_=>simp[NF]at he
 |binOp op t x y ty=>
  cases hu:P.underlying t with
  |none=>simp only[BX,AW,Au]at he;obtain⟨_,_,_,_,he⟩:=he;simp[S8,hu]at he
  |some d=>
   by_cases Uk:∃fs,d= .struct fs
   ·obtain⟨fs,rfl⟩:=Uk;exact zCa h AW hu he hc
   ·have MW:∀fs,P.underlying t≠some (.struct fs):=λfs hh=>Uk ⟨fs,by rw[hu]at hh;cases hh;rfl⟩;cases hq:e.ch with
    |none=>exact zBy h AW MW he hq hc
    |some x'=>
     have Gu:=Dc x' hq;simp only[BX,AW,Au]at he;obtain⟨s1,BL,s2,Bb,he⟩:=he;have r1:=h.c7 BL (by simp[AW,Op.operands]);have r2:=h.c7 Bb (by simp[AW,Op.operands]);unfold S8 at he;split at he
     ·rename_i el FV;have Dr:∀xq,BF hp0 gs A8 s1=some xq->Cn.den c.ρ (.dfd (.len xq))-> ∃p q r,a.eval x= .slice p q r:=by
       intro xq J6 hd;obtain⟨f,q1,_⟩:=h.jv BL (by simp[AW,Op.operands]) J6;have hd:(xq.den c.ρ).len≠ .undef:=hd;cases BN:xq.den c.ρ<;>simp only[BN,AV.len,ne_eq,not_true_eq_false]at hd;rename_i xs;have hl:(xq.den c.ρ).len= .int .i64 (xs.length:Int):=by rw[BN];rfl
       rcases SC q1 hl with⟨p,q,hv,Cr⟩|⟨b,o',k,q,hv,Cr⟩
       ·exact⟨_,_,_,hv⟩
       ·exact⟨_,_,_,hv⟩
      split at he
      ·simp at he;subst he;cases hq
      ·simp at he;subst he;cases hq
      ·obtain⟨xq,J6,rfl⟩:=As.1 he;obtain⟨p,q,r,hv⟩:=Dr xq J6 (hc _ (by simp));exact zG h AW FV hv r2 (.inl rfl) Gu _
      ·obtain⟨xq,J6,rfl⟩:=As.1 he;obtain⟨p,q,r,hv⟩:=Dr xq J6 (hc _ (by simp));exact zG h AW FV hv r2 (.inr rfl) Gu _
      ·cases he
     ·split at he
      ·simp at he;subst he;cases hq
      ·cases he
     ·split at he
      ·simp at he;subst he;cases hq
      ·cases he
     ·split at he
      ·simp at he;subst he;cases hq
      ·cases he
     ·rename_i fs FV;exact absurd FV (MW fs)
     ·cases he
 |unOp u t x=>
  cases u with
  |not=>exact zCh h AW he hc
  |neg=>exact zCq h AW he hc
  |_=>simp[BX,AW]at he
 |convert src dst x=>
  have MI:=he;simp only[BX,AW,Au]at MI;obtain⟨s,_,MI⟩:=MI;unfold We at MI;split at MI
  ·rename_i k0 k h1 h2;exact zuY h AW h1 h2 he hc
  ·rename_i h1 h2;exact zut h AW h1 h2 he hc
  ·rename_i el h1 h2;exact ztr h AW h1 h2 he hc
  ·cases MI
 |makeFunc fr fst caps=>
  cases fr with
  |func f=>exact ztG h AW he
  |_=>simp[BX,AW]at he
 |indexAddr t x i=>refine zr0 h AW (λhu=> ?_) he hc;simp only[BX,AW,Au]at he;obtain⟨_,_,_,_,he⟩:=he;simp[XF,hu]at he
 |index t x i=>
  refine zuW h AW ?_ he hc;simp only[BX,AW,Au]at he;obtain⟨_,_,_,_,he⟩:=he;split at he
  ·rename_i Ew;unfold XF at Ew;split at Ew
   ·assumption
   ·cases Ew
  ·cases he
 |call cl=>
  simp only[BX,AW]at he;cases Aw:cl.callee with
  |invoke r m=>rw[Aw]at he;simp at he
  |value f=>
   rw[Aw]at he;simp only[Au]at he;obtain⟨s,hs,as_,has,he⟩:=he;cases s with
   |fn g caps=>
    have he:Wo P sg hp0 gs nv nx g (as_++caps.toList)=some e:=he;refine zAi h AW Aw hs has ?_ he Bu;unfold Wo at he;split at he
    ·rename_i fn sg' ID hh;exact J2 g sg' hh
    ·cases he
   |e y=>exact u6 h AW Aw hs (λv hv=>by cases hv with|e k1 _ _=>exact⟨_,k1⟩) has he Bu
   |lent i=>exact u6 h AW Aw hs (λv hv=>by
     cases hv with
     |lent g1 _=>obtain⟨f,p1,p2⟩:=h.rel.base.lo _ _ g1;exact⟨f,p1.frame λb hb=>h.rel.base.block b (p1.inb b hb) (p2 b hb)⟩) has he Bu
   |_=>simp at he
  |builtin b=>
   rw[Aw]at he;cases b with
   |len=>
    simp only at he;split at he
    ·rename_i x tx C3 DZ;exact zBS h AW Aw C3 DZ LB hc
    ·cases he
   |append=>
    simp only at he;split at he
    ·rename_i x y tx ty C3 DZ;simp only[Au]at he;obtain⟨s1,BL,s2,Bb,he⟩:=he;split at he
     ·exact zt0 h AW Aw C3 DZ BL Bb he hc
     split at he
     ·exact zru h AW Aw C3 DZ BL Bb he hc
     ·exact zud h AW Aw C3 DZ BL Bb he hc
    ·cases he
   |clear=>
    simp only at he;split at he
    ·rename_i x tx C3 DZ;simp only[Au]at he;obtain⟨s,hs,he⟩:=he;exact zxT h AW Aw C3 DZ hs he hc
    ·cases he
   |max=>
    simp only at he;split at he
    ·rename_i x y C3;simp only[Au]at he;obtain⟨s1,BL,s2,Bb,he⟩:=he;exact wG h AW (.inl ⟨rfl,Aw⟩) C3 BL Bb he hc
    ·cases he
   |min=>
    simp only at he;split at he
    ·rename_i x y C3;simp only[Au]at he;obtain⟨s1,BL,s2,Bb,he⟩:=he;exact wG h AW (.inr ⟨rfl,Aw⟩) C3 BL Bb he hc
    ·cases he
   |_=>simp at he
 |_=>simp[BX,AW]at he
end
end
end Go.Proofs.YtalagilebkaegaaGreat

/- Parts of a proof, joined: WSb, WT, WU, WV, WW. -/
import Derived.Test.YtlmjpjceiefpoaaGreatK5
set_option linter.unusedVariables false
set_option linter.unusedSimpArgs false
namespace Go.Proofs.YtlmjpjceiefpoaaGreat
open Go.RowKit
section
section
variable {P:Program} {c:Cx} {n nx:Nat} {sl sl0:Nat->SV} {hp hp0:Nat->Option Aj} {a:Act} {o:Oper} {gs:Gd} {e:Bf} {sg:BW} {nv:Nat}
theorem Ug(hp:Nat->Option Aj):∀(l:List (Nat × Aj)) (t:Nat),Bo hp l t=match Nv l t with|some f=>some f|none=>hp t
 | [],t=>rfl
 |(u,e)::l,t=>by
  have:=Ug (λv=>if v=u then some e else hp v) l t;simp only[Bo,List.foldl_cons,Nv]at this ⊢;rw[this];cases Nv l t with
  |some f=>rfl
  |none=>
   simp only;by_cases h:u=t
   ·rw[if_pos h.symm,if_pos h]
   ·rw[if_neg (Ne.symm h),if_neg h]
theorem zCk{hp:Nat->Option Aj}{T v m u:Nat}{p:E × Nat × Nat}{h r:Aj}(hs:Y0 hp T v m u p=some (h,r)):∃e z l ep c0 i o',h= .hol e z l v (m+1) c0 i o' u/\look hp [] T=some (.deep e z l v ep c0)/\ep=m:=by
 unfold Y0 at hs;split at hs
 ·rename_i hl;split at hs
  ·rename_i hh;obtain⟨rfl,rfl,_⟩:=hh;split at hs
   ·simp only[Af,A0]at hs;obtain⟨rfl,_⟩:=hs;exact⟨_,_,_,_,_,_,_,rfl,hl,rfl⟩
   ·cases hs
  ·cases hs
 ·cases hs
theorem zCC{h r d:Aj}{e z:Nat}{l:List DT}{g ep:Nat}{c0 i:E}{o' u:Nat}(hh:h= .hol e z l g ep c0 i o' u)(hc:YW P h r=some d):∃x,d= .deep e z l g (ep+1) x:=by
 subst hh;unfold YW at hc;simp only at hc;split at hc
 ·split at hc
  ·simp only[Af]at hc;exact⟨_,hc.symm⟩
  ·cases hc
 ·split at hc
  ·simp only[Af]at hc;exact⟨_,hc.symm⟩
  ·cases hc
 ·cases hc
theorem zP1(JL:∀f s,sg f=some s->f<1000000)(h:BB P c n nx sl hp a sl0 hp0 o [])(hu: ¬c.U (nx+999))(he:WA P sg sl0 hp0 nv nx o=some e)
  (hc:∀q∈e.dn,q.den c.ρ) (Bp:∀cl,e.call=some cl-> ∃r,c.ρ[nv]?=some r/\JZ (Cp P sg) cl.fn ((EL.of cl.args).den c.ρ) c.ρ r):AK P o c n nx sl hp [] a e:=by
 unfold WA at he;simp only at he;split at he
 ·cases he
 rename_i t T v m p s NR;split at he
 ·cases he
 rename_i hl inn P4;split at he
 ·cases he
 rename_i e0 Mz;split at he
 ·cases he
 rename_i Dr;have Dr:e0.df=none:=by cases hh:e0.df with|none=>rfl|some x=>rw[hh]at Dr;simp at Dr
 obtain⟨EI,Bu⟩:=Yi NR;have EI:Operand.tmp t∈o.op.operands:=by simpa using EI
 obtain⟨fe,fz,fl,fep,fc0,fi,fo,rfl,IV,rfl⟩:=zCk P4;have hE:c.E T=fep:=(h.eh T _ (Di IV (Fy _))).2.2.1;have Ff:=h.rel.ee t;rw[<-h.sl t EI]at Ff;obtain⟨vv,K2,Ba⟩:∃vv,J3 c T v (some p) vv/\ ∀c1:Cx,c1.ρ=c.ρ->c1.K (nx+999) 0->c1.H (nx+999) 0=vv->(∃q n r,vv= .slice q n r/\(q=none\/n=0\/ ∃g,q=some ⟨g,0,none⟩))->SR c1 [s] [a.tmps.getD t undef]:=by
  rcases Bu with⟨y,Dh,rfl⟩|⟨y,k,z,q,Dh,rfl⟩
  ·rw[Dh]at Ff;generalize a.tmps.getD t undef=av at Ff ⊢;cases Ff with
   |via h1 h2 h3 _=>obtain⟨_,hp⟩:=h3 hE;refine⟨_,hp,λc1 e1 k1 k2 k3=> ?_⟩;obtain⟨q,n,r,rfl,_⟩:=k3;exact .own k1 k2 .nil
  ·rw[Dh]at Ff;generalize a.tmps.getD t undef=av at Ff ⊢;cases Ff with
   |vptr h1 h2 h3 _=>
    obtain⟨b,off,len,cap,kk,kv,g1,g2,g3,g4,g5,g6,rfl⟩:=h3 hE;refine⟨_,g2,λc1 e1 k1 k2 k3=> ?_⟩;obtain⟨q9,n9,r9,hv,hq⟩:=k3;cases hv;have GZ:off=0:=by
     rcases hq with hq|hq|⟨g,hq⟩
     ·cases hq
     ·omega
     ·cases hq;rfl
    subst GZ;have:=SR.du (c:=c1) (i:=k) (sz:=z) (o:=q) k1 k2 (by rw[e1];exact g3) g4 g5 .nil;simpa using this
 obtain⟨recs,c1,rfl,DR,PK,Rq,Mo,hvv,mW,hKT,_,hE1,KJ⟩:=h.rel.split P4 h.hp hu (λ_=>K2);have MK:=Ba _ PK.ρ Rq Mo hvv;have FU:=DR.la (sl':=λi=>if i=t then s else sl i) (λi=>by
  by_cases hi:i=t
  ·subst hi;right;simpa using MK
  ·left;simp[hi])
 have Fj:∀x,Bo hp [(T, .hol fe fz fl v (fep+1) fc0 fi fo (nx+999)),(nx+999,inn)] x=if x=nx+999 then some inn else if x=T then some (.hol fe fz fl v (fep+1) fc0 fi fo (nx+999))else hp x:=λx=>rfl;have pre1:BB P (c.fm c.w recs) n nx (λi=>if i=t then s else sl i) (Bo hp [(T, .hol fe fz fl v (fep+1) fc0 fi fo (nx+999)),(nx+999,inn)]) a (λi=>if i=t then s else sl0 i) (λw=>if w=T then some (.hol fe fz fl v (fep+1) fc0 fi fo (nx+999))else if w=nx+999 then some inn else hp0 w) o []:=by
  refine⟨FU,Fy _,λi hi=> ?_,λx f hf=> ?_,λx h1 h2 hx=> ?_⟩
  ·by_cases hit:i=t
   ·simp[hit]
   ·simp only[if_neg hit];exact h.sl i hi
  ·rw[Fj];by_cases h1:x=T
   ·rw[if_pos h1]at hf;rw[if_neg (by rw[h1];exact KJ),if_pos h1];exact hf
   ·rw[if_neg h1]at hf;by_cases h2:x=nx+999
    ·rw[if_pos h2]at hf ⊢;exact hf
    ·rw[if_neg h2]at hf;rw[if_neg h2,if_neg h1];exact h.hp x f hf
  ·rcases mW x hx with hx|hx
   ·exact h.new x h1 h2 hx
   ·omega
 have hdst:∀(c':Cx) (a':Act) (w9:SV),Rel c' n (Dg n (λi=>if i=t then s else sl i) o.dst w9) (λ_=>none) a'->True:=λ_ _ _ _=>trivial;have stale:∀(c':Cx) (v':Value),c'.K T v->fep<c'.E T->SR c' [sl t] [v']:=by
  intro c' v' hk AQ;rw[<-h.sl t EI];rcases Bu with⟨y,Dh,_⟩|⟨y,k,z,q,Dh,_⟩
  ·rw[Dh];exact .via hk (by omega) (λhh=>by omega) .nil
  ·rw[Dh];exact .vptr hk (by omega) (λhh=>by omega) .nil
 have back:∀{c':Cx} {hp':Nat->Option Aj} {a':Act} {w9:SV},Rel c' n (Dg n (λi=>if i=t then s else sl i) o.dst w9) hp' a'->c'.K T v->fep<c'.E T->Rel c' n (Dg n sl o.dst w9) hp' a':=by
  intro c' hp' a' w9 hr hk AQ;refine hr.la λi=> ?_;unfold Dg;by_cases h1:o.dst=some i/\i<n
  ·left;rw[if_pos h1,if_pos h1]
  ·rw[if_neg h1,if_neg h1];by_cases h2:i=t
   ·subst h2;right;exact stale _ _ hk AQ
   ·left;show sl i=if i=t then s else sl i;rw[if_neg h2]
 split at he
 ·
  split at he
  ·rename_i E8;simp only[Af]at he;subst he;have KP:=tA JL pre1 Mz hc Bp (λx hx=>by rw[Dr]at hx;cases hx);intro next Q hk
   refine KP next Q λa' c' Bl hr=> ?_
   have mU:Bo (Bo hp [(T, .hol fe fz fl v (fep+1) fc0 fi fo (nx+999)),(nx+999,inn)]) e0.cy T=some (.hol fe fz fl v (fep+1) fc0 fi fo (nx+999)):=by rw[Ug,E8,Fj,if_neg KJ,if_pos rfl]
   obtain⟨g1,_,g3,_⟩:=hr.ents T _ (by rw[mU];rfl);refine hk a' c' ⟨Bl.ρ,Bl.A,Bl.w0,Bl.Mu,λx hx=> ?_⟩ (back hr g1 (by omega));rcases Bl.U x hx with hx|hx
   ·rcases mW x hx with hx|hx
    ·exact .inl hx
    ·exact .inr ⟨by omega,by simp only[B1];omega⟩
   ·exact .inr hx
  ·cases he
 ·split at he
  ·rename_i r' hlu hlT;obtain⟨d,hd,rfl⟩:=Ay.1 he;have KP:=tA JL pre1 Mz hc Bp (λx hx=>by rw[Dr]at hx;cases hx);intro next Q hk
   refine KP next Q λa' c' Bl hr=> ?_
   have mU:Bo (Bo hp [(T, .hol fe fz fl v (fep+1) fc0 fi fo (nx+999)),(nx+999,inn)]) e0.cy T=some (.hol fe fz fl v (fep+1) fc0 fi fo (nx+999)):=by rw[Ug,hlT,Fj,if_neg KJ,if_pos rfl]
   have hue:Bo (Bo hp [(T, .hol fe fz fl v (fep+1) fc0 fi fo (nx+999)),(nx+999,inn)]) e0.cy (nx+999)=some r':=by rw[Ug,hlu]
   obtain⟨recs2,c2,rfl,Eb,hU2,hE2⟩:=hr.close mU hue hd ⟨_,_,_,_,_,_,_,_,rfl⟩ KJ;obtain⟨x9,rfl⟩:=zCC rfl hd;have mV:Bo (Bo (Bo hp [(T, .hol fe fz fl v (fep+1) fc0 fi fo (nx+999)),(nx+999,inn)]) e0.cy) [(T, .deep fe fz fl v (fep+1+1) x9),(nx+999, .dead)] T=some (.deep fe fz fl v (fep+1+1) x9):=by show(if T=nx+999 then _ else if T=T then _ else _)=_;rw[if_neg KJ,if_pos rfl]
   obtain⟨g1,_,g3,_⟩:=Eb.ents T _ (by rw[mV];rfl);have Ib:=back Eb g1 (by omega);have BK:Bo hp ((T, .hol fe fz fl v (fep+1) fc0 fi fo (nx+999))::(nx+999,inn)::e0.cy++ [(T, .deep fe fz fl v (fep+1+1) x9),(nx+999, .dead)])=Bo (Bo (Bo hp [(T, .hol fe fz fl v (fep+1) fc0 fi fo (nx+999)),(nx+999,inn)]) e0.cy) [(T, .deep fe fz fl v (fep+1+1) x9),(nx+999, .dead)]:=by rw[<-Q4,<-Q4];rfl
   refine hk a' (c'.fm c'.w recs2) ⟨Bl.ρ,Bl.A,Bl.w0,Bl.Mu,λx hx=> ?_⟩ ?_
   ·rcases Bl.U x (hU2 x hx)with hx|hx
    ·rcases mW x hx with hx|hx
     ·exact .inl hx
     ·exact .inr ⟨by omega,by simp only[B1];omega⟩
    ·exact .inr hx
   ·have:=Ib;rw[<-BK]at this;exact this
  ·cases he
theorem zKi(h:BB P c n nx sl hp a sl0 hp0 o gs){e:Bf}(dp:Bool)(hd:AK P o c n nx sl hp gs a e):AK P o c n nx sl hp gs a (LA dp hp0 gs e):=by
 unfold LA;split
 ·exact hd
 ·split
  ·rename_i l hl;intro next Q hk
   refine hd next Q λa' c' hs hr=> ?_
   have e1:Bo hp0 e.cy=λt=>match Nv e.cy t with|some f=>some f|none=>hp0 t:=funext (Ug hp0 e.cy)
   have hl:El (Bo hp0 e.cy) [] (zGc e.cy)=some l:=by rw[e1];exact hl
   have Kb:=hr.freeze (hp0:=Bo hp0 e.cy) (λt e' h'=>by
    rw[Ug]at h' ⊢;split at h'
    ·exact h'
    ·exact h.hp t e' h') (Fy _) hl
   refine hk a' (c'.da (l.map (·.1))) ⟨hs.ρ,hs.A,hs.w0,hs.Mu,hs.U⟩ ?_;show Rel _ _ _ (Bo hp (e.cy++l)) a';rw[Q4];exact Kb
  ·exact hd
theorem zGZ(dp:Bool)(e:Bf):(LA dp hp0 gs e).call=e.call:=by
 unfold LA;split
 ·rfl
 ·split<;>rfl
theorem zJc(dp:Bool)(e:Bf):(LA dp hp0 gs e).dn=e.dn:=by
 unfold LA;split
 ·rfl
 ·split<;>rfl
theorem zul(dp:Bool)(e:Bf):(LA dp hp0 gs e).df=e.df:=by
 unfold LA;split
 ·rfl
 ·split<;>rfl
theorem zJD{dp:Bool}{e:Bf}{x:E}(h:e.df=some x):LA dp hp0 gs e=e:=by unfold LA;rw[if_pos (by simp[h])]
theorem zLI(h:BB P c n nx sl hp a sl0 hp0 o gs){e:Bf}(fz:Bool)(hd:AK P o c n nx sl hp gs a e):AK P o c n nx sl hp gs a (Lc fz hp0 gs e):=by
 unfold Lc;split
 ·exact hd
 ·rename_i Vm;simp only[Bool.or_eq_true,not_or]at Vm;have Zy:e.cy=[]:=by simpa using Vm.2
  split
  ·rename_i t g m p x hv;split
   ·rename_i y l hy hl;split
    ·rename_i JI;intro next Q hk
     refine hd next Q λa' c' hs hr=> ?_
     rw[Zy]at hr;have nT:gs=[]:=by simpa using Vm.1.1.1.2
     subst nT;have hr:Rel c' n (Dg n sl o.dst e.val) hp a':=hr;have eh:EH c' hp0:=λt e Et=>hr.ents t e (Pg h.hp Et);have Kb:=hr.freeze h.hp (Fy _) hl;refine hk a' (c'.da (l.map (·.1))) ⟨hs.ρ,hs.A,hs.w0,hs.Mu,hs.U⟩ ?_;refine{Kb with ee:=λi=> ?_};have h1:=hr.ee i;have h2:=Kb.ee i;unfold Dg at h1 h2 ⊢;split
     ·rename_i hi;rw[if_pos hi]at h1;obtain⟨f,q1,q2⟩:=Je eh (Fy _) Bb hy h1 Bb (AF _);exact .e q1 (λb hb=>Yu hr eh (Fy _) hl JI (q2 b hb)) .nil
     ·rename_i hi;rw[if_neg hi]at h2;exact h2
    ·exact hd
   ·exact hd
  ·exact hd
theorem zIY(fz:Bool)(e:Bf):(Lc fz hp0 gs e).call=e.call:=by
 unfold Lc;split
 ·rfl
 ·split
  ·split
   ·split<;>rfl
   ·rfl
  ·rfl
theorem zMd(fz:Bool)(e:Bf):(Lc fz hp0 gs e).dn=e.dn:=by
 unfold Lc;split
 ·rfl
 ·split
  ·split
   ·split<;>rfl
   ·rfl
  ·rfl
theorem zDx(fz:Bool)(e:Bf):(Lc fz hp0 gs e).df=e.df:=by
 unfold Lc;split
 ·rfl
 ·split
  ·split
   ·split<;>rfl
   ·rfl
  ·rfl
theorem zMc{fz:Bool}{e:Bf}{x:E}(h:e.df=some x):Lc fz hp0 gs e=e:=by unfold Lc;rw[if_pos (by simp[h])]
theorem zRf(JL:∀f s,sg f=some s->f<1000000):Qn P sg (Cp P sg):=by
 intro c n nx sl hp a sl0 hp0 o gs e nv h hu he hc Bp Dr;unfold NH at he;split at he
 ·rename_i e' Ft;simp only[Af]at he;subst he;rw[zMd,zJc]at hc;rw[zIY,zGZ]at Bp;rw[zDx,zul]at Dr;exact zLI h _ (zKi h _ (tA JL h Ft hc Bp Dr))
 ·split at he
  ·exact zP1 JL h hu he hc Bp
  ·cases he
theorem zE2{x:E}(he:WA P sg sl0 hp0 nv nx o=some e)(hq:e.df=some x):False:=by
 unfold WA at he;simp only at he;split at he
 ·cases he
 split at he
 ·cases he
 split at he
 ·cases he
 rename_i e0 Mz;split at he
 ·cases he
 rename_i Dr;have Dr:e0.df=none:=by cases hh:e0.df with|none=>rfl|some x=>rw[hh]at Dr;simp at Dr
 split at he
 ·split at he
  ·simp only[Af]at he;subst he;rw[Dr]at hq;cases hq
  ·cases he
 ·split at he
  ·obtain⟨d,hd,rfl⟩:=Ay.1 he;rw[Dr]at hq;cases hq
  ·cases he
theorem zEK{x:E}(he:NH P sg sl0 hp0 nv nx gs o=some e)(hq:e.df=some x):B2 P sg sl0 hp0 nv nx gs o=some e:=by
 unfold NH at he;split at he
 ·rename_i e' Ft;simp only[Af]at he;subst he;rw[zDx,zul]at hq;rw[zMc (by rw[zul];exact hq),zJD hq];exact Ft
 ·split at he
  ·exact(zE2 he hq).elim
  ·cases he
theorem zPs:WT P sg:=by
 intro c n nx sl hp a sl0 hp0 o gs e nv x h he hq hb;unfold Mg at hb;cases AY:o.op with
 |binOp op t y z ty=>
  rw[AY]at hb;simp only at hb;have he:=zEK he hq;simp only[B2,AY,AB]at he;obtain⟨s1,BN,s2,Ba,he⟩:=he;have key:∀xq,BH hp0 gs Bb s1=some xq->xq.den c.ρ= .sl []:=by
   intro xq K7;obtain⟨f,q1,_⟩:=h.mc BN (by simp[AY,Op.operands]) K7;generalize a.eval y=v at q1 hb;split at hb
   ·generalize xq.den c.ρ=d at q1;cases q1 with
    |gl _=>rfl
   ·cases hb
  unfold US at he;split at he
  ·split at he
   ·simp at he;subst he;cases hq
   ·simp at he;subst he;cases hq
   ·obtain⟨xq,K7,rfl⟩:=Ay.1 he;cases hq;exact key _ K7
   ·obtain⟨xq,K7,rfl⟩:=Ay.1 he;cases hq;exact key _ K7
   ·cases he
  ·split at he
   ·simp at he;subst he;cases hq
   ·cases he
  ·split at he
   ·simp at he;subst he;cases hq
   ·cases he
  ·split at he
   ·simp at he;subst he;cases hq
   ·cases he
  ·split at he
   ·cases he
   ·split at he
    ·split at he
     ·simp at he;subst he;cases hq
     ·simp at he;subst he;cases hq
     ·cases he
    ·cases he
  ·cases he
 |_=>rw[AY]at hb;simp at hb
end
def IL(ms:List PM)(vs:List Value)(t:Nat):Option Value:=
 if Ov t then(match vs[t/1000]?,(ms[t/1000]?).getD .ro with
  |some v, .bx .. =>if t % 1000=0 then some v else none
  |some v, .mu _=>if 500<=t % 1000 then v.cells[t % 1000-500]? else none
  |_,_=>none)
 else none
section
variable {P:Program} {c:Cx} {w:World}
theorem CA.j0{ts:List TypeId}{fl:List Bool}{us:List Value}{ys:List AV}{rf hs:List Nat}(h:CA P w ts fl us ys rf hs){nx:Nat}{mk:Nat->E}{j:Nat}:∀(k:Nat) (u:Value),us[k]?=some u->(∃e,(nx+j+k,e)∈(Ds P nx mk j ts fl).2)->u.cells= #[u]:=by
 induction h generalizing j with
 |nil=>intro k u hu _;simp at hu
 | @deep t ts fl el e9 z9 l9 u us y ys top rf hs h1 h2 U5 Ro h3 _ ih=>
  intro k u' hu he;cases k with
  |zero=>simp at hu;subst hu;obtain⟨p,q,r,rfl⟩:=h3.head;rfl
  |succ k=>
   refine ih (j:=j+1) k u' (by simpa using hu) ?_;obtain⟨e,he⟩:=he;simp only[Ds,h1,h2,Ag,A0]at he;rcases he with⟨he,_⟩|he
   ·omega
   ·exact⟨e,by rw[show nx+(j+1)+k=nx+j+(k+1)from by omega];exact he⟩
 | @own t ts fl el u us y ys top N rf hs h1 h2 KG h3 _ ih=>
  intro k u' hu he;cases k with
  |zero=>simp at hu;subst hu;obtain⟨xs,_,_,_,⟨_,⟨a,rfl⟩,_⟩|⟨g,cap,C,rfl,_⟩⟩:=h3<;>rfl
  |succ k=>
   refine ih (j:=j+1) k u' (by simpa using hu) ?_;obtain⟨e,he⟩:=he;simp only[Ds,h1,h2,Ag,A0]at he;rcases he with⟨he,_⟩|he
   ·omega
   ·exact⟨e,by rw[show nx+(j+1)+k=nx+j+(k+1)from by omega];exact he⟩
 | @rd t ts fl u us y ys f rf hs h1 h3 _ ih=>
  intro k u' hu he;obtain⟨e,he⟩:=he;have VD:(Ds P nx mk j (t::ts) fl).2=(Ds P nx mk (j+1) ts fl.tail).2:=by
   simp only[Ds];split
   ·rename_i h8 h9;rw[h1 h8]at h9;cases h9
   ·rfl
  rw[VD]at he;cases k with
  |zero=>
   exfalso;have key:∀(ts:List TypeId) (fl:List Bool) (j' t':Nat) (e':Aj),(t',e')∈(Ds P nx mk j' ts fl).2->nx+j'<=t':=by
    intro ts
    induction ts with
    |nil=>intro fl j' t' e' h;simp[Ds]at h
    |cons a ts ih2=>
     intro fl j' t' e' h;simp only[Ds]at h;split at h
     ·simp only[Ag,A0]at h;rcases h with⟨h,_⟩|h
      ·omega
      ·have:=ih2 _ _ _ _ h;omega
     ·have:=ih2 _ _ _ _ h;omega
   have:=key _ _ _ _ _ he;omega
  |succ k=>exact ih (j:=j+1) k u' (by simpa using hu) ⟨e,by rw[show nx+(j+1)+k=nx+j+(k+1)from by omega];exact he⟩
theorem zxd{i b:Nat}(hb:b+400<=1000){t:TypeId}{own:List Bool}{s:SV}{l:List (Nat × Aj)}{v:Value}{x:AV}{rf hs:List Nat}(h:UP P i b t own=some (s,l))(hv:MY P w t own v x rf hs)(hx:(E.var i).den c.ρ=x):
  ∃recs:List AZ,l=recs.map AZ.pair/\recs.flatMap AZ.top=hs/\(∀r∈recs,1000*i+b<=r.tag/\r.tag<1000*i+1000/\r.new.isSome)/\(recs.map AZ.tag).Nodup/\(∀r∈recs,r.new=v.cells[r.tag-(1000*i+b)]?)/\
   ∀c',FC c c' w recs->(∀b∈rf,c'.ok b)->SR c' [s] [v]/\ ∀r∈recs,DL c' r.tag r.cy:=by
 obtain⟨us,ys,hg,hc⟩:=hv;unfold UP at h;simp only at h;split at h
 ·cases h
 rename_i hle;split at hg
 ·rename_i AP;obtain⟨rfl,rfl,Da⟩:=hg;obtain⟨recs,e1,e2,e3,e4,e4',e5⟩:=TL (c:=c) (nx:=1000*i+b) (mk:=Eh (.var i) (Ar P t)) hc 0 (by rw[AP];exact YD hx);rw[if_pos AP]at h;simp only[Af,A0]at h;obtain⟨rfl,rfl⟩:=h;refine⟨recs,e1,e2,λr hr=>by have:=e3 r hr;exact⟨by omega,by omega,this.2.2⟩,e4,λr hr=>by rw[e4' r hr];simp[Value.cells],λc' ha A4=> ?_⟩;obtain⟨q1,q2⟩:=e5 c' ha A4;exact⟨.agg Da (by rw[BS.ax];exact q1) .nil,q2⟩
 ·rename_i AP;obtain⟨rfl,rfl⟩:=hg;have H6:Ar P t=false:=by simpa using AP
  obtain⟨recs,e1,e2,e3,e4,e4',e5⟩:=TL (c:=c) (nx:=1000*i+b) (mk:=Eh (.var i) (Ar P t)) hc 0 (by
   intro k z hz;cases k with
   |zero=>simp at hz;subst hz;rw[H6];simpa[Eh]using hx
   |succ k=>simp at hz)
  rw[if_neg AP]at h;split at h
  ·rename_i s' A9;simp only[Af,A0]at h;obtain⟨rfl,rfl⟩:=h;refine⟨recs,e1,e2,λr hr=>by have:=e3 r hr;exact⟨by omega,by omega,this.2.2⟩,e4,λr hr=> ?_,λc' ha A4=> ?_⟩
   ·have Et:=e4' r hr;have h3:=e3 r hr;rw[Et,Nat.add_zero];have hlen:=hc.len;have oD:r.tag-(1000*i+b)=0:=by
     have:=hlen.1;simp at this;omega
    rw[oD];have:=hc.j0 (nx:=1000*i+b) (mk:=Eh (.var i) (Ar P t)) (j:=0) 0 v rfl ⟨r.cy,by rw[e1];exact List.mem_map.2 ⟨r,hr,by simp[AZ.pair];omega⟩⟩;rw[this];rfl
   ·obtain⟨q1,q2⟩:=e5 c' ha A4;rw[A9]at q1;exact⟨q1,q2⟩
  ·cases h
theorem zzW{ms0:List PM}{vs0:List Value}:∀(ts:List TypeId) (i:Nat) {ms:List PM} {lo:List Bool} {ss:List SV} {l:List (Nat × Aj)} {vs:List Value} {xs:List AV} {rf lf hs:List Nat},O5 P i ts ms lo=some (ss,l)->Eg P w ts ms lo vs xs rf lf hs->(∀k x,xs[k]?=some x->(E.var (i+k)).den c.ρ=x)->(∀k,ms[k]?=ms0[i+k]?)->(∀k,vs[k]?=vs0[i+k]?)->
  ∃recs:List AZ,l=recs.map AZ.pair/\recs.flatMap AZ.top=hs/\(∀r∈recs,1000*i<=r.tag/\r.tag<1000*(i+ts.length)/\r.new.isSome)/\(recs.map AZ.tag).Nodup/\(∀r∈recs,∀v,IL ms0 vs0 r.tag=some v->r.new=some v)/\ss.length=ts.length/\ts.length<=vs.length/\
   ∀c',FC c c' w recs->(∀b∈rf,c'.ok b)->(∀(k:Nat) (v:Value) (x:AV),(ms[k]?).getD .ro= .ro->vs[k]?=some v->xs[k]?=some x->c'.A.lo v x)->SR c' (ss++(List.range (vs.length-ts.length)).map λj=>SV.e (.var (i+ts.length+j))) vs/\ ∀r∈recs,DL c' r.tag r.cy
 | [],i,ms,lo,ss,l,vs,xs,rf,lf,hs,h,ha,hx,_,_=>by
  simp[O5]at h;obtain⟨rfl,rfl⟩:=h;have key:∀{ms:List PM} {lo:List Bool} {vs:List Value} {xs:List AV} {rf lf hs:List Nat},Eg P w [] ms lo vs xs rf lf hs->hs=[]/\Rd w vs xs rf:=by
   intro ms lo vs
   induction vs generalizing ms lo with
   |nil=>intro xs rf lf hs h;cases h;exact⟨rfl, .nil⟩
   |cons v vs ih=>
    intro xs rf lf hs h;cases h with
    |free h1 h2=>obtain⟨rfl,h3⟩:=ih h2;exact⟨rfl,h1.app h3⟩
  obtain⟨rfl,D1⟩:=key ha;refine⟨[],rfl,rfl,by simp,by simp,by simp,rfl,by simp,λc' F9 A4 _=>⟨?_,by simp⟩⟩;have frees:∀(vs:List Value) {xs:List AV} {rf:List Nat} (j:Nat),Rd w vs xs rf->(∀k x,xs[k]?=some x->(E.var (i+j+k)).den c.ρ=x)->(∀b∈rf,c'.ok b)->SR c' ((List.range vs.length).map λq=>SV.e (.var (i+j+q))) vs:=by
   intro vs
   induction vs with
   |nil=>intro xs rf j h _ _;simpa using SR.nil
   |cons v vs ih=>
    intro xs rf j h hx A4;cases xs with
    |nil=>have:=h.len;simp at this
    |cons x xs=>
     obtain⟨f1,f2,rfl,h1,h2⟩:=h.dh;have h3:=ih (j+1) h2 (λk y hy=>by rw[show i+(j+1)+k=i+j+(k+1)from by omega];exact hx (k+1) y (by simpa using hy)) λb hb=>A4 b (by simp[hb]);rw[AE,List.range_succ_eq_map,List.map_cons,List.map_map];refine SR.cons (.e (f:=f1) (by rw[F9.w,F9.ρ];have:=hx 0 x rfl;simp only[Nat.add_zero]at this ⊢;rw[this];exact h1) (λb hb=>A4 b (by simp[hb])) .nil) ?_;have e:((λq=>SV.e (.var (i+j+q)))∘Nat.succ)=λq=>SV.e (.var (i+(j+1)+q)):=by funext q;simp only[Function.comp_apply];rw[show i+j+q.succ=i+(j+1)+q from by omega]
     rw[e];exact h3
  simpa using frees vs 0 D1 (by simpa using hx) A4
 |t::ts,i,ms,lo,ss,l,vs,xs,rf,lf,hs,h,ha,hx,E9,LM=>by
  unfold O5 at h;split at h
  ·rename_i s l1 ss' l2 h1 h2;simp only[Af,A0]at h;obtain⟨rfl,rfl⟩:=h;obtain⟨v,vs,x,xs,f,hh,rf,lf,hs,rfl,rfl,rfl,rfl,DS,Bi⟩:∃v vs' x xs' f hh rf' lf' A9,vs=v::vs'/\xs=x::xs'/\rf=f++rf'/\hs=hh++A9/\Eg P w ts ms.tail lo.tail vs' xs' rf' lf' A9/\(uU P w t (ms.headD .ro) v x f hh\/(lo.headD false=true/\ms.headD .ro= .ro/\f=[]/\hh=[])):=by
    cases ha with
    |cons h1 h2=>exact⟨_,_,_,_,_,_,_,_,_,rfl,rfl,rfl,rfl,h2, .inl h1⟩
    |lent h1 h2 h3 h4=>exact⟨_,_,_,_,[],[],_,_,_,rfl,rfl,by simp,by simp,h4, .inr ⟨h1,h2,rfl,rfl⟩⟩
   have CG:ms.headD .ro=(ms0[i]?).getD .ro:=by have:=E9 0;rw[Nat.add_zero]at this;rw[<-this];cases ms<;>rfl
   have P8:vs0[i]?=some v:=by have:=LM 0;simpa using this.symm
   have EU:(E.var i).den c.ρ=x:=by simpa using hx 0 x rfl
   obtain⟨r2,b1,b2,b3,b4,b4',b6,b7,b5⟩:=zzW ts (i+1) h2 DS (λk y hy=>by rw[show i+1+k=i+(k+1)from by omega];exact hx (k+1) y (by simpa using hy)) (λk=>by rw[show i+1+k=i+(k+1)from by omega,<-E9 (k+1)];cases ms<;>simp) (λk=>by rw[show i+1+k=i+(k+1)from by omega,<-LM (k+1)];simp);have fin:∀(r1:List AZ),l1=r1.map AZ.pair->r1.flatMap AZ.top=hh->(∀r∈r1,1000*i<=r.tag/\r.tag<1000*i+1000/\r.new.isSome)->(r1.map AZ.tag).Nodup->(∀r∈r1,∀v,IL ms0 vs0 r.tag=some v->r.new=some v)->
     (∀c',FC c c' w r1->(∀b∈f,c'.ok b)->(ms.headD .ro= .ro->c'.A.lo v x)->SR c' [s] [v]/\ ∀r∈r1,DL c' r.tag r.cy)->
     ∃recs:List AZ,l1++l2=recs.map AZ.pair/\recs.flatMap AZ.top=hh++hs/\(∀r∈recs,1000*i<=r.tag/\r.tag<1000*(i+(t::ts).length)/\r.new.isSome)/\(recs.map AZ.tag).Nodup/\(∀r∈recs,∀v,IL ms0 vs0 r.tag=some v->r.new=some v)/\(s::ss').length=(t::ts).length/\(t::ts).length<=(v::vs).length/\
      ∀c',FC c c' w recs->(∀b∈f++rf,c'.ok b)->(∀(k:Nat) (v':Value) (x':AV),(ms[k]?).getD .ro= .ro->(v::vs)[k]?=some v'->(x::xs)[k]?=some x'->c'.A.lo v' x')->SR c' ((s::ss')++(List.range ((v::vs).length-(t::ts).length)).map λj=>SV.e (.var (i+(t::ts).length+j))) (v::vs)/\ ∀r∈recs,DL c' r.tag r.cy:=by
    intro r1 a1 a2 a3 a4 a4' a5;refine⟨r1++r2,by simp[a1,b1],by simp[a2,b2],λr hr=> ?_,?_,λr hr=> ?_,by simp[b6],by simp[b7],λc' F9 A4 Ca=> ?_⟩
    ·simp only[AE];rcases Ae.1 hr with hr|hr
     ·have:=a3 r hr;exact⟨this.1,by omega,this.2.2⟩
     ·have:=b3 r hr;exact⟨by omega,by omega,this.2.2⟩
    ·rw[List.map_append,List.nodup_append];refine⟨a4,b4,λt1 Od t2 LL he=> ?_⟩;obtain⟨q1,Hr,rfl⟩:=List.mem_map.1 Od;obtain⟨q2,FT,rfl⟩:=List.mem_map.1 LL;have:=a3 q1 Hr;have:=b3 q2 FT;omega
    ·rcases Ae.1 hr with hr|hr
     ·exact a4' r hr
     ·exact b4' r hr
    ·obtain⟨p1,p2⟩:=a5 c' (F9.mono λr hr=>by simp[hr]) (λb hb=>A4 b (by simp[hb])) λhl=>Ca 0 v x (by cases ms<;>exact hl) rfl rfl;obtain⟨q1,q2⟩:=b5 c' (F9.mono λr hr=>by simp[hr]) (λb hb=>A4 b (by simp[hb])) λk v' x' k1 k2 k3=>Ca (k+1) v' x' (by cases ms with|nil=>rfl|cons b l=>simpa using k1) (by simpa using k2) (by simpa using k3);refine⟨?_,λr hr=> ?_⟩
     ·have:=p1.cons q1;have e:(λj=>SV.e (.var (i+1+ts.length+j)))=λj=>SV.e (.var (i+(t::ts).length+j)):=by
       funext j;simp only[AE];rw[show i+1+ts.length+j=i+(ts.length+1)+j from by omega]
      rw[e]at this;simpa using this
     ·rcases Ae.1 hr with hr|hr
      ·exact p2 r hr
      ·exact q2 r hr
   have pinMu:∀{own:List Bool} {r:AZ},ms.headD .ro= .mu own->1000*i+500<=r.tag->r.tag<1000*i+1000->r.new=v.cells[r.tag-(1000*i+500)]?-> ∀v',IL ms0 vs0 r.tag=some v'->r.new=some v':=by
    intro own r hm t1 t2 hn v' hp;unfold IL at hp;split at hp
    ·rw[show r.tag/1000=i from by omega,P8,<-CG,hm]at hp;simp only at hp;split at hp
     ·rw[hn,show r.tag-(1000*i+500)=r.tag % 1000-500 from by omega];exact hp
     ·cases hp
    ·cases hp
   have pinVa:∀{own:List Bool} {r:AZ},ms.headD .ro= .va own->1000*i<=r.tag->r.tag<1000*i+1000-> ∀v',IL ms0 vs0 r.tag=some v'->r.new=some v':=by
    intro own r hm t1 t2 v' hp;unfold IL at hp;split at hp
    ·rw[show r.tag/1000=i from by omega,P8,<-CG,hm]at hp;simp at hp
    ·cases hp
   cases hm:ms.headD .ro with
   |ro=>
    rw[hm]at h1 Bi;simp only[aE,Af,A0]at h1;obtain⟨rfl,rfl⟩:=h1;have hhh:hh=[]:=by rcases Bi with⟨_,h⟩|⟨_,_,_,h⟩<;>exact h
    subst hhh;by_cases Ca:lo.headD false=true
    ·exact fin [] rfl rfl (by simp) (by simp) (by simp) λc' F9 A4 hl=>⟨by rw[if_pos Ca];exact .lent (by rw[F9.ρ,EU];exact hl hm) .nil,by simp⟩
    ·rcases Bi with⟨g1,_⟩|⟨h,_⟩
     ·exact fin [] rfl rfl (by simp) (by simp) (by simp) λc' F9 A4 _=>⟨by rw[if_neg Ca];exact .e (f:=f) (by rw[F9.w,F9.ρ,EU];exact g1) A4 .nil,by simp⟩
     ·exact absurd h Ca
   |va own=>
    rw[hm]at h1 Bi
    replace Bi:=Bi.resolve_right λh=>by cases h.2.1
    obtain⟨r1,a1,a2,a3,a4,a4',a5⟩:=zxd (c:=c) (by omega) h1 Bi EU;exact fin r1 a1 a2 (λr hr=>by have:=a3 r hr;exact⟨by omega,this.2⟩) a4 (λr hr=>by have:=a3 r hr;exact pinVa hm (by omega) this.2.1) λc' F9 A4 _=>a5 c' F9 A4
   |mu own=>
    rw[hm]at h1 Bi
    replace Bi:=Bi.resolve_right λh=>by cases h.2.1
    obtain⟨r1,a1,a2,a3,a4,a4',a5⟩:=zxd (c:=c) (by omega) h1 Bi EU;exact fin r1 a1 a2 (λr hr=>by have:=a3 r hr;exact⟨by omega,this.2⟩) a4 (λr hr=>by have:=a3 r hr;exact pinMu hm this.1 this.2.1 (a4' r hr)) λc' F9 A4 _=>a5 c' F9 A4
   |bx own own'=>
    rw[hm]at h1 Bi
    replace Bi:=Bi.resolve_right λh=>by cases h.2.1
    obtain⟨ty,b,C,ys,h9,g1,rfl,g3,g4,rfl,g6,rfl⟩:=Bi;simp only[aE,g1]at h1;split at h1
    ·cases h1
    rename_i hle;simp only[Af,A0]at h1;obtain⟨rfl,rfl⟩:=h1;obtain⟨recs,e1,e2,e3,e4,e4',e5⟩:=TL (c:=c) (nx:=1000*i+1) (mk:=Eh (.deref (.var i)) true) g6 0 (YD (by simp only[E.den]at EU ⊢;rw[EU];rfl));refine fin (⟨1000*i,some (.pointer (some ⟨b,0,none⟩)),[b], .box ty (Ar P ty) (Ds P (1000*i+1) (Eh (.deref (.var i)) true) 0 (Bc P ty) own).1⟩::recs) (by simp[e1,AZ.pair]) (by simp[e2]) (λr hr=> ?_) ?_ (λr hr v' hp=> ?_) λc' F9 A4 _=> ?_
    ·rcases Ag.1 hr with rfl|hr
     ·simp
     ·have:=e3 r hr;exact⟨by omega,by omega,this.2.2⟩
    ·simp only[List.map_cons,List.nodup_cons];refine⟨λhm=> ?_,e4⟩;obtain⟨r,hr,K4⟩:=List.mem_map.1 hm;have:=e3 r hr;omega
    ·rcases Ag.1 hr with rfl|hr
     ·unfold IL at hp;simp only at hp;split at hp
      ·rw[show 1000*i/1000=i from by omega,P8,<-CG,hm]at hp;simp at hp;simpa using hp
      ·cases hp
     ·have h3:=e3 r hr;unfold IL at hp;split at hp
      ·rw[show r.tag/1000=i from by omega,P8,<-CG,hm]at hp;simp only at hp;split at hp
       ·omega
       ·cases hp
      ·cases hp
    ·obtain⟨q1,q2⟩:=e5 c' (F9.mono λr hr=>by simp[hr]) A4;obtain⟨k1,k2,k3⟩:=F9.new _ (List.mem_cons_self ..) _ rfl;have kg:=F9.G _ (List.mem_cons_self ..);simp only at k1 k3 kg;refine⟨.dq k1 k3 .nil,λr hr=> ?_⟩;rcases Ag.1 hr with rfl|hr
     ·exact⟨b,C,k1,k3,by rw[kg],by rw[kg],by rw[F9.w];exact g3,g4,q1⟩
     ·exact q2 r hr
  ·cases h
end
section
variable {P:Program} {c:Cx} {n:Nat} {a:Act} {τ:St}
theorem zRm(h:Rel c n (BV τ) (AR τ.hp) a):EH c (AR τ.hp):=λt e hr=>h.ents t e hr
theorem zFt{hp:Nat->Option Aj}{t:Nat}{e:Aj}(h:hp t=some e)(hn:∀hs f,e≠ .gd hs f):look hp [] t=some e:=by
 simp only[look,h,Aa,Mj]
 all_goals (cases e<;>first|rfl|exact absurd rfl (hn _ _))
theorem zxs(h:Rel c n (BV τ) (AR τ.hp) a){u g:Nat}{e z:Nat}{x:E}{d:Bool}(hu:AR τ.hp u=some (.row e z g x d)):c.K u g/\ ∃N,Df c.w e z (c.H u g) (x.den c.ρ) (c.G u).top N/\(∀b∈N,c.ok b)/\(d=true->N=[]):=by obtain⟨p1,p2,N,p3,p4,p5,_⟩:=h.ents u _ (by rw[hu];rfl);exact⟨p1,N,p3,p4,λhd=>(p5 hd).1⟩
theorem zFU{t e:TypeId}{d:Bool}{N:List Nat}(hd:d=true->N=[])(h:Ch P e=true/\d=true\/Ch P e=false/\(DN P t).isNone=true):Ch P e=true/\N=[]\/Ch P e=false/\DN P t=none:=by
 rcases h with⟨h1,h2⟩|⟨h1,h2⟩
 ·exact .inl ⟨h1,hd h2⟩
 ·exact .inr ⟨h1,by simpa using h2⟩
theorem kH(h:Rel c n (BV τ) (AR τ.hp) a):∀(ts:List TypeId) {fl:List Bool} {cs:List SV} {l:List Nat} {us:List Value} {xs:EL} {m:Nat},NF P τ ts fl cs=some l->SR c cs us->CZ (AR τ.hp) [] m cs=some xs->m<=Bb->
  ∃f,CA P c.w ts fl us (xs.den c.ρ) f (l.flatMap λt=>(c.G t).top)/\ ∀b∈f,c.gq (Lw P τ ts fl cs) b
 | [],fl,[],l,us,xs,m,ho,hs,hx,hm=>by
  simp[NF]at ho;subst ho;cases hs;cases m with
  |zero=>simp[CZ]at hx
  |succ m=>simp[CZ]at hx;subst hx;exact⟨[], .nil,by simp⟩
 | [],fl,s::cs,l,us,xs,m,ho,hs,hx,hm=>by simp[NF]at ho
 |t::ts,fl,[],l,us,xs,m,ho,hs,hx,hm=>by simp[NF]at ho
 |t::ts,fl,s::cs,l,[],xs,m,ho,hs,hx,hm=>by have:=hs.len;simp at this
 |t::ts,fl,s::cs,l,v::us,xs,m,ho,hs,hx,hm=>by
  obtain⟨j,y,ys,rfl,hy,DJ,rfl⟩:=L2 hx;obtain⟨r1,r2⟩:=hs.dh;unfold NF at ho;split at ho
  ·cases ho
  rename_i l' DI;obtain⟨f,q1,q2⟩:=kH h ts DI r2 DJ (by omega);split at ho
  ·rename_i e hf BJ;have GN:Lw P τ (t::ts) fl (s::cs)=Lw P τ ts fl.tail cs:=by
    simp only[Lw,hf,BJ,Option.isSome_some,Bool.and_self,if_true,List.nil_append]
   split at ho
   ·cases ho
   rename_i hz;split at ho
   ·simp only[Af]at ho;subst ho;cases r1 with
    |dg _=>refine⟨f,?_,by rw[GN];exact q2⟩;rw[EL.den,Ng hy];exact CA.void hf BJ (by omega) q1
   ·rename_i u g;split at ho
    ·rename_i e' z g' x d hu;split at ho
     ·rename_i hh;obtain⟨rfl,rfl,rfl,Ia⟩:=hh;simp only[Af]at ho;subst ho;obtain⟨p1,N,p2,p3,p4⟩:=zxs h hu;have Ia:=zFU p4 Ia;have hl:=zFt hu (by simp);have Ir:y=x:=by
       cases j with
       |zero=>simp[BH]at hy
       |succ j=>simp[BH,JU,hl]at hy;exact hy.symm
      subst Ir;have hv:c.H u g=v:=by
       cases r1 with
       |own _ k2 _=>exact k2
      rw[hv]at p2;refine⟨N++f,CA.own hf BJ Ia p2 q1,λb hb=> ?_⟩;rw[GN];rcases Ae.1 hb with hb|hb
      ·exact .inl (p3 b hb)
      ·exact q2 b hb
     ·cases ho
    ·rename_i e' z dl g' ep x hu;split at ho
     ·rename_i hh;obtain⟨rfl,GV,D7⟩:=hh;have D7:=Uf D7;simp only[Af]at ho;subst ho;obtain⟨p1,_,_,p2,_⟩:=h.ents u _ (by rw[hu];rfl);have hl:=zFt hu (by simp);have Ir:y=x:=by
       cases j with
       |zero=>simp[BH]at hy
       |succ j=>simp[BH,JU,hl]at hy;exact hy.symm
      subst Ir;have hv:c.H u g=v:=by
       cases r1 with
       |own _ k2 _=>exact k2
      rw[hv]at p2;exact⟨f,CA.deep hf BJ GV D7 p2 q1,by rw[GN];exact q2⟩
     ·cases ho
    ·cases ho
   ·cases ho
  ·rename_i DQ;simp only[Af]at ho;subst ho;have hn:fl.headD false=true->CK P t=none:=λhf=>by
    cases BJ:CK P t with
    |none=>rfl
    |some e=>exact absurd BJ (DQ e hf)
   obtain⟨f1,p1,p2⟩:=Je (zRm h) (Fy _) j hy r1 Bb (by omega);refine⟨f1++f,CA.rd hn p1 q1,λb hb=> ?_⟩;have GN:Lw P τ (t::ts) fl (s::cs)=Cg (AR τ.hp) [] (Bb+1) [s]++Lw P τ ts fl.tail cs:=by
    have:(fl.headD false&&(CK P t).isSome)=false:=by
     cases hf:fl.headD false with
     |false=>rfl
     |true=>rw[hn hf];rfl
    simp only[Lw,this,A6,if_false]
   rw[GN];rcases Ae.1 hb with hb|hb
   ·exact(p2 b hb).mono λt ht=>by simp[ht]
   ·exact(q2 b hb).mono λt ht=>by simp[ht]
theorem zE9(h:Rel c n (BV τ) (AR τ.hp) a){t:TypeId}{fl:List Bool}{s:SV}{l:List Nat}{v:Value}{x:E}{m:Nat}(ho:tG P τ t fl s=some l)(hs:SR c [s] [v])(hx:BH (AR τ.hp) [] m s=some x)(hm:m<Bb):
  ∃f,DM P c.w t fl v (x.den c.ρ) f (l.flatMap λt=>(c.G t).top)/\ ∀b∈f,c.gq (uK P τ t fl s) b:=by
 unfold tG at ho;unfold DM uK;split at ho
 ·rename_i hf;simp only[hf,if_true];split at ho
  ·rename_i AP;split at ho
   ·rename_i cs;obtain⟨k,lx,rfl,hl,rfl⟩:=YU hx;cases hs with
    |agg h9 h1 h8=>rename_i as_;obtain⟨f,q1,q2⟩:=kH (P:=P) h (Bc P t) ho h1 hl (by omega);exact⟨f,⟨as_,lx.den c.ρ,by rw[if_pos AP];exact⟨rfl,rfl,h9⟩,q1⟩,by rw[if_pos AP];exact q2⟩
   ·cases ho
  ·rename_i AP;have KW:CZ (AR τ.hp) [] (m+1) [s]=some (.cons x .nil):=by
    cases m with
    |zero=>simp[BH]at hx
    |succ m=>simp only[CZ,hx]
   obtain⟨f,q1,q2⟩:=kH (P:=P) h (Bc P t) ho hs KW (by omega);exact⟨f,⟨[v],[x.den c.ρ],by rw[if_neg AP];exact⟨rfl,rfl⟩,q1⟩,by rw[if_neg AP];exact q2⟩
 ·rename_i hf;simp only[hf,if_false,A6];simp only[Af]at ho;subst ho;obtain⟨f,p1,p2⟩:=Je (zRm h) (Fy _) m hx hs Bb (by omega);exact⟨f,⟨p1,rfl⟩,p2⟩
theorem zvg(h:Rel c n (BV τ) (AR τ.hp) a):∀(ts:List TypeId) {fl:List Bool} {ss:List SV} {l:List Nat} {vs:List Value} {xs:EL} {m:Nat},Q6 P τ ts fl ss=some l->SR c ss vs->CZ (AR τ.hp) [] m ss=some xs->m<=Bb->
  ∃f,Lv P c.w ts fl vs (xs.den c.ρ) f (l.flatMap λt=>(c.G t).top)/\ ∀b∈f,c.gq (Wt P τ ts fl ss) b
 | [],fl,[],l,vs,xs,m,ho,hs,hx,hm=>by
  simp[Q6]at ho;subst ho;cases hs;cases m with
  |zero=>simp[CZ]at hx
  |succ m=>simp[CZ]at hx;subst hx;exact⟨[], .nil,by simp⟩
 | [],fl,s::cs,l,us,xs,m,ho,hs,hx,hm=>by simp[Q6]at ho
 |t::ts,fl,[],l,us,xs,m,ho,hs,hx,hm=>by simp[Q6]at ho
 |t::ts,fl,s::cs,l,[],xs,m,ho,hs,hx,hm=>by have:=hs.len;simp at this
 |t::ts,fl,s::cs,l,v::us,xs,m,ho,hs,hx,hm=>by
  obtain⟨j,y,ys,rfl,hy,DJ,rfl⟩:=L2 hx;obtain⟨r1,r2⟩:=hs.dh;unfold Q6 at ho;split at ho
  ·rename_i a1 b1 h1 h2;simp only[Af]at ho;subst ho;obtain⟨f1,p1,p2⟩:=zE9 (P:=P) h h1 r1 hy (by omega);obtain⟨f2,q1,q2⟩:=zvg h ts h2 r2 DJ (by omega);refine⟨f1++f2,by rw[List.flatMap_append];exact .cons p1 q1,λb hb=> ?_⟩;simp only[Wt];rcases Ae.1 hb with hb|hb
   ·exact(p2 b hb).mono λt ht=>by simp[ht]
   ·exact(q2 b hb).mono λt ht=>by simp[ht]
  ·cases ho
end
section
variable {P:Program} {c:Cx} {n:Nat} {a:Act} {τ:St}
theorem zLr(h:Rel c n (BV τ) (AR τ.hp) a){t:TypeId}{b o:Nat}{ty:TypeId}{g:Bool}{cs:List SV}{s:SV}{v:Value}(BC:D0 P t=true)(hl:AR τ.hp b=some (.box ty g cs))(Ba:Qm P t cs o=some s)(hr:SR c [.dq b o] [v]):
  ∃q u,v= .pointer (some ⟨q,o,none⟩)/\(loadVar t ⟨q,o,none⟩).run P c.w= .ok u c.w/\SR c [s] [u]:=by
 cases hr with
 |dq h1 h2 h8=>
  rename_i q;obtain⟨q',C,_,e2,e3,e4,e5,e5',e6⟩:=h.ents b _ (by rw[hl];rfl);rw[h2]at e2;cases e2;have key:∀vs:List Value,(Ar P t=true->vs.length=P.cellsOf t)->(Ar P t=false->vs.length=1)->(∀j u,vs[j]?=some u->c.w.cell? ⟨q,o+j,none⟩=some u)->(loadVar t ⟨q,o,none⟩).run P c.w= .ok (if Ar P t then .agg vs.toArray else vs.headD undef) c.w:=λvs k1 k2 k3=>by have:=T9 (P:=P) (w:=c.w) (b:=q) (off:=o) BC vs k1 k2 k3;simpa[Instr.loadAt,Instr.sureAddr]using this
  unfold Qm at Ba;have hlen:=e6.len;split at Ba
  ·rename_i AP;split at Ba
   ·rename_i hle;simp at Ba;subst Ba;obtain⟨r1,r2⟩:=e6.split o;obtain⟨r3,r4⟩:=r2.split (P.cellsOf t);have:=SR.agg (cs:=BS.of ((cs.drop o).take (P.cellsOf t))) (λu hu=>e5' u (BR (BD hu))) (by rw[BS.ax];exact r3) .nil;refine⟨q, .agg ((C.toList.drop o).take (P.cellsOf t)).toArray,rfl,?_,this⟩;rw[key ((C.toList.drop o).take (P.cellsOf t)) (λ_=>by simp at hlen ⊢;omega) (λh=>by rw[AP]at h;cases h) (λj u hu=>by
     rw[EO e5];rw[List.getElem?_take]at hu;split at hu
     ·simpa using hu
     ·cases hu)]
    simp[AP]
   ·cases Ba
  ·rename_i AP;have AP:Ar P t=false:=by simpa using AP
   obtain⟨u,hu,r⟩:=e6.get Ba;refine⟨q,u,rfl,?_,r⟩;rw[key [u] (λh=>by rw[AP]at h;cases h) (λ_=>rfl) (λj z hz=>by
    cases j with
    |zero=>simp at hz;subst hz;rw[EO e5];simpa using hu
    |succ j=>simp at hz)]
   simp[AP]
theorem zrL{α:Type}{g:α->Sem Value}{w:World}:∀(l:List α) (us:List Value),l.length=us.length->(∀(i:Nat) (x:α) (u:Value),l[i]?=some x->us[i]?=some u->(g x).run P w= .ok u w)->(l.mapM g).run P w= .ok us w
 | [],[],_,_=>by simp
 | [],_::_,h,_=>by simp at h
 |_::_,[],h,_=>by simp at h
 |x::l,u::us,h,hg=>by have h0:=hg 0 x u rfl rfl;have ih:=zrL l us (by simpa using h) λi y z hy hz=>hg (i+1) y z (by simpa using hy) (by simpa using hz);simp[List.mapM_cons,h0,ih]
theorem zDs(h:Rel c n (BV τ) (AR τ.hp) a)(fn:Func){rs:List SV}(FX:fn.results.toList.mapM (Uy P τ)=some rs):
  ∃us,SR c rs us/\rs.length=us.length/\(results fn a.tmps).run P c.w= .ok (match us with| [u]=>u|us=> .tuple us.toArray) c.w:=by
 have one:∀(r:ResultVar) (s:SV),Uy P τ r=some s-> ∃u,SR c [s] [u]/\(match r with| .tmp t=>(pure (a.tmps.getD t undef):Sem Value)| .cell b t=>do loadVar t (<-asAddr (a.tmps.getD b undef))).run P c.w= .ok u c.w:=by
  intro r s hr;cases r with
  |tmp t=>simp only[Uy,Af]at hr;subst hr;exact⟨_,h.ee t,by simp⟩
  |cell b ty=>
   simp only[Uy]at hr;split at hr
   ·rename_i b' o Dh;split at hr
    ·rename_i ty' g cs hl;split at hr
     ·rename_i BC;have hs:=h.ee b;rw[Dh]at hs;obtain⟨q,u,hv,A7,MK⟩:=zLr h BC hl hr hs;exact⟨u,MK,by simp only[hv];simp[asAddr,A7]⟩
     ·cases hr
    ·cases hr
   ·cases hr
 have list:∀(l:List ResultVar) (rs:List SV),l.mapM (Uy P τ)=some rs-> ∃us,SR c rs us/\l.length=us.length/\ ∀(i:Nat) (x:ResultVar) (u:Value),l[i]?=some x->us[i]?=some u->(match x with| .tmp t=>(pure (a.tmps.getD t undef):Sem Value)| .cell b t=>do loadVar t (<-asAddr (a.tmps.getD b undef))).run P c.w= .ok u c.w:=by
  intro l
  induction l with
  |nil=>intro rs FX;simp at FX;subst FX;exact⟨[], .nil,rfl,by simp⟩
  |cons r l ih=>
   intro rs FX;rw[List.mapM_cons]at FX;simp only[Option.bind_eq_bind,AB,Option.pure_def,Af]at FX;obtain⟨s,hs,rs',pD,rfl⟩:=FX;obtain⟨u,h1,h2⟩:=one r s hs;obtain⟨us,h3,h4,h5⟩:=ih rs' pD;refine⟨u::us,h1.cons h3,by simp[h4],λi x v hx hv=> ?_⟩;cases i with
   |zero=>simp at hx hv;subst hx;subst hv;exact h2
   |succ i=>exact h5 i x v (by simpa using hx) (by simpa using hv)
 obtain⟨us,h1,h2,h3⟩:=list _ _ FX;refine⟨us,h1,h1.len,?_⟩;have hm:=zrL (P:=P) (w:=c.w) fn.results.toList us h2 h3;simp only[results,Array.mapM_eq_mapM_toList,map_eq_pure_bind,Sem.run_bind]
 erw [hm]
 simp only[Result.andThen_ok,Sem.run_pure]
 match us with
 | []=>simp
 | [u]=>simp
 |u::v::us=>simp
theorem zuW(h:Rel c n (BV τ) (AR τ.hp) a){w0:World}{v:Value}{ms:List PM}{vs:List Value}(Fc:∀t,c.A.pin t=IL ms vs t){i:Nat}(hi:i<=99){own0:List Bool}(hv:vs[i]?=some v)(hm:(ms[i]?).getD .ro= .mu own0){mk:Nat->E}:∀(ts:List TypeId) (j:Nat) {fl:List Bool} {us:List Value} {ys:List AV} {rf hs:List Nat} {es:List E} {l:List Nat},
  CA P w0 ts fl us ys rf hs->j+ts.length<=400->(∀k u,us[k]?=some u->(∃e,(0+j+k,e)∈(Ds P 0 (Eh (.var 0) true) j ts fl).2)->v.cells[j+k]?=some u)->WO P τ i mk j ts fl=some (es,l)-> ∃f o,FP P c.w ts fl us (es.map (E.den c.ρ)) f o/\(o=l.flatMap λt=>(c.G t).top)/\ ∀b∈f,c.ok b
 | [],j,fl,us,ys,rf,hs,es,l,hc,hle,Bv,he=>by simp[WO]at he;obtain⟨rfl,rfl⟩:=he;cases hc;exact⟨[],[], .nil,rfl,by simp⟩
 |t::ts,j,fl,us,ys,rf,hs,es,l,hc,hle,Bv,he=>by
  unfold WO at he;split at he
  ·cases he
  rename_i xs us' DI;simp only[AE]at hle;have sub:∀{u:Value} {us1:List Value},us=u::us1-> ∀k z,us1[k]?=some z->(∃e,(0+(j+1)+k,e)∈(Ds P 0 (Eh (.var 0) true) (j+1) ts fl.tail).2)->v.cells[j+1+k]?=some z:=by
   rintro u us1 rfl k z hz ⟨e,he⟩;have:=Bv (k+1) z (by simpa using hz) ⟨e,by
    simp only[Ds];split
    ·rw[show 0+j+(k+1)=0+(j+1)+k from by omega];exact List.mem_cons_of_mem _ he
    ·rw[show 0+j+(k+1)=0+(j+1)+k from by omega];exact he⟩
   rw[show j+1+k=j+(k+1)from by omega];exact this
  have fin:∀{u:Value} {us1:List Value} {ys1:List AV} {rf1 BN:List Nat} {el:TypeId},us=u::us1->fl.headD false=true->CK P t=some el->CA P w0 ts fl.tail us1 ys1 rf1 BN-> ∃f o,FP P c.w (t::ts) fl us (es.map (E.den c.ρ)) f o/\(o=l.flatMap λt=>(c.G t).top)/\ ∀b∈f,c.ok b:=by
   rintro u us1 ys1 rf1 BN el rfl h1 h2 h4;obtain⟨f0,o,q1,q2,q3⟩:=zuW h Fc hi hv hm ts (j+1) h4 (by omega) (sub rfl) DI;rw[h1,h2]at he;simp only at he;have Rv:v.cells[j]?=some u:=by have:=Bv 0 u rfl ⟨_,by simp only[Ds,h1,h2,Nat.zero_add,Nat.add_zero];exact List.mem_cons_self ..⟩;simpa using this
   have ZG:c.A.pin (1000*i+500+j)=some u:=by
    rw[Fc];unfold IL;have e1:(1000*i+500+j)/1000=i:=by omega
    have e2:(1000*i+500+j) % 1000=500+j:=by omega
    rw[if_pos (by unfold Ov;simp only[e2,Ac,AS,Bool.or_eq_true];omega),e1,e2,hv,hm];simp only;rw[if_pos (by omega),show 500+j-500=j from by omega];exact Rv
   split at he
   ·rename_i e' z y' d hu;split at he
    ·rename_i hh;obtain⟨rfl,rfl,Ia⟩:=hh;simp only[Af,A0]at he;obtain⟨rfl,rfl⟩:=he;obtain⟨p1,N,p2,p3,p4⟩:=zxs h hu;have hH:=(h.base.pins _ u ZG).2 p1;rw[hH]at p2;refine⟨_,_, .own h1 h2 (zFU p4 Ia) p2 q1,by simp[q2],λb hb=> ?_⟩;rcases Ae.1 hb with hb|hb
     ·exact p3 b hb
     ·exact q3 b hb
    ·cases he
   ·rename_i e' z dl ep y' hu;split at he
    ·rename_i hh;obtain⟨GV,D7⟩:=hh;have D7:=Uf D7;simp only[Af,A0]at he;obtain⟨rfl,rfl⟩:=he;obtain⟨p1,_,_,p2,_⟩:=h.ents _ _ (by rw[hu];rfl);have hH:=(h.base.pins _ u ZG).2 p1;rw[hH]at p2;refine⟨_,_, .deep h1 h2 GV D7 p2 q1,by simp[q2],q3⟩
    ·cases he
   ·cases he
  cases hc with
  |own h1 h2 _ _ h4=>exact fin rfl h1 h2 h4
  |deep h1 h2 _ _ _ h4=>exact fin rfl h1 h2 h4
  | @rd _ _ _ u us1 y ys1 f rf1 BN h1 h3 h4=>
   obtain⟨f0,o,q1,q2,q3⟩:=zuW h Fc hi hv hm ts (j+1) h4 (by omega) (sub rfl) DI;split at he
   ·rename_i e hf BJ;rw[h1 hf]at BJ;cases BJ
   ·simp only[Af,A0]at he;obtain⟨rfl,rfl⟩:=he;exact⟨f0,o, .skip h1 q1,q2,q3⟩
end
section
variable {P:Program} {c:Cx} {n:Nat} {a:Act} {τ:St}
theorem zvl(h:Rel c n (BV τ) (AR τ.hp) a){w0:World}{ms0:List PM}{vs0:List Value}(Fc:∀t,c.A.pin t=IL ms0 vs0 t):∀(ts:List TypeId) (i:Nat) {ms:List PM} {lo:List Bool} {vs:List Value} {xs:List AV} {rf lf hs:List Nat} {bx:List E} {us:List Nat},YY P τ i ts ms=some (bx,us)->Eg P w0 ts ms lo vs xs rf lf hs->
  (∀k,ms[k]?=ms0[i+k]?)->(∀k,vs[k]?=vs0[i+k]?)-> ∃f o,D4 P c.w ts ms vs (bx.map (E.den c.ρ)) f o/\o=us.flatMap (λt=>(c.G t).top)/\ ∀b∈f,c.gq (Qg P τ i ts ms) b
 | [],i,ms,lo,vs,xs,rf,lf,hs,bx,us,he,ha,_,_=>by simp[YY]at he;obtain⟨rfl,rfl⟩:=he;exact⟨[],[], .nil,rfl,by simp⟩
 |t::ts,i,ms,lo,vs,xs,rf,lf,hs,bx,us,he,ha,E9,LM=>by
  obtain⟨v,vs,x,xs,f,hh,rf,lf,hs,rfl,DS,Bi⟩:∃v vs' x xs' f hh rf' lf' A9,vs=v::vs'/\Eg P w0 ts ms.tail lo.tail vs' xs' rf' lf' A9/\(uU P w0 t (ms.headD .ro) v x f hh\/ms.headD .ro= .ro):=by
   cases ha with
   |cons h1 h2=>exact⟨_,_,_,_,_,_,_,_,_,rfl,h2, .inl h1⟩
   | @lent _ _ _ _ _ _ x _ _ _ _ _ h1 h2 h3 h4=>exact⟨_,_,x,_,[],[],_,_,_,rfl,h4, .inr h2⟩
  have CG:ms.headD .ro=(ms0[i]?).getD .ro:=by have:=E9 0;rw[Nat.add_zero]at this;rw[<-this];cases ms<;>rfl
  have P8:vs0[i]?=some v:=by have:=LM 0;simpa using this.symm
  unfold YY at he;split at he
  ·cases he
  rename_i bx' us' DI;obtain⟨f2,o2,b1,b2,b3⟩:=zvl h Fc ts (i+1) DI DS (λk=>by rw[show i+1+k=i+(k+1)from by omega,<-E9 (k+1)];cases ms<;>simp) (λk=>by rw[show i+1+k=i+(k+1)from by omega,<-LM (k+1)];simp);have see2:∀b∈f2,c.gq (Qg P τ i (t::ts) ms) b:=λb hb=>(b3 b hb).mono λt ht=>by simp only[Qg,Ae];exact .inr ht
  split at he
  ·cases he
  rename_i hi;split at he
  ·rename_i hm;simp only[Af,A0]at he;obtain⟨rfl,rfl⟩:=he;exact⟨f2,o2, .ro hm b1,b2,see2⟩
  ·rename_i own hm;simp only[Af,A0]at he;obtain⟨rfl,rfl⟩:=he;exact⟨f2,o2, .va hm b1,b2,see2⟩
  ·rename_i own hm;split at he
   ·cases he
   rename_i hle;split at he
   ·rename_i es l GP;simp only[Af,A0]at he;obtain⟨rfl,rfl⟩:=he;rw[hm]at Bi;obtain⟨us0,ys0,hg,hc⟩:=Bi.resolve_right λh=>by cases h
    obtain⟨f1,o1,q1,q2,q3⟩:=zuW h Fc (i:=i) (by omega) P8 (by rw[<-CG];exact hm) (Bc P t) 0 hc (by omega) (λk u hu he=>by
     rw[Nat.zero_add];split at hg
     ·obtain⟨rfl,_,_⟩:=hg;simpa[Value.cells]using hu
     ·obtain⟨rfl,_⟩:=hg;cases k with
      |zero=>simp at hu;subst hu;rw[hc.j0 (nx:=0) (mk:=Eh (.var 0) true) (j:=0) 0 v rfl he];rfl
      |succ k=>simp at hu) GP
    refine⟨f1++f2,o1++o2,D4.mu (us:=us0) (ys:=es.map (E.den c.ρ)) hm ?_ q1 b1,by rw[q2,b2,List.flatMap_append],λb hb=>(Ae.1 hb).elim (λhb=> .inl (q3 b hb)) (see2 b)⟩;split at hg
    ·rename_i AP;rw[if_pos AP,if_pos AP];exact⟨hg.1,by simp only[E.den,EL.fb]⟩
    ·rename_i AP;rw[if_neg AP,if_neg AP];obtain⟨rfl,_⟩:=hg;refine⟨rfl,?_⟩;have mlen:∀{ts:List TypeId} {fl:List Bool} {us:List Value} {ys:List AV} {f o:List Nat},FP P c.w ts fl us ys f o->us.length=ys.length:=by
      intro ts fl us ys f o VR
      induction VR<;>simp_all
     have:=mlen q1
     match es,this with
     | [e],_=>rfl
   ·cases he
  ·rename_i own own' hm;rw[hm]at Bi;obtain⟨ty,b,C0,ys0,h9,g1,rfl,g3,g4,rfl,g6,rfl⟩:=Bi.resolve_right λh=>by cases h
   split at he
   ·rename_i ty1 ty2 g cs EK Jy;rw[g1]at EK;cases EK;split at he
    ·cases he
    rename_i BY;have BY:ty2=ty:=by simpa using BY
    subst BY;split at he
    ·rename_i es vs' JA pN;simp only[Af,A0]at he;obtain⟨rfl,rfl⟩:=he;obtain⟨b',C,p1,p2,p3,p4,p5,p6,p7⟩:=h.ents _ _ (by rw[Jy];rfl);have ZG:c.A.pin (1000*i)=some (.pointer (some ⟨b,0,none⟩)):=by
      rw[Fc];unfold IL;have e1:(1000*i)/1000=i:=by omega
      have e2:(1000*i) % 1000=0:=by omega
      rw[if_pos (by unfold Ov;simp only[e2,Ac,AS,Bool.or_eq_true];simp;omega),e1,e2,P8,<-CG,hm];rfl
     have hH:=(h.base.pins _ _ ZG).2 p1;rw[p2]at hH;cases hH;obtain⟨f1,q1,q2⟩:=kH (P:=P) h (Bc P ty2) pN p7 JA (AF _);refine⟨f1++f2,_,D4.bx hm g1 rfl p5 p6 (by simp only[E.den]) q1 b1,by rw[b2];simp[p3],λx hx=> ?_⟩;rcases Ae.1 hx with hx|hx
     ·refine(q2 x hx).mono λt ht=> ?_;simp only[Qg,hm,g1,Jy,Ae];exact .inl ht
     ·exact see2 x hx
    ·cases he
   ·cases he
end
theorem zr8{P:Program}:∀(ts:List TypeId) (i:Nat) (ms:List PM) (lo:List Bool) (ss:List SV) (l:List (Nat × Aj)),O5 P i ts ms lo=some (ss,l)-> ∀t x,(t,x)∈l-> ∀gs f,x≠ .gd gs f
 | [],i,ms,lo,ss,l,h,t,x,hx=>by simp[O5]at h;obtain⟨_,rfl⟩:=h;simp at hx
 |t0::ts,i,ms,lo,ss,l,h,t,x,hx=>by
  unfold O5 at h;split at h
  ·rename_i s1 l1 ss1 l2 q1 q2;simp only[Af,A0]at h;obtain⟨_,rfl⟩:=h;rcases Ae.1 hx with hx|hx
   ·have hV:∀(b:Nat) (own:List Bool),UP P i b t0 own=some (s1,l1)-> ∀gs f,x≠ .gd gs f:=by
     intro b own hh;unfold UP at hh;simp only at hh;split at hh
     ·cases hh
     ·split at hh
      ·simp only[Af,A0]at hh;obtain⟨_,rfl⟩:=hh;intro gs f;exact QU _ _ _ _ _ hx
      ·split at hh
       ·simp only[Af,A0]at hh;obtain⟨_,rfl⟩:=hh;intro gs f;exact QU _ _ _ _ _ hx
       ·cases hh
    unfold aE at q1;split at q1
    ·simp only[Af,A0]at q1;rw[<-q1.2]at hx;simp at hx
    ·exact hV _ _ q1
    ·exact hV _ _ q1
    ·split at q1
     ·simp only at q1;split at q1
      ·cases q1
      ·simp only[Af,A0]at q1;obtain⟨_,rfl⟩:=q1;rcases Ag.1 hx with hx|hx
       ·cases hx;simp
       ·intro gs f;exact QU _ _ _ _ _ hx
     ·cases q1
   ·exact zr8 _ _ _ _ _ _ q2 t x hx
  ·cases h
theorem zLt{P:Program}{sg:BW}(ZC:P.follows .mixedOrders=true)(JL:∀f s,sg f=some s->f<1000000){f:Nat}{s:IN}{fn:Func}{t:Tr}{xs:List AV}{r:AV}(JB:P.funcs[f]?=some fn)(hs:sg f=some s) (GQ:(fn.name== "runtime.NumGoroutine")=false)
  (E2:W6 P sg f=some t) (Cz:Nq P fn s r=true) (hlen:xs.length=fn.params.size+fn.nfree) (hd:t.den (Cp P sg) (λr'=>r'=r) (λ_ _ _ _=>False) [] xs):U1 P s f xs r:=by
 unfold W6 at E2;simp only[JB,hs]at E2;split at E2
 ·rename_i code σ Ex BK;split at E2
  ·rename_i t0 hex;have Cr:s.ft.length<=fn.nfree:=by
    have BK:=BK;unfold sN at BK;split at BK
    ·cases BK
    ·simp only at BK;split at BK
     ·cases BK
     ·rename_i AU;simp only[Bool.or_eq_true,AS,not_or,Nat.not_lt]at AU;exact AU.2
   refine⟨fn,JB,by rw[Ex];rfl,GQ,Cz,hlen,Cr,λw vs rf lf A9 Am GM KO Il Ea=> ?_⟩;unfold sN at BK;split at BK
   ·cases BK
   rename_i ss l Cj;simp only at BK;split at BK
   ·cases BK
   rename_i AU;simp only[Bool.or_eq_true,AS,not_or,Nat.not_lt]at AU;simp only[Af]at BK;subst BK;let pin:Nat->Option Value:=IL s.c8 vs;let LO:Value->AV->Prop:=λv y=> ∃f,Rd w [v] [y] f/\ ∀b∈f,¬b∈A9;let c0:Cx:={ρ:=xs,w:=w,G:=λ_=>⟨[],[]⟩,K:=λ_ _=>False,H:=λ_ _=>undef,A:=⟨λb=>b∈rf,pin,LO⟩,w0:=w,Mu:=λb=>b∈A9,U:=λ_=>False,E:=λ_=>0}
   have EM:vs.length=xs.length:=by
    have:∀{ts:List TypeId} {ms:List PM} {lo:List Bool} {vs:List Value} {xs:List AV} {rf lf hs:List Nat},Eg P w ts ms lo vs xs rf lf hs->vs.length=xs.length:=by
     intro ts ms lo vs xs rf lf hs h
     induction h<;>simp_all
    exact this Am
   obtain⟨recs,e1,e2,e3,e4,e5,e6,e7,e8⟩:=zzW (c:=c0) (ms0:=s.c8) (vs0:=vs) (fn.params.toList++s.ft) 0 Cj Am (λk x hx=>by simp only[E.den,Nat.zero_add];show(xs[k]?).getD .undef=x;rw[hx];rfl) (λk=>by simp) (λk=>by simp);have aft:=Cx.ff (c:=c0) (w':=w) (recs:=recs) (λt g hk=>hk.elim) e4 (λr _ _ h=>h);have hU5:∀r∈recs,r.tag<100000:=λr hr=>by have:=e3 r hr;simp only[Nat.zero_add,Aq,BL]at this;omega
   let c:Cx:={c0.fm w recs with U:=λt=>t<100000}
   have Vo:∀b∈rf,(c0.fm w recs).ok b:=by
    intro b hb;refine⟨λ⟨t,ht⟩=> ?_, .inl hb⟩;by_cases hT:∃r∈recs,r.tag=t
    ·obtain⟨r,hr,rfl⟩:=hT;rw[Cx.gb e4 hr]at ht;exact GM b (by rw[<-e2];exact List.mem_flatMap.2 ⟨r,hr,ht⟩) hb
    ·rw[Cx.ej λr hr hh=>hT ⟨r,hr,hh⟩]at ht;simp[c0]at ht
   have Ca:∀(k:Nat) (v:Value) (x:AV),(s.c8[k]?).getD .ro= .ro->vs[k]?=some v->xs[k]?=some x->LO v x:=by
    have key:∀{ts:List TypeId} {ms:List PM} {lo:List Bool} {vs:List Value} {xs:List AV} {rf lf hs:List Nat},Eg P w ts ms lo vs xs rf lf hs-> ∀(k:Nat) (v:Value) (x:AV),(ms[k]?).getD .ro= .ro->vs[k]?=some v->xs[k]?=some x-> ∃f,Rd w [v] [x] f/\ ∀b∈f,b∈rf\/b∈lf:=by
     intro ts ms lo vs xs rf lf hs h
     induction h with
     |nil=>intro k v x _ h _;simp at h
     | @cons t ts ms lo v vs x xs f h rf lf hs Bi _ ih=>
      intro k v' x' h1 h2 h3;cases k with
      |zero=>
       have hm:ms.headD .ro= .ro:=by cases ms<;>exact h1
       rw[hm]at Bi;simp at h2 h3;subst h2;subst h3;exact⟨f,Bi.1,λb hb=> .inl (by simp[hb])⟩
      |succ k=>obtain⟨f',q1,q2⟩:=ih k v' x' (by cases ms with|nil=>rfl|cons _ _=>simpa using h1) (by simpa using h2) (by simpa using h3);exact⟨f',q1,λb hb=>(q2 b hb).imp (λh=>by simp[h]) id⟩
     | @lent t ts ms lo v vs x xs f rf lf hs _ _ hr _ ih=>
      intro k v' x' h1 h2 h3;cases k with
      |zero=>simp at h2 h3;subst h2;subst h3;exact⟨f,hr,λb hb=> .inr (by simp[hb])⟩
      |succ k=>obtain⟨f',q1,q2⟩:=ih k v' x' (by cases ms with|nil=>rfl|cons _ _=>simpa using h1) (by simpa using h2) (by simpa using h3);exact⟨f',q1,λb hb=>(q2 b hb).imp id (λh=>by simp[h])⟩
     | @free ms lo v vs x xs f rf lf hs hr _ ih=>
      intro k v' x' h1 h2 h3;cases k with
      |zero=>simp at h2 h3;subst h2;subst h3;exact⟨f,hr,λb hb=> .inl (by simp[hb])⟩
      |succ k=>obtain⟨f',q1,q2⟩:=ih k v' x' (by cases ms with|nil=>rfl|cons _ _=>simpa using h1) (by simpa using h2) (by simpa using h3);exact⟨f',q1,λb hb=>(q2 b hb).imp (λh=>by simp[h]) id⟩
    intro k v x h1 h2 h3;obtain⟨f,q1,q2⟩:=key Am k v x h1 h2 h3;exact⟨f,q1,λb hb hh=>(q2 b hb).elim (GM b hh) (KO b hh)⟩
   obtain⟨g1,g2⟩:=e8 _ aft Vo Ca;have kc:Ev (c0.fm w recs) c:=⟨rfl,rfl,λ_ _ hb=>hb,λ_ _ _=>rfl,λ_ _ hk=>⟨hk,rfl⟩,λ_ _ _=>⟨AF _,λ_=>⟨rfl,λ_ _ _=>rfl⟩⟩⟩
   have Kb:fn.params.size+fn.nfree=vs.length:=by rw[EM,hlen]
   have G1:(ss++(List.range (fn.nfree-s.ft.length)).map λj=>SV.e (.var (fn.params.size+s.ft.length+j))).length=vs.length:=by rw[Aq,e6,List.length_map,List.length_range,Aq,BL];omega
   have g1':SR c (ss++(List.range (fn.nfree-s.ft.length)).map λj=>SV.e (.var (fn.params.size+s.ft.length+j))) vs:=by
    have:=g1.keep kc;have G0:(fn.params.toList++s.ft).length=fn.params.size+s.ft.length:=by rw[Aq,BL]
    rw[show vs.length-(fn.params.toList++s.ft).length=fn.nfree-s.ft.length from by omega]at this;simpa using this
   have hG:∀t,(∃r∈recs,r.tag=t/\c.G t=⟨r.top,[]⟩)\/c.G t=⟨[],[]⟩:=λt=>by
    by_cases hT:∃r∈recs,r.tag=t
    ·obtain⟨r,hr,rfl⟩:=hT;exact .inl ⟨r,hr,rfl,Cx.gb (w':=w) e4 hr⟩
    ·exact .inr (Cx.ej (w':=w) λr hr hh=>hT ⟨r,hr,hh⟩)
   have Ii:∀r∈recs,∀b∈r.top,b∈A9:=λr hr b hb=>by rw[<-e2];exact List.mem_flatMap.2 ⟨r,hr,hb⟩
   have E7:∀b∈A9,b<w.heap.size:=by
    have:∀{ts:List TypeId} {ms:List PM} {lo:List Bool} {vs:List Value} {xs:List AV} {rf lf hs:List Nat},Eg P w ts ms lo vs xs rf lf hs-> ∀b∈hs,b<w.heap.size:=by
     intro ts ms lo vs xs rf lf hs h
     induction h with
     |nil=>simp
     |lent _ _ _ _ ih=>exact ih
     | @cons t ts ms lo v vs x xs f h rf lf hs Bi _ ih=>
      intro b hb;rcases Ae.1 hb with hb|hb
      ·cases hm:ms.headD .ro with
       |ro=>rw[hm]at Bi;rw[Bi.2]at hb;simp at hb
       |va own=>rw[hm]at Bi;obtain⟨_,_,_,hc⟩:=Bi;exact hc.inb.2 b hb
       |mu own=>rw[hm]at Bi;obtain⟨_,_,_,hc⟩:=Bi;exact hc.inb.2 b hb
       |bx own own'=>
        rw[hm]at Bi;obtain⟨_,b0,_,_,_,_,_,hh,_,_,hc,rfl⟩:=Bi;rcases Ag.1 hb with rfl|hb
        ·exact Dm hh
        ·exact hc.inb.2 b hb
      ·exact ih b hb
     |free _ _ ih=>exact ih
    exact this Am
   have A8:∀t e,AR l t=some e-> ∃r∈recs,r.tag=t/\r.cy=e:=λt e he=>by have:=Kp he;rw[e1]at this;obtain⟨r,hr,V4⟩:=List.mem_map.1 this;simp only[AZ.pair,A0]at V4;exact⟨r,hr,V4.1,V4.2⟩
   let F:Fix:=⟨w,⟨λb=>b∈rf,pin,LO⟩,λb=>b∈A9,λt v h=>by
    simp only[pin,IL]at h;split at h
    ·assumption
    ·cases h⟩
   have As:Rel c fn.ntmps (BV {sl:=ss++(List.range (fn.nfree-s.ft.length)).map (λj=>SV.e (.var (fn.params.size+s.ft.length+j)))++List.replicate (fn.ntmps-(fn.params.size+fn.nfree)) .undef,hp:=l,nx:=100000,nv:=fn.params.size+fn.nfree}) (AR l) {tmps:=vs.toArray++Array.replicate (fn.ntmps-vs.toArray.size) undef,defers:=[]}:=by
    refine⟨rfl,by simp;omega,⟨rfl,rfl,rfl,AF _,λt v hp=>⟨?_,λhk=> ?_⟩,λb _ _=>rfl,Ea,λv y h=>h⟩,λi=> ?_,λt e hr=> ?_,λt hn=> ?_,⟨λt=> ?_,λt u Oe b hb Cd=> ?_,λt b hb=> ?_,λt b hb=> ?_⟩,λt g hk=> ?_,λt e he=> ?_⟩
    ·have:=F.ot t v hp;unfold Ov at this;simp only[Ac,AS]at this;exact this.1
    ·rcases hk with hk|⟨r,hr,rfl,Bm,_⟩
     ·exact hk.elim
     ·exact(aft.new r hr v (e5 r hr v hp)).2.2
    ·have nE:SR c (ss++(List.range (fn.nfree-s.ft.length)).map (λj=>SV.e (.var (fn.params.size+s.ft.length+j)))++List.replicate (fn.ntmps-(fn.params.size+fn.nfree)) .undef) (vs++List.replicate (fn.ntmps-(fn.params.size+fn.nfree)) undef):=by
      refine g1'.app ?_;have:∀k,SR c (List.replicate k SV.undef) (List.replicate k undef):=by
       intro k
       induction k with
       |zero=>exact .nil
       |succ k ih=>exact .undef ih
      exact this _
     unfold BV;simp only;cases hq:(ss++(List.range (fn.nfree-s.ft.length)).map (λj=>SV.e (.var (fn.params.size+s.ft.length+j)))++List.replicate (fn.ntmps-(fn.params.size+fn.nfree)) SV.undef)[i]? with
     |none=>exact .undef .nil
     |some s'=>
      obtain⟨v',Wg,MK⟩:=nE.get hq;have:(vs.toArray++Array.replicate (fn.ntmps-vs.toArray.size) undef).getD i undef=v':=by
       rw[Array.getD_eq_getD_getElem?];have e:(vs.toArray++Array.replicate (fn.ntmps-vs.toArray.size) undef)[i]?=(vs++List.replicate (fn.ntmps-(fn.params.size+fn.nfree)) undef)[i]?:=by rw[<-Array.getElem?_toList];simp[Kb]
       rw[e,Wg];rfl
      rw[this];exact MK
    ·cases hh:AR l t with
     |none=>rw[hh]at hr;exact hr.elim
     |some e0=>
      obtain⟨r,Et,rfl,rfl⟩:=A8 t e0 hh;have BK:=(g2 r Et).keep kc rfl rfl (λg hg=>hg) (λb _=>rfl);rw[hh]at hr;cases he:r.cy with
      |gd gs e'=>rw[he]at BK hr;obtain⟨_,rfl⟩:=hr;have Bm:=(e3 r Et).2.2;exfalso;exact zr8 _ _ _ _ _ _ Cj r.tag r.cy (by rw[e1];exact List.mem_map.2 ⟨r,Et,rfl⟩) _ _ he
      |_=>rw[he]at BK hr;simp only[C4]at hr;subst hr;exact BK
    ·rcases hG t with⟨r,hr,rfl,hg⟩|hg
     ·exfalso;have EI:(r.tag,r.cy)∈l:=by rw[e1];exact List.mem_map.2 ⟨r,hr,rfl⟩
      have:∃e,AR l r.tag=some e:=by
       have:∀(l:List (Nat × Aj)),(r.tag,r.cy)∈l-> ∃e,AR l r.tag=some e:=by
        intro l
        induction l with
        |nil=>intro h;simp at h
        |cons p l ih=>
         obtain⟨u,f'⟩:=p;intro h;simp only[AR];split
         ·exact⟨_,rfl⟩
         ·rename_i hu;rcases Ag.1 h with h|h
          ·cases h;exact absurd rfl hu
          ·exact ih h
       exact this l EI
      obtain⟨e,he⟩:=this;obtain⟨r',Et,Ob,rfl⟩:=A8 _ _ he;have Rw:∀gs f',r'.cy≠ .gd gs f':=by intro gs f' CN;exact zr8 _ _ _ _ _ _ Cj r'.tag r'.cy (by rw[e1];exact List.mem_map.2 ⟨r',Et,rfl⟩) _ _ CN
      apply hn r'.cy;rw[he];cases pB:r'.cy with
      |gd gs f'=>exact absurd pB (Rw gs f')
      |_=>simp[C4]
     ·rw[hg];simp
    ·rcases hG t with⟨r,hr,rfl,hg⟩|hg
     ·rw[hg];rw[<-e2]at Il;simpa[GI.own]using(Yx Il).1 r hr
     ·rw[hg];simp[GI.own]
    ·rcases hG t with⟨r,hr,rfl,hg⟩|hg
     ·rcases hG u with⟨q,hq,rfl,CN⟩|CN
      ·rw[hg]at hb;rw[CN]at Cd;simp only[GI.own,AH]at hb Cd;rw[<-e2]at Il;obtain⟨i,hi⟩:=List.getElem?_of_mem hr;obtain⟨j,hj⟩:=List.getElem?_of_mem hq;have:=(Yx Il).2 i j r q b hi hj hb Cd;subst this;rw[hi]at hj;cases hj;exact Oe rfl
      ·rw[CN]at Cd;simp[GI.own]at Cd
     ·rw[hg]at hb;simp[GI.own]at hb
    ·rcases hG t with⟨r,hr,rfl,hg⟩|hg
     ·rw[hg]at hb;simp only[GI.own,AH]at hb;exact .inr (Ii r hr b hb)
     ·rw[hg]at hb;simp[GI.own]at hb
    ·rcases hG t with⟨r,hr,rfl,hg⟩|hg
     ·rw[hg]at hb;simp only[GI.own,AH]at hb;exact E7 b (Ii r hr b hb)
     ·rw[hg]at hb;simp[GI.own]at hb
    ·rcases hk with hk|⟨r,hr,rfl,_⟩
     ·exact hk.elim
     ·exact hU5 r hr
    ·obtain⟨r,hr,rfl,_⟩:=A8 t e he;exact hU5 r hr
   have Vf:Hv F xs {sl:=ss++(List.range (fn.nfree-s.ft.length)).map (λj=>SV.e (.var (fn.params.size+s.ft.length+j)))++List.replicate (fn.ntmps-(fn.params.size+fn.nfree)) .undef,hp:=l,nx:=100000,nv:=fn.params.size+fn.nfree} {tmps:=vs.toArray++Array.replicate (fn.ntmps-vs.toArray.size) undef,defers:=[]} w:=by
    refine⟨c,rfl,rfl,rfl,rfl,rfl,hlen,λt ht=>ht,?_⟩;have hl:(ss++(List.range (fn.nfree-s.ft.length)).map (λj=>SV.e (.var (fn.params.size+s.ft.length+j)))++List.replicate (fn.ntmps-(fn.params.size+fn.nfree)) SV.undef).length=fn.ntmps:=by rw[Aq,G1,List.length_replicate];omega
    show Rel c (ss++(List.range (fn.nfree-s.ft.length)).map (λj=>SV.e (.var (fn.params.size+s.ft.length+j)))++List.replicate (fn.ntmps-(fn.params.size+fn.nfree)) SV.undef).length _ _ _;rw[hl];exact As
   refine calls_of_wp JB Ex ?_;have hL0:Ly (λ_ _ _ _=>False):=λ_ _ _ _ _ _ h=>h;have Zw:=Tr.gx _ hL0 t0 E2 hd;refine zG6 (zKA ZC (zRf (sg:={sg with dp:=s.dp,wn:=s.wn,fz:=s.fz}) JL) zPs) zMh code [] _ _ t0 hex F (λr'=>r'=r) _ [] xs _ w (YF hL0 _ _) Zw Vf _ λi x τ ρ' a' w' hp hl Dz=> ?_;obtain⟨tr,d',q1,q2,q3⟩:=hl;have main:aX P fn s τ=some tr->a'.defers=[]/\ ∃v,(results fn a'.tmps).run P w'= .ok v w'/\ ∃v',Ending.returned v= .returned v'/\uM P fn s w vs rf A9 r v' w':=by
    intro EG;obtain⟨c2,rfl,rfl,k1,k2,k3,k4,k5,k6⟩:=Dz;unfold aX at EG;split at EG
    ·rename_i rs bx us FX J9;split at EG
     ·rename_i es vs' JA oU;split at EG
      ·cases EG
      rename_i Vr;simp only[Bool.or_eq_true,Bk,not_or,Bool.not_eq_false,Bool.not_eq_true]at Vr;obtain⟨BX,IT⟩:=Vr;have BX:=Uk BX;simp only[Af]at EG;subst EG;have hr:_=r:=q3;obtain⟨rvs,z1,z2,z3⟩:=zDs k6 fn FX;obtain⟨f1,y1,y2⟩:=zvg (P:=P) k6 fn.resultTypes.toList oU z1 JA (AF _);obtain⟨f2,o2,x1,x2,x3⟩:=zvl (P:=P) k6 (w0:=w) (ms0:=s.c8) (vs0:=vs) (λt=>by rw[k2]) (fn.params.toList++s.ft) 0 J9 Am (λk=>by simp) (λk=>by simp);refine⟨k6.defers,_,z3,_,rfl,⟨?_,?_⟩⟩
      ·
       have hR:∃R,R=(match es with| .cons x .nil=>x|es=>E.tup es).den c2.ρ/\Lb P c2.w fn.resultTypes.toList s.res (match rvs with| [u]=>u|us=> .tuple us.toArray) R f1 (vs'.flatMap λt=>(c2.G t).top):=by
        refine⟨_,rfl,?_⟩;have yl:es.den c2.ρ=es.den c2.ρ:=rfl;generalize Wf:fn.resultTypes.toList=ts at y1 ⊢;generalize Db:es.den c2.ρ=ys at y1;generalize (vs'.flatMap λt=>(c2.G t).top)=o1 at y1 ⊢;cases y1 with
        |nil=>
         cases es with
         |nil=>exact⟨[],[],rfl,by simp[E.den,EL.den], .nil⟩
         |cons e es=>simp[EL.den]at Db
        | @cons t ts fl v vs2 x xs2 f h rf2 Ba w1 w2=>
         cases w2 with
         |nil=>
          cases es with
          |nil=>simp[EL.den]at Db
          |cons e es=>
           cases es with
           |nil=>simp only[EL.den,List.cons.injEq,and_true]at Db;subst Db;simpa[Lb]using w1
           |cons e2 es=>simp[EL.den]at Db
         | @cons t2 ts2 fl2 v2 vs3 x2 xs3 f2' h2 rf3 FY w3 w4=>
          cases es with
          |nil=>simp[EL.den]at Db
          |cons e es=>
           cases es with
           |nil=>simp[EL.den]at Db
           |cons e2 es=>refine⟨v::v2::vs3,x::x2::xs3,rfl,?_, .cons w1 (.cons w3 w4)⟩;simp only[E.den,Db]
       obtain⟨R,hR1,Ve⟩:=hR;have Bj:∀b∈(vs'.flatMap λt=>(c2.G t).top)++o2,∃t∈vs'++us,b∈(c2.G t).top:=λb hb=>by
        rcases Ae.1 hb with hb|hb
        ·obtain⟨t,ht,C7⟩:=List.mem_flatMap.1 hb;exact⟨t,by simp[ht],C7⟩
        ·rw[x2]at hb;obtain⟨t,ht,C7⟩:=List.mem_flatMap.1 hb;exact⟨t,by simp[ht],C7⟩
       have KL:∀b t,b∈(c2.G t).top->b∈A9\/w.heap.size<=b:=λb t hb=>by
        rcases k6.gw.allow t b (by simp[GI.own,hb])with h|h
        ·simp only[Cx.B,k1]at h;exact .inr h
        ·rw[k3]at h;exact .inl h
       refine⟨R,bx.map (E.den c2.ρ),f1,_,f2,o2,?_,Ve,x1,?_,λb hb=> ?_,λb hb=> ?_⟩
       ·rw[<-hr,hR1];cases bx with
        |nil=>rfl
        |cons b bx=>simp only[List.isEmpty_cons,A6,if_false,E.den,EL.fb,List.map_cons];rfl
       ·rw[x2,<-List.flatMap_append];have:∀l:List Nat,l.Nodup->(l.flatMap λt=>(c2.G t).top).Nodup:=by
         intro l
         induction l with
         |nil=>intro _;simp
         |cons t l ih=>intro hl;rw[List.nodup_cons]at hl;rw[List.flatMap_cons,List.nodup_append];refine⟨(List.nodup_append.1 (k6.gw.nodup t)).1,ih hl.2,λx hx y hy Gg=> ?_⟩;subst Gg;obtain⟨u,hu,pU⟩:=List.mem_flatMap.1 hy;exact k6.gw.dt t u (λhh=>hl.1 (hh▸hu)) x (by simp[GI.own,hx]) (by simp[GI.own,pU])
        exact this _ BX
       ·obtain⟨t,ht,C7⟩:=Bj b hb;exact⟨KL b t C7,k6.gw.inb t b (by simp[GI.own,C7])⟩
       ·have JJ:c2.gq (Wt P τ fn.resultTypes.toList s.res rs++Qg P τ 0 (fn.params.toList++s.ft) s.c8) b:=by
         rcases Ae.1 hb with hb|hb
         ·exact(y2 b hb).mono λt ht=>by simp[ht]
         ·exact(x3 b hb).mono λt ht=>by simp[ht]
        rcases JJ with A4|⟨t,ht,C7⟩
        ·refine⟨λho=> ?_,?_⟩
         ·obtain⟨u,_,Jz⟩:=Bj b ho;exact A4.1 ⟨u,Jz⟩
         ·rcases A4.2 with h|h|h
          ·rw[k2]at h;exact .inl h
          ·simp only[Cx.B,k1]at h;exact .inr (.inr h)
          ·rw[k3]at h;exact .inr (.inl h)
        ·refine⟨λho=> ?_, .inr (KL b t C7)⟩;obtain⟨u,hu,Jz⟩:=Bj b ho;have Oe:t≠u:=by
          rintro rfl;rw[List.any_eq_false]at IT;have:=IT t ht;simp only[List.contains_eq_mem,AS]at this;exact this hu
         exact k6.gw.dt t u Oe b (by simp[GI.own,C7]) (by simp[GI.own,Jz])
      ·have hb:=k6.base;refine⟨?_,?_,?_,?_,λk hk hn=> ?_⟩
       ·rw[hb.os,k1]
       ·rw[hb.tape,k1]
       ·rw[hb.output,k1]
       ·have:=hb.size;rw[k1]at this;exact this
       ·have:=hb.block k (by rw[k1];exact hk) (by rw[k3];exact hn);rw[k1]at this;exact this
     ·cases EG
    ·cases EG
   cases x with
   |normal=>exact main q1
   |ret=>exact main q1
   |exit id=>cases q1
  ·cases E2
 ·cases E2
end
end Go.Proofs.YtlmjpjceiefpoaaGreat

/- Parts of a proof, joined: WSb, WT, WU, WV, WW. -/
import Derived.Test.YtlmjpjceiefpoaaGreatDoorL5
set_option linter.unusedVariables false
set_option linter.unusedSimpArgs false
namespace Go.Proofs.YtlmjpjceiefpoaaGreatDoor
open Go.RowKit
section
section
variable {P:Program} {c:Cx} {n nx:Nat} {sl sl0:Nat->SV} {hp hp0:Nat->Option Ai} {a:Act} {o:Oper} {gs:Gd} {e:Bf} {sg:BY} {nv:Nat}
theorem T5(hp:Nat->Option Ai):∀(l:List (Nat × Ai)) (t:Nat),Bq hp l t=match Np l t with|some f=>some f|none=>hp t
 | [],t=>rfl
 |(u,e)::l,t=>by
  have:=T5 (λv=>if v=u then some e else hp v) l t;simp only[Bq,List.foldl_cons,Np]at this ⊢;rw[this];cases Np l t with
  |some f=>rfl
  |none=>
   simp only;by_cases h:u=t
   ·rw[if_pos h.symm,if_pos h]
   ·rw[if_neg (Ne.symm h),if_neg h]
theorem zB5{hp:Nat->Option Ai}{T v m u:Nat}{p:E × Nat × Nat}{h r:Ai}(hs:Yz hp T v m u p=some (h,r)):∃e z l ep c0 i o',h= .hol e z l v (m+1) c0 i o' u/\look hp [] T=some (.deep e z l v ep c0)/\ep=m:=by
 unfold Yz at hs;split at hs
 ·rename_i hl;split at hs
  ·rename_i hh;obtain⟨rfl,rfl,_⟩:=hh;split at hs
   ·simp only[Af,A0]at hs;obtain⟨rfl,_⟩:=hs;exact⟨_,_,_,_,_,_,_,rfl,hl,rfl⟩
   ·cases hs
  ·cases hs
 ·cases hs
theorem zCp{h r d:Ai}{e z:Nat}{l:List DT}{g ep:Nat}{c0 i:E}{o' u:Nat}(hh:h= .hol e z l g ep c0 i o' u)(hc:YG P h r=some d):∃x,d= .deep e z l g (ep+1) x:=by
 subst hh;unfold YG at hc;simp only at hc;split at hc
 ·split at hc
  ·simp only[Af]at hc;exact⟨_,hc.symm⟩
  ·cases hc
 ·split at hc
  ·simp only[Af]at hc;exact⟨_,hc.symm⟩
  ·cases hc
 ·cases hc
theorem zPN(JE:∀f s,sg f=some s->f<1000000)(h:BB P c n nx sl hp a sl0 hp0 o [])(hu: ¬c.U (nx+999))(he:V8 P sg sl0 hp0 nv nx o=some e)
  (hc:∀q∈e.dn,q.den c.ρ) (Br:∀cl,e.call=some cl-> ∃r,c.ρ[nv]?=some r/\JQ (Cj P sg) cl.fn ((EL.of cl.args).den c.ρ) c.ρ r):AJ P o c n nx sl hp [] a e:=by
 unfold V8 at he;simp only at he;split at he
 ·cases he
 rename_i t T v m p s NQ;split at he
 ·cases he
 rename_i hl inn P3;split at he
 ·cases he
 rename_i e0 Mx;split at he
 ·cases he
 rename_i Dm;have Dm:e0.df=none:=by cases hh:e0.df with|none=>rfl|some x=>rw[hh]at Dm;simp at Dm
 obtain⟨EI,Bv⟩:=XW NQ;have EI:Operand.tmp t∈o.op.operands:=by simpa using EI
 obtain⟨fe,fz,fl,fep,fc0,fi,fo,rfl,IU,rfl⟩:=zB5 P3;have hE:c.E T=fep:=(h.eh T _ (Df IU (Fw _))).2.2.1;have Fb:=h.rel.ee t;rw[<-h.sl t EI]at Fb;obtain⟨vv,KX,Bd⟩:∃vv,J1 c T v (some p) vv/\ ∀c1:Cx,c1.ρ=c.ρ->c1.K (nx+999) 0->c1.H (nx+999) 0=vv->(∃q n r,vv= .slice q n r/\(q=none\/n=0\/ ∃g,q=some ⟨g,0,none⟩))->SR c1 [s] [a.tmps.getD t undef]:=by
  rcases Bv with⟨y,Dw,rfl⟩|⟨y,k,z,q,Dw,rfl⟩
  ·rw[Dw]at Fb;generalize a.tmps.getD t undef=av at Fb ⊢;cases Fb with
   |via h1 h2 h3 _=>obtain⟨_,hp⟩:=h3 hE;refine⟨_,hp,λc1 e1 k1 k2 k3=> ?_⟩;obtain⟨q,n,r,rfl,_⟩:=k3;exact .own k1 k2 .nil
  ·rw[Dw]at Fb;generalize a.tmps.getD t undef=av at Fb ⊢;cases Fb with
   |vptr h1 h2 h3 _=>
    obtain⟨b,off,len,cap,kk,kv,g1,g2,g3,g4,g5,g6,rfl⟩:=h3 hE;refine⟨_,g2,λc1 e1 k1 k2 k3=> ?_⟩;obtain⟨q9,n9,r9,hv,hq⟩:=k3;cases hv;have GR:off=0:=by
     rcases hq with hq|hq|⟨g,hq⟩
     ·cases hq
     ·omega
     ·cases hq;rfl
    subst GR;have:=SR.du (c:=c1) (i:=k) (sz:=z) (o:=q) k1 k2 (by rw[e1];exact g3) g4 g5 .nil;simpa using this
 obtain⟨recs,c1,rfl,DM,PJ,Rj,Ml,hvv,mA,hKT,_,hE1,KE⟩:=h.rel.split P3 h.hp hu (λ_=>KX);have MH:=Bd _ PJ.ρ Rj Ml hvv;have FR:=DM.la (sl':=λi=>if i=t then s else sl i) (λi=>by
  by_cases hi:i=t
  ·subst hi;right;simpa using MH
  ·left;simp[hi])
 have Ff:∀x,Bq hp [(T, .hol fe fz fl v (fep+1) fc0 fi fo (nx+999)),(nx+999,inn)] x=if x=nx+999 then some inn else if x=T then some (.hol fe fz fl v (fep+1) fc0 fi fo (nx+999))else hp x:=λx=>rfl;have pre1:BB P (c.fj c.w recs) n nx (λi=>if i=t then s else sl i) (Bq hp [(T, .hol fe fz fl v (fep+1) fc0 fi fo (nx+999)),(nx+999,inn)]) a (λi=>if i=t then s else sl0 i) (λw=>if w=T then some (.hol fe fz fl v (fep+1) fc0 fi fo (nx+999))else if w=nx+999 then some inn else hp0 w) o []:=by
  refine⟨FR,Fw _,λi hi=> ?_,λx f hf=> ?_,λx h1 h2 hx=> ?_⟩
  ·by_cases hit:i=t
   ·simp[hit]
   ·simp only[if_neg hit];exact h.sl i hi
  ·rw[Ff];by_cases h1:x=T
   ·rw[if_pos h1]at hf;rw[if_neg (by rw[h1];exact KE),if_pos h1];exact hf
   ·rw[if_neg h1]at hf;by_cases h2:x=nx+999
    ·rw[if_pos h2]at hf ⊢;exact hf
    ·rw[if_neg h2]at hf;rw[if_neg h2,if_neg h1];exact h.hp x f hf
  ·rcases mA x hx with hx|hx
   ·exact h.new x h1 h2 hx
   ·omega
 have hdst:∀(c':Cx) (a':Act) (w9:SV),Rel c' n (De n (λi=>if i=t then s else sl i) o.dst w9) (λ_=>none) a'->True:=λ_ _ _ _=>trivial;have stale:∀(c':Cx) (v':Value),c'.K T v->fep<c'.E T->SR c' [sl t] [v']:=by
  intro c' v' hk AP;rw[<-h.sl t EI];rcases Bv with⟨y,Dw,_⟩|⟨y,k,z,q,Dw,_⟩
  ·rw[Dw];exact .via hk (by omega) (λhh=>by omega) .nil
  ·rw[Dw];exact .vptr hk (by omega) (λhh=>by omega) .nil
 have back:∀{c':Cx} {hp':Nat->Option Ai} {a':Act} {w9:SV},Rel c' n (De n (λi=>if i=t then s else sl i) o.dst w9) hp' a'->c'.K T v->fep<c'.E T->Rel c' n (De n sl o.dst w9) hp' a':=by
  intro c' hp' a' w9 hr hk AP;refine hr.la λi=> ?_;unfold De;by_cases h1:o.dst=some i/\i<n
  ·left;rw[if_pos h1,if_pos h1]
  ·rw[if_neg h1,if_neg h1];by_cases h2:i=t
   ·subst h2;right;exact stale _ _ hk AP
   ·left;show sl i=if i=t then s else sl i;rw[if_neg h2]
 split at he
 ·
  split at he
  ·rename_i E4;simp only[Af]at he;subst he;have KJ:=sA JE pre1 Mx hc Br (λx hx=>by rw[Dm]at hx;cases hx);intro next Q hk
   refine KJ next Q λa' c' Bm hr=> ?_
   have lY:Bq (Bq hp [(T, .hol fe fz fl v (fep+1) fc0 fi fo (nx+999)),(nx+999,inn)]) e0.cx T=some (.hol fe fz fl v (fep+1) fc0 fi fo (nx+999)):=by rw[T5,E4,Ff,if_neg KE,if_pos rfl]
   obtain⟨g1,_,g3,_⟩:=hr.ents T _ (by rw[lY];rfl);refine hk a' c' ⟨Bm.ρ,Bm.A,Bm.w0,Bm.Mu,λx hx=> ?_⟩ (back hr g1 (by omega));rcases Bm.U x hx with hx|hx
   ·rcases mA x hx with hx|hx
    ·exact .inl hx
    ·exact .inr ⟨by omega,by simp only[B1];omega⟩
   ·exact .inr hx
  ·cases he
 ·split at he
  ·rename_i r' hlu hlT;obtain⟨d,hd,rfl⟩:=Aw.1 he;have KJ:=sA JE pre1 Mx hc Br (λx hx=>by rw[Dm]at hx;cases hx);intro next Q hk
   refine KJ next Q λa' c' Bm hr=> ?_
   have lY:Bq (Bq hp [(T, .hol fe fz fl v (fep+1) fc0 fi fo (nx+999)),(nx+999,inn)]) e0.cx T=some (.hol fe fz fl v (fep+1) fc0 fi fo (nx+999)):=by rw[T5,hlT,Ff,if_neg KE,if_pos rfl]
   have hue:Bq (Bq hp [(T, .hol fe fz fl v (fep+1) fc0 fi fo (nx+999)),(nx+999,inn)]) e0.cx (nx+999)=some r':=by rw[T5,hlu]
   obtain⟨recs2,c2,rfl,D6,hU2,hE2⟩:=hr.close lY hue hd ⟨_,_,_,_,_,_,_,_,rfl⟩ KE;obtain⟨x9,rfl⟩:=zCp rfl hd;have lZ:Bq (Bq (Bq hp [(T, .hol fe fz fl v (fep+1) fc0 fi fo (nx+999)),(nx+999,inn)]) e0.cx) [(T, .deep fe fz fl v (fep+1+1) x9),(nx+999, .dead)] T=some (.deep fe fz fl v (fep+1+1) x9):=by show(if T=nx+999 then _ else if T=T then _ else _)=_;rw[if_neg KE,if_pos rfl]
   obtain⟨g1,_,g3,_⟩:=D6.ents T _ (by rw[lZ];rfl);have H8:=back D6 g1 (by omega);have BL:Bq hp ((T, .hol fe fz fl v (fep+1) fc0 fi fo (nx+999))::(nx+999,inn)::e0.cx++ [(T, .deep fe fz fl v (fep+1+1) x9),(nx+999, .dead)])=Bq (Bq (Bq hp [(T, .hol fe fz fl v (fep+1) fc0 fi fo (nx+999)),(nx+999,inn)]) e0.cx) [(T, .deep fe fz fl v (fep+1+1) x9),(nx+999, .dead)]:=by rw[<-QV,<-QV];rfl
   refine hk a' (c'.fj c'.w recs2) ⟨Bm.ρ,Bm.A,Bm.w0,Bm.Mu,λx hx=> ?_⟩ ?_
   ·rcases Bm.U x (hU2 x hx)with hx|hx
    ·rcases mA x hx with hx|hx
     ·exact .inl hx
     ·exact .inr ⟨by omega,by simp only[B1];omega⟩
    ·exact .inr hx
   ·have:=H8;rw[<-BL]at this;exact this
  ·cases he
theorem zJY(h:BB P c n nx sl hp a sl0 hp0 o gs){e:Bf}(dp:Bool)(hd:AJ P o c n nx sl hp gs a e):AJ P o c n nx sl hp gs a (Lv dp hp0 gs e):=by
 unfold Lv;split
 ·exact hd
 ·split
  ·rename_i l hl;intro next Q hk
   refine hd next Q λa' c' hs hr=> ?_
   have e1:Bq hp0 e.cx=λt=>match Np e.cx t with|some f=>some f|none=>hp0 t:=funext (T5 hp0 e.cx)
   have hl:Eg (Bq hp0 e.cx) [] (zFY e.cx)=some l:=by rw[e1];exact hl
   have J7:=hr.freeze (hp0:=Bq hp0 e.cx) (λt e' h'=>by
    rw[T5]at h' ⊢;split at h'
    ·exact h'
    ·exact h.hp t e' h') (Fw _) hl
   refine hk a' (c'.da (l.map (·.1))) ⟨hs.ρ,hs.A,hs.w0,hs.Mu,hs.U⟩ ?_;show Rel _ _ _ (Bq hp (e.cx++l)) a';rw[QV];exact J7
  ·exact hd
theorem zGI(dp:Bool)(e:Bf):(Lv dp hp0 gs e).call=e.call:=by
 unfold Lv;split
 ·rfl
 ·split<;>rfl
theorem zIS(dp:Bool)(e:Bf):(Lv dp hp0 gs e).dn=e.dn:=by
 unfold Lv;split
 ·rfl
 ·split<;>rfl
theorem ztW(dp:Bool)(e:Bf):(Lv dp hp0 gs e).df=e.df:=by
 unfold Lv;split
 ·rfl
 ·split<;>rfl
theorem zJj{dp:Bool}{e:Bf}{x:E}(h:e.df=some x):Lv dp hp0 gs e=e:=by unfold Lv;rw[if_pos (by simp[h])]
theorem zLq(h:BB P c n nx sl hp a sl0 hp0 o gs){e:Bf}(fz:Bool)(hd:AJ P o c n nx sl hp gs a e):AJ P o c n nx sl hp gs a (La fz hp0 gs e):=by
 unfold La;split
 ·exact hd
 ·rename_i U7;simp only[Bool.or_eq_true,not_or]at U7;have Y9:e.cx=[]:=by simpa using U7.2
  split
  ·rename_i t g m p x hv;split
   ·rename_i y l hy hl;split
    ·rename_i JC;intro next Q hk
     refine hd next Q λa' c' hs hr=> ?_
     rw[Y9]at hr;have mX:gs=[]:=by simpa using U7.1.1.1.2
     subst mX;have hr:Rel c' n (De n sl o.dst e.val) hp a':=hr;have eh:EH c' hp0:=λt e Er=>hr.ents t e (Pa h.hp Er);have J7:=hr.freeze h.hp (Fw _) hl;refine hk a' (c'.da (l.map (·.1))) ⟨hs.ρ,hs.A,hs.w0,hs.Mu,hs.U⟩ ?_;refine{J7 with ee:=λi=> ?_};have h1:=hr.ee i;have h2:=J7.ee i;unfold De at h1 h2 ⊢;split
     ·rename_i hi;rw[if_pos hi]at h1;obtain⟨f,q1,q2⟩:=Je eh (Fw _) Bb hy h1 Bb (AB _);exact .e q1 (λb hb=>X5 hr eh (Fw _) hl JC (q2 b hb)) .nil
     ·rename_i hi;rw[if_neg hi]at h2;exact h2
    ·exact hd
   ·exact hd
  ·exact hd
theorem zID(fz:Bool)(e:Bf):(La fz hp0 gs e).call=e.call:=by
 unfold La;split
 ·rfl
 ·split
  ·split
   ·split<;>rfl
   ·rfl
  ·rfl
theorem zLU(fz:Bool)(e:Bf):(La fz hp0 gs e).dn=e.dn:=by
 unfold La;split
 ·rfl
 ·split
  ·split
   ·split<;>rfl
   ·rfl
  ·rfl
theorem zDl(fz:Bool)(e:Bf):(La fz hp0 gs e).df=e.df:=by
 unfold La;split
 ·rfl
 ·split
  ·split
   ·split<;>rfl
   ·rfl
  ·rfl
theorem zLT{fz:Bool}{e:Bf}{x:E}(h:e.df=some x):La fz hp0 gs e=e:=by unfold La;rw[if_pos (by simp[h])]
theorem zQZ(JE:∀f s,sg f=some s->f<1000000):Qn P sg (Cj P sg):=by
 intro c n nx sl hp a sl0 hp0 o gs e nv h hu he hc Br Dm;unfold NC at he;split at he
 ·rename_i e' Fp;simp only[Af]at he;subst he;rw[zLU,zIS]at hc;rw[zID,zGI]at Br;rw[zDl,ztW]at Dm;exact zLq h _ (zJY h _ (sA JE h Fp hc Br Dm))
 ·split at he
  ·exact zPN JE h hu he hc Br
  ·cases he
theorem zEN{x:E}(he:V8 P sg sl0 hp0 nv nx o=some e)(hq:e.df=some x):False:=by
 unfold V8 at he;simp only at he;split at he
 ·cases he
 split at he
 ·cases he
 split at he
 ·cases he
 rename_i e0 Mx;split at he
 ·cases he
 rename_i Dm;have Dm:e0.df=none:=by cases hh:e0.df with|none=>rfl|some x=>rw[hh]at Dm;simp at Dm
 split at he
 ·split at he
  ·simp only[Af]at he;subst he;rw[Dm]at hq;cases hq
  ·cases he
 ·split at he
  ·obtain⟨d,hd,rfl⟩:=Aw.1 he;rw[Dm]at hq;cases hq
  ·cases he
theorem zEx{x:E}(he:NC P sg sl0 hp0 nv nx gs o=some e)(hq:e.df=some x):B2 P sg sl0 hp0 nv nx gs o=some e:=by
 unfold NC at he;split at he
 ·rename_i e' Fp;simp only[Af]at he;subst he;rw[zDl,ztW]at hq;rw[zLT (by rw[ztW];exact hq),zJj hq];exact Fp
 ·split at he
  ·exact(zEN he hq).elim
  ·cases he
theorem zPe:WC P sg:=by
 intro c n nx sl hp a sl0 hp0 o gs e nv x h he hq hb;unfold L7 at hb;cases AY:o.op with
 |binOp op t y z ty=>
  rw[AY]at hb;simp only at hb;have he:=zEx he hq;simp only[B2,AY,AA]at he;obtain⟨s1,BO,s2,Bd,he⟩:=he;have key:∀xq,BI hp0 gs Bb s1=some xq->xq.den c.ρ= .sl []:=by
   intro xq K4;obtain⟨f,q1,_⟩:=h.l7 BO (by simp[AY,Op.operands]) K4;generalize a.eval y=v at q1 hb;split at hb
   ·generalize xq.den c.ρ=d at q1;cases q1 with
    |gk _=>rfl
   ·cases hb
  unfold UH at he;split at he
  ·split at he
   ·simp at he;subst he;cases hq
   ·simp at he;subst he;cases hq
   ·obtain⟨xq,K4,rfl⟩:=Aw.1 he;cases hq;exact key _ K4
   ·obtain⟨xq,K4,rfl⟩:=Aw.1 he;cases hq;exact key _ K4
   ·cases he
  ·split at he
   ·simp at he;subst he;cases hq
   ·cases he
  ·split at he
   ·simp at he;subst he;cases hq
   ·cases he
  ·split at he
   ·simp at he;subst he;cases hq
   ·cases he
  ·split at he
   ·cases he
   ·split at he
    ·split at he
     ·simp at he;subst he;cases hq
     ·simp at he;subst he;cases hq
     ·cases he
    ·cases he
  ·cases he
 |_=>rw[AY]at hb;simp at hb
end
def IL(ms:List PM)(vs:List Value)(t:Nat):Option Value:=
 if Ow t then(match vs[t/1000]?,(ms[t/1000]?).getD .ro with
  |some v, .bx .. =>if t % 1000=0 then some v else none
  |some v, .mu _=>if 500<=t % 1000 then v.cells[t % 1000-500]? else none
  |_,_=>none)
 else none
section
variable {P:Program} {c:Cx} {w:World}
theorem CA.j0{ts:List TypeId}{fl:List Bool}{us:List Value}{ys:List AV}{rf hs:List Nat}(h:CA P w ts fl us ys rf hs){nx:Nat}{mk:Nat->E}{j:Nat}:∀(k:Nat) (u:Value),us[k]?=some u->(∃e,(nx+j+k,e)∈(Dn P nx mk j ts fl).2)->u.cells= #[u]:=by
 induction h generalizing j with
 |nil=>intro k u hu _;simp at hu
 | @deep t ts fl el e9 z9 l9 u us y ys top rf hs h1 h2 UP Rh h3 _ ih=>
  intro k u' hu he;cases k with
  |zero=>simp at hu;subst hu;obtain⟨p,q,r,rfl⟩:=h3.head;rfl
  |succ k=>
   refine ih (j:=j+1) k u' (by simpa using hu) ?_;obtain⟨e,he⟩:=he;simp only[Dn,h1,h2,Ag,A0]at he;rcases he with⟨he,_⟩|he
   ·omega
   ·exact⟨e,by rw[show nx+(j+1)+k=nx+j+(k+1)from by omega];exact he⟩
 | @own t ts fl el u us y ys top N rf hs h1 h2 KB h3 _ ih=>
  intro k u' hu he;cases k with
  |zero=>simp at hu;subst hu;obtain⟨xs,_,_,_,⟨_,⟨a,rfl⟩,_⟩|⟨g,cap,C,rfl,_⟩⟩:=h3<;>rfl
  |succ k=>
   refine ih (j:=j+1) k u' (by simpa using hu) ?_;obtain⟨e,he⟩:=he;simp only[Dn,h1,h2,Ag,A0]at he;rcases he with⟨he,_⟩|he
   ·omega
   ·exact⟨e,by rw[show nx+(j+1)+k=nx+j+(k+1)from by omega];exact he⟩
 | @rd t ts fl u us y ys f rf hs h1 h3 _ ih=>
  intro k u' hu he;obtain⟨e,he⟩:=he;have Vm:(Dn P nx mk j (t::ts) fl).2=(Dn P nx mk (j+1) ts fl.tail).2:=by
   simp only[Dn];split
   ·rename_i h8 h9;rw[h1 h8]at h9;cases h9
   ·rfl
  rw[Vm]at he;cases k with
  |zero=>
   exfalso;have key:∀(ts:List TypeId) (fl:List Bool) (j' t':Nat) (e':Ai),(t',e')∈(Dn P nx mk j' ts fl).2->nx+j'<=t':=by
    intro ts
    induction ts with
    |nil=>intro fl j' t' e' h;simp[Dn]at h
    |cons a ts ih2=>
     intro fl j' t' e' h;simp only[Dn]at h;split at h
     ·simp only[Ag,A0]at h;rcases h with⟨h,_⟩|h
      ·omega
      ·have:=ih2 _ _ _ _ h;omega
     ·have:=ih2 _ _ _ _ h;omega
   have:=key _ _ _ _ _ he;omega
  |succ k=>exact ih (j:=j+1) k u' (by simpa using hu) ⟨e,by rw[show nx+(j+1)+k=nx+j+(k+1)from by omega];exact he⟩
theorem zwV{i b:Nat}(hb:b+400<=1000){t:TypeId}{own:List Bool}{s:SV}{l:List (Nat × Ai)}{v:Value}{x:AV}{rf hs:List Nat}(h:UD P i b t own=some (s,l))(hv:MY P w t own v x rf hs)(hx:(E.var i).den c.ρ=x):
  ∃recs:List AZ,l=recs.map AZ.pair/\recs.flatMap AZ.top=hs/\(∀r∈recs,1000*i+b<=r.tag/\r.tag<1000*i+1000/\r.new.isSome)/\(recs.map AZ.tag).Nodup/\(∀r∈recs,r.new=v.cells[r.tag-(1000*i+b)]?)/\
   ∀c',FA c c' w recs->(∀b∈rf,c'.ok b)->SR c' [s] [v]/\ ∀r∈recs,DH c' r.tag r.cx:=by
 obtain⟨us,ys,hg,hc⟩:=hv;unfold UD at h;simp only at h;split at h
 ·cases h
 rename_i hle;split at hg
 ·rename_i AN;obtain⟨rfl,rfl,C8⟩:=hg;obtain⟨recs,e1,e2,e3,e4,e4',e5⟩:=Tu (c:=c) (nx:=1000*i+b) (mk:=Ec (.var i) (Aq P t)) hc 0 (by rw[AN];exact Yd hx);rw[if_pos AN]at h;simp only[Af,A0]at h;obtain⟨rfl,rfl⟩:=h;refine⟨recs,e1,e2,λr hr=>by have:=e3 r hr;exact⟨by omega,by omega,this.2.2⟩,e4,λr hr=>by rw[e4' r hr];simp[Value.cells],λc' ha A3=> ?_⟩;obtain⟨q1,q2⟩:=e5 c' ha A3;exact⟨.agg C8 (by rw[BS.ax];exact q1) .nil,q2⟩
 ·rename_i AN;obtain⟨rfl,rfl⟩:=hg;have H0:Aq P t=false:=by simpa using AN
  obtain⟨recs,e1,e2,e3,e4,e4',e5⟩:=Tu (c:=c) (nx:=1000*i+b) (mk:=Ec (.var i) (Aq P t)) hc 0 (by
   intro k z hz;cases k with
   |zero=>simp at hz;subst hz;rw[H0];simpa[Ec]using hx
   |succ k=>simp at hz)
  rw[if_neg AN]at h;split at h
  ·rename_i s' A9;simp only[Af,A0]at h;obtain⟨rfl,rfl⟩:=h;refine⟨recs,e1,e2,λr hr=>by have:=e3 r hr;exact⟨by omega,by omega,this.2.2⟩,e4,λr hr=> ?_,λc' ha A3=> ?_⟩
   ·have Er:=e4' r hr;have h3:=e3 r hr;rw[Er,Nat.add_zero];have hlen:=hc.len;have nI:r.tag-(1000*i+b)=0:=by
     have:=hlen.1;simp at this;omega
    rw[nI];have:=hc.j0 (nx:=1000*i+b) (mk:=Ec (.var i) (Aq P t)) (j:=0) 0 v rfl ⟨r.cx,by rw[e1];exact List.mem_map.2 ⟨r,hr,by simp[AZ.pair];omega⟩⟩;rw[this];rfl
   ·obtain⟨q1,q2⟩:=e5 c' ha A3;rw[A9]at q1;exact⟨q1,q2⟩
  ·cases h
theorem zzH{ms0:List PM}{vs0:List Value}:∀(ts:List TypeId) (i:Nat) {ms:List PM} {lo:List Bool} {ss:List SV} {l:List (Nat × Ai)} {vs:List Value} {xs:List AV} {rf lf hs:List Nat},O7 P i ts ms lo=some (ss,l)->Eb P w ts ms lo vs xs rf lf hs->(∀k x,xs[k]?=some x->(E.var (i+k)).den c.ρ=x)->(∀k,ms[k]?=ms0[i+k]?)->(∀k,vs[k]?=vs0[i+k]?)->
  ∃recs:List AZ,l=recs.map AZ.pair/\recs.flatMap AZ.top=hs/\(∀r∈recs,1000*i<=r.tag/\r.tag<1000*(i+ts.length)/\r.new.isSome)/\(recs.map AZ.tag).Nodup/\(∀r∈recs,∀v,IL ms0 vs0 r.tag=some v->r.new=some v)/\ss.length=ts.length/\ts.length<=vs.length/\
   ∀c',FA c c' w recs->(∀b∈rf,c'.ok b)->(∀(k:Nat) (v:Value) (x:AV),(ms[k]?).getD .ro= .ro->vs[k]?=some v->xs[k]?=some x->c'.A.lo v x)->SR c' (ss++(List.range (vs.length-ts.length)).map λj=>SV.e (.var (i+ts.length+j))) vs/\ ∀r∈recs,DH c' r.tag r.cx
 | [],i,ms,lo,ss,l,vs,xs,rf,lf,hs,h,ha,hx,_,_=>by
  simp[O7]at h;obtain⟨rfl,rfl⟩:=h;have key:∀{ms:List PM} {lo:List Bool} {vs:List Value} {xs:List AV} {rf lf hs:List Nat},Eb P w [] ms lo vs xs rf lf hs->hs=[]/\Rd w vs xs rf:=by
   intro ms lo vs
   induction vs generalizing ms lo with
   |nil=>intro xs rf lf hs h;cases h;exact⟨rfl, .nil⟩
   |cons v vs ih=>
    intro xs rf lf hs h;cases h with
    |free h1 h2=>obtain⟨rfl,h3⟩:=ih h2;exact⟨rfl,h1.app h3⟩
  obtain⟨rfl,DX⟩:=key ha;refine⟨[],rfl,rfl,by simp,by simp,by simp,rfl,by simp,λc' F5 A3 _=>⟨?_,by simp⟩⟩;have frees:∀(vs:List Value) {xs:List AV} {rf:List Nat} (j:Nat),Rd w vs xs rf->(∀k x,xs[k]?=some x->(E.var (i+j+k)).den c.ρ=x)->(∀b∈rf,c'.ok b)->SR c' ((List.range vs.length).map λq=>SV.e (.var (i+j+q))) vs:=by
   intro vs
   induction vs with
   |nil=>intro xs rf j h _ _;simpa using SR.nil
   |cons v vs ih=>
    intro xs rf j h hx A3;cases xs with
    |nil=>have:=h.len;simp at this
    |cons x xs=>
     obtain⟨f1,f2,rfl,h1,h2⟩:=h.dh;have h3:=ih (j+1) h2 (λk y hy=>by rw[show i+(j+1)+k=i+j+(k+1)from by omega];exact hx (k+1) y (by simpa using hy)) λb hb=>A3 b (by simp[hb]);rw[AH,List.range_succ_eq_map,List.map_cons,List.map_map];refine SR.cons (.e (f:=f1) (by rw[F5.w,F5.ρ];have:=hx 0 x rfl;simp only[Nat.add_zero]at this ⊢;rw[this];exact h1) (λb hb=>A3 b (by simp[hb])) .nil) ?_;have e:((λq=>SV.e (.var (i+j+q)))∘Nat.succ)=λq=>SV.e (.var (i+(j+1)+q)):=by funext q;simp only[Function.comp_apply];rw[show i+j+q.succ=i+(j+1)+q from by omega]
     rw[e];exact h3
  simpa using frees vs 0 DX (by simpa using hx) A3
 |t::ts,i,ms,lo,ss,l,vs,xs,rf,lf,hs,h,ha,hx,E5,LI=>by
  unfold O7 at h;split at h
  ·rename_i s l1 ss' l2 h1 h2;simp only[Af,A0]at h;obtain⟨rfl,rfl⟩:=h;obtain⟨v,vs,x,xs,f,hh,rf,lf,hs,rfl,rfl,rfl,rfl,E9,Bi⟩:∃v vs' x xs' f hh rf' lf' A9,vs=v::vs'/\xs=x::xs'/\rf=f++rf'/\hs=hh++A9/\Eb P w ts ms.tail lo.tail vs' xs' rf' lf' A9/\(tG P w t (ms.headD .ro) v x f hh\/(lo.headD false=true/\ms.headD .ro= .ro/\f=[]/\hh=[])):=by
    cases ha with
    |cons h1 h2=>exact⟨_,_,_,_,_,_,_,_,_,rfl,rfl,rfl,rfl,h2, .inl h1⟩
    |lent h1 h2 h3 h4=>exact⟨_,_,_,_,[],[],_,_,_,rfl,rfl,by simp,by simp,h4, .inr ⟨h1,h2,rfl,rfl⟩⟩
   have CF:ms.headD .ro=(ms0[i]?).getD .ro:=by have:=E5 0;rw[Nat.add_zero]at this;rw[<-this];cases ms<;>rfl
   have MM:vs0[i]?=some v:=by have:=LI 0;simpa using this.symm
   have ET:(E.var i).den c.ρ=x:=by simpa using hx 0 x rfl
   obtain⟨r2,b1,b2,b3,b4,b4',b6,b7,b5⟩:=zzH ts (i+1) h2 E9 (λk y hy=>by rw[show i+1+k=i+(k+1)from by omega];exact hx (k+1) y (by simpa using hy)) (λk=>by rw[show i+1+k=i+(k+1)from by omega,<-E5 (k+1)];cases ms<;>simp) (λk=>by rw[show i+1+k=i+(k+1)from by omega,<-LI (k+1)];simp);have fin:∀(r1:List AZ),l1=r1.map AZ.pair->r1.flatMap AZ.top=hh->(∀r∈r1,1000*i<=r.tag/\r.tag<1000*i+1000/\r.new.isSome)->(r1.map AZ.tag).Nodup->(∀r∈r1,∀v,IL ms0 vs0 r.tag=some v->r.new=some v)->
     (∀c',FA c c' w r1->(∀b∈f,c'.ok b)->(ms.headD .ro= .ro->c'.A.lo v x)->SR c' [s] [v]/\ ∀r∈r1,DH c' r.tag r.cx)->
     ∃recs:List AZ,l1++l2=recs.map AZ.pair/\recs.flatMap AZ.top=hh++hs/\(∀r∈recs,1000*i<=r.tag/\r.tag<1000*(i+(t::ts).length)/\r.new.isSome)/\(recs.map AZ.tag).Nodup/\(∀r∈recs,∀v,IL ms0 vs0 r.tag=some v->r.new=some v)/\(s::ss').length=(t::ts).length/\(t::ts).length<=(v::vs).length/\
      ∀c',FA c c' w recs->(∀b∈f++rf,c'.ok b)->(∀(k:Nat) (v':Value) (x':AV),(ms[k]?).getD .ro= .ro->(v::vs)[k]?=some v'->(x::xs)[k]?=some x'->c'.A.lo v' x')->SR c' ((s::ss')++(List.range ((v::vs).length-(t::ts).length)).map λj=>SV.e (.var (i+(t::ts).length+j))) (v::vs)/\ ∀r∈recs,DH c' r.tag r.cx:=by
    intro r1 a1 a2 a3 a4 a4' a5;refine⟨r1++r2,by simp[a1,b1],by simp[a2,b2],λr hr=> ?_,?_,λr hr=> ?_,by simp[b6],by simp[b7],λc' F5 A3 B7=> ?_⟩
    ·simp only[AH];rcases Ae.1 hr with hr|hr
     ·have:=a3 r hr;exact⟨this.1,by omega,this.2.2⟩
     ·have:=b3 r hr;exact⟨by omega,by omega,this.2.2⟩
    ·rw[List.map_append,List.nodup_append];refine⟨a4,b4,λt1 Oc t2 LH he=> ?_⟩;obtain⟨q1,Hn,rfl⟩:=List.mem_map.1 Oc;obtain⟨q2,IX,rfl⟩:=List.mem_map.1 LH;have:=a3 q1 Hn;have:=b3 q2 IX;omega
    ·rcases Ae.1 hr with hr|hr
     ·exact a4' r hr
     ·exact b4' r hr
    ·obtain⟨p1,p2⟩:=a5 c' (F5.mono λr hr=>by simp[hr]) (λb hb=>A3 b (by simp[hb])) λhl=>B7 0 v x (by cases ms<;>exact hl) rfl rfl;obtain⟨q1,q2⟩:=b5 c' (F5.mono λr hr=>by simp[hr]) (λb hb=>A3 b (by simp[hb])) λk v' x' k1 k2 k3=>B7 (k+1) v' x' (by cases ms with|nil=>rfl|cons b l=>simpa using k1) (by simpa using k2) (by simpa using k3);refine⟨?_,λr hr=> ?_⟩
     ·have:=p1.cons q1;have e:(λj=>SV.e (.var (i+1+ts.length+j)))=λj=>SV.e (.var (i+(t::ts).length+j)):=by
       funext j;simp only[AH];rw[show i+1+ts.length+j=i+(ts.length+1)+j from by omega]
      rw[e]at this;simpa using this
     ·rcases Ae.1 hr with hr|hr
      ·exact p2 r hr
      ·exact q2 r hr
   have pinMu:∀{own:List Bool} {r:AZ},ms.headD .ro= .mu own->1000*i+500<=r.tag->r.tag<1000*i+1000->r.new=v.cells[r.tag-(1000*i+500)]?-> ∀v',IL ms0 vs0 r.tag=some v'->r.new=some v':=by
    intro own r hm t1 t2 hn v' hp;unfold IL at hp;split at hp
    ·rw[show r.tag/1000=i from by omega,MM,<-CF,hm]at hp;simp only at hp;split at hp
     ·rw[hn,show r.tag-(1000*i+500)=r.tag % 1000-500 from by omega];exact hp
     ·cases hp
    ·cases hp
   have pinVa:∀{own:List Bool} {r:AZ},ms.headD .ro= .va own->1000*i<=r.tag->r.tag<1000*i+1000-> ∀v',IL ms0 vs0 r.tag=some v'->r.new=some v':=by
    intro own r hm t1 t2 v' hp;unfold IL at hp;split at hp
    ·rw[show r.tag/1000=i from by omega,MM,<-CF,hm]at hp;simp at hp
    ·cases hp
   cases hm:ms.headD .ro with
   |ro=>
    rw[hm]at h1 Bi;simp only[ZW,Af,A0]at h1;obtain⟨rfl,rfl⟩:=h1;have hhh:hh=[]:=by rcases Bi with⟨_,h⟩|⟨_,_,_,h⟩<;>exact h
    subst hhh;by_cases B7:lo.headD false=true
    ·exact fin [] rfl rfl (by simp) (by simp) (by simp) λc' F5 A3 hl=>⟨by rw[if_pos B7];exact .lent (by rw[F5.ρ,ET];exact hl hm) .nil,by simp⟩
    ·rcases Bi with⟨g1,_⟩|⟨h,_⟩
     ·exact fin [] rfl rfl (by simp) (by simp) (by simp) λc' F5 A3 _=>⟨by rw[if_neg B7];exact .e (f:=f) (by rw[F5.w,F5.ρ,ET];exact g1) A3 .nil,by simp⟩
     ·exact absurd h B7
   |va own=>
    rw[hm]at h1 Bi
    replace Bi:=Bi.resolve_right λh=>by cases h.2.1
    obtain⟨r1,a1,a2,a3,a4,a4',a5⟩:=zwV (c:=c) (by omega) h1 Bi ET;exact fin r1 a1 a2 (λr hr=>by have:=a3 r hr;exact⟨by omega,this.2⟩) a4 (λr hr=>by have:=a3 r hr;exact pinVa hm (by omega) this.2.1) λc' F5 A3 _=>a5 c' F5 A3
   |mu own=>
    rw[hm]at h1 Bi
    replace Bi:=Bi.resolve_right λh=>by cases h.2.1
    obtain⟨r1,a1,a2,a3,a4,a4',a5⟩:=zwV (c:=c) (by omega) h1 Bi ET;exact fin r1 a1 a2 (λr hr=>by have:=a3 r hr;exact⟨by omega,this.2⟩) a4 (λr hr=>by have:=a3 r hr;exact pinMu hm this.1 this.2.1 (a4' r hr)) λc' F5 A3 _=>a5 c' F5 A3
   |bx own own'=>
    rw[hm]at h1 Bi
    replace Bi:=Bi.resolve_right λh=>by cases h.2.1
    obtain⟨ty,b,C,ys,h9,g1,rfl,g3,g4,rfl,g6,rfl⟩:=Bi;simp only[ZW,g1]at h1;split at h1
    ·cases h1
    rename_i hle;simp only[Af,A0]at h1;obtain⟨rfl,rfl⟩:=h1;obtain⟨recs,e1,e2,e3,e4,e4',e5⟩:=Tu (c:=c) (nx:=1000*i+1) (mk:=Ec (.deref (.var i)) true) g6 0 (Yd (by simp only[E.den]at ET ⊢;rw[ET];rfl));refine fin (⟨1000*i,some (.pointer (some ⟨b,0,none⟩)),[b], .box ty (Aq P ty) (Dn P (1000*i+1) (Ec (.deref (.var i)) true) 0 (Bc P ty) own).1⟩::recs) (by simp[e1,AZ.pair]) (by simp[e2]) (λr hr=> ?_) ?_ (λr hr v' hp=> ?_) λc' F5 A3 _=> ?_
    ·rcases Ag.1 hr with rfl|hr
     ·simp
     ·have:=e3 r hr;exact⟨by omega,by omega,this.2.2⟩
    ·simp only[List.map_cons,List.nodup_cons];refine⟨λhm=> ?_,e4⟩;obtain⟨r,hr,KZ⟩:=List.mem_map.1 hm;have:=e3 r hr;omega
    ·rcases Ag.1 hr with rfl|hr
     ·unfold IL at hp;simp only at hp;split at hp
      ·rw[show 1000*i/1000=i from by omega,MM,<-CF,hm]at hp;simp at hp;simpa using hp
      ·cases hp
     ·have h3:=e3 r hr;unfold IL at hp;split at hp
      ·rw[show r.tag/1000=i from by omega,MM,<-CF,hm]at hp;simp only at hp;split at hp
       ·omega
       ·cases hp
      ·cases hp
    ·obtain⟨q1,q2⟩:=e5 c' (F5.mono λr hr=>by simp[hr]) A3;obtain⟨k1,k2,k3⟩:=F5.new _ (List.mem_cons_self ..) _ rfl;have kg:=F5.G _ (List.mem_cons_self ..);simp only at k1 k3 kg;refine⟨.dq k1 k3 .nil,λr hr=> ?_⟩;rcases Ag.1 hr with rfl|hr
     ·exact⟨b,C,k1,k3,by rw[kg],by rw[kg],by rw[F5.w];exact g3,g4,q1⟩
     ·exact q2 r hr
  ·cases h
end
section
variable {P:Program} {c:Cx} {n:Nat} {a:Act} {τ:St}
theorem zQ7(h:Rel c n (BX τ) (AQ τ.hp) a):EH c (AQ τ.hp):=λt e hr=>h.ents t e hr
theorem zFg{hp:Nat->Option Ai}{t:Nat}{e:Ai}(h:hp t=some e)(hn:∀hs f,e≠ .gd hs f):look hp [] t=some e:=by
 simp only[look,h,Aa,Me]
 all_goals (cases e<;>first|rfl|exact absurd rfl (hn _ _))
theorem zxe(h:Rel c n (BX τ) (AQ τ.hp) a){u g:Nat}{e z:Nat}{x:E}{d:Bool}(hu:AQ τ.hp u=some (.row e z g x d)):c.K u g/\ ∃N,Dd c.w e z (c.H u g) (x.den c.ρ) (c.G u).top N/\(∀b∈N,c.ok b)/\(d=true->N=[]):=by obtain⟨p1,p2,N,p3,p4,p5,_⟩:=h.ents u _ (by rw[hu];rfl);exact⟨p1,N,p3,p4,λhd=>(p5 hd).1⟩
theorem zFF{t e:TypeId}{d:Bool}{N:List Nat}(hd:d=true->N=[])(h:Ch P e=true/\d=true\/Ch P e=false/\(DJ P t).isNone=true):Ch P e=true/\N=[]\/Ch P e=false/\DJ P t=none:=by
 rcases h with⟨h1,h2⟩|⟨h1,h2⟩
 ·exact .inl ⟨h1,hd h2⟩
 ·exact .inr ⟨h1,by simpa using h2⟩
theorem jO(h:Rel c n (BX τ) (AQ τ.hp) a):∀(ts:List TypeId) {fl:List Bool} {cs:List SV} {l:List Nat} {us:List Value} {xs:EL} {m:Nat},NH P τ ts fl cs=some l->SR c cs us->CY (AQ τ.hp) [] m cs=some xs->m<=Bb->
  ∃f,CA P c.w ts fl us (xs.den c.ρ) f (l.flatMap λt=>(c.G t).top)/\ ∀b∈f,c.gp (Lr P τ ts fl cs) b
 | [],fl,[],l,us,xs,m,ho,hs,hx,hm=>by
  simp[NH]at ho;subst ho;cases hs;cases m with
  |zero=>simp[CY]at hx
  |succ m=>simp[CY]at hx;subst hx;exact⟨[], .nil,by simp⟩
 | [],fl,s::cs,l,us,xs,m,ho,hs,hx,hm=>by simp[NH]at ho
 |t::ts,fl,[],l,us,xs,m,ho,hs,hx,hm=>by simp[NH]at ho
 |t::ts,fl,s::cs,l,[],xs,m,ho,hs,hx,hm=>by have:=hs.len;simp at this
 |t::ts,fl,s::cs,l,v::us,xs,m,ho,hs,hx,hm=>by
  obtain⟨j,y,ys,rfl,hy,DF,rfl⟩:=LZ hx;obtain⟨r1,r2⟩:=hs.dh;unfold NH at ho;split at ho
  ·cases ho
  rename_i l' DE;obtain⟨f,q1,q2⟩:=jO h ts DE r2 DF (by omega);split at ho
  ·rename_i e hf BK;have GH:Lr P τ (t::ts) fl (s::cs)=Lr P τ ts fl.tail cs:=by
    simp only[Lr,hf,BK,Option.isSome_some,Bool.and_self,if_true,List.nil_append]
   split at ho
   ·cases ho
   rename_i hz;split at ho
   ·simp only[Af]at ho;subst ho;cases r1 with
    |dg _=>refine⟨f,?_,by rw[GH];exact q2⟩;rw[EL.den,Ng hy];exact CA.void hf BK (by omega) q1
   ·rename_i u g;split at ho
    ·rename_i e' z g' x d hu;split at ho
     ·rename_i hh;obtain⟨rfl,rfl,rfl,H7⟩:=hh;simp only[Af]at ho;subst ho;obtain⟨p1,N,p2,p3,p4⟩:=zxe h hu;have H7:=zFF p4 H7;have hl:=zFg hu (by simp);have Ip:y=x:=by
       cases j with
       |zero=>simp[BI]at hy
       |succ j=>simp[BI,JJ,hl]at hy;exact hy.symm
      subst Ip;have hv:c.H u g=v:=by
       cases r1 with
       |own _ k2 _=>exact k2
      rw[hv]at p2;refine⟨N++f,CA.own hf BK H7 p2 q1,λb hb=> ?_⟩;rw[GH];rcases Ae.1 hb with hb|hb
      ·exact .inl (p3 b hb)
      ·exact q2 b hb
     ·cases ho
    ·rename_i e' z dl g' ep x hu;split at ho
     ·rename_i hh;obtain⟨rfl,GO,D2⟩:=hh;have D2:=T0 D2;simp only[Af]at ho;subst ho;obtain⟨p1,_,_,p2,_⟩:=h.ents u _ (by rw[hu];rfl);have hl:=zFg hu (by simp);have Ip:y=x:=by
       cases j with
       |zero=>simp[BI]at hy
       |succ j=>simp[BI,JJ,hl]at hy;exact hy.symm
      subst Ip;have hv:c.H u g=v:=by
       cases r1 with
       |own _ k2 _=>exact k2
      rw[hv]at p2;exact⟨f,CA.deep hf BK GO D2 p2 q1,by rw[GH];exact q2⟩
     ·cases ho
    ·cases ho
   ·cases ho
  ·rename_i DW;simp only[Af]at ho;subst ho;have hn:fl.headD false=true->CH P t=none:=λhf=>by
    cases BK:CH P t with
    |none=>rfl
    |some e=>exact absurd BK (DW e hf)
   obtain⟨f1,p1,p2⟩:=Je (zQ7 h) (Fw _) j hy r1 Bb (by omega);refine⟨f1++f,CA.rd hn p1 q1,λb hb=> ?_⟩;have GH:Lr P τ (t::ts) fl (s::cs)=Cg (AQ τ.hp) [] (Bb+1) [s]++Lr P τ ts fl.tail cs:=by
    have:(fl.headD false&&(CH P t).isSome)=false:=by
     cases hf:fl.headD false with
     |false=>rfl
     |true=>rw[hn hf];rfl
    simp only[Lr,this,A7,if_false]
   rw[GH];rcases Ae.1 hb with hb|hb
   ·exact(p2 b hb).mono λt ht=>by simp[ht]
   ·exact(q2 b hb).mono λt ht=>by simp[ht]
theorem zEV(h:Rel c n (BX τ) (AQ τ.hp) a){t:TypeId}{fl:List Bool}{s:SV}{l:List Nat}{v:Value}{x:E}{m:Nat}(ho:sG P τ t fl s=some l)(hs:SR c [s] [v])(hx:BI (AQ τ.hp) [] m s=some x)(hm:m<Bb):
  ∃f,DI P c.w t fl v (x.den c.ρ) f (l.flatMap λt=>(c.G t).top)/\ ∀b∈f,c.gp (sJ P τ t fl s) b:=by
 unfold sG at ho;unfold DI sJ;split at ho
 ·rename_i hf;simp only[hf,if_true];split at ho
  ·rename_i AN;split at ho
   ·rename_i cs;obtain⟨k,lx,rfl,hl,rfl⟩:=Yt hx;cases hs with
    |agg h9 h1 h8=>rename_i as_;obtain⟨f,q1,q2⟩:=jO (P:=P) h (Bc P t) ho h1 hl (by omega);exact⟨f,⟨as_,lx.den c.ρ,by rw[if_pos AN];exact⟨rfl,rfl,h9⟩,q1⟩,by rw[if_pos AN];exact q2⟩
   ·cases ho
  ·rename_i AN;have KR:CY (AQ τ.hp) [] (m+1) [s]=some (.cons x .nil):=by
    cases m with
    |zero=>simp[BI]at hx
    |succ m=>simp only[CY,hx]
   obtain⟨f,q1,q2⟩:=jO (P:=P) h (Bc P t) ho hs KR (by omega);exact⟨f,⟨[v],[x.den c.ρ],by rw[if_neg AN];exact⟨rfl,rfl⟩,q1⟩,by rw[if_neg AN];exact q2⟩
 ·rename_i hf;simp only[hf,if_false,A7];simp only[Af]at ho;subst ho;obtain⟨f,p1,p2⟩:=Je (zQ7 h) (Fw _) m hx hs Bb (by omega);exact⟨f,⟨p1,rfl⟩,p2⟩
theorem zuU(h:Rel c n (BX τ) (AQ τ.hp) a):∀(ts:List TypeId) {fl:List Bool} {ss:List SV} {l:List Nat} {vs:List Value} {xs:EL} {m:Nat},Q1 P τ ts fl ss=some l->SR c ss vs->CY (AQ τ.hp) [] m ss=some xs->m<=Bb->
  ∃f,Lt P c.w ts fl vs (xs.den c.ρ) f (l.flatMap λt=>(c.G t).top)/\ ∀b∈f,c.gp (Wh P τ ts fl ss) b
 | [],fl,[],l,vs,xs,m,ho,hs,hx,hm=>by
  simp[Q1]at ho;subst ho;cases hs;cases m with
  |zero=>simp[CY]at hx
  |succ m=>simp[CY]at hx;subst hx;exact⟨[], .nil,by simp⟩
 | [],fl,s::cs,l,us,xs,m,ho,hs,hx,hm=>by simp[Q1]at ho
 |t::ts,fl,[],l,us,xs,m,ho,hs,hx,hm=>by simp[Q1]at ho
 |t::ts,fl,s::cs,l,[],xs,m,ho,hs,hx,hm=>by have:=hs.len;simp at this
 |t::ts,fl,s::cs,l,v::us,xs,m,ho,hs,hx,hm=>by
  obtain⟨j,y,ys,rfl,hy,DF,rfl⟩:=LZ hx;obtain⟨r1,r2⟩:=hs.dh;unfold Q1 at ho;split at ho
  ·rename_i a1 b1 h1 h2;simp only[Af]at ho;subst ho;obtain⟨f1,p1,p2⟩:=zEV (P:=P) h h1 r1 hy (by omega);obtain⟨f2,q1,q2⟩:=zuU h ts h2 r2 DF (by omega);refine⟨f1++f2,by rw[List.flatMap_append];exact .cons p1 q1,λb hb=> ?_⟩;simp only[Wh];rcases Ae.1 hb with hb|hb
   ·exact(p2 b hb).mono λt ht=>by simp[ht]
   ·exact(q2 b hb).mono λt ht=>by simp[ht]
  ·cases ho
end
section
variable {P:Program} {c:Cx} {n:Nat} {a:Act} {τ:St}
theorem zK9(h:Rel c n (BX τ) (AQ τ.hp) a){t:TypeId}{b o:Nat}{ty:TypeId}{g:Bool}{cs:List SV}{s:SV}{v:Value}(BC:DV P t=true)(hl:AQ τ.hp b=some (.box ty g cs))(Bd:Qd P t cs o=some s)(hr:SR c [.dq b o] [v]):
  ∃q u,v= .pointer (some ⟨q,o,none⟩)/\(loadVar t ⟨q,o,none⟩).run P c.w= .ok u c.w/\SR c [s] [u]:=by
 cases hr with
 |dq h1 h2 h8=>
  rename_i q;obtain⟨q',C,_,e2,e3,e4,e5,e5',e6⟩:=h.ents b _ (by rw[hl];rfl);rw[h2]at e2;cases e2;have key:∀vs:List Value,(Aq P t=true->vs.length=P.cellsOf t)->(Aq P t=false->vs.length=1)->(∀j u,vs[j]?=some u->c.w.cell? ⟨q,o+j,none⟩=some u)->(loadVar t ⟨q,o,none⟩).run P c.w= .ok (if Aq P t then .agg vs.toArray else vs.headD undef) c.w:=λvs k1 k2 k3=>by have:=TR (P:=P) (w:=c.w) (b:=q) (off:=o) BC vs k1 k2 k3;simpa[Instr.loadAt,Instr.sureAddr]using this
  unfold Qd at Bd;have hlen:=e6.len;split at Bd
  ·rename_i AN;split at Bd
   ·rename_i hle;simp at Bd;subst Bd;obtain⟨r1,r2⟩:=e6.split o;obtain⟨r3,r4⟩:=r2.split (P.cellsOf t);have:=SR.agg (cs:=BS.of ((cs.drop o).take (P.cellsOf t))) (λu hu=>e5' u (BR (BD hu))) (by rw[BS.ax];exact r3) .nil;refine⟨q, .agg ((C.toList.drop o).take (P.cellsOf t)).toArray,rfl,?_,this⟩;rw[key ((C.toList.drop o).take (P.cellsOf t)) (λ_=>by simp at hlen ⊢;omega) (λh=>by rw[AN]at h;cases h) (λj u hu=>by
     rw[EO e5];rw[List.getElem?_take]at hu;split at hu
     ·simpa using hu
     ·cases hu)]
    simp[AN]
   ·cases Bd
  ·rename_i AN;have AN:Aq P t=false:=by simpa using AN
   obtain⟨u,hu,r⟩:=e6.get Bd;refine⟨q,u,rfl,?_,r⟩;rw[key [u] (λh=>by rw[AN]at h;cases h) (λ_=>rfl) (λj z hz=>by
    cases j with
    |zero=>simp at hz;subst hz;rw[EO e5];simpa using hu
    |succ j=>simp at hz)]
   simp[AN]
theorem zrr{α:Type}{g:α->Sem Value}{w:World}:∀(l:List α) (us:List Value),l.length=us.length->(∀(i:Nat) (x:α) (u:Value),l[i]?=some x->us[i]?=some u->(g x).run P w= .ok u w)->(l.mapM g).run P w= .ok us w
 | [],[],_,_=>by simp
 | [],_::_,h,_=>by simp at h
 |_::_,[],h,_=>by simp at h
 |x::l,u::us,h,hg=>by have h0:=hg 0 x u rfl rfl;have ih:=zrr l us (by simpa using h) λi y z hy hz=>hg (i+1) y z (by simpa using hy) (by simpa using hz);simp[List.mapM_cons,h0,ih]
theorem zDg(h:Rel c n (BX τ) (AQ τ.hp) a)(fn:Func){rs:List SV}(FV:fn.results.toList.mapM (Ub P τ)=some rs):
  ∃us,SR c rs us/\rs.length=us.length/\(results fn a.tmps).run P c.w= .ok (match us with| [u]=>u|us=> .tuple us.toArray) c.w:=by
 have one:∀(r:ResultVar) (s:SV),Ub P τ r=some s-> ∃u,SR c [s] [u]/\(match r with| .tmp t=>(pure (a.tmps.getD t undef):Sem Value)| .cell b t=>do loadVar t (<-asAddr (a.tmps.getD b undef))).run P c.w= .ok u c.w:=by
  intro r s hr;cases r with
  |tmp t=>simp only[Ub,Af]at hr;subst hr;exact⟨_,h.ee t,by simp⟩
  |cell b ty=>
   simp only[Ub]at hr;split at hr
   ·rename_i b' o Dw;split at hr
    ·rename_i ty' g cs hl;split at hr
     ·rename_i BC;have hs:=h.ee b;rw[Dw]at hs;obtain⟨q,u,hv,A6,MH⟩:=zK9 h BC hl hr hs;exact⟨u,MH,by simp only[hv];simp[asAddr,A6]⟩
     ·cases hr
    ·cases hr
   ·cases hr
 have list:∀(l:List ResultVar) (rs:List SV),l.mapM (Ub P τ)=some rs-> ∃us,SR c rs us/\l.length=us.length/\ ∀(i:Nat) (x:ResultVar) (u:Value),l[i]?=some x->us[i]?=some u->(match x with| .tmp t=>(pure (a.tmps.getD t undef):Sem Value)| .cell b t=>do loadVar t (<-asAddr (a.tmps.getD b undef))).run P c.w= .ok u c.w:=by
  intro l
  induction l with
  |nil=>intro rs FV;simp at FV;subst FV;exact⟨[], .nil,rfl,by simp⟩
  |cons r l ih=>
   intro rs FV;rw[List.mapM_cons]at FV;simp only[Option.bind_eq_bind,AA,Option.pure_def,Af]at FV;obtain⟨s,hs,rs',oJ,rfl⟩:=FV;obtain⟨u,h1,h2⟩:=one r s hs;obtain⟨us,h3,h4,h5⟩:=ih rs' oJ;refine⟨u::us,h1.cons h3,by simp[h4],λi x v hx hv=> ?_⟩;cases i with
   |zero=>simp at hx hv;subst hx;subst hv;exact h2
   |succ i=>exact h5 i x v (by simpa using hx) (by simpa using hv)
 obtain⟨us,h1,h2,h3⟩:=list _ _ FV;refine⟨us,h1,h1.len,?_⟩;have hm:=zrr (P:=P) (w:=c.w) fn.results.toList us h2 h3;simp only[results,Array.mapM_eq_mapM_toList,map_eq_pure_bind,Sem.run_bind]
 erw [hm]
 simp only[Result.andThen_ok,Sem.run_pure]
 match us with
 | []=>simp
 | [u]=>simp
 |u::v::us=>simp
theorem zuz(h:Rel c n (BX τ) (AQ τ.hp) a){w0:World}{v:Value}{ms:List PM}{vs:List Value}(E7:∀t,c.A.pin t=IL ms vs t){i:Nat}(hi:i<=99){own0:List Bool}(hv:vs[i]?=some v)(hm:(ms[i]?).getD .ro= .mu own0){mk:Nat->E}:∀(ts:List TypeId) (j:Nat) {fl:List Bool} {us:List Value} {ys:List AV} {rf hs:List Nat} {es:List E} {l:List Nat},
  CA P w0 ts fl us ys rf hs->j+ts.length<=400->(∀k u,us[k]?=some u->(∃e,(0+j+k,e)∈(Dn P 0 (Ec (.var 0) true) j ts fl).2)->v.cells[j+k]?=some u)->Wm P τ i mk j ts fl=some (es,l)-> ∃f o,FO P c.w ts fl us (es.map (E.den c.ρ)) f o/\(o=l.flatMap λt=>(c.G t).top)/\ ∀b∈f,c.ok b
 | [],j,fl,us,ys,rf,hs,es,l,hc,hle,Bw,he=>by simp[Wm]at he;obtain⟨rfl,rfl⟩:=he;cases hc;exact⟨[],[], .nil,rfl,by simp⟩
 |t::ts,j,fl,us,ys,rf,hs,es,l,hc,hle,Bw,he=>by
  unfold Wm at he;split at he
  ·cases he
  rename_i xs us' DE;simp only[AH]at hle;have sub:∀{u:Value} {us1:List Value},us=u::us1-> ∀k z,us1[k]?=some z->(∃e,(0+(j+1)+k,e)∈(Dn P 0 (Ec (.var 0) true) (j+1) ts fl.tail).2)->v.cells[j+1+k]?=some z:=by
   rintro u us1 rfl k z hz ⟨e,he⟩;have:=Bw (k+1) z (by simpa using hz) ⟨e,by
    simp only[Dn];split
    ·rw[show 0+j+(k+1)=0+(j+1)+k from by omega];exact List.mem_cons_of_mem _ he
    ·rw[show 0+j+(k+1)=0+(j+1)+k from by omega];exact he⟩
   rw[show j+1+k=j+(k+1)from by omega];exact this
  have fin:∀{u:Value} {us1:List Value} {ys1:List AV} {rf1 BO:List Nat} {el:TypeId},us=u::us1->fl.headD false=true->CH P t=some el->CA P w0 ts fl.tail us1 ys1 rf1 BO-> ∃f o,FO P c.w (t::ts) fl us (es.map (E.den c.ρ)) f o/\(o=l.flatMap λt=>(c.G t).top)/\ ∀b∈f,c.ok b:=by
   rintro u us1 ys1 rf1 BO el rfl h1 h2 h4;obtain⟨f0,o,q1,q2,q3⟩:=zuz h E7 hi hv hm ts (j+1) h4 (by omega) (sub rfl) DE;rw[h1,h2]at he;simp only at he;have Rm:v.cells[j]?=some u:=by have:=Bw 0 u rfl ⟨_,by simp only[Dn,h1,h2,Nat.zero_add,Nat.add_zero];exact List.mem_cons_self ..⟩;simpa using this
   have Zg:c.A.pin (1000*i+500+j)=some u:=by
    rw[E7];unfold IL;have e1:(1000*i+500+j)/1000=i:=by omega
    have e2:(1000*i+500+j) % 1000=500+j:=by omega
    rw[if_pos (by unfold Ow;simp only[e2,Ac,AR,Bool.or_eq_true];omega),e1,e2,hv,hm];simp only;rw[if_pos (by omega),show 500+j-500=j from by omega];exact Rm
   split at he
   ·rename_i e' z y' d hu;split at he
    ·rename_i hh;obtain⟨rfl,rfl,H7⟩:=hh;simp only[Af,A0]at he;obtain⟨rfl,rfl⟩:=he;obtain⟨p1,N,p2,p3,p4⟩:=zxe h hu;have hH:=(h.base.pins _ u Zg).2 p1;rw[hH]at p2;refine⟨_,_, .own h1 h2 (zFF p4 H7) p2 q1,by simp[q2],λb hb=> ?_⟩;rcases Ae.1 hb with hb|hb
     ·exact p3 b hb
     ·exact q3 b hb
    ·cases he
   ·rename_i e' z dl ep y' hu;split at he
    ·rename_i hh;obtain⟨GO,D2⟩:=hh;have D2:=T0 D2;simp only[Af,A0]at he;obtain⟨rfl,rfl⟩:=he;obtain⟨p1,_,_,p2,_⟩:=h.ents _ _ (by rw[hu];rfl);have hH:=(h.base.pins _ u Zg).2 p1;rw[hH]at p2;refine⟨_,_, .deep h1 h2 GO D2 p2 q1,by simp[q2],q3⟩
    ·cases he
   ·cases he
  cases hc with
  |own h1 h2 _ _ h4=>exact fin rfl h1 h2 h4
  |deep h1 h2 _ _ _ h4=>exact fin rfl h1 h2 h4
  | @rd _ _ _ u us1 y ys1 f rf1 BO h1 h3 h4=>
   obtain⟨f0,o,q1,q2,q3⟩:=zuz h E7 hi hv hm ts (j+1) h4 (by omega) (sub rfl) DE;split at he
   ·rename_i e hf BK;rw[h1 hf]at BK;cases BK
   ·simp only[Af,A0]at he;obtain⟨rfl,rfl⟩:=he;exact⟨f0,o, .skip h1 q1,q2,q3⟩
end
section
variable {P:Program} {c:Cx} {n:Nat} {a:Act} {τ:St}
theorem zuZ(h:Rel c n (BX τ) (AQ τ.hp) a){w0:World}{ms0:List PM}{vs0:List Value}(E7:∀t,c.A.pin t=IL ms0 vs0 t):∀(ts:List TypeId) (i:Nat) {ms:List PM} {lo:List Bool} {vs:List Value} {xs:List AV} {rf lf hs:List Nat} {bx:List E} {us:List Nat},YI P τ i ts ms=some (bx,us)->Eb P w0 ts ms lo vs xs rf lf hs->
  (∀k,ms[k]?=ms0[i+k]?)->(∀k,vs[k]?=vs0[i+k]?)-> ∃f o,DY P c.w ts ms vs (bx.map (E.den c.ρ)) f o/\o=us.flatMap (λt=>(c.G t).top)/\ ∀b∈f,c.gp (Qe P τ i ts ms) b
 | [],i,ms,lo,vs,xs,rf,lf,hs,bx,us,he,ha,_,_=>by simp[YI]at he;obtain⟨rfl,rfl⟩:=he;exact⟨[],[], .nil,rfl,by simp⟩
 |t::ts,i,ms,lo,vs,xs,rf,lf,hs,bx,us,he,ha,E5,LI=>by
  obtain⟨v,vs,x,xs,f,hh,rf,lf,hs,rfl,E9,Bi⟩:∃v vs' x xs' f hh rf' lf' A9,vs=v::vs'/\Eb P w0 ts ms.tail lo.tail vs' xs' rf' lf' A9/\(tG P w0 t (ms.headD .ro) v x f hh\/ms.headD .ro= .ro):=by
   cases ha with
   |cons h1 h2=>exact⟨_,_,_,_,_,_,_,_,_,rfl,h2, .inl h1⟩
   | @lent _ _ _ _ _ _ x _ _ _ _ _ h1 h2 h3 h4=>exact⟨_,_,x,_,[],[],_,_,_,rfl,h4, .inr h2⟩
  have CF:ms.headD .ro=(ms0[i]?).getD .ro:=by have:=E5 0;rw[Nat.add_zero]at this;rw[<-this];cases ms<;>rfl
  have MM:vs0[i]?=some v:=by have:=LI 0;simpa using this.symm
  unfold YI at he;split at he
  ·cases he
  rename_i bx' us' DE;obtain⟨f2,o2,b1,b2,b3⟩:=zuZ h E7 ts (i+1) DE E9 (λk=>by rw[show i+1+k=i+(k+1)from by omega,<-E5 (k+1)];cases ms<;>simp) (λk=>by rw[show i+1+k=i+(k+1)from by omega,<-LI (k+1)];simp);have see2:∀b∈f2,c.gp (Qe P τ i (t::ts) ms) b:=λb hb=>(b3 b hb).mono λt ht=>by simp only[Qe,Ae];exact .inr ht
  split at he
  ·cases he
  rename_i hi;split at he
  ·rename_i hm;simp only[Af,A0]at he;obtain⟨rfl,rfl⟩:=he;exact⟨f2,o2, .ro hm b1,b2,see2⟩
  ·rename_i own hm;simp only[Af,A0]at he;obtain⟨rfl,rfl⟩:=he;exact⟨f2,o2, .va hm b1,b2,see2⟩
  ·rename_i own hm;split at he
   ·cases he
   rename_i hle;split at he
   ·rename_i es l GK;simp only[Af,A0]at he;obtain⟨rfl,rfl⟩:=he;rw[hm]at Bi;obtain⟨us0,ys0,hg,hc⟩:=Bi.resolve_right λh=>by cases h
    obtain⟨f1,o1,q1,q2,q3⟩:=zuz h E7 (i:=i) (by omega) MM (by rw[<-CF];exact hm) (Bc P t) 0 hc (by omega) (λk u hu he=>by
     rw[Nat.zero_add];split at hg
     ·obtain⟨rfl,_,_⟩:=hg;simpa[Value.cells]using hu
     ·obtain⟨rfl,_⟩:=hg;cases k with
      |zero=>simp at hu;subst hu;rw[hc.j0 (nx:=0) (mk:=Ec (.var 0) true) (j:=0) 0 v rfl he];rfl
      |succ k=>simp at hu) GK
    refine⟨f1++f2,o1++o2,DY.mu (us:=us0) (ys:=es.map (E.den c.ρ)) hm ?_ q1 b1,by rw[q2,b2,List.flatMap_append],λb hb=>(Ae.1 hb).elim (λhb=> .inl (q3 b hb)) (see2 b)⟩;split at hg
    ·rename_i AN;rw[if_pos AN,if_pos AN];exact⟨hg.1,by simp only[E.den,EL.ez]⟩
    ·rename_i AN;rw[if_neg AN,if_neg AN];obtain⟨rfl,_⟩:=hg;refine⟨rfl,?_⟩;have mlen:∀{ts:List TypeId} {fl:List Bool} {us:List Value} {ys:List AV} {f o:List Nat},FO P c.w ts fl us ys f o->us.length=ys.length:=by
      intro ts fl us ys f o Vz
      induction Vz<;>simp_all
     have:=mlen q1
     match es,this with
     | [e],_=>rfl
   ·cases he
  ·rename_i own own' hm;rw[hm]at Bi;obtain⟨ty,b,C0,ys0,h9,g1,rfl,g3,g4,rfl,g6,rfl⟩:=Bi.resolve_right λh=>by cases h
   split at he
   ·rename_i ty1 ty2 g cs EK Ju;rw[g1]at EK;cases EK;split at he
    ·cases he
    rename_i BU;have BU:ty2=ty:=by simpa using BU
    subst BU;split at he
    ·rename_i es vs' Jw oS;simp only[Af,A0]at he;obtain⟨rfl,rfl⟩:=he;obtain⟨b',C,p1,p2,p3,p4,p5,p6,p7⟩:=h.ents _ _ (by rw[Ju];rfl);have Zg:c.A.pin (1000*i)=some (.pointer (some ⟨b,0,none⟩)):=by
      rw[E7];unfold IL;have e1:(1000*i)/1000=i:=by omega
      have e2:(1000*i) % 1000=0:=by omega
      rw[if_pos (by unfold Ow;simp only[e2,Ac,AR,Bool.or_eq_true];simp;omega),e1,e2,MM,<-CF,hm];rfl
     have hH:=(h.base.pins _ _ Zg).2 p1;rw[p2]at hH;cases hH;obtain⟨f1,q1,q2⟩:=jO (P:=P) h (Bc P ty2) oS p7 Jw (AB _);refine⟨f1++f2,_,DY.bx hm g1 rfl p5 p6 (by simp only[E.den]) q1 b1,by rw[b2];simp[p3],λx hx=> ?_⟩;rcases Ae.1 hx with hx|hx
     ·refine(q2 x hx).mono λt ht=> ?_;simp only[Qe,hm,g1,Ju,Ae];exact .inl ht
     ·exact see2 x hx
    ·cases he
   ·cases he
end
theorem zrP{P:Program}:∀(ts:List TypeId) (i:Nat) (ms:List PM) (lo:List Bool) (ss:List SV) (l:List (Nat × Ai)),O7 P i ts ms lo=some (ss,l)-> ∀t x,(t,x)∈l-> ∀gs f,x≠ .gd gs f
 | [],i,ms,lo,ss,l,h,t,x,hx=>by simp[O7]at h;obtain⟨_,rfl⟩:=h;simp at hx
 |t0::ts,i,ms,lo,ss,l,h,t,x,hx=>by
  unfold O7 at h;split at h
  ·rename_i s1 l1 ss1 l2 q1 q2;simp only[Af,A0]at h;obtain⟨_,rfl⟩:=h;rcases Ae.1 hx with hx|hx
   ·have hV:∀(b:Nat) (own:List Bool),UD P i b t0 own=some (s1,l1)-> ∀gs f,x≠ .gd gs f:=by
     intro b own hh;unfold UD at hh;simp only at hh;split at hh
     ·cases hh
     ·split at hh
      ·simp only[Af,A0]at hh;obtain⟨_,rfl⟩:=hh;intro gs f;exact QL _ _ _ _ _ hx
      ·split at hh
       ·simp only[Af,A0]at hh;obtain⟨_,rfl⟩:=hh;intro gs f;exact QL _ _ _ _ _ hx
       ·cases hh
    unfold ZW at q1;split at q1
    ·simp only[Af,A0]at q1;rw[<-q1.2]at hx;simp at hx
    ·exact hV _ _ q1
    ·exact hV _ _ q1
    ·split at q1
     ·simp only at q1;split at q1
      ·cases q1
      ·simp only[Af,A0]at q1;obtain⟨_,rfl⟩:=q1;rcases Ag.1 hx with hx|hx
       ·cases hx;simp
       ·intro gs f;exact QL _ _ _ _ _ hx
     ·cases q1
   ·exact zrP _ _ _ _ _ _ q2 t x hx
  ·cases h
theorem zLb{P:Program}{sg:BY}(Zc:P.follows .mixedOrders=true)(JE:∀f s,sg f=some s->f<1000000){f:Nat}{s:IM}{fn:Func}{t:Tr}{xs:List AV}{r:AV}(GG:P.funcs[f]?=some fn)(hs:sg f=some s) (GL:(fn.name== "runtime.NumGoroutine")=false)
  (EY:WN P sg f=some t) (Cz:Nv P fn s r=true) (hlen:xs.length=fn.params.size+fn.nfree) (hd:t.den (Cj P sg) (λr'=>r'=r) (λ_ _ _ _=>False) [] xs):UM P s f xs r:=by
 unfold WN at EY;simp only[GG,hs]at EY;split at EY
 ·rename_i code σ Ex BL;split at EY
  ·rename_i t0 hex;have Cr:s.ft.length<=fn.nfree:=by
    have BL:=BL;unfold rK at BL;split at BL
    ·cases BL
    ·simp only at BL;split at BL
     ·cases BL
     ·rename_i AT;simp only[Bool.or_eq_true,AR,not_or,Nat.not_lt]at AT;exact AT.2
   refine⟨fn,GG,by rw[Ex];rfl,GL,Cz,hlen,Cr,λw vs rf lf A9 Aj GF KI Ii D5=> ?_⟩;unfold rK at BL;split at BL
   ·cases BL
   rename_i ss l Ck;simp only at BL;split at BL
   ·cases BL
   rename_i AT;simp only[Bool.or_eq_true,AR,not_or,Nat.not_lt]at AT;simp only[Af]at BL;subst BL;let pin:Nat->Option Value:=IL s.c8 vs;let LO:Value->AV->Prop:=λv y=> ∃f,Rd w [v] [y] f/\ ∀b∈f,¬b∈A9;let c0:Cx:={ρ:=xs,w:=w,G:=λ_=>⟨[],[]⟩,K:=λ_ _=>False,H:=λ_ _=>undef,A:=⟨λb=>b∈rf,pin,LO⟩,w0:=w,Mu:=λb=>b∈A9,U:=λ_=>False,E:=λ_=>0}
   have EM:vs.length=xs.length:=by
    have:∀{ts:List TypeId} {ms:List PM} {lo:List Bool} {vs:List Value} {xs:List AV} {rf lf hs:List Nat},Eb P w ts ms lo vs xs rf lf hs->vs.length=xs.length:=by
     intro ts ms lo vs xs rf lf hs h
     induction h<;>simp_all
    exact this Aj
   obtain⟨recs,e1,e2,e3,e4,e5,e6,e7,e8⟩:=zzH (c:=c0) (ms0:=s.c8) (vs0:=vs) (fn.params.toList++s.ft) 0 Ck Aj (λk x hx=>by simp only[E.den,Nat.zero_add];show(xs[k]?).getD .undef=x;rw[hx];rfl) (λk=>by simp) (λk=>by simp);have aft:=Cx.fc (c:=c0) (w':=w) (recs:=recs) (λt g hk=>hk.elim) e4 (λr _ _ h=>h);have hU5:∀r∈recs,r.tag<100000:=λr hr=>by have:=e3 r hr;simp only[Nat.zero_add,Av,BF]at this;omega
   let c:Cx:={c0.fj w recs with U:=λt=>t<100000}
   have U9:∀b∈rf,(c0.fj w recs).ok b:=by
    intro b hb;refine⟨λ⟨t,ht⟩=> ?_, .inl hb⟩;by_cases hT:∃r∈recs,r.tag=t
    ·obtain⟨r,hr,rfl⟩:=hT;rw[Cx.fy e4 hr]at ht;exact GF b (by rw[<-e2];exact List.mem_flatMap.2 ⟨r,hr,ht⟩) hb
    ·rw[Cx.ej λr hr hh=>hT ⟨r,hr,hh⟩]at ht;simp[c0]at ht
   have B7:∀(k:Nat) (v:Value) (x:AV),(s.c8[k]?).getD .ro= .ro->vs[k]?=some v->xs[k]?=some x->LO v x:=by
    have key:∀{ts:List TypeId} {ms:List PM} {lo:List Bool} {vs:List Value} {xs:List AV} {rf lf hs:List Nat},Eb P w ts ms lo vs xs rf lf hs-> ∀(k:Nat) (v:Value) (x:AV),(ms[k]?).getD .ro= .ro->vs[k]?=some v->xs[k]?=some x-> ∃f,Rd w [v] [x] f/\ ∀b∈f,b∈rf\/b∈lf:=by
     intro ts ms lo vs xs rf lf hs h
     induction h with
     |nil=>intro k v x _ h _;simp at h
     | @cons t ts ms lo v vs x xs f h rf lf hs Bi _ ih=>
      intro k v' x' h1 h2 h3;cases k with
      |zero=>
       have hm:ms.headD .ro= .ro:=by cases ms<;>exact h1
       rw[hm]at Bi;simp at h2 h3;subst h2;subst h3;exact⟨f,Bi.1,λb hb=> .inl (by simp[hb])⟩
      |succ k=>obtain⟨f',q1,q2⟩:=ih k v' x' (by cases ms with|nil=>rfl|cons _ _=>simpa using h1) (by simpa using h2) (by simpa using h3);exact⟨f',q1,λb hb=>(q2 b hb).imp (λh=>by simp[h]) id⟩
     | @lent t ts ms lo v vs x xs f rf lf hs _ _ hr _ ih=>
      intro k v' x' h1 h2 h3;cases k with
      |zero=>simp at h2 h3;subst h2;subst h3;exact⟨f,hr,λb hb=> .inr (by simp[hb])⟩
      |succ k=>obtain⟨f',q1,q2⟩:=ih k v' x' (by cases ms with|nil=>rfl|cons _ _=>simpa using h1) (by simpa using h2) (by simpa using h3);exact⟨f',q1,λb hb=>(q2 b hb).imp id (λh=>by simp[h])⟩
     | @free ms lo v vs x xs f rf lf hs hr _ ih=>
      intro k v' x' h1 h2 h3;cases k with
      |zero=>simp at h2 h3;subst h2;subst h3;exact⟨f,hr,λb hb=> .inl (by simp[hb])⟩
      |succ k=>obtain⟨f',q1,q2⟩:=ih k v' x' (by cases ms with|nil=>rfl|cons _ _=>simpa using h1) (by simpa using h2) (by simpa using h3);exact⟨f',q1,λb hb=>(q2 b hb).imp (λh=>by simp[h]) id⟩
    intro k v x h1 h2 h3;obtain⟨f,q1,q2⟩:=key Aj k v x h1 h2 h3;exact⟨f,q1,λb hb hh=>(q2 b hb).elim (GF b hh) (KI b hh)⟩
   obtain⟨g1,g2⟩:=e8 _ aft U9 B7;have kc:Ev (c0.fj w recs) c:=⟨rfl,rfl,λ_ _ hb=>hb,λ_ _ _=>rfl,λ_ _ hk=>⟨hk,rfl⟩,λ_ _ _=>⟨AB _,λ_=>⟨rfl,λ_ _ _=>rfl⟩⟩⟩
   have J7:fn.params.size+fn.nfree=vs.length:=by rw[EM,hlen]
   have GV:(ss++(List.range (fn.nfree-s.ft.length)).map λj=>SV.e (.var (fn.params.size+s.ft.length+j))).length=vs.length:=by rw[Av,e6,List.length_map,List.length_range,Av,BF];omega
   have g1':SR c (ss++(List.range (fn.nfree-s.ft.length)).map λj=>SV.e (.var (fn.params.size+s.ft.length+j))) vs:=by
    have:=g1.keep kc;have GU:(fn.params.toList++s.ft).length=fn.params.size+s.ft.length:=by rw[Av,BF]
    rw[show vs.length-(fn.params.toList++s.ft).length=fn.nfree-s.ft.length from by omega]at this;simpa using this
   have hG:∀t,(∃r∈recs,r.tag=t/\c.G t=⟨r.top,[]⟩)\/c.G t=⟨[],[]⟩:=λt=>by
    by_cases hT:∃r∈recs,r.tag=t
    ·obtain⟨r,hr,rfl⟩:=hT;exact .inl ⟨r,hr,rfl,Cx.fy (w':=w) e4 hr⟩
    ·exact .inr (Cx.ej (w':=w) λr hr hh=>hT ⟨r,hr,hh⟩)
   have Ie:∀r∈recs,∀b∈r.top,b∈A9:=λr hr b hb=>by rw[<-e2];exact List.mem_flatMap.2 ⟨r,hr,hb⟩
   have E3:∀b∈A9,b<w.heap.size:=by
    have:∀{ts:List TypeId} {ms:List PM} {lo:List Bool} {vs:List Value} {xs:List AV} {rf lf hs:List Nat},Eb P w ts ms lo vs xs rf lf hs-> ∀b∈hs,b<w.heap.size:=by
     intro ts ms lo vs xs rf lf hs h
     induction h with
     |nil=>simp
     |lent _ _ _ _ ih=>exact ih
     | @cons t ts ms lo v vs x xs f h rf lf hs Bi _ ih=>
      intro b hb;rcases Ae.1 hb with hb|hb
      ·cases hm:ms.headD .ro with
       |ro=>rw[hm]at Bi;rw[Bi.2]at hb;simp at hb
       |va own=>rw[hm]at Bi;obtain⟨_,_,_,hc⟩:=Bi;exact hc.inb.2 b hb
       |mu own=>rw[hm]at Bi;obtain⟨_,_,_,hc⟩:=Bi;exact hc.inb.2 b hb
       |bx own own'=>
        rw[hm]at Bi;obtain⟨_,b0,_,_,_,_,_,hh,_,_,hc,rfl⟩:=Bi;rcases Ag.1 hb with rfl|hb
        ·exact Di hh
        ·exact hc.inb.2 b hb
      ·exact ih b hb
     |free _ _ ih=>exact ih
    exact this Aj
   have A8:∀t e,AQ l t=some e-> ∃r∈recs,r.tag=t/\r.cx=e:=λt e he=>by have:=Kj he;rw[e1]at this;obtain⟨r,hr,VN⟩:=List.mem_map.1 this;simp only[AZ.pair,A0]at VN;exact⟨r,hr,VN.1,VN.2⟩
   let F:Fix:=⟨w,⟨λb=>b∈rf,pin,LO⟩,λb=>b∈A9,λt v h=>by
    simp only[pin,IL]at h;split at h
    ·assumption
    ·cases h⟩
   have hrel:Rel c fn.ntmps (BX {sl:=ss++(List.range (fn.nfree-s.ft.length)).map (λj=>SV.e (.var (fn.params.size+s.ft.length+j)))++List.replicate (fn.ntmps-(fn.params.size+fn.nfree)) .undef,hp:=l,nx:=100000,nv:=fn.params.size+fn.nfree}) (AQ l) {tmps:=vs.toArray++Array.replicate (fn.ntmps-vs.toArray.size) undef,defers:=[]}:=by
    refine⟨rfl,by simp;omega,⟨rfl,rfl,rfl,AB _,λt v hp=>⟨?_,λhk=> ?_⟩,λb _ _=>rfl,D5,λv y h=>h⟩,λi=> ?_,λt e hr=> ?_,λt hn=> ?_,⟨λt=> ?_,λt u Od b hb Cc=> ?_,λt b hb=> ?_,λt b hb=> ?_⟩,λt g hk=> ?_,λt e he=> ?_⟩
    ·have:=F.oq t v hp;unfold Ow at this;simp only[Ac,AR]at this;exact this.1
    ·rcases hk with hk|⟨r,hr,rfl,Bo,_⟩
     ·exact hk.elim
     ·exact(aft.new r hr v (e5 r hr v hp)).2.2
    ·have mI:SR c (ss++(List.range (fn.nfree-s.ft.length)).map (λj=>SV.e (.var (fn.params.size+s.ft.length+j)))++List.replicate (fn.ntmps-(fn.params.size+fn.nfree)) .undef) (vs++List.replicate (fn.ntmps-(fn.params.size+fn.nfree)) undef):=by
      refine g1'.app ?_;have:∀k,SR c (List.replicate k SV.undef) (List.replicate k undef):=by
       intro k
       induction k with
       |zero=>exact .nil
       |succ k ih=>exact .undef ih
      exact this _
     unfold BX;simp only;cases hq:(ss++(List.range (fn.nfree-s.ft.length)).map (λj=>SV.e (.var (fn.params.size+s.ft.length+j)))++List.replicate (fn.ntmps-(fn.params.size+fn.nfree)) SV.undef)[i]? with
     |none=>exact .undef .nil
     |some s'=>
      obtain⟨v',VZ,MH⟩:=mI.get hq;have:(vs.toArray++Array.replicate (fn.ntmps-vs.toArray.size) undef).getD i undef=v':=by
       rw[Array.getD_eq_getD_getElem?];have e:(vs.toArray++Array.replicate (fn.ntmps-vs.toArray.size) undef)[i]?=(vs++List.replicate (fn.ntmps-(fn.params.size+fn.nfree)) undef)[i]?:=by rw[<-Array.getElem?_toList];simp[J7]
       rw[e,VZ];rfl
      rw[this];exact MH
    ·cases hh:AQ l t with
     |none=>rw[hh]at hr;exact hr.elim
     |some e0=>
      obtain⟨r,Er,rfl,rfl⟩:=A8 t e0 hh;have BL:=(g2 r Er).keep kc rfl rfl (λg hg=>hg) (λb _=>rfl);rw[hh]at hr;cases he:r.cx with
      |gd gs e'=>rw[he]at BL hr;obtain⟨_,rfl⟩:=hr;have Bo:=(e3 r Er).2.2;exfalso;exact zrP _ _ _ _ _ _ Ck r.tag r.cx (by rw[e1];exact List.mem_map.2 ⟨r,Er,rfl⟩) _ _ he
      |_=>rw[he]at BL hr;simp only[C3]at hr;subst hr;exact BL
    ·rcases hG t with⟨r,hr,rfl,hg⟩|hg
     ·exfalso;have EI:(r.tag,r.cx)∈l:=by rw[e1];exact List.mem_map.2 ⟨r,hr,rfl⟩
      have:∃e,AQ l r.tag=some e:=by
       have:∀(l:List (Nat × Ai)),(r.tag,r.cx)∈l-> ∃e,AQ l r.tag=some e:=by
        intro l
        induction l with
        |nil=>intro h;simp at h
        |cons p l ih=>
         obtain⟨u,f'⟩:=p;intro h;simp only[AQ];split
         ·exact⟨_,rfl⟩
         ·rename_i hu;rcases Ag.1 h with h|h
          ·cases h;exact absurd rfl hu
          ·exact ih h
       exact this l EI
      obtain⟨e,he⟩:=this;obtain⟨r',Er,Oa,rfl⟩:=A8 _ _ he;have Rn:∀gs f',r'.cx≠ .gd gs f':=by intro gs f' CK;exact zrP _ _ _ _ _ _ Ck r'.tag r'.cx (by rw[e1];exact List.mem_map.2 ⟨r',Er,rfl⟩) _ _ CK
      apply hn r'.cx;rw[he];cases oH:r'.cx with
      |gd gs f'=>exact absurd oH (Rn gs f')
      |_=>simp[C3]
     ·rw[hg];simp
    ·rcases hG t with⟨r,hr,rfl,hg⟩|hg
     ·rw[hg];rw[<-e2]at Ii;simpa[GI.own]using(Ya Ii).1 r hr
     ·rw[hg];simp[GI.own]
    ·rcases hG t with⟨r,hr,rfl,hg⟩|hg
     ·rcases hG u with⟨q,hq,rfl,CK⟩|CK
      ·rw[hg]at hb;rw[CK]at Cc;simp only[GI.own,AG]at hb Cc;rw[<-e2]at Ii;obtain⟨i,hi⟩:=List.getElem?_of_mem hr;obtain⟨j,hj⟩:=List.getElem?_of_mem hq;have:=(Ya Ii).2 i j r q b hi hj hb Cc;subst this;rw[hi]at hj;cases hj;exact Od rfl
      ·rw[CK]at Cc;simp[GI.own]at Cc
     ·rw[hg]at hb;simp[GI.own]at hb
    ·rcases hG t with⟨r,hr,rfl,hg⟩|hg
     ·rw[hg]at hb;simp only[GI.own,AG]at hb;exact .inr (Ie r hr b hb)
     ·rw[hg]at hb;simp[GI.own]at hb
    ·rcases hG t with⟨r,hr,rfl,hg⟩|hg
     ·rw[hg]at hb;simp only[GI.own,AG]at hb;exact E3 b (Ie r hr b hb)
     ·rw[hg]at hb;simp[GI.own]at hb
    ·rcases hk with hk|⟨r,hr,rfl,_⟩
     ·exact hk.elim
     ·exact hU5 r hr
    ·obtain⟨r,hr,rfl,_⟩:=A8 t e he;exact hU5 r hr
   have U0:Hs F xs {sl:=ss++(List.range (fn.nfree-s.ft.length)).map (λj=>SV.e (.var (fn.params.size+s.ft.length+j)))++List.replicate (fn.ntmps-(fn.params.size+fn.nfree)) .undef,hp:=l,nx:=100000,nv:=fn.params.size+fn.nfree} {tmps:=vs.toArray++Array.replicate (fn.ntmps-vs.toArray.size) undef,defers:=[]} w:=by
    refine⟨c,rfl,rfl,rfl,rfl,rfl,hlen,λt ht=>ht,?_⟩;have hl:(ss++(List.range (fn.nfree-s.ft.length)).map (λj=>SV.e (.var (fn.params.size+s.ft.length+j)))++List.replicate (fn.ntmps-(fn.params.size+fn.nfree)) SV.undef).length=fn.ntmps:=by rw[Av,GV,List.length_replicate];omega
    show Rel c (ss++(List.range (fn.nfree-s.ft.length)).map (λj=>SV.e (.var (fn.params.size+s.ft.length+j)))++List.replicate (fn.ntmps-(fn.params.size+fn.nfree)) SV.undef).length _ _ _;rw[hl];exact hrel
   refine calls_of_wp GG Ex ?_;have hL0:LA (λ_ _ _ _=>False):=λ_ _ _ _ _ _ h=>h;have Y7:=Tr.gv _ hL0 t0 EY hd;refine zGQ (zKg Zc (zQZ (sg:={sg with dp:=s.dp,wn:=s.wn,fz:=s.fz}) JE) zPe) zLY code [] _ _ t0 hex F (λr'=>r'=r) _ [] xs _ w (Yc hL0 _ _) Y7 U0 _ λi x τ ρ' a' w' hp hl Dv=> ?_;obtain⟨tr,d',q1,q2,q3⟩:=hl;have main:Z7 P fn s τ=some tr->a'.defers=[]/\ ∃v,(results fn a'.tmps).run P w'= .ok v w'/\ ∃v',Ending.returned v= .returned v'/\tH P fn s w vs rf A9 r v' w':=by
    intro EG;obtain⟨c2,rfl,rfl,k1,k2,k3,k4,k5,k6⟩:=Dv;unfold Z7 at EG;split at EG
    ·rename_i rs bx us FV J5;split at EG
     ·rename_i es vs' Jw oA;split at EG
      ·cases EG
      rename_i Vc;simp only[Bool.or_eq_true,Bk,not_or,Bool.not_eq_false,Bool.not_eq_true]at Vc;obtain⟨Cb,IS⟩:=Vc;have Cb:=T9 Cb;simp only[Af]at EG;subst EG;have hr:_=r:=q3;obtain⟨rvs,z1,z2,z3⟩:=zDg k6 fn FV;obtain⟨f1,y1,y2⟩:=zuU (P:=P) k6 fn.resultTypes.toList oA z1 Jw (AB _);obtain⟨f2,o2,x1,x2,x3⟩:=zuZ (P:=P) k6 (w0:=w) (ms0:=s.c8) (vs0:=vs) (λt=>by rw[k2]) (fn.params.toList++s.ft) 0 J5 Aj (λk=>by simp) (λk=>by simp);refine⟨k6.defers,_,z3,_,rfl,⟨?_,?_⟩⟩
      ·
       have hR:∃R,R=(match es with| .cons x .nil=>x|es=>E.tup es).den c2.ρ/\K9 P c2.w fn.resultTypes.toList s.res (match rvs with| [u]=>u|us=> .tuple us.toArray) R f1 (vs'.flatMap λt=>(c2.G t).top):=by
        refine⟨_,rfl,?_⟩;have yl:es.den c2.ρ=es.den c2.ρ:=rfl;generalize VY:fn.resultTypes.toList=ts at y1 ⊢;generalize Da:es.den c2.ρ=ys at y1;generalize (vs'.flatMap λt=>(c2.G t).top)=o1 at y1 ⊢;cases y1 with
        |nil=>
         cases es with
         |nil=>exact⟨[],[],rfl,by simp[E.den,EL.den], .nil⟩
         |cons e es=>simp[EL.den]at Da
        | @cons t ts fl v vs2 x xs2 f h rf2 Bd w1 w2=>
         cases w2 with
         |nil=>
          cases es with
          |nil=>simp[EL.den]at Da
          |cons e es=>
           cases es with
           |nil=>simp only[EL.den,List.cons.injEq,and_true]at Da;subst Da;simpa[K9]using w1
           |cons e2 es=>simp[EL.den]at Da
         | @cons t2 ts2 fl2 v2 vs3 x2 xs3 f2' h2 rf3 Hp w3 w4=>
          cases es with
          |nil=>simp[EL.den]at Da
          |cons e es=>
           cases es with
           |nil=>simp[EL.den]at Da
           |cons e2 es=>refine⟨v::v2::vs3,x::x2::xs3,rfl,?_, .cons w1 (.cons w3 w4)⟩;simp only[E.den,Da]
       obtain⟨R,hR1,UZ⟩:=hR;have Bj:∀b∈(vs'.flatMap λt=>(c2.G t).top)++o2,∃t∈vs'++us,b∈(c2.G t).top:=λb hb=>by
        rcases Ae.1 hb with hb|hb
        ·obtain⟨t,ht,C6⟩:=List.mem_flatMap.1 hb;exact⟨t,by simp[ht],C6⟩
        ·rw[x2]at hb;obtain⟨t,ht,C6⟩:=List.mem_flatMap.1 hb;exact⟨t,by simp[ht],C6⟩
       have KF:∀b t,b∈(c2.G t).top->b∈A9\/w.heap.size<=b:=λb t hb=>by
        rcases k6.gw.allow t b (by simp[GI.own,hb])with h|h
        ·simp only[Cx.B,k1]at h;exact .inr h
        ·rw[k3]at h;exact .inl h
       refine⟨R,bx.map (E.den c2.ρ),f1,_,f2,o2,?_,UZ,x1,?_,λb hb=> ?_,λb hb=> ?_⟩
       ·rw[<-hr,hR1];cases bx with
        |nil=>rfl
        |cons b bx=>simp only[List.isEmpty_cons,A7,if_false,E.den,EL.ez,List.map_cons];rfl
       ·rw[x2,<-List.flatMap_append];have:∀l:List Nat,l.Nodup->(l.flatMap λt=>(c2.G t).top).Nodup:=by
         intro l
         induction l with
         |nil=>intro _;simp
         |cons t l ih=>intro hl;rw[List.nodup_cons]at hl;rw[List.flatMap_cons,List.nodup_append];refine⟨(List.nodup_append.1 (k6.gw.nodup t)).1,ih hl.2,λx hx y hy GY=> ?_⟩;subst GY;obtain⟨u,hu,oZ⟩:=List.mem_flatMap.1 hy;exact k6.gw.dt t u (λhh=>hl.1 (hh▸hu)) x (by simp[GI.own,hx]) (by simp[GI.own,oZ])
        exact this _ Cb
       ·obtain⟨t,ht,C6⟩:=Bj b hb;exact⟨KF b t C6,k6.gw.inb t b (by simp[GI.own,C6])⟩
       ·have JD:c2.gp (Wh P τ fn.resultTypes.toList s.res rs++Qe P τ 0 (fn.params.toList++s.ft) s.c8) b:=by
         rcases Ae.1 hb with hb|hb
         ·exact(y2 b hb).mono λt ht=>by simp[ht]
         ·exact(x3 b hb).mono λt ht=>by simp[ht]
        rcases JD with A3|⟨t,ht,C6⟩
        ·refine⟨λho=> ?_,?_⟩
         ·obtain⟨u,_,Jv⟩:=Bj b ho;exact A3.1 ⟨u,Jv⟩
         ·rcases A3.2 with h|h|h
          ·rw[k2]at h;exact .inl h
          ·simp only[Cx.B,k1]at h;exact .inr (.inr h)
          ·rw[k3]at h;exact .inr (.inl h)
        ·refine⟨λho=> ?_, .inr (KF b t C6)⟩;obtain⟨u,hu,Jv⟩:=Bj b ho;have Od:t≠u:=by
          rintro rfl;rw[List.any_eq_false]at IS;have:=IS t ht;simp only[List.contains_eq_mem,AR]at this;exact this hu
         exact k6.gw.dt t u Od b (by simp[GI.own,C6]) (by simp[GI.own,Jv])
      ·have hb:=k6.base;refine⟨?_,?_,?_,?_,λk hk hn=> ?_⟩
       ·rw[hb.os,k1]
       ·rw[hb.tape,k1]
       ·rw[hb.output,k1]
       ·have:=hb.size;rw[k1]at this;exact this
       ·have:=hb.block k (by rw[k1];exact hk) (by rw[k3];exact hn);rw[k1]at this;exact this
     ·cases EG
    ·cases EG
   cases x with
   |normal=>exact main q1
   |ret=>exact main q1
   |exit id=>cases q1
  ·cases EY
 ·cases EY
end
end Go.Proofs.YtlmjpjceiefpoaaGreatDoor

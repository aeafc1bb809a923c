/- Parts of a proof, joined: WT, WU, WV, WW. -/
import Derived.Test.YtollgpkegmbpmaaGreatDoorT5
set_option linter.unusedVariables false
set_option linter.unusedSimpArgs false
section
namespace Go.Proofs.YtollgpkegmbpmaaGreatDoor
open Go.RowKit
def FW (ms:List PM) (vs:List Value) (t:Nat):Option Value:=
 if Ks t then(match vs[t/1000]?,(ms[t/1000]?).getD .ro with
  |some v, .bx .. =>if t % 1000=0 then some v else none
  |some v, .mu _=>if 500≤t % 1000 then v.cells[t % 1000-500]? else none
  |_,_=>none)
 else none
section
variable {P:Program} {c:Cx} {w:World}
theorem BP.gh {ts:List TypeId} {fl:List Bool} {us:List Value} {ys:List AV} {rf hs:List Nat} (h:BP P w ts fl us ys rf hs) {nx:Nat} {mk:Nat→E} {j:Nat}: ∀(k:Nat) (u:Value),us[k]?=some u→(∃e,(nx+j+k,e)∈(Cf P nx mk j ts fl).2)→u.cells= #[u]:=by
 induction h generalizing j with
 |nil=>intro k u hu _;simp at hu
 | @deep t ts fl el e9 z9 l9 u us y ys top rf hs h1 h2 NN Mc h3 _ ih=>
  intro k u' hu he;cases k with
  |zero=>simp at hu;subst hu;obtain⟨p,q,r,rfl⟩:=h3.head;rfl
  |succ k=>
   refine ih (j:=j+1) k u' (by simpa using hu) ?_;obtain⟨e,he⟩:=he;simp only [Cf,h1,h2,Ae,Prod.mk.injEq]at he;rcases he with⟨he,_⟩|he
   ·omega
   ·exact⟨e,by rw [show nx+(j+1)+k=nx+j+(k+1)from by omega];exact he⟩
 | @own t ts fl el u us y ys top N rf hs h1 h2 NO h3 _ ih=>
  intro k u' hu he;cases k with
  |zero=>simp at hu;subst hu;obtain⟨xs,_,_,_,⟨_,⟨a,rfl⟩,_⟩|⟨g,cap,C,rfl,_⟩⟩:=h3<;>rfl
  |succ k=>
   refine ih (j:=j+1) k u' (by simpa using hu) ?_;obtain⟨e,he⟩:=he;simp only [Cf,h1,h2,Ae,Prod.mk.injEq]at he;rcases he with⟨he,_⟩|he
   ·omega
   ·exact⟨e,by rw [show nx+(j+1)+k=nx+j+(k+1)from by omega];exact he⟩
 | @rd t ts fl u us y ys f rf hs h1 h3 _ ih=>
  intro k u' hu he;obtain⟨e,he⟩:=he;have Ub:(Cf P nx mk j (t::ts) fl).2=(Cf P nx mk (j+1) ts fl.tail).2:=by
   simp only [Cf];split
   ·rename_i h8 h9;rw [h1 h8]at h9;cases h9
   ·rfl
  rw [Ub]at he;cases k with
  |zero=>
   exfalso;have key: ∀(ts:List TypeId) (fl:List Bool) (j' t':Nat) (e':Af),(t',e')∈(Cf P nx mk j' ts fl).2→nx+j'≤t':=by
    intro ts
    induction ts with
    |nil=>intro fl j' t' e' h;simp [Cf]at h
    |cons a ts ih2=>
     intro fl j' t' e' h;simp only [Cf]at h;split at h
     ·simp only [Ae,Prod.mk.injEq]at h;rcases h with⟨h,_⟩|h
      ·omega
      ·have:=ih2 _ _ _ _ h;omega
     ·have:=ih2 _ _ _ _ h;omega
   have:=key _ _ _ _ _ he;omega
  |succ k=>exact ih (j:=j+1) k u' (by simpa using hu) ⟨e,by rw [show nx+(j+1)+k=nx+j+(k+1)from by omega];exact he⟩
theorem ZZ {i b:Nat} (hb:b+400≤1000) {t:TypeId} {own:List Bool} {s:SV} {l:List (Nat × Af)} {v:Value} {x:AV} {rf hs:List Nat} (h:Nj P i b t own=some (s,l)) (hv:L1 P w t own v x rf hs) (hx:(E.var i).den c.ρ=x):
  ∃recs:List AA,l=recs.map AA.pair∧recs.flatMap AA.top=hs∧(∀r∈recs,1000*i+b≤r.tag∧r.tag<1000*i+1000∧r.new.isSome)∧(recs.map AA.tag).Nodup∧(∀r∈recs,r.new=v.cells[r.tag-(1000*i+b)]?)∧
   ∀c',DX c c' w recs→(∀b∈rf,c'.ok b)→SR c' [s] [v]∧ ∀r∈recs,Cu c' r.tag r.aw:=by
 obtain⟨us,ys,hg,hc⟩:=hv;unfold Nj at h;simp only at h;split at h
 ·cases h
 rename_i hle;split at hg
 ·rename_i As;obtain⟨rfl,rfl,Ck⟩:=hg;obtain⟨recs,e1,e2,e3,e4,e4',e5⟩:=MB (c:=c) (nx:=1000*i+b) (mk:=CP (.var i) (Ai P t)) hc 0 (by rw [As];exact PK hx);rw [if_pos As]at h;simp only [Ac,Prod.mk.injEq]at h;obtain⟨rfl,rfl⟩:=h;refine⟨recs,e1,e2,fun r hr=>by have:=e3 r hr;exact⟨by omega,by omega,this.2.2⟩,e4,fun r hr=>by rw [e4' r hr];simp [Value.cells],fun c' ha Au=> ?_⟩;obtain⟨q1,q2⟩:=e5 c' ha Au;exact⟨.agg Ck (by rw [A6.aj];exact q1) .nil,q2⟩
 ·rename_i As;obtain⟨rfl,rfl⟩:=hg;have Fz:Ai P t=false:=by simpa using As
  obtain⟨recs,e1,e2,e3,e4,e4',e5⟩:=MB (c:=c) (nx:=1000*i+b) (mk:=CP (.var i) (Ai P t)) hc 0 (by
   intro k z hz;cases k with
   |zero=>simp at hz;subst hz;rw [Fz];simpa [CP]using hx
   |succ k=>simp at hz)
  rw [if_neg As]at h;split at h
  ·rename_i s' AT;simp only [Ac,Prod.mk.injEq]at h;obtain⟨rfl,rfl⟩:=h;refine⟨recs,e1,e2,fun r hr=>by have:=e3 r hr;exact⟨by omega,by omega,this.2.2⟩,e4,fun r hr=> ?_,fun c' ha Au=> ?_⟩
   ·have CC:=e4' r hr;have h3:=e3 r hr;rw [CC,Nat.add_zero];have hlen:=hc.len;have Mj:r.tag-(1000*i+b)=0:=by
     have:=hlen.1;simp at this;omega
    rw [Mj];have:=hc.gh (nx:=1000*i+b) (mk:=CP (.var i) (Ai P t)) (j:=0) 0 v rfl ⟨r.aw,by rw [e1];exact List.mem_map.2 ⟨r,hr,by simp [AA.pair];omega⟩⟩;rw [this];rfl
   ·obtain⟨q1,q2⟩:=e5 c' ha Au;rw [AT]at q1;exact⟨q1,q2⟩
  ·cases h
theorem ZN {ms0:List PM} {vs0:List Value}: ∀(ts:List TypeId) (i:Nat) {ms:List PM} {lo:List Bool} {ss:List SV} {l:List (Nat × Af)} {vs:List Value} {xs:List AV} {rf lf hs:List Nat},Kg P i ts ms lo=some (ss,l)→CQ P w ts ms lo vs xs rf lf hs→(∀k x,xs[k]?=some x→(E.var (i+k)).den c.ρ=x)→(∀k,ms[k]?=ms0[i+k]?)→(∀k,vs[k]?=vs0[i+k]?)→
  ∃recs:List AA,l=recs.map AA.pair∧recs.flatMap AA.top=hs∧(∀r∈recs,1000*i≤r.tag∧r.tag<1000*(i+ts.length)∧r.new.isSome)∧(recs.map AA.tag).Nodup∧(∀r∈recs,∀v,FW ms0 vs0 r.tag=some v→r.new=some v)∧ss.length=ts.length∧ts.length≤vs.length∧
   ∀c',DX c c' w recs→(∀b∈rf,c'.ok b)→(∀(k:Nat) (v:Value) (x:AV),(ms[k]?).getD .ro= .ro→vs[k]?=some v→xs[k]?=some x→c'.A.lo v x)→SR c' (ss++(List.range (vs.length-ts.length)).map fun j=>SV.e (.var (i+ts.length+j))) vs∧ ∀r∈recs,Cu c' r.tag r.aw
 | [],i,ms,lo,ss,l,vs,xs,rf,lf,hs,h,ha,hx,_,_=>by
  simp [Kg]at h;obtain⟨rfl,rfl⟩:=h;have key: ∀{ms:List PM} {lo:List Bool} {vs:List Value} {xs:List AV} {rf lf hs:List Nat},CQ P w [] ms lo vs xs rf lf hs→hs= []∧Rd w vs xs rf:=by
   intro ms lo vs
   induction vs generalizing ms lo with
   |nil=>intro xs rf lf hs h;cases h;exact⟨rfl, .nil⟩
   |cons v vs ih=>
    intro xs rf lf hs h;cases h with
    |free h1 h2=>obtain⟨rfl,h3⟩:=ih h2;exact⟨rfl,h1.app h3⟩
  obtain⟨rfl,CL⟩:=key ha;refine⟨[],rfl,rfl,by simp,by simp,by simp,rfl,by simp,fun c' Eo Au _=>⟨?_,by simp⟩⟩;have frees: ∀(vs:List Value) {xs:List AV} {rf:List Nat} (j:Nat),Rd w vs xs rf→(∀k x,xs[k]?=some x→(E.var (i+j+k)).den c.ρ=x)→(∀b∈rf,c'.ok b)→SR c' ((List.range vs.length).map fun q=>SV.e (.var (i+j+q))) vs:=by
   intro vs
   induction vs with
   |nil=>intro xs rf j h _ _;simpa using SR.nil
   |cons v vs ih=>
    intro xs rf j h hx Au;cases xs with
    |nil=>have:=h.len;simp at this
    |cons x xs=>
     obtain⟨f1,f2,rfl,h1,h2⟩:=h.bd;have h3:=ih (j+1) h2 (fun k y hy=>by rw [show i+(j+1)+k=i+j+(k+1)from by omega];exact hx (k+1) y (by simpa using hy)) fun b hb=>Au b (by simp [hb]);rw [AD,List.range_succ_eq_map,List.map_cons,List.map_map];refine SR.cons (.e (f:=f1) (by rw [Eo.w,Eo.ρ];have:=hx 0 x rfl;simp only [Nat.add_zero]at this ⊢;rw [this];exact h1) (fun b hb=>Au b (by simp [hb])) .nil) ?_;have e:((fun q=>SV.e (.var (i+j+q)))∘Nat.succ)=fun q=>SV.e (.var (i+(j+1)+q)):=by funext q;simp only [Function.comp_apply];rw [show i+j+q.succ=i+(j+1)+q from by omega]
     rw [e];exact h3
  simpa using frees vs 0 CL (by simpa using hx) Au
 |t::ts,i,ms,lo,ss,l,vs,xs,rf,lf,hs,h,ha,hx,DG,Ig=>by
  unfold Kg at h;split at h
  ·rename_i s l1 ss' l2 h1 h2;simp only [Ac,Prod.mk.injEq]at h;obtain⟨rfl,rfl⟩:=h;obtain⟨v,vs,x,xs,f,hh,rf,lf,hs,rfl,rfl,rfl,rfl,DJ,AN⟩: ∃v vs' x xs' f hh rf' lf' AT,vs=v::vs'∧xs=x::xs'∧rf=f++rf'∧hs=hh++AT∧CQ P w ts ms.tail lo.tail vs' xs' rf' lf' AT∧(X2 P w t (ms.headD .ro) v x f hh∨(lo.headD false=true∧ms.headD .ro= .ro∧f= []∧hh= [])):=by
    cases ha with
    |cons h1 h2=>exact⟨_,_,_,_,_,_,_,_,_,rfl,rfl,rfl,rfl,h2, .inl h1⟩
    |lent h1 h2 h3 h4=>exact⟨_,_,_,_, [], [],_,_,_,rfl,rfl,by simp,by simp,h4, .inr ⟨h1,h2,rfl,rfl⟩⟩
   have Di:ms.headD .ro=(ms0[i]?).getD .ro:=by have:=DG 0;rw [Nat.add_zero]at this;rw [←this];cases ms<;>rfl
   have Le:vs0[i]?=some v:=by have:=Ig 0;simpa using this.symm
   have Ii:(E.var i).den c.ρ=x:=by simpa using hx 0 x rfl
   obtain⟨r2,b1,b2,b3,b4,b4',b6,b7,b5⟩:=ZN ts (i+1) h2 DJ (fun k y hy=>by rw [show i+1+k=i+(k+1)from by omega];exact hx (k+1) y (by simpa using hy)) (fun k=>by rw [show i+1+k=i+(k+1)from by omega,←DG (k+1)];cases ms<;>simp) (fun k=>by rw [show i+1+k=i+(k+1)from by omega,←Ig (k+1)];simp);have fin: ∀(r1:List AA),l1=r1.map AA.pair→r1.flatMap AA.top=hh→(∀r∈r1,1000*i≤r.tag∧r.tag<1000*i+1000∧r.new.isSome)→(r1.map AA.tag).Nodup→(∀r∈r1,∀v,FW ms0 vs0 r.tag=some v→r.new=some v)→
     (∀c',DX c c' w r1→(∀b∈f,c'.ok b)→(ms.headD .ro= .ro→c'.A.lo v x)→SR c' [s] [v]∧ ∀r∈r1,Cu c' r.tag r.aw)→
     ∃recs:List AA,l1++l2=recs.map AA.pair∧recs.flatMap AA.top=hh++hs∧(∀r∈recs,1000*i≤r.tag∧r.tag<1000*(i+(t::ts).length)∧r.new.isSome)∧(recs.map AA.tag).Nodup∧(∀r∈recs,∀v,FW ms0 vs0 r.tag=some v→r.new=some v)∧(s::ss').length=(t::ts).length∧(t::ts).length≤(v::vs).length∧
      ∀c',DX c c' w recs→(∀b∈f++rf,c'.ok b)→(∀(k:Nat) (v':Value) (x':AV),(ms[k]?).getD .ro= .ro→(v::vs)[k]?=some v'→(x::xs)[k]?=some x'→c'.A.lo v' x')→SR c' ((s::ss')++(List.range ((v::vs).length-(t::ts).length)).map fun j=>SV.e (.var (i+(t::ts).length+j))) (v::vs)∧ ∀r∈recs,Cu c' r.tag r.aw:=by
    intro r1 a1 a2 a3 a4 a4' a5;refine⟨r1++r2,by simp [a1,b1],by simp [a2,b2],fun r hr=> ?_, ?_,fun r hr=> ?_,by simp [b6],by simp [b7],fun c' Eo Au BD=> ?_⟩
    ·simp only [AD];rcases Ag.1 hr with hr|hr
     ·have:=a3 r hr;exact⟨this.1,by omega,this.2.2⟩
     ·have:=b3 r hr;exact⟨by omega,by omega,this.2.2⟩
    ·rw [List.map_append,List.nodup_append];refine⟨a4,b4,fun t1 OT t2 OU he=> ?_⟩;obtain⟨q1,F9,rfl⟩:=List.mem_map.1 OT;obtain⟨q2,G2,rfl⟩:=List.mem_map.1 OU;have:=a3 q1 F9;have:=b3 q2 G2;omega
    ·rcases Ag.1 hr with hr|hr
     ·exact a4' r hr
     ·exact b4' r hr
    ·obtain⟨p1,p2⟩:=a5 c' (Eo.mono fun r hr=>by simp [hr]) (fun b hb=>Au b (by simp [hb])) fun hl=>BD 0 v x (by cases ms<;>exact hl) rfl rfl;obtain⟨q1,q2⟩:=b5 c' (Eo.mono fun r hr=>by simp [hr]) (fun b hb=>Au b (by simp [hb])) fun k v' x' k1 k2 k3=>BD (k+1) v' x' (by cases ms with|nil=>rfl|cons b l=>simpa using k1) (by simpa using k2) (by simpa using k3);refine⟨?_,fun r hr=> ?_⟩
     ·have:=p1.cons q1;have e:(fun j=>SV.e (.var (i+1+ts.length+j)))=fun j=>SV.e (.var (i+(t::ts).length+j)):=by
       funext j;simp only [AD];rw [show i+1+ts.length+j=i+(ts.length+1)+j from by omega]
      rw [e]at this;simpa using this
     ·rcases Ag.1 hr with hr|hr
      ·exact p2 r hr
      ·exact q2 r hr
   have pinMu: ∀{own:List Bool} {r:AA},ms.headD .ro= .mu own→1000*i+500≤r.tag→r.tag<1000*i+1000→r.new=v.cells[r.tag-(1000*i+500)]?→ ∀v',FW ms0 vs0 r.tag=some v'→r.new=some v':=by
    intro own r hm t1 t2 hn v' hp;unfold FW at hp;split at hp
    ·rw [show r.tag/1000=i from by omega,Le,←Di,hm]at hp;simp only at hp;split at hp
     ·rw [hn,show r.tag-(1000*i+500)=r.tag % 1000-500 from by omega];exact hp
     ·cases hp
    ·cases hp
   have pinVa: ∀{own:List Bool} {r:AA},ms.headD .ro= .va own→1000*i≤r.tag→r.tag<1000*i+1000→ ∀v',FW ms0 vs0 r.tag=some v'→r.new=some v':=by
    intro own r hm t1 t2 v' hp;unfold FW at hp;split at hp
    ·rw [show r.tag/1000=i from by omega,Le,←Di,hm]at hp;simp at hp
    ·cases hp
   cases hm:ms.headD .ro with
   |ro=>
    rw [hm]at h1 AN;simp only [Tc,Ac,Prod.mk.injEq]at h1;obtain⟨rfl,rfl⟩:=h1;have iY:hh= []:=by rcases AN with⟨_,h⟩|⟨_,_,_,h⟩<;>exact h
    subst iY;by_cases BD:lo.headD false=true
    ·exact fin [] rfl rfl (by simp) (by simp) (by simp) fun c' Eo Au hl=>⟨by rw [if_pos BD];exact .lent (by rw [Eo.ρ,Ii];exact hl hm) .nil,by simp⟩
    ·rcases AN with⟨g1,_⟩|⟨h,_⟩
     ·exact fin [] rfl rfl (by simp) (by simp) (by simp) fun c' Eo Au _=>⟨by rw [if_neg BD];exact .e (f:=f) (by rw [Eo.w,Eo.ρ,Ii];exact g1) Au .nil,by simp⟩
     ·exact absurd h BD
   |va own=>
    rw [hm]at h1 AN
    replace AN:=AN.resolve_right fun h=>by cases h.2.1
    obtain⟨r1,a1,a2,a3,a4,a4',a5⟩:=ZZ (c:=c) (by omega) h1 AN Ii;exact fin r1 a1 a2 (fun r hr=>by have:=a3 r hr;exact⟨by omega,this.2⟩) a4 (fun r hr=>by have:=a3 r hr;exact pinVa hm (by omega) this.2.1) fun c' Eo Au _=>a5 c' Eo Au
   |mu own=>
    rw [hm]at h1 AN
    replace AN:=AN.resolve_right fun h=>by cases h.2.1
    obtain⟨r1,a1,a2,a3,a4,a4',a5⟩:=ZZ (c:=c) (by omega) h1 AN Ii;exact fin r1 a1 a2 (fun r hr=>by have:=a3 r hr;exact⟨by omega,this.2⟩) a4 (fun r hr=>by have:=a3 r hr;exact pinMu hm this.1 this.2.1 (a4' r hr)) fun c' Eo Au _=>a5 c' Eo Au
   |bx own own'=>
    rw [hm]at h1 AN
    replace AN:=AN.resolve_right fun h=>by cases h.2.1
    obtain⟨ty,b,C,ys,h9,g1,rfl,g3,g4,rfl,g6,rfl⟩:=AN;simp only [Tc,g1]at h1;split at h1
    ·cases h1
    rename_i hle;simp only [Ac,Prod.mk.injEq]at h1;obtain⟨rfl,rfl⟩:=h1;obtain⟨recs,e1,e2,e3,e4,e4',e5⟩:=MB (c:=c) (nx:=1000*i+1) (mk:=CP (.deref (.var i)) true) g6 0 (PK (by simp only [E.den]at Ii ⊢;rw [Ii];rfl));refine fin (⟨1000*i,some (.pointer (some ⟨b,0,none⟩)), [b], .box ty (Ai P ty) (Cf P (1000*i+1) (CP (.deref (.var i)) true) 0 (AM P ty) own).1⟩::recs) (by simp [e1,AA.pair]) (by simp [e2]) (fun r hr=> ?_) ?_ (fun r hr v' hp=> ?_) fun c' Eo Au _=> ?_
    ·rcases Ae.1 hr with rfl|hr
     ·simp
     ·have:=e3 r hr;exact⟨by omega,by omega,this.2.2⟩
    ·simp only [List.map_cons,List.nodup_cons];refine⟨fun hm=> ?_,e4⟩;obtain⟨r,hr,HA⟩:=List.mem_map.1 hm;have:=e3 r hr;omega
    ·rcases Ae.1 hr with rfl|hr
     ·unfold FW at hp;simp only at hp;split at hp
      ·rw [show 1000*i/1000=i from by omega,Le,←Di,hm]at hp;simp at hp;simpa using hp
      ·cases hp
     ·have h3:=e3 r hr;unfold FW at hp;split at hp
      ·rw [show r.tag/1000=i from by omega,Le,←Di,hm]at hp;simp only at hp;split at hp
       ·omega
       ·cases hp
      ·cases hp
    ·obtain⟨q1,q2⟩:=e5 c' (Eo.mono fun r hr=>by simp [hr]) Au;obtain⟨k1,k2,k3⟩:=Eo.new _ (List.mem_cons_self ..) _ rfl;have kg:=Eo.G _ (List.mem_cons_self ..);simp only at k1 k3 kg;refine⟨.bg k1 k3 .nil,fun r hr=> ?_⟩;rcases Ae.1 hr with rfl|hr
     ·exact⟨b,C,k1,k3,by rw [kg],by rw [kg],by rw [Eo.w];exact g3,g4,q1⟩
     ·exact q2 r hr
  ·cases h
end
section
variable {P:Program} {c:Cx} {n:Nat} {a:Act} {τ:St}
theorem gR (h:Rel c n (Bb τ) (Av τ.hp) a):EH c (Av τ.hp):=fun t e hr=>h.ents t e hr
theorem dD {hp:Nat→Option Af} {t:Nat} {e:Af} (h:hp t=some e) (hn: ∀hs f,e≠ .gd hs f):Cy hp [] t=some e:=by
 simp only [Cy,h,Ab,Jw]
 all_goals (cases e<;>first|rfl|exact absurd rfl (hn _ _))
theorem ZJ (h:Rel c n (Bb τ) (Av τ.hp) a) {u g:Nat} {e z:Nat} {x:E} {d:Bool} (hu:Av τ.hp u=some (.row e z g x d)):c.K u g∧ ∃N,Co c.w e z (c.H u g) (x.den c.ρ) (c.G u).top N∧(∀b∈N,c.ok b)∧(d=true→N= []):=by obtain⟨p1,p2,N,p3,p4,p5,_⟩:=h.ents u _ (by rw [hu];rfl);exact⟨p1,N,p3,p4,fun hd=>(p5 hd).1⟩
theorem cD {t e:TypeId} {d:Bool} {N:List Nat} (hd:d=true→N= []) (h:BC P e=true∧d=true∨BC P e=false∧(Dd P t).isNone=true):BC P e=true∧N= []∨BC P e=false∧Dd P t=none:=by
 rcases h with⟨h1,h2⟩|⟨h1,h2⟩
 ·exact .inl ⟨h1,hd h2⟩
 ·exact .inr ⟨h1,by simpa using h2⟩
theorem Sd (h:Rel c n (Bb τ) (Av τ.hp) a): ∀(ts:List TypeId) {fl:List Bool} {cs:List SV} {l:List Nat} {us:List Value} {xs:EL} {m:Nat},Jn P τ ts fl cs=some l→SR c cs us→BR (Av τ.hp) [] m cs=some xs→m≤AI→
  ∃f,BP P c.w ts fl us (xs.den c.ρ) f (l.flatMap fun t=>(c.G t).top)∧ ∀b∈f,c.dj (H6 P τ ts fl cs) b
 | [],fl, [],l,us,xs,m,ho,hs,hx,hm=>by
  simp [Jn]at ho;subst ho;cases hs;cases m with
  |zero=>simp [BR]at hx
  |succ m=>simp [BR]at hx;subst hx;exact⟨[], .nil,by simp⟩
 | [],fl,s::cs,l,us,xs,m,ho,hs,hx,hm=>by simp [Jn]at ho
 |t::ts,fl, [],l,us,xs,m,ho,hs,hx,hm=>by simp [Jn]at ho
 |t::ts,fl,s::cs,l, [],xs,m,ho,hs,hx,hm=>by have:=hs.len;simp at this
 |t::ts,fl,s::cs,l,v::us,xs,m,ho,hs,hx,hm=>by
  obtain⟨j,y,ys,rfl,hy,CH,rfl⟩:=Il hx;obtain⟨r1,r2⟩:=hs.bd;unfold Jn at ho;split at ho
  ·cases ho
  rename_i l' Cs;obtain⟨f,q1,q2⟩:=Sd h ts Cs r2 CH (by omega);split at ho
  ·rename_i e hf A7;have ET:H6 P τ (t::ts) fl (s::cs)=H6 P τ ts fl.tail cs:=by
    simp only [H6,hf,A7,Option.isSome_some,Bool.and_self,if_true,List.nil_append]
   split at ho
   ·cases ho
   rename_i hz;split at ho
   ·simp only [Ac]at ho;subst ho;cases r1 with
    |bb _=>refine⟨f, ?_,by rw [ET];exact q2⟩;rw [EL.den,Ja hy];exact BP.void hf A7 (by omega) q1
   ·rename_i u g;split at ho
    ·rename_i e' z g' x d hu;split at ho
     ·rename_i hh;obtain⟨rfl,rfl,rfl,FE⟩:=hh;simp only [Ac]at ho;subst ho;obtain⟨p1,N,p2,p3,p4⟩:=ZJ h hu;have FE:=cD p4 FE;have hl:=dD hu (by simp);have FP:y=x:=by
       cases j with
       |zero=>simp [A0]at hy
       |succ j=>simp [A0,GH,hl]at hy;exact hy.symm
      subst FP;have hv:c.H u g=v:=by
       cases r1 with
       |own _ k2 _=>exact k2
      rw [hv]at p2;refine⟨N++f,BP.own hf A7 FE p2 q1,fun b hb=> ?_⟩;rw [ET];rcases Ag.1 hb with hb|hb
      ·exact .inl (p3 b hb)
      ·exact q2 b hb
     ·cases ho
    ·rename_i e' z dl g' ep x hu;split at ho
     ·rename_i hh;obtain⟨rfl,EZ,CX⟩:=hh;have CX:=Ss CX;simp only [Ac]at ho;subst ho;obtain⟨p1,_,_,p2,_⟩:=h.ents u _ (by rw [hu];rfl);have hl:=dD hu (by simp);have FP:y=x:=by
       cases j with
       |zero=>simp [A0]at hy
       |succ j=>simp [A0,GH,hl]at hy;exact hy.symm
      subst FP;have hv:c.H u g=v:=by
       cases r1 with
       |own _ k2 _=>exact k2
      rw [hv]at p2;exact⟨f,BP.deep hf A7 EZ CX p2 q1,by rw [ET];exact q2⟩
     ·cases ho
    ·cases ho
   ·cases ho
  ·rename_i DH;simp only [Ac]at ho;subst ho;have hn:fl.headD false=true→Cc P t=none:=fun hf=>by
    cases A7:Cc P t with
    |none=>rfl
    |some e=>exact absurd A7 (DH e hf)
   obtain⟨f1,p1,p2⟩:=Gl (gR h) (DS _) j hy r1 AI (by omega);refine⟨f1++f,BP.rd hn p1 q1,fun b hb=> ?_⟩;have ET:H6 P τ (t::ts) fl (s::cs)=Bn (Av τ.hp) [] (AI+1) [s]++H6 P τ ts fl.tail cs:=by
    have:(fl.headD false&&(Cc P t).isSome)=false:=by
     cases hf:fl.headD false with
     |false=>rfl
     |true=>rw [hn hf];rfl
    simp only [H6,this,AY,if_false]
   rw [ET];rcases Ag.1 hb with hb|hb
   ·exact(p2 b hb).mono fun t ht=>by simp [ht]
   ·exact(q2 b hb).mono fun t ht=>by simp [ht]
theorem pO (h:Rel c n (Bb τ) (Av τ.hp) a) {t:TypeId} {fl:List Bool} {s:SV} {l:List Nat} {v:Value} {x:E} {m:Nat} (ho:XA P τ t fl s=some l) (hs:SR c [s] [v]) (hx:A0 (Av τ.hp) [] m s=some x) (hm:m<AI):
  ∃f,DO P c.w t fl v (x.den c.ρ) f (l.flatMap fun t=>(c.G t).top)∧ ∀b∈f,c.dj (XO P τ t fl s) b:=by
 unfold XA at ho;unfold DO XO;split at ho
 ·rename_i hf;simp only [hf,if_true];split at ho
  ·rename_i As;split at ho
   ·rename_i cs;obtain⟨k,lx,rfl,hl,rfl⟩:=PY hx;cases hs with
    |agg h9 h1 h8=>rename_i as_;obtain⟨f,q1,q2⟩:=Sd (P:=P) h (AM P t) ho h1 hl (by omega);exact⟨f,⟨as_,lx.den c.ρ,by rw [if_pos As];exact⟨rfl,rfl,h9⟩,q1⟩,by rw [if_pos As];exact q2⟩
   ·cases ho
  ·rename_i As;have IY:BR (Av τ.hp) [] (m+1) [s]=some (.cons x .nil):=by
    cases m with
    |zero=>simp [A0]at hx
    |succ m=>simp only [BR,hx]
   obtain⟨f,q1,q2⟩:=Sd (P:=P) h (AM P t) ho hs IY (by omega);exact⟨f,⟨[v], [x.den c.ρ],by rw [if_neg As];exact⟨rfl,rfl⟩,q1⟩,by rw [if_neg As];exact q2⟩
 ·rename_i hf;simp only [hf,if_false,AY];simp only [Ac]at ho;subst ho;obtain⟨f,p1,p2⟩:=Gl (gR h) (DS _) m hx hs AI (by omega);exact⟨f,⟨p1,rfl⟩,p2⟩
theorem Zw (h:Rel c n (Bb τ) (Av τ.hp) a): ∀(ts:List TypeId) {fl:List Bool} {ss:List SV} {l:List Nat} {vs:List Value} {xs:EL} {m:Nat},LP P τ ts fl ss=some l→SR c ss vs→BR (Av τ.hp) [] m ss=some xs→m≤AI→
  ∃f,He P c.w ts fl vs (xs.den c.ρ) f (l.flatMap fun t=>(c.G t).top)∧ ∀b∈f,c.dj (Qe P τ ts fl ss) b
 | [],fl, [],l,vs,xs,m,ho,hs,hx,hm=>by
  simp [LP]at ho;subst ho;cases hs;cases m with
  |zero=>simp [BR]at hx
  |succ m=>simp [BR]at hx;subst hx;exact⟨[], .nil,by simp⟩
 | [],fl,s::cs,l,us,xs,m,ho,hs,hx,hm=>by simp [LP]at ho
 |t::ts,fl, [],l,us,xs,m,ho,hs,hx,hm=>by simp [LP]at ho
 |t::ts,fl,s::cs,l, [],xs,m,ho,hs,hx,hm=>by have:=hs.len;simp at this
 |t::ts,fl,s::cs,l,v::us,xs,m,ho,hs,hx,hm=>by
  obtain⟨j,y,ys,rfl,hy,CH,rfl⟩:=Il hx;obtain⟨r1,r2⟩:=hs.bd;unfold LP at ho;split at ho
  ·rename_i a1 b1 h1 h2;simp only [Ac]at ho;subst ho;obtain⟨f1,p1,p2⟩:=pO (P:=P) h h1 r1 hy (by omega);obtain⟨f2,q1,q2⟩:=Zw h ts h2 r2 CH (by omega);refine⟨f1++f2,by rw [List.flatMap_append];exact .cons p1 q1,fun b hb=> ?_⟩;simp only [Qe];rcases Ag.1 hb with hb|hb
   ·exact(p2 b hb).mono fun t ht=>by simp [ht]
   ·exact(q2 b hb).mono fun t ht=>by simp [ht]
  ·cases ho
end
section
variable {P:Program} {c:Cx} {n:Nat} {a:Act} {τ:St}
theorem uZ (h:Rel c n (Bb τ) (Av τ.hp) a) {t:TypeId} {b o:Nat} {ty:TypeId} {g:Bool} {cs:List SV} {s:SV} {v:Value} (AZ:CG P t=true) (hl:Av τ.hp b=some (.box ty g cs)) (AL:L4 P t cs o=some s) (hr:SR c [.bg b o] [v]):
  ∃q u,v= .pointer (some ⟨q,o,none⟩)∧(loadVar t ⟨q,o,none⟩).run P c.w= .ok u c.w∧SR c [s] [u]:=by
 cases hr with
 |bg h1 h2 h8=>
  rename_i q;obtain⟨q',C,_,e2,e3,e4,e5,e5',e6⟩:=h.ents b _ (by rw [hl];rfl);rw [h2]at e2;cases e2;have key: ∀vs:List Value,(Ai P t=true→vs.length=P.cellsOf t)→(Ai P t=false→vs.length=1)→(∀j u,vs[j]?=some u→c.w.cell? ⟨q,o+j,none⟩=some u)→(loadVar t ⟨q,o,none⟩).run P c.w= .ok (if Ai P t then .agg vs.toArray else vs.headD undef) c.w:=fun vs k1 k2 k3=>by have:=MP (P:=P) (w:=c.w) (b:=q) (off:=o) AZ vs k1 k2 k3;simpa [Instr.loadAt,Instr.sureAddr]using this
  unfold L4 at AL;have hlen:=e6.len;split at AL
  ·rename_i As;split at AL
   ·rename_i hle;simp at AL;subst AL;obtain⟨r1,r2⟩:=e6.split o;obtain⟨r3,r4⟩:=r2.split (P.cellsOf t);have:=SR.agg (cs:=A6.of ((cs.drop o).take (P.cellsOf t))) (fun u hu=>e5' u (List.mem_of_mem_drop (List.mem_of_mem_take hu))) (by rw [A6.aj];exact r3) .nil;refine⟨q, .agg ((C.toList.drop o).take (P.cellsOf t)).toArray,rfl, ?_,this⟩;rw [key ((C.toList.drop o).take (P.cellsOf t)) (fun _=>by simp at hlen ⊢;omega) (fun h=>by rw [As]at h;cases h) (fun j u hu=>by
     rw [D5 e5];rw [List.getElem?_take]at hu;split at hu
     ·simpa using hu
     ·cases hu)]
    simp [As]
   ·cases AL
  ·rename_i As;have As:Ai P t=false:=by simpa using As
   obtain⟨u,hu,r⟩:=e6.get AL;refine⟨q,u,rfl, ?_,r⟩;rw [key [u] (fun h=>by rw [As]at h;cases h) (fun _=>rfl) (fun j z hz=>by
    cases j with
    |zero=>simp at hz;subst hz;rw [D5 e5];simpa using hu
    |succ j=>simp at hz)]
   simp [As]
theorem Y9 {α:Type} {g:α→Sem Value} {w:World}: ∀(l:List α) (us:List Value),l.length=us.length→(∀(i:Nat) (x:α) (u:Value),l[i]?=some x→us[i]?=some u→(g x).run P w= .ok u w)→(l.mapM g).run P w= .ok us w
 | [], [],_,_=>by simp
 | [],_::_,h,_=>by simp at h
 |_::_, [],h,_=>by simp at h
 |x::l,u::us,h,hg=>by have h0:=hg 0 x u rfl rfl;have ih:=Y9 l us (by simpa using h) fun i y z hy hz=>hg (i+1) y z (by simpa using hy) (by simpa using hz);simp [List.mapM_cons,h0,ih]
theorem oL (h:Rel c n (Bb τ) (Av τ.hp) a) (fn:Func) {rs:List SV} (Ee:fn.results.toList.mapM (M1 P τ)=some rs):
  ∃us,SR c rs us∧rs.length=us.length∧(results fn a.tmps).run P c.w= .ok (match us with| [u]=>u|us=> .tuple us.toArray) c.w:=by
 have one: ∀(r:ResultVar) (s:SV),M1 P τ r=some s→ ∃u,SR c [s] [u]∧(match r with| .tmp t=>(pure (a.tmps.getD t undef):Sem Value)| .cell b t=>do loadVar t (←asAddr (a.tmps.getD b undef))).run P c.w= .ok u c.w:=by
  intro r s hr;cases r with
  |tmp t=>simp only [M1,Ac]at hr;subst hr;exact⟨_,h.ca t,by simp⟩
  |cell b ty=>
   simp only [M1]at hr;split at hr
   ·rename_i b' o B7;split at hr
    ·rename_i ty' g cs hl;split at hr
     ·rename_i AZ;have hs:=h.ca b;rw [B7]at hs;obtain⟨q,u,hv,AH,HC⟩:=uZ h AZ hl hr hs;exact⟨u,HC,by simp only [hv];simp [asAddr,AH]⟩
     ·cases hr
    ·cases hr
   ·cases hr
 have list: ∀(l:List ResultVar) (rs:List SV),l.mapM (M1 P τ)=some rs→ ∃us,SR c rs us∧l.length=us.length∧ ∀(i:Nat) (x:ResultVar) (u:Value),l[i]?=some x→us[i]?=some u→(match x with| .tmp t=>(pure (a.tmps.getD t undef):Sem Value)| .cell b t=>do loadVar t (←asAddr (a.tmps.getD b undef))).run P c.w= .ok u c.w:=by
  intro l
  induction l with
  |nil=>intro rs Ee;simp at Ee;subst Ee;exact⟨[], .nil,rfl,by simp⟩
  |cons r l ih=>
   intro rs Ee;rw [List.mapM_cons]at Ee;simp only [Option.bind_eq_bind,An,Option.pure_def,Ac]at Ee;obtain⟨s,hs,rs',U1,rfl⟩:=Ee;obtain⟨u,h1,h2⟩:=one r s hs;obtain⟨us,h3,h4,h5⟩:=ih rs' U1;refine⟨u::us,h1.cons h3,by simp [h4],fun i x v hx hv=> ?_⟩;cases i with
   |zero=>simp at hx hv;subst hx;subst hv;exact h2
   |succ i=>exact h5 i x v (by simpa using hx) (by simpa using hv)
 obtain⟨us,h1,h2,h3⟩:=list _ _ Ee;refine⟨us,h1,h1.len, ?_⟩;have hm:=Y9 (P:=P) (w:=c.w) fn.results.toList us h2 h3;simp only [results,Array.mapM_eq_mapM_toList,map_eq_pure_bind,Sem.run_bind]
 erw [hm]
 simp only [Result.andThen_ok,Sem.run_pure]
 match us with
 | []=>simp
 | [u]=>simp
 |u::v::us=>simp
theorem Wf (h:Rel c n (Bb τ) (Av τ.hp) a) {w0:World} {v:Value} {ms:List PM} {vs:List Value} (DI: ∀t,c.A.pin t=FW ms vs t) {i:Nat} (hi:i≤99) {own0:List Bool} (hv:vs[i]?=some v) (hm:(ms[i]?).getD .ro= .mu own0) {mk:Nat→E}: ∀(ts:List TypeId) (j:Nat) {fl:List Bool} {us:List Value} {ys:List AV} {rf hs:List Nat} {es:List E} {l:List Nat},
  BP P w0 ts fl us ys rf hs→j+ts.length≤400→(∀k u,us[k]?=some u→(∃e,(0+j+k,e)∈(Cf P 0 (CP (.var 0) true) j ts fl).2)→v.cells[j+k]?=some u)→Qt P τ i mk j ts fl=some (es,l)→ ∃f o,Fc P c.w ts fl us (es.map (E.den c.ρ)) f o∧(o=l.flatMap fun t=>(c.G t).top)∧ ∀b∈f,c.ok b
 | [],j,fl,us,ys,rf,hs,es,l,hc,hle,BT,he=>by simp [Qt]at he;obtain⟨rfl,rfl⟩:=he;cases hc;exact⟨[], [], .nil,rfl,by simp⟩
 |t::ts,j,fl,us,ys,rf,hs,es,l,hc,hle,BT,he=>by
  unfold Qt at he;split at he
  ·cases he
  rename_i xs us' Cs;simp only [AD]at hle;have sub: ∀{u:Value} {us1:List Value},us=u::us1→ ∀k z,us1[k]?=some z→(∃e,(0+(j+1)+k,e)∈(Cf P 0 (CP (.var 0) true) (j+1) ts fl.tail).2)→v.cells[j+1+k]?=some z:=by
   rintro u us1 rfl k z hz ⟨e,he⟩;have:=BT (k+1) z (by simpa using hz) ⟨e,by
    simp only [Cf];split
    ·rw [show 0+j+(k+1)=0+(j+1)+k from by omega];exact List.mem_cons_of_mem _ he
    ·rw [show 0+j+(k+1)=0+(j+1)+k from by omega];exact he⟩
   rw [show j+1+k=j+(k+1)from by omega];exact this
  have fin: ∀{u:Value} {us1:List Value} {ys1:List AV} {rf1 Bj:List Nat} {el:TypeId},us=u::us1→fl.headD false=true→Cc P t=some el→BP P w0 ts fl.tail us1 ys1 rf1 Bj→ ∃f o,Fc P c.w (t::ts) fl us (es.map (E.den c.ρ)) f o∧(o=l.flatMap fun t=>(c.G t).top)∧ ∀b∈f,c.ok b:=by
   rintro u us1 ys1 rf1 Bj el rfl h1 h2 h4;obtain⟨f0,o,q1,q2,q3⟩:=Wf h DI hi hv hm ts (j+1) h4 (by omega) (sub rfl) Cs;rw [h1,h2]at he;simp only at he;have T4:v.cells[j]?=some u:=by have:=BT 0 u rfl ⟨_,by simp only [Cf,h1,h2,Nat.zero_add,Nat.add_zero];exact List.mem_cons_self ..⟩;simpa using this
   have Q3:c.A.pin (1000*i+500+j)=some u:=by
    rw [DI];unfold FW;have e1:(1000*i+500+j)/1000=i:=by omega
    have e2:(1000*i+500+j) % 1000=500+j:=by omega
    rw [if_pos (by unfold Ks;simp only [e2,Ad,decide_eq_true_eq,Bool.or_eq_true];omega),e1,e2,hv,hm];simp only;rw [if_pos (by omega),show 500+j-500=j from by omega];exact T4
   split at he
   ·rename_i e' z y' d hu;split at he
    ·rename_i hh;obtain⟨rfl,rfl,FE⟩:=hh;simp only [Ac,Prod.mk.injEq]at he;obtain⟨rfl,rfl⟩:=he;obtain⟨p1,N,p2,p3,p4⟩:=ZJ h hu;have hH:=(h.base.pins _ u Q3).2 p1;rw [hH]at p2;refine⟨_,_, .own h1 h2 (cD p4 FE) p2 q1,by simp [q2],fun b hb=> ?_⟩;rcases Ag.1 hb with hb|hb
     ·exact p3 b hb
     ·exact q3 b hb
    ·cases he
   ·rename_i e' z dl ep y' hu;split at he
    ·rename_i hh;obtain⟨EZ,CX⟩:=hh;have CX:=Ss CX;simp only [Ac,Prod.mk.injEq]at he;obtain⟨rfl,rfl⟩:=he;obtain⟨p1,_,_,p2,_⟩:=h.ents _ _ (by rw [hu];rfl);have hH:=(h.base.pins _ u Q3).2 p1;rw [hH]at p2;refine⟨_,_, .deep h1 h2 EZ CX p2 q1,by simp [q2],q3⟩
    ·cases he
   ·cases he
  cases hc with
  |own h1 h2 _ _ h4=>exact fin rfl h1 h2 h4
  |deep h1 h2 _ _ _ h4=>exact fin rfl h1 h2 h4
  | @rd _ _ _ u us1 y ys1 f rf1 Bj h1 h3 h4=>
   obtain⟨f0,o,q1,q2,q3⟩:=Wf h DI hi hv hm ts (j+1) h4 (by omega) (sub rfl) Cs;split at he
   ·rename_i e hf A7;rw [h1 hf]at A7;cases A7
   ·simp only [Ac,Prod.mk.injEq]at he;obtain⟨rfl,rfl⟩:=he;exact⟨f0,o, .skip h1 q1,q2,q3⟩
end
section
variable {P:Program} {c:Cx} {n:Nat} {a:Act} {τ:St}
theorem ZE (h:Rel c n (Bb τ) (Av τ.hp) a) {w0:World} {ms0:List PM} {vs0:List Value} (DI: ∀t,c.A.pin t=FW ms0 vs0 t): ∀(ts:List TypeId) (i:Nat) {ms:List PM} {lo:List Bool} {vs:List Value} {xs:List AV} {rf lf hs:List Nat} {bx:List E} {us:List Nat},P1 P τ i ts ms=some (bx,us)→CQ P w0 ts ms lo vs xs rf lf hs→
  (∀k,ms[k]?=ms0[i+k]?)→(∀k,vs[k]?=vs0[i+k]?)→ ∃f o,C5 P c.w ts ms vs (bx.map (E.den c.ρ)) f o∧o=us.flatMap (fun t=>(c.G t).top)∧ ∀b∈f,c.dj (LY P τ i ts ms) b
 | [],i,ms,lo,vs,xs,rf,lf,hs,bx,us,he,ha,_,_=>by simp [P1]at he;obtain⟨rfl,rfl⟩:=he;exact⟨[], [], .nil,rfl,by simp⟩
 |t::ts,i,ms,lo,vs,xs,rf,lf,hs,bx,us,he,ha,DG,Ig=>by
  obtain⟨v,vs,x,xs,f,hh,rf,lf,hs,rfl,DJ,AN⟩: ∃v vs' x xs' f hh rf' lf' AT,vs=v::vs'∧CQ P w0 ts ms.tail lo.tail vs' xs' rf' lf' AT∧(X2 P w0 t (ms.headD .ro) v x f hh∨ms.headD .ro= .ro):=by
   cases ha with
   |cons h1 h2=>exact⟨_,_,_,_,_,_,_,_,_,rfl,h2, .inl h1⟩
   | @lent _ _ _ _ _ _ x _ _ _ _ _ h1 h2 h3 h4=>exact⟨_,_,x,_, [], [],_,_,_,rfl,h4, .inr h2⟩
  have Di:ms.headD .ro=(ms0[i]?).getD .ro:=by have:=DG 0;rw [Nat.add_zero]at this;rw [←this];cases ms<;>rfl
  have Le:vs0[i]?=some v:=by have:=Ig 0;simpa using this.symm
  unfold P1 at he;split at he
  ·cases he
  rename_i bx' us' Cs;obtain⟨f2,o2,b1,b2,b3⟩:=ZE h DI ts (i+1) Cs DJ (fun k=>by rw [show i+1+k=i+(k+1)from by omega,←DG (k+1)];cases ms<;>simp) (fun k=>by rw [show i+1+k=i+(k+1)from by omega,←Ig (k+1)];simp);have see2: ∀b∈f2,c.dj (LY P τ i (t::ts) ms) b:=fun b hb=>(b3 b hb).mono fun t ht=>by simp only [LY,Ag];exact .inr ht
  split at he
  ·cases he
  rename_i hi;split at he
  ·rename_i hm;simp only [Ac,Prod.mk.injEq]at he;obtain⟨rfl,rfl⟩:=he;exact⟨f2,o2, .ro hm b1,b2,see2⟩
  ·rename_i own hm;simp only [Ac,Prod.mk.injEq]at he;obtain⟨rfl,rfl⟩:=he;exact⟨f2,o2, .va hm b1,b2,see2⟩
  ·rename_i own hm;split at he
   ·cases he
   rename_i hle;split at he
   ·rename_i es l GD;simp only [Ac,Prod.mk.injEq]at he;obtain⟨rfl,rfl⟩:=he;rw [hm]at AN;obtain⟨us0,ys0,hg,hc⟩:=AN.resolve_right fun h=>by cases h
    obtain⟨f1,o1,q1,q2,q3⟩:=Wf h DI (i:=i) (by omega) Le (by rw [←Di];exact hm) (AM P t) 0 hc (by omega) (fun k u hu he=>by
     rw [Nat.zero_add];split at hg
     ·obtain⟨rfl,_,_⟩:=hg;simpa [Value.cells]using hu
     ·obtain⟨rfl,_⟩:=hg;cases k with
      |zero=>simp at hu;subst hu;rw [hc.gh (nx:=0) (mk:=CP (.var 0) true) (j:=0) 0 v rfl he];rfl
      |succ k=>simp at hu) GD
    refine⟨f1++f2,o1++o2,C5.mu (us:=us0) (ys:=es.map (E.den c.ρ)) hm ?_ q1 b1,by rw [q2,b2,List.flatMap_append],fun b hb=>(Ag.1 hb).elim (fun hb=> .inl (q3 b hb)) (see2 b)⟩;split at hg
    ·rename_i As;rw [if_pos As,if_pos As];exact⟨hg.1,by simp only [E.den,EL.cr]⟩
    ·rename_i As;rw [if_neg As,if_neg As];obtain⟨rfl,_⟩:=hg;refine⟨rfl, ?_⟩;have mlen: ∀{ts:List TypeId} {fl:List Bool} {us:List Value} {ys:List AV} {f o:List Nat},Fc P c.w ts fl us ys f o→us.length=ys.length:=by
      intro ts fl us ys f o OA
      induction OA<;>simp_all
     have:=mlen q1
     match es,this with
     | [e],_=>rfl
   ·cases he
  ·rename_i own own' hm;rw [hm]at AN;obtain⟨ty,b,C0,ys0,h9,g1,rfl,g3,g4,rfl,g6,rfl⟩:=AN.resolve_right fun h=>by cases h
   split at he
   ·rename_i ty1 ty2 g cs Dm Gz;rw [g1]at Dm;cases Dm;split at he
    ·cases he
    rename_i A8;have A8:ty2=ty:=by simpa using A8
    subst A8;split at he
    ·rename_i es vs' GB Vd;simp only [Ac,Prod.mk.injEq]at he;obtain⟨rfl,rfl⟩:=he;obtain⟨b',C,p1,p2,p3,p4,p5,p6,p7⟩:=h.ents _ _ (by rw [Gz];rfl);have Q3:c.A.pin (1000*i)=some (.pointer (some ⟨b,0,none⟩)):=by
      rw [DI];unfold FW;have e1:(1000*i)/1000=i:=by omega
      have e2:(1000*i) % 1000=0:=by omega
      rw [if_pos (by unfold Ks;simp only [e2,Ad,decide_eq_true_eq,Bool.or_eq_true];simp;omega),e1,e2,Le,←Di,hm];rfl
     have hH:=(h.base.pins _ _ Q3).2 p1;rw [p2]at hH;cases hH;obtain⟨f1,q1,q2⟩:=Sd (P:=P) h (AM P ty2) Vd p7 GB (Nat.le_refl _);refine⟨f1++f2,_,C5.bx hm g1 rfl p5 p6 (by simp only [E.den]) q1 b1,by rw [b2];simp [p3],fun x hx=> ?_⟩;rcases Ag.1 hx with hx|hx
     ·refine(q2 x hx).mono fun t ht=> ?_;simp only [LY,hm,g1,Gz,Ag];exact .inl ht
     ·exact see2 x hx
    ·cases he
   ·cases he
end
theorem V8 {P:Program}: ∀(ts:List TypeId) (i:Nat) (ms:List PM) (lo:List Bool) (ss:List SV) (l:List (Nat × Af)),Kg P i ts ms lo=some (ss,l)→ ∀t x,(t,x)∈l→ ∀gs f,x≠ .gd gs f
 | [],i,ms,lo,ss,l,h,t,x,hx=>by simp [Kg]at h;obtain⟨_,rfl⟩:=h;simp at hx
 |t0::ts,i,ms,lo,ss,l,h,t,x,hx=>by
  unfold Kg at h;split at h
  ·rename_i s1 l1 ss1 l2 q1 q2;simp only [Ac,Prod.mk.injEq]at h;obtain⟨_,rfl⟩:=h;rcases Ag.1 hx with hx|hx
   ·have hV: ∀(b:Nat) (own:List Bool),Nj P i b t0 own=some (s1,l1)→ ∀gs f,x≠ .gd gs f:=by
     intro b own hh;unfold Nj at hh;simp only at hh;split at hh
     ·cases hh
     ·split at hh
      ·simp only [Ac,Prod.mk.injEq]at hh;obtain⟨_,rfl⟩:=hh;intro gs f;exact LB _ _ _ _ _ hx
      ·split at hh
       ·simp only [Ac,Prod.mk.injEq]at hh;obtain⟨_,rfl⟩:=hh;intro gs f;exact LB _ _ _ _ _ hx
       ·cases hh
    unfold Tc at q1;split at q1
    ·simp only [Ac,Prod.mk.injEq]at q1;rw [←q1.2]at hx;simp at hx
    ·exact hV _ _ q1
    ·exact hV _ _ q1
    ·split at q1
     ·simp only at q1;split at q1
      ·cases q1
      ·simp only [Ac,Prod.mk.injEq]at q1;obtain⟨_,rfl⟩:=q1;rcases Ae.1 hx with hx|hx
       ·cases hx;simp
       ·intro gs f;exact LB _ _ _ _ _ hx
     ·cases q1
   ·exact V8 _ _ _ _ _ _ q2 t x hx
  ·cases h
theorem u0 {P:Program} {sg:Bo} (UJ:P.follows .mixedOrders=true) (HB: ∀f s,sg f=some s→f<1000000) {f:Nat} {s:F2} {fn:Func} {t:Tr} {xs:List AV} {r:AV} (FF:P.funcs[f]?=some fn) (hs:sg f=some s) (EX:(fn.name== "runtime.NumGoroutine")=false)
  (DA:QF P sg f=some t) (Bh:Kk P fn s r=true) (hlen:xs.length=fn.params.size+fn.nfree) (hd:t.den (Cd P sg) (fun r'=>r'=r) (fun _ _ _ _=>False) [] xs):NL P s f xs r:=by
 unfold QF at DA;simp only [FF,hs]at DA;split at DA
 ·rename_i code σ C8 A3;split at DA
  ·rename_i t0 hex;have Dt:s.ft.length≤fn.nfree:=by
    have A3:=A3;unfold Xk at A3;split at A3
    ·cases A3
    ·simp only at A3;split at A3
     ·cases A3
     ·rename_i At;simp only [Bool.or_eq_true,decide_eq_true_eq,not_or,Nat.not_lt]at At;exact At.2
   refine⟨fn,FF,by rw [C8];rfl,EX,Bh,hlen,Dt,fun w vs rf lf AT Ao ER Ho FJ Dl=> ?_⟩;unfold Xk at A3;split at A3
   ·cases A3
   rename_i ss l B2;simp only at A3;split at A3
   ·cases A3
   rename_i At;simp only [Bool.or_eq_true,decide_eq_true_eq,not_or,Nat.not_lt]at At;simp only [Ac]at A3;subst A3;let pin:Nat→Option Value:=FW s.bj vs;let LO:Value→AV→Prop:=fun v y=> ∃f,Rd w [v] [y] f∧ ∀b∈f,¬b∈AT;let c0:Cx:={ρ:=xs,w:=w,G:=fun _=>⟨[], []⟩,K:=fun _ _=>False,H:=fun _ _=>undef,A:=⟨fun b=>b∈rf,pin,LO⟩,w0:=w,Mu:=fun b=>b∈AT,U:=fun _=>False,E:=fun _=>0}
   have Dn:vs.length=xs.length:=by
    have: ∀{ts:List TypeId} {ms:List PM} {lo:List Bool} {vs:List Value} {xs:List AV} {rf lf hs:List Nat},CQ P w ts ms lo vs xs rf lf hs→vs.length=xs.length:=by
     intro ts ms lo vs xs rf lf hs h
     induction h<;>simp_all
    exact this Ao
   obtain⟨recs,e1,e2,e3,e4,e5,e6,e7,e8⟩:=ZN (c:=c0) (ms0:=s.bj) (vs0:=vs) (fn.params.toList++s.ft) 0 B2 Ao (fun k x hx=>by simp only [E.den,Nat.zero_add];show(xs[k]?).getD .undef=x;rw [hx];rfl) (fun k=>by simp) (fun k=>by simp);have aft:=Cx.cy (c:=c0) (w':=w) (recs:=recs) (fun t g hk=>hk.elim) e4 (fun r _ _ h=>h);have Yf: ∀r∈recs,r.tag<100000:=fun r hr=>by have:=e3 r hr;simp only [Nat.zero_add,AB,Array.length_toList]at this;omega
   let c:Cx:={c0.cx w recs with U:=fun t=>t<100000}
   have N6: ∀b∈rf,(c0.cx w recs).ok b:=by
    intro b hb;refine⟨fun⟨t,ht⟩=> ?_, .inl hb⟩;by_cases hT: ∃r∈recs,r.tag=t
    ·obtain⟨r,hr,rfl⟩:=hT;rw [Cx.c6 e4 hr]at ht;exact ER b (by rw [←e2];exact List.mem_flatMap.2 ⟨r,hr,ht⟩) hb
    ·rw [Cx.ch fun r hr hh=>hT ⟨r,hr,hh⟩]at ht;simp [c0]at ht
   have BD: ∀(k:Nat) (v:Value) (x:AV),(s.bj[k]?).getD .ro= .ro→vs[k]?=some v→xs[k]?=some x→LO v x:=by
    have key: ∀{ts:List TypeId} {ms:List PM} {lo:List Bool} {vs:List Value} {xs:List AV} {rf lf hs:List Nat},CQ P w ts ms lo vs xs rf lf hs→ ∀(k:Nat) (v:Value) (x:AV),(ms[k]?).getD .ro= .ro→vs[k]?=some v→xs[k]?=some x→ ∃f,Rd w [v] [x] f∧ ∀b∈f,b∈rf∨b∈lf:=by
     intro ts ms lo vs xs rf lf hs h
     induction h with
     |nil=>intro k v x _ h _;simp at h
     | @cons t ts ms lo v vs x xs f h rf lf hs AN _ ih=>
      intro k v' x' h1 h2 h3;cases k with
      |zero=>
       have hm:ms.headD .ro= .ro:=by cases ms<;>exact h1
       rw [hm]at AN;simp at h2 h3;subst h2;subst h3;exact⟨f,AN.1,fun b hb=> .inl (by simp [hb])⟩
      |succ k=>obtain⟨f',q1,q2⟩:=ih k v' x' (by cases ms with|nil=>rfl|cons _ _=>simpa using h1) (by simpa using h2) (by simpa using h3);exact⟨f',q1,fun b hb=>(q2 b hb).imp (fun h=>by simp [h]) id⟩
     | @lent t ts ms lo v vs x xs f rf lf hs _ _ hr _ ih=>
      intro k v' x' h1 h2 h3;cases k with
      |zero=>simp at h2 h3;subst h2;subst h3;exact⟨f,hr,fun b hb=> .inr (by simp [hb])⟩
      |succ k=>obtain⟨f',q1,q2⟩:=ih k v' x' (by cases ms with|nil=>rfl|cons _ _=>simpa using h1) (by simpa using h2) (by simpa using h3);exact⟨f',q1,fun b hb=>(q2 b hb).imp id (fun h=>by simp [h])⟩
     | @free ms lo v vs x xs f rf lf hs hr _ ih=>
      intro k v' x' h1 h2 h3;cases k with
      |zero=>simp at h2 h3;subst h2;subst h3;exact⟨f,hr,fun b hb=> .inl (by simp [hb])⟩
      |succ k=>obtain⟨f',q1,q2⟩:=ih k v' x' (by cases ms with|nil=>rfl|cons _ _=>simpa using h1) (by simpa using h2) (by simpa using h3);exact⟨f',q1,fun b hb=>(q2 b hb).imp (fun h=>by simp [h]) id⟩
    intro k v x h1 h2 h3;obtain⟨f,q1,q2⟩:=key Ao k v x h1 h2 h3;exact⟨f,q1,fun b hb hh=>(q2 b hb).elim (ER b hh) (Ho b hh)⟩
   obtain⟨g1,g2⟩:=e8 _ aft N6 BD;have kc:CU (c0.cx w recs) c:=⟨rfl,rfl,fun _ _ hb=>hb,fun _ _ _=>rfl,fun _ _ hk=>⟨hk,rfl⟩,fun _ _ _=>⟨Nat.le_refl _,fun _=>⟨rfl,fun _ _ _=>rfl⟩⟩⟩
   have G0:fn.params.size+fn.nfree=vs.length:=by rw [Dn,hlen]
   have E5:(ss++(List.range (fn.nfree-s.ft.length)).map fun j=>SV.e (.var (fn.params.size+s.ft.length+j))).length=vs.length:=by rw [AB,e6,List.length_map,List.length_range,AB,Array.length_toList];omega
   have g1':SR c (ss++(List.range (fn.nfree-s.ft.length)).map fun j=>SV.e (.var (fn.params.size+s.ft.length+j))) vs:=by
    have:=g1.keep kc;have K7:(fn.params.toList++s.ft).length=fn.params.size+s.ft.length:=by rw [AB,Array.length_toList]
    rw [show vs.length-(fn.params.toList++s.ft).length=fn.nfree-s.ft.length from by omega]at this;simpa using this
   have hG: ∀t,(∃r∈recs,r.tag=t∧c.G t=⟨r.top, []⟩)∨c.G t=⟨[], []⟩:=fun t=>by
    by_cases hT: ∃r∈recs,r.tag=t
    ·obtain⟨r,hr,rfl⟩:=hT;exact .inl ⟨r,hr,rfl,Cx.c6 (w':=w) e4 hr⟩
    ·exact .inr (Cx.ch (w':=w) fun r hr hh=>hT ⟨r,hr,hh⟩)
   have FI: ∀r∈recs,∀b∈r.top,b∈AT:=fun r hr b hb=>by rw [←e2];exact List.mem_flatMap.2 ⟨r,hr,hb⟩
   have DF: ∀b∈AT,b<w.heap.size:=by
    have: ∀{ts:List TypeId} {ms:List PM} {lo:List Bool} {vs:List Value} {xs:List AV} {rf lf hs:List Nat},CQ P w ts ms lo vs xs rf lf hs→ ∀b∈hs,b<w.heap.size:=by
     intro ts ms lo vs xs rf lf hs h
     induction h with
     |nil=>simp
     |lent _ _ _ _ ih=>exact ih
     | @cons t ts ms lo v vs x xs f h rf lf hs AN _ ih=>
      intro b hb;rcases Ag.1 hb with hb|hb
      ·cases hm:ms.headD .ro with
       |ro=>rw [hm]at AN;rw [AN.2]at hb;simp at hb
       |va own=>rw [hm]at AN;obtain⟨_,_,_,hc⟩:=AN;exact hc.inb.2 b hb
       |mu own=>rw [hm]at AN;obtain⟨_,_,_,hc⟩:=AN;exact hc.inb.2 b hb
       |bx own own'=>
        rw [hm]at AN;obtain⟨_,b0,_,_,_,_,_,hh,_,_,hc,rfl⟩:=AN;rcases Ae.1 hb with rfl|hb
        ·exact EI hh
        ·exact hc.inb.2 b hb
      ·exact ih b hb
     |free _ _ ih=>exact ih
    exact this Ao
   have AX: ∀t e,Av l t=some e→ ∃r∈recs,r.tag=t∧r.aw=e:=fun t e he=>by have:=Hc he;rw [e1]at this;obtain⟨r,hr,OO⟩:=List.mem_map.1 this;simp only [AA.pair,Prod.mk.injEq]at OO;exact⟨r,hr,OO.1,OO.2⟩
   let F:Fix:=⟨w,⟨fun b=>b∈rf,pin,LO⟩,fun b=>b∈AT,fun t v h=>by
    simp only [pin,FW]at h;split at h
    ·assumption
    ·cases h⟩
   have Aj:Rel c fn.ntmps (Bb {sl:=ss++(List.range (fn.nfree-s.ft.length)).map (fun j=>SV.e (.var (fn.params.size+s.ft.length+j)))++List.replicate (fn.ntmps-(fn.params.size+fn.nfree)) .undef,hp:=l,nx:=100000,nv:=fn.params.size+fn.nfree}) (Av l) {tmps:=vs.toArray++Array.replicate (fn.ntmps-vs.toArray.size) undef,defers:= []}:=by
    refine⟨rfl,by simp;omega,⟨rfl,rfl,rfl,Nat.le_refl _,fun t v hp=>⟨?_,fun hk=> ?_⟩,fun b _ _=>rfl,Dl,fun v y h=>h⟩,fun i=> ?_,fun t e hr=> ?_,fun t hn=> ?_,⟨fun t=> ?_,fun t u J3 b hb Bx=> ?_,fun t b hb=> ?_,fun t b hb=> ?_⟩,fun t g hk=> ?_,fun t e he=> ?_⟩
    ·have:=F.ky t v hp;unfold Ks at this;simp only [Ad,decide_eq_true_eq]at this;exact this.1
    ·rcases hk with hk|⟨r,hr,rfl,AO,_⟩
     ·exact hk.elim
     ·exact(aft.new r hr v (e5 r hr v hp)).2.2
    ·have TY:SR c (ss++(List.range (fn.nfree-s.ft.length)).map (fun j=>SV.e (.var (fn.params.size+s.ft.length+j)))++List.replicate (fn.ntmps-(fn.params.size+fn.nfree)) .undef) (vs++List.replicate (fn.ntmps-(fn.params.size+fn.nfree)) undef):=by
      refine g1'.app ?_;have: ∀k,SR c (List.replicate k SV.undef) (List.replicate k undef):=by
       intro k
       induction k with
       |zero=>exact .nil
       |succ k ih=>exact .undef ih
      exact this _
     unfold Bb;simp only;cases hq:(ss++(List.range (fn.nfree-s.ft.length)).map (fun j=>SV.e (.var (fn.params.size+s.ft.length+j)))++List.replicate (fn.ntmps-(fn.params.size+fn.nfree)) SV.undef)[i]? with
     |none=>exact .undef .nil
     |some s'=>
      obtain⟨v',OZ,HC⟩:=TY.get hq;have:(vs.toArray++Array.replicate (fn.ntmps-vs.toArray.size) undef).getD i undef=v':=by
       rw [Array.getD_eq_getD_getElem?];have e:(vs.toArray++Array.replicate (fn.ntmps-vs.toArray.size) undef)[i]?=(vs++List.replicate (fn.ntmps-(fn.params.size+fn.nfree)) undef)[i]?:=by rw [←Array.getElem?_toList];simp [G0]
       rw [e,OZ];rfl
      rw [this];exact HC
    ·cases hh:Av l t with
     |none=>rw [hh]at hr;exact hr.elim
     |some e0=>
      obtain⟨r,CC,rfl,rfl⟩:=AX t e0 hh;have A3:=(g2 r CC).keep kc rfl rfl (fun g hg=>hg) (fun b _=>rfl);rw [hh]at hr;cases he:r.aw with
      |gd gs e'=>rw [he]at A3 hr;obtain⟨_,rfl⟩:=hr;have AO:=(e3 r CC).2.2;exfalso;exact V8 _ _ _ _ _ _ B2 r.tag r.aw (by rw [e1];exact List.mem_map.2 ⟨r,CC,rfl⟩) _ _ he
      |_=>rw [he]at A3 hr;simp only [BS]at hr;subst hr;exact A3
    ·rcases hG t with⟨r,hr,rfl,hg⟩|hg
     ·exfalso;have GC:(r.tag,r.aw)∈l:=by rw [e1];exact List.mem_map.2 ⟨r,hr,rfl⟩
      have: ∃e,Av l r.tag=some e:=by
       have: ∀(l:List (Nat × Af)),(r.tag,r.aw)∈l→ ∃e,Av l r.tag=some e:=by
        intro l
        induction l with
        |nil=>intro h;simp at h
        |cons p l ih=>
         obtain⟨u,f'⟩:=p;intro h;simp only [Av];split
         ·exact⟨_,rfl⟩
         ·rename_i hu;rcases Ae.1 h with h|h
          ·cases h;exact absurd rfl hu
          ·exact ih h
       exact this l GC
      obtain⟨e,he⟩:=this;obtain⟨r',CC,J2,rfl⟩:=AX _ _ he;have Mh: ∀gs f',r'.aw≠ .gd gs f':=by intro gs f' BY;exact V8 _ _ _ _ _ _ B2 r'.tag r'.aw (by rw [e1];exact List.mem_map.2 ⟨r',CC,rfl⟩) _ _ BY
      apply hn r'.aw;rw [he];cases UZ:r'.aw with
      |gd gs f'=>exact absurd UZ (Mh gs f')
      |_=>simp [BS]
     ·rw [hg];simp
    ·rcases hG t with⟨r,hr,rfl,hg⟩|hg
     ·rw [hg];rw [←e2]at FJ;simpa [GI.own]using(PI FJ).1 r hr
     ·rw [hg];simp [GI.own]
    ·rcases hG t with⟨r,hr,rfl,hg⟩|hg
     ·rcases hG u with⟨q,hq,rfl,BY⟩|BY
      ·rw [hg]at hb;rw [BY]at Bx;simp only [GI.own,List.append_nil]at hb Bx;rw [←e2]at FJ;obtain⟨i,hi⟩:=List.getElem?_of_mem hr;obtain⟨j,hj⟩:=List.getElem?_of_mem hq;have:=(PI FJ).2 i j r q b hi hj hb Bx;subst this;rw [hi]at hj;cases hj;exact J3 rfl
      ·rw [BY]at Bx;simp [GI.own]at Bx
     ·rw [hg]at hb;simp [GI.own]at hb
    ·rcases hG t with⟨r,hr,rfl,hg⟩|hg
     ·rw [hg]at hb;simp only [GI.own,List.append_nil]at hb;exact .inr (FI r hr b hb)
     ·rw [hg]at hb;simp [GI.own]at hb
    ·rcases hG t with⟨r,hr,rfl,hg⟩|hg
     ·rw [hg]at hb;simp only [GI.own,List.append_nil]at hb;exact DF b (FI r hr b hb)
     ·rw [hg]at hb;simp [GI.own]at hb
    ·rcases hk with hk|⟨r,hr,rfl,_⟩
     ·exact hk.elim
     ·exact Yf r hr
    ·obtain⟨r,hr,rfl,_⟩:=AX t e he;exact Yf r hr
   have NW:Fv F xs {sl:=ss++(List.range (fn.nfree-s.ft.length)).map (fun j=>SV.e (.var (fn.params.size+s.ft.length+j)))++List.replicate (fn.ntmps-(fn.params.size+fn.nfree)) .undef,hp:=l,nx:=100000,nv:=fn.params.size+fn.nfree} {tmps:=vs.toArray++Array.replicate (fn.ntmps-vs.toArray.size) undef,defers:= []} w:=by
    refine⟨c,rfl,rfl,rfl,rfl,rfl,hlen,fun t ht=>ht, ?_⟩;have hl:(ss++(List.range (fn.nfree-s.ft.length)).map (fun j=>SV.e (.var (fn.params.size+s.ft.length+j)))++List.replicate (fn.ntmps-(fn.params.size+fn.nfree)) SV.undef).length=fn.ntmps:=by rw [AB,E5,List.length_replicate];omega
    show Rel c (ss++(List.range (fn.nfree-s.ft.length)).map (fun j=>SV.e (.var (fn.params.size+s.ft.length+j)))++List.replicate (fn.ntmps-(fn.params.size+fn.nfree)) SV.undef).length _ _ _;rw [hl];exact Aj
   refine calls_of_wp FF C8 ?_;have Yc:H3 (fun _ _ _ _=>False):=fun _ _ _ _ _ _ h=>h;have T5:=Tr.dn _ Yc t0 DA hd;refine qE (sZ UJ (xI (sg:={sg with dp:=s.dp,wn:=s.wn,fz:=s.fz}) HB) vU) uH code [] _ _ t0 hex F (fun r'=>r'=r) _ [] xs _ w (PE Yc _ _) T5 NW _ fun i x τ ρ' a' w' hp hl Cl=> ?_;obtain⟨tr,d',q1,q2,q3⟩:=hl;have main:Tk P fn s τ=some tr→a'.defers= []∧ ∃v,(results fn a'.tmps).run P w'= .ok v w'∧ ∃v',Ending.returned v= .returned v'∧gS P fn s w vs rf AT r v' w':=by
    intro Dg;obtain⟨c2,rfl,rfl,k1,k2,k3,k4,k5,k6⟩:=Cl;unfold Tk at Dg;split at Dg
    ·rename_i rs bx us Ee Yj;split at Dg
     ·rename_i es vs' GB UR;split at Dg
      ·cases Dg
      rename_i N8;simp only [Bool.or_eq_true,Bool.not_eq_true',not_or,Bool.not_eq_false,Bool.not_eq_true]at N8;obtain⟨BF,QQ⟩:=N8;have BF:=MU BF;simp only [Ac]at Dg;subst Dg;have hr:_=r:=q3;obtain⟨rvs,z1,z2,z3⟩:=oL k6 fn Ee;obtain⟨f1,y1,y2⟩:=Zw (P:=P) k6 fn.resultTypes.toList UR z1 GB (Nat.le_refl _);obtain⟨f2,o2,x1,x2,x3⟩:=ZE (P:=P) k6 (w0:=w) (ms0:=s.bj) (vs0:=vs) (fun t=>by rw [k2]) (fn.params.toList++s.ft) 0 Yj Ao (fun k=>by simp) (fun k=>by simp);refine⟨k6.defers,_,z3,_,rfl,⟨?_, ?_⟩⟩
      ·
       have hR: ∃R,R=(match es with| .cons x .nil=>x|es=>E.tup es).den c2.ρ∧IB P c2.w fn.resultTypes.toList s.res (match rvs with| [u]=>u|us=> .tuple us.toArray) R f1 (vs'.flatMap fun t=>(c2.G t).top):=by
        refine⟨_,rfl, ?_⟩;have yl:es.den c2.ρ=es.den c2.ρ:=rfl;generalize OY:fn.resultTypes.toList=ts at y1 ⊢;generalize B9:es.den c2.ρ=ys at y1;generalize (vs'.flatMap fun t=>(c2.G t).top)=o1 at y1 ⊢;cases y1 with
        |nil=>
         cases es with
         |nil=>exact⟨[], [],rfl,by simp [E.den,EL.den], .nil⟩
         |cons e es=>simp [EL.den]at B9
        | @cons t ts fl v vs2 x xs2 f h rf2 AL w1 w2=>
         cases w2 with
         |nil=>
          cases es with
          |nil=>simp [EL.den]at B9
          |cons e es=>
           cases es with
           |nil=>simp only [EL.den,List.cons.injEq,and_true]at B9;subst B9;simpa [IB]using w1
           |cons e2 es=>simp [EL.den]at B9
         | @cons t2 ts2 fl2 v2 vs3 x2 xs3 f2' h2 rf3 E4 w3 w4=>
          cases es with
          |nil=>simp [EL.den]at B9
          |cons e es=>
           cases es with
           |nil=>simp [EL.den]at B9
           |cons e2 es=>refine⟨v::v2::vs3,x::x2::xs3,rfl, ?_, .cons w1 (.cons w3 w4)⟩;simp only [E.den,B9]
       obtain⟨R,iF,Mf⟩:=hR;have Ba: ∀b∈(vs'.flatMap fun t=>(c2.G t).top)++o2,∃t∈vs'++us,b∈(c2.G t).top:=fun b hb=>by
        rcases Ag.1 hb with hb|hb
        ·obtain⟨t,ht,B3⟩:=List.mem_flatMap.1 hb;exact⟨t,by simp [ht],B3⟩
        ·rw [x2]at hb;obtain⟨t,ht,B3⟩:=List.mem_flatMap.1 hb;exact⟨t,by simp [ht],B3⟩
       have Hn: ∀b t,b∈(c2.G t).top→b∈AT∨w.heap.size≤b:=fun b t hb=>by
        rcases k6.gw.allow t b (by simp [GI.own,hb])with h|h
        ·simp only [Cx.B,k1]at h;exact .inr h
        ·rw [k3]at h;exact .inl h
       refine⟨R,bx.map (E.den c2.ρ),f1,_,f2,o2, ?_,Mf,x1, ?_,fun b hb=> ?_,fun b hb=> ?_⟩
       ·rw [←hr,iF];cases bx with
        |nil=>rfl
        |cons b bx=>simp only [List.isEmpty_cons,AY,if_false,E.den,EL.cr,List.map_cons];rfl
       ·rw [x2,←List.flatMap_append];have: ∀l:List Nat,l.Nodup→(l.flatMap fun t=>(c2.G t).top).Nodup:=by
         intro l
         induction l with
         |nil=>intro _;simp
         |cons t l ih=>intro hl;rw [List.nodup_cons]at hl;rw [List.flatMap_cons,List.nodup_append];refine⟨(List.nodup_append.1 (k6.gw.nodup t)).1,ih hl.2,fun x hx y hy FO=> ?_⟩;subst FO;obtain⟨u,hu,Vh⟩:=List.mem_flatMap.1 hy;exact k6.gw.bq t u (fun hh=>hl.1 (hh▸hu)) x (by simp [GI.own,hx]) (by simp [GI.own,Vh])
        exact this _ BF
       ·obtain⟨t,ht,B3⟩:=Ba b hb;exact⟨Hn b t B3,k6.gw.inb t b (by simp [GI.own,B3])⟩
       ·have GF:c2.dj (Qe P τ fn.resultTypes.toList s.res rs++LY P τ 0 (fn.params.toList++s.ft) s.bj) b:=by
         rcases Ag.1 hb with hb|hb
         ·exact(y2 b hb).mono fun t ht=>by simp [ht]
         ·exact(x3 b hb).mono fun t ht=>by simp [ht]
        rcases GF with Au|⟨t,ht,B3⟩
        ·refine⟨fun ho=> ?_, ?_⟩
         ·obtain⟨u,_,GA⟩:=Ba b ho;exact Au.1 ⟨u,GA⟩
         ·rcases Au.2 with h|h|h
          ·rw [k2]at h;exact .inl h
          ·simp only [Cx.B,k1]at h;exact .inr (.inr h)
          ·rw [k3]at h;exact .inr (.inl h)
        ·refine⟨fun ho=> ?_, .inr (Hn b t B3)⟩;obtain⟨u,hu,GA⟩:=Ba b ho;have J3:t≠u:=by
          rintro rfl;rw [List.any_eq_false]at QQ;have:=QQ t ht;simp only [List.contains_eq_mem,decide_eq_true_eq]at this;exact this hu
         exact k6.gw.bq t u J3 b (by simp [GI.own,B3]) (by simp [GI.own,GA])
      ·have hb:=k6.base;refine⟨?_, ?_, ?_, ?_,fun k hk hn=> ?_⟩
       ·rw [hb.os,k1]
       ·rw [hb.tape,k1]
       ·rw [hb.output,k1]
       ·have:=hb.size;rw [k1]at this;exact this
       ·have:=hb.block k (by rw [k1];exact hk) (by rw [k3];exact hn);rw [k1]at this;exact this
     ·cases Dg
    ·cases Dg
   cases x with
   |normal=>exact main q1
   |ret=>exact main q1
   |exit id=>cases q1
  ·cases DA
 ·cases DA
end Go.Proofs.YtollgpkegmbpmaaGreatDoor
end

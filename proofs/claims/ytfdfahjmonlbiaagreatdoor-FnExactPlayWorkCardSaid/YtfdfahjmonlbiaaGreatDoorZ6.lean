/- Parts of a proof, joined: WT, WU, WV, WW. -/
import Derived.Test.YtfdfahjmonlbiaaGreatDoorZ5
set_option linter.unusedVariables false
set_option linter.unusedSimpArgs false
section
namespace Go.Proofs.YtfdfahjmonlbiaaGreatDoor
open Go.RowKit
def Hx (ms:List PM) (vs:List Value) (t:Nat):Option Value:=
 if NG t then(match vs[t/1000]?,(ms[t/1000]?).getD .ro with
  |some v, .bx .. =>if t % 1000=0 then some v else none
  |some v, .mu _=>if 500≤t % 1000 then v.cells[t % 1000-500]? else none
  |_,_=>none)
 else none
section
variable {P:Program} {c:Cx} {w:World}
theorem Cp.jf {ts:List TypeId} {fl:List Bool} {us:List Value} {ys:List AV} {rf hs:List Nat} (h:Cp P w ts fl us ys rf hs) {nx:Nat} {mk:Nat→E} {j:Nat}: ∀(k:Nat) (u:Value),us[k]?=some u→(∃e,(nx+j+k,e)∈(CO P nx mk j ts fl).2)→u.cells= #[u]:=by
 induction h generalizing j with
 |nil=>intro k u hu _;simp at hu
 | @deep t ts fl el e9 z9 l9 u us y ys top rf hs h1 h2 S2 PR h3 _ ih=>
  intro k u' hu he;cases k with
  |zero=>simp at hu;subst hu;obtain⟨p,q,r,rfl⟩:=h3.head;rfl
  |succ k=>
   refine ih (j:=j+1) k u' (by simpa using hu) ?_;obtain⟨e,he⟩:=he;simp only [CO,h1,h2,Ag,Prod.mk.injEq]at he;rcases he with⟨he,_⟩|he
   ·omega
   ·exact⟨e,by rw [show nx+(j+1)+k=nx+j+(k+1)from by omega];exact he⟩
 | @own t ts fl el u us y ys top N rf hs h1 h2 S3 h3 _ ih=>
  intro k u' hu he;cases k with
  |zero=>simp at hu;subst hu;obtain⟨xs,_,_,_,⟨_,⟨a,rfl⟩,_⟩|⟨g,cap,C,rfl,_⟩⟩:=h3<;>rfl
  |succ k=>
   refine ih (j:=j+1) k u' (by simpa using hu) ?_;obtain⟨e,he⟩:=he;simp only [CO,h1,h2,Ag,Prod.mk.injEq]at he;rcases he with⟨he,_⟩|he
   ·omega
   ·exact⟨e,by rw [show nx+(j+1)+k=nx+j+(k+1)from by omega];exact he⟩
 | @rd t ts fl u us y ys f rf hs h1 h3 _ ih=>
  intro k u' hu he;obtain⟨e,he⟩:=he;have eZ:(CO P nx mk j (t::ts) fl).2=(CO P nx mk (j+1) ts fl.tail).2:=by
   simp only [CO];split
   ·rename_i h8 h9;rw [h1 h8]at h9;cases h9
   ·rfl
  rw [eZ]at he;cases k with
  |zero=>
   exfalso;have key: ∀(ts:List TypeId) (fl:List Bool) (j' t':Nat) (e':Aj),(t',e')∈(CO P nx mk j' ts fl).2→nx+j'≤t':=by
    intro ts
    induction ts with
    |nil=>intro fl j' t' e' h;simp [CO]at h
    |cons a ts ih2=>
     intro fl j' t' e' h;simp only [CO]at h;split at h
     ·simp only [Ag,Prod.mk.injEq]at h;rcases h with⟨h,_⟩|h
      ·omega
      ·have:=ih2 _ _ _ _ h;omega
     ·have:=ih2 _ _ _ _ h;omega
   have:=key _ _ _ _ _ he;omega
  |succ k=>exact ih (j:=j+1) k u' (by simpa using hu) ⟨e,by rw [show nx+(j+1)+k=nx+j+(k+1)from by omega];exact he⟩
theorem zto {i b:Nat} (hb:b+400≤1000) {t:TypeId} {own:List Bool} {s:SV} {l:List (Nat × Aj)} {v:Value} {x:AV} {rf hs:List Nat} (h:SP P i b t own=some (s,l)) (hv:PK P w t own v x rf hs) (hx:(E.var i).den c.ρ=x):
  ∃recs:List AW,l=recs.map AW.pair∧recs.flatMap AW.top=hs∧(∀r∈recs,1000*i+b≤r.tag∧r.tag<1000*i+1000∧r.new.isSome)∧(recs.map AW.tag).Nodup∧(∀r∈recs,r.new=v.cells[r.tag-(1000*i+b)]?)∧
   ∀c',E5 c c' w recs→(∀b∈rf,c'.ok b)→SR c' [s] [v]∧ ∀r∈recs,Dh c' r.tag r.bq:=by
 obtain⟨us,ys,hg,hc⟩:=hv;unfold SP at h;simp only at h;split at h
 ·cases h
 rename_i hle;split at hg
 ·rename_i AE;obtain⟨rfl,rfl,CS⟩:=hg;obtain⟨recs,e1,e2,e3,e4,e4',e5⟩:=Rp (c:=c) (nx:=1000*i+b) (mk:=DD (.var i) (Aq P t)) hc 0 (by rw [AE];exact V6 hx);rw [if_pos AE]at h;simp only [Ah,Prod.mk.injEq]at h;obtain⟨rfl,rfl⟩:=h;refine⟨recs,e1,e2,fun r hr=>by have:=e3 r hr;exact⟨by omega,by omega,this.2.2⟩,e4,fun r hr=>by rw [e4' r hr];simp [Value.cells],fun c' ha Az=> ?_⟩;obtain⟨q1,q2⟩:=e5 c' ha Az;exact⟨.agg CS (by rw [Bz.bb];exact q1) .nil,q2⟩
 ·rename_i AE;obtain⟨rfl,rfl⟩:=hg;have G5:Aq P t=false:=by simpa using AE
  obtain⟨recs,e1,e2,e3,e4,e4',e5⟩:=Rp (c:=c) (nx:=1000*i+b) (mk:=DD (.var i) (Aq P t)) hc 0 (by
   intro k z hz;cases k with
   |zero=>simp at hz;subst hz;rw [G5];simpa [DD]using hx
   |succ k=>simp at hz)
  rw [if_neg AE]at h;split at h
  ·rename_i s' Bb;simp only [Ah,Prod.mk.injEq]at h;obtain⟨rfl,rfl⟩:=h;refine⟨recs,e1,e2,fun r hr=>by have:=e3 r hr;exact⟨by omega,by omega,this.2.2⟩,e4,fun r hr=> ?_,fun c' ha Az=> ?_⟩
   ·have CT:=e4' r hr;have h3:=e3 r hr;rw [CT,Nat.add_zero];have hlen:=hc.len;have K8:r.tag-(1000*i+b)=0:=by
     have:=hlen.1;simp at this;omega
    rw [K8];have:=hc.jf (nx:=1000*i+b) (mk:=DD (.var i) (Aq P t)) (j:=0) 0 v rfl ⟨r.bq,by rw [e1];exact List.mem_map.2 ⟨r,hr,by simp [AW.pair];omega⟩⟩;rw [this];rfl
   ·obtain⟨q1,q2⟩:=e5 c' ha Az;rw [Bb]at q1;exact⟨q1,q2⟩
  ·cases h
theorem zvR {ms0:List PM} {vs0:List Value}: ∀(ts:List TypeId) (i:Nat) {ms:List PM} {lo:List Bool} {ss:List SV} {l:List (Nat × Aj)} {vs:List Value} {xs:List AV} {rf lf hs:List Nat},Nq P i ts ms lo=some (ss,l)→DE P w ts ms lo vs xs rf lf hs→(∀k x,xs[k]?=some x→(E.var (i+k)).den c.ρ=x)→(∀k,ms[k]?=ms0[i+k]?)→(∀k,vs[k]?=vs0[i+k]?)→
  ∃recs:List AW,l=recs.map AW.pair∧recs.flatMap AW.top=hs∧(∀r∈recs,1000*i≤r.tag∧r.tag<1000*(i+ts.length)∧r.new.isSome)∧(recs.map AW.tag).Nodup∧(∀r∈recs,∀v,Hx ms0 vs0 r.tag=some v→r.new=some v)∧ss.length=ts.length∧ts.length≤vs.length∧
   ∀c',E5 c c' w recs→(∀b∈rf,c'.ok b)→(∀(k:Nat) (v:Value) (x:AV),(ms[k]?).getD .ro= .ro→vs[k]?=some v→xs[k]?=some x→c'.A.lo v x)→SR c' (ss++(List.range (vs.length-ts.length)).map fun j=>SV.e (.var (i+ts.length+j))) vs∧ ∀r∈recs,Dh c' r.tag r.bq
 | [],i,ms,lo,ss,l,vs,xs,rf,lf,hs,h,ha,hx,_,_=>by
  simp [Nq]at h;obtain⟨rfl,rfl⟩:=h;have key: ∀{ms:List PM} {lo:List Bool} {vs:List Value} {xs:List AV} {rf lf hs:List Nat},DE P w [] ms lo vs xs rf lf hs→hs= []∧Rd w vs xs rf:=by
   intro ms lo vs
   induction vs generalizing ms lo with
   |nil=>intro xs rf lf hs h;cases h;exact⟨rfl, .nil⟩
   |cons v vs ih=>
    intro xs rf lf hs h;cases h with
    |free h1 h2=>obtain⟨rfl,h3⟩:=ih h2;exact⟨rfl,h1.app h3⟩
  obtain⟨rfl,Dz⟩:=key ha;refine⟨[],rfl,rfl,by simp,by simp,by simp,rfl,by simp,fun c' FB Az _=>⟨?_,by simp⟩⟩;have frees: ∀(vs:List Value) {xs:List AV} {rf:List Nat} (j:Nat),Rd w vs xs rf→(∀k x,xs[k]?=some x→(E.var (i+j+k)).den c.ρ=x)→(∀b∈rf,c'.ok b)→SR c' ((List.range vs.length).map fun q=>SV.e (.var (i+j+q))) vs:=by
   intro vs
   induction vs with
   |nil=>intro xs rf j h _ _;simpa using SR.nil
   |cons v vs ih=>
    intro xs rf j h hx Az;cases xs with
    |nil=>have:=h.len;simp at this
    |cons x xs=>
     obtain⟨f1,f2,rfl,h1,h2⟩:=h.cg;have h3:=ih (j+1) h2 (fun k y hy=>by rw [show i+(j+1)+k=i+j+(k+1)from by omega];exact hx (k+1) y (by simpa using hy)) fun b hb=>Az b (by simp [hb]);rw [Ap,List.range_succ_eq_map,List.map_cons,List.map_map];refine SR.cons (.e (f:=f1) (by rw [FB.w,FB.ρ];have:=hx 0 x rfl;simp only [Nat.add_zero]at this ⊢;rw [this];exact h1) (fun b hb=>Az b (by simp [hb])) .nil) ?_;have e:((fun q=>SV.e (.var (i+j+q)))∘Nat.succ)=fun q=>SV.e (.var (i+(j+1)+q)):=by funext q;simp only [Function.comp_apply];rw [show i+j+q.succ=i+(j+1)+q from by omega]
     rw [e];exact h3
  simpa using frees vs 0 Dz (by simpa using hx) Az
 |t::ts,i,ms,lo,ss,l,vs,xs,rf,lf,hs,h,ha,hx,EF,Kn=>by
  unfold Nq at h;split at h
  ·rename_i s l1 ss' l2 h1 h2;simp only [Ah,Prod.mk.injEq]at h;obtain⟨rfl,rfl⟩:=h;obtain⟨v,vs,x,xs,f,hh,rf,lf,hs,rfl,rfl,rfl,rfl,Dm,A7⟩: ∃v vs' x xs' f hh rf' lf' Bb,vs=v::vs'∧xs=x::xs'∧rf=f++rf'∧hs=hh++Bb∧DE P w ts ms.tail lo.tail vs' xs' rf' lf' Bb∧(kQ P w t (ms.headD .ro) v x f hh∨(lo.headD false=true∧ms.headD .ro= .ro∧f= []∧hh= [])):=by
    cases ha with
    |cons h1 h2=>exact⟨_,_,_,_,_,_,_,_,_,rfl,rfl,rfl,rfl,h2, .inl h1⟩
    |lent h1 h2 h3 h4=>exact⟨_,_,_,_, [], [],_,_,_,rfl,rfl,by simp,by simp,h4, .inr ⟨h1,h2,rfl,rfl⟩⟩
   have Ea:ms.headD .ro=(ms0[i]?).getD .ro:=by have:=EF 0;rw [Nat.add_zero]at this;rw [←this];cases ms<;>rfl
   have Lk:vs0[i]?=some v:=by have:=Kn 0;simpa using this.symm
   have Kp:(E.var i).den c.ρ=x:=by simpa using hx 0 x rfl
   obtain⟨r2,b1,b2,b3,b4,b4',b6,b7,b5⟩:=zvR ts (i+1) h2 Dm (fun k y hy=>by rw [show i+1+k=i+(k+1)from by omega];exact hx (k+1) y (by simpa using hy)) (fun k=>by rw [show i+1+k=i+(k+1)from by omega,←EF (k+1)];cases ms<;>simp) (fun k=>by rw [show i+1+k=i+(k+1)from by omega,←Kn (k+1)];simp);have fin: ∀(r1:List AW),l1=r1.map AW.pair→r1.flatMap AW.top=hh→(∀r∈r1,1000*i≤r.tag∧r.tag<1000*i+1000∧r.new.isSome)→(r1.map AW.tag).Nodup→(∀r∈r1,∀v,Hx ms0 vs0 r.tag=some v→r.new=some v)→
     (∀c',E5 c c' w r1→(∀b∈f,c'.ok b)→(ms.headD .ro= .ro→c'.A.lo v x)→SR c' [s] [v]∧ ∀r∈r1,Dh c' r.tag r.bq)→
     ∃recs:List AW,l1++l2=recs.map AW.pair∧recs.flatMap AW.top=hh++hs∧(∀r∈recs,1000*i≤r.tag∧r.tag<1000*(i+(t::ts).length)∧r.new.isSome)∧(recs.map AW.tag).Nodup∧(∀r∈recs,∀v,Hx ms0 vs0 r.tag=some v→r.new=some v)∧(s::ss').length=(t::ts).length∧(t::ts).length≤(v::vs).length∧
      ∀c',E5 c c' w recs→(∀b∈f++rf,c'.ok b)→(∀(k:Nat) (v':Value) (x':AV),(ms[k]?).getD .ro= .ro→(v::vs)[k]?=some v'→(x::xs)[k]?=some x'→c'.A.lo v' x')→SR c' ((s::ss')++(List.range ((v::vs).length-(t::ts).length)).map fun j=>SV.e (.var (i+(t::ts).length+j))) (v::vs)∧ ∀r∈recs,Dh c' r.tag r.bq:=by
    intro r1 a1 a2 a3 a4 a4' a5;refine⟨r1++r2,by simp [a1,b1],by simp [a2,b2],fun r hr=> ?_, ?_,fun r hr=> ?_,by simp [b6],by simp [b7],fun c' FB Az Cc=> ?_⟩
    ·simp only [Ap];rcases Ai.1 hr with hr|hr
     ·have:=a3 r hr;exact⟨this.1,by omega,this.2.2⟩
     ·have:=b3 r hr;exact⟨by omega,by omega,this.2.2⟩
    ·rw [List.map_append,List.nodup_append];refine⟨a4,b4,fun t1 Oy t2 Lf he=> ?_⟩;obtain⟨q1,GF,rfl⟩:=List.mem_map.1 Oy;obtain⟨q2,Fb,rfl⟩:=List.mem_map.1 Lf;have:=a3 q1 GF;have:=b3 q2 Fb;omega
    ·rcases Ai.1 hr with hr|hr
     ·exact a4' r hr
     ·exact b4' r hr
    ·obtain⟨p1,p2⟩:=a5 c' (FB.mono fun r hr=>by simp [hr]) (fun b hb=>Az b (by simp [hb])) fun hl=>Cc 0 v x (by cases ms<;>exact hl) rfl rfl;obtain⟨q1,q2⟩:=b5 c' (FB.mono fun r hr=>by simp [hr]) (fun b hb=>Az b (by simp [hb])) fun k v' x' k1 k2 k3=>Cc (k+1) v' x' (by cases ms with|nil=>rfl|cons b l=>simpa using k1) (by simpa using k2) (by simpa using k3);refine⟨?_,fun r hr=> ?_⟩
     ·have:=p1.cons q1;have e:(fun j=>SV.e (.var (i+1+ts.length+j)))=fun j=>SV.e (.var (i+(t::ts).length+j)):=by
       funext j;simp only [Ap];rw [show i+1+ts.length+j=i+(ts.length+1)+j from by omega]
      rw [e]at this;simpa using this
     ·rcases Ai.1 hr with hr|hr
      ·exact p2 r hr
      ·exact q2 r hr
   have pinMu: ∀{own:List Bool} {r:AW},ms.headD .ro= .mu own→1000*i+500≤r.tag→r.tag<1000*i+1000→r.new=v.cells[r.tag-(1000*i+500)]?→ ∀v',Hx ms0 vs0 r.tag=some v'→r.new=some v':=by
    intro own r hm t1 t2 hn v' hp;unfold Hx at hp;split at hp
    ·rw [show r.tag/1000=i from by omega,Lk,←Ea,hm]at hp;simp only at hp;split at hp
     ·rw [hn,show r.tag-(1000*i+500)=r.tag % 1000-500 from by omega];exact hp
     ·cases hp
    ·cases hp
   have pinVa: ∀{own:List Bool} {r:AW},ms.headD .ro= .va own→1000*i≤r.tag→r.tag<1000*i+1000→ ∀v',Hx ms0 vs0 r.tag=some v'→r.new=some v':=by
    intro own r hm t1 t2 v' hp;unfold Hx at hp;split at hp
    ·rw [show r.tag/1000=i from by omega,Lk,←Ea,hm]at hp;simp at hp
    ·cases hp
   cases hm:ms.headD .ro with
   |ro=>
    rw [hm]at h1 A7;simp only [XA,Ah,Prod.mk.injEq]at h1;obtain⟨rfl,rfl⟩:=h1;have hhh:hh= []:=by rcases A7 with⟨_,h⟩|⟨_,_,_,h⟩<;>exact h
    subst hhh;by_cases Cc:lo.headD false=true
    ·exact fin [] rfl rfl (by simp) (by simp) (by simp) fun c' FB Az hl=>⟨by rw [if_pos Cc];exact .lent (by rw [FB.ρ,Kp];exact hl hm) .nil,by simp⟩
    ·rcases A7 with⟨g1,_⟩|⟨h,_⟩
     ·exact fin [] rfl rfl (by simp) (by simp) (by simp) fun c' FB Az _=>⟨by rw [if_neg Cc];exact .e (f:=f) (by rw [FB.w,FB.ρ,Kp];exact g1) Az .nil,by simp⟩
     ·exact absurd h Cc
   |va own=>
    rw [hm]at h1 A7
    replace A7:=A7.resolve_right fun h=>by cases h.2.1
    obtain⟨r1,a1,a2,a3,a4,a4',a5⟩:=zto (c:=c) (by omega) h1 A7 Kp;exact fin r1 a1 a2 (fun r hr=>by have:=a3 r hr;exact⟨by omega,this.2⟩) a4 (fun r hr=>by have:=a3 r hr;exact pinVa hm (by omega) this.2.1) fun c' FB Az _=>a5 c' FB Az
   |mu own=>
    rw [hm]at h1 A7
    replace A7:=A7.resolve_right fun h=>by cases h.2.1
    obtain⟨r1,a1,a2,a3,a4,a4',a5⟩:=zto (c:=c) (by omega) h1 A7 Kp;exact fin r1 a1 a2 (fun r hr=>by have:=a3 r hr;exact⟨by omega,this.2⟩) a4 (fun r hr=>by have:=a3 r hr;exact pinMu hm this.1 this.2.1 (a4' r hr)) fun c' FB Az _=>a5 c' FB Az
   |bx own own'=>
    rw [hm]at h1 A7
    replace A7:=A7.resolve_right fun h=>by cases h.2.1
    obtain⟨ty,b,C,ys,h9,g1,rfl,g3,g4,rfl,g6,rfl⟩:=A7;simp only [XA,g1]at h1;split at h1
    ·cases h1
    rename_i hle;simp only [Ah,Prod.mk.injEq]at h1;obtain⟨rfl,rfl⟩:=h1;obtain⟨recs,e1,e2,e3,e4,e4',e5⟩:=Rp (c:=c) (nx:=1000*i+1) (mk:=DD (.deref (.var i)) true) g6 0 (V6 (by simp only [E.den]at Kp ⊢;rw [Kp];rfl));refine fin (⟨1000*i,some (.pointer (some ⟨b,0,none⟩)), [b], .box ty (Aq P ty) (CO P (1000*i+1) (DD (.deref (.var i)) true) 0 (A6 P ty) own).1⟩::recs) (by simp [e1,AW.pair]) (by simp [e2]) (fun r hr=> ?_) ?_ (fun r hr v' hp=> ?_) fun c' FB Az _=> ?_
    ·rcases Ag.1 hr with rfl|hr
     ·simp
     ·have:=e3 r hr;exact⟨by omega,by omega,this.2.2⟩
    ·simp only [List.map_cons,List.nodup_cons];refine⟨fun hm=> ?_,e4⟩;obtain⟨r,hr,JL⟩:=List.mem_map.1 hm;have:=e3 r hr;omega
    ·rcases Ag.1 hr with rfl|hr
     ·unfold Hx at hp;simp only at hp;split at hp
      ·rw [show 1000*i/1000=i from by omega,Lk,←Ea,hm]at hp;simp at hp;simpa using hp
      ·cases hp
     ·have h3:=e3 r hr;unfold Hx at hp;split at hp
      ·rw [show r.tag/1000=i from by omega,Lk,←Ea,hm]at hp;simp only at hp;split at hp
       ·omega
       ·cases hp
      ·cases hp
    ·obtain⟨q1,q2⟩:=e5 c' (FB.mono fun r hr=>by simp [hr]) Az;obtain⟨k1,k2,k3⟩:=FB.new _ (List.mem_cons_self ..) _ rfl;have kg:=FB.G _ (List.mem_cons_self ..);simp only at k1 k3 kg;refine⟨.cm k1 k3 .nil,fun r hr=> ?_⟩;rcases Ag.1 hr with rfl|hr
     ·exact⟨b,C,k1,k3,by rw [kg],by rw [kg],by rw [FB.w];exact g3,g4,q1⟩
     ·exact q2 r hr
  ·cases h
end
section
variable {P:Program} {c:Cx} {n:Nat} {a:Act} {τ:St}
theorem zY (h:Rel c n (BD τ) (AG τ.hp) a):EH c (AG τ.hp):=fun t e hr=>h.ents t e hr
theorem vV {hp:Nat→Option Aj} {t:Nat} {e:Aj} (h:hp t=some e) (hn: ∀hs f,e≠ .gd hs f):Dp hp [] t=some e:=by
 simp only [Dp,h,Aa,Me]
 all_goals (cases e<;>first|rfl|exact absurd rfl (hn _ _))
theorem ztG (h:Rel c n (BD τ) (AG τ.hp) a) {u g:Nat} {e z:Nat} {x:E} {d:Bool} (hu:AG τ.hp u=some (.row e z g x d)):c.K u g∧ ∃N,CZ c.w e z (c.H u g) (x.den c.ρ) (c.G u).top N∧(∀b∈N,c.ok b)∧(d=true→N= []):=by obtain⟨p1,p2,N,p3,p4,p5,_⟩:=h.ents u _ (by rw [hu];rfl);exact⟨p1,N,p3,p4,fun hd=>(p5 hd).1⟩
theorem u5 {t e:TypeId} {d:Bool} {N:List Nat} (hd:d=true→N= []) (h:Ca P e=true∧d=true∨Ca P e=false∧(D5 P t).isNone=true):Ca P e=true∧N= []∨Ca P e=false∧D5 P t=none:=by
 rcases h with⟨h1,h2⟩|⟨h1,h2⟩
 ·exact .inl ⟨h1,hd h2⟩
 ·exact .inr ⟨h1,by simpa using h2⟩
theorem aN (h:Rel c n (BD τ) (AG τ.hp) a): ∀(ts:List TypeId) {fl:List Bool} {cs:List SV} {l:List Nat} {us:List Value} {xs:EL} {m:Nat},L7 P τ ts fl cs=some l→SR c cs us→Cr (AG τ.hp) [] m cs=some xs→m≤A1→
  ∃f,Cp P c.w ts fl us (xs.den c.ρ) f (l.flatMap fun t=>(c.G t).top)∧ ∀b∈f,c.eu (Kc P τ ts fl cs) b
 | [],fl, [],l,us,xs,m,ho,hs,hx,hm=>by
  simp [L7]at ho;subst ho;cases hs;cases m with
  |zero=>simp [Cr]at hx
  |succ m=>simp [Cr]at hx;subst hx;exact⟨[], .nil,by simp⟩
 | [],fl,s::cs,l,us,xs,m,ho,hs,hx,hm=>by simp [L7]at ho
 |t::ts,fl, [],l,us,xs,m,ho,hs,hx,hm=>by simp [L7]at ho
 |t::ts,fl,s::cs,l, [],xs,m,ho,hs,hx,hm=>by have:=hs.len;simp at this
 |t::ts,fl,s::cs,l,v::us,xs,m,ho,hs,hx,hm=>by
  obtain⟨j,y,ys,rfl,hy,Dw,rfl⟩:=Kz hx;obtain⟨r1,r2⟩:=hs.cg;unfold L7 at ho;split at ho
  ·cases ho
  rename_i l' Da;obtain⟨f,q1,q2⟩:=aN h ts Da r2 Dw (by omega);split at ho
  ·rename_i e hf BA;have F9:Kc P τ (t::ts) fl (s::cs)=Kc P τ ts fl.tail cs:=by
    simp only [Kc,hf,BA,Option.isSome_some,Bool.and_self,if_true,List.nil_append]
   split at ho
   ·cases ho
   rename_i hz;split at ho
   ·simp only [Ah]at ho;subst ho;cases r1 with
    |cf _=>refine⟨f, ?_,by rw [F9];exact q2⟩;rw [EL.den,LI hy];exact Cp.void hf BA (by omega) q1
   ·rename_i u g;split at ho
    ·rename_i e' z g' x d hu;split at ho
     ·rename_i hh;obtain⟨rfl,rfl,rfl,Ha⟩:=hh;simp only [Ah]at ho;subst ho;obtain⟨p1,N,p2,p3,p4⟩:=ztG h hu;have Ha:=u5 p4 Ha;have hl:=vV hu (by simp);have Ho:y=x:=by
       cases j with
       |zero=>simp [Bq]at hy
       |succ j=>simp [Bq,Iw,hl]at hy;exact hy.symm
      subst Ho;have hv:c.H u g=v:=by
       cases r1 with
       |own _ k2 _=>exact k2
      rw [hv]at p2;refine⟨N++f,Cp.own hf BA Ha p2 q1,fun b hb=> ?_⟩;rw [F9];rcases Ai.1 hb with hb|hb
      ·exact .inl (p3 b hb)
      ·exact q2 b hb
     ·cases ho
    ·rename_i e' z dl g' ep x hu;split at ho
     ·rename_i hh;obtain⟨rfl,Gg,DM⟩:=hh;have DM:=bL DM;simp only [Ah]at ho;subst ho;obtain⟨p1,_,_,p2,_⟩:=h.ents u _ (by rw [hu];rfl);have hl:=vV hu (by simp);have Ho:y=x:=by
       cases j with
       |zero=>simp [Bq]at hy
       |succ j=>simp [Bq,Iw,hl]at hy;exact hy.symm
      subst Ho;have hv:c.H u g=v:=by
       cases r1 with
       |own _ k2 _=>exact k2
      rw [hv]at p2;exact⟨f,Cp.deep hf BA Gg DM p2 q1,by rw [F9];exact q2⟩
     ·cases ho
    ·cases ho
   ·cases ho
  ·rename_i Dk;simp only [Ah]at ho;subst ho;have hn:fl.headD false=true→CI P t=none:=fun hf=>by
    cases BA:CI P t with
    |none=>rfl
    |some e=>exact absurd BA (Dk e hf)
   obtain⟨f1,p1,p2⟩:=H5 (zY h) (E0 _) j hy r1 A1 (by omega);refine⟨f1++f,Cp.rd hn p1 q1,fun b hb=> ?_⟩;have F9:Kc P τ (t::ts) fl (s::cs)=BR (AG τ.hp) [] (A1+1) [s]++Kc P τ ts fl.tail cs:=by
    have:(fl.headD false&&(CI P t).isSome)=false:=by
     cases hf:fl.headD false with
     |false=>rfl
     |true=>rw [hn hf];rfl
    simp only [Kc,this,AM,if_false]
   rw [F9];rcases Ai.1 hb with hb|hb
   ·exact(p2 b hb).mono fun t ht=>by simp [ht]
   ·exact(q2 b hb).mono fun t ht=>by simp [ht]
theorem zz9 (h:Rel c n (BD τ) (AG τ.hp) a) {t:TypeId} {fl:List Bool} {s:SV} {l:List Nat} {v:Value} {x:E} {m:Nat} (ho:jL P τ t fl s=some l) (hs:SR c [s] [v]) (hx:Bq (AG τ.hp) [] m s=some x) (hm:m<A1):
  ∃f,ES P c.w t fl v (x.den c.ρ) f (l.flatMap fun t=>(c.G t).top)∧ ∀b∈f,c.eu (kK P τ t fl s) b:=by
 unfold jL at ho;unfold ES kK;split at ho
 ·rename_i hf;simp only [hf,if_true];split at ho
  ·rename_i AE;split at ho
   ·rename_i cs;obtain⟨k,lx,rfl,hl,rfl⟩:=Wc hx;cases hs with
    |agg h9 h1 h8=>rename_i as_;obtain⟨f,q1,q2⟩:=aN (P:=P) h (A6 P t) ho h1 hl (by omega);exact⟨f,⟨as_,lx.den c.ρ,by rw [if_pos AE];exact⟨rfl,rfl,h9⟩,q1⟩,by rw [if_pos AE];exact q2⟩
   ·cases ho
  ·rename_i AE;have La:Cr (AG τ.hp) [] (m+1) [s]=some (.cons x .nil):=by
    cases m with
    |zero=>simp [Bq]at hx
    |succ m=>simp only [Cr,hx]
   obtain⟨f,q1,q2⟩:=aN (P:=P) h (A6 P t) ho hs La (by omega);exact⟨f,⟨[v], [x.den c.ρ],by rw [if_neg AE];exact⟨rfl,rfl⟩,q1⟩,by rw [if_neg AE];exact q2⟩
 ·rename_i hf;simp only [hf,if_false,AM];simp only [Ah]at ho;subst ho;obtain⟨f,p1,p2⟩:=H5 (zY h) (E0 _) m hx hs A1 (by omega);exact⟨f,⟨p1,rfl⟩,p2⟩
theorem zrF (h:Rel c n (BD τ) (AG τ.hp) a): ∀(ts:List TypeId) {fl:List Bool} {ss:List SV} {l:List Nat} {vs:List Value} {xs:EL} {m:Nat},Pv P τ ts fl ss=some l→SR c ss vs→Cr (AG τ.hp) [] m ss=some xs→m≤A1→
  ∃f,Jg P c.w ts fl vs (xs.den c.ρ) f (l.flatMap fun t=>(c.G t).top)∧ ∀b∈f,c.eu (WH P τ ts fl ss) b
 | [],fl, [],l,vs,xs,m,ho,hs,hx,hm=>by
  simp [Pv]at ho;subst ho;cases hs;cases m with
  |zero=>simp [Cr]at hx
  |succ m=>simp [Cr]at hx;subst hx;exact⟨[], .nil,by simp⟩
 | [],fl,s::cs,l,us,xs,m,ho,hs,hx,hm=>by simp [Pv]at ho
 |t::ts,fl, [],l,us,xs,m,ho,hs,hx,hm=>by simp [Pv]at ho
 |t::ts,fl,s::cs,l, [],xs,m,ho,hs,hx,hm=>by have:=hs.len;simp at this
 |t::ts,fl,s::cs,l,v::us,xs,m,ho,hs,hx,hm=>by
  obtain⟨j,y,ys,rfl,hy,Dw,rfl⟩:=Kz hx;obtain⟨r1,r2⟩:=hs.cg;unfold Pv at ho;split at ho
  ·rename_i a1 b1 h1 h2;simp only [Ah]at ho;subst ho;obtain⟨f1,p1,p2⟩:=zz9 (P:=P) h h1 r1 hy (by omega);obtain⟨f2,q1,q2⟩:=zrF h ts h2 r2 Dw (by omega);refine⟨f1++f2,by rw [List.flatMap_append];exact .cons p1 q1,fun b hb=> ?_⟩;simp only [WH];rcases Ai.1 hb with hb|hb
   ·exact(p2 b hb).mono fun t ht=>by simp [ht]
   ·exact(q2 b hb).mono fun t ht=>by simp [ht]
  ·cases ho
end
section
variable {P:Program} {c:Cx} {n:Nat} {a:Act} {τ:St}
theorem zFD (h:Rel c n (BD τ) (AG τ.hp) a) {t:TypeId} {b o:Nat} {ty:TypeId} {g:Bool} {cs:List SV} {s:SV} {v:Value} (Bn:Dv P t=true) (hl:AG τ.hp b=some (.box ty g cs)) (A4:OJ P t cs o=some s) (hr:SR c [.cm b o] [v]):
  ∃q u,v= .pointer (some ⟨q,o,none⟩)∧(loadVar t ⟨q,o,none⟩).run P c.w= .ok u c.w∧SR c [s] [u]:=by
 cases hr with
 |cm h1 h2 h8=>
  rename_i q;obtain⟨q',C,_,e2,e3,e4,e5,e5',e6⟩:=h.ents b _ (by rw [hl];rfl);rw [h2]at e2;cases e2;have key: ∀vs:List Value,(Aq P t=true→vs.length=P.cellsOf t)→(Aq P t=false→vs.length=1)→(∀j u,vs[j]?=some u→c.w.cell? ⟨q,o+j,none⟩=some u)→(loadVar t ⟨q,o,none⟩).run P c.w= .ok (if Aq P t then .agg vs.toArray else vs.headD undef) c.w:=fun vs k1 k2 k3=>by have:=RX (P:=P) (w:=c.w) (b:=q) (off:=o) Bn vs k1 k2 k3;simpa [Instr.loadAt,Instr.sureAddr]using this
  unfold OJ at A4;have hlen:=e6.len;split at A4
  ·rename_i AE;split at A4
   ·rename_i hle;simp at A4;subst A4;obtain⟨r1,r2⟩:=e6.split o;obtain⟨r3,r4⟩:=r2.split (P.cellsOf t);have:=SR.agg (cs:=Bz.of ((cs.drop o).take (P.cellsOf t))) (fun u hu=>e5' u (List.mem_of_mem_drop (List.mem_of_mem_take hu))) (by rw [Bz.bb];exact r3) .nil;refine⟨q, .agg ((C.toList.drop o).take (P.cellsOf t)).toArray,rfl, ?_,this⟩;rw [key ((C.toList.drop o).take (P.cellsOf t)) (fun _=>by simp at hlen ⊢;omega) (fun h=>by rw [AE]at h;cases h) (fun j u hu=>by
     rw [EY e5];rw [List.getElem?_take]at hu;split at hu
     ·simpa using hu
     ·cases hu)]
    simp [AE]
   ·cases A4
  ·rename_i AE;have AE:Aq P t=false:=by simpa using AE
   obtain⟨u,hu,r⟩:=e6.get A4;refine⟨q,u,rfl, ?_,r⟩;rw [key [u] (fun h=>by rw [AE]at h;cases h) (fun _=>rfl) (fun j z hz=>by
    cases j with
    |zero=>simp at hz;subst hz;rw [EY e5];simpa using hu
    |succ j=>simp at hz)]
   simp [AE]
theorem zoJ {α:Type} {g:α→Sem Value} {w:World}: ∀(l:List α) (us:List Value),l.length=us.length→(∀(i:Nat) (x:α) (u:Value),l[i]?=some x→us[i]?=some u→(g x).run P w= .ok u w)→(l.mapM g).run P w= .ok us w
 | [], [],_,_=>by simp
 | [],_::_,h,_=>by simp at h
 |_::_, [],h,_=>by simp at h
 |x::l,u::us,h,hg=>by have h0:=hg 0 x u rfl rfl;have ih:=zoJ l us (by simpa using h) fun i y z hy hz=>hg (i+1) y z (by simpa using hy) (by simpa using hz);simp [List.mapM_cons,h0,ih]
theorem zyR (h:Rel c n (BD τ) (AG τ.hp) a) (fn:Func) {rs:List SV} (Fs:fn.results.toList.mapM (Sp P τ)=some rs):
  ∃us,SR c rs us∧rs.length=us.length∧(results fn a.tmps).run P c.w= .ok (match us with| [u]=>u|us=> .tuple us.toArray) c.w:=by
 have one: ∀(r:ResultVar) (s:SV),Sp P τ r=some s→ ∃u,SR c [s] [u]∧(match r with| .tmp t=>(pure (a.tmps.getD t undef):Sem Value)| .cell b t=>do loadVar t (←asAddr (a.tmps.getD b undef))).run P c.w= .ok u c.w:=by
  intro r s hr;cases r with
  |tmp t=>simp only [Sp,Ah]at hr;subst hr;exact⟨_,h.c8 t,by simp⟩
  |cell b ty=>
   simp only [Sp]at hr;split at hr
   ·rename_i b' o CL;split at hr
    ·rename_i ty' g cs hl;split at hr
     ·rename_i Bn;have hs:=h.c8 b;rw [CL]at hs;obtain⟨q,u,hv,AU,Im⟩:=zFD h Bn hl hr hs;exact⟨u,Im,by simp only [hv];simp [asAddr,AU]⟩
     ·cases hr
    ·cases hr
   ·cases hr
 have list: ∀(l:List ResultVar) (rs:List SV),l.mapM (Sp P τ)=some rs→ ∃us,SR c rs us∧l.length=us.length∧ ∀(i:Nat) (x:ResultVar) (u:Value),l[i]?=some x→us[i]?=some u→(match x with| .tmp t=>(pure (a.tmps.getD t undef):Sem Value)| .cell b t=>do loadVar t (←asAddr (a.tmps.getD b undef))).run P c.w= .ok u c.w:=by
  intro l
  induction l with
  |nil=>intro rs Fs;simp at Fs;subst Fs;exact⟨[], .nil,rfl,by simp⟩
  |cons r l ih=>
   intro rs Fs;rw [List.mapM_cons]at Fs;simp only [Option.bind_eq_bind,Aw,Option.pure_def,Ah]at Fs;obtain⟨s,hs,rs',gW,rfl⟩:=Fs;obtain⟨u,h1,h2⟩:=one r s hs;obtain⟨us,h3,h4,h5⟩:=ih rs' gW;refine⟨u::us,h1.cons h3,by simp [h4],fun i x v hx hv=> ?_⟩;cases i with
   |zero=>simp at hx hv;subst hx;subst hv;exact h2
   |succ i=>exact h5 i x v (by simpa using hx) (by simpa using hv)
 obtain⟨us,h1,h2,h3⟩:=list _ _ Fs;refine⟨us,h1,h1.len, ?_⟩;have hm:=zoJ (P:=P) (w:=c.w) fn.results.toList us h2 h3;simp only [results,Array.mapM_eq_mapM_toList,map_eq_pure_bind,Sem.run_bind]
 erw [hm]
 simp only [Result.andThen_ok,Sem.run_pure]
 match us with
 | []=>simp
 | [u]=>simp
 |u::v::us=>simp
theorem qE (h:Rel c n (BD τ) (AG τ.hp) a) {w0:World} {v:Value} {ms:List PM} {vs:List Value} (EG: ∀t,c.A.pin t=Hx ms vs t) {i:Nat} (hi:i≤99) {own0:List Bool} (hv:vs[i]?=some v) (hm:(ms[i]?).getD .ro= .mu own0) {mk:Nat→E}: ∀(ts:List TypeId) (j:Nat) {fl:List Bool} {us:List Value} {ys:List AV} {rf hs:List Nat} {es:List E} {l:List Nat},
  Cp P w0 ts fl us ys rf hs→j+ts.length≤400→(∀k u,us[k]?=some u→(∃e,(0+j+k,e)∈(CO P 0 (DD (.var 0) true) j ts fl).2)→v.cells[j+k]?=some u)→Ua P τ i mk j ts fl=some (es,l)→ ∃f o,Gy P c.w ts fl us (es.map (E.den c.ρ)) f o∧(o=l.flatMap fun t=>(c.G t).top)∧ ∀b∈f,c.ok b
 | [],j,fl,us,ys,rf,hs,es,l,hc,hle,Ct,he=>by simp [Ua]at he;obtain⟨rfl,rfl⟩:=he;cases hc;exact⟨[], [], .nil,rfl,by simp⟩
 |t::ts,j,fl,us,ys,rf,hs,es,l,hc,hle,Ct,he=>by
  unfold Ua at he;split at he
  ·cases he
  rename_i xs us' Da;simp only [Ap]at hle;have sub: ∀{u:Value} {us1:List Value},us=u::us1→ ∀k z,us1[k]?=some z→(∃e,(0+(j+1)+k,e)∈(CO P 0 (DD (.var 0) true) (j+1) ts fl.tail).2)→v.cells[j+1+k]?=some z:=by
   rintro u us1 rfl k z hz ⟨e,he⟩;have:=Ct (k+1) z (by simpa using hz) ⟨e,by
    simp only [CO];split
    ·rw [show 0+j+(k+1)=0+(j+1)+k from by omega];exact List.mem_cons_of_mem _ he
    ·rw [show 0+j+(k+1)=0+(j+1)+k from by omega];exact he⟩
   rw [show j+1+k=j+(k+1)from by omega];exact this
  have fin: ∀{u:Value} {us1:List Value} {ys1:List AV} {rf1 BI:List Nat} {el:TypeId},us=u::us1→fl.headD false=true→CI P t=some el→Cp P w0 ts fl.tail us1 ys1 rf1 BI→ ∃f o,Gy P c.w (t::ts) fl us (es.map (E.den c.ρ)) f o∧(o=l.flatMap fun t=>(c.G t).top)∧ ∀b∈f,c.ok b:=by
   rintro u us1 ys1 rf1 BI el rfl h1 h2 h4;obtain⟨f0,o,q1,q2,q3⟩:=qE h EG hi hv hm ts (j+1) h4 (by omega) (sub rfl) Da;rw [h1,h2]at he;simp only at he;have eQ:v.cells[j]?=some u:=by have:=Ct 0 u rfl ⟨_,by simp only [CO,h1,h2,Nat.zero_add,Nat.add_zero];exact List.mem_cons_self ..⟩;simpa using this
   have Xi:c.A.pin (1000*i+500+j)=some u:=by
    rw [EG];unfold Hx;have e1:(1000*i+500+j)/1000=i:=by omega
    have e2:(1000*i+500+j) % 1000=500+j:=by omega
    rw [if_pos (by unfold NG;simp only [e2,Ae,decide_eq_true_eq,Bool.or_eq_true];omega),e1,e2,hv,hm];simp only;rw [if_pos (by omega),show 500+j-500=j from by omega];exact eQ
   split at he
   ·rename_i e' z y' d hu;split at he
    ·rename_i hh;obtain⟨rfl,rfl,Ha⟩:=hh;simp only [Ah,Prod.mk.injEq]at he;obtain⟨rfl,rfl⟩:=he;obtain⟨p1,N,p2,p3,p4⟩:=ztG h hu;have hH:=(h.base.pins _ u Xi).2 p1;rw [hH]at p2;refine⟨_,_, .own h1 h2 (u5 p4 Ha) p2 q1,by simp [q2],fun b hb=> ?_⟩;rcases Ai.1 hb with hb|hb
     ·exact p3 b hb
     ·exact q3 b hb
    ·cases he
   ·rename_i e' z dl ep y' hu;split at he
    ·rename_i hh;obtain⟨Gg,DM⟩:=hh;have DM:=bL DM;simp only [Ah,Prod.mk.injEq]at he;obtain⟨rfl,rfl⟩:=he;obtain⟨p1,_,_,p2,_⟩:=h.ents _ _ (by rw [hu];rfl);have hH:=(h.base.pins _ u Xi).2 p1;rw [hH]at p2;refine⟨_,_, .deep h1 h2 Gg DM p2 q1,by simp [q2],q3⟩
    ·cases he
   ·cases he
  cases hc with
  |own h1 h2 _ _ h4=>exact fin rfl h1 h2 h4
  |deep h1 h2 _ _ _ h4=>exact fin rfl h1 h2 h4
  | @rd _ _ _ u us1 y ys1 f rf1 BI h1 h3 h4=>
   obtain⟨f0,o,q1,q2,q3⟩:=qE h EG hi hv hm ts (j+1) h4 (by omega) (sub rfl) Da;split at he
   ·rename_i e hf BA;rw [h1 hf]at BA;cases BA
   ·simp only [Ah,Prod.mk.injEq]at he;obtain⟨rfl,rfl⟩:=he;exact⟨f0,o, .skip h1 q1,q2,q3⟩
end
section
variable {P:Program} {c:Cx} {n:Nat} {a:Act} {τ:St}
theorem zrK (h:Rel c n (BD τ) (AG τ.hp) a) {w0:World} {ms0:List PM} {vs0:List Value} (EG: ∀t,c.A.pin t=Hx ms0 vs0 t): ∀(ts:List TypeId) (i:Nat) {ms:List PM} {lo:List Bool} {vs:List Value} {xs:List AV} {rf lf hs:List Nat} {bx:List E} {us:List Nat},Wh P τ i ts ms=some (bx,us)→DE P w0 ts ms lo vs xs rf lf hs→
  (∀k,ms[k]?=ms0[i+k]?)→(∀k,vs[k]?=vs0[i+k]?)→ ∃f o,DU P c.w ts ms vs (bx.map (E.den c.ρ)) f o∧o=us.flatMap (fun t=>(c.G t).top)∧ ∀b∈f,c.eu (PL P τ i ts ms) b
 | [],i,ms,lo,vs,xs,rf,lf,hs,bx,us,he,ha,_,_=>by simp [Wh]at he;obtain⟨rfl,rfl⟩:=he;exact⟨[], [], .nil,rfl,by simp⟩
 |t::ts,i,ms,lo,vs,xs,rf,lf,hs,bx,us,he,ha,EF,Kn=>by
  obtain⟨v,vs,x,xs,f,hh,rf,lf,hs,rfl,Dm,A7⟩: ∃v vs' x xs' f hh rf' lf' Bb,vs=v::vs'∧DE P w0 ts ms.tail lo.tail vs' xs' rf' lf' Bb∧(kQ P w0 t (ms.headD .ro) v x f hh∨ms.headD .ro= .ro):=by
   cases ha with
   |cons h1 h2=>exact⟨_,_,_,_,_,_,_,_,_,rfl,h2, .inl h1⟩
   | @lent _ _ _ _ _ _ x _ _ _ _ _ h1 h2 h3 h4=>exact⟨_,_,x,_, [], [],_,_,_,rfl,h4, .inr h2⟩
  have Ea:ms.headD .ro=(ms0[i]?).getD .ro:=by have:=EF 0;rw [Nat.add_zero]at this;rw [←this];cases ms<;>rfl
  have Lk:vs0[i]?=some v:=by have:=Kn 0;simpa using this.symm
  unfold Wh at he;split at he
  ·cases he
  rename_i bx' us' Da;obtain⟨f2,o2,b1,b2,b3⟩:=zrK h EG ts (i+1) Da Dm (fun k=>by rw [show i+1+k=i+(k+1)from by omega,←EF (k+1)];cases ms<;>simp) (fun k=>by rw [show i+1+k=i+(k+1)from by omega,←Kn (k+1)];simp);have see2: ∀b∈f2,c.eu (PL P τ i (t::ts) ms) b:=fun b hb=>(b3 b hb).mono fun t ht=>by simp only [PL,Ai];exact .inr ht
  split at he
  ·cases he
  rename_i hi;split at he
  ·rename_i hm;simp only [Ah,Prod.mk.injEq]at he;obtain⟨rfl,rfl⟩:=he;exact⟨f2,o2, .ro hm b1,b2,see2⟩
  ·rename_i own hm;simp only [Ah,Prod.mk.injEq]at he;obtain⟨rfl,rfl⟩:=he;exact⟨f2,o2, .va hm b1,b2,see2⟩
  ·rename_i own hm;split at he
   ·cases he
   rename_i hle;split at he
   ·rename_i es l Ij;simp only [Ah,Prod.mk.injEq]at he;obtain⟨rfl,rfl⟩:=he;rw [hm]at A7;obtain⟨us0,ys0,hg,hc⟩:=A7.resolve_right fun h=>by cases h
    obtain⟨f1,o1,q1,q2,q3⟩:=qE h EG (i:=i) (by omega) Lk (by rw [←Ea];exact hm) (A6 P t) 0 hc (by omega) (fun k u hu he=>by
     rw [Nat.zero_add];split at hg
     ·obtain⟨rfl,_,_⟩:=hg;simpa [Value.cells]using hu
     ·obtain⟨rfl,_⟩:=hg;cases k with
      |zero=>simp at hu;subst hu;rw [hc.jf (nx:=0) (mk:=DD (.var 0) true) (j:=0) 0 v rfl he];rfl
      |succ k=>simp at hu) Ij
    refine⟨f1++f2,o1++o2,DU.mu (us:=us0) (ys:=es.map (E.den c.ρ)) hm ?_ q1 b1,by rw [q2,b2,List.flatMap_append],fun b hb=>(Ai.1 hb).elim (fun hb=> .inl (q3 b hb)) (see2 b)⟩;split at hg
    ·rename_i AE;rw [if_pos AE,if_pos AE];exact⟨hg.1,by simp only [E.den,EL.dk]⟩
    ·rename_i AE;rw [if_neg AE,if_neg AE];obtain⟨rfl,_⟩:=hg;refine⟨rfl, ?_⟩;have mlen: ∀{ts:List TypeId} {fl:List Bool} {us:List Value} {ys:List AV} {f o:List Nat},Gy P c.w ts fl us ys f o→us.length=ys.length:=by
      intro ts fl us ys f o TF
      induction TF<;>simp_all
     have:=mlen q1
     match es,this with
     | [e],_=>rfl
   ·cases he
  ·rename_i own own' hm;rw [hm]at A7;obtain⟨ty,b,C0,ys0,h9,g1,rfl,g3,g4,rfl,g6,rfl⟩:=A7.resolve_right fun h=>by cases h
   split at he
   ·rename_i ty1 ty2 g cs Ee Ie;rw [g1]at Ee;cases Ee;split at he
    ·cases he
    rename_i Bl;have Bl:ty2=ty:=by simpa using Bl
    subst Bl;split at he
    ·rename_i es vs' Ih iJ;simp only [Ah,Prod.mk.injEq]at he;obtain⟨rfl,rfl⟩:=he;obtain⟨b',C,p1,p2,p3,p4,p5,p6,p7⟩:=h.ents _ _ (by rw [Ie];rfl);have Xi:c.A.pin (1000*i)=some (.pointer (some ⟨b,0,none⟩)):=by
      rw [EG];unfold Hx;have e1:(1000*i)/1000=i:=by omega
      have e2:(1000*i) % 1000=0:=by omega
      rw [if_pos (by unfold NG;simp only [e2,Ae,decide_eq_true_eq,Bool.or_eq_true];simp;omega),e1,e2,Lk,←Ea,hm];rfl
     have hH:=(h.base.pins _ _ Xi).2 p1;rw [p2]at hH;cases hH;obtain⟨f1,q1,q2⟩:=aN (P:=P) h (A6 P ty2) iJ p7 Ih (Nat.le_refl _);refine⟨f1++f2,_,DU.bx hm g1 rfl p5 p6 (by simp only [E.den]) q1 b1,by rw [b2];simp [p3],fun x hx=> ?_⟩;rcases Ai.1 hx with hx|hx
     ·refine(q2 x hx).mono fun t ht=> ?_;simp only [PL,hm,g1,Ie,Ai];exact .inl ht
     ·exact see2 x hx
    ·cases he
   ·cases he
end
theorem oU {P:Program}: ∀(ts:List TypeId) (i:Nat) (ms:List PM) (lo:List Bool) (ss:List SV) (l:List (Nat × Aj)),Nq P i ts ms lo=some (ss,l)→ ∀t x,(t,x)∈l→ ∀gs f,x≠ .gd gs f
 | [],i,ms,lo,ss,l,h,t,x,hx=>by simp [Nq]at h;obtain⟨_,rfl⟩:=h;simp at hx
 |t0::ts,i,ms,lo,ss,l,h,t,x,hx=>by
  unfold Nq at h;split at h
  ·rename_i s1 l1 ss1 l2 q1 q2;simp only [Ah,Prod.mk.injEq]at h;obtain⟨_,rfl⟩:=h;rcases Ai.1 hx with hx|hx
   ·have hV: ∀(b:Nat) (own:List Bool),SP P i b t0 own=some (s1,l1)→ ∀gs f,x≠ .gd gs f:=by
     intro b own hh;unfold SP at hh;simp only at hh;split at hh
     ·cases hh
     ·split at hh
      ·simp only [Ah,Prod.mk.injEq]at hh;obtain⟨_,rfl⟩:=hh;intro gs f;exact Pe _ _ _ _ _ hx
      ·split at hh
       ·simp only [Ah,Prod.mk.injEq]at hh;obtain⟨_,rfl⟩:=hh;intro gs f;exact Pe _ _ _ _ _ hx
       ·cases hh
    unfold XA at q1;split at q1
    ·simp only [Ah,Prod.mk.injEq]at q1;rw [←q1.2]at hx;simp at hx
    ·exact hV _ _ q1
    ·exact hV _ _ q1
    ·split at q1
     ·simp only at q1;split at q1
      ·cases q1
      ·simp only [Ah,Prod.mk.injEq]at q1;obtain⟨_,rfl⟩:=q1;rcases Ag.1 hx with hx|hx
       ·cases hx;simp
       ·intro gs f;exact Pe _ _ _ _ _ hx
     ·cases q1
   ·exact oU _ _ _ _ _ _ q2 t x hx
  ·cases h
theorem zFI {P:Program} {sg:BT} (gH:P.follows .mixedOrders=true) (JN: ∀f s,sg f=some s→f<1000000) {f:Nat} {s:HC} {fn:Func} {t:Tr} {xs:List AV} {r:AV} (Hb:P.funcs[f]?=some fn) (hs:sg f=some s) (Ge:(fn.name== "runtime.NumGoroutine")=false)
  (Ex:Uq P sg f=some t) (BB:Nw P fn s r=true) (hlen:xs.length=fn.params.size+fn.nfree) (hd:t.den (Ck P sg) (fun r'=>r'=r) (fun _ _ _ _=>False) [] xs):SX P s f xs r:=by
 unfold Uq at Ex;simp only [Hb,hs]at Ex;split at Ex
 ·rename_i code σ DZ Bj;split at Ex
  ·rename_i t0 hex;have Ek:s.ft.length≤fn.nfree:=by
    have Bj:=Bj;unfold s5 at Bj;split at Bj
    ·cases Bj
    ·simp only at Bj;split at Bj
     ·cases Bj
     ·rename_i AO;simp only [Bool.or_eq_true,decide_eq_true_eq,not_or,Nat.not_lt]at AO;exact AO.2
   refine⟨fn,Hb,by rw [DZ];rfl,Ge,BB,hlen,Ek,fun w vs rf lf Bb Ay F7 Jt Hf Ed=> ?_⟩;unfold s5 at Bj;split at Bj
   ·cases Bj
   rename_i ss l Cd;simp only at Bj;split at Bj
   ·cases Bj
   rename_i AO;simp only [Bool.or_eq_true,decide_eq_true_eq,not_or,Nat.not_lt]at AO;simp only [Ah]at Bj;subst Bj;let pin:Nat→Option Value:=Hx s.cr vs;let LO:Value→AV→Prop:=fun v y=> ∃f,Rd w [v] [y] f∧ ∀b∈f,¬b∈Bb;let c0:Cx:={ρ:=xs,w:=w,G:=fun _=>⟨[], []⟩,K:=fun _ _=>False,H:=fun _ _=>undef,A:=⟨fun b=>b∈rf,pin,LO⟩,w0:=w,Mu:=fun b=>b∈Bb,U:=fun _=>False,E:=fun _=>0}
   have Ef:vs.length=xs.length:=by
    have: ∀{ts:List TypeId} {ms:List PM} {lo:List Bool} {vs:List Value} {xs:List AV} {rf lf hs:List Nat},DE P w ts ms lo vs xs rf lf hs→vs.length=xs.length:=by
     intro ts ms lo vs xs rf lf hs h
     induction h<;>simp_all
    exact this Ay
   obtain⟨recs,e1,e2,e3,e4,e5,e6,e7,e8⟩:=zvR (c:=c0) (ms0:=s.cr) (vs0:=vs) (fn.params.toList++s.ft) 0 Cd Ay (fun k x hx=>by simp only [E.den,Nat.zero_add];show(xs[k]?).getD .undef=x;rw [hx];rfl) (fun k=>by simp) (fun k=>by simp);have aft:=Cx.dv (c:=c0) (w':=w) (recs:=recs) (fun t g hk=>hk.elim) e4 (fun r _ _ h=>h);have tK: ∀r∈recs,r.tag<100000:=fun r hr=>by have:=e3 r hr;simp only [Nat.zero_add,As,Array.length_toList]at this;omega
   let c:Cx:={c0.du w recs with U:=fun t=>t<100000}
   have Th: ∀b∈rf,(c0.du w recs).ok b:=by
    intro b hb;refine⟨fun⟨t,ht⟩=> ?_, .inl hb⟩;by_cases hT: ∃r∈recs,r.tag=t
    ·obtain⟨r,hr,rfl⟩:=hT;rw [Cx.dz e4 hr]at ht;exact F7 b (by rw [←e2];exact List.mem_flatMap.2 ⟨r,hr,ht⟩) hb
    ·rw [Cx.de fun r hr hh=>hT ⟨r,hr,hh⟩]at ht;simp [c0]at ht
   have Cc: ∀(k:Nat) (v:Value) (x:AV),(s.cr[k]?).getD .ro= .ro→vs[k]?=some v→xs[k]?=some x→LO v x:=by
    have key: ∀{ts:List TypeId} {ms:List PM} {lo:List Bool} {vs:List Value} {xs:List AV} {rf lf hs:List Nat},DE P w ts ms lo vs xs rf lf hs→ ∀(k:Nat) (v:Value) (x:AV),(ms[k]?).getD .ro= .ro→vs[k]?=some v→xs[k]?=some x→ ∃f,Rd w [v] [x] f∧ ∀b∈f,b∈rf∨b∈lf:=by
     intro ts ms lo vs xs rf lf hs h
     induction h with
     |nil=>intro k v x _ h _;simp at h
     | @cons t ts ms lo v vs x xs f h rf lf hs A7 _ ih=>
      intro k v' x' h1 h2 h3;cases k with
      |zero=>
       have hm:ms.headD .ro= .ro:=by cases ms<;>exact h1
       rw [hm]at A7;simp at h2 h3;subst h2;subst h3;exact⟨f,A7.1,fun b hb=> .inl (by simp [hb])⟩
      |succ k=>obtain⟨f',q1,q2⟩:=ih k v' x' (by cases ms with|nil=>rfl|cons _ _=>simpa using h1) (by simpa using h2) (by simpa using h3);exact⟨f',q1,fun b hb=>(q2 b hb).imp (fun h=>by simp [h]) id⟩
     | @lent t ts ms lo v vs x xs f rf lf hs _ _ hr _ ih=>
      intro k v' x' h1 h2 h3;cases k with
      |zero=>simp at h2 h3;subst h2;subst h3;exact⟨f,hr,fun b hb=> .inr (by simp [hb])⟩
      |succ k=>obtain⟨f',q1,q2⟩:=ih k v' x' (by cases ms with|nil=>rfl|cons _ _=>simpa using h1) (by simpa using h2) (by simpa using h3);exact⟨f',q1,fun b hb=>(q2 b hb).imp id (fun h=>by simp [h])⟩
     | @free ms lo v vs x xs f rf lf hs hr _ ih=>
      intro k v' x' h1 h2 h3;cases k with
      |zero=>simp at h2 h3;subst h2;subst h3;exact⟨f,hr,fun b hb=> .inl (by simp [hb])⟩
      |succ k=>obtain⟨f',q1,q2⟩:=ih k v' x' (by cases ms with|nil=>rfl|cons _ _=>simpa using h1) (by simpa using h2) (by simpa using h3);exact⟨f',q1,fun b hb=>(q2 b hb).imp (fun h=>by simp [h]) id⟩
    intro k v x h1 h2 h3;obtain⟨f,q1,q2⟩:=key Ay k v x h1 h2 h3;exact⟨f,q1,fun b hb hh=>(q2 b hb).elim (F7 b hh) (Jt b hh)⟩
   obtain⟨g1,g2⟩:=e8 _ aft Th Cc;have kc:DJ (c0.du w recs) c:=⟨rfl,rfl,fun _ _ hb=>hb,fun _ _ _=>rfl,fun _ _ hk=>⟨hk,rfl⟩,fun _ _ _=>⟨Nat.le_refl _,fun _=>⟨rfl,fun _ _ _=>rfl⟩⟩⟩
   have IP:fn.params.size+fn.nfree=vs.length:=by rw [Ef,hlen]
   have Gm:(ss++(List.range (fn.nfree-s.ft.length)).map fun j=>SV.e (.var (fn.params.size+s.ft.length+j))).length=vs.length:=by rw [As,e6,List.length_map,List.length_range,As,Array.length_toList];omega
   have g1':SR c (ss++(List.range (fn.nfree-s.ft.length)).map fun j=>SV.e (.var (fn.params.size+s.ft.length+j))) vs:=by
    have:=g1.keep kc;have Ot:(fn.params.toList++s.ft).length=fn.params.size+s.ft.length:=by rw [As,Array.length_toList]
    rw [show vs.length-(fn.params.toList++s.ft).length=fn.nfree-s.ft.length from by omega]at this;simpa using this
   have hG: ∀t,(∃r∈recs,r.tag=t∧c.G t=⟨r.top, []⟩)∨c.G t=⟨[], []⟩:=fun t=>by
    by_cases hT: ∃r∈recs,r.tag=t
    ·obtain⟨r,hr,rfl⟩:=hT;exact .inl ⟨r,hr,rfl,Cx.dz (w':=w) e4 hr⟩
    ·exact .inr (Cx.de (w':=w) fun r hr hh=>hT ⟨r,hr,hh⟩)
   have He: ∀r∈recs,∀b∈r.top,b∈Bb:=fun r hr b hb=>by rw [←e2];exact List.mem_flatMap.2 ⟨r,hr,hb⟩
   have ED: ∀b∈Bb,b<w.heap.size:=by
    have: ∀{ts:List TypeId} {ms:List PM} {lo:List Bool} {vs:List Value} {xs:List AV} {rf lf hs:List Nat},DE P w ts ms lo vs xs rf lf hs→ ∀b∈hs,b<w.heap.size:=by
     intro ts ms lo vs xs rf lf hs h
     induction h with
     |nil=>simp
     |lent _ _ _ _ ih=>exact ih
     | @cons t ts ms lo v vs x xs f h rf lf hs A7 _ ih=>
      intro b hb;rcases Ai.1 hb with hb|hb
      ·cases hm:ms.headD .ro with
       |ro=>rw [hm]at A7;rw [A7.2]at hb;simp at hb
       |va own=>rw [hm]at A7;obtain⟨_,_,_,hc⟩:=A7;exact hc.inb.2 b hb
       |mu own=>rw [hm]at A7;obtain⟨_,_,_,hc⟩:=A7;exact hc.inb.2 b hb
       |bx own own'=>
        rw [hm]at A7;obtain⟨_,b0,_,_,_,_,_,hh,_,_,hc,rfl⟩:=A7;rcases Ag.1 hb with rfl|hb
        ·exact FM hh
        ·exact hc.inb.2 b hb
      ·exact ih b hb
     |free _ _ ih=>exact ih
    exact this Ay
   have Bk: ∀t e,AG l t=some e→ ∃r∈recs,r.tag=t∧r.bq=e:=fun t e he=>by have:=I0 he;rw [e1]at this;obtain⟨r,hr,TS⟩:=List.mem_map.1 this;simp only [AW.pair,Prod.mk.injEq]at TS;exact⟨r,hr,TS.1,TS.2⟩
   let F:Fix:=⟨w,⟨fun b=>b∈rf,pin,LO⟩,fun b=>b∈Bb,fun t v h=>by
    simp only [pin,Hx]at h;split at h
    ·assumption
    ·cases h⟩
   have Ar:Rel c fn.ntmps (BD {sl:=ss++(List.range (fn.nfree-s.ft.length)).map (fun j=>SV.e (.var (fn.params.size+s.ft.length+j)))++List.replicate (fn.ntmps-(fn.params.size+fn.nfree)) .undef,hp:=l,nx:=100000,nv:=fn.params.size+fn.nfree}) (AG l) {tmps:=vs.toArray++Array.replicate (fn.ntmps-vs.toArray.size) undef,defers:= []}:=by
    refine⟨rfl,by simp;omega,⟨rfl,rfl,rfl,Nat.le_refl _,fun t v hp=>⟨?_,fun hk=> ?_⟩,fun b _ _=>rfl,Ed,fun v y h=>h⟩,fun i=> ?_,fun t e hr=> ?_,fun t hn=> ?_,⟨fun t=> ?_,fun t u MH b hb BX=> ?_,fun t b hb=> ?_,fun t b hb=> ?_⟩,fun t g hk=> ?_,fun t e he=> ?_⟩
    ·have:=F.nd t v hp;unfold NG at this;simp only [Ae,decide_eq_true_eq]at this;exact this.1
    ·rcases hk with hk|⟨r,hr,rfl,A2,_⟩
     ·exact hk.elim
     ·exact(aft.new r hr v (e5 r hr v hp)).2.2
    ·have eJ:SR c (ss++(List.range (fn.nfree-s.ft.length)).map (fun j=>SV.e (.var (fn.params.size+s.ft.length+j)))++List.replicate (fn.ntmps-(fn.params.size+fn.nfree)) .undef) (vs++List.replicate (fn.ntmps-(fn.params.size+fn.nfree)) undef):=by
      refine g1'.app ?_;have: ∀k,SR c (List.replicate k SV.undef) (List.replicate k undef):=by
       intro k
       induction k with
       |zero=>exact .nil
       |succ k ih=>exact .undef ih
      exact this _
     unfold BD;simp only;cases hq:(ss++(List.range (fn.nfree-s.ft.length)).map (fun j=>SV.e (.var (fn.params.size+s.ft.length+j)))++List.replicate (fn.ntmps-(fn.params.size+fn.nfree)) SV.undef)[i]? with
     |none=>exact .undef .nil
     |some s'=>
      obtain⟨v',iH,Im⟩:=eJ.get hq;have:(vs.toArray++Array.replicate (fn.ntmps-vs.toArray.size) undef).getD i undef=v':=by
       rw [Array.getD_eq_getD_getElem?];have e:(vs.toArray++Array.replicate (fn.ntmps-vs.toArray.size) undef)[i]?=(vs++List.replicate (fn.ntmps-(fn.params.size+fn.nfree)) undef)[i]?:=by rw [←Array.getElem?_toList];simp [IP]
       rw [e,iH];rfl
      rw [this];exact Im
    ·cases hh:AG l t with
     |none=>rw [hh]at hr;exact hr.elim
     |some e0=>
      obtain⟨r,CT,rfl,rfl⟩:=Bk t e0 hh;have Bj:=(g2 r CT).keep kc rfl rfl (fun g hg=>hg) (fun b _=>rfl);rw [hh]at hr;cases he:r.bq with
      |gd gs e'=>rw [he]at Bj hr;obtain⟨_,rfl⟩:=hr;have A2:=(e3 r CT).2.2;exfalso;exact oU _ _ _ _ _ _ Cd r.tag r.bq (by rw [e1];exact List.mem_map.2 ⟨r,CT,rfl⟩) _ _ he
      |_=>rw [he]at Bj hr;simp only [Cs]at hr;subst hr;exact Bj
    ·rcases hG t with⟨r,hr,rfl,hg⟩|hg
     ·exfalso;have E8:(r.tag,r.bq)∈l:=by rw [e1];exact List.mem_map.2 ⟨r,hr,rfl⟩
      have: ∃e,AG l r.tag=some e:=by
       have: ∀(l:List (Nat × Aj)),(r.tag,r.bq)∈l→ ∃e,AG l r.tag=some e:=by
        intro l
        induction l with
        |nil=>intro h;simp at h
        |cons p l ih=>
         obtain⟨u,f'⟩:=p;intro h;simp only [AG];split
         ·exact⟨_,rfl⟩
         ·rename_i hu;rcases Ag.1 h with h|h
          ·cases h;exact absurd rfl hu
          ·exact ih h
       exact this l E8
      obtain⟨e,he⟩:=this;obtain⟨r',CT,MG,rfl⟩:=Bk _ _ he;have PZ: ∀gs f',r'.bq≠ .gd gs f':=by intro gs f' CA;exact oU _ _ _ _ _ _ Cd r'.tag r'.bq (by rw [e1];exact List.mem_map.2 ⟨r',CT,rfl⟩) _ _ CA
      apply hn r'.bq;rw [he];cases gU:r'.bq with
      |gd gs f'=>exact absurd gU (PZ gs f')
      |_=>simp [Cs]
     ·rw [hg];simp
    ·rcases hG t with⟨r,hr,rfl,hg⟩|hg
     ·rw [hg];rw [←e2]at Hf;simpa [GI.own]using(VT Hf).1 r hr
     ·rw [hg];simp [GI.own]
    ·rcases hG t with⟨r,hr,rfl,hg⟩|hg
     ·rcases hG u with⟨q,hq,rfl,CA⟩|CA
      ·rw [hg]at hb;rw [CA]at BX;simp only [GI.own,List.append_nil]at hb BX;rw [←e2]at Hf;obtain⟨i,hi⟩:=List.getElem?_of_mem hr;obtain⟨j,hj⟩:=List.getElem?_of_mem hq;have:=(VT Hf).2 i j r q b hi hj hb BX;subst this;rw [hi]at hj;cases hj;exact MH rfl
      ·rw [CA]at BX;simp [GI.own]at BX
     ·rw [hg]at hb;simp [GI.own]at hb
    ·rcases hG t with⟨r,hr,rfl,hg⟩|hg
     ·rw [hg]at hb;simp only [GI.own,List.append_nil]at hb;exact .inr (He r hr b hb)
     ·rw [hg]at hb;simp [GI.own]at hb
    ·rcases hG t with⟨r,hr,rfl,hg⟩|hg
     ·rw [hg]at hb;simp only [GI.own,List.append_nil]at hb;exact ED b (He r hr b hb)
     ·rw [hg]at hb;simp [GI.own]at hb
    ·rcases hk with hk|⟨r,hr,rfl,_⟩
     ·exact hk.elim
     ·exact tK r hr
    ·obtain⟨r,hr,rfl,_⟩:=Bk t e he;exact tK r hr
   have Tb:GZ F xs {sl:=ss++(List.range (fn.nfree-s.ft.length)).map (fun j=>SV.e (.var (fn.params.size+s.ft.length+j)))++List.replicate (fn.ntmps-(fn.params.size+fn.nfree)) .undef,hp:=l,nx:=100000,nv:=fn.params.size+fn.nfree} {tmps:=vs.toArray++Array.replicate (fn.ntmps-vs.toArray.size) undef,defers:= []} w:=by
    refine⟨c,rfl,rfl,rfl,rfl,rfl,hlen,fun t ht=>ht, ?_⟩;have hl:(ss++(List.range (fn.nfree-s.ft.length)).map (fun j=>SV.e (.var (fn.params.size+s.ft.length+j)))++List.replicate (fn.ntmps-(fn.params.size+fn.nfree)) SV.undef).length=fn.ntmps:=by rw [As,Gm,List.length_replicate];omega
    show Rel c (ss++(List.range (fn.nfree-s.ft.length)).map (fun j=>SV.e (.var (fn.params.size+s.ft.length+j)))++List.replicate (fn.ntmps-(fn.params.size+fn.nfree)) SV.undef).length _ _ _;rw [hl];exact Ar
   refine calls_of_wp Hb DZ ?_;have tG:Kf (fun _ _ _ _=>False):=fun _ _ _ _ _ _ h=>h;have eR:=Tr.fb _ tG t0 Ex hd;refine zBO (zE2 gH (zKt (sg:={sg with dp:=s.dp,wn:=s.wn,fz:=s.fz}) JN) zI4) zGi code [] _ _ t0 hex F (fun r'=>r'=r) _ [] xs _ w (VZ tG _ _) eR Tb _ fun i x τ ρ' a' w' hp hl CU=> ?_;obtain⟨tr,d',q1,q2,q3⟩:=hl;have main:XR P fn s τ=some tr→a'.defers= []∧ ∃v,(results fn a'.tmps).run P w'= .ok v w'∧ ∃v',Ending.returned v= .returned v'∧zZ P fn s w vs rf Bb r v' w':=by
    intro D9;obtain⟨c2,rfl,rfl,k1,k2,k3,k4,k5,k6⟩:=CU;unfold XR at D9;split at D9
    ·rename_i rs bx us Fs PX;split at D9
     ·rename_i es vs' Ih TP;split at D9
      ·cases D9
      rename_i Tk;simp only [Bool.or_eq_true,Bool.not_eq_true',not_or,Bool.not_eq_false,Bool.not_eq_true]at Tk;obtain⟨Ce,W0⟩:=Tk;have Ce:=R8 Ce;simp only [Ah]at D9;subst D9;have hr:_=r:=q3;obtain⟨rvs,z1,z2,z3⟩:=zyR k6 fn Fs;obtain⟨f1,y1,y2⟩:=zrF (P:=P) k6 fn.resultTypes.toList TP z1 Ih (Nat.le_refl _);obtain⟨f2,o2,x1,x2,x3⟩:=zrK (P:=P) k6 (w0:=w) (ms0:=s.cr) (vs0:=vs) (fun t=>by rw [k2]) (fn.params.toList++s.ft) 0 PX Ay (fun k=>by simp) (fun k=>by simp);refine⟨k6.defers,_,z3,_,rfl,⟨?_, ?_⟩⟩
      ·
       have hR: ∃R,R=(match es with| .cons x .nil=>x|es=>E.tup es).den c2.ρ∧Ks P c2.w fn.resultTypes.toList s.res (match rvs with| [u]=>u|us=> .tuple us.toArray) R f1 (vs'.flatMap fun t=>(c2.G t).top):=by
        refine⟨_,rfl, ?_⟩;have yl:es.den c2.ρ=es.den c2.ρ:=rfl;generalize TZ:fn.resultTypes.toList=ts at y1 ⊢;generalize CH:es.den c2.ρ=ys at y1;generalize (vs'.flatMap fun t=>(c2.G t).top)=o1 at y1 ⊢;cases y1 with
        |nil=>
         cases es with
         |nil=>exact⟨[], [],rfl,by simp [E.den,EL.den], .nil⟩
         |cons e es=>simp [EL.den]at CH
        | @cons t ts fl v vs2 x xs2 f h rf2 A4 w1 w2=>
         cases w2 with
         |nil=>
          cases es with
          |nil=>simp [EL.den]at CH
          |cons e es=>
           cases es with
           |nil=>simp only [EL.den,List.cons.injEq,and_true]at CH;subst CH;simpa [Ks]using w1
           |cons e2 es=>simp [EL.den]at CH
         | @cons t2 ts2 fl2 v2 vs3 x2 xs3 f2' h2 rf3 Gl w3 w4=>
          cases es with
          |nil=>simp [EL.den]at CH
          |cons e es=>
           cases es with
           |nil=>simp [EL.den]at CH
           |cons e2 es=>refine⟨v::v2::vs3,x::x2::xs3,rfl, ?_, .cons w1 (.cons w3 w4)⟩;simp only [E.den,CH]
       obtain⟨R,hR1,HE⟩:=hR;have BC: ∀b∈(vs'.flatMap fun t=>(c2.G t).top)++o2,∃t∈vs'++us,b∈(c2.G t).top:=fun b hb=>by
        rcases Ai.1 hb with hb|hb
        ·obtain⟨t,ht,CC⟩:=List.mem_flatMap.1 hb;exact⟨t,by simp [ht],CC⟩
        ·rw [x2]at hb;obtain⟨t,ht,CC⟩:=List.mem_flatMap.1 hb;exact⟨t,by simp [ht],CC⟩
       have Jq: ∀b t,b∈(c2.G t).top→b∈Bb∨w.heap.size≤b:=fun b t hb=>by
        rcases k6.gw.allow t b (by simp [GI.own,hb])with h|h
        ·simp only [Cx.B,k1]at h;exact .inr h
        ·rw [k3]at h;exact .inl h
       refine⟨R,bx.map (E.den c2.ρ),f1,_,f2,o2, ?_,HE,x1, ?_,fun b hb=> ?_,fun b hb=> ?_⟩
       ·rw [←hr,hR1];cases bx with
        |nil=>rfl
        |cons b bx=>simp only [List.isEmpty_cons,AM,if_false,E.den,EL.dk,List.map_cons];rfl
       ·rw [x2,←List.flatMap_append];have: ∀l:List Nat,l.Nodup→(l.flatMap fun t=>(c2.G t).top).Nodup:=by
         intro l
         induction l with
         |nil=>intro _;simp
         |cons t l ih=>intro hl;rw [List.nodup_cons]at hl;rw [List.flatMap_cons,List.nodup_append];refine⟨(List.nodup_append.1 (k6.gw.nodup t)).1,ih hl.2,fun x hx y hy Hm=> ?_⟩;subst Hm;obtain⟨u,hu,iQ⟩:=List.mem_flatMap.1 hy;exact k6.gw.ct t u (fun hh=>hl.1 (hh▸hu)) x (by simp [GI.own,hx]) (by simp [GI.own,iQ])
        exact this _ Ce
       ·obtain⟨t,ht,CC⟩:=BC b hb;exact⟨Jq b t CC,k6.gw.inb t b (by simp [GI.own,CC])⟩
       ·have Il:c2.eu (WH P τ fn.resultTypes.toList s.res rs++PL P τ 0 (fn.params.toList++s.ft) s.cr) b:=by
         rcases Ai.1 hb with hb|hb
         ·exact(y2 b hb).mono fun t ht=>by simp [ht]
         ·exact(x3 b hb).mono fun t ht=>by simp [ht]
        rcases Il with Az|⟨t,ht,CC⟩
        ·refine⟨fun ho=> ?_, ?_⟩
         ·obtain⟨u,_,Ig⟩:=BC b ho;exact Az.1 ⟨u,Ig⟩
         ·rcases Az.2 with h|h|h
          ·rw [k2]at h;exact .inl h
          ·simp only [Cx.B,k1]at h;exact .inr (.inr h)
          ·rw [k3]at h;exact .inr (.inl h)
        ·refine⟨fun ho=> ?_, .inr (Jq b t CC)⟩;obtain⟨u,hu,Ig⟩:=BC b ho;have MH:t≠u:=by
          rintro rfl;rw [List.any_eq_false]at W0;have:=W0 t ht;simp only [List.contains_eq_mem,decide_eq_true_eq]at this;exact this hu
         exact k6.gw.ct t u MH b (by simp [GI.own,CC]) (by simp [GI.own,Ig])
      ·have hb:=k6.base;refine⟨?_, ?_, ?_, ?_,fun k hk hn=> ?_⟩
       ·rw [hb.os,k1]
       ·rw [hb.tape,k1]
       ·rw [hb.output,k1]
       ·have:=hb.size;rw [k1]at this;exact this
       ·have:=hb.block k (by rw [k1];exact hk) (by rw [k3];exact hn);rw [k1]at this;exact this
     ·cases D9
    ·cases D9
   cases x with
   |normal=>exact main q1
   |ret=>exact main q1
   |exit id=>cases q1
  ·cases Ex
 ·cases Ex
end Go.Proofs.YtfdfahjmonlbiaaGreatDoor
end

/- Parts of a proof, joined: WT, WU, WV, WW. -/
import Derived.Test.YtollgpkegmbpmaaGreatDoorA5
set_option linter.unusedVariables false
set_option linter.unusedSimpArgs false
section
namespace Go.Proofs.YtollgpkegmbpmaaGreatDoor
open Go.RowKit
def F6 (ms:List PM) (vs:List Value) (t:Nat):Option Value:=
 if KN t then(match vs[t/1000]?,(ms[t/1000]?).getD .ro with
  |some v, .bx .. =>if t % 1000=0 then some v else none
  |some v, .mu _=>if 500≤t % 1000 then v.cells[t % 1000-500]? else none
  |_,_=>none)
 else none
section
variable {P:Program} {c:Cx} {w:World}
theorem BR.gy {ts:List TypeId} {fl:List Bool} {us:List Value} {ys:List AV} {rf hs:List Nat} (h:BR P w ts fl us ys rf hs) {nx:Nat} {mk:Nat→E} {j:Nat}: ∀(k:Nat) (u:Value),us[k]?=some u→(∃e,(nx+j+k,e)∈(Cd P nx mk j ts fl).2)→u.cells= #[u]:=by
 induction h generalizing j with
 |nil=>intro k u hu _;simp at hu
 | @deep t ts fl el e9 z9 l9 u us y ys top rf hs h1 h2 Om MA h3 _ ih=>
  intro k u' hu he;cases k with
  |zero=>simp at hu;subst hu;obtain⟨p,q,r,rfl⟩:=h3.head;rfl
  |succ k=>
   refine ih (j:=j+1) k u' (by simpa using hu) ?_;obtain⟨e,he⟩:=he;simp only [Cd,h1,h2,Ae,Prod.mk.injEq]at he;rcases he with⟨he,_⟩|he
   ·omega
   ·exact⟨e,by rw [show nx+(j+1)+k=nx+j+(k+1)from by omega];exact he⟩
 | @own t ts fl el u us y ys top N rf hs h1 h2 On h3 _ ih=>
  intro k u' hu he;cases k with
  |zero=>simp at hu;subst hu;obtain⟨xs,_,_,_,⟨_,⟨a,rfl⟩,_⟩|⟨g,cap,C,rfl,_⟩⟩:=h3<;>rfl
  |succ k=>
   refine ih (j:=j+1) k u' (by simpa using hu) ?_;obtain⟨e,he⟩:=he;simp only [Cd,h1,h2,Ae,Prod.mk.injEq]at he;rcases he with⟨he,_⟩|he
   ·omega
   ·exact⟨e,by rw [show nx+(j+1)+k=nx+j+(k+1)from by omega];exact he⟩
 | @rd t ts fl u us y ys f rf hs h1 h3 _ ih=>
  intro k u' hu he;obtain⟨e,he⟩:=he;have UX:(Cd P nx mk j (t::ts) fl).2=(Cd P nx mk (j+1) ts fl.tail).2:=by
   simp only [Cd];split
   ·rename_i h8 h9;rw [h1 h8]at h9;cases h9
   ·rfl
  rw [UX]at he;cases k with
  |zero=>
   exfalso;have key: ∀(ts:List TypeId) (fl:List Bool) (j' t':Nat) (e':Ah),(t',e')∈(Cd P nx mk j' ts fl).2→nx+j'≤t':=by
    intro ts
    induction ts with
    |nil=>intro fl j' t' e' h;simp [Cd]at h
    |cons a ts ih2=>
     intro fl j' t' e' h;simp only [Cd]at h;split at h
     ·simp only [Ae,Prod.mk.injEq]at h;rcases h with⟨h,_⟩|h
      ·omega
      ·have:=ih2 _ _ _ _ h;omega
     ·have:=ih2 _ _ _ _ h;omega
   have:=key _ _ _ _ _ he;omega
  |succ k=>exact ih (j:=j+1) k u' (by simpa using hu) ⟨e,by rw [show nx+(j+1)+k=nx+j+(k+1)from by omega];exact he⟩
theorem dD {i b:Nat} (hb:b+400≤1000) {t:TypeId} {own:List Bool} {s:SV} {l:List (Nat × Ah)} {v:Value} {x:AV} {rf hs:List Nat} (h:NS P i b t own=some (s,l)) (hv:Mo P w t own v x rf hs) (hx:(E.var i).den c.ρ=x):
  ∃recs:List AF,l=recs.map AF.pair∧recs.flatMap AF.top=hs∧(∀r∈recs,1000*i+b≤r.tag∧r.tag<1000*i+1000∧r.new.isSome)∧(recs.map AF.tag).Nodup∧(∀r∈recs,r.new=v.cells[r.tag-(1000*i+b)]?)∧
   ∀c',D9 c c' w recs→(∀b∈rf,c'.ok b)→SR c' [s] [v]∧ ∀r∈recs,Cv c' r.tag r.ar:=by
 obtain⟨us,ys,hg,hc⟩:=hv;unfold NS at h;simp only at h;split at h
 ·cases h
 rename_i hle;split at hg
 ·rename_i Av;obtain⟨rfl,rfl,Ck⟩:=hg;obtain⟨recs,e1,e2,e3,e4,e4',e5⟩:=Nj (c:=c) (nx:=1000*i+b) (mk:=CI (.var i) (Aj P t)) hc 0 (by rw [Av];exact Qg hx);rw [if_pos Av]at h;simp only [Ad,Prod.mk.injEq]at h;obtain⟨rfl,rfl⟩:=h;refine⟨recs,e1,e2,fun r hr=>by have:=e3 r hr;exact⟨by omega,by omega,this.2.2⟩,e4,fun r hr=>by rw [e4' r hr];simp [Value.cells],fun c' ha Aw=> ?_⟩;obtain⟨q1,q2⟩:=e5 c' ha Aw;exact⟨.agg Ck (by rw [Ba.aj];exact q1) .nil,q2⟩
 ·rename_i Av;obtain⟨rfl,rfl⟩:=hg;have FG:Aj P t=false:=by simpa using Av
  obtain⟨recs,e1,e2,e3,e4,e4',e5⟩:=Nj (c:=c) (nx:=1000*i+b) (mk:=CI (.var i) (Aj P t)) hc 0 (by
   intro k z hz;cases k with
   |zero=>simp at hz;subst hz;rw [FG];simpa [CI]using hx
   |succ k=>simp at hz)
  rw [if_neg Av]at h;split at h
  ·rename_i s' AX;simp only [Ad,Prod.mk.injEq]at h;obtain⟨rfl,rfl⟩:=h;refine⟨recs,e1,e2,fun r hr=>by have:=e3 r hr;exact⟨by omega,by omega,this.2.2⟩,e4,fun r hr=> ?_,fun c' ha Aw=> ?_⟩
   ·have CT:=e4' r hr;have h3:=e3 r hr;rw [CT,Nat.add_zero];have hlen:=hc.len;have Vd:r.tag-(1000*i+b)=0:=by
     have:=hlen.1;simp at this;omega
    rw [Vd];have:=hc.gy (nx:=1000*i+b) (mk:=CI (.var i) (Aj P t)) (j:=0) 0 v rfl ⟨r.ar,by rw [e1];exact List.mem_map.2 ⟨r,hr,by simp [AF.pair];omega⟩⟩;rw [this];rfl
   ·obtain⟨q1,q2⟩:=e5 c' ha Aw;rw [AX]at q1;exact⟨q1,q2⟩
  ·cases h
theorem cR {ms0:List PM} {vs0:List Value}: ∀(ts:List TypeId) (i:Nat) {ms:List PM} {lo:List Bool} {ss:List SV} {l:List (Nat × Ah)} {vs:List Value} {xs:List AV} {rf lf hs:List Nat},Ky P i ts ms lo=some (ss,l)→CJ P w ts ms lo vs xs rf lf hs→(∀k x,xs[k]?=some x→(E.var (i+k)).den c.ρ=x)→(∀k,ms[k]?=ms0[i+k]?)→(∀k,vs[k]?=vs0[i+k]?)→
  ∃recs:List AF,l=recs.map AF.pair∧recs.flatMap AF.top=hs∧(∀r∈recs,1000*i≤r.tag∧r.tag<1000*(i+ts.length)∧r.new.isSome)∧(recs.map AF.tag).Nodup∧(∀r∈recs,∀v,F6 ms0 vs0 r.tag=some v→r.new=some v)∧ss.length=ts.length∧ts.length≤vs.length∧
   ∀c',D9 c c' w recs→(∀b∈rf,c'.ok b)→(∀(k:Nat) (v:Value) (x:AV),(ms[k]?).getD .ro= .ro→vs[k]?=some v→xs[k]?=some x→c'.A.lo v x)→SR c' (ss++(List.range (vs.length-ts.length)).map fun j=>SV.e (.var (i+ts.length+j))) vs∧ ∀r∈recs,Cv c' r.tag r.ar
 | [],i,ms,lo,ss,l,vs,xs,rf,lf,hs,h,ha,hx,_,_=>by
  simp [Ky]at h;obtain⟨rfl,rfl⟩:=h;have key: ∀{ms:List PM} {lo:List Bool} {vs:List Value} {xs:List AV} {rf lf hs:List Nat},CJ P w [] ms lo vs xs rf lf hs→hs= []∧Rd w vs xs rf:=by
   intro ms lo vs
   induction vs generalizing ms lo with
   |nil=>intro xs rf lf hs h;cases h;exact⟨rfl, .nil⟩
   |cons v vs ih=>
    intro xs rf lf hs h;cases h with
    |free h1 h2=>obtain⟨rfl,h3⟩:=ih h2;exact⟨rfl,h1.app h3⟩
  obtain⟨rfl,CF⟩:=key ha;refine⟨[],rfl,rfl,by simp,by simp,by simp,rfl,by simp,fun c' ED Aw _=>⟨?_,by simp⟩⟩;have frees: ∀(vs:List Value) {xs:List AV} {rf:List Nat} (j:Nat),Rd w vs xs rf→(∀k x,xs[k]?=some x→(E.var (i+j+k)).den c.ρ=x)→(∀b∈rf,c'.ok b)→SR c' ((List.range vs.length).map fun q=>SV.e (.var (i+j+q))) vs:=by
   intro vs
   induction vs with
   |nil=>intro xs rf j h _ _;simpa using SR.nil
   |cons v vs ih=>
    intro xs rf j h hx Aw;cases xs with
    |nil=>have:=h.len;simp at this
    |cons x xs=>
     obtain⟨f1,f2,rfl,h1,h2⟩:=h.bf;have h3:=ih (j+1) h2 (fun k y hy=>by rw [show i+(j+1)+k=i+j+(k+1)from by omega];exact hx (k+1) y (by simpa using hy)) fun b hb=>Aw b (by simp [hb]);rw [AA,List.range_succ_eq_map,List.map_cons,List.map_map];refine SR.cons (.e (f:=f1) (by rw [ED.w,ED.ρ];have:=hx 0 x rfl;simp only [Nat.add_zero]at this ⊢;rw [this];exact h1) (fun b hb=>Aw b (by simp [hb])) .nil) ?_;have e:((fun q=>SV.e (.var (i+j+q)))∘Nat.succ)=fun q=>SV.e (.var (i+(j+1)+q)):=by funext q;simp only [Function.comp_apply];rw [show i+j+q.succ=i+(j+1)+q from by omega]
     rw [e];exact h3
  simpa using frees vs 0 CF (by simpa using hx) Aw
 |t::ts,i,ms,lo,ss,l,vs,xs,rf,lf,hs,h,ha,hx,DK,Iu=>by
  unfold Ky at h;split at h
  ·rename_i s l1 ss' l2 h1 h2;simp only [Ad,Prod.mk.injEq]at h;obtain⟨rfl,rfl⟩:=h;obtain⟨v,vs,x,xs,f,hh,rf,lf,hs,rfl,rfl,rfl,rfl,DO,AS⟩: ∃v vs' x xs' f hh rf' lf' AX,vs=v::vs'∧xs=x::xs'∧rf=f++rf'∧hs=hh++AX∧CJ P w ts ms.tail lo.tail vs' xs' rf' lf' AX∧(Y2 P w t (ms.headD .ro) v x f hh∨(lo.headD false=true∧ms.headD .ro= .ro∧f= []∧hh= [])):=by
    cases ha with
    |cons h1 h2=>exact⟨_,_,_,_,_,_,_,_,_,rfl,rfl,rfl,rfl,h2, .inl h1⟩
    |lent h1 h2 h3 h4=>exact⟨_,_,_,_, [], [],_,_,_,rfl,rfl,by simp,by simp,h4, .inr ⟨h1,h2,rfl,rfl⟩⟩
   have Dh:ms.headD .ro=(ms0[i]?).getD .ro:=by have:=DK 0;rw [Nat.add_zero]at this;rw [←this];cases ms<;>rfl
   have LB:vs0[i]?=some v:=by have:=Iu 0;simpa using this.symm
   have Iv:(E.var i).den c.ρ=x:=by simpa using hx 0 x rfl
   obtain⟨r2,b1,b2,b3,b4,b4',b6,b7,b5⟩:=cR ts (i+1) h2 DO (fun k y hy=>by rw [show i+1+k=i+(k+1)from by omega];exact hx (k+1) y (by simpa using hy)) (fun k=>by rw [show i+1+k=i+(k+1)from by omega,←DK (k+1)];cases ms<;>simp) (fun k=>by rw [show i+1+k=i+(k+1)from by omega,←Iu (k+1)];simp);have fin: ∀(r1:List AF),l1=r1.map AF.pair→r1.flatMap AF.top=hh→(∀r∈r1,1000*i≤r.tag∧r.tag<1000*i+1000∧r.new.isSome)→(r1.map AF.tag).Nodup→(∀r∈r1,∀v,F6 ms0 vs0 r.tag=some v→r.new=some v)→
     (∀c',D9 c c' w r1→(∀b∈f,c'.ok b)→(ms.headD .ro= .ro→c'.A.lo v x)→SR c' [s] [v]∧ ∀r∈r1,Cv c' r.tag r.ar)→
     ∃recs:List AF,l1++l2=recs.map AF.pair∧recs.flatMap AF.top=hh++hs∧(∀r∈recs,1000*i≤r.tag∧r.tag<1000*(i+(t::ts).length)∧r.new.isSome)∧(recs.map AF.tag).Nodup∧(∀r∈recs,∀v,F6 ms0 vs0 r.tag=some v→r.new=some v)∧(s::ss').length=(t::ts).length∧(t::ts).length≤(v::vs).length∧
      ∀c',D9 c c' w recs→(∀b∈f++rf,c'.ok b)→(∀(k:Nat) (v':Value) (x':AV),(ms[k]?).getD .ro= .ro→(v::vs)[k]?=some v'→(x::xs)[k]?=some x'→c'.A.lo v' x')→SR c' ((s::ss')++(List.range ((v::vs).length-(t::ts).length)).map fun j=>SV.e (.var (i+(t::ts).length+j))) (v::vs)∧ ∀r∈recs,Cv c' r.tag r.ar:=by
    intro r1 a1 a2 a3 a4 a4' a5;refine⟨r1++r2,by simp [a1,b1],by simp [a2,b2],fun r hr=> ?_, ?_,fun r hr=> ?_,by simp [b6],by simp [b7],fun c' ED Aw BD=> ?_⟩
    ·simp only [AA];rcases Af.1 hr with hr|hr
     ·have:=a3 r hr;exact⟨this.1,by omega,this.2.2⟩
     ·have:=b3 r hr;exact⟨by omega,by omega,this.2.2⟩
    ·rw [List.map_append,List.nodup_append];refine⟨a4,b4,fun t1 Pp t2 Pq he=> ?_⟩;obtain⟨q1,Gn,rfl⟩:=List.mem_map.1 Pp;obtain⟨q2,Hg,rfl⟩:=List.mem_map.1 Pq;have:=a3 q1 Gn;have:=b3 q2 Hg;omega
    ·rcases Af.1 hr with hr|hr
     ·exact a4' r hr
     ·exact b4' r hr
    ·obtain⟨p1,p2⟩:=a5 c' (ED.mono fun r hr=>by simp [hr]) (fun b hb=>Aw b (by simp [hb])) fun hl=>BD 0 v x (by cases ms<;>exact hl) rfl rfl;obtain⟨q1,q2⟩:=b5 c' (ED.mono fun r hr=>by simp [hr]) (fun b hb=>Aw b (by simp [hb])) fun k v' x' k1 k2 k3=>BD (k+1) v' x' (by cases ms with|nil=>rfl|cons b l=>simpa using k1) (by simpa using k2) (by simpa using k3);refine⟨?_,fun r hr=> ?_⟩
     ·have:=p1.cons q1;have e:(fun j=>SV.e (.var (i+1+ts.length+j)))=fun j=>SV.e (.var (i+(t::ts).length+j)):=by
       funext j;simp only [AA];rw [show i+1+ts.length+j=i+(ts.length+1)+j from by omega]
      rw [e]at this;simpa using this
     ·rcases Af.1 hr with hr|hr
      ·exact p2 r hr
      ·exact q2 r hr
   have pinMu: ∀{own:List Bool} {r:AF},ms.headD .ro= .mu own→1000*i+500≤r.tag→r.tag<1000*i+1000→r.new=v.cells[r.tag-(1000*i+500)]?→ ∀v',F6 ms0 vs0 r.tag=some v'→r.new=some v':=by
    intro own r hm t1 t2 hn v' hp;unfold F6 at hp;split at hp
    ·rw [show r.tag/1000=i from by omega,LB,←Dh,hm]at hp;simp only at hp;split at hp
     ·rw [hn,show r.tag-(1000*i+500)=r.tag % 1000-500 from by omega];exact hp
     ·cases hp
    ·cases hp
   have pinVa: ∀{own:List Bool} {r:AF},ms.headD .ro= .va own→1000*i≤r.tag→r.tag<1000*i+1000→ ∀v',F6 ms0 vs0 r.tag=some v'→r.new=some v':=by
    intro own r hm t1 t2 v' hp;unfold F6 at hp;split at hp
    ·rw [show r.tag/1000=i from by omega,LB,←Dh,hm]at hp;simp at hp
    ·cases hp
   cases hm:ms.headD .ro with
   |ro=>
    rw [hm]at h1 AS;simp only [TW,Ad,Prod.mk.injEq]at h1;obtain⟨rfl,rfl⟩:=h1;have mD:hh= []:=by rcases AS with⟨_,h⟩|⟨_,_,_,h⟩<;>exact h
    subst mD;by_cases BD:lo.headD false=true
    ·exact fin [] rfl rfl (by simp) (by simp) (by simp) fun c' ED Aw hl=>⟨by rw [if_pos BD];exact .lent (by rw [ED.ρ,Iv];exact hl hm) .nil,by simp⟩
    ·rcases AS with⟨g1,_⟩|⟨h,_⟩
     ·exact fin [] rfl rfl (by simp) (by simp) (by simp) fun c' ED Aw _=>⟨by rw [if_neg BD];exact .e (f:=f) (by rw [ED.w,ED.ρ,Iv];exact g1) Aw .nil,by simp⟩
     ·exact absurd h BD
   |va own=>
    rw [hm]at h1 AS
    replace AS:=AS.resolve_right fun h=>by cases h.2.1
    obtain⟨r1,a1,a2,a3,a4,a4',a5⟩:=dD (c:=c) (by omega) h1 AS Iv;exact fin r1 a1 a2 (fun r hr=>by have:=a3 r hr;exact⟨by omega,this.2⟩) a4 (fun r hr=>by have:=a3 r hr;exact pinVa hm (by omega) this.2.1) fun c' ED Aw _=>a5 c' ED Aw
   |mu own=>
    rw [hm]at h1 AS
    replace AS:=AS.resolve_right fun h=>by cases h.2.1
    obtain⟨r1,a1,a2,a3,a4,a4',a5⟩:=dD (c:=c) (by omega) h1 AS Iv;exact fin r1 a1 a2 (fun r hr=>by have:=a3 r hr;exact⟨by omega,this.2⟩) a4 (fun r hr=>by have:=a3 r hr;exact pinMu hm this.1 this.2.1 (a4' r hr)) fun c' ED Aw _=>a5 c' ED Aw
   |bx own own'=>
    rw [hm]at h1 AS
    replace AS:=AS.resolve_right fun h=>by cases h.2.1
    obtain⟨ty,b,C,ys,h9,g1,rfl,g3,g4,rfl,g6,rfl⟩:=AS;simp only [TW,g1]at h1;split at h1
    ·cases h1
    rename_i hle;simp only [Ad,Prod.mk.injEq]at h1;obtain⟨rfl,rfl⟩:=h1;obtain⟨recs,e1,e2,e3,e4,e4',e5⟩:=Nj (c:=c) (nx:=1000*i+1) (mk:=CI (.deref (.var i)) true) g6 0 (Qg (by simp only [E.den]at Iv ⊢;rw [Iv];rfl));refine fin (⟨1000*i,some (.pointer (some ⟨b,0,none⟩)), [b], .box ty (Aj P ty) (Cd P (1000*i+1) (CI (.deref (.var i)) true) 0 (AR P ty) own).1⟩::recs) (by simp [e1,AF.pair]) (by simp [e2]) (fun r hr=> ?_) ?_ (fun r hr v' hp=> ?_) fun c' ED Aw _=> ?_
    ·rcases Ae.1 hr with rfl|hr
     ·simp
     ·have:=e3 r hr;exact⟨by omega,by omega,this.2.2⟩
    ·simp only [List.map_cons,List.nodup_cons];refine⟨fun hm=> ?_,e4⟩;obtain⟨r,hr,HQ⟩:=List.mem_map.1 hm;have:=e3 r hr;omega
    ·rcases Ae.1 hr with rfl|hr
     ·unfold F6 at hp;simp only at hp;split at hp
      ·rw [show 1000*i/1000=i from by omega,LB,←Dh,hm]at hp;simp at hp;simpa using hp
      ·cases hp
     ·have h3:=e3 r hr;unfold F6 at hp;split at hp
      ·rw [show r.tag/1000=i from by omega,LB,←Dh,hm]at hp;simp only at hp;split at hp
       ·omega
       ·cases hp
      ·cases hp
    ·obtain⟨q1,q2⟩:=e5 c' (ED.mono fun r hr=>by simp [hr]) Aw;obtain⟨k1,k2,k3⟩:=ED.new _ (List.mem_cons_self ..) _ rfl;have kg:=ED.G _ (List.mem_cons_self ..);simp only at k1 k3 kg;refine⟨.bj k1 k3 .nil,fun r hr=> ?_⟩;rcases Ae.1 hr with rfl|hr
     ·exact⟨b,C,k1,k3,by rw [kg],by rw [kg],by rw [ED.w];exact g3,g4,q1⟩
     ·exact q2 r hr
  ·cases h
end
section
variable {P:Program} {c:Cx} {n:Nat} {a:Act} {τ:St}
theorem kU (h:Rel c n (Bd τ) (Ax τ.hp) a):EH c (Ax τ.hp):=fun t e hr=>h.ents t e hr
theorem gH {hp:Nat→Option Ah} {t:Nat} {e:Ah} (h:hp t=some e) (hn: ∀hs f,e≠ .gd hs f):Cz hp [] t=some e:=by
 simp only [Cz,h,Ab,JP]
 all_goals (cases e<;>first|rfl|exact absurd rfl (hn _ _))
theorem cB (h:Rel c n (Bd τ) (Ax τ.hp) a) {u g:Nat} {e z:Nat} {x:E} {d:Bool} (hu:Ax τ.hp u=some (.row e z g x d)):c.K u g∧ ∃N,Ce c.w e z (c.H u g) (x.den c.ρ) (c.G u).top N∧(∀b∈N,c.ok b)∧(d=true→N= []):=by obtain⟨p1,p2,N,p3,p4,p5,_⟩:=h.ents u _ (by rw [hu];rfl);exact⟨p1,N,p3,p4,fun hd=>(p5 hd).1⟩
theorem fA {t e:TypeId} {d:Bool} {N:List Nat} (hd:d=true→N= []) (h:BE P e=true∧d=true∨BE P e=false∧(Dc P t).isNone=true):BE P e=true∧N= []∨BE P e=false∧Dc P t=none:=by
 rcases h with⟨h1,h2⟩|⟨h1,h2⟩
 ·exact .inl ⟨h1,hd h2⟩
 ·exact .inr ⟨h1,by simpa using h2⟩
theorem SU (h:Rel c n (Bd τ) (Ax τ.hp) a): ∀(ts:List TypeId) {fl:List Bool} {cs:List SV} {l:List Nat} {us:List Value} {xs:EL} {m:Nat},JA P τ ts fl cs=some l→SR c cs us→BV (Ax τ.hp) [] m cs=some xs→m≤AJ→
  ∃f,BR P c.w ts fl us (xs.den c.ρ) f (l.flatMap fun t=>(c.G t).top)∧ ∀b∈f,c.dr (Ie P τ ts fl cs) b
 | [],fl, [],l,us,xs,m,ho,hs,hx,hm=>by
  simp [JA]at ho;subst ho;cases hs;cases m with
  |zero=>simp [BV]at hx
  |succ m=>simp [BV]at hx;subst hx;exact⟨[], .nil,by simp⟩
 | [],fl,s::cs,l,us,xs,m,ho,hs,hx,hm=>by simp [JA]at ho
 |t::ts,fl, [],l,us,xs,m,ho,hs,hx,hm=>by simp [JA]at ho
 |t::ts,fl,s::cs,l, [],xs,m,ho,hs,hx,hm=>by have:=hs.len;simp at this
 |t::ts,fl,s::cs,l,v::us,xs,m,ho,hs,hx,hm=>by
  obtain⟨j,y,ys,rfl,hy,CD,rfl⟩:=Iy hx;obtain⟨r1,r2⟩:=hs.bf;unfold JA at ho;split at ho
  ·cases ho
  rename_i l' Ct;obtain⟨f,q1,q2⟩:=SU h ts Ct r2 CD (by omega);split at ho
  ·rename_i e hf Bc;have E3:Ie P τ (t::ts) fl (s::cs)=Ie P τ ts fl.tail cs:=by
    simp only [Ie,hf,Bc,Option.isSome_some,Bool.and_self,if_true,List.nil_append]
   split at ho
   ·cases ho
   rename_i hz;split at ho
   ·simp only [Ad]at ho;subst ho;cases r1 with
    |a8 _=>refine⟨f, ?_,by rw [E3];exact q2⟩;rw [EL.den,Jj hy];exact BR.void hf Bc (by omega) q1
   ·rename_i u g;split at ho
    ·rename_i e' z g' x d hu;split at ho
     ·rename_i hh;obtain⟨rfl,rfl,rfl,FL⟩:=hh;simp only [Ad]at ho;subst ho;obtain⟨p1,N,p2,p3,p4⟩:=cB h hu;have FL:=fA p4 FL;have hl:=gH hu (by simp);have FY:y=x:=by
       cases j with
       |zero=>simp [A2]at hy
       |succ j=>simp [A2,GQ,hl]at hy;exact hy.symm
      subst FY;have hv:c.H u g=v:=by
       cases r1 with
       |own _ k2 _=>exact k2
      rw [hv]at p2;refine⟨N++f,BR.own hf Bc FL p2 q1,fun b hb=> ?_⟩;rw [E3];rcases Af.1 hb with hb|hb
      ·exact .inl (p3 b hb)
      ·exact q2 b hb
     ·cases ho
    ·rename_i e' z dl g' ep x hu;split at ho
     ·rename_i hh;obtain⟨rfl,E9,CQ⟩:=hh;have CQ:=Ta CQ;simp only [Ad]at ho;subst ho;obtain⟨p1,_,_,p2,_⟩:=h.ents u _ (by rw [hu];rfl);have hl:=gH hu (by simp);have FY:y=x:=by
       cases j with
       |zero=>simp [A2]at hy
       |succ j=>simp [A2,GQ,hl]at hy;exact hy.symm
      subst FY;have hv:c.H u g=v:=by
       cases r1 with
       |own _ k2 _=>exact k2
      rw [hv]at p2;exact⟨f,BR.deep hf Bc E9 CQ p2 q1,by rw [E3];exact q2⟩
     ·cases ho
    ·cases ho
   ·cases ho
  ·rename_i DL;simp only [Ad]at ho;subst ho;have hn:fl.headD false=true→B9 P t=none:=fun hf=>by
    cases Bc:B9 P t with
    |none=>rfl
    |some e=>exact absurd Bc (DL e hf)
   obtain⟨f1,p1,p2⟩:=Gy (kU h) (D7 _) j hy r1 AJ (by omega);refine⟨f1++f,BR.rd hn p1 q1,fun b hb=> ?_⟩;have E3:Ie P τ (t::ts) fl (s::cs)=Bo (Ax τ.hp) [] (AJ+1) [s]++Ie P τ ts fl.tail cs:=by
    have:(fl.headD false&&(B9 P t).isSome)=false:=by
     cases hf:fl.headD false with
     |false=>rfl
     |true=>rw [hn hf];rfl
    simp only [Ie,this,A9,if_false]
   rw [E3];rcases Af.1 hb with hb|hb
   ·exact(p2 b hb).mono fun t ht=>by simp [ht]
   ·exact(q2 b hb).mono fun t ht=>by simp [ht]
theorem tG (h:Rel c n (Bd τ) (Ax τ.hp) a) {t:TypeId} {fl:List Bool} {s:SV} {l:List Nat} {v:Value} {x:E} {m:Nat} (ho:Yy P τ t fl s=some l) (hs:SR c [s] [v]) (hx:A2 (Ax τ.hp) [] m s=some x) (hm:m<AJ):
  ∃f,Dr P c.w t fl v (x.den c.ρ) f (l.flatMap fun t=>(c.G t).top)∧ ∀b∈f,c.dr (YO P τ t fl s) b:=by
 unfold Yy at ho;unfold Dr YO;split at ho
 ·rename_i hf;simp only [hf,if_true];split at ho
  ·rename_i Av;split at ho
   ·rename_i cs;obtain⟨k,lx,rfl,hl,rfl⟩:=Qi hx;cases hs with
    |agg h9 h1 h8=>rename_i as_;obtain⟨f,q1,q2⟩:=SU (P:=P) h (AR P t) ho h1 hl (by omega);exact⟨f,⟨as_,lx.den c.ρ,by rw [if_pos Av];exact⟨rfl,rfl,h9⟩,q1⟩,by rw [if_pos Av];exact q2⟩
   ·cases ho
  ·rename_i Av;have I6:BV (Ax τ.hp) [] (m+1) [s]=some (.cons x .nil):=by
    cases m with
    |zero=>simp [A2]at hx
    |succ m=>simp only [BV,hx]
   obtain⟨f,q1,q2⟩:=SU (P:=P) h (AR P t) ho hs I6 (by omega);exact⟨f,⟨[v], [x.den c.ρ],by rw [if_neg Av];exact⟨rfl,rfl⟩,q1⟩,by rw [if_neg Av];exact q2⟩
 ·rename_i hf;simp only [hf,if_false,A9];simp only [Ad]at ho;subst ho;obtain⟨f,p1,p2⟩:=Gy (kU h) (D7 _) m hx hs AJ (by omega);exact⟨f,⟨p1,rfl⟩,p2⟩
theorem bJ (h:Rel c n (Bd τ) (Ax τ.hp) a): ∀(ts:List TypeId) {fl:List Bool} {ss:List SV} {l:List Nat} {vs:List Value} {xs:EL} {m:Nat},Mc P τ ts fl ss=some l→SR c ss vs→BV (Ax τ.hp) [] m ss=some xs→m≤AJ→
  ∃f,Hq P c.w ts fl vs (xs.den c.ρ) f (l.flatMap fun t=>(c.G t).top)∧ ∀b∈f,c.dr (QC P τ ts fl ss) b
 | [],fl, [],l,vs,xs,m,ho,hs,hx,hm=>by
  simp [Mc]at ho;subst ho;cases hs;cases m with
  |zero=>simp [BV]at hx
  |succ m=>simp [BV]at hx;subst hx;exact⟨[], .nil,by simp⟩
 | [],fl,s::cs,l,us,xs,m,ho,hs,hx,hm=>by simp [Mc]at ho
 |t::ts,fl, [],l,us,xs,m,ho,hs,hx,hm=>by simp [Mc]at ho
 |t::ts,fl,s::cs,l, [],xs,m,ho,hs,hx,hm=>by have:=hs.len;simp at this
 |t::ts,fl,s::cs,l,v::us,xs,m,ho,hs,hx,hm=>by
  obtain⟨j,y,ys,rfl,hy,CD,rfl⟩:=Iy hx;obtain⟨r1,r2⟩:=hs.bf;unfold Mc at ho;split at ho
  ·rename_i a1 b1 h1 h2;simp only [Ad]at ho;subst ho;obtain⟨f1,p1,p2⟩:=tG (P:=P) h h1 r1 hy (by omega);obtain⟨f2,q1,q2⟩:=bJ h ts h2 r2 CD (by omega);refine⟨f1++f2,by rw [List.flatMap_append];exact .cons p1 q1,fun b hb=> ?_⟩;simp only [QC];rcases Af.1 hb with hb|hb
   ·exact(p2 b hb).mono fun t ht=>by simp [ht]
   ·exact(q2 b hb).mono fun t ht=>by simp [ht]
  ·cases ho
end
section
variable {P:Program} {c:Cx} {n:Nat} {a:Act} {τ:St}
theorem zI (h:Rel c n (Bd τ) (Ax τ.hp) a) {t:TypeId} {b o:Nat} {ty:TypeId} {g:Bool} {cs:List SV} {s:SV} {v:Value} (A1:CC P t=true) (hl:Ax τ.hp b=some (.box ty g cs)) (AQ:Mn P t cs o=some s) (hr:SR c [.bj b o] [v]):
  ∃q u,v= .pointer (some ⟨q,o,none⟩)∧(loadVar t ⟨q,o,none⟩).run P c.w= .ok u c.w∧SR c [s] [u]:=by
 cases hr with
 |bj h1 h2 h8=>
  rename_i q;obtain⟨q',C,_,e2,e3,e4,e5,e5',e6⟩:=h.ents b _ (by rw [hl];rfl);rw [h2]at e2;cases e2;have key: ∀vs:List Value,(Aj P t=true→vs.length=P.cellsOf t)→(Aj P t=false→vs.length=1)→(∀j u,vs[j]?=some u→c.w.cell? ⟨q,o+j,none⟩=some u)→(loadVar t ⟨q,o,none⟩).run P c.w= .ok (if Aj P t then .agg vs.toArray else vs.headD undef) c.w:=fun vs k1 k2 k3=>by have:=Nl (P:=P) (w:=c.w) (b:=q) (off:=o) A1 vs k1 k2 k3;simpa [Instr.loadAt,Instr.sureAddr]using this
  unfold Mn at AQ;have hlen:=e6.len;split at AQ
  ·rename_i Av;split at AQ
   ·rename_i hle;simp at AQ;subst AQ;obtain⟨r1,r2⟩:=e6.split o;obtain⟨r3,r4⟩:=r2.split (P.cellsOf t);have:=SR.agg (cs:=Ba.of ((cs.drop o).take (P.cellsOf t))) (fun u hu=>e5' u (List.mem_of_mem_drop (List.mem_of_mem_take hu))) (by rw [Ba.aj];exact r3) .nil;refine⟨q, .agg ((C.toList.drop o).take (P.cellsOf t)).toArray,rfl, ?_,this⟩;rw [key ((C.toList.drop o).take (P.cellsOf t)) (fun _=>by simp at hlen ⊢;omega) (fun h=>by rw [Av]at h;cases h) (fun j u hu=>by
     rw [D5 e5];rw [List.getElem?_take]at hu;split at hu
     ·simpa using hu
     ·cases hu)]
    simp [Av]
   ·cases AQ
  ·rename_i Av;have Av:Aj P t=false:=by simpa using Av
   obtain⟨u,hu,r⟩:=e6.get AQ;refine⟨q,u,rfl, ?_,r⟩;rw [key [u] (fun h=>by rw [Av]at h;cases h) (fun _=>rfl) (fun j z hz=>by
    cases j with
    |zero=>simp at hz;subst hz;rw [D5 e5];simpa using hu
    |succ j=>simp at hz)]
   simp [Av]
theorem aW {α:Type} {g:α→Sem Value} {w:World}: ∀(l:List α) (us:List Value),l.length=us.length→(∀(i:Nat) (x:α) (u:Value),l[i]?=some x→us[i]?=some u→(g x).run P w= .ok u w)→(l.mapM g).run P w= .ok us w
 | [], [],_,_=>by simp
 | [],_::_,h,_=>by simp at h
 |_::_, [],h,_=>by simp at h
 |x::l,u::us,h,hg=>by have h0:=hg 0 x u rfl rfl;have ih:=aW l us (by simpa using h) fun i y z hy hz=>hg (i+1) y z (by simpa using hy) (by simpa using hz);simp [List.mapM_cons,h0,ih]
theorem s5 (h:Rel c n (Bd τ) (Ax τ.hp) a) (fn:Func) {rs:List SV} (Ep:fn.results.toList.mapM (NA P τ)=some rs):
  ∃us,SR c rs us∧rs.length=us.length∧(results fn a.tmps).run P c.w= .ok (match us with| [u]=>u|us=> .tuple us.toArray) c.w:=by
 have one: ∀(r:ResultVar) (s:SV),NA P τ r=some s→ ∃u,SR c [s] [u]∧(match r with| .tmp t=>(pure (a.tmps.getD t undef):Sem Value)| .cell b t=>do loadVar t (←asAddr (a.tmps.getD b undef))).run P c.w= .ok u c.w:=by
  intro r s hr;cases r with
  |tmp t=>simp only [NA,Ad]at hr;subst hr;exact⟨_,h.cc t,by simp⟩
  |cell b ty=>
   simp only [NA]at hr;split at hr
   ·rename_i b' o B6;split at hr
    ·rename_i ty' g cs hl;split at hr
     ·rename_i A1;have hs:=h.cc b;rw [B6]at hs;obtain⟨q,u,hv,AI,Ja⟩:=zI h A1 hl hr hs;exact⟨u,Ja,by simp only [hv];simp [asAddr,AI]⟩
     ·cases hr
    ·cases hr
   ·cases hr
 have list: ∀(l:List ResultVar) (rs:List SV),l.mapM (NA P τ)=some rs→ ∃us,SR c rs us∧l.length=us.length∧ ∀(i:Nat) (x:ResultVar) (u:Value),l[i]?=some x→us[i]?=some u→(match x with| .tmp t=>(pure (a.tmps.getD t undef):Sem Value)| .cell b t=>do loadVar t (←asAddr (a.tmps.getD b undef))).run P c.w= .ok u c.w:=by
  intro l
  induction l with
  |nil=>intro rs Ep;simp at Ep;subst Ep;exact⟨[], .nil,rfl,by simp⟩
  |cons r l ih=>
   intro rs Ep;rw [List.mapM_cons]at Ep;simp only [Option.bind_eq_bind,An,Option.pure_def,Ad]at Ep;obtain⟨s,hs,rs',VJ,rfl⟩:=Ep;obtain⟨u,h1,h2⟩:=one r s hs;obtain⟨us,h3,h4,h5⟩:=ih rs' VJ;refine⟨u::us,h1.cons h3,by simp [h4],fun i x v hx hv=> ?_⟩;cases i with
   |zero=>simp at hx hv;subst hx;subst hv;exact h2
   |succ i=>exact h5 i x v (by simpa using hx) (by simpa using hv)
 obtain⟨us,h1,h2,h3⟩:=list _ _ Ep;refine⟨us,h1,h1.len, ?_⟩;have hm:=aW (P:=P) (w:=c.w) fn.results.toList us h2 h3;simp only [results,Array.mapM_eq_mapM_toList,map_eq_pure_bind,Sem.run_bind]
 erw [hm]
 simp only [Result.andThen_ok,Sem.run_pure]
 match us with
 | []=>simp
 | [u]=>simp
 |u::v::us=>simp
theorem Xj (h:Rel c n (Bd τ) (Ax τ.hp) a) {w0:World} {v:Value} {ms:List PM} {vs:List Value} (DN: ∀t,c.A.pin t=F6 ms vs t) {i:Nat} (hi:i≤99) {own0:List Bool} (hv:vs[i]?=some v) (hm:(ms[i]?).getD .ro= .mu own0) {mk:Nat→E}: ∀(ts:List TypeId) (j:Nat) {fl:List Bool} {us:List Value} {ys:List AV} {rf hs:List Nat} {es:List E} {l:List Nat},
  BR P w0 ts fl us ys rf hs→j+ts.length≤400→(∀k u,us[k]?=some u→(∃e,(0+j+k,e)∈(Cd P 0 (CI (.var 0) true) j ts fl).2)→v.cells[j+k]?=some u)→QN P τ i mk j ts fl=some (es,l)→ ∃f o,Fp P c.w ts fl us (es.map (E.den c.ρ)) f o∧(o=l.flatMap fun t=>(c.G t).top)∧ ∀b∈f,c.ok b
 | [],j,fl,us,ys,rf,hs,es,l,hc,hle,BF,he=>by simp [QN]at he;obtain⟨rfl,rfl⟩:=he;cases hc;exact⟨[], [], .nil,rfl,by simp⟩
 |t::ts,j,fl,us,ys,rf,hs,es,l,hc,hle,BF,he=>by
  unfold QN at he;split at he
  ·cases he
  rename_i xs us' Ct;simp only [AA]at hle;have sub: ∀{u:Value} {us1:List Value},us=u::us1→ ∀k z,us1[k]?=some z→(∃e,(0+(j+1)+k,e)∈(Cd P 0 (CI (.var 0) true) (j+1) ts fl.tail).2)→v.cells[j+1+k]?=some z:=by
   rintro u us1 rfl k z hz ⟨e,he⟩;have:=BF (k+1) z (by simpa using hz) ⟨e,by
    simp only [Cd];split
    ·rw [show 0+j+(k+1)=0+(j+1)+k from by omega];exact List.mem_cons_of_mem _ he
    ·rw [show 0+j+(k+1)=0+(j+1)+k from by omega];exact he⟩
   rw [show j+1+k=j+(k+1)from by omega];exact this
  have fin: ∀{u:Value} {us1:List Value} {ys1:List AV} {rf1 Bj:List Nat} {el:TypeId},us=u::us1→fl.headD false=true→B9 P t=some el→BR P w0 ts fl.tail us1 ys1 rf1 Bj→ ∃f o,Fp P c.w (t::ts) fl us (es.map (E.den c.ρ)) f o∧(o=l.flatMap fun t=>(c.G t).top)∧ ∀b∈f,c.ok b:=by
   rintro u us1 ys1 rf1 Bj el rfl h1 h2 h4;obtain⟨f0,o,q1,q2,q3⟩:=Xj h DN hi hv hm ts (j+1) h4 (by omega) (sub rfl) Ct;rw [h1,h2]at he;simp only at he;have UP:v.cells[j]?=some u:=by have:=BF 0 u rfl ⟨_,by simp only [Cd,h1,h2,Nat.zero_add,Nat.add_zero];exact List.mem_cons_self ..⟩;simpa using this
   have Ru:c.A.pin (1000*i+500+j)=some u:=by
    rw [DN];unfold F6;have e1:(1000*i+500+j)/1000=i:=by omega
    have e2:(1000*i+500+j) % 1000=500+j:=by omega
    rw [if_pos (by unfold KN;simp only [e2,Ac,decide_eq_true_eq,Bool.or_eq_true];omega),e1,e2,hv,hm];simp only;rw [if_pos (by omega),show 500+j-500=j from by omega];exact UP
   split at he
   ·rename_i e' z y' d hu;split at he
    ·rename_i hh;obtain⟨rfl,rfl,FL⟩:=hh;simp only [Ad,Prod.mk.injEq]at he;obtain⟨rfl,rfl⟩:=he;obtain⟨p1,N,p2,p3,p4⟩:=cB h hu;have hH:=(h.base.pins _ u Ru).2 p1;rw [hH]at p2;refine⟨_,_, .own h1 h2 (fA p4 FL) p2 q1,by simp [q2],fun b hb=> ?_⟩;rcases Af.1 hb with hb|hb
     ·exact p3 b hb
     ·exact q3 b hb
    ·cases he
   ·rename_i e' z dl ep y' hu;split at he
    ·rename_i hh;obtain⟨E9,CQ⟩:=hh;have CQ:=Ta CQ;simp only [Ad,Prod.mk.injEq]at he;obtain⟨rfl,rfl⟩:=he;obtain⟨p1,_,_,p2,_⟩:=h.ents _ _ (by rw [hu];rfl);have hH:=(h.base.pins _ u Ru).2 p1;rw [hH]at p2;refine⟨_,_, .deep h1 h2 E9 CQ p2 q1,by simp [q2],q3⟩
    ·cases he
   ·cases he
  cases hc with
  |own h1 h2 _ _ h4=>exact fin rfl h1 h2 h4
  |deep h1 h2 _ _ _ h4=>exact fin rfl h1 h2 h4
  | @rd _ _ _ u us1 y ys1 f rf1 Bj h1 h3 h4=>
   obtain⟨f0,o,q1,q2,q3⟩:=Xj h DN hi hv hm ts (j+1) h4 (by omega) (sub rfl) Ct;split at he
   ·rename_i e hf Bc;rw [h1 hf]at Bc;cases Bc
   ·simp only [Ad,Prod.mk.injEq]at he;obtain⟨rfl,rfl⟩:=he;exact⟨f0,o, .skip h1 q1,q2,q3⟩
end
section
variable {P:Program} {c:Cx} {n:Nat} {a:Act} {τ:St}
theorem bQ (h:Rel c n (Bd τ) (Ax τ.hp) a) {w0:World} {ms0:List PM} {vs0:List Value} (DN: ∀t,c.A.pin t=F6 ms0 vs0 t): ∀(ts:List TypeId) (i:Nat) {ms:List PM} {lo:List Bool} {vs:List Value} {xs:List AV} {rf lf hs:List Nat} {bx:List E} {us:List Nat},Qp P τ i ts ms=some (bx,us)→CJ P w0 ts ms lo vs xs rf lf hs→
  (∀k,ms[k]?=ms0[i+k]?)→(∀k,vs[k]?=vs0[i+k]?)→ ∃f o,CY P c.w ts ms vs (bx.map (E.den c.ρ)) f o∧o=us.flatMap (fun t=>(c.G t).top)∧ ∀b∈f,c.dr (Mp P τ i ts ms) b
 | [],i,ms,lo,vs,xs,rf,lf,hs,bx,us,he,ha,_,_=>by simp [Qp]at he;obtain⟨rfl,rfl⟩:=he;exact⟨[], [], .nil,rfl,by simp⟩
 |t::ts,i,ms,lo,vs,xs,rf,lf,hs,bx,us,he,ha,DK,Iu=>by
  obtain⟨v,vs,x,xs,f,hh,rf,lf,hs,rfl,DO,AS⟩: ∃v vs' x xs' f hh rf' lf' AX,vs=v::vs'∧CJ P w0 ts ms.tail lo.tail vs' xs' rf' lf' AX∧(Y2 P w0 t (ms.headD .ro) v x f hh∨ms.headD .ro= .ro):=by
   cases ha with
   |cons h1 h2=>exact⟨_,_,_,_,_,_,_,_,_,rfl,h2, .inl h1⟩
   | @lent _ _ _ _ _ _ x _ _ _ _ _ h1 h2 h3 h4=>exact⟨_,_,x,_, [], [],_,_,_,rfl,h4, .inr h2⟩
  have Dh:ms.headD .ro=(ms0[i]?).getD .ro:=by have:=DK 0;rw [Nat.add_zero]at this;rw [←this];cases ms<;>rfl
  have LB:vs0[i]?=some v:=by have:=Iu 0;simpa using this.symm
  unfold Qp at he;split at he
  ·cases he
  rename_i bx' us' Ct;obtain⟨f2,o2,b1,b2,b3⟩:=bQ h DN ts (i+1) Ct DO (fun k=>by rw [show i+1+k=i+(k+1)from by omega,←DK (k+1)];cases ms<;>simp) (fun k=>by rw [show i+1+k=i+(k+1)from by omega,←Iu (k+1)];simp);have see2: ∀b∈f2,c.dr (Mp P τ i (t::ts) ms) b:=fun b hb=>(b3 b hb).mono fun t ht=>by simp only [Mp,Af];exact .inr ht
  split at he
  ·cases he
  rename_i hi;split at he
  ·rename_i hm;simp only [Ad,Prod.mk.injEq]at he;obtain⟨rfl,rfl⟩:=he;exact⟨f2,o2, .ro hm b1,b2,see2⟩
  ·rename_i own hm;simp only [Ad,Prod.mk.injEq]at he;obtain⟨rfl,rfl⟩:=he;exact⟨f2,o2, .va hm b1,b2,see2⟩
  ·rename_i own hm;split at he
   ·cases he
   rename_i hle;split at he
   ·rename_i es l GL;simp only [Ad,Prod.mk.injEq]at he;obtain⟨rfl,rfl⟩:=he;rw [hm]at AS;obtain⟨us0,ys0,hg,hc⟩:=AS.resolve_right fun h=>by cases h
    obtain⟨f1,o1,q1,q2,q3⟩:=Xj h DN (i:=i) (by omega) LB (by rw [←Dh];exact hm) (AR P t) 0 hc (by omega) (fun k u hu he=>by
     rw [Nat.zero_add];split at hg
     ·obtain⟨rfl,_,_⟩:=hg;simpa [Value.cells]using hu
     ·obtain⟨rfl,_⟩:=hg;cases k with
      |zero=>simp at hu;subst hu;rw [hc.gy (nx:=0) (mk:=CI (.var 0) true) (j:=0) 0 v rfl he];rfl
      |succ k=>simp at hu) GL
    refine⟨f1++f2,o1++o2,CY.mu (us:=us0) (ys:=es.map (E.den c.ρ)) hm ?_ q1 b1,by rw [q2,b2,List.flatMap_append],fun b hb=>(Af.1 hb).elim (fun hb=> .inl (q3 b hb)) (see2 b)⟩;split at hg
    ·rename_i Av;rw [if_pos Av,if_pos Av];exact⟨hg.1,by simp only [E.den,EL.cq]⟩
    ·rename_i Av;rw [if_neg Av,if_neg Av];obtain⟨rfl,_⟩:=hg;refine⟨rfl, ?_⟩;have mlen: ∀{ts:List TypeId} {fl:List Bool} {us:List Value} {ys:List AV} {f o:List Nat},Fp P c.w ts fl us ys f o→us.length=ys.length:=by
      intro ts fl us ys f o O5
      induction O5<;>simp_all
     have:=mlen q1
     match es,this with
     | [e],_=>rfl
   ·cases he
  ·rename_i own own' hm;rw [hm]at AS;obtain⟨ty,b,C0,ys0,h9,g1,rfl,g3,g4,rfl,g6,rfl⟩:=AS.resolve_right fun h=>by cases h
   split at he
   ·rename_i ty1 ty2 g cs Dk GF;rw [g1]at Dk;cases Dk;split at he
    ·cases he
    rename_i A4;have A4:ty2=ty:=by simpa using A4
    subst A4;split at he
    ·rename_i es vs' GH VX;simp only [Ad,Prod.mk.injEq]at he;obtain⟨rfl,rfl⟩:=he;obtain⟨b',C,p1,p2,p3,p4,p5,p6,p7⟩:=h.ents _ _ (by rw [GF];rfl);have Ru:c.A.pin (1000*i)=some (.pointer (some ⟨b,0,none⟩)):=by
      rw [DN];unfold F6;have e1:(1000*i)/1000=i:=by omega
      have e2:(1000*i) % 1000=0:=by omega
      rw [if_pos (by unfold KN;simp only [e2,Ac,decide_eq_true_eq,Bool.or_eq_true];simp;omega),e1,e2,LB,←Dh,hm];rfl
     have hH:=(h.base.pins _ _ Ru).2 p1;rw [p2]at hH;cases hH;obtain⟨f1,q1,q2⟩:=SU (P:=P) h (AR P ty2) VX p7 GH (Nat.le_refl _);refine⟨f1++f2,_,CY.bx hm g1 rfl p5 p6 (by simp only [E.den]) q1 b1,by rw [b2];simp [p3],fun x hx=> ?_⟩;rcases Af.1 hx with hx|hx
     ·refine(q2 x hx).mono fun t ht=> ?_;simp only [Mp,hm,g1,GF,Af];exact .inl ht
     ·exact see2 x hx
    ·cases he
   ·cases he
end
theorem W9 {P:Program}: ∀(ts:List TypeId) (i:Nat) (ms:List PM) (lo:List Bool) (ss:List SV) (l:List (Nat × Ah)),Ky P i ts ms lo=some (ss,l)→ ∀t x,(t,x)∈l→ ∀gs f,x≠ .gd gs f
 | [],i,ms,lo,ss,l,h,t,x,hx=>by simp [Ky]at h;obtain⟨_,rfl⟩:=h;simp at hx
 |t0::ts,i,ms,lo,ss,l,h,t,x,hx=>by
  unfold Ky at h;split at h
  ·rename_i s1 l1 ss1 l2 q1 q2;simp only [Ad,Prod.mk.injEq]at h;obtain⟨_,rfl⟩:=h;rcases Af.1 hx with hx|hx
   ·have hV: ∀(b:Nat) (own:List Bool),NS P i b t0 own=some (s1,l1)→ ∀gs f,x≠ .gd gs f:=by
     intro b own hh;unfold NS at hh;simp only at hh;split at hh
     ·cases hh
     ·split at hh
      ·simp only [Ad,Prod.mk.injEq]at hh;obtain⟨_,rfl⟩:=hh;intro gs f;exact LV _ _ _ _ _ hx
      ·split at hh
       ·simp only [Ad,Prod.mk.injEq]at hh;obtain⟨_,rfl⟩:=hh;intro gs f;exact LV _ _ _ _ _ hx
       ·cases hh
    unfold TW at q1;split at q1
    ·simp only [Ad,Prod.mk.injEq]at q1;rw [←q1.2]at hx;simp at hx
    ·exact hV _ _ q1
    ·exact hV _ _ q1
    ·split at q1
     ·simp only at q1;split at q1
      ·cases q1
      ·simp only [Ad,Prod.mk.injEq]at q1;obtain⟨_,rfl⟩:=q1;rcases Ae.1 hx with hx|hx
       ·cases hx;simp
       ·intro gs f;exact LV _ _ _ _ _ hx
     ·cases q1
   ·exact W9 _ _ _ _ _ _ q2 t x hx
  ·cases h
theorem zJ {P:Program} {sg:Bq} (Vr:P.follows .mixedOrders=true) (HR: ∀f s,sg f=some s→f<1000000) {f:Nat} {s:Ge} {fn:Func} {t:Tr} {xs:List AV} {r:AV} (FM:P.funcs[f]?=some fn) (hs:sg f=some s) (E7:(fn.name== "runtime.NumGoroutine")=false)
  (DE:Q1 P sg f=some t) (BH:KC P fn s r=true) (hlen:xs.length=fn.params.size+fn.nfree) (hd:t.den (Ca P sg) (fun r'=>r'=r) (fun _ _ _ _=>False) [] xs):Ok P s f xs r:=by
 unfold Q1 at DE;simp only [FM,hs]at DE;split at DE
 ·rename_i code σ C5 A5;split at DE
  ·rename_i t0 hex;have CK:s.ft.length≤fn.nfree:=by
    have A5:=A5;unfold Yf at A5;split at A5
    ·cases A5
    ·simp only at A5;split at A5
     ·cases A5
     ·rename_i Aq;simp only [Bool.or_eq_true,decide_eq_true_eq,not_or,Nat.not_lt]at Aq;exact Aq.2
   refine⟨fn,FM,by rw [C5];rfl,E7,BH,hlen,CK,fun w vs rf lf AX Ao E1 HA FR C6=> ?_⟩;unfold Yf at A5;split at A5
   ·cases A5
   rename_i ss l Cr;simp only at A5;split at A5
   ·cases A5
   rename_i Aq;simp only [Bool.or_eq_true,decide_eq_true_eq,not_or,Nat.not_lt]at Aq;simp only [Ad]at A5;subst A5;let pin:Nat→Option Value:=F6 s.bg vs;let LO:Value→AV→Prop:=fun v y=> ∃f,Rd w [v] [y] f∧ ∀b∈f,¬b∈AX;let c0:Cx:={ρ:=xs,w:=w,G:=fun _=>⟨[], []⟩,K:=fun _ _=>False,H:=fun _ _=>undef,A:=⟨fun b=>b∈rf,pin,LO⟩,w0:=w,Mu:=fun b=>b∈AX,U:=fun _=>False,E:=fun _=>0}
   have Dl:vs.length=xs.length:=by
    have: ∀{ts:List TypeId} {ms:List PM} {lo:List Bool} {vs:List Value} {xs:List AV} {rf lf hs:List Nat},CJ P w ts ms lo vs xs rf lf hs→vs.length=xs.length:=by
     intro ts ms lo vs xs rf lf hs h
     induction h<;>simp_all
    exact this Ao
   obtain⟨recs,e1,e2,e3,e4,e5,e6,e7,e8⟩:=cR (c:=c0) (ms0:=s.bg) (vs0:=vs) (fn.params.toList++s.ft) 0 Cr Ao (fun k x hx=>by simp only [E.den,Nat.zero_add];show(xs[k]?).getD .undef=x;rw [hx];rfl) (fun k=>by simp) (fun k=>by simp);have aft:=Cx.db (c:=c0) (w':=w) (recs:=recs) (fun t g hk=>hk.elim) e4 (fun r _ _ h=>h);have Zf: ∀r∈recs,r.tag<100000:=fun r hr=>by have:=e3 r hr;simp only [Nat.zero_add,AB,Array.length_toList]at this;omega
   let c:Cx:={c0.c8 w recs with U:=fun t=>t<100000}
   have OC: ∀b∈rf,(c0.c8 w recs).ok b:=by
    intro b hb;refine⟨fun⟨t,ht⟩=> ?_, .inl hb⟩;by_cases hT: ∃r∈recs,r.tag=t
    ·obtain⟨r,hr,rfl⟩:=hT;rw [Cx.de e4 hr]at ht;exact E1 b (by rw [←e2];exact List.mem_flatMap.2 ⟨r,hr,ht⟩) hb
    ·rw [Cx.cg fun r hr hh=>hT ⟨r,hr,hh⟩]at ht;simp [c0]at ht
   have BD: ∀(k:Nat) (v:Value) (x:AV),(s.bg[k]?).getD .ro= .ro→vs[k]?=some v→xs[k]?=some x→LO v x:=by
    have key: ∀{ts:List TypeId} {ms:List PM} {lo:List Bool} {vs:List Value} {xs:List AV} {rf lf hs:List Nat},CJ P w ts ms lo vs xs rf lf hs→ ∀(k:Nat) (v:Value) (x:AV),(ms[k]?).getD .ro= .ro→vs[k]?=some v→xs[k]?=some x→ ∃f,Rd w [v] [x] f∧ ∀b∈f,b∈rf∨b∈lf:=by
     intro ts ms lo vs xs rf lf hs h
     induction h with
     |nil=>intro k v x _ h _;simp at h
     | @cons t ts ms lo v vs x xs f h rf lf hs AS _ ih=>
      intro k v' x' h1 h2 h3;cases k with
      |zero=>
       have hm:ms.headD .ro= .ro:=by cases ms<;>exact h1
       rw [hm]at AS;simp at h2 h3;subst h2;subst h3;exact⟨f,AS.1,fun b hb=> .inl (by simp [hb])⟩
      |succ k=>obtain⟨f',q1,q2⟩:=ih k v' x' (by cases ms with|nil=>rfl|cons _ _=>simpa using h1) (by simpa using h2) (by simpa using h3);exact⟨f',q1,fun b hb=>(q2 b hb).imp (fun h=>by simp [h]) id⟩
     | @lent t ts ms lo v vs x xs f rf lf hs _ _ hr _ ih=>
      intro k v' x' h1 h2 h3;cases k with
      |zero=>simp at h2 h3;subst h2;subst h3;exact⟨f,hr,fun b hb=> .inr (by simp [hb])⟩
      |succ k=>obtain⟨f',q1,q2⟩:=ih k v' x' (by cases ms with|nil=>rfl|cons _ _=>simpa using h1) (by simpa using h2) (by simpa using h3);exact⟨f',q1,fun b hb=>(q2 b hb).imp id (fun h=>by simp [h])⟩
     | @free ms lo v vs x xs f rf lf hs hr _ ih=>
      intro k v' x' h1 h2 h3;cases k with
      |zero=>simp at h2 h3;subst h2;subst h3;exact⟨f,hr,fun b hb=> .inl (by simp [hb])⟩
      |succ k=>obtain⟨f',q1,q2⟩:=ih k v' x' (by cases ms with|nil=>rfl|cons _ _=>simpa using h1) (by simpa using h2) (by simpa using h3);exact⟨f',q1,fun b hb=>(q2 b hb).imp (fun h=>by simp [h]) id⟩
    intro k v x h1 h2 h3;obtain⟨f,q1,q2⟩:=key Ao k v x h1 h2 h3;exact⟨f,q1,fun b hb hh=>(q2 b hb).elim (E1 b hh) (HA b hh)⟩
   obtain⟨g1,g2⟩:=e8 _ aft OC BD;have kc:CN (c0.c8 w recs) c:=⟨rfl,rfl,fun _ _ hb=>hb,fun _ _ _=>rfl,fun _ _ hk=>⟨hk,rfl⟩,fun _ _ _=>⟨Nat.le_refl _,fun _=>⟨rfl,fun _ _ _=>rfl⟩⟩⟩
   have Hd:fn.params.size+fn.nfree=vs.length:=by rw [Dl,hlen]
   have Fg:(ss++(List.range (fn.nfree-s.ft.length)).map fun j=>SV.e (.var (fn.params.size+s.ft.length+j))).length=vs.length:=by rw [AB,e6,List.length_map,List.length_range,AB,Array.length_toList];omega
   have g1':SR c (ss++(List.range (fn.nfree-s.ft.length)).map fun j=>SV.e (.var (fn.params.size+s.ft.length+j))) vs:=by
    have:=g1.keep kc;have Lu:(fn.params.toList++s.ft).length=fn.params.size+s.ft.length:=by rw [AB,Array.length_toList]
    rw [show vs.length-(fn.params.toList++s.ft).length=fn.nfree-s.ft.length from by omega]at this;simpa using this
   have hG: ∀t,(∃r∈recs,r.tag=t∧c.G t=⟨r.top, []⟩)∨c.G t=⟨[], []⟩:=fun t=>by
    by_cases hT: ∃r∈recs,r.tag=t
    ·obtain⟨r,hr,rfl⟩:=hT;exact .inl ⟨r,hr,rfl,Cx.de (w':=w) e4 hr⟩
    ·exact .inr (Cx.cg (w':=w) fun r hr hh=>hT ⟨r,hr,hh⟩)
   have FQ: ∀r∈recs,∀b∈r.top,b∈AX:=fun r hr b hb=>by rw [←e2];exact List.mem_flatMap.2 ⟨r,hr,hb⟩
   have DI: ∀b∈AX,b<w.heap.size:=by
    have: ∀{ts:List TypeId} {ms:List PM} {lo:List Bool} {vs:List Value} {xs:List AV} {rf lf hs:List Nat},CJ P w ts ms lo vs xs rf lf hs→ ∀b∈hs,b<w.heap.size:=by
     intro ts ms lo vs xs rf lf hs h
     induction h with
     |nil=>simp
     |lent _ _ _ _ ih=>exact ih
     | @cons t ts ms lo v vs x xs f h rf lf hs AS _ ih=>
      intro b hb;rcases Af.1 hb with hb|hb
      ·cases hm:ms.headD .ro with
       |ro=>rw [hm]at AS;rw [AS.2]at hb;simp at hb
       |va own=>rw [hm]at AS;obtain⟨_,_,_,hc⟩:=AS;exact hc.inb.2 b hb
       |mu own=>rw [hm]at AS;obtain⟨_,_,_,hc⟩:=AS;exact hc.inb.2 b hb
       |bx own own'=>
        rw [hm]at AS;obtain⟨_,b0,_,_,_,_,_,hh,_,_,hc,rfl⟩:=AS;rcases Ae.1 hb with rfl|hb
        ·exact Ev hh
        ·exact hc.inb.2 b hb
      ·exact ih b hb
     |free _ _ ih=>exact ih
    exact this Ao
   have A0: ∀t e,Ax l t=some e→ ∃r∈recs,r.tag=t∧r.ar=e:=fun t e he=>by have:=Hl he;rw [e1]at this;obtain⟨r,hr,Pk⟩:=List.mem_map.1 this;simp only [AF.pair,Prod.mk.injEq]at Pk;exact⟨r,hr,Pk.1,Pk.2⟩
   let F:Fix:=⟨w,⟨fun b=>b∈rf,pin,LO⟩,fun b=>b∈AX,fun t v h=>by
    simp only [pin,F6]at h;split at h
    ·assumption
    ·cases h⟩
   have Ak:Rel c fn.ntmps (Bd {sl:=ss++(List.range (fn.nfree-s.ft.length)).map (fun j=>SV.e (.var (fn.params.size+s.ft.length+j)))++List.replicate (fn.ntmps-(fn.params.size+fn.nfree)) .undef,hp:=l,nx:=100000,nv:=fn.params.size+fn.nfree}) (Ax l) {tmps:=vs.toArray++Array.replicate (fn.ntmps-vs.toArray.size) undef,defers:= []}:=by
    refine⟨rfl,by simp;omega,⟨rfl,rfl,rfl,Nat.le_refl _,fun t v hp=>⟨?_,fun hk=> ?_⟩,fun b _ _=>rfl,C6,fun v y h=>h⟩,fun i=> ?_,fun t e hr=> ?_,fun t hn=> ?_,⟨fun t=> ?_,fun t u Kk b hb BC=> ?_,fun t b hb=> ?_,fun t b hb=> ?_⟩,fun t g hk=> ?_,fun t e he=> ?_⟩
    ·have:=F.ma t v hp;unfold KN at this;simp only [Ac,decide_eq_true_eq]at this;exact this.1
    ·rcases hk with hk|⟨r,hr,rfl,AM,_⟩
     ·exact hk.elim
     ·exact(aft.new r hr v (e5 r hr v hp)).2.2
    ·have UJ:SR c (ss++(List.range (fn.nfree-s.ft.length)).map (fun j=>SV.e (.var (fn.params.size+s.ft.length+j)))++List.replicate (fn.ntmps-(fn.params.size+fn.nfree)) .undef) (vs++List.replicate (fn.ntmps-(fn.params.size+fn.nfree)) undef):=by
      refine g1'.app ?_;have: ∀k,SR c (List.replicate k SV.undef) (List.replicate k undef):=by
       intro k
       induction k with
       |zero=>exact .nil
       |succ k ih=>exact .undef ih
      exact this _
     unfold Bd;simp only;cases hq:(ss++(List.range (fn.nfree-s.ft.length)).map (fun j=>SV.e (.var (fn.params.size+s.ft.length+j)))++List.replicate (fn.ntmps-(fn.params.size+fn.nfree)) SV.undef)[i]? with
     |none=>exact .undef .nil
     |some s'=>
      obtain⟨v',Pv,Ja⟩:=UJ.get hq;have:(vs.toArray++Array.replicate (fn.ntmps-vs.toArray.size) undef).getD i undef=v':=by
       rw [Array.getD_eq_getD_getElem?];have e:(vs.toArray++Array.replicate (fn.ntmps-vs.toArray.size) undef)[i]?=(vs++List.replicate (fn.ntmps-(fn.params.size+fn.nfree)) undef)[i]?:=by rw [←Array.getElem?_toList];simp [Hd]
       rw [e,Pv];rfl
      rw [this];exact Ja
    ·cases hh:Ax l t with
     |none=>rw [hh]at hr;exact hr.elim
     |some e0=>
      obtain⟨r,CT,rfl,rfl⟩:=A0 t e0 hh;have A5:=(g2 r CT).keep kc rfl rfl (fun g hg=>hg) (fun b _=>rfl);rw [hh]at hr;cases he:r.ar with
      |gd gs e'=>rw [he]at A5 hr;obtain⟨_,rfl⟩:=hr;have AM:=(e3 r CT).2.2;exfalso;exact W9 _ _ _ _ _ _ Cr r.tag r.ar (by rw [e1];exact List.mem_map.2 ⟨r,CT,rfl⟩) _ _ he
      |_=>rw [he]at A5 hr;simp only [BW]at hr;subst hr;exact A5
    ·rcases hG t with⟨r,hr,rfl,hg⟩|hg
     ·exfalso;have GK:(r.tag,r.ar)∈l:=by rw [e1];exact List.mem_map.2 ⟨r,hr,rfl⟩
      have: ∃e,Ax l r.tag=some e:=by
       have: ∀(l:List (Nat × Ah)),(r.tag,r.ar)∈l→ ∃e,Ax l r.tag=some e:=by
        intro l
        induction l with
        |nil=>intro h;simp at h
        |cons p l ih=>
         obtain⟨u,f'⟩:=p;intro h;simp only [Ax];split
         ·exact⟨_,rfl⟩
         ·rename_i hu;rcases Ae.1 h with h|h
          ·cases h;exact absurd rfl hu
          ·exact ih h
       exact this l GK
      obtain⟨e,he⟩:=this;obtain⟨r',CT,Kj,rfl⟩:=A0 _ _ he;have MH: ∀gs f',r'.ar≠ .gd gs f':=by intro gs f' BN;exact W9 _ _ _ _ _ _ Cr r'.tag r'.ar (by rw [e1];exact List.mem_map.2 ⟨r',CT,rfl⟩) _ _ BN
      apply hn r'.ar;rw [he];cases VG:r'.ar with
      |gd gs f'=>exact absurd VG (MH gs f')
      |_=>simp [BW]
     ·rw [hg];simp
    ·rcases hG t with⟨r,hr,rfl,hg⟩|hg
     ·rw [hg];rw [←e2]at FR;simpa [GI.own]using(P3 FR).1 r hr
     ·rw [hg];simp [GI.own]
    ·rcases hG t with⟨r,hr,rfl,hg⟩|hg
     ·rcases hG u with⟨q,hq,rfl,BN⟩|BN
      ·rw [hg]at hb;rw [BN]at BC;simp only [GI.own,List.append_nil]at hb BC;rw [←e2]at FR;obtain⟨i,hi⟩:=List.getElem?_of_mem hr;obtain⟨j,hj⟩:=List.getElem?_of_mem hq;have:=(P3 FR).2 i j r q b hi hj hb BC;subst this;rw [hi]at hj;cases hj;exact Kk rfl
      ·rw [BN]at BC;simp [GI.own]at BC
     ·rw [hg]at hb;simp [GI.own]at hb
    ·rcases hG t with⟨r,hr,rfl,hg⟩|hg
     ·rw [hg]at hb;simp only [GI.own,List.append_nil]at hb;exact .inr (FQ r hr b hb)
     ·rw [hg]at hb;simp [GI.own]at hb
    ·rcases hG t with⟨r,hr,rfl,hg⟩|hg
     ·rw [hg]at hb;simp only [GI.own,List.append_nil]at hb;exact DI b (FQ r hr b hb)
     ·rw [hg]at hb;simp [GI.own]at hb
    ·rcases hk with hk|⟨r,hr,rfl,_⟩
     ·exact hk.elim
     ·exact Zf r hr
    ·obtain⟨r,hr,rfl,_⟩:=A0 t e he;exact Zf r hr
   have Ox:FD F xs {sl:=ss++(List.range (fn.nfree-s.ft.length)).map (fun j=>SV.e (.var (fn.params.size+s.ft.length+j)))++List.replicate (fn.ntmps-(fn.params.size+fn.nfree)) .undef,hp:=l,nx:=100000,nv:=fn.params.size+fn.nfree} {tmps:=vs.toArray++Array.replicate (fn.ntmps-vs.toArray.size) undef,defers:= []} w:=by
    refine⟨c,rfl,rfl,rfl,rfl,rfl,hlen,fun t ht=>ht, ?_⟩;have hl:(ss++(List.range (fn.nfree-s.ft.length)).map (fun j=>SV.e (.var (fn.params.size+s.ft.length+j)))++List.replicate (fn.ntmps-(fn.params.size+fn.nfree)) SV.undef).length=fn.ntmps:=by rw [AB,Fg,List.length_replicate];omega
    show Rel c (ss++(List.range (fn.nfree-s.ft.length)).map (fun j=>SV.e (.var (fn.params.size+s.ft.length+j)))++List.replicate (fn.ntmps-(fn.params.size+fn.nfree)) SV.undef).length _ _ _;rw [hl];exact Ak
   refine calls_of_wp FM C5 ?_;have Zc:Ig (fun _ _ _ _=>False):=fun _ _ _ _ _ _ h=>h;have UQ:=Tr.dv _ Zc t0 DE hd;refine uP (xM Vr (zxQ (sg:={sg with dp:=s.dp,wn:=s.wn,fz:=s.fz}) HR) zwX) yT code [] _ _ t0 hex F (fun r'=>r'=r) _ [] xs _ w (Qe Zc _ _) UQ Ox _ fun i x τ ρ' a' w' hp hl Cl=> ?_;obtain⟨tr,d',q1,q2,q3⟩:=hl;have main:T6 P fn s τ=some tr→a'.defers= []∧ ∃v,(results fn a'.tmps).run P w'= .ok v w'∧ ∃v',Ending.returned v= .returned v'∧Y4 P fn s w vs rf AX r v' w':=by
    intro Df;obtain⟨c2,rfl,rfl,k1,k2,k3,k4,k5,k6⟩:=Cl;unfold T6 at Df;split at Df
    ·rename_i rs bx us Ep Zj;split at Df
     ·rename_i es vs' GH Vz;split at Df
      ·cases Df
      rename_i OE;simp only [Bool.or_eq_true,Bool.not_eq_true',not_or,Bool.not_eq_false,Bool.not_eq_true]at OE;obtain⟨By,Rf⟩:=OE;have By:=Nt By;simp only [Ad]at Df;subst Df;have hr:_=r:=q3;obtain⟨rvs,z1,z2,z3⟩:=s5 k6 fn Ep;obtain⟨f1,y1,y2⟩:=bJ (P:=P) k6 fn.resultTypes.toList Vz z1 GH (Nat.le_refl _);obtain⟨f2,o2,x1,x2,x3⟩:=bQ (P:=P) k6 (w0:=w) (ms0:=s.bg) (vs0:=vs) (fun t=>by rw [k2]) (fn.params.toList++s.ft) 0 Zj Ao (fun k=>by simp) (fun k=>by simp);refine⟨k6.defers,_,z3,_,rfl,⟨?_, ?_⟩⟩
      ·
       have hR: ∃R,R=(match es with| .cons x .nil=>x|es=>E.tup es).den c2.ρ∧IL P c2.w fn.resultTypes.toList s.res (match rvs with| [u]=>u|us=> .tuple us.toArray) R f1 (vs'.flatMap fun t=>(c2.G t).top):=by
        refine⟨_,rfl, ?_⟩;have yl:es.den c2.ρ=es.den c2.ρ:=rfl;generalize Pu:fn.resultTypes.toList=ts at y1 ⊢;generalize B1:es.den c2.ρ=ys at y1;generalize (vs'.flatMap fun t=>(c2.G t).top)=o1 at y1 ⊢;cases y1 with
        |nil=>
         cases es with
         |nil=>exact⟨[], [],rfl,by simp [E.den,EL.den], .nil⟩
         |cons e es=>simp [EL.den]at B1
        | @cons t ts fl v vs2 x xs2 f h rf2 AQ w1 w2=>
         cases w2 with
         |nil=>
          cases es with
          |nil=>simp [EL.den]at B1
          |cons e es=>
           cases es with
           |nil=>simp only [EL.den,List.cons.injEq,and_true]at B1;subst B1;simpa [IL]using w1
           |cons e2 es=>simp [EL.den]at B1
         | @cons t2 ts2 fl2 v2 vs3 x2 xs3 f2' h2 rf3 Ff w3 w4=>
          cases es with
          |nil=>simp [EL.den]at B1
          |cons e es=>
           cases es with
           |nil=>simp [EL.den]at B1
           |cons e2 es=>refine⟨v::v2::vs3,x::x2::xs3,rfl, ?_, .cons w1 (.cons w3 w4)⟩;simp only [E.den,B1]
       obtain⟨R,lJ,MD⟩:=hR;have A6: ∀b∈(vs'.flatMap fun t=>(c2.G t).top)++o2,∃t∈vs'++us,b∈(c2.G t).top:=fun b hb=>by
        rcases Af.1 hb with hb|hb
        ·obtain⟨t,ht,B2⟩:=List.mem_flatMap.1 hb;exact⟨t,by simp [ht],B2⟩
        ·rw [x2]at hb;obtain⟨t,ht,B2⟩:=List.mem_flatMap.1 hb;exact⟨t,by simp [ht],B2⟩
       have Hx: ∀b t,b∈(c2.G t).top→b∈AX∨w.heap.size≤b:=fun b t hb=>by
        rcases k6.gw.allow t b (by simp [GI.own,hb])with h|h
        ·simp only [Cx.B,k1]at h;exact .inr h
        ·rw [k3]at h;exact .inl h
       refine⟨R,bx.map (E.den c2.ρ),f1,_,f2,o2, ?_,MD,x1, ?_,fun b hb=> ?_,fun b hb=> ?_⟩
       ·rw [←hr,lJ];cases bx with
        |nil=>rfl
        |cons b bx=>simp only [List.isEmpty_cons,A9,if_false,E.den,EL.cq,List.map_cons];rfl
       ·rw [x2,←List.flatMap_append];have: ∀l:List Nat,l.Nodup→(l.flatMap fun t=>(c2.G t).top).Nodup:=by
         intro l
         induction l with
         |nil=>intro _;simp
         |cons t l ih=>intro hl;rw [List.nodup_cons]at hl;rw [List.flatMap_cons,List.nodup_append];refine⟨(List.nodup_append.1 (k6.gw.nodup t)).1,ih hl.2,fun x hx y hy FW=> ?_⟩;subst FW;obtain⟨u,hu,V3⟩:=List.mem_flatMap.1 hy;exact k6.gw.bp t u (fun hh=>hl.1 (hh▸hu)) x (by simp [GI.own,hx]) (by simp [GI.own,V3])
        exact this _ By
       ·obtain⟨t,ht,B2⟩:=A6 b hb;exact⟨Hx b t B2,k6.gw.inb t b (by simp [GI.own,B2])⟩
       ·have GM:c2.dr (QC P τ fn.resultTypes.toList s.res rs++Mp P τ 0 (fn.params.toList++s.ft) s.bg) b:=by
         rcases Af.1 hb with hb|hb
         ·exact(y2 b hb).mono fun t ht=>by simp [ht]
         ·exact(x3 b hb).mono fun t ht=>by simp [ht]
        rcases GM with Aw|⟨t,ht,B2⟩
        ·refine⟨fun ho=> ?_, ?_⟩
         ·obtain⟨u,_,GG⟩:=A6 b ho;exact Aw.1 ⟨u,GG⟩
         ·rcases Aw.2 with h|h|h
          ·rw [k2]at h;exact .inl h
          ·simp only [Cx.B,k1]at h;exact .inr (.inr h)
          ·rw [k3]at h;exact .inr (.inl h)
        ·refine⟨fun ho=> ?_, .inr (Hx b t B2)⟩;obtain⟨u,hu,GG⟩:=A6 b ho;have Kk:t≠u:=by
          rintro rfl;rw [List.any_eq_false]at Rf;have:=Rf t ht;simp only [List.contains_eq_mem,decide_eq_true_eq]at this;exact this hu
         exact k6.gw.bp t u Kk b (by simp [GI.own,B2]) (by simp [GI.own,GG])
      ·have hb:=k6.base;refine⟨?_, ?_, ?_, ?_,fun k hk hn=> ?_⟩
       ·rw [hb.os,k1]
       ·rw [hb.tape,k1]
       ·rw [hb.output,k1]
       ·have:=hb.size;rw [k1]at this;exact this
       ·have:=hb.block k (by rw [k1];exact hk) (by rw [k3];exact hn);rw [k1]at this;exact this
     ·cases Df
    ·cases Df
   cases x with
   |normal=>exact main q1
   |ret=>exact main q1
   |exit id=>cases q1
  ·cases DE
 ·cases DE
end Go.Proofs.YtollgpkegmbpmaaGreatDoor
end

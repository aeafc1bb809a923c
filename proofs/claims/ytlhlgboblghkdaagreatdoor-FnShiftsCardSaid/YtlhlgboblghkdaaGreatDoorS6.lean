/- Parts of a proof, joined: WT, WU, WV, WW. -/
import Derived.Test.YtlhlgboblghkdaaGreatDoorS5
set_option linter.unusedVariables false
set_option linter.unusedSimpArgs false
section
namespace Go.Proofs.YtlhlgboblghkdaaGreatDoor
open Go.RowKit
def Hf (ms:List PM) (vs:List Value) (t:Nat):Option Value:=
 if MX t then(match vs[t/1000]?,(ms[t/1000]?).getD .ro with
  |some v, .bx .. =>if t % 1000=0 then some v else none
  |some v, .mu _=>if 500≤t % 1000 then v.cells[t % 1000-500]? else none
  |_,_=>none)
 else none
section
variable {P:Program} {c:Cx} {w:World}
theorem Ca.je {ts:List TypeId} {fl:List Bool} {us:List Value} {ys:List AV} {rf hs:List Nat} (h:Ca P w ts fl us ys rf hs) {nx:Nat} {mk:Nat→E} {j:Nat}: ∀(k:Nat) (u:Value),us[k]?=some u→(∃e,(nx+j+k,e)∈(CB P nx mk j ts fl).2)→u.cells= #[u]:=by
 induction h generalizing j with
 |nil=>intro k u hu _;simp at hu
 | @deep t ts fl el e9 z9 l9 u us y ys top rf hs h1 h2 RH O4 h3 _ ih=>
  intro k u' hu he;cases k with
  |zero=>simp at hu;subst hu;obtain⟨p,q,r,rfl⟩:=h3.head;rfl
  |succ k=>
   refine ih (j:=j+1) k u' (by simpa using hu) ?_;obtain⟨e,he⟩:=he;simp only [CB,h1,h2,Af,Prod.mk.injEq]at he;rcases he with⟨he,_⟩|he
   ·omega
   ·exact⟨e,by rw [show nx+(j+1)+k=nx+j+(k+1)from by omega];exact he⟩
 | @own t ts fl el u us y ys top N rf hs h1 h2 RJ h3 _ ih=>
  intro k u' hu he;cases k with
  |zero=>simp at hu;subst hu;obtain⟨xs,_,_,_,⟨_,⟨a,rfl⟩,_⟩|⟨g,cap,C,rfl,_⟩⟩:=h3<;>rfl
  |succ k=>
   refine ih (j:=j+1) k u' (by simpa using hu) ?_;obtain⟨e,he⟩:=he;simp only [CB,h1,h2,Af,Prod.mk.injEq]at he;rcases he with⟨he,_⟩|he
   ·omega
   ·exact⟨e,by rw [show nx+(j+1)+k=nx+j+(k+1)from by omega];exact he⟩
 | @rd t ts fl u us y ys f rf hs h1 h3 _ ih=>
  intro k u' hu he;obtain⟨e,he⟩:=he;have ZV:(CB P nx mk j (t::ts) fl).2=(CB P nx mk (j+1) ts fl.tail).2:=by
   simp only [CB];split
   ·rename_i h8 h9;rw [h1 h8]at h9;cases h9
   ·rfl
  rw [ZV]at he;cases k with
  |zero=>
   exfalso;have key: ∀(ts:List TypeId) (fl:List Bool) (j' t':Nat) (e':Aj),(t',e')∈(CB P nx mk j' ts fl).2→nx+j'≤t':=by
    intro ts
    induction ts with
    |nil=>intro fl j' t' e' h;simp [CB]at h
    |cons a ts ih2=>
     intro fl j' t' e' h;simp only [CB]at h;split at h
     ·simp only [Af,Prod.mk.injEq]at h;rcases h with⟨h,_⟩|h
      ·omega
      ·have:=ih2 _ _ _ _ h;omega
     ·have:=ih2 _ _ _ _ h;omega
   have:=key _ _ _ _ _ he;omega
  |succ k=>exact ih (j:=j+1) k u' (by simpa using hu) ⟨e,by rw [show nx+(j+1)+k=nx+j+(k+1)from by omega];exact he⟩
theorem uV {i b:Nat} (hb:b+400≤1000) {t:TypeId} {own:List Bool} {s:SV} {l:List (Nat × Aj)} {v:Value} {x:AV} {rf hs:List Nat} (h:Ri P i b t own=some (s,l)) (hv:OY P w t own v x rf hs) (hx:(E.var i).den c.ρ=x):
  ∃recs:List AN,l=recs.map AN.pair∧recs.flatMap AN.top=hs∧(∀r∈recs,1000*i+b≤r.tag∧r.tag<1000*i+1000∧r.new.isSome)∧(recs.map AN.tag).Nodup∧(∀r∈recs,r.new=v.cells[r.tag-(1000*i+b)]?)∧
   ∀c',EN c c' w recs→(∀b∈rf,c'.ok b)→SR c' [s] [v]∧ ∀r∈recs,CX c' r.tag r.bm:=by
 obtain⟨us,ys,hg,hc⟩:=hv;unfold Ri at h;simp only at h;split at h
 ·cases h
 rename_i hle;split at hg
 ·rename_i AB;obtain⟨rfl,rfl,CF⟩:=hg;obtain⟨recs,e1,e2,e3,e4,e4',e5⟩:=P4 (c:=c) (nx:=1000*i+b) (mk:=Ds (.var i) (Ap P t)) hc 0 (by rw [AB];exact Uw hx);rw [if_pos AB]at h;simp only [Ag,Prod.mk.injEq]at h;obtain⟨rfl,rfl⟩:=h;refine⟨recs,e1,e2,fun r hr=>by have:=e3 r hr;exact⟨by omega,by omega,this.2.2⟩,e4,fun r hr=>by rw [e4' r hr];simp [Value.cells],fun c' ha Ax=> ?_⟩;obtain⟨q1,q2⟩:=e5 c' ha Ax;exact⟨.agg CF (by rw [Bn.az];exact q1) .nil,q2⟩
 ·rename_i AB;obtain⟨rfl,rfl⟩:=hg;have GJ:Ap P t=false:=by simpa using AB
  obtain⟨recs,e1,e2,e3,e4,e4',e5⟩:=P4 (c:=c) (nx:=1000*i+b) (mk:=Ds (.var i) (Ap P t)) hc 0 (by
   intro k z hz;cases k with
   |zero=>simp at hz;subst hz;rw [GJ];simpa [Ds]using hx
   |succ k=>simp at hz)
  rw [if_neg AB]at h;split at h
  ·rename_i s' Ba;simp only [Ag,Prod.mk.injEq]at h;obtain⟨rfl,rfl⟩:=h;refine⟨recs,e1,e2,fun r hr=>by have:=e3 r hr;exact⟨by omega,by omega,this.2.2⟩,e4,fun r hr=> ?_,fun c' ha Ax=> ?_⟩
   ·have Da:=e4' r hr;have h3:=e3 r hr;rw [Da,Nat.add_zero];have hlen:=hc.len;have Pf:r.tag-(1000*i+b)=0:=by
     have:=hlen.1;simp at this;omega
    rw [Pf];have:=hc.je (nx:=1000*i+b) (mk:=Ds (.var i) (Ap P t)) (j:=0) 0 v rfl ⟨r.bm,by rw [e1];exact List.mem_map.2 ⟨r,hr,by simp [AN.pair];omega⟩⟩;rw [this];rfl
   ·obtain⟨q1,q2⟩:=e5 c' ha Ax;rw [Ba]at q1;exact⟨q1,q2⟩
  ·cases h
theorem vJ {ms0:List PM} {vs0:List Value}: ∀(ts:List TypeId) (i:Nat) {ms:List PM} {lo:List Bool} {ss:List SV} {l:List (Nat × Aj)} {vs:List Value} {xs:List AV} {rf lf hs:List Nat},MC P i ts ms lo=some (ss,l)→Dr P w ts ms lo vs xs rf lf hs→(∀k x,xs[k]?=some x→(E.var (i+k)).den c.ρ=x)→(∀k,ms[k]?=ms0[i+k]?)→(∀k,vs[k]?=vs0[i+k]?)→
  ∃recs:List AN,l=recs.map AN.pair∧recs.flatMap AN.top=hs∧(∀r∈recs,1000*i≤r.tag∧r.tag<1000*(i+ts.length)∧r.new.isSome)∧(recs.map AN.tag).Nodup∧(∀r∈recs,∀v,Hf ms0 vs0 r.tag=some v→r.new=some v)∧ss.length=ts.length∧ts.length≤vs.length∧
   ∀c',EN c c' w recs→(∀b∈rf,c'.ok b)→(∀(k:Nat) (v:Value) (x:AV),(ms[k]?).getD .ro= .ro→vs[k]?=some v→xs[k]?=some x→c'.A.lo v x)→SR c' (ss++(List.range (vs.length-ts.length)).map fun j=>SV.e (.var (i+ts.length+j))) vs∧ ∀r∈recs,CX c' r.tag r.bm
 | [],i,ms,lo,ss,l,vs,xs,rf,lf,hs,h,ha,hx,_,_=>by
  simp [MC]at h;obtain⟨rfl,rfl⟩:=h;have key: ∀{ms:List PM} {lo:List Bool} {vs:List Value} {xs:List AV} {rf lf hs:List Nat},Dr P w [] ms lo vs xs rf lf hs→hs= []∧Rd w vs xs rf:=by
   intro ms lo vs
   induction vs generalizing ms lo with
   |nil=>intro xs rf lf hs h;cases h;exact⟨rfl, .nil⟩
   |cons v vs ih=>
    intro xs rf lf hs h;cases h with
    |free h1 h2=>obtain⟨rfl,h3⟩:=ih h2;exact⟨rfl,h1.app h3⟩
  obtain⟨rfl,Dl⟩:=key ha;refine⟨[],rfl,rfl,by simp,by simp,by simp,rfl,by simp,fun c' Fh Ax _=>⟨?_,by simp⟩⟩;have frees: ∀(vs:List Value) {xs:List AV} {rf:List Nat} (j:Nat),Rd w vs xs rf→(∀k x,xs[k]?=some x→(E.var (i+j+k)).den c.ρ=x)→(∀b∈rf,c'.ok b)→SR c' ((List.range vs.length).map fun q=>SV.e (.var (i+j+q))) vs:=by
   intro vs
   induction vs with
   |nil=>intro xs rf j h _ _;simpa using SR.nil
   |cons v vs ih=>
    intro xs rf j h hx Ax;cases xs with
    |nil=>have:=h.len;simp at this
    |cons x xs=>
     obtain⟨f1,f2,rfl,h1,h2⟩:=h.cd;have h3:=ih (j+1) h2 (fun k y hy=>by rw [show i+(j+1)+k=i+j+(k+1)from by omega];exact hx (k+1) y (by simpa using hy)) fun b hb=>Ax b (by simp [hb]);rw [Ar,List.range_succ_eq_map,List.map_cons,List.map_map];refine SR.cons (.e (f:=f1) (by rw [Fh.w,Fh.ρ];have:=hx 0 x rfl;simp only [Nat.add_zero]at this ⊢;rw [this];exact h1) (fun b hb=>Ax b (by simp [hb])) .nil) ?_;have e:((fun q=>SV.e (.var (i+j+q)))∘Nat.succ)=fun q=>SV.e (.var (i+(j+1)+q)):=by funext q;simp only [Function.comp_apply];rw [show i+j+q.succ=i+(j+1)+q from by omega]
     rw [e];exact h3
  simpa using frees vs 0 Dl (by simpa using hx) Ax
 |t::ts,i,ms,lo,ss,l,vs,xs,rf,lf,hs,h,ha,hx,Ep,JX=>by
  unfold MC at h;split at h
  ·rename_i s l1 ss' l2 h1 h2;simp only [Ag,Prod.mk.injEq]at h;obtain⟨rfl,rfl⟩:=h;obtain⟨v,vs,x,xs,f,hh,rf,lf,hs,rfl,rfl,rfl,rfl,C3,A1⟩: ∃v vs' x xs' f hh rf' lf' Ba,vs=v::vs'∧xs=x::xs'∧rf=f++rf'∧hs=hh++Ba∧Dr P w ts ms.tail lo.tail vs' xs' rf' lf' Ba∧(dJ P w t (ms.headD .ro) v x f hh∨(lo.headD false=true∧ms.headD .ro= .ro∧f= []∧hh= [])):=by
    cases ha with
    |cons h1 h2=>exact⟨_,_,_,_,_,_,_,_,_,rfl,rfl,rfl,rfl,h2, .inl h1⟩
    |lent h1 h2 h3 h4=>exact⟨_,_,_,_, [], [],_,_,_,rfl,rfl,by simp,by simp,h4, .inr ⟨h1,h2,rfl,rfl⟩⟩
   have DV:ms.headD .ro=(ms0[i]?).getD .ro:=by have:=Ep 0;rw [Nat.add_zero]at this;rw [←this];cases ms<;>rfl
   have KU:vs0[i]?=some v:=by have:=JX 0;simpa using this.symm
   have JY:(E.var i).den c.ρ=x:=by simpa using hx 0 x rfl
   obtain⟨r2,b1,b2,b3,b4,b4',b6,b7,b5⟩:=vJ ts (i+1) h2 C3 (fun k y hy=>by rw [show i+1+k=i+(k+1)from by omega];exact hx (k+1) y (by simpa using hy)) (fun k=>by rw [show i+1+k=i+(k+1)from by omega,←Ep (k+1)];cases ms<;>simp) (fun k=>by rw [show i+1+k=i+(k+1)from by omega,←JX (k+1)];simp);have fin: ∀(r1:List AN),l1=r1.map AN.pair→r1.flatMap AN.top=hh→(∀r∈r1,1000*i≤r.tag∧r.tag<1000*i+1000∧r.new.isSome)→(r1.map AN.tag).Nodup→(∀r∈r1,∀v,Hf ms0 vs0 r.tag=some v→r.new=some v)→
     (∀c',EN c c' w r1→(∀b∈f,c'.ok b)→(ms.headD .ro= .ro→c'.A.lo v x)→SR c' [s] [v]∧ ∀r∈r1,CX c' r.tag r.bm)→
     ∃recs:List AN,l1++l2=recs.map AN.pair∧recs.flatMap AN.top=hh++hs∧(∀r∈recs,1000*i≤r.tag∧r.tag<1000*(i+(t::ts).length)∧r.new.isSome)∧(recs.map AN.tag).Nodup∧(∀r∈recs,∀v,Hf ms0 vs0 r.tag=some v→r.new=some v)∧(s::ss').length=(t::ts).length∧(t::ts).length≤(v::vs).length∧
      ∀c',EN c c' w recs→(∀b∈f++rf,c'.ok b)→(∀(k:Nat) (v':Value) (x':AV),(ms[k]?).getD .ro= .ro→(v::vs)[k]?=some v'→(x::xs)[k]?=some x'→c'.A.lo v' x')→SR c' ((s::ss')++(List.range ((v::vs).length-(t::ts).length)).map fun j=>SV.e (.var (i+(t::ts).length+j))) (v::vs)∧ ∀r∈recs,CX c' r.tag r.bm:=by
    intro r1 a1 a2 a3 a4 a4' a5;refine⟨r1++r2,by simp [a1,b1],by simp [a2,b2],fun r hr=> ?_, ?_,fun r hr=> ?_,by simp [b6],by simp [b7],fun c' Fh Ax B0=> ?_⟩
    ·simp only [Ar];rcases Ah.1 hr with hr|hr
     ·have:=a3 r hr;exact⟨this.1,by omega,this.2.2⟩
     ·have:=b3 r hr;exact⟨by omega,by omega,this.2.2⟩
    ·rw [List.map_append,List.nodup_append];refine⟨a4,b4,fun t1 SL t2 KP he=> ?_⟩;obtain⟨q1,Fy,rfl⟩:=List.mem_map.1 SL;obtain⟨q2,Ed,rfl⟩:=List.mem_map.1 KP;have:=a3 q1 Fy;have:=b3 q2 Ed;omega
    ·rcases Ah.1 hr with hr|hr
     ·exact a4' r hr
     ·exact b4' r hr
    ·obtain⟨p1,p2⟩:=a5 c' (Fh.mono fun r hr=>by simp [hr]) (fun b hb=>Ax b (by simp [hb])) fun hl=>B0 0 v x (by cases ms<;>exact hl) rfl rfl;obtain⟨q1,q2⟩:=b5 c' (Fh.mono fun r hr=>by simp [hr]) (fun b hb=>Ax b (by simp [hb])) fun k v' x' k1 k2 k3=>B0 (k+1) v' x' (by cases ms with|nil=>rfl|cons b l=>simpa using k1) (by simpa using k2) (by simpa using k3);refine⟨?_,fun r hr=> ?_⟩
     ·have:=p1.cons q1;have e:(fun j=>SV.e (.var (i+1+ts.length+j)))=fun j=>SV.e (.var (i+(t::ts).length+j)):=by
       funext j;simp only [Ar];rw [show i+1+ts.length+j=i+(ts.length+1)+j from by omega]
      rw [e]at this;simpa using this
     ·rcases Ah.1 hr with hr|hr
      ·exact p2 r hr
      ·exact q2 r hr
   have pinMu: ∀{own:List Bool} {r:AN},ms.headD .ro= .mu own→1000*i+500≤r.tag→r.tag<1000*i+1000→r.new=v.cells[r.tag-(1000*i+500)]?→ ∀v',Hf ms0 vs0 r.tag=some v'→r.new=some v':=by
    intro own r hm t1 t2 hn v' hp;unfold Hf at hp;split at hp
    ·rw [show r.tag/1000=i from by omega,KU,←DV,hm]at hp;simp only at hp;split at hp
     ·rw [hn,show r.tag-(1000*i+500)=r.tag % 1000-500 from by omega];exact hp
     ·cases hp
    ·cases hp
   have pinVa: ∀{own:List Bool} {r:AN},ms.headD .ro= .va own→1000*i≤r.tag→r.tag<1000*i+1000→ ∀v',Hf ms0 vs0 r.tag=some v'→r.new=some v':=by
    intro own r hm t1 t2 v' hp;unfold Hf at hp;split at hp
    ·rw [show r.tag/1000=i from by omega,KU,←DV,hm]at hp;simp at hp
    ·cases hp
   cases hm:ms.headD .ro with
   |ro=>
    rw [hm]at h1 A1;simp only [Zh,Ag,Prod.mk.injEq]at h1;obtain⟨rfl,rfl⟩:=h1;have hhh:hh= []:=by rcases A1 with⟨_,h⟩|⟨_,_,_,h⟩<;>exact h
    subst hhh;by_cases B0:lo.headD false=true
    ·exact fin [] rfl rfl (by simp) (by simp) (by simp) fun c' Fh Ax hl=>⟨by rw [if_pos B0];exact .lent (by rw [Fh.ρ,JY];exact hl hm) .nil,by simp⟩
    ·rcases A1 with⟨g1,_⟩|⟨h,_⟩
     ·exact fin [] rfl rfl (by simp) (by simp) (by simp) fun c' Fh Ax _=>⟨by rw [if_neg B0];exact .e (f:=f) (by rw [Fh.w,Fh.ρ,JY];exact g1) Ax .nil,by simp⟩
     ·exact absurd h B0
   |va own=>
    rw [hm]at h1 A1
    replace A1:=A1.resolve_right fun h=>by cases h.2.1
    obtain⟨r1,a1,a2,a3,a4,a4',a5⟩:=uV (c:=c) (by omega) h1 A1 JY;exact fin r1 a1 a2 (fun r hr=>by have:=a3 r hr;exact⟨by omega,this.2⟩) a4 (fun r hr=>by have:=a3 r hr;exact pinVa hm (by omega) this.2.1) fun c' Fh Ax _=>a5 c' Fh Ax
   |mu own=>
    rw [hm]at h1 A1
    replace A1:=A1.resolve_right fun h=>by cases h.2.1
    obtain⟨r1,a1,a2,a3,a4,a4',a5⟩:=uV (c:=c) (by omega) h1 A1 JY;exact fin r1 a1 a2 (fun r hr=>by have:=a3 r hr;exact⟨by omega,this.2⟩) a4 (fun r hr=>by have:=a3 r hr;exact pinMu hm this.1 this.2.1 (a4' r hr)) fun c' Fh Ax _=>a5 c' Fh Ax
   |bx own own'=>
    rw [hm]at h1 A1
    replace A1:=A1.resolve_right fun h=>by cases h.2.1
    obtain⟨ty,b,C,ys,h9,g1,rfl,g3,g4,rfl,g6,rfl⟩:=A1;simp only [Zh,g1]at h1;split at h1
    ·cases h1
    rename_i hle;simp only [Ag,Prod.mk.injEq]at h1;obtain⟨rfl,rfl⟩:=h1;obtain⟨recs,e1,e2,e3,e4,e4',e5⟩:=P4 (c:=c) (nx:=1000*i+1) (mk:=Ds (.deref (.var i)) true) g6 0 (Uw (by simp only [E.den]at JY ⊢;rw [JY];rfl));refine fin (⟨1000*i,some (.pointer (some ⟨b,0,none⟩)), [b], .box ty (Ap P ty) (CB P (1000*i+1) (Ds (.deref (.var i)) true) 0 (A0 P ty) own).1⟩::recs) (by simp [e1,AN.pair]) (by simp [e2]) (fun r hr=> ?_) ?_ (fun r hr v' hp=> ?_) fun c' Fh Ax _=> ?_
    ·rcases Af.1 hr with rfl|hr
     ·simp
     ·have:=e3 r hr;exact⟨by omega,by omega,this.2.2⟩
    ·simp only [List.map_cons,List.nodup_cons];refine⟨fun hm=> ?_,e4⟩;obtain⟨r,hr,Ji⟩:=List.mem_map.1 hm;have:=e3 r hr;omega
    ·rcases Af.1 hr with rfl|hr
     ·unfold Hf at hp;simp only at hp;split at hp
      ·rw [show 1000*i/1000=i from by omega,KU,←DV,hm]at hp;simp at hp;simpa using hp
      ·cases hp
     ·have h3:=e3 r hr;unfold Hf at hp;split at hp
      ·rw [show r.tag/1000=i from by omega,KU,←DV,hm]at hp;simp only at hp;split at hp
       ·omega
       ·cases hp
      ·cases hp
    ·obtain⟨q1,q2⟩:=e5 c' (Fh.mono fun r hr=>by simp [hr]) Ax;obtain⟨k1,k2,k3⟩:=Fh.new _ (List.mem_cons_self ..) _ rfl;have kg:=Fh.G _ (List.mem_cons_self ..);simp only at k1 k3 kg;refine⟨.cg k1 k3 .nil,fun r hr=> ?_⟩;rcases Af.1 hr with rfl|hr
     ·exact⟨b,C,k1,k3,by rw [kg],by rw [kg],by rw [Fh.w];exact g3,g4,q1⟩
     ·exact q2 r hr
  ·cases h
end
section
variable {P:Program} {c:Cx} {n:Nat} {a:Act} {τ:St}
theorem rI (h:Rel c n (Bt τ) (AF τ.hp) a):EH c (AF τ.hp):=fun t e hr=>h.ents t e hr
theorem xV {hp:Nat→Option Aj} {t:Nat} {e:Aj} (h:hp t=some e) (hn: ∀hs f,e≠ .gd hs f):C6 hp [] t=some e:=by
 simp only [C6,h,Aa,Ly]
 all_goals (cases e<;>first|rfl|exact absurd rfl (hn _ _))
theorem uR (h:Rel c n (Bt τ) (AF τ.hp) a) {u g:Nat} {e z:Nat} {x:E} {d:Bool} (hu:AF τ.hp u=some (.row e z g x d)):c.K u g∧ ∃N,CK c.w e z (c.H u g) (x.den c.ρ) (c.G u).top N∧(∀b∈N,c.ok b)∧(d=true→N= []):=by obtain⟨p1,p2,N,p3,p4,p5,_⟩:=h.ents u _ (by rw [hu];rfl);exact⟨p1,N,p3,p4,fun hd=>(p5 hd).1⟩
theorem yN {t e:TypeId} {d:Bool} {N:List Nat} (hd:d=true→N= []) (h:BY P e=true∧d=true∨BY P e=false∧(DP P t).isNone=true):BY P e=true∧N= []∨BY P e=false∧DP P t=none:=by
 rcases h with⟨h1,h2⟩|⟨h1,h2⟩
 ·exact .inl ⟨h1,hd h2⟩
 ·exact .inr ⟨h1,by simpa using h2⟩
theorem Yf (h:Rel c n (Bt τ) (AF τ.hp) a): ∀(ts:List TypeId) {fl:List Bool} {cs:List SV} {l:List Nat} {us:List Value} {xs:EL} {m:Nat},Lq P τ ts fl cs=some l→SR c cs us→Cc (AF τ.hp) [] m cs=some xs→m≤AT→
  ∃f,Ca P c.w ts fl us (xs.den c.ρ) f (l.flatMap fun t=>(c.G t).top)∧ ∀b∈f,c.ed (JL P τ ts fl cs) b
 | [],fl, [],l,us,xs,m,ho,hs,hx,hm=>by
  simp [Lq]at ho;subst ho;cases hs;cases m with
  |zero=>simp [Cc]at hx
  |succ m=>simp [Cc]at hx;subst hx;exact⟨[], .nil,by simp⟩
 | [],fl,s::cs,l,us,xs,m,ho,hs,hx,hm=>by simp [Lq]at ho
 |t::ts,fl, [],l,us,xs,m,ho,hs,hx,hm=>by simp [Lq]at ho
 |t::ts,fl,s::cs,l, [],xs,m,ho,hs,hx,hm=>by have:=hs.len;simp at this
 |t::ts,fl,s::cs,l,v::us,xs,m,ho,hs,hx,hm=>by
  obtain⟨j,y,ys,rfl,hy,De,rfl⟩:=Ka hx;obtain⟨r1,r2⟩:=hs.cd;unfold Lq at ho;split at ho
  ·cases ho
  rename_i l' CR;obtain⟨f,q1,q2⟩:=Yf h ts CR r2 De (by omega);split at ho
  ·rename_i e hf Bo;have FM:JL P τ (t::ts) fl (s::cs)=JL P τ ts fl.tail cs:=by
    simp only [JL,hf,Bo,Option.isSome_some,Bool.and_self,if_true,List.nil_append]
   split at ho
   ·cases ho
   rename_i hz;split at ho
   ·simp only [Ag]at ho;subst ho;cases r1 with
    |b8 _=>refine⟨f, ?_,by rw [FM];exact q2⟩;rw [EL.den,K7 hy];exact Ca.void hf Bo (by omega) q1
   ·rename_i u g;split at ho
    ·rename_i e' z g' x d hu;split at ho
     ·rename_i hh;obtain⟨rfl,rfl,rfl,GN⟩:=hh;simp only [Ag]at ho;subst ho;obtain⟨p1,N,p2,p3,p4⟩:=uR h hu;have GN:=yN p4 GN;have hl:=xV hu (by simp);have G4:y=x:=by
       cases j with
       |zero=>simp [Bf]at hy
       |succ j=>simp [Bf,Ii,hl]at hy;exact hy.symm
      subst G4;have hv:c.H u g=v:=by
       cases r1 with
       |own _ k2 _=>exact k2
      rw [hv]at p2;refine⟨N++f,Ca.own hf Bo GN p2 q1,fun b hb=> ?_⟩;rw [FM];rcases Ah.1 hb with hb|hb
      ·exact .inl (p3 b hb)
      ·exact q2 b hb
     ·cases ho
    ·rename_i e' z dl g' ep x hu;split at ho
     ·rename_i hh;obtain⟨rfl,FT,Dy⟩:=hh;have Dy:=Yw Dy;simp only [Ag]at ho;subst ho;obtain⟨p1,_,_,p2,_⟩:=h.ents u _ (by rw [hu];rfl);have hl:=xV hu (by simp);have G4:y=x:=by
       cases j with
       |zero=>simp [Bf]at hy
       |succ j=>simp [Bf,Ii,hl]at hy;exact hy.symm
      subst G4;have hv:c.H u g=v:=by
       cases r1 with
       |own _ k2 _=>exact k2
      rw [hv]at p2;exact⟨f,Ca.deep hf Bo FT Dy p2 q1,by rw [FM];exact q2⟩
     ·cases ho
    ·cases ho
   ·cases ho
  ·rename_i DB;simp only [Ag]at ho;subst ho;have hn:fl.headD false=true→Cw P t=none:=fun hf=>by
    cases Bo:Cw P t with
    |none=>rfl
    |some e=>exact absurd Bo (DB e hf)
   obtain⟨f1,p1,p2⟩:=HM (rI h) (EE _) j hy r1 AT (by omega);refine⟨f1++f,Ca.rd hn p1 q1,fun b hb=> ?_⟩;have FM:JL P τ (t::ts) fl (s::cs)=BH (AF τ.hp) [] (AT+1) [s]++JL P τ ts fl.tail cs:=by
    have:(fl.headD false&&(Cw P t).isSome)=false:=by
     cases hf:fl.headD false with
     |false=>rfl
     |true=>rw [hn hf];rfl
    simp only [JL,this,AY,if_false]
   rw [FM];rcases Ah.1 hb with hb|hb
   ·exact(p2 b hb).mono fun t ht=>by simp [ht]
   ·exact(q2 b hb).mono fun t ht=>by simp [ht]
theorem zwp (h:Rel c n (Bt τ) (AF τ.hp) a) {t:TypeId} {fl:List Bool} {s:SV} {l:List Nat} {v:Value} {x:E} {m:Nat} (ho:mQ P τ t fl s=some l) (hs:SR c [s] [v]) (hx:Bf (AF τ.hp) [] m s=some x) (hm:m<AT):
  ∃f,Ex P c.w t fl v (x.den c.ρ) f (l.flatMap fun t=>(c.G t).top)∧ ∀b∈f,c.ed (cY P τ t fl s) b:=by
 unfold mQ at ho;unfold Ex cY;split at ho
 ·rename_i hf;simp only [hf,if_true];split at ho
  ·rename_i AB;split at ho
   ·rename_i cs;obtain⟨k,lx,rfl,hl,rfl⟩:=Uz hx;cases hs with
    |agg h9 h1 h8=>rename_i as_;obtain⟨f,q1,q2⟩:=Yf (P:=P) h (A0 P t) ho h1 hl (by omega);exact⟨f,⟨as_,lx.den c.ρ,by rw [if_pos AB];exact⟨rfl,rfl,h9⟩,q1⟩,by rw [if_pos AB];exact q2⟩
   ·cases ho
  ·rename_i AB;have JU:Cc (AF τ.hp) [] (m+1) [s]=some (.cons x .nil):=by
    cases m with
    |zero=>simp [Bf]at hx
    |succ m=>simp only [Cc,hx]
   obtain⟨f,q1,q2⟩:=Yf (P:=P) h (A0 P t) ho hs JU (by omega);exact⟨f,⟨[v], [x.den c.ρ],by rw [if_neg AB];exact⟨rfl,rfl⟩,q1⟩,by rw [if_neg AB];exact q2⟩
 ·rename_i hf;simp only [hf,if_false,AY];simp only [Ag]at ho;subst ho;obtain⟨f,p1,p2⟩:=HM (rI h) (EE _) m hx hs AT (by omega);exact⟨f,⟨p1,rfl⟩,p2⟩
theorem tQ (h:Rel c n (Bt τ) (AF τ.hp) a): ∀(ts:List TypeId) {fl:List Bool} {ss:List SV} {l:List Nat} {vs:List Value} {xs:EL} {m:Nat},ON P τ ts fl ss=some l→SR c ss vs→Cc (AF τ.hp) [] m ss=some xs→m≤AT→
  ∃f,IT P c.w ts fl vs (xs.den c.ρ) f (l.flatMap fun t=>(c.G t).top)∧ ∀b∈f,c.ed (UX P τ ts fl ss) b
 | [],fl, [],l,vs,xs,m,ho,hs,hx,hm=>by
  simp [ON]at ho;subst ho;cases hs;cases m with
  |zero=>simp [Cc]at hx
  |succ m=>simp [Cc]at hx;subst hx;exact⟨[], .nil,by simp⟩
 | [],fl,s::cs,l,us,xs,m,ho,hs,hx,hm=>by simp [ON]at ho
 |t::ts,fl, [],l,us,xs,m,ho,hs,hx,hm=>by simp [ON]at ho
 |t::ts,fl,s::cs,l, [],xs,m,ho,hs,hx,hm=>by have:=hs.len;simp at this
 |t::ts,fl,s::cs,l,v::us,xs,m,ho,hs,hx,hm=>by
  obtain⟨j,y,ys,rfl,hy,De,rfl⟩:=Ka hx;obtain⟨r1,r2⟩:=hs.cd;unfold ON at ho;split at ho
  ·rename_i a1 b1 h1 h2;simp only [Ag]at ho;subst ho;obtain⟨f1,p1,p2⟩:=zwp (P:=P) h h1 r1 hy (by omega);obtain⟨f2,q1,q2⟩:=tQ h ts h2 r2 De (by omega);refine⟨f1++f2,by rw [List.flatMap_append];exact .cons p1 q1,fun b hb=> ?_⟩;simp only [UX];rcases Ah.1 hb with hb|hb
   ·exact(p2 b hb).mono fun t ht=>by simp [ht]
   ·exact(q2 b hb).mono fun t ht=>by simp [ht]
  ·cases ho
end
section
variable {P:Program} {c:Cx} {n:Nat} {a:Act} {τ:St}
theorem zBJ (h:Rel c n (Bt τ) (AF τ.hp) a) {t:TypeId} {b o:Nat} {ty:TypeId} {g:Bool} {cs:List SV} {s:SV} {v:Value} (Be:Dd P t=true) (hl:AF τ.hp b=some (.box ty g cs)) (AW:O1 P t cs o=some s) (hr:SR c [.cg b o] [v]):
  ∃q u,v= .pointer (some ⟨q,o,none⟩)∧(loadVar t ⟨q,o,none⟩).run P c.w= .ok u c.w∧SR c [s] [u]:=by
 cases hr with
 |cg h1 h2 h8=>
  rename_i q;obtain⟨q',C,_,e2,e3,e4,e5,e5',e6⟩:=h.ents b _ (by rw [hl];rfl);rw [h2]at e2;cases e2;have key: ∀vs:List Value,(Ap P t=true→vs.length=P.cellsOf t)→(Ap P t=false→vs.length=1)→(∀j u,vs[j]?=some u→c.w.cell? ⟨q,o+j,none⟩=some u)→(loadVar t ⟨q,o,none⟩).run P c.w= .ok (if Ap P t then .agg vs.toArray else vs.headD undef) c.w:=fun vs k1 k2 k3=>by have:=QD (P:=P) (w:=c.w) (b:=q) (off:=o) Be vs k1 k2 k3;simpa [Instr.loadAt,Instr.sureAddr]using this
  unfold O1 at AW;have hlen:=e6.len;split at AW
  ·rename_i AB;split at AW
   ·rename_i hle;simp at AW;subst AW;obtain⟨r1,r2⟩:=e6.split o;obtain⟨r3,r4⟩:=r2.split (P.cellsOf t);have:=SR.agg (cs:=Bn.of ((cs.drop o).take (P.cellsOf t))) (fun u hu=>e5' u (List.mem_of_mem_drop (List.mem_of_mem_take hu))) (by rw [Bn.az];exact r3) .nil;refine⟨q, .agg ((C.toList.drop o).take (P.cellsOf t)).toArray,rfl, ?_,this⟩;rw [key ((C.toList.drop o).take (P.cellsOf t)) (fun _=>by simp at hlen ⊢;omega) (fun h=>by rw [AB]at h;cases h) (fun j u hu=>by
     rw [EC e5];rw [List.getElem?_take]at hu;split at hu
     ·simpa using hu
     ·cases hu)]
    simp [AB]
   ·cases AW
  ·rename_i AB;have AB:Ap P t=false:=by simpa using AB
   obtain⟨u,hu,r⟩:=e6.get AW;refine⟨q,u,rfl, ?_,r⟩;rw [key [u] (fun h=>by rw [AB]at h;cases h) (fun _=>rfl) (fun j z hz=>by
    cases j with
    |zero=>simp at hz;subst hz;rw [EC e5];simpa using hu
    |succ j=>simp at hz)]
   simp [AB]
theorem s4 {α:Type} {g:α→Sem Value} {w:World}: ∀(l:List α) (us:List Value),l.length=us.length→(∀(i:Nat) (x:α) (u:Value),l[i]?=some x→us[i]?=some u→(g x).run P w= .ok u w)→(l.mapM g).run P w= .ok us w
 | [], [],_,_=>by simp
 | [],_::_,h,_=>by simp at h
 |_::_, [],h,_=>by simp at h
 |x::l,u::us,h,hg=>by have h0:=hg 0 x u rfl rfl;have ih:=s4 l us (by simpa using h) fun i y z hy hz=>hg (i+1) y z (by simpa using hy) (by simpa using hz);simp [List.mapM_cons,h0,ih]
theorem zuP (h:Rel c n (Bt τ) (AF τ.hp) a) (fn:Func) {rs:List SV} (Dm:fn.results.toList.mapM (QZ P τ)=some rs):
  ∃us,SR c rs us∧rs.length=us.length∧(results fn a.tmps).run P c.w= .ok (match us with| [u]=>u|us=> .tuple us.toArray) c.w:=by
 have one: ∀(r:ResultVar) (s:SV),QZ P τ r=some s→ ∃u,SR c [s] [u]∧(match r with| .tmp t=>(pure (a.tmps.getD t undef):Sem Value)| .cell b t=>do loadVar t (←asAddr (a.tmps.getD b undef))).run P c.w= .ok u c.w:=by
  intro r s hr;cases r with
  |tmp t=>simp only [QZ,Ag]at hr;subst hr;exact⟨_,h.cx t,by simp⟩
  |cell b ty=>
   simp only [QZ]at hr;split at hr
   ·rename_i b' o CA;split at hr
    ·rename_i ty' g cs hl;split at hr
     ·rename_i Be;have hs:=h.cx b;rw [CA]at hs;obtain⟨q,u,hv,AR,KO⟩:=zBJ h Be hl hr hs;exact⟨u,KO,by simp only [hv];simp [asAddr,AR]⟩
     ·cases hr
    ·cases hr
   ·cases hr
 have list: ∀(l:List ResultVar) (rs:List SV),l.mapM (QZ P τ)=some rs→ ∃us,SR c rs us∧l.length=us.length∧ ∀(i:Nat) (x:ResultVar) (u:Value),l[i]?=some x→us[i]?=some u→(match x with| .tmp t=>(pure (a.tmps.getD t undef):Sem Value)| .cell b t=>do loadVar t (←asAddr (a.tmps.getD b undef))).run P c.w= .ok u c.w:=by
  intro l
  induction l with
  |nil=>intro rs Dm;simp at Dm;subst Dm;exact⟨[], .nil,rfl,by simp⟩
  |cons r l ih=>
   intro rs Dm;rw [List.mapM_cons]at Dm;simp only [Option.bind_eq_bind,Av,Option.pure_def,Ag]at Dm;obtain⟨s,hs,rs',bH,rfl⟩:=Dm;obtain⟨u,h1,h2⟩:=one r s hs;obtain⟨us,h3,h4,h5⟩:=ih rs' bH;refine⟨u::us,h1.cons h3,by simp [h4],fun i x v hx hv=> ?_⟩;cases i with
   |zero=>simp at hx hv;subst hx;subst hv;exact h2
   |succ i=>exact h5 i x v (by simpa using hx) (by simpa using hv)
 obtain⟨us,h1,h2,h3⟩:=list _ _ Dm;refine⟨us,h1,h1.len, ?_⟩;have hm:=s4 (P:=P) (w:=c.w) fn.results.toList us h2 h3;simp only [results,Array.mapM_eq_mapM_toList,map_eq_pure_bind,Sem.run_bind]
 erw [hm]
 simp only [Result.andThen_ok,Sem.run_pure]
 match us with
 | []=>simp
 | [u]=>simp
 |u::v::us=>simp
theorem jG (h:Rel c n (Bt τ) (AF τ.hp) a) {w0:World} {v:Value} {ms:List PM} {vs:List Value} (Er: ∀t,c.A.pin t=Hf ms vs t) {i:Nat} (hi:i≤99) {own0:List Bool} (hv:vs[i]?=some v) (hm:(ms[i]?).getD .ro= .mu own0) {mk:Nat→E}: ∀(ts:List TypeId) (j:Nat) {fl:List Bool} {us:List Value} {ys:List AV} {rf hs:List Nat} {es:List E} {l:List Nat},
  Ca P w0 ts fl us ys rf hs→j+ts.length≤400→(∀k u,us[k]?=some u→(∃e,(0+j+k,e)∈(CB P 0 (Ds (.var 0) true) j ts fl).2)→v.cells[j+k]?=some u)→Vi P τ i mk j ts fl=some (es,l)→ ∃f o,Gb P c.w ts fl us (es.map (E.den c.ρ)) f o∧(o=l.flatMap fun t=>(c.G t).top)∧ ∀b∈f,c.ok b
 | [],j,fl,us,ys,rf,hs,es,l,hc,hle,Ce,he=>by simp [Vi]at he;obtain⟨rfl,rfl⟩:=he;cases hc;exact⟨[], [], .nil,rfl,by simp⟩
 |t::ts,j,fl,us,ys,rf,hs,es,l,hc,hle,Ce,he=>by
  unfold Vi at he;split at he
  ·cases he
  rename_i xs us' CR;simp only [Ar]at hle;have sub: ∀{u:Value} {us1:List Value},us=u::us1→ ∀k z,us1[k]?=some z→(∃e,(0+(j+1)+k,e)∈(CB P 0 (Ds (.var 0) true) (j+1) ts fl.tail).2)→v.cells[j+1+k]?=some z:=by
   rintro u us1 rfl k z hz ⟨e,he⟩;have:=Ce (k+1) z (by simpa using hz) ⟨e,by
    simp only [CB];split
    ·rw [show 0+j+(k+1)=0+(j+1)+k from by omega];exact List.mem_cons_of_mem _ he
    ·rw [show 0+j+(k+1)=0+(j+1)+k from by omega];exact he⟩
   rw [show j+1+k=j+(k+1)from by omega];exact this
  have fin: ∀{u:Value} {us1:List Value} {ys1:List AV} {rf1 Bz:List Nat} {el:TypeId},us=u::us1→fl.headD false=true→Cw P t=some el→Ca P w0 ts fl.tail us1 ys1 rf1 Bz→ ∃f o,Gb P c.w (t::ts) fl us (es.map (E.den c.ρ)) f o∧(o=l.flatMap fun t=>(c.G t).top)∧ ∀b∈f,c.ok b:=by
   rintro u us1 ys1 rf1 Bz el rfl h1 h2 h4;obtain⟨f0,o,q1,q2,q3⟩:=jG h Er hi hv hm ts (j+1) h4 (by omega) (sub rfl) CR;rw [h1,h2]at he;simp only at he;have ZN:v.cells[j]?=some u:=by have:=Ce 0 u rfl ⟨_,by simp only [CB,h1,h2,Nat.zero_add,Nat.add_zero];exact List.mem_cons_self ..⟩;simpa using this
   have VN:c.A.pin (1000*i+500+j)=some u:=by
    rw [Er];unfold Hf;have e1:(1000*i+500+j)/1000=i:=by omega
    have e2:(1000*i+500+j) % 1000=500+j:=by omega
    rw [if_pos (by unfold MX;simp only [e2,Ae,decide_eq_true_eq,Bool.or_eq_true];omega),e1,e2,hv,hm];simp only;rw [if_pos (by omega),show 500+j-500=j from by omega];exact ZN
   split at he
   ·rename_i e' z y' d hu;split at he
    ·rename_i hh;obtain⟨rfl,rfl,GN⟩:=hh;simp only [Ag,Prod.mk.injEq]at he;obtain⟨rfl,rfl⟩:=he;obtain⟨p1,N,p2,p3,p4⟩:=uR h hu;have hH:=(h.base.pins _ u VN).2 p1;rw [hH]at p2;refine⟨_,_, .own h1 h2 (yN p4 GN) p2 q1,by simp [q2],fun b hb=> ?_⟩;rcases Ah.1 hb with hb|hb
     ·exact p3 b hb
     ·exact q3 b hb
    ·cases he
   ·rename_i e' z dl ep y' hu;split at he
    ·rename_i hh;obtain⟨FT,Dy⟩:=hh;have Dy:=Yw Dy;simp only [Ag,Prod.mk.injEq]at he;obtain⟨rfl,rfl⟩:=he;obtain⟨p1,_,_,p2,_⟩:=h.ents _ _ (by rw [hu];rfl);have hH:=(h.base.pins _ u VN).2 p1;rw [hH]at p2;refine⟨_,_, .deep h1 h2 FT Dy p2 q1,by simp [q2],q3⟩
    ·cases he
   ·cases he
  cases hc with
  |own h1 h2 _ _ h4=>exact fin rfl h1 h2 h4
  |deep h1 h2 _ _ _ h4=>exact fin rfl h1 h2 h4
  | @rd _ _ _ u us1 y ys1 f rf1 Bz h1 h3 h4=>
   obtain⟨f0,o,q1,q2,q3⟩:=jG h Er hi hv hm ts (j+1) h4 (by omega) (sub rfl) CR;split at he
   ·rename_i e hf Bo;rw [h1 hf]at Bo;cases Bo
   ·simp only [Ag,Prod.mk.injEq]at he;obtain⟨rfl,rfl⟩:=he;exact⟨f0,o, .skip h1 q1,q2,q3⟩
end
section
variable {P:Program} {c:Cx} {n:Nat} {a:Act} {τ:St}
theorem uC (h:Rel c n (Bt τ) (AF τ.hp) a) {w0:World} {ms0:List PM} {vs0:List Value} (Er: ∀t,c.A.pin t=Hf ms0 vs0 t): ∀(ts:List TypeId) (i:Nat) {ms:List PM} {lo:List Bool} {vs:List Value} {xs:List AV} {rf lf hs:List Nat} {bx:List E} {us:List Nat},UK P τ i ts ms=some (bx,us)→Dr P w0 ts ms lo vs xs rf lf hs→
  (∀k,ms[k]?=ms0[i+k]?)→(∀k,vs[k]?=vs0[i+k]?)→ ∃f o,DF P c.w ts ms vs (bx.map (E.den c.ρ)) f o∧o=us.flatMap (fun t=>(c.G t).top)∧ ∀b∈f,c.ed (OZ P τ i ts ms) b
 | [],i,ms,lo,vs,xs,rf,lf,hs,bx,us,he,ha,_,_=>by simp [UK]at he;obtain⟨rfl,rfl⟩:=he;exact⟨[], [], .nil,rfl,by simp⟩
 |t::ts,i,ms,lo,vs,xs,rf,lf,hs,bx,us,he,ha,Ep,JX=>by
  obtain⟨v,vs,x,xs,f,hh,rf,lf,hs,rfl,C3,A1⟩: ∃v vs' x xs' f hh rf' lf' Ba,vs=v::vs'∧Dr P w0 ts ms.tail lo.tail vs' xs' rf' lf' Ba∧(dJ P w0 t (ms.headD .ro) v x f hh∨ms.headD .ro= .ro):=by
   cases ha with
   |cons h1 h2=>exact⟨_,_,_,_,_,_,_,_,_,rfl,h2, .inl h1⟩
   | @lent _ _ _ _ _ _ x _ _ _ _ _ h1 h2 h3 h4=>exact⟨_,_,x,_, [], [],_,_,_,rfl,h4, .inr h2⟩
  have DV:ms.headD .ro=(ms0[i]?).getD .ro:=by have:=Ep 0;rw [Nat.add_zero]at this;rw [←this];cases ms<;>rfl
  have KU:vs0[i]?=some v:=by have:=JX 0;simpa using this.symm
  unfold UK at he;split at he
  ·cases he
  rename_i bx' us' CR;obtain⟨f2,o2,b1,b2,b3⟩:=uC h Er ts (i+1) CR C3 (fun k=>by rw [show i+1+k=i+(k+1)from by omega,←Ep (k+1)];cases ms<;>simp) (fun k=>by rw [show i+1+k=i+(k+1)from by omega,←JX (k+1)];simp);have see2: ∀b∈f2,c.ed (OZ P τ i (t::ts) ms) b:=fun b hb=>(b3 b hb).mono fun t ht=>by simp only [OZ,Ah];exact .inr ht
  split at he
  ·cases he
  rename_i hi;split at he
  ·rename_i hm;simp only [Ag,Prod.mk.injEq]at he;obtain⟨rfl,rfl⟩:=he;exact⟨f2,o2, .ro hm b1,b2,see2⟩
  ·rename_i own hm;simp only [Ag,Prod.mk.injEq]at he;obtain⟨rfl,rfl⟩:=he;exact⟨f2,o2, .va hm b1,b2,see2⟩
  ·rename_i own hm;split at he
   ·cases he
   rename_i hle;split at he
   ·rename_i es l H7;simp only [Ag,Prod.mk.injEq]at he;obtain⟨rfl,rfl⟩:=he;rw [hm]at A1;obtain⟨us0,ys0,hg,hc⟩:=A1.resolve_right fun h=>by cases h
    obtain⟨f1,o1,q1,q2,q3⟩:=jG h Er (i:=i) (by omega) KU (by rw [←DV];exact hm) (A0 P t) 0 hc (by omega) (fun k u hu he=>by
     rw [Nat.zero_add];split at hg
     ·obtain⟨rfl,_,_⟩:=hg;simpa [Value.cells]using hu
     ·obtain⟨rfl,_⟩:=hg;cases k with
      |zero=>simp at hu;subst hu;rw [hc.je (nx:=0) (mk:=Ds (.var 0) true) (j:=0) 0 v rfl he];rfl
      |succ k=>simp at hu) H7
    refine⟨f1++f2,o1++o2,DF.mu (us:=us0) (ys:=es.map (E.den c.ρ)) hm ?_ q1 b1,by rw [q2,b2,List.flatMap_append],fun b hb=>(Ah.1 hb).elim (fun hb=> .inl (q3 b hb)) (see2 b)⟩;split at hg
    ·rename_i AB;rw [if_pos AB,if_pos AB];exact⟨hg.1,by simp only [E.den,EL.de]⟩
    ·rename_i AB;rw [if_neg AB,if_neg AB];obtain⟨rfl,_⟩:=hg;refine⟨rfl, ?_⟩;have mlen: ∀{ts:List TypeId} {fl:List Bool} {us:List Value} {ys:List AV} {f o:List Nat},Gb P c.w ts fl us ys f o→us.length=ys.length:=by
      intro ts fl us ys f o Sr
      induction Sr<;>simp_all
     have:=mlen q1
     match es,this with
     | [e],_=>rfl
   ·cases he
  ·rename_i own own' hm;rw [hm]at A1;obtain⟨ty,b,C0,ys0,h9,g1,rfl,g3,g4,rfl,g6,rfl⟩:=A1.resolve_right fun h=>by cases h
   split at he
   ·rename_i ty1 ty2 g cs DZ HZ;rw [g1]at DZ;cases DZ;split at he
    ·cases he
    rename_i A9;have A9:ty2=ty:=by simpa using A9
    subst A9;split at he
    ·rename_i es vs' H4 bV;simp only [Ag,Prod.mk.injEq]at he;obtain⟨rfl,rfl⟩:=he;obtain⟨b',C,p1,p2,p3,p4,p5,p6,p7⟩:=h.ents _ _ (by rw [HZ];rfl);have VN:c.A.pin (1000*i)=some (.pointer (some ⟨b,0,none⟩)):=by
      rw [Er];unfold Hf;have e1:(1000*i)/1000=i:=by omega
      have e2:(1000*i) % 1000=0:=by omega
      rw [if_pos (by unfold MX;simp only [e2,Ae,decide_eq_true_eq,Bool.or_eq_true];simp;omega),e1,e2,KU,←DV,hm];rfl
     have hH:=(h.base.pins _ _ VN).2 p1;rw [p2]at hH;cases hH;obtain⟨f1,q1,q2⟩:=Yf (P:=P) h (A0 P ty2) bV p7 H4 (Nat.le_refl _);refine⟨f1++f2,_,DF.bx hm g1 rfl p5 p6 (by simp only [E.den]) q1 b1,by rw [b2];simp [p3],fun x hx=> ?_⟩;rcases Ah.1 hx with hx|hx
     ·refine(q2 x hx).mono fun t ht=> ?_;simp only [OZ,hm,g1,HZ,Ah];exact .inl ht
     ·exact see2 x hx
    ·cases he
   ·cases he
end
theorem iN {P:Program}: ∀(ts:List TypeId) (i:Nat) (ms:List PM) (lo:List Bool) (ss:List SV) (l:List (Nat × Aj)),MC P i ts ms lo=some (ss,l)→ ∀t x,(t,x)∈l→ ∀gs f,x≠ .gd gs f
 | [],i,ms,lo,ss,l,h,t,x,hx=>by simp [MC]at h;obtain⟨_,rfl⟩:=h;simp at hx
 |t0::ts,i,ms,lo,ss,l,h,t,x,hx=>by
  unfold MC at h;split at h
  ·rename_i s1 l1 ss1 l2 q1 q2;simp only [Ag,Prod.mk.injEq]at h;obtain⟨_,rfl⟩:=h;rcases Ah.1 hx with hx|hx
   ·have hV: ∀(b:Nat) (own:List Bool),Ri P i b t0 own=some (s1,l1)→ ∀gs f,x≠ .gd gs f:=by
     intro b own hh;unfold Ri at hh;simp only at hh;split at hh
     ·cases hh
     ·split at hh
      ·simp only [Ag,Prod.mk.injEq]at hh;obtain⟨_,rfl⟩:=hh;intro gs f;exact Ov _ _ _ _ _ hx
      ·split at hh
       ·simp only [Ag,Prod.mk.injEq]at hh;obtain⟨_,rfl⟩:=hh;intro gs f;exact Ov _ _ _ _ _ hx
       ·cases hh
    unfold Zh at q1;split at q1
    ·simp only [Ag,Prod.mk.injEq]at q1;rw [←q1.2]at hx;simp at hx
    ·exact hV _ _ q1
    ·exact hV _ _ q1
    ·split at q1
     ·simp only at q1;split at q1
      ·cases q1
      ·simp only [Ag,Prod.mk.injEq]at q1;obtain⟨_,rfl⟩:=q1;rcases Af.1 hx with hx|hx
       ·cases hx;simp
       ·intro gs f;exact Ov _ _ _ _ _ hx
     ·cases q1
   ·exact iN _ _ _ _ _ _ q2 t x hx
  ·cases h
theorem zBM {P:Program} {sg:BI} (aR:P.follows .mixedOrders=true) (Jk: ∀f s,sg f=some s→f<1000000) {f:Nat} {s:Hn} {fn:Func} {t:Tr} {xs:List AV} {r:AV} (GO:P.funcs[f]?=some fn) (hs:sg f=some s) (DK:(fn.name== "runtime.NumGoroutine")=false)
  (Ek:S6 P sg f=some t) (BD:MJ P fn s r=true) (hlen:xs.length=fn.params.size+fn.nfree) (hd:t.den (Cj P sg) (fun r'=>r'=r) (fun _ _ _ _=>False) [] xs):RE P s f xs r:=by
 unfold S6 at Ek;simp only [GO,hs]at Ek;split at Ek
 ·rename_i code σ DJ Bk;split at Ek
  ·rename_i t0 hex;have Eb:s.ft.length≤fn.nfree:=by
    have Bk:=Bk;unfold mG at Bk;split at Bk
    ·cases Bk
    ·simp only at Bk;split at Bk
     ·cases Bk
     ·rename_i AH;simp only [Bool.or_eq_true,decide_eq_true_eq,not_or,Nat.not_lt]at AH;exact AH.2
   refine⟨fn,GO,by rw [DJ];rfl,DK,BD,hlen,Eb,fun w vs rf lf Ba Aw FJ I5 GV DY=> ?_⟩;unfold mG at Bk;split at Bk
   ·cases Bk
   rename_i ss l Di;simp only at Bk;split at Bk
   ·cases Bk
   rename_i AH;simp only [Bool.or_eq_true,decide_eq_true_eq,not_or,Nat.not_lt]at AH;simp only [Ag]at Bk;subst Bk;let pin:Nat→Option Value:=Hf s.cj vs;let LO:Value→AV→Prop:=fun v y=> ∃f,Rd w [v] [y] f∧ ∀b∈f,¬b∈Ba;let c0:Cx:={ρ:=xs,w:=w,G:=fun _=>⟨[], []⟩,K:=fun _ _=>False,H:=fun _ _=>undef,A:=⟨fun b=>b∈rf,pin,LO⟩,w0:=w,Mu:=fun b=>b∈Ba,U:=fun _=>False,E:=fun _=>0}
   have DL:vs.length=xs.length:=by
    have: ∀{ts:List TypeId} {ms:List PM} {lo:List Bool} {vs:List Value} {xs:List AV} {rf lf hs:List Nat},Dr P w ts ms lo vs xs rf lf hs→vs.length=xs.length:=by
     intro ts ms lo vs xs rf lf hs h
     induction h<;>simp_all
    exact this Aw
   obtain⟨recs,e1,e2,e3,e4,e5,e6,e7,e8⟩:=vJ (c:=c0) (ms0:=s.cj) (vs0:=vs) (fn.params.toList++s.ft) 0 Di Aw (fun k x hx=>by simp only [E.den,Nat.zero_add];show(xs[k]?).getD .undef=x;rw [hx];rfl) (fun k=>by simp) (fun k=>by simp);have aft:=Cx.dk (c:=c0) (w':=w) (recs:=recs) (fun t g hk=>hk.elim) e4 (fun r _ _ h=>h);have nO: ∀r∈recs,r.tag<100000:=fun r hr=>by have:=e3 r hr;simp only [Nat.zero_add,Ao,Array.length_toList]at this;omega
   let c:Cx:={c0.dj w recs with U:=fun t=>t<100000}
   have R3: ∀b∈rf,(c0.dj w recs).ok b:=by
    intro b hb;refine⟨fun⟨t,ht⟩=> ?_, .inl hb⟩;by_cases hT: ∃r∈recs,r.tag=t
    ·obtain⟨r,hr,rfl⟩:=hT;rw [Cx.dq e4 hr]at ht;exact FJ b (by rw [←e2];exact List.mem_flatMap.2 ⟨r,hr,ht⟩) hb
    ·rw [Cx.c6 fun r hr hh=>hT ⟨r,hr,hh⟩]at ht;simp [c0]at ht
   have B0: ∀(k:Nat) (v:Value) (x:AV),(s.cj[k]?).getD .ro= .ro→vs[k]?=some v→xs[k]?=some x→LO v x:=by
    have key: ∀{ts:List TypeId} {ms:List PM} {lo:List Bool} {vs:List Value} {xs:List AV} {rf lf hs:List Nat},Dr P w ts ms lo vs xs rf lf hs→ ∀(k:Nat) (v:Value) (x:AV),(ms[k]?).getD .ro= .ro→vs[k]?=some v→xs[k]?=some x→ ∃f,Rd w [v] [x] f∧ ∀b∈f,b∈rf∨b∈lf:=by
     intro ts ms lo vs xs rf lf hs h
     induction h with
     |nil=>intro k v x _ h _;simp at h
     | @cons t ts ms lo v vs x xs f h rf lf hs A1 _ ih=>
      intro k v' x' h1 h2 h3;cases k with
      |zero=>
       have hm:ms.headD .ro= .ro:=by cases ms<;>exact h1
       rw [hm]at A1;simp at h2 h3;subst h2;subst h3;exact⟨f,A1.1,fun b hb=> .inl (by simp [hb])⟩
      |succ k=>obtain⟨f',q1,q2⟩:=ih k v' x' (by cases ms with|nil=>rfl|cons _ _=>simpa using h1) (by simpa using h2) (by simpa using h3);exact⟨f',q1,fun b hb=>(q2 b hb).imp (fun h=>by simp [h]) id⟩
     | @lent t ts ms lo v vs x xs f rf lf hs _ _ hr _ ih=>
      intro k v' x' h1 h2 h3;cases k with
      |zero=>simp at h2 h3;subst h2;subst h3;exact⟨f,hr,fun b hb=> .inr (by simp [hb])⟩
      |succ k=>obtain⟨f',q1,q2⟩:=ih k v' x' (by cases ms with|nil=>rfl|cons _ _=>simpa using h1) (by simpa using h2) (by simpa using h3);exact⟨f',q1,fun b hb=>(q2 b hb).imp id (fun h=>by simp [h])⟩
     | @free ms lo v vs x xs f rf lf hs hr _ ih=>
      intro k v' x' h1 h2 h3;cases k with
      |zero=>simp at h2 h3;subst h2;subst h3;exact⟨f,hr,fun b hb=> .inl (by simp [hb])⟩
      |succ k=>obtain⟨f',q1,q2⟩:=ih k v' x' (by cases ms with|nil=>rfl|cons _ _=>simpa using h1) (by simpa using h2) (by simpa using h3);exact⟨f',q1,fun b hb=>(q2 b hb).imp (fun h=>by simp [h]) id⟩
    intro k v x h1 h2 h3;obtain⟨f,q1,q2⟩:=key Aw k v x h1 h2 h3;exact⟨f,q1,fun b hb hh=>(q2 b hb).elim (FJ b hh) (I5 b hh)⟩
   obtain⟨g1,g2⟩:=e8 _ aft R3 B0;have kc:Dv (c0.dj w recs) c:=⟨rfl,rfl,fun _ _ hb=>hb,fun _ _ _=>rfl,fun _ _ hk=>⟨hk,rfl⟩,fun _ _ _=>⟨Nat.le_refl _,fun _=>⟨rfl,fun _ _ _=>rfl⟩⟩⟩
   have Iy:fn.params.size+fn.nfree=vs.length:=by rw [DL,hlen]
   have FZ:(ss++(List.range (fn.nfree-s.ft.length)).map fun j=>SV.e (.var (fn.params.size+s.ft.length+j))).length=vs.length:=by rw [Ao,e6,List.length_map,List.length_range,Ao,Array.length_toList];omega
   have g1':SR c (ss++(List.range (fn.nfree-s.ft.length)).map fun j=>SV.e (.var (fn.params.size+s.ft.length+j))) vs:=by
    have:=g1.keep kc;have ND:(fn.params.toList++s.ft).length=fn.params.size+s.ft.length:=by rw [Ao,Array.length_toList]
    rw [show vs.length-(fn.params.toList++s.ft).length=fn.nfree-s.ft.length from by omega]at this;simpa using this
   have hG: ∀t,(∃r∈recs,r.tag=t∧c.G t=⟨r.top, []⟩)∨c.G t=⟨[], []⟩:=fun t=>by
    by_cases hT: ∃r∈recs,r.tag=t
    ·obtain⟨r,hr,rfl⟩:=hT;exact .inl ⟨r,hr,rfl,Cx.dq (w':=w) e4 hr⟩
    ·exact .inr (Cx.c6 (w':=w) fun r hr hh=>hT ⟨r,hr,hh⟩)
   have GR: ∀r∈recs,∀b∈r.top,b∈Ba:=fun r hr b hb=>by rw [←e2];exact List.mem_flatMap.2 ⟨r,hr,hb⟩
   have Eo: ∀b∈Ba,b<w.heap.size:=by
    have: ∀{ts:List TypeId} {ms:List PM} {lo:List Bool} {vs:List Value} {xs:List AV} {rf lf hs:List Nat},Dr P w ts ms lo vs xs rf lf hs→ ∀b∈hs,b<w.heap.size:=by
     intro ts ms lo vs xs rf lf hs h
     induction h with
     |nil=>simp
     |lent _ _ _ _ ih=>exact ih
     | @cons t ts ms lo v vs x xs f h rf lf hs A1 _ ih=>
      intro b hb;rcases Ah.1 hb with hb|hb
      ·cases hm:ms.headD .ro with
       |ro=>rw [hm]at A1;rw [A1.2]at hb;simp at hb
       |va own=>rw [hm]at A1;obtain⟨_,_,_,hc⟩:=A1;exact hc.inb.2 b hb
       |mu own=>rw [hm]at A1;obtain⟨_,_,_,hc⟩:=A1;exact hc.inb.2 b hb
       |bx own own'=>
        rw [hm]at A1;obtain⟨_,b0,_,_,_,_,_,hh,_,_,hc,rfl⟩:=A1;rcases Af.1 hb with rfl|hb
        ·exact Fu hh
        ·exact hc.inb.2 b hb
      ·exact ih b hb
     |free _ _ ih=>exact ih
    exact this Aw
   have Bd: ∀t e,AF l t=some e→ ∃r∈recs,r.tag=t∧r.bm=e:=fun t e he=>by have:=IE he;rw [e1]at this;obtain⟨r,hr,SF⟩:=List.mem_map.1 this;simp only [AN.pair,Prod.mk.injEq]at SF;exact⟨r,hr,SF.1,SF.2⟩
   let F:Fix:=⟨w,⟨fun b=>b∈rf,pin,LO⟩,fun b=>b∈Ba,fun t v h=>by
    simp only [pin,Hf]at h;split at h
    ·assumption
    ·cases h⟩
   have As:Rel c fn.ntmps (Bt {sl:=ss++(List.range (fn.nfree-s.ft.length)).map (fun j=>SV.e (.var (fn.params.size+s.ft.length+j)))++List.replicate (fn.ntmps-(fn.params.size+fn.nfree)) .undef,hp:=l,nx:=100000,nv:=fn.params.size+fn.nfree}) (AF l) {tmps:=vs.toArray++Array.replicate (fn.ntmps-vs.toArray.size) undef,defers:= []}:=by
    refine⟨rfl,by simp;omega,⟨rfl,rfl,rfl,Nat.le_refl _,fun t v hp=>⟨?_,fun hk=> ?_⟩,fun b _ _=>rfl,DY,fun v y h=>h⟩,fun i=> ?_,fun t e hr=> ?_,fun t hn=> ?_,⟨fun t=> ?_,fun t u L0 b hb BT=> ?_,fun t b hb=> ?_,fun t b hb=> ?_⟩,fun t g hk=> ?_,fun t e he=> ?_⟩
    ·have:=F.mz t v hp;unfold MX at this;simp only [Ae,decide_eq_true_eq]at this;exact this.1
    ·rcases hk with hk|⟨r,hr,rfl,AS,_⟩
     ·exact hk.elim
     ·exact(aft.new r hr v (e5 r hr v hp)).2.2
    ·have ZG:SR c (ss++(List.range (fn.nfree-s.ft.length)).map (fun j=>SV.e (.var (fn.params.size+s.ft.length+j)))++List.replicate (fn.ntmps-(fn.params.size+fn.nfree)) .undef) (vs++List.replicate (fn.ntmps-(fn.params.size+fn.nfree)) undef):=by
      refine g1'.app ?_;have: ∀k,SR c (List.replicate k SV.undef) (List.replicate k undef):=by
       intro k
       induction k with
       |zero=>exact .nil
       |succ k ih=>exact .undef ih
      exact this _
     unfold Bt;simp only;cases hq:(ss++(List.range (fn.nfree-s.ft.length)).map (fun j=>SV.e (.var (fn.params.size+s.ft.length+j)))++List.replicate (fn.ntmps-(fn.params.size+fn.nfree)) SV.undef)[i]? with
     |none=>exact .undef .nil
     |some s'=>
      obtain⟨v',bT,KO⟩:=ZG.get hq;have:(vs.toArray++Array.replicate (fn.ntmps-vs.toArray.size) undef).getD i undef=v':=by
       rw [Array.getD_eq_getD_getElem?];have e:(vs.toArray++Array.replicate (fn.ntmps-vs.toArray.size) undef)[i]?=(vs++List.replicate (fn.ntmps-(fn.params.size+fn.nfree)) undef)[i]?:=by rw [←Array.getElem?_toList];simp [Iy]
       rw [e,bT];rfl
      rw [this];exact KO
    ·cases hh:AF l t with
     |none=>rw [hh]at hr;exact hr.elim
     |some e0=>
      obtain⟨r,Da,rfl,rfl⟩:=Bd t e0 hh;have Bk:=(g2 r Da).keep kc rfl rfl (fun g hg=>hg) (fun b _=>rfl);rw [hh]at hr;cases he:r.bm with
      |gd gs e'=>rw [he]at Bk hr;obtain⟨_,rfl⟩:=hr;have AS:=(e3 r Da).2.2;exfalso;exact iN _ _ _ _ _ _ Di r.tag r.bm (by rw [e1];exact List.mem_map.2 ⟨r,Da,rfl⟩) _ _ he
      |_=>rw [he]at Bk hr;simp only [Cd]at hr;subst hr;exact Bk
    ·rcases hG t with⟨r,hr,rfl,hg⟩|hg
     ·exfalso;have H6:(r.tag,r.bm)∈l:=by rw [e1];exact List.mem_map.2 ⟨r,hr,rfl⟩
      have: ∃e,AF l r.tag=some e:=by
       have: ∀(l:List (Nat × Aj)),(r.tag,r.bm)∈l→ ∃e,AF l r.tag=some e:=by
        intro l
        induction l with
        |nil=>intro h;simp at h
        |cons p l ih=>
         obtain⟨u,f'⟩:=p;intro h;simp only [AF];split
         ·exact⟨_,rfl⟩
         ·rename_i hu;rcases Af.1 h with h|h
          ·cases h;exact absurd rfl hu
          ·exact ih h
       exact this l H6
      obtain⟨e,he⟩:=this;obtain⟨r',Da,LZ,rfl⟩:=Bd _ _ he;have Pc: ∀gs f',r'.bm≠ .gd gs f':=by intro gs f' B1;exact iN _ _ _ _ _ _ Di r'.tag r'.bm (by rw [e1];exact List.mem_map.2 ⟨r',Da,rfl⟩) _ _ B1
      apply hn r'.bm;rw [he];cases bF:r'.bm with
      |gd gs f'=>exact absurd bF (Pc gs f')
      |_=>simp [Cd]
     ·rw [hg];simp
    ·rcases hG t with⟨r,hr,rfl,hg⟩|hg
     ·rw [hg];rw [←e2]at GV;simpa [GI.own]using(Uk GV).1 r hr
     ·rw [hg];simp [GI.own]
    ·rcases hG t with⟨r,hr,rfl,hg⟩|hg
     ·rcases hG u with⟨q,hq,rfl,B1⟩|B1
      ·rw [hg]at hb;rw [B1]at BT;simp only [GI.own,List.append_nil]at hb BT;rw [←e2]at GV;obtain⟨i,hi⟩:=List.getElem?_of_mem hr;obtain⟨j,hj⟩:=List.getElem?_of_mem hq;have:=(Uk GV).2 i j r q b hi hj hb BT;subst this;rw [hi]at hj;cases hj;exact L0 rfl
      ·rw [B1]at BT;simp [GI.own]at BT
     ·rw [hg]at hb;simp [GI.own]at hb
    ·rcases hG t with⟨r,hr,rfl,hg⟩|hg
     ·rw [hg]at hb;simp only [GI.own,List.append_nil]at hb;exact .inr (GR r hr b hb)
     ·rw [hg]at hb;simp [GI.own]at hb
    ·rcases hG t with⟨r,hr,rfl,hg⟩|hg
     ·rw [hg]at hb;simp only [GI.own,List.append_nil]at hb;exact Eo b (GR r hr b hb)
     ·rw [hg]at hb;simp [GI.own]at hb
    ·rcases hk with hk|⟨r,hr,rfl,_⟩
     ·exact hk.elim
     ·exact nO r hr
    ·obtain⟨r,hr,rfl,_⟩:=Bd t e he;exact nO r hr
   have RV:GB F xs {sl:=ss++(List.range (fn.nfree-s.ft.length)).map (fun j=>SV.e (.var (fn.params.size+s.ft.length+j)))++List.replicate (fn.ntmps-(fn.params.size+fn.nfree)) .undef,hp:=l,nx:=100000,nv:=fn.params.size+fn.nfree} {tmps:=vs.toArray++Array.replicate (fn.ntmps-vs.toArray.size) undef,defers:= []} w:=by
    refine⟨c,rfl,rfl,rfl,rfl,rfl,hlen,fun t ht=>ht, ?_⟩;have hl:(ss++(List.range (fn.nfree-s.ft.length)).map (fun j=>SV.e (.var (fn.params.size+s.ft.length+j)))++List.replicate (fn.ntmps-(fn.params.size+fn.nfree)) SV.undef).length=fn.ntmps:=by rw [Ao,FZ,List.length_replicate];omega
    show Rel c (ss++(List.range (fn.nfree-s.ft.length)).map (fun j=>SV.e (.var (fn.params.size+s.ft.length+j)))++List.replicate (fn.ntmps-(fn.params.size+fn.nfree)) SV.undef).length _ _ _;rw [hl];exact As
   refine calls_of_wp GO DJ ?_;have nJ:JG (fun _ _ _ _=>False):=fun _ _ _ _ _ _ h=>h;have ZO:=Tr.en _ nJ t0 Ek hd;refine zyi (zAO aR (zFV (sg:={sg with dp:=s.dp,wn:=s.wn,fz:=s.fz}) Jk) zEX) zBj code [] _ _ t0 hex F (fun r'=>r'=r) _ [] xs _ w (Uu nJ _ _) ZO RV _ fun i x τ ρ' a' w' hp hl CG=> ?_;obtain⟨tr,d',q1,q2,q3⟩:=hl;have main:V7 P fn s τ=some tr→a'.defers= []∧ ∃v,(results fn a'.tmps).run P w'= .ok v w'∧ ∃v',Ending.returned v= .returned v'∧rJ P fn s w vs rf Ba r v' w':=by
    intro B6;obtain⟨c2,rfl,rfl,k1,k2,k3,k4,k5,k6⟩:=CG;unfold V7 at B6;split at B6
    ·rename_i rs bx us Dm Pa;split at B6
     ·rename_i es vs' H4 aY;split at B6
      ·cases B6
      rename_i R5;simp only [Bool.or_eq_true,Bool.not_eq_true',not_or,Bool.not_eq_false,Bool.not_eq_true]at R5;obtain⟨B2,Vx⟩:=R5;have B2:=QN B2;simp only [Ag]at B6;subst B6;have hr:_=r:=q3;obtain⟨rvs,z1,z2,z3⟩:=zuP k6 fn Dm;obtain⟨f1,y1,y2⟩:=tQ (P:=P) k6 fn.resultTypes.toList aY z1 H4 (Nat.le_refl _);obtain⟨f2,o2,x1,x2,x3⟩:=uC (P:=P) k6 (w0:=w) (ms0:=s.cj) (vs0:=vs) (fun t=>by rw [k2]) (fn.params.toList++s.ft) 0 Pa Aw (fun k=>by simp) (fun k=>by simp);refine⟨k6.defers,_,z3,_,rfl,⟨?_, ?_⟩⟩
      ·
       have hR: ∃R,R=(match es with| .cons x .nil=>x|es=>E.tup es).den c2.ρ∧J3 P c2.w fn.resultTypes.toList s.res (match rvs with| [u]=>u|us=> .tuple us.toArray) R f1 (vs'.flatMap fun t=>(c2.G t).top):=by
        refine⟨_,rfl, ?_⟩;have yl:es.den c2.ρ=es.den c2.ρ:=rfl;generalize SP:fn.resultTypes.toList=ts at y1 ⊢;generalize Cu:es.den c2.ρ=ys at y1;generalize (vs'.flatMap fun t=>(c2.G t).top)=o1 at y1 ⊢;cases y1 with
        |nil=>
         cases es with
         |nil=>exact⟨[], [],rfl,by simp [E.den,EL.den], .nil⟩
         |cons e es=>simp [EL.den]at Cu
        | @cons t ts fl v vs2 x xs2 f h rf2 AW w1 w2=>
         cases w2 with
         |nil=>
          cases es with
          |nil=>simp [EL.den]at Cu
          |cons e es=>
           cases es with
           |nil=>simp only [EL.den,List.cons.injEq,and_true]at Cu;subst Cu;simpa [J3]using w1
           |cons e2 es=>simp [EL.den]at Cu
         | @cons t2 ts2 fl2 v2 vs3 x2 xs3 f2' h2 rf3 ET w3 w4=>
          cases es with
          |nil=>simp [EL.den]at Cu
          |cons e es=>
           cases es with
           |nil=>simp [EL.den]at Cu
           |cons e2 es=>refine⟨v::v2::vs3,x::x2::xs3,rfl, ?_, .cons w1 (.cons w3 w4)⟩;simp only [E.den,Cu]
       obtain⟨R,hR1,O7⟩:=hR;have Bq: ∀b∈(vs'.flatMap fun t=>(c2.G t).top)++o2,∃t∈vs'++us,b∈(c2.G t).top:=fun b hb=>by
        rcases Ah.1 hb with hb|hb
        ·obtain⟨t,ht,Co⟩:=List.mem_flatMap.1 hb;exact⟨t,by simp [ht],Co⟩
        ·rw [x2]at hb;obtain⟨t,ht,Co⟩:=List.mem_flatMap.1 hb;exact⟨t,by simp [ht],Co⟩
       have IZ: ∀b t,b∈(c2.G t).top→b∈Ba∨w.heap.size≤b:=fun b t hb=>by
        rcases k6.gw.allow t b (by simp [GI.own,hb])with h|h
        ·simp only [Cx.B,k1]at h;exact .inr h
        ·rw [k3]at h;exact .inl h
       refine⟨R,bx.map (E.den c2.ρ),f1,_,f2,o2, ?_,O7,x1, ?_,fun b hb=> ?_,fun b hb=> ?_⟩
       ·rw [←hr,hR1];cases bx with
        |nil=>rfl
        |cons b bx=>simp only [List.isEmpty_cons,AY,if_false,E.den,EL.de,List.map_cons];rfl
       ·rw [x2,←List.flatMap_append];have: ∀l:List Nat,l.Nodup→(l.flatMap fun t=>(c2.G t).top).Nodup:=by
         intro l
         induction l with
         |nil=>intro _;simp
         |cons t l ih=>intro hl;rw [List.nodup_cons]at hl;rw [List.flatMap_cons,List.nodup_append];refine⟨(List.nodup_append.1 (k6.gw.nodup t)).1,ih hl.2,fun x hx y hy G2=> ?_⟩;subst G2;obtain⟨u,hu,cA⟩:=List.mem_flatMap.1 hy;exact k6.gw.cm t u (fun hh=>hl.1 (hh▸hu)) x (by simp [GI.own,hx]) (by simp [GI.own,cA])
        exact this _ B2
       ·obtain⟨t,ht,Co⟩:=Bq b hb;exact⟨IZ b t Co,k6.gw.inb t b (by simp [GI.own,Co])⟩
       ·have H8:c2.ed (UX P τ fn.resultTypes.toList s.res rs++OZ P τ 0 (fn.params.toList++s.ft) s.cj) b:=by
         rcases Ah.1 hb with hb|hb
         ·exact(y2 b hb).mono fun t ht=>by simp [ht]
         ·exact(x3 b hb).mono fun t ht=>by simp [ht]
        rcases H8 with Ax|⟨t,ht,Co⟩
        ·refine⟨fun ho=> ?_, ?_⟩
         ·obtain⟨u,_,H3⟩:=Bq b ho;exact Ax.1 ⟨u,H3⟩
         ·rcases Ax.2 with h|h|h
          ·rw [k2]at h;exact .inl h
          ·simp only [Cx.B,k1]at h;exact .inr (.inr h)
          ·rw [k3]at h;exact .inr (.inl h)
        ·refine⟨fun ho=> ?_, .inr (IZ b t Co)⟩;obtain⟨u,hu,H3⟩:=Bq b ho;have L0:t≠u:=by
          rintro rfl;rw [List.any_eq_false]at Vx;have:=Vx t ht;simp only [List.contains_eq_mem,decide_eq_true_eq]at this;exact this hu
         exact k6.gw.cm t u L0 b (by simp [GI.own,Co]) (by simp [GI.own,H3])
      ·have hb:=k6.base;refine⟨?_, ?_, ?_, ?_,fun k hk hn=> ?_⟩
       ·rw [hb.os,k1]
       ·rw [hb.tape,k1]
       ·rw [hb.output,k1]
       ·have:=hb.size;rw [k1]at this;exact this
       ·have:=hb.block k (by rw [k1];exact hk) (by rw [k3];exact hn);rw [k1]at this;exact this
     ·cases B6
    ·cases B6
   cases x with
   |normal=>exact main q1
   |ret=>exact main q1
   |exit id=>cases q1
  ·cases Ek
 ·cases Ek
end Go.Proofs.YtlhlgboblghkdaaGreatDoor
end

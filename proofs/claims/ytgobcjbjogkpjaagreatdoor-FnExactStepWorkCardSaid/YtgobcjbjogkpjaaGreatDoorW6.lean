/- Parts of a proof, joined: WT, WU, WV, WW. -/
import Derived.Test.YtgobcjbjogkpjaaGreatDoorW5
set_option linter.unusedVariables false
set_option linter.unusedSimpArgs false
section
namespace Go.Proofs.YtgobcjbjogkpjaaGreatDoor
open Go.RowKit
def zod (ms:List PM) (vs:List Value) (t:Nat):Option Value:=
 if zxJ t then(match vs[t/1000]?,(ms[t/1000]?).getD .ro with
  |some v, .bx .. =>if t % 1000=0 then some v else none
  |some v, .mu _=>if 500≤t % 1000 then v.cells[t % 1000-500]? else none
  |_,_=>none)
 else none
section
variable {P:Program} {c:Cx} {w:World}
theorem zb0.jb {ts:List TypeId} {fl:List Bool} {us:List Value} {ys:List AV} {rf hs:List Nat} (h:zb0 P w ts fl us ys rf hs) {nx:Nat} {mk:Nat→E} {j:Nat}: ∀(k:Nat) (u:Value),us[k]?=some u→(∃e,(nx+j+k,e)∈(zar P nx mk j ts fl).2)→u.cells= #[u]:=by
 induction h generalizing j with
 |nil=>intro k u hu _;simp at hu
 | @deep t ts fl el e9 z9 l9 u us y ys top rf hs h1 h2 h21 h22 h3 _ ih=>
  intro k u' hu he
  cases k with
  |zero=>
   simp at hu;subst hu
   obtain⟨p,q,r,rfl⟩:=h3.head
   rfl
  |succ k=>
   refine ih (j:=j+1) k u' (by simpa using hu) ?_
   obtain⟨e,he⟩:=he
   simp only [zar,h1,h2,yqmc,Prod.mk.injEq]at he
   rcases he with⟨he,_⟩|he
   ·omega
   ·exact⟨e,by rw [show nx+(j+1)+k=nx+j+(k+1)from by omega];exact he⟩
 | @own t ts fl el u us y ys top N rf hs h1 h2 h23 h3 _ ih=>
  intro k u' hu he
  cases k with
  |zero=>
   simp at hu;subst hu
   obtain⟨xs,_,_,_,⟨_,⟨a,rfl⟩,_⟩|⟨g,cap,C,rfl,_⟩⟩:=h3<;>rfl
  |succ k=>
   refine ih (j:=j+1) k u' (by simpa using hu) ?_
   obtain⟨e,he⟩:=he
   simp only [zar,h1,h2,yqmc,Prod.mk.injEq]at he
   rcases he with⟨he,_⟩|he
   ·omega
   ·exact⟨e,by rw [show nx+(j+1)+k=nx+j+(k+1)from by omega];exact he⟩
 | @rd t ts fl u us y ys f rf hs h1 h3 _ ih=>
  intro k u' hu he
  obtain⟨e,he⟩:=he
  have hfc:(zar P nx mk j (t::ts) fl).2=(zar P nx mk (j+1) ts fl.tail).2:=by
   simp only [zar]
   split
   ·rename_i h8 h9;rw [h1 h8]at h9;cases h9
   ·rfl
  rw [hfc]at he
  cases k with
  |zero=>
   exfalso
   have key: ∀(ts:List TypeId) (fl:List Bool) (j' t':Nat) (e':Ent),(t',e')∈(zar P nx mk j' ts fl).2→nx+j'≤t':=by
    intro ts
    induction ts with
    |nil=>intro fl j' t' e' h;simp [zar]at h
    |cons a ts ih2=>
     intro fl j' t' e' h
     simp only [zar]at h
     split at h
     ·simp only [yqmc,Prod.mk.injEq]at h
      rcases h with⟨h,_⟩|h
      ·omega
      ·have:=ih2 _ _ _ _ h;omega
     ·have:=ih2 _ _ _ _ h;omega
   have:=key _ _ _ _ _ he
   omega
  |succ k=>
   exact ih (j:=j+1) k u' (by simpa using hu) ⟨e,by rw [show nx+(j+1)+k=nx+j+(k+1)from by omega];exact he⟩
theorem ztm {i b:Nat} (hb:b+400≤1000) {t:TypeId} {own:List Bool} {s:SV} {l:List (Nat × Ent)} {v:Value} {x:AV} {rf hs:List Nat} (h:zuC P i b t own=some (s,l)) (hv:zyE P w t own v x rf hs) (hx:(E.var i).den c.ρ=x):
  ∃recs:List Chg,l=recs.map Chg.pair∧recs.flatMap Chg.top=hs∧(∀r∈recs,1000*i+b≤r.tag∧r.tag<1000*i+1000∧r.new.isSome)∧(recs.map Chg.tag).Nodup∧(∀r∈recs,r.new=v.cells[r.tag-(1000*i+b)]?)∧
   ∀c',Aft c c' w recs→(∀b∈rf,c'.ok b)→SR c' [s] [v]∧ ∀r∈recs,znH c' r.tag r.bq:=by
 obtain⟨us,ys,hg,hc⟩:=hv
 unfold zuC at h
 simp only at h
 split at h
 ·cases h
 rename_i hle
 split at hg
 ·rename_i hag
  obtain⟨rfl,rfl,hone⟩:=hg
  obtain⟨recs,e1,e2,e3,e4,e4',e5⟩:=zeH (c:=c) (nx:=1000*i+b) (mk:=zhZ (.var i) (zaX P t)) hc 0 (by rw [hag];exact zmR hx)
  rw [if_pos hag]at h
  simp only [yqsi,Prod.mk.injEq]at h
  obtain⟨rfl,rfl⟩:=h
  refine⟨recs,e1,e2,fun r hr=>by have:=e3 r hr;exact⟨by omega,by omega,this.2.2⟩,e4,fun r hr=>by rw [e4' r hr];simp [Value.cells],fun c' ha hok=> ?_⟩
  obtain⟨q1,q2⟩:=e5 c' ha hok
  exact⟨.agg hone (by rw [SVL.a7];exact q1) .nil,q2⟩
 ·rename_i hag
  obtain⟨rfl,rfl⟩:=hg
  have hag':zaX P t=false:=by simpa using hag
  obtain⟨recs,e1,e2,e3,e4,e4',e5⟩:=zeH (c:=c) (nx:=1000*i+b) (mk:=zhZ (.var i) (zaX P t)) hc 0 (by
   intro k z hz
   cases k with
   |zero=>simp at hz;subst hz;rw [hag'];simpa [zhZ]using hx
   |succ k=>simp at hz)
  rw [if_neg hag]at h
  split at h
  ·rename_i s' hs'
   simp only [yqsi,Prod.mk.injEq]at h
   obtain⟨rfl,rfl⟩:=h
   refine⟨recs,e1,e2,fun r hr=>by have:=e3 r hr;exact⟨by omega,by omega,this.2.2⟩,e4,fun r hr=> ?_,fun c' ha hok=> ?_⟩
   ·have hr':=e4' r hr
    have h3:=e3 r hr
    rw [hr',Nat.add_zero]
    have hlen:=hc.len
    have hk0:r.tag-(1000*i+b)=0:=by
     have:=hlen.1
     simp at this
     omega
    rw [hk0]
    have:=hc.jb (nx:=1000*i+b) (mk:=zhZ (.var i) (zaX P t)) (j:=0) 0 v rfl ⟨r.bq,by rw [e1];exact List.mem_map.2 ⟨r,hr,by simp [Chg.pair];omega⟩⟩
    rw [this];rfl
   ·obtain⟨q1,q2⟩:=e5 c' ha hok
    rw [hs']at q1
    exact⟨q1,q2⟩
  ·cases h
theorem zuz {ms0:List PM} {vs0:List Value}: ∀(ts:List TypeId) (i:Nat) {ms:List PM} {lo:List Bool} {ss:List SV} {l:List (Nat × Ent)} {vs:List Value} {xs:List AV} {rf lf hs:List Nat},zkL P i ts ms lo=some (ss,l)→zhy P w ts ms lo vs xs rf lf hs→(∀k x,xs[k]?=some x→(E.var (i+k)).den c.ρ=x)→(∀k,ms[k]?=ms0[i+k]?)→(∀k,vs[k]?=vs0[i+k]?)→
  ∃recs:List Chg,l=recs.map Chg.pair∧recs.flatMap Chg.top=hs∧(∀r∈recs,1000*i≤r.tag∧r.tag<1000*(i+ts.length)∧r.new.isSome)∧(recs.map Chg.tag).Nodup∧(∀r∈recs,∀v,zod ms0 vs0 r.tag=some v→r.new=some v)∧ss.length=ts.length∧ts.length≤vs.length∧
   ∀c',Aft c c' w recs→(∀b∈rf,c'.ok b)→(∀(k:Nat) (v:Value) (x:AV),(ms[k]?).getD .ro= .ro→vs[k]?=some v→xs[k]?=some x→c'.A.lo v x)→SR c' (ss++(List.range (vs.length-ts.length)).map fun j=>SV.e (.var (i+ts.length+j))) vs∧ ∀r∈recs,znH c' r.tag r.bq
 | [],i,ms,lo,ss,l,vs,xs,rf,lf,hs,h,ha,hx,_,_=>by
  simp [zkL]at h;obtain⟨rfl,rfl⟩:=h
  have key: ∀{ms:List PM} {lo:List Bool} {vs:List Value} {xs:List AV} {rf lf hs:List Nat},zhy P w [] ms lo vs xs rf lf hs→hs= []∧Rd w vs xs rf:=by
   intro ms lo vs
   induction vs generalizing ms lo with
   |nil=>intro xs rf lf hs h;cases h;exact⟨rfl, .nil⟩
   |cons v vs ih=>
    intro xs rf lf hs h
    cases h with
    |free h1 h2=>obtain⟨rfl,h3⟩:=ih h2;exact⟨rfl,h1.app h3⟩
  obtain⟨rfl,hrd⟩:=key ha
  refine⟨[],rfl,rfl,by simp,by simp,by simp,rfl,by simp,fun c' haf hok _=>⟨?_,by simp⟩⟩
  have frees: ∀(vs:List Value) {xs:List AV} {rf:List Nat} (j:Nat),Rd w vs xs rf→(∀k x,xs[k]?=some x→(E.var (i+j+k)).den c.ρ=x)→(∀b∈rf,c'.ok b)→SR c' ((List.range vs.length).map fun q=>SV.e (.var (i+j+q))) vs:=by
   intro vs
   induction vs with
   |nil=>intro xs rf j h _ _;simpa using SR.nil
   |cons v vs ih=>
    intro xs rf j h hx hok
    cases xs with
    |nil=>have:=h.len;simp at this
    |cons x xs=>
     obtain⟨f1,f2,rfl,h1,h2⟩:=h.cf
     have h3:=ih (j+1) h2 (fun k y hy=>by rw [show i+(j+1)+k=i+j+(k+1)from by omega];exact hx (k+1) y (by simpa using hy)) fun b hb=>hok b (by simp [hb])
     rw [yqlc,List.range_succ_eq_map,List.map_cons,List.map_map]
     refine SR.cons (.e (f:=f1) (by rw [haf.w,haf.ρ];have:=hx 0 x rfl;simp only [Nat.add_zero]at this ⊢;rw [this];exact h1) (fun b hb=>hok b (by simp [hb])) .nil) ?_
     have e:((fun q=>SV.e (.var (i+j+q)))∘Nat.succ)=fun q=>SV.e (.var (i+(j+1)+q)):=by
      funext q;simp only [Function.comp_apply];rw [show i+j+q.succ=i+(j+1)+q from by omega]
     rw [e];exact h3
  simpa using frees vs 0 hrd (by simpa using hx) hok
 |t::ts,i,ms,lo,ss,l,vs,xs,rf,lf,hs,h,ha,hx,hms,hvs=>by
  unfold zkL at h
  split at h
  ·rename_i s l1 ss' l2 h1 h2
   simp only [yqsi,Prod.mk.injEq]at h
   obtain⟨rfl,rfl⟩:=h
   obtain⟨v,vs,x,xs,f,hh,rf,lf,hs,rfl,rfl,rfl,rfl,hrest,harg⟩: ∃v vs' x xs' f hh rf' lf' hs',vs=v::vs'∧xs=x::xs'∧rf=f++rf'∧hs=hh++hs'∧zhy P w ts ms.tail lo.tail vs' xs' rf' lf' hs'∧(zI7 P w t (ms.headD .ro) v x f hh∨(lo.headD false=true∧ms.headD .ro= .ro∧f= []∧hh= [])):=by
    cases ha with
    |cons h1 h2=>exact⟨_,_,_,_,_,_,_,_,_,rfl,rfl,rfl,rfl,h2, .inl h1⟩
    |lent h1 h2 h3 h4=>exact⟨_,_,_,_, [], [],_,_,_,rfl,rfl,by simp,by simp,h4, .inr ⟨h1,h2,rfl,rfl⟩⟩
   have hm0:ms.headD .ro=(ms0[i]?).getD .ro:=by
    have:=hms 0
    rw [Nat.add_zero]at this
    rw [←this]
    cases ms<;>rfl
   have hv0:vs0[i]?=some v:=by have:=hvs 0;simpa using this.symm
   have hx0:(E.var i).den c.ρ=x:=by simpa using hx 0 x rfl
   obtain⟨r2,b1,b2,b3,b4,b4',b6,b7,b5⟩:=zuz ts (i+1) h2 hrest (fun k y hy=>by rw [show i+1+k=i+(k+1)from by omega];exact hx (k+1) y (by simpa using hy)) (fun k=>by rw [show i+1+k=i+(k+1)from by omega,←hms (k+1)];cases ms<;>simp) (fun k=>by rw [show i+1+k=i+(k+1)from by omega,←hvs (k+1)];simp)
   have fin: ∀(r1:List Chg),l1=r1.map Chg.pair→r1.flatMap Chg.top=hh→(∀r∈r1,1000*i≤r.tag∧r.tag<1000*i+1000∧r.new.isSome)→(r1.map Chg.tag).Nodup→(∀r∈r1,∀v,zod ms0 vs0 r.tag=some v→r.new=some v)→
     (∀c',Aft c c' w r1→(∀b∈f,c'.ok b)→(ms.headD .ro= .ro→c'.A.lo v x)→SR c' [s] [v]∧ ∀r∈r1,znH c' r.tag r.bq)→
     ∃recs:List Chg,l1++l2=recs.map Chg.pair∧recs.flatMap Chg.top=hh++hs∧(∀r∈recs,1000*i≤r.tag∧r.tag<1000*(i+(t::ts).length)∧r.new.isSome)∧(recs.map Chg.tag).Nodup∧(∀r∈recs,∀v,zod ms0 vs0 r.tag=some v→r.new=some v)∧(s::ss').length=(t::ts).length∧(t::ts).length≤(v::vs).length∧
      ∀c',Aft c c' w recs→(∀b∈f++rf,c'.ok b)→(∀(k:Nat) (v':Value) (x':AV),(ms[k]?).getD .ro= .ro→(v::vs)[k]?=some v'→(x::xs)[k]?=some x'→c'.A.lo v' x')→SR c' ((s::ss')++(List.range ((v::vs).length-(t::ts).length)).map fun j=>SV.e (.var (i+(t::ts).length+j))) (v::vs)∧ ∀r∈recs,znH c' r.tag r.bq:=by
    intro r1 a1 a2 a3 a4 a4' a5
    refine⟨r1++r2,by simp [a1,b1],by simp [a2,b2],fun r hr=> ?_, ?_,fun r hr=> ?_,by simp [b6],by simp [b7],fun c' haf hok hlo=> ?_⟩
    ·simp only [yqlc]
     rcases yqma.1 hr with hr|hr
     ·have:=a3 r hr;exact⟨this.1,by omega,this.2.2⟩
     ·have:=b3 r hr;exact⟨by omega,by omega,this.2.2⟩
    ·rw [List.map_append,List.nodup_append]
     refine⟨a4,b4,fun t1 ht1 t2 ht2 he=> ?_⟩
     obtain⟨q1,hq1,rfl⟩:=List.mem_map.1 ht1
     obtain⟨q2,hq2,rfl⟩:=List.mem_map.1 ht2
     have:=a3 q1 hq1
     have:=b3 q2 hq2
     omega
    ·rcases yqma.1 hr with hr|hr
     ·exact a4' r hr
     ·exact b4' r hr
    ·obtain⟨p1,p2⟩:=a5 c' (haf.mono fun r hr=>by simp [hr]) (fun b hb=>hok b (by simp [hb])) fun hl=>hlo 0 v x (by cases ms<;>exact hl) rfl rfl
     obtain⟨q1,q2⟩:=b5 c' (haf.mono fun r hr=>by simp [hr]) (fun b hb=>hok b (by simp [hb])) fun k v' x' k1 k2 k3=>hlo (k+1) v' x' (by cases ms with|nil=>rfl|cons b l=>simpa using k1) (by simpa using k2) (by simpa using k3)
     refine⟨?_,fun r hr=> ?_⟩
     ·have:=p1.cons q1
      have e:(fun j=>SV.e (.var (i+1+ts.length+j)))=fun j=>SV.e (.var (i+(t::ts).length+j)):=by
       funext j;simp only [yqlc];rw [show i+1+ts.length+j=i+(ts.length+1)+j from by omega]
      rw [e]at this
      simpa using this
     ·rcases yqma.1 hr with hr|hr
      ·exact p2 r hr
      ·exact q2 r hr
   have pinMu: ∀{own:List Bool} {r:Chg},ms.headD .ro= .mu own→1000*i+500≤r.tag→r.tag<1000*i+1000→r.new=v.cells[r.tag-(1000*i+500)]?→ ∀v',zod ms0 vs0 r.tag=some v'→r.new=some v':=by
    intro own r hm t1 t2 hn v' hp
    unfold zod at hp
    split at hp
    ·rw [show r.tag/1000=i from by omega,hv0,←hm0,hm]at hp
     simp only at hp
     split at hp
     ·rw [hn,show r.tag-(1000*i+500)=r.tag % 1000-500 from by omega];exact hp
     ·cases hp
    ·cases hp
   have pinVa: ∀{own:List Bool} {r:Chg},ms.headD .ro= .va own→1000*i≤r.tag→r.tag<1000*i+1000→ ∀v',zod ms0 vs0 r.tag=some v'→r.new=some v':=by
    intro own r hm t1 t2 v' hp
    unfold zod at hp
    split at hp
    ·rw [show r.tag/1000=i from by omega,hv0,←hm0,hm]at hp
     simp at hp
    ·cases hp
   cases hm:ms.headD .ro with
   |ro=>
    rw [hm]at h1 harg
    simp only [zzM,yqsi,Prod.mk.injEq]at h1
    obtain⟨rfl,rfl⟩:=h1
    have hhh:hh= []:=by rcases harg with⟨_,h⟩|⟨_,_,_,h⟩<;>exact h
    subst hhh
    by_cases hlo:lo.headD false=true
    ·exact fin [] rfl rfl (by simp) (by simp) (by simp) fun c' haf hok hl=>⟨by rw [if_pos hlo];exact .lent (by rw [haf.ρ,hx0];exact hl hm) .nil,by simp⟩
    ·rcases harg with⟨g1,_⟩|⟨h,_⟩
     ·exact fin [] rfl rfl (by simp) (by simp) (by simp) fun c' haf hok _=>⟨by rw [if_neg hlo];exact .e (f:=f) (by rw [haf.w,haf.ρ,hx0];exact g1) hok .nil,by simp⟩
     ·exact absurd h hlo
   |va own=>
    rw [hm]at h1 harg
    replace harg:=harg.resolve_right fun h=>by cases h.2.1
    obtain⟨r1,a1,a2,a3,a4,a4',a5⟩:=ztm (c:=c) (by omega) h1 harg hx0
    exact fin r1 a1 a2 (fun r hr=>by have:=a3 r hr;exact⟨by omega,this.2⟩) a4 (fun r hr=>by have:=a3 r hr;exact pinVa hm (by omega) this.2.1) fun c' haf hok _=>a5 c' haf hok
   |mu own=>
    rw [hm]at h1 harg
    replace harg:=harg.resolve_right fun h=>by cases h.2.1
    obtain⟨r1,a1,a2,a3,a4,a4',a5⟩:=ztm (c:=c) (by omega) h1 harg hx0
    exact fin r1 a1 a2 (fun r hr=>by have:=a3 r hr;exact⟨by omega,this.2⟩) a4 (fun r hr=>by have:=a3 r hr;exact pinMu hm this.1 this.2.1 (a4' r hr)) fun c' haf hok _=>a5 c' haf hok
   |bx own own'=>
    rw [hm]at h1 harg
    replace harg:=harg.resolve_right fun h=>by cases h.2.1
    obtain⟨ty,b,C,ys,h9,g1,rfl,g3,g4,rfl,g6,rfl⟩:=harg
    simp only [zzM,g1]at h1
    split at h1
    ·cases h1
    rename_i hle
    simp only [yqsi,Prod.mk.injEq]at h1
    obtain⟨rfl,rfl⟩:=h1
    obtain⟨recs,e1,e2,e3,e4,e4',e5⟩:=zeH (c:=c) (nx:=1000*i+1) (mk:=zhZ (.deref (.var i)) true) g6 0 (zmR (by simp only [E.den]at hx0 ⊢;rw [hx0];rfl))
    refine fin (⟨1000*i,some (.pointer (some ⟨b,0,none⟩)), [b], .box ty (zaX P ty) (zar P (1000*i+1) (zhZ (.deref (.var i)) true) 0 (zau P ty) own).1⟩::recs) (by simp [e1,Chg.pair]) (by simp [e2]) (fun r hr=> ?_) ?_ (fun r hr v' hp=> ?_) fun c' haf hok _=> ?_
    ·rcases yqmc.1 hr with rfl|hr
     ·simp
     ·have:=e3 r hr;exact⟨by omega,by omega,this.2.2⟩
    ·simp only [List.map_cons,List.nodup_cons]
     refine⟨fun hm=> ?_,e4⟩
     obtain⟨r,hr,hrt⟩:=List.mem_map.1 hm
     have:=e3 r hr
     omega
    ·rcases yqmc.1 hr with rfl|hr
     ·unfold zod at hp
      simp only at hp
      split at hp
      ·rw [show 1000*i/1000=i from by omega,hv0,←hm0,hm]at hp
       simp at hp
       simpa using hp
      ·cases hp
     ·have h3:=e3 r hr
      unfold zod at hp
      split at hp
      ·rw [show r.tag/1000=i from by omega,hv0,←hm0,hm]at hp
       simp only at hp
       split at hp
       ·omega
       ·cases hp
      ·cases hp
    ·obtain⟨q1,q2⟩:=e5 c' (haf.mono fun r hr=>by simp [hr]) hok
     obtain⟨k1,k2,k3⟩:=haf.new _ (List.mem_cons_self ..) _ rfl
     have kg:=haf.G _ (List.mem_cons_self ..)
     simp only at k1 k3 kg
     refine⟨.cj k1 k3 .nil,fun r hr=> ?_⟩
     rcases yqmc.1 hr with rfl|hr
     ·exact⟨b,C,k1,k3,by rw [kg],by rw [kg],by rw [haf.w];exact g3,g4,q1⟩
     ·exact q2 r hr
  ·cases h
end
section
variable {P:Program} {c:Cx} {n:Nat} {a:Act} {τ:St}
theorem zJu (h:Rel c n (zaR τ) (zas τ.hp) a):EH c (zas τ.hp):=fun t e hr=>h.ents t e hr
theorem zzh {hp:Nat→Option Ent} {t:Nat} {e:Ent} (h:hp t=some e) (hn: ∀hs f,e≠ .gd hs f):znP hp [] t=some e:=by
 simp only [znP,h,yqob,zvU]
 all_goals (cases e<;>first|rfl|exact absurd rfl (hn _ _))
theorem zr7 (h:Rel c n (zaR τ) (zas τ.hp) a) {u g:Nat} {e z:Nat} {x:E} {d:Bool} (hu:zas τ.hp u=some (.row e z g x d)):c.K u g∧ ∃N,zc2 c.w e z (c.H u g) (x.den c.ρ) (c.G u).top N∧(∀b∈N,c.ok b)∧(d=true→N= []):=by
 obtain⟨p1,p2,N,p3,p4,p5,_⟩:=h.ents u _ (by rw [hu];rfl)
 exact⟨p1,N,p3,p4,fun hd=>(p5 hd).1⟩
theorem zz2 {t e:TypeId} {d:Bool} {N:List Nat} (hd:d=true→N= []) (h:zdR P e=true∧d=true∨zdR P e=false∧(zqZ P t).isNone=true):zdR P e=true∧N= []∨zdR P e=false∧zqZ P t=none:=by
 rcases h with⟨h1,h2⟩|⟨h1,h2⟩
 ·exact .inl ⟨h1,hd h2⟩
 ·exact .inr ⟨h1,by simpa using h2⟩
theorem zlW (h:Rel c n (zaR τ) (zas τ.hp) a): ∀(ts:List TypeId) {fl:List Bool} {cs:List SV} {l:List Nat} {us:List Value} {xs:EL} {m:Nat},zoN P τ ts fl cs=some l→SR c cs us→zeA (zas τ.hp) [] m cs=some xs→m≤zad→
  ∃f,zb0 P c.w ts fl us (xs.den c.ρ) f (l.flatMap fun t=>(c.G t).top)∧ ∀b∈f,c.en (zr9 P τ ts fl cs) b
 | [],fl, [],l,us,xs,m,ho,hs,hx,hm=>by
  simp [zoN]at ho;subst ho
  cases hs
  cases m with
  |zero=>simp [zeA]at hx
  |succ m=>simp [zeA]at hx;subst hx;exact⟨[], .nil,by simp⟩
 | [],fl,s::cs,l,us,xs,m,ho,hs,hx,hm=>by simp [zoN]at ho
 |t::ts,fl, [],l,us,xs,m,ho,hs,hx,hm=>by simp [zoN]at ho
 |t::ts,fl,s::cs,l, [],xs,m,ho,hs,hx,hm=>by have:=hs.len;simp at this
 |t::ts,fl,s::cs,l,v::us,xs,m,ho,hs,hx,hm=>by
  obtain⟨j,y,ys,rfl,hy,hys,rfl⟩:=zfB hx
  obtain⟨r1,r2⟩:=hs.cf
  unfold zoN at ho
  split at ho
  ·cases ho
  rename_i l' hrec
  obtain⟨f,q1,q2⟩:=zlW h ts hrec r2 hys (by omega)
  split at ho
  ·rename_i e hf hel
   have hlent:zr9 P τ (t::ts) fl (s::cs)=zr9 P τ ts fl.tail cs:=by
    simp only [zr9,hf,hel,Option.isSome_some,Bool.and_self,if_true,List.nil_append]
   split at ho
   ·cases ho
   rename_i hz
   split at ho
   ·simp only [yqsi]at ho;subst ho
    cases r1 with
    |cd _=>
     refine⟨f, ?_,by rw [hlent];exact q2⟩
     rw [EL.den,zhT hy]
     exact zb0.void hf hel (by omega) q1
   ·rename_i u g
    split at ho
    ·rename_i e' z g' x d hu
     split at ho
     ·rename_i hh
      obtain⟨rfl,rfl,rfl,hfd⟩:=hh
      simp only [yqsi]at ho;subst ho
      obtain⟨p1,N,p2,p3,p4⟩:=zr7 h hu
      have hfd:=zz2 p4 hfd
      have hl:=zzh hu (by simp)
      have hyx:y=x:=by
       cases j with
       |zero=>simp [zgt]at hy
       |succ j=>simp [zgt,zeS,hl]at hy;exact hy.symm
      subst hyx
      have hv:c.H u g=v:=by
       cases r1 with
       |own _ k2 _=>exact k2
      rw [hv]at p2
      refine⟨N++f,zb0.own hf hel hfd p2 q1,fun b hb=> ?_⟩
      rw [hlent]
      rcases yqma.1 hb with hb|hb
      ·exact .inl (p3 b hb)
      ·exact q2 b hb
     ·cases ho
    ·rename_i e' z dl g' ep x hu
     split at ho
     ·rename_i hh
      obtain⟨rfl,hnf,hdt⟩:=hh
      have hdt:=znF hdt
      simp only [yqsi]at ho;subst ho
      obtain⟨p1,_,_,p2,_⟩:=h.ents u _ (by rw [hu];rfl)
      have hl:=zzh hu (by simp)
      have hyx:y=x:=by
       cases j with
       |zero=>simp [zgt]at hy
       |succ j=>simp [zgt,zeS,hl]at hy;exact hy.symm
      subst hyx
      have hv:c.H u g=v:=by
       cases r1 with
       |own _ k2 _=>exact k2
      rw [hv]at p2
      exact⟨f,zb0.deep hf hel hnf hdt p2 q1,by rw [hlent];exact q2⟩
     ·cases ho
    ·cases ho
   ·cases ho
  ·rename_i hno
   simp only [yqsi]at ho;subst ho
   have hn:fl.headD false=true→zfF P t=none:=fun hf=>by
    cases hel:zfF P t with
    |none=>rfl
    |some e=>exact absurd hel (hno e hf)
   obtain⟨f1,p1,p2⟩:=zhU (zJu h) (zcA _) j hy r1 zad (by omega)
   refine⟨f1++f,zb0.rd hn p1 q1,fun b hb=> ?_⟩
   have hlent:zr9 P τ (t::ts) fl (s::cs)=zcH (zas τ.hp) [] (zad+1) [s]++zr9 P τ ts fl.tail cs:=by
    have:(fl.headD false&&(zfF P t).isSome)=false:=by
     cases hf:fl.headD false with
     |false=>rfl
     |true=>rw [hn hf];rfl
    simp only [zr9,this,yqft,if_false]
   rw [hlent]
   rcases yqma.1 hb with hb|hb
   ·exact(p2 b hb).mono fun t ht=>by simp [ht]
   ·exact(q2 b hb).mono fun t ht=>by simp [ht]
theorem zy0 (h:Rel c n (zaR τ) (zas τ.hp) a) {t:TypeId} {fl:List Bool} {s:SV} {l:List Nat} {v:Value} {x:E} {m:Nat} (ho:zBG P τ t fl s=some l) (hs:SR c [s] [v]) (hx:zgt (zas τ.hp) [] m s=some x) (hm:m<zad):
  ∃f,ztn P c.w t fl v (x.den c.ρ) f (l.flatMap fun t=>(c.G t).top)∧ ∀b∈f,c.en (zGn P τ t fl s) b:=by
 unfold zBG at ho
 unfold ztn zGn
 split at ho
 ·rename_i hf
  simp only [hf,if_true]
  split at ho
  ·rename_i hag
   split at ho
   ·rename_i cs
    obtain⟨k,lx,rfl,hl,rfl⟩:=zo9 hx
    cases hs with
    |agg h9 h1 h8=>
     rename_i as_
     obtain⟨f,q1,q2⟩:=zlW (P:=P) h (zau P t) ho h1 hl (by omega)
     exact⟨f,⟨as_,lx.den c.ρ,by rw [if_pos hag];exact⟨rfl,rfl,h9⟩,q1⟩,by rw [if_pos hag];exact q2⟩
   ·cases ho
  ·rename_i hag
   have hl1:zeA (zas τ.hp) [] (m+1) [s]=some (.cons x .nil):=by
    cases m with
    |zero=>simp [zgt]at hx
    |succ m=>simp only [zeA,hx]
   obtain⟨f,q1,q2⟩:=zlW (P:=P) h (zau P t) ho hs hl1 (by omega)
   exact⟨f,⟨[v], [x.den c.ρ],by rw [if_neg hag];exact⟨rfl,rfl⟩,q1⟩,by rw [if_neg hag];exact q2⟩
 ·rename_i hf
  simp only [hf,if_false,yqft]
  simp only [yqsi]at ho;subst ho
  obtain⟨f,p1,p2⟩:=zhU (zJu h) (zcA _) m hx hs zad (by omega)
  exact⟨f,⟨p1,rfl⟩,p2⟩
theorem zqK (h:Rel c n (zaR τ) (zas τ.hp) a): ∀(ts:List TypeId) {fl:List Bool} {ss:List SV} {l:List Nat} {vs:List Value} {xs:EL} {m:Nat},zoa P τ ts fl ss=some l→SR c ss vs→zeA (zas τ.hp) [] m ss=some xs→m≤zad→
  ∃f,zq3 P c.w ts fl vs (xs.den c.ρ) f (l.flatMap fun t=>(c.G t).top)∧ ∀b∈f,c.en (zxA P τ ts fl ss) b
 | [],fl, [],l,vs,xs,m,ho,hs,hx,hm=>by
  simp [zoa]at ho;subst ho
  cases hs
  cases m with
  |zero=>simp [zeA]at hx
  |succ m=>simp [zeA]at hx;subst hx;exact⟨[], .nil,by simp⟩
 | [],fl,s::cs,l,us,xs,m,ho,hs,hx,hm=>by simp [zoa]at ho
 |t::ts,fl, [],l,us,xs,m,ho,hs,hx,hm=>by simp [zoa]at ho
 |t::ts,fl,s::cs,l, [],xs,m,ho,hs,hx,hm=>by have:=hs.len;simp at this
 |t::ts,fl,s::cs,l,v::us,xs,m,ho,hs,hx,hm=>by
  obtain⟨j,y,ys,rfl,hy,hys,rfl⟩:=zfB hx
  obtain⟨r1,r2⟩:=hs.cf
  unfold zoa at ho
  split at ho
  ·rename_i a1 b1 h1 h2
   simp only [yqsi]at ho;subst ho
   obtain⟨f1,p1,p2⟩:=zy0 (P:=P) h h1 r1 hy (by omega)
   obtain⟨f2,q1,q2⟩:=zqK h ts h2 r2 hys (by omega)
   refine⟨f1++f2,by rw [List.flatMap_append];exact .cons p1 q1,fun b hb=> ?_⟩
   simp only [zxA]
   rcases yqma.1 hb with hb|hb
   ·exact(p2 b hb).mono fun t ht=>by simp [ht]
   ·exact(q2 b hb).mono fun t ht=>by simp [ht]
  ·cases ho
end
section
variable {P:Program} {c:Cx} {n:Nat} {a:Act} {τ:St}
theorem zEN (h:Rel c n (zaR τ) (zas τ.hp) a) {t:TypeId} {b o:Nat} {ty:TypeId} {g:Bool} {cs:List SV} {s:SV} {v:Value} (hty:zog P t=true) (hl:zas τ.hp b=some (.box ty g cs)) (hs2:zy8 P t cs o=some s) (hr:SR c [.cj b o] [v]):
  ∃q u,v= .pointer (some ⟨q,o,none⟩)∧(loadVar t ⟨q,o,none⟩).run P c.w= .ok u c.w∧SR c [s] [u]:=by
 cases hr with
 |cj h1 h2 h8=>
  rename_i q
  obtain⟨q',C,_,e2,e3,e4,e5,e5',e6⟩:=h.ents b _ (by rw [hl];rfl)
  rw [h2]at e2;cases e2
  have key: ∀vs:List Value,(zaX P t=true→vs.length=P.cellsOf t)→(zaX P t=false→vs.length=1)→(∀j u,vs[j]?=some u→c.w.cell? ⟨q,o+j,none⟩=some u)→(loadVar t ⟨q,o,none⟩).run P c.w= .ok (if zaX P t then .agg vs.toArray else vs.headD undef) c.w:=fun vs k1 k2 k3=>by
   have:=zio (P:=P) (w:=c.w) (b:=q) (off:=o) hty vs k1 k2 k3
   simpa [Instr.loadAt,Instr.sureAddr]using this
  unfold zy8 at hs2
  have hlen:=e6.len
  split at hs2
  ·rename_i hag
   split at hs2
   ·rename_i hle
    simp at hs2;subst hs2
    obtain⟨r1,r2⟩:=e6.split o
    obtain⟨r3,r4⟩:=r2.split (P.cellsOf t)
    have:=SR.agg (cs:=SVL.of ((cs.drop o).take (P.cellsOf t))) (fun u hu=>e5' u (List.mem_of_mem_drop (List.mem_of_mem_take hu))) (by rw [SVL.a7];exact r3) .nil
    refine⟨q, .agg ((C.toList.drop o).take (P.cellsOf t)).toArray,rfl, ?_,this⟩
    rw [key ((C.toList.drop o).take (P.cellsOf t)) (fun _=>by simp at hlen ⊢;omega) (fun h=>by rw [hag]at h;cases h) (fun j u hu=>by
     rw [zay e5]
     rw [List.getElem?_take]at hu
     split at hu
     ·simpa using hu
     ·cases hu)]
    simp [hag]
   ·cases hs2
  ·rename_i hag
   have hag:zaX P t=false:=by simpa using hag
   obtain⟨u,hu,r⟩:=e6.get hs2
   refine⟨q,u,rfl, ?_,r⟩
   rw [key [u] (fun h=>by rw [hag]at h;cases h) (fun _=>rfl) (fun j z hz=>by
    cases j with
    |zero=>simp at hz;subst hz;rw [zay e5];simpa using hu
    |succ j=>simp at hz)]
   simp [hag]
theorem znY {α:Type} {g:α→Sem Value} {w:World}: ∀(l:List α) (us:List Value),l.length=us.length→(∀(i:Nat) (x:α) (u:Value),l[i]?=some x→us[i]?=some u→(g x).run P w= .ok u w)→(l.mapM g).run P w= .ok us w
 | [], [],_,_=>by simp
 | [],_::_,h,_=>by simp at h
 |_::_, [],h,_=>by simp at h
 |x::l,u::us,h,hg=>by
  have h0:=hg 0 x u rfl rfl
  have ih:=znY l us (by simpa using h) fun i y z hy hz=>hg (i+1) y z (by simpa using hy) (by simpa using hz)
  simp [List.mapM_cons,h0,ih]
theorem zxn (h:Rel c n (zaR τ) (zas τ.hp) a) (fn:Func) {rs:List SV} (hrs:fn.results.toList.mapM (znE P τ)=some rs):
  ∃us,SR c rs us∧rs.length=us.length∧(results fn a.tmps).run P c.w= .ok (match us with| [u]=>u|us=> .tuple us.toArray) c.w:=by
 have one: ∀(r:ResultVar) (s:SV),znE P τ r=some s→ ∃u,SR c [s] [u]∧(match r with| .tmp t=>(pure (a.tmps.getD t undef):Sem Value)| .cell b t=>do loadVar t (←asAddr (a.tmps.getD b undef))).run P c.w= .ok u c.w:=by
  intro r s hr
  cases r with
  |tmp t=>
   simp only [znE,yqsi]at hr;subst hr
   exact⟨_,h.c7 t,by simp⟩
  |cell b ty=>
   simp only [znE]at hr
   split at hr
   ·rename_i b' o hsl
    split at hr
    ·rename_i ty' g cs hl
     split at hr
     ·rename_i hty
      have hs:=h.c7 b
      rw [hsl]at hs
      obtain⟨q,u,hv,hrun,hsr⟩:=zEN h hty hl hr hs
      exact⟨u,hsr,by simp only [hv];simp [asAddr,hrun]⟩
     ·cases hr
    ·cases hr
   ·cases hr
 have list: ∀(l:List ResultVar) (rs:List SV),l.mapM (znE P τ)=some rs→ ∃us,SR c rs us∧l.length=us.length∧ ∀(i:Nat) (x:ResultVar) (u:Value),l[i]?=some x→us[i]?=some u→(match x with| .tmp t=>(pure (a.tmps.getD t undef):Sem Value)| .cell b t=>do loadVar t (←asAddr (a.tmps.getD b undef))).run P c.w= .ok u c.w:=by
  intro l
  induction l with
  |nil=>intro rs hrs;simp at hrs;subst hrs;exact⟨[], .nil,rfl,by simp⟩
  |cons r l ih=>
   intro rs hrs
   rw [List.mapM_cons]at hrs
   simp only [Option.bind_eq_bind,yqbe,Option.pure_def,yqsi]at hrs
   obtain⟨s,hs,rs',hrs',rfl⟩:=hrs
   obtain⟨u,h1,h2⟩:=one r s hs
   obtain⟨us,h3,h4,h5⟩:=ih rs' hrs'
   refine⟨u::us,h1.cons h3,by simp [h4],fun i x v hx hv=> ?_⟩
   cases i with
   |zero=>simp at hx hv;subst hx;subst hv;exact h2
   |succ i=>exact h5 i x v (by simpa using hx) (by simpa using hv)
 obtain⟨us,h1,h2,h3⟩:=list _ _ hrs
 refine⟨us,h1,h1.len, ?_⟩
 have hm:=znY (P:=P) (w:=c.w) fn.results.toList us h2 h3
 simp only [results,Array.mapM_eq_mapM_toList,map_eq_pure_bind,Sem.run_bind]
 erw [hm]
 simp only [Result.andThen_ok,Sem.run_pure]
 match us with
 | []=>simp
 | [u]=>simp
 |u::v::us=>simp
theorem zqu (h:Rel c n (zaR τ) (zas τ.hp) a) {w0:World} {v:Value} {ms:List PM} {vs:List Value} (hpin: ∀t,c.A.pin t=zod ms vs t) {i:Nat} (hi:i≤99) {own0:List Bool} (hv:vs[i]?=some v) (hm:(ms[i]?).getD .ro= .mu own0) {mk:Nat→E}: ∀(ts:List TypeId) (j:Nat) {fl:List Bool} {us:List Value} {ys:List AV} {rf hs:List Nat} {es:List E} {l:List Nat},
  zb0 P w0 ts fl us ys rf hs→j+ts.length≤400→(∀k u,us[k]?=some u→(∃e,(0+j+k,e)∈(zar P 0 (zhZ (.var 0) true) j ts fl).2)→v.cells[j+k]?=some u)→zCc P τ i mk j ts fl=some (es,l)→ ∃f o,MuC P c.w ts fl us (es.map (E.den c.ρ)) f o∧(o=l.flatMap fun t=>(c.G t).top)∧ ∀b∈f,c.ok b
 | [],j,fl,us,ys,rf,hs,es,l,hc,hle,hcell,he=>by
  simp [zCc]at he;obtain⟨rfl,rfl⟩:=he
  cases hc
  exact⟨[], [], .nil,rfl,by simp⟩
 |t::ts,j,fl,us,ys,rf,hs,es,l,hc,hle,hcell,he=>by
  unfold zCc at he
  split at he
  ·cases he
  rename_i xs us' hrec
  simp only [yqlc]at hle
  have sub: ∀{u:Value} {us1:List Value},us=u::us1→ ∀k z,us1[k]?=some z→(∃e,(0+(j+1)+k,e)∈(zar P 0 (zhZ (.var 0) true) (j+1) ts fl.tail).2)→v.cells[j+1+k]?=some z:=by
   rintro u us1 rfl k z hz ⟨e,he⟩
   have:=hcell (k+1) z (by simpa using hz) ⟨e,by
    simp only [zar]
    split
    ·rw [show 0+j+(k+1)=0+(j+1)+k from by omega];exact List.mem_cons_of_mem _ he
    ·rw [show 0+j+(k+1)=0+(j+1)+k from by omega];exact he⟩
   rw [show j+1+k=j+(k+1)from by omega];exact this
  have fin: ∀{u:Value} {us1:List Value} {ys1:List AV} {rf1 hs1:List Nat} {el:TypeId},us=u::us1→fl.headD false=true→zfF P t=some el→zb0 P w0 ts fl.tail us1 ys1 rf1 hs1→ ∃f o,MuC P c.w (t::ts) fl us (es.map (E.den c.ρ)) f o∧(o=l.flatMap fun t=>(c.G t).top)∧ ∀b∈f,c.ok b:=by
   rintro u us1 ys1 rf1 hs1 el rfl h1 h2 h4
   obtain⟨f0,o,q1,q2,q3⟩:=zqu h hpin hi hv hm ts (j+1) h4 (by omega) (sub rfl) hrec
   rw [h1,h2]at he
   simp only at he
   have hcv:v.cells[j]?=some u:=by
    have:=hcell 0 u rfl ⟨_,by simp only [zar,h1,h2,Nat.zero_add,Nat.add_zero];exact List.mem_cons_self ..⟩
    simpa using this
   have hpu:c.A.pin (1000*i+500+j)=some u:=by
    rw [hpin]
    unfold zod
    have e1:(1000*i+500+j)/1000=i:=by omega
    have e2:(1000*i+500+j) % 1000=500+j:=by omega
    rw [if_pos (by unfold zxJ;simp only [e2,yqba,decide_eq_true_eq,Bool.or_eq_true];omega),e1,e2,hv,hm]
    simp only
    rw [if_pos (by omega),show 500+j-500=j from by omega];exact hcv
   split at he
   ·rename_i e' z y' d hu
    split at he
    ·rename_i hh
     obtain⟨rfl,rfl,hfd⟩:=hh
     simp only [yqsi,Prod.mk.injEq]at he
     obtain⟨rfl,rfl⟩:=he
     obtain⟨p1,N,p2,p3,p4⟩:=zr7 h hu
     have hH:=(h.base.pins _ u hpu).2 p1
     rw [hH]at p2
     refine⟨_,_, .own h1 h2 (zz2 p4 hfd) p2 q1,by simp [q2],fun b hb=> ?_⟩
     rcases yqma.1 hb with hb|hb
     ·exact p3 b hb
     ·exact q3 b hb
    ·cases he
   ·rename_i e' z dl ep y' hu
    split at he
    ·rename_i hh
     obtain⟨hnf,hdt⟩:=hh
     have hdt:=znF hdt
     simp only [yqsi,Prod.mk.injEq]at he
     obtain⟨rfl,rfl⟩:=he
     obtain⟨p1,_,_,p2,_⟩:=h.ents _ _ (by rw [hu];rfl)
     have hH:=(h.base.pins _ u hpu).2 p1
     rw [hH]at p2
     refine⟨_,_, .deep h1 h2 hnf hdt p2 q1,by simp [q2],q3⟩
    ·cases he
   ·cases he
  cases hc with
  |own h1 h2 _ _ h4=>exact fin rfl h1 h2 h4
  |deep h1 h2 _ _ _ h4=>exact fin rfl h1 h2 h4
  | @rd _ _ _ u us1 y ys1 f rf1 hs1 h1 h3 h4=>
   obtain⟨f0,o,q1,q2,q3⟩:=zqu h hpin hi hv hm ts (j+1) h4 (by omega) (sub rfl) hrec
   split at he
   ·rename_i e hf hel;rw [h1 hf]at hel;cases hel
   ·simp only [yqsi,Prod.mk.injEq]at he
    obtain⟨rfl,rfl⟩:=he
    exact⟨f0,o, .skip h1 q1,q2,q3⟩
end
section
variable {P:Program} {c:Cx} {n:Nat} {a:Act} {τ:St}
theorem zqV (h:Rel c n (zaR τ) (zas τ.hp) a) {w0:World} {ms0:List PM} {vs0:List Value} (hpin: ∀t,c.A.pin t=zod ms0 vs0 t): ∀(ts:List TypeId) (i:Nat) {ms:List PM} {lo:List Bool} {vs:List Value} {xs:List AV} {rf lf hs:List Nat} {bx:List E} {us:List Nat},zsK P τ i ts ms=some (bx,us)→zhy P w0 ts ms lo vs xs rf lf hs→
  (∀k,ms[k]?=ms0[i+k]?)→(∀k,vs[k]?=vs0[i+k]?)→ ∃f o,zeU P c.w ts ms vs (bx.map (E.den c.ρ)) f o∧o=us.flatMap (fun t=>(c.G t).top)∧ ∀b∈f,c.en (zyG P τ i ts ms) b
 | [],i,ms,lo,vs,xs,rf,lf,hs,bx,us,he,ha,_,_=>by
  simp [zsK]at he;obtain⟨rfl,rfl⟩:=he
  exact⟨[], [], .nil,rfl,by simp⟩
 |t::ts,i,ms,lo,vs,xs,rf,lf,hs,bx,us,he,ha,hms,hvs=>by
  obtain⟨v,vs,x,xs,f,hh,rf,lf,hs,rfl,hrest,harg⟩: ∃v vs' x xs' f hh rf' lf' hs',vs=v::vs'∧zhy P w0 ts ms.tail lo.tail vs' xs' rf' lf' hs'∧(zI7 P w0 t (ms.headD .ro) v x f hh∨ms.headD .ro= .ro):=by
   cases ha with
   |cons h1 h2=>exact⟨_,_,_,_,_,_,_,_,_,rfl,h2, .inl h1⟩
   | @lent _ _ _ _ _ _ x _ _ _ _ _ h1 h2 h3 h4=>exact⟨_,_,x,_, [], [],_,_,_,rfl,h4, .inr h2⟩
  have hm0:ms.headD .ro=(ms0[i]?).getD .ro:=by
   have:=hms 0
   rw [Nat.add_zero]at this
   rw [←this]
   cases ms<;>rfl
  have hv0:vs0[i]?=some v:=by have:=hvs 0;simpa using this.symm
  unfold zsK at he
  split at he
  ·cases he
  rename_i bx' us' hrec
  obtain⟨f2,o2,b1,b2,b3⟩:=zqV h hpin ts (i+1) hrec hrest (fun k=>by rw [show i+1+k=i+(k+1)from by omega,←hms (k+1)];cases ms<;>simp) (fun k=>by rw [show i+1+k=i+(k+1)from by omega,←hvs (k+1)];simp)
  have see2: ∀b∈f2,c.en (zyG P τ i (t::ts) ms) b:=fun b hb=>(b3 b hb).mono fun t ht=>by simp only [zyG,yqma];exact .inr ht
  split at he
  ·cases he
  rename_i hi
  split at he
  ·rename_i hm
   simp only [yqsi,Prod.mk.injEq]at he
   obtain⟨rfl,rfl⟩:=he
   exact⟨f2,o2, .ro hm b1,b2,see2⟩
  ·rename_i own hm
   simp only [yqsi,Prod.mk.injEq]at he
   obtain⟨rfl,rfl⟩:=he
   exact⟨f2,o2, .va hm b1,b2,see2⟩
  ·rename_i own hm
   split at he
   ·cases he
   rename_i hle
   split at he
   ·rename_i es l hmu
    simp only [yqsi,Prod.mk.injEq]at he
    obtain⟨rfl,rfl⟩:=he
    rw [hm]at harg
    obtain⟨us0,ys0,hg,hc⟩:=harg.resolve_right fun h=>by cases h
    obtain⟨f1,o1,q1,q2,q3⟩:=zqu h hpin (i:=i) (by omega) hv0 (by rw [←hm0];exact hm) (zau P t) 0 hc (by omega) (fun k u hu he=>by
     rw [Nat.zero_add]
     split at hg
     ·obtain⟨rfl,_,_⟩:=hg
      simpa [Value.cells]using hu
     ·obtain⟨rfl,_⟩:=hg
      cases k with
      |zero=>
       simp at hu;subst hu
       rw [hc.jb (nx:=0) (mk:=zhZ (.var 0) true) (j:=0) 0 v rfl he];rfl
      |succ k=>simp at hu) hmu
    refine⟨f1++f2,o1++o2,zeU.mu (us:=us0) (ys:=es.map (E.den c.ρ)) hm ?_ q1 b1,by rw [q2,b2,List.flatMap_append],fun b hb=>(yqma.1 hb).elim (fun hb=> .inl (q3 b hb)) (see2 b)⟩
    split at hg
    ·rename_i hag
     rw [if_pos hag,if_pos hag]
     exact⟨hg.1,by simp only [E.den,EL.dj]⟩
    ·rename_i hag
     rw [if_neg hag,if_neg hag]
     obtain⟨rfl,_⟩:=hg
     refine⟨rfl, ?_⟩
     have mlen: ∀{ts:List TypeId} {fl:List Bool} {us:List Value} {ys:List AV} {f o:List Nat},MuC P c.w ts fl us ys f o→us.length=ys.length:=by
      intro ts fl us ys f o hmc
      induction hmc<;>simp_all
     have:=mlen q1
     match es,this with
     | [e],_=>rfl
   ·cases he
  ·rename_i own own' hm
   rw [hm]at harg
   obtain⟨ty,b,C0,ys0,h9,g1,rfl,g3,g4,rfl,g6,rfl⟩:=harg.resolve_right fun h=>by cases h
   split at he
   ·rename_i ty1 ty2 g cs hpt hbox
    rw [g1]at hpt;cases hpt
    split at he
    ·cases he
    rename_i hne
    have hne:ty2=ty:=by simpa using hne
    subst hne
    split at he
    ·rename_i es vs' hes hvs'
     simp only [yqsi,Prod.mk.injEq]at he
     obtain⟨rfl,rfl⟩:=he
     obtain⟨b',C,p1,p2,p3,p4,p5,p6,p7⟩:=h.ents _ _ (by rw [hbox];rfl)
     have hpu:c.A.pin (1000*i)=some (.pointer (some ⟨b,0,none⟩)):=by
      rw [hpin]
      unfold zod
      have e1:(1000*i)/1000=i:=by omega
      have e2:(1000*i) % 1000=0:=by omega
      rw [if_pos (by unfold zxJ;simp only [e2,yqba,decide_eq_true_eq,Bool.or_eq_true];simp;omega),e1,e2,hv0,←hm0,hm]
      rfl
     have hH:=(h.base.pins _ _ hpu).2 p1
     rw [p2]at hH
     cases hH
     obtain⟨f1,q1,q2⟩:=zlW (P:=P) h (zau P ty2) hvs' p7 hes (Nat.le_refl _)
     refine⟨f1++f2,_,zeU.bx hm g1 rfl p5 p6 (by simp only [E.den]) q1 b1,by rw [b2];simp [p3],fun x hx=> ?_⟩
     rcases yqma.1 hx with hx|hx
     ·refine(q2 x hx).mono fun t ht=> ?_
      simp only [zyG,hm,g1,hbox,yqma]
      exact .inl ht
     ·exact see2 x hx
    ·cases he
   ·cases he
end
theorem zoB {P:Program}: ∀(ts:List TypeId) (i:Nat) (ms:List PM) (lo:List Bool) (ss:List SV) (l:List (Nat × Ent)),zkL P i ts ms lo=some (ss,l)→ ∀t x,(t,x)∈l→ ∀gs f,x≠ .gd gs f
 | [],i,ms,lo,ss,l,h,t,x,hx=>by simp [zkL]at h;obtain⟨_,rfl⟩:=h;simp at hx
 |t0::ts,i,ms,lo,ss,l,h,t,x,hx=>by
  unfold zkL at h
  split at h
  ·rename_i s1 l1 ss1 l2 q1 q2
   simp only [yqsi,Prod.mk.injEq]at h
   obtain⟨_,rfl⟩:=h
   rcases yqma.1 hx with hx|hx
   ·have hV: ∀(b:Nat) (own:List Bool),zuC P i b t0 own=some (s1,l1)→ ∀gs f,x≠ .gd gs f:=by
     intro b own hh
     unfold zuC at hh
     simp only at hh
     split at hh
     ·cases hh
     ·split at hh
      ·simp only [yqsi,Prod.mk.injEq]at hh
       obtain⟨_,rfl⟩:=hh
       intro gs f;exact zfb _ _ _ _ _ hx
      ·split at hh
       ·simp only [yqsi,Prod.mk.injEq]at hh
        obtain⟨_,rfl⟩:=hh
        intro gs f;exact zfb _ _ _ _ _ hx
       ·cases hh
    unfold zzM at q1
    split at q1
    ·simp only [yqsi,Prod.mk.injEq]at q1;rw [←q1.2]at hx;simp at hx
    ·exact hV _ _ q1
    ·exact hV _ _ q1
    ·split at q1
     ·simp only at q1
      split at q1
      ·cases q1
      ·simp only [yqsi,Prod.mk.injEq]at q1
       obtain⟨_,rfl⟩:=q1
       rcases yqmc.1 hx with hx|hx
       ·cases hx;simp
       ·intro gs f;exact zfb _ _ _ _ _ hx
     ·cases q1
   ·exact zoB _ _ _ _ _ _ q2 t x hx
  ·cases h
theorem zES {P:Program} {sg:SgT} (hmx:P.follows .mixedOrders=true) (hsg: ∀f s,sg f=some s→f<1000000) {f:Nat} {s:Sig} {fn:Func} {t:Tr} {xs:List AV} {r:AV} (hfn:P.funcs[f]?=some fn) (hs:sg f=some s) (hname:(fn.name== "runtime.NumGoroutine")=false)
  (hcomp:zH1 P sg f=some t) (hflat:zmF P fn s r=true) (hlen:xs.length=fn.params.size+fn.nfree) (hd:t.den (Rts P sg) (fun r'=>r'=r) (fun _ _ _ _=>False) [] xs):Ret P s f xs r:=by
 unfold zH1 at hcomp
 simp only [hfn,hs]at hcomp
 split at hcomp
 ·rename_i code σ hbody hent
  split at hcomp
  ·rename_i t0 hex
   have hft:s.ft.length≤fn.nfree:=by
    have hent:=hent
    unfold zyT at hent
    split at hent
    ·cases hent
    ·simp only at hent
     split at hent
     ·cases hent
     ·rename_i hcond
      simp only [Bool.or_eq_true,decide_eq_true_eq,not_or,Nat.not_lt]at hcond
      exact hcond.2
   refine⟨fn,hfn,by rw [hbody];rfl,hname,hflat,hlen,hft,fun w vs rf lf hs' hargs hdis hdis2 hnod hpk=> ?_⟩
   unfold zyT at hent
   split at hent
   ·cases hent
   rename_i ss l hall
   simp only at hent
   split at hent
   ·cases hent
   rename_i hcond
   simp only [Bool.or_eq_true,decide_eq_true_eq,not_or,Nat.not_lt]at hcond
   simp only [yqsi]at hent;subst hent
   let pin:Nat→Option Value:=zod s.cq vs
   let LO:Value→AV→Prop:=fun v y=> ∃f,Rd w [v] [y] f∧ ∀b∈f,¬b∈hs'
   let c0:Cx:={ρ:=xs,w:=w,G:=fun _=>⟨[], []⟩,K:=fun _ _=>False,H:=fun _ _=>undef,A:=⟨fun b=>b∈rf,pin,LO⟩,w0:=w,Mu:=fun b=>b∈hs',U:=fun _=>False,E:=fun _=>0}
   have hvl:vs.length=xs.length:=by
    have: ∀{ts:List TypeId} {ms:List PM} {lo:List Bool} {vs:List Value} {xs:List AV} {rf lf hs:List Nat},zhy P w ts ms lo vs xs rf lf hs→vs.length=xs.length:=by
     intro ts ms lo vs xs rf lf hs h
     induction h<;>simp_all
    exact this hargs
   obtain⟨recs,e1,e2,e3,e4,e5,e6,e7,e8⟩:=zuz (c:=c0) (ms0:=s.cq) (vs0:=vs) (fn.params.toList++s.ft) 0 hall hargs (fun k x hx=>by simp only [E.den,Nat.zero_add];show(xs[k]?).getD .undef=x;rw [hx];rfl) (fun k=>by simp) (fun k=>by simp)
   have aft:=Cx.dt (c:=c0) (w':=w) (recs:=recs) (fun t g hk=>hk.elim) e4 (fun r _ _ h=>h)
   have hU5: ∀r∈recs,r.tag<100000:=fun r hr=>by
    have:=e3 r hr
    simp only [Nat.zero_add,yqla,Array.length_toList]at this
    omega
   let c:Cx:={c0.dr w recs with U:=fun t=>t<100000}
   have hc_ok: ∀b∈rf,(c0.dr w recs).ok b:=by
    intro b hb
    refine⟨fun⟨t,ht⟩=> ?_, .inl hb⟩
    by_cases hT: ∃r∈recs,r.tag=t
    ·obtain⟨r,hr,rfl⟩:=hT
     rw [Cx.dv e4 hr]at ht
     exact hdis b (by rw [←e2];exact List.mem_flatMap.2 ⟨r,hr,ht⟩) hb
    ·rw [Cx.de fun r hr hh=>hT ⟨r,hr,hh⟩]at ht
     simp [c0]at ht
   have hlo: ∀(k:Nat) (v:Value) (x:AV),(s.cq[k]?).getD .ro= .ro→vs[k]?=some v→xs[k]?=some x→LO v x:=by
    have key: ∀{ts:List TypeId} {ms:List PM} {lo:List Bool} {vs:List Value} {xs:List AV} {rf lf hs:List Nat},zhy P w ts ms lo vs xs rf lf hs→ ∀(k:Nat) (v:Value) (x:AV),(ms[k]?).getD .ro= .ro→vs[k]?=some v→xs[k]?=some x→ ∃f,Rd w [v] [x] f∧ ∀b∈f,b∈rf∨b∈lf:=by
     intro ts ms lo vs xs rf lf hs h
     induction h with
     |nil=>intro k v x _ h _;simp at h
     | @cons t ts ms lo v vs x xs f h rf lf hs harg _ ih=>
      intro k v' x' h1 h2 h3
      cases k with
      |zero=>
       have hm:ms.headD .ro= .ro:=by cases ms<;>exact h1
       rw [hm]at harg
       simp at h2 h3;subst h2;subst h3
       exact⟨f,harg.1,fun b hb=> .inl (by simp [hb])⟩
      |succ k=>
       obtain⟨f',q1,q2⟩:=ih k v' x' (by cases ms with|nil=>rfl|cons _ _=>simpa using h1) (by simpa using h2) (by simpa using h3)
       exact⟨f',q1,fun b hb=>(q2 b hb).imp (fun h=>by simp [h]) id⟩
     | @lent t ts ms lo v vs x xs f rf lf hs _ _ hr _ ih=>
      intro k v' x' h1 h2 h3
      cases k with
      |zero=>simp at h2 h3;subst h2;subst h3;exact⟨f,hr,fun b hb=> .inr (by simp [hb])⟩
      |succ k=>
       obtain⟨f',q1,q2⟩:=ih k v' x' (by cases ms with|nil=>rfl|cons _ _=>simpa using h1) (by simpa using h2) (by simpa using h3)
       exact⟨f',q1,fun b hb=>(q2 b hb).imp id (fun h=>by simp [h])⟩
     | @free ms lo v vs x xs f rf lf hs hr _ ih=>
      intro k v' x' h1 h2 h3
      cases k with
      |zero=>simp at h2 h3;subst h2;subst h3;exact⟨f,hr,fun b hb=> .inl (by simp [hb])⟩
      |succ k=>
       obtain⟨f',q1,q2⟩:=ih k v' x' (by cases ms with|nil=>rfl|cons _ _=>simpa using h1) (by simpa using h2) (by simpa using h3)
       exact⟨f',q1,fun b hb=>(q2 b hb).imp (fun h=>by simp [h]) id⟩
    intro k v x h1 h2 h3
    obtain⟨f,q1,q2⟩:=key hargs k v x h1 h2 h3
    exact⟨f,q1,fun b hb hh=>(q2 b hb).elim (hdis b hh) (hdis2 b hh)⟩
   obtain⟨g1,g2⟩:=e8 _ aft hc_ok hlo
   have kc:zpB (c0.dr w recs) c:=⟨rfl,rfl,fun _ _ hb=>hb,fun _ _ _=>rfl,fun _ _ hk=>⟨hk,rfl⟩,fun _ _ _=>⟨Nat.le_refl _,fun _=>⟨rfl,fun _ _ _=>rfl⟩⟩⟩
   have hfr:fn.params.size+fn.nfree=vs.length:=by rw [hvl,hlen]
   have hss:(ss++(List.range (fn.nfree-s.ft.length)).map fun j=>SV.e (.var (fn.params.size+s.ft.length+j))).length=vs.length:=by
    rw [yqla,e6,List.length_map,List.length_range,yqla,Array.length_toList];omega
   have g1':SR c (ss++(List.range (fn.nfree-s.ft.length)).map fun j=>SV.e (.var (fn.params.size+s.ft.length+j))) vs:=by
    have:=g1.keep kc
    have hpl:(fn.params.toList++s.ft).length=fn.params.size+s.ft.length:=by rw [yqla,Array.length_toList]
    rw [show vs.length-(fn.params.toList++s.ft).length=fn.nfree-s.ft.length from by omega]at this
    simpa using this
   have hG: ∀t,(∃r∈recs,r.tag=t∧c.G t=⟨r.top, []⟩)∨c.G t=⟨[], []⟩:=fun t=>by
    by_cases hT: ∃r∈recs,r.tag=t
    ·obtain⟨r,hr,rfl⟩:=hT
     exact .inl ⟨r,hr,rfl,Cx.dv (w':=w) e4 hr⟩
    ·exact .inr (Cx.de (w':=w) fun r hr hh=>hT ⟨r,hr,hh⟩)
   have hhs: ∀r∈recs,∀b∈r.top,b∈hs':=fun r hr b hb=>by rw [←e2];exact List.mem_flatMap.2 ⟨r,hr,hb⟩
   have hinb: ∀b∈hs',b<w.heap.size:=by
    have: ∀{ts:List TypeId} {ms:List PM} {lo:List Bool} {vs:List Value} {xs:List AV} {rf lf hs:List Nat},zhy P w ts ms lo vs xs rf lf hs→ ∀b∈hs,b<w.heap.size:=by
     intro ts ms lo vs xs rf lf hs h
     induction h with
     |nil=>simp
     |lent _ _ _ _ ih=>exact ih
     | @cons t ts ms lo v vs x xs f h rf lf hs harg _ ih=>
      intro b hb
      rcases yqma.1 hb with hb|hb
      ·cases hm:ms.headD .ro with
       |ro=>rw [hm]at harg;rw [harg.2]at hb;simp at hb
       |va own=>rw [hm]at harg;obtain⟨_,_,_,hc⟩:=harg;exact hc.inb.2 b hb
       |mu own=>rw [hm]at harg;obtain⟨_,_,_,hc⟩:=harg;exact hc.inb.2 b hb
       |bx own own'=>
        rw [hm]at harg
        obtain⟨_,b0,_,_,_,_,_,hh,_,_,hc,rfl⟩:=harg
        rcases yqmc.1 hb with rfl|hb
        ·exact zbH hh
        ·exact hc.inb.2 b hb
      ·exact ih b hb
     |free _ _ ih=>exact ih
    exact this hargs
   have hrecs: ∀t e,zas l t=some e→ ∃r∈recs,r.tag=t∧r.bq=e:=fun t e he=>by
    have:=zfj he
    rw [e1]at this
    obtain⟨r,hr,hre⟩:=List.mem_map.1 this
    simp only [Chg.pair,Prod.mk.injEq]at hre
    exact⟨r,hr,hre.1,hre.2⟩
   let F:Fix:=⟨w,⟨fun b=>b∈rf,pin,LO⟩,fun b=>b∈hs',fun t v h=>by
    simp only [pin,zod]at h
    split at h
    ·assumption
    ·cases h⟩
   have hrel:Rel c fn.ntmps (zaR {sl:=ss++(List.range (fn.nfree-s.ft.length)).map (fun j=>SV.e (.var (fn.params.size+s.ft.length+j)))++List.replicate (fn.ntmps-(fn.params.size+fn.nfree)) .undef,hp:=l,nx:=100000,nv:=fn.params.size+fn.nfree}) (zas l) {tmps:=vs.toArray++Array.replicate (fn.ntmps-vs.toArray.size) undef,defers:= []}:=by
    refine⟨rfl,by simp;omega,⟨rfl,rfl,rfl,Nat.le_refl _,fun t v hp=>⟨?_,fun hk=> ?_⟩,fun b _ _=>rfl,hpk,fun v y h=>h⟩,fun i=> ?_,fun t e hr=> ?_,fun t hn=> ?_,⟨fun t=> ?_,fun t u htu b hb hb'=> ?_,fun t b hb=> ?_,fun t b hb=> ?_⟩,fun t g hk=> ?_,fun t e he=> ?_⟩
    ·have:=F.mz t v hp
     unfold zxJ at this
     simp only [yqba,decide_eq_true_eq]at this
     exact this.1
    ·rcases hk with hk|⟨r,hr,rfl,hnew,_⟩
     ·exact hk.elim
     ·exact(aft.new r hr v (e5 r hr v hp)).2.2
    ·have hcat:SR c (ss++(List.range (fn.nfree-s.ft.length)).map (fun j=>SV.e (.var (fn.params.size+s.ft.length+j)))++List.replicate (fn.ntmps-(fn.params.size+fn.nfree)) .undef) (vs++List.replicate (fn.ntmps-(fn.params.size+fn.nfree)) undef):=by
      refine g1'.app ?_
      have: ∀k,SR c (List.replicate k SV.undef) (List.replicate k undef):=by
       intro k
       induction k with
       |zero=>exact .nil
       |succ k ih=>exact .undef ih
      exact this _
     unfold zaR
     simp only
     cases hq:(ss++(List.range (fn.nfree-s.ft.length)).map (fun j=>SV.e (.var (fn.params.size+s.ft.length+j)))++List.replicate (fn.ntmps-(fn.params.size+fn.nfree)) SV.undef)[i]? with
     |none=>exact .undef .nil
     |some s'=>
      obtain⟨v',hv',hsr⟩:=hcat.get hq
      have:(vs.toArray++Array.replicate (fn.ntmps-vs.toArray.size) undef).getD i undef=v':=by
       rw [Array.getD_eq_getD_getElem?]
       have e:(vs.toArray++Array.replicate (fn.ntmps-vs.toArray.size) undef)[i]?=(vs++List.replicate (fn.ntmps-(fn.params.size+fn.nfree)) undef)[i]?:=by
        rw [←Array.getElem?_toList]
        simp [hfr]
       rw [e,hv'];rfl
      rw [this];exact hsr
    ·cases hh:zas l t with
     |none=>rw [hh]at hr;exact hr.elim
     |some e0=>
      obtain⟨r,hr',rfl,rfl⟩:=hrecs t e0 hh
      have hent:=(g2 r hr').keep kc rfl rfl (fun g hg=>hg) (fun b _=>rfl)
      rw [hh]at hr
      cases he:r.bq with
      |gd gs e'=>
       rw [he]at hent hr
       obtain⟨_,rfl⟩:=hr
       have hnew:=(e3 r hr').2.2
       exfalso
       exact zoB _ _ _ _ _ _ hall r.tag r.bq (by rw [e1];exact List.mem_map.2 ⟨r,hr',rfl⟩) _ _ he
      |_=>rw [he]at hent hr;simp only [Res]at hr;subst hr;exact hent
    ·rcases hG t with⟨r,hr,rfl,hg⟩|hg
     ·exfalso
      have hmem:(r.tag,r.bq)∈l:=by rw [e1];exact List.mem_map.2 ⟨r,hr,rfl⟩
      have: ∃e,zas l r.tag=some e:=by
       have: ∀(l:List (Nat × Ent)),(r.tag,r.bq)∈l→ ∃e,zas l r.tag=some e:=by
        intro l
        induction l with
        |nil=>intro h;simp at h
        |cons p l ih=>
         obtain⟨u,f'⟩:=p
         intro h
         simp only [zas]
         split
         ·exact⟨_,rfl⟩
         ·rename_i hu
          rcases yqmc.1 h with h|h
          ·cases h;exact absurd rfl hu
          ·exact ih h
       exact this l hmem
      obtain⟨e,he⟩:=this
      obtain⟨r',hr',ht',rfl⟩:=hrecs _ _ he
      have hgd: ∀gs f',r'.bq≠ .gd gs f':=by
       intro gs f' hg'
       exact zoB _ _ _ _ _ _ hall r'.tag r'.bq (by rw [e1];exact List.mem_map.2 ⟨r',hr',rfl⟩) _ _ hg'
      apply hn r'.bq
      rw [he]
      cases hr'':r'.bq with
      |gd gs f'=>exact absurd hr'' (hgd gs f')
      |_=>simp [Res]
     ·rw [hg];simp
    ·rcases hG t with⟨r,hr,rfl,hg⟩|hg
     ·rw [hg]
      rw [←e2]at hnod
      simpa [GI.own]using(zlI hnod).1 r hr
     ·rw [hg];simp [GI.own]
    ·rcases hG t with⟨r,hr,rfl,hg⟩|hg
     ·rcases hG u with⟨q,hq,rfl,hg'⟩|hg'
      ·rw [hg]at hb
       rw [hg']at hb'
       simp only [GI.own,List.append_nil]at hb hb'
       rw [←e2]at hnod
       obtain⟨i,hi⟩:=List.getElem?_of_mem hr
       obtain⟨j,hj⟩:=List.getElem?_of_mem hq
       have:=(zlI hnod).2 i j r q b hi hj hb hb'
       subst this
       rw [hi]at hj;cases hj;exact htu rfl
      ·rw [hg']at hb';simp [GI.own]at hb'
     ·rw [hg]at hb;simp [GI.own]at hb
    ·rcases hG t with⟨r,hr,rfl,hg⟩|hg
     ·rw [hg]at hb
      simp only [GI.own,List.append_nil]at hb
      exact .inr (hhs r hr b hb)
     ·rw [hg]at hb;simp [GI.own]at hb
    ·rcases hG t with⟨r,hr,rfl,hg⟩|hg
     ·rw [hg]at hb
      simp only [GI.own,List.append_nil]at hb
      exact hinb b (hhs r hr b hb)
     ·rw [hg]at hb;simp [GI.own]at hb
    ·rcases hk with hk|⟨r,hr,rfl,_⟩
     ·exact hk.elim
     ·exact hU5 r hr
    ·obtain⟨r,hr,rfl,_⟩:=hrecs t e he
     exact hU5 r hr
   have hRelS:zyl F xs {sl:=ss++(List.range (fn.nfree-s.ft.length)).map (fun j=>SV.e (.var (fn.params.size+s.ft.length+j)))++List.replicate (fn.ntmps-(fn.params.size+fn.nfree)) .undef,hp:=l,nx:=100000,nv:=fn.params.size+fn.nfree} {tmps:=vs.toArray++Array.replicate (fn.ntmps-vs.toArray.size) undef,defers:= []} w:=by
    refine⟨c,rfl,rfl,rfl,rfl,rfl,hlen,fun t ht=>ht, ?_⟩
    have hl:(ss++(List.range (fn.nfree-s.ft.length)).map (fun j=>SV.e (.var (fn.params.size+s.ft.length+j)))++List.replicate (fn.ntmps-(fn.params.size+fn.nfree)) SV.undef).length=fn.ntmps:=by
     rw [yqla,hss,List.length_replicate];omega
    show Rel c (ss++(List.range (fn.nfree-s.ft.length)).map (fun j=>SV.e (.var (fn.params.size+s.ft.length+j)))++List.replicate (fn.ntmps-(fn.params.size+fn.nfree)) SV.undef).length _ _ _
    rw [hl];exact hrel
   refine calls_of_wp hfn hbody ?_
   have hL0:zsy (fun _ _ _ _=>False):=fun _ _ _ _ _ _ h=>h
   have hd0:=Tr.ew _ hL0 t0 hcomp hd
   refine zA1 (zDN hmx (zI5 (sg:={sg with dp:=s.dp,wn:=s.wn,fz:=s.fz}) hsg) zH5) zEl code [] _ _ t0 hex F (fun r'=>r'=r) _ [] xs _ w (zmO hL0 _ _) hd0 hRelS _ fun i x τ ρ' a' w' hp hl hrel'=> ?_
   obtain⟨tr,d',q1,q2,q3⟩:=hl
   have main:zEw P fn s τ=some tr→a'.defers= []∧ ∃v,(results fn a'.tmps).run P w'= .ok v w'∧ ∃v',Ending.returned v= .returned v'∧zJv P fn s w vs rf hs' r v' w':=by
    intro hend
    obtain⟨c2,rfl,rfl,k1,k2,k3,k4,k5,k6⟩:=hrel'
    unfold zEw at hend
    split at hend
    ·rename_i rs bx us hrs hbk
     split at hend
     ·rename_i es vs' hes hov
      split at hend
      ·cases hend
      rename_i hchk
      simp only [Bool.or_eq_true,Bool.not_eq_true',not_or,Bool.not_eq_false,Bool.not_eq_true]at hchk
      obtain⟨hnd,hap⟩:=hchk
      have hnd:=zls hnd
      simp only [yqsi]at hend;subst hend
      have hr:_=r:=q3
      obtain⟨rvs,z1,z2,z3⟩:=zxn k6 fn hrs
      obtain⟨f1,y1,y2⟩:=zqK (P:=P) k6 fn.resultTypes.toList hov z1 hes (Nat.le_refl _)
      obtain⟨f2,o2,x1,x2,x3⟩:=zqV (P:=P) k6 (w0:=w) (ms0:=s.cq) (vs0:=vs) (fun t=>by rw [k2]) (fn.params.toList++s.ft) 0 hbk hargs (fun k=>by simp) (fun k=>by simp)
      refine⟨k6.defers,_,z3,_,rfl,⟨?_, ?_⟩⟩
      ·
       have hR: ∃R,R=(match es with| .cons x .nil=>x|es=>E.tup es).den c2.ρ∧zDW P c2.w fn.resultTypes.toList s.res (match rvs with| [u]=>u|us=> .tuple us.toArray) R f1 (vs'.flatMap fun t=>(c2.G t).top):=by
        refine⟨_,rfl, ?_⟩
        have yl:es.den c2.ρ=es.den c2.ρ:=rfl
        generalize hts:fn.resultTypes.toList=ts at y1 ⊢
        generalize hxs:es.den c2.ρ=ys at y1
        generalize (vs'.flatMap fun t=>(c2.G t).top)=o1 at y1 ⊢
        cases y1 with
        |nil=>
         cases es with
         |nil=>exact⟨[], [],rfl,by simp [E.den,EL.den], .nil⟩
         |cons e es=>simp [EL.den]at hxs
        | @cons t ts fl v vs2 x xs2 f h rf2 hs2 w1 w2=>
         cases w2 with
         |nil=>
          cases es with
          |nil=>simp [EL.den]at hxs
          |cons e es=>
           cases es with
           |nil=>
            simp only [EL.den,List.cons.injEq,and_true]at hxs
            subst hxs
            simpa [zDW]using w1
           |cons e2 es=>simp [EL.den]at hxs
         | @cons t2 ts2 fl2 v2 vs3 x2 xs3 f2' h2 rf3 hs3 w3 w4=>
          cases es with
          |nil=>simp [EL.den]at hxs
          |cons e es=>
           cases es with
           |nil=>simp [EL.den]at hxs
           |cons e2 es=>
            refine⟨v::v2::vs3,x::x2::xs3,rfl, ?_, .cons w1 (.cons w3 w4)⟩
            simp only [E.den,hxs]
       obtain⟨R,hR1,hR2⟩:=hR
       have hown: ∀b∈(vs'.flatMap fun t=>(c2.G t).top)++o2,∃t∈vs'++us,b∈(c2.G t).top:=fun b hb=>by
        rcases yqma.1 hb with hb|hb
        ·obtain⟨t,ht,hbt⟩:=List.mem_flatMap.1 hb;exact⟨t,by simp [ht],hbt⟩
        ·rw [x2]at hb
         obtain⟨t,ht,hbt⟩:=List.mem_flatMap.1 hb;exact⟨t,by simp [ht],hbt⟩
       have hallow: ∀b t,b∈(c2.G t).top→b∈hs'∨w.heap.size≤b:=fun b t hb=>by
        rcases k6.gw.allow t b (by simp [GI.own,hb])with h|h
        ·simp only [Cx.B,k1]at h;exact .inr h
        ·rw [k3]at h;exact .inl h
       refine⟨R,bx.map (E.den c2.ρ),f1,_,f2,o2, ?_,hR2,x1, ?_,fun b hb=> ?_,fun b hb=> ?_⟩
       ·rw [←hr,hR1]
        cases bx with
        |nil=>rfl
        |cons b bx=>
         simp only [List.isEmpty_cons,yqft,if_false,E.den,EL.dj,List.map_cons]
         rfl
       ·rw [x2,←List.flatMap_append]
        have: ∀l:List Nat,l.Nodup→(l.flatMap fun t=>(c2.G t).top).Nodup:=by
         intro l
         induction l with
         |nil=>intro _;simp
         |cons t l ih=>
          intro hl
          rw [List.nodup_cons]at hl
          rw [List.flatMap_cons,List.nodup_append]
          refine⟨(List.nodup_append.1 (k6.gw.nodup t)).1,ih hl.2,fun x hx y hy hxy=> ?_⟩
          subst hxy
          obtain⟨u,hu,hxu⟩:=List.mem_flatMap.1 hy
          exact k6.gw.cr t u (fun hh=>hl.1 (hh▸hu)) x (by simp [GI.own,hx]) (by simp [GI.own,hxu])
        exact this _ hnd
       ·obtain⟨t,ht,hbt⟩:=hown b hb
        exact⟨hallow b t hbt,k6.gw.inb t b (by simp [GI.own,hbt])⟩
       ·have hsee:c2.en (zxA P τ fn.resultTypes.toList s.res rs++zyG P τ 0 (fn.params.toList++s.ft) s.cq) b:=by
         rcases yqma.1 hb with hb|hb
         ·exact(y2 b hb).mono fun t ht=>by simp [ht]
         ·exact(x3 b hb).mono fun t ht=>by simp [ht]
        rcases hsee with hok|⟨t,ht,hbt⟩
        ·refine⟨fun ho=> ?_, ?_⟩
         ·obtain⟨u,_,hbu⟩:=hown b ho
          exact hok.1 ⟨u,hbu⟩
         ·rcases hok.2 with h|h|h
          ·rw [k2]at h;exact .inl h
          ·simp only [Cx.B,k1]at h;exact .inr (.inr h)
          ·rw [k3]at h;exact .inr (.inl h)
        ·refine⟨fun ho=> ?_, .inr (hallow b t hbt)⟩
         obtain⟨u,hu,hbu⟩:=hown b ho
         have htu:t≠u:=by
          rintro rfl
          rw [List.any_eq_false]at hap
          have:=hap t ht
          simp only [List.contains_eq_mem,decide_eq_true_eq]at this
          exact this hu
         exact k6.gw.cr t u htu b (by simp [GI.own,hbt]) (by simp [GI.own,hbu])
      ·have hb:=k6.base
       refine⟨?_, ?_, ?_, ?_,fun k hk hn=> ?_⟩
       ·rw [hb.os,k1]
       ·rw [hb.tape,k1]
       ·rw [hb.output,k1]
       ·have:=hb.size;rw [k1]at this;exact this
       ·have:=hb.block k (by rw [k1];exact hk) (by rw [k3];exact hn)
        rw [k1]at this;exact this
     ·cases hend
    ·cases hend
   cases x with
   |normal=>exact main q1
   |ret=>exact main q1
   |exit id=>cases q1
  ·cases hcomp
 ·cases hcomp
end Go.Proofs.YtgobcjbjogkpjaaGreatDoor
end

/- Parts of a proof, joined: WT, WU, WV, WW. -/
import Derived.Test.YtbmbkgalkfmjdaaGreatDoorJ5
set_option linter.unusedVariables false
set_option linter.unusedSimpArgs false
section
namespace Go.Proofs.YtbmbkgalkfmjdaaGreatDoor
open Go.RowKit
def HN (ms:List PM) (vs:List Value) (t:Nat):Option Value:=
 if Oh t then(match vs[t/1000]?,(ms[t/1000]?).getD .ro with
  |some v, .bx .. =>if t % 1000=0 then some v else none
  |some v, .mu _=>if 500≤t % 1000 then v.cells[t % 1000-500]? else none
  |_,_=>none)
 else none
section
variable {P:Program} {c:Cx} {w:World}
theorem CA.jz {ts:List TypeId} {fl:List Bool} {us:List Value} {ys:List AV} {rf hs:List Nat} (h:CA P w ts fl us ys rf hs) {nx:Nat} {mk:Nat→E} {j:Nat}: ∀(k:Nat) (u:Value),us[k]?=some u→(∃e,(nx+j+k,e)∈(CW P nx mk j ts fl).2)→u.cells= #[u]:=by
 induction h generalizing j with
 |nil=>intro k u hu _;simp at hu
 | @deep t ts fl el e9 z9 l9 u us y ys top rf hs h1 h2 TA Qw h3 _ ih=>
  intro k u' hu he;cases k with
  |zero=>simp at hu;subst hu;obtain⟨p,q,r,rfl⟩:=h3.head;rfl
  |succ k=>
   refine ih (j:=j+1) k u' (by simpa using hu) ?_;obtain⟨e,he⟩:=he;simp only [CW,h1,h2,Ag,Prod.mk.injEq]at he;rcases he with⟨he,_⟩|he
   ·omega
   ·exact⟨e,by rw [show nx+(j+1)+k=nx+j+(k+1)from by omega];exact he⟩
 | @own t ts fl el u us y ys top N rf hs h1 h2 TB h3 _ ih=>
  intro k u' hu he;cases k with
  |zero=>simp at hu;subst hu;obtain⟨xs,_,_,_,⟨_,⟨a,rfl⟩,_⟩|⟨g,cap,C,rfl,_⟩⟩:=h3<;>rfl
  |succ k=>
   refine ih (j:=j+1) k u' (by simpa using hu) ?_;obtain⟨e,he⟩:=he;simp only [CW,h1,h2,Ag,Prod.mk.injEq]at he;rcases he with⟨he,_⟩|he
   ·omega
   ·exact⟨e,by rw [show nx+(j+1)+k=nx+j+(k+1)from by omega];exact he⟩
 | @rd t ts fl u us y ys f rf hs h1 h3 _ ih=>
  intro k u' hu he;obtain⟨e,he⟩:=he;have dC:(CW P nx mk j (t::ts) fl).2=(CW P nx mk (j+1) ts fl.tail).2:=by
   simp only [CW];split
   ·rename_i h8 h9;rw [h1 h8]at h9;cases h9
   ·rfl
  rw [dC]at he;cases k with
  |zero=>
   exfalso;have key: ∀(ts:List TypeId) (fl:List Bool) (j' t':Nat) (e':Aj),(t',e')∈(CW P nx mk j' ts fl).2→nx+j'≤t':=by
    intro ts
    induction ts with
    |nil=>intro fl j' t' e' h;simp [CW]at h
    |cons a ts ih2=>
     intro fl j' t' e' h;simp only [CW]at h;split at h
     ·simp only [Ag,Prod.mk.injEq]at h;rcases h with⟨h,_⟩|h
      ·omega
      ·have:=ih2 _ _ _ _ h;omega
     ·have:=ih2 _ _ _ _ h;omega
   have:=key _ _ _ _ _ he;omega
  |succ k=>exact ih (j:=j+1) k u' (by simpa using hu) ⟨e,by rw [show nx+(j+1)+k=nx+j+(k+1)from by omega];exact he⟩
theorem zsM {i b:Nat} (hb:b+400≤1000) {t:TypeId} {own:List Bool} {s:SV} {l:List (Nat × Aj)} {v:Value} {x:AV} {rf hs:List Nat} (h:Te P i b t own=some (s,l)) (hv:Qq P w t own v x rf hs) (hx:(E.var i).den c.ρ=x):
  ∃recs:List AU,l=recs.map AU.pair∧recs.flatMap AU.top=hs∧(∀r∈recs,1000*i+b≤r.tag∧r.tag<1000*i+1000∧r.new.isSome)∧(recs.map AU.tag).Nodup∧(∀r∈recs,r.new=v.cells[r.tag-(1000*i+b)]?)∧
   ∀c',Fp c c' w recs→(∀b∈rf,c'.ok b)→SR c' [s] [v]∧ ∀r∈recs,Dn c' r.tag r.bu:=by
 obtain⟨us,ys,hg,hc⟩:=hv;unfold Te at h;simp only at h;split at h
 ·cases h
 rename_i hle;split at hg
 ·rename_i AD;obtain⟨rfl,rfl,C6⟩:=hg;obtain⟨recs,e1,e2,e3,e4,e4',e5⟩:=RV (c:=c) (nx:=1000*i+b) (mk:=DO (.var i) (Ao P t)) hc 0 (by rw [AD];exact Wb hx);rw [if_pos AD]at h;simp only [Ah,Prod.mk.injEq]at h;obtain⟨rfl,rfl⟩:=h;refine⟨recs,e1,e2,fun r hr=>by have:=e3 r hr;exact⟨by omega,by omega,this.2.2⟩,e4,fun r hr=>by rw [e4' r hr];simp [Value.cells],fun c' ha Aw=> ?_⟩;obtain⟨q1,q2⟩:=e5 c' ha Aw;exact⟨.agg C6 (by rw [BD.bc];exact q1) .nil,q2⟩
 ·rename_i AD;obtain⟨rfl,rfl⟩:=hg;have Hk:Ao P t=false:=by simpa using AD
  obtain⟨recs,e1,e2,e3,e4,e4',e5⟩:=RV (c:=c) (nx:=1000*i+b) (mk:=DO (.var i) (Ao P t)) hc 0 (by
   intro k z hz;cases k with
   |zero=>simp at hz;subst hz;rw [Hk];simpa [DO]using hx
   |succ k=>simp at hz)
  rw [if_neg AD]at h;split at h
  ·rename_i s' Bh;simp only [Ah,Prod.mk.injEq]at h;obtain⟨rfl,rfl⟩:=h;refine⟨recs,e1,e2,fun r hr=>by have:=e3 r hr;exact⟨by omega,by omega,this.2.2⟩,e4,fun r hr=> ?_,fun c' ha Aw=> ?_⟩
   ·have C7:=e4' r hr;have h3:=e3 r hr;rw [C7,Nat.add_zero];have hlen:=hc.len;have LA:r.tag-(1000*i+b)=0:=by
     have:=hlen.1;simp at this;omega
    rw [LA];have:=hc.jz (nx:=1000*i+b) (mk:=DO (.var i) (Ao P t)) (j:=0) 0 v rfl ⟨r.bu,by rw [e1];exact List.mem_map.2 ⟨r,hr,by simp [AU.pair];omega⟩⟩;rw [this];rfl
   ·obtain⟨q1,q2⟩:=e5 c' ha Aw;rw [Bh]at q1;exact⟨q1,q2⟩
  ·cases h
theorem ztK {ms0:List PM} {vs0:List Value}: ∀(ts:List TypeId) (i:Nat) {ms:List PM} {lo:List Bool} {ss:List SV} {l:List (Nat × Aj)} {vs:List Value} {xs:List AV} {rf lf hs:List Nat},NV P i ts ms lo=some (ss,l)→DP P w ts ms lo vs xs rf lf hs→(∀k x,xs[k]?=some x→(E.var (i+k)).den c.ρ=x)→(∀k,ms[k]?=ms0[i+k]?)→(∀k,vs[k]?=vs0[i+k]?)→
  ∃recs:List AU,l=recs.map AU.pair∧recs.flatMap AU.top=hs∧(∀r∈recs,1000*i≤r.tag∧r.tag<1000*(i+ts.length)∧r.new.isSome)∧(recs.map AU.tag).Nodup∧(∀r∈recs,∀v,HN ms0 vs0 r.tag=some v→r.new=some v)∧ss.length=ts.length∧ts.length≤vs.length∧
   ∀c',Fp c c' w recs→(∀b∈rf,c'.ok b)→(∀(k:Nat) (v:Value) (x:AV),(ms[k]?).getD .ro= .ro→vs[k]?=some v→xs[k]?=some x→c'.A.lo v x)→SR c' (ss++(List.range (vs.length-ts.length)).map fun j=>SV.e (.var (i+ts.length+j))) vs∧ ∀r∈recs,Dn c' r.tag r.bu
 | [],i,ms,lo,ss,l,vs,xs,rf,lf,hs,h,ha,hx,_,_=>by
  simp [NV]at h;obtain⟨rfl,rfl⟩:=h;have key: ∀{ms:List PM} {lo:List Bool} {vs:List Value} {xs:List AV} {rf lf hs:List Nat},DP P w [] ms lo vs xs rf lf hs→hs= []∧Rd w vs xs rf:=by
   intro ms lo vs
   induction vs generalizing ms lo with
   |nil=>intro xs rf lf hs h;cases h;exact⟨rfl, .nil⟩
   |cons v vs ih=>
    intro xs rf lf hs h;cases h with
    |free h1 h2=>obtain⟨rfl,h3⟩:=ih h2;exact⟨rfl,h1.app h3⟩
  obtain⟨rfl,DJ⟩:=key ha;refine⟨[],rfl,rfl,by simp,by simp,by simp,rfl,by simp,fun c' FW Aw _=>⟨?_,by simp⟩⟩;have frees: ∀(vs:List Value) {xs:List AV} {rf:List Nat} (j:Nat),Rd w vs xs rf→(∀k x,xs[k]?=some x→(E.var (i+j+k)).den c.ρ=x)→(∀b∈rf,c'.ok b)→SR c' ((List.range vs.length).map fun q=>SV.e (.var (i+j+q))) vs:=by
   intro vs
   induction vs with
   |nil=>intro xs rf j h _ _;simpa using SR.nil
   |cons v vs ih=>
    intro xs rf j h hx Aw;cases xs with
    |nil=>have:=h.len;simp at this
    |cons x xs=>
     obtain⟨f1,f2,rfl,h1,h2⟩:=h.cr;have h3:=ih (j+1) h2 (fun k y hy=>by rw [show i+(j+1)+k=i+j+(k+1)from by omega];exact hx (k+1) y (by simpa using hy)) fun b hb=>Aw b (by simp [hb]);rw [An,List.range_succ_eq_map,List.map_cons,List.map_map];refine SR.cons (.e (f:=f1) (by rw [FW.w,FW.ρ];have:=hx 0 x rfl;simp only [Nat.add_zero]at this ⊢;rw [this];exact h1) (fun b hb=>Aw b (by simp [hb])) .nil) ?_;have e:((fun q=>SV.e (.var (i+j+q)))∘Nat.succ)=fun q=>SV.e (.var (i+(j+1)+q)):=by funext q;simp only [Function.comp_apply];rw [show i+j+q.succ=i+(j+1)+q from by omega]
     rw [e];exact h3
  simpa using frees vs 0 DJ (by simpa using hx) Aw
 |t::ts,i,ms,lo,ss,l,vs,xs,rf,lf,hs,h,ha,hx,EW,KK=>by
  unfold NV at h;split at h
  ·rename_i s l1 ss' l2 h1 h2;simp only [Ah,Prod.mk.injEq]at h;obtain⟨rfl,rfl⟩:=h;obtain⟨v,vs,x,xs,f,hh,rf,lf,hs,rfl,rfl,rfl,rfl,Cu,Ba⟩: ∃v vs' x xs' f hh rf' lf' Bh,vs=v::vs'∧xs=x::xs'∧rf=f++rf'∧hs=hh++Bh∧DP P w ts ms.tail lo.tail vs' xs' rf' lf' Bh∧(iM P w t (ms.headD .ro) v x f hh∨(lo.headD false=true∧ms.headD .ro= .ro∧f= []∧hh= [])):=by
    cases ha with
    |cons h1 h2=>exact⟨_,_,_,_,_,_,_,_,_,rfl,rfl,rfl,rfl,h2, .inl h1⟩
    |lent h1 h2 h3 h4=>exact⟨_,_,_,_, [], [],_,_,_,rfl,rfl,by simp,by simp,h4, .inr ⟨h1,h2,rfl,rfl⟩⟩
   have Es:ms.headD .ro=(ms0[i]?).getD .ro:=by have:=EW 0;rw [Nat.add_zero]at this;rw [←this];cases ms<;>rfl
   have LN:vs0[i]?=some v:=by have:=KK 0;simpa using this.symm
   have KM:(E.var i).den c.ρ=x:=by simpa using hx 0 x rfl
   obtain⟨r2,b1,b2,b3,b4,b4',b6,b7,b5⟩:=ztK ts (i+1) h2 Cu (fun k y hy=>by rw [show i+1+k=i+(k+1)from by omega];exact hx (k+1) y (by simpa using hy)) (fun k=>by rw [show i+1+k=i+(k+1)from by omega,←EW (k+1)];cases ms<;>simp) (fun k=>by rw [show i+1+k=i+(k+1)from by omega,←KK (k+1)];simp);have fin: ∀(r1:List AU),l1=r1.map AU.pair→r1.flatMap AU.top=hh→(∀r∈r1,1000*i≤r.tag∧r.tag<1000*i+1000∧r.new.isSome)→(r1.map AU.tag).Nodup→(∀r∈r1,∀v,HN ms0 vs0 r.tag=some v→r.new=some v)→
     (∀c',Fp c c' w r1→(∀b∈f,c'.ok b)→(ms.headD .ro= .ro→c'.A.lo v x)→SR c' [s] [v]∧ ∀r∈r1,Dn c' r.tag r.bu)→
     ∃recs:List AU,l1++l2=recs.map AU.pair∧recs.flatMap AU.top=hh++hs∧(∀r∈recs,1000*i≤r.tag∧r.tag<1000*(i+(t::ts).length)∧r.new.isSome)∧(recs.map AU.tag).Nodup∧(∀r∈recs,∀v,HN ms0 vs0 r.tag=some v→r.new=some v)∧(s::ss').length=(t::ts).length∧(t::ts).length≤(v::vs).length∧
      ∀c',Fp c c' w recs→(∀b∈f++rf,c'.ok b)→(∀(k:Nat) (v':Value) (x':AV),(ms[k]?).getD .ro= .ro→(v::vs)[k]?=some v'→(x::xs)[k]?=some x'→c'.A.lo v' x')→SR c' ((s::ss')++(List.range ((v::vs).length-(t::ts).length)).map fun j=>SV.e (.var (i+(t::ts).length+j))) (v::vs)∧ ∀r∈recs,Dn c' r.tag r.bu:=by
    intro r1 a1 a2 a3 a4 a4' a5;refine⟨r1++r2,by simp [a1,b1],by simp [a2,b2],fun r hr=> ?_, ?_,fun r hr=> ?_,by simp [b6],by simp [b7],fun c' FW Aw Ci=> ?_⟩
    ·simp only [An];rcases Ai.1 hr with hr|hr
     ·have:=a3 r hr;exact⟨this.1,by omega,this.2.2⟩
     ·have:=b3 r hr;exact⟨by omega,by omega,this.2.2⟩
    ·rw [List.map_append,List.nodup_append];refine⟨a4,b4,fun t1 Pb t2 LH he=> ?_⟩;obtain⟨q1,Gg,rfl⟩:=List.mem_map.1 Pb;obtain⟨q2,EF,rfl⟩:=List.mem_map.1 LH;have:=a3 q1 Gg;have:=b3 q2 EF;omega
    ·rcases Ai.1 hr with hr|hr
     ·exact a4' r hr
     ·exact b4' r hr
    ·obtain⟨p1,p2⟩:=a5 c' (FW.mono fun r hr=>by simp [hr]) (fun b hb=>Aw b (by simp [hb])) fun hl=>Ci 0 v x (by cases ms<;>exact hl) rfl rfl;obtain⟨q1,q2⟩:=b5 c' (FW.mono fun r hr=>by simp [hr]) (fun b hb=>Aw b (by simp [hb])) fun k v' x' k1 k2 k3=>Ci (k+1) v' x' (by cases ms with|nil=>rfl|cons b l=>simpa using k1) (by simpa using k2) (by simpa using k3);refine⟨?_,fun r hr=> ?_⟩
     ·have:=p1.cons q1;have e:(fun j=>SV.e (.var (i+1+ts.length+j)))=fun j=>SV.e (.var (i+(t::ts).length+j)):=by
       funext j;simp only [An];rw [show i+1+ts.length+j=i+(ts.length+1)+j from by omega]
      rw [e]at this;simpa using this
     ·rcases Ai.1 hr with hr|hr
      ·exact p2 r hr
      ·exact q2 r hr
   have pinMu: ∀{own:List Bool} {r:AU},ms.headD .ro= .mu own→1000*i+500≤r.tag→r.tag<1000*i+1000→r.new=v.cells[r.tag-(1000*i+500)]?→ ∀v',HN ms0 vs0 r.tag=some v'→r.new=some v':=by
    intro own r hm t1 t2 hn v' hp;unfold HN at hp;split at hp
    ·rw [show r.tag/1000=i from by omega,LN,←Es,hm]at hp;simp only at hp;split at hp
     ·rw [hn,show r.tag-(1000*i+500)=r.tag % 1000-500 from by omega];exact hp
     ·cases hp
    ·cases hp
   have pinVa: ∀{own:List Bool} {r:AU},ms.headD .ro= .va own→1000*i≤r.tag→r.tag<1000*i+1000→ ∀v',HN ms0 vs0 r.tag=some v'→r.new=some v':=by
    intro own r hm t1 t2 v' hp;unfold HN at hp;split at hp
    ·rw [show r.tag/1000=i from by omega,LN,←Es,hm]at hp;simp at hp
    ·cases hp
   cases hm:ms.headD .ro with
   |ro=>
    rw [hm]at h1 Ba;simp only [bE,Ah,Prod.mk.injEq]at h1;obtain⟨rfl,rfl⟩:=h1;have hhh:hh= []:=by rcases Ba with⟨_,h⟩|⟨_,_,_,h⟩<;>exact h
    subst hhh;by_cases Ci:lo.headD false=true
    ·exact fin [] rfl rfl (by simp) (by simp) (by simp) fun c' FW Aw hl=>⟨by rw [if_pos Ci];exact .lent (by rw [FW.ρ,KM];exact hl hm) .nil,by simp⟩
    ·rcases Ba with⟨g1,_⟩|⟨h,_⟩
     ·exact fin [] rfl rfl (by simp) (by simp) (by simp) fun c' FW Aw _=>⟨by rw [if_neg Ci];exact .e (f:=f) (by rw [FW.w,FW.ρ,KM];exact g1) Aw .nil,by simp⟩
     ·exact absurd h Ci
   |va own=>
    rw [hm]at h1 Ba
    replace Ba:=Ba.resolve_right fun h=>by cases h.2.1
    obtain⟨r1,a1,a2,a3,a4,a4',a5⟩:=zsM (c:=c) (by omega) h1 Ba KM;exact fin r1 a1 a2 (fun r hr=>by have:=a3 r hr;exact⟨by omega,this.2⟩) a4 (fun r hr=>by have:=a3 r hr;exact pinVa hm (by omega) this.2.1) fun c' FW Aw _=>a5 c' FW Aw
   |mu own=>
    rw [hm]at h1 Ba
    replace Ba:=Ba.resolve_right fun h=>by cases h.2.1
    obtain⟨r1,a1,a2,a3,a4,a4',a5⟩:=zsM (c:=c) (by omega) h1 Ba KM;exact fin r1 a1 a2 (fun r hr=>by have:=a3 r hr;exact⟨by omega,this.2⟩) a4 (fun r hr=>by have:=a3 r hr;exact pinMu hm this.1 this.2.1 (a4' r hr)) fun c' FW Aw _=>a5 c' FW Aw
   |bx own own'=>
    rw [hm]at h1 Ba
    replace Ba:=Ba.resolve_right fun h=>by cases h.2.1
    obtain⟨ty,b,C,ys,h9,g1,rfl,g3,g4,rfl,g6,rfl⟩:=Ba;simp only [bE,g1]at h1;split at h1
    ·cases h1
    rename_i hle;simp only [Ah,Prod.mk.injEq]at h1;obtain⟨rfl,rfl⟩:=h1;obtain⟨recs,e1,e2,e3,e4,e4',e5⟩:=RV (c:=c) (nx:=1000*i+1) (mk:=DO (.deref (.var i)) true) g6 0 (Wb (by simp only [E.den]at KM ⊢;rw [KM];rfl));refine fin (⟨1000*i,some (.pointer (some ⟨b,0,none⟩)), [b], .box ty (Ao P ty) (CW P (1000*i+1) (DO (.deref (.var i)) true) 0 (A9 P ty) own).1⟩::recs) (by simp [e1,AU.pair]) (by simp [e2]) (fun r hr=> ?_) ?_ (fun r hr v' hp=> ?_) fun c' FW Aw _=> ?_
    ·rcases Ag.1 hr with rfl|hr
     ·simp
     ·have:=e3 r hr;exact⟨by omega,by omega,this.2.2⟩
    ·simp only [List.map_cons,List.nodup_cons];refine⟨fun hm=> ?_,e4⟩;obtain⟨r,hr,IB⟩:=List.mem_map.1 hm;have:=e3 r hr;omega
    ·rcases Ag.1 hr with rfl|hr
     ·unfold HN at hp;simp only at hp;split at hp
      ·rw [show 1000*i/1000=i from by omega,LN,←Es,hm]at hp;simp at hp;simpa using hp
      ·cases hp
     ·have h3:=e3 r hr;unfold HN at hp;split at hp
      ·rw [show r.tag/1000=i from by omega,LN,←Es,hm]at hp;simp only at hp;split at hp
       ·omega
       ·cases hp
      ·cases hp
    ·obtain⟨q1,q2⟩:=e5 c' (FW.mono fun r hr=>by simp [hr]) Aw;obtain⟨k1,k2,k3⟩:=FW.new _ (List.mem_cons_self ..) _ rfl;have kg:=FW.G _ (List.mem_cons_self ..);simp only at k1 k3 kg;refine⟨.cu k1 k3 .nil,fun r hr=> ?_⟩;rcases Ag.1 hr with rfl|hr
     ·exact⟨b,C,k1,k3,by rw [kg],by rw [kg],by rw [FW.w];exact g3,g4,q1⟩
     ·exact q2 r hr
  ·cases h
end
section
variable {P:Program} {c:Cx} {n:Nat} {a:Act} {τ:St}
theorem yC (h:Rel c n (BJ τ) (AE τ.hp) a):EH c (AE τ.hp):=fun t e hr=>h.ents t e hr
theorem zyl {hp:Nat→Option Aj} {t:Nat} {e:Aj} (h:hp t=some e) (hn: ∀hs f,e≠ .gd hs f):Dy hp [] t=some e:=by
 simp only [Dy,h,Aa,MG]
 all_goals (cases e<;>first|rfl|exact absurd rfl (hn _ _))
theorem zrJ (h:Rel c n (BJ τ) (AE τ.hp) a) {u g:Nat} {e z:Nat} {x:E} {d:Bool} (hu:AE τ.hp u=some (.row e z g x d)):c.K u g∧ ∃N,Dd c.w e z (c.H u g) (x.den c.ρ) (c.G u).top N∧(∀b∈N,c.ok b)∧(d=true→N= []):=by obtain⟨p1,p2,N,p3,p4,p5,_⟩:=h.ents u _ (by rw [hu];rfl);exact⟨p1,N,p3,p4,fun hd=>(p5 hd).1⟩
theorem zy9 {t e:TypeId} {d:Bool} {N:List Nat} (hd:d=true→N= []) (h:Cg P e=true∧d=true∨Cg P e=false∧(El P t).isNone=true):Cg P e=true∧N= []∨Cg P e=false∧El P t=none:=by
 rcases h with⟨h1,h2⟩|⟨h1,h2⟩
 ·exact .inl ⟨h1,hd h2⟩
 ·exact .inr ⟨h1,by simpa using h2⟩
theorem Zx (h:Rel c n (BJ τ) (AE τ.hp) a): ∀(ts:List TypeId) {fl:List Bool} {cs:List SV} {l:List Nat} {us:List Value} {xs:EL} {m:Nat},MD P τ ts fl cs=some l→SR c cs us→CC (AE τ.hp) [] m cs=some xs→m≤A3→
  ∃f,CA P c.w ts fl us (xs.den c.ρ) f (l.flatMap fun t=>(c.G t).top)∧ ∀b∈f,c.fj (Ky P τ ts fl cs) b
 | [],fl, [],l,us,xs,m,ho,hs,hx,hm=>by
  simp [MD]at ho;subst ho;cases hs;cases m with
  |zero=>simp [CC]at hx
  |succ m=>simp [CC]at hx;subst hx;exact⟨[], .nil,by simp⟩
 | [],fl,s::cs,l,us,xs,m,ho,hs,hx,hm=>by simp [MD]at ho
 |t::ts,fl, [],l,us,xs,m,ho,hs,hx,hm=>by simp [MD]at ho
 |t::ts,fl,s::cs,l, [],xs,m,ho,hs,hx,hm=>by have:=hs.len;simp at this
 |t::ts,fl,s::cs,l,v::us,xs,m,ho,hs,hx,hm=>by
  obtain⟨j,y,ys,rfl,hy,DG,rfl⟩:=KY hx;obtain⟨r1,r2⟩:=hs.cr;unfold MD at ho;split at ho
  ·cases ho
  rename_i l' Dj;obtain⟨f,q1,q2⟩:=Zx h ts Dj r2 DG (by omega);split at ho
  ·rename_i e hf BE;have Gy:Ky P τ (t::ts) fl (s::cs)=Ky P τ ts fl.tail cs:=by
    simp only [Ky,hf,BE,Option.isSome_some,Bool.and_self,if_true,List.nil_append]
   split at ho
   ·cases ho
   rename_i hz;split at ho
   ·simp only [Ah]at ho;subst ho;cases r1 with
    |cq _=>refine⟨f, ?_,by rw [Gy];exact q2⟩;rw [EL.den,Mb hy];exact CA.void hf BE (by omega) q1
   ·rename_i u g;split at ho
    ·rename_i e' z g' x d hu;split at ho
     ·rename_i hh;obtain⟨rfl,rfl,rfl,Ho⟩:=hh;simp only [Ah]at ho;subst ho;obtain⟨p1,N,p2,p3,p4⟩:=zrJ h hu;have Ho:=zy9 p4 Ho;have hl:=zyl hu (by simp);have HD:y=x:=by
       cases j with
       |zero=>simp [Br]at hy
       |succ j=>simp [Br,IN,hl]at hy;exact hy.symm
      subst HD;have hv:c.H u g=v:=by
       cases r1 with
       |own _ k2 _=>exact k2
      rw [hv]at p2;refine⟨N++f,CA.own hf BE Ho p2 q1,fun b hb=> ?_⟩;rw [Gy];rcases Ai.1 hb with hb|hb
      ·exact .inl (p3 b hb)
      ·exact q2 b hb
     ·cases ho
    ·rename_i e' z dl g' ep x hu;split at ho
     ·rename_i hh;obtain⟨rfl,GD,DY⟩:=hh;have DY:=ZQ DY;simp only [Ah]at ho;subst ho;obtain⟨p1,_,_,p2,_⟩:=h.ents u _ (by rw [hu];rfl);have hl:=zyl hu (by simp);have HD:y=x:=by
       cases j with
       |zero=>simp [Br]at hy
       |succ j=>simp [Br,IN,hl]at hy;exact hy.symm
      subst HD;have hv:c.H u g=v:=by
       cases r1 with
       |own _ k2 _=>exact k2
      rw [hv]at p2;exact⟨f,CA.deep hf BE GD DY p2 q1,by rw [Gy];exact q2⟩
     ·cases ho
    ·cases ho
   ·cases ho
  ·rename_i Dt;simp only [Ah]at ho;subst ho;have hn:fl.headD false=true→CT P t=none:=fun hf=>by
    cases BE:CT P t with
    |none=>rfl
    |some e=>exact absurd BE (Dt e hf)
   obtain⟨f1,p1,p2⟩:=Ii (yC h) (Ff _) j hy r1 A3 (by omega);refine⟨f1++f,CA.rd hn p1 q1,fun b hb=> ?_⟩;have Gy:Ky P τ (t::ts) fl (s::cs)=BZ (AE τ.hp) [] (A3+1) [s]++Ky P τ ts fl.tail cs:=by
    have:(fl.headD false&&(CT P t).isSome)=false:=by
     cases hf:fl.headD false with
     |false=>rfl
     |true=>rw [hn hf];rfl
    simp only [Ky,this,AX,if_false]
   rw [Gy];rcases Ai.1 hb with hb|hb
   ·exact(p2 b hb).mono fun t ht=>by simp [ht]
   ·exact(q2 b hb).mono fun t ht=>by simp [ht]
theorem zxZ (h:Rel c n (BJ τ) (AE τ.hp) a) {t:TypeId} {fl:List Bool} {s:SV} {l:List Nat} {v:Value} {x:E} {m:Nat} (ho:gG P τ t fl s=some l) (hs:SR c [s] [v]) (hx:Br (AE τ.hp) [] m s=some x) (hm:m<A3):
  ∃f,E6 P c.w t fl v (x.den c.ρ) f (l.flatMap fun t=>(c.G t).top)∧ ∀b∈f,c.fj (iF P τ t fl s) b:=by
 unfold gG at ho;unfold E6 iF;split at ho
 ·rename_i hf;simp only [hf,if_true];split at ho
  ·rename_i AD;split at ho
   ·rename_i cs;obtain⟨k,lx,rfl,hl,rfl⟩:=Wl hx;cases hs with
    |agg h9 h1 h8=>rename_i as_;obtain⟨f,q1,q2⟩:=Zx (P:=P) h (A9 P t) ho h1 hl (by omega);exact⟨f,⟨as_,lx.den c.ρ,by rw [if_pos AD];exact⟨rfl,rfl,h9⟩,q1⟩,by rw [if_pos AD];exact q2⟩
   ·cases ho
  ·rename_i AD;have LB:CC (AE τ.hp) [] (m+1) [s]=some (.cons x .nil):=by
    cases m with
    |zero=>simp [Br]at hx
    |succ m=>simp only [CC,hx]
   obtain⟨f,q1,q2⟩:=Zx (P:=P) h (A9 P t) ho hs LB (by omega);exact⟨f,⟨[v], [x.den c.ρ],by rw [if_neg AD];exact⟨rfl,rfl⟩,q1⟩,by rw [if_neg AD];exact q2⟩
 ·rename_i hf;simp only [hf,if_false,AX];simp only [Ah]at ho;subst ho;obtain⟨f,p1,p2⟩:=Ii (yC h) (Ff _) m hx hs A3 (by omega);exact⟨f,⟨p1,rfl⟩,p2⟩
theorem zqx (h:Rel c n (BJ τ) (AE τ.hp) a): ∀(ts:List TypeId) {fl:List Bool} {ss:List SV} {l:List Nat} {vs:List Value} {xs:EL} {m:Nat},Qb P τ ts fl ss=some l→SR c ss vs→CC (AE τ.hp) [] m ss=some xs→m≤A3→
  ∃f,Jv P c.w ts fl vs (xs.den c.ρ) f (l.flatMap fun t=>(c.G t).top)∧ ∀b∈f,c.fj (WT P τ ts fl ss) b
 | [],fl, [],l,vs,xs,m,ho,hs,hx,hm=>by
  simp [Qb]at ho;subst ho;cases hs;cases m with
  |zero=>simp [CC]at hx
  |succ m=>simp [CC]at hx;subst hx;exact⟨[], .nil,by simp⟩
 | [],fl,s::cs,l,us,xs,m,ho,hs,hx,hm=>by simp [Qb]at ho
 |t::ts,fl, [],l,us,xs,m,ho,hs,hx,hm=>by simp [Qb]at ho
 |t::ts,fl,s::cs,l, [],xs,m,ho,hs,hx,hm=>by have:=hs.len;simp at this
 |t::ts,fl,s::cs,l,v::us,xs,m,ho,hs,hx,hm=>by
  obtain⟨j,y,ys,rfl,hy,DG,rfl⟩:=KY hx;obtain⟨r1,r2⟩:=hs.cr;unfold Qb at ho;split at ho
  ·rename_i a1 b1 h1 h2;simp only [Ah]at ho;subst ho;obtain⟨f1,p1,p2⟩:=zxZ (P:=P) h h1 r1 hy (by omega);obtain⟨f2,q1,q2⟩:=zqx h ts h2 r2 DG (by omega);refine⟨f1++f2,by rw [List.flatMap_append];exact .cons p1 q1,fun b hb=> ?_⟩;simp only [WT];rcases Ai.1 hb with hb|hb
   ·exact(p2 b hb).mono fun t ht=>by simp [ht]
   ·exact(q2 b hb).mono fun t ht=>by simp [ht]
  ·cases ho
end
section
variable {P:Program} {c:Cx} {n:Nat} {a:Act} {τ:St}
theorem zDI (h:Rel c n (BJ τ) (AE τ.hp) a) {t:TypeId} {b o:Nat} {ty:TypeId} {g:Bool} {cs:List SV} {s:SV} {v:Value} (Bp:DE P t=true) (hl:AE τ.hp b=some (.box ty g cs)) (A6:Qp P t cs o=some s) (hr:SR c [.cu b o] [v]):
  ∃q u,v= .pointer (some ⟨q,o,none⟩)∧(loadVar t ⟨q,o,none⟩).run P c.w= .ok u c.w∧SR c [s] [u]:=by
 cases hr with
 |cu h1 h2 h8=>
  rename_i q;obtain⟨q',C,_,e2,e3,e4,e5,e5',e6⟩:=h.ents b _ (by rw [hl];rfl);rw [h2]at e2;cases e2;have key: ∀vs:List Value,(Ao P t=true→vs.length=P.cellsOf t)→(Ao P t=false→vs.length=1)→(∀j u,vs[j]?=some u→c.w.cell? ⟨q,o+j,none⟩=some u)→(loadVar t ⟨q,o,none⟩).run P c.w= .ok (if Ao P t then .agg vs.toArray else vs.headD undef) c.w:=fun vs k1 k2 k3=>by have:=So (P:=P) (w:=c.w) (b:=q) (off:=o) Bp vs k1 k2 k3;simpa [Instr.loadAt,Instr.sureAddr]using this
  unfold Qp at A6;have hlen:=e6.len;split at A6
  ·rename_i AD;split at A6
   ·rename_i hle;simp at A6;subst A6;obtain⟨r1,r2⟩:=e6.split o;obtain⟨r3,r4⟩:=r2.split (P.cellsOf t);have:=SR.agg (cs:=BD.of ((cs.drop o).take (P.cellsOf t))) (fun u hu=>e5' u (List.mem_of_mem_drop (List.mem_of_mem_take hu))) (by rw [BD.bc];exact r3) .nil;refine⟨q, .agg ((C.toList.drop o).take (P.cellsOf t)).toArray,rfl, ?_,this⟩;rw [key ((C.toList.drop o).take (P.cellsOf t)) (fun _=>by simp at hlen ⊢;omega) (fun h=>by rw [AD]at h;cases h) (fun j u hu=>by
     rw [Fe e5];rw [List.getElem?_take]at hu;split at hu
     ·simpa using hu
     ·cases hu)]
    simp [AD]
   ·cases A6
  ·rename_i AD;have AD:Ao P t=false:=by simpa using AD
   obtain⟨u,hu,r⟩:=e6.get A6;refine⟨q,u,rfl, ?_,r⟩;rw [key [u] (fun h=>by rw [AD]at h;cases h) (fun _=>rfl) (fun j z hz=>by
    cases j with
    |zero=>simp at hz;subst hz;rw [Fe e5];simpa using hu
    |succ j=>simp at hz)]
   simp [AD]
theorem zP {α:Type} {g:α→Sem Value} {w:World}: ∀(l:List α) (us:List Value),l.length=us.length→(∀(i:Nat) (x:α) (u:Value),l[i]?=some x→us[i]?=some u→(g x).run P w= .ok u w)→(l.mapM g).run P w= .ok us w
 | [], [],_,_=>by simp
 | [],_::_,h,_=>by simp at h
 |_::_, [],h,_=>by simp at h
 |x::l,u::us,h,hg=>by have h0:=hg 0 x u rfl rfl;have ih:=zP l us (by simpa using h) fun i y z hy hz=>hg (i+1) y z (by simpa using hy) (by simpa using hz);simp [List.mapM_cons,h0,ih]
theorem zwc (h:Rel c n (BJ τ) (AE τ.hp) a) (fn:Func) {rs:List SV} (DK:fn.results.toList.mapM (SP P τ)=some rs):
  ∃us,SR c rs us∧rs.length=us.length∧(results fn a.tmps).run P c.w= .ok (match us with| [u]=>u|us=> .tuple us.toArray) c.w:=by
 have one: ∀(r:ResultVar) (s:SV),SP P τ r=some s→ ∃u,SR c [s] [u]∧(match r with| .tmp t=>(pure (a.tmps.getD t undef):Sem Value)| .cell b t=>do loadVar t (←asAddr (a.tmps.getD b undef))).run P c.w= .ok u c.w:=by
  intro r s hr;cases r with
  |tmp t=>simp only [SP,Ah]at hr;subst hr;exact⟨_,h.de t,by simp⟩
  |cell b ty=>
   simp only [SP]at hr;split at hr
   ·rename_i b' o CV;split at hr
    ·rename_i ty' g cs hl;split at hr
     ·rename_i Bp;have hs:=h.de b;rw [CV]at hs;obtain⟨q,u,hv,AN,ID⟩:=zDI h Bp hl hr hs;exact⟨u,ID,by simp only [hv];simp [asAddr,AN]⟩
     ·cases hr
    ·cases hr
   ·cases hr
 have list: ∀(l:List ResultVar) (rs:List SV),l.mapM (SP P τ)=some rs→ ∃us,SR c rs us∧l.length=us.length∧ ∀(i:Nat) (x:ResultVar) (u:Value),l[i]?=some x→us[i]?=some u→(match x with| .tmp t=>(pure (a.tmps.getD t undef):Sem Value)| .cell b t=>do loadVar t (←asAddr (a.tmps.getD b undef))).run P c.w= .ok u c.w:=by
  intro l
  induction l with
  |nil=>intro rs DK;simp at DK;subst DK;exact⟨[], .nil,rfl,by simp⟩
  |cons r l ih=>
   intro rs DK;rw [List.mapM_cons]at DK;simp only [Option.bind_eq_bind,Av,Option.pure_def,Ah]at DK;obtain⟨s,hs,rs',fB,rfl⟩:=DK;obtain⟨u,h1,h2⟩:=one r s hs;obtain⟨us,h3,h4,h5⟩:=ih rs' fB;refine⟨u::us,h1.cons h3,by simp [h4],fun i x v hx hv=> ?_⟩;cases i with
   |zero=>simp at hx hv;subst hx;subst hv;exact h2
   |succ i=>exact h5 i x v (by simpa using hx) (by simpa using hv)
 obtain⟨us,h1,h2,h3⟩:=list _ _ DK;refine⟨us,h1,h1.len, ?_⟩;have hm:=zP (P:=P) (w:=c.w) fn.results.toList us h2 h3;simp only [results,Array.mapM_eq_mapM_toList,map_eq_pure_bind,Sem.run_bind]
 erw [hm]
 simp only [Result.andThen_ok,Sem.run_pure]
 match us with
 | []=>simp
 | [u]=>simp
 |u::v::us=>simp
theorem pA (h:Rel c n (BJ τ) (AE τ.hp) a) {w0:World} {v:Value} {ms:List PM} {vs:List Value} (EX: ∀t,c.A.pin t=HN ms vs t) {i:Nat} (hi:i≤99) {own0:List Bool} (hv:vs[i]?=some v) (hm:(ms[i]?).getD .ro= .mu own0) {mk:Nat→E}: ∀(ts:List TypeId) (j:Nat) {fl:List Bool} {us:List Value} {ys:List AV} {rf hs:List Nat} {es:List E} {l:List Nat},
  CA P w0 ts fl us ys rf hs→j+ts.length≤400→(∀k u,us[k]?=some u→(∃e,(0+j+k,e)∈(CW P 0 (DO (.var 0) true) j ts fl).2)→v.cells[j+k]?=some u)→UO P τ i mk j ts fl=some (es,l)→ ∃f o,GY P c.w ts fl us (es.map (E.den c.ρ)) f o∧(o=l.flatMap fun t=>(c.G t).top)∧ ∀b∈f,c.ok b
 | [],j,fl,us,ys,rf,hs,es,l,hc,hle,CE,he=>by simp [UO]at he;obtain⟨rfl,rfl⟩:=he;cases hc;exact⟨[], [], .nil,rfl,by simp⟩
 |t::ts,j,fl,us,ys,rf,hs,es,l,hc,hle,CE,he=>by
  unfold UO at he;split at he
  ·cases he
  rename_i xs us' Dj;simp only [An]at hle;have sub: ∀{u:Value} {us1:List Value},us=u::us1→ ∀k z,us1[k]?=some z→(∃e,(0+(j+1)+k,e)∈(CW P 0 (DO (.var 0) true) (j+1) ts fl.tail).2)→v.cells[j+1+k]?=some z:=by
   rintro u us1 rfl k z hz ⟨e,he⟩;have:=CE (k+1) z (by simpa using hz) ⟨e,by
    simp only [CW];split
    ·rw [show 0+j+(k+1)=0+(j+1)+k from by omega];exact List.mem_cons_of_mem _ he
    ·rw [show 0+j+(k+1)=0+(j+1)+k from by omega];exact he⟩
   rw [show j+1+k=j+(k+1)from by omega];exact this
  have fin: ∀{u:Value} {us1:List Value} {ys1:List AV} {rf1 BO:List Nat} {el:TypeId},us=u::us1→fl.headD false=true→CT P t=some el→CA P w0 ts fl.tail us1 ys1 rf1 BO→ ∃f o,GY P c.w (t::ts) fl us (es.map (E.den c.ρ)) f o∧(o=l.flatMap fun t=>(c.G t).top)∧ ∀b∈f,c.ok b:=by
   rintro u us1 ys1 rf1 BO el rfl h1 h2 h4;obtain⟨f0,o,q1,q2,q3⟩:=pA h EX hi hv hm ts (j+1) h4 (by omega) (sub rfl) Dj;rw [h1,h2]at he;simp only at he;have cU:v.cells[j]?=some u:=by have:=CE 0 u rfl ⟨_,by simp only [CW,h1,h2,Nat.zero_add,Nat.add_zero];exact List.mem_cons_self ..⟩;simpa using this
   have Xq:c.A.pin (1000*i+500+j)=some u:=by
    rw [EX];unfold HN;have e1:(1000*i+500+j)/1000=i:=by omega
    have e2:(1000*i+500+j) % 1000=500+j:=by omega
    rw [if_pos (by unfold Oh;simp only [e2,Ae,decide_eq_true_eq,Bool.or_eq_true];omega),e1,e2,hv,hm];simp only;rw [if_pos (by omega),show 500+j-500=j from by omega];exact cU
   split at he
   ·rename_i e' z y' d hu;split at he
    ·rename_i hh;obtain⟨rfl,rfl,Ho⟩:=hh;simp only [Ah,Prod.mk.injEq]at he;obtain⟨rfl,rfl⟩:=he;obtain⟨p1,N,p2,p3,p4⟩:=zrJ h hu;have hH:=(h.base.pins _ u Xq).2 p1;rw [hH]at p2;refine⟨_,_, .own h1 h2 (zy9 p4 Ho) p2 q1,by simp [q2],fun b hb=> ?_⟩;rcases Ai.1 hb with hb|hb
     ·exact p3 b hb
     ·exact q3 b hb
    ·cases he
   ·rename_i e' z dl ep y' hu;split at he
    ·rename_i hh;obtain⟨GD,DY⟩:=hh;have DY:=ZQ DY;simp only [Ah,Prod.mk.injEq]at he;obtain⟨rfl,rfl⟩:=he;obtain⟨p1,_,_,p2,_⟩:=h.ents _ _ (by rw [hu];rfl);have hH:=(h.base.pins _ u Xq).2 p1;rw [hH]at p2;refine⟨_,_, .deep h1 h2 GD DY p2 q1,by simp [q2],q3⟩
    ·cases he
   ·cases he
  cases hc with
  |own h1 h2 _ _ h4=>exact fin rfl h1 h2 h4
  |deep h1 h2 _ _ _ h4=>exact fin rfl h1 h2 h4
  | @rd _ _ _ u us1 y ys1 f rf1 BO h1 h3 h4=>
   obtain⟨f0,o,q1,q2,q3⟩:=pA h EX hi hv hm ts (j+1) h4 (by omega) (sub rfl) Dj;split at he
   ·rename_i e hf BE;rw [h1 hf]at BE;cases BE
   ·simp only [Ah,Prod.mk.injEq]at he;obtain⟨rfl,rfl⟩:=he;exact⟨f0,o, .skip h1 q1,q2,q3⟩
end
section
variable {P:Program} {c:Cx} {n:Nat} {a:Act} {τ:St}
theorem zqD (h:Rel c n (BJ τ) (AE τ.hp) a) {w0:World} {ms0:List PM} {vs0:List Value} (EX: ∀t,c.A.pin t=HN ms0 vs0 t): ∀(ts:List TypeId) (i:Nat) {ms:List PM} {lo:List Bool} {vs:List Value} {xs:List AV} {rf lf hs:List Nat} {bx:List E} {us:List Nat},WB P τ i ts ms=some (bx,us)→DP P w0 ts ms lo vs xs rf lf hs→
  (∀k,ms[k]?=ms0[i+k]?)→(∀k,vs[k]?=vs0[i+k]?)→ ∃f o,D5 P c.w ts ms vs (bx.map (E.den c.ρ)) f o∧o=us.flatMap (fun t=>(c.G t).top)∧ ∀b∈f,c.fj (Qr P τ i ts ms) b
 | [],i,ms,lo,vs,xs,rf,lf,hs,bx,us,he,ha,_,_=>by simp [WB]at he;obtain⟨rfl,rfl⟩:=he;exact⟨[], [], .nil,rfl,by simp⟩
 |t::ts,i,ms,lo,vs,xs,rf,lf,hs,bx,us,he,ha,EW,KK=>by
  obtain⟨v,vs,x,xs,f,hh,rf,lf,hs,rfl,Cu,Ba⟩: ∃v vs' x xs' f hh rf' lf' Bh,vs=v::vs'∧DP P w0 ts ms.tail lo.tail vs' xs' rf' lf' Bh∧(iM P w0 t (ms.headD .ro) v x f hh∨ms.headD .ro= .ro):=by
   cases ha with
   |cons h1 h2=>exact⟨_,_,_,_,_,_,_,_,_,rfl,h2, .inl h1⟩
   | @lent _ _ _ _ _ _ x _ _ _ _ _ h1 h2 h3 h4=>exact⟨_,_,x,_, [], [],_,_,_,rfl,h4, .inr h2⟩
  have Es:ms.headD .ro=(ms0[i]?).getD .ro:=by have:=EW 0;rw [Nat.add_zero]at this;rw [←this];cases ms<;>rfl
  have LN:vs0[i]?=some v:=by have:=KK 0;simpa using this.symm
  unfold WB at he;split at he
  ·cases he
  rename_i bx' us' Dj;obtain⟨f2,o2,b1,b2,b3⟩:=zqD h EX ts (i+1) Dj Cu (fun k=>by rw [show i+1+k=i+(k+1)from by omega,←EW (k+1)];cases ms<;>simp) (fun k=>by rw [show i+1+k=i+(k+1)from by omega,←KK (k+1)];simp);have see2: ∀b∈f2,c.fj (Qr P τ i (t::ts) ms) b:=fun b hb=>(b3 b hb).mono fun t ht=>by simp only [Qr,Ai];exact .inr ht
  split at he
  ·cases he
  rename_i hi;split at he
  ·rename_i hm;simp only [Ah,Prod.mk.injEq]at he;obtain⟨rfl,rfl⟩:=he;exact⟨f2,o2, .ro hm b1,b2,see2⟩
  ·rename_i own hm;simp only [Ah,Prod.mk.injEq]at he;obtain⟨rfl,rfl⟩:=he;exact⟨f2,o2, .va hm b1,b2,see2⟩
  ·rename_i own hm;split at he
   ·cases he
   rename_i hle;split at he
   ·rename_i es l IA;simp only [Ah,Prod.mk.injEq]at he;obtain⟨rfl,rfl⟩:=he;rw [hm]at Ba;obtain⟨us0,ys0,hg,hc⟩:=Ba.resolve_right fun h=>by cases h
    obtain⟨f1,o1,q1,q2,q3⟩:=pA h EX (i:=i) (by omega) LN (by rw [←Es];exact hm) (A9 P t) 0 hc (by omega) (fun k u hu he=>by
     rw [Nat.zero_add];split at hg
     ·obtain⟨rfl,_,_⟩:=hg;simpa [Value.cells]using hu
     ·obtain⟨rfl,_⟩:=hg;cases k with
      |zero=>simp at hu;subst hu;rw [hc.jz (nx:=0) (mk:=DO (.var 0) true) (j:=0) 0 v rfl he];rfl
      |succ k=>simp at hu) IA
    refine⟨f1++f2,o1++o2,D5.mu (us:=us0) (ys:=es.map (E.den c.ρ)) hm ?_ q1 b1,by rw [q2,b2,List.flatMap_append],fun b hb=>(Ai.1 hb).elim (fun hb=> .inl (q3 b hb)) (see2 b)⟩;split at hg
    ·rename_i AD;rw [if_pos AD,if_pos AD];exact⟨hg.1,by simp only [E.den,EL.dt]⟩
    ·rename_i AD;rw [if_neg AD,if_neg AD];obtain⟨rfl,_⟩:=hg;refine⟨rfl, ?_⟩;have mlen: ∀{ts:List TypeId} {fl:List Bool} {us:List Value} {ys:List AV} {f o:List Nat},GY P c.w ts fl us ys f o→us.length=ys.length:=by
      intro ts fl us ys f o Ue
      induction Ue<;>simp_all
     have:=mlen q1
     match es,this with
     | [e],_=>rfl
   ·cases he
  ·rename_i own own' hm;rw [hm]at Ba;obtain⟨ty,b,C0,ys0,h9,g1,rfl,g3,g4,rfl,g6,rfl⟩:=Ba.resolve_right fun h=>by cases h
   split at he
   ·rename_i ty1 ty2 g cs Ew Ix;rw [g1]at Ew;cases Ew;split at he
    ·cases he
    rename_i A5;have A5:ty2=ty:=by simpa using A5
    subst A5;split at he
    ·rename_i es vs' Iz fP;simp only [Ah,Prod.mk.injEq]at he;obtain⟨rfl,rfl⟩:=he;obtain⟨b',C,p1,p2,p3,p4,p5,p6,p7⟩:=h.ents _ _ (by rw [Ix];rfl);have Xq:c.A.pin (1000*i)=some (.pointer (some ⟨b,0,none⟩)):=by
      rw [EX];unfold HN;have e1:(1000*i)/1000=i:=by omega
      have e2:(1000*i) % 1000=0:=by omega
      rw [if_pos (by unfold Oh;simp only [e2,Ae,decide_eq_true_eq,Bool.or_eq_true];simp;omega),e1,e2,LN,←Es,hm];rfl
     have hH:=(h.base.pins _ _ Xq).2 p1;rw [p2]at hH;cases hH;obtain⟨f1,q1,q2⟩:=Zx (P:=P) h (A9 P ty2) fP p7 Iz (Nat.le_refl _);refine⟨f1++f2,_,D5.bx hm g1 rfl p5 p6 (by simp only [E.den]) q1 b1,by rw [b2];simp [p3],fun x hx=> ?_⟩;rcases Ai.1 hx with hx|hx
     ·refine(q2 x hx).mono fun t ht=> ?_;simp only [Qr,hm,g1,Ix,Ai];exact .inl ht
     ·exact see2 x hx
    ·cases he
   ·cases he
end
theorem nT {P:Program}: ∀(ts:List TypeId) (i:Nat) (ms:List PM) (lo:List Bool) (ss:List SV) (l:List (Nat × Aj)),NV P i ts ms lo=some (ss,l)→ ∀t x,(t,x)∈l→ ∀gs f,x≠ .gd gs f
 | [],i,ms,lo,ss,l,h,t,x,hx=>by simp [NV]at h;obtain⟨_,rfl⟩:=h;simp at hx
 |t0::ts,i,ms,lo,ss,l,h,t,x,hx=>by
  unfold NV at h;split at h
  ·rename_i s1 l1 ss1 l2 q1 q2;simp only [Ah,Prod.mk.injEq]at h;obtain⟨_,rfl⟩:=h;rcases Ai.1 hx with hx|hx
   ·have hV: ∀(b:Nat) (own:List Bool),Te P i b t0 own=some (s1,l1)→ ∀gs f,x≠ .gd gs f:=by
     intro b own hh;unfold Te at hh;simp only at hh;split at hh
     ·cases hh
     ·split at hh
      ·simp only [Ah,Prod.mk.injEq]at hh;obtain⟨_,rfl⟩:=hh;intro gs f;exact PW _ _ _ _ _ hx
      ·split at hh
       ·simp only [Ah,Prod.mk.injEq]at hh;obtain⟨_,rfl⟩:=hh;intro gs f;exact PW _ _ _ _ _ hx
       ·cases hh
    unfold bE at q1;split at q1
    ·simp only [Ah,Prod.mk.injEq]at q1;rw [←q1.2]at hx;simp at hx
    ·exact hV _ _ q1
    ·exact hV _ _ q1
    ·split at q1
     ·simp only at q1;split at q1
      ·cases q1
      ·simp only [Ah,Prod.mk.injEq]at q1;obtain⟨_,rfl⟩:=q1;rcases Ag.1 hx with hx|hx
       ·cases hx;simp
       ·intro gs f;exact PW _ _ _ _ _ hx
     ·cases q1
   ·exact nT _ _ _ _ _ _ q2 t x hx
  ·cases h
theorem zDL {P:Program} {sg:B0} (eL:P.follows .mixedOrders=true) (J6: ∀f s,sg f=some s→f<1000000) {f:Nat} {s:HV} {fn:Func} {t:Tr} {xs:List AV} {r:AV} (Hp:P.funcs[f]?=some fn) (hs:sg f=some s) (Ds:(fn.name== "runtime.NumGoroutine")=false)
  (EO:UY P sg f=some t) (BF:N5 P fn s r=true) (hlen:xs.length=fn.params.size+fn.nfree) (hd:t.den (Cw P sg) (fun r'=>r'=r) (fun _ _ _ _=>False) [] xs):Tw P s f xs r:=by
 unfold UY at EO;simp only [Hp,hs]at EO;split at EO
 ·rename_i code σ Ef Bn;split at EO
  ·rename_i t0 hex;have EC:s.ft.length≤fn.nfree:=by
    have Bn:=Bn;unfold sB at Bn;split at Bn
    ·cases Bn
    ·simp only at Bn;split at Bn
     ·cases Bn
     ·rename_i AJ;simp only [Bool.or_eq_true,decide_eq_true_eq,not_or,Nat.not_lt]at AJ;exact AJ.2
   refine⟨fn,Hp,by rw [Ef];rfl,Ds,BF,hlen,EC,fun w vs rf lf Bh Ay Gw JP Hu Ev=> ?_⟩;unfold sB at Bn;split at Bn
   ·cases Bn
   rename_i ss l Ck;simp only at Bn;split at Bn
   ·cases Bn
   rename_i AJ;simp only [Bool.or_eq_true,decide_eq_true_eq,not_or,Nat.not_lt]at AJ;simp only [Ah]at Bn;subst Bn;let pin:Nat→Option Value:=HN s.cx vs;let LO:Value→AV→Prop:=fun v y=> ∃f,Rd w [v] [y] f∧ ∀b∈f,¬b∈Bh;let c0:Cx:={ρ:=xs,w:=w,G:=fun _=>⟨[], []⟩,K:=fun _ _=>False,H:=fun _ _=>undef,A:=⟨fun b=>b∈rf,pin,LO⟩,w0:=w,Mu:=fun b=>b∈Bh,U:=fun _=>False,E:=fun _=>0}
   have Ex:vs.length=xs.length:=by
    have: ∀{ts:List TypeId} {ms:List PM} {lo:List Bool} {vs:List Value} {xs:List AV} {rf lf hs:List Nat},DP P w ts ms lo vs xs rf lf hs→vs.length=xs.length:=by
     intro ts ms lo vs xs rf lf hs h
     induction h<;>simp_all
    exact this Ay
   obtain⟨recs,e1,e2,e3,e4,e5,e6,e7,e8⟩:=ztK (c:=c0) (ms0:=s.cx) (vs0:=vs) (fn.params.toList++s.ft) 0 Ck Ay (fun k x hx=>by simp only [E.den,Nat.zero_add];show(xs[k]?).getD .undef=x;rw [hx];rfl) (fun k=>by simp) (fun k=>by simp);have aft:=Cx.ed (c:=c0) (w':=w) (recs:=recs) (fun t g hk=>hk.elim) e4 (fun r _ _ h=>h);have tC: ∀r∈recs,r.tag<100000:=fun r hr=>by have:=e3 r hr;simp only [Nat.zero_add,Ap,Array.length_toList]at this;omega
   let c:Cx:={c0.dz w recs with U:=fun t=>t<100000}
   have TS: ∀b∈rf,(c0.dz w recs).ok b:=by
    intro b hb;refine⟨fun⟨t,ht⟩=> ?_, .inl hb⟩;by_cases hT: ∃r∈recs,r.tag=t
    ·obtain⟨r,hr,rfl⟩:=hT;rw [Cx.eo e4 hr]at ht;exact Gw b (by rw [←e2];exact List.mem_flatMap.2 ⟨r,hr,ht⟩) hb
    ·rw [Cx.dk fun r hr hh=>hT ⟨r,hr,hh⟩]at ht;simp [c0]at ht
   have Ci: ∀(k:Nat) (v:Value) (x:AV),(s.cx[k]?).getD .ro= .ro→vs[k]?=some v→xs[k]?=some x→LO v x:=by
    have key: ∀{ts:List TypeId} {ms:List PM} {lo:List Bool} {vs:List Value} {xs:List AV} {rf lf hs:List Nat},DP P w ts ms lo vs xs rf lf hs→ ∀(k:Nat) (v:Value) (x:AV),(ms[k]?).getD .ro= .ro→vs[k]?=some v→xs[k]?=some x→ ∃f,Rd w [v] [x] f∧ ∀b∈f,b∈rf∨b∈lf:=by
     intro ts ms lo vs xs rf lf hs h
     induction h with
     |nil=>intro k v x _ h _;simp at h
     | @cons t ts ms lo v vs x xs f h rf lf hs Ba _ ih=>
      intro k v' x' h1 h2 h3;cases k with
      |zero=>
       have hm:ms.headD .ro= .ro:=by cases ms<;>exact h1
       rw [hm]at Ba;simp at h2 h3;subst h2;subst h3;exact⟨f,Ba.1,fun b hb=> .inl (by simp [hb])⟩
      |succ k=>obtain⟨f',q1,q2⟩:=ih k v' x' (by cases ms with|nil=>rfl|cons _ _=>simpa using h1) (by simpa using h2) (by simpa using h3);exact⟨f',q1,fun b hb=>(q2 b hb).imp (fun h=>by simp [h]) id⟩
     | @lent t ts ms lo v vs x xs f rf lf hs _ _ hr _ ih=>
      intro k v' x' h1 h2 h3;cases k with
      |zero=>simp at h2 h3;subst h2;subst h3;exact⟨f,hr,fun b hb=> .inr (by simp [hb])⟩
      |succ k=>obtain⟨f',q1,q2⟩:=ih k v' x' (by cases ms with|nil=>rfl|cons _ _=>simpa using h1) (by simpa using h2) (by simpa using h3);exact⟨f',q1,fun b hb=>(q2 b hb).imp id (fun h=>by simp [h])⟩
     | @free ms lo v vs x xs f rf lf hs hr _ ih=>
      intro k v' x' h1 h2 h3;cases k with
      |zero=>simp at h2 h3;subst h2;subst h3;exact⟨f,hr,fun b hb=> .inl (by simp [hb])⟩
      |succ k=>obtain⟨f',q1,q2⟩:=ih k v' x' (by cases ms with|nil=>rfl|cons _ _=>simpa using h1) (by simpa using h2) (by simpa using h3);exact⟨f',q1,fun b hb=>(q2 b hb).imp (fun h=>by simp [h]) id⟩
    intro k v x h1 h2 h3;obtain⟨f,q1,q2⟩:=key Ay k v x h1 h2 h3;exact⟨f,q1,fun b hb hh=>(q2 b hb).elim (Gw b hh) (JP b hh)⟩
   obtain⟨g1,g2⟩:=e8 _ aft TS Ci;have kc:DV (c0.dz w recs) c:=⟨rfl,rfl,fun _ _ hb=>hb,fun _ _ _=>rfl,fun _ _ hk=>⟨hk,rfl⟩,fun _ _ _=>⟨Nat.le_refl _,fun _=>⟨rfl,fun _ _ _=>rfl⟩⟩⟩
   have Jb:fn.params.size+fn.nfree=vs.length:=by rw [Ex,hlen]
   have F3:(ss++(List.range (fn.nfree-s.ft.length)).map fun j=>SV.e (.var (fn.params.size+s.ft.length+j))).length=vs.length:=by rw [Ap,e6,List.length_map,List.length_range,Ap,Array.length_toList];omega
   have g1':SR c (ss++(List.range (fn.nfree-s.ft.length)).map fun j=>SV.e (.var (fn.params.size+s.ft.length+j))) vs:=by
    have:=g1.keep kc;have O4:(fn.params.toList++s.ft).length=fn.params.size+s.ft.length:=by rw [Ap,Array.length_toList]
    rw [show vs.length-(fn.params.toList++s.ft).length=fn.nfree-s.ft.length from by omega]at this;simpa using this
   have hG: ∀t,(∃r∈recs,r.tag=t∧c.G t=⟨r.top, []⟩)∨c.G t=⟨[], []⟩:=fun t=>by
    by_cases hT: ∃r∈recs,r.tag=t
    ·obtain⟨r,hr,rfl⟩:=hT;exact .inl ⟨r,hr,rfl,Cx.eo (w':=w) e4 hr⟩
    ·exact .inr (Cx.dk (w':=w) fun r hr hh=>hT ⟨r,hr,hh⟩)
   have Hs: ∀r∈recs,∀b∈r.top,b∈Bh:=fun r hr b hb=>by rw [←e2];exact List.mem_flatMap.2 ⟨r,hr,hb⟩
   have EU: ∀b∈Bh,b<w.heap.size:=by
    have: ∀{ts:List TypeId} {ms:List PM} {lo:List Bool} {vs:List Value} {xs:List AV} {rf lf hs:List Nat},DP P w ts ms lo vs xs rf lf hs→ ∀b∈hs,b<w.heap.size:=by
     intro ts ms lo vs xs rf lf hs h
     induction h with
     |nil=>simp
     |lent _ _ _ _ ih=>exact ih
     | @cons t ts ms lo v vs x xs f h rf lf hs Ba _ ih=>
      intro b hb;rcases Ai.1 hb with hb|hb
      ·cases hm:ms.headD .ro with
       |ro=>rw [hm]at Ba;rw [Ba.2]at hb;simp at hb
       |va own=>rw [hm]at Ba;obtain⟨_,_,_,hc⟩:=Ba;exact hc.inb.2 b hb
       |mu own=>rw [hm]at Ba;obtain⟨_,_,_,hc⟩:=Ba;exact hc.inb.2 b hb
       |bx own own'=>
        rw [hm]at Ba;obtain⟨_,b0,_,_,_,_,_,hh,_,_,hc,rfl⟩:=Ba;rcases Ag.1 hb with rfl|hb
        ·exact F7 hh
        ·exact hc.inb.2 b hb
      ·exact ih b hb
     |free _ _ ih=>exact ih
    exact this Ay
   have Bo: ∀t e,AE l t=some e→ ∃r∈recs,r.tag=t∧r.bu=e:=fun t e he=>by have:=Jl he;rw [e1]at this;obtain⟨r,hr,Ur⟩:=List.mem_map.1 this;simp only [AU.pair,Prod.mk.injEq]at Ur;exact⟨r,hr,Ur.1,Ur.2⟩
   let F:Fix:=⟨w,⟨fun b=>b∈rf,pin,LO⟩,fun b=>b∈Bh,fun t v h=>by
    simp only [pin,HN]at h;split at h
    ·assumption
    ·cases h⟩
   have As:Rel c fn.ntmps (BJ {sl:=ss++(List.range (fn.nfree-s.ft.length)).map (fun j=>SV.e (.var (fn.params.size+s.ft.length+j)))++List.replicate (fn.ntmps-(fn.params.size+fn.nfree)) .undef,hp:=l,nx:=100000,nv:=fn.params.size+fn.nfree}) (AE l) {tmps:=vs.toArray++Array.replicate (fn.ntmps-vs.toArray.size) undef,defers:= []}:=by
    refine⟨rfl,by simp;omega,⟨rfl,rfl,rfl,Nat.le_refl _,fun t v hp=>⟨?_,fun hk=> ?_⟩,fun b _ _=>rfl,Ev,fun v y h=>h⟩,fun i=> ?_,fun t e hr=> ?_,fun t hn=> ?_,⟨fun t=> ?_,fun t u Nb b hb Cd=> ?_,fun t b hb=> ?_,fun t b hb=> ?_⟩,fun t g hk=> ?_,fun t e he=> ?_⟩
    ·have:=F.oc t v hp;unfold Oh at this;simp only [Ae,decide_eq_true_eq]at this;exact this.1
    ·rcases hk with hk|⟨r,hr,rfl,A1,_⟩
     ·exact hk.elim
     ·exact(aft.new r hr v (e5 r hr v hp)).2.2
    ·have cN:SR c (ss++(List.range (fn.nfree-s.ft.length)).map (fun j=>SV.e (.var (fn.params.size+s.ft.length+j)))++List.replicate (fn.ntmps-(fn.params.size+fn.nfree)) .undef) (vs++List.replicate (fn.ntmps-(fn.params.size+fn.nfree)) undef):=by
      refine g1'.app ?_;have: ∀k,SR c (List.replicate k SV.undef) (List.replicate k undef):=by
       intro k
       induction k with
       |zero=>exact .nil
       |succ k ih=>exact .undef ih
      exact this _
     unfold BJ;simp only;cases hq:(ss++(List.range (fn.nfree-s.ft.length)).map (fun j=>SV.e (.var (fn.params.size+s.ft.length+j)))++List.replicate (fn.ntmps-(fn.params.size+fn.nfree)) SV.undef)[i]? with
     |none=>exact .undef .nil
     |some s'=>
      obtain⟨v',fN,ID⟩:=cN.get hq;have:(vs.toArray++Array.replicate (fn.ntmps-vs.toArray.size) undef).getD i undef=v':=by
       rw [Array.getD_eq_getD_getElem?];have e:(vs.toArray++Array.replicate (fn.ntmps-vs.toArray.size) undef)[i]?=(vs++List.replicate (fn.ntmps-(fn.params.size+fn.nfree)) undef)[i]?:=by rw [←Array.getElem?_toList];simp [Jb]
       rw [e,fN];rfl
      rw [this];exact ID
    ·cases hh:AE l t with
     |none=>rw [hh]at hr;exact hr.elim
     |some e0=>
      obtain⟨r,C7,rfl,rfl⟩:=Bo t e0 hh;have Bn:=(g2 r C7).keep kc rfl rfl (fun g hg=>hg) (fun b _=>rfl);rw [hh]at hr;cases he:r.bu with
      |gd gs e'=>rw [he]at Bn hr;obtain⟨_,rfl⟩:=hr;have A1:=(e3 r C7).2.2;exfalso;exact nT _ _ _ _ _ _ Ck r.tag r.bu (by rw [e1];exact List.mem_map.2 ⟨r,C7,rfl⟩) _ _ he
      |_=>rw [he]at Bn hr;simp only [CD]at hr;subst hr;exact Bn
    ·rcases hG t with⟨r,hr,rfl,hg⟩|hg
     ·exfalso;have Fu:(r.tag,r.bu)∈l:=by rw [e1];exact List.mem_map.2 ⟨r,hr,rfl⟩
      have: ∃e,AE l r.tag=some e:=by
       have: ∀(l:List (Nat × Aj)),(r.tag,r.bu)∈l→ ∃e,AE l r.tag=some e:=by
        intro l
        induction l with
        |nil=>intro h;simp at h
        |cons p l ih=>
         obtain⟨u,f'⟩:=p;intro h;simp only [AE];split
         ·exact⟨_,rfl⟩
         ·rename_i hu;rcases Ag.1 h with h|h
          ·cases h;exact absurd rfl hu
          ·exact ih h
       exact this l Fu
      obtain⟨e,he⟩:=this;obtain⟨r',C7,Na,rfl⟩:=Bo _ _ he;have QF: ∀gs f',r'.bu≠ .gd gs f':=by intro gs f' Cm;exact nT _ _ _ _ _ _ Ck r'.tag r'.bu (by rw [e1];exact List.mem_map.2 ⟨r',C7,rfl⟩) _ _ Cm
      apply hn r'.bu;rw [he];cases eZ:r'.bu with
      |gd gs f'=>exact absurd eZ (QF gs f')
      |_=>simp [CD]
     ·rw [hg];simp
    ·rcases hG t with⟨r,hr,rfl,hg⟩|hg
     ·rw [hg];rw [←e2]at Hu;simpa [GI.own]using(V4 Hu).1 r hr
     ·rw [hg];simp [GI.own]
    ·rcases hG t with⟨r,hr,rfl,hg⟩|hg
     ·rcases hG u with⟨q,hq,rfl,Cm⟩|Cm
      ·rw [hg]at hb;rw [Cm]at Cd;simp only [GI.own,List.append_nil]at hb Cd;rw [←e2]at Hu;obtain⟨i,hi⟩:=List.getElem?_of_mem hr;obtain⟨j,hj⟩:=List.getElem?_of_mem hq;have:=(V4 Hu).2 i j r q b hi hj hb Cd;subst this;rw [hi]at hj;cases hj;exact Nb rfl
      ·rw [Cm]at Cd;simp [GI.own]at Cd
     ·rw [hg]at hb;simp [GI.own]at hb
    ·rcases hG t with⟨r,hr,rfl,hg⟩|hg
     ·rw [hg]at hb;simp only [GI.own,List.append_nil]at hb;exact .inr (Hs r hr b hb)
     ·rw [hg]at hb;simp [GI.own]at hb
    ·rcases hG t with⟨r,hr,rfl,hg⟩|hg
     ·rw [hg]at hb;simp only [GI.own,List.append_nil]at hb;exact EU b (Hs r hr b hb)
     ·rw [hg]at hb;simp [GI.own]at hb
    ·rcases hk with hk|⟨r,hr,rfl,_⟩
     ·exact hk.elim
     ·exact tC r hr
    ·obtain⟨r,hr,rfl,_⟩:=Bo t e he;exact tC r hr
   have TK:Hf F xs {sl:=ss++(List.range (fn.nfree-s.ft.length)).map (fun j=>SV.e (.var (fn.params.size+s.ft.length+j)))++List.replicate (fn.ntmps-(fn.params.size+fn.nfree)) .undef,hp:=l,nx:=100000,nv:=fn.params.size+fn.nfree} {tmps:=vs.toArray++Array.replicate (fn.ntmps-vs.toArray.size) undef,defers:= []} w:=by
    refine⟨c,rfl,rfl,rfl,rfl,rfl,hlen,fun t ht=>ht, ?_⟩;have hl:(ss++(List.range (fn.nfree-s.ft.length)).map (fun j=>SV.e (.var (fn.params.size+s.ft.length+j)))++List.replicate (fn.ntmps-(fn.params.size+fn.nfree)) SV.undef).length=fn.ntmps:=by rw [Ap,F3,List.length_replicate];omega
    show Rel c (ss++(List.range (fn.nfree-s.ft.length)).map (fun j=>SV.e (.var (fn.params.size+s.ft.length+j)))++List.replicate (fn.ntmps-(fn.params.size+fn.nfree)) SV.undef).length _ _ _;rw [hl];exact As
   refine calls_of_wp Hp Ef ?_;have s6:Kx (fun _ _ _ _=>False):=fun _ _ _ _ _ _ h=>h;have cV:=Tr.fw _ s6 t0 EO hd;refine zz9 (zCM eL (zH0 (sg:={sg with dp:=s.dp,wn:=s.wn,fz:=s.fz}) J6) zG1) zDi code [] _ _ t0 hex F (fun r'=>r'=r) _ [] xs _ w (V9 s6 _ _) cV TK _ fun i x τ ρ' a' w' hp hl C8=> ?_;obtain⟨tr,d',q1,q2,q3⟩:=hl;have main:XL P fn s τ=some tr→a'.defers= []∧ ∃v,(results fn a'.tmps).run P w'= .ok v w'∧ ∃v',Ending.returned v= .returned v'∧yD P fn s w vs rf Bh r v' w':=by
    intro Cl;obtain⟨c2,rfl,rfl,k1,k2,k3,k4,k5,k6⟩:=C8;unfold XL at Cl;split at Cl
    ·rename_i rs bx us DK QD;split at Cl
     ·rename_i es vs' Iz O1;split at Cl
      ·cases Cl
      rename_i TU;simp only [Bool.or_eq_true,Bool.not_eq_true',not_or,Bool.not_eq_false,Bool.not_eq_true]at TU;obtain⟨Co,Xb⟩:=TU;have Co:=SD Co;simp only [Ah]at Cl;subst Cl;have hr:_=r:=q3;obtain⟨rvs,z1,z2,z3⟩:=zwc k6 fn DK;obtain⟨f1,y1,y2⟩:=zqx (P:=P) k6 fn.resultTypes.toList O1 z1 Iz (Nat.le_refl _);obtain⟨f2,o2,x1,x2,x3⟩:=zqD (P:=P) k6 (w0:=w) (ms0:=s.cx) (vs0:=vs) (fun t=>by rw [k2]) (fn.params.toList++s.ft) 0 QD Ay (fun k=>by simp) (fun k=>by simp);refine⟨k6.defers,_,z3,_,rfl,⟨?_, ?_⟩⟩
      ·
       have hR: ∃R,R=(match es with| .cons x .nil=>x|es=>E.tup es).den c2.ρ∧KQ P c2.w fn.resultTypes.toList s.res (match rvs with| [u]=>u|us=> .tuple us.toArray) R f1 (vs'.flatMap fun t=>(c2.G t).top):=by
        refine⟨_,rfl, ?_⟩;have yl:es.den c2.ρ=es.den c2.ρ:=rfl;generalize Uz:fn.resultTypes.toList=ts at y1 ⊢;generalize CP:es.den c2.ρ=ys at y1;generalize (vs'.flatMap fun t=>(c2.G t).top)=o1 at y1 ⊢;cases y1 with
        |nil=>
         cases es with
         |nil=>exact⟨[], [],rfl,by simp [E.den,EL.den], .nil⟩
         |cons e es=>simp [EL.den]at CP
        | @cons t ts fl v vs2 x xs2 f h rf2 A6 w1 w2=>
         cases w2 with
         |nil=>
          cases es with
          |nil=>simp [EL.den]at CP
          |cons e es=>
           cases es with
           |nil=>simp only [EL.den,List.cons.injEq,and_true]at CP;subst CP;simpa [KQ]using w1
           |cons e2 es=>simp [EL.den]at CP
         | @cons t2 ts2 fl2 v2 vs3 x2 xs3 f2' h2 rf3 Fw w3 w4=>
          cases es with
          |nil=>simp [EL.den]at CP
          |cons e es=>
           cases es with
           |nil=>simp [EL.den]at CP
           |cons e2 es=>refine⟨v::v2::vs3,x::x2::xs3,rfl, ?_, .cons w1 (.cons w3 w4)⟩;simp only [E.den,CP]
       obtain⟨R,hR1,HX⟩:=hR;have BH: ∀b∈(vs'.flatMap fun t=>(c2.G t).top)++o2,∃t∈vs'++us,b∈(c2.G t).top:=fun b hb=>by
        rcases Ai.1 hb with hb|hb
        ·obtain⟨t,ht,CK⟩:=List.mem_flatMap.1 hb;exact⟨t,by simp [ht],CK⟩
        ·rw [x2]at hb;obtain⟨t,ht,CK⟩:=List.mem_flatMap.1 hb;exact⟨t,by simp [ht],CK⟩
       have JJ: ∀b t,b∈(c2.G t).top→b∈Bh∨w.heap.size≤b:=fun b t hb=>by
        rcases k6.gw.allow t b (by simp [GI.own,hb])with h|h
        ·simp only [Cx.B,k1]at h;exact .inr h
        ·rw [k3]at h;exact .inl h
       refine⟨R,bx.map (E.den c2.ρ),f1,_,f2,o2, ?_,HX,x1, ?_,fun b hb=> ?_,fun b hb=> ?_⟩
       ·rw [←hr,hR1];cases bx with
        |nil=>rfl
        |cons b bx=>simp only [List.isEmpty_cons,AX,if_false,E.den,EL.dt,List.map_cons];rfl
       ·rw [x2,←List.flatMap_append];have: ∀l:List Nat,l.Nodup→(l.flatMap fun t=>(c2.G t).top).Nodup:=by
         intro l
         induction l with
         |nil=>intro _;simp
         |cons t l ih=>intro hl;rw [List.nodup_cons]at hl;rw [List.flatMap_cons,List.nodup_append];refine⟨(List.nodup_append.1 (k6.gw.nodup t)).1,ih hl.2,fun x hx y hy HB=> ?_⟩;subst HB;obtain⟨u,hu,fW⟩:=List.mem_flatMap.1 hy;exact k6.gw.cz t u (fun hh=>hl.1 (hh▸hu)) x (by simp [GI.own,hx]) (by simp [GI.own,fW])
        exact this _ Co
       ·obtain⟨t,ht,CK⟩:=BH b hb;exact⟨JJ b t CK,k6.gw.inb t b (by simp [GI.own,CK])⟩
       ·have IC:c2.fj (WT P τ fn.resultTypes.toList s.res rs++Qr P τ 0 (fn.params.toList++s.ft) s.cx) b:=by
         rcases Ai.1 hb with hb|hb
         ·exact(y2 b hb).mono fun t ht=>by simp [ht]
         ·exact(x3 b hb).mono fun t ht=>by simp [ht]
        rcases IC with Aw|⟨t,ht,CK⟩
        ·refine⟨fun ho=> ?_, ?_⟩
         ·obtain⟨u,_,Iy⟩:=BH b ho;exact Aw.1 ⟨u,Iy⟩
         ·rcases Aw.2 with h|h|h
          ·rw [k2]at h;exact .inl h
          ·simp only [Cx.B,k1]at h;exact .inr (.inr h)
          ·rw [k3]at h;exact .inr (.inl h)
        ·refine⟨fun ho=> ?_, .inr (JJ b t CK)⟩;obtain⟨u,hu,Iy⟩:=BH b ho;have Nb:t≠u:=by
          rintro rfl;rw [List.any_eq_false]at Xb;have:=Xb t ht;simp only [List.contains_eq_mem,decide_eq_true_eq]at this;exact this hu
         exact k6.gw.cz t u Nb b (by simp [GI.own,CK]) (by simp [GI.own,Iy])
      ·have hb:=k6.base;refine⟨?_, ?_, ?_, ?_,fun k hk hn=> ?_⟩
       ·rw [hb.os,k1]
       ·rw [hb.tape,k1]
       ·rw [hb.output,k1]
       ·have:=hb.size;rw [k1]at this;exact this
       ·have:=hb.block k (by rw [k1];exact hk) (by rw [k3];exact hn);rw [k1]at this;exact this
     ·cases Cl
    ·cases Cl
   cases x with
   |normal=>exact main q1
   |ret=>exact main q1
   |exit id=>cases q1
  ·cases EO
 ·cases EO
end Go.Proofs.YtbmbkgalkfmjdaaGreatDoor
end

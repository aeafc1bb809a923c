/- Parts of a proof, joined: WT, WU, WV, WW. -/
import Derived.Test.YtmbknelgbjlhnaaGreatG5
set_option linter.unusedVariables false
set_option linter.unusedSimpArgs false
section
namespace Go.Proofs.YtmbknelgbjlhnaaGreat
open Go.RowKit
def F4 (ms:List PM) (vs:List Value) (t:Nat):Option Value:=
 if Lj t then(match vs[t/1000]?,(ms[t/1000]?).getD .ro with
  |some v, .bx .. =>if t % 1000=0 then some v else none
  |some v, .mu _=>if 500≤t % 1000 then v.cells[t % 1000-500]? else none
  |_,_=>none)
 else none
section
variable {P:Program} {c:Cx} {w:World}
theorem B5.iv {ts:List TypeId} {fl:List Bool} {us:List Value} {ys:List AV} {rf hs:List Nat} (h:B5 P w ts fl us ys rf hs) {nx:Nat} {mk:Nat→E} {j:Nat}: ∀(k:Nat) (u:Value),us[k]?=some u→(∃e,(nx+j+k,e)∈(Cm P nx mk j ts fl).2)→u.cells= #[u]:=by
 induction h generalizing j with
 |nil=>intro k u hu _;simp at hu
 | @deep t ts fl el e9 z9 l9 u us y ys top rf hs h1 h2 Pn MZ h3 _ ih=>
  intro k u' hu he;cases k with
  |zero=>simp at hu;subst hu;obtain⟨p,q,r,rfl⟩:=h3.head;rfl
  |succ k=>
   refine ih (j:=j+1) k u' (by simpa using hu) ?_;obtain⟨e,he⟩:=he;simp only [Cm,h1,h2,Ae,Prod.mk.injEq]at he;rcases he with⟨he,_⟩|he
   ·omega
   ·exact⟨e,by rw [show nx+(j+1)+k=nx+j+(k+1)from by omega];exact he⟩
 | @own t ts fl el u us y ys top N rf hs h1 h2 Po h3 _ ih=>
  intro k u' hu he;cases k with
  |zero=>simp at hu;subst hu;obtain⟨xs,_,_,_,⟨_,⟨a,rfl⟩,_⟩|⟨g,cap,C,rfl,_⟩⟩:=h3<;>rfl
  |succ k=>
   refine ih (j:=j+1) k u' (by simpa using hu) ?_;obtain⟨e,he⟩:=he;simp only [Cm,h1,h2,Ae,Prod.mk.injEq]at he;rcases he with⟨he,_⟩|he
   ·omega
   ·exact⟨e,by rw [show nx+(j+1)+k=nx+j+(k+1)from by omega];exact he⟩
 | @rd t ts fl u us y ys f rf hs h1 h3 _ ih=>
  intro k u' hu he;obtain⟨e,he⟩:=he;have Yt:(Cm P nx mk j (t::ts) fl).2=(Cm P nx mk (j+1) ts fl.tail).2:=by
   simp only [Cm];split
   ·rename_i h8 h9;rw [h1 h8]at h9;cases h9
   ·rfl
  rw [Yt]at he;cases k with
  |zero=>
   exfalso;have key: ∀(ts:List TypeId) (fl:List Bool) (j' t':Nat) (e':Ad),(t',e')∈(Cm P nx mk j' ts fl).2→nx+j'≤t':=by
    intro ts
    induction ts with
    |nil=>intro fl j' t' e' h;simp [Cm]at h
    |cons a ts ih2=>
     intro fl j' t' e' h;simp only [Cm]at h;split at h
     ·simp only [Ae,Prod.mk.injEq]at h;rcases h with⟨h,_⟩|h
      ·omega
      ·have:=ih2 _ _ _ _ h;omega
     ·have:=ih2 _ _ _ _ h;omega
   have:=key _ _ _ _ _ he;omega
  |succ k=>exact ih (j:=j+1) k u' (by simpa using hu) ⟨e,by rw [show nx+(j+1)+k=nx+j+(k+1)from by omega];exact he⟩
theorem mY {i b:Nat} (hb:b+400≤1000) {t:TypeId} {own:List Bool} {s:SV} {l:List (Nat × Ad)} {v:Value} {x:AV} {rf hs:List Nat} (h:O2 P i b t own=some (s,l)) (hv:Pd P w t own v x rf hs) (hx:(E.var i).den c.ρ=x):
  ∃recs:List AD,l=recs.map AD.pair∧recs.flatMap AD.top=hs∧(∀r∈recs,1000*i+b≤r.tag∧r.tag<1000*i+1000∧r.new.isSome)∧(recs.map AD.tag).Nodup∧(∀r∈recs,r.new=v.cells[r.tag-(1000*i+b)]?)∧
   ∀c',D7 c c' w recs→(∀b∈rf,c'.ok b)→SR c' [s] [v]∧ ∀r∈recs,CD c' r.tag r.bt:=by
 obtain⟨us,ys,hg,hc⟩:=hv;unfold O2 at h;simp only at h;split at h
 ·cases h
 rename_i hle;split at hg
 ·rename_i Au;obtain⟨rfl,rfl,Cr⟩:=hg;obtain⟨recs,e1,e2,e3,e4,e4',e5⟩:=Oe (c:=c) (nx:=1000*i+b) (mk:=CU (.var i) (Ak P t)) hc 0 (by rw [Au];exact Sm hx);rw [if_pos Au]at h;simp only [Ab,Prod.mk.injEq]at h;obtain⟨rfl,rfl⟩:=h;refine⟨recs,e1,e2,fun r hr=>by have:=e3 r hr;exact⟨by omega,by omega,this.2.2⟩,e4,fun r hr=>by rw [e4' r hr];simp [Value.cells],fun c' ha AF=> ?_⟩;obtain⟨q1,q2⟩:=e5 c' ha AF;exact⟨.agg Cr (by rw [Bb.az];exact q1) .nil,q2⟩
 ·rename_i Au;obtain⟨rfl,rfl⟩:=hg;have FG:Ak P t=false:=by simpa using Au
  obtain⟨recs,e1,e2,e3,e4,e4',e5⟩:=Oe (c:=c) (nx:=1000*i+b) (mk:=CU (.var i) (Ak P t)) hc 0 (by
   intro k z hz;cases k with
   |zero=>simp at hz;subst hz;rw [FG];simpa [CU]using hx
   |succ k=>simp at hz)
  rw [if_neg Au]at h;split at h
  ·rename_i s' AY;simp only [Ab,Prod.mk.injEq]at h;obtain⟨rfl,rfl⟩:=h;refine⟨recs,e1,e2,fun r hr=>by have:=e3 r hr;exact⟨by omega,by omega,this.2.2⟩,e4,fun r hr=> ?_,fun c' ha AF=> ?_⟩
   ·have C6:=e4' r hr;have h3:=e3 r hr;rw [C6,Nat.add_zero];have hlen:=hc.len;have YJ:r.tag-(1000*i+b)=0:=by
     have:=hlen.1;simp at this;omega
    rw [YJ];have:=hc.iv (nx:=1000*i+b) (mk:=CU (.var i) (Ak P t)) (j:=0) 0 v rfl ⟨r.bt,by rw [e1];exact List.mem_map.2 ⟨r,hr,by simp [AD.pair];omega⟩⟩;rw [this];rfl
   ·obtain⟨q1,q2⟩:=e5 c' ha AF;rw [AY]at q1;exact⟨q1,q2⟩
  ·cases h
theorem nF {ms0:List PM} {vs0:List Value}: ∀(ts:List TypeId) (i:Nat) {ms:List PM} {lo:List Bool} {ss:List SV} {l:List (Nat × Ad)} {vs:List Value} {xs:List AV} {rf lf hs:List Nat},Ld P i ts ms lo=some (ss,l)→CT P w ts ms lo vs xs rf lf hs→(∀k x,xs[k]?=some x→(E.var (i+k)).den c.ρ=x)→(∀k,ms[k]?=ms0[i+k]?)→(∀k,vs[k]?=vs0[i+k]?)→
  ∃recs:List AD,l=recs.map AD.pair∧recs.flatMap AD.top=hs∧(∀r∈recs,1000*i≤r.tag∧r.tag<1000*(i+ts.length)∧r.new.isSome)∧(recs.map AD.tag).Nodup∧(∀r∈recs,∀v,F4 ms0 vs0 r.tag=some v→r.new=some v)∧ss.length=ts.length∧ts.length≤vs.length∧
   ∀c',D7 c c' w recs→(∀b∈rf,c'.ok b)→(∀(k:Nat) (v:Value) (x:AV),(ms[k]?).getD .ro= .ro→vs[k]?=some v→xs[k]?=some x→c'.A.lo v x)→SR c' (ss++(List.range (vs.length-ts.length)).map fun j=>SV.e (.var (i+ts.length+j))) vs∧ ∀r∈recs,CD c' r.tag r.bt
 | [],i,ms,lo,ss,l,vs,xs,rf,lf,hs,h,ha,hx,_,_=>by
  simp [Ld]at h;obtain⟨rfl,rfl⟩:=h;have key: ∀{ms:List PM} {lo:List Bool} {vs:List Value} {xs:List AV} {rf lf hs:List Nat},CT P w [] ms lo vs xs rf lf hs→hs= []∧Rd w vs xs rf:=by
   intro ms lo vs
   induction vs generalizing ms lo with
   |nil=>intro xs rf lf hs h;cases h;exact⟨rfl, .nil⟩
   |cons v vs ih=>
    intro xs rf lf hs h;cases h with
    |free h1 h2=>obtain⟨rfl,h3⟩:=ih h2;exact⟨rfl,h1.app h3⟩
  obtain⟨rfl,C8⟩:=key ha;refine⟨[],rfl,rfl,by simp,by simp,by simp,rfl,by simp,fun c' Ex AF _=>⟨?_,by simp⟩⟩;have frees: ∀(vs:List Value) {xs:List AV} {rf:List Nat} (j:Nat),Rd w vs xs rf→(∀k x,xs[k]?=some x→(E.var (i+j+k)).den c.ρ=x)→(∀b∈rf,c'.ok b)→SR c' ((List.range vs.length).map fun q=>SV.e (.var (i+j+q))) vs:=by
   intro vs
   induction vs with
   |nil=>intro xs rf j h _ _;simpa using SR.nil
   |cons v vs ih=>
    intro xs rf j h hx AF;cases xs with
    |nil=>have:=h.len;simp at this
    |cons x xs=>
     obtain⟨f1,f2,rfl,h1,h2⟩:=h.cv;have h3:=ih (j+1) h2 (fun k y hy=>by rw [show i+(j+1)+k=i+j+(k+1)from by omega];exact hx (k+1) y (by simpa using hy)) fun b hb=>AF b (by simp [hb]);rw [AL,List.range_succ_eq_map,List.map_cons,List.map_map];refine SR.cons (.e (f:=f1) (by rw [Ex.w,Ex.ρ];have:=hx 0 x rfl;simp only [Nat.add_zero]at this ⊢;rw [this];exact h1) (fun b hb=>AF b (by simp [hb])) .nil) ?_;have e:((fun q=>SV.e (.var (i+j+q)))∘Nat.succ)=fun q=>SV.e (.var (i+(j+1)+q)):=by funext q;simp only [Function.comp_apply];rw [show i+j+q.succ=i+(j+1)+q from by omega]
     rw [e];exact h3
  simpa using frees vs 0 C8 (by simpa using hx) AF
 |t::ts,i,ms,lo,ss,l,vs,xs,rf,lf,hs,h,ha,hx,DO,IB=>by
  unfold Ld at h;split at h
  ·rename_i s l1 ss' l2 h1 h2;simp only [Ab,Prod.mk.injEq]at h;obtain⟨rfl,rfl⟩:=h;obtain⟨v,vs,x,xs,f,hh,rf,lf,hs,rfl,rfl,rfl,rfl,DR,AR⟩: ∃v vs' x xs' f hh rf' lf' AY,vs=v::vs'∧xs=x::xs'∧rf=f++rf'∧hs=hh++AY∧CT P w ts ms.tail lo.tail vs' xs' rf' lf' AY∧(ZQ P w t (ms.headD .ro) v x f hh∨(lo.headD false=true∧ms.headD .ro= .ro∧f= []∧hh= [])):=by
    cases ha with
    |cons h1 h2=>exact⟨_,_,_,_,_,_,_,_,_,rfl,rfl,rfl,rfl,h2, .inl h1⟩
    |lent h1 h2 h3 h4=>exact⟨_,_,_,_, [], [],_,_,_,rfl,rfl,by simp,by simp,h4, .inr ⟨h1,h2,rfl,rfl⟩⟩
   have Dt:ms.headD .ro=(ms0[i]?).getD .ro:=by have:=DO 0;rw [Nat.add_zero]at this;rw [←this];cases ms<;>rfl
   have L7:vs0[i]?=some v:=by have:=IB 0;simpa using this.symm
   have Gj:(E.var i).den c.ρ=x:=by simpa using hx 0 x rfl
   obtain⟨r2,b1,b2,b3,b4,b4',b6,b7,b5⟩:=nF ts (i+1) h2 DR (fun k y hy=>by rw [show i+1+k=i+(k+1)from by omega];exact hx (k+1) y (by simpa using hy)) (fun k=>by rw [show i+1+k=i+(k+1)from by omega,←DO (k+1)];cases ms<;>simp) (fun k=>by rw [show i+1+k=i+(k+1)from by omega,←IB (k+1)];simp);have fin: ∀(r1:List AD),l1=r1.map AD.pair→r1.flatMap AD.top=hh→(∀r∈r1,1000*i≤r.tag∧r.tag<1000*i+1000∧r.new.isSome)→(r1.map AD.tag).Nodup→(∀r∈r1,∀v,F4 ms0 vs0 r.tag=some v→r.new=some v)→
     (∀c',D7 c c' w r1→(∀b∈f,c'.ok b)→(ms.headD .ro= .ro→c'.A.lo v x)→SR c' [s] [v]∧ ∀r∈r1,CD c' r.tag r.bt)→
     ∃recs:List AD,l1++l2=recs.map AD.pair∧recs.flatMap AD.top=hh++hs∧(∀r∈recs,1000*i≤r.tag∧r.tag<1000*(i+(t::ts).length)∧r.new.isSome)∧(recs.map AD.tag).Nodup∧(∀r∈recs,∀v,F4 ms0 vs0 r.tag=some v→r.new=some v)∧(s::ss').length=(t::ts).length∧(t::ts).length≤(v::vs).length∧
      ∀c',D7 c c' w recs→(∀b∈f++rf,c'.ok b)→(∀(k:Nat) (v':Value) (x':AV),(ms[k]?).getD .ro= .ro→(v::vs)[k]?=some v'→(x::xs)[k]?=some x'→c'.A.lo v' x')→SR c' ((s::ss')++(List.range ((v::vs).length-(t::ts).length)).map fun j=>SV.e (.var (i+(t::ts).length+j))) (v::vs)∧ ∀r∈recs,CD c' r.tag r.bt:=by
    intro r1 a1 a2 a3 a4 a4' a5;refine⟨r1++r2,by simp [a1,b1],by simp [a2,b2],fun r hr=> ?_, ?_,fun r hr=> ?_,by simp [b6],by simp [b7],fun c' Ex AF BV=> ?_⟩
    ·simp only [AL];rcases Ag.1 hr with hr|hr
     ·have:=a3 r hr;exact⟨this.1,by omega,this.2.2⟩
     ·have:=b3 r hr;exact⟨by omega,by omega,this.2.2⟩
    ·rw [List.map_append,List.nodup_append];refine⟨a4,b4,fun t1 Qn t2 Qo he=> ?_⟩;obtain⟨q1,KF,rfl⟩:=List.mem_map.1 Qn;obtain⟨q2,Gf,rfl⟩:=List.mem_map.1 Qo;have:=a3 q1 KF;have:=b3 q2 Gf;omega
    ·rcases Ag.1 hr with hr|hr
     ·exact a4' r hr
     ·exact b4' r hr
    ·obtain⟨p1,p2⟩:=a5 c' (Ex.mono fun r hr=>by simp [hr]) (fun b hb=>AF b (by simp [hb])) fun hl=>BV 0 v x (by cases ms<;>exact hl) rfl rfl;obtain⟨q1,q2⟩:=b5 c' (Ex.mono fun r hr=>by simp [hr]) (fun b hb=>AF b (by simp [hb])) fun k v' x' k1 k2 k3=>BV (k+1) v' x' (by cases ms with|nil=>rfl|cons b l=>simpa using k1) (by simpa using k2) (by simpa using k3);refine⟨?_,fun r hr=> ?_⟩
     ·have:=p1.cons q1;have e:(fun j=>SV.e (.var (i+1+ts.length+j)))=fun j=>SV.e (.var (i+(t::ts).length+j)):=by
       funext j;simp only [AL];rw [show i+1+ts.length+j=i+(ts.length+1)+j from by omega]
      rw [e]at this;simpa using this
     ·rcases Ag.1 hr with hr|hr
      ·exact p2 r hr
      ·exact q2 r hr
   have pinMu: ∀{own:List Bool} {r:AD},ms.headD .ro= .mu own→1000*i+500≤r.tag→r.tag<1000*i+1000→r.new=v.cells[r.tag-(1000*i+500)]?→ ∀v',F4 ms0 vs0 r.tag=some v'→r.new=some v':=by
    intro own r hm t1 t2 hn v' hp;unfold F4 at hp;split at hp
    ·rw [show r.tag/1000=i from by omega,L7,←Dt,hm]at hp;simp only at hp;split at hp
     ·rw [hn,show r.tag-(1000*i+500)=r.tag % 1000-500 from by omega];exact hp
     ·cases hp
    ·cases hp
   have pinVa: ∀{own:List Bool} {r:AD},ms.headD .ro= .va own→1000*i≤r.tag→r.tag<1000*i+1000→ ∀v',F4 ms0 vs0 r.tag=some v'→r.new=some v':=by
    intro own r hm t1 t2 v' hp;unfold F4 at hp;split at hp
    ·rw [show r.tag/1000=i from by omega,L7,←Dt,hm]at hp;simp at hp
    ·cases hp
   cases hm:ms.headD .ro with
   |ro=>
    rw [hm]at h1 AR;simp only [XM,Ab,Prod.mk.injEq]at h1;obtain⟨rfl,rfl⟩:=h1;have rZ:hh= []:=by rcases AR with⟨_,h⟩|⟨_,_,_,h⟩<;>exact h
    subst rZ;by_cases BV:lo.headD false=true
    ·exact fin [] rfl rfl (by simp) (by simp) (by simp) fun c' Ex AF hl=>⟨by rw [if_pos BV];exact .lent (by rw [Ex.ρ,Gj];exact hl hm) .nil,by simp⟩
    ·rcases AR with⟨g1,_⟩|⟨h,_⟩
     ·exact fin [] rfl rfl (by simp) (by simp) (by simp) fun c' Ex AF _=>⟨by rw [if_neg BV];exact .e (f:=f) (by rw [Ex.w,Ex.ρ,Gj];exact g1) AF .nil,by simp⟩
     ·exact absurd h BV
   |va own=>
    rw [hm]at h1 AR
    replace AR:=AR.resolve_right fun h=>by cases h.2.1
    obtain⟨r1,a1,a2,a3,a4,a4',a5⟩:=mY (c:=c) (by omega) h1 AR Gj;exact fin r1 a1 a2 (fun r hr=>by have:=a3 r hr;exact⟨by omega,this.2⟩) a4 (fun r hr=>by have:=a3 r hr;exact pinVa hm (by omega) this.2.1) fun c' Ex AF _=>a5 c' Ex AF
   |mu own=>
    rw [hm]at h1 AR
    replace AR:=AR.resolve_right fun h=>by cases h.2.1
    obtain⟨r1,a1,a2,a3,a4,a4',a5⟩:=mY (c:=c) (by omega) h1 AR Gj;exact fin r1 a1 a2 (fun r hr=>by have:=a3 r hr;exact⟨by omega,this.2⟩) a4 (fun r hr=>by have:=a3 r hr;exact pinMu hm this.1 this.2.1 (a4' r hr)) fun c' Ex AF _=>a5 c' Ex AF
   |bx own own'=>
    rw [hm]at h1 AR
    replace AR:=AR.resolve_right fun h=>by cases h.2.1
    obtain⟨ty,b,C,ys,h9,g1,rfl,g3,g4,rfl,g6,rfl⟩:=AR;simp only [XM,g1]at h1;split at h1
    ·cases h1
    rename_i hle;simp only [Ab,Prod.mk.injEq]at h1;obtain⟨rfl,rfl⟩:=h1;obtain⟨recs,e1,e2,e3,e4,e4',e5⟩:=Oe (c:=c) (nx:=1000*i+1) (mk:=CU (.deref (.var i)) true) g6 0 (Sm (by simp only [E.den]at Gj ⊢;rw [Gj];rfl));refine fin (⟨1000*i,some (.pointer (some ⟨b,0,none⟩)), [b], .box ty (Ak P ty) (Cm P (1000*i+1) (CU (.deref (.var i)) true) 0 (AZ P ty) own).1⟩::recs) (by simp [e1,AD.pair]) (by simp [e2]) (fun r hr=> ?_) ?_ (fun r hr v' hp=> ?_) fun c' Ex AF _=> ?_
    ·rcases Ae.1 hr with rfl|hr
     ·simp
     ·have:=e3 r hr;exact⟨by omega,by omega,this.2.2⟩
    ·simp only [List.map_cons,List.nodup_cons];refine⟨fun hm=> ?_,e4⟩;obtain⟨r,hr,H2⟩:=List.mem_map.1 hm;have:=e3 r hr;omega
    ·rcases Ae.1 hr with rfl|hr
     ·unfold F4 at hp;simp only at hp;split at hp
      ·rw [show 1000*i/1000=i from by omega,L7,←Dt,hm]at hp;simp at hp;simpa using hp
      ·cases hp
     ·have h3:=e3 r hr;unfold F4 at hp;split at hp
      ·rw [show r.tag/1000=i from by omega,L7,←Dt,hm]at hp;simp only at hp;split at hp
       ·omega
       ·cases hp
      ·cases hp
    ·obtain⟨q1,q2⟩:=e5 c' (Ex.mono fun r hr=>by simp [hr]) AF;obtain⟨k1,k2,k3⟩:=Ex.new _ (List.mem_cons_self ..) _ rfl;have kg:=Ex.G _ (List.mem_cons_self ..);simp only at k1 k3 kg;refine⟨.cy k1 k3 .nil,fun r hr=> ?_⟩;rcases Ae.1 hr with rfl|hr
     ·exact⟨b,C,k1,k3,by rw [kg],by rw [kg],by rw [Ex.w];exact g3,g4,q1⟩
     ·exact q2 r hr
  ·cases h
end
section
variable {P:Program} {c:Cx} {n:Nat} {a:Act} {τ:St}
theorem kU (h:Rel c n (Bd τ) (Aw τ.hp) a):EH c (Aw τ.hp):=fun t e hr=>h.ents t e hr
theorem o6 {hp:Nat→Option Ad} {t:Nat} {e:Ad} (h:hp t=some e) (hn: ∀hs f,e≠ .gd hs f):look hp [] t=some e:=by
 simp only [look,h,Aa,Kg]
 all_goals (cases e<;>first|rfl|exact absurd rfl (hn _ _))
theorem mP (h:Rel c n (Bd τ) (Aw τ.hp) a) {u g:Nat} {e z:Nat} {x:E} {d:Bool} (hu:Aw τ.hp u=some (.row e z g x d)):c.K u g∧ ∃N,CK c.w e z (c.H u g) (x.den c.ρ) (c.G u).top N∧(∀b∈N,c.ok b)∧(d=true→N= []):=by obtain⟨p1,p2,N,p3,p4,p5,_⟩:=h.ents u _ (by rw [hu];rfl);exact⟨p1,N,p3,p4,fun hd=>(p5 hd).1⟩
theorem pU {t e:TypeId} {d:Bool} {N:List Nat} (hd:d=true→N= []) (h:BM P e=true∧d=true∨BM P e=false∧(Dm P t).isNone=true):BM P e=true∧N= []∨BM P e=false∧Dm P t=none:=by
 rcases h with⟨h1,h2⟩|⟨h1,h2⟩
 ·exact .inl ⟨h1,hd h2⟩
 ·exact .inr ⟨h1,by simpa using h2⟩
theorem WV (h:Rel c n (Bd τ) (Aw τ.hp) a): ∀(ts:List TypeId) {fl:List Bool} {cs:List SV} {l:List Nat} {us:List Value} {xs:EL} {m:Nat},J7 P τ ts fl cs=some l→SR c cs us→BZ (Aw τ.hp) [] m cs=some xs→m≤AN→
  ∃f,B5 P c.w ts fl us (xs.den c.ρ) f (l.flatMap fun t=>(c.G t).top)∧ ∀b∈f,c.fg (It P τ ts fl cs) b
 | [],fl, [],l,us,xs,m,ho,hs,hx,hm=>by
  simp [J7]at ho;subst ho;cases hs;cases m with
  |zero=>simp [BZ]at hx
  |succ m=>simp [BZ]at hx;subst hx;exact⟨[], .nil,by simp⟩
 | [],fl,s::cs,l,us,xs,m,ho,hs,hx,hm=>by simp [J7]at ho
 |t::ts,fl, [],l,us,xs,m,ho,hs,hx,hm=>by simp [J7]at ho
 |t::ts,fl,s::cs,l, [],xs,m,ho,hs,hx,hm=>by have:=hs.len;simp at this
 |t::ts,fl,s::cs,l,v::us,xs,m,ho,hs,hx,hm=>by
  obtain⟨j,y,ys,rfl,hy,CN,rfl⟩:=IV hx;obtain⟨r1,r2⟩:=hs.cv;unfold J7 at ho;split at ho
  ·cases ho
  rename_i l' CB;obtain⟨f,q1,q2⟩:=WV h ts CB r2 CN (by omega);split at ho
  ·rename_i e hf Bc;have EX:It P τ (t::ts) fl (s::cs)=It P τ ts fl.tail cs:=by
    simp only [It,hf,Bc,Option.isSome_some,Bool.and_self,if_true,List.nil_append]
   split at ho
   ·cases ho
   rename_i hz;split at ho
   ·simp only [Ab]at ho;subst ho;cases r1 with
    |cr _=>refine⟨f, ?_,by rw [EX];exact q2⟩;rw [EL.den,JS hy];exact B5.void hf Bc (by omega) q1
   ·rename_i u g;split at ho
    ·rename_i e' z g' x d hu;split at ho
     ·rename_i hh;obtain⟨rfl,rfl,rfl,FL⟩:=hh;simp only [Ab]at ho;subst ho;obtain⟨p1,N,p2,p3,p4⟩:=mP h hu;have FL:=pU p4 FL;have hl:=o6 hu (by simp);have GU:y=x:=by
       cases j with
       |zero=>simp [A5]at hy
       |succ j=>simp [A5,GY,hl]at hy;exact hy.symm
      subst GU;have hv:c.H u g=v:=by
       cases r1 with
       |own _ k2 _=>exact k2
      rw [hv]at p2;refine⟨N++f,B5.own hf Bc FL p2 q1,fun b hb=> ?_⟩;rw [EX];rcases Ag.1 hb with hb|hb
      ·exact .inl (p3 b hb)
      ·exact q2 b hb
     ·cases ho
    ·rename_i e' z dl g' ep x hu;split at ho
     ·rename_i hh;obtain⟨rfl,E3,C2⟩:=hh;have C2:=WZ C2;simp only [Ab]at ho;subst ho;obtain⟨p1,_,_,p2,_⟩:=h.ents u _ (by rw [hu];rfl);have hl:=o6 hu (by simp);have GU:y=x:=by
       cases j with
       |zero=>simp [A5]at hy
       |succ j=>simp [A5,GY,hl]at hy;exact hy.symm
      subst GU;have hv:c.H u g=v:=by
       cases r1 with
       |own _ k2 _=>exact k2
      rw [hv]at p2;exact⟨f,B5.deep hf Bc E3 C2 p2 q1,by rw [EX];exact q2⟩
     ·cases ho
    ·cases ho
   ·cases ho
  ·rename_i DP;simp only [Ab]at ho;subst ho;have hn:fl.headD false=true→Cv P t=none:=fun hf=>by
    cases Bc:Cv P t with
    |none=>rfl
    |some e=>exact absurd Bc (DP e hf)
   obtain⟨f1,p1,p2⟩:=Gt (kU h) (D3 _) j hy r1 AN (by omega);refine⟨f1++f,B5.rd hn p1 q1,fun b hb=> ?_⟩;have EX:It P τ (t::ts) fl (s::cs)=Bv (Aw τ.hp) [] (AN+1) [s]++It P τ ts fl.tail cs:=by
    have:(fl.headD false&&(Cv P t).isSome)=false:=by
     cases hf:fl.headD false with
     |false=>rfl
     |true=>rw [hn hf];rfl
    simp only [It,this,Bu,if_false]
   rw [EX];rcases Ag.1 hb with hb|hb
   ·exact(p2 b hb).mono fun t ht=>by simp [ht]
   ·exact(q2 b hb).mono fun t ht=>by simp [ht]
theorem zv9 (h:Rel c n (Bd τ) (Aw τ.hp) a) {t:TypeId} {fl:List Bool} {s:SV} {l:List Nat} {v:Value} {x:E} {m:Nat} (ho:gL P τ t fl s=some l) (hs:SR c [s] [v]) (hx:A5 (Aw τ.hp) [] m s=some x) (hm:m<AN):
  ∃f,Fm P c.w t fl v (x.den c.ρ) f (l.flatMap fun t=>(c.G t).top)∧ ∀b∈f,c.fg (ZI P τ t fl s) b:=by
 unfold gL at ho;unfold Fm ZI;split at ho
 ·rename_i hf;simp only [hf,if_true];split at ho
  ·rename_i Au;split at ho
   ·rename_i cs;obtain⟨k,lx,rfl,hl,rfl⟩:=Sr hx;cases hs with
    |agg h9 h1 h8=>rename_i as_;obtain⟨f,q1,q2⟩:=WV (P:=P) h (AZ P t) ho h1 hl (by omega);exact⟨f,⟨as_,lx.den c.ρ,by rw [if_pos Au];exact⟨rfl,rfl,h9⟩,q1⟩,by rw [if_pos Au];exact q2⟩
   ·cases ho
  ·rename_i Au;have Jv:BZ (Aw τ.hp) [] (m+1) [s]=some (.cons x .nil):=by
    cases m with
    |zero=>simp [A5]at hx
    |succ m=>simp only [BZ,hx]
   obtain⟨f,q1,q2⟩:=WV (P:=P) h (AZ P t) ho hs Jv (by omega);exact⟨f,⟨[v], [x.den c.ρ],by rw [if_neg Au];exact⟨rfl,rfl⟩,q1⟩,by rw [if_neg Au];exact q2⟩
 ·rename_i hf;simp only [hf,if_false,Bu];simp only [Ab]at ho;subst ho;obtain⟨f,p1,p2⟩:=Gt (kU h) (D3 _) m hx hs AN (by omega);exact⟨f,⟨p1,rfl⟩,p2⟩
theorem mB (h:Rel c n (Bd τ) (Aw τ.hp) a): ∀(ts:List TypeId) {fl:List Bool} {ss:List SV} {l:List Nat} {vs:List Value} {xs:EL} {m:Nat},MF P τ ts fl ss=some l→SR c ss vs→BZ (Aw τ.hp) [] m ss=some xs→m≤AN→
  ∃f,Kk P c.w ts fl vs (xs.den c.ρ) f (l.flatMap fun t=>(c.G t).top)∧ ∀b∈f,c.fg (S1 P τ ts fl ss) b
 | [],fl, [],l,vs,xs,m,ho,hs,hx,hm=>by
  simp [MF]at ho;subst ho;cases hs;cases m with
  |zero=>simp [BZ]at hx
  |succ m=>simp [BZ]at hx;subst hx;exact⟨[], .nil,by simp⟩
 | [],fl,s::cs,l,us,xs,m,ho,hs,hx,hm=>by simp [MF]at ho
 |t::ts,fl, [],l,us,xs,m,ho,hs,hx,hm=>by simp [MF]at ho
 |t::ts,fl,s::cs,l, [],xs,m,ho,hs,hx,hm=>by have:=hs.len;simp at this
 |t::ts,fl,s::cs,l,v::us,xs,m,ho,hs,hx,hm=>by
  obtain⟨j,y,ys,rfl,hy,CN,rfl⟩:=IV hx;obtain⟨r1,r2⟩:=hs.cv;unfold MF at ho;split at ho
  ·rename_i a1 b1 h1 h2;simp only [Ab]at ho;subst ho;obtain⟨f1,p1,p2⟩:=zv9 (P:=P) h h1 r1 hy (by omega);obtain⟨f2,q1,q2⟩:=mB h ts h2 r2 CN (by omega);refine⟨f1++f2,by rw [List.flatMap_append];exact .cons p1 q1,fun b hb=> ?_⟩;simp only [S1];rcases Ag.1 hb with hb|hb
   ·exact(p2 b hb).mono fun t ht=>by simp [ht]
   ·exact(q2 b hb).mono fun t ht=>by simp [ht]
  ·cases ho
end
section
variable {P:Program} {c:Cx} {n:Nat} {a:Act} {τ:St}
theorem xK (h:Rel c n (Bd τ) (Aw τ.hp) a) {t:TypeId} {b o:Nat} {ty:TypeId} {g:Bool} {cs:List SV} {s:SV} {v:Value} (A4:CM P t=true) (hl:Aw τ.hp b=some (.box ty g cs)) (AQ:MV P t cs o=some s) (hr:SR c [.cy b o] [v]):
  ∃q u,v= .pointer (some ⟨q,o,none⟩)∧(loadVar t ⟨q,o,none⟩).run P c.w= .ok u c.w∧SR c [s] [u]:=by
 cases hr with
 |cy h1 h2 h8=>
  rename_i q;obtain⟨q',C,_,e2,e3,e4,e5,e5',e6⟩:=h.ents b _ (by rw [hl];rfl);rw [h2]at e2;cases e2;have key: ∀vs:List Value,(Ak P t=true→vs.length=P.cellsOf t)→(Ak P t=false→vs.length=1)→(∀j u,vs[j]?=some u→c.w.cell? ⟨q,o+j,none⟩=some u)→(loadVar t ⟨q,o,none⟩).run P c.w= .ok (if Ak P t then .agg vs.toArray else vs.headD undef) c.w:=fun vs k1 k2 k3=>by have:=Ox (P:=P) (w:=c.w) (b:=q) (off:=o) A4 vs k1 k2 k3;simpa [Instr.loadAt,Instr.sureAddr]using this
  unfold MV at AQ;have hlen:=e6.len;split at AQ
  ·rename_i Au;split at AQ
   ·rename_i hle;simp at AQ;subst AQ;obtain⟨r1,r2⟩:=e6.split o;obtain⟨r3,r4⟩:=r2.split (P.cellsOf t);have:=SR.agg (cs:=Bb.of ((cs.drop o).take (P.cellsOf t))) (fun u hu=>e5' u (List.mem_of_mem_drop (List.mem_of_mem_take hu))) (by rw [Bb.az];exact r3) .nil;refine⟨q, .agg ((C.toList.drop o).take (P.cellsOf t)).toArray,rfl, ?_,this⟩;rw [key ((C.toList.drop o).take (P.cellsOf t)) (fun _=>by simp at hlen ⊢;omega) (fun h=>by rw [Au]at h;cases h) (fun j u hu=>by
     rw [D1 e5];rw [List.getElem?_take]at hu;split at hu
     ·simpa using hu
     ·cases hu)]
    simp [Au]
   ·cases AQ
  ·rename_i Au;have Au:Ak P t=false:=by simpa using Au
   obtain⟨u,hu,r⟩:=e6.get AQ;refine⟨q,u,rfl, ?_,r⟩;rw [key [u] (fun h=>by rw [Au]at h;cases h) (fun _=>rfl) (fun j z hz=>by
    cases j with
    |zero=>simp at hz;subst hz;rw [D1 e5];simpa using hu
    |succ j=>simp at hz)]
   simp [Au]
theorem lM {α:Type} {g:α→Sem Value} {w:World}: ∀(l:List α) (us:List Value),l.length=us.length→(∀(i:Nat) (x:α) (u:Value),l[i]?=some x→us[i]?=some u→(g x).run P w= .ok u w)→(l.mapM g).run P w= .ok us w
 | [], [],_,_=>by simp
 | [],_::_,h,_=>by simp at h
 |_::_, [],h,_=>by simp at h
 |x::l,u::us,h,hg=>by have h0:=hg 0 x u rfl rfl;have ih:=lM l us (by simpa using h) fun i y z hy hz=>hg (i+1) y z (by simpa using hy) (by simpa using hz);simp [List.mapM_cons,h0,ih]
theorem zuv (h:Rel c n (Bd τ) (Aw τ.hp) a) (fn:Func) {rs:List SV} (En:fn.results.toList.mapM (ON P τ)=some rs):
  ∃us,SR c rs us∧rs.length=us.length∧(results fn a.tmps).run P c.w= .ok (match us with| [u]=>u|us=> .tuple us.toArray) c.w:=by
 have one: ∀(r:ResultVar) (s:SV),ON P τ r=some s→ ∃u,SR c [s] [u]∧(match r with| .tmp t=>(pure (a.tmps.getD t undef):Sem Value)| .cell b t=>do loadVar t (←asAddr (a.tmps.getD b undef))).run P c.w= .ok u c.w:=by
  intro r s hr;cases r with
  |tmp t=>simp only [ON,Ab]at hr;subst hr;exact⟨_,h.dg t,by simp⟩
  |cell b ty=>
   simp only [ON]at hr;split at hr
   ·rename_i b' o CG;split at hr
    ·rename_i ty' g cs hl;split at hr
     ·rename_i A4;have hs:=h.dg b;rw [CG]at hs;obtain⟨q,u,hv,AK,JA⟩:=xK h A4 hl hr hs;exact⟨u,JA,by simp only [hv];simp [asAddr,AK]⟩
     ·cases hr
    ·cases hr
   ·cases hr
 have list: ∀(l:List ResultVar) (rs:List SV),l.mapM (ON P τ)=some rs→ ∃us,SR c rs us∧l.length=us.length∧ ∀(i:Nat) (x:ResultVar) (u:Value),l[i]?=some x→us[i]?=some u→(match x with| .tmp t=>(pure (a.tmps.getD t undef):Sem Value)| .cell b t=>do loadVar t (←asAddr (a.tmps.getD b undef))).run P c.w= .ok u c.w:=by
  intro l
  induction l with
  |nil=>intro rs En;simp at En;subst En;exact⟨[], .nil,rfl,by simp⟩
  |cons r l ih=>
   intro rs En;rw [List.mapM_cons]at En;simp only [Option.bind_eq_bind,Ao,Option.pure_def,Ab]at En;obtain⟨s,hs,rs',Zc,rfl⟩:=En;obtain⟨u,h1,h2⟩:=one r s hs;obtain⟨us,h3,h4,h5⟩:=ih rs' Zc;refine⟨u::us,h1.cons h3,by simp [h4],fun i x v hx hv=> ?_⟩;cases i with
   |zero=>simp at hx hv;subst hx;subst hv;exact h2
   |succ i=>exact h5 i x v (by simpa using hx) (by simpa using hv)
 obtain⟨us,h1,h2,h3⟩:=list _ _ En;refine⟨us,h1,h1.len, ?_⟩;have hm:=lM (P:=P) (w:=c.w) fn.results.toList us h2 h3;simp only [results,Array.mapM_eq_mapM_toList,map_eq_pure_bind,Sem.run_bind]
 erw [hm]
 simp only [Result.andThen_ok,Sem.run_pure]
 match us with
 | []=>simp
 | [u]=>simp
 |u::v::us=>simp
theorem dT (h:Rel c n (Bd τ) (Aw τ.hp) a) {w0:World} {v:Value} {ms:List PM} {vs:List Value} (DQ: ∀t,c.A.pin t=F4 ms vs t) {i:Nat} (hi:i≤99) {own0:List Bool} (hv:vs[i]?=some v) (hm:(ms[i]?).getD .ro= .mu own0) {mk:Nat→E}: ∀(ts:List TypeId) (j:Nat) {fl:List Bool} {us:List Value} {ys:List AV} {rf hs:List Nat} {es:List E} {l:List Nat},
  B5 P w0 ts fl us ys rf hs→j+ts.length≤400→(∀k u,us[k]?=some u→(∃e,(0+j+k,e)∈(Cm P 0 (CU (.var 0) true) j ts fl).2)→v.cells[j+k]?=some u)→Tk P τ i mk j ts fl=some (es,l)→ ∃f o,Fo P c.w ts fl us (es.map (E.den c.ρ)) f o∧(o=l.flatMap fun t=>(c.G t).top)∧ ∀b∈f,c.ok b
 | [],j,fl,us,ys,rf,hs,es,l,hc,hle,B1,he=>by simp [Tk]at he;obtain⟨rfl,rfl⟩:=he;cases hc;exact⟨[], [], .nil,rfl,by simp⟩
 |t::ts,j,fl,us,ys,rf,hs,es,l,hc,hle,B1,he=>by
  unfold Tk at he;split at he
  ·cases he
  rename_i xs us' CB;simp only [AL]at hle;have sub: ∀{u:Value} {us1:List Value},us=u::us1→ ∀k z,us1[k]?=some z→(∃e,(0+(j+1)+k,e)∈(Cm P 0 (CU (.var 0) true) (j+1) ts fl.tail).2)→v.cells[j+1+k]?=some z:=by
   rintro u us1 rfl k z hz ⟨e,he⟩;have:=B1 (k+1) z (by simpa using hz) ⟨e,by
    simp only [Cm];split
    ·rw [show 0+j+(k+1)=0+(j+1)+k from by omega];exact List.mem_cons_of_mem _ he
    ·rw [show 0+j+(k+1)=0+(j+1)+k from by omega];exact he⟩
   rw [show j+1+k=j+(k+1)from by omega];exact this
  have fin: ∀{u:Value} {us1:List Value} {ys1:List AV} {rf1 Br:List Nat} {el:TypeId},us=u::us1→fl.headD false=true→Cv P t=some el→B5 P w0 ts fl.tail us1 ys1 rf1 Br→ ∃f o,Fo P c.w (t::ts) fl us (es.map (E.den c.ρ)) f o∧(o=l.flatMap fun t=>(c.G t).top)∧ ∀b∈f,c.ok b:=by
   rintro u us1 ys1 rf1 Br el rfl h1 h2 h4;obtain⟨f0,o,q1,q2,q3⟩:=dT h DQ hi hv hm ts (j+1) h4 (by omega) (sub rfl) CB;rw [h1,h2]at he;simp only at he;have Ym:v.cells[j]?=some u:=by have:=B1 0 u rfl ⟨_,by simp only [Cm,h1,h2,Nat.zero_add,Nat.add_zero];exact List.mem_cons_self ..⟩;simpa using this
   have TK:c.A.pin (1000*i+500+j)=some u:=by
    rw [DQ];unfold F4;have e1:(1000*i+500+j)/1000=i:=by omega
    have e2:(1000*i+500+j) % 1000=500+j:=by omega
    rw [if_pos (by unfold Lj;simp only [e2,Ac,decide_eq_true_eq,Bool.or_eq_true];omega),e1,e2,hv,hm];simp only;rw [if_pos (by omega),show 500+j-500=j from by omega];exact Ym
   split at he
   ·rename_i e' z y' d hu;split at he
    ·rename_i hh;obtain⟨rfl,rfl,FL⟩:=hh;simp only [Ab,Prod.mk.injEq]at he;obtain⟨rfl,rfl⟩:=he;obtain⟨p1,N,p2,p3,p4⟩:=mP h hu;have hH:=(h.base.pins _ u TK).2 p1;rw [hH]at p2;refine⟨_,_, .own h1 h2 (pU p4 FL) p2 q1,by simp [q2],fun b hb=> ?_⟩;rcases Ag.1 hb with hb|hb
     ·exact p3 b hb
     ·exact q3 b hb
    ·cases he
   ·rename_i e' z dl ep y' hu;split at he
    ·rename_i hh;obtain⟨E3,C2⟩:=hh;have C2:=WZ C2;simp only [Ab,Prod.mk.injEq]at he;obtain⟨rfl,rfl⟩:=he;obtain⟨p1,_,_,p2,_⟩:=h.ents _ _ (by rw [hu];rfl);have hH:=(h.base.pins _ u TK).2 p1;rw [hH]at p2;refine⟨_,_, .deep h1 h2 E3 C2 p2 q1,by simp [q2],q3⟩
    ·cases he
   ·cases he
  cases hc with
  |own h1 h2 _ _ h4=>exact fin rfl h1 h2 h4
  |deep h1 h2 _ _ _ h4=>exact fin rfl h1 h2 h4
  | @rd _ _ _ u us1 y ys1 f rf1 Br h1 h3 h4=>
   obtain⟨f0,o,q1,q2,q3⟩:=dT h DQ hi hv hm ts (j+1) h4 (by omega) (sub rfl) CB;split at he
   ·rename_i e hf Bc;rw [h1 hf]at Bc;cases Bc
   ·simp only [Ab,Prod.mk.injEq]at he;obtain⟨rfl,rfl⟩:=he;exact⟨f0,o, .skip h1 q1,q2,q3⟩
end
section
variable {P:Program} {c:Cx} {n:Nat} {a:Act} {τ:St}
theorem mH (h:Rel c n (Bd τ) (Aw τ.hp) a) {w0:World} {ms0:List PM} {vs0:List Value} (DQ: ∀t,c.A.pin t=F4 ms0 vs0 t): ∀(ts:List TypeId) (i:Nat) {ms:List PM} {lo:List Bool} {vs:List Value} {xs:List AV} {rf lf hs:List Nat} {bx:List E} {us:List Nat},SQ P τ i ts ms=some (bx,us)→CT P w0 ts ms lo vs xs rf lf hs→
  (∀k,ms[k]?=ms0[i+k]?)→(∀k,vs[k]?=vs0[i+k]?)→ ∃f o,Dk P c.w ts ms vs (bx.map (E.den c.ρ)) f o∧o=us.flatMap (fun t=>(c.G t).top)∧ ∀b∈f,c.fg (MP P τ i ts ms) b
 | [],i,ms,lo,vs,xs,rf,lf,hs,bx,us,he,ha,_,_=>by simp [SQ]at he;obtain⟨rfl,rfl⟩:=he;exact⟨[], [], .nil,rfl,by simp⟩
 |t::ts,i,ms,lo,vs,xs,rf,lf,hs,bx,us,he,ha,DO,IB=>by
  obtain⟨v,vs,x,xs,f,hh,rf,lf,hs,rfl,DR,AR⟩: ∃v vs' x xs' f hh rf' lf' AY,vs=v::vs'∧CT P w0 ts ms.tail lo.tail vs' xs' rf' lf' AY∧(ZQ P w0 t (ms.headD .ro) v x f hh∨ms.headD .ro= .ro):=by
   cases ha with
   |cons h1 h2=>exact⟨_,_,_,_,_,_,_,_,_,rfl,h2, .inl h1⟩
   | @lent _ _ _ _ _ _ x _ _ _ _ _ h1 h2 h3 h4=>exact⟨_,_,x,_, [], [],_,_,_,rfl,h4, .inr h2⟩
  have Dt:ms.headD .ro=(ms0[i]?).getD .ro:=by have:=DO 0;rw [Nat.add_zero]at this;rw [←this];cases ms<;>rfl
  have L7:vs0[i]?=some v:=by have:=IB 0;simpa using this.symm
  unfold SQ at he;split at he
  ·cases he
  rename_i bx' us' CB;obtain⟨f2,o2,b1,b2,b3⟩:=mH h DQ ts (i+1) CB DR (fun k=>by rw [show i+1+k=i+(k+1)from by omega,←DO (k+1)];cases ms<;>simp) (fun k=>by rw [show i+1+k=i+(k+1)from by omega,←IB (k+1)];simp);have see2: ∀b∈f2,c.fg (MP P τ i (t::ts) ms) b:=fun b hb=>(b3 b hb).mono fun t ht=>by simp only [MP,Ag];exact .inr ht
  split at he
  ·cases he
  rename_i hi;split at he
  ·rename_i hm;simp only [Ab,Prod.mk.injEq]at he;obtain⟨rfl,rfl⟩:=he;exact⟨f2,o2, .ro hm b1,b2,see2⟩
  ·rename_i own hm;simp only [Ab,Prod.mk.injEq]at he;obtain⟨rfl,rfl⟩:=he;exact⟨f2,o2, .va hm b1,b2,see2⟩
  ·rename_i own hm;split at he
   ·cases he
   rename_i hle;split at he
   ·rename_i es l GO;simp only [Ab,Prod.mk.injEq]at he;obtain⟨rfl,rfl⟩:=he;rw [hm]at AR;obtain⟨us0,ys0,hg,hc⟩:=AR.resolve_right fun h=>by cases h
    obtain⟨f1,o1,q1,q2,q3⟩:=dT h DQ (i:=i) (by omega) L7 (by rw [←Dt];exact hm) (AZ P t) 0 hc (by omega) (fun k u hu he=>by
     rw [Nat.zero_add];split at hg
     ·obtain⟨rfl,_,_⟩:=hg;simpa [Value.cells]using hu
     ·obtain⟨rfl,_⟩:=hg;cases k with
      |zero=>simp at hu;subst hu;rw [hc.iv (nx:=0) (mk:=CU (.var 0) true) (j:=0) 0 v rfl he];rfl
      |succ k=>simp at hu) GO
    refine⟨f1++f2,o1++o2,Dk.mu (us:=us0) (ys:=es.map (E.den c.ρ)) hm ?_ q1 b1,by rw [q2,b2,List.flatMap_append],fun b hb=>(Ag.1 hb).elim (fun hb=> .inl (q3 b hb)) (see2 b)⟩;split at hg
    ·rename_i Au;rw [if_pos Au,if_pos Au];exact⟨hg.1,by simp only [E.den,EL.du]⟩
    ·rename_i Au;rw [if_neg Au,if_neg Au];obtain⟨rfl,_⟩:=hg;refine⟨rfl, ?_⟩;have mlen: ∀{ts:List TypeId} {fl:List Bool} {us:List Value} {ys:List AV} {f o:List Nat},Fo P c.w ts fl us ys f o→us.length=ys.length:=by
      intro ts fl us ys f o P4
      induction P4<;>simp_all
     have:=mlen q1
     match es,this with
     | [e],_=>rfl
   ·cases he
  ·rename_i own own' hm;rw [hm]at AR;obtain⟨ty,b,C0,ys0,h9,g1,rfl,g3,g4,rfl,g6,rfl⟩:=AR.resolve_right fun h=>by cases h
   split at he
   ·rename_i ty1 ty2 g cs Dw GG;rw [g1]at Dw;cases Dw;split at he
    ·cases he
    rename_i BE;have BE:ty2=ty:=by simpa using BE
    subst BE;split at he
    ·rename_i es vs' GJ Zn;simp only [Ab,Prod.mk.injEq]at he;obtain⟨rfl,rfl⟩:=he;obtain⟨b',C,p1,p2,p3,p4,p5,p6,p7⟩:=h.ents _ _ (by rw [GG];rfl);have TK:c.A.pin (1000*i)=some (.pointer (some ⟨b,0,none⟩)):=by
      rw [DQ];unfold F4;have e1:(1000*i)/1000=i:=by omega
      have e2:(1000*i) % 1000=0:=by omega
      rw [if_pos (by unfold Lj;simp only [e2,Ac,decide_eq_true_eq,Bool.or_eq_true];simp;omega),e1,e2,L7,←Dt,hm];rfl
     have hH:=(h.base.pins _ _ TK).2 p1;rw [p2]at hH;cases hH;obtain⟨f1,q1,q2⟩:=WV (P:=P) h (AZ P ty2) Zn p7 GJ (Nat.le_refl _);refine⟨f1++f2,_,Dk.bx hm g1 rfl p5 p6 (by simp only [E.den]) q1 b1,by rw [b2];simp [p3],fun x hx=> ?_⟩;rcases Ag.1 hx with hx|hx
     ·refine(q2 x hx).mono fun t ht=> ?_;simp only [MP,hm,g1,GG,Ag];exact .inl ht
     ·exact see2 x hx
    ·cases he
   ·cases he
end
theorem cZ {P:Program}: ∀(ts:List TypeId) (i:Nat) (ms:List PM) (lo:List Bool) (ss:List SV) (l:List (Nat × Ad)),Ld P i ts ms lo=some (ss,l)→ ∀t x,(t,x)∈l→ ∀gs f,x≠ .gd gs f
 | [],i,ms,lo,ss,l,h,t,x,hx=>by simp [Ld]at h;obtain⟨_,rfl⟩:=h;simp at hx
 |t0::ts,i,ms,lo,ss,l,h,t,x,hx=>by
  unfold Ld at h;split at h
  ·rename_i s1 l1 ss1 l2 q1 q2;simp only [Ab,Prod.mk.injEq]at h;obtain⟨_,rfl⟩:=h;rcases Ag.1 hx with hx|hx
   ·have hV: ∀(b:Nat) (own:List Bool),O2 P i b t0 own=some (s1,l1)→ ∀gs f,x≠ .gd gs f:=by
     intro b own hh;unfold O2 at hh;simp only at hh;split at hh
     ·cases hh
     ·split at hh
      ·simp only [Ab,Prod.mk.injEq]at hh;obtain⟨_,rfl⟩:=hh;intro gs f;exact Mn _ _ _ _ _ hx
      ·split at hh
       ·simp only [Ab,Prod.mk.injEq]at hh;obtain⟨_,rfl⟩:=hh;intro gs f;exact Mn _ _ _ _ _ hx
       ·cases hh
    unfold XM at q1;split at q1
    ·simp only [Ab,Prod.mk.injEq]at q1;rw [←q1.2]at hx;simp at hx
    ·exact hV _ _ q1
    ·exact hV _ _ q1
    ·split at q1
     ·simp only at q1;split at q1
      ·cases q1
      ·simp only [Ab,Prod.mk.injEq]at q1;obtain⟨_,rfl⟩:=q1;rcases Ae.1 hx with hx|hx
       ·cases hx;simp
       ·intro gs f;exact Mn _ _ _ _ _ hx
     ·cases q1
   ·exact cZ _ _ _ _ _ _ q2 t x hx
  ·cases h
theorem xO {P:Program} {sg:BB} (YX:P.follows .mixedOrders=true) (H3: ∀f s,sg f=some s→f<1000000) {f:Nat} {s:F7} {fn:Func} {t:Tr} {xs:List AV} {r:AV} (GK:P.funcs[f]?=some fn) (hs:sg f=some s) (E1:(fn.name== "runtime.NumGoroutine")=false)
  (DJ:QC P sg f=some t) (BG:OS P fn s r=true) (hlen:xs.length=fn.params.size+fn.nfree) (hd:t.den (CY P sg) (fun r'=>r'=r) (fun _ _ _ _=>False) [] xs):Pk P s f xs r:=by
 unfold QC at DJ;simp only [GK,hs]at DJ;split at DJ
 ·rename_i code σ Dh A8;split at DJ
  ·rename_i t0 hex;have FM:s.ft.length≤fn.nfree:=by
    have A8:=A8;unfold fL at A8;split at A8
    ·cases A8
    ·simp only at A8;split at A8
     ·cases A8
     ·rename_i Ax;simp only [Bool.or_eq_true,decide_eq_true_eq,not_or,Nat.not_lt]at Ax;exact Ax.2
   refine⟨fn,GK,by rw [Dh];rfl,E1,BG,hlen,FM,fun w vs rf lf AY Az EV HN FR Eb=> ?_⟩;unfold fL at A8;split at A8
   ·cases A8
   rename_i ss l Dq;simp only at A8;split at A8
   ·cases A8
   rename_i Ax;simp only [Bool.or_eq_true,decide_eq_true_eq,not_or,Nat.not_lt]at Ax;simp only [Ab]at A8;subst A8;let pin:Nat→Option Value:=F4 s.dc vs;let LO:Value→AV→Prop:=fun v y=> ∃f,Rd w [v] [y] f∧ ∀b∈f,¬b∈AY;let c0:Cx:={ρ:=xs,w:=w,G:=fun _=>⟨[], []⟩,K:=fun _ _=>False,H:=fun _ _=>undef,A:=⟨fun b=>b∈rf,pin,LO⟩,w0:=w,Mu:=fun b=>b∈AY,U:=fun _=>False,E:=fun _=>0}
   have Fb:vs.length=xs.length:=by
    have: ∀{ts:List TypeId} {ms:List PM} {lo:List Bool} {vs:List Value} {xs:List AV} {rf lf hs:List Nat},CT P w ts ms lo vs xs rf lf hs→vs.length=xs.length:=by
     intro ts ms lo vs xs rf lf hs h
     induction h<;>simp_all
    exact this Az
   obtain⟨recs,e1,e2,e3,e4,e5,e6,e7,e8⟩:=nF (c:=c0) (ms0:=s.dc) (vs0:=vs) (fn.params.toList++s.ft) 0 Dq Az (fun k x hx=>by simp only [E.den,Nat.zero_add];show(xs[k]?).getD .undef=x;rw [hx];rfl) (fun k=>by simp) (fun k=>by simp);have aft:=Cx.eg (c:=c0) (w':=w) (recs:=recs) (fun t g hk=>hk.elim) e4 (fun r _ _ h=>h);have iA: ∀r∈recs,r.tag<100000:=fun r hr=>by have:=e3 r hr;simp only [Nat.zero_add,AG,Array.length_toList]at this;omega
   let c:Cx:={c0.ed w recs with U:=fun t=>t<100000}
   have PE: ∀b∈rf,(c0.ed w recs).ok b:=by
    intro b hb;refine⟨fun⟨t,ht⟩=> ?_, .inl hb⟩;by_cases hT: ∃r∈recs,r.tag=t
    ·obtain⟨r,hr,rfl⟩:=hT;rw [Cx.en e4 hr]at ht;exact EV b (by rw [←e2];exact List.mem_flatMap.2 ⟨r,hr,ht⟩) hb
    ·rw [Cx.dm fun r hr hh=>hT ⟨r,hr,hh⟩]at ht;simp [c0]at ht
   have BV: ∀(k:Nat) (v:Value) (x:AV),(s.dc[k]?).getD .ro= .ro→vs[k]?=some v→xs[k]?=some x→LO v x:=by
    have key: ∀{ts:List TypeId} {ms:List PM} {lo:List Bool} {vs:List Value} {xs:List AV} {rf lf hs:List Nat},CT P w ts ms lo vs xs rf lf hs→ ∀(k:Nat) (v:Value) (x:AV),(ms[k]?).getD .ro= .ro→vs[k]?=some v→xs[k]?=some x→ ∃f,Rd w [v] [x] f∧ ∀b∈f,b∈rf∨b∈lf:=by
     intro ts ms lo vs xs rf lf hs h
     induction h with
     |nil=>intro k v x _ h _;simp at h
     | @cons t ts ms lo v vs x xs f h rf lf hs AR _ ih=>
      intro k v' x' h1 h2 h3;cases k with
      |zero=>
       have hm:ms.headD .ro= .ro:=by cases ms<;>exact h1
       rw [hm]at AR;simp at h2 h3;subst h2;subst h3;exact⟨f,AR.1,fun b hb=> .inl (by simp [hb])⟩
      |succ k=>obtain⟨f',q1,q2⟩:=ih k v' x' (by cases ms with|nil=>rfl|cons _ _=>simpa using h1) (by simpa using h2) (by simpa using h3);exact⟨f',q1,fun b hb=>(q2 b hb).imp (fun h=>by simp [h]) id⟩
     | @lent t ts ms lo v vs x xs f rf lf hs _ _ hr _ ih=>
      intro k v' x' h1 h2 h3;cases k with
      |zero=>simp at h2 h3;subst h2;subst h3;exact⟨f,hr,fun b hb=> .inr (by simp [hb])⟩
      |succ k=>obtain⟨f',q1,q2⟩:=ih k v' x' (by cases ms with|nil=>rfl|cons _ _=>simpa using h1) (by simpa using h2) (by simpa using h3);exact⟨f',q1,fun b hb=>(q2 b hb).imp id (fun h=>by simp [h])⟩
     | @free ms lo v vs x xs f rf lf hs hr _ ih=>
      intro k v' x' h1 h2 h3;cases k with
      |zero=>simp at h2 h3;subst h2;subst h3;exact⟨f,hr,fun b hb=> .inl (by simp [hb])⟩
      |succ k=>obtain⟨f',q1,q2⟩:=ih k v' x' (by cases ms with|nil=>rfl|cons _ _=>simpa using h1) (by simpa using h2) (by simpa using h3);exact⟨f',q1,fun b hb=>(q2 b hb).imp (fun h=>by simp [h]) id⟩
    intro k v x h1 h2 h3;obtain⟨f,q1,q2⟩:=key Az k v x h1 h2 h3;exact⟨f,q1,fun b hb hh=>(q2 b hb).elim (EV b hh) (HN b hh)⟩
   obtain⟨g1,g2⟩:=e8 _ aft PE BV;have kc:CX (c0.ed w recs) c:=⟨rfl,rfl,fun _ _ hb=>hb,fun _ _ _=>rfl,fun _ _ hk=>⟨hk,rfl⟩,fun _ _ _=>⟨Nat.le_refl _,fun _=>⟨rfl,fun _ _ _=>rfl⟩⟩⟩
   have Kq:fn.params.size+fn.nfree=vs.length:=by rw [Fb,hlen]
   have E8:(ss++(List.range (fn.nfree-s.ft.length)).map fun j=>SV.e (.var (fn.params.size+s.ft.length+j))).length=vs.length:=by rw [AG,e6,List.length_map,List.length_range,AG,Array.length_toList];omega
   have g1':SR c (ss++(List.range (fn.nfree-s.ft.length)).map fun j=>SV.e (.var (fn.params.size+s.ft.length+j))) vs:=by
    have:=g1.keep kc;have L0:(fn.params.toList++s.ft).length=fn.params.size+s.ft.length:=by rw [AG,Array.length_toList]
    rw [show vs.length-(fn.params.toList++s.ft).length=fn.nfree-s.ft.length from by omega]at this;simpa using this
   have hG: ∀t,(∃r∈recs,r.tag=t∧c.G t=⟨r.top, []⟩)∨c.G t=⟨[], []⟩:=fun t=>by
    by_cases hT: ∃r∈recs,r.tag=t
    ·obtain⟨r,hr,rfl⟩:=hT;exact .inl ⟨r,hr,rfl,Cx.en (w':=w) e4 hr⟩
    ·exact .inr (Cx.dm (w':=w) fun r hr hh=>hT ⟨r,hr,hh⟩)
   have FQ: ∀r∈recs,∀b∈r.top,b∈AY:=fun r hr b hb=>by rw [←e2];exact List.mem_flatMap.2 ⟨r,hr,hb⟩
   have DN: ∀b∈AY,b<w.heap.size:=by
    have: ∀{ts:List TypeId} {ms:List PM} {lo:List Bool} {vs:List Value} {xs:List AV} {rf lf hs:List Nat},CT P w ts ms lo vs xs rf lf hs→ ∀b∈hs,b<w.heap.size:=by
     intro ts ms lo vs xs rf lf hs h
     induction h with
     |nil=>simp
     |lent _ _ _ _ ih=>exact ih
     | @cons t ts ms lo v vs x xs f h rf lf hs AR _ ih=>
      intro b hb;rcases Ag.1 hb with hb|hb
      ·cases hm:ms.headD .ro with
       |ro=>rw [hm]at AR;rw [AR.2]at hb;simp at hb
       |va own=>rw [hm]at AR;obtain⟨_,_,_,hc⟩:=AR;exact hc.inb.2 b hb
       |mu own=>rw [hm]at AR;obtain⟨_,_,_,hc⟩:=AR;exact hc.inb.2 b hb
       |bx own own'=>
        rw [hm]at AR;obtain⟨_,b0,_,_,_,_,_,hh,_,_,hc,rfl⟩:=AR;rcases Ae.1 hb with rfl|hb
        ·exact FX hh
        ·exact hc.inb.2 b hb
      ·exact ih b hb
     |free _ _ ih=>exact ih
    exact this Az
   have A3: ∀t e,Aw l t=some e→ ∃r∈recs,r.tag=t∧r.bt=e:=fun t e he=>by have:=Hr he;rw [e1]at this;obtain⟨r,hr,Qi⟩:=List.mem_map.1 this;simp only [AD.pair,Prod.mk.injEq]at Qi;exact⟨r,hr,Qi.1,Qi.2⟩
   let F:Fix:=⟨w,⟨fun b=>b∈rf,pin,LO⟩,fun b=>b∈AY,fun t v h=>by
    simp only [pin,F4]at h;split at h
    ·assumption
    ·cases h⟩
   have Am:Rel c fn.ntmps (Bd {sl:=ss++(List.range (fn.nfree-s.ft.length)).map (fun j=>SV.e (.var (fn.params.size+s.ft.length+j)))++List.replicate (fn.ntmps-(fn.params.size+fn.nfree)) .undef,hp:=l,nx:=100000,nv:=fn.params.size+fn.nfree}) (Aw l) {tmps:=vs.toArray++Array.replicate (fn.ntmps-vs.toArray.size) undef,defers:= []}:=by
    refine⟨rfl,by simp;omega,⟨rfl,rfl,rfl,Nat.le_refl _,fun t v hp=>⟨?_,fun hk=> ?_⟩,fun b _ _=>rfl,Eb,fun v y h=>h⟩,fun i=> ?_,fun t e hr=> ?_,fun t hn=> ?_,⟨fun t=> ?_,fun t u KK b hb BJ=> ?_,fun t b hb=> ?_,fun t b hb=> ?_⟩,fun t g hk=> ?_,fun t e he=> ?_⟩
    ·have:=F.mh t v hp;unfold Lj at this;simp only [Ac,decide_eq_true_eq]at this;exact this.1
    ·rcases hk with hk|⟨r,hr,rfl,AS,_⟩
     ·exact hk.elim
     ·exact(aft.new r hr v (e5 r hr v hp)).2.2
    ·have Yi:SR c (ss++(List.range (fn.nfree-s.ft.length)).map (fun j=>SV.e (.var (fn.params.size+s.ft.length+j)))++List.replicate (fn.ntmps-(fn.params.size+fn.nfree)) .undef) (vs++List.replicate (fn.ntmps-(fn.params.size+fn.nfree)) undef):=by
      refine g1'.app ?_;have: ∀k,SR c (List.replicate k SV.undef) (List.replicate k undef):=by
       intro k
       induction k with
       |zero=>exact .nil
       |succ k ih=>exact .undef ih
      exact this _
     unfold Bd;simp only;cases hq:(ss++(List.range (fn.nfree-s.ft.length)).map (fun j=>SV.e (.var (fn.params.size+s.ft.length+j)))++List.replicate (fn.ntmps-(fn.params.size+fn.nfree)) SV.undef)[i]? with
     |none=>exact .undef .nil
     |some s'=>
      obtain⟨v',Qu,JA⟩:=Yi.get hq;have:(vs.toArray++Array.replicate (fn.ntmps-vs.toArray.size) undef).getD i undef=v':=by
       rw [Array.getD_eq_getD_getElem?];have e:(vs.toArray++Array.replicate (fn.ntmps-vs.toArray.size) undef)[i]?=(vs++List.replicate (fn.ntmps-(fn.params.size+fn.nfree)) undef)[i]?:=by rw [←Array.getElem?_toList];simp [Kq]
       rw [e,Qu];rfl
      rw [this];exact JA
    ·cases hh:Aw l t with
     |none=>rw [hh]at hr;exact hr.elim
     |some e0=>
      obtain⟨r,C6,rfl,rfl⟩:=A3 t e0 hh;have A8:=(g2 r C6).keep kc rfl rfl (fun g hg=>hg) (fun b _=>rfl);rw [hh]at hr;cases he:r.bt with
      |gd gs e'=>rw [he]at A8 hr;obtain⟨_,rfl⟩:=hr;have AS:=(e3 r C6).2.2;exfalso;exact cZ _ _ _ _ _ _ Dq r.tag r.bt (by rw [e1];exact List.mem_map.2 ⟨r,C6,rfl⟩) _ _ he
      |_=>rw [he]at A8 hr;simp only [B0]at hr;subst hr;exact A8
    ·rcases hG t with⟨r,hr,rfl,hg⟩|hg
     ·exfalso;have GN:(r.tag,r.bt)∈l:=by rw [e1];exact List.mem_map.2 ⟨r,hr,rfl⟩
      have: ∃e,Aw l r.tag=some e:=by
       have: ∀(l:List (Nat × Ad)),(r.tag,r.bt)∈l→ ∃e,Aw l r.tag=some e:=by
        intro l
        induction l with
        |nil=>intro h;simp at h
        |cons p l ih=>
         obtain⟨u,f'⟩:=p;intro h;simp only [Aw];split
         ·exact⟨_,rfl⟩
         ·rename_i hu;rcases Ae.1 h with h|h
          ·cases h;exact absurd rfl hu
          ·exact ih h
       exact this l GN
      obtain⟨e,he⟩:=this;obtain⟨r',C6,KJ,rfl⟩:=A3 _ _ he;have TC: ∀gs f',r'.bt≠ .gd gs f':=by intro gs f' Cc;exact cZ _ _ _ _ _ _ Dq r'.tag r'.bt (by rw [e1];exact List.mem_map.2 ⟨r',C6,rfl⟩) _ _ Cc
      apply hn r'.bt;rw [he];cases Za:r'.bt with
      |gd gs f'=>exact absurd Za (TC gs f')
      |_=>simp [B0]
     ·rw [hg];simp
    ·rcases hG t with⟨r,hr,rfl,hg⟩|hg
     ·rw [hg];rw [←e2]at FR;simpa [GI.own]using(R3 FR).1 r hr
     ·rw [hg];simp [GI.own]
    ·rcases hG t with⟨r,hr,rfl,hg⟩|hg
     ·rcases hG u with⟨q,hq,rfl,Cc⟩|Cc
      ·rw [hg]at hb;rw [Cc]at BJ;simp only [GI.own,List.append_nil]at hb BJ;rw [←e2]at FR;obtain⟨i,hi⟩:=List.getElem?_of_mem hr;obtain⟨j,hj⟩:=List.getElem?_of_mem hq;have:=(R3 FR).2 i j r q b hi hj hb BJ;subst this;rw [hi]at hj;cases hj;exact KK rfl
      ·rw [Cc]at BJ;simp [GI.own]at BJ
     ·rw [hg]at hb;simp [GI.own]at hb
    ·rcases hG t with⟨r,hr,rfl,hg⟩|hg
     ·rw [hg]at hb;simp only [GI.own,List.append_nil]at hb;exact .inr (FQ r hr b hb)
     ·rw [hg]at hb;simp [GI.own]at hb
    ·rcases hG t with⟨r,hr,rfl,hg⟩|hg
     ·rw [hg]at hb;simp only [GI.own,List.append_nil]at hb;exact DN b (FQ r hr b hb)
     ·rw [hg]at hb;simp [GI.own]at hb
    ·rcases hk with hk|⟨r,hr,rfl,_⟩
     ·exact hk.elim
     ·exact iA r hr
    ·obtain⟨r,hr,rfl,_⟩:=A3 t e he;exact iA r hr
   have Pu:FC F xs {sl:=ss++(List.range (fn.nfree-s.ft.length)).map (fun j=>SV.e (.var (fn.params.size+s.ft.length+j)))++List.replicate (fn.ntmps-(fn.params.size+fn.nfree)) .undef,hp:=l,nx:=100000,nv:=fn.params.size+fn.nfree} {tmps:=vs.toArray++Array.replicate (fn.ntmps-vs.toArray.size) undef,defers:= []} w:=by
    refine⟨c,rfl,rfl,rfl,rfl,rfl,hlen,fun t ht=>ht, ?_⟩;have hl:(ss++(List.range (fn.nfree-s.ft.length)).map (fun j=>SV.e (.var (fn.params.size+s.ft.length+j)))++List.replicate (fn.ntmps-(fn.params.size+fn.nfree)) SV.undef).length=fn.ntmps:=by rw [AG,E8,List.length_replicate];omega
    show Rel c (ss++(List.range (fn.nfree-s.ft.length)).map (fun j=>SV.e (.var (fn.params.size+s.ft.length+j)))++List.replicate (fn.ntmps-(fn.params.size+fn.nfree)) SV.undef).length _ _ _;rw [hl];exact Am
   refine calls_of_wp GK Dh ?_;have gZ:Iv (fun _ _ _ _=>False):=fun _ _ _ _ _ _ h=>h;have Yn:=Tr.fm _ gZ t0 DJ hd;refine zx5 (vL YX (zE5 (sg:={sg with dp:=s.dp,wn:=s.wn,fz:=s.fz}) H3) zEd) uG code [] _ _ t0 hex F (fun r'=>r'=r) _ [] xs _ w (Sk gZ _ _) Yn Pu _ fun i x τ ρ' a' w' hp hl Cs=> ?_;obtain⟨tr,d',q1,q2,q3⟩:=hl;have main:TV P fn s τ=some tr→a'.defers= []∧ ∃v,(results fn a'.tmps).run P w'= .ok v w'∧ ∃v',Ending.returned v= .returned v'∧kV P fn s w vs rf AY r v' w':=by
    intro Dr;obtain⟨c2,rfl,rfl,k1,k2,k3,k4,k5,k6⟩:=Cs;unfold TV at Dr;split at Dr
    ·rename_i rs bx us En PB;split at Dr
     ·rename_i es vs' GJ sZ;split at Dr
      ·cases Dr
      rename_i PG;simp only [Bool.or_eq_true,Bool.not_eq_true',not_or,Bool.not_eq_false,Bool.not_eq_true]at PG;obtain⟨BW,iE⟩:=PG;have BW:=OD BW;simp only [Ab]at Dr;subst Dr;have hr:_=r:=q3;obtain⟨rvs,z1,z2,z3⟩:=zuv k6 fn En;obtain⟨f1,y1,y2⟩:=mB (P:=P) k6 fn.resultTypes.toList sZ z1 GJ (Nat.le_refl _);obtain⟨f2,o2,x1,x2,x3⟩:=mH (P:=P) k6 (w0:=w) (ms0:=s.dc) (vs0:=vs) (fun t=>by rw [k2]) (fn.params.toList++s.ft) 0 PB Az (fun k=>by simp) (fun k=>by simp);refine⟨k6.defers,_,z3,_,rfl,⟨?_, ?_⟩⟩
      ·
       have hR: ∃R,R=(match es with| .cons x .nil=>x|es=>E.tup es).den c2.ρ∧IH P c2.w fn.resultTypes.toList s.res (match rvs with| [u]=>u|us=> .tuple us.toArray) R f1 (vs'.flatMap fun t=>(c2.G t).top):=by
        refine⟨_,rfl, ?_⟩;have yl:es.den c2.ρ=es.den c2.ρ:=rfl;generalize Qt:fn.resultTypes.toList=ts at y1 ⊢;generalize Ce:es.den c2.ρ=ys at y1;generalize (vs'.flatMap fun t=>(c2.G t).top)=o1 at y1 ⊢;cases y1 with
        |nil=>
         cases es with
         |nil=>exact⟨[], [],rfl,by simp [E.den,EL.den], .nil⟩
         |cons e es=>simp [EL.den]at Ce
        | @cons t ts fl v vs2 x xs2 f h rf2 AQ w1 w2=>
         cases w2 with
         |nil=>
          cases es with
          |nil=>simp [EL.den]at Ce
          |cons e es=>
           cases es with
           |nil=>simp only [EL.den,List.cons.injEq,and_true]at Ce;subst Ce;simpa [IH]using w1
           |cons e2 es=>simp [EL.den]at Ce
         | @cons t2 ts2 fl2 v2 vs3 x2 xs3 f2' h2 rf3 Hl w3 w4=>
          cases es with
          |nil=>simp [EL.den]at Ce
          |cons e es=>
           cases es with
           |nil=>simp [EL.den]at Ce
           |cons e2 es=>refine⟨v::v2::vs3,x::x2::xs3,rfl, ?_, .cons w1 (.cons w3 w4)⟩;simp only [E.den,Ce]
       obtain⟨R,rI,rJ⟩:=hR;have Bk: ∀b∈(vs'.flatMap fun t=>(c2.G t).top)++o2,∃t∈vs'++us,b∈(c2.G t).top:=fun b hb=>by
        rcases Ag.1 hb with hb|hb
        ·obtain⟨t,ht,B9⟩:=List.mem_flatMap.1 hb;exact⟨t,by simp [ht],B9⟩
        ·rw [x2]at hb;obtain⟨t,ht,B9⟩:=List.mem_flatMap.1 hb;exact⟨t,by simp [ht],B9⟩
       have HH: ∀b t,b∈(c2.G t).top→b∈AY∨w.heap.size≤b:=fun b t hb=>by
        rcases k6.gw.allow t b (by simp [GI.own,hb])with h|h
        ·simp only [Cx.B,k1]at h;exact .inr h
        ·rw [k3]at h;exact .inl h
       refine⟨R,bx.map (E.den c2.ρ),f1,_,f2,o2, ?_,rJ,x1, ?_,fun b hb=> ?_,fun b hb=> ?_⟩
       ·rw [←hr,rI];cases bx with
        |nil=>rfl
        |cons b bx=>simp only [List.isEmpty_cons,Bu,if_false,E.den,EL.du,List.map_cons];rfl
       ·rw [x2,←List.flatMap_append];have: ∀l:List Nat,l.Nodup→(l.flatMap fun t=>(c2.G t).top).Nodup:=by
         intro l
         induction l with
         |nil=>intro _;simp
         |cons t l ih=>intro hl;rw [List.nodup_cons]at hl;rw [List.flatMap_cons,List.nodup_append];refine⟨(List.nodup_append.1 (k6.gw.nodup t)).1,ih hl.2,fun x hx y hy Fc=> ?_⟩;subst Fc;obtain⟨u,hu,Zt⟩:=List.mem_flatMap.1 hy;exact k6.gw.c7 t u (fun hh=>hl.1 (hh▸hu)) x (by simp [GI.own,hx]) (by simp [GI.own,Zt])
        exact this _ BW
       ·obtain⟨t,ht,B9⟩:=Bk b hb;exact⟨HH b t B9,k6.gw.inb t b (by simp [GI.own,B9])⟩
       ·have GP:c2.fg (S1 P τ fn.resultTypes.toList s.res rs++MP P τ 0 (fn.params.toList++s.ft) s.dc) b:=by
         rcases Ag.1 hb with hb|hb
         ·exact(y2 b hb).mono fun t ht=>by simp [ht]
         ·exact(x3 b hb).mono fun t ht=>by simp [ht]
        rcases GP with AF|⟨t,ht,B9⟩
        ·refine⟨fun ho=> ?_, ?_⟩
         ·obtain⟨u,_,GH⟩:=Bk b ho;exact AF.1 ⟨u,GH⟩
         ·rcases AF.2 with h|h|h
          ·rw [k2]at h;exact .inl h
          ·simp only [Cx.B,k1]at h;exact .inr (.inr h)
          ·rw [k3]at h;exact .inr (.inl h)
        ·refine⟨fun ho=> ?_, .inr (HH b t B9)⟩;obtain⟨u,hu,GH⟩:=Bk b ho;have KK:t≠u:=by
          rintro rfl;rw [List.any_eq_false]at iE;have:=iE t ht;simp only [List.contains_eq_mem,decide_eq_true_eq]at this;exact this hu
         exact k6.gw.c7 t u KK b (by simp [GI.own,B9]) (by simp [GI.own,GH])
      ·have hb:=k6.base;refine⟨?_, ?_, ?_, ?_,fun k hk hn=> ?_⟩
       ·rw [hb.os,k1]
       ·rw [hb.tape,k1]
       ·rw [hb.output,k1]
       ·have:=hb.size;rw [k1]at this;exact this
       ·have:=hb.block k (by rw [k1];exact hk) (by rw [k3];exact hn);rw [k1]at this;exact this
     ·cases Dr
    ·cases Dr
   cases x with
   |normal=>exact main q1
   |ret=>exact main q1
   |exit id=>cases q1
  ·cases DJ
 ·cases DJ
end Go.Proofs.YtmbknelgbjlhnaaGreat
end

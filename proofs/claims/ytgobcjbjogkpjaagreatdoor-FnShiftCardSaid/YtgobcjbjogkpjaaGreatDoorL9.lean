/- Parts of a proof, joined: NA, ND, NE, N5, N6, N7, N8, N9, N10, N11, N12, N13, N14, N15, N16, PK, NK, NP, NQ, NX, NS, NT, NV. -/
import Derived.Test.YtgobcjbjogkpjaaGreatDoorL8
section
namespace Go.Proofs.YtgobcjbjogkpjaaGreatDoor
open Go.RowKit
theorem zae {α:Type} {xs:List α} {i:Nat} (h:i<xs.length):getI xs (i:Int)=some xs[i]:=by simp [getI,h]
theorem zip {α:Type} {xs:List α} {i:Int} (h0:0≤i) (h:i<xs.length): ∃x,getI xs i=some x∧x∈xs∧xs[i.toNat]?=some x:=by
 have hi:i.toNat<xs.length:=by omega
 exact⟨xs[i.toNat],by simp [getI,h0,hi],List.getElem_mem hi,by simp [hi]⟩
theorem ztJ {α:Type} {xs:List α} {i:Int} {x:α} (h:getI xs i=some x):x∈xs:=by
 obtain⟨h1,h2,h3⟩:=zBZ h
 exact List.mem_of_getElem? h3
theorem zbS {q n:Nat} (h:q<n) (hn:n≤9223372036854775807):IntKind.i64.wrap ((q:Int)+1)=((q+1:Nat):Int):=by rw [zaH (by omega) (by omega)];simp
theorem zak {α:Type} {p:Prop} {k:Option α} (h:p):req p k=k:=by simp [req,h]
def goL {α σ β:Type} (step:α→σ→Option (σ ⊕ Option β)) (fin:σ→Option β):List α→σ→Option β
 | [],s=>fin s
 |x::xs,s=>match step x s with
  |none=>none
  |some (.inl s')=>goL step fin xs s'
  |some (.inr o)=>o
def ztB {σ τ β:Type} (f:σ→τ):Option (σ ⊕ Option β)→Option (τ ⊕ Option β)
 |none=>none
 |some (.inl s)=>some (.inl (f s))
 |some (.inr o)=>some (.inr o)
theorem zzg {α σ τ β:Type} {xs:List α} {body:τ→Option (τ ⊕ Option β)} (emb:Int→σ→τ) (step:α→σ→Option (σ ⊕ Option β)) (fin:σ→Option β) (q0:Nat)
  (hs: ∀(i:Nat) (hi:i<xs.length) (s:σ),q0≤i→body (emb i s)=ztB (emb ((i+1:Nat):Int)) (step xs[i] s)) (he: ∀s,body (emb xs.length s)=some (.inr (fin s))) (s:σ) (h0:q0≤xs.length):zau body (emb q0 s)=goL step fin (xs.drop q0) s:=by
 have key: ∀(n q:Nat) (s:σ),q0≤q→q+n=xs.length→zau body (emb q s)=goL step fin (xs.drop q) s:=by
  intro n
  induction n with
  |zero=>
   intro q s _ hq
   have:q=xs.length:=by omega
   subst this
   rw [zcy,he s]
   simp [goL]
  |succ n ih=>
   intro q s h0 hq
   have hlt:q<xs.length:=by omega
   rw [zcy,hs q hlt s h0,List.drop_eq_getElem_cons hlt]
   rcases hst:step xs[q] s with _|s'|o
   ·simp [goL,hst,ztB]
   ·simp only [goL,hst,ztB];exact ih (q+1) s' (by omega) (by omega)
   ·simp [goL,hst,ztB]
 exact key (xs.length-q0) q0 s (Nat.le_refl _) (by omega)
theorem znw {α σ τ β:Type} {xs:List α} {body:τ→Option (τ ⊕ Option β)} (emb:Int→σ→τ) (step:α→σ→Option (σ ⊕ Option β)) (fin:σ→Option β)
  (hs: ∀(i:Nat) (hi:i<xs.length) (s:σ),body (emb i s)=ztB (emb ((i+1:Nat):Int)) (step xs[i] s)) (he: ∀s,body (emb xs.length s)=some (.inr (fin s))) (s:σ):zau body (emb 0 s)=goL step fin xs s:=by
 have:=zzg emb step fin 0 (fun i hi s _=>hs i hi s) he s (by omega)
 simpa using this
theorem zvy {α σ β:Type} {step:α→σ→Option (σ ⊕ Option β)} {fin:σ→Option β} {xs:List α} (p:α→Bool) (b:β) (h: ∀x∈xs,∀s,step x s=some (if p x=true then .inl s else .inr (some b))) (s:σ):goL step fin xs s=if xs.all p=true then fin s else some b:=by
 induction xs with
 |nil=>simp [goL]
 |cons x xs ih=>
  simp only [goL,h x (by simp) s]
  cases hp:p x with
  |true=>simp [hp,ih fun y hy=>h y (by simp [hy])]
  |false=>simp [hp]
theorem zAD {α σ β:Type} {step:α→σ→Option (σ ⊕ Option β)} {fin:σ→Option β} {xs:List α} (f:σ→α→σ) (I:σ→Prop) (hI: ∀x∈xs,∀s,I s→I (f s x)) (h: ∀x∈xs,∀s,I s→step x s=some (.inl (f s x))) {s:σ} (hs:I s):goL step fin xs s=fin (xs.foldl f s):=by
 induction xs generalizing s with
 |nil=>simp [goL]
 |cons x xs ih=>
  simp only [goL,h x (by simp) s hs,List.foldl_cons]
  exact ih (fun y hy=>hI y (by simp [hy])) (fun y hy=>h y (by simp [hy])) (hI x (by simp) s hs)
theorem zb3 {α σ τ β:Type} {xs:List α} {body:τ→Option (τ ⊕ Option β)} (emb:Int→σ→τ) (f:σ→α→σ) (fin:σ→Option β) (I:Nat→σ→Prop)
  (hs: ∀(i:Nat) (hi:i<xs.length) (s:σ),I i s→body (emb i s)=some (.inl (emb ((i+1:Nat):Int) (f s xs[i])))∧I (i+1) (f s xs[i])) (he: ∀s,I xs.length s→body (emb xs.length s)=some (.inr (fin s))) {s:σ} (h0:I 0 s):zau body (emb 0 s)=fin (xs.foldl f s)∧I xs.length (xs.foldl f s):=by
 have key: ∀(n q:Nat) (s:σ),q+n=xs.length→I q s→zau body (emb q s)=fin ((xs.drop q).foldl f s)∧I xs.length ((xs.drop q).foldl f s):=by
  intro n
  induction n with
  |zero=>
   intro q s hq hI
   have:q=xs.length:=by omega
   subst this
   rw [zcy,he s hI]
   simp [hI]
  |succ n ih=>
   intro q s hq hI
   have hlt:q<xs.length:=by omega
   obtain⟨h1,h2⟩:=hs q hlt s hI
   rw [zcy,h1,List.drop_eq_getElem_cons hlt,List.foldl_cons]
   exact ih (q+1) _ (by omega) h2
 have:=key xs.length 0 s (by omega) h0
 simpa using this
theorem zp1 {α:Type} {xs:List α} {p:α→Option Bool} (q:α→Bool) (hp: ∀x∈xs,p x=some (q x)) (hn:xs.length≤9223372036854775806):zaT xs p=some (xs.any q):=by
 have key: ∀(l:List α) (i:Int),0≤i→(∀x∈l,p x=some (q x))→ ∃r,zrf p l i=some r∧decide (r≥0)=l.any q:=by
  intro l
  induction l with
  |nil=>intro i _ _;exact⟨-1,rfl,by simp⟩
  |cons x l ih=>
   intro i hi h
   simp only [zrf,h x (by simp),Option.bind_some]
   cases hq:q x with
   |true=>exact⟨i,by simp,by simp [hq,hi]⟩
   |false=>
    obtain⟨r,h1,h2⟩:=ih (i+1) (by omega) fun y hy=>h y (by simp [hy])
    exact⟨r,by simp [h1],by simp [hq,h2]⟩
 obtain⟨r,h1,h2⟩:=key xs 0 (by omega) hp
 simp [zaT,zbo,zak hn,h1,h2]
theorem zlZ {α:Type} {b:Nat} {xs:List α} (h:(xs.length:Int)*b≤140737488355328) (h2:(xs.length:Int)≤140737488355328):zou b xs=some xs:=zak ⟨h,h2⟩
theorem zh5 {β:Type} {n:Nat} {body:Int→Option (Int ⊕ Option β)} (p:Nat→Bool) (b:β) (fin:Option β)
  (hs: ∀i:Nat,i<n→body i=some (if p i=true then .inl ((i+1:Nat):Int)else .inr (some b))) (he:body n=some (.inr fin)):zau body 0=if(List.range n).all p=true then fin else some b:=by
 have h1:=znw (xs:=List.range n) (body:=body) (fun i (_:Unit)=>i) (fun i _=>some (if p i=true then .inl ()else .inr (some b))) (fun _=>fin)
  (fun i hi s=>by
   rw [List.length_range]at hi
   rw [hs i hi,List.getElem_range]
   cases p i<;>simp [ztB]) (fun s=>by simpa using he) ()
 rw [zvy p b fun x _ s=>rfl]at h1
 exact h1
def zhc {α:Type} (p:α→Bool) (l:List α):Int:=match l.findIdx? p with|some i=>(i:Int)|none=> -1
theorem zpy {α:Type} (p:α→Bool):zhc p []= -1:=rfl
theorem zkb {α:Type} (p:α→Bool) (x:α) (l:List α):zhc p (x::l)=if p x=true then 0 else if zhc p l= -1 then-1 else zhc p l+1:=by
 unfold zhc
 rw [List.findIdx?_cons]
 cases p x with
 |true=>simp
 |false=>
  cases h:l.findIdx? p with
  |none=>simp
  |some i=>simp<;>omega
theorem zp2 {α:Type} (p:α→Bool) (l:List α): -1≤zhc p l:=by
 unfold zhc
 split<;>omega
theorem zkl {α:Type} (p:α→Bool) (l:List α):decide (zhc p l≥0)=l.any p:=by
 induction l with
 |nil=>simp [zpy]
 |cons x l ih=>
  have h1:=zp2 p l
  rw [zkb,List.any_cons,←ih]
  cases p x with
  |true=>simp
  |false=>
   by_cases h:zhc p l= -1
   ·simp [h]
   ·have:zhc p l≥0:=by omega
    simp [h,this];try omega
theorem zwq {α:Type} {p:α→Bool} {l:List α} (h:zhc p l≥0): ∃x,getI l (zhc p l)=some x∧p x=true∧x∈l:=by
 induction l with
 |nil=>simp [zpy]at h
 |cons y l ih=>
  rw [zkb]at h ⊢
  cases hy:p y with
  |true=>exact⟨y,by simp [getI],hy,by simp⟩
  |false=>
   have h1:=zp2 p l
   by_cases hm:zhc p l= -1
   ·rw [hy,hm]at h;simp at h
   ·have h0:zhc p l≥0:=by omega
    obtain⟨x,e1,e2,e3⟩:=ih h0
    obtain⟨_,e4,e5⟩:=zBZ e1
    refine⟨x, ?_,e2,by simp [e3]⟩
    simp only [Bool.false_eq_true,if_false,hm]
    unfold getI
    rw [if_pos (by omega),show(zhc p l+1).toNat=(zhc p l).toNat+1 by omega]
    simpa using e5
theorem zsK {α:Type} {xs:List α} {body:Int→Option (Int ⊕ Option Int)} (p:α→Bool) (hs: ∀(i:Nat) (hi:i<xs.length),body i=some (if p xs[i]=true then .inr (some (i:Int))else .inl ((i+1:Nat):Int))) (he:body xs.length=some (.inr (some (-1)))):zau body 0=some (zhc p xs):=by
 have key: ∀(n q:Nat),q+n=xs.length→zau body q=some (if zhc p (xs.drop q)= -1 then-1 else q+zhc p (xs.drop q)):=by
  intro n
  induction n with
  |zero=>
   intro q hq
   have:q=xs.length:=by omega
   subst this
   rw [zcy,he]
   simp [zpy]
  |succ n ih=>
   intro q hq
   have hlt:q<xs.length:=by omega
   rw [zcy,hs q hlt,List.drop_eq_getElem_cons hlt,zkb]
   cases p xs[q]with
   |true=>simp
   |false=>
    simp only [Bool.false_eq_true,if_false]
    rw [ih (q+1) (by omega)]
    have h1:=zp2 p (xs.drop (q+1))
    congr 1
    by_cases hm:zhc p (xs.drop (q+1))= -1
    ·simp [hm]
    ·have h2: ¬(zhc p (xs.drop (q+1))+1= -1):=by omega
     simp only [hm,if_false,h2]
     omega
 have h:=key xs.length 0 (by omega)
 rw [List.drop_zero]at h
 rw [show((0:Nat):Int)=0 from rfl]at h
 rw [h]
 have h1:=zp2 p xs
 by_cases hm:zhc p xs= -1
 ·simp [hm]
 ·simp [hm]
theorem zvi {α:Type} {xs:List α} {p:α→Option Bool} (q:α→Bool) (hp: ∀x∈xs,p x=some (q x)) (hn:xs.length≤9223372036854775806):zbo xs p=some (zhc q xs):=by
 have key: ∀(l:List α) (i:Int),(∀x∈l,p x=some (q x))→zrf p l i=some (if zhc q l= -1 then-1 else i+zhc q l):=by
  intro l
  induction l with
  |nil=>intro i _;simp [zrf,zpy]
  |cons x l ih=>
   intro i h
   simp only [zrf,h x (by simp),Option.bind_some,zkb]
   cases q x with
   |true=>simp
   |false=>
    simp only [Bool.false_eq_true,if_false]
    rw [ih (i+1) fun y hy=>h y (by simp [hy])]
    have h1:=zp2 q l
    congr 1
    by_cases hm:zhc q l= -1
    ·simp [hm]
    ·have h2: ¬(zhc q l+1= -1):=by omega
     simp only [hm,if_false,h2]
     omega
 unfold zbo
 rw [zak hn,key xs 0 hp]
 by_cases hm:zhc q xs= -1
 ·simp [hm]
 ·simp [hm]
theorem zFR {α:Type} {b:Bool} {A B:Option α} {y:Option α} (ha:b=true→A=y) (hb:b=false→B=y):(if b=true then A else B)=y:=by
 cases b with
 |true=>simpa using ha rfl
 |false=>simpa using hb rfl
theorem zyc {α:Type} {b:Bool} {A B y:Option α} (h:b=false) (hb:B=y):(if b=true then A else B)=y:=by rw [if_neg (by simp [h])];exact hb
theorem zFY {α:Type} {b:Bool} {A B y:Option α} (h:b=true) (ha:A=y):(if b=true then A else B)=y:=by rw [if_pos h];exact ha
theorem zeV {α β:Type} {o:Option α} {x:α} {f:α→Option β} (h:o=some x):o.bind f=f x:=by rw [h];rfl
end Go.Proofs.YtgobcjbjogkpjaaGreatDoor
end
section
namespace Go.Proofs.YtgobcjbjogkpjaaGreatDoor
open Go.RowKit
def zbj {α:Type} (o:Option α) (Q:α→Prop):Prop:= ∃x,o=some x∧Q x
section
variable {α β σ:Type} {Q:β→Prop}
theorem zbj.bind {o:Option α} {P:α→Prop} {f:α→Option β} (h:zbj o P) (hf: ∀x,P x→zbj (f x) Q):zbj (o.bind f) Q:=by
 obtain⟨x,rfl,hx⟩:=h
 exact hf x hx
theorem zbj.ret {x:β} (h:Q x):zbj (some x) Q:=⟨x,rfl,h⟩
theorem zbj.ite {b:Bool} {A B:Option β} (ha:b=true→zbj A Q) (hb:b=false→zbj B Q):zbj (if b=true then A else B) Q:=by
 cases b with
 |true=>simpa using ha rfl
 |false=>simpa using hb rfl
theorem zbj.req {p:Prop} [Decidable p] {k:Option β} (hp:p) (hk:zbj k Q):zbj (req p k) Q:=by rw [zak hp];exact hk
theorem zbj.mono {o:Option β} {P:β→Prop} (h:zbj o P) (hPQ: ∀x,P x→Q x):zbj o Q:=by
 obtain⟨x,hx,h⟩:=h
 exact⟨x,hx,hPQ x h⟩
theorem zbj.getI {xs:List β} {i:Int} (h0:0≤i) (h:i<xs.length) (hq: ∀x,x∈xs→Q x):zbj (getI xs i) Q:=by
 obtain⟨x,h1,h2,_⟩:=zip h0 h
 exact⟨x,h1,hq x h2⟩
theorem zft {body:σ→Option (σ ⊕ Option β)} (I:Nat→σ→Prop) (h: ∀n s,I n s→zbj (body s) fun o=>match o with| .inl s'=> ∃m,m<n∧I m s'| .inr q=>zbj q Q): ∀{n:Nat} {s:σ},I n s→zbj (zau body s) Q:=by
 intro n
 induction n using Nat.strongRecOn with
 |_ n ih=>
  intro s hI
  obtain⟨o,ho,h2⟩:=h n s hI
  rw [zcy,ho]
  match o,h2 with
  | .inl s',⟨m,hm,hI'⟩=>exact ih m hm hI'
  | .inr q,hq=>exact hq
end
def okC (c:zad) (k:Int):Prop:=(∀b∈c.fcode,0≤b∧b≤255)∧0≤c.fat∧c.fat≤k
theorem okC.up {c:zad} {i j:Int} (h:okC c i) (hij:i≤j):okC c j:=⟨h.1,h.2.1,by have:=h.2.2;omega⟩
theorem okC.start {code:List Int} (h: ∀b∈code,0≤b∧b≤255):okC ⟨code,0,0⟩ 0:=⟨h,by simp,by simp⟩
theorem zCa (a:Int):0≤IntKind.i64.wrap (IntKind.u64.wrap ((BitVec.ofInt (IntKind.bits .u64) a&&&BitVec.ofInt (IntKind.bits .u64) 255).toNat:Int))∧IntKind.i64.wrap (IntKind.u64.wrap ((BitVec.ofInt (IntKind.bits .u64) a&&&BitVec.ofInt (IntKind.bits .u64) 255).toNat:Int))≤255:=by
 have h:(BitVec.ofInt (IntKind.bits .u64) a&&&BitVec.ofInt (IntKind.bits .u64) 255).toNat≤255:=by
  rw [BitVec.toNat_and]
  exact Nat.le_trans Nat.and_le_right (by decide)
 generalize (BitVec.ofInt (IntKind.bits .u64) a&&&BitVec.ofInt (IntKind.bits .u64) 255).toNat=m at h ⊢
 have e:IntKind.u64.wrap (m:Int)=m:=by simp [IntKind.wrap,IntKind.bits,IntKind.signed];omega
 rw [e,zaH (by omega) (by omega)]
 omega
theorem zAd {c:zad} {k:Int} (h:okC c k) (hk:k≤4611686018427387904):zbj (zbw c) fun p=>(0≤p.1∧p.1≤255)∧okC p.2 (k+1):=by
 obtain⟨hb,h0,h1⟩:=h
 have w:IntKind.i64.wrap (c.fat+1)=c.fat+1:=zaH (by omega) (by omega)
 unfold zbw
 refine .ite (fun hlt=> ?_) fun hlt=> ?_
 ·simp only [decide_eq_true_eq]at hlt
  refine zbj.bind (P:=fun y=>0≤y∧y≤255) (.getI h0 hlt hb) fun y hy=> ?_
  have wy:IntKind.i64.wrap y=y:=zaH (by omega) (by omega)
  refine .ite (fun _=> .ret ⟨by dsimp only;rw [wy];exact hy,hb,by dsimp only;omega,by dsimp only;omega⟩) fun _=> .ret ⟨zCa _,hb,by dsimp only;omega,by dsimp only;omega⟩
 ·refine .ite (fun _=> .ret ⟨by simp,hb,by dsimp only;omega,by dsimp only;omega⟩) fun _=> .ret ⟨zCa _,hb,by dsimp only;omega,by dsimp only;omega⟩
theorem zcH {c:zad} {k:Int} (n:Int) (h:okC c k) (hk:k≤4611686018427387000):zbj (zac c n) fun p=>(0≤p.1∧(1≤n→p.1<n)∧p.1≤65535)∧okC p.2 (k+2):=by
 have tm: ∀x:Int,0≤x→1<n→0≤x.tmod n∧x.tmod n<n∧x.tmod n≤x:=fun x hx hn=>by
  rw [Int.tmod_eq_emod_of_nonneg hx]
  exact⟨Int.emod_nonneg _ (by omega),Int.emod_lt_of_pos _ (by omega),by
   have:=Int.emod_add_mul_ediv x n
   have h2:0≤n*(x/n):=Int.mul_nonneg (by omega) (Int.ediv_nonneg hx (by omega))
   omega⟩
 unfold zac
 refine .ite (fun hn=> .ret ⟨⟨by simp,fun h1=>by dsimp only;omega,by simp⟩,h.up (by omega)⟩) fun hn=> ?_
 simp only [decide_eq_false_iff_not]at hn
 refine(zAd h (by omega)).bind fun p ⟨hp,hc⟩=> ?_
 refine .ite (fun _=> ?_) fun _=> ?_
 ·refine(zAd hc (by omega)).bind fun q ⟨hq,hd⟩=> .req (by omega) (.ret ?_)
  have w1:IntKind.i64.wrap (p.1*256)=p.1*256:=zaH (by omega) (by omega)
  have w2:IntKind.i64.wrap (p.1*256+q.1)=p.1*256+q.1:=zaH (by omega) (by omega)
  have:=tm (p.1*256+q.1) (by omega) (by omega)
  dsimp only
  rw [w1,w2]
  exact⟨⟨this.1,fun _=>this.2.1,by omega⟩,hd.up (by omega)⟩
 ·have:=tm p.1 hp.1 (by omega)
  exact .req (by omega) (.ret ⟨⟨this.1,fun _=>this.2.1,by dsimp only;omega⟩,hc.up (by omega)⟩)
theorem zAC {c:zad} {k:Int} (l:List Int) (hl:l≠ []) (h:okC c k) (hk:k≤4611686018427387000):zbj (zdB c l) fun p=>p.1∈l∧okC p.2 (k+2):=by
 unfold zdB
 have hpos:0<l.length:=List.length_pos_iff.2 hl
 refine(zcH l.length h hk).bind fun p ⟨hp,hc⟩=> ?_
 exact zbj.bind (P:=fun y=>y∈l) (.getI hp.1 (hp.2.1 (by omega)) fun x hx=>hx) fun y hy=> .ret ⟨hy,hc⟩
theorem zk0 {c:zad} {k:Int} (n:Int) (h:okC c k) (hk:k≤4611686018427387000):zbj (zas c n) fun p=>okC p.2 (k+2):=by
 unfold zas
 exact(zcH n h hk).bind fun p ⟨_,hc⟩=> .ret hc
end Go.Proofs.YtgobcjbjogkpjaaGreatDoor
end
section
namespace Go.Proofs.YtgobcjbjogkpjaaGreatDoor
open Go.RowKit
set_option maxRecDepth 100000
theorem zrd {α β:Type} (f:α→β) (l:List α) (o:List β):l.foldl (fun o x=>o++ [f x]) o=o++l.map f:=by
 induction l generalizing o with
 |nil=>simp
 |cons x l ih=>rw [List.foldl_cons,ih];simp
end Go.Proofs.YtgobcjbjogkpjaaGreatDoor
end
section
namespace Go.Proofs.YtgobcjbjogkpjaaGreatDoor
open Go.RowKit
set_option maxRecDepth 100000
abbrev Str:=List UInt8
def inB (a b c:Int):Bool:=decide (a≥b)&&decide (a≤c)
theorem zaE {a b c:Int}:inB a b c=true↔b≤a∧a≤c:=by simp [inB]
@[simp] theorem zjX (a b c:Int):zba a b c=some (inB a b c):=rfl
@[simp] theorem zhL (a b c:Int):zbc a b c=some (inB a b c):=rfl
def zfy (b:UInt8):Bool:=(decide ((b.toNat:Int)≥97)&&decide ((b.toNat:Int)≤122))||(decide ((b.toNat:Int)≥48)&&decide ((b.toNat:Int)≤57))
def zja (s more:Str):Bool:=s.all fun b=>zfy b||more.contains b
theorem zEv {a b:UInt8}:((a.toNat:Int)==(b.toNat:Int))=(a==b):=by
 rw [Bool.eq_iff_iff]
 simp only [beq_iff_eq]
 constructor
 ·intro h;exact UInt8.toNat_inj.1 (by omega)
 ·rintro rfl;rfl
theorem zvf {α:Type} (xs:List α) (p:α→Bool) (q:Nat→Bool) (h: ∀(i:Nat) (hi:i<xs.length),q i=p xs[i]):(List.range xs.length).all q=xs.all p:=by
 rw [Bool.eq_iff_iff]
 simp only [List.all_eq_true,List.mem_range]
 constructor
 ·intro hq x hx
  obtain⟨i,hi,rfl⟩:=List.getElem_of_mem hx
  rw [←h i hi];exact hq i hi
 ·intro hp i hi
  rw [h i hi];exact hp _ (List.getElem_mem hi)
theorem ziA {α β:Type} {xs:List α} {body:Int→Option (Int ⊕ Option β)} (p:α→Bool) (b:β) (fin:Option β)
  (hs: ∀(i:Nat) (hi:i<xs.length),body i=some (if p xs[i]=true then .inl ((i+1:Nat):Int)else .inr (some b))) (he:body xs.length=some (.inr fin)):zau body 0=if xs.all p=true then fin else some b:=by
 rw [zh5 (n:=xs.length) (fun i=>match xs[i]? with|some x=>p x|none=>true) b fin (fun i hi=>by rw [hs i hi];simp [hi]) he,
  zvf xs p _ fun i hi=>by simp [hi]]
theorem zqg {s more:Str} (h1:s.length≤2000000) (h2:more.length≤2000000):zeR s more=some (zja s more):=by
 unfold zeR
 rw [ziA (xs:=s) (fun b=>zfy b||more.contains b) false (some true) ?_ (by simp [zhm])]
 ·unfold zja
  cases(s.all fun b=>zfy b||more.contains b)<;>rfl
 ·intro i hi
  have hin:zau (fun t:Bool × Int=>zd3 more i s[i] t.1 t.2) (zfy s[i],0)=some (if(zfy s[i]||more.contains s[i])=true then .inl ((i+1:Nat):Int)else .inr (some false)):=by
   have hl:=znw (xs:=more) (body:=fun t:Bool × Int=>zd3 more i s[i] t.1 t.2) (fun k (ok:Bool)=>(ok,k)) (fun b ok=>some (.inl (ok||s[i]==b))) (fun ok=>zhC i ok)
    (fun k hk ok=>by
     simp only [zd3,Int.ofNat_lt,hk,decide_true,if_true,zae hk,Option.bind_some,zbS hk (by omega:more.length≤_),zEv,ztB]
     cases ok<;>simp) (fun ok=>by simp [zd3]) (zfy s[i])
   rw [zAD (fun ok b=>ok||s[i]==b) (fun _=>True) (fun _ _ _ _=>trivial) (fun _ _ _ _=>rfl) trivial]at hl
   have hf: ∀(l:Str) (ok:Bool),l.foldl (fun ok b=>ok||s[i]==b) ok=(ok||l.contains s[i]):=by
    intro l
    induction l with
    |nil=>intro ok;simp
    |cons c l ih=>intro ok;rw [List.foldl_cons,ih,List.contains_cons,Bool.or_assoc]
   rw [hl,hf]
   unfold zhC
   rw [zbS hi (by omega)]
   cases(zfy s[i]||more.contains s[i])<;>rfl
  simp only [zhm,Int.ofNat_lt,hi,decide_true,if_true,zae hi,Option.bind_some]
  exact hin
theorem zs0 (l:Str) (c:UInt8):decide (Lib.indexByte l c<0)= !l.contains c:=by
 induction l with
 |nil=>rfl
 |cons b l ih=>
  unfold Lib.indexByte
  have hge:=Lib.indexByte_ge l c
  rw [List.contains_cons]
  by_cases hb:b=c
  ·subst hb;simp
  ·have h1:(b==c)=false:=by simpa using hb
   have h2:(c==b)=false:=by simpa using fun h=>hb h.symm
   rw [h1,h2]
   simp only [Bool.false_eq_true,if_false,Bool.false_or]
   rw [←ih]
   by_cases hm:Lib.indexByte l c= -1
   ·simp [hm]
   ·have h3:(Lib.indexByte l c== -1)=false:=by simpa using hm
    rw [h3]
    simp only [Bool.false_eq_true,if_false]
    rw [decide_eq_decide]
    omega
theorem zod {s more:Str} (h1:s.length≤2000000):zd4 s more=some (zja s more):=by
 unfold zd4
 rw [ziA (xs:=s) (fun b=>zfy b||more.contains b) false (some true) ?_ (by simp [zgy])]
 ·unfold zja
  cases(s.all fun b=>zfy b||more.contains b)<;>rfl
 ·intro i hi
  have hu:((s[i].toNat:Int)).toNat.toUInt8=s[i]:=by simp
  simp only [zgy,Int.ofNat_lt,hi,decide_true,if_true,zae hi,Option.bind_some,zfl,zgh,zbk,hu,zs0,zbS hi (by omega:s.length≤_)]
  rw [show((decide ((s[i].toNat:Int)≥97)&&decide ((s[i].toNat:Int)≤122))||(decide ((s[i].toNat:Int)≥48)&&decide ((s[i].toNat:Int)≤57)))=zfy s[i]from rfl]
  cases zfy s[i]<;>cases more.contains s[i]<;>rfl
def zch (s:Str):Bool:=inB s.length 1 12&&zja s [46,47]
def zfG (s:Str):Bool:=decide ((s.length:Int)≤24)&&zja s [46,45,44,95]
theorem zB6 {s:Str} (h:s.length≤2000000):zh6 s=some (zch s):=by
 simp only [zh6,zjX,Option.bind_some,zqg h (more:= [46,47]) (by decide),zch]
 cases inB s.length 1 12<;>simp
theorem zEQ {s:Str} (h:s.length≤2000000):zhK s=some (zch s):=by
 simp only [zhK,zhL,Option.bind_some,zod h,zch]
 cases inB s.length 1 12<;>simp
theorem zAj {s:Str} (h:s.length≤2000000):zh0 s=some (zfG s):=by
 simp only [zh0,Option.bind_some,zqg h (more:= [46,45,44,95]) (by decide),zfG]
 by_cases hl:(s.length:Int)≤24<;>simp [hl]
theorem zD9 {s:Str} (h:s.length≤2000000):zhI s=some (zfG s):=by
 simp only [zhI,Option.bind_some,zod h,zfG]
 by_cases hl:(s.length:Int)≤24<;>simp [hl]
def zjt (v:Str) (gone:Bool):Bool:=zfG v&&(!gone||v== [])
theorem zy2 {v:Str} {gone:Bool} (h:v.length≤2000000):zgF v gone=some (zjt v gone):=by
 simp only [zgF,zD9 h,Option.bind_some,zjt,bne]
 cases zfG v<;>cases gone<;>cases(v== [])<;>rfl
theorem zB1 {k v:Str} {gone:Bool} (hk:k.length≤2000000) (hv:v.length≤2000000):zhG k v gone=some (zch k&&zjt v gone):=by
 simp only [zhG,zB6 hk,zAj hv,Option.bind_some,zjt]
 cases zch k<;>simp
def zfW (ks:List Str) (i:Nat):Bool:=i==0||Op.bytesLess ((ks[i-1]?).getD []) ((ks[i]?).getD [])
def zmz (ks:List Str):Bool:=(List.range ks.length).all (zfW ks)
theorem ztP: ∀(a b:Str),(Op.bytesLess a b||a==b)= !Op.bytesLess b a
 | [], []=>rfl
 | [],_::_=>rfl
 |_::_, []=>rfl
 |x::a,y::b=>by
  have ih:=ztP a b
  simp only [Op.bytesLess]
  rcases Nat.lt_trichotomy x.toNat y.toNat with h|h|h
  ·have h1:x<y:=UInt8.lt_iff_toNat_lt.2 h
   have h2: ¬y<x:=fun h'=>by have:=UInt8.lt_iff_toNat_lt.1 h';omega
   have h3: ¬y=x:=fun h'=>by subst h';omega
   simp [h1,h2,h3]
  ·have h0:x=y:=UInt8.toNat_inj.1 h
   subst h0
   have h1: ¬x<x:=fun h'=>by have:=UInt8.lt_iff_toNat_lt.1 h';omega
   rw [show((x::a)==(x::b))=(a==b) by simp]
   simp only [h1,decide_false,Bool.false_or,beq_self_eq_true,Bool.true_and]
   exact ih
  ·have h1: ¬x<y:=fun h'=>by have:=UInt8.lt_iff_toNat_lt.1 h';omega
   have h2:y<x:=UInt8.lt_iff_toNat_lt.2 h
   have h3: ¬x=y:=fun h'=>by subst h';omega
   simp [h1,h2,h3]
theorem ztD {i:Nat} (h0:0<i) (h:i≤2000000):IntKind.i64.wrap ((i:Int)-1)=((i-1:Nat):Int):=by
 rw [zaH (by omega) (by omega)];omega
theorem zzU {α:Type} (xs:List α) (p:α→Bool) (q r:Nat→Bool) (h: ∀(i:Nat) (hi:i<xs.length),r i=(p xs[i]&&q i)):(List.range xs.length).all r=(xs.all p&&(List.range xs.length).all q):=by
 rw [←zvf xs p (fun i=>match xs[i]? with|some x=>p x|none=>true) fun i hi=>by simp [hi]]
 rw [Bool.eq_iff_iff]
 simp only [Bool.and_eq_true,List.all_eq_true,List.mem_range]
 constructor
 ·intro hr
  exact⟨fun i hi=>by have:=hr i hi;rw [h i hi,Bool.and_eq_true]at this;simpa [hi]using this.1,fun i hi=>by have:=hr i hi;rw [h i hi,Bool.and_eq_true]at this;exact this.2⟩
 ·rintro⟨h1,h2⟩ i hi
  rw [h i hi,Bool.and_eq_true]
  exact⟨by have:=h1 i hi;simpa [hi]using this,h2 i hi⟩
theorem zvH {ks:List Str} (h:ks.length≤2000000) (hk: ∀k∈ks,k.length≤2000000):zf6 ks=some (ks.all zch&&zmz ks):=by
 unfold zf6 zmz
 rw [zh5 (n:=ks.length) (fun i=>zch ((ks[i]?).getD [])&&zfW ks i) false (some true) ?_ (by simp [zgb]),zzU ks zch (zfW ks) _ fun i hi=>by simp [hi]]
 ·cases(ks.all zch&&(List.range ks.length).all (zfW ks))<;>rfl
 ·intro i hi
  simp only [zgb,Int.ofNat_lt,hi,decide_true,if_true,zae hi,Option.bind_some,zEQ (hk _ (List.getElem_mem hi)),zbS hi (by omega:ks.length≤_),List.getElem?_eq_getElem hi,Option.getD_some,zfW]
  by_cases h0:i=0
  ·subst h0
   cases zch ks[0]<;>simp
  ·have hp:(i:Int)>0:=by omega
   have hi1:i-1<ks.length:=by omega
   have hb:(i==0)=false:=by simpa using h0
   simp only [hp,decide_true,if_true,ztD (Nat.pos_of_ne_zero h0) (by omega:i≤2000000),zae hi1,Option.bind_some,ztP,List.getElem?_eq_getElem hi1,Option.getD_some,hb,Bool.false_or]
   cases zch ks[i]<;>cases Op.bytesLess ks[i-1] ks[i]<;>rfl
theorem zwb {l:List zaa} (h:l.length≤2000000):zf4 l=some (l.map (·.fKey)):=by
 have h1:=zb3 (xs:=l) (body:=fun s:Int × List Str=>zcv l s.1 s.2) (fun i (o:List Str)=>(i,o)) (fun o w=>o++ [w.fKey]) (fun o=>some o) (fun q o=>o.length=q)
  (fun i hi o hI=>by
   refine⟨?_,by simp [hI]⟩
   show zcv l i o=_
   unfold zcv
   have hr:((o.length:Int)+(([l[i].fKey]:List Str).length:Int))*16≤140737488355328∧(o.length:Int)+(([l[i].fKey]:List Str).length:Int)≤140737488355328:=by
    rw [List.length_singleton,hI];omega
   rw [if_pos (by simpa using hi),zae hi,Option.bind_some,zak hr,zbS hi (by omega)]) (fun o _=>by
   show zcv l l.length o=_
   unfold zcv
   rw [if_neg (by simp)]) (s:= []) rfl
 have hf: ∀(l:List zaa) (o:List Str),l.foldl (fun o w=>o++ [w.fKey]) o=o++l.map (·.fKey):=by
  intro l
  induction l with
  |nil=>intro o;simp
  |cons w l ih=>intro o;rw [List.foldl_cons,ih];simp
 have h2:=h1.1
 rw [hf,List.nil_append]at h2
 unfold zf4
 exact h2
def zgd (w:zaa):Bool:=zch w.fKey&&zjt w.fVal w.fGone
def zdW (l:List zaa):Bool:=decide ((l.length:Int)≤24)&&(l.all zgd&&zmz (l.map (·.fKey)))
def zmk (l:List zaa):Prop:=l.length≤2000000∧ ∀w∈l,w.fKey.length≤2000000∧w.fVal.length≤2000000
theorem zzQ {l:List zaa} (h:zmk l):zfo l=some (zdW l):=by
 have e1:zaT l (fun y0_=>zel y0_)=some (l.any fun w=> !zjt w.fVal w.fGone):=zp1 _ (fun w hw=>by simp [zel,zy2 (h.2 w hw).2]) (by have:=h.1;omega)
 have e2:=zvH (ks:=l.map (·.fKey)) (by simpa using h.1) (by simp only [List.mem_map];rintro k ⟨w,hw,rfl⟩;exact(h.2 w hw).1)
 simp only [zfo,zwb h.1,e1,e2,Option.bind_some,zdW,←List.not_all_eq_any_not]
 have e3:l.all zgd=((l.map (·.fKey)).all zch&&l.all fun w=>zjt w.fVal w.fGone):=by
  rw [Bool.eq_iff_iff]
  simp only [List.all_eq_true,Bool.and_eq_true,zgd,List.mem_map]
  constructor
  ·intro h;exact⟨by rintro k ⟨w,hw,rfl⟩;exact(h w hw).1,fun w hw=>(h w hw).2⟩
  ·rintro⟨h1,h2⟩ w hw;exact⟨h1 _ ⟨w,hw,rfl⟩,h2 w hw⟩
 rw [e3]
 generalize (l.map (·.fKey)).all zch=b1
 generalize zmz (l.map (·.fKey))=b2
 generalize (l.all fun w=>zjt w.fVal w.fGone)=b3
 by_cases hl:(l.length:Int)≤24<;>cases b1<;>cases b2<;>cases b3<;>simp [hl]
theorem zzZ {l:List zaa} (h:zmk l):zgB l=some (zdW l):=by
 unfold zgB
 have hn:=h.1
 rw [zh5 (n:=l.length) (fun i=>zgd ((l[i]?).getD ⟨[], [],false⟩)&&zfW (l.map (·.fKey)) i) false (zgw l) ?_ (by simp [zg5]),zzU l zgd (zfW (l.map (·.fKey))) _ fun i hi=>by simp [hi]]
 ·unfold zgw zdW zmz
  rw [List.length_map]
  cases(l.all zgd&&(List.range l.length).all (zfW (l.map (·.fKey))))<;>simp
 ·intro i hi
  have hm:=h.2 _ (List.getElem_mem hi)
  simp only [zg5,Int.ofNat_lt,hi,decide_true,if_true,zae hi,Option.bind_some,zB1 hm.1 hm.2,zbS hi (by omega:l.length≤_),List.getElem?_eq_getElem hi,Option.getD_some,zfW,List.getElem?_map,Option.map_some]
  rw [show(zch l[i].fKey&&zjt l[i].fVal l[i].fGone)=zgd l[i]from rfl]
  by_cases h0:i=0
  ·subst h0
   cases zgd l[0]<;>simp
  ·have hp:(i:Int)>0:=by omega
   have hi1:i-1<l.length:=by omega
   have hb:(i==0)=false:=by simpa using h0
   simp only [hp,decide_true,if_true,ztD (Nat.pos_of_ne_zero h0) (by omega:i≤2000000),zae hi1,Option.bind_some,List.getElem?_eq_getElem hi1,Option.map_some,Option.getD_some,hb,Bool.false_or]
   cases zgd l[i]<;>cases Op.bytesLess l[i-1].fKey l[i].fKey<;>rfl
def zbY (l:List zaa):Bool:=zdW l&&l.all fun w=> !w.fGone
theorem zC0 {l:List zaa} (h:zmk l):ziR l=some (zbY l):=by
 have e1:zaT l (fun y0_=>zgT y0_)=some (l.any fun w=> !!w.fGone):=zp1 _ (fun w hw=>by simp [zgT]) (by have:=h.1;omega)
 simp only [ziR,zzQ h,e1,Option.bind_some,zbY,←List.not_all_eq_any_not]
 cases zdW l<;>simp
theorem zm1 {l:List zaa} (h:zmk l):zcx l=some (zbY l):=by
 have hn:=h.1
 unfold zcx
 rw [ziA (xs:=l) (fun w=> !w.fGone) false (zil l) (fun i hi=>by
  simp only [zik,Int.ofNat_lt,hi,decide_true,if_true,zae hi,Option.bind_some,zbS hi (by omega:l.length≤_)]
  cases l[i].fGone<;>rfl) (by simp [zik])]
 simp only [zil,zzZ h,Option.bind_some,zbY]
 cases(l.all fun w=> !w.fGone)<;>simp
end Go.Proofs.YtgobcjbjogkpjaaGreatDoor
end
section
namespace Go.Proofs.YtgobcjbjogkpjaaGreatDoor
open Go.RowKit
set_option maxRecDepth 100000
def small (b:UInt8):Bool:= !(decide ((b.toNat:Int)<97)||decide ((b.toNat:Int)>122))
def za5 (s:Str) (n:Int):Bool:=s.all small&&inB s.length 1 n
theorem zn6 {s:Str} {n:Int} (h:s.length≤2000000):zc2 s n=some (za5 s n):=by
 unfold zc2
 rw [ziA (xs:=s) small false (zfB s n) (fun i hi=>by
  simp only [zfA,Int.ofNat_lt,hi,decide_true,if_true,zae hi,Option.bind_some,zbS hi (by omega:s.length≤_)]
  rw [show(decide ((s[i].toNat:Int)<97)||decide ((s[i].toNat:Int)>122))= !small s[i] by simp [small]]
  cases small s[i]<;>rfl) (by simp [zfA])]
 unfold zfB za5 inB
 cases s.all small<;>simp
theorem zoq {s:Str} {n:Int} (h:s.length≤2000000):zc1 s n=some (za5 s n):=by
 unfold zc1
 rw [ziA (xs:=s) small false (zfD s n) (fun i hi=>by
  simp only [zfE,Int.ofNat_lt,hi,decide_true,if_true,zae hi,Option.bind_some,zbS hi (by omega:s.length≤_)]
  rw [show(decide ((s[i].toNat:Int)<97)||decide ((s[i].toNat:Int)>122))= !small s[i] by simp [small]]
  cases small s[i]<;>rfl) (by simp [zfE])]
 simp only [zfD,zhL,Option.bind_some,za5]
 cases s.all small<;>simp
theorem zD5 {xs:List Str} {s:Str} (h:xs.length≤2000000):zhX xs s=some (zhc (· ==s) xs):=by
 unfold zhX
 refine zsK (· ==s) (fun i hi=> ?_) (by simp [zi5])
 simp only [zi5,Int.ofNat_lt,hi,decide_true,if_true,zae hi,Option.bind_some,zbS hi (by omega:xs.length≤_)]
 cases xs[i]==s<;>rfl
theorem zAA {xs:List Str} {s:Str} (h:xs.length≤2000000):zbs xs s=some (zhc (· ==s) xs):=by
 unfold zbs
 refine zsK (· ==s) (fun i hi=> ?_) (by simp [zbZ])
 simp only [zbZ,Int.ofNat_lt,hi,decide_true,if_true,zae hi,Option.bind_some,zbS hi (by omega:xs.length≤_)]
 rw [show(s==xs[i])=(xs[i]==s)from BEq.comm]
 cases xs[i]==s<;>rfl
theorem zz6 (xs:List Str) (s:Str):(xs.any fun x=>x==s)=xs.contains s:=by
 rw [List.contains_eq_any_beq]
 congr 1
 funext x
 exact BEq.comm
theorem zB7 {xs:List Str} {s:Str} (h:xs.length≤2000000):zaN xs s=some (xs.contains s):=by
 simp only [zaN,zAA h,Option.bind_some,zkl,zz6]
def ztZ (cs:List Str) (i:Nat):Bool:=za5 ((cs[i]?).getD []) 3&& !(cs.take i).contains ((cs[i]?).getD [])
def zmu (cs:List Str):Bool:=(List.range cs.length).all (ztZ cs)
def zmF (t:zab) (i:Nat):Bool:=
 let x:=(t.fIdxs[i]?).getD ⟨[],0,0⟩
 za5 x.fName 1&&inB x.fCol 1 ((t.fCols.length:Int)-1)&&inB x.fStage 0 3&&(i==0||Op.bytesLess ((t.fIdxs[i-1]?).getD ⟨[],0,0⟩).fName x.fName)
def zag (t:zab):Bool:=za5 t.fName 1&&(zmu t.fCols&&inB t.fCols.length 2 4)&&decide ((t.fIdxs.length:Int)≤3)&&(List.range t.fIdxs.length).all (zmF t)
structure zcY (t:zab):Prop where
 name:t.fName.length≤2000000
 cols:t.fCols.length≤2000000
 col: ∀c∈t.fCols,c.length≤2000000
 idxs:t.fIdxs.length≤2000000
 idx: ∀x∈t.fIdxs,x.fName.length≤2000000
theorem zC2 {α:Type} (xs:List α) (i:Nat):ze8 xs 0 i=xs.take i:=by simp [ze8]
theorem zDo {cs:List Str} (h:cs.length≤2000000) (hc: ∀c∈cs,c.length≤2000000):zhT cs=some (zmu cs&&inB cs.length 2 4):=by
 unfold zhT
 rw [zh5 (n:=cs.length) (ztZ cs) false (zht cs) ?_ (by simp [zhv])]
 ·simp only [zht,zjX,Option.bind_some,zmu]
  cases(List.range cs.length).all (ztZ cs)<;>simp
 ·intro i hi
  unfold zhv ztZ
  rw [if_pos (by simpa using hi),zae hi,Option.bind_some,zn6 (hc _ (List.getElem_mem hi)),Option.bind_some,zak (by omega),zC2,zD5 (by rw [List.length_take];omega),Option.bind_some,zkl,zz6,zbS hi (by omega)]
  simp only [List.getElem?_eq_getElem hi,Option.getD_some]
  cases za5 cs[i] 3<;>cases(cs.take i).contains cs[i]<;>rfl
theorem zkz {t:zab} (h:zcY t):zbH t=some (zag t):=by
 have hw:=zaH (n:=(t.fCols.length:Int)-1) (by omega) (by have:=h.cols;omega)
 have hn:=h.idxs
 have hl:zau (fun s:Int=>zen t s) 0=some ((List.range t.fIdxs.length).all (zmF t)):=by
  rw [zh5 (n:=t.fIdxs.length) (zmF t) false (some true) ?_ (by simp [zen])]
  ·cases(List.range t.fIdxs.length).all (zmF t)<;>rfl
  ·intro i hi
   unfold zmF
   simp only [zen,Int.ofNat_lt,hi,decide_true,if_true,zae hi,Option.bind_some,zn6 (h.idx _ (List.getElem_mem hi)),zjX,hw,zbS hi (by omega:t.fIdxs.length≤_),List.getElem?_eq_getElem hi,Option.getD_some]
   by_cases h0:i=0
   ·subst h0
    cases za5 t.fIdxs[0].fName 1<;>cases inB t.fIdxs[0].fCol 1 ((t.fCols.length:Int)-1)<;>cases inB t.fIdxs[0].fStage 0 3<;>rfl
   ·have hp:(i:Int)>0:=by omega
    have hi1:i-1<t.fIdxs.length:=by omega
    have hb:(i==0)=false:=by simpa using h0
    simp only [hp,decide_true,if_true,ztD (Nat.pos_of_ne_zero h0) (by omega:i≤2000000),zae hi1,Option.bind_some,List.getElem?_eq_getElem hi1,Option.getD_some,hb,Bool.false_or]
    cases za5 t.fIdxs[i].fName 1<;>cases inB t.fIdxs[i].fCol 1 ((t.fCols.length:Int)-1)<;>cases inB t.fIdxs[i].fStage 0 3<;>cases Op.bytesLess t.fIdxs[i-1].fName t.fIdxs[i].fName<;>rfl
 unfold zbH zag
 rw [zn6 h.name,Option.bind_some,zDo h.cols h.col,hl]
 by_cases hk:(t.fIdxs.length:Int)≤3
 ·have hk': ¬(t.fIdxs.length:Int)>3:=by omega
  simp only [hk,hk',decide_true,decide_false,Bool.or_false,Bool.and_true]
  cases za5 t.fName 1<;>cases(zmu t.fCols&&inB t.fCols.length 2 4)<;>simp
 ·have hk':(t.fIdxs.length:Int)>3:=by omega
  simp only [hk,hk',decide_true,decide_false,Bool.or_true,Bool.and_false,Bool.false_and]
  cases za5 t.fName 1<;>simp
theorem zA2 {t:zab} (h:zcY t):zfU t=some (zag t):=by
 have hw:=zaH (n:=(t.fCols.length:Int)-1) (by omega) (by have:=h.cols;omega)
 have hn:=h.idxs
 have hm:=h.cols
 have hl:zau (fun s:Int=>zeq t s) 0=some ((List.range t.fIdxs.length).all (zmF t)):=by
  rw [zh5 (n:=t.fIdxs.length) (zmF t) false (some true) ?_ (by simp [zeq])]
  ·cases(List.range t.fIdxs.length).all (zmF t)<;>rfl
  ·intro i hi
   unfold zmF
   simp only [zeq,zjF,Int.ofNat_lt,hi,decide_true,if_true,zae hi,Option.bind_some,zoq (h.idx _ (List.getElem_mem hi)),zhL,hw,zbS hi (by omega:t.fIdxs.length≤_),List.getElem?_eq_getElem hi,Option.getD_some]
   by_cases h0:i=0
   ·subst h0
    cases za5 t.fIdxs[0].fName 1<;>cases inB t.fIdxs[0].fCol 1 ((t.fCols.length:Int)-1)<;>cases inB t.fIdxs[0].fStage 0 3<;>rfl
   ·have hp:(i:Int)>0:=by omega
    have hi1:i-1<t.fIdxs.length:=by omega
    have hb:(i==0)=false:=by simpa using h0
    simp only [hp,decide_true,if_true,ztD (Nat.pos_of_ne_zero h0) (by omega:i≤2000000),zae hi1,Option.bind_some,List.getElem?_eq_getElem hi1,Option.getD_some,hb,Bool.false_or,ztP]
    cases za5 t.fIdxs[i].fName 1<;>cases inB t.fIdxs[i].fCol 1 ((t.fCols.length:Int)-1)<;>cases inB t.fIdxs[i].fStage 0 3<;>cases Op.bytesLess t.fIdxs[i-1].fName t.fIdxs[i].fName<;>rfl
 have hc:zau (fun s:Int=>zex t s) 0=some (zmu t.fCols&&(List.range t.fIdxs.length).all (zmF t)):=by
  rw [zh5 (n:=t.fCols.length) (ztZ t.fCols) false (zga t) ?_ (by simp [zex])]
  ·unfold zga zmu
   rw [hl]
   cases(List.range t.fCols.length).all (ztZ t.fCols)<;>simp
  ·intro i hi
   unfold zex ztZ
   rw [if_pos (by simpa using hi),zae hi,Option.bind_some,zoq (h.col _ (List.getElem_mem hi)),Option.bind_some,zak (by omega),zC2,zB7 (by rw [List.length_take];omega),Option.bind_some,zbS hi (by omega)]
   simp only [List.getElem?_eq_getElem hi,Option.getD_some]
   cases za5 t.fCols[i] 3<;>cases(t.fCols.take i).contains t.fCols[i]<;>rfl
 unfold zfU zag
 rw [zoq h.name,Option.bind_some,zhL,Option.bind_some,hc]
 by_cases hk:(t.fIdxs.length:Int)≤3
 ·have hk': ¬(t.fIdxs.length:Int)>3:=by omega
  simp only [hk,hk',decide_true,decide_false,Bool.or_false,Bool.and_true]
  cases za5 t.fName 1<;>cases zmu t.fCols<;>cases inB t.fCols.length 2 4<;>simp
 ·have hk':(t.fIdxs.length:Int)>3:=by omega
  simp only [hk,hk',decide_true,decide_false,Bool.or_true,Bool.and_false,Bool.false_and]
  cases za5 t.fName 1<;>simp
theorem zmr {t:zab} {s:Str} (h:zcY t):zbd t s=some (zhc (fun x:za7=>x.fName==s) t.fIdxs):=by
 have hn:=h.idxs
 unfold zbd
 refine zsK (fun x:za7=>x.fName==s) (fun i hi=> ?_) (by simp [zig])
 simp only [zig,Int.ofNat_lt,hi,decide_true,if_true,zae hi,Option.bind_some,zbS hi (by omega:t.fIdxs.length≤_)]
 cases t.fIdxs[i].fName==s<;>rfl
theorem zuj {t:zab} {s:Str} (h:zcY t):zbB t s=some (zhc (fun x:za7=>x.fName==s) t.fIdxs):=by
 have hn:=h.idxs
 have e:zbo t.fIdxs (fun y0_=>zef y0_ s)=some (zhc (fun x:za7=>x.fName==s) t.fIdxs):=zvi (fun x:za7=>x.fName==s) (fun x _=>rfl) (by omega)
 simp only [zbB,e,Option.bind_some]
end Go.Proofs.YtgobcjbjogkpjaaGreatDoor
end
section
namespace Go.Proofs.YtgobcjbjogkpjaaGreatDoor
open Go.RowKit
set_option maxRecDepth 100000
def za8 (c:UInt8):Str→List Str
 | []=> [[]]
 |b::s=>if b=c then []::za8 c s else(match za8 c s with| []=> [[b]]|x::xs=>(b::x)::xs)
theorem zpK (c:UInt8) (s:Str):za8 c s≠ []:=by
 cases s with
 |nil=>simp [za8]
 |cons b s=>simp only [za8];split;simp;split<;>simp
theorem zek {c:UInt8}: ∀{s:Str},(∀b∈s,b≠c)→za8 c s= [s]
 | [],_=>rfl
 |b::s,h=>by
  have e:=zek (c:=c) (s:=s) fun x hx=>h x (List.mem_cons_of_mem _ hx)
  simp only [za8,if_neg (h b (by simp)),e]
theorem zh3 {c:UInt8}: ∀{p q:Str},(∀b∈p,b≠c)→za8 c (p++c::q)=p::za8 c q
 | [],q,_=>by simp [za8]
 |b::p,q,h=>by
  have e:=zh3 (c:=c) (p:=p) (q:=q) fun x hx=>h x (List.mem_cons_of_mem _ hx)
  simp only [List.cons_append,za8,if_neg (h b (by simp)),e]
theorem zlX (c:UInt8) (s:Str):(za8 c s).length=s.count c+1:=by
 induction s with
 |nil=>rfl
 |cons b s ih=>
  simp only [za8]
  by_cases h:b=c
  ·subst h;simp [ih]
  ·rw [if_neg h,List.count_cons_of_ne h]
   cases hs:za8 c s with
   |nil=>exact absurd hs (zpK c s)
   |cons x xs=>rw [hs]at ih;simpa using ih
theorem zDy {α:Type} (xs:List α) (i j:Nat):ze8 xs (i:Int) (j:Int)=(xs.take j).drop i:=by simp [ze8]
def zFg (c:UInt8) (s:Str) (t:List Str × Nat) (i:Nat):List Str × Nat:=if(s[i]?).getD 0=c then(t.1++ [(s.take i).drop t.2],i+1)else t
theorem zwM {s:Str} {c:UInt8} (h:s.length≤2000000):zdL s c.toNat=some (za8 c s):=by
 have h1:=zb3 (xs:=List.range s.length) (body:=fun t:List Str × Int × Int=>zc4 s c.toNat t.1 t.2.1 t.2.2) (fun i (t:List Str × Nat)=>(t.1,(t.2:Int),i)) (zFg c s) (fun t=>zhn s t.2 t.1)
  (fun i t=>t.2≤i∧(∀b∈(s.take i).drop t.2,b≠c)∧t.1++za8 c (s.drop t.2)=za8 c s∧t.1.length≤i)
  (fun i hi t hI=>by
   rw [List.length_range]at hi
   obtain⟨I1,I2,I3,I4⟩:=hI
   have hw:=zbS hi (by omega:s.length≤_)
   rw [List.getElem_range]
   constructor
   ·show zc4 s c.toNat t.1 t.2 i=_
    unfold zc4 zFg
    rw [if_pos (by simpa using hi),zae hi,Option.bind_some,zEv,hw,zDy,List.getElem?_eq_getElem hi,Option.getD_some]
    by_cases hc:s[i]=c
    ·have hr:((t.1.length:Int)+(([(s.take i).drop t.2]:List Str).length:Int))*16≤140737488355328∧(t.1.length:Int)+(([(s.take i).drop t.2]:List Str).length:Int)≤140737488355328:=by
      rw [List.length_singleton];omega
     rw [if_pos (by simpa using hc),zak (by omega),zak hr,if_pos hc]
    ·rw [if_neg (by simpa using hc),if_neg hc]
   ·unfold zFg
    rw [List.getElem?_eq_getElem hi,Option.getD_some]
    have htk:s.take (i+1)=s.take i++ [s[i]]:=by rw [List.take_succ_eq_append_getElem hi]
    have hd:(s.take (i+1)).drop t.2=(s.take i).drop t.2++ [s[i]]:=by
     rw [htk,List.drop_append_of_le_length (by rw [List.length_take];omega)]
    by_cases hc:s[i]=c
    ·rw [if_pos hc]
     refine⟨Nat.le_refl _,by simp, ?_,by simp;omega⟩
     have e:s.drop t.2=(s.take i).drop t.2++c::s.drop (i+1):=by
      have e0:s.drop t.2=(s.take i).drop t.2++s.drop i:=by
       conv=>lhs;rw [←List.take_append_drop i s]
       rw [List.drop_append_of_le_length (by rw [List.length_take];omega)]
      rw [e0,List.drop_eq_getElem_cons hi,hc]
     rw [e,zh3 I2]at I3
     simpa using I3
    ·rw [if_neg hc]
     refine⟨by omega, ?_,I3,by omega⟩
     rw [hd]
     intro b hb
     rcases List.mem_append.1 hb with hb|hb
     ·exact I2 b hb
     ·simp at hb;subst hb;exact hc)
  (fun t hI=>by
   show zc4 s c.toNat t.1 t.2 ((List.range s.length).length:Nat)=_
   unfold zc4
   rw [if_neg (by simp)]) (s:=([],0)) ⟨Nat.le_refl _,by simp,by simp,by simp⟩
 generalize (List.range s.length).foldl (zFg c s) ([],0)=t at h1
 rw [List.length_range]at h1
 obtain⟨h2,I1,I2,I3,I4⟩:=h1
 unfold zdL
 refine Eq.trans h2 ?_
 unfold zhn
 have hw:ze8 s (t.2:Int) (s.length:Int)=s.drop t.2:=by rw [zDy,List.take_length]
 have hr:((t.1.length:Int)+(([s.drop t.2]:List Str).length:Int))*16≤140737488355328∧(t.1.length:Int)+(([s.drop t.2]:List Str).length:Int)≤140737488355328:=by
  rw [List.length_singleton];omega
 rw [hw,zak (by omega),zak hr,←I3]
 rw [List.take_length]at I2
 rw [zek I2]
theorem zg2 (l:Str) (c:UInt8):(Lib.indexByte l c= -1∧ ∀b∈l,b≠c)∨ ∃p q:Str,l=p++c::q∧(∀b∈p,b≠c)∧Lib.indexByte l c=p.length:=by
 induction l with
 |nil=>exact .inl ⟨rfl,by simp⟩
 |cons b l ih=>
  unfold Lib.indexByte
  by_cases hb:b=c
  ·subst hb
   exact .inr ⟨[],l,by simp,by simp,by simp⟩
  ·have h1:(b==c)=false:=by simpa using hb
   rw [h1]
   simp only [Bool.false_eq_true,if_false]
   rcases ih with⟨e,h⟩|⟨p,q,rfl,h,e⟩
   ·refine .inl ⟨by simp [e],fun x hx=> ?_⟩
    rcases List.mem_cons.1 hx with rfl|hx
    ·exact hb
    ·exact h x hx
   ·refine .inr ⟨b::p,q,by simp,fun x hx=> ?_, ?_⟩
    ·rcases List.mem_cons.1 hx with rfl|hx
     ·exact hb
     ·exact h x hx
    ·rw [e]
     have:((p.length:Int)== -1)=false:=by rw [beq_eq_false_iff_ne];omega
     rw [this]
     simp
theorem zsk {c:UInt8} {s:Str} (h: ∀b∈s,b≠c):s.count c=0:=List.count_eq_zero.2 fun hc=>h c hc rfl
theorem zBS {c:UInt8} {p q:Str} (h: ∀b∈p,b≠c):(p++c::q).count c=q.count c+1:=by
 rw [List.count_append,zsk h,List.count_cons_self];omega
theorem zt2 {α:Type} {a:List α} {i:Nat} (x:α) (h:i<a.length):(a.set i x).take (i+1)=a.take i++ [x]:=by
 rw [List.take_succ_eq_append_getElem (by simpa using h),List.getElem_set_self,List.take_set,List.set_eq_of_length_le (by rw [List.length_take];omega)]
theorem zED {a b:Int} (h: ¬a<b):(bif decide (a<b)then a else b)=b:=by simp [h]
theorem zAV {s:Str} {c:UInt8} (h:s.length≤2000000):zfn s [c]=some (za8 c s):=by
 have hcl:s.count c≤s.length:=List.count_le_length
 have hw1:IntKind.i64.wrap ((s.count c:Int)+1)=(s.count c:Int)+1:=zaH (by omega) (by omega)
 have hw2:IntKind.i64.wrap ((s.length:Int)+1)=(s.length:Int)+1:=zaH (by omega) (by omega)
 have hbif:(bif decide ((s.length:Int)+1<(s.count c:Int)+1)then(s.length:Int)+1 else(s.count c:Int)+1)=(s.count c:Int)+1:=zED (by omega)
 have hw3:IntKind.i64.wrap ((s.count c:Int)+1-1)=(s.count c:Int):=by rw [zaH (by omega) (by omega)];omega
 have key: ∀(n:Nat) (r:Str) (a:List Str) (i:Nat),r.count c=n→r.length≤s.length→a.length=s.count c+1→i+n=s.count c→a.take i++za8 c r=za8 c s→
   zau (fun t:Str × Int × List Str=>zbU s [c] 0 ((s.count c:Int)+1) t.1 t.2.1 t.2.2) (r,(i:Int),a)=some (za8 c s):=by
  intro n
  induction n with
  |zero=>
   intro r a i hr hl ha hi hI
   have hr0: ∀b∈r,b≠c:=fun b hb e=>by subst e;exact List.count_eq_zero.1 hr hb
   have hia:i<a.length:=by omega
   have hwi:=zbS hia (by omega)
   have hb:zbU s [c] 0 ((s.count c:Int)+1) r i a=some (.inr (some (za8 c s))):=by
    unfold zbU
    rw [hw2,hbif,hw3,if_neg (by simp;omega)]
    unfold zfd
    rw [zae hia,Option.bind_some,hwi,Int.toNat_natCast,zak (by rw [List.length_set];omega),zC2,zt2 r hia,←hI,zek hr0]
   rw [zcy]
   dsimp only
   rw [hb]
  |succ n ih=>
   intro r a i hr hl ha hi hI
   rcases zg2 r c with⟨_,h0⟩|⟨p,q,rfl,hp,hx⟩
   ·rw [zsk h0]at hr;omega
   ·rw [zBS hp]at hr
    have hia:i<a.length:=by omega
    have hwi:=zbS hia (by omega)
    simp only [List.length_append,List.length_cons]at hl
    have hv0:IntKind.i64.wrap ((p.length:Int)+0)=(p.length:Int):=by rw [zaH (by omega) (by omega)];omega
    have hv1:IntKind.i64.wrap ((p.length:Int)+(([c]:Str).length:Int))=((p.length+1:Nat):Int):=by rw [List.length_singleton,zaH (by omega) (by omega)];omega
    have hb:zbU s [c] 0 ((s.count c:Int)+1) (p++c::q) i a=some (.inl (q,((i+1:Nat):Int),a.set i p)):=by
     unfold zbU
     have hidx:zgK (p++c::q) [c]=some (p.length:Int):=by simp [zgK,zaV,hx]
     rw [hw2,hbif,hw3,if_pos (by simp;omega),hidx,Option.bind_some,if_neg (by simp),hv0,zak (by rw [List.length_append];omega),zae hia,Option.bind_some,hv1,zak (by rw [List.length_append,List.length_cons];omega),hwi,Int.toNat_natCast,zDy,zC2,List.take_length]
     have e1:(p++c::q).drop (p.length+1)=q:=by simp
     have e2:(p++c::q).take p.length=p:=by simp
     rw [e1,e2]
    rw [zcy]
    dsimp only
    rw [hb]
    refine ih q (a.set i p) (i+1) (by omega) (by omega) (by simpa using ha) (by omega) ?_
    rw [zt2 p hia,←hI,zh3 hp]
    simp
 have hc1:zgx s [c]=some ((s.count c:Nat):Int):=rfl
 have hz:(((-1:Int))==0)=false:=rfl
 have hne:(([c]:Str)==([]:Str))=false:=rfl
 unfold zfn zgU
 rw [hz,hne,if_neg (by simp),if_neg (by simp),if_pos (by simp),hc1,Option.bind_some,hw1]
 unfold zfj
 rw [hw2,hbif,zak (by omega)]
 exact zeV (key (s.count c) s (List.replicate ((s.count c:Int)+1).toNat []) 0 rfl (Nat.le_refl _) (by simp) (by omega) (by simp))
end Go.Proofs.YtgobcjbjogkpjaaGreatDoor
end
section
namespace Go.Proofs.YtgobcjbjogkpjaaGreatDoor
open Go.RowKit
set_option maxRecDepth 100000
def field (s:Str):Bool:=inB s.length 1 3&&zja s []
theorem ztG {s:Str} (h:s.length≤2000000):zd6 s=some (field s):=by
 simp only [zd6,zjX,Option.bind_some,zqg h (more:= []) (by decide),field]
 cases inB s.length 1 3<;>simp
theorem zps {s:Str} (h:s.length≤2000000):zeQ s=some (field s):=by
 simp only [zeQ,zhL,Option.bind_some,zod h,field]
 cases inB s.length 1 3<;>simp
theorem zyq (sep x y:Str) (r:List Str):Lib.join (x::(r++ [y])) sep=Lib.join (x::r) sep++sep++y:=by
 rw [Lib.join_cons,Lib.join_cons]
 simp [Lib.joinTail]
theorem zy0 {xs:List Str} {sep:Str} {i:Nat} (hi:i<xs.length):Lib.join (xs.take (i+1)) sep=if i=0 then xs[i]else Lib.join (xs.take i) sep++sep++xs[i]:=by
 rw [List.take_succ_eq_append_getElem hi]
 cases xs with
 |nil=>simp at hi
 |cons x xs=>
  cases i with
  |zero=>simp [Lib.join_cons,Lib.joinTail]
  |succ i=>
   rw [List.take_succ_cons,List.cons_append,zyq,if_neg (by omega)]
def zeK:List Str→Nat
 | []=>0
 |x::xs=>x.length+zeK xs
theorem ztR (xs:List Str) (sep:Str):(Lib.join xs sep).length≤zeK xs+xs.length*sep.length:=by
 cases xs with
 |nil=>simp [Lib.join_nil]
 |cons x xs=>
  rw [Lib.join_cons,List.length_append]
  have: ∀r:List Str,(Lib.joinTail sep r).length=zeK r+r.length*sep.length:=by
   intro r
   induction r with
   |nil=>simp [Lib.joinTail,zeK]
   |cons y r ih=>
    have e:Lib.joinTail sep (y::r)=sep++y++Lib.joinTail sep r:=by simp [Lib.joinTail]
    rw [e,List.length_append,List.length_append,ih,zeK,List.length_cons,Nat.succ_mul]
    omega
  rw [this,zeK,List.length_cons,Nat.succ_mul]
  omega
theorem zwe (xs:List Str) (i:Nat):zeK (xs.take i)≤zeK xs:=by
 induction xs generalizing i with
 |nil=>simp [zeK]
 |cons x xs ih=>
  cases i with
  |zero=>simp [zeK]
  |succ i=>simp only [List.take_succ_cons,zeK];have:=ih i;omega
theorem zsa {xs:List Str} {i:Nat} (hi:i<xs.length):xs[i].length≤zeK xs:=by
 induction xs generalizing i with
 |nil=>simp at hi
 |cons x xs ih=>
  cases i with
  |zero=>simp [zeK]
  |succ i=>simp only [List.getElem_cons_succ,zeK];have:=ih (i:=i) (by simpa using hi);omega
def Small (xs:List Str):Prop:=xs.length≤2000000∧zeK xs≤2000000
theorem zDA {xs:List Str} {c:UInt8} (h:Small xs):zjO xs [c]=some (Lib.join xs [c]):=by
 obtain⟨h1,h2⟩:=h
 have hl:=zb3 (xs:=List.range xs.length) (body:=fun s:Str × Int=>zc6 xs [c] s.1 s.2) (fun i (o:Str)=>(o,i)) (fun o i=>if i=0 then(xs[i]?).getD []else o++ [c]++(xs[i]?).getD []) (fun o=>some o) (fun i o=>o=Lib.join (xs.take i) [c])
  (fun i hi o hI=>by
   rw [List.length_range]at hi
   rw [List.getElem_range]
   have hI:o=Lib.join (xs.take i) [c]:=hI
   have hlen:o.length≤1010000000:=by
    have e1:=ztR (xs.take i) [c]
    have e2:=zwe xs i
    rw [List.length_take,List.length_singleton,Nat.mul_one]at e1
    rw [hI];omega
   have hg:=zsa hi
   have hw:=zbS hi (by omega:xs.length≤_)
   rw [List.getElem?_eq_getElem hi,Option.getD_some]
   refine⟨?_,by show _=_;rw [zy0 hi,hI]⟩
   show zc6 xs [c] o i=_
   unfold zc6
   rw [if_pos (by simpa using hi),zae hi,Option.bind_some,hw]
   by_cases h0:i=0
   ·subst h0
    have ho:o= []:=by rw [hI];rfl
    subst ho
    rw [if_neg (by simp),zak (by simp;omega),if_pos rfl];rfl
   ·rw [if_pos (by simp;omega),zak (by rw [List.length_singleton];omega),zak (by rw [List.length_append,List.length_singleton];omega),if_neg h0])
  (fun o _=>by
   show zc6 xs [c] o ((List.range xs.length).length:Nat)=_
   unfold zc6
   rw [if_neg (by simp)]) (s:= []) (by simp [Lib.join_nil])
 generalize (List.range xs.length).foldl (fun o i=>if i=0 then(xs[i]?).getD []else o++ [c]++(xs[i]?).getD []) []=o at hl
 obtain⟨h3,h4⟩:=hl
 have h4:o=Lib.join (xs.take (List.range xs.length).length) [c]:=h4
 rw [List.length_range,List.take_length]at h4
 subst h4
 exact h3
theorem zCI {xs:List Str} {c:UInt8} (h:Small xs):zhW xs [c]=some (Lib.join xs [c]):=by
 obtain⟨h1,h2⟩:=h
 have:=ztR xs [c]
 rw [List.length_singleton,Nat.mul_one]at this
 exact zak ⟨by omega,by omega⟩
end Go.Proofs.YtgobcjbjogkpjaaGreatDoor
end
section
namespace Go.Proofs.YtgobcjbjogkpjaaGreatDoor
open Go.RowKit
set_option maxRecDepth 100000
theorem Small.each {xs:List Str} (h:Small xs): ∀x∈xs,x.length≤2000000:=by
 intro x hx
 obtain⟨i,hi,rfl⟩:=List.getElem_of_mem hx
 exact Nat.le_trans (zsa hi) h.2
def zaq (t:zab) (r:zcm):Bool:=((r.fVals.length:Int)==t.fCols.length)&&r.fVals.all field
theorem zkf {t:zab} {r:zcm} (h:Small r.fVals):zcX t r=some (zaq t r):=by
 have h1:=h.1
 unfold zcX
 rw [ziA (xs:=r.fVals) field false (zhp t r) (fun i hi=>by
  simp only [zho,Int.ofNat_lt,hi,decide_true,if_true,zae hi,Option.bind_some,ztG (h.each _ (List.getElem_mem hi)),zbS hi (by omega:r.fVals.length≤_)]
  cases field r.fVals[i]<;>rfl) (by simp [zho])]
 unfold zhp zaq
 cases r.fVals.all field<;>simp
theorem zjV {t:zab} {r:zcm} (h:Small r.fVals):za9 t r=some (zaq t r):=by
 have e:zaT r.fVals (fun y0_=>zdo y0_)=some (r.fVals.any fun s=> !field s):=zp1 _ (fun s hs=>by simp [zdo,zps (h.each s hs)]) (by have:=h.1;omega)
 simp only [za9,e,Option.bind_some,zaq,←List.not_all_eq_any_not]
 cases((r.fVals.length:Int)==t.fCols.length)<;>simp
def zeW (t:zab) (r:zcm):zaa:=⟨t.fName++ [47]++(r.fVals.head?).getD [],Lib.join r.fVals.tail [44],false⟩
theorem zFC {α:Type} (xs:List α):ze8 xs 1 (xs.length:Int)=xs.tail:=by simp [ze8]
theorem Small.tail {xs:List Str} (h:Small xs):Small xs.tail:=by
 cases xs with
 |nil=>exact h
 |cons x xs=>exact⟨by have:=h.1;simp at this ⊢;omega,by have:=h.2;simp only [zeK,List.tail_cons]at this ⊢;omega⟩
theorem zoz {t:zab} {r:zcm} (ht:t.fName.length≤2000000) (h:Small r.fVals) (hn:r.fVals≠ []):zb2 t r=some (zeW t r):=by
 obtain⟨x,xs,hx⟩:=List.exists_cons_of_ne_nil hn
 have hx1:x.length≤2000000:=h.each x (by simp [hx])
 unfold zb2 zeW
 rw [zak (by rw [List.length_singleton];omega),zFC,zDA h.tail,hx]
 rw [show getI (x::xs) 0=some x from rfl,Option.bind_some,zak (by rw [List.length_append,List.length_singleton];omega),zak (by simp only [List.length_cons];omega),Option.bind_some]
 rfl
theorem zp6 {t:zab} {r:zcm} (ht:t.fName.length≤2000000) (h:Small r.fVals) (hn:r.fVals≠ []):zbq t r=some (zeW t r):=by
 obtain⟨x,xs,hx⟩:=List.exists_cons_of_ne_nil hn
 have hx1:x.length≤2000000:=h.each x (by simp [hx])
 unfold zbq zeW
 rw [zak (by rw [List.length_singleton];omega),zFC,zCI h.tail,hx]
 rw [show getI (x::xs) 0=some x from rfl,Option.bind_some,zak (by rw [List.length_append,List.length_singleton];omega),zak (by simp only [List.length_cons];omega),Option.bind_some]
 rfl
theorem zoM (c:UInt8) (s:Str):zeK (za8 c s)≤s.length:=by
 induction s with
 |nil=>simp [za8,zeK]
 |cons b s ih=>
  simp only [za8]
  split
  ·simp only [zeK,List.length_nil,List.length_cons];omega
  ·cases hs:za8 c s with
   |nil=>exact absurd hs (zpK c s)
   |cons x xs=>rw [hs]at ih;simp only [zeK,List.length_cons]at ih ⊢;omega
theorem zvX {c:UInt8} {s:Str} (h:s.length≤1000000):Small (za8 c s):=by
 have h1:=zlX c s
 have h2:s.count c≤s.length:=List.count_le_length
 have h3:=zoM c s
 exact⟨by omega,by omega⟩
theorem zEH {s p:Str} (hs:s.length≤2000000):zdh s p=some (if p.isPrefixOf s=true then(s.drop p.length,true)else(s,false)):=by
 have e:zbl s p=some (p.isPrefixOf s):=by
  unfold zbl
  by_cases hl:p.length≤s.length
  ·rw [if_pos (by simpa using hl),zak (by omega),zC2]
   congr 1
   rw [Bool.eq_iff_iff,beq_iff_eq,List.isPrefixOf_iff_prefix,List.prefix_iff_eq_take]
   exact eq_comm
  ·rw [if_neg (by simpa using hl)]
   congr 1
   symm
   rw [←Bool.not_eq_true,List.isPrefixOf_iff_prefix]
   intro h
   exact hl h.length_le
 unfold zdh zcg
 rw [e,Option.bind_some]
 cases hp:p.isPrefixOf s with
 |false=>simp
 |true=>
  have hl:=(List.isPrefixOf_iff_prefix.1 hp).length_le
  simp only [Bool.not_true,Bool.false_eq_true,if_false,if_true]
  rw [zak (by omega),zDy,List.take_length]
  rfl
end Go.Proofs.YtgobcjbjogkpjaaGreatDoor
end
section
namespace Go.Proofs.YtgobcjbjogkpjaaGreatDoor
open Go.RowKit
set_option maxRecDepth 100000
def zpU (a b:zaa):Bool:=a.fKey==b.fKey&&(a.fVal==b.fVal&&(a.fGone==b.fGone))
theorem zxN (a b:zaa):zpU a b=zpU b a:=by
 unfold zpU
 rw [show(a.fKey==b.fKey)=(b.fKey==a.fKey)from BEq.comm,show(a.fVal==b.fVal)=(b.fVal==a.fVal)from BEq.comm,show(a.fGone==b.fGone)=(b.fGone==a.fGone)from BEq.comm]
theorem zy5 {a b:zaa} (h:zpU a b=true):a.fKey=b.fKey:=by
 unfold zpU at h
 simp only [Bool.and_eq_true,beq_iff_eq]at h
 exact h.1
def zeY (w:zaa):zcm:=⟨w.fKey.drop 2::za8 44 w.fVal⟩
def zbv (t:zab) (w:zaa):Bool:=zaq t (zeY w)&&zpU (zeW t (zeY w)) w
def zlD (w:zaa):Prop:=w.fKey.length≤1000∧w.fVal.length≤1000
theorem zmQ {w:zaa} (h:zlD w):Small (zeY w).fVals:=by
 have h1:=zlX 44 w.fVal
 have h2:w.fVal.count 44≤w.fVal.length:=List.count_le_length
 have h3:=zoM 44 w.fVal
 obtain⟨k,v⟩:=h
 refine⟨?_, ?_⟩
 ·show(w.fKey.drop 2::za8 44 w.fVal).length≤_
  rw [List.length_cons];omega
 ·show zeK (w.fKey.drop 2::za8 44 w.fVal)≤_
  rw [zeK,List.length_drop];omega
theorem zzc {t:zab} {w:zaa} (h:zaq t (zeY w)=true):3≤w.fKey.length:=by
 unfold zaq zeY at h
 simp only [Bool.and_eq_true,List.all_cons,field,zaE,List.length_drop]at h
 omega
theorem zC3 {t:zab} {w:zaa} (ht:t.fName.length≤2000000) (h:zlD w): ∃r,zhF t w=some (r,zbv t w)∧(zbv t w=true→r=zeY w):=by
 have hs:=zmQ h
 have hsp:=zlX 44 w.fVal
 have hct:w.fVal.count 44≤w.fVal.length:=List.count_le_length
 obtain⟨hk,hv⟩:=h
 unfold zhF
 by_cases h3:w.fKey.length<3
 ·rw [if_pos (by simp;omega)]
  have:zbv t w=false:=by
   unfold zbv
   cases hg:zaq t (zeY w)with
   |false=>rfl
   |true=>have:=zzc hg;omega
  exact⟨_,by rw [this],by rw [this];intro h;cases h⟩
 ·have hw:ze8 w.fKey 2 (w.fKey.length:Int)=w.fKey.drop 2:=by
   have:=zDy w.fKey 2 w.fKey.length
   rw [List.take_length]at this
   exact this
  have hsplit:zdL w.fVal 44=some (za8 44 w.fVal):=zwM (c:=44) (by omega)
  have hr:(([w.fKey.drop 2]:List Str).length+(za8 44 w.fVal).length:Int)*16≤140737488355328∧(([w.fKey.drop 2]:List Str).length:Int)+(za8 44 w.fVal).length≤140737488355328:=by
   rw [List.length_singleton];omega
  rw [if_neg (by simp;omega),zak (by omega),hsplit,Option.bind_some,hw,zak hr]
  rw [show(⟨[w.fKey.drop 2]++za8 44 w.fVal⟩:zcm)=zeY w from rfl,zkf hs,Option.bind_some]
  unfold zbv
  cases hg:zaq t (zeY w)with
  |false=>exact⟨_,by rw [if_neg (by simp)];rfl,by simp⟩
  |true=>
   rw [if_pos rfl,zoz ht hs (by simp [zeY]),Option.bind_some]
   exact⟨zeY w,by rw [Bool.true_and];rfl,fun _=>rfl⟩
theorem zDM {t:zab} {w:zaa} (ht:t.fName.length=1) (h:zlD w): ∃r,zdk t w=some (r,zbv t w)∧(zbv t w=true→r=zeY w):=by
 have hs:=zmQ h
 have hsp:=zlX 44 w.fVal
 have hct:w.fVal.count 44≤w.fVal.length:=List.count_le_length
 obtain⟨hk,hv⟩:=h
 unfold zdk
 have hsplit:zfn w.fVal [44]=some (za8 44 w.fVal):=zAV (by omega)
 rw [zak (by rw [List.length_singleton];omega),zEH (by omega),Option.bind_some,hsplit,Option.bind_some]
 have hr: ∀x:Str,(([x]:List Str).length+(za8 44 w.fVal).length:Int)*16≤140737488355328∧(([x]:List Str).length:Int)+(za8 44 w.fVal).length≤140737488355328:=by
  intro x;rw [List.length_singleton];omega
 rw [zak (hr _)]
 cases hp:(t.fName++ [47]).isPrefixOf w.fKey with
 |false=>
  have hno:zbv t w=false:=by
   unfold zbv
   cases hw:zpU (zeW t (zeY w)) w with
   |false=>simp
   |true=>
    have hkey:=zy5 hw
    rw [←Bool.not_eq_true,List.isPrefixOf_iff_prefix]at hp
    exact absurd ⟨_,hkey⟩ hp
  rw [hno]
  exact⟨_,by rw [if_neg (by simp)],by simp⟩
 |true=>
  have hl:(t.fName++ [47]).length=2:=by rw [List.length_append,ht];rfl
  simp only [if_true,hl]
  rw [show(⟨[w.fKey.drop 2]++za8 44 w.fVal⟩:zcm)=zeY w from rfl,zjV hs,Option.bind_some]
  unfold zbv
  cases hg:zaq t (zeY w)with
  |false=>exact⟨_,by rw [if_neg (by simp)];rfl,by simp⟩
  |true=>
   rw [if_pos rfl,zp6 (by omega) hs (by simp [zeY]),Option.bind_some]
   rw [show(w.fKey==(zeW t (zeY w)).fKey&&(w.fVal==(zeW t (zeY w)).fVal&&w.fGone==(zeW t (zeY w)).fGone))=zpU w (zeW t (zeY w))from rfl,zxN]
   cases zpU (zeW t (zeY w)) w with
   |false=>exact⟨_,by rw [if_pos (by simp)];rfl,by simp⟩
   |true=>exact⟨_,by rw [if_neg (by simp)];rfl,fun _=>rfl⟩
end Go.Proofs.YtgobcjbjogkpjaaGreatDoor
end
section
namespace Go.Proofs.YtgobcjbjogkpjaaGreatDoor
open Go.RowKit
set_option maxRecDepth 100000
theorem ziY {α β:Type} (p:α→Bool) (f:α→β) (l:List α) (o:List β):l.foldl (fun o x=>if p x=true then o++ [f x]else o) o=o++(l.filter p).map f:=by
 induction l generalizing o with
 |nil=>simp
 |cons x l ih=>
  rw [List.foldl_cons,ih,List.filter_cons]
  cases p x<;>simp
def rows (t:zab) (l:List zaa):List zcm:=(l.filter (zbv t)).map zeY
theorem zpB {t:zab} {l:List zaa} (ht:t.fName.length≤2000000) (hl:l.length≤2000000) (h: ∀w∈l,zlD w):zeO t l=some (rows t l):=by
 have h1:=zb3 (xs:=l) (body:=fun s:List zcm × Int=>zc3 t l s.1 s.2) (fun i (o:List zcm)=>(o,i)) (fun o w=>if zbv t w=true then o++ [zeY w]else o) (fun o=>some o) (fun i o=>o.length≤i)
  (fun i hi o hI=>by
   have hI:o.length≤i:=hI
   obtain⟨r,e,hr⟩:=zC3 ht (h _ (List.getElem_mem hi))
   have hw:=zbS hi (by omega:l.length≤_)
   refine⟨?_,by
    show List.length (if zbv t l[i]=true then o++ [zeY l[i]]else o)≤i+1
    split
    ·rw [List.length_append,List.length_singleton];omega
    ·omega⟩
   show zc3 t l o i=_
   unfold zc3
   rw [if_pos (by simpa using hi),zae hi,Option.bind_some,e,Option.bind_some,hw]
   cases hb:zbv t l[i]with
   |false=>rfl
   |true=>
    have hq:((o.length:Int)+(([r]:List zcm).length:Int))*24≤140737488355328∧(o.length:Int)+(([r]:List zcm).length:Int)≤140737488355328:=by
     rw [List.length_singleton];omega
    rw [if_pos rfl,zak hq,if_pos rfl,hr hb])
  (fun o _=>by
   show zc3 t l o l.length=_
   unfold zc3
   rw [if_neg (by simp)]) (s:= []) (by simp)
 rw [ziY]at h1
 exact h1.1
theorem zBb {t:zab} {l:List zaa} (ht:t.fName.length=1) (hl:l.length≤2000000) (h: ∀w∈l,zlD w):zfa t l=some (rows t l):=by
 have h1:=zb3 (xs:=l) (body:=fun s:Int × List zcm=>zbe t l s.1 s.2) (fun i (o:List zcm)=>(i,o)) (fun o w=>if zbv t w=true then o++ [zeY w]else o) (fun o=>some o) (fun i o=>o.length≤i)
  (fun i hi o hI=>by
   have hI:o.length≤i:=hI
   obtain⟨r,e,hr⟩:=zDM ht (h _ (List.getElem_mem hi))
   have hw:=zbS hi (by omega:l.length≤_)
   refine⟨?_,by
    show List.length (if zbv t l[i]=true then o++ [zeY l[i]]else o)≤i+1
    split
    ·rw [List.length_append,List.length_singleton];omega
    ·omega⟩
   show zbe t l i o=_
   unfold zbe
   rw [if_pos (by simpa using hi),zae hi,Option.bind_some,e,Option.bind_some,hw]
   cases hb:zbv t l[i]with
   |false=>rfl
   |true=>
    have hq:((o.length:Int)+(([r]:List zcm).length:Int))*24≤140737488355328∧(o.length:Int)+(([r]:List zcm).length:Int)≤140737488355328:=by
     rw [List.length_singleton];omega
    rw [if_pos rfl,zak hq,if_pos rfl,hr hb])
  (fun o _=>by
   show zbe t l l.length o=_
   unfold zbe
   rw [if_neg (by simp)]) (s:= []) (by simp)
 rw [ziY]at h1
 exact h1.1
def head (t:zab) (n:Str):Str:=t.fName++ [46]++n
def zca (t:zab) (n:Str) (k:Str):Bool:=match za8 47 k with
 | [x,y,z]=>x==head t n&&field y&&field z
 |_=>false
theorem zA1 {t:zab} {n k:Str} (ht:t.fName.length≤2000000) (hn:n.length≤2000000) (hk:k.length≤1000000): ∃a b,zer t n k=some (a,b,zca t n k):=by
 have hsm:=zvX (c:=47) hk
 have he:zdL k 47=some (za8 47 k):=zwM (c:=47) (by omega)
 unfold zer zca
 rw [he,Option.bind_some]
 generalize za8 47 k=ps at hsm
 match ps,hsm with
 | [],_=>exact⟨_,_,by rw [if_pos (by simp)]⟩
 | [_],_=>exact⟨_,_,by rw [if_pos (by simp)]⟩
 | [_,_],_=>exact⟨_,_,by rw [if_pos (by simp)]⟩
 |_::_::_::_::l,_=>exact⟨_,_,by rw [if_pos (by simp;omega)]⟩
 | [x,y,z],hsm=>
  have hy:=hsm.each y (by simp)
  have hz:=hsm.each z (by simp)
  dsimp only
  rw [if_neg (by simp),show getI [x,y,z] 0=some x from rfl,Option.bind_some,zak (by rw [List.length_singleton];omega),zak (by rw [List.length_append,List.length_singleton];omega)]
  rw [show(t.fName++ [46]++n)=head t n from rfl]
  by_cases hx:x=head t n
  ·rw [if_neg (by simp [hx]),show getI [x,y,z] 1=some y from rfl,Option.bind_some,ztG hy,Option.bind_some]
   have hx2:(x==head t n)=true:=by simpa using hx
   rw [hx2]
   cases field y with
   |false=>exact⟨_,_,by rw [if_neg (by simp)];rfl⟩
   |true=>
    rw [if_pos rfl,show getI [x,y,z] 2=some z from rfl,Option.bind_some,ztG hz,Option.bind_some]
    cases field z with
    |false=>exact⟨_,_,by rw [if_pos (by simp)];rfl⟩
    |true=>exact⟨_,_,by rw [if_neg (by simp)];rfl⟩
  ·have hx2:(x==head t n)=false:=by simpa using hx
   rw [hx2]
   exact⟨_,_,by rw [if_pos (by simpa [bne]using hx2)];rfl⟩
end Go.Proofs.YtgobcjbjogkpjaaGreatDoor
end
section
namespace Go.Proofs.YtgobcjbjogkpjaaGreatDoor
open Go.RowKit
set_option maxRecDepth 100000
theorem zxB {c:UInt8} {s x y:Str} {r:List Str} (h:za8 c s=x::y::r): ∃q,s=x++c::q:=by
 rcases zg2 s c with⟨_,h0⟩|⟨p,q,rfl,hp,_⟩
 ·rw [zek h0]at h;simp at h
 ·rw [zh3 hp]at h
  obtain⟨rfl,_⟩:=List.cons.inj h
  exact⟨q,rfl⟩
theorem zCx {x:Str} {c:UInt8} (hx:x.length≤2000000):(zfq x [c]=some (x, [],false)∧ ∀b∈x,b≠c)∨ ∃p q,x=p++c::q∧(∀b∈p,b≠c)∧zfq x [c]=some (p,q,true):=by
 have hi:zaV x [c]=some (Lib.indexByte x c):=rfl
 rcases zg2 x c with⟨e,h0⟩|⟨p,q,rfl,hp,e⟩
 ·refine .inl ⟨?_,h0⟩
  unfold zfq zci
  rw [hi,Option.bind_some,e,if_neg (by simp)]
  rfl
 ·refine .inr ⟨p,q,rfl,hp, ?_⟩
  rw [List.length_append,List.length_cons]at hx
  have hw:IntKind.i64.wrap ((p.length:Int)+(([c]:Str).length:Int))=((p.length+1:Nat):Int):=by rw [List.length_singleton,zaH (by omega) (by omega)];omega
  unfold zfq zci
  rw [hi,Option.bind_some,e,if_pos (by simp),zak (by rw [List.length_append,List.length_cons];omega),hw,zak (by rw [List.length_append,List.length_cons];omega),zC2,zDy,List.take_length]
  have e1:(p++c::q).drop (p.length+1)=q:=by simp
  have e2:(p++c::q).take p.length=p:=by simp
  rw [e1,e2]
  rfl
theorem zBO {s:Str} (h:(47:UInt8)∈s):field s=false:=by
 unfold field zja
 have:(s.all fun b=>zfy b||([]:Str).contains b)=false:=by
  rw [List.all_eq_false]
  exact⟨47,h,by decide⟩
 rw [this,Bool.and_false]
theorem zzs {t:zab} {n:Str} (ht:t.fName.length≤2000000) (hn:n.length≤2000000):zcl t n=some (head t n++ [47]):=by
 unfold zcl head
 rw [zak (by rw [List.length_singleton];omega),zak (by rw [List.length_append,List.length_singleton];omega),zak (by rw [List.length_append,List.length_append,List.length_singleton,List.length_singleton];omega)]
theorem zBn {t:zab} {n k:Str} (ht:t.fName.length≤2000000) (hn:n.length≤2000000) (hk:k.length≤1000000) (hh: ∀b∈head t n,b≠47): ∃a b,zcz t n k=some (a,b,zca t n k):=by
 unfold zcz
 rw [zzs ht hn,Option.bind_some,zEH (by omega),Option.bind_some]
 cases hp:(head t n++ [47]).isPrefixOf k with
 |false=>
  have hno:zca t n k=false:=by
   unfold zca
   split
   ·rename_i x y z hs
    cases hx:x==head t n with
    |false=>simp
    |true=>
     obtain⟨q,hq⟩:=zxB hs
     rw [←Bool.not_eq_true,List.isPrefixOf_iff_prefix]at hp
     refine absurd ⟨q, ?_⟩ hp
     rw [hq,(by simpa using hx:x=head t n)]
     simp
   ·rfl
  rw [hno]
  simp only [Bool.false_eq_true,if_false]
  rcases zCx (x:=k) (c:=47) (by omega)with⟨e,_⟩|⟨p,q,_,_,e⟩
  ·rw [e];exact⟨_,_,rfl⟩
  ·rw [e];exact⟨_,_,rfl⟩
 |true=>
  obtain⟨rest,hrest⟩:=List.isPrefixOf_iff_prefix.1 hp
  have hk2:k=head t n++47::rest:=by rw [←hrest];simp
  have hd:k.drop (head t n++ [47]).length=rest:=by rw [←hrest,List.drop_left]
  have hsp:za8 47 k=head t n::za8 47 rest:=by rw [hk2,zh3 hh]
  have hlen:rest.length≤1000000:=by
   have:k.length=(head t n).length+(rest.length+1):=by rw [hk2,List.length_append,List.length_cons]
   omega
  simp only [if_true,hd]
  unfold zca
  rw [hsp]
  rcases zCx (x:=rest) (c:=47) (by omega)with⟨e,h0⟩|⟨p,q,rfl,hp2,e⟩
  ·rw [e,zek h0]
   exact⟨_,_,rfl⟩
  ·rw [e,zh3 hp2,Option.bind_some]
   rw [List.length_append,List.length_cons]at hlen
   simp only [if_true]
   rw [zps (s:=p) (by omega),Option.bind_some]
   rcases zg2 q 47 with⟨_,h0⟩|⟨p3,q3,rfl,hp3,_⟩
   ·rw [zek h0]
    dsimp only
    rw [beq_self_eq_true,Bool.true_and]
    cases field p with
    |false=>exact⟨_,_,rfl⟩
    |true=>
     rw [if_pos rfl,zps (s:=q) (by omega),Option.bind_some]
     cases field q with
     |false=>exact⟨_,_,rfl⟩
     |true=>exact⟨_,_,rfl⟩
   ·have hf:field (p3++47::q3)=false:=zBO (by simp)
    rw [zh3 hp3]
    cases hq:za8 47 q3 with
    |nil=>exact absurd hq (zpK _ _)
    |cons x xs=>
     dsimp only
     cases field p with
     |false=>exact⟨_,_,rfl⟩
     |true=>
      rw [if_pos rfl,zps (by rw [List.length_append,List.length_cons]at hlen ⊢;omega),Option.bind_some,hf]
      exact⟨_,_,rfl⟩
end Go.Proofs.YtgobcjbjogkpjaaGreatDoor
end
section
namespace Go.Proofs.YtgobcjbjogkpjaaGreatDoor
open Go.RowKit
set_option maxRecDepth 100000
def zfi (t:zab) (n:Str) (l:List zaa):List Str:=(l.filter fun w=>zca t n w.fKey).map (·.fKey)
theorem zxL {t:zab} {n:Str} {l:List zaa} (ht:t.fName.length≤2000000) (hn:n.length≤2000000) (hl:l.length≤2000000) (h: ∀w∈l,zlD w):zd7 t n l=some (zfi t n l):=by
 have h1:=zb3 (xs:=l) (body:=fun s:List Str × Int=>zcd t n l s.1 s.2) (fun i (o:List Str)=>(o,i)) (fun o w=>if zca t n w.fKey=true then o++ [w.fKey]else o) (fun o=>some o) (fun i o=>o.length≤i)
  (fun i hi o hI=>by
   have hI:o.length≤i:=hI
   have htw:=h _ (List.getElem_mem hi)
   obtain⟨a,b,e⟩:=zA1 (t:=t) (n:=n) (k:=l[i].fKey) ht hn (by have:=htw.1;omega)
   have hw:=zbS hi (by omega:l.length≤_)
   refine⟨?_,by
    show List.length (if zca t n l[i].fKey=true then o++ [l[i].fKey]else o)≤i+1
    split
    ·rw [List.length_append,List.length_singleton];omega
    ·omega⟩
   show zcd t n l o i=_
   unfold zcd
   rw [if_pos (by simpa using hi),zae hi,Option.bind_some,e,Option.bind_some,hw]
   cases hb:zca t n l[i].fKey with
   |false=>rfl
   |true=>
    have hq:((o.length:Int)+(([l[i].fKey]:List Str).length:Int))*16≤140737488355328∧(o.length:Int)+(([l[i].fKey]:List Str).length:Int)≤140737488355328:=by
     rw [List.length_singleton];omega
    rw [if_pos rfl,zak hq,if_pos rfl])
  (fun o _=>by
   show zcd t n l o l.length=_
   unfold zcd
   rw [if_neg (by simp)]) (s:= []) (by simp)
 rw [ziY (fun w:zaa=>zca t n w.fKey) (fun w=>w.fKey)]at h1
 exact h1.1
theorem zxF {t:zab} {n:Str} {l:List zaa} (ht:t.fName.length≤2000000) (hn:n.length≤2000000) (hh: ∀b∈head t n,b≠47) (hl:l.length≤2000000) (h: ∀w∈l,zlD w):zbX t n l=some (zfi t n l):=by
 have h1:=zb3 (xs:=l) (body:=fun s:Int × List Str=>za1 t n l s.1 s.2) (fun i (o:List Str)=>(i,o)) (fun o w=>if zca t n w.fKey=true then o++ [w.fKey]else o) (fun o=>some o) (fun i o=>o.length≤i)
  (fun i hi o hI=>by
   have hI:o.length≤i:=hI
   have htw:=h _ (List.getElem_mem hi)
   obtain⟨a,b,e⟩:=zBn (t:=t) (n:=n) (k:=l[i].fKey) ht hn (by have:=htw.1;omega) hh
   have hw:=zbS hi (by omega:l.length≤_)
   refine⟨?_,by
    show List.length (if zca t n l[i].fKey=true then o++ [l[i].fKey]else o)≤i+1
    split
    ·rw [List.length_append,List.length_singleton];omega
    ·omega⟩
   show za1 t n l i o=_
   unfold za1
   rw [if_pos (by simpa using hi),zae hi,Option.bind_some,e,Option.bind_some,hw]
   cases hb:zca t n l[i].fKey with
   |false=>rfl
   |true=>
    have hq:((o.length:Int)+(([l[i].fKey]:List Str).length:Int))*16≤140737488355328∧(o.length:Int)+(([l[i].fKey]:List Str).length:Int)≤140737488355328:=by
     rw [List.length_singleton];omega
    rw [if_pos rfl,zak hq,if_pos rfl])
  (fun o _=>by
   show za1 t n l l.length o=_
   unfold za1
   rw [if_neg (by simp)]) (s:= []) (by simp)
 rw [ziY (fun w:zaa=>zca t n w.fKey) (fun w=>w.fKey)]at h1
 exact h1.1
def zDj (a b:List Str):List Str:=a.filter fun k=> !b.contains k
theorem zAg {a b:List Str} (ha:a.length≤2000000) (hb:b.length≤2000000):zhS a b=some (zDj a b):=by
 have h1:=zb3 (xs:=a) (body:=fun s:List Str × Int=>zc5 a b s.1 s.2) (fun i (o:List Str)=>(o,i)) (fun o k=>if(!b.contains k)=true then o++ [k]else o) (fun o=>some o) (fun i o=>o.length≤i)
  (fun i hi o hI=>by
   have hI:o.length≤i:=hI
   have hw:=zbS hi (by omega:a.length≤_)
   have hx:decide (zhc (fun x=>x==a[i]) b<0)= !b.contains a[i]:=by
    rw [←zz6,←zkl,←decide_not]
    rw [decide_eq_decide];omega
   refine⟨?_,by
    show List.length (if(!b.contains a[i])=true then o++ [a[i]]else o)≤i+1
    split
    ·rw [List.length_append,List.length_singleton];omega
    ·omega⟩
   show zc5 a b o i=_
   unfold zc5
   rw [if_pos (by simpa using hi),zae hi,Option.bind_some,zD5 hb,Option.bind_some,hw,hx]
   cases hc:b.contains a[i]with
   |true=>rfl
   |false=>
    have hq:((o.length:Int)+(([a[i]]:List Str).length:Int))*16≤140737488355328∧(o.length:Int)+(([a[i]]:List Str).length:Int)≤140737488355328:=by
     rw [List.length_singleton];omega
    rw [if_pos (by rfl),zak hq,if_pos (by rfl)])
  (fun o _=>by
   show zc5 a b o a.length=_
   unfold zc5
   rw [if_neg (by simp)]) (s:= []) (by simp)
 rw [ziY (fun k:Str=> !b.contains k) (fun k=>k)]at h1
 have h2:=h1.1
 rw [List.nil_append,List.map_id']at h2
 exact h2
theorem zzn {a b:List Str} (ha:a.length≤2000000) (hb:b.length≤2000000):zfP a b=some (zDj a b):=by
 unfold zfP za0 ze9
 rw [zlZ (by omega) (by omega),Option.bind_some,zak (by omega),zog (fun k=>b.contains k) (fun k _=>by simp only [zis,zB7 hb,Option.bind_some])]
 rfl
end Go.Proofs.YtgobcjbjogkpjaaGreatDoor
end
section
namespace Go.Proofs.YtgobcjbjogkpjaaGreatDoor
open Go.RowKit
set_option maxRecDepth 100000
structure zfO (t:zab) (n:Str) (x:za7):Prop where
 at_:getI t.fIdxs (zhc (fun y:za7=>y.fName==n) t.fIdxs)=some x
 name:x.fName=n
 c0:1≤x.fCol
 c1:x.fCol≤(t.fCols.length:Int)-1
def zfc (r:zcm) (c:Int):Str:=(r.fVals[c.toNat]?).getD []
def zej (t:zab) (n:Str) (c:Int) (r:zcm):Str:=head t n++ [47]++zfc r c++ [47]++zfc r 0
structure zrS (t:zab) (r:zcm):Prop where
 len:r.fVals.length=t.fCols.length
 small:Small r.fVals
theorem zzJ {t:zab} {l:List zaa} (h: ∀w∈l,zlD w): ∀r∈rows t l,zrS t r:=by
 intro r hr
 obtain⟨w,hw,rfl⟩:=List.mem_map.1 hr
 obtain⟨h1,h2⟩:=List.mem_filter.1 hw
 have h3:zbv t w=true:=h2
 unfold zbv zaq at h3
 simp only [Bool.and_eq_true,beq_iff_eq]at h3
 exact⟨by have:=h3.1.1;omega,zmQ (h w h1)⟩
theorem zp7 {t:zab} {r:zcm} (hr:zrS t r) {c:Int} (h0:0≤c) (h1:c≤(t.fCols.length:Int)-1):getI r.fVals c=some (zfc r c)∧(zfc r c).length≤2000000:=by
 obtain⟨y,e,hm,e2⟩:=zip (xs:=r.fVals) h0 (by have:=hr.len;omega)
 have hv:zfc r c=y:=by simp [zfc,e2]
 rw [hv]
 exact⟨e,hr.small.each y hm⟩
theorem zpz {t:zab} {n:Str} {x:za7} {r:zcm} (ht:t.fName.length≤2000000) (hn:n.length≤2000000) (hx:zfO t n x) (hr:zrS t r):zb9 t x r=some (zej t n x.fCol r):=by
 obtain⟨g1,l1⟩:=zp7 hr (c:=x.fCol) (by have:=hx.c0;omega) hx.c1
 obtain⟨g2,l2⟩:=zp7 hr (c:=0) (by omega) (by have:=hx.c0;have:=hx.c1;omega)
 have e:=hx.name
 subst e
 unfold zb9 zej
 rw [zak (by simp only [head,List.length_append,List.length_cons,List.length_nil];omega),zak (by simp only [head,List.length_append,List.length_cons,List.length_nil];omega),zak (by simp only [head,List.length_append,List.length_cons,List.length_nil];omega),g1,Option.bind_some,
  zak (by simp only [head,List.length_append,List.length_cons,List.length_nil];omega),zak (by simp only [head,List.length_append,List.length_cons,List.length_nil];omega),g2,Option.bind_some,
  zak (by simp only [head,List.length_append,List.length_cons,List.length_nil];omega)]
 rfl
theorem ztu {t:zab} {n:Str} {x:za7} {r:zcm} (hS:zcY t) (hn:n.length≤2000000) (hx:zfO t n x) (hr:zrS t r):za3 t n r=some (zej t n x.fCol r):=by
 obtain⟨g1,l1⟩:=zp7 hr (c:=x.fCol) (by have:=hx.c0;omega) hx.c1
 obtain⟨g2,l2⟩:=zp7 hr (c:=0) (by omega) (by have:=hx.c0;have:=hx.c1;omega)
 have ht:=hS.name
 have hi:zbx t n=some x:=by
  unfold zbx
  rw [zuj hS,Option.bind_some,hx.at_];rfl
 unfold za3 zej
 rw [zzs ht hn,Option.bind_some,hi,Option.bind_some,g1,Option.bind_some,zak (by simp only [head,List.length_append,List.length_cons,List.length_nil];omega),zak (by simp only [head,List.length_append,List.length_cons,List.length_nil];omega),g2,Option.bind_some,zak (by simp only [head,List.length_append,List.length_cons,List.length_nil];omega)]
def wanted (t:zab) (n:Str) (x:za7) (l:List zaa):List Str:=(rows t l).map (zej t n x.fCol)
theorem rows_len (t:zab) (l:List zaa):(rows t l).length≤l.length:=by
 unfold rows
 rw [List.length_map]
 exact List.length_filter_le _ _
theorem zuq {t:zab} {n:Str} {x:za7} {l:List zaa} (hS:zcY t) (hn:n.length≤2000000) (hx:zfO t n x) (hl:l.length≤2000000) (h: ∀w∈l,zlD w):zdx t n l=some (wanted t n x l):=by
 have hin:=zzJ (t:=t) h
 have hrl:=rows_len t l
 unfold zdx
 rw [zpB hS.name hl h,Option.bind_some]
 have h1:=zb3 (xs:=rows t l) (body:=fun s:List Str × Int=>zcu t n (rows t l) s.1 s.2) (fun i (o:List Str)=>(o,i)) (fun o r=>o++ [zej t n x.fCol r]) (fun o=>some o) (fun i o=>o.length=i)
  (fun i hi o hI=>by
   have hI:o.length=i:=hI
   have hw:=zbS hi (by omega)
   refine⟨?_,by show List.length _=_;rw [List.length_append,List.length_singleton];omega⟩
   show zcu t n (rows t l) o i=_
   unfold zcu
   have hq:((o.length:Int)+(([zej t n x.fCol (rows t l)[i]]:List Str).length:Int))*16≤140737488355328∧(o.length:Int)+(([zej t n x.fCol (rows t l)[i]]:List Str).length:Int)≤140737488355328:=by
    rw [List.length_singleton];omega
   rw [if_pos (by simpa using hi),zae hi,Option.bind_some,zmr hS,Option.bind_some,hx.at_,Option.bind_some,zpz hS.name hn hx (hin _ (List.getElem_mem hi)),Option.bind_some,zak hq,hw])
  (fun o _=>by
   show zcu t n (rows t l) o (rows t l).length=_
   unfold zcu
   rw [if_neg (by simp)]) (s:= []) rfl
 rw [zrd]at h1
 exact h1.1
theorem zzf {t:zab} {n:Str} {x:za7} {l:List zaa} (hS:zcY t) (ht:t.fName.length=1) (hn:n.length≤2000000) (hx:zfO t n x) (hl:l.length≤2000000) (h: ∀w∈l,zlD w):zcF t n l=some (wanted t n x l):=by
 have hin:=zzJ (t:=t) h
 have hrl:=rows_len t l
 unfold zcF
 rw [zBb ht hl h,Option.bind_some]
 have h1:=zb3 (xs:=rows t l) (body:=fun s:Int × List Str=>zbf t n (rows t l) s.1 s.2) (fun i (o:List Str)=>(i,o)) (fun o r=>o++ [zej t n x.fCol r]) (fun o=>some o) (fun i o=>o.length=i)
  (fun i hi o hI=>by
   have hI:o.length=i:=hI
   have hw:=zbS hi (by omega)
   refine⟨?_,by show List.length _=_;rw [List.length_append,List.length_singleton];omega⟩
   show zbf t n (rows t l) i o=_
   unfold zbf
   have hq:((o.length:Int)+(([zej t n x.fCol (rows t l)[i]]:List Str).length:Int))*16≤140737488355328∧(o.length:Int)+(([zej t n x.fCol (rows t l)[i]]:List Str).length:Int)≤140737488355328:=by
    rw [List.length_singleton];omega
   rw [if_pos (by simpa using hi),zae hi,Option.bind_some,ztu hS hn hx (hin _ (List.getElem_mem hi)),Option.bind_some,zak hq,hw])
  (fun o _=>by
   show zbf t n (rows t l) (rows t l).length o=_
   unfold zbf
   rw [if_neg (by simp)]) (s:= []) rfl
 rw [zrd]at h1
 exact h1.1
end Go.Proofs.YtgobcjbjogkpjaaGreatDoor
end
section
namespace Go.Proofs.YtgobcjbjogkpjaaGreatDoor
open Go.RowKit
set_option maxRecDepth 100000
def holds (t:zab) (n:Str) (x:za7) (lv:Int) (l:List zaa):Bool:=
 if lv==0 then((zfi t n l).length:Int)==0
 else(((zDj (zfi t n l) (wanted t n x l)).length:Int)==0)&&((lv==1)||(((zDj (wanted t n x l) (zfi t n l)).length:Int)==0))
theorem zqC (t:zab) (n:Str) (l:List zaa):(zfi t n l).length≤l.length:=by
 unfold zfi;rw [List.length_map];exact List.length_filter_le _ _
theorem zos (t:zab) (n:Str) (x:za7) (l:List zaa):(wanted t n x l).length≤l.length:=by
 unfold wanted;rw [List.length_map];exact rows_len t l
theorem zBH {t:zab} {n:Str} {x:za7} {lv:Int} {l:List zaa} (hS:zcY t) (ht:t.fName.length≤2000000) (hn:n.length≤2000000) (hx:zfO t n x) (hl:l.length≤2000000) (h: ∀w∈l,zlD w) (ha:zde t n l=some true):zgA t n lv l=some (holds t n x lv l):=by
 have hE:=zxL ht hn hl h
 have hW:=zuq hS hn hx hl h
 have e1:=zqC t n l
 have e2:=zos t n x l
 have h1:=zAg (a:=zfi t n l) (b:=wanted t n x l) (by omega) (by omega)
 have h2:=zAg (a:=wanted t n x l) (b:=zfi t n l) (by omega) (by omega)
 unfold zgA holds
 by_cases h0:(lv==0)=true
 ·rw [if_pos h0,if_pos h0,hE,Option.bind_some]
 ·rw [if_neg h0,if_neg h0]
  unfold zio zjw
  rw [ha,hE,hW]
  simp only [Option.bind_some,h1,h2,Bool.not_true,Bool.false_eq_true,if_false]
theorem zA8 {t:zab} {n:Str} {x:za7} {lv:Int} {l:List zaa} (hS:zcY t) (ht:t.fName.length=1) (hn:n.length≤2000000) (hh: ∀b∈head t n,b≠47) (hx:zfO t n x) (hl:l.length≤2000000) (h: ∀w∈l,zlD w):zdj t n lv l=some (holds t n x lv l):=by
 have hE:=zxF (t:=t) (by omega) hn hh hl h
 have hW:=zzf hS ht hn hx hl h
 have e1:=zqC t n l
 have e2:=zos t n x l
 have h1:=zzn (a:=zfi t n l) (b:=wanted t n x l) (by omega) (by omega)
 have h2:=zzn (a:=wanted t n x l) (b:=zfi t n l) (by omega) (by omega)
 unfold zdj holds
 by_cases h0:(lv==0)=true
 ·rw [if_pos h0,if_pos h0,hE,Option.bind_some]
 ·rw [if_neg h0,if_neg h0]
  unfold zcM zeX
  rw [hE,hW]
  simp only [Option.bind_some,h1,h2]
  by_cases h3:(lv==1)=true
  ·rw [if_pos h3,h3,Bool.true_or,Bool.and_true]
  ·rw [if_neg h3,Bool.eq_false_iff.2 h3,Bool.false_or]
   by_cases h4:(((zDj (zfi t n l) (wanted t n x l)).length:Int)==0)=true
   ·rw [if_pos h4,h4,Bool.true_and]
   ·rw [if_neg h4,Bool.eq_false_iff.2 h4,Bool.false_and]
end Go.Proofs.YtgobcjbjogkpjaaGreatDoor
end
section
namespace Go.Proofs.YtgobcjbjogkpjaaGreatDoor
open Go.RowKit
set_option maxRecDepth 100000
def zji (t:zab) (n:Str):Bool:=zag t&&decide (zhc (fun x:za7=>x.fName==n) t.fIdxs≥0)
def zCM (t:zab) (n:Str) (l:List zaa):Bool:=zji t n&&zbY l
theorem zDO {t:zab} {n:Str} (hS:zcY t):ziQ t n=some (zji t n):=by
 unfold ziQ zji
 rw [zA2 hS,Option.bind_some,zuj hS,Option.bind_some]
 cases zag t<;>simp
theorem zAN {t:zab} {n:Str} {l:List zaa} (hS:zcY t) (hW:zmk l):zde t n l=some (zCM t n l):=by
 unfold zde zCM zji
 rw [zkz hS,Option.bind_some,zmr hS,Option.bind_some,zm1 hW,Option.bind_some]
 cases zag t<;>cases decide (zhc (fun x:za7=>x.fName==n) t.fIdxs≥0)<;>simp
theorem zDk {l:List zaa} (h:zbY l=true): ∀w∈l,zlD w:=by
 intro w hw
 unfold zbY zdW at h
 simp only [Bool.and_eq_true]at h
 have h1:=List.all_eq_true.1 h.1.2.1 w hw
 unfold zgd zch zjt zfG at h1
 simp only [Bool.and_eq_true,decide_eq_true_eq]at h1
 have h2:=zaE.1 h1.1.1
 have h3:=h1.2.1.1
 exact⟨by omega,by omega⟩
theorem zge {s:Str} {k:Int} (h:za5 s k=true):(s.length:Int)≤k∧ ∀b∈s,b≠47:=by
 unfold za5 at h
 simp only [Bool.and_eq_true]at h
 refine⟨(zaE.1 h.2).2,fun b hb e=> ?_⟩
 have h1:=List.all_eq_true.1 h.1 b hb
 subst e
 exact absurd h1 (by decide)
theorem zhw {s:Str} (h:za5 s 1=true):s.length=1:=by
 unfold za5 at h
 simp only [Bool.and_eq_true]at h
 have:=zaE.1 h.2
 omega
theorem zgQ {t:zab} (h:zag t=true):za5 t.fName 1=true:=by
 unfold zag at h
 simp only [Bool.and_eq_true]at h
 exact h.1.1.1
theorem zdl {t:zab} (h:zag t=true) {x:za7} (hx:x∈t.fIdxs):za5 x.fName 1=true∧inB x.fCol 1 ((t.fCols.length:Int)-1)=true:=by
 unfold zag at h
 simp only [Bool.and_eq_true]at h
 obtain⟨i,hi,rfl⟩:=List.mem_iff_getElem.1 hx
 have h1:=List.all_eq_true.1 h.2 i (List.mem_range.2 hi)
 unfold zmF at h1
 simp only [Bool.and_eq_true,List.getElem?_eq_getElem hi,Option.getD_some]at h1
 exact⟨h1.1.1.1,h1.1.1.2⟩
theorem zCk {t:zab} {n:Str} (h:zji t n=true): ∃x,zfO t n x∧t.fName.length=1∧n.length=1∧ ∀b∈head t n,b≠47:=by
 unfold zji at h
 simp only [Bool.and_eq_true,decide_eq_true_eq]at h
 obtain⟨x,h1,h2,h3⟩:=zwq h.2
 have h4:=zdl h.1 h3
 have h5:=zaE.1 h4.2
 have h6:x.fName=n:=by simpa using h2
 have h7:=zgQ h.1
 have h8:=h6▸h4.1
 refine⟨x,⟨h1,h6,h5.1,h5.2⟩,zhw h7,zhw h8,fun b hb=> ?_⟩
 unfold head at hb
 simp only [List.mem_append,List.mem_singleton]at hb
 rcases hb with(hb|hb)|hb
 ·exact(zge h7).2 b hb
 ·subst hb;decide
 ·exact(zge h8).2 b hb
end Go.Proofs.YtgobcjbjogkpjaaGreatDoor
end
section
namespace Go.Proofs.YtgobcjbjogkpjaaGreatDoor
open Go.RowKit
abbrev bl (a b:List UInt8):Bool:=Op.bytesLess a b
theorem zi3: ∀a:List UInt8,bl a a=false
 | []=>rfl
 |x::a=>by
  have h: ¬x<x:=fun h=>by have:=UInt8.lt_iff_toNat_lt.1 h;omega
  show Op.bytesLess (x::a) (x::a)=false
  simp only [Op.bytesLess,h,decide_false,Bool.false_or,beq_self_eq_true,Bool.true_and]
  exact zi3 a
theorem zv6 (x y:UInt8) (a b:List UInt8):bl (x::a) (y::b)=true↔x.toNat<y.toNat∨x=y∧bl a b=true:=by
 show Op.bytesLess (x::a) (y::b)=true↔_
 simp only [Op.bytesLess,Bool.or_eq_true,decide_eq_true_eq,Bool.and_eq_true,beq_iff_eq,UInt8.lt_iff_toNat_lt]
theorem zfZ: ∀{a b c:List UInt8},bl a b=true→bl b c=true→bl a c=true
 | [],_, [],_,h=>by rename_i b _;cases b<;>cases h
 | [],_,_::_,_,_=>rfl
 |_::_, [],_,h,_=>by cases h
 |_::_,_::_, [],_,h=>by cases h
 |x::a,y::b,z::c,h1,h2=>by
  rw [zv6]at*
  rcases h1 with h1|⟨rfl,h1⟩<;>rcases h2 with h2|⟨rfl,h2⟩
  ·exact .inl (by omega)
  ·exact .inl h1
  ·exact .inl h2
  ·exact .inr ⟨rfl,zfZ h1 h2⟩
theorem zCs: ∀a b:List UInt8,bl a b=true∨a=b∨bl b a=true
 | [], []=> .inr (.inl rfl)
 | [],_::_=> .inl rfl
 |_::_, []=> .inr (.inr rfl)
 |x::a,y::b=>by
  rw [zv6,zv6]
  rcases Nat.lt_trichotomy x.toNat y.toNat with h|h|h
  ·exact .inl (.inl h)
  ·have h0:x=y:=UInt8.toNat_inj.1 h
   subst h0
   rcases zCs a b with h1|h1|h1
   ·exact .inl (.inr ⟨rfl,h1⟩)
   ·exact .inr (.inl (by rw [h1]))
   ·exact .inr (.inr (.inr ⟨rfl,h1⟩))
  ·exact .inr (.inr (.inl h))
theorem zpv {a b:List UInt8} (h:bl a b=true):bl b a=false:=by
 cases h2:bl b a with
 |false=>rfl
 |true=>have:=zfZ h h2;rw [zi3]at this;cases this
theorem zln {a b:List UInt8} (h:bl a b=true):a≠b:=by
 rintro rfl;rw [zi3]at h;cases h
theorem zls {a b:List UInt8} (h:bl a b=false) (hn:a≠b):bl b a=true:=by
 rcases zCs a b with h1|h1|h1
 ·rw [h]at h1;cases h1
 ·exact absurd h1 hn
 ·exact h1
section
variable {α:Type} (key:α→List UInt8)
def zoI (l:List α):Prop:=l.Pairwise fun a b=>bl (key a) (key b)=true
def zha (x:α):List α→List α
 | []=> [x]
 |y::l=>if bl (key x) (key y)=true then x::y::l else if key x=key y then x::l else y::zha x l
variable {key}
theorem zoI.nodupKey {l:List α} (h:zoI key l) {a b:α} (ha:a∈l) (hb:b∈l) (e:key a=key b):a=b:=by
 induction l with
 |nil=>cases ha
 |cons y l ih=>
  have h1:=List.pairwise_cons.1 h
  rcases List.mem_cons.1 ha with q1|q1<;>rcases List.mem_cons.1 hb with q2|q2
  ·rw [q1,q2]
  ·exact absurd (q1▸e) (zln (h1.1 _ q2))
  ·exact absurd (q2▸e.symm) (zln (h1.1 _ q1))
  ·exact ih h1.2 q1 q2
theorem znT {x:α}: ∀{l:List α},zoI key l→ ∀y,y∈zha key x l↔y=x∨y∈l∧key y≠key x
 | [],_,y=>by simp [zha]
 |z::l,h,y=>by
  have h1:=List.pairwise_cons.1 h
  unfold zha
  split
  ·rename_i hb
   constructor
   ·intro hy
    rcases List.mem_cons.1 hy with rfl|hy
    ·exact .inl rfl
    ·refine .inr ⟨hy, ?_⟩
     rcases List.mem_cons.1 hy with rfl|hy
     ·exact(zln hb).symm
     ·exact(zln (zfZ hb (h1.1 _ hy))).symm
   ·rintro(rfl|⟨hy,_⟩)
    ·simp
    ·exact List.mem_cons_of_mem _ hy
  ·rename_i hb
   split
   ·rename_i he
    constructor
    ·intro hy
     rcases List.mem_cons.1 hy with rfl|hy
     ·exact .inl rfl
     ·exact .inr ⟨List.mem_cons_of_mem _ hy,fun e=>zln (h1.1 _ hy) (by rw [e,he])⟩
    ·rintro(rfl|⟨hy,hn⟩)
     ·simp
     ·rcases List.mem_cons.1 hy with rfl|hy
      ·exact absurd he.symm hn
      ·exact List.mem_cons_of_mem _ hy
   ·rename_i he
    rw [List.mem_cons,znT h1.2]
    constructor
    ·rintro(rfl|rfl|⟨hy,hn⟩)
     ·exact .inr ⟨by simp,fun e=>he e.symm⟩
     ·exact .inl rfl
     ·exact .inr ⟨List.mem_cons_of_mem _ hy,hn⟩
    ·rintro(rfl|⟨hy,hn⟩)
     ·exact .inr (.inl rfl)
     ·rcases List.mem_cons.1 hy with rfl|hy
      ·exact .inl rfl
      ·exact .inr (.inr ⟨hy,hn⟩)
theorem zlc {x:α}: ∀{l:List α},zoI key l→zoI key (zha key x l)
 | [],_=>by simp [zha,zoI]
 |z::l,h=>by
  have h1:=List.pairwise_cons.1 h
  unfold zha
  split
  ·rename_i hb
   refine List.pairwise_cons.2 ⟨fun y hy=> ?_,h⟩
   rcases List.mem_cons.1 hy with rfl|hy
   ·exact hb
   ·exact zfZ hb (h1.1 _ hy)
  ·rename_i hb
   split
   ·rename_i he
    exact List.pairwise_cons.2 ⟨fun y hy=>by rw [he];exact h1.1 _ hy,h1.2⟩
   ·rename_i he
    refine List.pairwise_cons.2 ⟨fun y hy=> ?_,zlc h1.2⟩
    rcases(znT h1.2 y).1 hy with rfl|⟨hy,_⟩
    ·exact zls (by simpa using hb) he
    ·exact h1.1 _ hy
theorem zoI.ext: ∀{a b:List α},zoI key a→zoI key b→(∀x,x∈a↔x∈b)→a=b
 | [], [],_,_,_=>rfl
 | [],y::b,_,_,h=>absurd ((h y).2 (by simp)) (by simp)
 |x::a, [],_,_,h=>absurd ((h x).1 (by simp)) (by simp)
 |x::a,y::b,ha,hb,h=>by
  have h1:=List.pairwise_cons.1 ha
  have h2:=List.pairwise_cons.1 hb
  have e:x=y:=by
   rcases List.mem_cons.1 ((h x).1 (by simp))with e|hx
   ·exact e
   ·rcases List.mem_cons.1 ((h y).2 (by simp))with e|hy
    ·exact e.symm
    ·have:=zfZ (h1.1 _ hy) (h2.1 _ hx)
     rw [zi3]at this;cases this
  subst e
  rw [zoI.ext h1.2 h2.2 fun z=> ?_]
  constructor
  ·intro hz
   rcases List.mem_cons.1 ((h z).1 (List.mem_cons_of_mem _ hz))with rfl|hz2
   ·have:=h1.1 _ hz;rw [zi3]at this;cases this
   ·exact hz2
  ·intro hz
   rcases List.mem_cons.1 ((h z).2 (List.mem_cons_of_mem _ hz))with rfl|hz2
   ·have:=h2.1 _ hz;rw [zi3]at this;cases this
   ·exact hz2
theorem zoI.filter {l:List α} (h:zoI key l) (p:α→Bool):zoI key (l.filter p):=List.Pairwise.filter p h
theorem zoI.sub {a b:List α} (h:zoI key b) (hs:a.Sublist b):zoI key a:=List.Pairwise.sublist hs h
theorem zxe {x:α}: ∀(l:List α),(zha key x l).length≤l.length+1
 | []=>by simp [zha]
 |y::l=>by
  unfold zha
  have:=zxe (x:=x) l
  split
  ·simp
  ·split
   ·simp
   ·simp only [List.length_cons];omega
end
end Go.Proofs.YtgobcjbjogkpjaaGreatDoor
end
section
namespace Go.Proofs.YtgobcjbjogkpjaaGreatDoor
open Go.RowKit
set_option maxRecDepth 100000
def zjR {α:Type} (r:α→α→Bool):List α→Bool
 | []=>true
 | [_]=>true
 |x::y::l=>r x y&&zjR r (y::l)
theorem znB {α:Type} {r:α→α→Bool} (ht: ∀a b c,r a b=true→r b c=true→r a c=true): ∀{l:List α},zjR r l=true↔l.Pairwise fun a b=>r a b=true
 | []=>by simp [zjR]
 | [_]=>by simp [zjR]
 |x::y::l=>by
  rw [zjR,Bool.and_eq_true,znB ht]
  constructor
  ·rintro⟨h1,h2⟩
   refine List.pairwise_cons.2 ⟨fun z hz=> ?_,h2⟩
   rcases List.mem_cons.1 hz with rfl|hz
   ·exact h1
   ·exact ht _ _ _ h1 ((List.pairwise_cons.1 h2).1 z hz)
  ·intro h
   have h:=List.pairwise_cons.1 h
   exact⟨h.1 y (by simp),h.2⟩
theorem zv7 {α:Type} {r:α→α→Bool} {l:List α} {q:Nat} (h:q+1<l.length):zjR r (l.drop q)=(r l[q] l[q+1]&&zjR r (l.drop (q+1))):=by
 rw [List.drop_eq_getElem_cons (show q<l.length by omega),List.drop_eq_getElem_cons h,zjR]
def zix {α:Type} (lt:α→Bool) (l:List α):Nat:=(l.takeWhile lt).length
theorem zoA {α:Type} (lt:α→Bool): ∀l:List α,zix lt l≤l.length
 | []=>by simp [zix]
 |x::l=>by
  have:=zoA lt l
  unfold zix at this ⊢
  rw [List.takeWhile_cons]
  split<;>simp<;>omega
theorem zv5 {α:Type} {lt:α→Bool}: ∀{l:List α} {i:Nat} (h:i<zix lt l),lt (l[i]'(Nat.lt_of_lt_of_le h (zoA lt l)))=true
 |x::l,i,h=>by
  unfold zix at h
  rw [List.takeWhile_cons]at h
  split at h
  ·rename_i hx
   cases i with
   |zero=>exact hx
   |succ i=>exact zv5 (l:=l) (i:=i) (by unfold zix;simpa using h)
  ·simp at h
theorem zzH {α:Type} {lt:α→Bool}: ∀{l:List α} (h:zix lt l<l.length),lt l[zix lt l]=false
 |x::l,h=>by
  by_cases hx:lt x=true
  ·have e:zix lt (x::l)=zix lt l+1:=by unfold zix;rw [List.takeWhile_cons,if_pos hx];rfl
   have:=zzH (l:=l) (lt:=lt) (by rw [e]at h;simpa using h)
   simp only [e,List.getElem_cons_succ]
   exact this
  ·have e:zix lt (x::l)=0:=by unfold zix;rw [List.takeWhile_cons,if_neg hx];rfl
   simp only [e,List.getElem_cons_zero]
   simpa using hx
theorem zC1 {α β:Type} {xs:List α} {body:Int × Int→Option ((Int × Int) ⊕ Option β)} {fin:Int→Option β} (lt:α→Bool) (hm: ∀i j (hj:j<xs.length) (hi:i≤j),lt xs[j]=true→lt xs[i]=true)
  (hs: ∀i j:Nat,i<j→j≤xs.length→(h:(i+j)/2<xs.length)→body ((i:Int),(j:Int))=some (.inl (if lt xs[(i+j)/2]=true then((((i+j)/2+1:Nat):Int),(j:Int))else((i:Int),(((i+j)/2:Nat):Int)))))
  (he: ∀i:Nat,i≤xs.length→body ((i:Int),(i:Int))=some (.inr (fin i))):zau body (0,(xs.length:Int))=fin (zix lt xs):=by
 have key: ∀n i j:Nat,j-i≤n→i≤zix lt xs→zix lt xs≤j→j≤xs.length→zau body ((i:Int),(j:Int))=fin (zix lt xs):=by
  intro n
  induction n with
  |zero=>
   intro i j h1 h2 h3 h4
   have:i=j:=by omega
   subst this
   have:i=zix lt xs:=by omega
   rw [zcy,he i h4,this]
  |succ n ih=>
   intro i j h1 h2 h3 h4
   by_cases hij:i=j
   ·subst hij
    have:i=zix lt xs:=by omega
    rw [zcy,he i h4,this]
   ·have hlt:(i+j)/2<xs.length:=by omega
    rw [zcy,hs i j (by omega) h4 hlt]
    by_cases hc:lt xs[(i+j)/2]=true
    ·rw [if_pos hc]
     refine ih _ _ (by omega) ?_ h3 h4
     by_cases hp:(i+j)/2<zix lt xs
     ·omega
     ·have h5:zix lt xs<xs.length:=by omega
      have:=zzH h5
      rw [hm _ _ hlt (by omega) hc]at this
      cases this
    ·rw [if_neg hc]
     refine ih _ _ (by omega) h2 ?_ (by omega)
     by_cases hp:(i+j)/2<zix lt xs
     ·exact absurd (zv5 hp) hc
     ·omega
 exact key xs.length 0 xs.length (by omega) (by omega) (zoA lt xs) (Nat.le_refl _)
theorem zxb {α:Type} {key:α→List UInt8} {x:α}: ∀{l:List α},zoI key l→zha key x l=(match l[zix (fun y=>bl (key y) (key x)) l]? with
  |some y=>if key y=key x then l.set (zix (fun y=>bl (key y) (key x)) l) x else l.take (zix (fun y=>bl (key y) (key x)) l)++ [x]++l.drop (zix (fun y=>bl (key y) (key x)) l)
  |none=>l.take (zix (fun y=>bl (key y) (key x)) l)++ [x]++l.drop (zix (fun y=>bl (key y) (key x)) l))
 | [],_=>by simp [zha,zix]
 |y::l,h=>by
  have h1:=List.pairwise_cons.1 h
  unfold zha
  by_cases hb:bl (key x) (key y)=true
  ·have e:zix (fun z=>bl (key z) (key x)) (y::l)=0:=by unfold zix;rw [List.takeWhile_cons,if_neg (by rw [zpv hb];simp)];rfl
   rw [if_pos hb,e]
   simp [(zln hb).symm]
  ·rw [if_neg hb]
   by_cases hk:key x=key y
   ·have e:zix (fun z=>bl (key z) (key x)) (y::l)=0:=by unfold zix;rw [List.takeWhile_cons,if_neg (by rw [hk,zi3];simp)];rfl
    rw [if_pos hk,e]
    simp [hk]
   ·have hyx:=zls (by simpa using hb) hk
    have e:zix (fun z=>bl (key z) (key x)) (y::l)=zix (fun z=>bl (key z) (key x)) l+1:=by unfold zix;rw [List.takeWhile_cons,if_pos hyx];rfl
    rw [if_neg hk,e,zxb h1.2]
    simp only [List.getElem?_cons_succ]
    split
    ·split<;>simp
    ·simp
end Go.Proofs.YtgobcjbjogkpjaaGreatDoor
end
section
namespace Go.Proofs.YtgobcjbjogkpjaaGreatDoor
open Go.RowKit
set_option maxRecDepth 100000
def zCJ (a b:Str):Int:=if bl a b=true then-1 else if a=b then 0 else 1
@[simp] theorem zBw (a:Str):zdf a=some false:=by simp [zdf]
@[simp] theorem zFS (a b:Str):zdz a b=some (zCJ a b):=by
 unfold zdz zCJ
 simp only [zBw,Option.bind_some,Bool.false_eq_true,if_false]
 by_cases h:bl a b=true
 ·have:Op.bytesLess a b=true:=h
  simp [this]
 ·have h1:Op.bytesLess a b=false:=by simpa using h
  by_cases he:a=b
  ·subst he;simp [h1]
  ·simp [h1,he]
theorem zCY {a b:Str}:decide (zCJ a b<0)=bl a b:=by
 unfold zCJ
 cases h:bl a b with
 |true=>simp
 |false=>by_cases he:a=b<;>simp [he]
theorem zDN {a b:Str}:(zCJ a b==0)=decide (a=b):=by
 unfold zCJ
 cases h:bl a b with
 |true=>simp [zln h]
 |false=>by_cases he:a=b<;>simp [he]
theorem zEN {i j:Nat} (h:i≤j) (hj:j≤2000000):IntKind.i64.wrap (Int.fdiv (IntKind.u64.wrap (IntKind.i64.wrap ((i:Int)+(j:Int)))) (2^(min ((1:Int)).toNat (IntKind.bits .u64))))=(((i+j)/2:Nat):Int):=by
 have e1:IntKind.i64.wrap ((i:Int)+(j:Int))=((i+j:Nat):Int):=by rw [zaH (by omega) (by omega)];simp
 have e2:IntKind.u64.wrap ((i+j:Nat):Int)=((i+j:Nat):Int):=by
  simp only [IntKind.wrap,IntKind.bits,IntKind.signed]
  simp
  omega
 have e3:(2:Int)^(min ((1:Int)).toNat (IntKind.bits .u64))=((2:Nat):Int):=rfl
 rw [e1,e2,e3,Int.fdiv_eq_ediv_of_nonneg _ (by omega),←Int.natCast_ediv,zaH (by omega) (by omega)]
theorem zD1 {i:Nat} (h:i≤2000000):IntKind.i64.wrap ((i:Int)+1)=((i+1:Nat):Int):=by rw [zaH (by omega) (by omega)];simp
abbrev zgs (l:List zaa):Prop:=zoI (fun w:zaa=>w.fKey) l
abbrev ziy (l:List zaa) (k:Str):Nat:=zix (fun w:zaa=>bl w.fKey k) l
theorem zES {l:List zaa} {k:Str} (hl:l.length≤2000000) (hr:zgs l):zcf l k=some (((ziy l k:Nat):Int),(match l[ziy l k]? with|some w=>decide (w.fKey=k)|none=>false)):=by
 unfold zcf zaC
 have hc: ∀w:zaa,zcN w k=some (zCJ w.fKey k):=fun w=>by simp [zcN]
 have h:=zC1 (xs:=l) (body:=fun s:Int × Int=>zaj l k (fun y0_ y1_=>zcN y0_ y1_) s.1 s.2) (fin:=fun i=>zaz l k (fun y0_ y1_=>zcN y0_ y1_) i) (fun w:zaa=>bl w.fKey k)
  (fun i j hj hi h=>by
   rcases Nat.lt_or_ge i j with hij|hij
   ·exact zfZ ((List.pairwise_iff_getElem.1 hr) i j (by omega) hj hij) h
   ·have:i=j:=by omega
    subst this;exact h)
  (fun i j hij hj hmid=>by
   show zaj l k _ (i:Int) (j:Int)=_
   unfold zaj
   rw [if_pos (by simpa using hij),zEN (by omega) (by omega),zae hmid,Option.bind_some]
   simp only [hc,Option.bind_some,zCY,zD1 (show(i+j)/2≤2000000 by omega)]
   cases bl l[(i+j)/2].fKey k<;>rfl)
  (fun i hi=>by
   show zaj l k _ (i:Int) (i:Int)=_
   unfold zaj
   rw [if_neg (by simp)])
 rw [h]
 unfold zaz
 show Option.bind (if decide (((ziy l k:Nat):Int)<l.length)=true then _ else _) _=_
 by_cases hp:ziy l k<l.length
 ·rw [if_pos (by simpa using hp),zae hp,Option.bind_some]
  simp only [hc,Option.bind_some,zDN,List.getElem?_eq_getElem hp]
 ·rw [if_neg (by simpa using hp),List.getElem?_eq_none (by omega)]
  rfl
theorem zow {l:List zaa} {w:zaa} (hl:l.length≤2000000) (hr:zgs l):zdi l w=some (zha (fun w:zaa=>w.fKey) w l):=by
 unfold zdi
 rw [zES hl hr,Option.bind_some,zxb hr]
 show(if(match l[ziy l w.fKey]? with|some w'=>decide (w'.fKey=w.fKey)|none=>false)=true then _ else _)=_
 have hle:ziy l w.fKey≤l.length:=zoA _ _
 have hI:zpA l ((ziy l w.fKey:Nat):Int) [w]=some (l.take (ziy l w.fKey)++ [w]++l.drop (ziy l w.fKey)):=zak ⟨by omega,by omega,by simp,by simp only [List.length_singleton];omega⟩
 by_cases hp:ziy l w.fKey<l.length
 ·rw [List.getElem?_eq_getElem hp]
  by_cases hk:(l[ziy l w.fKey]).fKey=w.fKey
  ·simp only [hk,decide_true,if_true,zae hp,Option.bind_some]
   rfl
  ·simp only [hk,decide_false,Bool.false_eq_true,if_false]
   rw [hI];rfl
 ·rw [List.getElem?_eq_none (by omega)]
  simp only [Bool.false_eq_true,if_false]
  rw [hI];rfl
theorem zm0 (ks:List Str):zmz ks=zjR bl ks:=by
 have key: ∀n q,q+n+1=ks.length→(List.range' (q+1) n).all (zfW ks)=zjR bl (ks.drop q):=by
  intro n
  induction n with
  |zero=>
   intro q hq
   rw [List.drop_eq_getElem_cons (show q<ks.length by omega),List.drop_eq_nil_of_le (show ks.length≤q+1 by omega)]
   rfl
  |succ n ih=>
   intro q hq
   rw [List.range'_succ,List.all_cons,ih (q+1) (by omega),zv7 (show q+1<ks.length by omega)]
   congr 1
   unfold zfW
   have hb:(q+1==0)=false:=rfl
   rw [hb,Bool.false_or,Nat.add_sub_cancel,List.getElem?_eq_getElem (show q<ks.length by omega),List.getElem?_eq_getElem (show q+1<ks.length by omega)]
   rfl
 cases ks with
 |nil=>rfl
 |cons k l=>
  unfold zmz
  rw [List.length_cons,List.range_eq_range',List.range'_succ,List.all_cons]
  have:=key l.length 0 (by simp)
  rw [List.drop_zero]at this
  rw [Nat.zero_add]at this
  rw [show 0+1=1 from rfl,this]
  rfl
theorem zlN {α β:Type} (f:α→β) (r:β→β→Bool): ∀l:List α,zjR r (l.map f)=zjR (fun a b=>r (f a) (f b)) l
 | []=>rfl
 | [_]=>rfl
 |x::y::l=>by
  have:=zlN f r (y::l)
  simp only [List.map_cons,zjR]at this ⊢
  rw [this]
theorem zp0 {l:List zaa} (h:zdW l=true):zgs l:=by
 unfold zdW at h
 simp only [Bool.and_eq_true]at h
 have h1:=h.2.2
 rw [zm0,zlN]at h1
 exact(znB (r:=fun a b:zaa=>bl a.fKey b.fKey) fun a b c p q=>zfZ p q).1 h1
end Go.Proofs.YtgobcjbjogkpjaaGreatDoor
end
section
namespace Go.Proofs.YtgobcjbjogkpjaaGreatDoor
open Go.RowKit
set_option maxRecDepth 100000
theorem ztc {t:zab} (h:zag t=true):zoI (fun x:za7=>x.fName) t.fIdxs:=by
 unfold zag at h
 simp only [Bool.and_eq_true]at h
 have h1:=h.2
 have h2:zmz (t.fIdxs.map (·.fName))=true:=by
  unfold zmz
  rw [List.length_map,List.all_eq_true]
  intro i hi
  have h3:=List.all_eq_true.1 h1 i hi
  unfold zmF at h3
  simp only [Bool.and_eq_true]at h3
  have hi':i<t.fIdxs.length:=List.mem_range.1 hi
  have e: ∀j:Nat,(((t.fIdxs.map (·.fName))[j]?).getD [])=((t.fIdxs[j]?).getD ⟨[],0,0⟩).fName:=by
   intro j
   rw [List.getElem?_map]
   cases t.fIdxs[j]?<;>rfl
  unfold zfW
  rw [e,e]
  exact h3.2
 rw [zm0,zlN]at h2
 exact(znB (r:=fun a b:za7=>bl a.fName b.fName) fun a b c p q=>zfZ p q).1 h2
theorem zpu {t:zab} {x:za7} (h:zag t=true) (hx:x∈t.fIdxs):zfO t x.fName x:=by
 have h1:zhc (fun y:za7=>y.fName==x.fName) t.fIdxs≥0:=by
  have:=zkl (fun y:za7=>y.fName==x.fName) t.fIdxs
  rw [show(t.fIdxs.any fun y=>y.fName==x.fName)=true from List.any_eq_true.2 ⟨x,hx,by simp⟩]at this
  exact of_decide_eq_true this
 obtain⟨y,h2,h3,h4⟩:=zwq h1
 have h5:y=x:=(ztc h).nodupKey h4 hx (by simpa using h3)
 subst h5
 have h6:=zaE.1 (zdl h hx).2
 exact⟨h2,rfl,h6.1,h6.2⟩
theorem zfV {t:zab} (h:zag t=true):2≤t.fCols.length∧t.fCols.length≤4∧t.fIdxs.length≤3:=by
 unfold zag at h
 simp only [Bool.and_eq_true,decide_eq_true_eq]at h
 have h1:=zaE.1 h.1.1.2.2
 have h2:=h.1.2
 omega
theorem zoJ {t:zab} {r:zcm} (hs:Small r.fVals) (h:zaq t r=true):zrS t r:=by
 unfold zaq at h
 simp only [Bool.and_eq_true,beq_iff_eq]at h
 exact⟨by have:=h.1;omega,hs⟩
theorem zsW {t:zab} {r:zcm} (hc:1≤t.fCols.length) (h:zrS t r):getI r.fVals 0=some (zfc r 0):=(zp7 h (by omega) (by omega)).1
theorem zqH {t:zab} {r:zcm} (hc:1≤t.fCols.length) (h:zrS t r):r.fVals≠ []:=by
 intro e
 have:=h.len
 rw [e]at this
 simp at this
 omega
def zi8 (a:zan):Prop:=Small a.fOld.fVals∧Small a.fNew.fVals
def zgf (t:zab) (a:zan):Bool:=
 if a.fKind=1 then(a.fOld.fVals.length:Int)==0&&zaq t a.fNew else
 if a.fKind=2 then zaq t a.fOld&&(a.fNew.fVals.length:Int)==0 else
 if a.fKind=3 then zaq t a.fOld&&(zaq t a.fNew&&zfc a.fOld 0==zfc a.fNew 0)else false
theorem zok {t:zab} {a:zan} (hc:1≤t.fCols.length) (h:zi8 a):zfN t a=some (zgf t a):=by
 unfold zfN zgf
 by_cases h1:a.fKind=1
 ·rw [if_pos (by simpa using h1),if_pos h1,zkf h.2,Option.bind_some]
  cases((a.fOld.fVals.length:Int)==0)<;>simp
 rw [if_neg (by simpa using h1),if_neg h1]
 by_cases h2:a.fKind=2
 ·rw [if_pos (by simpa using h2),if_pos h2,zkf h.1,Option.bind_some]
  cases((a.fNew.fVals.length:Int)==0)<;>simp
 rw [if_neg (by simpa using h2),if_neg h2]
 by_cases h3:a.fKind=3
 ·rw [if_pos (by simpa using h3),if_pos h3,zkf h.1,zkf h.2,Option.bind_some,Option.bind_some]
  cases e1:zaq t a.fOld with
  |false=>simp
  |true=>
   cases e2:zaq t a.fNew with
   |false=>simp
   |true=>simp [zsW hc (zoJ h.1 e1),zsW hc (zoJ h.2 e2)]
 rw [if_neg (by simpa using h3),if_neg h3]
theorem zxi {t:zab} {a:zan} (hc:1≤t.fCols.length) (h:zi8 a):zcV t a=some (zgf t a):=by
 unfold zcV zgf
 by_cases h1:a.fKind=1
 ·rw [if_pos (by simpa using h1),if_pos h1,zjV h.2,Option.bind_some]
  cases((a.fOld.fVals.length:Int)==0)<;>simp
 rw [if_neg (by simpa using h1),if_neg h1]
 by_cases h2:a.fKind=2
 ·rw [if_pos (by simpa using h2),if_pos h2,zjV h.1,Option.bind_some]
 rw [if_neg (by simpa using h2),if_neg h2]
 by_cases h3:a.fKind=3
 ·rw [if_pos (by simpa using h3),if_pos h3,zjV h.1,zjV h.2,Option.bind_some,Option.bind_some]
  cases e1:zaq t a.fOld with
  |false=>simp
  |true=>
   cases e2:zaq t a.fNew with
   |false=>simp
   |true=>simp [zsW hc (zoJ h.1 e1),zsW hc (zoJ h.2 e2)]
 rw [if_neg (by simpa using h3),if_neg h3]
structure zAf (t:zab) (a:zan):Prop where
 old:a.fKind≠1→zrS t a.fOld
 new:a.fKind≠2→zrS t a.fNew
 kind:a.fKind=1∨a.fKind=2∨a.fKind=3
 same:a.fKind=3→zfc a.fOld 0=zfc a.fNew 0
theorem zCj {t:zab} {a:zan} (h:zi8 a) (hg:zgf t a=true):zAf t a:=by
 unfold zgf at hg
 by_cases h1:a.fKind=1
 ·rw [if_pos h1,Bool.and_eq_true]at hg
  exact⟨fun k=>absurd h1 k,fun _=>zoJ h.2 hg.2, .inl h1,fun k=>by omega⟩
 rw [if_neg h1]at hg
 by_cases h2:a.fKind=2
 ·rw [if_pos h2,Bool.and_eq_true]at hg
  exact⟨fun _=>zoJ h.1 hg.1,fun k=>absurd h2 k, .inr (.inl h2),fun k=>by omega⟩
 rw [if_neg h2]at hg
 by_cases h3:a.fKind=3
 ·rw [if_pos h3,Bool.and_eq_true,Bool.and_eq_true,beq_iff_eq]at hg
  exact⟨fun _=>zoJ h.1 hg.1,fun _=>zoJ h.2 hg.2.1, .inr (.inr h3),fun _=>hg.2.2⟩
 rw [if_neg h3]at hg
 cases hg
def zrh (t:zab) (a:zan) (x:za7):Str:=if a.fKind=1 then []else zej t x.fName x.fCol a.fOld
def zo9 (t:zab) (a:zan) (x:za7):Str:=if a.fKind=2 then []else zej t x.fName x.fCol a.fNew
def zmm (k n:Str) (x:za7):List DOp:=if k≠ []∧k≠n∧x.fStage≥1 then [⟨3,k, [],0⟩]else []
def zpc (n:Str) (x:za7):List DOp:=if n≠ []∧x.fStage≥2 then [⟨2,n, [],0⟩]else []
def zit (t:zab) (a:zan) (x:za7):List DOp:=zmm (zrh t a x) (zo9 t a x) x++zpc (zo9 t a x) x
def zjN (t:zab) (a:zan):List DOp:=
 if a.fKind=1 then [⟨6,(zeW t a.fNew).fKey, [],0⟩,⟨2,(zeW t a.fNew).fKey,(zeW t a.fNew).fVal,0⟩]else
 if a.fKind=2 then [⟨7,(zeW t a.fOld).fKey,(zeW t a.fOld).fVal,0⟩,⟨3,(zeW t a.fOld).fKey, [],0⟩]else
 [⟨7,(zeW t a.fOld).fKey,(zeW t a.fOld).fVal,0⟩,⟨2,(zeW t a.fOld).fKey,(zeW t a.fNew).fVal,0⟩]
def zj1 (t:zab) (a:zan):List DOp:=t.fIdxs.foldl (fun o x=>o++zit t a x) (zjN t a)
theorem zBz (k n:Str) (x:za7):(zmm k n x).length≤1:=by unfold zmm;split<;>simp
theorem zDf (n:Str) (x:za7):(zpc n x).length≤1:=by unfold zpc;split<;>simp
theorem zoD (t:zab) (a:zan) (x:za7):(zit t a x).length≤2:=by
 unfold zit
 have:=zBz (zrh t a x) (zo9 t a x) x
 have:=zDf (zo9 t a x) x
 rw [List.length_append];omega
theorem zmW (t:zab) (a:zan):(zjN t a).length=2:=by unfold zjN;split<;>(try split)<;>rfl
theorem zsG {o p:List DOp} (h:o.length≤5000000) (hn:p.length≤5000000):((o.length:Int)+(p.length:Int))*48≤140737488355328∧(o.length:Int)+(p.length:Int)≤140737488355328:=by omega
theorem zzY {t:zab} {a:zan} {x:za7} (ht:t.fName.length≤2000000) (hn:x.fName.length≤2000000) (hx:zfO t x.fName x) (ha:zAf t a):zgI t x a=some (zit t a x):=by
 have e1:zgI t x a=zf3 t x a (zrh t a x):=by
  unfold zgI zrh
  by_cases h1:a.fKind=1
  ·rw [if_neg (by simp [h1]),if_pos h1];rfl
  ·rw [if_pos (by simpa using h1),if_neg h1,zpz ht hn hx (ha.old h1)];rfl
 have e2: ∀k,zf3 t x a k=zeF x k (zo9 t a x):=by
  intro k
  unfold zf3 zo9
  by_cases h1:a.fKind=2
  ·rw [if_neg (by simp [h1]),if_pos h1]
  ·rw [if_pos (by simpa using h1),if_neg h1,zpz ht hn hx (ha.new h1)];rfl
 have e3: ∀(n:Str) (o:List DOp),o.length≤5→zf5 x n o=some (o++zpc n x):=by
  intro n o ho
  unfold zf5 zpc
  by_cases h1:n≠ []∧x.fStage≥2
  ·rw [if_pos (by simpa using h1),if_pos h1,zak (zsG (by omega) (by simp))]
  ·rw [if_neg (by simpa using h1),if_neg h1,List.append_nil]
 have e4: ∀(k n:Str),zeF x k n=some (zmm k n x++zpc n x):=by
  intro k n
  unfold zeF zmm
  by_cases h1:k≠ []∧k≠n∧x.fStage≥1
  ·rw [if_pos (by simpa [and_assoc]using h1),if_pos h1,zak (zsG (by simp) (by simp)),e3 _ _ (by simp)]
  ·rw [if_neg (by simpa [and_assoc]using h1),if_neg h1,e3 _ _ (by simp)]
 rw [e1,e2,e4];rfl
theorem zxt {t:zab} {a:zan} (hc:1≤t.fCols.length) (ht:t.fName.length≤2000000) (ha:zAf t a):zhJ t a=some (zjN t a):=by
 unfold zhJ zjN
 by_cases h1:a.fKind=1
 ·have hr:=ha.new (by omega)
  rw [if_pos (by simpa using h1),if_pos h1,zoz ht hr.small (zqH hc hr)];rfl
 have hr:=ha.old h1
 rw [if_neg (by simpa using h1),if_neg h1,zoz ht hr.small (zqH hc hr),Option.bind_some]
 by_cases h2:a.fKind=2
 ·rw [if_pos (by simpa using h2),if_pos h2]
 have hr:=ha.new h2
 rw [if_neg (by simpa using h2),if_neg h2,zoz ht hr.small (zqH hc hr)];rfl
theorem zCt {t:zab} {a:zan} (hS:zcY t) (hg:zag t=true) (ha:zAf t a):ziL t a=some (zj1 t a):=by
 have hc:=zfV hg
 unfold ziL
 rw [zxt (by omega) hS.name ha,Option.bind_some]
 have hl:=zmW t a
 exact(zb3 (xs:=t.fIdxs) (body:=fun s:Int × List DOp=>zds t a s.1 s.2) (fun i (o:List DOp)=>(i,o)) (fun o x=>o++zit t a x) (fun o=>some o) (fun i o=>o.length≤2+2*i)
  (fun i hi o hI=>by
   have hI:o.length≤2+2*i:=hI
   have hw:=zbS hi (by omega)
   have hk:=zoD t a t.fIdxs[i]
   have hm:=List.getElem_mem hi
   refine⟨?_,by show List.length _≤_;rw [List.length_append];omega⟩
   show zds t a i o=_
   unfold zds
   rw [if_pos (by simpa using hi),zae hi,Option.bind_some,zzY hS.name (hS.idx _ hm) (zpu hg hm) ha,Option.bind_some,zak (zsG (by omega) (by omega)),hw])
  (fun o _=>by
   show zds t a t.fIdxs.length o=_
   unfold zds
   rw [if_neg (by simp)]) (s:=zjN t a) (by omega)).1
theorem zvr {k:Int} {w:zaa} {o:List DOp} (h:o.length≤5000000):zaB k w o=some ((),o++ [⟨k,w.fKey,w.fVal,0⟩]):=by
 unfold zaB
 rw [zak (zsG h (by simp))]
theorem zEi {t:zab} {a:zan} (hS:zcY t) (hg:zag t=true) (ha:zAf t a):zdC t a=some (zj1 t a):=by
 have hc:=zfV hg
 have hl:=zmW t a
 have h7: ∀(i:Int) (x:za7) (n:Str) (o:List DOp),o.length≤100→zbi i x n o=some (.inl (IntKind.i64.wrap (i+1),o++zpc n x)):=by
  intro i x n o ho
  unfold zbi zpc zjx
  by_cases h1:n= []
  ·rw [if_neg (by simp [h1]),if_neg (by simp [h1]),List.append_nil]
  rw [if_pos (by simpa using h1),Option.bind_some]
  by_cases h2:x.fStage≥2
  ·rw [if_pos (by simpa using h2),if_pos ⟨h1,h2⟩,zvr (by omega)];rfl
  ·rw [if_neg (by simpa using h2),if_neg (fun h=>h2 h.2),List.append_nil]
 have h6: ∀(i:Int) (x:za7) (k n:Str) (o:List DOp),o.length≤99→zaZ i o x k n=some (.inl (IntKind.i64.wrap (i+1),o++(zmm k n x++zpc n x))):=by
  intro i x k n o ho
  unfold zaZ zmm zjJ
  by_cases h1:k= []
  ·rw [if_neg (by simp [h1]),if_neg (by simp [h1]),h7 _ _ _ _ (by omega)];rfl
  rw [if_pos (by simpa using h1)]
  by_cases h2:k=n
  ·rw [if_neg (by simp [h2]),if_neg (by simp [h2]),h7 _ _ _ _ (by omega)];rfl
  rw [if_pos (by simpa using h2),Option.bind_some]
  by_cases h3:x.fStage≥1
  ·rw [if_pos (by simpa using h3),if_pos ⟨h1,h2,h3⟩,zvr (by omega),Option.bind_some,h7 _ _ _ _ (by rw [List.length_append,List.length_singleton];omega),List.append_assoc]
  ·rw [if_neg (by simpa using h3),if_neg (fun h=>h3 h.2.2),h7 _ _ _ _ (by omega)];rfl
 have hloop: ∀o:List DOp,o.length=2→zbh t a o=some (t.fIdxs.foldl (fun o x=>o++zit t a x) o):=by
  intro o ho
  unfold zbh
  exact(zb3 (xs:=t.fIdxs) (body:=fun s:Int × List DOp=>zbg t a s.1 s.2) (fun i (o:List DOp)=>(i,o)) (fun o x=>o++zit t a x) (fun o=>some o) (fun i o=>o.length≤2+2*i)
   (fun i hi o hI=>by
    have hI:o.length≤2+2*i:=hI
    have hw:=zbS hi (by omega)
    have hk:=zoD t a t.fIdxs[i]
    have hm:=List.getElem_mem hi
    have hx:=zpu hg hm
    refine⟨?_,by show List.length _≤_;rw [List.length_append];omega⟩
    show zbg t a i o=_
    unfold zbg
    rw [if_pos (by simpa using hi),zae hi,Option.bind_some]
    have e1:(if(a.fKind !=1)=true then(za3 t t.fIdxs[i].fName a.fOld).bind fun v20=>some (Sum.inl v20)else some (Sum.inl ([]:List UInt8)):Option (List UInt8 ⊕ Option ((Int × List DOp) ⊕ Option (List DOp))))=some (.inl (zrh t a t.fIdxs[i])):=by
     unfold zrh
     by_cases h1:a.fKind=1
     ·rw [if_neg (by simp [h1]),if_pos h1]
     ·rw [if_pos (by simpa using h1),if_neg h1,ztu hS (hS.idx _ hm) hx (ha.old h1)];rfl
    rw [e1]
    show zec t a i o t.fIdxs[i] (zrh t a t.fIdxs[i])=_
    unfold zec
    have e2: ∀k,(if(a.fKind !=2)=true then(za3 t t.fIdxs[i].fName a.fNew).bind fun v19=>zaZ i o t.fIdxs[i] k v19 else zaZ i o t.fIdxs[i] k ([]:List UInt8))=zaZ i o t.fIdxs[i] k (zo9 t a t.fIdxs[i]):=by
     intro k
     unfold zo9
     by_cases h1:a.fKind=2
     ·rw [if_neg (by simp [h1]),if_pos h1]
     ·rw [if_pos (by simpa using h1),if_neg h1,ztu hS (hS.idx _ hm) hx (ha.new h1)];rfl
    rw [e2,h6 _ _ _ _ _ (by omega),hw]
    rfl)
   (fun o _=>by
    show zbg t a t.fIdxs.length o=_
    unfold zbg
    rw [if_neg (by simp)]) (s:=o) (by omega)).1
 have hn:t.fName.length≤2000000:=hS.name
 unfold zdC zj1 zjN
 rcases ha.kind with h1|h1|h1
 ·have hr:=ha.new (by omega)
  rw [if_neg (by simp [h1]),if_pos h1]
  show zaY t a [] [] false []=_
  unfold zaY
  rw [if_pos (by simp [h1]),zp6 hn hr.small (zqH (by omega) hr),Option.bind_some]
  unfold zbV
  rw [if_pos (by simp [h1]),zvr (by simp),Option.bind_some,zvr (by simp),Option.bind_some,hloop _ (by simp)]
  rfl
 ·have hr:=ha.old (by omega)
  rw [if_pos (by simp [h1]),if_neg (by omega),if_pos h1,zp6 hn hr.small (zqH (by omega) hr),Option.bind_some,zvr (by simp),Option.bind_some]
  show zaY t a (zeW t a.fOld).fKey (zeW t a.fOld).fVal (zeW t a.fOld).fGone _=_
  unfold zaY
  rw [if_neg (by simp [h1])]
  unfold zbV
  rw [if_neg (by simp [h1]),if_pos (by simp [h1]),zvr (by simp),Option.bind_some,hloop _ (by simp)]
  rfl
 ·have hr:=ha.old (by omega)
  have hr2:=ha.new (by omega)
  have hk:(zeW t a.fOld).fKey=(zeW t a.fNew).fKey:=by
   have:=ha.same h1
   unfold zfc at this
   unfold zeW
   rw [List.head?_eq_getElem?,List.head?_eq_getElem?]
   exact congrArg (fun z=>t.fName++ [47]++z) this
  rw [if_pos (by simp [h1]),if_neg (by omega),if_neg (by omega),zp6 hn hr.small (zqH (by omega) hr),Option.bind_some,zvr (by simp),Option.bind_some]
  show zaY t a (zeW t a.fOld).fKey (zeW t a.fOld).fVal (zeW t a.fOld).fGone _=_
  unfold zaY
  rw [if_pos (by simp [h1]),zp6 hn hr2.small (zqH (by omega) hr2),Option.bind_some]
  unfold zbV
  rw [if_neg (by simp [h1]),if_neg (by simp [h1]),if_pos (by simp [h1]),zvr (by simp),Option.bind_some,hloop _ (by simp),hk]
  rfl
end Go.Proofs.YtgobcjbjogkpjaaGreatDoor
end
section
namespace Go.Proofs.YtgobcjbjogkpjaaGreatDoor
open Go.RowKit
set_option maxRecDepth 100000
theorem zb8 {σ α:Type} {body:σ→Option (σ ⊕ Option α)} {s:σ} {o:Option α} (h:body s=some (.inr o)):zau body s=o:=by rw [zcy,h]
theorem zcE {σ α:Type} {body:σ→Option (σ ⊕ Option α)} {s s':σ} (h:body s=some (.inl s')):zau body s=zau body s':=by rw [zcy,h]
end Go.Proofs.YtgobcjbjogkpjaaGreatDoor
end
section
namespace Go.Proofs.YtgobcjbjogkpjaaGreatDoor
open Go.RowKit
set_option maxRecDepth 100000
abbrev wk (w:zaa):Str:=w.fKey
theorem znO {α β:Type} {xs:List α} {body:Int→Option (Int ⊕ Option β)} (p:α→Bool) (hit:α→Option β) (fin:Option β)
  (hs: ∀(i:Nat) (hi:i<xs.length),body i=some (if p xs[i]=true then .inr (hit xs[i])else .inl ((i+1:Nat):Int))) (he:body xs.length=some (.inr fin)):
  zau body 0=match xs.find? p with|some x=>hit x|none=>fin:=by
 have key: ∀n q,q+n=xs.length→zau body (q:Nat)=match(xs.drop q).find? p with|some x=>hit x|none=>fin:=by
  intro n
  induction n with
  |zero=>
   intro q hq
   have:q=xs.length:=by omega
   subst this
   rw [List.drop_length]
   exact zb8 he
  |succ n ih=>
   intro q hq
   have hlt:q<xs.length:=by omega
   rw [List.drop_eq_getElem_cons hlt,List.find?_cons]
   have h1:=hs q hlt
   cases hp:p xs[q]with
   |true=>
    rw [hp,if_pos rfl]at h1
    exact zb8 h1
   |false=>
    rw [hp,if_neg (by simp)]at h1
    rw [zcE h1]
    exact ih (q+1) (by omega)
 have:=key xs.length 0 (by omega)
 rw [List.drop_zero]at this
 exact this
def zvc (got:List zhb) (k:Str):Str × Bool × Bool:=match got.find? (fun g=>g.fKey==k)with|some g=>(g.fVal,g.fThere,true)|none=>([],false,false)
def zcS (ws:List zaa) (got:List zhb) (k:Str):Str × Bool × Bool:=match ws.find? (fun w=>w.fKey==k)with|some w=>(w.fVal, !w.fGone,true)|none=>zvc got k
def zcR (rows:List zaa) (k:Str):zhb:=match rows.find? (fun w=>w.fKey==k)with|some w=>⟨k,w.fVal,true⟩|none=>⟨k, [],false⟩
theorem zqf {ws:List zaa} {got:List zhb} {k:Str} (hw:ws.length≤2000000) (hg:got.length≤2000000):zgN ws got k=some (zcS ws got k):=by
 have h2:ze3 got k=some (zvc got k):=by
  unfold ze3 zvc
  rw [znO (xs:=got) (body:=fun s:Int=>zcO got k s) (fun g=>g.fKey==k) (fun g=>some (g.fVal,g.fThere,true)) (some ([],false,false)) (fun i hi=>by
   show zcO got k i=_
   unfold zcO
   rw [if_pos (by simpa using hi),zae hi,Option.bind_some,zbS hi (by omega)]
   split<;>rfl) (by
   show zcO got k got.length=_
   unfold zcO
   rw [if_neg (by simp)])]
  cases got.find? (fun g=>g.fKey==k)<;>rfl
 unfold zgN zcS
 rw [znO (xs:=ws) (body:=fun s:Int=>zcK ws got k s) (fun w=>w.fKey==k) (fun w=>some (w.fVal, !w.fGone,true)) (ze3 got k) (fun i hi=>by
  show zcK ws got k i=_
  unfold zcK
  rw [if_pos (by simpa using hi),zae hi,Option.bind_some,zbS hi (by omega)]
  split<;>rfl) (by
  show zcK ws got k ws.length=_
  unfold zcK
  rw [if_neg (by simp)]),h2]
 cases ws.find? (fun w=>w.fKey==k)<;>rfl
theorem zCP {rows:List zaa} {k:Str} (hw:rows.length≤2000000):ziJ rows k=some (zcR rows k):=by
 unfold ziJ zcR
 rw [znO (xs:=rows) (body:=fun s:Int=>zdr rows k s) (fun w=>w.fKey==k) (fun w=>some ⟨k,w.fVal,true⟩) (zkX k) (fun i hi=>by
  show zdr rows k i=_
  unfold zdr
  rw [if_pos (by simpa using hi),zae hi,Option.bind_some,zbS hi (by omega)]
  split<;>rfl) (by
  show zdr rows k rows.length=_
  unfold zdr
  rw [if_neg (by simp)])]
 cases rows.find? (fun w=>w.fKey==k)<;>rfl
theorem zns {α:Type} (lt:α→Bool) (x:α) (l:List α):zix lt (x::l)=if lt x=true then zix lt l+1 else 0:=by
 unfold zix
 rw [List.takeWhile_cons]
 split<;>rfl
theorem zk8 {x:zaa} {l:List zaa} (h:zgs (x::l)):(∀y∈l,bl x.fKey y.fKey=true)∧zgs l:=by
 unfold zgs zoI at h
 rw [List.pairwise_cons]at h
 exact h
theorem zzB {l:List zaa} {k:Str} (h: ∀y∈l,bl k y.fKey=true):l.find? (fun w=>w.fKey==k)=none:=by
 rw [List.find?_eq_none]
 intro y hy
 have:=zln (h y hy)
 simpa using fun e=>this e.symm
theorem zr0 {k:Str}: ∀{l:List zaa},zgs l→l.find? (fun w=>w.fKey==k)=match l[ziy l k]? with|some w=>if w.fKey=k then some w else none|none=>none
 | [],_=>by simp
 |x::l,h=>by
  obtain⟨h1,h2⟩:=zk8 h
  have ih:=zr0 (k:=k) h2
  rw [ziy,zns,List.find?_cons]
  by_cases hb:bl x.fKey k=true
  ·have hne:(x.fKey==k)=false:=by simpa using zln hb
   rw [if_pos hb,hne,List.getElem?_cons_succ]
   exact ih
  ·rw [if_neg hb,List.getElem?_cons_zero]
   by_cases he:x.fKey=k
   ·rw [show(x.fKey==k)=true by simpa using he];simp [he]
   ·rw [show(x.fKey==k)=false by simpa using he]
    simp only [he,if_false]
    have hk:bl k x.fKey=true:=zls (by simpa using hb) he
    exact zzB fun y hy=>zfZ hk (h1 y hy)
theorem zzN {l:List zaa} {k:Str} (hl:l.length≤2000000) (hr:zgs l): ∃i:Int,(zcf l k=some (i,true)∧ ∃w,getI l i=some w∧l.find? (fun w=>w.fKey==k)=some w)∨(zcf l k=some (i,false)∧l.find? (fun w=>w.fKey==k)=none):=by
 refine⟨(ziy l k:Nat), ?_⟩
 rw [zES hl hr,zr0 hr]
 by_cases hp:ziy l k<l.length
 ·rw [List.getElem?_eq_getElem hp]
  by_cases hk:(l[ziy l k]).fKey=k
  ·left
   simp only [hk,decide_true,if_true]
   exact⟨trivial,_,zae hp,rfl⟩
  ·right
   simp only [hk,decide_false,if_false]
   exact⟨trivial,trivial⟩
 ·rw [List.getElem?_eq_none (by omega)]
  right
  exact⟨rfl,rfl⟩
theorem zxn {ws:List zaa} {got:List zhb} {k:Str} (hw:ws.length≤2000000) (hg:got.length≤2000000) (hr:zgs ws):zhE k ws got=some (zcS ws got k):=by
 unfold zhE zcS
 obtain⟨i,⟨e,w,e2,e3⟩|⟨e,e3⟩⟩:=zzN (k:=k) hw hr
 ·rw [e,e3,Option.bind_some,if_pos rfl,e2];rfl
 ·rw [e,e3,Option.bind_some,if_neg (by simp)]
  unfold zvc
  rw [znO (xs:=got) (body:=fun s:Int=>zc7 k got s) (fun g=>g.fKey==k) (fun g=>some (g.fVal,g.fThere,true)) (some ([],false,false)) (fun i hi=>by
   show zc7 k got i=_
   unfold zc7
   rw [if_pos (by simpa using hi),zae hi,Option.bind_some,zbS hi (by omega)]
   split<;>rfl) (by
   show zc7 k got got.length=_
   unfold zc7
   rw [if_neg (by simp)])]
  cases got.find? (fun g=>g.fKey==k)<;>rfl
theorem zAU {rows:List zaa} {k:Str} (hw:rows.length≤2000000) (hr:zgs rows):zjr rows k=some (zcR rows k):=by
 unfold zjr zcR
 obtain⟨i,⟨e,w,e2,e3⟩|⟨e,e3⟩⟩:=zzN (k:=k) hw hr
 ·rw [e,e3,Option.bind_some,if_neg (by simp),e2];rfl
 ·rw [e,e3,Option.bind_some,if_pos (by simp)]
def leW (k:Str) (w:zaa):Bool:=bl w.fKey k||w.fKey==k
def zB3 (l:List zaa) (w:zaa) (q:Nat):List zaa:=
 match(if q=0 then none else l[q-1]?)with
 |some y=>if y.fKey=w.fKey then l.set (q-1) w else l.take q++ [w]++l.drop q
 |none=>l.take q++ [w]++l.drop q
theorem zyw {w:Str} {l:List zaa} (h: ∀y∈l,bl w y.fKey=true):zix (leW w) l=0:=by
 cases l with
 |nil=>rfl
 |cons y l=>
  rw [zns,if_neg]
  have h1:=h y (by simp)
  have h2:=zpv h1
  have h3:=zln h1
  unfold leW
  rw [h2]
  simpa using fun e=>h3 e.symm
theorem zwT {w:zaa}: ∀{l:List zaa},zgs l→zB3 l w (zix (leW w.fKey) l)=zha wk w l
 | [],_=>by simp [zB3,zha,zix]
 |x::l,h=>by
  obtain⟨h1,h2⟩:=zk8 h
  have ih:=zwT (w:=w) h2
  rw [zns,zha]
  by_cases ha:bl (wk w) (wk x)=true
  ·have hl:leW w.fKey x=false:=by
    have h3:=zpv ha
    have h4:=zln ha
    unfold leW
    rw [h3]
    simpa using fun e=>h4 e.symm
   rw [if_pos ha,hl,if_neg (by simp)]
   simp [zB3]
  rw [if_neg ha]
  by_cases he:wk w=wk x
  ·have hl:leW w.fKey x=true:=by unfold leW;rw [show(x.fKey==w.fKey)=true by simpa using he.symm];simp
   have hz:zix (leW w.fKey) l=0:=zyw fun y hy=>by rw [show w.fKey=x.fKey from he];exact h1 y hy
   rw [if_pos he,hl,if_pos rfl,hz]
   simp [zB3,show x.fKey=w.fKey from he.symm]
  ·have hb:bl x.fKey w.fKey=true:=zls (by simpa using ha) he
   have hl:leW w.fKey x=true:=by unfold leW;rw [hb];rfl
   rw [if_neg he,hl,if_pos rfl,←ih]
   have hle:=zoA (leW w.fKey) l
   generalize zix (leW w.fKey) l=q at hle
   unfold zB3
   rw [if_neg (by omega),Nat.add_sub_cancel]
   cases q with
   |zero=>
    simp only [List.getElem?_cons_zero,if_true]
    rw [if_neg (fun e=>he e.symm)]
    simp
   |succ q=>
    rw [if_neg (by omega),Nat.add_sub_cancel,List.getElem?_cons_succ,List.getElem?_eq_getElem (by omega)]
    simp only
    split
    ·simp
    ·simp
theorem zzK {w:Str}: ∀{l:List zaa},zgs l→ ∀(j:Nat) (hj:j<l.length),zix (leW w) l≤j→leW w l[j]=false
 | [],_,j,hj,_=>by simp at hj
 |x::l,h,j,hj,hq=>by
  obtain⟨h1,h2⟩:=zk8 h
  rw [zns]at hq
  by_cases hx:leW w x=true
  ·rw [if_pos hx]at hq
   cases j with
   |zero=>omega
   |succ j=>exact zzK h2 j (by simpa using hj) (by omega)
  ·have hx':leW w x=false:=by simpa using hx
   cases j with
   |zero=>exact hx'
   |succ j=>
    have hm:l[j]'(by simpa using hj)∈l:=List.getElem_mem _
    have h3:=h1 _ hm
    show leW w (l[j]'(by simpa using hj))=false
    unfold leW at hx' ⊢
    simp only [Bool.or_eq_false_iff,beq_eq_false_iff_ne]at hx' ⊢
    have h4:bl w x.fKey=true:=zls hx'.1 hx'.2
    have h5:=zfZ h4 h3
    exact⟨zpv h5,fun e=>zln h5 e.symm⟩
theorem zzq {i:Nat} (h0:0<i) (h:i≤2000000):IntKind.i64.wrap ((i:Int)-1)=((i-1:Nat):Int):=by rw [zaH (by omega) (by omega)];omega
theorem zkT {l:List zaa} {w:zaa} (hl:l.length≤2000000) (hr:zgs l):zaX l w=some (zha wk w l):=by
 have hk: ∀q:Nat,q≤l.length→zfX l w (q:Int)=some (zB3 l w q):=by
  intro q hq
  have r1:0≤(q:Int)∧(q:Int)≤(l.length:Int)∧(l.length:Int)≤(l.length:Int):=by omega
  have hw1:(ze8 l (q:Int) (l.length:Int))=l.drop q:=by rw [show(l.length:Int)=((l.length:Nat):Int)from rfl,zDy,List.take_length]
  have hw2:(ze8 l 0 (q:Int))=l.take q:=zC2 l q
  have r2:((([]:List zaa).length:Int)+((l.drop q).length:Int))*40≤140737488355328∧(([]:List zaa).length:Int)+((l.drop q).length:Int)≤140737488355328:=by
   rw [List.length_nil,List.length_drop];omega
  have r3:0≤(0:Int)∧(0:Int)≤(q:Int)∧(q:Int)≤(l.length:Int):=by omega
  have r4:((([]:List zaa).length:Int)+((l.take q).length:Int))*40≤140737488355328∧(([]:List zaa).length:Int)+((l.take q).length:Int)≤140737488355328:=by
   rw [List.length_nil,List.length_take];omega
  have r5:(((l.take q).length:Int)+(([w]:List zaa).length:Int))*40≤140737488355328∧((l.take q).length:Int)+(([w]:List zaa).length:Int)≤140737488355328:=by
   rw [List.length_singleton,List.length_take];omega
  have r6:(((l.take q++ [w]).length:Int)+((l.drop q).length:Int))*40≤140737488355328∧((l.take q++ [w]).length:Int)+((l.drop q).length:Int)≤140737488355328:=by
   rw [List.length_append,List.length_singleton,List.length_take,List.length_drop];omega
  have r7:((([]:List zaa).length:Int)+((l).length:Int))*40≤140737488355328∧(([]:List zaa).length:Int)+((l).length:Int)≤140737488355328:=by
   rw [List.length_nil];omega
  unfold zfX zB3
  by_cases h0:q=0
  ·subst h0
   rw [if_neg (by simp),if_pos rfl]
   rw [zak r1,hw1,zak r2,zak r3,hw2,zak r4,zak r5,zak r6]
  ·have hq1:q-1<l.length:=by omega
   rw [if_pos (by simp;omega),if_neg h0,zzq (by omega) (by omega),zae hq1,Option.bind_some,List.getElem?_eq_getElem hq1]
   simp only
   by_cases he:(l[q-1]).fKey=w.fKey
   ·rw [if_pos (by simpa using he),if_pos he,zak r7,Option.bind_some]
    rfl
   ·rw [if_neg (by simpa using he),if_neg he]
    rw [zak r1,hw1,zak r2,zak r3,hw2,zak r4,zak r5,zak r6]
 have hle:=zoA (leW w.fKey) l
 have key: ∀n j:Nat,j=zix (leW w.fKey) l+n→j≤l.length→zau (fun s:Int=>zcQ l w s) (j:Int)=some (zB3 l w (zix (leW w.fKey) l)):=by
  intro n
  induction n with
  |zero=>
   intro j hj hjl
   have hj':j=zix (leW w.fKey) l:=by omega
   refine(zb8 ?_).trans (hk _ hle)
   show zcQ l w (j:Int)=_
   unfold zcQ
   by_cases h0:j=0
   ·rw [if_neg (by simp [h0]),hj']
   ·have hq1:j-1<l.length:=by omega
    have ht:=zv5 (lt:=leW w.fKey) (l:=l) (i:=j-1) (by omega)
    rw [if_pos (by simp;omega),zzq (by omega) (by omega),zae hq1,Option.bind_some,if_neg,hj']
    unfold leW at ht
    have ht:(bl l[j-1].fKey w.fKey||l[j-1].fKey==w.fKey)=true:=ht
    show¬(!(bl l[j-1].fKey w.fKey||l[j-1].fKey==w.fKey))=true
    rw [ht];simp
  |succ n ih=>
   intro j hj hjl
   have hq1:j-1<l.length:=by omega
   have ht:=zzK (w:=w.fKey) hr (j-1) hq1 (by omega)
   have e:zcQ l w (j:Int)=some (.inl ((j-1:Nat):Int)):=by
    unfold zcQ
    rw [if_pos (by simp;omega),zzq (by omega) (by omega),zae hq1,Option.bind_some,if_pos]
    have ht:(bl l[j-1].fKey w.fKey||l[j-1].fKey==w.fKey)=false:=ht
    show(!(bl l[j-1].fKey w.fKey||l[j-1].fKey==w.fKey))=true
    rw [ht];rfl
   rw [zcE (body:=fun s:Int=>zcQ l w s) e]
   exact ih (j-1) (by omega) (by omega)
 unfold zaX
 rw [key (l.length-zix (leW w.fKey) l) l.length (by omega) (Nat.le_refl _),zwT hr]
end Go.Proofs.YtgobcjbjogkpjaaGreatDoor
end
section
namespace Go.Proofs.YtgobcjbjogkpjaaGreatDoor
open Go.RowKit
set_option maxRecDepth 100000
structure OkO (o:DOp):Prop where
 key:zch o.fKey=true
 val:zfG o.fVal=true
 by_:o.fBy=0
 kind:o.fKind=2∨o.fKind=3∨o.fKind=6∨o.fKind=7
 none:o.fKind=3∨o.fKind=6→o.fVal= []
theorem zt8 {s:Str} (h:zfG s=true):s.length≤24:=by
 unfold zfG at h
 simp only [Bool.and_eq_true,decide_eq_true_eq]at h
 omega
theorem zuf {s:Str} (h:zch s=true):s.length≤12:=by
 unfold zch at h
 simp only [Bool.and_eq_true]at h
 have:=zaE.1 h.1
 omega
theorem zu5 (s:Str) (h:s.length≤2000000): ∃r,zgV s=some r:=by
 unfold zgV
 rw [zjX,Option.bind_some]
 cases hb:inB s.length 1 6 with
 |false=>exact⟨_,rfl⟩
 |true=>
  have h1:=zaE.1 hb
  obtain⟨x,e,_,_⟩:=zip (xs:=s) (i:=0) (by omega) (by omega)
  rw [if_pos rfl,e,Option.bind_some]
  split
  ·exact⟨_,rfl⟩
  ·have key: ∀(n q:Nat) (v:Int),q+n=s.length→ ∃r,zau (fun s_:Int × Int=>zbG s s_.1 s_.2) (v,(q:Int))=some r:=by
    intro n
    induction n with
    |zero=>
     intro q v hq
     refine⟨v,zb8 ?_⟩
     show zbG s v q=_
     unfold zbG
     rw [if_neg (by simp;omega)]
    |succ n ih=>
     intro q v hq
     have hlt:q<s.length:=by omega
     by_cases hd:((decide (((s[q]).toNat:Int)<48))||(decide (((s[q]).toNat:Int)>57)))=true
     ·refine⟨-1,zb8 ?_⟩
      show zbG s v q=_
      unfold zbG
      rw [if_pos (by simpa using hlt),zae hlt,Option.bind_some,if_pos hd]
     ·have e:zbG s v q=some (.inl ((IntKind.i64.wrap ((IntKind.i64.wrap ((10:Int)*v))+(IntKind.i64.wrap (IntKind.u8.wrap (((s[q]).toNat:Int)-48))))),((q+1:Nat):Int))):=by
       unfold zbG
       rw [if_pos (by simpa using hlt),zae hlt,Option.bind_some,if_neg hd,zbS hlt (by omega)]
      obtain⟨r,hr⟩:=ih (q+1) _ (by omega)
      exact⟨r,(zcE (body:=fun s_:Int × Int=>zbG s s_.1 s_.2) e).trans hr⟩
   exact key s.length 0 0 (by omega)
theorem zAY (s:Str) (h:s.length≤2000000): ∃r,zid s=some r:=by
 have hj1: ∀(y:UInt8) (v:Str),v.length≤2000000→ ∃r,zgY y v=some r:=by
  intro y v hv
  obtain⟨r,e⟩:=zu5 v hv
  unfold zgY
  rw [e,Option.bind_some]
  split
  ·exact⟨_,rfl⟩
  ·split<;>exact⟨_,rfl⟩
 unfold zid
 by_cases h0:(s.length:Int)>0
 ·obtain⟨x,e,_,_⟩:=zip (xs:=s) (i:=0) (by omega) (by omega)
  rw [if_pos (by simpa using h0),e,Option.bind_some]
  split
  ·rw [zak (by omega)]
   exact hj1 _ _ (by rw [zFC,List.length_tail];omega)
  ·exact hj1 _ _ h
 ·rw [if_neg (by simpa using h0)]
  unfold zlg
  obtain⟨r,e⟩:=zu5 s h
  rw [e,Option.bind_some]
  split<;>exact⟨_,rfl⟩
def zur (o:DOp) (val:Str) (there:Bool):Bool:=if o.fKind=6 then !there else there&&val==o.fVal
def zgt (got:List zhb):List DOp→List zaa→Int × Str × List zaa
 | [],ws=>(3, [],ws)
 |o::l,ws=>
  if o.fKind=2 then zgt got l (zha wk ⟨o.fKey,o.fVal,false⟩ ws)else
  if o.fKind=3 then zgt got l (zha wk ⟨o.fKey, [],true⟩ ws)else
  if(zcS ws got o.fKey).2.2=true then(if zur o (zcS ws got o.fKey).1 (zcS ws got o.fKey).2.1=true then zgt got l ws else(2, [], []))
  else(1,o.fKey, [])
structure zjj (n:Nat) (ws:List zaa):Prop where
 rise:zgs ws
 len:ws.length≤n
 good: ∀w∈ws,zgd w=true
theorem zev {n:Nat} {ws:List zaa} {w:zaa} (h:zjj n ws) (hw:zgd w=true):zjj (n+1) (zha wk w ws):=by
 refine⟨zlc h.rise,Nat.le_trans (zxe _) (by have:=h.len;omega),fun y hy=> ?_⟩
 rcases(znT (key:=wk) h.rise y).1 hy with rfl|hy
 ·exact hw
 ·exact h.good y hy.1
theorem zqR {o:DOp} (h:OkO o):zgd ⟨o.fKey,o.fVal,false⟩=true:=by
 unfold zgd zjt
 simp [h.key,h.val]
theorem zoy {o:DOp} (h:OkO o):zgd ⟨o.fKey, [],true⟩=true:=by
 unfold zgd zjt
 rw [h.key]
 rfl
theorem znu {w:zaa} (h:zgd w=true):w.fVal.length≤24:=by
 unfold zgd zjt at h
 simp only [Bool.and_eq_true]at h
 exact zt8 h.2.1
theorem zuT {w:zaa} (h:zgd w=true):w.fKey.length≤12:=by
 unfold zgd at h
 simp only [Bool.and_eq_true]at h
 exact zuf h.1
theorem zrV {ws:List zaa} {got:List zhb} {k:Str} (hw: ∀w∈ws,zgd w=true) (hg: ∀g∈got,g.fVal.length≤2000):(zcS ws got k).1.length≤2000:=by
 unfold zcS
 cases e:ws.find? (fun w=>w.fKey==k)with
 |some w=>
  have:=znu (hw w (List.mem_of_find?_eq_some e))
  show w.fVal.length≤2000
  omega
 |none=>
  unfold zvc
  cases e2:got.find? (fun g=>g.fKey==k)with
  |some g=>exact hg g (List.mem_of_find?_eq_some e2)
  |none=>simp
theorem zAp {o:DOp} (h:OkO o) (hk2:o.fKind≠2) (hk3:o.fKind≠3) {val:Str} {there:Bool} (hv:val.length≤2000):zfr o val there=some (zur o val there):=by
 have e: ∃r,zfg val=some r:=by
  unfold zfg zhP
  rw [zak (by omega)]
  exact⟨_,rfl⟩
 obtain⟨r,e⟩:=e
 unfold zfr zur
 rw [e,Option.bind_some]
 rcases h.kind with h1|h1|h1|h1
 ·exact absurd h1 hk2
 ·exact absurd h1 hk3
 ·rw [h1];rfl
 ·rw [h1];rfl
theorem zBp {o:DOp} (h:OkO o) {val:Str} {there:Bool} (hv:val.length≤2000):zhQ o val there=some (if o.fKind=2∨o.fKind=3 then false else !zur o val there):=by
 obtain⟨r,e⟩:=zAY val (by omega)
 unfold zhQ zur
 rw [e,Option.bind_some]
 rcases h.kind with h1|h1|h1|h1
 ·rw [h1];rfl
 ·rw [h1];rfl
 ·rw [h1];cases there<;>rfl
 ·rw [h1]
  show some (!there||val !=o.fVal)=some (!(there&&val==o.fVal))
  cases there<;>simp [bne]
theorem zC7 {ops:List DOp} {got:List zhb} (hl:ops.length≤1000) (ho: ∀o∈ops,OkO o) (hg:got.length≤2000) (hv: ∀g∈got,g.fVal.length≤2000):zjC ops got=some (zgt got ops []):=by
 have key: ∀(n q:Nat) (ws:List zaa),q+n=ops.length→zjj q ws→zau (fun s:Int × List zaa=>zaI ops got s.1 s.2) ((q:Int),ws)=some (zgt got (ops.drop q) ws):=by
  intro n
  induction n with
  |zero=>
   intro q ws hq hw
   rw [List.drop_eq_nil_of_le (by omega),zgt]
   refine zb8 ?_
   show zaI ops got q ws=_
   unfold zaI
   rw [if_neg (by simp;omega)]
  |succ n ih=>
   intro q ws hq hw
   have hlt:q<ops.length:=by omega
   have hok:=ho _ (List.getElem_mem hlt)
   have hwl:=hw.len
   have hwr:=zbS hlt (by omega)
   rw [List.drop_eq_getElem_cons hlt,zgt]
   by_cases h2:(ops[q]).fKind=2
   ·rw [if_pos h2]
    have e:zaI ops got q ws=some (.inl (((q+1:Nat):Int),zha wk ⟨(ops[q]).fKey,(ops[q]).fVal,false⟩ ws)):=by
     unfold zaI
     rw [if_pos (by simpa using hlt),zae hlt,Option.bind_some,if_pos (by simpa using h2),zow (by omega) hw.rise,Option.bind_some,hwr]
    rw [zcE (body:=fun s:Int × List zaa=>zaI ops got s.1 s.2) e]
    exact ih (q+1) _ (by omega) (zev hw (zqR hok))
   rw [if_neg h2]
   by_cases h3:(ops[q]).fKind=3
   ·rw [if_pos h3]
    have e:zaI ops got q ws=some (.inl (((q+1:Nat):Int),zha wk ⟨(ops[q]).fKey, [],true⟩ ws)):=by
     unfold zaI
     rw [if_pos (by simpa using hlt),zae hlt,Option.bind_some,if_neg (by simpa using h2),if_pos (by simpa using h3),zow (by omega) hw.rise,Option.bind_some,hwr]
    rw [zcE (body:=fun s:Int × List zaa=>zaI ops got s.1 s.2) e]
    exact ih (q+1) _ (by omega) (zev hw (zoy hok))
   rw [if_neg h3]
   have hsl:=zrV (k:=(ops[q]).fKey) hw.good hv
   have hb:zaI ops got q ws=if(zcS ws got (ops[q]).fKey).2.2=true then(if zur ops[q] (zcS ws got (ops[q]).fKey).1 (zcS ws got (ops[q]).fKey).2.1=true then some (.inl (((q+1:Nat):Int),ws))else some (.inr (some (2, [], []))))else some (.inr (some (1,(ops[q]).fKey, []))):=by
    unfold zaI
    rw [if_pos (by simpa using hlt),zae hlt,Option.bind_some,if_neg (by simpa using h2),if_neg (by simpa using h3),zxn (by omega) (by omega) hw.rise,Option.bind_some]
    cases hs:(zcS ws got (ops[q]).fKey).2.2 with
    |false=>rw [if_pos (by simp),if_neg (by simp)]
    |true=>
     rw [if_neg (by simp),if_pos rfl,zAp hok h2 h3 hsl,Option.bind_some]
     have h4: ¬(ops[q]).fKind=4:=by rcases hok.kind with h|h|h|h<;>omega
     cases zur ops[q] (zcS ws got (ops[q]).fKey).1 (zcS ws got (ops[q]).fKey).2.1 with
     |false=>rfl
     |true=>rw [if_neg (by simp),if_neg (by simpa using h4),if_pos rfl,hwr]
   by_cases hs:(zcS ws got (ops[q]).fKey).2.2=true
   ·rw [if_pos hs]at hb ⊢
    by_cases hk:zur ops[q] (zcS ws got (ops[q]).fKey).1 (zcS ws got (ops[q]).fKey).2.1=true
    ·rw [if_pos hk]at hb ⊢
     rw [zcE (body:=fun s:Int × List zaa=>zaI ops got s.1 s.2) hb]
     exact ih (q+1) _ (by omega) ⟨hw.rise,by omega,hw.good⟩
    ·rw [if_neg hk]at hb ⊢
     exact zb8 hb
   ·rw [if_neg hs]at hb ⊢
    exact zb8 hb
 exact key ops.length 0 [] (by omega) ⟨List.Pairwise.nil,Nat.le_refl _,by simp⟩
theorem zDl {ops:List DOp} {got:List zhb} (hl:ops.length≤1000) (ho: ∀o∈ops,OkO o) (hg:got.length≤2000) (hv: ∀g∈got,g.fVal.length≤2000):zkq ops got=some (zgt got ops []):=by
 have key: ∀(n q:Nat) (ws:List zaa),q+n=ops.length→zjj q ws→zau (fun s:List zaa × Int=>zaQ ops got s.1 s.2) (ws,(q:Int))=some (zgt got (ops.drop q) ws):=by
  intro n
  induction n with
  |zero=>
   intro q ws hq hw
   rw [List.drop_eq_nil_of_le (by omega),zgt]
   refine zb8 ?_
   show zaQ ops got ws q=_
   unfold zaQ
   rw [if_neg (by simp;omega)]
  |succ n ih=>
   intro q ws hq hw
   have hlt:q<ops.length:=by omega
   have hok:=ho _ (List.getElem_mem hlt)
   have hwl:=hw.len
   have hwr:=zbS hlt (by omega)
   have hsl:=zrV (k:=(ops[q]).fKey) hw.good hv
   have hgv:=zBp hok (val:=(zcS ws got (ops[q]).fKey).1) (there:=(zcS ws got (ops[q]).fKey).2.1) hsl
   rw [List.drop_eq_getElem_cons hlt,zgt]
   by_cases h2:(ops[q]).fKind=2
   ·rw [if_pos h2]
    rw [if_pos (.inl h2)]at hgv
    have e:zaQ ops got ws q=some (.inl (zha wk ⟨(ops[q]).fKey,(ops[q]).fVal,false⟩ ws,((q+1:Nat):Int))):=by
     unfold zaQ
     rw [if_pos (by simpa using hlt),zae hlt,Option.bind_some,zqf (by omega) (by omega),Option.bind_some,if_neg (by simp [h2]),hgv,Option.bind_some,if_neg (by simp),if_pos (by simpa using h2),zkT (by omega) hw.rise,Option.bind_some,hwr]
    rw [zcE (body:=fun s:List zaa × Int=>zaQ ops got s.1 s.2) e]
    exact ih (q+1) _ (by omega) (zev hw (zqR hok))
   rw [if_neg h2]
   by_cases h3:(ops[q]).fKind=3
   ·rw [if_pos h3]
    rw [if_pos (.inr h3)]at hgv
    have e:zaQ ops got ws q=some (.inl (zha wk ⟨(ops[q]).fKey, [],true⟩ ws,((q+1:Nat):Int))):=by
     unfold zaQ
     rw [if_pos (by simpa using hlt),zae hlt,Option.bind_some,zqf (by omega) (by omega),Option.bind_some,if_neg (by simp [h3]),hgv,Option.bind_some,if_neg (by simp),if_neg (by simpa using h2),if_pos (by simpa using h3),zkT (by omega) hw.rise,Option.bind_some,hwr]
    rw [zcE (body:=fun s:List zaa × Int=>zaQ ops got s.1 s.2) e]
    exact ih (q+1) _ (by omega) (zev hw (zoy hok))
   rw [if_neg h3]
   rw [if_neg (by simp [h2,h3])]at hgv
   have hb:zaQ ops got ws q=if(zcS ws got (ops[q]).fKey).2.2=true then(if zur ops[q] (zcS ws got (ops[q]).fKey).1 (zcS ws got (ops[q]).fKey).2.1=true then some (.inl (ws,((q+1:Nat):Int)))else some (.inr (some (2, [], []))))else some (.inr (some (1,(ops[q]).fKey, []))):=by
    unfold zaQ
    rw [if_pos (by simpa using hlt),zae hlt,Option.bind_some,zqf (by omega) (by omega),Option.bind_some]
    cases hs:(zcS ws got (ops[q]).fKey).2.2 with
    |false=>rw [if_pos (by simp [h2,h3]),if_neg (by simp)]
    |true=>
     rw [if_neg (by simp),if_pos rfl,hgv,Option.bind_some]
     have h4: ¬(ops[q]).fKind=4:=by rcases hok.kind with h|h|h|h<;>omega
     cases zur ops[q] (zcS ws got (ops[q]).fKey).1 (zcS ws got (ops[q]).fKey).2.1 with
     |false=>rfl
     |true=>rw [if_neg (by simp),if_neg (by simpa using h2),if_neg (by simpa using h3),if_neg (by simpa using h4),if_pos rfl,hwr]
   by_cases hs:(zcS ws got (ops[q]).fKey).2.2=true
   ·rw [if_pos hs]at hb ⊢
    by_cases hk:zur ops[q] (zcS ws got (ops[q]).fKey).1 (zcS ws got (ops[q]).fKey).2.1=true
    ·rw [if_pos hk]at hb ⊢
     rw [zcE (body:=fun s:List zaa × Int=>zaQ ops got s.1 s.2) hb]
     exact ih (q+1) _ (by omega) ⟨hw.rise,by omega,hw.good⟩
    ·rw [if_neg hk]at hb ⊢
     exact zb8 hb
   ·rw [if_neg hs]at hb ⊢
    exact zb8 hb
 exact key ops.length 0 [] (by omega) ⟨List.Pairwise.nil,Nat.le_refl _,by simp⟩
theorem zl2 {got:List zhb}: ∀(l:List DOp) {n:Nat} {ws:List zaa},(∀o∈l,OkO o)→zjj n ws→zjj (n+l.length) (zgt got l ws).2.2∧((zgt got l ws).1=1→ ∃o∈l,o.fKey=(zgt got l ws).2.1∧ ∀g∈got,g.fKey≠o.fKey)
 | [],n,ws,_,hw=>⟨hw,fun h=>by simp [zgt]at h⟩
 |o::l,n,ws,ho,hw=>by
  have hok:=ho o (by simp)
  have hl: ∀o∈l,OkO o:=fun x hx=>ho x (by simp [hx])
  have up: ∀{w:List zaa},zjj (n+l.length) w→zjj (n+(o::l).length) w:=fun h=>⟨h.rise,by have:=h.len;rw [List.length_cons];omega,h.good⟩
  rw [zgt]
  split
  ·obtain⟨a,b⟩:=zl2 (got:=got) l hl (zev hw (zqR hok))
   refine⟨⟨a.rise,by have:=a.len;rw [List.length_cons];omega,a.good⟩,fun h=> ?_⟩
   obtain⟨x,hx,h1,h2⟩:=b h
   exact⟨x,by simp [hx],h1,h2⟩
  ·split
   ·obtain⟨a,b⟩:=zl2 (got:=got) l hl (zev hw (zoy hok))
    refine⟨⟨a.rise,by have:=a.len;rw [List.length_cons];omega,a.good⟩,fun h=> ?_⟩
    obtain⟨x,hx,h1,h2⟩:=b h
    exact⟨x,by simp [hx],h1,h2⟩
   ·split
    ·split
     ·obtain⟨a,b⟩:=zl2 (got:=got) l hl hw
      refine⟨up a,fun h=> ?_⟩
      obtain⟨x,hx,h1,h2⟩:=b h
      exact⟨x,by simp [hx],h1,h2⟩
     ·exact⟨⟨List.Pairwise.nil,by simp,by simp⟩,fun h=>by simp at h⟩
    ·rename_i hs
     refine⟨⟨List.Pairwise.nil,by simp,by simp⟩,fun _=>⟨o,by simp,rfl,fun g hg e=> ?_⟩⟩
     apply hs
     unfold zcS
     cases e1:ws.find? (fun w=>w.fKey==o.fKey)with
     |some w=>rfl
     |none=>
      unfold zvc
      cases e2:got.find? (fun g=>g.fKey==o.fKey)with
      |some g=>rfl
      |none=>
       rw [List.find?_eq_none]at e2
       exact absurd (by simpa using e) (e2 g hg)
def mu (ops:List DOp) (got:List zhb):Nat:=(ops.filter fun o=>got.all fun g=>g.fKey !=o.fKey).length
theorem zD4 {ops:List DOp} {got:List zhb} {g:zhb} {o:DOp} (ho:o∈ops) (hk:o.fKey=g.fKey) (hn: ∀x∈got,x.fKey≠o.fKey):mu ops (got++ [g])<mu ops got:=by
 unfold mu
 have e:(fun o:DOp=>(got++ [g]).all fun x=>x.fKey !=o.fKey)=fun o=>(got.all fun x=>x.fKey !=o.fKey)&&(g.fKey !=o.fKey):=by
  funext x
  rw [List.all_append]
  simp
 have e2:ops.filter (fun o:DOp=>(got++ [g]).all fun x=>x.fKey !=o.fKey)=(ops.filter fun o=>got.all fun x=>x.fKey !=o.fKey).filter fun o=>g.fKey !=o.fKey:=by
  rw [e,List.filter_filter]
  congr 1
  funext x
  rw [Bool.and_comm]
 rw [e2]
 have hm:o∈ops.filter fun o=>got.all fun x=>x.fKey !=o.fKey:=List.mem_filter.2 ⟨ho,List.all_eq_true.2 fun x hx=>by simpa using hn x hx⟩
 generalize ops.filter (fun o=>got.all fun x=>x.fKey !=o.fKey)=l at hm
 have hlt: ∀(l:List DOp),o∈l→(l.filter fun o=>g.fKey !=o.fKey).length<l.length:=by
  intro l
  induction l with
  |nil=>intro h;simp at h
  |cons y l ih=>
   intro h
   rw [List.filter_cons]
   rcases List.mem_cons.1 h with rfl|h
   ·rw [if_neg (by simp [hk])]
    have:=List.length_filter_le (fun o:DOp=>g.fKey !=o.fKey) l
    rw [List.length_cons];omega
   ·have:=ih h
    split
    ·rw [List.length_cons,List.length_cons];omega
    ·rw [List.length_cons];omega
 exact hlt l hm
theorem zFs (ops:List DOp) (got:List zhb):mu ops got≤ops.length:=List.length_filter_le _ _
def zCe (rows:List zaa) (ops:List DOp):Nat→List zhb→List zaa × Bool
 |0,_=>([],false)
 |n+1,got=>if(zgt got ops []).1=1 then zCe rows ops n (got++ [zcR rows (zgt got ops []).2.1])else((zgt got ops []).2.2,(zgt got ops []).1==3)
structure zrb (rows:List zaa):Prop where
 rise:zgs rows
 len:rows.length≤24
 good: ∀w∈rows,zgd w=true
theorem zAB {rows:List zaa} {k:Str} (h:zrb rows):(zcR rows k).fVal.length≤2000∧(zcR rows k).fKey=k:=by
 unfold zcR
 cases e:rows.find? (fun w=>w.fKey==k)with
 |some w=>
  have:=znu (h.good w (List.mem_of_find?_eq_some e))
  exact⟨by show w.fVal.length≤2000;omega,rfl⟩
 |none=>exact⟨by simp,rfl⟩
theorem zwZ {rows:List zaa} {ops:List DOp} (hl:ops.length≤8) (ho: ∀o∈ops,OkO o) (hr:zrb rows): ∀(n:Nat) (got:List zhb),mu ops got<n→got.length+n≤1000→(∀g∈got,g.fVal.length≤2000)→
  (∃g,zau (fun s:List zhb=>zb6 rows ops s) got=some (g,zCe rows ops n got))∧(∃g,zau (fun s:List zhb=>zco rows ops s) got=some (g,zCe rows ops n got))∧zjj 8 (zCe rows ops n got).1
 |0,got,hm,_,_=>by omega
 |n+1,got,hm,hg,hv=>by
  have hi:=zC7 (got:=got) (by omega) ho (by omega) hv
  have hs:=zDl (got:=got) (by omega) ho (by omega) hv
  obtain⟨ga,gb⟩:=zl2 (got:=got) ops (n:=0) (ws:= []) ho ⟨List.Pairwise.nil,Nat.le_refl _,by simp⟩
  have hrl:=hr.len
  rw [zCe]
  generalize zgt got ops []=r at hi hs ga gb
  by_cases h1:r.1=1
  ·rw [if_pos h1]
   obtain⟨o,hom,hok,hon⟩:=gb h1
   obtain⟨t1,t2⟩:=zAB (k:=r.2.1) hr
   have hq:(((got).length:Int)+(([zcR rows r.2.1]:List zhb).length:Int))*40≤140737488355328∧((got).length:Int)+(([zcR rows r.2.1]:List zhb).length:Int)≤140737488355328:=by
    rw [List.length_singleton];omega
   have ei:zb6 rows ops got=some (.inl (got++ [zcR rows r.2.1])):=by
    unfold zb6
    rw [hi,Option.bind_some,if_neg (by simp [h1]),zAU (by omega) hr.rise,Option.bind_some,zak hq]
   have es:zco rows ops got=some (.inl (got++ [zcR rows r.2.1])):=by
    unfold zco
    rw [hs,Option.bind_some,if_neg (by simp [h1]),zCP (by omega),Option.bind_some,zak hq]
   rw [zcE (body:=fun s:List zhb=>zb6 rows ops s) ei,zcE (body:=fun s:List zhb=>zco rows ops s) es]
   refine zwZ hl ho hr n _ ?_ (by rw [List.length_append,List.length_singleton];omega) fun g hg'=> ?_
   ·have:=zD4 (g:=zcR rows r.2.1) hom (hok.trans t2.symm) hon
    omega
   ·rcases List.mem_append.1 hg' with h|h
    ·exact hv g h
    ·rw [List.mem_singleton]at h;subst h;exact t1
  ·rw [if_neg h1]
   refine⟨⟨got,zb8 ?_⟩,⟨got,zb8 ?_⟩,ga.rise,by have:=ga.len;show r.2.2.length≤8;omega,ga.good⟩
   ·show zb6 rows ops got=_
    unfold zb6
    rw [hi,Option.bind_some,if_pos (by simpa using h1)]
   ·show zco rows ops got=_
    unfold zco
    rw [hs,Option.bind_some,if_pos (by simpa using h1)]
def zlA (rows:List zaa) (ops:List DOp):List zaa × Bool:=zCe rows ops 9 []
theorem zvC {rows:List zaa} {ops:List DOp} (hl:ops.length≤8) (ho: ∀o∈ops,OkO o) (hr:zrb rows):(∃g,zjf rows ops=some (g,zlA rows ops))∧(∃g,zjI rows ops=some (g,zlA rows ops))∧zjj 8 (zlA rows ops).1:=by
 have:=zFs ops []
 exact zwZ hl ho hr 9 [] (by omega) (by simp) (by simp)
end Go.Proofs.YtgobcjbjogkpjaaGreatDoor
end
section
namespace Go.Proofs.YtgobcjbjogkpjaaGreatDoor
open Go.RowKit
set_option maxRecDepth 100000
theorem zq7 {s:Str} (h:field s=true):s.length≤3:=by
 unfold field at h
 simp only [Bool.and_eq_true]at h
 have:=zaE.1 h.1
 omega
theorem zwg {t:zab} {r:zcm} (h:zaq t r=true) (c:Int):(zfc r c).length≤3:=by
 unfold zaq at h
 simp only [Bool.and_eq_true]at h
 unfold zfc
 cases e:r.fVals[c.toNat]? with
 |none=>simp
 |some s=>exact zq7 (List.all_eq_true.1 h.2 s (List.mem_of_getElem? e))
theorem zp8 {k:Nat}: ∀{xs:List Str},(∀s∈xs,s.length≤k)→zeK xs≤k*xs.length
 | [],_=>by simp [zeK]
 |s::xs,h=>by
  have h1:=h s (by simp)
  have h2:=zp8 (k:=k) (xs:=xs) fun y hy=>h y (by simp [hy])
  simp only [zeK,List.length_cons,Nat.mul_add,Nat.mul_one]
  omega
theorem zBs {t:zab} {r:zcm} (hg:zag t=true) (h:zaq t r=true):(zeW t r).fKey.length≤5∧(zeW t r).fVal.length≤20:=by
 have hn:=zhw (zgQ hg)
 have hc:=zfV hg
 have hv:=zwg h 0
 have h':=h
 unfold zaq at h'
 simp only [Bool.and_eq_true,beq_iff_eq]at h'
 have hall: ∀s∈r.fVals,s.length≤3:=fun s hs=>zq7 (List.all_eq_true.1 h'.2 s hs)
 constructor
 ·unfold zeW
  have e:(r.fVals.head?).getD []=zfc r 0:=by unfold zfc;rw [List.head?_eq_getElem?];rfl
  simp only [e,List.length_append,List.length_singleton]
  omega
 ·have h1:=ztR r.fVals.tail [44]
  have h2:=zp8 (k:=3) (xs:=r.fVals.tail) fun s hs=>hall s (List.mem_of_mem_tail hs)
  have h3:r.fVals.tail.length≤3:=by rw [List.length_tail];omega
  rw [List.length_singleton]at h1
  show(Lib.join r.fVals.tail [44]).length≤20
  omega
theorem zAq {t:zab} {n:Str} {c:Int} {r:zcm} (hg:zag t=true) (hn:n.length=1) (h:zaq t r=true):(zej t n c r).length≤11:=by
 have h1:=zhw (zgQ hg)
 have h2:=zwg h c
 have h3:=zwg h 0
 unfold zej head
 simp only [List.length_append,List.length_singleton]
 omega
theorem zwX {α β:Type} {P:β→Prop} {f:α→List β}: ∀(xs:List α) (a:List β),(∀x∈xs,∀o∈f x,P o)→(∀o∈a,P o)→ ∀o∈xs.foldl (fun a x=>a++f x) a,P o
 | [],a,_,h=>h
 |x::xs,a,hf,h=>zwX xs (a++f x) (fun y hy=>hf y (by simp [hy])) fun o ho=>by
  rcases List.mem_append.1 ho with ho|ho
  ·exact h o ho
  ·exact hf x (by simp) o ho
theorem zu8 {α β:Type} {f:α→List β} (hf: ∀x,(f x).length≤2): ∀(xs:List α) (a:List β),(xs.foldl (fun a x=>a++f x) a).length≤a.length+2*xs.length
 | [],a=>by simp
 |x::xs,a=>by
  have h1:=zu8 hf xs (a++f x)
  have h2:=hf x
  rw [List.length_append]at h1
  rw [List.foldl_cons,List.length_cons]
  omega
def zCv (s:Str):Prop:= ∀b∈s,(zfy b||([46,47]:Str).contains b)=true
def zFM (s:Str):Prop:= ∀b∈s,(zfy b||([46,45,44,95]:Str).contains b)=true
theorem zzl {s:Str} (h:field s=true): ∀b∈s,zfy b=true:=by
 unfold field zja at h
 simp only [Bool.and_eq_true]at h
 intro b hb
 have:=List.all_eq_true.1 h.2 b hb
 simpa using this
theorem zhk {s:Str} {k:Int} (h:za5 s k=true): ∀b∈s,zfy b=true:=by
 unfold za5 at h
 simp only [Bool.and_eq_true]at h
 intro b hb
 have:=List.all_eq_true.1 h.1 b hb
 unfold small at this
 unfold zfy
 simp only [Bool.not_eq_true',Bool.or_eq_false_iff,decide_eq_false_iff_not]at this
 simp only [Bool.or_eq_true,Bool.and_eq_true,decide_eq_true_eq]
 left
 omega
theorem ziZ {s:Str} (h: ∀b∈s,zfy b=true):zCv s:=fun b hb=>by rw [h b hb];rfl
theorem zCv.app {s u:Str} (h:zCv s) (k:zCv u):zCv (s++u):=fun b hb=>by
 rcases List.mem_append.1 hb with hb|hb
 ·exact h b hb
 ·exact k b hb
theorem zFK:zCv [46]:=fun b hb=>by rw [List.mem_singleton]at hb;subst hb;decide
theorem zCU:zCv [47]:=fun b hb=>by rw [List.mem_singleton]at hb;subst hb;decide
theorem zr9 {s:Str} (h1:1≤s.length) (h2:s.length≤12) (h:zCv s):zch s=true:=by
 unfold zch zja
 rw [zaE.2 ⟨by omega,by omega⟩,List.all_eq_true.2 h]
 rfl
theorem zxv {s:Str} (h2:s.length≤24) (h:zFM s):zfG s=true:=by
 unfold zfG zja
 rw [show decide ((s.length:Int)≤24)=true by simp;omega,List.all_eq_true.2 h]
 rfl
theorem zBq {xs:List Str} (h: ∀x∈xs,∀b∈x,zfy b=true):zFM (Lib.join xs [44]):=by
 cases xs with
 |nil=>intro b hb;simp [Lib.join_nil]at hb
 |cons x r=>
  intro b hb
  rw [Lib.join_cons]at hb
  rcases List.mem_append.1 hb with hb|hb
  ·rw [h x (by simp) b hb];rfl
  ·unfold Lib.joinTail at hb
   obtain⟨l,hl,hbl⟩:=List.mem_flatten.1 hb
   obtain⟨y,hy,rfl⟩:=List.mem_map.1 hl
   rcases List.mem_append.1 hbl with hb|hb
   ·rw [List.mem_singleton]at hb;subst hb;decide
   ·rw [h y (by simp [hy]) b hb];rfl
theorem zor {t:zab} {r:zcm} (h:zaq t r=true): ∀x∈r.fVals,∀b∈x,zfy b=true:=by
 unfold zaq at h
 simp only [Bool.and_eq_true]at h
 exact fun x hx=>zzl (List.all_eq_true.1 h.2 x hx)
theorem zn9 {t:zab} {r:zcm} (h:zaq t r=true) (c:Int): ∀b∈zfc r c,zfy b=true:=by
 unfold zfc
 cases e:r.fVals[c.toNat]? with
 |none=>simp
 |some s=>exact zor h s (List.mem_of_getElem? e)
theorem zk9 {t:zab} {r:zcm} (hg:zag t=true) (h:zaq t r=true):zch (zeW t r).fKey=true∧zfG (zeW t r).fVal=true:=by
 have hl:=zBs hg h
 have e:(zeW t r).fKey=t.fName++ [47]++zfc r 0:=by
  unfold zeW zfc
  rw [List.head?_eq_getElem?]
  rfl
 refine⟨zr9 ?_ (by omega) ?_,zxv (by omega) ?_⟩
 ·rw [e];simp;omega
 ·rw [e]
  exact((ziZ (zhk (zgQ hg))).app zCU).app (ziZ (zn9 h 0))
 ·exact zBq fun x hx=>zor h x (List.mem_of_mem_tail hx)
theorem zl4 {t:zab} {n:Str} {c:Int} {r:zcm} (hg:zag t=true) (hn:za5 n 1=true) (h:zaq t r=true):zch (zej t n c r)=true:=by
 have hl:=zAq (c:=c) hg (zhw hn) h
 refine zr9 ?_ (by omega) ?_
 ·unfold zej;simp;omega
 ·unfold zej head
  exact((((((ziZ (zhk (zgQ hg))).app zFK).app (ziZ (zhk hn))).app zCU).app (ziZ (zn9 h c))).app zCU).app (ziZ (zn9 h 0))
end Go.Proofs.YtgobcjbjogkpjaaGreatDoor
end

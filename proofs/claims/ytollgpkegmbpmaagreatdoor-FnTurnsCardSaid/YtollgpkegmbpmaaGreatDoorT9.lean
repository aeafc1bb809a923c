/- Parts of a proof, joined: ND, NVG, NDA, NDB, NPW, NKT, PL. -/
import Derived.Test.YtollgpkegmbpmaaGreatDoorT8
import Derived.Lib.LaidTab
import Derived.LaidSub
set_option linter.unusedVariables false
set_option linter.unusedSimpArgs false
section
namespace Go.Proofs.YtollgpkegmbpmaaGreatDoor
open Go.RowKit
set_option maxRecDepth 100000
def BO {α:Type} (o:Option α) (Q:α→Prop):Prop:= ∃x,o=some x∧Q x
section
variable {α β σ:Type} {Q:β→Prop}
theorem BO.bind {o:Option α} {P:α→Prop} {f:α→Option β} (h:BO o P) (hf: ∀x,P x→BO (f x) Q):BO (o.bind f) Q:=by obtain⟨x,rfl,hx⟩:=h;exact hf x hx
theorem BO.ret {x:β} (h:Q x):BO (some x) Q:=⟨x,rfl,h⟩
theorem BO.ite {b:Bool} {A B:Option β} (ha:b=true→BO A Q) (hb:b=false→BO B Q):BO (if b=true then A else B) Q:=by
 cases b with
 |true=>simpa using ha rfl
 |false=>simpa using hb rfl
theorem BO.req {p:Prop} [Decidable p] {k:Option β} (hp:p) (hk:BO k Q):BO (req p k) Q:=by rw [B5 hp];exact hk
theorem BO.mono {o:Option β} {P:β→Prop} (h:BO o P) (iE: ∀x,P x→Q x):BO o Q:=by obtain⟨x,hx,h⟩:=h;exact⟨x,hx,iE x h⟩
theorem BO.getI {xs:List β} {i:Int} (h0:0≤i) (h:i<xs.length) (hq: ∀x,x∈xs→Q x):BO (getI xs i) Q:=by obtain⟨x,h1,h2,_⟩:=S3 h0 h;exact⟨x,h1,hq x h2⟩
theorem PF {body:σ→Option (σ ⊕ Option β)} (I:Nat→σ→Prop) (h: ∀n s,I n s→BO (body s) fun o=>match o with| .inl s'=> ∃m,m<n∧I m s'| .inr q=>BO q Q): ∀{n:Nat} {s:σ},I n s→BO (A5 body s) Q:=by
 intro n
 induction n using Nat.strongRecOn with
 |_ n ih=>
  intro s hI;obtain⟨o,ho,h2⟩:=h n s hI;rw [Ip,ho]
  match o,h2 with
  | .inl s',⟨m,hm,iC⟩=>exact ih m hm iC
  | .inr q,hq=>exact hq
end
structure D7 where
 ki:List Int→Prop
 lr: ∀l,ki l→ ∀b∈l,0≤b∧b≤255
instance codeBytes:Inhabited D7:=⟨⟨fun l=> ∀b∈l,0≤b∧b≤255,fun _ h=>h⟩⟩
def BJ [Inhabited D7] (c:AE) (k:Int):Prop:=(default:D7).ki c.ao∧0≤c.cf∧c.cf≤k
theorem BJ.up [Inhabited D7] {c:AE} {i j:Int} (h:BJ c i) (KT:i≤j):BJ c j:=⟨h.1,h.2.1,by have:=h.2.2;omega⟩
theorem BJ.start [Inhabited D7] {code:List Int} (h:(default:D7).ki code):BJ ⟨code,0,0⟩ 0:=⟨h,by simp,by simp⟩
theorem eT (a:Int):0≤IntKind.i64.wrap (IntKind.u64.wrap ((BitVec.ofInt (IntKind.bits .u64) a&&&BitVec.ofInt (IntKind.bits .u64) 255).toNat:Int))∧IntKind.i64.wrap (IntKind.u64.wrap ((BitVec.ofInt (IntKind.bits .u64) a&&&BitVec.ofInt (IntKind.bits .u64) 255).toNat:Int))≤255:=by
 have h:(BitVec.ofInt (IntKind.bits .u64) a&&&BitVec.ofInt (IntKind.bits .u64) 255).toNat≤255:=by rw [BitVec.toNat_and];exact Nat.le_trans Nat.and_le_right (by decide)
 generalize (BitVec.ofInt (IntKind.bits .u64) a&&&BitVec.ofInt (IntKind.bits .u64) 255).toNat=m at h ⊢;have e:IntKind.u64.wrap (m:Int)=m:=by simp [IntKind.wrap,IntKind.bits,IntKind.signed];omega
 rw [e,B0 (by omega) (by omega)];omega
theorem dY [Inhabited D7] {c:AE} {k:Int} (h:BJ c k) (hk:k≤4611686018427387904):BO (Pe c) fun p=>(0≤p.1∧p.1≤255)∧BJ p.2 (k+1):=by
 obtain⟨hb,h0,h1⟩:=h;have w:IntKind.i64.wrap (c.cf+1)=c.cf+1:=B0 (by omega) (by omega);unfold Pe;refine .ite (fun Am=> ?_) fun Am=> ?_
 ·simp only [decide_eq_true_eq]at Am;refine BO.bind (P:=fun y=>0≤y∧y≤255) (.getI h0 Am ((default:D7).lr _ hb)) fun y hy=> ?_;have wy:IntKind.i64.wrap y=y:=B0 (by omega) (by omega);refine .ite (fun _=> .ret ⟨by dsimp only;rw [wy];exact hy,hb,by dsimp only;omega,by dsimp only;omega⟩) fun _=> .ret ⟨eT _,hb,by dsimp only;omega,by dsimp only;omega⟩
 ·refine .ite (fun _=> .ret ⟨by simp,hb,by dsimp only;omega,by dsimp only;omega⟩) fun _=> .ret ⟨eT _,hb,by dsimp only;omega,by dsimp only;omega⟩
theorem HZ [Inhabited D7] {c:AE} {k:Int} (n:Int) (h:BJ c k) (hk:k≤4611686018427387000):BO (FT c n) fun p=>(0≤p.1∧(1≤n→p.1<n)∧p.1≤65535)∧BJ p.2 (k+2):=by
 have tm: ∀x:Int,0≤x→1<n→0≤x.tmod n∧x.tmod n<n∧x.tmod n≤x:=fun x hx hn=>by
  rw [Int.tmod_eq_emod_of_nonneg hx];exact⟨Int.emod_nonneg _ (by omega),Int.emod_lt_of_pos _ (by omega),by have:=Int.emod_add_mul_ediv x n;have h2:0≤n*(x/n):=Int.mul_nonneg (by omega) (Int.ediv_nonneg hx (by omega));omega⟩
 unfold FT;refine .ite (fun hn=> .ret ⟨⟨by simp,fun h1=>by dsimp only;omega,by simp⟩,h.up (by omega)⟩) fun hn=> ?_;simp only [decide_eq_false_iff_not]at hn;refine(dY h (by omega)).bind fun p ⟨hp,hc⟩=> ?_;refine .ite (fun _=> ?_) fun _=> ?_
 ·refine(dY hc (by omega)).bind fun q ⟨hq,hd⟩=> .req (by omega) (.ret ?_);have w1:IntKind.i64.wrap (p.1*256)=p.1*256:=B0 (by omega) (by omega);have w2:IntKind.i64.wrap (p.1*256+q.1)=p.1*256+q.1:=B0 (by omega) (by omega);have:=tm (p.1*256+q.1) (by omega) (by omega);dsimp only;rw [w1,w2];exact⟨⟨this.1,fun _=>this.2.1,by omega⟩,hd.up (by omega)⟩
 ·have:=tm p.1 hp.1 (by omega);exact .req (by omega) (.ret ⟨⟨this.1,fun _=>this.2.1,by dsimp only;omega⟩,hc.up (by omega)⟩)
theorem SH [Inhabited D7] {c:AE} {k:Int} (l:List Int) (hl:l≠ []) (h:BJ c k) (hk:k≤4611686018427387000):BO (Ln c l) fun p=>p.1∈l∧BJ p.2 (k+2):=by unfold Ln;have Hy:0<l.length:=List.length_pos_iff.2 hl;refine(HZ l.length h hk).bind fun p ⟨hp,hc⟩=> ?_;exact BO.bind (P:=fun y=>y∈l) (.getI hp.1 (hp.2.1 (by omega)) fun x hx=>hx) fun y hy=> .ret ⟨hy,hc⟩
theorem Nh [Inhabited D7] {c:AE} {k:Int} (n:Int) (h:BJ c k) (hk:k≤4611686018427387000):BO (I8 c n) fun p=>BJ p.2 (k+2):=by unfold I8;exact(HZ n h hk).bind fun p ⟨_,hc⟩=> .ret hc
structure LS (l:List Aq):Prop where
 len:l.length≤10
 each: ∀s∈l,s.length≤10
theorem LS.small {l:List Aq} (h:LS l):Small l:=⟨by have:=h.len;omega,by
 have h1:=aS h.each;have h2:=h.len;have h3:10*l.length≤100:=by omega
 omega⟩
theorem QA [Inhabited D7] {c:AE} {k:Int} (l:List Aq) (hl:l≠ []) (h:BJ c k) (hk:k≤4611686018427387000):BO (Kd c l) fun p=>p.1∈l∧BJ p.2 (k+2):=by unfold Kd;have Hy:0<l.length:=List.length_pos_iff.2 hl;refine(HZ l.length h hk).bind fun p ⟨hp,hc⟩=> ?_;exact BO.bind (P:=fun y=>y∈l) (.getI hp.1 (hp.2.1 (by omega)) fun x hx=>hx) fun y hy=> .ret ⟨hy,hc⟩
def Lk:List Aq:= [[105], [106], [109]]
structure fY (w:Int) (x:Dr):Prop where
 c1:1≤x.dh
 c2:x.dh≤w
 s0:0≤x.c8
 s3:x.c8≤3
structure TI (w:Int) (q:Nat) (l:List Dr):Prop where
 x: ∀x∈l,fY w x
 nm: ∀x∈l,x.ax∈Lk.take q
 up:l.Pairwise fun a b=>Op.bytesLess a.ax b.ax=true
 len:l.length≤q
theorem wY: ∀{q:Nat},q<3→ ∀a∈Lk.take q,Op.bytesLess a ((Lk[q]?).getD [])=true:=by
 intro q hq;have:q=0∨q=1∨q=2:=by omega
 rcases this with rfl|rfl|rfl<;>decide
theorem dU {q:Nat} {a:Aq} (h:a∈Lk.take q):a∈Lk.take (q+1):=by rw [List.take_add_one];exact Ag.2 (.inl h)
theorem TI.add {w:Int} {q:Nat} {l:List Dr} {x:Dr} (h:TI w q l) (hq:q<3) (hx:fY w x) (hn:x.ax=(Lk[q]?).getD []):TI w (q+1) (l++ [x]):=by
 refine⟨fun y hy=> ?_,fun y hy=> ?_, ?_, ?_⟩
 ·rcases Ag.1 hy with hy|hy
  ·exact h.x y hy
  ·rw [List.mem_singleton.1 hy];exact hx
 ·rcases Ag.1 hy with hy|hy
  ·exact dU (h.nm y hy)
  ·rw [List.mem_singleton.1 hy,hn,List.take_add_one];refine Ag.2 (.inr ?_);have:q<Lk.length:=hq;rw [List.getElem?_eq_getElem this];simp
 ·refine List.pairwise_append.2 ⟨h.up,List.pairwise_singleton _ _,fun a ha b hb=> ?_⟩;rw [List.mem_singleton.1 hb,hn];exact wY hq _ (h.nm a ha)
 ·have:=h.len;rw [AB,Bm];omega
theorem TI.more {w:Int} {q:Nat} {l:List Dr} (h:TI w q l):TI w (q+1) l:=⟨h.x,fun y hy=>dU (h.nm y hy),h.up,by have:=h.len;omega⟩
theorem LS.set {l:List Aq} {i:Nat} {s:Aq} (h:LS l) (hs:s.length≤10):LS (l.set i s):=⟨by rw [List.length_set];exact h.len,fun x hx=>by
 rcases List.mem_or_eq_of_mem_set hx with hx|rfl
 ·exact h.each x hx
 ·exact hs⟩
theorem B1.mono {n m:Nat} {l:List Aa} (h:B1 n l) (hm:n≤m):B1 m l:=⟨h.bk,by have:=h.len;omega,h.bm⟩
theorem wK [Inhabited D7] {c:AE} {k:Int} (h:BJ c k) (hk:k≤4611686018427387000):BO (RF c) fun p=>CJ p.1=true∧BJ p.2 (k+2):=by unfold RF;refine(QA _ (by simp) h (by omega)).bind fun p ⟨hp,hc⟩=> .ret ⟨?_,hc⟩;simp only [Ae,List.not_mem_nil,or_false]at hp;dsimp only;rcases hp with e|e|e|e|e|e|e|e<;>rw [e]<;>decide
theorem fC [Inhabited D7] {c:AE} {k:Int} (h:BJ c k) (hk:k≤4611686018427387000):BO (Pc c) fun p=>E9 p.1=true∧BJ p.2 (k+2):=by unfold Pc;refine(QA _ (by simp) h (by omega)).bind fun p ⟨hp,hc⟩=> .ret ⟨?_,hc⟩;simp only [Ae,List.not_mem_nil,or_false]at hp;dsimp only;rcases hp with e|e|e|e|e|e|e<;>rw [e]<;>decide
structure ID (n:Nat) (l:List Aa):Prop where
 ok:B1 n l
 live: ∀w∈l,w.ar=false
theorem ID.len {n:Nat} {l:List Aa} (h:ID n l):l.length≤n:=h.ok.len
theorem ID.bk {n:Nat} {l:List Aa} (h:ID n l):CS l:=h.ok.bk
theorem ID.bm {n:Nat} {l:List Aa} (h:ID n l): ∀w∈l,CF w=true:=h.ok.bm
theorem ID.mono {n m:Nat} {l:List Aa} (h:ID n l) (hm:n≤m):ID m l:=⟨h.ok.mono hm,h.live⟩
theorem Z2 {w y:Aa}: ∀{l:List Aa},y∈Br wk w l→y=w∨y∈l
 | [],h=> .inl (by simpa [Br]using h)
 |z::l,h=>by
  rw [Br]at h;split at h
  ·rcases Ae.1 h with h|h
   ·exact .inl h
   ·exact .inr h
  ·split at h
   ·rcases Ae.1 h with h|h
    ·exact .inl h
    ·exact .inr (by simp [h])
   ·rcases Ae.1 h with h|h
    ·exact .inr (by simp [h])
    ·rcases Z2 h with h|h
     ·exact .inl h
     ·exact .inr (by simp [h])
structure Qr (l:List Aa):Prop where
 len:l.length≤100
 each: ∀w∈l,XU w
theorem Qr.small {l:List Aa} (h:Qr l):EB l:=⟨by have:=h.len;omega,fun w hw=>by have:=h.each w hw;unfold XU at this;omega⟩
theorem ZV (w:Aa): ∀(l:List Aa),(Br wk w l).length≤l.length+1
 | []=>by simp [Br]
 |z::l=>by
  rw [Br];split
  ·simp
  ·split
   ·simp
   ·have:=ZV w l;simp only [AD];omega
theorem Qr.put {l:List Aa} {w:Aa} (h:Qr l) (hl:l.length≤99) (hw:XU w):Qr (Br wk w l):=⟨by have:=ZV w l;omega,fun y hy=>by
 rcases Z2 hy with rfl|hy
 ·exact hw
 ·exact h.each y hy⟩
structure fB (a:EA):Prop where
 old:LS a.db.bp
 new:LS a.dd.bp
theorem fB.small {a:EA} (h:fB a):wM a:=⟨h.old.small,h.new.small⟩
theorem Z4 {kd b:Int} {k v:Aq} (hk:CJ k=true) (hv:E9 v=true):HY ⟨kd,k,v,b⟩:=by have h1:=aR hk;have h2:=WA hv;exact⟨by show k.length≤2000000;omega,by show v.length≤2000000;omega⟩
theorem Pz {kd b:Int} {k:Aq} (hk:CJ k=true):HY ⟨kd,k, [],b⟩:=Z4 hk (by decide)
theorem eX [Inhabited D7] {c:AE} {k:Int} (h:BJ c k) (hk:k≤4611686018427387000-100):BO (Pd c) fun p=>(HY p.1∧CJ p.1.ab=true)∧BJ p.2 (k+6):=by
 have hj: ∀(v1:Int × AE) (v2:Aq × AE) (b:Bool),CJ v2.1=true→BJ v2.2 (k+4)→BO (Ro v1 v2 b) fun p=>(HY p.1∧CJ p.1.ab=true)∧BJ p.2 (k+6):=by
  intro v1 v2 b hg hc;unfold Ro;refine .ite (fun _=> ?_) fun _=> ?_
  ·refine(fC hc (by omega)).bind fun r ⟨hr,hd⟩=> .ret ⟨⟨Z4 hg hr,hg⟩,hd.up (by omega)⟩
  ·refine .ite (fun _=> .ite (fun _=> ?_) fun _=> .ret ⟨⟨Pz hg,hg⟩,hc.up (by omega)⟩) fun _=> .ite (fun _=> ?_) fun _=> .ret ⟨⟨Pz hg,hg⟩,hc.up (by omega)⟩
   ·exact(SH _ (by simp) hc (by omega)).bind fun r ⟨_,hd⟩=> .ret ⟨⟨Pz hg,hg⟩,hd.up (by omega)⟩
   ·exact(SH _ (by simp) hc (by omega)).bind fun r ⟨_,hd⟩=> .ret ⟨⟨Pz hg,hg⟩,hd.up (by omega)⟩
 unfold Pd;refine(HZ 7 h (by omega)).bind fun p ⟨hp,hc⟩=>(wK hc (by omega)).bind fun q ⟨hq,hd⟩=> ?_;exact .ite (fun _=>hj _ _ _ hq (hd.up (by omega))) fun _=>hj _ _ _ hq (hd.up (by omega))
def Gs (n:Nat) (l:List Ap):Prop:=l.length≤n∧ ∀o∈l,HY o
theorem Gs.add {n:Nat} {l:List Ap} {o:Ap} (h:Gs n l) (ho:HY o):Gs (n+1) (l++ [o]):=by
 refine⟨by have:=h.1;rw [AB,Bm];omega,fun x hx=> ?_⟩;rcases Ag.1 hx with hx|hx
 ·exact h.2 x hx
 ·rw [List.mem_singleton.1 hx];exact ho
theorem Gs.small {n:Nat} {l:List Ap} (h:Gs n l) (hn:n≤2000000):Io l:=⟨by have:=h.1;omega,h.2⟩
theorem Gs.set {n:Nat} {l:List Ap} {i:Nat} {o:Ap} (h:Gs n l) (ho:HY o):Gs n (l.set i o):=by
 refine⟨by rw [List.length_set];exact h.1,fun x hx=> ?_⟩;rcases List.mem_or_eq_of_mem_set hx with hx|hx
 ·exact h.2 x hx
 ·rw [hx];exact ho
theorem Tm {l:List Ap} {o:Ap} (h:l.length≤1000):(((l).length:Int)+(([o]:List Ap).length:Int))*48≤140737488355328∧((l).length:Int)+(([o]:List Ap).length:Int)≤140737488355328:=by rw [Bm];omega
theorem fF [Inhabited D7] {c:AE} {k:Int} (h:BJ c k) (hk:k≤4611686018427380000):BO (Pb c) fun p=>(Gs 4 p.1∧1≤p.1.length)∧BJ p.2 (k+100):=by
 unfold Pb;refine(HZ 4 h (by omega)).bind fun p ⟨hp,hc⟩=> ?_;have p2:=hp.2.1 (by omega);obtain⟨m,hm⟩:=Int.eq_ofNat_of_zero_le hp.1;have w0:IntKind.i64.wrap (1+p.1)=((m+1:Nat):Int):=by rw [B0 (by omega) (by omega)];omega
 rw [w0];refine PF (fun j s=> ∃q:Nat,q+j=m+1∧s.2.1=(j:Int)∧Gs q s.1∧q≤s.1.length∧BJ ⟨s.2.2.1,s.2.2.2.1,s.2.2.2.2⟩ (k+2+20*q)) (fun j s hI=> ?_) (n:=m+1) ⟨0,by omega,rfl,⟨by simp,by simp⟩,by simp,by simpa using hc⟩;obtain⟨l,s1,a,b,e⟩:=s;obtain⟨q,i0,i1,i2,i4,i3⟩:=hI;dsimp only at i1 i2 i3 i4 ⊢;subst i1;have hlen:=i2.1;unfold YS;refine .ite (fun Am=> ?_) fun IV=> ?_
 ·simp only [decide_eq_true_eq]at Am;have w1:IntKind.i64.wrap ((j:Int)-1)=((j-1:Nat):Int):=by rw [B0 (by omega) (by omega)];omega
  have fin: ∀(o:Ap) (d:AE),HY o→BJ d (k+2+20*q+20)→ ∃jj,jj<j∧ ∃q:Nat,q+jj=m+1∧(IntKind.i64.wrap ((j:Int)-1))=(jj:Int)∧Gs q (l++ [o])∧q≤(l++ [o]).length∧BJ ⟨d.ao,d.cf,d.aq⟩ (k+2+20*q):=by intro o d ho hd;refine⟨j-1,by omega,q+1,by omega,w1,i2.add ho, ?_,hd.up (by omega)⟩;rw [AB,Bm];omega
  refine(eX i3 (by omega)).bind fun v ⟨⟨hv,kM⟩,hd⟩=> .ite (fun _=>(Nh 3 hd (by omega)).bind fun w hw=> .ite (fun _=> ?_) fun _=> .req (Tm (by omega)) (.ret (fin v.1 w.2 hv (hw.up (by omega))))) fun _=> .ite (fun hf=>by cases hf) fun _=> .req (Tm (by omega)) (.ret (fin v.1 v.2 hv (hd.up (by omega))));exact(HZ 5 hw (by omega)).bind fun x ⟨_,hx⟩=> .req (Tm (by omega)) (.ret (fin _ x.2 (Pz kM) (hx.up (by omega))))
 ·simp only [decide_eq_false_iff_not]at IV;exact .ret (.ret ⟨⟨⟨by dsimp only;omega,i2.2⟩,by dsimp only;omega⟩,i3.up (by omega)⟩)
theorem sE [Inhabited D7] {c:AE} {k:Int} (h:BJ c k) (hk:k≤4611686018427370000):BO (Rn c) fun p=>Gs 9 p.1∧BJ p.2 (k+400):=by
 unfold Rn;refine(fF h (by omega)).bind fun v ⟨⟨hv,h1⟩,hc⟩=>(HZ _ hc (by omega)).bind fun p ⟨hp,hd⟩=>(HZ 25 hd (by omega)).bind fun r ⟨_,he⟩=> ?_;have p2:=hp.2.1 (by omega);obtain⟨x,ex,O3,_⟩:=S3 hp.1 p2;have hx:=hv.2 x O3;have Lf:Gs 9 v.1:=⟨by have:=hv.1;omega,hv.2⟩
 refine .ite (fun _=> ?_) fun _=> .ite (fun _=> ?_) fun _=> .ite (fun _=> ?_) fun _=> .ite (fun _=> ?_) fun _=> .ret ⟨Lf,he.up (by omega)⟩
 ·refine(SH _ (by simp) he (by omega)).bind fun y ⟨_,hf⟩=> ?_;rw [ex,Ab];exact .ret ⟨Lf.set hx,hf.up (by omega)⟩
 ·refine(SH _ (by simp) he (by omega)).bind fun y ⟨_,hf⟩=> ?_;rw [ex,Ab];exact .ret ⟨Lf.set hx,hf.up (by omega)⟩
 ·rw [ex,Ab];exact .ret ⟨Lf.set ⟨by simp,hx.2⟩,he.up (by omega)⟩
 ·refine PF (fun j s=> ∃q:Nat,q+j=20∧q≤s.2.2.2.length∧Gs 9 s.2.2.2∧BJ ⟨s.1,s.2.1,s.2.2.1⟩ (k+104+10*q)) (fun j s hI=> ?_) (n:=20) ⟨0,by omega,by simp,Lf,he.up (by omega)⟩;obtain⟨a,b,e,l⟩:=s;obtain⟨q,i0,i1,i2,i3⟩:=hI;dsimp only at i1 i2 i3 ⊢;have hlen:=i2.1;unfold YQ;refine(HZ 2 i3 (by omega)).bind fun y ⟨hy,hf⟩=> .ite (fun Am=> ?_) fun _=> .ret (.ret ⟨i2,hf.up (by omega)⟩);have y2:=hy.2.1 (by omega);have y0:=hy.1;simp only [decide_eq_true_eq]at Am;rw [B0 (by omega) (by omega)]at Am;refine(eX hf (by omega)).bind fun z ⟨⟨hz,_⟩,hg⟩=> .req (Tm (by omega)) (.ret ⟨j-1,by omega,q+1,by omega, ?_,⟨?_,(i2.add hz).2⟩,hg.up (by omega)⟩)
  ·show q+1≤(l++ [z.1]).length;rw [AB,Bm];omega
  ·show(l++ [z.1]).length≤9;rw [AB,Bm];omega
def EM (n:Nat) (l:List Aa):Prop:=l.length≤n∧ ∀w∈l,w.ab.length≤2000000∧w.al.length≤2000000
theorem EM.add {n:Nat} {l:List Aa} {o:Aa} (h:EM n l) (ho:o.ab.length≤2000000∧o.al.length≤2000000):EM (n+1) (l++ [o]):=by
 refine⟨by have:=h.1;rw [AB,Bm];omega,fun x hx=> ?_⟩;rcases Ag.1 hx with hx|hx
 ·exact h.2 x hx
 ·rw [List.mem_singleton.1 hx];exact ho
theorem EM.set {n:Nat} {l:List Aa} {i:Nat} {o:Aa} (h:EM n l) (ho:o.ab.length≤2000000∧o.al.length≤2000000):EM n (l.set i o):=by
 refine⟨by rw [List.length_set];exact h.1,fun x hx=> ?_⟩;rcases List.mem_or_eq_of_mem_set hx with hx|hx
 ·exact h.2 x hx
 ·rw [hx];exact ho
theorem EM.small {n:Nat} {l:List Aa} (h:EM n l) (hn:n≤2000000):EB l:=⟨by have:=h.1;omega,h.2⟩
theorem EM.up {n m:Nat} {l:List Aa} (h:EM n l) (hn:n≤m):EM m l:=⟨by have:=h.1;omega,h.2⟩
theorem fZ {l:List Aa} {o:Aa} (h:l.length≤1000):(((l).length:Int)+(([o]:List Aa).length:Int))*40≤140737488355328∧((l).length:Int)+(([o]:List Aa).length:Int)≤140737488355328:=by rw [Bm];omega
theorem Xe [Inhabited D7] {c:AE} {k:Int} (h:BJ c k) (hk:k≤4611686018427370000):BO (Mx c) fun p=>EM 6 p.1∧BJ p.2 (k+100):=by
 unfold Mx;refine PF (fun j s=> ∃q:Nat,s.2.1=(q:Int)∧q+j=6∧EM q s.1∧BJ ⟨s.2.2.1,s.2.2.2.1,s.2.2.2.2⟩ (k+10*q)) (fun j s hI=> ?_) (n:=6) ⟨0,rfl,by omega,⟨by simp,by simp⟩,by simpa using h⟩;obtain⟨l,s1,a,b,e⟩:=s;obtain⟨q,i1,i0,i2,i3⟩:=hI;dsimp only at i1 i2 i3 ⊢;subst i1;have hlen:=i2.1;unfold YW;refine .ite (fun Am=> ?_) fun IV=> ?_
 ·have hq:q<6:=by
   simp only [decide_eq_true_eq]at Am;have:(([([97]:Ah),([98]:Ah),([99]:Ah),([109]:Ah),([110]:Ah),([122]:Ah)].length:Int))=6:=rfl;omega
  have w1:IntKind.i64.wrap ((q:Int)+1)=((q+1:Nat):Int):=by rw [B0 (by omega) (by omega)];omega
  refine BO.bind (P:=fun y:Aq=>y.length≤10) (.getI (by omega) (by show(q:Int)<6;omega) (fun x hx=> ?_)) fun y hy=> ?_
  ·simp only [Ae,List.not_mem_nil,or_false]at hx;rcases hx with rfl|rfl|rfl|rfl|rfl|rfl<;>simp
  refine(Nh 3 i3 (by omega)).bind fun u hu=> .ite (fun _=> ?_) fun _=> .ret ⟨j-1,by omega,q+1,w1,by omega,i2.up (by omega),hu.up (by omega)⟩;refine(QA _ (by simp) hu (by omega)).bind fun v ⟨hv,hd⟩=> .req (fZ (by omega)) (.ret ⟨j-1,by omega,q+1,w1,by omega,i2.add ⟨by show y.length≤2000000;omega, ?_⟩,hd.up (by omega)⟩);show v.1.length≤2000000;simp only [Ae,List.not_mem_nil,or_false]at hv;rcases hv with e|e|e|e|e|e<;>rw [e]<;>simp
 ·refine .ret ?_;unfold YV;have i6:EM 6 l:=i2.up (by omega);refine .ite (fun Hy=> ?_) fun _=> .ite (fun hf=>by cases hf) fun _=> .ret ⟨i6,i3.up (by omega)⟩;simp only [decide_eq_true_eq]at Hy;refine(Nh 30 i3 (by omega)).bind fun v hv=> .ite (fun _=> ?_) fun _=> .ret ⟨i6,hv.up (by omega)⟩;obtain⟨x,ex,O3,_⟩:=S3 (xs:=l) (i:=0) (by omega) (by omega);rw [ex,Ab];exact .ret ⟨i6.set (i2.2 x O3),hv.up (by omega)⟩
theorem uR [Inhabited D7] {c:AE} {k:Int} {y:Aq} (hy:y.length≤2000000) (h:BJ c k) (hk:k≤4611686018427380000):BO (Rq c y) fun p=>(p.1.ab.length≤2000000∧p.1.al.length≤2000000)∧BJ p.2 (k+4):=by unfold Rq;refine(Nh 4 h (by omega)).bind fun p hp=> .ite (fun _=> .ret ⟨⟨hy,by simp⟩,hp.up (by omega)⟩) fun _=> ?_;refine(fC hp (by omega)).bind fun r ⟨hr,hd⟩=> .ret ⟨⟨hy, ?_⟩,hd.up (by omega)⟩;have:=WA hr;show r.1.length≤2000000;omega
theorem sU [Inhabited D7] {c:AE} {k:Int} (h:BJ c k) (hk:k≤4611686018427370000):BO (Rm c) fun p=>EM 8 p.1∧BJ p.2 (k+100):=by
 unfold Rm;refine PF (fun j s=> ∃q:Nat,s.2.1=(q:Int)∧q+j=8∧EM q s.1∧BJ ⟨s.2.2.1,s.2.2.2.1,s.2.2.2.2⟩ (k+10*q)) (fun j s hI=> ?_) (n:=8) ⟨0,rfl,by omega,⟨by simp,by simp⟩,by simpa using h⟩;obtain⟨l,s1,a,b,e⟩:=s;obtain⟨q,i1,i0,i2,i3⟩:=hI;dsimp only at i1 i2 i3 ⊢;subst i1;have hlen:=i2.1;unfold YP;refine .ite (fun Am=> ?_) fun IV=> .ret (.ret ⟨i2.up (by omega),i3.up (by omega)⟩);have hq:q<8:=by simp only [decide_eq_true_eq]at Am;have:(([([97]:Ah),([98]:Ah),([99]:Ah),([105,47,120,47,49]:Ah),([109]:Ah),([110]:Ah),([114,47,49]:Ah),([122]:Ah)].length:Int))=8:=rfl;omega
 have w1:IntKind.i64.wrap ((q:Int)+1)=((q+1:Nat):Int):=by rw [B0 (by omega) (by omega)];omega
 refine BO.bind (P:=fun y:Aq=>y.length≤10) (.getI (by omega) (by show(q:Int)<8;omega) (fun x hx=> ?_)) fun y hy=> ?_
 ·simp only [Ae,List.not_mem_nil,or_false]at hx;rcases hx with rfl|rfl|rfl|rfl|rfl|rfl|rfl|rfl<;>simp
 refine(Nh 4 i3 (by omega)).bind fun u hu=> .ite (fun _=> ?_) fun _=> .ret ⟨j-1,by omega,q+1,w1,by omega,i2.up (by omega),hu.up (by omega)⟩;exact(uR (y:=y) (by omega) hu (by omega)).bind fun v ⟨hv,hd⟩=> .req (fZ (by omega)) (.ret ⟨j-1,by omega,q+1,w1,by omega,i2.add hv,hd.up (by omega)⟩)
theorem pK [Inhabited D7] {c:AE} {k:Int} (h:BJ c k) (hk:k≤4611686018427360000):BO (Ru c) fun p=>EM 8 p.1∧BJ p.2 (k+200):=by
 unfold Ru;refine(sU h (by omega)).bind fun v ⟨hv,hc⟩=> .ite (fun Hy=> ?_) fun _=> .ret ⟨hv,hc.up (by omega)⟩;simp only [decide_eq_true_eq]at Hy;obtain⟨x,ex,O3,_⟩:=S3 (xs:=v.1) (i:=0) (by omega) (by omega);have hx:=hv.2 x O3;refine(HZ 25 hc (by omega)).bind fun p ⟨_,hd⟩=> .ite (fun _=> ?_) fun _=> .ite (fun _=> ?_) fun _=> .ite (fun _=> ?_) fun _=> .ret ⟨hv,hd.up (by omega)⟩
 ·refine(QA _ (by simp) hd (by omega)).bind fun y ⟨hy,he⟩=> ?_;rw [ex,Ab];refine .ret ⟨hv.set ⟨?_,hx.2⟩,he.up (by omega)⟩;simp only [Ae,List.not_mem_nil,or_false]at hy;show y.1.length≤2000000;rcases hy with e|e|e|e<;>rw [e]<;>simp
 ·refine(QA _ (by simp) hd (by omega)).bind fun y ⟨hy,he⟩=> ?_;rw [ex,Ab];refine .ret ⟨hv.set ⟨hx.1, ?_⟩,he.up (by omega)⟩;simp only [Ae,List.not_mem_nil,or_false]at hy;show y.1.length≤2000000;rcases hy with e|e<;>rw [e]<;>simp
 ·rw [ex,Ab];exact .ret ⟨hv.set hx,hd.up (by omega)⟩
theorem mG {code:List Int} (h: ∀b∈code,0≤b∧b≤255):BO (Rr code) fun p=>EB p.1∧p.2.length≤10∧ ∀ops∈p.2,Io ops:=by
 unfold Rr;refine(HZ 4 (c:=⟨code,0,0⟩) (BJ.start h) (by omega)).bind fun p ⟨hp,hc⟩=> ?_;have p2:=hp.2.1 (by omega);obtain⟨m,hm⟩:=Int.eq_ofNat_of_zero_le hp.1;refine PF (fun j s=> ∃q:Nat,q+j=m∧s.2.1=(j:Int)∧s.1.length=q∧(∀ops∈s.1,Io ops)∧BJ ⟨s.2.2.1,s.2.2.2.1,s.2.2.2.2⟩ (0+2+100*q)) (fun j s hI=> ?_) (n:=m) ⟨0,by omega,hm,rfl,by simp,by simpa using hc⟩;obtain⟨l,s1,a,b,e⟩:=s;obtain⟨q,i0,i1,i2,i4,i3⟩:=hI;dsimp only at i1 i2 i3 i4 ⊢;subst i1;have room: ∀x:List Ap,(((l).length:Int)+(([x]:List (List Ap)).length:Int))*24≤140737488355328∧((l).length:Int)+(([x]:List (List Ap)).length:Int)≤140737488355328:=by intro x;rw [Bm];omega
 have add: ∀x:List Ap,Io x→ ∀ops∈l++ [x],Io ops:=fun x hx ops ho=>by
  rcases Ag.1 ho with ho|ho
  ·exact i4 ops ho
  ·rw [List.mem_singleton.1 ho];exact hx
 unfold YU;refine .ite (fun Am=> ?_) fun IV=> .ret ?_
 ·simp only [decide_eq_true_eq]at Am;have w1:IntKind.i64.wrap ((j:Int)-1)=((j-1:Nat):Int):=by rw [B0 (by omega) (by omega)];omega
  exact(fF i3 (by omega)).bind fun v ⟨⟨hv,_⟩,hd⟩=> .req (room _) (.ret ⟨j-1,by omega,q+1,by omega,w1,by simp [i2],add _ (hv.small (by omega)),hd.up (by omega)⟩)
 ·unfold YT;refine(Nh 10 i3 (by omega)).bind fun v hv=> .ite (fun _=> ?_) fun _=> ?_
  ·exact(sE hv (by omega)).bind fun w ⟨hw,hd⟩=> .req (room _) ((Xe hd (by omega)).bind fun r ⟨hr,_⟩=> .ret ⟨hr.small (by omega),by simp;omega,add _ (hw.small (by omega))⟩)
  ·exact(Xe hv (by omega)).bind fun r ⟨hr,_⟩=> .ret ⟨hr.small (by omega),by dsimp only;omega,i4⟩
theorem mY {code:List Int} (h: ∀b∈code,0≤b∧b≤255):BO (RM code) fun p=>EB p.1∧EB p.2:=by unfold RM;exact(Xe (c:=⟨code,0,0⟩) (BJ.start h) (by omega)).bind fun v ⟨hv,hc⟩=>(pK hc (by omega)).bind fun w ⟨hw,_⟩=> .ret ⟨hv.small (by omega),hw.small (by omega)⟩
theorem SQ {l:List Aa} (h:l.length≤2000000):Ll l l=some true:=by
 unfold Ll;rw [if_neg (by simp),LM (xs:=l) (body:=fun s:Int=>My l l s) (fun _=>true) false (some true) (fun i hi=>by
  show My l l i=_;unfold My;rw [if_pos (by simpa using hi),By hi,Ab,Ab,C6 hi (by omega)];simp) (by
  show My l l l.length=_;unfold My;rw [if_neg (by simp)]),if_pos (AJ.2 fun _ _=>rfl)]
theorem oW {l:List Bool} (h:l.length≤2000000):RD l l=some true:=by
 unfold RD;rw [if_neg (by simp),LM (xs:=l) (body:=fun s:Int=>MF l l s) (fun _=>true) false (some true) (fun i hi=>by
  show MF l l i=_;unfold MF;rw [if_pos (by simpa using hi),By hi,Ab,Ab,C6 hi (by omega)];simp) (by
  show MF l l l.length=_;unfold MF;rw [if_neg (by simp)]),if_pos (AJ.2 fun _ _=>rfl)]
theorem WX: ∀{l:List (List Ap)} {rows:List Aa},(∀o∈l,E8 o=true)→CN rows=true→CN (CE l rows).1=true∧(CE l rows).2.length=l.length
 | [],rows,_,h=>⟨h,rfl⟩
 |o::l,rows,hl,h=>by obtain⟨a,b⟩:=WX (l:=l) (fun x hx=>hl x (by simp [hx])) (Sr (hl o (by simp)) h);exact⟨a,by simp [CE,b]⟩
theorem VV {l:List Aa} (h:CN l=true):l.length≤24:=(Gh h).1.len
theorem qY (rows:List Aa) (l:List (List Ap)):(Ir rows l).1.length≤24∧(Ir rows l).2.1.length≤20:=by
 unfold Ir;split
 ·rename_i h;obtain⟨a,b⟩:=WX (l:=l) (rows:=rows) (fun o ho=>AJ.1 h.2.2 o ho) h.1;exact⟨VV a,by rw [b];exact h.2.1⟩
 ·simp
theorem oX {rows:List Aa} {ops:List Ap} (hr:CN rows=true) (ho:Io ops) (hg:E8 ops=true):R1 rows ops=some ((DV rows ops).1,(DV rows ops).2.1,(DV rows ops).2.2,true):=by obtain⟨h8,K5⟩:=PH hg;obtain⟨hR,_⟩:=Gh hr;obtain⟨ei,_⟩:=PW h8 K5 hR;unfold R1;rw [Xh (ML (by have:=hR.len;omega) hR.bm),Ab,hr,if_pos rfl,aC ho,Ab,hg,if_neg (by simp),ei,Ab]
theorem cF {b:List Int} (hb: ∀x∈b,0≤x∧x≤255):RC b=some true:=by
 unfold RC;obtain⟨⟨p,w⟩,hd,hp,hw⟩:=mY hb;dsimp only at hp hw;rw [hd,Ab,XB hp hw,Ab,wF hp hw,Ab];have hl:(putV p w).1.length≤2000000:=by
  cases h:(putV p w).2 with
  |true=>have:=VV (bB h).1;omega
  |false=>
   unfold putV at h ⊢;split at h
   ·cases h
   ·rename_i hn;rw [if_neg hn];simp
 rw [if_neg (by simp),SQ hl,Ab,if_neg (by simp)];refine X0 (fun h=> ?_) fun _=>rfl;obtain⟨g1,g2,g3,e,g4⟩:=bB h;have hs:EB (putV p w).1:=by obtain⟨hR,_⟩:=Gh g1;exact ML (by omega) hR.bm
 have e2:putV (putV p w).1 w=((putV p w).1,true):=by
  have e3:BB (putV p w).1 w=(putV p w).1:=by rw [e];exact pI (Gh g3).1 (S6 g2)
  have hc:CN (putV p w).1=true∧Ez w=true∧(BB (putV p w).1 w).length≤24:=⟨g1,g2,by rw [e3,e];exact g4⟩
  generalize putV p w=q at e3 hc;unfold putV;rw [if_pos hc,e3]
 rw [XB hs hw,Ab,e2,if_pos rfl,SQ hl,Ab]
theorem uE (c b:List Int) (hc:Rg L7 c) (hb:Rg L7 b):RO c b=some true:=by
 unfold RO Wm;rw [Ab];refine X0 (fun _=>rfl) fun _=> ?_;obtain⟨⟨rows,l⟩,hd,hR,hL,hO⟩:=mG hc.2;dsimp only at hR hL hO;rw [hd,Ab,sM hR (by omega) hO,Ab,uB hR (by omega) hO,Ab];obtain⟨t1,t2⟩:=qY rows l;rw [if_neg (by simp),SQ (by omega),Ab,if_pos rfl,oW (by omega),Ab,if_neg (by simp)];refine X0 (fun h=> ?_) fun _=>cF hb.2;have At:CN rows=true∧l.length≤20∧l.all E8=true:=by
  unfold Ir at h;split at h
  ·assumption
  ·cases h
 have B2: ∀o∈l,E8 o=true:=fun o ho=>AJ.1 At.2.2 o ho;have eV:Ir rows l=((CE l rows).1,(CE l rows).2,true):=by unfold Ir;rw [if_pos At]
 rw [eV];have key: ∀(n q:Nat) (rs:List Aa),q+n=l.length→CN rs=true→(CE l rows).2.drop q=(CE (l.drop q) rs).2→(CE l rows).1=(CE (l.drop q) rs).1→
   A5 (fun s:List Aa × Int=>Lw b (rows,l) ((CE l rows).1,(CE l rows).2,true) s.1 s.2) (rs,(q:Int))=some true:=by
  intro n
  induction n with
  |zero=>intro q rs hq hg e1 e2;rw [List.drop_eq_nil_of_le (by omega),CE]at e2;refine Fl ?_;show Lw b (rows,l) _ rs q=_;unfold Lw Y7;rw [if_neg (by simp;omega)];dsimp only;rw [e2,SQ (by have:=VV hg;omega),Ab,if_neg (by simp),cF hb.2]
  |succ n ih=>
   intro q rs hq hg e1 e2;have Am:q<l.length:=by omega
   have CA:=B2 _ (List.getElem_mem Am);obtain⟨h8,K5⟩:=PH CA;obtain⟨TO,_⟩:=Gh hg;obtain⟨_,_,hw,_⟩:=PW h8 K5 TO;have KP:=oP (by omega) hw;have kH:EB (DV rs l[q]).2.1:=ML (by have:=hw.len;omega) hw.bm;have HC:EB rs:=ML (by have:=TO.len;omega) TO.bm;rw [List.drop_eq_getElem_cons Am,CE]at e1 e2;have hf:getI (CE l rows).2 (q:Int)=some (Jv rs l[q]):=by
    have hlen:q<(CE l rows).2.length:=by rw [(WX B2 At.1).2];exact Am
    rw [By hlen];have:=congrArg (·[0]?) e1;simpa [hlen]using this
   have eb:Lw b (rows,l) ((CE l rows).1,(CE l rows).2,true) rs q=some (.inl (Iy rs l[q],((q+1:Nat):Int))):=by
    unfold Lw;dsimp only;rw [if_pos (by simpa using Am),By Am,Ab,oX hg (hO _ (List.getElem_mem Am)) CA,Ab];dsimp only;rw [XB HC kH,Ab,if_pos rfl,hf,Ab,C6 Am (by omega)];unfold putV;rw [hg,KP];unfold Iy Jv;cases hd:(DV rs l[q]).2.2 with
    |false=>simp
    |true=>
     by_cases hn:(BB rs (DV rs l[q]).2.1).length≤24
     ·simp [hn]
     ·simp [hn]
   rw [Fk (body:=fun s:List Aa × Int=>Lw b (rows,l) ((CE l rows).1,(CE l rows).2,true) s.1 s.2) eb];refine ih (q+1) _ (by omega) (Sr CA hg) ?_ e2;have:=congrArg List.tail e1;simpa [List.tail_drop]using this
 exact key l.length 0 rows (by omega) At.1 rfl rfl
theorem o0 {H:Type} {enc:TypeId × Value→H} {P:Program} {w:World} {base:Nat} {sp:Nat→Bool} {held:Bool} {fuel:Nat} {t:TypeId} {cs:List Value} {n:String} {d:DataW H} {p:List MemPlace} {u:TypeDesc}
  (ht:P.underlying t=some u) (hu:(match u with| .interface _=>true|_=>false)=true) (h:DataW.trod enc P w base sp held fuel t cs=some (.iface n d,p)): ∃a v,cs= [.iface a v]:=by
 cases fuel with
 |zero=>simp [DataW.trod]at h
 |succ fuel=>
  cases u<;>first|(cases hu;done)|skip
  simp only [DataW.trod,ht]at h;split at h<;>first|(exact⟨_,_,rfl⟩)|(simp at h;done)|(simp_all;done)
noncomputable def fV (s:String):Bool:=match(Tryz.prog.globalNamed s).bind (fun g=>(Tryz.prog.globals[g]?).map (·.type))with
 |some t=>(match Tryz.prog.underlying t with|some (.interface _)=>true|_=>false)
 |none=>false
noncomputable def fJ (s:String):Bool:=match(Tryz.prog.globalNamed s).bind (fun g=>(Tryz.prog.globals[g]?).map (·.type))with
 |some t=>(match Tryz.prog.underlying t with
  |some (.array n e)=>(match Tryz.prog.underlying e with|some (.int .u64)=>true|_=>false)&&Tryz.prog.cellsOf e==1&&Tryz.prog.cellsOf t==n
  |_=>false)
 |none=>false
theorem dJ {s:String} {D:DataW Unit} {W:World} (h:laidMet Tryz.prog [(s,D)] W) (hc:fV s=true) (hd: ∃n d,D= .iface n d): ∃t p,W.var? Tryz.prog s=some #[.iface t p]:=by
 obtain⟨ps,⟨g,t,cs,fuel,p,q,hg,ht,O0,Q5,_,_⟩,_⟩:=h;obtain⟨n,d,rfl⟩:=hd;unfold fV at hc;rw [hg,Ab,ht]at hc;simp only at hc;cases hu:Tryz.prog.underlying t with
 |none=>rw [hu]at hc;cases hc
 |some u=>obtain⟨a,v,e⟩:=o0 hu (by rw [hu]at hc;cases u<;>first|rfl|cases hc) Q5;refine⟨a,v, ?_⟩;rw [O0];congr 1;apply Array.ext';rw [e]
theorem wJ {s:String} {W:World} (h:laidMet Tryz.prog [(s,Lib.tabData .u64 Lib.pow10Tab)] W) (hc:fJ s=true):Lib.TabIs Tryz.prog W s .u64 Lib.pow10Tab:=by
 have h0:=h;obtain⟨ps,⟨g,t,cs,fuel,p,q,hg,ht,O0,Q5,_,_⟩,_⟩:=h;unfold fJ at hc;rw [hg,Ab,ht]at hc;simp only at hc;split at hc
 ·rename_i n e hu;simp only [Ad,beq_iff_eq]at hc;obtain⟨⟨h1,h2⟩,h3⟩:=hc;split at h1
  ·rename_i he;exact Lib.tabIs_of_head hg ht hu he h2 h3 h0
  ·cases h1
 ·cases hc
theorem vH {laid:List (String × DataW Unit)} {D1 D2 D3:DataW Unit} {W:World} (h:laidMet Tryz.prog laid W)
  (e1:(laid.filter fun x=>x.1== "strconv.ErrSyntax")= [("strconv.ErrSyntax",D1)]) (i1: ∃n d,D1= .iface n d)
  (e2:(laid.filter fun x=>x.1== "strconv.ErrRange")= [("strconv.ErrRange",D2)]) (i2: ∃n d,D2= .iface n d)
  (e3:(laid.filter fun x=>x.1== "internal/strconv.uint64pow10")= [("internal/strconv.uint64pow10",D3)]) (i3:D3=Lib.tabData .u64 Lib.pow10Tab):Ey.n≤W.heap.size∧Ey.K W:=by
 have h1:=h.filter fun x=>x.1== "strconv.ErrSyntax"
 have h2:=h.filter fun x=>x.1== "strconv.ErrRange"
 have h3:=h.filter fun x=>x.1== "internal/strconv.uint64pow10"
 rw [e1]at h1;rw [e2]at h2;rw [e3,i3]at h3;have k:Vm W:=⟨dJ h1 (by kernel_rfl) i1,dJ h2 (by kernel_rfl) i2,(wJ h3 (by kernel_rfl)).trans (by kernel_rfl)⟩
 exact⟨wC k,k⟩
end Go.Proofs.YtollgpkegmbpmaaGreatDoor
end

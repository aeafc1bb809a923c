/- Parts of a proof, joined: QF4, QF5, QR, NA, NE, N5, PK, NK, NP, NF, NC, NGA, NX, N6, NSP, NSQ, NSR, NSS, NST, NKR, NSU, NSV, NSW. -/
import Derived.Test.YtalagilebkaegaaGreatK8
set_option linter.unusedVariables false
set_option linter.unusedSimpArgs false
namespace Go.Proofs.YtalagilebkaegaaGreat
section
open Go.RowKit
set_option maxRecDepth 100000
set_option maxHeartbeats 4000000
noncomputable def zoo:FS:=Ak 221 [.v (.st 0), .rf (.l .s), .rf (.i .i64)] (.v .b) (λx=>X3 x.1 x.2.1 x.2.2.1) [kM] []
noncomputable def znK:FS:=HY zoo λ_=>by kernel_rfl
noncomputable def zq4:FS:=Ak 160 [.v (.l .s), .v (.l (.st 0)), .v (.i .i64)] (.v (.l (.st 0))) (λx=>Yn x.1 x.2.1 x.2.2.1) [gC,zeC,znK] []
noncomputable def zf1:FS:=Ey 155 [.v (.l (.st 2))] (.v (.l (.st 2))) (λx=>fZ x.1) λx r hp h=>G0 (f:=155) (t:=Wi 24 3) (by kernel_rfl) (by kernel_rfl) (mT (bytes:=24) (sz:=3) (av:=(B1 C5.av (.st 2))) (λx=>⟨Np _ x,Ph (by kernel_rfl) x⟩) h)
noncomputable def uW:FS:=Ak 217 [.v (.st 9)] (.v (.st 1)) (λx=>RO x.1) [Uy,gC] []
noncomputable def zqH:FS:=Ak 156 [.v (.st 1)] (.v (.st 1)) (λx=>Yf x.1) [tX,uW] []
noncomputable def iP:FS:=Ak 92 [.v (.st 5)] (.v (.st 5)) (λx=>OY x.1) [tV,zf1,zqH] [.sp [.i .i64, .l (.st 1)]]
noncomputable def zq6:FS:=Ak 280 [.v (.l (.st 4)), .v (.l (.st 0)), .v (.i .i64)] (.tu (.cons (.v (.l (.st 4))) (.cons (.v .b) .nil))) (λx=>Yo x.1 x.2.1 x.2.2.1) [tV,tU,jT,jR,zfz] [.sp [.i .i64, .l (.st 4)], .inl]
noncomputable def zla:FS:=Ak 250 [.v (.st 5), .v (.st 9)] (.tu (.cons (.v (.st 5)) (.cons (.v .b) .nil))) (λx=>XK x.1 x.2.1) [iP,XA,zfP,Xy,zfA,zq6] [.pt, .inl]
noncomputable def zlS:FS:=Ak 283 [.v (.st 1), .rf (.st 1)] (.v .b) (λx=>XG x.1 x.2.1) [vG] []
noncomputable def zle:FS:=HY zlS λ_=>by kernel_rfl
noncomputable def zfV:FS:=Ey 284 [.v (.l (.st 1))] (.v (.l (.st 1))) (λx=>gA x.1) λx r hp h=>G0 (f:=284) (t:=oL 72 5) (by kernel_rfl) (by kernel_rfl) (zyu (bytes:=72) (sz:=5) (av:=(B1 C5.av (.st 1))) (λx=>Np _ x) h)
noncomputable def zne:FS:=Ak 251 [.v (.st 5), .v (.l .s), .v (.l (.st 0))] (.v .b) (λx=>XQ x.1 x.2.1 x.2.2.1) [tI,zle,zfV,tS] []
noncomputable def zlc:FS:=Ak 193 [.v (.st 5), .v (.st 9)] (.tu (.cons (.v (.st 5)) (.cons (.v .b) .nil))) (λx=>XL x.1 x.2.1) [iP,Xy,zla,XA,zne,uW,zfK] []
noncomputable def zpE:FS:=Ak 93 [.v (.st 6)] (.v (.st 6)) (λx=>Yu x.1) [Uy,gC] []
noncomputable def zqy:FS:=Ak 39 [.v (.st 7)] (.v (.st 7)) (λx=>Ye x.1) [Uy,zpE,iP] [.sp [.i .i64, .l (.st 5)], .sp [.i .i64, .l (.st 6)]]
noncomputable def XD:FS:=Ak 127 [.v (.st 7), .v (.i .i64), .v (.st 9)] (.tu (.cons (.v (.st 7)) (.cons (.v .b) .nil))) (λx=>OW x.1 x.2.1 x.2.2.1) [zlc,zqy] []
noncomputable def zly:FS:=Ak 96 [.v (.st 7), .v (.st 6), .v (.i .i64)] (.tu (.cons (.v (.st 7)) (.cons (.v .b) .nil))) (λx=>XI x.1 x.2.1 x.2.2.1) [XO,tM,Xy,zt3,zsp,zq4,XD] []
noncomputable def zms:FS:=Ak 97 [.v (.st 7), .v (.st 6), .v (.i .i64)] (.tu (.cons (.v (.st 7)) (.cons (.v .b) .nil))) (λx=>XR x.1 x.2.1 x.2.2.1) [uT,XO,XD,XA] [.sp [.i .i64, .i .i64]]
noncomputable def zmq:FS:=Ak 63 [.v (.st 7), .v (.st 6)] (.tu (.cons (.v (.st 7)) (.cons (.v .b) .nil))) (λx=>XU x.1 x.2.1) [XO,XD] []
noncomputable def zlF:FS:=Ak 64 [.v (.st 7), .v (.st 6), .v (.i .i64)] (.tu (.cons (.v (.st 7)) (.cons (.v .b) .nil))) (λx=>XH x.1 x.2.1 x.2.2.1) [XO,Xy,XD,tM] [.pt]
noncomputable def znt:FS:=Ak 40 [.v (.st 7), .v (.st 8)] (.tu (.cons (.v (.st 7)) (.cons (.v .b) .nil))) (λx=>X6 x.1 x.2.1) [tH,zlQ,zly,zms,zmq,zlF] []
noncomputable def zqZ:FS:=Ak 16 [.v (.st 7), .v (.st 8)] (.tu (.cons (.v (.st 7)) (.cons (.v .b) .nil))) (λx=>U3 x.1 x.2.1) [zrv,znt] []
noncomputable def iX:FS:=Ak 77 [.v (.l .s), .v (.l .s)] (.v .b) (λx=>Re x.1 x.2.1) [] [.sp [.i .i64]]
noncomputable def zvi:FS:=Ak 312 [.v (.st 3), .v (.st 3)] (.v .b) (λx=>Zd x.1 x.2.1) [] []
noncomputable def ztL:FS:=Ak 289 [.v (.l (.st 3)), .v (.l (.st 3))] (.v .b) (λx=>kD x.1 x.2.1) [zvi] [.sp [.i .i64]]
noncomputable def ztw:FS:=Ak 260 [.v (.st 4), .v (.st 4)] (.v .b) (λx=>Y4 x.1 x.2.1) [ztL] []
noncomputable def zr5:FS:=Ak 207 [.v (.l (.st 4)), .v (.l (.st 4))] (.v .b) (λx=>jI x.1 x.2.1) [ztw] [.sp [.i .i64]]
noncomputable def zss:FS:=Ak 263 [.v (.st 0), .v (.st 0)] (.v .b) (λx=>YK x.1 x.2.1) [] []
noncomputable def uF:FS:=Ak 210 [.v (.l (.st 0)), .v (.l (.st 0))] (.v .b) (λx=>Yd x.1 x.2.1) [zss] [.sp [.i .i64]]
noncomputable def zty:FS:=Ak 261 [.v (.st 1), .v (.st 1)] (.v .b) (λx=>Y2 x.1 x.2.1) [iX,uF] []
noncomputable def zrR:FS:=Ak 208 [.v (.l (.st 1)), .v (.l (.st 1))] (.v .b) (λx=>jN x.1 x.2.1) [zty] [.sp [.i .i64]]
noncomputable def ztd:FS:=Ak 262 [.v (.st 2), .v (.st 2)] (.v .b) (λx=>YW x.1 x.2.1) [] []
noncomputable def zse:FS:=Ak 209 [.v (.l (.st 2)), .v (.l (.st 2))] (.v .b) (λx=>jP x.1 x.2.1) [ztd] [.sp [.i .i64]]
noncomputable def zsn:FS:=Ak 138 [.v (.st 5), .v (.st 5)] (.v .b) (λx=>Yx x.1 x.2.1) [zr5,zrR,zse] []
noncomputable def zrp:FS:=Ak 78 [.v (.l (.st 5)), .v (.l (.st 5))] (.v .b) (λx=>iN x.1 x.2.1) [zsn] [.sp [.i .i64]]
noncomputable def zsm:FS:=Ak 139 [.v (.st 6), .v (.st 6)] (.v .b) (λx=>Yz x.1 x.2.1) [iX,uF] []
noncomputable def zqQ:FS:=Ak 79 [.v (.l (.st 6)), .v (.l (.st 6))] (.v .b) (λx=>jV x.1 x.2.1) [zsm] [.sp [.i .i64]]
noncomputable def zuB:FS:=Ak 28 [.v (.st 7), .v (.st 7)] (.v .b) (λx=>O5 x.1 x.2.1) [iX,zrp,zqQ] []
noncomputable def M7:FS:=Ak 140 [.v (.i .i64)] (.v .s) (λx=>Ho x.1) [] [.sp [.i .i64, .s]]
noncomputable def gJ:FS:=Ak 80 [.v (.l .s), .v (.i .i64)] (.tu (.cons (.v (.i .i64)) (.cons (.v (.l .s)) .nil))) (λx=>UD x.1 x.2.1) [M7] [.sp [.i .i64, .i .i64, .l .s]]
noncomputable def zru:FS:=Ak 211 [.v (.l (.st 3)), .v (.i .i64)] (.tu (.cons (.v (.i .i64)) (.cons (.v (.l (.st 3))) .nil))) (λx=>iL x.1 x.2.1) [M7] [.sp [.i .i64, .i .i64, .l (.st 3)]]
noncomputable def zpD:FS:=Ak 141 [.v (.l (.st 4)), .v (.i .i64)] (.tu (.cons (.v (.i .i64)) (.cons (.v (.l (.st 4))) .nil))) (λx=>iS x.1 x.2.1) [M7,zru] [.sp [.i .i64, .i .i64, .l (.st 4)]]
noncomputable def tZ:FS:=Ak 144 [.v (.l (.st 0)), .v (.i .i64)] (.tu (.cons (.v (.i .i64)) (.cons (.v (.l (.st 0))) .nil))) (λx=>XZ x.1 x.2.1) [M7] [.sp [.i .i64, .i .i64, .l (.st 0)]]
noncomputable def zpt:FS:=Ak 142 [.v (.l (.st 1)), .v (.i .i64)] (.tu (.cons (.v (.i .i64)) (.cons (.v (.l (.st 1))) .nil))) (λx=>iV x.1 x.2.1) [gJ,tZ] [.sp [.i .i64, .i .i64, .l (.st 1)]]
noncomputable def zpJ:FS:=Ak 143 [.v (.l (.st 2)), .v (.i .i64)] (.tu (.cons (.v (.i .i64)) (.cons (.v (.l (.st 2))) .nil))) (λx=>jC x.1 x.2.1) [] [.sp [.i .i64, .i .i64, .l (.st 2)]]
noncomputable def zoz:FS:=Ak 81 [.v (.l (.st 5)), .v (.i .i64)] (.tu (.cons (.v (.i .i64)) (.cons (.v (.l (.st 5))) .nil))) (λx=>gY x.1 x.2.1) [zpD,zpt,zpJ] [.sp [.i .i64, .i .i64, .l (.st 5)]]
noncomputable def zoL:FS:=Ak 82 [.v (.l (.st 6)), .v (.i .i64)] (.tu (.cons (.v (.i .i64)) (.cons (.v (.l (.st 6))) .nil))) (λx=>iE x.1 x.2.1) [gJ,tZ] [.sp [.i .i64, .i .i64, .l (.st 6)]]
noncomputable def zrk:FS:=Ak 29 [.v (.st 7), .v (.i .i64)] (.tu (.cons (.v (.i .i64)) (.cons (.v (.st 7)) .nil))) (λx=>U6 x.1 x.2.1) [gJ,zoz,zoL] []
noncomputable def gO:FS:=Ak 83 [.v (.l .s), .v (.i .i64)] (.v (.i .i64)) (λx=>UC x.1 x.2.1) [M7] [.sp [.i .i64, .i .i64]]
noncomputable def zqj:FS:=Ak 212 [.v (.l (.st 3)), .v (.i .i64)] (.v (.i .i64)) (λx=>iK x.1 x.2.1) [M7] [.sp [.i .i64, .i .i64]]
noncomputable def zpA:FS:=Ak 145 [.v (.l (.st 4)), .v (.i .i64)] (.v (.i .i64)) (λx=>iY x.1 x.2.1) [M7,zqj] [.sp [.i .i64, .i .i64]]
noncomputable def uA:FS:=Ak 148 [.v (.l (.st 0)), .v (.i .i64)] (.v (.i .i64)) (λx=>X5 x.1 x.2.1) [M7] [.sp [.i .i64, .i .i64]]
noncomputable def zpB:FS:=Ak 146 [.v (.l (.st 1)), .v (.i .i64)] (.v (.i .i64)) (λx=>iU x.1 x.2.1) [gO,uA] [.sp [.i .i64, .i .i64]]
noncomputable def zpH:FS:=Ak 147 [.v (.l (.st 2)), .v (.i .i64)] (.v (.i .i64)) (λx=>iZ x.1 x.2.1) [] [.sp [.i .i64, .i .i64]]
noncomputable def zoq:FS:=Ak 84 [.v (.l (.st 5)), .v (.i .i64)] (.v (.i .i64)) (λx=>hY x.1 x.2.1) [zpA,zpB,zpH] [.sp [.i .i64, .i .i64]]
noncomputable def zos:FS:=Ak 85 [.v (.l (.st 6)), .v (.i .i64)] (.v (.i .i64)) (λx=>iC x.1 x.2.1) [gO,uA] [.sp [.i .i64, .i .i64]]
noncomputable def zqT:FS:=Ak 30 [.v (.st 7), .v (.i .i64)] (.v (.i .i64)) (λx=>U7 x.1 x.2.1) [gO,zoq,zos] []
noncomputable def tO:FS:=Ak 5 [.v (.st 7), .v (.st 8)] (.v .b) (λx=>XE x.1 x.2.1) [ztV,zuA,zpN,zrg,zqZ,zuB,zrk,zqT] []
theorem zli(a0:Az)(a1:Ea)(r:Bool)(h:XE a0 a1=some r):Cl Tryz.prog B3 5 [eU a0,mV a1] (.bool r):=tO.ok (a0,a1,()) r (by simp[tO,Ak,IU,Us]) h
theorem AP{α:Type}{xs:List α}{i:Nat}(h:i<xs.length):An xs (i:Int)=some xs[i]:=by simp[An,h]
theorem zEu{α:Type}{xs:List α}{i:Int}(h0:0<=i)(h:i<xs.length):∃x,An xs i=some x/\x∈xs/\xs[i.toNat]?=some x:=by
 have hi:i.toNat<xs.length:=by omega
 exact⟨xs[i.toNat],by simp[An,h0,hi],AF hi,by simp[hi]⟩
theorem zCN{α:Type}{xs:List α}{i:Int}{x:α}(h:An xs i=some x):x∈xs:=by obtain⟨h1,h2,h3⟩:=Xa h;exact List.mem_of_getElem? h3
theorem FV{q n:Nat}(h:q<n)(hn:n<=9223372036854775807):IntKind.i64.wrap ((q:Int)+1)=((q+1:Nat):Int):=by rw[CM (by omega) (by omega)];simp
theorem Ba{α:Type}{p:Prop}{k:Option α}(h:p):AL p k=k:=by simp[AL,h]
def GH{α σ β:Type}(step:α->σ->Option (σ ⊕ Option β))(fin:σ->Option β):List α->σ->Option β
 | [],s=>fin s
 |x::xs,s=>match step x s with
  |none=>none
  |some (.inl s')=>GH step fin xs s'
  |some (.inr o)=>o
def PL{σ τ β:Type}(f:σ->τ):Option (σ ⊕ Option β)->Option (τ ⊕ Option β)
 |none=>none
 |some (.inl s)=>some (.inl (f s))
 |some (.inr o)=>some (.inr o)
theorem zz5{α σ τ β:Type}{xs:List α}{body:τ->Option (τ ⊕ Option β)}(emb:Int->σ->τ)(step:α->σ->Option (σ ⊕ Option β))(fin:σ->Option β)(q0:Nat)
  (hs:∀(i:Nat) (hi:i<xs.length) (s:σ),q0<=i->body (emb i s)=PL (emb ((i+1:Nat):Int)) (step xs[i] s)) (he:∀s,body (emb xs.length s)=some (.inr (fin s))) (s:σ) (h0:q0<=xs.length):Av body (emb q0 s)=GH step fin (xs.drop q0) s:=by
 have key:∀(n q:Nat) (s:σ),q0<=q->q+n=xs.length->Av body (emb q s)=GH step fin (xs.drop q) s:=by
  intro n
  induction n with
  |zero=>
   intro q s _ hq;have:q=xs.length:=by omega
   subst this;rw[D3,he s];simp[GH]
  |succ n ih=>
   intro q s h0 hq;have AG:q<xs.length:=by omega
   rw[D3,hs q AG s h0,Bv AG];rcases Em:step xs[q] s with _|s'|o
   ·simp[GH,Em,PL]
   ·simp only[GH,Em,PL];exact ih (q+1) s' (by omega) (by omega)
   ·simp[GH,Em,PL]
 exact key (xs.length-q0) q0 s (AI _) (by omega)
theorem Vv{α σ τ β:Type}{xs:List α}{body:τ->Option (τ ⊕ Option β)}(emb:Int->σ->τ)(step:α->σ->Option (σ ⊕ Option β))(fin:σ->Option β)
  (hs:∀(i:Nat) (hi:i<xs.length) (s:σ),body (emb i s)=PL (emb ((i+1:Nat):Int)) (step xs[i] s)) (he:∀s,body (emb xs.length s)=some (.inr (fin s))) (s:σ):Av body (emb 0 s)=GH step fin xs s:=by
 have:=zz5 emb step fin 0 (λi hi s _=>hs i hi s) he s (by omega);simpa using this
theorem zy5{α σ β:Type}{step:α->σ->Option (σ ⊕ Option β)}{fin:σ->Option β}{xs:List α}(p:α->Bool)(b:β)(h:∀x∈xs,∀s,step x s=some (if p x=true then .inl s else .inr (some b)))(s:σ):GH step fin xs s=if xs.all p=true then fin s else some b:=by
 induction xs with
 |nil=>simp[GH]
 |cons x xs ih=>
  simp only[GH,h x (by simp) s];cases hp:p x with
  |true=>simp[hp,ih λy hy=>h y (by simp[hy])]
  |false=>simp[hp]
theorem zBo{α σ β:Type}{step:α->σ->Option (σ ⊕ Option β)}{fin:σ->Option β}{xs:List α}(f:σ->α->σ)(I:σ->Prop)(hI:∀x∈xs,∀s,I s->I (f s x))(h:∀x∈xs,∀s,I s->step x s=some (.inl (f s x))){s:σ}(hs:I s):GH step fin xs s=fin (xs.foldl f s):=by
 induction xs generalizing s with
 |nil=>simp[GH]
 |cons x xs ih=>simp only[GH,h x (by simp) s hs,List.foldl_cons];exact ih (λy hy=>hI y (by simp[hy])) (λy hy=>h y (by simp[hy])) (hI x (by simp) s hs)
theorem FC{α σ τ β:Type}{xs:List α}{body:τ->Option (τ ⊕ Option β)}(emb:Int->σ->τ)(f:σ->α->σ)(fin:σ->Option β)(I:Nat->σ->Prop)
  (hs:∀(i:Nat) (hi:i<xs.length) (s:σ),I i s->body (emb i s)=some (.inl (emb ((i+1:Nat):Int) (f s xs[i])))/\I (i+1) (f s xs[i])) (he:∀s,I xs.length s->body (emb xs.length s)=some (.inr (fin s))) {s:σ} (h0:I 0 s):Av body (emb 0 s)=fin (xs.foldl f s)/\I xs.length (xs.foldl f s):=by
 have key:∀(n q:Nat) (s:σ),q+n=xs.length->I q s->Av body (emb q s)=fin ((xs.drop q).foldl f s)/\I xs.length ((xs.drop q).foldl f s):=by
  intro n
  induction n with
  |zero=>
   intro q s hq hI;have:q=xs.length:=by omega
   subst this;rw[D3,he s hI];simp[hI]
  |succ n ih=>
   intro q s hq hI;have AG:q<xs.length:=by omega
   obtain⟨h1,h2⟩:=hs q AG s hI;rw[D3,h1,Bv AG,List.foldl_cons];exact ih (q+1) _ (by omega) h2
 have:=key xs.length 0 s (by omega) h0;simpa using this
theorem LY{α:Type}{xs:List α}{p:α->Option Bool}(q:α->Bool)(hp:∀x∈xs,p x=some (q x))(hn:xs.length<=9223372036854775806):E0 xs p=some (xs.any q):=by
 have key:∀(l:List α) (i:Int),0<=i->(∀x∈l,p x=some (q x))-> ∃r,Fe p l i=some r/\decide (r>=0)=l.any q:=by
  intro l
  induction l with
  |nil=>intro i _ _;exact⟨-1,rfl,by simp⟩
  |cons x l ih=>
   intro i hi h;simp only[Fe,h x (by simp),Aa];cases hq:q x with
   |true=>exact⟨i,by simp,by simp[hq,hi]⟩
   |false=>obtain⟨r,h1,h2⟩:=ih (i+1) (by omega) λy hy=>h y (by simp[hy]);exact⟨r,by simp[h1],by simp[hq,h2]⟩
 obtain⟨r,h1,h2⟩:=key xs 0 (by omega) hp;simp[E0,Gu,Ba hn,h1,h2]
theorem Jf{α:Type}{b:Nat}{xs:List α}(h:(xs.length:Int)*b<=140737488355328)(h2:(xs.length:Int)<=140737488355328):Pr b xs=some xs:=Ba ⟨h,h2⟩
theorem Kd{β:Type}{n:Nat}{body:Int->Option (Int ⊕ Option β)}(p:Nat->Bool)(b:β)(fin:Option β)
  (hs:∀i:Nat,i<n->body i=some (if p i=true then .inl ((i+1:Nat):Int)else .inr (some b))) (he:body n=some (.inr fin)):Av body 0=if(List.range n).all p=true then fin else some b:=by
 have h1:=Vv (xs:=List.range n) (body:=body) (λi (_:Unit)=>i) (λi _=>some (if p i=true then .inl ()else .inr (some b))) (λ_=>fin)
  (λi hi s=>by rw[List.length_range]at hi;rw[hs i hi,List.getElem_range];cases p i<;>simp[PL]) (λs=>by simpa using he) ()
 rw[zy5 p b λx _ s=>rfl]at h1;exact h1
def CT{α:Type}(p:α->Bool)(l:List α):Int:=match l.findIdx? p with|some i=>(i:Int)|none=> -1
theorem Z0{α:Type}(p:α->Bool):CT p []= -1:=rfl
theorem ZA{α:Type}(p:α->Bool)(x:α)(l:List α):CT p (x::l)=if p x=true then 0 else if CT p l= -1 then-1 else CT p l+1:=by
 unfold CT;rw[List.findIdx?_cons];cases p x with
 |true=>simp
 |false=>
  cases h:l.findIdx? p with
  |none=>simp
  |some i=>simp<;>omega
theorem Pv{α:Type}(p:α->Bool)(l:List α): -1<=CT p l:=by unfold CT;split<;>omega
theorem nR{α:Type}(p:α->Bool)(l:List α):decide (CT p l>=0)=l.any p:=by
 induction l with
 |nil=>simp[Z0]
 |cons x l ih=>
  have h1:=Pv p l;rw[ZA,List.any_cons,<-ih];cases p x with
  |true=>simp
  |false=>
   by_cases h:CT p l= -1
   ·simp[h]
   ·have:CT p l>=0:=by omega
    simp[h,this];try omega
theorem nM{α:Type}{p:α->Bool}{l:List α}(h:CT p l>=0):∃x,An l (CT p l)=some x/\p x=true/\x∈l:=by
 induction l with
 |nil=>simp[Z0]at h
 |cons y l ih=>
  rw[ZA]at h ⊢;cases hy:p y with
  |true=>exact⟨y,by simp[An],hy,by simp⟩
  |false=>
   have h1:=Pv p l;by_cases hm:CT p l= -1
   ·rw[hy,hm]at h;simp at h
   ·have h0:CT p l>=0:=by omega
    obtain⟨x,e1,e2,e3⟩:=ih h0;obtain⟨_,e4,e5⟩:=Xa e1;refine⟨x,?_,e2,by simp[e3]⟩;simp only[AW,if_false,hm];unfold An;rw[if_pos (by omega),show(CT p l+1).toNat=(CT p l).toNat+1 by omega];simpa using e5
theorem ZV{α:Type}{xs:List α}{body:Int->Option (Int ⊕ Option Int)}(p:α->Bool)(hs:∀(i:Nat) (hi:i<xs.length),body i=some (if p xs[i]=true then .inr (some (i:Int))else .inl ((i+1:Nat):Int)))(he:body xs.length=some (.inr (some (-1)))):Av body 0=some (CT p xs):=by
 have key:∀(n q:Nat),q+n=xs.length->Av body q=some (if CT p (xs.drop q)= -1 then-1 else q+CT p (xs.drop q)):=by
  intro n
  induction n with
  |zero=>
   intro q hq;have:q=xs.length:=by omega
   subst this;rw[D3,he];simp[Z0]
  |succ n ih=>
   intro q hq;have AG:q<xs.length:=by omega
   rw[D3,hs q AG,Bv AG,ZA];cases p xs[q]with
   |true=>simp
   |false=>
    simp only[AW,if_false];rw[ih (q+1) (by omega)];have h1:=Pv p (xs.drop (q+1));congr 1;by_cases hm:CT p (xs.drop (q+1))= -1
    ·simp[hm]
    ·have h2: ¬(CT p (xs.drop (q+1))+1= -1):=by omega
     simp only[hm,if_false,h2];omega
 have h:=key xs.length 0 (by omega);rw[List.drop_zero]at h;rw[show((0:Nat):Int)=0 from rfl]at h;rw[h];have h1:=Pv p xs;by_cases hm:CT p xs= -1
 ·simp[hm]
 ·simp[hm]
theorem zv5{α:Type}{xs:List α}{p:α->Option Bool}(q:α->Bool)(hp:∀x∈xs,p x=some (q x))(hn:xs.length<=9223372036854775806):Gu xs p=some (CT q xs):=by
 have key:∀(l:List α) (i:Int),(∀x∈l,p x=some (q x))->Fe p l i=some (if CT q l= -1 then-1 else i+CT q l):=by
  intro l
  induction l with
  |nil=>intro i _;simp[Fe,Z0]
  |cons x l ih=>
   intro i h;simp only[Fe,h x (by simp),Aa,ZA];cases q x with
   |true=>simp
   |false=>
    simp only[AW,if_false];rw[ih (i+1) λy hy=>h y (by simp[hy])];have h1:=Pv q l;congr 1;by_cases hm:CT q l= -1
    ·simp[hm]
    ·have h2: ¬(CT q l+1= -1):=by omega
     simp only[hm,if_false,h2];omega
 unfold Gu;rw[Ba hn,key xs 0 hp];by_cases hm:CT q xs= -1
 ·simp[hm]
 ·simp[hm]
theorem Z6{α β:Type}{o:Option α}{x:α}{f:α->Option β}(h:o=some x):o.bind f=f x:=by rw[h];rfl
theorem foldl_map{α β:Type}(f:α->β)(l:List α)(o:List β):l.foldl (λo x=>o++ [f x]) o=o++l.map f:=by
 induction l generalizing o with
 |nil=>simp
 |cons x l ih=>rw[List.foldl_cons,ih];simp
theorem sL{α:Type}{xs:List α}{d:α}{body:Int × List α->Option ((Int × List α) ⊕ Option (List α))}
  (hs:∀(i:Nat) (hi:i<xs.length) (v:List α),v.length=xs.length->body ((i:Int),v)=some (.inl (((i+1:Nat):Int),v.set i xs[i])))
  (he:∀v,body ((xs.length:Int),v)=some (.inr (some v))):Av body (0,List.replicate xs.length d)=some xs:=by
 have h1:=FC (xs:=xs) (body:=body) (λi (o:List α)=>(i,o++List.replicate (xs.length-i.toNat) d)) (λ(o:List α) x=>o++ [x]) (λo=>some o) (λi o=>o.length=i)
  (λi hi o ho=>by
   refine⟨?_,by simp[ho]⟩;rw[show((i:Int)).toNat=i from rfl,hs i hi _ (by simp[ho];omega)];congr 3;obtain⟨k,hk⟩:∃k,xs.length-i=k+1:=⟨xs.length-i-1,by omega⟩
   have h2:xs.length-(((i+1:Nat):Int)).toNat=k:=by rw[show(((i+1:Nat):Int)).toNat=i+1 from rfl];omega
   rw[h2,hk,List.replicate_succ];subst ho;simp[List.set_append])
  (λo ho=>by show body ((xs.length:Int),o++List.replicate (xs.length-((xs.length:Int)).toNat) d)=_;rw[show((xs.length:Int)).toNat=xs.length from rfl,Nat.sub_self,List.replicate_zero,AE];exact he o) (s:=([]:List α)) rfl
 have h3:=h1.1;rw[show(λ(o:List α) x=>o++ [x])=(λo x=>o++ [id x])from rfl,foldl_map,List.map_id,List.nil_append]at h3;exact h3
theorem sQ{n:Nat}{body:Int->Option (Int ⊕ Option Bool)}(hs:∀i:Nat,i<n->body i=some (.inl ((i+1:Nat):Int)))(he:body n=some (.inr (some true))):Av body 0=some true:=by have h:=Kd (n:=n) (body:=body) (λ_=>true) false (some true) (λi hi=>by rw[hs i hi,if_pos rfl]) he;rw[h,if_pos (by simp)]
theorem Nn{a:Int}{n:Nat}(h0:0<=a)(h1:a<=1048576)(hn:n<=9223372036854775807):IntKind.i64.wrap (a-(n:Int))=a-n:=CM (by omega) (by omega)
abbrev Ap:=Ag
def BH(a b c:Int):Bool:=decide (a>=b)&&decide (a<=c)
theorem Fm{a b c:Int}:BH a b c=true↔b<=a/\a<=c:=by simp[BH]
@[simp] theorem Nw(a b c:Int):IG a b c=some (BH a b c):=rfl
@[simp] theorem Pn(a b c:Int):LH a b c=some (BH a b c):=rfl
def Kk(b:UInt8):Bool:=(decide ((b.toNat:Int)>=97)&&decide ((b.toNat:Int)<=122))||(decide ((b.toNat:Int)>=48)&&decide ((b.toNat:Int)<=57))
def Sl(s more:Ap):Bool:=s.all λb=>Kk b||more.contains b
theorem zGa{a b:UInt8}:((a.toNat:Int)==(b.toNat:Int))=(a==b):=by
 rw[Bool.eq_iff_iff];simp only[AK];constructor
 ·intro h;exact UInt8.toNat_inj.1 (by omega)
 ·rintro rfl;rfl
theorem xS{α:Type}(xs:List α)(p:α->Bool)(q:Nat->Bool)(h:∀(i:Nat) (hi:i<xs.length),q i=p xs[i]):(List.range xs.length).all q=xs.all p:=by
 rw[Bool.eq_iff_iff];simp only[Bj,List.mem_range];constructor
 ·intro hq x hx;obtain⟨i,hi,rfl⟩:=List.getElem_of_mem hx;rw[<-h i hi];exact hq i hi
 ·intro hp i hi;rw[h i hi];exact hp _ (AF hi)
theorem yQ{α β:Type}{xs:List α}{body:Int->Option (Int ⊕ Option β)}(p:α->Bool)(b:β)(fin:Option β)
  (hs:∀(i:Nat) (hi:i<xs.length),body i=some (if p xs[i]=true then .inl ((i+1:Nat):Int)else .inr (some b))) (he:body xs.length=some (.inr fin)):Av body 0=if xs.all p=true then fin else some b:=by
 rw[Kd (n:=xs.length) (λi=>match xs[i]? with|some x=>p x|none=>true) b fin (λi hi=>by rw[hs i hi];simp[hi]) he,
  xS xs p _ λi hi=>by simp[hi]]
theorem yF{s more:Ap}(h1:s.length<=2000000)(h2:more.length<=2000000):U0 s more=some (Sl s more):=by
 unfold U0;rw[yQ (xs:=s) (λb=>Kk b||more.contains b) false (some true) ?_ (by simp[iD])]
 ·unfold Sl;cases(s.all λb=>Kk b||more.contains b)<;>rfl
 ·intro i hi;have Cd:Av (λt:Bool × Int=>UU more i s[i] t.1 t.2) (Kk s[i],0)=some (if(Kk s[i]||more.contains s[i])=true then .inl ((i+1:Nat):Int)else .inr (some false)):=by
   have hl:=Vv (xs:=more) (body:=λt:Bool × Int=>UU more i s[i] t.1 t.2) (λk (ok:Bool)=>(ok,k)) (λb ok=>some (.inl (ok||s[i]==b))) (λok=>hP i ok)
    (λk hk ok=>by simp only[UU,Int.ofNat_lt,hk,decide_true,if_true,AP hk,Aa,FV hk (by omega:more.length<=_),zGa,PL];cases ok<;>simp) (λok=>by simp[UU]) (Kk s[i])
   rw[zBo (λok b=>ok||s[i]==b) (λ_=>True) (λ_ _ _ _=>trivial) (λ_ _ _ _=>rfl) trivial]at hl;have hf:∀(l:Ap) (ok:Bool),l.foldl (λok b=>ok||s[i]==b) ok=(ok||l.contains s[i]):=by
    intro l
    induction l with
    |nil=>intro ok;simp
    |cons c l ih=>intro ok;rw[List.foldl_cons,ih,List.contains_cons,Bool.or_assoc]
   rw[hl,hf];unfold hP;rw[FV hi (by omega)];cases(Kk s[i]||more.contains s[i])<;>rfl
  simp only[iD,Int.ofNat_lt,hi,decide_true,if_true,AP hi,Aa];exact Cd
theorem ztJ(l:Ap)(c:UInt8):decide (Lib.indexByte l c<0)= !l.contains c:=by
 induction l with
 |nil=>rfl
 |cons b l ih=>
  unfold Lib.indexByte;have P3:=Lib.indexByte_ge l c;rw[List.contains_cons];by_cases hb:b=c
  ·subst hb;simp
  ·have h1:(b==c)=false:=by simpa using hb
   have h2:(c==b)=false:=by simpa using λh=>hb h.symm
   rw[h1,h2];simp only[AW,if_false,Bool.false_or];rw[<-ih];by_cases hm:Lib.indexByte l c= -1
   ·simp[hm]
   ·have h3:(Lib.indexByte l c== -1)=false:=by simpa using hm
    rw[h3];simp only[AW,if_false];rw[decide_eq_decide];omega
theorem wR{s more:Ap}(h1:s.length<=2000000):U5 s more=some (Sl s more):=by
 unfold U5;rw[yQ (xs:=s) (λb=>Kk b||more.contains b) false (some true) ?_ (by simp[gK])]
 ·unfold Sl;cases(s.all λb=>Kk b||more.contains b)<;>rfl
 ·intro i hi;have hu:((s[i].toNat:Int)).toNat.toUInt8=s[i]:=by simp
  simp only[gK,Int.ofNat_lt,hi,decide_true,if_true,AP hi,Aa,gI,gS,Xw,hu,ztJ,FV hi (by omega:s.length<=_)];rw[show((decide ((s[i].toNat:Int)>=97)&&decide ((s[i].toNat:Int)<=122))||(decide ((s[i].toNat:Int)>=48)&&decide ((s[i].toNat:Int)<=57)))=Kk s[i]from rfl];cases Kk s[i]<;>cases more.contains s[i]<;>rfl
def Dg(s:Ap):Bool:=BH s.length 1 12&&Sl s [46,47]
def Px(s:Ap):Bool:=decide ((s.length:Int)<=24)&&Sl s [46,45,44,95]
theorem SJ{s:Ap}(h:s.length<=2000000):Pd s=some (Dg s):=by simp only[Pd,Nw,Aa,yF h (more:=[46,47]) (by decide),Dg];cases BH s.length 1 12<;>simp
theorem zFw{s:Ap}(h:s.length<=2000000):YH s=some (Dg s):=by simp only[YH,Pn,Aa,wR h,Dg];cases BH s.length 1 12<;>simp
theorem zFH{s:Ap}(h:s.length<=2000000):Za s=some (Px s):=by simp only[Za,Aa,yF h (more:=[46,45,44,95]) (by decide),Px];by_cases hl:(s.length:Int)<=24<;>simp[hl]
theorem zEW{s:Ap}(h:s.length<=2000000):YF s=some (Px s):=by simp only[YF,Aa,wR h,Px];by_cases hl:(s.length:Int)<=24<;>simp[hl]
def F2(v:Ap)(HD:Bool):Bool:=Px v&&(!HD||v==[])
theorem mG{v:Ap}{HD:Bool}(h:v.length<=2000000):U2 v HD=some (F2 v HD):=by simp only[U2,zEW h,Aa,F2,bne];cases Px v<;>cases HD<;>cases(v==[])<;>rfl
theorem n7{k v:Ap}{HD:Bool}(hk:k.length<=2000000)(hv:v.length<=2000000):UW k v HD=some (Dg k&&F2 v HD):=by simp only[UW,SJ hk,zFH hv,Aa,F2];cases Dg k<;>simp
def Ht(ks:List Ap)(i:Nat):Bool:=i==0||Op.bytesLess ((ks[i-1]?).getD []) ((ks[i]?).getD [])
def NF(ks:List Ap):Bool:=(List.range ks.length).all (Ht ks)
theorem VM:∀(a b:Ap),(Op.bytesLess a b||a==b)= !Op.bytesLess b a
 | [],[]=>rfl
 | [],_::_=>rfl
 |_::_,[]=>rfl
 |x::a,y::b=>by
  have ih:=VM a b;simp only[Op.bytesLess];rcases Nat.lt_trichotomy x.toNat y.toNat with h|h|h
  ·have h1:x<y:=UInt8.lt_iff_toNat_lt.2 h;have h2: ¬y<x:=λh'=>by have:=UInt8.lt_iff_toNat_lt.1 h';omega
   have h3: ¬y=x:=λh'=>by subst h';omega
   simp[h1,h2,h3]
  ·have h0:x=y:=UInt8.toNat_inj.1 h;subst h0;have h1: ¬x<x:=λh'=>by have:=UInt8.lt_iff_toNat_lt.1 h';omega
   rw[show((x::a)==(x::b))=(a==b) by simp];simp only[h1,decide_false,Bool.false_or,beq_self_eq_true,Bool.true_and];exact ih
  ·have h1: ¬x<y:=λh'=>by have:=UInt8.lt_iff_toNat_lt.1 h';omega
   have h2:y<x:=UInt8.lt_iff_toNat_lt.2 h;have h3: ¬x=y:=λh'=>by subst h';omega
   simp[h1,h2,h3]
theorem Ps{i:Nat}(h0:0<i)(h:i<=2000000):IntKind.i64.wrap ((i:Int)-1)=((i-1:Nat):Int):=by rw[CM (by omega) (by omega)];omega
theorem oN{α:Type}(xs:List α)(p:α->Bool)(q r:Nat->Bool)(h:∀(i:Nat) (hi:i<xs.length),r i=(p xs[i]&&q i)):(List.range xs.length).all r=(xs.all p&&(List.range xs.length).all q):=by
 rw[<-xS xs p (λi=>match xs[i]? with|some x=>p x|none=>true) λi hi=>by simp[hi]];rw[Bool.eq_iff_iff];simp only[Ab,Bj,List.mem_range];constructor
 ·intro hr;exact⟨λi hi=>by have:=hr i hi;rw[h i hi,Ab]at this;simpa[hi]using this.1,λi hi=>by have:=hr i hi;rw[h i hi,Ab]at this;exact this.2⟩
 ·rintro⟨h1,h2⟩ i hi;rw[h i hi,Ab];exact⟨by have:=h1 i hi;simpa[hi]using this,h2 i hi⟩
theorem lG{ks:List Ap}(h:ks.length<=2000000)(hk:∀k∈ks,k.length<=2000000):M4 ks=some (ks.all Dg&&NF ks):=by
 unfold M4 NF;rw[Kd (n:=ks.length) (λi=>Dg ((ks[i]?).getD [])&&Ht ks i) false (some true) ?_ (by simp[gR]),oN ks Dg (Ht ks) _ λi hi=>by simp[hi]]
 ·cases(ks.all Dg&&(List.range ks.length).all (Ht ks))<;>rfl
 ·intro i hi;simp only[gR,Int.ofNat_lt,hi,decide_true,if_true,AP hi,Aa,zFw (hk _ (AF hi)),FV hi (by omega:ks.length<=_),Bg hi,Df,Ht];by_cases h0:i=0
  ·subst h0;cases Dg ks[0]<;>simp
  ·have hp:(i:Int)>0:=by omega
   have JE:i-1<ks.length:=by omega
   have hb:(i==0)=false:=by simpa using h0
   simp only[hp,decide_true,if_true,Ps (Nat.pos_of_ne_zero h0) (by omega:i<=2000000),AP JE,Aa,VM,Bg JE,Df,hb,Bool.false_or];cases Dg ks[i]<;>cases Op.bytesLess ks[i-1] ks[i]<;>rfl
theorem wJ{l:List Am}(h:l.length<=2000000):UN l=some (l.map (·.ah)):=by
 have h1:=FC (xs:=l) (body:=λs:Int × List Ap=>Q7 l s.1 s.2) (λi (o:List Ap)=>(i,o)) (λo w=>o++ [w.ah]) (λo=>some o) (λq o=>o.length=q)
  (λi hi o hI=>by
   refine⟨?_,by simp[hI]⟩;show Q7 l i o=_;unfold Q7;have hr:((o.length:Int)+(([l[i].ah]:List Ap).length:Int))*16<=140737488355328/\(o.length:Int)+(([l[i].ah]:List Ap).length:Int)<=140737488355328:=by rw[Bk,hI];omega
   rw[if_pos (by simpa using hi),AP hi,Aa,Ba hr,FV hi (by omega)]) (λo _=>by
   show Q7 l l.length o=_;unfold Q7;rw[if_neg (by simp)]) (s:=[]) rfl
 have hf:∀(l:List Am) (o:List Ap),l.foldl (λo w=>o++ [w.ah]) o=o++l.map (·.ah):=by
  intro l
  induction l with
  |nil=>intro o;simp
  |cons w l ih=>intro o;rw[List.foldl_cons,ih];simp
 have h2:=h1.1;rw[hf,List.nil_append]at h2;unfold UN;exact h2
def KY(w:Am):Bool:=Dg w.ah&&F2 w.bg w.bf
def Hp(l:List Am):Bool:=decide ((l.length:Int)<=24)&&(l.all KY&&NF (l.map (·.ah)))
def V6(l:List Am):Prop:=l.length<=2000000/\ ∀w∈l,w.ah.length<=2000000/\w.bg.length<=2000000
theorem zAx{l:List Am}(h:V6 l):Ya l=some (Hp l):=by
 have e1:E0 l (λy0_=>XM y0_)=some (l.any λw=> !F2 w.bg w.bf):=LY _ (λw hw=>by simp[XM,mG (h.2 w hw).2]) (by have:=h.1;omega);have e2:=lG (ks:=l.map (·.ah)) (by simpa using h.1) (by simp only[List.mem_map];rintro k ⟨w,hw,rfl⟩;exact(h.2 w hw).1);simp only[Ya,wJ h.1,e1,e2,Aa,Hp,<-List.not_all_eq_any_not];have e3:l.all KY=((l.map (·.ah)).all Dg&&l.all λw=>F2 w.bg w.bf):=by
  rw[Bool.eq_iff_iff];simp only[Bj,Ab,KY,List.mem_map];constructor
  ·intro h;exact⟨by rintro k ⟨w,hw,rfl⟩;exact(h w hw).1,λw hw=>(h w hw).2⟩
  ·rintro⟨h1,h2⟩ w hw;exact⟨h1 _ ⟨w,hw,rfl⟩,h2 w hw⟩
 rw[e3];generalize (l.map (·.ah)).all Dg=b1;generalize NF (l.map (·.ah))=b2;generalize (l.all λw=>F2 w.bg w.bf)=b3;by_cases hl:(l.length:Int)<=24<;>cases b1<;>cases b2<;>cases b3<;>simp[hl]
theorem zAM{l:List Am}(h:V6 l):Yj l=some (Hp l):=by
 unfold Yj;have hn:=h.1;rw[Kd (n:=l.length) (λi=>KY ((l[i]?).getD ⟨[],[],false⟩)&&Ht (l.map (·.ah)) i) false (gW l) ?_ (by simp[iA]),oN l KY (Ht (l.map (·.ah))) _ λi hi=>by simp[hi]]
 ·unfold gW Hp NF;rw[List.length_map];cases(l.all KY&&(List.range l.length).all (Ht (l.map (·.ah))))<;>simp
 ·intro i hi;have hm:=h.2 _ (AF hi);simp only[iA,Int.ofNat_lt,hi,decide_true,if_true,AP hi,Aa,n7 hm.1 hm.2,FV hi (by omega:l.length<=_),Bg hi,Df,Ht,List.getElem?_map,Option.map_some];rw[show(Dg l[i].ah&&F2 l[i].bg l[i].bf)=KY l[i]from rfl];by_cases h0:i=0
  ·subst h0;cases KY l[0]<;>simp
  ·have hp:(i:Int)>0:=by omega
   have JE:i-1<l.length:=by omega
   have hb:(i==0)=false:=by simpa using h0
   simp only[hp,decide_true,if_true,Ps (Nat.pos_of_ne_zero h0) (by omega:i<=2000000),AP JE,Aa,Bg JE,Option.map_some,Df,hb,Bool.false_or];cases KY l[i]<;>cases Op.bytesLess l[i-1].ah l[i].ah<;>rfl
abbrev bl(a b:Ag):Bool:=Op.bytesLess a b
theorem Kc:∀a:Ag,bl a a=false
 | []=>rfl
 |x::a=>by
  have h: ¬x<x:=λh=>by have:=UInt8.lt_iff_toNat_lt.1 h;omega
  show Op.bytesLess (x::a) (x::a)=false;simp only[Op.bytesLess,h,decide_false,Bool.false_or,beq_self_eq_true,Bool.true_and];exact Kc a
theorem aF(x y:UInt8)(a b:Ag):bl (x::a) (y::b)=true↔x.toNat<y.toNat\/x=y/\bl a b=true:=by show Op.bytesLess (x::a) (y::b)=true↔_;simp only[Op.bytesLess,Bool.or_eq_true,AR,Ab,AK,UInt8.lt_iff_toNat_lt]
theorem FT:∀{a b c:Ag},bl a b=true->bl b c=true->bl a c=true
 | [],_,[],_,h=>by rename_i b _;cases b<;>cases h
 | [],_,_::_,_,_=>rfl
 |_::_,[],_,h,_=>by cases h
 |_::_,_::_,[],_,h=>by cases h
 |x::a,y::b,z::c,h1,h2=>by
  rw[aF]at*;rcases h1 with h1|⟨rfl,h1⟩<;>rcases h2 with h2|⟨rfl,h2⟩
  ·exact .inl (by omega)
  ·exact .inl h1
  ·exact .inl h2
  ·exact .inr ⟨rfl,FT h1 h2⟩
theorem Wk:∀a b:Ag,bl a b=true\/a=b\/bl b a=true
 | [],[]=> .inr (.inl rfl)
 | [],_::_=> .inl rfl
 |_::_,[]=> .inr (.inr rfl)
 |x::a,y::b=>by
  rw[aF,aF];rcases Nat.lt_trichotomy x.toNat y.toNat with h|h|h
  ·exact .inl (.inl h)
  ·have h0:x=y:=UInt8.toNat_inj.1 h;subst h0;rcases Wk a b with h1|h1|h1
   ·exact .inl (.inr ⟨rfl,h1⟩)
   ·exact .inr (.inl (by rw[h1]))
   ·exact .inr (.inr (.inr ⟨rfl,h1⟩))
  ·exact .inr (.inr (.inl h))
theorem Nh{a b:Ag}(h:bl a b=true):bl b a=false:=by
 cases h2:bl b a with
 |false=>rfl
 |true=>have:=FT h h2;rw[Kc]at this;cases this
theorem Ic{a b:Ag}(h:bl a b=true):a≠b:=by rintro rfl;rw[Kc]at h;cases h
theorem R4{a b:Ag}(h:bl a b=false)(hn:a≠b):bl b a=true:=by
 rcases Wk a b with h1|h1|h1
 ·rw[h]at h1;cases h1
 ·exact absurd h1 hn
 ·exact h1
section
variable {α:Type} (key:α->Ag)
def DO(l:List α):Prop:=l.Pairwise λa b=>bl (key a) (key b)=true
def FX(x:α):List α->List α
 | []=> [x]
 |y::l=>if bl (key x) (key y)=true then x::y::l else if key x=key y then x::l else y::FX x l
variable {key}
theorem DO.jd{l:List α}(h:DO key l){a b:α}(ha:a∈l)(hb:b∈l)(e:key a=key b):a=b:=by
 induction l with
 |nil=>cases ha
 |cons y l ih=>
  have h1:=List.pairwise_cons.1 h;rcases Ae.1 ha with q1|q1<;>rcases Ae.1 hb with q2|q2
  ·rw[q1,q2]
  ·exact absurd (q1▸e) (Ic (h1.1 _ q2))
  ·exact absurd (q2▸e.symm) (Ic (h1.1 _ q1))
  ·exact ih h1.2 q1 q2
theorem Nk{x:α}:∀{l:List α},DO key l-> ∀y,y∈FX key x l↔y=x\/y∈l/\key y≠key x
 | [],_,y=>by simp[FX]
 |z::l,h,y=>by
  have h1:=List.pairwise_cons.1 h;unfold FX;split
  ·rename_i hb;constructor
   ·intro hy;rcases Ae.1 hy with rfl|hy
    ·exact .inl rfl
    ·refine .inr ⟨hy,?_⟩;rcases Ae.1 hy with rfl|hy
     ·exact(Ic hb).symm
     ·exact(Ic (FT hb (h1.1 _ hy))).symm
   ·rintro(rfl|⟨hy,_⟩)
    ·simp
    ·exact List.mem_cons_of_mem _ hy
  ·rename_i hb;split
   ·rename_i he;constructor
    ·intro hy;rcases Ae.1 hy with rfl|hy
     ·exact .inl rfl
     ·exact .inr ⟨List.mem_cons_of_mem _ hy,λe=>Ic (h1.1 _ hy) (by rw[e,he])⟩
    ·rintro(rfl|⟨hy,hn⟩)
     ·simp
     ·rcases Ae.1 hy with rfl|hy
      ·exact absurd he.symm hn
      ·exact List.mem_cons_of_mem _ hy
   ·rename_i he;rw[Ae,Nk h1.2];constructor
    ·rintro(rfl|rfl|⟨hy,hn⟩)
     ·exact .inr ⟨by simp,λe=>he e.symm⟩
     ·exact .inl rfl
     ·exact .inr ⟨List.mem_cons_of_mem _ hy,hn⟩
    ·rintro(rfl|⟨hy,hn⟩)
     ·exact .inr (.inl rfl)
     ·rcases Ae.1 hy with rfl|hy
      ·exact .inl rfl
      ·exact .inr (.inr ⟨hy,hn⟩)
theorem Vw{x:α}:∀{l:List α},DO key l->DO key (FX key x l)
 | [],_=>by simp[FX,DO]
 |z::l,h=>by
  have h1:=List.pairwise_cons.1 h;unfold FX;split
  ·rename_i hb;refine List.pairwise_cons.2 ⟨λy hy=> ?_,h⟩;rcases Ae.1 hy with rfl|hy
   ·exact hb
   ·exact FT hb (h1.1 _ hy)
  ·rename_i hb;split
   ·rename_i he;exact List.pairwise_cons.2 ⟨λy hy=>by rw[he];exact h1.1 _ hy,h1.2⟩
   ·rename_i he;refine List.pairwise_cons.2 ⟨λy hy=> ?_,Vw h1.2⟩;rcases(Nk h1.2 y).1 hy with rfl|⟨hy,_⟩
    ·exact R4 (by simpa using hb) he
    ·exact h1.1 _ hy
theorem DO.ext:∀{a b:List α},DO key a->DO key b->(∀x,x∈a↔x∈b)->a=b
 | [],[],_,_,_=>rfl
 | [],y::b,_,_,h=>absurd ((h y).2 (by simp)) (by simp)
 |x::a,[],_,_,h=>absurd ((h x).1 (by simp)) (by simp)
 |x::a,y::b,ha,hb,h=>by
  have h1:=List.pairwise_cons.1 ha;have h2:=List.pairwise_cons.1 hb;have e:x=y:=by
   rcases Ae.1 ((h x).1 (by simp))with e|hx
   ·exact e
   ·rcases Ae.1 ((h y).2 (by simp))with e|hy
    ·exact e.symm
    ·have:=FT (h1.1 _ hy) (h2.1 _ hx);rw[Kc]at this;cases this
  subst e;rw[DO.ext h1.2 h2.2 λz=> ?_];constructor
  ·intro hz;rcases Ae.1 ((h z).1 (List.mem_cons_of_mem _ hz))with rfl|Ub
   ·have:=h1.1 _ hz;rw[Kc]at this;cases this
   ·exact Ub
  ·intro hz;rcases Ae.1 ((h z).2 (List.mem_cons_of_mem _ hz))with rfl|Ub
   ·have:=h2.1 _ hz;rw[Kc]at this;cases this
   ·exact Ub
theorem DO.filter{l:List α}(h:DO key l)(p:α->Bool):DO key (l.filter p):=List.Pairwise.filter p h
theorem DO.sub{a b:List α}(h:DO key b)(hs:a.Sublist b):DO key a:=List.Pairwise.sublist hs h
theorem ZT{x:α}:∀(l:List α),(FX key x l).length<=l.length+1
 | []=>by simp[FX]
 |y::l=>by
  unfold FX;have:=ZT (x:=x) l;split
  ·simp
  ·split
   ·simp
   ·simp only[A6];omega
end
def Eb{α:Type}(r:α->α->Bool):List α->Bool
 | []=>true
 | [_]=>true
 |x::y::l=>r x y&&Eb r (y::l)
theorem R7{α:Type}{r:α->α->Bool}(ht:∀a b c,r a b=true->r b c=true->r a c=true):∀{l:List α},Eb r l=true↔l.Pairwise λa b=>r a b=true
 | []=>by simp[Eb]
 | [_]=>by simp[Eb]
 |x::y::l=>by
  rw[Eb,Ab,R7 ht];constructor
  ·rintro⟨h1,h2⟩;refine List.pairwise_cons.2 ⟨λz hz=> ?_,h2⟩;rcases Ae.1 hz with rfl|hz
   ·exact h1
   ·exact ht _ _ _ h1 ((List.pairwise_cons.1 h2).1 z hz)
  ·intro h;have h:=List.pairwise_cons.1 h;exact⟨h.1 y (by simp),h.2⟩
theorem wH{α:Type}{r:α->α->Bool}{l:List α}{q:Nat}(h:q+1<l.length):Eb r (l.drop q)=(r l[q] l[q+1]&&Eb r (l.drop (q+1))):=by rw[Bv (show q<l.length by omega),Bv h,Eb]
theorem nZ{α β:Type}{xs:List α}{body:Int->Option (Int ⊕ Option β)}(p:α->Bool)(r:α->α->Bool)(b:β)(fin:Option β)
  (h0:∀h:0<xs.length,body 0=some (if p xs[0]=true then .inl 1 else .inr (some b)))
  (hs:∀i (h:i+1<xs.length),body ((i+1:Nat):Int)=some (if(p xs[i+1]&&r xs[i] xs[i+1])=true then .inl ((i+2:Nat):Int)else .inr (some b)))
  (he:body xs.length=some (.inr fin)):Av body 0=if(xs.all p&&Eb r xs)=true then fin else some b:=by
 have key:∀n q,q+1+n=xs.length->Av body ((q+1:Nat):Int)=if((xs.drop (q+1)).all p&&Eb r (xs.drop q))=true then fin else some b:=by
  intro n
  induction n with
  |zero=>
   intro q hq;rw[show((q+1:Nat):Int)=(xs.length:Int) by omega,D3,he];have e1:xs.drop (q+1)=[]:=List.drop_eq_nil_of_le (by omega);have e2:xs.drop q=[xs[q]]:=by rw[Bv (by omega),e1]
   rw[e1,e2];simp[Eb]
  |succ n ih=>
   intro q hq;rw[D3,hs q (by omega),wH (by omega),Bv (show q+1<xs.length by omega),List.all_cons];have ih:=ih (q+1) (by omega);by_cases hp:(p xs[q+1]&&r xs[q] xs[q+1])=true
   ·rw[if_pos hp];simp only[Ab]at hp;simp only[hp.1,hp.2,Bool.true_and];rw[<-Bv (show q+1<xs.length by omega)];exact ih
   ·rw[if_neg hp];rw[if_neg];intro h;simp only[Ab]at h hp;exact hp ⟨h.1.1,h.2.1⟩
 by_cases hz:0<xs.length
 ·rw[D3,h0 hz];have:=key (xs.length-1) 0 (by omega);rw[List.drop_zero]at this;have e:xs=xs[0]::xs.drop 1:=by rw[<-Bv hz,List.drop_zero]
  by_cases hp:p xs[0]=true
  ·rw[if_pos hp];show Av body ((0+1:Nat):Int)=_;rw[this];have:xs.all p=(xs.drop 1).all p:=by rw[e,List.all_cons,hp,Bool.true_and];simp
   rw[this]
  ·rw[if_neg hp,if_neg];intro h;simp only[Ab,Bj]at h;exact hp (h.1 _ (AF hz))
 ·have:xs=[]:=by cases xs with|nil=>rfl|cons=>simp at hz
  subst this;rw[D3,show(0:Int)=(([]:List α).length:Int)from rfl,he];simp[Eb]
def AD{α:Type}(lt:α->Bool)(l:List α):Nat:=(l.takeWhile lt).length
theorem Nq{α:Type}(lt:α->Bool):∀l:List α,AD lt l<=l.length
 | []=>by simp[AD]
 |x::l=>by have:=Nq lt l;unfold AD at this ⊢;rw[List.takeWhile_cons];split<;>simp<;>omega
theorem Sm{α:Type}{lt:α->Bool}:∀{l:List α} {i:Nat} (h:i<AD lt l),lt (l[i]'(Nat.lt_of_lt_of_le h (Nq lt l)))=true
 |x::l,i,h=>by
  unfold AD at h;rw[List.takeWhile_cons]at h;split at h
  ·rename_i hx;cases i with
   |zero=>exact hx
   |succ i=>exact Sm (l:=l) (i:=i) (by unfold AD;simpa using h)
  ·simp at h
theorem aE{α:Type}{lt:α->Bool}:∀{l:List α} (h:AD lt l<l.length),lt l[AD lt l]=false
 |x::l,h=>by
  by_cases hx:lt x=true
  ·have e:AD lt (x::l)=AD lt l+1:=by unfold AD;rw[List.takeWhile_cons,if_pos hx];rfl
   have:=aE (l:=l) (lt:=lt) (by rw[e]at h;simpa using h);simp only[e,List.getElem_cons_succ];exact this
  ·have e:AD lt (x::l)=0:=by unfold AD;rw[List.takeWhile_cons,if_neg hx];rfl
   simp only[e,List.getElem_cons_zero];simpa using hx
theorem Z2{α β:Type}{xs:List α}{body:Int × Int->Option ((Int × Int) ⊕ Option β)}{fin:Int->Option β}(lt:α->Bool)(hm:∀i j (hj:j<xs.length) (hi:i<=j),lt xs[j]=true->lt xs[i]=true)
  (hs:∀i j:Nat,i<j->j<=xs.length->(h:(i+j)/2<xs.length)->body ((i:Int),(j:Int))=some (.inl (if lt xs[(i+j)/2]=true then((((i+j)/2+1:Nat):Int),(j:Int))else((i:Int),(((i+j)/2:Nat):Int)))))
  (he:∀i:Nat,i<=xs.length->body ((i:Int),(i:Int))=some (.inr (fin i))):Av body (0,(xs.length:Int))=fin (AD lt xs):=by
 have key:∀n i j:Nat,j-i<=n->i<=AD lt xs->AD lt xs<=j->j<=xs.length->Av body ((i:Int),(j:Int))=fin (AD lt xs):=by
  intro n
  induction n with
  |zero=>
   intro i j h1 h2 h3 h4;have:i=j:=by omega
   subst this;have:i=AD lt xs:=by omega
   rw[D3,he i h4,this]
  |succ n ih=>
   intro i j h1 h2 h3 h4;by_cases Ew:i=j
   ·subst Ew;have:i=AD lt xs:=by omega
    rw[D3,he i h4,this]
   ·have AG:(i+j)/2<xs.length:=by omega
    rw[D3,hs i j (by omega) h4 AG];by_cases hc:lt xs[(i+j)/2]=true
    ·rw[if_pos hc];refine ih _ _ (by omega) ?_ h3 h4;by_cases hp:(i+j)/2<AD lt xs
     ·omega
     ·have h5:AD lt xs<xs.length:=by omega
      have:=aE h5;rw[hm _ _ AG (by omega) hc]at this;cases this
    ·rw[if_neg hc];refine ih _ _ (by omega) h2 ?_ (by omega);by_cases hp:(i+j)/2<AD lt xs
     ·exact absurd (Sm hp) hc
     ·omega
 exact key xs.length 0 xs.length (by omega) (by omega) (Nq lt xs) (AI _)
theorem nK{α:Type}{key:α->Ag}{x:α}:∀{l:List α},DO key l->FX key x l=(match l[AD (λy=>bl (key y) (key x)) l]? with
  |some y=>if key y=key x then l.set (AD (λy=>bl (key y) (key x)) l) x else l.take (AD (λy=>bl (key y) (key x)) l)++ [x]++l.drop (AD (λy=>bl (key y) (key x)) l)
  |none=>l.take (AD (λy=>bl (key y) (key x)) l)++ [x]++l.drop (AD (λy=>bl (key y) (key x)) l))
 | [],_=>by simp[FX,AD]
 |y::l,h=>by
  have h1:=List.pairwise_cons.1 h;unfold FX;by_cases hb:bl (key x) (key y)=true
  ·have e:AD (λz=>bl (key z) (key x)) (y::l)=0:=by unfold AD;rw[List.takeWhile_cons,if_neg (by rw[Nh hb];simp)];rfl
   rw[if_pos hb,e];simp[(Ic hb).symm]
  ·rw[if_neg hb];by_cases hk:key x=key y
   ·have e:AD (λz=>bl (key z) (key x)) (y::l)=0:=by unfold AD;rw[List.takeWhile_cons,if_neg (by rw[hk,Kc];simp)];rfl
    rw[if_pos hk,e];simp[hk]
   ·have Hm:=R4 (by simpa using hb) hk;have e:AD (λz=>bl (key z) (key x)) (y::l)=AD (λz=>bl (key z) (key x)) l+1:=by unfold AD;rw[List.takeWhile_cons,if_pos Hm];rfl
    rw[if_neg hk,e,nK h1.2];simp only[List.getElem?_cons_succ];split
    ·split<;>simp
    ·simp
def MT(a b:Ap):Int:=if bl a b=true then-1 else if a=b then 0 else 1
@[simp] theorem zCu(a:Ap):UH a=some false:=by simp[UH]
@[simp] theorem zEx(a:Int):UR a=some false:=by simp[UR]
@[simp] theorem zGE(a b:Ap):UB a b=some (MT a b):=by
 unfold UB MT;simp only[zCu,Aa,AW,if_false];by_cases h:bl a b=true
 ·have:Op.bytesLess a b=true:=h;simp[this]
 ·have h1:Op.bytesLess a b=false:=by simpa using h
  by_cases he:a=b
  ·subst he;simp[h1]
  ·simp[h1,he]
def MX(a b:Int):Int:=if a<b then-1 else if a=b then 0 else 1
@[simp] theorem zGA(a b:Int):UE a b=some (MX a b):=by
 unfold UE MX;simp only[zEx,Aa,AW,if_false];by_cases h:a<b
 ·simp[h]
 ·by_cases he:a=b
  ·subst he;simp
  ·have:b<a:=by omega
   simp[h,he,this]
theorem zzF{a b:Ap}:decide (MT a b<0)=bl a b:=by
 unfold MT;cases h:bl a b with
 |true=>simp
 |false=>by_cases he:a=b<;>simp[he]
theorem rM{a b:Ap}:(MT a b==0)=decide (a=b):=by
 unfold MT;cases h:bl a b with
 |true=>simp[Ic h]
 |false=>by_cases he:a=b<;>simp[he]
theorem aJ{i j:Nat}(h:i<=j)(hj:j<=2000000):IntKind.i64.wrap (Int.fdiv (IntKind.u64.wrap (IntKind.i64.wrap ((i:Int)+(j:Int)))) (2^(min ((1:Int)).toNat (IntKind.bits .u64))))=(((i+j)/2:Nat):Int):=by
 have e1:IntKind.i64.wrap ((i:Int)+(j:Int))=((i+j:Nat):Int):=by rw[CM (by omega) (by omega)];simp
 have e2:IntKind.u64.wrap ((i+j:Nat):Int)=((i+j:Nat):Int):=by simp only[IntKind.wrap,IntKind.bits,IntKind.signed];simp;omega
 have e3:(2:Int)^(min ((1:Int)).toNat (IntKind.bits .u64))=((2:Nat):Int):=rfl;rw[e1,e2,e3,Int.fdiv_eq_ediv_of_nonneg _ (by omega),<-Int.natCast_ediv,CM (by omega) (by omega)]
theorem BA{i:Nat}(h:i<=2000000):IntKind.i64.wrap ((i:Int)+1)=((i+1:Nat):Int):=by rw[CM (by omega) (by omega)];simp
abbrev Ji(l:List Am):Prop:=DO (λw:Am=>w.ah) l
abbrev Mb(l:List Am)(k:Ap):Nat:=AD (λw:Am=>bl w.ah k) l
theorem zGt{l:List Am}{k:Ap}(hl:l.length<=2000000)(hr:Ji l):Rc l k=some (((Mb l k:Nat):Int),(match l[Mb l k]? with|some w=>decide (w.ah=k)|none=>false)):=by
 unfold Rc fW;have hc:∀w:Am,QO w k=some (MT w.ah k):=λw=>by simp[QO]
 have h:=Z2 (xs:=l) (body:=λs:Int × Int=>Qv l k (λy0_ y1_=>QO y0_ y1_) s.1 s.2) (fin:=λi=>fU l k (λy0_ y1_=>QO y0_ y1_) i) (λw:Am=>bl w.ah k)
  (λi j hj hi h=>by
   rcases Nat.lt_or_ge i j with Ew|Ew
   ·exact FT ((List.pairwise_iff_getElem.1 hr) i j (by omega) hj Ew) h
   ·have:i=j:=by omega
    subst this;exact h)
  (λi j Ew hj Hg=>by show Qv l k _ (i:Int) (j:Int)=_;unfold Qv;rw[if_pos (by simpa using Ew),aJ (by omega) (by omega),AP Hg,Aa];simp only[hc,Aa,zzF,BA (show(i+j)/2<=2000000 by omega)];cases bl l[(i+j)/2].ah k<;>rfl)
  (λi hi=>by show Qv l k _ (i:Int) (i:Int)=_;unfold Qv;rw[if_neg (by simp)])
 rw[h];unfold fU;show Option.bind (if decide (((Mb l k:Nat):Int)<l.length)=true then _ else _) _=_;by_cases hp:Mb l k<l.length
 ·rw[if_pos (by simpa using hp),AP hp,Aa];simp only[hc,Aa,rM,Bg hp]
 ·rw[if_neg (by simpa using hp),List.getElem?_eq_none (by omega)];rfl
theorem Vl(ks:List Ap):NF ks=Eb bl ks:=by
 have key:∀n q,q+n+1=ks.length->(List.range' (q+1) n).all (Ht ks)=Eb bl (ks.drop q):=by
  intro n
  induction n with
  |zero=>intro q hq;rw[Bv (show q<ks.length by omega),List.drop_eq_nil_of_le (show ks.length<=q+1 by omega)];rfl
  |succ n ih=>intro q hq;rw[List.range'_succ,List.all_cons,ih (q+1) (by omega),wH (show q+1<ks.length by omega)];congr 1;unfold Ht;have hb:(q+1==0)=false:=rfl;rw[hb,Bool.false_or,Nat.add_sub_cancel,Bg (show q<ks.length by omega),Bg (show q+1<ks.length by omega)];rfl
 cases ks with
 |nil=>rfl
 |cons k l=>unfold NF;rw[A6,List.range_eq_range',List.range'_succ,List.all_cons];have:=key l.length 0 (by simp);rw[List.drop_zero]at this;rw[Nat.zero_add]at this;rw[show 0+1=1 from rfl,this];rfl
theorem mA{α β:Type}(f:α->β)(r:β->β->Bool):∀l:List α,Eb r (l.map f)=Eb (λa b=>r (f a) (f b)) l
 | []=>rfl
 | [_]=>rfl
 |x::y::l=>by have:=mA f r (y::l);simp only[List.map_cons,Eb]at this ⊢;rw[this]
theorem zqt{l:List Am}(h:Hp l=true):Ji l:=by unfold Hp at h;simp only[Ab]at h;have h1:=h.2.2;rw[Vl,mA]at h1;exact(R7 (r:=λa b:Am=>bl a.ah b.ah) λa b c p q=>FT p q).1 h1
end
section
open Go.RowKit Go.Sort
set_option maxRecDepth 100000
theorem Sa{S α β σ:Type}{xs:List α}{body:S->Option (S ⊕ Option β)}(mk:Nat->σ->S)(g:σ->α->Option σ)(b:Option β)(fin:σ->Option β)(I:Nat->σ->Prop)
  (hs:∀i acc (h:i<xs.length),I i acc->body (mk i acc)=some (match g acc xs[i]with|some a=> .inl (mk (i+1) a)|none=> .inr b)/\ ∀a,g acc xs[i]=some a->I (i+1) a)
  (he:∀acc,I xs.length acc->body (mk xs.length acc)=some (.inr (fin acc))) (a0:σ) (h0:I 0 a0):Av body (mk 0 a0)=match xs.foldlM g a0 with|some a=>fin a|none=>b:=by
 have key:∀n q acc,q+n=xs.length->I q acc->Av body (mk q acc)=match(xs.drop q).foldlM g acc with|some a=>fin a|none=>b:=by
  intro n
  induction n with
  |zero=>
   intro q acc hq hi;have e:q=xs.length:=by omega
   subst e;rw[D3,he acc hi,List.drop_length];rfl
  |succ n ih=>
   intro q acc hq hi;have hl:q<xs.length:=by omega
   obtain⟨h1,h2⟩:=hs q acc hl hi;rw[D3,h1,Bv hl,List.foldlM_cons];cases hg:g acc xs[q]with
   |none=>rfl
   |some a=>exact ih (q+1) a (by omega) (h2 a hg)
 have:=key xs.length 0 a0 (by omega) h0;rwa[List.drop_zero]at this
theorem oA{α β:Type}{xs:List α}{body:Int->Option (Int ⊕ Option β)}(p:α->Bool)(fin:Int->Option β)
  (hs:∀i (h:i<xs.length),body (i:Nat)=some (if p xs[i]=true then .inl ((i+1:Nat):Int)else .inr (fin (i:Nat)))) (he:body (xs.length:Nat)=some (.inr (fin (xs.length:Nat)))):Av body 0=fin (AD p xs:Nat):=by
 have key:∀n q,q+n=xs.length->Av body (q:Nat)=fin ((q+AD p (xs.drop q):Nat):Int):=by
  intro n
  induction n with
  |zero=>
   intro q hq;have e:q=xs.length:=by omega
   subst e;rw[D3,he,List.drop_length];rfl
  |succ n ih=>
   intro q hq;have hl:q<xs.length:=by omega
   rw[D3,hs q hl,Bv hl];by_cases hp:p xs[q]=true
   ·rw[if_pos hp];have e:AD p (xs[q]::xs.drop (q+1))=AD p (xs.drop (q+1))+1:=by unfold AD;rw[List.takeWhile_cons,if_pos hp];rfl
    rw[e,show q+(AD p (xs.drop (q+1))+1)=(q+1)+AD p (xs.drop (q+1)) by omega];exact ih (q+1) (by omega)
   ·rw[if_neg hp];have e:AD p (xs[q]::xs.drop (q+1))=0:=by unfold AD;rw[List.takeWhile_cons,if_neg hp];rfl
    rw[e];rfl
 have:=key xs.length 0 (by omega);rw[List.drop_zero,Nat.zero_add]at this;exact this
def Nr(v:BE):Bool:=BH v.af 1 100000&&F2 v.bg v.bf
def PS(a b:BE):Bool:=decide (a.af<b.af)
def IJ(l:List BE):Bool:=BH (l.length:Int) 1 16&&(l.all Nr&&Eb PS l)
def Gx(c:Ai):Bool:=Dg c.ah&&IJ c.aw
def SI(a b:Ai):Bool:=bl a.ah b.ah
def Eo(l:List Ai):Bool:=decide ((l.length:Int)<=24)&&(l.all Gx&&Eb SI l)
def Xb(c:Ai):Prop:=c.ah.length<=2000000/\c.aw.length<=2000000/\ ∀v∈c.aw,v.bg.length<=2000000
def Pz(l:List Ai):Prop:=l.length<=2000000/\ ∀c∈l,Xb c
theorem zBv{c:Ai}(h:Xb c):YV c=some (IJ c.aw):=by
 obtain⟨_,h2,h3⟩:=h;unfold YV IJ;rw[nZ (xs:=c.aw) (body:=λs:Int=>OX c s) Nr PS false (iR c) (λh0=> ?_) (λi hi=> ?_) (by simp[OX])]
 ·unfold iR;simp only[Pn,Aa];cases c.aw.all Nr<;>cases Eb PS c.aw<;>cases BH (c.aw.length:Int) 1 16<;>rfl
 ·show OX c 0=_;unfold OX M8 Nr;rw[if_pos (by simpa using h0),show(0:Int)=((0:Nat):Int)from rfl,AP h0,Aa];simp only[Pn,Aa,mG (h3 _ (AF h0))];cases BH c.aw[0].af 1 100000<;>cases F2 c.aw[0].bg c.aw[0].bf<;>rfl
 ·show OX c ((i+1:Nat):Int)=_;unfold OX M8 Nr PS;rw[if_pos (by simp;omega),AP hi,Aa];simp only[Pn,Aa,mG (h3 _ (AF hi))];rw[Ps (by omega) (by omega),Nat.add_sub_cancel,AP (show i<c.aw.length by omega),FV hi (by omega)];have e:decide (c.aw[i+1].af<=c.aw[i].af)= !decide (c.aw[i].af<c.aw[i+1].af):=by rw[<-decide_not,decide_eq_decide];omega
  simp only[Aa,e];rw[show decide (((i+1:Nat):Int)>0)=true by simp];cases BH c.aw[i+1].af 1 100000<;>cases F2 c.aw[i+1].bg c.aw[i+1].bf<;>cases decide (c.aw[i].af<c.aw[i+1].af)<;>rfl
theorem zS{c:Ai}(h:Xb c):YU c=some (Gx c):=by
 obtain⟨h1,h2,h3⟩:=h;unfold YU Gx IJ;rw[nZ (xs:=c.aw) (body:=λs:Int=>OZ c s) (λv=>BH v.af 1 100000&&(Dg c.ah&&F2 v.bg v.bf)) PS false (iQ c) (λh0=> ?_) (λi hi=> ?_) (by simp[OZ])]
 ·unfold iQ;simp only[SJ h1,Nw,Aa];cases hk:Dg c.ah with
  |true=>
   have e:(c.aw.all λv=>BH v.af 1 100000&&(true&&F2 v.bg v.bf))=c.aw.all Nr:=by congr 1
   rw[e];cases c.aw.all Nr<;>cases Eb PS c.aw<;>cases BH (c.aw.length:Int) 1 16<;>rfl
  |false=>split<;>simp
 ·show OZ c 0=_;unfold OZ M9;rw[if_pos (by simpa using h0),show(0:Int)=((0:Nat):Int)from rfl,AP h0,Aa];simp only[Nw,Aa,n7 h1 (h3 _ (AF h0))];cases BH c.aw[0].af 1 100000<;>cases(Dg c.ah&&F2 c.aw[0].bg c.aw[0].bf)<;>rfl
 ·show OZ c ((i+1:Nat):Int)=_;unfold OZ M9 PS;rw[if_pos (by simp;omega),AP hi,Aa];simp only[Nw,Aa,n7 h1 (h3 _ (AF hi))];rw[Ps (by omega) (by omega),Nat.add_sub_cancel,AP (show i<c.aw.length by omega),FV hi (by omega)];have e:decide (c.aw[i].af>=c.aw[i+1].af)= !decide (c.aw[i].af<c.aw[i+1].af):=by rw[<-decide_not,decide_eq_decide];omega
  simp only[Aa,e];rw[show decide (((i+1:Nat):Int)>0)=true by simp];cases BH c.aw[i+1].af 1 100000<;>cases(Dg c.ah&&F2 c.aw[i+1].bg c.aw[i+1].bf)<;>cases decide (c.aw[i].af<c.aw[i+1].af)<;>rfl
theorem x6{α β:Type}{r:β->β->Bool}{f:α->β}:∀l:List α,Eb r (l.map f)=Eb (λa b=>r (f a) (f b)) l
 | []=>rfl
 | [_]=>rfl
 |x::y::l=>by show(r (f x) (f y)&&Eb r ((y::l).map f))=_;rw[x6 (y::l)];rfl
theorem oE{l:List Ai}(h:Pz l):UO l=some (Eo l):=by
 have hn:=h.1;unfold UO;rw[show((0:Int),([]:List Ap))=(λ(i:Nat) (a:List Ap)=>((i:Int),a)) 0 []from rfl,Sa (xs:=l) (body:=λs:Int × List Ap=>UI l s.1 s.2) (λ(i:Nat) (a:List Ap)=>((i:Int),a)) (λa c=>if IJ c.aw=true then some (a++ [c.ah])else none) (some false) (XP l) (λi a=>a.length=i) (λi acc hi ha=> ?_) (λacc ha=>by simp[UI]) [] rfl]
 ·have hf:∀(xs:List Ai) (a:List Ap),xs.foldlM (m:=Option) (λa c=>if IJ c.aw=true then some (a++ [c.ah])else none) a=if(xs.all λc=>IJ c.aw)=true then some (a++xs.map (·.ah))else none:=by
   intro xs
   induction xs with
   |nil=>intro a;simp
   |cons x xs ih=>
    intro a;rw[List.foldlM_cons];by_cases hx:IJ x.aw=true
    ·rw[if_pos hx];show xs.foldlM _ (a++ [x.ah])=_;rw[ih];simp[hx]
    ·rw[if_neg hx];simp[hx]
  rw[hf];unfold Eo;by_cases hg:(l.all λc=>IJ c.aw)=true
  ·rw[if_pos hg];show XP l _=_;unfold XP;rw[List.nil_append,lG (by simpa using hn) (λk hk=>by obtain⟨c,hc,rfl⟩:=List.mem_map.1 hk;exact(h.2 c hc).1),Vl,x6];have e:(l.map (·.ah)).all Dg=l.all Gx:=by
    rw[List.all_map,Bool.eq_iff_iff];simp only[Bj]at hg ⊢;refine⟨λq c hc=> ?_,λq c hc=> ?_⟩
    ·unfold Gx;rw[hg c hc,Bool.and_true];exact q c hc
    ·have:=q c hc;unfold Gx at this;simp only[Ab]at this;exact this.1
   rw[e];show(if decide ((l.length:Int)<=24)=true then(some (l.all Gx&&Eb SI l)).bind λv2=>some v2 else some false)=_;cases decide ((l.length:Int)<=24)<;>rfl
  ·rw[if_neg hg];have e:l.all Gx=false:=by
    cases hc:l.all Gx
    ·rfl
    ·refine absurd ?_ hg;simp only[Bj]at hc ⊢;intro c q;have:=hc c q;unfold Gx at this;simp only[Ab]at this;exact this.2
   rw[e];simp
 ·have ha:acc.length=i:=ha;refine⟨?_,λa e=> ?_⟩
  ·show UI l (i:Int) acc=_;unfold UI;rw[if_pos (by simpa using hi),AP hi,Aa,zBv (h.2 _ (AF hi)),Aa,FV hi (by omega)];cases IJ l[i].aw with
   |false=>rfl
   |true=>rw[if_neg (by simp),Ba (by simp;omega)];rfl
  ·split at e
   ·cases e;simp[ha]
   ·cases e
theorem nQ{l:List Ai}(h:Pz l):Va l=some (Eo l):=by
 have hn:=h.1;unfold Va Eo;rw[nZ (xs:=l) (body:=λs:Int=>O1 l s) Gx SI false (jD l) (λh0=> ?_) (λi hi=> ?_) (by simp[O1])]
 ·unfold jD;cases l.all Gx<;>cases Eb SI l<;>simp
 ·show O1 l 0=_;unfold O1;rw[if_pos (by simpa using h0),show(0:Int)=((0:Nat):Int)from rfl,AP h0,Aa,zS (h.2 _ (AF h0)),Aa];cases Gx l[0]<;>rfl
 ·show O1 l ((i+1:Nat):Int)=_;unfold O1 SI;rw[if_pos (by simp;omega),AP hi,Aa,zS (h.2 _ (AF hi)),Aa];rw[Ps (by omega) (by omega),Nat.add_sub_cancel,AP (show i<l.length by omega),FV hi (by omega)];simp only[Aa];rw[show decide (((i+1:Nat):Int)>0)=true by simp];rw[show bl l[i].ah l[i+1].ah=Op.bytesLess l[i].ah l[i+1].ah from rfl];cases Gx l[i+1]<;>cases Op.bytesLess l[i].ah l[i+1].ah<;>rfl
end
section
open Go.RowKit
set_option maxRecDepth 100000
set_option maxHeartbeats 1000000
theorem mY(a:Int):M9 a=some (BH a 1 100000):=rfl
theorem nG(a:Int):M8 a=some (BH a 1 100000):=rfl
theorem Z3(a:Int):Na a=some (BH a 1 60):=rfl
theorem zV(a:Int):Pa a=some (BH a 0 100000):=rfl
theorem zCL(a:Int):RN a=some (BH a 0 100000):=rfl
def L4(ks:List Ap):Prop:=ks.length<=2000000/\ ∀k∈ks,k.length<=2000000
def Ep(ks:List Ap):Bool:=ks.all Dg&&NF ks
theorem yD{ks:List Ap}(h:L4 ks):M4 ks=some (Ep ks):=lG h.1 h.2
theorem yH{ks:List Ap}{body:Int->Option (Int ⊕ Option Bool)}{fin:Option Bool}(h:L4 ks)(h0:∀(hi:0<ks.length),body 0=some (if Dg ks[0]=true then .inl 1 else .inr (some false)))
  (hs:∀(i:Nat) (hi:i<ks.length) (hp:0<i),body i=some (if(Dg ks[i]&&Op.bytesLess ks[i-1] ks[i])=true then .inl ((i+1:Nat):Int)else .inr (some false))) (he:body ks.length=some (.inr fin)):Av body 0=if Ep ks=true then fin else some false:=by
 rw[Kd (n:=ks.length) (λi=>Dg ((ks[i]?).getD [])&&Ht ks i) false fin ?_ he,oN ks Dg (Ht ks) _ λi hi=>by simp[hi]]
 ·rfl
 ·intro i hi;by_cases hz:i=0
  ·subst hz;show body 0=_;rw[h0 hi];simp[hi,Ht]
  ·have JE:i-1<ks.length:=by omega
   have hb:(i==0)=false:=by simpa using hz
   rw[hs i hi (Nat.pos_of_ne_zero hz)];simp only[Bg hi,Bg JE,Df,Ht,hb,Bool.false_or]
theorem zCJ{ks:List Ap}(h:L4 ks):YC ks=some (Ep ks&&decide ((ks.length:Int)<4)):=by
 have hn:=h.1;unfold YC;rw[yH (body:=λs:Int=>Rm ks s) (fin:=iH ks) h (λhi=>by
  simp only[Rm,hi,decide_true,if_true,show((0:Int)<(ks.length:Int))from by omega,show An ks 0=some ks[0]from AP hi,Aa,SJ (h.2 _ (AF hi))];cases Dg ks[0]<;>rfl) (λi hi hp=>by
  have JE:i-1<ks.length:=by omega
  have TR:(i:Int)>0:=by omega
  simp only[Rm,Int.ofNat_lt,hi,TR,decide_true,if_true,AP hi,Aa,SJ (h.2 _ (AF hi)),FV hi (by omega:ks.length<=_),Ps hp (by omega:i<=2000000),AP JE];cases Dg ks[i]<;>cases Op.bytesLess ks[i-1] ks[i]<;>rfl) (by
  show Rm ks ks.length=_;unfold Rm;rw[if_neg (by simp)])]
 unfold iH;cases Ep ks<;>rfl
theorem zC6{ks:List Ap}(h:L4 ks):YZ ks=some (Ep ks&&decide ((ks.length:Int)<=8)):=by
 have hn:=h.1;unfold YZ;rw[yH (body:=λs:Int=>Q9 ks s) (fin:=zip ks) h (λhi=>by
  simp only[Q9,hi,decide_true,if_true,show((0:Int)<(ks.length:Int))from by omega,show An ks 0=some ks[0]from AP hi,Aa,SJ (h.2 _ (AF hi))];cases Dg ks[0]<;>rfl) (λi hi hp=>by
  have JE:i-1<ks.length:=by omega
  have TR:(i:Int)>0:=by omega
  simp only[Q9,Int.ofNat_lt,hi,TR,decide_true,if_true,AP hi,Aa,SJ (h.2 _ (AF hi)),FV hi (by omega:ks.length<=_),Ps hp (by omega:i<=2000000),AP JE];cases Dg ks[i]<;>cases Op.bytesLess ks[i-1] ks[i]<;>rfl) (by
  show Q9 ks ks.length=_;unfold Q9;rw[if_neg (by simp)])]
 unfold zip;cases Ep ks<;>rfl
theorem zBQ{ks:List Ap}(h:L4 ks):Yq ks=some (Ep ks&&decide ((ks.length:Int)<4)):=by unfold Yq;rw[yD h];cases decide ((ks.length:Int)<4)<;>cases Ep ks<;>rfl
structure Gy(r:Bu):Prop where
 reads:L4 r.ak
 writes:V6 r.ab
def CB(r:Bu):Bool:=
 if r.bb=1 then BH r.al 1 60&&(BH r.af 1 100000&&(BH r.bq 0 3&&(Ep r.ak&&(decide ((r.ak.length:Int)<=8)&&(Hp r.ab&&(decide ((r.ab.length:Int)<=8)&&(decide ((r.ak.length:Int)+(r.ab.length:Int)>0)&& !r.bk)))))))
 else(r.bq==0)&&(((r.ak.length:Int)==0)&&(((r.ab.length:Int)==0)&&(
  if r.bb=2\/r.bb=3 then BH r.al 1 60&&(if r.bk=true then BH r.af 1 100000 else r.af==0)
  else if r.bb=4 then(r.al==0)&&(BH r.af 1 100000&& !r.bk)else false)))
theorem oK{r:Bu}(h:Gy r):UX r=some (CB r):=by
 have h1:=h.reads.1;have h2:=h.writes.1;have w:IntKind.i64.wrap ((r.ak.length:Int)+(r.ab.length:Int))=(r.ak.length:Int)+(r.ab.length:Int):=CM (by omega) (by omega);have hj:∀b:Bool,r.bb≠1->(b=true↔(r.bb=2\/r.bb=3))->XX r b=some (CB r):=by
  intro b k hb;unfold XX CB;rw[if_neg k];cases b with
  |true=>rw[if_pos rfl,if_pos (show r.bb=2\/r.bb=3 from hb.1 rfl)];simp only[Z3,nG,Aa];cases(r.bq==0)<;>cases((r.ak.length:Int)==0)<;>cases((r.ab.length:Int)==0)<;>cases BH r.al 1 60<;>cases r.bk<;>simp
  |false=>
   rw[if_neg (by simp),if_neg (show¬(r.bb=2\/r.bb=3)from λe=>by have:=hb.2 e;cases this)];by_cases k4:r.bb=4
   ·rw[if_pos (by simpa using k4),if_pos k4];simp only[nG,Aa];cases(r.bq==0)<;>cases((r.ak.length:Int)==0)<;>cases((r.ab.length:Int)==0)<;>cases(r.al==0)<;>simp
   ·rw[if_neg (by simpa using k4),if_neg k4];cases(r.bq==0)<;>cases((r.ak.length:Int)==0)<;>cases((r.ab.length:Int)==0)<;>rfl
 unfold UX;by_cases k1:r.bb=1
 ·rw[if_pos (by simpa using k1)];unfold CB;rw[if_pos k1];simp only[Z3,nG,Pn,Aa,yD h.reads,zAx h.writes,w];cases BH r.al 1 60<;>cases BH r.af 1 100000<;>cases BH r.bq 0 3<;>cases decide ((r.ak.length:Int)<=8)<;>cases Ep r.ak<;>cases decide ((r.ab.length:Int)<=8)<;>cases Hp r.ab<;>simp
 ·rw[if_neg (by simpa using k1)];by_cases k2:r.bb=2
  ·rw[if_pos (by simpa using k2)];exact hj _ k1 (by simp[k2])
  ·rw[if_neg (by simpa using k2)];exact hj _ k1 (by simp[k2])
theorem zDW{r:Bu}(h:Gy r):((LI r).bind λv1=>some v1)=some (CB r):=by
 have h1:=h.reads.1;have h2:=h.writes.1;have w:IntKind.i64.wrap ((r.ak.length:Int)+(r.ab.length:Int))=(r.ak.length:Int)+(r.ab.length:Int):=CM (by omega) (by omega);have hj:∀b:Bool,r.bb≠1->r.bq=0->(r.ak.length:Int)=0->(r.ab.length:Int)=0->(b=true↔(r.bb=2\/r.bb=3))->Ys r b=some (CB r):=by
  intro b k e1 e2 e3 hb;unfold Ys CB;rw[if_neg k,show(r.bq==0)=true by simpa using e1,show((r.ak.length:Int)==0)=true by simpa using e2,show((r.ab.length:Int)==0)=true by simpa using e3];cases b with
  |true=>rw[if_pos rfl,if_pos (show r.bb=2\/r.bb=3 from hb.1 rfl)];simp only[Nw,mY,Aa];cases BH r.al 1 60<;>cases r.bk<;>simp
  |false=>
   rw[if_neg (by simp),if_neg (show¬(r.bb=2\/r.bb=3)from λe=>by have:=hb.2 e;cases this)];by_cases k4:r.bb=4
   ·rw[if_pos (by simpa using k4),if_pos k4];simp only[mY,Aa];cases(r.al==0)<;>simp
   ·rw[if_neg (by simpa using k4),if_neg k4];rfl
 have Cd:BH (r.ab.length:Int) 0 8=decide ((r.ab.length:Int)<=8):=by unfold BH;rw[show decide ((r.ab.length:Int)>=0)=true by simp];rfl
 unfold LI;by_cases k1:r.bb=1
 ·rw[if_neg (by simp[k1]),if_pos (by simpa using k1)];unfold CB;rw[if_pos k1];simp only[Nw,mY,Aa,zC6 h.reads,zAM h.writes,w,Cd];cases BH r.al 1 60<;>cases BH r.af 1 100000<;>cases BH r.bq 0 3<;>cases decide ((r.ak.length:Int)<=8)<;>cases Ep r.ak<;>cases decide ((r.ab.length:Int)<=8)<;>cases Hp r.ab<;>simp
 ·by_cases hz:r.bq=0/\(r.ak.length:Int)=0/\(r.ab.length:Int)=0
  ·obtain⟨e1,e2,e3⟩:=hz;rw[if_neg (by rw[w];simp[e1];omega),if_neg (by simpa using k1)];by_cases k2:r.bb=2
   ·rw[if_pos (by simpa using k2),hj _ k1 e1 e2 e3 (by simp[k2]),Aa]
   ·rw[if_neg (by simpa using k2),hj _ k1 e1 e2 e3 (by simp[k2]),Aa]
  ·have hc:((r.bb !=1)&&((r.bq !=0)||decide (IntKind.i64.wrap ((r.ak.length:Int)+(r.ab.length:Int))>0)))=true:=by
    rw[w];by_cases e1:r.bq=0
    ·have:(r.ak.length:Int)+(r.ab.length:Int)>0:=by
      rcases Classical.em ((r.ak.length:Int)=0)with e2|e2
      ·have e3: ¬(r.ab.length:Int)=0:=λe3=>hz ⟨e1,e2,e3⟩;omega
      ·omega
     simp[k1,this]
    ·simp[k1,e1]
   rw[if_pos hc,Aa];unfold CB;rw[if_neg k1];by_cases e1:r.bq=0
   ·by_cases e2:(r.ak.length:Int)=0
    ·have e3:((r.ab.length:Int)==0)=false:=by simpa using λe3=>hz ⟨e1,e2,by simpa using e3⟩
     rw[e3];simp
    ·have e2:((r.ak.length:Int)==0)=false:=by simpa using e2
     rw[e2];simp
   ·have e1:(r.bq==0)=false:=by simpa using e1
    rw[e1];rfl
theorem aA{r:Bu}(h:Gy r):LI r=some (CB r):=by
 have e:=zDW h;cases q:LI r with
 |none=>rw[q]at e;cases e
 |some x=>rw[q]at e;exact e
theorem Pk{σ α:Type}{body:σ->Option (σ ⊕ Option α)}{s:σ}{o:Option α}(h:body s=some (.inr o)):Av body s=o:=by rw[D3,h]
theorem ZI{σ α:Type}{body:σ->Option (σ ⊕ Option α)}{s s':σ}(h:body s=some (.inl s')):Av body s=Av body s':=by rw[D3,h]
theorem rH{α:Type}{xs:List α}{body:Int × Int->Option ((Int × Int) ⊕ Option Int)}(tot:α->Nat){a:Int}(h0:0<=a)(h1:a<=1048576)
  (hs:∀x∈xs,∀b:Int,0<=b->b<=1048576-> ∃v,v<=b/\(0<=v->(tot x:Int)=b-v)/\ ∀i:Nat,xs[i]?=some x->body (b,(i:Int))=some (if v<0 then .inr (some (-1))else .inl (v,((i+1:Nat):Int))))
  (he:∀b,body (b,(xs.length:Int))=some (.inr (some b))):∃v,Av body (a,0)=some v/\v<=a/\(0<=v->((xs.map tot).sum:Int)=a-v):=by
 have key:∀(n q:Nat) (a:Int),q+n=xs.length->0<=a->a<=1048576-> ∃v,Av body (a,(q:Int))=some v/\v<=a/\(0<=v->(((xs.drop q).map tot).sum:Int)=a-v):=by
  intro n
  induction n with
  |zero=>
   intro q a hq h0 h1;refine⟨a,?_,by omega,λ_=> ?_⟩
   ·rw[D3,show(q:Int)=(xs.length:Int) by omega,he]
   ·rw[List.drop_eq_nil_of_le (by omega)];simp
  |succ n ih=>
   intro q a hq h0 h1;have AG:q<xs.length:=by omega
   obtain⟨v,e1,e2,e3⟩:=hs xs[q] (AF AG) a h0 h1;rw[D3,e3 q (Bg AG)];by_cases hv:v<0
   ·rw[if_pos hv];exact⟨-1,rfl,by omega,by omega⟩
   ·rw[if_neg hv];obtain⟨u,f1,f2,f3⟩:=ih (q+1) v (by omega) (by omega) (by omega);refine⟨u,f1,by omega,λhu=> ?_⟩;have g1:=f3 hu;have g2:=e2 (by omega);rw[Bv AG,List.map_cons,List.sum_cons];omega
 have:=key xs.length 0 a (by omega) h0 h1;simpa using this
theorem Fb{α:Type}{tot:α->Nat}:∀{xs:List α} {x:α},x∈xs->tot x<=(xs.map tot).sum
 |y::xs,x,h=>by
  rw[List.map_cons,List.sum_cons];rcases Ae.1 h with rfl|h
  ·omega
  ·have:=Fb (tot:=tot) h;omega
theorem zza{α:Type}(xs:List α)(n:Nat):(xs.map λ_=>n).sum=n*xs.length:=by
 induction xs with
 |nil=>simp
 |cons x xs ih=>rw[List.map_cons,List.sum_cons,ih,A6,Nat.mul_add];omega
def small(b:UInt8):Bool:= !(decide ((b.toNat:Int)<97)||decide ((b.toNat:Int)>122))
theorem zBl{xs:List Ap}{s:Ap}(h:xs.length<=2000000):Xx xs s=some (CT (· ==s) xs):=by unfold Xx;refine ZV (· ==s) (λi hi=> ?_) (by simp[gB]);simp only[gB,Int.ofNat_lt,hi,decide_true,if_true,AP hi,Aa,FV hi (by omega:xs.length<=_)];rw[show(s==xs[i])=(xs[i]==s)from BEq.comm];cases xs[i]==s<;>rfl
theorem zFB(xs:List Ap)(s:Ap):(xs.any λx=>x==s)=xs.contains s:=by rw[List.contains_eq_any_beq];congr 1;funext x;exact BEq.comm
theorem zEZ{xs:List Ap}{s:Ap}(h:xs.length<=2000000):Xv xs s=some (xs.contains s):=by simp only[Xv,zBl h,Aa,nR,zFB]
theorem KO{i:Nat}(h0:0<i)(h:i<=2000000):IntKind.i64.wrap ((i:Int)-1)=((i-1:Nat):Int):=by rw[CM (by omega) (by omega)];omega
theorem zFG{α β:Type}{xs:List α}{body:Int->Option (Int ⊕ Option β)}(p:α->Bool)(Mv:α->Option β)(fin:Option β)
  (hs:∀(i:Nat) (hi:i<xs.length),body i=some (if p xs[i]=true then .inr (Mv xs[i])else .inl ((i+1:Nat):Int))) (he:body xs.length=some (.inr fin)):
  Av body 0=match xs.find? p with|some x=>Mv x|none=>fin:=by
 have key:∀n q,q+n=xs.length->Av body (q:Nat)=match(xs.drop q).find? p with|some x=>Mv x|none=>fin:=by
  intro n
  induction n with
  |zero=>
   intro q hq;have:q=xs.length:=by omega
   subst this;rw[List.drop_length];exact Pk he
  |succ n ih=>
   intro q hq;have AG:q<xs.length:=by omega
   rw[Bv AG,List.find?_cons];have h1:=hs q AG;cases hp:p xs[q]with
   |true=>rw[hp,if_pos rfl]at h1;exact Pk h1
   |false=>rw[hp,if_neg (by simp)]at h1;rw[ZI h1];exact ih (q+1) (by omega)
 have:=key xs.length 0 (by omega);rw[List.drop_zero]at this;exact this
theorem zzT{α:Type}(lt:α->Bool)(x:α)(l:List α):AD lt (x::l)=if lt x=true then AD lt l+1 else 0:=by unfold AD;rw[List.takeWhile_cons];split<;>rfl
theorem zy8{x:Am}{l:List Am}(h:Ji (x::l)):(∀y∈l,bl x.ah y.ah=true)/\Ji l:=by unfold Ji DO at h;rw[List.pairwise_cons]at h;exact h
theorem zAk{l:List Am}{k:Ap}(h:∀y∈l,bl k y.ah=true):l.find? (λw=>w.ah==k)=none:=by rw[List.find?_eq_none];intro y hy;have:=Ic (h y hy);simpa using λe=>this e.symm
theorem wP{k:Ap}:∀{l:List Am},Ji l->l.find? (λw=>w.ah==k)=match l[Mb l k]? with|some w=>if w.ah=k then some w else none|none=>none
 | [],_=>by simp
 |x::l,h=>by
  obtain⟨h1,h2⟩:=zy8 h;have ih:=wP (k:=k) h2;rw[Mb,zzT,List.find?_cons];by_cases hb:bl x.ah k=true
  ·have BF:(x.ah==k)=false:=by simpa using Ic hb
   rw[if_pos hb,BF,List.getElem?_cons_succ];exact ih
  ·rw[if_neg hb,List.getElem?_cons_zero];by_cases he:x.ah=k
   ·rw[show(x.ah==k)=true by simpa using he];simp[he]
   ·rw[show(x.ah==k)=false by simpa using he];simp only[he,if_false];have hk:bl k x.ah=true:=R4 (by simpa using hb) he;exact zAk λy hy=>FT hk (h1 y hy)
theorem zEp{l:List Am}{k:Ap}(hl:l.length<=2000000)(hr:Ji l):∃i:Int,(Rc l k=some (i,true)/\ ∃w,An l i=some w/\l.find? (λw=>w.ah==k)=some w)\/(Rc l k=some (i,false)/\l.find? (λw=>w.ah==k)=none):=by
 refine⟨(Mb l k:Nat),?_⟩;rw[zGt hl hr,wP hr];by_cases hp:Mb l k<l.length
 ·rw[Bg hp];by_cases hk:(l[Mb l k]).ah=k
  ·left;simp only[hk,decide_true,if_true];exact⟨trivial,_,AP hp,rfl⟩
  ·right;simp only[hk,decide_false,if_false];exact⟨trivial,trivial⟩
 ·rw[List.getElem?_eq_none (by omega)];right;exact⟨rfl,rfl⟩
section
variable {α:Type} {key:α->Int}
def Eu(key:α->Int)(x:α):List α->List α
 | []=> [x]
 |y::l=>if key x<key y then x::y::l else y::Eu key x l
def Ce(key:α->Int)(l:List α):Prop:=l.Pairwise λa b=>key a<key b
def A0(key:α->Int)(t:Int)(y:α):Bool:=decide (key y<t)
theorem Vn(lt:α->Bool)(x:α)(l:List α):AD lt (x::l)=if lt x=true then AD lt l+1 else 0:=by unfold AD;rw[List.takeWhile_cons];split<;>rfl
theorem ZX{x:α}:∀{l:List α},(∀y∈l,key y≠key x)->Eu key x l=l.take (AD (A0 key (key x)) l)++ [x]++l.drop (AD (A0 key (key x)) l)
 | [],_=>by simp[Eu,AD]
 |y::l,h=>by
  have ih:=ZX (x:=x) (l:=l) λz hz=>h z (by simp[hz]);have hy:=h y (by simp);rw[Vn,Eu];by_cases hb:key x<key y
  ·have e:A0 key (key x) y=false:=by unfold A0;simp;omega
   rw[if_pos hb,e];simp
  ·have e:A0 key (key x) y=true:=by unfold A0;simp;omega
   rw[if_neg hb,e,if_pos rfl,ih];simp
theorem Kg{x z:α}:∀{l:List α},z∈Eu key x l↔z=x\/z∈l
 | []=>by simp[Eu]
 |y::l=>by
  rw[Eu];split
  ·simp
  ·rw[Ae,Kg,Ae];constructor
   ·rintro(h|h|h)<;>simp[h]
   ·rintro(h|h|h)<;>simp[h]
theorem nF{x:α}:∀(l:List α),(Eu key x l).length=l.length+1
 | []=>rfl
 |y::l=>by
  rw[Eu];split
  ·rfl
  ·simp[nF l]
theorem Ce.ins{x:α}:∀{l:List α},Ce key l->(∀y∈l,key y≠key x)->Ce key (Eu key x l)
 | [],_,_=>by simp[Eu,Ce]
 |y::l,h,hx=>by
  obtain⟨h1,h2⟩:=List.pairwise_cons.1 h;rw[Eu];split
  ·rename_i hb;refine List.pairwise_cons.2 ⟨λz hz=> ?_,h⟩;rcases Ae.1 hz with rfl|hz
   ·exact hb
   ·have:=h1 z hz;omega
  ·rename_i hb;refine List.pairwise_cons.2 ⟨λz hz=> ?_,Ce.ins h2 λz hz=>hx z (by simp[hz])⟩;have hy:=hx y (by simp);rcases Kg.1 hz with rfl|hz
   ·omega
   ·exact h1 z hz
theorem Ce.filter{l:List α}(h:Ce key l)(p:α->Bool):Ce key (l.filter p):=List.Pairwise.filter p h
theorem Ce.tail{x:α}{l:List α}(h:Ce key (x::l)):Ce key l:=(List.pairwise_cons.1 h).2
theorem Ce.mono{l:List α}(h:Ce key l){i j:Nat}(hj:j<l.length)(hi:i<j):key l[i]<key l[j]:=List.pairwise_iff_getElem.1 h i j (by omega) hj hi
theorem RR{t:Int}:∀{l:List α},Ce key l->l.find? (λy=>key y==t)=match l[AD (A0 key t) l]? with|some y=>if key y=t then some y else none|none=>none
 | [],_=>by simp
 |x::l,h=>by
  obtain⟨h1,h2⟩:=List.pairwise_cons.1 h;have ih:=RR (t:=t) h2;rw[Vn,List.find?_cons];by_cases hb:key x<t
  ·have e:A0 key t x=true:=by unfold A0;simpa using hb
   have BF:(key x==t)=false:=by simp;omega
   rw[e,if_pos rfl,BF,List.getElem?_cons_succ];exact ih
  ·have e:A0 key t x=false:=by unfold A0;simpa using hb
   rw[e,if_neg (by simp),List.getElem?_cons_zero];by_cases he:key x=t
   ·rw[show(key x==t)=true by simpa using he];simp[he]
   ·rw[show(key x==t)=false by simpa using he];simp only[he,if_false];rw[List.find?_eq_none];intro y hy;have:=h1 y hy;simp;omega
theorem xG{t:Int}{l:List α}(h:Ce key l):∀i j (hj:j<l.length) (hi:i<=j),A0 key t l[j]=true->A0 key t l[i]=true:=by
 intro i j hj hi AG;unfold A0 at AG ⊢;simp only[AR]at AG ⊢;by_cases he:i=j
 ·subst he;exact AG
 ·have:=h.mono hj (show i<j by omega);omega
theorem wY{t:Int}:∀{l:List α} {i:Nat},Ce key l->(hi:i<l.length)->key l[i]=t->l.take i++l.drop (i+1)=l.filter λy=>decide (key y≠t)
 | [],i,_,hi,_=>by simp at hi
 |x::l,0,h,_,hk=>by
  obtain⟨h1,_⟩:=List.pairwise_cons.1 h;have hk:key x=t:=hk;rw[List.filter_cons,if_neg (by simpa using hk)];symm;rw[List.filter_eq_self.2]
  ·rfl
  ·intro y hy;have:=h1 y hy;simp;omega
 |x::l,i+1,h,hi,hk=>by
  obtain⟨h1,h2⟩:=List.pairwise_cons.1 h;have B6:i<l.length:=by simpa using hi
  have Cp:key l[i]=t:=by simpa using hk
  have hx:key x≠t:=by have:=h1 _ (AF B6);omega
  rw[List.filter_cons,if_pos (by simpa using hx),List.take_succ_cons,List.cons_append,List.drop_succ_cons,wY h2 B6 Cp]
theorem zpu{t:Int}{l:List α}(h:l.find? (λy=>key y==t)=none):(l.filter λy=>decide (key y≠t))=l:=by rw[List.filter_eq_self];intro y hy;have:=List.find?_eq_none.1 h y hy;simpa using this
theorem Ce.len{lo hi:Int}:∀{l:List α},Ce key l->(∀y∈l,lo<=key y/\key y<=hi)->(l.length:Int)<=max 0 (hi-lo+1)
 | [],_,_=>by simp;omega
 |x::l,h,hb=>by
  obtain⟨h1,h2⟩:=List.pairwise_cons.1 h;have hx:=hb x (by simp);have:=Ce.len (lo:=key x+1) (hi:=hi) h2 λy hy=>⟨by have:=h1 y hy;omega,(hb y (by simp[hy])).2⟩
  rw[A6];omega
end
abbrev ck(c:Ai):Ap:=c.ah
abbrev G3(l:List Ai):Prop:=DO ck l
def Es(l:List Ai)(k:Ap):Option Ai:=l.find? λc=>c.ah==k
def Ul(c:Ai):Int:=match c.aw.getLast? with|some v=>v.af|none=>0
def Cg(l:List Ai)(k:Ap):Int:=match Es l k with|some c=>Ul c|none=>0
def Kl(l:List Ai)(k:Ap):List BE:=match Es l k with|some c=>c.aw|none=> []
def Ii(l:List Ai)(k:Ap)(v:BE):List Ai:=FX ck ⟨k,Kl l k++ [v]⟩ l
def HB(t:Int)(l:List Ai)(w:Am):Option (List Ai):=if t<=Cg l w.ah then none else some (Ii l w.ah ⟨t,w.bg,w.bf⟩)
def GF(t:Int)(l:List Ai)(ws:List Am):Option (List Ai):=ws.foldlM (HB t) l
def LA(l:List Ai)(ws:List Am)(t:Int):Option (List Ai):=match GF t l ws with|some o=>if Eo o=true then some o else none|none=>none
abbrev hk(h:Ax):Int:=h.al
abbrev tk(t:Bh):Int:=t.al
def CY(s:Aj)(t:Int):Option Ax:=s.ae.find? λh=>hk h==t
def Fp(s:Aj)(t:Int):Option Bh:=s.ao.find? λh=>tk h==t
def D4(h:Ax):Bu:={bb:=1,al:=h.al,af:=h.af,bq:=h.bq,ak:=h.ak,ab:=h.ab,bk:=false}
def H8(ws:List Am)(k:Ap):Bool:=ws.any λw=>w.ah==k
def B4(ws:List Am)(rs:List Ap)(os:List Am):Bool:=ws.any λw=>H8 os w.ah||rs.contains w.ah
def CQ(h:Ax)(rs:List Ap)(ws:List Am):Bool:=B4 h.ab rs ws||B4 ws h.ak h.ab
theorem zzv{a b:Int}:decide (MX a b<0)=decide (a<b):=by
 unfold MX;by_cases h:a<b
 ·simp[h]
 ·by_cases he:a=b<;>simp[h,he]
theorem zyZ{a b:Int}:(MX a b==0)=decide (a=b):=by
 unfold MX;by_cases h:a<b
 ·have: ¬a=b:=by omega
  simp[h,this]
 ·by_cases he:a=b<;>simp[h,he]
theorem zGu{l:List Ai}{k:Ap}(hl:l.length<=2000000)(hr:G3 l):Xs l k (λy0_ y1_=>O2 y0_ y1_)=some (((AD (λw:Ai=>bl w.ah k) l:Nat):Int),(match l[AD (λw:Ai=>bl w.ah k) l]? with|some w=>decide (w.ah=k)|none=>false)):=by
 unfold Xs;have hc:∀w:Ai,O2 w k=some (MT w.ah k):=λw=>by simp[O2]
 have h:=Z2 (xs:=l) (body:=λs:Int × Int=>Qw l k (λy0_ y1_=>O2 y0_ y1_) s.1 s.2) (fin:=λi=>fV l k (λy0_ y1_=>O2 y0_ y1_) i) (λw:Ai=>bl w.ah k)
  (λi j hj hi h=>by
   rcases Nat.lt_or_ge i j with Ew|Ew
   ·exact FT ((List.pairwise_iff_getElem.1 hr) i j (by omega) hj Ew) h
   ·have:i=j:=by omega
    subst this;exact h)
  (λi j Ew hj Hg=>by show Qw l k _ (i:Int) (j:Int)=_;unfold Qw;rw[if_pos (by simpa using Ew),aJ (by omega) (by omega),AP Hg,Aa];simp only[hc,Aa,zzF,BA (show(i+j)/2<=2000000 by omega)];cases bl l[(i+j)/2].ah k<;>rfl)
  (λi hi=>by show Qw l k _ (i:Int) (i:Int)=_;unfold Qw;rw[if_neg (by simp)])
 rw[h];unfold fV;by_cases hp:AD (λw:Ai=>bl w.ah k) l<l.length
 ·rw[if_pos (by simpa using hp),AP hp,Aa];simp only[hc,Aa,rM,Bg hp]
 ·rw[if_neg (by simpa using hp),List.getElem?_eq_none (by omega)]
theorem zGw{l:List Ax}{k:Int}(hl:l.length<=2000000)(hr:Ce hk l):Xr l k (λy0_ y1_=>OR y0_ y1_)=some (((AD (A0 hk k) l:Nat):Int),(match l[AD (A0 hk k) l]? with|some w=>decide (w.al=k)|none=>false)):=by
 unfold Xr;have hc:∀w:Ax,OR w k=some (MX w.al k):=λw=>by simp[OR]
 have h:=Z2 (xs:=l) (body:=λs:Int × Int=>Qx l k (λy0_ y1_=>OR y0_ y1_) s.1 s.2) (fin:=λi=>fY l k (λy0_ y1_=>OR y0_ y1_) i) (A0 hk k)
  (λi j hj hi h=>xG hr i j hj hi h)
  (λi j Ew hj Hg=>by show Qx l k _ (i:Int) (j:Int)=_;unfold Qx;rw[if_pos (by simpa using Ew),aJ (by omega) (by omega),AP Hg,Aa];simp only[hc,Aa,zzv,BA (show(i+j)/2<=2000000 by omega)];by_cases hq:l[(i+j)/2].al<k<;>simp[A0,hk,tk,hq])
  (λi hi=>by show Qx l k _ (i:Int) (i:Int)=_;unfold Qx;rw[if_neg (by simp)])
 rw[h];unfold fY;by_cases hp:AD (A0 hk k) l<l.length
 ·rw[if_pos (by simpa using hp),AP hp,Aa];simp only[hc,Aa,zyZ,Bg hp]
 ·rw[if_neg (by simpa using hp),List.getElem?_eq_none (by omega)]
theorem zGd{l:List Bh}{k:Int}(hl:l.length<=2000000)(hr:Ce tk l):Xq l k (λy0_ y1_=>OS y0_ y1_)=some (((AD (A0 tk k) l:Nat):Int),(match l[AD (A0 tk k) l]? with|some w=>decide (w.al=k)|none=>false)):=by
 unfold Xq;have hc:∀w:Bh,OS w k=some (MX w.al k):=λw=>by simp[OS]
 have h:=Z2 (xs:=l) (body:=λs:Int × Int=>Qy l k (λy0_ y1_=>OS y0_ y1_) s.1 s.2) (fin:=λi=>fX l k (λy0_ y1_=>OS y0_ y1_) i) (A0 tk k)
  (λi j hj hi h=>xG hr i j hj hi h)
  (λi j Ew hj Hg=>by show Qy l k _ (i:Int) (j:Int)=_;unfold Qy;rw[if_pos (by simpa using Ew),aJ (by omega) (by omega),AP Hg,Aa];simp only[hc,Aa,zzv,BA (show(i+j)/2<=2000000 by omega)];by_cases hq:l[(i+j)/2].al<k<;>simp[A0,hk,tk,hq])
  (λi hi=>by show Qy l k _ (i:Int) (i:Int)=_;unfold Qy;rw[if_neg (by simp)])
 rw[h];unfold fX;by_cases hp:AD (A0 tk k) l<l.length
 ·rw[if_pos (by simpa using hp),AP hp,Aa];simp only[hc,Aa,zyZ,Bg hp]
 ·rw[if_neg (by simpa using hp),List.getElem?_eq_none (by omega)]
theorem V0{β:Type}{body:Int->Option (Int ⊕ Option β)}{fin:Option β}(m:Nat)(he:body (m:Nat)=some (.inr fin)):∀n:Nat,m<=n->(∀i:Nat,m<=i->i<n->body ((i+1:Nat):Int)=some (.inl (i:Int)))->Av body (n:Nat)=fin
 |0,h,_=>by
  have e:m=0:=by omega
  subst e;exact Pk he
 |n+1,h,hs=>by
  by_cases e:m=n+1
  ·subst e;exact Pk he
  ·rw[ZI (hs n (by omega) (by omega))];exact V0 m he n (by omega) λi h1 h2=>hs i h1 (by omega)
theorem zxy{α:Type}{vs:List α}(h:vs≠ [])(hl:vs.length<=2000000):An vs (IntKind.i64.wrap ((vs.length:Int)-1))=some (vs.getLast h):=by
 have hp:0<vs.length:=by cases vs with|nil=>exact absurd rfl h|cons=>simp
 rw[KO hp hl,AP (by omega),List.getLast_eq_getElem]
def Dw(n:Nat)(l:List Ai):Prop:=G3 l/\(l.length<=n/\ ∀c∈l,c.aw≠ []/\(c.aw.length<=n/\Xb c))
theorem Zu{l:List Ai}{k:Ap}{c:Ai}(h:Es l k=some c):c∈l/\c.ah=k:=⟨List.mem_of_find?_eq_some h,by have:=List.find?_some h;simpa using this⟩
theorem VH{l:List Ai}{k:Ap}{c:Ai}(hr:G3 l)(hc:c∈l)(hk:c.ah=k):Es l k=some c:=by
 cases h:Es l k with
 |none=>have:=List.find?_eq_none.1 h c hc;simp[hk]at this
 |some d=>obtain⟨h1,h2⟩:=Zu h;rw[DO.jd (key:=ck) hr h1 hc (by rw[ck,ck,h2,hk])]
theorem oI{l:List Ai}{k:Ap}(h:∀c∈l,c.ah≠k):Es l k=none:=by unfold Es;rw[List.find?_eq_none];intro y hy;simpa using h y hy
abbrev Bn(l:List Ai)(k:Ap):Nat:=AD (λw:Ai=>bl w.ah k) l
theorem sJ(l:List Ai)(k:Ap):Bn l k<=l.length:=Nq _ l
theorem Vg{l:List Ai}(hr:G3 l)(k:Ap):(∃h:Bn l k<l.length,l[Bn l k].ah=k/\Es l k=some l[Bn l k])\/((∀c∈l,c.ah≠k)/\Es l k=none/\ ∀h:Bn l k<l.length,bl k l[Bn l k].ah=true):=by
 have WO:=List.pairwise_iff_getElem.1 hr;by_cases hp:Bn l k<l.length
 ·by_cases hk:l[Bn l k].ah=k
  ·exact .inl ⟨hp,hk,VH hr (AF hp) hk⟩
  ·right;have hn:bl (l[Bn l k]'hp).ah k=false:=aE hp;have hg:bl k l[Bn l k].ah=true:=R4 hn hk;have BV:∀c∈l,c.ah≠k:=by
    intro c hc e;obtain⟨j,hj,rfl⟩:=List.mem_iff_getElem.1 hc;rcases Nat.lt_trichotomy j (Bn l k)with h|h|h
    ·exact Ic (Sm h) e
    ·subst h;exact hk e
    ·have:=WO (Bn l k) j hp hj h;rw[ck,ck,e,Nh hg]at this;cases this
   exact⟨BV,oI BV,λ_=>hg⟩
 ·right;have BV:∀c∈l,c.ah≠k:=by
   intro c hc e;obtain⟨j,hj,rfl⟩:=List.mem_iff_getElem.1 hc;exact Ic (Sm (lt:=λw:Ai=>bl w.ah k) (show j<Bn l k by omega)) e
  exact⟨BV,oI BV,λh=>absurd h hp⟩
theorem mZ{l:List Ai}{k:Ap}(hl:l.length<=2000000)(hr:G3 l):RJ l k=some (((Bn l k:Nat):Int),(Es l k).isSome):=by
 unfold RJ;rw[zGu hl hr,Aa];rcases Vg hr k with⟨hp,hk,hf⟩|⟨hn,hf,hg⟩
 ·rw[hf];simp[Bg hp,hk]
 ·rw[hf];by_cases hp:Bn l k<l.length
  ·have hk:l[Bn l k].ah≠k:=hn _ (AF hp);simp[Bg hp,hk]
  ·simp[List.getElem?_eq_none (show l.length<=Bn l k by omega)]
theorem rW{l:List Ai}{k:Ap}(hl:l.length<=2000000)(hr:G3 l):∃i:Int,Vk l k=some i/\((i<0/\Es l k=none)\/(0<=i/\ ∃c,An l i=some c/\Es l k=some c)):=by
 refine⟨CT (λc:Ai=>c.ah==k) l,?_,?_⟩
 ·unfold Vk;refine ZV (λc:Ai=>c.ah==k) (λi hi=> ?_) ?_
  ·unfold jK;rw[if_pos (by simpa using hi),AP hi,Aa,BA (by omega)];cases l[i].ah==k<;>rfl
  ·unfold jK;rw[if_neg (by simp)]
 ·by_cases h:CT (λc:Ai=>c.ah==k) l>=0
  ·obtain⟨x,h1,h2,h3⟩:=nM h;exact .inr ⟨h,x,h1,VH hr h3 (by simpa using h2)⟩
  ·refine .inl ⟨by omega,?_⟩;have:=nR (λc:Ai=>c.ah==k) l;rw[decide_eq_false h]at this;unfold Es;rw[List.find?_eq_none];intro y hy hq;have:=List.any_eq_false.1 this.symm y hy;exact this hq
theorem xF{l:List Ai}{k:Ap}{c:Ai}(h:Es l k=some c)(hv:c.aw≠ []):Cg l k=(c.aw.getLast hv).af:=by unfold Cg;rw[h];show Ul c=_;unfold Ul;rw[List.getLast?_eq_some_getLast hv]
theorem Sn{n:Nat}{l:List Ai}{k:Ap}(hn:n<=1000)(h:Dw n l):O7 l k=some (Cg l k):=by
 obtain⟨hr,hl,hc⟩:=h;unfold O7;obtain⟨i,e,⟨h1,h2⟩|⟨h1,c,h2,h3⟩⟩:=rW (l:=l) (k:=k) (by omega) hr
 ·rw[e,Aa,if_pos (by simpa using h1)];unfold Cg;rw[h2]
 ·obtain⟨hv,hw,_⟩:=hc c (Zu h3).1;rw[e,Aa,if_neg (by simpa using h1),h2,Aa,zxy hv (by omega),Aa,xF h3 hv]
theorem V4{n:Nat}{l:List Ai}{k:Ap}(hn:n<=1000)(h:Dw n l):RC l k=some (Cg l k):=by
 obtain⟨hr,hl,hc⟩:=h;unfold RC;rw[mZ (by omega) hr,Aa];rcases Vg hr k with⟨hp,hk,hf⟩|⟨_,hf,_⟩
 ·obtain⟨hv,hw,_⟩:=hc _ (AF hp);rw[hf,if_neg (by simp)];rw[AP hp,Aa,zxy hv (by omega),Aa,xF hf hv]
 ·rw[hf];simp only[Option.isSome_none,Bool.not_false,if_true];unfold Cg;rw[hf]
theorem zxu{l:List Ai}{k:Ap}{v:BE}(hr:G3 l)(hp:Bn l k<l.length)(hk:l[Bn l k].ah=k):Ii l k v=l.set (Bn l k) ⟨k,l[Bn l k].aw++ [v]⟩:=by unfold Ii;rw[nK hr];rw[show AD (λy=>bl (ck y) (ck (⟨k,Kl l k++ [v]⟩:Ai))) l=Bn l k from rfl,Bg hp];show(if l[Bn l k].ah=k then _ else _)=_;rw[if_pos hk];unfold Kl;rw[VH hr (AF hp) hk]
theorem zN{l:List Ai}{k:Ap}{v:BE}(hr:G3 l)(hn:∀c∈l,c.ah≠k):Ii l k v=l.take (Bn l k)++ [⟨k,[v]⟩]++l.drop (Bn l k):=by
 have hv:Kl l k=[]:=by unfold Kl;rw[oI hn]
 unfold Ii;rw[nK hr,hv];rw[show AD (λy=>bl (ck y) (ck (⟨k,[]++ [v]⟩:Ai))) l=Bn l k from rfl];by_cases hp:Bn l k<l.length
 ·rw[Bg hp];show(if l[Bn l k].ah=k then _ else _)=_;rw[if_neg (hn _ (AF hp))];rfl
 ·rw[List.getElem?_eq_none (by omega)];rfl
theorem Dw.add{n:Nat}{l:List Ai}{k:Ap}{v:BE}(h:Dw n l)(hn:n<=1000)(hk:k.length<=2000000)(hv:v.bg.length<=2000000):Dw (n+1) (Ii l k v):=by
 obtain⟨hr,hl,hc⟩:=h;have T4:(Kl l k).length<=n/\ ∀v∈Kl l k,v.bg.length<=2000000:=by
  unfold Kl;cases e:Es l k with
  |none=>exact⟨by simp,λv hv=>by simp at hv⟩
  |some c=>obtain⟨_,h2,h3⟩:=hc c (Zu e).1;exact⟨h2,h3.2.2⟩
 refine⟨Vw hr,?_,?_⟩
 ·have:=ZT (key:=ck) (x:=(⟨k,Kl l k++ [v]⟩:Ai)) l;unfold Ii;omega
 ·intro c FY;rcases(Nk (key:=ck) hr c).1 FY with rfl|⟨hm,_⟩
  ·refine⟨by simp,by simp;omega,hk,by simp;omega,?_⟩;intro x hx;rcases Ac.1 hx with hx|hx
   ·exact T4.2 x hx
   ·have:x=v:=by simpa using hx
    subst this;exact hv
  ·obtain⟨h1,h2,h3⟩:=hc c hm;exact⟨h1,by omega,h3⟩
def Nt(ws:List Am):Prop:=ws.length<=100/\ ∀w∈ws,w.ah.length<=2000000/\w.bg.length<=2000000
theorem sB{c:Ai}{k:Ap}{vs:List BE}(h:c.ah=k):({c with aw:=vs}:Ai)=⟨k,vs⟩:=by subst h;rfl
theorem zEd{α:Type}{A B:List α}{a:α}{p:Nat}(h:A.length=p):An (A++ [a]++B) (p:Int)=some a:=by
 have hp:p<(A++ [a]++B).length:=by simp;omega
 rw[AP hp];subst h;simp
theorem zEe{α:Type}{A B:List α}{a b:α}{p:Nat}(h:A.length=p):(A++ [a]++B).set p b=A++ [b]++B:=by subst h;simp
theorem Dw.small{n:Nat}{l:List Ai}(h:Dw n l)(hn:n<=1000):Pz l:=⟨by have:=h.2.1;omega,λc hc=>(h.2.2 c hc).2.2⟩
theorem Xd{α:Type}(l:List α)(p:Nat):A3 l 0 (p:Int)=l.take p:=by unfold A3;simp
theorem Ur{α:Type}(l:List α)(p:Nat):A3 l (p:Int) (l.length:Int)=l.drop p:=by unfold A3;rw[Bw,Bw,List.take_of_length_le (AI _)]
theorem oZ{t:Int}:∀{ws:List Am} {n:Nat} {l o:List Ai},n+ws.length<=1000->(∀w∈ws,w.ah.length<=2000000/\w.bg.length<=2000000)->Dw n l->GF t l ws=some o->Dw (n+ws.length) o:=by
 intro ws
 induction ws with
 |nil=>intro n l o _ _ h e;cases e;exact h
 |cons w vs ih=>
  intro n l o hn hs h e;unfold GF at e;rw[List.foldlM_cons]at e;cases e1:HB t l w with
  |none=>rw[e1]at e;cases e
  |some l1=>
   rw[e1]at e;have e:GF t l1 vs=some o:=e;unfold HB at e1;split at e1
   ·cases e1
   ·cases e1;rw[A6]at hn ⊢;have:=ih (n:=n+1) (by omega) (λw hw=>hs w (by simp[hw])) (Dw.add h (by omega) (hs w (by simp)).1 (hs w (by simp)).2) e;rwa[show n+(vs.length+1)=n+1+vs.length by omega]
theorem zDR{l:List Ai}{ws:List Am}{t:Int}(h:Dw 24 l)(hw:Nt ws):Yo l ws t=some (match LA l ws t with|some o=>(o,true)|none=>([],false)):=by
 have hC:Rb l=some l:=Ba ⟨by have:=h.2.1;omega,λc hc=>by have:=(h.2.2 c hc).2.1;omega⟩;unfold Yo;rw[hC,Aa];have key:=Sa (xs:=ws) (body:=λs:Int × List Ai=>QM ws t s.1 s.2) (λi s=>((i:Int),s)) (HB t) (some ([],false)) (λs=>X8 s) (λi s=>Dw (24+i) s)
  (λi acc hi hI=>by
   have T6:=hw.2 _ (AF hi);have hn:=hw.1;obtain⟨hr,hl,hc⟩:=hI;refine⟨?_,λa ha=> ?_⟩
   ·show QM ws t (i:Int) acc=_;unfold QM;rw[if_pos (by simpa using hi),AP hi,Aa,V4 (n:=24+i) (by omega) ⟨hr,hl,hc⟩,Aa];unfold HB;by_cases ht:t<=Cg acc ws[i].ah
    ·rw[if_pos (by simpa using ht),if_pos ht]
    ·rw[if_neg (by simpa using ht),if_neg ht,mZ (by omega) hr,Aa,BA (by omega)];rcases Vg hr ws[i].ah with⟨hp,hk,hf⟩|⟨DR,hf,_⟩
     ·have h1:=(hc _ (AF hp)).2.1;rw[hf];simp only[Option.isSome_some,Bool.not_true,AW,if_false];rw[AP hp,Aa,Ba (by simp only[Bk];omega),Bw,zxu hr hp hk];refine congrArg (λz=>some (Sum.inl (((i+1:Nat):Int),z))) (congrArg (acc.set _) ?_);exact sB hk
     ·have Gm:=sJ acc ws[i].ah;have hA:(acc.take (Bn acc ws[i].ah)).length=Bn acc ws[i].ah:=by simp;omega
      have hIn:H4 acc ((Bn acc ws[i].ah:Nat):Int) [(⟨ws[i].ah,[]⟩:Ai)]=some (acc.take (Bn acc ws[i].ah)++ [⟨ws[i].ah,[]⟩]++acc.drop (Bn acc ws[i].ah)):=by unfold H4;rw[Ba ⟨by omega,by omega,by simp,by simp only[Bk];omega⟩,Bw]
      rw[hf];simp only[Option.isSome_none,Bool.not_false,if_true];rw[hIn,Aa,zEd hA,Aa,Ba (by simp[RM]),Bw,zEe hA,zN hr DR];rfl
   ·unfold HB at ha;split at ha
    ·cases ha
    ·cases ha;exact Dw.add (n:=24+i) ⟨hr,hl,hc⟩ (by omega) T6.1 T6.2)
  (λacc _=>by show QM ws t (ws.length:Int) acc=_;unfold QM;rw[if_neg (by simp)]) l h
 refine key.trans ?_;unfold LA GF;have AZ:∀o,ws.foldlM (HB t) l=some o->Dw (24+ws.length) o:=λo ho=>oZ (by have:=hw.1;omega) hw.2 h ho;cases ho:ws.foldlM (HB t) l with
 |none=>rfl
 |some o=>show X8 o=some (match(if Eo o=true then some o else none)with|some o=>(o,true)|none=>([],false));unfold X8;rw[oE ((AZ o ho).small (by have:=hw.1;omega)),Aa];cases Eo o<;>rfl
theorem zzB{l:List Ai}(h:Dw 24 l):Vj l=some l:=by
 unfold Vj;have:=(FC (xs:=l) (body:=λs:List Ai × Int=>Rz l s.1 s.2) (λi s=>(s,i)) (λo c=>o++ [c]) (λo=>some o) (λi o=>o.length=i)
  (λi hi o ho=>by have h1:=h.2.1;have h2:=(h.2.2 _ (AF hi)).2.1;refine⟨?_,by simp[ho]⟩;show Rz l o (i:Int)=_;unfold Rz;rw[if_pos (by simpa using hi),AP hi,Aa,Ba (by simp only[List.length_nil];omega),Ba (by simp only[Bk];omega),BA (by omega)])
  (λo ho=>by show Rz l o (l.length:Int)=_;unfold Rz;rw[if_neg (by simp)]) (s:=[]) rfl).1
 refine this.trans ?_;have e:=foldl_map (λc:Ai=>c) l [];simpa using e
theorem zDN{l:List Ai}{ws:List Am}{t:Int}(h:Dw 24 l)(hw:Nt ws)(h0:0<t):Zf l ws t=some (match GF t l ws with|some o=>(o,Eo o)|none=>([],false)):=by
 unfold Zf;rw[zzB h,Aa];have key:=Sa (xs:=ws) (body:=λs:Int × List Ai=>RF ws t s.1 s.2) (λi s=>((i:Int),s)) (HB t) (some ([],false)) (λs=>Yh s) (λi s=>Dw (24+i) s)
  (λi acc hi hI=>by
   have T6:=hw.2 _ (AF hi);have hn:=hw.1;obtain⟨hr,hl,hc⟩:=hI;have WO:=List.pairwise_iff_getElem.1 hr;have Gm:=sJ acc ws[i].ah;refine⟨?_,λa ha=> ?_⟩
   ·show RF ws t (i:Int) acc=_;unfold RF;rw[if_pos (by simpa using hi),AP hi,Aa];have down:∀m:Nat,(∀j (hj:j<acc.length),m<=j->bl ws[i].ah acc[j].ah=true)-> ∀j:Nat,m<=j->j<acc.length->O3 t (i:Int) acc ws[i] ((j+1:Nat):Int)=some (.inl (j:Int)):=by
     intro m hm j h1 h2;unfold O3;rw[if_pos (by simp),KO (by omega) (by omega),show j+1-1=j by omega,AP h2,Aa,VM,if_pos (by rw[Bool.not_not];exact hm j h2 h1)]
    rcases Vg hr ws[i].ah with⟨hp,hk,hf⟩|⟨DR,hf,hg⟩
    ·have hv:=(hc _ (AF hp))
     have stop:O3 t (i:Int) acc ws[i] ((Bn acc ws[i].ah+1:Nat):Int)=some (.inr (RH t (i:Int) acc ws[i] ((Bn acc ws[i].ah+1:Nat):Int))):=by unfold O3;rw[if_pos (by simp),KO (by omega) (by omega),show Bn acc ws[i].ah+1-1=Bn acc ws[i].ah by omega,AP hp,Aa,VM,if_neg (by rw[hk];rw[show Op.bytesLess ws[i].ah ws[i].ah=false from Kc _];simp)]
     rw[V0 (Bn acc ws[i].ah+1) stop acc.length (by omega) (down _ λj hj h1=>by rw[<-hk];exact WO _ j hp hj (by omega))];unfold RH;rw[if_pos (by simp),KO (by omega) (by omega),show Bn acc ws[i].ah+1-1=Bn acc ws[i].ah by omega,AP hp,Aa,if_pos (by simpa using hk),Sn (n:=24+i) (by omega) ⟨hr,hl,hc⟩,Aa];unfold HB;by_cases ht:t<=Cg acc ws[i].ah
     ·rw[if_pos (by simpa using ht),if_pos ht]
     ·rw[if_neg (by simpa using ht),if_neg ht,Ba (by simp only[Bk];omega),Bw,zxu hr hp hk,BA (by omega)];refine congrArg (λz=>some (Sum.inl (((i+1:Nat):Int),z))) (congrArg (acc.set _) ?_);exact sB hk
    ·have ht: ¬t<=Cg acc ws[i].ah:=by unfold Cg;rw[hf];show¬t<=0;omega
     have bW:∀j (hj:j<acc.length),Bn acc ws[i].ah<=j->bl ws[i].ah acc[j].ah=true:=by
      intro j hj h1;have hp:Bn acc ws[i].ah<acc.length:=by omega
      rcases Nat.lt_or_ge (Bn acc ws[i].ah) j with h2|h2
      ·exact FT (hg hp) (WO _ j hp hj h2)
      ·have e:Bn acc ws[i].ah=j:=by omega
       have:=hg hp;simp only[e]at this;exact this
     have stop:O3 t (i:Int) acc ws[i] ((Bn acc ws[i].ah:Nat):Int)=some (.inr (RH t (i:Int) acc ws[i] ((Bn acc ws[i].ah:Nat):Int))):=by
      unfold O3;by_cases h0:Bn acc ws[i].ah=0
      ·rw[if_neg (by simp[h0])]
      ·have hb:bl (acc[Bn acc ws[i].ah-1]'(by omega)).ah ws[i].ah=true:=Sm (lt:=λw:Ai=>bl w.ah ws[i].ah) (show Bn acc ws[i].ah-1<Bn acc ws[i].ah by omega);rw[if_pos (by simp;omega),KO (by omega) (by omega),AP (show Bn acc ws[i].ah-1<acc.length by omega),Aa,VM,if_neg (by rw[show Op.bytesLess ws[i].ah _=false from Nh hb];simp)]
     rw[V0 (Bn acc ws[i].ah) stop acc.length (by omega) (down _ bW)];have body:(AL (0<=((Bn acc ws[i].ah:Nat):Int)/\((Bn acc ws[i].ah:Nat):Int)<=(acc.length:Int)/\(acc.length:Int)<=(acc.length:Int))<|
       AL (0<=((Bn acc ws[i].ah:Nat):Int)/\((Bn acc ws[i].ah:Nat):Int)<=(acc.length:Int)/\(acc.length:Int)<=(acc.length:Int))<|
       AL (((([]:List Ai).length:Int)+(((A3 acc ((Bn acc ws[i].ah:Nat):Int) (acc.length:Int))).length:Int))*40<=140737488355328/\(([]:List Ai).length:Int)+(((A3 acc ((Bn acc ws[i].ah:Nat):Int) (acc.length:Int))).length:Int)<=140737488355328)<|
       AL (0<=(0:Int)/\(0:Int)<=((Bn acc ws[i].ah:Nat):Int)/\((Bn acc ws[i].ah:Nat):Int)<=(acc.length:Int))<|
       AL (((([]:List Ai).length:Int)+(((A3 acc 0 ((Bn acc ws[i].ah:Nat):Int))).length:Int))*40<=140737488355328/\(([]:List Ai).length:Int)+(((A3 acc 0 ((Bn acc ws[i].ah:Nat):Int))).length:Int)<=140737488355328)<|
       AL (((((A3 acc 0 ((Bn acc ws[i].ah:Nat):Int))).length:Int)+(([(⟨ws[i].ah,[(⟨t,ws[i].bg,ws[i].bf⟩:BE)]⟩:Ai)]:List Ai).length:Int))*40<=140737488355328/\(((A3 acc 0 ((Bn acc ws[i].ah:Nat):Int))).length:Int)+(([(⟨ws[i].ah,[(⟨t,ws[i].bg,ws[i].bf⟩:BE)]⟩:Ai)]:List Ai).length:Int)<=140737488355328)<|
       AL ((((((A3 acc 0 ((Bn acc ws[i].ah:Nat):Int))++ [(⟨ws[i].ah,[(⟨t,ws[i].bg,ws[i].bf⟩:BE)]⟩:Ai)])).length:Int)+(((A3 acc ((Bn acc ws[i].ah:Nat):Int) (acc.length:Int))).length:Int))*40<=140737488355328/\((((A3 acc 0 ((Bn acc ws[i].ah:Nat):Int))++ [(⟨ws[i].ah,[(⟨t,ws[i].bg,ws[i].bf⟩:BE)]⟩:Ai)])).length:Int)+(((A3 acc ((Bn acc ws[i].ah:Nat):Int) (acc.length:Int))).length:Int)<=140737488355328)<|
       (some (.inl ((IntKind.i64.wrap ((i:Int)+1)),(((A3 acc 0 ((Bn acc ws[i].ah:Nat):Int))++ [(⟨ws[i].ah,[(⟨t,ws[i].bg,ws[i].bf⟩:BE)]⟩:Ai)])++(A3 acc ((Bn acc ws[i].ah:Nat):Int) (acc.length:Int))))):Option ((Int × List Ai) ⊕ Option (List Ai × Bool))))=some (.inl (((i+1:Nat):Int),Ii acc ws[i].ah ⟨t,ws[i].bg,ws[i].bf⟩)):=by
      rw[Xd,Ur,zN hr DR,BA (by omega)];rw[Ba (by omega),Ba (by omega),Ba (by simp only[BD,List.length_nil];omega),Ba (by omega),Ba (by simp only[Au,List.length_nil];omega),Ba (by simp only[Au,Bk];omega),Ba (by simp only[AO,BD,Au,Bk];omega)]
     have e1:HB t acc ws[i]=some (Ii acc ws[i].ah ⟨t,ws[i].bg,ws[i].bf⟩):=by unfold HB;rw[if_neg ht]
     rw[e1];unfold RH;by_cases h0:Bn acc ws[i].ah=0
     ·rw[if_neg (by simp[h0])];exact body
     ·have BF:(acc[Bn acc ws[i].ah-1]'(by omega)).ah≠ws[i].ah:=DR _ (AF _);rw[if_pos (by simp;omega),KO (by omega) (by omega),AP (show Bn acc ws[i].ah-1<acc.length by omega),Aa,if_neg (by simpa using BF)];exact body
   ·unfold HB at ha;split at ha
    ·cases ha
    ·cases ha;exact Dw.add (n:=24+i) ⟨hr,hl,hc⟩ (by omega) T6.1 T6.2)
  (λacc _=>by show RF ws t (ws.length:Int) acc=_;unfold RF;rw[if_neg (by simp)]) l h
 refine key.trans ?_;unfold GF;cases ho:ws.foldlM (HB t) l with
 |none=>rfl
 |some o=>show Yh o=some (o,Eo o);unfold Yh;rw[nQ ((oZ (by have:=hw.1;omega) hw.2 h ho).small (by have:=hw.1;omega)),Aa]
theorem yU{α:Type}(q:α->Bool):∀xs:List α,xs.find? q=xs[AD (λx=> !q x) xs]?
 | []=>by simp
 |x::xs=>by
  rw[Vn,List.find?_cons];cases hq:q x with
  |true=>simp
  |false=>simpa using yU q xs
theorem Pg{α β:Type}{xs:List α}{body:Int->Option (Int ⊕ Option β)}(q:α->Bool)(F:α->Option β)(fin:Option β)
  (hs:∀i (h:i<xs.length),body (i:Nat)=some (if q xs[i]=true then .inr (F xs[i])else .inl ((i+1:Nat):Int))) (he:body (xs.length:Nat)=some (.inr fin)):Av body 0=match xs.find? q with|some x=>F x|none=>fin:=by
 rw[yU,oA (λx=> !q x) (λi=>match xs[i.toNat]? with|some x=>F x|none=>fin) (λi h=> ?_) ?_]
 ·rw[Bw]
 ·rw[he,Bw,List.getElem?_eq_none (AI _)]
 ·rw[hs i h,Bw,Bg h];cases q xs[i]<;>rfl
theorem Sb{α:Type}(q:α->Bool)(xs:List α):(xs.find? q).isSome=xs.any q:=by rw[Bool.eq_iff_iff,List.find?_isSome,List.any_eq_true]
theorem rU{ws:List Am}{k:Ap}(h:ws.length<=2000000):U4 ws k=some (H8 ws k):=by
 unfold U4;rw[Pg (xs:=ws) (λw=>w.ah==k) (λ_=>some true) (some false) (λi hi=> ?_) ?_]
 ·unfold H8;rw[<-Sb];cases ws.find? (λw=>w.ah==k)<;>rfl
 ·unfold gM;rw[if_neg (by simp)]
 ·unfold gM;rw[if_pos (by simpa using hi),AP hi,Aa,BA (by omega)];cases ws[i].ah==k<;>rfl
theorem zE1{ks:List Ap}{k:Ap}(h:ks.length<=2000000):Y1 ks k=some (ks.any (· ==k)):=by
 unfold Y1;rw[Pg (xs:=ks) (λw=>w==k) (λ_=>some true) (some false) (λi hi=> ?_) ?_]
 ·rw[<-Sb];cases ks.find? (λw=>w==k)<;>rfl
 ·unfold jB;rw[if_neg (by simp)]
 ·unfold jB;rw[if_pos (by simpa using hi),AP hi,Aa,BA (by omega)];cases ks[i]==k<;>rfl
theorem ZG{s:Aj}{t:Int}(h:s.ae.length<=2000000):J9 s t=some (match CY s t with|some h=>(h,true)|none=>((⟨0,0,0,[],[]⟩:Ax),false)):=by
 unfold J9;rw[Pg (xs:=s.ae) (λw=>hk w==t) (λh=>some (h,true)) (some ((⟨0,0,0,[],[]⟩:Ax),false)) (λi hi=> ?_) ?_]
 ·unfold CY;cases s.ae.find? (λw=>hk w==t)<;>rfl
 ·unfold gT;rw[if_neg (by simp)]
 ·unfold gT;rw[if_pos (by simpa using hi),AP hi,Aa,BA (by omega)];unfold hk;cases s.ae[i].al==t<;>rfl
theorem xR{s:Aj}{t:Int}(h:s.ao.length<=2000000):UM s t=some (match Fp s t with|some h=>(h,true)|none=>((⟨0,false,0⟩:Bh),false)):=by
 unfold UM;rw[Pg (xs:=s.ao) (λw=>tk w==t) (λh=>some (h,true)) (some ((⟨0,false,0⟩:Bh),false)) (λi hi=> ?_) ?_]
 ·unfold Fp;cases s.ao.find? (λw=>tk w==t)<;>rfl
 ·unfold gU;rw[if_neg (by simp)]
 ·unfold gU;rw[if_pos (by simpa using hi),AP hi,Aa,BA (by omega)];unfold tk;cases s.ao[i].al==t<;>rfl
theorem wD{α:Type}{key:α->Int}{l:List α}{t:Int}(hr:Ce key l):(l.find? (λy=>key y==t)).isSome=(match l[AD (A0 key t) l]? with|some w=>decide (key w=t)|none=>false):=by
 rw[RR hr];cases l[AD (A0 key t) l]? with
 |none=>rfl
 |some w=>by_cases h:key w=t<;>simp[h]
theorem VK{s:Aj}{t:Int}(hl:s.ae.length<=2000000)(hr:Ce hk s.ae):KE s t=some (((AD (A0 hk t) s.ae:Nat):Int),(CY s t).isSome):=by unfold KE CY;rw[zGw hl hr,Aa,wD hr];cases s.ae[AD (A0 hk t) s.ae]?<;>rfl
theorem VN{s:Aj}{t:Int}(hl:s.ao.length<=2000000)(hr:Ce tk s.ao):M3 s t=some (((AD (A0 tk t) s.ao:Nat):Int),(Fp s t).isSome):=by unfold M3 Fp;rw[zGd hl hr,Aa,wD hr];cases s.ao[AD (A0 tk t) s.ao]?<;>rfl
theorem zX{α:Type}{key:α->Int}{l:List α}{t:Int}(h:Ce key l):(∀j (hj:j<l.length),AD (A0 key (t+1)) l<=j->t<key l[j])/\ ∀j (hj:j<l.length),j<AD (A0 key (t+1)) l->key l[j]<=t:=by
 constructor
 ·intro j hj hp;have h1:AD (A0 key (t+1)) l<l.length:=by omega
  have h2: ¬(key (l[AD (A0 key (t+1)) l]'h1)<t+1):=of_decide_eq_false (aE h1);by_cases e:AD (A0 key (t+1)) l=j
  ·subst e;omega
  ·have:=h.mono hj (show AD (A0 key (t+1)) l<j by omega);omega
 ·intro j hj hp;have:key l[j]<t+1:=of_decide_eq_true (Sm (lt:=A0 key (t+1)) hp);omega
theorem zAz{α:Type}{key:α->Int}{l:List α}{t:Int}(hn:∀y∈l,key y≠t):AD (A0 key (t+1)) l=AD (A0 key t) l:=by
 induction l with
 |nil=>rfl
 |cons x l ih=>
  rw[Vn,Vn,ih λy hy=>hn y (by simp[hy])];have:=hn x (by simp);have e:A0 key (t+1) x=A0 key t x:=by unfold A0;rw[decide_eq_decide];omega
  rw[e]
theorem yE{α:Type}{key:α->Int}{l:List α}{x:α}(hn:∀y∈l,key y≠key x):Eu key x l=l.take (AD (A0 key (key x+1)) l)++ [x]++l.drop (AD (A0 key (key x+1)) l):=by rw[zAz hn];exact ZX hn
theorem zyH{l:List Ax}{h:Ax}(hl:l.length<=1000)(hr:Ce hk l):∃r,XW l h=some r/\((∀y∈l,hk y≠hk h)->r=Eu hk h l):=by
 have hp:=Nq (A0 hk (hk h+1)) l;obtain⟨h1,h2⟩:=zX (t:=hk h) hr;refine⟨_,?_,λhn=>(yE hn).symm⟩;unfold XW;rw[V0 (AD (A0 hk (hk h+1)) l) (fin:=XS l h ((AD (A0 hk (hk h+1)) l:Nat):Int)) ?_ l.length hp λj h3 h4=> ?_]
 ·unfold XS;rw[Xd,Ur,Ba (by omega),Ba (by simp only[BD,List.length_nil];omega),Ba (by omega),Ba (by simp only[Au,List.length_nil];omega),Ba (by simp only[Au,Bk];omega),Ba (by simp only[AO,BD,Au,Bk];omega)]
 ·unfold gF;by_cases h0:AD (A0 hk (hk h+1)) l=0
  ·rw[if_neg (by simp[h0])]
  ·have:=h2 (AD (A0 hk (hk h+1)) l-1) (by omega) (by omega);rw[if_pos (by simp;omega),KO (by omega) (by omega),AP (show AD (A0 hk (hk h+1)) l-1<l.length by omega),Aa,if_neg (by simpa using this)]
 ·have:=h1 j h4 h3;unfold gF;rw[if_pos (by simp),KO (by omega) (by omega),show j+1-1=j by omega,AP h4,Aa,if_pos (by simpa using this)]
theorem zx0{l:List Bh}{h:Bh}(hl:l.length<=1000)(hr:Ce tk l):∃r,UT l h=some r/\((∀y∈l,tk y≠tk h)->r=Eu tk h l):=by
 have hp:=Nq (A0 tk (tk h+1)) l;obtain⟨h1,h2⟩:=zX (t:=tk h) hr;refine⟨_,?_,λhn=>(yE hn).symm⟩;unfold UT;rw[V0 (AD (A0 tk (tk h+1)) l) (fin:=XT l h ((AD (A0 tk (tk h+1)) l:Nat):Int)) ?_ l.length hp λj h3 h4=> ?_]
 ·unfold XT;rw[Xd,Ur,Ba (by omega),Ba (by simp only[BD,List.length_nil];omega),Ba (by omega),Ba (by simp only[Au,List.length_nil];omega),Ba (by simp only[Au,Bk];omega),Ba (by simp only[AO,BD,Au,Bk];omega)]
 ·unfold gG;by_cases h0:AD (A0 tk (tk h+1)) l=0
  ·rw[if_neg (by simp[h0])]
  ·have:=h2 (AD (A0 tk (tk h+1)) l-1) (by omega) (by omega);rw[if_pos (by simp;omega),KO (by omega) (by omega),AP (show AD (A0 tk (tk h+1)) l-1<l.length by omega),Aa,if_neg (by simpa using this)]
 ·have:=h1 j h4 h3;unfold gG;rw[if_pos (by simp),KO (by omega) (by omega),show j+1-1=j by omega,AP h4,Aa,if_pos (by simpa using this)]
theorem zM{l:List Ax}{t:Int}(hl:l.length<=1000):U1 l t=some (l.filter λh=>decide (hk h≠t)):=by
 unfold U1;have:=(FC (xs:=l) (body:=λs:List Ax × Int=>Rp l t s.1 s.2) (λi s=>(s,i)) (λo h=>if hk h≠t then o++ [h]else o) (λo=>some o) (λi o=>o.length<=i)
  (λi hi o ho=>by
   constructor
   ·show Rp l t o (i:Int)=_;unfold Rp;rw[if_pos (by simpa using hi),AP hi,Aa,BA (by omega)];by_cases hq:hk l[i]=t
    ·rw[if_neg (by simpa using hq),if_neg (by simpa using hq)]
    ·rw[if_pos (by simpa using hq),if_pos hq,Ba (by simp only[Bk];omega)]
   ·by_cases hq:hk l[i]=t
    ·rw[if_neg (by simpa using hq)];omega
    ·rw[if_pos hq];simp;omega)
  (λo ho=>by show Rp l t o (l.length:Int)=_;unfold Rp;rw[if_neg (by simp)]) (s:=[]) (by simp)).1
 refine this.trans ?_;have e:∀(l o:List Ax),l.foldl (λo h=>if hk h≠t then o++ [h]else o) o=o++l.filter λh=>decide (hk h≠t):=by
  intro l
  induction l with
  |nil=>intro o;simp
  |cons x l ih=>
   intro o;rw[List.foldl_cons,ih,List.filter_cons];by_cases hq:hk x=t
   ·simp[hq]
   ·simp[hq]
 rw[e];rfl
def I9(a b:Ap):Prop:=bl b a=false
theorem zAJ{a b c:Ap}(h1:I9 a b)(h2:I9 b c):I9 a c:=by
 unfold I9 at*;cases h:bl c a with
 |false=>rfl
 |true=>
  rcases Wk a b with k|k|k
  ·have:=FT h k;rw[h2]at this;cases this
  ·subst k;rw[h2]at h;cases h
  ·rw[h1]at k;cases k
abbrev Fc(l:List Ap):Prop:=DO (λs:Ap=>s) l
theorem zvJ{zs:List Ap}(h:zs.Pairwise I9):Fc (Lib.compact zs)/\ ∀y,y∈Lib.compact zs↔y∈zs:=by
 have get:∀j (hj:j<zs.length),(zs.toArray[j]!)=zs[j]:=λj hj=>by rw[getElem!_pos _ j (by simpa using hj)];simp
 have le:∀i j (hi:i<zs.length) (hj:j<zs.length),i<=j->I9 zs[i] zs[j]:=λi j hi hj Ew=>by
  rcases Nat.lt_or_ge i j with k|k
  ·exact(List.pairwise_iff_getElem.1 h) i j hi hj k
  ·have:i=j:=by omega
   subst this;exact Kc _
 unfold Lib.compact Lib.compactUpTo;constructor
 ·unfold Fc DO;rw[List.pairwise_map];have hp:(List.range zs.length).Pairwise (· < ·):=List.pairwise_lt_range;have:=List.Pairwise.filter (Lib.keeps zs.toArray) hp;refine List.Pairwise.imp_of_mem ?_ this;intro i j hi hj Ew;have JF:=(List.mem_filter.1 hj).2;have HO:j<zs.length:=by simpa using(List.mem_filter.1 hj).1
  have BF:zs[j]'HO≠zs[j-1]'(by omega):=by
   unfold Lib.keeps at JF;simp only[AR]at JF;rcases JF with k|k
   ·omega
   ·rw[get j HO,get (j-1) (by omega)]at k;exact k
  rw[get i (by omega),get j HO];have h1:=le i (j-1) (by omega) (by omega) (by omega);have h2:=le (j-1) j (by omega) HO (by omega);have h3:bl (zs[j-1]'(by omega)) (zs[j]'HO)=true:=R4 h2 BF;show bl (zs[i]'(by omega)) (zs[j]'HO)=true;rcases Wk (zs[i]'(by omega)) (zs[j-1]'(by omega))with k|k|k
  ·exact FT k h3
  ·rw[k];exact h3
  ·unfold I9 at h1;rw[h1]at k;cases k
 ·intro y;constructor
  ·intro hy;exact vK zs y hy
  ·intro hy;obtain⟨i,hi,rfl⟩:=List.getElem_of_mem hy
   induction i using Nat.strongRecOn with
   |_ i ih=>
    by_cases hk:Lib.keeps zs.toArray i=true
    ·exact List.mem_map.2 ⟨i,List.mem_filter.2 ⟨by simpa using hi,hk⟩,get i hi⟩
    ·unfold Lib.keeps at hk;simp only[AR,not_or,Classical.not_not]at hk;have e:zs[i]=zs[i-1]'(by omega):=by
      have:=hk.2;rw[get i hi,get (i-1) (by omega)]at this;exact this
     rw[e];exact ih (i-1) (by omega) (by omega) (AF _)
def CU(k:Ap)(l:List Ap):List Ap:=FX (λs:Ap=>s) k l
theorem oH{k:Ap}:∀{A B:List Ap},(∀y∈A,bl y k=true)->(∀y∈B,bl k y=true)->CU k (A++B)=A++k::B/\CU k (A++k::B)=A++k::B
 | [],B,_,hB=>by
  unfold CU;constructor
  ·cases B with
   |nil=>rfl
   |cons b B=>rw[List.nil_append,FX,if_pos (hB b (by simp))];rfl
  ·rw[List.nil_append,FX,if_neg (by rw[Kc];simp),if_pos rfl]
 |a::A,B,hA,hB=>by
  obtain⟨p,q⟩:=oH (A:=A) (B:=B) (λy hy=>hA y (by simp[hy])) hB;have h1:=hA a (by simp);unfold CU at p q ⊢;constructor
  ·rw[List.cons_append,FX,if_neg (by rw[Nh h1];simp),if_neg (λe=>Ic h1 e.symm),p];rfl
  ·rw[List.cons_append,FX,if_neg (by rw[Nh h1];simp),if_neg (λe=>Ic h1 e.symm),q]
theorem Vy{k:Ap}{l:List Ap}(h:Fc l):Fc (CU k l):=Vw h
theorem zCR{k:Ap}{l:List Ap}(h:Fc l)(y:Ap):y∈CU k l↔y=k\/y∈l:=by
 unfold CU;rw[Nk h];constructor
 ·rintro(e|⟨e,_⟩)
  ·exact .inl e
  ·exact .inr e
 ·rintro(e|e)
  ·exact .inl e
  ·by_cases he:y=k
   ·exact .inl he
   ·exact .inr ⟨e,he⟩
theorem SG{l:List Ap}(h:l.length<=2000000):IF l=some l:=by unfold IF;rw[Ba (by rw[List.length_nil];omega)]
theorem Z9{l:List Ap}{k:Ap}(hl:l.length<=1000)(hr:Fc l):O4 l k=some (CU k l):=by
 have fin:∀(A B:List Ap),A++B=l->(∀y∈A,bl y k=true\/y=k)->(∀y∈B,bl k y=true)->Rg l k (A.length:Int)=some (CU k l):=by
  intro A B e hA hB;subst e;rw[AO]at hl;have t1:A3 (A++B) (A.length:Int) (((A++B).length:Nat):Int)=B:=by unfold A3;rw[Bw,Bw,List.take_of_length_le (AI _)];simp
  have t2:A3 (A++B) 0 (A.length:Int)=A:=by unfold A3;simp
  have put:(∀y∈A,bl y k=true)-> ∀(q:Option (List Ap)),q=some (CU k (A++B))->q=some (CU k (A++B)):=λ_ _ h=>h;have body:(∀y∈A,bl y k=true)->(AL (0<=(A.length:Int)/\(A.length:Int)<=(((A++B).length:Nat):Int)/\(((A++B).length:Nat):Int)<=(((A++B).length:Nat):Int))<|
   (IF (A3 (A++B) (A.length:Int) (((A++B).length:Nat):Int))).bind λv3=>
   AL (0<=(0:Int)/\(0:Int)<=(A.length:Int)/\(A.length:Int)<=(((A++B).length:Nat):Int))<|
   (IF (A3 (A++B) 0 (A.length:Int))).bind λv4=>
   AL ((((v4).length:Int)+(([k]:List (Ag)).length:Int))*16<=140737488355328/\((v4).length:Int)+(([k]:List (Ag)).length:Int)<=140737488355328)<|
   AL (((((v4++ [k])).length:Int)+((v3).length:Int))*16<=140737488355328/\(((v4++ [k])).length:Int)+((v3).length:Int)<=140737488355328)<|
   some ((v4++ [k])++v3))=some (CU k (A++B)):=by
   intro hA;rw[t1,t2,Ba (by rw[AO];omega),SG (by omega),Aa,Ba (by rw[AO];omega),SG (by omega),Aa,Ba (by rw[Bk];omega),Ba (by rw[AO,Bk];omega),(oH hA hB).1];simp
  unfold Rg;rcases List.eq_nil_or_concat A with rfl|⟨A',z,rfl⟩
  ·rw[if_neg (by simp)];exact body (by simp)
  ·have hz:=hA z (by simp);have dO:Fc (A'++ [z]):=DO.sub hr (by rw[List.concat_eq_append];exact List.sublist_append_left _ _);have EP:∀y∈A',bl y z=true:=λy hy=>(List.pairwise_append.1 dO).2.2 y hy z (by simp);have hlen:(A'.concat z).length=A'.length+1:=by simp
   have w1:IntKind.i64.wrap ((((A'.concat z).length:Nat):Int)-1)=((A'.length:Nat):Int):=by rw[hlen,CM (by omega) (by omega)];omega
   have g1:An (A'.concat z++B) ((A'.length:Nat):Int)=some z:=by unfold An;rw[if_pos (by omega),Bw,List.concat_eq_append,List.append_assoc,List.getElem?_append_right (by omega)];simp
   rw[if_pos (by rw[AR,hlen];omega),w1,g1,Aa];by_cases he:z=k
   ·subst he;rw[if_pos (by simp)];have:=(oH (A:=A') (B:=B) EP hB).2;rw[List.concat_eq_append,List.append_assoc,List.singleton_append,this]
   ·rw[if_neg (by simpa using he)];have Uc:bl z k=true:=by
     rcases hz with h|h
     ·exact h
     ·exact absurd h he
    refine body λy hy=> ?_;rw[List.concat_eq_append]at hy;rcases Ac.1 hy with hy|hy
    ·exact FT (EP y hy) Uc
    ·rw[List.mem_singleton.1 hy];exact Uc
 unfold O4;have key:∀(n:Nat) (A B:List Ap),A.length=n->A++B=l->(∀y∈B,bl k y=true)->Av (λs:Int=>Ka l k s) (n:Int)=some (CU k l):=by
  intro n
  induction n with
  |zero=>
   intro A B hA e hB;have:A=[]:=List.length_eq_zero_iff.1 hA;subst this;have hb:Ka l k ((0:Nat):Int)=some (.inr (Rg l k ((([]:List Ap).length:Nat):Int))):=by unfold Ka;rw[if_neg (by simp)];rfl
   exact(Pk (body:=λs:Int=>Ka l k s) hb).trans (fin [] B e (by simp) hB)
  |succ n ih=>
   intro A B hA e hB;rcases List.eq_nil_or_concat A with rfl|⟨A',z,rfl⟩
   ·simp at hA
   ·rw[List.concat_eq_append]at hA e;have hn:A'.length=n:=by simpa using hA
    have w1:IntKind.i64.wrap (((n+1:Nat):Int)-1)=(n:Int):=by
     have:n+1<=1000:=by rw[<-e]at hl;simp at hl;omega
     rw[CM (by omega) (by omega)];omega
    have g1:An l (n:Int)=some z:=by subst e;unfold An;rw[if_pos (by omega),Bw,List.append_assoc,List.getElem?_append_right (by omega),hn];simp
    have dO:Fc (A'++ [z]):=DO.sub hr (by rw[<-e];exact List.sublist_append_left _ _);have EP:∀y∈A',bl y z=true:=λy hy=>(List.pairwise_append.1 dO).2.2 y hy z (by simp);by_cases hz:(bl z k||z==k)=true
    ·have eb:Ka l k ((n+1:Nat):Int)=some (.inr (Rg l k ((n+1:Nat):Int))):=by
      unfold Ka;rw[if_pos (by rw[AR];omega),w1,g1,Aa,if_neg (by rw[show(Op.bytesLess z k||z==k)=true from hz];simp)]
     rw[Pk (body:=λs:Int=>Ka l k s) eb];have rG:bl z k=true\/z=k:=by simpa using hz
     have:=fin (A'++ [z]) B e (λy hy=>by
      rcases Ac.1 hy with hy|hy
      ·rcases rG with h|h
       ·exact .inl (FT (EP y hy) h)
       ·exact .inl (by rw[<-h];exact EP y hy)
      ·rw[List.mem_singleton.1 hy];exact rG) hB
     rw[AO,Bk,hn]at this;exact this
    ·rw[Bool.not_eq_true]at hz;have eb:Ka l k ((n+1:Nat):Int)=some (.inl (n:Int)):=by
      unfold Ka;rw[if_pos (by rw[AR];omega),w1,g1,Aa,if_pos (by rw[show(Op.bytesLess z k||z==k)=false from hz];simp)]
     rw[ZI (body:=λs:Int=>Ka l k s) eb];have FH:bl z k=false/\z≠k:=by simpa using hz
     refine ih A' (z::B) hn (by rw[<-e];simp) λy hy=> ?_;rcases Ae.1 hy with rfl|hy
     ·exact R4 FH.1 FH.2
     ·exact hB y hy
 exact key l.length l [] rfl (by simp) (by simp)
theorem Ng:∀(ks o:List Ap),Fc o->Fc (ks.foldl (λo k=>CU k o) o)/\((∀y,y∈ks.foldl (λo k=>CU k o) o↔y∈ks\/y∈o)/\(ks.foldl (λo k=>CU k o) o).length<=ks.length+o.length)
 | [],o,h=>⟨h,by simp,by simp⟩
 |k::ks,o,h=>by
  obtain⟨a,b,c⟩:=Ng ks (CU k o) (Vy h);refine⟨a,λy=> ?_,?_⟩
  ·rw[List.foldl_cons,b,zCR h];simp only[Ae];constructor
   ·rintro(x|x|x)
    ·exact .inl (.inr x)
    ·exact .inl (.inl x)
    ·exact .inr x
   ·rintro((x|x)|x)
    ·exact .inr (.inl x)
    ·exact .inl x
    ·exact .inr (.inr x)
  ·have:=ZT (key:=λs:Ap=>s) (x:=k) o;unfold CU at c;rw[List.foldl_cons,A6];unfold CU;omega
theorem fF:∀a b:Ap,bl a b=true↔a<b
 | [],[]=>by simp[bl,Op.bytesLess]
 | [],_::_=>by simp[bl,Op.bytesLess]
 |_::_,[]=>by simp[bl,Op.bytesLess]
 |x::a,y::b=>by rw[aF,List.cons_lt_cons_iff,fF a b,UInt8.lt_iff_toNat_lt]
theorem zFy(a b:Ap):a<=b↔I9 a b:=by
 unfold I9;constructor
 ·intro h;cases hb:bl b a with
  |false=>rfl
  |true=>exact absurd ((fF b a).1 hb) (List.not_lt.2 h)
 ·intro h;rw[<-List.not_lt];intro hl;rw[(fF b a).2 hl]at h;cases h
theorem zuR(xs:List Ap):(GA xs).Pairwise I9:=by
 have h:=List.pairwise_mergeSort (le:=λx y:Ap=>decide (x<=y)) (λa b c h1 h2=>by
   simp only[AR]at h1 h2 ⊢;exact List.le_trans h1 h2)
  (λa b=>by simp only[Bool.or_eq_true,AR];exact List.le_total a b) xs
 refine List.Pairwise.imp (λ{a b} h=> ?_) h;exact(zFy a b).1 (of_decide_eq_true h)
theorem u9{xs zs:List Ap}(hz:Fc zs)(h:∀y,y∈zs↔y∈xs):Lib.compact (GA xs)=zs:=by obtain⟨h1,h2⟩:=zvJ (zuR xs);refine DO.ext h1 hz λy=> ?_;rw[h2,h,(wT xs).mem_iff]
theorem kY{α β:Type}(q:α->Bool)(f:α->List β):∀(xs:List α) (acc:List β),xs.foldlM (m:=Option) (λacc x=>if q x=true then none else some (acc++f x)) acc=if xs.any q=true then none else some (acc++xs.flatMap f)
 | [],acc=>by simp
 |x::xs,acc=>by
  rw[List.foldlM_cons,List.any_cons];by_cases hq:q x=true
  ·rw[if_pos hq,hq];rfl
  ·rw[if_neg hq];show xs.foldlM _ (acc++f x)=_;rw[kY q f xs (acc++f x)];simp[hq,List.append_assoc]
theorem vC{α σ:Type}(q:α->Bool)(f:σ->α->σ):∀(xs:List α) (acc:σ),xs.foldlM (m:=Option) (λacc x=>if q x=true then none else some (f acc x)) acc=if xs.any q=true then none else some (xs.foldl f acc)
 | [],acc=>by simp
 |x::xs,acc=>by
  rw[List.foldlM_cons,List.any_cons];by_cases hq:q x=true
  ·rw[if_pos hq,hq];rfl
  ·rw[if_neg hq];show xs.foldlM _ (f acc x)=_;rw[vC q f xs (f acc x)];simp[hq]
def Gz(l:List Ai)(w:Am):Bool:=match Es l w.ah with|some c=>decide (16<=c.aw.length)|none=>false
def HG(h:Ax):Prop:=h.ak.length<=8/\(h.ab.length<=8/\Ji h.ab)
def Ee(w:Am):Ap:=w.ah
def Dj(hs:List Ax):List Am:=hs.flatMap (·.ab)
def FU(l:List Ai)(ws:List Am):List Ap:=l.map ck++ws.map Ee
def Ie(l:List Ai)(ws:List Am):Bool:= !(ws.any (Gz l))&&decide (((FU l ws).foldl (λo k=>CU k o) []).length<=24)
theorem mF:∀{hs:List Ax},(∀h∈hs,HG h)->(Dj hs).length<=8*hs.length
 | [],_=>by simp[Dj]
 |h::hs,ho=>by have h1:=(ho h (by simp)).2.1;have h2:=mF (hs:=hs) λx hx=>ho x (by simp[hx]);unfold Dj at h2 ⊢;rw[List.flatMap_cons,AO,A6];omega
theorem oP{s:Aj}{hs:List Ax}(h:Dw 24 s.aj)(hl:hs.length<=60)(ho:∀h∈hs,HG h):UJ s hs=some (decide (hs.length<=12)&&Ie s.aj (Dj hs)):=by
 obtain⟨hr,Aw,hc⟩:=h;unfold UJ;have l1:=(FC (xs:=s.aj) (body:=λz:Int × List Ap=>QF s hs z.1 z.2) (λi z=>(i,z)) (λo c=>o++ [ck c]) (λo=>gH s hs o) (λi o=>o.length=i)
  (λi hi o hol=>by refine⟨?_,by simp[hol]⟩;show QF s hs (i:Int) o=_;unfold QF;rw[if_pos (by simpa using hi),AP hi,Aa,Ba (by simp only[Bk];omega),BA (by omega)])
  (λo hol=>by show QF s hs (s.aj.length:Int) o=_;unfold QF;rw[if_neg (by simp)]) (s:=[]) rfl).1
 refine l1.trans ?_;have e1:=foldl_map ck s.aj [];rw[e1,List.nil_append];unfold gH;have inner:∀(i:Nat) (y:Ax) (acc:List Ap),HG y->acc.length<=1000->i<=100->M1 s hs (i:Int) acc=M1 s hs (i:Int) acc->Av (λz:Int × List Ap=>OV s (i:Int) y z.1 z.2) (0,acc)=some (if y.ab.any (Gz s.aj)=true then .inr (some false)else .inl (((i+1:Nat):Int),acc++y.ab.map Ee)):=by
  intro i y acc hy ha hi _;have hy8:=hy.2.1;have key:=Sa (xs:=y.ab) (body:=λz:Int × List Ap=>OV s (i:Int) y z.1 z.2) (λj z=>((j:Int),z)) (λacc w=>if Gz s.aj w=true then none else some (acc++ [Ee w])) (some (.inr (some false))) (λz=>XF (i:Int) z) (λj z=>z.length<=1000+j)
   (λj z hj hz=>by
    refine⟨?_,λa ha=> ?_⟩
    ·show OV s (i:Int) y (j:Int) z=_;unfold OV;rw[if_pos (by simpa using hj),AP hj,Aa,mZ (by omega) hr,Aa,BA (by omega)];unfold Gz;rcases Vg hr y.ab[j].ah with⟨hp,hk,hf⟩|⟨_,hf,_⟩
     ·rw[hf];simp only[Option.isSome_some,if_true];rw[AP hp,Aa];by_cases SZ:16<=(s.aj[Bn s.aj y.ab[j].ah]).aw.length
      ·rw[if_pos (by simp;omega),if_pos (by simpa using SZ)]
      ·rw[if_neg (by simp;omega),if_neg (by simpa using SZ),Ba (by simp only[Bk];omega)];rfl
     ·rw[hf];simp only[Option.isSome_none,AW,if_false];rw[Ba (by simp only[Bk];omega)];rfl
    ·split at ha
     ·cases ha
     ·cases ha;simp;omega)
   (λz _=>by show OV s (i:Int) y (y.ab.length:Int) z=_;unfold OV;rw[if_neg (by simp)]) acc (by omega)
  refine key.trans ?_;rw[kY];by_cases hq:y.ab.any (Gz s.aj)=true
  ·rw[if_pos hq,if_pos hq]
  ·rw[if_neg hq,if_neg hq];show XF (i:Int) _=_;unfold XF;rw[BA (by omega)];have e:∀l:List Am,(l.flatMap λw=> [Ee w])=l.map Ee:=λl=>by induction l with|nil=>rfl|cons x l ih=>rw[List.flatMap_cons,ih];rfl
   rw[e]
 have key:=Sa (xs:=hs) (body:=λz:Int × List Ap=>M1 s hs z.1 z.2) (λj z=>((j:Int),z)) (λacc y=>if y.ab.any (Gz s.aj)=true then none else some (acc++y.ab.map Ee)) (some false) (λz=>XJ hs z) (λj z=>z.length<=24+8*j)
  (λj z hj hz=>by
   have hy:=ho _ (AF hj);refine⟨?_,λa ha=> ?_⟩
   ·show M1 s hs (j:Int) z=_;have:=inner j hs[j] z hy (by omega) (by omega) rfl;unfold M1;rw[if_pos (by simpa using hj),AP hj,Aa];refine this.trans ?_;split<;>rfl
   ·split at ha
    ·cases ha
    ·cases ha;have:=hy.2.1;rw[AO,List.length_map];omega)
  (λz _=>by show M1 s hs (hs.length:Int) z=_;unfold M1;rw[if_neg (by simp)]) (s.aj.map ck) (by simp;omega)
 refine key.trans ?_;rw[kY (λy:Ax=>y.ab.any (Gz s.aj)) (λy=>y.ab.map Ee)];have ea:(hs.any λy=>y.ab.any (Gz s.aj))=(Dj hs).any (Gz s.aj):=by unfold Dj;rw[List.any_flatMap]
 have eb:(hs.flatMap λy=>y.ab.map Ee)=(Dj hs).map Ee:=by unfold Dj;rw[List.map_flatMap]
 rw[ea,eb];unfold Ie;by_cases hq:(Dj hs).any (Gz s.aj)=true
 ·rw[if_pos hq,hq];simp
 ·rw[if_neg hq];have JG:=mF ho;show XJ hs _=_;unfold XJ Qt Qr;rw[Ba (by rw[AO,List.length_map,List.length_map];omega),Aa];obtain⟨g1,g2,_⟩:=Ng (FU s.aj (Dj hs)) [] List.Pairwise.nil;have e:=u9 (xs:=s.aj.map ck++(Dj hs).map Ee) g1 λy=>by rw[g2];simp[FU]
  by_cases FH:hs.length<=12
  ·rw[if_pos (by simp;omega),Aa];show some (decide (((Lib.compact (GA (s.aj.map ck++(Dj hs).map Ee))).length:Int)<=24))=_;rw[e];simp[hq,FH];omega
  ·rw[if_neg (by simp;omega)];simp[FH]
theorem ZU(k:Ap)(l:List Ap):(CU k l).length<=l.length+1:=ZT l
theorem oS{s:Aj}{ws:List Am}(h:Dw 24 s.aj)(hl:s.ae.length<=12)(ho:∀h∈s.ae,HG h)(hw:ws.length<=8):UZ s ws=some (Ie s.aj (ws++Dj s.ae)):=by
 obtain⟨hr,Aw,hc⟩:=h;unfold UZ;have l1:=FC (xs:=s.aj) (body:=λz:List Ap × Int=>Rq s ws z.1 z.2) (λi z=>(z,i)) (λo c=>CU (ck c) o) (λo=>iF s ws o) (λi o=>Fc o/\o.length<=i)
  (λi hi o hol=>by have hn:=ZU (ck s.aj[i]) o;refine⟨?_,Vy hol.1,by omega⟩;show Rq s ws o (i:Int)=_;unfold Rq;rw[if_pos (by simpa using hi),AP hi,Aa,Z9 (by omega) hol.1,Aa,BA (by omega)])
  (λo hol=>by show Rq s ws o (s.aj.length:Int)=_;unfold Rq;rw[if_neg (by simp)]) (s:=[]) ⟨List.Pairwise.nil,by simp⟩
 refine l1.1.trans ?_;obtain⟨r1,r2⟩:=l1.2;unfold iF;rw[Ba (by simp only[List.length_nil];omega)];have l2:=(FC (xs:=s.ae) (body:=λz:Int × List Am=>Rv s (s.aj.foldl (λo c=>CU (ck c) o) []) z.1 z.2) (λi z=>(i,z)) (λo y=>o++y.ab) (λo=>iG s (s.aj.foldl (λo c=>CU (ck c) o) []) o) (λi o=>o.length<=8+8*i)
  (λi hi o hol=>by have hy:=(ho _ (AF hi)).2.1;refine⟨?_,by rw[AO];omega⟩;show Rv s _ (i:Int) o=_;unfold Rv;rw[if_pos (by simpa using hi),AP hi,Aa,Ba (by omega),BA (by omega)])
  (λo hol=>by show Rv s _ (s.ae.length:Int) o=_;unfold Rv;rw[if_neg (by simp)]) (s:=ws) (by omega)).1
 refine l2.trans ?_;have eh:∀(hs:List Ax) (o:List Am),hs.foldl (λo y=>o++y.ab) o=o++Dj hs:=by
  intro hs
  induction hs with
  |nil=>intro o;simp[Dj]
  |cons x hs ih=>intro o;rw[List.foldl_cons,ih];simp[Dj]
 rw[eh];have hhl:=mF ho;unfold iG;have key:=Sa (xs:=ws++Dj s.ae) (body:=λz:List Ap × Int=>QK s (ws++Dj s.ae) z.1 z.2) (λi z=>(z,(i:Int))) (λacc w=>if Gz s.aj w=true then none else some (CU (Ee w) acc)) (some false) (λz=>X1 z) (λi z=>Fc z/\z.length<=24+i)
  (λi z hi hz=>by
   have B6:=hi;rw[AO]at B6;refine⟨?_,λa ha=> ?_⟩
   ·show QK s (ws++Dj s.ae) z (i:Int)=_;unfold QK;rw[if_pos (by simp only[AR];omega),AP hi,Aa,Z9 (by omega) hz.1,Aa,BA (by omega)];unfold Gz;obtain⟨j,e,⟨h1,h2⟩|⟨h1,c,h2,h3⟩⟩:=rW (l:=s.aj) (k:=(ws++Dj s.ae)[i].ah) (by omega) hr
    ·rw[e,Aa,if_neg (by simpa using h1),h2];rfl
    ·rw[e,Aa,if_pos (by simpa using h1),h2,Aa,h3];by_cases SZ:16<=c.aw.length
     ·rw[if_pos (by simp;omega),if_pos (by simpa using SZ)]
     ·rw[if_neg (by simp;omega),if_neg (by simpa using SZ)];rfl
   ·split at ha
    ·cases ha
    ·cases ha;have hn:=ZU (Ee (ws++Dj s.ae)[i]) z;exact⟨Vy hz.1,by omega⟩)
  (λz _=>by show QK s (ws++Dj s.ae) z ((ws++Dj s.ae).length:Int)=_;unfold QK;rw[if_neg (by simp)]) (s.aj.foldl (λo c=>CU (ck c) o) []) ⟨r1,by omega⟩
 refine key.trans ?_;rw[vC (Gz s.aj) (λacc w=>CU (Ee w) acc)];unfold Ie;by_cases hq:(ws++Dj s.ae).any (Gz s.aj)=true
 ·rw[if_pos hq,hq];simp
 ·rw[if_neg hq];show X1 _=_;unfold X1 FU;have e:(s.aj.map ck++(ws++Dj s.ae).map Ee).foldl (λo k=>CU k o) []=(ws++Dj s.ae).foldl (λacc w=>CU (Ee w) acc) (s.aj.foldl (λo c=>CU (ck c) o) []):=by
   rw[List.foldl_append,List.foldl_map (f:=ck),List.foldl_map (f:=Ee)]
  rw[e,Bool.eq_false_iff.2 hq];simp only[Bool.not_false,Bool.true_and,Ad,decide_eq_decide];omega
theorem zyv(l:List Ai)(a b:List Am):Ie l (a++b)=Ie l (b++a):=by
 unfold Ie;have e:(FU l (a++b)).foldl (λo k=>CU k o) []=(FU l (b++a)).foldl (λo k=>CU k o) []:=by obtain⟨g1,g2,_⟩:=Ng (FU l (a++b)) [] List.Pairwise.nil;obtain⟨g3,g4,_⟩:=Ng (FU l (b++a)) [] List.Pairwise.nil;refine DO.ext g1 g3 λy=> ?_;rw[g2,g4];simp[FU,or_comm]
 rw[e,List.any_append,List.any_append,Bool.or_comm]
theorem wV(ws:List Am)(k:Ap):H8 ws k=(ws.find? λw=>w.ah==k).isSome:=by unfold H8;rw[Sb]
theorem RX{ws os:List Am}{rs:List Ap}(hw:ws.length<=2000000)(hr:rs.length<=2000000)(ho:os.length<=2000000)(hR:Ji os):Vd ws rs os=some (B4 ws rs os):=by
 unfold Vd;rw[LY (xs:=ws) (λw=>H8 os w.ah||rs.contains w.ah) (λw _=> ?_) (by omega),Aa]
 ·rfl
 ·unfold iW;obtain⟨i,⟨e,x,_,h⟩|⟨e,h⟩⟩:=zEp (k:=w.ah) ho hR
  ·rw[e,Aa,wV,h];rfl
  ·rw[e,Aa,wV,h,zEZ hr];simp
theorem zCc{h:Ax}{rs:List Ap}{ws:List Am}(hh:HG h)(hr:rs.length<=8)(hw:ws.length<=8)(hR:Ji ws):XG h ⟨0,0,0,rs,ws⟩=some (CQ h rs ws):=by
 obtain⟨h1,h2,h3⟩:=hh;unfold XG RP;rw[RX (by show ws.length<=_;omega) (by omega) (by omega) h3,Aa];unfold CQ;show(if B4 ws h.ak h.ab=true then some true else _).bind _=_;cases B4 ws h.ak h.ab with
 |true=>simp
 |false=>rw[if_neg (by simp)];rw[RX (by omega) (by show rs.length<=_;omega) (by show ws.length<=_;omega) hR,Aa,Aa];simp
theorem ZM{h:Ax}{rs:List Ap}{ws:List Am}(hh:HG h)(hr:rs.length<=8)(hw:ws.length<=8):RA h rs ws=some (!CQ h rs ws):=by
 obtain⟨h1,h2,h3⟩:=hh;unfold RA;have k1:X9 h ws=some (!B4 ws h.ak h.ab):=by
  unfold X9;refine(Pg (xs:=ws) (λw=>H8 h.ab w.ah||h.ak.contains w.ah) (λ_=>some false) (some true) (λi hi=>by
   unfold iB;rw[if_pos (by simpa using hi),AP hi,Aa,rU (by omega),Aa,BA (by omega)];cases H8 h.ab ws[i].ah with
   |true=>rfl
   |false=>
    rw[if_neg (by simp),zE1 (by omega),Aa,Bool.false_or];have e:h.ak.any (· ==ws[i].ah)=h.ak.contains ws[i].ah:=by rw[Bool.eq_iff_iff,List.any_eq_true,List.contains_iff_mem];exact⟨λ⟨x,hx,he⟩=>(show x=ws[i].ah by simpa using he)▸hx,λhm=>⟨_,hm,by simp⟩⟩
    rw[e];cases h.ak.contains ws[i].ah<;>rfl) (by
   unfold iB;rw[if_neg (by simp)])).trans ?_
  unfold B4;rw[<-Sb];cases ws.find? (λw=>H8 h.ab w.ah||h.ak.contains w.ah)<;>rfl
 refine(Pg (xs:=rs) (λr=>H8 h.ab r) (λ_=>some false) (X9 h ws) (λi hi=>by
  unfold gN;rw[if_pos (by simpa using hi),AP hi,Aa,rU (by omega),Aa,BA (by omega)];cases H8 h.ab rs[i]<;>rfl) (by
  unfold gN;rw[if_neg (by simp)])).trans ?_
 have e:CQ h rs ws=(rs.any (H8 h.ab)||B4 ws h.ak h.ab):=by
  unfold CQ;rw[Bool.eq_iff_iff,Bool.or_eq_true,Bool.or_eq_true];constructor
  ·rintro(hc|hc)
   ·obtain⟨w,Qb,T5⟩:=List.any_eq_true.1 hc;rcases Bool.or_eq_true _ _▸T5 with hq|hq
    ·obtain⟨v,FA,De⟩:=List.any_eq_true.1 hq;have De:v.ah=w.ah:=by simpa using De
     exact .inr (List.any_eq_true.2 ⟨v,FA,by rw[Bool.or_eq_true];left;exact List.any_eq_true.2 ⟨w,Qb,by simp[De]⟩⟩)
    ·exact .inl (List.any_eq_true.2 ⟨w.ah,List.contains_iff_mem.1 hq,List.any_eq_true.2 ⟨w,Qb,by simp⟩⟩)
   ·exact .inr hc
  ·rintro(hc|hc)
   ·obtain⟨r,GP,DS⟩:=List.any_eq_true.1 hc;obtain⟨w,Qb,T5⟩:=List.any_eq_true.1 DS;have T5:w.ah=r:=by simpa using T5
    exact .inl (List.any_eq_true.2 ⟨w,Qb,by rw[Bool.or_eq_true];right;exact List.contains_iff_mem.2 (T5▸GP)⟩)
   ·exact .inr hc
 rw[k1,e,<-Sb];cases rs.find? (H8 h.ab)<;>rfl
def KZ(s:Aj)(rs:List Ap)(ws:List Am):Bool:= !(s.ae.any λh=>CQ h rs ws)&&(decide (s.ae.length<12)&&Ie s.aj (ws++Dj s.ae))
theorem zD4{s:Aj}{rs:List Ap}{ws:List Am}(h:Dw 24 s.aj)(hl:s.ae.length<=12)(ho:∀h∈s.ae,HG h)(hr:rs.length<=8)(hw:ws.length<=8)(hR:Ji ws):XQ s rs ws=some (KZ s rs ws):=by
 unfold XQ KZ;rw[LY (xs:=s.ae) (λh=>CQ h rs ws) (λy hy=>zCc (ho y hy) hr hw hR) (by omega),Aa];cases hq:s.ae.any (λh=>CQ h rs ws)with
 |true=>rw[if_pos rfl];rfl
 |false=>
  rw[if_neg (by simp)];have Aw:gA s.ae=some s.ae:=Jf (by omega) (by omega);rw[Aw,Aa,Ba (by simp only[Bk];omega),oP h (by simp;omega) (λy hy=>by
   rcases Ac.1 hy with hy|hy
   ·exact ho y hy
   ·have:y=⟨0,0,0,rs,ws⟩:=by simpa using hy
    subst this;exact⟨hr,hw,hR⟩),Aa]
  have e:Dj (s.ae++ [(⟨0,0,0,rs,ws⟩:Ax)])=Dj s.ae++ws:=by unfold Dj;simp
  rw[e,zyv];simp only[Bool.not_false,Bool.true_and,AO,Bk];congr 2
theorem zD0{s:Aj}{rs:List Ap}{ws:List Am}(h:Dw 24 s.aj)(hl:s.ae.length<=12)(ho:∀h∈s.ae,HG h)(hr:rs.length<=8)(hw:ws.length<=8):YO s rs ws=some (KZ s rs ws):=by
 unfold YO;refine(Pg (xs:=s.ae) (λh=>CQ h rs ws) (λ_=>some false) (XV s ws) (λi hi=>by
  unfold gX;rw[if_pos (by simpa using hi),AP hi,Aa,ZM (ho _ (AF hi)) hr hw,Aa,BA (by omega),Bool.not_not];cases CQ s.ae[i] rs ws<;>rfl) (by
  unfold gX;rw[if_neg (by simp)])).trans ?_
 unfold KZ;rw[<-Sb];cases s.ae.find? (λh=>CQ h rs ws)with
 |some y=>rfl
 |none=>
  show XV s ws=_;unfold XV;rw[oS h hl ho hw];by_cases FH:s.ae.length<12
  ·rw[if_pos (by simp;omega)];simp[FH]
  ·rw[if_neg (by simp;omega)];simp[FH]
structure WS(s:Aj):Prop where
 cells:Dw 24 s.aj
 ek:s.ae.length<=12
 dh:Ce hk s.ae
 held:∀h∈s.ae,HG h/\Nt h.ab
 dn:Ce tk s.ao
 told:∀t∈s.ao,1<=tk t/\tk t<=60
structure Ik(r:Bu):Prop where
 reads:r.ak.length<=8
 writes:r.ab.length<=8
 dh:Ji r.ab
 small:Nt r.ab
 time:r.bb≠1->r.bb≠4->r.bk=true->0<r.af
 mg:r.bb≠4->1<=r.al/\r.al<=60
theorem WS.cw{s:Aj}(h:WS s):s.ao.length<=60:=by have:=Ce.len (lo:=1) (hi:=60) h.dn h.told;omega
def Mg(r:Bu):Ax:=⟨r.al,r.af,r.bq,r.ak,r.ab⟩
def GB(l:List Ax)(t:Int):List Ax:=l.filter λh=>decide (hk h≠t)
def Mh(s:Aj)(r:Bu):List Bh:=Eu tk ⟨r.al,r.bk,r.af⟩ s.ao
def DA(s:Aj)(r:Bu):Option Aj:=
 if r.bb=4 then(if s.aq<r.af then some ⟨r.af,s.aj,s.ae,s.ao⟩else none)
 else if(Fp s r.al).isSome=true then none
 else if r.bb=1 then
  (if(CY s r.al).isSome=true then none
  else if r.af<=s.aq then none
  else if KZ s r.ak r.ab=true then some ⟨r.af,s.aj,Eu hk (Mg r) s.ae,s.ao⟩else none)
 else if r.bk=true then
  (match CY s r.al with
  |none=>none
  |some h=>if r.af<h.af then none else match LA s.aj h.ab r.af with
   |none=>none
   |some o=>some ⟨if s.aq<r.af then r.af else s.aq,o,GB s.ae r.al,Mh s r⟩)
 else some ⟨s.aq,s.aj,GB s.ae r.al,Mh s r⟩
theorem Zw{s:Aj}{t:Int}(h: ¬(Fp s t).isSome=true):∀y∈s.ao,tk y≠t:=by
 intro y hy e;have h:(Fp s t)=none:=by cases hq:Fp s t with|none=>rfl|some x=>rw[hq]at h;exact absurd rfl h
 have:=List.find?_eq_none.1 h y hy;simp[e]at this
theorem ZL{s:Aj}{t:Int}(h: ¬(CY s t).isSome=true):∀y∈s.ae,hk y≠t:=by
 intro y hy e;have h:(CY s t)=none:=by cases hq:CY s t with|none=>rfl|some x=>rw[hq]at h;exact absurd rfl h
 have:=List.find?_eq_none.1 h y hy;simp[e]at this
theorem Dw.kz{n:Nat}{l:List Ai}(h:Dw n l)(hg:Eo l=true):Dw 24 l:=by unfold Eo at hg;simp only[Ab,AR,Bj]at hg;obtain⟨h1,h2,_⟩:=hg;refine⟨h.1,by omega,λc hc=> ?_⟩;obtain⟨a,b,d⟩:=h.2.2 c hc;have:=h2 c hc;unfold Gx IJ at this;simp only[Ab]at this;have h3:=this.2.1;unfold BH at h3;simp only[Ab,AR]at h3;exact⟨a,by omega,d⟩
theorem zEz{l o:List Ai}{ws:List Am}{t:Int}(h:Dw 24 l)(hw:Nt ws)(e:LA l ws t=some o):Dw 24 o:=by
 unfold LA at e;cases h1:GF t l ws with
 |none=>rw[h1]at e;cases e
 |some p=>
  rw[h1]at e;have e:(if Eo p=true then some p else none)=some o:=e;by_cases hg:Eo p=true
  ·rw[if_pos hg]at e;cases e;exact Dw.kz (oZ (by have:=hw.1;omega) hw.2 h h1) hg
  ·rw[if_neg hg]at e;cases e
theorem WS.less{s:Aj}(h:WS s)(t:Int):(GB s.ae t).length<=12/\Ce hk (GB s.ae t)/\ ∀h∈GB s.ae t,HG h/\Nt h.ab:=
 ⟨by have:=List.length_filter_le (λh=>decide (hk h≠t)) s.ae;have:=h.ek;unfold GB;omega,h.dh.filter _,λy hy=>h.held y (List.mem_filter.1 hy).1⟩
theorem WS.lk{s:Aj}{r:Bu}(h:WS s)(hr:Ik r)(h4:r.bb≠4)(hn:∀y∈s.ao,tk y≠r.al):Ce tk (Mh s r)/\ ∀t∈Mh s r,1<=tk t/\tk t<=60:=
 ⟨h.dn.ins hn,λt ht=>by
  rcases Kg.1 ht with rfl|ht
  ·exact hr.mg h4
  ·exact h.told t ht⟩
theorem zCn{s s':Aj}{r:Bu}(h:WS s)(hr:Ik r)(e:DA s r=some s'):WS s':=by
 unfold DA at e;split at e
 ·split at e
  ·cases e;exact⟨h.cells,h.ek,h.dh,h.held,h.dn,h.told⟩
  ·cases e
 ·rename_i h4;split at e
  ·cases e
  ·rename_i Ex;have hn:=Zw Ex;split at e
   ·split at e
    ·cases e
    ·rename_i Gb;split at e
     ·cases e
     ·split at e
      ·rename_i hf;cases e;have FH:s.ae.length<12:=by
        unfold KZ at hf;simp only[Ab,AR]at hf;exact hf.2.1
       refine⟨h.cells,by rw[nF];omega,h.dh.ins (ZL Gb),λy hy=> ?_,h.dn,h.told⟩;rcases Kg.1 hy with rfl|hy
       ·exact⟨⟨hr.reads,hr.writes,hr.dh⟩,hr.small⟩
       ·exact h.held y hy
      ·cases e
   ·obtain⟨l1,l2,l3⟩:=h.less r.al;obtain⟨t1,t2⟩:=h.lk hr h4 hn;split at e
    ·split at e
     ·cases e
     ·rename_i x hx;split at e
      ·cases e
      ·split at e
       ·cases e
       ·rename_i o ho;cases e;exact⟨zEz h.cells (h.held x (List.mem_of_find?_eq_some hx)).2 ho,l1,l2,l3,t1,t2⟩
    ·cases e;exact⟨h.cells,l1,l2,l3,t1,t2⟩
theorem zwp{h:Ax}(hh:HG h):Yf h=some h:=by obtain⟨h1,h2,_⟩:=hh;unfold Yf Rw RO;have e1:IE h.ak=some h.ak:=Jf (by omega) (by omega);have e2:LG h.ab=some h.ab:=Jf (by omega) (by omega);rw[Aa];show((IE h.ak).bind _).bind _=_;rw[e1,Aa];show((LG h.ab).bind _).bind _=_;rw[e2];rfl
theorem zz8{r:Bu}(hr:Ik r):RO r=some (Mg r):=by have h1:=hr.reads;have h2:=hr.writes;unfold RO;have e1:IE r.ak=some r.ak:=Jf (by omega) (by omega);have e2:LG r.ab=some r.ab:=Jf (by omega) (by omega);rw[e1,Aa,e2,Aa];rfl
theorem Zc{s:Aj}(h:WS s):OY s=some s:=by
 have hc:=h.cells;have hT:=h.cw;have hf:=h.ek;unfold OY;have hC:Rb s.aj=some s.aj:=Ba ⟨by have:=hc.2.1;omega,λc FY=>by have:=(hc.2.2 c FY).2.1;omega⟩;have e2:fZ s.ao=some s.ao:=Jf (by omega) (by omega);rw[hC,Aa,e2,Aa];refine((FC (xs:=s.ae) (body:=λz:Int × List Ax=>QW s s.aj s.ao z.1 z.2) (λi z=>(i,z)) (λo c=>o++ [c]) (λo=>some (⟨s.aq,s.aj,o,s.ao⟩:Aj)) (λi o=>o.length=i)
  (λi hi o ho=>by refine⟨?_,by simp[ho]⟩;show QW s s.aj s.ao (i:Int) o=_;unfold QW;rw[if_pos (by simpa using hi),AP hi,Aa,zwp (h.held _ (AF hi)).1,Aa,Ba (by simp only[Bk];omega),BA (by omega)])
  (λo ho=>by show QW s s.aj s.ao (s.ae.length:Int) o=_;unfold QW;rw[if_neg (by simp)]) (s:=[]) rfl).1).trans ?_
 have e:=foldl_map (λc:Ax=>c) s.ae [];simp only[List.map_id',List.nil_append]at e;rw[e]
theorem sR{α:Type}{key:α->Int}{l:List α}{x:α}(hl:l.length<=1000)(hn:∀y∈l,key y≠key x):H4 l ((AD (A0 key (key x)) l:Nat):Int) [x]=some (Eu key x l):=by have:=Nq (A0 key (key x)) l;unfold H4;rw[Ba ⟨by omega,by omega,by simp,by simp only[Bk];omega⟩,Bw,ZX hn]
theorem zyN{s:Aj}{r:Bu}(h:WS s)(hr:Ik r)(h1:r.bb≠1)(h4:r.bb≠4)(Ex: ¬(Fp s r.al).isSome=true):XK s r=some (match DA s r with|some s'=>(s',true)|none=>((⟨0,[],[],[]⟩:Aj),false)):=by
 have hn:=Zw Ex;have hf:=h.ek;have hT:=h.cw;unfold XK DA;rw[Zc h,Aa,VK (by omega) h.dh,Aa,if_neg h4,if_neg Ex,if_neg h1];have tail:∀(c:List Ai) (fl:Int),XC r s (((AD (A0 hk r.al) s.ae:Nat):Int),(CY s r.al).isSome) c fl=some ((⟨fl,c,GB s.ae r.al,Mh s r⟩:Aj),true):=by
  intro c fl;unfold XC;have Fk:H4 s.ao ((AD (A0 tk r.al) s.ao:Nat):Int) [(⟨r.al,r.bk,r.af⟩:Bh)]=some (Mh s r):=sR (key:=tk) (x:=⟨r.al,r.bk,r.af⟩) (by omega) hn;have DQ:=RR (t:=r.al) h.dh;cases hq:CY s r.al with
  |none=>have GO:s.ae.find? (λy=>hk y==r.al)=none:=hq;simp only[Option.isSome_none,AW,if_false];rw[VN (s:=⟨fl,c,s.ae,s.ao⟩) (by show s.ao.length<=_;omega) h.dn,Aa,Fk,Aa];unfold GB;rw[zpu GO]
  |some x=>
   have GO:s.ae.find? (λy=>hk y==r.al)=some x:=hq;simp only[Option.isSome_some,if_true];rw[GO]at DQ;have hp:AD (A0 hk r.al) s.ae<s.ae.length:=by
    rcases Nat.lt_or_ge (AD (A0 hk r.al) s.ae) s.ae.length with hp|hp
    ·exact hp
    ·rw[List.getElem?_eq_none hp]at DQ;cases DQ
   rw[Bg hp]at DQ;have hkx:hk s.ae[AD (A0 hk r.al) s.ae]=r.al:=by
    by_cases hh:hk s.ae[AD (A0 hk r.al) s.ae]=r.al
    ·exact hh
    ·have DQ:some x=if hk s.ae[AD (A0 hk r.al) s.ae]=r.al then some s.ae[AD (A0 hk r.al) s.ae]else none:=DQ;rw[if_neg hh]at DQ;cases DQ
   have Ju:VD s.ae ((AD (A0 hk r.al) s.ae:Nat):Int) (IntKind.i64.wrap (((AD (A0 hk r.al) s.ae:Nat):Int)+1))=some (GB s.ae r.al):=by unfold VD GB;rw[BA (by omega),Ba ⟨by omega,by omega,by omega⟩,Bw,Bw,wY h.dh hp hkx]
   rw[Ju,Aa,VN (s:=⟨fl,c,GB s.ae r.al,s.ao⟩) (by show s.ao.length<=_;omega) h.dn,Aa,Fk,Aa]
 by_cases hy:r.bk=true
 ·rw[if_pos hy,if_pos hy];cases hq:CY s r.al with
  |none=>rfl
  |some x=>
   have GO:s.ae.find? (λy=>hk y==r.al)=some x:=hq;have DQ:=RR (t:=r.al) h.dh;rw[GO]at DQ;have hp:AD (A0 hk r.al) s.ae<s.ae.length:=by
    rcases Nat.lt_or_ge (AD (A0 hk r.al) s.ae) s.ae.length with hp|hp
    ·exact hp
    ·rw[List.getElem?_eq_none hp]at DQ;cases DQ
   have hx:s.ae[AD (A0 hk r.al) s.ae]=x:=by
    rw[Bg hp]at DQ;have DQ:some x=if hk s.ae[AD (A0 hk r.al) s.ae]=r.al then some s.ae[AD (A0 hk r.al) s.ae]else none:=DQ;split at DQ
    ·cases DQ;rfl
    ·cases DQ
   simp only[Option.isSome_some,if_true];rw[AP hp,Aa,hx];by_cases FO:r.af<x.af
   ·rw[if_pos (by simpa using FO),if_pos FO]
   ·rw[if_neg (by simpa using FO),if_neg FO,zDR h.cells (h.held x (List.mem_of_find?_eq_some GO)).2,Aa];cases ho:LA s.aj x.ab r.af with
    |none=>rfl
    |some o=>
     simp only[Bool.not_true,AW,if_false];have t:=tail o (bif decide (r.af>s.aq)then r.af else s.aq);rw[hq]at t;refine t.trans ?_;by_cases B5:s.aq<r.af
     ·rw[if_pos B5];simp[B5]
     ·rw[if_neg B5];simp[B5]
 ·rw[if_neg hy,if_neg hy];exact tail s.aj s.aq
theorem zCY{s:Aj}{r:Bu}(h:WS s)(hr:Ik r):XL s r=some (match DA s r with|some s'=>(s',true)|none=>((⟨0,[],[],[]⟩:Aj),false)):=by
 have hf:=h.ek;have hT:=h.cw;unfold XL;by_cases h4:r.bb=4
 ·rw[if_pos (by simpa using h4)];unfold DA;rw[if_pos h4];by_cases B5:s.aq<r.af
  ·rw[if_neg (by simpa using B5),if_pos B5,Zc h];rfl
  ·rw[if_pos (by simpa using B5),if_neg B5]
 ·rw[if_neg (by simpa using h4),VN (by omega) h.dn,Aa];by_cases Ex:(Fp s r.al).isSome=true
  ·unfold DA;rw[if_neg h4,if_pos Ex,if_pos Ex]
  ·rw[if_neg Ex];by_cases h1:r.bb=1
   ·rw[if_neg (by simpa using h1),VK (by omega) h.dh,Aa];unfold DA;rw[if_neg h4,if_neg Ex,if_pos h1];by_cases Gb:(CY s r.al).isSome=true
    ·rw[if_pos Gb,if_pos Gb]
    ·rw[if_neg Gb,if_neg Gb];by_cases FO:r.af<=s.aq
     ·rw[if_pos (by simpa using FO),if_pos FO]
     ·rw[if_neg (by simpa using FO),if_neg FO,zD4 h.cells hf (λy hy=>(h.held y hy).1) hr.reads hr.writes hr.dh,Aa];cases Cz:KZ s r.ak r.ab with
      |false=>rfl
      |true=>rw[if_neg (by simp),Zc h,Aa,zz8 hr,Aa];have:=sR (key:=hk) (l:=s.ae) (x:=Mg r) (by omega) (ZL Gb);rw[show((AD (A0 hk r.al) s.ae:Nat):Int)=((AD (A0 hk (hk (Mg r))) s.ae:Nat):Int)from rfl,this];rfl
   ·rw[if_pos (by simpa using h1),zyN h hr h1 h4 Ex];rfl
end
end Go.Proofs.YtalagilebkaegaaGreat

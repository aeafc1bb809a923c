/- Parts of a proof, joined: QF3, QF4, QF5, QF6, QR, OZ, NA, ND, NE, N5, N6, N7, N8, N9, N10, N11, N12, N13, N14, N15, N16, PK, NK, NP, NQ, NX, NS. -/
import Derived.Test.YtbmbkgalkfmjdaaGreatDoorJ8
set_option linter.unusedVariables false
set_option linter.unusedSimpArgs false
section
namespace Go.Proofs.YtbmbkgalkfmjdaaGreatDoor
open Go.RowKit
set_option maxRecDepth 100000
set_option maxHeartbeats 4000000
noncomputable def yV:FS:=At 104 [.v (.st 3), .v (.l (.st 0))] (.v (.l (.st 4))) (fun x=>PC x.1 x.2.1) [zl5] [.sp [.i .i64, .l (.st 4)], .inl]
noncomputable def jO:FS:=At 108 [.v (.st 3), .v .s, .v (.st 4)] (.v .s) (fun x=>Kl x.1 x.2.1 x.2.2.1) [yT,kJ] []
noncomputable def yX:FS:=At 176 [.v (.st 3), .v .s, .v (.l (.st 0))] (.v (.l .s)) (fun x=>Vi x.1 x.2.1 x.2.2.1) [yV,jO] [.sp [.i .i64, .l .s]]
noncomputable def zgC:FS:=Eh 246 [.v (.l .s), .fn [.s] .b] (.v (.l .s)) (fun x=>Jj x.1 (fun y=>x.2.1.φ (y,()))) fun x r hp h=>Gc (f:=246) (t:=XI 202 1 false (.fld (.idx (.var 5) (.var 4)) 0 1 false) [] (.str (ByteArray.mk #[]))) (by kernel_rfl) (by kernel_rfl) (uQ (av:=(BB tab.av .s)) (fun x=>⟨K3 _ x,NN (by kernel_rfl) x,(fun e=>nomatch e),fun _=>rfl⟩) (by decide) (fun a b c d j ys x tl hj=>by simp [AV.nth,hj,BB,LR]) (fun a b c d j ys x hj=>by simp [AV.nth,hj,BB,LR]) h (fun i hi=>yH.ok x i hp hi) (fun y b hb=>hp.2.1 (y,()) b hb))
noncomputable def zqN:FS:=At 247 [.v .s, .rf (.l .s)] (.v .b) (fun x=>lQ x.1 x.2.1) [yG] []
noncomputable def zpB:FS:=Kf zqN fun _=>by kernel_rfl
noncomputable def zQ:FS:=At 175 [.v (.l .s), .v (.l .s)] (.v (.l .s)) (fun x=>VF x.1 x.2.1) [yI,zgC,zpB] []
noncomputable def zkW:FS:=At 156 [.v (.st 3), .v .s, .v (.l (.st 0))] (.v (.l .s)) (fun x=>Yn x.1 x.2.1 x.2.2.1) [Ym,yX,zQ] []
noncomputable def yS:FS:=At 90 [.v (.st 3), .v .s, .v (.l (.st 0))] (.v (.l .s)) (fun x=>U8 x.1 x.2.1 x.2.2.1) [yX,Ym,zQ] []
noncomputable def zl7:FS:=At 72 [.v (.st 3), .v .s, .v (.i .i64), .v (.l (.st 0))] (.v .b) (fun x=>Yd x.1 x.2.1 x.2.2.1 x.2.2.2.1) [Ym,zkW,yS] []
noncomputable def yW:FS:=At 88 [.v (.st 5)] (.v .b) (fun x=>Rx x.1) [zod,zl7] []
noncomputable def zuB:FS:=At 24 [.v (.st 5)] (.tu (.cons (.v .b) (.cons (.v .b) .nil))) (fun x=>VO x.1) [YF,yW] []
noncomputable def zsa:FS:=At 117 [.v (.st 6)] (.v .b) (fun x=>Vx x.1) [zU] []
noncomputable def zsW:FS:=At 40 [.v (.st 7)] (.v .b) (fun x=>NI x.1) [YF,zsa] []
noncomputable def zlN:FS:=At 147 [.v (.st 3), .v (.st 8)] (.v .b) (fun x=>Yj x.1 x.2.1) [zA] []
noncomputable def zoW:FS:=At 184 [.v (.st 8)] (.v .b) (fun x=>VP x.1) [] []
noncomputable def yQ:FS:=At 177 [.v (.st 5), .v (.st 9)] (.v .b) (fun x=>Va x.1 x.2.1) [Jk,Vm,zlN,zoW] []
noncomputable def zlX:FS:=At 97 [.v (.st 7), .v (.st 10)] (.v .b) (fun x=>Yh x.1 x.2.1) [yQ,Jk,zoW] [.pt]
noncomputable def zoy:FS:=At 42 [.v (.st 7), .v (.st 10)] (.v .b) (fun x=>Vq x.1 x.2.1) [zsW,zlX] []
noncomputable def zkJ:FS:=Eh 252 [.v (.l (.i .i64))] (.v (.l (.i .i64))) (fun x=>jH x.1) fun x r hp h=>Gc (f:=252) (t:=Th 8 1) (by kernel_rfl) (by kernel_rfl) (ZT (bytes:=8) (sz:=1) (av:=(BB tab.av (.i .i64))) (fun x=>⟨K3 _ x,NN (by kernel_rfl) x⟩) h)
noncomputable def zG:FS:=At 183 [.v (.st 5)] (.v (.st 5)) (fun x=>VB x.1) [zkJ,X6,kP] [.sp [.i .i64, .l (.st 3)]]
noncomputable def zN:FS:=At 96 [.v (.st 7)] (.v (.st 7)) (fun x=>Vw x.1) [zG] []
noncomputable def zlH:FS:=At 153 [.v (.i .i64), .v (.st 0), .rf (.l (.st 11))] (.tu (.cons (.tu .nil) (.cons (.bo (.l (.st 11))) .nil))) (fun x=>KT x.1 x.2.1 x.2.2.1) [] []
noncomputable def zs6:FS:=At 154 [.v (.i .i64)] (.v .b) (fun x=>lU x.1) [] []
noncomputable def lZ:FS:=At 155 [.v (.i .i64)] (.v .b) (fun x=>NF x.1) [] []
noncomputable def zmp:FS:=At 70 [.v (.st 3), .v (.st 8)] (.v (.l (.st 11))) (fun x=>Ys x.1 x.2.1) [lZ,zlH,zs6,jO,Yk] [.sp [.s, .s, .b, .l (.st 11)], .pt, .pt, .sp [.i .i64, .l (.st 11)], .inl, .sp [.s], .pt, .pt]
noncomputable def zdb:FS:=At 303 [.v (.l (.st 0)), .v .s, .fn [.st 0, .s] (.i .i64)] (.tu (.cons (.v (.i .i64)) (.cons (.v .b) .nil))) (fun x=>iW x.1 x.2.1 (fun y0 y1=>x.2.2.1.φ (y0,y1,()))) [] [.sp [.i .i64, .i .i64]]
noncomputable def zn5:FS:=At 322 [.v .s] (.v .b) (fun x=>Vg x.1) [] []
noncomputable def zmt:FS:=At 305 [.v .s, .v .s] (.v (.i .i64)) (fun x=>Yq x.1 x.2.1) [zn5] []
noncomputable def zoY:FS:=At 304 [.v (.st 0), .v .s] (.v (.i .i64)) (fun x=>RO x.1 x.2.1) [zmt] []
noncomputable def zn9:FS:=Kf zoY fun _=>by kernel_rfl
noncomputable def lP:FS:=At 284 [.v (.l (.st 0)), .v .s] (.tu (.cons (.v (.i .i64)) (.cons (.v .b) .nil))) (fun x=>ND x.1 x.2.1) [zdb,zn9] []
noncomputable def zI:FS:=At 235 [.v (.l (.st 0)), .v (.st 0)] (.v (.l (.st 0))) (fun x=>PN x.1 x.2.1) [lP,zfQ] []
noncomputable def ztw:FS:=At 280 [.v .s, .v (.l (.st 0)), .v (.l (.st 12))] (.tu (.cons (.v .s) (.cons (.v .b) (.cons (.v .b) .nil)))) (fun x=>Zb x.1 x.2.1 x.2.2.1) [lP] [.sp [.i .i64]]
noncomputable def zL:FS:=At 282 [.v .s] (.tu (.cons (.v (.i .i64)) (.cons (.v .b) .nil))) (fun x=>Vv x.1) [zth] []
noncomputable def zpN:FS:=At 281 [.v (.st 11), .v .s, .v .b] (.v .b) (fun x=>Yv x.1 x.2.1 x.2.2.1) [zL,Jk] []
noncomputable def ztk:FS:=At 233 [.v (.l (.st 11)), .v (.l (.st 12))] (.tu (.cons (.v (.i .i64)) (.cons (.v .s) (.cons (.v (.l (.st 0))) .nil)))) (fun x=>mD x.1 x.2.1) [zI,ztw,zpN,zL,ztB] [.sp [.i .i64, .l (.st 0)], .inl]
noncomputable def zwx:FS:=At 234 [.v (.l (.st 0)), .v .s] (.v (.st 12)) (fun x=>Zq x.1 x.2.1) [lP] []
noncomputable def zsK:FS:=At 151 [.v (.l (.st 0)), .v (.l (.st 11))] (.tu (.cons (.v (.l (.st 12))) (.cons (.v (.l (.st 0))) (.cons (.v .b) .nil)))) (fun x=>lN x.1 x.2.1) [ztk,zwx] [.sp [.l (.st 12)]]
noncomputable def ze3:FS:=Eh 236 [.v (.l (.st 0)), .fn [.st 0] .b] (.v (.l (.st 0))) (fun x=>Jj x.1 (fun y=>x.2.1.φ (y,()))) fun x r hp h=>Gc (f:=236) (t:=XI 232 3 true (.mk (.cons (.fld (.fld (.idx (.var 5) (.var 4)) 0 3 true) 0 1 false) (.cons (.fld (.fld (.idx (.var 5) (.var 4)) 0 3 true) 1 1 false) (.cons (.fld (.fld (.idx (.var 5) (.var 4)) 0 3 true) 2 1 false) .nil)))) [(.agg (.fld (.idx (.var 5) (.var 4)) 0 3 true) 3)] (.mk (.cons (.str (ByteArray.mk #[])) (.cons (.str (ByteArray.mk #[])) (.cons (.bool false) .nil))))) (by kernel_rfl) (by kernel_rfl) (uQ (av:=(BB tab.av (.st 0))) (fun x=>⟨K3 _ x,NN (by kernel_rfl) x,fun _=>⟨_,rfl⟩,fun e=>nomatch e⟩) (by decide) (fun a b c d j ys x tl hj=>by simp [AV.nth,hj,BB,LR]) (fun a b c d j ys x hj=>by simp [AV.nth,hj,BB,LR]) h (fun i hi=>yE.ok x i hp hi) (fun y b hb=>hp.2.1 (y,()) b hb))
noncomputable def zq1:FS:=At 237 [.v (.st 0)] (.v .b) (fun x=>kR x.1) [] []
noncomputable def zpC:FS:=Kf zq1 fun _=>by kernel_rfl
noncomputable def zta:FS:=At 152 [.v (.l (.st 0)), .v (.l (.st 0))] (.tu (.cons (.v (.l (.st 0))) (.cons (.v .b) .nil))) (fun x=>Y8 x.1 x.2.1) [X6,ze3,zpC,zI] [.sp [.i .i64, .l (.st 0)]]
noncomputable def zph:FS:=At 69 [.v (.l (.st 0)), .v (.l (.st 11))] (.tu (.cons (.v (.l (.st 0))) (.cons (.v .b) .nil))) (fun x=>VQ x.1 x.2.1) [zsK,zta] []
noncomputable def yZ:FS:=At 178 [.v (.st 5), .v (.st 9)] (.tu (.cons (.v (.st 5)) (.cons (.v .b) .nil))) (fun x=>Rw x.1 x.2.1) [zG,Jk,Vm,zmp,zph] []
noncomputable def zlD:FS:=At 203 [.v (.l (.i .i64))] (.v (.i .i64)) (fun x=>Yi x.1) [] [.sp [.i .i64, .i .i64]]
noncomputable def zli:FS:=At 204 [.v (.l (.i .i64))] (.v (.i .i64)) (fun x=>Yl x.1) [] [.sp [.i .i64, .i .i64]]
noncomputable def zlr:FS:=At 111 [.v (.st 5)] (.v .b) (fun x=>Vd x.1) [zlD,zli] []
noncomputable def zE:FS:=At 92 [.v (.st 5), .v (.st 9)] (.v .b) (fun x=>Vs x.1 x.2.1) [yZ,zlr,yW] []
noncomputable def zmw:FS:=At 170 [.v (.st 7), .v (.st 9)] (.tu (.cons (.v (.st 7)) (.cons (.v .b) .nil))) (fun x=>LZ x.1 x.2.1) [zN,zE,yZ,Vm,Yc,lZ] [.inl]
noncomputable def zjF:FS:=At 171 [.v (.st 7)] (.v (.i .i64)) (fun x=>Rj x.1) [Vm,Yc,lZ] [.sp [.i .i64, .i .i64], .inl]
noncomputable def zl3:FS:=At 245 [.v (.st 3), .v .s, .v (.st 4)] (.v (.l (.st 11))) (fun x=>Ye x.1 x.2.1 x.2.2.1) [Yk,jO] []
noncomputable def zno:FS:=At 173 [.v (.st 3), .v .s, .v (.l (.st 0))] (.v (.l (.st 13))) (fun x=>Vk x.1 x.2.1 x.2.2.1) [yV,Yk,zl3] [.sp [.i .i64, .l (.st 13)]]
noncomputable def zgl:FS:=Eh 243 [.v (.l (.st 13))] (.v (.l (.st 13))) (fun x=>iX x.1) fun x r hp h=>Gc (f:=243) (t:=rX 40 2) (by kernel_rfl) (by kernel_rfl) (zzQ (bytes:=40) (sz:=2) (av:=(BB tab.av (.st 13))) (fun x=>K3 _ x) h)
noncomputable def zfA:FS:=Eh 287 [.v (.l (.st 13)), .fn [.st 13] .b] (.v (.i .i64)) (fun x=>Fz x.1 (fun y=>x.2.1.φ (y,()))) fun x r hp h=>Gc (f:=287) (t:=Tu 2) (by kernel_rfl) (by kernel_rfl) (aZ (av:=(BB tab.av (.st 13))) (cn:=2) (fun _=>⟨_,rfl,rfl⟩) h (fun y b hb=>hp.2.1 (y,()) b hb))
noncomputable def zft:FS:=Eh 242 [.v (.l (.st 13)), .fn [.st 13] .b] (.v (.l (.st 13))) (fun x=>Jj x.1 (fun y=>x.2.1.φ (y,()))) fun x r hp h=>Gc (f:=242) (t:=gL 287 2 (.mk (.cons (.fld (.fld (.idx (.var 5) (.var 4)) 0 2 true) 0 1 false) (.cons (.fld (.fld (.idx (.var 5) (.var 4)) 0 2 true) 1 1 false) .nil))) [(.agg (.fld (.idx (.var 5) (.var 4)) 0 2 true) 2)] (.mk (.cons (.str (ByteArray.mk #[])) (.cons (.lst .nil) .nil)))) (by kernel_rfl) (by kernel_rfl) (zDf (av:=(BB tab.av (.st 13))) (fun x=>⟨K3 _ x,_,rfl⟩) (by decide) (fun a b c d j ys x tl hj=>by simp [AV.nth,hj,BB,LR]) (fun a b c d j ys x hj=>by simp [AV.nth,hj,BB,LR]) h (fun i hi=>zfA.ok x i hp hi) (fun y b hb=>hp.2.1 (y,()) b hb))
noncomputable def ztn:FS:=At 244 [.v (.st 13), .rf (.st 6)] (.v .b) (fun x=>Y5 x.1 x.2.1) [] []
noncomputable def zrN:FS:=Kf ztn fun _=>by kernel_rfl
noncomputable def zvL:FS:=At 172 [.v (.l (.st 13)), .v (.l (.st 0)), .v (.st 6), .v (.i .i64)] (.tu (.cons (.v (.l (.st 0))) (.cons (.v (.st 6)) .nil))) (fun x=>NK x.1 x.2.1 x.2.2.1 x.2.2.2.1) [zgl,zft,zrN,X6,zph] [.sp [.l (.st 0), .i .i64, .s]]
noncomputable def zmc:FS:=At 174 [.v (.st 3), .v .s, .v (.l (.st 0))] (.v (.l (.st 13))) (fun x=>Rz x.1 x.2.1 x.2.2.1) [Ym] [.sp [.i .i64, .l (.st 13)]]
noncomputable def zoT:FS:=At 89 [.v (.st 7), .v (.st 10)] (.tu (.cons (.v (.st 7)) (.cons (.v .b) .nil))) (fun x=>NA x.1 x.2.1) [zmw,zN,zjF,zno,zvL,zmc] [.inl]
noncomputable def zrY:FS:=At 25 [.v (.st 7), .v (.st 10)] (.tu (.cons (.v (.st 7)) (.cons (.v .b) (.cons (.v .b) .nil)))) (fun x=>PL x.1 x.2.1) [zoy,zoT] []
noncomputable def zpD:FS:=At 71 [.v (.st 3), .v .s, .v (.l (.st 0))] (.v .b) (fun x=>YM x.1 x.2.1 x.2.2.1) [mQ,mN] []
noncomputable def ztm:FS:=At 26 [.v (.st 3), .v .s, .v (.l (.st 0))] (.tu (.cons (.v (.l .s)) (.cons (.v .b) .nil))) (fun x=>VK x.1 x.2.1 x.2.2.1) [zpD,yS] []
noncomputable def znU:FS:=At 91 [.v (.st 5), .v (.st 9)] (.v .b) (fun x=>jS x.1 x.2.1) [YF,yQ] []
noncomputable def ztf:FS:=At 27 [.v (.st 5), .v (.st 9)] (.tu (.cons (.v .b) (.cons (.v .b) .nil))) (fun x=>VI x.1 x.2.1) [znU,zE] []
noncomputable def zK:FS:=At 4 [.v (.l (.i .u8)), .v (.l (.i .u8))] (.v .b) (fun x=>YR x.1 x.2.1) [zog,zqX,YF,zrL,zrS,zu2,zuB,ztm,ztf,zrY] [.sp [.i .i64, .s, .l (.st 3), .s, .b, .s, .b, .l (.i .i64), .l (.st 0)]]
theorem zsV (a0 a1:List Int) (r:Bool) (h:YR a0 a1=some r):Cw Tryz.prog Cv 4 [.sl (a0.map Q0), .sl (a1.map Q0)] (.bool r):=zK.ok (a0,a1,()) r (by simp [zK,At,IG,U1]) h
end Go.Proofs.YtbmbkgalkfmjdaaGreatDoor
end
section
namespace Go.Proofs.YtbmbkgalkfmjdaaGreatDoor
open Go.ChangeShapes Go.WideShapes Go.ChangeAt Go.RowKit
theorem nB {H:Type} {P:Program} {t:TypeId} {ts:List TypeId} {d:DataW H} {r:List (DataW H)} {n:Nat} (h:(DataW.weightsEach P (t::ts) (d::r)).all (· ≤n)=true):(d.weights P t).all (· ≤n)=true∧(DataW.weightsEach P ts r).all (· ≤n)=true:=by rw [DataW.weightsEach,List.all_append,Ae]at h;exact h
theorem xG {w:World} {p:Option Addr} {n c:Nat} {xs:List AV} {f:List Nat} (h:Rd w [.slice p n c] [.sl xs] f):n=xs.length:=by cases h<;>first|rfl|(symm;assumption)
theorem zC6 {w:World} {v:Value} {xs:List AV} {f:List Nat} (h:Rd w [v] [.sl xs] f):v.cells.toList= [v]:=by cases h<;>rfl
theorem zrE {H:Type} {P:Program} {enc:TypeId × Value→H} {w:World} {spare:Nat→Bool} {held:Bool} {t e:TypeId} {v:Value} {d:DataW H} {p:List MemPlace} {xs:List AV} {f:List Nat} (ht:P.underlying t=some (.slice e)) (hb:P.bytesOf e=1) (h:DataW.Trod enc P w 0 spare held t v d p) (hr:Rd w [v] [.sl xs] f) (hw:(d.weights P t).all (· ≤reachBytes)=true):xs.length≤reachBytes:=by
 have hc:=zC6 hr;obtain⟨m,hm⟩:=h;rcases DataW.trod_slice ht hm with⟨h1,_⟩|⟨a,len,cap,elems,rest,n,_,h1,h2,_,_,_,h3,_⟩
 ·rw [hc]at h1;obtain rfl:=(List.cons.inj h1).1;rw [←xG hr];omega
 ·rw [hc]at h1;obtain rfl:=(List.cons.inj h1).1;rw [←xG hr];have:d= .slice (elems.map (·.1)) (rest.map (·.1)):=congrArg Prod.fst h2;subst this;rw [DataW.weights,ht]at hw;dsimp only at hw;rw [List.all_cons,Ae,decide_eq_true_eq,hb,List.length_map]at hw;omega
end Go.Proofs.YtbmbkgalkfmjdaaGreatDoor
end
section
namespace Go.Proofs.YtbmbkgalkfmjdaaGreatDoor
open Go.RowKit
set_option maxRecDepth 100000
theorem AR {α:Type} {xs:List α} {i:Nat} (h:i<xs.length):getI xs (i:Int)=some xs[i]:=by simp [getI,h]
theorem Kt {α:Type} {xs:List α} {i:Int} (h0:0≤i) (h:i<xs.length): ∃x,getI xs i=some x∧x∈xs∧xs[i.toNat]?=some x:=by
 have hi:i.toNat<xs.length:=by omega
 exact⟨xs[i.toNat],by simp [getI,h0,hi],List.getElem_mem hi,by simp [hi]⟩
theorem rM {α:Type} {xs:List α} {i:Int} {x:α} (h:getI xs i=some x):x∈xs:=by obtain⟨h1,h2,h3⟩:=XP h;exact List.mem_of_getElem? h3
theorem Bx {q n:Nat} (h:q<n) (hn:n≤9223372036854775807):IntKind.i64.wrap ((q:Int)+1)=((q+1:Nat):Int):=by rw [A8 (by omega) (by omega)];simp
theorem AP {α:Type} {p:Prop} {k:Option α} (h:p):req p k=k:=by simp [req,h]
def HW {α σ β:Type} (step:α→σ→Option (σ ⊕ Option β)) (fin:σ→Option β):List α→σ→Option β
 | [],s=>fin s
 |x::xs,s=>match step x s with
  |none=>none
  |some (.inl s')=>HW step fin xs s'
  |some (.inr o)=>o
def MJ {σ τ β:Type} (f:σ→τ):Option (σ ⊕ Option β)→Option (τ ⊕ Option β)
 |none=>none
 |some (.inl s)=>some (.inl (f s))
 |some (.inr o)=>some (.inr o)
theorem zBt {α σ τ β:Type} {xs:List α} {body:τ→Option (τ ⊕ Option β)} (emb:Int→σ→τ) (step:α→σ→Option (σ ⊕ Option β)) (fin:σ→Option β) (q0:Nat)
  (hs: ∀(i:Nat) (hi:i<xs.length) (s:σ),q0≤i→body (emb i s)=MJ (emb ((i+1:Nat):Int)) (step xs[i] s)) (he: ∀s,body (emb xs.length s)=some (.inr (fin s))) (s:σ) (h0:q0≤xs.length):AA body (emb q0 s)=HW step fin (xs.drop q0) s:=by
 have key: ∀(n q:Nat) (s:σ),q0≤q→q+n=xs.length→AA body (emb q s)=HW step fin (xs.drop q) s:=by
  intro n
  induction n with
  |zero=>
   intro q s _ hq;have:q=xs.length:=by omega
   subst this;rw [FA,he s];simp [HW]
  |succ n ih=>
   intro q s h0 hq;have Ak:q<xs.length:=by omega
   rw [FA,hs q Ak s h0,List.drop_eq_getElem_cons Ak];rcases AW:step xs[q] s with _|s'|o
   ·simp [HW,AW,MJ]
   ·simp only [HW,AW,MJ];exact ih (q+1) s' (by omega) (by omega)
   ·simp [HW,AW,MJ]
 exact key (xs.length-q0) q0 s (Nat.le_refl _) (by omega)
theorem ZV {α σ τ β:Type} {xs:List α} {body:τ→Option (τ ⊕ Option β)} (emb:Int→σ→τ) (step:α→σ→Option (σ ⊕ Option β)) (fin:σ→Option β)
  (hs: ∀(i:Nat) (hi:i<xs.length) (s:σ),body (emb i s)=MJ (emb ((i+1:Nat):Int)) (step xs[i] s)) (he: ∀s,body (emb xs.length s)=some (.inr (fin s))) (s:σ):AA body (emb 0 s)=HW step fin xs s:=by
 have:=zBt emb step fin 0 (fun i hi s _=>hs i hi s) he s (by omega);simpa using this
theorem sG {α σ β:Type} {step:α→σ→Option (σ ⊕ Option β)} {fin:σ→Option β} {xs:List α} (p:α→Bool) (b:β) (h: ∀x∈xs,∀s,step x s=some (if p x=true then .inl s else .inr (some b))) (s:σ):HW step fin xs s=if xs.all p=true then fin s else some b:=by
 induction xs with
 |nil=>simp [HW]
 |cons x xs ih=>
  simp only [HW,h x (by simp) s];cases hp:p x with
  |true=>simp [hp,ih fun y hy=>h y (by simp [hy])]
  |false=>simp [hp]
theorem zCY {α σ β:Type} {step:α→σ→Option (σ ⊕ Option β)} {fin:σ→Option β} {xs:List α} (f:σ→α→σ) (I:σ→Prop) (hI: ∀x∈xs,∀s,I s→I (f s x)) (h: ∀x∈xs,∀s,I s→step x s=some (.inl (f s x))) {s:σ} (hs:I s):HW step fin xs s=fin (xs.foldl f s):=by
 induction xs generalizing s with
 |nil=>simp [HW]
 |cons x xs ih=>simp only [HW,h x (by simp) s hs,List.foldl_cons];exact ih (fun y hy=>hI y (by simp [hy])) (fun y hy=>h y (by simp [hy])) (hI x (by simp) s hs)
theorem Ga {α σ τ β:Type} {xs:List α} {body:τ→Option (τ ⊕ Option β)} (emb:Int→σ→τ) (f:σ→α→σ) (fin:σ→Option β) (I:Nat→σ→Prop)
  (hs: ∀(i:Nat) (hi:i<xs.length) (s:σ),I i s→body (emb i s)=some (.inl (emb ((i+1:Nat):Int) (f s xs[i])))∧I (i+1) (f s xs[i])) (he: ∀s,I xs.length s→body (emb xs.length s)=some (.inr (fin s))) {s:σ} (h0:I 0 s):AA body (emb 0 s)=fin (xs.foldl f s)∧I xs.length (xs.foldl f s):=by
 have key: ∀(n q:Nat) (s:σ),q+n=xs.length→I q s→AA body (emb q s)=fin ((xs.drop q).foldl f s)∧I xs.length ((xs.drop q).foldl f s):=by
  intro n
  induction n with
  |zero=>
   intro q s hq hI;have:q=xs.length:=by omega
   subst this;rw [FA,he s hI];simp [hI]
  |succ n ih=>
   intro q s hq hI;have Ak:q<xs.length:=by omega
   obtain⟨h1,h2⟩:=hs q Ak s hI;rw [FA,h1,List.drop_eq_getElem_cons Ak,List.foldl_cons];exact ih (q+1) _ (by omega) h2
 have:=key xs.length 0 s (by omega) h0;simpa using this
theorem Ws {α:Type} {xs:List α} {p:α→Option Bool} (q:α→Bool) (hp: ∀x∈xs,p x=some (q x)) (hn:xs.length≤9223372036854775806):GN xs p=some (xs.any q):=by
 have key: ∀(l:List α) (i:Int),0≤i→(∀x∈l,p x=some (q x))→ ∃r,Em p l i=some r∧decide (r≥0)=l.any q:=by
  intro l
  induction l with
  |nil=>intro i _ _;exact⟨-1,rfl,by simp⟩
  |cons x l ih=>
   intro i hi h;simp only [Em,h x (by simp),Aa];cases hq:q x with
   |true=>exact⟨i,by simp,by simp [hq,hi]⟩
   |false=>obtain⟨r,h1,h2⟩:=ih (i+1) (by omega) fun y hy=>h y (by simp [hy]);exact⟨r,by simp [h1],by simp [hq,h2]⟩
 obtain⟨r,h1,h2⟩:=key xs 0 (by omega) hp;simp [GN,Fz,AP hn,h1,h2]
theorem Mi {α:Type} {b:Nat} {xs:List α} (h:(xs.length:Int)*b≤140737488355328) (h2:(xs.length:Int)≤140737488355328):NY b xs=some xs:=AP ⟨h,h2⟩
theorem P4 {β:Type} {n:Nat} {body:Int→Option (Int ⊕ Option β)} (p:Nat→Bool) (b:β) (fin:Option β)
  (hs: ∀i:Nat,i<n→body i=some (if p i=true then .inl ((i+1:Nat):Int)else .inr (some b))) (he:body n=some (.inr fin)):AA body 0=if(List.range n).all p=true then fin else some b:=by
 have h1:=ZV (xs:=List.range n) (body:=body) (fun i (_:Unit)=>i) (fun i _=>some (if p i=true then .inl ()else .inr (some b))) (fun _=>fin)
  (fun i hi s=>by rw [List.length_range]at hi;rw [hs i hi,List.getElem_range];cases p i<;>simp [MJ]) (fun s=>by simpa using he) ()
 rw [sG p b fun x _ s=>rfl]at h1;exact h1
def BC {α:Type} (p:α→Bool) (l:List α):Int:=match l.findIdx? p with|some i=>(i:Int)|none=> -1
theorem aE {α:Type} (p:α→Bool):BC p []= -1:=rfl
theorem NT {α:Type} (p:α→Bool) (x:α) (l:List α):BC p (x::l)=if p x=true then 0 else if BC p l= -1 then-1 else BC p l+1:=by
 unfold BC;rw [List.findIdx?_cons];cases p x with
 |true=>simp
 |false=>
  cases h:l.findIdx? p with
  |none=>simp
  |some i=>simp<;>omega
theorem Wt {α:Type} (p:α→Bool) (l:List α): -1≤BC p l:=by unfold BC;split<;>omega
theorem P7 {α:Type} (p:α→Bool) (l:List α):decide (BC p l≥0)=l.any p:=by
 induction l with
 |nil=>simp [aE]
 |cons x l ih=>
  have h1:=Wt p l;rw [NT,List.any_cons,←ih];cases p x with
  |true=>simp
  |false=>
   by_cases h:BC p l= -1
   ·simp [h]
   ·have:BC p l≥0:=by omega
    simp [h,this];try omega
theorem zyi {α:Type} {p:α→Bool} {l:List α} (h:BC p l≥0): ∃x,getI l (BC p l)=some x∧p x=true∧x∈l:=by
 induction l with
 |nil=>simp [aE]at h
 |cons y l ih=>
  rw [NT]at h ⊢;cases hy:p y with
  |true=>exact⟨y,by simp [getI],hy,by simp⟩
  |false=>
   have h1:=Wt p l;by_cases hm:BC p l= -1
   ·rw [hy,hm]at h;simp at h
   ·have h0:BC p l≥0:=by omega
    obtain⟨x,e1,e2,e3⟩:=ih h0;obtain⟨_,e4,e5⟩:=XP e1;refine⟨x, ?_,e2,by simp [e3]⟩;simp only [AX,if_false,hm];unfold getI;rw [if_pos (by omega),show(BC p l+1).toNat=(BC p l).toNat+1 by omega];simpa using e5
theorem qK {α:Type} {xs:List α} {body:Int→Option (Int ⊕ Option Int)} (p:α→Bool) (hs: ∀(i:Nat) (hi:i<xs.length),body i=some (if p xs[i]=true then .inr (some (i:Int))else .inl ((i+1:Nat):Int))) (he:body xs.length=some (.inr (some (-1)))):AA body 0=some (BC p xs):=by
 have key: ∀(n q:Nat),q+n=xs.length→AA body q=some (if BC p (xs.drop q)= -1 then-1 else q+BC p (xs.drop q)):=by
  intro n
  induction n with
  |zero=>
   intro q hq;have:q=xs.length:=by omega
   subst this;rw [FA,he];simp [aE]
  |succ n ih=>
   intro q hq;have Ak:q<xs.length:=by omega
   rw [FA,hs q Ak,List.drop_eq_getElem_cons Ak,NT];cases p xs[q]with
   |true=>simp
   |false=>
    simp only [AX,if_false];rw [ih (q+1) (by omega)];have h1:=Wt p (xs.drop (q+1));congr 1;by_cases hm:BC p (xs.drop (q+1))= -1
    ·simp [hm]
    ·have h2: ¬(BC p (xs.drop (q+1))+1= -1):=by omega
     simp only [hm,if_false,h2];omega
 have h:=key xs.length 0 (by omega);rw [List.drop_zero]at h;rw [show((0:Nat):Int)=0 from rfl]at h;rw [h];have h1:=Wt p xs;by_cases hm:BC p xs= -1
 ·simp [hm]
 ·simp [hm]
theorem zw2 {α:Type} {xs:List α} {p:α→Option Bool} (q:α→Bool) (hp: ∀x∈xs,p x=some (q x)) (hn:xs.length≤9223372036854775806):Fz xs p=some (BC q xs):=by
 have key: ∀(l:List α) (i:Int),(∀x∈l,p x=some (q x))→Em p l i=some (if BC q l= -1 then-1 else i+BC q l):=by
  intro l
  induction l with
  |nil=>intro i _;simp [Em,aE]
  |cons x l ih=>
   intro i h;simp only [Em,h x (by simp),Aa,NT];cases q x with
   |true=>simp
   |false=>
    simp only [AX,if_false];rw [ih (i+1) fun y hy=>h y (by simp [hy])];have h1:=Wt q l;congr 1;by_cases hm:BC q l= -1
    ·simp [hm]
    ·have h2: ¬(BC q l+1= -1):=by omega
     simp only [hm,if_false,h2];omega
 unfold Fz;rw [AP hn,key xs 0 hp];by_cases hm:BC q xs= -1
 ·simp [hm]
 ·simp [hm]
theorem iT {α:Type} {b:Bool} {A B:Option α} {y:Option α} (ha:b=true→A=y) (hb:b=false→B=y):(if b=true then A else B)=y:=by
 cases b with
 |true=>simpa using ha rfl
 |false=>simpa using hb rfl
theorem zIu {α:Type} {b:Bool} {A B y:Option α} (h:b=false) (hb:B=y):(if b=true then A else B)=y:=by rw [if_neg (by simp [h])];exact hb
theorem K5 {α β:Type} {o:Option α} {x:α} {f:α→Option β} (h:o=some x):o.bind f=f x:=by rw [h];rfl
def BA {α:Type} (o:Option α) (Q:α→Prop):Prop:= ∃x,o=some x∧Q x
section
variable {α β σ:Type} {Q:β→Prop}
theorem BA.bind {o:Option α} {P:α→Prop} {f:α→Option β} (h:BA o P) (hf: ∀x,P x→BA (f x) Q):BA (o.bind f) Q:=by obtain⟨x,rfl,hx⟩:=h;exact hf x hx
theorem BA.ret {x:β} (h:Q x):BA (some x) Q:=⟨x,rfl,h⟩
theorem BA.ite {b:Bool} {A B:Option β} (ha:b=true→BA A Q) (hb:b=false→BA B Q):BA (if b=true then A else B) Q:=by
 cases b with
 |true=>simpa using ha rfl
 |false=>simpa using hb rfl
theorem BA.req {p:Prop} [Decidable p] {k:Option β} (hp:p) (hk:BA k Q):BA (req p k) Q:=by rw [AP hp];exact hk
theorem BA.mono {o:Option β} {P:β→Prop} (h:BA o P) (hPQ: ∀x,P x→Q x):BA o Q:=by obtain⟨x,hx,h⟩:=h;exact⟨x,hx,hPQ x h⟩
theorem BA.getI {xs:List β} {i:Int} (h0:0≤i) (h:i<xs.length) (hq: ∀x,x∈xs→Q x):BA (getI xs i) Q:=by obtain⟨x,h1,h2,_⟩:=Kt h0 h;exact⟨x,h1,hq x h2⟩
theorem Ma {body:σ→Option (σ ⊕ Option β)} (I:Nat→σ→Prop) (h: ∀n s,I n s→BA (body s) fun o=>match o with| .inl s'=> ∃m,m<n∧I m s'| .inr q=>BA q Q): ∀{n:Nat} {s:σ},I n s→BA (AA body s) Q:=by
 intro n
 induction n using Nat.strongRecOn with
 |_ n ih=>
  intro s hI;obtain⟨o,ho,h2⟩:=h n s hI;rw [FA,ho]
  match o,h2 with
  | .inl s',⟨m,hm,hI'⟩=>exact ih m hm hI'
  | .inr q,hq=>exact hq
end
structure CQ where
 nk:List Int→Prop
 oy: ∀l,nk l→ ∀b∈l,0≤b∧b≤255
instance codeBytes:Inhabited CQ:=⟨⟨fun l=> ∀b∈l,0≤b∧b≤255,fun _ h=>h⟩⟩
def Bu [Inhabited CQ] (c:Az) (k:Int):Prop:=(default:CQ).nk c.az∧0≤c.cc∧c.cc≤k
theorem Bu.up [Inhabited CQ] {c:Az} {i j:Int} (h:Bu c i) (OO:i≤j):Bu c j:=⟨h.1,h.2.1,by have:=h.2.2;omega⟩
theorem Bu.start [Inhabited CQ] {code:List Int} (h:(default:CQ).nk code):Bu ⟨code,0,0⟩ 0:=⟨h,by simp,by simp⟩
theorem xC (a:Int):0≤IntKind.i64.wrap (IntKind.u64.wrap ((BitVec.ofInt (IntKind.bits .u64) a&&&BitVec.ofInt (IntKind.bits .u64) 255).toNat:Int))∧IntKind.i64.wrap (IntKind.u64.wrap ((BitVec.ofInt (IntKind.bits .u64) a&&&BitVec.ofInt (IntKind.bits .u64) 255).toNat:Int))≤255:=by
 have h:(BitVec.ofInt (IntKind.bits .u64) a&&&BitVec.ofInt (IntKind.bits .u64) 255).toNat≤255:=by rw [BitVec.toNat_and];exact Nat.le_trans Nat.and_le_right (by decide)
 generalize (BitVec.ofInt (IntKind.bits .u64) a&&&BitVec.ofInt (IntKind.bits .u64) 255).toNat=m at h ⊢;have e:IntKind.u64.wrap (m:Int)=m:=by simp [IntKind.wrap,IntKind.bits,IntKind.signed];omega
 rw [e,A8 (by omega) (by omega)];omega
theorem vU [Inhabited CQ] {c:Az} {k:Int} (h:Bu c k) (hk:k≤4611686018427387904):BA (Pz c) fun p=>(0≤p.1∧p.1≤255)∧Bu p.2 (k+1):=by
 obtain⟨hb,h0,h1⟩:=h;have w:IntKind.i64.wrap (c.cc+1)=c.cc+1:=A8 (by omega) (by omega);unfold Pz;refine .ite (fun Ak=> ?_) fun Ak=> ?_
 ·simp only [decide_eq_true_eq]at Ak;refine BA.bind (P:=fun y=>0≤y∧y≤255) (.getI h0 Ak ((default:CQ).oy _ hb)) fun y hy=> ?_;have wy:IntKind.i64.wrap y=y:=A8 (by omega) (by omega);refine .ite (fun _=> .ret ⟨by dsimp only;rw [wy];exact hy,hb,by dsimp only;omega,by dsimp only;omega⟩) fun _=> .ret ⟨xC _,hb,by dsimp only;omega,by dsimp only;omega⟩
 ·refine .ite (fun _=> .ret ⟨by simp,hb,by dsimp only;omega,by dsimp only;omega⟩) fun _=> .ret ⟨xC _,hb,by dsimp only;omega,by dsimp only;omega⟩
theorem Gk [Inhabited CQ] {c:Az} {k:Int} (n:Int) (h:Bu c k) (hk:k≤4611686018427387000):BA (Fy c n) fun p=>(0≤p.1∧(1≤n→p.1<n)∧p.1≤65535)∧Bu p.2 (k+2):=by
 have tm: ∀x:Int,0≤x→1<n→0≤x.tmod n∧x.tmod n<n∧x.tmod n≤x:=fun x hx hn=>by
  rw [Int.tmod_eq_emod_of_nonneg hx];exact⟨Int.emod_nonneg _ (by omega),Int.emod_lt_of_pos _ (by omega),by have:=Int.emod_add_mul_ediv x n;have h2:0≤n*(x/n):=Int.mul_nonneg (by omega) (Int.ediv_nonneg hx (by omega));omega⟩
 unfold Fy;refine .ite (fun hn=> .ret ⟨⟨by simp,fun h1=>by dsimp only;omega,by simp⟩,h.up (by omega)⟩) fun hn=> ?_;simp only [decide_eq_false_iff_not]at hn;refine(vU h (by omega)).bind fun p ⟨hp,hc⟩=> ?_;refine .ite (fun _=> ?_) fun _=> ?_
 ·refine(vU hc (by omega)).bind fun q ⟨hq,hd⟩=> .req (by omega) (.ret ?_);have w1:IntKind.i64.wrap (p.1*256)=p.1*256:=A8 (by omega) (by omega);have w2:IntKind.i64.wrap (p.1*256+q.1)=p.1*256+q.1:=A8 (by omega) (by omega);have:=tm (p.1*256+q.1) (by omega) (by omega);dsimp only;rw [w1,w2];exact⟨⟨this.1,fun _=>this.2.1,by omega⟩,hd.up (by omega)⟩
 ·have:=tm p.1 hp.1 (by omega);exact .req (by omega) (.ret ⟨⟨this.1,fun _=>this.2.1,by dsimp only;omega⟩,hc.up (by omega)⟩)
theorem Lg [Inhabited CQ] {c:Az} {k:Int} (n:Int) (h:Bu c k) (hk:k≤4611686018427387000):BA (II c n) fun p=>Bu p.2 (k+2):=by unfold II;exact(Gk n h hk).bind fun p ⟨_,hc⟩=> .ret hc
theorem pT {α β:Type} (f:α→β) (l:List α) (o:List β):l.foldl (fun o x=>o++ [f x]) o=o++l.map f:=by
 induction l generalizing o with
 |nil=>simp
 |cons x l ih=>rw [List.foldl_cons,ih];simp
abbrev Af:=Ac
def Bw (a b c:Int):Bool:=decide (a≥b)&&decide (a≤c)
theorem B7 {a b c:Int}:Bw a b c=true↔b≤a∧a≤c:=by simp [Bw]
@[simp] theorem Gm (a b c:Int):F9 a b c=some (Bw a b c):=rfl
@[simp] theorem Jo (a b c:Int):GM a b c=some (Bw a b c):=rfl
def Fh (b:UInt8):Bool:=(decide ((b.toNat:Int)≥97)&&decide ((b.toNat:Int)≤122))||(decide ((b.toNat:Int)≥48)&&decide ((b.toNat:Int)≤57))
def Kv (s more:Af):Bool:=s.all fun b=>Fh b||more.contains b
theorem xO {a b:UInt8}:((a.toNat:Int)==(b.toNat:Int))=(a==b):=by
 rw [Bool.eq_iff_iff];simp only [beq_iff_eq];constructor
 ·intro h;exact UInt8.toNat_inj.1 (by omega)
 ·rintro rfl;rfl
theorem zwZ {α:Type} (xs:List α) (p:α→Bool) (q:Nat→Bool) (h: ∀(i:Nat) (hi:i<xs.length),q i=p xs[i]):(List.range xs.length).all q=xs.all p:=by
 rw [Bool.eq_iff_iff];simp only [AG,List.mem_range];constructor
 ·intro hq x hx;obtain⟨i,hi,rfl⟩:=List.getElem_of_mem hx;rw [←h i hi];exact hq i hi
 ·intro hp i hi;rw [h i hi];exact hp _ (List.getElem_mem hi)
theorem Mg {α β:Type} {xs:List α} {body:Int→Option (Int ⊕ Option β)} (p:α→Bool) (b:β) (fin:Option β)
  (hs: ∀(i:Nat) (hi:i<xs.length),body i=some (if p xs[i]=true then .inl ((i+1:Nat):Int)else .inr (some b))) (he:body xs.length=some (.inr fin)):AA body 0=if xs.all p=true then fin else some b:=by
 rw [P4 (n:=xs.length) (fun i=>match xs[i]? with|some x=>p x|none=>true) b fin (fun i hi=>by rw [hs i hi];simp [hi]) he,
  zwZ xs p _ fun i hi=>by simp [hi]]
theorem pN {s more:Af} (h1:s.length≤2000000) (h2:more.length≤2000000):Sa s more=some (Kv s more):=by
 unfold Sa;rw [Mg (xs:=s) (fun b=>Fh b||more.contains b) false (some true) ?_ (by simp [kE])]
 ·unfold Kv;cases(s.all fun b=>Fh b||more.contains b)<;>rfl
 ·intro i hi;have Ch:AA (fun t:Bool × Int=>Vn more i s[i] t.1 t.2) (Fh s[i],0)=some (if(Fh s[i]||more.contains s[i])=true then .inl ((i+1:Nat):Int)else .inr (some false)):=by
   have hl:=ZV (xs:=more) (body:=fun t:Bool × Int=>Vn more i s[i] t.1 t.2) (fun k (ok:Bool)=>(ok,k)) (fun b ok=>some (.inl (ok||s[i]==b))) (fun ok=>lD i ok)
    (fun k hk ok=>by simp only [Vn,Int.ofNat_lt,hk,decide_true,if_true,AR hk,Aa,Bx hk (by omega:more.length≤_),xO,MJ];cases ok<;>simp) (fun ok=>by simp [Vn]) (Fh s[i])
   rw [zCY (fun ok b=>ok||s[i]==b) (fun _=>True) (fun _ _ _ _=>trivial) (fun _ _ _ _=>rfl) trivial]at hl;have hf: ∀(l:Af) (ok:Bool),l.foldl (fun ok b=>ok||s[i]==b) ok=(ok||l.contains s[i]):=by
    intro l
    induction l with
    |nil=>intro ok;simp
    |cons c l ih=>intro ok;rw [List.foldl_cons,ih,List.contains_cons,Bool.or_assoc]
   rw [hl,hf];unfold lD;rw [Bx hi (by omega)];cases(Fh s[i]||more.contains s[i])<;>rfl
  simp only [kE,Int.ofNat_lt,hi,decide_true,if_true,AR hi,Aa];exact Ch
theorem zuP (l:Af) (c:UInt8):decide (Lib.indexByte l c<0)= !l.contains c:=by
 induction l with
 |nil=>rfl
 |cons b l ih=>
  unfold Lib.indexByte;have ES:=Lib.indexByte_ge l c;rw [List.contains_cons];by_cases hb:b=c
  ·subst hb;simp
  ·have h1:(b==c)=false:=by simpa using hb
   have h2:(c==b)=false:=by simpa using fun h=>hb h.symm
   rw [h1,h2];simp only [AX,if_false,Bool.false_or];rw [←ih];by_cases hm:Lib.indexByte l c= -1
   ·simp [hm]
   ·have h3:(Lib.indexByte l c== -1)=false:=by simpa using hm
    rw [h3];simp only [AX,if_false];rw [decide_eq_decide];omega
theorem oH {s more:Af} (h1:s.length≤2000000):RW s more=some (Kv s more):=by
 unfold RW;rw [Mg (xs:=s) (fun b=>Fh b||more.contains b) false (some true) ?_ (by simp [kL])]
 ·unfold Kv;cases(s.all fun b=>Fh b||more.contains b)<;>rfl
 ·intro i hi;have hu:((s[i].toNat:Int)).toNat.toUInt8=s[i]:=by simp
  simp only [kL,Int.ofNat_lt,hi,decide_true,if_true,AR hi,Aa,jM,jQ,X2,hu,zuP,Bx hi (by omega:s.length≤_)];rw [show((decide ((s[i].toNat:Int)≥97)&&decide ((s[i].toNat:Int)≤122))||(decide ((s[i].toNat:Int)≥48)&&decide ((s[i].toNat:Int)≤57)))=Fh s[i]from rfl];cases Fh s[i]<;>cases more.contains s[i]<;>rfl
def Am (s:Af):Bool:=Bw s.length 1 12&&Kv s [46,47]
def Gl (s:Af):Bool:=decide ((s.length:Int)≤24)&&Kv s [46,45,44,95]
theorem gF {s:Af} (h:s.length≤2000000):Sl s=some (Am s):=by simp only [Sl,Gm,Aa,pN h (more:= [46,47]) (by decide),Am];cases Bw s.length 1 12<;>simp
theorem wW {s:Af} (h:s.length≤2000000):VJ s=some (Am s):=by simp only [VJ,Jo,Aa,oH h,Am];cases Bw s.length 1 12<;>simp
theorem gQ {s:Af} (h:s.length≤2000000):VS s=some (Gl s):=by simp only [VS,Aa,pN h (more:= [46,45,44,95]) (by decide),Gl];by_cases hl:(s.length:Int)≤24<;>simp [hl]
theorem zGx {s:Af} (h:s.length≤2000000):Zf s=some (Gl s):=by simp only [Zf,Aa,oH h,Gl];by_cases hl:(s.length:Int)≤24<;>simp [hl]
def Im (v:Af) (gone:Bool):Bool:=Gl v&&(!gone||v== [])
theorem zBf {v:Af} {gone:Bool} (h:v.length≤2000000):YW v gone=some (Im v gone):=by simp only [YW,zGx h,Aa,Im,bne];cases Gl v<;>cases gone<;>cases(v== [])<;>rfl
theorem zEk {k v:Af} {gone:Bool} (hk:k.length≤2000000) (hv:v.length≤2000000):Zd k v gone=some (Am k&&Im v gone):=by simp only [Zd,gF hk,gQ hv,Aa,Im];cases Am k<;>simp
def Jq (ks:List Af) (i:Nat):Bool:=i==0||Op.bytesLess ((ks[i-1]?).getD []) ((ks[i]?).getD [])
def Lb (ks:List Af):Bool:=(List.range ks.length).all (Jq ks)
theorem aO: ∀(a b:Af),(Op.bytesLess a b||a==b)= !Op.bytesLess b a
 | [], []=>rfl
 | [],_::_=>rfl
 |_::_, []=>rfl
 |x::a,y::b=>by
  have ih:=aO a b;simp only [Op.bytesLess];rcases Nat.lt_trichotomy x.toNat y.toNat with h|h|h
  ·have h1:x<y:=UInt8.lt_iff_toNat_lt.2 h;have h2: ¬y<x:=fun h'=>by have:=UInt8.lt_iff_toNat_lt.1 h';omega
   have h3: ¬y=x:=fun h'=>by subst h';omega
   simp [h1,h2,h3]
  ·have h0:x=y:=UInt8.toNat_inj.1 h;subst h0;have h1: ¬x<x:=fun h'=>by have:=UInt8.lt_iff_toNat_lt.1 h';omega
   rw [show((x::a)==(x::b))=(a==b) by simp];simp only [h1,decide_false,Bool.false_or,beq_self_eq_true,Bool.true_and];exact ih
  ·have h1: ¬x<y:=fun h'=>by have:=UInt8.lt_iff_toNat_lt.1 h';omega
   have h2:y<x:=UInt8.lt_iff_toNat_lt.2 h;have h3: ¬x=y:=fun h'=>by subst h';omega
   simp [h1,h2,h3]
theorem bA {i:Nat} (h0:0<i) (h:i≤2000000):IntKind.i64.wrap ((i:Int)-1)=((i-1:Nat):Int):=by rw [A8 (by omega) (by omega)];omega
theorem uU {α:Type} (xs:List α) (p:α→Bool) (q r:Nat→Bool) (h: ∀(i:Nat) (hi:i<xs.length),r i=(p xs[i]&&q i)):(List.range xs.length).all r=(xs.all p&&(List.range xs.length).all q):=by
 rw [←zwZ xs p (fun i=>match xs[i]? with|some x=>p x|none=>true) fun i hi=>by simp [hi]];rw [Bool.eq_iff_iff];simp only [Ae,AG,List.mem_range];constructor
 ·intro hr;exact⟨fun i hi=>by have:=hr i hi;rw [h i hi,Ae]at this;simpa [hi]using this.1,fun i hi=>by have:=hr i hi;rw [h i hi,Ae]at this;exact this.2⟩
 ·rintro⟨h1,h2⟩ i hi;rw [h i hi,Ae];exact⟨by have:=h1 i hi;simpa [hi]using this,h2 i hi⟩
theorem zxv {ks:List Af} (h:ks.length≤2000000) (hk: ∀k∈ks,k.length≤2000000):YL ks=some (ks.all Am&&Lb ks):=by
 unfold YL Lb;rw [P4 (n:=ks.length) (fun i=>Am ((ks[i]?).getD [])&&Jq ks i) false (some true) ?_ (by simp [jW]),uU ks Am (Jq ks) _ fun i hi=>by simp [hi]]
 ·cases(ks.all Am&&(List.range ks.length).all (Jq ks))<;>rfl
 ·intro i hi;simp only [jW,Int.ofNat_lt,hi,decide_true,if_true,AR hi,Aa,wW (hk _ (List.getElem_mem hi)),Bx hi (by omega:ks.length≤_),List.getElem?_eq_getElem hi,Option.getD_some,Jq];by_cases h0:i=0
  ·subst h0;cases Am ks[0]<;>simp
  ·have hp:(i:Int)>0:=by omega
   have CL:i-1<ks.length:=by omega
   have hb:(i==0)=false:=by simpa using h0
   simp only [hp,decide_true,if_true,bA (Nat.pos_of_ne_zero h0) (by omega:i≤2000000),AR CL,Aa,aO,List.getElem?_eq_getElem CL,Option.getD_some,hb,Bool.false_or];cases Am ks[i]<;>cases Op.bytesLess ks[i-1] ks[i]<;>rfl
theorem zx0 {l:List Ab} (h:l.length≤2000000):YJ l=some (l.map (·.af)):=by
 have h1:=Ga (xs:=l) (body:=fun s:Int × List Af=>Rp l s.1 s.2) (fun i (o:List Af)=>(i,o)) (fun o w=>o++ [w.af]) (fun o=>some o) (fun q o=>o.length=q)
  (fun i hi o hI=>by
   refine⟨?_,by simp [hI]⟩;show Rp l i o=_;unfold Rp;have hr:((o.length:Int)+(([l[i].af]:List Af).length:Int))*16≤140737488355328∧(o.length:Int)+(([l[i].af]:List Af).length:Int)≤140737488355328:=by rw [AH,hI];omega
   rw [if_pos (by simpa using hi),AR hi,Aa,AP hr,Bx hi (by omega)]) (fun o _=>by
   show Rp l l.length o=_;unfold Rp;rw [if_neg (by simp)]) (s:= []) rfl
 have hf: ∀(l:List Ab) (o:List Af),l.foldl (fun o w=>o++ [w.af]) o=o++l.map (·.af):=by
  intro l
  induction l with
  |nil=>intro o;simp
  |cons w l ih=>intro o;rw [List.foldl_cons,ih];simp
 have h2:=h1.1;rw [hf,List.nil_append]at h2;unfold YJ;exact h2
def C3 (w:Ab):Bool:=Am w.af&&Im w.a7 w.bh
def Kq (l:List Ab):Bool:=decide ((l.length:Int)≤24)&&(l.all C3&&Lb (l.map (·.af)))
def Js (l:List Ab):Prop:=l.length≤2000000∧ ∀w∈l,w.af.length≤2000000∧w.a7.length≤2000000
theorem zB5 {l:List Ab} (h:Js l):Yu l=some (Kq l):=by
 have e1:GN l (fun y0_=>Yo y0_)=some (l.any fun w=> !Im w.a7 w.bh):=Ws _ (fun w hw=>by simp [Yo,zBf (h.2 w hw).2]) (by have:=h.1;omega);have e2:=zxv (ks:=l.map (·.af)) (by simpa using h.1) (by simp only [List.mem_map];rintro k ⟨w,hw,rfl⟩;exact(h.2 w hw).1);simp only [Yu,zx0 h.1,e1,e2,Aa,Kq,←List.not_all_eq_any_not];have e3:l.all C3=((l.map (·.af)).all Am&&l.all fun w=>Im w.a7 w.bh):=by
  rw [Bool.eq_iff_iff];simp only [AG,Ae,C3,List.mem_map];constructor
  ·intro h;exact⟨by rintro k ⟨w,hw,rfl⟩;exact(h w hw).1,fun w hw=>(h w hw).2⟩
  ·rintro⟨h1,h2⟩ w hw;exact⟨h1 _ ⟨w,hw,rfl⟩,h2 w hw⟩
 rw [e3];generalize (l.map (·.af)).all Am=b1;generalize Lb (l.map (·.af))=b2;generalize (l.all fun w=>Im w.a7 w.bh)=b3;by_cases hl:(l.length:Int)≤24<;>cases b1<;>cases b2<;>cases b3<;>simp [hl]
theorem zCg {l:List Ab} (h:Js l):YV l=some (Kq l):=by
 unfold YV;have hn:=h.1;rw [P4 (n:=l.length) (fun i=>C3 ((l[i]?).getD ⟨[], [],false⟩)&&Jq (l.map (·.af)) i) false (kK l) ?_ (by simp [kI]),uU l C3 (Jq (l.map (·.af))) _ fun i hi=>by simp [hi]]
 ·unfold kK Kq Lb;rw [List.length_map];cases(l.all C3&&(List.range l.length).all (Jq (l.map (·.af))))<;>simp
 ·intro i hi;have hm:=h.2 _ (List.getElem_mem hi);simp only [kI,Int.ofNat_lt,hi,decide_true,if_true,AR hi,Aa,zEk hm.1 hm.2,Bx hi (by omega:l.length≤_),List.getElem?_eq_getElem hi,Option.getD_some,Jq,List.getElem?_map,Option.map_some];rw [show(Am l[i].af&&Im l[i].a7 l[i].bh)=C3 l[i]from rfl];by_cases h0:i=0
  ·subst h0;cases C3 l[0]<;>simp
  ·have hp:(i:Int)>0:=by omega
   have CL:i-1<l.length:=by omega
   have hb:(i==0)=false:=by simpa using h0
   simp only [hp,decide_true,if_true,bA (Nat.pos_of_ne_zero h0) (by omega:i≤2000000),AR CL,Aa,List.getElem?_eq_getElem CL,Option.map_some,Option.getD_some,hb,Bool.false_or];cases C3 l[i]<;>cases Op.bytesLess l[i-1].af l[i].af<;>rfl
def BS (l:List Ab):Bool:=Kq l&&l.all fun w=> !w.bh
theorem sM {l:List Ab} (h:Js l):Sh l=some (BS l):=by have e1:GN l (fun y0_=>Y0 y0_)=some (l.any fun w=> !!w.bh):=Ws _ (fun w hw=>by simp [Y0]) (by have:=h.1;omega);simp only [Sh,zB5 h,e1,Aa,BS,←List.not_all_eq_any_not];cases Kq l<;>simp
theorem Mn {l:List Ab} (h:Js l):Kn l=some (BS l):=by
 have hn:=h.1;unfold Kn;rw [Mg (xs:=l) (fun w=> !w.bh) false (kU l) (fun i hi=>by simp only [kT,Int.ofNat_lt,hi,decide_true,if_true,AR hi,Aa,Bx hi (by omega:l.length≤_)];cases l[i].bh<;>rfl) (by simp [kT])]
 simp only [kU,zCg h,Aa,BS];cases(l.all fun w=> !w.bh)<;>simp
def small (b:UInt8):Bool:= !(decide ((b.toNat:Int)<97)||decide ((b.toNat:Int)>122))
def CJ (s:Af) (n:Int):Bool:=s.all small&&Bw s.length 1 n
theorem oE {s:Af} {n:Int} (h:s.length≤2000000):RB s n=some (CJ s n):=by
 unfold RB;rw [Mg (xs:=s) small false (jZ s n) (fun i hi=>by simp only [jY,Int.ofNat_lt,hi,decide_true,if_true,AR hi,Aa,Bx hi (by omega:s.length≤_)];rw [show(decide ((s[i].toNat:Int)<97)||decide ((s[i].toNat:Int)>122))= !small s[i] by simp [small]];cases small s[i]<;>rfl) (by simp [jY])]
 unfold jZ CJ Bw;cases s.all small<;>simp
theorem nZ {s:Af} {n:Int} (h:s.length≤2000000):RA s n=some (CJ s n):=by
 unfold RA;rw [Mg (xs:=s) small false (kB s n) (fun i hi=>by simp only [kC,Int.ofNat_lt,hi,decide_true,if_true,AR hi,Aa,Bx hi (by omega:s.length≤_)];rw [show(decide ((s[i].toNat:Int)<97)||decide ((s[i].toNat:Int)>122))= !small s[i] by simp [small]];cases small s[i]<;>rfl) (by simp [kC])]
 simp only [kB,Jo,Aa,CJ];cases s.all small<;>simp
theorem xS {xs:List Af} {s:Af} (h:xs.length≤2000000):PU xs s=some (BC (· ==s) xs):=by unfold PU;refine qK (· ==s) (fun i hi=> ?_) (by simp [lK]);simp only [lK,Int.ofNat_lt,hi,decide_true,if_true,AR hi,Aa,Bx hi (by omega:xs.length≤_)];cases xs[i]==s<;>rfl
theorem zCW {xs:List Af} {s:Af} (h:xs.length≤2000000):X5 xs s=some (BC (· ==s) xs):=by unfold X5;refine qK (· ==s) (fun i hi=> ?_) (by simp [jA]);simp only [jA,Int.ofNat_lt,hi,decide_true,if_true,AR hi,Aa,Bx hi (by omega:xs.length≤_)];rw [show(s==xs[i])=(xs[i]==s)from BEq.comm];cases xs[i]==s<;>rfl
theorem gS (xs:List Af) (s:Af):(xs.any fun x=>x==s)=xs.contains s:=by rw [List.contains_eq_any_beq];congr 1;funext x;exact BEq.comm
theorem xA {xs:List Af} {s:Af} (h:xs.length≤2000000):Py xs s=some (xs.contains s):=by simp only [Py,zCW h,Aa,P7,gS]
def Of (cs:List Af) (i:Nat):Bool:=CJ ((cs[i]?).getD []) 3&& !(cs.take i).contains ((cs[i]?).getD [])
def K9 (cs:List Af):Bool:=(List.range cs.length).all (Of cs)
def HO (t:Ad) (i:Nat):Bool:=
 let x:=(t.ah[i]?).getD ⟨[],0,0⟩
 CJ x.ab 1&&Bw x.bm 1 ((t.ar.length:Int)-1)&&Bw x.aq 0 3&&(i==0||Op.bytesLess ((t.ah[i-1]?).getD ⟨[],0,0⟩).ab x.ab)
def A0 (t:Ad):Bool:=CJ t.ab 1&&(K9 t.ar&&Bw t.ar.length 2 4)&&decide ((t.ah.length:Int)≤3)&&(List.range t.ah.length).all (HO t)
structure Dk (t:Ad):Prop where
 name:t.ab.length≤2000000
 jd:t.ar.length≤2000000
 l0: ∀c∈t.ar,c.length≤2000000
 idxs:t.ah.length≤2000000
 idx: ∀x∈t.ah,x.ab.length≤2000000
theorem Pt {α:Type} (xs:List α) (i:Nat):Bk xs 0 i=xs.take i:=by simp [Bk]
theorem zFN {cs:List Af} (h:cs.length≤2000000) (hc: ∀c∈cs,c.length≤2000000):Y7 cs=some (K9 cs&&Bw cs.length 2 4):=by
 unfold Y7;rw [P4 (n:=cs.length) (Of cs) false (kZ cs) ?_ (by simp [lB])]
 ·simp only [kZ,Gm,Aa,K9];cases(List.range cs.length).all (Of cs)<;>simp
 ·intro i hi;unfold lB Of;rw [if_pos (by simpa using hi),AR hi,Aa,oE (hc _ (List.getElem_mem hi)),Aa,AP (by omega),Pt,xS (by rw [List.length_take];omega),Aa,P7,gS,Bx hi (by omega)];simp only [List.getElem?_eq_getElem hi,Option.getD_some];cases CJ cs[i] 3<;>cases(cs.take i).contains cs[i]<;>rfl
theorem KZ {t:Ad} (h:Dk t):KU t=some (A0 t):=by
 have hw:=A8 (n:=(t.ar.length:Int)-1) (by omega) (by have:=h.jd;omega);have hn:=h.idxs;have hl:AA (fun s:Int=>Yz t s) 0=some ((List.range t.ah.length).all (HO t)):=by
  rw [P4 (n:=t.ah.length) (HO t) false (some true) ?_ (by simp [Yz])]
  ·cases(List.range t.ah.length).all (HO t)<;>rfl
  ·intro i hi;unfold HO;simp only [Yz,Int.ofNat_lt,hi,decide_true,if_true,AR hi,Aa,oE (h.idx _ (List.getElem_mem hi)),Gm,hw,Bx hi (by omega:t.ah.length≤_),List.getElem?_eq_getElem hi,Option.getD_some];by_cases h0:i=0
   ·subst h0;cases CJ t.ah[0].ab 1<;>cases Bw t.ah[0].bm 1 ((t.ar.length:Int)-1)<;>cases Bw t.ah[0].aq 0 3<;>rfl
   ·have hp:(i:Int)>0:=by omega
    have CL:i-1<t.ah.length:=by omega
    have hb:(i==0)=false:=by simpa using h0
    simp only [hp,decide_true,if_true,bA (Nat.pos_of_ne_zero h0) (by omega:i≤2000000),AR CL,Aa,List.getElem?_eq_getElem CL,Option.getD_some,hb,Bool.false_or];cases CJ t.ah[i].ab 1<;>cases Bw t.ah[i].bm 1 ((t.ar.length:Int)-1)<;>cases Bw t.ah[i].aq 0 3<;>cases Op.bytesLess t.ah[i-1].ab t.ah[i].ab<;>rfl
 unfold KU A0;rw [oE h.name,Aa,zFN h.jd h.l0,hl];by_cases hk:(t.ah.length:Int)≤3
 ·have B5: ¬(t.ah.length:Int)>3:=by omega
  simp only [hk,B5,decide_true,decide_false,Bool.or_false,Bool.and_true];cases CJ t.ab 1<;>cases(K9 t.ar&&Bw t.ar.length 2 4)<;>simp
 ·have B5:(t.ah.length:Int)>3:=by omega
  simp only [hk,B5,decide_true,decide_false,Bool.or_true,Bool.and_false,Bool.false_and];cases CJ t.ab 1<;>simp
theorem zDp {t:Ad} (h:Dk t):YG t=some (A0 t):=by
 have hw:=A8 (n:=(t.ar.length:Int)-1) (by omega) (by have:=h.jd;omega);have hn:=h.idxs;have hm:=h.jd;have hl:AA (fun s:Int=>YA t s) 0=some ((List.range t.ah.length).all (HO t)):=by
  rw [P4 (n:=t.ah.length) (HO t) false (some true) ?_ (by simp [YA])]
  ·cases(List.range t.ah.length).all (HO t)<;>rfl
  ·intro i hi;unfold HO;simp only [YA,R9,Int.ofNat_lt,hi,decide_true,if_true,AR hi,Aa,nZ (h.idx _ (List.getElem_mem hi)),Jo,hw,Bx hi (by omega:t.ah.length≤_),List.getElem?_eq_getElem hi,Option.getD_some];by_cases h0:i=0
   ·subst h0;cases CJ t.ah[0].ab 1<;>cases Bw t.ah[0].bm 1 ((t.ar.length:Int)-1)<;>cases Bw t.ah[0].aq 0 3<;>rfl
   ·have hp:(i:Int)>0:=by omega
    have CL:i-1<t.ah.length:=by omega
    have hb:(i==0)=false:=by simpa using h0
    simp only [hp,decide_true,if_true,bA (Nat.pos_of_ne_zero h0) (by omega:i≤2000000),AR CL,Aa,List.getElem?_eq_getElem CL,Option.getD_some,hb,Bool.false_or,aO];cases CJ t.ah[i].ab 1<;>cases Bw t.ah[i].bm 1 ((t.ar.length:Int)-1)<;>cases Bw t.ah[i].aq 0 3<;>cases Op.bytesLess t.ah[i-1].ab t.ah[i].ab<;>rfl
 have hc:AA (fun s:Int=>YE t s) 0=some (K9 t.ar&&(List.range t.ah.length).all (HO t)):=by
  rw [P4 (n:=t.ar.length) (Of t.ar) false (jU t) ?_ (by simp [YE])]
  ·unfold jU K9;rw [hl];cases(List.range t.ar.length).all (Of t.ar)<;>simp
  ·intro i hi;unfold YE Of;rw [if_pos (by simpa using hi),AR hi,Aa,nZ (h.l0 _ (List.getElem_mem hi)),Aa,AP (by omega),Pt,xA (by rw [List.length_take];omega),Aa,Bx hi (by omega)];simp only [List.getElem?_eq_getElem hi,Option.getD_some];cases CJ t.ar[i] 3<;>cases(t.ar.take i).contains t.ar[i]<;>rfl
 unfold YG A0;rw [nZ h.name,Aa,Jo,Aa,hc];by_cases hk:(t.ah.length:Int)≤3
 ·have B5: ¬(t.ah.length:Int)>3:=by omega
  simp only [hk,B5,decide_true,decide_false,Bool.or_false,Bool.and_true];cases CJ t.ab 1<;>cases K9 t.ar<;>cases Bw t.ar.length 2 4<;>simp
 ·have B5:(t.ah.length:Int)>3:=by omega
  simp only [hk,B5,decide_true,decide_false,Bool.or_true,Bool.and_false,Bool.false_and];cases CJ t.ab 1<;>simp
theorem IS {t:Ad} {s:Af} (h:Dk t):GP t s=some (BC (fun x:Aq=>x.ab==s) t.ah):=by have hn:=h.idxs;unfold GP;refine qK (fun x:Aq=>x.ab==s) (fun i hi=> ?_) (by simp [kQ]);simp only [kQ,Int.ofNat_lt,hi,decide_true,if_true,AR hi,Aa,Bx hi (by omega:t.ah.length≤_)];cases t.ah[i].ab==s<;>rfl
theorem WL {t:Ad} {s:Af} (h:Dk t):Q8 t s=some (BC (fun x:Aq=>x.ab==s) t.ah):=by have hn:=h.idxs;have e:Fz t.ah (fun y0_=>jG y0_ s)=some (BC (fun x:Aq=>x.ab==s) t.ah):=zw2 (fun x:Aq=>x.ab==s) (fun x _=>rfl) (by omega);simp only [Q8,e,Aa]
def B9 (c:UInt8):Af→List Af
 | []=> [[]]
 |b::s=>if b=c then []::B9 c s else(match B9 c s with| []=> [[b]]|x::xs=>(b::x)::xs)
theorem pP (c:UInt8) (s:Af):B9 c s≠ []:=by
 cases s with
 |nil=>simp [B9]
 |cons b s=>simp only [B9];split;simp;split<;>simp
theorem L7 {c:UInt8}: ∀{s:Af},(∀b∈s,b≠c)→B9 c s= [s]
 | [],_=>rfl
 |b::s,h=>by have e:=L7 (c:=c) (s:=s) fun x hx=>h x (List.mem_cons_of_mem _ hx);simp only [B9,if_neg (h b (by simp)),e]
theorem NS {c:UInt8}: ∀{p q:Af},(∀b∈p,b≠c)→B9 c (p++c::q)=p::B9 c q
 | [],q,_=>by simp [B9]
 |b::p,q,h=>by have e:=NS (c:=c) (p:=p) (q:=q) fun x hx=>h x (List.mem_cons_of_mem _ hx);simp only [List.cons_append,B9,if_neg (h b (by simp)),e]
theorem ZC (c:UInt8) (s:Af):(B9 c s).length=s.count c+1:=by
 induction s with
 |nil=>rfl
 |cons b s ih=>
  simp only [B9];by_cases h:b=c
  ·subst h;simp [ih]
  ·rw [if_neg h,List.count_cons_of_ne h];cases hs:B9 c s with
   |nil=>exact absurd hs (pP c s)
   |cons x xs=>rw [hs]at ih;simpa using ih
theorem Pq {α:Type} (xs:List α) (i j:Nat):Bk xs (i:Int) (j:Int)=(xs.take j).drop i:=by simp [Bk]
def XU (c:UInt8) (s:Af) (t:List Af × Nat) (i:Nat):List Af × Nat:=if(s[i]?).getD 0=c then(t.1++ [(s.take i).drop t.2],i+1)else t
theorem zyG {s:Af} {c:UInt8} (h:s.length≤2000000):PS s c.toNat=some (B9 c s):=by
 have h1:=Ga (xs:=List.range s.length) (body:=fun t:List Af × Int × Int=>RD s c.toNat t.1 t.2.1 t.2.2) (fun i (t:List Af × Nat)=>(t.1,(t.2:Int),i)) (XU c s) (fun t=>kF s t.2 t.1)
  (fun i t=>t.2≤i∧(∀b∈(s.take i).drop t.2,b≠c)∧t.1++B9 c (s.drop t.2)=B9 c s∧t.1.length≤i)
  (fun i hi t hI=>by
   rw [List.length_range]at hi;obtain⟨I1,I2,I3,I4⟩:=hI;have hw:=Bx hi (by omega:s.length≤_);rw [List.getElem_range];constructor
   ·show RD s c.toNat t.1 t.2 i=_;unfold RD XU;rw [if_pos (by simpa using hi),AR hi,Aa,xO,hw,Pq,List.getElem?_eq_getElem hi,Option.getD_some];by_cases hc:s[i]=c
    ·have hr:((t.1.length:Int)+(([(s.take i).drop t.2]:List Af).length:Int))*16≤140737488355328∧(t.1.length:Int)+(([(s.take i).drop t.2]:List Af).length:Int)≤140737488355328:=by
      rw [AH];omega
     rw [if_pos (by simpa using hc),AP (by omega),AP hr,if_pos hc]
    ·rw [if_neg (by simpa using hc),if_neg hc]
   ·unfold XU;rw [List.getElem?_eq_getElem hi,Option.getD_some];have Cp:s.take (i+1)=s.take i++ [s[i]]:=by rw [List.take_succ_eq_append_getElem hi]
    have hd:(s.take (i+1)).drop t.2=(s.take i).drop t.2++ [s[i]]:=by rw [Cp,List.drop_append_of_le_length (by rw [List.length_take];omega)]
    by_cases hc:s[i]=c
    ·rw [if_pos hc];refine⟨Nat.le_refl _,by simp, ?_,by simp;omega⟩;have e:s.drop t.2=(s.take i).drop t.2++c::s.drop (i+1):=by
      have e0:s.drop t.2=(s.take i).drop t.2++s.drop i:=by
       conv=>lhs;rw [←List.take_append_drop i s]
       rw [List.drop_append_of_le_length (by rw [List.length_take];omega)]
      rw [e0,List.drop_eq_getElem_cons hi,hc]
     rw [e,NS I2]at I3;simpa using I3
    ·rw [if_neg hc];refine⟨by omega, ?_,I3,by omega⟩;rw [hd];intro b hb;rcases Ai.1 hb with hb|hb
     ·exact I2 b hb
     ·simp at hb;subst hb;exact hc)
  (fun t hI=>by show RD s c.toNat t.1 t.2 ((List.range s.length).length:Nat)=_;unfold RD;rw [if_neg (by simp)]) (s:=([],0)) ⟨Nat.le_refl _,by simp,by simp,by simp⟩
 generalize (List.range s.length).foldl (XU c s) ([],0)=t at h1;rw [List.length_range]at h1;obtain⟨h2,I1,I2,I3,I4⟩:=h1;unfold PS;refine Eq.trans h2 ?_;unfold kF;have hw:Bk s (t.2:Int) (s.length:Int)=s.drop t.2:=by rw [Pq,List.take_length]
 have hr:((t.1.length:Int)+(([s.drop t.2]:List Af).length:Int))*16≤140737488355328∧(t.1.length:Int)+(([s.drop t.2]:List Af).length:Int)≤140737488355328:=by rw [AH];omega
 rw [hw,AP (by omega),AP hr,←I3];rw [List.take_length]at I2;rw [L7 I2]
theorem YS (l:Af) (c:UInt8):(Lib.indexByte l c= -1∧ ∀b∈l,b≠c)∨ ∃p q:Af,l=p++c::q∧(∀b∈p,b≠c)∧Lib.indexByte l c=p.length:=by
 induction l with
 |nil=>exact .inl ⟨rfl,by simp⟩
 |cons b l ih=>
  unfold Lib.indexByte;by_cases hb:b=c
  ·subst hb;exact .inr ⟨[],l,by simp,by simp,by simp⟩
  ·have h1:(b==c)=false:=by simpa using hb
   rw [h1];simp only [AX,if_false];rcases ih with⟨e,h⟩|⟨p,q,rfl,h,e⟩
   ·refine .inl ⟨by simp [e],fun x hx=> ?_⟩;rcases Ag.1 hx with rfl|hx
    ·exact hb
    ·exact h x hx
   ·refine .inr ⟨b::p,q,by simp,fun x hx=> ?_, ?_⟩
    ·rcases Ag.1 hx with rfl|hx
     ·exact hb
     ·exact h x hx
    ·rw [e];have:((p.length:Int)== -1)=false:=by rw [beq_eq_false_iff_ne];omega
     rw [this];simp
theorem zuc {c:UInt8} {s:Af} (h: ∀b∈s,b≠c):s.count c=0:=List.count_eq_zero.2 fun hc=>h c hc rfl
theorem zEd {c:UInt8} {p q:Af} (h: ∀b∈p,b≠c):(p++c::q).count c=q.count c+1:=by rw [List.count_append,zuc h,List.count_cons_self];omega
theorem zvM {α:Type} {a:List α} {i:Nat} (x:α) (h:i<a.length):(a.set i x).take (i+1)=a.take i++ [x]:=by rw [List.take_succ_eq_append_getElem (by simpa using h),List.getElem_set_self,List.take_set,List.set_eq_of_length_le (by rw [List.length_take];omega)]
theorem zG0 {a b:Int} (h: ¬a<b):(bif decide (a<b)then a else b)=b:=by simp [h]
theorem zDg {s:Af} {c:UInt8} (h:s.length≤2000000):Vu s [c]=some (B9 c s):=by
 have AF:s.count c≤s.length:=List.count_le_length;have GK:IntKind.i64.wrap ((s.count c:Int)+1)=(s.count c:Int)+1:=A8 (by omega) (by omega);have FM:IntKind.i64.wrap ((s.length:Int)+1)=(s.length:Int)+1:=A8 (by omega) (by omega);have Oz:(bif decide ((s.length:Int)+1<(s.count c:Int)+1)then(s.length:Int)+1 else(s.count c:Int)+1)=(s.count c:Int)+1:=zG0 (by omega);have tW:IntKind.i64.wrap ((s.count c:Int)+1-1)=(s.count c:Int):=by rw [A8 (by omega) (by omega)];omega
 have key: ∀(n:Nat) (r:Af) (a:List Af) (i:Nat),r.count c=n→r.length≤s.length→a.length=s.count c+1→i+n=s.count c→a.take i++B9 c r=B9 c s→
   AA (fun t:Af × Int × List Af=>Ry s [c] 0 ((s.count c:Int)+1) t.1 t.2.1 t.2.2) (r,(i:Int),a)=some (B9 c s):=by
  intro n
  induction n with
  |zero=>
   intro r a i hr hl ha hi hI;have G6: ∀b∈r,b≠c:=fun b hb e=>by subst e;exact List.count_eq_zero.1 hr hb
   have ON:i<a.length:=by omega
   have fQ:=Bx ON (by omega);have hb:Ry s [c] 0 ((s.count c:Int)+1) r i a=some (.inr (some (B9 c s))):=by unfold Ry;rw [FM,Oz,tW,if_neg (by simp;omega)];unfold jP;rw [AR ON,Aa,fQ,Int.toNat_natCast,AP (by rw [List.length_set];omega),Pt,zvM r ON,←hI,L7 G6]
   rw [FA];dsimp only;rw [hb]
  |succ n ih=>
   intro r a i hr hl ha hi hI;rcases YS r c with⟨_,h0⟩|⟨p,q,rfl,hp,hx⟩
   ·rw [zuc h0]at hr;omega
   ·rw [zEd hp]at hr;have ON:i<a.length:=by omega
    have fQ:=Bx ON (by omega);simp only [Ap,An]at hl;have LN:IntKind.i64.wrap ((p.length:Int)+0)=(p.length:Int):=by rw [A8 (by omega) (by omega)];omega
    have Fc:IntKind.i64.wrap ((p.length:Int)+(([c]:Af).length:Int))=((p.length+1:Nat):Int):=by rw [AH,A8 (by omega) (by omega)];omega
    have hb:Ry s [c] 0 ((s.count c:Int)+1) (p++c::q) i a=some (.inl (q,((i+1:Nat):Int),a.set i p)):=by
     unfold Ry;have JW:YX (p++c::q) [c]=some (p.length:Int):=by simp [YX,Ri,hx]
     rw [FM,Oz,tW,if_pos (by simp;omega),JW,Aa,if_neg (by simp),LN,AP (by rw [Ap];omega),AR ON,Aa,Fc,AP (by rw [Ap,An];omega),fQ,Int.toNat_natCast,Pq,Pt,List.take_length];have e1:(p++c::q).drop (p.length+1)=q:=by simp
     have e2:(p++c::q).take p.length=p:=by simp
     rw [e1,e2]
    rw [FA];dsimp only;rw [hb];refine ih q (a.set i p) (i+1) (by omega) (by omega) (by simpa using ha) (by omega) ?_;rw [zvM p ON,←hI,NS hp];simp
 have B2:YU s [c]=some ((s.count c:Nat):Int):=rfl;have hz:(((-1:Int))==0)=false:=rfl;have A5:(([c]:Af)==([]:Af))=false:=rfl;unfold Vu kG;rw [hz,A5,if_neg (by simp),if_neg (by simp),if_pos (by simp),B2,Aa,GK];unfold jL;rw [FM,Oz,AP (by omega)];exact K5 (key (s.count c) s (List.replicate ((s.count c:Int)+1).toNat []) 0 rfl (Nat.le_refl _) (by simp) (by omega) (by simp))
def field (s:Af):Bool:=Bw s.length 1 3&&Kv s []
theorem rL {s:Af} (h:s.length≤2000000):RY s=some (field s):=by simp only [RY,Gm,Aa,pN h (more:= []) (by decide),field];cases Bw s.length 1 3<;>simp
theorem Z9 {s:Af} (h:s.length≤2000000):R8 s=some (field s):=by simp only [R8,Jo,Aa,oH h,field];cases Bw s.length 1 3<;>simp
theorem zAB (sep x y:Af) (r:List Af):Lib.join (x::(r++ [y])) sep=Lib.join (x::r) sep++sep++y:=by rw [Lib.join_cons,Lib.join_cons];simp [Lib.joinTail]
theorem zBd {xs:List Af} {sep:Af} {i:Nat} (hi:i<xs.length):Lib.join (xs.take (i+1)) sep=if i=0 then xs[i]else Lib.join (xs.take i) sep++sep++xs[i]:=by
 rw [List.take_succ_eq_append_getElem hi];cases xs with
 |nil=>simp at hi
 |cons x xs=>
  cases i with
  |zero=>simp [Lib.join_cons,Lib.joinTail]
  |succ i=>rw [List.take_succ_cons,List.cons_append,zAB,if_neg (by omega)]
def D7:List Af→Nat
 | []=>0
 |x::xs=>x.length+D7 xs
theorem rN (xs:List Af) (sep:Af):(Lib.join xs sep).length≤D7 xs+xs.length*sep.length:=by
 cases xs with
 |nil=>simp [Lib.join_nil]
 |cons x xs=>
  rw [Lib.join_cons,Ap];have: ∀r:List Af,(Lib.joinTail sep r).length=D7 r+r.length*sep.length:=by
   intro r
   induction r with
   |nil=>simp [Lib.joinTail,D7]
   |cons y r ih=>
    have e:Lib.joinTail sep (y::r)=sep++y++Lib.joinTail sep r:=by simp [Lib.joinTail]
    rw [e,Ap,Ap,ih,D7,An,Nat.succ_mul];omega
  rw [this,D7,An,Nat.succ_mul];omega
theorem zx2 (xs:List Af) (i:Nat):D7 (xs.take i)≤D7 xs:=by
 induction xs generalizing i with
 |nil=>simp [D7]
 |cons x xs ih=>
  cases i with
  |zero=>simp [D7]
  |succ i=>simp only [List.take_succ_cons,D7];have:=ih i;omega
theorem ztZ {xs:List Af} {i:Nat} (hi:i<xs.length):xs[i].length≤D7 xs:=by
 induction xs generalizing i with
 |nil=>simp at hi
 |cons x xs ih=>
  cases i with
  |zero=>simp [D7]
  |succ i=>simp only [List.getElem_cons_succ,D7];have:=ih (i:=i) (by simpa using hi);omega
def Small (xs:List Af):Prop:=xs.length≤2000000∧D7 xs≤2000000
theorem zFY {xs:List Af} {c:UInt8} (h:Small xs):lX xs [c]=some (Lib.join xs [c]):=by
 obtain⟨h1,h2⟩:=h;have hl:=Ga (xs:=List.range xs.length) (body:=fun s:Af × Int=>RH xs [c] s.1 s.2) (fun i (o:Af)=>(o,i)) (fun o i=>if i=0 then(xs[i]?).getD []else o++ [c]++(xs[i]?).getD []) (fun o=>some o) (fun i o=>o=Lib.join (xs.take i) [c])
  (fun i hi o hI=>by
   rw [List.length_range]at hi;rw [List.getElem_range];have hI:o=Lib.join (xs.take i) [c]:=hI;have hlen:o.length≤1010000000:=by have e1:=rN (xs.take i) [c];have e2:=zx2 xs i;rw [List.length_take,AH,Nat.mul_one]at e1;rw [hI];omega
   have hg:=ztZ hi;have hw:=Bx hi (by omega:xs.length≤_);rw [List.getElem?_eq_getElem hi,Option.getD_some];refine⟨?_,by show _=_;rw [zBd hi,hI]⟩;show RH xs [c] o i=_;unfold RH;rw [if_pos (by simpa using hi),AR hi,Aa,hw];by_cases h0:i=0
   ·subst h0;have ho:o= []:=by rw [hI];rfl
    subst ho;rw [if_neg (by simp),AP (by simp;omega),if_pos rfl];rfl
   ·rw [if_pos (by simp;omega),AP (by rw [AH];omega),AP (by rw [Ap,AH];omega),if_neg h0])
  (fun o _=>by show RH xs [c] o ((List.range xs.length).length:Nat)=_;unfold RH;rw [if_neg (by simp)]) (s:= []) (by simp [Lib.join_nil])
 generalize (List.range xs.length).foldl (fun o i=>if i=0 then(xs[i]?).getD []else o++ [c]++(xs[i]?).getD []) []=o at hl;obtain⟨h3,h4⟩:=hl;have h4:o=Lib.join (xs.take (List.range xs.length).length) [c]:=h4;rw [List.length_range,List.take_length]at h4;subst h4;exact h3
theorem zE9 {xs:List Af} {c:UInt8} (h:Small xs):Y9 xs [c]=some (Lib.join xs [c]):=by obtain⟨h1,h2⟩:=h;have:=rN xs [c];rw [AH,Nat.mul_one]at this;exact AP ⟨by omega,by omega⟩
theorem Small.each {xs:List Af} (h:Small xs): ∀x∈xs,x.length≤2000000:=by intro x hx;obtain⟨i,hi,rfl⟩:=List.getElem_of_mem hx;exact Nat.le_trans (ztZ hi) h.2
def Bf (t:Ad) (r:AI):Bool:=((r.aw.length:Int)==t.ar.length)&&r.aw.all field
theorem VZ {t:Ad} {r:AI} (h:Small r.aw):NG t r=some (Bf t r):=by
 have h1:=h.1;unfold NG;rw [Mg (xs:=r.aw) field false (kY t r) (fun i hi=>by simp only [kX,Int.ofNat_lt,hi,decide_true,if_true,AR hi,Aa,rL (h.each _ (List.getElem_mem hi)),Bx hi (by omega:r.aw.length≤_)];cases field r.aw[i]<;>rfl) (by simp [kX])]
 unfold kY Bf;cases r.aw.all field<;>simp
theorem V2 {t:Ad} {r:AI} (h:Small r.aw):NB t r=some (Bf t r):=by have e:GN r.aw (fun y0_=>Yg y0_)=some (r.aw.any fun s=> !field s):=Ws _ (fun s hs=>by simp [Yg,Z9 (h.each s hs)]) (by have:=h.1;omega);simp only [NB,e,Aa,Bf,←List.not_all_eq_any_not];cases((r.aw.length:Int)==t.ar.length)<;>simp
def AO (t:Ad) (r:AI):Ab:=⟨t.ab++ [47]++(r.aw.head?).getD [],Lib.join r.aw.tail [44],false⟩
theorem iN {α:Type} (xs:List α):Bk xs 1 (xs.length:Int)=xs.tail:=by simp [Bk]
theorem Small.tail {xs:List Af} (h:Small xs):Small xs.tail:=by
 cases xs with
 |nil=>exact h
 |cons x xs=>exact⟨by have:=h.1;simp at this ⊢;omega,by have:=h.2;simp only [D7,List.tail_cons]at this ⊢;omega⟩
theorem Mr {t:Ad} {r:AI} (ht:t.ab.length≤2000000) (h:Small r.aw) (hn:r.aw≠ []):IK t r=some (AO t r):=by obtain⟨x,xs,hx⟩:=List.exists_cons_of_ne_nil hn;have Jf:x.length≤2000000:=h.each x (by simp [hx]);unfold IK AO;rw [AP (by rw [AH];omega),iN,zFY h.tail,hx];rw [show getI (x::xs) 0=some x from rfl,Aa,AP (by rw [Ap,AH];omega),AP (by simp only [An];omega),Aa];rfl
theorem Qc {t:Ad} {r:AI} (ht:t.ab.length≤2000000) (h:Small r.aw) (hn:r.aw≠ []):L0 t r=some (AO t r):=by obtain⟨x,xs,hx⟩:=List.exists_cons_of_ne_nil hn;have Jf:x.length≤2000000:=h.each x (by simp [hx]);unfold L0 AO;rw [AP (by rw [AH];omega),iN,zE9 h.tail,hx];rw [show getI (x::xs) 0=some x from rfl,Aa,AP (by rw [Ap,AH];omega),AP (by simp only [An];omega),Aa];rfl
theorem zqu (c:UInt8) (s:Af):D7 (B9 c s)≤s.length:=by
 induction s with
 |nil=>simp [B9,D7]
 |cons b s ih=>
  simp only [B9];split
  ·simp only [D7,List.length_nil,An];omega
  ·cases hs:B9 c s with
   |nil=>exact absurd hs (pP c s)
   |cons x xs=>rw [hs]at ih;simp only [D7,An]at ih ⊢;omega
theorem zxM {c:UInt8} {s:Af} (h:s.length≤1000000):Small (B9 c s):=by have h1:=ZC c s;have h2:s.count c≤s.length:=List.count_le_length;have h3:=zqu c s;exact⟨by omega,by omega⟩
theorem xH {s p:Af} (hs:s.length≤2000000):Ve s p=some (if p.isPrefixOf s=true then(s.drop p.length,true)else(s,false)):=by
 have e:X3 s p=some (p.isPrefixOf s):=by
  unfold X3;by_cases hl:p.length≤s.length
  ·rw [if_pos (by simpa using hl),AP (by omega),Pt];congr 1;rw [Bool.eq_iff_iff,beq_iff_eq,List.isPrefixOf_iff_prefix,List.prefix_iff_eq_take];exact eq_comm
  ·rw [if_neg (by simpa using hl)];congr 1;symm;rw [←Bool.not_eq_true,List.isPrefixOf_iff_prefix];intro h;exact hl h.length_le
 unfold Ve iY;rw [e,Aa];cases hp:p.isPrefixOf s with
 |false=>simp
 |true=>have hl:=(List.isPrefixOf_iff_prefix.1 hp).length_le;simp only [Bool.not_true,AX,if_false,if_true];rw [AP (by omega),Pq,List.take_length];rfl
def KA (a b:Ab):Bool:=a.af==b.af&&(a.a7==b.a7&&(a.bh==b.bh))
theorem zzY (a b:Ab):KA a b=KA b a:=by unfold KA;rw [show(a.af==b.af)=(b.af==a.af)from BEq.comm,show(a.a7==b.a7)=(b.a7==a.a7)from BEq.comm,show(a.bh==b.bh)=(b.bh==a.bh)from BEq.comm]
theorem zBi {a b:Ab} (h:KA a b=true):a.af=b.af:=by unfold KA at h;simp only [Ae,beq_iff_eq]at h;exact h.1
def BQ (w:Ab):AI:=⟨w.af.drop 2::B9 44 w.a7⟩
def Cq (t:Ad) (w:Ab):Bool:=Bf t (BQ w)&&KA (AO t (BQ w)) w
def FU (w:Ab):Prop:=w.af.length≤1000∧w.a7.length≤1000
theorem nI {w:Ab} (h:FU w):Small (BQ w).aw:=by
 have h1:=ZC 44 w.a7;have h2:w.a7.count 44≤w.a7.length:=List.count_le_length;have h3:=zqu 44 w.a7;obtain⟨k,v⟩:=h;refine⟨?_, ?_⟩
 ·show(w.af.drop 2::B9 44 w.a7).length≤_;rw [An];omega
 ·show D7 (w.af.drop 2::B9 44 w.a7)≤_;rw [D7,List.length_drop];omega
theorem zBo {t:Ad} {w:Ab} (h:Bf t (BQ w)=true):3≤w.af.length:=by unfold Bf BQ at h;simp only [Ae,List.all_cons,field,B7,List.length_drop]at h;omega
theorem zFu {t:Ad} {w:Ab} (ht:t.ab.length≤2000000) (h:FU w): ∃r,Zc t w=some (r,Cq t w)∧(Cq t w=true→r=BQ w):=by
 have hs:=nI h;have FL:=ZC 44 w.a7;have OC:w.a7.count 44≤w.a7.length:=List.count_le_length;obtain⟨hk,hv⟩:=h;unfold Zc;by_cases h3:w.af.length<3
 ·rw [if_pos (by simp;omega)];have:Cq t w=false:=by
   unfold Cq;cases hg:Bf t (BQ w)with
   |false=>rfl
   |true=>have:=zBo hg;omega
  exact⟨_,by rw [this],by rw [this];intro h;cases h⟩
 ·have hw:Bk w.af 2 (w.af.length:Int)=w.af.drop 2:=by
   have:=Pq w.af 2 w.af.length;rw [List.take_length]at this;exact this
  have Hy:PS w.a7 44=some (B9 44 w.a7):=zyG (c:=44) (by omega);have hr:(([w.af.drop 2]:List Af).length+(B9 44 w.a7).length:Int)*16≤140737488355328∧(([w.af.drop 2]:List Af).length:Int)+(B9 44 w.a7).length≤140737488355328:=by rw [AH];omega
  rw [if_neg (by simp;omega),AP (by omega),Hy,Aa,hw,AP hr];rw [show(⟨[w.af.drop 2]++B9 44 w.a7⟩:AI)=BQ w from rfl,VZ hs,Aa];unfold Cq;cases hg:Bf t (BQ w)with
  |false=>exact⟨_,by rw [if_neg (by simp)];rfl,by simp⟩
  |true=>rw [if_pos rfl,Mr ht hs (by simp [BQ]),Aa];exact⟨BQ w,by rw [Bool.true_and];rfl,fun _=>rfl⟩
theorem zGb {t:Ad} {w:Ab} (ht:t.ab.length=1) (h:FU w): ∃r,Yf t w=some (r,Cq t w)∧(Cq t w=true→r=BQ w):=by
 have hs:=nI h;have FL:=ZC 44 w.a7;have OC:w.a7.count 44≤w.a7.length:=List.count_le_length;obtain⟨hk,hv⟩:=h;unfold Yf;have Hy:Vu w.a7 [44]=some (B9 44 w.a7):=zDg (by omega);rw [AP (by rw [AH];omega),xH (by omega),Aa,Hy,Aa];have hr: ∀x:Af,(([x]:List Af).length+(B9 44 w.a7).length:Int)*16≤140737488355328∧(([x]:List Af).length:Int)+(B9 44 w.a7).length≤140737488355328:=by intro x;rw [AH];omega
 rw [AP (hr _)];cases hp:(t.ab++ [47]).isPrefixOf w.af with
 |false=>
  have Dt:Cq t w=false:=by
   unfold Cq;cases hw:KA (AO t (BQ w)) w with
   |false=>simp
   |true=>have dX:=zBi hw;rw [←Bool.not_eq_true,List.isPrefixOf_iff_prefix]at hp;exact absurd ⟨_,dX⟩ hp
  rw [Dt];exact⟨_,by rw [if_neg (by simp)],by simp⟩
 |true=>
  have hl:(t.ab++ [47]).length=2:=by rw [Ap,ht];rfl
  simp only [if_true,hl];rw [show(⟨[w.af.drop 2]++B9 44 w.a7⟩:AI)=BQ w from rfl,V2 hs,Aa];unfold Cq;cases hg:Bf t (BQ w)with
  |false=>exact⟨_,by rw [if_neg (by simp)];rfl,by simp⟩
  |true=>
   rw [if_pos rfl,Qc (by omega) hs (by simp [BQ]),Aa];rw [show(w.af==(AO t (BQ w)).af&&(w.a7==(AO t (BQ w)).a7&&w.bh==(AO t (BQ w)).bh))=KA w (AO t (BQ w))from rfl,zzY];cases KA (AO t (BQ w)) w with
   |false=>exact⟨_,by rw [if_pos (by simp)];rfl,by simp⟩
   |true=>exact⟨_,by rw [if_neg (by simp)];rfl,fun _=>rfl⟩
theorem Sr {α β:Type} (p:α→Bool) (f:α→β) (l:List α) (o:List β):l.foldl (fun o x=>if p x=true then o++ [f x]else o) o=o++(l.filter p).map f:=by
 induction l generalizing o with
 |nil=>simp
 |cons x l ih=>rw [List.foldl_cons,ih,List.filter_cons];cases p x<;>simp
def rows (t:Ad) (l:List Ab):List AI:=(l.filter (Cq t)).map BQ
theorem SI {t:Ad} {l:List Ab} (ht:t.ab.length≤2000000) (hl:l.length≤2000000) (h: ∀w∈l,FU w):Km t l=some (rows t l):=by
 have h1:=Ga (xs:=l) (body:=fun s:List AI × Int=>RC t l s.1 s.2) (fun i (o:List AI)=>(o,i)) (fun o w=>if Cq t w=true then o++ [BQ w]else o) (fun o=>some o) (fun i o=>o.length≤i)
  (fun i hi o hI=>by
   have hI:o.length≤i:=hI;obtain⟨r,e,hr⟩:=zFu ht (h _ (List.getElem_mem hi));have hw:=Bx hi (by omega:l.length≤_);refine⟨?_,by
    show List.length (if Cq t l[i]=true then o++ [BQ l[i]]else o)≤i+1;split
    ·rw [Ap,AH];omega
    ·omega⟩
   show RC t l o i=_;unfold RC;rw [if_pos (by simpa using hi),AR hi,Aa,e,Aa,hw];cases hb:Cq t l[i]with
   |false=>rfl
   |true=>
    have hq:((o.length:Int)+(([r]:List AI).length:Int))*24≤140737488355328∧(o.length:Int)+(([r]:List AI).length:Int)≤140737488355328:=by rw [AH];omega
    rw [if_pos rfl,AP hq,if_pos rfl,hr hb])
  (fun o _=>by show RC t l o l.length=_;unfold RC;rw [if_neg (by simp)]) (s:= []) (by simp)
 rw [Sr]at h1;exact h1.1
theorem zyF {t:Ad} {l:List Ab} (ht:t.ab.length=1) (hl:l.length≤2000000) (h: ∀w∈l,FU w):PC t l=some (rows t l):=by
 have h1:=Ga (xs:=l) (body:=fun s:Int × List AI=>Ra t l s.1 s.2) (fun i (o:List AI)=>(i,o)) (fun o w=>if Cq t w=true then o++ [BQ w]else o) (fun o=>some o) (fun i o=>o.length≤i)
  (fun i hi o hI=>by
   have hI:o.length≤i:=hI;obtain⟨r,e,hr⟩:=zGb ht (h _ (List.getElem_mem hi));have hw:=Bx hi (by omega:l.length≤_);refine⟨?_,by
    show List.length (if Cq t l[i]=true then o++ [BQ l[i]]else o)≤i+1;split
    ·rw [Ap,AH];omega
    ·omega⟩
   show Ra t l i o=_;unfold Ra;rw [if_pos (by simpa using hi),AR hi,Aa,e,Aa,hw];cases hb:Cq t l[i]with
   |false=>rfl
   |true=>
    have hq:((o.length:Int)+(([r]:List AI).length:Int))*24≤140737488355328∧(o.length:Int)+(([r]:List AI).length:Int)≤140737488355328:=by rw [AH];omega
    rw [if_pos rfl,AP hq,if_pos rfl,hr hb])
  (fun o _=>by show Ra t l l.length o=_;unfold Ra;rw [if_neg (by simp)]) (s:= []) (by simp)
 rw [Sr]at h1;exact h1.1
def head (t:Ad) (n:Af):Af:=t.ab++ [46]++n
def Da (t:Ad) (n k:Af):Bool:=match B9 47 k with
 | [x,y,z]=>x==head t n&&field y&&field z
 |_=>false
theorem zDo {t:Ad} {n k:Af} (ht:t.ab.length≤2000000) (hn:n.length≤2000000) (hk:k.length≤1000000): ∃a b,jX t n k=some (a,b,Da t n k):=by
 have O9:=zxM (c:=47) hk;have he:PS k 47=some (B9 47 k):=zyG (c:=47) (by omega);unfold jX Da;rw [he,Aa];generalize B9 47 k=ps at O9
 match ps,O9 with
 | [],_=>exact⟨_,_,by rw [if_pos (by simp)]⟩
 | [_],_=>exact⟨_,_,by rw [if_pos (by simp)]⟩
 | [_,_],_=>exact⟨_,_,by rw [if_pos (by simp)]⟩
 |_::_::_::_::l,_=>exact⟨_,_,by rw [if_pos (by simp;omega)]⟩
 | [x,y,z],O9=>
  have hy:=O9.each y (by simp);have hz:=O9.each z (by simp);dsimp only;rw [if_neg (by simp),show getI [x,y,z] 0=some x from rfl,Aa,AP (by rw [AH];omega),AP (by rw [Ap,AH];omega)];rw [show(t.ab++ [46]++n)=head t n from rfl];by_cases hx:x=head t n
  ·rw [if_neg (by simp [hx]),show getI [x,y,z] 1=some y from rfl,Aa,rL hy,Aa];have QS:(x==head t n)=true:=by simpa using hx
   rw [QS];cases field y with
   |false=>exact⟨_,_,by rw [if_neg (by simp)];rfl⟩
   |true=>
    rw [if_pos rfl,show getI [x,y,z] 2=some z from rfl,Aa,rL hz,Aa];cases field z with
    |false=>exact⟨_,_,by rw [if_pos (by simp)];rfl⟩
    |true=>exact⟨_,_,by rw [if_neg (by simp)];rfl⟩
  ·have QS:(x==head t n)=false:=by simpa using hx
   rw [QS];exact⟨_,_,by rw [if_pos (by simpa [bne]using QS)];rfl⟩
theorem zzL {c:UInt8} {s x y:Af} {r:List Af} (h:B9 c s=x::y::r): ∃q,s=x++c::q:=by
 rcases YS s c with⟨_,h0⟩|⟨p,q,rfl,hp,_⟩
 ·rw [L7 h0]at h;simp at h
 ·rw [NS hp]at h;obtain⟨rfl,_⟩:=List.cons.inj h;exact⟨q,rfl⟩
theorem wY {x:Af} {c:UInt8} (hx:x.length≤2000000):(R6 x [c]=some (x, [],false)∧ ∀b∈x,b≠c)∨ ∃p q,x=p++c::q∧(∀b∈p,b≠c)∧R6 x [c]=some (p,q,true):=by
 have hi:Ri x [c]=some (Lib.indexByte x c):=rfl;rcases YS x c with⟨e,h0⟩|⟨p,q,rfl,hp,e⟩
 ·refine .inl ⟨?_,h0⟩;unfold R6 X9;rw [hi,Aa,e,if_neg (by simp)];rfl
 ·refine .inr ⟨p,q,rfl,hp, ?_⟩;rw [Ap,An]at hx;have hw:IntKind.i64.wrap ((p.length:Int)+(([c]:Af).length:Int))=((p.length+1:Nat):Int):=by rw [AH,A8 (by omega) (by omega)];omega
  unfold R6 X9;rw [hi,Aa,e,if_pos (by simp),AP (by rw [Ap,An];omega),hw,AP (by rw [Ap,An];omega),Pt,Pq,List.take_length];have e1:(p++c::q).drop (p.length+1)=q:=by simp
  have e2:(p++c::q).take p.length=p:=by simp
  rw [e1,e2];rfl
theorem zD8 {s:Af} (h:(47:UInt8)∈s):field s=false:=by
 unfold field Kv;have:(s.all fun b=>Fh b||([]:Af).contains b)=false:=by rw [List.all_eq_false];exact⟨47,h,by decide⟩
 rw [this,Bool.and_false]
theorem uW {t:Ad} {n:Af} (ht:t.ab.length≤2000000) (hn:n.length≤2000000):U9 t n=some (head t n++ [47]):=by unfold U9 head;rw [AP (by rw [AH];omega),AP (by rw [Ap,AH];omega),AP (by rw [Ap,Ap,AH,AH];omega)]
theorem zDH {t:Ad} {n k:Af} (ht:t.ab.length≤2000000) (hn:n.length≤2000000) (hk:k.length≤1000000) (hh: ∀b∈head t n,b≠47): ∃a b,X8 t n k=some (a,b,Da t n k):=by
 unfold X8;rw [uW ht hn,Aa,xH (by omega),Aa];cases hp:(head t n++ [47]).isPrefixOf k with
 |false=>
  have Dt:Da t n k=false:=by
   unfold Da;split
   ·rename_i x y z hs;cases hx:x==head t n with
    |false=>simp
    |true=>obtain⟨q,hq⟩:=zzL hs;rw [←Bool.not_eq_true,List.isPrefixOf_iff_prefix]at hp;refine absurd ⟨q, ?_⟩ hp;rw [hq,(by simpa using hx:x=head t n)];simp
   ·rfl
  rw [Dt];simp only [AX,if_false];rcases wY (x:=k) (c:=47) (by omega)with⟨e,_⟩|⟨p,q,_,_,e⟩
  ·rw [e];exact⟨_,_,rfl⟩
  ·rw [e];exact⟨_,_,rfl⟩
 |true=>
  obtain⟨rest,Cu⟩:=List.isPrefixOf_iff_prefix.1 hp;have JY:k=head t n++47::rest:=by rw [←Cu];simp
  have hd:k.drop (head t n++ [47]).length=rest:=by rw [←Cu,List.drop_left]
  have FL:B9 47 k=head t n::B9 47 rest:=by rw [JY,NS hh]
  have hlen:rest.length≤1000000:=by
   have:k.length=(head t n).length+(rest.length+1):=by rw [JY,Ap,An]
   omega
  simp only [if_true,hd];unfold Da;rw [FL];rcases wY (x:=rest) (c:=47) (by omega)with⟨e,h0⟩|⟨p,q,rfl,Xn,e⟩
  ·rw [e,L7 h0];exact⟨_,_,rfl⟩
  ·rw [e,NS Xn,Aa];rw [Ap,An]at hlen;simp only [if_true];rw [Z9 (s:=p) (by omega),Aa];rcases YS q 47 with⟨_,h0⟩|⟨p3,q3,rfl,hp3,_⟩
   ·rw [L7 h0];dsimp only;rw [beq_self_eq_true,Bool.true_and];cases field p with
    |false=>exact⟨_,_,rfl⟩
    |true=>
     rw [if_pos rfl,Z9 (s:=q) (by omega),Aa];cases field q with
     |false=>exact⟨_,_,rfl⟩
     |true=>exact⟨_,_,rfl⟩
   ·have hf:field (p3++47::q3)=false:=zD8 (by simp);rw [NS hp3];cases hq:B9 47 q3 with
    |nil=>exact absurd hq (pP _ _)
    |cons x xs=>
     dsimp only;cases field p with
     |false=>exact⟨_,_,rfl⟩
     |true=>rw [if_pos rfl,Z9 (by rw [Ap,An]at hlen ⊢;omega),Aa,hf];exact⟨_,_,rfl⟩
def Bq (t:Ad) (n:Af) (l:List Ab):List Af:=(l.filter fun w=>Da t n w.af).map (·.af)
theorem oA {t:Ad} {n:Af} {l:List Ab} (ht:t.ab.length≤2000000) (hn:n.length≤2000000) (hl:l.length≤2000000) (h: ∀w∈l,FU w):L3 t n l=some (Bq t n l):=by
 have h1:=Ga (xs:=l) (body:=fun s:List Af × Int=>Rr t n l s.1 s.2) (fun i (o:List Af)=>(o,i)) (fun o w=>if Da t n w.af=true then o++ [w.af]else o) (fun o=>some o) (fun i o=>o.length≤i)
  (fun i hi o hI=>by
   have hI:o.length≤i:=hI;have fK:=h _ (List.getElem_mem hi);obtain⟨a,b,e⟩:=zDo (t:=t) (n:=n) (k:=l[i].af) ht hn (by have:=fK.1;omega);have hw:=Bx hi (by omega:l.length≤_);refine⟨?_,by
    show List.length (if Da t n l[i].af=true then o++ [l[i].af]else o)≤i+1;split
    ·rw [Ap,AH];omega
    ·omega⟩
   show Rr t n l o i=_;unfold Rr;rw [if_pos (by simpa using hi),AR hi,Aa,e,Aa,hw];cases hb:Da t n l[i].af with
   |false=>rfl
   |true=>
    have hq:((o.length:Int)+(([l[i].af]:List Af).length:Int))*16≤140737488355328∧(o.length:Int)+(([l[i].af]:List Af).length:Int)≤140737488355328:=by rw [AH];omega
    rw [if_pos rfl,AP hq,if_pos rfl])
  (fun o _=>by show Rr t n l o l.length=_;unfold Rr;rw [if_neg (by simp)]) (s:= []) (by simp)
 rw [Sr (fun w:Ab=>Da t n w.af) (fun w=>w.af)]at h1;exact h1.1
theorem oM {t:Ad} {n:Af} {l:List Ab} (ht:t.ab.length≤2000000) (hn:n.length≤2000000) (hh: ∀b∈head t n,b≠47) (hl:l.length≤2000000) (h: ∀w∈l,FU w):KS t n l=some (Bq t n l):=by
 have h1:=Ga (xs:=l) (body:=fun s:Int × List Af=>Rk t n l s.1 s.2) (fun i (o:List Af)=>(i,o)) (fun o w=>if Da t n w.af=true then o++ [w.af]else o) (fun o=>some o) (fun i o=>o.length≤i)
  (fun i hi o hI=>by
   have hI:o.length≤i:=hI;have fK:=h _ (List.getElem_mem hi);obtain⟨a,b,e⟩:=zDH (t:=t) (n:=n) (k:=l[i].af) ht hn (by have:=fK.1;omega) hh;have hw:=Bx hi (by omega:l.length≤_);refine⟨?_,by
    show List.length (if Da t n l[i].af=true then o++ [l[i].af]else o)≤i+1;split
    ·rw [Ap,AH];omega
    ·omega⟩
   show Rk t n l i o=_;unfold Rk;rw [if_pos (by simpa using hi),AR hi,Aa,e,Aa,hw];cases hb:Da t n l[i].af with
   |false=>rfl
   |true=>
    have hq:((o.length:Int)+(([l[i].af]:List Af).length:Int))*16≤140737488355328∧(o.length:Int)+(([l[i].af]:List Af).length:Int)≤140737488355328:=by rw [AH];omega
    rw [if_pos rfl,AP hq,if_pos rfl])
  (fun o _=>by show Rk t n l l.length o=_;unfold Rk;rw [if_neg (by simp)]) (s:= []) (by simp)
 rw [Sr (fun w:Ab=>Da t n w.af) (fun w=>w.af)]at h1;exact h1.1
def less (a b:List Af):List Af:=a.filter fun k=> !b.contains k
theorem vV {a b:List Af} (ha:a.length≤2000000) (hb:b.length≤2000000):lT a b=some (less a b):=by
 have h1:=Ga (xs:=a) (body:=fun s:List Af × Int=>RG a b s.1 s.2) (fun i (o:List Af)=>(o,i)) (fun o k=>if(!b.contains k)=true then o++ [k]else o) (fun o=>some o) (fun i o=>o.length≤i)
  (fun i hi o hI=>by
   have hI:o.length≤i:=hI;have hw:=Bx hi (by omega:a.length≤_);have hx:decide (BC (fun x=>x==a[i]) b<0)= !b.contains a[i]:=by rw [←gS,←P7,←decide_not];rw [decide_eq_decide];omega
   refine⟨?_,by
    show List.length (if(!b.contains a[i])=true then o++ [a[i]]else o)≤i+1;split
    ·rw [Ap,AH];omega
    ·omega⟩
   show RG a b o i=_;unfold RG;rw [if_pos (by simpa using hi),AR hi,Aa,xS hb,Aa,hw,hx];cases hc:b.contains a[i]with
   |true=>rfl
   |false=>
    have hq:((o.length:Int)+(([a[i]]:List Af).length:Int))*16≤140737488355328∧(o.length:Int)+(([a[i]]:List Af).length:Int)≤140737488355328:=by rw [AH];omega
    rw [if_pos (by rfl),AP hq,if_pos (by rfl)])
  (fun o _=>by show RG a b o a.length=_;unfold RG;rw [if_neg (by simp)]) (s:= []) (by simp)
 rw [Sr (fun k:Af=> !b.contains k) (fun k=>k)]at h1;have h2:=h1.1;rw [List.nil_append,List.map_id']at h2;exact h2
theorem rW {a b:List Af} (ha:a.length≤2000000) (hb:b.length≤2000000):VF a b=some (less a b):=by unfold VF U6 Jj;rw [Mi (by omega) (by omega),Aa,AP (by omega),Zz (fun k=>b.contains k) (fun k _=>by simp only [lQ,xA hb,Aa])];rfl
structure EJ (t:Ad) (n:Af) (x:Aq):Prop where
 at_:getI t.ah (BC (fun y:Aq=>y.ab==n) t.ah)=some x
 name:x.ab=n
 c0:1≤x.bm
 c1:x.bm≤(t.ar.length:Int)-1
def De (r:AI) (c:Int):Af:=(r.aw[c.toNat]?).getD []
def By (t:Ad) (n:Af) (c:Int) (r:AI):Af:=head t n++ [47]++De r c++ [47]++De r 0
structure Lh (t:Ad) (r:AI):Prop where
 len:r.aw.length=t.ar.length
 small:Small r.aw
theorem u3 {t:Ad} {l:List Ab} (h: ∀w∈l,FU w): ∀r∈rows t l,Lh t r:=by intro r hr;obtain⟨w,hw,rfl⟩:=List.mem_map.1 hr;obtain⟨h1,h2⟩:=List.mem_filter.1 hw;have h3:Cq t w=true:=h2;unfold Cq Bf at h3;simp only [Ae,beq_iff_eq]at h3;exact⟨by have:=h3.1.1;omega,nI (h w h1)⟩
theorem Wu {t:Ad} {r:AI} (hr:Lh t r) {c:Int} (h0:0≤c) (h1:c≤(t.ar.length:Int)-1):getI r.aw c=some (De r c)∧(De r c).length≤2000000:=by
 obtain⟨y,e,hm,e2⟩:=Kt (xs:=r.aw) h0 (by have:=hr.len;omega);have hv:De r c=y:=by simp [De,e2]
 rw [hv];exact⟨e,hr.small.each y hm⟩
theorem aF {t:Ad} {n:Af} {x:Aq} {r:AI} (ht:t.ab.length≤2000000) (hn:n.length≤2000000) (hx:EJ t n x) (hr:Lh t r):Ji t x r=some (By t n x.bm r):=by
 obtain⟨g1,l1⟩:=Wu hr (c:=x.bm) (by have:=hx.c0;omega) hx.c1;obtain⟨g2,l2⟩:=Wu hr (c:=0) (by omega) (by have:=hx.c0;have:=hx.c1;omega);have e:=hx.name;subst e;unfold Ji By;rw [AP (by simp only [head,Ap,An,List.length_nil];omega),AP (by simp only [head,Ap,An,List.length_nil];omega),AP (by simp only [head,Ap,An,List.length_nil];omega),g1,Aa,
  AP (by simp only [head,Ap,An,List.length_nil];omega),AP (by simp only [head,Ap,An,List.length_nil];omega),g2,Aa,
  AP (by simp only [head,Ap,An,List.length_nil];omega)]
 rfl
theorem aJ {t:Ad} {n:Af} {x:Aq} {r:AI} (hS:Dk t) (hn:n.length≤2000000) (hx:EJ t n x) (hr:Lh t r):Kl t n r=some (By t n x.bm r):=by
 obtain⟨g1,l1⟩:=Wu hr (c:=x.bm) (by have:=hx.c0;omega) hx.c1;obtain⟨g2,l2⟩:=Wu hr (c:=0) (by omega) (by have:=hx.c0;have:=hx.c1;omega);have ht:=hS.name;have hi:Ny t n=some x:=by unfold Ny;rw [WL hS,Aa,hx.at_];rfl
 unfold Kl By;rw [uW ht hn,Aa,hi,Aa,g1,Aa,AP (by simp only [head,Ap,An,List.length_nil];omega),AP (by simp only [head,Ap,An,List.length_nil];omega),g2,Aa,AP (by simp only [head,Ap,An,List.length_nil];omega)]
def wanted (t:Ad) (n:Af) (x:Aq) (l:List Ab):List Af:=(rows t l).map (By t n x.bm)
theorem rows_len (t:Ad) (l:List Ab):(rows t l).length≤l.length:=by unfold rows;rw [List.length_map];exact List.length_filter_le _ _
theorem zv5 {t:Ad} {n:Af} {x:Aq} {l:List Ab} (hS:Dk t) (hn:n.length≤2000000) (hx:EJ t n x) (hl:l.length≤2000000) (h: ∀w∈l,FU w):R4 t n l=some (wanted t n x l):=by
 have Ch:=u3 (t:=t) h;have Je:=rows_len t l;unfold R4;rw [SI hS.name hl h,Aa];have h1:=Ga (xs:=rows t l) (body:=fun s:List Af × Int=>Ro t n (rows t l) s.1 s.2) (fun i (o:List Af)=>(o,i)) (fun o r=>o++ [By t n x.bm r]) (fun o=>some o) (fun i o=>o.length=i)
  (fun i hi o hI=>by
   have hI:o.length=i:=hI;have hw:=Bx hi (by omega);refine⟨?_,by show List.length _=_;rw [Ap,AH];omega⟩;show Ro t n (rows t l) o i=_;unfold Ro;have hq:((o.length:Int)+(([By t n x.bm (rows t l)[i]]:List Af).length:Int))*16≤140737488355328∧(o.length:Int)+(([By t n x.bm (rows t l)[i]]:List Af).length:Int)≤140737488355328:=by rw [AH];omega
   rw [if_pos (by simpa using hi),AR hi,Aa,IS hS,Aa,hx.at_,Aa,aF hS.name hn hx (Ch _ (List.getElem_mem hi)),Aa,AP hq,hw])
  (fun o _=>by show Ro t n (rows t l) o (rows t l).length=_;unfold Ro;rw [if_neg (by simp)]) (s:= []) rfl
 rw [pT]at h1;exact h1.1
theorem zwd {t:Ad} {n:Af} {x:Aq} {l:List Ab} (hS:Dk t) (ht:t.ab.length=1) (hn:n.length≤2000000) (hx:EJ t n x) (hl:l.length≤2000000) (h: ∀w∈l,FU w):Vi t n l=some (wanted t n x l):=by
 have Ch:=u3 (t:=t) h;have Je:=rows_len t l;unfold Vi;rw [zyF ht hl h,Aa];have h1:=Ga (xs:=rows t l) (body:=fun s:Int × List Af=>Rb t n (rows t l) s.1 s.2) (fun i (o:List Af)=>(i,o)) (fun o r=>o++ [By t n x.bm r]) (fun o=>some o) (fun i o=>o.length=i)
  (fun i hi o hI=>by
   have hI:o.length=i:=hI;have hw:=Bx hi (by omega);refine⟨?_,by show List.length _=_;rw [Ap,AH];omega⟩;show Rb t n (rows t l) i o=_;unfold Rb;have hq:((o.length:Int)+(([By t n x.bm (rows t l)[i]]:List Af).length:Int))*16≤140737488355328∧(o.length:Int)+(([By t n x.bm (rows t l)[i]]:List Af).length:Int)≤140737488355328:=by rw [AH];omega
   rw [if_pos (by simpa using hi),AR hi,Aa,aJ hS hn hx (Ch _ (List.getElem_mem hi)),Aa,AP hq,hw])
  (fun o _=>by show Rb t n (rows t l) (rows t l).length o=_;unfold Rb;rw [if_neg (by simp)]) (s:= []) rfl
 rw [pT]at h1;exact h1.1
def holds (t:Ad) (n:Af) (x:Aq) (lv:Int) (l:List Ab):Bool:=
 if lv==0 then((Bq t n l).length:Int)==0
 else(((less (Bq t n l) (wanted t n x l)).length:Int)==0)&&((lv==1)||(((less (wanted t n x l) (Bq t n l)).length:Int)==0))
theorem Sm (t:Ad) (n:Af) (l:List Ab):(Bq t n l).length≤l.length:=by unfold Bq;rw [List.length_map];exact List.length_filter_le _ _
theorem ZO (t:Ad) (n:Af) (x:Aq) (l:List Ab):(wanted t n x l).length≤l.length:=by unfold wanted;rw [List.length_map];exact rows_len t l
theorem zD1 {t:Ad} {n:Af} {x:Aq} {lv:Int} {l:List Ab} (hS:Dk t) (ht:t.ab.length≤2000000) (hn:n.length≤2000000) (hx:EJ t n x) (hl:l.length≤2000000) (h: ∀w∈l,FU w) (ha:RU t n l=some true):lJ t n lv l=some (holds t n x lv l):=by
 have hE:=oA ht hn hl h;have hW:=zv5 hS hn hx hl h;have e1:=Sm t n l;have e2:=ZO t n x l;have h1:=vV (a:=Bq t n l) (b:=wanted t n x l) (by omega) (by omega);have h2:=vV (a:=wanted t n x l) (b:=Bq t n l) (by omega) (by omega);unfold lJ holds;by_cases h0:(lv==0)=true
 ·rw [if_pos h0,if_pos h0,hE,Aa]
 ·rw [if_neg h0,if_neg h0];unfold zF zW;rw [ha,hE,hW];simp only [Aa,h1,h2,Bool.not_true,AX,if_false]
theorem zDt {t:Ad} {n:Af} {x:Aq} {lv:Int} {l:List Ab} (hS:Dk t) (ht:t.ab.length=1) (hn:n.length≤2000000) (hh: ∀b∈head t n,b≠47) (hx:EJ t n x) (hl:l.length≤2000000) (h: ∀w∈l,FU w):Yd t n lv l=some (holds t n x lv l):=by
 have hE:=oM (t:=t) (by omega) hn hh hl h;have hW:=zwd hS ht hn hx hl h;have e1:=Sm t n l;have e2:=ZO t n x l;have h1:=rW (a:=Bq t n l) (b:=wanted t n x l) (by omega) (by omega);have h2:=rW (a:=wanted t n x l) (b:=Bq t n l) (by omega) (by omega);unfold Yd holds;by_cases h0:(lv==0)=true
 ·rw [if_pos h0,if_pos h0,hE,Aa]
 ·rw [if_neg h0,if_neg h0];unfold Yn U8;rw [hE,hW];simp only [Aa,h1,h2];by_cases h3:(lv==1)=true
  ·rw [if_pos h3,h3,Bool.true_or,Bool.and_true]
  ·rw [if_neg h3,Bool.eq_false_iff.2 h3,Bool.false_or];by_cases h4:(((less (Bq t n l) (wanted t n x l)).length:Int)==0)=true
   ·rw [if_pos h4,h4,Bool.true_and]
   ·rw [if_neg h4,Bool.eq_false_iff.2 h4,Bool.false_and]
def BX (t:Ad) (n:Af):Bool:=A0 t&&decide (BC (fun x:Aq=>x.ab==n) t.ah≥0)
def Tt (t:Ad) (n:Af) (l:List Ab):Bool:=BX t n&&BS l
theorem sQ {t:Ad} {n:Af} (hS:Dk t):Sf t n=some (BX t n):=by unfold Sf BX;rw [zDp hS,Aa,WL hS,Aa];cases A0 t<;>simp
theorem zDb {t:Ad} {n:Af} {l:List Ab} (hS:Dk t) (hW:Js l):YM t n l=some (Tt t n l):=by unfold YM Tt;rw [sQ hS,Aa,sM hW,Aa];cases BX t n<;>simp
theorem zC8 {t:Ad} {n:Af} {l:List Ab} (hS:Dk t) (hW:Js l):RU t n l=some (Tt t n l):=by unfold RU Tt BX;rw [KZ hS,Aa,IS hS,Aa,Mn hW,Aa];cases A0 t<;>cases decide (BC (fun x:Aq=>x.ab==n) t.ah≥0)<;>simp
theorem zFJ {l:List Ab} (h:BS l=true): ∀w∈l,FU w:=by intro w hw;unfold BS Kq at h;simp only [Ae]at h;have h1:=AG.1 h.1.2.1 w hw;unfold C3 Am Im Gl at h1;simp only [Ae,decide_eq_true_eq]at h1;have h2:=B7.1 h1.1.1;have h3:=h1.2.1.1;exact⟨by omega,by omega⟩
theorem NM {s:Af} {k:Int} (h:CJ s k=true):(s.length:Int)≤k∧ ∀b∈s,b≠47:=by unfold CJ at h;simp only [Ae]at h;refine⟨(B7.1 h.2).2,fun b hb e=> ?_⟩;have h1:=AG.1 h.1 b hb;subst e;exact absurd h1 (by decide)
theorem Sp {s:Af} (h:CJ s 1=true):s.length=1:=by unfold CJ at h;simp only [Ae]at h;have:=B7.1 h.2;omega
theorem Md {t:Ad} (h:A0 t=true):CJ t.ab 1=true:=by unfold A0 at h;simp only [Ae]at h;exact h.1.1.1
theorem E2 {t:Ad} (h:A0 t=true) {x:Aq} (hx:x∈t.ah):CJ x.ab 1=true∧Bw x.bm 1 ((t.ar.length:Int)-1)=true:=by unfold A0 at h;simp only [Ae]at h;obtain⟨i,hi,rfl⟩:=List.mem_iff_getElem.1 hx;have h1:=AG.1 h.2 i (List.mem_range.2 hi);unfold HO at h1;simp only [Ae,List.getElem?_eq_getElem hi,Option.getD_some]at h1;exact⟨h1.1.1.1,h1.1.1.2⟩
theorem WS {t:Ad} {n:Af} (h:BX t n=true): ∃x,EJ t n x∧t.ab.length=1∧n.length=1∧ ∀b∈head t n,b≠47:=by
 unfold BX at h;simp only [Ae,decide_eq_true_eq]at h;obtain⟨x,h1,h2,h3⟩:=zyi h.2;have h4:=E2 h.1 h3;have h5:=B7.1 h4.2;have h6:x.ab=n:=by simpa using h2
 have h7:=Md h.1;have h8:=h6▸h4.1;refine⟨x,⟨h1,h6,h5.1,h5.2⟩,Sp h7,Sp h8,fun b hb=> ?_⟩;unfold head at hb;simp only [Ai,List.mem_singleton]at hb;rcases hb with(hb|hb)|hb
 ·exact(NM h7).2 b hb
 ·subst hb;decide
 ·exact(NM h8).2 b hb
abbrev bl (a b:Ac):Bool:=Op.bytesLess a b
theorem NP: ∀a:Ac,bl a a=false
 | []=>rfl
 |x::a=>by
  have h: ¬x<x:=fun h=>by have:=UInt8.lt_iff_toNat_lt.1 h;omega
  show Op.bytesLess (x::a) (x::a)=false;simp only [Op.bytesLess,h,decide_false,Bool.false_or,beq_self_eq_true,Bool.true_and];exact NP a
theorem sD (x y:UInt8) (a b:Ac):bl (x::a) (y::b)=true↔x.toNat<y.toNat∨x=y∧bl a b=true:=by show Op.bytesLess (x::a) (y::b)=true↔_;simp only [Op.bytesLess,Bool.or_eq_true,decide_eq_true_eq,Ae,beq_iff_eq,UInt8.lt_iff_toNat_lt]
theorem FQ: ∀{a b c:Ac},bl a b=true→bl b c=true→bl a c=true
 | [],_, [],_,h=>by rename_i b _;cases b<;>cases h
 | [],_,_::_,_,_=>rfl
 |_::_, [],_,h,_=>by cases h
 |_::_,_::_, [],_,h=>by cases h
 |x::a,y::b,z::c,h1,h2=>by
  rw [sD]at*;rcases h1 with h1|⟨rfl,h1⟩<;>rcases h2 with h2|⟨rfl,h2⟩
  ·exact .inl (by omega)
  ·exact .inl h1
  ·exact .inl h2
  ·exact .inr ⟨rfl,FQ h1 h2⟩
theorem wT: ∀a b:Ac,bl a b=true∨a=b∨bl b a=true
 | [], []=> .inr (.inl rfl)
 | [],_::_=> .inl rfl
 |_::_, []=> .inr (.inr rfl)
 |x::a,y::b=>by
  rw [sD,sD];rcases Nat.lt_trichotomy x.toNat y.toNat with h|h|h
  ·exact .inl (.inl h)
  ·have h0:x=y:=UInt8.toNat_inj.1 h;subst h0;rcases wT a b with h1|h1|h1
   ·exact .inl (.inr ⟨rfl,h1⟩)
   ·exact .inr (.inl (by rw [h1]))
   ·exact .inr (.inr (.inr ⟨rfl,h1⟩))
  ·exact .inr (.inr (.inl h))
theorem aB {a b:Ac} (h:bl a b=true):bl b a=false:=by
 cases h2:bl b a with
 |false=>rfl
 |true=>have:=FQ h h2;rw [NP]at this;cases this
theorem FE {a b:Ac} (h:bl a b=true):a≠b:=by rintro rfl;rw [NP]at h;cases h
theorem Wc {a b:Ac} (h:bl a b=false) (hn:a≠b):bl b a=true:=by
 rcases wT a b with h1|h1|h1
 ·rw [h]at h1;cases h1
 ·exact absurd h1 hn
 ·exact h1
section
variable {α:Type} (key:α→Ac)
def Ec (l:List α):Prop:=l.Pairwise fun a b=>bl (key a) (key b)=true
def Bg (x:α):List α→List α
 | []=> [x]
 |y::l=>if bl (key x) (key y)=true then x::y::l else if key x=key y then x::l else y::Bg x l
variable {key}
theorem Ec.fy {l:List α} (h:Ec key l) {a b:α} (ha:a∈l) (hb:b∈l) (e:key a=key b):a=b:=by
 induction l with
 |nil=>cases ha
 |cons y l ih=>
  have h1:=List.pairwise_cons.1 h;rcases Ag.1 ha with q1|q1<;>rcases Ag.1 hb with q2|q2
  ·rw [q1,q2]
  ·exact absurd (q1▸e) (FE (h1.1 _ q2))
  ·exact absurd (q2▸e.symm) (FE (h1.1 _ q1))
  ·exact ih h1.2 q1 q2
theorem SQ {x:α}: ∀{l:List α},Ec key l→ ∀y,y∈Bg key x l↔y=x∨y∈l∧key y≠key x
 | [],_,y=>by simp [Bg]
 |z::l,h,y=>by
  have h1:=List.pairwise_cons.1 h;unfold Bg;split
  ·rename_i hb;constructor
   ·intro hy;rcases Ag.1 hy with rfl|hy
    ·exact .inl rfl
    ·refine .inr ⟨hy, ?_⟩;rcases Ag.1 hy with rfl|hy
     ·exact(FE hb).symm
     ·exact(FE (FQ hb (h1.1 _ hy))).symm
   ·rintro(rfl|⟨hy,_⟩)
    ·simp
    ·exact List.mem_cons_of_mem _ hy
  ·rename_i hb;split
   ·rename_i he;constructor
    ·intro hy;rcases Ag.1 hy with rfl|hy
     ·exact .inl rfl
     ·exact .inr ⟨List.mem_cons_of_mem _ hy,fun e=>FE (h1.1 _ hy) (by rw [e,he])⟩
    ·rintro(rfl|⟨hy,hn⟩)
     ·simp
     ·rcases Ag.1 hy with rfl|hy
      ·exact absurd he.symm hn
      ·exact List.mem_cons_of_mem _ hy
   ·rename_i he;rw [Ag,SQ h1.2];constructor
    ·rintro(rfl|rfl|⟨hy,hn⟩)
     ·exact .inr ⟨by simp,fun e=>he e.symm⟩
     ·exact .inl rfl
     ·exact .inr ⟨List.mem_cons_of_mem _ hy,hn⟩
    ·rintro(rfl|⟨hy,hn⟩)
     ·exact .inr (.inl rfl)
     ·rcases Ag.1 hy with rfl|hy
      ·exact .inl rfl
      ·exact .inr (.inr ⟨hy,hn⟩)
theorem V8 {x:α}: ∀{l:List α},Ec key l→Ec key (Bg key x l)
 | [],_=>by simp [Bg,Ec]
 |z::l,h=>by
  have h1:=List.pairwise_cons.1 h;unfold Bg;split
  ·rename_i hb;refine List.pairwise_cons.2 ⟨fun y hy=> ?_,h⟩;rcases Ag.1 hy with rfl|hy
   ·exact hb
   ·exact FQ hb (h1.1 _ hy)
  ·rename_i hb;split
   ·rename_i he;exact List.pairwise_cons.2 ⟨fun y hy=>by rw [he];exact h1.1 _ hy,h1.2⟩
   ·rename_i he;refine List.pairwise_cons.2 ⟨fun y hy=> ?_,V8 h1.2⟩;rcases(SQ h1.2 y).1 hy with rfl|⟨hy,_⟩
    ·exact Wc (by simpa using hb) he
    ·exact h1.1 _ hy
theorem Ec.ext: ∀{a b:List α},Ec key a→Ec key b→(∀x,x∈a↔x∈b)→a=b
 | [], [],_,_,_=>rfl
 | [],y::b,_,_,h=>absurd ((h y).2 (by simp)) (by simp)
 |x::a, [],_,_,h=>absurd ((h x).1 (by simp)) (by simp)
 |x::a,y::b,ha,hb,h=>by
  have h1:=List.pairwise_cons.1 ha;have h2:=List.pairwise_cons.1 hb;have e:x=y:=by
   rcases Ag.1 ((h x).1 (by simp))with e|hx
   ·exact e
   ·rcases Ag.1 ((h y).2 (by simp))with e|hy
    ·exact e.symm
    ·have:=FQ (h1.1 _ hy) (h2.1 _ hx);rw [NP]at this;cases this
  subst e;rw [Ec.ext h1.2 h2.2 fun z=> ?_];constructor
  ·intro hz;rcases Ag.1 ((h z).1 (List.mem_cons_of_mem _ hz))with rfl|UD
   ·have:=h1.1 _ hz;rw [NP]at this;cases this
   ·exact UD
  ·intro hz;rcases Ag.1 ((h z).2 (List.mem_cons_of_mem _ hz))with rfl|UD
   ·have:=h2.1 _ hz;rw [NP]at this;cases this
   ·exact UD
theorem Ec.filter {l:List α} (h:Ec key l) (p:α→Bool):Ec key (l.filter p):=List.Pairwise.filter p h
theorem Ec.sub {a b:List α} (h:Ec key b) (hs:a.Sublist b):Ec key a:=List.Pairwise.sublist hs h
theorem rD {x:α}: ∀(l:List α),(Bg key x l).length≤l.length+1
 | []=>by simp [Bg]
 |y::l=>by
  unfold Bg;have:=rD (x:=x) l;split
  ·simp
  ·split
   ·simp
   ·simp only [An];omega
end
def IW {α:Type} (r:α→α→Bool):List α→Bool
 | []=>true
 | [_]=>true
 |x::y::l=>r x y&&IW r (y::l)
theorem Z4 {α:Type} {r:α→α→Bool} (ht: ∀a b c,r a b=true→r b c=true→r a c=true): ∀{l:List α},IW r l=true↔l.Pairwise fun a b=>r a b=true
 | []=>by simp [IW]
 | [_]=>by simp [IW]
 |x::y::l=>by
  rw [IW,Ae,Z4 ht];constructor
  ·rintro⟨h1,h2⟩;refine List.pairwise_cons.2 ⟨fun z hz=> ?_,h2⟩;rcases Ag.1 hz with rfl|hz
   ·exact h1
   ·exact ht _ _ _ h1 ((List.pairwise_cons.1 h2).1 z hz)
  ·intro h;have h:=List.pairwise_cons.1 h;exact⟨h.1 y (by simp),h.2⟩
theorem zxX {α:Type} {r:α→α→Bool} {l:List α} {q:Nat} (h:q+1<l.length):IW r (l.drop q)=(r l[q] l[q+1]&&IW r (l.drop (q+1))):=by rw [List.drop_eq_getElem_cons (show q<l.length by omega),List.drop_eq_getElem_cons h,IW]
def Ca {α:Type} (lt:α→Bool) (l:List α):Nat:=(l.takeWhile lt).length
theorem S4 {α:Type} (lt:α→Bool): ∀l:List α,Ca lt l≤l.length
 | []=>by simp [Ca]
 |x::l=>by have:=S4 lt l;unfold Ca at this ⊢;rw [List.takeWhile_cons];split<;>simp<;>omega
theorem sC {α:Type} {lt:α→Bool}: ∀{l:List α} {i:Nat} (h:i<Ca lt l),lt (l[i]'(Nat.lt_of_lt_of_le h (S4 lt l)))=true
 |x::l,i,h=>by
  unfold Ca at h;rw [List.takeWhile_cons]at h;split at h
  ·rename_i hx;cases i with
   |zero=>exact hx
   |succ i=>exact sC (l:=l) (i:=i) (by unfold Ca;simpa using h)
  ·simp at h
theorem u0 {α:Type} {lt:α→Bool}: ∀{l:List α} (h:Ca lt l<l.length),lt l[Ca lt l]=false
 |x::l,h=>by
  by_cases hx:lt x=true
  ·have e:Ca lt (x::l)=Ca lt l+1:=by unfold Ca;rw [List.takeWhile_cons,if_pos hx];rfl
   have:=u0 (l:=l) (lt:=lt) (by rw [e]at h;simpa using h);simp only [e,List.getElem_cons_succ];exact this
  ·have e:Ca lt (x::l)=0:=by unfold Ca;rw [List.takeWhile_cons,if_neg hx];rfl
   simp only [e,List.getElem_cons_zero];simpa using hx
theorem zFr {α β:Type} {xs:List α} {body:Int × Int→Option ((Int × Int) ⊕ Option β)} {fin:Int→Option β} (lt:α→Bool) (hm: ∀i j (hj:j<xs.length) (hi:i≤j),lt xs[j]=true→lt xs[i]=true)
  (hs: ∀i j:Nat,i<j→j≤xs.length→(h:(i+j)/2<xs.length)→body ((i:Int),(j:Int))=some (.inl (if lt xs[(i+j)/2]=true then((((i+j)/2+1:Nat):Int),(j:Int))else((i:Int),(((i+j)/2:Nat):Int)))))
  (he: ∀i:Nat,i≤xs.length→body ((i:Int),(i:Int))=some (.inr (fin i))):AA body (0,(xs.length:Int))=fin (Ca lt xs):=by
 have key: ∀n i j:Nat,j-i≤n→i≤Ca lt xs→Ca lt xs≤j→j≤xs.length→AA body ((i:Int),(j:Int))=fin (Ca lt xs):=by
  intro n
  induction n with
  |zero=>
   intro i j h1 h2 h3 h4;have:i=j:=by omega
   subst this;have:i=Ca lt xs:=by omega
   rw [FA,he i h4,this]
  |succ n ih=>
   intro i j h1 h2 h3 h4;by_cases OO:i=j
   ·subst OO;have:i=Ca lt xs:=by omega
    rw [FA,he i h4,this]
   ·have Ak:(i+j)/2<xs.length:=by omega
    rw [FA,hs i j (by omega) h4 Ak];by_cases hc:lt xs[(i+j)/2]=true
    ·rw [if_pos hc];refine ih _ _ (by omega) ?_ h3 h4;by_cases hp:(i+j)/2<Ca lt xs
     ·omega
     ·have h5:Ca lt xs<xs.length:=by omega
      have:=u0 h5;rw [hm _ _ Ak (by omega) hc]at this;cases this
    ·rw [if_neg hc];refine ih _ _ (by omega) h2 ?_ (by omega);by_cases hp:(i+j)/2<Ca lt xs
     ·exact absurd (sC hp) hc
     ·omega
 exact key xs.length 0 xs.length (by omega) (by omega) (S4 lt xs) (Nat.le_refl _)
theorem zyK {α:Type} {key:α→Ac} {x:α}: ∀{l:List α},Ec key l→Bg key x l=(match l[Ca (fun y=>bl (key y) (key x)) l]? with
  |some y=>if key y=key x then l.set (Ca (fun y=>bl (key y) (key x)) l) x else l.take (Ca (fun y=>bl (key y) (key x)) l)++ [x]++l.drop (Ca (fun y=>bl (key y) (key x)) l)
  |none=>l.take (Ca (fun y=>bl (key y) (key x)) l)++ [x]++l.drop (Ca (fun y=>bl (key y) (key x)) l))
 | [],_=>by simp [Bg,Ca]
 |y::l,h=>by
  have h1:=List.pairwise_cons.1 h;unfold Bg;by_cases hb:bl (key x) (key y)=true
  ·have e:Ca (fun z=>bl (key z) (key x)) (y::l)=0:=by unfold Ca;rw [List.takeWhile_cons,if_neg (by rw [aB hb];simp)];rfl
   rw [if_pos hb,e];simp [(FE hb).symm]
  ·rw [if_neg hb];by_cases hk:key x=key y
   ·have e:Ca (fun z=>bl (key z) (key x)) (y::l)=0:=by unfold Ca;rw [List.takeWhile_cons,if_neg (by rw [hk,NP];simp)];rfl
    rw [if_pos hk,e];simp [hk]
   ·have HD:=Wc (by simpa using hb) hk;have e:Ca (fun z=>bl (key z) (key x)) (y::l)=Ca (fun z=>bl (key z) (key x)) l+1:=by unfold Ca;rw [List.takeWhile_cons,if_pos HD];rfl
    rw [if_neg hk,e,zyK h1.2];simp only [List.getElem?_cons_succ];split
    ·split<;>simp
    ·simp
def Pr (a b:Af):Int:=if bl a b=true then-1 else if a=b then 0 else 1
@[simp] theorem zDR (a:Af):Vg a=some false:=by simp [Vg]
@[simp] theorem zIk (a b:Af):Yq a b=some (Pr a b):=by
 unfold Yq Pr;simp only [zDR,Aa,AX,if_false];by_cases h:bl a b=true
 ·have:Op.bytesLess a b=true:=h;simp [this]
 ·have h1:Op.bytesLess a b=false:=by simpa using h
  by_cases he:a=b
  ·subst he;simp [h1]
  ·simp [h1,he]
theorem zFp {a b:Af}:decide (Pr a b<0)=bl a b:=by
 unfold Pr;cases h:bl a b with
 |true=>simp
 |false=>by_cases he:a=b<;>simp [he]
theorem zGd {a b:Af}:(Pr a b==0)=decide (a=b):=by
 unfold Pr;cases h:bl a b with
 |true=>simp [FE h]
 |false=>by_cases he:a=b<;>simp [he]
theorem zG8 {i j:Nat} (h:i≤j) (hj:j≤2000000):IntKind.i64.wrap (Int.fdiv (IntKind.u64.wrap (IntKind.i64.wrap ((i:Int)+(j:Int)))) (2^(min ((1:Int)).toNat (IntKind.bits .u64))))=(((i+j)/2:Nat):Int):=by
 have e1:IntKind.i64.wrap ((i:Int)+(j:Int))=((i+j:Nat):Int):=by rw [A8 (by omega) (by omega)];simp
 have e2:IntKind.u64.wrap ((i+j:Nat):Int)=((i+j:Nat):Int):=by simp only [IntKind.wrap,IntKind.bits,IntKind.signed];simp;omega
 have e3:(2:Int)^(min ((1:Int)).toNat (IntKind.bits .u64))=((2:Nat):Int):=rfl;rw [e1,e2,e3,Int.fdiv_eq_ediv_of_nonneg _ (by omega),←Int.natCast_ediv,A8 (by omega) (by omega)]
theorem zGq {i:Nat} (h:i≤2000000):IntKind.i64.wrap ((i:Int)+1)=((i+1:Nat):Int):=by rw [A8 (by omega) (by omega)];simp
abbrev CZ (l:List Ab):Prop:=Ec (fun w:Ab=>w.af) l
abbrev Hb (l:List Ab) (k:Af):Nat:=Ca (fun w:Ab=>bl w.af k) l
theorem xU {l:List Ab} {k:Af} (hl:l.length≤2000000) (hr:CZ l):ND l k=some (((Hb l k:Nat):Int),(match l[Hb l k]? with|some w=>decide (w.af=k)|none=>false)):=by
 unfold ND iW;have hc: ∀w:Ab,RO w k=some (Pr w.af k):=fun w=>by simp [RO]
 have h:=zFr (xs:=l) (body:=fun s:Int × Int=>Q6 l k (fun y0_ y1_=>RO y0_ y1_) s.1 s.2) (fin:=fun i=>iV l k (fun y0_ y1_=>RO y0_ y1_) i) (fun w:Ab=>bl w.af k)
  (fun i j hj hi h=>by
   rcases Nat.lt_or_ge i j with OO|OO
   ·exact FQ ((List.pairwise_iff_getElem.1 hr) i j (by omega) hj OO) h
   ·have:i=j:=by omega
    subst this;exact h)
  (fun i j OO hj eI=>by show Q6 l k _ (i:Int) (j:Int)=_;unfold Q6;rw [if_pos (by simpa using OO),zG8 (by omega) (by omega),AR eI,Aa];simp only [hc,Aa,zFp,zGq (show(i+j)/2≤2000000 by omega)];cases bl l[(i+j)/2].af k<;>rfl)
  (fun i hi=>by show Q6 l k _ (i:Int) (i:Int)=_;unfold Q6;rw [if_neg (by simp)])
 rw [h];unfold iV;show Option.bind (if decide (((Hb l k:Nat):Int)<l.length)=true then _ else _) _=_;by_cases hp:Hb l k<l.length
 ·rw [if_pos (by simpa using hp),AR hp,Aa];simp only [hc,Aa,zGd,List.getElem?_eq_getElem hp]
 ·rw [if_neg (by simpa using hp),List.getElem?_eq_none (by omega)];rfl
theorem oC {l:List Ab} {w:Ab} (hl:l.length≤2000000) (hr:CZ l):PN l w=some (Bg (fun w:Ab=>w.af) w l):=by
 unfold PN;rw [xU hl hr,Aa,zyK hr];show(if(match l[Hb l w.af]? with|some w'=>decide (w'.af=w.af)|none=>false)=true then _ else _)=_;have hle:Hb l w.af≤l.length:=S4 _ _;have hI:aG l ((Hb l w.af:Nat):Int) [w]=some (l.take (Hb l w.af)++ [w]++l.drop (Hb l w.af)):=AP ⟨by omega,by omega,by simp,by simp only [AH];omega⟩;by_cases hp:Hb l w.af<l.length
 ·rw [List.getElem?_eq_getElem hp];by_cases hk:(l[Hb l w.af]).af=w.af
  ·simp only [hk,decide_true,if_true,AR hp,Aa];rfl
  ·simp only [hk,decide_false,AX,if_false];rw [hI];rfl
 ·rw [List.getElem?_eq_none (by omega)];simp only [AX,if_false];rw [hI];rfl
theorem nS (ks:List Af):Lb ks=IW bl ks:=by
 have key: ∀n q,q+n+1=ks.length→(List.range' (q+1) n).all (Jq ks)=IW bl (ks.drop q):=by
  intro n
  induction n with
  |zero=>intro q hq;rw [List.drop_eq_getElem_cons (show q<ks.length by omega),List.drop_eq_nil_of_le (show ks.length≤q+1 by omega)];rfl
  |succ n ih=>intro q hq;rw [List.range'_succ,List.all_cons,ih (q+1) (by omega),zxX (show q+1<ks.length by omega)];congr 1;unfold Jq;have hb:(q+1==0)=false:=rfl;rw [hb,Bool.false_or,Nat.add_sub_cancel,List.getElem?_eq_getElem (show q<ks.length by omega),List.getElem?_eq_getElem (show q+1<ks.length by omega)];rfl
 cases ks with
 |nil=>rfl
 |cons k l=>unfold Lb;rw [An,List.range_eq_range',List.range'_succ,List.all_cons];have:=key l.length 0 (by simp);rw [List.drop_zero]at this;rw [Nat.zero_add]at this;rw [show 0+1=1 from rfl,this];rfl
theorem ZH {α β:Type} (f:α→β) (r:β→β→Bool): ∀l:List α,IW r (l.map f)=IW (fun a b=>r (f a) (f b)) l
 | []=>rfl
 | [_]=>rfl
 |x::y::l=>by have:=ZH f r (y::l);simp only [List.map_cons,IW]at this ⊢;rw [this]
theorem zrF {l:List Ab} (h:Kq l=true):CZ l:=by unfold Kq at h;simp only [Ae]at h;have h1:=h.2.2;rw [nS,ZH]at h1;exact(Z4 (r:=fun a b:Ab=>bl a.af b.af) fun a b c p q=>FQ p q).1 h1
theorem qF {t:Ad} (h:A0 t=true):Ec (fun x:Aq=>x.ab) t.ah:=by
 unfold A0 at h;simp only [Ae]at h;have h1:=h.2;have h2:Lb (t.ah.map (·.ab))=true:=by
  unfold Lb;rw [List.length_map,AG];intro i hi;have h3:=AG.1 h1 i hi;unfold HO at h3;simp only [Ae]at h3;have EE:i<t.ah.length:=List.mem_range.1 hi;have e: ∀j:Nat,(((t.ah.map (·.ab))[j]?).getD [])=((t.ah[j]?).getD ⟨[],0,0⟩).ab:=by intro j;rw [List.getElem?_map];cases t.ah[j]?<;>rfl
  unfold Jq;rw [e,e];exact h3.2
 rw [nS,ZH]at h2;exact(Z4 (r:=fun a b:Aq=>bl a.ab b.ab) fun a b c p q=>FQ p q).1 h2
theorem aA {t:Ad} {x:Aq} (h:A0 t=true) (hx:x∈t.ah):EJ t x.ab x:=by
 have h1:BC (fun y:Aq=>y.ab==x.ab) t.ah≥0:=by have:=P7 (fun y:Aq=>y.ab==x.ab) t.ah;rw [show(t.ah.any fun y=>y.ab==x.ab)=true from List.any_eq_true.2 ⟨x,hx,by simp⟩]at this;exact of_decide_eq_true this
 obtain⟨y,h2,h3,h4⟩:=zyi h1;have h5:y=x:=(qF h).fy h4 hx (by simpa using h3);subst h5;have h6:=B7.1 (E2 h hx).2;exact⟨h2,rfl,h6.1,h6.2⟩
theorem Jp {t:Ad} (h:A0 t=true):2≤t.ar.length∧t.ar.length≤4∧t.ah.length≤3:=by unfold A0 at h;simp only [Ae,decide_eq_true_eq]at h;have h1:=B7.1 h.1.1.2.2;have h2:=h.1.2;omega
theorem Ob {t:Ad} {r:AI} (hs:Small r.aw) (h:Bf t r=true):Lh t r:=by unfold Bf at h;simp only [Ae,beq_iff_eq]at h;exact⟨by have:=h.1;omega,hs⟩
theorem aS {t:Ad} {r:AI} (hc:1≤t.ar.length) (h:Lh t r):getI r.aw 0=some (De r 0):=(Wu h (by omega) (by omega)).1
theorem Qo {t:Ad} {r:AI} (hc:1≤t.ar.length) (h:Lh t r):r.aw≠ []:=by intro e;have:=h.len;rw [e]at this;simp at this;omega
def FC (a:Bv):Prop:=Small a.br.aw∧Small a.bw.aw
def HH (t:Ad) (a:Bv):Bool:=
 if a.ak=1 then(a.br.aw.length:Int)==0&&Bf t a.bw else
 if a.ak=2 then Bf t a.br&&(a.bw.aw.length:Int)==0 else
 if a.ak=3 then Bf t a.br&&(Bf t a.bw&&De a.br 0==De a.bw 0)else false
theorem oN {t:Ad} {a:Bv} (hc:1≤t.ar.length) (h:FC a):Zg t a=some (HH t a):=by
 unfold Zg HH;by_cases h1:a.ak=1
 ·rw [if_pos (by simpa using h1),if_pos h1,VZ h.2,Aa];cases((a.br.aw.length:Int)==0)<;>simp
 rw [if_neg (by simpa using h1),if_neg h1];by_cases h2:a.ak=2
 ·rw [if_pos (by simpa using h2),if_pos h2,VZ h.1,Aa];cases((a.bw.aw.length:Int)==0)<;>simp
 rw [if_neg (by simpa using h2),if_neg h2];by_cases h3:a.ak=3
 ·rw [if_pos (by simpa using h3),if_pos h3,VZ h.1,VZ h.2,Aa,Aa];cases e1:Bf t a.br with
  |false=>simp
  |true=>
   cases e2:Bf t a.bw with
   |false=>simp
   |true=>simp [aS hc (Ob h.1 e1),aS hc (Ob h.2 e2)]
 rw [if_neg (by simpa using h3),if_neg h3]
theorem zzp {t:Ad} {a:Bv} (hc:1≤t.ar.length) (h:FC a):Yj t a=some (HH t a):=by
 unfold Yj HH;by_cases h1:a.ak=1
 ·rw [if_pos (by simpa using h1),if_pos h1,V2 h.2,Aa];cases((a.br.aw.length:Int)==0)<;>simp
 rw [if_neg (by simpa using h1),if_neg h1];by_cases h2:a.ak=2
 ·rw [if_pos (by simpa using h2),if_pos h2,V2 h.1,Aa]
 rw [if_neg (by simpa using h2),if_neg h2];by_cases h3:a.ak=3
 ·rw [if_pos (by simpa using h3),if_pos h3,V2 h.1,V2 h.2,Aa,Aa];cases e1:Bf t a.br with
  |false=>simp
  |true=>
   cases e2:Bf t a.bw with
   |false=>simp
   |true=>simp [aS hc (Ob h.1 e1),aS hc (Ob h.2 e2)]
 rw [if_neg (by simpa using h3),if_neg h3]
structure UT (t:Ad) (a:Bv):Prop where
 old:a.ak≠1→Lh t a.br
 new:a.ak≠2→Lh t a.bw
 kind:a.ak=1∨a.ak=2∨a.ak=3
 same:a.ak=3→De a.br 0=De a.bw 0
theorem wJ {t:Ad} {a:Bv} (h:FC a) (hg:HH t a=true):UT t a:=by
 unfold HH at hg;by_cases h1:a.ak=1
 ·rw [if_pos h1,Ae]at hg;exact⟨fun k=>absurd h1 k,fun _=>Ob h.2 hg.2, .inl h1,fun k=>by omega⟩
 rw [if_neg h1]at hg;by_cases h2:a.ak=2
 ·rw [if_pos h2,Ae]at hg;exact⟨fun _=>Ob h.1 hg.1,fun k=>absurd h2 k, .inr (.inl h2),fun k=>by omega⟩
 rw [if_neg h2]at hg;by_cases h3:a.ak=3
 ·rw [if_pos h3,Ae,Ae,beq_iff_eq]at hg;exact⟨fun _=>Ob h.1 hg.1,fun _=>Ob h.2 hg.2.1, .inr (.inr h3),fun _=>hg.2.2⟩
 rw [if_neg h3]at hg;cases hg
def E5 (t:Ad) (a:Bv) (x:Aq):Af:=if a.ak=1 then []else By t x.ab x.bm a.br
def Ed (t:Ad) (a:Bv) (x:Aq):Af:=if a.ak=2 then []else By t x.ab x.bm a.bw
def K6 (k n:Af) (x:Aq):List Ax:=if k≠ []∧k≠n∧x.aq≥1 then [⟨3,k, [],0⟩]else []
def Jx (n:Af) (x:Aq):List Ax:=if n≠ []∧x.aq≥2 then [⟨2,n, [],0⟩]else []
def G9 (t:Ad) (a:Bv) (x:Aq):List Ax:=K6 (E5 t a x) (Ed t a x) x++Jx (Ed t a x) x
def K4 (t:Ad) (a:Bv):List Ax:=
 if a.ak=1 then [⟨6,(AO t a.bw).af, [],0⟩,⟨2,(AO t a.bw).af,(AO t a.bw).a7,0⟩]else
 if a.ak=2 then [⟨7,(AO t a.br).af,(AO t a.br).a7,0⟩,⟨3,(AO t a.br).af, [],0⟩]else
 [⟨7,(AO t a.br).af,(AO t a.br).a7,0⟩,⟨2,(AO t a.br).af,(AO t a.bw).a7,0⟩]
def D9 (t:Ad) (a:Bv):List Ax:=t.ah.foldl (fun o x=>o++G9 t a x) (K4 t a)
theorem zDT (k n:Af) (x:Aq):(K6 k n x).length≤1:=by unfold K6;split<;>simp
theorem zFG (n:Af) (x:Aq):(Jx n x).length≤1:=by unfold Jx;split<;>simp
theorem pB (t:Ad) (a:Bv) (x:Aq):(G9 t a x).length≤2:=by unfold G9;have:=zDT (E5 t a x) (Ed t a x) x;have:=zFG (Ed t a x) x;rw [Ap];omega
theorem nP (t:Ad) (a:Bv):(K4 t a).length=2:=by unfold K4;split<;>(try split)<;>rfl
theorem aX {o p:List Ax} (h:o.length≤5000000) (hn:p.length≤5000000):((o.length:Int)+(p.length:Int))*48≤140737488355328∧(o.length:Int)+(p.length:Int)≤140737488355328:=by omega
theorem zCe {t:Ad} {a:Bv} {x:Aq} (ht:t.ab.length≤2000000) (hn:x.ab.length≤2000000) (hx:EJ t x.ab x) (ha:UT t a):Zl t x a=some (G9 t a x):=by
 have e1:Zl t x a=YI t x a (E5 t a x):=by
  unfold Zl E5;by_cases h1:a.ak=1
  ·rw [if_neg (by simp [h1]),if_pos h1];rfl
  ·rw [if_pos (by simpa using h1),if_neg h1,aF ht hn hx (ha.old h1)];rfl
 have e2: ∀k,YI t x a k=VA x k (Ed t a x):=by
  intro k;unfold YI Ed;by_cases h1:a.ak=2
  ·rw [if_neg (by simp [h1]),if_pos h1]
  ·rw [if_pos (by simpa using h1),if_neg h1,aF ht hn hx (ha.new h1)];rfl
 have e3: ∀(n:Af) (o:List Ax),o.length≤5→YK x n o=some (o++Jx n x):=by
  intro n o ho;unfold YK Jx;by_cases h1:n≠ []∧x.aq≥2
  ·rw [if_pos (by simpa using h1),if_pos h1,AP (aX (by omega) (by simp))]
  ·rw [if_neg (by simpa using h1),if_neg h1,List.append_nil]
 have e4: ∀(k n:Af),VA x k n=some (K6 k n x++Jx n x):=by
  intro k n;unfold VA K6;by_cases h1:k≠ []∧k≠n∧x.aq≥1
  ·rw [if_pos (by simpa [and_assoc]using h1),if_pos h1,AP (aX (by simp) (by simp)),e3 _ _ (by simp)]
  ·rw [if_neg (by simpa [and_assoc]using h1),if_neg h1,e3 _ _ (by simp)]
 rw [e1,e2,e4];rfl
theorem zzC {t:Ad} {a:Bv} (hc:1≤t.ar.length) (ht:t.ab.length≤2000000) (ha:UT t a):mC t a=some (K4 t a):=by
 unfold mC K4;by_cases h1:a.ak=1
 ·have hr:=ha.new (by omega);rw [if_pos (by simpa using h1),if_pos h1,Mr ht hr.small (Qo hc hr)];rfl
 have hr:=ha.old h1;rw [if_neg (by simpa using h1),if_neg h1,Mr ht hr.small (Qo hc hr),Aa];by_cases h2:a.ak=2
 ·rw [if_pos (by simpa using h2),if_pos h2]
 have hr:=ha.new h2;rw [if_neg (by simpa using h2),if_neg h2,Mr ht hr.small (Qo hc hr)];rfl
theorem wU {t:Ad} {a:Bv} (hS:Dk t) (hg:A0 t=true) (ha:UT t a):mT t a=some (D9 t a):=by
 have hc:=Jp hg;unfold mT;rw [zzC (by omega) hS.name ha,Aa];have hl:=nP t a;exact(Ga (xs:=t.ah) (body:=fun s:Int × List Ax=>R0 t a s.1 s.2) (fun i (o:List Ax)=>(i,o)) (fun o x=>o++G9 t a x) (fun o=>some o) (fun i o=>o.length≤2+2*i)
  (fun i hi o hI=>by have hI:o.length≤2+2*i:=hI;have hw:=Bx hi (by omega);have hk:=pB t a t.ah[i];have hm:=List.getElem_mem hi;refine⟨?_,by show List.length _≤_;rw [Ap];omega⟩;show R0 t a i o=_;unfold R0;rw [if_pos (by simpa using hi),AR hi,Aa,zCe hS.name (hS.idx _ hm) (aA hg hm) ha,Aa,AP (aX (by omega) (by omega)),hw])
  (fun o _=>by show R0 t a t.ah.length o=_;unfold R0;rw [if_neg (by simp)]) (s:=K4 t a) (by omega)).1
theorem Oo {k:Int} {w:Ab} {o:List Ax} (h:o.length≤5000000):KT k w o=some ((),o++ [⟨k,w.af,w.a7,0⟩]):=by unfold KT;rw [AP (aX h (by simp))]
theorem zGH {t:Ad} {a:Bv} (hS:Dk t) (hg:A0 t=true) (ha:UT t a):Ys t a=some (D9 t a):=by
 have hc:=Jp hg;have hl:=nP t a;have h7: ∀(i:Int) (x:Aq) (n:Af) (o:List Ax),o.length≤100→Rf i x n o=some (.inl (IntKind.i64.wrap (i+1),o++Jx n x)):=by
  intro i x n o ho;unfold Rf Jx NF;by_cases h1:n= []
  ·rw [if_neg (by simp [h1]),if_neg (by simp [h1]),List.append_nil]
  rw [if_pos (by simpa using h1),Aa];by_cases h2:x.aq≥2
  ·rw [if_pos (by simpa using h2),if_pos ⟨h1,h2⟩,Oo (by omega)];rfl
  ·rw [if_neg (by simpa using h2),if_neg (fun h=>h2 h.2),List.append_nil]
 have h6: ∀(i:Int) (x:Aq) (k n:Af) (o:List Ax),o.length≤99→PE i o x k n=some (.inl (IntKind.i64.wrap (i+1),o++(K6 k n x++Jx n x))):=by
  intro i x k n o ho;unfold PE K6 lU;by_cases h1:k= []
  ·rw [if_neg (by simp [h1]),if_neg (by simp [h1]),h7 _ _ _ _ (by omega)];rfl
  rw [if_pos (by simpa using h1)];by_cases h2:k=n
  ·rw [if_neg (by simp [h2]),if_neg (by simp [h2]),h7 _ _ _ _ (by omega)];rfl
  rw [if_pos (by simpa using h2),Aa];by_cases h3:x.aq≥1
  ·rw [if_pos (by simpa using h3),if_pos ⟨h1,h2,h3⟩,Oo (by omega),Aa,h7 _ _ _ _ (by rw [Ap,AH];omega),List.append_assoc]
  ·rw [if_neg (by simpa using h3),if_neg (fun h=>h3 h.2.2),h7 _ _ _ _ (by omega)];rfl
 have JZ: ∀o:List Ax,o.length=2→Re t a o=some (t.ah.foldl (fun o x=>o++G9 t a x) o):=by
  intro o ho;unfold Re;exact(Ga (xs:=t.ah) (body:=fun s:Int × List Ax=>Rc t a s.1 s.2) (fun i (o:List Ax)=>(i,o)) (fun o x=>o++G9 t a x) (fun o=>some o) (fun i o=>o.length≤2+2*i)
   (fun i hi o hI=>by
    have hI:o.length≤2+2*i:=hI;have hw:=Bx hi (by omega);have hk:=pB t a t.ah[i];have hm:=List.getElem_mem hi;have hx:=aA hg hm;refine⟨?_,by show List.length _≤_;rw [Ap];omega⟩;show Rc t a i o=_;unfold Rc;rw [if_pos (by simpa using hi),AR hi,Aa];have e1:(if(a.ak !=1)=true then(Kl t t.ah[i].ab a.br).bind fun v20=>some (Sum.inl v20)else some (Sum.inl ([]:Ac)):Option (Ac ⊕ Option ((Int × List Ax) ⊕ Option (List Ax))))=some (.inl (E5 t a t.ah[i])):=by
     unfold E5;by_cases h1:a.ak=1
     ·rw [if_neg (by simp [h1]),if_pos h1]
     ·rw [if_pos (by simpa using h1),if_neg h1,aJ hS (hS.idx _ hm) hx (ha.old h1)];rfl
    rw [e1];show jE t a i o t.ah[i] (E5 t a t.ah[i])=_;unfold jE;have e2: ∀k,(if(a.ak !=2)=true then(Kl t t.ah[i].ab a.bw).bind fun v19=>PE i o t.ah[i] k v19 else PE i o t.ah[i] k ([]:Ac))=PE i o t.ah[i] k (Ed t a t.ah[i]):=by
     intro k;unfold Ed;by_cases h1:a.ak=2
     ·rw [if_neg (by simp [h1]),if_pos h1]
     ·rw [if_pos (by simpa using h1),if_neg h1,aJ hS (hS.idx _ hm) hx (ha.new h1)];rfl
    rw [e2,h6 _ _ _ _ _ (by omega),hw];rfl)
   (fun o _=>by show Rc t a t.ah.length o=_;unfold Rc;rw [if_neg (by simp)]) (s:=o) (by omega)).1
 have hn:t.ab.length≤2000000:=hS.name;unfold Ys D9 K4;rcases ha.kind with h1|h1|h1
 ·have hr:=ha.new (by omega);rw [if_neg (by simp [h1]),if_pos h1];show PD t a [] [] false []=_;unfold PD;rw [if_pos (by simp [h1]),Qc hn hr.small (Qo (by omega) hr),Aa];unfold Vb;rw [if_pos (by simp [h1]),Oo (by simp),Aa,Oo (by simp),Aa,JZ _ (by simp)];rfl
 ·have hr:=ha.old (by omega);rw [if_pos (by simp [h1]),if_neg (by omega),if_pos h1,Qc hn hr.small (Qo (by omega) hr),Aa,Oo (by simp),Aa];show PD t a (AO t a.br).af (AO t a.br).a7 (AO t a.br).bh _=_;unfold PD;rw [if_neg (by simp [h1])];unfold Vb;rw [if_neg (by simp [h1]),if_pos (by simp [h1]),Oo (by simp),Aa,JZ _ (by simp)];rfl
 ·have hr:=ha.old (by omega);have CR:=ha.new (by omega);have hk:(AO t a.br).af=(AO t a.bw).af:=by
   have:=ha.same h1;unfold De at this;unfold AO;rw [List.head?_eq_getElem?,List.head?_eq_getElem?];exact congrArg (fun z=>t.ab++ [47]++z) this
  rw [if_pos (by simp [h1]),if_neg (by omega),if_neg (by omega),Qc hn hr.small (Qo (by omega) hr),Aa,Oo (by simp),Aa];show PD t a (AO t a.br).af (AO t a.br).a7 (AO t a.br).bh _=_;unfold PD;rw [if_pos (by simp [h1]),Qc hn CR.small (Qo (by omega) CR),Aa];unfold Vb;rw [if_neg (by simp [h1]),if_neg (by simp [h1]),if_pos (by simp [h1]),Oo (by simp),Aa,JZ _ (by simp),hk];rfl
theorem Dw {σ α:Type} {body:σ→Option (σ ⊕ Option α)} {s:σ} {o:Option α} (h:body s=some (.inr o)):AA body s=o:=by rw [FA,h]
theorem DM {σ α:Type} {body:σ→Option (σ ⊕ Option α)} {s s':σ} (h:body s=some (.inl s')):AA body s=AA body s':=by rw [FA,h]
abbrev wk (w:Ab):Af:=w.af
theorem Z7 {α β:Type} {xs:List α} {body:Int→Option (Int ⊕ Option β)} (p:α→Bool) (hit:α→Option β) (fin:Option β)
  (hs: ∀(i:Nat) (hi:i<xs.length),body i=some (if p xs[i]=true then .inr (hit xs[i])else .inl ((i+1:Nat):Int))) (he:body xs.length=some (.inr fin)):
  AA body 0=match xs.find? p with|some x=>hit x|none=>fin:=by
 have key: ∀n q,q+n=xs.length→AA body (q:Nat)=match(xs.drop q).find? p with|some x=>hit x|none=>fin:=by
  intro n
  induction n with
  |zero=>
   intro q hq;have:q=xs.length:=by omega
   subst this;rw [List.drop_length];exact Dw he
  |succ n ih=>
   intro q hq;have Ak:q<xs.length:=by omega
   rw [List.drop_eq_getElem_cons Ak,List.find?_cons];have h1:=hs q Ak;cases hp:p xs[q]with
   |true=>rw [hp,if_pos rfl]at h1;exact Dw h1
   |false=>rw [hp,if_neg (by simp)]at h1;rw [DM h1];exact ih (q+1) (by omega)
 have:=key xs.length 0 (by omega);rw [List.drop_zero]at this;exact this
def Ol (got:List BR) (k:Af):Af × Bool × Bool:=match got.find? (fun g=>g.af==k)with|some g=>(g.a7,g.di,true)|none=>([],false,false)
def Dl (ws:List Ab) (got:List BR) (k:Af):Af × Bool × Bool:=match ws.find? (fun w=>w.af==k)with|some w=>(w.a7, !w.bh,true)|none=>Ol got k
def CX (rows:List Ab) (k:Af):BR:=match rows.find? (fun w=>w.af==k)with|some w=>⟨k,w.a7,true⟩|none=>⟨k, [],false⟩
theorem pM {ws:List Ab} {got:List BR} {k:Af} (hw:ws.length≤2000000) (hg:got.length≤2000000):lM ws got k=some (Dl ws got k):=by
 have h2:Yy got k=some (Ol got k):=by
  unfold Yy Ol;rw [Z7 (xs:=got) (body:=fun s:Int=>RP got k s) (fun g=>g.af==k) (fun g=>some (g.a7,g.di,true)) (some ([],false,false)) (fun i hi=>by
   show RP got k i=_;unfold RP;rw [if_pos (by simpa using hi),AR hi,Aa,Bx hi (by omega)];split<;>rfl) (by
   show RP got k got.length=_;unfold RP;rw [if_neg (by simp)])]
  cases got.find? (fun g=>g.af==k)<;>rfl
 unfold lM Dl;rw [Z7 (xs:=ws) (body:=fun s:Int=>RN ws got k s) (fun w=>w.af==k) (fun w=>some (w.a7, !w.bh,true)) (Yy got k) (fun i hi=>by
  show RN ws got k i=_;unfold RN;rw [if_pos (by simpa using hi),AR hi,Aa,Bx hi (by omega)];split<;>rfl) (by
  show RN ws got k ws.length=_;unfold RN;rw [if_neg (by simp)]),h2]
 cases ws.find? (fun w=>w.af==k)<;>rfl
theorem zFf {rows:List Ab} {k:Af} (hw:rows.length≤2000000):mS rows k=some (CX rows k):=by
 unfold mS CX;rw [Z7 (xs:=rows) (body:=fun s:Int=>RZ rows k s) (fun w=>w.af==k) (fun w=>some ⟨k,w.a7,true⟩) (zH k) (fun i hi=>by
  show RZ rows k i=_;unfold RZ;rw [if_pos (by simpa using hi),AR hi,Aa,Bx hi (by omega)];split<;>rfl) (by
  show RZ rows k rows.length=_;unfold RZ;rw [if_neg (by simp)])]
 cases rows.find? (fun w=>w.af==k)<;>rfl
theorem Z1 {α:Type} (lt:α→Bool) (x:α) (l:List α):Ca lt (x::l)=if lt x=true then Ca lt l+1 else 0:=by unfold Ca;rw [List.takeWhile_cons];split<;>rfl
theorem SB {x:Ab} {l:List Ab} (h:CZ (x::l)):(∀y∈l,bl x.af y.af=true)∧CZ l:=by unfold CZ Ec at h;rw [List.pairwise_cons]at h;exact h
theorem zBO {l:List Ab} {k:Af} (h: ∀y∈l,bl k y.af=true):l.find? (fun w=>w.af==k)=none:=by rw [List.find?_eq_none];intro y hy;have:=FE (h y hy);simpa using fun e=>this e.symm
theorem ztM {k:Af}: ∀{l:List Ab},CZ l→l.find? (fun w=>w.af==k)=match l[Hb l k]? with|some w=>if w.af=k then some w else none|none=>none
 | [],_=>by simp
 |x::l,h=>by
  obtain⟨h1,h2⟩:=SB h;have ih:=ztM (k:=k) h2;rw [Hb,Z1,List.find?_cons];by_cases hb:bl x.af k=true
  ·have A5:(x.af==k)=false:=by simpa using FE hb
   rw [if_pos hb,A5,List.getElem?_cons_succ];exact ih
  ·rw [if_neg hb,List.getElem?_cons_zero];by_cases he:x.af=k
   ·rw [show(x.af==k)=true by simpa using he];simp [he]
   ·rw [show(x.af==k)=false by simpa using he];simp only [he,if_false];have hk:bl k x.af=true:=Wc (by simpa using hb) he;exact zBO fun y hy=>FQ hk (h1 y hy)
theorem uR {l:List Ab} {k:Af} (hl:l.length≤2000000) (hr:CZ l): ∃i:Int,(ND l k=some (i,true)∧ ∃w,getI l i=some w∧l.find? (fun w=>w.af==k)=some w)∨(ND l k=some (i,false)∧l.find? (fun w=>w.af==k)=none):=by
 refine⟨(Hb l k:Nat), ?_⟩;rw [xU hl hr,ztM hr];by_cases hp:Hb l k<l.length
 ·rw [List.getElem?_eq_getElem hp];by_cases hk:(l[Hb l k]).af=k
  ·left;simp only [hk,decide_true,if_true];exact⟨trivial,_,AR hp,rfl⟩
  ·right;simp only [hk,decide_false,if_false];exact⟨trivial,trivial⟩
 ·rw [List.getElem?_eq_none (by omega)];right;exact⟨rfl,rfl⟩
theorem zzv {ws:List Ab} {got:List BR} {k:Af} (hw:ws.length≤2000000) (hg:got.length≤2000000) (hr:CZ ws):Zb k ws got=some (Dl ws got k):=by
 unfold Zb Dl;obtain⟨i,⟨e,w,e2,e3⟩|⟨e,e3⟩⟩:=uR (k:=k) hw hr
 ·rw [e,e3,Aa,if_pos rfl,e2];rfl
 ·rw [e,e3,Aa,if_neg (by simp)];unfold Ol;rw [Z7 (xs:=got) (body:=fun s:Int=>RJ k got s) (fun g=>g.af==k) (fun g=>some (g.a7,g.di,true)) (some ([],false,false)) (fun i hi=>by
   show RJ k got i=_;unfold RJ;rw [if_pos (by simpa using hi),AR hi,Aa,Bx hi (by omega)];split<;>rfl) (by
   show RJ k got got.length=_;unfold RJ;rw [if_neg (by simp)])]
  cases got.find? (fun g=>g.af==k)<;>rfl
theorem zDe {rows:List Ab} {k:Af} (hw:rows.length≤2000000) (hr:CZ rows):Zq rows k=some (CX rows k):=by
 unfold Zq CX;obtain⟨i,⟨e,w,e2,e3⟩|⟨e,e3⟩⟩:=uR (k:=k) hw hr
 ·rw [e,e3,Aa,if_neg (by simp),e2];rfl
 ·rw [e,e3,Aa,if_pos (by simp)]
def Ey (k:Af) (w:Ab):Bool:=bl w.af k||w.af==k
def Nt (l:List Ab) (w:Ab) (q:Nat):List Ab:=
 match(if q=0 then none else l[q-1]?)with
 |some y=>if y.af=w.af then l.set (q-1) w else l.take q++ [w]++l.drop q
 |none=>l.take q++ [w]++l.drop q
theorem zAH {w:Af} {l:List Ab} (h: ∀y∈l,bl w y.af=true):Ca (Ey w) l=0:=by
 cases l with
 |nil=>rfl
 |cons y l=>rw [Z1,if_neg];have h1:=h y (by simp);have h2:=aB h1;have h3:=FE h1;unfold Ey;rw [h2];simpa using fun e=>h3 e.symm
theorem zyT {w:Ab}: ∀{l:List Ab},CZ l→Nt l w (Ca (Ey w.af) l)=Bg wk w l
 | [],_=>by simp [Nt,Bg,Ca]
 |x::l,h=>by
  obtain⟨h1,h2⟩:=SB h;have ih:=zyT (w:=w) h2;rw [Z1,Bg];by_cases ha:bl (wk w) (wk x)=true
  ·have hl:Ey w.af x=false:=by
    have h3:=aB ha;have h4:=FE ha;unfold Ey;rw [h3];simpa using fun e=>h4 e.symm
   rw [if_pos ha,hl,if_neg (by simp)];simp [Nt]
  rw [if_neg ha];by_cases he:wk w=wk x
  ·have hl:Ey w.af x=true:=by unfold Ey;rw [show(x.af==w.af)=true by simpa using he.symm];simp
   have hz:Ca (Ey w.af) l=0:=zAH fun y hy=>by rw [show w.af=x.af from he];exact h1 y hy
   rw [if_pos he,hl,if_pos rfl,hz];simp [Nt,show x.af=w.af from he.symm]
  ·have hb:bl x.af w.af=true:=Wc (by simpa using ha) he;have hl:Ey w.af x=true:=by unfold Ey;rw [hb];rfl
   rw [if_neg he,hl,if_pos rfl,←ih];have hle:=S4 (Ey w.af) l;generalize Ca (Ey w.af) l=q at hle;unfold Nt;rw [if_neg (by omega),Nat.add_sub_cancel];cases q with
   |zero=>simp only [List.getElem?_cons_zero,if_true];rw [if_neg (fun e=>he e.symm)];simp
   |succ q=>
    rw [if_neg (by omega),Nat.add_sub_cancel,List.getElem?_cons_succ,List.getElem?_eq_getElem (by omega)];simp only;split
    ·simp
    ·simp
theorem u4 {w:Af}: ∀{l:List Ab},CZ l→ ∀(j:Nat) (hj:j<l.length),Ca (Ey w) l≤j→Ey w l[j]=false
 | [],_,j,hj,_=>by simp at hj
 |x::l,h,j,hj,hq=>by
  obtain⟨h1,h2⟩:=SB h;rw [Z1]at hq;by_cases hx:Ey w x=true
  ·rw [if_pos hx]at hq;cases j with
   |zero=>omega
   |succ j=>exact u4 h2 j (by simpa using hj) (by omega)
  ·have Df:Ey w x=false:=by simpa using hx
   cases j with
   |zero=>exact Df
   |succ j=>have hm:l[j]'(by simpa using hj)∈l:=List.getElem_mem _;have h3:=h1 _ hm;show Ey w (l[j]'(by simpa using hj))=false;unfold Ey at Df ⊢;simp only [Bool.or_eq_false_iff,beq_eq_false_iff_ne]at Df ⊢;have h4:bl w x.af=true:=Wc Df.1 Df.2;have h5:=FQ h4 h3;exact⟨aB h5,fun e=>FE h5 e.symm⟩
theorem gK {i:Nat} (h0:0<i) (h:i≤2000000):IntKind.i64.wrap ((i:Int)-1)=((i-1:Nat):Int):=by rw [A8 (by omega) (by omega)];omega
theorem Mq {l:List Ab} {w:Ab} (hl:l.length≤2000000) (hr:CZ l):G8 l w=some (Bg wk w l):=by
 have hk: ∀q:Nat,q≤l.length→YH l w (q:Int)=some (Nt l w q):=by
  intro q hq;have r1:0≤(q:Int)∧(q:Int)≤(l.length:Int)∧(l.length:Int)≤(l.length:Int):=by omega
  have GK:(Bk l (q:Int) (l.length:Int))=l.drop q:=by rw [show(l.length:Int)=((l.length:Nat):Int)from rfl,Pq,List.take_length]
  have FM:(Bk l 0 (q:Int))=l.take q:=Pt l q;have r2:((([]:List Ab).length:Int)+((l.drop q).length:Int))*40≤140737488355328∧(([]:List Ab).length:Int)+((l.drop q).length:Int)≤140737488355328:=by rw [List.length_nil,List.length_drop];omega
  have r3:0≤(0:Int)∧(0:Int)≤(q:Int)∧(q:Int)≤(l.length:Int):=by omega
  have r4:((([]:List Ab).length:Int)+((l.take q).length:Int))*40≤140737488355328∧(([]:List Ab).length:Int)+((l.take q).length:Int)≤140737488355328:=by rw [List.length_nil,List.length_take];omega
  have r5:(((l.take q).length:Int)+(([w]:List Ab).length:Int))*40≤140737488355328∧((l.take q).length:Int)+(([w]:List Ab).length:Int)≤140737488355328:=by rw [AH,List.length_take];omega
  have r6:(((l.take q++ [w]).length:Int)+((l.drop q).length:Int))*40≤140737488355328∧((l.take q++ [w]).length:Int)+((l.drop q).length:Int)≤140737488355328:=by rw [Ap,AH,List.length_take,List.length_drop];omega
  have r7:((([]:List Ab).length:Int)+((l).length:Int))*40≤140737488355328∧(([]:List Ab).length:Int)+((l).length:Int)≤140737488355328:=by rw [List.length_nil];omega
  unfold YH Nt;by_cases h0:q=0
  ·subst h0;rw [if_neg (by simp),if_pos rfl];rw [AP r1,GK,AP r2,AP r3,FM,AP r4,AP r5,AP r6]
  ·have Gg:q-1<l.length:=by omega
   rw [if_pos (by simp;omega),if_neg h0,gK (by omega) (by omega),AR Gg,Aa,List.getElem?_eq_getElem Gg];simp only;by_cases he:(l[q-1]).af=w.af
   ·rw [if_pos (by simpa using he),if_pos he,AP r7,Aa];rfl
   ·rw [if_neg (by simpa using he),if_neg he];rw [AP r1,GK,AP r2,AP r3,FM,AP r4,AP r5,AP r6]
 have hle:=S4 (Ey w.af) l;have key: ∀n j:Nat,j=Ca (Ey w.af) l+n→j≤l.length→AA (fun s:Int=>PQ l w s) (j:Int)=some (Nt l w (Ca (Ey w.af) l)):=by
  intro n
  induction n with
  |zero=>
   intro j hj dU;have QJ:j=Ca (Ey w.af) l:=by omega
   refine(Dw ?_).trans (hk _ hle);show PQ l w (j:Int)=_;unfold PQ;by_cases h0:j=0
   ·rw [if_neg (by simp [h0]),QJ]
   ·have Gg:j-1<l.length:=by omega
    have ht:=sC (lt:=Ey w.af) (l:=l) (i:=j-1) (by omega);rw [if_pos (by simp;omega),gK (by omega) (by omega),AR Gg,Aa,if_neg,QJ];unfold Ey at ht;have ht:(bl l[j-1].af w.af||l[j-1].af==w.af)=true:=ht;show¬(!(bl l[j-1].af w.af||l[j-1].af==w.af))=true;rw [ht];simp
  |succ n ih=>
   intro j hj dU;have Gg:j-1<l.length:=by omega
   have ht:=u4 (w:=w.af) hr (j-1) Gg (by omega);have e:PQ l w (j:Int)=some (.inl ((j-1:Nat):Int)):=by unfold PQ;rw [if_pos (by simp;omega),gK (by omega) (by omega),AR Gg,Aa,if_pos];have ht:(bl l[j-1].af w.af||l[j-1].af==w.af)=false:=ht;show(!(bl l[j-1].af w.af||l[j-1].af==w.af))=true;rw [ht];rfl
   rw [DM (body:=fun s:Int=>PQ l w s) e];exact ih (j-1) (by omega) (by omega)
 unfold G8;rw [key (l.length-Ca (Ey w.af) l) l.length (by omega) (Nat.le_refl _),zyT hr]
end Go.Proofs.YtbmbkgalkfmjdaaGreatDoor
end

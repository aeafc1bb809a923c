/- Parts of a proof, joined: QF3, QF4, QR, NA, NE, N5, PK, NK, NP, NF, NC, NGA, NX, N6, NSP, NSQ, NSR, NSS, NST, NKR, NSU, NSV. -/
import Derived.Test.YtalagilebkaegaaGreatR8
set_option linter.unusedVariables false
set_option linter.unusedSimpArgs false
namespace Go.Proofs.YtalagilebkaegaaGreat
section
open Go.RowKit
set_option maxRecDepth 100000
set_option maxHeartbeats 4000000
noncomputable def uF:FS:=Aq 39 [.v (.st 9)] (.v (.st 9)) (λx=>Ve x.1) [UL,zpJ,iY] [.sp [.i .i64, .l (.st 8)], .sp [.i .i64, .l (.st 6)]]
noncomputable def zmn:FS:=Aq 95 [.v (.st 6), .rf (.st 10)] (.v .b) (λx=>iB x.1 x.2.1) [] []
noncomputable def zlM:FS:=Ho zmn λ_=>by kernel_rfl
noncomputable def ztA:FS:=Aq 170 [.v (.l .s), .v (.l (.st 0))] (.v (.l .s)) (λx=>Y7 x.1 x.2.1) [UL,tV,tB,tA] []
noncomputable def jM:FS:=Aq 171 [.v (.l .s), .v .s] (.v (.i .i64)) (λx=>Vq x.1 x.2.1) [] [.sp [.i .i64, .i .i64], .inl]
noncomputable def zrP:FS:=Aq 104 [.v (.l .s), .v (.l .s), .v (.l (.st 0))] (.v (.l (.i .i64))) (λx=>YQ x.1 x.2.1 x.2.2.1) [ztA,zjj,jM] [.sp [.i .i64, .l (.i .i64)]]
noncomputable def UY:FS:=Aq 46 [.v (.st 9), .v (.st 6)] (.v (.l (.i .i64))) (λx=>L7 x.1 x.2.1) [zrP] []
noncomputable def zjP:FS:=Aq 194 [.v (.l (.i .i64)), .v (.i .i64)] (.v (.i .i64)) (λx=>gJ x.1 x.2.1) [] [.sp [.i .i64]]
noncomputable def tC:FS:=Aq 128 [.v (.l (.i .i64)), .v (.i .i64)] (.v .b) (λx=>UQ x.1 x.2.1) [zjP] []
noncomputable def zdg:FS:=Aq 121 [.v (.l (.st 2)), .v (.i .i64), .fn [.st 2, .i .i64] (.i .i64)] (.tu (.cons (.v (.i .i64)) (.cons (.v .b) .nil))) (λx=>XI x.1 x.2.1 (λy0 y1=>x.2.2.1.φ (y0,y1,()))) [] [.sp [.i .i64, .i .i64]]
noncomputable def zjS:FS:=Aq 122 [.v (.st 2), .v (.i .i64)] (.v (.i .i64)) (λx=>Pa x.1 x.2.1) [tO] []
noncomputable def zjr:FS:=Ho zjS λ_=>by kernel_rfl
noncomputable def UM:FS:=Aq 59 [.v (.st 8), .v (.i .i64)] (.tu (.cons (.v (.i .i64)) (.cons (.v .b) .nil))) (λx=>L4 x.1 x.2.1) [zdg,zjr] []
noncomputable def ztz:FS:=Aq 158 [.v (.i .i64)] (.tu (.cons (.v (.i .i64)) (.cons (.v .b) .nil))) (λx=>jL x.1) [] []
noncomputable def zgN:FS:=Ed 265 [.v (.l .s), .fn [.s] .b] (.v (.i .i64)) (λx=>F7 x.1 (λy=>x.2.1.φ (y,()))) λx r hp h=>Ga (f:=265) (t:=oS) (by kernel_rfl) (by kernel_rfl) (zCf (av:=(B4 Da.av .s)) (λ_=>rfl) h (λy b hb=>hp.2.1 (y,()) b hb))
noncomputable def zgu:FS:=Ed 218 [.v (.l .s), .fn [.s] .b] (.v (.l .s)) (λx=>Pw x.1 (λy=>x.2.1.φ (y,()))) λx r hp h=>Ga (f:=218) (t:=Xo 265 1 false (.fld (.idx (.var 5) (.var 4)) 0 1 false) [] (.str (ByteArray.mk #[]))) (by kernel_rfl) (by kernel_rfl) (zyU (av:=(B4 Da.av .s)) (λx=>⟨NL _ x,PB (by kernel_rfl) x,(λe=>nomatch e),λ_=>rfl⟩) (by decide) (λa b c d j ys x tl hj=>by simp[AV.nth,hj,B4,O5]) (λa b c d j ys x hj=>by simp[AV.nth,hj,B4,O5]) h (λi hi=>zgN.ok x i hp hi) (λy b hb=>hp.2.1 (y,()) b hb))
noncomputable def zpD:FS:=Aq 219 [.v .s, .rf (.l .s), .rf (.i .i64)] (.v .b) (λx=>YE x.1 x.2.1 x.2.2.1) [jM] []
noncomputable def zo5:FS:=Ho zpD λ_=>by kernel_rfl
noncomputable def zr7:FS:=Aq 159 [.v (.l .s), .v (.l .s), .v (.i .i64)] (.v (.l .s)) (λx=>Ze x.1 x.2.1 x.2.2.1) [UL,zgu,zo5] []
noncomputable def zeK:FS:=Ed 220 [.v (.l (.st 0)), .fn [.st 0] .b] (.v (.l (.st 0))) (λx=>Pw x.1 (λy=>x.2.1.φ (y,()))) λx r hp h=>Ga (f:=220) (t:=Xo 236 3 true (.mk (.cons (.fld (.fld (.idx (.var 5) (.var 4)) 0 3 true) 0 1 false) (.cons (.fld (.fld (.idx (.var 5) (.var 4)) 0 3 true) 1 1 false) (.cons (.fld (.fld (.idx (.var 5) (.var 4)) 0 3 true) 2 1 false) .nil)))) [(.agg (.fld (.idx (.var 5) (.var 4)) 0 3 true) 3)] (.mk (.cons (.str (ByteArray.mk #[])) (.cons (.str (ByteArray.mk #[])) (.cons (.bool false) .nil))))) (by kernel_rfl) (by kernel_rfl) (zyU (av:=(B4 Da.av (.st 0))) (λx=>⟨NL _ x,PB (by kernel_rfl) x,λ_=>⟨_,rfl⟩,λe=>nomatch e⟩) (by decide) (λa b c d j ys x tl hj=>by simp[AV.nth,hj,B4,O5]) (λa b c d j ys x hj=>by simp[AV.nth,hj,B4,O5]) h (λi hi=>s6.ok x i hp hi) (λy b hb=>hp.2.1 (y,()) b hb))
noncomputable def zoC:FS:=Aq 221 [.v (.st 0), .rf (.l .s), .rf (.i .i64)] (.v .b) (λx=>Yq x.1 x.2.1 x.2.2.1) [jM] []
noncomputable def znW:FS:=Ho zoC λ_=>by kernel_rfl
noncomputable def zq5:FS:=Aq 160 [.v (.l .s), .v (.l (.st 0)), .v (.i .i64)] (.v (.l (.st 0))) (λx=>YU x.1 x.2.1 x.2.2.1) [gF,zeK,znW] []
noncomputable def zq7:FS:=Aq 280 [.v (.l (.st 4)), .v (.l (.st 0)), .v (.i .i64)] (.tu (.cons (.v (.l (.st 4))) (.cons (.v .b) .nil))) (λx=>YV x.1 x.2.1 x.2.2.1) [tX,tW,jF,iR,zfW] [.sp [.i .i64, .l (.st 4)], .inl]
noncomputable def zk1:FS:=Aq 250 [.v (.st 8), .v (.st 7)] (.tu (.cons (.v (.st 8)) (.cons (.v .b) .nil))) (λx=>XX x.1 x.2.1) [iY,UN,zf9,UM,zfX,zq7] [.pt, .inl]
noncomputable def zlO:FS:=Aq 283 [.v (.st 1), .rf (.st 1)] (.v .b) (λx=>X1 x.1 x.2.1) [vN] []
noncomputable def zk4:FS:=Ho zlO λ_=>by kernel_rfl
noncomputable def zgd:FS:=Ed 284 [.v (.l (.st 1))] (.v (.l (.st 1))) (λx=>gH x.1) λx r hp h=>Ga (f:=284) (t:=n8 72 5) (by kernel_rfl) (by kernel_rfl) (zx8 (bytes:=72) (sz:=5) (av:=(B4 Da.av (.st 1))) (λx=>NL _ x) h)
noncomputable def znt:FS:=Aq 251 [.v (.st 8), .v (.l .s), .v (.l (.st 0))] (.v .b) (λx=>X6 x.1 x.2.1 x.2.2.1) [s7,zk4,zgd,tS] []
noncomputable def zk2:FS:=Aq 193 [.v (.st 8), .v (.st 7)] (.tu (.cons (.v (.st 8)) (.cons (.v .b) .nil))) (λx=>XY x.1 x.2.1) [iY,UM,zk1,UN,znt,uZ,zf5] []
noncomputable def X5:FS:=Aq 127 [.v (.st 9), .v (.i .i64), .v (.st 7)] (.tu (.cons (.v (.st 9)) (.cons (.v .b) .nil))) (λx=>Pf x.1 x.2.1 x.2.2.1) [zk2,uF] []
noncomputable def zlr:FS:=Aq 96 [.v (.st 9), .v (.st 6), .v (.i .i64)] (.tu (.cons (.v (.st 9)) (.cons (.v .b) .nil))) (λx=>X4 x.1 x.2.1 x.2.2.1) [UY,tC,UM,ztz,zr7,zq5,X5] []
noncomputable def zmu:FS:=Aq 97 [.v (.st 9), .v (.st 6), .v (.i .i64)] (.tu (.cons (.v (.st 9)) (.cons (.v .b) .nil))) (λx=>Yf x.1 x.2.1 x.2.2.1) [uX,UY,X5,UN] [.sp [.i .i64, .i .i64]]
noncomputable def zmr:FS:=Aq 63 [.v (.st 9), .v (.st 6)] (.tu (.cons (.v (.st 9)) (.cons (.v .b) .nil))) (λx=>Yl x.1 x.2.1) [UY,X5] []
noncomputable def zlA:FS:=Aq 64 [.v (.st 9), .v (.st 6), .v (.i .i64)] (.tu (.cons (.v (.st 9)) (.cons (.v .b) .nil))) (λx=>X2 x.1 x.2.1 x.2.2.1) [UY,UM,X5,tC] [.pt]
noncomputable def tU:FS:=Aq 40 [.v (.st 9), .v (.st 10)] (.tu (.cons (.v (.st 9)) (.cons (.v .b) .nil))) (λx=>QX x.1 x.2.1) [s8,zlM,zlr,zmu,zmr,zlA] []
noncomputable def zqE:FS:=Aq 9 [.v (.st 9), .v (.l (.st 10))] (.tu (.cons (.v (.st 9)) (.cons (.v (.l .b)) (.cons (.v .b) .nil)))) (λx=>Y0 x.1 x.2.1) [Y2,uF,tU] [.sp [.i .i64, .l .s, .l (.st 8), .l (.st 6), .l .b], .inl]
noncomputable def jH:FS:=Aq 161 [.v (.i .i64)] (.v .b) (λx=>Pu x.1) [R8] []
noncomputable def zta:FS:=Aq 222 [.v (.st 4)] (.v .b) (λx=>Y5 x.1) [Zm,R8,uW,uR] [.sp [.i .i64]]
noncomputable def uV:FS:=Aq 162 [.v (.l (.st 4))] (.v .b) (λx=>Vp x.1) [zta] [.sp [.i .i64]]
noncomputable def uA:FS:=Aq 103 [.v (.st 1)] (.v (.st 7)) (λx=>Po x.1) [] []
noncomputable def zqi:FS:=Aq 267 [.v (.l (.st 0)), .v .s] (.v .b) (λx=>U9 x.1 x.2.1) [] [.sp [.i .i64]]
noncomputable def ztZ:FS:=Aq 268 [.v (.l .s), .v .s] (.v .b) (λx=>Y9 x.1 x.2.1) [] [.sp [.i .i64]]
noncomputable def uB:FS:=Aq 223 [.v (.st 1), .v (.l .s), .v (.l (.st 0))] (.v .b) (λx=>RS x.1 x.2.1 x.2.2.1) [zqi,ztZ] [.sp [.i .i64], .sp [.i .i64]]
noncomputable def wC:FS:=Aq 225 [.v (.l (.st 4)), .v .s] (.v (.i .i64)) (λx=>VJ x.1 x.2.1) [] [.sp [.i .i64]]
noncomputable def jR:FS:=Aq 164 [.v (.l (.st 4)), .v .s] (.v (.i .i64)) (λx=>Pv x.1 x.2.1) [wC] []
noncomputable def uH:FS:=Aq 224 [.v (.st 8), .v (.l (.st 0))] (.v .b) (λx=>Vu x.1 x.2.1) [Za,wC] [.sp [.l .s, .i .i64], .sp [.i .i64, .l (.st 0)], .sp [.l .s, .i .i64]]
noncomputable def zrM:FS:=Aq 163 [.v (.st 8)] (.v .b) (λx=>R4 x.1) [uH,uA,jP,jR,uB] [.sp [.i .i64], .sp [.i .i64], .sp [.i .i64]]
noncomputable def iS:FS:=Aq 68 [.v (.st 8), .v (.i .i64)] (.tu (.cons (.v (.st 1)) (.cons (.v .b) .nil))) (λx=>Kn x.1 x.2.1) [] [.sp [.i .i64]]
noncomputable def jC:FS:=Aq 98 [.v (.st 8)] (.v .b) (λx=>Ma x.1) [jH,uV,zrM,R8,iS,jR] [.sp [.i .i64], .sp [.i .i64]]
noncomputable def jD:FS:=Aq 41 [.v (.st 9)] (.v .b) (λx=>R6 x.1) [uI,tZ,jC] [.sp [.i .i64]]
noncomputable def vA:FS:=Aq 195 [.v (.l (.st 4))] (.v (.l (.st 4))) (λx=>VF x.1) [] [.sp [.l (.st 4), .i .i64]]
noncomputable def zpa:FS:=Aq 196 [.v (.st 1)] (.v (.st 1)) (λx=>Yp x.1) [R0] []
noncomputable def uT:FS:=Aq 131 [.v (.st 8)] (.v (.st 8)) (λx=>Vo x.1) [vA,zpa] [.sp [.i .i64, .l (.st 1)]]
noncomputable def u5:FS:=Aq 66 [.v (.st 9)] (.v (.st 9)) (λx=>Vy x.1) [R0,uO,uT] [.sp [.i .i64, .l (.st 8)]]
noncomputable def tY:FS:=Aq 69 [.v (.st 8), .v (.i .i64)] (.tu (.cons (.v (.st 2)) (.cons (.v .b) .nil))) (λx=>Vj x.1 x.2.1) [] [.sp [.i .i64]]
noncomputable def zvb:FS:=Aq 186 [.v (.l (.i .i64)), .v (.i .i64)] (.v .b) (λx=>VE x.1 x.2.1) [] [.sp [.i .i64]]
noncomputable def jO:FS:=Aq 189 [.v (.i .i64), .v (.i .i64)] (.v (.i .i64)) (λx=>Ki x.1 x.2.1) [] []
noncomputable def zog:FS:=Aq 187 [.v (.st 8), .v (.i .i64)] (.tu (.cons (.v (.i .i64)) (.cons (.v .b) .nil))) (λx=>Yr x.1 x.2.1) [jC,jH,jO] []
noncomputable def zq6:FS:=Aq 188 [.v (.l .s), .v (.l .s), .v (.l (.st 0)), .v (.i .i64)] (.tu (.cons (.v (.l .s)) (.cons (.v (.l (.st 0))) .nil))) (λx=>jE x.1 x.2.1 x.2.2.1 x.2.2.2.1) [uN] [.sp [.l .s, .i .i64], .inl, .sp [.l (.st 0), .i .i64], .inl]
noncomputable def zsW:FS:=Aq 119 [.v (.st 9), .v (.st 6), .v (.st 10)] (.tu (.cons (.v (.st 7)) (.cons (.v (.i .i64)) (.cons (.v .b) .nil)))) (λx=>Zc x.1 x.2.1 x.2.2.1) [vG,tY,zvb,zog,zq6,jH,iS,jO] [.sp [.i .i64, .i .i64]]
noncomputable def zoY:FS:=Aq 245 [.v (.l (.st 1)), .v (.st 1)] (.v (.l (.st 1))) (λx=>Yw x.1 x.2.1) [] [.sp [.i .i64]]
noncomputable def zr1:FS:=Aq 246 [.v (.st 8), .v (.l .s), .v (.l (.st 0))] (.v .b) (λx=>Zh x.1 x.2.1 x.2.2.1) [uH,uB] [.sp [.i .i64]]
noncomputable def zuV:FS:=Aq 247 [.v (.l (.st 4)), .v (.l (.st 0)), .v (.i .i64)] (.tu (.cons (.v (.l (.st 4))) (.cons (.v .b) .nil))) (λx=>Zp x.1 x.2.1 x.2.2.1) [vA,uV,jR] [.sp [.i .i64, .l (.st 4)], .inl, .sp [.i .i64]]
noncomputable def zoI:FS:=Aq 249 [.v (.l (.st 2)), .v (.st 2)] (.v (.l (.st 2))) (λx=>U5 x.1 x.2.1) [] [.sp [.i .i64]]
noncomputable def uD:FS:=Aq 191 [.v (.st 8), .v (.st 7)] (.tu (.cons (.v (.st 8)) (.cons (.v .b) .nil))) (λx=>Vd x.1 x.2.1) [uT,iS,tY,R0,zoY,zr1,zuV,jO,zrW,zoI] [.inl]
noncomputable def zrs:FS:=Aq 120 [.v (.st 8), .v (.st 7)] (.tu (.cons (.v (.st 8)) (.cons (.v .b) .nil))) (λx=>YB x.1 x.2.1) [jC,jP,uD] []
noncomputable def uK:FS:=Aq 57 [.v (.st 9), .v (.st 10)] (.tu (.cons (.v (.st 9)) (.cons (.v .b) .nil))) (λx=>R3 x.1 x.2.1) [vM,zsW,zrs,u5] []
noncomputable def uL:FS:=Aq 42 [.v (.st 9), .v (.l (.st 10))] (.tu (.cons (.v (.st 9)) (.cons (.v (.l .b)) .nil))) (λx=>Vw x.1 x.2.1) [u5,uK] [.sp [.l .b, .i .i64, .l .s, .l (.st 8), .l (.st 6)], .inl]
noncomputable def zqZ:FS:=Aq 10 [.v (.st 9), .v (.l (.st 10))] (.tu (.cons (.v (.st 9)) (.cons (.v (.l .b)) (.cons (.v .b) .nil)))) (λx=>YW x.1 x.2.1) [jD,uL] []
noncomputable def zpU:FS:=Aq 11 [.v (.l .b), .v (.l .b)] (.v .b) (λx=>YM x.1 x.2.1) [] [.sp [.i .i64]]
noncomputable def zpV:FS:=Aq 43 [.v (.l .s), .v (.l .s)] (.v .b) (λx=>Vn x.1 x.2.1) [] [.sp [.i .i64]]
noncomputable def zpT:FS:=Aq 101 [.v (.l (.st 4)), .v (.l (.st 4))] (.v .b) (λx=>YJ x.1 x.2.1) [] [.sp [.i .i64], .sp [.i .i64]]
noncomputable def zrN:FS:=Aq 168 [.v (.l .s), .v (.l .s)] (.v .b) (λx=>YN x.1 x.2.1) [] [.sp [.i .i64]]
noncomputable def zr6:FS:=Aq 169 [.v (.l (.st 0)), .v (.l (.st 0))] (.v .b) (λx=>YP x.1 x.2.1) [] [.sp [.i .i64]]
noncomputable def zrO:FS:=Aq 102 [.v (.st 7), .v (.st 7)] (.v .b) (λx=>Zi x.1 x.2.1) [zrN,zr6] []
noncomputable def zpG:FS:=Aq 44 [.v (.st 8), .v (.st 8)] (.v .b) (λx=>YG x.1 x.2.1) [zpT,uA,zrO] [.sp [.i .i64], .sp [.i .i64]]
noncomputable def zou:FS:=Aq 45 [.v (.l (.st 0)), .v (.l (.st 0))] (.v .b) (λx=>Yx x.1 x.2.1) [] [.sp [.i .i64]]
noncomputable def zpB:FS:=Aq 12 [.v (.st 9), .v (.st 9)] (.v .b) (λx=>Vl x.1 x.2.1) [zpV,zou,zpG] [.sp [.i .i64], .sp [.i .i64]]
noncomputable def zfx:FS:=Ed 173 [.v (.l (.st 2)), .fn [.st 2] .b] (.v (.i .i64)) (λx=>F7 x.1 (λy=>x.2.1.φ (y,()))) λx r hp h=>Ga (f:=173) (t:=P3 3) (by kernel_rfl) (by kernel_rfl) (Wn (av:=(B4 Da.av (.st 2))) (cn:=3) (λ_=>⟨_,rfl,rfl⟩) h (λy b hb=>hp.2.1 (y,()) b hb))
noncomputable def zeL:FS:=Ed 105 [.v (.l (.st 2)), .fn [.st 2] .b] (.v .b) (λx=>D4 x.1 (λy=>x.2.1.φ (y,()))) λx r hp h=>Ga (f:=105) (t:=P2 173) (by kernel_rfl) (by kernel_rfl) (Wj h λr hr=>zfx.ok x r hp hr)
noncomputable def zqA:FS:=Aq 106 [.v (.st 2), .rf (.l (.st 2)), .rf (.i .i64)] (.v .b) (λx=>U7 x.1 x.2.1 x.2.2.1) [] []
noncomputable def zpO:FS:=Ho zqA λ_=>by kernel_rfl
noncomputable def ztS:FS:=Aq 47 [.v (.l (.st 8)), .v (.i .i64)] (.v .b) (λx=>jQ x.1 x.2.1) [zeL,zpO,UM,UN] [.sp [.i .i64, .i .i64, .l (.st 2)], .inl]
noncomputable def zpL:FS:=Aq 13 [.v (.st 9)] (.tu (.cons (.v .b) (.cons (.v .b) .nil))) (λx=>YL x.1) [Y2,UY,ztS] [.sp [.i .i64], .sp [.i .i64, .l (.st 8)]]
noncomputable def znl:FS:=Aq 279 [.rf (.st 5)] (.tu (.cons (.v (.st 7)) (.cons (.v (.st 5)) .nil))) (λx=>X8 x.1) [Ke,tF,tI,Za,Yc] [.inl, .sp [.i .i64, .l (.i .u8), .i .i64, .i .u64, .l .s]]
noncomputable def zmw:FS:=Aq 241 [.rf (.st 5)] (.tu (.cons (.v (.l (.st 7))) (.cons (.v (.st 5)) .nil))) (λx=>Yh x.1) [Ke,znl] [.sp [.l (.st 7), .i .i64, .i .i64, .l (.i .u8), .i .i64, .i .u64], .pt, .inl]
noncomputable def zuz:FS:=Aq 240 [.v (.l (.st 7))] (.tu (.cons (.v (.st 8)) (.cons (.v (.l .b)) .nil))) (λx=>Zn x.1) [uD] [.sp [.l .b, .i .i64, .i .i64, .l (.st 4), .l (.st 1), .l (.st 2)], .inl]
noncomputable def zle:FS:=Aq 185 [.rf (.st 5)] (.tu (.cons (.v (.st 8)) (.cons (.v (.st 5)) .nil))) (λx=>gP x.1) [zmw,zuz] []
noncomputable def zkk:FS:=Aq 116 [.rf (.st 5)] (.tu (.cons (.v (.st 8)) (.cons (.v (.st 5)) .nil))) (λx=>XU x.1) [zle,Ke,tJ] [.inl]
noncomputable def zmv:FS:=Aq 55 [.rf (.st 5)] (.tu (.cons (.v (.st 9)) (.cons (.v (.st 5)) .nil))) (λx=>Yj x.1) [tL,uL,Ke,zkk] [.inl]
noncomputable def zm9:FS:=Aq 15 [.v (.l (.i .u8))] (.tu (.cons (.v (.st 9)) (.cons (.v (.st 10)) .nil))) (λx=>Yd x.1) [zmv,tG] []
noncomputable def zq1:FS:=Aq 16 [.v (.st 9), .v (.st 10)] (.tu (.cons (.v (.st 9)) (.cons (.v .b) .nil))) (λx=>YY x.1 x.2.1) [Y2,tU] []
noncomputable def zrh:FS:=Aq 17 [.v (.st 9), .v (.st 10)] (.tu (.cons (.v (.st 9)) (.cons (.v .b) .nil))) (λx=>YT x.1 x.2.1) [jD,uK] []
noncomputable def zqg:FS:=Aq 18 [.v (.st 9)] (.v .b) (λx=>Y1 x.1) [jD] []
noncomputable def uU:FS:=Aq 3 [.v (.l (.i .u8)), .v (.l (.i .u8))] (.v .b) (λx=>Y4 x.1 x.2.1) [zyv,znm,zqE,zqZ,zpU,zpB,zm9,zq1,zrh,Y2,zqg,zpL] [.pt]
theorem zt9(a0 a1:List Int)(r:Bool)(h:Y4 a0 a1=some r):Co Tryz.prog B3 3 [.sl (a0.map QC), .sl (a1.map QC)] (.bool r):=uU.ok (a0,a1,()) r (by simp[uU,Aq,I5,UH]) h
theorem AJ{α:Type}{xs:List α}{i:Nat}(h:i<xs.length):getI xs (i:Int)=some xs[i]:=by simp[getI,h]
theorem oE{α:Type}{xs:List α}{i:Int}(h0:0<=i)(h:i<xs.length):∃x,getI xs i=some x/\x∈xs/\xs[i.toNat]?=some x:=by
 have hi:i.toNat<xs.length:=by omega
 exact⟨xs[i.toNat],by simp[getI,h0,hi],Ay hi,by simp[hi]⟩
theorem zxs{α:Type}{xs:List α}{i:Int}{x:α}(h:getI xs i=some x):x∈xs:=by obtain⟨h1,h2,h3⟩:=Xs h;exact List.mem_of_getElem? h3
theorem I0{q n:Nat}(h:q<n)(hn:n<=9223372036854775807):IntKind.i64.wrap ((q:Int)+1)=((q+1:Nat):Int):=by rw[CQ (by omega) (by omega)];simp
theorem A7{α:Type}{p:Prop}{k:Option α}(h:p):req p k=k:=by simp[req,h]
def GJ{α σ β:Type}(step:α->σ->Option (σ ⊕ Option β))(fin:σ->Option β):List α->σ->Option β
 | [],s=>fin s
 |x::xs,s=>match step x s with
  |none=>none
  |some (.inl s')=>GJ step fin xs s'
  |some (.inr o)=>o
def P8{σ τ β:Type}(f:σ->τ):Option (σ ⊕ Option β)->Option (τ ⊕ Option β)
 |none=>none
 |some (.inl s)=>some (.inl (f s))
 |some (.inr o)=>some (.inr o)
theorem zzS{α σ τ β:Type}{xs:List α}{body:τ->Option (τ ⊕ Option β)}(emb:Int->σ->τ)(step:α->σ->Option (σ ⊕ Option β))(fin:σ->Option β)(q0:Nat)
  (hs:∀(i:Nat) (hi:i<xs.length) (s:σ),q0<=i->body (emb i s)=P8 (emb ((i+1:Nat):Int)) (step xs[i] s)) (he:∀s,body (emb xs.length s)=some (.inr (fin s))) (s:σ) (h0:q0<=xs.length):Az body (emb q0 s)=GJ step fin (xs.drop q0) s:=by
 have key:∀(n q:Nat) (s:σ),q0<=q->q+n=xs.length->Az body (emb q s)=GJ step fin (xs.drop q) s:=by
  intro n
  induction n with
  |zero=>
   intro q s _ hq;have:q=xs.length:=by omega
   subst this;rw[EE,he s];simp[GJ]
  |succ n ih=>
   intro q s h0 hq;have Ax:q<xs.length:=by omega
   rw[EE,hs q Ax s h0,Bl Ax];rcases Ew:step xs[q] s with _|s'|o
   ·simp[GJ,Ew,P8]
   ·simp only[GJ,Ew,P8];exact ih (q+1) s' (by omega) (by omega)
   ·simp[GJ,Ew,P8]
 exact key (xs.length-q0) q0 s (AN _) (by omega)
theorem VQ{α σ τ β:Type}{xs:List α}{body:τ->Option (τ ⊕ Option β)}(emb:Int->σ->τ)(step:α->σ->Option (σ ⊕ Option β))(fin:σ->Option β)
  (hs:∀(i:Nat) (hi:i<xs.length) (s:σ),body (emb i s)=P8 (emb ((i+1:Nat):Int)) (step xs[i] s)) (he:∀s,body (emb xs.length s)=some (.inr (fin s))) (s:σ):Az body (emb 0 s)=GJ step fin xs s:=by
 have:=zzS emb step fin 0 (λi hi s _=>hs i hi s) he s (by omega);simpa using this
theorem zyM{α σ β:Type}{step:α->σ->Option (σ ⊕ Option β)}{fin:σ->Option β}{xs:List α}(p:α->Bool)(b:β)(h:∀x∈xs,∀s,step x s=some (if p x=true then .inl s else .inr (some b)))(s:σ):GJ step fin xs s=if xs.all p=true then fin s else some b:=by
 induction xs with
 |nil=>simp[GJ]
 |cons x xs ih=>
  simp only[GJ,h x (by simp) s];cases hp:p x with
  |true=>simp[hp,ih λy hy=>h y (by simp[hy])]
  |false=>simp[hp]
theorem zBd{α σ β:Type}{step:α->σ->Option (σ ⊕ Option β)}{fin:σ->Option β}{xs:List α}(f:σ->α->σ)(I:σ->Prop)(hI:∀x∈xs,∀s,I s->I (f s x))(h:∀x∈xs,∀s,I s->step x s=some (.inl (f s x))){s:σ}(hs:I s):GJ step fin xs s=fin (xs.foldl f s):=by
 induction xs generalizing s with
 |nil=>simp[GJ]
 |cons x xs ih=>simp only[GJ,h x (by simp) s hs,List.foldl_cons];exact ih (λy hy=>hI y (by simp[hy])) (λy hy=>h y (by simp[hy])) (hI x (by simp) s hs)
theorem E7{α σ τ β:Type}{xs:List α}{body:τ->Option (τ ⊕ Option β)}(emb:Int->σ->τ)(f:σ->α->σ)(fin:σ->Option β)(I:Nat->σ->Prop)
  (hs:∀(i:Nat) (hi:i<xs.length) (s:σ),I i s->body (emb i s)=some (.inl (emb ((i+1:Nat):Int) (f s xs[i])))/\I (i+1) (f s xs[i])) (he:∀s,I xs.length s->body (emb xs.length s)=some (.inr (fin s))) {s:σ} (h0:I 0 s):Az body (emb 0 s)=fin (xs.foldl f s)/\I xs.length (xs.foldl f s):=by
 have key:∀(n q:Nat) (s:σ),q+n=xs.length->I q s->Az body (emb q s)=fin ((xs.drop q).foldl f s)/\I xs.length ((xs.drop q).foldl f s):=by
  intro n
  induction n with
  |zero=>
   intro q s hq hI;have:q=xs.length:=by omega
   subst this;rw[EE,he s hI];simp[hI]
  |succ n ih=>
   intro q s hq hI;have Ax:q<xs.length:=by omega
   obtain⟨h1,h2⟩:=hs q Ax s hI;rw[EE,h1,Bl Ax,List.foldl_cons];exact ih (q+1) _ (by omega) h2
 have:=key xs.length 0 s (by omega) h0;simpa using this
theorem Kx{α:Type}{xs:List α}{p:α->Option Bool}(q:α->Bool)(hp:∀x∈xs,p x=some (q x))(hn:xs.length<=9223372036854775806):D4 xs p=some (xs.any q):=by
 have key:∀(l:List α) (i:Int),0<=i->(∀x∈l,p x=some (q x))-> ∃r,Fh p l i=some r/\decide (r>=0)=l.any q:=by
  intro l
  induction l with
  |nil=>intro i _ _;exact⟨-1,rfl,by simp⟩
  |cons x l ih=>
   intro i hi h;simp only[Fh,h x (by simp),Aa];cases hq:q x with
   |true=>exact⟨i,by simp,by simp[hq,hi]⟩
   |false=>obtain⟨r,h1,h2⟩:=ih (i+1) (by omega) λy hy=>h y (by simp[hy]);exact⟨r,by simp[h1],by simp[hq,h2]⟩
 obtain⟨r,h1,h2⟩:=key xs 0 (by omega) hp;simp[D4,F7,A7 hn,h1,h2]
theorem Jn{α:Type}{b:Nat}{xs:List α}(h:(xs.length:Int)*b<=140737488355328)(h2:(xs.length:Int)<=140737488355328):PR b xs=some xs:=A7 ⟨h,h2⟩
theorem K3{β:Type}{n:Nat}{body:Int->Option (Int ⊕ Option β)}(p:Nat->Bool)(b:β)(fin:Option β)
  (hs:∀i:Nat,i<n->body i=some (if p i=true then .inl ((i+1:Nat):Int)else .inr (some b))) (he:body n=some (.inr fin)):Az body 0=if(List.range n).all p=true then fin else some b:=by
 have h1:=VQ (xs:=List.range n) (body:=body) (λi (_:Unit)=>i) (λi _=>some (if p i=true then .inl ()else .inr (some b))) (λ_=>fin)
  (λi hi s=>by rw[List.length_range]at hi;rw[hs i hi,List.getElem_range];cases p i<;>simp[P8]) (λs=>by simpa using he) ()
 rw[zyM p b λx _ s=>rfl]at h1;exact h1
def CY{α:Type}(p:α->Bool)(l:List α):Int:=match l.findIdx? p with|some i=>(i:Int)|none=> -1
theorem ZZ{α:Type}(p:α->Bool):CY p []= -1:=rfl
theorem ZG{α:Type}(p:α->Bool)(x:α)(l:List α):CY p (x::l)=if p x=true then 0 else if CY p l= -1 then-1 else CY p l+1:=by
 unfold CY;rw[List.findIdx?_cons];cases p x with
 |true=>simp
 |false=>
  cases h:l.findIdx? p with
  |none=>simp
  |some i=>simp<;>omega
theorem PL{α:Type}(p:α->Bool)(l:List α): -1<=CY p l:=by unfold CY;split<;>omega
theorem mD{α:Type}(p:α->Bool)(l:List α):decide (CY p l>=0)=l.any p:=by
 induction l with
 |nil=>simp[ZZ]
 |cons x l ih=>
  have h1:=PL p l;rw[ZG,List.any_cons,<-ih];cases p x with
  |true=>simp
  |false=>
   by_cases h:CY p l= -1
   ·simp[h]
   ·have:CY p l>=0:=by omega
    simp[h,this];try omega
theorem Z6{α:Type}{p:α->Bool}{l:List α}(h:CY p l>=0):∃x,getI l (CY p l)=some x/\p x=true/\x∈l:=by
 induction l with
 |nil=>simp[ZZ]at h
 |cons y l ih=>
  rw[ZG]at h ⊢;cases hy:p y with
  |true=>exact⟨y,by simp[getI],hy,by simp⟩
  |false=>
   have h1:=PL p l;by_cases hm:CY p l= -1
   ·rw[hy,hm]at h;simp at h
   ·have h0:CY p l>=0:=by omega
    obtain⟨x,e1,e2,e3⟩:=ih h0;obtain⟨_,e4,e5⟩:=Xs e1;refine⟨x,?_,e2,by simp[e3]⟩;simp only[Ba,if_false,hm];unfold getI;rw[if_pos (by omega),show(CY p l+1).toNat=(CY p l).toNat+1 by omega];simpa using e5
theorem Z8{α:Type}{xs:List α}{body:Int->Option (Int ⊕ Option Int)}(p:α->Bool)(hs:∀(i:Nat) (hi:i<xs.length),body i=some (if p xs[i]=true then .inr (some (i:Int))else .inl ((i+1:Nat):Int)))(he:body xs.length=some (.inr (some (-1)))):Az body 0=some (CY p xs):=by
 have key:∀(n q:Nat),q+n=xs.length->Az body q=some (if CY p (xs.drop q)= -1 then-1 else q+CY p (xs.drop q)):=by
  intro n
  induction n with
  |zero=>
   intro q hq;have:q=xs.length:=by omega
   subst this;rw[EE,he];simp[ZZ]
  |succ n ih=>
   intro q hq;have Ax:q<xs.length:=by omega
   rw[EE,hs q Ax,Bl Ax,ZG];cases p xs[q]with
   |true=>simp
   |false=>
    simp only[Ba,if_false];rw[ih (q+1) (by omega)];have h1:=PL p (xs.drop (q+1));congr 1;by_cases hm:CY p (xs.drop (q+1))= -1
    ·simp[hm]
    ·have h2: ¬(CY p (xs.drop (q+1))+1= -1):=by omega
     simp only[hm,if_false,h2];omega
 have h:=key xs.length 0 (by omega);rw[List.drop_zero]at h;rw[show((0:Nat):Int)=0 from rfl]at h;rw[h];have h1:=PL p xs;by_cases hm:CY p xs= -1
 ·simp[hm]
 ·simp[hm]
theorem zvB{α:Type}{xs:List α}{p:α->Option Bool}(q:α->Bool)(hp:∀x∈xs,p x=some (q x))(hn:xs.length<=9223372036854775806):F7 xs p=some (CY q xs):=by
 have key:∀(l:List α) (i:Int),(∀x∈l,p x=some (q x))->Fh p l i=some (if CY q l= -1 then-1 else i+CY q l):=by
  intro l
  induction l with
  |nil=>intro i _;simp[Fh,ZZ]
  |cons x l ih=>
   intro i h;simp only[Fh,h x (by simp),Aa,ZG];cases q x with
   |true=>simp
   |false=>
    simp only[Ba,if_false];rw[ih (i+1) λy hy=>h y (by simp[hy])];have h1:=PL q l;congr 1;by_cases hm:CY q l= -1
    ·simp[hm]
    ·have h2: ¬(CY q l+1= -1):=by omega
     simp only[hm,if_false,h2];omega
 unfold F7;rw[A7 hn,key xs 0 hp];by_cases hm:CY q xs= -1
 ·simp[hm]
 ·simp[hm]
theorem zF2{α:Type}{b:Bool}{A B:Option α}{y:Option α}(ha:b=true->A=y)(hb:b=false->B=y):(if b=true then A else B)=y:=by
 cases b with
 |true=>simpa using ha rfl
 |false=>simpa using hb rfl
theorem aB{α β:Type}{o:Option α}{x:α}{f:α->Option β}(h:o=some x):o.bind f=f x:=by rw[h];rfl
theorem foldl_map{α β:Type}(f:α->β)(l:List α)(o:List β):l.foldl (λo x=>o++ [f x]) o=o++l.map f:=by
 induction l generalizing o with
 |nil=>simp
 |cons x l ih=>rw[List.foldl_cons,ih];simp
abbrev Aj:=Ag
def BJ(a b c:Int):Bool:=decide (a>=b)&&decide (a<=c)
theorem E5{a b c:Int}:BJ a b c=true↔b<=a/\a<=c:=by simp[BJ]
@[simp] theorem NT(a b c:Int):IS a b c=some (BJ a b c):=rfl
@[simp] theorem PK(a b c:Int):L9 a b c=some (BJ a b c):=rfl
def KB(b:UInt8):Bool:=(decide ((b.toNat:Int)>=97)&&decide ((b.toNat:Int)<=122))||(decide ((b.toNat:Int)>=48)&&decide ((b.toNat:Int)<=57))
def SS(s more:Aj):Bool:=s.all λb=>KB b||more.contains b
theorem zFw{a b:UInt8}:((a.toNat:Int)==(b.toNat:Int))=(a==b):=by
 rw[Bool.eq_iff_iff];simp only[AM];constructor
 ·intro h;exact UInt8.toNat_inj.1 (by omega)
 ·rintro rfl;rfl
theorem zE{α:Type}(xs:List α)(p:α->Bool)(q:Nat->Bool)(h:∀(i:Nat) (hi:i<xs.length),q i=p xs[i]):(List.range xs.length).all q=xs.all p:=by
 rw[Bool.eq_iff_iff];simp only[A3,List.mem_range];constructor
 ·intro hq x hx;obtain⟨i,hi,rfl⟩:=List.getElem_of_mem hx;rw[<-h i hi];exact hq i hi
 ·intro hp i hi;rw[h i hi];exact hp _ (Ay hi)
theorem zS{α β:Type}{xs:List α}{body:Int->Option (Int ⊕ Option β)}(p:α->Bool)(b:β)(fin:Option β)
  (hs:∀(i:Nat) (hi:i<xs.length),body i=some (if p xs[i]=true then .inl ((i+1:Nat):Int)else .inr (some b))) (he:body xs.length=some (.inr fin)):Az body 0=if xs.all p=true then fin else some b:=by
 rw[K3 (n:=xs.length) (λi=>match xs[i]? with|some x=>p x|none=>true) b fin (λi hi=>by rw[hs i hi];simp[hi]) he,
  zE xs p _ λi hi=>by simp[hi]]
theorem yB{s more:Aj}(h1:s.length<=2000000)(h2:more.length<=2000000):Vv s more=some (SS s more):=by
 unfold Vv;rw[zS (xs:=s) (λb=>KB b||more.contains b) false (some true) ?_ (by simp[iG])]
 ·unfold SS;cases(s.all λb=>KB b||more.contains b)<;>rfl
 ·intro i hi;have Ch:Az (λt:Bool × Int=>U6 more i s[i] t.1 t.2) (KB s[i],0)=some (if(KB s[i]||more.contains s[i])=true then .inl ((i+1:Nat):Int)else .inr (some false)):=by
   have hl:=VQ (xs:=more) (body:=λt:Bool × Int=>U6 more i s[i] t.1 t.2) (λk (ok:Bool)=>(ok,k)) (λb ok=>some (.inl (ok||s[i]==b))) (λok=>iD i ok)
    (λk hk ok=>by simp only[U6,Int.ofNat_lt,hk,decide_true,if_true,AJ hk,Aa,I0 hk (by omega:more.length<=_),zFw,P8];cases ok<;>simp) (λok=>by simp[U6]) (KB s[i])
   rw[zBd (λok b=>ok||s[i]==b) (λ_=>True) (λ_ _ _ _=>trivial) (λ_ _ _ _=>rfl) trivial]at hl;have hf:∀(l:Aj) (ok:Bool),l.foldl (λok b=>ok||s[i]==b) ok=(ok||l.contains s[i]):=by
    intro l
    induction l with
    |nil=>intro ok;simp
    |cons c l ih=>intro ok;rw[List.foldl_cons,ih,List.contains_cons,Bool.or_assoc]
   rw[hl,hf];unfold iD;rw[I0 hi (by omega)];cases(KB s[i]||more.contains s[i])<;>rfl
  simp only[iG,Int.ofNat_lt,hi,decide_true,if_true,AJ hi,Aa];exact Ch
theorem ztm(l:Aj)(c:UInt8):decide (Lib.indexByte l c<0)= !l.contains c:=by
 induction l with
 |nil=>rfl
 |cons b l ih=>
  unfold Lib.indexByte;have MM:=Lib.indexByte_ge l c;rw[List.contains_cons];by_cases hb:b=c
  ·subst hb;simp
  ·have h1:(b==c)=false:=by simpa using hb
   have h2:(c==b)=false:=by simpa using λh=>hb h.symm
   rw[h1,h2];simp only[Ba,if_false,Bool.false_or];rw[<-ih];by_cases hm:Lib.indexByte l c= -1
   ·simp[hm]
   ·have h3:(Lib.indexByte l c== -1)=false:=by simpa using hm
    rw[h3];simp only[Ba,if_false];rw[decide_eq_decide];omega
theorem xL{s more:Aj}(h1:s.length<=2000000):Va s more=some (SS s more):=by
 unfold Va;rw[zS (xs:=s) (λb=>KB b||more.contains b) false (some true) ?_ (by simp[gU])]
 ·unfold SS;cases(s.all λb=>KB b||more.contains b)<;>rfl
 ·intro i hi;have hu:((s[i].toNat:Int)).toNat.toUInt8=s[i]:=by simp
  simp only[gU,Int.ofNat_lt,hi,decide_true,if_true,AJ hi,Aa,gQ,gX,XO,hu,ztm,I0 hi (by omega:s.length<=_)];rw[show((decide ((s[i].toNat:Int)>=97)&&decide ((s[i].toNat:Int)<=122))||(decide ((s[i].toNat:Int)>=48)&&decide ((s[i].toNat:Int)<=57)))=KB s[i]from rfl];cases KB s[i]<;>cases more.contains s[i]<;>rfl
def CC(s:Aj):Bool:=BJ s.length 1 12&&SS s [46,47]
def Mk(s:Aj):Bool:=decide ((s.length:Int)<=24)&&SS s [46,45,44,95]
theorem S5{s:Aj}(h:s.length<=2000000):Px s=some (CC s):=by simp only[Px,NT,Aa,yB h (more:=[46,47]) (by decide),CC];cases BJ s.length 1 12<;>simp
theorem zES{s:Aj}(h:s.length<=2000000):Zd s=some (CC s):=by simp only[Zd,PK,Aa,xL h,CC];cases BJ s.length 1 12<;>simp
theorem zE3{s:Aj}(h:s.length<=2000000):Zl s=some (Mk s):=by simp only[Zl,Aa,yB h (more:=[46,45,44,95]) (by decide),Mk];by_cases hl:(s.length:Int)<=24<;>simp[hl]
theorem zEl{s:Aj}(h:s.length<=2000000):YR s=some (Mk s):=by simp only[YR,Aa,xL h,Mk];by_cases hl:(s.length:Int)<=24<;>simp[hl]
def FZ(v:Aj)(HB:Bool):Bool:=Mk v&&(!HB||v==[])
theorem lJ{v:Aj}{HB:Bool}(h:v.length<=2000000):U8 v HB=some (FZ v HB):=by simp only[U8,zEl h,Aa,FZ,bne];cases Mk v<;>cases HB<;>cases(v==[])<;>rfl
theorem nO{k v:Aj}{HB:Bool}(hk:k.length<=2000000)(hv:v.length<=2000000):Vs k v HB=some (CC k&&FZ v HB):=by simp only[Vs,S5 hk,zE3 hv,Aa,FZ];cases CC k<;>simp
def Hr(ks:List Aj)(i:Nat):Bool:=i==0||Op.bytesLess ((ks[i-1]?).getD []) ((ks[i]?).getD [])
def NY(ks:List Aj):Bool:=(List.range ks.length).all (Hr ks)
theorem V8:∀(a b:Aj),(Op.bytesLess a b||a==b)= !Op.bytesLess b a
 | [],[]=>rfl
 | [],_::_=>rfl
 |_::_,[]=>rfl
 |x::a,y::b=>by
  have ih:=V8 a b;simp only[Op.bytesLess];rcases Nat.lt_trichotomy x.toNat y.toNat with h|h|h
  ·have h1:x<y:=UInt8.lt_iff_toNat_lt.2 h;have h2: ¬y<x:=λh'=>by have:=UInt8.lt_iff_toNat_lt.1 h';omega
   have h3: ¬y=x:=λh'=>by subst h';omega
   simp[h1,h2,h3]
  ·have h0:x=y:=UInt8.toNat_inj.1 h;subst h0;have h1: ¬x<x:=λh'=>by have:=UInt8.lt_iff_toNat_lt.1 h';omega
   rw[show((x::a)==(x::b))=(a==b) by simp];simp only[h1,decide_false,Bool.false_or,beq_self_eq_true,Bool.true_and];exact ih
  ·have h1: ¬x<y:=λh'=>by have:=UInt8.lt_iff_toNat_lt.1 h';omega
   have h2:y<x:=UInt8.lt_iff_toNat_lt.2 h;have h3: ¬x=y:=λh'=>by subst h';omega
   simp[h1,h2,h3]
theorem PS{i:Nat}(h0:0<i)(h:i<=2000000):IntKind.i64.wrap ((i:Int)-1)=((i-1:Nat):Int):=by rw[CQ (by omega) (by omega)];omega
theorem oB{α:Type}(xs:List α)(p:α->Bool)(q r:Nat->Bool)(h:∀(i:Nat) (hi:i<xs.length),r i=(p xs[i]&&q i)):(List.range xs.length).all r=(xs.all p&&(List.range xs.length).all q):=by
 rw[<-zE xs p (λi=>match xs[i]? with|some x=>p x|none=>true) λi hi=>by simp[hi]];rw[Bool.eq_iff_iff];simp only[Ab,A3,List.mem_range];constructor
 ·intro hr;exact⟨λi hi=>by have:=hr i hi;rw[h i hi,Ab]at this;simpa[hi]using this.1,λi hi=>by have:=hr i hi;rw[h i hi,Ab]at this;exact this.2⟩
 ·rintro⟨h1,h2⟩ i hi;rw[h i hi,Ab];exact⟨by have:=h1 i hi;simpa[hi]using this,h2 i hi⟩
theorem kA{ks:List Aj}(h:ks.length<=2000000)(hk:∀k∈ks,k.length<=2000000):Nt ks=some (ks.all CC&&NY ks):=by
 unfold Nt NY;rw[K3 (n:=ks.length) (λi=>CC ((ks[i]?).getD [])&&Hr ks i) false (some true) ?_ (by simp[gW]),oB ks CC (Hr ks) _ λi hi=>by simp[hi]]
 ·cases(ks.all CC&&(List.range ks.length).all (Hr ks))<;>rfl
 ·intro i hi;simp only[gW,Int.ofNat_lt,hi,decide_true,if_true,AJ hi,Aa,zES (hk _ (Ay hi)),I0 hi (by omega:ks.length<=_),Br hi,Dp,Hr];by_cases h0:i=0
  ·subst h0;cases CC ks[0]<;>simp
  ·have hp:(i:Int)>0:=by omega
   have JS:i-1<ks.length:=by omega
   have hb:(i==0)=false:=by simpa using h0
   simp only[hp,decide_true,if_true,PS (Nat.pos_of_ne_zero h0) (by omega:i<=2000000),AJ JS,Aa,V8,Br JS,Dp,hb,Bool.false_or];cases CC ks[i]<;>cases Op.bytesLess ks[i-1] ks[i]<;>rfl
theorem wT{l:List Ap}(h:l.length<=2000000):Vk l=some (l.map (·.aj)):=by
 have h1:=E7 (xs:=l) (body:=λs:Int × List Aj=>QV l s.1 s.2) (λi (o:List Aj)=>(i,o)) (λo w=>o++ [w.aj]) (λo=>some o) (λq o=>o.length=q)
  (λi hi o hI=>by
   refine⟨?_,by simp[hI]⟩;show QV l i o=_;unfold QV;have hr:((o.length:Int)+(([l[i].aj]:List Aj).length:Int))*16<=140737488355328/\(o.length:Int)+(([l[i].aj]:List Aj).length:Int)<=140737488355328:=by rw[AS,hI];omega
   rw[if_pos (by simpa using hi),AJ hi,Aa,A7 hr,I0 hi (by omega)]) (λo _=>by
   show QV l l.length o=_;unfold QV;rw[if_neg (by simp)]) (s:=[]) rfl
 have hf:∀(l:List Ap) (o:List Aj),l.foldl (λo w=>o++ [w.aj]) o=o++l.map (·.aj):=by
  intro l
  induction l with
  |nil=>intro o;simp
  |cons w l ih=>intro o;rw[List.foldl_cons,ih];simp
 have h2:=h1.1;rw[hf,List.nil_append]at h2;unfold Vk;exact h2
def GC(w:Ap):Bool:=CC w.aj&&FZ w.bw w.bj
def FD(l:List Ap):Bool:=decide ((l.length:Int)<=24)&&(l.all GC&&NY (l.map (·.aj)))
def aP(l:List Ap):Prop:=l.length<=2000000/\ ∀w∈l,w.aj.length<=2000000/\w.bw.length<=2000000
theorem zAm{l:List Ap}(h:aP l):Yu l=some (FD l):=by
 have e1:D4 l (λy0_=>Ya y0_)=some (l.any λw=> !FZ w.bw w.bj):=Kx _ (λw hw=>by simp[Ya,lJ (h.2 w hw).2]) (by have:=h.1;omega);have e2:=kA (ks:=l.map (·.aj)) (by simpa using h.1) (by simp only[List.mem_map];rintro k ⟨w,hw,rfl⟩;exact(h.2 w hw).1);simp only[Yu,wT h.1,e1,e2,Aa,FD,<-List.not_all_eq_any_not];have e3:l.all GC=((l.map (·.aj)).all CC&&l.all λw=>FZ w.bw w.bj):=by
  rw[Bool.eq_iff_iff];simp only[A3,Ab,GC,List.mem_map];constructor
  ·intro h;exact⟨by rintro k ⟨w,hw,rfl⟩;exact(h w hw).1,λw hw=>(h w hw).2⟩
  ·rintro⟨h1,h2⟩ w hw;exact⟨h1 _ ⟨w,hw,rfl⟩,h2 w hw⟩
 rw[e3];generalize (l.map (·.aj)).all CC=b1;generalize NY (l.map (·.aj))=b2;generalize (l.all λw=>FZ w.bw w.bj)=b3;by_cases hl:(l.length:Int)<=24<;>cases b1<;>cases b2<;>cases b3<;>simp[hl]
theorem zAA{l:List Ap}(h:aP l):YC l=some (FD l):=by
 unfold YC;have hn:=h.1;rw[K3 (n:=l.length) (λi=>GC ((l[i]?).getD ⟨[],[],false⟩)&&Hr (l.map (·.aj)) i) false (gT l) ?_ (by simp[iE]),oB l GC (Hr (l.map (·.aj))) _ λi hi=>by simp[hi]]
 ·unfold gT FD NY;rw[List.length_map];cases(l.all GC&&(List.range l.length).all (Hr (l.map (·.aj))))<;>simp
 ·intro i hi;have hm:=h.2 _ (Ay hi);simp only[iE,Int.ofNat_lt,hi,decide_true,if_true,AJ hi,Aa,nO hm.1 hm.2,I0 hi (by omega:l.length<=_),Br hi,Dp,Hr,List.getElem?_map,Option.map_some];rw[show(CC l[i].aj&&FZ l[i].bw l[i].bj)=GC l[i]from rfl];by_cases h0:i=0
  ·subst h0;cases GC l[0]<;>simp
  ·have hp:(i:Int)>0:=by omega
   have JS:i-1<l.length:=by omega
   have hb:(i==0)=false:=by simpa using h0
   simp only[hp,decide_true,if_true,PS (Nat.pos_of_ne_zero h0) (by omega:i<=2000000),AJ JS,Aa,Br JS,Option.map_some,Dp,hb,Bool.false_or];cases GC l[i]<;>cases Op.bytesLess l[i-1].aj l[i].aj<;>rfl
abbrev bl(a b:Ag):Bool:=Op.bytesLess a b
theorem Kr:∀a:Ag,bl a a=false
 | []=>rfl
 |x::a=>by
  have h: ¬x<x:=λh=>by have:=UInt8.lt_iff_toNat_lt.1 h;omega
  show Op.bytesLess (x::a) (x::a)=false;simp only[Op.bytesLess,h,decide_false,Bool.false_or,beq_self_eq_true,Bool.true_and];exact Kr a
theorem aG(x y:UInt8)(a b:Ag):bl (x::a) (y::b)=true↔x.toNat<y.toNat\/x=y/\bl a b=true:=by show Op.bytesLess (x::a) (y::b)=true↔_;simp only[Op.bytesLess,Bool.or_eq_true,AI,Ab,AM,UInt8.lt_iff_toNat_lt]
theorem EF:∀{a b c:Ag},bl a b=true->bl b c=true->bl a c=true
 | [],_,[],_,h=>by rename_i b _;cases b<;>cases h
 | [],_,_::_,_,_=>rfl
 |_::_,[],_,h,_=>by cases h
 |_::_,_::_,[],_,h=>by cases h
 |x::a,y::b,z::c,h1,h2=>by
  rw[aG]at*;rcases h1 with h1|⟨rfl,h1⟩<;>rcases h2 with h2|⟨rfl,h2⟩
  ·exact .inl (by omega)
  ·exact .inl h1
  ·exact .inl h2
  ·exact .inr ⟨rfl,EF h1 h2⟩
theorem WA:∀a b:Ag,bl a b=true\/a=b\/bl b a=true
 | [],[]=> .inr (.inl rfl)
 | [],_::_=> .inl rfl
 |_::_,[]=> .inr (.inr rfl)
 |x::a,y::b=>by
  rw[aG,aG];rcases Nat.lt_trichotomy x.toNat y.toNat with h|h|h
  ·exact .inl (.inl h)
  ·have h0:x=y:=UInt8.toNat_inj.1 h;subst h0;rcases WA a b with h1|h1|h1
   ·exact .inl (.inr ⟨rfl,h1⟩)
   ·exact .inr (.inl (by rw[h1]))
   ·exact .inr (.inr (.inr ⟨rfl,h1⟩))
  ·exact .inr (.inr (.inl h))
theorem NJ{a b:Ag}(h:bl a b=true):bl b a=false:=by
 cases h2:bl b a with
 |false=>rfl
 |true=>have:=EF h h2;rw[Kr]at this;cases this
theorem Ik{a b:Ag}(h:bl a b=true):a≠b:=by rintro rfl;rw[Kr]at h;cases h
theorem Sk{a b:Ag}(h:bl a b=false)(hn:a≠b):bl b a=true:=by
 rcases WA a b with h1|h1|h1
 ·rw[h]at h1;cases h1
 ·exact absurd h1 hn
 ·exact h1
section
variable {α:Type} (key:α->Ag)
def DX(l:List α):Prop:=l.Pairwise λa b=>bl (key a) (key b)=true
def F4(x:α):List α->List α
 | []=> [x]
 |y::l=>if bl (key x) (key y)=true then x::y::l else if key x=key y then x::l else y::F4 x l
variable {key}
theorem DX.jo{l:List α}(h:DX key l){a b:α}(ha:a∈l)(hb:b∈l)(e:key a=key b):a=b:=by
 induction l with
 |nil=>cases ha
 |cons y l ih=>
  have h1:=List.pairwise_cons.1 h;rcases Ae.1 ha with q1|q1<;>rcases Ae.1 hb with q2|q2
  ·rw[q1,q2]
  ·exact absurd (q1▸e) (Ik (h1.1 _ q2))
  ·exact absurd (q2▸e.symm) (Ik (h1.1 _ q1))
  ·exact ih h1.2 q1 q2
theorem NG{x:α}:∀{l:List α},DX key l-> ∀y,y∈F4 key x l↔y=x\/y∈l/\key y≠key x
 | [],_,y=>by simp[F4]
 |z::l,h,y=>by
  have h1:=List.pairwise_cons.1 h;unfold F4;split
  ·rename_i hb;constructor
   ·intro hy;rcases Ae.1 hy with rfl|hy
    ·exact .inl rfl
    ·refine .inr ⟨hy,?_⟩;rcases Ae.1 hy with rfl|hy
     ·exact(Ik hb).symm
     ·exact(Ik (EF hb (h1.1 _ hy))).symm
   ·rintro(rfl|⟨hy,_⟩)
    ·simp
    ·exact List.mem_cons_of_mem _ hy
  ·rename_i hb;split
   ·rename_i he;constructor
    ·intro hy;rcases Ae.1 hy with rfl|hy
     ·exact .inl rfl
     ·exact .inr ⟨List.mem_cons_of_mem _ hy,λe=>Ik (h1.1 _ hy) (by rw[e,he])⟩
    ·rintro(rfl|⟨hy,hn⟩)
     ·simp
     ·rcases Ae.1 hy with rfl|hy
      ·exact absurd he.symm hn
      ·exact List.mem_cons_of_mem _ hy
   ·rename_i he;rw[Ae,NG h1.2];constructor
    ·rintro(rfl|rfl|⟨hy,hn⟩)
     ·exact .inr ⟨by simp,λe=>he e.symm⟩
     ·exact .inl rfl
     ·exact .inr ⟨List.mem_cons_of_mem _ hy,hn⟩
    ·rintro(rfl|⟨hy,hn⟩)
     ·exact .inr (.inl rfl)
     ·rcases Ae.1 hy with rfl|hy
      ·exact .inl rfl
      ·exact .inr (.inr ⟨hy,hn⟩)
theorem VT{x:α}:∀{l:List α},DX key l->DX key (F4 key x l)
 | [],_=>by simp[F4,DX]
 |z::l,h=>by
  have h1:=List.pairwise_cons.1 h;unfold F4;split
  ·rename_i hb;refine List.pairwise_cons.2 ⟨λy hy=> ?_,h⟩;rcases Ae.1 hy with rfl|hy
   ·exact hb
   ·exact EF hb (h1.1 _ hy)
  ·rename_i hb;split
   ·rename_i he;exact List.pairwise_cons.2 ⟨λy hy=>by rw[he];exact h1.1 _ hy,h1.2⟩
   ·rename_i he;refine List.pairwise_cons.2 ⟨λy hy=> ?_,VT h1.2⟩;rcases(NG h1.2 y).1 hy with rfl|⟨hy,_⟩
    ·exact Sk (by simpa using hb) he
    ·exact h1.1 _ hy
theorem DX.ext:∀{a b:List α},DX key a->DX key b->(∀x,x∈a↔x∈b)->a=b
 | [],[],_,_,_=>rfl
 | [],y::b,_,_,h=>absurd ((h y).2 (by simp)) (by simp)
 |x::a,[],_,_,h=>absurd ((h x).1 (by simp)) (by simp)
 |x::a,y::b,ha,hb,h=>by
  have h1:=List.pairwise_cons.1 ha;have h2:=List.pairwise_cons.1 hb;have e:x=y:=by
   rcases Ae.1 ((h x).1 (by simp))with e|hx
   ·exact e
   ·rcases Ae.1 ((h y).2 (by simp))with e|hy
    ·exact e.symm
    ·have:=EF (h1.1 _ hy) (h2.1 _ hx);rw[Kr]at this;cases this
  subst e;rw[DX.ext h1.2 h2.2 λz=> ?_];constructor
  ·intro hz;rcases Ae.1 ((h z).1 (List.mem_cons_of_mem _ hz))with rfl|Nc
   ·have:=h1.1 _ hz;rw[Kr]at this;cases this
   ·exact Nc
  ·intro hz;rcases Ae.1 ((h z).2 (List.mem_cons_of_mem _ hz))with rfl|Nc
   ·have:=h2.1 _ hz;rw[Kr]at this;cases this
   ·exact Nc
theorem DX.filter{l:List α}(h:DX key l)(p:α->Bool):DX key (l.filter p):=List.Pairwise.filter p h
theorem DX.sub{a b:List α}(h:DX key b)(hs:a.Sublist b):DX key a:=List.Pairwise.sublist hs h
theorem aA{x:α}:∀(l:List α),(F4 key x l).length<=l.length+1
 | []=>by simp[F4]
 |y::l=>by
  unfold F4;have:=aA (x:=x) l;split
  ·simp
  ·split
   ·simp
   ·simp only[Bd];omega
end
def Ek{α:Type}(r:α->α->Bool):List α->Bool
 | []=>true
 | [_]=>true
 |x::y::l=>r x y&&Ek r (y::l)
theorem Ks{α:Type}{r:α->α->Bool}(ht:∀a b c,r a b=true->r b c=true->r a c=true):∀{l:List α},Ek r l=true↔l.Pairwise λa b=>r a b=true
 | []=>by simp[Ek]
 | [_]=>by simp[Ek]
 |x::y::l=>by
  rw[Ek,Ab,Ks ht];constructor
  ·rintro⟨h1,h2⟩;refine List.pairwise_cons.2 ⟨λz hz=> ?_,h2⟩;rcases Ae.1 hz with rfl|hz
   ·exact h1
   ·exact ht _ _ _ h1 ((List.pairwise_cons.1 h2).1 z hz)
  ·intro h;have h:=List.pairwise_cons.1 h;exact⟨h.1 y (by simp),h.2⟩
theorem wQ{α:Type}{r:α->α->Bool}{l:List α}{q:Nat}(h:q+1<l.length):Ek r (l.drop q)=(r l[q] l[q+1]&&Ek r (l.drop (q+1))):=by rw[Bl (show q<l.length by omega),Bl h,Ek]
theorem mR{α β:Type}{xs:List α}{body:Int->Option (Int ⊕ Option β)}(p:α->Bool)(r:α->α->Bool)(b:β)(fin:Option β)
  (h0:∀h:0<xs.length,body 0=some (if p xs[0]=true then .inl 1 else .inr (some b)))
  (hs:∀i (h:i+1<xs.length),body ((i+1:Nat):Int)=some (if(p xs[i+1]&&r xs[i] xs[i+1])=true then .inl ((i+2:Nat):Int)else .inr (some b)))
  (he:body xs.length=some (.inr fin)):Az body 0=if(xs.all p&&Ek r xs)=true then fin else some b:=by
 have key:∀n q,q+1+n=xs.length->Az body ((q+1:Nat):Int)=if((xs.drop (q+1)).all p&&Ek r (xs.drop q))=true then fin else some b:=by
  intro n
  induction n with
  |zero=>
   intro q hq;rw[show((q+1:Nat):Int)=(xs.length:Int) by omega,EE,he];have e1:xs.drop (q+1)=[]:=List.drop_eq_nil_of_le (by omega);have e2:xs.drop q=[xs[q]]:=by rw[Bl (by omega),e1]
   rw[e1,e2];simp[Ek]
  |succ n ih=>
   intro q hq;rw[EE,hs q (by omega),wQ (by omega),Bl (show q+1<xs.length by omega),List.all_cons];have ih:=ih (q+1) (by omega);by_cases hp:(p xs[q+1]&&r xs[q] xs[q+1])=true
   ·rw[if_pos hp];simp only[Ab]at hp;simp only[hp.1,hp.2,Bool.true_and];rw[<-Bl (show q+1<xs.length by omega)];exact ih
   ·rw[if_neg hp];rw[if_neg];intro h;simp only[Ab]at h hp;exact hp ⟨h.1.1,h.2.1⟩
 by_cases hz:0<xs.length
 ·rw[EE,h0 hz];have:=key (xs.length-1) 0 (by omega);rw[List.drop_zero]at this;have e:xs=xs[0]::xs.drop 1:=by rw[<-Bl hz,List.drop_zero]
  by_cases hp:p xs[0]=true
  ·rw[if_pos hp];show Az body ((0+1:Nat):Int)=_;rw[this];have:xs.all p=(xs.drop 1).all p:=by rw[e,List.all_cons,hp,Bool.true_and];simp
   rw[this]
  ·rw[if_neg hp,if_neg];intro h;simp only[Ab,A3]at h;exact hp (h.1 _ (Ay hz))
 ·have:xs=[]:=by cases xs with|nil=>rfl|cons=>simp at hz
  subst this;rw[EE,show(0:Int)=(([]:List α).length:Int)from rfl,he];simp[Ek]
def AF{α:Type}(lt:α->Bool)(l:List α):Nat:=(l.takeWhile lt).length
theorem NM{α:Type}(lt:α->Bool):∀l:List α,AF lt l<=l.length
 | []=>by simp[AF]
 |x::l=>by have:=NM lt l;unfold AF at this ⊢;rw[List.takeWhile_cons];split<;>simp<;>omega
theorem SU{α:Type}{lt:α->Bool}:∀{l:List α} {i:Nat} (h:i<AF lt l),lt (l[i]'(Nat.lt_of_lt_of_le h (NM lt l)))=true
 |x::l,i,h=>by
  unfold AF at h;rw[List.takeWhile_cons]at h;split at h
  ·rename_i hx;cases i with
   |zero=>exact hx
   |succ i=>exact SU (l:=l) (i:=i) (by unfold AF;simpa using h)
  ·simp at h
theorem aF{α:Type}{lt:α->Bool}:∀{l:List α} (h:AF lt l<l.length),lt l[AF lt l]=false
 |x::l,h=>by
  by_cases hx:lt x=true
  ·have e:AF lt (x::l)=AF lt l+1:=by unfold AF;rw[List.takeWhile_cons,if_pos hx];rfl
   have:=aF (l:=l) (lt:=lt) (by rw[e]at h;simpa using h);simp only[e,List.getElem_cons_succ];exact this
  ·have e:AF lt (x::l)=0:=by unfold AF;rw[List.takeWhile_cons,if_neg hx];rfl
   simp only[e,List.getElem_cons_zero];simpa using hx
theorem aI{α β:Type}{xs:List α}{body:Int × Int->Option ((Int × Int) ⊕ Option β)}{fin:Int->Option β}(lt:α->Bool)(hm:∀i j (hj:j<xs.length) (hi:i<=j),lt xs[j]=true->lt xs[i]=true)
  (hs:∀i j:Nat,i<j->j<=xs.length->(h:(i+j)/2<xs.length)->body ((i:Int),(j:Int))=some (.inl (if lt xs[(i+j)/2]=true then((((i+j)/2+1:Nat):Int),(j:Int))else((i:Int),(((i+j)/2:Nat):Int)))))
  (he:∀i:Nat,i<=xs.length->body ((i:Int),(i:Int))=some (.inr (fin i))):Az body (0,(xs.length:Int))=fin (AF lt xs):=by
 have key:∀n i j:Nat,j-i<=n->i<=AF lt xs->AF lt xs<=j->j<=xs.length->Az body ((i:Int),(j:Int))=fin (AF lt xs):=by
  intro n
  induction n with
  |zero=>
   intro i j h1 h2 h3 h4;have:i=j:=by omega
   subst this;have:i=AF lt xs:=by omega
   rw[EE,he i h4,this]
  |succ n ih=>
   intro i j h1 h2 h3 h4;by_cases Ei:i=j
   ·subst Ei;have:i=AF lt xs:=by omega
    rw[EE,he i h4,this]
   ·have Ax:(i+j)/2<xs.length:=by omega
    rw[EE,hs i j (by omega) h4 Ax];by_cases hc:lt xs[(i+j)/2]=true
    ·rw[if_pos hc];refine ih _ _ (by omega) ?_ h3 h4;by_cases hp:(i+j)/2<AF lt xs
     ·omega
     ·have h5:AF lt xs<xs.length:=by omega
      have:=aF h5;rw[hm _ _ Ax (by omega) hc]at this;cases this
    ·rw[if_neg hc];refine ih _ _ (by omega) h2 ?_ (by omega);by_cases hp:(i+j)/2<AF lt xs
     ·exact absurd (SU hp) hc
     ·omega
 exact key xs.length 0 xs.length (by omega) (by omega) (NM lt xs) (AN _)
theorem nL{α:Type}{key:α->Ag}{x:α}:∀{l:List α},DX key l->F4 key x l=(match l[AF (λy=>bl (key y) (key x)) l]? with
  |some y=>if key y=key x then l.set (AF (λy=>bl (key y) (key x)) l) x else l.take (AF (λy=>bl (key y) (key x)) l)++ [x]++l.drop (AF (λy=>bl (key y) (key x)) l)
  |none=>l.take (AF (λy=>bl (key y) (key x)) l)++ [x]++l.drop (AF (λy=>bl (key y) (key x)) l))
 | [],_=>by simp[F4,AF]
 |y::l,h=>by
  have h1:=List.pairwise_cons.1 h;unfold F4;by_cases hb:bl (key x) (key y)=true
  ·have e:AF (λz=>bl (key z) (key x)) (y::l)=0:=by unfold AF;rw[List.takeWhile_cons,if_neg (by rw[NJ hb];simp)];rfl
   rw[if_pos hb,e];simp[(Ik hb).symm]
  ·rw[if_neg hb];by_cases hk:key x=key y
   ·have e:AF (λz=>bl (key z) (key x)) (y::l)=0:=by unfold AF;rw[List.takeWhile_cons,if_neg (by rw[hk,Kr];simp)];rfl
    rw[if_pos hk,e];simp[hk]
   ·have Hn:=Sk (by simpa using hb) hk;have e:AF (λz=>bl (key z) (key x)) (y::l)=AF (λz=>bl (key z) (key x)) l+1:=by unfold AF;rw[List.takeWhile_cons,if_pos Hn];rfl
    rw[if_neg hk,e,nL h1.2];simp only[List.getElem?_cons_succ];split
    ·split<;>simp
    ·simp
def Nj(a b:Aj):Int:=if bl a b=true then-1 else if a=b then 0 else 1
@[simp] theorem zB6(a:Aj):UZ a=some false:=by simp[UZ]
@[simp] theorem zDX(a:Int):Vg a=some false:=by simp[Vg]
@[simp] theorem zFV(a b:Aj):US a b=some (Nj a b):=by
 unfold US Nj;simp only[zB6,Aa,Ba,if_false];by_cases h:bl a b=true
 ·have:Op.bytesLess a b=true:=h;simp[this]
 ·have h1:Op.bytesLess a b=false:=by simpa using h
  by_cases he:a=b
  ·subst he;simp[h1]
  ·simp[h1,he]
def Nn(a b:Int):Int:=if a<b then-1 else if a=b then 0 else 1
@[simp] theorem zFS(a b:Int):UX a b=some (Nn a b):=by
 unfold UX Nn;simp only[zDX,Aa,Ba,if_false];by_cases h:a<b
 ·simp[h]
 ·by_cases he:a=b
  ·subst he;simp
  ·have:b<a:=by omega
   simp[h,he,this]
theorem zzs{a b:Aj}:decide (Nj a b<0)=bl a b:=by
 unfold Nj;cases h:bl a b with
 |true=>simp
 |false=>by_cases he:a=b<;>simp[he]
theorem qZ{a b:Aj}:(Nj a b==0)=decide (a=b):=by
 unfold Nj;cases h:bl a b with
 |true=>simp[Ik h]
 |false=>by_cases he:a=b<;>simp[he]
theorem aT{i j:Nat}(h:i<=j)(hj:j<=2000000):IntKind.i64.wrap (Int.fdiv (IntKind.u64.wrap (IntKind.i64.wrap ((i:Int)+(j:Int)))) (2^(min ((1:Int)).toNat (IntKind.bits .u64))))=(((i+j)/2:Nat):Int):=by
 have e1:IntKind.i64.wrap ((i:Int)+(j:Int))=((i+j:Nat):Int):=by rw[CQ (by omega) (by omega)];simp
 have e2:IntKind.u64.wrap ((i+j:Nat):Int)=((i+j:Nat):Int):=by simp only[IntKind.wrap,IntKind.bits,IntKind.signed];simp;omega
 have e3:(2:Int)^(min ((1:Int)).toNat (IntKind.bits .u64))=((2:Nat):Int):=rfl;rw[e1,e2,e3,Int.fdiv_eq_ediv_of_nonneg _ (by omega),<-Int.natCast_ediv,CQ (by omega) (by omega)]
theorem Be{i:Nat}(h:i<=2000000):IntKind.i64.wrap ((i:Int)+1)=((i+1:Nat):Int):=by rw[CQ (by omega) (by omega)];simp
abbrev Il(l:List Ap):Prop:=DX (λw:Ap=>w.aj) l
abbrev Mx(l:List Ap)(k:Aj):Nat:=AF (λw:Ap=>bl w.aj k) l
theorem zFM{l:List Ap}{k:Aj}(hl:l.length<=2000000)(hr:Il l):Rn l k=some (((Mx l k:Nat):Int),(match l[Mx l k]? with|some w=>decide (w.aj=k)|none=>false)):=by
 unfold Rn gC;have hc:∀w:Ap,QZ w k=some (Nj w.aj k):=λw=>by simp[QZ]
 have h:=aI (xs:=l) (body:=λs:Int × Int=>QM l k (λy0_ y1_=>QZ y0_ y1_) s.1 s.2) (fin:=λi=>gA l k (λy0_ y1_=>QZ y0_ y1_) i) (λw:Ap=>bl w.aj k)
  (λi j hj hi h=>by
   rcases Nat.lt_or_ge i j with Ei|Ei
   ·exact EF ((List.pairwise_iff_getElem.1 hr) i j (by omega) hj Ei) h
   ·have:i=j:=by omega
    subst this;exact h)
  (λi j Ei hj Hh=>by show QM l k _ (i:Int) (j:Int)=_;unfold QM;rw[if_pos (by simpa using Ei),aT (by omega) (by omega),AJ Hh,Aa];simp only[hc,Aa,zzs,Be (show(i+j)/2<=2000000 by omega)];cases bl l[(i+j)/2].aj k<;>rfl)
  (λi hi=>by show QM l k _ (i:Int) (i:Int)=_;unfold QM;rw[if_neg (by simp)])
 rw[h];unfold gA;show Option.bind (if decide (((Mx l k:Nat):Int)<l.length)=true then _ else _) _=_;by_cases hp:Mx l k<l.length
 ·rw[if_pos (by simpa using hp),AJ hp,Aa];simp only[hc,Aa,qZ,Br hp]
 ·rw[if_neg (by simpa using hp),List.getElem?_eq_none (by omega)];rfl
theorem Mc(ks:List Aj):NY ks=Ek bl ks:=by
 have key:∀n q,q+n+1=ks.length->(List.range' (q+1) n).all (Hr ks)=Ek bl (ks.drop q):=by
  intro n
  induction n with
  |zero=>intro q hq;rw[Bl (show q<ks.length by omega),List.drop_eq_nil_of_le (show ks.length<=q+1 by omega)];rfl
  |succ n ih=>intro q hq;rw[List.range'_succ,List.all_cons,ih (q+1) (by omega),wQ (show q+1<ks.length by omega)];congr 1;unfold Hr;have hb:(q+1==0)=false:=rfl;rw[hb,Bool.false_or,Nat.add_sub_cancel,Br (show q<ks.length by omega),Br (show q+1<ks.length by omega)];rfl
 cases ks with
 |nil=>rfl
 |cons k l=>unfold NY;rw[Bd,List.range_eq_range',List.range'_succ,List.all_cons];have:=key l.length 0 (by simp);rw[List.drop_zero]at this;rw[Nat.zero_add]at this;rw[show 0+1=1 from rfl,this];rfl
theorem ZA{α β:Type}(f:α->β)(r:β->β->Bool):∀l:List α,Ek r (l.map f)=Ek (λa b=>r (f a) (f b)) l
 | []=>rfl
 | [_]=>rfl
 |x::y::l=>by have:=ZA f r (y::l);simp only[List.map_cons,Ek]at this ⊢;rw[this]
theorem uE{l:List Ap}(h:FD l=true):Il l:=by unfold FD at h;simp only[Ab]at h;have h1:=h.2.2;rw[Mc,ZA]at h1;exact(Ks (r:=λa b:Ap=>bl a.aj b.aj) λa b c p q=>EF p q).1 h1
end
section
open Go.RowKit Go.Sort
set_option maxRecDepth 100000
theorem Sz{S α β σ:Type}{xs:List α}{body:S->Option (S ⊕ Option β)}(mk:Nat->σ->S)(g:σ->α->Option σ)(b:Option β)(fin:σ->Option β)(I:Nat->σ->Prop)
  (hs:∀i acc (h:i<xs.length),I i acc->body (mk i acc)=some (match g acc xs[i]with|some a=> .inl (mk (i+1) a)|none=> .inr b)/\ ∀a,g acc xs[i]=some a->I (i+1) a)
  (he:∀acc,I xs.length acc->body (mk xs.length acc)=some (.inr (fin acc))) (a0:σ) (h0:I 0 a0):Az body (mk 0 a0)=match xs.foldlM g a0 with|some a=>fin a|none=>b:=by
 have key:∀n q acc,q+n=xs.length->I q acc->Az body (mk q acc)=match(xs.drop q).foldlM g acc with|some a=>fin a|none=>b:=by
  intro n
  induction n with
  |zero=>
   intro q acc hq hi;have e:q=xs.length:=by omega
   subst e;rw[EE,he acc hi,List.drop_length];rfl
  |succ n ih=>
   intro q acc hq hi;have hl:q<xs.length:=by omega
   obtain⟨h1,h2⟩:=hs q acc hl hi;rw[EE,h1,Bl hl,List.foldlM_cons];cases hg:g acc xs[q]with
   |none=>rfl
   |some a=>exact ih (q+1) a (by omega) (h2 a hg)
 have:=key xs.length 0 a0 (by omega) h0;rwa[List.drop_zero]at this
theorem Z0{α β:Type}{xs:List α}{body:Int->Option (Int ⊕ Option β)}(p:α->Bool)(fin:Int->Option β)
  (hs:∀i (h:i<xs.length),body (i:Nat)=some (if p xs[i]=true then .inl ((i+1:Nat):Int)else .inr (fin (i:Nat)))) (he:body (xs.length:Nat)=some (.inr (fin (xs.length:Nat)))):Az body 0=fin (AF p xs:Nat):=by
 have key:∀n q,q+n=xs.length->Az body (q:Nat)=fin ((q+AF p (xs.drop q):Nat):Int):=by
  intro n
  induction n with
  |zero=>
   intro q hq;have e:q=xs.length:=by omega
   subst e;rw[EE,he,List.drop_length];rfl
  |succ n ih=>
   intro q hq;have hl:q<xs.length:=by omega
   rw[EE,hs q hl,Bl hl];by_cases hp:p xs[q]=true
   ·rw[if_pos hp];have e:AF p (xs[q]::xs.drop (q+1))=AF p (xs.drop (q+1))+1:=by unfold AF;rw[List.takeWhile_cons,if_pos hp];rfl
    rw[e,show q+(AF p (xs.drop (q+1))+1)=(q+1)+AF p (xs.drop (q+1)) by omega];exact ih (q+1) (by omega)
   ·rw[if_neg hp];have e:AF p (xs[q]::xs.drop (q+1))=0:=by unfold AF;rw[List.takeWhile_cons,if_neg hp];rfl
    rw[e];rfl
 have:=key xs.length 0 (by omega);rw[List.drop_zero,Nat.zero_add]at this;exact this
def PU(v:Df):Bool:=BJ v.af 1 100000&&FZ v.bw v.bj
def P6(a b:Df):Bool:=decide (a.af<b.af)
def Jo(l:List Df):Bool:=BJ (l.length:Int) 1 16&&(l.all PU&&Ek P6 l)
def GZ(c:Ak):Bool:=CC c.aj&&Jo c.bb
def S3(a b:Ak):Bool:=bl a.aj b.aj
def E6(l:List Ak):Bool:=decide ((l.length:Int)<=24)&&(l.all GZ&&Ek S3 l)
def Xu(c:Ak):Prop:=c.aj.length<=2000000/\c.bb.length<=2000000/\ ∀v∈c.bb,v.bw.length<=2000000
def NV(l:List Ak):Prop:=l.length<=2000000/\ ∀c∈l,Xu c
theorem zBj{c:Ak}(h:Xu c):Y6 c=some (Jo c.bb):=by
 obtain⟨_,h2,h3⟩:=h;unfold Y6 Jo;rw[mR (xs:=c.bb) (body:=λs:Int=>Pm c s) PU P6 false (jA c) (λh0=> ?_) (λi hi=> ?_) (by simp[Pm])]
 ·unfold jA;simp only[PK,Aa];cases c.bb.all PU<;>cases Ek P6 c.bb<;>cases BJ (c.bb.length:Int) 1 16<;>rfl
 ·show Pm c 0=_;unfold Pm Nu PU;rw[if_pos (by simpa using h0),show(0:Int)=((0:Nat):Int)from rfl,AJ h0,Aa];simp only[PK,Aa,lJ (h3 _ (Ay h0))];cases BJ c.bb[0].af 1 100000<;>cases FZ c.bb[0].bw c.bb[0].bj<;>rfl
 ·show Pm c ((i+1:Nat):Int)=_;unfold Pm Nu PU P6;rw[if_pos (by simp;omega),AJ hi,Aa];simp only[PK,Aa,lJ (h3 _ (Ay hi))];rw[PS (by omega) (by omega),Nat.add_sub_cancel,AJ (show i<c.bb.length by omega),I0 hi (by omega)];have e:decide (c.bb[i+1].af<=c.bb[i].af)= !decide (c.bb[i].af<c.bb[i+1].af):=by rw[<-decide_not,decide_eq_decide];omega
  simp only[Aa,e];rw[show decide (((i+1:Nat):Int)>0)=true by simp];cases BJ c.bb[i+1].af 1 100000<;>cases FZ c.bb[i+1].bw c.bb[i+1].bj<;>cases decide (c.bb[i].af<c.bb[i+1].af)<;>rfl
theorem zY{c:Ak}(h:Xu c):Y5 c=some (GZ c):=by
 obtain⟨h1,h2,h3⟩:=h;unfold Y5 GZ Jo;rw[mR (xs:=c.bb) (body:=λs:Int=>Pj c s) (λv=>BJ v.af 1 100000&&(CC c.aj&&FZ v.bw v.bj)) P6 false (iZ c) (λh0=> ?_) (λi hi=> ?_) (by simp[Pj])]
 ·unfold iZ;simp only[S5 h1,NT,Aa];cases hk:CC c.aj with
  |true=>
   have e:(c.bb.all λv=>BJ v.af 1 100000&&(true&&FZ v.bw v.bj))=c.bb.all PU:=by congr 1
   rw[e];cases c.bb.all PU<;>cases Ek P6 c.bb<;>cases BJ (c.bb.length:Int) 1 16<;>rfl
  |false=>split<;>simp
 ·show Pj c 0=_;unfold Pj Nv;rw[if_pos (by simpa using h0),show(0:Int)=((0:Nat):Int)from rfl,AJ h0,Aa];simp only[NT,Aa,nO h1 (h3 _ (Ay h0))];cases BJ c.bb[0].af 1 100000<;>cases(CC c.aj&&FZ c.bb[0].bw c.bb[0].bj)<;>rfl
 ·show Pj c ((i+1:Nat):Int)=_;unfold Pj Nv P6;rw[if_pos (by simp;omega),AJ hi,Aa];simp only[NT,Aa,nO h1 (h3 _ (Ay hi))];rw[PS (by omega) (by omega),Nat.add_sub_cancel,AJ (show i<c.bb.length by omega),I0 hi (by omega)];have e:decide (c.bb[i].af>=c.bb[i+1].af)= !decide (c.bb[i].af<c.bb[i+1].af):=by rw[<-decide_not,decide_eq_decide];omega
  simp only[Aa,e];rw[show decide (((i+1:Nat):Int)>0)=true by simp];cases BJ c.bb[i+1].af 1 100000<;>cases(CC c.aj&&FZ c.bb[i+1].bw c.bb[i+1].bj)<;>cases decide (c.bb[i].af<c.bb[i+1].af)<;>rfl
theorem yZ{α β:Type}{r:β->β->Bool}{f:α->β}:∀l:List α,Ek r (l.map f)=Ek (λa b=>r (f a) (f b)) l
 | []=>rfl
 | [_]=>rfl
 |x::y::l=>by show(r (f x) (f y)&&Ek r ((y::l).map f))=_;rw[yZ (y::l)];rfl
theorem mY{l:List Ak}(h:NV l):Vm l=some (E6 l):=by
 have hn:=h.1;unfold Vm;rw[show((0:Int),([]:List Aj))=(λ(i:Nat) (a:List Aj)=>((i:Int),a)) 0 []from rfl,Sz (xs:=l) (body:=λs:Int × List Aj=>U0 l s.1 s.2) (λ(i:Nat) (a:List Aj)=>((i:Int),a)) (λa c=>if Jo c.bb=true then some (a++ [c.aj])else none) (some false) (Ye l) (λi a=>a.length=i) (λi acc hi ha=> ?_) (λacc ha=>by simp[U0]) [] rfl]
 ·have hf:∀(xs:List Ak) (a:List Aj),xs.foldlM (m:=Option) (λa c=>if Jo c.bb=true then some (a++ [c.aj])else none) a=if(xs.all λc=>Jo c.bb)=true then some (a++xs.map (·.aj))else none:=by
   intro xs
   induction xs with
   |nil=>intro a;simp
   |cons x xs ih=>
    intro a;rw[List.foldlM_cons];by_cases hx:Jo x.bb=true
    ·rw[if_pos hx];show xs.foldlM _ (a++ [x.aj])=_;rw[ih];simp[hx]
    ·rw[if_neg hx];simp[hx]
  rw[hf];unfold E6;by_cases hg:(l.all λc=>Jo c.bb)=true
  ·rw[if_pos hg];show Ye l _=_;unfold Ye;rw[List.nil_append,kA (by simpa using hn) (λk hk=>by obtain⟨c,hc,rfl⟩:=List.mem_map.1 hk;exact(h.2 c hc).1),Mc,yZ];have e:(l.map (·.aj)).all CC=l.all GZ:=by
    rw[List.all_map,Bool.eq_iff_iff];simp only[A3]at hg ⊢;refine⟨λq c hc=> ?_,λq c hc=> ?_⟩
    ·unfold GZ;rw[hg c hc,Bool.and_true];exact q c hc
    ·have:=q c hc;unfold GZ at this;simp only[Ab]at this;exact this.1
   rw[e];show(if decide ((l.length:Int)<=24)=true then(some (l.all GZ&&Ek S3 l)).bind λv2=>some v2 else some false)=_;cases decide ((l.length:Int)<=24)<;>rfl
  ·rw[if_neg hg];have e:l.all GZ=false:=by
    cases hc:l.all GZ
    ·rfl
    ·refine absurd ?_ hg;simp only[A3]at hc ⊢;intro c q;have:=hc c q;unfold GZ at this;simp only[Ab]at this;exact this.2
   rw[e];simp
 ·have ha:acc.length=i:=ha;refine⟨?_,λa e=> ?_⟩
  ·show U0 l (i:Int) acc=_;unfold U0;rw[if_pos (by simpa using hi),AJ hi,Aa,zBj (h.2 _ (Ay hi)),Aa,I0 hi (by omega)];cases Jo l[i].bb with
   |false=>rfl
   |true=>rw[if_neg (by simp),A7 (by simp;omega)];rfl
  ·split at e
   ·cases e;simp[ha]
   ·cases e
theorem mC{l:List Ak}(h:NV l):Vp l=some (E6 l):=by
 have hn:=h.1;unfold Vp E6;rw[mR (xs:=l) (body:=λs:Int=>Pl l s) GZ S3 false (iW l) (λh0=> ?_) (λi hi=> ?_) (by simp[Pl])]
 ·unfold iW;cases l.all GZ<;>cases Ek S3 l<;>simp
 ·show Pl l 0=_;unfold Pl;rw[if_pos (by simpa using h0),show(0:Int)=((0:Nat):Int)from rfl,AJ h0,Aa,zY (h.2 _ (Ay h0)),Aa];cases GZ l[0]<;>rfl
 ·show Pl l ((i+1:Nat):Int)=_;unfold Pl S3;rw[if_pos (by simp;omega),AJ hi,Aa,zY (h.2 _ (Ay hi)),Aa];rw[PS (by omega) (by omega),Nat.add_sub_cancel,AJ (show i<l.length by omega),I0 hi (by omega)];simp only[Aa];rw[show decide (((i+1:Nat):Int)>0)=true by simp];rw[show bl l[i].aj l[i+1].aj=Op.bytesLess l[i].aj l[i+1].aj from rfl];cases GZ l[i+1]<;>cases Op.bytesLess l[i].aj l[i+1].aj<;>rfl
end
section
open Go.RowKit
set_option maxRecDepth 100000
set_option maxHeartbeats 1000000
theorem nM(a:Int):Nv a=some (BJ a 1 100000):=rfl
theorem nI(a:Int):Nu a=some (BJ a 1 100000):=rfl
theorem aJ(a:Int):Nx a=some (BJ a 1 60):=rfl
theorem zwP(a:Int):Pu a=some (BJ a 0 100000):=rfl
theorem zCk(a:Int):RZ a=some (BJ a 0 100000):=rfl
def Js(ks:List Aj):Prop:=ks.length<=2000000/\ ∀k∈ks,k.length<=2000000
def Ds(ks:List Aj):Bool:=ks.all CC&&NY ks
theorem x7{ks:List Aj}(h:Js ks):Nt ks=some (Ds ks):=kA h.1 h.2
theorem yD{ks:List Aj}{body:Int->Option (Int ⊕ Option Bool)}{fin:Option Bool}(h:Js ks)(h0:∀(hi:0<ks.length),body 0=some (if CC ks[0]=true then .inl 1 else .inr (some false)))
  (hs:∀(i:Nat) (hi:i<ks.length) (hp:0<i),body i=some (if(CC ks[i]&&Op.bytesLess ks[i-1] ks[i])=true then .inl ((i+1:Nat):Int)else .inr (some false))) (he:body ks.length=some (.inr fin)):Az body 0=if Ds ks=true then fin else some false:=by
 rw[K3 (n:=ks.length) (λi=>CC ((ks[i]?).getD [])&&Hr ks i) false fin ?_ he,oB ks CC (Hr ks) _ λi hi=>by simp[hi]]
 ·rfl
 ·intro i hi;by_cases hz:i=0
  ·subst hz;show body 0=_;rw[h0 hi];simp[hi,Hr]
  ·have JS:i-1<ks.length:=by omega
   have hb:(i==0)=false:=by simpa using hz
   rw[hs i hi (Nat.pos_of_ne_zero hz)];simp only[Br hi,Br JS,Dp,Hr,hb,Bool.false_or]
theorem zxo{ks:List Aj}(h:Js ks):Vr ks=some (Ds ks&&decide ((ks.length:Int)<4)):=by
 have hn:=h.1;unfold Vr;rw[yD (body:=λs:Int=>Ry ks s) (fin:=iJ ks) h (λhi=>by
  simp only[Ry,hi,decide_true,if_true,show((0:Int)<(ks.length:Int))from by omega,show getI ks 0=some ks[0]from AJ hi,Aa,S5 (h.2 _ (Ay hi))];cases CC ks[0]<;>rfl) (λi hi hp=>by
  have JS:i-1<ks.length:=by omega
  have Ud:(i:Int)>0:=by omega
  simp only[Ry,Int.ofNat_lt,hi,Ud,decide_true,if_true,AJ hi,Aa,S5 (h.2 _ (Ay hi)),I0 hi (by omega:ks.length<=_),PS hp (by omega:i<=2000000),AJ JS];cases CC ks[i]<;>cases Op.bytesLess ks[i-1] ks[i]<;>rfl) (by
  show Ry ks ks.length=_;unfold Ry;rw[if_neg (by simp)])]
 unfold iJ;cases Ds ks<;>rfl
theorem zCz{ks:List Aj}(h:Js ks):Y8 ks=some (Ds ks&&decide ((ks.length:Int)<=8)):=by
 have hn:=h.1;unfold Y8;rw[yD (body:=λs:Int=>Rk ks s) (fin:=iT ks) h (λhi=>by
  simp only[Rk,hi,decide_true,if_true,show((0:Int)<(ks.length:Int))from by omega,show getI ks 0=some ks[0]from AJ hi,Aa,S5 (h.2 _ (Ay hi))];cases CC ks[0]<;>rfl) (λi hi hp=>by
  have JS:i-1<ks.length:=by omega
  have Ud:(i:Int)>0:=by omega
  simp only[Rk,Int.ofNat_lt,hi,Ud,decide_true,if_true,AJ hi,Aa,S5 (h.2 _ (Ay hi)),I0 hi (by omega:ks.length<=_),PS hp (by omega:i<=2000000),AJ JS];cases CC ks[i]<;>cases Op.bytesLess ks[i-1] ks[i]<;>rfl) (by
  show Rk ks ks.length=_;unfold Rk;rw[if_neg (by simp)])]
 unfold iT;cases Ds ks<;>rfl
theorem zBz{ks:List Aj}(h:Js ks):YZ ks=some (Ds ks&&decide ((ks.length:Int)<4)):=by unfold YZ;rw[x7 h];cases decide ((ks.length:Int)<4)<;>cases Ds ks<;>rfl
structure F8(r:AP):Prop where
 reads:Js r.aq
 writes:aP r.ae
def CK(r:AP):Bool:=
 if r.az=1 then BJ r.ah 1 60&&(BJ r.af 1 100000&&(BJ r.bh 0 3&&(Ds r.aq&&(decide ((r.aq.length:Int)<=8)&&(FD r.ae&&(decide ((r.ae.length:Int)<=8)&&(decide ((r.aq.length:Int)+(r.ae.length:Int)>0)&& !r.bg)))))))
 else(r.bh==0)&&(((r.aq.length:Int)==0)&&(((r.ae.length:Int)==0)&&(
  if r.az=2\/r.az=3 then BJ r.ah 1 60&&(if r.bg=true then BJ r.af 1 100000 else r.af==0)
  else if r.az=4 then(r.ah==0)&&(BJ r.af 1 100000&& !r.bg)else false)))
theorem nU{r:AP}(h:F8 r):Vt r=some (CK r):=by
 have h1:=h.reads.1;have h2:=h.writes.1;have w:IntKind.i64.wrap ((r.aq.length:Int)+(r.ae.length:Int))=(r.aq.length:Int)+(r.ae.length:Int):=CQ (by omega) (by omega);have hj:∀b:Bool,r.az≠1->(b=true↔(r.az=2\/r.az=3))->Ym r b=some (CK r):=by
  intro b k hb;unfold Ym CK;rw[if_neg k];cases b with
  |true=>rw[if_pos rfl,if_pos (show r.az=2\/r.az=3 from hb.1 rfl)];simp only[aJ,nI,Aa];cases(r.bh==0)<;>cases((r.aq.length:Int)==0)<;>cases((r.ae.length:Int)==0)<;>cases BJ r.ah 1 60<;>cases r.bg<;>simp
  |false=>
   rw[if_neg (by simp),if_neg (show¬(r.az=2\/r.az=3)from λe=>by have:=hb.2 e;cases this)];by_cases k4:r.az=4
   ·rw[if_pos (by simpa using k4),if_pos k4];simp only[nI,Aa];cases(r.bh==0)<;>cases((r.aq.length:Int)==0)<;>cases((r.ae.length:Int)==0)<;>cases(r.ah==0)<;>simp
   ·rw[if_neg (by simpa using k4),if_neg k4];cases(r.bh==0)<;>cases((r.aq.length:Int)==0)<;>cases((r.ae.length:Int)==0)<;>rfl
 unfold Vt;by_cases k1:r.az=1
 ·rw[if_pos (by simpa using k1)];unfold CK;rw[if_pos k1];simp only[aJ,nI,PK,Aa,x7 h.reads,zAm h.writes,w];cases BJ r.ah 1 60<;>cases BJ r.af 1 100000<;>cases BJ r.bh 0 3<;>cases decide ((r.aq.length:Int)<=8)<;>cases Ds r.aq<;>cases decide ((r.ae.length:Int)<=8)<;>cases FD r.ae<;>simp
 ·rw[if_neg (by simpa using k1)];by_cases k2:r.az=2
  ·rw[if_pos (by simpa using k2)];exact hj _ k1 (by simp[k2])
  ·rw[if_neg (by simpa using k2)];exact hj _ k1 (by simp[k2])
theorem zDp{r:AP}(h:F8 r):((Mb r).bind λv1=>some v1)=some (CK r):=by
 have h1:=h.reads.1;have h2:=h.writes.1;have w:IntKind.i64.wrap ((r.aq.length:Int)+(r.ae.length:Int))=(r.aq.length:Int)+(r.ae.length:Int):=CQ (by omega) (by omega);have hj:∀b:Bool,r.az≠1->r.bh=0->(r.aq.length:Int)=0->(r.ae.length:Int)=0->(b=true↔(r.az=2\/r.az=3))->YD r b=some (CK r):=by
  intro b k e1 e2 e3 hb;unfold YD CK;rw[if_neg k,show(r.bh==0)=true by simpa using e1,show((r.aq.length:Int)==0)=true by simpa using e2,show((r.ae.length:Int)==0)=true by simpa using e3];cases b with
  |true=>rw[if_pos rfl,if_pos (show r.az=2\/r.az=3 from hb.1 rfl)];simp only[NT,nM,Aa];cases BJ r.ah 1 60<;>cases r.bg<;>simp
  |false=>
   rw[if_neg (by simp),if_neg (show¬(r.az=2\/r.az=3)from λe=>by have:=hb.2 e;cases this)];by_cases k4:r.az=4
   ·rw[if_pos (by simpa using k4),if_pos k4];simp only[nM,Aa];cases(r.ah==0)<;>simp
   ·rw[if_neg (by simpa using k4),if_neg k4];rfl
 have Ch:BJ (r.ae.length:Int) 0 8=decide ((r.ae.length:Int)<=8):=by unfold BJ;rw[show decide ((r.ae.length:Int)>=0)=true by simp];rfl
 unfold Mb;by_cases k1:r.az=1
 ·rw[if_neg (by simp[k1]),if_pos (by simpa using k1)];unfold CK;rw[if_pos k1];simp only[NT,nM,Aa,zCz h.reads,zAA h.writes,w,Ch];cases BJ r.ah 1 60<;>cases BJ r.af 1 100000<;>cases BJ r.bh 0 3<;>cases decide ((r.aq.length:Int)<=8)<;>cases Ds r.aq<;>cases decide ((r.ae.length:Int)<=8)<;>cases FD r.ae<;>simp
 ·by_cases hz:r.bh=0/\(r.aq.length:Int)=0/\(r.ae.length:Int)=0
  ·obtain⟨e1,e2,e3⟩:=hz;rw[if_neg (by rw[w];simp[e1];omega),if_neg (by simpa using k1)];by_cases k2:r.az=2
   ·rw[if_pos (by simpa using k2),hj _ k1 e1 e2 e3 (by simp[k2]),Aa]
   ·rw[if_neg (by simpa using k2),hj _ k1 e1 e2 e3 (by simp[k2]),Aa]
  ·have hc:((r.az !=1)&&((r.bh !=0)||decide (IntKind.i64.wrap ((r.aq.length:Int)+(r.ae.length:Int))>0)))=true:=by
    rw[w];by_cases e1:r.bh=0
    ·have:(r.aq.length:Int)+(r.ae.length:Int)>0:=by
      rcases Classical.em ((r.aq.length:Int)=0)with e2|e2
      ·have e3: ¬(r.ae.length:Int)=0:=λe3=>hz ⟨e1,e2,e3⟩;omega
      ·omega
     simp[k1,this]
    ·simp[k1,e1]
   rw[if_pos hc,Aa];unfold CK;rw[if_neg k1];by_cases e1:r.bh=0
   ·by_cases e2:(r.aq.length:Int)=0
    ·have e3:((r.ae.length:Int)==0)=false:=by simpa using λe3=>hz ⟨e1,e2,by simpa using e3⟩
     rw[e3];simp
    ·have e2:((r.aq.length:Int)==0)=false:=by simpa using e2
     rw[e2];simp
   ·have e1:(r.bh==0)=false:=by simpa using e1
    rw[e1];rfl
theorem aC{r:AP}(h:F8 r):Mb r=some (CK r):=by
 have e:=zDp h;cases q:Mb r with
 |none=>rw[q]at e;cases e
 |some x=>rw[q]at e;exact e
theorem Sr{σ α:Type}{body:σ->Option (σ ⊕ Option α)}{s:σ}{o:Option α}(h:body s=some (.inr o)):Az body s=o:=by rw[EE,h]
theorem lQ{σ α:Type}{body:σ->Option (σ ⊕ Option α)}{s s':σ}(h:body s=some (.inl s')):Az body s=Az body s':=by rw[EE,h]
def small(b:UInt8):Bool:= !(decide ((b.toNat:Int)<97)||decide ((b.toNat:Int)>122))
theorem zBb{xs:List Aj}{s:Aj}(h:xs.length<=2000000):XM xs s=some (CY (· ==s) xs):=by unfold XM;refine Z8 (· ==s) (λi hi=> ?_) (by simp[gI]);simp only[gI,Int.ofNat_lt,hi,decide_true,if_true,AJ hi,Aa,I0 hi (by omega:xs.length<=_)];rw[show(s==xs[i])=(xs[i]==s)from BEq.comm];cases xs[i]==s<;>rfl
theorem zEX(xs:List Aj)(s:Aj):(xs.any λx=>x==s)=xs.contains s:=by rw[List.contains_eq_any_beq];congr 1;funext x;exact BEq.comm
theorem zEm{xs:List Aj}{s:Aj}(h:xs.length<=2000000):XN xs s=some (xs.contains s):=by simp only[XN,zBb h,Aa,mD,zEX]
theorem Lc{i:Nat}(h0:0<i)(h:i<=2000000):IntKind.i64.wrap ((i:Int)-1)=((i-1:Nat):Int):=by rw[CQ (by omega) (by omega)];omega
theorem zE2{α β:Type}{xs:List α}{body:Int->Option (Int ⊕ Option β)}(p:α->Bool)(MQ:α->Option β)(fin:Option β)
  (hs:∀(i:Nat) (hi:i<xs.length),body i=some (if p xs[i]=true then .inr (MQ xs[i])else .inl ((i+1:Nat):Int))) (he:body xs.length=some (.inr fin)):
  Az body 0=match xs.find? p with|some x=>MQ x|none=>fin:=by
 have key:∀n q,q+n=xs.length->Az body (q:Nat)=match(xs.drop q).find? p with|some x=>MQ x|none=>fin:=by
  intro n
  induction n with
  |zero=>
   intro q hq;have:q=xs.length:=by omega
   subst this;rw[List.drop_length];exact Sr he
  |succ n ih=>
   intro q hq;have Ax:q<xs.length:=by omega
   rw[Bl Ax,List.find?_cons];have h1:=hs q Ax;cases hp:p xs[q]with
   |true=>rw[hp,if_pos rfl]at h1;exact Sr h1
   |false=>rw[hp,if_neg (by simp)]at h1;rw[lQ h1];exact ih (q+1) (by omega)
 have:=key xs.length 0 (by omega);rw[List.drop_zero]at this;exact this
theorem zzF{α:Type}(lt:α->Bool)(x:α)(l:List α):AF lt (x::l)=if lt x=true then AF lt l+1 else 0:=by unfold AF;rw[List.takeWhile_cons];split<;>rfl
theorem zyP{x:Ap}{l:List Ap}(h:Il (x::l)):(∀y∈l,bl x.aj y.aj=true)/\Il l:=by unfold Il DX at h;rw[List.pairwise_cons]at h;exact h
theorem zz9{l:List Ap}{k:Aj}(h:∀y∈l,bl k y.aj=true):l.find? (λw=>w.aj==k)=none:=by rw[List.find?_eq_none];intro y hy;have:=Ik (h y hy);simpa using λe=>this e.symm
theorem xH{k:Aj}:∀{l:List Ap},Il l->l.find? (λw=>w.aj==k)=match l[Mx l k]? with|some w=>if w.aj=k then some w else none|none=>none
 | [],_=>by simp
 |x::l,h=>by
  obtain⟨h1,h2⟩:=zyP h;have ih:=xH (k:=k) h2;rw[Mx,zzF,List.find?_cons];by_cases hb:bl x.aj k=true
  ·have BB:(x.aj==k)=false:=by simpa using Ik hb
   rw[if_pos hb,BB,List.getElem?_cons_succ];exact ih
  ·rw[if_neg hb,List.getElem?_cons_zero];by_cases he:x.aj=k
   ·rw[show(x.aj==k)=true by simpa using he];simp[he]
   ·rw[show(x.aj==k)=false by simpa using he];simp only[he,if_false];have hk:bl k x.aj=true:=Sk (by simpa using hb) he;exact zz9 λy hy=>EF hk (h1 y hy)
theorem zDQ{l:List Ap}{k:Aj}(hl:l.length<=2000000)(hr:Il l):∃i:Int,(Rn l k=some (i,true)/\ ∃w,getI l i=some w/\l.find? (λw=>w.aj==k)=some w)\/(Rn l k=some (i,false)/\l.find? (λw=>w.aj==k)=none):=by
 refine⟨(Mx l k:Nat),?_⟩;rw[zFM hl hr,xH hr];by_cases hp:Mx l k<l.length
 ·rw[Br hp];by_cases hk:(l[Mx l k]).aj=k
  ·left;simp only[hk,decide_true,if_true];exact⟨trivial,_,AJ hp,rfl⟩
  ·right;simp only[hk,decide_false,if_false];exact⟨trivial,trivial⟩
 ·rw[List.getElem?_eq_none (by omega)];right;exact⟨rfl,rfl⟩
section
variable {α:Type} {key:α->Int}
def DN(key:α->Int)(x:α):List α->List α
 | []=> [x]
 |y::l=>if key x<key y then x::y::l else y::DN key x l
def Cd(key:α->Int)(l:List α):Prop:=l.Pairwise λa b=>key a<key b
def A0(key:α->Int)(t:Int)(y:α):Bool:=decide (key y<t)
theorem VH(lt:α->Bool)(x:α)(l:List α):AF lt (x::l)=if lt x=true then AF lt l+1 else 0:=by unfold AF;rw[List.takeWhile_cons];split<;>rfl
theorem ZW{x:α}:∀{l:List α},(∀y∈l,key y≠key x)->DN key x l=l.take (AF (A0 key (key x)) l)++ [x]++l.drop (AF (A0 key (key x)) l)
 | [],_=>by simp[DN,AF]
 |y::l,h=>by
  have ih:=ZW (x:=x) (l:=l) λz hz=>h z (by simp[hz]);have hy:=h y (by simp);rw[VH,DN];by_cases hb:key x<key y
  ·have e:A0 key (key x) y=false:=by unfold A0;simp;omega
   rw[if_pos hb,e];simp
  ·have e:A0 key (key x) y=true:=by unfold A0;simp;omega
   rw[if_neg hb,e,if_pos rfl,ih];simp
theorem Jm{x z:α}:∀{l:List α},z∈DN key x l↔z=x\/z∈l
 | []=>by simp[DN]
 |y::l=>by
  rw[DN];split
  ·simp
  ·rw[Ae,Jm,Ae];constructor
   ·rintro(h|h|h)<;>simp[h]
   ·rintro(h|h|h)<;>simp[h]
theorem nH{x:α}:∀(l:List α),(DN key x l).length=l.length+1
 | []=>rfl
 |y::l=>by
  rw[DN];split
  ·rfl
  ·simp[nH l]
theorem Cd.ins{x:α}:∀{l:List α},Cd key l->(∀y∈l,key y≠key x)->Cd key (DN key x l)
 | [],_,_=>by simp[DN,Cd]
 |y::l,h,hx=>by
  obtain⟨h1,h2⟩:=List.pairwise_cons.1 h;rw[DN];split
  ·rename_i hb;refine List.pairwise_cons.2 ⟨λz hz=> ?_,h⟩;rcases Ae.1 hz with rfl|hz
   ·exact hb
   ·have:=h1 z hz;omega
  ·rename_i hb;refine List.pairwise_cons.2 ⟨λz hz=> ?_,Cd.ins h2 λz hz=>hx z (by simp[hz])⟩;have hy:=hx y (by simp);rcases Jm.1 hz with rfl|hz
   ·omega
   ·exact h1 z hz
theorem Cd.filter{l:List α}(h:Cd key l)(p:α->Bool):Cd key (l.filter p):=List.Pairwise.filter p h
theorem Cd.tail{x:α}{l:List α}(h:Cd key (x::l)):Cd key l:=(List.pairwise_cons.1 h).2
theorem Cd.mono{l:List α}(h:Cd key l){i j:Nat}(hj:j<l.length)(hi:i<j):key l[i]<key l[j]:=List.pairwise_iff_getElem.1 h i j (by omega) hj hi
theorem R9{t:Int}:∀{l:List α},Cd key l->l.find? (λy=>key y==t)=match l[AF (A0 key t) l]? with|some y=>if key y=t then some y else none|none=>none
 | [],_=>by simp
 |x::l,h=>by
  obtain⟨h1,h2⟩:=List.pairwise_cons.1 h;have ih:=R9 (t:=t) h2;rw[VH,List.find?_cons];by_cases hb:key x<t
  ·have e:A0 key t x=true:=by unfold A0;simpa using hb
   have BB:(key x==t)=false:=by simp;omega
   rw[e,if_pos rfl,BB,List.getElem?_cons_succ];exact ih
  ·have e:A0 key t x=false:=by unfold A0;simpa using hb
   rw[e,if_neg (by simp),List.getElem?_cons_zero];by_cases he:key x=t
   ·rw[show(key x==t)=true by simpa using he];simp[he]
   ·rw[show(key x==t)=false by simpa using he];simp only[he,if_false];rw[List.find?_eq_none];intro y hy;have:=h1 y hy;simp;omega
theorem xG{t:Int}{l:List α}(h:Cd key l):∀i j (hj:j<l.length) (hi:i<=j),A0 key t l[j]=true->A0 key t l[i]=true:=by
 intro i j hj hi Ax;unfold A0 at Ax ⊢;simp only[AI]at Ax ⊢;by_cases he:i=j
 ·subst he;exact Ax
 ·have:=h.mono hj (show i<j by omega);omega
theorem xQ{t:Int}:∀{l:List α} {i:Nat},Cd key l->(hi:i<l.length)->key l[i]=t->l.take i++l.drop (i+1)=l.filter λy=>decide (key y≠t)
 | [],i,_,hi,_=>by simp at hi
 |x::l,0,h,_,hk=>by
  obtain⟨h1,_⟩:=List.pairwise_cons.1 h;have hk:key x=t:=hk;rw[List.filter_cons,if_neg (by simpa using hk)];symm;rw[List.filter_eq_self.2]
  ·rfl
  ·intro y hy;have:=h1 y hy;simp;omega
 |x::l,i+1,h,hi,hk=>by
  obtain⟨h1,h2⟩:=List.pairwise_cons.1 h;have IF:i<l.length:=by simpa using hi
  have Cw:key l[i]=t:=by simpa using hk
  have hx:key x≠t:=by have:=h1 _ (Ay IF);omega
  rw[List.filter_cons,if_pos (by simpa using hx),List.take_succ_cons,List.cons_append,List.drop_succ_cons,xQ h2 IF Cw]
theorem zpC{t:Int}{l:List α}(h:l.find? (λy=>key y==t)=none):(l.filter λy=>decide (key y≠t))=l:=by rw[List.filter_eq_self];intro y hy;have:=List.find?_eq_none.1 h y hy;simpa using this
theorem Cd.len{lo hi:Int}:∀{l:List α},Cd key l->(∀y∈l,lo<=key y/\key y<=hi)->(l.length:Int)<=max 0 (hi-lo+1)
 | [],_,_=>by simp;omega
 |x::l,h,hb=>by
  obtain⟨h1,h2⟩:=List.pairwise_cons.1 h;have hx:=hb x (by simp);have:=Cd.len (lo:=key x+1) (hi:=hi) h2 λy hy=>⟨by have:=h1 y hy;omega,(hb y (by simp[hy])).2⟩
  rw[Bd];omega
end
abbrev ck(c:Ak):Aj:=c.aj
abbrev G3(l:List Ak):Prop:=DX ck l
def Ey(l:List Ak)(k:Aj):Option Ak:=l.find? λc=>c.aj==k
def UD(c:Ak):Int:=match c.bb.getLast? with|some v=>v.af|none=>0
def Cj(l:List Ak)(k:Aj):Int:=match Ey l k with|some c=>UD c|none=>0
def KD(l:List Ak)(k:Aj):List Df:=match Ey l k with|some c=>c.bb|none=> []
def Is(l:List Ak)(k:Aj)(v:Df):List Ak:=F4 ck ⟨k,KD l k++ [v]⟩ l
def Hx(t:Int)(l:List Ak)(w:Ap):Option (List Ak):=if t<=Cj l w.aj then none else some (Is l w.aj ⟨t,w.bw,w.bj⟩)
def GF(t:Int)(l:List Ak)(ws:List Ap):Option (List Ak):=ws.foldlM (Hx t) l
def L2(l:List Ak)(ws:List Ap)(t:Int):Option (List Ak):=match GF t l ws with|some o=>if E6 o=true then some o else none|none=>none
abbrev hk(h:AG):Int:=h.ah
abbrev tk(t:Bz):Int:=t.ah
def Cq(s:Ai)(t:Int):Option AG:=s.ab.find? λh=>hk h==t
def BV(s:Ai)(t:Int):Option Bz:=s.au.find? λh=>tk h==t
def Ef(h:AG):AP:={az:=1,ah:=h.ah,af:=h.af,bh:=h.bh,aq:=h.aq,ae:=h.ae,bg:=false}
def Im(ws:List Ap)(k:Aj):Bool:=ws.any λw=>w.aj==k
def B9(ws:List Ap)(rs:List Aj)(os:List Ap):Bool:=ws.any λw=>Im os w.aj||rs.contains w.aj
def C4(h:AG)(rs:List Aj)(ws:List Ap):Bool:=B9 h.ae rs ws||B9 ws h.aq h.ae
theorem zzg{a b:Int}:decide (Nn a b<0)=decide (a<b):=by
 unfold Nn;by_cases h:a<b
 ·simp[h]
 ·by_cases he:a=b<;>simp[h,he]
theorem zyF{a b:Int}:(Nn a b==0)=decide (a=b):=by
 unfold Nn;by_cases h:a<b
 ·have: ¬a=b:=by omega
  simp[h,this]
 ·by_cases he:a=b<;>simp[h,he]
theorem zFN{l:List Ak}{k:Aj}(hl:l.length<=2000000)(hr:G3 l):XK l k (λy0_ y1_=>Pp y0_ y1_)=some (((AF (λw:Ak=>bl w.aj k) l:Nat):Int),(match l[AF (λw:Ak=>bl w.aj k) l]? with|some w=>decide (w.aj=k)|none=>false)):=by
 unfold XK;have hc:∀w:Ak,Pp w k=some (Nj w.aj k):=λw=>by simp[Pp]
 have h:=aI (xs:=l) (body:=λs:Int × Int=>QN l k (λy0_ y1_=>Pp y0_ y1_) s.1 s.2) (fin:=λi=>gB l k (λy0_ y1_=>Pp y0_ y1_) i) (λw:Ak=>bl w.aj k)
  (λi j hj hi h=>by
   rcases Nat.lt_or_ge i j with Ei|Ei
   ·exact EF ((List.pairwise_iff_getElem.1 hr) i j (by omega) hj Ei) h
   ·have:i=j:=by omega
    subst this;exact h)
  (λi j Ei hj Hh=>by show QN l k _ (i:Int) (j:Int)=_;unfold QN;rw[if_pos (by simpa using Ei),aT (by omega) (by omega),AJ Hh,Aa];simp only[hc,Aa,zzs,Be (show(i+j)/2<=2000000 by omega)];cases bl l[(i+j)/2].aj k<;>rfl)
  (λi hi=>by show QN l k _ (i:Int) (i:Int)=_;unfold QN;rw[if_neg (by simp)])
 rw[h];unfold gB;by_cases hp:AF (λw:Ak=>bl w.aj k) l<l.length
 ·rw[if_pos (by simpa using hp),AJ hp,Aa];simp only[hc,Aa,qZ,Br hp]
 ·rw[if_neg (by simpa using hp),List.getElem?_eq_none (by omega)]
theorem zFP{l:List AG}{k:Int}(hl:l.length<=2000000)(hr:Cd hk l):XJ l k (λy0_ y1_=>O9 y0_ y1_)=some (((AF (A0 hk k) l:Nat):Int),(match l[AF (A0 hk k) l]? with|some w=>decide (w.ah=k)|none=>false)):=by
 unfold XJ;have hc:∀w:AG,O9 w k=some (Nn w.ah k):=λw=>by simp[O9]
 have h:=aI (xs:=l) (body:=λs:Int × Int=>QO l k (λy0_ y1_=>O9 y0_ y1_) s.1 s.2) (fin:=λi=>gE l k (λy0_ y1_=>O9 y0_ y1_) i) (A0 hk k)
  (λi j hj hi h=>xG hr i j hj hi h)
  (λi j Ei hj Hh=>by show QO l k _ (i:Int) (j:Int)=_;unfold QO;rw[if_pos (by simpa using Ei),aT (by omega) (by omega),AJ Hh,Aa];simp only[hc,Aa,zzg,Be (show(i+j)/2<=2000000 by omega)];by_cases hq:l[(i+j)/2].ah<k<;>simp[A0,hk,tk,hq])
  (λi hi=>by show QO l k _ (i:Int) (i:Int)=_;unfold QO;rw[if_neg (by simp)])
 rw[h];unfold gE;by_cases hp:AF (A0 hk k) l<l.length
 ·rw[if_pos (by simpa using hp),AJ hp,Aa];simp only[hc,Aa,zyF,Br hp]
 ·rw[if_neg (by simpa using hp),List.getElem?_eq_none (by omega)]
theorem zFy{l:List Bz}{k:Int}(hl:l.length<=2000000)(hr:Cd tk l):XI l k (λy0_ y1_=>Pa y0_ y1_)=some (((AF (A0 tk k) l:Nat):Int),(match l[AF (A0 tk k) l]? with|some w=>decide (w.ah=k)|none=>false)):=by
 unfold XI;have hc:∀w:Bz,Pa w k=some (Nn w.ah k):=λw=>by simp[Pa]
 have h:=aI (xs:=l) (body:=λs:Int × Int=>QP l k (λy0_ y1_=>Pa y0_ y1_) s.1 s.2) (fin:=λi=>gD l k (λy0_ y1_=>Pa y0_ y1_) i) (A0 tk k)
  (λi j hj hi h=>xG hr i j hj hi h)
  (λi j Ei hj Hh=>by show QP l k _ (i:Int) (j:Int)=_;unfold QP;rw[if_pos (by simpa using Ei),aT (by omega) (by omega),AJ Hh,Aa];simp only[hc,Aa,zzg,Be (show(i+j)/2<=2000000 by omega)];by_cases hq:l[(i+j)/2].ah<k<;>simp[A0,hk,tk,hq])
  (λi hi=>by show QP l k _ (i:Int) (i:Int)=_;unfold QP;rw[if_neg (by simp)])
 rw[h];unfold gD;by_cases hp:AF (A0 tk k) l<l.length
 ·rw[if_pos (by simpa using hp),AJ hp,Aa];simp only[hc,Aa,zyF,Br hp]
 ·rw[if_neg (by simpa using hp),List.getElem?_eq_none (by omega)]
theorem Wl{β:Type}{body:Int->Option (Int ⊕ Option β)}{fin:Option β}(m:Nat)(he:body (m:Nat)=some (.inr fin)):∀n:Nat,m<=n->(∀i:Nat,m<=i->i<n->body ((i+1:Nat):Int)=some (.inl (i:Int)))->Az body (n:Nat)=fin
 |0,h,_=>by
  have e:m=0:=by omega
  subst e;exact Sr he
 |n+1,h,hs=>by
  by_cases e:m=n+1
  ·subst e;exact Sr he
  ·rw[lQ (hs n (by omega) (by omega))];exact Wl m he n (by omega) λi h1 h2=>hs i h1 (by omega)
theorem zN{α:Type}{vs:List α}(h:vs≠ [])(hl:vs.length<=2000000):getI vs (IntKind.i64.wrap ((vs.length:Int)-1))=some (vs.getLast h):=by
 have hp:0<vs.length:=by cases vs with|nil=>exact absurd rfl h|cons=>simp
 rw[Lc hp hl,AJ (by omega),List.getLast_eq_getElem]
def DG(n:Nat)(l:List Ak):Prop:=G3 l/\(l.length<=n/\ ∀c∈l,c.bb≠ []/\(c.bb.length<=n/\Xu c))
theorem ZU{l:List Ak}{k:Aj}{c:Ak}(h:Ey l k=some c):c∈l/\c.aj=k:=⟨List.mem_of_find?_eq_some h,by have:=List.find?_some h;simpa using this⟩
theorem V6{l:List Ak}{k:Aj}{c:Ak}(hr:G3 l)(hc:c∈l)(hk:c.aj=k):Ey l k=some c:=by
 cases h:Ey l k with
 |none=>have:=List.find?_eq_none.1 h c hc;simp[hk]at this
 |some d=>obtain⟨h1,h2⟩:=ZU h;rw[DX.jo (key:=ck) hr h1 hc (by rw[ck,ck,h2,hk])]
theorem mO{l:List Ak}{k:Aj}(h:∀c∈l,c.aj≠k):Ey l k=none:=by unfold Ey;rw[List.find?_eq_none];intro y hy;simpa using h y hy
abbrev Bw(l:List Ak)(k:Aj):Nat:=AF (λw:Ak=>bl w.aj k) l
theorem rJ(l:List Ak)(k:Aj):Bw l k<=l.length:=NM _ l
theorem Vz{l:List Ak}(hr:G3 l)(k:Aj):(∃h:Bw l k<l.length,l[Bw l k].aj=k/\Ey l k=some l[Bw l k])\/((∀c∈l,c.aj≠k)/\Ey l k=none/\ ∀h:Bw l k<l.length,bl k l[Bw l k].aj=true):=by
 have W9:=List.pairwise_iff_getElem.1 hr;by_cases hp:Bw l k<l.length
 ·by_cases hk:l[Bw l k].aj=k
  ·exact .inl ⟨hp,hk,V6 hr (Ay hp) hk⟩
  ·right;have hn:bl (l[Bw l k]'hp).aj k=false:=aF hp;have hg:bl k l[Bw l k].aj=true:=Sk hn hk;have BZ:∀c∈l,c.aj≠k:=by
    intro c hc e;obtain⟨j,hj,rfl⟩:=List.mem_iff_getElem.1 hc;rcases Nat.lt_trichotomy j (Bw l k)with h|h|h
    ·exact Ik (SU h) e
    ·subst h;exact hk e
    ·have:=W9 (Bw l k) j hp hj h;rw[ck,ck,e,NJ hg]at this;cases this
   exact⟨BZ,mO BZ,λ_=>hg⟩
 ·right;have BZ:∀c∈l,c.aj≠k:=by
   intro c hc e;obtain⟨j,hj,rfl⟩:=List.mem_iff_getElem.1 hc;exact Ik (SU (lt:=λw:Ak=>bl w.aj k) (show j<Bw l k by omega)) e
  exact⟨BZ,mO BZ,λh=>absurd h hp⟩
theorem mS{l:List Ak}{k:Aj}(hl:l.length<=2000000)(hr:G3 l):RP l k=some (((Bw l k:Nat):Int),(Ey l k).isSome):=by
 unfold RP;rw[zFN hl hr,Aa];rcases Vz hr k with⟨hp,hk,hf⟩|⟨hn,hf,hg⟩
 ·rw[hf];simp[Br hp,hk]
 ·rw[hf];by_cases hp:Bw l k<l.length
  ·have hk:l[Bw l k].aj≠k:=hn _ (Ay hp);simp[Br hp,hk]
  ·simp[List.getElem?_eq_none (show l.length<=Bw l k by omega)]
theorem rQ{l:List Ak}{k:Aj}(hl:l.length<=2000000)(hr:G3 l):∃i:Int,VJ l k=some i/\((i<0/\Ey l k=none)\/(0<=i/\ ∃c,getI l i=some c/\Ey l k=some c)):=by
 refine⟨CY (λc:Ak=>c.aj==k) l,?_,?_⟩
 ·unfold VJ;refine Z8 (λc:Ak=>c.aj==k) (λi hi=> ?_) ?_
  ·unfold jB;rw[if_pos (by simpa using hi),AJ hi,Aa,Be (by omega)];cases l[i].aj==k<;>rfl
  ·unfold jB;rw[if_neg (by simp)]
 ·by_cases h:CY (λc:Ak=>c.aj==k) l>=0
  ·obtain⟨x,h1,h2,h3⟩:=Z6 h;exact .inr ⟨h,x,h1,V6 hr h3 (by simpa using h2)⟩
  ·refine .inl ⟨by omega,?_⟩;have:=mD (λc:Ak=>c.aj==k) l;rw[decide_eq_false h]at this;unfold Ey;rw[List.find?_eq_none];intro y hy hq;have:=List.any_eq_false.1 this.symm y hy;exact this hq
theorem xF{l:List Ak}{k:Aj}{c:Ak}(h:Ey l k=some c)(hv:c.bb≠ []):Cj l k=(c.bb.getLast hv).af:=by unfold Cj;rw[h];show UD c=_;unfold UD;rw[List.getLast?_eq_some_getLast hv]
theorem SH{n:Nat}{l:List Ak}{k:Aj}(hn:n<=1000)(h:DG n l):Pv l k=some (Cj l k):=by
 obtain⟨hr,hl,hc⟩:=h;unfold Pv;obtain⟨i,e,⟨h1,h2⟩|⟨h1,c,h2,h3⟩⟩:=rQ (l:=l) (k:=k) (by omega) hr
 ·rw[e,Aa,if_pos (by simpa using h1)];unfold Cj;rw[h2]
 ·obtain⟨hv,hw,_⟩:=hc c (ZU h3).1;rw[e,Aa,if_neg (by simpa using h1),h2,Aa,zN hv (by omega),Aa,xF h3 hv]
theorem Wq{n:Nat}{l:List Ak}{k:Aj}(hn:n<=1000)(h:DG n l):RV l k=some (Cj l k):=by
 obtain⟨hr,hl,hc⟩:=h;unfold RV;rw[mS (by omega) hr,Aa];rcases Vz hr k with⟨hp,hk,hf⟩|⟨_,hf,_⟩
 ·obtain⟨hv,hw,_⟩:=hc _ (Ay hp);rw[hf,if_neg (by simp)];rw[AJ hp,Aa,zN hv (by omega),Aa,xF hf hv]
 ·rw[hf];simp only[Option.isSome_none,Bool.not_false,if_true];unfold Cj;rw[hf]
theorem zL{l:List Ak}{k:Aj}{v:Df}(hr:G3 l)(hp:Bw l k<l.length)(hk:l[Bw l k].aj=k):Is l k v=l.set (Bw l k) ⟨k,l[Bw l k].bb++ [v]⟩:=by unfold Is;rw[nL hr];rw[show AF (λy=>bl (ck y) (ck (⟨k,KD l k++ [v]⟩:Ak))) l=Bw l k from rfl,Br hp];show(if l[Bw l k].aj=k then _ else _)=_;rw[if_pos hk];unfold KD;rw[V6 hr (Ay hp) hk]
theorem zxA{l:List Ak}{k:Aj}{v:Df}(hr:G3 l)(hn:∀c∈l,c.aj≠k):Is l k v=l.take (Bw l k)++ [⟨k,[v]⟩]++l.drop (Bw l k):=by
 have hv:KD l k=[]:=by unfold KD;rw[mO hn]
 unfold Is;rw[nL hr,hv];rw[show AF (λy=>bl (ck y) (ck (⟨k,[]++ [v]⟩:Ak))) l=Bw l k from rfl];by_cases hp:Bw l k<l.length
 ·rw[Br hp];show(if l[Bw l k].aj=k then _ else _)=_;rw[if_neg (hn _ (Ay hp))];rfl
 ·rw[List.getElem?_eq_none (by omega)];rfl
theorem DG.add{n:Nat}{l:List Ak}{k:Aj}{v:Df}(h:DG n l)(hn:n<=1000)(hk:k.length<=2000000)(hv:v.bw.length<=2000000):DG (n+1) (Is l k v):=by
 obtain⟨hr,hl,hc⟩:=h;have Up:(KD l k).length<=n/\ ∀v∈KD l k,v.bw.length<=2000000:=by
  unfold KD;cases e:Ey l k with
  |none=>exact⟨by simp,λv hv=>by simp at hv⟩
  |some c=>obtain⟨_,h2,h3⟩:=hc c (ZU e).1;exact⟨h2,h3.2.2⟩
 refine⟨VT hr,?_,?_⟩
 ·have:=aA (key:=ck) (x:=(⟨k,KD l k++ [v]⟩:Ak)) l;unfold Is;omega
 ·intro c F6;rcases(NG (key:=ck) hr c).1 F6 with rfl|⟨hm,_⟩
  ·refine⟨by simp,by simp;omega,hk,by simp;omega,?_⟩;intro x hx;rcases Ac.1 hx with hx|hx
   ·exact Up.2 x hx
   ·have:x=v:=by simpa using hx
    subst this;exact hv
  ·obtain⟨h1,h2,h3⟩:=hc c hm;exact⟨h1,by omega,h3⟩
def NO(ws:List Ap):Prop:=ws.length<=100/\ ∀w∈ws,w.aj.length<=2000000/\w.bw.length<=2000000
theorem rY{c:Ak}{k:Aj}{vs:List Df}(h:c.aj=k):({c with bb:=vs}:Ak)=⟨k,vs⟩:=by subst h;rfl
theorem zDF{α:Type}{A B:List α}{a:α}{p:Nat}(h:A.length=p):getI (A++ [a]++B) (p:Int)=some a:=by
 have hp:p<(A++ [a]++B).length:=by simp;omega
 rw[AJ hp];subst h;simp
theorem zDG{α:Type}{A B:List α}{a b:α}{p:Nat}(h:A.length=p):(A++ [a]++B).set p b=A++ [b]++B:=by subst h;simp
theorem DG.small{n:Nat}{l:List Ak}(h:DG n l)(hn:n<=1000):NV l:=⟨by have:=h.2.1;omega,λc hc=>(h.2.2 c hc).2.2⟩
theorem XH{α:Type}(l:List α)(p:Nat):A6 l 0 (p:Int)=l.take p:=by unfold A6;simp
theorem QA{α:Type}(l:List α)(p:Nat):A6 l (p:Int) (l.length:Int)=l.drop p:=by unfold A6;rw[CV,CV,List.take_of_length_le (AN _)]
theorem nT{t:Int}:∀{ws:List Ap} {n:Nat} {l o:List Ak},n+ws.length<=1000->(∀w∈ws,w.aj.length<=2000000/\w.bw.length<=2000000)->DG n l->GF t l ws=some o->DG (n+ws.length) o:=by
 intro ws
 induction ws with
 |nil=>intro n l o _ _ h e;cases e;exact h
 |cons w vs ih=>
  intro n l o hn hs h e;unfold GF at e;rw[List.foldlM_cons]at e;cases e1:Hx t l w with
  |none=>rw[e1]at e;cases e
  |some l1=>
   rw[e1]at e;have e:GF t l1 vs=some o:=e;unfold Hx at e1;split at e1
   ·cases e1
   ·cases e1;rw[Bd]at hn ⊢;have:=ih (n:=n+1) (by omega) (λw hw=>hs w (by simp[hw])) (DG.add h (by omega) (hs w (by simp)).1 (hs w (by simp)).2) e;rwa[show n+(vs.length+1)=n+1+vs.length by omega]
theorem zDl{l:List Ak}{ws:List Ap}{t:Int}(h:DG 24 l)(hw:NO ws):YV l ws t=some (match L2 l ws t with|some o=>(o,true)|none=>([],false)):=by
 have hC:Rm l=some l:=A7 ⟨by have:=h.2.1;omega,λc hc=>by have:=(h.2.2 c hc).2.1;omega⟩;unfold YV;rw[hC,Aa];have key:=Sz (xs:=ws) (body:=λs:Int × List Ak=>QY ws t s.1 s.2) (λi s=>((i:Int),s)) (Hx t) (some ([],false)) (λs=>Ys s) (λi s=>DG (24+i) s)
  (λi acc hi hI=>by
   have Ur:=hw.2 _ (Ay hi);have hn:=hw.1;obtain⟨hr,hl,hc⟩:=hI;refine⟨?_,λa ha=> ?_⟩
   ·show QY ws t (i:Int) acc=_;unfold QY;rw[if_pos (by simpa using hi),AJ hi,Aa,Wq (n:=24+i) (by omega) ⟨hr,hl,hc⟩,Aa];unfold Hx;by_cases ht:t<=Cj acc ws[i].aj
    ·rw[if_pos (by simpa using ht),if_pos ht]
    ·rw[if_neg (by simpa using ht),if_neg ht,mS (by omega) hr,Aa,Be (by omega)];rcases Vz hr ws[i].aj with⟨hp,hk,hf⟩|⟨DI,hf,_⟩
     ·have h1:=(hc _ (Ay hp)).2.1;rw[hf];simp only[Option.isSome_some,Bool.not_true,Ba,if_false];rw[AJ hp,Aa,A7 (by simp only[AS];omega),CV,zL hr hp hk];refine congrArg (λz=>some (Sum.inl (((i+1:Nat):Int),z))) (congrArg (acc.set _) ?_);exact rY hk
     ·have Gw:=rJ acc ws[i].aj;have hA:(acc.take (Bw acc ws[i].aj)).length=Bw acc ws[i].aj:=by simp;omega
      have hIn:Ib acc ((Bw acc ws[i].aj:Nat):Int) [(⟨ws[i].aj,[]⟩:Ak)]=some (acc.take (Bw acc ws[i].aj)++ [⟨ws[i].aj,[]⟩]++acc.drop (Bw acc ws[i].aj)):=by unfold Ib;rw[A7 ⟨by omega,by omega,by simp,by simp only[AS];omega⟩,CV]
      rw[hf];simp only[Option.isSome_none,Bool.not_false,if_true];rw[hIn,Aa,zDF hA,Aa,A7 (by simp[RM]),CV,zDG hA,zxA hr DI];rfl
   ·unfold Hx at ha;split at ha
    ·cases ha
    ·cases ha;exact DG.add (n:=24+i) ⟨hr,hl,hc⟩ (by omega) Ur.1 Ur.2)
  (λacc _=>by show QY ws t (ws.length:Int) acc=_;unfold QY;rw[if_neg (by simp)]) l h
 refine key.trans ?_;unfold L2 GF;have AZ:∀o,ws.foldlM (Hx t) l=some o->DG (24+ws.length) o:=λo ho=>nT (by have:=hw.1;omega) hw.2 h ho;cases ho:ws.foldlM (Hx t) l with
 |none=>rfl
 |some o=>show Ys o=some (match(if E6 o=true then some o else none)with|some o=>(o,true)|none=>([],false));unfold Ys;rw[mY ((AZ o ho).small (by have:=hw.1;omega)),Aa];cases E6 o<;>rfl
theorem zzo{l:List Ak}(h:DG 24 l):VF l=some l:=by
 unfold VF;have:=(E7 (xs:=l) (body:=λs:List Ak × Int=>RR l s.1 s.2) (λi s=>(s,i)) (λo c=>o++ [c]) (λo=>some o) (λi o=>o.length=i)
  (λi hi o ho=>by have h1:=h.2.1;have h2:=(h.2.2 _ (Ay hi)).2.1;refine⟨?_,by simp[ho]⟩;show RR l o (i:Int)=_;unfold RR;rw[if_pos (by simpa using hi),AJ hi,Aa,A7 (by simp only[List.length_nil];omega),A7 (by simp only[AS];omega),Be (by omega)])
  (λo ho=>by show RR l o (l.length:Int)=_;unfold RR;rw[if_neg (by simp)]) (s:=[]) rfl).1
 refine this.trans ?_;have e:=foldl_map (λc:Ak=>c) l [];simpa using e
theorem zDh{l:List Ak}{ws:List Ap}{t:Int}(h:DG 24 l)(hw:NO ws)(h0:0<t):Zp l ws t=some (match GF t l ws with|some o=>(o,E6 o)|none=>([],false)):=by
 unfold Zp;rw[zzo h,Aa];have key:=Sz (xs:=ws) (body:=λs:Int × List Ak=>RY ws t s.1 s.2) (λi s=>((i:Int),s)) (Hx t) (some ([],false)) (λs=>YA s) (λi s=>DG (24+i) s)
  (λi acc hi hI=>by
   have Ur:=hw.2 _ (Ay hi);have hn:=hw.1;obtain⟨hr,hl,hc⟩:=hI;have W9:=List.pairwise_iff_getElem.1 hr;have Gw:=rJ acc ws[i].aj;refine⟨?_,λa ha=> ?_⟩
   ·show RY ws t (i:Int) acc=_;unfold RY;rw[if_pos (by simpa using hi),AJ hi,Aa];have down:∀m:Nat,(∀j (hj:j<acc.length),m<=j->bl ws[i].aj acc[j].aj=true)-> ∀j:Nat,m<=j->j<acc.length->Pr t (i:Int) acc ws[i] ((j+1:Nat):Int)=some (.inl (j:Int)):=by
     intro m hm j h1 h2;unfold Pr;rw[if_pos (by simp),Lc (by omega) (by omega),show j+1-1=j by omega,AJ h2,Aa,V8,if_pos (by rw[Bool.not_not];exact hm j h2 h1)]
    rcases Vz hr ws[i].aj with⟨hp,hk,hf⟩|⟨DI,hf,hg⟩
    ·have hv:=(hc _ (Ay hp))
     have stop:Pr t (i:Int) acc ws[i] ((Bw acc ws[i].aj+1:Nat):Int)=some (.inr (RO t (i:Int) acc ws[i] ((Bw acc ws[i].aj+1:Nat):Int))):=by unfold Pr;rw[if_pos (by simp),Lc (by omega) (by omega),show Bw acc ws[i].aj+1-1=Bw acc ws[i].aj by omega,AJ hp,Aa,V8,if_neg (by rw[hk];rw[show Op.bytesLess ws[i].aj ws[i].aj=false from Kr _];simp)]
     rw[Wl (Bw acc ws[i].aj+1) stop acc.length (by omega) (down _ λj hj h1=>by rw[<-hk];exact W9 _ j hp hj (by omega))];unfold RO;rw[if_pos (by simp),Lc (by omega) (by omega),show Bw acc ws[i].aj+1-1=Bw acc ws[i].aj by omega,AJ hp,Aa,if_pos (by simpa using hk),SH (n:=24+i) (by omega) ⟨hr,hl,hc⟩,Aa];unfold Hx;by_cases ht:t<=Cj acc ws[i].aj
     ·rw[if_pos (by simpa using ht),if_pos ht]
     ·rw[if_neg (by simpa using ht),if_neg ht,A7 (by simp only[AS];omega),CV,zL hr hp hk,Be (by omega)];refine congrArg (λz=>some (Sum.inl (((i+1:Nat):Int),z))) (congrArg (acc.set _) ?_);exact rY hk
    ·have ht: ¬t<=Cj acc ws[i].aj:=by unfold Cj;rw[hf];show¬t<=0;omega
     have cC:∀j (hj:j<acc.length),Bw acc ws[i].aj<=j->bl ws[i].aj acc[j].aj=true:=by
      intro j hj h1;have hp:Bw acc ws[i].aj<acc.length:=by omega
      rcases Nat.lt_or_ge (Bw acc ws[i].aj) j with h2|h2
      ·exact EF (hg hp) (W9 _ j hp hj h2)
      ·have e:Bw acc ws[i].aj=j:=by omega
       have:=hg hp;simp only[e]at this;exact this
     have stop:Pr t (i:Int) acc ws[i] ((Bw acc ws[i].aj:Nat):Int)=some (.inr (RO t (i:Int) acc ws[i] ((Bw acc ws[i].aj:Nat):Int))):=by
      unfold Pr;by_cases h0:Bw acc ws[i].aj=0
      ·rw[if_neg (by simp[h0])]
      ·have hb:bl (acc[Bw acc ws[i].aj-1]'(by omega)).aj ws[i].aj=true:=SU (lt:=λw:Ak=>bl w.aj ws[i].aj) (show Bw acc ws[i].aj-1<Bw acc ws[i].aj by omega);rw[if_pos (by simp;omega),Lc (by omega) (by omega),AJ (show Bw acc ws[i].aj-1<acc.length by omega),Aa,V8,if_neg (by rw[show Op.bytesLess ws[i].aj _=false from NJ hb];simp)]
     rw[Wl (Bw acc ws[i].aj) stop acc.length (by omega) (down _ cC)];have body:(req (0<=((Bw acc ws[i].aj:Nat):Int)/\((Bw acc ws[i].aj:Nat):Int)<=(acc.length:Int)/\(acc.length:Int)<=(acc.length:Int))<|
       req (0<=((Bw acc ws[i].aj:Nat):Int)/\((Bw acc ws[i].aj:Nat):Int)<=(acc.length:Int)/\(acc.length:Int)<=(acc.length:Int))<|
       req (((([]:List Ak).length:Int)+(((A6 acc ((Bw acc ws[i].aj:Nat):Int) (acc.length:Int))).length:Int))*40<=140737488355328/\(([]:List Ak).length:Int)+(((A6 acc ((Bw acc ws[i].aj:Nat):Int) (acc.length:Int))).length:Int)<=140737488355328)<|
       req (0<=(0:Int)/\(0:Int)<=((Bw acc ws[i].aj:Nat):Int)/\((Bw acc ws[i].aj:Nat):Int)<=(acc.length:Int))<|
       req (((([]:List Ak).length:Int)+(((A6 acc 0 ((Bw acc ws[i].aj:Nat):Int))).length:Int))*40<=140737488355328/\(([]:List Ak).length:Int)+(((A6 acc 0 ((Bw acc ws[i].aj:Nat):Int))).length:Int)<=140737488355328)<|
       req (((((A6 acc 0 ((Bw acc ws[i].aj:Nat):Int))).length:Int)+(([(⟨ws[i].aj,[(⟨t,ws[i].bw,ws[i].bj⟩:Df)]⟩:Ak)]:List Ak).length:Int))*40<=140737488355328/\(((A6 acc 0 ((Bw acc ws[i].aj:Nat):Int))).length:Int)+(([(⟨ws[i].aj,[(⟨t,ws[i].bw,ws[i].bj⟩:Df)]⟩:Ak)]:List Ak).length:Int)<=140737488355328)<|
       req ((((((A6 acc 0 ((Bw acc ws[i].aj:Nat):Int))++ [(⟨ws[i].aj,[(⟨t,ws[i].bw,ws[i].bj⟩:Df)]⟩:Ak)])).length:Int)+(((A6 acc ((Bw acc ws[i].aj:Nat):Int) (acc.length:Int))).length:Int))*40<=140737488355328/\((((A6 acc 0 ((Bw acc ws[i].aj:Nat):Int))++ [(⟨ws[i].aj,[(⟨t,ws[i].bw,ws[i].bj⟩:Df)]⟩:Ak)])).length:Int)+(((A6 acc ((Bw acc ws[i].aj:Nat):Int) (acc.length:Int))).length:Int)<=140737488355328)<|
       (some (.inl ((IntKind.i64.wrap ((i:Int)+1)),(((A6 acc 0 ((Bw acc ws[i].aj:Nat):Int))++ [(⟨ws[i].aj,[(⟨t,ws[i].bw,ws[i].bj⟩:Df)]⟩:Ak)])++(A6 acc ((Bw acc ws[i].aj:Nat):Int) (acc.length:Int))))):Option ((Int × List Ak) ⊕ Option (List Ak × Bool))))=some (.inl (((i+1:Nat):Int),Is acc ws[i].aj ⟨t,ws[i].bw,ws[i].bj⟩)):=by
      rw[XH,QA,zxA hr DI,Be (by omega)];rw[A7 (by omega),A7 (by omega),A7 (by simp only[BC,List.length_nil];omega),A7 (by omega),A7 (by simp only[Ar,List.length_nil];omega),A7 (by simp only[Ar,AS];omega),A7 (by simp only[AH,BC,Ar,AS];omega)]
     have e1:Hx t acc ws[i]=some (Is acc ws[i].aj ⟨t,ws[i].bw,ws[i].bj⟩):=by unfold Hx;rw[if_neg ht]
     rw[e1];unfold RO;by_cases h0:Bw acc ws[i].aj=0
     ·rw[if_neg (by simp[h0])];exact body
     ·have BB:(acc[Bw acc ws[i].aj-1]'(by omega)).aj≠ws[i].aj:=DI _ (Ay _);rw[if_pos (by simp;omega),Lc (by omega) (by omega),AJ (show Bw acc ws[i].aj-1<acc.length by omega),Aa,if_neg (by simpa using BB)];exact body
   ·unfold Hx at ha;split at ha
    ·cases ha
    ·cases ha;exact DG.add (n:=24+i) ⟨hr,hl,hc⟩ (by omega) Ur.1 Ur.2)
  (λacc _=>by show RY ws t (ws.length:Int) acc=_;unfold RY;rw[if_neg (by simp)]) l h
 refine key.trans ?_;unfold GF;cases ho:ws.foldlM (Hx t) l with
 |none=>rfl
 |some o=>show YA o=some (o,E6 o);unfold YA;rw[mC ((nT (by have:=hw.1;omega) hw.2 h ho).small (by have:=hw.1;omega)),Aa]
theorem yU{α:Type}(q:α->Bool):∀xs:List α,xs.find? q=xs[AF (λx=> !q x) xs]?
 | []=>by simp
 |x::xs=>by
  rw[VH,List.find?_cons];cases hq:q x with
  |true=>simp
  |false=>simpa using yU q xs
theorem Pz{α β:Type}{xs:List α}{body:Int->Option (Int ⊕ Option β)}(q:α->Bool)(F:α->Option β)(fin:Option β)
  (hs:∀i (h:i<xs.length),body (i:Nat)=some (if q xs[i]=true then .inr (F xs[i])else .inl ((i+1:Nat):Int))) (he:body (xs.length:Nat)=some (.inr fin)):Az body 0=match xs.find? q with|some x=>F x|none=>fin:=by
 rw[yU,Z0 (λx=> !q x) (λi=>match xs[i.toNat]? with|some x=>F x|none=>fin) (λi h=> ?_) ?_]
 ·rw[CV]
 ·rw[he,CV,List.getElem?_eq_none (AN _)]
 ·rw[hs i h,CV,Br h];cases q xs[i]<;>rfl
theorem SB{α:Type}(q:α->Bool)(xs:List α):(xs.find? q).isSome=xs.any q:=by rw[Bool.eq_iff_iff,List.find?_isSome,List.any_eq_true]
theorem rF{ws:List Ap}{k:Aj}(h:ws.length<=2000000):U9 ws k=some (Im ws k):=by
 unfold U9;rw[Pz (xs:=ws) (λw=>w.aj==k) (λ_=>some true) (some false) (λi hi=> ?_) ?_]
 ·unfold Im;rw[<-SB];cases ws.find? (λw=>w.aj==k)<;>rfl
 ·unfold iO;rw[if_neg (by simp)]
 ·unfold iO;rw[if_pos (by simpa using hi),AJ hi,Aa,Be (by omega)];cases ws[i].aj==k<;>rfl
theorem zEo{ks:List Aj}{k:Aj}(h:ks.length<=2000000):Y9 ks k=some (ks.any (· ==k)):=by
 unfold Y9;rw[Pz (xs:=ks) (λw=>w==k) (λ_=>some true) (some false) (λi hi=> ?_) ?_]
 ·rw[<-SB];cases ks.find? (λw=>w==k)<;>rfl
 ·unfold iV;rw[if_neg (by simp)]
 ·unfold iV;rw[if_pos (by simpa using hi),AJ hi,Aa,Be (by omega)];cases ks[i]==k<;>rfl
theorem ZH{s:Ai}{t:Int}(h:s.ab.length<=2000000):Kn s t=some (match Cq s t with|some h=>(h,true)|none=>((⟨0,0,0,[],[]⟩:AG),false)):=by
 unfold Kn;rw[Pz (xs:=s.ab) (λw=>hk w==t) (λh=>some (h,true)) (some ((⟨0,0,0,[],[]⟩:AG),false)) (λi hi=> ?_) ?_]
 ·unfold Cq;cases s.ab.find? (λw=>hk w==t)<;>rfl
 ·unfold gY;rw[if_neg (by simp)]
 ·unfold gY;rw[if_pos (by simpa using hi),AJ hi,Aa,Be (by omega)];unfold hk;cases s.ab[i].ah==t<;>rfl
theorem zD{s:Ai}{t:Int}(h:s.au.length<=2000000):Vj s t=some (match BV s t with|some h=>(h,true)|none=>((⟨0,false,0⟩:Bz),false)):=by
 unfold Vj;rw[Pz (xs:=s.au) (λw=>tk w==t) (λh=>some (h,true)) (some ((⟨0,false,0⟩:Bz),false)) (λi hi=> ?_) ?_]
 ·unfold BV;cases s.au.find? (λw=>tk w==t)<;>rfl
 ·unfold hF;rw[if_neg (by simp)]
 ·unfold hF;rw[if_pos (by simpa using hi),AJ hi,Aa,Be (by omega)];unfold tk;cases s.au[i].ah==t<;>rfl
theorem wO{α:Type}{key:α->Int}{l:List α}{t:Int}(hr:Cd key l):(l.find? (λy=>key y==t)).isSome=(match l[AF (A0 key t) l]? with|some w=>decide (key w=t)|none=>false):=by
 rw[R9 hr];cases l[AF (A0 key t) l]? with
 |none=>rfl
 |some w=>by_cases h:key w=t<;>simp[h]
theorem SA{s:Ai}{t:Int}(hl:s.ab.length<=2000000)(hr:Cd hk s.ab):Kd s t=some (((AF (A0 hk t) s.ab:Nat):Int),(Cq s t).isSome):=by unfold Kd Cq;rw[zFP hl hr,Aa,wO hr];cases s.ab[AF (A0 hk t) s.ab]?<;>rfl
theorem SG{s:Ai}{t:Int}(hl:s.au.length<=2000000)(hr:Cd tk s.au):L4 s t=some (((AF (A0 tk t) s.au:Nat):Int),(BV s t).isSome):=by unfold L4 BV;rw[zFy hl hr,Aa,wO hr];cases s.au[AF (A0 tk t) s.au]?<;>rfl
theorem zwS{α:Type}{key:α->Int}{l:List α}{t:Int}(h:Cd key l):(∀j (hj:j<l.length),AF (A0 key (t+1)) l<=j->t<key l[j])/\ ∀j (hj:j<l.length),j<AF (A0 key (t+1)) l->key l[j]<=t:=by
 constructor
 ·intro j hj hp;have h1:AF (A0 key (t+1)) l<l.length:=by omega
  have h2: ¬(key (l[AF (A0 key (t+1)) l]'h1)<t+1):=of_decide_eq_false (aF h1);by_cases e:AF (A0 key (t+1)) l=j
  ·subst e;omega
  ·have:=h.mono hj (show AF (A0 key (t+1)) l<j by omega);omega
 ·intro j hj hp;have:key l[j]<t+1:=of_decide_eq_true (SU (lt:=A0 key (t+1)) hp);omega
theorem zAo{α:Type}{key:α->Int}{l:List α}{t:Int}(hn:∀y∈l,key y≠t):AF (A0 key (t+1)) l=AF (A0 key t) l:=by
 induction l with
 |nil=>rfl
 |cons x l ih=>
  rw[VH,VH,ih λy hy=>hn y (by simp[hy])];have:=hn x (by simp);have e:A0 key (t+1) x=A0 key t x:=by unfold A0;rw[decide_eq_decide];omega
  rw[e]
theorem x8{α:Type}{key:α->Int}{l:List α}{x:α}(hn:∀y∈l,key y≠key x):DN key x l=l.take (AF (A0 key (key x+1)) l)++ [x]++l.drop (AF (A0 key (key x+1)) l):=by rw[zAo hn];exact ZW hn
theorem zym{l:List AG}{h:AG}(hl:l.length<=1000)(hr:Cd hk l):∃r,Yw l h=some r/\((∀y∈l,hk y≠hk h)->r=DN hk h l):=by
 have hp:=NM (A0 hk (hk h+1)) l;obtain⟨h1,h2⟩:=zwS (t:=hk h) hr;refine⟨_,?_,λhn=>(x8 hn).symm⟩;unfold Yw;rw[Wl (AF (A0 hk (hk h+1)) l) (fin:=Yg l h ((AF (A0 hk (hk h+1)) l:Nat):Int)) ?_ l.length hp λj h3 h4=> ?_]
 ·unfold Yg;rw[XH,QA,A7 (by omega),A7 (by omega),A7 (by simp only[BC,List.length_nil];omega),A7 (by omega),A7 (by simp only[Ar,List.length_nil];omega),A7 (by simp only[Ar,AS];omega),A7 (by simp only[AH,BC,Ar,AS];omega)]
 ·unfold hY;by_cases h0:AF (A0 hk (hk h+1)) l=0
  ·rw[if_neg (by simp[h0])]
  ·have:=h2 (AF (A0 hk (hk h+1)) l-1) (by omega) (by omega);rw[if_pos (by simp;omega),Lc (by omega) (by omega),AJ (show AF (A0 hk (hk h+1)) l-1<l.length by omega),Aa,if_neg (by simpa using this)]
 ·have:=h1 j h4 h3;unfold hY;rw[if_pos (by simp),Lc (by omega) (by omega),show j+1-1=j by omega,AJ h4,Aa,if_pos (by simpa using this)]
theorem zxC{l:List Bz}{h:Bz}(hl:l.length<=1000)(hr:Cd tk l):∃r,U5 l h=some r/\((∀y∈l,tk y≠tk h)->r=DN tk h l):=by
 have hp:=NM (A0 tk (tk h+1)) l;obtain⟨h1,h2⟩:=zwS (t:=tk h) hr;refine⟨_,?_,λhn=>(x8 hn).symm⟩;unfold U5;rw[Wl (AF (A0 tk (tk h+1)) l) (fin:=Yk l h ((AF (A0 tk (tk h+1)) l:Nat):Int)) ?_ l.length hp λj h3 h4=> ?_]
 ·unfold Yk;rw[XH,QA,A7 (by omega),A7 (by simp only[BC,List.length_nil];omega),A7 (by omega),A7 (by simp only[Ar,List.length_nil];omega),A7 (by simp only[Ar,AS];omega),A7 (by simp only[AH,BC,Ar,AS];omega)]
 ·unfold iA;by_cases h0:AF (A0 tk (tk h+1)) l=0
  ·rw[if_neg (by simp[h0])]
  ·have:=h2 (AF (A0 tk (tk h+1)) l-1) (by omega) (by omega);rw[if_pos (by simp;omega),Lc (by omega) (by omega),AJ (show AF (A0 tk (tk h+1)) l-1<l.length by omega),Aa,if_neg (by simpa using this)]
 ·have:=h1 j h4 h3;unfold iA;rw[if_pos (by simp),Lc (by omega) (by omega),show j+1-1=j by omega,AJ h4,Aa,if_pos (by simpa using this)]
theorem zxy{l:List AG}{t:Int}(hl:l.length<=1000):R5 l t=some (l.filter λh=>decide (hk h≠t)):=by unfold R5 EG;rw[A7 (by omega)];congr 2;funext h;by_cases e:h.ah=t<;>simp[e]
def Ji(a b:Aj):Prop:=bl b a=false
theorem zAx{a b c:Aj}(h1:Ji a b)(h2:Ji b c):Ji a c:=by
 unfold Ji at*;cases h:bl c a with
 |false=>rfl
 |true=>
  rcases WA a b with k|k|k
  ·have:=EF h k;rw[h2]at this;cases this
  ·subst k;rw[h2]at h;cases h
  ·rw[h1]at k;cases k
abbrev Em(l:List Aj):Prop:=DX (λs:Aj=>s) l
theorem zvd{zs:List Aj}(h:zs.Pairwise Ji):Em (Lib.compact zs)/\ ∀y,y∈Lib.compact zs↔y∈zs:=by
 have get:∀j (hj:j<zs.length),(zs.toArray[j]!)=zs[j]:=λj hj=>by rw[getElem!_pos _ j (by simpa using hj)];simp
 have le:∀i j (hi:i<zs.length) (hj:j<zs.length),i<=j->Ji zs[i] zs[j]:=λi j hi hj Ei=>by
  rcases Nat.lt_or_ge i j with k|k
  ·exact(List.pairwise_iff_getElem.1 h) i j hi hj k
  ·have:i=j:=by omega
   subst this;exact Kr _
 unfold Lib.compact Lib.compactUpTo;constructor
 ·unfold Em DX;rw[List.pairwise_map];have hp:(List.range zs.length).Pairwise (· < ·):=List.pairwise_lt_range;have:=List.Pairwise.filter (Lib.keeps zs.toArray) hp;refine List.Pairwise.imp_of_mem ?_ this;intro i j hi hj Ei;have JU:=(List.mem_filter.1 hj).2;have HX:j<zs.length:=by simpa using(List.mem_filter.1 hj).1
  have BB:zs[j]'HX≠zs[j-1]'(by omega):=by
   unfold Lib.keeps at JU;simp only[AI]at JU;rcases JU with k|k
   ·omega
   ·rw[get j HX,get (j-1) (by omega)]at k;exact k
  rw[get i (by omega),get j HX];have h1:=le i (j-1) (by omega) (by omega) (by omega);have h2:=le (j-1) j (by omega) HX (by omega);have h3:bl (zs[j-1]'(by omega)) (zs[j]'HX)=true:=Sk h2 BB;show bl (zs[i]'(by omega)) (zs[j]'HX)=true;rcases WA (zs[i]'(by omega)) (zs[j-1]'(by omega))with k|k|k
  ·exact EF k h3
  ·rw[k];exact h3
  ·unfold Ji at h1;rw[h1]at k;cases k
 ·intro y;constructor
  ·intro hy;exact vV zs y hy
  ·intro hy;obtain⟨i,hi,rfl⟩:=List.getElem_of_mem hy
   induction i using Nat.strongRecOn with
   |_ i ih=>
    by_cases hk:Lib.keeps zs.toArray i=true
    ·exact List.mem_map.2 ⟨i,List.mem_filter.2 ⟨by simpa using hi,hk⟩,get i hi⟩
    ·unfold Lib.keeps at hk;simp only[AI,not_or,Classical.not_not]at hk;have e:zs[i]=zs[i-1]'(by omega):=by
      have:=hk.2;rw[get i hi,get (i-1) (by omega)]at this;exact this
     rw[e];exact ih (i-1) (by omega) (by omega) (Ay _)
def C6(k:Aj)(l:List Aj):List Aj:=F4 (λs:Aj=>s) k l
theorem nB{k:Aj}:∀{A B:List Aj},(∀y∈A,bl y k=true)->(∀y∈B,bl k y=true)->C6 k (A++B)=A++k::B/\C6 k (A++k::B)=A++k::B
 | [],B,_,hB=>by
  unfold C6;constructor
  ·cases B with
   |nil=>rfl
   |cons b B=>rw[List.nil_append,F4,if_pos (hB b (by simp))];rfl
  ·rw[List.nil_append,F4,if_neg (by rw[Kr];simp),if_pos rfl]
 |a::A,B,hA,hB=>by
  obtain⟨p,q⟩:=nB (A:=A) (B:=B) (λy hy=>hA y (by simp[hy])) hB;have h1:=hA a (by simp);unfold C6 at p q ⊢;constructor
  ·rw[List.cons_append,F4,if_neg (by rw[NJ h1];simp),if_neg (λe=>Ik h1 e.symm),p];rfl
  ·rw[List.cons_append,F4,if_neg (by rw[NJ h1];simp),if_neg (λe=>Ik h1 e.symm),q]
theorem PD{k:Aj}{l:List Aj}(h:Em l):Em (C6 k l):=VT h
theorem mP{k:Aj}{l:List Aj}(h:Em l)(y:Aj):y∈C6 k l↔y=k\/y∈l:=by
 unfold C6;rw[NG h];constructor
 ·rintro(e|⟨e,_⟩)
  ·exact .inl e
  ·exact .inr e
 ·rintro(e|e)
  ·exact .inl e
  ·by_cases he:y=k
   ·exact .inl he
   ·exact .inr ⟨e,he⟩
theorem PZ{l:List Aj}(h:l.length<=2000000):H9 l=some l:=by unfold H9;rw[A7 (by rw[List.length_nil];omega)]
theorem SI{l:List Aj}{k:Aj}(hl:l.length<=1000)(hr:Em l):L8 l k=some (C6 k l):=by
 have fin:∀(A B:List Aj),A++B=l->(∀y∈A,bl y k=true\/y=k)->(∀y∈B,bl k y=true)->Ro l k (A.length:Int)=some (C6 k l):=by
  intro A B e hA hB;subst e;rw[AH]at hl;have t1:A6 (A++B) (A.length:Int) (((A++B).length:Nat):Int)=B:=by unfold A6;rw[CV,CV,List.take_of_length_le (AN _)];simp
  have t2:A6 (A++B) 0 (A.length:Int)=A:=by unfold A6;simp
  have put:(∀y∈A,bl y k=true)-> ∀(q:Option (List Aj)),q=some (C6 k (A++B))->q=some (C6 k (A++B)):=λ_ _ h=>h;have body:(∀y∈A,bl y k=true)->(req (0<=(A.length:Int)/\(A.length:Int)<=(((A++B).length:Nat):Int)/\(((A++B).length:Nat):Int)<=(((A++B).length:Nat):Int))<|
   (H9 (A6 (A++B) (A.length:Int) (((A++B).length:Nat):Int))).bind λv3=>
   req (0<=(0:Int)/\(0:Int)<=(A.length:Int)/\(A.length:Int)<=(((A++B).length:Nat):Int))<|
   (H9 (A6 (A++B) 0 (A.length:Int))).bind λv4=>
   req ((((v4).length:Int)+(([k]:List (Ag)).length:Int))*16<=140737488355328/\((v4).length:Int)+(([k]:List (Ag)).length:Int)<=140737488355328)<|
   req (((((v4++ [k])).length:Int)+((v3).length:Int))*16<=140737488355328/\(((v4++ [k])).length:Int)+((v3).length:Int)<=140737488355328)<|
   some ((v4++ [k])++v3))=some (C6 k (A++B)):=by
   intro hA;rw[t1,t2,A7 (by rw[AH];omega),PZ (by omega),Aa,A7 (by rw[AH];omega),PZ (by omega),Aa,A7 (by rw[AS];omega),A7 (by rw[AH,AS];omega),(nB hA hB).1];simp
  unfold Ro;rcases List.eq_nil_or_concat A with rfl|⟨A',z,rfl⟩
  ·rw[if_neg (by simp)];exact body (by simp)
  ·have hz:=hA z (by simp);have dU:Em (A'++ [z]):=DX.sub hr (by rw[List.concat_eq_append];exact List.sublist_append_left _ _);have EV:∀y∈A',bl y z=true:=λy hy=>(List.pairwise_append.1 dU).2.2 y hy z (by simp);have hlen:(A'.concat z).length=A'.length+1:=by simp
   have w1:IntKind.i64.wrap ((((A'.concat z).length:Nat):Int)-1)=((A'.length:Nat):Int):=by rw[hlen,CQ (by omega) (by omega)];omega
   have g1:getI (A'.concat z++B) ((A'.length:Nat):Int)=some z:=by unfold getI;rw[if_pos (by omega),CV,List.concat_eq_append,List.append_assoc,List.getElem?_append_right (by omega)];simp
   rw[if_pos (by rw[AI,hlen];omega),w1,g1,Aa];by_cases he:z=k
   ·subst he;rw[if_pos (by simp)];have:=(nB (A:=A') (B:=B) EV hB).2;rw[List.concat_eq_append,List.append_assoc,List.singleton_append,this]
   ·rw[if_neg (by simpa using he)];have Ux:bl z k=true:=by
     rcases hz with h|h
     ·exact h
     ·exact absurd h he
    refine body λy hy=> ?_;rw[List.concat_eq_append]at hy;rcases Ac.1 hy with hy|hy
    ·exact EF (EV y hy) Ux
    ·rw[List.mem_singleton.1 hy];exact Ux
 unfold L8;have key:∀(n:Nat) (A B:List Aj),A.length=n->A++B=l->(∀y∈B,bl k y=true)->Az (λs:Int=>Ko l k s) (n:Int)=some (C6 k l):=by
  intro n
  induction n with
  |zero=>
   intro A B hA e hB;have:A=[]:=List.length_eq_zero_iff.1 hA;subst this;have hb:Ko l k ((0:Nat):Int)=some (.inr (Ro l k ((([]:List Aj).length:Nat):Int))):=by unfold Ko;rw[if_neg (by simp)];rfl
   exact(Sr (body:=λs:Int=>Ko l k s) hb).trans (fin [] B e (by simp) hB)
  |succ n ih=>
   intro A B hA e hB;rcases List.eq_nil_or_concat A with rfl|⟨A',z,rfl⟩
   ·simp at hA
   ·rw[List.concat_eq_append]at hA e;have hn:A'.length=n:=by simpa using hA
    have w1:IntKind.i64.wrap (((n+1:Nat):Int)-1)=(n:Int):=by
     have:n+1<=1000:=by rw[<-e]at hl;simp at hl;omega
     rw[CQ (by omega) (by omega)];omega
    have g1:getI l (n:Int)=some z:=by subst e;unfold getI;rw[if_pos (by omega),CV,List.append_assoc,List.getElem?_append_right (by omega),hn];simp
    have dU:Em (A'++ [z]):=DX.sub hr (by rw[<-e];exact List.sublist_append_left _ _);have EV:∀y∈A',bl y z=true:=λy hy=>(List.pairwise_append.1 dU).2.2 y hy z (by simp);by_cases hz:(bl z k||z==k)=true
    ·have eb:Ko l k ((n+1:Nat):Int)=some (.inr (Ro l k ((n+1:Nat):Int))):=by
      unfold Ko;rw[if_pos (by rw[AI];omega),w1,g1,Aa,if_neg (by rw[show(Op.bytesLess z k||z==k)=true from hz];simp)]
     rw[Sr (body:=λs:Int=>Ko l k s) eb];have qR:bl z k=true\/z=k:=by simpa using hz
     have:=fin (A'++ [z]) B e (λy hy=>by
      rcases Ac.1 hy with hy|hy
      ·rcases qR with h|h
       ·exact .inl (EF (EV y hy) h)
       ·exact .inl (by rw[<-h];exact EV y hy)
      ·rw[List.mem_singleton.1 hy];exact qR) hB
     rw[AH,AS,hn]at this;exact this
    ·rw[Bool.not_eq_true]at hz;have eb:Ko l k ((n+1:Nat):Int)=some (.inl (n:Int)):=by
      unfold Ko;rw[if_pos (by rw[AI];omega),w1,g1,Aa,if_pos (by rw[show(Op.bytesLess z k||z==k)=false from hz];simp)]
     rw[lQ (body:=λs:Int=>Ko l k s) eb];have FJ:bl z k=false/\z≠k:=by simpa using hz
     refine ih A' (z::B) hn (by rw[<-e];simp) λy hy=> ?_;rcases Ae.1 hy with rfl|hy
     ·exact Sk FJ.1 FJ.2
     ·exact hB y hy
 exact key l.length l [] rfl (by simp) (by simp)
theorem NI:∀(ks o:List Aj),Em o->Em (ks.foldl (λo k=>C6 k o) o)/\((∀y,y∈ks.foldl (λo k=>C6 k o) o↔y∈ks\/y∈o)/\(ks.foldl (λo k=>C6 k o) o).length<=ks.length+o.length)
 | [],o,h=>⟨h,by simp,by simp⟩
 |k::ks,o,h=>by
  obtain⟨a,b,c⟩:=NI ks (C6 k o) (PD h);refine⟨a,λy=> ?_,?_⟩
  ·rw[List.foldl_cons,b,mP h];simp only[Ae];constructor
   ·rintro(x|x|x)
    ·exact .inl (.inr x)
    ·exact .inl (.inl x)
    ·exact .inr x
   ·rintro((x|x)|x)
    ·exact .inr (.inl x)
    ·exact .inl x
    ·exact .inr (.inr x)
  ·have:=aA (key:=λs:Aj=>s) (x:=k) o;unfold C6 at c;rw[List.foldl_cons,Bd];unfold C6;omega
theorem fD:∀a b:Aj,bl a b=true↔a<b
 | [],[]=>by simp[bl,Op.bytesLess]
 | [],_::_=>by simp[bl,Op.bytesLess]
 |_::_,[]=>by simp[bl,Op.bytesLess]
 |x::a,y::b=>by rw[aG,List.cons_lt_cons_iff,fD a b,UInt8.lt_iff_toNat_lt]
theorem zEU(a b:Aj):a<=b↔Ji a b:=by
 unfold Ji;constructor
 ·intro h;cases hb:bl b a with
  |false=>rfl
  |true=>exact absurd ((fD b a).1 hb) (List.not_lt.2 h)
 ·intro h;rw[<-List.not_lt];intro hl;rw[(fD b a).2 hl]at h;cases h
theorem zuh(xs:List Aj):(GA xs).Pairwise Ji:=by
 have h:=List.pairwise_mergeSort (le:=λx y:Aj=>decide (x<=y)) (λa b c h1 h2=>by
   simp only[AI]at h1 h2 ⊢;exact List.le_trans h1 h2)
  (λa b=>by simp only[Bool.or_eq_true,AI];exact List.le_total a b) xs
 refine List.Pairwise.imp (λ{a b} h=> ?_) h;exact(zEU a b).1 (of_decide_eq_true h)
theorem vE{xs zs:List Aj}(hz:Em zs)(h:∀y,y∈zs↔y∈xs):Lib.compact (GA xs)=zs:=by obtain⟨h1,h2⟩:=zvd (zuh xs);refine DX.ext h1 hz λy=> ?_;rw[h2,h,(xM xs).mem_iff]
theorem kK{α β:Type}(q:α->Bool)(f:α->List β):∀(xs:List α) (acc:List β),xs.foldlM (m:=Option) (λacc x=>if q x=true then none else some (acc++f x)) acc=if xs.any q=true then none else some (acc++xs.flatMap f)
 | [],acc=>by simp
 |x::xs,acc=>by
  rw[List.foldlM_cons,List.any_cons];by_cases hq:q x=true
  ·rw[if_pos hq,hq];rfl
  ·rw[if_neg hq];show xs.foldlM _ (acc++f x)=_;rw[kK q f xs (acc++f x)];simp[hq,List.append_assoc]
theorem vH{α σ:Type}(q:α->Bool)(f:σ->α->σ):∀(xs:List α) (acc:σ),xs.foldlM (m:=Option) (λacc x=>if q x=true then none else some (f acc x)) acc=if xs.any q=true then none else some (xs.foldl f acc)
 | [],acc=>by simp
 |x::xs,acc=>by
  rw[List.foldlM_cons,List.any_cons];by_cases hq:q x=true
  ·rw[if_pos hq,hq];rfl
  ·rw[if_neg hq];show xs.foldlM _ (f acc x)=_;rw[vH q f xs (f acc x)];simp[hq]
def GB(l:List Ak)(w:Ap):Bool:=match Ey l w.aj with|some c=>decide (16<=c.bb.length)|none=>false
def HD(h:AG):Prop:=h.aq.length<=8/\(h.ae.length<=8/\Il h.ae)
def En(w:Ap):Aj:=w.aj
def Dt(hs:List AG):List Ap:=hs.flatMap (·.ae)
def FY(l:List Ak)(ws:List Ap):List Aj:=l.map ck++ws.map En
def Ip(l:List Ak)(ws:List Ap):Bool:= !(ws.any (GB l))&&decide (((FY l ws).foldl (λo k=>C6 k o) []).length<=24)
theorem lH:∀{hs:List AG},(∀h∈hs,HD h)->(Dt hs).length<=8*hs.length
 | [],_=>by simp[Dt]
 |h::hs,ho=>by have h1:=(ho h (by simp)).2.1;have h2:=lH (hs:=hs) λx hx=>ho x (by simp[hx]);unfold Dt at h2 ⊢;rw[List.flatMap_cons,AH,Bd];omega
theorem oD{s:Ai}{hs:List AG}(h:DG 24 s.ao)(hl:hs.length<=60)(ho:∀h∈hs,HD h):U2 s hs=some (decide (hs.length<=12)&&Ip s.ao (Dt hs)):=by
 obtain⟨hr,Aw,hc⟩:=h;unfold U2;have l1:=(E7 (xs:=s.ao) (body:=λz:Int × List Aj=>QR s hs z.1 z.2) (λi z=>(i,z)) (λo c=>o++ [ck c]) (λo=>gS s hs o) (λi o=>o.length=i)
  (λi hi o hol=>by refine⟨?_,by simp[hol]⟩;show QR s hs (i:Int) o=_;unfold QR;rw[if_pos (by simpa using hi),AJ hi,Aa,A7 (by simp only[AS];omega),Be (by omega)])
  (λo hol=>by show QR s hs (s.ao.length:Int) o=_;unfold QR;rw[if_neg (by simp)]) (s:=[]) rfl).1
 refine l1.trans ?_;have e1:=foldl_map ck s.ao [];rw[e1,List.nil_append];unfold gS;have inner:∀(i:Nat) (y:AG) (acc:List Aj),HD y->acc.length<=1000->i<=100->Nq s hs (i:Int) acc=Nq s hs (i:Int) acc->Az (λz:Int × List Aj=>Ph s (i:Int) y z.1 z.2) (0,acc)=some (if y.ae.any (GB s.ao)=true then .inr (some false)else .inl (((i+1:Nat):Int),acc++y.ae.map En)):=by
  intro i y acc hy ha hi _;have hy8:=hy.2.1;have key:=Sz (xs:=y.ae) (body:=λz:Int × List Aj=>Ph s (i:Int) y z.1 z.2) (λj z=>((j:Int),z)) (λacc w=>if GB s.ao w=true then none else some (acc++ [En w])) (some (.inr (some false))) (λz=>X0 (i:Int) z) (λj z=>z.length<=1000+j)
   (λj z hj hz=>by
    refine⟨?_,λa ha=> ?_⟩
    ·show Ph s (i:Int) y (j:Int) z=_;unfold Ph;rw[if_pos (by simpa using hj),AJ hj,Aa,mS (by omega) hr,Aa,Be (by omega)];unfold GB;rcases Vz hr y.ae[j].aj with⟨hp,hk,hf⟩|⟨_,hf,_⟩
     ·rw[hf];simp only[Option.isSome_some,if_true];rw[AJ hp,Aa];by_cases Tk:16<=(s.ao[Bw s.ao y.ae[j].aj]).bb.length
      ·rw[if_pos (by simp;omega),if_pos (by simpa using Tk)]
      ·rw[if_neg (by simp;omega),if_neg (by simpa using Tk),A7 (by simp only[AS];omega)];rfl
     ·rw[hf];simp only[Option.isSome_none,Ba,if_false];rw[A7 (by simp only[AS];omega)];rfl
    ·split at ha
     ·cases ha
     ·cases ha;simp;omega)
   (λz _=>by show Ph s (i:Int) y (y.ae.length:Int) z=_;unfold Ph;rw[if_neg (by simp)]) acc (by omega)
  refine key.trans ?_;rw[kK];by_cases hq:y.ae.any (GB s.ao)=true
  ·rw[if_pos hq,if_pos hq]
  ·rw[if_neg hq,if_neg hq];show X0 (i:Int) _=_;unfold X0;rw[Be (by omega)];have e:∀l:List Ap,(l.flatMap λw=> [En w])=l.map En:=λl=>by induction l with|nil=>rfl|cons x l ih=>rw[List.flatMap_cons,ih];rfl
   rw[e]
 have key:=Sz (xs:=hs) (body:=λz:Int × List Aj=>Nq s hs z.1 z.2) (λj z=>((j:Int),z)) (λacc y=>if y.ae.any (GB s.ao)=true then none else some (acc++y.ae.map En)) (some false) (λz=>XW hs z) (λj z=>z.length<=24+8*j)
  (λj z hj hz=>by
   have hy:=ho _ (Ay hj);refine⟨?_,λa ha=> ?_⟩
   ·show Nq s hs (j:Int) z=_;have:=inner j hs[j] z hy (by omega) (by omega) rfl;unfold Nq;rw[if_pos (by simpa using hj),AJ hj,Aa];refine this.trans ?_;split<;>rfl
   ·split at ha
    ·cases ha
    ·cases ha;have:=hy.2.1;rw[AH,List.length_map];omega)
  (λz _=>by show Nq s hs (hs.length:Int) z=_;unfold Nq;rw[if_neg (by simp)]) (s.ao.map ck) (by simp;omega)
 refine key.trans ?_;rw[kK (λy:AG=>y.ae.any (GB s.ao)) (λy=>y.ae.map En)];have ea:(hs.any λy=>y.ae.any (GB s.ao))=(Dt hs).any (GB s.ao):=by unfold Dt;rw[List.any_flatMap]
 have eb:(hs.flatMap λy=>y.ae.map En)=(Dt hs).map En:=by unfold Dt;rw[List.map_flatMap]
 rw[ea,eb];unfold Ip;by_cases hq:(Dt hs).any (GB s.ao)=true
 ·rw[if_pos hq,hq];simp
 ·rw[if_neg hq];have MS:=lH ho;show XW hs _=_;unfold XW QL QK;rw[A7 (by rw[AH,List.length_map,List.length_map];omega),Aa];obtain⟨g1,g2,_⟩:=NI (FY s.ao (Dt hs)) [] List.Pairwise.nil;have e:=vE (xs:=s.ao.map ck++(Dt hs).map En) g1 λy=>by rw[g2];simp[FY]
  by_cases FJ:hs.length<=12
  ·rw[if_pos (by simp;omega),Aa];show some (decide (((Lib.compact (GA (s.ao.map ck++(Dt hs).map En))).length:Int)<=24))=_;rw[e];simp[hq,FJ];omega
  ·rw[if_neg (by simp;omega)];simp[FJ]
theorem Sw(k:Aj)(l:List Aj):(C6 k l).length<=l.length+1:=aA l
theorem oH{s:Ai}{ws:List Ap}(h:DG 24 s.ao)(hl:s.ab.length<=12)(ho:∀h∈s.ab,HD h)(hw:ws.length<=8):Vu s ws=some (Ip s.ao (ws++Dt s.ab)):=by
 obtain⟨hr,Aw,hc⟩:=h;unfold Vu;have l1:=E7 (xs:=s.ao) (body:=λz:List Aj × Int=>RB s ws z.1 z.2) (λi z=>(z,i)) (λo c=>C6 (ck c) o) (λo=>iH s ws o) (λi o=>Em o/\o.length<=i)
  (λi hi o hol=>by have hn:=Sw (ck s.ao[i]) o;refine⟨?_,PD hol.1,by omega⟩;show RB s ws o (i:Int)=_;unfold RB;rw[if_pos (by simpa using hi),AJ hi,Aa,SI (by omega) hol.1,Aa,Be (by omega)])
  (λo hol=>by show RB s ws o (s.ao.length:Int)=_;unfold RB;rw[if_neg (by simp)]) (s:=[]) ⟨List.Pairwise.nil,by simp⟩
 refine l1.1.trans ?_;obtain⟨r1,r2⟩:=l1.2;unfold iH;rw[A7 (by simp only[List.length_nil];omega)];have l2:=(E7 (xs:=s.ab) (body:=λz:Int × List Ap=>RF s (s.ao.foldl (λo c=>C6 (ck c) o) []) z.1 z.2) (λi z=>(i,z)) (λo y=>o++y.ae) (λo=>iI s (s.ao.foldl (λo c=>C6 (ck c) o) []) o) (λi o=>o.length<=8+8*i)
  (λi hi o hol=>by have hy:=(ho _ (Ay hi)).2.1;refine⟨?_,by rw[AH];omega⟩;show RF s _ (i:Int) o=_;unfold RF;rw[if_pos (by simpa using hi),AJ hi,Aa,A7 (by omega),Be (by omega)])
  (λo hol=>by show RF s _ (s.ab.length:Int) o=_;unfold RF;rw[if_neg (by simp)]) (s:=ws) (by omega)).1
 refine l2.trans ?_;have eh:∀(hs:List AG) (o:List Ap),hs.foldl (λo y=>o++y.ae) o=o++Dt hs:=by
  intro hs
  induction hs with
  |nil=>intro o;simp[Dt]
  |cons x hs ih=>intro o;rw[List.foldl_cons,ih];simp[Dt]
 rw[eh];have hhl:=lH ho;unfold iI;have key:=Sz (xs:=ws++Dt s.ab) (body:=λz:List Aj × Int=>Rv s (ws++Dt s.ab) z.1 z.2) (λi z=>(z,(i:Int))) (λacc w=>if GB s.ao w=true then none else some (C6 (En w) acc)) (some false) (λz=>Yo z) (λi z=>Em z/\z.length<=24+i)
  (λi z hi hz=>by
   have IF:=hi;rw[AH]at IF;refine⟨?_,λa ha=> ?_⟩
   ·show Rv s (ws++Dt s.ab) z (i:Int)=_;unfold Rv;rw[if_pos (by simp only[AI];omega),AJ hi,Aa,SI (by omega) hz.1,Aa,Be (by omega)];unfold GB;obtain⟨j,e,⟨h1,h2⟩|⟨h1,c,h2,h3⟩⟩:=rQ (l:=s.ao) (k:=(ws++Dt s.ab)[i].aj) (by omega) hr
    ·rw[e,Aa,if_neg (by simpa using h1),h2];rfl
    ·rw[e,Aa,if_pos (by simpa using h1),h2,Aa,h3];by_cases Tk:16<=c.bb.length
     ·rw[if_pos (by simp;omega),if_pos (by simpa using Tk)]
     ·rw[if_neg (by simp;omega),if_neg (by simpa using Tk)];rfl
   ·split at ha
    ·cases ha
    ·cases ha;have hn:=Sw (En (ws++Dt s.ab)[i]) z;exact⟨PD hz.1,by omega⟩)
  (λz _=>by show Rv s (ws++Dt s.ab) z ((ws++Dt s.ab).length:Int)=_;unfold Rv;rw[if_neg (by simp)]) (s.ao.foldl (λo c=>C6 (ck c) o) []) ⟨r1,by omega⟩
 refine key.trans ?_;rw[vH (GB s.ao) (λacc w=>C6 (En w) acc)];unfold Ip;by_cases hq:(ws++Dt s.ab).any (GB s.ao)=true
 ·rw[if_pos hq,hq];simp
 ·rw[if_neg hq];show Yo _=_;unfold Yo FY;have e:(s.ao.map ck++(ws++Dt s.ab).map En).foldl (λo k=>C6 k o) []=(ws++Dt s.ab).foldl (λacc w=>C6 (En w) acc) (s.ao.foldl (λo c=>C6 (ck c) o) []):=by
   rw[List.foldl_append,List.foldl_map (f:=ck),List.foldl_map (f:=En)]
  rw[e,Bool.eq_false_iff.2 hq];simp only[Bool.not_false,Bool.true_and,Ad,decide_eq_decide];omega
theorem zx9(l:List Ak)(a b:List Ap):Ip l (a++b)=Ip l (b++a):=by
 unfold Ip;have e:(FY l (a++b)).foldl (λo k=>C6 k o) []=(FY l (b++a)).foldl (λo k=>C6 k o) []:=by obtain⟨g1,g2,_⟩:=NI (FY l (a++b)) [] List.Pairwise.nil;obtain⟨g3,g4,_⟩:=NI (FY l (b++a)) [] List.Pairwise.nil;refine DX.ext g1 g3 λy=> ?_;rw[g2,g4];simp[FY,or_comm]
 rw[e,List.any_append,List.any_append,Bool.or_comm]
theorem xO(ws:List Ap)(k:Aj):Im ws k=(ws.find? λw=>w.aj==k).isSome:=by unfold Im;rw[SB]
theorem Se{ws os:List Ap}{rs:List Aj}(hw:ws.length<=2000000)(hr:rs.length<=2000000)(ho:os.length<=2000000)(hR:Il os):Vx ws rs os=some (B9 ws rs os):=by
 unfold Vx;rw[Kx (xs:=ws) (λw=>Im os w.aj||rs.contains w.aj) (λw _=> ?_) (by omega),Aa]
 ·rfl
 ·unfold iU;obtain⟨i,⟨e,x,_,h⟩|⟨e,h⟩⟩:=zDQ (k:=w.aj) ho hR
  ·rw[e,Aa,xO,h];rfl
  ·rw[e,Aa,xO,h,zEm hr];simp
theorem zBU{h:AG}{rs:List Aj}{ws:List Ap}(hh:HD h)(hr:rs.length<=8)(hw:ws.length<=8)(hR:Il ws):X1 h ⟨0,0,0,rs,ws⟩=some (C4 h rs ws):=by
 obtain⟨h1,h2,h3⟩:=hh;unfold X1 R7;rw[Se (by show ws.length<=_;omega) (by omega) (by omega) h3,Aa];unfold C4;show(if B9 ws h.aq h.ae=true then some true else _).bind _=_;cases B9 ws h.aq h.ae with
 |true=>simp
 |false=>rw[if_neg (by simp)];rw[Se (by omega) (by show rs.length<=_;omega) (by show ws.length<=_;omega) hR,Aa,Aa];simp
theorem Z1{h:AG}{rs:List Aj}{ws:List Ap}(hh:HD h)(hr:rs.length<=8)(hw:ws.length<=8):RS h rs ws=some (!C4 h rs ws):=by
 obtain⟨h1,h2,h3⟩:=hh;unfold RS;have k1:Yt h ws=some (!B9 ws h.aq h.ae):=by
  unfold Yt;refine(Pz (xs:=ws) (λw=>Im h.ae w.aj||h.aq.contains w.aj) (λ_=>some false) (some true) (λi hi=>by
   unfold iF;rw[if_pos (by simpa using hi),AJ hi,Aa,rF (by omega),Aa,Be (by omega)];cases Im h.ae ws[i].aj with
   |true=>rfl
   |false=>
    rw[if_neg (by simp),zEo (by omega),Aa,Bool.false_or];have e:h.aq.any (· ==ws[i].aj)=h.aq.contains ws[i].aj:=by rw[Bool.eq_iff_iff,List.any_eq_true,List.contains_iff_mem];exact⟨λ⟨x,hx,he⟩=>(show x=ws[i].aj by simpa using he)▸hx,λhm=>⟨_,hm,by simp⟩⟩
    rw[e];cases h.aq.contains ws[i].aj<;>rfl) (by
   unfold iF;rw[if_neg (by simp)])).trans ?_
  unfold B9;rw[<-SB];cases ws.find? (λw=>Im h.ae w.aj||h.aq.contains w.aj)<;>rfl
 refine(Pz (xs:=rs) (λr=>Im h.ae r) (λ_=>some false) (Yt h ws) (λi hi=>by
  unfold iP;rw[if_pos (by simpa using hi),AJ hi,Aa,rF (by omega),Aa,Be (by omega)];cases Im h.ae rs[i]<;>rfl) (by
  unfold iP;rw[if_neg (by simp)])).trans ?_
 have e:C4 h rs ws=(rs.any (Im h.ae)||B9 ws h.aq h.ae):=by
  unfold C4;rw[Bool.eq_iff_iff,Bool.or_eq_true,Bool.or_eq_true];constructor
  ·rintro(hc|hc)
   ·obtain⟨w,Qt,Uq⟩:=List.any_eq_true.1 hc;rcases Bool.or_eq_true _ _▸Uq with hq|hq
    ·obtain⟨v,FB,Dn⟩:=List.any_eq_true.1 hq;have Dn:v.aj=w.aj:=by simpa using Dn
     exact .inr (List.any_eq_true.2 ⟨v,FB,by rw[Bool.or_eq_true];left;exact List.any_eq_true.2 ⟨w,Qt,by simp[Dn]⟩⟩)
    ·exact .inl (List.any_eq_true.2 ⟨w.aj,List.contains_iff_mem.1 hq,List.any_eq_true.2 ⟨w,Qt,by simp⟩⟩)
   ·exact .inr hc
  ·rintro(hc|hc)
   ·obtain⟨r,FR,DR⟩:=List.any_eq_true.1 hc;obtain⟨w,Qt,Uq⟩:=List.any_eq_true.1 DR;have Uq:w.aj=r:=by simpa using Uq
    exact .inl (List.any_eq_true.2 ⟨w,Qt,by rw[Bool.or_eq_true];right;exact List.contains_iff_mem.2 (Uq▸FR)⟩)
   ·exact .inr hc
 rw[k1,e,<-SB];cases rs.find? (Im h.ae)<;>rfl
def Lj(s:Ai)(rs:List Aj)(ws:List Ap):Bool:= !(s.ab.any λh=>C4 h rs ws)&&(decide (s.ab.length<12)&&Ip s.ao (ws++Dt s.ab))
theorem zDw{s:Ai}{rs:List Aj}{ws:List Ap}(h:DG 24 s.ao)(hl:s.ab.length<=12)(ho:∀h∈s.ab,HD h)(hr:rs.length<=8)(hw:ws.length<=8)(hR:Il ws):X6 s rs ws=some (Lj s rs ws):=by
 unfold X6 Lj;rw[Kx (xs:=s.ab) (λh=>C4 h rs ws) (λy hy=>zBU (ho y hy) hr hw hR) (by omega),Aa];cases hq:s.ab.any (λh=>C4 h rs ws)with
 |true=>rw[if_pos rfl];rfl
 |false=>
  rw[if_neg (by simp)];have Aw:gH s.ab=some s.ab:=Jn (by omega) (by omega);rw[Aw,Aa,A7 (by simp only[AS];omega),oD h (by simp;omega) (λy hy=>by
   rcases Ac.1 hy with hy|hy
   ·exact ho y hy
   ·have:y=⟨0,0,0,rs,ws⟩:=by simpa using hy
    subst this;exact⟨hr,hw,hR⟩),Aa]
  have e:Dt (s.ab++ [(⟨0,0,0,rs,ws⟩:AG)])=Dt s.ab++ws:=by unfold Dt;simp
  rw[e,zx9];simp only[Bool.not_false,Bool.true_and,AH,AS];congr 2
theorem zDs{s:Ai}{rs:List Aj}{ws:List Ap}(h:DG 24 s.ao)(hl:s.ab.length<=12)(ho:∀h∈s.ab,HD h)(hr:rs.length<=8)(hw:ws.length<=8):Zh s rs ws=some (Lj s rs ws):=by
 unfold Zh;refine(Pz (xs:=s.ab) (λh=>C4 h rs ws) (λ_=>some false) (Yv s ws) (λi hi=>by
  unfold iM;rw[if_pos (by simpa using hi),AJ hi,Aa,Z1 (ho _ (Ay hi)) hr hw,Aa,Be (by omega),Bool.not_not];cases C4 s.ab[i] rs ws<;>rfl) (by
  unfold iM;rw[if_neg (by simp)])).trans ?_
 unfold Lj;rw[<-SB];cases s.ab.find? (λh=>C4 h rs ws)with
 |some y=>rfl
 |none=>
  show Yv s ws=_;unfold Yv;rw[oH h hl ho hw];by_cases FJ:s.ab.length<12
  ·rw[if_pos (by simp;omega)];simp[FJ]
  ·rw[if_neg (by simp;omega)];simp[FJ]
end
end Go.Proofs.YtalagilebkaegaaGreat

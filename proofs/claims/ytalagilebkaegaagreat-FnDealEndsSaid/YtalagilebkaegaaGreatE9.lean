/- Parts of a proof, joined: QF3, QF4, QR, NA, NE, N5, PK, NK, NP, NF, NC, NGA, NX, N6, NSP, NSQ, NSR, NSS, NST, NKR, NSU, NSV. -/
import Derived.Test.YtalagilebkaegaaGreatE8
set_option linter.unusedVariables false
set_option linter.unusedSimpArgs false
namespace Go.Proofs.YtalagilebkaegaaGreat
noncomputable section
open Go.RowKit
set_option maxRecDepth 100000
set_option maxHeartbeats 4000000
def mA:FS:=As 39 [.v (.st 9)] (.v (.st 9)) (λx=>SQ x.1) [VJ,zqO,lK] [.sp [.i .i64, .l (.st 8)], .sp [.i .i64, .l (.st 6)]]
def znb:FS:=As 95 [.v (.st 6), .rf (.st 10)] (.v .b) (λx=>kP x.1 x.2.1) [] []
def zmy:FS:=Hd znb λ_=>by kernel_rfl
def zuH:FS:=As 170 [.v (.l .s), .v (.l (.st 0))] (.v (.l .s)) (λx=>Z8 x.1 x.2.1) [VJ,x5,w7,w5] []
def mG:FS:=As 171 [.v (.l .s), .v .s] (.v (.i .i64)) (λx=>Ws x.1 x.2.1) [] [.sp [.i .i64, .i .i64], .inl]
def zsX:FS:=As 104 [.v (.l .s), .v (.l .s), .v (.l (.st 0))] (.v (.l (.i .i64))) (λx=>ZT x.1 x.2.1 x.2.2.1) [zuH,zjU,mG] [.sp [.i .i64, .l (.i .i64)]]
def RO:FS:=As 46 [.v (.st 9), .v (.st 6)] (.v (.l (.i .i64))) (λx=>KJ x.1 x.2.1) [zsX] []
def zkw:FS:=As 194 [.v (.l (.i .i64)), .v (.i .i64)] (.v (.i .i64)) (λx=>kC x.1 x.2.1) [] [.sp [.i .i64]]
def w6:FS:=As 128 [.v (.l (.i .i64)), .v (.i .i64)] (.v .b) (λx=>VK x.1 x.2.1) [zkw] []
def zdD:FS:=As 121 [.v (.l (.st 2)), .v (.i .i64), .fn [.st 2, .i .i64] (.i .i64)] (.tu (.cons (.v (.i .i64)) (.cons (.v .b) .nil))) (λx=>YD x.1 x.2.1 (λy0 y1=>x.2.2.1.φ (y0,y1,()))) [] [.sp [.i .i64, .i .i64]]
def zky:FS:=As 122 [.v (.st 2), .v (.i .i64)] (.v (.i .i64)) (λx=>PK x.1 x.2.1) [xU] []
def zj8:FS:=Hd zky λ_=>by kernel_rfl
def PO:FS:=As 59 [.v (.st 8), .v (.i .i64)] (.tu (.cons (.v (.i .i64)) (.cons (.v .b) .nil))) (λx=>KG x.1 x.2.1) [zdD,zj8] []
def zuG:FS:=As 158 [.v (.i .i64)] (.tu (.cons (.v (.i .i64)) (.cons (.v .b) .nil))) (λx=>mL x.1) [] []
def zhg:FS:=D4 265 [.v (.l .s), .fn [.s] .b] (.v (.i .i64)) (λx=>Gb x.1 (λy=>x.2.1.φ (y,()))) λx r hp h=>FW (f:=265) (t:=dD) (by kernel_rfl) (by kernel_rfl) (zyG (av:=(B3 C7.av .s)) (λ_=>rfl) h (λy b hb=>hp.2.1 (y,()) b hb))
def zg1:FS:=D4 218 [.v (.l .s), .fn [.s] .b] (.v (.l .s)) (λx=>P7 x.1 (λy=>x.2.1.φ (y,()))) λx r hp h=>FW (f:=218) (t:=Yn 265 1 false (.fld (.idx (.var 5) (.var 4)) 0 1 false) [] (.str (ByteArray.mk #[]))) (by kernel_rfl) (by kernel_rfl) (tZ (av:=(B3 C7.av .s)) (λx=>⟨On _ x,Qf (by kernel_rfl) x,(λe=>nomatch e),λ_=>rfl⟩) (by decide) (λa b c d j ys x tl hj=>by simp[AV.nth,hj,B3,PB]) (λa b c d j ys x hj=>by simp[AV.nth,hj,B3,PB]) h (λi hi=>zhg.ok x i hp hi) (λy b hb=>hp.2.1 (y,()) b hb))
def zqI:FS:=As 219 [.v .s, .rf (.l .s), .rf (.i .i64)] (.v .b) (λx=>Zp x.1 x.2.1 x.2.2.1) [mG] []
def zp7:FS:=Hd zqI λ_=>by kernel_rfl
def ztf:FS:=As 159 [.v (.l .s), .v (.l .s), .v (.i .i64)] (.v (.l .s)) (λx=>ZW x.1 x.2.1 x.2.2.1) [VJ,zg1,zp7] []
def zfd:FS:=D4 220 [.v (.l (.st 0)), .fn [.st 0] .b] (.v (.l (.st 0))) (λx=>P7 x.1 (λy=>x.2.1.φ (y,()))) λx r hp h=>FW (f:=220) (t:=Yn 236 3 true (.mk (.cons (.fld (.fld (.idx (.var 5) (.var 4)) 0 3 true) 0 1 false) (.cons (.fld (.fld (.idx (.var 5) (.var 4)) 0 3 true) 1 1 false) (.cons (.fld (.fld (.idx (.var 5) (.var 4)) 0 3 true) 2 1 false) .nil)))) [(.agg (.fld (.idx (.var 5) (.var 4)) 0 3 true) 3)] (.mk (.cons (.str (ByteArray.mk #[])) (.cons (.str (ByteArray.mk #[])) (.cons (.bool false) .nil))))) (by kernel_rfl) (by kernel_rfl) (tZ (av:=(B3 C7.av (.st 0))) (λx=>⟨On _ x,Qf (by kernel_rfl) x,λ_=>⟨_,rfl⟩,λe=>nomatch e⟩) (by decide) (λa b c d j ys x tl hj=>by simp[AV.nth,hj,B3,PB]) (λa b c d j ys x hj=>by simp[AV.nth,hj,B3,PB]) h (λi hi=>wY.ok x i hp hi) (λy b hb=>hp.2.1 (y,()) b hb))
def zpx:FS:=As 221 [.v (.st 0), .rf (.l .s), .rf (.i .i64)] (.v .b) (λx=>Zv x.1 x.2.1 x.2.2.1) [mG] []
def zoQ:FS:=Hd zpx λ_=>by kernel_rfl
def zsb:FS:=As 160 [.v (.l .s), .v (.l (.st 0)), .v (.i .i64)] (.v (.l (.st 0))) (λx=>ZI x.1 x.2.1 x.2.2.1) [jV,zfd,zoQ] []
def zsd:FS:=As 280 [.v (.l (.st 4)), .v (.l (.st 0)), .v (.i .i64)] (.tu (.cons (.v (.l (.st 4))) (.cons (.v .b) .nil))) (λx=>ZJ x.1 x.2.1 x.2.2.1) [x7,x6,mC,lZ,zgo] [.sp [.i .i64, .l (.st 4)], .inl]
def zlT:FS:=As 250 [.v (.st 8), .v (.st 7)] (.tu (.cons (.v (.st 8)) (.cons (.v .b) .nil))) (λx=>YS x.1 x.2.1) [lK,Rv,zgF,PO,zgp,zsd] [.pt, .inl]
def zmA:FS:=As 283 [.v (.st 1), .rf (.st 1)] (.v .b) (λx=>Y4 x.1 x.2.1) [zA] []
def zlW:FS:=Hd zmA λ_=>by kernel_rfl
def zgK:FS:=D4 284 [.v (.l (.st 1))] (.v (.l (.st 1))) (λx=>jX x.1) λx r hp h=>FW (f:=284) (t:=rH 72 5) (by kernel_rfl) (by kernel_rfl) (zzu (bytes:=72) (sz:=5) (av:=(B3 C7.av (.st 1))) (λx=>On _ x) h)
def zok:FS:=As 251 [.v (.st 8), .v (.l .s), .v (.l (.st 0))] (.v .b) (λx=>Zj x.1 x.2.1 x.2.2.1) [wX,zlW,zgK,xL] []
def zlU:FS:=As 193 [.v (.st 8), .v (.st 7)] (.tu (.cons (.v (.st 8)) (.cons (.v .b) .nil))) (λx=>YO x.1 x.2.1) [lK,PO,zlT,Rv,zok,yS,zgz] []
def Y7:FS:=As 127 [.v (.st 9), .v (.i .i64), .v (.st 7)] (.tu (.cons (.v (.st 9)) (.cons (.v .b) .nil))) (λx=>PI x.1 x.2.1 x.2.2.1) [zlU,mA] []
def zme:FS:=As 96 [.v (.st 9), .v (.st 6), .v (.i .i64)] (.tu (.cons (.v (.st 9)) (.cons (.v .b) .nil))) (λx=>Y6 x.1 x.2.1 x.2.2.1) [RO,w6,PO,zuG,ztf,zsb,Y7] []
def zni:FS:=As 97 [.v (.st 9), .v (.st 6), .v (.i .i64)] (.tu (.cons (.v (.st 9)) (.cons (.v .b) .nil))) (λx=>YV x.1 x.2.1 x.2.2.1) [yV,RO,Y7,Rv] [.sp [.i .i64, .i .i64]]
def xP:FS:=As 63 [.v (.st 9), .v (.st 6)] (.tu (.cons (.v (.st 9)) (.cons (.v .b) .nil))) (λx=>PJ x.1 x.2.1) [RO,Y7] []
def xE:FS:=As 64 [.v (.st 9), .v (.st 6), .v (.i .i64)] (.tu (.cons (.v (.st 9)) (.cons (.v .b) .nil))) (λx=>PH x.1 x.2.1 x.2.2.1) [RO,PO,Y7,w6] [.pt]
def zoA:FS:=As 40 [.v (.st 9), .v (.st 10)] (.tu (.cons (.v (.st 9)) (.cons (.v .b) .nil))) (λx=>V2 x.1 x.2.1) [wZ,zmy,zme,zni,xP,xE] []
def zrM:FS:=As 9 [.v (.st 9), .v (.l (.st 10))] (.tu (.cons (.v (.st 9)) (.cons (.v (.l .b)) (.cons (.v .b) .nil)))) (λx=>ZM x.1 x.2.1) [lY,mA,zoA] [.sp [.i .i64, .l .s, .l (.st 8), .l (.st 6), .l .b], .inl]
def mQ:FS:=As 161 [.v (.i .i64)] (.v .b) (λx=>Qb x.1) [S5] []
def zuc:FS:=As 222 [.v (.st 4)] (.v .b) (λx=>Z6 x.1) [aH,S5,yU,yG] [.sp [.i .i64]]
def yT:FS:=As 162 [.v (.l (.st 4))] (.v .b) (λx=>Wu x.1) [zuc] [.sp [.i .i64]]
def xT:FS:=As 103 [.v (.st 1)] (.v (.st 7)) (λx=>PR x.1) [] []
def zrq:FS:=As 267 [.v (.l (.st 0)), .v .s] (.v .b) (λx=>Wn x.1 x.2.1) [] [.sp [.i .i64]]
def zu5:FS:=As 268 [.v (.l .s), .v .s] (.v .b) (λx=>aA x.1 x.2.1) [] [.sp [.i .i64]]
def yD:FS:=As 223 [.v (.st 1), .v (.l .s), .v (.l (.st 0))] (.v .b) (λx=>SC x.1 x.2.1 x.2.2.1) [zrq,zu5] [.sp [.i .i64], .sp [.i .i64]]
def zrv:FS:=As 225 [.v (.l (.st 4)), .v .s] (.v (.i .i64)) (λx=>WB x.1 x.2.1) [] [.sp [.i .i64]]
def mP:FS:=As 164 [.v (.l (.st 4)), .v .s] (.v (.i .i64)) (λx=>P8 x.1 x.2.1) [zrv] []
def yI:FS:=As 224 [.v (.st 8), .v (.l (.st 0))] (.v .b) (λx=>Wj x.1 x.2.1) [aB,zrv] [.sp [.l .s, .i .i64], .sp [.i .i64, .l (.st 0)], .sp [.l .s, .i .i64]]
def zsU:FS:=As 163 [.v (.st 8)] (.v .b) (λx=>SN x.1) [yI,xT,mN,mP,yD] [.sp [.i .i64], .sp [.i .i64], .sp [.i .i64]]
def V8:FS:=As 68 [.v (.st 8), .v (.i .i64)] (.tu (.cons (.v (.st 1)) (.cons (.v .b) .nil))) (λx=>Jd x.1 x.2.1) [] [.sp [.i .i64]]
def mK:FS:=As 98 [.v (.st 8)] (.v .b) (λx=>Mt x.1) [mQ,yT,zsU,S5,V8,mP] [.sp [.i .i64], .sp [.i .i64]]
def yE:FS:=As 41 [.v (.st 9)] (.v .b) (λx=>SP x.1) [yJ,x8,mK] [.sp [.i .i64]]
def zE:FS:=As 195 [.v (.l (.st 4))] (.v (.l (.st 4))) (λx=>Wz x.1) [] [.sp [.l (.st 4), .i .i64]]
def zqc:FS:=As 196 [.v (.st 1)] (.v (.st 1)) (λx=>Zu x.1) [SY] []
def yQ:FS:=As 131 [.v (.st 8)] (.v (.st 8)) (λx=>Wt x.1) [zE,zqc] [.sp [.i .i64, .l (.st 1)]]
def mM:FS:=As 66 [.v (.st 9)] (.v (.st 9)) (λx=>SW x.1) [SY,yO,yQ] [.sp [.i .i64, .l (.st 8)]]
def ZN:FS:=As 69 [.v (.st 8), .v (.i .i64)] (.tu (.cons (.v (.st 2)) (.cons (.v .b) .nil))) (λx=>P0 x.1 x.2.1) [] [.sp [.i .i64]]
def zwl:FS:=As 186 [.v (.l (.i .i64)), .v (.i .i64)] (.v .b) (λx=>Wy x.1 x.2.1) [] [.sp [.i .i64]]
def mI:FS:=As 189 [.v (.i .i64), .v (.i .i64)] (.v (.i .i64)) (λx=>KR x.1 x.2.1) [] []
def zpc:FS:=As 187 [.v (.st 8), .v (.i .i64)] (.tu (.cons (.v (.i .i64)) (.cons (.v .b) .nil))) (λx=>Y9 x.1 x.2.1) [mK,mQ,mI] []
def zsc:FS:=As 188 [.v (.l .s), .v (.l .s), .v (.l (.st 0)), .v (.i .i64)] (.tu (.cons (.v (.l .s)) (.cons (.v (.l (.st 0))) .nil))) (λx=>mB x.1 x.2.1 x.2.2.1 x.2.2.2.1) [yN] [.sp [.l .s, .i .i64], .inl, .sp [.l (.st 0), .i .i64], .inl]
def zt1:FS:=As 119 [.v (.st 9), .v (.st 6), .v (.st 10)] (.tu (.cons (.v (.st 7)) (.cons (.v (.i .i64)) (.cons (.v .b) .nil)))) (λx=>aD x.1 x.2.1 x.2.2.1) [aI,ZN,zwl,zpc,zsc,mQ,V8,mI] [.sp [.i .i64, .i .i64]]
def zpY:FS:=As 245 [.v (.l (.st 1)), .v (.st 1)] (.v (.l (.st 1))) (λx=>Zz x.1 x.2.1) [] [.sp [.i .i64]]
def zs9:FS:=As 246 [.v (.st 8), .v (.l .s), .v (.l (.st 0))] (.v .b) (λx=>ZZ x.1 x.2.1 x.2.2.1) [yI,yD] [.sp [.i .i64]]
def zv7:FS:=As 247 [.v (.l (.st 4)), .v (.l (.st 0)), .v (.i .i64)] (.tu (.cons (.v (.l (.st 4))) (.cons (.v .b) .nil))) (λx=>Z4 x.1 x.2.1 x.2.2.1) [zE,yT,mP] [.sp [.i .i64, .l (.st 4)], .inl, .sp [.i .i64]]
def zpF:FS:=As 249 [.v (.l (.st 2)), .v (.st 2)] (.v (.l (.st 2))) (λx=>V0 x.1 x.2.1) [] [.sp [.i .i64]]
def xX:FS:=As 191 [.v (.st 8), .v (.st 7)] (.tu (.cons (.v (.st 8)) (.cons (.v .b) .nil))) (λx=>Wr x.1 x.2.1) [yQ,V8,ZN,SY,zpY,zs9,zv7,mI,zs4,zpF] [.inl]
def zsx:FS:=As 120 [.v (.st 8), .v (.st 7)] (.tu (.cons (.v (.st 8)) (.cons (.v .b) .nil))) (λx=>ZF x.1 x.2.1) [mK,mN,xX] []
def zsY:FS:=As 57 [.v (.st 9), .v (.st 10)] (.tu (.cons (.v (.st 9)) (.cons (.v .b) .nil))) (λx=>Wi x.1 x.2.1) [yZ,zt1,zsx,mM] []
def yL:FS:=As 42 [.v (.st 9), .v (.l (.st 10))] (.tu (.cons (.v (.st 9)) (.cons (.v (.l .b)) .nil))) (λx=>P5 x.1 x.2.1) [mM,zsY] [.sp [.l .b, .i .i64, .l .s, .l (.st 8), .l (.st 6)], .inl]
def zq0:FS:=As 43 [.v (.l .s), .v (.l .s)] (.v .b) (λx=>Wc x.1 x.2.1) [] [.sp [.i .i64]]
def zqZ:FS:=As 101 [.v (.l (.st 4)), .v (.l (.st 4))] (.v .b) (λx=>ZP x.1 x.2.1) [] [.sp [.i .i64], .sp [.i .i64]]
def zsV:FS:=As 168 [.v (.l .s), .v (.l .s)] (.v .b) (λx=>Z3 x.1 x.2.1) [] [.sp [.i .i64]]
def zte:FS:=As 169 [.v (.l (.st 0)), .v (.l (.st 0))] (.v .b) (λx=>ZS x.1 x.2.1) [] [.sp [.i .i64]]
def zsW:FS:=As 102 [.v (.st 7), .v (.st 7)] (.v .b) (λx=>Z0 x.1 x.2.1) [zsV,zte] []
def zqL:FS:=As 44 [.v (.st 8), .v (.st 8)] (.v .b) (λx=>Zr x.1 x.2.1) [zqZ,xT,zsW] [.sp [.i .i64], .sp [.i .i64]]
def zpo:FS:=As 45 [.v (.l (.st 0)), .v (.l (.st 0))] (.v .b) (λx=>Zc x.1 x.2.1) [] [.sp [.i .i64]]
def zqG:FS:=As 12 [.v (.st 9), .v (.st 9)] (.v .b) (λx=>Wa x.1 x.2.1) [zq0,zpo,zqL] [.sp [.i .i64], .sp [.i .i64]]
def zfX:FS:=D4 173 [.v (.l (.st 2)), .fn [.st 2] .b] (.v (.i .i64)) (λx=>Gb x.1 (λy=>x.2.1.φ (y,()))) λx r hp h=>FW (f:=173) (t:=QF 3) (by kernel_rfl) (by kernel_rfl) (Xs (av:=(B3 C7.av (.st 2))) (cn:=3) (λ_=>⟨_,rfl,rfl⟩) h (λy b hb=>hp.2.1 (y,()) b hb))
def zfe:FS:=D4 105 [.v (.l (.st 2)), .fn [.st 2] .b] (.v .b) (λx=>DR x.1 (λy=>x.2.1.φ (y,()))) λx r hp h=>FW (f:=105) (t:=OF 173) (by kernel_rfl) (by kernel_rfl) (TK h λr hr=>zfX.ok x r hp hr)
def zrG:FS:=As 106 [.v (.st 2), .rf (.l (.st 2)), .rf (.i .i64)] (.v .b) (λx=>Wl x.1 x.2.1 x.2.2.1) [] []
def zqT:FS:=Hd zrG λ_=>by kernel_rfl
def zuZ:FS:=As 47 [.v (.l (.st 8)), .v (.i .i64)] (.v .b) (λx=>mO x.1 x.2.1) [zfe,zqT,PO,Rv] [.sp [.i .i64, .i .i64, .l (.st 2)], .inl]
def zqQ:FS:=As 13 [.v (.st 9)] (.tu (.cons (.v .b) (.cons (.v .b) .nil))) (λx=>PX x.1) [lY,RO,zuZ] [.sp [.i .i64], .sp [.i .i64, .l (.st 8)]]
def zoc:FS:=As 279 [.rf (.st 5)] (.tu (.cons (.v (.st 7)) (.cons (.v (.st 5)) .nil))) (λx=>Zl x.1) [KH,xF,xH,aB,Zg] [.inl, .sp [.i .i64, .l (.i .u8), .i .i64, .i .u64, .l .s]]
def znk:FS:=As 241 [.rf (.st 5)] (.tu (.cons (.v (.l (.st 7))) (.cons (.v (.st 5)) .nil))) (λx=>YX x.1) [KH,zoc] [.sp [.l (.st 7), .i .i64, .i .i64, .l (.i .u8), .i .i64, .i .u64], .pt, .inl]
def zvJ:FS:=As 240 [.v (.l (.st 7))] (.tu (.cons (.v (.st 8)) (.cons (.v (.l .b)) .nil))) (λx=>aJ x.1) [xX] [.sp [.l .b, .i .i64, .i .i64, .l (.st 4), .l (.st 1), .l (.st 2)], .inl]
def zl4:FS:=As 185 [.rf (.st 5)] (.tu (.cons (.v (.st 8)) (.cons (.v (.st 5)) .nil))) (λx=>kQ x.1) [znk,zvJ] []
def zk3:FS:=As 116 [.rf (.st 5)] (.tu (.cons (.v (.st 8)) (.cons (.v (.st 5)) .nil))) (λx=>YJ x.1) [zl4,KH,xC] [.inl]
def znj:FS:=As 55 [.rf (.st 5)] (.tu (.cons (.v (.st 9)) (.cons (.v (.st 5)) .nil))) (λx=>VV x.1) [xB,yL,KH,zk3] [.inl]
def zja:FS:=D4 124 [.v (.l (.i .i64)), .fn [.i .i64] .b] (.v (.i .i64)) (λx=>Gb x.1 (λy=>x.2.1.φ (y,()))) λx r hp h=>FW (f:=124) (t:=dD) (by kernel_rfl) (by kernel_rfl) (zyG (av:=(B3 C7.av (.i .i64))) (λ_=>rfl) h (λy b hb=>hp.2.1 (y,()) b hb))
def zh7:FS:=D4 60 [.v (.l (.i .i64)), .fn [.i .i64] .b] (.v .b) (λx=>DR x.1 (λy=>x.2.1.φ (y,()))) λx r hp h=>FW (f:=60) (t:=OF 124) (by kernel_rfl) (by kernel_rfl) (TK h λr hr=>zja.ok x r hp hr)
def zog:FS:=As 61 [.v (.i .i64), .rf (.st 9), .rf (.st 6)] (.v .b) (λx=>Zh x.1 x.2.1 x.2.2.1) [Rv] []
def znf:FS:=Hd zog λ_=>by kernel_rfl
def zn6:FS:=As 58 [.v (.st 9), .v .b, .rf (.st 9)] (.tu (.cons (.tu .nil) (.cons (.v (.st 9)) .nil))) (λx=>Ze x.1 x.2.1 x.2.2.1) [] []
def zpW:FS:=As 19 [.v (.st 9)] (.tu (.cons (.v (.st 9)) (.cons (.v .b) .nil))) (λx=>NU x.1) [lY,mA,RO,PO,zh7,znf,xE,zn6,xP] [.sp [.i .i64, .l .s, .l (.st 8), .l (.st 6)], .pt, .sp [.i .i64, .l .s, .l (.st 8), .l (.st 6)]]
def zqU:FS:=As 20 [.v (.st 8), .v (.i .i64)] (.tu (.cons (.v (.st 2)) (.cons (.v .b) .nil))) (λx=>Zn x.1 x.2.1) [xZ,PO] []
def xI:FS:=As 65 [.v (.l (.i .u8))] (.v (.st 9)) (λx=>VR x.1) [znj] []
def zmJ:FS:=As 21 [.v (.l (.i .u8))] (.v (.st 9)) (λx=>kR x.1) [xI] []
def zqf:FS:=As 22 [.v (.st 9)] (.tu (.cons (.v (.st 9)) (.cons (.v .b) .nil))) (λx=>Sm x.1) [yE,mM,aI,yL,ZN,V8] [.sp [.i .i64, .l .s, .l (.st 8), .l (.st 6)], .sp [.b, .i .i64], .pt, .sp [.i .i64, .l (.st 10)]]
def zne:FS:=As 23 [.v (.l (.i .u8))] (.v (.st 9)) (λx=>kM x.1) [xI] []
def zr2:FS:=As 70 [.v (.st 9), .v (.st 6)] (.v .b) (λx=>ZH x.1 x.2.1) [aI,V8,ZN] [.sp [.l (.st 2), .i .i64, .i .i64], .inl, .pt, .sp [.i .i64]]
def zqM:FS:=As 24 [.v (.st 9)] (.tu (.cons (.v .b) (.cons (.v .b) .nil))) (λx=>Sa x.1) [yE,zr2] [.sp [.i .i64]]
def xS:FS:=As 4 [.v (.l (.i .u8)), .v (.l (.i .u8))] (.v .b) (λx=>Zs x.1 x.2.1) [zzV,zod,zrM,zmJ,zpW,zqf,zne,zqQ,zqM,zqG,zqU] [.pt, .sp [.i .i64], .sp [.i .i64]]
theorem zp6(a0 a1:List Int)(r:Bool)(h:Zs a0 a1=some r):Cr Tryz.prog B9 4 [.sl (a0.map Ra), .sl (a1.map Ra)] (.bool r):=xS.ok (a0,a1,()) r (by simp[xS,As,Ju,VG]) h
theorem AH{α:Type}{xs:List α}{i:Nat}(h:i<xs.length):getI xs (i:Int)=some xs[i]:=by simp[getI,h]
theorem qU{α:Type}{xs:List α}{i:Int}(h0:0<=i)(h:i<xs.length):∃x,getI xs i=some x/\x∈xs/\xs[i.toNat]?=some x:=by
 have hi:i.toNat<xs.length:=by omega
 exact⟨xs[i.toNat],by simp[getI,h0,hi],Aw hi,by simp[hi]⟩
theorem pL{α:Type}{xs:List α}{i:Int}{x:α}(h:getI xs i=some x):x∈xs:=by obtain⟨h1,h2,h3⟩:=Yk h;exact List.mem_of_getElem? h3
theorem Js{q n:Nat}(h:q<n)(hn:n<=9223372036854775807):IntKind.i64.wrap ((q:Int)+1)=((q+1:Nat):Int):=by rw[CO (by omega) (by omega)];simp
theorem Ba{α:Type}{p:Prop}{k:Option α}(h:p):req p k=k:=by simp[req,h]
def G1{α σ β:Type}(step:α->σ->Option (σ ⊕ Option β))(fin:σ->Option β):List α->σ->Option β
 | [],s=>fin s
 |x::xs,s=>match step x s with
  |none=>none
  |some (.inl s')=>G1 step fin xs s'
  |some (.inr o)=>o
def QG{σ τ β:Type}(f:σ->τ):Option (σ ⊕ Option β)->Option (τ ⊕ Option β)
 |none=>none
 |some (.inl s)=>some (.inl (f s))
 |some (.inr o)=>some (.inr o)
theorem zBh{α σ τ β:Type}{xs:List α}{body:τ->Option (τ ⊕ Option β)}(emb:Int->σ->τ)(step:α->σ->Option (σ ⊕ Option β))(fin:σ->Option β)(q0:Nat)
  (hs:∀(i:Nat) (hi:i<xs.length) (s:σ),q0<=i->body (emb i s)=QG (emb ((i+1:Nat):Int)) (step xs[i] s)) (he:∀s,body (emb xs.length s)=some (.inr (fin s))) (s:σ) (h0:q0<=xs.length):Az body (emb q0 s)=G1 step fin (xs.drop q0) s:=by
 have key:∀(n q:Nat) (s:σ),q0<=q->q+n=xs.length->Az body (emb q s)=G1 step fin (xs.drop q) s:=by
  intro n
  induction n with
  |zero=>
   intro q s _ hq;have:q=xs.length:=by omega
   subst this;rw[EM,he s];simp[G1]
  |succ n ih=>
   intro q s h0 hq;have AD:q<xs.length:=by omega
   rw[EM,hs q AD s h0,Br AD];rcases DD:step xs[q] s with _|s'|o
   ·simp[G1,DD,QG]
   ·simp only[G1,DD,QG];exact ih (q+1) s' (by omega) (by omega)
   ·simp[G1,DD,QG]
 exact key (xs.length-q0) q0 s (AQ _) (by omega)
theorem WY{α σ τ β:Type}{xs:List α}{body:τ->Option (τ ⊕ Option β)}(emb:Int->σ->τ)(step:α->σ->Option (σ ⊕ Option β))(fin:σ->Option β)
  (hs:∀(i:Nat) (hi:i<xs.length) (s:σ),body (emb i s)=QG (emb ((i+1:Nat):Int)) (step xs[i] s)) (he:∀s,body (emb xs.length s)=some (.inr (fin s))) (s:σ):Az body (emb 0 s)=G1 step fin xs s:=by
 have:=zBh emb step fin 0 (λi hi s _=>hs i hi s) he s (by omega);simpa using this
theorem tY{α σ β:Type}{step:α->σ->Option (σ ⊕ Option β)}{fin:σ->Option β}{xs:List α}(p:α->Bool)(b:β)(h:∀x∈xs,∀s,step x s=some (if p x=true then .inl s else .inr (some b)))(s:σ):G1 step fin xs s=if xs.all p=true then fin s else some b:=by
 induction xs with
 |nil=>simp[G1]
 |cons x xs ih=>
  simp only[G1,h x (by simp) s];cases hp:p x with
  |true=>simp[hp,ih λy hy=>h y (by simp[hy])]
  |false=>simp[hp]
theorem zCF{α σ β:Type}{step:α->σ->Option (σ ⊕ Option β)}{fin:σ->Option β}{xs:List α}(f:σ->α->σ)(I:σ->Prop)(hI:∀x∈xs,∀s,I s->I (f s x))(h:∀x∈xs,∀s,I s->step x s=some (.inl (f s x))){s:σ}(hs:I s):G1 step fin xs s=fin (xs.foldl f s):=by
 induction xs generalizing s with
 |nil=>simp[G1]
 |cons x xs ih=>simp only[G1,h x (by simp) s hs,List.foldl_cons];exact ih (λy hy=>hI y (by simp[hy])) (λy hy=>h y (by simp[hy])) (hI x (by simp) s hs)
theorem D5{α σ τ β:Type}{xs:List α}{body:τ->Option (τ ⊕ Option β)}(emb:Int->σ->τ)(f:σ->α->σ)(fin:σ->Option β)(I:Nat->σ->Prop)
  (hs:∀(i:Nat) (hi:i<xs.length) (s:σ),I i s->body (emb i s)=some (.inl (emb ((i+1:Nat):Int) (f s xs[i])))/\I (i+1) (f s xs[i])) (he:∀s,I xs.length s->body (emb xs.length s)=some (.inr (fin s))) {s:σ} (h0:I 0 s):Az body (emb 0 s)=fin (xs.foldl f s)/\I xs.length (xs.foldl f s):=by
 have key:∀(n q:Nat) (s:σ),q+n=xs.length->I q s->Az body (emb q s)=fin ((xs.drop q).foldl f s)/\I xs.length ((xs.drop q).foldl f s):=by
  intro n
  induction n with
  |zero=>
   intro q s hq hI;have:q=xs.length:=by omega
   subst this;rw[EM,he s hI];simp[hI]
  |succ n ih=>
   intro q s hq hI;have AD:q<xs.length:=by omega
   obtain⟨h1,h2⟩:=hs q AD s hI;rw[EM,h1,Br AD,List.foldl_cons];exact ih (q+1) _ (by omega) h2
 have:=key xs.length 0 s (by omega) h0;simpa using this
theorem JS{α:Type}{xs:List α}{p:α->Option Bool}(q:α->Bool)(hp:∀x∈xs,p x=some (q x))(hn:xs.length<=9223372036854775806):DR xs p=some (xs.any q):=by
 have key:∀(l:List α) (i:Int),0<=i->(∀x∈l,p x=some (q x))-> ∃r,Fx p l i=some r/\decide (r>=0)=l.any q:=by
  intro l
  induction l with
  |nil=>intro i _ _;exact⟨-1,rfl,by simp⟩
  |cons x l ih=>
   intro i hi h;simp only[Fx,h x (by simp),Aa];cases hq:q x with
   |true=>exact⟨i,by simp,by simp[hq,hi]⟩
   |false=>obtain⟨r,h1,h2⟩:=ih (i+1) (by omega) λy hy=>h y (by simp[hy]);exact⟨r,by simp[h1],by simp[hq,h2]⟩
 obtain⟨r,h1,h2⟩:=key xs 0 (by omega) hp;simp[DR,Gb,Ba hn,h1,h2]
theorem JQ{α:Type}{b:Nat}{xs:List α}(h:(xs.length:Int)*b<=140737488355328)(h2:(xs.length:Int)<=140737488355328):Qt b xs=some xs:=Ba ⟨h,h2⟩
theorem Lr{β:Type}{n:Nat}{body:Int->Option (Int ⊕ Option β)}(p:Nat->Bool)(b:β)(fin:Option β)
  (hs:∀i:Nat,i<n->body i=some (if p i=true then .inl ((i+1:Nat):Int)else .inr (some b))) (he:body n=some (.inr fin)):Az body 0=if(List.range n).all p=true then fin else some b:=by
 have h1:=WY (xs:=List.range n) (body:=body) (λi (_:Unit)=>i) (λi _=>some (if p i=true then .inl ()else .inr (some b))) (λ_=>fin)
  (λi hi s=>by rw[List.length_range]at hi;rw[hs i hi,List.getElem_range];cases p i<;>simp[QG]) (λs=>by simpa using he) ()
 rw[tY p b λx _ s=>rfl]at h1;exact h1
def CV{α:Type}(p:α->Bool)(l:List α):Int:=match l.findIdx? p with|some i=>(i:Int)|none=> -1
theorem cA{α:Type}(p:α->Bool):CV p []= -1:=rfl
theorem bB{α:Type}(p:α->Bool)(x:α)(l:List α):CV p (x::l)=if p x=true then 0 else if CV p l= -1 then-1 else CV p l+1:=by
 unfold CV;rw[List.findIdx?_cons];cases p x with
 |true=>simp
 |false=>
  cases h:l.findIdx? p with
  |none=>simp
  |some i=>simp<;>omega
theorem Qv{α:Type}(p:α->Bool)(l:List α): -1<=CV p l:=by unfold CV;split<;>omega
theorem bT{α:Type}(p:α->Bool)(l:List α):decide (CV p l>=0)=l.any p:=by
 induction l with
 |nil=>simp[cA]
 |cons x l ih=>
  have h1:=Qv p l;rw[bB,List.any_cons,<-ih];cases p x with
  |true=>simp
  |false=>
   by_cases h:CV p l= -1
   ·simp[h]
   ·have:CV p l>=0:=by omega
    simp[h,this];try omega
theorem Xb{α:Type}{p:α->Bool}{l:List α}(h:CV p l>=0):∃x,getI l (CV p l)=some x/\p x=true/\x∈l:=by
 induction l with
 |nil=>simp[cA]at h
 |cons y l ih=>
  rw[bB]at h ⊢;cases hy:p y with
  |true=>exact⟨y,by simp[getI],hy,by simp⟩
  |false=>
   have h1:=Qv p l;by_cases hm:CV p l= -1
   ·rw[hy,hm]at h;simp at h
   ·have h0:CV p l>=0:=by omega
    obtain⟨x,e1,e2,e3⟩:=ih h0;obtain⟨_,e4,e5⟩:=Yk e1;refine⟨x,?_,e2,by simp[e3]⟩;simp only[Bj,if_false,hm];unfold getI;rw[if_pos (by omega),show(CV p l+1).toNat=(CV p l).toNat+1 by omega];simpa using e5
theorem bV{α:Type}{xs:List α}{body:Int->Option (Int ⊕ Option Int)}(p:α->Bool)(hs:∀(i:Nat) (hi:i<xs.length),body i=some (if p xs[i]=true then .inr (some (i:Int))else .inl ((i+1:Nat):Int)))(he:body xs.length=some (.inr (some (-1)))):Az body 0=some (CV p xs):=by
 have key:∀(n q:Nat),q+n=xs.length->Az body q=some (if CV p (xs.drop q)= -1 then-1 else q+CV p (xs.drop q)):=by
  intro n
  induction n with
  |zero=>
   intro q hq;have:q=xs.length:=by omega
   subst this;rw[EM,he];simp[cA]
  |succ n ih=>
   intro q hq;have AD:q<xs.length:=by omega
   rw[EM,hs q AD,Br AD,bB];cases p xs[q]with
   |true=>simp
   |false=>
    simp only[Bj,if_false];rw[ih (q+1) (by omega)];have h1:=Qv p (xs.drop (q+1));congr 1;by_cases hm:CV p (xs.drop (q+1))= -1
    ·simp[hm]
    ·have h2: ¬(CV p (xs.drop (q+1))+1= -1):=by omega
     simp only[hm,if_false,h2];omega
 have h:=key xs.length 0 (by omega);rw[List.drop_zero]at h;rw[show((0:Nat):Int)=0 from rfl]at h;rw[h];have h1:=Qv p xs;by_cases hm:CV p xs= -1
 ·simp[hm]
 ·simp[hm]
theorem zwL{α:Type}{xs:List α}{p:α->Option Bool}(q:α->Bool)(hp:∀x∈xs,p x=some (q x))(hn:xs.length<=9223372036854775806):Gb xs p=some (CV q xs):=by
 have key:∀(l:List α) (i:Int),(∀x∈l,p x=some (q x))->Fx p l i=some (if CV q l= -1 then-1 else i+CV q l):=by
  intro l
  induction l with
  |nil=>intro i _;simp[Fx,cA]
  |cons x l ih=>
   intro i h;simp only[Fx,h x (by simp),Aa,bB];cases q x with
   |true=>simp
   |false=>
    simp only[Bj,if_false];rw[ih (i+1) λy hy=>h y (by simp[hy])];have h1:=Qv q l;congr 1;by_cases hm:CV q l= -1
    ·simp[hm]
    ·have h2: ¬(CV q l+1= -1):=by omega
     simp only[hm,if_false,h2];omega
 unfold Gb;rw[Ba hn,key xs 0 hp];by_cases hm:CV q xs= -1
 ·simp[hm]
 ·simp[hm]
theorem zHw{α:Type}{b:Bool}{A B:Option α}{y:Option α}(ha:b=true->A=y)(hb:b=false->B=y):(if b=true then A else B)=y:=by
 cases b with
 |true=>simpa using ha rfl
 |false=>simpa using hb rfl
theorem cM{α β:Type}{o:Option α}{x:α}{f:α->Option β}(h:o=some x):o.bind f=f x:=by rw[h];rfl
theorem foldl_map{α β:Type}(f:α->β)(l:List α)(o:List β):l.foldl (λo x=>o++ [f x]) o=o++l.map f:=by
 induction l generalizing o with
 |nil=>simp
 |cons x l ih=>rw[List.foldl_cons,ih];simp
abbrev Am:=Af
def BP(a b c:Int):Bool:=decide (a>=b)&&decide (a<=c)
theorem Ey{a b c:Int}:BP a b c=true↔b<=a/\a<=c:=by simp[BP]
@[simp] theorem Ox(a b c:Int):Jf a b c=some (BP a b c):=rfl
@[simp] theorem Qm(a b c:Int):Mw a b c=some (BP a b c):=rfl
def K3(b:UInt8):Bool:=(decide ((b.toNat:Int)>=97)&&decide ((b.toNat:Int)<=122))||(decide ((b.toNat:Int)>=48)&&decide ((b.toNat:Int)<=57))
def TG(s more:Am):Bool:=s.all λb=>K3 b||more.contains b
theorem zGZ{a b:UInt8}:((a.toNat:Int)==(b.toNat:Int))=(a==b):=by
 rw[Bool.eq_iff_iff];simp only[AO];constructor
 ·intro h;exact UInt8.toNat_inj.1 (by omega)
 ·rintro rfl;rfl
theorem zwE{α:Type}(xs:List α)(p:α->Bool)(q:Nat->Bool)(h:∀(i:Nat) (hi:i<xs.length),q i=p xs[i]):(List.range xs.length).all q=xs.all p:=by
 rw[Bool.eq_iff_iff];simp only[AZ,List.mem_range];constructor
 ·intro hq x hx;obtain⟨i,hi,rfl⟩:=List.getElem_of_mem hx;rw[<-h i hi];exact hq i hi
 ·intro hp i hi;rw[h i hi];exact hp _ (Aw hi)
theorem zxU{α β:Type}{xs:List α}{body:Int->Option (Int ⊕ Option β)}(p:α->Bool)(b:β)(fin:Option β)
  (hs:∀(i:Nat) (hi:i<xs.length),body i=some (if p xs[i]=true then .inl ((i+1:Nat):Int)else .inr (some b))) (he:body xs.length=some (.inr fin)):Az body 0=if xs.all p=true then fin else some b:=by
 rw[Lr (n:=xs.length) (λi=>match xs[i]? with|some x=>p x|none=>true) b fin (λi hi=>by rw[hs i hi];simp[hi]) he,
  zwE xs p _ λi hi=>by simp[hi]]
theorem zvT{s more:Am}(h1:s.length<=2000000)(h2:more.length<=2000000):Wk s more=some (TG s more):=by
 unfold Wk;rw[zxU (xs:=s) (λb=>K3 b||more.contains b) false (some true) ?_ (by simp[lP])]
 ·unfold TG;cases(s.all λb=>K3 b||more.contains b)<;>rfl
 ·intro i hi;have Cm:Az (λt:Bool × Int=>VX more i s[i] t.1 t.2) (K3 s[i],0)=some (if(K3 s[i]||more.contains s[i])=true then .inl ((i+1:Nat):Int)else .inr (some false)):=by
   have hl:=WY (xs:=more) (body:=λt:Bool × Int=>VX more i s[i] t.1 t.2) (λk (ok:Bool)=>(ok,k)) (λb ok=>some (.inl (ok||s[i]==b))) (λok=>lX i ok)
    (λk hk ok=>by simp only[VX,Int.ofNat_lt,hk,decide_true,if_true,AH hk,Aa,Js hk (by omega:more.length<=_),zGZ,QG];cases ok<;>simp) (λok=>by simp[VX]) (K3 s[i])
   rw[zCF (λok b=>ok||s[i]==b) (λ_=>True) (λ_ _ _ _=>trivial) (λ_ _ _ _=>rfl) trivial]at hl;have hf:∀(l:Am) (ok:Bool),l.foldl (λok b=>ok||s[i]==b) ok=(ok||l.contains s[i]):=by
    intro l
    induction l with
    |nil=>intro ok;simp
    |cons c l ih=>intro ok;rw[List.foldl_cons,ih,List.contains_cons,Bool.or_assoc]
   rw[hl,hf];unfold lX;rw[Js hi (by omega)];cases(K3 s[i]||more.contains s[i])<;>rfl
  simp only[lP,Int.ofNat_lt,hi,decide_true,if_true,AH hi,Aa];exact Cm
theorem zus(l:Am)(c:UInt8):decide (Lib.indexByte l c<0)= !l.contains c:=by
 induction l with
 |nil=>rfl
 |cons b l ih=>
  unfold Lib.indexByte;have Nb:=Lib.indexByte_ge l c;rw[List.contains_cons];by_cases hb:b=c
  ·subst hb;simp
  ·have h1:(b==c)=false:=by simpa using hb
   have h2:(c==b)=false:=by simpa using λh=>hb h.symm
   rw[h1,h2];simp only[Bj,if_false,Bool.false_or];rw[<-ih];by_cases hm:Lib.indexByte l c= -1
   ·simp[hm]
   ·have h3:(Lib.indexByte l c== -1)=false:=by simpa using hm
    rw[h3];simp only[Bj,if_false];rw[decide_eq_decide];omega
theorem ztt{s more:Am}(h1:s.length<=2000000):Wo s more=some (TG s more):=by
 unfold Wo;rw[zxU (xs:=s) (λb=>K3 b||more.contains b) false (some true) ?_ (by simp[kV])]
 ·unfold TG;cases(s.all λb=>K3 b||more.contains b)<;>rfl
 ·intro i hi;have hu:((s[i].toNat:Int)).toNat.toUInt8=s[i]:=by simp
  simp only[kV,Int.ofNat_lt,hi,decide_true,if_true,AH hi,Aa,kS,lD,YH,hu,zus,Js hi (by omega:s.length<=_)];rw[show((decide ((s[i].toNat:Int)>=97)&&decide ((s[i].toNat:Int)<=122))||(decide ((s[i].toNat:Int)>=48)&&decide ((s[i].toNat:Int)<=57)))=K3 s[i]from rfl];cases K3 s[i]<;>cases more.contains s[i]<;>rfl
def CC(s:Am):Bool:=BP s.length 1 12&&TG s [46,47]
def MG(s:Am):Bool:=decide ((s.length:Int)<=24)&&TG s [46,45,44,95]
theorem TV{s:Am}(h:s.length<=2000000):Qc s=some (CC s):=by simp only[Qc,Ox,Aa,zvT h (more:=[46,47]) (by decide),CC];cases BP s.length 1 12<;>simp
theorem zGm{s:Am}(h:s.length<=2000000):ZV s=some (CC s):=by simp only[ZV,Qm,Aa,ztt h,CC];cases BP s.length 1 12<;>simp
theorem zGx{s:Am}(h:s.length<=2000000):aG s=some (MG s):=by simp only[aG,Aa,zvT h (more:=[46,45,44,95]) (by decide),MG];by_cases hl:(s.length:Int)<=24<;>simp[hl]
theorem zFP{s:Am}(h:s.length<=2000000):ZU s=some (MG s):=by simp only[ZU,Aa,ztt h,MG];by_cases hl:(s.length:Int)<=24<;>simp[hl]
def Ge(v:Am)(Ib:Bool):Bool:=MG v&&(!Ib||v==[])
theorem oO{v:Am}{Ib:Bool}(h:v.length<=2000000):Wm v Ib=some (Ge v Ib):=by simp only[Wm,zFP h,Aa,Ge,bne];cases MG v<;>cases Ib<;>cases(v==[])<;>rfl
theorem qO{k v:Am}{Ib:Bool}(hk:k.length<=2000000)(hv:v.length<=2000000):Wg k v Ib=some (CC k&&Ge v Ib):=by simp only[Wg,TV hk,zGx hv,Aa,Ge];cases CC k<;>simp
def HU(ks:List Am)(i:Nat):Bool:=i==0||Op.bytesLess ((ks[i-1]?).getD []) ((ks[i]?).getD [])
def Ou(ks:List Am):Bool:=(List.range ks.length).all (HU ks)
theorem Xe:∀(a b:Am),(Op.bytesLess a b||a==b)= !Op.bytesLess b a
 | [],[]=>rfl
 | [],_::_=>rfl
 |_::_,[]=>rfl
 |x::a,y::b=>by
  have ih:=Xe a b;simp only[Op.bytesLess];rcases Nat.lt_trichotomy x.toNat y.toNat with h|h|h
  ·have h1:x<y:=UInt8.lt_iff_toNat_lt.2 h;have h2: ¬y<x:=λh'=>by have:=UInt8.lt_iff_toNat_lt.1 h';omega
   have h3: ¬y=x:=λh'=>by subst h';omega
   simp[h1,h2,h3]
  ·have h0:x=y:=UInt8.toNat_inj.1 h;subst h0;have h1: ¬x<x:=λh'=>by have:=UInt8.lt_iff_toNat_lt.1 h';omega
   rw[show((x::a)==(x::b))=(a==b) by simp];simp only[h1,decide_false,Bool.false_or,beq_self_eq_true,Bool.true_and];exact ih
  ·have h1: ¬x<y:=λh'=>by have:=UInt8.lt_iff_toNat_lt.1 h';omega
   have h2:y<x:=UInt8.lt_iff_toNat_lt.2 h;have h3: ¬x=y:=λh'=>by subst h';omega
   simp[h1,h2,h3]
theorem Qx{i:Nat}(h0:0<i)(h:i<=2000000):IntKind.i64.wrap ((i:Int)-1)=((i-1:Nat):Int):=by rw[CO (by omega) (by omega)];omega
theorem rK{α:Type}(xs:List α)(p:α->Bool)(q r:Nat->Bool)(h:∀(i:Nat) (hi:i<xs.length),r i=(p xs[i]&&q i)):(List.range xs.length).all r=(xs.all p&&(List.range xs.length).all q):=by
 rw[<-zwE xs p (λi=>match xs[i]? with|some x=>p x|none=>true) λi hi=>by simp[hi]];rw[Bool.eq_iff_iff];simp only[Ab,AZ,List.mem_range];constructor
 ·intro hr;exact⟨λi hi=>by have:=hr i hi;rw[h i hi,Ab]at this;simpa[hi]using this.1,λi hi=>by have:=hr i hi;rw[h i hi,Ab]at this;exact this.2⟩
 ·rintro⟨h1,h2⟩ i hi;rw[h i hi,Ab];exact⟨by have:=h1 i hi;simpa[hi]using this,h2 i hi⟩
theorem nJ{ks:List Am}(h:ks.length<=2000000)(hk:∀k∈ks,k.length<=2000000):NZ ks=some (ks.all CC&&Ou ks):=by
 unfold NZ Ou;rw[Lr (n:=ks.length) (λi=>CC ((ks[i]?).getD [])&&HU ks i) false (some true) ?_ (by simp[lC]),rK ks CC (HU ks) _ λi hi=>by simp[hi]]
 ·cases(ks.all CC&&(List.range ks.length).all (HU ks))<;>rfl
 ·intro i hi;simp only[lC,Int.ofNat_lt,hi,decide_true,if_true,AH hi,Aa,zGm (hk _ (Aw hi)),Js hi (by omega:ks.length<=_),Bt hi,Dt,HU];by_cases h0:i=0
  ·subst h0;cases CC ks[0]<;>simp
  ·have hp:(i:Int)>0:=by omega
   have Kk:i-1<ks.length:=by omega
   have hb:(i==0)=false:=by simpa using h0
   simp only[hp,decide_true,if_true,Qx (Nat.pos_of_ne_zero h0) (by omega:i<=2000000),AH Kk,Aa,Xe,Bt Kk,Dt,hb,Bool.false_or];cases CC ks[i]<;>cases Op.bytesLess ks[i-1] ks[i]<;>rfl
theorem zsu{l:List Ar}(h:l.length<=2000000):V9 l=some (l.map (·.ao)):=by
 have h1:=D5 (xs:=l) (body:=λs:Int × List Am=>RX l s.1 s.2) (λi (o:List Am)=>(i,o)) (λo w=>o++ [w.ao]) (λo=>some o) (λq o=>o.length=q)
  (λi hi o hI=>by
   refine⟨?_,by simp[hI]⟩;show RX l i o=_;unfold RX;have hr:((o.length:Int)+(([l[i].ao]:List Am).length:Int))*16<=140737488355328/\(o.length:Int)+(([l[i].ao]:List Am).length:Int)<=140737488355328:=by rw[AP,hI];omega
   rw[if_pos (by simpa using hi),AH hi,Aa,Ba hr,Js hi (by omega)]) (λo _=>by
   show RX l l.length o=_;unfold RX;rw[if_neg (by simp)]) (s:=[]) rfl
 have hf:∀(l:List Ar) (o:List Am),l.foldl (λo w=>o++ [w.ao]) o=o++l.map (·.ao):=by
  intro l
  induction l with
  |nil=>intro o;simp
  |cons w l ih=>intro o;rw[List.foldl_cons,ih];simp
 have h2:=h1.1;rw[hf,List.nil_append]at h2;unfold V9;exact h2
def Gk(w:Ar):Bool:=CC w.ao&&Ge w.bw w.bk
def Fs(l:List Ar):Bool:=decide ((l.length:Int)<=24)&&(l.all Gk&&Ou (l.map (·.ao)))
def cX(l:List Ar):Prop:=l.length<=2000000/\ ∀w∈l,w.ao.length<=2000000/\w.bw.length<=2000000
theorem zBO{l:List Ar}(h:cX l):Zx l=some (Fs l):=by
 have e1:DR l (λy0_=>Zd y0_)=some (l.any λw=> !Ge w.bw w.bk):=JS _ (λw hw=>by simp[Zd,oO (h.2 w hw).2]) (by have:=h.1;omega);have e2:=nJ (ks:=l.map (·.ao)) (by simpa using h.1) (by simp only[List.mem_map];rintro k ⟨w,hw,rfl⟩;exact(h.2 w hw).1);simp only[Zx,zsu h.1,e1,e2,Aa,Fs,<-List.not_all_eq_any_not];have e3:l.all Gk=((l.map (·.ao)).all CC&&l.all λw=>Ge w.bw w.bk):=by
  rw[Bool.eq_iff_iff];simp only[AZ,Ab,Gk,List.mem_map];constructor
  ·intro h;exact⟨by rintro k ⟨w,hw,rfl⟩;exact(h w hw).1,λw hw=>(h w hw).2⟩
  ·rintro⟨h1,h2⟩ w hw;exact⟨h1 _ ⟨w,hw,rfl⟩,h2 w hw⟩
 rw[e3];generalize (l.map (·.ao)).all CC=b1;generalize Ou (l.map (·.ao))=b2;generalize (l.all λw=>Ge w.bw w.bk)=b3;by_cases hl:(l.length:Int)<=24<;>cases b1<;>cases b2<;>cases b3<;>simp[hl]
theorem zB3{l:List Ar}(h:cX l):ZG l=some (Fs l):=by
 unfold ZG;have hn:=h.1;rw[Lr (n:=l.length) (λi=>Gk ((l[i]?).getD ⟨[],[],false⟩)&&HU (l.map (·.ao)) i) false (lI l) ?_ (by simp[kT]),rK l Gk (HU (l.map (·.ao))) _ λi hi=>by simp[hi]]
 ·unfold lI Fs Ou;rw[List.length_map];cases(l.all Gk&&(List.range l.length).all (HU (l.map (·.ao))))<;>simp
 ·intro i hi;have hm:=h.2 _ (Aw hi);simp only[kT,Int.ofNat_lt,hi,decide_true,if_true,AH hi,Aa,qO hm.1 hm.2,Js hi (by omega:l.length<=_),Bt hi,Dt,HU,List.getElem?_map,Option.map_some];rw[show(CC l[i].ao&&Ge l[i].bw l[i].bk)=Gk l[i]from rfl];by_cases h0:i=0
  ·subst h0;cases Gk l[0]<;>simp
  ·have hp:(i:Int)>0:=by omega
   have Kk:i-1<l.length:=by omega
   have hb:(i==0)=false:=by simpa using h0
   simp only[hp,decide_true,if_true,Qx (Nat.pos_of_ne_zero h0) (by omega:i<=2000000),AH Kk,Aa,Bt Kk,Option.map_some,Dt,hb,Bool.false_or];cases Gk l[i]<;>cases Op.bytesLess l[i-1].ao l[i].ao<;>rfl
abbrev bl(a b:Af):Bool:=Op.bytesLess a b
theorem KT:∀a:Af,bl a a=false
 | []=>rfl
 |x::a=>by
  have h: ¬x<x:=λh=>by have:=UInt8.lt_iff_toNat_lt.1 h;omega
  show Op.bytesLess (x::a) (x::a)=false;simp only[Op.bytesLess,h,decide_false,Bool.false_or,beq_self_eq_true,Bool.true_and];exact KT a
theorem cO(x y:UInt8)(a b:Af):bl (x::a) (y::b)=true↔x.toNat<y.toNat\/x=y/\bl a b=true:=by show Op.bytesLess (x::a) (y::b)=true↔_;simp only[Op.bytesLess,Bool.or_eq_true,AJ,Ab,AO,UInt8.lt_iff_toNat_lt]
theorem EN:∀{a b c:Af},bl a b=true->bl b c=true->bl a c=true
 | [],_,[],_,h=>by rename_i b _;cases b<;>cases h
 | [],_,_::_,_,_=>rfl
 |_::_,[],_,h,_=>by cases h
 |_::_,_::_,[],_,h=>by cases h
 |x::a,y::b,z::c,h1,h2=>by
  rw[cO]at*;rcases h1 with h1|⟨rfl,h1⟩<;>rcases h2 with h2|⟨rfl,h2⟩
  ·exact .inl (by omega)
  ·exact .inl h1
  ·exact .inl h2
  ·exact .inr ⟨rfl,EN h1 h2⟩
theorem XJ:∀a b:Af,bl a b=true\/a=b\/bl b a=true
 | [],[]=> .inr (.inl rfl)
 | [],_::_=> .inl rfl
 |_::_,[]=> .inr (.inr rfl)
 |x::a,y::b=>by
  rw[cO,cO];rcases Nat.lt_trichotomy x.toNat y.toNat with h|h|h
  ·exact .inl (.inl h)
  ·have h0:x=y:=UInt8.toNat_inj.1 h;subst h0;rcases XJ a b with h1|h1|h1
   ·exact .inl (.inr ⟨rfl,h1⟩)
   ·exact .inr (.inl (by rw[h1]))
   ·exact .inr (.inr (.inr ⟨rfl,h1⟩))
  ·exact .inr (.inr (.inl h))
theorem Oe{a b:Af}(h:bl a b=true):bl b a=false:=by
 cases h2:bl b a with
 |false=>rfl
 |true=>have:=EN h h2;rw[KT]at this;cases this
theorem H4{a b:Af}(h:bl a b=true):a≠b:=by rintro rfl;rw[KT]at h;cases h
theorem Ti{a b:Af}(h:bl a b=false)(hn:a≠b):bl b a=true:=by
 rcases XJ a b with h1|h1|h1
 ·rw[h]at h1;cases h1
 ·exact absurd h1 hn
 ·exact h1
section
variable {α:Type} (key:α->Af)
def DU(l:List α):Prop:=l.Pairwise λa b=>bl (key a) (key b)=true
def Gn(x:α):List α->List α
 | []=> [x]
 |y::l=>if bl (key x) (key y)=true then x::y::l else if key x=key y then x::l else y::Gn x l
variable {key}
theorem DU.ju{l:List α}(h:DU key l){a b:α}(ha:a∈l)(hb:b∈l)(e:key a=key b):a=b:=by
 induction l with
 |nil=>cases ha
 |cons y l ih=>
  have h1:=List.pairwise_cons.1 h;rcases Ae.1 ha with q1|q1<;>rcases Ae.1 hb with q2|q2
  ·rw[q1,q2]
  ·exact absurd (q1▸e) (H4 (h1.1 _ q2))
  ·exact absurd (q2▸e.symm) (H4 (h1.1 _ q1))
  ·exact ih h1.2 q1 q2
theorem MC{x:α}:∀{l:List α},DU key l-> ∀y,y∈Gn key x l↔y=x\/y∈l/\key y≠key x
 | [],_,y=>by simp[Gn]
 |z::l,h,y=>by
  have h1:=List.pairwise_cons.1 h;unfold Gn;split
  ·rename_i hb;constructor
   ·intro hy;rcases Ae.1 hy with rfl|hy
    ·exact .inl rfl
    ·refine .inr ⟨hy,?_⟩;rcases Ae.1 hy with rfl|hy
     ·exact(H4 hb).symm
     ·exact(H4 (EN hb (h1.1 _ hy))).symm
   ·rintro(rfl|⟨hy,_⟩)
    ·simp
    ·exact List.mem_cons_of_mem _ hy
  ·rename_i hb;split
   ·rename_i he;constructor
    ·intro hy;rcases Ae.1 hy with rfl|hy
     ·exact .inl rfl
     ·exact .inr ⟨List.mem_cons_of_mem _ hy,λe=>H4 (h1.1 _ hy) (by rw[e,he])⟩
    ·rintro(rfl|⟨hy,hn⟩)
     ·simp
     ·rcases Ae.1 hy with rfl|hy
      ·exact absurd he.symm hn
      ·exact List.mem_cons_of_mem _ hy
   ·rename_i he;rw[Ae,MC h1.2];constructor
    ·rintro(rfl|rfl|⟨hy,hn⟩)
     ·exact .inr ⟨by simp,λe=>he e.symm⟩
     ·exact .inl rfl
     ·exact .inr ⟨List.mem_cons_of_mem _ hy,hn⟩
    ·rintro(rfl|⟨hy,hn⟩)
     ·exact .inr (.inl rfl)
     ·rcases Ae.1 hy with rfl|hy
      ·exact .inl rfl
      ·exact .inr (.inr ⟨hy,hn⟩)
theorem WJ{x:α}:∀{l:List α},DU key l->DU key (Gn key x l)
 | [],_=>by simp[Gn,DU]
 |z::l,h=>by
  have h1:=List.pairwise_cons.1 h;unfold Gn;split
  ·rename_i hb;refine List.pairwise_cons.2 ⟨λy hy=> ?_,h⟩;rcases Ae.1 hy with rfl|hy
   ·exact hb
   ·exact EN hb (h1.1 _ hy)
  ·rename_i hb;split
   ·rename_i he;exact List.pairwise_cons.2 ⟨λy hy=>by rw[he];exact h1.1 _ hy,h1.2⟩
   ·rename_i he;refine List.pairwise_cons.2 ⟨λy hy=> ?_,WJ h1.2⟩;rcases(MC h1.2 y).1 hy with rfl|⟨hy,_⟩
    ·exact Ti (by simpa using hb) he
    ·exact h1.1 _ hy
theorem DU.ext:∀{a b:List α},DU key a->DU key b->(∀x,x∈a↔x∈b)->a=b
 | [],[],_,_,_=>rfl
 | [],y::b,_,_,h=>absurd ((h y).2 (by simp)) (by simp)
 |x::a,[],_,_,h=>absurd ((h x).1 (by simp)) (by simp)
 |x::a,y::b,ha,hb,h=>by
  have h1:=List.pairwise_cons.1 ha;have h2:=List.pairwise_cons.1 hb;have e:x=y:=by
   rcases Ae.1 ((h x).1 (by simp))with e|hx
   ·exact e
   ·rcases Ae.1 ((h y).2 (by simp))with e|hy
    ·exact e.symm
    ·have:=EN (h1.1 _ hy) (h2.1 _ hx);rw[KT]at this;cases this
  subst e;rw[DU.ext h1.2 h2.2 λz=> ?_];constructor
  ·intro hz;rcases Ae.1 ((h z).1 (List.mem_cons_of_mem _ hz))with rfl|NG
   ·have:=h1.1 _ hz;rw[KT]at this;cases this
   ·exact NG
  ·intro hz;rcases Ae.1 ((h z).2 (List.mem_cons_of_mem _ hz))with rfl|NG
   ·have:=h2.1 _ hz;rw[KT]at this;cases this
   ·exact NG
theorem DU.filter{l:List α}(h:DU key l)(p:α->Bool):DU key (l.filter p):=List.Pairwise.filter p h
theorem DU.sub{a b:List α}(h:DU key b)(hs:a.Sublist b):DU key a:=List.Pairwise.sublist hs h
theorem cL{x:α}:∀(l:List α),(Gn key x l).length<=l.length+1
 | []=>by simp[Gn]
 |y::l=>by
  unfold Gn;have:=cL (x:=x) l;split
  ·simp
  ·split
   ·simp
   ·simp only[Bk];omega
end
def DX{α:Type}(r:α->α->Bool):List α->Bool
 | []=>true
 | [_]=>true
 |x::y::l=>r x y&&DX r (y::l)
theorem Ix{α:Type}{r:α->α->Bool}(ht:∀a b c,r a b=true->r b c=true->r a c=true):∀{l:List α},DX r l=true↔l.Pairwise λa b=>r a b=true
 | []=>by simp[DX]
 | [_]=>by simp[DX]
 |x::y::l=>by
  rw[DX,Ab,Ix ht];constructor
  ·rintro⟨h1,h2⟩;refine List.pairwise_cons.2 ⟨λz hz=> ?_,h2⟩;rcases Ae.1 hz with rfl|hz
   ·exact h1
   ·exact ht _ _ _ h1 ((List.pairwise_cons.1 h2).1 z hz)
  ·intro h;have h:=List.pairwise_cons.1 h;exact⟨h.1 y (by simp),h.2⟩
theorem zsm{α:Type}{r:α->α->Bool}{l:List α}{q:Nat}(h:q+1<l.length):DX r (l.drop q)=(r l[q] l[q+1]&&DX r (l.drop (q+1))):=by rw[Br (show q<l.length by omega),Br h,DX]
theorem qL{α β:Type}{xs:List α}{body:Int->Option (Int ⊕ Option β)}(p:α->Bool)(r:α->α->Bool)(b:β)(fin:Option β)
  (h0:∀h:0<xs.length,body 0=some (if p xs[0]=true then .inl 1 else .inr (some b)))
  (hs:∀i (h:i+1<xs.length),body ((i+1:Nat):Int)=some (if(p xs[i+1]&&r xs[i] xs[i+1])=true then .inl ((i+2:Nat):Int)else .inr (some b)))
  (he:body xs.length=some (.inr fin)):Az body 0=if(xs.all p&&DX r xs)=true then fin else some b:=by
 have key:∀n q,q+1+n=xs.length->Az body ((q+1:Nat):Int)=if((xs.drop (q+1)).all p&&DX r (xs.drop q))=true then fin else some b:=by
  intro n
  induction n with
  |zero=>
   intro q hq;rw[show((q+1:Nat):Int)=(xs.length:Int) by omega,EM,he];have e1:xs.drop (q+1)=[]:=List.drop_eq_nil_of_le (by omega);have e2:xs.drop q=[xs[q]]:=by rw[Br (by omega),e1]
   rw[e1,e2];simp[DX]
  |succ n ih=>
   intro q hq;rw[EM,hs q (by omega),zsm (by omega),Br (show q+1<xs.length by omega),List.all_cons];have ih:=ih (q+1) (by omega);by_cases hp:(p xs[q+1]&&r xs[q] xs[q+1])=true
   ·rw[if_pos hp];simp only[Ab]at hp;simp only[hp.1,hp.2,Bool.true_and];rw[<-Br (show q+1<xs.length by omega)];exact ih
   ·rw[if_neg hp];rw[if_neg];intro h;simp only[Ab]at h hp;exact hp ⟨h.1.1,h.2.1⟩
 by_cases hz:0<xs.length
 ·rw[EM,h0 hz];have:=key (xs.length-1) 0 (by omega);rw[List.drop_zero]at this;have e:xs=xs[0]::xs.drop 1:=by rw[<-Br hz,List.drop_zero]
  by_cases hp:p xs[0]=true
  ·rw[if_pos hp];show Az body ((0+1:Nat):Int)=_;rw[this];have:xs.all p=(xs.drop 1).all p:=by rw[e,List.all_cons,hp,Bool.true_and];simp
   rw[this]
  ·rw[if_neg hp,if_neg];intro h;simp only[Ab,AZ]at h;exact hp (h.1 _ (Aw hz))
 ·have:xs=[]:=by cases xs with|nil=>rfl|cons=>simp at hz
  subst this;rw[EM,show(0:Int)=(([]:List α).length:Int)from rfl,he];simp[DX]
def AK{α:Type}(lt:α->Bool)(l:List α):Nat:=(l.takeWhile lt).length
theorem Oo{α:Type}(lt:α->Bool):∀l:List α,AK lt l<=l.length
 | []=>by simp[AK]
 |x::l=>by have:=Oo lt l;unfold AK at this ⊢;rw[List.takeWhile_cons];split<;>simp<;>omega
theorem TH{α:Type}{lt:α->Bool}:∀{l:List α} {i:Nat} (h:i<AK lt l),lt (l[i]'(Nat.lt_of_lt_of_le h (Oo lt l)))=true
 |x::l,i,h=>by
  unfold AK at h;rw[List.takeWhile_cons]at h;split at h
  ·rename_i hx;cases i with
   |zero=>exact hx
   |succ i=>exact TH (l:=l) (i:=i) (by unfold AK;simpa using h)
  ·simp at h
theorem cN{α:Type}{lt:α->Bool}:∀{l:List α} (h:AK lt l<l.length),lt l[AK lt l]=false
 |x::l,h=>by
  by_cases hx:lt x=true
  ·have e:AK lt (x::l)=AK lt l+1:=by unfold AK;rw[List.takeWhile_cons,if_pos hx];rfl
   have:=cN (l:=l) (lt:=lt) (by rw[e]at h;simpa using h);simp only[e,List.getElem_cons_succ];exact this
  ·have e:AK lt (x::l)=0:=by unfold AK;rw[List.takeWhile_cons,if_neg hx];rfl
   simp only[e,List.getElem_cons_zero];simpa using hx
theorem cS{α β:Type}{xs:List α}{body:Int × Int->Option ((Int × Int) ⊕ Option β)}{fin:Int->Option β}(lt:α->Bool)(hm:∀i j (hj:j<xs.length) (hi:i<=j),lt xs[j]=true->lt xs[i]=true)
  (hs:∀i j:Nat,i<j->j<=xs.length->(h:(i+j)/2<xs.length)->body ((i:Int),(j:Int))=some (.inl (if lt xs[(i+j)/2]=true then((((i+j)/2+1:Nat):Int),(j:Int))else((i:Int),(((i+j)/2:Nat):Int)))))
  (he:∀i:Nat,i<=xs.length->body ((i:Int),(i:Int))=some (.inr (fin i))):Az body (0,(xs.length:Int))=fin (AK lt xs):=by
 have key:∀n i j:Nat,j-i<=n->i<=AK lt xs->AK lt xs<=j->j<=xs.length->Az body ((i:Int),(j:Int))=fin (AK lt xs):=by
  intro n
  induction n with
  |zero=>
   intro i j h1 h2 h3 h4;have:i=j:=by omega
   subst this;have:i=AK lt xs:=by omega
   rw[EM,he i h4,this]
  |succ n ih=>
   intro i j h1 h2 h3 h4;by_cases Ew:i=j
   ·subst Ew;have:i=AK lt xs:=by omega
    rw[EM,he i h4,this]
   ·have AD:(i+j)/2<xs.length:=by omega
    rw[EM,hs i j (by omega) h4 AD];by_cases hc:lt xs[(i+j)/2]=true
    ·rw[if_pos hc];refine ih _ _ (by omega) ?_ h3 h4;by_cases hp:(i+j)/2<AK lt xs
     ·omega
     ·have h5:AK lt xs<xs.length:=by omega
      have:=cN h5;rw[hm _ _ AD (by omega) hc]at this;cases this
    ·rw[if_neg hc];refine ih _ _ (by omega) h2 ?_ (by omega);by_cases hp:(i+j)/2<AK lt xs
     ·exact absurd (TH hp) hc
     ·omega
 exact key xs.length 0 xs.length (by omega) (by omega) (Oo lt xs) (AQ _)
theorem pN{α:Type}{key:α->Af}{x:α}:∀{l:List α},DU key l->Gn key x l=(match l[AK (λy=>bl (key y) (key x)) l]? with
  |some y=>if key y=key x then l.set (AK (λy=>bl (key y) (key x)) l) x else l.take (AK (λy=>bl (key y) (key x)) l)++ [x]++l.drop (AK (λy=>bl (key y) (key x)) l)
  |none=>l.take (AK (λy=>bl (key y) (key x)) l)++ [x]++l.drop (AK (λy=>bl (key y) (key x)) l))
 | [],_=>by simp[Gn,AK]
 |y::l,h=>by
  have h1:=List.pairwise_cons.1 h;unfold Gn;by_cases hb:bl (key x) (key y)=true
  ·have e:AK (λz=>bl (key z) (key x)) (y::l)=0:=by unfold AK;rw[List.takeWhile_cons,if_neg (by rw[Oe hb];simp)];rfl
   rw[if_pos hb,e];simp[(H4 hb).symm]
  ·rw[if_neg hb];by_cases hk:key x=key y
   ·have e:AK (λz=>bl (key z) (key x)) (y::l)=0:=by unfold AK;rw[List.takeWhile_cons,if_neg (by rw[hk,KT];simp)];rfl
    rw[if_pos hk,e];simp[hk]
   ·have HD:=Ti (by simpa using hb) hk;have e:AK (λz=>bl (key z) (key x)) (y::l)=AK (λz=>bl (key z) (key x)) l+1:=by unfold AK;rw[List.takeWhile_cons,if_pos HD];rfl
    rw[if_neg hk,e,pN h1.2];simp only[List.getElem?_cons_succ];split
    ·split<;>simp
    ·simp
def NL(a b:Am):Int:=if bl a b=true then-1 else if a=b then 0 else 1
@[simp] theorem zDu(a:Am):VP a=some false:=by simp[VP]
@[simp] theorem zFq(a:Int):V5 a=some false:=by simp[V5]
@[simp] theorem zHo(a b:Am):VM a b=some (NL a b):=by
 unfold VM NL;simp only[zDu,Aa,Bj,if_false];by_cases h:bl a b=true
 ·have:Op.bytesLess a b=true:=h;simp[this]
 ·have h1:Op.bytesLess a b=false:=by simpa using h
  by_cases he:a=b
  ·subst he;simp[h1]
  ·simp[h1,he]
def NQ(a b:Int):Int:=if a<b then-1 else if a=b then 0 else 1
@[simp] theorem zHl(a b:Int):V1 a b=some (NQ a b):=by
 unfold V1 NQ;simp only[zFq,Aa,Bj,if_false];by_cases h:a<b
 ·simp[h]
 ·by_cases he:a=b
  ·subst he;simp
  ·have:b<a:=by omega
   simp[h,he,this]
theorem tW{a b:Am}:decide (NL a b<0)=bl a b:=by
 unfold NL;cases h:bl a b with
 |true=>simp
 |false=>by_cases he:a=b<;>simp[he]
theorem u3{a b:Am}:(NL a b==0)=decide (a=b):=by
 unfold NL;cases h:bl a b with
 |true=>simp[H4 h]
 |false=>by_cases he:a=b<;>simp[he]
theorem dC{i j:Nat}(h:i<=j)(hj:j<=2000000):IntKind.i64.wrap (Int.fdiv (IntKind.u64.wrap (IntKind.i64.wrap ((i:Int)+(j:Int)))) (2^(min ((1:Int)).toNat (IntKind.bits .u64))))=(((i+j)/2:Nat):Int):=by
 have e1:IntKind.i64.wrap ((i:Int)+(j:Int))=((i+j:Nat):Int):=by rw[CO (by omega) (by omega)];simp
 have e2:IntKind.u64.wrap ((i+j:Nat):Int)=((i+j:Nat):Int):=by simp only[IntKind.wrap,IntKind.bits,IntKind.signed];simp;omega
 have e3:(2:Int)^(min ((1:Int)).toNat (IntKind.bits .u64))=((2:Nat):Int):=rfl;rw[e1,e2,e3,Int.fdiv_eq_ediv_of_nonneg _ (by omega),<-Int.natCast_ediv,CO (by omega) (by omega)]
theorem Bb{i:Nat}(h:i<=2000000):IntKind.i64.wrap ((i:Int)+1)=((i+1:Nat):Int):=by rw[CO (by omega) (by omega)];simp
abbrev H6(l:List Ar):Prop:=DU (λw:Ar=>w.ao) l
abbrev MT(l:List Ar)(k:Am):Nat:=AK (λw:Ar=>bl w.ao k) l
theorem zHf{l:List Ar}{k:Am}(hl:l.length<=2000000)(hr:H6 l):Sb l k=some (((MT l k:Nat):Int),(match l[MT l k]? with|some w=>decide (w.ao=k)|none=>false)):=by
 unfold Sb jR;have hc:∀w:Ar,RC w k=some (NL w.ao k):=λw=>by simp[RC]
 have h:=cS (xs:=l) (body:=λs:Int × Int=>Rm l k (λy0_ y1_=>RC y0_ y1_) s.1 s.2) (fin:=λi=>jP l k (λy0_ y1_=>RC y0_ y1_) i) (λw:Ar=>bl w.ao k)
  (λi j hj hi h=>by
   rcases Nat.lt_or_ge i j with Ew|Ew
   ·exact EN ((List.pairwise_iff_getElem.1 hr) i j (by omega) hj Ew) h
   ·have:i=j:=by omega
    subst this;exact h)
  (λi j Ew hj Hw=>by show Rm l k _ (i:Int) (j:Int)=_;unfold Rm;rw[if_pos (by simpa using Ew),dC (by omega) (by omega),AH Hw,Aa];simp only[hc,Aa,tW,Bb (show(i+j)/2<=2000000 by omega)];cases bl l[(i+j)/2].ao k<;>rfl)
  (λi hi=>by show Rm l k _ (i:Int) (i:Int)=_;unfold Rm;rw[if_neg (by simp)])
 rw[h];unfold jP;show Option.bind (if decide (((MT l k:Nat):Int)<l.length)=true then _ else _) _=_;by_cases hp:MT l k<l.length
 ·rw[if_pos (by simpa using hp),AH hp,Aa];simp only[hc,Aa,u3,Bt hp]
 ·rw[if_neg (by simpa using hp),List.getElem?_eq_none (by omega)];rfl
theorem My(ks:List Am):Ou ks=DX bl ks:=by
 have key:∀n q,q+n+1=ks.length->(List.range' (q+1) n).all (HU ks)=DX bl (ks.drop q):=by
  intro n
  induction n with
  |zero=>intro q hq;rw[Br (show q<ks.length by omega),List.drop_eq_nil_of_le (show ks.length<=q+1 by omega)];rfl
  |succ n ih=>intro q hq;rw[List.range'_succ,List.all_cons,ih (q+1) (by omega),zsm (show q+1<ks.length by omega)];congr 1;unfold HU;have hb:(q+1==0)=false:=rfl;rw[hb,Bool.false_or,Nat.add_sub_cancel,Bt (show q<ks.length by omega),Bt (show q+1<ks.length by omega)];rfl
 cases ks with
 |nil=>rfl
 |cons k l=>unfold Ou;rw[Bk,List.range_eq_range',List.range'_succ,List.all_cons];have:=key l.length 0 (by simp);rw[List.drop_zero]at this;rw[Nat.zero_add]at this;rw[show 0+1=1 from rfl,this];rfl
theorem aR{α β:Type}(f:α->β)(r:β->β->Bool):∀l:List α,DX r (l.map f)=DX (λa b=>r (f a) (f b)) l
 | []=>rfl
 | [_]=>rfl
 |x::y::l=>by have:=aR f r (y::l);simp only[List.map_cons,DX]at this ⊢;rw[this]
theorem xY{l:List Ar}(h:Fs l=true):H6 l:=by unfold Fs at h;simp only[Ab]at h;have h1:=h.2.2;rw[My,aR]at h1;exact(Ix (r:=λa b:Ar=>bl a.ao b.ao) λa b c p q=>EN p q).1 h1
end
noncomputable section
open Go.RowKit Go.Sort
set_option maxRecDepth 100000
theorem Ts{S α β σ:Type}{xs:List α}{body:S->Option (S ⊕ Option β)}(mk:Nat->σ->S)(g:σ->α->Option σ)(b:Option β)(fin:σ->Option β)(I:Nat->σ->Prop)
  (hs:∀i acc (h:i<xs.length),I i acc->body (mk i acc)=some (match g acc xs[i]with|some a=> .inl (mk (i+1) a)|none=> .inr b)/\ ∀a,g acc xs[i]=some a->I (i+1) a)
  (he:∀acc,I xs.length acc->body (mk xs.length acc)=some (.inr (fin acc))) (a0:σ) (h0:I 0 a0):Az body (mk 0 a0)=match xs.foldlM g a0 with|some a=>fin a|none=>b:=by
 have key:∀n q acc,q+n=xs.length->I q acc->Az body (mk q acc)=match(xs.drop q).foldlM g acc with|some a=>fin a|none=>b:=by
  intro n
  induction n with
  |zero=>
   intro q acc hq hi;have e:q=xs.length:=by omega
   subst e;rw[EM,he acc hi,List.drop_length];rfl
  |succ n ih=>
   intro q acc hq hi;have hl:q<xs.length:=by omega
   obtain⟨h1,h2⟩:=hs q acc hl hi;rw[EM,h1,Br hl,List.foldlM_cons];cases hg:g acc xs[q]with
   |none=>rfl
   |some a=>exact ih (q+1) a (by omega) (h2 a hg)
 have:=key xs.length 0 a0 (by omega) h0;rwa[List.drop_zero]at this
theorem cD{α β:Type}{xs:List α}{body:Int->Option (Int ⊕ Option β)}(p:α->Bool)(fin:Int->Option β)
  (hs:∀i (h:i<xs.length),body (i:Nat)=some (if p xs[i]=true then .inl ((i+1:Nat):Int)else .inr (fin (i:Nat)))) (he:body (xs.length:Nat)=some (.inr (fin (xs.length:Nat)))):Az body 0=fin (AK p xs:Nat):=by
 have key:∀n q,q+n=xs.length->Az body (q:Nat)=fin ((q+AK p (xs.drop q):Nat):Int):=by
  intro n
  induction n with
  |zero=>
   intro q hq;have e:q=xs.length:=by omega
   subst e;rw[EM,he,List.drop_length];rfl
  |succ n ih=>
   intro q hq;have hl:q<xs.length:=by omega
   rw[EM,hs q hl,Br hl];by_cases hp:p xs[q]=true
   ·rw[if_pos hp];have e:AK p (xs[q]::xs.drop (q+1))=AK p (xs.drop (q+1))+1:=by unfold AK;rw[List.takeWhile_cons,if_pos hp];rfl
    rw[e,show q+(AK p (xs.drop (q+1))+1)=(q+1)+AK p (xs.drop (q+1)) by omega];exact ih (q+1) (by omega)
   ·rw[if_neg hp];have e:AK p (xs[q]::xs.drop (q+1))=0:=by unfold AK;rw[List.takeWhile_cons,if_neg hp];rfl
    rw[e];rfl
 have:=key xs.length 0 (by omega);rw[List.drop_zero,Nat.zero_add]at this;exact this
def KW(v:Dc):Bool:=BP v.ak 1 100000&&Ge v.bw v.bk
def II(a b:Dc):Bool:=decide (a.ak<b.ak)
def IB(l:List Dc):Bool:=BP (l.length:Int) 1 16&&(l.all KW&&DX II l)
def Ft(c:An):Bool:=CC c.ao&&IB c.bc
def QB(a b:An):Bool:=bl a.ao b.ao
def EO(l:List An):Bool:=decide ((l.length:Int)<=24)&&(l.all Ft&&DX QB l)
def Yl(c:An):Prop:=c.ao.length<=2000000/\c.bc.length<=2000000/\ ∀v∈c.bc,v.bw.length<=2000000
def Oz(l:List An):Prop:=l.length<=2000000/\ ∀c∈l,Yl c
theorem zCK{c:An}(h:Yl c):Z7 c=some (IB c.bc):=by
 obtain⟨_,h2,h3⟩:=h;unfold Z7 IB;rw[qL (xs:=c.bc) (body:=λs:Int=>PY c s) KW II false (lM c) (λh0=> ?_) (λi hi=> ?_) (by simp[PY])]
 ·unfold lM;simp only[Qm,Aa];cases c.bc.all KW<;>cases DX II c.bc<;>cases BP (c.bc.length:Int) 1 16<;>rfl
 ·show PY c 0=_;unfold PY N4 KW;rw[if_pos (by simpa using h0),show(0:Int)=((0:Nat):Int)from rfl,AH h0,Aa];simp only[Qm,Aa,oO (h3 _ (Aw h0))];cases BP c.bc[0].ak 1 100000<;>cases Ge c.bc[0].bw c.bc[0].bk<;>rfl
 ·show PY c ((i+1:Nat):Int)=_;unfold PY N4 KW II;rw[if_pos (by simp;omega),AH hi,Aa];simp only[Qm,Aa,oO (h3 _ (Aw hi))];rw[Qx (by omega) (by omega),Nat.add_sub_cancel,AH (show i<c.bc.length by omega),Js hi (by omega)];have e:decide (c.bc[i+1].ak<=c.bc[i].ak)= !decide (c.bc[i].ak<c.bc[i+1].ak):=by rw[<-decide_not,decide_eq_decide];omega
  simp only[Aa,e];rw[show decide (((i+1:Nat):Int)>0)=true by simp];cases BP c.bc[i+1].ak 1 100000<;>cases Ge c.bc[i+1].bw c.bc[i+1].bk<;>cases decide (c.bc[i].ak<c.bc[i+1].ak)<;>rfl
theorem zx1{c:An}(h:Yl c):Z6 c=some (Ft c):=by
 obtain⟨h1,h2,h3⟩:=h;unfold Z6 Ft IB;rw[qL (xs:=c.bc) (body:=λs:Int=>P1 c s) (λv=>BP v.ak 1 100000&&(CC c.ao&&Ge v.bw v.bk)) II false (lL c) (λh0=> ?_) (λi hi=> ?_) (by simp[P1])]
 ·unfold lL;simp only[TV h1,Ox,Aa];cases hk:CC c.ao with
  |true=>
   have e:(c.bc.all λv=>BP v.ak 1 100000&&(true&&Ge v.bw v.bk))=c.bc.all KW:=by congr 1
   rw[e];cases c.bc.all KW<;>cases DX II c.bc<;>cases BP (c.bc.length:Int) 1 16<;>rfl
  |false=>split<;>simp
 ·show P1 c 0=_;unfold P1 N5;rw[if_pos (by simpa using h0),show(0:Int)=((0:Nat):Int)from rfl,AH h0,Aa];simp only[Ox,Aa,qO h1 (h3 _ (Aw h0))];cases BP c.bc[0].ak 1 100000<;>cases(CC c.ao&&Ge c.bc[0].bw c.bc[0].bk)<;>rfl
 ·show P1 c ((i+1:Nat):Int)=_;unfold P1 N5 II;rw[if_pos (by simp;omega),AH hi,Aa];simp only[Ox,Aa,qO h1 (h3 _ (Aw hi))];rw[Qx (by omega) (by omega),Nat.add_sub_cancel,AH (show i<c.bc.length by omega),Js hi (by omega)];have e:decide (c.bc[i].ak>=c.bc[i+1].ak)= !decide (c.bc[i].ak<c.bc[i+1].ak):=by rw[<-decide_not,decide_eq_decide];omega
  simp only[Aa,e];rw[show decide (((i+1:Nat):Int)>0)=true by simp];cases BP c.bc[i+1].ak 1 100000<;>cases(CC c.ao&&Ge c.bc[i+1].bw c.bc[i+1].bk)<;>cases decide (c.bc[i].ak<c.bc[i+1].ak)<;>rfl
theorem zwx{α β:Type}{r:β->β->Bool}{f:α->β}:∀l:List α,DX r (l.map f)=DX (λa b=>r (f a) (f b)) l
 | []=>rfl
 | [_]=>rfl
 |x::y::l=>by show(r (f x) (f y)&&DX r ((y::l).map f))=_;rw[zwx (y::l)];rfl
theorem pW{l:List An}(h:Oz l):Wb l=some (EO l):=by
 have hn:=h.1;unfold Wb;rw[show((0:Int),([]:List Am))=(λ(i:Nat) (a:List Am)=>((i:Int),a)) 0 []from rfl,Ts (xs:=l) (body:=λs:Int × List Am=>VQ l s.1 s.2) (λ(i:Nat) (a:List Am)=>((i:Int),a)) (λa c=>if IB c.bc=true then some (a++ [c.ao])else none) (some false) (Zi l) (λi a=>a.length=i) (λi acc hi ha=> ?_) (λacc ha=>by simp[VQ]) [] rfl]
 ·have hf:∀(xs:List An) (a:List Am),xs.foldlM (m:=Option) (λa c=>if IB c.bc=true then some (a++ [c.ao])else none) a=if(xs.all λc=>IB c.bc)=true then some (a++xs.map (·.ao))else none:=by
   intro xs
   induction xs with
   |nil=>intro a;simp
   |cons x xs ih=>
    intro a;rw[List.foldlM_cons];by_cases hx:IB x.bc=true
    ·rw[if_pos hx];show xs.foldlM _ (a++ [x.ao])=_;rw[ih];simp[hx]
    ·rw[if_neg hx];simp[hx]
  rw[hf];unfold EO;by_cases hg:(l.all λc=>IB c.bc)=true
  ·rw[if_pos hg];show Zi l _=_;unfold Zi;rw[List.nil_append,nJ (by simpa using hn) (λk hk=>by obtain⟨c,hc,rfl⟩:=List.mem_map.1 hk;exact(h.2 c hc).1),My,zwx];have e:(l.map (·.ao)).all CC=l.all Ft:=by
    rw[List.all_map,Bool.eq_iff_iff];simp only[AZ]at hg ⊢;refine⟨λq c hc=> ?_,λq c hc=> ?_⟩
    ·unfold Ft;rw[hg c hc,Bool.and_true];exact q c hc
    ·have:=q c hc;unfold Ft at this;simp only[Ab]at this;exact this.1
   rw[e];show(if decide ((l.length:Int)<=24)=true then(some (l.all Ft&&DX QB l)).bind λv2=>some v2 else some false)=_;cases decide ((l.length:Int)<=24)<;>rfl
  ·rw[if_neg hg];have e:l.all Ft=false:=by
    cases hc:l.all Ft
    ·rfl
    ·refine absurd ?_ hg;simp only[AZ]at hc ⊢;intro c q;have:=hc c q;unfold Ft at this;simp only[Ab]at this;exact this.2
   rw[e];simp
 ·have ha:acc.length=i:=ha;refine⟨?_,λa e=> ?_⟩
  ·show VQ l (i:Int) acc=_;unfold VQ;rw[if_pos (by simpa using hi),AH hi,Aa,zCK (h.2 _ (Aw hi)),Aa,Js hi (by omega)];cases IB l[i].bc with
   |false=>rfl
   |true=>rw[if_neg (by simp),Ba (by simp;omega)];rfl
  ·split at e
   ·cases e;simp[ha]
   ·cases e
theorem pF{l:List An}(h:Oz l):Wu l=some (EO l):=by
 have hn:=h.1;unfold Wu EO;rw[qL (xs:=l) (body:=λs:Int=>P4 l s) Ft QB false (mF l) (λh0=> ?_) (λi hi=> ?_) (by simp[P4])]
 ·unfold mF;cases l.all Ft<;>cases DX QB l<;>simp
 ·show P4 l 0=_;unfold P4;rw[if_pos (by simpa using h0),show(0:Int)=((0:Nat):Int)from rfl,AH h0,Aa,zx1 (h.2 _ (Aw h0)),Aa];cases Ft l[0]<;>rfl
 ·show P4 l ((i+1:Nat):Int)=_;unfold P4 QB;rw[if_pos (by simp;omega),AH hi,Aa,zx1 (h.2 _ (Aw hi)),Aa];rw[Qx (by omega) (by omega),Nat.add_sub_cancel,AH (show i<l.length by omega),Js hi (by omega)];simp only[Aa];rw[show decide (((i+1:Nat):Int)>0)=true by simp];rw[show bl l[i].ao l[i+1].ao=Op.bytesLess l[i].ao l[i+1].ao from rfl];cases Ft l[i+1]<;>cases Op.bytesLess l[i].ao l[i+1].ao<;>rfl
end
noncomputable section
open Go.RowKit
set_option maxRecDepth 100000
set_option maxHeartbeats 1000000
theorem pO(a:Int):N5 a=some (BP a 1 100000):=rfl
theorem qH(a:Int):N4 a=some (BP a 1 100000):=rfl
theorem cU(a:Int):N6 a=some (BP a 1 60):=rfl
theorem zx5(a:Int):Qb a=some (BP a 0 100000):=rfl
theorem zDH(a:Int):SX a=some (BP a 0 100000):=rfl
def JV(ks:List Am):Prop:=ks.length<=2000000/\ ∀k∈ks,k.length<=2000000
def Dx(ks:List Am):Bool:=ks.all CC&&Ou ks
theorem zvN{ks:List Am}(h:JV ks):NZ ks=some (Dx ks):=nJ h.1 h.2
theorem zvY{ks:List Am}{body:Int->Option (Int ⊕ Option Bool)}{fin:Option Bool}(h:JV ks)(h0:∀(hi:0<ks.length),body 0=some (if CC ks[0]=true then .inl 1 else .inr (some false)))
  (hs:∀(i:Nat) (hi:i<ks.length) (hp:0<i),body i=some (if(CC ks[i]&&Op.bytesLess ks[i-1] ks[i])=true then .inl ((i+1:Nat):Int)else .inr (some false))) (he:body ks.length=some (.inr fin)):Az body 0=if Dx ks=true then fin else some false:=by
 rw[Lr (n:=ks.length) (λi=>CC ((ks[i]?).getD [])&&HU ks i) false fin ?_ he,rK ks CC (HU ks) _ λi hi=>by simp[hi]]
 ·rfl
 ·intro i hi;by_cases hz:i=0
  ·subst hz;show body 0=_;rw[h0 hi];simp[hi,HU]
  ·have Kk:i-1<ks.length:=by omega
   have hb:(i==0)=false:=by simpa using hz
   rw[hs i hi (Nat.pos_of_ne_zero hz)];simp only[Bt hi,Bt Kk,Dt,HU,hb,Bool.false_or]
theorem zyJ{ks:List Am}(h:JV ks):Wf ks=some (Dx ks&&decide ((ks.length:Int)<4)):=by
 have hn:=h.1;unfold Wf;rw[zvY (body:=λs:Int=>Se ks s) (fin:=lS ks) h (λhi=>by
  simp only[Se,hi,decide_true,if_true,show((0:Int)<(ks.length:Int))from by omega,show getI ks 0=some ks[0]from AH hi,Aa,TV (h.2 _ (Aw hi))];cases CC ks[0]<;>rfl) (λi hi hp=>by
  have Kk:i-1<ks.length:=by omega
  have UY:(i:Int)>0:=by omega
  simp only[Se,Int.ofNat_lt,hi,UY,decide_true,if_true,AH hi,Aa,TV (h.2 _ (Aw hi)),Js hi (by omega:ks.length<=_),Qx hp (by omega:i<=2000000),AH Kk];cases CC ks[i]<;>cases Op.bytesLess ks[i-1] ks[i]<;>rfl) (by
  show Se ks ks.length=_;unfold Se;rw[if_neg (by simp)])]
 unfold lS;cases Dx ks<;>rfl
theorem zDV{ks:List Am}(h:JV ks):Z9 ks=some (Dx ks&&decide ((ks.length:Int)<=8)):=by
 have hn:=h.1;unfold Z9;rw[zvY (body:=λs:Int=>R7 ks s) (fin:=lN ks) h (λhi=>by
  simp only[R7,hi,decide_true,if_true,show((0:Int)<(ks.length:Int))from by omega,show getI ks 0=some ks[0]from AH hi,Aa,TV (h.2 _ (Aw hi))];cases CC ks[0]<;>rfl) (λi hi hp=>by
  have Kk:i-1<ks.length:=by omega
  have UY:(i:Int)>0:=by omega
  simp only[R7,Int.ofNat_lt,hi,UY,decide_true,if_true,AH hi,Aa,TV (h.2 _ (Aw hi)),Js hi (by omega:ks.length<=_),Qx hp (by omega:i<=2000000),AH Kk];cases CC ks[i]<;>cases Op.bytesLess ks[i-1] ks[i]<;>rfl) (by
  show R7 ks ks.length=_;unfold R7;rw[if_neg (by simp)])]
 unfold lN;cases Dx ks<;>rfl
theorem zC0{ks:List Am}(h:JV ks):ZL ks=some (Dx ks&&decide ((ks.length:Int)<4)):=by unfold ZL;rw[zvN h];cases decide ((ks.length:Int)<4)<;>cases Dx ks<;>rfl
structure Gt(r:AS):Prop where
 reads:JV r.ar
 writes:cX r.af
def CL(r:AS):Bool:=
 if r.az=1 then BP r.ah 1 60&&(BP r.ak 1 100000&&(BP r.bj 0 3&&(Dx r.ar&&(decide ((r.ar.length:Int)<=8)&&(Fs r.af&&(decide ((r.af.length:Int)<=8)&&(decide ((r.ar.length:Int)+(r.af.length:Int)>0)&& !r.bf)))))))
 else(r.bj==0)&&(((r.ar.length:Int)==0)&&(((r.af.length:Int)==0)&&(
  if r.az=2\/r.az=3 then BP r.ah 1 60&&(if r.bf=true then BP r.ak 1 100000 else r.ak==0)
  else if r.az=4 then(r.ah==0)&&(BP r.ak 1 100000&& !r.bf)else false)))
theorem rF{r:AS}(h:Gt r):Wh r=some (CL r):=by
 have h1:=h.reads.1;have h2:=h.writes.1;have w:IntKind.i64.wrap ((r.ar.length:Int)+(r.af.length:Int))=(r.ar.length:Int)+(r.af.length:Int):=CO (by omega) (by omega);have hj:∀b:Bool,r.az≠1->(b=true↔(r.az=2\/r.az=3))->ZA r b=some (CL r):=by
  intro b k hb;unfold ZA CL;rw[if_neg k];cases b with
  |true=>rw[if_pos rfl,if_pos (show r.az=2\/r.az=3 from hb.1 rfl)];simp only[cU,qH,Aa];cases(r.bj==0)<;>cases((r.ar.length:Int)==0)<;>cases((r.af.length:Int)==0)<;>cases BP r.ah 1 60<;>cases r.bf<;>simp
  |false=>
   rw[if_neg (by simp),if_neg (show¬(r.az=2\/r.az=3)from λe=>by have:=hb.2 e;cases this)];by_cases k4:r.az=4
   ·rw[if_pos (by simpa using k4),if_pos k4];simp only[qH,Aa];cases(r.bj==0)<;>cases((r.ar.length:Int)==0)<;>cases((r.af.length:Int)==0)<;>cases(r.ah==0)<;>simp
   ·rw[if_neg (by simpa using k4),if_neg k4];cases(r.bj==0)<;>cases((r.ar.length:Int)==0)<;>cases((r.af.length:Int)==0)<;>rfl
 unfold Wh;by_cases k1:r.az=1
 ·rw[if_pos (by simpa using k1)];unfold CL;rw[if_pos k1];simp only[cU,qH,Qm,Aa,zvN h.reads,zBO h.writes,w];cases BP r.ah 1 60<;>cases BP r.ak 1 100000<;>cases BP r.bj 0 3<;>cases decide ((r.ar.length:Int)<=8)<;>cases Dx r.ar<;>cases decide ((r.af.length:Int)<=8)<;>cases Fs r.af<;>simp
 ·rw[if_neg (by simpa using k1)];by_cases k2:r.az=2
  ·rw[if_pos (by simpa using k2)];exact hj _ k1 (by simp[k2])
  ·rw[if_neg (by simpa using k2)];exact hj _ k1 (by simp[k2])
theorem zEO{r:AS}(h:Gt r):((Mx r).bind λv1=>some v1)=some (CL r):=by
 have h1:=h.reads.1;have h2:=h.writes.1;have w:IntKind.i64.wrap ((r.ar.length:Int)+(r.af.length:Int))=(r.ar.length:Int)+(r.af.length:Int):=CO (by omega) (by omega);have hj:∀b:Bool,r.az≠1->r.bj=0->(r.ar.length:Int)=0->(r.af.length:Int)=0->(b=true↔(r.az=2\/r.az=3))->Zo r b=some (CL r):=by
  intro b k e1 e2 e3 hb;unfold Zo CL;rw[if_neg k,show(r.bj==0)=true by simpa using e1,show((r.ar.length:Int)==0)=true by simpa using e2,show((r.af.length:Int)==0)=true by simpa using e3];cases b with
  |true=>rw[if_pos rfl,if_pos (show r.az=2\/r.az=3 from hb.1 rfl)];simp only[Ox,pO,Aa];cases BP r.ah 1 60<;>cases r.bf<;>simp
  |false=>
   rw[if_neg (by simp),if_neg (show¬(r.az=2\/r.az=3)from λe=>by have:=hb.2 e;cases this)];by_cases k4:r.az=4
   ·rw[if_pos (by simpa using k4),if_pos k4];simp only[pO,Aa];cases(r.ah==0)<;>simp
   ·rw[if_neg (by simpa using k4),if_neg k4];rfl
 have Cm:BP (r.af.length:Int) 0 8=decide ((r.af.length:Int)<=8):=by unfold BP;rw[show decide ((r.af.length:Int)>=0)=true by simp];rfl
 unfold Mx;by_cases k1:r.az=1
 ·rw[if_neg (by simp[k1]),if_pos (by simpa using k1)];unfold CL;rw[if_pos k1];simp only[Ox,pO,Aa,zDV h.reads,zB3 h.writes,w,Cm];cases BP r.ah 1 60<;>cases BP r.ak 1 100000<;>cases BP r.bj 0 3<;>cases decide ((r.ar.length:Int)<=8)<;>cases Dx r.ar<;>cases decide ((r.af.length:Int)<=8)<;>cases Fs r.af<;>simp
 ·by_cases hz:r.bj=0/\(r.ar.length:Int)=0/\(r.af.length:Int)=0
  ·obtain⟨e1,e2,e3⟩:=hz;rw[if_neg (by rw[w];simp[e1];omega),if_neg (by simpa using k1)];by_cases k2:r.az=2
   ·rw[if_pos (by simpa using k2),hj _ k1 e1 e2 e3 (by simp[k2]),Aa]
   ·rw[if_neg (by simpa using k2),hj _ k1 e1 e2 e3 (by simp[k2]),Aa]
  ·have hc:((r.az !=1)&&((r.bj !=0)||decide (IntKind.i64.wrap ((r.ar.length:Int)+(r.af.length:Int))>0)))=true:=by
    rw[w];by_cases e1:r.bj=0
    ·have:(r.ar.length:Int)+(r.af.length:Int)>0:=by
      rcases Classical.em ((r.ar.length:Int)=0)with e2|e2
      ·have e3: ¬(r.af.length:Int)=0:=λe3=>hz ⟨e1,e2,e3⟩;omega
      ·omega
     simp[k1,this]
    ·simp[k1,e1]
   rw[if_pos hc,Aa];unfold CL;rw[if_neg k1];by_cases e1:r.bj=0
   ·by_cases e2:(r.ar.length:Int)=0
    ·have e3:((r.af.length:Int)==0)=false:=by simpa using λe3=>hz ⟨e1,e2,by simpa using e3⟩
     rw[e3];simp
    ·have e2:((r.ar.length:Int)==0)=false:=by simpa using e2
     rw[e2];simp
   ·have e1:(r.bj==0)=false:=by simpa using e1
    rw[e1];rfl
theorem cV{r:AS}(h:Gt r):Mx r=some (CL r):=by
 have e:=zEO h;cases q:Mx r with
 |none=>rw[q]at e;cases e
 |some x=>rw[q]at e;exact e
theorem Tb{σ α:Type}{body:σ->Option (σ ⊕ Option α)}{s:σ}{o:Option α}(h:body s=some (.inr o)):Az body s=o:=by rw[EM,h]
theorem oL{σ α:Type}{body:σ->Option (σ ⊕ Option α)}{s s':σ}(h:body s=some (.inl s')):Az body s=Az body s':=by rw[EM,h]
def small(b:UInt8):Bool:= !(decide ((b.toNat:Int)<97)||decide ((b.toNat:Int)>122))
theorem zCD{xs:List Am}{s:Am}(h:xs.length<=2000000):YF xs s=some (CV (· ==s) xs):=by unfold YF;refine bV (· ==s) (λi hi=> ?_) (by simp[jU]);simp only[jU,Int.ofNat_lt,hi,decide_true,if_true,AH hi,Aa,Js hi (by omega:xs.length<=_)];rw[show(s==xs[i])=(xs[i]==s)from BEq.comm];cases xs[i]==s<;>rfl
theorem zGr(xs:List Am)(s:Am):(xs.any λx=>x==s)=xs.contains s:=by rw[List.contains_eq_any_beq];congr 1;funext x;exact BEq.comm
theorem zFQ{xs:List Am}{s:Am}(h:xs.length<=2000000):YG xs s=some (xs.contains s):=by simp only[YG,zCD h,Aa,bT,zGr]
theorem LH{i:Nat}(h0:0<i)(h:i<=2000000):IntKind.i64.wrap ((i:Int)-1)=((i-1:Nat):Int):=by rw[CO (by omega) (by omega)];omega
theorem zGw{α β:Type}{xs:List α}{body:Int->Option (Int ⊕ Option β)}(p:α->Bool)(Nh:α->Option β)(fin:Option β)
  (hs:∀(i:Nat) (hi:i<xs.length),body i=some (if p xs[i]=true then .inr (Nh xs[i])else .inl ((i+1:Nat):Int))) (he:body xs.length=some (.inr fin)):
  Az body 0=match xs.find? p with|some x=>Nh x|none=>fin:=by
 have key:∀n q,q+n=xs.length->Az body (q:Nat)=match(xs.drop q).find? p with|some x=>Nh x|none=>fin:=by
  intro n
  induction n with
  |zero=>
   intro q hq;have:q=xs.length:=by omega
   subst this;rw[List.drop_length];exact Tb he
  |succ n ih=>
   intro q hq;have AD:q<xs.length:=by omega
   rw[Br AD,List.find?_cons];have h1:=hs q AD;cases hp:p xs[q]with
   |true=>rw[hp,if_pos rfl]at h1;exact Tb h1
   |false=>rw[hp,if_neg (by simp)]at h1;rw[oL h1];exact ih (q+1) (by omega)
 have:=key xs.length 0 (by omega);rw[List.drop_zero]at this;exact this
theorem zA5{α:Type}(lt:α->Bool)(x:α)(l:List α):AK lt (x::l)=if lt x=true then AK lt l+1 else 0:=by unfold AK;rw[List.takeWhile_cons];split<;>rfl
theorem zAf{x:Ar}{l:List Ar}(h:H6 (x::l)):(∀y∈l,bl x.ao y.ao=true)/\H6 l:=by unfold H6 DU at h;rw[List.pairwise_cons]at h;exact h
theorem zBA{l:List Ar}{k:Am}(h:∀y∈l,bl k y.ao=true):l.find? (λw=>w.ao==k)=none:=by rw[List.find?_eq_none];intro y hy;have:=H4 (h y hy);simpa using λe=>this e.symm
theorem zto{k:Am}:∀{l:List Ar},H6 l->l.find? (λw=>w.ao==k)=match l[MT l k]? with|some w=>if w.ao=k then some w else none|none=>none
 | [],_=>by simp
 |x::l,h=>by
  obtain⟨h1,h2⟩:=zAf h;have ih:=zto (k:=k) h2;rw[MT,zA5,List.find?_cons];by_cases hb:bl x.ao k=true
  ·have A9:(x.ao==k)=false:=by simpa using H4 hb
   rw[if_pos hb,A9,List.getElem?_cons_succ];exact ih
  ·rw[if_neg hb,List.getElem?_cons_zero];by_cases he:x.ao=k
   ·rw[show(x.ao==k)=true by simpa using he];simp[he]
   ·rw[show(x.ao==k)=false by simpa using he];simp only[he,if_false];have hk:bl k x.ao=true:=Ti (by simpa using hb) he;exact zBA λy hy=>EN hk (h1 y hy)
theorem zFi{l:List Ar}{k:Am}(hl:l.length<=2000000)(hr:H6 l):∃i:Int,(Sb l k=some (i,true)/\ ∃w,getI l i=some w/\l.find? (λw=>w.ao==k)=some w)\/(Sb l k=some (i,false)/\l.find? (λw=>w.ao==k)=none):=by
 refine⟨(MT l k:Nat),?_⟩;rw[zHf hl hr,zto hr];by_cases hp:MT l k<l.length
 ·rw[Bt hp];by_cases hk:(l[MT l k]).ao=k
  ·left;simp only[hk,decide_true,if_true];exact⟨trivial,_,AH hp,rfl⟩
  ·right;simp only[hk,decide_false,if_false];exact⟨trivial,trivial⟩
 ·rw[List.getElem?_eq_none (by omega)];right;exact⟨rfl,rfl⟩
section
variable {α:Type} {key:α->Int}
def DV(key:α->Int)(x:α):List α->List α
 | []=> [x]
 |y::l=>if key x<key y then x::y::l else y::DV key x l
def Ci(key:α->Int)(l:List α):Prop:=l.Pairwise λa b=>key a<key b
def A7(key:α->Int)(t:Int)(y:α):Bool:=decide (key y<t)
theorem WG(lt:α->Bool)(x:α)(l:List α):AK lt (x::l)=if lt x=true then AK lt l+1 else 0:=by unfold AK;rw[List.takeWhile_cons];split<;>rfl
theorem bW{x:α}:∀{l:List α},(∀y∈l,key y≠key x)->DV key x l=l.take (AK (A7 key (key x)) l)++ [x]++l.drop (AK (A7 key (key x)) l)
 | [],_=>by simp[DV,AK]
 |y::l,h=>by
  have ih:=bW (x:=x) (l:=l) λz hz=>h z (by simp[hz]);have hy:=h y (by simp);rw[WG,DV];by_cases hb:key x<key y
  ·have e:A7 key (key x) y=false:=by unfold A7;simp;omega
   rw[if_pos hb,e];simp
  ·have e:A7 key (key x) y=true:=by unfold A7;simp;omega
   rw[if_neg hb,e,if_pos rfl,ih];simp
theorem Jh{x z:α}:∀{l:List α},z∈DV key x l↔z=x\/z∈l
 | []=>by simp[DV]
 |y::l=>by
  rw[DV];split
  ·simp
  ·rw[Ae,Jh,Ae];constructor
   ·rintro(h|h|h)<;>simp[h]
   ·rintro(h|h|h)<;>simp[h]
theorem qG{x:α}:∀(l:List α),(DV key x l).length=l.length+1
 | []=>rfl
 |y::l=>by
  rw[DV];split
  ·rfl
  ·simp[qG l]
theorem Ci.ins{x:α}:∀{l:List α},Ci key l->(∀y∈l,key y≠key x)->Ci key (DV key x l)
 | [],_,_=>by simp[DV,Ci]
 |y::l,h,hx=>by
  obtain⟨h1,h2⟩:=List.pairwise_cons.1 h;rw[DV];split
  ·rename_i hb;refine List.pairwise_cons.2 ⟨λz hz=> ?_,h⟩;rcases Ae.1 hz with rfl|hz
   ·exact hb
   ·have:=h1 z hz;omega
  ·rename_i hb;refine List.pairwise_cons.2 ⟨λz hz=> ?_,Ci.ins h2 λz hz=>hx z (by simp[hz])⟩;have hy:=hx y (by simp);rcases Jh.1 hz with rfl|hz
   ·omega
   ·exact h1 z hz
theorem Ci.filter{l:List α}(h:Ci key l)(p:α->Bool):Ci key (l.filter p):=List.Pairwise.filter p h
theorem Ci.tail{x:α}{l:List α}(h:Ci key (x::l)):Ci key l:=(List.pairwise_cons.1 h).2
theorem Ci.mono{l:List α}(h:Ci key l){i j:Nat}(hj:j<l.length)(hi:i<j):key l[i]<key l[j]:=List.pairwise_iff_getElem.1 h i j (by omega) hj hi
theorem S2{t:Int}:∀{l:List α},Ci key l->l.find? (λy=>key y==t)=match l[AK (A7 key t) l]? with|some y=>if key y=t then some y else none|none=>none
 | [],_=>by simp
 |x::l,h=>by
  obtain⟨h1,h2⟩:=List.pairwise_cons.1 h;have ih:=S2 (t:=t) h2;rw[WG,List.find?_cons];by_cases hb:key x<t
  ·have e:A7 key t x=true:=by unfold A7;simpa using hb
   have A9:(key x==t)=false:=by simp;omega
   rw[e,if_pos rfl,A9,List.getElem?_cons_succ];exact ih
  ·have e:A7 key t x=false:=by unfold A7;simpa using hb
   rw[e,if_neg (by simp),List.getElem?_cons_zero];by_cases he:key x=t
   ·rw[show(key x==t)=true by simpa using he];simp[he]
   ·rw[show(key x==t)=false by simpa using he];simp only[he,if_false];rw[List.find?_eq_none];intro y hy;have:=h1 y hy;simp;omega
theorem ztn{t:Int}{l:List α}(h:Ci key l):∀i j (hj:j<l.length) (hi:i<=j),A7 key t l[j]=true->A7 key t l[i]=true:=by
 intro i j hj hi AD;unfold A7 at AD ⊢;simp only[AJ]at AD ⊢;by_cases he:i=j
 ·subst he;exact AD
 ·have:=h.mono hj (show i<j by omega);omega
theorem ztC{t:Int}:∀{l:List α} {i:Nat},Ci key l->(hi:i<l.length)->key l[i]=t->l.take i++l.drop (i+1)=l.filter λy=>decide (key y≠t)
 | [],i,_,hi,_=>by simp at hi
 |x::l,0,h,_,hk=>by
  obtain⟨h1,_⟩:=List.pairwise_cons.1 h;have hk:key x=t:=hk;rw[List.filter_cons,if_neg (by simpa using hk)];symm;rw[List.filter_eq_self.2]
  ·rfl
  ·intro y hy;have:=h1 y hy;simp;omega
 |x::l,i+1,h,hi,hk=>by
  obtain⟨h1,h2⟩:=List.pairwise_cons.1 h;have I1:i<l.length:=by simpa using hi
  have Cy:key l[i]=t:=by simpa using hk
  have hx:key x≠t:=by have:=h1 _ (Aw I1);omega
  rw[List.filter_cons,if_pos (by simpa using hx),List.take_succ_cons,List.cons_append,List.drop_succ_cons,ztC h2 I1 Cy]
theorem zqH{t:Int}{l:List α}(h:l.find? (λy=>key y==t)=none):(l.filter λy=>decide (key y≠t))=l:=by rw[List.filter_eq_self];intro y hy;have:=List.find?_eq_none.1 h y hy;simpa using this
theorem Ci.len{lo hi:Int}:∀{l:List α},Ci key l->(∀y∈l,lo<=key y/\key y<=hi)->(l.length:Int)<=max 0 (hi-lo+1)
 | [],_,_=>by simp;omega
 |x::l,h,hb=>by
  obtain⟨h1,h2⟩:=List.pairwise_cons.1 h;have hx:=hb x (by simp);have:=Ci.len (lo:=key x+1) (hi:=hi) h2 λy hy=>⟨by have:=h1 y hy;omega,(hb y (by simp[hy])).2⟩
  rw[Bk];omega
end
abbrev ck(c:An):Am:=c.ao
abbrev Gg(l:List An):Prop:=DU ck l
def Et(l:List An)(k:Am):Option An:=l.find? λc=>c.ao==k
def OG(c:An):Int:=match c.bc.getLast? with|some v=>v.ak|none=>0
def Ch(l:List An)(k:Am):Int:=match Et l k with|some c=>OG c|none=>0
def Gv(l:List An)(k:Am):List Dc:=match Et l k with|some c=>c.bc|none=> []
def Hk(l:List An)(k:Am)(v:Dc):List An:=Gn ck ⟨k,Gv l k++ [v]⟩ l
def Hg(t:Int)(l:List An)(w:Ar):Option (List An):=if t<=Ch l w.ao then none else some (Hk l w.ao ⟨t,w.bw,w.bk⟩)
def Gl(t:Int)(l:List An)(ws:List Ar):Option (List An):=ws.foldlM (Hg t) l
def KE(l:List An)(ws:List Ar)(t:Int):Option (List An):=match Gl t l ws with|some o=>if EO o=true then some o else none|none=>none
abbrev hk(h:AL):Int:=h.ah
abbrev tk(t:A8):Int:=t.ah
def Bw(s:Ai)(t:Int):Option AL:=s.ae.find? λh=>hk h==t
def AU(s:Ai)(t:Int):Option A8:=s.au.find? λh=>tk h==t
def Eh(h:AL):AS:={az:=1,ah:=h.ah,ak:=h.ak,bj:=h.bj,ar:=h.ar,af:=h.af,bf:=false}
def IK(ws:List Ar)(k:Am):Bool:=ws.any λw=>w.ao==k
def Ce(ws:List Ar)(rs:List Am)(os:List Ar):Bool:=ws.any λw=>IK os w.ao||rs.contains w.ao
def C8(h:AL)(rs:List Am)(ws:List Ar):Bool:=Ce h.af rs ws||Ce ws h.ar h.af
theorem tR{a b:Int}:decide (NQ a b<0)=decide (a<b):=by
 unfold NQ;by_cases h:a<b
 ·simp[h]
 ·by_cases he:a=b<;>simp[h,he]
theorem zz6{a b:Int}:(NQ a b==0)=decide (a=b):=by
 unfold NQ;by_cases h:a<b
 ·have: ¬a=b:=by omega
  simp[h,this]
 ·by_cases he:a=b<;>simp[h,he]
theorem zHg{l:List An}{k:Am}(hl:l.length<=2000000)(hr:Gg l):YC l k (λy0_ y1_=>PS y0_ y1_)=some (((AK (λw:An=>bl w.ao k) l:Nat):Int),(match l[AK (λw:An=>bl w.ao k) l]? with|some w=>decide (w.ao=k)|none=>false)):=by
 unfold YC;have hc:∀w:An,PS w k=some (NL w.ao k):=λw=>by simp[PS]
 have h:=cS (xs:=l) (body:=λs:Int × Int=>Rn l k (λy0_ y1_=>PS y0_ y1_) s.1 s.2) (fin:=λi=>jQ l k (λy0_ y1_=>PS y0_ y1_) i) (λw:An=>bl w.ao k)
  (λi j hj hi h=>by
   rcases Nat.lt_or_ge i j with Ew|Ew
   ·exact EN ((List.pairwise_iff_getElem.1 hr) i j (by omega) hj Ew) h
   ·have:i=j:=by omega
    subst this;exact h)
  (λi j Ew hj Hw=>by show Rn l k _ (i:Int) (j:Int)=_;unfold Rn;rw[if_pos (by simpa using Ew),dC (by omega) (by omega),AH Hw,Aa];simp only[hc,Aa,tW,Bb (show(i+j)/2<=2000000 by omega)];cases bl l[(i+j)/2].ao k<;>rfl)
  (λi hi=>by show Rn l k _ (i:Int) (i:Int)=_;unfold Rn;rw[if_neg (by simp)])
 rw[h];unfold jQ;by_cases hp:AK (λw:An=>bl w.ao k) l<l.length
 ·rw[if_pos (by simpa using hp),AH hp,Aa];simp only[hc,Aa,u3,Bt hp]
 ·rw[if_neg (by simpa using hp),List.getElem?_eq_none (by omega)]
theorem zHi{l:List AL}{k:Int}(hl:l.length<=2000000)(hr:Ci hk l):YE l k (λy0_ y1_=>PF y0_ y1_)=some (((AK (A7 hk k) l:Nat):Int),(match l[AK (A7 hk k) l]? with|some w=>decide (w.ah=k)|none=>false)):=by
 unfold YE;have hc:∀w:AL,PF w k=some (NQ w.ah k):=λw=>by simp[PF]
 have h:=cS (xs:=l) (body:=λs:Int × Int=>Ro l k (λy0_ y1_=>PF y0_ y1_) s.1 s.2) (fin:=λi=>jT l k (λy0_ y1_=>PF y0_ y1_) i) (A7 hk k)
  (λi j hj hi h=>ztn hr i j hj hi h)
  (λi j Ew hj Hw=>by show Ro l k _ (i:Int) (j:Int)=_;unfold Ro;rw[if_pos (by simpa using Ew),dC (by omega) (by omega),AH Hw,Aa];simp only[hc,Aa,tR,Bb (show(i+j)/2<=2000000 by omega)];by_cases hq:l[(i+j)/2].ah<k<;>simp[A7,hk,tk,hq])
  (λi hi=>by show Ro l k _ (i:Int) (i:Int)=_;unfold Ro;rw[if_neg (by simp)])
 rw[h];unfold jT;by_cases hp:AK (A7 hk k) l<l.length
 ·rw[if_pos (by simpa using hp),AH hp,Aa];simp only[hc,Aa,zz6,Bt hp]
 ·rw[if_neg (by simpa using hp),List.getElem?_eq_none (by omega)]
theorem zG1{l:List A8}{k:Int}(hl:l.length<=2000000)(hr:Ci tk l):YD l k (λy0_ y1_=>PK y0_ y1_)=some (((AK (A7 tk k) l:Nat):Int),(match l[AK (A7 tk k) l]? with|some w=>decide (w.ah=k)|none=>false)):=by
 unfold YD;have hc:∀w:A8,PK w k=some (NQ w.ah k):=λw=>by simp[PK]
 have h:=cS (xs:=l) (body:=λs:Int × Int=>Rp l k (λy0_ y1_=>PK y0_ y1_) s.1 s.2) (fin:=λi=>jS l k (λy0_ y1_=>PK y0_ y1_) i) (A7 tk k)
  (λi j hj hi h=>ztn hr i j hj hi h)
  (λi j Ew hj Hw=>by show Rp l k _ (i:Int) (j:Int)=_;unfold Rp;rw[if_pos (by simpa using Ew),dC (by omega) (by omega),AH Hw,Aa];simp only[hc,Aa,tR,Bb (show(i+j)/2<=2000000 by omega)];by_cases hq:l[(i+j)/2].ah<k<;>simp[A7,hk,tk,hq])
  (λi hi=>by show Rp l k _ (i:Int) (i:Int)=_;unfold Rp;rw[if_neg (by simp)])
 rw[h];unfold jS;by_cases hp:AK (A7 tk k) l<l.length
 ·rw[if_pos (by simpa using hp),AH hp,Aa];simp only[hc,Aa,zz6,Bt hp]
 ·rw[if_neg (by simpa using hp),List.getElem?_eq_none (by omega)]
theorem Xp{β:Type}{body:Int->Option (Int ⊕ Option β)}{fin:Option β}(m:Nat)(he:body (m:Nat)=some (.inr fin)):∀n:Nat,m<=n->(∀i:Nat,m<=i->i<n->body ((i+1:Nat):Int)=some (.inl (i:Int)))->Az body (n:Nat)=fin
 |0,h,_=>by
  have e:m=0:=by omega
  subst e;exact Tb he
 |n+1,h,hs=>by
  by_cases e:m=n+1
  ·subst e;exact Tb he
  ·rw[oL (hs n (by omega) (by omega))];exact Xp m he n (by omega) λi h1 h2=>hs i h1 (by omega)
theorem zyq{α:Type}{vs:List α}(h:vs≠ [])(hl:vs.length<=2000000):getI vs (IntKind.i64.wrap ((vs.length:Int)-1))=some (vs.getLast h):=by
 have hp:0<vs.length:=by cases vs with|nil=>exact absurd rfl h|cons=>simp
 rw[LH hp hl,AH (by omega),List.getLast_eq_getElem]
def DL(n:Nat)(l:List An):Prop:=Gg l/\(l.length<=n/\ ∀c∈l,c.bc≠ []/\(c.bc.length<=n/\Yl c))
theorem WL{l:List An}{k:Am}{c:An}(h:Et l k=some c):c∈l/\c.ao=k:=⟨List.mem_of_find?_eq_some h,by have:=List.find?_some h;simpa using this⟩
theorem W7{l:List An}{k:Am}{c:An}(hr:Gg l)(hc:c∈l)(hk:c.ao=k):Et l k=some c:=by
 cases h:Et l k with
 |none=>have:=List.find?_eq_none.1 h c hc;simp[hk]at this
 |some d=>obtain⟨h1,h2⟩:=WL h;rw[DU.ju (key:=ck) hr h1 hc (by rw[ck,ck,h2,hk])]
theorem pK{l:List An}{k:Am}(h:∀c∈l,c.ao≠k):Et l k=none:=by unfold Et;rw[List.find?_eq_none];intro y hy;simpa using h y hy
abbrev BD(l:List An)(k:Am):Nat:=AK (λw:An=>bl w.ao k) l
theorem vU(l:List An)(k:Am):BD l k<=l.length:=Oo _ l
theorem WA{l:List An}(hr:Gg l)(k:Am):(∃h:BD l k<l.length,l[BD l k].ao=k/\Et l k=some l[BD l k])\/((∀c∈l,c.ao≠k)/\Et l k=none/\ ∀h:BD l k<l.length,bl k l[BD l k].ao=true):=by
 have X4:=List.pairwise_iff_getElem.1 hr;by_cases hp:BD l k<l.length
 ·by_cases hk:l[BD l k].ao=k
  ·exact .inl ⟨hp,hk,W7 hr (Aw hp) hk⟩
  ·right;have hn:bl (l[BD l k]'hp).ao k=false:=cN hp;have hg:bl k l[BD l k].ao=true:=Ti hn hk;have B5:∀c∈l,c.ao≠k:=by
    intro c hc e;obtain⟨j,hj,rfl⟩:=List.mem_iff_getElem.1 hc;rcases Nat.lt_trichotomy j (BD l k)with h|h|h
    ·exact H4 (TH h) e
    ·subst h;exact hk e
    ·have:=X4 (BD l k) j hp hj h;rw[ck,ck,e,Oe hg]at this;cases this
   exact⟨B5,pK B5,λ_=>hg⟩
 ·right;have B5:∀c∈l,c.ao≠k:=by
   intro c hc e;obtain⟨j,hj,rfl⟩:=List.mem_iff_getElem.1 hc;exact H4 (TH (lt:=λw:An=>bl w.ao k) (show j<BD l k by omega)) e
  exact⟨B5,pK B5,λh=>absurd h hp⟩
theorem pQ{l:List An}{k:Am}(hl:l.length<=2000000)(hr:Gg l):SA l k=some (((BD l k:Nat):Int),(Et l k).isSome):=by
 unfold SA;rw[zHg hl hr,Aa];rcases WA hr k with⟨hp,hk,hf⟩|⟨hn,hf,hg⟩
 ·rw[hf];simp[Bt hp,hk]
 ·rw[hf];by_cases hp:BD l k<l.length
  ·have hk:l[BD l k].ao≠k:=hn _ (Aw hp);simp[Bt hp,hk]
  ·simp[List.getElem?_eq_none (show l.length<=BD l k by omega)]
theorem vD{l:List An}{k:Am}(hl:l.length<=2000000)(hr:Gg l):∃i:Int,WB l k=some i/\((i<0/\Et l k=none)\/(0<=i/\ ∃c,getI l i=some c/\Et l k=some c)):=by
 refine⟨CV (λc:An=>c.ao==k) l,?_,?_⟩
 ·unfold WB;refine bV (λc:An=>c.ao==k) (λi hi=> ?_) ?_
  ·unfold mJ;rw[if_pos (by simpa using hi),AH hi,Aa,Bb (by omega)];cases l[i].ao==k<;>rfl
  ·unfold mJ;rw[if_neg (by simp)]
 ·by_cases h:CV (λc:An=>c.ao==k) l>=0
  ·obtain⟨x,h1,h2,h3⟩:=Xb h;exact .inr ⟨h,x,h1,W7 hr h3 (by simpa using h2)⟩
  ·refine .inl ⟨by omega,?_⟩;have:=bT (λc:An=>c.ao==k) l;rw[decide_eq_false h]at this;unfold Et;rw[List.find?_eq_none];intro y hy hq;have:=List.any_eq_false.1 this.symm y hy;exact this hq
theorem ztm{l:List An}{k:Am}{c:An}(h:Et l k=some c)(hv:c.bc≠ []):Ch l k=(c.bc.getLast hv).ak:=by unfold Ch;rw[h];show OG c=_;unfold OG;rw[List.getLast?_eq_some_getLast hv]
theorem Tz{n:Nat}{l:List An}{k:Am}(hn:n<=1000)(h:DL n l):P8 l k=some (Ch l k):=by
 obtain⟨hr,hl,hc⟩:=h;unfold P8;obtain⟨i,e,⟨h1,h2⟩|⟨h1,c,h2,h3⟩⟩:=vD (l:=l) (k:=k) (by omega) hr
 ·rw[e,Aa,if_pos (by simpa using h1)];unfold Ch;rw[h2]
 ·obtain⟨hv,hw,_⟩:=hc c (WL h3).1;rw[e,Aa,if_neg (by simpa using h1),h2,Aa,zyq hv (by omega),Aa,ztm h3 hv]
theorem Xw{n:Nat}{l:List An}{k:Am}(hn:n<=1000)(h:DL n l):SE l k=some (Ch l k):=by
 obtain⟨hr,hl,hc⟩:=h;unfold SE;rw[pQ (by omega) hr,Aa];rcases WA hr k with⟨hp,hk,hf⟩|⟨_,hf,_⟩
 ·obtain⟨hv,hw,_⟩:=hc _ (Aw hp);rw[hf,if_neg (by simp)];rw[AH hp,Aa,zyq hv (by omega),Aa,ztm hf hv]
 ·rw[hf];simp only[Option.isSome_none,Bool.not_false,if_true];unfold Ch;rw[hf]
theorem zym{l:List An}{k:Am}{v:Dc}(hr:Gg l)(hp:BD l k<l.length)(hk:l[BD l k].ao=k):Hk l k v=l.set (BD l k) ⟨k,l[BD l k].bc++ [v]⟩:=by unfold Hk;rw[pN hr];rw[show AK (λy=>bl (ck y) (ck (⟨k,Gv l k++ [v]⟩:An))) l=BD l k from rfl,Bt hp];show(if l[BD l k].ao=k then _ else _)=_;rw[if_pos hk];unfold Gv;rw[W7 hr (Aw hp) hk]
theorem zyT{l:List An}{k:Am}{v:Dc}(hr:Gg l)(hn:∀c∈l,c.ao≠k):Hk l k v=l.take (BD l k)++ [⟨k,[v]⟩]++l.drop (BD l k):=by
 have hv:Gv l k=[]:=by unfold Gv;rw[pK hn]
 unfold Hk;rw[pN hr,hv];rw[show AK (λy=>bl (ck y) (ck (⟨k,[]++ [v]⟩:An))) l=BD l k from rfl];by_cases hp:BD l k<l.length
 ·rw[Bt hp];show(if l[BD l k].ao=k then _ else _)=_;rw[if_neg (hn _ (Aw hp))];rfl
 ·rw[List.getElem?_eq_none (by omega)];rfl
theorem DL.add{n:Nat}{l:List An}{k:Am}{v:Dc}(h:DL n l)(hn:n<=1000)(hk:k.length<=2000000)(hv:v.bw.length<=2000000):DL (n+1) (Hk l k v):=by
 obtain⟨hr,hl,hc⟩:=h;have Va:(Gv l k).length<=n/\ ∀v∈Gv l k,v.bw.length<=2000000:=by
  unfold Gv;cases e:Et l k with
  |none=>exact⟨by simp,λv hv=>by simp at hv⟩
  |some c=>obtain⟨_,h2,h3⟩:=hc c (WL e).1;exact⟨h2,h3.2.2⟩
 refine⟨WJ hr,?_,?_⟩
 ·have:=cL (key:=ck) (x:=(⟨k,Gv l k++ [v]⟩:An)) l;unfold Hk;omega
 ·intro c Gq;rcases(MC (key:=ck) hr c).1 Gq with rfl|⟨hm,_⟩
  ·refine⟨by simp,by simp;omega,hk,by simp;omega,?_⟩;intro x hx;rcases Ac.1 hx with hx|hx
   ·exact Va.2 x hx
   ·have:x=v:=by simpa using hx
    subst this;exact hv
  ·obtain⟨h1,h2,h3⟩:=hc c hm;exact⟨h1,by omega,h3⟩
def Oj(ws:List Ar):Prop:=ws.length<=100/\ ∀w∈ws,w.ao.length<=2000000/\w.bw.length<=2000000
theorem vC{c:An}{k:Am}{vs:List Dc}(h:c.ao=k):({c with bc:=vs}:An)=⟨k,vs⟩:=by subst h;rfl
theorem zE5{α:Type}{A B:List α}{a:α}{p:Nat}(h:A.length=p):getI (A++ [a]++B) (p:Int)=some a:=by
 have hp:p<(A++ [a]++B).length:=by simp;omega
 rw[AH hp];subst h;simp
theorem zE6{α:Type}{A B:List α}{a b:α}{p:Nat}(h:A.length=p):(A++ [a]++B).set p b=A++ [b]++B:=by subst h;simp
theorem DL.small{n:Nat}{l:List An}(h:DL n l)(hn:n<=1000):Oz l:=⟨by have:=h.2.1;omega,λc hc=>(h.2.2 c hc).2.2⟩
theorem YB{α:Type}(l:List α)(p:Nat):A6 l 0 (p:Int)=l.take p:=by unfold A6;simp
theorem NM{α:Type}(l:List α)(p:Nat):A6 l (p:Int) (l.length:Int)=l.drop p:=by unfold A6;rw[CE,CE,List.take_of_length_le (AQ _)]
theorem rE{t:Int}:∀{ws:List Ar} {n:Nat} {l o:List An},n+ws.length<=1000->(∀w∈ws,w.ao.length<=2000000/\w.bw.length<=2000000)->DL n l->Gl t l ws=some o->DL (n+ws.length) o:=by
 intro ws
 induction ws with
 |nil=>intro n l o _ _ h e;cases e;exact h
 |cons w vs ih=>
  intro n l o hn hs h e;unfold Gl at e;rw[List.foldlM_cons]at e;cases e1:Hg t l w with
  |none=>rw[e1]at e;cases e
  |some l1=>
   rw[e1]at e;have e:Gl t l1 vs=some o:=e;unfold Hg at e1;split at e1
   ·cases e1
   ·cases e1;rw[Bk]at hn ⊢;have:=ih (n:=n+1) (by omega) (λw hw=>hs w (by simp[hw])) (DL.add h (by omega) (hs w (by simp)).1 (hs w (by simp)).2) e;rwa[show n+(vs.length+1)=n+1+vs.length by omega]
theorem zEK{l:List An}{ws:List Ar}{t:Int}(h:DL 24 l)(hw:Oj ws):ZJ l ws t=some (match KE l ws t with|some o=>(o,true)|none=>([],false)):=by
 have hC:R9 l=some l:=Ba ⟨by have:=h.2.1;omega,λc hc=>by have:=(h.2.2 c hc).2.1;omega⟩;unfold ZJ;rw[hC,Aa];have key:=Ts (xs:=ws) (body:=λs:Int × List An=>RB ws t s.1 s.2) (λi s=>((i:Int),s)) (Hg t) (some ([],false)) (λs=>Za s) (λi s=>DL (24+i) s)
  (λi acc hi hI=>by
   have Vd:=hw.2 _ (Aw hi);have hn:=hw.1;obtain⟨hr,hl,hc⟩:=hI;refine⟨?_,λa ha=> ?_⟩
   ·show RB ws t (i:Int) acc=_;unfold RB;rw[if_pos (by simpa using hi),AH hi,Aa,Xw (n:=24+i) (by omega) ⟨hr,hl,hc⟩,Aa];unfold Hg;by_cases ht:t<=Ch acc ws[i].ao
    ·rw[if_pos (by simpa using ht),if_pos ht]
    ·rw[if_neg (by simpa using ht),if_neg ht,pQ (by omega) hr,Aa,Bb (by omega)];rcases WA hr ws[i].ao with⟨hp,hk,hf⟩|⟨Dl,hf,_⟩
     ·have h1:=(hc _ (Aw hp)).2.1;rw[hf];simp only[Option.isSome_some,Bool.not_true,Bj,if_false];rw[AH hp,Aa,Ba (by simp only[AP];omega),CE,zym hr hp hk];refine congrArg (λz=>some (Sum.inl (((i+1:Nat):Int),z))) (congrArg (acc.set _) ?_);exact vC hk
     ·have GQ:=vU acc ws[i].ao;have hA:(acc.take (BD acc ws[i].ao)).length=BD acc ws[i].ao:=by simp;omega
      have hIn:IA acc ((BD acc ws[i].ao:Nat):Int) [(⟨ws[i].ao,[]⟩:An)]=some (acc.take (BD acc ws[i].ao)++ [⟨ws[i].ao,[]⟩]++acc.drop (BD acc ws[i].ao)):=by unfold IA;rw[Ba ⟨by omega,by omega,by simp,by simp only[AP];omega⟩,CE]
      rw[hf];simp only[Option.isSome_none,Bool.not_false,if_true];rw[hIn,Aa,zE5 hA,Aa,Ba (by simp[RM]),CE,zE6 hA,zyT hr Dl];rfl
   ·unfold Hg at ha;split at ha
    ·cases ha
    ·cases ha;exact DL.add (n:=24+i) ⟨hr,hl,hc⟩ (by omega) Vd.1 Vd.2)
  (λacc _=>by show RB ws t (ws.length:Int) acc=_;unfold RB;rw[if_neg (by simp)]) l h
 refine key.trans ?_;unfold KE Gl;have A5:∀o,ws.foldlM (Hg t) l=some o->DL (24+ws.length) o:=λo ho=>rE (by have:=hw.1;omega) hw.2 h ho;cases ho:ws.foldlM (Hg t) l with
 |none=>rfl
 |some o=>show Za o=some (match(if EO o=true then some o else none)with|some o=>(o,true)|none=>([],false));unfold Za;rw[pW ((A5 o ho).small (by have:=hw.1;omega)),Aa];cases EO o<;>rfl
theorem tT{l:List An}(h:DL 24 l):Wz l=some l:=by
 unfold Wz;have:=(D5 (xs:=l) (body:=λs:List An × Int=>SU l s.1 s.2) (λi s=>(s,i)) (λo c=>o++ [c]) (λo=>some o) (λi o=>o.length=i)
  (λi hi o ho=>by have h1:=h.2.1;have h2:=(h.2.2 _ (Aw hi)).2.1;refine⟨?_,by simp[ho]⟩;show SU l o (i:Int)=_;unfold SU;rw[if_pos (by simpa using hi),AH hi,Aa,Ba (by simp only[List.length_nil];omega),Ba (by simp only[AP];omega),Bb (by omega)])
  (λo ho=>by show SU l o (l.length:Int)=_;unfold SU;rw[if_neg (by simp)]) (s:=[]) rfl).1
 refine this.trans ?_;have e:=foldl_map (λc:An=>c) l [];simpa using e
theorem zEH{l:List An}{ws:List Ar}{t:Int}(h:DL 24 l)(hw:Oj ws)(h0:0<t):Z4 l ws t=some (match Gl t l ws with|some o=>(o,EO o)|none=>([],false)):=by
 unfold Z4;rw[tT h,Aa];have key:=Ts (xs:=ws) (body:=λs:Int × List An=>Sx ws t s.1 s.2) (λi s=>((i:Int),s)) (Hg t) (some ([],false)) (λs=>ZE s) (λi s=>DL (24+i) s)
  (λi acc hi hI=>by
   have Vd:=hw.2 _ (Aw hi);have hn:=hw.1;obtain⟨hr,hl,hc⟩:=hI;have X4:=List.pairwise_iff_getElem.1 hr;have GQ:=vU acc ws[i].ao;refine⟨?_,λa ha=> ?_⟩
   ·show Sx ws t (i:Int) acc=_;unfold Sx;rw[if_pos (by simpa using hi),AH hi,Aa];have down:∀m:Nat,(∀j (hj:j<acc.length),m<=j->bl ws[i].ao acc[j].ao=true)-> ∀j:Nat,m<=j->j<acc.length->PW t (i:Int) acc ws[i] ((j+1:Nat):Int)=some (.inl (j:Int)):=by
     intro m hm j h1 h2;unfold PW;rw[if_pos (by simp),LH (by omega) (by omega),show j+1-1=j by omega,AH h2,Aa,Xe,if_pos (by rw[Bool.not_not];exact hm j h2 h1)]
    rcases WA hr ws[i].ao with⟨hp,hk,hf⟩|⟨Dl,hf,hg⟩
    ·have hv:=(hc _ (Aw hp))
     have stop:PW t (i:Int) acc ws[i] ((BD acc ws[i].ao+1:Nat):Int)=some (.inr (Sz t (i:Int) acc ws[i] ((BD acc ws[i].ao+1:Nat):Int))):=by unfold PW;rw[if_pos (by simp),LH (by omega) (by omega),show BD acc ws[i].ao+1-1=BD acc ws[i].ao by omega,AH hp,Aa,Xe,if_neg (by rw[hk];rw[show Op.bytesLess ws[i].ao ws[i].ao=false from KT _];simp)]
     rw[Xp (BD acc ws[i].ao+1) stop acc.length (by omega) (down _ λj hj h1=>by rw[<-hk];exact X4 _ j hp hj (by omega))];unfold Sz;rw[if_pos (by simp),LH (by omega) (by omega),show BD acc ws[i].ao+1-1=BD acc ws[i].ao by omega,AH hp,Aa,if_pos (by simpa using hk),Tz (n:=24+i) (by omega) ⟨hr,hl,hc⟩,Aa];unfold Hg;by_cases ht:t<=Ch acc ws[i].ao
     ·rw[if_pos (by simpa using ht),if_pos ht]
     ·rw[if_neg (by simpa using ht),if_neg ht,Ba (by simp only[AP];omega),CE,zym hr hp hk,Bb (by omega)];refine congrArg (λz=>some (Sum.inl (((i+1:Nat):Int),z))) (congrArg (acc.set _) ?_);exact vC hk
    ·have ht: ¬t<=Ch acc ws[i].ao:=by unfold Ch;rw[hf];show¬t<=0;omega
     have eQ:∀j (hj:j<acc.length),BD acc ws[i].ao<=j->bl ws[i].ao acc[j].ao=true:=by
      intro j hj h1;have hp:BD acc ws[i].ao<acc.length:=by omega
      rcases Nat.lt_or_ge (BD acc ws[i].ao) j with h2|h2
      ·exact EN (hg hp) (X4 _ j hp hj h2)
      ·have e:BD acc ws[i].ao=j:=by omega
       have:=hg hp;simp only[e]at this;exact this
     have stop:PW t (i:Int) acc ws[i] ((BD acc ws[i].ao:Nat):Int)=some (.inr (Sz t (i:Int) acc ws[i] ((BD acc ws[i].ao:Nat):Int))):=by
      unfold PW;by_cases h0:BD acc ws[i].ao=0
      ·rw[if_neg (by simp[h0])]
      ·have hb:bl (acc[BD acc ws[i].ao-1]'(by omega)).ao ws[i].ao=true:=TH (lt:=λw:An=>bl w.ao ws[i].ao) (show BD acc ws[i].ao-1<BD acc ws[i].ao by omega);rw[if_pos (by simp;omega),LH (by omega) (by omega),AH (show BD acc ws[i].ao-1<acc.length by omega),Aa,Xe,if_neg (by rw[show Op.bytesLess ws[i].ao _=false from Oe hb];simp)]
     rw[Xp (BD acc ws[i].ao) stop acc.length (by omega) (down _ eQ)];have body:(req (0<=((BD acc ws[i].ao:Nat):Int)/\((BD acc ws[i].ao:Nat):Int)<=(acc.length:Int)/\(acc.length:Int)<=(acc.length:Int))<|
       req (0<=((BD acc ws[i].ao:Nat):Int)/\((BD acc ws[i].ao:Nat):Int)<=(acc.length:Int)/\(acc.length:Int)<=(acc.length:Int))<|
       req (((([]:List An).length:Int)+(((A6 acc ((BD acc ws[i].ao:Nat):Int) (acc.length:Int))).length:Int))*40<=140737488355328/\(([]:List An).length:Int)+(((A6 acc ((BD acc ws[i].ao:Nat):Int) (acc.length:Int))).length:Int)<=140737488355328)<|
       req (0<=(0:Int)/\(0:Int)<=((BD acc ws[i].ao:Nat):Int)/\((BD acc ws[i].ao:Nat):Int)<=(acc.length:Int))<|
       req (((([]:List An).length:Int)+(((A6 acc 0 ((BD acc ws[i].ao:Nat):Int))).length:Int))*40<=140737488355328/\(([]:List An).length:Int)+(((A6 acc 0 ((BD acc ws[i].ao:Nat):Int))).length:Int)<=140737488355328)<|
       req (((((A6 acc 0 ((BD acc ws[i].ao:Nat):Int))).length:Int)+(([(⟨ws[i].ao,[(⟨t,ws[i].bw,ws[i].bk⟩:Dc)]⟩:An)]:List An).length:Int))*40<=140737488355328/\(((A6 acc 0 ((BD acc ws[i].ao:Nat):Int))).length:Int)+(([(⟨ws[i].ao,[(⟨t,ws[i].bw,ws[i].bk⟩:Dc)]⟩:An)]:List An).length:Int)<=140737488355328)<|
       req ((((((A6 acc 0 ((BD acc ws[i].ao:Nat):Int))++ [(⟨ws[i].ao,[(⟨t,ws[i].bw,ws[i].bk⟩:Dc)]⟩:An)])).length:Int)+(((A6 acc ((BD acc ws[i].ao:Nat):Int) (acc.length:Int))).length:Int))*40<=140737488355328/\((((A6 acc 0 ((BD acc ws[i].ao:Nat):Int))++ [(⟨ws[i].ao,[(⟨t,ws[i].bw,ws[i].bk⟩:Dc)]⟩:An)])).length:Int)+(((A6 acc ((BD acc ws[i].ao:Nat):Int) (acc.length:Int))).length:Int)<=140737488355328)<|
       (some (.inl ((IntKind.i64.wrap ((i:Int)+1)),(((A6 acc 0 ((BD acc ws[i].ao:Nat):Int))++ [(⟨ws[i].ao,[(⟨t,ws[i].bw,ws[i].bk⟩:Dc)]⟩:An)])++(A6 acc ((BD acc ws[i].ao:Nat):Int) (acc.length:Int))))):Option ((Int × List An) ⊕ Option (List An × Bool))))=some (.inl (((i+1:Nat):Int),Hk acc ws[i].ao ⟨t,ws[i].bw,ws[i].bk⟩)):=by
      rw[YB,NM,zyT hr Dl,Bb (by omega)];rw[Ba (by omega),Ba (by omega),Ba (by simp only[Bx,List.length_nil];omega),Ba (by omega),Ba (by simp only[Au,List.length_nil];omega),Ba (by simp only[Au,AP];omega),Ba (by simp only[AF,Bx,Au,AP];omega)]
     have e1:Hg t acc ws[i]=some (Hk acc ws[i].ao ⟨t,ws[i].bw,ws[i].bk⟩):=by unfold Hg;rw[if_neg ht]
     rw[e1];unfold Sz;by_cases h0:BD acc ws[i].ao=0
     ·rw[if_neg (by simp[h0])];exact body
     ·have A9:(acc[BD acc ws[i].ao-1]'(by omega)).ao≠ws[i].ao:=Dl _ (Aw _);rw[if_pos (by simp;omega),LH (by omega) (by omega),AH (show BD acc ws[i].ao-1<acc.length by omega),Aa,if_neg (by simpa using A9)];exact body
   ·unfold Hg at ha;split at ha
    ·cases ha
    ·cases ha;exact DL.add (n:=24+i) ⟨hr,hl,hc⟩ (by omega) Vd.1 Vd.2)
  (λacc _=>by show Sx ws t (ws.length:Int) acc=_;unfold Sx;rw[if_neg (by simp)]) l h
 refine key.trans ?_;unfold Gl;cases ho:ws.foldlM (Hg t) l with
 |none=>rfl
 |some o=>show ZE o=some (o,EO o);unfold ZE;rw[pF ((rE (by have:=hw.1;omega) hw.2 h ho).small (by have:=hw.1;omega)),Aa]
theorem zwU{α:Type}(q:α->Bool):∀xs:List α,xs.find? q=xs[AK (λx=> !q x) xs]?
 | []=>by simp
 |x::xs=>by
  rw[WG,List.find?_cons];cases hq:q x with
  |true=>simp
  |false=>simpa using zwU q xs
theorem Qe{α β:Type}{xs:List α}{body:Int->Option (Int ⊕ Option β)}(q:α->Bool)(F:α->Option β)(fin:Option β)
  (hs:∀i (h:i<xs.length),body (i:Nat)=some (if q xs[i]=true then .inr (F xs[i])else .inl ((i+1:Nat):Int))) (he:body (xs.length:Nat)=some (.inr fin)):Az body 0=match xs.find? q with|some x=>F x|none=>fin:=by
 rw[zwU,cD (λx=> !q x) (λi=>match xs[i.toNat]? with|some x=>F x|none=>fin) (λi h=> ?_) ?_]
 ·rw[CE]
 ·rw[he,CE,List.getElem?_eq_none (AQ _)]
 ·rw[hs i h,CE,Bt h];cases q xs[i]<;>rfl
theorem Tt{α:Type}(q:α->Bool)(xs:List α):(xs.find? q).isSome=xs.any q:=by rw[Bool.eq_iff_iff,List.find?_isSome,List.any_eq_true]
theorem uL{ws:List Ar}{k:Am}(h:ws.length<=2000000):Wn ws k=some (IK ws k):=by
 unfold Wn;rw[Qe (xs:=ws) (λw=>w.ao==k) (λ_=>some true) (some false) (λi hi=> ?_) ?_]
 ·unfold IK;rw[<-Tt];cases ws.find? (λw=>w.ao==k)<;>rfl
 ·unfold kX;rw[if_neg (by simp)]
 ·unfold kX;rw[if_pos (by simpa using hi),AH hi,Aa,Bb (by omega)];cases ws[i].ao==k<;>rfl
theorem zFS{ks:List Am}{k:Am}(h:ks.length<=2000000):aA ks k=some (ks.any (· ==k)):=by
 unfold aA;rw[Qe (xs:=ks) (λw=>w==k) (λ_=>some true) (some false) (λi hi=> ?_) ?_]
 ·rw[<-Tt];cases ks.find? (λw=>w==k)<;>rfl
 ·unfold mE;rw[if_neg (by simp)]
 ·unfold mE;rw[if_pos (by simpa using hi),AH hi,Aa,Bb (by omega)];cases ks[i]==k<;>rfl
theorem Tf{s:Ai}{t:Int}(h:s.ae.length<=2000000):Jd s t=some (match Bw s t with|some h=>(h,true)|none=>((⟨0,0,0,[],[]⟩:AL),false)):=by
 unfold Jd;rw[Qe (xs:=s.ae) (λw=>hk w==t) (λh=>some (h,true)) (some ((⟨0,0,0,[],[]⟩:AL),false)) (λi hi=> ?_) ?_]
 ·unfold Bw;cases s.ae.find? (λw=>hk w==t)<;>rfl
 ·unfold lE;rw[if_neg (by simp)]
 ·unfold lE;rw[if_pos (by simpa using hi),AH hi,Aa,Bb (by omega)];unfold hk;cases s.ae[i].ah==t<;>rfl
theorem bP{s:Ai}{t:Int}(h:s.au.length<=2000000):P0 s t=some (match AU s t with|some h=>(h,true)|none=>((⟨0,false,0⟩:A8),false)):=by
 unfold P0;rw[Qe (xs:=s.au) (λw=>tk w==t) (λh=>some (h,true)) (some ((⟨0,false,0⟩:A8),false)) (λi hi=> ?_) ?_]
 ·unfold AU;cases s.au.find? (λw=>tk w==t)<;>rfl
 ·unfold lG;rw[if_neg (by simp)]
 ·unfold lG;rw[if_pos (by simpa using hi),AH hi,Aa,Bb (by omega)];unfold tk;cases s.au[i].ah==t<;>rfl
theorem zsi{α:Type}{key:α->Int}{l:List α}{t:Int}(hr:Ci key l):(l.find? (λy=>key y==t)).isSome=(match l[AK (A7 key t) l]? with|some w=>decide (key w=t)|none=>false):=by
 rw[S2 hr];cases l[AK (A7 key t) l]? with
 |none=>rfl
 |some w=>by_cases h:key w=t<;>simp[h]
theorem Qk{s:Ai}{t:Int}(hl:s.ae.length<=2000000)(hr:Ci hk s.ae):JJ s t=some (((AK (A7 hk t) s.ae:Nat):Int),(Bw s t).isSome):=by unfold JJ Bw;rw[zHi hl hr,Aa,zsi hr];cases s.ae[AK (A7 hk t) s.ae]?<;>rfl
theorem Oh{s:Ai}{t:Int}(hl:s.au.length<=2000000)(hr:Ci tk s.au):KG s t=some (((AK (A7 tk t) s.au:Nat):Int),(AU s t).isSome):=by unfold KG AU;rw[zG1 hl hr,Aa,zsi hr];cases s.au[AK (A7 tk t) s.au]?<;>rfl
theorem zx8{α:Type}{key:α->Int}{l:List α}{t:Int}(h:Ci key l):(∀j (hj:j<l.length),AK (A7 key (t+1)) l<=j->t<key l[j])/\ ∀j (hj:j<l.length),j<AK (A7 key (t+1)) l->key l[j]<=t:=by
 constructor
 ·intro j hj hp;have h1:AK (A7 key (t+1)) l<l.length:=by omega
  have h2: ¬(key (l[AK (A7 key (t+1)) l]'h1)<t+1):=of_decide_eq_false (cN h1);by_cases e:AK (A7 key (t+1)) l=j
  ·subst e;omega
  ·have:=h.mono hj (show AK (A7 key (t+1)) l<j by omega);omega
 ·intro j hj hp;have:key l[j]<t+1:=of_decide_eq_true (TH (lt:=A7 key (t+1)) hp);omega
theorem zBQ{α:Type}{key:α->Int}{l:List α}{t:Int}(hn:∀y∈l,key y≠t):AK (A7 key (t+1)) l=AK (A7 key t) l:=by
 induction l with
 |nil=>rfl
 |cons x l ih=>
  rw[WG,WG,ih λy hy=>hn y (by simp[hy])];have:=hn x (by simp);have e:A7 key (t+1) x=A7 key t x:=by unfold A7;rw[decide_eq_decide];omega
  rw[e]
theorem zvQ{α:Type}{key:α->Int}{l:List α}{x:α}(hn:∀y∈l,key y≠key x):DV key x l=l.take (AK (A7 key (key x+1)) l)++ [x]++l.drop (AK (A7 key (key x+1)) l):=by rw[zBQ hn];exact bW hn
theorem zzM{l:List AL}{h:AL}(hl:l.length<=1000)(hr:Ci hk l):∃r,Zz l h=some r/\((∀y∈l,hk y≠hk h)->r=DV hk h l):=by
 have hp:=Oo (A7 hk (hk h+1)) l;obtain⟨h1,h2⟩:=zx8 (t:=hk h) hr;refine⟨_,?_,λhn=>(zvQ hn).symm⟩;unfold Zz;rw[Xp (AK (A7 hk (hk h+1)) l) (fin:=YW l h ((AK (A7 hk (hk h+1)) l:Nat):Int)) ?_ l.length hp λj h3 h4=> ?_]
 ·unfold YW;rw[YB,NM,Ba (by omega),Ba (by omega),Ba (by simp only[Bx,List.length_nil];omega),Ba (by omega),Ba (by simp only[Au,List.length_nil];omega),Ba (by simp only[Au,AP];omega),Ba (by simp only[AF,Bx,Au,AP];omega)]
 ·unfold kL;by_cases h0:AK (A7 hk (hk h+1)) l=0
  ·rw[if_neg (by simp[h0])]
  ·have:=h2 (AK (A7 hk (hk h+1)) l-1) (by omega) (by omega);rw[if_pos (by simp;omega),LH (by omega) (by omega),AH (show AK (A7 hk (hk h+1)) l-1<l.length by omega),Aa,if_neg (by simpa using this)]
 ·have:=h1 j h4 h3;unfold kL;rw[if_pos (by simp),LH (by omega) (by omega),show j+1-1=j by omega,AH h4,Aa,if_pos (by simpa using this)]
theorem zyV{l:List A8}{h:A8}(hl:l.length<=1000)(hr:Ci tk l):∃r,V0 l h=some r/\((∀y∈l,tk y≠tk h)->r=DV tk h l):=by
 have hp:=Oo (A7 tk (tk h+1)) l;obtain⟨h1,h2⟩:=zx8 (t:=tk h) hr;refine⟨_,?_,λhn=>(zvQ hn).symm⟩;unfold V0;rw[Xp (AK (A7 tk (tk h+1)) l) (fin:=Y3 l h ((AK (A7 tk (tk h+1)) l:Nat):Int)) ?_ l.length hp λj h3 h4=> ?_]
 ·unfold Y3;rw[YB,NM,Ba (by omega),Ba (by simp only[Bx,List.length_nil];omega),Ba (by omega),Ba (by simp only[Au,List.length_nil];omega),Ba (by simp only[Au,AP];omega),Ba (by simp only[AF,Bx,Au,AP];omega)]
 ·unfold kO;by_cases h0:AK (A7 tk (tk h+1)) l=0
  ·rw[if_neg (by simp[h0])]
  ·have:=h2 (AK (A7 tk (tk h+1)) l-1) (by omega) (by omega);rw[if_pos (by simp;omega),LH (by omega) (by omega),AH (show AK (A7 tk (tk h+1)) l-1<l.length by omega),Aa,if_neg (by simpa using this)]
 ·have:=h1 j h4 h3;unfold kO;rw[if_pos (by simp),LH (by omega) (by omega),show j+1-1=j by omega,AH h4,Aa,if_pos (by simpa using this)]
theorem zyS{l:List AL}{t:Int}(hl:l.length<=1000):SO l t=some (l.filter λh=>decide (hk h≠t)):=by unfold SO EV;rw[Ba (by omega)];congr 2;funext h;by_cases e:h.ah=t<;>simp[e]
def JH(a b:Am):Prop:=bl b a=false
theorem zBZ{a b c:Am}(h1:JH a b)(h2:JH b c):JH a c:=by
 unfold JH at*;cases h:bl c a with
 |false=>rfl
 |true=>
  rcases XJ a b with k|k|k
  ·have:=EN h k;rw[h2]at this;cases this
  ·subst k;rw[h2]at h;cases h
  ·rw[h1]at k;cases k
abbrev Ei(l:List Am):Prop:=DU (λs:Am=>s) l
theorem zwn{zs:List Am}(h:zs.Pairwise JH):Ei (Lib.compact zs)/\ ∀y,y∈Lib.compact zs↔y∈zs:=by
 have get:∀j (hj:j<zs.length),(zs.toArray[j]!)=zs[j]:=λj hj=>by rw[getElem!_pos _ j (by simpa using hj)];simp
 have le:∀i j (hi:i<zs.length) (hj:j<zs.length),i<=j->JH zs[i] zs[j]:=λi j hi hj Ew=>by
  rcases Nat.lt_or_ge i j with k|k
  ·exact(List.pairwise_iff_getElem.1 h) i j hi hj k
  ·have:i=j:=by omega
   subst this;exact KT _
 unfold Lib.compact Lib.compactUpTo;constructor
 ·unfold Ei DU;rw[List.pairwise_map];have hp:(List.range zs.length).Pairwise (· < ·):=List.pairwise_lt_range;have:=List.Pairwise.filter (Lib.keeps zs.toArray) hp;refine List.Pairwise.imp_of_mem ?_ this;intro i j hi hj Ew;have Kl:=(List.mem_filter.1 hj).2;have Il:j<zs.length:=by simpa using(List.mem_filter.1 hj).1
  have A9:zs[j]'Il≠zs[j-1]'(by omega):=by
   unfold Lib.keeps at Kl;simp only[AJ]at Kl;rcases Kl with k|k
   ·omega
   ·rw[get j Il,get (j-1) (by omega)]at k;exact k
  rw[get i (by omega),get j Il];have h1:=le i (j-1) (by omega) (by omega) (by omega);have h2:=le (j-1) j (by omega) Il (by omega);have h3:bl (zs[j-1]'(by omega)) (zs[j]'Il)=true:=Ti h2 A9;show bl (zs[i]'(by omega)) (zs[j]'Il)=true;rcases XJ (zs[i]'(by omega)) (zs[j-1]'(by omega))with k|k|k
  ·exact EN k h3
  ·rw[k];exact h3
  ·unfold JH at h1;rw[h1]at k;cases k
 ·intro y;constructor
  ·intro hy;exact zW zs y hy
  ·intro hy;obtain⟨i,hi,rfl⟩:=List.getElem_of_mem hy
   induction i using Nat.strongRecOn with
   |_ i ih=>
    by_cases hk:Lib.keeps zs.toArray i=true
    ·exact List.mem_map.2 ⟨i,List.mem_filter.2 ⟨by simpa using hi,hk⟩,get i hi⟩
    ·unfold Lib.keeps at hk;simp only[AJ,not_or,Classical.not_not]at hk;have e:zs[i]=zs[i-1]'(by omega):=by
      have:=hk.2;rw[get i hi,get (i-1) (by omega)]at this;exact this
     rw[e];exact ih (i-1) (by omega) (by omega) (Aw _)
def C5(k:Am)(l:List Am):List Am:=Gn (λs:Am=>s) k l
theorem pJ{k:Am}:∀{A B:List Am},(∀y∈A,bl y k=true)->(∀y∈B,bl k y=true)->C5 k (A++B)=A++k::B/\C5 k (A++k::B)=A++k::B
 | [],B,_,hB=>by
  unfold C5;constructor
  ·cases B with
   |nil=>rfl
   |cons b B=>rw[List.nil_append,Gn,if_pos (hB b (by simp))];rfl
  ·rw[List.nil_append,Gn,if_neg (by rw[KT];simp),if_pos rfl]
 |a::A,B,hA,hB=>by
  obtain⟨p,q⟩:=pJ (A:=A) (B:=B) (λy hy=>hA y (by simp[hy])) hB;have h1:=hA a (by simp);unfold C5 at p q ⊢;constructor
  ·rw[List.cons_append,Gn,if_neg (by rw[Oe h1];simp),if_neg (λe=>H4 h1 e.symm),p];rfl
  ·rw[List.cons_append,Gn,if_neg (by rw[Oe h1];simp),if_neg (λe=>H4 h1 e.symm),q]
theorem Qi{k:Am}{l:List Am}(h:Ei l):Ei (C5 k l):=WJ h
theorem qJ{k:Am}{l:List Am}(h:Ei l)(y:Am):y∈C5 k l↔y=k\/y∈l:=by
 unfold C5;rw[MC h];constructor
 ·rintro(e|⟨e,_⟩)
  ·exact .inl e
  ·exact .inr e
 ·rintro(e|e)
  ·exact .inl e
  ·by_cases he:y=k
   ·exact .inl he
   ·exact .inr ⟨e,he⟩
theorem QE{l:List Am}(h:l.length<=2000000):Iw l=some l:=by unfold Iw;rw[Ba (by rw[List.length_nil];omega)]
theorem TA{l:List Am}{k:Am}(hl:l.length<=1000)(hr:Ei l):Mv l k=some (C5 k l):=by
 have fin:∀(A B:List Am),A++B=l->(∀y∈A,bl y k=true\/y=k)->(∀y∈B,bl k y=true)->SH l k (A.length:Int)=some (C5 k l):=by
  intro A B e hA hB;subst e;rw[AF]at hl;have t1:A6 (A++B) (A.length:Int) (((A++B).length:Nat):Int)=B:=by unfold A6;rw[CE,CE,List.take_of_length_le (AQ _)];simp
  have t2:A6 (A++B) 0 (A.length:Int)=A:=by unfold A6;simp
  have put:(∀y∈A,bl y k=true)-> ∀(q:Option (List Am)),q=some (C5 k (A++B))->q=some (C5 k (A++B)):=λ_ _ h=>h;have body:(∀y∈A,bl y k=true)->(req (0<=(A.length:Int)/\(A.length:Int)<=(((A++B).length:Nat):Int)/\(((A++B).length:Nat):Int)<=(((A++B).length:Nat):Int))<|
   (Iw (A6 (A++B) (A.length:Int) (((A++B).length:Nat):Int))).bind λv3=>
   req (0<=(0:Int)/\(0:Int)<=(A.length:Int)/\(A.length:Int)<=(((A++B).length:Nat):Int))<|
   (Iw (A6 (A++B) 0 (A.length:Int))).bind λv4=>
   req ((((v4).length:Int)+(([k]:List (Af)).length:Int))*16<=140737488355328/\((v4).length:Int)+(([k]:List (Af)).length:Int)<=140737488355328)<|
   req (((((v4++ [k])).length:Int)+((v3).length:Int))*16<=140737488355328/\(((v4++ [k])).length:Int)+((v3).length:Int)<=140737488355328)<|
   some ((v4++ [k])++v3))=some (C5 k (A++B)):=by
   intro hA;rw[t1,t2,Ba (by rw[AF];omega),QE (by omega),Aa,Ba (by rw[AF];omega),QE (by omega),Aa,Ba (by rw[AP];omega),Ba (by rw[AF,AP];omega),(pJ hA hB).1];simp
  unfold SH;rcases List.eq_nil_or_concat A with rfl|⟨A',z,rfl⟩
  ·rw[if_neg (by simp)];exact body (by simp)
  ·have hz:=hA z (by simp);have gL:Ei (A'++ [z]):=DU.sub hr (by rw[List.concat_eq_append];exact List.sublist_append_left _ _);have E7:∀y∈A',bl y z=true:=λy hy=>(List.pairwise_append.1 gL).2.2 y hy z (by simp);have hlen:(A'.concat z).length=A'.length+1:=by simp
   have w1:IntKind.i64.wrap ((((A'.concat z).length:Nat):Int)-1)=((A'.length:Nat):Int):=by rw[hlen,CO (by omega) (by omega)];omega
   have g1:getI (A'.concat z++B) ((A'.length:Nat):Int)=some z:=by unfold getI;rw[if_pos (by omega),CE,List.concat_eq_append,List.append_assoc,List.getElem?_append_right (by omega)];simp
   rw[if_pos (by rw[AJ,hlen];omega),w1,g1,Aa];by_cases he:z=k
   ·subst he;rw[if_pos (by simp)];have:=(pJ (A:=A') (B:=B) E7 hB).2;rw[List.concat_eq_append,List.append_assoc,List.singleton_append,this]
   ·rw[if_neg (by simpa using he)];have Vk:bl z k=true:=by
     rcases hz with h|h
     ·exact h
     ·exact absurd h he
    refine body λy hy=> ?_;rw[List.concat_eq_append]at hy;rcases Ac.1 hy with hy|hy
    ·exact EN (E7 y hy) Vk
    ·rw[List.mem_singleton.1 hy];exact Vk
 unfold Mv;have key:∀(n:Nat) (A B:List Am),A.length=n->A++B=l->(∀y∈B,bl k y=true)->Az (λs:Int=>KQ l k s) (n:Int)=some (C5 k l):=by
  intro n
  induction n with
  |zero=>
   intro A B hA e hB;have:A=[]:=List.length_eq_zero_iff.1 hA;subst this;have hb:KQ l k ((0:Nat):Int)=some (.inr (SH l k ((([]:List Am).length:Nat):Int))):=by unfold KQ;rw[if_neg (by simp)];rfl
   exact(Tb (body:=λs:Int=>KQ l k s) hb).trans (fin [] B e (by simp) hB)
  |succ n ih=>
   intro A B hA e hB;rcases List.eq_nil_or_concat A with rfl|⟨A',z,rfl⟩
   ·simp at hA
   ·rw[List.concat_eq_append]at hA e;have hn:A'.length=n:=by simpa using hA
    have w1:IntKind.i64.wrap (((n+1:Nat):Int)-1)=(n:Int):=by
     have:n+1<=1000:=by rw[<-e]at hl;simp at hl;omega
     rw[CO (by omega) (by omega)];omega
    have g1:getI l (n:Int)=some z:=by subst e;unfold getI;rw[if_pos (by omega),CE,List.append_assoc,List.getElem?_append_right (by omega),hn];simp
    have gL:Ei (A'++ [z]):=DU.sub hr (by rw[<-e];exact List.sublist_append_left _ _);have E7:∀y∈A',bl y z=true:=λy hy=>(List.pairwise_append.1 gL).2.2 y hy z (by simp);by_cases hz:(bl z k||z==k)=true
    ·have eb:KQ l k ((n+1:Nat):Int)=some (.inr (SH l k ((n+1:Nat):Int))):=by
      unfold KQ;rw[if_pos (by rw[AJ];omega),w1,g1,Aa,if_neg (by rw[show(Op.bytesLess z k||z==k)=true from hz];simp)]
     rw[Tb (body:=λs:Int=>KQ l k s) eb];have tI:bl z k=true\/z=k:=by simpa using hz
     have:=fin (A'++ [z]) B e (λy hy=>by
      rcases Ac.1 hy with hy|hy
      ·rcases tI with h|h
       ·exact .inl (EN (E7 y hy) h)
       ·exact .inl (by rw[<-h];exact E7 y hy)
      ·rw[List.mem_singleton.1 hy];exact tI) hB
     rw[AF,AP,hn]at this;exact this
    ·rw[Bool.not_eq_true]at hz;have eb:KQ l k ((n+1:Nat):Int)=some (.inl (n:Int)):=by
      unfold KQ;rw[if_pos (by rw[AJ];omega),w1,g1,Aa,if_pos (by rw[show(Op.bytesLess z k||z==k)=false from hz];simp)]
     rw[oL (body:=λs:Int=>KQ l k s) eb];have FZ:bl z k=false/\z≠k:=by simpa using hz
     refine ih A' (z::B) hn (by rw[<-e];simp) λy hy=> ?_;rcases Ae.1 hy with rfl|hy
     ·exact Ti FZ.1 FZ.2
     ·exact hB y hy
 exact key l.length l [] rfl (by simp) (by simp)
theorem MA:∀(ks o:List Am),Ei o->Ei (ks.foldl (λo k=>C5 k o) o)/\((∀y,y∈ks.foldl (λo k=>C5 k o) o↔y∈ks\/y∈o)/\(ks.foldl (λo k=>C5 k o) o).length<=ks.length+o.length)
 | [],o,h=>⟨h,by simp,by simp⟩
 |k::ks,o,h=>by
  obtain⟨a,b,c⟩:=MA ks (C5 k o) (Qi h);refine⟨a,λy=> ?_,?_⟩
  ·rw[List.foldl_cons,b,qJ h];simp only[Ae];constructor
   ·rintro(x|x|x)
    ·exact .inl (.inr x)
    ·exact .inl (.inl x)
    ·exact .inr x
   ·rintro((x|x)|x)
    ·exact .inr (.inl x)
    ·exact .inl x
    ·exact .inr (.inr x)
  ·have:=cL (key:=λs:Am=>s) (x:=k) o;unfold C5 at c;rw[List.foldl_cons,Bk];unfold C5;omega
theorem iU:∀a b:Am,bl a b=true↔a<b
 | [],[]=>by simp[bl,Op.bytesLess]
 | [],_::_=>by simp[bl,Op.bytesLess]
 |_::_,[]=>by simp[bl,Op.bytesLess]
 |x::a,y::b=>by rw[cO,List.cons_lt_cons_iff,iU a b,UInt8.lt_iff_toNat_lt]
theorem zGo(a b:Am):a<=b↔JH a b:=by
 unfold JH;constructor
 ·intro h;cases hb:bl b a with
  |false=>rfl
  |true=>exact absurd ((iU b a).1 hb) (List.not_lt.2 h)
 ·intro h;rw[<-List.not_lt];intro hl;rw[(iU b a).2 hl]at h;cases h
theorem zvr(xs:List Am):(GY xs).Pairwise JH:=by
 have h:=List.pairwise_mergeSort (le:=λx y:Am=>decide (x<=y)) (λa b c h1 h2=>by
   simp only[AJ]at h1 h2 ⊢;exact List.le_trans h1 h2)
  (λa b=>by simp only[Bool.or_eq_true,AJ];exact List.le_total a b) xs
 refine List.Pairwise.imp (λ{a b} h=> ?_) h;exact(zGo a b).1 (of_decide_eq_true h)
theorem zI{xs zs:List Am}(hz:Ei zs)(h:∀y,y∈zs↔y∈xs):Lib.compact (GY xs)=zs:=by obtain⟨h1,h2⟩:=zwn (zvr xs);refine DU.ext h1 hz λy=> ?_;rw[h2,h,(ztu xs).mem_iff]
theorem nC{α β:Type}(q:α->Bool)(f:α->List β):∀(xs:List α) (acc:List β),xs.foldlM (m:=Option) (λacc x=>if q x=true then none else some (acc++f x)) acc=if xs.any q=true then none else some (acc++xs.flatMap f)
 | [],acc=>by simp
 |x::xs,acc=>by
  rw[List.foldlM_cons,List.any_cons];by_cases hq:q x=true
  ·rw[if_pos hq,hq];rfl
  ·rw[if_neg hq];show xs.foldlM _ (acc++f x)=_;rw[nC q f xs (acc++f x)];simp[hq,List.append_assoc]
theorem zL{α σ:Type}(q:α->Bool)(f:σ->α->σ):∀(xs:List α) (acc:σ),xs.foldlM (m:=Option) (λacc x=>if q x=true then none else some (f acc x)) acc=if xs.any q=true then none else some (xs.foldl f acc)
 | [],acc=>by simp
 |x::xs,acc=>by
  rw[List.foldlM_cons,List.any_cons];by_cases hq:q x=true
  ·rw[if_pos hq,hq];rfl
  ·rw[if_neg hq];show xs.foldlM _ (f acc x)=_;rw[zL q f xs (f acc x)];simp[hq]
def Gi(l:List An)(w:Ar):Bool:=match Et l w.ao with|some c=>decide (16<=c.bc.length)|none=>false
def Ic(h:AL):Prop:=h.ar.length<=8/\(h.af.length<=8/\H6 h.af)
def EB(w:Ar):Am:=w.ao
def Dy(hs:List AL):List Ar:=hs.flatMap (·.af)
def FF(l:List An)(ws:List Ar):List Am:=l.map ck++ws.map EB
def GX(l:List An)(ws:List Ar):Bool:= !(ws.any (Gi l))&&decide (((FF l ws).foldl (λo k=>C5 k o) []).length<=24)
theorem oZ:∀{hs:List AL},(∀h∈hs,Ic h)->(Dy hs).length<=8*hs.length
 | [],_=>by simp[Dy]
 |h::hs,ho=>by have h1:=(ho h (by simp)).2.1;have h2:=oZ (hs:=hs) λx hx=>ho x (by simp[hx]);unfold Dy at h2 ⊢;rw[List.flatMap_cons,AF,Bk];omega
theorem qT{s:Ai}{hs:List AL}(h:DL 24 s.aq)(hl:hs.length<=60)(ho:∀h∈hs,Ic h):VT s hs=some (decide (hs.length<=12)&&GX s.aq (Dy hs)):=by
 obtain⟨hr,AB,hc⟩:=h;unfold VT;have l1:=(D5 (xs:=s.aq) (body:=λz:Int × List Am=>Rw s hs z.1 z.2) (λi z=>(i,z)) (λo c=>o++ [ck c]) (λo=>kH s hs o) (λi o=>o.length=i)
  (λi hi o hol=>by refine⟨?_,by simp[hol]⟩;show Rw s hs (i:Int) o=_;unfold Rw;rw[if_pos (by simpa using hi),AH hi,Aa,Ba (by simp only[AP];omega),Bb (by omega)])
  (λo hol=>by show Rw s hs (s.aq.length:Int) o=_;unfold Rw;rw[if_neg (by simp)]) (s:=[]) rfl).1
 refine l1.trans ?_;have e1:=foldl_map ck s.aq [];rw[e1,List.nil_append];unfold kH;have inner:∀(i:Nat) (y:AL) (acc:List Am),Ic y->acc.length<=1000->i<=100->NX s hs (i:Int) acc=NX s hs (i:Int) acc->Az (λz:Int × List Am=>PQ s (i:Int) y z.1 z.2) (0,acc)=some (if y.af.any (Gi s.aq)=true then .inr (some false)else .inl (((i+1:Nat):Int),acc++y.af.map EB)):=by
  intro i y acc hy ha hi _;have hy8:=hy.2.1;have key:=Ts (xs:=y.af) (body:=λz:Int × List Am=>PQ s (i:Int) y z.1 z.2) (λj z=>((j:Int),z)) (λacc w=>if Gi s.aq w=true then none else some (acc++ [EB w])) (some (.inr (some false))) (λz=>YQ (i:Int) z) (λj z=>z.length<=1000+j)
   (λj z hj hz=>by
    refine⟨?_,λa ha=> ?_⟩
    ·show PQ s (i:Int) y (j:Int) z=_;unfold PQ;rw[if_pos (by simpa using hj),AH hj,Aa,pQ (by omega) hr,Aa,Bb (by omega)];unfold Gi;rcases WA hr y.af[j].ao with⟨hp,hk,hf⟩|⟨_,hf,_⟩
     ·rw[hf];simp only[Option.isSome_some,if_true];rw[AH hp,Aa];by_cases T9:16<=(s.aq[BD s.aq y.af[j].ao]).bc.length
      ·rw[if_pos (by simp;omega),if_pos (by simpa using T9)]
      ·rw[if_neg (by simp;omega),if_neg (by simpa using T9),Ba (by simp only[AP];omega)];rfl
     ·rw[hf];simp only[Option.isSome_none,Bj,if_false];rw[Ba (by simp only[AP];omega)];rfl
    ·split at ha
     ·cases ha
     ·cases ha;simp;omega)
   (λz _=>by show PQ s (i:Int) y (y.af.length:Int) z=_;unfold PQ;rw[if_neg (by simp)]) acc (by omega)
  refine key.trans ?_;rw[nC];by_cases hq:y.af.any (Gi s.aq)=true
  ·rw[if_pos hq,if_pos hq]
  ·rw[if_neg hq,if_neg hq];show YQ (i:Int) _=_;unfold YQ;rw[Bb (by omega)];have e:∀l:List Ar,(l.flatMap λw=> [EB w])=l.map EB:=λl=>by induction l with|nil=>rfl|cons x l ih=>rw[List.flatMap_cons,ih];rfl
   rw[e]
 have key:=Ts (xs:=hs) (body:=λz:Int × List Am=>NX s hs z.1 z.2) (λj z=>((j:Int),z)) (λacc y=>if y.af.any (Gi s.aq)=true then none else some (acc++y.af.map EB)) (some false) (λz=>YR hs z) (λj z=>z.length<=24+8*j)
  (λj z hj hz=>by
   have hy:=ho _ (Aw hj);refine⟨?_,λa ha=> ?_⟩
   ·show NX s hs (j:Int) z=_;have:=inner j hs[j] z hy (by omega) (by omega) rfl;unfold NX;rw[if_pos (by simpa using hj),AH hj,Aa];refine this.trans ?_;split<;>rfl
   ·split at ha
    ·cases ha
    ·cases ha;have:=hy.2.1;rw[AF,List.length_map];omega)
  (λz _=>by show NX s hs (hs.length:Int) z=_;unfold NX;rw[if_neg (by simp)]) (s.aq.map ck) (by simp;omega)
 refine key.trans ?_;rw[nC (λy:AL=>y.af.any (Gi s.aq)) (λy=>y.af.map EB)];have ea:(hs.any λy=>y.af.any (Gi s.aq))=(Dy hs).any (Gi s.aq):=by unfold Dy;rw[List.any_flatMap]
 have eb:(hs.flatMap λy=>y.af.map EB)=(Dy hs).map EB:=by unfold Dy;rw[List.map_flatMap]
 rw[ea,eb];unfold GX;by_cases hq:(Dy hs).any (Gi s.aq)=true
 ·rw[if_pos hq,hq];simp
 ·rw[if_neg hq];have Ld:=oZ ho;show YR hs _=_;unfold YR Rk Rl;rw[Ba (by rw[AF,List.length_map,List.length_map];omega),Aa];obtain⟨g1,g2,_⟩:=MA (FF s.aq (Dy hs)) [] List.Pairwise.nil;have e:=zI (xs:=s.aq.map ck++(Dy hs).map EB) g1 λy=>by rw[g2];simp[FF]
  by_cases FZ:hs.length<=12
  ·rw[if_pos (by simp;omega),Aa];show some (decide (((Lib.compact (GY (s.aq.map ck++(Dy hs).map EB))).length:Int)<=24))=_;rw[e];simp[hq,FZ];omega
  ·rw[if_neg (by simp;omega)];simp[FZ]
theorem Tw(k:Am)(l:List Am):(C5 k l).length<=l.length+1:=cL l
theorem qX{s:Ai}{ws:List Ar}(h:DL 24 s.aq)(hl:s.ae.length<=12)(ho:∀h∈s.ae,Ic h)(hw:ws.length<=8):Wj s ws=some (GX s.aq (ws++Dy s.ae)):=by
 obtain⟨hr,AB,hc⟩:=h;unfold Wj;have l1:=D5 (xs:=s.aq) (body:=λz:List Am × Int=>Sh s ws z.1 z.2) (λi z=>(z,i)) (λo c=>C5 (ck c) o) (λo=>lQ s ws o) (λi o=>Ei o/\o.length<=i)
  (λi hi o hol=>by have hn:=Tw (ck s.aq[i]) o;refine⟨?_,Qi hol.1,by omega⟩;show Sh s ws o (i:Int)=_;unfold Sh;rw[if_pos (by simpa using hi),AH hi,Aa,TA (by omega) hol.1,Aa,Bb (by omega)])
  (λo hol=>by show Sh s ws o (s.aq.length:Int)=_;unfold Sh;rw[if_neg (by simp)]) (s:=[]) ⟨List.Pairwise.nil,by simp⟩
 refine l1.1.trans ?_;obtain⟨r1,r2⟩:=l1.2;unfold lQ;rw[Ba (by simp only[List.length_nil];omega)];have l2:=(D5 (xs:=s.ae) (body:=λz:Int × List Ar=>Sl s (s.aq.foldl (λo c=>C5 (ck c) o) []) z.1 z.2) (λi z=>(i,z)) (λo y=>o++y.af) (λo=>lR s (s.aq.foldl (λo c=>C5 (ck c) o) []) o) (λi o=>o.length<=8+8*i)
  (λi hi o hol=>by have hy:=(ho _ (Aw hi)).2.1;refine⟨?_,by rw[AF];omega⟩;show Sl s _ (i:Int) o=_;unfold Sl;rw[if_pos (by simpa using hi),AH hi,Aa,Ba (by omega),Bb (by omega)])
  (λo hol=>by show Sl s _ (s.ae.length:Int) o=_;unfold Sl;rw[if_neg (by simp)]) (s:=ws) (by omega)).1
 refine l2.trans ?_;have eh:∀(hs:List AL) (o:List Ar),hs.foldl (λo y=>o++y.af) o=o++Dy hs:=by
  intro hs
  induction hs with
  |nil=>intro o;simp[Dy]
  |cons x hs ih=>intro o;rw[List.foldl_cons,ih];simp[Dy]
 rw[eh];have hhl:=oZ ho;unfold lR;have key:=Ts (xs:=ws++Dy s.ae) (body:=λz:List Am × Int=>Sv s (ws++Dy s.ae) z.1 z.2) (λi z=>(z,(i:Int))) (λacc w=>if Gi s.aq w=true then none else some (C5 (EB w) acc)) (some false) (λz=>Zt z) (λi z=>Ei z/\z.length<=24+i)
  (λi z hi hz=>by
   have I1:=hi;rw[AF]at I1;refine⟨?_,λa ha=> ?_⟩
   ·show Sv s (ws++Dy s.ae) z (i:Int)=_;unfold Sv;rw[if_pos (by simp only[AJ];omega),AH hi,Aa,TA (by omega) hz.1,Aa,Bb (by omega)];unfold Gi;obtain⟨j,e,⟨h1,h2⟩|⟨h1,c,h2,h3⟩⟩:=vD (l:=s.aq) (k:=(ws++Dy s.ae)[i].ao) (by omega) hr
    ·rw[e,Aa,if_neg (by simpa using h1),h2];rfl
    ·rw[e,Aa,if_pos (by simpa using h1),h2,Aa,h3];by_cases T9:16<=c.bc.length
     ·rw[if_pos (by simp;omega),if_pos (by simpa using T9)]
     ·rw[if_neg (by simp;omega),if_neg (by simpa using T9)];rfl
   ·split at ha
    ·cases ha
    ·cases ha;have hn:=Tw (EB (ws++Dy s.ae)[i]) z;exact⟨Qi hz.1,by omega⟩)
  (λz _=>by show Sv s (ws++Dy s.ae) z ((ws++Dy s.ae).length:Int)=_;unfold Sv;rw[if_neg (by simp)]) (s.aq.foldl (λo c=>C5 (ck c) o) []) ⟨r1,by omega⟩
 refine key.trans ?_;rw[zL (Gi s.aq) (λacc w=>C5 (EB w) acc)];unfold GX;by_cases hq:(ws++Dy s.ae).any (Gi s.aq)=true
 ·rw[if_pos hq,hq];simp
 ·rw[if_neg hq];show Zt _=_;unfold Zt FF;have e:(s.aq.map ck++(ws++Dy s.ae).map EB).foldl (λo k=>C5 k o) []=(ws++Dy s.ae).foldl (λacc w=>C5 (EB w) acc) (s.aq.foldl (λo c=>C5 (ck c) o) []):=by
   rw[List.foldl_append,List.foldl_map (f:=ck),List.foldl_map (f:=EB)]
  rw[e,Bool.eq_false_iff.2 hq];simp only[Bool.not_false,Bool.true_and,Ad,decide_eq_decide];omega
theorem zzv(l:List An)(a b:List Ar):GX l (a++b)=GX l (b++a):=by
 unfold GX;have e:(FF l (a++b)).foldl (λo k=>C5 k o) []=(FF l (b++a)).foldl (λo k=>C5 k o) []:=by obtain⟨g1,g2,_⟩:=MA (FF l (a++b)) [] List.Pairwise.nil;obtain⟨g3,g4,_⟩:=MA (FF l (b++a)) [] List.Pairwise.nil;refine DU.ext g1 g3 λy=> ?_;rw[g2,g4];simp[FF,or_comm]
 rw[e,List.any_append,List.any_append,Bool.or_comm]
theorem ztz(ws:List Ar)(k:Am):IK ws k=(ws.find? λw=>w.ao==k).isSome:=by unfold IK;rw[Tt]
theorem S6{ws os:List Ar}{rs:List Am}(hw:ws.length<=2000000)(hr:rs.length<=2000000)(ho:os.length<=2000000)(hR:H6 os):We ws rs os=some (Ce ws rs os):=by
 unfold We;rw[JS (xs:=ws) (λw=>IK os w.ao||rs.contains w.ao) (λw _=> ?_) (by omega),Aa]
 ·rfl
 ·unfold lO;obtain⟨i,⟨e,x,_,h⟩|⟨e,h⟩⟩:=zFi (k:=w.ao) ho hR
  ·rw[e,Aa,ztz,h];rfl
  ·rw[e,Aa,ztz,h,zFQ hr];simp
theorem zDk{h:AL}{rs:List Am}{ws:List Ar}(hh:Ic h)(hr:rs.length<=8)(hw:ws.length<=8)(hR:H6 ws):Y4 h ⟨0,0,0,rs,ws⟩=some (C8 h rs ws):=by
 obtain⟨h1,h2,h3⟩:=hh;unfold Y4 S1;rw[S6 (by show ws.length<=_;omega) (by omega) (by omega) h3,Aa];unfold C8;show(if Ce ws h.ar h.af=true then some true else _).bind _=_;cases Ce ws h.ar h.af with
 |true=>simp
 |false=>rw[if_neg (by simp)];rw[S6 (by omega) (by show rs.length<=_;omega) (by show ws.length<=_;omega) hR,Aa,Aa];simp
theorem cE{h:AL}{rs:List Am}{ws:List Ar}(hh:Ic h)(hr:rs.length<=8)(hw:ws.length<=8):SC h rs ws=some (!C8 h rs ws):=by
 obtain⟨h1,h2,h3⟩:=hh;unfold SC;have k1:Zb h ws=some (!Ce ws h.ar h.af):=by
  unfold Zb;refine(Qe (xs:=ws) (λw=>IK h.af w.ao||h.ar.contains w.ao) (λ_=>some false) (some true) (λi hi=>by
   unfold kU;rw[if_pos (by simpa using hi),AH hi,Aa,uL (by omega),Aa,Bb (by omega)];cases IK h.af ws[i].ao with
   |true=>rfl
   |false=>
    rw[if_neg (by simp),zFS (by omega),Aa,Bool.false_or];have e:h.ar.any (· ==ws[i].ao)=h.ar.contains ws[i].ao:=by rw[Bool.eq_iff_iff,List.any_eq_true,List.contains_iff_mem];exact⟨λ⟨x,hx,he⟩=>(show x=ws[i].ao by simpa using he)▸hx,λhm=>⟨_,hm,by simp⟩⟩
    rw[e];cases h.ar.contains ws[i].ao<;>rfl) (by
   unfold kU;rw[if_neg (by simp)])).trans ?_
  unfold Ce;rw[<-Tt];cases ws.find? (λw=>IK h.af w.ao||h.ar.contains w.ao)<;>rfl
 refine(Qe (xs:=rs) (λr=>IK h.af r) (λ_=>some false) (Zb h ws) (λi hi=>by
  unfold kY;rw[if_pos (by simpa using hi),AH hi,Aa,uL (by omega),Aa,Bb (by omega)];cases IK h.af rs[i]<;>rfl) (by
  unfold kY;rw[if_neg (by simp)])).trans ?_
 have e:C8 h rs ws=(rs.any (IK h.af)||Ce ws h.ar h.af):=by
  unfold C8;rw[Bool.eq_iff_iff,Bool.or_eq_true,Bool.or_eq_true];constructor
  ·rintro(hc|hc)
   ·obtain⟨w,Q4,Vc⟩:=List.any_eq_true.1 hc;rcases Bool.or_eq_true _ _▸Vc with hq|hq
    ·obtain⟨v,FR,Ds⟩:=List.any_eq_true.1 hq;have Ds:v.ao=w.ao:=by simpa using Ds
     exact .inr (List.any_eq_true.2 ⟨v,FR,by rw[Bool.or_eq_true];left;exact List.any_eq_true.2 ⟨w,Q4,by simp[Ds]⟩⟩)
    ·exact .inl (List.any_eq_true.2 ⟨w.ao,List.contains_iff_mem.1 hq,List.any_eq_true.2 ⟨w,Q4,by simp⟩⟩)
   ·exact .inr hc
  ·rintro(hc|hc)
   ·obtain⟨r,F6,D3⟩:=List.any_eq_true.1 hc;obtain⟨w,Q4,Vc⟩:=List.any_eq_true.1 D3;have Vc:w.ao=r:=by simpa using Vc
    exact .inl (List.any_eq_true.2 ⟨w,Q4,by rw[Bool.or_eq_true];right;exact List.contains_iff_mem.2 (Vc▸F6)⟩)
   ·exact .inr hc
 rw[k1,e,<-Tt];cases rs.find? (IK h.af)<;>rfl
def LP(s:Ai)(rs:List Am)(ws:List Ar):Bool:= !(s.ae.any λh=>C8 h rs ws)&&(decide (s.ae.length<12)&&GX s.aq (ws++Dy s.ae))
theorem zEW{s:Ai}{rs:List Am}{ws:List Ar}(h:DL 24 s.aq)(hl:s.ae.length<=12)(ho:∀h∈s.ae,Ic h)(hr:rs.length<=8)(hw:ws.length<=8)(hR:H6 ws):Zj s rs ws=some (LP s rs ws):=by
 unfold Zj LP;rw[JS (xs:=s.ae) (λh=>C8 h rs ws) (λy hy=>zDk (ho y hy) hr hw hR) (by omega),Aa];cases hq:s.ae.any (λh=>C8 h rs ws)with
 |true=>rw[if_pos rfl];rfl
 |false=>
  rw[if_neg (by simp)];have AB:jX s.ae=some s.ae:=JQ (by omega) (by omega);rw[AB,Aa,Ba (by simp only[AP];omega),qT h (by simp;omega) (λy hy=>by
   rcases Ac.1 hy with hy|hy
   ·exact ho y hy
   ·have:y=⟨0,0,0,rs,ws⟩:=by simpa using hy
    subst this;exact⟨hr,hw,hR⟩),Aa]
  have e:Dy (s.ae++ [(⟨0,0,0,rs,ws⟩:AL)])=Dy s.ae++ws:=by unfold Dy;simp
  rw[e,zzv];simp only[Bool.not_false,Bool.true_and,AF,AP];congr 2
theorem zER{s:Ai}{rs:List Am}{ws:List Ar}(h:DL 24 s.aq)(hl:s.ae.length<=12)(ho:∀h∈s.ae,Ic h)(hr:rs.length<=8)(hw:ws.length<=8):ZZ s rs ws=some (LP s rs ws):=by
 unfold ZZ;refine(Qe (xs:=s.ae) (λh=>C8 h rs ws) (λ_=>some false) (Zy s ws) (λi hi=>by
  unfold lV;rw[if_pos (by simpa using hi),AH hi,Aa,cE (ho _ (Aw hi)) hr hw,Aa,Bb (by omega),Bool.not_not];cases C8 s.ae[i] rs ws<;>rfl) (by
  unfold lV;rw[if_neg (by simp)])).trans ?_
 unfold LP;rw[<-Tt];cases s.ae.find? (λh=>C8 h rs ws)with
 |some y=>rfl
 |none=>
  show Zy s ws=_;unfold Zy;rw[qX h hl ho hw];by_cases FZ:s.ae.length<12
  ·rw[if_pos (by simp;omega)];simp[FZ]
  ·rw[if_neg (by simp;omega)];simp[FZ]
end
end Go.Proofs.YtalagilebkaegaaGreat

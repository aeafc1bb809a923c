/- Parts of a proof, joined: QF1, QF2, QF3, QF4, QF5, QF6, QF7, QR, NA, NE, N5, N6, N7, N8, N9, N10, N11, N12, N13, PK, NK, NP, NF. -/
import Derived.Test.YtlmjpjceiefpoaaGreatK9
set_option linter.unusedVariables false
set_option linter.unusedSimpArgs false
namespace Go.Proofs.YtlmjpjceiefpoaaGreat
open Go.RowKit
noncomputable section
set_option maxRecDepth 100000
set_option maxHeartbeats 4000000
def zvG:FS:=C5 168 [.v (.st 4), .v (.i .i64)] (.tu (.cons (.v .s) (.cons (.v .b) .nil))) (λx=>eT x.1 x.2.1) λx r _ h=>zvX x.1 x.2.1 r h
def zmp:FS:=C5 273 [.v .s, .v .s] (.v (.i .i64)) (λx=>cA x.1 x.2.1) λx r _ h=>zmx x.1 x.2.1 r h
def zkh:FS:=C5 327 [.v .s, .v (.i .u8)] (.v (.i .i64)) (λx=>bU x.1 x.2.1) λx r _ h=>zke x.1 x.2.1 r h
def zp2:FS:=C5 384 [.v (.l (.st 4))] (.v (.l (.st 4))) (λx=>Tc x.1) λx r _ h=>zvs x.1 r h
def zjS:FS:=C5 424 [.v (.l .s)] (.v (.l .s)) (λx=>bQ x.1) λx r _ h=>zj0 x.1 r h
def zf4:FS:=C5 36 [.v (.l .s)] (.tu (.cons (.tu .nil) (.cons (.v (.l .s)) .nil))) (λx=>R6 x.1) λx r _ h=>zlN x.1 r h
def zy4:FS:=C5 323 [.v (.l .s), .v .s] (.v .s) (λx=>gL x.1 x.2.1) λx r _ h=>zzr x.1 x.2.1 r h
def zg3:FS:=C5 170 [.v (.l (.st 0)), .v (.i .i64), .v (.l (.st 0))] (.v (.l (.st 0))) (λx=>Gz x.1 x.2.1 x.2.2.1) λx r hp h=>zKw (t:=66) (it:=3) (el:=138) (K:=3) (by kernel_rfl) (λ_=>by kernel_rfl) zKy h
def zhs:FS:=C5 363 [.v (.l (.st 1)), .v (.i .i64), .v (.l (.st 1))] (.v (.l (.st 1))) (λx=>Gz x.1 x.2.1 x.2.2.1) λx r hp h=>zLk (t:=132) (it:=3) (el:=262) (K:=5) (by kernel_rfl) (λ_=>by kernel_rfl) zMl h
def zhL:FS:=C5 391 [.v (.l (.st 1)), .v (.i .i64), .v (.i .i64)] (.v (.l (.st 1))) (λx=>YN x.1 x.2.1 x.2.2.1) λx r hp h=>zL2 (t:=132) (it:=3) (el:=262) (K:=5) (by kernel_rfl) (λ_=>by kernel_rfl) zMq h
def zhn:FS:=C5 392 [.v (.l (.st 2)), .v (.i .i64), .v (.l (.st 2))] (.v (.l (.st 2))) (λx=>Gz x.1 x.2.1 x.2.2.1) λx r hp h=>zKw (t:=133) (it:=3) (el:=406) (K:=3) (by kernel_rfl) (λ_=>by kernel_rfl) zLb h
def zhA:FS:=C5 418 [.v (.l (.st 4)), .v (.i .i64), .v (.l (.st 4))] (.v (.l (.st 4))) (λx=>Gz x.1 x.2.1 x.2.2.1) λx r hp h=>zK2 (t:=131) (it:=3) (el:=220) (K:=2) (l:=[.flat, .row 222 3 (AN.of [.flat, .flat, .flat])]) (by kernel_rfl) (λ_=>by kernel_rfl) zKL h
def XV:FS:=Ad 49 [.v (.l .s), .v (.i .i64)] (.v (.i .i64)) (λx=>ON x.1 x.2.1) [] [.sp [.i .i64, .i .i64]]
def zCq:FS:=Ad 202 [.v (.st 5), .v (.i .i64)] (.v (.i .i64)) (λx=>jX x.1 x.2.1) [] []
def zAs:FS:=Ad 107 [.v (.l (.st 5)), .v (.i .i64)] (.v (.i .i64)) (λx=>zpf x.1 x.2.1) [zCq] [.sp [.i .i64, .i .i64]]
def zzh:FS:=Ad 46 [.v (.st 6), .v (.i .i64)] (.v (.i .i64)) (λx=>gG x.1 x.2.1) [XV,zAs] []
def zye:FS:=Ad 13 [.v (.l (.st 6)), .v (.i .i64)] (.v (.i .i64)) (λx=>yU x.1 x.2.1) [zzh] [.sp [.i .i64, .i .i64]]
def zpR:FS:=Ad 14 [.v (.l (.i .i64)), .v (.i .i64)] (.v (.i .i64)) (λx=>TX x.1 x.2.1) [] []
def zvh:FS:=Ad 109 [.v (.st 7), .v (.i .i64)] (.v (.i .i64)) (λx=>T5 x.1 x.2.1) [XV] []
def zxq:FS:=Ad 108 [.v (.st 8), .v (.i .i64)] (.v (.i .i64)) (λx=>fI x.1 x.2.1) [zvh] []
def zvv:FS:=Ad 47 [.v (.st 9), .v (.i .i64)] (.v (.i .i64)) (λx=>eG x.1 x.2.1) [zxq,zvh] []
def zuI:FS:=Ad 15 [.v (.l (.st 9)), .v (.i .i64)] (.v (.i .i64)) (λx=>xG x.1 x.2.1) [zvv] [.sp [.i .i64, .i .i64]]
def zwG:FS:=Ad 48 [.v (.l (.st 10)), .v (.i .i64)] (.v (.i .i64)) (λx=>fE x.1 x.2.1) [] []
def zzo:FS:=Ad 438 [.v (.st 0), .v (.i .i64)] (.v (.i .i64)) (λx=>hP x.1 x.2.1) [] []
def zyk:FS:=Ad 427 [.v (.l (.st 0)), .v (.i .i64)] (.v (.i .i64)) (λx=>zQ x.1 x.2.1) [zzo] [.sp [.i .i64, .i .i64]]
def zDP:FS:=Ad 404 [.v (.st 11), .v (.i .i64)] (.v (.i .i64)) (λx=>jN x.1 x.2.1) [XV,zyk] []
def zyF:FS:=Ad 369 [.v (.st 12), .v (.i .i64)] (.v (.i .i64)) (λx=>gF x.1 x.2.1) [zDP] []
def zxE:FS:=Ad 336 [.v (.l (.st 12)), .v (.i .i64)] (.v (.i .i64)) (λx=>zI x.1 x.2.1) [zyF] [.sp [.i .i64, .i .i64]]
def zvu:FS:=Ad 288 [.v (.st 13), .v (.i .i64)] (.v (.i .i64)) (λx=>eX x.1 x.2.1) [zxE] []
def zu0:FS:=Ad 203 [.v (.l (.st 13)), .v (.i .i64)] (.v (.i .i64)) (λx=>xR x.1 x.2.1) [zvu] [.sp [.i .i64, .i .i64]]
def zyX:FS:=Ad 110 [.v (.st 14), .v (.i .i64)] (.v (.i .i64)) (λx=>iA x.1 x.2.1) [zu0] []
def zwu:FS:=Ad 50 [.v (.l (.st 14)), .v (.i .i64)] (.v (.i .i64)) (λx=>zR x.1 x.2.1) [zyX] [.sp [.i .i64, .i .i64]]
def zCc:FS:=Ad 204 [.v (.st 15), .v (.i .i64)] (.v (.i .i64)) (λx=>iX x.1 x.2.1) [] []
def zzm:FS:=Ad 111 [.v (.l (.st 15)), .v (.i .i64)] (.v (.i .i64)) (λx=>zom x.1 x.2.1) [zCc] [.sp [.i .i64, .i .i64]]
def zwD:FS:=Ad 51 [.v (.l (.l (.st 15))), .v (.i .i64)] (.v (.i .i64)) (λx=>zG x.1 x.2.1) [zzm] [.sp [.i .i64, .i .i64]]
def zEg:FS:=Ad 289 [.v (.st 16), .v (.i .i64)] (.v (.i .i64)) (λx=>kK x.1 x.2.1) [] []
def zCm:FS:=Ad 205 [.v (.l (.st 16)), .v (.i .i64)] (.v (.i .i64)) (λx=>zqE x.1 x.2.1) [zEg] [.sp [.i .i64, .i .i64]]
def zDN:FS:=Ad 290 [.v (.st 17), .v (.i .i64)] (.v (.i .i64)) (λx=>jU x.1 x.2.1) [] []
def ztB:FS:=Ad 206 [.v (.l (.st 17)), .v (.i .i64)] (.v (.i .i64)) (λx=>jD x.1 x.2.1) [zDN] [.sp [.i .i64, .i .i64]]
def zun:FS:=Ad 112 [.v (.st 18), .v (.i .i64)] (.v (.i .i64)) (λx=>dY x.1 x.2.1) [zCm,ztB,zpR] []
def ztU:FS:=Ad 52 [.v (.l (.st 18)), .v (.i .i64)] (.v (.i .i64)) (λx=>wP x.1 x.2.1) [zun] [.sp [.i .i64, .i .i64]]
def zti:FS:=Ad 113 [.v (.st 19), .v (.i .i64)] (.v (.i .i64)) (λx=>dE x.1 x.2.1) [XV,ztB] []
def zr9:FS:=Ad 53 [.v (.l (.st 19)), .v (.i .i64)] (.v (.i .i64)) (λx=>wF x.1 x.2.1) [zti] [.sp [.i .i64, .i .i64]]
def zzu:FS:=Ad 16 [.v (.st 20), .v (.i .i64)] (.v (.i .i64)) (λx=>gU x.1 x.2.1) [zwG,XV,zwu,zwD,zpR,ztU,zr9] []
def zBn:FS:=Ad 4 [.v (.st 21), .v (.i .i64)] (.v (.i .i64)) (λx=>iR x.1 x.2.1) [zye,zpR,zuI,zzu] []
def XL:FS:=Ad 71 [.v (.l .s)] (.v (.l .s)) (λx=>OP x.1) [] [.sp [.i .i64, .l .s]]
def zDF:FS:=Ad 226 [.v (.st 5)] (.v (.st 5)) (λx=>zqk x.1) [] []
def zBK:FS:=Ad 135 [.v (.l (.st 5))] (.v (.l (.st 5))) (λx=>zpg x.1) [zDF] [.sp [.i .i64, .l (.st 5)]]
def zy7:FS:=Ad 68 [.v (.st 6)] (.v (.st 6)) (λx=>gW x.1) [XL,zBK] []
def zxn:FS:=Ad 24 [.v (.l (.st 6))] (.v (.l (.st 6))) (λx=>zV x.1) [zy7] [.sp [.i .i64, .l (.st 6)]]
def zpj:FS:=Ad 25 [.v (.l (.i .i64))] (.v (.l (.i .i64))) (λx=>T0 x.1) [] [.sp [.i .i64, .l (.i .i64)]]
def zvf:FS:=Ad 137 [.v (.st 7)] (.v (.st 7)) (λx=>T1 x.1) [XL] []
def zxB:FS:=Ad 136 [.v (.st 8)] (.v (.st 8)) (λx=>fK x.1) [zvf] []
def zvn:FS:=Ad 69 [.v (.st 9)] (.v (.st 9)) (λx=>eJ x.1) [zxB,zvf] []
def zuG:FS:=Ad 26 [.v (.l (.st 9))] (.v (.l (.st 9))) (λx=>xM x.1) [zvn] [.sp [.i .i64, .l (.st 9)]]
def zzl:FS:=Ad 138 [.v (.st 10)] (.v (.st 10)) (λx=>z6 x.1) [] []
def zyp:FS:=Ad 70 [.v (.l (.st 10))] (.v (.l (.st 10))) (λx=>zM x.1) [zzl] [.sp [.i .i64, .l (.st 10)]]
def zyt:FS:=Ad 439 [.v (.st 0)] (.v (.st 0)) (λx=>zos x.1) [] []
def zw8:FS:=Ad 428 [.v (.l (.st 0))] (.v (.l (.st 0))) (λx=>zT x.1) [zyt] [.sp [.i .i64, .l (.st 0)]]
def zDE:FS:=Ad 409 [.v (.st 11)] (.v (.st 11)) (λx=>kC x.1) [XL,zw8] []
def zyT:FS:=Ad 378 [.v (.st 12)] (.v (.st 12)) (λx=>iF x.1) [zDE] []
def zwM:FS:=Ad 348 [.v (.l (.st 12))] (.v (.l (.st 12))) (λx=>yT x.1) [zyT] [.sp [.i .i64, .l (.st 12)]]
def zvP:FS:=Ad 304 [.v (.st 13)] (.v (.st 13)) (λx=>eR x.1) [zwM] []
def zup:FS:=Ad 227 [.v (.l (.st 13))] (.v (.l (.st 13))) (λx=>w8 x.1) [zvP] [.sp [.i .i64, .l (.st 13)]]
def zyG:FS:=Ad 139 [.v (.st 14)] (.v (.st 14)) (λx=>gH x.1) [zup] []
def zwl:FS:=Ad 72 [.v (.l (.st 14))] (.v (.l (.st 14))) (λx=>zJ x.1) [zyG] [.sp [.i .i64, .l (.st 14)]]
def zAk:FS:=Ad 228 [.v (.st 15)] (.v (.st 15)) (λx=>zpA x.1) [] []
def zy2:FS:=Ad 140 [.v (.l (.st 15))] (.v (.l (.st 15))) (λx=>zol x.1) [zAk] [.sp [.i .i64, .l (.st 15)]]
def zxR:FS:=Ad 73 [.v (.l (.l (.st 15)))] (.v (.l (.l (.st 15)))) (λx=>zW x.1) [zy2] [.sp [.i .i64, .l (.l (.st 15))]]
def zE1:FS:=Ad 305 [.v (.st 16)] (.v (.st 16)) (λx=>zsi x.1) [] []
def zDp:FS:=Ad 229 [.v (.l (.st 16))] (.v (.l (.st 16))) (λx=>zqY x.1) [zE1] [.sp [.i .i64, .l (.st 16)]]
def zDC:FS:=Ad 306 [.v (.st 17)] (.v (.st 17)) (λx=>zqH x.1) [] []
def ztN:FS:=Ad 230 [.v (.l (.st 17))] (.v (.l (.st 17))) (λx=>iI x.1) [zDC] [.sp [.i .i64, .l (.st 17)]]
def zuf:FS:=Ad 141 [.v (.st 18)] (.v (.st 18)) (λx=>dZ x.1) [zDp,ztN,zpj] []
def ztw:FS:=Ad 74 [.v (.l (.st 18))] (.v (.l (.st 18))) (λx=>wZ x.1) [zuf] [.sp [.i .i64, .l (.st 18)]]
def ztn:FS:=Ad 142 [.v (.st 19)] (.v (.st 19)) (λx=>dC x.1) [XL,ztN] []
def zrU:FS:=Ad 75 [.v (.l (.st 19))] (.v (.l (.st 19))) (λx=>wJ x.1) [ztn] [.sp [.i .i64, .l (.st 19)]]
def zy0:FS:=Ad 27 [.v (.st 20)] (.v (.st 20)) (λx=>gI x.1) [zyp,XL,zwl,zxR,zpj,ztw,zrU] []
def zBI:FS:=Ad 6 [.v (.st 21)] (.v (.st 21)) (λx=>QT x.1) [zxn,zpj,zuG,zy0] []
def zoS:FS:=Ad 207 [.v .s, .v (.i .i64)] (.v .b) (λx=>SJ x.1 x.2.1) [] [.sp [.i .i64]]
def zDd:FS:=Ad 291 [.v (.l .s), .v .s] (.v (.i .i64)) (λx=>jM x.1 x.2.1) [] [.sp [.i .i64]]
def Fx:FS:=Ad 18 [.v (.i .i64), .v (.i .i64), .v (.i .i64)] (.v .b) (λx=>Dd x.1 x.2.1 x.2.2.1) [] []
def zyO:FS:=Ad 208 [.v (.l .s)] (.v .b) (λx=>gD x.1) [Fx,zoS,zDd] [.sp [.i .i64]]
def XQ:FS:=Ad 114 [.v (.st 6)] (.v .b) (λx=>OQ x.1) [zoS,zyO,Fx] [.sp [.i .i64]]
def Yc:FS:=Ad 129 [.v (.st 6), .v .s] (.v (.i .i64)) (λx=>OU x.1 x.2.1) [] [.sp [.i .i64]]
def zqO:FS:=Ad 66 [.v (.st 6), .v .s] (.tu (.cons (.v (.st 5)) (.cons (.v .b) .nil))) (λx=>T6 x.1 x.2.1) [Yc,XQ] []
def zym:FS:=Ad 209 [.v (.st 6), .v .s, .v (.i .i64)] (.v .b) (λx=>TM x.1 x.2.1 x.2.2.1) [XQ,Yc,Fx] []
def ztd:FS:=Ad 292 [.v (.st 6)] (.v (.st 6)) (λx=>Yf x.1) [] []
def zB4:FS:=Ad 293 [.v (.st 6), .v .s, .v (.i .i64)] (.v (.st 6)) (λx=>Ya x.1 x.2.1 x.2.2.1) [ztd,Yc] []
def zBP:FS:=Ad 210 [.v (.st 6), .v .s, .v (.i .i64)] (.v (.l (.st 6))) (λx=>iS x.1 x.2.1 x.2.2.1) [ztd,Yc,zB4] [.sp [.i .i64, .l (.st 6)], .inl]
def zDw:FS:=Ad 115 [.v (.st 6), .v .s, .v (.i .i64)] (.tu (.cons (.v (.l (.st 6))) (.cons (.v .b) .nil))) (λx=>T2 x.1 x.2.1 x.2.2.1) [zym,zBP] []
def zyz:FS:=Ad 211 [.v (.l .s), .v (.l .s)] (.v .b) (λx=>fX x.1 x.2.1) [] [.sp [.i .i64]]
def zr1:FS:=Ad 116 [.v (.st 6), .v (.st 6)] (.v .b) (λx=>XB x.1 x.2.1) [zyz] [.sp [.i .i64]]
def zyV:FS:=Ad 54 [.v (.l (.st 6)), .v .s] (.v .b) (λx=>gP x.1 x.2.1) [XQ,zqO,zDw,zr1] [.sp [.i .i64]]
def zqp:FS:=Ad 55 [.v (.l (.i .i64)), .v (.i .i64), .v (.i .i64)] (.v .b) (λx=>T4 x.1 x.2.1 x.2.2.1) [Fx] [.sp [.i .i64]]
def zX:FS:=Ad 225 [.v .s, .v .s] (.v .b) (λx=>TR x.1 x.2.1) [] [.sp [.i .i64], .sp [.b, .i .i64]]
def OW:FS:=Ad 212 [.v .s] (.v .b) (λx=>Lg x.1) [Fx,zX] []
def zyv:FS:=Ad 117 [.v (.l .s)] (.v .b) (λx=>fW x.1) [OW] [.sp [.i .i64]]
def zsX:FS:=Ad 370 [.v (.i .i64)] (.v .b) (λx=>OY x.1) [Fx] []
def zBS:FS:=Ad 371 [.v (.l .s)] (.v .b) (λx=>iQ x.1) [OW] [.sp [.i .i64]]
def zqC:FS:=Ad 296 [.v .s] (.v .b) (λx=>T7 x.1) [zX] []
def zrE:FS:=Ad 302 [.v .s, .v .s, .v .b] (.v .b) (λx=>X0 x.1 x.2.1 x.2.2.1) [OW,zqC] []
def zqu:FS:=Ad 223 [.v (.l (.st 0))] (.v .b) (λx=>X3 x.1) [zrE] [.sp [.i .i64]]
def zBq:FS:=Ad 337 [.v (.st 11)] (.v .b) (λx=>zpV x.1) [Fx,zsX,zBS,zqu] [.pt]
def zyC:FS:=Ad 294 [.v (.st 11)] (.v .b) (λx=>gQ x.1) [zBq] []
def zvR:FS:=Ad 213 [.v (.st 13), .v (.i .i64)] (.v .b) (λx=>XT x.1 x.2.1) [Fx,zyC] [.sp [.i .i64, .i .i64]]
def zvo:FS:=Ad 118 [.v (.st 14)] (.v .b) (λx=>eO x.1) [Fx,zvR] [.sp [.i .i64]]
def zyH:FS:=Ad 214 [.v (.st 15)] (.v .b) (λx=>gA x.1) [OW,Fx] []
def zyn:FS:=Ad 215 [.v (.st 15), .v (.st 15)] (.v .b) (λx=>fC x.1 x.2.1) [] []
def zyU:FS:=Ad 119 [.v (.l (.st 15))] (.v .b) (λx=>fV x.1) [zyH,zyn] [.sp [.i .i64], .sp [.i .i64]]
def zyW:FS:=Ad 120 [.v (.st 10)] (.v .b) (λx=>zoo x.1) [Fx] []
def zD8:FS:=Ad 295 [.v (.st 16)] (.v .b) (λx=>kL x.1) [OW,zqC,Fx] [.pt, .inl]
def zBL:FS:=Ad 216 [.v (.l (.st 16))] (.v .b) (λx=>iP x.1) [zD8] [.sp [.i .i64]]
def ztx:FS:=Ad 217 [.v (.l (.st 17))] (.v .b) (λx=>Yb x.1) [OW,zqC] [.sp [.i .i64], .sp [.i .i64]]
def zpr:FS:=Ad 123 [.v (.i .i64)] (.v .b) (λx=>Yg x.1) [Fx] []
def zCb:FS:=Ad 121 [.v (.st 20), .v (.st 18)] (.v .b) (λx=>iJ x.1 x.2.1) [zBL,ztx,zqp,Fx,zpr] []
def zzd:FS:=Ad 218 [.v (.l .s)] (.v .b) (λx=>gX x.1) [Fx,OW] [.sp [.i .i64]]
def zzp:FS:=Ad 122 [.v (.st 20), .v (.st 19)] (.v .b) (λx=>iC x.1 x.2.1) [zzd,ztx,Fx,zpr] [.sp [.i .i64]]
def zrM:FS:=Ad 56 [.v (.st 20)] (.v .b) (λx=>QQ x.1) [zyv,zqp,zpr,Fx,zzp,zCb,zyW,zvo,zyU] [.sp [.i .i64], .sp [.i .i64], .sp [.i .i64], .sp [.i .i64]]
def zwY:FS:=Ad 124 [.v (.st 8)] (.v .b) (λx=>fU x.1) [] []
def zqK:FS:=Ad 134 [.v .s] (.v .b) (λx=>TN x.1) [Fx,zX] []
def zrB:FS:=Ad 219 [.v (.st 6), .v (.st 7)] (.v .b) (λx=>OS x.1 x.2.1) [zqK] [.sp [.i .i64]]
def zzk:FS:=Ad 338 [.v (.l .s), .v .s] (.v .s) (λx=>zot x.1 x.2.1) [] [.sp [.s, .i .i64], .inl]
def zqN:FS:=Ad 297 [.v (.st 6), .v (.st 7)] (.v (.st 0)) (λx=>QP x.1 x.2.1) [zzk] []
def zqj:FS:=Ad 298 [.v (.st 6), .v (.st 5), .v (.st 7)] (.v .s) (λx=>TO x.1 x.2.1 x.2.2.1) [] []
def zyR:FS:=Ad 220 [.v (.st 6), .v (.st 5), .v (.st 7)] (.v (.l (.st 16))) (λx=>zou x.1 x.2.1 x.2.2.1) [zqN,zqj] []
def zy6:FS:=Ad 125 [.v (.st 6), .v .s, .v (.st 7)] (.tu (.cons (.v (.l (.st 16))) (.cons (.v .b) .nil))) (λx=>zop x.1 x.2.1 x.2.2.1) [zqO,zrB,zyR] []
def zyY:FS:=Ad 299 [.v (.st 6), .v (.st 8)] (.v .b) (λx=>gN x.1 x.2.1) [zrB] []
def zy8:FS:=Ad 221 [.v (.st 6), .v (.st 8)] (.v .b) (λx=>zY x.1 x.2.1) [XQ,zyY] []
def zzw:FS:=Ad 300 [.v (.st 6), .v (.st 8)] (.v (.l (.st 16))) (λx=>fY x.1 x.2.1) [zqN] []
def zBk:FS:=Ad 301 [.v (.st 6), .v (.st 5), .v (.st 8)] (.v (.l (.st 16))) (λx=>Yd x.1 x.2.1 x.2.2.1) [zqj] [.sp [.s], .pt, .pt, .inl]
def zBB:FS:=Ad 222 [.v (.st 6), .v (.st 8)] (.v (.l (.st 16))) (λx=>iN x.1 x.2.1) [zzw,zBk] [.sp [.i .i64, .l (.st 16)]]
def zA3:FS:=Ad 126 [.v (.st 6), .v (.st 8)] (.tu (.cons (.v (.l (.st 16))) (.cons (.v .b) .nil))) (λx=>zpu x.1 x.2.1) [zy8,zBB] []
def zBh:FS:=Ad 57 [.v (.l (.st 6)), .v .s, .v (.st 9)] (.tu (.cons (.v (.l (.st 16))) (.cons (.v .b) .nil))) (λx=>iV x.1 x.2.1 x.2.2.1) [Fx,zwY,zy6,zA3] []
def zuE:FS:=Ad 58 [.v (.l (.st 16)), .v (.l (.st 16))] (.v .b) (λx=>dW x.1 x.2.1) [] [.sp [.i .i64]]
def zzn:FS:=Ad 17 [.v (.st 21)] (.v .b) (λx=>gE x.1) [zyV,Fx,zqp,zrM,zBh,zuE] [.sp [.i .i64], .sp [.i .i64]]
def zu5:FS:=Ad 372 [.v (.l (.st 4))] (.v (.l (.st 4))) (λx=>Yh x.1) [] [.sp [.l (.st 4), .i .i64]]
def zpO:FS:=Ad 67 [.v (.l .s)] (.v (.l .s)) (λx=>Lf x.1) [] []
def zuz:FS:=Ad 373 [.v (.st 1)] (.v (.st 1)) (λx=>dX x.1) [zpO] []
def zA4:FS:=Ad 339 [.v (.st 22)] (.v (.st 22)) (λx=>jJ x.1) [zu5,zuz] [.sp [.i .i64, .l (.st 1)]]
def zvw:FS:=Ad 340 [.v (.st 22), .v (.i .i64)] (.tu (.cons (.v (.st 1)) (.cons (.v .b) .nil))) (λx=>eU x.1 x.2.1) [] [.sp [.i .i64]]
def zvB:FS:=Ad 341 [.v (.st 22), .v (.i .i64)] (.tu (.cons (.v (.st 2)) (.cons (.v .b) .nil))) (λx=>eK x.1 x.2.1) [] [.sp [.i .i64]]
def zuS:FS:=Ad 342 [.v (.l (.st 1)), .v (.st 1)] (.v (.l (.st 1))) (λx=>dO x.1 x.2.1) [] [.sp [.i .i64]]
def zwi:FS:=Ad 405 [.v (.l (.st 0)), .v .s] (.v .b) (λx=>XJ x.1 x.2.1) [] [.sp [.i .i64]]
def zA8:FS:=Ad 406 [.v (.l .s), .v .s] (.v .b) (λx=>jH x.1 x.2.1) [] [.sp [.i .i64]]
def zwW:FS:=Ad 374 [.v (.st 1), .v (.l .s), .v (.l (.st 0))] (.v .b) (λx=>fB x.1 x.2.1 x.2.2.1) [zwi,zA8] [.sp [.i .i64], .sp [.i .i64]]
def ztK:FS:=Ad 23 [.v (.l .s), .v .s] (.v (.l .s)) (λx=>TV x.1 x.2.1) [zpO] [.sp [.i .i64]]
def zxl:FS:=Ad 407 [.v (.l (.st 4)), .v .s] (.v (.i .i64)) (λx=>Yk x.1 x.2.1) [] [.sp [.i .i64]]
def zyu:FS:=Ad 375 [.v (.st 22), .v (.l (.st 0))] (.v .b) (λx=>iH x.1 x.2.1) [ztK,zxl] [.sp [.l .s, .i .i64], .sp [.i .i64, .l (.st 0)], .sp [.l .s, .i .i64]]
def zzq:FS:=Ad 343 [.v (.st 22), .v (.l .s), .v (.l (.st 0))] (.v .b) (λx=>gO x.1 x.2.1 x.2.2.1) [zyu,zwW] [.sp [.i .i64]]
def zBt:FS:=Ad 376 [.v (.l (.st 4)), .v .s] (.v (.i .i64)) (λx=>jC x.1 x.2.1) [zxl] []
def zAv:FS:=Ad 408 [.v (.st 4)] (.v .b) (λx=>iK x.1) [OW,Fx,zsX,zrE] [.sp [.i .i64]]
def zAz:FS:=Ad 377 [.v (.l (.st 4))] (.v .b) (λx=>iZ x.1) [zAv] [.sp [.i .i64]]
def zDy:FS:=Ad 344 [.v (.l (.st 4)), .v (.l (.st 0)), .v (.i .i64)] (.tu (.cons (.v (.l (.st 4))) (.cons (.v .b) .nil))) (λx=>jR x.1 x.2.1 x.2.2.1) [zu5,zAz,zBt] [.sp [.i .i64, .l (.st 4)], .inl, .sp [.i .i64]]
def zBp:FS:=Ad 345 [.v (.i .i64), .v (.i .i64)] (.v (.i .i64)) (λx=>iM x.1 x.2.1) [] []
def zzg:FS:=Ad 346 [.v (.l (.st 1)), .v (.i .i64)] (.v (.l (.st 1))) (λx=>XY x.1 x.2.1) [] [.sp [.l (.st 1), .i .i64], .inl]
def zt9:FS:=Ad 347 [.v (.l (.st 2)), .v (.st 2)] (.v (.l (.st 2))) (λx=>XE x.1 x.2.1) [] [.sp [.i .i64]]
def zxh:FS:=Ad 303 [.v (.st 22), .v (.st 11)] (.tu (.cons (.v (.st 22)) (.cons (.v .b) .nil))) (λx=>fT x.1 x.2.1) [zA4,zvw,zvB,zpO,zuS,zzq,zDy,zBp,zzg,zt9] [.inl]
def zDq:FS:=Ad 224 [.v (.l (.st 11))] (.tu (.cons (.v (.st 22)) (.cons (.v (.l .b)) .nil))) (λx=>jP x.1) [zxh] [.sp [.l .b, .i .i64, .i .i64, .l (.st 4), .l (.st 1), .l (.st 2)], .inl]
def zxb:FS:=Ad 132 [.v (.l (.st 12)), .v (.i .i64)] (.v (.st 22)) (λx=>fH x.1 x.2.1) [zDq] [.sp [.l (.st 11), .i .i64]]
def zrO:FS:=Ad 63 [.v (.st 14)] (.v (.st 22)) (λx=>XX x.1) [zxb] [.sp [.i .i64, .i .i64], .inl]
def zrK:FS:=Ad 127 [.v (.i .i64), .v (.i .i64)] (.v (.i .i64)) (λx=>X6 x.1 x.2.1) [] []
def zuV:FS:=Ad 128 [.v (.st 22)] (.v (.i .i64)) (λx=>eA x.1) [zrK] [.sp [.i .i64, .i .i64]]
def zss:FS:=Ad 59 [.v (.st 20)] (.tu (.cons (.v (.i .i64)) (.cons (.v .b) .nil))) (λx=>wD x.1) [zrM,zrO,zuV,zrK] [.sp [.i .i64, .i .i64]]
def zuh:FS:=Ad 19 [.v (.st 20)] (.v (.i .i64)) (λx=>dP x.1) [zss] []
def zDT:FS:=Ad 131 [.v (.st 4), .v (.i .i64)] (.tu (.cons (.v (.st 3)) (.cons (.v .b) .nil))) (λx=>jV x.1 x.2.1) [] [.sp [.b, .i .i64, .i .i64, .s, .b], .inl]
def zDb:FS:=Ad 62 [.v (.l (.st 4)), .v (.i .i64)] (.v (.l (.st 0))) (λx=>jT x.1 x.2.1) [zDT] [.sp [.l (.st 0), .i .i64], .inl]
def zCi:FS:=Ad 64 [.v (.l (.st 0)), .v (.st 0)] (.v (.l (.st 0))) (λx=>jG x.1 x.2.1) [] [.sp [.i .i64]]
def zzf:FS:=Ad 21 [.v (.st 20), .v (.i .i64)] (.v (.l (.st 0))) (λx=>gR x.1 x.2.1) [zrO,zDb,zCi] [.sp [.l (.st 0), .i .i64], .sp [.i .i64, .l (.st 0)]]
def zAV:FS:=Ad 130 [.v (.l (.st 0))] (.v .b) (λx=>jB x.1) [zqu] [.sp [.i .i64]]
def zxA:FS:=Ad 60 [.v (.st 6), .v .s, .v (.l (.st 0))] (.v .b) (λx=>fQ x.1 x.2.1 x.2.2.1) [XQ,Yc,zAV] []
def zzv:FS:=Ad 133 [.v .s, .v (.i .u8)] (.v (.l .s)) (λx=>TU x.1 x.2.1) [] [.sp [.l .s, .i .i64, .i .i64], .inl]
def zm9:FS:=Ad 65 [.v (.st 6), .v .s, .v .s] (.tu (.cons (.v .s) (.cons (.v .s) (.cons (.v .b) .nil)))) (λx=>QE x.1 x.2.1 x.2.2.1) [zzv,zqK] []
def zux:FS:=Ad 61 [.v (.st 6), .v .s, .v (.l (.st 0))] (.v (.l .s)) (λx=>xU x.1 x.2.1 x.2.2.1) [zm9] [.sp [.l .s, .i .i64], .inl]
def zvS:FS:=Ad 20 [.v (.st 6), .v .s, .v (.l (.st 0))] (.tu (.cons (.v (.l .s)) (.cons (.v .b) .nil))) (λx=>yZ x.1 x.2.1 x.2.2.1) [zxA,zux] []
def zuo:FS:=Ad 22 [.v (.st 6), .v .s, .v .s] (.tu (.cons (.v .s) (.cons (.v .s) (.cons (.v .b) .nil)))) (λx=>dN x.1 x.2.1 x.2.2.1) [zm9,zqO] []
def zze:FS:=Ad 5 [.v (.st 21), .v .s, .v (.i .i64)] (.tu (.cons (.v (.l .s)) (.cons (.v .b) .nil))) (λx=>gY x.1 x.2.1 x.2.2.1) [zzn,Fx,zuh,zzf,zvS,zuo,ztK] [.sp [.l .s, .i .i64], .inl]
def EW:FS:=Ad 30 [.v (.i .i64), .v (.i .i64), .v (.i .i64)] (.v .b) (λx=>Ed x.1 x.2.1 x.2.2.1) [] []
def zuQ:FS:=Ad 307 [.v .s, .v (.i .i64)] (.v .b) (λx=>SU x.1 x.2.1) [EW] [.sp [.i .i64]]
def zk1:FS:=Ad 349 [.v (.l .s), .v .s] (.v (.i .i64)) (λx=>bW x.1 x.2.1) [] [.sp [.i .i64]]
def zeQ:FS:=Ad 308 [.v (.l .s), .v .s] (.v .b) (λx=>Xn x.1 x.2.1) [zk1] []
def zyP:FS:=Ad 309 [.v (.i .i64)] (.v .b) (λx=>zok x.1) [EW] []
def zvp:FS:=Ad 231 [.v (.st 6)] (.v .b) (λx=>eE x.1) [zuQ,EW,zyP,zeQ] [.sp [.i .i64], .sp [.i .i64]]
def zhl:FS:=C5 310 [.v (.l (.st 5)), .fn [.st 5] .b] (.v (.i .i64)) (λx=>FK x.1 (λy=>x.2.1.φ (y,()))) λx r hp h=>Ee (f:=310) (t:=KC 3) (by kernel_rfl) (by kernel_rfl) (L8 (av:=(B3 CU.av (.st 5))) (cn:=3) (λ_=>⟨_,rfl,rfl⟩) h (λy b hb=>hp.2.1 (y,()) b hb))
def zo0:FS:=Ad 311 [.v (.st 5), .rf .s] (.v .b) (λx=>vE x.1 x.2.1) [] []
def zoE:FS:=Gu zo0 λ_=>by kernel_rfl
def vK:FS:=Ad 232 [.v (.st 6), .v .s] (.v (.i .i64)) (λx=>SG x.1 x.2.1) [zhl,zoE] []
def zAF:FS:=Ad 143 [.v (.st 6), .v .s] (.v .b) (λx=>iU x.1 x.2.1) [zvp,vK] []
def wR:FS:=Ad 144 [.v (.st 6), .v .s] (.v (.st 5)) (λx=>M9 x.1 x.2.1) [vK] []
def zfA:FS:=C5 312 [.v (.l .s)] (.v (.l .s)) (λx=>Qt x.1) λx r hp h=>Ee (f:=312) (t:=UR 16 1) (by kernel_rfl) (by kernel_rfl) (lG (bytes:=16) (sz:=1) (av:=(B3 CU.av .s)) (λx=>⟨Q7 _ x,Ub (by kernel_rfl) x⟩) h)
def ziW:FS:=C5 313 [.v (.l (.st 5))] (.v (.l (.st 5))) (λx=>u7 x.1) λx r hp h=>Ee (f:=313) (t:=UR 32 3) (by kernel_rfl) (by kernel_rfl) (lG (bytes:=32) (sz:=3) (av:=(B3 CU.av (.st 5))) (λx=>⟨Q7 _ x,Ub (by kernel_rfl) x⟩) h)
def zpY:FS:=Ad 233 [.v (.st 6)] (.v (.st 6)) (λx=>XS x.1) [zfA,ziW] []
def zoV:FS:=Ad 234 [.v (.st 6), .v .s, .v (.i .i64)] (.v (.st 6)) (λx=>Xr x.1 x.2.1 x.2.2.1) [zpY,vK] []
def zrs:FS:=Ad 146 [.v (.st 6), .v .s, .v (.i .i64)] (.v (.l (.st 6))) (λx=>cU x.1 x.2.1 x.2.2.1) [wR,zpY,zoV] [.sp [.i .i64, .l (.st 6)], .inl]
def zck:FS:=Ad 145 [.v (.l (.st 6)), .v (.l (.st 6)), .fn [.st 6, .st 6] .b] (.v .b) (λx=>bP x.1 x.2.1 (λy0 y1=>x.2.2.1.φ (y0,y1,()))) [] [.sp [.i .i64]]
def zfW:FS:=Ad 79 [.v (.l .s), .v (.l .s)] (.v .b) (λx=>M7 x.1 x.2.1) [] [.sp [.i .i64]]
def ziS:FS:=Ad 235 [.v (.l (.st 5)), .v (.l (.st 5))] (.v .b) (λx=>bX x.1 x.2.1) [] [.sp [.i .i64]]
def zvF:FS:=Ad 147 [.v (.st 6), .v (.st 6)] (.v .b) (λx=>OO x.1 x.2.1) [zfW,ziS] []
def zt4:FS:=Gu zvF λ_=>by kernel_rfl
def zyB:FS:=Ad 76 [.v (.l (.st 6)), .v .s] (.v .b) (λx=>fZ x.1 x.2.1) [zAF,wR,zrs,zck,zt4] []
def X9:FS:=Ad 29 [.v (.i .i64)] (.v .b) (λx=>Nc x.1) [EW] []
def zw6:FS:=Ad 77 [.v (.l (.i .i64))] (.v .b) (λx=>eZ x.1) [X9] [.sp [.i .i64]]
def zqy:FS:=Ad 274 [.v (.i .u8)] (.v .b) (λx=>vW x.1) [] []
def zsd:FS:=Ad 275 [.v .s, .v (.i .u8)] (.v (.i .i64)) (λx=>wN x.1 x.2.1) [zkh] []
def zU:FS:=Ad 178 [.v .s, .v .s] (.v .b) (λx=>TD x.1 x.2.1) [zqy,zsd] [.sp [.i .i64]]
def gT:FS:=Ad 269 [.v .s] (.v .b) (λx=>QS x.1) [EW,zU] []
def XU:FS:=Ad 171 [.v (.l .s)] (.v .b) (λx=>Nb x.1) [gT] [.sp [.i .i64]]
def zxc:FS:=Ad 148 [.v (.l .s)] (.v .b) (λx=>fJ x.1) [XU] []
def zBU:FS:=Ad 236 [.v (.i .i64)] (.v .b) (λx=>zpQ x.1) [] []
def zrq:FS:=Ad 237 [.v (.st 14), .v (.i .i64)] (.v .b) (λx=>vM x.1 x.2.1) [EW] []
def zfn:FS:=C5 314 [.v (.l (.st 13)), .fn [.st 13] .b] (.v (.i .i64)) (λx=>FK x.1 (λy=>x.2.1.φ (y,()))) λx r hp h=>Ee (f:=314) (t:=KC 3) (by kernel_rfl) (by kernel_rfl) (L8 (av:=(B3 CU.av (.st 13))) (cn:=3) (λ_=>⟨_,rfl,rfl⟩) h (λy b hb=>hp.2.1 (y,()) b hb))
def zeN:FS:=C5 238 [.v (.l (.st 13)), .fn [.st 13] .b] (.v .b) (λx=>DB x.1 (λy=>x.2.1.φ (y,()))) λx r hp h=>Ee (f:=238) (t:=J0 314) (by kernel_rfl) (by kernel_rfl) (Lo h λr hr=>zfn.ok x r hp hr)
def zu7:FS:=Ad 316 [.v (.i .i64)] (.v .b) (λx=>Yj x.1) [EW] []
def zs9:FS:=Ad 350 [.v (.i .i64)] (.v .b) (λx=>OV x.1) [EW] []
def zvI:FS:=Ad 172 [.v (.l (.st 0))] (.v (.l .s)) (λx=>eC x.1) [] [.sp [.i .i64, .l .s]]
def zgd:FS:=C5 270 [.v (.l (.st 0)), .fn [.st 0] .b] (.v (.i .i64)) (λx=>FK x.1 (λy=>x.2.1.φ (y,()))) λx r hp h=>Ee (f:=270) (t:=KC 3) (by kernel_rfl) (by kernel_rfl) (L8 (av:=(B3 CU.av (.st 0))) (cn:=3) (λ_=>⟨_,rfl,rfl⟩) h (λy b hb=>hp.2.1 (y,()) b hb))
def zcj:FS:=C5 173 [.v (.l (.st 0)), .fn [.st 0] .b] (.v .b) (λx=>DB x.1 (λy=>x.2.1.φ (y,()))) λx r hp h=>Ee (f:=173) (t:=J0 270) (by kernel_rfl) (by kernel_rfl) (Lo h λr hr=>zgd.ok x r hp hr)
def zrN:FS:=Ad 271 [.v .s] (.v .b) (λx=>X4 x.1) [zU] []
def zE:FS:=Ad 175 [.v .s, .v .b] (.v .b) (λx=>TC x.1 x.2.1) [zrN] []
def zsy:FS:=Ad 174 [.v (.st 0)] (.v .b) (λx=>cO x.1) [zE] []
def zrw:FS:=Gu zsy λ_=>by kernel_rfl
def zoK:FS:=Ad 86 [.v (.l (.st 0))] (.v .b) (λx=>XD x.1) [zvI,XU,zcj,zrw] []
def zyS:FS:=Ad 315 [.v (.st 11)] (.v .b) (λx=>gV x.1) [zu7,zs9,EW,XU,zoK] [.pt]
def zCJ:FS:=Ad 240 [.v (.l (.st 12)), .v (.i .i64)] (.v .b) (λx=>jO x.1 x.2.1) [EW,zyS] [.sp [.i .i64]]
def zsU:FS:=Ad 239 [.v (.st 13), .rf (.st 14)] (.v .b) (λx=>Ta x.1 x.2.1) [zCJ,EW] []
def zr6:FS:=Gu zsU λ_=>by kernel_rfl
def zvL:FS:=Ad 149 [.v (.st 14)] (.v .b) (λx=>eQ x.1) [zBU,EW,zrq,zeN,zr6] []
def zBX:FS:=Ad 241 [.v (.st 15)] (.v .b) (λx=>iT x.1) [gT,zu7] []
def zgN:FS:=C5 317 [.v (.l (.st 15)), .fn [.st 15] .b] (.v (.i .i64)) (λx=>FK x.1 (λy=>x.2.1.φ (y,()))) λx r hp h=>Ee (f:=317) (t:=KC 3) (by kernel_rfl) (by kernel_rfl) (L8 (av:=(B3 CU.av (.st 15))) (cn:=3) (λ_=>⟨_,rfl,rfl⟩) h (λy b hb=>hp.2.1 (y,()) b hb))
def zfZ:FS:=C5 242 [.v (.l (.st 15)), .fn [.st 15] .b] (.v .b) (λx=>DB x.1 (λy=>x.2.1.φ (y,()))) λx r hp h=>Ee (f:=242) (t:=J0 317) (by kernel_rfl) (by kernel_rfl) (Lo h λr hr=>zgN.ok x r hp hr)
def zwL:FS:=Ad 244 [.v (.st 15), .v (.st 15)] (.v .b) (λx=>zq0 x.1 x.2.1) [] []
def ztR:FS:=Ad 243 [.v (.st 15), .rf (.st 15)] (.v .b) (λx=>xV x.1 x.2.1) [zwL] []
def zsl:FS:=Gu ztR λ_=>by kernel_rfl
def zvJ:FS:=Ad 150 [.v (.l (.st 15))] (.v .b) (λx=>eV x.1) [zBX,zfZ,zsl] [.sp [.i .i64]]
def zgn:FS:=C5 245 [.v (.l (.st 10)), .fn [.st 10] .b] (.v (.i .i64)) (λx=>FK x.1 (λy=>x.2.1.φ (y,()))) λx r hp h=>Ee (f:=245) (t:=KC 1) (by kernel_rfl) (by kernel_rfl) (L8 (av:=(B3 CU.av (.st 10))) (cn:=1) (λ_=>⟨_,rfl,rfl⟩) h (λy b hb=>hp.2.1 (y,()) b hb))
def zfs:FS:=C5 151 [.v (.l (.st 10)), .fn [.st 10] .b] (.v .b) (λx=>DB x.1 (λy=>x.2.1.φ (y,()))) λx r hp h=>Ee (f:=151) (t:=J0 245) (by kernel_rfl) (by kernel_rfl) (Lo h λr hr=>zgn.ok x r hp hr)
def zvN:FS:=Ad 153 [.v (.st 10)] (.v .b) (λx=>zp5 x.1) [EW] []
def zsM:FS:=Ad 152 [.v (.st 10)] (.v .b) (λx=>dD x.1) [zvN] []
def zst:FS:=Gu zsM λ_=>by kernel_rfl
def zeS:FS:=C5 246 [.v (.l (.st 18)), .fn [.st 18] .b] (.v (.i .i64)) (λx=>FK x.1 (λy=>x.2.1.φ (y,()))) λx r hp h=>Ee (f:=246) (t:=KC 10) (by kernel_rfl) (by kernel_rfl) (L8 (av:=(B3 CU.av (.st 18))) (cn:=10) (λ_=>⟨_,rfl,rfl⟩) h (λy b hb=>hp.2.1 (y,()) b hb))
def zea:FS:=C5 154 [.v (.l (.st 18)), .fn [.st 18] .b] (.v .b) (λx=>DB x.1 (λy=>x.2.1.φ (y,()))) λx r hp h=>Ee (f:=154) (t:=J0 246) (by kernel_rfl) (by kernel_rfl) (Lo h λr hr=>zeS.ok x r hp hr)
def zhY:FS:=C5 379 [.v (.l (.st 16)), .fn [.st 16] .b] (.v (.i .i64)) (λx=>FK x.1 (λy=>x.2.1.φ (y,()))) λx r hp h=>Ee (f:=379) (t:=KC 4) (by kernel_rfl) (by kernel_rfl) (L8 (av:=(B3 CU.av (.st 16))) (cn:=4) (λ_=>⟨_,rfl,rfl⟩) h (λy b hb=>hp.2.1 (y,()) b hb))
def zg6:FS:=C5 351 [.v (.l (.st 16)), .fn [.st 16] .b] (.v .b) (λx=>DB x.1 (λy=>x.2.1.φ (y,()))) λx r hp h=>Ee (f:=351) (t:=J0 379) (by kernel_rfl) (by kernel_rfl) (Lo h λr hr=>zhY.ok x r hp hr)
def zBW:FS:=Ad 380 [.v (.i .i64)] (.v .b) (λx=>zpd x.1) [] []
def zDO:FS:=Ad 381 [.v (.i .i64)] (.v .b) (λx=>kA x.1) [] []
def zEj:FS:=Ad 353 [.v (.st 16)] (.v .b) (λx=>kM x.1) [EW,gT,zrN,zBW,zDO] []
def zvV:FS:=Ad 352 [.v (.st 16)] (.v .b) (λx=>eF x.1) [zEj] []
def zuc:FS:=Gu zvV λ_=>by kernel_rfl
def zy9:FS:=Ad 318 [.v (.l (.st 16))] (.v .b) (λx=>gJ x.1) [zg6,zuc] []
def zvD:FS:=Ad 247 [.v (.l (.st 16))] (.v .b) (λx=>yM x.1) [zy9] []
def zhj:FS:=C5 354 [.v (.l (.st 17)), .fn [.st 17] .b] (.v (.i .i64)) (λx=>FK x.1 (λy=>x.2.1.φ (y,()))) λx r hp h=>Ee (f:=354) (t:=KC 3) (by kernel_rfl) (by kernel_rfl) (L8 (av:=(B3 CU.av (.st 17))) (cn:=3) (λ_=>⟨_,rfl,rfl⟩) h (λy b hb=>hp.2.1 (y,()) b hb))
def zgt:FS:=C5 319 [.v (.l (.st 17)), .fn [.st 17] .b] (.v .b) (λx=>DB x.1 (λy=>x.2.1.φ (y,()))) λx r hp h=>Ee (f:=319) (t:=J0 354) (by kernel_rfl) (by kernel_rfl) (Lo h λr hr=>zhj.ok x r hp hr)
def zw4:FS:=Ad 320 [.v (.st 17), .rf (.st 17)] (.v .b) (λx=>yX x.1 x.2.1) [] []
def zvy:FS:=Gu zw4 λ_=>by kernel_rfl
def ztJ:FS:=Ad 248 [.v (.l (.st 17))] (.v .b) (λx=>X7 x.1) [gT,zE,zgt,zvy] [.sp [.i .i64]]
def zmf:FS:=C5 321 [.v (.l (.i .i64)), .fn [.i .i64] .b] (.v (.i .i64)) (λx=>FK x.1 (λy=>x.2.1.φ (y,()))) λx r hp h=>Ee (f:=321) (t:=aM) (by kernel_rfl) (by kernel_rfl) (zGp (av:=(B3 CU.av (.i .i64))) (λ_=>rfl) h (λy b hb=>hp.2.1 (y,()) b hb))
def zkg:FS:=C5 249 [.v (.l (.i .i64)), .fn [.i .i64] .b] (.v .b) (λx=>DB x.1 (λy=>x.2.1.φ (y,()))) λx r hp h=>Ee (f:=249) (t:=J0 321) (by kernel_rfl) (by kernel_rfl) (Lo h λr hr=>zmf.ok x r hp hr)
def zm2:FS:=Ad 250 [.v (.i .i64)] (.v .b) (λx=>vC x.1) [EW] []
def zmy:FS:=Gu zm2 λ_=>by kernel_rfl
def zje:FS:=Ad 251 [.v (.st 20), .v (.i .i64)] (.v .b) (λx=>QB x.1 x.2.1) [EW] []
def zoC:FS:=Ad 156 [.v (.st 20), .v (.st 18)] (.v .b) (λx=>cD x.1 x.2.1) [zvD,ztJ,zkg,zmy,zje,X9] []
def zsP:FS:=Ad 155 [.v (.st 18), .rf (.st 20)] (.v .b) (λx=>XH x.1 x.2.1) [zoC] []
def zsj:FS:=Gu zsP λ_=>by kernel_rfl
def zep:FS:=C5 252 [.v (.l (.st 19)), .fn [.st 19] .b] (.v (.i .i64)) (λx=>FK x.1 (λy=>x.2.1.φ (y,()))) λx r hp h=>Ee (f:=252) (t:=KC 6) (by kernel_rfl) (by kernel_rfl) (L8 (av:=(B3 CU.av (.st 19))) (cn:=6) (λ_=>⟨_,rfl,rfl⟩) h (λy b hb=>hp.2.1 (y,()) b hb))
def zdR:FS:=C5 157 [.v (.l (.st 19)), .fn [.st 19] .b] (.v .b) (λx=>DB x.1 (λy=>x.2.1.φ (y,()))) λx r hp h=>Ee (f:=157) (t:=J0 252) (by kernel_rfl) (by kernel_rfl) (Lo h λr hr=>zep.ok x r hp hr)
def zqT:FS:=Ad 253 [.v (.st 20), .v (.i .i64)] (.v .b) (λx=>vG x.1 x.2.1) [EW] []
def ztT:FS:=Ad 254 [.v (.l .s)] (.v .b) (λx=>cY x.1) [EW,XU] []
def znH:FS:=Ad 159 [.v (.st 20), .v (.st 19)] (.v .b) (λx=>bZ x.1 x.2.1) [zqT,ztT,ztJ,X9,zje] [.sp [.i .i64]]
def zte:FS:=Ad 158 [.v (.st 19), .rf (.st 20)] (.v .b) (λx=>XG x.1 x.2.1) [znH] []
def zsq:FS:=Gu zte λ_=>by kernel_rfl
def zvC:FS:=Ad 78 [.v (.st 20)] (.v .b) (λx=>XK x.1) [zxc,X9,EW,zfs,zst,zea,zsj,zdR,zsq,zvL,zvJ] [.sp [.i .i64]]
def zAY:FS:=Ad 160 [.v (.st 8)] (.v .b) (λx=>Ye x.1) [] []
def ziR:FS:=C5 322 [.v (.l .s), .fn [.s] .b] (.v (.i .i64)) (λx=>FK x.1 (λy=>x.2.1.φ (y,()))) λx r hp h=>Ee (f:=322) (t:=aM) (by kernel_rfl) (by kernel_rfl) (zGp (av:=(B3 CU.av .s)) (λ_=>rfl) h (λy b hb=>hp.2.1 (y,()) b hb))
def zhD:FS:=C5 255 [.v (.l .s), .fn [.s] .b] (.v .b) (λx=>DB x.1 (λy=>x.2.1.φ (y,()))) λx r hp h=>Ee (f:=255) (t:=J0 322) (by kernel_rfl) (by kernel_rfl) (Lo h λr hr=>ziR.ok x r hp hr)
def zrC:FS:=Ad 91 [.v .s] (.v .b) (λx=>TS x.1) [EW,zU] []
def zqd:FS:=Ad 256 [.v .s] (.v .b) (λx=>cK x.1) [zrC] []
def zpn:FS:=Gu zqd λ_=>by kernel_rfl
def zmk:FS:=Ad 161 [.v (.st 6), .v (.st 7)] (.v .b) (λx=>OJ x.1 x.2.1) [zhD,zpn] []
def zpT:FS:=Ad 162 [.v (.st 6), .v (.st 8)] (.v .b) (λx=>cC x.1 x.2.1) [zmk] []
def zDW:FS:=Ad 80 [.v (.l (.st 6)), .v (.st 9)] (.v .b) (λx=>jY x.1 x.2.1) [EW,zAY,zmk,zpT] []
def zjn:FS:=Ad 257 [.v (.st 6), .v (.st 7)] (.v (.st 0)) (λx=>Se x.1 x.2.1) [zy4] []
def zkj:FS:=Ad 89 [.v (.st 6), .v .s] (.v .s) (λx=>Xo x.1 x.2.1) [] []
def zlS:FS:=Ad 258 [.v (.st 6), .v .s, .v (.st 7)] (.v .s) (λx=>OM x.1 x.2.1 x.2.2.1) [zkj,wR] []
def zp7:FS:=Ad 163 [.v (.st 6), .v .s, .v (.st 7)] (.v (.l (.st 16))) (λx=>vH x.1 x.2.1 x.2.2.1) [zjn,zlS] []
def zpS:FS:=Ad 259 [.v (.i .i64), .v (.st 0), .rf (.l (.st 16))] (.tu (.cons (.tu .nil) (.cons (.bo (.l (.st 16))) .nil))) (λx=>LW x.1 x.2.1 x.2.2.1) [] []
def zy1:FS:=Ad 260 [.v (.i .i64)] (.v .b) (λx=>zoq x.1) [] []
def zy3:FS:=Ad 261 [.v (.i .i64)] (.v .b) (λx=>z7 x.1) [] []
def zqU:FS:=Ad 164 [.v (.st 6), .v (.st 8)] (.v (.l (.st 16))) (λx=>cQ x.1 x.2.1) [zy3,zpS,zy1,zlS,zjn] [.sp [.s, .s, .b, .l (.st 16)], .pt, .pt, .sp [.i .i64, .l (.st 16)], .inl, .sp [.s], .pt, .pt]
def zBs:FS:=Ad 82 [.v (.l (.st 6)), .v .s, .v (.st 9)] (.v (.l (.st 16))) (λx=>X8 x.1 x.2.1 x.2.2.1) [zp7,zqU] []
def zjZ:FS:=Ad 81 [.v (.l (.st 16)), .v (.l (.st 16))] (.v .b) (λx=>bR x.1 x.2.1) [] [.sp [.i .i64]]
def zw9:FS:=Ad 28 [.v (.st 21)] (.v .b) (λx=>fF x.1) [zyB,EW,zw6,zvC,zfW,zDW,zBs,zjZ] [.sp [.i .i64]]
def zsm:FS:=Ad 166 [.v (.st 14)] (.v (.st 13)) (λx=>dG x.1) [] [.sp [.i .i64, .b, .l (.st 12), .i .i64], .inl]
def zqQ:FS:=Ad 167 [.v (.st 13)] (.v (.l (.st 12))) (λx=>vY x.1) [] []
def zh2:FS:=C5 385 [.v (.l (.st 2))] (.v (.l (.st 2))) (λx=>u5 x.1) λx r hp h=>Ee (f:=385) (t:=UR 24 3) (by kernel_rfl) (by kernel_rfl) (lG (bytes:=24) (sz:=3) (av:=(B3 CU.av (.st 2))) (λx=>⟨Q7 _ x,Ub (by kernel_rfl) x⟩) h)
def zuJ:FS:=Ad 414 [.v (.st 1)] (.v (.st 11)) (λx=>xD x.1) [] []
def zha:FS:=C5 402 [.v (.l (.st 0))] (.v (.l (.st 0))) (λx=>Xk x.1) λx r hp h=>Ee (f:=402) (t:=UR 40 3) (by kernel_rfl) (by kernel_rfl) (lG (bytes:=40) (sz:=3) (av:=(B3 CU.av (.st 0))) (λx=>⟨Q7 _ x,Ub (by kernel_rfl) x⟩) h)
def ztG:FS:=Ad 364 [.v (.st 11)] (.v (.st 1)) (λx=>TY x.1) [zfA,zha] []
def zxG:FS:=Ad 386 [.v (.st 1)] (.v (.st 1)) (λx=>fL x.1) [zuJ,ztG] []
def zpX:FS:=Ad 358 [.v (.st 22)] (.v (.st 22)) (λx=>Tm x.1) [zp2,zh2,zxG] [.sp [.i .i64, .l (.st 1)]]
def zdZ:FS:=Ad 387 [.v (.l (.st 2)), .v (.i .i64), .fn [.st 2, .i .i64] (.i .i64)] (.tu (.cons (.v (.i .i64)) (.cons (.v .b) .nil))) (λx=>bM x.1 x.2.1 (λy0 y1=>x.2.2.1.φ (y0,y1,()))) [] [.sp [.i .i64, .i .i64]]
def zvE:FS:=Ad 415 [.v (.i .i64)] (.v .b) (λx=>XO x.1) [] []
def znP:FS:=Ad 389 [.v (.i .i64), .v (.i .i64)] (.v (.i .i64)) (λx=>Xv x.1 x.2.1) [zvE] []
def zoz:FS:=Ad 388 [.v (.st 2), .v (.i .i64)] (.v (.i .i64)) (λx=>Qy x.1 x.2.1) [znP] []
def znF:FS:=Gu zoz λ_=>by kernel_rfl
def zjM:FS:=Ad 359 [.v (.st 22), .v (.i .i64)] (.tu (.cons (.v (.i .i64)) (.cons (.v .b) .nil))) (λx=>Sc x.1 x.2.1) [zdZ,znF] []
def zed:FS:=Ad 393 [.v (.l (.st 1)), .v (.i .i64), .fn [.st 1, .i .i64] (.i .i64)] (.tu (.cons (.v (.i .i64)) (.cons (.v .b) .nil))) (λx=>bO x.1 x.2.1 (λy0 y1=>x.2.2.1.φ (y0,y1,()))) [] [.sp [.i .i64, .i .i64]]
def zoy:FS:=Ad 394 [.v (.st 1), .v (.i .i64)] (.v (.i .i64)) (λx=>Qx x.1 x.2.1) [znP] []
def znG:FS:=Gu zoy λ_=>by kernel_rfl
def zjs:FS:=Ad 361 [.v (.st 22), .v (.i .i64)] (.tu (.cons (.v (.i .i64)) (.cons (.v .b) .nil))) (λx=>Xp x.1 x.2.1) [zed,znG] []
def zdJ:FS:=Ad 429 [.v (.l (.st 4)), .v .s, .fn [.st 4, .s] (.i .i64)] (.tu (.cons (.v (.i .i64)) (.cons (.v .b) .nil))) (λx=>bL x.1 x.2.1 (λy0 y1=>x.2.2.1.φ (y0,y1,()))) [] [.sp [.i .i64, .i .i64]]
def zrX:FS:=Ad 281 [.v .s] (.v .b) (λx=>Xw x.1) [] []
def zlM:FS:=Ad 266 [.v .s, .v .s] (.v (.i .i64)) (λx=>Xu x.1 x.2.1) [zrX] []
def zus:FS:=Ad 430 [.v (.st 4), .v .s] (.v (.i .i64)) (λx=>QN x.1 x.2.1) [zlM] []
def ztA:FS:=Gu zus λ_=>by kernel_rfl
def zP:FS:=Ad 417 [.v (.l (.st 4)), .v .s] (.tu (.cons (.v (.i .i64)) (.cons (.v .b) .nil))) (λx=>TG x.1 x.2.1) [zdJ,ztA] []
def zxO:FS:=Ad 416 [.v (.l (.st 4)), .v .s] (.v (.i .i64)) (λx=>fO x.1 x.2.1) [zP] []
def zAU:FS:=Ad 433 [.v (.st 4)] (.v .b) (λx=>iL x.1) [EW,zs9,zE] [.sp [.i .i64]]
def zvA:FS:=Ad 419 [.v (.l (.st 4))] (.v .b) (λx=>zip x.1) [XU,zAU] [.sp [.i .i64, .l .s]]
def zxY:FS:=Ad 390 [.v (.l (.st 4)), .v (.l (.st 0)), .v (.i .i64)] (.tu (.cons (.v (.l (.st 4))) (.cons (.v .b) .nil))) (λx=>fP x.1 x.2.1 x.2.2.1) [zp2,zvA,zxO,zP,zhA] [.sp [.i .i64, .l (.st 4)], .inl]
def zqc:FS:=Ad 360 [.v (.st 22), .v (.st 11)] (.tu (.cons (.v (.st 22)) (.cons (.v .b) .nil))) (λx=>cM x.1 x.2.1) [zpX,zjs,zhL,zjM,zhn,zxY] [.pt, .inl]
def zgQ:FS:=C5 422 [.v (.l (.st 1)), .fn [.st 1] .b] (.v (.i .i64)) (λx=>FK x.1 (λy=>x.2.1.φ (y,()))) λx r hp h=>Ee (f:=422) (t:=KC 5) (by kernel_rfl) (by kernel_rfl) (L8 (av:=(B3 CU.av (.st 1))) (cn:=5) (λ_=>⟨_,rfl,rfl⟩) h (λy b hb=>hp.2.1 (y,()) b hb))
def zf0:FS:=C5 395 [.v (.l (.st 1)), .fn [.st 1] .b] (.v .b) (λx=>DB x.1 (λy=>x.2.1.φ (y,()))) λx r hp h=>Ee (f:=395) (t:=J0 422) (by kernel_rfl) (by kernel_rfl) (Lo h λr hr=>zgQ.ok x r hp hr)
def zdo:FS:=Ad 264 [.v (.l (.st 0)), .v .s, .fn [.st 0, .s] (.i .i64)] (.tu (.cons (.v (.i .i64)) (.cons (.v .b) .nil))) (λx=>uY x.1 x.2.1 (λy0 y1=>x.2.2.1.φ (y0,y1,()))) [] [.sp [.i .i64, .i .i64]]
def zs0:FS:=Ad 265 [.v (.st 0), .v .s] (.v (.i .i64)) (λx=>SX x.1 x.2.1) [zlM] []
def zrY:FS:=Gu zs0 λ_=>by kernel_rfl
def zp6:FS:=Ad 169 [.v (.l (.st 0)), .v .s] (.tu (.cons (.v (.i .i64)) (.cons (.v .b) .nil))) (λx=>QJ x.1 x.2.1) [zdo,zrY] []
def zvO:FS:=Ad 435 [.v (.st 0), .rf (.l (.st 0)), .rf (.l .s)] (.v .b) (λx=>yL x.1 x.2.1 x.2.2.1) [zp6,zeQ] []
def zur:FS:=Gu zvO λ_=>by kernel_rfl
def zyD:FS:=Ad 423 [.v (.l (.st 0)), .v (.l .s), .v (.l (.st 0))] (.v .b) (λx=>XZ x.1 x.2.1 x.2.2.1) [zcj,zur] []
def zD0:FS:=Ad 397 [.v (.st 1), .v (.st 1)] (.v .b) (λx=>zqB x.1 x.2.1) [zyD] []
def zqD:FS:=Ad 396 [.v (.st 1), .rf (.st 1)] (.v .b) (λx=>cR x.1 x.2.1) [zD0] []
def zp9:FS:=Gu zqD λ_=>by kernel_rfl
def zhX:FS:=C5 399 [.v (.l (.st 1))] (.v (.l (.st 1))) (λx=>u4 x.1) λx r hp h=>Ee (f:=399) (t:=sH 72 5) (by kernel_rfl) (by kernel_rfl) (zHy (bytes:=72) (sz:=5) (av:=(B3 CU.av (.st 1))) (λx=>Q7 _ x) h)
def zsp:FS:=Ad 398 [.v (.st 22), .v (.l (.st 1))] (.v .b) (λx=>dI x.1 x.2.1) [zf4,zjS,zP] [.sp [.i .i64, .l .s], .sp [.i .i64, .l .s], .sp [.i .i64, .l .s], .inl]
def zsc:FS:=Ad 362 [.v (.st 22), .v (.l .s), .v (.l (.st 0))] (.v .b) (λx=>dL x.1 x.2.1 x.2.2.1) [zf0,zp9,zhX,zsp] []
def zqe:FS:=Ad 324 [.v (.st 22), .v (.st 11)] (.tu (.cons (.v (.st 22)) (.cons (.v .b) .nil))) (λx=>cN x.1 x.2.1) [zpX,zjM,zqc,zjs,zsc,ztG,zhs] []
def zzi:FS:=Ad 262 [.v (.l (.st 11))] (.tu (.cons (.v (.st 22)) (.cons (.v (.l .b)) .nil))) (λx=>gK x.1) [zqe] [.sp [.i .i64, .i .i64, .l (.st 4), .l (.st 1), .l (.st 2), .l .b], .inl]
def zyE:FS:=Ad 165 [.v (.l (.st 12))] (.v (.st 22)) (λx=>iE x.1) [zzi] [.sp [.i .i64, .l (.st 11)]]
def zpb:FS:=Ad 83 [.v (.st 14)] (.v (.st 22)) (λx=>cB x.1) [zsm,zqQ,zyE] []
def zon:FS:=Ad 31 [.v (.st 20)] (.v (.l (.st 22))) (λx=>cF x.1) [zpb] [.sp [.i .i64, .l (.st 22)]]
def zzy:FS:=Ad 84 [.v (.l (.st 4)), .v (.i .i64)] (.v (.l (.st 0))) (λx=>gZ x.1 x.2.1) [zvG] [.sp [.i .i64, .l (.st 0)], .inl]
def zx2:FS:=Ad 85 [.v (.l (.st 0)), .v (.st 0)] (.v (.l (.st 0))) (λx=>eY x.1 x.2.1) [zp6,zg3] []
def zAw:FS:=Ad 32 [.v (.l (.st 22)), .v (.i .i64)] (.tu (.cons (.v (.l (.st 0))) (.cons (.v .b) .nil))) (λx=>iY x.1 x.2.1) [zoK,zzy,zx2] [.sp [.i .i64, .l (.st 0)], .sp [.i .i64, .l (.st 0)]]
def zqa:FS:=Ad 87 [.v (.st 22)] (.v (.i .i64)) (λx=>cJ x.1) [] [.sp [.i .i64, .i .i64]]
def zBf:FS:=Ad 33 [.v (.l (.st 22))] (.v (.i .i64)) (λx=>jI x.1) [zqa] [.sp [.i .i64, .i .i64]]
def zkf:FS:=Ad 272 [.v .s, .v .s] (.v .b) (λx=>bV x.1 x.2.1) [] []
def zki:FS:=Ad 176 [.v .s, .v .s] (.tu (.cons (.v .s) (.cons (.v .b) .nil))) (λx=>u6 x.1 x.2.1) [zkf] []
def zr2:FS:=Ad 88 [.v .s, .v .s] (.tu (.cons (.v .s) (.cons (.v .b) .nil))) (λx=>dM x.1 x.2.1) [zki] []
def znI:FS:=Ad 177 [.v .s, .v .s] (.tu (.cons (.v .s) (.cons (.v .s) (.cons (.v .b) .nil)))) (λx=>bY x.1 x.2.1) [zmp] []
def zBg:FS:=Ad 90 [.v .s, .v .s] (.tu (.cons (.v .s) (.cons (.v .s) (.cons (.v .b) .nil)))) (λx=>TZ x.1 x.2.1) [znI] []
def zh4:FS:=Ad 35 [.v (.st 6), .v .s, .v .s] (.tu (.cons (.v .s) (.cons (.v .s) (.cons (.v .b) .nil)))) (λx=>Qw x.1 x.2.1 x.2.2.1) [zkj,zr2,zBg,zrC] []
def zo1:FS:=Ad 34 [.v (.st 6), .v .s, .v (.l (.st 0))] (.v (.l .s)) (λx=>vF x.1 x.2.1 x.2.2.1) [zh4] [.sp [.i .i64, .l .s], .inl]
def zyw:FS:=Ad 7 [.v (.st 21), .v .s, .v (.i .i64)] (.tu (.cons (.v (.l .s)) (.cons (.v .b) .nil))) (λx=>X5 x.1 x.2.1 x.2.2.1) [zw9,X9,EW,zon,zAw,zBf,zo1,zf4,zh4] [.sp [.i .i64, .l .s], .inl]
def Tf:FS:=Ad 8 [.v (.l .s), .v (.l .s)] (.v .b) (λx=>Ld x.1 x.2.1) [] [.sp [.i .i64]]
def zCx:FS:=Ad 282 [.v (.st 5), .v (.st 5)] (.v .b) (λx=>jW x.1 x.2.1) [] []
def zAM:FS:=Ad 190 [.v (.l (.st 5)), .v (.l (.st 5))] (.v .b) (λx=>zpw x.1 x.2.1) [zCx] [.sp [.i .i64]]
def zy5:FS:=Ad 94 [.v (.st 6), .v (.st 6)] (.v .b) (λx=>gC x.1 x.2.1) [Tf,zAM] []
def zwZ:FS:=Ad 37 [.v (.l (.st 6)), .v (.l (.st 6))] (.v .b) (λx=>yS x.1 x.2.1) [zy5] [.sp [.i .i64]]
def zpo:FS:=Ad 38 [.v (.l (.i .i64)), .v (.l (.i .i64))] (.v .b) (λx=>TW x.1 x.2.1) [] [.sp [.i .i64]]
def zvm:FS:=Ad 192 [.v (.st 7), .v (.st 7)] (.v .b) (λx=>T3 x.1 x.2.1) [Tf] []
def zyg:FS:=Ad 191 [.v (.st 8), .v (.st 8)] (.v .b) (λx=>fA x.1 x.2.1) [zvm] []
def zvY:FS:=Ad 95 [.v (.st 9), .v (.st 9)] (.v .b) (λx=>eW x.1 x.2.1) [zyg,zvm] []
def ztZ:FS:=Ad 39 [.v (.l (.st 9)), .v (.l (.st 9))] (.v .b) (λx=>xZ x.1 x.2.1) [zvY] [.sp [.i .i64]]
def zyL:FS:=Ad 193 [.v (.st 10), .v (.st 10)] (.v .b) (λx=>gS x.1 x.2.1) [] []
def zws:FS:=Ad 96 [.v (.l (.st 10)), .v (.l (.st 10))] (.v .b) (λx=>yV x.1 x.2.1) [zyL] [.sp [.i .i64]]
def zzx:FS:=Ad 442 [.v (.st 0), .v (.st 0)] (.v .b) (λx=>gM x.1 x.2.1) [] []
def zwq:FS:=Ad 437 [.v (.l (.st 0)), .v (.l (.st 0))] (.v .b) (λx=>zD x.1 x.2.1) [zzx] [.sp [.i .i64]]
def zDD:FS:=Ad 426 [.v (.st 11), .v (.st 11)] (.v .b) (λx=>jQ x.1 x.2.1) [Tf,zwq] []
def zyN:FS:=Ad 403 [.v (.st 12), .v (.st 12)] (.v .b) (λx=>iG x.1 x.2.1) [zDD] []
def zx9:FS:=Ad 368 [.v (.l (.st 12)), .v (.l (.st 12))] (.v .b) (λx=>zL x.1 x.2.1) [zyN] [.sp [.i .i64]]
def zvW:FS:=Ad 332 [.v (.st 13), .v (.st 13)] (.v .b) (λx=>eP x.1 x.2.1) [zx9] []
def ztY:FS:=Ad 283 [.v (.l (.st 13)), .v (.l (.st 13))] (.v .b) (λx=>yC x.1 x.2.1) [zvW] [.sp [.i .i64]]
def zyK:FS:=Ad 194 [.v (.st 14), .v (.st 14)] (.v .b) (λx=>iB x.1 x.2.1) [ztY] []
def zwh:FS:=Ad 97 [.v (.l (.st 14)), .v (.l (.st 14))] (.v .b) (λx=>zO x.1 x.2.1) [zyK] [.sp [.i .i64]]
def zAK:FS:=Ad 284 [.v (.st 15), .v (.st 15)] (.v .b) (λx=>iO x.1 x.2.1) [] []
def zyM:FS:=Ad 195 [.v (.l (.st 15)), .v (.l (.st 15))] (.v .b) (λx=>z8 x.1 x.2.1) [zAK] [.sp [.i .i64]]
def zwU:FS:=Ad 98 [.v (.l (.l (.st 15))), .v (.l (.l (.st 15)))] (.v .b) (λx=>zN x.1 x.2.1) [zyM] [.sp [.i .i64]]
def zE4:FS:=Ad 333 [.v (.st 16), .v (.st 16)] (.v .b) (λx=>kF x.1 x.2.1) [] []
def zCK:FS:=Ad 285 [.v (.l (.st 16)), .v (.l (.st 16))] (.v .b) (λx=>zqs x.1 x.2.1) [zE4] [.sp [.i .i64]]
def zDV:FS:=Ad 334 [.v (.st 17), .v (.st 17)] (.v .b) (λx=>kB x.1 x.2.1) [] []
def zs1:FS:=Ad 286 [.v (.l (.st 17)), .v (.l (.st 17))] (.v .b) (λx=>jE x.1 x.2.1) [zDV] [.sp [.i .i64]]
def zt6:FS:=Ad 196 [.v (.st 18), .v (.st 18)] (.v .b) (λx=>dQ x.1 x.2.1) [zCK,zs1,zpo] []
def zsK:FS:=Ad 99 [.v (.l (.st 18)), .v (.l (.st 18))] (.v .b) (λx=>w5 x.1 x.2.1) [zt6] [.sp [.i .i64]]
def ztg:FS:=Ad 197 [.v (.st 19), .v (.st 19)] (.v .b) (λx=>dA x.1 x.2.1) [Tf,zs1] []
def zr5:FS:=Ad 100 [.v (.l (.st 19)), .v (.l (.st 19))] (.v .b) (λx=>wH x.1 x.2.1) [ztg] [.sp [.i .i64]]
def zzb:FS:=Ad 40 [.v (.st 20), .v (.st 20)] (.v .b) (λx=>iD x.1 x.2.1) [zws,Tf,zwh,zwU,zpo,zsK,zr5] []
def zB2:FS:=Ad 9 [.v (.st 21), .v (.st 21)] (.v .b) (λx=>jF x.1 x.2.1) [zwZ,zpo,ztZ,zzb] []
def OT:FS:=Ad 45 [.v (.i .i64)] (.v .s) (λx=>Hw x.1) [] [.sp [.i .i64, .s]]
def SZ:FS:=Ad 11 [.v (.l .s), .v (.i .i64)] (.tu (.cons (.v (.i .i64)) (.cons (.v (.l .s)) .nil))) (λx=>LZ x.1 x.2.1) [OT] [.sp [.i .i64, .i .i64, .l .s]]
def zxS:FS:=Ad 101 [.v (.l (.st 5)), .v (.i .i64)] (.tu (.cons (.v (.i .i64)) (.cons (.v (.l (.st 5))) .nil))) (λx=>zH x.1 x.2.1) [OT] [.sp [.i .i64, .i .i64, .l (.st 5)]]
def zuu:FS:=Ad 41 [.v (.l (.st 6)), .v (.i .i64)] (.tu (.cons (.v (.i .i64)) (.cons (.v (.l (.st 6))) .nil))) (λx=>w7 x.1 x.2.1) [OT,SZ,zxS] [.sp [.i .i64, .i .i64, .l (.st 6)]]
def zF:FS:=Ad 42 [.v (.l (.i .i64)), .v (.i .i64)] (.tu (.cons (.v (.i .i64)) (.cons (.v (.l (.i .i64))) .nil))) (λx=>X2 x.1 x.2.1) [] [.sp [.i .i64, .i .i64, .l (.i .i64)]]
def zso:FS:=Ad 43 [.v (.l (.st 9)), .v (.i .i64)] (.tu (.cons (.v (.i .i64)) (.cons (.v (.l (.st 9))) .nil))) (λx=>wI x.1 x.2.1) [SZ] [.sp [.i .i64, .i .i64, .l (.st 9)]]
def ztX:FS:=Ad 102 [.v (.l (.st 10)), .v (.i .i64)] (.tu (.cons (.v (.i .i64)) (.cons (.v (.l (.st 10))) .nil))) (λx=>xE x.1 x.2.1) [] [.sp [.i .i64, .i .i64, .l (.st 10)]]
def zut:FS:=Ad 335 [.v (.l (.st 0)), .v (.i .i64)] (.tu (.cons (.v (.i .i64)) (.cons (.v (.l (.st 0))) .nil))) (λx=>yE x.1 x.2.1) [OT] [.sp [.i .i64, .i .i64, .l (.st 0)]]
def zuk:FS:=Ad 287 [.v (.l (.st 12)), .v (.i .i64)] (.tu (.cons (.v (.i .i64)) (.cons (.v (.l (.st 12))) .nil))) (λx=>yG x.1 x.2.1) [SZ,zut] [.sp [.i .i64, .i .i64, .l (.st 12)]]
def zr7:FS:=Ad 198 [.v (.l (.st 13)), .v (.i .i64)] (.tu (.cons (.v (.i .i64)) (.cons (.v (.l (.st 13))) .nil))) (λx=>vZ x.1 x.2.1) [zuk] [.sp [.i .i64, .i .i64, .l (.st 13)]]
def zuy:FS:=Ad 103 [.v (.l (.st 14)), .v (.i .i64)] (.tu (.cons (.v (.i .i64)) (.cons (.v (.l (.st 14))) .nil))) (λx=>yA x.1 x.2.1) [zr7] [.sp [.i .i64, .i .i64, .l (.st 14)]]
def zvz:FS:=Ad 199 [.v (.l (.st 15)), .v (.i .i64)] (.tu (.cons (.v (.i .i64)) (.cons (.v (.l (.st 15))) .nil))) (λx=>yO x.1 x.2.1) [OT] [.sp [.i .i64, .i .i64, .l (.st 15)]]
def zuT:FS:=Ad 104 [.v (.l (.l (.st 15))), .v (.i .i64)] (.tu (.cons (.v (.i .i64)) (.cons (.v (.l (.l (.st 15)))) .nil))) (λx=>xS x.1 x.2.1) [zvz] [.sp [.i .i64, .i .i64, .l (.l (.st 15))]]
def zyZ:FS:=Ad 200 [.v (.l (.st 16)), .v (.i .i64)] (.tu (.cons (.v (.i .i64)) (.cons (.v (.l (.st 16))) .nil))) (λx=>zox x.1 x.2.1) [OT] [.sp [.i .i64, .i .i64, .l (.st 16)]]
def zqq:FS:=Ad 201 [.v (.l (.st 17)), .v (.i .i64)] (.tu (.cons (.v (.i .i64)) (.cons (.v (.l (.st 17))) .nil))) (λx=>gB x.1 x.2.1) [OT] [.sp [.i .i64, .i .i64, .l (.st 17)]]
def zrn:FS:=Ad 105 [.v (.l (.st 18)), .v (.i .i64)] (.tu (.cons (.v (.i .i64)) (.cons (.v (.l (.st 18))) .nil))) (λx=>vO x.1 x.2.1) [zyZ,zqq,zF] [.sp [.i .i64, .i .i64, .l (.st 18)]]
def zqL:FS:=Ad 106 [.v (.l (.st 19)), .v (.i .i64)] (.tu (.cons (.v (.i .i64)) (.cons (.v (.l (.st 19))) .nil))) (λx=>vX x.1 x.2.1) [SZ,zqq] [.sp [.i .i64, .i .i64, .l (.st 19)]]
def zvq:FS:=Ad 44 [.v (.st 20), .v (.i .i64)] (.tu (.cons (.v (.i .i64)) (.cons (.v (.st 20)) .nil))) (λx=>eM x.1 x.2.1) [ztX,SZ,zuy,zuT,zF,zrn,zqL] []
def zxK:FS:=Ad 10 [.v (.st 21), .v (.i .i64)] (.tu (.cons (.v (.i .i64)) (.cons (.v (.st 21)) .nil))) (λx=>fR x.1 x.2.1) [zuu,zF,zso,zvq] []
def zty:FS:=Ad 12 [.v (.l .s), .v (.i .i64)] (.v (.i .i64)) (λx=>dB x.1 x.2.1) [OT] [.sp [.i .i64, .i .i64]]
def zlK:FS:=Ad 3 [.v (.st 21), .v .s, .v (.i .i64)] (.v .b) (λx=>cH x.1 x.2.1 x.2.2.1) [zBn,zBI,zze,zyw,Tf,zB2,zxK,SZ,zty] []
theorem zqv(a0:CI)(a1:Ab)(a2:Int)(r:Bool)(h:cH a0 a1 a2=some r):Cp Tryz.prog BQ 3 [tN a0, .str a1, .int .i64 a2] (.bool r):=zlK.ok (a0,a1,a2,()) r (by simp[zlK,Ad,JS,W8]) h
theorem Av{α:Type}{xs:List α}{i:Nat}(h:i<xs.length):Ak xs (i:Int)=some xs[i]:=by simp[Ak,h]
theorem sQ{α:Type}{xs:List α}{i:Int}(h0:0<=i)(h:i<xs.length):∃x,Ak xs i=some x/\x∈xs/\xs[i.toNat]?=some x:=by
 have hi:i.toNat<xs.length:=by omega
 exact⟨xs[i.toNat],by simp[Ak,h0,hi],Au hi,by simp[hi]⟩
theorem zLL{α:Type}{xs:List α}{i:Int}{x:α}(h:Ak xs i=some x):x∈xs:=by obtain⟨h1,h2,h3⟩:=aV h;exact List.mem_of_getElem? h3
theorem BE{q n:Nat}(h:q<n)(hn:n<=9223372036854775807):IntKind.i64.wrap ((q:Int)+1)=((q+1:Nat):Int):=by rw[Cv (by omega) (by omega)];simp
theorem AJ{α:Type}{p:Prop}{k:Option α}(h:p):Ax p k=k:=by simp[Ax,h]
def IQ{α σ β:Type}(step:α->σ->Option (σ ⊕ Option β))(fin:σ->Option β):List α->σ->Option β
 | [],s=>fin s
 |x::xs,s=>match step x s with
  |none=>none
  |some (.inl s')=>IQ step fin xs s'
  |some (.inr o)=>o
def MT{σ τ β:Type}(f:σ->τ):Option (σ ⊕ Option β)->Option (τ ⊕ Option β)
 |none=>none
 |some (.inl s)=>some (.inl (f s))
 |some (.inr o)=>some (.inr o)
theorem zIu{α σ τ β:Type}{xs:List α}{body:τ->Option (τ ⊕ Option β)}(emb:Int->σ->τ)(step:α->σ->Option (σ ⊕ Option β))(fin:σ->Option β)(q0:Nat)
  (hs:∀(i:Nat) (hi:i<xs.length) (s:σ),q0<=i->body (emb i s)=MT (emb ((i+1:Nat):Int)) (step xs[i] s)) (he:∀s,body (emb xs.length s)=some (.inr (fin s))) (s:σ) (h0:q0<=xs.length):Ao body (emb q0 s)=IQ step fin (xs.drop q0) s:=by
 have key:∀(n q:Nat) (s:σ),q0<=q->q+n=xs.length->Ao body (emb q s)=IQ step fin (xs.drop q) s:=by
  intro n
  induction n with
  |zero=>
   intro q s _ hq;have:q=xs.length:=by omega
   subst this;rw[D2,he s];simp[IQ]
  |succ n ih=>
   intro q s h0 hq;have AQ:q<xs.length:=by omega
   rw[D2,hs q AQ s h0,Bw AQ];rcases FI:step xs[q] s with _|s'|o
   ·simp[IQ,FI,MT]
   ·simp only[IQ,FI,MT];exact ih (q+1) s' (by omega) (by omega)
   ·simp[IQ,FI,MT]
 exact key (xs.length-q0) q0 s (AF _) (by omega)
theorem lI{α σ τ β:Type}{xs:List α}{body:τ->Option (τ ⊕ Option β)}(emb:Int->σ->τ)(step:α->σ->Option (σ ⊕ Option β))(fin:σ->Option β)
  (hs:∀(i:Nat) (hi:i<xs.length) (s:σ),body (emb i s)=MT (emb ((i+1:Nat):Int)) (step xs[i] s)) (he:∀s,body (emb xs.length s)=some (.inr (fin s))) (s:σ):Ao body (emb 0 s)=IQ step fin xs s:=by
 have:=zIu emb step fin 0 (λi hi s _=>hs i hi s) he s (by omega);simpa using this
theorem rT{α σ β:Type}{step:α->σ->Option (σ ⊕ Option β)}{fin:σ->Option β}{xs:List α}(p:α->Bool)(b:β)(h:∀x∈xs,∀s,step x s=some (if p x=true then .inl s else .inr (some b)))(s:σ):IQ step fin xs s=if xs.all p=true then fin s else some b:=by
 induction xs with
 |nil=>simp[IQ]
 |cons x xs ih=>
  simp only[IQ,h x (by simp) s];cases hp:p x with
  |true=>simp[hp,ih λy hy=>h y (by simp[hy])]
  |false=>simp[hp]
theorem zKJ{α σ β:Type}{step:α->σ->Option (σ ⊕ Option β)}{fin:σ->Option β}{xs:List α}(f:σ->α->σ)(I:σ->Prop)(hI:∀x∈xs,∀s,I s->I (f s x))(h:∀x∈xs,∀s,I s->step x s=some (.inl (f s x))){s:σ}(hs:I s):IQ step fin xs s=fin (xs.foldl f s):=by
 induction xs generalizing s with
 |nil=>simp[IQ]
 |cons x xs ih=>simp only[IQ,h x (by simp) s hs,List.foldl_cons];exact ih (λy hy=>hI y (by simp[hy])) (λy hy=>h y (by simp[hy])) (hI x (by simp) s hs)
theorem DF{α σ τ β:Type}{xs:List α}{body:τ->Option (τ ⊕ Option β)}(emb:Int->σ->τ)(f:σ->α->σ)(fin:σ->Option β)(I:Nat->σ->Prop)
  (hs:∀(i:Nat) (hi:i<xs.length) (s:σ),I i s->body (emb i s)=some (.inl (emb ((i+1:Nat):Int) (f s xs[i])))/\I (i+1) (f s xs[i])) (he:∀s,I xs.length s->body (emb xs.length s)=some (.inr (fin s))) {s:σ} (h0:I 0 s):Ao body (emb 0 s)=fin (xs.foldl f s)/\I xs.length (xs.foldl f s):=by
 have key:∀(n q:Nat) (s:σ),q+n=xs.length->I q s->Ao body (emb q s)=fin ((xs.drop q).foldl f s)/\I xs.length ((xs.drop q).foldl f s):=by
  intro n
  induction n with
  |zero=>
   intro q s hq hI;have:q=xs.length:=by omega
   subst this;rw[D2,he s hI];simp[hI]
  |succ n ih=>
   intro q s hq hI;have AQ:q<xs.length:=by omega
   obtain⟨h1,h2⟩:=hs q AQ s hI;rw[D2,h1,Bw AQ,List.foldl_cons];exact ih (q+1) _ (by omega) h2
 have:=key xs.length 0 s (by omega) h0;simpa using this
theorem Ks{α:Type}{xs:List α}{p:α->Option Bool}(q:α->Bool)(hp:∀x∈xs,p x=some (q x))(hn:xs.length<=9223372036854775806):DB xs p=some (xs.any q):=by
 have key:∀(l:List α) (i:Int),0<=i->(∀x∈l,p x=some (q x))-> ∃r,JQ p l i=some r/\decide (r>=0)=l.any q:=by
  intro l
  induction l with
  |nil=>intro i _ _;exact⟨-1,rfl,by simp⟩
  |cons x l ih=>
   intro i hi h;simp only[JQ,h x (by simp),Aa];cases hq:q x with
   |true=>exact⟨i,by simp,by simp[hq,hi]⟩
   |false=>obtain⟨r,h1,h2⟩:=ih (i+1) (by omega) λy hy=>h y (by simp[hy]);exact⟨r,by simp[h1],by simp[hq,h2]⟩
 obtain⟨r,h1,h2⟩:=key xs 0 (by omega) hp;simp[DB,FK,AJ hn,h1,h2]
theorem O9{α:Type}{b:Nat}{xs:List α}(h:(xs.length:Int)*b<=140737488355328)(h2:(xs.length:Int)<=140737488355328):Pe b xs=some xs:=AJ ⟨h,h2⟩
theorem F2{β:Type}{n:Nat}{body:Int->Option (Int ⊕ Option β)}(p:Nat->Bool)(b:β)(fin:Option β)
  (hs:∀i:Nat,i<n->body i=some (if p i=true then .inl ((i+1:Nat):Int)else .inr (some b))) (he:body n=some (.inr fin)):Ao body 0=if(List.range n).all p=true then fin else some b:=by
 have h1:=lI (xs:=List.range n) (body:=body) (λi (_:Unit)=>i) (λi _=>some (if p i=true then .inl ()else .inr (some b))) (λ_=>fin)
  (λi hi s=>by rw[List.length_range]at hi;rw[hs i hi,List.getElem_range];cases p i<;>simp[MT]) (λs=>by simpa using he) ()
 rw[rT p b λx _ s=>rfl]at h1;exact h1
def Cy{α:Type}(p:α->Bool)(l:List α):Int:=match l.findIdx? p with|some i=>(i:Int)|none=> -1
theorem mA{α:Type}(p:α->Bool):Cy p []= -1:=rfl
theorem lF{α:Type}(p:α->Bool)(x:α)(l:List α):Cy p (x::l)=if p x=true then 0 else if Cy p l= -1 then-1 else Cy p l+1:=by
 unfold Cy;rw[List.findIdx?_cons];cases p x with
 |true=>simp
 |false=>
  cases h:l.findIdx? p with
  |none=>simp
  |some i=>simp<;>omega
theorem Y1{α:Type}(p:α->Bool)(l:List α): -1<=Cy p l:=by unfold Cy;split<;>omega
theorem Uv{α:Type}(p:α->Bool)(l:List α):decide (Cy p l>=0)=l.any p:=by
 induction l with
 |nil=>simp[mA]
 |cons x l ih=>
  have h1:=Y1 p l;rw[lF,List.any_cons,<-ih];cases p x with
  |true=>simp
  |false=>
   by_cases h:Cy p l= -1
   ·simp[h]
   ·have:Cy p l>=0:=by omega
    simp[h,this];try omega
theorem qT{α:Type}{p:α->Bool}{l:List α}(h:Cy p l>=0):∃x,Ak l (Cy p l)=some x/\p x=true/\x∈l:=by
 induction l with
 |nil=>simp[mA]at h
 |cons y l ih=>
  rw[lF]at h ⊢;cases hy:p y with
  |true=>exact⟨y,by simp[Ak],hy,by simp⟩
  |false=>
   have h1:=Y1 p l;by_cases hm:Cy p l= -1
   ·rw[hy,hm]at h;simp at h
   ·have h0:Cy p l>=0:=by omega
    obtain⟨x,e1,e2,e3⟩:=ih h0;obtain⟨_,e4,e5⟩:=aV e1;refine⟨x,?_,e2,by simp[e3]⟩;simp only[A6,if_false,hm];unfold Ak;rw[if_pos (by omega),show(Cy p l+1).toNat=(Cy p l).toNat+1 by omega];simpa using e5
theorem lW{α:Type}{xs:List α}{body:Int->Option (Int ⊕ Option Int)}(p:α->Bool)(hs:∀(i:Nat) (hi:i<xs.length),body i=some (if p xs[i]=true then .inr (some (i:Int))else .inl ((i+1:Nat):Int)))(he:body xs.length=some (.inr (some (-1)))):Ao body 0=some (Cy p xs):=by
 have key:∀(n q:Nat),q+n=xs.length->Ao body q=some (if Cy p (xs.drop q)= -1 then-1 else q+Cy p (xs.drop q)):=by
  intro n
  induction n with
  |zero=>
   intro q hq;have:q=xs.length:=by omega
   subst this;rw[D2,he];simp[mA]
  |succ n ih=>
   intro q hq;have AQ:q<xs.length:=by omega
   rw[D2,hs q AQ,Bw AQ,lF];cases p xs[q]with
   |true=>simp
   |false=>
    simp only[A6,if_false];rw[ih (q+1) (by omega)];have h1:=Y1 p (xs.drop (q+1));congr 1;by_cases hm:Cy p (xs.drop (q+1))= -1
    ·simp[hm]
    ·have h2: ¬(Cy p (xs.drop (q+1))+1= -1):=by omega
     simp only[hm,if_false,h2];omega
 have h:=key xs.length 0 (by omega);rw[List.drop_zero]at h;rw[show((0:Nat):Int)=0 from rfl]at h;rw[h];have h1:=Y1 p xs;by_cases hm:Cy p xs= -1
 ·simp[hm]
 ·simp[hm]
theorem zC4{α:Type}{xs:List α}{p:α->Option Bool}(q:α->Bool)(hp:∀x∈xs,p x=some (q x))(hn:xs.length<=9223372036854775806):FK xs p=some (Cy q xs):=by
 have key:∀(l:List α) (i:Int),(∀x∈l,p x=some (q x))->JQ p l i=some (if Cy q l= -1 then-1 else i+Cy q l):=by
  intro l
  induction l with
  |nil=>intro i _;simp[JQ,mA]
  |cons x l ih=>
   intro i h;simp only[JQ,h x (by simp),Aa,lF];cases q x with
   |true=>simp
   |false=>
    simp only[A6,if_false];rw[ih (i+1) λy hy=>h y (by simp[hy])];have h1:=Y1 q l;congr 1;by_cases hm:Cy q l= -1
    ·simp[hm]
    ·have h2: ¬(Cy q l+1= -1):=by omega
     simp only[hm,if_false,h2];omega
 unfold FK;rw[AJ hn,key xs 0 hp];by_cases hm:Cy q xs= -1
 ·simp[hm]
 ·simp[hm]
theorem zNI{α β:Type}{o:Option α}{x:α}{f:α->Option β}(h:o=some x):o.bind f=f x:=by rw[h];rfl
theorem foldl_map{α β:Type}(f:α->β)(l:List α)(o:List β):l.foldl (λo x=>o++ [f x]) o=o++l.map f:=by
 induction l generalizing o with
 |nil=>simp
 |cons x l ih=>rw[List.foldl_cons,ih];simp
theorem tO{α:Type}{xs:List α}{d:α}{body:Int × List α->Option ((Int × List α) ⊕ Option (List α))}
  (hs:∀(i:Nat) (hi:i<xs.length) (v:List α),v.length=xs.length->body ((i:Int),v)=some (.inl (((i+1:Nat):Int),v.set i xs[i])))
  (he:∀v,body ((xs.length:Int),v)=some (.inr (some v))):Ao body (0,List.replicate xs.length d)=some xs:=by
 have h1:=DF (xs:=xs) (body:=body) (λi (o:List α)=>(i,o++List.replicate (xs.length-i.toNat) d)) (λ(o:List α) x=>o++ [x]) (λo=>some o) (λi o=>o.length=i)
  (λi hi o ho=>by
   refine⟨?_,by simp[ho]⟩;rw[show((i:Int)).toNat=i from rfl,hs i hi _ (by simp[ho];omega)];congr 3;obtain⟨k,hk⟩:∃k,xs.length-i=k+1:=⟨xs.length-i-1,by omega⟩
   have h2:xs.length-(((i+1:Nat):Int)).toNat=k:=by rw[show(((i+1:Nat):Int)).toNat=i+1 from rfl];omega
   rw[h2,hk,List.replicate_succ];subst ho;simp[List.set_append])
  (λo ho=>by show body ((xs.length:Int),o++List.replicate (xs.length-((xs.length:Int)).toNat) d)=_;rw[show((xs.length:Int)).toNat=xs.length from rfl,Nat.sub_self,List.replicate_zero,AH];exact he o) (s:=([]:List α)) rfl
 have h3:=h1.1;rw[show(λ(o:List α) x=>o++ [x])=(λo x=>o++ [id x])from rfl,foldl_map,List.map_id,List.nil_append]at h3;exact h3
theorem tK{n:Nat}{body:Int->Option (Int ⊕ Option Bool)}(hs:∀i:Nat,i<n->body i=some (.inl ((i+1:Nat):Int)))(he:body n=some (.inr (some true))):Ao body 0=some true:=by have h:=F2 (n:=n) (body:=body) (λ_=>true) false (some true) (λi hi=>by rw[hs i hi,if_pos rfl]) he;rw[h,if_pos (by simp)]
theorem IF{a:Int}{n:Nat}(h0:0<=a)(h1:a<=1048576)(hn:n<=9223372036854775807):IntKind.i64.wrap (a-(n:Int))=a-n:=Cv (by omega) (by omega)
abbrev Ah:=Ab
def Aw(a b c:Int):Bool:=decide (a>=b)&&decide (a<=c)
theorem DV{a b c:Int}:Aw a b c=true↔b<=a/\a<=c:=by simp[Aw]
@[simp] theorem ER(a b c:Int):Dd a b c=some (Aw a b c):=rfl
@[simp] theorem Fm(a b c:Int):Ed a b c=some (Aw a b c):=rfl
def Kv(b:UInt8):Bool:=(decide ((b.toNat:Int)>=97)&&decide ((b.toNat:Int)<=122))||(decide ((b.toNat:Int)>=48)&&decide ((b.toNat:Int)<=57))
def Pf(s more:Ah):Bool:=s.all λb=>Kv b||more.contains b
theorem zPk{a b:UInt8}:((a.toNat:Int)==(b.toNat:Int))=(a==b):=by
 rw[Bool.eq_iff_iff];simp only[Az];constructor
 ·intro h;exact UInt8.toNat_inj.1 (by omega)
 ·rintro rfl;rfl
theorem zyf{α:Type}(xs:List α)(p:α->Bool)(q:Nat->Bool)(h:∀(i:Nat) (hi:i<xs.length),q i=p xs[i]):(List.range xs.length).all q=xs.all p:=by
 rw[Bool.eq_iff_iff];simp only[Bd,List.mem_range];constructor
 ·intro hq x hx;obtain⟨i,hi,rfl⟩:=List.getElem_of_mem hx;rw[<-h i hi];exact hq i hi
 ·intro hp i hi;rw[h i hi];exact hp _ (Au hi)
theorem Jd{α β:Type}{xs:List α}{body:Int->Option (Int ⊕ Option β)}(p:α->Bool)(b:β)(fin:Option β)
  (hs:∀(i:Nat) (hi:i<xs.length),body i=some (if p xs[i]=true then .inl ((i+1:Nat):Int)else .inr (some b))) (he:body xs.length=some (.inr fin)):Ao body 0=if xs.all p=true then fin else some b:=by
 rw[F2 (n:=xs.length) (λi=>match xs[i]? with|some x=>p x|none=>true) b fin (λi hi=>by rw[hs i hi];simp[hi]) he,
  zyf xs p _ λi hi=>by simp[hi]]
theorem zwC{s more:Ah}(h1:s.length<=2000000)(h2:more.length<=2000000):TR s more=some (Pf s more):=by
 unfold TR;rw[Jd (xs:=s) (λb=>Kv b||more.contains b) false (some true) ?_ (by simp[xX])]
 ·unfold Pf;cases(s.all λb=>Kv b||more.contains b)<;>rfl
 ·intro i hi;have B9:Ao (λt:Bool × Int=>XF more i s[i] t.1 t.2) (Kv s[i],0)=some (if(Kv s[i]||more.contains s[i])=true then .inl ((i+1:Nat):Int)else .inr (some false)):=by
   have hl:=lI (xs:=more) (body:=λt:Bool × Int=>XF more i s[i] t.1 t.2) (λk (ok:Bool)=>(ok,k)) (λb ok=>some (.inl (ok||s[i]==b))) (λok=>xF i ok)
    (λk hk ok=>by simp only[XF,Int.ofNat_lt,hk,decide_true,if_true,Av hk,Aa,BE hk (by omega:more.length<=_),zPk,MT];cases ok<;>simp) (λok=>by simp[XF]) (Kv s[i])
   rw[zKJ (λok b=>ok||s[i]==b) (λ_=>True) (λ_ _ _ _=>trivial) (λ_ _ _ _=>rfl) trivial]at hl;have hf:∀(l:Ah) (ok:Bool),l.foldl (λok b=>ok||s[i]==b) ok=(ok||l.contains s[i]):=by
    intro l
    induction l with
    |nil=>intro ok;simp
    |cons c l ih=>intro ok;rw[List.foldl_cons,ih,List.contains_cons,Bool.or_assoc]
   rw[hl,hf];unfold xF;rw[BE hi (by omega)];cases(Kv s[i]||more.contains s[i])<;>rfl
  simp only[xX,Int.ofNat_lt,hi,decide_true,if_true,Av hi,Aa];exact B9
theorem zAG(l:Ah)(c:UInt8):decide (Lib.indexByte l c<0)= !l.contains c:=by
 induction l with
 |nil=>rfl
 |cons b l ih=>
  unfold Lib.indexByte;have Zz:=Lib.indexByte_ge l c;rw[List.contains_cons];by_cases hb:b=c
  ·subst hb;simp
  ·have h1:(b==c)=false:=by simpa using hb
   have h2:(c==b)=false:=by simpa using λh=>hb h.symm
   rw[h1,h2];simp only[A6,if_false,Bool.false_or];rw[<-ih];by_cases hm:Lib.indexByte l c= -1
   ·simp[hm]
   ·have h3:(Lib.indexByte l c== -1)=false:=by simpa using hm
    rw[h3];simp only[A6,if_false];rw[decide_eq_decide];omega
theorem zub{s more:Ah}(h1:s.length<=2000000):TD s more=some (Pf s more):=by
 unfold TD;rw[Jd (xs:=s) (λb=>Kv b||more.contains b) false (some true) ?_ (by simp[wX])]
 ·unfold Pf;cases(s.all λb=>Kv b||more.contains b)<;>rfl
 ·intro i hi;have hu:((s[i].toNat:Int)).toNat.toUInt8=s[i]:=by simp
  simp only[wX,Int.ofNat_lt,hi,decide_true,if_true,Av hi,Aa,vW,wN,bU,hu,zAG,BE hi (by omega:s.length<=_)];rw[show((decide ((s[i].toNat:Int)>=97)&&decide ((s[i].toNat:Int)<=122))||(decide ((s[i].toNat:Int)>=48)&&decide ((s[i].toNat:Int)<=57)))=Kv s[i]from rfl];cases Kv s[i]<;>cases more.contains s[i]<;>rfl
def CP(s:Ah):Bool:=Aw s.length 1 12&&Pf s [46,47]
def Kr(s:Ah):Bool:=decide ((s.length:Int)<=24)&&Pf s [46,45,44,95]
theorem Lr{s:Ah}(h:s.length<=2000000):Lg s=some (CP s):=by simp only[Lg,ER,Aa,zwC h (more:=[46,47]) (by decide),CP];cases Aw s.length 1 12<;>simp
theorem aH{s:Ah}(h:s.length<=2000000):QS s=some (CP s):=by simp only[QS,Fm,Aa,zub h,CP];cases Aw s.length 1 12<;>simp
theorem tQ{s:Ah}(h:s.length<=2000000):T7 s=some (Kr s):=by simp only[T7,Aa,zwC h (more:=[46,45,44,95]) (by decide),Kr];by_cases hl:(s.length:Int)<=24<;>simp[hl]
theorem zNf{s:Ah}(h:s.length<=2000000):X4 s=some (Kr s):=by simp only[X4,Aa,zub h,Kr];by_cases hl:(s.length:Int)<=24<;>simp[hl]
def Fq(v:Ah)(Iv:Bool):Bool:=Kr v&&(!Iv||v==[])
theorem lR{v:Ah}{Iv:Bool}(h:v.length<=2000000):TC v Iv=some (Fq v Iv):=by simp only[TC,zNf h,Aa,Fq,bne];cases Kr v<;>cases Iv<;>cases(v==[])<;>rfl
theorem rL{k v:Ah}{Iv:Bool}(hk:k.length<=2000000)(hv:v.length<=2000000):X0 k v Iv=some (CP k&&Fq v Iv):=by simp only[X0,Lr hk,tQ hv,Aa,Fq];cases CP k<;>simp
def HH(ks:List Ah)(i:Nat):Bool:=i==0||Op.bytesLess ((ks[i-1]?).getD []) ((ks[i]?).getD [])
def Mc(ks:List Ah):Bool:=(List.range ks.length).all (HH ks)
theorem Uz:∀(a b:Ah),(Op.bytesLess a b||a==b)= !Op.bytesLess b a
 | [],[]=>rfl
 | [],_::_=>rfl
 |_::_,[]=>rfl
 |x::a,y::b=>by
  have ih:=Uz a b;simp only[Op.bytesLess];rcases Nat.lt_trichotomy x.toNat y.toNat with h|h|h
  ·have h1:x<y:=UInt8.lt_iff_toNat_lt.2 h;have h2: ¬y<x:=λh'=>by have:=UInt8.lt_iff_toNat_lt.1 h';omega
   have h3: ¬y=x:=λh'=>by subst h';omega
   simp[h1,h2,h3]
  ·have h0:x=y:=UInt8.toNat_inj.1 h;subst h0;have h1: ¬x<x:=λh'=>by have:=UInt8.lt_iff_toNat_lt.1 h';omega
   rw[show((x::a)==(x::b))=(a==b) by simp];simp only[h1,decide_false,Bool.false_or,beq_self_eq_true,Bool.true_and];exact ih
  ·have h1: ¬x<y:=λh'=>by have:=UInt8.lt_iff_toNat_lt.1 h';omega
   have h2:y<x:=UInt8.lt_iff_toNat_lt.2 h;have h3: ¬x=y:=λh'=>by subst h';omega
   simp[h1,h2,h3]
theorem JV{i:Nat}(h0:0<i)(h:i<=2000000):IntKind.i64.wrap ((i:Int)-1)=((i-1:Nat):Int):=by rw[Cv (by omega) (by omega)];omega
theorem UN{α:Type}(xs:List α)(p:α->Bool)(q r:Nat->Bool)(h:∀(i:Nat) (hi:i<xs.length),r i=(p xs[i]&&q i)):(List.range xs.length).all r=(xs.all p&&(List.range xs.length).all q):=by
 rw[<-zyf xs p (λi=>match xs[i]? with|some x=>p x|none=>true) λi hi=>by simp[hi]];rw[Bool.eq_iff_iff];simp only[Ac,Bd,List.mem_range];constructor
 ·intro hr;exact⟨λi hi=>by have:=hr i hi;rw[h i hi,Ac]at this;simpa[hi]using this.1,λi hi=>by have:=hr i hi;rw[h i hi,Ac]at this;exact this.2⟩
 ·rintro⟨h1,h2⟩ i hi;rw[h i hi,Ac];exact⟨by have:=h1 i hi;simpa[hi]using this,h2 i hi⟩
theorem zrV{ks:List Ah}(h:ks.length<=2000000)(hk:∀k∈ks,k.length<=2000000):Nb ks=some (ks.all CP&&Mc ks):=by
 unfold Nb Mc;rw[F2 (n:=ks.length) (λi=>CP ((ks[i]?).getD [])&&HH ks i) false (some true) ?_ (by simp[wC]),UN ks CP (HH ks) _ λi hi=>by simp[hi]]
 ·cases(ks.all CP&&(List.range ks.length).all (HH ks))<;>rfl
 ·intro i hi;simp only[wC,Int.ofNat_lt,hi,decide_true,if_true,Av hi,Aa,aH (hk _ (Au hi)),BE hi (by omega:ks.length<=_),AM hi,Be,HH];by_cases h0:i=0
  ·subst h0;cases CP ks[0]<;>simp
  ·have hp:(i:Int)>0:=by omega
   have CR:i-1<ks.length:=by omega
   have hb:(i==0)=false:=by simpa using h0
   simp only[hp,decide_true,if_true,JV (Nat.pos_of_ne_zero h0) (by omega:i<=2000000),Av CR,Aa,Uz,AM CR,Be,hb,Bool.false_or];cases CP ks[i]<;>cases Op.bytesLess ks[i-1] ks[i]<;>rfl
theorem zEy{l:List Ai}(h:l.length<=2000000):eC l=some (l.map (·.ab)):=by
 have h1:=DF (xs:=l) (body:=λs:Int × List Ah=>Sq l s.1 s.2) (λi (o:List Ah)=>(i,o)) (λo w=>o++ [w.ab]) (λo=>some o) (λq o=>o.length=q)
  (λi hi o hI=>by
   refine⟨?_,by simp[hI]⟩;show Sq l i o=_;unfold Sq;have hr:((o.length:Int)+(([l[i].ab]:List Ah).length:Int))*16<=140737488355328/\(o.length:Int)+(([l[i].ab]:List Ah).length:Int)<=140737488355328:=by rw[AO,hI];omega
   rw[if_pos (by simpa using hi),Av hi,Aa,AJ hr,BE hi (by omega)]) (λo _=>by
   show Sq l l.length o=_;unfold Sq;rw[if_neg (by simp)]) (s:=[]) rfl
 have hf:∀(l:List Ai) (o:List Ah),l.foldl (λo w=>o++ [w.ab]) o=o++l.map (·.ab):=by
  intro l
  induction l with
  |nil=>intro o;simp
  |cons w l ih=>intro o;rw[List.foldl_cons,ih];simp
 have h2:=h1.1;rw[hf,List.nil_append]at h2;unfold eC;exact h2
def Mh(w:Ai):Bool:=CP w.ab&&Fq w.bf w.bu
def Hz(l:List Ai):Bool:=decide ((l.length:Int)<=24)&&(l.all Mh&&Mc (l.map (·.ab)))
def Rk(l:List Ai):Prop:=l.length<=2000000/\ ∀w∈l,w.ab.length<=2000000/\w.bf.length<=2000000
theorem zCT{l:List Ai}(h:Rk l):XD l=some (Hz l):=by
 have e1:DB l (λy0_=>cO y0_)=some (l.any λw=> !Fq w.bf w.bu):=Ks _ (λw hw=>by simp[cO,lR (h.2 w hw).2]) (by have:=h.1;omega);have e2:=zrV (ks:=l.map (·.ab)) (by simpa using h.1) (by simp only[List.mem_map];rintro k ⟨w,hw,rfl⟩;exact(h.2 w hw).1);simp only[XD,zEy h.1,e1,e2,Aa,Hz,<-List.not_all_eq_any_not];have e3:l.all Mh=((l.map (·.ab)).all CP&&l.all λw=>Fq w.bf w.bu):=by
  rw[Bool.eq_iff_iff];simp only[Bd,Ac,Mh,List.mem_map];constructor
  ·intro h;exact⟨by rintro k ⟨w,hw,rfl⟩;exact(h w hw).1,λw hw=>(h w hw).2⟩
  ·rintro⟨h1,h2⟩ w hw;exact⟨h1 _ ⟨w,hw,rfl⟩,h2 w hw⟩
 rw[e3];generalize (l.map (·.ab)).all CP=b1;generalize Mc (l.map (·.ab))=b2;generalize (l.all λw=>Fq w.bf w.bu)=b3;by_cases hl:(l.length:Int)<=24<;>cases b1<;>cases b2<;>cases b3<;>simp[hl]
theorem zCZ{l:List Ai}(h:Rk l):X3 l=some (Hz l):=by
 unfold X3;have hn:=h.1;rw[F2 (n:=l.length) (λi=>Mh ((l[i]?).getD ⟨[],[],false⟩)&&HH (l.map (·.ab)) i) false (wW l) ?_ (by simp[wQ]),UN l Mh (HH (l.map (·.ab))) _ λi hi=>by simp[hi]]
 ·unfold wW Hz Mc;rw[List.length_map];cases(l.all Mh&&(List.range l.length).all (HH (l.map (·.ab))))<;>simp
 ·intro i hi;have hm:=h.2 _ (Au hi);simp only[wQ,Int.ofNat_lt,hi,decide_true,if_true,Av hi,Aa,rL hm.1 hm.2,BE hi (by omega:l.length<=_),AM hi,Be,HH,List.getElem?_map,Option.map_some];rw[show(CP l[i].ab&&Fq l[i].bf l[i].bu)=Mh l[i]from rfl];by_cases h0:i=0
  ·subst h0;cases Mh l[0]<;>simp
  ·have hp:(i:Int)>0:=by omega
   have CR:i-1<l.length:=by omega
   have hb:(i==0)=false:=by simpa using h0
   simp only[hp,decide_true,if_true,JV (Nat.pos_of_ne_zero h0) (by omega:i<=2000000),Av CR,Aa,AM CR,Option.map_some,Be,hb,Bool.false_or];cases Mh l[i]<;>cases Op.bytesLess l[i-1].ab l[i].ab<;>rfl
def O6(l:List Ai):Bool:=Hz l&&l.all λw=> !w.bu
theorem zN4{l:List Ai}(h:Rk l):jB l=some (O6 l):=by
 have hn:=h.1;unfold jB;rw[Jd (xs:=l) (λw=> !w.bu) false (yJ l) (λi hi=>by simp only[yI,Int.ofNat_lt,hi,decide_true,if_true,Av hi,Aa,BE hi (by omega:l.length<=_)];cases l[i].bu<;>rfl) (by simp[yI])]
 simp only[yJ,zCZ h,Aa,O6];cases(l.all λw=> !w.bu)<;>simp
def small(b:UInt8):Bool:= !(decide ((b.toNat:Int)<97)||decide ((b.toNat:Int)>122))
def Fp(s:Ah)(n:Int):Bool:=s.all small&&Aw s.length 1 n
theorem zt7{s:Ah}{n:Int}(h:s.length<=2000000):SJ s n=some (Fp s n):=by
 unfold SJ;rw[Jd (xs:=s) small false (vV s n) (λi hi=>by simp only[vN,Int.ofNat_lt,hi,decide_true,if_true,Av hi,Aa,BE hi (by omega:s.length<=_)];rw[show(decide ((s[i].toNat:Int)<97)||decide ((s[i].toNat:Int)>122))= !small s[i] by simp[small]];cases small s[i]<;>rfl) (by simp[vN])]
 unfold vV Fp Aw;cases s.all small<;>simp
theorem zuR{s:Ah}{n:Int}(h:s.length<=2000000):SU s n=some (Fp s n):=by
 unfold SU;rw[Jd (xs:=s) small false (vT s n) (λi hi=>by simp only[vU,Int.ofNat_lt,hi,decide_true,if_true,Av hi,Aa,BE hi (by omega:s.length<=_)];rw[show(decide ((s[i].toNat:Int)<97)||decide ((s[i].toNat:Int)>122))= !small s[i] by simp[small]];cases small s[i]<;>rfl) (by simp[vU])]
 simp only[vT,Fm,Aa,Fp];cases s.all small<;>simp
theorem zQ3{xs:List Ah}{s:Ah}(h:xs.length<=2000000):jM xs s=some (Cy (· ==s) xs):=by unfold jM;refine lW (· ==s) (λi hi=> ?_) (by simp[zS]);simp only[zS,Int.ofNat_lt,hi,decide_true,if_true,Av hi,Aa,BE hi (by omega:xs.length<=_)];cases xs[i]==s<;>rfl
theorem zLZ{xs:List Ah}{s:Ah}(h:xs.length<=2000000):bW xs s=some (Cy (· ==s) xs):=by unfold bW;refine lW (· ==s) (λi hi=> ?_) (by simp[u9]);simp only[u9,Int.ofNat_lt,hi,decide_true,if_true,Av hi,Aa,BE hi (by omega:xs.length<=_)];rw[show(s==xs[i])=(xs[i]==s)from BEq.comm];cases xs[i]==s<;>rfl
theorem zNt(xs:List Ah)(s:Ah):(xs.any λx=>x==s)=xs.contains s:=by rw[List.contains_eq_any_beq];congr 1;funext x;exact BEq.comm
theorem zNi{xs:List Ah}{s:Ah}(h:xs.length<=2000000):Xn xs s=some (xs.contains s):=by simp only[Xn,zLZ h,Aa,Uv,zNt]
def Qf(cs:List Ah)(i:Nat):Bool:=Fp ((cs[i]?).getD []) 3&& !(cs.take i).contains ((cs[i]?).getD [])
def Rb(cs:List Ah):Bool:=(List.range cs.length).all (Qf cs)
def Jl(t:An)(i:Nat):Bool:=
 let x:=(t.aj[i]?).getD ⟨[],0,0⟩
 Fp x.ae 1&&Aw x.dk 1 ((t.bd.length:Int)-1)&&Aw x.bh 0 3&&(i==0||Op.bytesLess ((t.aj[i-1]?).getD ⟨[],0,0⟩).ae x.ae)
def Eu(t:An):Bool:=Fp t.ae 1&&(Rb t.bd&&Aw t.bd.length 2 4)&&decide ((t.aj.length:Int)<=3)&&(List.range t.aj.length).all (Jl t)
structure D3(t:An):Prop where
 name:t.ae.length<=2000000
 ji:t.bd.length<=2000000
 pg:∀c∈t.bd,c.length<=2000000
 idxs:t.aj.length<=2000000
 idx:∀x∈t.aj,x.ae.length<=2000000
theorem W5{α:Type}(xs:List α)(i:Nat):A1 xs 0 i=xs.take i:=by simp[A1]
theorem zOM{cs:List Ah}(h:cs.length<=2000000)(hc:∀c∈cs,c.length<=2000000):gD cs=some (Rb cs&&Aw cs.length 2 4):=by
 unfold gD;rw[F2 (n:=cs.length) (Qf cs) false (xA cs) ?_ (by simp[xB])]
 ·simp only[xA,ER,Aa,Rb];cases(List.range cs.length).all (Qf cs)<;>simp
 ·intro i hi;unfold xB Qf;rw[if_pos (by simpa using hi),Av hi,Aa,zt7 (hc _ (Au hi)),Aa,AJ (by omega),W5,zQ3 (by rw[AI];omega),Aa,Uv,zNt,BE hi (by omega)];simp only[AM hi,Be];cases Fp cs[i] 3<;>cases(cs.take i).contains cs[i]<;>rfl
theorem Uu{t:An}(h:D3 t):OQ t=some (Eu t):=by
 have hw:=Cv (n:=(t.bd.length:Int)-1) (by omega) (by have:=h.ji;omega);have hn:=h.idxs;have hl:Ao (λs:Int=>cP t s) 0=some ((List.range t.aj.length).all (Jl t)):=by
  rw[F2 (n:=t.aj.length) (Jl t) false (some true) ?_ (by simp[cP])]
  ·cases(List.range t.aj.length).all (Jl t)<;>rfl
  ·intro i hi;unfold Jl;simp only[cP,Int.ofNat_lt,hi,decide_true,if_true,Av hi,Aa,zt7 (h.idx _ (Au hi)),ER,hw,BE hi (by omega:t.aj.length<=_),AM hi,Be];by_cases h0:i=0
   ·subst h0;cases Fp t.aj[0].ae 1<;>cases Aw t.aj[0].dk 1 ((t.bd.length:Int)-1)<;>cases Aw t.aj[0].bh 0 3<;>rfl
   ·have hp:(i:Int)>0:=by omega
    have CR:i-1<t.aj.length:=by omega
    have hb:(i==0)=false:=by simpa using h0
    simp only[hp,decide_true,if_true,JV (Nat.pos_of_ne_zero h0) (by omega:i<=2000000),Av CR,Aa,AM CR,Be,hb,Bool.false_or];cases Fp t.aj[i].ae 1<;>cases Aw t.aj[i].dk 1 ((t.bd.length:Int)-1)<;>cases Aw t.aj[i].bh 0 3<;>cases Op.bytesLess t.aj[i-1].ae t.aj[i].ae<;>rfl
 unfold OQ Eu;rw[zt7 h.name,Aa,zOM h.ji h.pg,hl];by_cases hk:(t.aj.length:Int)<=3
 ·have Cf: ¬(t.aj.length:Int)>3:=by omega
  simp only[hk,Cf,decide_true,decide_false,Bool.or_false,Bool.and_true];cases Fp t.ae 1<;>cases(Rb t.bd&&Aw t.bd.length 2 4)<;>simp
 ·have Cf:(t.aj.length:Int)>3:=by omega
  simp only[hk,Cf,decide_true,decide_false,Bool.or_true,Bool.and_false,Bool.false_and];cases Fp t.ae 1<;>simp
theorem zLa{t:An}(h:D3 t):eE t=some (Eu t):=by
 have hw:=Cv (n:=(t.bd.length:Int)-1) (by omega) (by have:=h.ji;omega);have hn:=h.idxs;have hm:=h.ji;have hl:Ao (λs:Int=>dK t s) 0=some ((List.range t.aj.length).all (Jl t)):=by
  rw[F2 (n:=t.aj.length) (Jl t) false (some true) ?_ (by simp[dK])]
  ·cases(List.range t.aj.length).all (Jl t)<;>rfl
  ·intro i hi;unfold Jl;simp only[dK,zok,Int.ofNat_lt,hi,decide_true,if_true,Av hi,Aa,zuR (h.idx _ (Au hi)),Fm,hw,BE hi (by omega:t.aj.length<=_),AM hi,Be];by_cases h0:i=0
   ·subst h0;cases Fp t.aj[0].ae 1<;>cases Aw t.aj[0].dk 1 ((t.bd.length:Int)-1)<;>cases Aw t.aj[0].bh 0 3<;>rfl
   ·have hp:(i:Int)>0:=by omega
    have CR:i-1<t.aj.length:=by omega
    have hb:(i==0)=false:=by simpa using h0
    simp only[hp,decide_true,if_true,JV (Nat.pos_of_ne_zero h0) (by omega:i<=2000000),Av CR,Aa,AM CR,Be,hb,Bool.false_or,Uz];cases Fp t.aj[i].ae 1<;>cases Aw t.aj[i].dk 1 ((t.bd.length:Int)-1)<;>cases Aw t.aj[i].bh 0 3<;>cases Op.bytesLess t.aj[i-1].ae t.aj[i].ae<;>rfl
 have hc:Ao (λs:Int=>dH t s) 0=some (Rb t.bd&&(List.range t.aj.length).all (Jl t)):=by
  rw[F2 (n:=t.bd.length) (Qf t.bd) false (wB t) ?_ (by simp[dH])]
  ·unfold wB Rb;rw[hl];cases(List.range t.bd.length).all (Qf t.bd)<;>simp
  ·intro i hi;unfold dH Qf;rw[if_pos (by simpa using hi),Av hi,Aa,zuR (h.pg _ (Au hi)),Aa,AJ (by omega),W5,zNi (by rw[AI];omega),Aa,BE hi (by omega)];simp only[AM hi,Be];cases Fp t.bd[i] 3<;>cases(t.bd.take i).contains t.bd[i]<;>rfl
 unfold eE Eu;rw[zuR h.name,Aa,Fm,Aa,hc];by_cases hk:(t.aj.length:Int)<=3
 ·have Cf: ¬(t.aj.length:Int)>3:=by omega
  simp only[hk,Cf,decide_true,decide_false,Bool.or_false,Bool.and_true];cases Fp t.ae 1<;>cases Rb t.bd<;>cases Aw t.bd.length 2 4<;>simp
 ·have Cf:(t.aj.length:Int)>3:=by omega
  simp only[hk,Cf,decide_true,decide_false,Bool.or_true,Bool.and_false,Bool.false_and];cases Fp t.ae 1<;>simp
theorem UQ{t:An}{s:Ah}(h:D3 t):OU t s=some (Cy (λx:A5=>x.ae==s) t.aj):=by have hn:=h.idxs;unfold OU;refine lW (λx:A5=>x.ae==s) (λi hi=> ?_) (by simp[yH]);simp only[yH,Int.ofNat_lt,hi,decide_true,if_true,Av hi,Aa,BE hi (by omega:t.aj.length<=_)];cases t.aj[i].ae==s<;>rfl
theorem WD{t:An}{s:Ah}(h:D3 t):SG t s=some (Cy (λx:A5=>x.ae==s) t.aj):=by have hn:=h.idxs;have e:FK t.aj (λy0_=>vE y0_ s)=some (Cy (λx:A5=>x.ae==s) t.aj):=zC4 (λx:A5=>x.ae==s) (λx _=>rfl) (by omega);simp only[SG,e,Aa]
def Dj(c:UInt8):Ah->List Ah
 | []=> [[]]
 |b::s=>if b=c then []::Dj c s else(match Dj c s with| []=> [[b]]|x::xs=>(b::x)::xs)
theorem kZ(c:UInt8)(s:Ah):Dj c s≠ []:=by
 cases s with
 |nil=>simp[Dj]
 |cons b s=>simp only[Dj];split;simp;split<;>simp
theorem QV{c:UInt8}:∀{s:Ah},(∀b∈s,b≠c)->Dj c s=[s]
 | [],_=>rfl
 |b::s,h=>by have e:=QV (c:=c) (s:=s) λx hx=>h x (List.mem_cons_of_mem _ hx);simp only[Dj,if_neg (h b (by simp)),e]
theorem Nj{c:UInt8}:∀{p q:Ah},(∀b∈p,b≠c)->Dj c (p++c::q)=p::Dj c q
 | [],q,_=>by simp[Dj]
 |b::p,q,h=>by have e:=Nj (c:=c) (p:=p) (q:=q) λx hx=>h x (List.mem_cons_of_mem _ hx);simp only[List.cons_append,Dj,if_neg (h b (by simp)),e]
theorem zHt(c:UInt8)(s:Ah):(Dj c s).length=s.count c+1:=by
 induction s with
 |nil=>rfl
 |cons b s ih=>
  simp only[Dj];by_cases h:b=c
  ·subst h;simp[ih]
  ·rw[if_neg h,List.count_cons_of_ne h];cases hs:Dj c s with
   |nil=>exact absurd hs (kZ c s)
   |cons x xs=>rw[hs]at ih;simpa using ih
theorem Xi{α:Type}(xs:List α)(i j:Nat):A1 xs (i:Int) (j:Int)=(xs.take j).drop i:=by simp[A1]
def bC(c:UInt8)(s:Ah)(t:List Ah × Nat)(i:Nat):List Ah × Nat:=if(s[i]?).getD 0=c then(t.1++ [(s.take i).drop t.2],i+1)else t
theorem zFE{s:Ah}{c:UInt8}(h:s.length<=2000000):TU s c.toNat=some (Dj c s):=by
 have h1:=DF (xs:=List.range s.length) (body:=λt:List Ah × Int × Int=>SM s c.toNat t.1 t.2.1 t.2.2) (λi (t:List Ah × Nat)=>(t.1,(t.2:Int),i)) (bC c s) (λt=>xI s t.2 t.1)
  (λi t=>t.2<=i/\(∀b∈(s.take i).drop t.2,b≠c)/\t.1++Dj c (s.drop t.2)=Dj c s/\t.1.length<=i)
  (λi hi t hI=>by
   rw[List.length_range]at hi;obtain⟨I1,I2,I3,I4⟩:=hI;have hw:=BE hi (by omega:s.length<=_);rw[List.getElem_range];constructor
   ·show SM s c.toNat t.1 t.2 i=_;unfold SM bC;rw[if_pos (by simpa using hi),Av hi,Aa,zPk,hw,Xi,AM hi,Be];by_cases hc:s[i]=c
    ·have hr:((t.1.length:Int)+(([(s.take i).drop t.2]:List Ah).length:Int))*16<=140737488355328/\(t.1.length:Int)+(([(s.take i).drop t.2]:List Ah).length:Int)<=140737488355328:=by
      rw[AO];omega
     rw[if_pos (by simpa using hc),AJ (by omega),AJ hr,if_pos hc]
    ·rw[if_neg (by simpa using hc),if_neg hc]
   ·unfold bC;rw[AM hi,Be];have CJ:s.take (i+1)=s.take i++ [s[i]]:=by rw[List.take_succ_eq_append_getElem hi]
    have hd:(s.take (i+1)).drop t.2=(s.take i).drop t.2++ [s[i]]:=by rw[CJ,List.drop_append_of_le_length (by rw[AI];omega)]
    by_cases hc:s[i]=c
    ·rw[if_pos hc];refine⟨AF _,by simp,?_,by simp;omega⟩;have e:s.drop t.2=(s.take i).drop t.2++c::s.drop (i+1):=by
      have e0:s.drop t.2=(s.take i).drop t.2++s.drop i:=by
       conv=>lhs;rw[<-B6 i s]
       rw[List.drop_append_of_le_length (by rw[AI];omega)]
      rw[e0,Bw hi,hc]
     rw[e,Nj I2]at I3;simpa using I3
    ·rw[if_neg hc];refine⟨by omega,?_,I3,by omega⟩;rw[hd];intro b hb;rcases Ae.1 hb with hb|hb
     ·exact I2 b hb
     ·simp at hb;subst hb;exact hc)
  (λt hI=>by show SM s c.toNat t.1 t.2 ((List.range s.length).length:Nat)=_;unfold SM;rw[if_neg (by simp)]) (s:=([],0)) ⟨AF _,by simp,by simp,by simp⟩
 generalize (List.range s.length).foldl (bC c s) ([],0)=t at h1;rw[List.length_range]at h1;obtain⟨h2,I1,I2,I3,I4⟩:=h1;unfold TU;refine Eq.trans h2 ?_;unfold xI;have hw:A1 s (t.2:Int) (s.length:Int)=s.drop t.2:=by rw[Xi,List.take_length]
 have hr:((t.1.length:Int)+(([s.drop t.2]:List Ah).length:Int))*16<=140737488355328/\(t.1.length:Int)+(([s.drop t.2]:List Ah).length:Int)<=140737488355328:=by rw[AO];omega
 rw[hw,AJ (by omega),AJ hr,<-I3];rw[List.take_length]at I2;rw[QV I2]
theorem X1(l:Ah)(c:UInt8):(Lib.indexByte l c= -1/\ ∀b∈l,b≠c)\/ ∃p q:Ah,l=p++c::q/\(∀b∈p,b≠c)/\Lib.indexByte l c=p.length:=by
 induction l with
 |nil=>exact .inl ⟨rfl,by simp⟩
 |cons b l ih=>
  unfold Lib.indexByte;by_cases hb:b=c
  ·subst hb;exact .inr ⟨[],l,by simp,by simp,by simp⟩
  ·have h1:(b==c)=false:=by simpa using hb
   rw[h1];simp only[A6,if_false];rcases ih with⟨e,h⟩|⟨p,q,rfl,h,e⟩
   ·refine .inl ⟨by simp[e],λx hx=> ?_⟩;rcases Ag.1 hx with rfl|hx
    ·exact hb
    ·exact h x hx
   ·refine .inr ⟨b::p,q,by simp,λx hx=> ?_,?_⟩
    ·rcases Ag.1 hx with rfl|hx
     ·exact hb
     ·exact h x hx
    ·rw[e];have:((p.length:Int)== -1)=false:=by rw[beq_eq_false_iff_ne];omega
     rw[this];simp
def field(s:Ah):Bool:=Aw s.length 1 3&&Pf s []
theorem YJ{s:Ah}(h:s.length<=2000000):TN s=some (field s):=by simp only[TN,ER,Aa,zwC h (more:=[]) (by decide),field];cases Aw s.length 1 3<;>simp
theorem Uq{s:Ah}(h:s.length<=2000000):TS s=some (field s):=by simp only[TS,Fm,Aa,zub h,field];cases Aw s.length 1 3<;>simp
theorem zJq(sep x y:Ah)(r:List Ah):Lib.join (x::(r++ [y])) sep=Lib.join (x::r) sep++sep++y:=by rw[Lib.join_cons,Lib.join_cons];simp[Lib.joinTail]
theorem zJL{xs:List Ah}{sep:Ah}{i:Nat}(hi:i<xs.length):Lib.join (xs.take (i+1)) sep=if i=0 then xs[i]else Lib.join (xs.take i) sep++sep++xs[i]:=by
 rw[List.take_succ_eq_append_getElem hi];cases xs with
 |nil=>simp at hi
 |cons x xs=>
  cases i with
  |zero=>simp[Lib.join_cons,Lib.joinTail]
  |succ i=>rw[List.take_succ_cons,List.cons_append,zJq,if_neg (by omega)]
def FB:List Ah->Nat
 | []=>0
 |x::xs=>x.length+FB xs
theorem zFW(xs:List Ah)(sep:Ah):(Lib.join xs sep).length<=FB xs+xs.length*sep.length:=by
 cases xs with
 |nil=>simp[Lib.join_nil]
 |cons x xs=>
  rw[Lib.join_cons,Aq];have:∀r:List Ah,(Lib.joinTail sep r).length=FB r+r.length*sep.length:=by
   intro r
   induction r with
   |nil=>simp[Lib.joinTail,FB]
   |cons y r ih=>
    have e:Lib.joinTail sep (y::r)=sep++y++Lib.joinTail sep r:=by simp[Lib.joinTail]
    rw[e,Aq,Aq,ih,FB,AE,Nat.succ_mul];omega
  rw[this,FB,AE,Nat.succ_mul];omega
theorem zFd(xs:List Ah)(i:Nat):FB (xs.take i)<=FB xs:=by
 induction xs generalizing i with
 |nil=>simp[FB]
 |cons x xs ih=>
  cases i with
  |zero=>simp[FB]
  |succ i=>simp only[List.take_succ_cons,FB];have:=ih i;omega
theorem zz9{xs:List Ah}{i:Nat}(hi:i<xs.length):xs[i].length<=FB xs:=by
 induction xs generalizing i with
 |nil=>simp at hi
 |cons x xs ih=>
  cases i with
  |zero=>simp[FB]
  |succ i=>simp only[List.getElem_cons_succ,FB];have:=ih (i:=i) (by simpa using hi);omega
def Small(xs:List Ah):Prop:=xs.length<=2000000/\FB xs<=2000000
theorem zN6{xs:List Ah}{c:UInt8}(h:Small xs):zot xs [c]=some (Lib.join xs [c]):=by
 obtain⟨h1,h2⟩:=h;have hl:=DF (xs:=List.range xs.length) (body:=λs:Ah × Int=>Tx xs [c] s.1 s.2) (λi (o:Ah)=>(o,i)) (λo i=>if i=0 then(xs[i]?).getD []else o++ [c]++(xs[i]?).getD []) (λo=>some o) (λi o=>o=Lib.join (xs.take i) [c])
  (λi hi o hI=>by
   rw[List.length_range]at hi;rw[List.getElem_range];have hI:o=Lib.join (xs.take i) [c]:=hI;have hlen:o.length<=1010000000:=by have e1:=zFW (xs.take i) [c];have e2:=zFd xs i;rw[AI,AO,Nat.mul_one]at e1;rw[hI];omega
   have hg:=zz9 hi;have hw:=BE hi (by omega:xs.length<=_);rw[AM hi,Be];refine⟨?_,by show _=_;rw[zJL hi,hI]⟩;show Tx xs [c] o i=_;unfold Tx;rw[if_pos (by simpa using hi),Av hi,Aa,hw];by_cases h0:i=0
   ·subst h0;have ho:o=[]:=by rw[hI];rfl
    subst ho;rw[if_neg (by simp),AJ (by simp;omega),if_pos rfl];rfl
   ·rw[if_pos (by simp;omega),AJ (by rw[AO];omega),AJ (by rw[Aq,AO];omega),if_neg h0])
  (λo _=>by show Tx xs [c] o ((List.range xs.length).length:Nat)=_;unfold Tx;rw[if_neg (by simp)]) (s:=[]) (by simp[Lib.join_nil])
 generalize (List.range xs.length).foldl (λo i=>if i=0 then(xs[i]?).getD []else o++ [c]++(xs[i]?).getD []) []=o at hl;obtain⟨h3,h4⟩:=hl;have h4:o=Lib.join (xs.take (List.range xs.length).length) [c]:=h4;rw[List.length_range,List.take_length]at h4;subst h4;exact h3
theorem zNF{xs:List Ah}{c:UInt8}(h:Small xs):gL xs [c]=some (Lib.join xs [c]):=by obtain⟨h1,h2⟩:=h;have:=zFW xs [c];rw[AO,Nat.mul_one]at this;exact AJ ⟨by omega,by omega⟩
theorem Small.each{xs:List Ah}(h:Small xs):∀x∈xs,x.length<=2000000:=by intro x hx;obtain⟨i,hi,rfl⟩:=List.getElem_of_mem hx;exact Nat.le_trans (zz9 hi) h.2
def HQ(t:An)(r:CD):Bool:=((r.bb.length:Int)==t.bd.length)&&r.bb.all field
theorem Yq{t:An}{r:CD}(h:Small r.bb):OS t r=some (HQ t r):=by
 have h1:=h.1;unfold OS;rw[Jd (xs:=r.bb) field false (yB t r) (λi hi=>by simp only[xJ,Int.ofNat_lt,hi,decide_true,if_true,Av hi,Aa,YJ (h.each _ (Au hi)),BE hi (by omega:r.bb.length<=_)];cases field r.bb[i]<;>rfl) (by simp[xJ])]
 unfold yB HQ;cases r.bb.all field<;>simp
theorem Yo{t:An}{r:CD}(h:Small r.bb):OJ t r=some (HQ t r):=by have e:DB r.bb (λy0_=>cK y0_)=some (r.bb.any λs=> !field s):=Ks _ (λs hs=>by simp[cK,Uq (h.each s hs)]) (by have:=h.1;omega);simp only[OJ,e,Aa,HQ,<-List.not_all_eq_any_not];cases((r.bb.length:Int)==t.bd.length)<;>simp
def EX(t:An)(r:CD):Ai:=⟨t.ae++ [47]++(r.bb.head?).getD [],Lib.join r.bb.tail [44],false⟩
theorem zRr{α:Type}(xs:List α):A1 xs 1 (xs.length:Int)=xs.tail:=by simp[A1]
theorem Small.tail{xs:List Ah}(h:Small xs):Small xs.tail:=by
 cases xs with
 |nil=>exact h
 |cons x xs=>exact⟨by have:=h.1;simp at this ⊢;omega,by have:=h.2;simp only[FB,List.tail_cons]at this ⊢;omega⟩
theorem Z7{t:An}{r:CD}(ht:t.ae.length<=2000000)(h:Small r.bb)(hn:r.bb≠ []):QP t r=some (EX t r):=by obtain⟨x,xs,hx⟩:=List.exists_cons_of_ne_nil hn;have LN:x.length<=2000000:=h.each x (by simp[hx]);unfold QP EX;rw[AJ (by rw[AO];omega),zRr,zN6 h.tail,hx];rw[show Ak (x::xs) 0=some x from rfl,Aa,AJ (by rw[Aq,AO];omega),AJ (by simp only[AE];omega),Aa];rfl
theorem Zb{t:An}{r:CD}(ht:t.ae.length<=2000000)(h:Small r.bb)(hn:r.bb≠ []):Se t r=some (EX t r):=by obtain⟨x,xs,hx⟩:=List.exists_cons_of_ne_nil hn;have LN:x.length<=2000000:=h.each x (by simp[hx]);unfold Se EX;rw[AJ (by rw[AO];omega),zRr,zNF h.tail,hx];rw[show Ak (x::xs) 0=some x from rfl,Aa,AJ (by rw[Aq,AO];omega),AJ (by simp only[AE];omega),Aa];rfl
theorem zCy(c:UInt8)(s:Ah):FB (Dj c s)<=s.length:=by
 induction s with
 |nil=>simp[Dj,FB]
 |cons b s ih=>
  simp only[Dj];split
  ·simp only[FB,List.length_nil,AE];omega
  ·cases hs:Dj c s with
   |nil=>exact absurd hs (kZ c s)
   |cons x xs=>rw[hs]at ih;simp only[FB,AE]at ih ⊢;omega
theorem zx0{c:UInt8}{s:Ah}(h:s.length<=1000000):Small (Dj c s):=by have h1:=zHt c s;have h2:s.count c<=s.length:=List.count_le_length;have h3:=zCy c s;exact⟨by omega,by omega⟩
theorem zQb{s p:Ah}(hs:s.length<=2000000):dM s p=some (if p.isPrefixOf s=true then(s.drop p.length,true)else(s,false)):=by
 have e:bV s p=some (p.isPrefixOf s):=by
  unfold bV;by_cases hl:p.length<=s.length
  ·rw[if_pos (by simpa using hl),AJ (by omega),W5];congr 1;rw[Bool.eq_iff_iff,Az,List.isPrefixOf_iff_prefix,List.prefix_iff_eq_take];exact eq_comm
  ·rw[if_neg (by simpa using hl)];congr 1;symm;rw[<-Bool.not_eq_true,List.isPrefixOf_iff_prefix];intro h;exact hl h.length_le
 unfold dM u6;rw[e,Aa];cases hp:p.isPrefixOf s with
 |false=>simp
 |true=>have hl:=(List.isPrefixOf_iff_prefix.1 hp).length_le;simp only[Bool.not_true,A6,if_false,if_true];rw[AJ (by omega),Xi,List.take_length];rfl
def zQ5(a b:Ai):Bool:=a.ab==b.ab&&(a.bf==b.bf&&(a.bu==b.bu))
def tU(w:Ai):CD:=⟨w.ab.drop 2::Dj 44 w.bf⟩
def zOS(t:An)(w:Ai):Bool:=HQ t (tU w)&&zQ5 (EX t (tU w)) w
def uG(w:Ai):Prop:=w.ab.length<=1000/\w.bf.length<=1000
theorem zzI{α β:Type}(p:α->Bool)(f:α->β)(l:List α)(o:List β):l.foldl (λo x=>if p x=true then o++ [f x]else o) o=o++(l.filter p).map f:=by
 induction l generalizing o with
 |nil=>simp
 |cons x l ih=>rw[List.foldl_cons,ih,List.filter_cons];cases p x<;>simp
def FM(t:An)(l:List Ai):List CD:=(l.filter (zOS t)).map tU
def head(t:An)(n:Ah):Ah:=t.ae++ [46]++n
def Em(t:An)(n k:Ah):Bool:=match Dj 47 k with
 | [x,y,z]=>x==head t n&&field y&&field z
 |_=>false
theorem zK9{t:An}{n k:Ah}(ht:t.ae.length<=2000000)(hn:n.length<=2000000)(hk:k.length<=1000000):∃a b,QE t n k=some (a,b,Em t n k):=by
 have JN:=zx0 (c:=47) hk;have he:TU k 47=some (Dj 47 k):=zFE (c:=47) (by omega);unfold QE Em;rw[he,Aa];generalize Dj 47 k=ps at JN
 match ps,JN with
 | [],_=>exact⟨_,_,by rw[if_pos (by simp)]⟩
 | [_],_=>exact⟨_,_,by rw[if_pos (by simp)]⟩
 | [_,_],_=>exact⟨_,_,by rw[if_pos (by simp)]⟩
 |_::_::_::_::l,_=>exact⟨_,_,by rw[if_pos (by simp;omega)]⟩
 | [x,y,z],JN=>
  have hy:=JN.each y (by simp);have hz:=JN.each z (by simp);dsimp only;rw[if_neg (by simp),show Ak [x,y,z] 0=some x from rfl,Aa,AJ (by rw[AO];omega),AJ (by rw[Aq,AO];omega)];rw[show(t.ae++ [46]++n)=head t n from rfl];by_cases hx:x=head t n
  ·rw[if_neg (by simp[hx]),show Ak [x,y,z] 1=some y from rfl,Aa,YJ hy,Aa];have RC:(x==head t n)=true:=by simpa using hx
   rw[RC];cases field y with
   |false=>exact⟨_,_,by rw[if_neg (by simp)];rfl⟩
   |true=>
    rw[if_pos rfl,show Ak [x,y,z] 2=some z from rfl,Aa,YJ hz,Aa];cases field z with
    |false=>exact⟨_,_,by rw[if_pos (by simp)];rfl⟩
    |true=>exact⟨_,_,by rw[if_neg (by simp)];rfl⟩
  ·have RC:(x==head t n)=false:=by simpa using hx
   rw[RC];exact⟨_,_,by rw[if_pos (by simpa[bne]using RC)];rfl⟩
theorem zHs{c:UInt8}{s x y:Ah}{r:List Ah}(h:Dj c s=x::y::r):∃q,s=x++c::q:=by
 rcases X1 s c with⟨_,h0⟩|⟨p,q,rfl,hp,_⟩
 ·rw[QV h0]at h;simp at h
 ·rw[Nj hp]at h;obtain⟨rfl,_⟩:=List.cons.inj h;exact⟨q,rfl⟩
theorem tP{x:Ah}{c:UInt8}(hx:x.length<=2000000):(TZ x [c]=some (x,[],false)/\ ∀b∈x,b≠c)\/ ∃p q,x=p++c::q/\(∀b∈p,b≠c)/\TZ x [c]=some (p,q,true):=by
 have hi:cA x [c]=some (Lib.indexByte x c):=rfl;rcases X1 x c with⟨e,h0⟩|⟨p,q,rfl,hp,e⟩
 ·refine .inl ⟨?_,h0⟩;unfold TZ bY;rw[hi,Aa,e,if_neg (by simp)];rfl
 ·refine .inr ⟨p,q,rfl,hp,?_⟩;rw[Aq,AE]at hx;have hw:IntKind.i64.wrap ((p.length:Int)+(([c]:Ah).length:Int))=((p.length+1:Nat):Int):=by rw[AO,Cv (by omega) (by omega)];omega
  unfold TZ bY;rw[hi,Aa,e,if_pos (by simp),AJ (by rw[Aq,AE];omega),hw,AJ (by rw[Aq,AE];omega),W5,Xi,List.take_length];have e1:(p++c::q).drop (p.length+1)=q:=by simp
  have e2:(p++c::q).take p.length=p:=by simp
  rw[e1,e2];rfl
theorem zLR{s:Ah}(h:(47:UInt8)∈s):field s=false:=by
 unfold field Pf;have:(s.all λb=>Kv b||([]:Ah).contains b)=false:=by rw[List.all_eq_false];exact⟨47,h,by decide⟩
 rw[this,Bool.and_false]
theorem sG{t:An}{n:Ah}(ht:t.ae.length<=2000000)(hn:n.length<=2000000):Xo t n=some (head t n++ [47]):=by unfold Xo head;rw[AJ (by rw[AO];omega),AJ (by rw[Aq,AO];omega),AJ (by rw[Aq,Aq,AO,AO];omega)]
theorem zMv{t:An}{n k:Ah}(ht:t.ae.length<=2000000)(hn:n.length<=2000000)(hk:k.length<=1000000)(hh:∀b∈head t n,b≠47):∃a b,Qw t n k=some (a,b,Em t n k):=by
 unfold Qw;rw[sG ht hn,Aa,zQb (by omega),Aa];cases hp:(head t n++ [47]).isPrefixOf k with
 |false=>
  have DQ:Em t n k=false:=by
   unfold Em;split
   ·rename_i x y z hs;cases hx:x==head t n with
    |false=>simp
    |true=>obtain⟨q,hq⟩:=zHs hs;rw[<-Bool.not_eq_true,List.isPrefixOf_iff_prefix]at hp;refine absurd ⟨q,?_⟩ hp;rw[hq,(by simpa using hx:x=head t n)];simp
   ·rfl
  rw[DQ];simp only[A6,if_false];rcases tP (x:=k) (c:=47) (by omega)with⟨e,_⟩|⟨p,q,_,_,e⟩
  ·rw[e];exact⟨_,_,rfl⟩
  ·rw[e];exact⟨_,_,rfl⟩
 |true=>
  obtain⟨rest,DS⟩:=List.isPrefixOf_iff_prefix.1 hp;have ZB:k=head t n++47::rest:=by rw[<-DS];simp
  have hd:k.drop (head t n++ [47]).length=rest:=by rw[<-DS,List.drop_left]
  have P4:Dj 47 k=head t n::Dj 47 rest:=by rw[ZB,Nj hh]
  have hlen:rest.length<=1000000:=by
   have:k.length=(head t n).length+(rest.length+1):=by rw[ZB,Aq,AE]
   omega
  simp only[if_true,hd];unfold Em;rw[P4];rcases tP (x:=rest) (c:=47) (by omega)with⟨e,h0⟩|⟨p,q,rfl,Rx,e⟩
  ·rw[e,QV h0];exact⟨_,_,rfl⟩
  ·rw[e,Nj Rx,Aa];rw[Aq,AE]at hlen;simp only[if_true];rw[Uq (s:=p) (by omega),Aa];rcases X1 q 47 with⟨_,h0⟩|⟨p3,q3,rfl,hp3,_⟩
   ·rw[QV h0];dsimp only;rw[beq_self_eq_true,Bool.true_and];cases field p with
    |false=>exact⟨_,_,rfl⟩
    |true=>
     rw[if_pos rfl,Uq (s:=q) (by omega),Aa];cases field q with
     |false=>exact⟨_,_,rfl⟩
     |true=>exact⟨_,_,rfl⟩
   ·have hf:field (p3++47::q3)=false:=zLR (by simp);rw[Nj hp3];cases hq:Dj 47 q3 with
    |nil=>exact absurd hq (kZ _ _)
    |cons x xs=>
     dsimp only;cases field p with
     |false=>exact⟨_,_,rfl⟩
     |true=>rw[if_pos rfl,Uq (by rw[Aq,AE]at hlen ⊢;omega),Aa,hf];exact⟨_,_,rfl⟩
def Jg(t:An)(n:Ah)(l:List Ai):List Ah:=(l.filter λw=>Em t n w.ab).map (·.ab)
theorem zGV{t:An}{n:Ah}{l:List Ai}(ht:t.ae.length<=2000000)(hn:n.length<=2000000)(hl:l.length<=2000000)(h:∀w∈l,uG w):xU t n l=some (Jg t n l):=by
 have h1:=DF (xs:=l) (body:=λs:List Ah × Int=>SA t n l s.1 s.2) (λi (o:List Ah)=>(o,i)) (λo w=>if Em t n w.ab=true then o++ [w.ab]else o) (λo=>some o) (λi o=>o.length<=i)
  (λi hi o hI=>by
   have hI:o.length<=i:=hI;have pK:=h _ (Au hi);obtain⟨a,b,e⟩:=zK9 (t:=t) (n:=n) (k:=l[i].ab) ht hn (by have:=pK.1;omega);have hw:=BE hi (by omega:l.length<=_);refine⟨?_,by
    show List.length (if Em t n l[i].ab=true then o++ [l[i].ab]else o)<=i+1;split
    ·rw[Aq,AO];omega
    ·omega⟩
   show SA t n l o i=_;unfold SA;rw[if_pos (by simpa using hi),Av hi,Aa,e,Aa,hw];cases hb:Em t n l[i].ab with
   |false=>rfl
   |true=>
    have hq:((o.length:Int)+(([l[i].ab]:List Ah).length:Int))*16<=140737488355328/\(o.length:Int)+(([l[i].ab]:List Ah).length:Int)<=140737488355328:=by rw[AO];omega
    rw[if_pos rfl,AJ hq,if_pos rfl])
  (λo _=>by show SA t n l o l.length=_;unfold SA;rw[if_neg (by simp)]) (s:=[]) (by simp)
 rw[zzI (λw:Ai=>Em t n w.ab) (λw=>w.ab)]at h1;exact h1.1
theorem zHw{t:An}{n:Ah}{l:List Ai}(ht:t.ae.length<=2000000)(hn:n.length<=2000000)(hh:∀b∈head t n,b≠47)(hl:l.length<=2000000)(h:∀w∈l,uG w):vF t n l=some (Jg t n l):=by
 have h1:=DF (xs:=l) (body:=λs:Int × List Ah=>Sm t n l s.1 s.2) (λi (o:List Ah)=>(i,o)) (λo w=>if Em t n w.ab=true then o++ [w.ab]else o) (λo=>some o) (λi o=>o.length<=i)
  (λi hi o hI=>by
   have hI:o.length<=i:=hI;have pK:=h _ (Au hi);obtain⟨a,b,e⟩:=zMv (t:=t) (n:=n) (k:=l[i].ab) ht hn (by have:=pK.1;omega) hh;have hw:=BE hi (by omega:l.length<=_);refine⟨?_,by
    show List.length (if Em t n l[i].ab=true then o++ [l[i].ab]else o)<=i+1;split
    ·rw[Aq,AO];omega
    ·omega⟩
   show Sm t n l i o=_;unfold Sm;rw[if_pos (by simpa using hi),Av hi,Aa,e,Aa,hw];cases hb:Em t n l[i].ab with
   |false=>rfl
   |true=>
    have hq:((o.length:Int)+(([l[i].ab]:List Ah).length:Int))*16<=140737488355328/\(o.length:Int)+(([l[i].ab]:List Ah).length:Int)<=140737488355328:=by rw[AO];omega
    rw[if_pos rfl,AJ hq,if_pos rfl])
  (λo _=>by show Sm t n l l.length o=_;unfold Sm;rw[if_neg (by simp)]) (s:=[]) (by simp)
 rw[zzI (λw:Ai=>Em t n w.ab) (λw=>w.ab)]at h1;exact h1.1
def less(a b:List Ah):List Ah:=a.filter λk=> !b.contains k
abbrev bl(a b:Ab):Bool:=Op.bytesLess a b
theorem L3:∀a:Ab,bl a a=false
 | []=>rfl
 |x::a=>by
  have h: ¬x<x:=λh=>by have:=UInt8.lt_iff_toNat_lt.1 h;omega
  show Op.bytesLess (x::a) (x::a)=false;simp only[Op.bytesLess,h,decide_false,Bool.false_or,beq_self_eq_true,Bool.true_and];exact L3 a
theorem ZW(x y:UInt8)(a b:Ab):bl (x::a) (y::b)=true↔x.toNat<y.toNat\/x=y/\bl a b=true:=by show Op.bytesLess (x::a) (y::b)=true↔_;simp only[Op.bytesLess,Bool.or_eq_true,AS,Ac,Az,UInt8.lt_iff_toNat_lt]
theorem ID:∀{a b c:Ab},bl a b=true->bl b c=true->bl a c=true
 | [],_,[],_,h=>by rename_i b _;cases b<;>cases h
 | [],_,_::_,_,_=>rfl
 |_::_,[],_,h,_=>by cases h
 |_::_,_::_,[],_,h=>by cases h
 |x::a,y::b,z::c,h1,h2=>by
  rw[ZW]at*;rcases h1 with h1|⟨rfl,h1⟩<;>rcases h2 with h2|⟨rfl,h2⟩
  ·exact .inl (by omega)
  ·exact .inl h1
  ·exact .inl h2
  ·exact .inr ⟨rfl,ID h1 h2⟩
theorem tC:∀a b:Ab,bl a b=true\/a=b\/bl b a=true
 | [],[]=> .inr (.inl rfl)
 | [],_::_=> .inl rfl
 |_::_,[]=> .inr (.inr rfl)
 |x::a,y::b=>by
  rw[ZW,ZW];rcases Nat.lt_trichotomy x.toNat y.toNat with h|h|h
  ·exact .inl (.inl h)
  ·have h0:x=y:=UInt8.toNat_inj.1 h;subst h0;rcases tC a b with h1|h1|h1
   ·exact .inl (.inr ⟨rfl,h1⟩)
   ·exact .inr (.inl (by rw[h1]))
   ·exact .inr (.inr (.inr ⟨rfl,h1⟩))
  ·exact .inr (.inr (.inl h))
theorem O7{a b:Ab}(h:bl a b=true):bl b a=false:=by
 cases h2:bl b a with
 |false=>rfl
 |true=>have:=ID h h2;rw[L3]at this;cases this
theorem Hh{a b:Ab}(h:bl a b=true):a≠b:=by rintro rfl;rw[L3]at h;cases h
theorem Ni{a b:Ab}(h:bl a b=false)(hn:a≠b):bl b a=true:=by
 rcases tC a b with h1|h1|h1
 ·rw[h]at h1;cases h1
 ·exact absurd h1 hn
 ·exact h1
section
variable {α:Type} (key:α->Ab)
def Ei(l:List α):Prop:=l.Pairwise λa b=>bl (key a) (key b)=true
def DY(x:α):List α->List α
 | []=> [x]
 |y::l=>if bl (key x) (key y)=true then x::y::l else if key x=key y then x::l else y::DY x l
variable {key}
theorem Ei.jn{l:List α}(h:Ei key l){a b:α}(ha:a∈l)(hb:b∈l)(e:key a=key b):a=b:=by
 induction l with
 |nil=>cases ha
 |cons y l ih=>
  have h1:=List.pairwise_cons.1 h;rcases Ag.1 ha with q1|q1<;>rcases Ag.1 hb with q2|q2
  ·rw[q1,q2]
  ·exact absurd (q1▸e) (Hh (h1.1 _ q2))
  ·exact absurd (q2▸e.symm) (Hh (h1.1 _ q1))
  ·exact ih h1.2 q1 q2
theorem YS{x:α}:∀{l:List α},Ei key l-> ∀y,y∈DY key x l↔y=x\/y∈l/\key y≠key x
 | [],_,y=>by simp[DY]
 |z::l,h,y=>by
  have h1:=List.pairwise_cons.1 h;unfold DY;split
  ·rename_i hb;constructor
   ·intro hy;rcases Ag.1 hy with rfl|hy
    ·exact .inl rfl
    ·refine .inr ⟨hy,?_⟩;rcases Ag.1 hy with rfl|hy
     ·exact(Hh hb).symm
     ·exact(Hh (ID hb (h1.1 _ hy))).symm
   ·rintro(rfl|⟨hy,_⟩)
    ·simp
    ·exact List.mem_cons_of_mem _ hy
  ·rename_i hb;split
   ·rename_i he;constructor
    ·intro hy;rcases Ag.1 hy with rfl|hy
     ·exact .inl rfl
     ·exact .inr ⟨List.mem_cons_of_mem _ hy,λe=>Hh (h1.1 _ hy) (by rw[e,he])⟩
    ·rintro(rfl|⟨hy,hn⟩)
     ·simp
     ·rcases Ag.1 hy with rfl|hy
      ·exact absurd he.symm hn
      ·exact List.mem_cons_of_mem _ hy
   ·rename_i he;rw[Ag,YS h1.2];constructor
    ·rintro(rfl|rfl|⟨hy,hn⟩)
     ·exact .inr ⟨by simp,λe=>he e.symm⟩
     ·exact .inl rfl
     ·exact .inr ⟨List.mem_cons_of_mem _ hy,hn⟩
    ·rintro(rfl|⟨hy,hn⟩)
     ·exact .inr (.inl rfl)
     ·rcases Ag.1 hy with rfl|hy
      ·exact .inl rfl
      ·exact .inr (.inr ⟨hy,hn⟩)
theorem lA{x:α}:∀{l:List α},Ei key l->Ei key (DY key x l)
 | [],_=>by simp[DY,Ei]
 |z::l,h=>by
  have h1:=List.pairwise_cons.1 h;unfold DY;split
  ·rename_i hb;refine List.pairwise_cons.2 ⟨λy hy=> ?_,h⟩;rcases Ag.1 hy with rfl|hy
   ·exact hb
   ·exact ID hb (h1.1 _ hy)
  ·rename_i hb;split
   ·rename_i he;exact List.pairwise_cons.2 ⟨λy hy=>by rw[he];exact h1.1 _ hy,h1.2⟩
   ·rename_i he;refine List.pairwise_cons.2 ⟨λy hy=> ?_,lA h1.2⟩;rcases(YS h1.2 y).1 hy with rfl|⟨hy,_⟩
    ·exact Ni (by simpa using hb) he
    ·exact h1.1 _ hy
theorem Ei.ext:∀{a b:List α},Ei key a->Ei key b->(∀x,x∈a↔x∈b)->a=b
 | [],[],_,_,_=>rfl
 | [],y::b,_,_,h=>absurd ((h y).2 (by simp)) (by simp)
 |x::a,[],_,_,h=>absurd ((h x).1 (by simp)) (by simp)
 |x::a,y::b,ha,hb,h=>by
  have h1:=List.pairwise_cons.1 ha;have h2:=List.pairwise_cons.1 hb;have e:x=y:=by
   rcases Ag.1 ((h x).1 (by simp))with e|hx
   ·exact e
   ·rcases Ag.1 ((h y).2 (by simp))with e|hy
    ·exact e.symm
    ·have:=ID (h1.1 _ hy) (h2.1 _ hx);rw[L3]at this;cases this
  subst e;rw[Ei.ext h1.2 h2.2 λz=> ?_];constructor
  ·intro hz;rcases Ag.1 ((h z).1 (List.mem_cons_of_mem _ hz))with rfl|Qb
   ·have:=h1.1 _ hz;rw[L3]at this;cases this
   ·exact Qb
  ·intro hz;rcases Ag.1 ((h z).2 (List.mem_cons_of_mem _ hz))with rfl|Qb
   ·have:=h2.1 _ hz;rw[L3]at this;cases this
   ·exact Qb
theorem Ei.filter{l:List α}(h:Ei key l)(p:α->Bool):Ei key (l.filter p):=List.Pairwise.filter p h
theorem Ei.sub{a b:List α}(h:Ei key b)(hs:a.Sublist b):Ei key a:=List.Pairwise.sublist hs h
theorem YR{x:α}:∀(l:List α),(DY key x l).length<=l.length+1
 | []=>by simp[DY]
 |y::l=>by
  unfold DY;have:=YR (x:=x) l;split
  ·simp
  ·split
   ·simp
   ·simp only[AE];omega
end
def EB{α:Type}(r:α->α->Bool):List α->Bool
 | []=>true
 | [_]=>true
 |x::y::l=>r x y&&EB r (y::l)
theorem zwQ{α:Type}{r:α->α->Bool}(ht:∀a b c,r a b=true->r b c=true->r a c=true):∀{l:List α},EB r l=true↔l.Pairwise λa b=>r a b=true
 | []=>by simp[EB]
 | [_]=>by simp[EB]
 |x::y::l=>by
  rw[EB,Ac,zwQ ht];constructor
  ·rintro⟨h1,h2⟩;refine List.pairwise_cons.2 ⟨λz hz=> ?_,h2⟩;rcases Ag.1 hz with rfl|hz
   ·exact h1
   ·exact ht _ _ _ h1 ((List.pairwise_cons.1 h2).1 z hz)
  ·intro h;have h:=List.pairwise_cons.1 h;exact⟨h.1 y (by simp),h.2⟩
theorem zx7{α:Type}{r:α->α->Bool}{l:List α}{q:Nat}(h:q+1<l.length):EB r (l.drop q)=(r l[q] l[q+1]&&EB r (l.drop (q+1))):=by rw[Bw (show q<l.length by omega),Bw h,EB]
theorem rR{α β:Type}{xs:List α}{body:Int->Option (Int ⊕ Option β)}(p:α->Bool)(r:α->α->Bool)(b:β)(fin:Option β)
  (h0:∀h:0<xs.length,body 0=some (if p xs[0]=true then .inl 1 else .inr (some b)))
  (hs:∀i (h:i+1<xs.length),body ((i+1:Nat):Int)=some (if(p xs[i+1]&&r xs[i] xs[i+1])=true then .inl ((i+2:Nat):Int)else .inr (some b)))
  (he:body xs.length=some (.inr fin)):Ao body 0=if(xs.all p&&EB r xs)=true then fin else some b:=by
 have key:∀n q,q+1+n=xs.length->Ao body ((q+1:Nat):Int)=if((xs.drop (q+1)).all p&&EB r (xs.drop q))=true then fin else some b:=by
  intro n
  induction n with
  |zero=>
   intro q hq;rw[show((q+1:Nat):Int)=(xs.length:Int) by omega,D2,he];have e1:xs.drop (q+1)=[]:=List.drop_eq_nil_of_le (by omega);have e2:xs.drop q=[xs[q]]:=by rw[Bw (by omega),e1]
   rw[e1,e2];simp[EB]
  |succ n ih=>
   intro q hq;rw[D2,hs q (by omega),zx7 (by omega),Bw (show q+1<xs.length by omega),List.all_cons];have ih:=ih (q+1) (by omega);by_cases hp:(p xs[q+1]&&r xs[q] xs[q+1])=true
   ·rw[if_pos hp];simp only[Ac]at hp;simp only[hp.1,hp.2,Bool.true_and];rw[<-Bw (show q+1<xs.length by omega)];exact ih
   ·rw[if_neg hp];rw[if_neg];intro h;simp only[Ac]at h hp;exact hp ⟨h.1.1,h.2.1⟩
 by_cases hz:0<xs.length
 ·rw[D2,h0 hz];have:=key (xs.length-1) 0 (by omega);rw[List.drop_zero]at this;have e:xs=xs[0]::xs.drop 1:=by rw[<-Bw hz,List.drop_zero]
  by_cases hp:p xs[0]=true
  ·rw[if_pos hp];show Ao body ((0+1:Nat):Int)=_;rw[this];have:xs.all p=(xs.drop 1).all p:=by rw[e,List.all_cons,hp,Bool.true_and];simp
   rw[this]
  ·rw[if_neg hp,if_neg];intro h;simp only[Ac,Bd]at h;exact hp (h.1 _ (Au hz))
 ·have:xs=[]:=by cases xs with|nil=>rfl|cons=>simp at hz
  subst this;rw[D2,show(0:Int)=(([]:List α).length:Int)from rfl,he];simp[EB]
def AT{α:Type}(lt:α->Bool)(l:List α):Nat:=(l.takeWhile lt).length
theorem L9{α:Type}(lt:α->Bool):∀l:List α,AT lt l<=l.length
 | []=>by simp[AT]
 |x::l=>by have:=L9 lt l;unfold AT at this ⊢;rw[List.takeWhile_cons];split<;>simp<;>omega
theorem Ra{α:Type}{lt:α->Bool}:∀{l:List α} {i:Nat} (h:i<AT lt l),lt (l[i]'(Nat.lt_of_lt_of_le h (L9 lt l)))=true
 |x::l,i,h=>by
  unfold AT at h;rw[List.takeWhile_cons]at h;split at h
  ·rename_i hx;cases i with
   |zero=>exact hx
   |succ i=>exact Ra (l:=l) (i:=i) (by unfold AT;simpa using h)
  ·simp at h
theorem Z2{α:Type}{lt:α->Bool}:∀{l:List α} (h:AT lt l<l.length),lt l[AT lt l]=false
 |x::l,h=>by
  by_cases hx:lt x=true
  ·have e:AT lt (x::l)=AT lt l+1:=by unfold AT;rw[List.takeWhile_cons,if_pos hx];rfl
   have:=Z2 (l:=l) (lt:=lt) (by rw[e]at h;simpa using h);simp only[e,List.getElem_cons_succ];exact this
  ·have e:AT lt (x::l)=0:=by unfold AT;rw[List.takeWhile_cons,if_neg hx];rfl
   simp only[e,List.getElem_cons_zero];simpa using hx
theorem Z4{α β:Type}{xs:List α}{body:Int × Int->Option ((Int × Int) ⊕ Option β)}{fin:Int->Option β}(lt:α->Bool)(hm:∀i j (hj:j<xs.length) (hi:i<=j),lt xs[j]=true->lt xs[i]=true)
  (hs:∀i j:Nat,i<j->j<=xs.length->(h:(i+j)/2<xs.length)->body ((i:Int),(j:Int))=some (.inl (if lt xs[(i+j)/2]=true then((((i+j)/2+1:Nat):Int),(j:Int))else((i:Int),(((i+j)/2:Nat):Int)))))
  (he:∀i:Nat,i<=xs.length->body ((i:Int),(i:Int))=some (.inr (fin i))):Ao body (0,(xs.length:Int))=fin (AT lt xs):=by
 have key:∀n i j:Nat,j-i<=n->i<=AT lt xs->AT lt xs<=j->j<=xs.length->Ao body ((i:Int),(j:Int))=fin (AT lt xs):=by
  intro n
  induction n with
  |zero=>
   intro i j h1 h2 h3 h4;have:i=j:=by omega
   subst this;have:i=AT lt xs:=by omega
   rw[D2,he i h4,this]
  |succ n ih=>
   intro i j h1 h2 h3 h4;by_cases Gt:i=j
   ·subst Gt;have:i=AT lt xs:=by omega
    rw[D2,he i h4,this]
   ·have AQ:(i+j)/2<xs.length:=by omega
    rw[D2,hs i j (by omega) h4 AQ];by_cases hc:lt xs[(i+j)/2]=true
    ·rw[if_pos hc];refine ih _ _ (by omega) ?_ h3 h4;by_cases hp:(i+j)/2<AT lt xs
     ·omega
     ·have h5:AT lt xs<xs.length:=by omega
      have:=Z2 h5;rw[hm _ _ AQ (by omega) hc]at this;cases this
    ·rw[if_neg hc];refine ih _ _ (by omega) h2 ?_ (by omega);by_cases hp:(i+j)/2<AT lt xs
     ·exact absurd (Ra hp) hc
     ·omega
 exact key xs.length 0 xs.length (by omega) (by omega) (L9 lt xs) (AF _)
theorem lZ{α:Type}{key:α->Ab}{x:α}:∀{l:List α},Ei key l->DY key x l=(match l[AT (λy=>bl (key y) (key x)) l]? with
  |some y=>if key y=key x then l.set (AT (λy=>bl (key y) (key x)) l) x else l.take (AT (λy=>bl (key y) (key x)) l)++ [x]++l.drop (AT (λy=>bl (key y) (key x)) l)
  |none=>l.take (AT (λy=>bl (key y) (key x)) l)++ [x]++l.drop (AT (λy=>bl (key y) (key x)) l))
 | [],_=>by simp[DY,AT]
 |y::l,h=>by
  have h1:=List.pairwise_cons.1 h;unfold DY;by_cases hb:bl (key x) (key y)=true
  ·have e:AT (λz=>bl (key z) (key x)) (y::l)=0:=by unfold AT;rw[List.takeWhile_cons,if_neg (by rw[O7 hb];simp)];rfl
   rw[if_pos hb,e];simp[(Hh hb).symm]
  ·rw[if_neg hb];by_cases hk:key x=key y
   ·have e:AT (λz=>bl (key z) (key x)) (y::l)=0:=by unfold AT;rw[List.takeWhile_cons,if_neg (by rw[hk,L3];simp)];rfl
    rw[if_pos hk,e];simp[hk]
   ·have Ir:=Ni (by simpa using hb) hk;have e:AT (λz=>bl (key z) (key x)) (y::l)=AT (λz=>bl (key z) (key x)) l+1:=by unfold AT;rw[List.takeWhile_cons,if_pos Ir];rfl
    rw[if_neg hk,e,lZ h1.2];simp only[List.getElem?_cons_succ];split
    ·split<;>simp
    ·simp
def OD(a b:Ah):Int:=if bl a b=true then-1 else if a=b then 0 else 1
@[simp] theorem zLz(a:Ah):Xw a=some false:=by simp[Xw]
@[simp] theorem zOZ(a:Int):XO a=some false:=by simp[XO]
@[simp] theorem zRq(a b:Ah):Xu a b=some (OD a b):=by
 unfold Xu OD;simp only[zLz,Aa,A6,if_false];by_cases h:bl a b=true
 ·have:Op.bytesLess a b=true:=h;simp[this]
 ·have h1:Op.bytesLess a b=false:=by simpa using h
  by_cases he:a=b
  ·subst he;simp[h1]
  ·simp[h1,he]
def OA(a b:Int):Int:=if a<b then-1 else if a=b then 0 else 1
@[simp] theorem zRj(a b:Int):Xv a b=some (OA a b):=by
 unfold Xv OA;simp only[zOZ,Aa,A6,if_false];by_cases h:a<b
 ·simp[h]
 ·by_cases he:a=b
  ·subst he;simp
  ·have:b<a:=by omega
   simp[h,he,this]
theorem zJI{a b:Ah}:decide (OD a b<0)=bl a b:=by
 unfold OD;cases h:bl a b with
 |true=>simp
 |false=>by_cases he:a=b<;>simp[he]
theorem zJd{a b:Ah}:(OD a b==0)=decide (a=b):=by
 unfold OD;cases h:bl a b with
 |true=>simp[Hh h]
 |false=>by_cases he:a=b<;>simp[he]
theorem aG{i j:Nat}(h:i<=j)(hj:j<=2000000):IntKind.i64.wrap (Int.fdiv (IntKind.u64.wrap (IntKind.i64.wrap ((i:Int)+(j:Int)))) (2^(min ((1:Int)).toNat (IntKind.bits .u64))))=(((i+j)/2:Nat):Int):=by
 have e1:IntKind.i64.wrap ((i:Int)+(j:Int))=((i+j:Nat):Int):=by rw[Cv (by omega) (by omega)];simp
 have e2:IntKind.u64.wrap ((i+j:Nat):Int)=((i+j:Nat):Int):=by simp only[IntKind.wrap,IntKind.bits,IntKind.signed];simp;omega
 have e3:(2:Int)^(min ((1:Int)).toNat (IntKind.bits .u64))=((2:Nat):Int):=rfl;rw[e1,e2,e3,Int.fdiv_eq_ediv_of_nonneg _ (by omega),<-Int.natCast_ediv,Cv (by omega) (by omega)]
theorem CH{i:Nat}(h:i<=2000000):IntKind.i64.wrap ((i:Int)+1)=((i+1:Nat):Int):=by rw[Cv (by omega) (by omega)];simp
abbrev Gp(l:List Ai):Prop:=Ei (λw:Ai=>w.ab) l
abbrev HR(l:List Ai)(k:Ah):Nat:=AT (λw:Ai=>bl w.ab k) l
theorem zPA{l:List Ai}{k:Ah}(hl:l.length<=2000000)(hr:Gp l):QJ l k=some (((HR l k:Nat):Int),(match l[HR l k]? with|some w=>decide (w.ab=k)|none=>false)):=by
 unfold QJ uY;have hc:∀w:Ai,SX w k=some (OD w.ab k):=λw=>by simp[SX]
 have h:=Z4 (xs:=l) (body:=λs:Int × Int=>R8 l k (λy0_ y1_=>SX y0_ y1_) s.1 s.2) (fin:=λi=>uW l k (λy0_ y1_=>SX y0_ y1_) i) (λw:Ai=>bl w.ab k)
  (λi j hj hi h=>by
   rcases Nat.lt_or_ge i j with Gt|Gt
   ·exact ID ((List.pairwise_iff_getElem.1 hr) i j (by omega) hj Gt) h
   ·have:i=j:=by omega
    subst this;exact h)
  (λi j Gt hj Ik=>by show R8 l k _ (i:Int) (j:Int)=_;unfold R8;rw[if_pos (by simpa using Gt),aG (by omega) (by omega),Av Ik,Aa];simp only[hc,Aa,zJI,CH (show(i+j)/2<=2000000 by omega)];cases bl l[(i+j)/2].ab k<;>rfl)
  (λi hi=>by show R8 l k _ (i:Int) (i:Int)=_;unfold R8;rw[if_neg (by simp)])
 rw[h];unfold uW;show Option.bind (if decide (((HR l k:Nat):Int)<l.length)=true then _ else _) _=_;by_cases hp:HR l k<l.length
 ·rw[if_pos (by simpa using hp),Av hp,Aa];simp only[hc,Aa,zJd,AM hp]
 ·rw[if_neg (by simpa using hp),List.getElem?_eq_none (by omega)];rfl
theorem zG2{l:List Ai}{w:Ai}(hl:l.length<=2000000)(hr:Gp l):eY l w=some (DY (λw:Ai=>w.ab) w l):=by
 unfold eY;rw[zPA hl hr,Aa,lZ hr];show(if(match l[HR l w.ab]? with|some w'=>decide (w'.ab=w.ab)|none=>false)=true then _ else _)=_;have hle:HR l w.ab<=l.length:=L9 _ _;have hI:Gz l ((HR l w.ab:Nat):Int) [w]=some (l.take (HR l w.ab)++ [w]++l.drop (HR l w.ab)):=AJ ⟨by omega,by omega,by simp,by simp only[AO];omega⟩;by_cases hp:HR l w.ab<l.length
 ·rw[AM hp];by_cases hk:(l[HR l w.ab]).ab=w.ab
  ·simp only[hk,decide_true,if_true,Av hp,Aa];rfl
  ·simp only[hk,decide_false,A6,if_false];rw[hI];rfl
 ·rw[List.getElem?_eq_none (by omega)];simp only[A6,if_false];rw[hI];rfl
theorem zsv(ks:List Ah):Mc ks=EB bl ks:=by
 have key:∀n q,q+n+1=ks.length->(List.range' (q+1) n).all (HH ks)=EB bl (ks.drop q):=by
  intro n
  induction n with
  |zero=>intro q hq;rw[Bw (show q<ks.length by omega),List.drop_eq_nil_of_le (show ks.length<=q+1 by omega)];rfl
  |succ n ih=>intro q hq;rw[List.range'_succ,List.all_cons,ih (q+1) (by omega),zx7 (show q+1<ks.length by omega)];congr 1;unfold HH;have hb:(q+1==0)=false:=rfl;rw[hb,Bool.false_or,Nat.add_sub_cancel,AM (show q<ks.length by omega),AM (show q+1<ks.length by omega)];rfl
 cases ks with
 |nil=>rfl
 |cons k l=>unfold Mc;rw[AE,List.range_eq_range',List.range'_succ,List.all_cons];have:=key l.length 0 (by simp);rw[List.drop_zero]at this;rw[Nat.zero_add]at this;rw[show 0+1=1 from rfl,this];rfl
theorem zuB{α β:Type}(f:α->β)(r:β->β->Bool):∀l:List α,EB r (l.map f)=EB (λa b=>r (f a) (f b)) l
 | []=>rfl
 | [_]=>rfl
 |x::y::l=>by have:=zuB f r (y::l);simp only[List.map_cons,EB]at this ⊢;rw[this]
theorem zqm{l:List Ai}(h:Hz l=true):Gp l:=by unfold Hz at h;simp only[Ac]at h;have h1:=h.2.2;rw[zsv,zuB]at h1;exact(zwQ (r:=λa b:Ai=>bl a.ab b.ab) λa b c p q=>ID p q).1 h1
end
end Go.Proofs.YtlmjpjceiefpoaaGreat

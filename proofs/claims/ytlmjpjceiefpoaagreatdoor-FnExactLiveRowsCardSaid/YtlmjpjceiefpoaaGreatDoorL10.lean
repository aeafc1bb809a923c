/- Parts of a proof, joined: QF1, QF2, QF3, QF4, QF5, QF6, QF7, QR, NA, NE, N5, N6, N7, N8, N9, N10, N11, N12, N13, PK, NK, NP, NF. -/
import Derived.Test.YtlmjpjceiefpoaaGreatDoorL9
set_option linter.unusedVariables false
set_option linter.unusedSimpArgs false
namespace Go.Proofs.YtlmjpjceiefpoaaGreatDoor
open Go.RowKit
noncomputable section
set_option maxRecDepth 100000
set_option maxHeartbeats 4000000
def zvk:FS:=CS 152 [.v (.st 4), .v (.i .i64)] (.tu (.cons (.v .s) (.cons (.v .b) .nil))) (λx=>dV x.1 x.2.1) λx r _ h=>zvA x.1 x.2.1 r h
def zmf:FS:=CS 341 [.v .s, .v .s] (.v (.i .i64)) (λx=>aW x.1 x.2.1) λx r _ h=>zmn x.1 x.2.1 r h
def zj3:FS:=CS 358 [.v .s, .v (.i .u8)] (.v (.i .i64)) (λx=>aR x.1 x.2.1) λx r _ h=>zjZ x.1 x.2.1 r h
def zpN:FS:=CS 359 [.v (.l (.st 4))] (.v (.l (.st 4))) (λx=>Td x.1) λx r _ h=>zu6 x.1 r h
def zjC:FS:=CS 406 [.v (.l .s)] (.v (.l .s)) (λx=>aP x.1) λx r _ h=>zjL x.1 r h
def zlL:FS:=CS 405 [.v (.l .s)] (.tu (.cons (.tu .nil) (.cons (.v (.l .s)) .nil))) (λx=>aO x.1) λx r _ h=>zlB x.1 r h
def zwH:FS:=CS 300 [.v .s, .v .s] (.v (.i .i64)) (λx=>dK x.1 x.2.1) λx r _ h=>zx7 x.1 x.2.1 r h
def zyN:FS:=CS 250 [.v (.l .s), .v .s] (.v .s) (λx=>gN x.1 x.2.1) λx r _ h=>zzb x.1 x.2.1 r h
def zt2:FS:=CS 299 [.v .s, .v (.i .i64)] (.v (.l .s)) (λx=>wF x.1 x.2.1) λx r _ h=>zup x.1 x.2.1 r h
def zgR:FS:=CS 154 [.v (.l (.st 0)), .v (.i .i64), .v (.l (.st 0))] (.v (.l (.st 0))) (λx=>Gt x.1 x.2.1 x.2.2.1) λx r hp h=>zKc (t:=66) (it:=3) (el:=132) (K:=3) (by kernel_rfl) (λ_=>by kernel_rfl) zKe h
def zhn:FS:=CS 336 [.v (.l (.st 1)), .v (.i .i64), .v (.l (.st 1))] (.v (.l (.st 1))) (λx=>Gt x.1 x.2.1 x.2.2.1) λx r hp h=>zK2 (t:=126) (it:=3) (el:=383) (K:=5) (by kernel_rfl) (λ_=>by kernel_rfl) zL2 h
def zhC:FS:=CS 366 [.v (.l (.st 1)), .v (.i .i64), .v (.i .i64)] (.v (.l (.st 1))) (λx=>Ys x.1 x.2.1 x.2.2.1) λx r hp h=>zLL (t:=126) (it:=3) (el:=383) (K:=5) (by kernel_rfl) (λ_=>by kernel_rfl) zL7 h
def zhi:FS:=CS 367 [.v (.l (.st 2)), .v (.i .i64), .v (.l (.st 2))] (.v (.l (.st 2))) (λx=>Gt x.1 x.2.1 x.2.2.1) λx r hp h=>zKc (t:=127) (it:=3) (el:=387) (K:=3) (by kernel_rfl) (λ_=>by kernel_rfl) zKR h
def zht:FS:=CS 399 [.v (.l (.st 4)), .v (.i .i64), .v (.l (.st 4))] (.v (.l (.st 4))) (λx=>Gt x.1 x.2.1 x.2.2.1) λx r hp h=>zKI (t:=125) (it:=3) (el:=206) (K:=2) (l:=[.flat, .row 208 3 (AM.of [.flat, .flat, .flat])]) (by kernel_rfl) (λ_=>by kernel_rfl) zKs h
def Xy:FS:=Ad 44 [.v (.l .s), .v (.i .i64)] (.v (.i .i64)) (λx=>OL x.1 x.2.1) [] [.sp [.i .i64, .i .i64]]
def zCe:FS:=Ad 177 [.v (.st 5), .v (.i .i64)] (.v (.i .i64)) (λx=>iW x.1 x.2.1) [] []
def zAf:FS:=Ad 97 [.v (.l (.st 5)), .v (.i .i64)] (.v (.i .i64)) (λx=>zC x.1 x.2.1) [zCe] [.sp [.i .i64, .i .i64]]
def zyZ:FS:=Ad 41 [.v (.st 6), .v (.i .i64)] (.v (.i .i64)) (λx=>gI x.1 x.2.1) [Xy,zAf] []
def zxV:FS:=Ad 13 [.v (.l (.st 6)), .v (.i .i64)] (.v (.i .i64)) (λx=>yA x.1 x.2.1) [zyZ] [.sp [.i .i64, .i .i64]]
def zX:FS:=Ad 14 [.v (.l (.i .i64)), .v (.i .i64)] (.v (.i .i64)) (λx=>TK x.1 x.2.1) [] []
def zuV:FS:=Ad 99 [.v (.st 7), .v (.i .i64)] (.v (.i .i64)) (λx=>TQ x.1 x.2.1) [Xy] []
def zxd:FS:=Ad 98 [.v (.st 8), .v (.i .i64)] (.v (.i .i64)) (λx=>eS x.1 x.2.1) [zuV] []
def zu9:FS:=Ad 42 [.v (.st 9), .v (.i .i64)] (.v (.i .i64)) (λx=>cM x.1 x.2.1) [zxd,zuV] []
def zul:FS:=Ad 15 [.v (.l (.st 9)), .v (.i .i64)] (.v (.i .i64)) (λx=>wZ x.1 x.2.1) [zu9] [.sp [.i .i64, .i .i64]]
def zwk:FS:=Ad 43 [.v (.l (.st 10)), .v (.i .i64)] (.v (.i .i64)) (λx=>eP x.1 x.2.1) [] []
def zy7:FS:=Ad 423 [.v (.st 0), .v (.i .i64)] (.v (.i .i64)) (λx=>fU x.1 x.2.1) [] []
def zx1:FS:=Ad 410 [.v (.l (.st 0)), .v (.i .i64)] (.v (.i .i64)) (λx=>yQ x.1 x.2.1) [zy7] [.sp [.i .i64, .i .i64]]
def zDE:FS:=Ad 385 [.v (.st 11), .v (.i .i64)] (.v (.i .i64)) (λx=>jD x.1 x.2.1) [Xy,zx1] []
def zyn:FS:=Ad 345 [.v (.st 12), .v (.i .i64)] (.v (.i .i64)) (λx=>gH x.1 x.2.1) [zDE] []
def zxn:FS:=Ad 309 [.v (.l (.st 12)), .v (.i .i64)] (.v (.i .i64)) (λx=>xT x.1 x.2.1) [zyn] [.sp [.i .i64, .i .i64]]
def zu8:FS:=Ad 257 [.v (.st 13), .v (.i .i64)] (.v (.i .i64)) (λx=>dZ x.1 x.2.1) [zxn] []
def zuD:FS:=Ad 178 [.v (.l (.st 13)), .v (.i .i64)] (.v (.i .i64)) (λx=>wB x.1 x.2.1) [zu8] [.sp [.i .i64, .i .i64]]
def zyG:FS:=Ad 100 [.v (.st 14), .v (.i .i64)] (.v (.i .i64)) (λx=>fW x.1 x.2.1) [zuD] []
def zv7:FS:=Ad 45 [.v (.l (.st 14)), .v (.i .i64)] (.v (.i .i64)) (λx=>yR x.1 x.2.1) [zyG] [.sp [.i .i64, .i .i64]]
def zBX:FS:=Ad 179 [.v (.st 15), .v (.i .i64)] (.v (.i .i64)) (λx=>gV x.1 x.2.1) [] []
def zy5:FS:=Ad 101 [.v (.l (.st 15)), .v (.i .i64)] (.v (.i .i64)) (λx=>zG x.1 x.2.1) [zBX] [.sp [.i .i64, .i .i64]]
def zwg:FS:=Ad 46 [.v (.l (.l (.st 15))), .v (.i .i64)] (.v (.i .i64)) (λx=>xR x.1 x.2.1) [zy5] [.sp [.i .i64, .i .i64]]
def zD4:FS:=Ad 258 [.v (.st 16), .v (.i .i64)] (.v (.i .i64)) (λx=>jK x.1 x.2.1) [] []
def zCa:FS:=Ad 180 [.v (.l (.st 16)), .v (.i .i64)] (.v (.i .i64)) (λx=>zqp x.1 x.2.1) [zD4] [.sp [.i .i64, .i .i64]]
def zDC:FS:=Ad 259 [.v (.st 17), .v (.i .i64)] (.v (.i .i64)) (λx=>iT x.1 x.2.1) [] []
def ztc:FS:=Ad 181 [.v (.l (.st 17)), .v (.i .i64)] (.v (.i .i64)) (λx=>iA x.1 x.2.1) [zDC] [.sp [.i .i64, .i .i64]]
def ztZ:FS:=Ad 102 [.v (.st 18), .v (.i .i64)] (.v (.i .i64)) (λx=>dB x.1 x.2.1) [zCa,ztc,zX] []
def ztu:FS:=Ad 47 [.v (.l (.st 18)), .v (.i .i64)] (.v (.i .i64)) (λx=>vL x.1 x.2.1) [ztZ] [.sp [.i .i64, .i .i64]]
def zsU:FS:=Ad 103 [.v (.st 19), .v (.i .i64)] (.v (.i .i64)) (λx=>cB x.1 x.2.1) [Xy,ztc] []
def zrQ:FS:=Ad 48 [.v (.l (.st 19)), .v (.i .i64)] (.v (.i .i64)) (λx=>vA x.1 x.2.1) [zsU] [.sp [.i .i64, .i .i64]]
def zzf:FS:=Ad 16 [.v (.st 20), .v (.i .i64)] (.v (.i .i64)) (λx=>eZ x.1 x.2.1) [zwk,Xy,zv7,zwg,zX,ztu,zrQ] []
def zA7:FS:=Ad 4 [.v (.st 21), .v (.i .i64)] (.v (.i .i64)) (λx=>gP x.1 x.2.1) [zxV,zX,zul,zzf] []
def XC:FS:=Ad 64 [.v (.l .s)] (.v (.l .s)) (λx=>OO x.1) [] [.sp [.i .i64, .l .s]]
def zDu:FS:=Ad 202 [.v (.st 5)] (.v (.st 5)) (λx=>zS x.1) [] []
def zBv:FS:=Ad 122 [.v (.l (.st 5))] (.v (.l (.st 5))) (λx=>zD x.1) [zDu] [.sp [.i .i64, .l (.st 5)]]
def zyQ:FS:=Ad 61 [.v (.st 6)] (.v (.st 6)) (λx=>fP x.1) [XC,zBv] []
def zw6:FS:=Ad 21 [.v (.l (.st 6))] (.v (.l (.st 6))) (λx=>yV x.1) [zyQ] [.sp [.i .i64, .l (.st 6)]]
def zE:FS:=Ad 22 [.v (.l (.i .i64))] (.v (.l (.i .i64))) (λx=>TI x.1) [] [.sp [.i .i64, .l (.i .i64)]]
def zuT:FS:=Ad 124 [.v (.st 7)] (.v (.st 7)) (λx=>TN x.1) [XC] []
def zxk:FS:=Ad 123 [.v (.st 8)] (.v (.st 8)) (λx=>dJ x.1) [zuT] []
def zu1:FS:=Ad 62 [.v (.st 9)] (.v (.st 9)) (λx=>cP x.1) [zxk,zuT] []
def zui:FS:=Ad 23 [.v (.l (.st 9))] (.v (.l (.st 9))) (λx=>xB x.1) [zu1] [.sp [.i .i64, .l (.st 9)]]
def zy4:FS:=Ad 125 [.v (.st 10)] (.v (.st 10)) (λx=>yF x.1) [] []
def zx6:FS:=Ad 63 [.v (.l (.st 10))] (.v (.l (.st 10))) (λx=>xX x.1) [zy4] [.sp [.i .i64, .l (.st 10)]]
def zyc:FS:=Ad 424 [.v (.st 0)] (.v (.st 0)) (λx=>zK x.1) [] []
def zwO:FS:=Ad 411 [.v (.l (.st 0))] (.v (.l (.st 0))) (λx=>yT x.1) [zyc] [.sp [.i .i64, .l (.st 0)]]
def zDt:FS:=Ad 391 [.v (.st 11)] (.v (.st 11)) (λx=>iQ x.1) [XC,zwO] []
def zyB:FS:=Ad 354 [.v (.st 12)] (.v (.st 12)) (λx=>gB x.1) [zDt] []
def zwr:FS:=Ad 321 [.v (.l (.st 12))] (.v (.l (.st 12))) (λx=>xZ x.1) [zyB] [.sp [.i .i64, .l (.st 12)]]
def zvt:FS:=Ad 273 [.v (.st 13)] (.v (.st 13)) (λx=>dS x.1) [zwr] []
def zt0:FS:=Ad 203 [.v (.l (.st 13))] (.v (.l (.st 13))) (λx=>wR x.1) [zvt] [.sp [.i .i64, .l (.st 13)]]
def zyo:FS:=Ad 126 [.v (.st 14)] (.v (.st 14)) (λx=>gJ x.1) [zt0] []
def zvX:FS:=Ad 65 [.v (.l (.st 14))] (.v (.l (.st 14))) (λx=>xU x.1) [zyo] [.sp [.i .i64, .l (.st 14)]]
def zz7:FS:=Ad 204 [.v (.st 15)] (.v (.st 15)) (λx=>zpl x.1) [] []
def zyL:FS:=Ad 127 [.v (.l (.st 15))] (.v (.l (.st 15))) (λx=>zF x.1) [zz7] [.sp [.i .i64, .l (.st 15)]]
def zxz:FS:=Ad 66 [.v (.l (.l (.st 15)))] (.v (.l (.l (.st 15)))) (λx=>yW x.1) [zyL] [.sp [.i .i64, .l (.l (.st 15))]]
def zEM:FS:=Ad 274 [.v (.st 16)] (.v (.st 16)) (λx=>zrZ x.1) [] []
def zDc:FS:=Ad 205 [.v (.l (.st 16))] (.v (.l (.st 16))) (λx=>zqH x.1) [zEM] [.sp [.i .i64, .l (.st 16)]]
def zDr:FS:=Ad 275 [.v (.st 17)] (.v (.st 17)) (λx=>zqt x.1) [] []
def ztn:FS:=Ad 206 [.v (.l (.st 17))] (.v (.l (.st 17))) (λx=>iH x.1) [zDr] [.sp [.i .i64, .l (.st 17)]]
def ztR:FS:=Ad 128 [.v (.st 18)] (.v (.st 18)) (λx=>dC x.1) [zDc,ztn,zE] []
def zs7:FS:=Ad 67 [.v (.l (.st 18))] (.v (.l (.st 18))) (λx=>vO x.1) [ztR] [.sp [.i .i64, .l (.st 18)]]
def zsZ:FS:=Ad 129 [.v (.st 19)] (.v (.st 19)) (λx=>bZ x.1) [XC,ztn] []
def zrz:FS:=Ad 68 [.v (.l (.st 19))] (.v (.l (.st 19))) (λx=>vF x.1) [zsZ] [.sp [.i .i64, .l (.st 19)]]
def zyJ:FS:=Ad 24 [.v (.st 20)] (.v (.st 20)) (λx=>gK x.1) [zx6,XC,zvX,zxz,zE,zs7,zrz] []
def zBt:FS:=Ad 6 [.v (.st 21)] (.v (.st 21)) (λx=>QM x.1) [zw6,zE,zui,zyJ] []
def zoI:FS:=Ad 116 [.v .s, .v (.i .i64)] (.v .b) (λx=>SO x.1 x.2.1) [] [.sp [.i .i64]]
def zC0:FS:=Ad 197 [.v (.l .s), .v .s] (.v (.i .i64)) (λx=>jC x.1 x.2.1) [] [.sp [.i .i64]]
def FJ:FS:=Ad 50 [.v (.i .i64), .v (.i .i64), .v (.i .i64)] (.v .b) (λx=>Dj x.1 x.2.1 x.2.2.1) [] []
def zyw:FS:=Ad 117 [.v (.l .s)] (.v .b) (λx=>gF x.1) [FJ,zoI,zC0] [.sp [.i .i64]]
def Xs:FS:=Ad 55 [.v (.st 6)] (.v .b) (λx=>OP x.1) [zoI,zyw,FJ] [.sp [.i .i64]]
def gY:FS:=Ad 182 [.v (.st 6), .v .s] (.v (.i .i64)) (λx=>QK x.1 x.2.1) [] [.sp [.i .i64]]
def zuS:FS:=Ad 104 [.v (.st 6), .v .s] (.tu (.cons (.v (.st 5)) (.cons (.v .b) .nil))) (λx=>XY x.1 x.2.1) [gY,Xs] []
def zx3:FS:=Ad 183 [.v (.st 6), .v .s, .v (.i .i64)] (.v .b) (λx=>Tv x.1 x.2.1 x.2.2.1) [Xs,gY,FJ] []
def zsP:FS:=Ad 260 [.v (.st 6)] (.v (.st 6)) (λx=>XT x.1) [] []
def zBP:FS:=Ad 261 [.v (.st 6), .v .s, .v (.i .i64)] (.v (.st 6)) (λx=>XR x.1 x.2.1 x.2.2.1) [zsP,gY] []
def zBA:FS:=Ad 184 [.v (.st 6), .v .s, .v (.i .i64)] (.v (.l (.st 6))) (λx=>gQ x.1 x.2.1 x.2.2.1) [zsP,gY,zBP] [.sp [.i .i64, .l (.st 6)], .inl]
def zDk:FS:=Ad 105 [.v (.st 6), .v .s, .v (.i .i64)] (.tu (.cons (.v (.l (.st 6))) (.cons (.v .b) .nil))) (λx=>TO x.1 x.2.1 x.2.2.1) [zx3,zBA] []
def zyh:FS:=Ad 185 [.v (.l .s), .v (.l .s)] (.v .b) (λx=>fE x.1 x.2.1) [] [.sp [.i .i64]]
def zrH:FS:=Ad 106 [.v (.st 6), .v (.st 6)] (.v .b) (λx=>Xf x.1 x.2.1) [zyh] [.sp [.i .i64]]
def zyE:FS:=Ad 49 [.v (.l (.st 6)), .v .s] (.v .b) (λx=>eT x.1 x.2.1) [Xs,zuS,zDk,zrH] [.sp [.i .i64]]
def zqb:FS:=Ad 51 [.v (.l (.i .i64)), .v (.i .i64), .v (.i .i64)] (.v .b) (λx=>TP x.1 x.2.1 x.2.2.1) [FJ] [.sp [.i .i64]]
def zQ:FS:=Ad 262 [.v .s, .v .s] (.v .b) (λx=>TG x.1 x.2.1) [] [.sp [.i .i64], .sp [.b, .i .i64]]
def OU:FS:=Ad 186 [.v .s] (.v .b) (λx=>Ld x.1) [FJ,zQ] []
def zye:FS:=Ad 107 [.v (.l .s)] (.v .b) (λx=>fD x.1) [OU] [.sp [.i .i64]]
def zsC:FS:=Ad 346 [.v (.i .i64)] (.v .b) (λx=>OS x.1) [FJ] []
def zBD:FS:=Ad 347 [.v (.l .s)] (.v .b) (λx=>gO x.1) [OU] [.sp [.i .i64]]
def zqn:FS:=Ad 265 [.v .s] (.v .b) (λx=>TM x.1) [zQ] []
def zrl:FS:=Ad 198 [.v .s, .v .s, .v .b] (.v .b) (λx=>XI x.1 x.2.1 x.2.2.1) [OU,zqn] []
def zqg:FS:=Ad 118 [.v (.l (.st 0))] (.v .b) (λx=>Xo x.1) [zrl] [.sp [.i .i64]]
def zBb:FS:=Ad 310 [.v (.st 11)] (.v .b) (λx=>zY x.1) [FJ,zsC,zBD,zqg] [.pt]
def zyk:FS:=Ad 263 [.v (.st 11)] (.v .b) (λx=>eU x.1) [zBb] []
def zvv:FS:=Ad 187 [.v (.st 13), .v (.i .i64)] (.v .b) (λx=>Xw x.1 x.2.1) [FJ,zyk] [.sp [.i .i64, .i .i64]]
def zu2:FS:=Ad 108 [.v (.st 14)] (.v .b) (λx=>dP x.1) [FJ,zvv] [.sp [.i .i64]]
def zyp:FS:=Ad 188 [.v (.st 15)] (.v .b) (λx=>fJ x.1) [OU,FJ] []
def zx4:FS:=Ad 189 [.v (.st 15), .v (.st 15)] (.v .b) (λx=>eM x.1 x.2.1) [] []
def zyC:FS:=Ad 109 [.v (.l (.st 15))] (.v .b) (λx=>fB x.1) [zyp,zx4] [.sp [.i .i64], .sp [.i .i64]]
def zyF:FS:=Ad 110 [.v (.st 10)] (.v .b) (λx=>zH x.1) [FJ] []
def zDW:FS:=Ad 264 [.v (.st 16)] (.v .b) (λx=>jI x.1) [OU,zqn,FJ] [.pt, .inl]
def zBw:FS:=Ad 190 [.v (.l (.st 16))] (.v .b) (λx=>iO x.1) [zDW] [.sp [.i .i64]]
def zs8:FS:=Ad 191 [.v (.l (.st 17))] (.v .b) (λx=>XO x.1) [OU,zqn] [.sp [.i .i64], .sp [.i .i64]]
def iB:FS:=Ad 18 [.v (.i .i64)] (.v .b) (λx=>TH x.1) [FJ] []
def zBW:FS:=Ad 111 [.v (.st 20), .v (.st 18)] (.v .b) (λx=>iI x.1 x.2.1) [zBw,zs8,zqb,FJ,iB] []
def zyW:FS:=Ad 192 [.v (.l .s)] (.v .b) (λx=>fQ x.1) [FJ,OU] [.sp [.i .i64]]
def zy8:FS:=Ad 112 [.v (.st 20), .v (.st 19)] (.v .b) (λx=>fY x.1 x.2.1) [zyW,zs8,FJ,iB] [.sp [.i .i64]]
def zy3:FS:=Ad 52 [.v (.st 20)] (.v .b) (λx=>fF x.1) [zye,zqb,iB,FJ,zy8,zBW,zyF,zu2,zyC] [.sp [.i .i64], .sp [.i .i64], .sp [.i .i64], .sp [.i .i64]]
def zwE:FS:=Ad 113 [.v (.st 8)] (.v .b) (λx=>eJ x.1) [] []
def zw7:FS:=Ad 266 [.v .s] (.v .b) (λx=>eE x.1) [FJ,zQ] []
def yK:FS:=Ad 193 [.v (.st 6), .v (.st 7)] (.v .b) (λx=>Nc x.1 x.2.1) [zw7] [.sp [.i .i64]]
def zy2:FS:=Ad 271 [.v (.l .s), .v .s] (.v .s) (λx=>zL x.1 x.2.1) [] [.sp [.s, .i .i64], .inl]
def yO:FS:=Ad 200 [.v (.st 6), .v (.st 7)] (.v (.st 0)) (λx=>OQ x.1 x.2.1) [zy2] []
def zp5:FS:=Ad 267 [.v (.st 6), .v (.st 5), .v (.st 7)] (.v .s) (λx=>Tw x.1 x.2.1 x.2.2.1) [] []
def zyz:FS:=Ad 194 [.v (.st 6), .v (.st 5), .v (.st 7)] (.v (.l (.st 16))) (λx=>zM x.1 x.2.1 x.2.2.1) [yO,zp5] []
def zyP:FS:=Ad 114 [.v (.st 6), .v .s, .v (.st 7)] (.tu (.cons (.v (.l (.st 16))) (.cons (.v .b) .nil))) (λx=>zI x.1 x.2.1 x.2.2.1) [zuS,yK,zyz] []
def zyH:FS:=Ad 268 [.v (.st 6), .v (.st 8)] (.v .b) (λx=>fL x.1 x.2.1) [yK] []
def zyS:FS:=Ad 195 [.v (.st 6), .v (.st 8)] (.v .b) (λx=>zR x.1 x.2.1) [Xs,zyH] []
def zzh:FS:=Ad 269 [.v (.st 6), .v (.st 8)] (.v (.l (.st 16))) (λx=>fH x.1 x.2.1) [yO] []
def zA4:FS:=Ad 270 [.v (.st 6), .v (.st 5), .v (.st 8)] (.v (.l (.st 16))) (λx=>XL x.1 x.2.1 x.2.2.1) [zp5] [.sp [.s], .pt, .pt, .inl]
def zBm:FS:=Ad 196 [.v (.st 6), .v (.st 8)] (.v (.l (.st 16))) (λx=>iM x.1 x.2.1) [zzh,zA4] [.sp [.i .i64, .l (.st 16)]]
def zAQ:FS:=Ad 115 [.v (.st 6), .v (.st 8)] (.tu (.cons (.v (.l (.st 16))) (.cons (.v .b) .nil))) (λx=>z6 x.1 x.2.1) [zyS,zBm] []
def zA1:FS:=Ad 53 [.v (.l (.st 6)), .v .s, .v (.st 9)] (.tu (.cons (.v (.l (.st 16))) (.cons (.v .b) .nil))) (λx=>gT x.1 x.2.1 x.2.2.1) [FJ,zwE,zyP,zAQ] []
def zug:FS:=Ad 54 [.v (.l (.st 16)), .v (.l (.st 16))] (.v .b) (λx=>cZ x.1 x.2.1) [] [.sp [.i .i64]]
def zy6:FS:=Ad 17 [.v (.st 21)] (.v .b) (λx=>gG x.1) [zyE,FJ,zqb,zy3,zA1,zug] [.sp [.i .i64], .sp [.i .i64]]
def zuH:FS:=Ad 348 [.v (.l (.st 4))] (.v (.l (.st 4))) (λx=>XV x.1) [] [.sp [.l (.st 4), .i .i64]]
def zU:FS:=Ad 315 [.v (.l .s)] (.v (.l .s)) (λx=>Lc x.1) [] []
def zub:FS:=Ad 349 [.v (.st 1)] (.v (.st 1)) (λx=>dA x.1) [zU] []
def zAR:FS:=Ad 311 [.v (.st 22)] (.v (.st 22)) (λx=>iG x.1) [zuH,zub] [.sp [.i .i64, .l (.st 1)]]
def zva:FS:=Ad 312 [.v (.st 22), .v (.i .i64)] (.tu (.cons (.v (.st 1)) (.cons (.v .b) .nil))) (λx=>dW x.1 x.2.1) [] [.sp [.i .i64]]
def zvf:FS:=Ad 313 [.v (.st 22), .v (.i .i64)] (.tu (.cons (.v (.st 2)) (.cons (.v .b) .nil))) (λx=>cQ x.1 x.2.1) [] [.sp [.i .i64]]
def zuw:FS:=Ad 314 [.v (.l (.st 1)), .v (.st 1)] (.v (.l (.st 1))) (λx=>dD x.1 x.2.1) [] [.sp [.i .i64]]
def zvU:FS:=Ad 386 [.v (.l (.st 0)), .v .s] (.v .b) (λx=>Xp x.1 x.2.1) [] [.sp [.i .i64]]
def zAV:FS:=Ad 387 [.v (.l .s), .v .s] (.v .b) (λx=>iF x.1 x.2.1) [] [.sp [.i .i64]]
def zwB:FS:=Ad 350 [.v (.st 1), .v (.l .s), .v (.l (.st 0))] (.v .b) (λx=>eL x.1 x.2.1 x.2.2.1) [zvU,zAV] [.sp [.i .i64], .sp [.i .i64]]
def zBT:FS:=Ad 388 [.v (.l .s), .v .s] (.v (.l .s)) (λx=>XU x.1 x.2.1) [zU] [.sp [.i .i64]]
def zw3:FS:=Ad 389 [.v (.l (.st 4)), .v .s] (.v (.i .i64)) (λx=>X1 x.1 x.2.1) [] [.sp [.i .i64]]
def zyd:FS:=Ad 351 [.v (.st 22), .v (.l (.st 0))] (.v .b) (λx=>gD x.1 x.2.1) [zBT,zw3] [.sp [.l .s, .i .i64], .sp [.i .i64, .l (.st 0)], .sp [.l .s, .i .i64]]
def zy9:FS:=Ad 316 [.v (.st 22), .v (.l .s), .v (.l (.st 0))] (.v .b) (λx=>fO x.1 x.2.1 x.2.2.1) [zyd,zwB] [.sp [.i .i64]]
def zBf:FS:=Ad 352 [.v (.l (.st 4)), .v .s] (.v (.i .i64)) (λx=>hZ x.1 x.2.1) [zw3] []
def zAi:FS:=Ad 390 [.v (.st 4)] (.v .b) (λx=>iJ x.1) [OU,FJ,zsC,zrl] [.sp [.i .i64]]
def zAm:FS:=Ad 353 [.v (.l (.st 4))] (.v .b) (λx=>gX x.1) [zAi] [.sp [.i .i64]]
def zDm:FS:=Ad 317 [.v (.l (.st 4)), .v (.l (.st 0)), .v (.i .i64)] (.tu (.cons (.v (.l (.st 4))) (.cons (.v .b) .nil))) (λx=>jH x.1 x.2.1 x.2.2.1) [zuH,zAm,zBf] [.sp [.i .i64, .l (.st 4)], .inl, .sp [.i .i64]]
def zBa:FS:=Ad 318 [.v (.i .i64), .v (.i .i64)] (.v (.i .i64)) (λx=>iL x.1 x.2.1) [] []
def zyY:FS:=Ad 319 [.v (.l (.st 1)), .v (.i .i64)] (.v (.l (.st 1))) (λx=>XG x.1 x.2.1) [] [.sp [.l (.st 1), .i .i64], .inl]
def ztL:FS:=Ad 320 [.v (.l (.st 2)), .v (.st 2)] (.v (.l (.st 2))) (λx=>Xj x.1 x.2.1) [] [.sp [.i .i64]]
def zwZ:FS:=Ad 272 [.v (.st 22), .v (.st 11)] (.tu (.cons (.v (.st 22)) (.cons (.v .b) .nil))) (λx=>eI x.1 x.2.1) [zAR,zva,zvf,zU,zuw,zy9,zDm,zBa,zyY,ztL] [.inl]
def zDd:FS:=Ad 201 [.v (.l (.st 11))] (.tu (.cons (.v (.st 22)) (.cons (.v (.l .b)) .nil))) (λx=>jF x.1) [zwZ] [.sp [.l .b, .i .i64, .i .i64, .l (.st 4), .l (.st 1), .l (.st 2)], .inl]
def zwT:FS:=Ad 121 [.v (.l (.st 12)), .v (.i .i64)] (.v (.st 22)) (λx=>eR x.1 x.2.1) [zDd] [.sp [.l (.st 11), .i .i64]]
def zze:FS:=Ad 59 [.v (.st 14)] (.v (.st 22)) (λx=>eV x.1) [zwT] [.sp [.i .i64, .i .i64], .inl]
def zDH:FS:=Ad 120 [.v (.st 4), .v (.i .i64)] (.tu (.cons (.v (.st 3)) (.cons (.v .b) .nil))) (λx=>iU x.1 x.2.1) [] [.sp [.b, .i .i64, .i .i64, .s, .b], .inl]
def zCY:FS:=Ad 58 [.v (.l (.st 4)), .v (.i .i64)] (.v (.l (.st 0))) (λx=>iS x.1 x.2.1) [zDH] [.sp [.l (.st 0), .i .i64], .inl]
def zB3:FS:=Ad 60 [.v (.l (.st 0)), .v (.st 0)] (.v (.l (.st 0))) (λx=>iE x.1 x.2.1) [] [.sp [.i .i64]]
def zyX:FS:=Ad 20 [.v (.st 20), .v (.i .i64)] (.v (.l (.st 0))) (λx=>eW x.1 x.2.1) [zze,zCY,zB3] [.sp [.l (.st 0), .i .i64], .sp [.i .i64, .l (.st 0)]]
def zAI:FS:=Ad 56 [.v (.l (.st 0))] (.v .b) (λx=>hP x.1) [zqg] [.sp [.i .i64]]
def zzg:FS:=Ad 199 [.v .s, .v (.i .u8)] (.v (.l .s)) (λx=>XF x.1 x.2.1) [] [.sp [.l .s, .i .i64, .i .i64], .inl]
def zza:FS:=Ad 119 [.v (.st 6), .v (.st 0)] (.tu (.cons (.v (.st 7)) (.cons (.v .b) .nil))) (λx=>fC x.1 x.2.1) [zzg,yK,yO] []
def zyR:FS:=Ad 57 [.v (.st 6), .v (.l (.st 0))] (.v (.l (.st 7))) (λx=>zN x.1 x.2.1) [zza] [.sp [.l (.st 7), .i .i64], .inl]
def zAC:FS:=Ad 19 [.v (.st 6), .v (.l (.st 0))] (.tu (.cons (.v (.l (.st 7))) (.cons (.v .b) .nil))) (λx=>zpv x.1 x.2.1) [Xs,zAI,zyR] []
def zw5:FS:=Ad 5 [.v (.st 21), .v (.i .i64)] (.tu (.cons (.v (.l (.st 7))) (.cons (.v .b) .nil))) (λx=>eD x.1 x.2.1) [zy6,iB,zyX,zAC] []
def Fh:FS:=Ad 70 [.v (.i .i64), .v (.i .i64), .v (.i .i64)] (.v .b) (λx=>Ef x.1 x.2.1 x.2.2.1) [] []
def zuu:FS:=Ad 276 [.v .s, .v (.i .i64)] (.v .b) (λx=>SE x.1 x.2.1) [Fh] [.sp [.i .i64]]
def zkM:FS:=Ad 322 [.v (.l .s), .v .s] (.v (.i .i64)) (λx=>aT x.1 x.2.1) [] [.sp [.i .i64]]
def zeJ:FS:=Ad 277 [.v (.l .s), .v .s] (.v .b) (λx=>WW x.1 x.2.1) [zkM] []
def zyx:FS:=Ad 278 [.v (.i .i64)] (.v .b) (λx=>yJ x.1) [Fh] []
def zu3:FS:=Ad 207 [.v (.st 6)] (.v .b) (λx=>cK x.1) [zuu,Fh,zyx,zeJ] [.sp [.i .i64], .sp [.i .i64]]
def zhf:FS:=CS 279 [.v (.l (.st 5)), .fn [.st 5] .b] (.v (.i .i64)) (λx=>FI x.1 (λy=>x.2.1.φ (y,()))) λx r hp h=>D9 (f:=279) (t:=Ku 3) (by kernel_rfl) (by kernel_rfl) (L6 (av:=(B3 CT.av (.st 5))) (cn:=3) (λ_=>⟨_,rfl,rfl⟩) h (λy b hb=>hp.2.1 (y,()) b hb))
def zoP:FS:=Ad 280 [.v (.st 5), .rf .s] (.v .b) (λx=>uB x.1 x.2.1) [] []
def zou:FS:=Gm zoP λ_=>by kernel_rfl
def uH:FS:=Ad 208 [.v (.st 6), .v .s] (.v (.i .i64)) (λx=>Sy x.1 x.2.1) [zhf,zou] []
def zAr:FS:=Ad 130 [.v (.st 6), .v .s] (.v .b) (λx=>gS x.1 x.2.1) [zu3,uH] []
def vU:FS:=Ad 131 [.v (.st 6), .v .s] (.v (.st 5)) (λx=>M6 x.1 x.2.1) [uH] []
def zfp:FS:=CS 281 [.v (.l .s)] (.v (.l .s)) (λx=>Qq x.1) λx r hp h=>D9 (f:=281) (t:=UE 16 1) (by kernel_rfl) (by kernel_rfl) (kQ (bytes:=16) (sz:=1) (av:=(B3 CT.av .s)) (λx=>⟨Q4 _ x,TV (by kernel_rfl) x⟩) h)
def ziH:FS:=CS 282 [.v (.l (.st 5))] (.v (.l (.st 5))) (λx=>tV x.1) λx r hp h=>D9 (f:=282) (t:=UE 32 3) (by kernel_rfl) (by kernel_rfl) (kQ (bytes:=32) (sz:=3) (av:=(B3 CT.av (.st 5))) (λx=>⟨Q4 _ x,TV (by kernel_rfl) x⟩) h)
def zpK:FS:=Ad 209 [.v (.st 6)] (.v (.st 6)) (λx=>Xv x.1) [zfp,ziH] []
def zoL:FS:=Ad 210 [.v (.st 6), .v .s, .v (.i .i64)] (.v (.st 6)) (λx=>W5 x.1 x.2.1 x.2.2.1) [zpK,uH] []
def zq9:FS:=Ad 133 [.v (.st 6), .v .s, .v (.i .i64)] (.v (.l (.st 6))) (λx=>bW x.1 x.2.1 x.2.2.1) [vU,zpK,zoL] [.sp [.i .i64, .l (.st 6)], .inl]
def zcg:FS:=Ad 132 [.v (.l (.st 6)), .v (.l (.st 6)), .fn [.st 6, .st 6] .b] (.v .b) (λx=>aN x.1 x.2.1 (λy0 y1=>x.2.2.1.φ (y0,y1,()))) [] [.sp [.i .i64]]
def zfL:FS:=Ad 73 [.v (.l .s), .v (.l .s)] (.v .b) (λx=>M5 x.1 x.2.1) [] [.sp [.i .i64]]
def ziD:FS:=Ad 211 [.v (.l (.st 5)), .v (.l (.st 5))] (.v .b) (λx=>aU x.1 x.2.1) [] [.sp [.i .i64]]
def zvj:FS:=Ad 134 [.v (.st 6), .v (.st 6)] (.v .b) (λx=>OM x.1 x.2.1) [zfL,ziD] []
def ztG:FS:=Gm zvj λ_=>by kernel_rfl
def zyj:FS:=Ad 69 [.v (.l (.st 6)), .v .s] (.v .b) (λx=>fI x.1 x.2.1) [zAr,vU,zq9,zcg,ztG] []
def XQ:FS:=Ad 26 [.v (.i .i64)] (.v .b) (λx=>Nb x.1) [Fh] []
def zwM:FS:=Ad 71 [.v (.l (.i .i64))] (.v .b) (λx=>eG x.1) [XQ] [.sp [.i .i64]]
def zqj:FS:=Ad 328 [.v (.i .u8)] (.v .b) (λx=>uD x.1) [] []
def zrU:FS:=Ad 329 [.v .s, .v (.i .u8)] (.v (.i .i64)) (λx=>u3 x.1 x.2.1) [zj3] []
def yU:FS:=Ad 292 [.v .s, .v .s] (.v .b) (λx=>TB x.1 x.2.1) [zqj,zrU] [.sp [.i .i64]]
def eY:FS:=Ad 244 [.v .s] (.v .b) (λx=>QN x.1) [Fh,yU] []
def Xx:FS:=Ad 155 [.v (.l .s)] (.v .b) (λx=>Na x.1) [eY] [.sp [.i .i64]]
def zwU:FS:=Ad 135 [.v (.l .s)] (.v .b) (λx=>eC x.1) [Xx] []
def zBF:FS:=Ad 212 [.v (.i .i64)] (.v .b) (λx=>zW x.1) [] []
def zq8:FS:=Ad 213 [.v (.st 14), .v (.i .i64)] (.v .b) (λx=>uS x.1 x.2.1) [Fh] []
def zfc:FS:=CS 283 [.v (.l (.st 13)), .fn [.st 13] .b] (.v (.i .i64)) (λx=>FI x.1 (λy=>x.2.1.φ (y,()))) λx r hp h=>D9 (f:=283) (t:=Ku 3) (by kernel_rfl) (by kernel_rfl) (L6 (av:=(B3 CT.av (.st 13))) (cn:=3) (λ_=>⟨_,rfl,rfl⟩) h (λy b hb=>hp.2.1 (y,()) b hb))
def zeH:FS:=CS 214 [.v (.l (.st 13)), .fn [.st 13] .b] (.v .b) (λx=>Dy x.1 (λy=>x.2.1.φ (y,()))) λx r hp h=>D9 (f:=214) (t:=JY 283) (by kernel_rfl) (by kernel_rfl) (Lk h λr hr=>zfc.ok x r hp hr)
def zuK:FS:=Ad 285 [.v (.i .i64)] (.v .b) (λx=>XX x.1) [Fh] []
def zsM:FS:=Ad 323 [.v (.i .i64)] (.v .b) (λx=>OT x.1) [Fh] []
def zvm:FS:=Ad 156 [.v (.l (.st 0))] (.v (.l .s)) (λx=>eA x.1) [] [.sp [.i .i64, .l .s]]
def zf3:FS:=CS 245 [.v (.l (.st 0)), .fn [.st 0] .b] (.v (.i .i64)) (λx=>FI x.1 (λy=>x.2.1.φ (y,()))) λx r hp h=>D9 (f:=245) (t:=Ku 3) (by kernel_rfl) (by kernel_rfl) (L6 (av:=(B3 CT.av (.st 0))) (cn:=3) (λ_=>⟨_,rfl,rfl⟩) h (λy b hb=>hp.2.1 (y,()) b hb))
def zce:FS:=CS 157 [.v (.l (.st 0)), .fn [.st 0] .b] (.v .b) (λx=>Dy x.1 (λy=>x.2.1.φ (y,()))) λx r hp h=>D9 (f:=157) (t:=JY 245) (by kernel_rfl) (by kernel_rfl) (Lk h λr hr=>zf3.ok x r hp hr)
def zrs:FS:=Ad 246 [.v .s] (.v .b) (λx=>XJ x.1) [yU] []
def yY:FS:=Ad 159 [.v .s, .v .b] (.v .b) (λx=>TA x.1 x.2.1) [zrs] []
def zse:FS:=Ad 158 [.v (.st 0)] (.v .b) (λx=>bU x.1) [yY] []
def zre:FS:=Gm zse λ_=>by kernel_rfl
def zoA:FS:=Ad 79 [.v (.l (.st 0))] (.v .b) (λx=>Xi x.1) [zvm,Xx,zce,zre] []
def zyA:FS:=Ad 284 [.v (.st 11)] (.v .b) (λx=>fA x.1) [zuK,zsM,Fh,Xx,zoA] [.pt]
def zCx:FS:=Ad 216 [.v (.l (.st 12)), .v (.i .i64)] (.v .b) (λx=>jE x.1 x.2.1) [Fh,zyA] [.sp [.i .i64]]
def zsz:FS:=Ad 215 [.v (.st 13), .rf (.st 14)] (.v .b) (λx=>SY x.1 x.2.1) [zCx,Fh] []
def zrM:FS:=Gm zsz λ_=>by kernel_rfl
def zvp:FS:=Ad 136 [.v (.st 14)] (.v .b) (λx=>dR x.1) [zBF,Fh,zq8,zeH,zrM] []
def zBI:FS:=Ad 217 [.v (.st 15)] (.v .b) (λx=>gR x.1) [eY,zuK] []
def zgB:FS:=CS 286 [.v (.l (.st 15)), .fn [.st 15] .b] (.v (.i .i64)) (λx=>FI x.1 (λy=>x.2.1.φ (y,()))) λx r hp h=>D9 (f:=286) (t:=Ku 3) (by kernel_rfl) (by kernel_rfl) (L6 (av:=(B3 CT.av (.st 15))) (cn:=3) (λ_=>⟨_,rfl,rfl⟩) h (λy b hb=>hp.2.1 (y,()) b hb))
def zfO:FS:=CS 218 [.v (.l (.st 15)), .fn [.st 15] .b] (.v .b) (λx=>Dy x.1 (λy=>x.2.1.φ (y,()))) λx r hp h=>D9 (f:=218) (t:=JY 286) (by kernel_rfl) (by kernel_rfl) (Lk h λr hr=>zgB.ok x r hp hr)
def zwp:FS:=Ad 220 [.v (.st 15), .v (.st 15)] (.v .b) (λx=>zqJ x.1 x.2.1) [] []
def ztr:FS:=Ad 219 [.v (.st 15), .rf (.st 15)] (.v .b) (λx=>vM x.1 x.2.1) [zwp] []
def zr2:FS:=Gm ztr λ_=>by kernel_rfl
def zvn:FS:=Ad 137 [.v (.l (.st 15))] (.v .b) (λx=>dX x.1) [zBI,zfO,zr2] [.sp [.i .i64]]
def zgd:FS:=CS 221 [.v (.l (.st 10)), .fn [.st 10] .b] (.v (.i .i64)) (λx=>FI x.1 (λy=>x.2.1.φ (y,()))) λx r hp h=>D9 (f:=221) (t:=Ku 1) (by kernel_rfl) (by kernel_rfl) (L6 (av:=(B3 CT.av (.st 10))) (cn:=1) (λ_=>⟨_,rfl,rfl⟩) h (λy b hb=>hp.2.1 (y,()) b hb))
def zfh:FS:=CS 138 [.v (.l (.st 10)), .fn [.st 10] .b] (.v .b) (λx=>Dy x.1 (λy=>x.2.1.φ (y,()))) λx r hp h=>D9 (f:=138) (t:=JY 221) (by kernel_rfl) (by kernel_rfl) (Lk h λr hr=>zgd.ok x r hp hr)
def zvr:FS:=Ad 140 [.v (.st 10)] (.v .b) (λx=>zpQ x.1) [Fh] []
def zsr:FS:=Ad 139 [.v (.st 10)] (.v .b) (λx=>cA x.1) [zvr] []
def zr9:FS:=Gm zsr λ_=>by kernel_rfl
def zeL:FS:=CS 222 [.v (.l (.st 18)), .fn [.st 18] .b] (.v (.i .i64)) (λx=>FI x.1 (λy=>x.2.1.φ (y,()))) λx r hp h=>D9 (f:=222) (t:=Ku 10) (by kernel_rfl) (by kernel_rfl) (L6 (av:=(B3 CT.av (.st 18))) (cn:=10) (λ_=>⟨_,rfl,rfl⟩) h (λy b hb=>hp.2.1 (y,()) b hb))
def zd4:FS:=CS 141 [.v (.l (.st 18)), .fn [.st 18] .b] (.v .b) (λx=>Dy x.1 (λy=>x.2.1.φ (y,()))) λx r hp h=>D9 (f:=141) (t:=JY 222) (by kernel_rfl) (by kernel_rfl) (Lk h λr hr=>zeL.ok x r hp hr)
def zhO:FS:=CS 355 [.v (.l (.st 16)), .fn [.st 16] .b] (.v (.i .i64)) (λx=>FI x.1 (λy=>x.2.1.φ (y,()))) λx r hp h=>D9 (f:=355) (t:=Ku 4) (by kernel_rfl) (by kernel_rfl) (L6 (av:=(B3 CT.av (.st 16))) (cn:=4) (λ_=>⟨_,rfl,rfl⟩) h (λy b hb=>hp.2.1 (y,()) b hb))
def zgU:FS:=CS 324 [.v (.l (.st 16)), .fn [.st 16] .b] (.v .b) (λx=>Dy x.1 (λy=>x.2.1.φ (y,()))) λx r hp h=>D9 (f:=324) (t:=JY 355) (by kernel_rfl) (by kernel_rfl) (Lk h λr hr=>zhO.ok x r hp hr)
def zBH:FS:=Ad 356 [.v (.i .i64)] (.v .b) (λx=>zB x.1) [] []
def zDD:FS:=Ad 357 [.v (.i .i64)] (.v .b) (λx=>iZ x.1) [] []
def zD7:FS:=Ad 326 [.v (.st 16)] (.v .b) (λx=>jJ x.1) [Fh,eY,zrs,zBH,zDD] []
def zvy:FS:=Ad 325 [.v (.st 16)] (.v .b) (λx=>cL x.1) [zD7] []
def ztO:FS:=Gm zvy λ_=>by kernel_rfl
def zyT:FS:=Ad 287 [.v (.l (.st 16))] (.v .b) (λx=>gL x.1) [zgU,ztO] []
def zvh:FS:=Ad 223 [.v (.l (.st 16))] (.v .b) (λx=>xN x.1) [zyT] []
def zhc:FS:=CS 327 [.v (.l (.st 17)), .fn [.st 17] .b] (.v (.i .i64)) (λx=>FI x.1 (λy=>x.2.1.φ (y,()))) λx r hp h=>D9 (f:=327) (t:=Ku 3) (by kernel_rfl) (by kernel_rfl) (L6 (av:=(B3 CT.av (.st 17))) (cn:=3) (λ_=>⟨_,rfl,rfl⟩) h (λy b hb=>hp.2.1 (y,()) b hb))
def zgj:FS:=CS 288 [.v (.l (.st 17)), .fn [.st 17] .b] (.v .b) (λx=>Dy x.1 (λy=>x.2.1.φ (y,()))) λx r hp h=>D9 (f:=288) (t:=JY 327) (by kernel_rfl) (by kernel_rfl) (Lk h λr hr=>zhc.ok x r hp hr)
def zwK:FS:=Ad 289 [.v (.st 17), .rf (.st 17)] (.v .b) (λx=>yD x.1 x.2.1) [] []
def zvc:FS:=Gm zwK λ_=>by kernel_rfl
def ztk:FS:=Ad 224 [.v (.l (.st 17))] (.v .b) (λx=>XS x.1) [eY,yY,zgj,zvc] [.sp [.i .i64]]
def zl4:FS:=CS 290 [.v (.l (.i .i64)), .fn [.i .i64] .b] (.v (.i .i64)) (λx=>FI x.1 (λy=>x.2.1.φ (y,()))) λx r hp h=>D9 (f:=290) (t:=ZQ) (by kernel_rfl) (by kernel_rfl) (zGa (av:=(B3 CT.av (.i .i64))) (λ_=>rfl) h (λy b hb=>hp.2.1 (y,()) b hb))
def zj2:FS:=CS 225 [.v (.l (.i .i64)), .fn [.i .i64] .b] (.v .b) (λx=>Dy x.1 (λy=>x.2.1.φ (y,()))) λx r hp h=>D9 (f:=225) (t:=JY 290) (by kernel_rfl) (by kernel_rfl) (Lk h λr hr=>zl4.ok x r hp hr)
def zmS:FS:=Ad 226 [.v (.i .i64)] (.v .b) (λx=>tY x.1) [Fh] []
def zmo:FS:=Gm zmS λ_=>by kernel_rfl
def ziZ:FS:=Ad 227 [.v (.st 20), .v (.i .i64)] (.v .b) (λx=>Qx x.1 x.2.1) [Fh] []
def zos:FS:=Ad 143 [.v (.st 20), .v (.st 18)] (.v .b) (λx=>aY x.1 x.2.1) [zvh,ztk,zj2,zmo,ziZ,XQ] []
def zsu:FS:=Ad 142 [.v (.st 18), .rf (.st 20)] (.v .b) (λx=>W9 x.1 x.2.1) [zos] []
def zr0:FS:=Gm zsu λ_=>by kernel_rfl
def zek:FS:=CS 228 [.v (.l (.st 19)), .fn [.st 19] .b] (.v (.i .i64)) (λx=>FI x.1 (λy=>x.2.1.φ (y,()))) λx r hp h=>D9 (f:=228) (t:=Ku 6) (by kernel_rfl) (by kernel_rfl) (L6 (av:=(B3 CT.av (.st 19))) (cn:=6) (λ_=>⟨_,rfl,rfl⟩) h (λy b hb=>hp.2.1 (y,()) b hb))
def zdM:FS:=CS 144 [.v (.l (.st 19)), .fn [.st 19] .b] (.v .b) (λx=>Dy x.1 (λy=>x.2.1.φ (y,()))) λx r hp h=>D9 (f:=144) (t:=JY 228) (by kernel_rfl) (by kernel_rfl) (Lk h λr hr=>zek.ok x r hp hr)
def zqB:FS:=Ad 229 [.v (.st 20), .v (.i .i64)] (.v .b) (λx=>uI x.1 x.2.1) [Fh] []
def ztt:FS:=Ad 230 [.v (.l .s)] (.v .b) (λx=>cD x.1) [Fh,Xx] []
def zny:FS:=Ad 146 [.v (.st 20), .v (.st 19)] (.v .b) (λx=>aV x.1 x.2.1) [zqB,ztt,ztk,XQ,ziZ] [.sp [.i .i64]]
def zsQ:FS:=Ad 145 [.v (.st 19), .rf (.st 20)] (.v .b) (λx=>W8 x.1 x.2.1) [zny] []
def zr7:FS:=Gm zsQ λ_=>by kernel_rfl
def zvg:FS:=Ad 72 [.v (.st 20)] (.v .b) (λx=>XA x.1) [zwU,XQ,Fh,zfh,zr9,zd4,zr0,zdM,zr7,zvp,zvn] [.sp [.i .i64]]
def zAL:FS:=Ad 147 [.v (.st 8)] (.v .b) (λx=>XM x.1) [] []
def ziC:FS:=CS 291 [.v (.l .s), .fn [.s] .b] (.v (.i .i64)) (λx=>FI x.1 (λy=>x.2.1.φ (y,()))) λx r hp h=>D9 (f:=291) (t:=ZQ) (by kernel_rfl) (by kernel_rfl) (zGa (av:=(B3 CT.av .s)) (λ_=>rfl) h (λy b hb=>hp.2.1 (y,()) b hb))
def zhu:FS:=CS 231 [.v (.l .s), .fn [.s] .b] (.v .b) (λx=>Dy x.1 (λy=>x.2.1.φ (y,()))) λx r hp h=>D9 (f:=231) (t:=JY 291) (by kernel_rfl) (by kernel_rfl) (Lk h λr hr=>ziC.ok x r hp hr)
def zyD:FS:=Ad 233 [.v .s] (.v .b) (λx=>fT x.1) [Fh,yU] []
def zpZ:FS:=Ad 232 [.v .s] (.v .b) (λx=>bM x.1) [zyD] []
def zpb:FS:=Gm zpZ λ_=>by kernel_rfl
def uP:FS:=Ad 148 [.v (.st 6), .v (.st 7)] (.v .b) (λx=>M9 x.1 x.2.1) [zhu,zpb] []
def zpF:FS:=Ad 149 [.v (.st 6), .v (.st 8)] (.v .b) (λx=>aX x.1 x.2.1) [uP] []
def zDK:FS:=Ad 74 [.v (.l (.st 6)), .v (.st 9)] (.v .b) (λx=>iX x.1 x.2.1) [Fh,zAL,uP,zpF] []
def tZ:FS:=Ad 165 [.v (.st 6), .v (.st 7)] (.v (.st 0)) (λx=>Qy x.1 x.2.1) [zyN] []
def zpS:FS:=Ad 293 [.v (.st 6), .v .s] (.v .s) (λx=>bI x.1 x.2.1) [] []
def zlG:FS:=Ad 234 [.v (.st 6), .v .s, .v (.st 7)] (.v .s) (λx=>OJ x.1 x.2.1 x.2.2.1) [zpS,vU] []
def zpU:FS:=Ad 150 [.v (.st 6), .v .s, .v (.st 7)] (.v (.l (.st 16))) (λx=>uF x.1 x.2.1 x.2.2.1) [tZ,zlG] []
def zpE:FS:=Ad 235 [.v (.i .i64), .v (.st 0), .rf (.l (.st 16))] (.tu (.cons (.tu .nil) (.cons (.bo (.l (.st 16))) .nil))) (λx=>LS x.1 x.2.1 x.2.2.1) [] []
def zyK:FS:=Ad 236 [.v (.i .i64)] (.v .b) (λx=>zJ x.1) [] []
def zyM:FS:=Ad 237 [.v (.i .i64)] (.v .b) (λx=>yG x.1) [] []
def zqC:FS:=Ad 151 [.v (.st 6), .v (.st 8)] (.v (.l (.st 16))) (λx=>bK x.1 x.2.1) [zyM,zpE,zyK,zlG,tZ] [.sp [.s, .s, .b, .l (.st 16)], .pt, .pt, .sp [.i .i64, .l (.st 16)], .inl, .sp [.s], .pt, .pt]
def zBd:FS:=Ad 76 [.v (.l (.st 6)), .v .s, .v (.st 9)] (.v (.l (.st 16))) (λx=>XP x.1 x.2.1 x.2.2.1) [zpU,zqC] []
def zjK:FS:=Ad 75 [.v (.l (.st 16)), .v (.l (.st 16))] (.v .b) (λx=>aQ x.1 x.2.1) [] [.sp [.i .i64]]
def zwQ:FS:=Ad 25 [.v (.st 21)] (.v .b) (λx=>eQ x.1) [zyj,Fh,zwM,zvg,zfL,zDK,zBd,zjK] [.sp [.i .i64]]
def zr3:FS:=Ad 161 [.v (.st 14)] (.v (.st 13)) (λx=>bO x.1) [] [.sp [.i .i64, .b, .l (.st 12), .i .i64], .inl]
def zqz:FS:=Ad 162 [.v (.st 13)] (.v (.l (.st 12))) (λx=>uU x.1) [] []
def zhS:FS:=CS 360 [.v (.l (.st 2))] (.v (.l (.st 2))) (λx=>tT x.1) λx r hp h=>D9 (f:=360) (t:=UE 24 3) (by kernel_rfl) (by kernel_rfl) (kQ (bytes:=24) (sz:=3) (av:=(B3 CT.av (.st 2))) (λx=>⟨Q4 _ x,TV (by kernel_rfl) x⟩) h)
def zum:FS:=Ad 395 [.v (.st 1)] (.v (.st 11)) (λx=>wW x.1) [] []
def zgZ:FS:=CS 377 [.v (.l (.st 0))] (.v (.l (.st 0))) (λx=>WX x.1) λx r hp h=>D9 (f:=377) (t:=UE 40 3) (by kernel_rfl) (by kernel_rfl) (kQ (bytes:=40) (sz:=3) (av:=(B3 CT.av (.st 0))) (λx=>⟨Q4 _ x,TV (by kernel_rfl) x⟩) h)
def zth:FS:=Ad 337 [.v (.st 11)] (.v (.st 1)) (λx=>TL x.1) [zfp,zgZ] []
def zxp:FS:=Ad 361 [.v (.st 1)] (.v (.st 1)) (λx=>dL x.1) [zum,zth] []
def zpJ:FS:=Ad 331 [.v (.st 22)] (.v (.st 22)) (λx=>Ta x.1) [zpN,zhS,zxp] [.sp [.i .i64, .l (.st 1)]]
def zdT:FS:=Ad 362 [.v (.l (.st 2)), .v (.i .i64), .fn [.st 2, .i .i64] (.i .i64)] (.tu (.cons (.v (.i .i64)) (.cons (.v .b) .nil))) (λx=>aL x.1 x.2.1 (λy0 y1=>x.2.2.1.φ (y0,y1,()))) [] [.sp [.i .i64, .i .i64]]
def zvi:FS:=Ad 396 [.v (.i .i64)] (.v .b) (λx=>Xq x.1) [] []
def znF:FS:=Ad 364 [.v (.i .i64), .v (.i .i64)] (.v (.i .i64)) (λx=>Xa x.1 x.2.1) [zvi] []
def zoq:FS:=Ad 363 [.v (.st 2), .v (.i .i64)] (.v (.i .i64)) (λx=>Qu x.1 x.2.1) [znF] []
def znw:FS:=Gm zoq λ_=>by kernel_rfl
def zjx:FS:=Ad 332 [.v (.st 22), .v (.i .i64)] (.tu (.cons (.v (.i .i64)) (.cons (.v .b) .nil))) (λx=>Sd x.1 x.2.1) [zdT,znw] []
def zd7:FS:=Ad 368 [.v (.l (.st 1)), .v (.i .i64), .fn [.st 1, .i .i64] (.i .i64)] (.tu (.cons (.v (.i .i64)) (.cons (.v .b) .nil))) (λx=>aM x.1 x.2.1 (λy0 y1=>x.2.2.1.φ (y0,y1,()))) [] [.sp [.i .i64, .i .i64]]
def zop:FS:=Ad 369 [.v (.st 1), .v (.i .i64)] (.v (.i .i64)) (λx=>Qt x.1 x.2.1) [znF] []
def znx:FS:=Gm zop λ_=>by kernel_rfl
def zja:FS:=Ad 334 [.v (.st 22), .v (.i .i64)] (.tu (.cons (.v (.i .i64)) (.cons (.v .b) .nil))) (λx=>W2 x.1 x.2.1) [zd7,znx] []
def zdC:FS:=Ad 412 [.v (.l (.st 4)), .v .s, .fn [.st 4, .s] (.i .i64)] (.tu (.cons (.v (.i .i64)) (.cons (.v .b) .nil))) (λx=>aK x.1 x.2.1 (λy0 y1=>x.2.2.1.φ (y0,y1,()))) [] [.sp [.i .i64, .i .i64]]
def zrC:FS:=Ad 295 [.v .s] (.v .b) (λx=>Xh x.1) [] []
def zlA:FS:=Ad 241 [.v .s, .v .s] (.v (.i .i64)) (λx=>W7 x.1 x.2.1) [zrC] []
def zt5:FS:=Ad 413 [.v (.st 4), .v .s] (.v (.i .i64)) (λx=>QH x.1 x.2.1) [zlA] []
def ztb:FS:=Gm zt5 λ_=>by kernel_rfl
def yP:FS:=Ad 398 [.v (.l (.st 4)), .v .s] (.tu (.cons (.v (.i .i64)) (.cons (.v .b) .nil))) (λx=>TE x.1 x.2.1) [zdC,ztb] []
def zxw:FS:=Ad 397 [.v (.l (.st 4)), .v .s] (.v (.i .i64)) (λx=>dF x.1 x.2.1) [yP] []
def zAH:FS:=Ad 416 [.v (.st 4)] (.v .b) (λx=>iK x.1) [Fh,zsM,yY] [.sp [.i .i64]]
def zve:FS:=Ad 400 [.v (.l (.st 4))] (.v .b) (λx=>dO x.1) [Xx,zAH] [.sp [.i .i64, .l .s]]
def zxG:FS:=Ad 365 [.v (.l (.st 4)), .v (.l (.st 0)), .v (.i .i64)] (.tu (.cons (.v (.l (.st 4))) (.cons (.v .b) .nil))) (λx=>dG x.1 x.2.1 x.2.2.1) [zpN,zve,zxw,yP,zht] [.sp [.i .i64, .l (.st 4)], .inl]
def zpY:FS:=Ad 333 [.v (.st 22), .v (.st 11)] (.tu (.cons (.v (.st 22)) (.cons (.v .b) .nil))) (λx=>bF x.1 x.2.1) [zpJ,zja,zhC,zjx,zhi,zxG] [.pt, .inl]
def zgE:FS:=CS 403 [.v (.l (.st 1)), .fn [.st 1] .b] (.v (.i .i64)) (λx=>FI x.1 (λy=>x.2.1.φ (y,()))) λx r hp h=>D9 (f:=403) (t:=Ku 5) (by kernel_rfl) (by kernel_rfl) (L6 (av:=(B3 CT.av (.st 1))) (cn:=5) (λ_=>⟨_,rfl,rfl⟩) h (λy b hb=>hp.2.1 (y,()) b hb))
def zfP:FS:=CS 370 [.v (.l (.st 1)), .fn [.st 1] .b] (.v .b) (λx=>Dy x.1 (λy=>x.2.1.φ (y,()))) λx r hp h=>D9 (f:=370) (t:=JY 403) (by kernel_rfl) (by kernel_rfl) (Lk h λr hr=>zgE.ok x r hp hr)
def zdh:FS:=Ad 239 [.v (.l (.st 0)), .v .s, .fn [.st 0, .s] (.i .i64)] (.tu (.cons (.v (.i .i64)) (.cons (.v .b) .nil))) (λx=>tP x.1 x.2.1 (λy0 y1=>x.2.2.1.φ (y0,y1,()))) [] [.sp [.i .i64, .i .i64]]
def zsF:FS:=Ad 240 [.v (.st 0), .v .s] (.v (.i .i64)) (λx=>S0 x.1 x.2.1) [zlA] []
def zrD:FS:=Gm zsF λ_=>by kernel_rfl
def zpR:FS:=Ad 153 [.v (.l (.st 0)), .v .s] (.tu (.cons (.v (.i .i64)) (.cons (.v .b) .nil))) (λx=>QF x.1 x.2.1) [zdh,zrD] []
def zvs:FS:=Ad 418 [.v (.st 0), .rf (.l (.st 0)), .rf (.l .s)] (.v .b) (λx=>xM x.1 x.2.1 x.2.2.1) [zpR,zeJ] []
def zt3:FS:=Gm zvs λ_=>by kernel_rfl
def zyl:FS:=Ad 404 [.v (.l (.st 0)), .v (.l .s), .v (.l (.st 0))] (.v .b) (λx=>XH x.1 x.2.1 x.2.2.1) [zce,zt3] []
def zDO:FS:=Ad 372 [.v (.st 1), .v (.st 1)] (.v .b) (λx=>zqm x.1 x.2.1) [zyl] []
def zqo:FS:=Ad 371 [.v (.st 1), .rf (.st 1)] (.v .b) (λx=>bC x.1 x.2.1) [zDO] []
def zpW:FS:=Gm zqo λ_=>by kernel_rfl
def zhN:FS:=CS 374 [.v (.l (.st 1))] (.v (.l (.st 1))) (λx=>tS x.1) λx r hp h=>D9 (f:=374) (t:=rF 72 5) (by kernel_rfl) (by kernel_rfl) (zHe (bytes:=72) (sz:=5) (av:=(B3 CT.av (.st 1))) (λx=>Q4 _ x) h)
def zr6:FS:=Ad 373 [.v (.st 22), .v (.l (.st 1))] (.v .b) (λx=>bQ x.1 x.2.1) [zlL,zjC,yP] [.sp [.i .i64, .l .s], .sp [.i .i64, .l .s], .sp [.i .i64, .l .s], .inl]
def zrT:FS:=Ad 335 [.v (.st 22), .v (.l .s), .v (.l (.st 0))] (.v .b) (λx=>cI x.1 x.2.1 x.2.2.1) [zfP,zpW,zhN,zr6] []
def zp1:FS:=Ad 297 [.v (.st 22), .v (.st 11)] (.tu (.cons (.v (.st 22)) (.cons (.v .b) .nil))) (λx=>bH x.1 x.2.1) [zpJ,zjx,zpY,zja,zrT,zth,zhn] []
def zy0:FS:=Ad 247 [.v (.l (.st 11))] (.tu (.cons (.v (.st 22)) (.cons (.v (.l .b)) .nil))) (λx=>gM x.1) [zp1] [.sp [.i .i64, .i .i64, .l (.st 4), .l (.st 1), .l (.st 2), .l .b], .inl]
def zym:FS:=Ad 160 [.v (.l (.st 12))] (.v (.st 22)) (λx=>gA x.1) [zy0] [.sp [.i .i64, .l (.st 11)]]
def zoZ:FS:=Ad 80 [.v (.st 14)] (.v (.st 22)) (λx=>bB x.1) [zr3,zqz,zym] []
def zoc:FS:=Ad 28 [.v (.st 20)] (.v (.l (.st 22))) (λx=>bA x.1) [zoZ] [.sp [.i .i64, .l (.st 22)]]
def zzj:FS:=Ad 77 [.v (.l (.st 4)), .v (.i .i64)] (.v (.l (.st 0))) (λx=>fR x.1 x.2.1) [zvk] [.sp [.i .i64, .l (.st 0)], .inl]
def zxJ:FS:=Ad 78 [.v (.l (.st 0)), .v (.st 0)] (.v (.l (.st 0))) (λx=>eF x.1 x.2.1) [zpR,zgR] []
def zAj:FS:=Ad 27 [.v (.l (.st 22)), .v (.i .i64)] (.tu (.cons (.v (.l (.st 0))) (.cons (.v .b) .nil))) (λx=>gW x.1 x.2.1) [zoA,zzj,zxJ] [.sp [.i .i64, .l (.st 0)], .sp [.i .i64, .l (.st 0)]]
def zj0:FS:=Ad 298 [.v .s, .v .s] (.v .b) (λx=>aS x.1 x.2.1) [] []
def zj4:FS:=Ad 248 [.v .s, .v .s] (.tu (.cons (.v .s) (.cons (.v .b) .nil))) (λx=>tU x.1 x.2.1) [zj0] []
def zrI:FS:=Ad 163 [.v .s, .v .s] (.tu (.cons (.v .s) (.cons (.v .b) .nil))) (λx=>cJ x.1 x.2.1) [zj4] []
def zwC:FS:=Ad 301 [.v .s, .v .s] (.v (.i .i64)) (λx=>dH x.1 x.2.1) [zmf] []
def zsl:FS:=Ad 249 [.v .s, .v .s, .v (.i .i64), .v (.i .i64)] (.v (.l .s)) (λx=>vN x.1 x.2.1 x.2.2.1 x.2.2.2.1) [zt2,zwC,zwH] [.pt, .sp [.s, .i .i64, .l .s]]
def zwS:FS:=Ad 164 [.v .s, .v .s] (.v (.l .s)) (λx=>Xm x.1 x.2.1) [zsl] []
def zp0:FS:=Ad 81 [.v (.st 6), .v (.st 0)] (.tu (.cons (.v (.st 7)) (.cons (.v .b) .nil))) (λx=>bE x.1 x.2.1) [zrI,zwS,uP,tZ] []
def zp8:FS:=Ad 29 [.v (.st 6), .v (.l (.st 0))] (.v (.l (.st 7))) (λx=>uJ x.1 x.2.1) [zp0] [.sp [.i .i64, .l (.st 7)], .inl]
def zx8:FS:=Ad 7 [.v (.st 21), .v (.i .i64)] (.tu (.cons (.v (.l (.st 7))) (.cons (.v .b) .nil))) (λx=>XK x.1 x.2.1) [zwQ,XQ,zoc,zAj,zp8] []
def XB:FS:=Ad 82 [.v (.l .s), .v (.l .s)] (.v .b) (λx=>ON x.1 x.2.1) [] [.sp [.i .i64]]
def zqL:FS:=Ad 30 [.v (.st 7), .v (.st 7)] (.v .b) (λx=>QO x.1 x.2.1) [XB] []
def zBg:FS:=Ad 8 [.v (.l (.st 7)), .v (.l (.st 7))] (.v .b) (λx=>XN x.1 x.2.1) [zqL] [.sp [.i .i64]]
def zCl:FS:=Ad 251 [.v (.st 5), .v (.st 5)] (.v .b) (λx=>iV x.1 x.2.1) [] []
def zAy:FS:=Ad 166 [.v (.l (.st 5)), .v (.l (.st 5))] (.v .b) (λx=>z8 x.1 x.2.1) [zCl] [.sp [.i .i64]]
def zyO:FS:=Ad 83 [.v (.st 6), .v (.st 6)] (.v .b) (λx=>gE x.1 x.2.1) [XB,zAy] []
def zwF:FS:=Ad 31 [.v (.l (.st 6)), .v (.l (.st 6))] (.v .b) (λx=>xY x.1 x.2.1) [zyO] [.sp [.i .i64]]
def zZ:FS:=Ad 32 [.v (.l (.i .i64)), .v (.l (.i .i64))] (.v .b) (λx=>TJ x.1 x.2.1) [] [.sp [.i .i64]]
def zxX:FS:=Ad 167 [.v (.st 8), .v (.st 8)] (.v .b) (λx=>eK x.1 x.2.1) [zqL] []
def zvB:FS:=Ad 84 [.v (.st 9), .v (.st 9)] (.v .b) (λx=>dY x.1 x.2.1) [zxX,zqL] []
def ztB:FS:=Ad 33 [.v (.l (.st 9)), .v (.l (.st 9))] (.v .b) (λx=>wJ x.1 x.2.1) [zvB] [.sp [.i .i64]]
def zyt:FS:=Ad 168 [.v (.st 10), .v (.st 10)] (.v .b) (λx=>eX x.1 x.2.1) [] []
def zv5:FS:=Ad 85 [.v (.l (.st 10)), .v (.l (.st 10))] (.v .b) (λx=>yB x.1 x.2.1) [zyt] [.sp [.i .i64]]
def zzi:FS:=Ad 438 [.v (.st 0), .v (.st 0)] (.v .b) (λx=>fK x.1 x.2.1) [] []
def zv2:FS:=Ad 422 [.v (.l (.st 0)), .v (.l (.st 0))] (.v .b) (λx=>yX x.1 x.2.1) [zzi] [.sp [.i .i64]]
def zDs:FS:=Ad 409 [.v (.st 11), .v (.st 11)] (.v .b) (λx=>jG x.1 x.2.1) [XB,zv2] []
def zyv:FS:=Ad 384 [.v (.st 12), .v (.st 12)] (.v .b) (λx=>gC x.1 x.2.1) [zDs] []
def zxQ:FS:=Ad 344 [.v (.l (.st 12)), .v (.l (.st 12))] (.v .b) (λx=>xW x.1 x.2.1) [zyv] [.sp [.i .i64]]
def zvz:FS:=Ad 305 [.v (.st 13), .v (.st 13)] (.v .b) (λx=>dQ x.1 x.2.1) [zxQ] []
def ztA:FS:=Ad 252 [.v (.l (.st 13)), .v (.l (.st 13))] (.v .b) (λx=>wM x.1 x.2.1) [zvz] [.sp [.i .i64]]
def zys:FS:=Ad 169 [.v (.st 14), .v (.st 14)] (.v .b) (λx=>fX x.1 x.2.1) [ztA] []
def zvT:FS:=Ad 86 [.v (.l (.st 14)), .v (.l (.st 14))] (.v .b) (λx=>yN x.1 x.2.1) [zys] [.sp [.i .i64]]
def zAw:FS:=Ad 253 [.v (.st 15), .v (.st 15)] (.v .b) (λx=>iN x.1 x.2.1) [] []
def zyu:FS:=Ad 170 [.v (.l (.st 15)), .v (.l (.st 15))] (.v .b) (λx=>yH x.1 x.2.1) [zAw] [.sp [.i .i64]]
def zwz:FS:=Ad 87 [.v (.l (.l (.st 15))), .v (.l (.l (.st 15)))] (.v .b) (λx=>yM x.1 x.2.1) [zyu] [.sp [.i .i64]]
def zEP:FS:=Ad 306 [.v (.st 16), .v (.st 16)] (.v .b) (λx=>jM x.1 x.2.1) [] []
def zCy:FS:=Ad 254 [.v (.l (.st 16)), .v (.l (.st 16))] (.v .b) (λx=>zqf x.1 x.2.1) [zEP] [.sp [.i .i64]]
def zDJ:FS:=Ad 307 [.v (.st 17), .v (.st 17)] (.v .b) (λx=>iP x.1 x.2.1) [] []
def zsG:FS:=Ad 255 [.v (.l (.st 17)), .v (.l (.st 17))] (.v .b) (λx=>iC x.1 x.2.1) [zDJ] [.sp [.i .i64]]
def ztI:FS:=Ad 171 [.v (.st 18), .v (.st 18)] (.v .b) (λx=>dE x.1 x.2.1) [zCy,zsG,zZ] []
def zsp:FS:=Ad 88 [.v (.l (.st 18)), .v (.l (.st 18))] (.v .b) (λx=>vQ x.1 x.2.1) [ztI] [.sp [.i .i64]]
def zsS:FS:=Ad 172 [.v (.st 19), .v (.st 19)] (.v .b) (λx=>cF x.1 x.2.1) [XB,zsG] []
def zrL:FS:=Ad 89 [.v (.l (.st 19)), .v (.l (.st 19))] (.v .b) (λx=>vD x.1 x.2.1) [zsS] [.sp [.i .i64]]
def zyV:FS:=Ad 34 [.v (.st 20), .v (.st 20)] (.v .b) (λx=>fZ x.1 x.2.1) [zv5,XB,zvT,zwz,zZ,zsp,zrL] []
def zBN:FS:=Ad 9 [.v (.st 21), .v (.st 21)] (.v .b) (λx=>iD x.1 x.2.1) [zwF,zZ,ztB,zyV] []
def OR:FS:=Ad 90 [.v (.i .i64)] (.v .s) (λx=>Ht x.1) [] [.sp [.i .i64, .s]]
def S3:FS:=Ad 39 [.v (.l .s), .v (.i .i64)] (.tu (.cons (.v (.i .i64)) (.cons (.v (.l .s)) .nil))) (λx=>LW x.1 x.2.1) [OR] [.sp [.i .i64, .i .i64, .l .s]]
def zxA:FS:=Ad 91 [.v (.l (.st 5)), .v (.i .i64)] (.tu (.cons (.v (.i .i64)) (.cons (.v (.l (.st 5))) .nil))) (λx=>xS x.1 x.2.1) [OR] [.sp [.i .i64, .i .i64, .l (.st 5)]]
def zt7:FS:=Ad 35 [.v (.l (.st 6)), .v (.i .i64)] (.tu (.cons (.v (.i .i64)) (.cons (.v (.l (.st 6))) .nil))) (λx=>wH x.1 x.2.1) [OR,S3,zxA] [.sp [.i .i64, .i .i64, .l (.st 6)]]
def yZ:FS:=Ad 36 [.v (.l (.i .i64)), .v (.i .i64)] (.tu (.cons (.v (.i .i64)) (.cons (.v (.l (.i .i64))) .nil))) (λx=>Xn x.1 x.2.1) [] [.sp [.i .i64, .i .i64, .l (.i .i64)]]
def zr5:FS:=Ad 37 [.v (.l (.st 9)), .v (.i .i64)] (.tu (.cons (.v (.i .i64)) (.cons (.v (.l (.st 9))) .nil))) (λx=>vE x.1 x.2.1) [S3] [.sp [.i .i64, .i .i64, .l (.st 9)]]
def ztz:FS:=Ad 92 [.v (.l (.st 10)), .v (.i .i64)] (.tu (.cons (.v (.i .i64)) (.cons (.v (.l (.st 10))) .nil))) (λx=>wX x.1 x.2.1) [] [.sp [.i .i64, .i .i64, .l (.st 10)]]
def zt6:FS:=Ad 308 [.v (.l (.st 0)), .v (.i .i64)] (.tu (.cons (.v (.i .i64)) (.cons (.v (.l (.st 0))) .nil))) (λx=>wO x.1 x.2.1) [OR] [.sp [.i .i64, .i .i64, .l (.st 0)]]
def ztV:FS:=Ad 256 [.v (.l (.st 12)), .v (.i .i64)] (.tu (.cons (.v (.i .i64)) (.cons (.v (.l (.st 12))) .nil))) (λx=>wQ x.1 x.2.1) [S3,zt6] [.sp [.i .i64, .i .i64, .l (.st 12)]]
def zrO:FS:=Ad 173 [.v (.l (.st 13)), .v (.i .i64)] (.tu (.cons (.v (.i .i64)) (.cons (.v (.l (.st 13))) .nil))) (λx=>zip x.1 x.2.1) [ztV] [.sp [.i .i64, .i .i64, .l (.st 13)]]
def zua:FS:=Ad 93 [.v (.l (.st 14)), .v (.i .i64)] (.tu (.cons (.v (.i .i64)) (.cons (.v (.l (.st 14))) .nil))) (λx=>wK x.1 x.2.1) [zrO] [.sp [.i .i64, .i .i64, .l (.st 14)]]
def zvd:FS:=Ad 174 [.v (.l (.st 15)), .v (.i .i64)] (.tu (.cons (.v (.i .i64)) (.cons (.v (.l (.st 15))) .nil))) (λx=>xP x.1 x.2.1) [OR] [.sp [.i .i64, .i .i64, .l (.st 15)]]
def zux:FS:=Ad 94 [.v (.l (.l (.st 15))), .v (.i .i64)] (.tu (.cons (.v (.i .i64)) (.cons (.v (.l (.l (.st 15)))) .nil))) (λx=>wC x.1 x.2.1) [zvd] [.sp [.i .i64, .i .i64, .l (.l (.st 15))]]
def zyI:FS:=Ad 175 [.v (.l (.st 16)), .v (.i .i64)] (.tu (.cons (.v (.i .i64)) (.cons (.v (.l (.st 16))) .nil))) (λx=>zP x.1 x.2.1) [OR] [.sp [.i .i64, .i .i64, .l (.st 16)]]
def zqc:FS:=Ad 176 [.v (.l (.st 17)), .v (.i .i64)] (.tu (.cons (.v (.i .i64)) (.cons (.v (.l (.st 17))) .nil))) (λx=>eH x.1 x.2.1) [OR] [.sp [.i .i64, .i .i64, .l (.st 17)]]
def zq5:FS:=Ad 95 [.v (.l (.st 18)), .v (.i .i64)] (.tu (.cons (.v (.i .i64)) (.cons (.v (.l (.st 18))) .nil))) (λx=>uL x.1 x.2.1) [zyI,zqc,yZ] [.sp [.i .i64, .i .i64, .l (.st 18)]]
def zqw:FS:=Ad 96 [.v (.l (.st 19)), .v (.i .i64)] (.tu (.cons (.v (.i .i64)) (.cons (.v (.l (.st 19))) .nil))) (λx=>uE x.1 x.2.1) [S3,zqc] [.sp [.i .i64, .i .i64, .l (.st 19)]]
def zu4:FS:=Ad 38 [.v (.st 20), .v (.i .i64)] (.tu (.cons (.v (.i .i64)) (.cons (.v (.st 20)) .nil))) (λx=>dM x.1 x.2.1) [ztz,S3,zua,zux,yZ,zq5,zqw] []
def zxs:FS:=Ad 10 [.v (.st 21), .v (.i .i64)] (.tu (.cons (.v (.i .i64)) (.cons (.v (.st 21)) .nil))) (λx=>dI x.1 x.2.1) [zt7,yZ,zr5,zu4] []
def zxK:FS:=Ad 11 [.v (.l (.st 7)), .v (.i .i64)] (.tu (.cons (.v (.i .i64)) (.cons (.v (.l (.st 7))) .nil))) (λx=>yL x.1 x.2.1) [S3] [.sp [.i .i64, .i .i64, .l (.st 7)]]
def zs9:FS:=Ad 40 [.v (.l .s), .v (.i .i64)] (.v (.i .i64)) (λx=>uX x.1 x.2.1) [OR] [.sp [.i .i64, .i .i64]]
def zxa:FS:=Ad 12 [.v (.l (.st 7)), .v (.i .i64)] (.v (.i .i64)) (λx=>eO x.1 x.2.1) [zs9] [.sp [.i .i64, .i .i64]]
def zj5:FS:=Ad 3 [.v (.st 21), .v (.i .i64)] (.v .b) (λx=>bJ x.1 x.2.1) [zA7,zBt,zw5,zx8,zBg,zBN,zxs,zxK,zxa] []
theorem zpT(a0:CW)(a1:Int)(r:Bool)(h:bJ a0 a1=some r):Cj Tryz.prog BM 3 [rX a0, .int .i64 a1] (.bool r):=zj5.ok (a0,a1,()) r (by simp[zj5,Ad,JI,WU]) h
theorem As{α:Type}{xs:List α}{i:Nat}(h:i<xs.length):Ak xs (i:Int)=some xs[i]:=by simp[Ak,h]
theorem rG{α:Type}{xs:List α}{i:Int}(h0:0<=i)(h:i<xs.length):∃x,Ak xs i=some x/\x∈xs/\xs[i.toNat]?=some x:=by
 have hi:i.toNat<xs.length:=by omega
 exact⟨xs[i.toNat],by simp[Ak,h0,hi],Au hi,by simp[hi]⟩
theorem zLu{α:Type}{xs:List α}{i:Int}{x:α}(h:Ak xs i=some x):x∈xs:=by obtain⟨h1,h2,h3⟩:=Z8 h;exact List.mem_of_getElem? h3
theorem BA{q n:Nat}(h:q<n)(hn:n<=9223372036854775807):IntKind.i64.wrap ((q:Int)+1)=((q+1:Nat):Int):=by rw[Cf (by omega) (by omega)];simp
theorem AI{α:Type}{p:Prop}{k:Option α}(h:p):Ar p k=k:=by simp[Ar,h]
def IP{α σ β:Type}(step:α->σ->Option (σ ⊕ Option β))(fin:σ->Option β):List α->σ->Option β
 | [],s=>fin s
 |x::xs,s=>match step x s with
  |none=>none
  |some (.inl s')=>IP step fin xs s'
  |some (.inr o)=>o
def MR{σ τ β:Type}(f:σ->τ):Option (σ ⊕ Option β)->Option (τ ⊕ Option β)
 |none=>none
 |some (.inl s)=>some (.inl (f s))
 |some (.inr o)=>some (.inr o)
theorem zIa{α σ τ β:Type}{xs:List α}{body:τ->Option (τ ⊕ Option β)}(emb:Int->σ->τ)(step:α->σ->Option (σ ⊕ Option β))(fin:σ->Option β)(q0:Nat)
  (hs:∀(i:Nat) (hi:i<xs.length) (s:σ),q0<=i->body (emb i s)=MR (emb ((i+1:Nat):Int)) (step xs[i] s)) (he:∀s,body (emb xs.length s)=some (.inr (fin s))) (s:σ) (h0:q0<=xs.length):Ao body (emb q0 s)=IP step fin (xs.drop q0) s:=by
 have key:∀(n q:Nat) (s:σ),q0<=q->q+n=xs.length->Ao body (emb q s)=IP step fin (xs.drop q) s:=by
  intro n
  induction n with
  |zero=>
   intro q s _ hq;have:q=xs.length:=by omega
   subst this;rw[DN,he s];simp[IP]
  |succ n ih=>
   intro q s h0 hq;have AP:q<xs.length:=by omega
   rw[DN,hs q AP s h0,By AP];rcases FG:step xs[q] s with _|s'|o
   ·simp[IP,FG,MR]
   ·simp only[IP,FG,MR];exact ih (q+1) s' (by omega) (by omega)
   ·simp[IP,FG,MR]
 exact key (xs.length-q0) q0 s (AB _) (by omega)
theorem kS{α σ τ β:Type}{xs:List α}{body:τ->Option (τ ⊕ Option β)}(emb:Int->σ->τ)(step:α->σ->Option (σ ⊕ Option β))(fin:σ->Option β)
  (hs:∀(i:Nat) (hi:i<xs.length) (s:σ),body (emb i s)=MR (emb ((i+1:Nat):Int)) (step xs[i] s)) (he:∀s,body (emb xs.length s)=some (.inr (fin s))) (s:σ):Ao body (emb 0 s)=IP step fin xs s:=by
 have:=zIa emb step fin 0 (λi hi s _=>hs i hi s) he s (by omega);simpa using this
theorem qU{α σ β:Type}{step:α->σ->Option (σ ⊕ Option β)}{fin:σ->Option β}{xs:List α}(p:α->Bool)(b:β)(h:∀x∈xs,∀s,step x s=some (if p x=true then .inl s else .inr (some b)))(s:σ):IP step fin xs s=if xs.all p=true then fin s else some b:=by
 induction xs with
 |nil=>simp[IP]
 |cons x xs ih=>
  simp only[IP,h x (by simp) s];cases hp:p x with
  |true=>simp[hp,ih λy hy=>h y (by simp[hy])]
  |false=>simp[hp]
theorem zKp{α σ β:Type}{step:α->σ->Option (σ ⊕ Option β)}{fin:σ->Option β}{xs:List α}(f:σ->α->σ)(I:σ->Prop)(hI:∀x∈xs,∀s,I s->I (f s x))(h:∀x∈xs,∀s,I s->step x s=some (.inl (f s x))){s:σ}(hs:I s):IP step fin xs s=fin (xs.foldl f s):=by
 induction xs generalizing s with
 |nil=>simp[IP]
 |cons x xs ih=>simp only[IP,h x (by simp) s hs,List.foldl_cons];exact ih (λy hy=>hI y (by simp[hy])) (λy hy=>h y (by simp[hy])) (hI x (by simp) s hs)
theorem Eh{α σ τ β:Type}{xs:List α}{body:τ->Option (τ ⊕ Option β)}(emb:Int->σ->τ)(f:σ->α->σ)(fin:σ->Option β)(I:Nat->σ->Prop)
  (hs:∀(i:Nat) (hi:i<xs.length) (s:σ),I i s->body (emb i s)=some (.inl (emb ((i+1:Nat):Int) (f s xs[i])))/\I (i+1) (f s xs[i])) (he:∀s,I xs.length s->body (emb xs.length s)=some (.inr (fin s))) {s:σ} (h0:I 0 s):Ao body (emb 0 s)=fin (xs.foldl f s)/\I xs.length (xs.foldl f s):=by
 have key:∀(n q:Nat) (s:σ),q+n=xs.length->I q s->Ao body (emb q s)=fin ((xs.drop q).foldl f s)/\I xs.length ((xs.drop q).foldl f s):=by
  intro n
  induction n with
  |zero=>
   intro q s hq hI;have:q=xs.length:=by omega
   subst this;rw[DN,he s hI];simp[hI]
  |succ n ih=>
   intro q s hq hI;have AP:q<xs.length:=by omega
   obtain⟨h1,h2⟩:=hs q AP s hI;rw[DN,h1,By AP,List.foldl_cons];exact ih (q+1) _ (by omega) h2
 have:=key xs.length 0 s (by omega) h0;simpa using this
theorem Km{α:Type}{xs:List α}{p:α->Option Bool}(q:α->Bool)(hp:∀x∈xs,p x=some (q x))(hn:xs.length<=9223372036854775806):Dy xs p=some (xs.any q):=by
 have key:∀(l:List α) (i:Int),0<=i->(∀x∈l,p x=some (q x))-> ∃r,JG p l i=some r/\decide (r>=0)=l.any q:=by
  intro l
  induction l with
  |nil=>intro i _ _;exact⟨-1,rfl,by simp⟩
  |cons x l ih=>
   intro i hi h;simp only[JG,h x (by simp),Aa];cases hq:q x with
   |true=>exact⟨i,by simp,by simp[hq,hi]⟩
   |false=>obtain⟨r,h1,h2⟩:=ih (i+1) (by omega) λy hy=>h y (by simp[hy]);exact⟨r,by simp[h1],by simp[hq,h2]⟩
 obtain⟨r,h1,h2⟩:=key xs 0 (by omega) hp;simp[Dy,FI,AI hn,h1,h2]
theorem O6{α:Type}{b:Nat}{xs:List α}(h:(xs.length:Int)*b<=140737488355328)(h2:(xs.length:Int)<=140737488355328):O9 b xs=some xs:=AI ⟨h,h2⟩
theorem FZ{β:Type}{n:Nat}{body:Int->Option (Int ⊕ Option β)}(p:Nat->Bool)(b:β)(fin:Option β)
  (hs:∀i:Nat,i<n->body i=some (if p i=true then .inl ((i+1:Nat):Int)else .inr (some b))) (he:body n=some (.inr fin)):Ao body 0=if(List.range n).all p=true then fin else some b:=by
 have h1:=kS (xs:=List.range n) (body:=body) (λi (_:Unit)=>i) (λi _=>some (if p i=true then .inl ()else .inr (some b))) (λ_=>fin)
  (λi hi s=>by rw[List.length_range]at hi;rw[hs i hi,List.getElem_range];cases p i<;>simp[MR]) (λs=>by simpa using he) ()
 rw[qU p b λx _ s=>rfl]at h1;exact h1
def CC{α:Type}(p:α->Bool)(l:List α):Int:=match l.findIdx? p with|some i=>(i:Int)|none=> -1
theorem lE{α:Type}(p:α->Bool):CC p []= -1:=rfl
theorem kP{α:Type}(p:α->Bool)(x:α)(l:List α):CC p (x::l)=if p x=true then 0 else if CC p l= -1 then-1 else CC p l+1:=by
 unfold CC;rw[List.findIdx?_cons];cases p x with
 |true=>simp
 |false=>
  cases h:l.findIdx? p with
  |none=>simp
  |some i=>simp<;>omega
theorem Yy{α:Type}(p:α->Bool)(l:List α): -1<=CC p l:=by unfold CC;split<;>omega
theorem Uh{α:Type}(p:α->Bool)(l:List α):decide (CC p l>=0)=l.any p:=by
 induction l with
 |nil=>simp[lE]
 |cons x l ih=>
  have h1:=Yy p l;rw[kP,List.any_cons,<-ih];cases p x with
  |true=>simp
  |false=>
   by_cases h:CC p l= -1
   ·simp[h]
   ·have:CC p l>=0:=by omega
    simp[h,this];try omega
theorem zz8{α:Type}{p:α->Bool}{l:List α}(h:CC p l>=0):∃x,Ak l (CC p l)=some x/\p x=true/\x∈l:=by
 induction l with
 |nil=>simp[lE]at h
 |cons y l ih=>
  rw[kP]at h ⊢;cases hy:p y with
  |true=>exact⟨y,by simp[Ak],hy,by simp⟩
  |false=>
   have h1:=Yy p l;by_cases hm:CC p l= -1
   ·rw[hy,hm]at h;simp at h
   ·have h0:CC p l>=0:=by omega
    obtain⟨x,e1,e2,e3⟩:=ih h0;obtain⟨_,e4,e5⟩:=Z8 e1;refine⟨x,?_,e2,by simp[e3]⟩;simp only[A7,if_false,hm];unfold Ak;rw[if_pos (by omega),show(CC p l+1).toNat=(CC p l).toNat+1 by omega];simpa using e5
theorem kZ{α:Type}{xs:List α}{body:Int->Option (Int ⊕ Option Int)}(p:α->Bool)(hs:∀(i:Nat) (hi:i<xs.length),body i=some (if p xs[i]=true then .inr (some (i:Int))else .inl ((i+1:Nat):Int)))(he:body xs.length=some (.inr (some (-1)))):Ao body 0=some (CC p xs):=by
 have key:∀(n q:Nat),q+n=xs.length->Ao body q=some (if CC p (xs.drop q)= -1 then-1 else q+CC p (xs.drop q)):=by
  intro n
  induction n with
  |zero=>
   intro q hq;have:q=xs.length:=by omega
   subst this;rw[DN,he];simp[lE]
  |succ n ih=>
   intro q hq;have AP:q<xs.length:=by omega
   rw[DN,hs q AP,By AP,kP];cases p xs[q]with
   |true=>simp
   |false=>
    simp only[A7,if_false];rw[ih (q+1) (by omega)];have h1:=Yy p (xs.drop (q+1));congr 1;by_cases hm:CC p (xs.drop (q+1))= -1
    ·simp[hm]
    ·have h2: ¬(CC p (xs.drop (q+1))+1= -1):=by omega
     simp only[hm,if_false,h2];omega
 have h:=key xs.length 0 (by omega);rw[List.drop_zero]at h;rw[show((0:Nat):Int)=0 from rfl]at h;rw[h];have h1:=Yy p xs;by_cases hm:CC p xs= -1
 ·simp[hm]
 ·simp[hm]
theorem zCS{α:Type}{xs:List α}{p:α->Option Bool}(q:α->Bool)(hp:∀x∈xs,p x=some (q x))(hn:xs.length<=9223372036854775806):FI xs p=some (CC q xs):=by
 have key:∀(l:List α) (i:Int),(∀x∈l,p x=some (q x))->JG p l i=some (if CC q l= -1 then-1 else i+CC q l):=by
  intro l
  induction l with
  |nil=>intro i _;simp[JG,lE]
  |cons x l ih=>
   intro i h;simp only[JG,h x (by simp),Aa,kP];cases q x with
   |true=>simp
   |false=>
    simp only[A7,if_false];rw[ih (i+1) λy hy=>h y (by simp[hy])];have h1:=Yy q l;congr 1;by_cases hm:CC q l= -1
    ·simp[hm]
    ·have h2: ¬(CC q l+1= -1):=by omega
     simp only[hm,if_false,h2];omega
 unfold FI;rw[AI hn,key xs 0 hp];by_cases hm:CC q xs= -1
 ·simp[hm]
 ·simp[hm]
theorem zHK{α β:Type}{o:Option α}{x:α}{f:α->Option β}(h:o=some x):o.bind f=f x:=by rw[h];rfl
theorem foldl_map{α β:Type}(f:α->β)(l:List α)(o:List β):l.foldl (λo x=>o++ [f x]) o=o++l.map f:=by
 induction l generalizing o with
 |nil=>simp
 |cons x l ih=>rw[List.foldl_cons,ih];simp
theorem sF{α:Type}{xs:List α}{d:α}{body:Int × List α->Option ((Int × List α) ⊕ Option (List α))}
  (hs:∀(i:Nat) (hi:i<xs.length) (v:List α),v.length=xs.length->body ((i:Int),v)=some (.inl (((i+1:Nat):Int),v.set i xs[i])))
  (he:∀v,body ((xs.length:Int),v)=some (.inr (some v))):Ao body (0,List.replicate xs.length d)=some xs:=by
 have h1:=Eh (xs:=xs) (body:=body) (λi (o:List α)=>(i,o++List.replicate (xs.length-i.toNat) d)) (λ(o:List α) x=>o++ [x]) (λo=>some o) (λi o=>o.length=i)
  (λi hi o ho=>by
   refine⟨?_,by simp[ho]⟩;rw[show((i:Int)).toNat=i from rfl,hs i hi _ (by simp[ho];omega)];congr 3;obtain⟨k,hk⟩:∃k,xs.length-i=k+1:=⟨xs.length-i-1,by omega⟩
   have h2:xs.length-(((i+1:Nat):Int)).toNat=k:=by rw[show(((i+1:Nat):Int)).toNat=i+1 from rfl];omega
   rw[h2,hk,List.replicate_succ];subst ho;simp[List.set_append])
  (λo ho=>by show body ((xs.length:Int),o++List.replicate (xs.length-((xs.length:Int)).toNat) d)=_;rw[show((xs.length:Int)).toNat=xs.length from rfl,Nat.sub_self,List.replicate_zero,AG];exact he o) (s:=([]:List α)) rfl
 have h3:=h1.1;rw[show(λ(o:List α) x=>o++ [x])=(λo x=>o++ [id x])from rfl,foldl_map,List.map_id,List.nil_append]at h3;exact h3
theorem sB{n:Nat}{body:Int->Option (Int ⊕ Option Bool)}(hs:∀i:Nat,i<n->body i=some (.inl ((i+1:Nat):Int)))(he:body n=some (.inr (some true))):Ao body 0=some true:=by have h:=FZ (n:=n) (body:=body) (λ_=>true) false (some true) (λi hi=>by rw[hs i hi,if_pos rfl]) he;rw[h,if_pos (by simp)]
theorem IB{a:Int}{n:Nat}(h0:0<=a)(h1:a<=1048576)(hn:n<=9223372036854775807):IntKind.i64.wrap (a-(n:Int))=a-n:=Cf (by omega) (by omega)
abbrev Am:=Ab
def Ax(a b c:Int):Bool:=decide (a>=b)&&decide (a<=c)
theorem D8{a b c:Int}:Ax a b c=true↔b<=a/\a<=c:=by simp[Ax]
@[simp] theorem Fl(a b c:Int):Dj a b c=some (Ax a b c):=rfl
@[simp] theorem Fx(a b c:Int):Ef a b c=some (Ax a b c):=rfl
def Lo(b:UInt8):Bool:=(decide ((b.toNat:Int)>=97)&&decide ((b.toNat:Int)<=122))||(decide ((b.toNat:Int)>=48)&&decide ((b.toNat:Int)<=57))
def QY(s more:Am):Bool:=s.all λb=>Lo b||more.contains b
theorem zO4{a b:UInt8}:((a.toNat:Int)==(b.toNat:Int))=(a==b):=by
 rw[Bool.eq_iff_iff];simp only[Ay];constructor
 ·intro h;exact UInt8.toNat_inj.1 (by omega)
 ·rintro rfl;rfl
theorem zxW{α:Type}(xs:List α)(p:α->Bool)(q:Nat->Bool)(h:∀(i:Nat) (hi:i<xs.length),q i=p xs[i]):(List.range xs.length).all q=xs.all p:=by
 rw[Bool.eq_iff_iff];simp only[Ba,List.mem_range];constructor
 ·intro hq x hx;obtain⟨i,hi,rfl⟩:=List.getElem_of_mem hx;rw[<-h i hi];exact hq i hi
 ·intro hp i hi;rw[h i hi];exact hp _ (Au hi)
theorem Jc{α β:Type}{xs:List α}{body:Int->Option (Int ⊕ Option β)}(p:α->Bool)(b:β)(fin:Option β)
  (hs:∀(i:Nat) (hi:i<xs.length),body i=some (if p xs[i]=true then .inl ((i+1:Nat):Int)else .inr (some b))) (he:body xs.length=some (.inr fin)):Ao body 0=if xs.all p=true then fin else some b:=by
 rw[FZ (n:=xs.length) (λi=>match xs[i]? with|some x=>p x|none=>true) b fin (λi hi=>by rw[hs i hi];simp[hi]) he,
  zxW xs p _ λi hi=>by simp[hi]]
theorem zwf{s more:Am}(h1:s.length<=2000000)(h2:more.length<=2000000):TG s more=some (QY s more):=by
 unfold TG;rw[Jc (xs:=s) (λb=>Lo b||more.contains b) false (some true) ?_ (by simp[vJ])]
 ·unfold QY;cases(s.all λb=>Lo b||more.contains b)<;>rfl
 ·intro i hi;have Cs:Ao (λt:Bool × Int=>Xk more i s[i] t.1 t.2) (Lo s[i],0)=some (if(Lo s[i]||more.contains s[i])=true then .inl ((i+1:Nat):Int)else .inr (some false)):=by
   have hl:=kS (xs:=more) (body:=λt:Bool × Int=>Xk more i s[i] t.1 t.2) (λk (ok:Bool)=>(ok,k)) (λb ok=>some (.inl (ok||s[i]==b))) (λok=>wY i ok)
    (λk hk ok=>by simp only[Xk,Int.ofNat_lt,hk,decide_true,if_true,As hk,Aa,BA hk (by omega:more.length<=_),zO4,MR];cases ok<;>simp) (λok=>by simp[Xk]) (Lo s[i])
   rw[zKp (λok b=>ok||s[i]==b) (λ_=>True) (λ_ _ _ _=>trivial) (λ_ _ _ _=>rfl) trivial]at hl;have hf:∀(l:Am) (ok:Bool),l.foldl (λok b=>ok||s[i]==b) ok=(ok||l.contains s[i]):=by
    intro l
    induction l with
    |nil=>intro ok;simp
    |cons c l ih=>intro ok;rw[List.foldl_cons,ih,List.contains_cons,Bool.or_assoc]
   rw[hl,hf];unfold wY;rw[BA hi (by omega)];cases(Lo s[i]||more.contains s[i])<;>rfl
  simp only[vJ,Int.ofNat_lt,hi,decide_true,if_true,As hi,Aa];exact Cs
theorem zAs(l:Am)(c:UInt8):decide (Lib.indexByte l c<0)= !l.contains c:=by
 induction l with
 |nil=>rfl
 |cons b l ih=>
  unfold Lib.indexByte;have Za:=Lib.indexByte_ge l c;rw[List.contains_cons];by_cases hb:b=c
  ·subst hb;simp
  ·have h1:(b==c)=false:=by simpa using hb
   have h2:(c==b)=false:=by simpa using λh=>hb h.symm
   rw[h1,h2];simp only[A7,if_false,Bool.false_or];rw[<-ih];by_cases hm:Lib.indexByte l c= -1
   ·simp[hm]
   ·have h3:(Lib.indexByte l c== -1)=false:=by simpa using hm
    rw[h3];simp only[A7,if_false];rw[decide_eq_decide];omega
theorem ztN{s more:Am}(h1:s.length<=2000000):TB s more=some (QY s more):=by
 unfold TB;rw[Jc (xs:=s) (λb=>Lo b||more.contains b) false (some true) ?_ (by simp[uV])]
 ·unfold QY;cases(s.all λb=>Lo b||more.contains b)<;>rfl
 ·intro i hi;have hu:((s[i].toNat:Int)).toNat.toUInt8=s[i]:=by simp
  simp only[uV,Int.ofNat_lt,hi,decide_true,if_true,As hi,Aa,uD,u3,aR,hu,zAs,BA hi (by omega:s.length<=_)];rw[show((decide ((s[i].toNat:Int)>=97)&&decide ((s[i].toNat:Int)<=122))||(decide ((s[i].toNat:Int)>=48)&&decide ((s[i].toNat:Int)<=57)))=Lo s[i]from rfl];cases Lo s[i]<;>cases more.contains s[i]<;>rfl
def CM(s:Am):Bool:=Ax s.length 1 12&&QY s [46,47]
def Kp(s:Am):Bool:=decide ((s.length:Int)<=24)&&QY s [46,45,44,95]
theorem Lq{s:Am}(h:s.length<=2000000):Ld s=some (CM s):=by simp only[Ld,Fl,Aa,zwf h (more:=[46,47]) (by decide),CM];cases Ax s.length 1 12<;>simp
theorem ZO{s:Am}(h:s.length<=2000000):QN s=some (CM s):=by simp only[QN,Fx,Aa,ztN h,CM];cases Ax s.length 1 12<;>simp
theorem sI{s:Am}(h:s.length<=2000000):TM s=some (Kp s):=by simp only[TM,Aa,zwf h (more:=[46,45,44,95]) (by decide),Kp];by_cases hl:(s.length:Int)<=24<;>simp[hl]
theorem zMW{s:Am}(h:s.length<=2000000):XJ s=some (Kp s):=by simp only[XJ,Aa,ztN h,Kp];by_cases hl:(s.length:Int)<=24<;>simp[hl]
def Fk(v:Am)(Is:Bool):Bool:=Kp v&&(!Is||v==[])
theorem kC{v:Am}{Is:Bool}(h:v.length<=2000000):TA v Is=some (Fk v Is):=by simp only[TA,zMW h,Aa,Fk,bne];cases Kp v<;>cases Is<;>cases(v==[])<;>rfl
theorem pJ{k v:Am}{Is:Bool}(hk:k.length<=2000000)(hv:v.length<=2000000):XI k v Is=some (CM k&&Fk v Is):=by simp only[XI,Lq hk,sI hv,Aa,Fk];cases CM k<;>simp
def HD(ks:List Am)(i:Nat):Bool:=i==0||Op.bytesLess ((ks[i-1]?).getD []) ((ks[i]?).getD [])
def Ma(ks:List Am):Bool:=(List.range ks.length).all (HD ks)
theorem Uc:∀(a b:Am),(Op.bytesLess a b||a==b)= !Op.bytesLess b a
 | [],[]=>rfl
 | [],_::_=>rfl
 |_::_,[]=>rfl
 |x::a,y::b=>by
  have ih:=Uc a b;simp only[Op.bytesLess];rcases Nat.lt_trichotomy x.toNat y.toNat with h|h|h
  ·have h1:x<y:=UInt8.lt_iff_toNat_lt.2 h;have h2: ¬y<x:=λh'=>by have:=UInt8.lt_iff_toNat_lt.1 h';omega
   have h3: ¬y=x:=λh'=>by subst h';omega
   simp[h1,h2,h3]
  ·have h0:x=y:=UInt8.toNat_inj.1 h;subst h0;have h1: ¬x<x:=λh'=>by have:=UInt8.lt_iff_toNat_lt.1 h';omega
   rw[show((x::a)==(x::b))=(a==b) by simp];simp only[h1,decide_false,Bool.false_or,beq_self_eq_true,Bool.true_and];exact ih
  ·have h1: ¬x<y:=λh'=>by have:=UInt8.lt_iff_toNat_lt.1 h';omega
   have h2:y<x:=UInt8.lt_iff_toNat_lt.2 h;have h3: ¬x=y:=λh'=>by subst h';omega
   simp[h1,h2,h3]
theorem JN{i:Nat}(h0:0<i)(h:i<=2000000):IntKind.i64.wrap ((i:Int)-1)=((i-1:Nat):Int):=by rw[Cf (by omega) (by omega)];omega
theorem Uj{α:Type}(xs:List α)(p:α->Bool)(q r:Nat->Bool)(h:∀(i:Nat) (hi:i<xs.length),r i=(p xs[i]&&q i)):(List.range xs.length).all r=(xs.all p&&(List.range xs.length).all q):=by
 rw[<-zxW xs p (λi=>match xs[i]? with|some x=>p x|none=>true) λi hi=>by simp[hi]];rw[Bool.eq_iff_iff];simp only[Ac,Ba,List.mem_range];constructor
 ·intro hr;exact⟨λi hi=>by have:=hr i hi;rw[h i hi,Ac]at this;simpa[hi]using this.1,λi hi=>by have:=hr i hi;rw[h i hi,Ac]at this;exact this.2⟩
 ·rintro⟨h1,h2⟩ i hi;rw[h i hi,Ac];exact⟨by have:=h1 i hi;simpa[hi]using this,h2 i hi⟩
theorem zrA{ks:List Am}(h:ks.length<=2000000)(hk:∀k∈ks,k.length<=2000000):Na ks=some (ks.all CM&&Ma ks):=by
 unfold Na Ma;rw[FZ (n:=ks.length) (λi=>CM ((ks[i]?).getD [])&&HD ks i) false (some true) ?_ (by simp[u9]),Uj ks CM (HD ks) _ λi hi=>by simp[hi]]
 ·cases(ks.all CM&&(List.range ks.length).all (HD ks))<;>rfl
 ·intro i hi;simp only[u9,Int.ofNat_lt,hi,decide_true,if_true,As hi,Aa,ZO (hk _ (Au hi)),BA hi (by omega:ks.length<=_),AL hi,Be,HD];by_cases h0:i=0
  ·subst h0;cases CM ks[0]<;>simp
  ·have hp:(i:Int)>0:=by omega
   have CO:i-1<ks.length:=by omega
   have hb:(i==0)=false:=by simpa using h0
   simp only[hp,decide_true,if_true,JN (Nat.pos_of_ne_zero h0) (by omega:i<=2000000),As CO,Aa,Uc,AL CO,Be,hb,Bool.false_or];cases CM ks[i]<;>cases Op.bytesLess ks[i-1] ks[i]<;>rfl
theorem zEn{l:List Ah}(h:l.length<=2000000):eA l=some (l.map (·.ab)):=by
 have h1:=Eh (xs:=l) (body:=λs:Int × List Am=>Si l s.1 s.2) (λi (o:List Am)=>(i,o)) (λo w=>o++ [w.ab]) (λo=>some o) (λq o=>o.length=q)
  (λi hi o hI=>by
   refine⟨?_,by simp[hI]⟩;show Si l i o=_;unfold Si;have hr:((o.length:Int)+(([l[i].ab]:List Am).length:Int))*16<=140737488355328/\(o.length:Int)+(([l[i].ab]:List Am).length:Int)<=140737488355328:=by rw[AO,hI];omega
   rw[if_pos (by simpa using hi),As hi,Aa,AI hr,BA hi (by omega)]) (λo _=>by
   show Si l l.length o=_;unfold Si;rw[if_neg (by simp)]) (s:=[]) rfl
 have hf:∀(l:List Ah) (o:List Am),l.foldl (λo w=>o++ [w.ab]) o=o++l.map (·.ab):=by
  intro l
  induction l with
  |nil=>intro o;simp
  |cons w l ih=>intro o;rw[List.foldl_cons,ih];simp
 have h2:=h1.1;rw[hf,List.nil_append]at h2;unfold eA;exact h2
def Mg(w:Ah):Bool:=CM w.ab&&Fk w.aw w.bm
def Hw(l:List Ah):Bool:=decide ((l.length:Int)<=24)&&(l.all Mg&&Ma (l.map (·.ab)))
def UA(l:List Ah):Prop:=l.length<=2000000/\ ∀w∈l,w.ab.length<=2000000/\w.aw.length<=2000000
theorem zCI{l:List Ah}(h:UA l):Xi l=some (Hw l):=by
 have e1:Dy l (λy0_=>bU y0_)=some (l.any λw=> !Fk w.aw w.bm):=Km _ (λw hw=>by simp[bU,kC (h.2 w hw).2]) (by have:=h.1;omega);have e2:=zrA (ks:=l.map (·.ab)) (by simpa using h.1) (by simp only[List.mem_map];rintro k ⟨w,hw,rfl⟩;exact(h.2 w hw).1);simp only[Xi,zEn h.1,e1,e2,Aa,Hw,<-List.not_all_eq_any_not];have e3:l.all Mg=((l.map (·.ab)).all CM&&l.all λw=>Fk w.aw w.bm):=by
  rw[Bool.eq_iff_iff];simp only[Ba,Ac,Mg,List.mem_map];constructor
  ·intro h;exact⟨by rintro k ⟨w,hw,rfl⟩;exact(h w hw).1,λw hw=>(h w hw).2⟩
  ·rintro⟨h1,h2⟩ w hw;exact⟨h1 _ ⟨w,hw,rfl⟩,h2 w hw⟩
 rw[e3];generalize (l.map (·.ab)).all CM=b1;generalize Ma (l.map (·.ab))=b2;generalize (l.all λw=>Fk w.aw w.bm)=b3;by_cases hl:(l.length:Int)<=24<;>cases b1<;>cases b2<;>cases b3<;>simp[hl]
theorem zCO{l:List Ah}(h:UA l):Xo l=some (Hw l):=by
 unfold Xo;have hn:=h.1;rw[FZ (n:=l.length) (λi=>Mg ((l[i]?).getD ⟨[],[],false⟩)&&HD (l.map (·.ab)) i) false (u5 l) ?_ (by simp[vT]),Uj l Mg (HD (l.map (·.ab))) _ λi hi=>by simp[hi]]
 ·unfold u5 Hw Ma;rw[List.length_map];cases(l.all Mg&&(List.range l.length).all (HD (l.map (·.ab))))<;>simp
 ·intro i hi;have hm:=h.2 _ (Au hi);simp only[vT,Int.ofNat_lt,hi,decide_true,if_true,As hi,Aa,pJ hm.1 hm.2,BA hi (by omega:l.length<=_),AL hi,Be,HD,List.getElem?_map,Option.map_some];rw[show(CM l[i].ab&&Fk l[i].aw l[i].bm)=Mg l[i]from rfl];by_cases h0:i=0
  ·subst h0;cases Mg l[0]<;>simp
  ·have hp:(i:Int)>0:=by omega
   have CO:i-1<l.length:=by omega
   have hb:(i==0)=false:=by simpa using h0
   simp only[hp,decide_true,if_true,JN (Nat.pos_of_ne_zero h0) (by omega:i<=2000000),As CO,Aa,AL CO,Option.map_some,Be,hb,Bool.false_or];cases Mg l[i]<;>cases Op.bytesLess l[i-1].ab l[i].ab<;>rfl
def Nl(l:List Ah):Bool:=Hw l&&l.all λw=> !w.bm
theorem zNJ{l:List Ah}(h:UA l):hP l=some (Nl l):=by
 have hn:=h.1;unfold hP;rw[Jc (xs:=l) (λw=> !w.bm) false (xK l) (λi hi=>by simp only[xJ,Int.ofNat_lt,hi,decide_true,if_true,As hi,Aa,BA hi (by omega:l.length<=_)];cases l[i].bm<;>rfl) (by simp[xJ])]
 simp only[xK,zCO h,Aa,Nl];cases(l.all λw=> !w.bm)<;>simp
def small(b:UInt8):Bool:= !(decide ((b.toNat:Int)<97)||decide ((b.toNat:Int)>122))
def Fj(s:Am)(n:Int):Bool:=s.all small&&Ax s.length 1 n
theorem ztJ{s:Am}{n:Int}(h:s.length<=2000000):SO s n=some (Fj s n):=by
 unfold SO;rw[Jc (xs:=s) small false (uQ s n) (λi hi=>by simp only[uK,Int.ofNat_lt,hi,decide_true,if_true,As hi,Aa,BA hi (by omega:s.length<=_)];rw[show(decide ((s[i].toNat:Int)<97)||decide ((s[i].toNat:Int)>122))= !small s[i] by simp[small]];cases small s[i]<;>rfl) (by simp[uK])]
 unfold uQ Fj Ax;cases s.all small<;>simp
theorem zuv{s:Am}{n:Int}(h:s.length<=2000000):SE s n=some (Fj s n):=by
 unfold SE;rw[Jc (xs:=s) small false (uN s n) (λi hi=>by simp only[uO,Int.ofNat_lt,hi,decide_true,if_true,As hi,Aa,BA hi (by omega:s.length<=_)];rw[show(decide ((s[i].toNat:Int)<97)||decide ((s[i].toNat:Int)>122))= !small s[i] by simp[small]];cases small s[i]<;>rfl) (by simp[uO])]
 simp only[uN,Fx,Aa,Fj];cases s.all small<;>simp
theorem zQN{xs:List Am}{s:Am}(h:xs.length<=2000000):jC xs s=some (CC (· ==s) xs):=by unfold jC;refine kZ (· ==s) (λi hi=> ?_) (by simp[yS]);simp only[yS,Int.ofNat_lt,hi,decide_true,if_true,As hi,Aa,BA hi (by omega:xs.length<=_)];cases xs[i]==s<;>rfl
theorem zLI{xs:List Am}{s:Am}(h:xs.length<=2000000):aT xs s=some (CC (· ==s) xs):=by unfold aT;refine kZ (· ==s) (λi hi=> ?_) (by simp[tW]);simp only[tW,Int.ofNat_lt,hi,decide_true,if_true,As hi,Aa,BA hi (by omega:xs.length<=_)];rw[show(s==xs[i])=(xs[i]==s)from BEq.comm];cases xs[i]==s<;>rfl
theorem zNb(xs:List Am)(s:Am):(xs.any λx=>x==s)=xs.contains s:=by rw[List.contains_eq_any_beq];congr 1;funext x;exact BEq.comm
theorem zMZ{xs:List Am}{s:Am}(h:xs.length<=2000000):WW xs s=some (xs.contains s):=by simp only[WW,zLI h,Aa,Uh,zNb]
def Qk(cs:List Am)(i:Nat):Bool:=Fj ((cs[i]?).getD []) 3&& !(cs.take i).contains ((cs[i]?).getD [])
def Q6(cs:List Am):Bool:=(List.range cs.length).all (Qk cs)
def Jn(t:An)(i:Nat):Bool:=
 let x:=(t.aj[i]?).getD ⟨[],0,0⟩
 Fj x.ae 1&&Ax x.dk 1 ((t.bf.length:Int)-1)&&Ax x.bg 0 3&&(i==0||Op.bytesLess ((t.aj[i-1]?).getD ⟨[],0,0⟩).ae x.ae)
def Es(t:An):Bool:=Fj t.ae 1&&(Q6 t.bf&&Ax t.bf.length 2 4)&&decide ((t.aj.length:Int)<=3)&&(List.range t.aj.length).all (Jn t)
structure Eu(t:An):Prop where
 name:t.ae.length<=2000000
 jh:t.bf.length<=2000000
 pe:∀c∈t.bf,c.length<=2000000
 idxs:t.aj.length<=2000000
 idx:∀x∈t.aj,x.ae.length<=2000000
theorem RU{α:Type}(xs:List α)(i:Nat):AU xs 0 i=xs.take i:=by simp[AU]
theorem zOu{cs:List Am}(h:cs.length<=2000000)(hc:∀c∈cs,c.length<=2000000):gF cs=some (Q6 cs&&Ax cs.length 2 4):=by
 unfold gF;rw[FZ (n:=cs.length) (Qk cs) false (wT cs) ?_ (by simp[wU])]
 ·simp only[wT,Fl,Aa,Q6];cases(List.range cs.length).all (Qk cs)<;>simp
 ·intro i hi;unfold wU Qk;rw[if_pos (by simpa using hi),As hi,Aa,ztJ (hc _ (Au hi)),Aa,AI (by omega),RU,zQN (by rw[AE];omega),Aa,Uh,zNb,BA hi (by omega)];simp only[AL hi,Be];cases Fj cs[i] 3<;>cases(cs.take i).contains cs[i]<;>rfl
theorem Ug{t:An}(h:Eu t):OP t=some (Es t):=by
 have hw:=Cf (n:=(t.bf.length:Int)-1) (by omega) (by have:=h.jh;omega);have hn:=h.idxs;have hl:Ao (λs:Int=>bV t s) 0=some ((List.range t.aj.length).all (Jn t)):=by
  rw[FZ (n:=t.aj.length) (Jn t) false (some true) ?_ (by simp[bV])]
  ·cases(List.range t.aj.length).all (Jn t)<;>rfl
  ·intro i hi;unfold Jn;simp only[bV,Int.ofNat_lt,hi,decide_true,if_true,As hi,Aa,ztJ (h.idx _ (Au hi)),Fl,hw,BA hi (by omega:t.aj.length<=_),AL hi,Be];by_cases h0:i=0
   ·subst h0;cases Fj t.aj[0].ae 1<;>cases Ax t.aj[0].dk 1 ((t.bf.length:Int)-1)<;>cases Ax t.aj[0].bg 0 3<;>rfl
   ·have hp:(i:Int)>0:=by omega
    have CO:i-1<t.aj.length:=by omega
    have hb:(i==0)=false:=by simpa using h0
    simp only[hp,decide_true,if_true,JN (Nat.pos_of_ne_zero h0) (by omega:i<=2000000),As CO,Aa,AL CO,Be,hb,Bool.false_or];cases Fj t.aj[i].ae 1<;>cases Ax t.aj[i].dk 1 ((t.bf.length:Int)-1)<;>cases Ax t.aj[i].bg 0 3<;>cases Op.bytesLess t.aj[i-1].ae t.aj[i].ae<;>rfl
 unfold OP Es;rw[ztJ h.name,Aa,zOu h.jh h.pe,hl];by_cases hk:(t.aj.length:Int)<=3
 ·have Ce: ¬(t.aj.length:Int)>3:=by omega
  simp only[hk,Ce,decide_true,decide_false,Bool.or_false,Bool.and_true];cases Fj t.ae 1<;>cases(Q6 t.bf&&Ax t.bf.length 2 4)<;>simp
 ·have Ce:(t.aj.length:Int)>3:=by omega
  simp only[hk,Ce,decide_true,decide_false,Bool.or_true,Bool.and_false,Bool.false_and];cases Fj t.ae 1<;>simp
theorem zKQ{t:An}(h:Eu t):cK t=some (Es t):=by
 have hw:=Cf (n:=(t.bf.length:Int)-1) (by omega) (by have:=h.jh;omega);have hn:=h.idxs;have hm:=h.jh;have hl:Ao (λs:Int=>cH t s) 0=some ((List.range t.aj.length).all (Jn t)):=by
  rw[FZ (n:=t.aj.length) (Jn t) false (some true) ?_ (by simp[cH])]
  ·cases(List.range t.aj.length).all (Jn t)<;>rfl
  ·intro i hi;unfold Jn;simp only[cH,yJ,Int.ofNat_lt,hi,decide_true,if_true,As hi,Aa,zuv (h.idx _ (Au hi)),Fx,hw,BA hi (by omega:t.aj.length<=_),AL hi,Be];by_cases h0:i=0
   ·subst h0;cases Fj t.aj[0].ae 1<;>cases Ax t.aj[0].dk 1 ((t.bf.length:Int)-1)<;>cases Ax t.aj[0].bg 0 3<;>rfl
   ·have hp:(i:Int)>0:=by omega
    have CO:i-1<t.aj.length:=by omega
    have hb:(i==0)=false:=by simpa using h0
    simp only[hp,decide_true,if_true,JN (Nat.pos_of_ne_zero h0) (by omega:i<=2000000),As CO,Aa,AL CO,Be,hb,Bool.false_or,Uc];cases Fj t.aj[i].ae 1<;>cases Ax t.aj[i].dk 1 ((t.bf.length:Int)-1)<;>cases Ax t.aj[i].bg 0 3<;>cases Op.bytesLess t.aj[i-1].ae t.aj[i].ae<;>rfl
 have hc:Ao (λs:Int=>bP t s) 0=some (Q6 t.bf&&(List.range t.aj.length).all (Jn t)):=by
  rw[FZ (n:=t.bf.length) (Qk t.bf) false (u7 t) ?_ (by simp[bP])]
  ·unfold u7 Q6;rw[hl];cases(List.range t.bf.length).all (Qk t.bf)<;>simp
  ·intro i hi;unfold bP Qk;rw[if_pos (by simpa using hi),As hi,Aa,zuv (h.pe _ (Au hi)),Aa,AI (by omega),RU,zMZ (by rw[AE];omega),Aa,BA hi (by omega)];simp only[AL hi,Be];cases Fj t.bf[i] 3<;>cases(t.bf.take i).contains t.bf[i]<;>rfl
 unfold cK Es;rw[zuv h.name,Aa,Fx,Aa,hc];by_cases hk:(t.aj.length:Int)<=3
 ·have Ce: ¬(t.aj.length:Int)>3:=by omega
  simp only[hk,Ce,decide_true,decide_false,Bool.or_false,Bool.and_true];cases Fj t.ae 1<;>cases Q6 t.bf<;>cases Ax t.bf.length 2 4<;>simp
 ·have Ce:(t.aj.length:Int)>3:=by omega
  simp only[hk,Ce,decide_true,decide_false,Bool.or_true,Bool.and_false,Bool.false_and];cases Fj t.ae 1<;>simp
theorem Wl{t:An}{s:Am}(h:Eu t):QK t s=some (CC (λx:A5=>x.ae==s) t.aj):=by have hn:=h.idxs;unfold QK;refine kZ (λx:A5=>x.ae==s) (λi hi=> ?_) (by simp[xI]);simp only[xI,Int.ofNat_lt,hi,decide_true,if_true,As hi,Aa,BA hi (by omega:t.aj.length<=_)];cases t.aj[i].ae==s<;>rfl
theorem Wb{t:An}{s:Am}(h:Eu t):Sy t s=some (CC (λx:A5=>x.ae==s) t.aj):=by have hn:=h.idxs;have e:FI t.aj (λy0_=>uB y0_ s)=some (CC (λx:A5=>x.ae==s) t.aj):=zCS (λx:A5=>x.ae==s) (λx _=>rfl) (by omega);simp only[Sy,e,Aa]
def CV(c:UInt8):Am->List Am
 | []=> [[]]
 |b::s=>if b=c then []::CV c s else(match CV c s with| []=> [[b]]|x::xs=>(b::x)::xs)
theorem zB6(c:UInt8)(s:Am):CV c s≠ []:=by
 cases s with
 |nil=>simp[CV]
 |cons b s=>simp only[CV];split;simp;split<;>simp
theorem zrv{c:UInt8}:∀{s:Am},(∀b∈s,b≠c)->CV c s=[s]
 | [],_=>rfl
 |b::s,h=>by have e:=zrv (c:=c) (s:=s) λx hx=>h x (List.mem_cons_of_mem _ hx);simp only[CV,if_neg (h b (by simp)),e]
theorem zwq{c:UInt8}:∀{p q:Am},(∀b∈p,b≠c)->CV c (p++c::q)=p::CV c q
 | [],q,_=>by simp[CV]
 |b::p,q,h=>by have e:=zwq (c:=c) (p:=p) (q:=q) λx hx=>h x (List.mem_cons_of_mem _ hx);simp only[List.cons_append,CV,if_neg (h b (by simp)),e]
theorem jX(c:UInt8)(s:Am):(CV c s).length=s.count c+1:=by
 induction s with
 |nil=>rfl
 |cons b s ih=>
  simp only[CV];by_cases h:b=c
  ·subst h;simp[ih]
  ·rw[if_neg h,List.count_cons_of_ne h];cases hs:CV c s with
   |nil=>exact absurd hs (zB6 c s)
   |cons x xs=>rw[hs]at ih;simpa using ih
theorem RX{α:Type}(xs:List α)(i j:Nat):AU xs (i:Int) (j:Int)=(xs.take j).drop i:=by simp[AU]
def aH(c:UInt8)(s:Am)(t:List Am × Nat)(i:Nat):List Am × Nat:=if(s[i]?).getD 0=c then(t.1++ [(s.take i).drop t.2],i+1)else t
theorem zKV{s:Am}{c:UInt8}(h:s.length<=2000000):XF s c.toNat=some (CV c s):=by
 have h1:=Eh (xs:=List.range s.length) (body:=λt:List Am × Int × Int=>SQ s c.toNat t.1 t.2.1 t.2.2) (λi (t:List Am × Nat)=>(t.1,(t.2:Int),i)) (aH c s) (λt=>w6 s t.2 t.1)
  (λi t=>t.2<=i/\(∀b∈(s.take i).drop t.2,b≠c)/\t.1++CV c (s.drop t.2)=CV c s/\t.1.length<=i)
  (λi hi t hI=>by
   rw[List.length_range]at hi;obtain⟨I1,I2,I3,I4⟩:=hI;have hw:=BA hi (by omega:s.length<=_);rw[List.getElem_range];constructor
   ·show SQ s c.toNat t.1 t.2 i=_;unfold SQ aH;rw[if_pos (by simpa using hi),As hi,Aa,zO4,hw,RX,AL hi,Be];by_cases hc:s[i]=c
    ·have hr:((t.1.length:Int)+(([(s.take i).drop t.2]:List Am).length:Int))*16<=140737488355328/\(t.1.length:Int)+(([(s.take i).drop t.2]:List Am).length:Int)<=140737488355328:=by
      rw[AO];omega
     rw[if_pos (by simpa using hc),AI (by omega),AI hr,if_pos hc]
    ·rw[if_neg (by simpa using hc),if_neg hc]
   ·unfold aH;rw[AL hi,Be];have CG:s.take (i+1)=s.take i++ [s[i]]:=by rw[List.take_succ_eq_append_getElem hi]
    have hd:(s.take (i+1)).drop t.2=(s.take i).drop t.2++ [s[i]]:=by rw[CG,List.drop_append_of_le_length (by rw[AE];omega)]
    by_cases hc:s[i]=c
    ·rw[if_pos hc];refine⟨AB _,by simp,?_,by simp;omega⟩;have e:s.drop t.2=(s.take i).drop t.2++c::s.drop (i+1):=by
      have e0:s.drop t.2=(s.take i).drop t.2++s.drop i:=by
       conv=>lhs;rw[<-B6 i s]
       rw[List.drop_append_of_le_length (by rw[AE];omega)]
      rw[e0,By hi,hc]
     rw[e,zwq I2]at I3;simpa using I3
    ·rw[if_neg hc];refine⟨by omega,?_,I3,by omega⟩;rw[hd];intro b hb;rcases Ae.1 hb with hb|hb
     ·exact I2 b hb
     ·simp at hb;subst hb;exact hc)
  (λt hI=>by show SQ s c.toNat t.1 t.2 ((List.range s.length).length:Nat)=_;unfold SQ;rw[if_neg (by simp)]) (s:=([],0)) ⟨AB _,by simp,by simp,by simp⟩
 generalize (List.range s.length).foldl (aH c s) ([],0)=t at h1;rw[List.length_range]at h1;obtain⟨h2,I1,I2,I3,I4⟩:=h1;unfold XF;refine Eq.trans h2 ?_;unfold w6;have hw:AU s (t.2:Int) (s.length:Int)=s.drop t.2:=by rw[RX,List.take_length]
 have hr:((t.1.length:Int)+(([s.drop t.2]:List Am).length:Int))*16<=140737488355328/\(t.1.length:Int)+(([s.drop t.2]:List Am).length:Int)<=140737488355328:=by rw[AO];omega
 rw[hw,AI (by omega),AI hr,<-I3];rw[List.take_length]at I2;rw[zrv I2]
theorem zwW(l:Am)(c:UInt8):(Lib.indexByte l c= -1/\ ∀b∈l,b≠c)\/ ∃p q:Am,l=p++c::q/\(∀b∈p,b≠c)/\Lib.indexByte l c=p.length:=by
 induction l with
 |nil=>exact .inl ⟨rfl,by simp⟩
 |cons b l ih=>
  unfold Lib.indexByte;by_cases hb:b=c
  ·subst hb;exact .inr ⟨[],l,by simp,by simp,by simp⟩
  ·have h1:(b==c)=false:=by simpa using hb
   rw[h1];simp only[A7,if_false];rcases ih with⟨e,h⟩|⟨p,q,rfl,h,e⟩
   ·refine .inl ⟨by simp[e],λx hx=> ?_⟩;rcases Ag.1 hx with rfl|hx
    ·exact hb
    ·exact h x hx
   ·refine .inr ⟨b::p,q,by simp,λx hx=> ?_,?_⟩
    ·rcases Ag.1 hx with rfl|hx
     ·exact hb
     ·exact h x hx
    ·rw[e];have:((p.length:Int)== -1)=false:=by rw[beq_eq_false_iff_ne];omega
     rw[this];simp
theorem zz0{c:UInt8}{s:Am}(h:∀b∈s,b≠c):s.count c=0:=List.count_eq_zero.2 λhc=>h c hc rfl
theorem zLB{c:UInt8}{p q:Am}(h:∀b∈p,b≠c):(p++c::q).count c=q.count c+1:=by rw[List.count_append,zz0 h,List.count_cons_self];omega
theorem zB9{α:Type}{a:List α}{i:Nat}(x:α)(h:i<a.length):(a.set i x).take (i+1)=a.take i++ [x]:=by rw[List.take_succ_eq_append_getElem (by simpa using h),List.getElem_set_self,List.take_set,List.set_eq_of_length_le (by rw[AE];omega)]
theorem zPa{a b:Int}(h: ¬a<b):(bif decide (a<b)then a else b)=b:=by simp[h]
theorem zKK{s:Am}{c:UInt8}(h:s.length<=2000000):Xm s [c]=some (CV c s):=by
 have AD:s.count c<=s.length:=List.count_le_length;have K3:IntKind.i64.wrap ((s.count c:Int)+1)=(s.count c:Int)+1:=Cf (by omega) (by omega);have Kc:IntKind.i64.wrap ((s.length:Int)+1)=(s.length:Int)+1:=Cf (by omega) (by omega);have Pt:(bif decide ((s.length:Int)+1<(s.count c:Int)+1)then(s.length:Int)+1 else(s.count c:Int)+1)=(s.count c:Int)+1:=zPa (by omega);have hw3:IntKind.i64.wrap ((s.count c:Int)+1-1)=(s.count c:Int):=by rw[Cf (by omega) (by omega)];omega
 have key:∀(n:Nat) (r:Am) (a:List Am) (i:Nat),r.count c=n->r.length<=s.length->a.length=s.count c+1->i+n=s.count c->a.take i++CV c r=CV c s->
   Ao (λt:Am × Int × List Am=>SA s [c] 0 ((s.count c:Int)+1) t.1 t.2.1 t.2.2) (r,(i:Int),a)=some (CV c s):=by
  intro n
  induction n with
  |zero=>
   intro r a i hr hl ha hi hI;have IY:∀b∈r,b≠c:=λb hb e=>by subst e;exact List.count_eq_zero.1 hr hb
   have PH:i<a.length:=by omega
   have MN:=BA PH (by omega);have hb:SA s [c] 0 ((s.count c:Int)+1) r i a=some (.inr (some (CV c s))):=by unfold SA;rw[Kc,Pt,hw3,if_neg (by simp;omega)];unfold uT;rw[As PH,Aa,MN,Bl,AI (by rw[List.length_set];omega),RU,zB9 r PH,<-hI,zrv IY]
   rw[DN];dsimp only;rw[hb]
  |succ n ih=>
   intro r a i hr hl ha hi hI;rcases zwW r c with⟨_,h0⟩|⟨p,q,rfl,hp,hx⟩
   ·rw[zz0 h0]at hr;omega
   ·rw[zLB hp]at hr;have PH:i<a.length:=by omega
    have MN:=BA PH (by omega);simp only[Av,AH]at hl;have MM:IntKind.i64.wrap ((p.length:Int)+0)=(p.length:Int):=by rw[Cf (by omega) (by omega)];omega
    have Fu:IntKind.i64.wrap ((p.length:Int)+(([c]:Am).length:Int))=((p.length+1:Nat):Int):=by rw[AO,Cf (by omega) (by omega)];omega
    have hb:SA s [c] 0 ((s.count c:Int)+1) (p++c::q) i a=some (.inl (q,((i+1:Nat):Int),a.set i p)):=by
     unfold SA;have KP:dH (p++c::q) [c]=some (p.length:Int):=by simp[dH,aW,hx]
     rw[Kc,Pt,hw3,if_pos (by simp;omega),KP,Aa,if_neg (by simp),MM,AI (by rw[Av];omega),As PH,Aa,Fu,AI (by rw[Av,AH];omega),MN,Bl,RX,RU,List.take_length];have e1:(p++c::q).drop (p.length+1)=q:=by simp
     have e2:(p++c::q).take p.length=p:=by simp
     rw[e1,e2]
    rw[DN];dsimp only;rw[hb];refine ih q (a.set i p) (i+1) (by omega) (by omega) (by simpa using ha) (by omega) ?_;rw[zB9 p PH,<-hI,zwq hp];simp
 have Cl:dK s [c]=some ((s.count c:Nat):Int):=rfl;have hz:(((-1:Int))==0)=false:=rfl;have BU:(([c]:Am)==([]:Am))=false:=rfl;unfold Xm vN;rw[hz,BU,if_neg (by simp),if_neg (by simp),if_pos (by simp),Cl,Aa,K3];unfold uC;rw[Kc,Pt,AI (by omega)];exact zHK (key (s.count c) s (List.replicate ((s.count c:Int)+1).toNat []) 0 rfl (AB _) (by simp) (by omega) (by simp))
def field(s:Am):Bool:=Ax s.length 1 3&&QY s []
theorem zLr{s:Am}(h:s.length<=2000000):eE s=some (field s):=by simp only[eE,Fl,Aa,zwf h (more:=[]) (by decide),field];cases Ax s.length 1 3<;>simp
theorem zKq{s:Am}(h:s.length<=2000000):fT s=some (field s):=by simp only[fT,Fx,Aa,ztN h,field];cases Ax s.length 1 3<;>simp
theorem zI5(sep x y:Am)(r:List Am):Lib.join (x::(r++ [y])) sep=Lib.join (x::r) sep++sep++y:=by rw[Lib.join_cons,Lib.join_cons];simp[Lib.joinTail]
theorem zJr{xs:List Am}{sep:Am}{i:Nat}(hi:i<xs.length):Lib.join (xs.take (i+1)) sep=if i=0 then xs[i]else Lib.join (xs.take i) sep++sep++xs[i]:=by
 rw[List.take_succ_eq_append_getElem hi];cases xs with
 |nil=>simp at hi
 |cons x xs=>
  cases i with
  |zero=>simp[Lib.join_cons,Lib.joinTail]
  |succ i=>rw[List.take_succ_cons,List.cons_append,zI5,if_neg (by omega)]
def Et:List Am->Nat
 | []=>0
 |x::xs=>x.length+Et xs
theorem zFH(xs:List Am)(sep:Am):(Lib.join xs sep).length<=Et xs+xs.length*sep.length:=by
 cases xs with
 |nil=>simp[Lib.join_nil]
 |cons x xs=>
  rw[Lib.join_cons,Av];have:∀r:List Am,(Lib.joinTail sep r).length=Et r+r.length*sep.length:=by
   intro r
   induction r with
   |nil=>simp[Lib.joinTail,Et]
   |cons y r ih=>
    have e:Lib.joinTail sep (y::r)=sep++y++Lib.joinTail sep r:=by simp[Lib.joinTail]
    rw[e,Av,Av,ih,Et,AH,Nat.succ_mul];omega
  rw[this,Et,AH,Nat.succ_mul];omega
theorem zE0(xs:List Am)(i:Nat):Et (xs.take i)<=Et xs:=by
 induction xs generalizing i with
 |nil=>simp[Et]
 |cons x xs ih=>
  cases i with
  |zero=>simp[Et]
  |succ i=>simp only[List.take_succ_cons,Et];have:=ih i;omega
theorem zzU{xs:List Am}{i:Nat}(hi:i<xs.length):xs[i].length<=Et xs:=by
 induction xs generalizing i with
 |nil=>simp at hi
 |cons x xs ih=>
  cases i with
  |zero=>simp[Et]
  |succ i=>simp only[List.getElem_cons_succ,Et];have:=ih (i:=i) (by simpa using hi);omega
def Small(xs:List Am):Prop:=xs.length<=2000000/\Et xs<=2000000
theorem zNL{xs:List Am}{c:UInt8}(h:Small xs):zL xs [c]=some (Lib.join xs [c]):=by
 obtain⟨h1,h2⟩:=h;have hl:=Eh (xs:=List.range xs.length) (body:=λs:Am × Int=>Tm xs [c] s.1 s.2) (λi (o:Am)=>(o,i)) (λo i=>if i=0 then(xs[i]?).getD []else o++ [c]++(xs[i]?).getD []) (λo=>some o) (λi o=>o=Lib.join (xs.take i) [c])
  (λi hi o hI=>by
   rw[List.length_range]at hi;rw[List.getElem_range];have hI:o=Lib.join (xs.take i) [c]:=hI;have hlen:o.length<=1010000000:=by have e1:=zFH (xs.take i) [c];have e2:=zE0 xs i;rw[AE,AO,Nat.mul_one]at e1;rw[hI];omega
   have hg:=zzU hi;have hw:=BA hi (by omega:xs.length<=_);rw[AL hi,Be];refine⟨?_,by show _=_;rw[zJr hi,hI]⟩;show Tm xs [c] o i=_;unfold Tm;rw[if_pos (by simpa using hi),As hi,Aa,hw];by_cases h0:i=0
   ·subst h0;have ho:o=[]:=by rw[hI];rfl
    subst ho;rw[if_neg (by simp),AI (by simp;omega),if_pos rfl];rfl
   ·rw[if_pos (by simp;omega),AI (by rw[AO];omega),AI (by rw[Av,AO];omega),if_neg h0])
  (λo _=>by show Tm xs [c] o ((List.range xs.length).length:Nat)=_;unfold Tm;rw[if_neg (by simp)]) (s:=[]) (by simp[Lib.join_nil])
 generalize (List.range xs.length).foldl (λo i=>if i=0 then(xs[i]?).getD []else o++ [c]++(xs[i]?).getD []) []=o at hl;obtain⟨h3,h4⟩:=hl;have h4:o=Lib.join (xs.take (List.range xs.length).length) [c]:=h4;rw[List.length_range,List.take_length]at h4;subst h4;exact h3
theorem zNn{xs:List Am}{c:UInt8}(h:Small xs):gN xs [c]=some (Lib.join xs [c]):=by obtain⟨h1,h2⟩:=h;have:=zFH xs [c];rw[AO,Nat.mul_one]at this;exact AI ⟨by omega,by omega⟩
theorem Small.each{xs:List Am}(h:Small xs):∀x∈xs,x.length<=2000000:=by intro x hx;obtain⟨i,hi,rfl⟩:=List.getElem_of_mem hx;exact Nat.le_trans (zzU hi) h.2
def FK(t:An)(r:A4):Bool:=((r.ay.length:Int)==t.bf.length)&&r.ay.all field
theorem TY{t:An}{r:A4}(h:Small r.ay):Nc t r=some (FK t r):=by
 have h1:=h.1;unfold Nc;rw[Jc (xs:=r.ay) field false (wL t r) (λi hi=>by simp only[w7,Int.ofNat_lt,hi,decide_true,if_true,As hi,Aa,zLr (h.each _ (Au hi)),BA hi (by omega:r.ay.length<=_)];cases field r.ay[i]<;>rfl) (by simp[w7])]
 unfold wL FK;cases r.ay.all field<;>simp
theorem TW{t:An}{r:A4}(h:Small r.ay):M9 t r=some (FK t r):=by have e:Dy r.ay (λy0_=>bM y0_)=some (r.ay.any λs=> !field s):=Km _ (λs hs=>by simp[bM,zKq (h.each s hs)]) (by have:=h.1;omega);simp only[M9,e,Aa,FK,<-List.not_all_eq_any_not];cases((r.ay.length:Int)==t.bf.length)<;>simp
def D1(t:An)(r:A4):Ah:=⟨t.ae++ [47]++(r.ay.head?).getD [],Lib.join r.ay.tail [44],false⟩
theorem zRc{α:Type}(xs:List α):AU xs 1 (xs.length:Int)=xs.tail:=by simp[AU]
theorem Small.tail{xs:List Am}(h:Small xs):Small xs.tail:=by
 cases xs with
 |nil=>exact h
 |cons x xs=>exact⟨by have:=h.1;simp at this ⊢;omega,by have:=h.2;simp only[Et,List.tail_cons]at this ⊢;omega⟩
theorem YC{t:An}{r:A4}(ht:t.ae.length<=2000000)(h:Small r.ay)(hn:r.ay≠ []):OQ t r=some (D1 t r):=by obtain⟨x,xs,hx⟩:=List.exists_cons_of_ne_nil hn;have LJ:x.length<=2000000:=h.each x (by simp[hx]);unfold OQ D1;rw[AI (by rw[AO];omega),zRc,zNL h.tail,hx];rw[show Ak (x::xs) 0=some x from rfl,Aa,AI (by rw[Av,AO];omega),AI (by simp only[AH];omega),Aa];rfl
theorem Uv{t:An}{r:A4}(ht:t.ae.length<=2000000)(h:Small r.ay)(hn:r.ay≠ []):Qy t r=some (D1 t r):=by obtain⟨x,xs,hx⟩:=List.exists_cons_of_ne_nil hn;have LJ:x.length<=2000000:=h.each x (by simp[hx]);unfold Qy D1;rw[AI (by rw[AO];omega),zRc,zNn h.tail,hx];rw[show Ak (x::xs) 0=some x from rfl,Aa,AI (by rw[Av,AO];omega),AI (by simp only[AH];omega),Aa];rfl
theorem zuJ(c:UInt8)(s:Am):Et (CV c s)<=s.length:=by
 induction s with
 |nil=>simp[CV,Et]
 |cons b s ih=>
  simp only[CV];split
  ·simp only[Et,List.length_nil,AH];omega
  ·cases hs:CV c s with
   |nil=>exact absurd hs (zB6 c s)
   |cons x xs=>rw[hs]at ih;simp only[Et,AH]at ih ⊢;omega
theorem zQW{s p:Am}(hs:s.length<=2000000):cJ s p=some (if p.isPrefixOf s=true then(s.drop p.length,true)else(s,false)):=by
 have e:aS s p=some (p.isPrefixOf s):=by
  unfold aS;by_cases hl:p.length<=s.length
  ·rw[if_pos (by simpa using hl),AI (by omega),RU];congr 1;rw[Bool.eq_iff_iff,Ay,List.isPrefixOf_iff_prefix,List.prefix_iff_eq_take];exact eq_comm
  ·rw[if_neg (by simpa using hl)];congr 1;symm;rw[<-Bool.not_eq_true,List.isPrefixOf_iff_prefix];intro h;exact hl h.length_le
 unfold cJ tU;rw[e,Aa];cases hp:p.isPrefixOf s with
 |false=>simp
 |true=>have hl:=(List.isPrefixOf_iff_prefix.1 hp).length_le;simp only[Bool.not_true,A7,if_false,if_true];rw[AI (by omega),RX,List.take_length];rfl
def MV(a b:Ah):Bool:=a.ab==b.ab&&(a.aw==b.aw&&(a.bm==b.bm))
theorem zGJ(a b:Ah):MV a b=MV b a:=by unfold MV;rw[show(a.ab==b.ab)=(b.ab==a.ab)from BEq.comm,show(a.aw==b.aw)=(b.aw==a.aw)from BEq.comm,show(a.bm==b.bm)=(b.bm==a.bm)from BEq.comm]
theorem zJu{a b:Ah}(h:MV a b=true):a.ab=b.ab:=by unfold MV at h;simp only[Ac,Ay]at h;exact h.1
def Ek(w:Ah):A4:=⟨w.ab.drop 2::CV 44 w.aw⟩
def Hb(t:An)(w:Ah):Bool:=FK t (Ek w)&&MV (D1 t (Ek w)) w
def Qg(w:Ah):Prop:=w.ab.length<=1000/\w.aw.length<=1000
theorem zwi{w:Ah}(h:Qg w):Small (Ek w).ay:=by
 have h1:=jX 44 w.aw;have h2:w.aw.count 44<=w.aw.length:=List.count_le_length;have h3:=zuJ 44 w.aw;obtain⟨k,v⟩:=h;refine⟨?_,?_⟩
 ·show(w.ab.drop 2::CV 44 w.aw).length<=_;rw[AH];omega
 ·show Et (w.ab.drop 2::CV 44 w.aw)<=_;rw[Et,Bn];omega
theorem zH7{t:An}{w:Ah}(h:FK t (Ek w)=true):3<=w.ab.length:=by unfold FK Ek at h;simp only[Ac,List.all_cons,field,D8,Bn]at h;omega
theorem zOb{t:An}{w:Ah}(ht:t.ae.length<=2000000)(h:Qg w):∃r,fC t w=some (r,Hb t w)/\(Hb t w=true->r=Ek w):=by
 have hs:=zwi h;have P3:=jX 44 w.aw;have Pw:w.aw.count 44<=w.aw.length:=List.count_le_length;obtain⟨hk,hv⟩:=h;unfold fC;by_cases h3:w.ab.length<3
 ·rw[if_pos (by simp;omega)];have:Hb t w=false:=by
   unfold Hb;cases hg:FK t (Ek w)with
   |false=>rfl
   |true=>have:=zH7 hg;omega
  exact⟨_,by rw[this],by rw[this];intro h;cases h⟩
 ·have hw:AU w.ab 2 (w.ab.length:Int)=w.ab.drop 2:=by
   have:=RX w.ab 2 w.ab.length;rw[List.take_length]at this;exact this
  have Im:XF w.aw 44=some (CV 44 w.aw):=zKV (c:=44) (by omega);have hr:(([w.ab.drop 2]:List Am).length+(CV 44 w.aw).length:Int)*16<=140737488355328/\(([w.ab.drop 2]:List Am).length:Int)+(CV 44 w.aw).length<=140737488355328:=by rw[AO];omega
  rw[if_neg (by simp;omega),AI (by omega),Im,Aa,hw,AI hr];rw[show(⟨[w.ab.drop 2]++CV 44 w.aw⟩:A4)=Ek w from rfl,TY hs,Aa];unfold Hb;cases hg:FK t (Ek w)with
  |false=>exact⟨_,by rw[if_neg (by simp)];rfl,by simp⟩
  |true=>rw[if_pos rfl,YC ht hs (by simp[Ek]),Aa];exact⟨Ek w,by rw[Bool.true_and];rfl,λ_=>rfl⟩
theorem zOL{t:An}{w:Ah}(ht:t.ae.length=1)(h:Qg w):∃r,bE t w=some (r,Hb t w)/\(Hb t w=true->r=Ek w):=by
 have hs:=zwi h;have P3:=jX 44 w.aw;have Pw:w.aw.count 44<=w.aw.length:=List.count_le_length;obtain⟨hk,hv⟩:=h;unfold bE;have Im:Xm w.aw [44]=some (CV 44 w.aw):=zKK (by omega);rw[AI (by rw[AO];omega),zQW (by omega),Aa,Im,Aa];have hr:∀x:Am,(([x]:List Am).length+(CV 44 w.aw).length:Int)*16<=140737488355328/\(([x]:List Am).length:Int)+(CV 44 w.aw).length<=140737488355328:=by intro x;rw[AO];omega
 rw[AI (hr _)];cases hp:(t.ae++ [47]).isPrefixOf w.ab with
 |false=>
  have DW:Hb t w=false:=by
   unfold Hb;cases hw:MV (D1 t (Ek w)) w with
   |false=>simp
   |true=>have nJ:=zJu hw;rw[<-Bool.not_eq_true,List.isPrefixOf_iff_prefix]at hp;exact absurd ⟨_,nJ⟩ hp
  rw[DW];exact⟨_,by rw[if_neg (by simp)],by simp⟩
 |true=>
  have hl:(t.ae++ [47]).length=2:=by rw[Av,ht];rfl
  simp only[if_true,hl];rw[show(⟨[w.ab.drop 2]++CV 44 w.aw⟩:A4)=Ek w from rfl,TW hs,Aa];unfold Hb;cases hg:FK t (Ek w)with
  |false=>exact⟨_,by rw[if_neg (by simp)];rfl,by simp⟩
  |true=>
   rw[if_pos rfl,Uv (by omega) hs (by simp[Ek]),Aa];rw[show(w.ab==(D1 t (Ek w)).ab&&(w.aw==(D1 t (Ek w)).aw&&w.bm==(D1 t (Ek w)).bm))=MV w (D1 t (Ek w))from rfl,zGJ];cases MV (D1 t (Ek w)) w with
   |false=>exact⟨_,by rw[if_pos (by simp)];rfl,by simp⟩
   |true=>exact⟨_,by rw[if_neg (by simp)];rfl,λ_=>rfl⟩
theorem zzt{α β:Type}(p:α->Bool)(f:α->β)(l:List α)(o:List β):l.foldl (λo x=>if p x=true then o++ [f x]else o) o=o++(l.filter p).map f:=by
 induction l generalizing o with
 |nil=>simp
 |cons x l ih=>rw[List.foldl_cons,ih,List.filter_cons];cases p x<;>simp
def Em(t:An)(l:List Ah):List A4:=(l.filter (Hb t)).map Ek
theorem zMl{t:An}{l:List Ah}(ht:t.ae.length<=2000000)(hl:l.length<=2000000)(h:∀w∈l,Qg w):zN t l=some (Em t l):=by
 have h1:=Eh (xs:=l) (body:=λs:List A4 × Int=>SI t l s.1 s.2) (λi (o:List A4)=>(o,i)) (λo w=>if Hb t w=true then o++ [Ek w]else o) (λo=>some o) (λi o=>o.length<=i)
  (λi hi o hI=>by
   have hI:o.length<=i:=hI;obtain⟨r,e,hr⟩:=zOb ht (h _ (Au hi));have hw:=BA hi (by omega:l.length<=_);refine⟨?_,by
    show List.length (if Hb t l[i]=true then o++ [Ek l[i]]else o)<=i+1;split
    ·rw[Av,AO];omega
    ·omega⟩
   show SI t l o i=_;unfold SI;rw[if_pos (by simpa using hi),As hi,Aa,e,Aa,hw];cases hb:Hb t l[i]with
   |false=>rfl
   |true=>
    have hq:((o.length:Int)+(([r]:List A4).length:Int))*24<=140737488355328/\(o.length:Int)+(([r]:List A4).length:Int)<=140737488355328:=by rw[AO];omega
    rw[if_pos rfl,AI hq,if_pos rfl,hr hb])
  (λo _=>by show SI t l o l.length=_;unfold SI;rw[if_neg (by simp)]) (s:=[]) (by simp)
 rw[zzt]at h1;exact h1.1
theorem zKU{t:An}{l:List Ah}(ht:t.ae.length=1)(hl:l.length<=2000000)(h:∀w∈l,Qg w):uJ t l=some (Em t l):=by
 have h1:=Eh (xs:=l) (body:=λs:Int × List A4=>Sa t l s.1 s.2) (λi (o:List A4)=>(i,o)) (λo w=>if Hb t w=true then o++ [Ek w]else o) (λo=>some o) (λi o=>o.length<=i)
  (λi hi o hI=>by
   have hI:o.length<=i:=hI;obtain⟨r,e,hr⟩:=zOL ht (h _ (Au hi));have hw:=BA hi (by omega:l.length<=_);refine⟨?_,by
    show List.length (if Hb t l[i]=true then o++ [Ek l[i]]else o)<=i+1;split
    ·rw[Av,AO];omega
    ·omega⟩
   show Sa t l i o=_;unfold Sa;rw[if_pos (by simpa using hi),As hi,Aa,e,Aa,hw];cases hb:Hb t l[i]with
   |false=>rfl
   |true=>
    have hq:((o.length:Int)+(([r]:List A4).length:Int))*24<=140737488355328/\(o.length:Int)+(([r]:List A4).length:Int)<=140737488355328:=by rw[AO];omega
    rw[if_pos rfl,AI hq,if_pos rfl,hr hb])
  (λo _=>by show Sa t l l.length o=_;unfold Sa;rw[if_neg (by simp)]) (s:=[]) (by simp)
 rw[zzt]at h1;exact h1.1
def head(t:An)(n:Am):Am:=t.ae++ [46]++n
def zOD(t:An)(n k:Am):Bool:=match CV 47 k with
 | [x,y,z]=>x==head t n&&field y&&field z
 |_=>false
theorem zOj{t:An}{n:Am}(ht:t.ae.length<=2000000)(hn:n.length<=2000000):bI t n=some (head t n++ [47]):=by unfold bI head;rw[AI (by rw[AO];omega),AI (by rw[Av,AO];omega),AI (by rw[Av,Av,AO,AO];omega)]
def rI(t:An)(n:Am)(l:List Ah):List Am:=(l.filter λw=>zOD t n w.ab).map (·.ab)
def less(a b:List Am):List Am:=a.filter λk=> !b.contains k
abbrev bl(a b:Ab):Bool:=Op.bytesLess a b
theorem L0:∀a:Ab,bl a a=false
 | []=>rfl
 |x::a=>by
  have h: ¬x<x:=λh=>by have:=UInt8.lt_iff_toNat_lt.1 h;omega
  show Op.bytesLess (x::a) (x::a)=false;simp only[Op.bytesLess,h,decide_false,Bool.false_or,beq_self_eq_true,Bool.true_and];exact L0 a
theorem ZA(x y:UInt8)(a b:Ab):bl (x::a) (y::b)=true↔x.toNat<y.toNat\/x=y/\bl a b=true:=by show Op.bytesLess (x::a) (y::b)=true↔_;simp only[Op.bytesLess,Bool.or_eq_true,AR,Ac,Ay,UInt8.lt_iff_toNat_lt]
theorem IE:∀{a b c:Ab},bl a b=true->bl b c=true->bl a c=true
 | [],_,[],_,h=>by rename_i b _;cases b<;>cases h
 | [],_,_::_,_,_=>rfl
 |_::_,[],_,h,_=>by cases h
 |_::_,_::_,[],_,h=>by cases h
 |x::a,y::b,z::c,h1,h2=>by
  rw[ZA]at*;rcases h1 with h1|⟨rfl,h1⟩<;>rcases h2 with h2|⟨rfl,h2⟩
  ·exact .inl (by omega)
  ·exact .inl h1
  ·exact .inl h2
  ·exact .inr ⟨rfl,IE h1 h2⟩
theorem rY:∀a b:Ab,bl a b=true\/a=b\/bl b a=true
 | [],[]=> .inr (.inl rfl)
 | [],_::_=> .inl rfl
 |_::_,[]=> .inr (.inr rfl)
 |x::a,y::b=>by
  rw[ZA,ZA];rcases Nat.lt_trichotomy x.toNat y.toNat with h|h|h
  ·exact .inl (.inl h)
  ·have h0:x=y:=UInt8.toNat_inj.1 h;subst h0;rcases rY a b with h1|h1|h1
   ·exact .inl (.inr ⟨rfl,h1⟩)
   ·exact .inr (.inl (by rw[h1]))
   ·exact .inr (.inr (.inr ⟨rfl,h1⟩))
  ·exact .inr (.inr (.inl h))
theorem O4{a b:Ab}(h:bl a b=true):bl b a=false:=by
 cases h2:bl b a with
 |false=>rfl
 |true=>have:=IE h h2;rw[L0]at this;cases this
theorem HT{a b:Ab}(h:bl a b=true):a≠b:=by rintro rfl;rw[L0]at h;cases h
theorem O0{a b:Ab}(h:bl a b=false)(hn:a≠b):bl b a=true:=by
 rcases rY a b with h1|h1|h1
 ·rw[h]at h1;cases h1
 ·exact absurd h1 hn
 ·exact h1
section
variable {α:Type} (key:α->Ab)
def El(l:List α):Prop:=l.Pairwise λa b=>bl (key a) (key b)=true
def DQ(x:α):List α->List α
 | []=> [x]
 |y::l=>if bl (key x) (key y)=true then x::y::l else if key x=key y then x::l else y::DQ x l
variable {key}
theorem El.jm{l:List α}(h:El key l){a b:α}(ha:a∈l)(hb:b∈l)(e:key a=key b):a=b:=by
 induction l with
 |nil=>cases ha
 |cons y l ih=>
  have h1:=List.pairwise_cons.1 h;rcases Ag.1 ha with q1|q1<;>rcases Ag.1 hb with q2|q2
  ·rw[q1,q2]
  ·exact absurd (q1▸e) (HT (h1.1 _ q2))
  ·exact absurd (q2▸e.symm) (HT (h1.1 _ q1))
  ·exact ih h1.2 q1 q2
theorem Yn{x:α}:∀{l:List α},El key l-> ∀y,y∈DQ key x l↔y=x\/y∈l/\key y≠key x
 | [],_,y=>by simp[DQ]
 |z::l,h,y=>by
  have h1:=List.pairwise_cons.1 h;unfold DQ;split
  ·rename_i hb;constructor
   ·intro hy;rcases Ag.1 hy with rfl|hy
    ·exact .inl rfl
    ·refine .inr ⟨hy,?_⟩;rcases Ag.1 hy with rfl|hy
     ·exact(HT hb).symm
     ·exact(HT (IE hb (h1.1 _ hy))).symm
   ·rintro(rfl|⟨hy,_⟩)
    ·simp
    ·exact List.mem_cons_of_mem _ hy
  ·rename_i hb;split
   ·rename_i he;constructor
    ·intro hy;rcases Ag.1 hy with rfl|hy
     ·exact .inl rfl
     ·exact .inr ⟨List.mem_cons_of_mem _ hy,λe=>HT (h1.1 _ hy) (by rw[e,he])⟩
    ·rintro(rfl|⟨hy,hn⟩)
     ·simp
     ·rcases Ag.1 hy with rfl|hy
      ·exact absurd he.symm hn
      ·exact List.mem_cons_of_mem _ hy
   ·rename_i he;rw[Ag,Yn h1.2];constructor
    ·rintro(rfl|rfl|⟨hy,hn⟩)
     ·exact .inr ⟨by simp,λe=>he e.symm⟩
     ·exact .inl rfl
     ·exact .inr ⟨List.mem_cons_of_mem _ hy,hn⟩
    ·rintro(rfl|⟨hy,hn⟩)
     ·exact .inr (.inl rfl)
     ·rcases Ag.1 hy with rfl|hy
      ·exact .inl rfl
      ·exact .inr (.inr ⟨hy,hn⟩)
theorem kM{x:α}:∀{l:List α},El key l->El key (DQ key x l)
 | [],_=>by simp[DQ,El]
 |z::l,h=>by
  have h1:=List.pairwise_cons.1 h;unfold DQ;split
  ·rename_i hb;refine List.pairwise_cons.2 ⟨λy hy=> ?_,h⟩;rcases Ag.1 hy with rfl|hy
   ·exact hb
   ·exact IE hb (h1.1 _ hy)
  ·rename_i hb;split
   ·rename_i he;exact List.pairwise_cons.2 ⟨λy hy=>by rw[he];exact h1.1 _ hy,h1.2⟩
   ·rename_i he;refine List.pairwise_cons.2 ⟨λy hy=> ?_,kM h1.2⟩;rcases(Yn h1.2 y).1 hy with rfl|⟨hy,_⟩
    ·exact O0 (by simpa using hb) he
    ·exact h1.1 _ hy
theorem El.ext:∀{a b:List α},El key a->El key b->(∀x,x∈a↔x∈b)->a=b
 | [],[],_,_,_=>rfl
 | [],y::b,_,_,h=>absurd ((h y).2 (by simp)) (by simp)
 |x::a,[],_,_,h=>absurd ((h x).1 (by simp)) (by simp)
 |x::a,y::b,ha,hb,h=>by
  have h1:=List.pairwise_cons.1 ha;have h2:=List.pairwise_cons.1 hb;have e:x=y:=by
   rcases Ag.1 ((h x).1 (by simp))with e|hx
   ·exact e
   ·rcases Ag.1 ((h y).2 (by simp))with e|hy
    ·exact e.symm
    ·have:=IE (h1.1 _ hy) (h2.1 _ hx);rw[L0]at this;cases this
  subst e;rw[El.ext h1.2 h2.2 λz=> ?_];constructor
  ·intro hz;rcases Ag.1 ((h z).1 (List.mem_cons_of_mem _ hz))with rfl|P9
   ·have:=h1.1 _ hz;rw[L0]at this;cases this
   ·exact P9
  ·intro hz;rcases Ag.1 ((h z).2 (List.mem_cons_of_mem _ hz))with rfl|P9
   ·have:=h2.1 _ hz;rw[L0]at this;cases this
   ·exact P9
theorem El.filter{l:List α}(h:El key l)(p:α->Bool):El key (l.filter p):=List.Pairwise.filter p h
theorem El.sub{a b:List α}(h:El key b)(hs:a.Sublist b):El key a:=List.Pairwise.sublist hs h
theorem Yx{x:α}:∀(l:List α),(DQ key x l).length<=l.length+1
 | []=>by simp[DQ]
 |y::l=>by
  unfold DQ;have:=Yx (x:=x) l;split
  ·simp
  ·split
   ·simp
   ·simp only[AH];omega
end
def EB{α:Type}(r:α->α->Bool):List α->Bool
 | []=>true
 | [_]=>true
 |x::y::l=>r x y&&EB r (y::l)
theorem zwv{α:Type}{r:α->α->Bool}(ht:∀a b c,r a b=true->r b c=true->r a c=true):∀{l:List α},EB r l=true↔l.Pairwise λa b=>r a b=true
 | []=>by simp[EB]
 | [_]=>by simp[EB]
 |x::y::l=>by
  rw[EB,Ac,zwv ht];constructor
  ·rintro⟨h1,h2⟩;refine List.pairwise_cons.2 ⟨λz hz=> ?_,h2⟩;rcases Ag.1 hz with rfl|hz
   ·exact h1
   ·exact ht _ _ _ h1 ((List.pairwise_cons.1 h2).1 z hz)
  ·intro h;have h:=List.pairwise_cons.1 h;exact⟨h.1 y (by simp),h.2⟩
theorem zxO{α:Type}{r:α->α->Bool}{l:List α}{q:Nat}(h:q+1<l.length):EB r (l.drop q)=(r l[q] l[q+1]&&EB r (l.drop (q+1))):=by rw[By (show q<l.length by omega),By h,EB]
theorem qL{α β:Type}{xs:List α}{body:Int->Option (Int ⊕ Option β)}(p:α->Bool)(r:α->α->Bool)(b:β)(fin:Option β)
  (h0:∀h:0<xs.length,body 0=some (if p xs[0]=true then .inl 1 else .inr (some b)))
  (hs:∀i (h:i+1<xs.length),body ((i+1:Nat):Int)=some (if(p xs[i+1]&&r xs[i] xs[i+1])=true then .inl ((i+2:Nat):Int)else .inr (some b)))
  (he:body xs.length=some (.inr fin)):Ao body 0=if(xs.all p&&EB r xs)=true then fin else some b:=by
 have key:∀n q,q+1+n=xs.length->Ao body ((q+1:Nat):Int)=if((xs.drop (q+1)).all p&&EB r (xs.drop q))=true then fin else some b:=by
  intro n
  induction n with
  |zero=>
   intro q hq;rw[show((q+1:Nat):Int)=(xs.length:Int) by omega,DN,he];have e1:xs.drop (q+1)=[]:=List.drop_eq_nil_of_le (by omega);have e2:xs.drop q=[xs[q]]:=by rw[By (by omega),e1]
   rw[e1,e2];simp[EB]
  |succ n ih=>
   intro q hq;rw[DN,hs q (by omega),zxO (by omega),By (show q+1<xs.length by omega),List.all_cons];have ih:=ih (q+1) (by omega);by_cases hp:(p xs[q+1]&&r xs[q] xs[q+1])=true
   ·rw[if_pos hp];simp only[Ac]at hp;simp only[hp.1,hp.2,Bool.true_and];rw[<-By (show q+1<xs.length by omega)];exact ih
   ·rw[if_neg hp];rw[if_neg];intro h;simp only[Ac]at h hp;exact hp ⟨h.1.1,h.2.1⟩
 by_cases hz:0<xs.length
 ·rw[DN,h0 hz];have:=key (xs.length-1) 0 (by omega);rw[List.drop_zero]at this;have e:xs=xs[0]::xs.drop 1:=by rw[<-By hz,List.drop_zero]
  by_cases hp:p xs[0]=true
  ·rw[if_pos hp];show Ao body ((0+1:Nat):Int)=_;rw[this];have:xs.all p=(xs.drop 1).all p:=by rw[e,List.all_cons,hp,Bool.true_and];simp
   rw[this]
  ·rw[if_neg hp,if_neg];intro h;simp only[Ac,Ba]at h;exact hp (h.1 _ (Au hz))
 ·have:xs=[]:=by cases xs with|nil=>rfl|cons=>simp at hz
  subst this;rw[DN,show(0:Int)=(([]:List α).length:Int)from rfl,he];simp[EB]
def AS{α:Type}(lt:α->Bool)(l:List α):Nat:=(l.takeWhile lt).length
theorem L5{α:Type}(lt:α->Bool):∀l:List α,AS lt l<=l.length
 | []=>by simp[AS]
 |x::l=>by have:=L5 lt l;unfold AS at this ⊢;rw[List.takeWhile_cons];split<;>simp<;>omega
theorem Q3{α:Type}{lt:α->Bool}:∀{l:List α} {i:Nat} (h:i<AS lt l),lt (l[i]'(Nat.lt_of_lt_of_le h (L5 lt l)))=true
 |x::l,i,h=>by
  unfold AS at h;rw[List.takeWhile_cons]at h;split at h
  ·rename_i hx;cases i with
   |zero=>exact hx
   |succ i=>exact Q3 (l:=l) (i:=i) (by unfold AS;simpa using h)
  ·simp at h
theorem ZH{α:Type}{lt:α->Bool}:∀{l:List α} (h:AS lt l<l.length),lt l[AS lt l]=false
 |x::l,h=>by
  by_cases hx:lt x=true
  ·have e:AS lt (x::l)=AS lt l+1:=by unfold AS;rw[List.takeWhile_cons,if_pos hx];rfl
   have:=ZH (l:=l) (lt:=lt) (by rw[e]at h;simpa using h);simp only[e,List.getElem_cons_succ];exact this
  ·have e:AS lt (x::l)=0:=by unfold AS;rw[List.takeWhile_cons,if_neg hx];rfl
   simp only[e,List.getElem_cons_zero];simpa using hx
theorem ZK{α β:Type}{xs:List α}{body:Int × Int->Option ((Int × Int) ⊕ Option β)}{fin:Int->Option β}(lt:α->Bool)(hm:∀i j (hj:j<xs.length) (hi:i<=j),lt xs[j]=true->lt xs[i]=true)
  (hs:∀i j:Nat,i<j->j<=xs.length->(h:(i+j)/2<xs.length)->body ((i:Int),(j:Int))=some (.inl (if lt xs[(i+j)/2]=true then((((i+j)/2+1:Nat):Int),(j:Int))else((i:Int),(((i+j)/2:Nat):Int)))))
  (he:∀i:Nat,i<=xs.length->body ((i:Int),(i:Int))=some (.inr (fin i))):Ao body (0,(xs.length:Int))=fin (AS lt xs):=by
 have key:∀n i j:Nat,j-i<=n->i<=AS lt xs->AS lt xs<=j->j<=xs.length->Ao body ((i:Int),(j:Int))=fin (AS lt xs):=by
  intro n
  induction n with
  |zero=>
   intro i j h1 h2 h3 h4;have:i=j:=by omega
   subst this;have:i=AS lt xs:=by omega
   rw[DN,he i h4,this]
  |succ n ih=>
   intro i j h1 h2 h3 h4;by_cases Gl:i=j
   ·subst Gl;have:i=AS lt xs:=by omega
    rw[DN,he i h4,this]
   ·have AP:(i+j)/2<xs.length:=by omega
    rw[DN,hs i j (by omega) h4 AP];by_cases hc:lt xs[(i+j)/2]=true
    ·rw[if_pos hc];refine ih _ _ (by omega) ?_ h3 h4;by_cases hp:(i+j)/2<AS lt xs
     ·omega
     ·have h5:AS lt xs<xs.length:=by omega
      have:=ZH h5;rw[hm _ _ AP (by omega) hc]at this;cases this
    ·rw[if_neg hc];refine ih _ _ (by omega) h2 ?_ (by omega);by_cases hp:(i+j)/2<AS lt xs
     ·exact absurd (Q3 hp) hc
     ·omega
 exact key xs.length 0 xs.length (by omega) (by omega) (L5 lt xs) (AB _)
theorem lD{α:Type}{key:α->Ab}{x:α}:∀{l:List α},El key l->DQ key x l=(match l[AS (λy=>bl (key y) (key x)) l]? with
  |some y=>if key y=key x then l.set (AS (λy=>bl (key y) (key x)) l) x else l.take (AS (λy=>bl (key y) (key x)) l)++ [x]++l.drop (AS (λy=>bl (key y) (key x)) l)
  |none=>l.take (AS (λy=>bl (key y) (key x)) l)++ [x]++l.drop (AS (λy=>bl (key y) (key x)) l))
 | [],_=>by simp[DQ,AS]
 |y::l,h=>by
  have h1:=List.pairwise_cons.1 h;unfold DQ;by_cases hb:bl (key x) (key y)=true
  ·have e:AS (λz=>bl (key z) (key x)) (y::l)=0:=by unfold AS;rw[List.takeWhile_cons,if_neg (by rw[O4 hb];simp)];rfl
   rw[if_pos hb,e];simp[(HT hb).symm]
  ·rw[if_neg hb];by_cases hk:key x=key y
   ·have e:AS (λz=>bl (key z) (key x)) (y::l)=0:=by unfold AS;rw[List.takeWhile_cons,if_neg (by rw[hk,L0];simp)];rfl
    rw[if_pos hk,e];simp[hk]
   ·have Ip:=O0 (by simpa using hb) hk;have e:AS (λz=>bl (key z) (key x)) (y::l)=AS (λz=>bl (key z) (key x)) l+1:=by unfold AS;rw[List.takeWhile_cons,if_pos Ip];rfl
    rw[if_neg hk,e,lD h1.2];simp only[List.getElem?_cons_succ];split
    ·split<;>simp
    ·simp
def OA(a b:Am):Int:=if bl a b=true then-1 else if a=b then 0 else 1
@[simp] theorem zLh(a:Am):Xh a=some false:=by simp[Xh]
@[simp] theorem zOG(a:Int):Xq a=some false:=by simp[Xq]
@[simp] theorem zRb(a b:Am):W7 a b=some (OA a b):=by
 unfold W7 OA;simp only[zLh,Aa,A7,if_false];by_cases h:bl a b=true
 ·have:Op.bytesLess a b=true:=h;simp[this]
 ·have h1:Op.bytesLess a b=false:=by simpa using h
  by_cases he:a=b
  ·subst he;simp[h1]
  ·simp[h1,he]
def OC(a b:Int):Int:=if a<b then-1 else if a=b then 0 else 1
@[simp] theorem zQ3(a b:Int):Xa a b=some (OC a b):=by
 unfold Xa OC;simp only[zOG,Aa,A7,if_false];by_cases h:a<b
 ·simp[h]
 ·by_cases he:a=b
  ·subst he;simp
  ·have:b<a:=by omega
   simp[h,he,this]
theorem zJo{a b:Am}:decide (OA a b<0)=bl a b:=by
 unfold OA;cases h:bl a b with
 |true=>simp
 |false=>by_cases he:a=b<;>simp[he]
theorem zIT{a b:Am}:(OA a b==0)=decide (a=b):=by
 unfold OA;cases h:bl a b with
 |true=>simp[HT h]
 |false=>by_cases he:a=b<;>simp[he]
theorem ZN{i j:Nat}(h:i<=j)(hj:j<=2000000):IntKind.i64.wrap (Int.fdiv (IntKind.u64.wrap (IntKind.i64.wrap ((i:Int)+(j:Int)))) (2^(min ((1:Int)).toNat (IntKind.bits .u64))))=(((i+j)/2:Nat):Int):=by
 have e1:IntKind.i64.wrap ((i:Int)+(j:Int))=((i+j:Nat):Int):=by rw[Cf (by omega) (by omega)];simp
 have e2:IntKind.u64.wrap ((i+j:Nat):Int)=((i+j:Nat):Int):=by simp only[IntKind.wrap,IntKind.bits,IntKind.signed];simp;omega
 have e3:(2:Int)^(min ((1:Int)).toNat (IntKind.bits .u64))=((2:Nat):Int):=rfl;rw[e1,e2,e3,Int.fdiv_eq_ediv_of_nonneg _ (by omega),<-Int.natCast_ediv,Cf (by omega) (by omega)]
theorem C4{i:Nat}(h:i<=2000000):IntKind.i64.wrap ((i:Int)+1)=((i+1:Nat):Int):=by rw[Cf (by omega) (by omega)];simp
abbrev He(l:List Ah):Prop:=El (λw:Ah=>w.ab) l
abbrev HH(l:List Ah)(k:Am):Nat:=AS (λw:Ah=>bl w.ab k) l
theorem zPn{l:List Ah}{k:Am}(hl:l.length<=2000000)(hr:He l):QF l k=some (((HH l k:Nat):Int),(match l[HH l k]? with|some w=>decide (w.ab=k)|none=>false)):=by
 unfold QF tP;have hc:∀w:Ah,S0 w k=some (OA w.ab k):=λw=>by simp[S0]
 have h:=ZK (xs:=l) (body:=λs:Int × Int=>R0 l k (λy0_ y1_=>S0 y0_ y1_) s.1 s.2) (fin:=λi=>tN l k (λy0_ y1_=>S0 y0_ y1_) i) (λw:Ah=>bl w.ab k)
  (λi j hj hi h=>by
   rcases Nat.lt_or_ge i j with Gl|Gl
   ·exact IE ((List.pairwise_iff_getElem.1 hr) i j (by omega) hj Gl) h
   ·have:i=j:=by omega
    subst this;exact h)
  (λi j Gl hj Ih=>by show R0 l k _ (i:Int) (j:Int)=_;unfold R0;rw[if_pos (by simpa using Gl),ZN (by omega) (by omega),As Ih,Aa];simp only[hc,Aa,zJo,C4 (show(i+j)/2<=2000000 by omega)];cases bl l[(i+j)/2].ab k<;>rfl)
  (λi hi=>by show R0 l k _ (i:Int) (i:Int)=_;unfold R0;rw[if_neg (by simp)])
 rw[h];unfold tN;show Option.bind (if decide (((HH l k:Nat):Int)<l.length)=true then _ else _) _=_;by_cases hp:HH l k<l.length
 ·rw[if_pos (by simpa using hp),As hp,Aa];simp only[hc,Aa,zIT,AL hp]
 ·rw[if_neg (by simpa using hp),List.getElem?_eq_none (by omega)];rfl
theorem zGM{l:List Ah}{w:Ah}(hl:l.length<=2000000)(hr:He l):eF l w=some (DQ (λw:Ah=>w.ab) w l):=by
 unfold eF;rw[zPn hl hr,Aa,lD hr];show(if(match l[HH l w.ab]? with|some w'=>decide (w'.ab=w.ab)|none=>false)=true then _ else _)=_;have hle:HH l w.ab<=l.length:=L5 _ _;have hI:Gt l ((HH l w.ab:Nat):Int) [w]=some (l.take (HH l w.ab)++ [w]++l.drop (HH l w.ab)):=AI ⟨by omega,by omega,by simp,by simp only[AO];omega⟩;by_cases hp:HH l w.ab<l.length
 ·rw[AL hp];by_cases hk:(l[HH l w.ab]).ab=w.ab
  ·simp only[hk,decide_true,if_true,As hp,Aa];rfl
  ·simp only[hk,decide_false,A7,if_false];rw[hI];rfl
 ·rw[List.getElem?_eq_none (by omega)];simp only[A7,if_false];rw[hI];rfl
theorem zsb(ks:List Am):Ma ks=EB bl ks:=by
 have key:∀n q,q+n+1=ks.length->(List.range' (q+1) n).all (HD ks)=EB bl (ks.drop q):=by
  intro n
  induction n with
  |zero=>intro q hq;rw[By (show q<ks.length by omega),List.drop_eq_nil_of_le (show ks.length<=q+1 by omega)];rfl
  |succ n ih=>intro q hq;rw[List.range'_succ,List.all_cons,ih (q+1) (by omega),zxO (show q+1<ks.length by omega)];congr 1;unfold HD;have hb:(q+1==0)=false:=rfl;rw[hb,Bool.false_or,Nat.add_sub_cancel,AL (show q<ks.length by omega),AL (show q+1<ks.length by omega)];rfl
 cases ks with
 |nil=>rfl
 |cons k l=>unfold Ma;rw[AH,List.range_eq_range',List.range'_succ,List.all_cons];have:=key l.length 0 (by simp);rw[List.drop_zero]at this;rw[Nat.zero_add]at this;rw[show 0+1=1 from rfl,this];rfl
theorem zud{α β:Type}(f:α->β)(r:β->β->Bool):∀l:List α,EB r (l.map f)=EB (λa b=>r (f a) (f b)) l
 | []=>rfl
 | [_]=>rfl
 |x::y::l=>by have:=zud f r (y::l);simp only[List.map_cons,EB]at this ⊢;rw[this]
theorem zv3{l:List Ah}(h:Hw l=true):He l:=by unfold Hw at h;simp only[Ac]at h;have h1:=h.2.2;rw[zsb,zud]at h1;exact(zwv (r:=λa b:Ah=>bl a.ab b.ab) λa b c p q=>IE p q).1 h1
end
end Go.Proofs.YtlmjpjceiefpoaaGreatDoor

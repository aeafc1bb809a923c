/- Parts of a proof, joined: QF3, QF4, QF5, QR, NA, NE, N5, PK, NK, NP, NF, NC, NGA, NX, N6, NSP, NSQ, NSR, NSS, NST, NKR, NSU. -/
import Derived.Test.YtalagilebkaegaaGreatJ8
set_option linter.unusedVariables false
set_option linter.unusedSimpArgs false
namespace Go.Proofs.YtalagilebkaegaaGreat
noncomputable section
open Go.RowKit
set_option maxRecDepth 100000
set_option maxHeartbeats 4000000
def zh0:FS:=Ak 305 [.v (.l .s), .v .s] (.v (.i .i64)) (λx=>XP x.1 x.2.1) [] [.sp [.i .i64]]
def zgP:FS:=Ak 277 [.v (.l .s), .v .s] (.v .b) (λx=>XN x.1 x.2.1) [zh0] []
def zqb:FS:=Ak 275 [.v (.st 0), .rf (.l (.st 0)), .rf (.l .s)] (.v .b) (λx=>jT x.1 x.2.1 x.2.2.1) [zqn,zgP] []
def zpl:FS:=HZ zqb λ_=>by kernel_rfl
def zsz:FS:=Ak 235 [.v (.l (.st 0)), .v (.l .s), .v (.l (.st 0))] (.v .b) (λx=>Vy x.1 x.2.1 x.2.2.1) [gS,zpl] []
def xF:FS:=Ak 180 [.v (.st 1), .v (.st 1)] (.v .b) (λx=>R6 x.1 x.2.1) [zsz] []
def zkF:FS:=Ak 179 [.v (.st 1), .rf (.st 1)] (.v .b) (λx=>O5 x.1 x.2.1) [xF] []
def zkr:FS:=HZ zkF λ_=>by kernel_rfl
def zc2:FS:=Ak 237 [.v (.l (.st 4)), .v .s, .fn [.st 4, .s] (.i .i64)] (.tu (.cons (.v (.i .i64)) (.cons (.v .b) .nil))) (λx=>XL x.1 x.2.1 (λy0 y1=>x.2.2.1.φ (y0,y1,()))) [] [.sp [.i .i64, .i .i64]]
def zpo:FS:=Ak 238 [.v (.st 4), .v .s] (.v (.i .i64)) (λx=>Pd x.1 x.2.1) [vF] []
def zn6:FS:=HZ zpo λ_=>by kernel_rfl
def kR:FS:=Ak 184 [.v (.l (.st 4)), .v .s] (.tu (.cons (.v (.i .i64)) (.cons (.v .b) .nil))) (λx=>RY x.1 x.2.1) [zc2,zn6] []
def kD:FS:=Ak 112 [.v (.l (.st 4)), .v .s] (.v (.i .i64)) (λx=>RR x.1 x.2.1) [kR] []
def zkO:FS:=Ak 182 [.v (.st 0), .rf (.st 1), .rf (.st 5)] (.v .b) (λx=>OZ x.1 x.2.1 x.2.2.1) [kD] []
def zkg:FS:=HZ zkO λ_=>by kernel_rfl
def vJ:FS:=Ak 183 [.v (.st 5), .v (.l (.st 1))] (.v .b) (λx=>U3 x.1 x.2.1) [u9,vA,kR] [.sp [.i .i64, .l .s], .sp [.i .i64, .l .s], .sp [.i .i64, .l .s], .inl]
def zlC:FS:=Ak 111 [.v (.st 5)] (.v .b) (λx=>QK x.1) [vJ,vL,wI,u7,zkr,gS,zkg] [.sp [.i .i64]]
def zdn:FS:=Ak 125 [.v (.l (.st 1)), .v (.i .i64), .fn [.st 1, .i .i64] (.i .i64)] (.tu (.cons (.v (.i .i64)) (.cons (.v .b) .nil))) (λx=>XK x.1 x.2.1 (λy0 y1=>x.2.2.1.φ (y0,y1,()))) [] [.sp [.i .i64, .i .i64]]
def zqj:FS:=Ak 192 [.v (.i .i64)] (.v .b) (λx=>Vj x.1) [] []
def vK:FS:=Ak 123 [.v (.i .i64), .v (.i .i64)] (.v (.i .i64)) (λx=>UZ x.1 x.2.1) [zqj] []
def zkm:FS:=Ak 126 [.v (.st 1), .v (.i .i64)] (.v (.i .i64)) (λx=>O0 x.1 x.2.1) [vK] []
def zjO:FS:=HZ zkm λ_=>by kernel_rfl
def X0:FS:=Ak 62 [.v (.st 5), .v (.i .i64)] (.tu (.cons (.v (.i .i64)) (.cons (.v .b) .nil))) (λx=>KM x.1 x.2.1) [zdn,zjO] []
def zp3:FS:=Ak 51 [.v (.st 5)] (.v .b) (λx=>Rm x.1) [wN,vX,zlC,Pj,lQ,X0,kD] [.sp [.i .i64], .sp [.i .i64]]
def zo9:FS:=Ak 50 [.v (.st 5)] (.v .b) (λx=>Yf x.1) [zp3] []
def znP:FS:=HZ zo9 λ_=>by kernel_rfl
def zqQ:FS:=Ak 115 [.v (.l .s), .v (.l (.st 0))] (.v .b) (λx=>kH x.1 x.2.1) [wI] []
def zsA:FS:=Ak 52 [.v (.st 6)] (.v .b) (λx=>YL x.1) [lQ,zqQ] []
def u6:FS:=Ey 94 [.v (.l (.st 6)), .fn [.st 6] .b] (.v (.i .i64)) (λx=>Gv x.1 (λy=>x.2.1.φ (y,()))) λx r hp h=>G0 (f:=94) (t:=S7 3) (by kernel_rfl) (by kernel_rfl) (aW (av:=(B3 C6.av (.st 6))) (cn:=3) (λ_=>⟨_,rfl,rfl⟩) h (λy b hb=>hp.2.1 (y,()) b hb))
def zep:FS:=Ey 53 [.v (.l (.st 6)), .fn [.st 6] .b] (.v .b) (λx=>E0 x.1 (λy=>x.2.1.φ (y,()))) λx r hp h=>G0 (f:=53) (t:=S6 94) (by kernel_rfl) (by kernel_rfl) (aM h λr hr=>u6.ok x r hp hr)
def zo2:FS:=Ak 54 [.v (.st 6), .rf (.st 6)] (.v .b) (λx=>jF x.1 x.2.1) [] []
def zop:FS:=HZ zo2 λ_=>by kernel_rfl
def zr4:FS:=Ak 14 [.v (.st 7)] (.v .b) (λx=>Vf x.1) [zsa,zer,znP,zsA,zep,zop] [.sp [.i .i64]]
def zmG:FS:=Ak 95 [.v (.st 6), .rf (.st 8)] (.v .b) (λx=>iR x.1 x.2.1) [] []
def zmc:FS:=HZ zmG λ_=>by kernel_rfl
def UT:FS:=Ey 91 [.v (.l .s)] (.v (.l .s)) (λx=>IG x.1) λx r hp h=>G0 (f:=91) (t:=WJ 16 1) (by kernel_rfl) (by kernel_rfl) (nV (bytes:=16) (sz:=1) (av:=(B3 C6.av .s)) (λx=>⟨NF _ x,Pt (by kernel_rfl) x⟩) h)
def zuJ:FS:=Ak 170 [.v (.l .s), .v (.l (.st 0))] (.v (.l .s)) (λx=>YX x.1 x.2.1) [UT,vW,u9,vA] []
def kU:FS:=Ak 171 [.v (.l .s), .v .s] (.v (.i .i64)) (λx=>Vq x.1 x.2.1) [] [.sp [.i .i64, .i .i64], .inl]
def zsr:FS:=Ak 104 [.v (.l .s), .v (.l .s), .v (.l (.st 0))] (.v (.l (.i .i64))) (λx=>Y5 x.1 x.2.1 x.2.2.1) [zuJ,zjD,kU] [.sp [.i .i64, .l (.i .i64)]]
def X1:FS:=Ak 46 [.v (.st 7), .v (.st 6)] (.v (.l (.i .i64))) (λx=>Nh x.1 x.2.1) [zsr] []
def zkl:FS:=Ak 194 [.v (.l (.i .i64)), .v (.i .i64)] (.v (.i .i64)) (λx=>iA x.1 x.2.1) [] [.sp [.i .i64]]
def vC:FS:=Ak 128 [.v (.l (.i .i64)), .v (.i .i64)] (.v .b) (λx=>UW x.1 x.2.1) [zkl] []
def zdl:FS:=Ak 121 [.v (.l (.st 2)), .v (.i .i64), .fn [.st 2, .i .i64] (.i .i64)] (.tu (.cons (.v (.i .i64)) (.cons (.v .b) .nil))) (λx=>XJ x.1 x.2.1 (λy0 y1=>x.2.2.1.φ (y0,y1,()))) [] [.sp [.i .i64, .i .i64]]
def zkn:FS:=Ak 122 [.v (.st 2), .v (.i .i64)] (.v (.i .i64)) (λx=>O1 x.1 x.2.1) [vK] []
def zjQ:FS:=HZ zkn λ_=>by kernel_rfl
def XY:FS:=Ak 59 [.v (.st 5), .v (.i .i64)] (.tu (.cons (.v (.i .i64)) (.cons (.v .b) .nil))) (λx=>Nf x.1 x.2.1) [zdl,zjQ] []
def zuI:FS:=Ak 158 [.v (.i .i64)] (.tu (.cons (.v (.i .i64)) (.cons (.v .b) .nil))) (λx=>lX x.1) [] []
def zgF:FS:=Ey 265 [.v (.l .s), .fn [.s] .b] (.v (.i .i64)) (λx=>Gv x.1 (λy=>x.2.1.φ (y,()))) λx r hp h=>G0 (f:=265) (t:=fQ) (by kernel_rfl) (by kernel_rfl) (zDt (av:=(B3 C6.av .s)) (λ_=>rfl) h (λy b hb=>hp.2.1 (y,()) b hb))
def zgp:FS:=Ey 218 [.v (.l .s), .fn [.s] .b] (.v (.l .s)) (λx=>Pp x.1 (λy=>x.2.1.φ (y,()))) λx r hp h=>G0 (f:=218) (t:=Xp 265 1 false (.fld (.idx (.var 5) (.var 4)) 0 1 false) [] (.str (ByteArray.mk #[]))) (by kernel_rfl) (by kernel_rfl) (zzV (av:=(B3 C6.av .s)) (λx=>⟨NF _ x,Pt (by kernel_rfl) x,(λe=>nomatch e),λ_=>rfl⟩) (by decide) (λa b c d j ys x tl hj=>by simp[AV.nth,hj,B3,OV]) (λa b c d j ys x hj=>by simp[AV.nth,hj,B3,OV]) h (λi hi=>zgF.ok x i hp hi) (λy b hb=>hp.2.1 (y,()) b hb))
def zpZ:FS:=Ak 219 [.v .s, .rf (.l .s), .rf (.i .i64)] (.v .b) (λx=>YE x.1 x.2.1 x.2.2.1) [kU] []
def zpt:FS:=HZ zpZ λ_=>by kernel_rfl
def zs0:FS:=Ak 159 [.v (.l .s), .v (.l .s), .v (.i .i64)] (.v (.l .s)) (λx=>Y9 x.1 x.2.1 x.2.2.1) [UT,zgp,zpt] []
def hY:FS:=Ey 157 [.v (.l (.st 0))] (.v (.l (.st 0))) (λx=>LP x.1) λx r hp h=>G0 (f:=157) (t:=WJ 40 3) (by kernel_rfl) (by kernel_rfl) (nV (bytes:=40) (sz:=3) (av:=(B3 C6.av (.st 0))) (λx=>⟨NF _ x,Pt (by kernel_rfl) x⟩) h)
def zeQ:FS:=Ey 220 [.v (.l (.st 0)), .fn [.st 0] .b] (.v (.l (.st 0))) (λx=>Pp x.1 (λy=>x.2.1.φ (y,()))) λx r hp h=>G0 (f:=220) (t:=Xp 236 3 true (.mk (.cons (.fld (.fld (.idx (.var 5) (.var 4)) 0 3 true) 0 1 false) (.cons (.fld (.fld (.idx (.var 5) (.var 4)) 0 3 true) 1 1 false) (.cons (.fld (.fld (.idx (.var 5) (.var 4)) 0 3 true) 2 1 false) .nil)))) [(.agg (.fld (.idx (.var 5) (.var 4)) 0 3 true) 3)] (.mk (.cons (.str (ByteArray.mk #[])) (.cons (.str (ByteArray.mk #[])) (.cons (.bool false) .nil))))) (by kernel_rfl) (by kernel_rfl) (zzV (av:=(B3 C6.av (.st 0))) (λx=>⟨NF _ x,Pt (by kernel_rfl) x,λ_=>⟨_,rfl⟩,λe=>nomatch e⟩) (by decide) (λa b c d j ys x tl hj=>by simp[AV.nth,hj,B3,OV]) (λa b c d j ys x hj=>by simp[AV.nth,hj,B3,OV]) h (λi hi=>u5.ok x i hp hi) (λy b hb=>hp.2.1 (y,()) b hb))
def zoP:FS:=Ak 221 [.v (.st 0), .rf (.l .s), .rf (.i .i64)] (.v .b) (λx=>Ye x.1 x.2.1 x.2.2.1) [kU] []
def zn7:FS:=HZ zoP λ_=>by kernel_rfl
def zrF:FS:=Ak 160 [.v (.l .s), .v (.l (.st 0)), .v (.i .i64)] (.v (.l (.st 0))) (λx=>YM x.1 x.2.1 x.2.2.1) [hY,zeQ,zn7] []
def zgf:FS:=Ey 155 [.v (.l (.st 2))] (.v (.l (.st 2))) (λx=>gY x.1) λx r hp h=>G0 (f:=155) (t:=WJ 24 3) (by kernel_rfl) (by kernel_rfl) (nV (bytes:=24) (sz:=3) (av:=(B3 C6.av (.st 2))) (λx=>⟨NF _ x,Pt (by kernel_rfl) x⟩) h)
def wT:FS:=Ak 217 [.v (.st 9)] (.v (.st 1)) (λx=>R2 x.1) [UT,hY] []
def zri:FS:=Ak 156 [.v (.st 1)] (.v (.st 1)) (λx=>Yy x.1) [vL,wT] []
def kC:FS:=Ak 92 [.v (.st 5)] (.v (.st 5)) (λx=>O9 x.1) [vY,zgf,zri] [.sp [.i .i64, .l (.st 1)]]
def zrH:FS:=Ak 280 [.v (.l (.st 4)), .v (.l (.st 0)), .v (.i .i64)] (.tu (.cons (.v (.l (.st 4))) (.cons (.v .b) .nil))) (λx=>YN x.1 x.2.1 x.2.2.1) [vY,vX,kD,kR,zfM] [.sp [.i .i64, .l (.st 4)], .inl]
def zlu:FS:=Ak 250 [.v (.st 5), .v (.st 9)] (.tu (.cons (.v (.st 5)) (.cons (.v .b) .nil))) (λx=>XU x.1 x.2.1) [kC,X0,zf3,XY,zfN,zrH] [.pt, .inl]
def zme:FS:=Ak 283 [.v (.st 1), .rf (.st 1)] (.v .b) (λx=>XS x.1 x.2.1) [xF] []
def zly:FS:=HZ zme λ_=>by kernel_rfl
def zf9:FS:=Ey 284 [.v (.l (.st 1))] (.v (.l (.st 1))) (λx=>gZ x.1) λx r hp h=>G0 (f:=284) (t:=pU 72 5) (by kernel_rfl) (by kernel_rfl) (zzd (bytes:=72) (sz:=5) (av:=(B3 C6.av (.st 1))) (λx=>NF _ x) h)
def znB:FS:=Ak 251 [.v (.st 5), .v (.l .s), .v (.l (.st 0))] (.v .b) (λx=>X3 x.1 x.2.1 x.2.2.1) [u7,zly,zf9,vJ] []
def zlw:FS:=Ak 193 [.v (.st 5), .v (.st 9)] (.tu (.cons (.v (.st 5)) (.cons (.v .b) .nil))) (λx=>XV x.1 x.2.1) [kC,XY,zlu,X0,znB,wT,zfX] []
def zp9:FS:=Ak 93 [.v (.st 6)] (.v (.st 6)) (λx=>YF x.1) [UT,hY] []
def vU:FS:=Ak 39 [.v (.st 7)] (.v (.st 7)) (λx=>Vh x.1) [UT,zp9,kC] [.sp [.i .i64, .l (.st 5)], .sp [.i .i64, .l (.st 6)]]
def X8:FS:=Ak 127 [.v (.st 7), .v (.i .i64), .v (.st 9)] (.tu (.cons (.v (.st 7)) (.cons (.v .b) .nil))) (λx=>O7 x.1 x.2.1 x.2.2.1) [zlw,vU] []
def zlT:FS:=Ak 96 [.v (.st 7), .v (.st 6), .v (.i .i64)] (.tu (.cons (.v (.st 7)) (.cons (.v .b) .nil))) (λx=>X7 x.1 x.2.1 x.2.2.1) [X1,vC,XY,zuI,zs0,zrF,X8] []
def zmO:FS:=Ak 97 [.v (.st 7), .v (.st 6), .v (.i .i64)] (.tu (.cons (.v (.st 7)) (.cons (.v .b) .nil))) (λx=>X9 x.1 x.2.1 x.2.2.1) [wN,X1,X8,X0] [.sp [.i .i64, .i .i64]]
def zmM:FS:=Ak 63 [.v (.st 7), .v (.st 6)] (.tu (.cons (.v (.st 7)) (.cons (.v .b) .nil))) (λx=>Yc x.1 x.2.1) [X1,X8] []
def zl1:FS:=Ak 64 [.v (.st 7), .v (.st 6), .v (.i .i64)] (.tu (.cons (.v (.st 7)) (.cons (.v .b) .nil))) (λx=>X6 x.1 x.2.1 x.2.2.1) [X1,XY,X8,vC] [.pt]
def znQ:FS:=Ak 40 [.v (.st 7), .v (.st 8)] (.tu (.cons (.v (.st 7)) (.cons (.v .b) .nil))) (λx=>QR x.1 x.2.1) [u6,zmc,zlT,zmO,zmM,zl1] []
def jU:FS:=Ak 77 [.v (.l .s), .v (.l .s)] (.v .b) (λx=>Rv x.1 x.2.1) [] [.sp [.i .i64]]
def zvY:FS:=Ak 312 [.v (.st 3), .v (.st 3)] (.v .b) (λx=>Zl x.1 x.2.1) [] []
def zup:FS:=Ak 289 [.v (.l (.st 3)), .v (.l (.st 3))] (.v .b) (λx=>kZ x.1 x.2.1) [zvY] [.sp [.i .i64]]
def zua:FS:=Ak 260 [.v (.st 4), .v (.st 4)] (.v .b) (λx=>Zt x.1 x.2.1) [zup] []
def zsF:FS:=Ak 207 [.v (.l (.st 4)), .v (.l (.st 4))] (.v .b) (λx=>lK x.1 x.2.1) [zua] [.sp [.i .i64]]
def zs3:FS:=Ak 263 [.v (.st 0), .v (.st 0)] (.v .b) (λx=>Za x.1 x.2.1) [] []
def vT:FS:=Ak 210 [.v (.l (.st 0)), .v (.l (.st 0))] (.v .b) (λx=>YT x.1 x.2.1) [zs3] [.sp [.i .i64]]
def zuc:FS:=Ak 261 [.v (.st 1), .v (.st 1)] (.v .b) (λx=>Zs x.1 x.2.1) [jU,vT] []
def zsq:FS:=Ak 208 [.v (.l (.st 1)), .v (.l (.st 1))] (.v .b) (λx=>lD x.1 x.2.1) [zuc] [.sp [.i .i64]]
def ztR:FS:=Ak 262 [.v (.st 2), .v (.st 2)] (.v .b) (λx=>YW x.1 x.2.1) [] []
def zsO:FS:=Ak 209 [.v (.l (.st 2)), .v (.l (.st 2))] (.v .b) (λx=>lF x.1 x.2.1) [ztR] [.sp [.i .i64]]
def zsY:FS:=Ak 138 [.v (.st 5), .v (.st 5)] (.v .b) (λx=>Zi x.1 x.2.1) [zsF,zsq,zsO] []
def zrZ:FS:=Ak 78 [.v (.l (.st 5)), .v (.l (.st 5))] (.v .b) (λx=>kO x.1 x.2.1) [zsY] [.sp [.i .i64]]
def zsX:FS:=Ak 139 [.v (.st 6), .v (.st 6)] (.v .b) (λx=>YH x.1 x.2.1) [jU,vT] []
def zrr:FS:=Ak 79 [.v (.l (.st 6)), .v (.l (.st 6))] (.v .b) (λx=>kG x.1 x.2.1) [zsX] [.sp [.i .i64]]
def zvg:FS:=Ak 28 [.v (.st 7), .v (.st 7)] (.v .b) (λx=>Kb x.1 x.2.1) [jU,zrZ,zrr] []
def Ni:FS:=Ak 140 [.v (.i .i64)] (.v .s) (λx=>Hp x.1) [] [.sp [.i .i64, .s]]
def jI:FS:=Ak 80 [.v (.l .s), .v (.i .i64)] (.tu (.cons (.v (.i .i64)) (.cons (.v (.l .s)) .nil))) (λx=>UY x.1 x.2.1) [Ni] [.sp [.i .i64, .i .i64, .l .s]]
def zr3:FS:=Ak 211 [.v (.l (.st 3)), .v (.i .i64)] (.tu (.cons (.v (.i .i64)) (.cons (.v (.l (.st 3))) .nil))) (λx=>kM x.1 x.2.1) [Ni] [.sp [.i .i64, .i .i64, .l (.st 3)]]
def zp7:FS:=Ak 141 [.v (.l (.st 4)), .v (.i .i64)] (.tu (.cons (.v (.i .i64)) (.cons (.v (.l (.st 4))) .nil))) (λx=>jN x.1 x.2.1) [Ni,zr3] [.sp [.i .i64, .i .i64, .l (.st 4)]]
def vN:FS:=Ak 144 [.v (.l (.st 0)), .v (.i .i64)] (.tu (.cons (.v (.i .i64)) (.cons (.v (.l (.st 0))) .nil))) (λx=>Ym x.1 x.2.1) [Ni] [.sp [.i .i64, .i .i64, .l (.st 0)]]
def zpX:FS:=Ak 142 [.v (.l (.st 1)), .v (.i .i64)] (.tu (.cons (.v (.i .i64)) (.cons (.v (.l (.st 1))) .nil))) (λx=>jS x.1 x.2.1) [jI,vN] [.sp [.i .i64, .i .i64, .l (.st 1)]]
def zqf:FS:=Ak 143 [.v (.l (.st 2)), .v (.i .i64)] (.tu (.cons (.v (.i .i64)) (.cons (.v (.l (.st 2))) .nil))) (λx=>jZ x.1 x.2.1) [] [.sp [.i .i64, .i .i64, .l (.st 2)]]
def zo0:FS:=Ak 81 [.v (.l (.st 5)), .v (.i .i64)] (.tu (.cons (.v (.i .i64)) (.cons (.v (.l (.st 5))) .nil))) (λx=>jE x.1 x.2.1) [zp7,zpX,zqf] [.sp [.i .i64, .i .i64, .l (.st 5)]]
def zpd:FS:=Ak 82 [.v (.l (.st 6)), .v (.i .i64)] (.tu (.cons (.v (.i .i64)) (.cons (.v (.l (.st 6))) .nil))) (λx=>iX x.1 x.2.1) [jI,vN] [.sp [.i .i64, .i .i64, .l (.st 6)]]
def zrU:FS:=Ak 29 [.v (.st 7), .v (.i .i64)] (.tu (.cons (.v (.i .i64)) (.cons (.v (.st 7)) .nil))) (λx=>Pe x.1 x.2.1) [jI,zo0,zpd] []
def jG:FS:=Ak 83 [.v (.l .s), .v (.i .i64)] (.v (.i .i64)) (λx=>Va x.1 x.2.1) [Ni] [.sp [.i .i64, .i .i64]]
def zqT:FS:=Ak 212 [.v (.l (.st 3)), .v (.i .i64)] (.v (.i .i64)) (λx=>kL x.1 x.2.1) [Ni] [.sp [.i .i64, .i .i64]]
def zp4:FS:=Ak 145 [.v (.l (.st 4)), .v (.i .i64)] (.v (.i .i64)) (λx=>jV x.1 x.2.1) [Ni,zqT] [.sp [.i .i64, .i .i64]]
def vO:FS:=Ak 148 [.v (.l (.st 0)), .v (.i .i64)] (.v (.i .i64)) (λx=>Yg x.1 x.2.1) [Ni] [.sp [.i .i64, .i .i64]]
def zp5:FS:=Ak 146 [.v (.l (.st 1)), .v (.i .i64)] (.v (.i .i64)) (λx=>jQ x.1 x.2.1) [jG,vO] [.sp [.i .i64, .i .i64]]
def zqc:FS:=Ak 147 [.v (.l (.st 2)), .v (.i .i64)] (.v (.i .i64)) (λx=>jW x.1 x.2.1) [] [.sp [.i .i64, .i .i64]]
def zoR:FS:=Ak 84 [.v (.l (.st 5)), .v (.i .i64)] (.v (.i .i64)) (λx=>iT x.1 x.2.1) [zp4,zp5,zqc] [.sp [.i .i64, .i .i64]]
def zoT:FS:=Ak 85 [.v (.l (.st 6)), .v (.i .i64)] (.v (.i .i64)) (λx=>iU x.1 x.2.1) [jG,vO] [.sp [.i .i64, .i .i64]]
def zru:FS:=Ak 30 [.v (.st 7), .v (.i .i64)] (.v (.i .i64)) (λx=>Pf x.1 x.2.1) [jG,zoR,zoT] []
def zoL:FS:=Ak 31 [.v (.l (.st 8)), .v (.i .i64)] (.v (.i .i64)) (λx=>Yd x.1 x.2.1) [] []
def zo6:FS:=Ak 32 [.v (.l (.st 8))] (.v (.l (.st 8))) (λx=>RC x.1) [zqk] [.sp [.i .i64, .l (.st 8)]]
def zsu:FS:=Ak 42 [.v (.st 7), .v (.l (.st 8))] (.tu (.cons (.v (.st 7)) (.cons (.v (.l .b)) .nil))) (λx=>Zg x.1 x.2.1) [wP,zss] [.sp [.l .b, .i .i64, .l (.st 6), .l .s, .l (.st 5)], .inl]
def zrz:FS:=Ak 10 [.v (.st 7), .v (.l (.st 8))] (.tu (.cons (.v (.st 7)) (.cons (.v (.l .b)) (.cons (.v .b) .nil)))) (λx=>YO x.1 x.2.1) [zsU,zsu] []
def zrb:FS:=Ak 9 [.v (.st 7), .v (.l (.st 8))] (.tu (.cons (.v (.st 7)) (.cons (.v (.l .b)) (.cons (.v .b) .nil)))) (λx=>Vd x.1 x.2.1) [zr4,vU,znQ] [.sp [.i .i64, .l .s, .l (.st 5), .l (.st 6), .l .b], .inl]
def zsV:FS:=Ak 33 [.v (.l .b), .v (.l .b)] (.v .b) (λx=>R4 x.1 x.2.1) [] [.sp [.i .i64]]
def zqi:FS:=Ak 86 [.v (.st 8), .v (.st 8)] (.v .b) (λx=>YC x.1 x.2.1) [] []
def zpj:FS:=Ak 34 [.v (.l (.st 8)), .v (.l (.st 8))] (.v .b) (λx=>iV x.1 x.2.1) [zqi] [.sp [.i .i64]]
def znn:FS:=Ak 35 [.v (.l (.st 8)), .v (.i .i64)] (.tu (.cons (.v (.i .i64)) (.cons (.v (.l (.st 8))) .nil))) (λx=>iH x.1 x.2.1) [] [.sp [.i .i64, .i .i64, .l (.st 8)]]
def zp8:FS:=Ak 36 [.v (.l .b), .v (.i .i64)] (.tu (.cons (.v (.i .i64)) (.cons (.v (.l .b)) .nil))) (λx=>jP x.1 x.2.1) [] [.sp [.i .i64, .i .i64, .l .b]]
def zqp:FS:=Ak 37 [.v (.l .b), .v (.i .i64)] (.v (.i .i64)) (λx=>YG x.1 x.2.1) [] [.sp [.i .i64, .i .i64]]
def vD:FS:=Ak 6 [.v (.st 7), .v (.l (.st 8))] (.v .b) (λx=>XX x.1 x.2.1) [zuz,zoL,zvf,zo6,zrz,zrb,zvg,zsV,zpj,zrU,znn,zp8,zru,zqp] []
theorem zlA(a0:Ar)(a1:List BU)(r:Bool)(h:XX a0 a1=some r):Cm Tryz.prog B5 6 [fV a0, .sl (a1.map Z0)] (.bool r):=vD.ok (a0,a1,()) r (by simp[vD,Ak,IX,US]) h
theorem AN{α:Type}{xs:List α}{i:Nat}(h:i<xs.length):Am xs (i:Int)=some xs[i]:=by simp[Am,h]
theorem zFf{α:Type}{xs:List α}{i:Int}(h0:0<=i)(h:i<xs.length):∃x,Am xs i=some x/\x∈xs/\xs[i.toNat]?=some x:=by
 have hi:i.toNat<xs.length:=by omega
 exact⟨xs[i.toNat],by simp[Am,h0,hi],AF hi,by simp[hi]⟩
theorem zDB{α:Type}{xs:List α}{i:Int}{x:α}(h:Am xs i=some x):x∈xs:=by obtain⟨h1,h2,h3⟩:=Xs h;exact List.mem_of_getElem? h3
theorem FI{q n:Nat}(h:q<n)(hn:n<=9223372036854775807):IntKind.i64.wrap ((q:Int)+1)=((q+1:Nat):Int):=by rw[CD (by omega) (by omega)];simp
theorem A7{α:Type}{p:Prop}{k:Option α}(h:p):AK p k=k:=by simp[AK,h]
def GH{α σ β:Type}(step:α->σ->Option (σ ⊕ Option β))(fin:σ->Option β):List α->σ->Option β
 | [],s=>fin s
 |x::xs,s=>match step x s with
  |none=>none
  |some (.inl s')=>GH step fin xs s'
  |some (.inr o)=>o
def P0{σ τ β:Type}(f:σ->τ):Option (σ ⊕ Option β)->Option (τ ⊕ Option β)
 |none=>none
 |some (.inl s)=>some (.inl (f s))
 |some (.inr o)=>some (.inr o)
theorem zAO{α σ τ β:Type}{xs:List α}{body:τ->Option (τ ⊕ Option β)}(emb:Int->σ->τ)(step:α->σ->Option (σ ⊕ Option β))(fin:σ->Option β)(q0:Nat)
  (hs:∀(i:Nat) (hi:i<xs.length) (s:σ),q0<=i->body (emb i s)=P0 (emb ((i+1:Nat):Int)) (step xs[i] s)) (he:∀s,body (emb xs.length s)=some (.inr (fin s))) (s:σ) (h0:q0<=xs.length):Au body (emb q0 s)=GH step fin (xs.drop q0) s:=by
 have key:∀(n q:Nat) (s:σ),q0<=q->q+n=xs.length->Au body (emb q s)=GH step fin (xs.drop q) s:=by
  intro n
  induction n with
  |zero=>
   intro q s _ hq;have:q=xs.length:=by omega
   subst this;rw[DK,he s];simp[GH]
  |succ n ih=>
   intro q s h0 hq;have AH:q<xs.length:=by omega
   rw[DK,hs q AH s h0,Bw AH];rcases Em:step xs[q] s with _|s'|o
   ·simp[GH,Em,P0]
   ·simp only[GH,Em,P0];exact ih (q+1) s' (by omega) (by omega)
   ·simp[GH,Em,P0]
 exact key (xs.length-q0) q0 s (AJ _) (by omega)
theorem VZ{α σ τ β:Type}{xs:List α}{body:τ->Option (τ ⊕ Option β)}(emb:Int->σ->τ)(step:α->σ->Option (σ ⊕ Option β))(fin:σ->Option β)
  (hs:∀(i:Nat) (hi:i<xs.length) (s:σ),body (emb i s)=P0 (emb ((i+1:Nat):Int)) (step xs[i] s)) (he:∀s,body (emb xs.length s)=some (.inr (fin s))) (s:σ):Au body (emb 0 s)=GH step fin xs s:=by
 have:=zAO emb step fin 0 (λi hi s _=>hs i hi s) he s (by omega);simpa using this
theorem zzO{α σ β:Type}{step:α->σ->Option (σ ⊕ Option β)}{fin:σ->Option β}{xs:List α}(p:α->Bool)(b:β)(h:∀x∈xs,∀s,step x s=some (if p x=true then .inl s else .inr (some b)))(s:σ):GH step fin xs s=if xs.all p=true then fin s else some b:=by
 induction xs with
 |nil=>simp[GH]
 |cons x xs ih=>
  simp only[GH,h x (by simp) s];cases hp:p x with
  |true=>simp[hp,ih λy hy=>h y (by simp[hy])]
  |false=>simp[hp]
theorem zCe{α σ β:Type}{step:α->σ->Option (σ ⊕ Option β)}{fin:σ->Option β}{xs:List α}(f:σ->α->σ)(I:σ->Prop)(hI:∀x∈xs,∀s,I s->I (f s x))(h:∀x∈xs,∀s,I s->step x s=some (.inl (f s x))){s:σ}(hs:I s):GH step fin xs s=fin (xs.foldl f s):=by
 induction xs generalizing s with
 |nil=>simp[GH]
 |cons x xs ih=>simp only[GH,h x (by simp) s hs,List.foldl_cons];exact ih (λy hy=>hI y (by simp[hy])) (λy hy=>h y (by simp[hy])) (hI x (by simp) s hs)
theorem E9{α σ τ β:Type}{xs:List α}{body:τ->Option (τ ⊕ Option β)}(emb:Int->σ->τ)(f:σ->α->σ)(fin:σ->Option β)(I:Nat->σ->Prop)
  (hs:∀(i:Nat) (hi:i<xs.length) (s:σ),I i s->body (emb i s)=some (.inl (emb ((i+1:Nat):Int) (f s xs[i])))/\I (i+1) (f s xs[i])) (he:∀s,I xs.length s->body (emb xs.length s)=some (.inr (fin s))) {s:σ} (h0:I 0 s):Au body (emb 0 s)=fin (xs.foldl f s)/\I xs.length (xs.foldl f s):=by
 have key:∀(n q:Nat) (s:σ),q+n=xs.length->I q s->Au body (emb q s)=fin ((xs.drop q).foldl f s)/\I xs.length ((xs.drop q).foldl f s):=by
  intro n
  induction n with
  |zero=>
   intro q s hq hI;have:q=xs.length:=by omega
   subst this;rw[DK,he s hI];simp[hI]
  |succ n ih=>
   intro q s hq hI;have AH:q<xs.length:=by omega
   obtain⟨h1,h2⟩:=hs q AH s hI;rw[DK,h1,Bw AH,List.foldl_cons];exact ih (q+1) _ (by omega) h2
 have:=key xs.length 0 s (by omega) h0;simpa using this
theorem L5{α:Type}{xs:List α}{p:α->Option Bool}(q:α->Bool)(hp:∀x∈xs,p x=some (q x))(hn:xs.length<=9223372036854775806):E0 xs p=some (xs.any q):=by
 have key:∀(l:List α) (i:Int),0<=i->(∀x∈l,p x=some (q x))-> ∃r,Fg p l i=some r/\decide (r>=0)=l.any q:=by
  intro l
  induction l with
  |nil=>intro i _ _;exact⟨-1,rfl,by simp⟩
  |cons x l ih=>
   intro i hi h;simp only[Fg,h x (by simp),Aa];cases hq:q x with
   |true=>exact⟨i,by simp,by simp[hq,hi]⟩
   |false=>obtain⟨r,h1,h2⟩:=ih (i+1) (by omega) λy hy=>h y (by simp[hy]);exact⟨r,by simp[h1],by simp[hq,h2]⟩
 obtain⟨r,h1,h2⟩:=key xs 0 (by omega) hp;simp[E0,Gv,A7 hn,h1,h2]
theorem Jj{α:Type}{b:Nat}{xs:List α}(h:(xs.length:Int)*b<=140737488355328)(h2:(xs.length:Int)<=140737488355328):PG b xs=some xs:=A7 ⟨h,h2⟩
theorem Kj{β:Type}{n:Nat}{body:Int->Option (Int ⊕ Option β)}(p:Nat->Bool)(b:β)(fin:Option β)
  (hs:∀i:Nat,i<n->body i=some (if p i=true then .inl ((i+1:Nat):Int)else .inr (some b))) (he:body n=some (.inr fin)):Au body 0=if(List.range n).all p=true then fin else some b:=by
 have h1:=VZ (xs:=List.range n) (body:=body) (λi (_:Unit)=>i) (λi _=>some (if p i=true then .inl ()else .inr (some b))) (λ_=>fin)
  (λi hi s=>by rw[List.length_range]at hi;rw[hs i hi,List.getElem_range];cases p i<;>simp[P0]) (λs=>by simpa using he) ()
 rw[zzO p b λx _ s=>rfl]at h1;exact h1
def CU{α:Type}(p:α->Bool)(l:List α):Int:=match l.findIdx? p with|some i=>(i:Int)|none=> -1
theorem aH{α:Type}(p:α->Bool):CU p []= -1:=rfl
theorem ZW{α:Type}(p:α->Bool)(x:α)(l:List α):CU p (x::l)=if p x=true then 0 else if CU p l= -1 then-1 else CU p l+1:=by
 unfold CU;rw[List.findIdx?_cons];cases p x with
 |true=>simp
 |false=>
  cases h:l.findIdx? p with
  |none=>simp
  |some i=>simp<;>omega
theorem PD{α:Type}(p:α->Bool)(l:List α): -1<=CU p l:=by unfold CU;split<;>omega
theorem oK{α:Type}(p:α->Bool)(l:List α):decide (CU p l>=0)=l.any p:=by
 induction l with
 |nil=>simp[aH]
 |cons x l ih=>
  have h1:=PD p l;rw[ZW,List.any_cons,<-ih];cases p x with
  |true=>simp
  |false=>
   by_cases h:CU p l= -1
   ·simp[h]
   ·have:CU p l>=0:=by omega
    simp[h,this];try omega
theorem oF{α:Type}{p:α->Bool}{l:List α}(h:CU p l>=0):∃x,Am l (CU p l)=some x/\p x=true/\x∈l:=by
 induction l with
 |nil=>simp[aH]at h
 |cons y l ih=>
  rw[ZW]at h ⊢;cases hy:p y with
  |true=>exact⟨y,by simp[Am],hy,by simp⟩
  |false=>
   have h1:=PD p l;by_cases hm:CU p l= -1
   ·rw[hy,hm]at h;simp at h
   ·have h0:CU p l>=0:=by omega
    obtain⟨x,e1,e2,e3⟩:=ih h0;obtain⟨_,e4,e5⟩:=Xs e1;refine⟨x,?_,e2,by simp[e3]⟩;simp only[AS,if_false,hm];unfold Am;rw[if_pos (by omega),show(CU p l+1).toNat=(CU p l).toNat+1 by omega];simpa using e5
theorem aC{α:Type}{xs:List α}{body:Int->Option (Int ⊕ Option Int)}(p:α->Bool)(hs:∀(i:Nat) (hi:i<xs.length),body i=some (if p xs[i]=true then .inr (some (i:Int))else .inl ((i+1:Nat):Int)))(he:body xs.length=some (.inr (some (-1)))):Au body 0=some (CU p xs):=by
 have key:∀(n q:Nat),q+n=xs.length->Au body q=some (if CU p (xs.drop q)= -1 then-1 else q+CU p (xs.drop q)):=by
  intro n
  induction n with
  |zero=>
   intro q hq;have:q=xs.length:=by omega
   subst this;rw[DK,he];simp[aH]
  |succ n ih=>
   intro q hq;have AH:q<xs.length:=by omega
   rw[DK,hs q AH,Bw AH,ZW];cases p xs[q]with
   |true=>simp
   |false=>
    simp only[AS,if_false];rw[ih (q+1) (by omega)];have h1:=PD p (xs.drop (q+1));congr 1;by_cases hm:CU p (xs.drop (q+1))= -1
    ·simp[hm]
    ·have h2: ¬(CU p (xs.drop (q+1))+1= -1):=by omega
     simp only[hm,if_false,h2];omega
 have h:=key xs.length 0 (by omega);rw[List.drop_zero]at h;rw[show((0:Nat):Int)=0 from rfl]at h;rw[h];have h1:=PD p xs;by_cases hm:CU p xs= -1
 ·simp[hm]
 ·simp[hm]
theorem zwJ{α:Type}{xs:List α}{p:α->Option Bool}(q:α->Bool)(hp:∀x∈xs,p x=some (q x))(hn:xs.length<=9223372036854775806):Gv xs p=some (CU q xs):=by
 have key:∀(l:List α) (i:Int),(∀x∈l,p x=some (q x))->Fg p l i=some (if CU q l= -1 then-1 else i+CU q l):=by
  intro l
  induction l with
  |nil=>intro i _;simp[Fg,aH]
  |cons x l ih=>
   intro i h;simp only[Fg,h x (by simp),Aa,ZW];cases q x with
   |true=>simp
   |false=>
    simp only[AS,if_false];rw[ih (i+1) λy hy=>h y (by simp[hy])];have h1:=PD q l;congr 1;by_cases hm:CU q l= -1
    ·simp[hm]
    ·have h2: ¬(CU q l+1= -1):=by omega
     simp only[hm,if_false,h2];omega
 unfold Gv;rw[A7 hn,key xs 0 hp];by_cases hm:CU q xs= -1
 ·simp[hm]
 ·simp[hm]
theorem aL{α β:Type}{o:Option α}{x:α}{f:α->Option β}(h:o=some x):o.bind f=f x:=by rw[h];rfl
theorem foldl_map{α β:Type}(f:α->β)(l:List α)(o:List β):l.foldl (λo x=>o++ [f x]) o=o++l.map f:=by
 induction l generalizing o with
 |nil=>simp
 |cons x l ih=>rw[List.foldl_cons,ih];simp
theorem uC{α:Type}{xs:List α}{d:α}{body:Int × List α->Option ((Int × List α) ⊕ Option (List α))}
  (hs:∀(i:Nat) (hi:i<xs.length) (v:List α),v.length=xs.length->body ((i:Int),v)=some (.inl (((i+1:Nat):Int),v.set i xs[i])))
  (he:∀v,body ((xs.length:Int),v)=some (.inr (some v))):Au body (0,List.replicate xs.length d)=some xs:=by
 have h1:=E9 (xs:=xs) (body:=body) (λi (o:List α)=>(i,o++List.replicate (xs.length-i.toNat) d)) (λ(o:List α) x=>o++ [x]) (λo=>some o) (λi o=>o.length=i)
  (λi hi o ho=>by
   refine⟨?_,by simp[ho]⟩;rw[show((i:Int)).toNat=i from rfl,hs i hi _ (by simp[ho];omega)];congr 3;obtain⟨k,hk⟩:∃k,xs.length-i=k+1:=⟨xs.length-i-1,by omega⟩
   have h2:xs.length-(((i+1:Nat):Int)).toNat=k:=by rw[show(((i+1:Nat):Int)).toNat=i+1 from rfl];omega
   rw[h2,hk,List.replicate_succ];subst ho;simp[List.set_append])
  (λo ho=>by show body ((xs.length:Int),o++List.replicate (xs.length-((xs.length:Int)).toNat) d)=_;rw[show((xs.length:Int)).toNat=xs.length from rfl,Nat.sub_self,List.replicate_zero,AE];exact he o) (s:=([]:List α)) rfl
 have h3:=h1.1;rw[show(λ(o:List α) x=>o++ [x])=(λo x=>o++ [id x])from rfl,foldl_map,List.map_id,List.nil_append]at h3;exact h3
theorem fT{n:Nat}{body:Int->Option (Int ⊕ Option Bool)}(hs:∀i:Nat,i<n->body i=some (.inl ((i+1:Nat):Int)))(he:body n=some (.inr (some true))):Au body 0=some true:=by have h:=Kj (n:=n) (body:=body) (λ_=>true) false (some true) (λi hi=>by rw[hs i hi,if_pos rfl]) he;rw[h,if_pos (by simp)]
theorem L0{a:Int}{n:Nat}(h0:0<=a)(h1:a<=1048576)(hn:n<=9223372036854775807):IntKind.i64.wrap (a-(n:Int))=a-n:=CD (by omega) (by omega)
abbrev Ap:=Ag
def BI(a b c:Int):Bool:=decide (a>=b)&&decide (a<=c)
theorem Fp{a b c:Int}:BI a b c=true↔b<=a/\a<=c:=by simp[BI]
@[simp] theorem NJ(a b c:Int):II a b c=some (BI a b c):=rfl
@[simp] theorem Py(a b c:Int):LR a b c=some (BI a b c):=rfl
def Kq(b:UInt8):Bool:=(decide ((b.toNat:Int)>=97)&&decide ((b.toNat:Int)<=122))||(decide ((b.toNat:Int)>=48)&&decide ((b.toNat:Int)<=57))
def SC(s more:Ap):Bool:=s.all λb=>Kq b||more.contains b
theorem zGU{a b:UInt8}:((a.toNat:Int)==(b.toNat:Int))=(a==b):=by
 rw[Bool.eq_iff_iff];simp only[AM];constructor
 ·intro h;exact UInt8.toNat_inj.1 (by omega)
 ·rintro rfl;rfl
theorem z7{α:Type}(xs:List α)(p:α->Bool)(q:Nat->Bool)(h:∀(i:Nat) (hi:i<xs.length),q i=p xs[i]):(List.range xs.length).all q=xs.all p:=by
 rw[Bool.eq_iff_iff];simp only[Bl,List.mem_range];constructor
 ·intro hq x hx;obtain⟨i,hi,rfl⟩:=List.getElem_of_mem hx;rw[<-h i hi];exact hq i hi
 ·intro hp i hi;rw[h i hi];exact hp _ (AF hi)
theorem zxM{α β:Type}{xs:List α}{body:Int->Option (Int ⊕ Option β)}(p:α->Bool)(b:β)(fin:Option β)
  (hs:∀(i:Nat) (hi:i<xs.length),body i=some (if p xs[i]=true then .inl ((i+1:Nat):Int)else .inr (some b))) (he:body xs.length=some (.inr fin)):Au body 0=if xs.all p=true then fin else some b:=by
 rw[Kj (n:=xs.length) (λi=>match xs[i]? with|some x=>p x|none=>true) b fin (λi hi=>by rw[hs i hi];simp[hi]) he,
  z7 xs p _ λi hi=>by simp[hi]]
theorem zV{s more:Ap}(h1:s.length<=2000000)(h2:more.length<=2000000):Vw s more=some (SC s more):=by
 unfold Vw;rw[zxM (xs:=s) (λb=>Kq b||more.contains b) false (some true) ?_ (by simp[iW])]
 ·unfold SC;cases(s.all λb=>Kq b||more.contains b)<;>rfl
 ·intro i hi;have Ce:Au (λt:Bool × Int=>U8 more i s[i] t.1 t.2) (Kq s[i],0)=some (if(Kq s[i]||more.contains s[i])=true then .inl ((i+1:Nat):Int)else .inr (some false)):=by
   have hl:=VZ (xs:=more) (body:=λt:Bool × Int=>U8 more i s[i] t.1 t.2) (λk (ok:Bool)=>(ok,k)) (λb ok=>some (.inl (ok||s[i]==b))) (λok=>iS i ok)
    (λk hk ok=>by simp only[U8,Int.ofNat_lt,hk,decide_true,if_true,AN hk,Aa,FI hk (by omega:more.length<=_),zGU,P0];cases ok<;>simp) (λok=>by simp[U8]) (Kq s[i])
   rw[zCe (λok b=>ok||s[i]==b) (λ_=>True) (λ_ _ _ _=>trivial) (λ_ _ _ _=>rfl) trivial]at hl;have hf:∀(l:Ap) (ok:Bool),l.foldl (λok b=>ok||s[i]==b) ok=(ok||l.contains s[i]):=by
    intro l
    induction l with
    |nil=>intro ok;simp
    |cons c l ih=>intro ok;rw[List.foldl_cons,ih,List.contains_cons,Bool.or_assoc]
   rw[hl,hf];unfold iS;rw[FI hi (by omega)];cases(Kq s[i]||more.contains s[i])<;>rfl
  simp only[iW,Int.ofNat_lt,hi,decide_true,if_true,AN hi,Aa];exact Ce
theorem zun(l:Ap)(c:UInt8):decide (Lib.indexByte l c<0)= !l.contains c:=by
 induction l with
 |nil=>rfl
 |cons b l ih=>
  unfold Lib.indexByte;have Qb:=Lib.indexByte_ge l c;rw[List.contains_cons];by_cases hb:b=c
  ·subst hb;simp
  ·have h1:(b==c)=false:=by simpa using hb
   have h2:(c==b)=false:=by simpa using λh=>hb h.symm
   rw[h1,h2];simp only[AS,if_false,Bool.false_or];rw[<-ih];by_cases hm:Lib.indexByte l c= -1
   ·simp[hm]
   ·have h3:(Lib.indexByte l c== -1)=false:=by simpa using hm
    rw[h3];simp only[AS,if_false];rw[decide_eq_decide];omega
theorem yS{s more:Ap}(h1:s.length<=2000000):Ve s more=some (SC s more):=by
 unfold Ve;rw[zxM (xs:=s) (λb=>Kq b||more.contains b) false (some true) ?_ (by simp[iO])]
 ·unfold SC;cases(s.all λb=>Kq b||more.contains b)<;>rfl
 ·intro i hi;have hu:((s[i].toNat:Int)).toNat.toUInt8=s[i]:=by simp
  simp only[iO,Int.ofNat_lt,hi,decide_true,if_true,AN hi,Aa,iB,iJ,XO,hu,zun,FI hi (by omega:s.length<=_)];rw[show((decide ((s[i].toNat:Int)>=97)&&decide ((s[i].toNat:Int)<=122))||(decide ((s[i].toNat:Int)>=48)&&decide ((s[i].toNat:Int)<=57)))=Kq s[i]from rfl];cases Kq s[i]<;>cases more.contains s[i]<;>rfl
def Dh(s:Ap):Bool:=BI s.length 1 12&&SC s [46,47]
def PJ(s:Ap):Bool:=decide ((s.length:Int)<=24)&&SC s [46,45,44,95]
theorem SO{s:Ap}(h:s.length<=2000000):Po s=some (Dh s):=by simp only[Po,NJ,Aa,zV h (more:=[46,47]) (by decide),Dh];cases BI s.length 1 12<;>simp
theorem zGh{s:Ap}(h:s.length<=2000000):Y7 s=some (Dh s):=by simp only[Y7,Py,Aa,yS h,Dh];cases BI s.length 1 12<;>simp
theorem zGs{s:Ap}(h:s.length<=2000000):Zr s=some (PJ s):=by simp only[Zr,Aa,zV h (more:=[46,45,44,95]) (by decide),PJ];by_cases hl:(s.length:Int)<=24<;>simp[hl]
theorem zFH{s:Ap}(h:s.length<=2000000):Y6 s=some (PJ s):=by simp only[Y6,Aa,yS h,PJ];by_cases hl:(s.length:Int)<=24<;>simp[hl]
def F3(v:Ap)(HG:Bool):Bool:=PJ v&&(!HG||v==[])
theorem nW{v:Ap}{HG:Bool}(h:v.length<=2000000):Vb v HG=some (F3 v HG):=by simp only[Vb,zFH h,Aa,F3,bne];cases PJ v<;>cases HG<;>cases(v==[])<;>rfl
theorem pI{k v:Ap}{HG:Bool}(hk:k.length<=2000000)(hv:v.length<=2000000):Vs k v HG=some (Dh k&&F3 v HG):=by simp only[Vs,SO hk,zGs hv,Aa,F3];cases Dh k<;>simp
def Hv(ks:List Ap)(i:Nat):Bool:=i==0||Op.bytesLess ((ks[i-1]?).getD []) ((ks[i]?).getD [])
def NO(ks:List Ap):Bool:=(List.range ks.length).all (Hv ks)
theorem V6:∀(a b:Ap),(Op.bytesLess a b||a==b)= !Op.bytesLess b a
 | [],[]=>rfl
 | [],_::_=>rfl
 |_::_,[]=>rfl
 |x::a,y::b=>by
  have ih:=V6 a b;simp only[Op.bytesLess];rcases Nat.lt_trichotomy x.toNat y.toNat with h|h|h
  ·have h1:x<y:=UInt8.lt_iff_toNat_lt.2 h;have h2: ¬y<x:=λh'=>by have:=UInt8.lt_iff_toNat_lt.1 h';omega
   have h3: ¬y=x:=λh'=>by subst h';omega
   simp[h1,h2,h3]
  ·have h0:x=y:=UInt8.toNat_inj.1 h;subst h0;have h1: ¬x<x:=λh'=>by have:=UInt8.lt_iff_toNat_lt.1 h';omega
   rw[show((x::a)==(x::b))=(a==b) by simp];simp only[h1,decide_false,Bool.false_or,beq_self_eq_true,Bool.true_and];exact ih
  ·have h1: ¬x<y:=λh'=>by have:=UInt8.lt_iff_toNat_lt.1 h';omega
   have h2:y<x:=UInt8.lt_iff_toNat_lt.2 h;have h3: ¬x=y:=λh'=>by subst h';omega
   simp[h1,h2,h3]
theorem PH{i:Nat}(h0:0<i)(h:i<=2000000):IntKind.i64.wrap ((i:Int)-1)=((i-1:Nat):Int):=by rw[CD (by omega) (by omega)];omega
theorem pX{α:Type}(xs:List α)(p:α->Bool)(q r:Nat->Bool)(h:∀(i:Nat) (hi:i<xs.length),r i=(p xs[i]&&q i)):(List.range xs.length).all r=(xs.all p&&(List.range xs.length).all q):=by
 rw[<-z7 xs p (λi=>match xs[i]? with|some x=>p x|none=>true) λi hi=>by simp[hi]];rw[Bool.eq_iff_iff];simp only[Ab,Bl,List.mem_range];constructor
 ·intro hr;exact⟨λi hi=>by have:=hr i hi;rw[h i hi,Ab]at this;simpa[hi]using this.1,λi hi=>by have:=hr i hi;rw[h i hi,Ab]at this;exact this.2⟩
 ·rintro⟨h1,h2⟩ i hi;rw[h i hi,Ab];exact⟨by have:=h1 i hi;simpa[hi]using this,h2 i hi⟩
theorem mG{ks:List Ap}(h:ks.length<=2000000)(hk:∀k∈ks,k.length<=2000000):Nj ks=some (ks.all Dh&&NO ks):=by
 unfold Nj NO;rw[Kj (n:=ks.length) (λi=>Dh ((ks[i]?).getD [])&&Hv ks i) false (some true) ?_ (by simp[iI]),pX ks Dh (Hv ks) _ λi hi=>by simp[hi]]
 ·cases(ks.all Dh&&(List.range ks.length).all (Hv ks))<;>rfl
 ·intro i hi;simp only[iI,Int.ofNat_lt,hi,decide_true,if_true,AN hi,Aa,zGh (hk _ (AF hi)),FI hi (by omega:ks.length<=_),Bh hi,Dg,Hv];by_cases h0:i=0
  ·subst h0;cases Dh ks[0]<;>simp
  ·have hp:(i:Int)>0:=by omega
   have JJ:i-1<ks.length:=by omega
   have hb:(i==0)=false:=by simpa using h0
   simp only[hp,decide_true,if_true,PH (Nat.pos_of_ne_zero h0) (by omega:i<=2000000),AN JJ,Aa,V6,Bh JJ,Dg,hb,Bool.false_or];cases Dh ks[i]<;>cases Op.bytesLess ks[i-1] ks[i]<;>rfl
theorem xX{l:List An}(h:l.length<=2000000):Vm l=some (l.map (·.ah)):=by
 have h1:=E9 (xs:=l) (body:=λs:Int × List Ap=>QP l s.1 s.2) (λi (o:List Ap)=>(i,o)) (λo w=>o++ [w.ah]) (λo=>some o) (λq o=>o.length=q)
  (λi hi o hI=>by
   refine⟨?_,by simp[hI]⟩;show QP l i o=_;unfold QP;have hr:((o.length:Int)+(([l[i].ah]:List Ap).length:Int))*16<=140737488355328/\(o.length:Int)+(([l[i].ah]:List Ap).length:Int)<=140737488355328:=by rw[Bd,hI];omega
   rw[if_pos (by simpa using hi),AN hi,Aa,A7 hr,FI hi (by omega)]) (λo _=>by
   show QP l l.length o=_;unfold QP;rw[if_neg (by simp)]) (s:=[]) rfl
 have hf:∀(l:List An) (o:List Ap),l.foldl (λo w=>o++ [w.ah]) o=o++l.map (·.ah):=by
  intro l
  induction l with
  |nil=>intro o;simp
  |cons w l ih=>intro o;rw[List.foldl_cons,ih];simp
 have h2:=h1.1;rw[hf,List.nil_append]at h2;unfold Vm;exact h2
def K7(w:An):Bool:=Dh w.ah&&F3 w.bh w.bg
def Hq(l:List An):Bool:=decide ((l.length:Int)<=24)&&(l.all K7&&NO (l.map (·.ah)))
def Ww(l:List An):Prop:=l.length<=2000000/\ ∀w∈l,w.ah.length<=2000000/\w.bh.length<=2000000
theorem zBj{l:List An}(h:Ww l):Yh l=some (Hq l):=by
 have e1:E0 l (λy0_=>X4 y0_)=some (l.any λw=> !F3 w.bh w.bg):=L5 _ (λw hw=>by simp[X4,nW (h.2 w hw).2]) (by have:=h.1;omega);have e2:=mG (ks:=l.map (·.ah)) (by simpa using h.1) (by simp only[List.mem_map];rintro k ⟨w,hw,rfl⟩;exact(h.2 w hw).1);simp only[Yh,xX h.1,e1,e2,Aa,Hq,<-List.not_all_eq_any_not];have e3:l.all K7=((l.map (·.ah)).all Dh&&l.all λw=>F3 w.bh w.bg):=by
  rw[Bool.eq_iff_iff];simp only[Bl,Ab,K7,List.mem_map];constructor
  ·intro h;exact⟨by rintro k ⟨w,hw,rfl⟩;exact(h w hw).1,λw hw=>(h w hw).2⟩
  ·rintro⟨h1,h2⟩ w hw;exact⟨h1 _ ⟨w,hw,rfl⟩,h2 w hw⟩
 rw[e3];generalize (l.map (·.ah)).all Dh=b1;generalize NO (l.map (·.ah))=b2;generalize (l.all λw=>F3 w.bh w.bg)=b3;by_cases hl:(l.length:Int)<=24<;>cases b1<;>cases b2<;>cases b3<;>simp[hl]
theorem zBz{l:List An}(h:Ww l):Yu l=some (Hq l):=by
 unfold Yu;have hn:=h.1;rw[Kj (n:=l.length) (λi=>K7 ((l[i]?).getD ⟨[],[],false⟩)&&Hv (l.map (·.ah)) i) false (iN l) ?_ (by simp[jJ]),pX l K7 (Hv (l.map (·.ah))) _ λi hi=>by simp[hi]]
 ·unfold iN Hq NO;rw[List.length_map];cases(l.all K7&&(List.range l.length).all (Hv (l.map (·.ah))))<;>simp
 ·intro i hi;have hm:=h.2 _ (AF hi);simp only[jJ,Int.ofNat_lt,hi,decide_true,if_true,AN hi,Aa,pI hm.1 hm.2,FI hi (by omega:l.length<=_),Bh hi,Dg,Hv,List.getElem?_map,Option.map_some];rw[show(Dh l[i].ah&&F3 l[i].bh l[i].bg)=K7 l[i]from rfl];by_cases h0:i=0
  ·subst h0;cases K7 l[0]<;>simp
  ·have hp:(i:Int)>0:=by omega
   have JJ:i-1<l.length:=by omega
   have hb:(i==0)=false:=by simpa using h0
   simp only[hp,decide_true,if_true,PH (Nat.pos_of_ne_zero h0) (by omega:i<=2000000),AN JJ,Aa,Bh JJ,Option.map_some,Dg,hb,Bool.false_or];cases K7 l[i]<;>cases Op.bytesLess l[i-1].ah l[i].ah<;>rfl
abbrev bl(a b:Ag):Bool:=Op.bytesLess a b
theorem Kk:∀a:Ag,bl a a=false
 | []=>rfl
 |x::a=>by
  have h: ¬x<x:=λh=>by have:=UInt8.lt_iff_toNat_lt.1 h;omega
  show Op.bytesLess (x::a) (x::a)=false;simp only[Op.bytesLess,h,decide_false,Bool.false_or,beq_self_eq_true,Bool.true_and];exact Kk a
theorem aP(x y:UInt8)(a b:Ag):bl (x::a) (y::b)=true↔x.toNat<y.toNat\/x=y/\bl a b=true:=by show Op.bytesLess (x::a) (y::b)=true↔_;simp only[Op.bytesLess,Bool.or_eq_true,AR,Ab,AM,UInt8.lt_iff_toNat_lt]
theorem FV:∀{a b c:Ag},bl a b=true->bl b c=true->bl a c=true
 | [],_,[],_,h=>by rename_i b _;cases b<;>cases h
 | [],_,_::_,_,_=>rfl
 |_::_,[],_,h,_=>by cases h
 |_::_,_::_,[],_,h=>by cases h
 |x::a,y::b,z::c,h1,h2=>by
  rw[aP]at*;rcases h1 with h1|⟨rfl,h1⟩<;>rcases h2 with h2|⟨rfl,h2⟩
  ·exact .inl (by omega)
  ·exact .inl h1
  ·exact .inl h2
  ·exact .inr ⟨rfl,FV h1 h2⟩
theorem WC:∀a b:Ag,bl a b=true\/a=b\/bl b a=true
 | [],[]=> .inr (.inl rfl)
 | [],_::_=> .inl rfl
 |_::_,[]=> .inr (.inr rfl)
 |x::a,y::b=>by
  rw[aP,aP];rcases Nat.lt_trichotomy x.toNat y.toNat with h|h|h
  ·exact .inl (.inl h)
  ·have h0:x=y:=UInt8.toNat_inj.1 h;subst h0;rcases WC a b with h1|h1|h1
   ·exact .inl (.inr ⟨rfl,h1⟩)
   ·exact .inr (.inl (by rw[h1]))
   ·exact .inr (.inr (.inr ⟨rfl,h1⟩))
  ·exact .inr (.inr (.inl h))
theorem Nx{a b:Ag}(h:bl a b=true):bl b a=false:=by
 cases h2:bl b a with
 |false=>rfl
 |true=>have:=FV h h2;rw[Kk]at this;cases this
theorem Ic{a b:Ag}(h:bl a b=true):a≠b:=by rintro rfl;rw[Kk]at h;cases h
theorem Si{a b:Ag}(h:bl a b=false)(hn:a≠b):bl b a=true:=by
 rcases WC a b with h1|h1|h1
 ·rw[h]at h1;cases h1
 ·exact absurd h1 hn
 ·exact h1
section
variable {α:Type} (key:α->Ag)
def DQ(l:List α):Prop:=l.Pairwise λa b=>bl (key a) (key b)=true
def FY(x:α):List α->List α
 | []=> [x]
 |y::l=>if bl (key x) (key y)=true then x::y::l else if key x=key y then x::l else y::FY x l
variable {key}
theorem DQ.je{l:List α}(h:DQ key l){a b:α}(ha:a∈l)(hb:b∈l)(e:key a=key b):a=b:=by
 induction l with
 |nil=>cases ha
 |cons y l ih=>
  have h1:=List.pairwise_cons.1 h;rcases Ae.1 ha with q1|q1<;>rcases Ae.1 hb with q2|q2
  ·rw[q1,q2]
  ·exact absurd (q1▸e) (Ic (h1.1 _ q2))
  ·exact absurd (q2▸e.symm) (Ic (h1.1 _ q1))
  ·exact ih h1.2 q1 q2
theorem Nt{x:α}:∀{l:List α},DQ key l-> ∀y,y∈FY key x l↔y=x\/y∈l/\key y≠key x
 | [],_,y=>by simp[FY]
 |z::l,h,y=>by
  have h1:=List.pairwise_cons.1 h;unfold FY;split
  ·rename_i hb;constructor
   ·intro hy;rcases Ae.1 hy with rfl|hy
    ·exact .inl rfl
    ·refine .inr ⟨hy,?_⟩;rcases Ae.1 hy with rfl|hy
     ·exact(Ic hb).symm
     ·exact(Ic (FV hb (h1.1 _ hy))).symm
   ·rintro(rfl|⟨hy,_⟩)
    ·simp
    ·exact List.mem_cons_of_mem _ hy
  ·rename_i hb;split
   ·rename_i he;constructor
    ·intro hy;rcases Ae.1 hy with rfl|hy
     ·exact .inl rfl
     ·exact .inr ⟨List.mem_cons_of_mem _ hy,λe=>Ic (h1.1 _ hy) (by rw[e,he])⟩
    ·rintro(rfl|⟨hy,hn⟩)
     ·simp
     ·rcases Ae.1 hy with rfl|hy
      ·exact absurd he.symm hn
      ·exact List.mem_cons_of_mem _ hy
   ·rename_i he;rw[Ae,Nt h1.2];constructor
    ·rintro(rfl|rfl|⟨hy,hn⟩)
     ·exact .inr ⟨by simp,λe=>he e.symm⟩
     ·exact .inl rfl
     ·exact .inr ⟨List.mem_cons_of_mem _ hy,hn⟩
    ·rintro(rfl|⟨hy,hn⟩)
     ·exact .inr (.inl rfl)
     ·rcases Ae.1 hy with rfl|hy
      ·exact .inl rfl
      ·exact .inr (.inr ⟨hy,hn⟩)
theorem VT{x:α}:∀{l:List α},DQ key l->DQ key (FY key x l)
 | [],_=>by simp[FY,DQ]
 |z::l,h=>by
  have h1:=List.pairwise_cons.1 h;unfold FY;split
  ·rename_i hb;refine List.pairwise_cons.2 ⟨λy hy=> ?_,h⟩;rcases Ae.1 hy with rfl|hy
   ·exact hb
   ·exact FV hb (h1.1 _ hy)
  ·rename_i hb;split
   ·rename_i he;exact List.pairwise_cons.2 ⟨λy hy=>by rw[he];exact h1.1 _ hy,h1.2⟩
   ·rename_i he;refine List.pairwise_cons.2 ⟨λy hy=> ?_,VT h1.2⟩;rcases(Nt h1.2 y).1 hy with rfl|⟨hy,_⟩
    ·exact Si (by simpa using hb) he
    ·exact h1.1 _ hy
theorem DQ.ext:∀{a b:List α},DQ key a->DQ key b->(∀x,x∈a↔x∈b)->a=b
 | [],[],_,_,_=>rfl
 | [],y::b,_,_,h=>absurd ((h y).2 (by simp)) (by simp)
 |x::a,[],_,_,h=>absurd ((h x).1 (by simp)) (by simp)
 |x::a,y::b,ha,hb,h=>by
  have h1:=List.pairwise_cons.1 ha;have h2:=List.pairwise_cons.1 hb;have e:x=y:=by
   rcases Ae.1 ((h x).1 (by simp))with e|hx
   ·exact e
   ·rcases Ae.1 ((h y).2 (by simp))with e|hy
    ·exact e.symm
    ·have:=FV (h1.1 _ hy) (h2.1 _ hx);rw[Kk]at this;cases this
  subst e;rw[DQ.ext h1.2 h2.2 λz=> ?_];constructor
  ·intro hz;rcases Ae.1 ((h z).1 (List.mem_cons_of_mem _ hz))with rfl|OU
   ·have:=h1.1 _ hz;rw[Kk]at this;cases this
   ·exact OU
  ·intro hz;rcases Ae.1 ((h z).2 (List.mem_cons_of_mem _ hz))with rfl|OU
   ·have:=h2.1 _ hz;rw[Kk]at this;cases this
   ·exact OU
theorem DQ.filter{l:List α}(h:DQ key l)(p:α->Bool):DQ key (l.filter p):=List.Pairwise.filter p h
theorem DQ.sub{a b:List α}(h:DQ key b)(hs:a.Sublist b):DQ key a:=List.Pairwise.sublist hs h
theorem aA{x:α}:∀(l:List α),(FY key x l).length<=l.length+1
 | []=>by simp[FY]
 |y::l=>by
  unfold FY;have:=aA (x:=x) l;split
  ·simp
  ·split
   ·simp
   ·simp only[A3];omega
end
def Eb{α:Type}(r:α->α->Bool):List α->Bool
 | []=>true
 | [_]=>true
 |x::y::l=>r x y&&Eb r (y::l)
theorem Sl{α:Type}{r:α->α->Bool}(ht:∀a b c,r a b=true->r b c=true->r a c=true):∀{l:List α},Eb r l=true↔l.Pairwise λa b=>r a b=true
 | []=>by simp[Eb]
 | [_]=>by simp[Eb]
 |x::y::l=>by
  rw[Eb,Ab,Sl ht];constructor
  ·rintro⟨h1,h2⟩;refine List.pairwise_cons.2 ⟨λz hz=> ?_,h2⟩;rcases Ae.1 hz with rfl|hz
   ·exact h1
   ·exact ht _ _ _ h1 ((List.pairwise_cons.1 h2).1 z hz)
  ·intro h;have h:=List.pairwise_cons.1 h;exact⟨h.1 y (by simp),h.2⟩
theorem xV{α:Type}{r:α->α->Bool}{l:List α}{q:Nat}(h:q+1<l.length):Eb r (l.drop q)=(r l[q] l[q+1]&&Eb r (l.drop (q+1))):=by rw[Bw (show q<l.length by omega),Bw h,Eb]
theorem pG{α β:Type}{xs:List α}{body:Int->Option (Int ⊕ Option β)}(p:α->Bool)(r:α->α->Bool)(b:β)(fin:Option β)
  (h0:∀h:0<xs.length,body 0=some (if p xs[0]=true then .inl 1 else .inr (some b)))
  (hs:∀i (h:i+1<xs.length),body ((i+1:Nat):Int)=some (if(p xs[i+1]&&r xs[i] xs[i+1])=true then .inl ((i+2:Nat):Int)else .inr (some b)))
  (he:body xs.length=some (.inr fin)):Au body 0=if(xs.all p&&Eb r xs)=true then fin else some b:=by
 have key:∀n q,q+1+n=xs.length->Au body ((q+1:Nat):Int)=if((xs.drop (q+1)).all p&&Eb r (xs.drop q))=true then fin else some b:=by
  intro n
  induction n with
  |zero=>
   intro q hq;rw[show((q+1:Nat):Int)=(xs.length:Int) by omega,DK,he];have e1:xs.drop (q+1)=[]:=List.drop_eq_nil_of_le (by omega);have e2:xs.drop q=[xs[q]]:=by rw[Bw (by omega),e1]
   rw[e1,e2];simp[Eb]
  |succ n ih=>
   intro q hq;rw[DK,hs q (by omega),xV (by omega),Bw (show q+1<xs.length by omega),List.all_cons];have ih:=ih (q+1) (by omega);by_cases hp:(p xs[q+1]&&r xs[q] xs[q+1])=true
   ·rw[if_pos hp];simp only[Ab]at hp;simp only[hp.1,hp.2,Bool.true_and];rw[<-Bw (show q+1<xs.length by omega)];exact ih
   ·rw[if_neg hp];rw[if_neg];intro h;simp only[Ab]at h hp;exact hp ⟨h.1.1,h.2.1⟩
 by_cases hz:0<xs.length
 ·rw[DK,h0 hz];have:=key (xs.length-1) 0 (by omega);rw[List.drop_zero]at this;have e:xs=xs[0]::xs.drop 1:=by rw[<-Bw hz,List.drop_zero]
  by_cases hp:p xs[0]=true
  ·rw[if_pos hp];show Au body ((0+1:Nat):Int)=_;rw[this];have:xs.all p=(xs.drop 1).all p:=by rw[e,List.all_cons,hp,Bool.true_and];simp
   rw[this]
  ·rw[if_neg hp,if_neg];intro h;simp only[Ab,Bl]at h;exact hp (h.1 _ (AF hz))
 ·have:xs=[]:=by cases xs with|nil=>rfl|cons=>simp at hz
  subst this;rw[DK,show(0:Int)=(([]:List α).length:Int)from rfl,he];simp[Eb]
def AD{α:Type}(lt:α->Bool)(l:List α):Nat:=(l.takeWhile lt).length
theorem NG{α:Type}(lt:α->Bool):∀l:List α,AD lt l<=l.length
 | []=>by simp[AD]
 |x::l=>by have:=NG lt l;unfold AD at this ⊢;rw[List.takeWhile_cons];split<;>simp<;>omega
theorem SM{α:Type}{lt:α->Bool}:∀{l:List α} {i:Nat} (h:i<AD lt l),lt (l[i]'(Nat.lt_of_lt_of_le h (NG lt l)))=true
 |x::l,i,h=>by
  unfold AD at h;rw[List.takeWhile_cons]at h;split at h
  ·rename_i hx;cases i with
   |zero=>exact hx
   |succ i=>exact SM (l:=l) (i:=i) (by unfold AD;simpa using h)
  ·simp at h
theorem aO{α:Type}{lt:α->Bool}:∀{l:List α} (h:AD lt l<l.length),lt l[AD lt l]=false
 |x::l,h=>by
  by_cases hx:lt x=true
  ·have e:AD lt (x::l)=AD lt l+1:=by unfold AD;rw[List.takeWhile_cons,if_pos hx];rfl
   have:=aO (l:=l) (lt:=lt) (by rw[e]at h;simpa using h);simp only[e,List.getElem_cons_succ];exact this
  ·have e:AD lt (x::l)=0:=by unfold AD;rw[List.takeWhile_cons,if_neg hx];rfl
   simp only[e,List.getElem_cons_zero];simpa using hx
theorem aU{α β:Type}{xs:List α}{body:Int × Int->Option ((Int × Int) ⊕ Option β)}{fin:Int->Option β}(lt:α->Bool)(hm:∀i j (hj:j<xs.length) (hi:i<=j),lt xs[j]=true->lt xs[i]=true)
  (hs:∀i j:Nat,i<j->j<=xs.length->(h:(i+j)/2<xs.length)->body ((i:Int),(j:Int))=some (.inl (if lt xs[(i+j)/2]=true then((((i+j)/2+1:Nat):Int),(j:Int))else((i:Int),(((i+j)/2:Nat):Int)))))
  (he:∀i:Nat,i<=xs.length->body ((i:Int),(i:Int))=some (.inr (fin i))):Au body (0,(xs.length:Int))=fin (AD lt xs):=by
 have key:∀n i j:Nat,j-i<=n->i<=AD lt xs->AD lt xs<=j->j<=xs.length->Au body ((i:Int),(j:Int))=fin (AD lt xs):=by
  intro n
  induction n with
  |zero=>
   intro i j h1 h2 h3 h4;have:i=j:=by omega
   subst this;have:i=AD lt xs:=by omega
   rw[DK,he i h4,this]
  |succ n ih=>
   intro i j h1 h2 h3 h4;by_cases Ew:i=j
   ·subst Ew;have:i=AD lt xs:=by omega
    rw[DK,he i h4,this]
   ·have AH:(i+j)/2<xs.length:=by omega
    rw[DK,hs i j (by omega) h4 AH];by_cases hc:lt xs[(i+j)/2]=true
    ·rw[if_pos hc];refine ih _ _ (by omega) ?_ h3 h4;by_cases hp:(i+j)/2<AD lt xs
     ·omega
     ·have h5:AD lt xs<xs.length:=by omega
      have:=aO h5;rw[hm _ _ AH (by omega) hc]at this;cases this
    ·rw[if_neg hc];refine ih _ _ (by omega) h2 ?_ (by omega);by_cases hp:(i+j)/2<AD lt xs
     ·exact absurd (SM hp) hc
     ·omega
 exact key xs.length 0 xs.length (by omega) (by omega) (NG lt xs) (AJ _)
theorem oP{α:Type}{key:α->Ag}{x:α}:∀{l:List α},DQ key l->FY key x l=(match l[AD (λy=>bl (key y) (key x)) l]? with
  |some y=>if key y=key x then l.set (AD (λy=>bl (key y) (key x)) l) x else l.take (AD (λy=>bl (key y) (key x)) l)++ [x]++l.drop (AD (λy=>bl (key y) (key x)) l)
  |none=>l.take (AD (λy=>bl (key y) (key x)) l)++ [x]++l.drop (AD (λy=>bl (key y) (key x)) l))
 | [],_=>by simp[FY,AD]
 |y::l,h=>by
  have h1:=List.pairwise_cons.1 h;unfold FY;by_cases hb:bl (key x) (key y)=true
  ·have e:AD (λz=>bl (key z) (key x)) (y::l)=0:=by unfold AD;rw[List.takeWhile_cons,if_neg (by rw[Nx hb];simp)];rfl
   rw[if_pos hb,e];simp[(Ic hb).symm]
  ·rw[if_neg hb];by_cases hk:key x=key y
   ·have e:AD (λz=>bl (key z) (key x)) (y::l)=0:=by unfold AD;rw[List.takeWhile_cons,if_neg (by rw[hk,Kk];simp)];rfl
    rw[if_pos hk,e];simp[hk]
   ·have Hn:=Si (by simpa using hb) hk;have e:AD (λz=>bl (key z) (key x)) (y::l)=AD (λz=>bl (key z) (key x)) l+1:=by unfold AD;rw[List.takeWhile_cons,if_pos Hn];rfl
    rw[if_neg hk,e,oP h1.2];simp only[List.getElem?_cons_succ];split
    ·split<;>simp
    ·simp
def M5(a b:Ap):Int:=if bl a b=true then-1 else if a=b then 0 else 1
@[simp] theorem zDj(a:Ap):U1 a=some false:=by simp[U1]
@[simp] theorem zFi(a:Int):Vj a=some false:=by simp[Vj]
@[simp] theorem zHo(a b:Ap):UX a b=some (M5 a b):=by
 unfold UX M5;simp only[zDj,Aa,AS,if_false];by_cases h:bl a b=true
 ·have:Op.bytesLess a b=true:=h;simp[this]
 ·have h1:Op.bytesLess a b=false:=by simpa using h
  by_cases he:a=b
  ·subst he;simp[h1]
  ·simp[h1,he]
def M6(a b:Int):Int:=if a<b then-1 else if a=b then 0 else 1
@[simp] theorem zHk(a b:Int):UZ a b=some (M6 a b):=by
 unfold UZ M6;simp only[zFi,Aa,AS,if_false];by_cases h:a<b
 ·simp[h]
 ·by_cases he:a=b
  ·subst he;simp
  ·have:b<a:=by omega
   simp[h,he,this]
theorem s5{a b:Ap}:decide (M5 a b<0)=bl a b:=by
 unfold M5;cases h:bl a b with
 |true=>simp
 |false=>by_cases he:a=b<;>simp[he]
theorem tF{a b:Ap}:(M5 a b==0)=decide (a=b):=by
 unfold M5;cases h:bl a b with
 |true=>simp[Ic h]
 |false=>by_cases he:a=b<;>simp[he]
theorem bK{i j:Nat}(h:i<=j)(hj:j<=2000000):IntKind.i64.wrap (Int.fdiv (IntKind.u64.wrap (IntKind.i64.wrap ((i:Int)+(j:Int)))) (2^(min ((1:Int)).toNat (IntKind.bits .u64))))=(((i+j)/2:Nat):Int):=by
 have e1:IntKind.i64.wrap ((i:Int)+(j:Int))=((i+j:Nat):Int):=by rw[CD (by omega) (by omega)];simp
 have e2:IntKind.u64.wrap ((i+j:Nat):Int)=((i+j:Nat):Int):=by simp only[IntKind.wrap,IntKind.bits,IntKind.signed];simp;omega
 have e3:(2:Int)^(min ((1:Int)).toNat (IntKind.bits .u64))=((2:Nat):Int):=rfl;rw[e1,e2,e3,Int.fdiv_eq_ediv_of_nonneg _ (by omega),<-Int.natCast_ediv,CD (by omega) (by omega)]
theorem Bx{i:Nat}(h:i<=2000000):IntKind.i64.wrap ((i:Int)+1)=((i+1:Nat):Int):=by rw[CD (by omega) (by omega)];simp
abbrev Jm(l:List An):Prop:=DQ (λw:An=>w.ah) l
abbrev Mi(l:List An)(k:Ap):Nat:=AD (λw:An=>bl w.ah k) l
theorem zHd{l:List An}{k:Ap}(hl:l.length<=2000000)(hr:Jm l):Ru l k=some (((Mi l k:Nat):Int),(match l[Mi l k]? with|some w=>decide (w.ah=k)|none=>false)):=by
 unfold Ru gV;have hc:∀w:An,QU w k=some (M5 w.ah k):=λw=>by simp[QU]
 have h:=aU (xs:=l) (body:=λs:Int × Int=>QC l k (λy0_ y1_=>QU y0_ y1_) s.1 s.2) (fin:=λi=>gT l k (λy0_ y1_=>QU y0_ y1_) i) (λw:An=>bl w.ah k)
  (λi j hj hi h=>by
   rcases Nat.lt_or_ge i j with Ew|Ew
   ·exact FV ((List.pairwise_iff_getElem.1 hr) i j (by omega) hj Ew) h
   ·have:i=j:=by omega
    subst this;exact h)
  (λi j Ew hj Hh=>by show QC l k _ (i:Int) (j:Int)=_;unfold QC;rw[if_pos (by simpa using Ew),bK (by omega) (by omega),AN Hh,Aa];simp only[hc,Aa,s5,Bx (show(i+j)/2<=2000000 by omega)];cases bl l[(i+j)/2].ah k<;>rfl)
  (λi hi=>by show QC l k _ (i:Int) (i:Int)=_;unfold QC;rw[if_neg (by simp)])
 rw[h];unfold gT;show Option.bind (if decide (((Mi l k:Nat):Int)<l.length)=true then _ else _) _=_;by_cases hp:Mi l k<l.length
 ·rw[if_pos (by simpa using hp),AN hp,Aa];simp only[hc,Aa,tF,Bh hp]
 ·rw[if_neg (by simpa using hp),List.getElem?_eq_none (by omega)];rfl
theorem VI(ks:List Ap):NO ks=Eb bl ks:=by
 have key:∀n q,q+n+1=ks.length->(List.range' (q+1) n).all (Hv ks)=Eb bl (ks.drop q):=by
  intro n
  induction n with
  |zero=>intro q hq;rw[Bw (show q<ks.length by omega),List.drop_eq_nil_of_le (show ks.length<=q+1 by omega)];rfl
  |succ n ih=>intro q hq;rw[List.range'_succ,List.all_cons,ih (q+1) (by omega),xV (show q+1<ks.length by omega)];congr 1;unfold Hv;have hb:(q+1==0)=false:=rfl;rw[hb,Bool.false_or,Nat.add_sub_cancel,Bh (show q<ks.length by omega),Bh (show q+1<ks.length by omega)];rfl
 cases ks with
 |nil=>rfl
 |cons k l=>unfold NO;rw[A3,List.range_eq_range',List.range'_succ,List.all_cons];have:=key l.length 0 (by simp);rw[List.drop_zero]at this;rw[Nat.zero_add]at this;rw[show 0+1=1 from rfl,this];rfl
theorem mT{α β:Type}(f:α->β)(r:β->β->Bool):∀l:List α,Eb r (l.map f)=Eb (λa b=>r (f a) (f b)) l
 | []=>rfl
 | [_]=>rfl
 |x::y::l=>by have:=mT f r (y::l);simp only[List.map_cons,Eb]at this ⊢;rw[this]
theorem zq4{l:List An}(h:Hq l=true):Jm l:=by unfold Hq at h;simp only[Ab]at h;have h1:=h.2.2;rw[VI,mT]at h1;exact(Sl (r:=λa b:An=>bl a.ah b.ah) λa b c p q=>FV p q).1 h1
end
noncomputable section
open Go.RowKit Go.Sort
set_option maxRecDepth 100000
theorem Su{S α β σ:Type}{xs:List α}{body:S->Option (S ⊕ Option β)}(mk:Nat->σ->S)(g:σ->α->Option σ)(b:Option β)(fin:σ->Option β)(I:Nat->σ->Prop)
  (hs:∀i acc (h:i<xs.length),I i acc->body (mk i acc)=some (match g acc xs[i]with|some a=> .inl (mk (i+1) a)|none=> .inr b)/\ ∀a,g acc xs[i]=some a->I (i+1) a)
  (he:∀acc,I xs.length acc->body (mk xs.length acc)=some (.inr (fin acc))) (a0:σ) (h0:I 0 a0):Au body (mk 0 a0)=match xs.foldlM g a0 with|some a=>fin a|none=>b:=by
 have key:∀n q acc,q+n=xs.length->I q acc->Au body (mk q acc)=match(xs.drop q).foldlM g acc with|some a=>fin a|none=>b:=by
  intro n
  induction n with
  |zero=>
   intro q acc hq hi;have e:q=xs.length:=by omega
   subst e;rw[DK,he acc hi,List.drop_length];rfl
  |succ n ih=>
   intro q acc hq hi;have hl:q<xs.length:=by omega
   obtain⟨h1,h2⟩:=hs q acc hl hi;rw[DK,h1,Bw hl,List.foldlM_cons];cases hg:g acc xs[q]with
   |none=>rfl
   |some a=>exact ih (q+1) a (by omega) (h2 a hg)
 have:=key xs.length 0 a0 (by omega) h0;rwa[List.drop_zero]at this
theorem oU{α β:Type}{xs:List α}{body:Int->Option (Int ⊕ Option β)}(p:α->Bool)(fin:Int->Option β)
  (hs:∀i (h:i<xs.length),body (i:Nat)=some (if p xs[i]=true then .inl ((i+1:Nat):Int)else .inr (fin (i:Nat)))) (he:body (xs.length:Nat)=some (.inr (fin (xs.length:Nat)))):Au body 0=fin (AD p xs:Nat):=by
 have key:∀n q,q+n=xs.length->Au body (q:Nat)=fin ((q+AD p (xs.drop q):Nat):Int):=by
  intro n
  induction n with
  |zero=>
   intro q hq;have e:q=xs.length:=by omega
   subst e;rw[DK,he,List.drop_length];rfl
  |succ n ih=>
   intro q hq;have hl:q<xs.length:=by omega
   rw[DK,hs q hl,Bw hl];by_cases hp:p xs[q]=true
   ·rw[if_pos hp];have e:AD p (xs[q]::xs.drop (q+1))=AD p (xs.drop (q+1))+1:=by unfold AD;rw[List.takeWhile_cons,if_pos hp];rfl
    rw[e,show q+(AD p (xs.drop (q+1))+1)=(q+1)+AD p (xs.drop (q+1)) by omega];exact ih (q+1) (by omega)
   ·rw[if_neg hp];have e:AD p (xs[q]::xs.drop (q+1))=0:=by unfold AD;rw[List.takeWhile_cons,if_neg hp];rfl
    rw[e];rfl
 have:=key xs.length 0 (by omega);rw[List.drop_zero,Nat.zero_add]at this;exact this
def NH(v:BE):Bool:=BI v.af 1 100000&&F3 v.bh v.bg
def PV(a b:BE):Bool:=decide (a.af<b.af)
def IL(l:List BE):Bool:=BI (l.length:Int) 1 16&&(l.all NH&&Eb PV l)
def Gx(c:Aj):Bool:=Dh c.ah&&IL c.ay
def SP(a b:Aj):Bool:=bl a.ah b.ah
def Eo(l:List Aj):Bool:=decide ((l.length:Int)<=24)&&(l.all Gx&&Eb SP l)
def Xu(c:Aj):Prop:=c.ah.length<=2000000/\c.ay.length<=2000000/\ ∀v∈c.ay,v.bh.length<=2000000
def PO(l:List Aj):Prop:=l.length<=2000000/\ ∀c∈l,Xu c
theorem zCl{c:Aj}(h:Xu c):YV c=some (IL c.ay):=by
 obtain⟨_,h2,h3⟩:=h;unfold YV IL;rw[pG (xs:=c.ay) (body:=λs:Int=>O8 c s) NH PV false (jM c) (λh0=> ?_) (λi hi=> ?_) (by simp[O8])]
 ·unfold jM;simp only[Py,Aa];cases c.ay.all NH<;>cases Eb PV c.ay<;>cases BI (c.ay.length:Int) 1 16<;>rfl
 ·show O8 c 0=_;unfold O8 Nl NH;rw[if_pos (by simpa using h0),show(0:Int)=((0:Nat):Int)from rfl,AN h0,Aa];simp only[Py,Aa,nW (h3 _ (AF h0))];cases BI c.ay[0].af 1 100000<;>cases F3 c.ay[0].bh c.ay[0].bg<;>rfl
 ·show O8 c ((i+1:Nat):Int)=_;unfold O8 Nl NH PV;rw[if_pos (by simp;omega),AN hi,Aa];simp only[Py,Aa,nW (h3 _ (AF hi))];rw[PH (by omega) (by omega),Nat.add_sub_cancel,AN (show i<c.ay.length by omega),FI hi (by omega)];have e:decide (c.ay[i+1].af<=c.ay[i].af)= !decide (c.ay[i].af<c.ay[i+1].af):=by rw[<-decide_not,decide_eq_decide];omega
  simp only[Aa,e];rw[show decide (((i+1:Nat):Int)>0)=true by simp];cases BI c.ay[i+1].af 1 100000<;>cases F3 c.ay[i+1].bh c.ay[i+1].bg<;>cases decide (c.ay[i].af<c.ay[i+1].af)<;>rfl
theorem zxV{c:Aj}(h:Xu c):Y4 c=some (Gx c):=by
 obtain⟨h1,h2,h3⟩:=h;unfold Y4 Gx IL;rw[pG (xs:=c.ay) (body:=λs:Int=>Pa c s) (λv=>BI v.af 1 100000&&(Dh c.ah&&F3 v.bh v.bg)) PV false (jL c) (λh0=> ?_) (λi hi=> ?_) (by simp[Pa])]
 ·unfold jL;simp only[SO h1,NJ,Aa];cases hk:Dh c.ah with
  |true=>
   have e:(c.ay.all λv=>BI v.af 1 100000&&(true&&F3 v.bh v.bg))=c.ay.all NH:=by congr 1
   rw[e];cases c.ay.all NH<;>cases Eb PV c.ay<;>cases BI (c.ay.length:Int) 1 16<;>rfl
  |false=>split<;>simp
 ·show Pa c 0=_;unfold Pa Nn;rw[if_pos (by simpa using h0),show(0:Int)=((0:Nat):Int)from rfl,AN h0,Aa];simp only[NJ,Aa,pI h1 (h3 _ (AF h0))];cases BI c.ay[0].af 1 100000<;>cases(Dh c.ah&&F3 c.ay[0].bh c.ay[0].bg)<;>rfl
 ·show Pa c ((i+1:Nat):Int)=_;unfold Pa Nn PV;rw[if_pos (by simp;omega),AN hi,Aa];simp only[NJ,Aa,pI h1 (h3 _ (AF hi))];rw[PH (by omega) (by omega),Nat.add_sub_cancel,AN (show i<c.ay.length by omega),FI hi (by omega)];have e:decide (c.ay[i].af>=c.ay[i+1].af)= !decide (c.ay[i].af<c.ay[i+1].af):=by rw[<-decide_not,decide_eq_decide];omega
  simp only[Aa,e];rw[show decide (((i+1:Nat):Int)>0)=true by simp];cases BI c.ay[i+1].af 1 100000<;>cases(Dh c.ah&&F3 c.ay[i+1].bh c.ay[i+1].bg)<;>cases decide (c.ay[i].af<c.ay[i+1].af)<;>rfl
theorem zwu{α β:Type}{r:β->β->Bool}{f:α->β}:∀l:List α,Eb r (l.map f)=Eb (λa b=>r (f a) (f b)) l
 | []=>rfl
 | [_]=>rfl
 |x::y::l=>by show(r (f x) (f y)&&Eb r ((y::l).map f))=_;rw[zwu (y::l)];rfl
theorem oY{l:List Aj}(h:PO l):Vn l=some (Eo l):=by
 have hn:=h.1;unfold Vn;rw[show((0:Int),([]:List Ap))=(λ(i:Nat) (a:List Ap)=>((i:Int),a)) 0 []from rfl,Su (xs:=l) (body:=λs:Int × List Ap=>U2 l s.1 s.2) (λ(i:Nat) (a:List Ap)=>((i:Int),a)) (λa c=>if IL c.ay=true then some (a++ [c.ah])else none) (some false) (X2 l) (λi a=>a.length=i) (λi acc hi ha=> ?_) (λacc ha=>by simp[U2]) [] rfl]
 ·have hf:∀(xs:List Aj) (a:List Ap),xs.foldlM (m:=Option) (λa c=>if IL c.ay=true then some (a++ [c.ah])else none) a=if(xs.all λc=>IL c.ay)=true then some (a++xs.map (·.ah))else none:=by
   intro xs
   induction xs with
   |nil=>intro a;simp
   |cons x xs ih=>
    intro a;rw[List.foldlM_cons];by_cases hx:IL x.ay=true
    ·rw[if_pos hx];show xs.foldlM _ (a++ [x.ah])=_;rw[ih];simp[hx]
    ·rw[if_neg hx];simp[hx]
  rw[hf];unfold Eo;by_cases hg:(l.all λc=>IL c.ay)=true
  ·rw[if_pos hg];show X2 l _=_;unfold X2;rw[List.nil_append,mG (by simpa using hn) (λk hk=>by obtain⟨c,hc,rfl⟩:=List.mem_map.1 hk;exact(h.2 c hc).1),VI,zwu];have e:(l.map (·.ah)).all Dh=l.all Gx:=by
    rw[List.all_map,Bool.eq_iff_iff];simp only[Bl]at hg ⊢;refine⟨λq c hc=> ?_,λq c hc=> ?_⟩
    ·unfold Gx;rw[hg c hc,Bool.and_true];exact q c hc
    ·have:=q c hc;unfold Gx at this;simp only[Ab]at this;exact this.1
   rw[e];show(if decide ((l.length:Int)<=24)=true then(some (l.all Gx&&Eb SP l)).bind λv2=>some v2 else some false)=_;cases decide ((l.length:Int)<=24)<;>rfl
  ·rw[if_neg hg];have e:l.all Gx=false:=by
    cases hc:l.all Gx
    ·rfl
    ·refine absurd ?_ hg;simp only[Bl]at hc ⊢;intro c q;have:=hc c q;unfold Gx at this;simp only[Ab]at this;exact this.2
   rw[e];simp
 ·have ha:acc.length=i:=ha;refine⟨?_,λa e=> ?_⟩
  ·show U2 l (i:Int) acc=_;unfold U2;rw[if_pos (by simpa using hi),AN hi,Aa,zCl (h.2 _ (AF hi)),Aa,FI hi (by omega)];cases IL l[i].ay with
   |false=>rfl
   |true=>rw[if_neg (by simp),A7 (by simp;omega)];rfl
  ·split at e
   ·cases e;simp[ha]
   ·cases e
theorem oJ{l:List Aj}(h:PO l):Vp l=some (Eo l):=by
 have hn:=h.1;unfold Vp Eo;rw[pG (xs:=l) (body:=λs:Int=>Pc l s) Gx SP false (kA l) (λh0=> ?_) (λi hi=> ?_) (by simp[Pc])]
 ·unfold kA;cases l.all Gx<;>cases Eb SP l<;>simp
 ·show Pc l 0=_;unfold Pc;rw[if_pos (by simpa using h0),show(0:Int)=((0:Nat):Int)from rfl,AN h0,Aa,zxV (h.2 _ (AF h0)),Aa];cases Gx l[0]<;>rfl
 ·show Pc l ((i+1:Nat):Int)=_;unfold Pc SP;rw[if_pos (by simp;omega),AN hi,Aa,zxV (h.2 _ (AF hi)),Aa];rw[PH (by omega) (by omega),Nat.add_sub_cancel,AN (show i<l.length by omega),FI hi (by omega)];simp only[Aa];rw[show decide (((i+1:Nat):Int)>0)=true by simp];rw[show bl l[i].ah l[i+1].ah=Op.bytesLess l[i].ah l[i+1].ah from rfl];cases Gx l[i+1]<;>cases Op.bytesLess l[i].ah l[i+1].ah<;>rfl
end
noncomputable section
open Go.RowKit
set_option maxRecDepth 100000
set_option maxHeartbeats 1000000
theorem oQ(a:Int):Nn a=some (BI a 1 100000):=rfl
theorem pA(a:Int):Nl a=some (BI a 1 100000):=rfl
theorem aV(a:Int):Nk a=some (BI a 1 60):=rfl
theorem zxY(a:Int):Pk a=some (BI a 0 100000):=rfl
theorem zDA(a:Int):R1 a=some (BI a 0 100000):=rfl
def Mk(ks:List Ap):Prop:=ks.length<=2000000/\ ∀k∈ks,k.length<=2000000
def Ep(ks:List Ap):Bool:=ks.all Dh&&NO ks
theorem zT{ks:List Ap}(h:Mk ks):Nj ks=some (Ep ks):=mG h.1 h.2
theorem zF{ks:List Ap}{body:Int->Option (Int ⊕ Option Bool)}{fin:Option Bool}(h:Mk ks)(h0:∀(hi:0<ks.length),body 0=some (if Dh ks[0]=true then .inl 1 else .inr (some false)))
  (hs:∀(i:Nat) (hi:i<ks.length) (hp:0<i),body i=some (if(Dh ks[i]&&Op.bytesLess ks[i-1] ks[i])=true then .inl ((i+1:Nat):Int)else .inr (some false))) (he:body ks.length=some (.inr fin)):Au body 0=if Ep ks=true then fin else some false:=by
 rw[Kj (n:=ks.length) (λi=>Dh ((ks[i]?).getD [])&&Hv ks i) false fin ?_ he,pX ks Dh (Hv ks) _ λi hi=>by simp[hi]]
 ·rfl
 ·intro i hi;by_cases hz:i=0
  ·subst hz;show body 0=_;rw[h0 hi];simp[hi,Hv]
  ·have JJ:i-1<ks.length:=by omega
   have hb:(i==0)=false:=by simpa using hz
   rw[hs i hi (Nat.pos_of_ne_zero hz)];simp only[Bh hi,Bh JJ,Dg,Hv,hb,Bool.false_or]
theorem zDy{ks:List Ap}(h:Mk ks):YK ks=some (Ep ks&&decide ((ks.length:Int)<4)):=by
 have hn:=h.1;unfold YK;rw[zF (body:=λs:Int=>RA ks s) (fin:=jA ks) h (λhi=>by
  simp only[RA,hi,decide_true,if_true,show((0:Int)<(ks.length:Int))from by omega,show Am ks 0=some ks[0]from AN hi,Aa,SO (h.2 _ (AF hi))];cases Dh ks[0]<;>rfl) (λi hi hp=>by
  have JJ:i-1<ks.length:=by omega
  have T9:(i:Int)>0:=by omega
  simp only[RA,Int.ofNat_lt,hi,T9,decide_true,if_true,AN hi,Aa,SO (h.2 _ (AF hi)),FI hi (by omega:ks.length<=_),PH hp (by omega:i<=2000000),AN JJ];cases Dh ks[i]<;>cases Op.bytesLess ks[i-1] ks[i]<;>rfl) (by
  show RA ks ks.length=_;unfold RA;rw[if_neg (by simp)])]
 unfold jA;cases Ep ks<;>rfl
theorem zDU{ks:List Ap}(h:Mk ks):YZ ks=some (Ep ks&&decide ((ks.length:Int)<=8)):=by
 have hn:=h.1;unfold YZ;rw[zF (body:=λs:Int=>Ro ks s) (fin:=jR ks) h (λhi=>by
  simp only[Ro,hi,decide_true,if_true,show((0:Int)<(ks.length:Int))from by omega,show Am ks 0=some ks[0]from AN hi,Aa,SO (h.2 _ (AF hi))];cases Dh ks[0]<;>rfl) (λi hi hp=>by
  have JJ:i-1<ks.length:=by omega
  have T9:(i:Int)>0:=by omega
  simp only[Ro,Int.ofNat_lt,hi,T9,decide_true,if_true,AN hi,Aa,SO (h.2 _ (AF hi)),FI hi (by omega:ks.length<=_),PH hp (by omega:i<=2000000),AN JJ];cases Dh ks[i]<;>cases Op.bytesLess ks[i-1] ks[i]<;>rfl) (by
  show Ro ks ks.length=_;unfold Ro;rw[if_neg (by simp)])]
 unfold jR;cases Ep ks<;>rfl
theorem zCG{ks:List Ap}(h:Mk ks):YR ks=some (Ep ks&&decide ((ks.length:Int)<4)):=by unfold YR;rw[zT h];cases decide ((ks.length:Int)<4)<;>cases Ep ks<;>rfl
structure Gy(r:Bv):Prop where
 reads:Mk r.ak
 writes:Ww r.ab
def CC(r:Bv):Bool:=
 if r.bc=1 then BI r.ao 1 60&&(BI r.af 1 100000&&(BI r.br 0 3&&(Ep r.ak&&(decide ((r.ak.length:Int)<=8)&&(Hq r.ab&&(decide ((r.ab.length:Int)<=8)&&(decide ((r.ak.length:Int)+(r.ab.length:Int)>0)&& !r.bm)))))))
 else(r.br==0)&&(((r.ak.length:Int)==0)&&(((r.ab.length:Int)==0)&&(
  if r.bc=2\/r.bc=3 then BI r.ao 1 60&&(if r.bm=true then BI r.af 1 100000 else r.af==0)
  else if r.bc=4 then(r.ao==0)&&(BI r.af 1 100000&& !r.bm)else false)))
theorem pT{r:Bv}(h:Gy r):Vt r=some (CC r):=by
 have h1:=h.reads.1;have h2:=h.writes.1;have w:IntKind.i64.wrap ((r.ak.length:Int)+(r.ab.length:Int))=(r.ak.length:Int)+(r.ab.length:Int):=CD (by omega) (by omega);have hj:∀b:Bool,r.bc≠1->(b=true↔(r.bc=2\/r.bc=3))->Yk r b=some (CC r):=by
  intro b k hb;unfold Yk CC;rw[if_neg k];cases b with
  |true=>rw[if_pos rfl,if_pos (show r.bc=2\/r.bc=3 from hb.1 rfl)];simp only[aV,pA,Aa];cases(r.br==0)<;>cases((r.ak.length:Int)==0)<;>cases((r.ab.length:Int)==0)<;>cases BI r.ao 1 60<;>cases r.bm<;>simp
  |false=>
   rw[if_neg (by simp),if_neg (show¬(r.bc=2\/r.bc=3)from λe=>by have:=hb.2 e;cases this)];by_cases k4:r.bc=4
   ·rw[if_pos (by simpa using k4),if_pos k4];simp only[pA,Aa];cases(r.br==0)<;>cases((r.ak.length:Int)==0)<;>cases((r.ab.length:Int)==0)<;>cases(r.ao==0)<;>simp
   ·rw[if_neg (by simpa using k4),if_neg k4];cases(r.br==0)<;>cases((r.ak.length:Int)==0)<;>cases((r.ab.length:Int)==0)<;>rfl
 unfold Vt;by_cases k1:r.bc=1
 ·rw[if_pos (by simpa using k1)];unfold CC;rw[if_pos k1];simp only[aV,pA,Py,Aa,zT h.reads,zBj h.writes,w];cases BI r.ao 1 60<;>cases BI r.af 1 100000<;>cases BI r.br 0 3<;>cases decide ((r.ak.length:Int)<=8)<;>cases Ep r.ak<;>cases decide ((r.ab.length:Int)<=8)<;>cases Hq r.ab<;>simp
 ·rw[if_neg (by simpa using k1)];by_cases k2:r.bc=2
  ·rw[if_pos (by simpa using k2)];exact hj _ k1 (by simp[k2])
  ·rw[if_neg (by simpa using k2)];exact hj _ k1 (by simp[k2])
theorem zEK{r:Bv}(h:Gy r):((LS r).bind λv1=>some v1)=some (CC r):=by
 have h1:=h.reads.1;have h2:=h.writes.1;have w:IntKind.i64.wrap ((r.ak.length:Int)+(r.ab.length:Int))=(r.ak.length:Int)+(r.ab.length:Int):=CD (by omega) (by omega);have hj:∀b:Bool,r.bc≠1->r.br=0->(r.ak.length:Int)=0->(r.ab.length:Int)=0->(b=true↔(r.bc=2\/r.bc=3))->YD r b=some (CC r):=by
  intro b k e1 e2 e3 hb;unfold YD CC;rw[if_neg k,show(r.br==0)=true by simpa using e1,show((r.ak.length:Int)==0)=true by simpa using e2,show((r.ab.length:Int)==0)=true by simpa using e3];cases b with
  |true=>rw[if_pos rfl,if_pos (show r.bc=2\/r.bc=3 from hb.1 rfl)];simp only[NJ,oQ,Aa];cases BI r.ao 1 60<;>cases r.bm<;>simp
  |false=>
   rw[if_neg (by simp),if_neg (show¬(r.bc=2\/r.bc=3)from λe=>by have:=hb.2 e;cases this)];by_cases k4:r.bc=4
   ·rw[if_pos (by simpa using k4),if_pos k4];simp only[oQ,Aa];cases(r.ao==0)<;>simp
   ·rw[if_neg (by simpa using k4),if_neg k4];rfl
 have Ce:BI (r.ab.length:Int) 0 8=decide ((r.ab.length:Int)<=8):=by unfold BI;rw[show decide ((r.ab.length:Int)>=0)=true by simp];rfl
 unfold LS;by_cases k1:r.bc=1
 ·rw[if_neg (by simp[k1]),if_pos (by simpa using k1)];unfold CC;rw[if_pos k1];simp only[NJ,oQ,Aa,zDU h.reads,zBz h.writes,w,Ce];cases BI r.ao 1 60<;>cases BI r.af 1 100000<;>cases BI r.br 0 3<;>cases decide ((r.ak.length:Int)<=8)<;>cases Ep r.ak<;>cases decide ((r.ab.length:Int)<=8)<;>cases Hq r.ab<;>simp
 ·by_cases hz:r.br=0/\(r.ak.length:Int)=0/\(r.ab.length:Int)=0
  ·obtain⟨e1,e2,e3⟩:=hz;rw[if_neg (by rw[w];simp[e1];omega),if_neg (by simpa using k1)];by_cases k2:r.bc=2
   ·rw[if_pos (by simpa using k2),hj _ k1 e1 e2 e3 (by simp[k2]),Aa]
   ·rw[if_neg (by simpa using k2),hj _ k1 e1 e2 e3 (by simp[k2]),Aa]
  ·have hc:((r.bc !=1)&&((r.br !=0)||decide (IntKind.i64.wrap ((r.ak.length:Int)+(r.ab.length:Int))>0)))=true:=by
    rw[w];by_cases e1:r.br=0
    ·have:(r.ak.length:Int)+(r.ab.length:Int)>0:=by
      rcases Classical.em ((r.ak.length:Int)=0)with e2|e2
      ·have e3: ¬(r.ab.length:Int)=0:=λe3=>hz ⟨e1,e2,e3⟩;omega
      ·omega
     simp[k1,this]
    ·simp[k1,e1]
   rw[if_pos hc,Aa];unfold CC;rw[if_neg k1];by_cases e1:r.br=0
   ·by_cases e2:(r.ak.length:Int)=0
    ·have e3:((r.ab.length:Int)==0)=false:=by simpa using λe3=>hz ⟨e1,e2,by simpa using e3⟩
     rw[e3];simp
    ·have e2:((r.ak.length:Int)==0)=false:=by simpa using e2
     rw[e2];simp
   ·have e1:(r.br==0)=false:=by simpa using e1
    rw[e1];rfl
theorem aY{r:Bv}(h:Gy r):LS r=some (CC r):=by
 have e:=zEK h;cases q:LS r with
 |none=>rw[q]at e;cases e
 |some x=>rw[q]at e;exact e
theorem Pu{σ α:Type}{body:σ->Option (σ ⊕ Option α)}{s:σ}{o:Option α}(h:body s=some (.inr o)):Au body s=o:=by rw[DK,h]
theorem ZQ{σ α:Type}{body:σ->Option (σ ⊕ Option α)}{s s':σ}(h:body s=some (.inl s')):Au body s=Au body s':=by rw[DK,h]
theorem sH{α:Type}{xs:List α}{body:Int × Int->Option ((Int × Int) ⊕ Option Int)}(tot:α->Nat){a:Int}(h0:0<=a)(h1:a<=1048576)
  (hs:∀x∈xs,∀b:Int,0<=b->b<=1048576-> ∃v,v<=b/\(0<=v->(tot x:Int)=b-v)/\ ∀i:Nat,xs[i]?=some x->body (b,(i:Int))=some (if v<0 then .inr (some (-1))else .inl (v,((i+1:Nat):Int))))
  (he:∀b,body (b,(xs.length:Int))=some (.inr (some b))):∃v,Au body (a,0)=some v/\v<=a/\(0<=v->((xs.map tot).sum:Int)=a-v):=by
 have key:∀(n q:Nat) (a:Int),q+n=xs.length->0<=a->a<=1048576-> ∃v,Au body (a,(q:Int))=some v/\v<=a/\(0<=v->(((xs.drop q).map tot).sum:Int)=a-v):=by
  intro n
  induction n with
  |zero=>
   intro q a hq h0 h1;refine⟨a,?_,by omega,λ_=> ?_⟩
   ·rw[DK,show(q:Int)=(xs.length:Int) by omega,he]
   ·rw[List.drop_eq_nil_of_le (by omega)];simp
  |succ n ih=>
   intro q a hq h0 h1;have AH:q<xs.length:=by omega
   obtain⟨v,e1,e2,e3⟩:=hs xs[q] (AF AH) a h0 h1;rw[DK,e3 q (Bh AH)];by_cases hv:v<0
   ·rw[if_pos hv];exact⟨-1,rfl,by omega,by omega⟩
   ·rw[if_neg hv];obtain⟨u,f1,f2,f3⟩:=ih (q+1) v (by omega) (by omega) (by omega);refine⟨u,f1,by omega,λhu=> ?_⟩;have g1:=f3 hu;have g2:=e2 (by omega);rw[Bw AH,List.map_cons,List.sum_cons];omega
 have:=key xs.length 0 a (by omega) h0 h1;simpa using this
theorem Fe{α:Type}{tot:α->Nat}:∀{xs:List α} {x:α},x∈xs->tot x<=(xs.map tot).sum
 |y::xs,x,h=>by
  rw[List.map_cons,List.sum_cons];rcases Ae.1 h with rfl|h
  ·omega
  ·have:=Fe (tot:=tot) h;omega
theorem nN{α:Type}(xs:List α)(n:Nat):(xs.map λ_=>n).sum=n*xs.length:=by
 induction xs with
 |nil=>simp
 |cons x xs ih=>rw[List.map_cons,List.sum_cons,ih,A3,Nat.mul_add];omega
def small(b:UInt8):Bool:= !(decide ((b.toNat:Int)<97)||decide ((b.toNat:Int)>122))
theorem zCb{xs:List Ap}{s:Ap}(h:xs.length<=2000000):XP xs s=some (CU (· ==s) xs):=by unfold XP;refine aC (· ==s) (λi hi=> ?_) (by simp[hP]);simp only[hP,Int.ofNat_lt,hi,decide_true,if_true,AN hi,Aa,FI hi (by omega:xs.length<=_)];rw[show(s==xs[i])=(xs[i]==s)from BEq.comm];cases xs[i]==s<;>rfl
theorem zGm(xs:List Ap)(s:Ap):(xs.any λx=>x==s)=xs.contains s:=by rw[List.contains_eq_any_beq];congr 1;funext x;exact BEq.comm
theorem zFK{xs:List Ap}{s:Ap}(h:xs.length<=2000000):XN xs s=some (xs.contains s):=by simp only[XN,zCb h,Aa,oK,zGm]
theorem K2{i:Nat}(h0:0<i)(h:i<=2000000):IntKind.i64.wrap ((i:Int)-1)=((i-1:Nat):Int):=by rw[CD (by omega) (by omega)];omega
theorem zGr{α β:Type}{xs:List α}{body:Int->Option (Int ⊕ Option β)}(p:α->Bool)(ME:α->Option β)(fin:Option β)
  (hs:∀(i:Nat) (hi:i<xs.length),body i=some (if p xs[i]=true then .inr (ME xs[i])else .inl ((i+1:Nat):Int))) (he:body xs.length=some (.inr fin)):
  Au body 0=match xs.find? p with|some x=>ME x|none=>fin:=by
 have key:∀n q,q+n=xs.length->Au body (q:Nat)=match(xs.drop q).find? p with|some x=>ME x|none=>fin:=by
  intro n
  induction n with
  |zero=>
   intro q hq;have:q=xs.length:=by omega
   subst this;rw[List.drop_length];exact Pu he
  |succ n ih=>
   intro q hq;have AH:q<xs.length:=by omega
   rw[Bw AH,List.find?_cons];have h1:=hs q AH;cases hp:p xs[q]with
   |true=>rw[hp,if_pos rfl]at h1;exact Pu h1
   |false=>rw[hp,if_neg (by simp)]at h1;rw[ZQ h1];exact ih (q+1) (by omega)
 have:=key xs.length 0 (by omega);rw[List.drop_zero]at this;exact this
theorem zAC{α:Type}(lt:α->Bool)(x:α)(l:List α):AD lt (x::l)=if lt x=true then AD lt l+1 else 0:=by unfold AD;rw[List.takeWhile_cons];split<;>rfl
theorem zzR{x:An}{l:List An}(h:Jm (x::l)):(∀y∈l,bl x.ah y.ah=true)/\Jm l:=by unfold Jm DQ at h;rw[List.pairwise_cons]at h;exact h
theorem zA3{l:List An}{k:Ap}(h:∀y∈l,bl k y.ah=true):l.find? (λw=>w.ah==k)=none:=by rw[List.find?_eq_none];intro y hy;have:=Ic (h y hy);simpa using λe=>this e.symm
theorem yQ{k:Ap}:∀{l:List An},Jm l->l.find? (λw=>w.ah==k)=match l[Mi l k]? with|some w=>if w.ah=k then some w else none|none=>none
 | [],_=>by simp
 |x::l,h=>by
  obtain⟨h1,h2⟩:=zzR h;have ih:=yQ (k:=k) h2;rw[Mi,zAC,List.find?_cons];by_cases hb:bl x.ah k=true
  ·have BF:(x.ah==k)=false:=by simpa using Ic hb
   rw[if_pos hb,BF,List.getElem?_cons_succ];exact ih
  ·rw[if_neg hb,List.getElem?_cons_zero];by_cases he:x.ah=k
   ·rw[show(x.ah==k)=true by simpa using he];simp[he]
   ·rw[show(x.ah==k)=false by simpa using he];simp only[he,if_false];have hk:bl k x.ah=true:=Si (by simpa using hb) he;exact zA3 λy hy=>FV hk (h1 y hy)
theorem zFb{l:List An}{k:Ap}(hl:l.length<=2000000)(hr:Jm l):∃i:Int,(Ru l k=some (i,true)/\ ∃w,Am l i=some w/\l.find? (λw=>w.ah==k)=some w)\/(Ru l k=some (i,false)/\l.find? (λw=>w.ah==k)=none):=by
 refine⟨(Mi l k:Nat),?_⟩;rw[zHd hl hr,yQ hr];by_cases hp:Mi l k<l.length
 ·rw[Bh hp];by_cases hk:(l[Mi l k]).ah=k
  ·left;simp only[hk,decide_true,if_true];exact⟨trivial,_,AN hp,rfl⟩
  ·right;simp only[hk,decide_false,if_false];exact⟨trivial,trivial⟩
 ·rw[List.getElem?_eq_none (by omega)];right;exact⟨rfl,rfl⟩
section
variable {α:Type} {key:α->Int}
def Eu(key:α->Int)(x:α):List α->List α
 | []=> [x]
 |y::l=>if key x<key y then x::y::l else y::Eu key x l
def Cf(key:α->Int)(l:List α):Prop:=l.Pairwise λa b=>key a<key b
def A0(key:α->Int)(t:Int)(y:α):Bool:=decide (key y<t)
theorem VN(lt:α->Bool)(x:α)(l:List α):AD lt (x::l)=if lt x=true then AD lt l+1 else 0:=by unfold AD;rw[List.takeWhile_cons];split<;>rfl
theorem aE{x:α}:∀{l:List α},(∀y∈l,key y≠key x)->Eu key x l=l.take (AD (A0 key (key x)) l)++ [x]++l.drop (AD (A0 key (key x)) l)
 | [],_=>by simp[Eu,AD]
 |y::l,h=>by
  have ih:=aE (x:=x) (l:=l) λz hz=>h z (by simp[hz]);have hy:=h y (by simp);rw[VN,Eu];by_cases hb:key x<key y
  ·have e:A0 key (key x) y=false:=by unfold A0;simp;omega
   rw[if_pos hb,e];simp
  ·have e:A0 key (key x) y=true:=by unfold A0;simp;omega
   rw[if_neg hb,e,if_pos rfl,ih];simp
theorem Km{x z:α}:∀{l:List α},z∈Eu key x l↔z=x\/z∈l
 | []=>by simp[Eu]
 |y::l=>by
  rw[Eu];split
  ·simp
  ·rw[Ae,Km,Ae];constructor
   ·rintro(h|h|h)<;>simp[h]
   ·rintro(h|h|h)<;>simp[h]
theorem o9{x:α}:∀(l:List α),(Eu key x l).length=l.length+1
 | []=>rfl
 |y::l=>by
  rw[Eu];split
  ·rfl
  ·simp[o9 l]
theorem Cf.ins{x:α}:∀{l:List α},Cf key l->(∀y∈l,key y≠key x)->Cf key (Eu key x l)
 | [],_,_=>by simp[Eu,Cf]
 |y::l,h,hx=>by
  obtain⟨h1,h2⟩:=List.pairwise_cons.1 h;rw[Eu];split
  ·rename_i hb;refine List.pairwise_cons.2 ⟨λz hz=> ?_,h⟩;rcases Ae.1 hz with rfl|hz
   ·exact hb
   ·have:=h1 z hz;omega
  ·rename_i hb;refine List.pairwise_cons.2 ⟨λz hz=> ?_,Cf.ins h2 λz hz=>hx z (by simp[hz])⟩;have hy:=hx y (by simp);rcases Km.1 hz with rfl|hz
   ·omega
   ·exact h1 z hz
theorem Cf.filter{l:List α}(h:Cf key l)(p:α->Bool):Cf key (l.filter p):=List.Pairwise.filter p h
theorem Cf.tail{x:α}{l:List α}(h:Cf key (x::l)):Cf key l:=(List.pairwise_cons.1 h).2
theorem Cf.mono{l:List α}(h:Cf key l){i j:Nat}(hj:j<l.length)(hi:i<j):key l[i]<key l[j]:=List.pairwise_iff_getElem.1 h i j (by omega) hj hi
theorem R7{t:Int}:∀{l:List α},Cf key l->l.find? (λy=>key y==t)=match l[AD (A0 key t) l]? with|some y=>if key y=t then some y else none|none=>none
 | [],_=>by simp
 |x::l,h=>by
  obtain⟨h1,h2⟩:=List.pairwise_cons.1 h;have ih:=R7 (t:=t) h2;rw[VN,List.find?_cons];by_cases hb:key x<t
  ·have e:A0 key t x=true:=by unfold A0;simpa using hb
   have BF:(key x==t)=false:=by simp;omega
   rw[e,if_pos rfl,BF,List.getElem?_cons_succ];exact ih
  ·have e:A0 key t x=false:=by unfold A0;simpa using hb
   rw[e,if_neg (by simp),List.getElem?_cons_zero];by_cases he:key x=t
   ·rw[show(key x==t)=true by simpa using he];simp[he]
   ·rw[show(key x==t)=false by simpa using he];simp only[he,if_false];rw[List.find?_eq_none];intro y hy;have:=h1 y hy;simp;omega
theorem yP{t:Int}{l:List α}(h:Cf key l):∀i j (hj:j<l.length) (hi:i<=j),A0 key t l[j]=true->A0 key t l[i]=true:=by
 intro i j hj hi AH;unfold A0 at AH ⊢;simp only[AR]at AH ⊢;by_cases he:i=j
 ·subst he;exact AH
 ·have:=h.mono hj (show i<j by omega);omega
theorem yZ{t:Int}:∀{l:List α} {i:Nat},Cf key l->(hi:i<l.length)->key l[i]=t->l.take i++l.drop (i+1)=l.filter λy=>decide (key y≠t)
 | [],i,_,hi,_=>by simp at hi
 |x::l,0,h,_,hk=>by
  obtain⟨h1,_⟩:=List.pairwise_cons.1 h;have hk:key x=t:=hk;rw[List.filter_cons,if_neg (by simpa using hk)];symm;rw[List.filter_eq_self.2]
  ·rfl
  ·intro y hy;have:=h1 y hy;simp;omega
 |x::l,i+1,h,hi,hk=>by
  obtain⟨h1,h2⟩:=List.pairwise_cons.1 h;have BR:i<l.length:=by simpa using hi
  have Cq:key l[i]=t:=by simpa using hk
  have hx:key x≠t:=by have:=h1 _ (AF BR);omega
  rw[List.filter_cons,if_pos (by simpa using hx),List.take_succ_cons,List.cons_append,List.drop_succ_cons,yZ h2 BR Cq]
theorem zpY{t:Int}{l:List α}(h:l.find? (λy=>key y==t)=none):(l.filter λy=>decide (key y≠t))=l:=by rw[List.filter_eq_self];intro y hy;have:=List.find?_eq_none.1 h y hy;simpa using this
theorem Cf.len{lo hi:Int}:∀{l:List α},Cf key l->(∀y∈l,lo<=key y/\key y<=hi)->(l.length:Int)<=max 0 (hi-lo+1)
 | [],_,_=>by simp;omega
 |x::l,h,hb=>by
  obtain⟨h1,h2⟩:=List.pairwise_cons.1 h;have hx:=hb x (by simp);have:=Cf.len (lo:=key x+1) (hi:=hi) h2 λy hy=>⟨by have:=h1 y hy;omega,(hb y (by simp[hy])).2⟩
  rw[A3];omega
end
abbrev ck(c:Aj):Ap:=c.ah
abbrev G3(l:List Aj):Prop:=DQ ck l
def Es(l:List Aj)(k:Ap):Option Aj:=l.find? λc=>c.ah==k
def UF(c:Aj):Int:=match c.ay.getLast? with|some v=>v.af|none=>0
def Ch(l:List Aj)(k:Ap):Int:=match Es l k with|some c=>UF c|none=>0
def Kr(l:List Aj)(k:Ap):List BE:=match Es l k with|some c=>c.ay|none=> []
def Ii(l:List Aj)(k:Ap)(v:BE):List Aj:=FY ck ⟨k,Kr l k++ [v]⟩ l
def HC(t:Int)(l:List Aj)(w:An):Option (List Aj):=if t<=Ch l w.ah then none else some (Ii l w.ah ⟨t,w.bh,w.bg⟩)
def GC(t:Int)(l:List Aj)(ws:List An):Option (List Aj):=ws.foldlM (HC t) l
def LJ(l:List Aj)(ws:List An)(t:Int):Option (List Aj):=match GC t l ws with|some o=>if Eo o=true then some o else none|none=>none
abbrev hk(h:Ay):Int:=h.ao
abbrev tk(t:Bj):Int:=t.ao
def CZ(s:Ai)(t:Int):Option Ay:=s.ae.find? λh=>hk h==t
def Fq(s:Ai)(t:Int):Option Bj:=s.aq.find? λh=>tk h==t
def D5(h:Ay):Bv:={bc:=1,ao:=h.ao,af:=h.af,br:=h.br,ak:=h.ak,ab:=h.ab,bm:=false}
def H9(ws:List An)(k:Ap):Bool:=ws.any λw=>w.ah==k
def B6(ws:List An)(rs:List Ap)(os:List An):Bool:=ws.any λw=>H9 os w.ah||rs.contains w.ah
def CR(h:Ay)(rs:List Ap)(ws:List An):Bool:=B6 h.ab rs ws||B6 ws h.ak h.ab
theorem sV{a b:Int}:decide (M6 a b<0)=decide (a<b):=by
 unfold M6;by_cases h:a<b
 ·simp[h]
 ·by_cases he:a=b<;>simp[h,he]
theorem zzI{a b:Int}:(M6 a b==0)=decide (a=b):=by
 unfold M6;by_cases h:a<b
 ·have: ¬a=b:=by omega
  simp[h,this]
 ·by_cases he:a=b<;>simp[h,he]
theorem zHe{l:List Aj}{k:Ap}(hl:l.length<=2000000)(hr:G3 l):XL l k (λy0_ y1_=>Pd y0_ y1_)=some (((AD (λw:Aj=>bl w.ah k) l:Nat):Int),(match l[AD (λw:Aj=>bl w.ah k) l]? with|some w=>decide (w.ah=k)|none=>false)):=by
 unfold XL;have hc:∀w:Aj,Pd w k=some (M5 w.ah k):=λw=>by simp[Pd]
 have h:=aU (xs:=l) (body:=λs:Int × Int=>QD l k (λy0_ y1_=>Pd y0_ y1_) s.1 s.2) (fin:=λi=>gU l k (λy0_ y1_=>Pd y0_ y1_) i) (λw:Aj=>bl w.ah k)
  (λi j hj hi h=>by
   rcases Nat.lt_or_ge i j with Ew|Ew
   ·exact FV ((List.pairwise_iff_getElem.1 hr) i j (by omega) hj Ew) h
   ·have:i=j:=by omega
    subst this;exact h)
  (λi j Ew hj Hh=>by show QD l k _ (i:Int) (j:Int)=_;unfold QD;rw[if_pos (by simpa using Ew),bK (by omega) (by omega),AN Hh,Aa];simp only[hc,Aa,s5,Bx (show(i+j)/2<=2000000 by omega)];cases bl l[(i+j)/2].ah k<;>rfl)
  (λi hi=>by show QD l k _ (i:Int) (i:Int)=_;unfold QD;rw[if_neg (by simp)])
 rw[h];unfold gU;by_cases hp:AD (λw:Aj=>bl w.ah k) l<l.length
 ·rw[if_pos (by simpa using hp),AN hp,Aa];simp only[hc,Aa,tF,Bh hp]
 ·rw[if_neg (by simpa using hp),List.getElem?_eq_none (by omega)]
theorem zHg{l:List Ay}{k:Int}(hl:l.length<=2000000)(hr:Cf hk l):XK l k (λy0_ y1_=>O0 y0_ y1_)=some (((AD (A0 hk k) l:Nat):Int),(match l[AD (A0 hk k) l]? with|some w=>decide (w.ao=k)|none=>false)):=by
 unfold XK;have hc:∀w:Ay,O0 w k=some (M6 w.ao k):=λw=>by simp[O0]
 have h:=aU (xs:=l) (body:=λs:Int × Int=>QE l k (λy0_ y1_=>O0 y0_ y1_) s.1 s.2) (fin:=λi=>gX l k (λy0_ y1_=>O0 y0_ y1_) i) (A0 hk k)
  (λi j hj hi h=>yP hr i j hj hi h)
  (λi j Ew hj Hh=>by show QE l k _ (i:Int) (j:Int)=_;unfold QE;rw[if_pos (by simpa using Ew),bK (by omega) (by omega),AN Hh,Aa];simp only[hc,Aa,sV,Bx (show(i+j)/2<=2000000 by omega)];by_cases hq:l[(i+j)/2].ao<k<;>simp[A0,hk,tk,hq])
  (λi hi=>by show QE l k _ (i:Int) (i:Int)=_;unfold QE;rw[if_neg (by simp)])
 rw[h];unfold gX;by_cases hp:AD (A0 hk k) l<l.length
 ·rw[if_pos (by simpa using hp),AN hp,Aa];simp only[hc,Aa,zzI,Bh hp]
 ·rw[if_neg (by simpa using hp),List.getElem?_eq_none (by omega)]
theorem zGX{l:List Bj}{k:Int}(hl:l.length<=2000000)(hr:Cf tk l):XJ l k (λy0_ y1_=>O1 y0_ y1_)=some (((AD (A0 tk k) l:Nat):Int),(match l[AD (A0 tk k) l]? with|some w=>decide (w.ao=k)|none=>false)):=by
 unfold XJ;have hc:∀w:Bj,O1 w k=some (M6 w.ao k):=λw=>by simp[O1]
 have h:=aU (xs:=l) (body:=λs:Int × Int=>QF l k (λy0_ y1_=>O1 y0_ y1_) s.1 s.2) (fin:=λi=>gW l k (λy0_ y1_=>O1 y0_ y1_) i) (A0 tk k)
  (λi j hj hi h=>yP hr i j hj hi h)
  (λi j Ew hj Hh=>by show QF l k _ (i:Int) (j:Int)=_;unfold QF;rw[if_pos (by simpa using Ew),bK (by omega) (by omega),AN Hh,Aa];simp only[hc,Aa,sV,Bx (show(i+j)/2<=2000000 by omega)];by_cases hq:l[(i+j)/2].ao<k<;>simp[A0,hk,tk,hq])
  (λi hi=>by show QF l k _ (i:Int) (i:Int)=_;unfold QF;rw[if_neg (by simp)])
 rw[h];unfold gW;by_cases hp:AD (A0 tk k) l<l.length
 ·rw[if_pos (by simpa using hp),AN hp,Aa];simp only[hc,Aa,zzI,Bh hp]
 ·rw[if_neg (by simpa using hp),List.getElem?_eq_none (by omega)]
theorem Wt{β:Type}{body:Int->Option (Int ⊕ Option β)}{fin:Option β}(m:Nat)(he:body (m:Nat)=some (.inr fin)):∀n:Nat,m<=n->(∀i:Nat,m<=i->i<n->body ((i+1:Nat):Int)=some (.inl (i:Int)))->Au body (n:Nat)=fin
 |0,h,_=>by
  have e:m=0:=by omega
  subst e;exact Pu he
 |n+1,h,hs=>by
  by_cases e:m=n+1
  ·subst e;exact Pu he
  ·rw[ZQ (hs n (by omega) (by omega))];exact Wt m he n (by omega) λi h1 h2=>hs i h1 (by omega)
theorem zyg{α:Type}{vs:List α}(h:vs≠ [])(hl:vs.length<=2000000):Am vs (IntKind.i64.wrap ((vs.length:Int)-1))=some (vs.getLast h):=by
 have hp:0<vs.length:=by cases vs with|nil=>exact absurd rfl h|cons=>simp
 rw[K2 hp hl,AN (by omega),List.getLast_eq_getElem]
def Dx(n:Nat)(l:List Aj):Prop:=G3 l/\(l.length<=n/\ ∀c∈l,c.ay≠ []/\(c.ay.length<=n/\Xu c))
theorem Z2{l:List Aj}{k:Ap}{c:Aj}(h:Es l k=some c):c∈l/\c.ah=k:=⟨List.mem_of_find?_eq_some h,by have:=List.find?_some h;simpa using this⟩
theorem V9{l:List Aj}{k:Ap}{c:Aj}(hr:G3 l)(hc:c∈l)(hk:c.ah=k):Es l k=some c:=by
 cases h:Es l k with
 |none=>have:=List.find?_eq_none.1 h c hc;simp[hk]at this
 |some d=>obtain⟨h1,h2⟩:=Z2 h;rw[DQ.je (key:=ck) hr h1 hc (by rw[ck,ck,h2,hk])]
theorem pD{l:List Aj}{k:Ap}(h:∀c∈l,c.ah≠k):Es l k=none:=by unfold Es;rw[List.find?_eq_none];intro y hy;simpa using h y hy
abbrev Bo(l:List Aj)(k:Ap):Nat:=AD (λw:Aj=>bl w.ah k) l
theorem uA(l:List Aj)(k:Ap):Bo l k<=l.length:=NG _ l
theorem VJ{l:List Aj}(hr:G3 l)(k:Ap):(∃h:Bo l k<l.length,l[Bo l k].ah=k/\Es l k=some l[Bo l k])\/((∀c∈l,c.ah≠k)/\Es l k=none/\ ∀h:Bo l k<l.length,bl k l[Bo l k].ah=true):=by
 have W9:=List.pairwise_iff_getElem.1 hr;by_cases hp:Bo l k<l.length
 ·by_cases hk:l[Bo l k].ah=k
  ·exact .inl ⟨hp,hk,V9 hr (AF hp) hk⟩
  ·right;have hn:bl (l[Bo l k]'hp).ah k=false:=aO hp;have hg:bl k l[Bo l k].ah=true:=Si hn hk;have BX:∀c∈l,c.ah≠k:=by
    intro c hc e;obtain⟨j,hj,rfl⟩:=List.mem_iff_getElem.1 hc;rcases Nat.lt_trichotomy j (Bo l k)with h|h|h
    ·exact Ic (SM h) e
    ·subst h;exact hk e
    ·have:=W9 (Bo l k) j hp hj h;rw[ck,ck,e,Nx hg]at this;cases this
   exact⟨BX,pD BX,λ_=>hg⟩
 ·right;have BX:∀c∈l,c.ah≠k:=by
   intro c hc e;obtain⟨j,hj,rfl⟩:=List.mem_iff_getElem.1 hc;exact Ic (SM (lt:=λw:Aj=>bl w.ah k) (show j<Bo l k by omega)) e
  exact⟨BX,pD BX,λh=>absurd h hp⟩
theorem oR{l:List Aj}{k:Ap}(hl:l.length<=2000000)(hr:G3 l):RY l k=some (((Bo l k:Nat):Int),(Es l k).isSome):=by
 unfold RY;rw[zHe hl hr,Aa];rcases VJ hr k with⟨hp,hk,hf⟩|⟨hn,hf,hg⟩
 ·rw[hf];simp[Bh hp,hk]
 ·rw[hf];by_cases hp:Bo l k<l.length
  ·have hk:l[Bo l k].ah≠k:=hn _ (AF hp);simp[Bh hp,hk]
  ·simp[List.getElem?_eq_none (show l.length<=Bo l k by omega)]
theorem tU{l:List Aj}{k:Ap}(hl:l.length<=2000000)(hr:G3 l):∃i:Int,VH l k=some i/\((i<0/\Es l k=none)\/(0<=i/\ ∃c,Am l i=some c/\Es l k=some c)):=by
 refine⟨CU (λc:Aj=>c.ah==k) l,?_,?_⟩
 ·unfold VH;refine aC (λc:Aj=>c.ah==k) (λi hi=> ?_) ?_
  ·unfold lA;rw[if_pos (by simpa using hi),AN hi,Aa,Bx (by omega)];cases l[i].ah==k<;>rfl
  ·unfold lA;rw[if_neg (by simp)]
 ·by_cases h:CU (λc:Aj=>c.ah==k) l>=0
  ·obtain⟨x,h1,h2,h3⟩:=oF h;exact .inr ⟨h,x,h1,V9 hr h3 (by simpa using h2)⟩
  ·refine .inl ⟨by omega,?_⟩;have:=oK (λc:Aj=>c.ah==k) l;rw[decide_eq_false h]at this;unfold Es;rw[List.find?_eq_none];intro y hy hq;have:=List.any_eq_false.1 this.symm y hy;exact this hq
theorem yC{l:List Aj}{k:Ap}{c:Aj}(h:Es l k=some c)(hv:c.ay≠ []):Ch l k=(c.ay.getLast hv).af:=by unfold Ch;rw[h];show UF c=_;unfold UF;rw[List.getLast?_eq_some_getLast hv]
theorem SN{n:Nat}{l:List Aj}{k:Ap}(hn:n<=1000)(h:Dx n l):Pm l k=some (Ch l k):=by
 obtain⟨hr,hl,hc⟩:=h;unfold Pm;obtain⟨i,e,⟨h1,h2⟩|⟨h1,c,h2,h3⟩⟩:=tU (l:=l) (k:=k) (by omega) hr
 ·rw[e,Aa,if_pos (by simpa using h1)];unfold Ch;rw[h2]
 ·obtain⟨hv,hw,_⟩:=hc c (Z2 h3).1;rw[e,Aa,if_neg (by simpa using h1),h2,Aa,zyg hv (by omega),Aa,yC h3 hv]
theorem Wm{n:Nat}{l:List Aj}{k:Ap}(hn:n<=1000)(h:Dx n l):RR l k=some (Ch l k):=by
 obtain⟨hr,hl,hc⟩:=h;unfold RR;rw[oR (by omega) hr,Aa];rcases VJ hr k with⟨hp,hk,hf⟩|⟨_,hf,_⟩
 ·obtain⟨hv,hw,_⟩:=hc _ (AF hp);rw[hf,if_neg (by simp)];rw[AN hp,Aa,zyg hv (by omega),Aa,yC hf hv]
 ·rw[hf];simp only[Option.isSome_none,Bool.not_false,if_true];unfold Ch;rw[hf]
theorem zyb{l:List Aj}{k:Ap}{v:BE}(hr:G3 l)(hp:Bo l k<l.length)(hk:l[Bo l k].ah=k):Ii l k v=l.set (Bo l k) ⟨k,l[Bo l k].ay++ [v]⟩:=by unfold Ii;rw[oP hr];rw[show AD (λy=>bl (ck y) (ck (⟨k,Kr l k++ [v]⟩:Aj))) l=Bo l k from rfl,Bh hp];show(if l[Bo l k].ah=k then _ else _)=_;rw[if_pos hk];unfold Kr;rw[V9 hr (AF hp) hk]
theorem zyF{l:List Aj}{k:Ap}{v:BE}(hr:G3 l)(hn:∀c∈l,c.ah≠k):Ii l k v=l.take (Bo l k)++ [⟨k,[v]⟩]++l.drop (Bo l k):=by
 have hv:Kr l k=[]:=by unfold Kr;rw[pD hn]
 unfold Ii;rw[oP hr,hv];rw[show AD (λy=>bl (ck y) (ck (⟨k,[]++ [v]⟩:Aj))) l=Bo l k from rfl];by_cases hp:Bo l k<l.length
 ·rw[Bh hp];show(if l[Bo l k].ah=k then _ else _)=_;rw[if_neg (hn _ (AF hp))];rfl
 ·rw[List.getElem?_eq_none (by omega)];rfl
theorem Dx.add{n:Nat}{l:List Aj}{k:Ap}{v:BE}(h:Dx n l)(hn:n<=1000)(hk:k.length<=2000000)(hv:v.bh.length<=2000000):Dx (n+1) (Ii l k v):=by
 obtain⟨hr,hl,hc⟩:=h;have Ul:(Kr l k).length<=n/\ ∀v∈Kr l k,v.bh.length<=2000000:=by
  unfold Kr;cases e:Es l k with
  |none=>exact⟨by simp,λv hv=>by simp at hv⟩
  |some c=>obtain⟨_,h2,h3⟩:=hc c (Z2 e).1;exact⟨h2,h3.2.2⟩
 refine⟨VT hr,?_,?_⟩
 ·have:=aA (key:=ck) (x:=(⟨k,Kr l k++ [v]⟩:Aj)) l;unfold Ii;omega
 ·intro c FZ;rcases(Nt (key:=ck) hr c).1 FZ with rfl|⟨hm,_⟩
  ·refine⟨by simp,by simp;omega,hk,by simp;omega,?_⟩;intro x hx;rcases Ac.1 hx with hx|hx
   ·exact Ul.2 x hx
   ·have:x=v:=by simpa using hx
    subst this;exact hv
  ·obtain⟨h1,h2,h3⟩:=hc c hm;exact⟨h1,by omega,h3⟩
def Nz(ws:List An):Prop:=ws.length<=100/\ ∀w∈ws,w.ah.length<=2000000/\w.bh.length<=2000000
theorem tO{c:Aj}{k:Ap}{vs:List BE}(h:c.ah=k):({c with ay:=vs}:Aj)=⟨k,vs⟩:=by subst h;rfl
theorem zE2{α:Type}{A B:List α}{a:α}{p:Nat}(h:A.length=p):Am (A++ [a]++B) (p:Int)=some a:=by
 have hp:p<(A++ [a]++B).length:=by simp;omega
 rw[AN hp];subst h;simp
theorem zE3{α:Type}{A B:List α}{a b:α}{p:Nat}(h:A.length=p):(A++ [a]++B).set p b=A++ [b]++B:=by subst h;simp
theorem Dx.small{n:Nat}{l:List Aj}(h:Dx n l)(hn:n<=1000):PO l:=⟨by have:=h.2.1;omega,λc hc=>(h.2.2 c hc).2.2⟩
theorem XF{α:Type}(l:List α)(p:Nat):A4 l 0 (p:Int)=l.take p:=by unfold A4;simp
theorem UO{α:Type}(l:List α)(p:Nat):A4 l (p:Int) (l.length:Int)=l.drop p:=by unfold A4;rw[Bi,Bi,List.take_of_length_le (AJ _)]
theorem pS{t:Int}:∀{ws:List An} {n:Nat} {l o:List Aj},n+ws.length<=1000->(∀w∈ws,w.ah.length<=2000000/\w.bh.length<=2000000)->Dx n l->GC t l ws=some o->Dx (n+ws.length) o:=by
 intro ws
 induction ws with
 |nil=>intro n l o _ _ h e;cases e;exact h
 |cons w vs ih=>
  intro n l o hn hs h e;unfold GC at e;rw[List.foldlM_cons]at e;cases e1:HC t l w with
  |none=>rw[e1]at e;cases e
  |some l1=>
   rw[e1]at e;have e:GC t l1 vs=some o:=e;unfold HC at e1;split at e1
   ·cases e1
   ·cases e1;rw[A3]at hn ⊢;have:=ih (n:=n+1) (by omega) (λw hw=>hs w (by simp[hw])) (Dx.add h (by omega) (hs w (by simp)).1 (hs w (by simp)).2) e;rwa[show n+(vs.length+1)=n+1+vs.length by omega]
theorem zEH{l:List Aj}{ws:List An}{t:Int}(h:Dx 24 l)(hw:Nz ws):YN l ws t=some (match LJ l ws t with|some o=>(o,true)|none=>([],false)):=by
 have hC:Rr l=some l:=A7 ⟨by have:=h.2.1;omega,λc hc=>by have:=(h.2.2 c hc).2.1;omega⟩;unfold YN;rw[hC,Aa];have key:=Su (xs:=ws) (body:=λs:Int × List Aj=>QS ws t s.1 s.2) (λi s=>((i:Int),s)) (HC t) (some ([],false)) (λs=>Yr s) (λi s=>Dx (24+i) s)
  (λi acc hi hI=>by
   have Un:=hw.2 _ (AF hi);have hn:=hw.1;obtain⟨hr,hl,hc⟩:=hI;refine⟨?_,λa ha=> ?_⟩
   ·show QS ws t (i:Int) acc=_;unfold QS;rw[if_pos (by simpa using hi),AN hi,Aa,Wm (n:=24+i) (by omega) ⟨hr,hl,hc⟩,Aa];unfold HC;by_cases ht:t<=Ch acc ws[i].ah
    ·rw[if_pos (by simpa using ht),if_pos ht]
    ·rw[if_neg (by simpa using ht),if_neg ht,oR (by omega) hr,Aa,Bx (by omega)];rcases VJ hr ws[i].ah with⟨hp,hk,hf⟩|⟨DU,hf,_⟩
     ·have h1:=(hc _ (AF hp)).2.1;rw[hf];simp only[Option.isSome_some,Bool.not_true,AS,if_false];rw[AN hp,Aa,A7 (by simp only[Bd];omega),Bi,zyb hr hp hk];refine congrArg (λz=>some (Sum.inl (((i+1:Nat):Int),z))) (congrArg (acc.set _) ?_);exact tO hk
     ·have Gn:=uA acc ws[i].ah;have hA:(acc.take (Bo acc ws[i].ah)).length=Bo acc ws[i].ah:=by simp;omega
      have hIn:H5 acc ((Bo acc ws[i].ah:Nat):Int) [(⟨ws[i].ah,[]⟩:Aj)]=some (acc.take (Bo acc ws[i].ah)++ [⟨ws[i].ah,[]⟩]++acc.drop (Bo acc ws[i].ah)):=by unfold H5;rw[A7 ⟨by omega,by omega,by simp,by simp only[Bd];omega⟩,Bi]
      rw[hf];simp only[Option.isSome_none,Bool.not_false,if_true];rw[hIn,Aa,zE2 hA,Aa,A7 (by simp[RM]),Bi,zE3 hA,zyF hr DU];rfl
   ·unfold HC at ha;split at ha
    ·cases ha
    ·cases ha;exact Dx.add (n:=24+i) ⟨hr,hl,hc⟩ (by omega) Un.1 Un.2)
  (λacc _=>by show QS ws t (ws.length:Int) acc=_;unfold QS;rw[if_neg (by simp)]) l h
 refine key.trans ?_;unfold LJ GC;have AZ:∀o,ws.foldlM (HC t) l=some o->Dx (24+ws.length) o:=λo ho=>pS (by have:=hw.1;omega) hw.2 h ho;cases ho:ws.foldlM (HC t) l with
 |none=>rfl
 |some o=>show Yr o=some (match(if Eo o=true then some o else none)with|some o=>(o,true)|none=>([],false));unfold Yr;rw[oY ((AZ o ho).small (by have:=hw.1;omega)),Aa];cases Eo o<;>rfl
theorem sX{l:List Aj}(h:Dx 24 l):VG l=some l:=by
 unfold VG;have:=(E9 (xs:=l) (body:=λs:List Aj × Int=>RZ l s.1 s.2) (λi s=>(s,i)) (λo c=>o++ [c]) (λo=>some o) (λi o=>o.length=i)
  (λi hi o ho=>by have h1:=h.2.1;have h2:=(h.2.2 _ (AF hi)).2.1;refine⟨?_,by simp[ho]⟩;show RZ l o (i:Int)=_;unfold RZ;rw[if_pos (by simpa using hi),AN hi,Aa,A7 (by simp only[List.length_nil];omega),A7 (by simp only[Bd];omega),Bx (by omega)])
  (λo ho=>by show RZ l o (l.length:Int)=_;unfold RZ;rw[if_neg (by simp)]) (s:=[]) rfl).1
 refine this.trans ?_;have e:=foldl_map (λc:Aj=>c) l [];simpa using e
theorem zED{l:List Aj}{ws:List An}{t:Int}(h:Dx 24 l)(hw:Nz ws)(h0:0<t):Zn l ws t=some (match GC t l ws with|some o=>(o,Eo o)|none=>([],false)):=by
 unfold Zn;rw[sX h,Aa];have key:=Su (xs:=ws) (body:=λs:Int × List Aj=>RV ws t s.1 s.2) (λi s=>((i:Int),s)) (HC t) (some ([],false)) (λs=>YA s) (λi s=>Dx (24+i) s)
  (λi acc hi hI=>by
   have Un:=hw.2 _ (AF hi);have hn:=hw.1;obtain⟨hr,hl,hc⟩:=hI;have W9:=List.pairwise_iff_getElem.1 hr;have Gn:=uA acc ws[i].ah;refine⟨?_,λa ha=> ?_⟩
   ·show RV ws t (i:Int) acc=_;unfold RV;rw[if_pos (by simpa using hi),AN hi,Aa];have down:∀m:Nat,(∀j (hj:j<acc.length),m<=j->bl ws[i].ah acc[j].ah=true)-> ∀j:Nat,m<=j->j<acc.length->Pg t (i:Int) acc ws[i] ((j+1:Nat):Int)=some (.inl (j:Int)):=by
     intro m hm j h1 h2;unfold Pg;rw[if_pos (by simp),K2 (by omega) (by omega),show j+1-1=j by omega,AN h2,Aa,V6,if_pos (by rw[Bool.not_not];exact hm j h2 h1)]
    rcases VJ hr ws[i].ah with⟨hp,hk,hf⟩|⟨DU,hf,hg⟩
    ·have hv:=(hc _ (AF hp))
     have stop:Pg t (i:Int) acc ws[i] ((Bo acc ws[i].ah+1:Nat):Int)=some (.inr (RX t (i:Int) acc ws[i] ((Bo acc ws[i].ah+1:Nat):Int))):=by unfold Pg;rw[if_pos (by simp),K2 (by omega) (by omega),show Bo acc ws[i].ah+1-1=Bo acc ws[i].ah by omega,AN hp,Aa,V6,if_neg (by rw[hk];rw[show Op.bytesLess ws[i].ah ws[i].ah=false from Kk _];simp)]
     rw[Wt (Bo acc ws[i].ah+1) stop acc.length (by omega) (down _ λj hj h1=>by rw[<-hk];exact W9 _ j hp hj (by omega))];unfold RX;rw[if_pos (by simp),K2 (by omega) (by omega),show Bo acc ws[i].ah+1-1=Bo acc ws[i].ah by omega,AN hp,Aa,if_pos (by simpa using hk),SN (n:=24+i) (by omega) ⟨hr,hl,hc⟩,Aa];unfold HC;by_cases ht:t<=Ch acc ws[i].ah
     ·rw[if_pos (by simpa using ht),if_pos ht]
     ·rw[if_neg (by simpa using ht),if_neg ht,A7 (by simp only[Bd];omega),Bi,zyb hr hp hk,Bx (by omega)];refine congrArg (λz=>some (Sum.inl (((i+1:Nat):Int),z))) (congrArg (acc.set _) ?_);exact tO hk
    ·have ht: ¬t<=Ch acc ws[i].ah:=by unfold Ch;rw[hf];show¬t<=0;omega
     have cR:∀j (hj:j<acc.length),Bo acc ws[i].ah<=j->bl ws[i].ah acc[j].ah=true:=by
      intro j hj h1;have hp:Bo acc ws[i].ah<acc.length:=by omega
      rcases Nat.lt_or_ge (Bo acc ws[i].ah) j with h2|h2
      ·exact FV (hg hp) (W9 _ j hp hj h2)
      ·have e:Bo acc ws[i].ah=j:=by omega
       have:=hg hp;simp only[e]at this;exact this
     have stop:Pg t (i:Int) acc ws[i] ((Bo acc ws[i].ah:Nat):Int)=some (.inr (RX t (i:Int) acc ws[i] ((Bo acc ws[i].ah:Nat):Int))):=by
      unfold Pg;by_cases h0:Bo acc ws[i].ah=0
      ·rw[if_neg (by simp[h0])]
      ·have hb:bl (acc[Bo acc ws[i].ah-1]'(by omega)).ah ws[i].ah=true:=SM (lt:=λw:Aj=>bl w.ah ws[i].ah) (show Bo acc ws[i].ah-1<Bo acc ws[i].ah by omega);rw[if_pos (by simp;omega),K2 (by omega) (by omega),AN (show Bo acc ws[i].ah-1<acc.length by omega),Aa,V6,if_neg (by rw[show Op.bytesLess ws[i].ah _=false from Nx hb];simp)]
     rw[Wt (Bo acc ws[i].ah) stop acc.length (by omega) (down _ cR)];have body:(AK (0<=((Bo acc ws[i].ah:Nat):Int)/\((Bo acc ws[i].ah:Nat):Int)<=(acc.length:Int)/\(acc.length:Int)<=(acc.length:Int))<|
       AK (0<=((Bo acc ws[i].ah:Nat):Int)/\((Bo acc ws[i].ah:Nat):Int)<=(acc.length:Int)/\(acc.length:Int)<=(acc.length:Int))<|
       AK (((([]:List Aj).length:Int)+(((A4 acc ((Bo acc ws[i].ah:Nat):Int) (acc.length:Int))).length:Int))*40<=140737488355328/\(([]:List Aj).length:Int)+(((A4 acc ((Bo acc ws[i].ah:Nat):Int) (acc.length:Int))).length:Int)<=140737488355328)<|
       AK (0<=(0:Int)/\(0:Int)<=((Bo acc ws[i].ah:Nat):Int)/\((Bo acc ws[i].ah:Nat):Int)<=(acc.length:Int))<|
       AK (((([]:List Aj).length:Int)+(((A4 acc 0 ((Bo acc ws[i].ah:Nat):Int))).length:Int))*40<=140737488355328/\(([]:List Aj).length:Int)+(((A4 acc 0 ((Bo acc ws[i].ah:Nat):Int))).length:Int)<=140737488355328)<|
       AK (((((A4 acc 0 ((Bo acc ws[i].ah:Nat):Int))).length:Int)+(([(⟨ws[i].ah,[(⟨t,ws[i].bh,ws[i].bg⟩:BE)]⟩:Aj)]:List Aj).length:Int))*40<=140737488355328/\(((A4 acc 0 ((Bo acc ws[i].ah:Nat):Int))).length:Int)+(([(⟨ws[i].ah,[(⟨t,ws[i].bh,ws[i].bg⟩:BE)]⟩:Aj)]:List Aj).length:Int)<=140737488355328)<|
       AK ((((((A4 acc 0 ((Bo acc ws[i].ah:Nat):Int))++ [(⟨ws[i].ah,[(⟨t,ws[i].bh,ws[i].bg⟩:BE)]⟩:Aj)])).length:Int)+(((A4 acc ((Bo acc ws[i].ah:Nat):Int) (acc.length:Int))).length:Int))*40<=140737488355328/\((((A4 acc 0 ((Bo acc ws[i].ah:Nat):Int))++ [(⟨ws[i].ah,[(⟨t,ws[i].bh,ws[i].bg⟩:BE)]⟩:Aj)])).length:Int)+(((A4 acc ((Bo acc ws[i].ah:Nat):Int) (acc.length:Int))).length:Int)<=140737488355328)<|
       (some (.inl ((IntKind.i64.wrap ((i:Int)+1)),(((A4 acc 0 ((Bo acc ws[i].ah:Nat):Int))++ [(⟨ws[i].ah,[(⟨t,ws[i].bh,ws[i].bg⟩:BE)]⟩:Aj)])++(A4 acc ((Bo acc ws[i].ah:Nat):Int) (acc.length:Int))))):Option ((Int × List Aj) ⊕ Option (List Aj × Bool))))=some (.inl (((i+1:Nat):Int),Ii acc ws[i].ah ⟨t,ws[i].bh,ws[i].bg⟩)):=by
      rw[XF,UO,zyF hr DU,Bx (by omega)];rw[A7 (by omega),A7 (by omega),A7 (by simp only[BD,List.length_nil];omega),A7 (by omega),A7 (by simp only[Aw,List.length_nil];omega),A7 (by simp only[Aw,Bd];omega),A7 (by simp only[AP,BD,Aw,Bd];omega)]
     have e1:HC t acc ws[i]=some (Ii acc ws[i].ah ⟨t,ws[i].bh,ws[i].bg⟩):=by unfold HC;rw[if_neg ht]
     rw[e1];unfold RX;by_cases h0:Bo acc ws[i].ah=0
     ·rw[if_neg (by simp[h0])];exact body
     ·have BF:(acc[Bo acc ws[i].ah-1]'(by omega)).ah≠ws[i].ah:=DU _ (AF _);rw[if_pos (by simp;omega),K2 (by omega) (by omega),AN (show Bo acc ws[i].ah-1<acc.length by omega),Aa,if_neg (by simpa using BF)];exact body
   ·unfold HC at ha;split at ha
    ·cases ha
    ·cases ha;exact Dx.add (n:=24+i) ⟨hr,hl,hc⟩ (by omega) Un.1 Un.2)
  (λacc _=>by show RV ws t (ws.length:Int) acc=_;unfold RV;rw[if_neg (by simp)]) l h
 refine key.trans ?_;unfold GC;cases ho:ws.foldlM (HC t) l with
 |none=>rfl
 |some o=>show YA o=some (o,Eo o);unfold YA;rw[oJ ((pS (by have:=hw.1;omega) hw.2 h ho).small (by have:=hw.1;omega)),Aa]
theorem zwT{α:Type}(q:α->Bool):∀xs:List α,xs.find? q=xs[AD (λx=> !q x) xs]?
 | []=>by simp
 |x::xs=>by
  rw[VN,List.find?_cons];cases hq:q x with
  |true=>simp
  |false=>simpa using zwT q xs
theorem Ps{α β:Type}{xs:List α}{body:Int->Option (Int ⊕ Option β)}(q:α->Bool)(F:α->Option β)(fin:Option β)
  (hs:∀i (h:i<xs.length),body (i:Nat)=some (if q xs[i]=true then .inr (F xs[i])else .inl ((i+1:Nat):Int))) (he:body (xs.length:Nat)=some (.inr fin)):Au body 0=match xs.find? q with|some x=>F x|none=>fin:=by
 rw[zwT,oU (λx=> !q x) (λi=>match xs[i.toNat]? with|some x=>F x|none=>fin) (λi h=> ?_) ?_]
 ·rw[Bi]
 ·rw[he,Bi,List.getElem?_eq_none (AJ _)]
 ·rw[hs i h,Bi,Bh h];cases q xs[i]<;>rfl
theorem Sv{α:Type}(q:α->Bool)(xs:List α):(xs.find? q).isSome=xs.any q:=by rw[Bool.eq_iff_iff,List.find?_isSome,List.any_eq_true]
theorem tH{ws:List An}{k:Ap}(h:ws.length<=2000000):Vc ws k=some (H9 ws k):=by
 unfold Vc;rw[Ps (xs:=ws) (λw=>w.ah==k) (λ_=>some true) (some false) (λi hi=> ?_) ?_]
 ·unfold H9;rw[<-Sv];cases ws.find? (λw=>w.ah==k)<;>rfl
 ·unfold iE;rw[if_neg (by simp)]
 ·unfold iE;rw[if_pos (by simpa using hi),AN hi,Aa,Bx (by omega)];cases ws[i].ah==k<;>rfl
theorem zFM{ks:List Ap}{k:Ap}(h:ks.length<=2000000):Y1 ks k=some (ks.any (· ==k)):=by
 unfold Y1;rw[Ps (xs:=ks) (λw=>w==k) (λ_=>some true) (some false) (λi hi=> ?_) ?_]
 ·rw[<-Sv];cases ks.find? (λw=>w==k)<;>rfl
 ·unfold jY;rw[if_neg (by simp)]
 ·unfold jY;rw[if_pos (by simpa using hi),AN hi,Aa,Bx (by omega)];cases ks[i]==k<;>rfl
theorem ZO{s:Ai}{t:Int}(h:s.ae.length<=2000000):Kf s t=some (match CZ s t with|some h=>(h,true)|none=>((⟨0,0,0,[],[]⟩:Ay),false)):=by
 unfold Kf;rw[Ps (xs:=s.ae) (λw=>hk w==t) (λh=>some (h,true)) (some ((⟨0,0,0,[],[]⟩:Ay),false)) (λi hi=> ?_) ?_]
 ·unfold CZ;cases s.ae.find? (λw=>hk w==t)<;>rfl
 ·unfold iK;rw[if_neg (by simp)]
 ·unfold iK;rw[if_pos (by simpa using hi),AN hi,Aa,Bx (by omega)];unfold hk;cases s.ae[i].ao==t<;>rfl
theorem z6{s:Ai}{t:Int}(h:s.aq.length<=2000000):Vl s t=some (match Fq s t with|some h=>(h,true)|none=>((⟨0,false,0⟩:Bj),false)):=by
 unfold Vl;rw[Ps (xs:=s.aq) (λw=>tk w==t) (λh=>some (h,true)) (some ((⟨0,false,0⟩:Bj),false)) (λi hi=> ?_) ?_]
 ·unfold Fq;cases s.aq.find? (λw=>tk w==t)<;>rfl
 ·unfold iL;rw[if_neg (by simp)]
 ·unfold iL;rw[if_pos (by simpa using hi),AN hi,Aa,Bx (by omega)];unfold tk;cases s.aq[i].ao==t<;>rfl
theorem xS{α:Type}{key:α->Int}{l:List α}{t:Int}(hr:Cf key l):(l.find? (λy=>key y==t)).isSome=(match l[AD (A0 key t) l]? with|some w=>decide (key w=t)|none=>false):=by
 rw[R7 hr];cases l[AD (A0 key t) l]? with
 |none=>rfl
 |some w=>by_cases h:key w=t<;>simp[h]
theorem V3{s:Ai}{t:Int}(hl:s.ae.length<=2000000)(hr:Cf hk s.ae):KM s t=some (((AD (A0 hk t) s.ae:Nat):Int),(CZ s t).isSome):=by unfold KM CZ;rw[zHg hl hr,Aa,xS hr];cases s.ae[AD (A0 hk t) s.ae]?<;>rfl
theorem V7{s:Ai}{t:Int}(hl:s.aq.length<=2000000)(hr:Cf tk s.aq):Nf s t=some (((AD (A0 tk t) s.aq:Nat):Int),(Fq s t).isSome):=by unfold Nf Fq;rw[zGX hl hr,Aa,xS hr];cases s.aq[AD (A0 tk t) s.aq]?<;>rfl
theorem zx1{α:Type}{key:α->Int}{l:List α}{t:Int}(h:Cf key l):(∀j (hj:j<l.length),AD (A0 key (t+1)) l<=j->t<key l[j])/\ ∀j (hj:j<l.length),j<AD (A0 key (t+1)) l->key l[j]<=t:=by
 constructor
 ·intro j hj hp;have h1:AD (A0 key (t+1)) l<l.length:=by omega
  have h2: ¬(key (l[AD (A0 key (t+1)) l]'h1)<t+1):=of_decide_eq_false (aO h1);by_cases e:AD (A0 key (t+1)) l=j
  ·subst e;omega
  ·have:=h.mono hj (show AD (A0 key (t+1)) l<j by omega);omega
 ·intro j hj hp;have:key l[j]<t+1:=of_decide_eq_true (SM (lt:=A0 key (t+1)) hp);omega
theorem zBl{α:Type}{key:α->Int}{l:List α}{t:Int}(hn:∀y∈l,key y≠t):AD (A0 key (t+1)) l=AD (A0 key t) l:=by
 induction l with
 |nil=>rfl
 |cons x l ih=>
  rw[VN,VN,ih λy hy=>hn y (by simp[hy])];have:=hn x (by simp);have e:A0 key (t+1) x=A0 key t x:=by unfold A0;rw[decide_eq_decide];omega
  rw[e]
theorem zU{α:Type}{key:α->Int}{l:List α}{x:α}(hn:∀y∈l,key y≠key x):Eu key x l=l.take (AD (A0 key (key x+1)) l)++ [x]++l.drop (AD (A0 key (key x+1)) l):=by rw[zBl hn];exact aE hn
theorem zzq{l:List Ay}{h:Ay}(hl:l.length<=1000)(hr:Cf hk l):∃r,Yj l h=some r/\((∀y∈l,hk y≠hk h)->r=Eu hk h l):=by
 have hp:=NG (A0 hk (hk h+1)) l;obtain⟨h1,h2⟩:=zx1 (t:=hk h) hr;refine⟨_,?_,λhn=>(zU hn).symm⟩;unfold Yj;rw[Wt (AD (A0 hk (hk h+1)) l) (fin:=Ya l h ((AD (A0 hk (hk h+1)) l:Nat):Int)) ?_ l.length hp λj h3 h4=> ?_]
 ·unfold Ya;rw[XF,UO,A7 (by omega),A7 (by simp only[BD,List.length_nil];omega),A7 (by omega),A7 (by simp only[Aw,List.length_nil];omega),A7 (by simp only[Aw,Bd];omega),A7 (by simp only[AP,BD,Aw,Bd];omega)]
 ·unfold iP;by_cases h0:AD (A0 hk (hk h+1)) l=0
  ·rw[if_neg (by simp[h0])]
  ·have:=h2 (AD (A0 hk (hk h+1)) l-1) (by omega) (by omega);rw[if_pos (by simp;omega),K2 (by omega) (by omega),AN (show AD (A0 hk (hk h+1)) l-1<l.length by omega),Aa,if_neg (by simpa using this)]
 ·have:=h1 j h4 h3;unfold iP;rw[if_pos (by simp),K2 (by omega) (by omega),show j+1-1=j by omega,AN h4,Aa,if_pos (by simpa using this)]
theorem zyI{l:List Bj}{h:Bj}(hl:l.length<=1000)(hr:Cf tk l):∃r,U7 l h=some r/\((∀y∈l,tk y≠tk h)->r=Eu tk h l):=by
 have hp:=NG (A0 tk (tk h+1)) l;obtain⟨h1,h2⟩:=zx1 (t:=tk h) hr;refine⟨_,?_,λhn=>(zU hn).symm⟩;unfold U7;rw[Wt (AD (A0 tk (tk h+1)) l) (fin:=Yb l h ((AD (A0 tk (tk h+1)) l:Nat):Int)) ?_ l.length hp λj h3 h4=> ?_]
 ·unfold Yb;rw[XF,UO,A7 (by omega),A7 (by simp only[BD,List.length_nil];omega),A7 (by omega),A7 (by simp only[Aw,List.length_nil];omega),A7 (by simp only[Aw,Bd];omega),A7 (by simp only[AP,BD,Aw,Bd];omega)]
 ·unfold iQ;by_cases h0:AD (A0 tk (tk h+1)) l=0
  ·rw[if_neg (by simp[h0])]
  ·have:=h2 (AD (A0 tk (tk h+1)) l-1) (by omega) (by omega);rw[if_pos (by simp;omega),K2 (by omega) (by omega),AN (show AD (A0 tk (tk h+1)) l-1<l.length by omega),Aa,if_neg (by simpa using this)]
 ·have:=h1 j h4 h3;unfold iQ;rw[if_pos (by simp),K2 (by omega) (by omega),show j+1-1=j by omega,AN h4,Aa,if_pos (by simpa using this)]
theorem zyE{l:List Ay}{t:Int}(hl:l.length<=1000):Vx l t=some (l.filter λh=>decide (hk h≠t)):=by
 unfold Vx;have:=(E9 (xs:=l) (body:=λs:List Ay × Int=>RE l t s.1 s.2) (λi s=>(s,i)) (λo h=>if hk h≠t then o++ [h]else o) (λo=>some o) (λi o=>o.length<=i)
  (λi hi o ho=>by
   constructor
   ·show RE l t o (i:Int)=_;unfold RE;rw[if_pos (by simpa using hi),AN hi,Aa,Bx (by omega)];by_cases hq:hk l[i]=t
    ·rw[if_neg (by simpa using hq),if_neg (by simpa using hq)]
    ·rw[if_pos (by simpa using hq),if_pos hq,A7 (by simp only[Bd];omega)]
   ·by_cases hq:hk l[i]=t
    ·rw[if_neg (by simpa using hq)];omega
    ·rw[if_pos hq];simp;omega)
  (λo ho=>by show RE l t o (l.length:Int)=_;unfold RE;rw[if_neg (by simp)]) (s:=[]) (by simp)).1
 refine this.trans ?_;have e:∀(l o:List Ay),l.foldl (λo h=>if hk h≠t then o++ [h]else o) o=o++l.filter λh=>decide (hk h≠t):=by
  intro l
  induction l with
  |nil=>intro o;simp
  |cons x l ih=>
   intro o;rw[List.foldl_cons,ih,List.filter_cons];by_cases hq:hk x=t
   ·simp[hq]
   ·simp[hq]
 rw[e];rfl
def Jc(a b:Ap):Prop:=bl b a=false
theorem zBw{a b c:Ap}(h1:Jc a b)(h2:Jc b c):Jc a c:=by
 unfold Jc at*;cases h:bl c a with
 |false=>rfl
 |true=>
  rcases WC a b with k|k|k
  ·have:=FV h k;rw[h2]at this;cases this
  ·subst k;rw[h2]at h;cases h
  ·rw[h1]at k;cases k
abbrev Ff(l:List Ap):Prop:=DQ (λs:Ap=>s) l
theorem zwo{zs:List Ap}(h:zs.Pairwise Jc):Ff (Lib.compact zs)/\ ∀y,y∈Lib.compact zs↔y∈zs:=by
 have get:∀j (hj:j<zs.length),(zs.toArray[j]!)=zs[j]:=λj hj=>by rw[getElem!_pos _ j (by simpa using hj)];simp
 have le:∀i j (hi:i<zs.length) (hj:j<zs.length),i<=j->Jc zs[i] zs[j]:=λi j hi hj Ew=>by
  rcases Nat.lt_or_ge i j with k|k
  ·exact(List.pairwise_iff_getElem.1 h) i j hi hj k
  ·have:i=j:=by omega
   subst this;exact Kk _
 unfold Lib.compact Lib.compactUpTo;constructor
 ·unfold Ff DQ;rw[List.pairwise_map];have hp:(List.range zs.length).Pairwise (· < ·):=List.pairwise_lt_range;have:=List.Pairwise.filter (Lib.keeps zs.toArray) hp;refine List.Pairwise.imp_of_mem ?_ this;intro i j hi hj Ew;have JL:=(List.mem_filter.1 hj).2;have HQ:j<zs.length:=by simpa using(List.mem_filter.1 hj).1
  have BF:zs[j]'HQ≠zs[j-1]'(by omega):=by
   unfold Lib.keeps at JL;simp only[AR]at JL;rcases JL with k|k
   ·omega
   ·rw[get j HQ,get (j-1) (by omega)]at k;exact k
  rw[get i (by omega),get j HQ];have h1:=le i (j-1) (by omega) (by omega) (by omega);have h2:=le (j-1) j (by omega) HQ (by omega);have h3:bl (zs[j-1]'(by omega)) (zs[j]'HQ)=true:=Si h2 BF;show bl (zs[i]'(by omega)) (zs[j]'HQ)=true;rcases WC (zs[i]'(by omega)) (zs[j-1]'(by omega))with k|k|k
  ·exact FV k h3
  ·rw[k];exact h3
  ·unfold Jc at h1;rw[h1]at k;cases k
 ·intro y;constructor
  ·intro hy;exact xZ zs y hy
  ·intro hy;obtain⟨i,hi,rfl⟩:=List.getElem_of_mem hy
   induction i using Nat.strongRecOn with
   |_ i ih=>
    by_cases hk:Lib.keeps zs.toArray i=true
    ·exact List.mem_map.2 ⟨i,List.mem_filter.2 ⟨by simpa using hi,hk⟩,get i hi⟩
    ·unfold Lib.keeps at hk;simp only[AR,not_or,Classical.not_not]at hk;have e:zs[i]=zs[i-1]'(by omega):=by
      have:=hk.2;rw[get i hi,get (i-1) (by omega)]at this;exact this
     rw[e];exact ih (i-1) (by omega) (by omega) (AF _)
def CV(k:Ap)(l:List Ap):List Ap:=FY (λs:Ap=>s) k l
theorem oN{k:Ap}:∀{A B:List Ap},(∀y∈A,bl y k=true)->(∀y∈B,bl k y=true)->CV k (A++B)=A++k::B/\CV k (A++k::B)=A++k::B
 | [],B,_,hB=>by
  unfold CV;constructor
  ·cases B with
   |nil=>rfl
   |cons b B=>rw[List.nil_append,FY,if_pos (hB b (by simp))];rfl
  ·rw[List.nil_append,FY,if_neg (by rw[Kk];simp),if_pos rfl]
 |a::A,B,hA,hB=>by
  obtain⟨p,q⟩:=oN (A:=A) (B:=B) (λy hy=>hA y (by simp[hy])) hB;have h1:=hA a (by simp);unfold CV at p q ⊢;constructor
  ·rw[List.cons_append,FY,if_neg (by rw[Nx h1];simp),if_neg (λe=>Ic h1 e.symm),p];rfl
  ·rw[List.cons_append,FY,if_neg (by rw[Nx h1];simp),if_neg (λe=>Ic h1 e.symm),q]
theorem VV{k:Ap}{l:List Ap}(h:Ff l):Ff (CV k l):=VT h
theorem zDF{k:Ap}{l:List Ap}(h:Ff l)(y:Ap):y∈CV k l↔y=k\/y∈l:=by
 unfold CV;rw[Nt h];constructor
 ·rintro(e|⟨e,_⟩)
  ·exact .inl e
  ·exact .inr e
 ·rintro(e|e)
  ·exact .inl e
  ·by_cases he:y=k
   ·exact .inl he
   ·exact .inr ⟨e,he⟩
theorem S3{l:List Ap}(h:l.length<=2000000):IH l=some l:=by unfold IH;rw[A7 (by rw[List.length_nil];omega)]
theorem aX{l:List Ap}{k:Ap}(hl:l.length<=1000)(hr:Ff l):Pl l k=some (CV k l):=by
 have fin:∀(A B:List Ap),A++B=l->(∀y∈A,bl y k=true\/y=k)->(∀y∈B,bl k y=true)->Rj l k (A.length:Int)=some (CV k l):=by
  intro A B e hA hB;subst e;rw[AP]at hl;have t1:A4 (A++B) (A.length:Int) (((A++B).length:Nat):Int)=B:=by unfold A4;rw[Bi,Bi,List.take_of_length_le (AJ _)];simp
  have t2:A4 (A++B) 0 (A.length:Int)=A:=by unfold A4;simp
  have put:(∀y∈A,bl y k=true)-> ∀(q:Option (List Ap)),q=some (CV k (A++B))->q=some (CV k (A++B)):=λ_ _ h=>h;have body:(∀y∈A,bl y k=true)->(AK (0<=(A.length:Int)/\(A.length:Int)<=(((A++B).length:Nat):Int)/\(((A++B).length:Nat):Int)<=(((A++B).length:Nat):Int))<|
   (IH (A4 (A++B) (A.length:Int) (((A++B).length:Nat):Int))).bind λv3=>
   AK (0<=(0:Int)/\(0:Int)<=(A.length:Int)/\(A.length:Int)<=(((A++B).length:Nat):Int))<|
   (IH (A4 (A++B) 0 (A.length:Int))).bind λv4=>
   AK ((((v4).length:Int)+(([k]:List (Ag)).length:Int))*16<=140737488355328/\((v4).length:Int)+(([k]:List (Ag)).length:Int)<=140737488355328)<|
   AK (((((v4++ [k])).length:Int)+((v3).length:Int))*16<=140737488355328/\(((v4++ [k])).length:Int)+((v3).length:Int)<=140737488355328)<|
   some ((v4++ [k])++v3))=some (CV k (A++B)):=by
   intro hA;rw[t1,t2,A7 (by rw[AP];omega),S3 (by omega),Aa,A7 (by rw[AP];omega),S3 (by omega),Aa,A7 (by rw[Bd];omega),A7 (by rw[AP,Bd];omega),(oN hA hB).1];simp
  unfold Rj;rcases List.eq_nil_or_concat A with rfl|⟨A',z,rfl⟩
  ·rw[if_neg (by simp)];exact body (by simp)
  ·have hz:=hA z (by simp);have eM:Ff (A'++ [z]):=DQ.sub hr (by rw[List.concat_eq_append];exact List.sublist_append_left _ _);have EP:∀y∈A',bl y z=true:=λy hy=>(List.pairwise_append.1 eM).2.2 y hy z (by simp);have hlen:(A'.concat z).length=A'.length+1:=by simp
   have w1:IntKind.i64.wrap ((((A'.concat z).length:Nat):Int)-1)=((A'.length:Nat):Int):=by rw[hlen,CD (by omega) (by omega)];omega
   have g1:Am (A'.concat z++B) ((A'.length:Nat):Int)=some z:=by unfold Am;rw[if_pos (by omega),Bi,List.concat_eq_append,List.append_assoc,List.getElem?_append_right (by omega)];simp
   rw[if_pos (by rw[AR,hlen];omega),w1,g1,Aa];by_cases he:z=k
   ·subst he;rw[if_pos (by simp)];have:=(oN (A:=A') (B:=B) EP hB).2;rw[List.concat_eq_append,List.append_assoc,List.singleton_append,this]
   ·rw[if_neg (by simpa using he)];have Us:bl z k=true:=by
     rcases hz with h|h
     ·exact h
     ·exact absurd h he
    refine body λy hy=> ?_;rw[List.concat_eq_append]at hy;rcases Ac.1 hy with hy|hy
    ·exact FV (EP y hy) Us
    ·rw[List.mem_singleton.1 hy];exact Us
 unfold Pl;have key:∀(n:Nat) (A B:List Ap),A.length=n->A++B=l->(∀y∈B,bl k y=true)->Au (λs:Int=>Kg l k s) (n:Int)=some (CV k l):=by
  intro n
  induction n with
  |zero=>
   intro A B hA e hB;have:A=[]:=List.length_eq_zero_iff.1 hA;subst this;have hb:Kg l k ((0:Nat):Int)=some (.inr (Rj l k ((([]:List Ap).length:Nat):Int))):=by unfold Kg;rw[if_neg (by simp)];rfl
   exact(Pu (body:=λs:Int=>Kg l k s) hb).trans (fin [] B e (by simp) hB)
  |succ n ih=>
   intro A B hA e hB;rcases List.eq_nil_or_concat A with rfl|⟨A',z,rfl⟩
   ·simp at hA
   ·rw[List.concat_eq_append]at hA e;have hn:A'.length=n:=by simpa using hA
    have w1:IntKind.i64.wrap (((n+1:Nat):Int)-1)=(n:Int):=by
     have:n+1<=1000:=by rw[<-e]at hl;simp at hl;omega
     rw[CD (by omega) (by omega)];omega
    have g1:Am l (n:Int)=some z:=by subst e;unfold Am;rw[if_pos (by omega),Bi,List.append_assoc,List.getElem?_append_right (by omega),hn];simp
    have eM:Ff (A'++ [z]):=DQ.sub hr (by rw[<-e];exact List.sublist_append_left _ _);have EP:∀y∈A',bl y z=true:=λy hy=>(List.pairwise_append.1 eM).2.2 y hy z (by simp);by_cases hz:(bl z k||z==k)=true
    ·have eb:Kg l k ((n+1:Nat):Int)=some (.inr (Rj l k ((n+1:Nat):Int))):=by
      unfold Kg;rw[if_pos (by rw[AR];omega),w1,g1,Aa,if_neg (by rw[show(Op.bytesLess z k||z==k)=true from hz];simp)]
     rw[Pu (body:=λs:Int=>Kg l k s) eb];have sG:bl z k=true\/z=k:=by simpa using hz
     have:=fin (A'++ [z]) B e (λy hy=>by
      rcases Ac.1 hy with hy|hy
      ·rcases sG with h|h
       ·exact .inl (FV (EP y hy) h)
       ·exact .inl (by rw[<-h];exact EP y hy)
      ·rw[List.mem_singleton.1 hy];exact sG) hB
     rw[AP,Bd,hn]at this;exact this
    ·rw[Bool.not_eq_true]at hz;have eb:Kg l k ((n+1:Nat):Int)=some (.inl (n:Int)):=by
      unfold Kg;rw[if_pos (by rw[AR];omega),w1,g1,Aa,if_pos (by rw[show(Op.bytesLess z k||z==k)=false from hz];simp)]
     rw[ZQ (body:=λs:Int=>Kg l k s) eb];have FJ:bl z k=false/\z≠k:=by simpa using hz
     refine ih A' (z::B) hn (by rw[<-e];simp) λy hy=> ?_;rcases Ae.1 hy with rfl|hy
     ·exact Si FJ.1 FJ.2
     ·exact hB y hy
 exact key l.length l [] rfl (by simp) (by simp)
theorem Nw:∀(ks o:List Ap),Ff o->Ff (ks.foldl (λo k=>CV k o) o)/\((∀y,y∈ks.foldl (λo k=>CV k o) o↔y∈ks\/y∈o)/\(ks.foldl (λo k=>CV k o) o).length<=ks.length+o.length)
 | [],o,h=>⟨h,by simp,by simp⟩
 |k::ks,o,h=>by
  obtain⟨a,b,c⟩:=Nw ks (CV k o) (VV h);refine⟨a,λy=> ?_,?_⟩
  ·rw[List.foldl_cons,b,zDF h];simp only[Ae];constructor
   ·rintro(x|x|x)
    ·exact .inl (.inr x)
    ·exact .inl (.inl x)
    ·exact .inr x
   ·rintro((x|x)|x)
    ·exact .inr (.inl x)
    ·exact .inl x
    ·exact .inr (.inr x)
  ·have:=aA (key:=λs:Ap=>s) (x:=k) o;unfold CV at c;rw[List.foldl_cons,A3];unfold CV;omega
theorem fX:∀a b:Ap,bl a b=true↔a<b
 | [],[]=>by simp[bl,Op.bytesLess]
 | [],_::_=>by simp[bl,Op.bytesLess]
 |_::_,[]=>by simp[bl,Op.bytesLess]
 |x::a,y::b=>by rw[aP,List.cons_lt_cons_iff,fX a b,UInt8.lt_iff_toNat_lt]
theorem zGj(a b:Ap):a<=b↔Jc a b:=by
 unfold Jc;constructor
 ·intro h;cases hb:bl b a with
  |false=>rfl
  |true=>exact absurd ((fX b a).1 hb) (List.not_lt.2 h)
 ·intro h;rw[<-List.not_lt];intro hl;rw[(fX b a).2 hl]at h;cases h
theorem zvx(xs:List Ap):(GB xs).Pairwise Jc:=by
 have h:=List.pairwise_mergeSort (le:=λx y:Ap=>decide (x<=y)) (λa b c h1 h2=>by
   simp only[AR]at h1 h2 ⊢;exact List.le_trans h1 h2)
  (λa b=>by simp only[Bool.or_eq_true,AR];exact List.le_total a b) xs
 refine List.Pairwise.imp (λ{a b} h=> ?_) h;exact(zGj a b).1 (of_decide_eq_true h)
theorem w8{xs zs:List Ap}(hz:Ff zs)(h:∀y,y∈zs↔y∈xs):Lib.compact (GB xs)=zs:=by obtain⟨h1,h2⟩:=zwo (zvx xs);refine DQ.ext h1 hz λy=> ?_;rw[h2,h,(yT xs).mem_iff]
theorem mL{α β:Type}(q:α->Bool)(f:α->List β):∀(xs:List α) (acc:List β),xs.foldlM (m:=Option) (λacc x=>if q x=true then none else some (acc++f x)) acc=if xs.any q=true then none else some (acc++xs.flatMap f)
 | [],acc=>by simp
 |x::xs,acc=>by
  rw[List.foldlM_cons,List.any_cons];by_cases hq:q x=true
  ·rw[if_pos hq,hq];rfl
  ·rw[if_neg hq];show xs.foldlM _ (acc++f x)=_;rw[mL q f xs (acc++f x)];simp[hq,List.append_assoc]
theorem xB{α σ:Type}(q:α->Bool)(f:σ->α->σ):∀(xs:List α) (acc:σ),xs.foldlM (m:=Option) (λacc x=>if q x=true then none else some (f acc x)) acc=if xs.any q=true then none else some (xs.foldl f acc)
 | [],acc=>by simp
 |x::xs,acc=>by
  rw[List.foldlM_cons,List.any_cons];by_cases hq:q x=true
  ·rw[if_pos hq,hq];rfl
  ·rw[if_neg hq];show xs.foldlM _ (f acc x)=_;rw[xB q f xs (f acc x)];simp[hq]
def GA(l:List Aj)(w:An):Bool:=match Es l w.ah with|some c=>decide (16<=c.ay.length)|none=>false
def HH(h:Ay):Prop:=h.ak.length<=8/\(h.ab.length<=8/\Jm h.ab)
def Ee(w:An):Ap:=w.ah
def Dk(hs:List Ay):List An:=hs.flatMap (·.ab)
def FW(l:List Aj)(ws:List An):List Ap:=l.map ck++ws.map Ee
def Ie(l:List Aj)(ws:List An):Bool:= !(ws.any (GA l))&&decide (((FW l ws).foldl (λo k=>CV k o) []).length<=24)
theorem nS:∀{hs:List Ay},(∀h∈hs,HH h)->(Dk hs).length<=8*hs.length
 | [],_=>by simp[Dk]
 |h::hs,ho=>by have h1:=(ho h (by simp)).2.1;have h2:=nS (hs:=hs) λx hx=>ho x (by simp[hx]);unfold Dk at h2 ⊢;rw[List.flatMap_cons,AP,A3];omega
theorem pZ{s:Ai}{hs:List Ay}(h:Dx 24 s.aj)(hl:hs.length<=60)(ho:∀h∈hs,HH h):U3 s hs=some (decide (hs.length<=12)&&Ie s.aj (Dk hs)):=by
 obtain⟨hr,Ax,hc⟩:=h;unfold U3;have l1:=(E9 (xs:=s.aj) (body:=λz:Int × List Ap=>QI s hs z.1 z.2) (λi z=>(i,z)) (λo c=>o++ [ck c]) (λo=>iC s hs o) (λi o=>o.length=i)
  (λi hi o hol=>by refine⟨?_,by simp[hol]⟩;show QI s hs (i:Int) o=_;unfold QI;rw[if_pos (by simpa using hi),AN hi,Aa,A7 (by simp only[Bd];omega),Bx (by omega)])
  (λo hol=>by show QI s hs (s.aj.length:Int) o=_;unfold QI;rw[if_neg (by simp)]) (s:=[]) rfl).1
 refine l1.trans ?_;have e1:=foldl_map ck s.aj [];rw[e1,List.nil_append];unfold iC;have inner:∀(i:Nat) (y:Ay) (acc:List Ap),HH y->acc.length<=1000->i<=100->Nd s hs (i:Int) acc=Nd s hs (i:Int) acc->Au (λz:Int × List Ap=>O6 s (i:Int) y z.1 z.2) (0,acc)=some (if y.ab.any (GA s.aj)=true then .inr (some false)else .inl (((i+1:Nat):Int),acc++y.ab.map Ee)):=by
  intro i y acc hy ha hi _;have hy8:=hy.2.1;have key:=Su (xs:=y.ab) (body:=λz:Int × List Ap=>O6 s (i:Int) y z.1 z.2) (λj z=>((j:Int),z)) (λacc w=>if GA s.aj w=true then none else some (acc++ [Ee w])) (some (.inr (some false))) (λz=>XW (i:Int) z) (λj z=>z.length<=1000+j)
   (λj z hj hz=>by
    refine⟨?_,λa ha=> ?_⟩
    ·show O6 s (i:Int) y (j:Int) z=_;unfold O6;rw[if_pos (by simpa using hj),AN hj,Aa,oR (by omega) hr,Aa,Bx (by omega)];unfold GA;rcases VJ hr y.ab[j].ah with⟨hp,hk,hf⟩|⟨_,hf,_⟩
     ·rw[hf];simp only[Option.isSome_some,if_true];rw[AN hp,Aa];by_cases Tg:16<=(s.aj[Bo s.aj y.ab[j].ah]).ay.length
      ·rw[if_pos (by simp;omega),if_pos (by simpa using Tg)]
      ·rw[if_neg (by simp;omega),if_neg (by simpa using Tg),A7 (by simp only[Bd];omega)];rfl
     ·rw[hf];simp only[Option.isSome_none,AS,if_false];rw[A7 (by simp only[Bd];omega)];rfl
    ·split at ha
     ·cases ha
     ·cases ha;simp;omega)
   (λz _=>by show O6 s (i:Int) y (y.ab.length:Int) z=_;unfold O6;rw[if_neg (by simp)]) acc (by omega)
  refine key.trans ?_;rw[mL];by_cases hq:y.ab.any (GA s.aj)=true
  ·rw[if_pos hq,if_pos hq]
  ·rw[if_neg hq,if_neg hq];show XW (i:Int) _=_;unfold XW;rw[Bx (by omega)];have e:∀l:List An,(l.flatMap λw=> [Ee w])=l.map Ee:=λl=>by induction l with|nil=>rfl|cons x l ih=>rw[List.flatMap_cons,ih];rfl
   rw[e]
 have key:=Su (xs:=hs) (body:=λz:Int × List Ap=>Nd s hs z.1 z.2) (λj z=>((j:Int),z)) (λacc y=>if y.ab.any (GA s.aj)=true then none else some (acc++y.ab.map Ee)) (some false) (λz=>XT hs z) (λj z=>z.length<=24+8*j)
  (λj z hj hz=>by
   have hy:=ho _ (AF hj);refine⟨?_,λa ha=> ?_⟩
   ·show Nd s hs (j:Int) z=_;have:=inner j hs[j] z hy (by omega) (by omega) rfl;unfold Nd;rw[if_pos (by simpa using hj),AN hj,Aa];refine this.trans ?_;split<;>rfl
   ·split at ha
    ·cases ha
    ·cases ha;have:=hy.2.1;rw[AP,List.length_map];omega)
  (λz _=>by show Nd s hs (hs.length:Int) z=_;unfold Nd;rw[if_neg (by simp)]) (s.aj.map ck) (by simp;omega)
 refine key.trans ?_;rw[mL (λy:Ay=>y.ab.any (GA s.aj)) (λy=>y.ab.map Ee)];have ea:(hs.any λy=>y.ab.any (GA s.aj))=(Dk hs).any (GA s.aj):=by unfold Dk;rw[List.any_flatMap]
 have eb:(hs.flatMap λy=>y.ab.map Ee)=(Dk hs).map Ee:=by unfold Dk;rw[List.map_flatMap]
 rw[ea,eb];unfold Ie;by_cases hq:(Dk hs).any (GA s.aj)=true
 ·rw[if_pos hq,hq];simp
 ·rw[if_neg hq];have Iz:=nS ho;show XT hs _=_;unfold XT QB QA;rw[A7 (by rw[AP,List.length_map,List.length_map];omega),Aa];obtain⟨g1,g2,_⟩:=Nw (FW s.aj (Dk hs)) [] List.Pairwise.nil;have e:=w8 (xs:=s.aj.map ck++(Dk hs).map Ee) g1 λy=>by rw[g2];simp[FW]
  by_cases FJ:hs.length<=12
  ·rw[if_pos (by simp;omega),Aa];show some (decide (((Lib.compact (GB (s.aj.map ck++(Dk hs).map Ee))).length:Int)<=24))=_;rw[e];simp[hq,FJ];omega
  ·rw[if_neg (by simp;omega)];simp[FJ]
theorem aB(k:Ap)(l:List Ap):(CV k l).length<=l.length+1:=aA l
theorem pO{s:Ai}{ws:List An}(h:Dx 24 s.aj)(hl:s.ae.length<=12)(ho:∀h∈s.ae,HH h)(hw:ws.length<=8):Vv s ws=some (Ie s.aj (ws++Dk s.ae)):=by
 obtain⟨hr,Ax,hc⟩:=h;unfold Vv;have l1:=E9 (xs:=s.aj) (body:=λz:List Ap × Int=>RF s ws z.1 z.2) (λi z=>(z,i)) (λo c=>CV (ck c) o) (λo=>iY s ws o) (λi o=>Ff o/\o.length<=i)
  (λi hi o hol=>by have hn:=aB (ck s.aj[i]) o;refine⟨?_,VV hol.1,by omega⟩;show RF s ws o (i:Int)=_;unfold RF;rw[if_pos (by simpa using hi),AN hi,Aa,aX (by omega) hol.1,Aa,Bx (by omega)])
  (λo hol=>by show RF s ws o (s.aj.length:Int)=_;unfold RF;rw[if_neg (by simp)]) (s:=[]) ⟨List.Pairwise.nil,by simp⟩
 refine l1.1.trans ?_;obtain⟨r1,r2⟩:=l1.2;unfold iY;rw[A7 (by simp only[List.length_nil];omega)];have l2:=(E9 (xs:=s.ae) (body:=λz:Int × List An=>RJ s (s.aj.foldl (λo c=>CV (ck c) o) []) z.1 z.2) (λi z=>(i,z)) (λo y=>o++y.ab) (λo=>iZ s (s.aj.foldl (λo c=>CV (ck c) o) []) o) (λi o=>o.length<=8+8*i)
  (λi hi o hol=>by have hy:=(ho _ (AF hi)).2.1;refine⟨?_,by rw[AP];omega⟩;show RJ s _ (i:Int) o=_;unfold RJ;rw[if_pos (by simpa using hi),AN hi,Aa,A7 (by omega),Bx (by omega)])
  (λo hol=>by show RJ s _ (s.ae.length:Int) o=_;unfold RJ;rw[if_neg (by simp)]) (s:=ws) (by omega)).1
 refine l2.trans ?_;have eh:∀(hs:List Ay) (o:List An),hs.foldl (λo y=>o++y.ab) o=o++Dk hs:=by
  intro hs
  induction hs with
  |nil=>intro o;simp[Dk]
  |cons x hs ih=>intro o;rw[List.foldl_cons,ih];simp[Dk]
 rw[eh];have hhl:=nS ho;unfold iZ;have key:=Su (xs:=ws++Dk s.ae) (body:=λz:List Ap × Int=>Rx s (ws++Dk s.ae) z.1 z.2) (λi z=>(z,(i:Int))) (λacc w=>if GA s.aj w=true then none else some (CV (Ee w) acc)) (some false) (λz=>Yo z) (λi z=>Ff z/\z.length<=24+i)
  (λi z hi hz=>by
   have BR:=hi;rw[AP]at BR;refine⟨?_,λa ha=> ?_⟩
   ·show Rx s (ws++Dk s.ae) z (i:Int)=_;unfold Rx;rw[if_pos (by simp only[AR];omega),AN hi,Aa,aX (by omega) hz.1,Aa,Bx (by omega)];unfold GA;obtain⟨j,e,⟨h1,h2⟩|⟨h1,c,h2,h3⟩⟩:=tU (l:=s.aj) (k:=(ws++Dk s.ae)[i].ah) (by omega) hr
    ·rw[e,Aa,if_neg (by simpa using h1),h2];rfl
    ·rw[e,Aa,if_pos (by simpa using h1),h2,Aa,h3];by_cases Tg:16<=c.ay.length
     ·rw[if_pos (by simp;omega),if_pos (by simpa using Tg)]
     ·rw[if_neg (by simp;omega),if_neg (by simpa using Tg)];rfl
   ·split at ha
    ·cases ha
    ·cases ha;have hn:=aB (Ee (ws++Dk s.ae)[i]) z;exact⟨VV hz.1,by omega⟩)
  (λz _=>by show Rx s (ws++Dk s.ae) z ((ws++Dk s.ae).length:Int)=_;unfold Rx;rw[if_neg (by simp)]) (s.aj.foldl (λo c=>CV (ck c) o) []) ⟨r1,by omega⟩
 refine key.trans ?_;rw[xB (GA s.aj) (λacc w=>CV (Ee w) acc)];unfold Ie;by_cases hq:(ws++Dk s.ae).any (GA s.aj)=true
 ·rw[if_pos hq,hq];simp
 ·rw[if_neg hq];show Yo _=_;unfold Yo FW;have e:(s.aj.map ck++(ws++Dk s.ae).map Ee).foldl (λo k=>CV k o) []=(ws++Dk s.ae).foldl (λacc w=>CV (Ee w) acc) (s.aj.foldl (λo c=>CV (ck c) o) []):=by
   rw[List.foldl_append,List.foldl_map (f:=ck),List.foldl_map (f:=Ee)]
  rw[e,Bool.eq_false_iff.2 hq];simp only[Bool.not_false,Bool.true_and,Ad,decide_eq_decide];omega
theorem zze(l:List Aj)(a b:List An):Ie l (a++b)=Ie l (b++a):=by
 unfold Ie;have e:(FW l (a++b)).foldl (λo k=>CV k o) []=(FW l (b++a)).foldl (λo k=>CV k o) []:=by obtain⟨g1,g2,_⟩:=Nw (FW l (a++b)) [] List.Pairwise.nil;obtain⟨g3,g4,_⟩:=Nw (FW l (b++a)) [] List.Pairwise.nil;refine DQ.ext g1 g3 λy=> ?_;rw[g2,g4];simp[FW,or_comm]
 rw[e,List.any_append,List.any_append,Bool.or_comm]
end
end Go.Proofs.YtalagilebkaegaaGreat

/- Parts of a proof, joined: QF2, QF3, QF4, QF5, QF6, QR, OZ, NA, ND, NE, N5, N6, N7, N8, N9, N10, N11, N12, N13, N14, N15, N16, PK, NK, NP, NQ, NX. -/
import Derived.Test.YtbmbkgalkfmjdaaGreatDoorY8
set_option linter.unusedVariables false
set_option linter.unusedSimpArgs false
noncomputable section
namespace Go.Proofs.YtbmbkgalkfmjdaaGreatDoor
open Go.RowKit
set_option maxRecDepth 100000
set_option maxHeartbeats 4000000
def zcM:FS:=DJ 232 [.v (.l (.st 0)), .fn [.st 0] .b] (.v (.i .i64)) (fun x=>Ff x.1 (fun y=>x.2.1.φ (y,()))) fun x r hp h=>FA (f:=232) (t:=QJ 3) (by kernel_rfl) (by kernel_rfl) (Xb (av:=(By tab.av (.st 0))) (cn:=3) (fun _=>⟨_,rfl,rfl⟩) h (fun y b hb=>hp.2.1 (y,()) b hb))
def zcp:FS:=DJ 149 [.v (.l (.st 0)), .fn [.st 0] .b] (.v .b) (fun x=>FP x.1 (fun y=>x.2.1.φ (y,()))) fun x r hp h=>FA (f:=149) (t:=QO 232) (by kernel_rfl) (by kernel_rfl) (Xf h fun r hr=>zcM.ok x r hp hr)
def zuE:FS:=Am 279 [.v .s] (.v .b) (fun x=>aA x.1) [nZ] []
def zt2:FS:=Am 231 [.v .s, .v .b] (.v .b) (fun x=>ZD x.1 x.2.1) [zuE] []
def zpp:FS:=Am 230 [.v (.st 0)] (.v .b) (fun x=>Zl x.1) [zt2] []
def zon:FS:=II zpp fun _=>by kernel_rfl
def zqt:FS:=Am 148 [.v (.l (.st 0))] (.v .b) (fun x=>Zp x.1) [zrT,zrR,zcp,zon] []
def ztC:FS:=Am 150 [.v (.st 0)] (.v .b) (fun x=>Zy x.1) [] []
def zr0:FS:=II ztC fun _=>by kernel_rfl
def zwp:FS:=Am 68 [.v (.l (.st 0))] (.v .b) (fun x=>aY x.1) [zqt,zcp,zr0] []
def zfK:FS:=DJ 163 [.v (.l (.st 3)), .fn [.st 3] .b] (.v (.i .i64)) (fun x=>Ff x.1 (fun y=>x.2.1.φ (y,()))) fun x r hp h=>FA (f:=163) (t:=QJ 3) (by kernel_rfl) (by kernel_rfl) (Xb (av:=(By tab.av (.st 3))) (cn:=3) (fun _=>⟨_,rfl,rfl⟩) h (fun y b hb=>hp.2.1 (y,()) b hb))
def ze0:FS:=DJ 77 [.v (.l (.st 3)), .fn [.st 3] .b] (.v .b) (fun x=>FP x.1 (fun y=>x.2.1.φ (y,()))) fun x r hp h=>FA (f:=77) (t:=QO 163) (by kernel_rfl) (by kernel_rfl) (Xf h fun r hr=>zfK.ok x r hp hr)
def zq7:FS:=Am 219 [.v .s, .v (.i .i64)] (.v .b) (fun x=>Sy x.1 x.2.1) [Kq] [.sp [.i .i64]]
def zi9:FS:=Am 200 [.v (.l .s), .v .s] (.v (.i .i64)) (fun x=>YK x.1 x.2.1) [] [.sp [.i .i64]]
def lN:FS:=Am 107 [.v (.l .s), .v .s] (.v .b) (fun x=>PJ x.1 x.2.1) [zi9] []
def zui:FS:=Am 55 [.v (.i .i64)] (.v .b) (fun x=>oH x.1) [Kq] []
def zrM:FS:=Am 130 [.v (.st 3)] (.v .b) (fun x=>ZE x.1) [zq7,Kq,zui,lN] [.sp [.i .i64], .sp [.i .i64]]
def zgO:FS:=DJ 220 [.v (.l (.st 2)), .fn [.st 2] .b] (.v (.i .i64)) (fun x=>Ff x.1 (fun y=>x.2.1.φ (y,()))) fun x r hp h=>FA (f:=220) (t:=QJ 3) (by kernel_rfl) (by kernel_rfl) (Xb (av:=(By tab.av (.st 2))) (cn:=3) (fun _=>⟨_,rfl,rfl⟩) h (fun y b hb=>hp.2.1 (y,()) b hb))
def zl0:FS:=Am 221 [.v (.st 2), .rf .s] (.v .b) (fun x=>lQ x.1 x.2.1) [] []
def zlI:FS:=II zl0 fun _=>by kernel_rfl
def mI:FS:=Am 131 [.v (.st 3), .v .s] (.v (.i .i64)) (fun x=>R0 x.1 x.2.1) [zgO,zlI] []
def zvZ:FS:=Am 54 [.v (.st 3), .v .s] (.v .b) (fun x=>aX x.1 x.2.1) [zrM,mI] []
def zqj:FS:=Am 78 [.v (.st 3), .rf (.st 5)] (.v .b) (fun x=>nF x.1 x.2.1) [zvZ] []
def zpl:FS:=II zqj fun _=>by kernel_rfl
def zj0:FS:=DJ 164 [.v (.l (.i .i64)), .fn [.i .i64] .b] (.v (.i .i64)) (fun x=>Ff x.1 (fun y=>x.2.1.φ (y,()))) fun x r hp h=>FA (f:=164) (t:=Yc) (by kernel_rfl) (by kernel_rfl) (wV (av:=(By tab.av (.i .i64))) (fun _=>rfl) h (fun y b hb=>hp.2.1 (y,()) b hb))
def ziD:FS:=DJ 79 [.v (.l (.i .i64)), .fn [.i .i64] .b] (.v .b) (fun x=>FP x.1 (fun y=>x.2.1.φ (y,()))) fun x r hp h=>FA (f:=79) (t:=QO 164) (by kernel_rfl) (by kernel_rfl) (Xf h fun r hr=>zj0.ok x r hp hr)
def zpV:FS:=Am 80 [.v (.i .i64), .rf (.st 5)] (.v .b) (fun x=>nH x.1 x.2.1) [Kq] []
def zpu:FS:=II zpV fun _=>by kernel_rfl
def nE:FS:=Am 132 [.v (.st 3), .v .s] (.v (.st 2)) (fun x=>NQ x.1 x.2.1) [mI] []
def Y9:FS:=Am 82 [.v (.st 5), .v (.st 3)] (.v (.i .i64)) (fun x=>Kn x.1 x.2.1) [nE] []
def ze3:FS:=DJ 222 [.v (.l .s)] (.v (.l .s)) (fun x=>Vt x.1) fun x r hp h=>FA (f:=222) (t:=TU 16 1) (by kernel_rfl) (by kernel_rfl) (cR (bytes:=16) (sz:=1) (av:=(By tab.av .s)) (fun x=>⟨Lg _ x,NW (by kernel_rfl) x⟩) h)
def zhI:FS:=DJ 223 [.v (.l (.st 2))] (.v (.l (.st 2))) (fun x=>lO x.1) fun x r hp h=>FA (f:=223) (t:=TU 32 3) (by kernel_rfl) (by kernel_rfl) (cR (bytes:=32) (sz:=3) (av:=(By tab.av (.st 2))) (fun x=>⟨Lg _ x,NW (by kernel_rfl) x⟩) h)
def nS:FS:=Am 133 [.v (.st 3)] (.v (.st 3)) (fun x=>Sp x.1) [ze3,zhI] []
def zlU:FS:=Am 134 [.v (.st 3), .v .s, .v (.i .i64)] (.v (.st 3)) (fun x=>Vw x.1 x.2.1 x.2.2.1) [nS,mI] []
def zoj:FS:=Am 56 [.v (.st 3), .v .s, .v (.i .i64)] (.v (.l (.st 3))) (fun x=>Y0 x.1 x.2.1 x.2.2.1) [nE,nS,zlU] [.sp [.i .i64, .l (.st 3)], .inl]
def zcu:FS:=Am 81 [.v (.l (.st 3)), .v (.l (.st 3)), .fn [.st 3, .st 3] .b] (.v .b) (fun x=>YI x.1 x.2.1 (fun y0 y1=>x.2.2.1.φ (y0,y1,()))) [] [.sp [.i .i64]]
def zi8:FS:=Am 165 [.v (.l .s), .v (.l .s)] (.v .b) (fun x=>YJ x.1 x.2.1) [] [.sp [.i .i64]]
def zhE:FS:=Am 166 [.v (.l (.st 2)), .v (.l (.st 2))] (.v .b) (fun x=>YN x.1 x.2.1) [] [.sp [.i .i64]]
def zrQ:FS:=Am 83 [.v (.st 3), .v (.st 3)] (.v .b) (fun x=>NN x.1 x.2.1) [zi8,zhE] []
def zqs:FS:=II zrQ fun _=>by kernel_rfl
def nT:FS:=Am 20 [.v (.st 5)] (.v .b) (fun x=>P1 x.1) [Kq,zwp,ze0,zpl,ziD,zpu,Y9,zoj,zcu,zqs] []
def lK:FS:=DJ 86 [.v (.l (.st 0))] (.v (.l (.st 0))) (fun x=>PK x.1) fun x r hp h=>FA (f:=86) (t:=TU 40 3) (by kernel_rfl) (by kernel_rfl) (cR (bytes:=40) (sz:=3) (av:=(By tab.av (.st 0))) (fun x=>⟨Lg _ x,NW (by kernel_rfl) x⟩) h)
def VE:FS:=Am 241 [.v (.st 5), .v (.i .i64)] (.v (.st 3)) (fun x=>GN x.1 x.2.1) [] []
def zo1:FS:=Am 169 [.v (.st 5)] (.v (.i .i64)) (fun x=>Ze x.1) [VE,Y9] [.sp [.i .i64, .i .i64], .inl]
def ziG:FS:=Am 201 [.v (.st 3), .v .s] (.v .s) (fun x=>Vu x.1 x.2.1) [] []
def ziC:FS:=Am 312 [.v .s, .v .s] (.v .b) (fun x=>YM x.1 x.2.1) [] []
def ziF:FS:=Am 291 [.v .s, .v .s] (.tu (.cons (.v .s) (.cons (.v .b) .nil))) (fun x=>lL x.1 x.2.1) [ziC] []
def zkJ:FS:=Am 261 [.v .s, .v .s] (.tu (.cons (.v .s) (.cons (.v .b) .nil))) (fun x=>VP x.1 x.2.1) [ziF] []
def zk3:FS:=Am 292 [.v .s, .v .s] (.tu (.cons (.v .s) (.cons (.v .s) (.cons (.v .b) .nil)))) (fun x=>YO x.1 x.2.1) [zgi] []
def zwr:FS:=Am 262 [.v .s, .v .s] (.tu (.cons (.v .s) (.cons (.v .s) (.cons (.v .b) .nil)))) (fun x=>SN x.1 x.2.1) [zk3] []
def zoy:FS:=Am 263 [.v .s] (.v .b) (fun x=>SU x.1) [Kq,nZ] []
def zlm:FS:=Am 196 [.v (.st 3), .v .s, .v .s] (.tu (.cons (.v .s) (.cons (.v .s) (.cons (.v .b) .nil)))) (fun x=>YW x.1 x.2.1 x.2.2.1) [ziG,zkJ,zwr,zoy] []
def RM:FS:=Am 102 [.v (.st 3), .v .s, .v (.l (.st 0))] (.v (.l .s)) (fun x=>K1 x.1 x.2.1 x.2.2.1) [zlm] [.sp [.i .i64, .l .s], .inl]
def zsV:FS:=Am 316 [.v .s, .v .s] (.v (.i .i64)) (fun x=>Zv x.1 x.2.1) [zgi] []
def zpy:FS:=Am 293 [.v .s, .v .s, .v (.i .i64), .v (.i .i64)] (.v (.l .s)) (fun x=>mK x.1 x.2.1 x.2.2.1 x.2.2.2.1) [zqG,zsV,zsZ] [.pt, .sp [.s, .i .i64, .l .s]]
def zs8:FS:=Am 264 [.v .s, .v .s] (.v (.l .s)) (fun x=>V7 x.1 x.2.1) [zpy] []
def zem:FS:=DJ 202 [.v (.l .s), .fn [.s] .b] (.v (.i .i64)) (fun x=>Ff x.1 (fun y=>x.2.1.φ (y,()))) fun x r hp h=>FA (f:=202) (t:=Yc) (by kernel_rfl) (by kernel_rfl) (wV (av:=(By tab.av .s)) (fun _=>rfl) h (fun y b hb=>hp.2.1 (y,()) b hb))
def zdC:FS:=DJ 109 [.v (.l .s), .fn [.s] .b] (.v .b) (fun x=>FP x.1 (fun y=>x.2.1.φ (y,()))) fun x r hp h=>FA (f:=109) (t:=QO 202) (by kernel_rfl) (by kernel_rfl) (Xf h fun r hr=>zem.ok x r hp hr)
def zm3:FS:=Am 278 [.v .s] (.v .b) (fun x=>Y8 x.1) [zoy] []
def zmm:FS:=II zm3 fun _=>by kernel_rfl
def zj8:FS:=Am 227 [.v (.st 3), .v (.st 4)] (.v .b) (fun x=>NJ x.1 x.2.1) [zdC,zmm] []
def Vy:FS:=Am 106 [.v (.st 3), .v (.st 4)] (.v (.st 0)) (fun x=>Mf x.1 x.2.1) [zuu] []
def zm4:FS:=Am 198 [.v (.st 3), .v (.st 0)] (.tu (.cons (.v (.st 4)) (.cons (.v .b) .nil))) (fun x=>Zb x.1 x.2.1) [zkJ,zs8,zj8,Vy] []
def mJ:FS:=Am 104 [.v (.st 3), .v (.l (.st 0))] (.v (.l (.st 4))) (fun x=>PL x.1 x.2.1) [zm4] [.sp [.i .i64, .l (.st 4)], .inl]
def Y5:FS:=Am 108 [.v (.st 3), .v .s, .v (.st 4)] (.v .s) (fun x=>Ko x.1 x.2.1 x.2.2.1) [ziG,nE] []
def zjH:FS:=Am 176 [.v (.st 3), .v .s, .v (.l (.st 0))] (.v (.l .s)) (fun x=>VJ x.1 x.2.1 x.2.2.1) [mJ,Y5] [.sp [.i .i64, .l .s]]
def zhb:FS:=DJ 246 [.v (.l .s), .fn [.s] .b] (.v (.l .s)) (fun x=>Jr x.1 (fun y=>x.2.1.φ (y,()))) fun x r hp h=>FA (f:=246) (t:=Yq 202 1 false (.fld (.idx (.var 5) (.var 4)) 0 1 false) [] (.str (ByteArray.mk #[]))) (by kernel_rfl) (by kernel_rfl) (xX (av:=(By tab.av .s)) (fun x=>⟨Lg _ x,NW (by kernel_rfl) x,(fun e=>nomatch e),fun _=>rfl⟩) (by decide) (fun a b c d j ys x tl hj=>by simp [AV.nth,hj,By,L8]) (fun a b c d j ys x hj=>by simp [AV.nth,hj,By,L8]) h (fun i hi=>zem.ok x i hp hi) (fun y b hb=>hp.2.1 (y,()) b hb))
def zrW:FS:=Am 247 [.v .s, .rf (.l .s)] (.v .b) (fun x=>nK x.1 x.2.1) [lN] []
def zqv:FS:=II zrW fun _=>by kernel_rfl
def zow:FS:=Am 175 [.v (.l .s), .v (.l .s)] (.v (.l .s)) (fun x=>V5 x.1 x.2.1) [ze3,zhb,zqv] []
def zlN:FS:=Am 156 [.v (.st 3), .v .s, .v (.l (.st 0))] (.v (.l .s)) (fun x=>YZ x.1 x.2.1 x.2.2.1) [RM,zjH,zow] []
def zm6:FS:=Am 90 [.v (.st 3), .v .s, .v (.l (.st 0))] (.v (.l .s)) (fun x=>mH x.1 x.2.1 x.2.2.1) [zjH,RM,zow] []
def zm2:FS:=Am 72 [.v (.st 3), .v .s, .v (.i .i64), .v (.l (.st 0))] (.v .b) (fun x=>Za x.1 x.2.1 x.2.2.1 x.2.2.2.1) [RM,zlN,zm6] []
def zjG:FS:=Am 88 [.v (.st 5)] (.v .b) (fun x=>R1 x.1) [zo1,zm2] []
def zvT:FS:=Am 24 [.v (.st 5)] (.tu (.cons (.v .b) (.cons (.v .b) .nil))) (fun x=>Qa x.1) [nT,zjG] []
def ztD:FS:=Am 117 [.v (.st 6)] (.v .b) (fun x=>Wa x.1) [zoB] []
def oB:FS:=Am 40 [.v (.st 7)] (.v .b) (fun x=>K4 x.1) [nT,ztD] []
def zmT:FS:=Am 147 [.v (.st 3), .v (.st 8)] (.v .b) (fun x=>YT x.1 x.2.1) [zj8] []
def zpI:FS:=Am 184 [.v (.st 8)] (.v .b) (fun x=>Wc x.1) [] []
def zlx:FS:=Am 177 [.v (.st 5), .v (.st 9)] (.v .b) (fun x=>YY x.1 x.2.1) [Kq,VE,zmT,zpI] []
def zmG:FS:=Am 97 [.v (.st 7), .v (.st 10)] (.v .b) (fun x=>VA x.1 x.2.1) [zlx,Kq,zpI] [.pt]
def zls:FS:=DJ 252 [.v (.l (.i .i64))] (.v (.l (.i .i64))) (fun x=>lT x.1) fun x r hp h=>FA (f:=252) (t:=TU 8 1) (by kernel_rfl) (by kernel_rfl) (cR (bytes:=8) (sz:=1) (av:=(By tab.av (.i .i64))) (fun x=>⟨Lg _ x,NW (by kernel_rfl) x⟩) h)
def zmZ:FS:=Am 183 [.v (.st 5)] (.v (.st 5)) (fun x=>VU x.1) [zls,lK,nS] [.sp [.i .i64, .l (.st 3)]]
def nX:FS:=Am 96 [.v (.st 7)] (.v (.st 7)) (fun x=>SI x.1) [zmZ] []
def zmR:FS:=Am 153 [.v (.i .i64), .v (.st 0), .rf (.l (.st 11))] (.tu (.cons (.tu .nil) (.cons (.bo (.l (.st 11))) .nil))) (fun x=>K2 x.1 x.2.1 x.2.2.1) [] []
def zut:FS:=Am 154 [.v (.i .i64)] (.v .b) (fun x=>oJ x.1) [] []
def oL:FS:=Am 155 [.v (.i .i64)] (.v .b) (fun x=>NR x.1) [] []
def znA:FS:=Am 70 [.v (.st 3), .v (.st 8)] (.v (.l (.st 11))) (fun x=>Y3 x.1 x.2.1) [oL,zmR,zut,Y5,Vy] [.sp [.s, .s, .b, .l (.st 11)], .pt, .pt, .sp [.i .i64, .l (.st 11)], .inl, .sp [.s], .pt, .pt]
def zdr:FS:=Am 303 [.v (.l (.st 0)), .v .s, .fn [.st 0, .s] (.i .i64)] (.tu (.cons (.v (.i .i64)) (.cons (.v .b) .nil))) (fun x=>lI x.1 x.2.1 (fun y0 y1=>x.2.2.1.φ (y0,y1,()))) [] [.sp [.i .i64, .i .i64]]
def zoW:FS:=Am 322 [.v .s] (.v .b) (fun x=>VO x.1) [] []
def znd:FS:=Am 305 [.v .s, .v .s] (.v (.i .i64)) (fun x=>Y1 x.1 x.2.1) [zoW] []
def zpL:FS:=Am 304 [.v (.st 0), .v .s] (.v (.i .i64)) (fun x=>R6 x.1 x.2.1) [znd] []
def zoY:FS:=II zpL fun _=>by kernel_rfl
def nJ:FS:=Am 284 [.v (.l (.st 0)), .v .s] (.tu (.cons (.v (.i .i64)) (.cons (.v .b) .nil))) (fun x=>NO x.1 x.2.1) [zdr,zoY] []
def znH:FS:=Am 235 [.v (.l (.st 0)), .v (.st 0)] (.v (.l (.st 0))) (fun x=>P8 x.1 x.2.1) [nJ,zgs] []
def zuq:FS:=Am 280 [.v .s, .v (.l (.st 0)), .v (.l (.st 12))] (.tu (.cons (.v .s) (.cons (.v .b) (.cons (.v .b) .nil)))) (fun x=>ZY x.1 x.2.1 x.2.2.1) [nJ] [.sp [.i .i64]]
def zno:FS:=Am 282 [.v .s] (.tu (.cons (.v (.i .i64)) (.cons (.v .b) .nil))) (fun x=>V9 x.1) [zuD] []
def zqW:FS:=Am 281 [.v (.st 11), .v .s, .v .b] (.v .b) (fun x=>Zn x.1 x.2.1 x.2.2.1) [zno,Kq] []
def zug:FS:=Am 233 [.v (.l (.st 11)), .v (.l (.st 12))] (.tu (.cons (.v (.i .i64)) (.cons (.v .s) (.cons (.v (.l (.st 0))) .nil)))) (fun x=>oN x.1 x.2.1) [znH,zuq,zqW,zno,zus] [.sp [.i .i64, .l (.st 0)], .inl]
def zyv:FS:=Am 234 [.v (.l (.st 0)), .v .s] (.v (.st 12)) (fun x=>bD x.1 x.2.1) [nJ] []
def zs9:FS:=Am 151 [.v (.l (.st 0)), .v (.l (.st 11))] (.tu (.cons (.v (.l (.st 12))) (.cons (.v (.l (.st 0))) (.cons (.v .b) .nil)))) (fun x=>nV x.1 x.2.1) [zug,zyv] [.sp [.l (.st 12)]]
def zfu:FS:=DJ 236 [.v (.l (.st 0)), .fn [.st 0] .b] (.v (.l (.st 0))) (fun x=>Jr x.1 (fun y=>x.2.1.φ (y,()))) fun x r hp h=>FA (f:=236) (t:=Yq 232 3 true (.mk (.cons (.fld (.fld (.idx (.var 5) (.var 4)) 0 3 true) 0 1 false) (.cons (.fld (.fld (.idx (.var 5) (.var 4)) 0 3 true) 1 1 false) (.cons (.fld (.fld (.idx (.var 5) (.var 4)) 0 3 true) 2 1 false) .nil)))) [(.agg (.fld (.idx (.var 5) (.var 4)) 0 3 true) 3)] (.mk (.cons (.str (ByteArray.mk #[])) (.cons (.str (ByteArray.mk #[])) (.cons (.bool false) .nil))))) (by kernel_rfl) (by kernel_rfl) (xX (av:=(By tab.av (.st 0))) (fun x=>⟨Lg _ x,NW (by kernel_rfl) x,fun _=>⟨_,rfl⟩,fun e=>nomatch e⟩) (by decide) (fun a b c d j ys x tl hj=>by simp [AV.nth,hj,By,L8]) (fun a b c d j ys x hj=>by simp [AV.nth,hj,By,L8]) h (fun i hi=>zcM.ok x i hp hi) (fun y b hb=>hp.2.1 (y,()) b hb))
def zr3:FS:=Am 237 [.v (.st 0)] (.v .b) (fun x=>nN x.1) [] []
def zqw:FS:=II zr3 fun _=>by kernel_rfl
def zuy:FS:=Am 152 [.v (.l (.st 0)), .v (.l (.st 0))] (.tu (.cons (.v (.l (.st 0))) (.cons (.v .b) .nil))) (fun x=>Z5 x.1 x.2.1) [lK,zfu,zqw,znH] [.sp [.i .i64, .l (.st 0)]]
def zql:FS:=Am 69 [.v (.l (.st 0)), .v (.l (.st 11))] (.tu (.cons (.v (.l (.st 0))) (.cons (.v .b) .nil))) (fun x=>We x.1 x.2.1) [zs9,zuy] []
def zkW:FS:=Am 178 [.v (.st 5), .v (.st 9)] (.tu (.cons (.v (.st 5)) (.cons (.v .b) .nil))) (fun x=>Sc x.1 x.2.1) [zmZ,Kq,VE,znA,zql] []
def zmv:FS:=Am 203 [.v (.l (.i .i64))] (.v (.i .i64)) (fun x=>YS x.1) [] [.sp [.i .i64, .i .i64]]
def zmg:FS:=Am 204 [.v (.l (.i .i64))] (.v (.i .i64)) (fun x=>YV x.1) [] [.sp [.i .i64, .i .i64]]
def zin:FS:=Am 111 [.v (.st 5)] (.v .b) (fun x=>RD x.1) [zmv,zmg] []
def zpW:FS:=Am 92 [.v (.st 5), .v (.st 9)] (.v .b) (fun x=>Zq x.1 x.2.1) [zkW,zin,zjG] []
def znF:FS:=Am 170 [.v (.st 7), .v (.st 9)] (.tu (.cons (.v (.st 7)) (.cons (.v .b) .nil))) (fun x=>Mi x.1 x.2.1) [nX,zpW,zkW,VE,Y9,oL] [.inl]
def zkM:FS:=Am 171 [.v (.st 7)] (.v (.i .i64)) (fun x=>RQ x.1) [VE,Y9,oL] [.sp [.i .i64, .i .i64], .inl]
def zm1:FS:=Am 245 [.v (.st 3), .v .s, .v (.st 4)] (.v (.l (.st 11))) (fun x=>Y6 x.1 x.2.1 x.2.2.1) [Vy,Y5] []
def zom:FS:=Am 173 [.v (.st 3), .v .s, .v (.l (.st 0))] (.v (.l (.st 13))) (fun x=>VF x.1 x.2.1 x.2.2.1) [mJ,Vy,zm1] [.sp [.i .i64, .l (.st 13)]]
def zg3:FS:=DJ 243 [.v (.l (.st 13))] (.v (.l (.st 13))) (fun x=>lJ x.1) fun x r hp h=>FA (f:=243) (t:=tT 40 2) (by kernel_rfl) (by kernel_rfl) (zBS (bytes:=40) (sz:=2) (av:=(By tab.av (.st 13))) (fun x=>Lg _ x) h)
def zgf:FS:=DJ 287 [.v (.l (.st 13)), .fn [.st 13] .b] (.v (.i .i64)) (fun x=>Ff x.1 (fun y=>x.2.1.φ (y,()))) fun x r hp h=>FA (f:=287) (t:=QJ 2) (by kernel_rfl) (by kernel_rfl) (Xb (av:=(By tab.av (.st 13))) (cn:=2) (fun _=>⟨_,rfl,rfl⟩) h (fun y b hb=>hp.2.1 (y,()) b hb))
def zfW:FS:=DJ 242 [.v (.l (.st 13)), .fn [.st 13] .b] (.v (.l (.st 13))) (fun x=>Jr x.1 (fun y=>x.2.1.φ (y,()))) fun x r hp h=>FA (f:=242) (t:=jR 287 2 (.mk (.cons (.fld (.fld (.idx (.var 5) (.var 4)) 0 2 true) 0 1 false) (.cons (.fld (.fld (.idx (.var 5) (.var 4)) 0 2 true) 1 1 false) .nil))) [(.agg (.fld (.idx (.var 5) (.var 4)) 0 2 true) 2)] (.mk (.cons (.str (ByteArray.mk #[])) (.cons (.lst .nil) .nil)))) (by kernel_rfl) (by kernel_rfl) (zFC (av:=(By tab.av (.st 13))) (fun x=>⟨Lg _ x,_,rfl⟩) (by decide) (fun a b c d j ys x tl hj=>by simp [AV.nth,hj,By,L8]) (fun a b c d j ys x hj=>by simp [AV.nth,hj,By,L8]) h (fun i hi=>zgf.ok x i hp hi) (fun y b hb=>hp.2.1 (y,()) b hb))
def zuF:FS:=Am 244 [.v (.st 13), .rf (.st 6)] (.v .b) (fun x=>Z3 x.1 x.2.1) [] []
def zsx:FS:=II zuF fun _=>by kernel_rfl
def zx8:FS:=Am 172 [.v (.l (.st 13)), .v (.l (.st 0)), .v (.st 6), .v (.i .i64)] (.tu (.cons (.v (.l (.st 0))) (.cons (.v (.st 6)) .nil))) (fun x=>NV x.1 x.2.1 x.2.2.1 x.2.2.2.1) [zg3,zfW,zsx,lK,zql] [.sp [.l (.st 0), .i .i64, .s]]
def znq:FS:=Am 174 [.v (.st 3), .v .s, .v (.l (.st 0))] (.v (.l (.st 13))) (fun x=>RU x.1 x.2.1 x.2.2.1) [RM] [.sp [.i .i64, .l (.st 13)]]
def zpF:FS:=Am 89 [.v (.st 7), .v (.st 10)] (.tu (.cons (.v (.st 7)) (.cons (.v .b) .nil))) (fun x=>Mh x.1 x.2.1) [znF,nX,zkM,zom,zx8,znq] [.inl]
def zmc:FS:=Am 181 [.v (.st 3), .v (.l (.st 0))] (.v (.l .s)) (fun x=>V0 x.1 x.2.1) [SG,P7] [.sp [.l .s, .i .i64]]
def zoh:FS:=Am 180 [.rf (.st 1), .v (.st 3), .v (.l .s)] (.tu (.cons (.v (.st 6)) (.cons (.v (.st 1)) .nil))) (fun x=>VH x.1 x.2.1 x.2.2.1) [PR,PX] [.pt]
def zoZ:FS:=Am 251 [.v (.st 3), .v .s, .v .s] (.tu (.cons (.v .s) (.cons (.v .s) (.cons (.v .b) .nil)))) (fun x=>Zj x.1 x.2.1 x.2.2.1) [zoP,zns] []
def VZ:FS:=Am 182 [.v (.st 3), .v .s, .v (.l (.st 0))] (.v (.l .s)) (fun x=>Jq x.1 x.2.1 x.2.2.1) [zoZ] [.sp [.l .s, .i .i64], .inl]
def zkb:FS:=Am 93 [.rf (.st 1)] (.tu (.cons (.v (.st 7)) (.cons (.v (.st 1)) .nil))) (fun x=>VG x.1) [ziI,PX,zmc,zoh,VZ] [.inl]
def zlM:FS:=Am 95 [.rf (.st 1)] (.tu (.cons (.v (.st 7)) (.cons (.v (.st 1)) .nil))) (fun x=>Vx x.1) [zkb,IM,zk2,PR] [.inl]
def zsK:FS:=Am 118 [.v (.st 6)] (.v .b) (fun x=>V6 x.1) [pD] []
def zsC:FS:=Am 41 [.v (.st 7)] (.v .b) (fun x=>Kp x.1) [zr2,zsK] []
def zjJ:FS:=Am 113 [.rf (.st 1), .v (.l (.i .i64))] (.tu (.cons (.v (.i .i64)) (.cons (.v (.st 1)) .nil))) (fun x=>RS x.1 x.2.1) [IM] []
def zoS:FS:=Am 124 [.rf (.st 1), .v (.st 3), .v (.l (.st 0))] (.tu (.cons (.v (.st 8)) (.cons (.v (.st 1)) .nil))) (fun x=>Zd x.1 x.2.1 x.2.2.1) [SG,zkT,IM,PX] [.pt, .pt]
def zlD:FS:=Am 205 [.rf (.st 1), .v (.st 5)] (.tu (.cons (.v (.st 9)) (.cons (.v (.st 1)) .nil))) (fun x=>YX x.1 x.2.1) [IM,PX,zjJ,zoS] []
def zmC:FS:=Am 112 [.rf (.st 1), .v (.st 7)] (.tu (.cons (.v (.st 10)) (.cons (.v (.st 1)) .nil))) (fun x=>VB x.1 x.2.1) [IM,zjJ,zlD] []
def znz:FS:=Am 188 [.v (.st 8)] (.v .b) (fun x=>Zz x.1) [] []
def zoD:FS:=Am 66 [.v (.st 3), .v (.st 8)] (.v .b) (fun x=>V4 x.1 x.2.1) [zox] []
def zuo:FS:=Am 186 [.v (.st 5), .v (.st 9)] (.v .b) (fun x=>Z4 x.1 x.2.1) [HM,znz,zoD] []
def zuQ:FS:=Am 187 [.v (.i .i64)] (.v .b) (fun x=>oG x.1) [HM] []
def zoq:FS:=Am 99 [.v (.st 7), .v (.st 10)] (.v .b) (fun x=>SD x.1 x.2.1) [zuo,zuQ,znz] [.pt]
def zpX:FS:=Am 98 [.v (.st 7)] (.v (.st 7)) (fun x=>SP x.1) [oT] []
def zue:FS:=Am 189 [.v (.st 5)] (.tu (.cons (.v .b) (.cons (.v .b) .nil))) (fun x=>Z2 x.1) [nL] [.sp [.b, .b, .i .i64]]
def zuv:FS:=Am 15 [.v (.st 3), .v (.st 8)] (.v .b) (fun x=>SX x.1 x.2.1) [ZF,zoD] []
def zuN:FS:=Am 324 [.v (.st 3), .v (.st 8)] (.v (.l (.st 11))) (fun x=>Z0 x.1 x.2.1) [P7] []
def zws:FS:=Am 325 [.v (.st 3), .v (.st 2), .v (.st 8)] (.v (.l (.st 11))) (fun x=>Wg x.1 x.2.1 x.2.2.1) [ZB] [.sp [.s], .pt, .pt, .inl]
def zwJ:FS:=Am 308 [.v (.st 3), .v (.st 8)] (.v (.l (.st 11))) (fun x=>aT x.1 x.2.1) [zuN,zws] [.sp [.i .i64, .l (.st 11)]]
def zyY:FS:=Am 326 [.v (.st 11)] (.v .b) (fun x=>bL x.1) [pD,zrt,HM] [.pt, .inl]
def zwQ:FS:=Am 309 [.v (.l (.st 11))] (.v .b) (fun x=>aU x.1) [zyY] [.sp [.i .i64]]
def zsD:FS:=Am 343 [.v (.l (.st 0)), .v (.l (.st 12)), .v .s] (.tu (.cons (.v .s) (.cons (.v .b) (.cons (.v .b) .nil)))) (fun x=>zip x.1 x.2.1 x.2.2.1) [] [.sp [.i .i64], .sp [.i .i64]]
def zv8:FS:=Am 359 [.v .s] (.v (.i .i64)) (fun x=>Wl x.1) [HM] [.sp [.i .i64, .i .i64]]
def zrG:FS:=Am 345 [.v .s] (.tu (.cons (.v (.i .i64)) (.cons (.v .b) .nil))) (fun x=>Wp x.1) [zv8] [.pt]
def zuJ:FS:=Am 344 [.v (.st 11), .v .s, .v .b] (.v .b) (fun x=>aD x.1 x.2.1 x.2.2.1) [zrG,HM] []
theorem zrI: ∀(n:Nat) (xs:HP tab.car [.v (.i .i64)]) (y:Hj tab.car (.v .s)),Ig tab [.v (.i .i64)] xs→((fun x=>Wi n x.1):HP tab.car [.v (.i .i64)]→Option (Hj tab.car (.v .s))) xs=some y→tab.Rt 360 (Gg tab [.v (.i .i64)] xs) (Gp tab (.v .s) y)
 |0,_,_,_,h=>nomatch h
 |n+1,xs,y,hp,h=>zIN (ps:= [.v (.i .i64)]) (r:=(.v .s)) [DJ 360 [.v (.i .i64)] (.v .s) (fun x=>Wi n x.1) (zrI n)] [] (φ:=(fun x=>Wi (n+1) x.1)) (fun _ _=>by kernel_rfl) (fun _ _=>by kernel_rfl) xs y hp h
def zxo:FS:=DJ 360 [.v (.i .i64)] (.v .s) (fun x=>pA x.1) (zrI zIr)
def zwX:FS:=Am 346 [.v (.i .i64)] (.v .s) (fun x=>oV x.1) [zxo] []
def zwH:FS:=Am 327 [.v (.l (.st 11)), .v (.l (.st 12))] (.tu (.cons (.v (.i .i64)) (.cons (.v .s) (.cons (.v (.l (.st 0))) .nil)))) (fun x=>oS x.1 x.2.1) [zsD,zuJ,aZ,zrG,zwX] [.sp [.l (.st 0), .i .i64], .inl, .inl]
def zwP:FS:=Am 328 [.v (.l (.st 0)), .v .s] (.v (.st 12)) (fun x=>aS x.1 x.2.1) [] [.sp [.i .i64]]
def zuH:FS:=Am 310 [.v (.l (.st 0)), .v (.l (.st 11))] (.tu (.cons (.v (.l (.st 12))) (.cons (.v (.l (.st 0))) (.cons (.v .b) .nil)))) (fun x=>oI x.1 x.2.1) [zwH,zwP] [.sp [.l (.st 12)]]
def zrN:FS:=Am 311 [.v (.l (.st 0)), .v (.l (.st 0))] (.v (.l (.st 0))) (fun x=>ZM x.1 x.2.1) [aZ] [.sp [.i .i64, .l (.st 0)], .sp [.l (.st 0), .i .i64], .inl]
def zrP:FS:=Am 289 [.v (.l (.st 0)), .v (.l (.l (.st 11)))] (.tu (.cons (.v (.l (.st 0))) (.cons (.v (.l .b)) (.cons (.v .b) .nil)))) (fun x=>ZL x.1 x.2.1) [Wb,zuH,zrN,zwQ] [.sp [.i .i64], .sp [.l .b, .i .i64, .l (.st 0)], .inl]
def pG:FS:=Am 257 [.v (.l (.st 0)), .v (.l (.st 11))] (.tu (.cons (.v (.l (.st 0))) (.cons (.v .b) .nil))) (fun x=>Qd x.1 x.2.1) [zrP] []
def zxm:FS:=Am 288 [.v (.st 3), .v (.l (.st 0)), .v (.st 8)] (.tu (.cons (.v (.l (.st 0))) (.cons (.v .b) (.cons (.v .b) .nil)))) (fun x=>SY x.1 x.2.1 x.2.2.1) [zuv,Wb,zwJ,pG] []
def zrF:FS:=Am 256 [.v (.st 5), .v (.st 9)] (.tu (.cons (.v (.st 5)) (.cons (.v .b) .nil))) (fun x=>G7 x.1 x.2.1) [oT,HM,zxm] []
def ztV:FS:=Am 120 [.v (.l (.i .i64))] (.v .b) (fun x=>Sm x.1) [] [.sp [.i .i64], .sp [.i .i64]]
def znC:FS:=Am 298 [.v (.st 3), .v .s, .v (.l (.st 0))] (.v .b) (fun x=>P5 x.1 x.2.1 x.2.2.1) [ZF,NU,Wb] []
def zos:FS:=Am 299 [.v (.l .s), .v (.l .s)] (.v (.l .s)) (fun x=>aF x.1 x.2.1) [zry] [.sp [.l .s, .i .i64], .inl]
def zrU:FS:=Am 271 [.v (.st 3), .v .s, .v (.l (.st 0))] (.tu (.cons (.v (.l .s)) (.cons (.v .b) .nil))) (fun x=>nI x.1 x.2.1 x.2.2.1) [znC,VZ,nO,zos] []
def zuA:FS:=Am 272 [.v (.st 3), .v .s, .v (.l (.st 0))] (.tu (.cons (.v (.l .s)) (.cons (.v .b) .nil))) (fun x=>oF x.1 x.2.1 x.2.2.1) [znC,nO,VZ,zos] []
def ztW:FS:=Am 210 [.v (.st 3), .v .s, .v (.i .i64), .v (.l (.st 0))] (.v .b) (fun x=>ZQ x.1 x.2.1 x.2.2.1 x.2.2.2.1) [VZ,zrU,zuA] []
def zuL:FS:=Am 119 [.v (.st 5)] (.v .b) (fun x=>SF x.1) [zoL,ztW] []
def zwv:FS:=Am 255 [.v (.st 5), .v (.st 9)] (.v .b) (fun x=>Qb x.1 x.2.1) [zrF,ztV,zuL] []
def zv2:FS:=Am 190 [.v (.st 7), .v (.st 9)] (.tu (.cons (.v (.st 7)) (.cons (.v .b) .nil))) (fun x=>Mm x.1 x.2.1) [zwv,nL,zrF] [.inl]
def zum:FS:=Am 258 [.v (.st 3), .v (.st 2), .v (.st 4)] (.v (.l (.st 11))) (fun x=>Z8 x.1 x.2.1 x.2.2.1) [P7,ZB] []
def zoO:FS:=Am 259 [.v (.l .s), .v .s] (.v .b) (fun x=>Z7 x.1 x.2.1) [] [.sp [.i .i64]]
def zuw:FS:=Am 191 [.v (.st 3), .v .s, .v (.l (.st 0)), .v (.st 6), .v (.i .i64)] (.tu (.cons (.v (.l (.st 0))) (.cons (.v (.st 6)) .nil))) (fun x=>Wh x.1 x.2.1 x.2.2.1 x.2.2.2.1 x.2.2.2.2.1) [NU,SG,zmc,zoO,P7,zum,pG] [.sp [.i .i64, .i .i64, .s, .l (.st 0)], .inl]
def zsO:FS:=Am 192 [.v (.st 3), .v .s, .v (.l (.st 0)), .v (.st 6), .v (.i .i64)] (.tu (.cons (.v (.l (.st 0))) (.cons (.v (.st 6)) .nil))) (fun x=>V8 x.1 x.2.1 x.2.2.1 x.2.2.2.1 x.2.2.2.2.1) [VZ,zoO,pG] [.sp [.i .i64, .i .i64, .s, .l (.st 0)], .inl]
def zrr:FS:=Am 100 [.v (.st 7), .v (.st 10)] (.tu (.cons (.v (.st 7)) (.cons (.v .b) .nil))) (fun x=>K5 x.1 x.2.1) [zue,zv2,zuw,zsO] []
def zgL:FS:=DJ 197 [.v (.l (.st 4)), .fn [.st 4] .b] (.v (.i .i64)) (fun x=>Ff x.1 (fun y=>x.2.1.φ (y,()))) fun x r hp h=>FA (f:=197) (t:=QJ 1) (by kernel_rfl) (by kernel_rfl) (Xb (av:=(By tab.av (.st 4))) (cn:=1) (fun _=>⟨_,rfl,rfl⟩) h (fun y b hb=>hp.2.1 (y,()) b hb))
def zfN:FS:=DJ 103 [.v (.l (.st 4)), .fn [.st 4] .b] (.v .b) (fun x=>FP x.1 (fun y=>x.2.1.φ (y,()))) fun x r hp h=>FA (f:=103) (t:=QO 197) (by kernel_rfl) (by kernel_rfl) (Xf h fun r hr=>zgL.ok x r hp hr)
def zqF:FS:=Am 105 [.v (.st 4), .rf (.st 7), .rf (.st 5), .rf (.l .s)] (.v .b) (fun x=>SA x.1 x.2.1 x.2.2.1 x.2.2.2.1) [Y5,lN,Vy] []
def zp2:FS:=II zqF fun _=>by kernel_rfl
def ztg:FS:=Am 33 [.v (.st 7)] (.tu (.cons (.v .b) (.cons (.v .b) .nil))) (fun x=>NT x.1) [oB,RM,mJ,zfN,zp2] []
def zpT:FS:=Am 110 [.v .s, .rf (.st 7)] (.v .b) (fun x=>R8 x.1 x.2.1) [] []
def zoU:FS:=II zpT fun _=>by kernel_rfl
def zrO:FS:=Am 34 [.v (.st 7)] (.tu (.cons (.v .b) (.cons (.v .b) .nil))) (fun x=>NM x.1) [oB,RM,zdC,zoU] []
def zwE:FS:=Am 290 [.v (.l .s), .v (.l .s)] (.v .b) (fun x=>aM x.1 x.2.1) [] [.sp [.i .i64]]
def zvV:FS:=Am 260 [.v (.st 3), .v (.st 3)] (.v .b) (fun x=>aN x.1 x.2.1) [zwE] [.sp [.i .i64]]
def zuC:FS:=Am 193 [.v (.l (.st 3)), .v (.l (.st 3))] (.v .b) (fun x=>Z6 x.1 x.2.1) [zvV] [.sp [.i .i64]]
def zvJ:FS:=Am 194 [.v (.l (.i .i64)), .v (.l (.i .i64))] (.v .b) (fun x=>aR x.1 x.2.1) [] [.sp [.i .i64]]
def zwn:FS:=Am 195 [.v (.l (.st 0)), .v (.l (.st 0))] (.v .b) (fun x=>aP x.1 x.2.1) [] [.sp [.i .i64]]
def zwZ:FS:=Am 101 [.v (.st 5), .v (.st 5)] (.v .b) (fun x=>aV x.1 x.2.1) [zuC,zvJ,zwn] []
def zv1:FS:=Am 32 [.v (.st 7), .v (.st 7)] (.v .b) (fun x=>Wf x.1 x.2.1) [zwZ] []
def ztJ:FS:=Am 35 [.v (.st 5)] (.tu (.cons (.v .b) (.cons (.v .b) .nil))) (fun x=>P6 x.1) [nT,zin] []
def zl6:FS:=Am 94 [.rf (.st 1), .v (.st 7), .v (.i .i64)] (.tu (.cons (.v (.l (.st 10))) (.cons (.v (.st 1)) .nil))) (fun x=>YR x.1 x.2.1 x.2.2.1) [zpX,IM,zmC,zoq,zrr] [.sp [.l (.st 10), .i .i64, .l (.i .u8), .i .i64, .i .u64, .s, .l (.st 3), .l (.i .i64), .l (.st 0), .s, .b, .s, .b], .inl]
def zpq:FS:=Am 28 [.v (.l (.i .u8))] (.tu (.cons (.v (.st 7)) (.cons (.v (.l (.st 10))) .nil))) (fun x=>Zi x.1) [zkb,zl6,IM,zlM] [.inl]
def ztx:FS:=Am 29 [.v (.st 7), .v (.l (.st 10))] (.tu (.cons (.v (.st 7)) (.cons (.v (.l .b)) (.cons (.v .b) .nil)))) (fun x=>ZS x.1 x.2.1) [oB,nX,zmG,zpF] [.sp [.i .i64, .s, .s, .b, .s, .b, .l (.st 3), .l (.i .i64), .l (.st 0), .l .b], .inl]
def zty:FS:=Am 30 [.v (.st 7), .v (.l (.st 10))] (.tu (.cons (.v (.st 7)) (.cons (.v (.l .b)) (.cons (.v .b) .nil)))) (fun x=>ZO x.1 x.2.1) [zsC,zpX,zoq,zrr] [.sp [.l .b, .i .i64, .s, .l (.st 3), .l (.i .i64), .l (.st 0), .s, .b, .s, .b], .inl]
def zwc:FS:=Am 31 [.v (.l .b), .v (.l .b)] (.v .b) (fun x=>aL x.1 x.2.1) [] [.sp [.i .i64]]
def zot:FS:=Am 5 [.v (.l (.i .u8)), .v (.l (.i .u8))] (.v .b) (fun x=>ZX x.1 x.2.1) [zpq,ztx,zty,zwc,zv1,ztg,zrO,zvT,ztJ] []
theorem zuc (a0 a1:List Int) (r:Bool) (h:ZX a0 a1=some r):Cv Tryz.prog Cu 5 [.sl (a0.map Rx), .sl (a1.map Rx)] (.bool r):=zot.ok (a0,a1,()) r (by simp [zot,Am,Ig,Vm]) h
end Go.Proofs.YtbmbkgalkfmjdaaGreatDoor
end
noncomputable section
namespace Go.Proofs.YtbmbkgalkfmjdaaGreatDoor
open Go.ChangeShapes Go.WideShapes Go.ChangeAt Go.RowKit
theorem pC {H:Type} {P:Program} {t:TypeId} {ts:List TypeId} {d:DataW H} {r:List (DataW H)} {n:Nat} (h:(DataW.weightsEach P (t::ts) (d::r)).all (· ≤n)=true):(d.weights P t).all (· ≤n)=true∧(DataW.weightsEach P ts r).all (· ≤n)=true:=by rw [DataW.weightsEach,List.all_append,Ae]at h;exact h
theorem zW {w:World} {p:Option Addr} {n c:Nat} {xs:List AV} {f:List Nat} (h:Rd w [.slice p n c] [.sl xs] f):n=xs.length:=by cases h<;>first|rfl|(symm;assumption)
theorem zEE {w:World} {v:Value} {xs:List AV} {f:List Nat} (h:Rd w [v] [.sl xs] f):v.cells.toList= [v]:=by cases h<;>rfl
theorem zts {H:Type} {P:Program} {enc:TypeId × Value→H} {w:World} {spare:Nat→Bool} {held:Bool} {t e:TypeId} {v:Value} {d:DataW H} {p:List MemPlace} {xs:List AV} {f:List Nat} (ht:P.underlying t=some (.slice e)) (hb:P.bytesOf e=1) (h:DataW.Trod enc P w 0 spare held t v d p) (hr:Rd w [v] [.sl xs] f) (hw:(d.weights P t).all (· ≤reachBytes)=true):xs.length≤reachBytes:=by
 have hc:=zEE hr;obtain⟨m,hm⟩:=h;rcases DataW.trod_slice ht hm with⟨h1,_⟩|⟨a,len,cap,elems,rest,n,_,h1,h2,_,_,_,h3,_⟩
 ·rw [hc]at h1;obtain rfl:=(List.cons.inj h1).1;rw [←zW hr];omega
 ·rw [hc]at h1;obtain rfl:=(List.cons.inj h1).1;rw [←zW hr];have:d= .slice (elems.map (·.1)) (rest.map (·.1)):=congrArg Prod.fst h2;subst this;rw [DataW.weights,ht]at hw;dsimp only at hw;rw [List.all_cons,Ae,decide_eq_true_eq,hb,List.length_map]at hw;omega
end Go.Proofs.YtbmbkgalkfmjdaaGreatDoor
end
noncomputable section
namespace Go.Proofs.YtbmbkgalkfmjdaaGreatDoor
open Go.RowKit
set_option maxRecDepth 100000
theorem AL {α:Type} {xs:List α} {i:Nat} (h:i<xs.length):getI xs (i:Int)=some xs[i]:=by simp [getI,h]
theorem IX {α:Type} {xs:List α} {i:Int} (h0:0≤i) (h:i<xs.length): ∃x,getI xs i=some x∧x∈xs∧xs[i.toNat]?=some x:=by
 have hi:i.toNat<xs.length:=by omega
 exact⟨xs[i.toNat],by simp [getI,h0,hi],List.getElem_mem hi,by simp [hi]⟩
theorem tH {α:Type} {xs:List α} {i:Int} {x:α} (h:getI xs i=some x):x∈xs:=by obtain⟨h1,h2,h3⟩:=Yn h;exact List.mem_of_getElem? h3
theorem Bi {q n:Nat} (h:q<n) (hn:n≤9223372036854775807):IntKind.i64.wrap ((q:Int)+1)=((q+1:Nat):Int):=by rw [Ba (by omega) (by omega)];simp
theorem AQ {α:Type} {p:Prop} {k:Option α} (h:p):req p k=k:=by simp [req,h]
def HY {α σ β:Type} (step:α→σ→Option (σ ⊕ Option β)) (fin:σ→Option β):List α→σ→Option β
 | [],s=>fin s
 |x::xs,s=>match step x s with
  |none=>none
  |some (.inl s')=>HY step fin xs s'
  |some (.inr o)=>o
def MQ {σ τ β:Type} (f:σ→τ):Option (σ ⊕ Option β)→Option (τ ⊕ Option β)
 |none=>none
 |some (.inl s)=>some (.inl (f s))
 |some (.inr o)=>some (.inr o)
theorem zCv {α σ τ β:Type} {xs:List α} {body:τ→Option (τ ⊕ Option β)} (emb:Int→σ→τ) (step:α→σ→Option (σ ⊕ Option β)) (fin:σ→Option β) (q0:Nat)
  (hs: ∀(i:Nat) (hi:i<xs.length) (s:σ),q0≤i→body (emb i s)=MQ (emb ((i+1:Nat):Int)) (step xs[i] s)) (he: ∀s,body (emb xs.length s)=some (.inr (fin s))) (s:σ) (h0:q0≤xs.length):Ay body (emb q0 s)=HY step fin (xs.drop q0) s:=by
 have key: ∀(n q:Nat) (s:σ),q0≤q→q+n=xs.length→Ay body (emb q s)=HY step fin (xs.drop q) s:=by
  intro n
  induction n with
  |zero=>
   intro q s _ hq;have:q=xs.length:=by omega
   subst this;rw [Fz,he s];simp [HY]
  |succ n ih=>
   intro q s h0 hq;have Ak:q<xs.length:=by omega
   rw [Fz,hs q Ak s h0,List.drop_eq_getElem_cons Ak];rcases AZ:step xs[q] s with _|s'|o
   ·simp [HY,AZ,MQ]
   ·simp only [HY,AZ,MQ];exact ih (q+1) s' (by omega) (by omega)
   ·simp [HY,AZ,MQ]
 exact key (xs.length-q0) q0 s (Nat.le_refl _) (by omega)
theorem cT {α σ τ β:Type} {xs:List α} {body:τ→Option (τ ⊕ Option β)} (emb:Int→σ→τ) (step:α→σ→Option (σ ⊕ Option β)) (fin:σ→Option β)
  (hs: ∀(i:Nat) (hi:i<xs.length) (s:σ),body (emb i s)=MQ (emb ((i+1:Nat):Int)) (step xs[i] s)) (he: ∀s,body (emb xs.length s)=some (.inr (fin s))) (s:σ):Ay body (emb 0 s)=HY step fin xs s:=by
 have:=zCv emb step fin 0 (fun i hi s _=>hs i hi s) he s (by omega);simpa using this
theorem tQ {α σ β:Type} {step:α→σ→Option (σ ⊕ Option β)} {fin:σ→Option β} {xs:List α} (p:α→Bool) (b:β) (h: ∀x∈xs,∀s,step x s=some (if p x=true then .inl s else .inr (some b))) (s:σ):HY step fin xs s=if xs.all p=true then fin s else some b:=by
 induction xs with
 |nil=>simp [HY]
 |cons x xs ih=>
  simp only [HY,h x (by simp) s];cases hp:p x with
  |true=>simp [hp,ih fun y hy=>h y (by simp [hy])]
  |false=>simp [hp]
theorem zEy {α σ β:Type} {step:α→σ→Option (σ ⊕ Option β)} {fin:σ→Option β} {xs:List α} (f:σ→α→σ) (I:σ→Prop) (hI: ∀x∈xs,∀s,I s→I (f s x)) (h: ∀x∈xs,∀s,I s→step x s=some (.inl (f s x))) {s:σ} (hs:I s):HY step fin xs s=fin (xs.foldl f s):=by
 induction xs generalizing s with
 |nil=>simp [HY]
 |cons x xs ih=>simp only [HY,h x (by simp) s hs,List.foldl_cons];exact ih (fun y hy=>hI y (by simp [hy])) (fun y hy=>h y (by simp [hy])) (hI x (by simp) s hs)
theorem Gb {α σ τ β:Type} {xs:List α} {body:τ→Option (τ ⊕ Option β)} (emb:Int→σ→τ) (f:σ→α→σ) (fin:σ→Option β) (I:Nat→σ→Prop)
  (hs: ∀(i:Nat) (hi:i<xs.length) (s:σ),I i s→body (emb i s)=some (.inl (emb ((i+1:Nat):Int) (f s xs[i])))∧I (i+1) (f s xs[i])) (he: ∀s,I xs.length s→body (emb xs.length s)=some (.inr (fin s))) {s:σ} (h0:I 0 s):Ay body (emb 0 s)=fin (xs.foldl f s)∧I xs.length (xs.foldl f s):=by
 have key: ∀(n q:Nat) (s:σ),q+n=xs.length→I q s→Ay body (emb q s)=fin ((xs.drop q).foldl f s)∧I xs.length ((xs.drop q).foldl f s):=by
  intro n
  induction n with
  |zero=>
   intro q s hq hI;have:q=xs.length:=by omega
   subst this;rw [Fz,he s hI];simp [hI]
  |succ n ih=>
   intro q s hq hI;have Ak:q<xs.length:=by omega
   obtain⟨h1,h2⟩:=hs q Ak s hI;rw [Fz,h1,List.drop_eq_getElem_cons Ak,List.foldl_cons];exact ih (q+1) _ (by omega) h2
 have:=key xs.length 0 s (by omega) h0;simpa using this
theorem Qz {α:Type} {xs:List α} {p:α→Option Bool} (q:α→Bool) (hp: ∀x∈xs,p x=some (q x)) (hn:xs.length≤9223372036854775806):FP xs p=some (xs.any q):=by
 have key: ∀(l:List α) (i:Int),0≤i→(∀x∈l,p x=some (q x))→ ∃r,Em p l i=some r∧decide (r≥0)=l.any q:=by
  intro l
  induction l with
  |nil=>intro i _ _;exact⟨-1,rfl,by simp⟩
  |cons x l ih=>
   intro i hi h;simp only [Em,h x (by simp),Aa];cases hq:q x with
   |true=>exact⟨i,by simp,by simp [hq,hi]⟩
   |false=>obtain⟨r,h1,h2⟩:=ih (i+1) (by omega) fun y hy=>h y (by simp [hy]);exact⟨r,by simp [h1],by simp [hq,h2]⟩
 obtain⟨r,h1,h2⟩:=key xs 0 (by omega) hp;simp [FP,Ff,AQ hn,h1,h2]
theorem Ob {α:Type} {b:Nat} {xs:List α} (h:(xs.length:Int)*b≤140737488355328) (h2:(xs.length:Int)≤140737488355328):Og b xs=some xs:=AQ ⟨h,h2⟩
theorem N4 {β:Type} {n:Nat} {body:Int→Option (Int ⊕ Option β)} (p:Nat→Bool) (b:β) (fin:Option β)
  (hs: ∀i:Nat,i<n→body i=some (if p i=true then .inl ((i+1:Nat):Int)else .inr (some b))) (he:body n=some (.inr fin)):Ay body 0=if(List.range n).all p=true then fin else some b:=by
 have h1:=cT (xs:=List.range n) (body:=body) (fun i (_:Unit)=>i) (fun i _=>some (if p i=true then .inl ()else .inr (some b))) (fun _=>fin)
  (fun i hi s=>by rw [List.length_range]at hi;rw [hs i hi,List.getElem_range];cases p i<;>simp [MQ]) (fun s=>by simpa using he) ()
 rw [tQ p b fun x _ s=>rfl]at h1;exact h1
def BH {α:Type} (p:α→Bool) (l:List α):Int:=match l.findIdx? p with|some i=>(i:Int)|none=> -1
theorem dE {α:Type} (p:α→Bool):BH p []= -1:=rfl
theorem N6 {α:Type} (p:α→Bool) (x:α) (l:List α):BH p (x::l)=if p x=true then 0 else if BH p l= -1 then-1 else BH p l+1:=by
 unfold BH;rw [List.findIdx?_cons];cases p x with
 |true=>simp
 |false=>
  cases h:l.findIdx? p with
  |none=>simp
  |some i=>simp<;>omega
theorem W6 {α:Type} (p:α→Bool) (l:List α): -1≤BH p l:=by unfold BH;split<;>omega
theorem Od {α:Type} (p:α→Bool) (l:List α):decide (BH p l≥0)=l.any p:=by
 induction l with
 |nil=>simp [dE]
 |cons x l ih=>
  have h1:=W6 p l;rw [N6,List.any_cons,←ih];cases p x with
  |true=>simp
  |false=>
   by_cases h:BH p l= -1
   ·simp [h]
   ·have:BH p l≥0:=by omega
    simp [h,this];try omega
theorem zzY {α:Type} {p:α→Bool} {l:List α} (h:BH p l≥0): ∃x,getI l (BH p l)=some x∧p x=true∧x∈l:=by
 induction l with
 |nil=>simp [dE]at h
 |cons y l ih=>
  rw [N6]at h ⊢;cases hy:p y with
  |true=>exact⟨y,by simp [getI],hy,by simp⟩
  |false=>
   have h1:=W6 p l;by_cases hm:BH p l= -1
   ·rw [hy,hm]at h;simp at h
   ·have h0:BH p l≥0:=by omega
    obtain⟨x,e1,e2,e3⟩:=ih h0;obtain⟨_,e4,e5⟩:=Yn e1;refine⟨x, ?_,e2,by simp [e3]⟩;simp only [AW,if_false,hm];unfold getI;rw [if_pos (by omega),show(BH p l+1).toNat=(BH p l).toNat+1 by omega];simpa using e5
theorem s4 {α:Type} {xs:List α} {body:Int→Option (Int ⊕ Option Int)} (p:α→Bool) (hs: ∀(i:Nat) (hi:i<xs.length),body i=some (if p xs[i]=true then .inr (some (i:Int))else .inl ((i+1:Nat):Int))) (he:body xs.length=some (.inr (some (-1)))):Ay body 0=some (BH p xs):=by
 have key: ∀(n q:Nat),q+n=xs.length→Ay body q=some (if BH p (xs.drop q)= -1 then-1 else q+BH p (xs.drop q)):=by
  intro n
  induction n with
  |zero=>
   intro q hq;have:q=xs.length:=by omega
   subst this;rw [Fz,he];simp [dE]
  |succ n ih=>
   intro q hq;have Ak:q<xs.length:=by omega
   rw [Fz,hs q Ak,List.drop_eq_getElem_cons Ak,N6];cases p xs[q]with
   |true=>simp
   |false=>
    simp only [AW,if_false];rw [ih (q+1) (by omega)];have h1:=W6 p (xs.drop (q+1));congr 1;by_cases hm:BH p (xs.drop (q+1))= -1
    ·simp [hm]
    ·have h2: ¬(BH p (xs.drop (q+1))+1= -1):=by omega
     simp only [hm,if_false,h2];omega
 have h:=key xs.length 0 (by omega);rw [List.drop_zero]at h;rw [show((0:Nat):Int)=0 from rfl]at h;rw [h];have h1:=W6 p xs;by_cases hm:BH p xs= -1
 ·simp [hm]
 ·simp [hm]
theorem zxX {α:Type} {xs:List α} {p:α→Option Bool} (q:α→Bool) (hp: ∀x∈xs,p x=some (q x)) (hn:xs.length≤9223372036854775806):Ff xs p=some (BH q xs):=by
 have key: ∀(l:List α) (i:Int),(∀x∈l,p x=some (q x))→Em p l i=some (if BH q l= -1 then-1 else i+BH q l):=by
  intro l
  induction l with
  |nil=>intro i _;simp [Em,dE]
  |cons x l ih=>
   intro i h;simp only [Em,h x (by simp),Aa,N6];cases q x with
   |true=>simp
   |false=>
    simp only [AW,if_false];rw [ih (i+1) fun y hy=>h y (by simp [hy])];have h1:=W6 q l;congr 1;by_cases hm:BH q l= -1
    ·simp [hm]
    ·have h2: ¬(BH q l+1= -1):=by omega
     simp only [hm,if_false,h2];omega
 unfold Ff;rw [AQ hn,key xs 0 hp];by_cases hm:BH q xs= -1
 ·simp [hm]
 ·simp [hm]
theorem YE {α:Type} {b:Bool} {A B:Option α} {y:Option α} (ha:b=true→A=y) (hb:b=false→B=y):(if b=true then A else B)=y:=by
 cases b with
 |true=>simpa using ha rfl
 |false=>simpa using hb rfl
theorem KY {α:Type} {b:Bool} {A B y:Option α} (h:b=false) (hb:B=y):(if b=true then A else B)=y:=by rw [if_neg (by simp [h])];exact hb
theorem zJ8 {α:Type} {b:Bool} {A B y:Option α} (h:b=true) (ha:A=y):(if b=true then A else B)=y:=by rw [if_pos h];exact ha
theorem DG {α β:Type} {o:Option α} {x:α} {f:α→Option β} (h:o=some x):o.bind f=f x:=by rw [h];rfl
def Bf {α:Type} (o:Option α) (Q:α→Prop):Prop:= ∃x,o=some x∧Q x
section
variable {α β σ:Type} {Q:β→Prop}
theorem Bf.bind {o:Option α} {P:α→Prop} {f:α→Option β} (h:Bf o P) (hf: ∀x,P x→Bf (f x) Q):Bf (o.bind f) Q:=by obtain⟨x,rfl,hx⟩:=h;exact hf x hx
theorem Bf.ret {x:β} (h:Q x):Bf (some x) Q:=⟨x,rfl,h⟩
theorem Bf.ite {b:Bool} {A B:Option β} (ha:b=true→Bf A Q) (hb:b=false→Bf B Q):Bf (if b=true then A else B) Q:=by
 cases b with
 |true=>simpa using ha rfl
 |false=>simpa using hb rfl
theorem Bf.req {p:Prop} [Decidable p] {k:Option β} (hp:p) (hk:Bf k Q):Bf (req p k) Q:=by rw [AQ hp];exact hk
theorem Bf.mono {o:Option β} {P:β→Prop} (h:Bf o P) (hPQ: ∀x,P x→Q x):Bf o Q:=by obtain⟨x,hx,h⟩:=h;exact⟨x,hx,hPQ x h⟩
theorem Bf.getI {xs:List β} {i:Int} (h0:0≤i) (h:i<xs.length) (hq: ∀x,x∈xs→Q x):Bf (getI xs i) Q:=by obtain⟨x,h1,h2,_⟩:=IX h0 h;exact⟨x,h1,hq x h2⟩
theorem K7 {body:σ→Option (σ ⊕ Option β)} (I:Nat→σ→Prop) (h: ∀n s,I n s→Bf (body s) fun o=>match o with| .inl s'=> ∃m,m<n∧I m s'| .inr q=>Bf q Q): ∀{n:Nat} {s:σ},I n s→Bf (Ay body s) Q:=by
 intro n
 induction n using Nat.strongRecOn with
 |_ n ih=>
  intro s hI;obtain⟨o,ho,h2⟩:=h n s hI;rw [Fz,ho]
  match o,h2 with
  | .inl s',⟨m,hm,hI'⟩=>exact ih m hm hI'
  | .inr q,hq=>exact hq
end
structure B7 where
 nh:List Int→Prop
 ov: ∀l,nh l→ ∀b∈l,0≤b∧b≤255
instance codeBytes:Inhabited B7:=⟨⟨fun l=> ∀b∈l,0≤b∧b≤255,fun _ h=>h⟩⟩
def A1 [Inhabited B7] (c:Ap) (k:Int):Prop:=(default:B7).nh c.ax∧0≤c.bw∧c.bw≤k
theorem A1.up [Inhabited B7] {c:Ap} {i j:Int} (h:A1 c i) (O1:i≤j):A1 c j:=⟨h.1,h.2.1,by have:=h.2.2;omega⟩
theorem A1.start [Inhabited B7] {code:List Int} (h:(default:B7).nh code):A1 ⟨code,0,0⟩ 0:=⟨h,by simp,by simp⟩
theorem zM (a:Int):0≤IntKind.i64.wrap (IntKind.u64.wrap ((BitVec.ofInt (IntKind.bits .u64) a&&&BitVec.ofInt (IntKind.bits .u64) 255).toNat:Int))∧IntKind.i64.wrap (IntKind.u64.wrap ((BitVec.ofInt (IntKind.bits .u64) a&&&BitVec.ofInt (IntKind.bits .u64) 255).toNat:Int))≤255:=by
 have h:(BitVec.ofInt (IntKind.bits .u64) a&&&BitVec.ofInt (IntKind.bits .u64) 255).toNat≤255:=by rw [BitVec.toNat_and];exact Nat.le_trans Nat.and_le_right (by decide)
 generalize (BitVec.ofInt (IntKind.bits .u64) a&&&BitVec.ofInt (IntKind.bits .u64) 255).toNat=m at h ⊢;have e:IntKind.u64.wrap (m:Int)=m:=by simp [IntKind.wrap,IntKind.bits,IntKind.signed];omega
 rw [e,Ba (by omega) (by omega)];omega
theorem zE [Inhabited B7] {c:Ap} {k:Int} (h:A1 c k) (hk:k≤4611686018427387904):Bf (PW c) fun p=>(0≤p.1∧p.1≤255)∧A1 p.2 (k+1):=by
 obtain⟨hb,h0,h1⟩:=h;have w:IntKind.i64.wrap (c.bw+1)=c.bw+1:=Ba (by omega) (by omega);unfold PW;refine .ite (fun Ak=> ?_) fun Ak=> ?_
 ·simp only [decide_eq_true_eq]at Ak;refine Bf.bind (P:=fun y=>0≤y∧y≤255) (.getI h0 Ak ((default:B7).ov _ hb)) fun y hy=> ?_;have wy:IntKind.i64.wrap y=y:=Ba (by omega) (by omega);refine .ite (fun _=> .ret ⟨by dsimp only;rw [wy];exact hy,hb,by dsimp only;omega,by dsimp only;omega⟩) fun _=> .ret ⟨zM _,hb,by dsimp only;omega,by dsimp only;omega⟩
 ·refine .ite (fun _=> .ret ⟨by simp,hb,by dsimp only;omega,by dsimp only;omega⟩) fun _=> .ret ⟨zM _,hb,by dsimp only;omega,by dsimp only;omega⟩
theorem Dy [Inhabited B7] {c:Ap} {k:Int} (n:Int) (h:A1 c k) (hk:k≤4611686018427387000):Bf (C5 c n) fun p=>(0≤p.1∧(1≤n→p.1<n)∧p.1≤65535)∧A1 p.2 (k+2):=by
 have tm: ∀x:Int,0≤x→1<n→0≤x.tmod n∧x.tmod n<n∧x.tmod n≤x:=fun x hx hn=>by
  rw [Int.tmod_eq_emod_of_nonneg hx];exact⟨Int.emod_nonneg _ (by omega),Int.emod_lt_of_pos _ (by omega),by have:=Int.emod_add_mul_ediv x n;have h2:0≤n*(x/n):=Int.mul_nonneg (by omega) (Int.ediv_nonneg hx (by omega));omega⟩
 unfold C5;refine .ite (fun hn=> .ret ⟨⟨by simp,fun h1=>by dsimp only;omega,by simp⟩,h.up (by omega)⟩) fun hn=> ?_;simp only [decide_eq_false_iff_not]at hn;refine(zE h (by omega)).bind fun p ⟨hp,hc⟩=> ?_;refine .ite (fun _=> ?_) fun _=> ?_
 ·refine(zE hc (by omega)).bind fun q ⟨hq,hd⟩=> .req (by omega) (.ret ?_);have w1:IntKind.i64.wrap (p.1*256)=p.1*256:=Ba (by omega) (by omega);have w2:IntKind.i64.wrap (p.1*256+q.1)=p.1*256+q.1:=Ba (by omega) (by omega);have:=tm (p.1*256+q.1) (by omega) (by omega);dsimp only;rw [w1,w2];exact⟨⟨this.1,fun _=>this.2.1,by omega⟩,hd.up (by omega)⟩
 ·have:=tm p.1 hp.1 (by omega);exact .req (by omega) (.ret ⟨⟨this.1,fun _=>this.2.1,by dsimp only;omega⟩,hc.up (by omega)⟩)
theorem tK [Inhabited B7] {c:Ap} {k:Int} (l:List Int) (hl:l≠ []) (h:A1 c k) (hk:k≤4611686018427387000):Bf (RS c l) fun p=>p.1∈l∧A1 p.2 (k+2):=by unfold RS;have IE:0<l.length:=List.length_pos_iff.2 hl;refine(Dy l.length h hk).bind fun p ⟨hp,hc⟩=> ?_;exact Bf.bind (P:=fun y=>y∈l) (.getI hp.1 (hp.2.1 (by omega)) fun x hx=>hx) fun y hy=> .ret ⟨hy,hc⟩
theorem Hc [Inhabited B7] {c:Ap} {k:Int} (n:Int) (h:A1 c k) (hk:k≤4611686018427387000):Bf (F8 c n) fun p=>A1 p.2 (k+2):=by unfold F8;exact(Dy n h hk).bind fun p ⟨_,hc⟩=> .ret hc
theorem rV {α β:Type} (f:α→β) (l:List α) (o:List β):l.foldl (fun o x=>o++ [f x]) o=o++l.map f:=by
 induction l generalizing o with
 |nil=>simp
 |cons x l ih=>rw [List.foldl_cons,ih];simp
abbrev Af:=Ab
def BQ (a b c:Int):Bool:=decide (a≥b)&&decide (a≤c)
theorem Ca {a b c:Int}:BQ a b c=true↔b≤a∧a≤c:=by simp [BQ]
@[simp] theorem Ir (a b c:Int):Ga a b c=some (BQ a b c):=rfl
@[simp] theorem Ld (a b c:Int):G9 a b c=some (BQ a b c):=rfl
def Fl (b:UInt8):Bool:=(decide ((b.toNat:Int)≥97)&&decide ((b.toNat:Int)≤122))||(decide ((b.toNat:Int)≥48)&&decide ((b.toNat:Int)≤57))
def Kz (s more:Af):Bool:=s.all fun b=>Fl b||more.contains b
theorem zIh {a b:UInt8}:((a.toNat:Int)==(b.toNat:Int))=(a==b):=by
 rw [Bool.eq_iff_iff];simp only [beq_iff_eq];constructor
 ·intro h;exact UInt8.toNat_inj.1 (by omega)
 ·rintro rfl;rfl
theorem zyH {α:Type} (xs:List α) (p:α→Bool) (q:Nat→Bool) (h: ∀(i:Nat) (hi:i<xs.length),q i=p xs[i]):(List.range xs.length).all q=xs.all p:=by
 rw [Bool.eq_iff_iff];simp only [AK,List.mem_range];constructor
 ·intro hq x hx;obtain⟨i,hi,rfl⟩:=List.getElem_of_mem hx;rw [←h i hi];exact hq i hi
 ·intro hp i hi;rw [h i hi];exact hp _ (List.getElem_mem hi)
theorem Kx {α β:Type} {xs:List α} {body:Int→Option (Int ⊕ Option β)} (p:α→Bool) (b:β) (fin:Option β)
  (hs: ∀(i:Nat) (hi:i<xs.length),body i=some (if p xs[i]=true then .inl ((i+1:Nat):Int)else .inr (some b))) (he:body xs.length=some (.inr fin)):Ay body 0=if xs.all p=true then fin else some b:=by
 rw [N4 (n:=xs.length) (fun i=>match xs[i]? with|some x=>p x|none=>true) b fin (fun i hi=>by rw [hs i hi];simp [hi]) he,
  zyH xs p _ fun i hi=>by simp [hi]]
theorem rF {s more:Af} (h1:s.length≤2000000) (h2:more.length≤2000000):SE s more=some (Kz s more):=by
 unfold SE;rw [Kx (xs:=s) (fun b=>Fl b||more.contains b) false (some true) ?_ (by simp [mW])]
 ·unfold Kz;cases(s.all fun b=>Fl b||more.contains b)<;>rfl
 ·intro i hi;have Ch:Ay (fun t:Bool × Int=>V1 more i s[i] t.1 t.2) (Fl s[i],0)=some (if(Fl s[i]||more.contains s[i])=true then .inl ((i+1:Nat):Int)else .inr (some false)):=by
   have hl:=cT (xs:=more) (body:=fun t:Bool × Int=>V1 more i s[i] t.1 t.2) (fun k (ok:Bool)=>(ok,k)) (fun b ok=>some (.inl (ok||s[i]==b))) (fun ok=>nC i ok)
    (fun k hk ok=>by simp only [V1,Int.ofNat_lt,hk,decide_true,if_true,AL hk,Aa,Bi hk (by omega:more.length≤_),zIh,MQ];cases ok<;>simp) (fun ok=>by simp [V1]) (Fl s[i])
   rw [zEy (fun ok b=>ok||s[i]==b) (fun _=>True) (fun _ _ _ _=>trivial) (fun _ _ _ _=>rfl) trivial]at hl;have hf: ∀(l:Af) (ok:Bool),l.foldl (fun ok b=>ok||s[i]==b) ok=(ok||l.contains s[i]):=by
    intro l
    induction l with
    |nil=>intro ok;simp
    |cons c l ih=>intro ok;rw [List.foldl_cons,ih,List.contains_cons,Bool.or_assoc]
   rw [hl,hf];unfold nC;rw [Bi hi (by omega)];cases(Fl s[i]||more.contains s[i])<;>rfl
  simp only [mW,Int.ofNat_lt,hi,decide_true,if_true,AL hi,Aa];exact Ch
theorem zv0 (l:Af) (c:UInt8):decide (Lib.indexByte l c<0)= !l.contains c:=by
 induction l with
 |nil=>rfl
 |cons b l ih=>
  unfold Lib.indexByte;have EG:=Lib.indexByte_ge l c;rw [List.contains_cons];by_cases hb:b=c
  ·subst hb;simp
  ·have h1:(b==c)=false:=by simpa using hb
   have h2:(c==b)=false:=by simpa using fun h=>hb h.symm
   rw [h1,h2];simp only [AW,if_false,Bool.false_or];rw [←ih];by_cases hm:Lib.indexByte l c= -1
   ·simp [hm]
   ·have h3:(Lib.indexByte l c== -1)=false:=by simpa using hm
    rw [h3];simp only [AW,if_false];rw [decide_eq_decide];omega
theorem qW {s more:Af} (h1:s.length≤2000000):Sl s more=some (Kz s more):=by
 unfold Sl;rw [Kx (xs:=s) (fun b=>Fl b||more.contains b) false (some true) ?_ (by simp [mR])]
 ·unfold Kz;cases(s.all fun b=>Fl b||more.contains b)<;>rfl
 ·intro i hi;have hu:((s[i].toNat:Int)).toNat.toUInt8=s[i]:=by simp
  simp only [mR,Int.ofNat_lt,hi,decide_true,if_true,AL hi,Aa,mF,mP,YL,hu,zv0,Bi hi (by omega:s.length≤_)];rw [show((decide ((s[i].toNat:Int)≥97)&&decide ((s[i].toNat:Int)≤122))||(decide ((s[i].toNat:Int)≥48)&&decide ((s[i].toNat:Int)≤57)))=Fl s[i]from rfl];cases Fl s[i]<;>cases more.contains s[i]<;>rfl
def An (s:Af):Bool:=BQ s.length 1 12&&Kz s [46,47]
def Gl (s:Af):Bool:=decide ((s.length:Int)≤24)&&Kz s [46,45,44,95]
theorem kA {s:Af} (h:s.length≤2000000):SZ s=some (An s):=by simp only [SZ,Ir,Aa,rF h (more:= [46,47]) (by decide),An];cases BQ s.length 1 12<;>simp
theorem zGl {s:Af} (h:s.length≤2000000):Wj s=some (An s):=by simp only [Wj,Ld,Aa,qW h,An];cases BQ s.length 1 12<;>simp
theorem kF {s:Af} (h:s.length≤2000000):Wn s=some (Gl s):=by simp only [Wn,Aa,rF h (more:= [46,45,44,95]) (by decide),Gl];by_cases hl:(s.length:Int)≤24<;>simp [hl]
theorem zIO {s:Af} (h:s.length≤2000000):aA s=some (Gl s):=by simp only [aA,Aa,qW h,Gl];by_cases hl:(s.length:Int)≤24<;>simp [hl]
def Iq (v:Af) (gone:Bool):Bool:=Gl v&&(!gone||v== [])
theorem zDA {v:Af} {gone:Bool} (h:v.length≤2000000):ZD v gone=some (Iq v gone):=by simp only [ZD,zIO h,Aa,Iq,bne];cases Gl v<;>cases gone<;>cases(v== [])<;>rfl
theorem zFq {k v:Af} {gone:Bool} (hk:k.length≤2000000) (hv:v.length≤2000000):Z9 k v gone=some (An k&&Iq v gone):=by simp only [Z9,kA hk,kF hv,Aa,Iq];cases An k<;>simp
def Jx (ks:List Af) (i:Nat):Bool:=i==0||Op.bytesLess ((ks[i-1]?).getD []) ((ks[i]?).getD [])
def Ln (ks:List Af):Bool:=(List.range ks.length).all (Jx ks)
theorem dK: ∀(a b:Af),(Op.bytesLess a b||a==b)= !Op.bytesLess b a
 | [], []=>rfl
 | [],_::_=>rfl
 |_::_, []=>rfl
 |x::a,y::b=>by
  have ih:=dK a b;simp only [Op.bytesLess];rcases Nat.lt_trichotomy x.toNat y.toNat with h|h|h
  ·have h1:x<y:=UInt8.lt_iff_toNat_lt.2 h;have h2: ¬y<x:=fun h'=>by have:=UInt8.lt_iff_toNat_lt.1 h';omega
   have h3: ¬y=x:=fun h'=>by subst h';omega
   simp [h1,h2,h3]
  ·have h0:x=y:=UInt8.toNat_inj.1 h;subst h0;have h1: ¬x<x:=fun h'=>by have:=UInt8.lt_iff_toNat_lt.1 h';omega
   rw [show((x::a)==(x::b))=(a==b) by simp];simp only [h1,decide_false,Bool.false_or,beq_self_eq_true,Bool.true_and];exact ih
  ·have h1: ¬x<y:=fun h'=>by have:=UInt8.lt_iff_toNat_lt.1 h';omega
   have h2:y<x:=UInt8.lt_iff_toNat_lt.2 h;have h3: ¬x=y:=fun h'=>by subst h';omega
   simp [h1,h2,h3]
theorem dO {i:Nat} (h0:0<i) (h:i≤2000000):IntKind.i64.wrap ((i:Int)-1)=((i-1:Nat):Int):=by rw [Ba (by omega) (by omega)];omega
theorem x5 {α:Type} (xs:List α) (p:α→Bool) (q r:Nat→Bool) (h: ∀(i:Nat) (hi:i<xs.length),r i=(p xs[i]&&q i)):(List.range xs.length).all r=(xs.all p&&(List.range xs.length).all q):=by
 rw [←zyH xs p (fun i=>match xs[i]? with|some x=>p x|none=>true) fun i hi=>by simp [hi]];rw [Bool.eq_iff_iff];simp only [Ae,AK,List.mem_range];constructor
 ·intro hr;exact⟨fun i hi=>by have:=hr i hi;rw [h i hi,Ae]at this;simpa [hi]using this.1,fun i hi=>by have:=hr i hi;rw [h i hi,Ae]at this;exact this.2⟩
 ·rintro⟨h1,h2⟩ i hi;rw [h i hi,Ae];exact⟨by have:=h1 i hi;simpa [hi]using this,h2 i hi⟩
theorem zy2 {ks:List Af} (h:ks.length≤2000000) (hk: ∀k∈ks,k.length≤2000000):ZI ks=some (ks.all An&&Ln ks):=by
 unfold ZI Ln;rw [N4 (n:=ks.length) (fun i=>An ((ks[i]?).getD [])&&Jx ks i) false (some true) ?_ (by simp [mL]),x5 ks An (Jx ks) _ fun i hi=>by simp [hi]]
 ·cases(ks.all An&&(List.range ks.length).all (Jx ks))<;>rfl
 ·intro i hi;simp only [mL,Int.ofNat_lt,hi,decide_true,if_true,AL hi,Aa,zGl (hk _ (List.getElem_mem hi)),Bi hi (by omega:ks.length≤_),List.getElem?_eq_getElem hi,Option.getD_some,Jx];by_cases h0:i=0
  ·subst h0;cases An ks[0]<;>simp
  ·have hp:(i:Int)>0:=by omega
   have CK:i-1<ks.length:=by omega
   have hb:(i==0)=false:=by simpa using h0
   simp only [hp,decide_true,if_true,dO (Nat.pos_of_ne_zero h0) (by omega:i≤2000000),AL CK,Aa,dK,List.getElem?_eq_getElem CK,Option.getD_some,hb,Bool.false_or];cases An ks[i]<;>cases Op.bytesLess ks[i-1] ks[i]<;>rfl
theorem zzg {l:List Ac} (h:l.length≤2000000):ZN l=some (l.map (·.af)):=by
 have h1:=Gb (xs:=l) (body:=fun s:Int × List Af=>Sf l s.1 s.2) (fun i (o:List Af)=>(i,o)) (fun o w=>o++ [w.af]) (fun o=>some o) (fun q o=>o.length=q)
  (fun i hi o hI=>by
   refine⟨?_,by simp [hI]⟩;show Sf l i o=_;unfold Sf;have hr:((o.length:Int)+(([l[i].af]:List Af).length:Int))*16≤140737488355328∧(o.length:Int)+(([l[i].af]:List Af).length:Int)≤140737488355328:=by rw [AH,hI];omega
   rw [if_pos (by simpa using hi),AL hi,Aa,AQ hr,Bi hi (by omega)]) (fun o _=>by
   show Sf l l.length o=_;unfold Sf;rw [if_neg (by simp)]) (s:= []) rfl
 have hf: ∀(l:List Ac) (o:List Af),l.foldl (fun o w=>o++ [w.af]) o=o++l.map (·.af):=by
  intro l
  induction l with
  |nil=>intro o;simp
  |cons w l ih=>intro o;rw [List.foldl_cons,ih];simp
 have h2:=h1.1;rw [hf,List.nil_append]at h2;unfold ZN;exact h2
def CU (w:Ac):Bool:=An w.af&&Iq w.bb w.bh
def Ku (l:List Ac):Bool:=decide ((l.length:Int)≤24)&&(l.all CU&&Ln (l.map (·.af)))
def Lr (l:List Ac):Prop:=l.length≤2000000∧ ∀w∈l,w.af.length≤2000000∧w.bb.length≤2000000
theorem zCR {l:List Ac} (h:Lr l):Zp l=some (Ku l):=by
 have e1:FP l (fun y0_=>Zl y0_)=some (l.any fun w=> !Iq w.bb w.bh):=Qz _ (fun w hw=>by simp [Zl,zDA (h.2 w hw).2]) (by have:=h.1;omega);have e2:=zy2 (ks:=l.map (·.af)) (by simpa using h.1) (by simp only [List.mem_map];rintro k ⟨w,hw,rfl⟩;exact(h.2 w hw).1);simp only [Zp,zzg h.1,e1,e2,Aa,Ku,←List.not_all_eq_any_not];have e3:l.all CU=((l.map (·.af)).all An&&l.all fun w=>Iq w.bb w.bh):=by
  rw [Bool.eq_iff_iff];simp only [AK,Ae,CU,List.mem_map];constructor
  ·intro h;exact⟨by rintro k ⟨w,hw,rfl⟩;exact(h w hw).1,fun w hw=>(h w hw).2⟩
  ·rintro⟨h1,h2⟩ w hw;exact⟨h1 _ ⟨w,hw,rfl⟩,h2 w hw⟩
 rw [e3];generalize (l.map (·.af)).all An=b1;generalize Ln (l.map (·.af))=b2;generalize (l.all fun w=>Iq w.bb w.bh)=b3;by_cases hl:(l.length:Int)≤24<;>cases b1<;>cases b2<;>cases b3<;>simp [hl]
theorem zCW {l:List Ac} (h:Lr l):ZR l=some (Ku l):=by
 unfold ZR;have hn:=h.1;rw [N4 (n:=l.length) (fun i=>CU ((l[i]?).getD ⟨[], [],false⟩)&&Jx (l.map (·.af)) i) false (mQ l) ?_ (by simp [nD]),x5 l CU (Jx (l.map (·.af))) _ fun i hi=>by simp [hi]]
 ·unfold mQ Ku Ln;rw [List.length_map];cases(l.all CU&&(List.range l.length).all (Jx (l.map (·.af))))<;>simp
 ·intro i hi;have hm:=h.2 _ (List.getElem_mem hi);simp only [nD,Int.ofNat_lt,hi,decide_true,if_true,AL hi,Aa,zFq hm.1 hm.2,Bi hi (by omega:l.length≤_),List.getElem?_eq_getElem hi,Option.getD_some,Jx,List.getElem?_map,Option.map_some];rw [show(An l[i].af&&Iq l[i].bb l[i].bh)=CU l[i]from rfl];by_cases h0:i=0
  ·subst h0;cases CU l[0]<;>simp
  ·have hp:(i:Int)>0:=by omega
   have CK:i-1<l.length:=by omega
   have hb:(i==0)=false:=by simpa using h0
   simp only [hp,decide_true,if_true,dO (Nat.pos_of_ne_zero h0) (by omega:i≤2000000),AL CK,Aa,List.getElem?_eq_getElem CK,Option.map_some,Option.getD_some,hb,Bool.false_or];cases CU l[i]<;>cases Op.bytesLess l[i-1].af l[i].af<;>rfl
def B0 (l:List Ac):Bool:=Ku l&&l.all fun w=> !w.bh
theorem zG0 {l:List Ac} (h:Lr l):aY l=some (B0 l):=by have e1:FP l (fun y0_=>Zy y0_)=some (l.any fun w=> !!w.bh):=Qz _ (fun w hw=>by simp [Zy]) (by have:=h.1;omega);simp only [aY,zCR h,e1,Aa,B0,←List.not_all_eq_any_not];cases Ku l<;>simp
theorem Qw {l:List Ac} (h:Lr l):K6 l=some (B0 l):=by
 have hn:=h.1;unfold K6;rw [Kx (xs:=l) (fun w=> !w.bh) false (nR l) (fun i hi=>by simp only [nQ,Int.ofNat_lt,hi,decide_true,if_true,AL hi,Aa,Bi hi (by omega:l.length≤_)];cases l[i].bh<;>rfl) (by simp [nQ])]
 simp only [nR,zCW h,Aa,B0];cases(l.all fun w=> !w.bh)<;>simp
def small (b:UInt8):Bool:= !(decide ((b.toNat:Int)<97)||decide ((b.toNat:Int)>122))
def CH (s:Af) (n:Int):Bool:=s.all small&&BQ s.length 1 n
theorem qV {s:Af} {n:Int} (h:s.length≤2000000):R2 s n=some (CH s n):=by
 unfold R2;rw [Kx (xs:=s) small false (mD s n) (fun i hi=>by simp only [mA,Int.ofNat_lt,hi,decide_true,if_true,AL hi,Aa,Bi hi (by omega:s.length≤_)];rw [show(decide ((s[i].toNat:Int)<97)||decide ((s[i].toNat:Int)>122))= !small s[i] by simp [small]];cases small s[i]<;>rfl) (by simp [mA])]
 unfold mD CH BQ;cases s.all small<;>simp
theorem qG {s:Af} {n:Int} (h:s.length≤2000000):Sy s n=some (CH s n):=by
 unfold Sy;rw [Kx (xs:=s) small false (mB s n) (fun i hi=>by simp only [mC,Int.ofNat_lt,hi,decide_true,if_true,AL hi,Aa,Bi hi (by omega:s.length≤_)];rw [show(decide ((s[i].toNat:Int)<97)||decide ((s[i].toNat:Int)>122))= !small s[i] by simp [small]];cases small s[i]<;>rfl) (by simp [mC])]
 simp only [mB,Ld,Aa,CH];cases s.all small<;>simp
theorem kW {xs:List Af} {s:Af} (h:xs.length≤2000000):Qc xs s=some (BH (· ==s) xs):=by unfold Qc;refine s4 (· ==s) (fun i hi=> ?_) (by simp [nY]);simp only [nY,Int.ofNat_lt,hi,decide_true,if_true,AL hi,Aa,Bi hi (by omega:xs.length≤_)];cases xs[i]==s<;>rfl
theorem zFu {xs:List Af} {s:Af} (h:xs.length≤2000000):YK xs s=some (BH (· ==s) xs):=by unfold YK;refine s4 (· ==s) (fun i hi=> ?_) (by simp [lM]);simp only [lM,Int.ofNat_lt,hi,decide_true,if_true,AL hi,Aa,Bi hi (by omega:xs.length≤_)];rw [show(s==xs[i])=(xs[i]==s)from BEq.comm];cases xs[i]==s<;>rfl
theorem Yf (xs:List Af) (s:Af):(xs.any fun x=>x==s)=xs.contains s:=by rw [List.contains_eq_any_beq];congr 1;funext x;exact BEq.comm
theorem kB {xs:List Af} {s:Af} (h:xs.length≤2000000):PJ xs s=some (xs.contains s):=by simp only [PJ,zFu h,Aa,Od,Yf]
def Ou (cs:List Af) (i:Nat):Bool:=CH ((cs[i]?).getD []) 3&& !(cs.take i).contains ((cs[i]?).getD [])
def Ll (cs:List Af):Bool:=(List.range cs.length).all (Ou cs)
def HT (t:Ad) (i:Nat):Bool:=
 let x:=(t.ah[i]?).getD ⟨[],0,0⟩
 CH x.ae 1&&BQ x.bj 1 ((t.ar.length:Int)-1)&&BQ x.aq 0 3&&(i==0||Op.bytesLess ((t.ah[i-1]?).getD ⟨[],0,0⟩).ae x.ae)
def A0 (t:Ad):Bool:=CH t.ae 1&&(Ll t.ar&&BQ t.ar.length 2 4)&&decide ((t.ah.length:Int)≤3)&&(List.range t.ah.length).all (HT t)
structure Dl (t:Ad):Prop where
 name:t.ae.length≤2000000
 ij:t.ar.length≤2000000
 lr: ∀c∈t.ar,c.length≤2000000
 idxs:t.ah.length≤2000000
 idx: ∀x∈t.ah,x.ae.length≤2000000
theorem PG {α:Type} (xs:List α) (i:Nat):Bn xs 0 i=xs.take i:=by simp [Bn]
theorem zHJ {cs:List Af} (h:cs.length≤2000000) (hc: ∀c∈cs,c.length≤2000000):aG cs=some (Ll cs&&BQ cs.length 2 4):=by
 unfold aG;rw [N4 (n:=cs.length) (Ou cs) false (mY cs) ?_ (by simp [mZ])]
 ·simp only [mY,Ir,Aa,Ll];cases(List.range cs.length).all (Ou cs)<;>simp
 ·intro i hi;unfold mZ Ou;rw [if_pos (by simpa using hi),AL hi,Aa,qV (hc _ (List.getElem_mem hi)),Aa,AQ (by omega),PG,kW (by rw [List.length_take];omega),Aa,Od,Yf,Bi hi (by omega)];simp only [List.getElem?_eq_getElem hi,Option.getD_some];cases CH cs[i] 3<;>cases(cs.take i).contains cs[i]<;>rfl
theorem Qq {t:Ad} (h:Dl t):Mk t=some (A0 t):=by
 have hw:=Ba (n:=(t.ar.length:Int)-1) (by omega) (by have:=h.ij;omega);have hn:=h.idxs;have hl:Ay (fun s:Int=>Zm t s) 0=some ((List.range t.ah.length).all (HT t)):=by
  rw [N4 (n:=t.ah.length) (HT t) false (some true) ?_ (by simp [Zm])]
  ·cases(List.range t.ah.length).all (HT t)<;>rfl
  ·intro i hi;unfold HT;simp only [Zm,Int.ofNat_lt,hi,decide_true,if_true,AL hi,Aa,qV (h.idx _ (List.getElem_mem hi)),Ir,hw,Bi hi (by omega:t.ah.length≤_),List.getElem?_eq_getElem hi,Option.getD_some];by_cases h0:i=0
   ·subst h0;cases CH t.ah[0].ae 1<;>cases BQ t.ah[0].bj 1 ((t.ar.length:Int)-1)<;>cases BQ t.ah[0].aq 0 3<;>rfl
   ·have hp:(i:Int)>0:=by omega
    have CK:i-1<t.ah.length:=by omega
    have hb:(i==0)=false:=by simpa using h0
    simp only [hp,decide_true,if_true,dO (Nat.pos_of_ne_zero h0) (by omega:i≤2000000),AL CK,Aa,List.getElem?_eq_getElem CK,Option.getD_some,hb,Bool.false_or];cases CH t.ah[i].ae 1<;>cases BQ t.ah[i].bj 1 ((t.ar.length:Int)-1)<;>cases BQ t.ah[i].aq 0 3<;>cases Op.bytesLess t.ah[i-1].ae t.ah[i].ae<;>rfl
 unfold Mk A0;rw [qV h.name,Aa,zHJ h.ij h.lr,hl];by_cases hk:(t.ah.length:Int)≤3
 ·have B1: ¬(t.ah.length:Int)>3:=by omega
  simp only [hk,B1,decide_true,decide_false,Bool.or_false,Bool.and_true];cases CH t.ae 1<;>cases(Ll t.ar&&BQ t.ar.length 2 4)<;>simp
 ·have B1:(t.ah.length:Int)>3:=by omega
  simp only [hk,B1,decide_true,decide_false,Bool.or_true,Bool.and_false,Bool.false_and];cases CH t.ae 1<;>simp
theorem zEO {t:Ad} (h:Dl t):ZE t=some (A0 t):=by
 have hw:=Ba (n:=(t.ar.length:Int)-1) (by omega) (by have:=h.ij;omega);have hn:=h.idxs;have hm:=h.ij;have hl:Ay (fun s:Int=>Zh t s) 0=some ((List.range t.ah.length).all (HT t)):=by
  rw [N4 (n:=t.ah.length) (HT t) false (some true) ?_ (by simp [Zh])]
  ·cases(List.range t.ah.length).all (HT t)<;>rfl
  ·intro i hi;unfold HT;simp only [Zh,oH,Int.ofNat_lt,hi,decide_true,if_true,AL hi,Aa,qG (h.idx _ (List.getElem_mem hi)),Ld,hw,Bi hi (by omega:t.ah.length≤_),List.getElem?_eq_getElem hi,Option.getD_some];by_cases h0:i=0
   ·subst h0;cases CH t.ah[0].ae 1<;>cases BQ t.ah[0].bj 1 ((t.ar.length:Int)-1)<;>cases BQ t.ah[0].aq 0 3<;>rfl
   ·have hp:(i:Int)>0:=by omega
    have CK:i-1<t.ah.length:=by omega
    have hb:(i==0)=false:=by simpa using h0
    simp only [hp,decide_true,if_true,dO (Nat.pos_of_ne_zero h0) (by omega:i≤2000000),AL CK,Aa,List.getElem?_eq_getElem CK,Option.getD_some,hb,Bool.false_or,dK];cases CH t.ah[i].ae 1<;>cases BQ t.ah[i].bj 1 ((t.ar.length:Int)-1)<;>cases BQ t.ah[i].aq 0 3<;>cases Op.bytesLess t.ah[i-1].ae t.ah[i].ae<;>rfl
 have hc:Ay (fun s:Int=>Zg t s) 0=some (Ll t.ar&&(List.range t.ah.length).all (HT t)):=by
  rw [N4 (n:=t.ar.length) (Ou t.ar) false (mS t) ?_ (by simp [Zg])]
  ·unfold mS Ll;rw [hl];cases(List.range t.ar.length).all (Ou t.ar)<;>simp
  ·intro i hi;unfold Zg Ou;rw [if_pos (by simpa using hi),AL hi,Aa,qG (h.lr _ (List.getElem_mem hi)),Aa,AQ (by omega),PG,kB (by rw [List.length_take];omega),Aa,Bi hi (by omega)];simp only [List.getElem?_eq_getElem hi,Option.getD_some];cases CH t.ar[i] 3<;>cases(t.ar.take i).contains t.ar[i]<;>rfl
 unfold ZE A0;rw [qG h.name,Aa,Ld,Aa,hc];by_cases hk:(t.ah.length:Int)≤3
 ·have B1: ¬(t.ah.length:Int)>3:=by omega
  simp only [hk,B1,decide_true,decide_false,Bool.or_false,Bool.and_true];cases CH t.ae 1<;>cases Ll t.ar<;>cases BQ t.ar.length 2 4<;>simp
 ·have B1:(t.ah.length:Int)>3:=by omega
  simp only [hk,B1,decide_true,decide_false,Bool.or_true,Bool.and_false,Bool.false_and];cases CH t.ae 1<;>simp
theorem Jz {t:Ad} {s:Af} (h:Dl t):GQ t s=some (BH (fun x:Au=>x.ae==s) t.ah):=by have hn:=h.idxs;unfold GQ;refine s4 (fun x:Au=>x.ae==s) (fun i hi=> ?_) (by simp [nM]);simp only [nM,Int.ofNat_lt,hi,decide_true,if_true,AL hi,Aa,Bi hi (by omega:t.ah.length≤_)];cases t.ah[i].ae==s<;>rfl
theorem Xs {t:Ad} {s:Af} (h:Dl t):R0 t s=some (BH (fun x:Au=>x.ae==s) t.ah):=by have hn:=h.idxs;have e:Ff t.ah (fun y0_=>lQ y0_ s)=some (BH (fun x:Au=>x.ae==s) t.ah):=zxX (fun x:Au=>x.ae==s) (fun x _=>rfl) (by omega);simp only [R0,e,Aa]
def B4 (c:UInt8):Af→List Af
 | []=> [[]]
 |b::s=>if b=c then []::B4 c s else(match B4 c s with| []=> [[b]]|x::xs=>(b::x)::xs)
theorem rM (c:UInt8) (s:Af):B4 c s≠ []:=by
 cases s with
 |nil=>simp [B4]
 |cons b s=>simp only [B4];split;simp;split<;>simp
theorem Mo {c:UInt8}: ∀{s:Af},(∀b∈s,b≠c)→B4 c s= [s]
 | [],_=>rfl
 |b::s,h=>by have e:=Mo (c:=c) (s:=s) fun x hx=>h x (List.mem_cons_of_mem _ hx);simp only [B4,if_neg (h b (by simp)),e]
theorem NZ {c:UInt8}: ∀{p q:Af},(∀b∈p,b≠c)→B4 c (p++c::q)=p::B4 c q
 | [],q,_=>by simp [B4]
 |b::p,q,h=>by have e:=NZ (c:=c) (p:=p) (q:=q) fun x hx=>h x (List.mem_cons_of_mem _ hx);simp only [List.cons_append,B4,if_neg (h b (by simp)),e]
theorem bU (c:UInt8) (s:Af):(B4 c s).length=s.count c+1:=by
 induction s with
 |nil=>rfl
 |cons b s ih=>
  simp only [B4];by_cases h:b=c
  ·subst h;simp [ih]
  ·rw [if_neg h,List.count_cons_of_ne h];cases hs:B4 c s with
   |nil=>exact absurd hs (rM c s)
   |cons x xs=>rw [hs]at ih;simpa using ih
theorem PF {α:Type} (xs:List α) (i j:Nat):Bn xs (i:Int) (j:Int)=(xs.take j).drop i:=by simp [Bn]
def YG (c:UInt8) (s:Af) (t:List Af × Nat) (i:Nat):List Af × Nat:=if(s[i]?).getD 0=c then(t.1++ [(s.take i).drop t.2],i+1)else t
theorem w7 {s:Af} {c:UInt8} (h:s.length≤2000000):P4 s c.toNat=some (B4 c s):=by
 have h1:=Gb (xs:=List.range s.length) (body:=fun t:List Af × Int × Int=>R3 s c.toNat t.1 t.2.1 t.2.2) (fun i (t:List Af × Nat)=>(t.1,(t.2:Int),i)) (YG c s) (fun t=>mT s t.2 t.1)
  (fun i t=>t.2≤i∧(∀b∈(s.take i).drop t.2,b≠c)∧t.1++B4 c (s.drop t.2)=B4 c s∧t.1.length≤i)
  (fun i hi t hI=>by
   rw [List.length_range]at hi;obtain⟨I1,I2,I3,I4⟩:=hI;have hw:=Bi hi (by omega:s.length≤_);rw [List.getElem_range];constructor
   ·show R3 s c.toNat t.1 t.2 i=_;unfold R3 YG;rw [if_pos (by simpa using hi),AL hi,Aa,zIh,hw,PF,List.getElem?_eq_getElem hi,Option.getD_some];by_cases hc:s[i]=c
    ·have hr:((t.1.length:Int)+(([(s.take i).drop t.2]:List Af).length:Int))*16≤140737488355328∧(t.1.length:Int)+(([(s.take i).drop t.2]:List Af).length:Int)≤140737488355328:=by
      rw [AH];omega
     rw [if_pos (by simpa using hc),AQ (by omega),AQ hr,if_pos hc]
    ·rw [if_neg (by simpa using hc),if_neg hc]
   ·unfold YG;rw [List.getElem?_eq_getElem hi,Option.getD_some];have Cp:s.take (i+1)=s.take i++ [s[i]]:=by rw [List.take_succ_eq_append_getElem hi]
    have hd:(s.take (i+1)).drop t.2=(s.take i).drop t.2++ [s[i]]:=by rw [Cp,List.drop_append_of_le_length (by rw [List.length_take];omega)]
    by_cases hc:s[i]=c
    ·rw [if_pos hc];refine⟨Nat.le_refl _,by simp, ?_,by simp;omega⟩;have e:s.drop t.2=(s.take i).drop t.2++c::s.drop (i+1):=by
      have e0:s.drop t.2=(s.take i).drop t.2++s.drop i:=by
       conv=>lhs;rw [←List.take_append_drop i s]
       rw [List.drop_append_of_le_length (by rw [List.length_take];omega)]
      rw [e0,List.drop_eq_getElem_cons hi,hc]
     rw [e,NZ I2]at I3;simpa using I3
    ·rw [if_neg hc];refine⟨by omega, ?_,I3,by omega⟩;rw [hd];intro b hb;rcases Ai.1 hb with hb|hb
     ·exact I2 b hb
     ·simp at hb;subst hb;exact hc)
  (fun t hI=>by show R3 s c.toNat t.1 t.2 ((List.range s.length).length:Nat)=_;unfold R3;rw [if_neg (by simp)]) (s:=([],0)) ⟨Nat.le_refl _,by simp,by simp,by simp⟩
 generalize (List.range s.length).foldl (YG c s) ([],0)=t at h1;rw [List.length_range]at h1;obtain⟨h2,I1,I2,I3,I4⟩:=h1;unfold P4;refine Eq.trans h2 ?_;unfold mT;have hw:Bn s (t.2:Int) (s.length:Int)=s.drop t.2:=by rw [PF,List.take_length]
 have hr:((t.1.length:Int)+(([s.drop t.2]:List Af).length:Int))*16≤140737488355328∧(t.1.length:Int)+(([s.drop t.2]:List Af).length:Int)≤140737488355328:=by rw [AH];omega
 rw [hw,AQ (by omega),AQ hr,←I3];rw [List.take_length]at I2;rw [Mo I2]
theorem ZA (l:Af) (c:UInt8):(Lib.indexByte l c= -1∧ ∀b∈l,b≠c)∨ ∃p q:Af,l=p++c::q∧(∀b∈p,b≠c)∧Lib.indexByte l c=p.length:=by
 induction l with
 |nil=>exact .inl ⟨rfl,by simp⟩
 |cons b l ih=>
  unfold Lib.indexByte;by_cases hb:b=c
  ·subst hb;exact .inr ⟨[],l,by simp,by simp,by simp⟩
  ·have h1:(b==c)=false:=by simpa using hb
   rw [h1];simp only [AW,if_false];rcases ih with⟨e,h⟩|⟨p,q,rfl,h,e⟩
   ·refine .inl ⟨by simp [e],fun x hx=> ?_⟩;rcases Ag.1 hx with rfl|hx
    ·exact hb
    ·exact h x hx
   ·refine .inr ⟨b::p,q,by simp,fun x hx=> ?_, ?_⟩
    ·rcases Ag.1 hx with rfl|hx
     ·exact hb
     ·exact h x hx
    ·rw [e];have:((p.length:Int)== -1)=false:=by rw [beq_eq_false_iff_ne];omega
     rw [this];simp
theorem zvE {c:UInt8} {s:Af} (h: ∀b∈s,b≠c):s.count c=0:=List.count_eq_zero.2 fun hc=>h c hc rfl
theorem zFl {c:UInt8} {p q:Af} (h: ∀b∈p,b≠c):(p++c::q).count c=q.count c+1:=by rw [List.count_append,zvE h,List.count_cons_self];omega
theorem zxf {α:Type} {a:List α} {i:Nat} (x:α) (h:i<a.length):(a.set i x).take (i+1)=a.take i++ [x]:=by rw [List.take_succ_eq_append_getElem (by simpa using h),List.getElem_set_self,List.take_set,List.set_eq_of_length_le (by rw [List.length_take];omega)]
theorem zIn {a b:Int} (h: ¬a<b):(bif decide (a<b)then a else b)=b:=by simp [h]
theorem zEI {s:Af} {c:UInt8} (h:s.length≤2000000):V7 s [c]=some (B4 c s):=by
 have AJ:s.count c≤s.length:=List.count_le_length;have GL:IntKind.i64.wrap ((s.count c:Int)+1)=(s.count c:Int)+1:=Ba (by omega) (by omega);have F5:IntKind.i64.wrap ((s.length:Int)+1)=(s.length:Int)+1:=Ba (by omega) (by omega);have ON:(bif decide ((s.length:Int)+1<(s.count c:Int)+1)then(s.length:Int)+1 else(s.count c:Int)+1)=(s.count c:Int)+1:=zIn (by omega);have vU:IntKind.i64.wrap ((s.count c:Int)+1-1)=(s.count c:Int):=by rw [Ba (by omega) (by omega)];omega
 have key: ∀(n:Nat) (r:Af) (a:List Af) (i:Nat),r.count c=n→r.length≤s.length→a.length=s.count c+1→i+n=s.count c→a.take i++B4 c r=B4 c s→
   Ay (fun t:Af × Int × List Af=>RV s [c] 0 ((s.count c:Int)+1) t.1 t.2.1 t.2.2) (r,(i:Int),a)=some (B4 c s):=by
  intro n
  induction n with
  |zero=>
   intro r a i hr hl ha hi hI;have G5: ∀b∈r,b≠c:=fun b hb e=>by subst e;exact List.count_eq_zero.1 hr hb
   have O0:i<a.length:=by omega
   have jA:=Bi O0 (by omega);have hb:RV s [c] 0 ((s.count c:Int)+1) r i a=some (.inr (some (B4 c s))):=by unfold RV;rw [F5,ON,vU,if_neg (by simp;omega)];unfold mG;rw [AL O0,Aa,jA,Int.toNat_natCast,AQ (by rw [List.length_set];omega),PG,zxf r O0,←hI,Mo G5]
   rw [Fz];dsimp only;rw [hb]
  |succ n ih=>
   intro r a i hr hl ha hi hI;rcases ZA r c with⟨_,h0⟩|⟨p,q,rfl,hp,hx⟩
   ·rw [zvE h0]at hr;omega
   ·rw [zFl hp]at hr;have O0:i<a.length:=by omega
    have jA:=Bi O0 (by omega);simp only [Ar,Ao]at hl;have L6:IntKind.i64.wrap ((p.length:Int)+0)=(p.length:Int):=by rw [Ba (by omega) (by omega)];omega
    have Fe:IntKind.i64.wrap ((p.length:Int)+(([c]:Af).length:Int))=((p.length+1:Nat):Int):=by rw [AH,Ba (by omega) (by omega)];omega
    have hb:RV s [c] 0 ((s.count c:Int)+1) (p++c::q) i a=some (.inl (q,((i+1:Nat):Int),a.set i p)):=by
     unfold RV;have JZ:Zv (p++c::q) [c]=some (p.length:Int):=by simp [Zv,RP,hx]
     rw [F5,ON,vU,if_pos (by simp;omega),JZ,Aa,if_neg (by simp),L6,AQ (by rw [Ar];omega),AL O0,Aa,Fe,AQ (by rw [Ar,Ao];omega),jA,Int.toNat_natCast,PF,PG,List.take_length];have e1:(p++c::q).drop (p.length+1)=q:=by simp
     have e2:(p++c::q).take p.length=p:=by simp
     rw [e1,e2]
    rw [Fz];dsimp only;rw [hb];refine ih q (a.set i p) (i+1) (by omega) (by omega) (by simpa using ha) (by omega) ?_;rw [zxf p O0,←hI,NZ hp];simp
 have BY:ZC s [c]=some ((s.count c:Nat):Int):=rfl;have hz:(((-1:Int))==0)=false:=rfl;have A3:(([c]:Af)==([]:Af))=false:=rfl;unfold V7 mK;rw [hz,A3,if_neg (by simp),if_neg (by simp),if_pos (by simp),BY,Aa,GL];unfold mE;rw [F5,ON,AQ (by omega)];exact DG (key (s.count c) s (List.replicate ((s.count c:Int)+1).toNat []) 0 rfl (Nat.le_refl _) (by simp) (by omega) (by simp))
def field (s:Af):Bool:=BQ s.length 1 3&&Kz s []
theorem tG {s:Af} (h:s.length≤2000000):SM s=some (field s):=by simp only [SM,Ir,Aa,rF h (more:= []) (by decide),field];cases BQ s.length 1 3<;>simp
theorem cW {s:Af} (h:s.length≤2000000):SU s=some (field s):=by simp only [SU,Ld,Aa,qW h,field];cases BQ s.length 1 3<;>simp
theorem zDa (sep x y:Af) (r:List Af):Lib.join (x::(r++ [y])) sep=Lib.join (x::r) sep++sep++y:=by rw [Lib.join_cons,Lib.join_cons];simp [Lib.joinTail]
theorem zDy {xs:List Af} {sep:Af} {i:Nat} (hi:i<xs.length):Lib.join (xs.take (i+1)) sep=if i=0 then xs[i]else Lib.join (xs.take i) sep++sep++xs[i]:=by
 rw [List.take_succ_eq_append_getElem hi];cases xs with
 |nil=>simp at hi
 |cons x xs=>
  cases i with
  |zero=>simp [Lib.join_cons,Lib.joinTail]
  |succ i=>rw [List.take_succ_cons,List.cons_append,zDa,if_neg (by omega)]
def EB:List Af→Nat
 | []=>0
 |x::xs=>x.length+EB xs
theorem tI (xs:List Af) (sep:Af):(Lib.join xs sep).length≤EB xs+xs.length*sep.length:=by
 cases xs with
 |nil=>simp [Lib.join_nil]
 |cons x xs=>
  rw [Lib.join_cons,Ar];have: ∀r:List Af,(Lib.joinTail sep r).length=EB r+r.length*sep.length:=by
   intro r
   induction r with
   |nil=>simp [Lib.joinTail,EB]
   |cons y r ih=>
    have e:Lib.joinTail sep (y::r)=sep++y++Lib.joinTail sep r:=by simp [Lib.joinTail]
    rw [e,Ar,Ar,ih,EB,Ao,Nat.succ_mul];omega
  rw [this,EB,Ao,Nat.succ_mul];omega
theorem zzQ (xs:List Af) (i:Nat):EB (xs.take i)≤EB xs:=by
 induction xs generalizing i with
 |nil=>simp [EB]
 |cons x xs ih=>
  cases i with
  |zero=>simp [EB]
  |succ i=>simp only [List.take_succ_cons,EB];have:=ih i;omega
theorem zvx {xs:List Af} {i:Nat} (hi:i<xs.length):xs[i].length≤EB xs:=by
 induction xs generalizing i with
 |nil=>simp at hi
 |cons x xs ih=>
  cases i with
  |zero=>simp [EB]
  |succ i=>simp only [List.getElem_cons_succ,EB];have:=ih (i:=i) (by simpa using hi);omega
def Small (xs:List Af):Prop:=xs.length≤2000000∧EB xs≤2000000
theorem zHh {xs:List Af} {c:UInt8} (h:Small xs):oK xs [c]=some (Lib.join xs [c]):=by
 obtain⟨h1,h2⟩:=h;have hl:=Gb (xs:=List.range xs.length) (body:=fun s:Af × Int=>SC xs [c] s.1 s.2) (fun i (o:Af)=>(o,i)) (fun o i=>if i=0 then(xs[i]?).getD []else o++ [c]++(xs[i]?).getD []) (fun o=>some o) (fun i o=>o=Lib.join (xs.take i) [c])
  (fun i hi o hI=>by
   rw [List.length_range]at hi;rw [List.getElem_range];have hI:o=Lib.join (xs.take i) [c]:=hI;have hlen:o.length≤1010000000:=by have e1:=tI (xs.take i) [c];have e2:=zzQ xs i;rw [List.length_take,AH,Nat.mul_one]at e1;rw [hI];omega
   have hg:=zvx hi;have hw:=Bi hi (by omega:xs.length≤_);rw [List.getElem?_eq_getElem hi,Option.getD_some];refine⟨?_,by show _=_;rw [zDy hi,hI]⟩;show SC xs [c] o i=_;unfold SC;rw [if_pos (by simpa using hi),AL hi,Aa,hw];by_cases h0:i=0
   ·subst h0;have ho:o= []:=by rw [hI];rfl
    subst ho;rw [if_neg (by simp),AQ (by simp;omega),if_pos rfl];rfl
   ·rw [if_pos (by simp;omega),AQ (by rw [AH];omega),AQ (by rw [Ar,AH];omega),if_neg h0])
  (fun o _=>by show SC xs [c] o ((List.range xs.length).length:Nat)=_;unfold SC;rw [if_neg (by simp)]) (s:= []) (by simp [Lib.join_nil])
 generalize (List.range xs.length).foldl (fun o i=>if i=0 then(xs[i]?).getD []else o++ [c]++(xs[i]?).getD []) []=o at hl;obtain⟨h3,h4⟩:=hl;have h4:o=Lib.join (xs.take (List.range xs.length).length) [c]:=h4;rw [List.length_range,List.take_length]at h4;subst h4;exact h3
theorem zGM {xs:List Af} {c:UInt8} (h:Small xs):aH xs [c]=some (Lib.join xs [c]):=by obtain⟨h1,h2⟩:=h;have:=tI xs [c];rw [AH,Nat.mul_one]at this;exact AQ ⟨by omega,by omega⟩
theorem Small.each {xs:List Af} (h:Small xs): ∀x∈xs,x.length≤2000000:=by intro x hx;obtain⟨i,hi,rfl⟩:=List.getElem_of_mem hx;exact Nat.le_trans (zvx hi) h.2
def Be (t:Ad) (r:AE):Bool:=((r.ay.length:Int)==t.ar.length)&&r.ay.all field
theorem Wy {t:Ad} {r:AE} (h:Small r.ay):NS t r=some (Be t r):=by
 have h1:=h.1;unfold NS;rw [Kx (xs:=r.ay) field false (mX t r) (fun i hi=>by simp only [mU,Int.ofNat_lt,hi,decide_true,if_true,AL hi,Aa,tG (h.each _ (List.getElem_mem hi)),Bi hi (by omega:r.ay.length≤_)];cases field r.ay[i]<;>rfl) (by simp [mU])]
 unfold mX Be;cases r.ay.all field<;>simp
theorem Wu {t:Ad} {r:AE} (h:Small r.ay):NJ t r=some (Be t r):=by have e:FP r.ay (fun y0_=>Y8 y0_)=some (r.ay.any fun s=> !field s):=Qz _ (fun s hs=>by simp [Y8,cW (h.each s hs)]) (by have:=h.1;omega);simp only [NJ,e,Aa,Be,←List.not_all_eq_any_not];cases((r.ay.length:Int)==t.ar.length)<;>simp
def AR (t:Ad) (r:AE):Ac:=⟨t.ae++ [47]++(r.ay.head?).getD [],Lib.join r.ay.tail [44],false⟩
theorem lD {α:Type} (xs:List α):Bn xs 1 (xs.length:Int)=xs.tail:=by simp [Bn]
theorem Small.tail {xs:List Af} (h:Small xs):Small xs.tail:=by
 cases xs with
 |nil=>exact h
 |cons x xs=>exact⟨by have:=h.1;simp at this ⊢;omega,by have:=h.2;simp only [EB,List.tail_cons]at this ⊢;omega⟩
theorem Lj {t:Ad} {r:AE} (ht:t.ae.length≤2000000) (h:Small r.ay) (hn:r.ay≠ []):IQ t r=some (AR t r):=by obtain⟨x,xs,hx⟩:=List.exists_cons_of_ne_nil hn;have Jm:x.length≤2000000:=h.each x (by simp [hx]);unfold IQ AR;rw [AQ (by rw [AH];omega),lD,zHh h.tail,hx];rw [show getI (x::xs) 0=some x from rfl,Aa,AQ (by rw [Ar,AH];omega),AQ (by simp only [Ao];omega),Aa];rfl
theorem Ol {t:Ad} {r:AE} (ht:t.ae.length≤2000000) (h:Small r.ay) (hn:r.ay≠ []):Mf t r=some (AR t r):=by obtain⟨x,xs,hx⟩:=List.exists_cons_of_ne_nil hn;have Jm:x.length≤2000000:=h.each x (by simp [hx]);unfold Mf AR;rw [AQ (by rw [AH];omega),lD,zGM h.tail,hx];rw [show getI (x::xs) 0=some x from rfl,Aa,AQ (by rw [Ar,AH];omega),AQ (by simp only [Ao];omega),Aa];rfl
theorem zrn (c:UInt8) (s:Af):EB (B4 c s)≤s.length:=by
 induction s with
 |nil=>simp [B4,EB]
 |cons b s ih=>
  simp only [B4];split
  ·simp only [EB,List.length_nil,Ao];omega
  ·cases hs:B4 c s with
   |nil=>exact absurd hs (rM c s)
   |cons x xs=>rw [hs]at ih;simp only [EB,Ao]at ih ⊢;omega
theorem zzH {c:UInt8} {s:Af} (h:s.length≤1000000):Small (B4 c s):=by have h1:=bU c s;have h2:s.count c≤s.length:=List.count_le_length;have h3:=zrn c s;exact⟨by omega,by omega⟩
theorem zI6 {s p:Af} (hs:s.length≤2000000):VP s p=some (if p.isPrefixOf s=true then(s.drop p.length,true)else(s,false)):=by
 have e:YM s p=some (p.isPrefixOf s):=by
  unfold YM;by_cases hl:p.length≤s.length
  ·rw [if_pos (by simpa using hl),AQ (by omega),PG];congr 1;rw [Bool.eq_iff_iff,beq_iff_eq,List.isPrefixOf_iff_prefix,List.prefix_iff_eq_take];exact eq_comm
  ·rw [if_neg (by simpa using hl)];congr 1;symm;rw [←Bool.not_eq_true,List.isPrefixOf_iff_prefix];intro h;exact hl h.length_le
 unfold VP lL;rw [e,Aa];cases hp:p.isPrefixOf s with
 |false=>simp
 |true=>have hl:=(List.isPrefixOf_iff_prefix.1 hp).length_le;simp only [Bool.not_true,AW,if_false,if_true];rw [AQ (by omega),PF,List.take_length];rfl
def KK (a b:Ac):Bool:=a.af==b.af&&(a.bb==b.bb&&(a.bh==b.bh))
theorem zBk (a b:Ac):KK a b=KK b a:=by unfold KK;rw [show(a.af==b.af)=(b.af==a.af)from BEq.comm,show(a.bb==b.bb)=(b.bb==a.bb)from BEq.comm,show(a.bh==b.bh)=(b.bh==a.bh)from BEq.comm]
theorem zDD {a b:Ac} (h:KK a b=true):a.af=b.af:=by unfold KK at h;simp only [Ae,beq_iff_eq]at h;exact h.1
def B6 (w:Ac):AE:=⟨w.af.drop 2::B4 44 w.bb⟩
def Cq (t:Ad) (w:Ac):Bool:=Be t (B6 w)&&KK (AR t (B6 w)) w
def FU (w:Ac):Prop:=w.af.length≤1000∧w.bb.length≤1000
theorem pO {w:Ac} (h:FU w):Small (B6 w).ay:=by
 have h1:=bU 44 w.bb;have h2:w.bb.count 44≤w.bb.length:=List.count_le_length;have h3:=zrn 44 w.bb;obtain⟨k,v⟩:=h;refine⟨?_, ?_⟩
 ·show(w.af.drop 2::B4 44 w.bb).length≤_;rw [Ao];omega
 ·show EB (w.af.drop 2::B4 44 w.bb)≤_;rw [EB,List.length_drop];omega
theorem zCs {t:Ad} {w:Ac} (h:Be t (B6 w)=true):3≤w.af.length:=by unfold Be B6 at h;simp only [Ae,List.all_cons,field,Ca,List.length_drop]at h;omega
theorem zHy {t:Ad} {w:Ac} (ht:t.ae.length≤2000000) (h:FU w): ∃r,ZZ t w=some (r,Cq t w)∧(Cq t w=true→r=B6 w):=by
 have hs:=pO h;have Jl:=bU 44 w.bb;have OQ:w.bb.count 44≤w.bb.length:=List.count_le_length;obtain⟨hk,hv⟩:=h;unfold ZZ;by_cases h3:w.af.length<3
 ·rw [if_pos (by simp;omega)];have:Cq t w=false:=by
   unfold Cq;cases hg:Be t (B6 w)with
   |false=>rfl
   |true=>have:=zCs hg;omega
  exact⟨_,by rw [this],by rw [this];intro h;cases h⟩
 ·have hw:Bn w.af 2 (w.af.length:Int)=w.af.drop 2:=by
   have:=PF w.af 2 w.af.length;rw [List.take_length]at this;exact this
  have HD:P4 w.bb 44=some (B4 44 w.bb):=w7 (c:=44) (by omega);have hr:(([w.af.drop 2]:List Af).length+(B4 44 w.bb).length:Int)*16≤140737488355328∧(([w.af.drop 2]:List Af).length:Int)+(B4 44 w.bb).length≤140737488355328:=by rw [AH];omega
  rw [if_neg (by simp;omega),AQ (by omega),HD,Aa,hw,AQ hr];rw [show(⟨[w.af.drop 2]++B4 44 w.bb⟩:AE)=B6 w from rfl,Wy hs,Aa];unfold Cq;cases hg:Be t (B6 w)with
  |false=>exact⟨_,by rw [if_neg (by simp)];rfl,by simp⟩
  |true=>rw [if_pos rfl,Lj ht hs (by simp [B6]),Aa];exact⟨B6 w,by rw [Bool.true_and];rfl,fun _=>rfl⟩
theorem zHV {t:Ad} {w:Ac} (ht:t.ae.length=1) (h:FU w): ∃r,Zb t w=some (r,Cq t w)∧(Cq t w=true→r=B6 w):=by
 have hs:=pO h;have Jl:=bU 44 w.bb;have OQ:w.bb.count 44≤w.bb.length:=List.count_le_length;obtain⟨hk,hv⟩:=h;unfold Zb;have HD:V7 w.bb [44]=some (B4 44 w.bb):=zEI (by omega);rw [AQ (by rw [AH];omega),zI6 (by omega),Aa,HD,Aa];have hr: ∀x:Af,(([x]:List Af).length+(B4 44 w.bb).length:Int)*16≤140737488355328∧(([x]:List Af).length:Int)+(B4 44 w.bb).length≤140737488355328:=by intro x;rw [AH];omega
 rw [AQ (hr _)];cases hp:(t.ae++ [47]).isPrefixOf w.af with
 |false=>
  have Dt:Cq t w=false:=by
   unfold Cq;cases hw:KK (AR t (B6 w)) w with
   |false=>simp
   |true=>have gH:=zDD hw;rw [←Bool.not_eq_true,List.isPrefixOf_iff_prefix]at hp;exact absurd ⟨_,gH⟩ hp
  rw [Dt];exact⟨_,by rw [if_neg (by simp)],by simp⟩
 |true=>
  have hl:(t.ae++ [47]).length=2:=by rw [Ar,ht];rfl
  simp only [if_true,hl];rw [show(⟨[w.af.drop 2]++B4 44 w.bb⟩:AE)=B6 w from rfl,Wu hs,Aa];unfold Cq;cases hg:Be t (B6 w)with
  |false=>exact⟨_,by rw [if_neg (by simp)];rfl,by simp⟩
  |true=>
   rw [if_pos rfl,Ol (by omega) hs (by simp [B6]),Aa];rw [show(w.af==(AR t (B6 w)).af&&(w.bb==(AR t (B6 w)).bb&&w.bh==(AR t (B6 w)).bh))=KK w (AR t (B6 w))from rfl,zBk];cases KK (AR t (B6 w)) w with
   |false=>exact⟨_,by rw [if_pos (by simp)];rfl,by simp⟩
   |true=>exact⟨_,by rw [if_neg (by simp)];rfl,fun _=>rfl⟩
theorem Tb {α β:Type} (p:α→Bool) (f:α→β) (l:List α) (o:List β):l.foldl (fun o x=>if p x=true then o++ [f x]else o) o=o++(l.filter p).map f:=by
 induction l generalizing o with
 |nil=>simp
 |cons x l ih=>rw [List.foldl_cons,ih,List.filter_cons];cases p x<;>simp
def rows (t:Ad) (l:List Ac):List AE:=(l.filter (Cq t)).map B6
theorem Qp {t:Ad} {l:List Ac} (ht:t.ae.length≤2000000) (hl:l.length≤2000000) (h: ∀w∈l,FU w):Jp t l=some (rows t l):=by
 have h1:=Gb (xs:=l) (body:=fun s:List AE × Int=>Sz t l s.1 s.2) (fun i (o:List AE)=>(o,i)) (fun o w=>if Cq t w=true then o++ [B6 w]else o) (fun o=>some o) (fun i o=>o.length≤i)
  (fun i hi o hI=>by
   have hI:o.length≤i:=hI;obtain⟨r,e,hr⟩:=zHy ht (h _ (List.getElem_mem hi));have hw:=Bi hi (by omega:l.length≤_);refine⟨?_,by
    show List.length (if Cq t l[i]=true then o++ [B6 l[i]]else o)≤i+1;split
    ·rw [Ar,AH];omega
    ·omega⟩
   show Sz t l o i=_;unfold Sz;rw [if_pos (by simpa using hi),AL hi,Aa,e,Aa,hw];cases hb:Cq t l[i]with
   |false=>rfl
   |true=>
    have hq:((o.length:Int)+(([r]:List AE).length:Int))*24≤140737488355328∧(o.length:Int)+(([r]:List AE).length:Int)≤140737488355328:=by rw [AH];omega
    rw [if_pos rfl,AQ hq,if_pos rfl,hr hb])
  (fun o _=>by show Sz t l o l.length=_;unfold Sz;rw [if_neg (by simp)]) (s:= []) (by simp)
 rw [Tb]at h1;exact h1.1
theorem sG {t:Ad} {l:List Ac} (ht:t.ae.length=1) (hl:l.length≤2000000) (h: ∀w∈l,FU w):PL t l=some (rows t l):=by
 have h1:=Gb (xs:=l) (body:=fun s:Int × List AE=>RJ t l s.1 s.2) (fun i (o:List AE)=>(i,o)) (fun o w=>if Cq t w=true then o++ [B6 w]else o) (fun o=>some o) (fun i o=>o.length≤i)
  (fun i hi o hI=>by
   have hI:o.length≤i:=hI;obtain⟨r,e,hr⟩:=zHV ht (h _ (List.getElem_mem hi));have hw:=Bi hi (by omega:l.length≤_);refine⟨?_,by
    show List.length (if Cq t l[i]=true then o++ [B6 l[i]]else o)≤i+1;split
    ·rw [Ar,AH];omega
    ·omega⟩
   show RJ t l i o=_;unfold RJ;rw [if_pos (by simpa using hi),AL hi,Aa,e,Aa,hw];cases hb:Cq t l[i]with
   |false=>rfl
   |true=>
    have hq:((o.length:Int)+(([r]:List AE).length:Int))*24≤140737488355328∧(o.length:Int)+(([r]:List AE).length:Int)≤140737488355328:=by rw [AH];omega
    rw [if_pos rfl,AQ hq,if_pos rfl,hr hb])
  (fun o _=>by show RJ t l l.length o=_;unfold RJ;rw [if_neg (by simp)]) (s:= []) (by simp)
 rw [Tb]at h1;exact h1.1
def head (t:Ad) (n:Af):Af:=t.ae++ [46]++n
def C6 (t:Ad) (n k:Af):Bool:=match B4 47 k with
 | [x,y,z]=>x==head t n&&field y&&field z
 |_=>false
theorem zEN {t:Ad} {n k:Af} (ht:t.ae.length≤2000000) (hn:n.length≤2000000) (hk:k.length≤1000000): ∃a b,Zj t n k=some (a,b,C6 t n k):=by
 have Pm:=zzH (c:=47) hk;have he:P4 k 47=some (B4 47 k):=w7 (c:=47) (by omega);unfold Zj C6;rw [he,Aa];generalize B4 47 k=ps at Pm
 match ps,Pm with
 | [],_=>exact⟨_,_,by rw [if_pos (by simp)]⟩
 | [_],_=>exact⟨_,_,by rw [if_pos (by simp)]⟩
 | [_,_],_=>exact⟨_,_,by rw [if_pos (by simp)]⟩
 |_::_::_::_::l,_=>exact⟨_,_,by rw [if_pos (by simp;omega)]⟩
 | [x,y,z],Pm=>
  have hy:=Pm.each y (by simp);have hz:=Pm.each z (by simp);dsimp only;rw [if_neg (by simp),show getI [x,y,z] 0=some x from rfl,Aa,AQ (by rw [AH];omega),AQ (by rw [Ar,AH];omega)];rw [show(t.ae++ [46]++n)=head t n from rfl];by_cases hx:x=head t n
  ·rw [if_neg (by simp [hx]),show getI [x,y,z] 1=some y from rfl,Aa,tG hy,Aa];have Re:(x==head t n)=true:=by simpa using hx
   rw [Re];cases field y with
   |false=>exact⟨_,_,by rw [if_neg (by simp)];rfl⟩
   |true=>
    rw [if_pos rfl,show getI [x,y,z] 2=some z from rfl,Aa,tG hz,Aa];cases field z with
    |false=>exact⟨_,_,by rw [if_pos (by simp)];rfl⟩
    |true=>exact⟨_,_,by rw [if_neg (by simp)];rfl⟩
  ·have Re:(x==head t n)=false:=by simpa using hx
   rw [Re];exact⟨_,_,by rw [if_pos (by simpa [bne]using Re)];rfl⟩
theorem zBP {c:UInt8} {s x y:Af} {r:List Af} (h:B4 c s=x::y::r): ∃q,s=x++c::q:=by
 rcases ZA s c with⟨_,h0⟩|⟨p,q,rfl,hp,_⟩
 ·rw [Mo h0]at h;simp at h
 ·rw [NZ hp]at h;obtain⟨rfl,_⟩:=List.cons.inj h;exact⟨q,rfl⟩
theorem zQ {x:Af} {c:UInt8} (hx:x.length≤2000000):(SN x [c]=some (x, [],false)∧ ∀b∈x,b≠c)∨ ∃p q,x=p++c::q∧(∀b∈p,b≠c)∧SN x [c]=some (p,q,true):=by
 have hi:RP x [c]=some (Lib.indexByte x c):=rfl;rcases ZA x c with⟨e,h0⟩|⟨p,q,rfl,hp,e⟩
 ·refine .inl ⟨?_,h0⟩;unfold SN YO;rw [hi,Aa,e,if_neg (by simp)];rfl
 ·refine .inr ⟨p,q,rfl,hp, ?_⟩;rw [Ar,Ao]at hx;have hw:IntKind.i64.wrap ((p.length:Int)+(([c]:Af).length:Int))=((p.length+1:Nat):Int):=by rw [AH,Ba (by omega) (by omega)];omega
  unfold SN YO;rw [hi,Aa,e,if_pos (by simp),AQ (by rw [Ar,Ao];omega),hw,AQ (by rw [Ar,Ao];omega),PG,PF,List.take_length];have e1:(p++c::q).drop (p.length+1)=q:=by simp
  have e2:(p++c::q).take p.length=p:=by simp
  rw [e1,e2];rfl
theorem zFi {s:Af} (h:(47:UInt8)∈s):field s=false:=by
 unfold field Kz;have:(s.all fun b=>Fl b||([]:Af).contains b)=false:=by rw [List.all_eq_false];exact⟨47,h,by decide⟩
 rw [this,Bool.and_false]
theorem yP {t:Ad} {n:Af} (ht:t.ae.length≤2000000) (hn:n.length≤2000000):Vu t n=some (head t n++ [47]):=by unfold Vu head;rw [AQ (by rw [AH];omega),AQ (by rw [Ar,AH];omega),AQ (by rw [Ar,Ar,AH,AH];omega)]
theorem zFM {t:Ad} {n k:Af} (ht:t.ae.length≤2000000) (hn:n.length≤2000000) (hk:k.length≤1000000) (hh: ∀b∈head t n,b≠47): ∃a b,YW t n k=some (a,b,C6 t n k):=by
 unfold YW;rw [yP ht hn,Aa,zI6 (by omega),Aa];cases hp:(head t n++ [47]).isPrefixOf k with
 |false=>
  have Dt:C6 t n k=false:=by
   unfold C6;split
   ·rename_i x y z hs;cases hx:x==head t n with
    |false=>simp
    |true=>obtain⟨q,hq⟩:=zBP hs;rw [←Bool.not_eq_true,List.isPrefixOf_iff_prefix]at hp;refine absurd ⟨q, ?_⟩ hp;rw [hq,(by simpa using hx:x=head t n)];simp
   ·rfl
  rw [Dt];simp only [AW,if_false];rcases zQ (x:=k) (c:=47) (by omega)with⟨e,_⟩|⟨p,q,_,_,e⟩
  ·rw [e];exact⟨_,_,rfl⟩
  ·rw [e];exact⟨_,_,rfl⟩
 |true=>
  obtain⟨rest,Dv⟩:=List.isPrefixOf_iff_prefix.1 hp;have Jj:k=head t n++47::rest:=by rw [←Dv];simp
  have hd:k.drop (head t n++ [47]).length=rest:=by rw [←Dv,List.drop_left]
  have Jl:B4 47 k=head t n::B4 47 rest:=by rw [Jj,NZ hh]
  have hlen:rest.length≤1000000:=by
   have:k.length=(head t n).length+(rest.length+1):=by rw [Jj,Ar,Ao]
   omega
  simp only [if_true,hd];unfold C6;rw [Jl];rcases zQ (x:=rest) (c:=47) (by omega)with⟨e,h0⟩|⟨p,q,rfl,XU,e⟩
  ·rw [e,Mo h0];exact⟨_,_,rfl⟩
  ·rw [e,NZ XU,Aa];rw [Ar,Ao]at hlen;simp only [if_true];rw [cW (s:=p) (by omega),Aa];rcases ZA q 47 with⟨_,h0⟩|⟨p3,q3,rfl,hp3,_⟩
   ·rw [Mo h0];dsimp only;rw [beq_self_eq_true,Bool.true_and];cases field p with
    |false=>exact⟨_,_,rfl⟩
    |true=>
     rw [if_pos rfl,cW (s:=q) (by omega),Aa];cases field q with
     |false=>exact⟨_,_,rfl⟩
     |true=>exact⟨_,_,rfl⟩
   ·have hf:field (p3++47::q3)=false:=zFi (by simp);rw [NZ hp3];cases hq:B4 47 q3 with
    |nil=>exact absurd hq (rM _ _)
    |cons x xs=>
     dsimp only;cases field p with
     |false=>exact⟨_,_,rfl⟩
     |true=>rw [if_pos rfl,cW (by rw [Ar,Ao]at hlen ⊢;omega),Aa,hf];exact⟨_,_,rfl⟩
def Bg (t:Ad) (n:Af) (l:List Ac):List Af:=(l.filter fun w=>C6 t n w.af).map (·.af)
theorem cB {t:Ad} {n:Af} {l:List Ac} (ht:t.ae.length≤2000000) (hn:n.length≤2000000) (hl:l.length≤2000000) (h: ∀w∈l,FU w):Jq t n l=some (Bg t n l):=by
 have h1:=Gb (xs:=l) (body:=fun s:List Af × Int=>RY t n l s.1 s.2) (fun i (o:List Af)=>(o,i)) (fun o w=>if C6 t n w.af=true then o++ [w.af]else o) (fun o=>some o) (fun i o=>o.length≤i)
  (fun i hi o hI=>by
   have hI:o.length≤i:=hI;have iU:=h _ (List.getElem_mem hi);obtain⟨a,b,e⟩:=zEN (t:=t) (n:=n) (k:=l[i].af) ht hn (by have:=iU.1;omega);have hw:=Bi hi (by omega:l.length≤_);refine⟨?_,by
    show List.length (if C6 t n l[i].af=true then o++ [l[i].af]else o)≤i+1;split
    ·rw [Ar,AH];omega
    ·omega⟩
   show RY t n l o i=_;unfold RY;rw [if_pos (by simpa using hi),AL hi,Aa,e,Aa,hw];cases hb:C6 t n l[i].af with
   |false=>rfl
   |true=>
    have hq:((o.length:Int)+(([l[i].af]:List Af).length:Int))*16≤140737488355328∧(o.length:Int)+(([l[i].af]:List Af).length:Int)≤140737488355328:=by rw [AH];omega
    rw [if_pos rfl,AQ hq,if_pos rfl])
  (fun o _=>by show RY t n l o l.length=_;unfold RY;rw [if_neg (by simp)]) (s:= []) (by simp)
 rw [Tb (fun w:Ac=>C6 t n w.af) (fun w=>w.af)]at h1;exact h1.1
theorem qC {t:Ad} {n:Af} {l:List Ac} (ht:t.ae.length≤2000000) (hn:n.length≤2000000) (hh: ∀b∈head t n,b≠47) (hl:l.length≤2000000) (h: ∀w∈l,FU w):K1 t n l=some (Bg t n l):=by
 have h1:=Gb (xs:=l) (body:=fun s:Int × List Af=>RR t n l s.1 s.2) (fun i (o:List Af)=>(i,o)) (fun o w=>if C6 t n w.af=true then o++ [w.af]else o) (fun o=>some o) (fun i o=>o.length≤i)
  (fun i hi o hI=>by
   have hI:o.length≤i:=hI;have iU:=h _ (List.getElem_mem hi);obtain⟨a,b,e⟩:=zFM (t:=t) (n:=n) (k:=l[i].af) ht hn (by have:=iU.1;omega) hh;have hw:=Bi hi (by omega:l.length≤_);refine⟨?_,by
    show List.length (if C6 t n l[i].af=true then o++ [l[i].af]else o)≤i+1;split
    ·rw [Ar,AH];omega
    ·omega⟩
   show RR t n l i o=_;unfold RR;rw [if_pos (by simpa using hi),AL hi,Aa,e,Aa,hw];cases hb:C6 t n l[i].af with
   |false=>rfl
   |true=>
    have hq:((o.length:Int)+(([l[i].af]:List Af).length:Int))*16≤140737488355328∧(o.length:Int)+(([l[i].af]:List Af).length:Int)≤140737488355328:=by rw [AH];omega
    rw [if_pos rfl,AQ hq,if_pos rfl])
  (fun o _=>by show RR t n l l.length o=_;unfold RR;rw [if_neg (by simp)]) (s:= []) (by simp)
 rw [Tb (fun w:Ac=>C6 t n w.af) (fun w=>w.af)]at h1;exact h1.1
def less (a b:List Af):List Af:=a.filter fun k=> !b.contains k
theorem xT {a b:List Af} (ha:a.length≤2000000) (hb:b.length≤2000000):aF a b=some (less a b):=by
 have h1:=Gb (xs:=a) (body:=fun s:List Af × Int=>R5 a b s.1 s.2) (fun i (o:List Af)=>(o,i)) (fun o k=>if(!b.contains k)=true then o++ [k]else o) (fun o=>some o) (fun i o=>o.length≤i)
  (fun i hi o hI=>by
   have hI:o.length≤i:=hI;have hw:=Bi hi (by omega:a.length≤_);have hx:decide (BH (fun x=>x==a[i]) b<0)= !b.contains a[i]:=by rw [←Yf,←Od,←decide_not];rw [decide_eq_decide];omega
   refine⟨?_,by
    show List.length (if(!b.contains a[i])=true then o++ [a[i]]else o)≤i+1;split
    ·rw [Ar,AH];omega
    ·omega⟩
   show R5 a b o i=_;unfold R5;rw [if_pos (by simpa using hi),AL hi,Aa,kW hb,Aa,hw,hx];cases hc:b.contains a[i]with
   |true=>rfl
   |false=>
    have hq:((o.length:Int)+(([a[i]]:List Af).length:Int))*16≤140737488355328∧(o.length:Int)+(([a[i]]:List Af).length:Int)≤140737488355328:=by rw [AH];omega
    rw [if_pos (by rfl),AQ hq,if_pos (by rfl)])
  (fun o _=>by show R5 a b o a.length=_;unfold R5;rw [if_neg (by simp)]) (s:= []) (by simp)
 rw [Tb (fun k:Af=> !b.contains k) (fun k=>k)]at h1;have h2:=h1.1;rw [List.nil_append,List.map_id']at h2;exact h2
theorem yH {a b:List Af} (ha:a.length≤2000000) (hb:b.length≤2000000):V5 a b=some (less a b):=by unfold V5 Vt Jr;rw [Ob (by omega) (by omega),Aa,AQ (by omega),cA (fun k=>b.contains k) (fun k _=>by simp only [nK,kB hb,Aa])];rfl
structure EO (t:Ad) (n:Af) (x:Au):Prop where
 at_:getI t.ah (BH (fun y:Au=>y.ae==n) t.ah)=some x
 name:x.ae=n
 c0:1≤x.bj
 c1:x.bj≤(t.ar.length:Int)-1
def Db (r:AE) (c:Int):Af:=(r.ay[c.toNat]?).getD []
def Bv (t:Ad) (n:Af) (c:Int) (r:AE):Af:=head t n++ [47]++Db r c++ [47]++Db r 0
structure Lz (t:Ad) (r:AE):Prop where
 len:r.ay.length=t.ar.length
 small:Small r.ay
theorem yU {t:Ad} {l:List Ac} (h: ∀w∈l,FU w): ∀r∈rows t l,Lz t r:=by intro r hr;obtain⟨w,hw,rfl⟩:=List.mem_map.1 hr;obtain⟨h1,h2⟩:=List.mem_filter.1 hw;have h3:Cq t w=true:=h2;unfold Cq Be at h3;simp only [Ae,beq_iff_eq]at h3;exact⟨by have:=h3.1.1;omega,pO (h w h1)⟩
theorem Xh {t:Ad} {r:AE} (hr:Lz t r) {c:Int} (h0:0≤c) (h1:c≤(t.ar.length:Int)-1):getI r.ay c=some (Db r c)∧(Db r c).length≤2000000:=by
 obtain⟨y,e,hm,e2⟩:=IX (xs:=r.ay) h0 (by have:=hr.len;omega);have hv:Db r c=y:=by simp [Db,e2]
 rw [hv];exact⟨e,hr.small.each y hm⟩
theorem WN {t:Ad} {n:Af} {x:Au} {r:AE} (ht:t.ae.length≤2000000) (hn:n.length≤2000000) (hx:EO t n x) (hr:Lz t r):IS t x r=some (Bv t n x.bj r):=by
 obtain⟨g1,l1⟩:=Xh hr (c:=x.bj) (by have:=hx.c0;omega) hx.c1;obtain⟨g2,l2⟩:=Xh hr (c:=0) (by omega) (by have:=hx.c0;have:=hx.c1;omega);have e:=hx.name;subst e;unfold IS Bv;rw [AQ (by simp only [head,Ar,Ao,List.length_nil];omega),AQ (by simp only [head,Ar,Ao,List.length_nil];omega),AQ (by simp only [head,Ar,Ao,List.length_nil];omega),g1,Aa,
  AQ (by simp only [head,Ar,Ao,List.length_nil];omega),AQ (by simp only [head,Ar,Ao,List.length_nil];omega),g2,Aa,
  AQ (by simp only [head,Ar,Ao,List.length_nil];omega)]
 rfl
theorem WT {t:Ad} {n:Af} {x:Au} {r:AE} (hS:Dl t) (hn:n.length≤2000000) (hx:EO t n x) (hr:Lz t r):Ko t n r=some (Bv t n x.bj r):=by
 obtain⟨g1,l1⟩:=Xh hr (c:=x.bj) (by have:=hx.c0;omega) hx.c1;obtain⟨g2,l2⟩:=Xh hr (c:=0) (by omega) (by have:=hx.c0;have:=hx.c1;omega);have ht:=hS.name;have hi:NQ t n=some x:=by unfold NQ;rw [Xs hS,Aa,hx.at_];rfl
 unfold Ko Bv;rw [yP ht hn,Aa,hi,Aa,g1,Aa,AQ (by simp only [head,Ar,Ao,List.length_nil];omega),AQ (by simp only [head,Ar,Ao,List.length_nil];omega),g2,Aa,AQ (by simp only [head,Ar,Ao,List.length_nil];omega)]
def wanted (t:Ad) (n:Af) (x:Au) (l:List Ac):List Af:=(rows t l).map (Bv t n x.bj)
theorem rows_len (t:Ad) (l:List Ac):(rows t l).length≤l.length:=by unfold rows;rw [List.length_map];exact List.length_filter_le _ _
theorem zxv {t:Ad} {n:Af} {x:Au} {l:List Ac} (hS:Dl t) (hn:n.length≤2000000) (hx:EO t n x) (hl:l.length≤2000000) (h: ∀w∈l,FU w):Sq t n l=some (wanted t n x l):=by
 have Ch:=yU (t:=t) h;have J8:=rows_len t l;unfold Sq;rw [Qp hS.name hl h,Aa];have h1:=Gb (xs:=rows t l) (body:=fun s:List Af × Int=>Se t n (rows t l) s.1 s.2) (fun i (o:List Af)=>(o,i)) (fun o r=>o++ [Bv t n x.bj r]) (fun o=>some o) (fun i o=>o.length=i)
  (fun i hi o hI=>by
   have hI:o.length=i:=hI;have hw:=Bi hi (by omega);refine⟨?_,by show List.length _=_;rw [Ar,AH];omega⟩;show Se t n (rows t l) o i=_;unfold Se;have hq:((o.length:Int)+(([Bv t n x.bj (rows t l)[i]]:List Af).length:Int))*16≤140737488355328∧(o.length:Int)+(([Bv t n x.bj (rows t l)[i]]:List Af).length:Int)≤140737488355328:=by rw [AH];omega
   rw [if_pos (by simpa using hi),AL hi,Aa,Jz hS,Aa,hx.at_,Aa,WN hS.name hn hx (Ch _ (List.getElem_mem hi)),Aa,AQ hq,hw])
  (fun o _=>by show Se t n (rows t l) o (rows t l).length=_;unfold Se;rw [if_neg (by simp)]) (s:= []) rfl
 rw [rV]at h1;exact h1.1
theorem zDI {t:Ad} {n:Af} {x:Au} {l:List Ac} (hS:Dl t) (ht:t.ae.length=1) (hn:n.length≤2000000) (hx:EO t n x) (hl:l.length≤2000000) (h: ∀w∈l,FU w):VJ t n l=some (wanted t n x l):=by
 have Ch:=yU (t:=t) h;have J8:=rows_len t l;unfold VJ;rw [sG ht hl h,Aa];have h1:=Gb (xs:=rows t l) (body:=fun s:Int × List Af=>RF t n (rows t l) s.1 s.2) (fun i (o:List Af)=>(i,o)) (fun o r=>o++ [Bv t n x.bj r]) (fun o=>some o) (fun i o=>o.length=i)
  (fun i hi o hI=>by
   have hI:o.length=i:=hI;have hw:=Bi hi (by omega);refine⟨?_,by show List.length _=_;rw [Ar,AH];omega⟩;show RF t n (rows t l) i o=_;unfold RF;have hq:((o.length:Int)+(([Bv t n x.bj (rows t l)[i]]:List Af).length:Int))*16≤140737488355328∧(o.length:Int)+(([Bv t n x.bj (rows t l)[i]]:List Af).length:Int)≤140737488355328:=by rw [AH];omega
   rw [if_pos (by simpa using hi),AL hi,Aa,WT hS hn hx (Ch _ (List.getElem_mem hi)),Aa,AQ hq,hw])
  (fun o _=>by show RF t n (rows t l) (rows t l).length o=_;unfold RF;rw [if_neg (by simp)]) (s:= []) rfl
 rw [rV]at h1;exact h1.1
def holds (t:Ad) (n:Af) (x:Au) (lv:Int) (l:List Ac):Bool:=
 if lv==0 then((Bg t n l).length:Int)==0
 else(((less (Bg t n l) (wanted t n x l)).length:Int)==0)&&((lv==1)||(((less (wanted t n x l) (Bg t n l)).length:Int)==0))
theorem S2 (t:Ad) (n:Af) (l:List Ac):(Bg t n l).length≤l.length:=by unfold Bg;rw [List.length_map];exact List.length_filter_le _ _
theorem qK (t:Ad) (n:Af) (x:Au) (l:List Ac):(wanted t n x l).length≤l.length:=by unfold wanted;rw [List.length_map];exact rows_len t l
theorem zFQ {t:Ad} {n:Af} {x:Au} {lv:Int} {l:List Ac} (hS:Dl t) (ht:t.ae.length≤2000000) (hn:n.length≤2000000) (hx:EO t n x) (hl:l.length≤2000000) (h: ∀w∈l,FU w) (ha:P5 t n l=some true):ZQ t n lv l=some (holds t n x lv l):=by
 have hE:=cB ht hn hl h;have hW:=zxv hS hn hx hl h;have e1:=S2 t n l;have e2:=qK t n x l;have h1:=xT (a:=Bg t n l) (b:=wanted t n x l) (by omega) (by omega);have h2:=xT (a:=wanted t n x l) (b:=Bg t n l) (by omega) (by omega);unfold ZQ holds;by_cases h0:(lv==0)=true
 ·rw [if_pos h0,if_pos h0,hE,Aa]
 ·rw [if_neg h0,if_neg h0];unfold nI oF;rw [ha,hE,hW];simp only [Aa,h1,h2,Bool.not_true,AW,if_false]
theorem zFH {t:Ad} {n:Af} {x:Au} {lv:Int} {l:List Ac} (hS:Dl t) (ht:t.ae.length=1) (hn:n.length≤2000000) (hh: ∀b∈head t n,b≠47) (hx:EO t n x) (hl:l.length≤2000000) (h: ∀w∈l,FU w):Za t n lv l=some (holds t n x lv l):=by
 have hE:=qC (t:=t) (by omega) hn hh hl h;have hW:=zDI hS ht hn hx hl h;have e1:=S2 t n l;have e2:=qK t n x l;have h1:=yH (a:=Bg t n l) (b:=wanted t n x l) (by omega) (by omega);have h2:=yH (a:=wanted t n x l) (b:=Bg t n l) (by omega) (by omega);unfold Za holds;by_cases h0:(lv==0)=true
 ·rw [if_pos h0,if_pos h0,hE,Aa]
 ·rw [if_neg h0,if_neg h0];unfold YZ mH;rw [hE,hW];simp only [Aa,h1,h2];by_cases h3:(lv==1)=true
  ·rw [if_pos h3,h3,Bool.true_or,Bool.and_true]
  ·rw [if_neg h3,Bool.eq_false_iff.2 h3,Bool.false_or];by_cases h4:(((less (Bg t n l) (wanted t n x l)).length:Int)==0)=true
   ·rw [if_pos h4,h4,Bool.true_and]
   ·rw [if_neg h4,Bool.eq_false_iff.2 h4,Bool.false_and]
def B8 (t:Ad) (n:Af):Bool:=A0 t&&decide (BH (fun x:Au=>x.ae==n) t.ah≥0)
def kK (t:Ad) (n:Af) (l:List Ac):Bool:=B8 t n&&B0 l
theorem zHo {t:Ad} {n:Af} (hS:Dl t):aX t n=some (B8 t n):=by unfold aX B8;rw [zEO hS,Aa,Xs hS,Aa];cases A0 t<;>simp
theorem zFy {t:Ad} {n:Af} {l:List Ac} (hS:Dl t) (hW:Lr l):P5 t n l=some (kK t n l):=by unfold P5 kK B8;rw [Qq hS,Aa,Jz hS,Aa,Qw hW,Aa];cases A0 t<;>cases decide (BH (fun x:Au=>x.ae==n) t.ah≥0)<;>simp
theorem zHa {l:List Ac} (h:B0 l=true): ∀w∈l,FU w:=by intro w hw;unfold B0 Ku at h;simp only [Ae]at h;have h1:=AK.1 h.1.2.1 w hw;unfold CU An Iq Gl at h1;simp only [Ae,decide_eq_true_eq]at h1;have h2:=Ca.1 h1.1.1;have h3:=h1.2.1.1;exact⟨by omega,by omega⟩
theorem Mn {s:Af} {k:Int} (h:CH s k=true):(s.length:Int)≤k∧ ∀b∈s,b≠47:=by unfold CH at h;simp only [Ae]at h;refine⟨(Ca.1 h.2).2,fun b hb e=> ?_⟩;have h1:=AK.1 h.1 b hb;subst e;exact absurd h1 (by decide)
theorem S5 {s:Af} (h:CH s 1=true):s.length=1:=by unfold CH at h;simp only [Ae]at h;have:=Ca.1 h.2;omega
theorem La {t:Ad} (h:A0 t=true):CH t.ae 1=true:=by unfold A0 at h;simp only [Ae]at h;exact h.1.1.1
theorem EA {t:Ad} (h:A0 t=true) {x:Au} (hx:x∈t.ah):CH x.ae 1=true∧BQ x.bj 1 ((t.ar.length:Int)-1)=true:=by unfold A0 at h;simp only [Ae]at h;obtain⟨i,hi,rfl⟩:=List.mem_iff_getElem.1 hx;have h1:=AK.1 h.2 i (List.mem_range.2 hi);unfold HT at h1;simp only [Ae,List.getElem?_eq_getElem hi,Option.getD_some]at h1;exact⟨h1.1.1.1,h1.1.1.2⟩
theorem Yd {t:Ad} {n:Af} (h:B8 t n=true): ∃x,EO t n x∧t.ae.length=1∧n.length=1∧ ∀b∈head t n,b≠47:=by
 unfold B8 at h;simp only [Ae,decide_eq_true_eq]at h;obtain⟨x,h1,h2,h3⟩:=zzY h.2;have h4:=EA h.1 h3;have h5:=Ca.1 h4.2;have h6:x.ae=n:=by simpa using h2
 have h7:=La h.1;have h8:=h6▸h4.1;refine⟨x,⟨h1,h6,h5.1,h5.2⟩,S5 h7,S5 h8,fun b hb=> ?_⟩;unfold head at hb;simp only [Ai,List.mem_singleton]at hb;rcases hb with(hb|hb)|hb
 ·exact(Mn h7).2 b hb
 ·subst hb;decide
 ·exact(Mn h8).2 b hb
abbrev bl (a b:Ab):Bool:=Op.bytesLess a b
theorem Qj: ∀a:Ab,bl a a=false
 | []=>rfl
 |x::a=>by
  have h: ¬x<x:=fun h=>by have:=UInt8.lt_iff_toNat_lt.1 h;omega
  show Op.bytesLess (x::a) (x::a)=false;simp only [Op.bytesLess,h,decide_false,Bool.false_or,beq_self_eq_true,Bool.true_and];exact Qj a
theorem uB (x y:UInt8) (a b:Ab):bl (x::a) (y::b)=true↔x.toNat<y.toNat∨x=y∧bl a b=true:=by show Op.bytesLess (x::a) (y::b)=true↔_;simp only [Op.bytesLess,Bool.or_eq_true,decide_eq_true_eq,Ae,beq_iff_eq,UInt8.lt_iff_toNat_lt]
theorem Gc: ∀{a b c:Ab},bl a b=true→bl b c=true→bl a c=true
 | [],_, [],_,h=>by rename_i b _;cases b<;>cases h
 | [],_,_::_,_,_=>rfl
 |_::_, [],_,h,_=>by cases h
 |_::_,_::_, [],_,h=>by cases h
 |x::a,y::b,z::c,h1,h2=>by
  rw [uB]at*;rcases h1 with h1|⟨rfl,h1⟩<;>rcases h2 with h2|⟨rfl,h2⟩
  ·exact .inl (by omega)
  ·exact .inl h1
  ·exact .inl h2
  ·exact .inr ⟨rfl,Gc h1 h2⟩
theorem zGj: ∀a b:Ab,bl a b=true∨a=b∨bl b a=true
 | [], []=> .inr (.inl rfl)
 | [],_::_=> .inl rfl
 |_::_, []=> .inr (.inr rfl)
 |x::a,y::b=>by
  rw [uB,uB];rcases Nat.lt_trichotomy x.toNat y.toNat with h|h|h
  ·exact .inl (.inl h)
  ·have h0:x=y:=UInt8.toNat_inj.1 h;subst h0;rcases zGj a b with h1|h1|h1
   ·exact .inl (.inr ⟨rfl,h1⟩)
   ·exact .inr (.inl (by rw [h1]))
   ·exact .inr (.inr (.inr ⟨rfl,h1⟩))
  ·exact .inr (.inr (.inl h))
theorem cX {a b:Ab} (h:bl a b=true):bl b a=false:=by
 cases h2:bl b a with
 |false=>rfl
 |true=>have:=Gc h h2;rw [Qj]at this;cases this
theorem FF {a b:Ab} (h:bl a b=true):a≠b:=by rintro rfl;rw [Qj]at h;cases h
theorem WB {a b:Ab} (h:bl a b=false) (hn:a≠b):bl b a=true:=by
 rcases zGj a b with h1|h1|h1
 ·rw [h]at h1;cases h1
 ·exact absurd h1 hn
 ·exact h1
section
variable {α:Type} (key:α→Ab)
def El (l:List α):Prop:=l.Pairwise fun a b=>bl (key a) (key b)=true
def Bk (x:α):List α→List α
 | []=> [x]
 |y::l=>if bl (key x) (key y)=true then x::y::l else if key x=key y then x::l else y::Bk x l
variable {key}
theorem El.gu {l:List α} (h:El key l) {a b:α} (ha:a∈l) (hb:b∈l) (e:key a=key b):a=b:=by
 induction l with
 |nil=>cases ha
 |cons y l ih=>
  have h1:=List.pairwise_cons.1 h;rcases Ag.1 ha with q1|q1<;>rcases Ag.1 hb with q2|q2
  ·rw [q1,q2]
  ·exact absurd (q1▸e) (FF (h1.1 _ q2))
  ·exact absurd (q2▸e.symm) (FF (h1.1 _ q1))
  ·exact ih h1.2 q1 q2
theorem Tu {x:α}: ∀{l:List α},El key l→ ∀y,y∈Bk key x l↔y=x∨y∈l∧key y≠key x
 | [],_,y=>by simp [Bk]
 |z::l,h,y=>by
  have h1:=List.pairwise_cons.1 h;unfold Bk;split
  ·rename_i hb;constructor
   ·intro hy;rcases Ag.1 hy with rfl|hy
    ·exact .inl rfl
    ·refine .inr ⟨hy, ?_⟩;rcases Ag.1 hy with rfl|hy
     ·exact(FF hb).symm
     ·exact(FF (Gc hb (h1.1 _ hy))).symm
   ·rintro(rfl|⟨hy,_⟩)
    ·simp
    ·exact List.mem_cons_of_mem _ hy
  ·rename_i hb;split
   ·rename_i he;constructor
    ·intro hy;rcases Ag.1 hy with rfl|hy
     ·exact .inl rfl
     ·exact .inr ⟨List.mem_cons_of_mem _ hy,fun e=>FF (h1.1 _ hy) (by rw [e,he])⟩
    ·rintro(rfl|⟨hy,hn⟩)
     ·simp
     ·rcases Ag.1 hy with rfl|hy
      ·exact absurd he.symm hn
      ·exact List.mem_cons_of_mem _ hy
   ·rename_i he;rw [Ag,Tu h1.2];constructor
    ·rintro(rfl|rfl|⟨hy,hn⟩)
     ·exact .inr ⟨by simp,fun e=>he e.symm⟩
     ·exact .inl rfl
     ·exact .inr ⟨List.mem_cons_of_mem _ hy,hn⟩
    ·rintro(rfl|⟨hy,hn⟩)
     ·exact .inr (.inl rfl)
     ·rcases Ag.1 hy with rfl|hy
      ·exact .inl rfl
      ·exact .inr (.inr ⟨hy,hn⟩)
theorem Wx {x:α}: ∀{l:List α},El key l→El key (Bk key x l)
 | [],_=>by simp [Bk,El]
 |z::l,h=>by
  have h1:=List.pairwise_cons.1 h;unfold Bk;split
  ·rename_i hb;refine List.pairwise_cons.2 ⟨fun y hy=> ?_,h⟩;rcases Ag.1 hy with rfl|hy
   ·exact hb
   ·exact Gc hb (h1.1 _ hy)
  ·rename_i hb;split
   ·rename_i he;exact List.pairwise_cons.2 ⟨fun y hy=>by rw [he];exact h1.1 _ hy,h1.2⟩
   ·rename_i he;refine List.pairwise_cons.2 ⟨fun y hy=> ?_,Wx h1.2⟩;rcases(Tu h1.2 y).1 hy with rfl|⟨hy,_⟩
    ·exact WB (by simpa using hb) he
    ·exact h1.1 _ hy
theorem El.ext: ∀{a b:List α},El key a→El key b→(∀x,x∈a↔x∈b)→a=b
 | [], [],_,_,_=>rfl
 | [],y::b,_,_,h=>absurd ((h y).2 (by simp)) (by simp)
 |x::a, [],_,_,h=>absurd ((h x).1 (by simp)) (by simp)
 |x::a,y::b,ha,hb,h=>by
  have h1:=List.pairwise_cons.1 ha;have h2:=List.pairwise_cons.1 hb;have e:x=y:=by
   rcases Ag.1 ((h x).1 (by simp))with e|hx
   ·exact e
   ·rcases Ag.1 ((h y).2 (by simp))with e|hy
    ·exact e.symm
    ·have:=Gc (h1.1 _ hy) (h2.1 _ hx);rw [Qj]at this;cases this
  subst e;rw [El.ext h1.2 h2.2 fun z=> ?_];constructor
  ·intro hz;rcases Ag.1 ((h z).1 (List.mem_cons_of_mem _ hz))with rfl|U4
   ·have:=h1.1 _ hz;rw [Qj]at this;cases this
   ·exact U4
  ·intro hz;rcases Ag.1 ((h z).2 (List.mem_cons_of_mem _ hz))with rfl|U4
   ·have:=h2.1 _ hz;rw [Qj]at this;cases this
   ·exact U4
theorem El.filter {l:List α} (h:El key l) (p:α→Bool):El key (l.filter p):=List.Pairwise.filter p h
theorem El.sub {a b:List α} (h:El key b) (hs:a.Sublist b):El key a:=List.Pairwise.sublist hs h
theorem wF {x:α}: ∀(l:List α),(Bk key x l).length≤l.length+1
 | []=>by simp [Bk]
 |y::l=>by
  unfold Bk;have:=wF (x:=x) l;split
  ·simp
  ·split
   ·simp
   ·simp only [Ao];omega
end
def I7 {α:Type} (r:α→α→Bool):List α→Bool
 | []=>true
 | [_]=>true
 |x::y::l=>r x y&&I7 r (y::l)
theorem cN {α:Type} {r:α→α→Bool} (ht: ∀a b c,r a b=true→r b c=true→r a c=true): ∀{l:List α},I7 r l=true↔l.Pairwise fun a b=>r a b=true
 | []=>by simp [I7]
 | [_]=>by simp [I7]
 |x::y::l=>by
  rw [I7,Ae,cN ht];constructor
  ·rintro⟨h1,h2⟩;refine List.pairwise_cons.2 ⟨fun z hz=> ?_,h2⟩;rcases Ag.1 hz with rfl|hz
   ·exact h1
   ·exact ht _ _ _ h1 ((List.pairwise_cons.1 h2).1 z hz)
  ·intro h;have h:=List.pairwise_cons.1 h;exact⟨h.1 y (by simp),h.2⟩
theorem zzO {α:Type} {r:α→α→Bool} {l:List α} {q:Nat} (h:q+1<l.length):I7 r (l.drop q)=(r l[q] l[q+1]&&I7 r (l.drop (q+1))):=by rw [List.drop_eq_getElem_cons (show q<l.length by omega),List.drop_eq_getElem_cons h,I7]
def B5 {α:Type} (lt:α→Bool) (l:List α):Nat:=(l.takeWhile lt).length
theorem Tz {α:Type} (lt:α→Bool): ∀l:List α,B5 lt l≤l.length
 | []=>by simp [B5]
 |x::l=>by have:=Tz lt l;unfold B5 at this ⊢;rw [List.takeWhile_cons];split<;>simp<;>omega
theorem tW {α:Type} {lt:α→Bool}: ∀{l:List α} {i:Nat} (h:i<B5 lt l),lt (l[i]'(Nat.lt_of_lt_of_le h (Tz lt l)))=true
 |x::l,i,h=>by
  unfold B5 at h;rw [List.takeWhile_cons]at h;split at h
  ·rename_i hx;cases i with
   |zero=>exact hx
   |succ i=>exact tW (l:=l) (i:=i) (by unfold B5;simpa using h)
  ·simp at h
theorem yT {α:Type} {lt:α→Bool}: ∀{l:List α} (h:B5 lt l<l.length),lt l[B5 lt l]=false
 |x::l,h=>by
  by_cases hx:lt x=true
  ·have e:B5 lt (x::l)=B5 lt l+1:=by unfold B5;rw [List.takeWhile_cons,if_pos hx];rfl
   have:=yT (l:=l) (lt:=lt) (by rw [e]at h;simpa using h);simp only [e,List.getElem_cons_succ];exact this
  ·have e:B5 lt (x::l)=0:=by unfold B5;rw [List.takeWhile_cons,if_neg hx];rfl
   simp only [e,List.getElem_cons_zero];simpa using hx
theorem zHw {α β:Type} {xs:List α} {body:Int × Int→Option ((Int × Int) ⊕ Option β)} {fin:Int→Option β} (lt:α→Bool) (hm: ∀i j (hj:j<xs.length) (hi:i≤j),lt xs[j]=true→lt xs[i]=true)
  (hs: ∀i j:Nat,i<j→j≤xs.length→(h:(i+j)/2<xs.length)→body ((i:Int),(j:Int))=some (.inl (if lt xs[(i+j)/2]=true then((((i+j)/2+1:Nat):Int),(j:Int))else((i:Int),(((i+j)/2:Nat):Int)))))
  (he: ∀i:Nat,i≤xs.length→body ((i:Int),(i:Int))=some (.inr (fin i))):Ay body (0,(xs.length:Int))=fin (B5 lt xs):=by
 have key: ∀n i j:Nat,j-i≤n→i≤B5 lt xs→B5 lt xs≤j→j≤xs.length→Ay body ((i:Int),(j:Int))=fin (B5 lt xs):=by
  intro n
  induction n with
  |zero=>
   intro i j h1 h2 h3 h4;have:i=j:=by omega
   subst this;have:i=B5 lt xs:=by omega
   rw [Fz,he i h4,this]
  |succ n ih=>
   intro i j h1 h2 h3 h4;by_cases O1:i=j
   ·subst O1;have:i=B5 lt xs:=by omega
    rw [Fz,he i h4,this]
   ·have Ak:(i+j)/2<xs.length:=by omega
    rw [Fz,hs i j (by omega) h4 Ak];by_cases hc:lt xs[(i+j)/2]=true
    ·rw [if_pos hc];refine ih _ _ (by omega) ?_ h3 h4;by_cases hp:(i+j)/2<B5 lt xs
     ·omega
     ·have h5:B5 lt xs<xs.length:=by omega
      have:=yT h5;rw [hm _ _ Ak (by omega) hc]at this;cases this
    ·rw [if_neg hc];refine ih _ _ (by omega) h2 ?_ (by omega);by_cases hp:(i+j)/2<B5 lt xs
     ·exact absurd (tW hp) hc
     ·omega
 exact key xs.length 0 xs.length (by omega) (by omega) (Tz lt xs) (Nat.le_refl _)
theorem wO {α:Type} {key:α→Ab} {x:α}: ∀{l:List α},El key l→Bk key x l=(match l[B5 (fun y=>bl (key y) (key x)) l]? with
  |some y=>if key y=key x then l.set (B5 (fun y=>bl (key y) (key x)) l) x else l.take (B5 (fun y=>bl (key y) (key x)) l)++ [x]++l.drop (B5 (fun y=>bl (key y) (key x)) l)
  |none=>l.take (B5 (fun y=>bl (key y) (key x)) l)++ [x]++l.drop (B5 (fun y=>bl (key y) (key x)) l))
 | [],_=>by simp [Bk,B5]
 |y::l,h=>by
  have h1:=List.pairwise_cons.1 h;unfold Bk;by_cases hb:bl (key x) (key y)=true
  ·have e:B5 (fun z=>bl (key z) (key x)) (y::l)=0:=by unfold B5;rw [List.takeWhile_cons,if_neg (by rw [cX hb];simp)];rfl
   rw [if_pos hb,e];simp [(FF hb).symm]
  ·rw [if_neg hb];by_cases hk:key x=key y
   ·have e:B5 (fun z=>bl (key z) (key x)) (y::l)=0:=by unfold B5;rw [List.takeWhile_cons,if_neg (by rw [hk,Qj];simp)];rfl
    rw [if_pos hk,e];simp [hk]
   ·have HI:=WB (by simpa using hb) hk;have e:B5 (fun z=>bl (key z) (key x)) (y::l)=B5 (fun z=>bl (key z) (key x)) l+1:=by unfold B5;rw [List.takeWhile_cons,if_pos HI];rfl
    rw [if_neg hk,e,wO h1.2];simp only [List.getElem?_cons_succ];split
    ·split<;>simp
    ·simp
def PB (a b:Af):Int:=if bl a b=true then-1 else if a=b then 0 else 1
@[simp] theorem zE5 (a:Af):VO a=some false:=by simp [VO]
@[simp] theorem zKa (a b:Af):Y1 a b=some (PB a b):=by
 unfold Y1 PB;simp only [zE5,Aa,AW,if_false];by_cases h:bl a b=true
 ·have:Op.bytesLess a b=true:=h;simp [this]
 ·have h1:Op.bytesLess a b=false:=by simpa using h
  by_cases he:a=b
  ·subst he;simp [h1]
  ·simp [h1,he]
theorem zHv {a b:Af}:decide (PB a b<0)=bl a b:=by
 unfold PB;cases h:bl a b with
 |true=>simp
 |false=>by_cases he:a=b<;>simp [he]
theorem zHn {a b:Af}:(PB a b==0)=decide (a=b):=by
 unfold PB;cases h:bl a b with
 |true=>simp [FF h]
 |false=>by_cases he:a=b<;>simp [he]
theorem zIs {i j:Nat} (h:i≤j) (hj:j≤2000000):IntKind.i64.wrap (Int.fdiv (IntKind.u64.wrap (IntKind.i64.wrap ((i:Int)+(j:Int)))) (2^(min ((1:Int)).toNat (IntKind.bits .u64))))=(((i+j)/2:Nat):Int):=by
 have e1:IntKind.i64.wrap ((i:Int)+(j:Int))=((i+j:Nat):Int):=by rw [Ba (by omega) (by omega)];simp
 have e2:IntKind.u64.wrap ((i+j:Nat):Int)=((i+j:Nat):Int):=by simp only [IntKind.wrap,IntKind.bits,IntKind.signed];simp;omega
 have e3:(2:Int)^(min ((1:Int)).toNat (IntKind.bits .u64))=((2:Nat):Int):=rfl;rw [e1,e2,e3,Int.fdiv_eq_ediv_of_nonneg _ (by omega),←Int.natCast_ediv,Ba (by omega) (by omega)]
theorem zII {i:Nat} (h:i≤2000000):IntKind.i64.wrap ((i:Int)+1)=((i+1:Nat):Int):=by rw [Ba (by omega) (by omega)];simp
abbrev Dc (l:List Ac):Prop:=El (fun w:Ac=>w.af) l
abbrev Hb (l:List Ac) (k:Af):Nat:=B5 (fun w:Ac=>bl w.af k) l
theorem zIx {l:List Ac} {k:Af} (hl:l.length≤2000000) (hr:Dc l):NO l k=some (((Hb l k:Nat):Int),(match l[Hb l k]? with|some w=>decide (w.af=k)|none=>false)):=by
 unfold NO lI;have hc: ∀w:Ac,R6 w k=some (PB w.af k):=fun w=>by simp [R6]
 have h:=zHw (xs:=l) (body:=fun s:Int × Int=>RB l k (fun y0_ y1_=>R6 y0_ y1_) s.1 s.2) (fin:=fun i=>lH l k (fun y0_ y1_=>R6 y0_ y1_) i) (fun w:Ac=>bl w.af k)
  (fun i j hj hi h=>by
   rcases Nat.lt_or_ge i j with O1|O1
   ·exact Gc ((List.pairwise_iff_getElem.1 hr) i j (by omega) hj O1) h
   ·have:i=j:=by omega
    subst this;exact h)
  (fun i j O1 hj gS=>by show RB l k _ (i:Int) (j:Int)=_;unfold RB;rw [if_pos (by simpa using O1),zIs (by omega) (by omega),AL gS,Aa];simp only [hc,Aa,zHv,zII (show(i+j)/2≤2000000 by omega)];cases bl l[(i+j)/2].af k<;>rfl)
  (fun i hi=>by show RB l k _ (i:Int) (i:Int)=_;unfold RB;rw [if_neg (by simp)])
 rw [h];unfold lH;show Option.bind (if decide (((Hb l k:Nat):Int)<l.length)=true then _ else _) _=_;by_cases hp:Hb l k<l.length
 ·rw [if_pos (by simpa using hp),AL hp,Aa];simp only [hc,Aa,zHn,List.getElem?_eq_getElem hp]
 ·rw [if_neg (by simpa using hp),List.getElem?_eq_none (by omega)];rfl
theorem qL {l:List Ac} {w:Ac} (hl:l.length≤2000000) (hr:Dc l):P8 l w=some (Bk (fun w:Ac=>w.af) w l):=by
 unfold P8;rw [zIx hl hr,Aa,wO hr];show(if(match l[Hb l w.af]? with|some w'=>decide (w'.af=w.af)|none=>false)=true then _ else _)=_;have hle:Hb l w.af≤l.length:=Tz _ _;have hI:cZ l ((Hb l w.af:Nat):Int) [w]=some (l.take (Hb l w.af)++ [w]++l.drop (Hb l w.af)):=AQ ⟨by omega,by omega,by simp,by simp only [AH];omega⟩;by_cases hp:Hb l w.af<l.length
 ·rw [List.getElem?_eq_getElem hp];by_cases hk:(l[Hb l w.af]).af=w.af
  ·simp only [hk,decide_true,if_true,AL hp,Aa];rfl
  ·simp only [hk,decide_false,AW,if_false];rw [hI];rfl
 ·rw [List.getElem?_eq_none (by omega)];simp only [AW,if_false];rw [hI];rfl
theorem pX (ks:List Af):Ln ks=I7 bl ks:=by
 have key: ∀n q,q+n+1=ks.length→(List.range' (q+1) n).all (Jx ks)=I7 bl (ks.drop q):=by
  intro n
  induction n with
  |zero=>intro q hq;rw [List.drop_eq_getElem_cons (show q<ks.length by omega),List.drop_eq_nil_of_le (show ks.length≤q+1 by omega)];rfl
  |succ n ih=>intro q hq;rw [List.range'_succ,List.all_cons,ih (q+1) (by omega),zzO (show q+1<ks.length by omega)];congr 1;unfold Jx;have hb:(q+1==0)=false:=rfl;rw [hb,Bool.false_or,Nat.add_sub_cancel,List.getElem?_eq_getElem (show q<ks.length by omega),List.getElem?_eq_getElem (show q+1<ks.length by omega)];rfl
 cases ks with
 |nil=>rfl
 |cons k l=>unfold Ln;rw [Ao,List.range_eq_range',List.range'_succ,List.all_cons];have:=key l.length 0 (by simp);rw [List.drop_zero]at this;rw [Nat.zero_add]at this;rw [show 0+1=1 from rfl,this];rfl
theorem bN {α β:Type} (f:α→β) (r:β→β→Bool): ∀l:List α,I7 r (l.map f)=I7 (fun a b=>r (f a) (f b)) l
 | []=>rfl
 | [_]=>rfl
 |x::y::l=>by have:=bN f r (y::l);simp only [List.map_cons,I7]at this ⊢;rw [this]
theorem zst {l:List Ac} (h:Ku l=true):Dc l:=by unfold Ku at h;simp only [Ae]at h;have h1:=h.2.2;rw [pX,bN]at h1;exact(cN (r:=fun a b:Ac=>bl a.af b.af) fun a b c p q=>Gc p q).1 h1
theorem s9 {t:Ad} (h:A0 t=true):El (fun x:Au=>x.ae) t.ah:=by
 unfold A0 at h;simp only [Ae]at h;have h1:=h.2;have h2:Ln (t.ah.map (·.ae))=true:=by
  unfold Ln;rw [List.length_map,AK];intro i hi;have h3:=AK.1 h1 i hi;unfold HT at h3;simp only [Ae]at h3;have EJ:i<t.ah.length:=List.mem_range.1 hi;have e: ∀j:Nat,(((t.ah.map (·.ae))[j]?).getD [])=((t.ah[j]?).getD ⟨[],0,0⟩).ae:=by intro j;rw [List.getElem?_map];cases t.ah[j]?<;>rfl
  unfold Jx;rw [e,e];exact h3.2
 rw [pX,bN]at h2;exact(cN (r:=fun a b:Au=>bl a.ae b.ae) fun a b c p q=>Gc p q).1 h2
theorem dB {t:Ad} {x:Au} (h:A0 t=true) (hx:x∈t.ah):EO t x.ae x:=by
 have h1:BH (fun y:Au=>y.ae==x.ae) t.ah≥0:=by have:=Od (fun y:Au=>y.ae==x.ae) t.ah;rw [show(t.ah.any fun y=>y.ae==x.ae)=true from List.any_eq_true.2 ⟨x,hx,by simp⟩]at this;exact of_decide_eq_true this
 obtain⟨y,h2,h3,h4⟩:=zzY h1;have h5:y=x:=(s9 h).gu h4 hx (by simpa using h3);subst h5;have h6:=Ca.1 (EA h hx).2;exact⟨h2,rfl,h6.1,h6.2⟩
theorem Jw {t:Ad} (h:A0 t=true):2≤t.ar.length∧t.ar.length≤4∧t.ah.length≤3:=by unfold A0 at h;simp only [Ae,decide_eq_true_eq]at h;have h1:=Ca.1 h.1.1.2.2;have h2:=h.1.2;omega
theorem On {t:Ad} {r:AE} (hs:Small r.ay) (h:Be t r=true):Lz t r:=by unfold Be at h;simp only [Ae,beq_iff_eq]at h;exact⟨by have:=h.1;omega,hs⟩
theorem dQ {t:Ad} {r:AE} (hc:1≤t.ar.length) (h:Lz t r):getI r.ay 0=some (Db r 0):=(Xh h (by omega) (by omega)).1
theorem QD {t:Ad} {r:AE} (hc:1≤t.ar.length) (h:Lz t r):r.ay≠ []:=by intro e;have:=h.len;rw [e]at this;simp at this;omega
def Fk (a:Bb):Prop:=Small a.bq.ay∧Small a.bz.ay
def HO (t:Ad) (a:Bb):Bool:=
 if a.ak=1 then(a.bq.ay.length:Int)==0&&Be t a.bz else
 if a.ak=2 then Be t a.bq&&(a.bz.ay.length:Int)==0 else
 if a.ak=3 then Be t a.bq&&(Be t a.bz&&Db a.bq 0==Db a.bz 0)else false
theorem qH {t:Ad} {a:Bb} (hc:1≤t.ar.length) (h:Fk a):V4 t a=some (HO t a):=by
 unfold V4 HO;by_cases h1:a.ak=1
 ·rw [if_pos (by simpa using h1),if_pos h1,Wy h.2,Aa];cases((a.bq.ay.length:Int)==0)<;>simp
 rw [if_neg (by simpa using h1),if_neg h1];by_cases h2:a.ak=2
 ·rw [if_pos (by simpa using h2),if_pos h2,Wy h.1,Aa];cases((a.bz.ay.length:Int)==0)<;>simp
 rw [if_neg (by simpa using h2),if_neg h2];by_cases h3:a.ak=3
 ·rw [if_pos (by simpa using h3),if_pos h3,Wy h.1,Wy h.2,Aa,Aa];cases e1:Be t a.bq with
  |false=>simp
  |true=>
   cases e2:Be t a.bz with
   |false=>simp
   |true=>simp [dQ hc (On h.1 e1),dQ hc (On h.2 e2)]
 rw [if_neg (by simpa using h3),if_neg h3]
theorem zA4 {t:Ad} {a:Bb} (hc:1≤t.ar.length) (h:Fk a):YT t a=some (HO t a):=by
 unfold YT HO;by_cases h1:a.ak=1
 ·rw [if_pos (by simpa using h1),if_pos h1,Wu h.2,Aa];cases((a.bq.ay.length:Int)==0)<;>simp
 rw [if_neg (by simpa using h1),if_neg h1];by_cases h2:a.ak=2
 ·rw [if_pos (by simpa using h2),if_pos h2,Wu h.1,Aa]
 rw [if_neg (by simpa using h2),if_neg h2];by_cases h3:a.ak=3
 ·rw [if_pos (by simpa using h3),if_pos h3,Wu h.1,Wu h.2,Aa,Aa];cases e1:Be t a.bq with
  |false=>simp
  |true=>
   cases e2:Be t a.bz with
   |false=>simp
   |true=>simp [dQ hc (On h.1 e1),dQ hc (On h.2 e2)]
 rw [if_neg (by simpa using h3),if_neg h3]
structure Vi (t:Ad) (a:Bb):Prop where
 old:a.ak≠1→Lz t a.bq
 new:a.ak≠2→Lz t a.bz
 kind:a.ak=1∨a.ak=2∨a.ak=3
 same:a.ak=3→Db a.bq 0=Db a.bz 0
theorem zGv {t:Ad} {a:Bb} (h:Fk a) (hg:HO t a=true):Vi t a:=by
 unfold HO at hg;by_cases h1:a.ak=1
 ·rw [if_pos h1,Ae]at hg;exact⟨fun k=>absurd h1 k,fun _=>On h.2 hg.2, .inl h1,fun k=>by omega⟩
 rw [if_neg h1]at hg;by_cases h2:a.ak=2
 ·rw [if_pos h2,Ae]at hg;exact⟨fun _=>On h.1 hg.1,fun k=>absurd h2 k, .inr (.inl h2),fun k=>by omega⟩
 rw [if_neg h2]at hg;by_cases h3:a.ak=3
 ·rw [if_pos h3,Ae,Ae,beq_iff_eq]at hg;exact⟨fun _=>On h.1 hg.1,fun _=>On h.2 hg.2.1, .inr (.inr h3),fun _=>hg.2.2⟩
 rw [if_neg h3]at hg;cases hg
def E7 (t:Ad) (a:Bb) (x:Au):Af:=if a.ak=1 then []else Bv t x.ae x.bj a.bq
def Eb (t:Ad) (a:Bb) (x:Au):Af:=if a.ak=2 then []else Bv t x.ae x.bj a.bz
def Lv (k n:Af) (x:Au):List AA:=if k≠ []∧k≠n∧x.aq≥1 then [⟨3,k, [],0⟩]else []
def JE (n:Af) (x:Au):List AA:=if n≠ []∧x.aq≥2 then [⟨2,n, [],0⟩]else []
def Ha (t:Ad) (a:Bb) (x:Au):List AA:=Lv (E7 t a x) (Eb t a x) x++JE (Eb t a x) x
def Lk (t:Ad) (a:Bb):List AA:=
 if a.ak=1 then [⟨6,(AR t a.bz).af, [],0⟩,⟨2,(AR t a.bz).af,(AR t a.bz).bb,0⟩]else
 if a.ak=2 then [⟨7,(AR t a.bq).af,(AR t a.bq).bb,0⟩,⟨3,(AR t a.bq).af, [],0⟩]else
 [⟨7,(AR t a.bq).af,(AR t a.bq).bb,0⟩,⟨2,(AR t a.bq).af,(AR t a.bz).bb,0⟩]
def Ea (t:Ad) (a:Bb):List AA:=t.ah.foldl (fun o x=>o++Ha t a x) (Lk t a)
theorem zE7 (k n:Af) (x:Au):(Lv k n x).length≤1:=by unfold Lv;split<;>simp
theorem zHD (n:Af) (x:Au):(JE n x).length≤1:=by unfold JE;split<;>simp
theorem qN (t:Ad) (a:Bb) (x:Au):(Ha t a x).length≤2:=by unfold Ha;have:=zE7 (E7 t a x) (Eb t a x) x;have:=zHD (Eb t a x) x;rw [Ar];omega
theorem pW (t:Ad) (a:Bb):(Lk t a).length=2:=by unfold Lk;split<;>(try split)<;>rfl
theorem dN {o p:List AA} (h:o.length≤5000000) (hn:p.length≤5000000):((o.length:Int)+(p.length:Int))*48≤140737488355328∧(o.length:Int)+(p.length:Int)≤140737488355328:=by omega
theorem zCV {t:Ad} {a:Bb} {x:Au} (ht:t.ae.length≤2000000) (hn:x.ae.length≤2000000) (hx:EO t x.ae x) (ha:Vi t a):Wg t x a=some (Ha t a x):=by
 have e1:Wg t x a=ZG t x a (E7 t a x):=by
  unfold Wg E7;by_cases h1:a.ak=1
  ·rw [if_neg (by simp [h1]),if_pos h1];rfl
  ·rw [if_pos (by simpa using h1),if_neg h1,WN ht hn hx (ha.old h1)];rfl
 have e2: ∀k,ZG t x a k=VT x k (Eb t a x):=by
  intro k;unfold ZG Eb;by_cases h1:a.ak=2
  ·rw [if_neg (by simp [h1]),if_pos h1]
  ·rw [if_pos (by simpa using h1),if_neg h1,WN ht hn hx (ha.new h1)];rfl
 have e3: ∀(n:Af) (o:List AA),o.length≤5→ZH x n o=some (o++JE n x):=by
  intro n o ho;unfold ZH JE;by_cases h1:n≠ []∧x.aq≥2
  ·rw [if_pos (by simpa using h1),if_pos h1,AQ (dN (by omega) (by simp))]
  ·rw [if_neg (by simpa using h1),if_neg h1,List.append_nil]
 have e4: ∀(k n:Af),VT x k n=some (Lv k n x++JE n x):=by
  intro k n;unfold VT Lv;by_cases h1:k≠ []∧k≠n∧x.aq≥1
  ·rw [if_pos (by simpa [and_assoc]using h1),if_pos h1,AQ (dN (by simp) (by simp)),e3 _ _ (by simp)]
  ·rw [if_neg (by simpa [and_assoc]using h1),if_neg h1,e3 _ _ (by simp)]
 rw [e1,e2,e4];rfl
theorem zBK {t:Ad} {a:Bb} (hc:1≤t.ar.length) (ht:t.ae.length≤2000000) (ha:Vi t a):Z0 t a=some (Lk t a):=by
 unfold Z0 Lk;by_cases h1:a.ak=1
 ·have hr:=ha.new (by omega);rw [if_pos (by simpa using h1),if_pos h1,Lj ht hr.small (QD hc hr)];rfl
 have hr:=ha.old h1;rw [if_neg (by simpa using h1),if_neg h1,Lj ht hr.small (QD hc hr),Aa];by_cases h2:a.ak=2
 ·rw [if_pos (by simpa using h2),if_pos h2]
 have hr:=ha.new h2;rw [if_neg (by simpa using h2),if_neg h2,Lj ht hr.small (QD hc hr)];rfl
theorem zO {t:Ad} {a:Bb} (hS:Dl t) (hg:A0 t=true) (ha:Vi t a):aT t a=some (Ea t a):=by
 have hc:=Jw hg;unfold aT;rw [zBK (by omega) hS.name ha,Aa];have hl:=pW t a;exact(Gb (xs:=t.ah) (body:=fun s:Int × List AA=>Ss t a s.1 s.2) (fun i (o:List AA)=>(i,o)) (fun o x=>o++Ha t a x) (fun o=>some o) (fun i o=>o.length≤2+2*i)
  (fun i hi o hI=>by have hI:o.length≤2+2*i:=hI;have hw:=Bi hi (by omega);have hk:=qN t a t.ah[i];have hm:=List.getElem_mem hi;refine⟨?_,by show List.length _≤_;rw [Ar];omega⟩;show Ss t a i o=_;unfold Ss;rw [if_pos (by simpa using hi),AL hi,Aa,zCV hS.name (hS.idx _ hm) (dB hg hm) ha,Aa,AQ (dN (by omega) (by omega)),hw])
  (fun o _=>by show Ss t a t.ah.length o=_;unfold Ss;rw [if_neg (by simp)]) (s:=Lk t a) (by omega)).1
theorem OB {k:Int} {w:Ac} {o:List AA} (h:o.length≤5000000):K2 k w o=some ((),o++ [⟨k,w.af,w.bb,0⟩]):=by unfold K2;rw [AQ (dN h (by simp))]
theorem zIX {t:Ad} {a:Bb} (hS:Dl t) (hg:A0 t=true) (ha:Vi t a):Y3 t a=some (Ea t a):=by
 have hc:=Jw hg;have hl:=pW t a;have h7: ∀(i:Int) (x:Au) (n:Af) (o:List AA),o.length≤100→RO i x n o=some (.inl (IntKind.i64.wrap (i+1),o++JE n x)):=by
  intro i x n o ho;unfold RO JE NR;by_cases h1:n= []
  ·rw [if_neg (by simp [h1]),if_neg (by simp [h1]),List.append_nil]
  rw [if_pos (by simpa using h1),Aa];by_cases h2:x.aq≥2
  ·rw [if_pos (by simpa using h2),if_pos ⟨h1,h2⟩,OB (by omega)];rfl
  ·rw [if_neg (by simpa using h2),if_neg (fun h=>h2 h.2),List.append_nil]
 have h6: ∀(i:Int) (x:Au) (k n:Af) (o:List AA),o.length≤99→PO i o x k n=some (.inl (IntKind.i64.wrap (i+1),o++(Lv k n x++JE n x))):=by
  intro i x k n o ho;unfold PO Lv oJ;by_cases h1:k= []
  ·rw [if_neg (by simp [h1]),if_neg (by simp [h1]),h7 _ _ _ _ (by omega)];rfl
  rw [if_pos (by simpa using h1)];by_cases h2:k=n
  ·rw [if_neg (by simp [h2]),if_neg (by simp [h2]),h7 _ _ _ _ (by omega)];rfl
  rw [if_pos (by simpa using h2),Aa];by_cases h3:x.aq≥1
  ·rw [if_pos (by simpa using h3),if_pos ⟨h1,h2,h3⟩,OB (by omega),Aa,h7 _ _ _ _ (by rw [Ar,AH];omega),List.append_assoc]
  ·rw [if_neg (by simpa using h3),if_neg (fun h=>h3 h.2.2),h7 _ _ _ _ (by omega)];rfl
 have J2: ∀o:List AA,o.length=2→RG t a o=some (t.ah.foldl (fun o x=>o++Ha t a x) o):=by
  intro o ho;unfold RG;exact(Gb (xs:=t.ah) (body:=fun s:Int × List AA=>RN t a s.1 s.2) (fun i (o:List AA)=>(i,o)) (fun o x=>o++Ha t a x) (fun o=>some o) (fun i o=>o.length≤2+2*i)
   (fun i hi o hI=>by
    have hI:o.length≤2+2*i:=hI;have hw:=Bi hi (by omega);have hk:=qN t a t.ah[i];have hm:=List.getElem_mem hi;have hx:=dB hg hm;refine⟨?_,by show List.length _≤_;rw [Ar];omega⟩;show RN t a i o=_;unfold RN;rw [if_pos (by simpa using hi),AL hi,Aa];have e1:(if(a.ak !=1)=true then(Ko t t.ah[i].ae a.bq).bind fun v20=>some (Sum.inl v20)else some (Sum.inl ([]:Ab)):Option (Ab ⊕ Option ((Int × List AA) ⊕ Option (List AA))))=some (.inl (E7 t a t.ah[i])):=by
     unfold E7;by_cases h1:a.ak=1
     ·rw [if_neg (by simp [h1]),if_pos h1]
     ·rw [if_pos (by simpa using h1),if_neg h1,WT hS (hS.idx _ hm) hx (ha.old h1)];rfl
    rw [e1];show lP t a i o t.ah[i] (E7 t a t.ah[i])=_;unfold lP;have e2: ∀k,(if(a.ak !=2)=true then(Ko t t.ah[i].ae a.bz).bind fun v19=>PO i o t.ah[i] k v19 else PO i o t.ah[i] k ([]:Ab))=PO i o t.ah[i] k (Eb t a t.ah[i]):=by
     intro k;unfold Eb;by_cases h1:a.ak=2
     ·rw [if_neg (by simp [h1]),if_pos h1]
     ·rw [if_pos (by simpa using h1),if_neg h1,WT hS (hS.idx _ hm) hx (ha.new h1)];rfl
    rw [e2,h6 _ _ _ _ _ (by omega),hw];rfl)
   (fun o _=>by show RN t a t.ah.length o=_;unfold RN;rw [if_neg (by simp)]) (s:=o) (by omega)).1
 have hn:t.ae.length≤2000000:=hS.name;unfold Y3 Ea Lk;rcases ha.kind with h1|h1|h1
 ·have hr:=ha.new (by omega);rw [if_neg (by simp [h1]),if_pos h1];show PN t a [] [] false []=_;unfold PN;rw [if_pos (by simp [h1]),Ol hn hr.small (QD (by omega) hr),Aa];unfold Vv;rw [if_pos (by simp [h1]),OB (by simp),Aa,OB (by simp),Aa,J2 _ (by simp)];rfl
 ·have hr:=ha.old (by omega);rw [if_pos (by simp [h1]),if_neg (by omega),if_pos h1,Ol hn hr.small (QD (by omega) hr),Aa,OB (by simp),Aa];show PN t a (AR t a.bq).af (AR t a.bq).bb (AR t a.bq).bh _=_;unfold PN;rw [if_neg (by simp [h1])];unfold Vv;rw [if_neg (by simp [h1]),if_pos (by simp [h1]),OB (by simp),Aa,J2 _ (by simp)];rfl
 ·have hr:=ha.old (by omega);have Dd:=ha.new (by omega);have hk:(AR t a.bq).af=(AR t a.bz).af:=by
   have:=ha.same h1;unfold Db at this;unfold AR;rw [List.head?_eq_getElem?,List.head?_eq_getElem?];exact congrArg (fun z=>t.ae++ [47]++z) this
  rw [if_pos (by simp [h1]),if_neg (by omega),if_neg (by omega),Ol hn hr.small (QD (by omega) hr),Aa,OB (by simp),Aa];show PN t a (AR t a.bq).af (AR t a.bq).bb (AR t a.bq).bh _=_;unfold PN;rw [if_pos (by simp [h1]),Ol hn Dd.small (QD (by omega) Dd),Aa];unfold Vv;rw [if_neg (by simp [h1]),if_neg (by simp [h1]),if_pos (by simp [h1]),OB (by simp),Aa,J2 _ (by simp),hk];rfl
theorem Df {σ α:Type} {body:σ→Option (σ ⊕ Option α)} {s:σ} {o:Option α} (h:body s=some (.inr o)):Ay body s=o:=by rw [Fz,h]
theorem DF {σ α:Type} {body:σ→Option (σ ⊕ Option α)} {s s':σ} (h:body s=some (.inl s')):Ay body s=Ay body s':=by rw [Fz,h]
end Go.Proofs.YtbmbkgalkfmjdaaGreatDoor
end

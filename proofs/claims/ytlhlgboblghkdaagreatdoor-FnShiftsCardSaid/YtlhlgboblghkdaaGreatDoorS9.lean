/- Parts of a proof, joined: QF3, QF4, QR, OZ, NA, ND, NE, N5, N6, N7, N8, N9, N10, N11, N12, N13, N14, N15, N16, PK, NK, NP, NQ, NX, NS. -/
import Derived.Test.YtlhlgboblghkdaaGreatDoorS8
set_option linter.unusedVariables false
set_option linter.unusedSimpArgs false
section
namespace Go.Proofs.YtlhlgboblghkdaaGreatDoor
open Go.RowKit
set_option maxRecDepth 100000
set_option maxHeartbeats 4000000
noncomputable def zkr:FS:=Ak 93 [.v (.st 3), .v .s, .v (.i .i64)] (.v (.st 3)) (fun x=>Tk x.1 x.2.1 x.2.2.1) [fP,eA] []
noncomputable def sF:FS:=Ak 50 [.v (.st 3), .v .s, .v (.i .i64)] (.v (.l (.st 3))) (fun x=>Tp x.1 x.2.1 x.2.2.1) [fK,fP,zkr] [.sp [.i .i64, .l (.st 3)], .inl]
noncomputable def zbW:FS:=Ak 49 [.v (.l (.st 3)), .v (.l (.st 3)), .fn [.st 3, .st 3] .b] (.v .b) (fun x=>Wr x.1 x.2.1 (fun y0 y1=>x.2.2.1.φ (y0,y1,()))) [] [.sp [.i .i64]]
noncomputable def zhL:FS:=Ak 94 [.v (.l .s), .v (.l .s)] (.v .b) (fun x=>Wv x.1 x.2.1) [] [.sp [.i .i64]]
noncomputable def zgr:FS:=Ak 95 [.v (.l (.st 2)), .v (.l (.st 2))] (.v .b) (fun x=>Wq x.1 x.2.1) [] [.sp [.i .i64]]
noncomputable def zpJ:FS:=Ak 52 [.v (.st 3), .v (.st 3)] (.v .b) (fun x=>Mo x.1 x.2.1) [zhL,zgr] []
noncomputable def zol:FS:=J0 zpJ fun _=>by kernel_rfl
noncomputable def W8:FS:=Ak 13 [.v (.st 5)] (.v .b) (fun x=>Mq x.1) [Jv,tF,zdY,zm5,zhq,znq,sB,sF,zbW,zol] []
noncomputable def zj0:FS:=D4 64 [.v (.l (.i .i64))] (.v (.l (.i .i64))) (fun x=>dV x.1) fun x r hp h=>Gu (f:=64) (t:=Rm 8 1) (by kernel_rfl) (by kernel_rfl) (Yx (bytes:=8) (sz:=1) (av:=(BB tab.av (.i .i64))) (fun x=>⟨MH _ x,Ms (by kernel_rfl) x⟩) h)
noncomputable def dP:FS:=D4 35 [.v (.l (.st 0))] (.v (.l (.st 0))) (fun x=>Oc x.1) fun x r hp h=>Gu (f:=35) (t:=Rm 40 3) (by kernel_rfl) (by kernel_rfl) (Yx (bytes:=40) (sz:=3) (av:=(BB tab.av (.st 0))) (fun x=>⟨MH _ x,Ms (by kernel_rfl) x⟩) h)
noncomputable def sW:FS:=Ak 21 [.v (.st 5)] (.v (.st 5)) (fun x=>TF x.1) [zj0,dP,fP] [.sp [.i .i64, .l (.st 3)]]
noncomputable def eH:FS:=Ak 66 [.v (.st 5), .v (.i .i64)] (.v (.st 3)) (fun x=>J7 x.1 x.2.1) [] []
noncomputable def rN:FS:=D4 168 [.v (.l .s), .fn [.s] .b] (.v (.i .i64)) (fun x=>F4 x.1 (fun y=>x.2.1.φ (y,()))) fun x r hp h=>Gu (f:=168) (t:=Zg) (by kernel_rfl) (by kernel_rfl) (yJ (av:=(BB tab.av .s)) (fun _=>rfl) h (fun y b hb=>hp.2.1 (y,()) b hb))
noncomputable def zfw:FS:=D4 143 [.v (.l .s), .fn [.s] .b] (.v .b) (fun x=>G7 x.1 (fun y=>x.2.1.φ (y,()))) fun x r hp h=>Gu (f:=143) (t:=Rx 168) (by kernel_rfl) (by kernel_rfl) (Y3 h fun r hr=>rN.ok x r hp hr)
noncomputable def s9:FS:=Ak 145 [.v .s] (.v .b) (fun x=>Qm x.1) [Jv,gH] []
noncomputable def zlc:FS:=Ak 144 [.v .s] (.v .b) (fun x=>WT x.1) [s9] []
noncomputable def zkI:FS:=J0 zlc fun _=>by kernel_rfl
noncomputable def sE:FS:=Ak 110 [.v (.st 3), .v (.st 4)] (.v .b) (fun x=>Mm x.1 x.2.1) [zfw,zkI] []
noncomputable def zk1:FS:=Ak 67 [.v (.st 3), .v (.st 6)] (.v .b) (fun x=>Wy x.1 x.2.1) [sE] []
noncomputable def ztK:FS:=Ak 68 [.v (.st 6)] (.v .b) (fun x=>gR x.1) [] []
noncomputable def zjP:FS:=Ak 22 [.v (.st 5), .v (.st 7)] (.v .b) (fun x=>To x.1 x.2.1) [Jv,eH,zk1,ztK] []
noncomputable def rY:FS:=Ak 114 [.v (.st 3), .v (.st 4)] (.v (.st 0)) (fun x=>PO x.1 x.2.1) [zrG] []
noncomputable def zkY:FS:=Ak 113 [.v (.i .i64), .v (.st 0), .rf (.l (.st 8))] (.tu (.cons (.tu .nil) (.cons (.bo (.l (.st 8))) .nil))) (fun x=>J6 x.1 x.2.1 x.2.2.1) [] []
noncomputable def sA:FS:=Ak 152 [.v (.st 3), .v .s] (.v .s) (fun x=>Tw x.1 x.2.1) [] []
noncomputable def sG:FS:=Ak 115 [.v (.st 3), .v .s, .v (.st 4)] (.v .s) (fun x=>Mi x.1 x.2.1 x.2.2.1) [sA,fK] []
noncomputable def zrE:FS:=Ak 116 [.v (.i .i64)] (.v .b) (fun x=>gD x.1) [] []
noncomputable def zrF:FS:=Ak 117 [.v (.i .i64)] (.v .b) (fun x=>fY x.1) [] []
noncomputable def zlA:FS:=Ak 70 [.v (.st 3), .v (.st 6)] (.v (.l (.st 8))) (fun x=>WM x.1 x.2.1) [zrF,zkY,zrE,sG,rY] [.sp [.s, .s, .b, .l (.st 8)], .pt, .pt, .sp [.i .i64, .l (.st 8)], .inl, .sp [.s], .pt, .pt]
noncomputable def zcN:FS:=Ak 195 [.v (.l (.st 0)), .v .s, .fn [.st 0, .s] (.i .i64)] (.tu (.cons (.v (.i .i64)) (.cons (.v .b) .nil))) (fun x=>dM x.1 x.2.1 (fun y0 y1=>x.2.2.1.φ (y0,y1,()))) [] [.sp [.i .i64, .i .i64]]
noncomputable def zm3:FS:=Ak 214 [.v .s] (.v .b) (fun x=>Tz x.1) [] []
noncomputable def zlF:FS:=Ak 197 [.v .s, .v .s] (.v (.i .i64)) (fun x=>WJ x.1 x.2.1) [zm3] []
noncomputable def znR:FS:=Ak 196 [.v (.st 0), .v .s] (.v (.i .i64)) (fun x=>PZ x.1 x.2.1) [zlF] []
noncomputable def zm8:FS:=J0 znR fun _=>by kernel_rfl
noncomputable def fN:FS:=Ak 174 [.v (.l (.st 0)), .v .s] (.tu (.cons (.v (.i .i64)) (.cons (.v .b) .nil))) (fun x=>Mp x.1 x.2.1) [zcN,zm8] []
noncomputable def sR:FS:=Ak 148 [.v (.l (.st 0)), .v (.st 0)] (.v (.l (.st 0))) (fun x=>Ou x.1 x.2.1) [fN,zfg] []
noncomputable def zr7:FS:=Ak 170 [.v .s, .v (.l (.st 0)), .v (.l (.st 9))] (.tu (.cons (.v .s) (.cons (.v .b) (.cons (.v .b) .nil)))) (fun x=>XK x.1 x.2.1 x.2.2.1) [fN] [.sp [.i .i64]]
noncomputable def sU:FS:=Ak 172 [.v .s] (.tu (.cons (.v (.i .i64)) (.cons (.v .b) .nil))) (fun x=>TV x.1) [zrQ] []
noncomputable def zox:FS:=Ak 171 [.v (.st 8), .v .s, .v .b] (.v .b) (fun x=>Xe x.1 x.2.1 x.2.2.1) [sU,Jv] []
noncomputable def zrT:FS:=Ak 146 [.v (.l (.st 8)), .v (.l (.st 9))] (.tu (.cons (.v (.i .i64)) (.cons (.v .s) (.cons (.v (.l (.st 0))) .nil)))) (fun x=>fZ x.1 x.2.1) [sR,zr7,zox,sU,zsc] [.sp [.i .i64, .l (.st 0)], .inl]
noncomputable def zu9:FS:=Ak 147 [.v (.l (.st 0)), .v .s] (.v (.st 9)) (fun x=>Ya x.1 x.2.1) [fN] []
noncomputable def zrm:FS:=Ak 111 [.v (.l (.st 0)), .v (.l (.st 8))] (.tu (.cons (.v (.l (.st 9))) (.cons (.v (.l (.st 0))) (.cons (.v .b) .nil)))) (fun x=>gI x.1 x.2.1) [zrT,zu9] [.sp [.l (.st 9)]]
noncomputable def zen:FS:=D4 149 [.v (.l (.st 0)), .fn [.st 0] .b] (.v (.l (.st 0))) (fun x=>Ox x.1 (fun y=>x.2.1.φ (y,()))) fun x r hp h=>Gu (f:=149) (t:=V4 129 3 true (.mk (.cons (.fld (.fld (.idx (.var 5) (.var 4)) 0 3 true) 0 1 false) (.cons (.fld (.fld (.idx (.var 5) (.var 4)) 0 3 true) 1 1 false) (.cons (.fld (.fld (.idx (.var 5) (.var 4)) 0 3 true) 2 1 false) .nil)))) [(.agg (.fld (.idx (.var 5) (.var 4)) 0 3 true) 3)] (.mk (.cons (.str (ByteArray.mk #[])) (.cons (.str (ByteArray.mk #[])) (.cons (.bool false) .nil))))) (by kernel_rfl) (by kernel_rfl) (zA (av:=(BB tab.av (.st 0))) (fun x=>⟨MH _ x,Ms (by kernel_rfl) x,fun _=>⟨_,rfl⟩,fun e=>nomatch e⟩) (by decide) (fun a b c d j ys x tl hj=>by simp [AV.nth,hj,BB,NS]) (fun a b c d j ys x hj=>by simp [AV.nth,hj,BB,NS]) h (fun i hi=>rL.ok x i hp hi) (fun y b hb=>hp.2.1 (y,()) b hb))
noncomputable def zpM:FS:=Ak 150 [.v (.st 0)] (.v .b) (fun x=>fR x.1) [] []
noncomputable def zop:FS:=J0 zpM fun _=>by kernel_rfl
noncomputable def zrK:FS:=Ak 112 [.v (.l (.st 0)), .v (.l (.st 0))] (.tu (.cons (.v (.l (.st 0))) (.cons (.v .b) .nil))) (fun x=>XH x.1 x.2.1) [dP,zen,zop,sR] [.sp [.i .i64, .l (.st 0)]]
noncomputable def zt7:FS:=Ak 69 [.v (.l (.st 0)), .v (.l (.st 8))] (.tu (.cons (.v (.l (.st 0))) (.cons (.v .b) .nil))) (fun x=>XW x.1 x.2.1) [zrm,zrK] []
noncomputable def sL:FS:=Ak 24 [.v (.st 5), .v (.st 7)] (.tu (.cons (.v (.st 5)) (.cons (.v .b) .nil))) (fun x=>Oe x.1 x.2.1) [sW,Jv,eH,zlA,zt7] []
noncomputable def zkT:FS:=Ak 86 [.v (.l (.i .i64))] (.v (.i .i64)) (fun x=>Wx x.1) [] [.sp [.i .i64, .i .i64]]
noncomputable def zkz:FS:=Ak 87 [.v (.l (.i .i64))] (.v (.i .i64)) (fun x=>Wz x.1) [] [.sp [.i .i64, .i .i64]]
noncomputable def rX:FS:=Ak 43 [.v (.st 5)] (.v .b) (fun x=>PN x.1) [zkT,zkz] []
noncomputable def znd:FS:=Ak 97 [.v (.st 5)] (.v (.i .i64)) (fun x=>W6 x.1) [eH,sB] [.sp [.i .i64, .i .i64], .inl]
noncomputable def zho:FS:=Ak 221 [.v .s, .v .s] (.v .b) (fun x=>Wu x.1 x.2.1) [] []
noncomputable def zhm:FS:=Ak 208 [.v .s, .v .s] (.tu (.cons (.v .s) (.cons (.v .b) .nil))) (fun x=>dQ x.1 x.2.1) [zho] []
noncomputable def sK:FS:=Ak 186 [.v .s, .v .s] (.tu (.cons (.v .s) (.cons (.v .b) .nil))) (fun x=>TA x.1 x.2.1) [zhm] []
noncomputable def zjz:FS:=Ak 209 [.v .s, .v .s] (.tu (.cons (.v .s) (.cons (.v .s) (.cons (.v .b) .nil)))) (fun x=>WE x.1 x.2.1) [rP] []
noncomputable def zt4:FS:=Ak 187 [.v .s, .v .s] (.tu (.cons (.v .s) (.cons (.v .s) (.cons (.v .b) .nil)))) (fun x=>QA x.1 x.2.1) [zjz] []
noncomputable def zjO:FS:=Ak 164 [.v (.st 3), .v .s, .v .s] (.tu (.cons (.v .s) (.cons (.v .s) (.cons (.v .b) .nil)))) (fun x=>WA x.1 x.2.1 x.2.2.1) [sA,sK,zt4,s9] []
noncomputable def dR:FS:=Ak 138 [.v (.st 3), .v .s, .v (.l (.st 0))] (.v (.l .s)) (fun x=>Tl x.1 x.2.1 x.2.2.1) [zjO] [.sp [.i .i64, .l .s], .inl]
noncomputable def zq1:FS:=Ak 255 [.v .s, .v .s] (.v (.i .i64)) (fun x=>Xn x.1 x.2.1) [rP] []
noncomputable def znv:FS:=Ak 239 [.v .s, .v .s, .v (.i .i64), .v (.i .i64)] (.v (.l .s)) (fun x=>eO x.1 x.2.1 x.2.2.1 x.2.2.2.1) [zoN,zq1,zq9] [.pt, .sp [.s, .i .i64, .l .s]]
noncomputable def zrj:FS:=Ak 223 [.v .s, .v .s] (.v (.l .s)) (fun x=>TX x.1 x.2.1) [znv] []
noncomputable def zld:FS:=Ak 210 [.v (.st 3), .v (.st 0)] (.tu (.cons (.v (.st 4)) (.cons (.v .b) .nil))) (fun x=>WQ x.1 x.2.1) [sK,zrj,sE,rY] []
noncomputable def zlp:FS:=Ak 190 [.v (.st 3), .v (.l (.st 0))] (.v (.l (.st 4))) (fun x=>eK x.1 x.2.1) [zld] [.sp [.i .i64, .l (.st 4)], .inl]
noncomputable def zip:FS:=Ak 166 [.v (.st 3), .v .s, .v (.l (.st 0))] (.v (.l .s)) (fun x=>Ts x.1 x.2.1 x.2.2.1) [zlp,sG] [.sp [.i .i64, .l .s]]
noncomputable def zf3:FS:=D4 188 [.v (.l .s), .fn [.s] .b] (.v (.l .s)) (fun x=>Ox x.1 (fun y=>x.2.1.φ (y,()))) fun x r hp h=>Gu (f:=188) (t:=V4 168 1 false (.fld (.idx (.var 5) (.var 4)) 0 1 false) [] (.str (ByteArray.mk #[]))) (by kernel_rfl) (by kernel_rfl) (zA (av:=(BB tab.av .s)) (fun x=>⟨MH _ x,Ms (by kernel_rfl) x,(fun e=>nomatch e),fun _=>rfl⟩) (by decide) (fun a b c d j ys x tl hj=>by simp [AV.nth,hj,BB,NS]) (fun a b c d j ys x hj=>by simp [AV.nth,hj,BB,NS]) h (fun i hi=>rN.ok x i hp hi) (fun y b hb=>hp.2.1 (y,()) b hb))
noncomputable def zpz:FS:=Ak 189 [.v .s, .rf (.l .s)] (.v .b) (fun x=>fO x.1 x.2.1) [rO] []
noncomputable def zoo:FS:=J0 zpz fun _=>by kernel_rfl
noncomputable def s5:FS:=Ak 165 [.v (.l .s), .v (.l .s)] (.v (.l .s)) (fun x=>TO x.1 x.2.1) [rM,zf3,zoo] []
noncomputable def zkg:FS:=Ak 139 [.v (.st 3), .v .s, .v (.l (.st 0))] (.v (.l .s)) (fun x=>WD x.1 x.2.1 x.2.2.1) [dR,zip,s5] []
noncomputable def zlg:FS:=Ak 140 [.v (.st 3), .v .s, .v (.l (.st 0))] (.v (.l .s)) (fun x=>dZ x.1 x.2.1 x.2.2.1) [zip,dR,s5] []
noncomputable def zle:FS:=Ak 96 [.v (.st 3), .v .s, .v (.i .i64), .v (.l (.st 0))] (.v .b) (fun x=>WO x.1 x.2.1 x.2.2.1 x.2.2.2.1) [dR,zkg,zlg] []
noncomputable def sI:FS:=Ak 53 [.v (.st 5)] (.v .b) (fun x=>PB x.1) [znd,zle] []
noncomputable def zny:FS:=Ak 23 [.v (.st 5), .v (.st 7)] (.v .b) (fun x=>Xa x.1 x.2.1) [sL,rX,sI] []
noncomputable def zpw:FS:=Ak 5 [.v (.st 5), .v (.l (.st 7)), .v .b] (.tu (.cons (.v (.st 5)) (.cons (.v (.l .b)) (.cons (.v .b) .nil)))) (fun x=>Xy x.1 x.2.1 x.2.2.1) [W8,sW,zjP,zny,sL] [.sp [.i .i64, .s, .l (.st 3), .l (.i .i64), .l (.st 0), .l .b], .inl]
noncomputable def zns:FS:=Ak 118 [.v (.st 3), .v (.st 3)] (.v .b) (fun x=>Xb x.1 x.2.1) [] [.sp [.i .i64], .sp [.i .i64]]
noncomputable def zsS:FS:=Ak 153 [.v (.i .i64), .v (.i .i64)] (.v (.i .i64)) (fun x=>X2 x.1 x.2.1) [] []
noncomputable def ztT:FS:=Ak 119 [.v (.st 3), .v (.st 3)] (.v (.i .i64)) (fun x=>XZ x.1 x.2.1) [zsS] [.sp [.i .i64, .i .i64]]
noncomputable def zrX:FS:=Ak 71 [.v (.st 5)] (.v .b) (fun x=>Qp x.1) [HF,Xr,Ow,tJ,zns,ztT] [.sp [.i .i64]]
noncomputable def zuL:FS:=Ak 72 [.v (.l (.i .i64)), .v (.i .i64), .v (.i .i64)] (.v .b) (fun x=>X9 x.1 x.2.1 x.2.2.1) [HF] [.sp [.i .i64]]
noncomputable def zpH:FS:=Ak 25 [.v (.st 5)] (.v .b) (fun x=>XB x.1) [zrX,HF,zuL,TY] []
noncomputable def zpD:FS:=Ak 6 [.v (.st 5), .v (.l (.st 7)), .v .b] (.tu (.cons (.v (.st 5)) (.cons (.v (.l .b)) (.cons (.v .b) .nil)))) (fun x=>Xq x.1 x.2.1 x.2.2.1) [zpH,gN,s7] []
noncomputable def zjY:FS:=Ak 28 [.rf (.st 1)] (.tu (.cons (.v (.st 3)) (.cons (.v (.st 1)) .nil))) (fun x=>WC x.1) [WN,G8,Ml] [.inl]
noncomputable def zj3:FS:=Ak 30 [.rf (.st 1), .v (.st 3)] (.tu (.cons (.v (.l (.st 0))) (.cons (.v (.st 1)) .nil))) (fun x=>WB x.1 x.2.1) [sH,G8,Ml,T6] [.inl]
noncomputable def zm7:FS:=Ak 7 [.v (.l (.i .u8))] (.tu (.cons (.v (.st 3)) (.cons (.v .s) (.cons (.v (.i .i64)) (.cons (.v (.i .i64)) (.cons (.v (.l (.st 0))) .nil)))))) (fun x=>W0 x.1) [zjY,Ml,G8,WN,zj3] []
noncomputable def zvp:FS:=Ak 32 [.v (.st 3), .v .s, .v (.i .i64)] (.tu (.cons (.v (.l (.st 3))) (.cons (.v .b) .nil))) (fun x=>hY x.1 x.2.1 x.2.2.1) [tI,s8,sF] []
noncomputable def zqy:FS:=Ak 8 [.v (.st 3), .v .s, .v (.i .i64), .v (.i .i64), .v (.l (.st 0))] (.tu (.cons (.v (.st 5)) (.cons (.v .b) .nil))) (fun x=>Xg x.1 x.2.1 x.2.2.1 x.2.2.2.1 x.2.2.2.2.1) [zvp,Jv,tF,dP] []
noncomputable def zty:FS:=Ak 10 [.v (.l .b), .v (.l .b)] (.v .b) (fun x=>X4 x.1 x.2.1) [] [.sp [.i .i64]]
noncomputable def zs4:FS:=Ak 133 [.v (.l .s), .v (.l .s)] (.v .b) (fun x=>XV x.1 x.2.1) [] [.sp [.i .i64]]
noncomputable def zs5:FS:=Ak 85 [.v (.st 3), .v (.st 3)] (.v .b) (fun x=>XY x.1 x.2.1) [zs4] [.sp [.i .i64]]
noncomputable def zrP:FS:=Ak 40 [.v (.l (.st 3)), .v (.l (.st 3))] (.v .b) (fun x=>XI x.1 x.2.1) [zs5] [.sp [.i .i64]]
noncomputable def zsP:FS:=Ak 41 [.v (.l (.i .i64)), .v (.l (.i .i64))] (.v .b) (fun x=>X3 x.1 x.2.1) [] [.sp [.i .i64]]
noncomputable def zt0:FS:=Ak 42 [.v (.l (.st 0)), .v (.l (.st 0))] (.v .b) (fun x=>X1 x.1 x.2.1) [] [.sp [.i .i64]]
noncomputable def ztQ:FS:=Ak 11 [.v (.st 5), .v (.st 5)] (.v .b) (fun x=>T1 x.1 x.2.1) [zrP,zsP,zt0] []
noncomputable def zqT:FS:=Ak 12 [.v (.st 5)] (.tu (.cons (.v .b) (.cons (.v .b) .nil))) (fun x=>Ot x.1) [W8,rX] []
noncomputable def zs2:FS:=Ak 14 [.v (.st 5)] (.tu (.cons (.v .b) (.cons (.v .b) .nil))) (fun x=>Qv x.1) [W8,sI] []
noncomputable def sV:FS:=Ak 3 [.v (.l (.i .u8)), .v (.l (.i .u8))] (.v .b) (fun x=>XU x.1 x.2.1) [zmp,zpw,zpD,zm7,zqy,sQ,zty,ztQ,zs2,zqT,W8] [.pt]
theorem zqM (a0 a1:List Int) (r:Bool) (h:XU a0 a1=some r):Cj Tryz.prog Ci 3 [.sl (a0.map Pr), .sl (a1.map Pr)] (.bool r):=sV.ok (a0,a1,()) r (by simp [sV,Ak,HV,Tc]) h
end Go.Proofs.YtlhlgboblghkdaaGreatDoor
end
section
namespace Go.Proofs.YtlhlgboblghkdaaGreatDoor
open Go.ChangeShapes Go.WideShapes Go.ChangeAt Go.RowKit
theorem gV {H:Type} {P:Program} {t:TypeId} {ts:List TypeId} {d:DataW H} {r:List (DataW H)} {n:Nat} (h:(DataW.weightsEach P (t::ts) (d::r)).all (· ≤n)=true):(d.weights P t).all (· ≤n)=true∧(DataW.weightsEach P ts r).all (· ≤n)=true:=by rw [DataW.weightsEach,List.all_append,Ae]at h;exact h
theorem qI {w:World} {p:Option Addr} {n c:Nat} {xs:List AV} {f:List Nat} (h:Rd w [.slice p n c] [.sl xs] f):n=xs.length:=by cases h<;>first|rfl|(symm;assumption)
theorem zBa {w:World} {v:Value} {xs:List AV} {f:List Nat} (h:Rd w [v] [.sl xs] f):v.cells.toList= [v]:=by cases h<;>rfl
theorem uQ {H:Type} {P:Program} {enc:TypeId × Value→H} {w:World} {spare:Nat→Bool} {held:Bool} {t e:TypeId} {v:Value} {d:DataW H} {p:List MemPlace} {xs:List AV} {f:List Nat} (ht:P.underlying t=some (.slice e)) (hb:P.bytesOf e=1) (h:DataW.Trod enc P w 0 spare held t v d p) (hr:Rd w [v] [.sl xs] f) (hw:(d.weights P t).all (· ≤reachBytes)=true):xs.length≤reachBytes:=by
 have hc:=zBa hr;obtain⟨m,hm⟩:=h;rcases DataW.trod_slice ht hm with⟨h1,_⟩|⟨a,len,cap,elems,rest,n,_,h1,h2,_,_,_,h3,_⟩
 ·rw [hc]at h1;obtain rfl:=(List.cons.inj h1).1;rw [←qI hr];omega
 ·rw [hc]at h1;obtain rfl:=(List.cons.inj h1).1;rw [←qI hr];have:d= .slice (elems.map (·.1)) (rest.map (·.1)):=congrArg Prod.fst h2;subst this;rw [DataW.weights,ht]at hw;dsimp only at hw;rw [List.all_cons,Ae,decide_eq_true_eq,hb,List.length_map]at hw;omega
end Go.Proofs.YtlhlgboblghkdaaGreatDoor
end
section
namespace Go.Proofs.YtlhlgboblghkdaaGreatDoor
open Go.RowKit
set_option maxRecDepth 100000
theorem AO {α:Type} {xs:List α} {i:Nat} (h:i<xs.length):getI xs (i:Int)=some xs[i]:=by simp [getI,h]
theorem IJ {α:Type} {xs:List α} {i:Int} (h0:0≤i) (h:i<xs.length): ∃x,getI xs i=some x∧x∈xs∧xs[i.toNat]?=some x:=by
 have hi:i.toNat<xs.length:=by omega
 exact⟨xs[i.toNat],by simp [getI,h0,hi],List.getElem_mem hi,by simp [hi]⟩
theorem kY {α:Type} {xs:List α} {i:Int} {x:α} (h:getI xs i=some x):x∈xs:=by obtain⟨h1,h2,h3⟩:=Wb h;exact List.mem_of_getElem? h3
theorem Bi {q n:Nat} (h:q<n) (hn:n≤9223372036854775807):IntKind.i64.wrap ((q:Int)+1)=((q+1:Nat):Int):=by rw [Bh (by omega) (by omega)];simp
theorem AJ {α:Type} {p:Prop} {k:Option α} (h:p):req p k=k:=by simp [req,h]
def Ho {α σ β:Type} (step:α→σ→Option (σ ⊕ Option β)) (fin:σ→Option β):List α→σ→Option β
 | [],s=>fin s
 |x::xs,s=>match step x s with
  |none=>none
  |some (.inl s')=>Ho step fin xs s'
  |some (.inr o)=>o
def Lw {σ τ β:Type} (f:σ→τ):Option (σ ⊕ Option β)→Option (τ ⊕ Option β)
 |none=>none
 |some (.inl s)=>some (.inl (f s))
 |some (.inr o)=>some (.inr o)
theorem zzy {α σ τ β:Type} {xs:List α} {body:τ→Option (τ ⊕ Option β)} (emb:Int→σ→τ) (step:α→σ→Option (σ ⊕ Option β)) (fin:σ→Option β) (q0:Nat)
  (hs: ∀(i:Nat) (hi:i<xs.length) (s:σ),q0≤i→body (emb i s)=Lw (emb ((i+1:Nat):Int)) (step xs[i] s)) (he: ∀s,body (emb xs.length s)=some (.inr (fin s))) (s:σ) (h0:q0≤xs.length):AA body (emb q0 s)=Ho step fin (xs.drop q0) s:=by
 have key: ∀(n q:Nat) (s:σ),q0≤q→q+n=xs.length→AA body (emb q s)=Ho step fin (xs.drop q) s:=by
  intro n
  induction n with
  |zero=>
   intro q s _ hq;have:q=xs.length:=by omega
   subst this;rw [EW,he s];simp [Ho]
  |succ n ih=>
   intro q s h0 hq;have Aq:q<xs.length:=by omega
   rw [EW,hs q Aq s h0,List.drop_eq_getElem_cons Aq];rcases Fo:step xs[q] s with _|s'|o
   ·simp [Ho,Fo,Lw]
   ·simp only [Ho,Fo,Lw];exact ih (q+1) s' (by omega) (by omega)
   ·simp [Ho,Fo,Lw]
 exact key (xs.length-q0) q0 s (Nat.le_refl _) (by omega)
theorem YH {α σ τ β:Type} {xs:List α} {body:τ→Option (τ ⊕ Option β)} (emb:Int→σ→τ) (step:α→σ→Option (σ ⊕ Option β)) (fin:σ→Option β)
  (hs: ∀(i:Nat) (hi:i<xs.length) (s:σ),body (emb i s)=Lw (emb ((i+1:Nat):Int)) (step xs[i] s)) (he: ∀s,body (emb xs.length s)=some (.inr (fin s))) (s:σ):AA body (emb 0 s)=Ho step fin xs s:=by
 have:=zzy emb step fin 0 (fun i hi s _=>hs i hi s) he s (by omega);simpa using this
theorem lZ {α σ β:Type} {step:α→σ→Option (σ ⊕ Option β)} {fin:σ→Option β} {xs:List α} (p:α→Bool) (b:β) (h: ∀x∈xs,∀s,step x s=some (if p x=true then .inl s else .inr (some b))) (s:σ):Ho step fin xs s=if xs.all p=true then fin s else some b:=by
 induction xs with
 |nil=>simp [Ho]
 |cons x xs ih=>
  simp only [Ho,h x (by simp) s];cases hp:p x with
  |true=>simp [hp,ih fun y hy=>h y (by simp [hy])]
  |false=>simp [hp]
theorem zA3 {α σ β:Type} {step:α→σ→Option (σ ⊕ Option β)} {fin:σ→Option β} {xs:List α} (f:σ→α→σ) (I:σ→Prop) (hI: ∀x∈xs,∀s,I s→I (f s x)) (h: ∀x∈xs,∀s,I s→step x s=some (.inl (f s x))) {s:σ} (hs:I s):Ho step fin xs s=fin (xs.foldl f s):=by
 induction xs generalizing s with
 |nil=>simp [Ho]
 |cons x xs ih=>simp only [Ho,h x (by simp) s hs,List.foldl_cons];exact ih (fun y hy=>hI y (by simp [hy])) (fun y hy=>h y (by simp [hy])) (hI x (by simp) s hs)
theorem Ft {α σ τ β:Type} {xs:List α} {body:τ→Option (τ ⊕ Option β)} (emb:Int→σ→τ) (f:σ→α→σ) (fin:σ→Option β) (I:Nat→σ→Prop)
  (hs: ∀(i:Nat) (hi:i<xs.length) (s:σ),I i s→body (emb i s)=some (.inl (emb ((i+1:Nat):Int) (f s xs[i])))∧I (i+1) (f s xs[i])) (he: ∀s,I xs.length s→body (emb xs.length s)=some (.inr (fin s))) {s:σ} (h0:I 0 s):AA body (emb 0 s)=fin (xs.foldl f s)∧I xs.length (xs.foldl f s):=by
 have key: ∀(n q:Nat) (s:σ),q+n=xs.length→I q s→AA body (emb q s)=fin ((xs.drop q).foldl f s)∧I xs.length ((xs.drop q).foldl f s):=by
  intro n
  induction n with
  |zero=>
   intro q s hq hI;have:q=xs.length:=by omega
   subst this;rw [EW,he s hI];simp [hI]
  |succ n ih=>
   intro q s hq hI;have Aq:q<xs.length:=by omega
   obtain⟨h1,h2⟩:=hs q Aq s hI;rw [EW,h1,List.drop_eq_getElem_cons Aq,List.foldl_cons];exact ih (q+1) _ (by omega) h2
 have:=key xs.length 0 s (by omega) h0;simpa using this
theorem UO {α:Type} {xs:List α} {p:α→Option Bool} (q:α→Bool) (hp: ∀x∈xs,p x=some (q x)) (hn:xs.length≤9223372036854775806):G7 xs p=some (xs.any q):=by
 have key: ∀(l:List α) (i:Int),0≤i→(∀x∈l,p x=some (q x))→ ∃r,EJ p l i=some r∧decide (r≥0)=l.any q:=by
  intro l
  induction l with
  |nil=>intro i _ _;exact⟨-1,rfl,by simp⟩
  |cons x l ih=>
   intro i hi h;simp only [EJ,h x (by simp),Aa];cases hq:q x with
   |true=>exact⟨i,by simp,by simp [hq,hi]⟩
   |false=>obtain⟨r,h1,h2⟩:=ih (i+1) (by omega) fun y hy=>h y (by simp [hy]);exact⟨r,by simp [h1],by simp [hq,h2]⟩
 obtain⟨r,h1,h2⟩:=key xs 0 (by omega) hp;simp [G7,F4,AJ hn,h1,h2]
theorem OL {α:Type} {b:Nat} {xs:List α} (h:(xs.length:Int)*b≤140737488355328) (h2:(xs.length:Int)≤140737488355328):Q3 b xs=some xs:=AJ ⟨h,h2⟩
theorem Mz {β:Type} {n:Nat} {body:Int→Option (Int ⊕ Option β)} (p:Nat→Bool) (b:β) (fin:Option β)
  (hs: ∀i:Nat,i<n→body i=some (if p i=true then .inl ((i+1:Nat):Int)else .inr (some b))) (he:body n=some (.inr fin)):AA body 0=if(List.range n).all p=true then fin else some b:=by
 have h1:=YH (xs:=List.range n) (body:=body) (fun i (_:Unit)=>i) (fun i _=>some (if p i=true then .inl ()else .inr (some b))) (fun _=>fin)
  (fun i hi s=>by rw [List.length_range]at hi;rw [hs i hi,List.getElem_range];cases p i<;>simp [Lw]) (fun s=>by simpa using he) ()
 rw [lZ p b fun x _ s=>rfl]at h1;exact h1
def Bp {α:Type} (p:α→Bool) (l:List α):Int:=match l.findIdx? p with|some i=>(i:Int)|none=> -1
theorem YV {α:Type} (p:α→Bool):Bp p []= -1:=rfl
theorem MA {α:Type} (p:α→Bool) (x:α) (l:List α):Bp p (x::l)=if p x=true then 0 else if Bp p l= -1 then-1 else Bp p l+1:=by
 unfold Bp;rw [List.findIdx?_cons];cases p x with
 |true=>simp
 |false=>
  cases h:l.findIdx? p with
  |none=>simp
  |some i=>simp<;>omega
theorem UP {α:Type} (p:α→Bool) (l:List α): -1≤Bp p l:=by unfold Bp;split<;>omega
theorem OM {α:Type} (p:α→Bool) (l:List α):decide (Bp p l≥0)=l.any p:=by
 induction l with
 |nil=>simp [YV]
 |cons x l ih=>
  have h1:=UP p l;rw [MA,List.any_cons,←ih];cases p x with
  |true=>simp
  |false=>
   by_cases h:Bp p l= -1
   ·simp [h]
   ·have:Bp p l≥0:=by omega
    simp [h,this];try omega
theorem xQ {α:Type} {p:α→Bool} {l:List α} (h:Bp p l≥0): ∃x,getI l (Bp p l)=some x∧p x=true∧x∈l:=by
 induction l with
 |nil=>simp [YV]at h
 |cons y l ih=>
  rw [MA]at h ⊢;cases hy:p y with
  |true=>exact⟨y,by simp [getI],hy,by simp⟩
  |false=>
   have h1:=UP p l;by_cases hm:Bp p l= -1
   ·rw [hy,hm]at h;simp at h
   ·have h0:Bp p l≥0:=by omega
    obtain⟨x,e1,e2,e3⟩:=ih h0;obtain⟨_,e4,e5⟩:=Wb e1;refine⟨x, ?_,e2,by simp [e3]⟩;simp only [AY,if_false,hm];unfold getI;rw [if_pos (by omega),show(Bp p l+1).toNat=(Bp p l).toNat+1 by omega];simpa using e5
theorem kP {α:Type} {xs:List α} {body:Int→Option (Int ⊕ Option Int)} (p:α→Bool) (hs: ∀(i:Nat) (hi:i<xs.length),body i=some (if p xs[i]=true then .inr (some (i:Int))else .inl ((i+1:Nat):Int))) (he:body xs.length=some (.inr (some (-1)))):AA body 0=some (Bp p xs):=by
 have key: ∀(n q:Nat),q+n=xs.length→AA body q=some (if Bp p (xs.drop q)= -1 then-1 else q+Bp p (xs.drop q)):=by
  intro n
  induction n with
  |zero=>
   intro q hq;have:q=xs.length:=by omega
   subst this;rw [EW,he];simp [YV]
  |succ n ih=>
   intro q hq;have Aq:q<xs.length:=by omega
   rw [EW,hs q Aq,List.drop_eq_getElem_cons Aq,MA];cases p xs[q]with
   |true=>simp
   |false=>
    simp only [AY,if_false];rw [ih (q+1) (by omega)];have h1:=UP p (xs.drop (q+1));congr 1;by_cases hm:Bp p (xs.drop (q+1))= -1
    ·simp [hm]
    ·have h2: ¬(Bp p (xs.drop (q+1))+1= -1):=by omega
     simp only [hm,if_false,h2];omega
 have h:=key xs.length 0 (by omega);rw [List.drop_zero]at h;rw [show((0:Nat):Int)=0 from rfl]at h;rw [h];have h1:=UP p xs;by_cases hm:Bp p xs= -1
 ·simp [hm]
 ·simp [hm]
theorem zvB {α:Type} {xs:List α} {p:α→Option Bool} (q:α→Bool) (hp: ∀x∈xs,p x=some (q x)) (hn:xs.length≤9223372036854775806):F4 xs p=some (Bp q xs):=by
 have key: ∀(l:List α) (i:Int),(∀x∈l,p x=some (q x))→EJ p l i=some (if Bp q l= -1 then-1 else i+Bp q l):=by
  intro l
  induction l with
  |nil=>intro i _;simp [EJ,YV]
  |cons x l ih=>
   intro i h;simp only [EJ,h x (by simp),Aa,MA];cases q x with
   |true=>simp
   |false=>
    simp only [AY,if_false];rw [ih (i+1) fun y hy=>h y (by simp [hy])];have h1:=UP q l;congr 1;by_cases hm:Bp q l= -1
    ·simp [hm]
    ·have h2: ¬(Bp q l+1= -1):=by omega
     simp only [hm,if_false,h2];omega
 unfold F4;rw [AJ hn,key xs 0 hp];by_cases hm:Bp q xs= -1
 ·simp [hm]
 ·simp [hm]
theorem Wo {α:Type} {b:Bool} {A B:Option α} {y:Option α} (ha:b=true→A=y) (hb:b=false→B=y):(if b=true then A else B)=y:=by
 cases b with
 |true=>simpa using ha rfl
 |false=>simpa using hb rfl
theorem S7 {α:Type} {b:Bool} {A B y:Option α} (h:b=false) (hb:B=y):(if b=true then A else B)=y:=by rw [if_neg (by simp [h])];exact hb
theorem Wk {α:Type} {b:Bool} {A B y:Option α} (h:b=true) (ha:A=y):(if b=true then A else B)=y:=by rw [if_pos h];exact ha
theorem Gp {α β:Type} {o:Option α} {x:α} {f:α→Option β} (h:o=some x):o.bind f=f x:=by rw [h];rfl
def A5 {α:Type} (o:Option α) (Q:α→Prop):Prop:= ∃x,o=some x∧Q x
section
variable {α β σ:Type} {Q:β→Prop}
theorem A5.bind {o:Option α} {P:α→Prop} {f:α→Option β} (h:A5 o P) (hf: ∀x,P x→A5 (f x) Q):A5 (o.bind f) Q:=by obtain⟨x,rfl,hx⟩:=h;exact hf x hx
theorem A5.ret {x:β} (h:Q x):A5 (some x) Q:=⟨x,rfl,h⟩
theorem A5.ite {b:Bool} {A B:Option β} (ha:b=true→A5 A Q) (hb:b=false→A5 B Q):A5 (if b=true then A else B) Q:=by
 cases b with
 |true=>simpa using ha rfl
 |false=>simpa using hb rfl
theorem A5.req {p:Prop} [Decidable p] {k:Option β} (hp:p) (hk:A5 k Q):A5 (req p k) Q:=by rw [AJ hp];exact hk
theorem A5.mono {o:Option β} {P:β→Prop} (h:A5 o P) (hPQ: ∀x,P x→Q x):A5 o Q:=by obtain⟨x,hx,h⟩:=h;exact⟨x,hx,hPQ x h⟩
theorem A5.getI {xs:List β} {i:Int} (h0:0≤i) (h:i<xs.length) (hq: ∀x,x∈xs→Q x):A5 (getI xs i) Q:=by obtain⟨x,h1,h2,_⟩:=IJ h0 h;exact⟨x,h1,hq x h2⟩
theorem Kb {body:σ→Option (σ ⊕ Option β)} (I:Nat→σ→Prop) (h: ∀n s,I n s→A5 (body s) fun o=>match o with| .inl s'=> ∃m,m<n∧I m s'| .inr q=>A5 q Q): ∀{n:Nat} {s:σ},I n s→A5 (AA body s) Q:=by
 intro n
 induction n using Nat.strongRecOn with
 |_ n ih=>
  intro s hI;obtain⟨o,ho,h2⟩:=h n s hI;rw [EW,ho]
  match o,h2 with
  | .inl s',⟨m,hm,hI'⟩=>exact ih m hm hI'
  | .inr q,hq=>exact hq
end
structure BX where
 mj:List Int→Prop
 nr: ∀l,mj l→ ∀b∈l,0≤b∧b≤255
instance codeBytes:Inhabited BX:=⟨⟨fun l=> ∀b∈l,0≤b∧b≤255,fun _ h=>h⟩⟩
def AU [Inhabited BX] (c:An) (k:Int):Prop:=(default:BX).mj c.ar∧0≤c.bf∧c.bf≤k
theorem AU.up [Inhabited BX] {c:An} {i j:Int} (h:AU c i) (Nq:i≤j):AU c j:=⟨h.1,h.2.1,by have:=h.2.2;omega⟩
theorem AU.start [Inhabited BX] {code:List Int} (h:(default:BX).mj code):AU ⟨code,0,0⟩ 0:=⟨h,by simp,by simp⟩
theorem qF (a:Int):0≤IntKind.i64.wrap (IntKind.u64.wrap ((BitVec.ofInt (IntKind.bits .u64) a&&&BitVec.ofInt (IntKind.bits .u64) 255).toNat:Int))∧IntKind.i64.wrap (IntKind.u64.wrap ((BitVec.ofInt (IntKind.bits .u64) a&&&BitVec.ofInt (IntKind.bits .u64) 255).toNat:Int))≤255:=by
 have h:(BitVec.ofInt (IntKind.bits .u64) a&&&BitVec.ofInt (IntKind.bits .u64) 255).toNat≤255:=by rw [BitVec.toNat_and];exact Nat.le_trans Nat.and_le_right (by decide)
 generalize (BitVec.ofInt (IntKind.bits .u64) a&&&BitVec.ofInt (IntKind.bits .u64) 255).toNat=m at h ⊢;have e:IntKind.u64.wrap (m:Int)=m:=by simp [IntKind.wrap,IntKind.bits,IntKind.signed];omega
 rw [e,Bh (by omega) (by omega)];omega
theorem pC [Inhabited BX] {c:An} {k:Int} (h:AU c k) (hk:k≤4611686018427387904):A5 (Od c) fun p=>(0≤p.1∧p.1≤255)∧AU p.2 (k+1):=by
 obtain⟨hb,h0,h1⟩:=h;have w:IntKind.i64.wrap (c.bf+1)=c.bf+1:=Bh (by omega) (by omega);unfold Od;refine .ite (fun Aq=> ?_) fun Aq=> ?_
 ·simp only [decide_eq_true_eq]at Aq;refine A5.bind (P:=fun y=>0≤y∧y≤255) (.getI h0 Aq ((default:BX).nr _ hb)) fun y hy=> ?_;have wy:IntKind.i64.wrap y=y:=Bh (by omega) (by omega);refine .ite (fun _=> .ret ⟨by dsimp only;rw [wy];exact hy,hb,by dsimp only;omega,by dsimp only;omega⟩) fun _=> .ret ⟨qF _,hb,by dsimp only;omega,by dsimp only;omega⟩
 ·refine .ite (fun _=> .ret ⟨by simp,hb,by dsimp only;omega,by dsimp only;omega⟩) fun _=> .ret ⟨qF _,hb,by dsimp only;omega,by dsimp only;omega⟩
theorem CI [Inhabited BX] {c:An} {k:Int} (n:Int) (h:AU c k) (hk:k≤4611686018427387000):A5 (Cv c n) fun p=>(0≤p.1∧(1≤n→p.1<n)∧p.1≤65535)∧AU p.2 (k+2):=by
 have tm: ∀x:Int,0≤x→1<n→0≤x.tmod n∧x.tmod n<n∧x.tmod n≤x:=fun x hx hn=>by
  rw [Int.tmod_eq_emod_of_nonneg hx];exact⟨Int.emod_nonneg _ (by omega),Int.emod_lt_of_pos _ (by omega),by have:=Int.emod_add_mul_ediv x n;have h2:0≤n*(x/n):=Int.mul_nonneg (by omega) (Int.ediv_nonneg hx (by omega));omega⟩
 unfold Cv;refine .ite (fun hn=> .ret ⟨⟨by simp,fun h1=>by dsimp only;omega,by simp⟩,h.up (by omega)⟩) fun hn=> ?_;simp only [decide_eq_false_iff_not]at hn;refine(pC h (by omega)).bind fun p ⟨hp,hc⟩=> ?_;refine .ite (fun _=> ?_) fun _=> ?_
 ·refine(pC hc (by omega)).bind fun q ⟨hq,hd⟩=> .req (by omega) (.ret ?_);have w1:IntKind.i64.wrap (p.1*256)=p.1*256:=Bh (by omega) (by omega);have w2:IntKind.i64.wrap (p.1*256+q.1)=p.1*256+q.1:=Bh (by omega) (by omega);have:=tm (p.1*256+q.1) (by omega) (by omega);dsimp only;rw [w1,w2];exact⟨⟨this.1,fun _=>this.2.1,by omega⟩,hd.up (by omega)⟩
 ·have:=tm p.1 hp.1 (by omega);exact .req (by omega) (.ret ⟨⟨this.1,fun _=>this.2.1,by dsimp only;omega⟩,hc.up (by omega)⟩)
theorem zA2 [Inhabited BX] {c:An} {k:Int} (l:List Int) (hl:l≠ []) (h:AU c k) (hk:k≤4611686018427387000):A5 (WL c l) fun p=>p.1∈l∧AU p.2 (k+2):=by unfold WL;have FY:0<l.length:=List.length_pos_iff.2 hl;refine(CI l.length h hk).bind fun p ⟨hp,hc⟩=> ?_;exact A5.bind (P:=fun y=>y∈l) (.getI hp.1 (hp.2.1 (by omega)) fun x hx=>hx) fun y hy=> .ret ⟨hy,hc⟩
theorem Io [Inhabited BX] {c:An} {k:Int} (n:Int) (h:AU c k) (hk:k≤4611686018427387000):A5 (Gn c n) fun p=>AU p.2 (k+2):=by unfold Gn;exact(CI n h hk).bind fun p ⟨_,hc⟩=> .ret hc
theorem kM {α β:Type} (f:α→β) (l:List α) (o:List β):l.foldl (fun o x=>o++ [f x]) o=o++l.map f:=by
 induction l generalizing o with
 |nil=>simp
 |cons x l ih=>rw [List.foldl_cons,ih];simp
abbrev Ai:=Ab
def BL (a b c:Int):Bool:=decide (a≥b)&&decide (a≤c)
theorem BW {a b c:Int}:BL a b c=true↔b≤a∧a≤c:=by simp [BL]
@[simp] theorem Hd (a b c:Int):FC a b c=some (BL a b c):=rfl
@[simp] theorem IG (a b c:Int):G6 a b c=some (BL a b c):=rfl
def EG (b:UInt8):Bool:=(decide ((b.toNat:Int)≥97)&&decide ((b.toNat:Int)≤122))||(decide ((b.toNat:Int)≥48)&&decide ((b.toNat:Int)≤57))
def JB (s more:Ai):Bool:=s.all fun b=>EG b||more.contains b
theorem qR {a b:UInt8}:((a.toNat:Int)==(b.toNat:Int))=(a==b):=by
 rw [Bool.eq_iff_iff];simp only [beq_iff_eq];constructor
 ·intro h;exact UInt8.toNat_inj.1 (by omega)
 ·rintro rfl;rfl
theorem xD {α:Type} (xs:List α) (p:α→Bool) (q:Nat→Bool) (h: ∀(i:Nat) (hi:i<xs.length),q i=p xs[i]):(List.range xs.length).all q=xs.all p:=by
 rw [Bool.eq_iff_iff];simp only [AG,List.mem_range];constructor
 ·intro hq x hx;obtain⟨i,hi,rfl⟩:=List.getElem_of_mem hx;rw [←h i hi];exact hq i hi
 ·intro hp i hi;rw [h i hi];exact hp _ (List.getElem_mem hi)
theorem La {α β:Type} {xs:List α} {body:Int→Option (Int ⊕ Option β)} (p:α→Bool) (b:β) (fin:Option β)
  (hs: ∀(i:Nat) (hi:i<xs.length),body i=some (if p xs[i]=true then .inl ((i+1:Nat):Int)else .inr (some b))) (he:body xs.length=some (.inr fin)):AA body 0=if xs.all p=true then fin else some b:=by
 rw [Mz (n:=xs.length) (fun i=>match xs[i]? with|some x=>p x|none=>true) b fin (fun i hi=>by rw [hs i hi];simp [hi]) he,
  xD xs p _ fun i hi=>by simp [hi]]
theorem jW {s more:Ai} (h1:s.length≤2000000) (h2:more.length≤2000000):Qo s more=some (JB s more):=by
 unfold Qo;rw [La (xs:=s) (fun b=>EG b||more.contains b) false (some true) ?_ (by simp [fL])]
 ·unfold JB;cases(s.all fun b=>EG b||more.contains b)<;>rfl
 ·intro i hi;have BZ:AA (fun t:Bool × Int=>Tx more i s[i] t.1 t.2) (EG s[i],0)=some (if(EG s[i]||more.contains s[i])=true then .inl ((i+1:Nat):Int)else .inr (some false)):=by
   have hl:=YH (xs:=more) (body:=fun t:Bool × Int=>Tx more i s[i] t.1 t.2) (fun k (ok:Bool)=>(ok,k)) (fun b ok=>some (.inl (ok||s[i]==b))) (fun ok=>fI i ok)
    (fun k hk ok=>by simp only [Tx,Int.ofNat_lt,hk,decide_true,if_true,AO hk,Aa,Bi hk (by omega:more.length≤_),qR,Lw];cases ok<;>simp) (fun ok=>by simp [Tx]) (EG s[i])
   rw [zA3 (fun ok b=>ok||s[i]==b) (fun _=>True) (fun _ _ _ _=>trivial) (fun _ _ _ _=>rfl) trivial]at hl;have hf: ∀(l:Ai) (ok:Bool),l.foldl (fun ok b=>ok||s[i]==b) ok=(ok||l.contains s[i]):=by
    intro l
    induction l with
    |nil=>intro ok;simp
    |cons c l ih=>intro ok;rw [List.foldl_cons,ih,List.contains_cons,Bool.or_assoc]
   rw [hl,hf];unfold fI;rw [Bi hi (by omega)];cases(EG s[i]||more.contains s[i])<;>rfl
  simp only [fL,Int.ofNat_lt,hi,decide_true,if_true,AO hi,Aa];exact BZ
theorem zti (l:Ai) (c:UInt8):decide (Lib.indexByte l c<0)= !l.contains c:=by
 induction l with
 |nil=>rfl
 |cons b l ih=>
  unfold Lib.indexByte;have FK:=Lib.indexByte_ge l c;rw [List.contains_cons];by_cases hb:b=c
  ·subst hb;simp
  ·have h1:(b==c)=false:=by simpa using hb
   have h2:(c==b)=false:=by simpa using fun h=>hb h.symm
   rw [h1,h2];simp only [AY,if_false,Bool.false_or];rw [←ih];by_cases hm:Lib.indexByte l c= -1
   ·simp [hm]
   ·have h3:(Lib.indexByte l c== -1)=false:=by simpa using hm
    rw [h3];simp only [AY,if_false];rw [decide_eq_decide];omega
theorem jN {s more:Ai} (h1:s.length≤2000000):Qq s more=some (JB s more):=by
 unfold Qq;rw [La (xs:=s) (fun b=>EG b||more.contains b) false (some true) ?_ (by simp [eR])]
 ·unfold JB;cases(s.all fun b=>EG b||more.contains b)<;>rfl
 ·intro i hi;have hu:((s[i].toNat:Int)).toNat.toUInt8=s[i]:=by simp
  simp only [eR,Int.ofNat_lt,hi,decide_true,if_true,AO hi,Aa,eN,eY,Wt,hu,zti,Bi hi (by omega:s.length≤_)];rw [show((decide ((s[i].toNat:Int)≥97)&&decide ((s[i].toNat:Int)≤122))||(decide ((s[i].toNat:Int)≥48)&&decide ((s[i].toNat:Int)≤57)))=EG s[i]from rfl];cases EG s[i]<;>cases more.contains s[i]<;>rfl
def Du (s:Ai):Bool:=BL s.length 1 12&&JB s [46,47]
def Gs (s:Ai):Bool:=decide ((s.length:Int)≤24)&&JB s [46,45,44,95]
theorem qC {s:Ai} (h:s.length≤2000000):T9 s=some (Du s):=by simp only [T9,Hd,Aa,jW h (more:= [46,47]) (by decide),Du];cases BL s.length 1 12<;>simp
theorem zE9 {s:Ai} (h:s.length≤2000000):XQ s=some (Du s):=by simp only [XQ,IG,Aa,jN h,Du];cases BL s.length 1 12<;>simp
theorem cJ {s:Ai} (h:s.length≤2000000):T7 s=some (Gs s):=by simp only [T7,Aa,jW h (more:= [46,45,44,95]) (by decide),Gs];by_cases hl:(s.length:Int)≤24<;>simp [hl]
theorem zEu {s:Ai} (h:s.length≤2000000):XO s=some (Gs s):=by simp only [XO,Aa,jN h,Gs];by_cases hl:(s.length:Int)≤24<;>simp [hl]
def HO (v:Ai) (gone:Bool):Bool:=Gs v&&(!gone||v== [])
theorem zzk {v:Ai} {gone:Bool} (h:v.length≤2000000):Xm v gone=some (HO v gone):=by simp only [Xm,zEu h,Aa,HO,bne];cases Gs v<;>cases gone<;>cases(v== [])<;>rfl
theorem zCm {k v:Ai} {gone:Bool} (hk:k.length≤2000000) (hv:v.length≤2000000):XM k v gone=some (Du k&&HO v gone):=by simp only [XM,qC hk,cJ hv,Aa,HO];cases Du k<;>simp
def IH (ks:List Ai) (i:Nat):Bool:=i==0||Op.bytesLess ((ks[i-1]?).getD []) ((ks[i]?).getD [])
def Kp (ks:List Ai):Bool:=(List.range ks.length).all (IH ks)
theorem kZ: ∀(a b:Ai),(Op.bytesLess a b||a==b)= !Op.bytesLess b a
 | [], []=>rfl
 | [],_::_=>rfl
 |_::_, []=>rfl
 |x::a,y::b=>by
  have ih:=kZ a b;simp only [Op.bytesLess];rcases Nat.lt_trichotomy x.toNat y.toNat with h|h|h
  ·have h1:x<y:=UInt8.lt_iff_toNat_lt.2 h;have h2: ¬y<x:=fun h'=>by have:=UInt8.lt_iff_toNat_lt.1 h';omega
   have h3: ¬y=x:=fun h'=>by subst h';omega
   simp [h1,h2,h3]
  ·have h0:x=y:=UInt8.toNat_inj.1 h;subst h0;have h1: ¬x<x:=fun h'=>by have:=UInt8.lt_iff_toNat_lt.1 h';omega
   rw [show((x::a)==(x::b))=(a==b) by simp];simp only [h1,decide_false,Bool.false_or,beq_self_eq_true,Bool.true_and];exact ih
  ·have h1: ¬x<y:=fun h'=>by have:=UInt8.lt_iff_toNat_lt.1 h';omega
   have h2:y<x:=UInt8.lt_iff_toNat_lt.2 h;have h3: ¬x=y:=fun h'=>by subst h';omega
   simp [h1,h2,h3]
theorem Y5 {i:Nat} (h0:0<i) (h:i≤2000000):IntKind.i64.wrap ((i:Int)-1)=((i-1:Nat):Int):=by rw [Bh (by omega) (by omega)];omega
theorem o6 {α:Type} (xs:List α) (p:α→Bool) (q r:Nat→Bool) (h: ∀(i:Nat) (hi:i<xs.length),r i=(p xs[i]&&q i)):(List.range xs.length).all r=(xs.all p&&(List.range xs.length).all q):=by
 rw [←xD xs p (fun i=>match xs[i]? with|some x=>p x|none=>true) fun i hi=>by simp [hi]];rw [Bool.eq_iff_iff];simp only [Ae,AG,List.mem_range];constructor
 ·intro hr;exact⟨fun i hi=>by have:=hr i hi;rw [h i hi,Ae]at this;simpa [hi]using this.1,fun i hi=>by have:=hr i hi;rw [h i hi,Ae]at this;exact this.2⟩
 ·rintro⟨h1,h2⟩ i hi;rw [h i hi,Ae];exact⟨by have:=h1 i hi;simpa [hi]using this,h2 i hi⟩
theorem zvY {ks:List Ai} (h:ks.length≤2000000) (hk: ∀k∈ks,k.length≤2000000):Xz ks=some (ks.all Du&&Kp ks):=by
 unfold Xz Kp;rw [Mz (n:=ks.length) (fun i=>Du ((ks[i]?).getD [])&&IH ks i) false (some true) ?_ (by simp [eX]),o6 ks Du (IH ks) _ fun i hi=>by simp [hi]]
 ·cases(ks.all Du&&(List.range ks.length).all (IH ks))<;>rfl
 ·intro i hi;simp only [eX,Int.ofNat_lt,hi,decide_true,if_true,AO hi,Aa,zE9 (hk _ (List.getElem_mem hi)),Bi hi (by omega:ks.length≤_),List.getElem?_eq_getElem hi,Option.getD_some,IH];by_cases h0:i=0
  ·subst h0;cases Du ks[0]<;>simp
  ·have hp:(i:Int)>0:=by omega
   have Cp:i-1<ks.length:=by omega
   have hb:(i==0)=false:=by simpa using h0
   simp only [hp,decide_true,if_true,Y5 (Nat.pos_of_ne_zero h0) (by omega:i≤2000000),AO Cp,Aa,kZ,List.getElem?_eq_getElem Cp,Option.getD_some,hb,Bool.false_or];cases Du ks[i]<;>cases Op.bytesLess ks[i-1] ks[i]<;>rfl
theorem zwq {l:List Ac} (h:l.length≤2000000):Xw l=some (l.map (·.af)):=by
 have h1:=Ft (xs:=l) (body:=fun s:Int × List Ai=>PX l s.1 s.2) (fun i (o:List Ai)=>(i,o)) (fun o w=>o++ [w.af]) (fun o=>some o) (fun q o=>o.length=q)
  (fun i hi o hI=>by
   refine⟨?_,by simp [hI]⟩;show PX l i o=_;unfold PX;have hr:((o.length:Int)+(([l[i].af]:List Ai).length:Int))*16≤140737488355328∧(o.length:Int)+(([l[i].af]:List Ai).length:Int)≤140737488355328:=by rw [AD,hI];omega
   rw [if_pos (by simpa using hi),AO hi,Aa,AJ hr,Bi hi (by omega)]) (fun o _=>by
   show PX l l.length o=_;unfold PX;rw [if_neg (by simp)]) (s:= []) rfl
 have hf: ∀(l:List Ac) (o:List Ai),l.foldl (fun o w=>o++ [w.af]) o=o++l.map (·.af):=by
  intro l
  induction l with
  |nil=>intro o;simp
  |cons w l ih=>intro o;rw [List.foldl_cons,ih];simp
 have h2:=h1.1;rw [hf,List.nil_append]at h2;unfold Xw;exact h2
def CW (w:Ac):Bool:=Du w.af&&HO w.ay w.bb
def Jx (l:List Ac):Bool:=decide ((l.length:Int)≤24)&&(l.all CW&&Kp (l.map (·.af)))
def JE (l:List Ac):Prop:=l.length≤2000000∧ ∀w∈l,w.af.length≤2000000∧w.ay.length≤2000000
theorem zAa {l:List Ac} (h:JE l):Xd l=some (Jx l):=by
 have e1:G7 l (fun y0_=>WY y0_)=some (l.any fun w=> !HO w.ay w.bb):=UO _ (fun w hw=>by simp [WY,zzk (h.2 w hw).2]) (by have:=h.1;omega);have e2:=zvY (ks:=l.map (·.af)) (by simpa using h.1) (by simp only [List.mem_map];rintro k ⟨w,hw,rfl⟩;exact(h.2 w hw).1);simp only [Xd,zwq h.1,e1,e2,Aa,Jx,←List.not_all_eq_any_not];have e3:l.all CW=((l.map (·.af)).all Du&&l.all fun w=>HO w.ay w.bb):=by
  rw [Bool.eq_iff_iff];simp only [AG,Ae,CW,List.mem_map];constructor
  ·intro h;exact⟨by rintro k ⟨w,hw,rfl⟩;exact(h w hw).1,fun w hw=>(h w hw).2⟩
  ·rintro⟨h1,h2⟩ w hw;exact⟨h1 _ ⟨w,hw,rfl⟩,h2 w hw⟩
 rw [e3];generalize (l.map (·.af)).all Du=b1;generalize Kp (l.map (·.af))=b2;generalize (l.all fun w=>HO w.ay w.bb)=b3;by_cases hl:(l.length:Int)≤24<;>cases b1<;>cases b2<;>cases b3<;>simp [hl]
theorem zAl {l:List Ac} (h:JE l):Xl l=some (Jx l):=by
 unfold Xl;have hn:=h.1;rw [Mz (n:=l.length) (fun i=>CW ((l[i]?).getD ⟨[], [],false⟩)&&IH (l.map (·.af)) i) false (eQ l) ?_ (by simp [fJ]),o6 l CW (IH (l.map (·.af))) _ fun i hi=>by simp [hi]]
 ·unfold eQ Jx Kp;rw [List.length_map];cases(l.all CW&&(List.range l.length).all (IH (l.map (·.af))))<;>simp
 ·intro i hi;have hm:=h.2 _ (List.getElem_mem hi);simp only [fJ,Int.ofNat_lt,hi,decide_true,if_true,AO hi,Aa,zCm hm.1 hm.2,Bi hi (by omega:l.length≤_),List.getElem?_eq_getElem hi,Option.getD_some,IH,List.getElem?_map,Option.map_some];rw [show(Du l[i].af&&HO l[i].ay l[i].bb)=CW l[i]from rfl];by_cases h0:i=0
  ·subst h0;cases CW l[0]<;>simp
  ·have hp:(i:Int)>0:=by omega
   have Cp:i-1<l.length:=by omega
   have hb:(i==0)=false:=by simpa using h0
   simp only [hp,decide_true,if_true,Y5 (Nat.pos_of_ne_zero h0) (by omega:i≤2000000),AO Cp,Aa,List.getElem?_eq_getElem Cp,Option.map_some,Option.getD_some,hb,Bool.false_or];cases CW l[i]<;>cases Op.bytesLess l[i-1].af l[i].af<;>rfl
def D5 (l:List Ac):Bool:=Jx l&&l.all fun w=> !w.bb
theorem zT {l:List Ac} (h:JE l):T5 l=some (D5 l):=by have e1:G7 l (fun y0_=>Xf y0_)=some (l.any fun w=> !!w.bb):=UO _ (fun w hw=>by simp [Xf]) (by have:=h.1;omega);simp only [T5,zAa h,e1,Aa,D5,←List.not_all_eq_any_not];cases Jx l<;>simp
theorem MG {l:List Ac} (h:JE l):J8 l=some (D5 l):=by
 have hn:=h.1;unfold J8;rw [La (xs:=l) (fun w=> !w.bb) false (fU l) (fun i hi=>by simp only [fT,Int.ofNat_lt,hi,decide_true,if_true,AO hi,Aa,Bi hi (by omega:l.length≤_)];cases l[i].bb<;>rfl) (by simp [fT])]
 simp only [fU,zAl h,Aa,D5];cases(l.all fun w=> !w.bb)<;>simp
def small (b:UInt8):Bool:= !(decide ((b.toNat:Int)<97)||decide ((b.toNat:Int)>122))
def Cl (s:Ai) (n:Int):Bool:=s.all small&&BL s.length 1 n
theorem jM {s:Ai} {n:Int} (h:s.length≤2000000):Qd s n=some (Cl s n):=by
 unfold Qd;rw [La (xs:=s) small false (eG s n) (fun i hi=>by simp only [eF,Int.ofNat_lt,hi,decide_true,if_true,AO hi,Aa,Bi hi (by omega:s.length≤_)];rw [show(decide ((s[i].toNat:Int)<97)||decide ((s[i].toNat:Int)>122))= !small s[i] by simp [small]];cases small s[i]<;>rfl) (by simp [eF])]
 unfold eG Cl BL;cases s.all small<;>simp
theorem iY {s:Ai} {n:Int} (h:s.length≤2000000):Qc s n=some (Cl s n):=by
 unfold Qc;rw [La (xs:=s) small false (eI s n) (fun i hi=>by simp only [eJ,Int.ofNat_lt,hi,decide_true,if_true,AO hi,Aa,Bi hi (by omega:s.length≤_)];rw [show(decide ((s[i].toNat:Int)<97)||decide ((s[i].toNat:Int)>122))= !small s[i] by simp [small]];cases small s[i]<;>rfl) (by simp [eJ])]
 simp only [eI,IG,Aa,Cl];cases s.all small<;>simp
theorem qU {xs:List Ai} {s:Ai} (h:xs.length≤2000000):T3 xs s=some (Bp (· ==s) xs):=by unfold T3;refine kP (· ==s) (fun i hi=> ?_) (by simp [gG]);simp only [gG,Int.ofNat_lt,hi,decide_true,if_true,AO hi,Aa,Bi hi (by omega:xs.length≤_)];cases xs[i]==s<;>rfl
theorem zA0 {xs:List Ai} {s:Ai} (h:xs.length≤2000000):Ww xs s=some (Bp (· ==s) xs):=by unfold Ww;refine kP (· ==s) (fun i hi=> ?_) (by simp [dN]);simp only [dN,Int.ofNat_lt,hi,decide_true,if_true,AO hi,Aa,Bi hi (by omega:xs.length≤_)];rw [show(s==xs[i])=(xs[i]==s)from BEq.comm];cases xs[i]==s<;>rfl
theorem cL (xs:List Ai) (s:Ai):(xs.any fun x=>x==s)=xs.contains s:=by rw [List.contains_eq_any_beq];congr 1;funext x;exact BEq.comm
theorem qD {xs:List Ai} {s:Ai} (h:xs.length≤2000000):Tg xs s=some (xs.contains s):=by simp only [Tg,zA0 h,Aa,OM,cL]
def MT (cs:List Ai) (i:Nat):Bool:=Cl ((cs[i]?).getD []) 3&& !(cs.take i).contains ((cs[i]?).getD [])
def Kn (cs:List Ai):Bool:=(List.range cs.length).all (MT cs)
def Hg (t:Ad) (i:Nat):Bool:=
 let x:=(t.ae[i]?).getD ⟨[],0,0⟩
 Cl x.ab 1&&BL x.bh 1 ((t.al.length:Int)-1)&&BL x.ak 0 3&&(i==0||Op.bytesLess ((t.ae[i-1]?).getD ⟨[],0,0⟩).ab x.ab)
def AZ (t:Ad):Bool:=Cl t.ab 1&&(Kn t.al&&BL t.al.length 2 4)&&decide ((t.ae.length:Int)≤3)&&(List.range t.ae.length).all (Hg t)
structure CJ (t:Ad):Prop where
 name:t.ab.length≤2000000
 fh:t.al.length≤2000000
 jv: ∀c∈t.al,c.length≤2000000
 idxs:t.ae.length≤2000000
 idx: ∀x∈t.ae,x.ab.length≤2000000
theorem N4 {α:Type} (xs:List α) (i:Nat):A7 xs 0 i=xs.take i:=by simp [A7]
theorem zDJ {cs:List Ai} (h:cs.length≤2000000) (hc: ∀c∈cs,c.length≤2000000):XG cs=some (Kn cs&&BL cs.length 2 4):=by
 unfold XG;rw [Mz (n:=cs.length) (MT cs) false (fD cs) ?_ (by simp [fF])]
 ·simp only [fD,Hd,Aa,Kn];cases(List.range cs.length).all (MT cs)<;>simp
 ·intro i hi;unfold fF MT;rw [if_pos (by simpa using hi),AO hi,Aa,jM (hc _ (List.getElem_mem hi)),Aa,AJ (by omega),N4,qU (by rw [List.length_take];omega),Aa,OM,cL,Bi hi (by omega)];simp only [List.getElem?_eq_getElem hi,Option.getD_some];cases Cl cs[i] 3<;>cases(cs.take i).contains cs[i]<;>rfl
theorem ME {t:Ad} (h:CJ t):K3 t=some (AZ t):=by
 have hw:=Bh (n:=(t.al.length:Int)-1) (by omega) (by have:=h.fh;omega);have hn:=h.idxs;have hl:AA (fun s:Int=>WZ t s) 0=some ((List.range t.ae.length).all (Hg t)):=by
  rw [Mz (n:=t.ae.length) (Hg t) false (some true) ?_ (by simp [WZ])]
  ·cases(List.range t.ae.length).all (Hg t)<;>rfl
  ·intro i hi;unfold Hg;simp only [WZ,Int.ofNat_lt,hi,decide_true,if_true,AO hi,Aa,jM (h.idx _ (List.getElem_mem hi)),Hd,hw,Bi hi (by omega:t.ae.length≤_),List.getElem?_eq_getElem hi,Option.getD_some];by_cases h0:i=0
   ·subst h0;cases Cl t.ae[0].ab 1<;>cases BL t.ae[0].bh 1 ((t.al.length:Int)-1)<;>cases BL t.ae[0].ak 0 3<;>rfl
   ·have hp:(i:Int)>0:=by omega
    have Cp:i-1<t.ae.length:=by omega
    have hb:(i==0)=false:=by simpa using h0
    simp only [hp,decide_true,if_true,Y5 (Nat.pos_of_ne_zero h0) (by omega:i≤2000000),AO Cp,Aa,List.getElem?_eq_getElem Cp,Option.getD_some,hb,Bool.false_or];cases Cl t.ae[i].ab 1<;>cases BL t.ae[i].bh 1 ((t.al.length:Int)-1)<;>cases BL t.ae[i].ak 0 3<;>cases Op.bytesLess t.ae[i-1].ab t.ae[i].ab<;>rfl
 unfold K3 AZ;rw [jM h.name,Aa,zDJ h.fh h.jv,hl];by_cases hk:(t.ae.length:Int)≤3
 ·have BM: ¬(t.ae.length:Int)>3:=by omega
  simp only [hk,BM,decide_true,decide_false,Bool.or_false,Bool.and_true];cases Cl t.ab 1<;>cases(Kn t.al&&BL t.al.length 2 4)<;>simp
 ·have BM:(t.ae.length:Int)>3:=by omega
  simp only [hk,BM,decide_true,decide_false,Bool.or_true,Bool.and_false,Bool.false_and];cases Cl t.ab 1<;>simp
theorem zBo {t:Ad} (h:CJ t):W9 t=some (AZ t):=by
 have hw:=Bh (n:=(t.al.length:Int)-1) (by omega) (by have:=h.fh;omega);have hn:=h.idxs;have hm:=h.fh;have hl:AA (fun s:Int=>W5 t s) 0=some ((List.range t.ae.length).all (Hg t)):=by
  rw [Mz (n:=t.ae.length) (Hg t) false (some true) ?_ (by simp [W5])]
  ·cases(List.range t.ae.length).all (Hg t)<;>rfl
  ·intro i hi;unfold Hg;simp only [W5,Qn,Int.ofNat_lt,hi,decide_true,if_true,AO hi,Aa,iY (h.idx _ (List.getElem_mem hi)),IG,hw,Bi hi (by omega:t.ae.length≤_),List.getElem?_eq_getElem hi,Option.getD_some];by_cases h0:i=0
   ·subst h0;cases Cl t.ae[0].ab 1<;>cases BL t.ae[0].bh 1 ((t.al.length:Int)-1)<;>cases BL t.ae[0].ak 0 3<;>rfl
   ·have hp:(i:Int)>0:=by omega
    have Cp:i-1<t.ae.length:=by omega
    have hb:(i==0)=false:=by simpa using h0
    simp only [hp,decide_true,if_true,Y5 (Nat.pos_of_ne_zero h0) (by omega:i≤2000000),AO Cp,Aa,List.getElem?_eq_getElem Cp,Option.getD_some,hb,Bool.false_or,kZ];cases Cl t.ae[i].ab 1<;>cases BL t.ae[i].bh 1 ((t.al.length:Int)-1)<;>cases BL t.ae[i].ak 0 3<;>cases Op.bytesLess t.ae[i-1].ab t.ae[i].ab<;>rfl
 have hc:AA (fun s:Int=>WX t s) 0=some (Kn t.al&&(List.range t.ae.length).all (Hg t)):=by
  rw [Mz (n:=t.al.length) (MT t.al) false (eW t) ?_ (by simp [WX])]
  ·unfold eW Kn;rw [hl];cases(List.range t.al.length).all (MT t.al)<;>simp
  ·intro i hi;unfold WX MT;rw [if_pos (by simpa using hi),AO hi,Aa,iY (h.jv _ (List.getElem_mem hi)),Aa,AJ (by omega),N4,qD (by rw [List.length_take];omega),Aa,Bi hi (by omega)];simp only [List.getElem?_eq_getElem hi,Option.getD_some];cases Cl t.al[i] 3<;>cases(t.al.take i).contains t.al[i]<;>rfl
 unfold W9 AZ;rw [iY h.name,Aa,IG,Aa,hc];by_cases hk:(t.ae.length:Int)≤3
 ·have BM: ¬(t.ae.length:Int)>3:=by omega
  simp only [hk,BM,decide_true,decide_false,Bool.or_false,Bool.and_true];cases Cl t.ab 1<;>cases Kn t.al<;>cases BL t.al.length 2 4<;>simp
 ·have BM:(t.ae.length:Int)>3:=by omega
  simp only [hk,BM,decide_true,decide_false,Bool.or_true,Bool.and_false,Bool.false_and];cases Cl t.ab 1<;>simp
theorem Kl {t:Ad} {s:Ai} (h:CJ t):HE t s=some (Bp (fun x:Au=>x.ab==s) t.ae):=by have hn:=h.idxs;unfold HE;refine kP (fun x:Au=>x.ab==s) (fun i hi=> ?_) (by simp [fQ]);simp only [fQ,Int.ofNat_lt,hi,decide_true,if_true,AO hi,Aa,Bi hi (by omega:t.ae.length≤_)];cases t.ae[i].ab==s<;>rfl
theorem UY {t:Ad} {s:Ai} (h:CJ t):PF t s=some (Bp (fun x:Au=>x.ab==s) t.ae):=by have hn:=h.idxs;have e:F4 t.ae (fun y0_=>eD y0_ s)=some (Bp (fun x:Au=>x.ab==s) t.ae):=zvB (fun x:Au=>x.ab==s) (fun x _=>rfl) (by omega);simp only [PF,e,Aa]
def BQ (c:UInt8):Ai→List Ai
 | []=> [[]]
 |b::s=>if b=c then []::BQ c s else(match BQ c s with| []=> [[b]]|x::xs=>(b::x)::xs)
theorem jR (c:UInt8) (s:Ai):BQ c s≠ []:=by
 cases s with
 |nil=>simp [BQ]
 |cons b s=>simp only [BQ];split;simp;split<;>simp
theorem K5 {c:UInt8}: ∀{s:Ai},(∀b∈s,b≠c)→BQ c s= [s]
 | [],_=>rfl
 |b::s,h=>by have e:=K5 (c:=c) (s:=s) fun x hx=>h x (List.mem_cons_of_mem _ hx);simp only [BQ,if_neg (h b (by simp)),e]
theorem My {c:UInt8}: ∀{p q:Ai},(∀b∈p,b≠c)→BQ c (p++c::q)=p::BQ c q
 | [],q,_=>by simp [BQ]
 |b::p,q,h=>by have e:=My (c:=c) (p:=p) (q:=q) fun x hx=>h x (List.mem_cons_of_mem _ hx);simp only [List.cons_append,BQ,if_neg (h b (by simp)),e]
theorem Yr (c:UInt8) (s:Ai):(BQ c s).length=s.count c+1:=by
 induction s with
 |nil=>rfl
 |cons b s ih=>
  simp only [BQ];by_cases h:b=c
  ·subst h;simp [ih]
  ·rw [if_neg h,List.count_cons_of_ne h];cases hs:BQ c s with
   |nil=>exact absurd hs (jR c s)
   |cons x xs=>rw [hs]at ih;simpa using ih
theorem NX {α:Type} (xs:List α) (i j:Nat):A7 xs (i:Int) (j:Int)=(xs.take j).drop i:=by simp [A7]
def We (c:UInt8) (s:Ai) (t:List Ai × Nat) (i:Nat):List Ai × Nat:=if(s[i]?).getD 0=c then(t.1++ [(s.take i).drop t.2],i+1)else t
theorem xI {s:Ai} {c:UInt8} (h:s.length≤2000000):On s c.toNat=some (BQ c s):=by
 have h1:=Ft (xs:=List.range s.length) (body:=fun t:List Ai × Int × Int=>Qf s c.toNat t.1 t.2.1 t.2.2) (fun i (t:List Ai × Nat)=>(t.1,(t.2:Int),i)) (We c s) (fun t=>fA s t.2 t.1)
  (fun i t=>t.2≤i∧(∀b∈(s.take i).drop t.2,b≠c)∧t.1++BQ c (s.drop t.2)=BQ c s∧t.1.length≤i)
  (fun i hi t hI=>by
   rw [List.length_range]at hi;obtain⟨I1,I2,I3,I4⟩:=hI;have hw:=Bi hi (by omega:s.length≤_);rw [List.getElem_range];constructor
   ·show Qf s c.toNat t.1 t.2 i=_;unfold Qf We;rw [if_pos (by simpa using hi),AO hi,Aa,qR,hw,NX,List.getElem?_eq_getElem hi,Option.getD_some];by_cases hc:s[i]=c
    ·have hr:((t.1.length:Int)+(([(s.take i).drop t.2]:List Ai).length:Int))*16≤140737488355328∧(t.1.length:Int)+(([(s.take i).drop t.2]:List Ai).length:Int)≤140737488355328:=by
      rw [AD];omega
     rw [if_pos (by simpa using hc),AJ (by omega),AJ hr,if_pos hc]
    ·rw [if_neg (by simpa using hc),if_neg hc]
   ·unfold We;rw [List.getElem?_eq_getElem hi,Option.getD_some];have B3:s.take (i+1)=s.take i++ [s[i]]:=by rw [List.take_succ_eq_append_getElem hi]
    have hd:(s.take (i+1)).drop t.2=(s.take i).drop t.2++ [s[i]]:=by rw [B3,List.drop_append_of_le_length (by rw [List.length_take];omega)]
    by_cases hc:s[i]=c
    ·rw [if_pos hc];refine⟨Nat.le_refl _,by simp, ?_,by simp;omega⟩;have e:s.drop t.2=(s.take i).drop t.2++c::s.drop (i+1):=by
      have e0:s.drop t.2=(s.take i).drop t.2++s.drop i:=by
       conv=>lhs;rw [←List.take_append_drop i s]
       rw [List.drop_append_of_le_length (by rw [List.length_take];omega)]
      rw [e0,List.drop_eq_getElem_cons hi,hc]
     rw [e,My I2]at I3;simpa using I3
    ·rw [if_neg hc];refine⟨by omega, ?_,I3,by omega⟩;rw [hd];intro b hb;rcases Ah.1 hb with hb|hb
     ·exact I2 b hb
     ·simp at hb;subst hb;exact hc)
  (fun t hI=>by show Qf s c.toNat t.1 t.2 ((List.range s.length).length:Nat)=_;unfold Qf;rw [if_neg (by simp)]) (s:=([],0)) ⟨Nat.le_refl _,by simp,by simp,by simp⟩
 generalize (List.range s.length).foldl (We c s) ([],0)=t at h1;rw [List.length_range]at h1;obtain⟨h2,I1,I2,I3,I4⟩:=h1;unfold On;refine Eq.trans h2 ?_;unfold fA;have hw:A7 s (t.2:Int) (s.length:Int)=s.drop t.2:=by rw [NX,List.take_length]
 have hr:((t.1.length:Int)+(([s.drop t.2]:List Ai).length:Int))*16≤140737488355328∧(t.1.length:Int)+(([s.drop t.2]:List Ai).length:Int)≤140737488355328:=by rw [AD];omega
 rw [hw,AJ (by omega),AJ hr,←I3];rw [List.take_length]at I2;rw [K5 I2]
theorem XT (l:Ai) (c:UInt8):(Lib.indexByte l c= -1∧ ∀b∈l,b≠c)∨ ∃p q:Ai,l=p++c::q∧(∀b∈p,b≠c)∧Lib.indexByte l c=p.length:=by
 induction l with
 |nil=>exact .inl ⟨rfl,by simp⟩
 |cons b l ih=>
  unfold Lib.indexByte;by_cases hb:b=c
  ·subst hb;exact .inr ⟨[],l,by simp,by simp,by simp⟩
  ·have h1:(b==c)=false:=by simpa using hb
   rw [h1];simp only [AY,if_false];rcases ih with⟨e,h⟩|⟨p,q,rfl,h,e⟩
   ·refine .inl ⟨by simp [e],fun x hx=> ?_⟩;rcases Af.1 hx with rfl|hx
    ·exact hb
    ·exact h x hx
   ·refine .inr ⟨b::p,q,by simp,fun x hx=> ?_, ?_⟩
    ·rcases Af.1 hx with rfl|hx
     ·exact hb
     ·exact h x hx
    ·rw [e];have:((p.length:Int)== -1)=false:=by rw [beq_eq_false_iff_ne];omega
     rw [this];simp
theorem u4 {c:UInt8} {s:Ai} (h: ∀b∈s,b≠c):s.count c=0:=List.count_eq_zero.2 fun hc=>h c hc rfl
theorem zCe {c:UInt8} {p q:Ai} (h: ∀b∈p,b≠c):(p++c::q).count c=q.count c+1:=by rw [List.count_append,u4 h,List.count_cons_self];omega
theorem wN {α:Type} {a:List α} {i:Nat} (x:α) (h:i<a.length):(a.set i x).take (i+1)=a.take i++ [x]:=by rw [List.take_succ_eq_append_getElem (by simpa using h),List.getElem_set_self,List.take_set,List.set_eq_of_length_le (by rw [List.length_take];omega)]
theorem zEW {a b:Int} (h: ¬a<b):(bif decide (a<b)then a else b)=b:=by simp [h]
theorem zBh {s:Ai} {c:UInt8} (h:s.length≤2000000):TX s [c]=some (BQ c s):=by
 have AE:s.count c≤s.length:=List.count_le_length;have F1:IntKind.i64.wrap ((s.count c:Int)+1)=(s.count c:Int)+1:=Bh (by omega) (by omega);have H9:IntKind.i64.wrap ((s.length:Int)+1)=(s.length:Int)+1:=Bh (by omega) (by omega);have Na:(bif decide ((s.length:Int)+1<(s.count c:Int)+1)then(s.length:Int)+1 else(s.count c:Int)+1)=(s.count c:Int)+1:=zEW (by omega);have oK:IntKind.i64.wrap ((s.count c:Int)+1-1)=(s.count c:Int):=by rw [Bh (by omega) (by omega)];omega
 have key: ∀(n:Nat) (r:Ai) (a:List Ai) (i:Nat),r.count c=n→r.length≤s.length→a.length=s.count c+1→i+n=s.count c→a.take i++BQ c r=BQ c s→
   AA (fun t:Ai × Int × List Ai=>PC s [c] 0 ((s.count c:Int)+1) t.1 t.2.1 t.2.2) (r,(i:Int),a)=some (BQ c s):=by
  intro n
  induction n with
  |zero=>
   intro r a i hr hl ha hi hI;have Hw: ∀b∈r,b≠c:=fun b hb e=>by subst e;exact List.count_eq_zero.1 hr hb
   have Np:i<a.length:=by omega
   have bW:=Bi Np (by omega);have hb:PC s [c] 0 ((s.count c:Int)+1) r i a=some (.inr (some (BQ c s))):=by unfold PC;rw [H9,Na,oK,if_neg (by simp;omega)];unfold eL;rw [AO Np,Aa,bW,Int.toNat_natCast,AJ (by rw [List.length_set];omega),N4,wN r Np,←hI,K5 Hw]
   rw [EW];dsimp only;rw [hb]
  |succ n ih=>
   intro r a i hr hl ha hi hI;rcases XT r c with⟨_,h0⟩|⟨p,q,rfl,hp,hx⟩
   ·rw [u4 h0]at hr;omega
   ·rw [zCe hp]at hr;have Np:i<a.length:=by omega
    have bW:=Bi Np (by omega);simp only [Ao,Ar]at hl;have KU:IntKind.i64.wrap ((p.length:Int)+0)=(p.length:Int):=by rw [Bh (by omega) (by omega)];omega
    have EB:IntKind.i64.wrap ((p.length:Int)+(([c]:Ai).length:Int))=((p.length+1:Nat):Int):=by rw [AD,Bh (by omega) (by omega)];omega
    have hb:PC s [c] 0 ((s.count c:Int)+1) (p++c::q) i a=some (.inl (q,((i+1:Nat):Int),a.set i p)):=by
     unfold PC;have Ja:Xn (p++c::q) [c]=some (p.length:Int):=by simp [Xn,Py,hx]
     rw [H9,Na,oK,if_pos (by simp;omega),Ja,Aa,if_neg (by simp),KU,AJ (by rw [Ao];omega),AO Np,Aa,EB,AJ (by rw [Ao,Ar];omega),bW,Int.toNat_natCast,NX,N4,List.take_length];have e1:(p++c::q).drop (p.length+1)=q:=by simp
     have e2:(p++c::q).take p.length=p:=by simp
     rw [e1,e2]
    rw [EW];dsimp only;rw [hb];refine ih q (a.set i p) (i+1) (by omega) (by omega) (by simpa using ha) (by omega) ?_;rw [wN p Np,←hI,My hp];simp
 have BJ:Xi s [c]=some ((s.count c:Nat):Int):=rfl;have hz:(((-1:Int))==0)=false:=rfl;have A9:(([c]:Ai)==([]:Ai))=false:=rfl;unfold TX eO;rw [hz,A9,if_neg (by simp),if_neg (by simp),if_pos (by simp),BJ,Aa,F1];unfold eM;rw [H9,Na,AJ (by omega)];exact Gp (key (s.count c) s (List.replicate ((s.count c:Int)+1).toNat []) 0 rfl (Nat.le_refl _) (by simp) (by omega) (by simp))
def field (s:Ai):Bool:=BL s.length 1 3&&JB s []
theorem kX {s:Ai} (h:s.length≤2000000):Qu s=some (field s):=by simp only [Qu,Hd,Aa,jW h (more:= []) (by decide),field];cases BL s.length 1 3<;>simp
theorem YQ {s:Ai} (h:s.length≤2000000):Qm s=some (field s):=by simp only [Qm,IG,Aa,jN h,field];cases BL s.length 1 3<;>simp
theorem zyI (sep x y:Ai) (r:List Ai):Lib.join (x::(r++ [y])) sep=Lib.join (x::r) sep++sep++y:=by rw [Lib.join_cons,Lib.join_cons];simp [Lib.joinTail]
theorem zzi {xs:List Ai} {sep:Ai} {i:Nat} (hi:i<xs.length):Lib.join (xs.take (i+1)) sep=if i=0 then xs[i]else Lib.join (xs.take i) sep++sep++xs[i]:=by
 rw [List.take_succ_eq_append_getElem hi];cases xs with
 |nil=>simp at hi
 |cons x xs=>
  cases i with
  |zero=>simp [Lib.join_cons,Lib.joinTail]
  |succ i=>rw [List.take_succ_cons,List.cons_append,zyI,if_neg (by omega)]
def D6:List Ai→Nat
 | []=>0
 |x::xs=>x.length+D6 xs
theorem lW (xs:List Ai) (sep:Ai):(Lib.join xs sep).length≤D6 xs+xs.length*sep.length:=by
 cases xs with
 |nil=>simp [Lib.join_nil]
 |cons x xs=>
  rw [Lib.join_cons,Ao];have: ∀r:List Ai,(Lib.joinTail sep r).length=D6 r+r.length*sep.length:=by
   intro r
   induction r with
   |nil=>simp [Lib.joinTail,D6]
   |cons y r ih=>
    have e:Lib.joinTail sep (y::r)=sep++y++Lib.joinTail sep r:=by simp [Lib.joinTail]
    rw [e,Ao,Ao,ih,D6,Ar,Nat.succ_mul];omega
  rw [this,D6,Ar,Nat.succ_mul];omega
theorem zwt (xs:List Ai) (i:Nat):D6 (xs.take i)≤D6 xs:=by
 induction xs generalizing i with
 |nil=>simp [D6]
 |cons x xs ih=>
  cases i with
  |zero=>simp [D6]
  |succ i=>simp only [List.take_succ_cons,D6];have:=ih i;omega
theorem vQ {xs:List Ai} {i:Nat} (hi:i<xs.length):xs[i].length≤D6 xs:=by
 induction xs generalizing i with
 |nil=>simp at hi
 |cons x xs ih=>
  cases i with
  |zero=>simp [D6]
  |succ i=>simp only [List.getElem_cons_succ,D6];have:=ih (i:=i) (by simpa using hi);omega
def Small (xs:List Ai):Prop:=xs.length≤2000000∧D6 xs≤2000000
theorem zDU {xs:List Ai} {c:UInt8} (h:Small xs):fW xs [c]=some (Lib.join xs [c]):=by
 obtain⟨h1,h2⟩:=h;have hl:=Ft (xs:=List.range xs.length) (body:=fun s:Ai × Int=>Qh xs [c] s.1 s.2) (fun i (o:Ai)=>(o,i)) (fun o i=>if i=0 then(xs[i]?).getD []else o++ [c]++(xs[i]?).getD []) (fun o=>some o) (fun i o=>o=Lib.join (xs.take i) [c])
  (fun i hi o hI=>by
   rw [List.length_range]at hi;rw [List.getElem_range];have hI:o=Lib.join (xs.take i) [c]:=hI;have hlen:o.length≤1010000000:=by have e1:=lW (xs.take i) [c];have e2:=zwt xs i;rw [List.length_take,AD,Nat.mul_one]at e1;rw [hI];omega
   have hg:=vQ hi;have hw:=Bi hi (by omega:xs.length≤_);rw [List.getElem?_eq_getElem hi,Option.getD_some];refine⟨?_,by show _=_;rw [zzi hi,hI]⟩;show Qh xs [c] o i=_;unfold Qh;rw [if_pos (by simpa using hi),AO hi,Aa,hw];by_cases h0:i=0
   ·subst h0;have ho:o= []:=by rw [hI];rfl
    subst ho;rw [if_neg (by simp),AJ (by simp;omega),if_pos rfl];rfl
   ·rw [if_pos (by simp;omega),AJ (by rw [AD];omega),AJ (by rw [Ao,AD];omega),if_neg h0])
  (fun o _=>by show Qh xs [c] o ((List.range xs.length).length:Nat)=_;unfold Qh;rw [if_neg (by simp)]) (s:= []) (by simp [Lib.join_nil])
 generalize (List.range xs.length).foldl (fun o i=>if i=0 then(xs[i]?).getD []else o++ [c]++(xs[i]?).getD []) []=o at hl;obtain⟨h3,h4⟩:=hl;have h4:o=Lib.join (xs.take (List.range xs.length).length) [c]:=h4;rw [List.length_range,List.take_length]at h4;subst h4;exact h3
theorem zC3 {xs:List Ai} {c:UInt8} (h:Small xs):XJ xs [c]=some (Lib.join xs [c]):=by obtain⟨h1,h2⟩:=h;have:=lW xs [c];rw [AD,Nat.mul_one]at this;exact AJ ⟨by omega,by omega⟩
theorem Small.each {xs:List Ai} (h:Small xs): ∀x∈xs,x.length≤2000000:=by intro x hx;obtain⟨i,hi,rfl⟩:=List.getElem_of_mem hx;exact Nat.le_trans (vQ hi) h.2
def Bl (t:Ad) (r:AI):Bool:=((r.aw.length:Int)==t.al.length)&&r.aw.all field
theorem Uj {t:Ad} {r:AI} (h:Small r.aw):Mr t r=some (Bl t r):=by
 have h1:=h.1;unfold Mr;rw [La (xs:=r.aw) field false (fC t r) (fun i hi=>by simp only [fB,Int.ofNat_lt,hi,decide_true,if_true,AO hi,Aa,kX (h.each _ (List.getElem_mem hi)),Bi hi (by omega:r.aw.length≤_)];cases field r.aw[i]<;>rfl) (by simp [fB])]
 unfold fC Bl;cases r.aw.all field<;>simp
theorem Uh {t:Ad} {r:AI} (h:Small r.aw):Mm t r=some (Bl t r):=by have e:G7 r.aw (fun y0_=>WT y0_)=some (r.aw.any fun s=> !field s):=UO _ (fun s hs=>by simp [WT,YQ (h.each s hs)]) (by have:=h.1;omega);simp only [Mm,e,Aa,Bl,←List.not_all_eq_any_not];cases((r.aw.length:Int)==t.al.length)<;>simp
def A6 (t:Ad) (r:AI):Ac:=⟨t.ab++ [47]++(r.aw.head?).getD [],Lib.join r.aw.tail [44],false⟩
theorem dK {α:Type} (xs:List α):A7 xs 1 (xs.length:Int)=xs.tail:=by simp [A7]
theorem Small.tail {xs:List Ai} (h:Small xs):Small xs.tail:=by
 cases xs with
 |nil=>exact h
 |cons x xs=>exact⟨by have:=h.1;simp at this ⊢;omega,by have:=h.2;simp only [D6,List.tail_cons]at this ⊢;omega⟩
theorem Q4 {t:Ad} {r:AI} (ht:t.ab.length≤2000000) (h:Small r.aw) (hn:r.aw≠ []):K1 t r=some (A6 t r):=by obtain⟨x,xs,hx⟩:=List.exists_cons_of_ne_nil hn;have ID:x.length≤2000000:=h.each x (by simp [hx]);unfold K1 A6;rw [AJ (by rw [AD];omega),dK,zDU h.tail,hx];rw [show getI (x::xs) 0=some x from rfl,Aa,AJ (by rw [Ao,AD];omega),AJ (by simp only [Ar];omega),Aa];rfl
theorem UQ {t:Ad} {r:AI} (ht:t.ab.length≤2000000) (h:Small r.aw) (hn:r.aw≠ []):PO t r=some (A6 t r):=by obtain⟨x,xs,hx⟩:=List.exists_cons_of_ne_nil hn;have ID:x.length≤2000000:=h.each x (by simp [hx]);unfold PO A6;rw [AJ (by rw [AD];omega),dK,zC3 h.tail,hx];rw [show getI (x::xs) 0=some x from rfl,Aa,AJ (by rw [Ao,AD];omega),AJ (by simp only [Ar];omega),Aa];rfl
theorem tP (c:UInt8) (s:Ai):D6 (BQ c s)≤s.length:=by
 induction s with
 |nil=>simp [BQ,D6]
 |cons b s ih=>
  simp only [BQ];split
  ·simp only [D6,List.length_nil,Ar];omega
  ·cases hs:BQ c s with
   |nil=>exact absurd hs (jR c s)
   |cons x xs=>rw [hs]at ih;simp only [D6,Ar]at ih ⊢;omega
theorem zwc {c:UInt8} {s:Ai} (h:s.length≤1000000):Small (BQ c s):=by have h1:=Yr c s;have h2:s.count c≤s.length:=List.count_le_length;have h3:=tP c s;exact⟨by omega,by omega⟩
theorem qJ {s p:Ai} (hs:s.length≤2000000):TA s p=some (if p.isPrefixOf s=true then(s.drop p.length,true)else(s,false)):=by
 have e:Wu s p=some (p.isPrefixOf s):=by
  unfold Wu;by_cases hl:p.length≤s.length
  ·rw [if_pos (by simpa using hl),AJ (by omega),N4];congr 1;rw [Bool.eq_iff_iff,beq_iff_eq,List.isPrefixOf_iff_prefix,List.prefix_iff_eq_take];exact eq_comm
  ·rw [if_neg (by simpa using hl)];congr 1;symm;rw [←Bool.not_eq_true,List.isPrefixOf_iff_prefix];intro h;exact hl h.length_le
 unfold TA dQ;rw [e,Aa];cases hp:p.isPrefixOf s with
 |false=>simp
 |true=>have hl:=(List.isPrefixOf_iff_prefix.1 hp).length_le;simp only [Bool.not_true,AY,if_false,if_true];rw [AJ (by omega),NX,List.take_length];rfl
def JJ (a b:Ac):Bool:=a.af==b.af&&(a.ay==b.ay&&(a.bb==b.bb))
theorem zx6 (a b:Ac):JJ a b=JJ b a:=by unfold JJ;rw [show(a.af==b.af)=(b.af==a.af)from BEq.comm,show(a.ay==b.ay)=(b.ay==a.ay)from BEq.comm,show(a.bb==b.bb)=(b.bb==a.bb)from BEq.comm]
theorem zzn {a b:Ac} (h:JJ a b=true):a.af=b.af:=by unfold JJ at h;simp only [Ae,beq_iff_eq]at h;exact h.1
def Cy (w:Ac):AI:=⟨w.af.drop 2::BQ 44 w.ay⟩
def CS (t:Ad) (w:Ac):Bool:=Bl t (Cy w)&&JJ (A6 t (Cy w)) w
def F8 (w:Ac):Prop:=w.af.length≤1000∧w.ay.length≤1000
theorem iE {w:Ac} (h:F8 w):Small (Cy w).aw:=by
 have h1:=Yr 44 w.ay;have h2:w.ay.count 44≤w.ay.length:=List.count_le_length;have h3:=tP 44 w.ay;obtain⟨k,v⟩:=h;refine⟨?_, ?_⟩
 ·show(w.af.drop 2::BQ 44 w.ay).length≤_;rw [Ar];omega
 ·show D6 (w.af.drop 2::BQ 44 w.ay)≤_;rw [D6,List.length_drop];omega
theorem zzu {t:Ad} {w:Ac} (h:Bl t (Cy w)=true):3≤w.af.length:=by unfold Bl Cy at h;simp only [Ae,List.all_cons,field,BW,List.length_drop]at h;omega
theorem zDp {t:Ad} {w:Ac} (ht:t.ab.length≤2000000) (h:F8 w): ∃r,XL t w=some (r,CS t w)∧(CS t w=true→r=Cy w):=by
 have hs:=iE h;have IC:=Yr 44 w.ay;have Nd:w.ay.count 44≤w.ay.length:=List.count_le_length;obtain⟨hk,hv⟩:=h;unfold XL;by_cases h3:w.af.length<3
 ·rw [if_pos (by simp;omega)];have:CS t w=false:=by
   unfold CS;cases hg:Bl t (Cy w)with
   |false=>rfl
   |true=>have:=zzu hg;omega
  exact⟨_,by rw [this],by rw [this];intro h;cases h⟩
 ·have hw:A7 w.af 2 (w.af.length:Int)=w.af.drop 2:=by
   have:=NX w.af 2 w.af.length;rw [List.take_length]at this;exact this
  have G0:On w.ay 44=some (BQ 44 w.ay):=xI (c:=44) (by omega);have hr:(([w.af.drop 2]:List Ai).length+(BQ 44 w.ay).length:Int)*16≤140737488355328∧(([w.af.drop 2]:List Ai).length:Int)+(BQ 44 w.ay).length≤140737488355328:=by rw [AD];omega
  rw [if_neg (by simp;omega),AJ (by omega),G0,Aa,hw,AJ hr];rw [show(⟨[w.af.drop 2]++BQ 44 w.ay⟩:AI)=Cy w from rfl,Uj hs,Aa];unfold CS;cases hg:Bl t (Cy w)with
  |false=>exact⟨_,by rw [if_neg (by simp)];rfl,by simp⟩
  |true=>rw [if_pos rfl,Q4 ht hs (by simp [Cy]),Aa];exact⟨Cy w,by rw [Bool.true_and];rfl,fun _=>rfl⟩
theorem zD8 {t:Ad} {w:Ac} (ht:t.ab.length=1) (h:F8 w): ∃r,WQ t w=some (r,CS t w)∧(CS t w=true→r=Cy w):=by
 have hs:=iE h;have IC:=Yr 44 w.ay;have Nd:w.ay.count 44≤w.ay.length:=List.count_le_length;obtain⟨hk,hv⟩:=h;unfold WQ;have G0:TX w.ay [44]=some (BQ 44 w.ay):=zBh (by omega);rw [AJ (by rw [AD];omega),qJ (by omega),Aa,G0,Aa];have hr: ∀x:Ai,(([x]:List Ai).length+(BQ 44 w.ay).length:Int)*16≤140737488355328∧(([x]:List Ai).length:Int)+(BQ 44 w.ay).length≤140737488355328:=by intro x;rw [AD];omega
 rw [AJ (hr _)];cases hp:(t.ab++ [47]).isPrefixOf w.af with
 |false=>
  have DB:CS t w=false:=by
   unfold CS;cases hw:JJ (A6 t (Cy w)) w with
   |false=>simp
   |true=>have aD:=zzn hw;rw [←Bool.not_eq_true,List.isPrefixOf_iff_prefix]at hp;exact absurd ⟨_,aD⟩ hp
  rw [DB];exact⟨_,by rw [if_neg (by simp)],by simp⟩
 |true=>
  have hl:(t.ab++ [47]).length=2:=by rw [Ao,ht];rfl
  simp only [if_true,hl];rw [show(⟨[w.af.drop 2]++BQ 44 w.ay⟩:AI)=Cy w from rfl,Uh hs,Aa];unfold CS;cases hg:Bl t (Cy w)with
  |false=>exact⟨_,by rw [if_neg (by simp)];rfl,by simp⟩
  |true=>
   rw [if_pos rfl,UQ (by omega) hs (by simp [Cy]),Aa];rw [show(w.af==(A6 t (Cy w)).af&&(w.ay==(A6 t (Cy w)).ay&&w.bb==(A6 t (Cy w)).bb))=JJ w (A6 t (Cy w))from rfl,zx6];cases JJ (A6 t (Cy w)) w with
   |false=>exact⟨_,by rw [if_pos (by simp)];rfl,by simp⟩
   |true=>exact⟨_,by rw [if_neg (by simp)];rfl,fun _=>rfl⟩
theorem QI {α β:Type} (p:α→Bool) (f:α→β) (l:List α) (o:List β):l.foldl (fun o x=>if p x=true then o++ [f x]else o) o=o++(l.filter p).map f:=by
 induction l generalizing o with
 |nil=>simp
 |cons x l ih=>rw [List.foldl_cons,ih,List.filter_cons];cases p x<;>simp
def rows (t:Ad) (l:List Ac):List AI:=(l.filter (CS t)).map Cy
theorem YY {t:Ad} {l:List Ac} (ht:t.ab.length≤2000000) (hl:l.length≤2000000) (h: ∀w∈l,F8 w):Ql t l=some (rows t l):=by
 have h1:=Ft (xs:=l) (body:=fun s:List AI × Int=>Qe t l s.1 s.2) (fun i (o:List AI)=>(o,i)) (fun o w=>if CS t w=true then o++ [Cy w]else o) (fun o=>some o) (fun i o=>o.length≤i)
  (fun i hi o hI=>by
   have hI:o.length≤i:=hI;obtain⟨r,e,hr⟩:=zDp ht (h _ (List.getElem_mem hi));have hw:=Bi hi (by omega:l.length≤_);refine⟨?_,by
    show List.length (if CS t l[i]=true then o++ [Cy l[i]]else o)≤i+1;split
    ·rw [Ao,AD];omega
    ·omega⟩
   show Qe t l o i=_;unfold Qe;rw [if_pos (by simpa using hi),AO hi,Aa,e,Aa,hw];cases hb:CS t l[i]with
   |false=>rfl
   |true=>
    have hq:((o.length:Int)+(([r]:List AI).length:Int))*24≤140737488355328∧(o.length:Int)+(([r]:List AI).length:Int)≤140737488355328:=by rw [AD];omega
    rw [if_pos rfl,AJ hq,if_pos rfl,hr hb])
  (fun o _=>by show Qe t l o l.length=_;unfold Qe;rw [if_neg (by simp)]) (s:= []) (by simp)
 rw [QI]at h1;exact h1.1
theorem zBw {t:Ad} {l:List Ac} (ht:t.ab.length=1) (hl:l.length≤2000000) (h: ∀w∈l,F8 w):eK t l=some (rows t l):=by
 have h1:=Ft (xs:=l) (body:=fun s:Int × List AI=>PH t l s.1 s.2) (fun i (o:List AI)=>(i,o)) (fun o w=>if CS t w=true then o++ [Cy w]else o) (fun o=>some o) (fun i o=>o.length≤i)
  (fun i hi o hI=>by
   have hI:o.length≤i:=hI;obtain⟨r,e,hr⟩:=zD8 ht (h _ (List.getElem_mem hi));have hw:=Bi hi (by omega:l.length≤_);refine⟨?_,by
    show List.length (if CS t l[i]=true then o++ [Cy l[i]]else o)≤i+1;split
    ·rw [Ao,AD];omega
    ·omega⟩
   show PH t l i o=_;unfold PH;rw [if_pos (by simpa using hi),AO hi,Aa,e,Aa,hw];cases hb:CS t l[i]with
   |false=>rfl
   |true=>
    have hq:((o.length:Int)+(([r]:List AI).length:Int))*24≤140737488355328∧(o.length:Int)+(([r]:List AI).length:Int)≤140737488355328:=by rw [AD];omega
    rw [if_pos rfl,AJ hq,if_pos rfl,hr hb])
  (fun o _=>by show PH t l l.length o=_;unfold PH;rw [if_neg (by simp)]) (s:= []) (by simp)
 rw [QI]at h1;exact h1.1
def head (t:Ad) (n:Ai):Ai:=t.ab++ [46]++n
def Dn (t:Ad) (n k:Ai):Bool:=match BQ 47 k with
 | [x,y,z]=>x==head t n&&field y&&field z
 |_=>false
theorem zBn {t:Ad} {n k:Ai} (ht:t.ab.length≤2000000) (hn:n.length≤2000000) (hk:k.length≤1000000): ∃a b,W7 t n k=some (a,b,Dn t n k):=by
 have NJ:=zwc (c:=47) hk;have he:On k 47=some (BQ 47 k):=xI (c:=47) (by omega);unfold W7 Dn;rw [he,Aa];generalize BQ 47 k=ps at NJ
 match ps,NJ with
 | [],_=>exact⟨_,_,by rw [if_pos (by simp)]⟩
 | [_],_=>exact⟨_,_,by rw [if_pos (by simp)]⟩
 | [_,_],_=>exact⟨_,_,by rw [if_pos (by simp)]⟩
 |_::_::_::_::l,_=>exact⟨_,_,by rw [if_pos (by simp;omega)]⟩
 | [x,y,z],NJ=>
  have hy:=NJ.each y (by simp);have hz:=NJ.each z (by simp);dsimp only;rw [if_neg (by simp),show getI [x,y,z] 0=some x from rfl,Aa,AJ (by rw [AD];omega),AJ (by rw [Ao,AD];omega)];rw [show(t.ab++ [46]++n)=head t n from rfl];by_cases hx:x=head t n
  ·rw [if_neg (by simp [hx]),show getI [x,y,z] 1=some y from rfl,Aa,kX hy,Aa];have Pl:(x==head t n)=true:=by simpa using hx
   rw [Pl];cases field y with
   |false=>exact⟨_,_,by rw [if_neg (by simp)];rfl⟩
   |true=>
    rw [if_pos rfl,show getI [x,y,z] 2=some z from rfl,Aa,kX hz,Aa];cases field z with
    |false=>exact⟨_,_,by rw [if_pos (by simp)];rfl⟩
    |true=>exact⟨_,_,by rw [if_neg (by simp)];rfl⟩
  ·have Pl:(x==head t n)=false:=by simpa using hx
   rw [Pl];exact⟨_,_,by rw [if_pos (by simpa [bne]using Pl)];rfl⟩
theorem zxU {c:UInt8} {s x y:Ai} {r:List Ai} (h:BQ c s=x::y::r): ∃q,s=x++c::q:=by
 rcases XT s c with⟨_,h0⟩|⟨p,q,rfl,hp,_⟩
 ·rw [K5 h0]at h;simp at h
 ·rw [My hp]at h;obtain⟨rfl,_⟩:=List.cons.inj h;exact⟨q,rfl⟩
theorem pT {x:Ai} {c:UInt8} (hx:x.length≤2000000):(QA x [c]=some (x, [],false)∧ ∀b∈x,b≠c)∨ ∃p q,x=p++c::q∧(∀b∈p,b≠c)∧QA x [c]=some (p,q,true):=by
 have hi:Py x [c]=some (Lib.indexByte x c):=rfl;rcases XT x c with⟨e,h0⟩|⟨p,q,rfl,hp,e⟩
 ·refine .inl ⟨?_,h0⟩;unfold QA WE;rw [hi,Aa,e,if_neg (by simp)];rfl
 ·refine .inr ⟨p,q,rfl,hp, ?_⟩;rw [Ao,Ar]at hx;have hw:IntKind.i64.wrap ((p.length:Int)+(([c]:Ai).length:Int))=((p.length+1:Nat):Int):=by rw [AD,Bh (by omega) (by omega)];omega
  unfold QA WE;rw [hi,Aa,e,if_pos (by simp),AJ (by rw [Ao,Ar];omega),hw,AJ (by rw [Ao,Ar];omega),N4,NX,List.take_length];have e1:(p++c::q).drop (p.length+1)=q:=by simp
  have e2:(p++c::q).take p.length=p:=by simp
  rw [e1,e2];rfl
theorem zCa {s:Ai} (h:(47:UInt8)∈s):field s=false:=by
 unfold field JB;have:(s.all fun b=>EG b||([]:Ai).contains b)=false:=by rw [List.all_eq_false];exact⟨47,h,by decide⟩
 rw [this,Bool.and_false]
theorem zN {t:Ad} {n:Ai} (ht:t.ab.length≤2000000) (hn:n.length≤2000000):Tw t n=some (head t n++ [47]):=by unfold Tw head;rw [AJ (by rw [AD];omega),AJ (by rw [Ao,AD];omega),AJ (by rw [Ao,Ao,AD,AD];omega)]
theorem zBI {t:Ad} {n k:Ai} (ht:t.ab.length≤2000000) (hn:n.length≤2000000) (hk:k.length≤1000000) (hh: ∀b∈head t n,b≠47): ∃a b,WA t n k=some (a,b,Dn t n k):=by
 unfold WA;rw [zN ht hn,Aa,qJ (by omega),Aa];cases hp:(head t n++ [47]).isPrefixOf k with
 |false=>
  have DB:Dn t n k=false:=by
   unfold Dn;split
   ·rename_i x y z hs;cases hx:x==head t n with
    |false=>simp
    |true=>obtain⟨q,hq⟩:=zxU hs;rw [←Bool.not_eq_true,List.isPrefixOf_iff_prefix]at hp;refine absurd ⟨q, ?_⟩ hp;rw [hq,(by simpa using hx:x=head t n)];simp
   ·rfl
  rw [DB];simp only [AY,if_false];rcases pT (x:=k) (c:=47) (by omega)with⟨e,_⟩|⟨p,q,_,_,e⟩
  ·rw [e];exact⟨_,_,rfl⟩
  ·rw [e];exact⟨_,_,rfl⟩
 |true=>
  obtain⟨rest,C3⟩:=List.isPrefixOf_iff_prefix.1 hp;have LL:k=head t n++47::rest:=by rw [←C3];simp
  have hd:k.drop (head t n++ [47]).length=rest:=by rw [←C3,List.drop_left]
  have IC:BQ 47 k=head t n::BQ 47 rest:=by rw [LL,My hh]
  have hlen:rest.length≤1000000:=by
   have:k.length=(head t n).length+(rest.length+1):=by rw [LL,Ao,Ar]
   omega
  simp only [if_true,hd];unfold Dn;rw [IC];rcases pT (x:=rest) (c:=47) (by omega)with⟨e,h0⟩|⟨p,q,rfl,VJ,e⟩
  ·rw [e,K5 h0];exact⟨_,_,rfl⟩
  ·rw [e,My VJ,Aa];rw [Ao,Ar]at hlen;simp only [if_true];rw [YQ (s:=p) (by omega),Aa];rcases XT q 47 with⟨_,h0⟩|⟨p3,q3,rfl,hp3,_⟩
   ·rw [K5 h0];dsimp only;rw [beq_self_eq_true,Bool.true_and];cases field p with
    |false=>exact⟨_,_,rfl⟩
    |true=>
     rw [if_pos rfl,YQ (s:=q) (by omega),Aa];cases field q with
     |false=>exact⟨_,_,rfl⟩
     |true=>exact⟨_,_,rfl⟩
   ·have hf:field (p3++47::q3)=false:=zCa (by simp);rw [My hp3];cases hq:BQ 47 q3 with
    |nil=>exact absurd hq (jR _ _)
    |cons x xs=>
     dsimp only;cases field p with
     |false=>exact⟨_,_,rfl⟩
     |true=>rw [if_pos rfl,YQ (by rw [Ao,Ar]at hlen ⊢;omega),Aa,hf];exact⟨_,_,rfl⟩
def F5 (t:Ad) (n:Ai) (l:List Ac):List Ai:=(l.filter fun w=>Dn t n w.af).map (·.af)
theorem zx4 {t:Ad} {n:Ai} {l:List Ac} (ht:t.ab.length≤2000000) (hn:n.length≤2000000) (hl:l.length≤2000000) (h: ∀w∈l,F8 w):TL t n l=some (F5 t n l):=by
 have h1:=Ft (xs:=l) (body:=fun s:List Ai × Int=>P0 t n l s.1 s.2) (fun i (o:List Ai)=>(o,i)) (fun o w=>if Dn t n w.af=true then o++ [w.af]else o) (fun o=>some o) (fun i o=>o.length≤i)
  (fun i hi o hI=>by
   have hI:o.length≤i:=hI;have bQ:=h _ (List.getElem_mem hi);obtain⟨a,b,e⟩:=zBn (t:=t) (n:=n) (k:=l[i].af) ht hn (by have:=bQ.1;omega);have hw:=Bi hi (by omega:l.length≤_);refine⟨?_,by
    show List.length (if Dn t n l[i].af=true then o++ [l[i].af]else o)≤i+1;split
    ·rw [Ao,AD];omega
    ·omega⟩
   show P0 t n l o i=_;unfold P0;rw [if_pos (by simpa using hi),AO hi,Aa,e,Aa,hw];cases hb:Dn t n l[i].af with
   |false=>rfl
   |true=>
    have hq:((o.length:Int)+(([l[i].af]:List Ai).length:Int))*16≤140737488355328∧(o.length:Int)+(([l[i].af]:List Ai).length:Int)≤140737488355328:=by rw [AD];omega
    rw [if_pos rfl,AJ hq,if_pos rfl])
  (fun o _=>by show P0 t n l o l.length=_;unfold P0;rw [if_neg (by simp)]) (s:= []) (by simp)
 rw [QI (fun w:Ac=>Dn t n w.af) (fun w=>w.af)]at h1;exact h1.1
theorem zxZ {t:Ad} {n:Ai} {l:List Ac} (ht:t.ab.length≤2000000) (hn:n.length≤2000000) (hh: ∀b∈head t n,b≠47) (hl:l.length≤2000000) (h: ∀w∈l,F8 w):Tl t n l=some (F5 t n l):=by
 have h1:=Ft (xs:=l) (body:=fun s:Int × List Ai=>Px t n l s.1 s.2) (fun i (o:List Ai)=>(i,o)) (fun o w=>if Dn t n w.af=true then o++ [w.af]else o) (fun o=>some o) (fun i o=>o.length≤i)
  (fun i hi o hI=>by
   have hI:o.length≤i:=hI;have bQ:=h _ (List.getElem_mem hi);obtain⟨a,b,e⟩:=zBI (t:=t) (n:=n) (k:=l[i].af) ht hn (by have:=bQ.1;omega) hh;have hw:=Bi hi (by omega:l.length≤_);refine⟨?_,by
    show List.length (if Dn t n l[i].af=true then o++ [l[i].af]else o)≤i+1;split
    ·rw [Ao,AD];omega
    ·omega⟩
   show Px t n l i o=_;unfold Px;rw [if_pos (by simpa using hi),AO hi,Aa,e,Aa,hw];cases hb:Dn t n l[i].af with
   |false=>rfl
   |true=>
    have hq:((o.length:Int)+(([l[i].af]:List Ai).length:Int))*16≤140737488355328∧(o.length:Int)+(([l[i].af]:List Ai).length:Int)≤140737488355328:=by rw [AD];omega
    rw [if_pos rfl,AJ hq,if_pos rfl])
  (fun o _=>by show Px t n l l.length o=_;unfold Px;rw [if_neg (by simp)]) (s:= []) (by simp)
 rw [QI (fun w:Ac=>Dn t n w.af) (fun w=>w.af)]at h1;exact h1.1
def NV (a b:List Ai):List Ai:=a.filter fun k=> !b.contains k
theorem oU {a b:List Ai} (ha:a.length≤2000000) (hb:b.length≤2000000):XF a b=some (NV a b):=by
 have h1:=Ft (xs:=a) (body:=fun s:List Ai × Int=>Qg a b s.1 s.2) (fun i (o:List Ai)=>(o,i)) (fun o k=>if(!b.contains k)=true then o++ [k]else o) (fun o=>some o) (fun i o=>o.length≤i)
  (fun i hi o hI=>by
   have hI:o.length≤i:=hI;have hw:=Bi hi (by omega:a.length≤_);have hx:decide (Bp (fun x=>x==a[i]) b<0)= !b.contains a[i]:=by rw [←cL,←OM,←decide_not];rw [decide_eq_decide];omega
   refine⟨?_,by
    show List.length (if(!b.contains a[i])=true then o++ [a[i]]else o)≤i+1;split
    ·rw [Ao,AD];omega
    ·omega⟩
   show Qg a b o i=_;unfold Qg;rw [if_pos (by simpa using hi),AO hi,Aa,qU hb,Aa,hw,hx];cases hc:b.contains a[i]with
   |true=>rfl
   |false=>
    have hq:((o.length:Int)+(([a[i]]:List Ai).length:Int))*16≤140737488355328∧(o.length:Int)+(([a[i]]:List Ai).length:Int)≤140737488355328:=by rw [AD];omega
    rw [if_pos (by rfl),AJ hq,if_pos (by rfl)])
  (fun o _=>by show Qg a b o a.length=_;unfold Qg;rw [if_neg (by simp)]) (s:= []) (by simp)
 rw [QI (fun k:Ai=> !b.contains k) (fun k=>k)]at h1;have h2:=h1.1;rw [List.nil_append,List.map_id']at h2;exact h2
theorem zM {a b:List Ai} (ha:a.length≤2000000) (hb:b.length≤2000000):TO a b=some (NV a b):=by unfold TO Td Ox;rw [OL (by omega) (by omega),Aa,AJ (by omega),jP (fun k=>b.contains k) (fun k _=>by simp only [fO,qD hb,Aa])];rfl
structure Fe (t:Ad) (n:Ai) (x:Au):Prop where
 at_:getI t.ae (Bp (fun y:Au=>y.ab==n) t.ae)=some x
 name:x.ab=n
 c0:1≤x.bh
 c1:x.bh≤(t.al.length:Int)-1
def CM (r:AI) (c:Int):Ai:=(r.aw[c.toNat]?).getD []
def Cm (t:Ad) (n:Ai) (c:Int) (r:AI):Ai:=head t n++ [47]++CM r c++ [47]++CM r 0
structure Kt (t:Ad) (r:AI):Prop where
 len:r.aw.length=t.al.length
 small:Small r.aw
theorem zI {t:Ad} {l:List Ac} (h: ∀w∈l,F8 w): ∀r∈rows t l,Kt t r:=by intro r hr;obtain⟨w,hw,rfl⟩:=List.mem_map.1 hr;obtain⟨h1,h2⟩:=List.mem_filter.1 hw;have h3:CS t w=true:=h2;unfold CS Bl at h3;simp only [Ae,beq_iff_eq]at h3;exact⟨by have:=h3.1.1;omega,iE (h w h1)⟩
theorem UR {t:Ad} {r:AI} (hr:Kt t r) {c:Int} (h0:0≤c) (h1:c≤(t.al.length:Int)-1):getI r.aw c=some (CM r c)∧(CM r c).length≤2000000:=by
 obtain⟨y,e,hm,e2⟩:=IJ (xs:=r.aw) h0 (by have:=hr.len;omega);have hv:CM r c=y:=by simp [CM,e2]
 rw [hv];exact⟨e,hr.small.each y hm⟩
theorem YW {t:Ad} {n:Ai} {x:Au} {r:AI} (ht:t.ab.length≤2000000) (hn:n.length≤2000000) (hx:Fe t n x) (hr:Kt t r):K4 t x r=some (Cm t n x.bh r):=by
 obtain⟨g1,l1⟩:=UR hr (c:=x.bh) (by have:=hx.c0;omega) hx.c1;obtain⟨g2,l2⟩:=UR hr (c:=0) (by omega) (by have:=hx.c0;have:=hx.c1;omega);have e:=hx.name;subst e;unfold K4 Cm;rw [AJ (by simp only [head,Ao,Ar,List.length_nil];omega),AJ (by simp only [head,Ao,Ar,List.length_nil];omega),AJ (by simp only [head,Ao,Ar,List.length_nil];omega),g1,Aa,
  AJ (by simp only [head,Ao,Ar,List.length_nil];omega),AJ (by simp only [head,Ao,Ar,List.length_nil];omega),g2,Aa,
  AJ (by simp only [head,Ao,Ar,List.length_nil];omega)]
 rfl
theorem lI {t:Ad} {n:Ai} {x:Au} {r:AI} (hS:CJ t) (hn:n.length≤2000000) (hx:Fe t n x) (hr:Kt t r):Mi t n r=some (Cm t n x.bh r):=by
 obtain⟨g1,l1⟩:=UR hr (c:=x.bh) (by have:=hx.c0;omega) hx.c1;obtain⟨g2,l2⟩:=UR hr (c:=0) (by omega) (by have:=hx.c0;have:=hx.c1;omega);have ht:=hS.name;have hi:Mk t n=some x:=by unfold Mk;rw [UY hS,Aa,hx.at_];rfl
 unfold Mi Cm;rw [zN ht hn,Aa,hi,Aa,g1,Aa,AJ (by simp only [head,Ao,Ar,List.length_nil];omega),AJ (by simp only [head,Ao,Ar,List.length_nil];omega),g2,Aa,AJ (by simp only [head,Ao,Ar,List.length_nil];omega)]
def wanted (t:Ad) (n:Ai) (x:Au) (l:List Ac):List Ai:=(rows t l).map (Cm t n x.bh)
theorem rows_len (t:Ad) (l:List Ac):(rows t l).length≤l.length:=by unfold rows;rw [List.length_map];exact List.length_filter_le _ _
theorem wC {t:Ad} {n:Ai} {x:Au} {l:List Ac} (hS:CJ t) (hn:n.length≤2000000) (hx:Fe t n x) (hl:l.length≤2000000) (h: ∀w∈l,F8 w):Qa t n l=some (wanted t n x l):=by
 have BZ:=zI (t:=t) h;have NH:=rows_len t l;unfold Qa;rw [YY hS.name hl h,Aa];have h1:=Ft (xs:=rows t l) (body:=fun s:List Ai × Int=>PW t n (rows t l) s.1 s.2) (fun i (o:List Ai)=>(o,i)) (fun o r=>o++ [Cm t n x.bh r]) (fun o=>some o) (fun i o=>o.length=i)
  (fun i hi o hI=>by
   have hI:o.length=i:=hI;have hw:=Bi hi (by omega);refine⟨?_,by show List.length _=_;rw [Ao,AD];omega⟩;show PW t n (rows t l) o i=_;unfold PW;have hq:((o.length:Int)+(([Cm t n x.bh (rows t l)[i]]:List Ai).length:Int))*16≤140737488355328∧(o.length:Int)+(([Cm t n x.bh (rows t l)[i]]:List Ai).length:Int)≤140737488355328:=by rw [AD];omega
   rw [if_pos (by simpa using hi),AO hi,Aa,Kl hS,Aa,hx.at_,Aa,YW hS.name hn hx (BZ _ (List.getElem_mem hi)),Aa,AJ hq,hw])
  (fun o _=>by show PW t n (rows t l) o (rows t l).length=_;unfold PW;rw [if_neg (by simp)]) (s:= []) rfl
 rw [kM]at h1;exact h1.1
theorem zzx {t:Ad} {n:Ai} {x:Au} {l:List Ac} (hS:CJ t) (ht:t.ab.length=1) (hn:n.length≤2000000) (hx:Fe t n x) (hl:l.length≤2000000) (h: ∀w∈l,F8 w):Ts t n l=some (wanted t n x l):=by
 have BZ:=zI (t:=t) h;have NH:=rows_len t l;unfold Ts;rw [zBw ht hl h,Aa];have h1:=Ft (xs:=rows t l) (body:=fun s:Int × List Ai=>PI t n (rows t l) s.1 s.2) (fun i (o:List Ai)=>(i,o)) (fun o r=>o++ [Cm t n x.bh r]) (fun o=>some o) (fun i o=>o.length=i)
  (fun i hi o hI=>by
   have hI:o.length=i:=hI;have hw:=Bi hi (by omega);refine⟨?_,by show List.length _=_;rw [Ao,AD];omega⟩;show PI t n (rows t l) i o=_;unfold PI;have hq:((o.length:Int)+(([Cm t n x.bh (rows t l)[i]]:List Ai).length:Int))*16≤140737488355328∧(o.length:Int)+(([Cm t n x.bh (rows t l)[i]]:List Ai).length:Int)≤140737488355328:=by rw [AD];omega
   rw [if_pos (by simpa using hi),AO hi,Aa,lI hS hn hx (BZ _ (List.getElem_mem hi)),Aa,AJ hq,hw])
  (fun o _=>by show PI t n (rows t l) (rows t l).length o=_;unfold PI;rw [if_neg (by simp)]) (s:= []) rfl
 rw [kM]at h1;exact h1.1
def holds (t:Ad) (n:Ai) (x:Au) (lv:Int) (l:List Ac):Bool:=
 if lv==0 then((F5 t n l).length:Int)==0
 else(((NV (F5 t n l) (wanted t n x l)).length:Int)==0)&&((lv==1)||(((NV (wanted t n x l) (F5 t n l)).length:Int)==0))
theorem uK (t:Ad) (n:Ai) (l:List Ac):(F5 t n l).length≤l.length:=by unfold F5;rw [List.length_map];exact List.length_filter_le _ _
theorem jA (t:Ad) (n:Ai) (x:Au) (l:List Ac):(wanted t n x l).length≤l.length:=by unfold wanted;rw [List.length_map];exact rows_len t l
theorem zB2 {t:Ad} {n:Ai} {x:Au} {lv:Int} {l:List Ac} (hS:CJ t) (ht:t.ab.length≤2000000) (hn:n.length≤2000000) (hx:Fe t n x) (hl:l.length≤2000000) (h: ∀w∈l,F8 w) (ha:Oq t n l=some true):Xk t n lv l=some (holds t n x lv l):=by
 have hE:=zx4 ht hn hl h;have hW:=wC hS hn hx hl h;have e1:=uK t n l;have e2:=jA t n x l;have h1:=oU (a:=F5 t n l) (b:=wanted t n x l) (by omega) (by omega);have h2:=oU (a:=wanted t n x l) (b:=F5 t n l) (by omega) (by omega);unfold Xk holds;by_cases h0:(lv==0)=true
 ·rw [if_pos h0,if_pos h0,hE,Aa]
 ·rw [if_neg h0,if_neg h0];unfold fM fX;rw [ha,hE,hW];simp only [Aa,h1,h2,Bool.not_true,AY,if_false]
theorem zBt {t:Ad} {n:Ai} {x:Au} {lv:Int} {l:List Ac} (hS:CJ t) (ht:t.ab.length=1) (hn:n.length≤2000000) (hh: ∀b∈head t n,b≠47) (hx:Fe t n x) (hl:l.length≤2000000) (h: ∀w∈l,F8 w):WO t n lv l=some (holds t n x lv l):=by
 have hE:=zxZ (t:=t) (by omega) hn hh hl h;have hW:=zzx hS ht hn hx hl h;have e1:=uK t n l;have e2:=jA t n x l;have h1:=zM (a:=F5 t n l) (b:=wanted t n x l) (by omega) (by omega);have h2:=zM (a:=wanted t n x l) (b:=F5 t n l) (by omega) (by omega);unfold WO holds;by_cases h0:(lv==0)=true
 ·rw [if_pos h0,if_pos h0,hE,Aa]
 ·rw [if_neg h0,if_neg h0];unfold WD dZ;rw [hE,hW];simp only [Aa,h1,h2];by_cases h3:(lv==1)=true
  ·rw [if_pos h3,h3,Bool.true_or,Bool.and_true]
  ·rw [if_neg h3,Bool.eq_false_iff.2 h3,Bool.false_or];by_cases h4:(((NV (F5 t n l) (wanted t n x l)).length:Int)==0)=true
   ·rw [if_pos h4,h4,Bool.true_and]
   ·rw [if_neg h4,Bool.eq_false_iff.2 h4,Bool.false_and]
def BR (t:Ad) (n:Ai):Bool:=AZ t&&decide (Bp (fun x:Au=>x.ab==n) t.ae≥0)
def cO (t:Ad) (n:Ai) (l:List Ac):Bool:=BR t n&&D5 l
theorem oZ {t:Ad} {n:Ai} (hS:CJ t):T4 t n=some (BR t n):=by unfold T4 BR;rw [zBo hS,Aa,UY hS,Aa];cases AZ t<;>simp
theorem zBc {t:Ad} {n:Ai} {l:List Ac} (hS:CJ t) (hW:JE l):Oq t n l=some (cO t n l):=by unfold Oq cO BR;rw [ME hS,Aa,Kl hS,Aa,MG hW,Aa];cases AZ t<;>cases decide (Bp (fun x:Au=>x.ab==n) t.ae≥0)<;>simp
theorem zDG {l:List Ac} (h:D5 l=true): ∀w∈l,F8 w:=by intro w hw;unfold D5 Jx at h;simp only [Ae]at h;have h1:=AG.1 h.1.2.1 w hw;unfold CW Du HO Gs at h1;simp only [Ae,decide_eq_true_eq]at h1;have h2:=BW.1 h1.1.1;have h3:=h1.2.1.1;exact⟨by omega,by omega⟩
theorem J9 {s:Ai} {k:Int} (h:Cl s k=true):(s.length:Int)≤k∧ ∀b∈s,b≠47:=by unfold Cl at h;simp only [Ae]at h;refine⟨(BW.1 h.2).2,fun b hb e=> ?_⟩;have h1:=AG.1 h.1 b hb;subst e;exact absurd h1 (by decide)
theorem QE {s:Ai} (h:Cl s 1=true):s.length=1:=by unfold Cl at h;simp only [Ae]at h;have:=BW.1 h.2;omega
theorem Ke {t:Ad} (h:AZ t=true):Cl t.ab 1=true:=by unfold AZ at h;simp only [Ae]at h;exact h.1.1.1
theorem Fc {t:Ad} (h:AZ t=true) {x:Au} (hx:x∈t.ae):Cl x.ab 1=true∧BL x.bh 1 ((t.al.length:Int)-1)=true:=by unfold AZ at h;simp only [Ae]at h;obtain⟨i,hi,rfl⟩:=List.mem_iff_getElem.1 hx;have h1:=AG.1 h.2 i (List.mem_range.2 hi);unfold Hg at h1;simp only [Ae,List.getElem?_eq_getElem hi,Option.getD_some]at h1;exact⟨h1.1.1.1,h1.1.1.2⟩
theorem pK {t:Ad} {n:Ai} (h:BR t n=true): ∃x,Fe t n x∧t.ab.length=1∧n.length=1∧ ∀b∈head t n,b≠47:=by
 unfold BR at h;simp only [Ae,decide_eq_true_eq]at h;obtain⟨x,h1,h2,h3⟩:=xQ h.2;have h4:=Fc h.1 h3;have h5:=BW.1 h4.2;have h6:x.ab=n:=by simpa using h2
 have h7:=Ke h.1;have h8:=h6▸h4.1;refine⟨x,⟨h1,h6,h5.1,h5.2⟩,QE h7,QE h8,fun b hb=> ?_⟩;unfold head at hb;simp only [Ah,List.mem_singleton]at hb;rcases hb with(hb|hb)|hb
 ·exact(J9 h7).2 b hb
 ·subst hb;decide
 ·exact(J9 h8).2 b hb
abbrev bl (a b:Ab):Bool:=Op.bytesLess a b
theorem OA: ∀a:Ab,bl a a=false
 | []=>rfl
 |x::a=>by
  have h: ¬x<x:=fun h=>by have:=UInt8.lt_iff_toNat_lt.1 h;omega
  show Op.bytesLess (x::a) (x::a)=false;simp only [Op.bytesLess,h,decide_false,Bool.false_or,beq_self_eq_true,Bool.true_and];exact OA a
theorem mI (x y:UInt8) (a b:Ab):bl (x::a) (y::b)=true↔x.toNat<y.toNat∨x=y∧bl a b=true:=by show Op.bytesLess (x::a) (y::b)=true↔_;simp only [Op.bytesLess,Bool.or_eq_true,decide_eq_true_eq,Ae,beq_iff_eq,UInt8.lt_iff_toNat_lt]
theorem II: ∀{a b c:Ab},bl a b=true→bl b c=true→bl a c=true
 | [],_, [],_,h=>by rename_i b _;cases b<;>cases h
 | [],_,_::_,_,_=>rfl
 |_::_, [],_,h,_=>by cases h
 |_::_,_::_, [],_,h=>by cases h
 |x::a,y::b,z::c,h1,h2=>by
  rw [mI]at*;rcases h1 with h1|⟨rfl,h1⟩<;>rcases h2 with h2|⟨rfl,h2⟩
  ·exact .inl (by omega)
  ·exact .inl h1
  ·exact .inl h2
  ·exact .inr ⟨rfl,II h1 h2⟩
theorem pP: ∀a b:Ab,bl a b=true∨a=b∨bl b a=true
 | [], []=> .inr (.inl rfl)
 | [],_::_=> .inl rfl
 |_::_, []=> .inr (.inr rfl)
 |x::a,y::b=>by
  rw [mI,mI];rcases Nat.lt_trichotomy x.toNat y.toNat with h|h|h
  ·exact .inl (.inl h)
  ·have h0:x=y:=UInt8.toNat_inj.1 h;subst h0;rcases pP a b with h1|h1|h1
   ·exact .inl (.inr ⟨rfl,h1⟩)
   ·exact .inr (.inl (by rw [h1]))
   ·exact .inr (.inr (.inr ⟨rfl,h1⟩))
  ·exact .inr (.inr (.inl h))
theorem YS {a b:Ab} (h:bl a b=true):bl b a=false:=by
 cases h2:bl b a with
 |false=>rfl
 |true=>have:=II h h2;rw [OA]at this;cases this
theorem F9 {a b:Ab} (h:bl a b=true):a≠b:=by rintro rfl;rw [OA]at h;cases h
theorem Ul {a b:Ab} (h:bl a b=false) (hn:a≠b):bl b a=true:=by
 rcases pP a b with h1|h1|h1
 ·rw [h]at h1;cases h1
 ·exact absurd h1 hn
 ·exact h1
section
variable {α:Type} (key:α→Ab)
def DO (l:List α):Prop:=l.Pairwise fun a b=>bl (key a) (key b)=true
def BA (x:α):List α→List α
 | []=> [x]
 |y::l=>if bl (key x) (key y)=true then x::y::l else if key x=key y then x::l else y::BA x l
variable {key}
theorem DO.gf {l:List α} (h:DO key l) {a b:α} (ha:a∈l) (hb:b∈l) (e:key a=key b):a=b:=by
 induction l with
 |nil=>cases ha
 |cons y l ih=>
  have h1:=List.pairwise_cons.1 h;rcases Af.1 ha with q1|q1<;>rcases Af.1 hb with q2|q2
  ·rw [q1,q2]
  ·exact absurd (q1▸e) (F9 (h1.1 _ q2))
  ·exact absurd (q2▸e.symm) (F9 (h1.1 _ q1))
  ·exact ih h1.2 q1 q2
theorem UC {x:α}: ∀{l:List α},DO key l→ ∀y,y∈BA key x l↔y=x∨y∈l∧key y≠key x
 | [],_,y=>by simp [BA]
 |z::l,h,y=>by
  have h1:=List.pairwise_cons.1 h;unfold BA;split
  ·rename_i hb;constructor
   ·intro hy;rcases Af.1 hy with rfl|hy
    ·exact .inl rfl
    ·refine .inr ⟨hy, ?_⟩;rcases Af.1 hy with rfl|hy
     ·exact(F9 hb).symm
     ·exact(F9 (II hb (h1.1 _ hy))).symm
   ·rintro(rfl|⟨hy,_⟩)
    ·simp
    ·exact List.mem_cons_of_mem _ hy
  ·rename_i hb;split
   ·rename_i he;constructor
    ·intro hy;rcases Af.1 hy with rfl|hy
     ·exact .inl rfl
     ·exact .inr ⟨List.mem_cons_of_mem _ hy,fun e=>F9 (h1.1 _ hy) (by rw [e,he])⟩
    ·rintro(rfl|⟨hy,hn⟩)
     ·simp
     ·rcases Af.1 hy with rfl|hy
      ·exact absurd he.symm hn
      ·exact List.mem_cons_of_mem _ hy
   ·rename_i he;rw [Af,UC h1.2];constructor
    ·rintro(rfl|rfl|⟨hy,hn⟩)
     ·exact .inr ⟨by simp,fun e=>he e.symm⟩
     ·exact .inl rfl
     ·exact .inr ⟨List.mem_cons_of_mem _ hy,hn⟩
    ·rintro(rfl|⟨hy,hn⟩)
     ·exact .inr (.inl rfl)
     ·rcases Af.1 hy with rfl|hy
      ·exact .inl rfl
      ·exact .inr (.inr ⟨hy,hn⟩)
theorem Ut {x:α}: ∀{l:List α},DO key l→DO key (BA key x l)
 | [],_=>by simp [BA,DO]
 |z::l,h=>by
  have h1:=List.pairwise_cons.1 h;unfold BA;split
  ·rename_i hb;refine List.pairwise_cons.2 ⟨fun y hy=> ?_,h⟩;rcases Af.1 hy with rfl|hy
   ·exact hb
   ·exact II hb (h1.1 _ hy)
  ·rename_i hb;split
   ·rename_i he;exact List.pairwise_cons.2 ⟨fun y hy=>by rw [he];exact h1.1 _ hy,h1.2⟩
   ·rename_i he;refine List.pairwise_cons.2 ⟨fun y hy=> ?_,Ut h1.2⟩;rcases(UC h1.2 y).1 hy with rfl|⟨hy,_⟩
    ·exact Ul (by simpa using hb) he
    ·exact h1.1 _ hy
theorem DO.ext: ∀{a b:List α},DO key a→DO key b→(∀x,x∈a↔x∈b)→a=b
 | [], [],_,_,_=>rfl
 | [],y::b,_,_,h=>absurd ((h y).2 (by simp)) (by simp)
 |x::a, [],_,_,h=>absurd ((h x).1 (by simp)) (by simp)
 |x::a,y::b,ha,hb,h=>by
  have h1:=List.pairwise_cons.1 ha;have h2:=List.pairwise_cons.1 hb;have e:x=y:=by
   rcases Af.1 ((h x).1 (by simp))with e|hx
   ·exact e
   ·rcases Af.1 ((h y).2 (by simp))with e|hy
    ·exact e.symm
    ·have:=II (h1.1 _ hy) (h2.1 _ hx);rw [OA]at this;cases this
  subst e;rw [DO.ext h1.2 h2.2 fun z=> ?_];constructor
  ·intro hz;rcases Af.1 ((h z).1 (List.mem_cons_of_mem _ hz))with rfl|SW
   ·have:=h1.1 _ hz;rw [OA]at this;cases this
   ·exact SW
  ·intro hz;rcases Af.1 ((h z).2 (List.mem_cons_of_mem _ hz))with rfl|SW
   ·have:=h2.1 _ hz;rw [OA]at this;cases this
   ·exact SW
theorem DO.filter {l:List α} (h:DO key l) (p:α→Bool):DO key (l.filter p):=List.Pairwise.filter p h
theorem DO.sub {a b:List α} (h:DO key b) (hs:a.Sublist b):DO key a:=List.Pairwise.sublist hs h
theorem yV {x:α}: ∀(l:List α),(BA key x l).length≤l.length+1
 | []=>by simp [BA]
 |y::l=>by
  unfold BA;have:=yV (x:=x) l;split
  ·simp
  ·split
   ·simp
   ·simp only [Ar];omega
end
def Im {α:Type} (r:α→α→Bool):List α→Bool
 | []=>true
 | [_]=>true
 |x::y::l=>r x y&&Im r (y::l)
theorem YJ {α:Type} {r:α→α→Bool} (ht: ∀a b c,r a b=true→r b c=true→r a c=true): ∀{l:List α},Im r l=true↔l.Pairwise fun a b=>r a b=true
 | []=>by simp [Im]
 | [_]=>by simp [Im]
 |x::y::l=>by
  rw [Im,Ae,YJ ht];constructor
  ·rintro⟨h1,h2⟩;refine List.pairwise_cons.2 ⟨fun z hz=> ?_,h2⟩;rcases Af.1 hz with rfl|hz
   ·exact h1
   ·exact ht _ _ _ h1 ((List.pairwise_cons.1 h2).1 z hz)
  ·intro h;have h:=List.pairwise_cons.1 h;exact⟨h.1 y (by simp),h.2⟩
theorem zwm {α:Type} {r:α→α→Bool} {l:List α} {q:Nat} (h:q+1<l.length):Im r (l.drop q)=(r l[q] l[q+1]&&Im r (l.drop (q+1))):=by rw [List.drop_eq_getElem_cons (show q<l.length by omega),List.drop_eq_getElem_cons h,Im]
def BS {α:Type} (lt:α→Bool) (l:List α):Nat:=(l.takeWhile lt).length
theorem Q5 {α:Type} (lt:α→Bool): ∀l:List α,BS lt l≤l.length
 | []=>by simp [BS]
 |x::l=>by have:=Q5 lt l;unfold BS at this ⊢;rw [List.takeWhile_cons];split<;>simp<;>omega
theorem mH {α:Type} {lt:α→Bool}: ∀{l:List α} {i:Nat} (h:i<BS lt l),lt (l[i]'(Nat.lt_of_lt_of_le h (Q5 lt l)))=true
 |x::l,i,h=>by
  unfold BS at h;rw [List.takeWhile_cons]at h;split at h
  ·rename_i hx;cases i with
   |zero=>exact hx
   |succ i=>exact mH (l:=l) (i:=i) (by unfold BS;simpa using h)
  ·simp at h
theorem zH {α:Type} {lt:α→Bool}: ∀{l:List α} (h:BS lt l<l.length),lt l[BS lt l]=false
 |x::l,h=>by
  by_cases hx:lt x=true
  ·have e:BS lt (x::l)=BS lt l+1:=by unfold BS;rw [List.takeWhile_cons,if_pos hx];rfl
   have:=zH (l:=l) (lt:=lt) (by rw [e]at h;simpa using h);simp only [e,List.getElem_cons_succ];exact this
  ·have e:BS lt (x::l)=0:=by unfold BS;rw [List.takeWhile_cons,if_neg hx];rfl
   simp only [e,List.getElem_cons_zero];simpa using hx
theorem zDn {α β:Type} {xs:List α} {body:Int × Int→Option ((Int × Int) ⊕ Option β)} {fin:Int→Option β} (lt:α→Bool) (hm: ∀i j (hj:j<xs.length) (hi:i≤j),lt xs[j]=true→lt xs[i]=true)
  (hs: ∀i j:Nat,i<j→j≤xs.length→(h:(i+j)/2<xs.length)→body ((i:Int),(j:Int))=some (.inl (if lt xs[(i+j)/2]=true then((((i+j)/2+1:Nat):Int),(j:Int))else((i:Int),(((i+j)/2:Nat):Int)))))
  (he: ∀i:Nat,i≤xs.length→body ((i:Int),(i:Int))=some (.inr (fin i))):AA body (0,(xs.length:Int))=fin (BS lt xs):=by
 have key: ∀n i j:Nat,j-i≤n→i≤BS lt xs→BS lt xs≤j→j≤xs.length→AA body ((i:Int),(j:Int))=fin (BS lt xs):=by
  intro n
  induction n with
  |zero=>
   intro i j h1 h2 h3 h4;have:i=j:=by omega
   subst this;have:i=BS lt xs:=by omega
   rw [EW,he i h4,this]
  |succ n ih=>
   intro i j h1 h2 h3 h4;by_cases Nq:i=j
   ·subst Nq;have:i=BS lt xs:=by omega
    rw [EW,he i h4,this]
   ·have Aq:(i+j)/2<xs.length:=by omega
    rw [EW,hs i j (by omega) h4 Aq];by_cases hc:lt xs[(i+j)/2]=true
    ·rw [if_pos hc];refine ih _ _ (by omega) ?_ h3 h4;by_cases hp:(i+j)/2<BS lt xs
     ·omega
     ·have h5:BS lt xs<xs.length:=by omega
      have:=zH h5;rw [hm _ _ Aq (by omega) hc]at this;cases this
    ·rw [if_neg hc];refine ih _ _ (by omega) h2 ?_ (by omega);by_cases hp:(i+j)/2<BS lt xs
     ·exact absurd (mH hp) hc
     ·omega
 exact key xs.length 0 xs.length (by omega) (by omega) (Q5 lt xs) (Nat.le_refl _)
theorem yT {α:Type} {key:α→Ab} {x:α}: ∀{l:List α},DO key l→BA key x l=(match l[BS (fun y=>bl (key y) (key x)) l]? with
  |some y=>if key y=key x then l.set (BS (fun y=>bl (key y) (key x)) l) x else l.take (BS (fun y=>bl (key y) (key x)) l)++ [x]++l.drop (BS (fun y=>bl (key y) (key x)) l)
  |none=>l.take (BS (fun y=>bl (key y) (key x)) l)++ [x]++l.drop (BS (fun y=>bl (key y) (key x)) l))
 | [],_=>by simp [BA,BS]
 |y::l,h=>by
  have h1:=List.pairwise_cons.1 h;unfold BA;by_cases hb:bl (key x) (key y)=true
  ·have e:BS (fun z=>bl (key z) (key x)) (y::l)=0:=by unfold BS;rw [List.takeWhile_cons,if_neg (by rw [YS hb];simp)];rfl
   rw [if_pos hb,e];simp [(F9 hb).symm]
  ·rw [if_neg hb];by_cases hk:key x=key y
   ·have e:BS (fun z=>bl (key z) (key x)) (y::l)=0:=by unfold BS;rw [List.takeWhile_cons,if_neg (by rw [hk,OA];simp)];rfl
    rw [if_pos hk,e];simp [hk]
   ·have G4:=Ul (by simpa using hb) hk;have e:BS (fun z=>bl (key z) (key x)) (y::l)=BS (fun z=>bl (key z) (key x)) l+1:=by unfold BS;rw [List.takeWhile_cons,if_pos G4];rfl
    rw [if_neg hk,e,yT h1.2];simp only [List.getElem?_cons_succ];split
    ·split<;>simp
    ·simp
def NT (a b:Ai):Int:=if bl a b=true then-1 else if a=b then 0 else 1
@[simp] theorem zBR (a:Ai):Tz a=some false:=by simp [Tz]
@[simp] theorem zGc (a b:Ai):WJ a b=some (NT a b):=by
 unfold WJ NT;simp only [zBR,Aa,AY,if_false];by_cases h:bl a b=true
 ·have:Op.bytesLess a b=true:=h;simp [this]
 ·have h1:Op.bytesLess a b=false:=by simpa using h
  by_cases he:a=b
  ·subst he;simp [h1]
  ·simp [h1,he]
theorem zDl {a b:Ai}:decide (NT a b<0)=bl a b:=by
 unfold NT;cases h:bl a b with
 |true=>simp
 |false=>by_cases he:a=b<;>simp [he]
theorem zD9 {a b:Ai}:(NT a b==0)=decide (a=b):=by
 unfold NT;cases h:bl a b with
 |true=>simp [F9 h]
 |false=>by_cases he:a=b<;>simp [he]
theorem zE6 {i j:Nat} (h:i≤j) (hj:j≤2000000):IntKind.i64.wrap (Int.fdiv (IntKind.u64.wrap (IntKind.i64.wrap ((i:Int)+(j:Int)))) (2^(min ((1:Int)).toNat (IntKind.bits .u64))))=(((i+j)/2:Nat):Int):=by
 have e1:IntKind.i64.wrap ((i:Int)+(j:Int))=((i+j:Nat):Int):=by rw [Bh (by omega) (by omega)];simp
 have e2:IntKind.u64.wrap ((i+j:Nat):Int)=((i+j:Nat):Int):=by simp only [IntKind.wrap,IntKind.bits,IntKind.signed];simp;omega
 have e3:(2:Int)^(min ((1:Int)).toNat (IntKind.bits .u64))=((2:Nat):Int):=rfl;rw [e1,e2,e3,Int.fdiv_eq_ediv_of_nonneg _ (by omega),←Int.natCast_ediv,Bh (by omega) (by omega)]
theorem zEn {i:Nat} (h:i≤2000000):IntKind.i64.wrap ((i:Int)+1)=((i+1:Nat):Int):=by rw [Bh (by omega) (by omega)];simp
abbrev Dc (l:List Ac):Prop:=DO (fun w:Ac=>w.af) l
abbrev Gw (l:List Ac) (k:Ai):Nat:=BS (fun w:Ac=>bl w.af k) l
theorem rB {l:List Ac} {k:Ai} (hl:l.length≤2000000) (hr:Dc l):Mp l k=some (((Gw l k:Nat):Int),(match l[Gw l k]? with|some w=>decide (w.af=k)|none=>false)):=by
 unfold Mp dM;have hc: ∀w:Ac,PZ w k=some (NT w.af k):=fun w=>by simp [PZ]
 have h:=zDn (xs:=l) (body:=fun s:Int × Int=>Pz l k (fun y0_ y1_=>PZ y0_ y1_) s.1 s.2) (fin:=fun i=>dL l k (fun y0_ y1_=>PZ y0_ y1_) i) (fun w:Ac=>bl w.af k)
  (fun i j hj hi h=>by
   rcases Nat.lt_or_ge i j with Nq|Nq
   ·exact II ((List.pairwise_iff_getElem.1 hr) i j (by omega) hj Nq) h
   ·have:i=j:=by omega
    subst this;exact h)
  (fun i j Nq hj aN=>by show Pz l k _ (i:Int) (j:Int)=_;unfold Pz;rw [if_pos (by simpa using Nq),zE6 (by omega) (by omega),AO aN,Aa];simp only [hc,Aa,zDl,zEn (show(i+j)/2≤2000000 by omega)];cases bl l[(i+j)/2].af k<;>rfl)
  (fun i hi=>by show Pz l k _ (i:Int) (i:Int)=_;unfold Pz;rw [if_neg (by simp)])
 rw [h];unfold dL;show Option.bind (if decide (((Gw l k:Nat):Int)<l.length)=true then _ else _) _=_;by_cases hp:Gw l k<l.length
 ·rw [if_pos (by simpa using hp),AO hp,Aa];simp only [hc,Aa,zD9,List.getElem?_eq_getElem hp]
 ·rw [if_neg (by simpa using hp),List.getElem?_eq_none (by omega)];rfl
theorem jC {l:List Ac} {w:Ac} (hl:l.length≤2000000) (hr:Dc l):Ou l w=some (BA (fun w:Ac=>w.af) w l):=by
 unfold Ou;rw [rB hl hr,Aa,yT hr];show(if(match l[Gw l w.af]? with|some w'=>decide (w'.af=w.af)|none=>false)=true then _ else _)=_;have hle:Gw l w.af≤l.length:=Q5 _ _;have hI:YX l ((Gw l w.af:Nat):Int) [w]=some (l.take (Gw l w.af)++ [w]++l.drop (Gw l w.af)):=AJ ⟨by omega,by omega,by simp,by simp only [AD];omega⟩;by_cases hp:Gw l w.af<l.length
 ·rw [List.getElem?_eq_getElem hp];by_cases hk:(l[Gw l w.af]).af=w.af
  ·simp only [hk,decide_true,if_true,AO hp,Aa];rfl
  ·simp only [hk,decide_false,AY,if_false];rw [hI];rfl
 ·rw [List.getElem?_eq_none (by omega)];simp only [AY,if_false];rw [hI];rfl
theorem iL (ks:List Ai):Kp ks=Im bl ks:=by
 have key: ∀n q,q+n+1=ks.length→(List.range' (q+1) n).all (IH ks)=Im bl (ks.drop q):=by
  intro n
  induction n with
  |zero=>intro q hq;rw [List.drop_eq_getElem_cons (show q<ks.length by omega),List.drop_eq_nil_of_le (show ks.length≤q+1 by omega)];rfl
  |succ n ih=>intro q hq;rw [List.range'_succ,List.all_cons,ih (q+1) (by omega),zwm (show q+1<ks.length by omega)];congr 1;unfold IH;have hb:(q+1==0)=false:=rfl;rw [hb,Bool.false_or,Nat.add_sub_cancel,List.getElem?_eq_getElem (show q<ks.length by omega),List.getElem?_eq_getElem (show q+1<ks.length by omega)];rfl
 cases ks with
 |nil=>rfl
 |cons k l=>unfold Kp;rw [Ar,List.range_eq_range',List.range'_succ,List.all_cons];have:=key l.length 0 (by simp);rw [List.drop_zero]at this;rw [Nat.zero_add]at this;rw [show 0+1=1 from rfl,this];rfl
theorem Yj {α β:Type} (f:α→β) (r:β→β→Bool): ∀l:List α,Im r (l.map f)=Im (fun a b=>r (f a) (f b)) l
 | []=>rfl
 | [_]=>rfl
 |x::y::l=>by have:=Yj f r (y::l);simp only [List.map_cons,Im]at this ⊢;rw [this]
theorem zql {l:List Ac} (h:Jx l=true):Dc l:=by unfold Jx at h;simp only [Ae]at h;have h1:=h.2.2;rw [iL,Yj]at h1;exact(YJ (r:=fun a b:Ac=>bl a.af b.af) fun a b c p q=>II p q).1 h1
theorem lU {t:Ad} (h:AZ t=true):DO (fun x:Au=>x.ab) t.ae:=by
 unfold AZ at h;simp only [Ae]at h;have h1:=h.2;have h2:Kp (t.ae.map (·.ab))=true:=by
  unfold Kp;rw [List.length_map,AG];intro i hi;have h3:=AG.1 h1 i hi;unfold Hg at h3;simp only [Ae]at h3;have Fx:i<t.ae.length:=List.mem_range.1 hi;have e: ∀j:Nat,(((t.ae.map (·.ab))[j]?).getD [])=((t.ae[j]?).getD ⟨[],0,0⟩).ab:=by intro j;rw [List.getElem?_map];cases t.ae[j]?<;>rfl
  unfold IH;rw [e,e];exact h3.2
 rw [iL,Yj]at h2;exact(YJ (r:=fun a b:Au=>bl a.ab b.ab) fun a b c p q=>II p q).1 h2
theorem YR {t:Ad} {x:Au} (h:AZ t=true) (hx:x∈t.ae):Fe t x.ab x:=by
 have h1:Bp (fun y:Au=>y.ab==x.ab) t.ae≥0:=by have:=OM (fun y:Au=>y.ab==x.ab) t.ae;rw [show(t.ae.any fun y=>y.ab==x.ab)=true from List.any_eq_true.2 ⟨x,hx,by simp⟩]at this;exact of_decide_eq_true this
 obtain⟨y,h2,h3,h4⟩:=xQ h1;have h5:y=x:=(lU h).gf h4 hx (by simpa using h3);subst h5;have h6:=BW.1 (Fc h hx).2;exact⟨h2,rfl,h6.1,h6.2⟩
theorem Ij {t:Ad} (h:AZ t=true):2≤t.al.length∧t.al.length≤4∧t.ae.length≤3:=by unfold AZ at h;simp only [Ae,decide_eq_true_eq]at h;have h1:=BW.1 h.1.1.2.2;have h2:=h.1.2;omega
theorem MM {t:Ad} {r:AI} (hs:Small r.aw) (h:Bl t r=true):Kt t r:=by unfold Bl at h;simp only [Ae,beq_iff_eq]at h;exact⟨by have:=h.1;omega,hs⟩
theorem Y6 {t:Ad} {r:AI} (hc:1≤t.al.length) (h:Kt t r):getI r.aw 0=some (CM r 0):=(UR h (by omega) (by omega)).1
theorem OS {t:Ad} {r:AI} (hc:1≤t.al.length) (h:Kt t r):r.aw≠ []:=by intro e;have:=h.len;rw [e]at this;simp at this;omega
def F6 (a:A2):Prop:=Small a.bd.aw∧Small a.bj.aw
def Hb (t:Ad) (a:A2):Bool:=
 if a.aj=1 then(a.bd.aw.length:Int)==0&&Bl t a.bj else
 if a.aj=2 then Bl t a.bd&&(a.bj.aw.length:Int)==0 else
 if a.aj=3 then Bl t a.bd&&(Bl t a.bj&&CM a.bd 0==CM a.bj 0)else false
theorem iV {t:Ad} {a:A2} (hc:1≤t.al.length) (h:F6 a):TU t a=some (Hb t a):=by
 unfold TU Hb;by_cases h1:a.aj=1
 ·rw [if_pos (by simpa using h1),if_pos h1,Uj h.2,Aa];cases((a.bd.aw.length:Int)==0)<;>simp
 rw [if_neg (by simpa using h1),if_neg h1];by_cases h2:a.aj=2
 ·rw [if_pos (by simpa using h2),if_pos h2,Uj h.1,Aa];cases((a.bj.aw.length:Int)==0)<;>simp
 rw [if_neg (by simpa using h2),if_neg h2];by_cases h3:a.aj=3
 ·rw [if_pos (by simpa using h3),if_pos h3,Uj h.1,Uj h.2,Aa,Aa];cases e1:Bl t a.bd with
  |false=>simp
  |true=>
   cases e2:Bl t a.bj with
   |false=>simp
   |true=>simp [Y6 hc (MM h.1 e1),Y6 hc (MM h.2 e2)]
 rw [if_neg (by simpa using h3),if_neg h3]
theorem zxB {t:Ad} {a:A2} (hc:1≤t.al.length) (h:F6 a):Wy t a=some (Hb t a):=by
 unfold Wy Hb;by_cases h1:a.aj=1
 ·rw [if_pos (by simpa using h1),if_pos h1,Uh h.2,Aa];cases((a.bd.aw.length:Int)==0)<;>simp
 rw [if_neg (by simpa using h1),if_neg h1];by_cases h2:a.aj=2
 ·rw [if_pos (by simpa using h2),if_pos h2,Uh h.1,Aa]
 rw [if_neg (by simpa using h2),if_neg h2];by_cases h3:a.aj=3
 ·rw [if_pos (by simpa using h3),if_pos h3,Uh h.1,Uh h.2,Aa,Aa];cases e1:Bl t a.bd with
  |false=>simp
  |true=>
   cases e2:Bl t a.bj with
   |false=>simp
   |true=>simp [Y6 hc (MM h.1 e1),Y6 hc (MM h.2 e2)]
 rw [if_neg (by simpa using h3),if_neg h3]
structure S2 (t:Ad) (a:A2):Prop where
 old:a.aj≠1→Kt t a.bd
 new:a.aj≠2→Kt t a.bj
 kind:a.aj=1∨a.aj=2∨a.aj=3
 same:a.aj=3→CM a.bd 0=CM a.bj 0
theorem pJ {t:Ad} {a:A2} (h:F6 a) (hg:Hb t a=true):S2 t a:=by
 unfold Hb at hg;by_cases h1:a.aj=1
 ·rw [if_pos h1,Ae]at hg;exact⟨fun k=>absurd h1 k,fun _=>MM h.2 hg.2, .inl h1,fun k=>by omega⟩
 rw [if_neg h1]at hg;by_cases h2:a.aj=2
 ·rw [if_pos h2,Ae]at hg;exact⟨fun _=>MM h.1 hg.1,fun k=>absurd h2 k, .inr (.inl h2),fun k=>by omega⟩
 rw [if_neg h2]at hg;by_cases h3:a.aj=3
 ·rw [if_pos h3,Ae,Ae,beq_iff_eq]at hg;exact⟨fun _=>MM h.1 hg.1,fun _=>MM h.2 hg.2.1, .inr (.inr h3),fun _=>hg.2.2⟩
 rw [if_neg h3]at hg;cases hg
def EM (t:Ad) (a:A2) (x:Au):Ai:=if a.aj=1 then []else Cm t x.ab x.bh a.bd
def D9 (t:Ad) (a:A2) (x:Au):Ai:=if a.aj=2 then []else Cm t x.ab x.bh a.bj
def Kj (k n:Ai) (x:Au):List Az:=if k≠ []∧k≠n∧x.ak≥1 then [⟨3,k, [],0⟩]else []
def IN (n:Ai) (x:Au):List Az:=if n≠ []∧x.ak≥2 then [⟨2,n, [],0⟩]else []
def Gt (t:Ad) (a:A2) (x:Au):List Az:=Kj (EM t a x) (D9 t a x) x++IN (D9 t a x) x
def Kh (t:Ad) (a:A2):List Az:=
 if a.aj=1 then [⟨6,(A6 t a.bj).af, [],0⟩,⟨2,(A6 t a.bj).af,(A6 t a.bj).ay,0⟩]else
 if a.aj=2 then [⟨7,(A6 t a.bd).af,(A6 t a.bd).ay,0⟩,⟨3,(A6 t a.bd).af, [],0⟩]else
 [⟨7,(A6 t a.bd).af,(A6 t a.bd).ay,0⟩,⟨2,(A6 t a.bd).af,(A6 t a.bj).ay,0⟩]
def Fg (t:Ad) (a:A2):List Az:=t.ae.foldl (fun o x=>o++Gt t a x) (Kh t a)
theorem zBU (k n:Ai) (x:Au):(Kj k n x).length≤1:=by unfold Kj;split<;>simp
theorem zDB (n:Ai) (x:Au):(IN n x).length≤1:=by unfold IN;split<;>simp
theorem jH (t:Ad) (a:A2) (x:Au):(Gt t a x).length≤2:=by unfold Gt;have:=zBU (EM t a x) (D9 t a x) x;have:=zDB (D9 t a x) x;rw [Ao];omega
theorem iI (t:Ad) (a:A2):(Kh t a).length=2:=by unfold Kh;split<;>(try split)<;>rfl
theorem Y4 {o p:List Az} (h:o.length≤5000000) (hn:p.length≤5000000):((o.length:Int)+(p.length:Int))*48≤140737488355328∧(o.length:Int)+(p.length:Int)≤140737488355328:=by omega
theorem zAj {t:Ad} {a:A2} {x:Au} (ht:t.ab.length≤2000000) (hn:x.ab.length≤2000000) (hx:Fe t x.ab x) (ha:S2 t a):T2 t x a=some (Gt t a x):=by
 have e1:T2 t x a=Xv t x a (EM t a x):=by
  unfold T2 EM;by_cases h1:a.aj=1
  ·rw [if_neg (by simp [h1]),if_pos h1];rfl
  ·rw [if_pos (by simpa using h1),if_neg h1,YW ht hn hx (ha.old h1)];rfl
 have e2: ∀k,Xv t x a k=TE x k (D9 t a x):=by
  intro k;unfold Xv D9;by_cases h1:a.aj=2
  ·rw [if_neg (by simp [h1]),if_pos h1]
  ·rw [if_pos (by simpa using h1),if_neg h1,YW ht hn hx (ha.new h1)];rfl
 have e3: ∀(n:Ai) (o:List Az),o.length≤5→Xx x n o=some (o++IN n x):=by
  intro n o ho;unfold Xx IN;by_cases h1:n≠ []∧x.ak≥2
  ·rw [if_pos (by simpa using h1),if_pos h1,AJ (Y4 (by omega) (by simp))]
  ·rw [if_neg (by simpa using h1),if_neg h1,List.append_nil]
 have e4: ∀(k n:Ai),TE x k n=some (Kj k n x++IN n x):=by
  intro k n;unfold TE Kj;by_cases h1:k≠ []∧k≠n∧x.ak≥1
  ·rw [if_pos (by simpa [and_assoc]using h1),if_pos h1,AJ (Y4 (by simp) (by simp)),e3 _ _ (by simp)]
  ·rw [if_neg (by simpa [and_assoc]using h1),if_neg h1,e3 _ _ (by simp)]
 rw [e1,e2,e4];rfl
theorem zxM {t:Ad} {a:A2} (hc:1≤t.al.length) (ht:t.ab.length≤2000000) (ha:S2 t a):XP t a=some (Kh t a):=by
 unfold XP Kh;by_cases h1:a.aj=1
 ·have hr:=ha.new (by omega);rw [if_pos (by simpa using h1),if_pos h1,Q4 ht hr.small (OS hc hr)];rfl
 have hr:=ha.old h1;rw [if_neg (by simpa using h1),if_neg h1,Q4 ht hr.small (OS hc hr),Aa];by_cases h2:a.aj=2
 ·rw [if_pos (by simpa using h2),if_pos h2]
 have hr:=ha.new h2;rw [if_neg (by simpa using h2),if_neg h2,Q4 ht hr.small (OS hc hr)];rfl
theorem pQ {t:Ad} {a:A2} (hS:CJ t) (hg:AZ t=true) (ha:S2 t a):X6 t a=some (Fg t a):=by
 have hc:=Ij hg;unfold X6;rw [zxM (by omega) hS.name ha,Aa];have hl:=iI t a;exact(Ft (xs:=t.ae) (body:=fun s:Int × List Az=>P6 t a s.1 s.2) (fun i (o:List Az)=>(i,o)) (fun o x=>o++Gt t a x) (fun o=>some o) (fun i o=>o.length≤2+2*i)
  (fun i hi o hI=>by have hI:o.length≤2+2*i:=hI;have hw:=Bi hi (by omega);have hk:=jH t a t.ae[i];have hm:=List.getElem_mem hi;refine⟨?_,by show List.length _≤_;rw [Ao];omega⟩;show P6 t a i o=_;unfold P6;rw [if_pos (by simpa using hi),AO hi,Aa,zAj hS.name (hS.idx _ hm) (YR hg hm) ha,Aa,AJ (Y4 (by omega) (by omega)),hw])
  (fun o _=>by show P6 t a t.ae.length o=_;unfold P6;rw [if_neg (by simp)]) (s:=Kh t a) (by omega)).1
theorem MV {k:Int} {w:Ac} {o:List Az} (h:o.length≤5000000):J6 k w o=some ((),o++ [⟨k,w.af,w.ay,0⟩]):=by unfold J6;rw [AJ (Y4 h (by simp))]
theorem zED {t:Ad} {a:A2} (hS:CJ t) (hg:AZ t=true) (ha:S2 t a):WM t a=some (Fg t a):=by
 have hc:=Ij hg;have hl:=iI t a;have h7: ∀(i:Int) (x:Au) (n:Ai) (o:List Az),o.length≤100→PL i x n o=some (.inl (IntKind.i64.wrap (i+1),o++IN n x)):=by
  intro i x n o ho;unfold PL IN fY;by_cases h1:n= []
  ·rw [if_neg (by simp [h1]),if_neg (by simp [h1]),List.append_nil]
  rw [if_pos (by simpa using h1),Aa];by_cases h2:x.ak≥2
  ·rw [if_pos (by simpa using h2),if_pos ⟨h1,h2⟩,MV (by omega)];rfl
  ·rw [if_neg (by simpa using h2),if_neg (fun h=>h2 h.2),List.append_nil]
 have h6: ∀(i:Int) (x:Au) (k n:Ai) (o:List Az),o.length≤99→N8 i o x k n=some (.inl (IntKind.i64.wrap (i+1),o++(Kj k n x++IN n x))):=by
  intro i x k n o ho;unfold N8 Kj gD;by_cases h1:k= []
  ·rw [if_neg (by simp [h1]),if_neg (by simp [h1]),h7 _ _ _ _ (by omega)];rfl
  rw [if_pos (by simpa using h1)];by_cases h2:k=n
  ·rw [if_neg (by simp [h2]),if_neg (by simp [h2]),h7 _ _ _ _ (by omega)];rfl
  rw [if_pos (by simpa using h2),Aa];by_cases h3:x.ak≥1
  ·rw [if_pos (by simpa using h3),if_pos ⟨h1,h2,h3⟩,MV (by omega),Aa,h7 _ _ _ _ (by rw [Ao,AD];omega),List.append_assoc]
  ·rw [if_neg (by simpa using h3),if_neg (fun h=>h3 h.2.2),h7 _ _ _ _ (by omega)];rfl
 have Jc: ∀o:List Az,o.length=2→PK t a o=some (t.ae.foldl (fun o x=>o++Gt t a x) o):=by
  intro o ho;unfold PK;exact(Ft (xs:=t.ae) (body:=fun s:Int × List Az=>PJ t a s.1 s.2) (fun i (o:List Az)=>(i,o)) (fun o x=>o++Gt t a x) (fun o=>some o) (fun i o=>o.length≤2+2*i)
   (fun i hi o hI=>by
    have hI:o.length≤2+2*i:=hI;have hw:=Bi hi (by omega);have hk:=jH t a t.ae[i];have hm:=List.getElem_mem hi;have hx:=YR hg hm;refine⟨?_,by show List.length _≤_;rw [Ao];omega⟩;show PJ t a i o=_;unfold PJ;rw [if_pos (by simpa using hi),AO hi,Aa];have e1:(if(a.aj !=1)=true then(Mi t t.ae[i].ab a.bd).bind fun v20=>some (Sum.inl v20)else some (Sum.inl ([]:Ab)):Option (Ab ⊕ Option ((Int × List Az) ⊕ Option (List Az))))=some (.inl (EM t a t.ae[i])):=by
     unfold EM;by_cases h1:a.aj=1
     ·rw [if_neg (by simp [h1]),if_pos h1]
     ·rw [if_pos (by simpa using h1),if_neg h1,lI hS (hS.idx _ hm) hx (ha.old h1)];rfl
    rw [e1];show eB t a i o t.ae[i] (EM t a t.ae[i])=_;unfold eB;have e2: ∀k,(if(a.aj !=2)=true then(Mi t t.ae[i].ab a.bj).bind fun v19=>N8 i o t.ae[i] k v19 else N8 i o t.ae[i] k ([]:Ab))=N8 i o t.ae[i] k (D9 t a t.ae[i]):=by
     intro k;unfold D9;by_cases h1:a.aj=2
     ·rw [if_neg (by simp [h1]),if_pos h1]
     ·rw [if_pos (by simpa using h1),if_neg h1,lI hS (hS.idx _ hm) hx (ha.new h1)];rfl
    rw [e2,h6 _ _ _ _ _ (by omega),hw];rfl)
   (fun o _=>by show PJ t a t.ae.length o=_;unfold PJ;rw [if_neg (by simp)]) (s:=o) (by omega)).1
 have hn:t.ab.length≤2000000:=hS.name;unfold WM Fg Kh;rcases ha.kind with h1|h1|h1
 ·have hr:=ha.new (by omega);rw [if_neg (by simp [h1]),if_pos h1];show N7 t a [] [] false []=_;unfold N7;rw [if_pos (by simp [h1]),UQ hn hr.small (OS (by omega) hr),Aa];unfold Tj;rw [if_pos (by simp [h1]),MV (by simp),Aa,MV (by simp),Aa,Jc _ (by simp)];rfl
 ·have hr:=ha.old (by omega);rw [if_pos (by simp [h1]),if_neg (by omega),if_pos h1,UQ hn hr.small (OS (by omega) hr),Aa,MV (by simp),Aa];show N7 t a (A6 t a.bd).af (A6 t a.bd).ay (A6 t a.bd).bb _=_;unfold N7;rw [if_neg (by simp [h1])];unfold Tj;rw [if_neg (by simp [h1]),if_pos (by simp [h1]),MV (by simp),Aa,Jc _ (by simp)];rfl
 ·have hr:=ha.old (by omega);have Dk:=ha.new (by omega);have hk:(A6 t a.bd).af=(A6 t a.bj).af:=by
   have:=ha.same h1;unfold CM at this;unfold A6;rw [List.head?_eq_getElem?,List.head?_eq_getElem?];exact congrArg (fun z=>t.ab++ [47]++z) this
  rw [if_pos (by simp [h1]),if_neg (by omega),if_neg (by omega),UQ hn hr.small (OS (by omega) hr),Aa,MV (by simp),Aa];show N7 t a (A6 t a.bd).af (A6 t a.bd).ay (A6 t a.bd).bb _=_;unfold N7;rw [if_pos (by simp [h1]),UQ hn Dk.small (OS (by omega) Dk),Aa];unfold Tj;rw [if_neg (by simp [h1]),if_neg (by simp [h1]),if_pos (by simp [h1]),MV (by simp),Aa,Jc _ (by simp),hk];rfl
theorem ED {σ α:Type} {body:σ→Option (σ ⊕ Option α)} {s:σ} {o:Option α} (h:body s=some (.inr o)):AA body s=o:=by rw [EW,h]
theorem E9 {σ α:Type} {body:σ→Option (σ ⊕ Option α)} {s s':σ} (h:body s=some (.inl s')):AA body s=AA body s':=by rw [EW,h]
abbrev wk (w:Ac):Ai:=w.af
theorem YA {α β:Type} {xs:List α} {body:Int→Option (Int ⊕ Option β)} (p:α→Bool) (hit:α→Option β) (fin:Option β)
  (hs: ∀(i:Nat) (hi:i<xs.length),body i=some (if p xs[i]=true then .inr (hit xs[i])else .inl ((i+1:Nat):Int))) (he:body xs.length=some (.inr fin)):
  AA body 0=match xs.find? p with|some x=>hit x|none=>fin:=by
 have key: ∀n q,q+n=xs.length→AA body (q:Nat)=match(xs.drop q).find? p with|some x=>hit x|none=>fin:=by
  intro n
  induction n with
  |zero=>
   intro q hq;have:q=xs.length:=by omega
   subst this;rw [List.drop_length];exact ED he
  |succ n ih=>
   intro q hq;have Aq:q<xs.length:=by omega
   rw [List.drop_eq_getElem_cons Aq,List.find?_cons];have h1:=hs q Aq;cases hp:p xs[q]with
   |true=>rw [hp,if_pos rfl]at h1;exact ED h1
   |false=>rw [hp,if_neg (by simp)]at h1;rw [E9 h1];exact ih (q+1) (by omega)
 have:=key xs.length 0 (by omega);rw [List.drop_zero]at this;exact this
def M0 (got:List BC) (k:Ai):Ai × Bool × Bool:=match got.find? (fun g=>g.af==k)with|some g=>(g.ay,g.c8,true)|none=>([],false,false)
def CU (ws:List Ac) (got:List BC) (k:Ai):Ai × Bool × Bool:=match ws.find? (fun w=>w.af==k)with|some w=>(w.ay, !w.bb,true)|none=>M0 got k
def CT (rows:List Ac) (k:Ai):BC:=match rows.find? (fun w=>w.af==k)with|some w=>⟨k,w.ay,true⟩|none=>⟨k, [],false⟩
theorem jV {ws:List Ac} {got:List BC} {k:Ai} (hw:ws.length≤2000000) (hg:got.length≤2000000):Xo ws got k=some (CU ws got k):=by
 have h2:Xc got k=some (M0 got k):=by
  unfold Xc M0;rw [YA (xs:=got) (body:=fun s:Int=>PQ got k s) (fun g=>g.af==k) (fun g=>some (g.ay,g.c8,true)) (some ([],false,false)) (fun i hi=>by
   show PQ got k i=_;unfold PQ;rw [if_pos (by simpa using hi),AO hi,Aa,Bi hi (by omega)];split<;>rfl) (by
   show PQ got k got.length=_;unfold PQ;rw [if_neg (by simp)])]
  cases got.find? (fun g=>g.af==k)<;>rfl
 unfold Xo CU;rw [YA (xs:=ws) (body:=fun s:Int=>PY ws got k s) (fun w=>w.af==k) (fun w=>some (w.ay, !w.bb,true)) (Xc got k) (fun i hi=>by
  show PY ws got k i=_;unfold PY;rw [if_pos (by simpa using hi),AO hi,Aa,Bi hi (by omega)];split<;>rfl) (by
  show PY ws got k ws.length=_;unfold PY;rw [if_neg (by simp)]),h2]
 cases ws.find? (fun w=>w.af==k)<;>rfl
theorem zDb {rows:List Ac} {k:Ai} (hw:rows.length≤2000000):X5 rows k=some (CT rows k):=by
 unfold X5 CT;rw [YA (xs:=rows) (body:=fun s:Int=>P5 rows k s) (fun w=>w.af==k) (fun w=>some ⟨k,w.ay,true⟩) (sM k) (fun i hi=>by
  show P5 rows k i=_;unfold P5;rw [if_pos (by simpa using hi),AO hi,Aa,Bi hi (by omega)];split<;>rfl) (by
  show P5 rows k rows.length=_;unfold P5;rw [if_neg (by simp)])]
 cases rows.find? (fun w=>w.af==k)<;>rfl
theorem YE {α:Type} (lt:α→Bool) (x:α) (l:List α):BS lt (x::l)=if lt x=true then BS lt l+1 else 0:=by unfold BS;rw [List.takeWhile_cons];split<;>rfl
theorem Ur {x:Ac} {l:List Ac} (h:Dc (x::l)):(∀y∈l,bl x.af y.af=true)∧Dc l:=by unfold Dc DO at h;rw [List.pairwise_cons]at h;exact h
theorem zzT {l:List Ac} {k:Ai} (h: ∀y∈l,bl k y.af=true):l.find? (fun w=>w.af==k)=none:=by rw [List.find?_eq_none];intro y hy;have:=F9 (h y hy);simpa using fun e=>this e.symm
theorem vK {k:Ai}: ∀{l:List Ac},Dc l→l.find? (fun w=>w.af==k)=match l[Gw l k]? with|some w=>if w.af=k then some w else none|none=>none
 | [],_=>by simp
 |x::l,h=>by
  obtain⟨h1,h2⟩:=Ur h;have ih:=vK (k:=k) h2;rw [Gw,YE,List.find?_cons];by_cases hb:bl x.af k=true
  ·have A9:(x.af==k)=false:=by simpa using F9 hb
   rw [if_pos hb,A9,List.getElem?_cons_succ];exact ih
  ·rw [if_neg hb,List.getElem?_cons_zero];by_cases he:x.af=k
   ·rw [show(x.af==k)=true by simpa using he];simp [he]
   ·rw [show(x.af==k)=false by simpa using he];simp only [he,if_false];have hk:bl k x.af=true:=Ul (by simpa using hb) he;exact zzT fun y hy=>II hk (h1 y hy)
theorem zK {l:List Ac} {k:Ai} (hl:l.length≤2000000) (hr:Dc l): ∃i:Int,(Mp l k=some (i,true)∧ ∃w,getI l i=some w∧l.find? (fun w=>w.af==k)=some w)∨(Mp l k=some (i,false)∧l.find? (fun w=>w.af==k)=none):=by
 refine⟨(Gw l k:Nat), ?_⟩;rw [rB hl hr,vK hr];by_cases hp:Gw l k<l.length
 ·rw [List.getElem?_eq_getElem hp];by_cases hk:(l[Gw l k]).af=k
  ·left;simp only [hk,decide_true,if_true];exact⟨trivial,_,AO hp,rfl⟩
  ·right;simp only [hk,decide_false,if_false];exact⟨trivial,trivial⟩
 ·rw [List.getElem?_eq_none (by omega)];right;exact⟨rfl,rfl⟩
theorem zxG {ws:List Ac} {got:List BC} {k:Ai} (hw:ws.length≤2000000) (hg:got.length≤2000000) (hr:Dc ws):XK k ws got=some (CU ws got k):=by
 unfold XK CU;obtain⟨i,⟨e,w,e2,e3⟩|⟨e,e3⟩⟩:=zK (k:=k) hw hr
 ·rw [e,e3,Aa,if_pos rfl,e2];rfl
 ·rw [e,e3,Aa,if_neg (by simp)];unfold M0;rw [YA (xs:=got) (body:=fun s:Int=>Qi k got s) (fun g=>g.af==k) (fun g=>some (g.ay,g.c8,true)) (some ([],false,false)) (fun i hi=>by
   show Qi k got i=_;unfold Qi;rw [if_pos (by simpa using hi),AO hi,Aa,Bi hi (by omega)];split<;>rfl) (by
   show Qi k got got.length=_;unfold Qi;rw [if_neg (by simp)])]
  cases got.find? (fun g=>g.af==k)<;>rfl
theorem zBg {rows:List Ac} {k:Ai} (hw:rows.length≤2000000) (hr:Dc rows):Ya rows k=some (CT rows k):=by
 unfold Ya CT;obtain⟨i,⟨e,w,e2,e3⟩|⟨e,e3⟩⟩:=zK (k:=k) hw hr
 ·rw [e,e3,Aa,if_neg (by simp),e2];rfl
 ·rw [e,e3,Aa,if_pos (by simp)]
def D0 (k:Ai) (w:Ac):Bool:=bl w.af k||w.af==k
def Mf (l:List Ac) (w:Ac) (q:Nat):List Ac:=
 match(if q=0 then none else l[q-1]?)with
 |some y=>if y.af=w.af then l.set (q-1) w else l.take q++ [w]++l.drop q
 |none=>l.take q++ [w]++l.drop q
theorem zyP {w:Ai} {l:List Ac} (h: ∀y∈l,bl w y.af=true):BS (D0 w) l=0:=by
 cases l with
 |nil=>rfl
 |cons y l=>rw [YE,if_neg];have h1:=h y (by simp);have h2:=YS h1;have h3:=F9 h1;unfold D0;rw [h2];simpa using fun e=>h3 e.symm
theorem yB {w:Ac}: ∀{l:List Ac},Dc l→Mf l w (BS (D0 w.af) l)=BA wk w l
 | [],_=>by simp [Mf,BA,BS]
 |x::l,h=>by
  obtain⟨h1,h2⟩:=Ur h;have ih:=yB (w:=w) h2;rw [YE,BA];by_cases ha:bl (wk w) (wk x)=true
  ·have hl:D0 w.af x=false:=by
    have h3:=YS ha;have h4:=F9 ha;unfold D0;rw [h3];simpa using fun e=>h4 e.symm
   rw [if_pos ha,hl,if_neg (by simp)];simp [Mf]
  rw [if_neg ha];by_cases he:wk w=wk x
  ·have hl:D0 w.af x=true:=by unfold D0;rw [show(x.af==w.af)=true by simpa using he.symm];simp
   have hz:BS (D0 w.af) l=0:=zyP fun y hy=>by rw [show w.af=x.af from he];exact h1 y hy
   rw [if_pos he,hl,if_pos rfl,hz];simp [Mf,show x.af=w.af from he.symm]
  ·have hb:bl x.af w.af=true:=Ul (by simpa using ha) he;have hl:D0 w.af x=true:=by unfold D0;rw [hb];rfl
   rw [if_neg he,hl,if_pos rfl,←ih];have hle:=Q5 (D0 w.af) l;generalize BS (D0 w.af) l=q at hle;unfold Mf;rw [if_neg (by omega),Nat.add_sub_cancel];cases q with
   |zero=>simp only [List.getElem?_cons_zero,if_true];rw [if_neg (fun e=>he e.symm)];simp
   |succ q=>
    rw [if_neg (by omega),Nat.add_sub_cancel,List.getElem?_cons_succ,List.getElem?_eq_getElem (by omega)];simp only;split
    ·simp
    ·simp
theorem zJ {w:Ai}: ∀{l:List Ac},Dc l→ ∀(j:Nat) (hj:j<l.length),BS (D0 w) l≤j→D0 w l[j]=false
 | [],_,j,hj,_=>by simp at hj
 |x::l,h,j,hj,hq=>by
  obtain⟨h1,h2⟩:=Ur h;rw [YE]at hq;by_cases hx:D0 w x=true
  ·rw [if_pos hx]at hq;cases j with
   |zero=>omega
   |succ j=>exact zJ h2 j (by simpa using hj) (by omega)
  ·have CN:D0 w x=false:=by simpa using hx
   cases j with
   |zero=>exact CN
   |succ j=>have hm:l[j]'(by simpa using hj)∈l:=List.getElem_mem _;have h3:=h1 _ hm;show D0 w (l[j]'(by simpa using hj))=false;unfold D0 at CN ⊢;simp only [Bool.or_eq_false_iff,beq_eq_false_iff_ne]at CN ⊢;have h4:bl w x.af=true:=Ul CN.1 CN.2;have h5:=II h4 h3;exact⟨YS h5,fun e=>F9 h5 e.symm⟩
theorem mY {i:Nat} (h0:0<i) (h:i≤2000000):IntKind.i64.wrap ((i:Int)-1)=((i-1:Nat):Int):=by rw [Bh (by omega) (by omega)];omega
theorem JC {l:List Ac} {w:Ac} (hl:l.length≤2000000) (hr:Dc l):FB l w=some (BA wk w l):=by
 have hk: ∀q:Nat,q≤l.length→Xp l w (q:Int)=some (Mf l w q):=by
  intro q hq;have r1:0≤(q:Int)∧(q:Int)≤(l.length:Int)∧(l.length:Int)≤(l.length:Int):=by omega
  have F1:(A7 l (q:Int) (l.length:Int))=l.drop q:=by rw [show(l.length:Int)=((l.length:Nat):Int)from rfl,NX,List.take_length]
  have H9:(A7 l 0 (q:Int))=l.take q:=N4 l q;have r2:((([]:List Ac).length:Int)+((l.drop q).length:Int))*40≤140737488355328∧(([]:List Ac).length:Int)+((l.drop q).length:Int)≤140737488355328:=by rw [List.length_nil,List.length_drop];omega
  have r3:0≤(0:Int)∧(0:Int)≤(q:Int)∧(q:Int)≤(l.length:Int):=by omega
  have r4:((([]:List Ac).length:Int)+((l.take q).length:Int))*40≤140737488355328∧(([]:List Ac).length:Int)+((l.take q).length:Int)≤140737488355328:=by rw [List.length_nil,List.length_take];omega
  have r5:(((l.take q).length:Int)+(([w]:List Ac).length:Int))*40≤140737488355328∧((l.take q).length:Int)+(([w]:List Ac).length:Int)≤140737488355328:=by rw [AD,List.length_take];omega
  have r6:(((l.take q++ [w]).length:Int)+((l.drop q).length:Int))*40≤140737488355328∧((l.take q++ [w]).length:Int)+((l.drop q).length:Int)≤140737488355328:=by rw [Ao,AD,List.length_take,List.length_drop];omega
  have r7:((([]:List Ac).length:Int)+((l).length:Int))*40≤140737488355328∧(([]:List Ac).length:Int)+((l).length:Int)≤140737488355328:=by rw [List.length_nil];omega
  unfold Xp Mf;by_cases h0:q=0
  ·subst h0;rw [if_neg (by simp),if_pos rfl];rw [AJ r1,F1,AJ r2,AJ r3,H9,AJ r4,AJ r5,AJ r6]
  ·have Fy:q-1<l.length:=by omega
   rw [if_pos (by simp;omega),if_neg h0,mY (by omega) (by omega),AO Fy,Aa,List.getElem?_eq_getElem Fy];simp only;by_cases he:(l[q-1]).af=w.af
   ·rw [if_pos (by simpa using he),if_pos he,AJ r7,Aa];rfl
   ·rw [if_neg (by simpa using he),if_neg he];rw [AJ r1,F1,AJ r2,AJ r3,H9,AJ r4,AJ r5,AJ r6]
 have hle:=Q5 (D0 w.af) l;have key: ∀n j:Nat,j=BS (D0 w.af) l+n→j≤l.length→AA (fun s:Int=>Oi l w s) (j:Int)=some (Mf l w (BS (D0 w.af) l)):=by
  intro n
  induction n with
  |zero=>
   intro j hj aA;have Pe:j=BS (D0 w.af) l:=by omega
   refine(ED ?_).trans (hk _ hle);show Oi l w (j:Int)=_;unfold Oi;by_cases h0:j=0
   ·rw [if_neg (by simp [h0]),Pe]
   ·have Fy:j-1<l.length:=by omega
    have ht:=mH (lt:=D0 w.af) (l:=l) (i:=j-1) (by omega);rw [if_pos (by simp;omega),mY (by omega) (by omega),AO Fy,Aa,if_neg,Pe];unfold D0 at ht;have ht:(bl l[j-1].af w.af||l[j-1].af==w.af)=true:=ht;show¬(!(bl l[j-1].af w.af||l[j-1].af==w.af))=true;rw [ht];simp
  |succ n ih=>
   intro j hj aA;have Fy:j-1<l.length:=by omega
   have ht:=zJ (w:=w.af) hr (j-1) Fy (by omega);have e:Oi l w (j:Int)=some (.inl ((j-1:Nat):Int)):=by unfold Oi;rw [if_pos (by simp;omega),mY (by omega) (by omega),AO Fy,Aa,if_pos];have ht:(bl l[j-1].af w.af||l[j-1].af==w.af)=false:=ht;show(!(bl l[j-1].af w.af||l[j-1].af==w.af))=true;rw [ht];rfl
   rw [E9 (body:=fun s:Int=>Oi l w s) e];exact ih (j-1) (by omega) (by omega)
 unfold FB;rw [key (l.length-BS (D0 w.af) l) l.length (by omega) (Nat.le_refl _),yB hr]
end Go.Proofs.YtlhlgboblghkdaaGreatDoor
end

/- Parts of a proof, joined: QF3, QF4, QF5, QF6, QR, OZ, NA, ND, NE, N5, N6, N7, N8, N9, N10, N11, N12, N13, N14, N15, N16, PK, NK, NP, NQ, NX. -/
import Derived.Test.YtbmbkgalkfmjdaaGreatDoorZ8
set_option linter.unusedVariables false
set_option linter.unusedSimpArgs false
noncomputable section
namespace Go.Proofs.YtbmbkgalkfmjdaaGreatDoor
open Go.RowKit
set_option maxRecDepth 100000
set_option maxHeartbeats 4000000
def lW:FS:=Ak 104 [.v (.st 3), .v (.l (.st 0))] (.v (.l (.st 4))) (fun x=>PE x.1 x.2.1) [zmR] [.sp [.i .i64, .l (.st 4)], .inl]
def YP:FS:=Ak 108 [.v (.st 3), .v .s, .v (.st 4)] (.v .s) (fun x=>Kj x.1 x.2.1 x.2.2.1) [ziA,mU] []
def zjD:FS:=Ak 176 [.v (.st 3), .v .s, .v (.l (.st 0))] (.v (.l .s)) (fun x=>Vt x.1 x.2.1 x.2.2.1) [lW,YP] [.sp [.i .i64, .l .s]]
def zhh:FS:=DG 246 [.v (.l .s), .fn [.s] .b] (.v (.l .s)) (fun x=>Jp x.1 (fun y=>x.2.1.φ (y,()))) fun x r hp h=>Fy (f:=246) (t:=Yd 202 1 false (.fld (.idx (.var 5) (.var 4)) 0 1 false) [] (.str (ByteArray.mk #[]))) (by kernel_rfl) (by kernel_rfl) (wN (av:=(By tab.av .s)) (fun x=>⟨K4 _ x,NL (by kernel_rfl) x,(fun e=>nomatch e),fun _=>rfl⟩) (by decide) (fun a b c d j ys x tl hj=>by simp [AV.nth,hj,By,LU]) (fun a b c d j ys x hj=>by simp [AV.nth,hj,By,LU]) h (fun i hi=>zef.ok x i hp hi) (fun y b hb=>hp.2.1 (y,()) b hb))
def zrH:FS:=Ak 247 [.v .s, .rf (.l .s)] (.v .b) (fun x=>nG x.1 x.2.1) [kZ] []
def zqr:FS:=IH zrH fun _=>by kernel_rfl
def zot:FS:=Ak 175 [.v (.l .s), .v (.l .s)] (.v (.l .s)) (fun x=>V6 x.1 x.2.1) [ze5,zhh,zqr] []
def zlL:FS:=Ak 156 [.v (.st 3), .v .s, .v (.l (.st 0))] (.v (.l .s)) (fun x=>YO x.1 x.2.1 x.2.2.1) [Rq,zjD,zot] []
def zmU:FS:=Ak 90 [.v (.st 3), .v .s, .v (.l (.st 0))] (.v (.l .s)) (fun x=>lJ x.1 x.2.1 x.2.2.1) [zjD,Rq,zot] []
def zmS:FS:=Ak 72 [.v (.st 3), .v .s, .v (.i .i64), .v (.l (.st 0))] (.v .b) (fun x=>YX x.1 x.2.1 x.2.2.1 x.2.2.2.1) [Rq,zlL,zmU] []
def zjC:FS:=Ak 88 [.v (.st 5)] (.v .b) (fun x=>RQ x.1) [zo5,zmS] []
def zvM:FS:=Ak 24 [.v (.st 5)] (.tu (.cons (.v .b) (.cons (.v .b) .nil))) (fun x=>V2 x.1) [mW,zjC] []
def zsY:FS:=Ak 117 [.v (.st 6)] (.v .b) (fun x=>VQ x.1) [zoB] []
def zip:FS:=Ak 40 [.v (.st 7)] (.v .b) (fun x=>L3 x.1) [mW,zsY] []
def zmA:FS:=Ak 147 [.v (.st 3), .v (.st 8)] (.v .b) (fun x=>YI x.1 x.2.1) [zjX] []
def zpN:FS:=Ak 184 [.v (.st 8)] (.v .b) (fun x=>V9 x.1) [] []
def zlh:FS:=Ak 177 [.v (.st 5), .v (.st 9)] (.v .b) (fun x=>YN x.1 x.2.1) [Kk,Vr,zmA,zpN] []
def zmK:FS:=Ak 97 [.v (.st 7), .v (.st 10)] (.v .b) (fun x=>YF x.1 x.2.1) [zlh,Kk,zpN] [.pt]
def zkY:FS:=Ak 42 [.v (.st 7), .v (.st 10)] (.v .b) (fun x=>R7 x.1 x.2.1) [zip,zmK] []
def zlw:FS:=DG 252 [.v (.l (.i .i64))] (.v (.l (.i .i64))) (fun x=>lF x.1) fun x r hp h=>Fy (f:=252) (t:=Tw 8 1) (by kernel_rfl) (by kernel_rfl) (cD (bytes:=8) (sz:=1) (av:=(By tab.av (.i .i64))) (fun x=>⟨K4 _ x,NL (by kernel_rfl) x⟩) h)
def zmO:FS:=Ak 183 [.v (.st 5)] (.v (.st 5)) (fun x=>VG x.1) [zlw,kX,mV] [.sp [.i .i64, .l (.st 3)]]
def zmY:FS:=Ak 96 [.v (.st 7)] (.v (.st 7)) (fun x=>V0 x.1) [zmO] []
def zmw:FS:=Ak 153 [.v (.i .i64), .v (.st 0), .rf (.l (.st 11))] (.tu (.cons (.tu .nil) (.cons (.bo (.l (.st 11))) .nil))) (fun x=>KS x.1 x.2.1 x.2.2.1) [] []
def zt0:FS:=Ak 154 [.v (.i .i64)] (.v .b) (fun x=>nY x.1) [] []
def nP:FS:=Ak 155 [.v (.i .i64)] (.v .b) (fun x=>NG x.1) [] []
def znc:FS:=Ak 70 [.v (.st 3), .v (.st 8)] (.v (.l (.st 11))) (fun x=>YS x.1 x.2.1) [nP,zmw,zt0,YP,Vl] [.sp [.s, .s, .b, .l (.st 11)], .pt, .pt, .sp [.i .i64, .l (.st 11)], .inl, .sp [.s], .pt, .pt]
def zdl:FS:=Ak 303 [.v (.l (.st 0)), .v .s, .fn [.st 0, .s] (.i .i64)] (.tu (.cons (.v (.i .i64)) (.cons (.v .b) .nil))) (fun x=>kV x.1 x.2.1 (fun y0 y1=>x.2.2.1.φ (y0,y1,()))) [] [.sp [.i .i64, .i .i64]]
def zoW:FS:=Ak 322 [.v .s] (.v .b) (fun x=>Vy x.1) [] []
def znh:FS:=Ak 305 [.v .s, .v .s] (.v (.i .i64)) (fun x=>YQ x.1 x.2.1) [zoW] []
def zpQ:FS:=Ak 304 [.v (.st 0), .v .s] (.v (.i .i64)) (fun x=>R9 x.1 x.2.1) [znh] []
def zo0:FS:=IH zpQ fun _=>by kernel_rfl
def nF:FS:=Ak 284 [.v (.l (.st 0)), .v .s] (.tu (.cons (.v (.i .i64)) (.cons (.v .b) .nil))) (fun x=>NC x.1 x.2.1) [zdl,zo0] []
def znq:FS:=Ak 235 [.v (.l (.st 0)), .v (.st 0)] (.v (.l (.st 0))) (fun x=>PY x.1 x.2.1) [nF,zgl] []
def zuz:FS:=Ak 280 [.v .s, .v (.l (.st 0)), .v (.l (.st 12))] (.tu (.cons (.v .s) (.cons (.v .b) (.cons (.v .b) .nil)))) (fun x=>ZD x.1 x.2.1 x.2.2.1) [nF] [.sp [.i .i64]]
def znB:FS:=Ak 282 [.v .s] (.tu (.cons (.v (.i .i64)) (.cons (.v .b) .nil))) (fun x=>VY x.1) [zuf] []
def zqB:FS:=Ak 281 [.v (.st 11), .v .s, .v .b] (.v .b) (fun x=>Ze x.1 x.2.1 x.2.2.1) [znB,Kk] []
def zui:FS:=Ak 233 [.v (.l (.st 11)), .v (.l (.st 12))] (.tu (.cons (.v (.i .i64)) (.cons (.v .s) (.cons (.v (.l (.st 0))) .nil)))) (fun x=>nT x.1 x.2.1) [znq,zuz,zqB,znB,zuF] [.sp [.i .i64, .l (.st 0)], .inl]
def zxX:FS:=Ak 234 [.v (.l (.st 0)), .v .s] (.v (.st 12)) (fun x=>aA x.1 x.2.1) [nF] []
def ztF:FS:=Ak 151 [.v (.l (.st 0)), .v (.l (.st 11))] (.tu (.cons (.v (.l (.st 12))) (.cons (.v (.l (.st 0))) (.cons (.v .b) .nil)))) (fun x=>nK x.1 x.2.1) [zui,zxX] [.sp [.l (.st 12)]]
def zfp:FS:=DG 236 [.v (.l (.st 0)), .fn [.st 0] .b] (.v (.l (.st 0))) (fun x=>Jp x.1 (fun y=>x.2.1.φ (y,()))) fun x r hp h=>Fy (f:=236) (t:=Yd 232 3 true (.mk (.cons (.fld (.fld (.idx (.var 5) (.var 4)) 0 3 true) 0 1 false) (.cons (.fld (.fld (.idx (.var 5) (.var 4)) 0 3 true) 1 1 false) (.cons (.fld (.fld (.idx (.var 5) (.var 4)) 0 3 true) 2 1 false) .nil)))) [(.agg (.fld (.idx (.var 5) (.var 4)) 0 3 true) 3)] (.mk (.cons (.str (ByteArray.mk #[])) (.cons (.str (ByteArray.mk #[])) (.cons (.bool false) .nil))))) (by kernel_rfl) (by kernel_rfl) (wN (av:=(By tab.av (.st 0))) (fun x=>⟨K4 _ x,NL (by kernel_rfl) x,fun _=>⟨_,rfl⟩,fun e=>nomatch e⟩) (by decide) (fun a b c d j ys x tl hj=>by simp [AV.nth,hj,By,LU]) (fun a b c d j ys x hj=>by simp [AV.nth,hj,By,LU]) h (fun i hi=>zcH.ok x i hp hi) (fun y b hb=>hp.2.1 (y,()) b hb))
def zrS:FS:=Ak 237 [.v (.st 0)] (.v .b) (fun x=>mY x.1) [] []
def zqs:FS:=IH zrS fun _=>by kernel_rfl
def zt7:FS:=Ak 152 [.v (.l (.st 0)), .v (.l (.st 0))] (.tu (.cons (.v (.l (.st 0))) (.cons (.v .b) .nil))) (fun x=>Z4 x.1 x.2.1) [kX,zfp,zqs,znq] [.sp [.i .i64, .l (.st 0)]]
def zqa:FS:=Ak 69 [.v (.l (.st 0)), .v (.l (.st 11))] (.tu (.cons (.v (.l (.st 0))) (.cons (.v .b) .nil))) (fun x=>Wa x.1 x.2.1) [ztF,zt7] []
def zkO:FS:=Ak 178 [.v (.st 5), .v (.st 9)] (.tu (.cons (.v (.st 5)) (.cons (.v .b) .nil))) (fun x=>RE x.1 x.2.1) [zmO,Kk,Vr,znc,zqa] []
def zmr:FS:=Ak 203 [.v (.l (.i .i64))] (.v (.i .i64)) (fun x=>YG x.1) [] [.sp [.i .i64, .i .i64]]
def zl7:FS:=Ak 204 [.v (.l (.i .i64))] (.v (.i .i64)) (fun x=>YK x.1) [] [.sp [.i .i64, .i .i64]]
def zh3:FS:=Ak 111 [.v (.st 5)] (.v .b) (fun x=>Ry x.1) [zmr,zl7] []
def zpt:FS:=Ak 92 [.v (.st 5), .v (.st 9)] (.v .b) (fun x=>Zi x.1 x.2.1) [zkO,zh3,zjC] []
def znm:FS:=Ak 170 [.v (.st 7), .v (.st 9)] (.tu (.cons (.v (.st 7)) (.cons (.v .b) .nil))) (fun x=>L2 x.1 x.2.1) [zmY,zpt,zkO,Vr,YW,nP] [.inl]
def zky:FS:=Ak 171 [.v (.st 7)] (.v (.i .i64)) (fun x=>RA x.1) [Vr,YW,nP] [.sp [.i .i64, .i .i64], .inl]
def zmP:FS:=Ak 245 [.v (.st 3), .v .s, .v (.st 4)] (.v (.l (.st 11))) (fun x=>YY x.1 x.2.1 x.2.2.1) [Vl,YP] []
def zoe:FS:=Ak 173 [.v (.st 3), .v .s, .v (.l (.st 0))] (.v (.l (.st 13))) (fun x=>Vp x.1 x.2.1 x.2.2.1) [lW,Vl,zmP] [.sp [.i .i64, .l (.st 13)]]
def zgY:FS:=DG 243 [.v (.l (.st 13))] (.v (.l (.st 13))) (fun x=>kW x.1) fun x r hp h=>Fy (f:=243) (t:=s4 40 2) (by kernel_rfl) (by kernel_rfl) (zBd (bytes:=40) (sz:=2) (av:=(By tab.av (.st 13))) (fun x=>K4 _ x) h)
def zf4:FS:=DG 287 [.v (.l (.st 13)), .fn [.st 13] .b] (.v (.i .i64)) (fun x=>Fc x.1 (fun y=>x.2.1.φ (y,()))) fun x r hp h=>Fy (f:=287) (t:=QA 2) (by kernel_rfl) (by kernel_rfl) (W6 (av:=(By tab.av (.st 13))) (cn:=2) (fun _=>⟨_,rfl,rfl⟩) h (fun y b hb=>hp.2.1 (y,()) b hb))
def zfW:FS:=DG 242 [.v (.l (.st 13)), .fn [.st 13] .b] (.v (.l (.st 13))) (fun x=>Jp x.1 (fun y=>x.2.1.φ (y,()))) fun x r hp h=>Fy (f:=242) (t:=jI 287 2 (.mk (.cons (.fld (.fld (.idx (.var 5) (.var 4)) 0 2 true) 0 1 false) (.cons (.fld (.fld (.idx (.var 5) (.var 4)) 0 2 true) 1 1 false) .nil))) [(.agg (.fld (.idx (.var 5) (.var 4)) 0 2 true) 2)] (.mk (.cons (.str (ByteArray.mk #[])) (.cons (.lst .nil) .nil)))) (by kernel_rfl) (by kernel_rfl) (zEy (av:=(By tab.av (.st 13))) (fun x=>⟨K4 _ x,_,rfl⟩) (by decide) (fun a b c d j ys x tl hj=>by simp [AV.nth,hj,By,LU]) (fun a b c d j ys x hj=>by simp [AV.nth,hj,By,LU]) h (fun i hi=>zf4.ok x i hp hi) (fun y b hb=>hp.2.1 (y,()) b hb))
def zul:FS:=Ak 244 [.v (.st 13), .rf (.st 6)] (.v .b) (fun x=>Z0 x.1 x.2.1) [] []
def zsC:FS:=IH zul fun _=>by kernel_rfl
def zw7:FS:=Ak 172 [.v (.l (.st 13)), .v (.l (.st 0)), .v (.st 6), .v (.i .i64)] (.tu (.cons (.v (.l (.st 0))) (.cons (.v (.st 6)) .nil))) (fun x=>NK x.1 x.2.1 x.2.2.1 x.2.2.2.1) [zgY,zfW,zsC,kX,zqa] [.sp [.l (.st 0), .i .i64, .s]]
def zmW:FS:=Ak 174 [.v (.st 3), .v .s, .v (.l (.st 0))] (.v (.l (.st 13))) (fun x=>RH x.1 x.2.1 x.2.2.1) [Rq] [.sp [.i .i64, .l (.st 13)]]
def zpI:FS:=Ak 89 [.v (.st 7), .v (.st 10)] (.tu (.cons (.v (.st 7)) (.cons (.v .b) .nil))) (fun x=>NF x.1 x.2.1) [znm,zmY,zky,zoe,zw7,zmW] [.inl]
def zsM:FS:=Ak 25 [.v (.st 7), .v (.st 10)] (.tu (.cons (.v (.st 7)) (.cons (.v .b) (.cons (.v .b) .nil)))) (fun x=>VS x.1 x.2.1) [zkY,zpI] []
def zl1:FS:=Ak 181 [.v (.st 3), .v (.l (.st 0))] (.v (.l .s)) (fun x=>Vv x.1 x.2.1) [PU,NI] [.sp [.l .s, .i .i64]]
def zn7:FS:=Ak 180 [.rf (.st 1), .v (.st 3), .v (.l .s)] (.tu (.cons (.v (.st 6)) (.cons (.v (.st 1)) .nil))) (fun x=>Vq x.1 x.2.1 x.2.2.1) [PI,PL] [.pt]
def zo1:FS:=Ak 251 [.v (.st 3), .v .s, .v .s] (.tu (.cons (.v .s) (.cons (.v .s) (.cons (.v .b) .nil)))) (fun x=>Y3 x.1 x.2.1 x.2.2.1) [zoD,zm1] []
def PS:FS:=Ak 182 [.v (.st 3), .v .s, .v (.l (.st 0))] (.v (.l .s)) (fun x=>Jo x.1 x.2.1 x.2.2.1) [zo1] [.sp [.l .s, .i .i64], .inl]
def zof:FS:=Ak 93 [.rf (.st 1)] (.tu (.cons (.v (.st 7)) (.cons (.v (.st 1)) .nil))) (fun x=>YU x.1) [ziB,PL,zl1,zn7,PS] [.inl]
def zlK:FS:=Ak 95 [.rf (.st 1)] (.tu (.cons (.v (.st 7)) (.cons (.v (.st 1)) .nil))) (fun x=>YE x.1) [zof,Jm,zkU,PI] [.inl]
def zsO:FS:=Ak 118 [.v (.st 6)] (.v .b) (fun x=>VT x.1) [oO] []
def VZ:FS:=Ak 41 [.v (.st 7)] (.v .b) (fun x=>KT x.1) [nE,zsO] []
def lY:FS:=Ak 113 [.rf (.st 1), .v (.l (.i .i64))] (.tu (.cons (.v (.i .i64)) (.cons (.v (.st 1)) .nil))) (fun x=>RS x.1 x.2.1) [Jm] []
def zoL:FS:=Ak 124 [.rf (.st 1), .v (.st 3), .v (.l (.st 0))] (.tu (.cons (.v (.st 8)) (.cons (.v (.st 1)) .nil))) (fun x=>Za x.1 x.2.1 x.2.2.1) [PU,zkH,Jm,PL] [.pt, .pt]
def zlo:FS:=Ak 205 [.rf (.st 1), .v (.st 5)] (.tu (.cons (.v (.st 9)) (.cons (.v (.st 1)) .nil))) (fun x=>YM x.1 x.2.1) [Jm,PL,lY,zoL] []
def zmG:FS:=Ak 112 [.rf (.st 1), .v (.st 7)] (.tu (.cons (.v (.st 10)) (.cons (.v (.st 1)) .nil))) (fun x=>YH x.1 x.2.1) [Jm,lY,zlo] []
def zpi:FS:=Ak 36 [.v (.l (.i .u8))] (.tu (.cons (.v (.st 7)) (.cons (.v (.st 10)) .nil))) (fun x=>Y8 x.1) [zlK,VZ,zmG,Jm,lY] [.inl]
def znb:FS:=Ak 188 [.v (.st 8)] (.v .b) (fun x=>ZN x.1) [] []
def zoE:FS:=Ak 66 [.v (.st 3), .v (.st 8)] (.v .b) (fun x=>V5 x.1 x.2.1) [zou] []
def zur:FS:=Ak 186 [.v (.st 5), .v (.st 9)] (.v .b) (fun x=>Z1 x.1 x.2.1) [HM,znb,zoE] []
def zuE:FS:=Ak 187 [.v (.i .i64)] (.v .b) (fun x=>nR x.1) [HM] []
def zt3:FS:=Ak 99 [.v (.st 7), .v (.st 10)] (.v .b) (fun x=>ZG x.1 x.2.1) [zur,zuE,znb] [.pt]
def zp6:FS:=Ak 114 [.v (.st 7), .v (.st 10)] (.v .b) (fun x=>Vx x.1 x.2.1) [VZ,zt3] []
def zvN:FS:=Ak 98 [.v (.st 7)] (.v (.st 7)) (fun x=>aG x.1) [nO] []
def zua:FS:=Ak 189 [.v (.st 5)] (.tu (.cons (.v .b) (.cons (.v .b) .nil))) (fun x=>ZY x.1) [nH] [.sp [.b, .b, .i .i64]]
def zt4:FS:=Ak 15 [.v (.st 3), .v (.st 8)] (.v .b) (fun x=>Su x.1 x.2.1) [Zv,zoE] []
def zuA:FS:=Ak 324 [.v (.st 3), .v (.st 8)] (.v (.l (.st 11))) (fun x=>ZT x.1 x.2.1) [NI] []
def zwP:FS:=Ak 325 [.v (.st 3), .v (.st 2), .v (.st 8)] (.v (.l (.st 11))) (fun x=>V3 x.1 x.2.1 x.2.2.1) [VX] [.sp [.s], .pt, .pt, .inl]
def zvW:FS:=Ak 308 [.v (.st 3), .v (.st 8)] (.v (.l (.st 11))) (fun x=>aI x.1 x.2.1) [zuA,zwP] [.sp [.i .i64, .l (.st 11)]]
def zyN:FS:=Ak 326 [.v (.st 11)] (.v .b) (fun x=>aV x.1) [oO,zrp,HM] [.pt, .inl]
def zwc:FS:=Ak 309 [.v (.l (.st 11))] (.v .b) (fun x=>aL x.1) [zyN] [.sp [.i .i64]]
def zsH:FS:=Ak 343 [.v (.l (.st 0)), .v (.l (.st 12)), .v .s] (.tu (.cons (.v .s) (.cons (.v .b) (.cons (.v .b) .nil)))) (fun x=>Zn x.1 x.2.1 x.2.2.1) [] [.sp [.i .i64], .sp [.i .i64]]
def zwQ:FS:=Ak 359 [.v .s] (.v (.i .i64)) (fun x=>Wb x.1) [HM] [.sp [.i .i64, .i .i64]]
def zro:FS:=Ak 345 [.v .s] (.tu (.cons (.v (.i .i64)) (.cons (.v .b) .nil))) (fun x=>Wf x.1) [zwQ] [.pt]
def zuv:FS:=Ak 344 [.v (.st 11), .v .s, .v .b] (.v .b) (fun x=>ZX x.1 x.2.1 x.2.2.1) [zro,HM] []
theorem zrt: ∀(n:Nat) (xs:HP tab.car [.v (.i .i64)]) (y:Hj tab.car (.v .s)),Ig tab [.v (.i .i64)] xs→((fun x=>VO n x.1):HP tab.car [.v (.i .i64)]→Option (Hj tab.car (.v .s))) xs=some y→tab.Rt 360 (Gb tab [.v (.i .i64)] xs) (Gm tab (.v .s) y)
 |0,_,_,_,h=>nomatch h
 |n+1,xs,y,hp,h=>zE (ps:= [.v (.i .i64)]) (r:=(.v .s)) [DG 360 [.v (.i .i64)] (.v .s) (fun x=>VO n x.1) (zrt n)] [] (φ:=(fun x=>VO (n+1) x.1)) (fun _ _=>by kernel_rfl) (fun _ _=>by kernel_rfl) xs y hp h
def zxk:FS:=DG 360 [.v (.i .i64)] (.v .s) (fun x=>oL x.1) (zrt zL)
def zww:FS:=Ak 346 [.v (.i .i64)] (.v .s) (fun x=>oG x.1) [zxk] []
def zvU:FS:=Ak 327 [.v (.l (.st 11)), .v (.l (.st 12))] (.tu (.cons (.v (.i .i64)) (.cons (.v .s) (.cons (.v (.l (.st 0))) .nil)))) (fun x=>nN x.1 x.2.1) [zsH,zuv,aR,zro,zww] [.sp [.l (.st 0), .i .i64], .inl, .inl]
def zwa:FS:=Ak 328 [.v (.l (.st 0)), .v .s] (.v (.st 12)) (fun x=>aH x.1 x.2.1) [] [.sp [.i .i64]]
def zut:FS:=Ak 310 [.v (.l (.st 0)), .v (.l (.st 11))] (.tu (.cons (.v (.l (.st 12))) (.cons (.v (.l (.st 0))) (.cons (.v .b) .nil)))) (fun x=>nX x.1 x.2.1) [zvU,zwa] [.sp [.l (.st 12)]]
def zrD:FS:=Ak 311 [.v (.l (.st 0)), .v (.l (.st 0))] (.v (.l (.st 0))) (fun x=>Zx x.1 x.2.1) [aR] [.sp [.i .i64, .l (.st 0)], .sp [.l (.st 0), .i .i64], .inl]
def zrM:FS:=Ak 289 [.v (.l (.st 0)), .v (.l (.l (.st 11)))] (.tu (.cons (.v (.l (.st 0))) (.cons (.v (.l .b)) (.cons (.v .b) .nil)))) (fun x=>Zw x.1 x.2.1) [V4,zut,zrD,zwc] [.sp [.i .i64], .sp [.l .b, .i .i64, .l (.st 0)], .inl]
def oC:FS:=Ak 257 [.v (.l (.st 0)), .v (.l (.st 11))] (.tu (.cons (.v (.l (.st 0))) (.cons (.v .b) .nil))) (fun x=>P1 x.1 x.2.1) [zrM] []
def zxh:FS:=Ak 288 [.v (.st 3), .v (.l (.st 0)), .v (.st 8)] (.tu (.cons (.v (.l (.st 0))) (.cons (.v .b) (.cons (.v .b) .nil)))) (fun x=>SG x.1 x.2.1 x.2.2.1) [zt4,V4,zvW,oC] []
def zrk:FS:=Ak 256 [.v (.st 5), .v (.st 9)] (.tu (.cons (.v (.st 5)) (.cons (.v .b) .nil))) (fun x=>G5 x.1 x.2.1) [nO,HM,zxh] []
def znv:FS:=Ak 120 [.v (.l (.i .i64))] (.v .b) (fun x=>SA x.1) [] [.sp [.i .i64], .sp [.i .i64]]
def zne:FS:=Ak 298 [.v (.st 3), .v .s, .v (.l (.st 0))] (.v .b) (fun x=>PX x.1 x.2.1 x.2.2.1) [Zv,L7,V4] []
def zoo:FS:=Ak 299 [.v (.l .s), .v (.l .s)] (.v (.l .s)) (fun x=>Z2 x.1 x.2.1) [oK] [.sp [.l .s, .i .i64], .inl]
def zrA:FS:=Ak 271 [.v (.st 3), .v .s, .v (.l (.st 0))] (.tu (.cons (.v (.l .s)) (.cons (.v .b) .nil))) (fun x=>nD x.1 x.2.1 x.2.2.1) [zne,PS,mZ,zoo] []
def zuc:FS:=Ak 272 [.v (.st 3), .v .s, .v (.l (.st 0))] (.tu (.cons (.v (.l .s)) (.cons (.v .b) .nil))) (fun x=>nQ x.1 x.2.1 x.2.2.1) [zne,mZ,PS,zoo] []
def ztB:FS:=Ak 210 [.v (.st 3), .v .s, .v (.i .i64), .v (.l (.st 0))] (.v .b) (fun x=>Zq x.1 x.2.1 x.2.2.1 x.2.2.2.1) [PS,zrA,zuc] []
def zoA:FS:=Ak 119 [.v (.st 5)] (.v .b) (fun x=>Sv x.1) [zor,ztB] []
def zwV:FS:=Ak 255 [.v (.st 5), .v (.st 9)] (.v .b) (fun x=>P0 x.1 x.2.1) [zrk,znv,zoA] []
def zv6:FS:=Ak 190 [.v (.st 7), .v (.st 9)] (.tu (.cons (.v (.st 7)) (.cons (.v .b) .nil))) (fun x=>L8 x.1 x.2.1) [zwV,nH,zrk] [.inl]
def zup:FS:=Ak 258 [.v (.st 3), .v (.st 2), .v (.st 4)] (.v (.l (.st 11))) (fun x=>ZC x.1 x.2.1 x.2.2.1) [NI,VX] []
def zox:FS:=Ak 259 [.v (.l .s), .v .s] (.v .b) (fun x=>Z6 x.1 x.2.1) [] [.sp [.i .i64]]
def zt5:FS:=Ak 191 [.v (.st 3), .v .s, .v (.l (.st 0)), .v (.st 6), .v (.i .i64)] (.tu (.cons (.v (.l (.st 0))) (.cons (.v (.st 6)) .nil))) (fun x=>V7 x.1 x.2.1 x.2.2.1 x.2.2.2.1 x.2.2.2.2.1) [L7,PU,zl1,zox,NI,zup,oC] [.sp [.i .i64, .i .i64, .s, .l (.st 0)], .inl]
def zs0:FS:=Ak 192 [.v (.st 3), .v .s, .v (.l (.st 0)), .v (.st 6), .v (.i .i64)] (.tu (.cons (.v (.l (.st 0))) (.cons (.v (.st 6)) .nil))) (fun x=>VW x.1 x.2.1 x.2.2.1 x.2.2.2.1 x.2.2.2.2.1) [PS,zox,oC] [.sp [.i .i64, .i .i64, .s, .l (.st 0)], .inl]
def zx6:FS:=Ak 100 [.v (.st 7), .v (.st 10)] (.tu (.cons (.v (.st 7)) (.cons (.v .b) .nil))) (fun x=>NJ x.1 x.2.1) [zua,zv6,zt5,zs0] []
def ztg:FS:=Ak 37 [.v (.st 7), .v (.st 10)] (.tu (.cons (.v (.st 7)) (.cons (.v .b) (.cons (.v .b) .nil)))) (fun x=>VR x.1 x.2.1) [zp6,zvN,zx6] []
def zgA:FS:=DG 197 [.v (.l (.st 4)), .fn [.st 4] .b] (.v (.i .i64)) (fun x=>Fc x.1 (fun y=>x.2.1.φ (y,()))) fun x r hp h=>Fy (f:=197) (t:=QA 1) (by kernel_rfl) (by kernel_rfl) (W6 (av:=(By tab.av (.st 4))) (cn:=1) (fun _=>⟨_,rfl,rfl⟩) h (fun y b hb=>hp.2.1 (y,()) b hb))
def zfI:FS:=DG 103 [.v (.l (.st 4)), .fn [.st 4] .b] (.v .b) (fun x=>FL x.1 (fun y=>x.2.1.φ (y,()))) fun x r hp h=>Fy (f:=103) (t:=Qz 197) (by kernel_rfl) (by kernel_rfl) (WX h fun r hr=>zgA.ok x r hp hr)
def zqV:FS:=Ak 105 [.v (.st 4), .rf (.st 7), .rf (.st 5), .rf (.l .s)] (.v .b) (fun x=>RY x.1 x.2.1 x.2.2.1 x.2.2.2.1) [YP,kZ,Vl] []
def zpA:FS:=IH zqV fun _=>by kernel_rfl
def ztT:FS:=Ak 33 [.v (.st 7)] (.tu (.cons (.v .b) (.cons (.v .b) .nil))) (fun x=>SB x.1) [zip,Rq,lW,zfI,zpA] []
def zrF:FS:=Ak 115 [.v (.st 7)] (.v .b) (fun x=>Zu x.1) [PS,PU,L7,VX,oK,NI] [.sp [.i .i64]]
def zsU:FS:=Ak 38 [.v (.st 7)] (.tu (.cons (.v .b) (.cons (.v .b) .nil))) (fun x=>VU x.1) [VZ,zrF] []
def zpl:FS:=Ak 110 [.v .s, .rf (.st 7)] (.v .b) (fun x=>R8 x.1 x.2.1) [] []
def zoO:FS:=IH zpl fun _=>by kernel_rfl
def zrE:FS:=Ak 34 [.v (.st 7)] (.tu (.cons (.v .b) (.cons (.v .b) .nil))) (fun x=>So x.1) [zip,Rq,zdv,zoO] []
def zqe:FS:=Ak 116 [.v (.st 7)] (.v .b) (fun x=>Zg x.1) [PS] [.sp [.i .i64]]
def zrL:FS:=Ak 39 [.v (.st 7)] (.tu (.cons (.v .b) (.cons (.v .b) .nil))) (fun x=>VE x.1) [VZ,zqe] []
def zvP:FS:=Ak 290 [.v (.l .s), .v (.l .s)] (.v .b) (fun x=>aJ x.1 x.2.1) [] [.sp [.i .i64]]
def zvQ:FS:=Ak 260 [.v (.st 3), .v (.st 3)] (.v .b) (fun x=>aQ x.1 x.2.1) [zvP] [.sp [.i .i64]]
def zue:FS:=Ak 193 [.v (.l (.st 3)), .v (.l (.st 3))] (.v .b) (fun x=>Z5 x.1 x.2.1) [zvQ] [.sp [.i .i64]]
def zvx:FS:=Ak 194 [.v (.l (.i .i64)), .v (.l (.i .i64))] (.v .b) (fun x=>aE x.1 x.2.1) [] [.sp [.i .i64]]
def zwI:FS:=Ak 195 [.v (.l (.st 0)), .v (.l (.st 0))] (.v .b) (fun x=>ZS x.1 x.2.1) [] [.sp [.i .i64]]
def zwy:FS:=Ak 101 [.v (.st 5), .v (.st 5)] (.v .b) (fun x=>aM x.1 x.2.1) [zue,zvx,zwI] []
def zv5:FS:=Ak 32 [.v (.st 7), .v (.st 7)] (.v .b) (fun x=>ZQ x.1 x.2.1) [zwy] []
def zvC:FS:=Ak 43 [.v (.st 5)] (.tu (.cons (.v .b) (.cons (.v .b) .nil))) (fun x=>aF x.1) [nE,zoA] []
def zso:FS:=Ak 44 [.v (.st 5)] (.tu (.cons (.v .b) (.cons (.v .b) .nil))) (fun x=>ZL x.1) [nE,znv] []
def zs8:FS:=Ak 35 [.v (.st 5)] (.tu (.cons (.v .b) (.cons (.v .b) .nil))) (fun x=>V1 x.1) [mW,zh3] []
def zpy:FS:=Ak 6 [.v (.l (.i .u8)), .v (.l (.i .u8))] (.v .b) (fun x=>aK x.1 x.2.1) [zpi,zsM,ztg,ztT,zsU,zrE,zrL,zv5,zip,VZ,zkY,zvC,zso,zvM,zs8] []
theorem zvv (a0 a1:List Int) (r:Bool) (h:aK a0 a1=some r):Ct Tryz.prog Cs 6 [.sl (a0.map Rg), .sl (a1.map Rg)] (.bool r):=zpy.ok (a0,a1,()) r (by simp [zpy,Ak,Ig,Vc]) h
end Go.Proofs.YtbmbkgalkfmjdaaGreatDoor
end
noncomputable section
namespace Go.Proofs.YtbmbkgalkfmjdaaGreatDoor
open Go.ChangeShapes Go.WideShapes Go.ChangeAt Go.RowKit
theorem oM {H:Type} {P:Program} {t:TypeId} {ts:List TypeId} {d:DataW H} {r:List (DataW H)} {n:Nat} (h:(DataW.weightsEach P (t::ts) (d::r)).all (· ≤n)=true):(d.weights P t).all (· ≤n)=true∧(DataW.weightsEach P ts r).all (· ≤n)=true:=by rw [DataW.weightsEach,List.all_append,Ae]at h;exact h
theorem yJ {w:World} {p:Option Addr} {n c:Nat} {xs:List AV} {f:List Nat} (h:Rd w [.slice p n c] [.sl xs] f):n=xs.length:=by cases h<;>first|rfl|(symm;assumption)
theorem zEq {w:World} {v:Value} {xs:List AV} {f:List Nat} (h:Rd w [v] [.sl xs] f):v.cells.toList= [v]:=by cases h<;>rfl
theorem zsu {H:Type} {P:Program} {enc:TypeId × Value→H} {w:World} {spare:Nat→Bool} {held:Bool} {t e:TypeId} {v:Value} {d:DataW H} {p:List MemPlace} {xs:List AV} {f:List Nat} (ht:P.underlying t=some (.slice e)) (hb:P.bytesOf e=1) (h:DataW.Trod enc P w 0 spare held t v d p) (hr:Rd w [v] [.sl xs] f) (hw:(d.weights P t).all (· ≤reachBytes)=true):xs.length≤reachBytes:=by
 have hc:=zEq hr;obtain⟨m,hm⟩:=h;rcases DataW.trod_slice ht hm with⟨h1,_⟩|⟨a,len,cap,elems,rest,n,_,h1,h2,_,_,_,h3,_⟩
 ·rw [hc]at h1;obtain rfl:=(List.cons.inj h1).1;rw [←yJ hr];omega
 ·rw [hc]at h1;obtain rfl:=(List.cons.inj h1).1;rw [←yJ hr];have:d= .slice (elems.map (·.1)) (rest.map (·.1)):=congrArg Prod.fst h2;subst this;rw [DataW.weights,ht]at hw;dsimp only at hw;rw [List.all_cons,Ae,decide_eq_true_eq,hb,List.length_map]at hw;omega
end Go.Proofs.YtbmbkgalkfmjdaaGreatDoor
end
noncomputable section
namespace Go.Proofs.YtbmbkgalkfmjdaaGreatDoor
open Go.RowKit
set_option maxRecDepth 100000
theorem AN {α:Type} {xs:List α} {i:Nat} (h:i<xs.length):getI xs (i:Int)=some xs[i]:=by simp [getI,h]
theorem IX {α:Type} {xs:List α} {i:Int} (h0:0≤i) (h:i<xs.length): ∃x,getI xs i=some x∧x∈xs∧xs[i.toNat]?=some x:=by
 have hi:i.toNat<xs.length:=by omega
 exact⟨xs[i.toNat],by simp [getI,h0,hi],List.getElem_mem hi,by simp [hi]⟩
theorem sH {α:Type} {xs:List α} {i:Int} {x:α} (h:getI xs i=some x):x∈xs:=by obtain⟨h1,h2,h3⟩:=Yf h;exact List.mem_of_getElem? h3
theorem Bl {q n:Nat} (h:q<n) (hn:n≤9223372036854775807):IntKind.i64.wrap ((q:Int)+1)=((q+1:Nat):Int):=by rw [Bc (by omega) (by omega)];simp
theorem AT {α:Type} {p:Prop} {k:Option α} (h:p):req p k=k:=by simp [req,h]
def HY {α σ β:Type} (step:α→σ→Option (σ ⊕ Option β)) (fin:σ→Option β):List α→σ→Option β
 | [],s=>fin s
 |x::xs,s=>match step x s with
  |none=>none
  |some (.inl s')=>HY step fin xs s'
  |some (.inr o)=>o
def MF {σ τ β:Type} (f:σ→τ):Option (σ ⊕ Option β)→Option (τ ⊕ Option β)
 |none=>none
 |some (.inl s)=>some (.inl (f s))
 |some (.inr o)=>some (.inr o)
theorem zCP {α σ τ β:Type} {xs:List α} {body:τ→Option (τ ⊕ Option β)} (emb:Int→σ→τ) (step:α→σ→Option (σ ⊕ Option β)) (fin:σ→Option β) (q0:Nat)
  (hs: ∀(i:Nat) (hi:i<xs.length) (s:σ),q0≤i→body (emb i s)=MF (emb ((i+1:Nat):Int)) (step xs[i] s)) (he: ∀s,body (emb xs.length s)=some (.inr (fin s))) (s:σ) (h0:q0≤xs.length):AA body (emb q0 s)=HY step fin (xs.drop q0) s:=by
 have key: ∀(n q:Nat) (s:σ),q0≤q→q+n=xs.length→AA body (emb q s)=HY step fin (xs.drop q) s:=by
  intro n
  induction n with
  |zero=>
   intro q s _ hq;have:q=xs.length:=by omega
   subst this;rw [Fx,he s];simp [HY]
  |succ n ih=>
   intro q s h0 hq;have Am:q<xs.length:=by omega
   rw [Fx,hs q Am s h0,List.drop_eq_getElem_cons Am];rcases AZ:step xs[q] s with _|s'|o
   ·simp [HY,AZ,MF]
   ·simp only [HY,AZ,MF];exact ih (q+1) s' (by omega) (by omega)
   ·simp [HY,AZ,MF]
 exact key (xs.length-q0) q0 s (Nat.le_refl _) (by omega)
theorem bT {α σ τ β:Type} {xs:List α} {body:τ→Option (τ ⊕ Option β)} (emb:Int→σ→τ) (step:α→σ→Option (σ ⊕ Option β)) (fin:σ→Option β)
  (hs: ∀(i:Nat) (hi:i<xs.length) (s:σ),body (emb i s)=MF (emb ((i+1:Nat):Int)) (step xs[i] s)) (he: ∀s,body (emb xs.length s)=some (.inr (fin s))) (s:σ):AA body (emb 0 s)=HY step fin xs s:=by
 have:=zCP emb step fin 0 (fun i hi s _=>hs i hi s) he s (by omega);simpa using this
theorem s6 {α σ β:Type} {step:α→σ→Option (σ ⊕ Option β)} {fin:σ→Option β} {xs:List α} (p:α→Bool) (b:β) (h: ∀x∈xs,∀s,step x s=some (if p x=true then .inl s else .inr (some b))) (s:σ):HY step fin xs s=if xs.all p=true then fin s else some b:=by
 induction xs with
 |nil=>simp [HY]
 |cons x xs ih=>
  simp only [HY,h x (by simp) s];cases hp:p x with
  |true=>simp [hp,ih fun y hy=>h y (by simp [hy])]
  |false=>simp [hp]
theorem zEi {α σ β:Type} {step:α→σ→Option (σ ⊕ Option β)} {fin:σ→Option β} {xs:List α} (f:σ→α→σ) (I:σ→Prop) (hI: ∀x∈xs,∀s,I s→I (f s x)) (h: ∀x∈xs,∀s,I s→step x s=some (.inl (f s x))) {s:σ} (hs:I s):HY step fin xs s=fin (xs.foldl f s):=by
 induction xs generalizing s with
 |nil=>simp [HY]
 |cons x xs ih=>simp only [HY,h x (by simp) s hs,List.foldl_cons];exact ih (fun y hy=>hI y (by simp [hy])) (fun y hy=>h y (by simp [hy])) (hI x (by simp) s hs)
theorem F7 {α σ τ β:Type} {xs:List α} {body:τ→Option (τ ⊕ Option β)} (emb:Int→σ→τ) (f:σ→α→σ) (fin:σ→Option β) (I:Nat→σ→Prop)
  (hs: ∀(i:Nat) (hi:i<xs.length) (s:σ),I i s→body (emb i s)=some (.inl (emb ((i+1:Nat):Int) (f s xs[i])))∧I (i+1) (f s xs[i])) (he: ∀s,I xs.length s→body (emb xs.length s)=some (.inr (fin s))) {s:σ} (h0:I 0 s):AA body (emb 0 s)=fin (xs.foldl f s)∧I xs.length (xs.foldl f s):=by
 have key: ∀(n q:Nat) (s:σ),q+n=xs.length→I q s→AA body (emb q s)=fin ((xs.drop q).foldl f s)∧I xs.length ((xs.drop q).foldl f s):=by
  intro n
  induction n with
  |zero=>
   intro q s hq hI;have:q=xs.length:=by omega
   subst this;rw [Fx,he s hI];simp [hI]
  |succ n ih=>
   intro q s hq hI;have Am:q<xs.length:=by omega
   obtain⟨h1,h2⟩:=hs q Am s hI;rw [Fx,h1,List.drop_eq_getElem_cons Am,List.foldl_cons];exact ih (q+1) _ (by omega) h2
 have:=key xs.length 0 s (by omega) h0;simpa using this
theorem Qk {α:Type} {xs:List α} {p:α→Option Bool} (q:α→Bool) (hp: ∀x∈xs,p x=some (q x)) (hn:xs.length≤9223372036854775806):FL xs p=some (xs.any q):=by
 have key: ∀(l:List α) (i:Int),0≤i→(∀x∈l,p x=some (q x))→ ∃r,Ej p l i=some r∧decide (r≥0)=l.any q:=by
  intro l
  induction l with
  |nil=>intro i _ _;exact⟨-1,rfl,by simp⟩
  |cons x l ih=>
   intro i hi h;simp only [Ej,h x (by simp),Aa];cases hq:q x with
   |true=>exact⟨i,by simp,by simp [hq,hi]⟩
   |false=>obtain⟨r,h1,h2⟩:=ih (i+1) (by omega) fun y hy=>h y (by simp [hy]);exact⟨r,by simp [h1],by simp [hq,h2]⟩
 obtain⟨r,h1,h2⟩:=key xs 0 (by omega) hp;simp [FL,Fc,AT hn,h1,h2]
theorem NW {α:Type} {b:Nat} {xs:List α} (h:(xs.length:Int)*b≤140737488355328) (h2:(xs.length:Int)≤140737488355328):N7 b xs=some xs:=AT ⟨h,h2⟩
theorem NS {β:Type} {n:Nat} {body:Int→Option (Int ⊕ Option β)} (p:Nat→Bool) (b:β) (fin:Option β)
  (hs: ∀i:Nat,i<n→body i=some (if p i=true then .inl ((i+1:Nat):Int)else .inr (some b))) (he:body n=some (.inr fin)):AA body 0=if(List.range n).all p=true then fin else some b:=by
 have h1:=bT (xs:=List.range n) (body:=body) (fun i (_:Unit)=>i) (fun i _=>some (if p i=true then .inl ()else .inr (some b))) (fun _=>fin)
  (fun i hi s=>by rw [List.length_range]at hi;rw [hs i hi,List.getElem_range];cases p i<;>simp [MF]) (fun s=>by simpa using he) ()
 rw [s6 p b fun x _ s=>rfl]at h1;exact h1
def BH {α:Type} (p:α→Bool) (l:List α):Int:=match l.findIdx? p with|some i=>(i:Int)|none=> -1
theorem cJ {α:Type} (p:α→Bool):BH p []= -1:=rfl
theorem NT {α:Type} (p:α→Bool) (x:α) (l:List α):BH p (x::l)=if p x=true then 0 else if BH p l= -1 then-1 else BH p l+1:=by
 unfold BH;rw [List.findIdx?_cons];cases p x with
 |true=>simp
 |false=>
  cases h:l.findIdx? p with
  |none=>simp
  |some i=>simp<;>omega
theorem WZ {α:Type} (p:α→Bool) (l:List α): -1≤BH p l:=by unfold BH;split<;>omega
theorem NY {α:Type} (p:α→Bool) (l:List α):decide (BH p l≥0)=l.any p:=by
 induction l with
 |nil=>simp [cJ]
 |cons x l ih=>
  have h1:=WZ p l;rw [NT,List.any_cons,←ih];cases p x with
  |true=>simp
  |false=>
   by_cases h:BH p l= -1
   ·simp [h]
   ·have:BH p l≥0:=by omega
    simp [h,this];try omega
theorem zzG {α:Type} {p:α→Bool} {l:List α} (h:BH p l≥0): ∃x,getI l (BH p l)=some x∧p x=true∧x∈l:=by
 induction l with
 |nil=>simp [cJ]at h
 |cons y l ih=>
  rw [NT]at h ⊢;cases hy:p y with
  |true=>exact⟨y,by simp [getI],hy,by simp⟩
  |false=>
   have h1:=WZ p l;by_cases hm:BH p l= -1
   ·rw [hy,hm]at h;simp at h
   ·have h0:BH p l≥0:=by omega
    obtain⟨x,e1,e2,e3⟩:=ih h0;obtain⟨_,e4,e5⟩:=Yf e1;refine⟨x, ?_,e2,by simp [e3]⟩;simp only [AX,if_false,hm];unfold getI;rw [if_pos (by omega),show(BH p l+1).toNat=(BH p l).toNat+1 by omega];simpa using e5
theorem rX {α:Type} {xs:List α} {body:Int→Option (Int ⊕ Option Int)} (p:α→Bool) (hs: ∀(i:Nat) (hi:i<xs.length),body i=some (if p xs[i]=true then .inr (some (i:Int))else .inl ((i+1:Nat):Int))) (he:body xs.length=some (.inr (some (-1)))):AA body 0=some (BH p xs):=by
 have key: ∀(n q:Nat),q+n=xs.length→AA body q=some (if BH p (xs.drop q)= -1 then-1 else q+BH p (xs.drop q)):=by
  intro n
  induction n with
  |zero=>
   intro q hq;have:q=xs.length:=by omega
   subst this;rw [Fx,he];simp [cJ]
  |succ n ih=>
   intro q hq;have Am:q<xs.length:=by omega
   rw [Fx,hs q Am,List.drop_eq_getElem_cons Am,NT];cases p xs[q]with
   |true=>simp
   |false=>
    simp only [AX,if_false];rw [ih (q+1) (by omega)];have h1:=WZ p (xs.drop (q+1));congr 1;by_cases hm:BH p (xs.drop (q+1))= -1
    ·simp [hm]
    ·have h2: ¬(BH p (xs.drop (q+1))+1= -1):=by omega
     simp only [hm,if_false,h2];omega
 have h:=key xs.length 0 (by omega);rw [List.drop_zero]at h;rw [show((0:Nat):Int)=0 from rfl]at h;rw [h];have h1:=WZ p xs;by_cases hm:BH p xs= -1
 ·simp [hm]
 ·simp [hm]
theorem zyp {α:Type} {xs:List α} {p:α→Option Bool} (q:α→Bool) (hp: ∀x∈xs,p x=some (q x)) (hn:xs.length≤9223372036854775806):Fc xs p=some (BH q xs):=by
 have key: ∀(l:List α) (i:Int),(∀x∈l,p x=some (q x))→Ej p l i=some (if BH q l= -1 then-1 else i+BH q l):=by
  intro l
  induction l with
  |nil=>intro i _;simp [Ej,cJ]
  |cons x l ih=>
   intro i h;simp only [Ej,h x (by simp),Aa,NT];cases q x with
   |true=>simp
   |false=>
    simp only [AX,if_false];rw [ih (i+1) fun y hy=>h y (by simp [hy])];have h1:=WZ q l;congr 1;by_cases hm:BH q l= -1
    ·simp [hm]
    ·have h2: ¬(BH q l+1= -1):=by omega
     simp only [hm,if_false,h2];omega
 unfold Fc;rw [AT hn,key xs 0 hp];by_cases hm:BH q xs= -1
 ·simp [hm]
 ·simp [hm]
theorem z7 {α:Type} {b:Bool} {A B:Option α} {y:Option α} (ha:b=true→A=y) (hb:b=false→B=y):(if b=true then A else B)=y:=by
 cases b with
 |true=>simpa using ha rfl
 |false=>simpa using hb rfl
theorem Nn {α:Type} {b:Bool} {A B y:Option α} (h:b=false) (hb:B=y):(if b=true then A else B)=y:=by rw [if_neg (by simp [h])];exact hb
theorem zJ1 {α:Type} {b:Bool} {A B y:Option α} (h:b=true) (ha:A=y):(if b=true then A else B)=y:=by rw [if_pos h];exact ha
theorem Gi {α β:Type} {o:Option α} {x:α} {f:α→Option β} (h:o=some x):o.bind f=f x:=by rw [h];rfl
def Bi {α:Type} (o:Option α) (Q:α→Prop):Prop:= ∃x,o=some x∧Q x
section
variable {α β σ:Type} {Q:β→Prop}
theorem Bi.bind {o:Option α} {P:α→Prop} {f:α→Option β} (h:Bi o P) (hf: ∀x,P x→Bi (f x) Q):Bi (o.bind f) Q:=by obtain⟨x,rfl,hx⟩:=h;exact hf x hx
theorem Bi.ret {x:β} (h:Q x):Bi (some x) Q:=⟨x,rfl,h⟩
theorem Bi.ite {b:Bool} {A B:Option β} (ha:b=true→Bi A Q) (hb:b=false→Bi B Q):Bi (if b=true then A else B) Q:=by
 cases b with
 |true=>simpa using ha rfl
 |false=>simpa using hb rfl
theorem Bi.req {p:Prop} [Decidable p] {k:Option β} (hp:p) (hk:Bi k Q):Bi (req p k) Q:=by rw [AT hp];exact hk
theorem Bi.mono {o:Option β} {P:β→Prop} (h:Bi o P) (hPQ: ∀x,P x→Q x):Bi o Q:=by obtain⟨x,hx,h⟩:=h;exact⟨x,hx,hPQ x h⟩
theorem Bi.getI {xs:List β} {i:Int} (h0:0≤i) (h:i<xs.length) (hq: ∀x,x∈xs→Q x):Bi (getI xs i) Q:=by obtain⟨x,h1,h2,_⟩:=IX h0 h;exact⟨x,h1,hq x h2⟩
theorem Mc {body:σ→Option (σ ⊕ Option β)} (I:Nat→σ→Prop) (h: ∀n s,I n s→Bi (body s) fun o=>match o with| .inl s'=> ∃m,m<n∧I m s'| .inr q=>Bi q Q): ∀{n:Nat} {s:σ},I n s→Bi (AA body s) Q:=by
 intro n
 induction n using Nat.strongRecOn with
 |_ n ih=>
  intro s hI;obtain⟨o,ho,h2⟩:=h n s hI;rw [Fx,ho]
  match o,h2 with
  | .inl s',⟨m,hm,hI'⟩=>exact ih m hm hI'
  | .inr q,hq=>exact hq
end
structure Ce where
 nh:List Int→Prop
 ou: ∀l,nh l→ ∀b∈l,0≤b∧b≤255
instance codeBytes:Inhabited Ce:=⟨⟨fun l=> ∀b∈l,0≤b∧b≤255,fun _ h=>h⟩⟩
def A4 [Inhabited Ce] (c:Ap) (k:Int):Prop:=(default:Ce).nh c.aw∧0≤c.bz∧c.bz≤k
theorem A4.up [Inhabited Ce] {c:Ap} {i j:Int} (h:A4 c i) (OQ:i≤j):A4 c j:=⟨h.1,h.2.1,by have:=h.2.2;omega⟩
theorem A4.start [Inhabited Ce] {code:List Int} (h:(default:Ce).nh code):A4 ⟨code,0,0⟩ 0:=⟨h,by simp,by simp⟩
theorem yG (a:Int):0≤IntKind.i64.wrap (IntKind.u64.wrap ((BitVec.ofInt (IntKind.bits .u64) a&&&BitVec.ofInt (IntKind.bits .u64) 255).toNat:Int))∧IntKind.i64.wrap (IntKind.u64.wrap ((BitVec.ofInt (IntKind.bits .u64) a&&&BitVec.ofInt (IntKind.bits .u64) 255).toNat:Int))≤255:=by
 have h:(BitVec.ofInt (IntKind.bits .u64) a&&&BitVec.ofInt (IntKind.bits .u64) 255).toNat≤255:=by rw [BitVec.toNat_and];exact Nat.le_trans Nat.and_le_right (by decide)
 generalize (BitVec.ofInt (IntKind.bits .u64) a&&&BitVec.ofInt (IntKind.bits .u64) 255).toNat=m at h ⊢;have e:IntKind.u64.wrap (m:Int)=m:=by simp [IntKind.wrap,IntKind.bits,IntKind.signed];omega
 rw [e,Bc (by omega) (by omega)];omega
theorem xL [Inhabited Ce] {c:Ap} {k:Int} (h:A4 c k) (hk:k≤4611686018427387904):Bi (PD c) fun p=>(0≤p.1∧p.1≤255)∧A4 p.2 (k+1):=by
 obtain⟨hb,h0,h1⟩:=h;have w:IntKind.i64.wrap (c.bz+1)=c.bz+1:=Bc (by omega) (by omega);unfold PD;refine .ite (fun Am=> ?_) fun Am=> ?_
 ·simp only [decide_eq_true_eq]at Am;refine Bi.bind (P:=fun y=>0≤y∧y≤255) (.getI h0 Am ((default:Ce).ou _ hb)) fun y hy=> ?_;have wy:IntKind.i64.wrap y=y:=Bc (by omega) (by omega);refine .ite (fun _=> .ret ⟨by dsimp only;rw [wy];exact hy,hb,by dsimp only;omega,by dsimp only;omega⟩) fun _=> .ret ⟨yG _,hb,by dsimp only;omega,by dsimp only;omega⟩
 ·refine .ite (fun _=> .ret ⟨by simp,hb,by dsimp only;omega,by dsimp only;omega⟩) fun _=> .ret ⟨yG _,hb,by dsimp only;omega,by dsimp only;omega⟩
theorem DN [Inhabited Ce] {c:Ap} {k:Int} (n:Int) (h:A4 c k) (hk:k≤4611686018427387000):Bi (Dx c n) fun p=>(0≤p.1∧(1≤n→p.1<n)∧p.1≤65535)∧A4 p.2 (k+2):=by
 have tm: ∀x:Int,0≤x→1<n→0≤x.tmod n∧x.tmod n<n∧x.tmod n≤x:=fun x hx hn=>by
  rw [Int.tmod_eq_emod_of_nonneg hx];exact⟨Int.emod_nonneg _ (by omega),Int.emod_lt_of_pos _ (by omega),by have:=Int.emod_add_mul_ediv x n;have h2:0≤n*(x/n):=Int.mul_nonneg (by omega) (Int.ediv_nonneg hx (by omega));omega⟩
 unfold Dx;refine .ite (fun hn=> .ret ⟨⟨by simp,fun h1=>by dsimp only;omega,by simp⟩,h.up (by omega)⟩) fun hn=> ?_;simp only [decide_eq_false_iff_not]at hn;refine(xL h (by omega)).bind fun p ⟨hp,hc⟩=> ?_;refine .ite (fun _=> ?_) fun _=> ?_
 ·refine(xL hc (by omega)).bind fun q ⟨hq,hd⟩=> .req (by omega) (.ret ?_);have w1:IntKind.i64.wrap (p.1*256)=p.1*256:=Bc (by omega) (by omega);have w2:IntKind.i64.wrap (p.1*256+q.1)=p.1*256+q.1:=Bc (by omega) (by omega);have:=tm (p.1*256+q.1) (by omega) (by omega);dsimp only;rw [w1,w2];exact⟨⟨this.1,fun _=>this.2.1,by omega⟩,hd.up (by omega)⟩
 ·have:=tm p.1 hp.1 (by omega);exact .req (by omega) (.ret ⟨⟨this.1,fun _=>this.2.1,by dsimp only;omega⟩,hc.up (by omega)⟩)
theorem sA [Inhabited Ce] {c:Ap} {k:Int} (l:List Int) (hl:l≠ []) (h:A4 c k) (hk:k≤4611686018427387000):Bi (RS c l) fun p=>p.1∈l∧A4 p.2 (k+2):=by unfold RS;have ID:0<l.length:=List.length_pos_iff.2 hl;refine(DN l.length h hk).bind fun p ⟨hp,hc⟩=> ?_;exact Bi.bind (P:=fun y=>y∈l) (.getI hp.1 (hp.2.1 (by omega)) fun x hx=>hx) fun y hy=> .ret ⟨hy,hc⟩
theorem Hb [Inhabited Ce] {c:Ap} {k:Int} (n:Int) (h:A4 c k) (hk:k≤4611686018427387000):Bi (F4 c n) fun p=>A4 p.2 (k+2):=by unfold F4;exact(DN n h hk).bind fun p ⟨_,hc⟩=> .ret hc
theorem rG {α β:Type} (f:α→β) (l:List α) (o:List β):l.foldl (fun o x=>o++ [f x]) o=o++l.map f:=by
 induction l generalizing o with
 |nil=>simp
 |cons x l ih=>rw [List.foldl_cons,ih];simp
abbrev Af:=Ab
def BP (a b c:Int):Bool:=decide (a≥b)&&decide (a≤c)
theorem B7 {a b c:Int}:BP a b c=true↔b≤a∧a≤c:=by simp [BP]
@[simp] theorem Iq (a b c:Int):F6 a b c=some (BP a b c):=rfl
@[simp] theorem K2 (a b c:Int):G6 a b c=some (BP a b c):=rfl
def Fi (b:UInt8):Bool:=(decide ((b.toNat:Int)≥97)&&decide ((b.toNat:Int)≤122))||(decide ((b.toNat:Int)≥48)&&decide ((b.toNat:Int)≤57))
def Ku (s more:Af):Bool:=s.all fun b=>Fi b||more.contains b
theorem zU {a b:UInt8}:((a.toNat:Int)==(b.toNat:Int))=(a==b):=by
 rw [Bool.eq_iff_iff];simp only [beq_iff_eq];constructor
 ·intro h;exact UInt8.toNat_inj.1 (by omega)
 ·rintro rfl;rfl
theorem zym {α:Type} (xs:List α) (p:α→Bool) (q:Nat→Bool) (h: ∀(i:Nat) (hi:i<xs.length),q i=p xs[i]):(List.range xs.length).all q=xs.all p:=by
 rw [Bool.eq_iff_iff];simp only [AJ,List.mem_range];constructor
 ·intro hq x hx;obtain⟨i,hi,rfl⟩:=List.getElem_of_mem hx;rw [←h i hi];exact hq i hi
 ·intro hp i hi;rw [h i hi];exact hp _ (List.getElem_mem hi)
theorem Kr {α β:Type} {xs:List α} {body:Int→Option (Int ⊕ Option β)} (p:α→Bool) (b:β) (fin:Option β)
  (hs: ∀(i:Nat) (hi:i<xs.length),body i=some (if p xs[i]=true then .inl ((i+1:Nat):Int)else .inr (some b))) (he:body xs.length=some (.inr fin)):AA body 0=if xs.all p=true then fin else some b:=by
 rw [NS (n:=xs.length) (fun i=>match xs[i]? with|some x=>p x|none=>true) b fin (fun i hi=>by rw [hs i hi];simp [hi]) he,
  zym xs p _ fun i hi=>by simp [hi]]
theorem qT {s more:Af} (h1:s.length≤2000000) (h2:more.length≤2000000):Sx s more=some (Ku s more):=by
 unfold Sx;rw [Kr (xs:=s) (fun b=>Fi b||more.contains b) false (some true) ?_ (by simp [mK])]
 ·unfold Ku;cases(s.all fun b=>Fi b||more.contains b)<;>rfl
 ·intro i hi;have Cg:AA (fun t:Bool × Int=>Vw more i s[i] t.1 t.2) (Fi s[i],0)=some (if(Fi s[i]||more.contains s[i])=true then .inl ((i+1:Nat):Int)else .inr (some false)):=by
   have hl:=bT (xs:=more) (body:=fun t:Bool × Int=>Vw more i s[i] t.1 t.2) (fun k (ok:Bool)=>(ok,k)) (fun b ok=>some (.inl (ok||s[i]==b))) (fun ok=>mJ i ok)
    (fun k hk ok=>by simp only [Vw,Int.ofNat_lt,hk,decide_true,if_true,AN hk,Aa,Bl hk (by omega:more.length≤_),zU,MF];cases ok<;>simp) (fun ok=>by simp [Vw]) (Fi s[i])
   rw [zEi (fun ok b=>ok||s[i]==b) (fun _=>True) (fun _ _ _ _=>trivial) (fun _ _ _ _=>rfl) trivial]at hl;have hf: ∀(l:Af) (ok:Bool),l.foldl (fun ok b=>ok||s[i]==b) ok=(ok||l.contains s[i]):=by
    intro l
    induction l with
    |nil=>intro ok;simp
    |cons c l ih=>intro ok;rw [List.foldl_cons,ih,List.contains_cons,Bool.or_assoc]
   rw [hl,hf];unfold mJ;rw [Bl hi (by omega)];cases(Fi s[i]||more.contains s[i])<;>rfl
  simp only [mK,Int.ofNat_lt,hi,decide_true,if_true,AN hi,Aa];exact Cg
theorem zv3 (l:Af) (c:UInt8):decide (Lib.indexByte l c<0)= !l.contains c:=by
 induction l with
 |nil=>rfl
 |cons b l ih=>
  unfold Lib.indexByte;have ET:=Lib.indexByte_ge l c;rw [List.contains_cons];by_cases hb:b=c
  ·subst hb;simp
  ·have h1:(b==c)=false:=by simpa using hb
   have h2:(c==b)=false:=by simpa using fun h=>hb h.symm
   rw [h1,h2];simp only [AX,if_false,Bool.false_or];rw [←ih];by_cases hm:Lib.indexByte l c= -1
   ·simp [hm]
   ·have h3:(Lib.indexByte l c== -1)=false:=by simpa using hm
    rw [h3];simp only [AX,if_false];rw [decide_eq_decide];omega
theorem qL {s more:Af} (h1:s.length≤2000000):Sd s more=some (Ku s more):=by
 unfold Sd;rw [Kr (xs:=s) (fun b=>Fi b||more.contains b) false (some true) ?_ (by simp [mC])]
 ·unfold Ku;cases(s.all fun b=>Fi b||more.contains b)<;>rfl
 ·intro i hi;have hu:((s[i].toNat:Int)).toNat.toUInt8=s[i]:=by simp
  simp only [mC,Int.ofNat_lt,hi,decide_true,if_true,AN hi,Aa,lU,lZ,Yx,hu,zv3,Bl hi (by omega:s.length≤_)];rw [show((decide ((s[i].toNat:Int)≥97)&&decide ((s[i].toNat:Int)≤122))||(decide ((s[i].toNat:Int)≥48)&&decide ((s[i].toNat:Int)≤57)))=Fi s[i]from rfl];cases Fi s[i]<;>cases more.contains s[i]<;>rfl
def An (s:Af):Bool:=BP s.length 1 12&&Ku s [46,47]
def Gj (s:Af):Bool:=decide ((s.length:Int)≤24)&&Ku s [46,45,44,95]
theorem jJ {s:Af} (h:s.length≤2000000):SH s=some (An s):=by simp only [SH,Iq,Aa,qT h (more:= [46,47]) (by decide),An];cases BP s.length 1 12<;>simp
theorem yT {s:Af} (h:s.length≤2000000):VP s=some (An s):=by simp only [VP,K2,Aa,qL h,An];cases BP s.length 1 12<;>simp
theorem jQ {s:Af} (h:s.length≤2000000):Wg s=some (Gj s):=by simp only [Wg,Aa,qT h (more:= [46,45,44,95]) (by decide),Gj];by_cases hl:(s.length:Int)≤24<;>simp [hl]
theorem zH5 {s:Af} (h:s.length≤2000000):ZH s=some (Gj s):=by simp only [ZH,Aa,qL h,Gj];by_cases hl:(s.length:Int)≤24<;>simp [hl]
def Ir (v:Af) (gone:Bool):Bool:=Gj v&&(!gone||v== [])
theorem zCA {v:Af} {gone:Bool} (h:v.length≤2000000):Zl v gone=some (Ir v gone):=by simp only [Zl,zH5 h,Aa,Ir,bne];cases Gj v<;>cases gone<;>cases(v== [])<;>rfl
theorem zFF {k v:Af} {gone:Bool} (hk:k.length≤2000000) (hv:v.length≤2000000):ZF k v gone=some (An k&&Ir v gone):=by simp only [ZF,jJ hk,jQ hv,Aa,Ir];cases An k<;>simp
def Ju (ks:List Af) (i:Nat):Bool:=i==0||Op.bytesLess ((ks[i-1]?).getD []) ((ks[i]?).getD [])
def K8 (ks:List Af):Bool:=(List.range ks.length).all (Ju ks)
theorem cR: ∀(a b:Af),(Op.bytesLess a b||a==b)= !Op.bytesLess b a
 | [], []=>rfl
 | [],_::_=>rfl
 |_::_, []=>rfl
 |x::a,y::b=>by
  have ih:=cR a b;simp only [Op.bytesLess];rcases Nat.lt_trichotomy x.toNat y.toNat with h|h|h
  ·have h1:x<y:=UInt8.lt_iff_toNat_lt.2 h;have h2: ¬y<x:=fun h'=>by have:=UInt8.lt_iff_toNat_lt.1 h';omega
   have h3: ¬y=x:=fun h'=>by subst h';omega
   simp [h1,h2,h3]
  ·have h0:x=y:=UInt8.toNat_inj.1 h;subst h0;have h1: ¬x<x:=fun h'=>by have:=UInt8.lt_iff_toNat_lt.1 h';omega
   rw [show((x::a)==(x::b))=(a==b) by simp];simp only [h1,decide_false,Bool.false_or,beq_self_eq_true,Bool.true_and];exact ih
  ·have h1: ¬x<y:=fun h'=>by have:=UInt8.lt_iff_toNat_lt.1 h';omega
   have h2:y<x:=UInt8.lt_iff_toNat_lt.2 h;have h3: ¬x=y:=fun h'=>by subst h';omega
   simp [h1,h2,h3]
theorem dC {i:Nat} (h0:0<i) (h:i≤2000000):IntKind.i64.wrap ((i:Int)-1)=((i-1:Nat):Int):=by rw [Bc (by omega) (by omega)];omega
theorem xZ {α:Type} (xs:List α) (p:α→Bool) (q r:Nat→Bool) (h: ∀(i:Nat) (hi:i<xs.length),r i=(p xs[i]&&q i)):(List.range xs.length).all r=(xs.all p&&(List.range xs.length).all q):=by
 rw [←zym xs p (fun i=>match xs[i]? with|some x=>p x|none=>true) fun i hi=>by simp [hi]];rw [Bool.eq_iff_iff];simp only [Ae,AJ,List.mem_range];constructor
 ·intro hr;exact⟨fun i hi=>by have:=hr i hi;rw [h i hi,Ae]at this;simpa [hi]using this.1,fun i hi=>by have:=hr i hi;rw [h i hi,Ae]at this;exact this.2⟩
 ·rintro⟨h1,h2⟩ i hi;rw [h i hi,Ae];exact⟨by have:=h1 i hi;simpa [hi]using this,h2 i hi⟩
theorem zyT {ks:List Af} (h:ks.length≤2000000) (hk: ∀k∈ks,k.length≤2000000):ZB ks=some (ks.all An&&K8 ks):=by
 unfold ZB K8;rw [NS (n:=ks.length) (fun i=>An ((ks[i]?).getD [])&&Ju ks i) false (some true) ?_ (by simp [mH]),xZ ks An (Ju ks) _ fun i hi=>by simp [hi]]
 ·cases(ks.all An&&(List.range ks.length).all (Ju ks))<;>rfl
 ·intro i hi;simp only [mH,Int.ofNat_lt,hi,decide_true,if_true,AN hi,Aa,yT (hk _ (List.getElem_mem hi)),Bl hi (by omega:ks.length≤_),List.getElem?_eq_getElem hi,Option.getD_some,Ju];by_cases h0:i=0
  ·subst h0;cases An ks[0]<;>simp
  ·have hp:(i:Int)>0:=by omega
   have CJ:i-1<ks.length:=by omega
   have hb:(i==0)=false:=by simpa using h0
   simp only [hp,decide_true,if_true,dC (Nat.pos_of_ne_zero h0) (by omega:i≤2000000),AN CJ,Aa,cR,List.getElem?_eq_getElem CJ,Option.getD_some,hb,Bool.false_or];cases An ks[i]<;>cases Op.bytesLess ks[i-1] ks[i]<;>rfl
theorem zzr {l:List Ac} (h:l.length≤2000000):Zz l=some (l.map (·.af)):=by
 have h1:=F7 (xs:=l) (body:=fun s:Int × List Af=>R5 l s.1 s.2) (fun i (o:List Af)=>(i,o)) (fun o w=>o++ [w.af]) (fun o=>some o) (fun q o=>o.length=q)
  (fun i hi o hI=>by
   refine⟨?_,by simp [hI]⟩;show R5 l i o=_;unfold R5;have hr:((o.length:Int)+(([l[i].af]:List Af).length:Int))*16≤140737488355328∧(o.length:Int)+(([l[i].af]:List Af).length:Int)≤140737488355328:=by rw [AH,hI];omega
   rw [if_pos (by simpa using hi),AN hi,Aa,AT hr,Bl hi (by omega)]) (fun o _=>by
   show R5 l l.length o=_;unfold R5;rw [if_neg (by simp)]) (s:= []) rfl
 have hf: ∀(l:List Ac) (o:List Af),l.foldl (fun o w=>o++ [w.af]) o=o++l.map (·.af):=by
  intro l
  induction l with
  |nil=>intro o;simp
  |cons w l ih=>intro o;rw [List.foldl_cons,ih];simp
 have h2:=h1.1;rw [hf,List.nil_append]at h2;unfold Zz;exact h2
def CV (w:Ac):Bool:=An w.af&&Ir w.a7 w.bh
def Kl (l:List Ac):Bool:=decide ((l.length:Int)≤24)&&(l.all CV&&K8 (l.map (·.af)))
def Ld (l:List Ac):Prop:=l.length≤2000000∧ ∀w∈l,w.af.length≤2000000∧w.a7.length≤2000000
theorem zDs {l:List Ac} (h:Ld l):Zd l=some (Kl l):=by
 have e1:FL l (fun y0_=>Y7 y0_)=some (l.any fun w=> !Ir w.a7 w.bh):=Qk _ (fun w hw=>by simp [Y7,zCA (h.2 w hw).2]) (by have:=h.1;omega);have e2:=zyT (ks:=l.map (·.af)) (by simpa using h.1) (by simp only [List.mem_map];rintro k ⟨w,hw,rfl⟩;exact(h.2 w hw).1);simp only [Zd,zzr h.1,e1,e2,Aa,Kl,←List.not_all_eq_any_not];have e3:l.all CV=((l.map (·.af)).all An&&l.all fun w=>Ir w.a7 w.bh):=by
  rw [Bool.eq_iff_iff];simp only [AJ,Ae,CV,List.mem_map];constructor
  ·intro h;exact⟨by rintro k ⟨w,hw,rfl⟩;exact(h w hw).1,fun w hw=>(h w hw).2⟩
  ·rintro⟨h1,h2⟩ w hw;exact⟨h1 _ ⟨w,hw,rfl⟩,h2 w hw⟩
 rw [e3];generalize (l.map (·.af)).all An=b1;generalize K8 (l.map (·.af))=b2;generalize (l.all fun w=>Ir w.a7 w.bh)=b3;by_cases hl:(l.length:Int)≤24<;>cases b1<;>cases b2<;>cases b3<;>simp [hl]
theorem zDC {l:List Ac} (h:Ld l):Zr l=some (Kl l):=by
 unfold Zr;have hn:=h.1;rw [NS (n:=l.length) (fun i=>CV ((l[i]?).getD ⟨[], [],false⟩)&&Ju (l.map (·.af)) i) false (mB l) ?_ (by simp [mT]),xZ l CV (Ju (l.map (·.af))) _ fun i hi=>by simp [hi]]
 ·unfold mB Kl K8;rw [List.length_map];cases(l.all CV&&(List.range l.length).all (Ju (l.map (·.af))))<;>simp
 ·intro i hi;have hm:=h.2 _ (List.getElem_mem hi);simp only [mT,Int.ofNat_lt,hi,decide_true,if_true,AN hi,Aa,zFF hm.1 hm.2,Bl hi (by omega:l.length≤_),List.getElem?_eq_getElem hi,Option.getD_some,Ju,List.getElem?_map,Option.map_some];rw [show(An l[i].af&&Ir l[i].a7 l[i].bh)=CV l[i]from rfl];by_cases h0:i=0
  ·subst h0;cases CV l[0]<;>simp
  ·have hp:(i:Int)>0:=by omega
   have CJ:i-1<l.length:=by omega
   have hb:(i==0)=false:=by simpa using h0
   simp only [hp,decide_true,if_true,dC (Nat.pos_of_ne_zero h0) (by omega:i≤2000000),AN CJ,Aa,List.getElem?_eq_getElem CJ,Option.map_some,Option.getD_some,hb,Bool.false_or];cases CV l[i]<;>cases Op.bytesLess l[i-1].af l[i].af<;>rfl
def BZ (l:List Ac):Bool:=Kl l&&l.all fun w=> !w.bh
theorem zGQ {l:List Ac} (h:Ld l):aP l=some (BZ l):=by have e1:FL l (fun y0_=>ZJ y0_)=some (l.any fun w=> !!w.bh):=Qk _ (fun w hw=>by simp [ZJ]) (by have:=h.1;omega);simp only [aP,zDs h,e1,Aa,BZ,←List.not_all_eq_any_not];cases Kl l<;>simp
theorem Ql {l:List Ac} (h:Ld l):KV l=some (BZ l):=by
 have hn:=h.1;unfold KV;rw [Kr (xs:=l) (fun w=> !w.bh) false (nB l) (fun i hi=>by simp only [nA,Int.ofNat_lt,hi,decide_true,if_true,AN hi,Aa,Bl hi (by omega:l.length≤_)];cases l[i].bh<;>rfl) (by simp [nA])]
 simp only [nB,zDC h,Aa,BZ];cases(l.all fun w=> !w.bh)<;>simp
def small (b:UInt8):Bool:= !(decide ((b.toNat:Int)<97)||decide ((b.toNat:Int)>122))
def CG (s:Af) (n:Int):Bool:=s.all small&&BP s.length 1 n
theorem qJ {s:Af} {n:Int} (h:s.length≤2000000):RV s n=some (CG s n):=by
 unfold RV;rw [Kr (xs:=s) small false (lP s n) (fun i hi=>by simp only [lV,Int.ofNat_lt,hi,decide_true,if_true,AN hi,Aa,Bl hi (by omega:s.length≤_)];rw [show(decide ((s[i].toNat:Int)<97)||decide ((s[i].toNat:Int)>122))= !small s[i] by simp [small]];cases small s[i]<;>rfl) (by simp [lV])]
 unfold lP CG BP;cases s.all small<;>simp
theorem pZ {s:Af} {n:Int} (h:s.length≤2000000):RU s n=some (CG s n):=by
 unfold RU;rw [Kr (xs:=s) small false (lQ s n) (fun i hi=>by simp only [lS,Int.ofNat_lt,hi,decide_true,if_true,AN hi,Aa,Bl hi (by omega:s.length≤_)];rw [show(decide ((s[i].toNat:Int)<97)||decide ((s[i].toNat:Int)>122))= !small s[i] by simp [small]];cases small s[i]<;>rfl) (by simp [lS])]
 simp only [lQ,K2,Aa,CG];cases s.all small<;>simp
theorem kC {xs:List Af} {s:Af} (h:xs.length≤2000000):P2 xs s=some (BH (· ==s) xs):=by unfold P2;refine rX (· ==s) (fun i hi=> ?_) (by simp [nI]);simp only [nI,Int.ofNat_lt,hi,decide_true,if_true,AN hi,Aa,Bl hi (by omega:xs.length≤_)];cases xs[i]==s<;>rfl
theorem zEg {xs:List Af} {s:Af} (h:xs.length≤2000000):Yw xs s=some (BH (· ==s) xs):=by unfold Yw;refine rX (· ==s) (fun i hi=> ?_) (by simp [kY]);simp only [kY,Int.ofNat_lt,hi,decide_true,if_true,AN hi,Aa,Bl hi (by omega:xs.length≤_)];rw [show(s==xs[i])=(xs[i]==s)from BEq.comm];cases xs[i]==s<;>rfl
theorem X9 (xs:List Af) (s:Af):(xs.any fun x=>x==s)=xs.contains s:=by rw [List.contains_eq_any_beq];congr 1;funext x;exact BEq.comm
theorem jK {xs:List Af} {s:Af} (h:xs.length≤2000000):PB xs s=some (xs.contains s):=by simp only [PB,zEg h,Aa,NY,X9]
def Og (cs:List Af) (i:Nat):Bool:=CG ((cs[i]?).getD []) 3&& !(cs.take i).contains ((cs[i]?).getD [])
def Li (cs:List Af):Bool:=(List.range cs.length).all (Og cs)
def HT (t:Ad) (i:Nat):Bool:=
 let x:=(t.ah[i]?).getD ⟨[],0,0⟩
 CG x.ab 1&&BP x.bj 1 ((t.ar.length:Int)-1)&&BP x.aq 0 3&&(i==0||Op.bytesLess ((t.ah[i-1]?).getD ⟨[],0,0⟩).ab x.ab)
def A0 (t:Ad):Bool:=CG t.ab 1&&(Li t.ar&&BP t.ar.length 2 4)&&decide ((t.ah.length:Int)≤3)&&(List.range t.ah.length).all (HT t)
structure Di (t:Ad):Prop where
 name:t.ab.length≤2000000
 ig:t.ar.length≤2000000
 lr: ∀c∈t.ar,c.length≤2000000
 idxs:t.ah.length≤2000000
 idx: ∀x∈t.ah,x.ab.length≤2000000
theorem Ps {α:Type} (xs:List α) (i:Nat):Bn xs 0 i=xs.take i:=by simp [Bn]
theorem zHi {cs:List Af} (h:cs.length≤2000000) (hc: ∀c∈cs,c.length≤2000000):Z3 cs=some (Li cs&&BP cs.length 2 4):=by
 unfold Z3;rw [NS (n:=cs.length) (Og cs) false (mO cs) ?_ (by simp [mQ])]
 ·simp only [mO,Iq,Aa,Li];cases(List.range cs.length).all (Og cs)<;>simp
 ·intro i hi;unfold mQ Og;rw [if_pos (by simpa using hi),AN hi,Aa,qJ (hc _ (List.getElem_mem hi)),Aa,AT (by omega),Ps,kC (by rw [List.length_take];omega),Aa,NY,X9,Bl hi (by omega)];simp only [List.getElem?_eq_getElem hi,Option.getD_some];cases CG cs[i] 3<;>cases(cs.take i).contains cs[i]<;>rfl
theorem Qd {t:Ad} (h:Di t):L5 t=some (A0 t):=by
 have hw:=Bc (n:=(t.ar.length:Int)-1) (by omega) (by have:=h.ig;omega);have hn:=h.idxs;have hl:AA (fun s:Int=>Y9 t s) 0=some ((List.range t.ah.length).all (HT t)):=by
  rw [NS (n:=t.ah.length) (HT t) false (some true) ?_ (by simp [Y9])]
  ·cases(List.range t.ah.length).all (HT t)<;>rfl
  ·intro i hi;unfold HT;simp only [Y9,Int.ofNat_lt,hi,decide_true,if_true,AN hi,Aa,qJ (h.idx _ (List.getElem_mem hi)),Iq,hw,Bl hi (by omega:t.ah.length≤_),List.getElem?_eq_getElem hi,Option.getD_some];by_cases h0:i=0
   ·subst h0;cases CG t.ah[0].ab 1<;>cases BP t.ah[0].bj 1 ((t.ar.length:Int)-1)<;>cases BP t.ah[0].aq 0 3<;>rfl
   ·have hp:(i:Int)>0:=by omega
    have CJ:i-1<t.ah.length:=by omega
    have hb:(i==0)=false:=by simpa using h0
    simp only [hp,decide_true,if_true,dC (Nat.pos_of_ne_zero h0) (by omega:i≤2000000),AN CJ,Aa,List.getElem?_eq_getElem CJ,Option.getD_some,hb,Bool.false_or];cases CG t.ah[i].ab 1<;>cases BP t.ah[i].bj 1 ((t.ar.length:Int)-1)<;>cases BP t.ah[i].aq 0 3<;>cases Op.bytesLess t.ah[i-1].ab t.ah[i].ab<;>rfl
 unfold L5 A0;rw [qJ h.name,Aa,zHi h.ig h.lr,hl];by_cases hk:(t.ah.length:Int)≤3
 ·have B0: ¬(t.ah.length:Int)>3:=by omega
  simp only [hk,B0,decide_true,decide_false,Bool.or_false,Bool.and_true];cases CG t.ab 1<;>cases(Li t.ar&&BP t.ar.length 2 4)<;>simp
 ·have B0:(t.ah.length:Int)>3:=by omega
  simp only [hk,B0,decide_true,decide_false,Bool.or_true,Bool.and_false,Bool.false_and];cases CG t.ab 1<;>simp
theorem zEH {t:Ad} (h:Di t):Zs t=some (A0 t):=by
 have hw:=Bc (n:=(t.ar.length:Int)-1) (by omega) (by have:=h.ig;omega);have hn:=h.idxs;have hm:=h.ig;have hl:AA (fun s:Int=>Zb t s) 0=some ((List.range t.ah.length).all (HT t)):=by
  rw [NS (n:=t.ah.length) (HT t) false (some true) ?_ (by simp [Zb])]
  ·cases(List.range t.ah.length).all (HT t)<;>rfl
  ·intro i hi;unfold HT;simp only [Zb,nW,Int.ofNat_lt,hi,decide_true,if_true,AN hi,Aa,pZ (h.idx _ (List.getElem_mem hi)),K2,hw,Bl hi (by omega:t.ah.length≤_),List.getElem?_eq_getElem hi,Option.getD_some];by_cases h0:i=0
   ·subst h0;cases CG t.ah[0].ab 1<;>cases BP t.ah[0].bj 1 ((t.ar.length:Int)-1)<;>cases BP t.ah[0].aq 0 3<;>rfl
   ·have hp:(i:Int)>0:=by omega
    have CJ:i-1<t.ah.length:=by omega
    have hb:(i==0)=false:=by simpa using h0
    simp only [hp,decide_true,if_true,dC (Nat.pos_of_ne_zero h0) (by omega:i≤2000000),AN CJ,Aa,List.getElem?_eq_getElem CJ,Option.getD_some,hb,Bool.false_or,cR];cases CG t.ah[i].ab 1<;>cases BP t.ah[i].bj 1 ((t.ar.length:Int)-1)<;>cases BP t.ah[i].aq 0 3<;>cases Op.bytesLess t.ah[i-1].ab t.ah[i].ab<;>rfl
 have hc:AA (fun s:Int=>Y6 t s) 0=some (Li t.ar&&(List.range t.ah.length).all (HT t)):=by
  rw [NS (n:=t.ar.length) (Og t.ar) false (mG t) ?_ (by simp [Y6])]
  ·unfold mG Li;rw [hl];cases(List.range t.ar.length).all (Og t.ar)<;>simp
  ·intro i hi;unfold Y6 Og;rw [if_pos (by simpa using hi),AN hi,Aa,pZ (h.lr _ (List.getElem_mem hi)),Aa,AT (by omega),Ps,jK (by rw [List.length_take];omega),Aa,Bl hi (by omega)];simp only [List.getElem?_eq_getElem hi,Option.getD_some];cases CG t.ar[i] 3<;>cases(t.ar.take i).contains t.ar[i]<;>rfl
 unfold Zs A0;rw [pZ h.name,Aa,K2,Aa,hc];by_cases hk:(t.ah.length:Int)≤3
 ·have B0: ¬(t.ah.length:Int)>3:=by omega
  simp only [hk,B0,decide_true,decide_false,Bool.or_false,Bool.and_true];cases CG t.ab 1<;>cases Li t.ar<;>cases BP t.ar.length 2 4<;>simp
 ·have B0:(t.ah.length:Int)>3:=by omega
  simp only [hk,B0,decide_true,decide_false,Bool.or_true,Bool.and_false,Bool.false_and];cases CG t.ab 1<;>simp
theorem Jx {t:Ad} {s:Af} (h:Di t):GO t s=some (BH (fun x:At=>x.ab==s) t.ah):=by have hn:=h.idxs;unfold GO;refine rX (fun x:At=>x.ab==s) (fun i hi=> ?_) (by simp [mX]);simp only [mX,Int.ofNat_lt,hi,decide_true,if_true,AN hi,Aa,Bl hi (by omega:t.ah.length≤_)];cases t.ah[i].ab==s<;>rfl
theorem Xe {t:Ad} {s:Af} (h:Di t):RP t s=some (BH (fun x:At=>x.ab==s) t.ah):=by have hn:=h.idxs;have e:Fc t.ah (fun y0_=>lN y0_ s)=some (BH (fun x:At=>x.ab==s) t.ah):=zyp (fun x:At=>x.ab==s) (fun x _=>rfl) (by omega);simp only [RP,e,Aa]
def B3 (c:UInt8):Af→List Af
 | []=> [[]]
 |b::s=>if b=c then []::B3 c s else(match B3 c s with| []=> [[b]]|x::xs=>(b::x)::xs)
theorem qW (c:UInt8) (s:Af):B3 c s≠ []:=by
 cases s with
 |nil=>simp [B3]
 |cons b s=>simp only [B3];split;simp;split<;>simp
theorem Ma {c:UInt8}: ∀{s:Af},(∀b∈s,b≠c)→B3 c s= [s]
 | [],_=>rfl
 |b::s,h=>by have e:=Ma (c:=c) (s:=s) fun x hx=>h x (List.mem_cons_of_mem _ hx);simp only [B3,if_neg (h b (by simp)),e]
theorem NR {c:UInt8}: ∀{p q:Af},(∀b∈p,b≠c)→B3 c (p++c::q)=p::B3 c q
 | [],q,_=>by simp [B3]
 |b::p,q,h=>by have e:=NR (c:=c) (p:=p) (q:=q) fun x hx=>h x (List.mem_cons_of_mem _ hx);simp only [List.cons_append,B3,if_neg (h b (by simp)),e]
theorem bO (c:UInt8) (s:Af):(B3 c s).length=s.count c+1:=by
 induction s with
 |nil=>rfl
 |cons b s ih=>
  simp only [B3];by_cases h:b=c
  ·subst h;simp [ih]
  ·rw [if_neg h,List.count_cons_of_ne h];cases hs:B3 c s with
   |nil=>exact absurd hs (qW c s)
   |cons x xs=>rw [hs]at ih;simpa using ih
theorem Px {α:Type} (xs:List α) (i j:Nat):Bn xs (i:Int) (j:Int)=(xs.take j).drop i:=by simp [Bn]
def Yr (c:UInt8) (s:Af) (t:List Af × Nat) (i:Nat):List Af × Nat:=if(s[i]?).getD 0=c then(t.1++ [(s.take i).drop t.2],i+1)else t
theorem zz4 {s:Af} {c:UInt8} (h:s.length≤2000000):PW s c.toNat=some (B3 c s):=by
 have h1:=F7 (xs:=List.range s.length) (body:=fun t:List Af × Int × Int=>RX s c.toNat t.1 t.2.1 t.2.2) (fun i (t:List Af × Nat)=>(t.1,(t.2:Int),i)) (Yr c s) (fun t=>mL s t.2 t.1)
  (fun i t=>t.2≤i∧(∀b∈(s.take i).drop t.2,b≠c)∧t.1++B3 c (s.drop t.2)=B3 c s∧t.1.length≤i)
  (fun i hi t hI=>by
   rw [List.length_range]at hi;obtain⟨I1,I2,I3,I4⟩:=hI;have hw:=Bl hi (by omega:s.length≤_);rw [List.getElem_range];constructor
   ·show RX s c.toNat t.1 t.2 i=_;unfold RX Yr;rw [if_pos (by simpa using hi),AN hi,Aa,zU,hw,Px,List.getElem?_eq_getElem hi,Option.getD_some];by_cases hc:s[i]=c
    ·have hr:((t.1.length:Int)+(([(s.take i).drop t.2]:List Af).length:Int))*16≤140737488355328∧(t.1.length:Int)+(([(s.take i).drop t.2]:List Af).length:Int)≤140737488355328:=by
      rw [AH];omega
     rw [if_pos (by simpa using hc),AT (by omega),AT hr,if_pos hc]
    ·rw [if_neg (by simpa using hc),if_neg hc]
   ·unfold Yr;rw [List.getElem?_eq_getElem hi,Option.getD_some];have Cm:s.take (i+1)=s.take i++ [s[i]]:=by rw [List.take_succ_eq_append_getElem hi]
    have hd:(s.take (i+1)).drop t.2=(s.take i).drop t.2++ [s[i]]:=by rw [Cm,List.drop_append_of_le_length (by rw [List.length_take];omega)]
    by_cases hc:s[i]=c
    ·rw [if_pos hc];refine⟨Nat.le_refl _,by simp, ?_,by simp;omega⟩;have e:s.drop t.2=(s.take i).drop t.2++c::s.drop (i+1):=by
      have e0:s.drop t.2=(s.take i).drop t.2++s.drop i:=by
       conv=>lhs;rw [←List.take_append_drop i s]
       rw [List.drop_append_of_le_length (by rw [List.length_take];omega)]
      rw [e0,List.drop_eq_getElem_cons hi,hc]
     rw [e,NR I2]at I3;simpa using I3
    ·rw [if_neg hc];refine⟨by omega, ?_,I3,by omega⟩;rw [hd];intro b hb;rcases Ai.1 hb with hb|hb
     ·exact I2 b hb
     ·simp at hb;subst hb;exact hc)
  (fun t hI=>by show RX s c.toNat t.1 t.2 ((List.range s.length).length:Nat)=_;unfold RX;rw [if_neg (by simp)]) (s:=([],0)) ⟨Nat.le_refl _,by simp,by simp,by simp⟩
 generalize (List.range s.length).foldl (Yr c s) ([],0)=t at h1;rw [List.length_range]at h1;obtain⟨h2,I1,I2,I3,I4⟩:=h1;unfold PW;refine Eq.trans h2 ?_;unfold mL;have hw:Bn s (t.2:Int) (s.length:Int)=s.drop t.2:=by rw [Px,List.take_length]
 have hr:((t.1.length:Int)+(([s.drop t.2]:List Af).length:Int))*16≤140737488355328∧(t.1.length:Int)+(([s.drop t.2]:List Af).length:Int)≤140737488355328:=by rw [AH];omega
 rw [hw,AT (by omega),AT hr,←I3];rw [List.take_length]at I2;rw [Ma I2]
theorem ZO (l:Af) (c:UInt8):(Lib.indexByte l c= -1∧ ∀b∈l,b≠c)∨ ∃p q:Af,l=p++c::q∧(∀b∈p,b≠c)∧Lib.indexByte l c=p.length:=by
 induction l with
 |nil=>exact .inl ⟨rfl,by simp⟩
 |cons b l ih=>
  unfold Lib.indexByte;by_cases hb:b=c
  ·subst hb;exact .inr ⟨[],l,by simp,by simp,by simp⟩
  ·have h1:(b==c)=false:=by simpa using hb
   rw [h1];simp only [AX,if_false];rcases ih with⟨e,h⟩|⟨p,q,rfl,h,e⟩
   ·refine .inl ⟨by simp [e],fun x hx=> ?_⟩;rcases Ag.1 hx with rfl|hx
    ·exact hb
    ·exact h x hx
   ·refine .inr ⟨b::p,q,by simp,fun x hx=> ?_, ?_⟩
    ·rcases Ag.1 hx with rfl|hx
     ·exact hb
     ·exact h x hx
    ·rw [e];have:((p.length:Int)== -1)=false:=by rw [beq_eq_false_iff_ne];omega
     rw [this];simp
theorem zvk {c:UInt8} {s:Af} (h: ∀b∈s,b≠c):s.count c=0:=List.count_eq_zero.2 fun hc=>h c hc rfl
theorem zFx {c:UInt8} {p q:Af} (h: ∀b∈p,b≠c):(p++c::q).count c=q.count c+1:=by rw [List.count_append,zvk h,List.count_cons_self];omega
theorem zw8 {α:Type} {a:List α} {i:Nat} (x:α) (h:i<a.length):(a.set i x).take (i+1)=a.take i++ [x]:=by rw [List.take_succ_eq_append_getElem (by simpa using h),List.getElem_set_self,List.take_set,List.set_eq_of_length_le (by rw [List.length_take];omega)]
theorem zIz {a b:Int} (h: ¬a<b):(bif decide (a<b)then a else b)=b:=by simp [h]
theorem zEz {s:Af} {c:UInt8} (h:s.length≤2000000):VV s [c]=some (B3 c s):=by
 have AG:s.count c≤s.length:=List.count_le_length;have GJ:IntKind.i64.wrap ((s.count c:Int)+1)=(s.count c:Int)+1:=Bc (by omega) (by omega);have F1:IntKind.i64.wrap ((s.length:Int)+1)=(s.length:Int)+1:=Bc (by omega) (by omega);have OB:(bif decide ((s.length:Int)+1<(s.count c:Int)+1)then(s.length:Int)+1 else(s.count c:Int)+1)=(s.count c:Int)+1:=zIz (by omega);have u3:IntKind.i64.wrap ((s.count c:Int)+1-1)=(s.count c:Int):=by rw [Bc (by omega) (by omega)];omega
 have key: ∀(n:Nat) (r:Af) (a:List Af) (i:Nat),r.count c=n→r.length≤s.length→a.length=s.count c+1→i+n=s.count c→a.take i++B3 c r=B3 c s→
   AA (fun t:Af × Int × List Af=>RR s [c] 0 ((s.count c:Int)+1) t.1 t.2.1 t.2.2) (r,(i:Int),a)=some (B3 c s):=by
  intro n
  induction n with
  |zero=>
   intro r a i hr hl ha hi hI;have G3: ∀b∈r,b≠c:=fun b hb e=>by subst e;exact List.count_eq_zero.1 hr hb
   have OP:i<a.length:=by omega
   have iO:=Bl OP (by omega);have hb:RR s [c] 0 ((s.count c:Int)+1) r i a=some (.inr (some (B3 c s))):=by unfold RR;rw [F1,OB,u3,if_neg (by simp;omega)];unfold lX;rw [AN OP,Aa,iO,Int.toNat_natCast,AT (by rw [List.length_set];omega),Ps,zw8 r OP,←hI,Ma G3]
   rw [Fx];dsimp only;rw [hb]
  |succ n ih=>
   intro r a i hr hl ha hi hI;rcases ZO r c with⟨_,h0⟩|⟨p,q,rfl,hp,hx⟩
   ·rw [zvk h0]at hr;omega
   ·rw [zFx hp]at hr;have OP:i<a.length:=by omega
    have iO:=Bl OP (by omega);simp only [Ar,Ao]at hl;have LR:IntKind.i64.wrap ((p.length:Int)+0)=(p.length:Int):=by rw [Bc (by omega) (by omega)];omega
    have Fb:IntKind.i64.wrap ((p.length:Int)+(([c]:Af).length:Int))=((p.length+1:Nat):Int):=by rw [AH,Bc (by omega) (by omega)];omega
    have hb:RR s [c] 0 ((s.count c:Int)+1) (p++c::q) i a=some (.inl (q,((i+1:Nat):Int),a.set i p)):=by
     unfold RR;have JV:Zm (p++c::q) [c]=some (p.length:Int):=by simp [Zm,Rz,hx]
     rw [F1,OB,u3,if_pos (by simp;omega),JV,Aa,if_neg (by simp),LR,AT (by rw [Ar];omega),AN OP,Aa,Fb,AT (by rw [Ar,Ao];omega),iO,Int.toNat_natCast,Px,Ps,List.take_length];have e1:(p++c::q).drop (p.length+1)=q:=by simp
     have e2:(p++c::q).take p.length=p:=by simp
     rw [e1,e2]
    rw [Fx];dsimp only;rw [hb];refine ih q (a.set i p) (i+1) (by omega) (by omega) (by simpa using ha) (by omega) ?_;rw [zw8 p OP,←hI,NR hp];simp
 have BX:Zp s [c]=some ((s.count c:Nat):Int):=rfl;have hz:(((-1:Int))==0)=false:=rfl;have A2:(([c]:Af)==([]:Af))=false:=rfl;unfold VV mR;rw [hz,A2,if_neg (by simp),if_neg (by simp),if_pos (by simp),BX,Aa,GJ];unfold lT;rw [F1,OB,AT (by omega)];exact Gi (key (s.count c) s (List.replicate ((s.count c:Int)+1).toNat []) 0 rfl (Nat.le_refl _) (by simp) (by omega) (by simp))
def field (s:Af):Bool:=BP s.length 1 3&&Ku s []
theorem sG {s:Af} (h:s.length≤2000000):Sz s=some (field s):=by simp only [Sz,Iq,Aa,qT h (more:= []) (by decide),field];cases BP s.length 1 3<;>simp
theorem cS {s:Af} (h:s.length≤2000000):Sw s=some (field s):=by simp only [Sw,K2,Aa,qL h,field];cases BP s.length 1 3<;>simp
theorem zBW (sep x y:Af) (r:List Af):Lib.join (x::(r++ [y])) sep=Lib.join (x::r) sep++sep++y:=by rw [Lib.join_cons,Lib.join_cons];simp [Lib.joinTail]
theorem zCy {xs:List Af} {sep:Af} {i:Nat} (hi:i<xs.length):Lib.join (xs.take (i+1)) sep=if i=0 then xs[i]else Lib.join (xs.take i) sep++sep++xs[i]:=by
 rw [List.take_succ_eq_append_getElem hi];cases xs with
 |nil=>simp at hi
 |cons x xs=>
  cases i with
  |zero=>simp [Lib.join_cons,Lib.joinTail]
  |succ i=>rw [List.take_succ_cons,List.cons_append,zBW,if_neg (by omega)]
def Ez:List Af→Nat
 | []=>0
 |x::xs=>x.length+Ez xs
theorem sI (xs:List Af) (sep:Af):(Lib.join xs sep).length≤Ez xs+xs.length*sep.length:=by
 cases xs with
 |nil=>simp [Lib.join_nil]
 |cons x xs=>
  rw [Lib.join_cons,Ar];have: ∀r:List Af,(Lib.joinTail sep r).length=Ez r+r.length*sep.length:=by
   intro r
   induction r with
   |nil=>simp [Lib.joinTail,Ez]
   |cons y r ih=>
    have e:Lib.joinTail sep (y::r)=sep++y++Lib.joinTail sep r:=by simp [Lib.joinTail]
    rw [e,Ar,Ar,ih,Ez,Ao,Nat.succ_mul];omega
  rw [this,Ez,Ao,Nat.succ_mul];omega
theorem zzt (xs:List Af) (i:Nat):Ez (xs.take i)≤Ez xs:=by
 induction xs generalizing i with
 |nil=>simp [Ez]
 |cons x xs ih=>
  cases i with
  |zero=>simp [Ez]
  |succ i=>simp only [List.take_succ_cons,Ez];have:=ih i;omega
theorem zu7 {xs:List Af} {i:Nat} (hi:i<xs.length):xs[i].length≤Ez xs:=by
 induction xs generalizing i with
 |nil=>simp at hi
 |cons x xs ih=>
  cases i with
  |zero=>simp [Ez]
  |succ i=>simp only [List.getElem_cons_succ,Ez];have:=ih (i:=i) (by simpa using hi);omega
def Small (xs:List Af):Prop:=xs.length≤2000000∧Ez xs≤2000000
theorem zHt {xs:List Af} {c:UInt8} (h:Small xs):oA xs [c]=some (Lib.join xs [c]):=by
 obtain⟨h1,h2⟩:=h;have hl:=F7 (xs:=List.range xs.length) (body:=fun s:Af × Int=>Sh xs [c] s.1 s.2) (fun i (o:Af)=>(o,i)) (fun o i=>if i=0 then(xs[i]?).getD []else o++ [c]++(xs[i]?).getD []) (fun o=>some o) (fun i o=>o=Lib.join (xs.take i) [c])
  (fun i hi o hI=>by
   rw [List.length_range]at hi;rw [List.getElem_range];have hI:o=Lib.join (xs.take i) [c]:=hI;have hlen:o.length≤1010000000:=by have e1:=sI (xs.take i) [c];have e2:=zzt xs i;rw [List.length_take,AH,Nat.mul_one]at e1;rw [hI];omega
   have hg:=zu7 hi;have hw:=Bl hi (by omega:xs.length≤_);rw [List.getElem?_eq_getElem hi,Option.getD_some];refine⟨?_,by show _=_;rw [zCy hi,hI]⟩;show Sh xs [c] o i=_;unfold Sh;rw [if_pos (by simpa using hi),AN hi,Aa,hw];by_cases h0:i=0
   ·subst h0;have ho:o= []:=by rw [hI];rfl
    subst ho;rw [if_neg (by simp),AT (by simp;omega),if_pos rfl];rfl
   ·rw [if_pos (by simp;omega),AT (by rw [AH];omega),AT (by rw [Ar,AH];omega),if_neg h0])
  (fun o _=>by show Sh xs [c] o ((List.range xs.length).length:Nat)=_;unfold Sh;rw [if_neg (by simp)]) (s:= []) (by simp [Lib.join_nil])
 generalize (List.range xs.length).foldl (fun o i=>if i=0 then(xs[i]?).getD []else o++ [c]++(xs[i]?).getD []) []=o at hl;obtain⟨h3,h4⟩:=hl;have h4:o=Lib.join (xs.take (List.range xs.length).length) [c]:=h4;rw [List.length_range,List.take_length]at h4;subst h4;exact h3
theorem zGt {xs:List Af} {c:UInt8} (h:Small xs):Z7 xs [c]=some (Lib.join xs [c]):=by obtain⟨h1,h2⟩:=h;have:=sI xs [c];rw [AH,Nat.mul_one]at this;exact AT ⟨by omega,by omega⟩
theorem Small.each {xs:List Af} (h:Small xs): ∀x∈xs,x.length≤2000000:=by intro x hx;obtain⟨i,hi,rfl⟩:=List.getElem_of_mem hx;exact Nat.le_trans (zu7 hi) h.2
def Bd (t:Ad) (r:AD):Bool:=((r.ax.length:Int)==t.ar.length)&&r.ax.all field
theorem Wp {t:Ad} {r:AD} (h:Small r.ax):NH t r=some (Bd t r):=by
 have h1:=h.1;unfold NH;rw [Kr (xs:=r.ax) field false (mN t r) (fun i hi=>by simp only [mM,Int.ofNat_lt,hi,decide_true,if_true,AN hi,Aa,sG (h.each _ (List.getElem_mem hi)),Bl hi (by omega:r.ax.length≤_)];cases field r.ax[i]<;>rfl) (by simp [mM])]
 unfold mN Bd;cases r.ax.all field<;>simp
theorem Wo {t:Ad} {r:AD} (h:Small r.ax):Ny t r=some (Bd t r):=by have e:FL r.ax (fun y0_=>Y2 y0_)=some (r.ax.any fun s=> !field s):=Qk _ (fun s hs=>by simp [Y2,cS (h.each s hs)]) (by have:=h.1;omega);simp only [Ny,e,Aa,Bd,←List.not_all_eq_any_not];cases((r.ax.length:Int)==t.ar.length)<;>simp
def AQ (t:Ad) (r:AD):Ac:=⟨t.ab++ [47]++(r.ax.head?).getD [],Lib.join r.ax.tail [44],false⟩
theorem kO {α:Type} (xs:List α):Bn xs 1 (xs.length:Int)=xs.tail:=by simp [Bn]
theorem Small.tail {xs:List Af} (h:Small xs):Small xs.tail:=by
 cases xs with
 |nil=>exact h
 |cons x xs=>exact⟨by have:=h.1;simp at this ⊢;omega,by have:=h.2;simp only [Ez,List.tail_cons]at this ⊢;omega⟩
theorem K5 {t:Ad} {r:AD} (ht:t.ab.length≤2000000) (h:Small r.ax) (hn:r.ax≠ []):IN t r=some (AQ t r):=by obtain⟨x,xs,hx⟩:=List.exists_cons_of_ne_nil hn;have Jj:x.length≤2000000:=h.each x (by simp [hx]);unfold IN AQ;rw [AT (by rw [AH];omega),kO,zHt h.tail,hx];rw [show getI (x::xs) 0=some x from rfl,Aa,AT (by rw [Ar,AH];omega),AT (by simp only [Ao];omega),Aa];rfl
theorem N5 {t:Ad} {r:AD} (ht:t.ab.length≤2000000) (h:Small r.ax) (hn:r.ax≠ []):L0 t r=some (AQ t r):=by obtain⟨x,xs,hx⟩:=List.exists_cons_of_ne_nil hn;have Jj:x.length≤2000000:=h.each x (by simp [hx]);unfold L0 AQ;rw [AT (by rw [AH];omega),kO,zGt h.tail,hx];rw [show getI (x::xs) 0=some x from rfl,Aa,AT (by rw [Ar,AH];omega),AT (by simp only [Ao];omega),Aa];rfl
theorem zrg (c:UInt8) (s:Af):Ez (B3 c s)≤s.length:=by
 induction s with
 |nil=>simp [B3,Ez]
 |cons b s ih=>
  simp only [B3];split
  ·simp only [Ez,List.length_nil,Ao];omega
  ·cases hs:B3 c s with
   |nil=>exact absurd hs (qW c s)
   |cons x xs=>rw [hs]at ih;simp only [Ez,Ao]at ih ⊢;omega
theorem zzc {c:UInt8} {s:Af} (h:s.length≤1000000):Small (B3 c s):=by have h1:=bO c s;have h2:s.count c≤s.length:=List.count_le_length;have h3:=zrg c s;exact⟨by omega,by omega⟩
theorem zJ {s p:Af} (hs:s.length≤2000000):Vz s p=some (if p.isPrefixOf s=true then(s.drop p.length,true)else(s,false)):=by
 have e:Yy s p=some (p.isPrefixOf s):=by
  unfold Yy;by_cases hl:p.length≤s.length
  ·rw [if_pos (by simpa using hl),AT (by omega),Ps];congr 1;rw [Bool.eq_iff_iff,beq_iff_eq,List.isPrefixOf_iff_prefix,List.prefix_iff_eq_take];exact eq_comm
  ·rw [if_neg (by simpa using hl)];congr 1;symm;rw [←Bool.not_eq_true,List.isPrefixOf_iff_prefix];intro h;exact hl h.length_le
 unfold Vz lA;rw [e,Aa];cases hp:p.isPrefixOf s with
 |false=>simp
 |true=>have hl:=(List.isPrefixOf_iff_prefix.1 hp).length_le;simp only [Bool.not_true,AX,if_false,if_true];rw [AT (by omega),Px,List.take_length];rfl
def KB (a b:Ac):Bool:=a.af==b.af&&(a.a7==b.a7&&(a.bh==b.bh))
theorem zBk (a b:Ac):KB a b=KB b a:=by unfold KB;rw [show(a.af==b.af)=(b.af==a.af)from BEq.comm,show(a.a7==b.a7)=(b.a7==a.a7)from BEq.comm,show(a.bh==b.bh)=(b.bh==a.bh)from BEq.comm]
theorem zCD {a b:Ac} (h:KB a b=true):a.af=b.af:=by unfold KB at h;simp only [Ae,beq_iff_eq]at h;exact h.1
def B5 (w:Ac):AD:=⟨w.af.drop 2::B3 44 w.a7⟩
def Co (t:Ad) (w:Ac):Bool:=Bd t (B5 w)&&KB (AQ t (B5 w)) w
def FQ (w:Ac):Prop:=w.af.length≤1000∧w.a7.length≤1000
theorem pD {w:Ac} (h:FQ w):Small (B5 w).ax:=by
 have h1:=bO 44 w.a7;have h2:w.a7.count 44≤w.a7.length:=List.count_le_length;have h3:=zrg 44 w.a7;obtain⟨k,v⟩:=h;refine⟨?_, ?_⟩
 ·show(w.af.drop 2::B3 44 w.a7).length≤_;rw [Ao];omega
 ·show Ez (w.af.drop 2::B3 44 w.a7)≤_;rw [Ez,List.length_drop];omega
theorem zCJ {t:Ad} {w:Ac} (h:Bd t (B5 w)=true):3≤w.af.length:=by unfold Bd B5 at h;simp only [Ae,List.all_cons,field,B7,List.length_drop]at h;omega
theorem zGV {t:Ad} {w:Ac} (ht:t.ab.length≤2000000) (h:FQ w): ∃r,ZE t w=some (r,Co t w)∧(Co t w=true→r=B5 w):=by
 have hs:=pD h;have Ji:=bO 44 w.a7;have OE:w.a7.count 44≤w.a7.length:=List.count_le_length;obtain⟨hk,hv⟩:=h;unfold ZE;by_cases h3:w.af.length<3
 ·rw [if_pos (by simp;omega)];have:Co t w=false:=by
   unfold Co;cases hg:Bd t (B5 w)with
   |false=>rfl
   |true=>have:=zCJ hg;omega
  exact⟨_,by rw [this],by rw [this];intro h;cases h⟩
 ·have hw:Bn w.af 2 (w.af.length:Int)=w.af.drop 2:=by
   have:=Px w.af 2 w.af.length;rw [List.take_length]at this;exact this
  have HD:PW w.a7 44=some (B3 44 w.a7):=zz4 (c:=44) (by omega);have hr:(([w.af.drop 2]:List Af).length+(B3 44 w.a7).length:Int)*16≤140737488355328∧(([w.af.drop 2]:List Af).length:Int)+(B3 44 w.a7).length≤140737488355328:=by rw [AH];omega
  rw [if_neg (by simp;omega),AT (by omega),HD,Aa,hw,AT hr];rw [show(⟨[w.af.drop 2]++B3 44 w.a7⟩:AD)=B5 w from rfl,Wp hs,Aa];unfold Co;cases hg:Bd t (B5 w)with
  |false=>exact⟨_,by rw [if_neg (by simp)];rfl,by simp⟩
  |true=>rw [if_pos rfl,K5 ht hs (by simp [B5]),Aa];exact⟨B5 w,by rw [Bool.true_and];rfl,fun _=>rfl⟩
theorem zHG {t:Ad} {w:Ac} (ht:t.ab.length=1) (h:FQ w): ∃r,YZ t w=some (r,Co t w)∧(Co t w=true→r=B5 w):=by
 have hs:=pD h;have Ji:=bO 44 w.a7;have OE:w.a7.count 44≤w.a7.length:=List.count_le_length;obtain⟨hk,hv⟩:=h;unfold YZ;have HD:VV w.a7 [44]=some (B3 44 w.a7):=zEz (by omega);rw [AT (by rw [AH];omega),zJ (by omega),Aa,HD,Aa];have hr: ∀x:Af,(([x]:List Af).length+(B3 44 w.a7).length:Int)*16≤140737488355328∧(([x]:List Af).length:Int)+(B3 44 w.a7).length≤140737488355328:=by intro x;rw [AH];omega
 rw [AT (hr _)];cases hp:(t.ab++ [47]).isPrefixOf w.af with
 |false=>
  have Dq:Co t w=false:=by
   unfold Co;cases hw:KB (AQ t (B5 w)) w with
   |false=>simp
   |true=>have fW:=zCD hw;rw [←Bool.not_eq_true,List.isPrefixOf_iff_prefix]at hp;exact absurd ⟨_,fW⟩ hp
  rw [Dq];exact⟨_,by rw [if_neg (by simp)],by simp⟩
 |true=>
  have hl:(t.ab++ [47]).length=2:=by rw [Ar,ht];rfl
  simp only [if_true,hl];rw [show(⟨[w.af.drop 2]++B3 44 w.a7⟩:AD)=B5 w from rfl,Wo hs,Aa];unfold Co;cases hg:Bd t (B5 w)with
  |false=>exact⟨_,by rw [if_neg (by simp)];rfl,by simp⟩
  |true=>
   rw [if_pos rfl,N5 (by omega) hs (by simp [B5]),Aa];rw [show(w.af==(AQ t (B5 w)).af&&(w.a7==(AQ t (B5 w)).a7&&w.bh==(AQ t (B5 w)).bh))=KB w (AQ t (B5 w))from rfl,zBk];cases KB (AQ t (B5 w)) w with
   |false=>exact⟨_,by rw [if_pos (by simp)];rfl,by simp⟩
   |true=>exact⟨_,by rw [if_neg (by simp)];rfl,fun _=>rfl⟩
theorem SS {α β:Type} (p:α→Bool) (f:α→β) (l:List α) (o:List β):l.foldl (fun o x=>if p x=true then o++ [f x]else o) o=o++(l.filter p).map f:=by
 induction l generalizing o with
 |nil=>simp
 |cons x l ih=>rw [List.foldl_cons,ih,List.filter_cons];cases p x<;>simp
def rows (t:Ad) (l:List Ac):List AD:=(l.filter (Co t)).map B5
theorem Qh {t:Ad} {l:List Ac} (ht:t.ab.length≤2000000) (hl:l.length≤2000000) (h: ∀w∈l,FQ w):Jn t l=some (rows t l):=by
 have h1:=F7 (xs:=l) (body:=fun s:List AD × Int=>RW t l s.1 s.2) (fun i (o:List AD)=>(o,i)) (fun o w=>if Co t w=true then o++ [B5 w]else o) (fun o=>some o) (fun i o=>o.length≤i)
  (fun i hi o hI=>by
   have hI:o.length≤i:=hI;obtain⟨r,e,hr⟩:=zGV ht (h _ (List.getElem_mem hi));have hw:=Bl hi (by omega:l.length≤_);refine⟨?_,by
    show List.length (if Co t l[i]=true then o++ [B5 l[i]]else o)≤i+1;split
    ·rw [Ar,AH];omega
    ·omega⟩
   show RW t l o i=_;unfold RW;rw [if_pos (by simpa using hi),AN hi,Aa,e,Aa,hw];cases hb:Co t l[i]with
   |false=>rfl
   |true=>
    have hq:((o.length:Int)+(([r]:List AD).length:Int))*24≤140737488355328∧(o.length:Int)+(([r]:List AD).length:Int)≤140737488355328:=by rw [AH];omega
    rw [if_pos rfl,AT hq,if_pos rfl,hr hb])
  (fun o _=>by show RW t l o l.length=_;unfold RW;rw [if_neg (by simp)]) (s:= []) (by simp)
 rw [SS]at h1;exact h1.1
theorem sL {t:Ad} {l:List Ac} (ht:t.ab.length=1) (hl:l.length≤2000000) (h: ∀w∈l,FQ w):PE t l=some (rows t l):=by
 have h1:=F7 (xs:=l) (body:=fun s:Int × List AD=>Rp t l s.1 s.2) (fun i (o:List AD)=>(i,o)) (fun o w=>if Co t w=true then o++ [B5 w]else o) (fun o=>some o) (fun i o=>o.length≤i)
  (fun i hi o hI=>by
   have hI:o.length≤i:=hI;obtain⟨r,e,hr⟩:=zHG ht (h _ (List.getElem_mem hi));have hw:=Bl hi (by omega:l.length≤_);refine⟨?_,by
    show List.length (if Co t l[i]=true then o++ [B5 l[i]]else o)≤i+1;split
    ·rw [Ar,AH];omega
    ·omega⟩
   show Rp t l i o=_;unfold Rp;rw [if_pos (by simpa using hi),AN hi,Aa,e,Aa,hw];cases hb:Co t l[i]with
   |false=>rfl
   |true=>
    have hq:((o.length:Int)+(([r]:List AD).length:Int))*24≤140737488355328∧(o.length:Int)+(([r]:List AD).length:Int)≤140737488355328:=by rw [AH];omega
    rw [if_pos rfl,AT hq,if_pos rfl,hr hb])
  (fun o _=>by show Rp t l l.length o=_;unfold Rp;rw [if_neg (by simp)]) (s:= []) (by simp)
 rw [SS]at h1;exact h1.1
def head (t:Ad) (n:Af):Af:=t.ab++ [46]++n
def C4 (t:Ad) (n k:Af):Bool:=match B3 47 k with
 | [x,y,z]=>x==head t n&&field y&&field z
 |_=>false
theorem zEG {t:Ad} {n k:Af} (ht:t.ab.length≤2000000) (hn:n.length≤2000000) (hk:k.length≤1000000): ∃a b,Y3 t n k=some (a,b,C4 t n k):=by
 have Pb:=zzc (c:=47) hk;have he:PW k 47=some (B3 47 k):=zz4 (c:=47) (by omega);unfold Y3 C4;rw [he,Aa];generalize B3 47 k=ps at Pb
 match ps,Pb with
 | [],_=>exact⟨_,_,by rw [if_pos (by simp)]⟩
 | [_],_=>exact⟨_,_,by rw [if_pos (by simp)]⟩
 | [_,_],_=>exact⟨_,_,by rw [if_pos (by simp)]⟩
 |_::_::_::_::l,_=>exact⟨_,_,by rw [if_pos (by simp;omega)]⟩
 | [x,y,z],Pb=>
  have hy:=Pb.each y (by simp);have hz:=Pb.each z (by simp);dsimp only;rw [if_neg (by simp),show getI [x,y,z] 0=some x from rfl,Aa,AT (by rw [AH];omega),AT (by rw [Ar,AH];omega)];rw [show(t.ab++ [46]++n)=head t n from rfl];by_cases hx:x=head t n
  ·rw [if_neg (by simp [hx]),show getI [x,y,z] 1=some y from rfl,Aa,sG hy,Aa];have Q1:(x==head t n)=true:=by simpa using hx
   rw [Q1];cases field y with
   |false=>exact⟨_,_,by rw [if_neg (by simp)];rfl⟩
   |true=>
    rw [if_pos rfl,show getI [x,y,z] 2=some z from rfl,Aa,sG hz,Aa];cases field z with
    |false=>exact⟨_,_,by rw [if_pos (by simp)];rfl⟩
    |true=>exact⟨_,_,by rw [if_neg (by simp)];rfl⟩
  ·have Q1:(x==head t n)=false:=by simpa using hx
   rw [Q1];exact⟨_,_,by rw [if_pos (by simpa [bne]using Q1)];rfl⟩
theorem zA8 {c:UInt8} {s x y:Af} {r:List Af} (h:B3 c s=x::y::r): ∃q,s=x++c::q:=by
 rcases ZO s c with⟨_,h0⟩|⟨p,q,rfl,hp,_⟩
 ·rw [Ma h0]at h;simp at h
 ·rw [NR hp]at h;obtain⟨rfl,_⟩:=List.cons.inj h;exact⟨q,rfl⟩
theorem yW {x:Af} {c:UInt8} (hx:x.length≤2000000):(SC x [c]=some (x, [],false)∧ ∀b∈x,b≠c)∨ ∃p q,x=p++c::q∧(∀b∈p,b≠c)∧SC x [c]=some (p,q,true):=by
 have hi:Rz x [c]=some (Lib.indexByte x c):=rfl;rcases ZO x c with⟨e,h0⟩|⟨p,q,rfl,hp,e⟩
 ·refine .inl ⟨?_,h0⟩;unfold SC YD;rw [hi,Aa,e,if_neg (by simp)];rfl
 ·refine .inr ⟨p,q,rfl,hp, ?_⟩;rw [Ar,Ao]at hx;have hw:IntKind.i64.wrap ((p.length:Int)+(([c]:Af).length:Int))=((p.length+1:Nat):Int):=by rw [AH,Bc (by omega) (by omega)];omega
  unfold SC YD;rw [hi,Aa,e,if_pos (by simp),AT (by rw [Ar,Ao];omega),hw,AT (by rw [Ar,Ao];omega),Ps,Px,List.take_length];have e1:(p++c::q).drop (p.length+1)=q:=by simp
  have e2:(p++c::q).take p.length=p:=by simp
  rw [e1,e2];rfl
theorem zFt {s:Af} (h:(47:UInt8)∈s):field s=false:=by
 unfold field Ku;have:(s.all fun b=>Fi b||([]:Af).contains b)=false:=by rw [List.all_eq_false];exact⟨47,h,by decide⟩
 rw [this,Bool.and_false]
theorem wQ {t:Ad} {n:Af} (ht:t.ab.length≤2000000) (hn:n.length≤2000000):Vj t n=some (head t n++ [47]):=by unfold Vj head;rw [AT (by rw [AH];omega),AT (by rw [Ar,AH];omega),AT (by rw [Ar,Ar,AH,AH];omega)]
theorem zE0 {t:Ad} {n k:Af} (ht:t.ab.length≤2000000) (hn:n.length≤2000000) (hk:k.length≤1000000) (hh: ∀b∈head t n,b≠47): ∃a b,YL t n k=some (a,b,C4 t n k):=by
 unfold YL;rw [wQ ht hn,Aa,zJ (by omega),Aa];cases hp:(head t n++ [47]).isPrefixOf k with
 |false=>
  have Dq:C4 t n k=false:=by
   unfold C4;split
   ·rename_i x y z hs;cases hx:x==head t n with
    |false=>simp
    |true=>obtain⟨q,hq⟩:=zA8 hs;rw [←Bool.not_eq_true,List.isPrefixOf_iff_prefix]at hp;refine absurd ⟨q, ?_⟩ hp;rw [hq,(by simpa using hx:x=head t n)];simp
   ·rfl
  rw [Dq];simp only [AX,if_false];rcases yW (x:=k) (c:=47) (by omega)with⟨e,_⟩|⟨p,q,_,_,e⟩
  ·rw [e];exact⟨_,_,rfl⟩
  ·rw [e];exact⟨_,_,rfl⟩
 |true=>
  obtain⟨rest,Ds⟩:=List.isPrefixOf_iff_prefix.1 hp;have Jg:k=head t n++47::rest:=by rw [←Ds];simp
  have hd:k.drop (head t n++ [47]).length=rest:=by rw [←Ds,List.drop_left]
  have Ji:B3 47 k=head t n::B3 47 rest:=by rw [Jg,NR hh]
  have hlen:rest.length≤1000000:=by
   have:k.length=(head t n).length+(rest.length+1):=by rw [Jg,Ar,Ao]
   omega
  simp only [if_true,hd];unfold C4;rw [Ji];rcases yW (x:=rest) (c:=47) (by omega)with⟨e,h0⟩|⟨p,q,rfl,XN,e⟩
  ·rw [e,Ma h0];exact⟨_,_,rfl⟩
  ·rw [e,NR XN,Aa];rw [Ar,Ao]at hlen;simp only [if_true];rw [cS (s:=p) (by omega),Aa];rcases ZO q 47 with⟨_,h0⟩|⟨p3,q3,rfl,hp3,_⟩
   ·rw [Ma h0];dsimp only;rw [beq_self_eq_true,Bool.true_and];cases field p with
    |false=>exact⟨_,_,rfl⟩
    |true=>
     rw [if_pos rfl,cS (s:=q) (by omega),Aa];cases field q with
     |false=>exact⟨_,_,rfl⟩
     |true=>exact⟨_,_,rfl⟩
   ·have hf:field (p3++47::q3)=false:=zFt (by simp);rw [NR hp3];cases hq:B3 47 q3 with
    |nil=>exact absurd hq (qW _ _)
    |cons x xs=>
     dsimp only;cases field p with
     |false=>exact⟨_,_,rfl⟩
     |true=>rw [if_pos rfl,cS (by rw [Ar,Ao]at hlen ⊢;omega),Aa,hf];exact⟨_,_,rfl⟩
def Be (t:Ad) (n:Af) (l:List Ac):List Af:=(l.filter fun w=>C4 t n w.af).map (·.af)
theorem bR {t:Ad} {n:Af} {l:List Ac} (ht:t.ab.length≤2000000) (hn:n.length≤2000000) (hl:l.length≤2000000) (h: ∀w∈l,FQ w):Jo t n l=some (Be t n l):=by
 have h1:=F7 (xs:=l) (body:=fun s:List Af × Int=>RN t n l s.1 s.2) (fun i (o:List Af)=>(o,i)) (fun o w=>if C4 t n w.af=true then o++ [w.af]else o) (fun o=>some o) (fun i o=>o.length≤i)
  (fun i hi o hI=>by
   have hI:o.length≤i:=hI;have iI:=h _ (List.getElem_mem hi);obtain⟨a,b,e⟩:=zEG (t:=t) (n:=n) (k:=l[i].af) ht hn (by have:=iI.1;omega);have hw:=Bl hi (by omega:l.length≤_);refine⟨?_,by
    show List.length (if C4 t n l[i].af=true then o++ [l[i].af]else o)≤i+1;split
    ·rw [Ar,AH];omega
    ·omega⟩
   show RN t n l o i=_;unfold RN;rw [if_pos (by simpa using hi),AN hi,Aa,e,Aa,hw];cases hb:C4 t n l[i].af with
   |false=>rfl
   |true=>
    have hq:((o.length:Int)+(([l[i].af]:List Af).length:Int))*16≤140737488355328∧(o.length:Int)+(([l[i].af]:List Af).length:Int)≤140737488355328:=by rw [AH];omega
    rw [if_pos rfl,AT hq,if_pos rfl])
  (fun o _=>by show RN t n l o l.length=_;unfold RN;rw [if_neg (by simp)]) (s:= []) (by simp)
 rw [SS (fun w:Ac=>C4 t n w.af) (fun w=>w.af)]at h1;exact h1.1
theorem pU {t:Ad} {n:Af} {l:List Ac} (ht:t.ab.length≤2000000) (hn:n.length≤2000000) (hh: ∀b∈head t n,b≠47) (hl:l.length≤2000000) (h: ∀w∈l,FQ w):KR t n l=some (Be t n l):=by
 have h1:=F7 (xs:=l) (body:=fun s:Int × List Af=>RB t n l s.1 s.2) (fun i (o:List Af)=>(i,o)) (fun o w=>if C4 t n w.af=true then o++ [w.af]else o) (fun o=>some o) (fun i o=>o.length≤i)
  (fun i hi o hI=>by
   have hI:o.length≤i:=hI;have iI:=h _ (List.getElem_mem hi);obtain⟨a,b,e⟩:=zE0 (t:=t) (n:=n) (k:=l[i].af) ht hn (by have:=iI.1;omega) hh;have hw:=Bl hi (by omega:l.length≤_);refine⟨?_,by
    show List.length (if C4 t n l[i].af=true then o++ [l[i].af]else o)≤i+1;split
    ·rw [Ar,AH];omega
    ·omega⟩
   show RB t n l i o=_;unfold RB;rw [if_pos (by simpa using hi),AN hi,Aa,e,Aa,hw];cases hb:C4 t n l[i].af with
   |false=>rfl
   |true=>
    have hq:((o.length:Int)+(([l[i].af]:List Af).length:Int))*16≤140737488355328∧(o.length:Int)+(([l[i].af]:List Af).length:Int)≤140737488355328:=by rw [AH];omega
    rw [if_pos rfl,AT hq,if_pos rfl])
  (fun o _=>by show RB t n l l.length o=_;unfold RB;rw [if_neg (by simp)]) (s:= []) (by simp)
 rw [SS (fun w:Ac=>C4 t n w.af) (fun w=>w.af)]at h1;exact h1.1
def less (a b:List Af):List Af:=a.filter fun k=> !b.contains k
theorem xM {a b:List Af} (ha:a.length≤2000000) (hb:b.length≤2000000):Z2 a b=some (less a b):=by
 have h1:=F7 (xs:=a) (body:=fun s:List Af × Int=>R1 a b s.1 s.2) (fun i (o:List Af)=>(o,i)) (fun o k=>if(!b.contains k)=true then o++ [k]else o) (fun o=>some o) (fun i o=>o.length≤i)
  (fun i hi o hI=>by
   have hI:o.length≤i:=hI;have hw:=Bl hi (by omega:a.length≤_);have hx:decide (BH (fun x=>x==a[i]) b<0)= !b.contains a[i]:=by rw [←X9,←NY,←decide_not];rw [decide_eq_decide];omega
   refine⟨?_,by
    show List.length (if(!b.contains a[i])=true then o++ [a[i]]else o)≤i+1;split
    ·rw [Ar,AH];omega
    ·omega⟩
   show R1 a b o i=_;unfold R1;rw [if_pos (by simpa using hi),AN hi,Aa,kC hb,Aa,hw,hx];cases hc:b.contains a[i]with
   |true=>rfl
   |false=>
    have hq:((o.length:Int)+(([a[i]]:List Af).length:Int))*16≤140737488355328∧(o.length:Int)+(([a[i]]:List Af).length:Int)≤140737488355328:=by rw [AH];omega
    rw [if_pos (by rfl),AT hq,if_pos (by rfl)])
  (fun o _=>by show R1 a b o a.length=_;unfold R1;rw [if_neg (by simp)]) (s:= []) (by simp)
 rw [SS (fun k:Af=> !b.contains k) (fun k=>k)]at h1;have h2:=h1.1;rw [List.nil_append,List.map_id']at h2;exact h2
theorem w6 {a b:List Af} (ha:a.length≤2000000) (hb:b.length≤2000000):V6 a b=some (less a b):=by unfold V6 Vi Jp;rw [NW (by omega) (by omega),Aa,AT (by omega),bL (fun k=>b.contains k) (fun k _=>by simp only [nG,jK hb,Aa])];rfl
structure EK (t:Ad) (n:Af) (x:At):Prop where
 at_:getI t.ah (BH (fun y:At=>y.ab==n) t.ah)=some x
 name:x.ab=n
 c0:1≤x.bj
 c1:x.bj≤(t.ar.length:Int)-1
def C8 (r:AD) (c:Int):Af:=(r.ax[c.toNat]?).getD []
def Bv (t:Ad) (n:Af) (c:Int) (r:AD):Af:=head t n++ [47]++C8 r c++ [47]++C8 r 0
structure Lj (t:Ad) (r:AD):Prop where
 len:r.ax.length=t.ar.length
 small:Small r.ax
theorem xU {t:Ad} {l:List Ac} (h: ∀w∈l,FQ w): ∀r∈rows t l,Lj t r:=by intro r hr;obtain⟨w,hw,rfl⟩:=List.mem_map.1 hr;obtain⟨h1,h2⟩:=List.mem_filter.1 hw;have h3:Co t w=true:=h2;unfold Co Bd at h3;simp only [Ae,beq_iff_eq]at h3;exact⟨by have:=h3.1.1;omega,pD (h w h1)⟩
theorem WQ {t:Ad} {r:AD} (hr:Lj t r) {c:Int} (h0:0≤c) (h1:c≤(t.ar.length:Int)-1):getI r.ax c=some (C8 r c)∧(C8 r c).length≤2000000:=by
 obtain⟨y,e,hm,e2⟩:=IX (xs:=r.ax) h0 (by have:=hr.len;omega);have hv:C8 r c=y:=by simp [C8,e2]
 rw [hv];exact⟨e,hr.small.each y hm⟩
theorem WD {t:Ad} {n:Af} {x:At} {r:AD} (ht:t.ab.length≤2000000) (hn:n.length≤2000000) (hx:EK t n x) (hr:Lj t r):IP t x r=some (Bv t n x.bj r):=by
 obtain⟨g1,l1⟩:=WQ hr (c:=x.bj) (by have:=hx.c0;omega) hx.c1;obtain⟨g2,l2⟩:=WQ hr (c:=0) (by omega) (by have:=hx.c0;have:=hx.c1;omega);have e:=hx.name;subst e;unfold IP Bv;rw [AT (by simp only [head,Ar,Ao,List.length_nil];omega),AT (by simp only [head,Ar,Ao,List.length_nil];omega),AT (by simp only [head,Ar,Ao,List.length_nil];omega),g1,Aa,
  AT (by simp only [head,Ar,Ao,List.length_nil];omega),AT (by simp only [head,Ar,Ao,List.length_nil];omega),g2,Aa,
  AT (by simp only [head,Ar,Ao,List.length_nil];omega)]
 rfl
theorem WH {t:Ad} {n:Af} {x:At} {r:AD} (hS:Di t) (hn:n.length≤2000000) (hx:EK t n x) (hr:Lj t r):Kj t n r=some (Bv t n x.bj r):=by
 obtain⟨g1,l1⟩:=WQ hr (c:=x.bj) (by have:=hx.c0;omega) hx.c1;obtain⟨g2,l2⟩:=WQ hr (c:=0) (by omega) (by have:=hx.c0;have:=hx.c1;omega);have ht:=hS.name;have hi:Nx t n=some x:=by unfold Nx;rw [Xe hS,Aa,hx.at_];rfl
 unfold Kj Bv;rw [wQ ht hn,Aa,hi,Aa,g1,Aa,AT (by simp only [head,Ar,Ao,List.length_nil];omega),AT (by simp only [head,Ar,Ao,List.length_nil];omega),g2,Aa,AT (by simp only [head,Ar,Ao,List.length_nil];omega)]
def wanted (t:Ad) (n:Af) (x:At) (l:List Ac):List Af:=(rows t l).map (Bv t n x.bj)
theorem rows_len (t:Ad) (l:List Ac):(rows t l).length≤l.length:=by unfold rows;rw [List.length_map];exact List.length_filter_le _ _
theorem zxv {t:Ad} {n:Af} {x:At} {l:List Ac} (hS:Di t) (hn:n.length≤2000000) (hx:EK t n x) (hl:l.length≤2000000) (h: ∀w∈l,FQ w):Se t n l=some (wanted t n x l):=by
 have Cg:=xU (t:=t) h;have J3:=rows_len t l;unfold Se;rw [Qh hS.name hl h,Aa];have h1:=F7 (xs:=rows t l) (body:=fun s:List Af × Int=>R4 t n (rows t l) s.1 s.2) (fun i (o:List Af)=>(o,i)) (fun o r=>o++ [Bv t n x.bj r]) (fun o=>some o) (fun i o=>o.length=i)
  (fun i hi o hI=>by
   have hI:o.length=i:=hI;have hw:=Bl hi (by omega);refine⟨?_,by show List.length _=_;rw [Ar,AH];omega⟩;show R4 t n (rows t l) o i=_;unfold R4;have hq:((o.length:Int)+(([Bv t n x.bj (rows t l)[i]]:List Af).length:Int))*16≤140737488355328∧(o.length:Int)+(([Bv t n x.bj (rows t l)[i]]:List Af).length:Int)≤140737488355328:=by rw [AH];omega
   rw [if_pos (by simpa using hi),AN hi,Aa,Jx hS,Aa,hx.at_,Aa,WD hS.name hn hx (Cg _ (List.getElem_mem hi)),Aa,AT hq,hw])
  (fun o _=>by show R4 t n (rows t l) o (rows t l).length=_;unfold R4;rw [if_neg (by simp)]) (s:= []) rfl
 rw [rG]at h1;exact h1.1
theorem zCO {t:Ad} {n:Af} {x:At} {l:List Ac} (hS:Di t) (ht:t.ab.length=1) (hn:n.length≤2000000) (hx:EK t n x) (hl:l.length≤2000000) (h: ∀w∈l,FQ w):Vt t n l=some (wanted t n x l):=by
 have Cg:=xU (t:=t) h;have J3:=rows_len t l;unfold Vt;rw [sL ht hl h,Aa];have h1:=F7 (xs:=rows t l) (body:=fun s:Int × List Af=>Rr t n (rows t l) s.1 s.2) (fun i (o:List Af)=>(i,o)) (fun o r=>o++ [Bv t n x.bj r]) (fun o=>some o) (fun i o=>o.length=i)
  (fun i hi o hI=>by
   have hI:o.length=i:=hI;have hw:=Bl hi (by omega);refine⟨?_,by show List.length _=_;rw [Ar,AH];omega⟩;show Rr t n (rows t l) i o=_;unfold Rr;have hq:((o.length:Int)+(([Bv t n x.bj (rows t l)[i]]:List Af).length:Int))*16≤140737488355328∧(o.length:Int)+(([Bv t n x.bj (rows t l)[i]]:List Af).length:Int)≤140737488355328:=by rw [AH];omega
   rw [if_pos (by simpa using hi),AN hi,Aa,WH hS hn hx (Cg _ (List.getElem_mem hi)),Aa,AT hq,hw])
  (fun o _=>by show Rr t n (rows t l) (rows t l).length o=_;unfold Rr;rw [if_neg (by simp)]) (s:= []) rfl
 rw [rG]at h1;exact h1.1
def holds (t:Ad) (n:Af) (x:At) (lv:Int) (l:List Ac):Bool:=
 if lv==0 then((Be t n l).length:Int)==0
 else(((less (Be t n l) (wanted t n x l)).length:Int)==0)&&((lv==1)||(((less (wanted t n x l) (Be t n l)).length:Int)==0))
theorem SL (t:Ad) (n:Af) (l:List Ac):(Be t n l).length≤l.length:=by unfold Be;rw [List.length_map];exact List.length_filter_le _ _
theorem qB (t:Ad) (n:Af) (x:At) (l:List Ac):(wanted t n x l).length≤l.length:=by unfold wanted;rw [List.length_map];exact rows_len t l
theorem zFk {t:Ad} {n:Af} {x:At} {lv:Int} {l:List Ac} (hS:Di t) (ht:t.ab.length≤2000000) (hn:n.length≤2000000) (hx:EK t n x) (hl:l.length≤2000000) (h: ∀w∈l,FQ w) (ha:PX t n l=some true):Zq t n lv l=some (holds t n x lv l):=by
 have hE:=bR ht hn hl h;have hW:=zxv hS hn hx hl h;have e1:=SL t n l;have e2:=qB t n x l;have h1:=xM (a:=Be t n l) (b:=wanted t n x l) (by omega) (by omega);have h2:=xM (a:=wanted t n x l) (b:=Be t n l) (by omega) (by omega);unfold Zq holds;by_cases h0:(lv==0)=true
 ·rw [if_pos h0,if_pos h0,hE,Aa]
 ·rw [if_neg h0,if_neg h0];unfold nD nQ;rw [ha,hE,hW];simp only [Aa,h1,h2,Bool.not_true,AX,if_false]
theorem zEM {t:Ad} {n:Af} {x:At} {lv:Int} {l:List Ac} (hS:Di t) (ht:t.ab.length=1) (hn:n.length≤2000000) (hh: ∀b∈head t n,b≠47) (hx:EK t n x) (hl:l.length≤2000000) (h: ∀w∈l,FQ w):YX t n lv l=some (holds t n x lv l):=by
 have hE:=pU (t:=t) (by omega) hn hh hl h;have hW:=zCO hS ht hn hx hl h;have e1:=SL t n l;have e2:=qB t n x l;have h1:=w6 (a:=Be t n l) (b:=wanted t n x l) (by omega) (by omega);have h2:=w6 (a:=wanted t n x l) (b:=Be t n l) (by omega) (by omega);unfold YX holds;by_cases h0:(lv==0)=true
 ·rw [if_pos h0,if_pos h0,hE,Aa]
 ·rw [if_neg h0,if_neg h0];unfold YO lJ;rw [hE,hW];simp only [Aa,h1,h2];by_cases h3:(lv==1)=true
  ·rw [if_pos h3,h3,Bool.true_or,Bool.and_true]
  ·rw [if_neg h3,Bool.eq_false_iff.2 h3,Bool.false_or];by_cases h4:(((less (Be t n l) (wanted t n x l)).length:Int)==0)=true
   ·rw [if_pos h4,h4,Bool.true_and]
   ·rw [if_neg h4,Bool.eq_false_iff.2 h4,Bool.false_and]
def B6 (t:Ad) (n:Af):Bool:=A0 t&&decide (BH (fun x:At=>x.ab==n) t.ah≥0)
def kB (t:Ad) (n:Af) (l:List Ac):Bool:=B6 t n&&BZ l
theorem zHJ {t:Ad} {n:Af} (hS:Di t):aO t n=some (B6 t n):=by unfold aO B6;rw [zEH hS,Aa,Xe hS,Aa];cases A0 t<;>simp
theorem zEs {t:Ad} {n:Af} {l:List Ac} (hS:Di t) (hW:Ld l):PX t n l=some (kB t n l):=by unfold PX kB B6;rw [Qd hS,Aa,Jx hS,Aa,Ql hW,Aa];cases A0 t<;>cases decide (BH (fun x:At=>x.ab==n) t.ah≥0)<;>simp
theorem zHf {l:List Ac} (h:BZ l=true): ∀w∈l,FQ w:=by intro w hw;unfold BZ Kl at h;simp only [Ae]at h;have h1:=AJ.1 h.1.2.1 w hw;unfold CV An Ir Gj at h1;simp only [Ae,decide_eq_true_eq]at h1;have h2:=B7.1 h1.1.1;have h3:=h1.2.1.1;exact⟨by omega,by omega⟩
theorem L9 {s:Af} {k:Int} (h:CG s k=true):(s.length:Int)≤k∧ ∀b∈s,b≠47:=by unfold CG at h;simp only [Ae]at h;refine⟨(B7.1 h.2).2,fun b hb e=> ?_⟩;have h1:=AJ.1 h.1 b hb;subst e;exact absurd h1 (by decide)
theorem SO {s:Af} (h:CG s 1=true):s.length=1:=by unfold CG at h;simp only [Ae]at h;have:=B7.1 h.2;omega
theorem K0 {t:Ad} (h:A0 t=true):CG t.ab 1=true:=by unfold A0 at h;simp only [Ae]at h;exact h.1.1.1
theorem Ey {t:Ad} (h:A0 t=true) {x:At} (hx:x∈t.ah):CG x.ab 1=true∧BP x.bj 1 ((t.ar.length:Int)-1)=true:=by unfold A0 at h;simp only [Ae]at h;obtain⟨i,hi,rfl⟩:=List.mem_iff_getElem.1 hx;have h1:=AJ.1 h.2 i (List.mem_range.2 hi);unfold HT at h1;simp only [Ae,List.getElem?_eq_getElem hi,Option.getD_some]at h1;exact⟨h1.1.1.1,h1.1.1.2⟩
theorem dH {t:Ad} {n:Af} (h:B6 t n=true): ∃x,EK t n x∧t.ab.length=1∧n.length=1∧ ∀b∈head t n,b≠47:=by
 unfold B6 at h;simp only [Ae,decide_eq_true_eq]at h;obtain⟨x,h1,h2,h3⟩:=zzG h.2;have h4:=Ey h.1 h3;have h5:=B7.1 h4.2;have h6:x.ab=n:=by simpa using h2
 have h7:=K0 h.1;have h8:=h6▸h4.1;refine⟨x,⟨h1,h6,h5.1,h5.2⟩,SO h7,SO h8,fun b hb=> ?_⟩;unfold head at hb;simp only [Ai,List.mem_singleton]at hb;rcases hb with(hb|hb)|hb
 ·exact(L9 h7).2 b hb
 ·subst hb;decide
 ·exact(L9 h8).2 b hb
abbrev bl (a b:Ab):Bool:=Op.bytesLess a b
theorem P6: ∀a:Ab,bl a a=false
 | []=>rfl
 |x::a=>by
  have h: ¬x<x:=fun h=>by have:=UInt8.lt_iff_toNat_lt.1 h;omega
  show Op.bytesLess (x::a) (x::a)=false;simp only [Op.bytesLess,h,decide_false,Bool.false_or,beq_self_eq_true,Bool.true_and];exact P6 a
theorem tK (x y:UInt8) (a b:Ab):bl (x::a) (y::b)=true↔x.toNat<y.toNat∨x=y∧bl a b=true:=by show Op.bytesLess (x::a) (y::b)=true↔_;simp only [Op.bytesLess,Bool.or_eq_true,decide_eq_true_eq,Ae,beq_iff_eq,UInt8.lt_iff_toNat_lt]
theorem F8: ∀{a b c:Ab},bl a b=true→bl b c=true→bl a c=true
 | [],_, [],_,h=>by rename_i b _;cases b<;>cases h
 | [],_,_::_,_,_=>rfl
 |_::_, [],_,h,_=>by cases h
 |_::_,_::_, [],_,h=>by cases h
 |x::a,y::b,z::c,h1,h2=>by
  rw [tK]at*;rcases h1 with h1|⟨rfl,h1⟩<;>rcases h2 with h2|⟨rfl,h2⟩
  ·exact .inl (by omega)
  ·exact .inl h1
  ·exact .inl h2
  ·exact .inr ⟨rfl,F8 h1 h2⟩
theorem yQ: ∀a b:Ab,bl a b=true∨a=b∨bl b a=true
 | [], []=> .inr (.inl rfl)
 | [],_::_=> .inl rfl
 |_::_, []=> .inr (.inr rfl)
 |x::a,y::b=>by
  rw [tK,tK];rcases Nat.lt_trichotomy x.toNat y.toNat with h|h|h
  ·exact .inl (.inl h)
  ·have h0:x=y:=UInt8.toNat_inj.1 h;subst h0;rcases yQ a b with h1|h1|h1
   ·exact .inl (.inr ⟨rfl,h1⟩)
   ·exact .inr (.inl (by rw [h1]))
   ·exact .inr (.inr (.inr ⟨rfl,h1⟩))
  ·exact .inr (.inr (.inl h))
theorem cV {a b:Ab} (h:bl a b=true):bl b a=false:=by
 cases h2:bl b a with
 |false=>rfl
 |true=>have:=F8 h h2;rw [P6]at this;cases this
theorem FA {a b:Ab} (h:bl a b=true):a≠b:=by rintro rfl;rw [P6]at h;cases h
theorem Wv {a b:Ab} (h:bl a b=false) (hn:a≠b):bl b a=true:=by
 rcases yQ a b with h1|h1|h1
 ·rw [h]at h1;cases h1
 ·exact absurd h1 hn
 ·exact h1
section
variable {α:Type} (key:α→Ab)
def Ei (l:List α):Prop:=l.Pairwise fun a b=>bl (key a) (key b)=true
def Bj (x:α):List α→List α
 | []=> [x]
 |y::l=>if bl (key x) (key y)=true then x::y::l else if key x=key y then x::l else y::Bj x l
variable {key}
theorem Ei.gu {l:List α} (h:Ei key l) {a b:α} (ha:a∈l) (hb:b∈l) (e:key a=key b):a=b:=by
 induction l with
 |nil=>cases ha
 |cons y l ih=>
  have h1:=List.pairwise_cons.1 h;rcases Ag.1 ha with q1|q1<;>rcases Ag.1 hb with q2|q2
  ·rw [q1,q2]
  ·exact absurd (q1▸e) (FA (h1.1 _ q2))
  ·exact absurd (q2▸e.symm) (FA (h1.1 _ q1))
  ·exact ih h1.2 q1 q2
theorem Tb {x:α}: ∀{l:List α},Ei key l→ ∀y,y∈Bj key x l↔y=x∨y∈l∧key y≠key x
 | [],_,y=>by simp [Bj]
 |z::l,h,y=>by
  have h1:=List.pairwise_cons.1 h;unfold Bj;split
  ·rename_i hb;constructor
   ·intro hy;rcases Ag.1 hy with rfl|hy
    ·exact .inl rfl
    ·refine .inr ⟨hy, ?_⟩;rcases Ag.1 hy with rfl|hy
     ·exact(FA hb).symm
     ·exact(FA (F8 hb (h1.1 _ hy))).symm
   ·rintro(rfl|⟨hy,_⟩)
    ·simp
    ·exact List.mem_cons_of_mem _ hy
  ·rename_i hb;split
   ·rename_i he;constructor
    ·intro hy;rcases Ag.1 hy with rfl|hy
     ·exact .inl rfl
     ·exact .inr ⟨List.mem_cons_of_mem _ hy,fun e=>FA (h1.1 _ hy) (by rw [e,he])⟩
    ·rintro(rfl|⟨hy,hn⟩)
     ·simp
     ·rcases Ag.1 hy with rfl|hy
      ·exact absurd he.symm hn
      ·exact List.mem_cons_of_mem _ hy
   ·rename_i he;rw [Ag,Tb h1.2];constructor
    ·rintro(rfl|rfl|⟨hy,hn⟩)
     ·exact .inr ⟨by simp,fun e=>he e.symm⟩
     ·exact .inl rfl
     ·exact .inr ⟨List.mem_cons_of_mem _ hy,hn⟩
    ·rintro(rfl|⟨hy,hn⟩)
     ·exact .inr (.inl rfl)
     ·rcases Ag.1 hy with rfl|hy
      ·exact .inl rfl
      ·exact .inr (.inr ⟨hy,hn⟩)
theorem Wr {x:α}: ∀{l:List α},Ei key l→Ei key (Bj key x l)
 | [],_=>by simp [Bj,Ei]
 |z::l,h=>by
  have h1:=List.pairwise_cons.1 h;unfold Bj;split
  ·rename_i hb;refine List.pairwise_cons.2 ⟨fun y hy=> ?_,h⟩;rcases Ag.1 hy with rfl|hy
   ·exact hb
   ·exact F8 hb (h1.1 _ hy)
  ·rename_i hb;split
   ·rename_i he;exact List.pairwise_cons.2 ⟨fun y hy=>by rw [he];exact h1.1 _ hy,h1.2⟩
   ·rename_i he;refine List.pairwise_cons.2 ⟨fun y hy=> ?_,Wr h1.2⟩;rcases(Tb h1.2 y).1 hy with rfl|⟨hy,_⟩
    ·exact Wv (by simpa using hb) he
    ·exact h1.1 _ hy
theorem Ei.ext: ∀{a b:List α},Ei key a→Ei key b→(∀x,x∈a↔x∈b)→a=b
 | [], [],_,_,_=>rfl
 | [],y::b,_,_,h=>absurd ((h y).2 (by simp)) (by simp)
 |x::a, [],_,_,h=>absurd ((h x).1 (by simp)) (by simp)
 |x::a,y::b,ha,hb,h=>by
  have h1:=List.pairwise_cons.1 ha;have h2:=List.pairwise_cons.1 hb;have e:x=y:=by
   rcases Ag.1 ((h x).1 (by simp))with e|hx
   ·exact e
   ·rcases Ag.1 ((h y).2 (by simp))with e|hy
    ·exact e.symm
    ·have:=F8 (h1.1 _ hy) (h2.1 _ hx);rw [P6]at this;cases this
  subst e;rw [Ei.ext h1.2 h2.2 fun z=> ?_];constructor
  ·intro hz;rcases Ag.1 ((h z).1 (List.mem_cons_of_mem _ hz))with rfl|UR
   ·have:=h1.1 _ hz;rw [P6]at this;cases this
   ·exact UR
  ·intro hz;rcases Ag.1 ((h z).2 (List.mem_cons_of_mem _ hz))with rfl|UR
   ·have:=h2.1 _ hz;rw [P6]at this;cases this
   ·exact UR
theorem Ei.filter {l:List α} (h:Ei key l) (p:α→Bool):Ei key (l.filter p):=List.Pairwise.filter p h
theorem Ei.sub {a b:List α} (h:Ei key b) (hs:a.Sublist b):Ei key a:=List.Pairwise.sublist hs h
theorem vK {x:α}: ∀(l:List α),(Bj key x l).length≤l.length+1
 | []=>by simp [Bj]
 |y::l=>by
  unfold Bj;have:=vK (x:=x) l;split
  ·simp
  ·split
   ·simp
   ·simp only [Ao];omega
end
def IZ {α:Type} (r:α→α→Bool):List α→Bool
 | []=>true
 | [_]=>true
 |x::y::l=>r x y&&IZ r (y::l)
theorem cB {α:Type} {r:α→α→Bool} (ht: ∀a b c,r a b=true→r b c=true→r a c=true): ∀{l:List α},IZ r l=true↔l.Pairwise fun a b=>r a b=true
 | []=>by simp [IZ]
 | [_]=>by simp [IZ]
 |x::y::l=>by
  rw [IZ,Ae,cB ht];constructor
  ·rintro⟨h1,h2⟩;refine List.pairwise_cons.2 ⟨fun z hz=> ?_,h2⟩;rcases Ag.1 hz with rfl|hz
   ·exact h1
   ·exact ht _ _ _ h1 ((List.pairwise_cons.1 h2).1 z hz)
  ·intro h;have h:=List.pairwise_cons.1 h;exact⟨h.1 y (by simp),h.2⟩
theorem zzn {α:Type} {r:α→α→Bool} {l:List α} {q:Nat} (h:q+1<l.length):IZ r (l.drop q)=(r l[q] l[q+1]&&IZ r (l.drop (q+1))):=by rw [List.drop_eq_getElem_cons (show q<l.length by omega),List.drop_eq_getElem_cons h,IZ]
def B4 {α:Type} (lt:α→Bool) (l:List α):Nat:=(l.takeWhile lt).length
theorem Tj {α:Type} (lt:α→Bool): ∀l:List α,B4 lt l≤l.length
 | []=>by simp [B4]
 |x::l=>by have:=Tj lt l;unfold B4 at this ⊢;rw [List.takeWhile_cons];split<;>simp<;>omega
theorem tJ {α:Type} {lt:α→Bool}: ∀{l:List α} {i:Nat} (h:i<B4 lt l),lt (l[i]'(Nat.lt_of_lt_of_le h (Tj lt l)))=true
 |x::l,i,h=>by
  unfold B4 at h;rw [List.takeWhile_cons]at h;split at h
  ·rename_i hx;cases i with
   |zero=>exact hx
   |succ i=>exact tJ (l:=l) (i:=i) (by unfold B4;simpa using h)
  ·simp at h
theorem xT {α:Type} {lt:α→Bool}: ∀{l:List α} (h:B4 lt l<l.length),lt l[B4 lt l]=false
 |x::l,h=>by
  by_cases hx:lt x=true
  ·have e:B4 lt (x::l)=B4 lt l+1:=by unfold B4;rw [List.takeWhile_cons,if_pos hx];rfl
   have:=xT (l:=l) (lt:=lt) (by rw [e]at h;simpa using h);simp only [e,List.getElem_cons_succ];exact this
  ·have e:B4 lt (x::l)=0:=by unfold B4;rw [List.takeWhile_cons,if_neg hx];rfl
   simp only [e,List.getElem_cons_zero];simpa using hx
theorem zGR {α β:Type} {xs:List α} {body:Int × Int→Option ((Int × Int) ⊕ Option β)} {fin:Int→Option β} (lt:α→Bool) (hm: ∀i j (hj:j<xs.length) (hi:i≤j),lt xs[j]=true→lt xs[i]=true)
  (hs: ∀i j:Nat,i<j→j≤xs.length→(h:(i+j)/2<xs.length)→body ((i:Int),(j:Int))=some (.inl (if lt xs[(i+j)/2]=true then((((i+j)/2+1:Nat):Int),(j:Int))else((i:Int),(((i+j)/2:Nat):Int)))))
  (he: ∀i:Nat,i≤xs.length→body ((i:Int),(i:Int))=some (.inr (fin i))):AA body (0,(xs.length:Int))=fin (B4 lt xs):=by
 have key: ∀n i j:Nat,j-i≤n→i≤B4 lt xs→B4 lt xs≤j→j≤xs.length→AA body ((i:Int),(j:Int))=fin (B4 lt xs):=by
  intro n
  induction n with
  |zero=>
   intro i j h1 h2 h3 h4;have:i=j:=by omega
   subst this;have:i=B4 lt xs:=by omega
   rw [Fx,he i h4,this]
  |succ n ih=>
   intro i j h1 h2 h3 h4;by_cases OQ:i=j
   ·subst OQ;have:i=B4 lt xs:=by omega
    rw [Fx,he i h4,this]
   ·have Am:(i+j)/2<xs.length:=by omega
    rw [Fx,hs i j (by omega) h4 Am];by_cases hc:lt xs[(i+j)/2]=true
    ·rw [if_pos hc];refine ih _ _ (by omega) ?_ h3 h4;by_cases hp:(i+j)/2<B4 lt xs
     ·omega
     ·have h5:B4 lt xs<xs.length:=by omega
      have:=xT h5;rw [hm _ _ Am (by omega) hc]at this;cases this
    ·rw [if_neg hc];refine ih _ _ (by omega) h2 ?_ (by omega);by_cases hp:(i+j)/2<B4 lt xs
     ·exact absurd (tJ hp) hc
     ·omega
 exact key xs.length 0 xs.length (by omega) (by omega) (Tj lt xs) (Nat.le_refl _)
theorem zz9 {α:Type} {key:α→Ab} {x:α}: ∀{l:List α},Ei key l→Bj key x l=(match l[B4 (fun y=>bl (key y) (key x)) l]? with
  |some y=>if key y=key x then l.set (B4 (fun y=>bl (key y) (key x)) l) x else l.take (B4 (fun y=>bl (key y) (key x)) l)++ [x]++l.drop (B4 (fun y=>bl (key y) (key x)) l)
  |none=>l.take (B4 (fun y=>bl (key y) (key x)) l)++ [x]++l.drop (B4 (fun y=>bl (key y) (key x)) l))
 | [],_=>by simp [Bj,B4]
 |y::l,h=>by
  have h1:=List.pairwise_cons.1 h;unfold Bj;by_cases hb:bl (key x) (key y)=true
  ·have e:B4 (fun z=>bl (key z) (key x)) (y::l)=0:=by unfold B4;rw [List.takeWhile_cons,if_neg (by rw [cV hb];simp)];rfl
   rw [if_pos hb,e];simp [(FA hb).symm]
  ·rw [if_neg hb];by_cases hk:key x=key y
   ·have e:B4 (fun z=>bl (key z) (key x)) (y::l)=0:=by unfold B4;rw [List.takeWhile_cons,if_neg (by rw [hk,P6];simp)];rfl
    rw [if_pos hk,e];simp [hk]
   ·have HI:=Wv (by simpa using hb) hk;have e:B4 (fun z=>bl (key z) (key x)) (y::l)=B4 (fun z=>bl (key z) (key x)) l+1:=by unfold B4;rw [List.takeWhile_cons,if_pos HI];rfl
    rw [if_neg hk,e,zz9 h1.2];simp only [List.getElem?_cons_succ];split
    ·split<;>simp
    ·simp
def Pu (a b:Af):Int:=if bl a b=true then-1 else if a=b then 0 else 1
@[simp] theorem zE9 (a:Af):Vy a=some false:=by simp [Vy]
@[simp] theorem zJU (a b:Af):YQ a b=some (Pu a b):=by
 unfold YQ Pu;simp only [zE9,Aa,AX,if_false];by_cases h:bl a b=true
 ·have:Op.bytesLess a b=true:=h;simp [this]
 ·have h1:Op.bytesLess a b=false:=by simpa using h
  by_cases he:a=b
  ·subst he;simp [h1]
  ·simp [h1,he]
theorem zGO {a b:Af}:decide (Pu a b<0)=bl a b:=by
 unfold Pu;cases h:bl a b with
 |true=>simp
 |false=>by_cases he:a=b<;>simp [he]
theorem zHI {a b:Af}:(Pu a b==0)=decide (a=b):=by
 unfold Pu;cases h:bl a b with
 |true=>simp [FA h]
 |false=>by_cases he:a=b<;>simp [he]
theorem zII {i j:Nat} (h:i≤j) (hj:j≤2000000):IntKind.i64.wrap (Int.fdiv (IntKind.u64.wrap (IntKind.i64.wrap ((i:Int)+(j:Int)))) (2^(min ((1:Int)).toNat (IntKind.bits .u64))))=(((i+j)/2:Nat):Int):=by
 have e1:IntKind.i64.wrap ((i:Int)+(j:Int))=((i+j:Nat):Int):=by rw [Bc (by omega) (by omega)];simp
 have e2:IntKind.u64.wrap ((i+j:Nat):Int)=((i+j:Nat):Int):=by simp only [IntKind.wrap,IntKind.bits,IntKind.signed];simp;omega
 have e3:(2:Int)^(min ((1:Int)).toNat (IntKind.bits .u64))=((2:Nat):Int):=rfl;rw [e1,e2,e3,Int.fdiv_eq_ediv_of_nonneg _ (by omega),←Int.natCast_ediv,Bc (by omega) (by omega)]
theorem zHW {i:Nat} (h:i≤2000000):IntKind.i64.wrap ((i:Int)+1)=((i+1:Nat):Int):=by rw [Bc (by omega) (by omega)];simp
abbrev Da (l:List Ac):Prop:=Ei (fun w:Ac=>w.af) l
abbrev G9 (l:List Ac) (k:Af):Nat:=B4 (fun w:Ac=>bl w.af k) l
theorem zM {l:List Ac} {k:Af} (hl:l.length≤2000000) (hr:Da l):NC l k=some (((G9 l k:Nat):Int),(match l[G9 l k]? with|some w=>decide (w.af=k)|none=>false)):=by
 unfold NC kV;have hc: ∀w:Ac,R9 w k=some (Pu w.af k):=fun w=>by simp [R9]
 have h:=zGR (xs:=l) (body:=fun s:Int × Int=>Rm l k (fun y0_ y1_=>R9 y0_ y1_) s.1 s.2) (fin:=fun i=>kU l k (fun y0_ y1_=>R9 y0_ y1_) i) (fun w:Ac=>bl w.af k)
  (fun i j hj hi h=>by
   rcases Nat.lt_or_ge i j with OQ|OQ
   ·exact F8 ((List.pairwise_iff_getElem.1 hr) i j (by omega) hj OQ) h
   ·have:i=j:=by omega
    subst this;exact h)
  (fun i j OQ hj gH=>by show Rm l k _ (i:Int) (j:Int)=_;unfold Rm;rw [if_pos (by simpa using OQ),zII (by omega) (by omega),AN gH,Aa];simp only [hc,Aa,zGO,zHW (show(i+j)/2≤2000000 by omega)];cases bl l[(i+j)/2].af k<;>rfl)
  (fun i hi=>by show Rm l k _ (i:Int) (i:Int)=_;unfold Rm;rw [if_neg (by simp)])
 rw [h];unfold kU;show Option.bind (if decide (((G9 l k:Nat):Int)<l.length)=true then _ else _) _=_;by_cases hp:G9 l k<l.length
 ·rw [if_pos (by simpa using hp),AN hp,Aa];simp only [hc,Aa,zHI,List.getElem?_eq_getElem hp]
 ·rw [if_neg (by simpa using hp),List.getElem?_eq_none (by omega)];rfl
theorem qC {l:List Ac} {w:Ac} (hl:l.length≤2000000) (hr:Da l):PY l w=some (Bj (fun w:Ac=>w.af) w l):=by
 unfold PY;rw [zM hl hr,Aa,zz9 hr];show(if(match l[G9 l w.af]? with|some w'=>decide (w'.af=w.af)|none=>false)=true then _ else _)=_;have hle:G9 l w.af≤l.length:=Tj _ _;have hI:cK l ((G9 l w.af:Nat):Int) [w]=some (l.take (G9 l w.af)++ [w]++l.drop (G9 l w.af)):=AT ⟨by omega,by omega,by simp,by simp only [AH];omega⟩;by_cases hp:G9 l w.af<l.length
 ·rw [List.getElem?_eq_getElem hp];by_cases hk:(l[G9 l w.af]).af=w.af
  ·simp only [hk,decide_true,if_true,AN hp,Aa];rfl
  ·simp only [hk,decide_false,AX,if_false];rw [hI];rfl
 ·rw [List.getElem?_eq_none (by omega)];simp only [AX,if_false];rw [hI];rfl
theorem oU (ks:List Af):K8 ks=IZ bl ks:=by
 have key: ∀n q,q+n+1=ks.length→(List.range' (q+1) n).all (Ju ks)=IZ bl (ks.drop q):=by
  intro n
  induction n with
  |zero=>intro q hq;rw [List.drop_eq_getElem_cons (show q<ks.length by omega),List.drop_eq_nil_of_le (show ks.length≤q+1 by omega)];rfl
  |succ n ih=>intro q hq;rw [List.range'_succ,List.all_cons,ih (q+1) (by omega),zzn (show q+1<ks.length by omega)];congr 1;unfold Ju;have hb:(q+1==0)=false:=rfl;rw [hb,Bool.false_or,Nat.add_sub_cancel,List.getElem?_eq_getElem (show q<ks.length by omega),List.getElem?_eq_getElem (show q+1<ks.length by omega)];rfl
 cases ks with
 |nil=>rfl
 |cons k l=>unfold K8;rw [Ao,List.range_eq_range',List.range'_succ,List.all_cons];have:=key l.length 0 (by simp);rw [List.drop_zero]at this;rw [Nat.zero_add]at this;rw [show 0+1=1 from rfl,this];rfl
theorem bD {α β:Type} (f:α→β) (r:β→β→Bool): ∀l:List α,IZ r (l.map f)=IZ (fun a b=>r (f a) (f b)) l
 | []=>rfl
 | [_]=>rfl
 |x::y::l=>by have:=bD f r (y::l);simp only [List.map_cons,IZ]at this ⊢;rw [this]
theorem zsw {l:List Ac} (h:Kl l=true):Da l:=by unfold Kl at h;simp only [Ae]at h;have h1:=h.2.2;rw [oU,bD]at h1;exact(cB (r:=fun a b:Ac=>bl a.af b.af) fun a b c p q=>F8 p q).1 h1
theorem sP {t:Ad} (h:A0 t=true):Ei (fun x:At=>x.ab) t.ah:=by
 unfold A0 at h;simp only [Ae]at h;have h1:=h.2;have h2:K8 (t.ah.map (·.ab))=true:=by
  unfold K8;rw [List.length_map,AJ];intro i hi;have h3:=AJ.1 h1 i hi;unfold HT at h3;simp only [Ae]at h3;have EF:i<t.ah.length:=List.mem_range.1 hi;have e: ∀j:Nat,(((t.ah.map (·.ab))[j]?).getD [])=((t.ah[j]?).getD ⟨[],0,0⟩).ab:=by intro j;rw [List.getElem?_map];cases t.ah[j]?<;>rfl
  unfold Ju;rw [e,e];exact h3.2
 rw [oU,bD]at h2;exact(cB (r:=fun a b:At=>bl a.ab b.ab) fun a b c p q=>F8 p q).1 h2
theorem cT {t:Ad} {x:At} (h:A0 t=true) (hx:x∈t.ah):EK t x.ab x:=by
 have h1:BH (fun y:At=>y.ab==x.ab) t.ah≥0:=by have:=NY (fun y:At=>y.ab==x.ab) t.ah;rw [show(t.ah.any fun y=>y.ab==x.ab)=true from List.any_eq_true.2 ⟨x,hx,by simp⟩]at this;exact of_decide_eq_true this
 obtain⟨y,h2,h3,h4⟩:=zzG h1;have h5:y=x:=(sP h).gu h4 hx (by simpa using h3);subst h5;have h6:=B7.1 (Ey h hx).2;exact⟨h2,rfl,h6.1,h6.2⟩
theorem Jt {t:Ad} (h:A0 t=true):2≤t.ar.length∧t.ar.length≤4∧t.ah.length≤3:=by unfold A0 at h;simp only [Ae,decide_eq_true_eq]at h;have h1:=B7.1 h.1.1.2.2;have h2:=h.1.2;omega
theorem Ob {t:Ad} {r:AD} (hs:Small r.ax) (h:Bd t r=true):Lj t r:=by unfold Bd at h;simp only [Ae,beq_iff_eq]at h;exact⟨by have:=h.1;omega,hs⟩
theorem dA {t:Ad} {r:AD} (hc:1≤t.ar.length) (h:Lj t r):getI r.ax 0=some (C8 r 0):=(WQ h (by omega) (by omega)).1
theorem Qv {t:Ad} {r:AD} (hc:1≤t.ar.length) (h:Lj t r):r.ax≠ []:=by intro e;have:=h.len;rw [e]at this;simp at this;omega
def F9 (a:Bf):Prop:=Small a.bq.ax∧Small a.bw.ax
def HO (t:Ad) (a:Bf):Bool:=
 if a.aj=1 then(a.bq.ax.length:Int)==0&&Bd t a.bw else
 if a.aj=2 then Bd t a.bq&&(a.bw.ax.length:Int)==0 else
 if a.aj=3 then Bd t a.bq&&(Bd t a.bw&&C8 a.bq 0==C8 a.bw 0)else false
theorem pV {t:Ad} {a:Bf} (hc:1≤t.ar.length) (h:F9 a):V5 t a=some (HO t a):=by
 unfold V5 HO;by_cases h1:a.aj=1
 ·rw [if_pos (by simpa using h1),if_pos h1,Wp h.2,Aa];cases((a.bq.ax.length:Int)==0)<;>simp
 rw [if_neg (by simpa using h1),if_neg h1];by_cases h2:a.aj=2
 ·rw [if_pos (by simpa using h2),if_pos h2,Wp h.1,Aa];cases((a.bw.ax.length:Int)==0)<;>simp
 rw [if_neg (by simpa using h2),if_neg h2];by_cases h3:a.aj=3
 ·rw [if_pos (by simpa using h3),if_pos h3,Wp h.1,Wp h.2,Aa,Aa];cases e1:Bd t a.bq with
  |false=>simp
  |true=>
   cases e2:Bd t a.bw with
   |false=>simp
   |true=>simp [dA hc (Ob h.1 e1),dA hc (Ob h.2 e2)]
 rw [if_neg (by simpa using h3),if_neg h3]
theorem zAM {t:Ad} {a:Bf} (hc:1≤t.ar.length) (h:F9 a):YI t a=some (HO t a):=by
 unfold YI HO;by_cases h1:a.aj=1
 ·rw [if_pos (by simpa using h1),if_pos h1,Wo h.2,Aa];cases((a.bq.ax.length:Int)==0)<;>simp
 rw [if_neg (by simpa using h1),if_neg h1];by_cases h2:a.aj=2
 ·rw [if_pos (by simpa using h2),if_pos h2,Wo h.1,Aa]
 rw [if_neg (by simpa using h2),if_neg h2];by_cases h3:a.aj=3
 ·rw [if_pos (by simpa using h3),if_pos h3,Wo h.1,Wo h.2,Aa,Aa];cases e1:Bd t a.bq with
  |false=>simp
  |true=>
   cases e2:Bd t a.bw with
   |false=>simp
   |true=>simp [dA hc (Ob h.1 e1),dA hc (Ob h.2 e2)]
 rw [if_neg (by simpa using h3),if_neg h3]
structure U7 (t:Ad) (a:Bf):Prop where
 old:a.aj≠1→Lj t a.bq
 new:a.aj≠2→Lj t a.bw
 kind:a.aj=1∨a.aj=2∨a.aj=3
 same:a.aj=3→C8 a.bq 0=C8 a.bw 0
theorem yP {t:Ad} {a:Bf} (h:F9 a) (hg:HO t a=true):U7 t a:=by
 unfold HO at hg;by_cases h1:a.aj=1
 ·rw [if_pos h1,Ae]at hg;exact⟨fun k=>absurd h1 k,fun _=>Ob h.2 hg.2, .inl h1,fun k=>by omega⟩
 rw [if_neg h1]at hg;by_cases h2:a.aj=2
 ·rw [if_pos h2,Ae]at hg;exact⟨fun _=>Ob h.1 hg.1,fun k=>absurd h2 k, .inr (.inl h2),fun k=>by omega⟩
 rw [if_neg h2]at hg;by_cases h3:a.aj=3
 ·rw [if_pos h3,Ae,Ae,beq_iff_eq]at hg;exact⟨fun _=>Ob h.1 hg.1,fun _=>Ob h.2 hg.2.1, .inr (.inr h3),fun _=>hg.2.2⟩
 rw [if_neg h3]at hg;cases hg
def E5 (t:Ad) (a:Bf) (x:At):Af:=if a.aj=1 then []else Bv t x.ab x.bj a.bq
def Ea (t:Ad) (a:Bf) (x:At):Af:=if a.aj=2 then []else Bv t x.ab x.bj a.bw
def Le (k n:Af) (x:At):List Ay:=if k≠ []∧k≠n∧x.aq≥1 then [⟨3,k, [],0⟩]else []
def JA (n:Af) (x:At):List Ay:=if n≠ []∧x.aq≥2 then [⟨2,n, [],0⟩]else []
def Ha (t:Ad) (a:Bf) (x:At):List Ay:=Le (E5 t a x) (Ea t a x) x++JA (Ea t a x) x
def K6 (t:Ad) (a:Bf):List Ay:=
 if a.aj=1 then [⟨6,(AQ t a.bw).af, [],0⟩,⟨2,(AQ t a.bw).af,(AQ t a.bw).a7,0⟩]else
 if a.aj=2 then [⟨7,(AQ t a.bq).af,(AQ t a.bq).a7,0⟩,⟨3,(AQ t a.bq).af, [],0⟩]else
 [⟨7,(AQ t a.bq).af,(AQ t a.bq).a7,0⟩,⟨2,(AQ t a.bq).af,(AQ t a.bw).a7,0⟩]
def D7 (t:Ad) (a:Bf):List Ay:=t.ah.foldl (fun o x=>o++Ha t a x) (K6 t a)
theorem zFb (k n:Af) (x:At):(Le k n x).length≤1:=by unfold Le;split<;>simp
theorem zG9 (n:Af) (x:At):(JA n x).length≤1:=by unfold JA;split<;>simp
theorem pM (t:Ad) (a:Bf) (x:At):(Ha t a x).length≤2:=by unfold Ha;have:=zFb (E5 t a x) (Ea t a x) x;have:=zG9 (Ea t a x) x;rw [Ar];omega
theorem oR (t:Ad) (a:Bf):(K6 t a).length=2:=by unfold K6;split<;>(try split)<;>rfl
theorem cY {o p:List Ay} (h:o.length≤5000000) (hn:p.length≤5000000):((o.length:Int)+(p.length:Int))*48≤140737488355328∧(o.length:Int)+(p.length:Int)≤140737488355328:=by omega
theorem zDA {t:Ad} {a:Bf} {x:At} (ht:t.ab.length≤2000000) (hn:x.ab.length≤2000000) (hx:EK t x.ab x) (ha:U7 t a):V3 t x a=some (Ha t a x):=by
 have e1:V3 t x a=Zy t x a (E5 t a x):=by
  unfold V3 E5;by_cases h1:a.aj=1
  ·rw [if_neg (by simp [h1]),if_pos h1];rfl
  ·rw [if_pos (by simpa using h1),if_neg h1,WD ht hn hx (ha.old h1)];rfl
 have e2: ∀k,Zy t x a k=VF x k (Ea t a x):=by
  intro k;unfold Zy Ea;by_cases h1:a.aj=2
  ·rw [if_neg (by simp [h1]),if_pos h1]
  ·rw [if_pos (by simpa using h1),if_neg h1,WD ht hn hx (ha.new h1)];rfl
 have e3: ∀(n:Af) (o:List Ay),o.length≤5→ZA x n o=some (o++JA n x):=by
  intro n o ho;unfold ZA JA;by_cases h1:n≠ []∧x.aq≥2
  ·rw [if_pos (by simpa using h1),if_pos h1,AT (cY (by omega) (by simp))]
  ·rw [if_neg (by simpa using h1),if_neg h1,List.append_nil]
 have e4: ∀(k n:Af),VF x k n=some (Le k n x++JA n x):=by
  intro k n;unfold VF Le;by_cases h1:k≠ []∧k≠n∧x.aq≥1
  ·rw [if_pos (by simpa [and_assoc]using h1),if_pos h1,AT (cY (by simp) (by simp)),e3 _ _ (by simp)]
  ·rw [if_neg (by simpa [and_assoc]using h1),if_neg h1,e3 _ _ (by simp)]
 rw [e1,e2,e4];rfl
theorem zAY {t:Ad} {a:Bf} (hc:1≤t.ar.length) (ht:t.ab.length≤2000000) (ha:U7 t a):ZT t a=some (K6 t a):=by
 unfold ZT K6;by_cases h1:a.aj=1
 ·have hr:=ha.new (by omega);rw [if_pos (by simpa using h1),if_pos h1,K5 ht hr.small (Qv hc hr)];rfl
 have hr:=ha.old h1;rw [if_neg (by simpa using h1),if_neg h1,K5 ht hr.small (Qv hc hr),Aa];by_cases h2:a.aj=2
 ·rw [if_pos (by simpa using h2),if_pos h2]
 have hr:=ha.new h2;rw [if_neg (by simpa using h2),if_neg h2,K5 ht hr.small (Qv hc hr)];rfl
theorem yR {t:Ad} {a:Bf} (hS:Di t) (hg:A0 t=true) (ha:U7 t a):aI t a=some (D7 t a):=by
 have hc:=Jt hg;unfold aI;rw [zAY (by omega) hS.name ha,Aa];have hl:=oR t a;exact(F7 (xs:=t.ah) (body:=fun s:Int × List Ay=>Sn t a s.1 s.2) (fun i (o:List Ay)=>(i,o)) (fun o x=>o++Ha t a x) (fun o=>some o) (fun i o=>o.length≤2+2*i)
  (fun i hi o hI=>by have hI:o.length≤2+2*i:=hI;have hw:=Bl hi (by omega);have hk:=pM t a t.ah[i];have hm:=List.getElem_mem hi;refine⟨?_,by show List.length _≤_;rw [Ar];omega⟩;show Sn t a i o=_;unfold Sn;rw [if_pos (by simpa using hi),AN hi,Aa,zDA hS.name (hS.idx _ hm) (cT hg hm) ha,Aa,AT (cY (by omega) (by omega)),hw])
  (fun o _=>by show Sn t a t.ah.length o=_;unfold Sn;rw [if_neg (by simp)]) (s:=K6 t a) (by omega)).1
theorem Oq {k:Int} {w:Ac} {o:List Ay} (h:o.length≤5000000):KS k w o=some ((),o++ [⟨k,w.af,w.a7,0⟩]):=by unfold KS;rw [AT (cY h (by simp))]
theorem zIf {t:Ad} {a:Bf} (hS:Di t) (hg:A0 t=true) (ha:U7 t a):YS t a=some (D7 t a):=by
 have hc:=Jt hg;have hl:=oR t a;have h7: ∀(i:Int) (x:At) (n:Af) (o:List Ay),o.length≤100→Rw i x n o=some (.inl (IntKind.i64.wrap (i+1),o++JA n x)):=by
  intro i x n o ho;unfold Rw JA NG;by_cases h1:n= []
  ·rw [if_neg (by simp [h1]),if_neg (by simp [h1]),List.append_nil]
  rw [if_pos (by simpa using h1),Aa];by_cases h2:x.aq≥2
  ·rw [if_pos (by simpa using h2),if_pos ⟨h1,h2⟩,Oq (by omega)];rfl
  ·rw [if_neg (by simpa using h2),if_neg (fun h=>h2 h.2),List.append_nil]
 have h6: ∀(i:Int) (x:At) (k n:Af) (o:List Ay),o.length≤99→PG i o x k n=some (.inl (IntKind.i64.wrap (i+1),o++(Le k n x++JA n x))):=by
  intro i x k n o ho;unfold PG Le nY;by_cases h1:k= []
  ·rw [if_neg (by simp [h1]),if_neg (by simp [h1]),h7 _ _ _ _ (by omega)];rfl
  rw [if_pos (by simpa using h1)];by_cases h2:k=n
  ·rw [if_neg (by simp [h2]),if_neg (by simp [h2]),h7 _ _ _ _ (by omega)];rfl
  rw [if_pos (by simpa using h2),Aa];by_cases h3:x.aq≥1
  ·rw [if_pos (by simpa using h3),if_pos ⟨h1,h2,h3⟩,Oq (by omega),Aa,h7 _ _ _ _ (by rw [Ar,AH];omega),List.append_assoc]
  ·rw [if_neg (by simpa using h3),if_neg (fun h=>h3 h.2.2),h7 _ _ _ _ (by omega)];rfl
 have JX: ∀o:List Ay,o.length=2→Rv t a o=some (t.ah.foldl (fun o x=>o++Ha t a x) o):=by
  intro o ho;unfold Rv;exact(F7 (xs:=t.ah) (body:=fun s:Int × List Ay=>Ru t a s.1 s.2) (fun i (o:List Ay)=>(i,o)) (fun o x=>o++Ha t a x) (fun o=>some o) (fun i o=>o.length≤2+2*i)
   (fun i hi o hI=>by
    have hI:o.length≤2+2*i:=hI;have hw:=Bl hi (by omega);have hk:=pM t a t.ah[i];have hm:=List.getElem_mem hi;have hx:=cT hg hm;refine⟨?_,by show List.length _≤_;rw [Ar];omega⟩;show Ru t a i o=_;unfold Ru;rw [if_pos (by simpa using hi),AN hi,Aa];have e1:(if(a.aj !=1)=true then(Kj t t.ah[i].ab a.bq).bind fun v20=>some (Sum.inl v20)else some (Sum.inl ([]:Ab)):Option (Ab ⊕ Option ((Int × List Ay) ⊕ Option (List Ay))))=some (.inl (E5 t a t.ah[i])):=by
     unfold E5;by_cases h1:a.aj=1
     ·rw [if_neg (by simp [h1]),if_pos h1]
     ·rw [if_pos (by simpa using h1),if_neg h1,WH hS (hS.idx _ hm) hx (ha.old h1)];rfl
    rw [e1];show lL t a i o t.ah[i] (E5 t a t.ah[i])=_;unfold lL;have e2: ∀k,(if(a.aj !=2)=true then(Kj t t.ah[i].ab a.bw).bind fun v19=>PG i o t.ah[i] k v19 else PG i o t.ah[i] k ([]:Ab))=PG i o t.ah[i] k (Ea t a t.ah[i]):=by
     intro k;unfold Ea;by_cases h1:a.aj=2
     ·rw [if_neg (by simp [h1]),if_pos h1]
     ·rw [if_pos (by simpa using h1),if_neg h1,WH hS (hS.idx _ hm) hx (ha.new h1)];rfl
    rw [e2,h6 _ _ _ _ _ (by omega),hw];rfl)
   (fun o _=>by show Ru t a t.ah.length o=_;unfold Ru;rw [if_neg (by simp)]) (s:=o) (by omega)).1
 have hn:t.ab.length≤2000000:=hS.name;unfold YS D7 K6;rcases ha.kind with h1|h1|h1
 ·have hr:=ha.new (by omega);rw [if_neg (by simp [h1]),if_pos h1];show PF t a [] [] false []=_;unfold PF;rw [if_pos (by simp [h1]),N5 hn hr.small (Qv (by omega) hr),Aa];unfold Vo;rw [if_pos (by simp [h1]),Oq (by simp),Aa,Oq (by simp),Aa,JX _ (by simp)];rfl
 ·have hr:=ha.old (by omega);rw [if_pos (by simp [h1]),if_neg (by omega),if_pos h1,N5 hn hr.small (Qv (by omega) hr),Aa,Oq (by simp),Aa];show PF t a (AQ t a.bq).af (AQ t a.bq).a7 (AQ t a.bq).bh _=_;unfold PF;rw [if_neg (by simp [h1])];unfold Vo;rw [if_neg (by simp [h1]),if_pos (by simp [h1]),Oq (by simp),Aa,JX _ (by simp)];rfl
 ·have hr:=ha.old (by omega);have Db:=ha.new (by omega);have hk:(AQ t a.bq).af=(AQ t a.bw).af:=by
   have:=ha.same h1;unfold C8 at this;unfold AQ;rw [List.head?_eq_getElem?,List.head?_eq_getElem?];exact congrArg (fun z=>t.ab++ [47]++z) this
  rw [if_pos (by simp [h1]),if_neg (by omega),if_neg (by omega),N5 hn hr.small (Qv (by omega) hr),Aa,Oq (by simp),Aa];show PF t a (AQ t a.bq).af (AQ t a.bq).a7 (AQ t a.bq).bh _=_;unfold PF;rw [if_pos (by simp [h1]),N5 hn Db.small (Qv (by omega) Db),Aa];unfold Vo;rw [if_neg (by simp [h1]),if_neg (by simp [h1]),if_pos (by simp [h1]),Oq (by simp),Aa,JX _ (by simp),hk];rfl
theorem Dw {σ α:Type} {body:σ→Option (σ ⊕ Option α)} {s:σ} {o:Option α} (h:body s=some (.inr o)):AA body s=o:=by rw [Fx,h]
theorem DM {σ α:Type} {body:σ→Option (σ ⊕ Option α)} {s s':σ} (h:body s=some (.inl s')):AA body s=AA body s':=by rw [Fx,h]
end Go.Proofs.YtbmbkgalkfmjdaaGreatDoor
end

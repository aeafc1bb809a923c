/- Parts of a proof, joined: QF3, QF4, QF5, QR, NA, NE, NX, QE, N5, N6, N7, N8, N9, N10, N11, N12, N13, N14. -/
import Derived.Test.YtfdfahjmonlbiaaGreatDoorZ8
set_option linter.unusedVariables false
set_option linter.unusedSimpArgs false
noncomputable section
namespace Go.Proofs.YtfdfahjmonlbiaaGreatDoor
open Go.RowKit
set_option maxRecDepth 100000
set_option maxHeartbeats 4000000
def nD:FS:=Ak 168 [.v .s, .v .s] (.v .b) (fun x=>Ru x.1 x.2.1) [zni,zo6] [.sp [.i .i64]]
def zoA:FS:=Ak 113 [.v .s] (.v .b) (fun x=>Vh x.1) [J3,nD] []
def zrV:FS:=Ak 201 [.v (.l .s)] (.v .b) (fun x=>YJ x.1) [zoA] [.sp [.i .i64]]
def zcq:FS:=DF 205 [.v (.l (.st 0)), .fn [.st 0] .b] (.v (.i .i64)) (fun x=>Ff x.1 (fun y=>x.2.1.φ (y,()))) fun x r hp h=>FQ (f:=205) (t:=Qi 3) (by kernel_rfl) (by kernel_rfl) (dD (av:=(Bx tab.av (.st 0))) (cn:=3) (fun _=>⟨_,rfl,rfl⟩) h (fun y b hb=>hp.2.1 (y,()) b hb))
def zb9:FS:=DF 158 [.v (.l (.st 0)), .fn [.st 0] .b] (.v .b) (fun x=>Hq x.1 (fun y=>x.2.1.φ (y,()))) fun x r hp h=>FQ (f:=158) (t:=Qh 205) (by kernel_rfl) (by kernel_rfl) (cY h fun r hr=>zcq.ok x r hp hr)
def zu7:FS:=Ak 246 [.v .s] (.v .b) (fun x=>ZI x.1) [nD] []
def zuk:FS:=Ak 204 [.v .s, .v .b] (.v .b) (fun x=>Y7 x.1 x.2.1) [zu7] []
def zpi:FS:=Ak 203 [.v (.st 0)] (.v .b) (fun x=>Yy x.1) [zuk] []
def zon:FS:=JX zpi fun _=>by kernel_rfl
def zqn:FS:=Ak 157 [.v (.l (.st 0))] (.v .b) (fun x=>YO x.1) [zrZ,zrV,zb9,zon] []
def ztP:FS:=Ak 159 [.v (.st 0)] (.v .b) (fun x=>Za x.1) [] []
def zsb:FS:=JX ztP fun _=>by kernel_rfl
def zwT:FS:=Ak 103 [.v (.l (.st 0))] (.v .b) (fun x=>aF x.1) [zqn,zb9,zsb] []
def zfq:FS:=DF 160 [.v (.l (.st 2)), .fn [.st 2] .b] (.v (.i .i64)) (fun x=>Ff x.1 (fun y=>x.2.1.φ (y,()))) fun x r hp h=>FQ (f:=160) (t:=Qi 3) (by kernel_rfl) (by kernel_rfl) (dD (av:=(Bx tab.av (.st 2))) (cn:=3) (fun _=>⟨_,rfl,rfl⟩) h (fun y b hb=>hp.2.1 (y,()) b hb))
def zeN:FS:=DF 104 [.v (.l (.st 2)), .fn [.st 2] .b] (.v .b) (fun x=>Hq x.1 (fun y=>x.2.1.φ (y,()))) fun x r hp h=>FQ (f:=104) (t:=Qh 160) (by kernel_rfl) (by kernel_rfl) (cY h fun r hr=>zfq.ok x r hp hr)
def zra:FS:=Ak 206 [.v .s, .v (.i .i64)] (.v .b) (fun x=>Rc x.1 x.2.1) [J3] [.sp [.i .i64]]
def ziX:FS:=Ak 247 [.v (.l .s), .v .s] (.v (.i .i64)) (fun x=>X6 x.1 x.2.1) [] [.sp [.i .i64]]
def zem:FS:=Ak 207 [.v (.l .s), .v .s] (.v .b) (fun x=>Uw x.1 x.2.1) [ziX] []
def zuD:FS:=Ak 208 [.v (.i .i64)] (.v .b) (fun x=>nT x.1) [J3] []
def zrO:FS:=Ak 161 [.v (.st 2)] (.v .b) (fun x=>YR x.1) [zra,J3,zuD,zem] [.sp [.i .i64], .sp [.i .i64]]
def zgq:FS:=DF 209 [.v (.l (.st 1)), .fn [.st 1] .b] (.v (.i .i64)) (fun x=>Ff x.1 (fun y=>x.2.1.φ (y,()))) fun x r hp h=>FQ (f:=209) (t:=Qi 3) (by kernel_rfl) (by kernel_rfl) (dD (av:=(Bx tab.av (.st 1))) (cn:=3) (fun _=>⟨_,rfl,rfl⟩) h (fun y b hb=>hp.2.1 (y,()) b hb))
def zl3:FS:=Ak 210 [.v (.st 1), .rf .s] (.v .b) (fun x=>lD x.1 x.2.1) [] []
def zlK:FS:=JX zl3 fun _=>by kernel_rfl
def lF:FS:=Ak 162 [.v (.st 2), .v .s] (.v (.i .i64)) (fun x=>Qy x.1 x.2.1) [zgq,zlK] []
def zwv:FS:=Ak 106 [.v (.st 2), .v .s] (.v .b) (fun x=>aE x.1 x.2.1) [zrO,lF] []
def zqa:FS:=Ak 105 [.v (.st 2), .rf (.st 3)] (.v .b) (fun x=>lO x.1 x.2.1) [zwv] []
def zpe:FS:=JX zqa fun _=>by kernel_rfl
def zjY:FS:=DF 163 [.v (.l (.i .i64)), .fn [.i .i64] .b] (.v (.i .i64)) (fun x=>Ff x.1 (fun y=>x.2.1.φ (y,()))) fun x r hp h=>FQ (f:=163) (t:=XC) (by kernel_rfl) (by kernel_rfl) (uV (av:=(Bx tab.av (.i .i64))) (fun _=>rfl) h (fun y b hb=>hp.2.1 (y,()) b hb))
def ziu:FS:=DF 107 [.v (.l (.i .i64)), .fn [.i .i64] .b] (.v .b) (fun x=>Hq x.1 (fun y=>x.2.1.φ (y,()))) fun x r hp h=>FQ (f:=107) (t:=Qh 163) (by kernel_rfl) (by kernel_rfl) (cY h fun r hr=>zjY.ok x r hp hr)
def zpP:FS:=Ak 108 [.v (.i .i64), .rf (.st 3)] (.v .b) (fun x=>mP x.1 x.2.1) [J3] []
def zpm:FS:=JX zpP fun _=>by kernel_rfl
def lU:FS:=Ak 164 [.v (.st 2), .v .s] (.v (.st 1)) (fun x=>M3 x.1 x.2.1) [lF] []
def Yp:FS:=Ak 111 [.v (.st 3), .v (.st 2)] (.v (.i .i64)) (fun x=>J2 x.1 x.2.1) [lU] []
def zeR:FS:=DF 169 [.v (.l .s)] (.v (.l .s)) (fun x=>Uy x.1) fun x r hp h=>FQ (f:=169) (t:=SQ 16 1) (by kernel_rfl) (by kernel_rfl) (bM (bytes:=16) (sz:=1) (av:=(Bx tab.av .s)) (fun x=>⟨KG _ x,Nh (by kernel_rfl) x⟩) h)
def zhr:FS:=DF 170 [.v (.l (.st 1))] (.v (.l (.st 1))) (fun x=>kZ x.1) fun x r hp h=>FQ (f:=170) (t:=SQ 32 3) (by kernel_rfl) (by kernel_rfl) (bM (bytes:=32) (sz:=3) (av:=(Bx tab.av (.st 1))) (fun x=>⟨KG _ x,Nh (by kernel_rfl) x⟩) h)
def mZ:FS:=Ak 116 [.v (.st 2)] (.v (.st 2)) (fun x=>RA x.1) [zeR,zhr] []
def zlW:FS:=Ak 165 [.v (.st 2), .v .s, .v (.i .i64)] (.v (.st 2)) (fun x=>UC x.1 x.2.1 x.2.2.1) [mZ,lF] []
def zoj:FS:=Ak 110 [.v (.st 2), .v .s, .v (.i .i64)] (.v (.l (.st 2))) (fun x=>Yl x.1 x.2.1 x.2.2.1) [lU,mZ,zlW] [.sp [.i .i64, .l (.st 2)], .inl]
def zcc:FS:=Ak 109 [.v (.l (.st 2)), .v (.l (.st 2)), .fn [.st 2, .st 2] .b] (.v .b) (fun x=>X2 x.1 x.2.1 (fun y0 y1=>x.2.2.1.φ (y0,y1,()))) [] [.sp [.i .i64]]
def ziW:FS:=Ak 166 [.v (.l .s), .v (.l .s)] (.v .b) (fun x=>X5 x.1 x.2.1) [] [.sp [.i .i64]]
def zhn:FS:=Ak 167 [.v (.l (.st 1)), .v (.l (.st 1))] (.v .b) (fun x=>X7 x.1 x.2.1) [] [.sp [.i .i64]]
def zrU:FS:=Ak 112 [.v (.st 2), .v (.st 2)] (.v .b) (fun x=>M6 x.1 x.2.1) [ziW,zhn] []
def zqm:FS:=JX zrU fun _=>by kernel_rfl
def zr1:FS:=Ak 56 [.v (.st 3)] (.v .b) (fun x=>Zk x.1) [J3,zwT,zeN,zpe,ziu,zpm,Yp,zoj,zcc,zqm] []
def ztR:FS:=Ak 57 [.v (.st 4)] (.v .b) (fun x=>Vo x.1) [zoA] []
def zun:FS:=Ak 28 [.v (.st 5)] (.v .b) (fun x=>Zz x.1) [zr1,ztR] []
def zlv:FS:=DF 114 [.v (.l (.i .i64))] (.v (.l (.i .i64))) (fun x=>lB x.1) fun x r hp h=>FQ (f:=114) (t:=SQ 8 1) (by kernel_rfl) (by kernel_rfl) (bM (bytes:=8) (sz:=1) (av:=(Bx tab.av (.i .i64))) (fun x=>⟨KG _ x,Nh (by kernel_rfl) x⟩) h)
def kW:FS:=DF 115 [.v (.l (.st 0))] (.v (.l (.st 0))) (fun x=>OT x.1) fun x r hp h=>FQ (f:=115) (t:=SQ 40 3) (by kernel_rfl) (by kernel_rfl) (bM (bytes:=40) (sz:=3) (av:=(Bx tab.av (.st 0))) (fun x=>⟨KG _ x,Nh (by kernel_rfl) x⟩) h)
def zmW:FS:=Ak 58 [.v (.st 3)] (.v (.st 3)) (fun x=>U9 x.1) [zlv,kW,mZ] [.sp [.i .i64, .l (.st 2)]]
def nL:FS:=Ak 29 [.v (.st 5)] (.v (.st 5)) (fun x=>Rw x.1) [zmW] []
def UG:FS:=Ak 117 [.v (.st 3), .v (.i .i64)] (.v (.st 2)) (fun x=>Gp x.1 x.2.1) [] []
def zd8:FS:=DF 249 [.v (.l .s), .fn [.s] .b] (.v (.i .i64)) (fun x=>Ff x.1 (fun y=>x.2.1.φ (y,()))) fun x r hp h=>FQ (f:=249) (t:=XC) (by kernel_rfl) (by kernel_rfl) (uV (av:=(Bx tab.av .s)) (fun _=>rfl) h (fun y b hb=>hp.2.1 (y,()) b hb))
def zgE:FS:=DF 213 [.v (.l .s), .fn [.s] .b] (.v .b) (fun x=>Hq x.1 (fun y=>x.2.1.φ (y,()))) fun x r hp h=>FQ (f:=213) (t:=Qh 249) (by kernel_rfl) (by kernel_rfl) (cY h fun r hr=>zd8.ok x r hp hr)
def zoy:FS:=Ak 215 [.v .s] (.v .b) (fun x=>RH x.1) [J3,nD] []
def zm3:FS:=Ak 214 [.v .s] (.v .b) (fun x=>Yo x.1) [zoy] []
def zmm:FS:=JX zm3 fun _=>by kernel_rfl
def zj8:FS:=Ak 171 [.v (.st 2), .v (.st 6)] (.v .b) (fun x=>M5 x.1 x.2.1) [zgE,zmm] []
def zmP:FS:=Ak 118 [.v (.st 2), .v (.st 7)] (.v .b) (fun x=>Yd x.1 x.2.1) [zj8] []
def zpC:FS:=Ak 61 [.v (.st 7)] (.v .b) (fun x=>Vt x.1) [] []
def zlB:FS:=Ak 59 [.v (.st 3), .v (.st 8)] (.v .b) (fun x=>X9 x.1 x.2.1) [J3,UG,zmP,zpC] []
def zmD:FS:=Ak 30 [.v (.st 5), .v (.st 9)] (.v .b) (fun x=>Yg x.1 x.2.1) [zlB,J3,zpC] [.pt]
def Ye:FS:=Ak 127 [.v (.st 2), .v (.st 6)] (.v (.st 0)) (fun x=>MY x.1 x.2.1) [zuR] []
def zmM:FS:=Ak 220 [.v (.i .i64), .v (.st 0), .rf (.l (.st 10))] (.tu (.cons (.tu .nil) (.cons (.bo (.l (.st 10))) .nil))) (fun x=>Kv x.1 x.2.1 x.2.2.1) [] []
def zix:FS:=Ak 232 [.v (.st 2), .v .s] (.v .s) (fun x=>UA x.1 x.2.1) [] []
def lM:FS:=Ak 180 [.v (.st 2), .v .s, .v (.st 6)] (.v .s) (fun x=>Lu x.1 x.2.1 x.2.2.1) [zix,lU] []
def zuP:FS:=Ak 221 [.v (.i .i64)] (.v .b) (fun x=>nV x.1) [] []
def nY:FS:=Ak 121 [.v (.i .i64)] (.v .b) (fun x=>M9 x.1) [] []
def znA:FS:=Ak 174 [.v (.st 2), .v (.st 7)] (.v (.l (.st 10))) (fun x=>Yk x.1 x.2.1) [nY,zmM,zuP,lM,Ye] [.sp [.s, .s, .b, .l (.st 10)], .pt, .pt, .sp [.i .i64, .l (.st 10)], .inl, .sp [.s], .pt, .pt]
def zdb:FS:=Ak 275 [.v (.l (.st 0)), .v .s, .fn [.st 0, .s] (.i .i64)] (.tu (.cons (.v (.i .i64)) (.cons (.v .b) .nil))) (fun x=>kV x.1 x.2.1 (fun y0 y1=>x.2.2.1.φ (y0,y1,()))) [] [.sp [.i .i64, .i .i64]]
def zoS:FS:=Ak 293 [.v .s] (.v .b) (fun x=>UW x.1) [] []
def zne:FS:=Ak 277 [.v .s, .v .s] (.v (.i .i64)) (fun x=>Ys x.1 x.2.1) [zoS] []
def zpE:FS:=Ak 276 [.v (.st 0), .v .s] (.v (.i .i64)) (fun x=>Rh x.1 x.2.1) [zne] []
def zoU:FS:=JX zpE fun _=>by kernel_rfl
def mQ:FS:=Ak 256 [.v (.l (.st 0)), .v .s] (.tu (.cons (.v (.i .i64)) (.cons (.v .b) .nil))) (fun x=>M7 x.1 x.2.1) [zdb,zoU] []
def znJ:FS:=Ak 224 [.v (.l (.st 0)), .v (.st 0)] (.v (.l (.st 0))) (fun x=>Pa x.1 x.2.1) [mQ,zf5] []
def zuL:FS:=Ak 252 [.v .s, .v (.l (.st 0)), .v (.l (.st 11))] (.tu (.cons (.v .s) (.cons (.v .b) (.cons (.v .b) .nil)))) (fun x=>Zu x.1 x.2.1 x.2.2.1) [mQ] [.sp [.i .i64]]
def znn:FS:=Ak 254 [.v .s] (.tu (.cons (.v (.i .i64)) (.cons (.v .b) .nil))) (fun x=>Vm x.1) [zu4] []
def zqZ:FS:=Ak 253 [.v (.st 10), .v .s, .v .b] (.v .b) (fun x=>YU x.1 x.2.1 x.2.2.1) [znn,J3] []
def zuA:FS:=Ak 222 [.v (.l (.st 10)), .v (.l (.st 11))] (.tu (.cons (.v (.i .i64)) (.cons (.v .s) (.cons (.v (.l (.st 0))) .nil)))) (fun x=>nN x.1 x.2.1) [znJ,zuL,zqZ,znn,zuO] [.sp [.i .i64, .l (.st 0)], .inl]
def zy1:FS:=Ak 223 [.v (.l (.st 0)), .v .s] (.v (.st 11)) (fun x=>aK x.1 x.2.1) [mQ] []
def ztn:FS:=Ak 176 [.v (.l (.st 0)), .v (.l (.st 10))] (.tu (.cons (.v (.l (.st 11))) (.cons (.v (.l (.st 0))) (.cons (.v .b) .nil)))) (fun x=>nG x.1 x.2.1) [zuA,zy1] [.sp [.l (.st 11)]]
def ze9:FS:=DF 225 [.v (.l (.st 0)), .fn [.st 0] .b] (.v (.l (.st 0))) (fun x=>IW x.1 (fun y=>x.2.1.φ (y,()))) fun x r hp h=>FQ (f:=225) (t:=XT 205 3 true (.mk (.cons (.fld (.fld (.idx (.var 5) (.var 4)) 0 3 true) 0 1 false) (.cons (.fld (.fld (.idx (.var 5) (.var 4)) 0 3 true) 1 1 false) (.cons (.fld (.fld (.idx (.var 5) (.var 4)) 0 3 true) 2 1 false) .nil)))) [(.agg (.fld (.idx (.var 5) (.var 4)) 0 3 true) 3)] (.mk (.cons (.str (ByteArray.mk #[])) (.cons (.str (ByteArray.mk #[])) (.cons (.bool false) .nil))))) (by kernel_rfl) (by kernel_rfl) (xE (av:=(Bx tab.av (.st 0))) (fun x=>⟨KG _ x,Nh (by kernel_rfl) x,fun _=>⟨_,rfl⟩,fun e=>nomatch e⟩) (by decide) (fun a b c d j ys x tl hj=>by simp [AV.nth,hj,Bx,Ln]) (fun a b c d j ys x hj=>by simp [AV.nth,hj,Bx,Ln]) h (fun i hi=>zcq.ok x i hp hi) (fun y b hb=>hp.2.1 (y,()) b hb))
def zsf:FS:=Ak 226 [.v (.st 0)] (.v .b) (fun x=>mV x.1) [] []
def zqq:FS:=JX zsf fun _=>by kernel_rfl
def zuX:FS:=Ak 177 [.v (.l (.st 0)), .v (.l (.st 0))] (.tu (.cons (.v (.l (.st 0))) (.cons (.v .b) .nil))) (fun x=>ZD x.1 x.2.1) [kW,ze9,zqq,znJ] [.sp [.i .i64, .l (.st 0)]]
def zqc:FS:=Ak 125 [.v (.l (.st 0)), .v (.l (.st 10))] (.tu (.cons (.v (.l (.st 0))) (.cons (.v .b) .nil))) (fun x=>Vu x.1 x.2.1) [ztn,zuX] []
def zk3:FS:=Ak 120 [.v (.st 3), .v (.st 8)] (.tu (.cons (.v (.st 3)) (.cons (.v .b) .nil))) (fun x=>QS x.1 x.2.1) [zmW,J3,UG,znA,zqc] []
def zmt:FS:=Ak 216 [.v (.l (.i .i64))] (.v (.i .i64)) (fun x=>Yc x.1) [] [.sp [.i .i64, .i .i64]]
def zmh:FS:=Ak 217 [.v (.l (.i .i64))] (.v (.i .i64)) (fun x=>Yh x.1) [] [.sp [.i .i64, .i .i64]]
def zmK:FS:=Ak 172 [.v (.st 3)] (.v .b) (fun x=>Yf x.1) [zmt,zmh] []
def zoX:FS:=Ak 219 [.v (.st 3)] (.v (.i .i64)) (fun x=>YA x.1) [UG,Yp] [.sp [.i .i64, .i .i64], .inl]
def zir:FS:=Ak 280 [.v .s, .v .s] (.v .b) (fun x=>X4 x.1 x.2.1) [] []
def ziw:FS:=Ak 258 [.v .s, .v .s] (.tu (.cons (.v .s) (.cons (.v .b) .nil))) (fun x=>kY x.1 x.2.1) [zir] []
def zkO:FS:=Ak 227 [.v .s, .v .s] (.tu (.cons (.v .s) (.cons (.v .b) .nil))) (fun x=>UX x.1 x.2.1) [ziw] []
def zk7:FS:=Ak 262 [.v .s, .v .s] (.tu (.cons (.v .s) (.cons (.v .s) (.cons (.v .b) .nil)))) (fun x=>Ya x.1 x.2.1) [zfY] []
def zwV:FS:=Ak 233 [.v .s, .v .s] (.tu (.cons (.v .s) (.cons (.v .s) (.cons (.v .b) .nil)))) (fun x=>RN x.1 x.2.1) [zk7] []
def zlq:FS:=Ak 181 [.v (.st 2), .v .s, .v .s] (.tu (.cons (.v .s) (.cons (.v .s) (.cons (.v .b) .nil)))) (fun x=>X8 x.1 x.2.1 x.2.2.1) [zix,zkO,zwV,zoy] []
def Yj:FS:=Ak 129 [.v (.st 2), .v .s, .v (.l (.st 0))] (.v (.l .s)) (fun x=>OU x.1 x.2.1 x.2.2.1) [zlq] [.sp [.i .i64, .l .s], .inl]
def zs9:FS:=Ak 283 [.v .s, .v .s] (.v (.i .i64)) (fun x=>Y8 x.1 x.2.1) [zfY] []
def zpq:FS:=Ak 259 [.v .s, .v .s, .v (.i .i64), .v (.i .i64)] (.v (.l .s)) (fun x=>lS x.1 x.2.1 x.2.2.1 x.2.2.2.1) [zqC,zs9,zte] [.pt, .sp [.s, .i .i64, .l .s]]
def ztm:FS:=Ak 228 [.v .s, .v .s] (.v (.l .s)) (fun x=>Vj x.1 x.2.1) [zpq] []
def zm4:FS:=Ak 178 [.v (.st 2), .v (.st 0)] (.tu (.cons (.v (.st 6)) (.cons (.v .b) .nil))) (fun x=>Yr x.1 x.2.1) [zkO,ztm,zj8,Ye] []
def zjv:FS:=Ak 126 [.v (.st 2), .v (.l (.st 0))] (.v (.l (.st 6))) (fun x=>Uz x.1 x.2.1) [zm4] [.sp [.i .i64, .l (.st 6)], .inl]
def zjF:FS:=Ak 272 [.v (.st 2), .v .s, .v (.l (.st 0))] (.v (.l .s)) (fun x=>UL x.1 x.2.1 x.2.2.1) [zjv,lM] [.sp [.i .i64, .l .s]]
def zgU:FS:=DF 289 [.v (.l .s), .fn [.s] .b] (.v (.l .s)) (fun x=>IW x.1 (fun y=>x.2.1.φ (y,()))) fun x r hp h=>FQ (f:=289) (t:=XT 249 1 false (.fld (.idx (.var 5) (.var 4)) 0 1 false) [] (.str (ByteArray.mk #[]))) (by kernel_rfl) (by kernel_rfl) (xE (av:=(Bx tab.av .s)) (fun x=>⟨KG _ x,Nh (by kernel_rfl) x,(fun e=>nomatch e),fun _=>rfl⟩) (by decide) (fun a b c d j ys x tl hj=>by simp [AV.nth,hj,Bx,Ln]) (fun a b c d j ys x hj=>by simp [AV.nth,hj,Bx,Ln]) h (fun i hi=>zd8.ok x i hp hi) (fun y b hb=>hp.2.1 (y,()) b hb))
def zr3:FS:=Ak 290 [.v .s, .rf (.l .s)] (.v .b) (fun x=>mR x.1 x.2.1) [zem] []
def zqp:FS:=JX zr3 fun _=>by kernel_rfl
def zov:FS:=Ak 271 [.v (.l .s), .v (.l .s)] (.v (.l .s)) (fun x=>Vd x.1 x.2.1) [zeR,zgU,zqp] []
def zlO:FS:=Ak 250 [.v (.st 2), .v .s, .v (.l (.st 0))] (.v (.l .s)) (fun x=>Yi x.1 x.2.1 x.2.2.1) [Yj,zjF,zov] []
def zm7:FS:=Ak 251 [.v (.st 2), .v .s, .v (.l (.st 0))] (.v (.l .s)) (fun x=>lE x.1 x.2.1 x.2.2.1) [zjF,Yj,zov] []
def zm1:FS:=Ak 218 [.v (.st 2), .v .s, .v (.i .i64), .v (.l (.st 0))] (.v .b) (fun x=>Yq x.1 x.2.1 x.2.2.1 x.2.2.2.1) [Yj,zlO,zm7] []
def znm:FS:=Ak 173 [.v (.st 3)] (.v .b) (fun x=>UK x.1) [zoX,zm1] []
def zpQ:FS:=Ak 119 [.v (.st 3), .v (.st 8)] (.v .b) (fun x=>Yx x.1 x.2.1) [zk3,zmK,znm] []
def znG:FS:=Ak 62 [.v (.st 5), .v (.st 8)] (.tu (.cons (.v (.st 5)) (.cons (.v .b) .nil))) (fun x=>Lv x.1 x.2.1) [nL,zpQ,zk3,UG,Yp,nY] [.inl]
def zkV:FS:=Ak 63 [.v (.st 5)] (.v (.i .i64)) (fun x=>QF x.1) [UG,Yp,nY] [.sp [.i .i64, .i .i64], .inl]
def zm0:FS:=Ak 128 [.v (.st 2), .v .s, .v (.st 6)] (.v (.l (.st 10))) (fun x=>Ym x.1 x.2.1 x.2.2.1) [Ye,lM] []
def zom:FS:=Ak 65 [.v (.st 2), .v .s, .v (.l (.st 0))] (.v (.l (.st 12))) (fun x=>UI x.1 x.2.1 x.2.2.1) [zjv,Ye,zm0] [.sp [.i .i64, .l (.st 12)]]
def zgN:FS:=DF 123 [.v (.l (.st 12))] (.v (.l (.st 12))) (fun x=>kX x.1) fun x r hp h=>FQ (f:=123) (t:=sW 40 2) (by kernel_rfl) (by kernel_rfl) (zCe (bytes:=40) (sz:=2) (av:=(Bx tab.av (.st 12))) (fun x=>KG _ x) h)
def zfV:FS:=DF 175 [.v (.l (.st 12)), .fn [.st 12] .b] (.v (.i .i64)) (fun x=>Ff x.1 (fun y=>x.2.1.φ (y,()))) fun x r hp h=>FQ (f:=175) (t:=Qi 2) (by kernel_rfl) (by kernel_rfl) (dD (av:=(Bx tab.av (.st 12))) (cn:=2) (fun _=>⟨_,rfl,rfl⟩) h (fun y b hb=>hp.2.1 (y,()) b hb))
def zfy:FS:=DF 122 [.v (.l (.st 12)), .fn [.st 12] .b] (.v (.l (.st 12))) (fun x=>IW x.1 (fun y=>x.2.1.φ (y,()))) fun x r hp h=>FQ (f:=122) (t:=jB 175 2 (.mk (.cons (.fld (.fld (.idx (.var 5) (.var 4)) 0 2 true) 0 1 false) (.cons (.fld (.fld (.idx (.var 5) (.var 4)) 0 2 true) 1 1 false) .nil))) [(.agg (.fld (.idx (.var 5) (.var 4)) 0 2 true) 2)] (.mk (.cons (.str (ByteArray.mk #[])) (.cons (.lst .nil) .nil)))) (by kernel_rfl) (by kernel_rfl) (zGh (av:=(Bx tab.av (.st 12))) (fun x=>⟨KG _ x,_,rfl⟩) (by decide) (fun a b c d j ys x tl hj=>by simp [AV.nth,hj,Bx,Ln]) (fun a b c d j ys x hj=>by simp [AV.nth,hj,Bx,Ln]) h (fun i hi=>zfV.ok x i hp hi) (fun y b hb=>hp.2.1 (y,()) b hb))
def zu8:FS:=Ak 124 [.v (.st 12), .rf (.st 4)] (.v .b) (fun x=>Zt x.1 x.2.1) [] []
def zsM:FS:=JX zu8 fun _=>by kernel_rfl
def zyH:FS:=Ak 64 [.v (.l (.st 12)), .v (.l (.st 0)), .v (.st 4), .v (.i .i64)] (.tu (.cons (.v (.l (.st 0))) (.cons (.v (.st 4)) .nil))) (fun x=>Nf x.1 x.2.1 x.2.2.1 x.2.2.2.1) [zgN,zfy,zsM,kW,zqc] [.sp [.l (.st 0), .i .i64, .s]]
def znq:FS:=Ak 66 [.v (.st 2), .v .s, .v (.l (.st 0))] (.v (.l (.st 12))) (fun x=>QY x.1 x.2.1 x.2.2.1) [Yj] [.sp [.i .i64, .l (.st 12)]]
def zpz:FS:=Ak 31 [.v (.st 5), .v (.st 9)] (.tu (.cons (.v (.st 5)) (.cons (.v .b) .nil))) (fun x=>M4 x.1 x.2.1) [znG,nL,zkV,zom,zyH,znq] [.inl]
def ztJ:FS:=Ak 9 [.v (.st 5), .v (.l (.st 9))] (.tu (.cons (.v (.st 5)) (.cons (.v (.l .b)) (.cons (.v .b) .nil)))) (fun x=>Vn x.1 x.2.1) [zun,nL,zmD,zpz] [.sp [.i .i64, .s, .s, .b, .s, .b, .l (.st 2), .l (.i .i64), .l (.st 0), .l .b], .inl]
def zmY:FS:=Ak 182 [.v (.l .s), .v (.l .s)] (.v .b) (fun x=>U2 x.1 x.2.1) [] [.sp [.i .i64]]
def zx5:FS:=Ak 234 [.v (.st 1), .v (.st 1)] (.v .b) (fun x=>ZV x.1 x.2.1) [] []
def zwG:FS:=Ak 183 [.v (.l (.st 1)), .v (.l (.st 1))] (.v .b) (fun x=>Z2 x.1 x.2.1) [zx5] [.sp [.i .i64]]
def zuS:FS:=Ak 130 [.v (.st 2), .v (.st 2)] (.v .b) (fun x=>ZO x.1 x.2.1) [zmY,zwG] []
def ztc:FS:=Ak 67 [.v (.l (.st 2)), .v (.l (.st 2))] (.v .b) (fun x=>Zl x.1 x.2.1) [zuS] [.sp [.i .i64]]
def zwx:FS:=Ak 68 [.v (.l (.i .i64)), .v (.l (.i .i64))] (.v .b) (fun x=>Z4 x.1 x.2.1) [] [.sp [.i .i64]]
def zvj:FS:=Ak 131 [.v (.st 0), .v (.st 0)] (.v .b) (fun x=>Zq x.1 x.2.1) [] []
def zsH:FS:=Ak 69 [.v (.l (.st 0)), .v (.l (.st 0))] (.v .b) (fun x=>ZA x.1 x.2.1) [zvj] [.sp [.i .i64]]
def zuC:FS:=Ak 32 [.v (.st 3), .v (.st 3)] (.v .b) (fun x=>ZS x.1 x.2.1) [ztc,zwx,zsH] []
def zxL:FS:=Ak 33 [.v (.st 4), .v (.st 4)] (.v .b) (fun x=>Vr x.1 x.2.1) [] []
def zw9:FS:=Ak 10 [.v (.st 5), .v (.st 5)] (.v .b) (fun x=>Pf x.1 x.2.1) [zuC,zxL] []
def zuH:FS:=Ak 11 [.v (.l .b), .v (.l .b)] (.v .b) (fun x=>RE x.1 x.2.1) [] [.sp [.i .i64]]
def zzh:FS:=Ak 184 [.v (.st 6), .v (.st 6)] (.v .b) (fun x=>VB x.1 x.2.1) [zmY] []
def zuf:FS:=Ak 132 [.v (.st 7), .v (.st 7)] (.v .b) (fun x=>YY x.1 x.2.1) [zzh] []
def zqv:FS:=Ak 70 [.v (.st 8), .v (.st 8)] (.v .b) (fun x=>YS x.1 x.2.1) [zuf] []
def zsg:FS:=Ak 34 [.v (.st 9), .v (.st 9)] (.v .b) (fun x=>Zi x.1 x.2.1) [zqv] []
def zqN:FS:=Ak 12 [.v (.l (.st 9)), .v (.l (.st 9))] (.v .b) (fun x=>YT x.1 x.2.1) [zsg] [.sp [.i .i64]]
def Nb:FS:=Ak 74 [.v (.i .i64)] (.v .s) (fun x=>Hr x.1) [] [.sp [.i .i64, .s]]
def zle:FS:=Ak 36 [.v (.l .s), .v (.i .i64)] (.tu (.cons (.v (.i .i64)) (.cons (.v (.l .s)) .nil))) (fun x=>UY x.1 x.2.1) [Nb] [.sp [.i .i64, .i .i64, .l .s]]
def ztX:FS:=Ak 133 [.v (.l (.st 1)), .v (.i .i64)] (.tu (.cons (.v (.i .i64)) (.cons (.v (.l (.st 1))) .nil))) (fun x=>nF x.1 x.2.1) [Nb] [.sp [.i .i64, .i .i64, .l (.st 1)]]
def zqG:FS:=Ak 71 [.v (.l (.st 2)), .v (.i .i64)] (.tu (.cons (.v (.i .i64)) (.cons (.v (.l (.st 2))) .nil))) (fun x=>mO x.1 x.2.1) [Nb,zle,ztX] [.sp [.i .i64, .i .i64, .l (.st 2)]]
def zup:FS:=Ak 72 [.v (.l (.i .i64)), .v (.i .i64)] (.tu (.cons (.v (.i .i64)) (.cons (.v (.l (.i .i64))) .nil))) (fun x=>nK x.1 x.2.1) [] [.sp [.i .i64, .i .i64, .l (.i .i64)]]
def zqE:FS:=Ak 73 [.v (.l (.st 0)), .v (.i .i64)] (.tu (.cons (.v (.i .i64)) (.cons (.v (.l (.st 0))) .nil))) (fun x=>mE x.1 x.2.1) [Nb] [.sp [.i .i64, .i .i64, .l (.st 0)]]
def zrY:FS:=Ak 35 [.v (.st 3), .v (.i .i64)] (.tu (.cons (.v (.i .i64)) (.cons (.v (.st 3)) .nil))) (fun x=>YF x.1 x.2.1) [zqG,zup,zqE] []
def ztS:FS:=Ak 13 [.v (.st 5), .v (.i .i64)] (.tu (.cons (.v (.i .i64)) (.cons (.v (.st 5)) .nil))) (fun x=>Vp x.1 x.2.1) [zrY] []
def zoQ:FS:=Ak 14 [.v (.l (.st 9)), .v (.i .i64)] (.tu (.cons (.v (.i .i64)) (.cons (.v (.l (.st 9))) .nil))) (fun x=>lY x.1 x.2.1) [zle] [.sp [.i .i64, .i .i64, .l (.st 9)]]
def zrQ:FS:=Ak 15 [.v (.l .b), .v (.i .i64)] (.tu (.cons (.v (.i .i64)) (.cons (.v (.l .b)) .nil))) (fun x=>mU x.1 x.2.1) [] [.sp [.i .i64, .i .i64, .l .b]]
def zpY:FS:=Ak 134 [.v (.l .s), .v (.i .i64)] (.v (.i .i64)) (fun x=>lR x.1 x.2.1) [Nb] [.sp [.i .i64, .i .i64]]
def zt5:FS:=Ak 135 [.v (.l (.st 1)), .v (.i .i64)] (.v (.i .i64)) (fun x=>nJ x.1 x.2.1) [Nb] [.sp [.i .i64, .i .i64]]
def zrb:FS:=Ak 75 [.v (.l (.st 2)), .v (.i .i64)] (.v (.i .i64)) (fun x=>mK x.1 x.2.1) [Nb,zpY,zt5] [.sp [.i .i64, .i .i64]]
def ztU:FS:=Ak 76 [.v (.l (.i .i64)), .v (.i .i64)] (.v (.i .i64)) (fun x=>nI x.1 x.2.1) [] [.sp [.i .i64, .i .i64]]
def zqK:FS:=Ak 77 [.v (.l (.st 0)), .v (.i .i64)] (.v (.i .i64)) (fun x=>mI x.1 x.2.1) [Nb] [.sp [.i .i64, .i .i64]]
def zr9:FS:=Ak 37 [.v (.st 3), .v (.i .i64)] (.v (.i .i64)) (fun x=>Zh x.1 x.2.1) [zrb,ztU,zqK] []
def zsY:FS:=Ak 16 [.v (.st 5), .v (.i .i64)] (.v (.i .i64)) (fun x=>Vq x.1 x.2.1) [zr9] []
def zse:FS:=Ak 17 [.v (.l .b), .v (.i .i64)] (.v (.i .i64)) (fun x=>YG x.1 x.2.1) [] [.sp [.i .i64, .i .i64]]
def ziy:FS:=Ak 3 [.v (.st 5), .v (.l (.st 9))] (.v .b) (fun x=>Yn x.1 x.2.1) [zxs,zqs,zwE,zql,ztK,ztJ,zw9,zuH,zqN,ztS,zoQ,zrQ,zsY,zse] []
theorem zm2 (a0:AI) (a1:List Bm) (r:Bool) (h:Yn a0 a1=some r):Ck Tryz.prog Cj 3 [jG a0, .sl (a1.map cC)] (.bool r):=ziy.ok (a0,a1,()) r (by simp [ziy,Ak,HV,Ut]) h
theorem AK {α:Type} {xs:List α} {i:Nat} (h:i<xs.length):Am xs (i:Int)=some xs[i]:=by simp [Am,h]
theorem LV {α:Type} {xs:List α} {i:Int} (h0:0≤i) (h:i<xs.length): ∃x,Am xs i=some x∧x∈xs∧xs[i.toNat]?=some x:=by
 have hi:i.toNat<xs.length:=by omega
 exact⟨xs[i.toNat],by simp [Am,h0,hi],List.getElem_mem hi,by simp [hi]⟩
theorem rS {α:Type} {xs:List α} {i:Int} {x:α} (h:Am xs i=some x):x∈xs:=by obtain⟨h1,h2,h3⟩:=XQ h;exact List.mem_of_getElem? h3
theorem AX {q n:Nat} (h:q<n) (hn:n≤9223372036854775807):IntKind.i64.wrap ((q:Int)+1)=((q+1:Nat):Int):=by rw [A9 (by omega) (by omega)];simp
theorem AN {α:Type} {p:Prop} {k:Option α} (h:p):AD p k=k:=by simp [AD,h]
def HD {α σ β:Type} (step:α→σ→Option (σ ⊕ Option β)) (fin:σ→Option β):List α→σ→Option β
 | [],s=>fin s
 |x::xs,s=>match step x s with
  |none=>none
  |some (.inl s')=>HD step fin xs s'
  |some (.inr o)=>o
def L9 {σ τ β:Type} (f:σ→τ):Option (σ ⊕ Option β)→Option (τ ⊕ Option β)
 |none=>none
 |some (.inl s)=>some (.inl (f s))
 |some (.inr o)=>some (.inr o)
theorem zC2 {α σ τ β:Type} {xs:List α} {body:τ→Option (τ ⊕ Option β)} (emb:Int→σ→τ) (step:α→σ→Option (σ ⊕ Option β)) (fin:σ→Option β) (q0:Nat)
  (hs: ∀(i:Nat) (hi:i<xs.length) (s:σ),q0≤i→body (emb i s)=L9 (emb ((i+1:Nat):Int)) (step xs[i] s)) (he: ∀s,body (emb xs.length s)=some (.inr (fin s))) (s:σ) (h0:q0≤xs.length):At body (emb q0 s)=HD step fin (xs.drop q0) s:=by
 have key: ∀(n q:Nat) (s:σ),q0≤q→q+n=xs.length→At body (emb q s)=HD step fin (xs.drop q) s:=by
  intro n
  induction n with
  |zero=>
   intro q s _ hq;have:q=xs.length:=by omega
   subst this;rw [DG,he s];simp [HD]
  |succ n ih=>
   intro q s h0 hq;have An:q<xs.length:=by omega
   rw [DG,hs q An s h0,List.drop_eq_getElem_cons An];rcases A0:step xs[q] s with _|s'|o
   ·simp [HD,A0,L9]
   ·simp only [HD,A0,L9];exact ih (q+1) s' (by omega) (by omega)
   ·simp [HD,A0,L9]
 exact key (xs.length-q0) q0 s (Nat.le_refl _) (by omega)
theorem bP {α σ τ β:Type} {xs:List α} {body:τ→Option (τ ⊕ Option β)} (emb:Int→σ→τ) (step:α→σ→Option (σ ⊕ Option β)) (fin:σ→Option β)
  (hs: ∀(i:Nat) (hi:i<xs.length) (s:σ),body (emb i s)=L9 (emb ((i+1:Nat):Int)) (step xs[i] s)) (he: ∀s,body (emb xs.length s)=some (.inr (fin s))) (s:σ):At body (emb 0 s)=HD step fin xs s:=by
 have:=zC2 emb step fin 0 (fun i hi s _=>hs i hi s) he s (by omega);simpa using this
theorem sX {α σ β:Type} {step:α→σ→Option (σ ⊕ Option β)} {fin:σ→Option β} {xs:List α} (p:α→Bool) (b:β) (h: ∀x∈xs,∀s,step x s=some (if p x=true then .inl s else .inr (some b))) (s:σ):HD step fin xs s=if xs.all p=true then fin s else some b:=by
 induction xs with
 |nil=>simp [HD]
 |cons x xs ih=>
  simp only [HD,h x (by simp) s];cases hp:p x with
  |true=>simp [hp,ih fun y hy=>h y (by simp [hy])]
  |false=>simp [hp]
theorem zFb {α σ β:Type} {step:α→σ→Option (σ ⊕ Option β)} {fin:σ→Option β} {xs:List α} (f:σ→α→σ) (I:σ→Prop) (hI: ∀x∈xs,∀s,I s→I (f s x)) (h: ∀x∈xs,∀s,I s→step x s=some (.inl (f s x))) {s:σ} (hs:I s):HD step fin xs s=fin (xs.foldl f s):=by
 induction xs generalizing s with
 |nil=>simp [HD]
 |cons x xs ih=>simp only [HD,h x (by simp) s hs,List.foldl_cons];exact ih (fun y hy=>hI y (by simp [hy])) (fun y hy=>h y (by simp [hy])) (hI x (by simp) s hs)
theorem Fw {α σ τ β:Type} {xs:List α} {body:τ→Option (τ ⊕ Option β)} (emb:Int→σ→τ) (f:σ→α→σ) (fin:σ→Option β) (I:Nat→σ→Prop)
  (hs: ∀(i:Nat) (hi:i<xs.length) (s:σ),I i s→body (emb i s)=some (.inl (emb ((i+1:Nat):Int) (f s xs[i])))∧I (i+1) (f s xs[i])) (he: ∀s,I xs.length s→body (emb xs.length s)=some (.inr (fin s))) {s:σ} (h0:I 0 s):At body (emb 0 s)=fin (xs.foldl f s)∧I xs.length (xs.foldl f s):=by
 have key: ∀(n q:Nat) (s:σ),q+n=xs.length→I q s→At body (emb q s)=fin ((xs.drop q).foldl f s)∧I xs.length ((xs.drop q).foldl f s):=by
  intro n
  induction n with
  |zero=>
   intro q s hq hI;have:q=xs.length:=by omega
   subst this;rw [DG,he s hI];simp [hI]
  |succ n ih=>
   intro q s hq hI;have An:q<xs.length:=by omega
   obtain⟨h1,h2⟩:=hs q An s hI;rw [DG,h1,List.drop_eq_getElem_cons An,List.foldl_cons];exact ih (q+1) _ (by omega) h2
 have:=key xs.length 0 s (by omega) h0;simpa using this
theorem Ws {α:Type} {xs:List α} {p:α→Option Bool} (q:α→Bool) (hp: ∀x∈xs,p x=some (q x)) (hn:xs.length≤9223372036854775806):Hq xs p=some (xs.any q):=by
 have key: ∀(l:List α) (i:Int),0≤i→(∀x∈l,p x=some (q x))→ ∃r,D6 p l i=some r∧decide (r≥0)=l.any q:=by
  intro l
  induction l with
  |nil=>intro i _ _;exact⟨-1,rfl,by simp⟩
  |cons x l ih=>
   intro i hi h;simp only [D6,h x (by simp),Aa];cases hq:q x with
   |true=>exact⟨i,by simp,by simp [hq,hi]⟩
   |false=>obtain⟨r,h1,h2⟩:=ih (i+1) (by omega) fun y hy=>h y (by simp [hy]);exact⟨r,by simp [h1],by simp [hq,h2]⟩
 obtain⟨r,h1,h2⟩:=key xs 0 (by omega) hp;simp [Hq,Ff,AN hn,h1,h2]
theorem Np {α:Type} {b:Nat} {xs:List α} (h:(xs.length:Int)*b≤140737488355328) (h2:(xs.length:Int)≤140737488355328):Nv b xs=some xs:=AN ⟨h,h2⟩
theorem Nk {β:Type} {n:Nat} {body:Int→Option (Int ⊕ Option β)} (p:Nat→Bool) (b:β) (fin:Option β)
  (hs: ∀i:Nat,i<n→body i=some (if p i=true then .inl ((i+1:Nat):Int)else .inr (some b))) (he:body n=some (.inr fin)):At body 0=if(List.range n).all p=true then fin else some b:=by
 have h1:=bP (xs:=List.range n) (body:=body) (fun i (_:Unit)=>i) (fun i _=>some (if p i=true then .inl ()else .inr (some b))) (fun _=>fin)
  (fun i hi s=>by rw [List.length_range]at hi;rw [hs i hi,List.getElem_range];cases p i<;>simp [L9]) (fun s=>by simpa using he) ()
 rw [sX p b fun x _ s=>rfl]at h1;exact h1
def BS {α:Type} (p:α→Bool) (l:List α):Int:=match l.findIdx? p with|some i=>(i:Int)|none=> -1
theorem cO {α:Type} (p:α→Bool):BS p []= -1:=rfl
theorem Sf {α:Type} (p:α→Bool) (x:α) (l:List α):BS p (x::l)=if p x=true then 0 else if BS p l= -1 then-1 else BS p l+1:=by
 unfold BS;rw [List.findIdx?_cons];cases p x with
 |true=>simp
 |false=>
  cases h:l.findIdx? p with
  |none=>simp
  |some i=>simp<;>omega
theorem Wj {α:Type} (p:α→Bool) (l:List α): -1≤BS p l:=by unfold BS;split<;>omega
theorem Sg {α:Type} (p:α→Bool) (l:List α):decide (BS p l≥0)=l.any p:=by
 induction l with
 |nil=>simp [cO]
 |cons x l ih=>
  have h1:=Wj p l;rw [Sf,List.any_cons,←ih];cases p x with
  |true=>simp
  |false=>
   by_cases h:BS p l= -1
   ·simp [h]
   ·have:BS p l≥0:=by omega
    simp [h,this];try omega
theorem vT {α:Type} {p:α→Bool} {l:List α} (h:BS p l≥0): ∃x,Am l (BS p l)=some x∧p x=true∧x∈l:=by
 induction l with
 |nil=>simp [cO]at h
 |cons y l ih=>
  rw [Sf]at h ⊢;cases hy:p y with
  |true=>exact⟨y,by simp [Am],hy,by simp⟩
  |false=>
   have h1:=Wj p l;by_cases hm:BS p l= -1
   ·rw [hy,hm]at h;simp at h
   ·have h0:BS p l≥0:=by omega
    obtain⟨x,e1,e2,e3⟩:=ih h0;obtain⟨_,e4,e5⟩:=XQ e1;refine⟨x, ?_,e2,by simp [e3]⟩;simp only [AM,if_false,hm];unfold Am;rw [if_pos (by omega),show(BS p l+1).toNat=(BS p l).toNat+1 by omega];simpa using e5
theorem rH {α:Type} {xs:List α} {body:Int→Option (Int ⊕ Option Int)} (p:α→Bool) (hs: ∀(i:Nat) (hi:i<xs.length),body i=some (if p xs[i]=true then .inr (some (i:Int))else .inl ((i+1:Nat):Int))) (he:body xs.length=some (.inr (some (-1)))):At body 0=some (BS p xs):=by
 have key: ∀(n q:Nat),q+n=xs.length→At body q=some (if BS p (xs.drop q)= -1 then-1 else q+BS p (xs.drop q)):=by
  intro n
  induction n with
  |zero=>
   intro q hq;have:q=xs.length:=by omega
   subst this;rw [DG,he];simp [cO]
  |succ n ih=>
   intro q hq;have An:q<xs.length:=by omega
   rw [DG,hs q An,List.drop_eq_getElem_cons An,Sf];cases p xs[q]with
   |true=>simp
   |false=>
    simp only [AM,if_false];rw [ih (q+1) (by omega)];have h1:=Wj p (xs.drop (q+1));congr 1;by_cases hm:BS p (xs.drop (q+1))= -1
    ·simp [hm]
    ·have h2: ¬(BS p (xs.drop (q+1))+1= -1):=by omega
     simp only [hm,if_false,h2];omega
 have h:=key xs.length 0 (by omega);rw [List.drop_zero]at h;rw [show((0:Nat):Int)=0 from rfl]at h;rw [h];have h1:=Wj p xs;by_cases hm:BS p xs= -1
 ·simp [hm]
 ·simp [hm]
theorem zyv {α:Type} {xs:List α} {p:α→Option Bool} (q:α→Bool) (hp: ∀x∈xs,p x=some (q x)) (hn:xs.length≤9223372036854775806):Ff xs p=some (BS q xs):=by
 have key: ∀(l:List α) (i:Int),(∀x∈l,p x=some (q x))→D6 p l i=some (if BS q l= -1 then-1 else i+BS q l):=by
  intro l
  induction l with
  |nil=>intro i _;simp [D6,cO]
  |cons x l ih=>
   intro i h;simp only [D6,h x (by simp),Aa,Sf];cases q x with
   |true=>simp
   |false=>
    simp only [AM,if_false];rw [ih (i+1) fun y hy=>h y (by simp [hy])];have h1:=Wj q l;congr 1;by_cases hm:BS q l= -1
    ·simp [hm]
    ·have h2: ¬(BS q l+1= -1):=by omega
     simp only [hm,if_false,h2];omega
 unfold Ff;rw [AN hn,key xs 0 hp];by_cases hm:BS q xs= -1
 ·simp [hm]
 ·simp [hm]
theorem zHv {α β:Type} {o:Option α} {x:α} {f:α→Option β} (h:o=some x):o.bind f=f x:=by rw [h];rfl
theorem cF {α β:Type} (f:α→β) (l:List α) (o:List β):l.foldl (fun o x=>o++ [f x]) o=o++l.map f:=by
 induction l generalizing o with
 |nil=>simp
 |cons x l ih=>rw [List.foldl_cons,ih];simp
theorem SH {α:Type} {xs:List α} {d:α} {body:Int × List α→Option ((Int × List α) ⊕ Option (List α))}
  (hs: ∀(i:Nat) (hi:i<xs.length) (v:List α),v.length=xs.length→body ((i:Int),v)=some (.inl (((i+1:Nat):Int),v.set i xs[i])))
  (he: ∀v,body ((xs.length:Int),v)=some (.inr (some v))):At body (0,List.replicate xs.length d)=some xs:=by
 have h1:=Fw (xs:=xs) (body:=body) (fun i (o:List α)=>(i,o++List.replicate (xs.length-i.toNat) d)) (fun(o:List α) x=>o++ [x]) (fun o=>some o) (fun i o=>o.length=i)
  (fun i hi o ho=>by
   refine⟨?_,by simp [ho]⟩;rw [show((i:Int)).toNat=i from rfl,hs i hi _ (by simp [ho];omega)];congr 3;obtain⟨k,hk⟩: ∃k,xs.length-i=k+1:=⟨xs.length-i-1,by omega⟩
   have h2:xs.length-(((i+1:Nat):Int)).toNat=k:=by rw [show(((i+1:Nat):Int)).toNat=i+1 from rfl];omega
   rw [h2,hk,List.replicate_succ];subst ho;simp [List.set_append])
  (fun o ho=>by show body ((xs.length:Int),o++List.replicate (xs.length-((xs.length:Int)).toNat) d)=_;rw [show((xs.length:Int)).toNat=xs.length from rfl,Nat.sub_self,List.replicate_zero,List.append_nil];exact he o) (s:=([]:List α)) rfl
 have h3:=h1.1;rw [show(fun(o:List α) x=>o++ [x])=(fun o x=>o++ [id x])from rfl,cF,List.map_id,List.nil_append]at h3;exact h3
theorem PH {n:Nat} {body:Int→Option (Int ⊕ Option Bool)} (hs: ∀i:Nat,i<n→body i=some (.inl ((i+1:Nat):Int))) (he:body n=some (.inr (some true))):At body 0=some true:=by have h:=Nk (n:=n) (body:=body) (fun _=>true) false (some true) (fun i hi=>by rw [hs i hi,if_pos rfl]) he;rw [h,if_pos (by simp)]
theorem Ix {a:Int} {n:Nat} (h0:0≤a) (h1:a≤1048576) (hn:n≤9223372036854775807):IntKind.i64.wrap (a-(n:Int))=a-n:=A9 (by omega) (by omega)
theorem Db {σ α:Type} {body:σ→Option (σ ⊕ Option α)} {s:σ} {o:Option α} (h:body s=some (.inr o)):At body s=o:=by rw [DG,h]
theorem Dx {σ α:Type} {body:σ→Option (σ ⊕ Option α)} {s s':σ} (h:body s=some (.inl s')):At body s=At body s':=by rw [DG,h]
theorem T7 {α:Type} {xs:List α} {body:Int × Int→Option ((Int × Int) ⊕ Option Int)} (tot:α→Nat) {a:Int} (h0:0≤a) (h1:a≤1048576)
  (hs: ∀x∈xs,∀b:Int,0≤b→b≤1048576→ ∃v,v≤b∧(0≤v→(tot x:Int)=b-v)∧ ∀i:Nat,xs[i]?=some x→body (b,(i:Int))=some (if v<0 then .inr (some (-1))else .inl (v,((i+1:Nat):Int))))
  (he: ∀b,body (b,(xs.length:Int))=some (.inr (some b))): ∃v,At body (a,0)=some v∧v≤a∧(0≤v→((xs.map tot).sum:Int)=a-v):=by
 have key: ∀(n q:Nat) (a:Int),q+n=xs.length→0≤a→a≤1048576→ ∃v,At body (a,(q:Int))=some v∧v≤a∧(0≤v→(((xs.drop q).map tot).sum:Int)=a-v):=by
  intro n
  induction n with
  |zero=>
   intro q a hq h0 h1;refine⟨a, ?_,by omega,fun _=> ?_⟩
   ·rw [DG,show(q:Int)=(xs.length:Int) by omega,he]
   ·rw [List.drop_eq_nil_of_le (by omega)];simp
  |succ n ih=>
   intro q a hq h0 h1;have An:q<xs.length:=by omega
   obtain⟨v,e1,e2,e3⟩:=hs xs[q] (List.getElem_mem An) a h0 h1;rw [DG,e3 q (List.getElem?_eq_getElem An)];by_cases hv:v<0
   ·rw [if_pos hv];exact⟨-1,rfl,by omega,by omega⟩
   ·rw [if_neg hv];obtain⟨u,f1,f2,f3⟩:=ih (q+1) v (by omega) (by omega) (by omega);refine⟨u,f1,by omega,fun hu=> ?_⟩;have g1:=f3 hu;have g2:=e2 (by omega);rw [List.drop_eq_getElem_cons An,List.map_cons,List.sum_cons];omega
 have:=key xs.length 0 a (by omega) h0 h1;simpa using this
theorem FP {α:Type} {tot:α→Nat}: ∀{xs:List α} {x:α},x∈xs→tot x≤(xs.map tot).sum
 |y::xs,x,h=>by
  rw [List.map_cons,List.sum_cons];rcases Ag.1 h with rfl|h
  ·omega
  ·have:=FP (tot:=tot) h;omega
theorem Sq {α:Type} {cnt:α→Nat} {mb:Int × Int × List α→Option ((Int × Int × List α) ⊕ Option (Int × List α))} {hb:List α→Int × Int→Option ((Int × Int) ⊕ Option Int)} (B:Int) {xs:List α} {k:Int} (h0:0≤k) (hB:k+((xs.map cnt).sum:Nat)≤B)
  (hs: ∀x∈xs,∀k:Int,0≤k→k+cnt x≤B→ ∃y,(∀(i:Nat) (v:List α),v[i]?=some x→i<xs.length→mb (k,(i:Int),v)=some (.inl (k+cnt x,((i+1:Nat):Int),v.set i y)))∧ ∀(i:Nat) (ys:List α),ys[i]?=some y→i<xs.length→hb ys (k,(i:Int))=some (.inl (k+cnt x,((i+1:Nat):Int))))
  (he: ∀k v,v.length=xs.length→mb (k,(xs.length:Int),v)=some (.inr (some (k,v)))) (hh: ∀k ys,ys.length=xs.length→hb ys (k,(xs.length:Int))=some (.inr (some k))):
  ∃ys,ys.length=xs.length∧At mb (k,0,xs)=some (k+((xs.map cnt).sum:Nat),ys)∧At (hb ys) (k,0)=some (k+((xs.map cnt).sum:Nat)):=by
 have key: ∀(suf pre:List α) (k:Int),pre.length+suf.length=xs.length→(∀x∈suf,x∈xs)→0≤k→k+((suf.map cnt).sum:Nat)≤B→
   ∃suf':List α,suf'.length=suf.length∧At mb (k,(pre.length:Int),pre++suf)=some (k+((suf.map cnt).sum:Nat),pre++suf')∧At (hb (pre++suf')) (k,(pre.length:Int))=some (k+((suf.map cnt).sum:Nat)):=by
  intro suf
  induction suf with
  |nil=>
   intro pre k hl _ _ _;have Bu:(pre.length:Int)=(xs.length:Int):=by simp at hl;omega
   have Kl:pre.length=xs.length:=by omega
   refine⟨[],rfl, ?_, ?_⟩
   ·rw [DG,Bu,he _ _ (by simpa using Kl)];simp
   ·rw [DG,Bu,hh _ _ (by simpa using Kl)];simp
  |cons x t ih=>
   intro pre k hl hm h0 BX;rw [List.map_cons,List.sum_cons]at BX ⊢;obtain⟨y,e1,e2⟩:=hs x (hm x (by simp)) k h0 (by omega);rw [Ap]at hl;obtain⟨t',f1,f2,f3⟩:=ih (pre++ [y]) (k+cnt x) (by simp;omega) (fun z hz=>hm z (by simp [hz])) (by omega) (by omega);have ea:pre++y::t'=pre++ [y]++t':=by simp
   have eb:(pre++x::t).set pre.length y=pre++ [y]++t:=by simp
   have ec:(((pre++ [y]).length:Nat):Int)=((pre.length+1:Nat):Int):=by simp
   refine⟨y::t',by simp [f1], ?_, ?_⟩
   ·rw [DG,e1 pre.length _ (by simp) (by omega),eb];show At mb (k+cnt x,((pre.length+1:Nat):Int),pre++ [y]++t)=_;rw [←ec,f2,ea];congr 2;omega
   ·rw [DG,e2 pre.length _ (by simp) (by omega),ea];show At (hb (pre++ [y]++t')) (k+cnt x,((pre.length+1:Nat):Int))=_;rw [←ec,f3];congr 1;omega
 have:=key xs [] k (by simp) (fun _ h=>h) h0 hB;simpa using this
theorem zEr {α:Type} {cnt:α→Nat} {mb:Int × Int × List α→Option ((Int × Int × List α) ⊕ Option (Int × List α))} (B:Int) {xs:List α} {k:Int} (h0:0≤k) (hB:k+((xs.map cnt).sum:Nat)≤B)
  (hs: ∀x∈xs,∀k:Int,0≤k→k+cnt x≤B→ ∃y,∀(i:Nat) (v:List α),v[i]?=some x→i<xs.length→mb (k,(i:Int),v)=some (.inl (k+cnt x,((i+1:Nat):Int),v.set i y)))
  (he: ∀k v,v.length=xs.length→mb (k,(xs.length:Int),v)=some (.inr (some (k,v)))):
  ∃ys,ys.length=xs.length∧At mb (k,0,xs)=some (k+((xs.map cnt).sum:Nat),ys):=by
 have key: ∀(suf pre:List α) (k:Int),pre.length+suf.length=xs.length→(∀x∈suf,x∈xs)→0≤k→k+((suf.map cnt).sum:Nat)≤B→
   ∃suf':List α,suf'.length=suf.length∧At mb (k,(pre.length:Int),pre++suf)=some (k+((suf.map cnt).sum:Nat),pre++suf'):=by
  intro suf
  induction suf with
  |nil=>
   intro pre k hl _ _ _;have Bu:(pre.length:Int)=(xs.length:Int):=by simp at hl;omega
   have Kl:pre.length=xs.length:=by omega
   refine⟨[],rfl, ?_⟩;rw [DG,Bu,he _ _ (by simpa using Kl)];simp
  |cons x t ih=>
   intro pre k hl hm h0 BX;rw [List.map_cons,List.sum_cons]at BX ⊢;obtain⟨y,e1⟩:=hs x (hm x (by simp)) k h0 (by omega);rw [Ap]at hl;obtain⟨t',f1,f2⟩:=ih (pre++ [y]) (k+cnt x) (by simp;omega) (fun z hz=>hm z (by simp [hz])) (by omega) (by omega);have ea:pre++y::t'=pre++ [y]++t':=by simp
   have eb:(pre++x::t).set pre.length y=pre++ [y]++t:=by simp
   have ec:(((pre++ [y]).length:Nat):Int)=((pre.length+1:Nat):Int):=by simp
   refine⟨y::t',by simp [f1], ?_⟩;rw [DG,e1 pre.length _ (by simp) (by omega),eb];show At mb (k+cnt x,((pre.length+1:Nat):Int),pre++ [y]++t)=_;rw [←ec,f2,ea];congr 2;omega
 have:=key xs [] k (by simp) (fun _ h=>h) h0 hB;simpa using this
theorem V4 {α:Type} (xs:List α) (n:Nat):(xs.map fun _=>n).sum=n*xs.length:=by
 induction xs with
 |nil=>simp
 |cons x xs ih=>rw [List.map_cons,List.sum_cons,ih,Ap,Nat.mul_add];omega
theorem FX {α:Type} {xs:List α} {i:Nat} {x:α} (h:xs[i]?=some x):Am xs (i:Int)=some x:=by simp [Am,h]
def mt (n:Int):Ac:=(Hr n).getD []
theorem KA {n:Int} (h:n≤4611686018427387904):Hr n=some (mt n):=by
 have key: ∃t,Hr n=some t:=by
  unfold Hr;by_cases h0:n≤0
  ·rw [if_pos (by simpa using h0)];exact⟨_,rfl⟩
  ·rw [if_neg (by simpa using h0)];have go: ∀(f:Nat) (n:Int) (s:Ac),n.toNat≤f→0≤n→n+s.length≤4611686018427387905→ ∃t,At (fun s:Int × Ac=>M1 s.1 s.2) (n,s)=some t:=by
    intro f;have stop: ∀(n:Int) (s:Ac),¬n>0→s.length≤4611686018427387905→At (fun s:Int × Ac=>M1 s.1 s.2) (n,s)=some ([109]++s):=fun n s hz hs=>by refine Db (?_:M1 n s=_);unfold M1;rw [if_neg (by simpa using hz)];unfold zli;rw [AN (by rw [AF];omega)]
    induction f with
    |zero=>intro n s hf hn hs;exact⟨_,stop n s (by omega) (by omega)⟩
    |succ f ih=>
     intro n s hf hn hs;by_cases hz:n>0
     ·have hd:Int.tdiv n 10<n∧0≤Int.tdiv n 10:=by
       rw [Int.tdiv_eq_ediv_of_nonneg hn];omega
      obtain⟨t,ht⟩:=ih (Int.tdiv n 10) ([(IntKind.u8.wrap (IntKind.i64.wrap ((48:Int)+(Int.tmod n 10))))].map (fun n=>UInt8.ofNat n.toNat)++s) (by omega) (by omega) (by simp only [As,List.length_map,AF];omega);have e:M1 n s=some (.inl (Int.tdiv n 10, [(IntKind.u8.wrap (IntKind.i64.wrap ((48:Int)+(Int.tmod n 10))))].map (fun n=>UInt8.ofNat n.toNat)++s)):=by unfold M1;rw [if_pos (by simpa using hz),AN (by simp),AN (by rw [List.length_map,AF];omega),A9 (n:=Int.tdiv n 10) (by omega) (by omega)]
      exact⟨t,(Dx (body:=fun s:Int × Ac=>M1 s.1 s.2) e).trans ht⟩
     ·exact⟨_,stop n s hz (by omega)⟩
   exact go n.toNat n [] (Nat.le_refl _) (by omega) (by simp;omega)
 obtain⟨t,ht⟩:=key;rw [mt,ht];rfl
def FO (l:List (Ac)):Nat:=l.length+(l.map (fun x:Ac=>x.length)).sum
theorem zvr {xs:List (Ac)} (h:FO xs≤2000000):U3 xs=some xs:=by
 have hl:xs.length≤2000000:=by unfold FO at h;omega
 have hx: ∀x∈xs,x.length≤2000000:=fun x hx=>by have:=FP (tot:=(fun x:Ac=>x.length)) hx;unfold FO at h;omega
 unfold U3;rw [AN (by omega)];exact SH (fun i hi v hv=>by
  show UF xs i v=_;unfold UF;rw [if_pos (by simpa using hi),AK hi,Aa,AK (by omega),Aa,AX hi (by omega)];rfl) (fun v=>by
  show UF xs _ v=_;unfold UF;rw [if_neg (by simp)])
theorem zv6 {xs:List (Ac)} (h:FO xs≤2000000):U2 xs xs=some true:=by
 have hl:xs.length≤2000000:=by unfold FO at h;omega
 have hx: ∀x∈xs,x.length≤2000000:=fun x hx=>by have:=FP (tot:=(fun x:Ac=>x.length)) hx;unfold FO at h;omega
 unfold U2;rw [if_neg (by simp)];exact PH (n:=xs.length) (fun i hi=>by
  show UE xs xs i=_;unfold UE;rw [if_pos (by simpa using hi),AK hi,Aa,Aa,if_neg (by simp),AX hi (by omega)]) (by
  show UE xs xs _=_;unfold UE;rw [if_neg (by simp)])
theorem zvx {xs:List (Ac)} {a:Int} (h0:0≤a) (h1:a≤1048576) (h:(Fe Jk) xs): ∃v,U7 xs a=some v∧v≤a∧(0≤v→(FO xs:Int)=a-v):=by
 have hl:xs.length≤9223372036854775807:=h.1;unfold U7 FO;rw [Ix h0 h1 hl];by_cases h2:a-(xs.length:Int)<0
 ·rw [if_pos (by simpa using h2)];exact⟨-1,rfl,by omega,by omega⟩
 ·rw [if_neg (by simpa using h2)];obtain⟨v,e1,e2,e3⟩:=T7 (xs:=xs) (body:=fun s:Int × Int=>QW xs s.1 s.2) (fun x:Ac=>x.length) (a:=a-xs.length) (by omega) (by omega) (fun x hx b FE Ew=>by
   refine⟨b-(x.length:Int),by omega,fun _=>by show(x.length:Int)=_;omega,fun i hi=> ?_⟩;have Bt:=(List.getElem?_eq_some_iff.1 hi).1;show QW xs b i=_;unfold QW;rw [if_pos (by simpa using Bt),FX hi,Aa,Ix FE Ew (h.2 _ hx),AX Bt (by omega)];by_cases h3:b-(x.length:Int)<0
   ·rw [if_pos (by simpa using h3),if_pos h3]
   ·rw [if_neg (by simpa using h3),if_neg h3]) (fun b=>by
   show QW xs b _=_;unfold QW;rw [if_neg (by simp)])
  exact⟨v,e1,by omega,fun hv=>by have:=e3 hv;omega⟩
def EX (l:List (Ac)):Nat:=(l.map fun x=>1).sum
theorem oH (l:List (Ac)):EX l≤64*FO l:=by unfold EX FO;rw [V4];omega
set_option maxHeartbeats 1000000 in
theorem oQ {xs:List (Ac)} {k:Int} (h0:0≤k) (hk:k+(EX xs:Nat)≤4611686018427387904) (h:FO xs≤2000000): ∃ys,ys.length=xs.length∧UY xs k=some (k+(EX xs:Nat),ys)∧lR ys k=some (k+(EX xs:Nat)):=by
 have hl:xs.length≤2000000:=by unfold FO at h;omega
 refine Sq (cnt:=fun x:(Ac)=>1) (mb:=fun s:Int × Int × List (Ac)=>QZ s.1 s.2.1 s.2.2) (hb:=fun ys s=>Q1 ys s.1 s.2) 4611686018427387904 h0 hk (fun x hx k h0 hB=> ?_) (fun k v hv=> ?_) (fun k ys hy=> ?_)
 ·have hB:k+((1:Nat):Int)≤4611686018427387904:=hB;have fin:k+1=k+(((1:Nat)):Int):=by omega
  refine⟨?y,fun i v hv hi=> ?_,fun i ys hy hi=> ?_⟩
  rotate_left
  ·have Bt:=(List.getElem?_eq_some_iff.1 hv).1;show QZ k i v=_;unfold QZ;rw [if_pos (by simpa using Bt)];simp only [FX hv,AX hi (by omega:xs.length≤_),Int.toNat_natCast,List.set_set,Aa,(show IntKind.i64.wrap (k+1)=k+1 from A9 (by omega) (by omega)),KA (n:=k) (by omega)];rw [fin]
  ·have Bt:=(List.getElem?_eq_some_iff.1 hy).1;show Q1 ys k i=_;unfold Q1;rw [if_pos (by simpa using Bt)];simp only [FX hy,AX hi (by omega:xs.length≤_),bne_self_eq_false,AM,if_false,Aa,(show IntKind.i64.wrap (k+1)=k+1 from A9 (by omega) (by omega)),KA (n:=k) (by omega)];rw [fin]
 ·show QZ k _ v=_;unfold QZ;rw [if_neg (by simp [hv])]
 ·show Q1 ys k _=_;unfold Q1;rw [if_neg (by simp [hy])]
def I8 (x:Au):Nat:=x.ab.length
theorem zI6 {x:Au} (h:I8 x≤2000000):oA x=some x:=rfl
theorem zJz {x:Au} (h:I8 x≤2000000):ZV x x=some true:=by unfold ZV;simp []
theorem zJM {x:Au} {a:Int} (h0:0≤a) (h1:a≤1048576) (h:Uo x): ∃v,aG x a=some v∧v≤a∧(0≤v→(I8 x:Int)=a-v):=by
 unfold aG I8;rw [Ix (a:=a) (by omega) (by omega) h.1];by_cases q0:a-(x.ab.length:Int)<0
 ·rw [if_pos (by simpa using q0)];exact⟨-1,rfl,by omega,by omega⟩
 rw [if_neg (by simpa using q0)];exact⟨(a-(x.ab.length:Int)),rfl,by omega,fun _=>by omega⟩
def Ht (l:List Au):Nat:=l.length+(l.map I8).sum
theorem zHF {xs:List Au} (h:Ht xs≤2000000):ZZ xs=some xs:=by
 have hl:xs.length≤2000000:=by unfold Ht at h;omega
 have hx: ∀x∈xs,I8 x≤2000000:=fun x hx=>by have:=FP (tot:=I8) hx;unfold Ht at h;omega
 unfold ZZ;rw [AN (by omega)];exact SH (fun i hi v hv=>by
  show U5 xs i v=_;unfold U5;rw [if_pos (by simpa using hi),AK hi,Aa,zI6 (hx _ (List.getElem_mem hi)),Aa,AK (by omega),Aa,AX hi (by omega)];rfl) (fun v=>by
  show U5 xs _ v=_;unfold U5;rw [if_neg (by simp)])
theorem zH6 {xs:List Au} (h:Ht xs≤2000000):Z2 xs xs=some true:=by
 have hl:xs.length≤2000000:=by unfold Ht at h;omega
 have hx: ∀x∈xs,I8 x≤2000000:=fun x hx=>by have:=FP (tot:=I8) hx;unfold Ht at h;omega
 unfold Z2;rw [if_neg (by simp)];exact PH (n:=xs.length) (fun i hi=>by
  show U1 xs xs i=_;unfold U1;rw [if_pos (by simpa using hi),AK hi,Aa,Aa,zJz (hx _ (List.getElem_mem hi)),Aa,if_neg (by simp),AX hi (by omega)]) (by
  show U1 xs xs _=_;unfold U1;rw [if_neg (by simp)])
theorem zH9 {xs:List Au} {a:Int} (h0:0≤a) (h1:a≤1048576) (h:(Fe Uo) xs): ∃v,ZY xs a=some v∧v≤a∧(0≤v→(Ht xs:Int)=a-v):=by
 have hl:xs.length≤9223372036854775807:=h.1;unfold ZY Ht;rw [Ix h0 h1 hl];by_cases h2:a-(xs.length:Int)<0
 ·rw [if_pos (by simpa using h2)];exact⟨-1,rfl,by omega,by omega⟩
 ·rw [if_neg (by simpa using h2)];obtain⟨v,e1,e2,e3⟩:=T7 (xs:=xs) (body:=fun s:Int × Int=>Ry xs s.1 s.2) I8 (a:=a-xs.length) (by omega) (by omega) (fun x hx b FE Ew=>by
   obtain⟨r,e1,e2,e3⟩:=zJM (x:=x) FE Ew (h.2 _ hx);refine⟨r,e2,e3,fun i hi=> ?_⟩;have Bt:=(List.getElem?_eq_some_iff.1 hi).1;show Ry xs b i=_;unfold Ry;rw [if_pos (by simpa using Bt),FX hi,Aa,e1,Aa,AX Bt (by omega)];by_cases h3:r<0
   ·rw [if_pos (by simpa using h3),if_pos h3]
   ·rw [if_neg (by simpa using h3),if_neg h3]) (fun b=>by
   show Ry xs b _=_;unfold Ry;rw [if_neg (by simp)])
  exact⟨v,e1,by omega,fun hv=>by have:=e3 hv;omega⟩
def KC (l:List Au):Nat:=(l.map fun x=>3).sum
theorem zBJ (l:List Au):KC l≤64*Ht l:=by unfold KC Ht;rw [V4];omega
set_option maxHeartbeats 1000000 in
theorem zDG {xs:List Au} {k:Int} (h0:0≤k) (hk:k+(KC xs:Nat)≤4611686018427387904) (h:Ht xs≤2000000): ∃ys,ys.length=xs.length∧nF xs k=some (k+(KC xs:Nat),ys)∧nJ ys k=some (k+(KC xs:Nat)):=by
 have hl:xs.length≤2000000:=by unfold Ht at h;omega
 refine Sq (cnt:=fun x:Au=>3) (mb:=fun s:Int × Int × List Au=>Rg s.1 s.2.1 s.2.2) (hb:=fun ys s=>Ri ys s.1 s.2) 4611686018427387904 h0 hk (fun x hx k h0 hB=> ?_) (fun k v hv=> ?_) (fun k ys hy=> ?_)
 ·have hB:k+((3:Nat):Int)≤4611686018427387904:=hB;have fin:k+1+1+1=k+(((3:Nat)):Int):=by omega
  refine⟨?y,fun i v hv hi=> ?_,fun i ys hy hi=> ?_⟩
  rotate_left
  ·have Bt:=(List.getElem?_eq_some_iff.1 hv).1;show Rg k i v=_;unfold Rg;rw [if_pos (by simpa using Bt)];simp only [FX hv,AX hi (by omega:xs.length≤_),Int.toNat_natCast,List.set_set,Aa,(show IntKind.i64.wrap (k+1)=k+1 from A9 (by omega) (by omega)),(show IntKind.i64.wrap (k+1+1)=k+1+1 from A9 (by omega) (by omega)),(show IntKind.i64.wrap (k+1+1+1)=k+1+1+1 from A9 (by omega) (by omega)),KA (n:=k) (by omega)];rw [fin]
  ·have Bt:=(List.getElem?_eq_some_iff.1 hy).1;show Ri ys k i=_;unfold Ri;rw [if_pos (by simpa using Bt)];simp only [FX hy,AX hi (by omega:xs.length≤_),bne_self_eq_false,AM,if_false,Aa,(show IntKind.i64.wrap (k+1)=k+1 from A9 (by omega) (by omega)),(show IntKind.i64.wrap (k+1+1)=k+1+1 from A9 (by omega) (by omega)),(show IntKind.i64.wrap (k+1+1+1)=k+1+1+1 from A9 (by omega) (by omega)),KA (n:=k) (by omega)];rw [fin]
 ·show Rg k _ v=_;unfold Rg;rw [if_neg (by simp [hv])]
 ·show Ri ys k _=_;unfold Ri;rw [if_neg (by simp [hy])]
def En (x:Ad):Nat:=x.ab.length+FO x.aq+Ht x.ah
theorem zGs {x:Ad} (h:En x≤2000000):ZH x=some x:=by unfold ZH;simp only [zvr (xs:=x.aq) (by unfold En at h;omega),zHF (xs:=x.ah) (by unfold En at h;omega),Aa]
theorem zGG {x:Ad} (h:En x≤2000000):ZO x x=some true:=by unfold ZO;simp [zv6 (xs:=x.aq) (by unfold En at h;omega),zH6 (xs:=x.ah) (by unfold En at h;omega)]
theorem zGy {x:Ad} {a:Int} (h0:0≤a) (h1:a≤1048576) (h:Wv x): ∃v,ZR x a=some v∧v≤a∧(0≤v→(En x:Int)=a-v):=by
 unfold ZR En;rw [Ix (a:=a) (by omega) (by omega) h.1];by_cases q0:a-(x.ab.length:Int)<0
 ·rw [if_pos (by simpa using q0)];exact⟨-1,rfl,by omega,by omega⟩
 rw [if_neg (by simpa using q0)];obtain⟨b1,e1,g1,r1⟩:=zvx (xs:=x.aq) (a:=(a-(x.ab.length:Int))) (by omega) (by omega) h.2.1;rw [e1,Aa];by_cases q1:b1<0
 ·rw [if_pos (by simpa using q1)];exact⟨-1,rfl,by omega,by omega⟩
 rw [if_neg (by simpa using q1)];have s1:=r1 (by omega);obtain⟨b2,e2,g2,r2⟩:=zH9 (xs:=x.ah) (a:=b1) (by omega) (by omega) h.2.2;rw [e2,Aa];by_cases q2:b2<0
 ·rw [if_pos (by simpa using q2)];exact⟨-1,rfl,by omega,by omega⟩
 rw [if_neg (by simpa using q2)];have s2:=r2 (by omega);exact⟨b2,rfl,by omega,fun _=>by omega⟩
def FW (l:List Ad):Nat:=l.length+(l.map En).sum
theorem zEE {xs:List Ad} (h:FW xs≤2000000):Zx xs=some xs:=by
 have hl:xs.length≤2000000:=by unfold FW at h;omega
 have hx: ∀x∈xs,En x≤2000000:=fun x hx=>by have:=FP (tot:=En) hx;unfold FW at h;omega
 unfold Zx;rw [AN (by omega)];exact SH (fun i hi v hv=>by
  show UT xs i v=_;unfold UT;rw [if_pos (by simpa using hi),AK hi,Aa,zGs (hx _ (List.getElem_mem hi)),Aa,AK (by omega),Aa,AX hi (by omega)];rfl) (fun v=>by
  show UT xs _ v=_;unfold UT;rw [if_neg (by simp)])
theorem zEK {xs:List Ad} (h:FW xs≤2000000):Zl xs xs=some true:=by
 have hl:xs.length≤2000000:=by unfold FW at h;omega
 have hx: ∀x∈xs,En x≤2000000:=fun x hx=>by have:=FP (tot:=En) hx;unfold FW at h;omega
 unfold Zl;rw [if_neg (by simp)];exact PH (n:=xs.length) (fun i hi=>by
  show US xs xs i=_;unfold US;rw [if_pos (by simpa using hi),AK hi,Aa,Aa,zGG (hx _ (List.getElem_mem hi)),Aa,if_neg (by simp),AX hi (by omega)]) (by
  show US xs xs _=_;unfold US;rw [if_neg (by simp)])
theorem zDt {xs:List Ad} {a:Int} (h0:0≤a) (h1:a≤1048576) (h:(Fe Wv) xs): ∃v,Y5 xs a=some v∧v≤a∧(0≤v→(FW xs:Int)=a-v):=by
 have hl:xs.length≤9223372036854775807:=h.1;unfold Y5 FW;rw [Ix h0 h1 hl];by_cases h2:a-(xs.length:Int)<0
 ·rw [if_pos (by simpa using h2)];exact⟨-1,rfl,by omega,by omega⟩
 ·rw [if_neg (by simpa using h2)];obtain⟨v,e1,e2,e3⟩:=T7 (xs:=xs) (body:=fun s:Int × Int=>Ro xs s.1 s.2) En (a:=a-xs.length) (by omega) (by omega) (fun x hx b FE Ew=>by
   obtain⟨r,e1,e2,e3⟩:=zGy (x:=x) FE Ew (h.2 _ hx);refine⟨r,e2,e3,fun i hi=> ?_⟩;have Bt:=(List.getElem?_eq_some_iff.1 hi).1;show Ro xs b i=_;unfold Ro;rw [if_pos (by simpa using Bt),FX hi,Aa,e1,Aa,AX Bt (by omega)];by_cases h3:r<0
   ·rw [if_pos (by simpa using h3),if_pos h3]
   ·rw [if_neg (by simpa using h3),if_neg h3]) (fun b=>by
   show Ro xs b _=_;unfold Ro;rw [if_neg (by simp)])
  exact⟨v,e1,by omega,fun hv=>by have:=e3 hv;omega⟩
def LD (l:List Ad):Nat:=(l.map fun x=>1+EX x.aq+KC x.ah).sum
theorem zy0 (l:List Ad):LD l≤64*FW l:=by
 unfold LD FW
 induction l with
 |nil=>simp
 |cons x l ih=>rw [List.map_cons,List.sum_cons,Ap,List.map_cons,List.sum_cons];have h0:=oH x.aq;have h1:=zBJ x.ah;unfold En at*;omega
set_option maxHeartbeats 1000000 in
theorem zzr {xs:List Ad} {k:Int} (h0:0≤k) (hk:k+(LD xs:Nat)≤4611686018427387904) (h:FW xs≤2000000): ∃ys,ys.length=xs.length∧mO xs k=some (k+(LD xs:Nat),ys)∧mK ys k=some (k+(LD xs:Nat)):=by
 have hl:xs.length≤2000000:=by unfold FW at h;omega
 refine Sq (cnt:=fun x:Ad=>1+EX x.aq+KC x.ah) (mb:=fun s:Int × Int × List Ad=>Q3 s.1 s.2.1 s.2.2) (hb:=fun ys s=>Q2 ys s.1 s.2) 4611686018427387904 h0 hk (fun x hx k h0 hB=> ?_) (fun k v hv=> ?_) (fun k ys hy=> ?_)
 ·have hB:k+((1+EX x.aq+KC x.ah:Nat):Int)≤4611686018427387904:=hB;obtain⟨r0, -,m0,g0⟩:=oQ (xs:=x.aq) (k:=k+1) (by omega) (by omega) (by have:=FP (tot:=En) hx;unfold FW at h;have e_:FO x.aq≤En x:=(by unfold En;omega);omega);obtain⟨r1, -,m1,g1⟩:=zDG (xs:=x.ah) (k:=k+1+((EX x.aq:Nat):Int)) (by omega) (by omega) (by have:=FP (tot:=En) hx;unfold FW at h;have e_:Ht x.ah≤En x:=(by unfold En;omega);omega);have fin:k+1+((EX x.aq:Nat):Int)+((KC x.ah:Nat):Int)=k+(((1+EX x.aq+KC x.ah:Nat)):Int):=by omega
  refine⟨?y,fun i v hv hi=> ?_,fun i ys hy hi=> ?_⟩
  rotate_left
  ·have Bt:=(List.getElem?_eq_some_iff.1 hv).1;show Q3 k i v=_;unfold Q3;rw [if_pos (by simpa using Bt)];simp only [FX hv,AX hi (by omega:xs.length≤_),Int.toNat_natCast,List.set_set,Aa,(show IntKind.i64.wrap (k+1)=k+1 from A9 (by omega) (by omega)),KA (n:=k) (by omega),m0,m1];rw [fin]
  ·have Bt:=(List.getElem?_eq_some_iff.1 hy).1;show Q2 ys k i=_;unfold Q2;rw [if_pos (by simpa using Bt)];simp only [FX hy,AX hi (by omega:xs.length≤_),bne_self_eq_false,AM,if_false,Aa,(show IntKind.i64.wrap (k+1)=k+1 from A9 (by omega) (by omega)),KA (n:=k) (by omega),g0,g1];rw [if_neg (by simp;omega),if_neg (by simp;omega),fin]
 ·show Q3 k _ v=_;unfold Q3;rw [if_neg (by simp [hv])]
 ·show Q2 ys k _=_;unfold Q2;rw [if_neg (by simp [hy])]
def H2 (l:List Int):Nat:=l.length
theorem zHQ {xs:List Int} (h:H2 xs≤2000000):Z0 xs=some xs:=by
 have hl:xs.length≤2000000:=by unfold H2 at h;omega
 unfold Z0;rw [AN (by omega)];exact SH (fun i hi v hv=>by
  show Va xs i v=_;unfold Va;rw [if_pos (by simpa using hi),AK hi,Aa,AK (by omega),Aa,AX hi (by omega)];rfl) (fun v=>by
  show Va xs _ v=_;unfold Va;rw [if_neg (by simp)])
theorem zHD {xs:List Int} (h:H2 xs≤2000000):Z4 xs xs=some true:=by
 have hl:xs.length≤2000000:=by unfold H2 at h;omega
 unfold Z4;rw [if_neg (by simp)];exact PH (n:=xs.length) (fun i hi=>by
  show U6 xs xs i=_;unfold U6;rw [if_pos (by simpa using hi),AK hi,Aa,Aa,if_neg (by simp),AX hi (by omega)]) (by
  show U6 xs xs _=_;unfold U6;rw [if_neg (by simp)])
theorem zII {xs:List Int} {a:Int} (h0:0≤a) (h1:a≤1048576) (h:(Fe H9) xs): ∃v,Z6 xs a=some v∧v≤a∧(0≤v→(H2 xs:Int)=a-v):=by
 have hl:xs.length≤9223372036854775807:=h.1;unfold Z6 H2;rw [Ix h0 h1 hl];by_cases h2:a-(xs.length:Int)<0
 ·rw [if_pos (by simpa using h2)];exact⟨-1,rfl,by omega,by omega⟩
 ·rw [if_neg (by simpa using h2)];exact⟨_,rfl,by omega,fun _=>by omega⟩
def Nr (l:List Int):Nat:=(l.map fun x=>1).sum
theorem zCm (l:List Int):Nr l≤64*H2 l:=by unfold Nr H2;rw [V4];omega
set_option maxHeartbeats 1000000 in
theorem zDK {xs:List Int} {k:Int} (h0:0≤k) (hk:k+(Nr xs:Nat)≤4611686018427387904) (h:H2 xs≤2000000): ∃ys,ys.length=xs.length∧nK xs k=some (k+(Nr xs:Nat),ys)∧nI ys k=some (k+(Nr xs:Nat)):=by
 have hl:xs.length≤2000000:=by unfold H2 at h;omega
 refine Sq (cnt:=fun x:Int=>1) (mb:=fun s:Int × Int × List Int=>Rf s.1 s.2.1 s.2.2) (hb:=fun ys s=>Rj ys s.1 s.2) 4611686018427387904 h0 hk (fun x hx k h0 hB=> ?_) (fun k v hv=> ?_) (fun k ys hy=> ?_)
 ·have hB:k+((1:Nat):Int)≤4611686018427387904:=hB;have fin:k+1=k+(((1:Nat)):Int):=by omega
  refine⟨?y,fun i v hv hi=> ?_,fun i ys hy hi=> ?_⟩
  rotate_left
  ·have Bt:=(List.getElem?_eq_some_iff.1 hv).1;show Rf k i v=_;unfold Rf;rw [if_pos (by simpa using Bt)];simp only [FX hv,AX hi (by omega:xs.length≤_),Int.toNat_natCast,List.set_set,Aa,(show IntKind.i64.wrap (k+1)=k+1 from A9 (by omega) (by omega))];rw [fin]
  ·have Bt:=(List.getElem?_eq_some_iff.1 hy).1;show Rj ys k i=_;unfold Rj;rw [if_pos (by simpa using Bt)];simp only [FX hy,AX hi (by omega:xs.length≤_),bne_self_eq_false,AM,if_false,Aa,(show IntKind.i64.wrap (k+1)=k+1 from A9 (by omega) (by omega))];rw [fin]
 ·show Rf k _ v=_;unfold Rf;rw [if_neg (by simp [hv])]
 ·show Rj ys k _=_;unfold Rj;rw [if_neg (by simp [hy])]
def HX (x:Ab):Nat:=x.af.length+x.ay.length
theorem zFF {x:Ab} (h:HX x≤2000000):nW x=some x:=rfl
theorem zFr {x:Ab} (h:HX x≤2000000):Zq x x=some true:=by unfold Zq;simp []
theorem zFt {x:Ab} {a:Int} (h0:0≤a) (h1:a≤1048576) (h:Wk x): ∃v,ZJ x a=some v∧v≤a∧(0≤v→(HX x:Int)=a-v):=by
 unfold ZJ HX;rw [Ix (a:=a) (by omega) (by omega) h.1];by_cases q0:a-(x.af.length:Int)<0
 ·rw [if_pos (by simpa using q0)];exact⟨-1,rfl,by omega,by omega⟩
 rw [if_neg (by simpa using q0)];rw [Ix (a:=(a-(x.af.length:Int))) (by omega) (by omega) h.2.1];by_cases q1:(a-(x.af.length:Int))-(x.ay.length:Int)<0
 ·rw [if_pos (by simpa using q1)];exact⟨-1,rfl,by omega,by omega⟩
 rw [if_neg (by simpa using q1)];exact⟨((a-(x.af.length:Int))-(x.ay.length:Int)),rfl,by omega,fun _=>by omega⟩
def FV (l:List Ab):Nat:=l.length+(l.map HX).sum
theorem zCH {xs:List Ab} (h:FV xs≤2000000):Y2 xs=some xs:=by
 have hl:xs.length≤2000000:=by unfold FV at h;omega
 have hx: ∀x∈xs,HX x≤2000000:=fun x hx=>by have:=FP (tot:=HX) hx;unfold FV at h;omega
 unfold Y2;rw [AN (by omega)];exact SH (fun i hi v hv=>by
  show UZ xs i v=_;unfold UZ;rw [if_pos (by simpa using hi),AK hi,Aa,zFF (hx _ (List.getElem_mem hi)),Aa,AK (by omega),Aa,AX hi (by omega)];rfl) (fun v=>by
  show UZ xs _ v=_;unfold UZ;rw [if_neg (by simp)])
theorem zCK {xs:List Ab} (h:FV xs≤2000000):ZA xs xs=some true:=by
 have hl:xs.length≤2000000:=by unfold FV at h;omega
 have hx: ∀x∈xs,HX x≤2000000:=fun x hx=>by have:=FP (tot:=HX) hx;unfold FV at h;omega
 unfold ZA;rw [if_neg (by simp)];exact PH (n:=xs.length) (fun i hi=>by
  show UU xs xs i=_;unfold UU;rw [if_pos (by simpa using hi),AK hi,Aa,Aa,zFr (hx _ (List.getElem_mem hi)),Aa,if_neg (by simp),AX hi (by omega)]) (by
  show UU xs xs _=_;unfold UU;rw [if_neg (by simp)])
theorem zED {xs:List Ab} {a:Int} (h0:0≤a) (h1:a≤1048576) (h:(Fe Wk) xs): ∃v,Y1 xs a=some v∧v≤a∧(0≤v→(FV xs:Int)=a-v):=by
 have hl:xs.length≤9223372036854775807:=h.1;unfold Y1 FV;rw [Ix h0 h1 hl];by_cases h2:a-(xs.length:Int)<0
 ·rw [if_pos (by simpa using h2)];exact⟨-1,rfl,by omega,by omega⟩
 ·rw [if_neg (by simpa using h2)];obtain⟨v,e1,e2,e3⟩:=T7 (xs:=xs) (body:=fun s:Int × Int=>Rk xs s.1 s.2) HX (a:=a-xs.length) (by omega) (by omega) (fun x hx b FE Ew=>by
   obtain⟨r,e1,e2,e3⟩:=zFt (x:=x) FE Ew (h.2 _ hx);refine⟨r,e2,e3,fun i hi=> ?_⟩;have Bt:=(List.getElem?_eq_some_iff.1 hi).1;show Rk xs b i=_;unfold Rk;rw [if_pos (by simpa using Bt),FX hi,Aa,e1,Aa,AX Bt (by omega)];by_cases h3:r<0
   ·rw [if_pos (by simpa using h3),if_pos h3]
   ·rw [if_neg (by simpa using h3),if_neg h3]) (fun b=>by
   show Rk xs b _=_;unfold Rk;rw [if_neg (by simp)])
  exact⟨v,e1,by omega,fun hv=>by have:=e3 hv;omega⟩
def Pj (l:List Ab):Nat:=(l.map fun x=>3).sum
theorem zyG (l:List Ab):Pj l≤64*FV l:=by unfold Pj FV;rw [V4];omega
set_option maxHeartbeats 1000000 in
theorem zzy {xs:List Ab} {k:Int} (h0:0≤k) (hk:k+(Pj xs:Nat)≤4611686018427387904) (h:FV xs≤2000000): ∃ys,ys.length=xs.length∧mE xs k=some (k+(Pj xs:Nat),ys)∧mI ys k=some (k+(Pj xs:Nat)):=by
 have hl:xs.length≤2000000:=by unfold FV at h;omega
 refine Sq (cnt:=fun x:Ab=>3) (mb:=fun s:Int × Int × List Ab=>QO s.1 s.2.1 s.2.2) (hb:=fun ys s=>QP ys s.1 s.2) 4611686018427387904 h0 hk (fun x hx k h0 hB=> ?_) (fun k v hv=> ?_) (fun k ys hy=> ?_)
 ·have hB:k+((3:Nat):Int)≤4611686018427387904:=hB;have fin:k+1+1+1=k+(((3:Nat)):Int):=by omega
  refine⟨?y,fun i v hv hi=> ?_,fun i ys hy hi=> ?_⟩
  rotate_left
  ·have Bt:=(List.getElem?_eq_some_iff.1 hv).1;show QO k i v=_;unfold QO;rw [if_pos (by simpa using Bt)];simp only [FX hv,AX hi (by omega:xs.length≤_),Int.toNat_natCast,List.set_set,Aa,(show IntKind.i64.wrap (k+1)=k+1 from A9 (by omega) (by omega)),(show IntKind.i64.wrap (k+1+1)=k+1+1 from A9 (by omega) (by omega)),(show IntKind.i64.wrap (k+1+1+1)=k+1+1+1 from A9 (by omega) (by omega)),KA (n:=k) (by omega),KA (n:=k+1) (by omega)];rw [fin]
  ·have Bt:=(List.getElem?_eq_some_iff.1 hy).1;show QP ys k i=_;unfold QP;rw [if_pos (by simpa using Bt)];simp only [FX hy,AX hi (by omega:xs.length≤_),bne_self_eq_false,AM,if_false,Aa,(show IntKind.i64.wrap (k+1)=k+1 from A9 (by omega) (by omega)),(show IntKind.i64.wrap (k+1+1)=k+1+1 from A9 (by omega) (by omega)),(show IntKind.i64.wrap (k+1+1+1)=k+1+1+1 from A9 (by omega) (by omega)),KA (n:=k) (by omega),KA (n:=k+1) (by omega)];rw [fin]
 ·show QO k _ v=_;unfold QO;rw [if_neg (by simp [hv])]
 ·show QP ys k _=_;unfold QP;rw [if_neg (by simp [hy])]
def EZ (x:AA):Nat:=x.ab.length+FW x.ak+H2 x.bj+FV x.au
theorem zGu {x:AA} (h:EZ x≤2000000):Zn x=some x:=by unfold Zn;simp only [zEE (xs:=x.ak) (by unfold EZ at h;omega),zHQ (xs:=x.bj) (by unfold EZ at h;omega),zCH (xs:=x.au) (by unfold EZ at h;omega),Aa]
theorem zGd {x:AA} (h:EZ x≤2000000):ZS x x=some true:=by unfold ZS;simp [zEK (xs:=x.ak) (by unfold EZ at h;omega),zHD (xs:=x.bj) (by unfold EZ at h;omega),zCK (xs:=x.au) (by unfold EZ at h;omega)]
theorem zGj {x:AA} {a:Int} (h0:0≤a) (h1:a≤1048576) (h:s4 x): ∃v,ZC x a=some v∧v≤a∧(0≤v→(EZ x:Int)=a-v):=by
 unfold ZC EZ;rw [Ix (a:=a) (by omega) (by omega) h.1];by_cases q0:a-(x.ab.length:Int)<0
 ·rw [if_pos (by simpa using q0)];exact⟨-1,rfl,by omega,by omega⟩
 rw [if_neg (by simpa using q0)];obtain⟨b1,e1,g1,r1⟩:=zDt (xs:=x.ak) (a:=(a-(x.ab.length:Int))) (by omega) (by omega) h.2.1;rw [e1,Aa];by_cases q1:b1<0
 ·rw [if_pos (by simpa using q1)];exact⟨-1,rfl,by omega,by omega⟩
 rw [if_neg (by simpa using q1)];have s1:=r1 (by omega);obtain⟨b2,e2,g2,r2⟩:=zII (xs:=x.bj) (a:=b1) (by omega) (by omega) h.2.2.1;rw [e2,Aa];by_cases q2:b2<0
 ·rw [if_pos (by simpa using q2)];exact⟨-1,rfl,by omega,by omega⟩
 rw [if_neg (by simpa using q2)];have s2:=r2 (by omega);obtain⟨b3,e3,g3,r3⟩:=zED (xs:=x.au) (a:=b2) (by omega) (by omega) h.2.2.2;rw [e3,Aa];by_cases q3:b3<0
 ·rw [if_pos (by simpa using q3)];exact⟨-1,rfl,by omega,by omega⟩
 rw [if_neg (by simpa using q3)];have s3:=r3 (by omega);exact⟨b3,rfl,by omega,fun _=>by omega⟩
def IY (x:AA):Nat:=LD x.ak+Nr x.bj+Pj x.au
theorem zz7 (x:AA):IY x≤64*EZ x:=by have h0:=zy0 x.ak;have h1:=zCm x.bj;have h2:=zyG x.au;unfold IY EZ;omega
theorem zBu {x:AA} {k:Int} (h0:0≤k) (hk:k+(IY x:Nat)≤4611686018427387904) (h:EZ x≤2000000): ∃r0:List Ad,∃r1:List Int,∃r2:List Ab,YF x k=some (k+(IY x:Nat),⟨x.ab,r0,r1,r2⟩)∧Zh ⟨x.ab,r0,r1,r2⟩ k=some (k+(IY x:Nat)):=by
 obtain⟨r0, -,m0,g0⟩:=zzr (xs:=x.ak) (k:=k) (by omega) (by unfold IY at hk;omega) (by unfold EZ at h;omega);obtain⟨r1, -,m1,g1⟩:=zDK (xs:=x.bj) (k:=k+((LD x.ak:Nat):Int)) (by omega) (by unfold IY at hk;omega) (by unfold EZ at h;omega);obtain⟨r2, -,m2,g2⟩:=zzy (xs:=x.au) (k:=k+((LD x.ak:Nat):Int)+((Nr x.bj:Nat):Int)) (by omega) (by unfold IY at hk;omega) (by unfold EZ at h;omega);have fin:k+((LD x.ak:Nat):Int)+((Nr x.bj:Nat):Int)+((Pj x.au:Nat):Int)=k+(IY x:Nat):=by unfold IY;omega
 refine⟨r0,r1,r2, ?_, ?_⟩
 ·unfold YF;simp only [m0,m1,m2,Aa];rw [fin]
 ·unfold Zh;simp only [g0,g1,g2,Aa];rw [if_neg (by simp;omega)];rw [if_neg (by simp;omega)];rw [if_neg (by simp;omega)];rw [fin]
def Nt (x:AJ):Nat:=x.al.length
theorem w6 {x:AJ} (h:Nt x≤2000000):Z9 x=some x:=rfl
theorem wQ {x:AJ} (h:Nt x≤2000000):Vr x x=some true:=by unfold Vr;simp []
theorem xZ {x:AJ} {a:Int} (h0:0≤a) (h1:a≤1048576) (h:Xz x): ∃v,Vv x a=some v∧v≤a∧(0≤v→(Nt x:Int)=a-v):=by
 unfold Vv Nt;rw [Ix (a:=a) (by omega) (by omega) h.1];by_cases q0:a-(x.al.length:Int)<0
 ·rw [if_pos (by simpa using q0)];exact⟨-1,rfl,by omega,by omega⟩
 rw [if_neg (by simpa using q0)];exact⟨(a-(x.al.length:Int)),rfl,by omega,fun _=>by omega⟩
def Ep (x:AI):Nat:=EZ x.ae+Nt x.ch+Nt x.a8
theorem zHM {x:AI} (h:Ep x≤2000000):Pc x=some x:=by unfold Pc;simp only [zGu (x:=x.ae) (by unfold Ep at h;omega),w6 (x:=x.ch) (by unfold Ep at h;omega),w6 (x:=x.a8) (by unfold Ep at h;omega),Aa]
theorem wW {x:AI} (h:Ep x≤2000000):Pf x x=some true:=by unfold Pf;simp [zGd (x:=x.ae) (by unfold Ep at h;omega),wQ (x:=x.ch) (by unfold Ep at h;omega),wQ (x:=x.a8) (by unfold Ep at h;omega)]
theorem zIp {x:AI} {a:Int} (h0:0≤a) (h1:a≤1048576) (h:jU x): ∃v,ZW x a=some v∧v≤a∧(0≤v→(Ep x:Int)=a-v):=by
 unfold ZW Ep;obtain⟨b0,e0,g0,r0⟩:=zGj (x:=x.ae) (a:=a) (by omega) (by omega) h.1;rw [e0,Aa];by_cases q0:b0<0
 ·rw [if_pos (by simpa using q0)];exact⟨-1,rfl,by omega,by omega⟩
 rw [if_neg (by simpa using q0)];have s0:=r0 (by omega);obtain⟨b1,e1,g1,r1⟩:=xZ (x:=x.ch) (a:=b0) (by omega) (by omega) h.2.1;rw [e1,Aa];by_cases q1:b1<0
 ·rw [if_pos (by simpa using q1)];exact⟨-1,rfl,by omega,by omega⟩
 rw [if_neg (by simpa using q1)];have s1:=r1 (by omega);obtain⟨b2,e2,g2,r2⟩:=xZ (x:=x.a8) (a:=b1) (by omega) (by omega) h.2.2;rw [e2,Aa];by_cases q2:b2<0
 ·rw [if_pos (by simpa using q2)];exact⟨-1,rfl,by omega,by omega⟩
 rw [if_neg (by simpa using q2)];have s2:=r2 (by omega);exact⟨b2,rfl,by omega,fun _=>by omega⟩
def Iy (x:AI):Nat:=IY x.ae
theorem zwa (x:AI):Iy x≤64*Ep x:=by have h0:=zz7 x.ae;unfold Iy Ep;omega
theorem zyC {x:AI} {k:Int} (h0:0≤k) (hk:k+(Iy x:Nat)≤4611686018427387904) (h:Ep x≤2000000): ∃r0:List Ad,∃r1:List Int,∃r2:List Ab,Vp x k=some (k+(Iy x:Nat),⟨⟨x.ae.ab,r0,r1,r2⟩,x.ch,x.a8⟩)∧Vq ⟨⟨x.ae.ab,r0,r1,r2⟩,x.ch,x.a8⟩ k=some (k+(Iy x:Nat)):=by
 obtain⟨r0,r1,r2,m0,g0⟩:=zBu (x:=x.ae) (k:=k) (by omega) (by unfold Iy at hk;omega) (by unfold Ep at h;omega);have fin:k+((IY x.ae:Nat):Int)=k+(Iy x:Nat):=by unfold Iy;omega
 refine⟨r0,r1,r2, ?_, ?_⟩
 ·unfold Vp;simp only [m0,Aa];rw [fin]
 ·unfold Vq;simp only [g0,Aa];rw [if_neg (by simp;omega)];rw [fin]
def I7 (x:AL):Nat:=FO x.ar
theorem yU {x:AL} (h:I7 x≤2000000):VA x=some x:=by unfold VA;simp only [zvr (xs:=x.ar) (by unfold I7 at h;omega),Aa]
theorem yV {x:AL} (h:I7 x≤2000000):VB x x=some true:=by unfold VB;simp [zv6 (xs:=x.ar) (by unfold I7 at h;omega)]
theorem x7 {x:AL} {a:Int} (h0:0≤a) (h1:a≤1048576) (h:XP x): ∃v,VG x a=some v∧v≤a∧(0≤v→(I7 x:Int)=a-v):=by
 unfold VG I7;obtain⟨b0,e0,g0,r0⟩:=zvx (xs:=x.ar) (a:=a) (by omega) (by omega) h;rw [e0,Aa];by_cases q0:b0<0
 ·rw [if_pos (by simpa using q0)];exact⟨-1,rfl,by omega,by omega⟩
 rw [if_neg (by simpa using q0)];have s0:=r0 (by omega);exact⟨b0,rfl,by omega,fun _=>by omega⟩
def Iv (x:Bf):Nat:=I7 x.bg+I7 x.bm
theorem zCw {x:Bf} (h:Iv x≤2000000):Y3 x=some x:=by unfold Y3;simp only [yU (x:=x.bg) (by unfold Iv at h;omega),yU (x:=x.bm) (by unfold Iv at h;omega),Aa]
theorem zEg {x:Bf} (h:Iv x≤2000000):YY x x=some true:=by unfold YY;simp [yV (x:=x.bg) (by unfold Iv at h;omega),yV (x:=x.bm) (by unfold Iv at h;omega)]
theorem zCG {x:Bf} {a:Int} (h0:0≤a) (h1:a≤1048576) (h:sC x): ∃v,Zv x a=some v∧v≤a∧(0≤v→(Iv x:Int)=a-v):=by
 unfold Zv Iv;obtain⟨b1,e1,g1,r1⟩:=x7 (x:=x.bg) (a:=a) (by omega) (by omega) h.2.1;rw [e1,Aa];by_cases q1:b1<0
 ·rw [if_pos (by simpa using q1)];exact⟨-1,rfl,by omega,by omega⟩
 rw [if_neg (by simpa using q1)];have s1:=r1 (by omega);obtain⟨b2,e2,g2,r2⟩:=x7 (x:=x.bm) (a:=b1) (by omega) (by omega) h.2.2;rw [e2,Aa];by_cases q2:b2<0
 ·rw [if_pos (by simpa using q2)];exact⟨-1,rfl,by omega,by omega⟩
 rw [if_neg (by simpa using q2)];have s2:=r2 (by omega);exact⟨b2,rfl,by omega,fun _=>by omega⟩
def IX (x:CW):Nat:=Iv x.fAct
theorem zzX {x:CW} (h:IX x≤2000000):YN x=some x:=by unfold YN;simp only [zCw (x:=x.fAct) (by unfold IX at h;omega),Aa]
theorem zzP {x:CW} (h:IX x≤2000000):YS x x=some true:=by unfold YS;simp [zEg (x:=x.fAct) (by unfold IX at h;omega)]
theorem zzo {x:CW} {a:Int} (h0:0≤a) (h1:a≤1048576) (h:qC x): ∃v,YQ x a=some v∧v≤a∧(0≤v→(IX x:Int)=a-v):=by
 unfold YQ IX;obtain⟨b2,e2,g2,r2⟩:=zCG (x:=x.fAct) (a:=a) (by omega) (by omega) h.2.2;rw [e2,Aa];by_cases q2:b2<0
 ·rw [if_pos (by simpa using q2)];exact⟨-1,rfl,by omega,by omega⟩
 rw [if_neg (by simpa using q2)];have s2:=r2 (by omega);exact⟨b2,rfl,by omega,fun _=>by omega⟩
def Fg (x:Bm):Nat:=IX x.fAct
theorem zCp {x:Bm} (h:Fg x≤2000000):YE x=some x:=by unfold YE;simp only [zzX (x:=x.fAct) (by unfold Fg at h;omega),Aa]
theorem zBl {x:Bm} (h:Fg x≤2000000):Zi x x=some true:=by unfold Zi;simp [zzP (x:=x.fAct) (by unfold Fg at h;omega)]
theorem zBB {x:Bm} {a:Int} (h0:0≤a) (h1:a≤1048576) (h:V3 x): ∃v,YM x a=some v∧v≤a∧(0≤v→(Fg x:Int)=a-v):=by
 unfold YM Fg;obtain⟨b2,e2,g2,r2⟩:=zzo (x:=x.fAct) (a:=a) (by omega) (by omega) h.2.2;rw [e2,Aa];by_cases q2:b2<0
 ·rw [if_pos (by simpa using q2)];exact⟨-1,rfl,by omega,by omega⟩
 rw [if_neg (by simpa using q2)];have s2:=r2 (by omega);exact⟨b2,rfl,by omega,fun _=>by omega⟩
def GM (l:List Bm):Nat:=l.length+(l.map Fg).sum
theorem zzK {xs:List Bm} (h:GM xs≤2000000):OZ xs=some xs:=by
 have hl:xs.length≤2000000:=by unfold GM at h;omega
 have hx: ∀x∈xs,Fg x≤2000000:=fun x hx=>by have:=FP (tot:=Fg) hx;unfold GM at h;omega
 unfold OZ;rw [AN (by omega)];exact SH (fun i hi v hv=>by
  show UH xs i v=_;unfold UH;rw [if_pos (by simpa using hi),AK hi,Aa,zCp (hx _ (List.getElem_mem hi)),Aa,AK (by omega),Aa,AX hi (by omega)];rfl) (fun v=>by
  show UH xs _ v=_;unfold UH;rw [if_neg (by simp)])
theorem zzn {xs:List Bm} (h:GM xs≤2000000):YT xs xs=some true:=by
 have hl:xs.length≤2000000:=by unfold GM at h;omega
 have hx: ∀x∈xs,Fg x≤2000000:=fun x hx=>by have:=FP (tot:=Fg) hx;unfold GM at h;omega
 unfold YT;rw [if_neg (by simp)];exact PH (n:=xs.length) (fun i hi=>by
  show UN xs xs i=_;unfold UN;rw [if_pos (by simpa using hi),AK hi,Aa,Aa,zBl (hx _ (List.getElem_mem hi)),Aa,if_neg (by simp),AX hi (by omega)]) (by
  show UN xs xs _=_;unfold UN;rw [if_neg (by simp)])
theorem zzt {xs:List Bm} {a:Int} (h0:0≤a) (h1:a≤1048576) (h:(Fe V3) xs): ∃v,YX xs a=some v∧v≤a∧(0≤v→(GM xs:Int)=a-v):=by
 have hl:xs.length≤9223372036854775807:=h.1;unfold YX GM;rw [Ix h0 h1 hl];by_cases h2:a-(xs.length:Int)<0
 ·rw [if_pos (by simpa using h2)];exact⟨-1,rfl,by omega,by omega⟩
 ·rw [if_neg (by simpa using h2)];obtain⟨v,e1,e2,e3⟩:=T7 (xs:=xs) (body:=fun s:Int × Int=>QN xs s.1 s.2) Fg (a:=a-xs.length) (by omega) (by omega) (fun x hx b FE Ew=>by
   obtain⟨r,e1,e2,e3⟩:=zBB (x:=x) FE Ew (h.2 _ hx);refine⟨r,e2,e3,fun i hi=> ?_⟩;have Bt:=(List.getElem?_eq_some_iff.1 hi).1;show QN xs b i=_;unfold QN;rw [if_pos (by simpa using Bt),FX hi,Aa,e1,Aa,AX Bt (by omega)];by_cases h3:r<0
   ·rw [if_pos (by simpa using h3),if_pos h3]
   ·rw [if_neg (by simpa using h3),if_neg h3]) (fun b=>by
   show QN xs b _=_;unfold QN;rw [if_neg (by simp)])
  exact⟨v,e1,by omega,fun hv=>by have:=e3 hv;omega⟩
def VI (l:List Bm):Nat:=(l.map fun x=>5+EX x.fAct.fAct.bg.ar+EX x.fAct.fAct.bm.ar).sum
theorem zuQ (l:List Bm):VI l≤64*GM l:=by
 unfold VI GM
 induction l with
 |nil=>simp
 |cons x l ih=>rw [List.map_cons,List.sum_cons,Ap,List.map_cons,List.sum_cons];have h0:=oH x.fAct.fAct.bg.ar;have h1:=oH x.fAct.fAct.bm.ar;unfold Fg IX Iv I7 at*;omega
set_option maxHeartbeats 1000000 in
theorem zxq {xs:List Bm} {k:Int} (h0:0≤k) (hk:k+(VI xs:Nat)≤4611686018427387904) (h:GM xs≤2000000): ∃ys,ys.length=xs.length∧lY xs k=some (k+(VI xs:Nat),ys):=by
 have hl:xs.length≤2000000:=by unfold GM at h;omega
 refine zEr (cnt:=fun x:Bm=>5+EX x.fAct.fAct.bg.ar+EX x.fAct.fAct.bm.ar) (mb:=fun s:Int × Int × List Bm=>Qx s.1 s.2.1 s.2.2) 4611686018427387904 h0 hk (fun x hx k h0 hB=> ?_) (fun k v hv=> ?_)
 ·have hB:k+((5+EX x.fAct.fAct.bg.ar+EX x.fAct.fAct.bm.ar:Nat):Int)≤4611686018427387904:=hB;obtain⟨r0, -,m0,g0⟩:=oQ (xs:=x.fAct.fAct.bg.ar) (k:=k+1+1+1+1+1) (by omega) (by omega) (by have:=FP (tot:=Fg) hx;unfold GM at h;have e_:FO x.fAct.fAct.bg.ar≤Fg x:=(by unfold Fg IX Iv I7;omega);omega);obtain⟨r1, -,m1,g1⟩:=oQ (xs:=x.fAct.fAct.bm.ar) (k:=k+1+1+1+1+1+((EX x.fAct.fAct.bg.ar:Nat):Int)) (by omega) (by omega) (by have:=FP (tot:=Fg) hx;unfold GM at h;have e_:FO x.fAct.fAct.bm.ar≤Fg x:=(by unfold Fg IX Iv I7;omega);omega);have fin:k+1+1+1+1+1+((EX x.fAct.fAct.bg.ar:Nat):Int)+((EX x.fAct.fAct.bm.ar:Nat):Int)=k+(((5+EX x.fAct.fAct.bg.ar+EX x.fAct.fAct.bm.ar:Nat)):Int):=by omega
  refine⟨?y,fun i v hv hi=> ?_⟩
  rotate_left
  ·have Bt:=(List.getElem?_eq_some_iff.1 hv).1;show Qx k i v=_;unfold Qx;rw [if_pos (by simpa using Bt)];simp only [FX hv,AX hi (by omega:xs.length≤_),Int.toNat_natCast,List.set_set,Aa,(show IntKind.i64.wrap (k+1)=k+1 from A9 (by omega) (by omega)),(show IntKind.i64.wrap (k+1+1)=k+1+1 from A9 (by omega) (by omega)),(show IntKind.i64.wrap (k+1+1+1)=k+1+1+1 from A9 (by omega) (by omega)),(show IntKind.i64.wrap (k+1+1+1+1)=k+1+1+1+1 from A9 (by omega) (by omega)),(show IntKind.i64.wrap (k+1+1+1+1+1)=k+1+1+1+1+1 from A9 (by omega) (by omega)),m0,m1];rw [fin]
 ·show Qx k _ v=_;unfold Qx;rw [if_neg (by simp [hv])]
def No (l:List Bool):Nat:=l.length
theorem zFf {xs:List Bool} (h:No xs≤2000000):RE xs xs=some true:=by
 have hl:xs.length≤2000000:=by unfold No at h;omega
 unfold RE;rw [if_neg (by simp)];exact PH (n:=xs.length) (fun i hi=>by
  show UO xs xs i=_;unfold UO;rw [if_pos (by simpa using hi),AK hi,Aa,Aa,if_neg (by simp),AX hi (by omega)]) (by
  show UO xs xs _=_;unfold UO;rw [if_neg (by simp)])
def Sd (l:List Bool):Nat:=(l.map fun x=>1).sum
theorem zzH (l:List Bool):Sd l≤64*No l:=by unfold Sd No;rw [V4];omega
set_option maxHeartbeats 1000000 in
theorem zB3 {xs:List Bool} {k:Int} (h0:0≤k) (hk:k+(Sd xs:Nat)≤4611686018427387904) (h:No xs≤2000000): ∃ys,ys.length=xs.length∧mU xs k=some (k+(Sd xs:Nat),ys)∧YG ys k=some (k+(Sd xs:Nat)):=by
 have hl:xs.length≤2000000:=by unfold No at h;omega
 refine Sq (cnt:=fun x:Bool=>1) (mb:=fun s:Int × Int × List Bool=>QK s.1 s.2.1 s.2.2) (hb:=fun ys s=>QT ys s.1 s.2) 4611686018427387904 h0 hk (fun x hx k h0 hB=> ?_) (fun k v hv=> ?_) (fun k ys hy=> ?_)
 ·have hB:k+((1:Nat):Int)≤4611686018427387904:=hB;have fin:k+1=k+(((1:Nat)):Int):=by omega
  refine⟨?y,fun i v hv hi=> ?_,fun i ys hy hi=> ?_⟩
  rotate_left
  ·have Bt:=(List.getElem?_eq_some_iff.1 hv).1;show QK k i v=_;unfold QK;rw [if_pos (by simpa using Bt)];simp only [FX hv,AX hi (by omega:xs.length≤_),Int.toNat_natCast,List.set_set,Aa,(show IntKind.i64.wrap (k+1)=k+1 from A9 (by omega) (by omega))];rw [fin]
  ·have Bt:=(List.getElem?_eq_some_iff.1 hy).1;show QT ys k i=_;unfold QT;rw [if_pos (by simpa using Bt)];simp only [FX hy,AX hi (by omega:xs.length≤_),bne_self_eq_false,AM,if_false,Aa,(show IntKind.i64.wrap (k+1)=k+1 from A9 (by omega) (by omega))];rw [fin]
 ·show QK k _ v=_;unfold QK;rw [if_neg (by simp [hv])]
 ·show QT ys k _=_;unfold QT;rw [if_neg (by simp [hy])]
abbrev Af:=Ac
def BQ (a b c:Int):Bool:=decide (a≥b)&&decide (a≤c)
theorem CN {a b c:Int}:BQ a b c=true↔b≤a∧a≤c:=by simp [BQ]
@[simp] theorem Jb (a b c:Int):Gq a b c=some (BQ a b c):=rfl
@[simp] theorem KE (a b c:Int):GK a b c=some (BQ a b c):=rfl
def E2 (b:UInt8):Bool:=(decide ((b.toNat:Int)≥97)&&decide ((b.toNat:Int)≤122))||(decide ((b.toNat:Int)≥48)&&decide ((b.toNat:Int)≤57))
def J9 (s more:Af):Bool:=s.all fun b=>E2 b||more.contains b
theorem zI {a b:UInt8}:((a.toNat:Int)==(b.toNat:Int))=(a==b):=by
 rw [Bool.eq_iff_iff];simp only [beq_iff_eq];constructor
 ·intro h;exact UInt8.toNat_inj.1 (by omega)
 ·rintro rfl;rfl
theorem zza {α:Type} (xs:List α) (p:α→Bool) (q:Nat→Bool) (h: ∀(i:Nat) (hi:i<xs.length),q i=p xs[i]):(List.range xs.length).all q=xs.all p:=by
 rw [Bool.eq_iff_iff];simp only [AR,List.mem_range];constructor
 ·intro hq x hx;obtain⟨i,hi,rfl⟩:=List.getElem_of_mem hx;rw [←h i hi];exact hq i hi
 ·intro hp i hi;rw [h i hi];exact hp _ (List.getElem_mem hi)
theorem LM {α β:Type} {xs:List α} {body:Int→Option (Int ⊕ Option β)} (p:α→Bool) (b:β) (fin:Option β)
  (hs: ∀(i:Nat) (hi:i<xs.length),body i=some (if p xs[i]=true then .inl ((i+1:Nat):Int)else .inr (some b))) (he:body xs.length=some (.inr fin)):At body 0=if xs.all p=true then fin else some b:=by
 rw [Nk (n:=xs.length) (fun i=>match xs[i]? with|some x=>p x|none=>true) b fin (fun i hi=>by rw [hs i hi];simp [hi]) he,
  zza xs p _ fun i hi=>by simp [hi]]
theorem qR {s more:Af} (h1:s.length≤2000000) (h2:more.length≤2000000):RF s more=some (J9 s more):=by
 unfold RF;rw [LM (xs:=s) (fun b=>E2 b||more.contains b) false (some true) ?_ (by simp [mC])]
 ·unfold J9;cases(s.all fun b=>E2 b||more.contains b)<;>rfl
 ·intro i hi;have Cb:At (fun t:Bool × Int=>UP more i s[i] t.1 t.2) (E2 s[i],0)=some (if(E2 s[i]||more.contains s[i])=true then .inl ((i+1:Nat):Int)else .inr (some false)):=by
   have hl:=bP (xs:=more) (body:=fun t:Bool × Int=>UP more i s[i] t.1 t.2) (fun k (ok:Bool)=>(ok,k)) (fun b ok=>some (.inl (ok||s[i]==b))) (fun ok=>mJ i ok)
    (fun k hk ok=>by simp only [UP,Int.ofNat_lt,hk,decide_true,if_true,AK hk,Aa,AX hk (by omega:more.length≤_),zI,L9];cases ok<;>simp) (fun ok=>by simp [UP]) (E2 s[i])
   rw [zFb (fun ok b=>ok||s[i]==b) (fun _=>True) (fun _ _ _ _=>trivial) (fun _ _ _ _=>rfl) trivial]at hl;have hf: ∀(l:Af) (ok:Bool),l.foldl (fun ok b=>ok||s[i]==b) ok=(ok||l.contains s[i]):=by
    intro l
    induction l with
    |nil=>intro ok;simp
    |cons c l ih=>intro ok;rw [List.foldl_cons,ih,List.contains_cons,Bool.or_assoc]
   rw [hl,hf];unfold mJ;rw [AX hi (by omega)];cases(E2 s[i]||more.contains s[i])<;>rfl
  simp only [mC,Int.ofNat_lt,hi,decide_true,if_true,AK hi,Aa];exact Cb
theorem zww (l:Af) (c:UInt8):decide (Lib.indexByte l c<0)= !l.contains c:=by
 induction l with
 |nil=>rfl
 |cons b l ih=>
  unfold Lib.indexByte;have Jy:=Lib.indexByte_ge l c;rw [List.contains_cons];by_cases hb:b=c
  ·subst hb;simp
  ·have h1:(b==c)=false:=by simpa using hb
   have h2:(c==b)=false:=by simpa using fun h=>hb h.symm
   rw [h1,h2];simp only [AM,if_false,Bool.false_or];rw [←ih];by_cases hm:Lib.indexByte l c= -1
   ·simp [hm]
   ·have h3:(Lib.indexByte l c== -1)=false:=by simpa using hm
    rw [h3];simp only [AM,if_false];rw [decide_eq_decide];omega
theorem pW {s more:Af} (h1:s.length≤2000000):Ru s more=some (J9 s more):=by
 unfold Ru;rw [LM (xs:=s) (fun b=>E2 b||more.contains b) false (some true) ?_ (by simp [lQ])]
 ·unfold J9;cases(s.all fun b=>E2 b||more.contains b)<;>rfl
 ·intro i hi;have hu:((s[i].toNat:Int)).toNat.toUInt8=s[i]:=by simp
  simp only [lQ,Int.ofNat_lt,hi,decide_true,if_true,AK hi,Aa,lL,mA,X3,hu,zww,AX hi (by omega:s.length≤_)];rw [show((decide ((s[i].toNat:Int)≥97)&&decide ((s[i].toNat:Int)≤122))||(decide ((s[i].toNat:Int)≥48)&&decide ((s[i].toNat:Int)≤57)))=E2 s[i]from rfl];cases E2 s[i]<;>cases more.contains s[i]<;>rfl
def Ao (s:Af):Bool:=BQ s.length 1 12&&J9 s [46,47]
def Gs (s:Af):Bool:=decide ((s.length:Int)≤24)&&J9 s [46,45,44,95]
theorem jK {s:Af} (h:s.length≤2000000):RQ s=some (Ao s):=by simp only [RQ,Jb,Aa,qR h (more:= [46,47]) (by decide),Ao];cases BQ s.length 1 12<;>simp
theorem yR {s:Af} (h:s.length≤2000000):Vh s=some (Ao s):=by simp only [Vh,KE,Aa,pW h,Ao];cases BQ s.length 1 12<;>simp
theorem jR {s:Af} (h:s.length≤2000000):VH s=some (Gs s):=by simp only [VH,Aa,qR h (more:= [46,45,44,95]) (by decide),Gs];by_cases hl:(s.length:Int)≤24<;>simp [hl]
theorem zJu {s:Af} (h:s.length≤2000000):ZI s=some (Gs s):=by simp only [ZI,Aa,pW h,Gs];by_cases hl:(s.length:Int)≤24<;>simp [hl]
def H6 (v:Af) (HB:Bool):Bool:=Gs v&&(!HB||v== [])
theorem zD8 {v:Af} {HB:Bool} (h:v.length≤2000000):Y7 v HB=some (H6 v HB):=by simp only [Y7,zJu h,Aa,H6,bne];cases Gs v<;>cases HB<;>cases(v== [])<;>rfl
theorem zF6 {k v:Af} {HB:Bool} (hk:k.length≤2000000) (hv:v.length≤2000000):ZG k v HB=some (Ao k&&H6 v HB):=by simp only [ZG,jK hk,jR hv,Aa,H6];cases Ao k<;>simp
def I5 (ks:List Af) (i:Nat):Bool:=i==0||Op.bytesLess ((ks[i-1]?).getD []) ((ks[i]?).getD [])
def KJ (ks:List Af):Bool:=(List.range ks.length).all (I5 ks)
theorem cV: ∀(a b:Af),(Op.bytesLess a b||a==b)= !Op.bytesLess b a
 | [], []=>rfl
 | [],_::_=>rfl
 |_::_, []=>rfl
 |x::a,y::b=>by
  have ih:=cV a b;simp only [Op.bytesLess];rcases Nat.lt_trichotomy x.toNat y.toNat with h|h|h
  ·have h1:x<y:=UInt8.lt_iff_toNat_lt.2 h;have h2: ¬y<x:=fun h'=>by have:=UInt8.lt_iff_toNat_lt.1 h';omega
   have h3: ¬y=x:=fun h'=>by subst h';omega
   simp [h1,h2,h3]
  ·have h0:x=y:=UInt8.toNat_inj.1 h;subst h0;have h1: ¬x<x:=fun h'=>by have:=UInt8.lt_iff_toNat_lt.1 h';omega
   rw [show((x::a)==(x::b))=(a==b) by simp];simp only [h1,decide_false,Bool.false_or,beq_self_eq_true,Bool.true_and];exact ih
  ·have h1: ¬x<y:=fun h'=>by have:=UInt8.lt_iff_toNat_lt.1 h';omega
   have h2:y<x:=UInt8.lt_iff_toNat_lt.2 h;have h3: ¬x=y:=fun h'=>by subst h';omega
   simp [h1,h2,h3]
theorem dE {i:Nat} (h0:0<i) (h:i≤2000000):IntKind.i64.wrap ((i:Int)-1)=((i-1:Nat):Int):=by rw [A9 (by omega) (by omega)];omega
theorem xK {α:Type} (xs:List α) (p:α→Bool) (q r:Nat→Bool) (h: ∀(i:Nat) (hi:i<xs.length),r i=(p xs[i]&&q i)):(List.range xs.length).all r=(xs.all p&&(List.range xs.length).all q):=by
 rw [←zza xs p (fun i=>match xs[i]? with|some x=>p x|none=>true) fun i hi=>by simp [hi]];rw [Bool.eq_iff_iff];simp only [Ae,AR,List.mem_range];constructor
 ·intro hr;exact⟨fun i hi=>by have:=hr i hi;rw [h i hi,Ae]at this;simpa [hi]using this.1,fun i hi=>by have:=hr i hi;rw [h i hi,Ae]at this;exact this.2⟩
 ·rintro⟨h1,h2⟩ i hi;rw [h i hi,Ae];exact⟨by have:=h1 i hi;simpa [hi]using this,h2 i hi⟩
theorem zzs {ks:List Af} (h:ks.length≤2000000) (hk: ∀k∈ks,k.length≤2000000):YJ ks=some (ks.all Ao&&KJ ks):=by
 unfold YJ KJ;rw [Nk (n:=ks.length) (fun i=>Ao ((ks[i]?).getD [])&&I5 ks i) false (some true) ?_ (by simp [lW]),xK ks Ao (I5 ks) _ fun i hi=>by simp [hi]]
 ·cases(ks.all Ao&&(List.range ks.length).all (I5 ks))<;>rfl
 ·intro i hi;simp only [lW,Int.ofNat_lt,hi,decide_true,if_true,AK hi,Aa,yR (hk _ (List.getElem_mem hi)),AX hi (by omega:ks.length≤_),List.getElem?_eq_getElem hi,Option.getD_some,I5];by_cases h0:i=0
  ·subst h0;cases Ao ks[0]<;>simp
  ·have hp:(i:Int)>0:=by omega
   have CD:i-1<ks.length:=by omega
   have hb:(i==0)=false:=by simpa using h0
   simp only [hp,decide_true,if_true,dE (Nat.pos_of_ne_zero h0) (by omega:i≤2000000),AK CD,Aa,cV,List.getElem?_eq_getElem CD,Option.getD_some,hb,Bool.false_or];cases Ao ks[i]<;>cases Op.bytesLess ks[i-1] ks[i]<;>rfl
theorem zzC {l:List Ab} (h:l.length≤2000000):Zj l=some (l.map (·.af)):=by
 have h1:=Fw (xs:=l) (body:=fun s:Int × List Af=>QX l s.1 s.2) (fun i (o:List Af)=>(i,o)) (fun o w=>o++ [w.af]) (fun o=>some o) (fun q o=>o.length=q)
  (fun i hi o hI=>by
   refine⟨?_,by simp [hI]⟩;show QX l i o=_;unfold QX;have hr:((o.length:Int)+(([l[i].af]:List Af).length:Int))*16≤140737488355328∧(o.length:Int)+(([l[i].af]:List Af).length:Int)≤140737488355328:=by rw [AF,hI];omega
   rw [if_pos (by simpa using hi),AK hi,Aa,AN hr,AX hi (by omega)]) (fun o _=>by
   show QX l l.length o=_;unfold QX;rw [if_neg (by simp)]) (s:= []) rfl
 have hf: ∀(l:List Ab) (o:List Af),l.foldl (fun o w=>o++ [w.af]) o=o++l.map (·.af):=by
  intro l
  induction l with
  |nil=>intro o;simp
  |cons w l ih=>intro o;rw [List.foldl_cons,ih];simp
 have h2:=h1.1;rw [hf,List.nil_append]at h2;unfold Zj;exact h2
def Dg (w:Ab):Bool:=Ao w.af&&H6 w.ay w.bf
def J5 (l:List Ab):Bool:=decide ((l.length:Int)≤24)&&(l.all Dg&&KJ (l.map (·.af)))
def PD (l:List Ab):Prop:=l.length≤2000000∧ ∀w∈l,w.af.length≤2000000∧w.ay.length≤2000000
theorem zDp {l:List Ab} (h:PD l):YO l=some (J5 l):=by
 have e1:Hq l (fun y0_=>Yy y0_)=some (l.any fun w=> !H6 w.ay w.bf):=Ws _ (fun w hw=>by simp [Yy,zD8 (h.2 w hw).2]) (by have:=h.1;omega);have e2:=zzs (ks:=l.map (·.af)) (by simpa using h.1) (by simp only [List.mem_map];rintro k ⟨w,hw,rfl⟩;exact(h.2 w hw).1);simp only [YO,zzC h.1,e1,e2,Aa,J5,←List.not_all_eq_any_not];have e3:l.all Dg=((l.map (·.af)).all Ao&&l.all fun w=>H6 w.ay w.bf):=by
  rw [Bool.eq_iff_iff];simp only [AR,Ae,Dg,List.mem_map];constructor
  ·intro h;exact⟨by rintro k ⟨w,hw,rfl⟩;exact(h w hw).1,fun w hw=>(h w hw).2⟩
  ·rintro⟨h1,h2⟩ w hw;exact⟨h1 _ ⟨w,hw,rfl⟩,h2 w hw⟩
 rw [e3];generalize (l.map (·.af)).all Ao=b1;generalize KJ (l.map (·.af))=b2;generalize (l.all fun w=>H6 w.ay w.bf)=b3;by_cases hl:(l.length:Int)≤24<;>cases b1<;>cases b2<;>cases b3<;>simp [hl]
theorem zDv {l:List Ab} (h:PD l):Y0 l=some (J5 l):=by
 unfold Y0;have hn:=h.1;rw [Nk (n:=l.length) (fun i=>Dg ((l[i]?).getD ⟨[], [],false⟩)&&I5 (l.map (·.af)) i) false (mB l) ?_ (by simp [lT]),xK l Dg (I5 (l.map (·.af))) _ fun i hi=>by simp [hi]]
 ·unfold mB J5 KJ;rw [List.length_map];cases(l.all Dg&&(List.range l.length).all (I5 (l.map (·.af))))<;>simp
 ·intro i hi;have hm:=h.2 _ (List.getElem_mem hi);simp only [lT,Int.ofNat_lt,hi,decide_true,if_true,AK hi,Aa,zF6 hm.1 hm.2,AX hi (by omega:l.length≤_),List.getElem?_eq_getElem hi,Option.getD_some,I5,List.getElem?_map,Option.map_some];rw [show(Ao l[i].af&&H6 l[i].ay l[i].bf)=Dg l[i]from rfl];by_cases h0:i=0
  ·subst h0;cases Dg l[0]<;>simp
  ·have hp:(i:Int)>0:=by omega
   have CD:i-1<l.length:=by omega
   have hb:(i==0)=false:=by simpa using h0
   simp only [hp,decide_true,if_true,dE (Nat.pos_of_ne_zero h0) (by omega:i≤2000000),AK CD,Aa,List.getElem?_eq_getElem CD,Option.map_some,Option.getD_some,hb,Bool.false_or];cases Dg l[i]<;>cases Op.bytesLess l[i-1].af l[i].af<;>rfl
def BZ (l:List Ab):Bool:=J5 l&&l.all fun w=> !w.bf
theorem zHH {l:List Ab} (h:PD l):aF l=some (BZ l):=by have e1:Hq l (fun y0_=>Za y0_)=some (l.any fun w=> !!w.bf):=Ws _ (fun w hw=>by simp [Za]) (by have:=h.1;omega);simp only [aF,zDp h,e1,Aa,BZ,←List.not_all_eq_any_not];cases J5 l<;>simp
theorem Sr {l:List Ab} (h:PD l):Lz l=some (BZ l):=by
 have hn:=h.1;unfold Lz;rw [LM (xs:=l) (fun w=> !w.bf) false (mY l) (fun i hi=>by simp only [mX,Int.ofNat_lt,hi,decide_true,if_true,AK hi,Aa,AX hi (by omega:l.length≤_)];cases l[i].bf<;>rfl) (by simp [mX])]
 simp only [mY,zDv h,Aa,BZ];cases(l.all fun w=> !w.bf)<;>simp
def small (b:UInt8):Bool:= !(decide ((b.toNat:Int)<97)||decide ((b.toNat:Int)>122))
def CX (s:Af) (n:Int):Bool:=s.all small&&BQ s.length 1 n
theorem pV {s:Af} {n:Int} (h:s.length≤2000000):Q6 s n=some (CX s n):=by
 unfold Q6;rw [LM (xs:=s) small false (lJ s n) (fun i hi=>by simp only [lG,Int.ofNat_lt,hi,decide_true,if_true,AK hi,Aa,AX hi (by omega:s.length≤_)];rw [show(decide ((s[i].toNat:Int)<97)||decide ((s[i].toNat:Int)>122))= !small s[i] by simp [small]];cases small s[i]<;>rfl) (by simp [lG])]
 unfold lJ CX BQ;cases s.all small<;>simp
theorem qA {s:Af} {n:Int} (h:s.length≤2000000):Rc s n=some (CX s n):=by
 unfold Rc;rw [LM (xs:=s) small false (lH s n) (fun i hi=>by simp only [lI,Int.ofNat_lt,hi,decide_true,if_true,AK hi,Aa,AX hi (by omega:s.length≤_)];rw [show(decide ((s[i].toNat:Int)<97)||decide ((s[i].toNat:Int)>122))= !small s[i] by simp [small]];cases small s[i]<;>rfl) (by simp [lI])]
 simp only [lH,KE,Aa,CX];cases s.all small<;>simp
theorem zS {xs:List Af} {s:Af} (h:xs.length≤2000000):VE xs s=some (BS (· ==s) xs):=by unfold VE;refine rH (· ==s) (fun i hi=> ?_) (by simp [nC]);simp only [nC,Int.ofNat_lt,hi,decide_true,if_true,AK hi,Aa,AX hi (by omega:xs.length≤_)];cases xs[i]==s<;>rfl
theorem zF8 {xs:List Af} {s:Af} (h:xs.length≤2000000):X6 xs s=some (BS (· ==s) xs):=by unfold X6;refine rH (· ==s) (fun i hi=> ?_) (by simp [lA]);simp only [lA,Int.ofNat_lt,hi,decide_true,if_true,AK hi,Aa,AX hi (by omega:xs.length≤_)];rw [show(s==xs[i])=(xs[i]==s)from BEq.comm];cases xs[i]==s<;>rfl
theorem jP (xs:List Af) (s:Af):(xs.any fun x=>x==s)=xs.contains s:=by rw [List.contains_eq_any_beq];congr 1;funext x;exact BEq.comm
theorem yB {xs:List Af} {s:Af} (h:xs.length≤2000000):Uw xs s=some (xs.contains s):=by simp only [Uw,zF8 h,Aa,Sg,jP]
def NH (cs:List Af) (i:Nat):Bool:=CX ((cs[i]?).getD []) 3&& !(cs.take i).contains ((cs[i]?).getD [])
def NB (cs:List Af):Bool:=(List.range cs.length).all (NH cs)
def IJ (t:Ad) (i:Nat):Bool:=
 let x:=(t.ah[i]?).getD ⟨[],0,0⟩
 CX x.ab 1&&BQ x.bh 1 ((t.aq.length:Int)-1)&&BQ x.ao 0 3&&(i==0||Op.bytesLess ((t.ah[i-1]?).getD ⟨[],0,0⟩).ab x.ab)
def Be (t:Ad):Bool:=CX t.ab 1&&(NB t.aq&&BQ t.aq.length 2 4)&&decide ((t.ah.length:Int)≤3)&&(List.range t.ah.length).all (IJ t)
structure Du (t:Ad):Prop where
 name:t.ab.length≤2000000
 ij:t.aq.length≤2000000
 k8: ∀c∈t.aq,c.length≤2000000
 idxs:t.ah.length≤2000000
 idx: ∀x∈t.ah,x.ab.length≤2000000
theorem ON {α:Type} (xs:List α) (i:Nat):By xs 0 i=xs.take i:=by simp [By]
theorem zIv {cs:List Af} (h:cs.length≤2000000) (hc: ∀c∈cs,c.length≤2000000):ZP cs=some (NB cs&&BQ cs.length 2 4):=by
 unfold ZP;rw [Nk (n:=cs.length) (NH cs) false (mF cs) ?_ (by simp [mG])]
 ·simp only [mF,Jb,Aa,NB];cases(List.range cs.length).all (NH cs)<;>simp
 ·intro i hi;unfold mG NH;rw [if_pos (by simpa using hi),AK hi,Aa,pV (hc _ (List.getElem_mem hi)),Aa,AN (by omega),ON,zS (by rw [List.length_take];omega),Aa,Sg,jP,AX hi (by omega)];simp only [List.getElem?_eq_getElem hi,Option.getD_some];cases CX cs[i] 3<;>cases(cs.take i).contains cs[i]<;>rfl
theorem Sl {t:Ad} (h:Du t):M8 t=some (Be t):=by
 have hw:=A9 (n:=(t.aq.length:Int)-1) (by omega) (by have:=h.ij;omega);have hn:=h.idxs;have hl:At (fun s:Int=>Yz t s) 0=some ((List.range t.ah.length).all (IJ t)):=by
  rw [Nk (n:=t.ah.length) (IJ t) false (some true) ?_ (by simp [Yz])]
  ·cases(List.range t.ah.length).all (IJ t)<;>rfl
  ·intro i hi;unfold IJ;simp only [Yz,Int.ofNat_lt,hi,decide_true,if_true,AK hi,Aa,pV (h.idx _ (List.getElem_mem hi)),Jb,hw,AX hi (by omega:t.ah.length≤_),List.getElem?_eq_getElem hi,Option.getD_some];by_cases h0:i=0
   ·subst h0;cases CX t.ah[0].ab 1<;>cases BQ t.ah[0].bh 1 ((t.aq.length:Int)-1)<;>cases BQ t.ah[0].ao 0 3<;>rfl
   ·have hp:(i:Int)>0:=by omega
    have CD:i-1<t.ah.length:=by omega
    have hb:(i==0)=false:=by simpa using h0
    simp only [hp,decide_true,if_true,dE (Nat.pos_of_ne_zero h0) (by omega:i≤2000000),AK CD,Aa,List.getElem?_eq_getElem CD,Option.getD_some,hb,Bool.false_or];cases CX t.ah[i].ab 1<;>cases BQ t.ah[i].bh 1 ((t.aq.length:Int)-1)<;>cases BQ t.ah[i].ao 0 3<;>cases Op.bytesLess t.ah[i-1].ab t.ah[i].ab<;>rfl
 unfold M8 Be;rw [pV h.name,Aa,zIv h.ij h.k8,hl];by_cases hk:(t.ah.length:Int)≤3
 ·have BV: ¬(t.ah.length:Int)>3:=by omega
  simp only [hk,BV,decide_true,decide_false,Bool.or_false,Bool.and_true];cases CX t.ab 1<;>cases(NB t.aq&&BQ t.aq.length 2 4)<;>simp
 ·have BV:(t.ah.length:Int)>3:=by omega
  simp only [hk,BV,decide_true,decide_false,Bool.or_true,Bool.and_false,Bool.false_and];cases CX t.ab 1<;>simp
theorem zFq {t:Ad} (h:Du t):YR t=some (Be t):=by
 have hw:=A9 (n:=(t.aq.length:Int)-1) (by omega) (by have:=h.ij;omega);have hn:=h.idxs;have hm:=h.ij;have hl:At (fun s:Int=>YC t s) 0=some ((List.range t.ah.length).all (IJ t)):=by
  rw [Nk (n:=t.ah.length) (IJ t) false (some true) ?_ (by simp [YC])]
  ·cases(List.range t.ah.length).all (IJ t)<;>rfl
  ·intro i hi;unfold IJ;simp only [YC,nT,Int.ofNat_lt,hi,decide_true,if_true,AK hi,Aa,qA (h.idx _ (List.getElem_mem hi)),KE,hw,AX hi (by omega:t.ah.length≤_),List.getElem?_eq_getElem hi,Option.getD_some];by_cases h0:i=0
   ·subst h0;cases CX t.ah[0].ab 1<;>cases BQ t.ah[0].bh 1 ((t.aq.length:Int)-1)<;>cases BQ t.ah[0].ao 0 3<;>rfl
   ·have hp:(i:Int)>0:=by omega
    have CD:i-1<t.ah.length:=by omega
    have hb:(i==0)=false:=by simpa using h0
    simp only [hp,decide_true,if_true,dE (Nat.pos_of_ne_zero h0) (by omega:i≤2000000),AK CD,Aa,List.getElem?_eq_getElem CD,Option.getD_some,hb,Bool.false_or,cV];cases CX t.ah[i].ab 1<;>cases BQ t.ah[i].bh 1 ((t.aq.length:Int)-1)<;>cases BQ t.ah[i].ao 0 3<;>cases Op.bytesLess t.ah[i-1].ab t.ah[i].ab<;>rfl
 have hc:At (fun s:Int=>YB t s) 0=some (NB t.aq&&(List.range t.ah.length).all (IJ t)):=by
  rw [Nk (n:=t.aq.length) (NH t.aq) false (lV t) ?_ (by simp [YB])]
  ·unfold lV NB;rw [hl];cases(List.range t.aq.length).all (NH t.aq)<;>simp
  ·intro i hi;unfold YB NH;rw [if_pos (by simpa using hi),AK hi,Aa,qA (h.k8 _ (List.getElem_mem hi)),Aa,AN (by omega),ON,yB (by rw [List.length_take];omega),Aa,AX hi (by omega)];simp only [List.getElem?_eq_getElem hi,Option.getD_some];cases CX t.aq[i] 3<;>cases(t.aq.take i).contains t.aq[i]<;>rfl
 unfold YR Be;rw [qA h.name,Aa,KE,Aa,hc];by_cases hk:(t.ah.length:Int)≤3
 ·have BV: ¬(t.ah.length:Int)>3:=by omega
  simp only [hk,BV,decide_true,decide_false,Bool.or_false,Bool.and_true];cases CX t.ab 1<;>cases NB t.aq<;>cases BQ t.aq.length 2 4<;>simp
 ·have BV:(t.ah.length:Int)>3:=by omega
  simp only [hk,BV,decide_true,decide_false,Bool.or_true,Bool.and_false,Bool.false_and];cases CX t.ab 1<;>simp
theorem L6 {t:Ad} {s:Af} (h:Du t):HW t s=some (BS (fun x:Au=>x.ab==s) t.ah):=by have hn:=h.idxs;unfold HW;refine rH (fun x:Au=>x.ab==s) (fun i hi=> ?_) (by simp [mT]);simp only [mT,Int.ofNat_lt,hi,decide_true,if_true,AK hi,Aa,AX hi (by omega:t.ah.length≤_)];cases t.ah[i].ab==s<;>rfl
theorem WG {t:Ad} {s:Af} (h:Du t):Qy t s=some (BS (fun x:Au=>x.ab==s) t.ah):=by have hn:=h.idxs;have e:Ff t.ah (fun y0_=>lD y0_ s)=some (BS (fun x:Au=>x.ab==s) t.ah):=zyv (fun x:Au=>x.ab==s) (fun x _=>rfl) (by omega);simp only [Qy,e,Aa]
def B1 (c:UInt8):Af→List Af
 | []=> [[]]
 |b::s=>if b=c then []::B1 c s else(match B1 c s with| []=> [[b]]|x::xs=>(b::x)::xs)
theorem qK (c:UInt8) (s:Af):B1 c s≠ []:=by
 cases s with
 |nil=>simp [B1]
 |cons b s=>simp only [B1];split;simp;split<;>simp
theorem LB {c:UInt8}: ∀{s:Af},(∀b∈s,b≠c)→B1 c s= [s]
 | [],_=>rfl
 |b::s,h=>by have e:=LB (c:=c) (s:=s) fun x hx=>h x (List.mem_cons_of_mem _ hx);simp only [B1,if_neg (h b (by simp)),e]
theorem Nj {c:UInt8}: ∀{p q:Af},(∀b∈p,b≠c)→B1 c (p++c::q)=p::B1 c q
 | [],q,_=>by simp [B1]
 |b::p,q,h=>by have e:=Nj (c:=c) (p:=p) (q:=q) fun x hx=>h x (List.mem_cons_of_mem _ hx);simp only [List.cons_append,B1,if_neg (h b (by simp)),e]
theorem aY (c:UInt8) (s:Af):(B1 c s).length=s.count c+1:=by
 induction s with
 |nil=>rfl
 |cons b s ih=>
  simp only [B1];by_cases h:b=c
  ·subst h;simp [ih]
  ·rw [if_neg h,List.count_cons_of_ne h];cases hs:B1 c s with
   |nil=>exact absurd hs (qK c s)
   |cons x xs=>rw [hs]at ih;simpa using ih
theorem OQ {α:Type} (xs:List α) (i j:Nat):By xs (i:Int) (j:Int)=(xs.take j).drop i:=by simp [By]
def XX (c:UInt8) (s:Af) (t:List Af × Nat) (i:Nat):List Af × Nat:=if(s[i]?).getD 0=c then(t.1++ [(s.take i).drop t.2],i+1)else t
theorem wA {s:Af} {c:UInt8} (h:s.length≤2000000):O9 s c.toNat=some (B1 c s):=by
 have h1:=Fw (xs:=List.range s.length) (body:=fun t:List Af × Int × Int=>Q7 s c.toNat t.1 t.2.1 t.2.2) (fun i (t:List Af × Nat)=>(t.1,(t.2:Int),i)) (XX c s) (fun t=>mL s t.2 t.1)
  (fun i t=>t.2≤i∧(∀b∈(s.take i).drop t.2,b≠c)∧t.1++B1 c (s.drop t.2)=B1 c s∧t.1.length≤i)
  (fun i hi t hI=>by
   rw [List.length_range]at hi;obtain⟨I1,I2,I3,I4⟩:=hI;have hw:=AX hi (by omega:s.length≤_);rw [List.getElem_range];constructor
   ·show Q7 s c.toNat t.1 t.2 i=_;unfold Q7 XX;rw [if_pos (by simpa using hi),AK hi,Aa,zI,hw,OQ,List.getElem?_eq_getElem hi,Option.getD_some];by_cases hc:s[i]=c
    ·have hr:((t.1.length:Int)+(([(s.take i).drop t.2]:List Af).length:Int))*16≤140737488355328∧(t.1.length:Int)+(([(s.take i).drop t.2]:List Af).length:Int)≤140737488355328:=by
      rw [AF];omega
     rw [if_pos (by simpa using hc),AN (by omega),AN hr,if_pos hc]
    ·rw [if_neg (by simpa using hc),if_neg hc]
   ·unfold XX;rw [List.getElem?_eq_getElem hi,Option.getD_some];have Cf:s.take (i+1)=s.take i++ [s[i]]:=by rw [List.take_succ_eq_append_getElem hi]
    have hd:(s.take (i+1)).drop t.2=(s.take i).drop t.2++ [s[i]]:=by rw [Cf,List.drop_append_of_le_length (by rw [List.length_take];omega)]
    by_cases hc:s[i]=c
    ·rw [if_pos hc];refine⟨Nat.le_refl _,by simp, ?_,by simp;omega⟩;have e:s.drop t.2=(s.take i).drop t.2++c::s.drop (i+1):=by
      have e0:s.drop t.2=(s.take i).drop t.2++s.drop i:=by
       conv=>lhs;rw [←List.take_append_drop i s]
       rw [List.drop_append_of_le_length (by rw [List.length_take];omega)]
      rw [e0,List.drop_eq_getElem_cons hi,hc]
     rw [e,Nj I2]at I3;simpa using I3
    ·rw [if_neg hc];refine⟨by omega, ?_,I3,by omega⟩;rw [hd];intro b hb;rcases Ai.1 hb with hb|hb
     ·exact I2 b hb
     ·simp at hb;subst hb;exact hc)
  (fun t hI=>by show Q7 s c.toNat t.1 t.2 ((List.range s.length).length:Nat)=_;unfold Q7;rw [if_neg (by simp)]) (s:=([],0)) ⟨Nat.le_refl _,by simp,by simp,by simp⟩
 generalize (List.range s.length).foldl (XX c s) ([],0)=t at h1;rw [List.length_range]at h1;obtain⟨h2,I1,I2,I3,I4⟩:=h1;unfold O9;refine Eq.trans h2 ?_;unfold mL;have hw:By s (t.2:Int) (s.length:Int)=s.drop t.2:=by rw [OQ,List.take_length]
 have hr:((t.1.length:Int)+(([s.drop t.2]:List Af).length:Int))*16≤140737488355328∧(t.1.length:Int)+(([s.drop t.2]:List Af).length:Int)≤140737488355328:=by rw [AF];omega
 rw [hw,AN (by omega),AN hr,←I3];rw [List.take_length]at I2;rw [LB I2]
theorem Zd (l:Af) (c:UInt8):(Lib.indexByte l c= -1∧ ∀b∈l,b≠c)∨ ∃p q:Af,l=p++c::q∧(∀b∈p,b≠c)∧Lib.indexByte l c=p.length:=by
 induction l with
 |nil=>exact .inl ⟨rfl,by simp⟩
 |cons b l ih=>
  unfold Lib.indexByte;by_cases hb:b=c
  ·subst hb;exact .inr ⟨[],l,by simp,by simp,by simp⟩
  ·have h1:(b==c)=false:=by simpa using hb
   rw [h1];simp only [AM,if_false];rcases ih with⟨e,h⟩|⟨p,q,rfl,h,e⟩
   ·refine .inl ⟨by simp [e],fun x hx=> ?_⟩;rcases Ag.1 hx with rfl|hx
    ·exact hb
    ·exact h x hx
   ·refine .inr ⟨b::p,q,by simp,fun x hx=> ?_, ?_⟩
    ·rcases Ag.1 hx with rfl|hx
     ·exact hb
     ·exact h x hx
    ·rw [e];have:((p.length:Int)== -1)=false:=by rw [beq_eq_false_iff_ne];omega
     rw [this];simp
theorem zwb {c:UInt8} {s:Af} (h: ∀b∈s,b≠c):s.count c=0:=List.count_eq_zero.2 fun hc=>h c hc rfl
theorem zF2 {c:UInt8} {p q:Af} (h: ∀b∈p,b≠c):(p++c::q).count c=q.count c+1:=by rw [List.count_append,zwb h,List.count_cons_self];omega
theorem zxQ {α:Type} {a:List α} {i:Nat} (x:α) (h:i<a.length):(a.set i x).take (i+1)=a.take i++ [x]:=by rw [List.take_succ_eq_append_getElem (by simpa using h),List.getElem_set_self,List.take_set,List.set_eq_of_length_le (by rw [List.length_take];omega)]
theorem zI3 {a b:Int} (h: ¬a<b):(bif decide (a<b)then a else b)=b:=by simp [h]
theorem zFj {s:Af} {c:UInt8} (h:s.length≤2000000):Vj s [c]=some (B1 c s):=by
 have AH:s.count c≤s.length:=List.count_le_length;have JS:IntKind.i64.wrap ((s.count c:Int)+1)=(s.count c:Int)+1:=A9 (by omega) (by omega);have IU:IntKind.i64.wrap ((s.length:Int)+1)=(s.length:Int)+1:=A9 (by omega) (by omega);have NU:(bif decide ((s.length:Int)+1<(s.count c:Int)+1)then(s.length:Int)+1 else(s.count c:Int)+1)=(s.count c:Int)+1:=zI3 (by omega);have uG:IntKind.i64.wrap ((s.count c:Int)+1-1)=(s.count c:Int):=by rw [A9 (by omega) (by omega)];omega
 have key: ∀(n:Nat) (r:Af) (a:List Af) (i:Nat),r.count c=n→r.length≤s.length→a.length=s.count c+1→i+n=s.count c→a.take i++B1 c r=B1 c s→
   At (fun t:Af × Int × List Af=>Q0 s [c] 0 ((s.count c:Int)+1) t.1 t.2.1 t.2.2) (r,(i:Int),a)=some (B1 c s):=by
  intro n
  induction n with
  |zero=>
   intro r a i hr hl ha hi hI;have GG: ∀b∈r,b≠c:=fun b hb e=>by subst e;exact List.count_eq_zero.1 hr hb
   have Oc:i<a.length:=by omega
   have iK:=AX Oc (by omega);have hb:Q0 s [c] 0 ((s.count c:Int)+1) r i a=some (.inr (some (B1 c s))):=by unfold Q0;rw [IU,NU,uG,if_neg (by simp;omega)];unfold lN;rw [AK Oc,Aa,iK,Int.toNat_natCast,AN (by rw [List.length_set];omega),ON,zxQ r Oc,←hI,LB GG]
   rw [DG];dsimp only;rw [hb]
  |succ n ih=>
   intro r a i hr hl ha hi hI;rcases Zd r c with⟨_,h0⟩|⟨p,q,rfl,hp,hx⟩
   ·rw [zwb h0]at hr;omega
   ·rw [zF2 hp]at hr;have Oc:i<a.length:=by omega
    have iK:=AX Oc (by omega);simp only [As,Ap]at hl;have Lk:IntKind.i64.wrap ((p.length:Int)+0)=(p.length:Int):=by rw [A9 (by omega) (by omega)];omega
    have EW:IntKind.i64.wrap ((p.length:Int)+(([c]:Af).length:Int))=((p.length+1:Nat):Int):=by rw [AF,A9 (by omega) (by omega)];omega
    have hb:Q0 s [c] 0 ((s.count c:Int)+1) (p++c::q) i a=some (.inl (q,((i+1:Nat):Int),a.set i p)):=by
     unfold Q0;have JA:Y8 (p++c::q) [c]=some (p.length:Int):=by simp [Y8,QE,hx]
     rw [IU,NU,uG,if_pos (by simp;omega),JA,Aa,if_neg (by simp),Lk,AN (by rw [As];omega),AK Oc,Aa,EW,AN (by rw [As,Ap];omega),iK,Int.toNat_natCast,OQ,ON,List.take_length];have e1:(p++c::q).drop (p.length+1)=q:=by simp
     have e2:(p++c::q).take p.length=p:=by simp
     rw [e1,e2]
    rw [DG];dsimp only;rw [hb];refine ih q (a.set i p) (i+1) (by omega) (by omega) (by simpa using ha) (by omega) ?_;rw [zxQ p Oc,←hI,Nj hp];simp
 have BY:Y4 s [c]=some ((s.count c:Nat):Int):=rfl;have hz:(((-1:Int))==0)=false:=rfl;have Bl:(([c]:Af)==([]:Af))=false:=rfl;unfold Vj lS;rw [hz,Bl,if_neg (by simp),if_neg (by simp),if_pos (by simp),BY,Aa,JS];unfold lK;rw [IU,NU,AN (by omega)];exact zHv (key (s.count c) s (List.replicate ((s.count c:Int)+1).toNat []) 0 rfl (Nat.le_refl _) (by simp) (by omega) (by simp))
def field (s:Af):Bool:=BQ s.length 1 3&&J9 s []
theorem rR {s:Af} (h:s.length≤2000000):Rr s=some (field s):=by simp only [Rr,Jb,Aa,qR h (more:= []) (by decide),field];cases BQ s.length 1 3<;>simp
theorem cG {s:Af} (h:s.length≤2000000):RH s=some (field s):=by simp only [RH,KE,Aa,pW h,field];cases BQ s.length 1 3<;>simp
theorem zDL (sep x y:Af) (r:List Af):Lib.join (x::(r++ [y])) sep=Lib.join (x::r) sep++sep++y:=by rw [Lib.join_cons,Lib.join_cons];simp [Lib.joinTail]
theorem zD6 {xs:List Af} {sep:Af} {i:Nat} (hi:i<xs.length):Lib.join (xs.take (i+1)) sep=if i=0 then xs[i]else Lib.join (xs.take i) sep++sep++xs[i]:=by
 rw [List.take_succ_eq_append_getElem hi];cases xs with
 |nil=>simp at hi
 |cons x xs=>
  cases i with
  |zero=>simp [Lib.join_cons,Lib.joinTail]
  |succ i=>rw [List.take_succ_cons,List.cons_append,zDL,if_neg (by omega)]
def DS:List Af→Nat
 | []=>0
 |x::xs=>x.length+DS xs
theorem rT (xs:List Af) (sep:Af):(Lib.join xs sep).length≤DS xs+xs.length*sep.length:=by
 cases xs with
 |nil=>simp [Lib.join_nil]
 |cons x xs=>
  rw [Lib.join_cons,As];have: ∀r:List Af,(Lib.joinTail sep r).length=DS r+r.length*sep.length:=by
   intro r
   induction r with
   |nil=>simp [Lib.joinTail,DS]
   |cons y r ih=>
    have e:Lib.joinTail sep (y::r)=sep++y++Lib.joinTail sep r:=by simp [Lib.joinTail]
    rw [e,As,As,ih,DS,Ap,Nat.succ_mul];omega
  rw [this,DS,Ap,Nat.succ_mul];omega
theorem zAa (xs:List Af) (i:Nat):DS (xs.take i)≤DS xs:=by
 induction xs generalizing i with
 |nil=>simp [DS]
 |cons x xs ih=>
  cases i with
  |zero=>simp [DS]
  |succ i=>simp only [List.take_succ_cons,DS];have:=ih i;omega
theorem zv1 {xs:List Af} {i:Nat} (hi:i<xs.length):xs[i].length≤DS xs:=by
 induction xs generalizing i with
 |nil=>simp at hi
 |cons x xs ih=>
  cases i with
  |zero=>simp [DS]
  |succ i=>simp only [List.getElem_cons_succ,DS];have:=ih (i:=i) (by simpa using hi);omega
def Small (xs:List Af):Prop:=xs.length≤2000000∧DS xs≤2000000
theorem zHZ {xs:List Af} {c:UInt8} (h:Small xs):nX xs [c]=some (Lib.join xs [c]):=by
 obtain⟨h1,h2⟩:=h;have hl:=Fw (xs:=List.range xs.length) (body:=fun s:Af × Int=>Q5 xs [c] s.1 s.2) (fun i (o:Af)=>(o,i)) (fun o i=>if i=0 then(xs[i]?).getD []else o++ [c]++(xs[i]?).getD []) (fun o=>some o) (fun i o=>o=Lib.join (xs.take i) [c])
  (fun i hi o hI=>by
   rw [List.length_range]at hi;rw [List.getElem_range];have hI:o=Lib.join (xs.take i) [c]:=hI;have hlen:o.length≤1010000000:=by have e1:=rT (xs.take i) [c];have e2:=zAa xs i;rw [List.length_take,AF,Nat.mul_one]at e1;rw [hI];omega
   have hg:=zv1 hi;have hw:=AX hi (by omega:xs.length≤_);rw [List.getElem?_eq_getElem hi,Option.getD_some];refine⟨?_,by show _=_;rw [zD6 hi,hI]⟩;show Q5 xs [c] o i=_;unfold Q5;rw [if_pos (by simpa using hi),AK hi,Aa,hw];by_cases h0:i=0
   ·subst h0;have ho:o= []:=by rw [hI];rfl
    subst ho;rw [if_neg (by simp),AN (by simp;omega),if_pos rfl];rfl
   ·rw [if_pos (by simp;omega),AN (by rw [AF];omega),AN (by rw [As,AF];omega),if_neg h0])
  (fun o _=>by show Q5 xs [c] o ((List.range xs.length).length:Nat)=_;unfold Q5;rw [if_neg (by simp)]) (s:= []) (by simp [Lib.join_nil])
 generalize (List.range xs.length).foldl (fun o i=>if i=0 then(xs[i]?).getD []else o++ [c]++(xs[i]?).getD []) []=o at hl;obtain⟨h3,h4⟩:=hl;have h4:o=Lib.join (xs.take (List.range xs.length).length) [c]:=h4;rw [List.length_range,List.take_length]at h4;subst h4;exact h3
theorem zHr {xs:List Af} {c:UInt8} (h:Small xs):ZT xs [c]=some (Lib.join xs [c]):=by obtain⟨h1,h2⟩:=h;have:=rT xs [c];rw [AF,Nat.mul_one]at this;exact AN ⟨by omega,by omega⟩
theorem Small.each {xs:List Af} (h:Small xs): ∀x∈xs,x.length≤2000000:=by intro x hx;obtain⟨i,hi,rfl⟩:=List.getElem_of_mem hx;exact Nat.le_trans (zv1 hi) h.2
def Bo (t:Ad) (r:AL):Bool:=((r.ar.length:Int)==t.aq.length)&&r.ar.all field
theorem VS {t:Ad} {r:AL} (h:Small r.ar):Na t r=some (Bo t r):=by
 have h1:=h.1;unfold Na;rw [LM (xs:=r.ar) field false (mD t r) (fun i hi=>by simp only [mM,Int.ofNat_lt,hi,decide_true,if_true,AK hi,Aa,rR (h.each _ (List.getElem_mem hi)),AX hi (by omega:r.ar.length≤_)];cases field r.ar[i]<;>rfl) (by simp [mM])]
 unfold mD Bo;cases r.ar.all field<;>simp
theorem VO {t:Ad} {r:AL} (h:Small r.ar):M5 t r=some (Bo t r):=by have e:Hq r.ar (fun y0_=>Yo y0_)=some (r.ar.any fun s=> !field s):=Ws _ (fun s hs=>by simp [Yo,cG (h.each s hs)]) (by have:=h.1;omega);simp only [M5,e,Aa,Bo,←List.not_all_eq_any_not];cases((r.ar.length:Int)==t.aq.length)<;>simp
def AZ (t:Ad) (r:AL):Ab:=⟨t.ab++ [47]++(r.ar.head?).getD [],Lib.join r.ar.tail [44],false⟩
theorem kS {α:Type} (xs:List α):By xs 1 (xs.length:Int)=xs.tail:=by simp [By]
theorem Small.tail {xs:List Af} (h:Small xs):Small xs.tail:=by
 cases xs with
 |nil=>exact h
 |cons x xs=>exact⟨by have:=h.1;simp at this ⊢;omega,by have:=h.2;simp only [DS,List.tail_cons]at this ⊢;omega⟩
theorem Pt {t:Ad} {r:AL} (ht:t.ab.length≤2000000) (h:Small r.ar) (hn:r.ar≠ []):Kw t r=some (AZ t r):=by obtain⟨x,xs,hx⟩:=List.exists_cons_of_ne_nil hn;have Ll:x.length≤2000000:=h.each x (by simp [hx]);unfold Kw AZ;rw [AN (by rw [AF];omega),kS,zHZ h.tail,hx];rw [show Am (x::xs) 0=some x from rfl,Aa,AN (by rw [As,AF];omega),AN (by simp only [Ap];omega),Aa];rfl
theorem Py {t:Ad} {r:AL} (ht:t.ab.length≤2000000) (h:Small r.ar) (hn:r.ar≠ []):MY t r=some (AZ t r):=by obtain⟨x,xs,hx⟩:=List.exists_cons_of_ne_nil hn;have Ll:x.length≤2000000:=h.each x (by simp [hx]);unfold MY AZ;rw [AN (by rw [AF];omega),kS,zHr h.tail,hx];rw [show Am (x::xs) 0=some x from rfl,Aa,AN (by rw [As,AF];omega),AN (by simp only [Ap];omega),Aa];rfl
theorem zrp (c:UInt8) (s:Af):DS (B1 c s)≤s.length:=by
 induction s with
 |nil=>simp [B1,DS]
 |cons b s ih=>
  simp only [B1];split
  ·simp only [DS,List.length_nil,Ap];omega
  ·cases hs:B1 c s with
   |nil=>exact absurd hs (qK c s)
   |cons x xs=>rw [hs]at ih;simp only [DS,Ap]at ih ⊢;omega
theorem zz1 {c:UInt8} {s:Af} (h:s.length≤1000000):Small (B1 c s):=by have h1:=aY c s;have h2:s.count c≤s.length:=List.count_le_length;have h3:=zrp c s;exact⟨by omega,by omega⟩
theorem zL {s p:Af} (hs:s.length≤2000000):UX s p=some (if p.isPrefixOf s=true then(s.drop p.length,true)else(s,false)):=by
 have e:X4 s p=some (p.isPrefixOf s):=by
  unfold X4;by_cases hl:p.length≤s.length
  ·rw [if_pos (by simpa using hl),AN (by omega),ON];congr 1;rw [Bool.eq_iff_iff,beq_iff_eq,List.isPrefixOf_iff_prefix,List.prefix_iff_eq_take];exact eq_comm
  ·rw [if_neg (by simpa using hl)];congr 1;symm;rw [←Bool.not_eq_true,List.isPrefixOf_iff_prefix];intro h;exact hl h.length_le
 unfold UX kY;rw [e,Aa];cases hp:p.isPrefixOf s with
 |false=>simp
 |true=>have hl:=(List.isPrefixOf_iff_prefix.1 hp).length_le;simp only [Bool.not_true,AM,if_false,if_true];rw [AN (by omega),OQ,List.take_length];rfl
def Kd (a b:Ab):Bool:=a.af==b.af&&(a.ay==b.ay&&(a.bf==b.bf))
theorem zBH (a b:Ab):Kd a b=Kd b a:=by unfold Kd;rw [show(a.af==b.af)=(b.af==a.af)from BEq.comm,show(a.ay==b.ay)=(b.ay==a.ay)from BEq.comm,show(a.bf==b.bf)=(b.bf==a.bf)from BEq.comm]
theorem zEb {a b:Ab} (h:Kd a b=true):a.af=b.af:=by unfold Kd at h;simp only [Ae,beq_iff_eq]at h;exact h.1
def B9 (w:Ab):AL:=⟨w.af.drop 2::B1 44 w.ay⟩
def Cy (t:Ad) (w:Ab):Bool:=Bo t (B9 w)&&Kd (AZ t (B9 w)) w
def GY (w:Ab):Prop:=w.af.length≤1000∧w.ay.length≤1000
theorem o5 {w:Ab} (h:GY w):Small (B9 w).ar:=by
 have h1:=aY 44 w.ay;have h2:w.ay.count 44≤w.ay.length:=List.count_le_length;have h3:=zrp 44 w.ay;obtain⟨k,v⟩:=h;refine⟨?_, ?_⟩
 ·show(w.af.drop 2::B1 44 w.ay).length≤_;rw [Ap];omega
 ·show DS (w.af.drop 2::B1 44 w.ay)≤_;rw [DS,List.length_drop];omega
theorem zCV {t:Ad} {w:Ab} (h:Bo t (B9 w)=true):3≤w.af.length:=by unfold Bo B9 at h;simp only [Ae,List.all_cons,field,CN,List.length_drop]at h;omega
theorem zIj {t:Ad} {w:Ab} (ht:t.ab.length≤2000000) (h:GY w): ∃r,Zm t w=some (r,Cy t w)∧(Cy t w=true→r=B9 w):=by
 have hs:=o5 h;have Le:=aY 44 w.ay;have NX:w.ay.count 44≤w.ay.length:=List.count_le_length;obtain⟨hk,hv⟩:=h;unfold Zm;by_cases h3:w.af.length<3
 ·rw [if_pos (by simp;omega)];have:Cy t w=false:=by
   unfold Cy;cases hg:Bo t (B9 w)with
   |false=>rfl
   |true=>have:=zCV hg;omega
  exact⟨_,by rw [this],by rw [this];intro h;cases h⟩
 ·have hw:By w.af 2 (w.af.length:Int)=w.af.drop 2:=by
   have:=OQ w.af 2 w.af.length;rw [List.take_length]at this;exact this
  have Hj:O9 w.ay 44=some (B1 44 w.ay):=wA (c:=44) (by omega);have hr:(([w.af.drop 2]:List Af).length+(B1 44 w.ay).length:Int)*16≤140737488355328∧(([w.af.drop 2]:List Af).length:Int)+(B1 44 w.ay).length≤140737488355328:=by rw [AF];omega
  rw [if_neg (by simp;omega),AN (by omega),Hj,Aa,hw,AN hr];rw [show(⟨[w.af.drop 2]++B1 44 w.ay⟩:AL)=B9 w from rfl,VS hs,Aa];unfold Cy;cases hg:Bo t (B9 w)with
  |false=>exact⟨_,by rw [if_neg (by simp)];rfl,by simp⟩
  |true=>rw [if_pos rfl,Pt ht hs (by simp [B9]),Aa];exact⟨B9 w,by rw [Bool.true_and];rfl,fun _=>rfl⟩
theorem zIG {t:Ad} {w:Ab} (ht:t.ab.length=1) (h:GY w): ∃r,Yr t w=some (r,Cy t w)∧(Cy t w=true→r=B9 w):=by
 have hs:=o5 h;have Le:=aY 44 w.ay;have NX:w.ay.count 44≤w.ay.length:=List.count_le_length;obtain⟨hk,hv⟩:=h;unfold Yr;have Hj:Vj w.ay [44]=some (B1 44 w.ay):=zFj (by omega);rw [AN (by rw [AF];omega),zL (by omega),Aa,Hj,Aa];have hr: ∀x:Af,(([x]:List Af).length+(B1 44 w.ay).length:Int)*16≤140737488355328∧(([x]:List Af).length:Int)+(B1 44 w.ay).length≤140737488355328:=by intro x;rw [AF];omega
 rw [AN (hr _)];cases hp:(t.ab++ [47]).isPrefixOf w.af with
 |false=>
  have Dk:Cy t w=false:=by
   unfold Cy;cases hw:Kd (AZ t (B9 w)) w with
   |false=>simp
   |true=>have fU:=zEb hw;rw [←Bool.not_eq_true,List.isPrefixOf_iff_prefix]at hp;exact absurd ⟨_,fU⟩ hp
  rw [Dk];exact⟨_,by rw [if_neg (by simp)],by simp⟩
 |true=>
  have hl:(t.ab++ [47]).length=2:=by rw [As,ht];rfl
  simp only [if_true,hl];rw [show(⟨[w.af.drop 2]++B1 44 w.ay⟩:AL)=B9 w from rfl,VO hs,Aa];unfold Cy;cases hg:Bo t (B9 w)with
  |false=>exact⟨_,by rw [if_neg (by simp)];rfl,by simp⟩
  |true=>
   rw [if_pos rfl,Py (by omega) hs (by simp [B9]),Aa];rw [show(w.af==(AZ t (B9 w)).af&&(w.ay==(AZ t (B9 w)).ay&&w.bf==(AZ t (B9 w)).bf))=Kd w (AZ t (B9 w))from rfl,zBH];cases Kd (AZ t (B9 w)) w with
   |false=>exact⟨_,by rw [if_pos (by simp)];rfl,by simp⟩
   |true=>exact⟨_,by rw [if_neg (by simp)];rfl,fun _=>rfl⟩
theorem RZ {α β:Type} (p:α→Bool) (f:α→β) (l:List α) (o:List β):l.foldl (fun o x=>if p x=true then o++ [f x]else o) o=o++(l.filter p).map f:=by
 induction l generalizing o with
 |nil=>simp
 |cons x l ih=>rw [List.foldl_cons,ih,List.filter_cons];cases p x<;>simp
def rows (t:Ad) (l:List Ab):List AL:=(l.filter (Cy t)).map B9
theorem sK {t:Ad} {l:List Ab} (ht:t.ab.length≤2000000) (hl:l.length≤2000000) (h: ∀w∈l,GY w):RG t l=some (rows t l):=by
 have h1:=Fw (xs:=l) (body:=fun s:List AL × Int=>Re t l s.1 s.2) (fun i (o:List AL)=>(o,i)) (fun o w=>if Cy t w=true then o++ [B9 w]else o) (fun o=>some o) (fun i o=>o.length≤i)
  (fun i hi o hI=>by
   have hI:o.length≤i:=hI;obtain⟨r,e,hr⟩:=zIj ht (h _ (List.getElem_mem hi));have hw:=AX hi (by omega:l.length≤_);refine⟨?_,by
    show List.length (if Cy t l[i]=true then o++ [B9 l[i]]else o)≤i+1;split
    ·rw [As,AF];omega
    ·omega⟩
   show Re t l o i=_;unfold Re;rw [if_pos (by simpa using hi),AK hi,Aa,e,Aa,hw];cases hb:Cy t l[i]with
   |false=>rfl
   |true=>
    have hq:((o.length:Int)+(([r]:List AL).length:Int))*24≤140737488355328∧(o.length:Int)+(([r]:List AL).length:Int)≤140737488355328:=by rw [AF];omega
    rw [if_pos rfl,AN hq,if_pos rfl,hr hb])
  (fun o _=>by show Re t l o l.length=_;unfold Re;rw [if_neg (by simp)]) (s:= []) (by simp)
 rw [RZ]at h1;exact h1.1
theorem vZ {t:Ad} {l:List Ab} (ht:t.ab.length=1) (hl:l.length≤2000000) (h: ∀w∈l,GY w):Uz t l=some (rows t l):=by
 have h1:=Fw (xs:=l) (body:=fun s:Int × List AL=>QA t l s.1 s.2) (fun i (o:List AL)=>(i,o)) (fun o w=>if Cy t w=true then o++ [B9 w]else o) (fun o=>some o) (fun i o=>o.length≤i)
  (fun i hi o hI=>by
   have hI:o.length≤i:=hI;obtain⟨r,e,hr⟩:=zIG ht (h _ (List.getElem_mem hi));have hw:=AX hi (by omega:l.length≤_);refine⟨?_,by
    show List.length (if Cy t l[i]=true then o++ [B9 l[i]]else o)≤i+1;split
    ·rw [As,AF];omega
    ·omega⟩
   show QA t l i o=_;unfold QA;rw [if_pos (by simpa using hi),AK hi,Aa,e,Aa,hw];cases hb:Cy t l[i]with
   |false=>rfl
   |true=>
    have hq:((o.length:Int)+(([r]:List AL).length:Int))*24≤140737488355328∧(o.length:Int)+(([r]:List AL).length:Int)≤140737488355328:=by rw [AF];omega
    rw [if_pos rfl,AN hq,if_pos rfl,hr hb])
  (fun o _=>by show QA t l l.length o=_;unfold QA;rw [if_neg (by simp)]) (s:= []) (by simp)
 rw [RZ]at h1;exact h1.1
def head (t:Ad) (n:Af):Af:=t.ab++ [46]++n
def CY (t:Ad) (n k:Af):Bool:=match B1 47 k with
 | [x,y,z]=>x==head t n&&field y&&field z
 |_=>false
theorem zFp {t:Ad} {n k:Af} (ht:t.ab.length≤2000000) (hn:n.length≤2000000) (hk:k.length≤1000000): ∃a b,YD t n k=some (a,b,CY t n k):=by
 have Ox:=zz1 (c:=47) hk;have he:O9 k 47=some (B1 47 k):=wA (c:=47) (by omega);unfold YD CY;rw [he,Aa];generalize B1 47 k=ps at Ox
 match ps,Ox with
 | [],_=>exact⟨_,_,by rw [if_pos (by simp)]⟩
 | [_],_=>exact⟨_,_,by rw [if_pos (by simp)]⟩
 | [_,_],_=>exact⟨_,_,by rw [if_pos (by simp)]⟩
 |_::_::_::_::l,_=>exact⟨_,_,by rw [if_pos (by simp;omega)]⟩
 | [x,y,z],Ox=>
  have hy:=Ox.each y (by simp);have hz:=Ox.each z (by simp);dsimp only;rw [if_neg (by simp),show Am [x,y,z] 0=some x from rfl,Aa,AN (by rw [AF];omega),AN (by rw [As,AF];omega)];rw [show(t.ab++ [46]++n)=head t n from rfl];by_cases hx:x=head t n
  ·rw [if_neg (by simp [hx]),show Am [x,y,z] 1=some y from rfl,Aa,rR hy,Aa];have P9:(x==head t n)=true:=by simpa using hx
   rw [P9];cases field y with
   |false=>exact⟨_,_,by rw [if_neg (by simp)];rfl⟩
   |true=>
    rw [if_pos rfl,show Am [x,y,z] 2=some z from rfl,Aa,rR hz,Aa];cases field z with
    |false=>exact⟨_,_,by rw [if_pos (by simp)];rfl⟩
    |true=>exact⟨_,_,by rw [if_neg (by simp)];rfl⟩
  ·have P9:(x==head t n)=false:=by simpa using hx
   rw [P9];exact⟨_,_,by rw [if_pos (by simpa [bne]using P9)];rfl⟩
theorem zCa {c:UInt8} {s x y:Af} {r:List Af} (h:B1 c s=x::y::r): ∃q,s=x++c::q:=by
 rcases Zd s c with⟨_,h0⟩|⟨p,q,rfl,hp,_⟩
 ·rw [LB h0]at h;simp at h
 ·rw [Nj hp]at h;obtain⟨rfl,_⟩:=List.cons.inj h;exact⟨q,rfl⟩
theorem yY {x:Af} {c:UInt8} (hx:x.length≤2000000):(RN x [c]=some (x, [],false)∧ ∀b∈x,b≠c)∨ ∃p q,x=p++c::q∧(∀b∈p,b≠c)∧RN x [c]=some (p,q,true):=by
 have hi:QE x [c]=some (Lib.indexByte x c):=rfl;rcases Zd x c with⟨e,h0⟩|⟨p,q,rfl,hp,e⟩
 ·refine .inl ⟨?_,h0⟩;unfold RN Ya;rw [hi,Aa,e,if_neg (by simp)];rfl
 ·refine .inr ⟨p,q,rfl,hp, ?_⟩;rw [As,Ap]at hx;have hw:IntKind.i64.wrap ((p.length:Int)+(([c]:Af).length:Int))=((p.length+1:Nat):Int):=by rw [AF,A9 (by omega) (by omega)];omega
  unfold RN Ya;rw [hi,Aa,e,if_pos (by simp),AN (by rw [As,Ap];omega),hw,AN (by rw [As,Ap];omega),ON,OQ,List.take_length];have e1:(p++c::q).drop (p.length+1)=q:=by simp
  have e2:(p++c::q).take p.length=p:=by simp
  rw [e1,e2];rfl
theorem zFY {s:Af} (h:(47:UInt8)∈s):field s=false:=by
 unfold field J9;have:(s.all fun b=>E2 b||([]:Af).contains b)=false:=by rw [List.all_eq_false];exact⟨47,h,by decide⟩
 rw [this,Bool.and_false]
theorem xW {t:Ad} {n:Af} (ht:t.ab.length≤2000000) (hn:n.length≤2000000):UA t n=some (head t n++ [47]):=by unfold UA head;rw [AN (by rw [AF];omega),AN (by rw [As,AF];omega),AN (by rw [As,As,AF,AF];omega)]
theorem zGr {t:Ad} {n k:Af} (ht:t.ab.length≤2000000) (hn:n.length≤2000000) (hk:k.length≤1000000) (hh: ∀b∈head t n,b≠47): ∃a b,X8 t n k=some (a,b,CY t n k):=by
 unfold X8;rw [xW ht hn,Aa,zL (by omega),Aa];cases hp:(head t n++ [47]).isPrefixOf k with
 |false=>
  have Dk:CY t n k=false:=by
   unfold CY;split
   ·rename_i x y z hs;cases hx:x==head t n with
    |false=>simp
    |true=>obtain⟨q,hq⟩:=zCa hs;rw [←Bool.not_eq_true,List.isPrefixOf_iff_prefix]at hp;refine absurd ⟨q, ?_⟩ hp;rw [hq,(by simpa using hx:x=head t n)];simp
   ·rfl
  rw [Dk];simp only [AM,if_false];rcases yY (x:=k) (c:=47) (by omega)with⟨e,_⟩|⟨p,q,_,_,e⟩
  ·rw [e];exact⟨_,_,rfl⟩
  ·rw [e];exact⟨_,_,rfl⟩
 |true=>
  obtain⟨rest,Dm⟩:=List.isPrefixOf_iff_prefix.1 hp;have K9:k=head t n++47::rest:=by rw [←Dm];simp
  have hd:k.drop (head t n++ [47]).length=rest:=by rw [←Dm,List.drop_left]
  have Le:B1 47 k=head t n::B1 47 rest:=by rw [K9,Nj hh]
  have hlen:rest.length≤1000000:=by
   have:k.length=(head t n).length+(rest.length+1):=by rw [K9,As,Ap]
   omega
  simp only [if_true,hd];unfold CY;rw [Le];rcases yY (x:=rest) (c:=47) (by omega)with⟨e,h0⟩|⟨p,q,rfl,Xf,e⟩
  ·rw [e,LB h0];exact⟨_,_,rfl⟩
  ·rw [e,Nj Xf,Aa];rw [As,Ap]at hlen;simp only [if_true];rw [cG (s:=p) (by omega),Aa];rcases Zd q 47 with⟨_,h0⟩|⟨p3,q3,rfl,hp3,_⟩
   ·rw [LB h0];dsimp only;rw [beq_self_eq_true,Bool.true_and];cases field p with
    |false=>exact⟨_,_,rfl⟩
    |true=>
     rw [if_pos rfl,cG (s:=q) (by omega),Aa];cases field q with
     |false=>exact⟨_,_,rfl⟩
     |true=>exact⟨_,_,rfl⟩
   ·have hf:field (p3++47::q3)=false:=zFY (by simp);rw [Nj hp3];cases hq:B1 47 q3 with
    |nil=>exact absurd hq (qK _ _)
    |cons x xs=>
     dsimp only;cases field p with
     |false=>exact⟨_,_,rfl⟩
     |true=>rw [if_pos rfl,cG (by rw [As,Ap]at hlen ⊢;omega),Aa,hf];exact⟨_,_,rfl⟩
def Bw (t:Ad) (n:Af) (l:List Ab):List Af:=(l.filter fun w=>CY t n w.af).map (·.af)
theorem pZ {t:Ad} {n:Af} {l:List Ab} (ht:t.ab.length≤2000000) (hn:n.length≤2000000) (hl:l.length≤2000000) (h: ∀w∈l,GY w):OX t n l=some (Bw t n l):=by
 have h1:=Fw (xs:=l) (body:=fun s:List Af × Int=>QR t n l s.1 s.2) (fun i (o:List Af)=>(o,i)) (fun o w=>if CY t n w.af=true then o++ [w.af]else o) (fun o=>some o) (fun i o=>o.length≤i)
  (fun i hi o hI=>by
   have hI:o.length≤i:=hI;have iE:=h _ (List.getElem_mem hi);obtain⟨a,b,e⟩:=zFp (t:=t) (n:=n) (k:=l[i].af) ht hn (by have:=iE.1;omega);have hw:=AX hi (by omega:l.length≤_);refine⟨?_,by
    show List.length (if CY t n l[i].af=true then o++ [l[i].af]else o)≤i+1;split
    ·rw [As,AF];omega
    ·omega⟩
   show QR t n l o i=_;unfold QR;rw [if_pos (by simpa using hi),AK hi,Aa,e,Aa,hw];cases hb:CY t n l[i].af with
   |false=>rfl
   |true=>
    have hq:((o.length:Int)+(([l[i].af]:List Af).length:Int))*16≤140737488355328∧(o.length:Int)+(([l[i].af]:List Af).length:Int)≤140737488355328:=by rw [AF];omega
    rw [if_pos rfl,AN hq,if_pos rfl])
  (fun o _=>by show QR t n l o l.length=_;unfold QR;rw [if_neg (by simp)]) (s:= []) (by simp)
 rw [RZ (fun w:Ab=>CY t n w.af) (fun w=>w.af)]at h1;exact h1.1
theorem zv0 {t:Ad} {n:Af} {l:List Ab} (ht:t.ab.length≤2000000) (hn:n.length≤2000000) (hh: ∀b∈head t n,b≠47) (hl:l.length≤2000000) (h: ∀w∈l,GY w):OU t n l=some (Bw t n l):=by
 have h1:=Fw (xs:=l) (body:=fun s:Int × List Af=>QG t n l s.1 s.2) (fun i (o:List Af)=>(i,o)) (fun o w=>if CY t n w.af=true then o++ [w.af]else o) (fun o=>some o) (fun i o=>o.length≤i)
  (fun i hi o hI=>by
   have hI:o.length≤i:=hI;have iE:=h _ (List.getElem_mem hi);obtain⟨a,b,e⟩:=zGr (t:=t) (n:=n) (k:=l[i].af) ht hn (by have:=iE.1;omega) hh;have hw:=AX hi (by omega:l.length≤_);refine⟨?_,by
    show List.length (if CY t n l[i].af=true then o++ [l[i].af]else o)≤i+1;split
    ·rw [As,AF];omega
    ·omega⟩
   show QG t n l i o=_;unfold QG;rw [if_pos (by simpa using hi),AK hi,Aa,e,Aa,hw];cases hb:CY t n l[i].af with
   |false=>rfl
   |true=>
    have hq:((o.length:Int)+(([l[i].af]:List Af).length:Int))*16≤140737488355328∧(o.length:Int)+(([l[i].af]:List Af).length:Int)≤140737488355328:=by rw [AF];omega
    rw [if_pos rfl,AN hq,if_pos rfl])
  (fun o _=>by show QG t n l l.length o=_;unfold QG;rw [if_neg (by simp)]) (s:= []) (by simp)
 rw [RZ (fun w:Ab=>CY t n w.af) (fun w=>w.af)]at h1;exact h1.1
def less (a b:List Af):List Af:=a.filter fun k=> !b.contains k
theorem xA {a b:List Af} (ha:a.length≤2000000) (hb:b.length≤2000000):ZN a b=some (less a b):=by
 have h1:=Fw (xs:=a) (body:=fun s:List Af × Int=>Q9 a b s.1 s.2) (fun i (o:List Af)=>(o,i)) (fun o k=>if(!b.contains k)=true then o++ [k]else o) (fun o=>some o) (fun i o=>o.length≤i)
  (fun i hi o hI=>by
   have hI:o.length≤i:=hI;have hw:=AX hi (by omega:a.length≤_);have hx:decide (BS (fun x=>x==a[i]) b<0)= !b.contains a[i]:=by rw [←jP,←Sg,←decide_not];rw [decide_eq_decide];omega
   refine⟨?_,by
    show List.length (if(!b.contains a[i])=true then o++ [a[i]]else o)≤i+1;split
    ·rw [As,AF];omega
    ·omega⟩
   show Q9 a b o i=_;unfold Q9;rw [if_pos (by simpa using hi),AK hi,Aa,zS hb,Aa,hw,hx];cases hc:b.contains a[i]with
   |true=>rfl
   |false=>
    have hq:((o.length:Int)+(([a[i]]:List Af).length:Int))*16≤140737488355328∧(o.length:Int)+(([a[i]]:List Af).length:Int)≤140737488355328:=by rw [AF];omega
    rw [if_pos (by rfl),AN hq,if_pos (by rfl)])
  (fun o _=>by show Q9 a b o a.length=_;unfold Q9;rw [if_neg (by simp)]) (s:= []) (by simp)
 rw [RZ (fun k:Af=> !b.contains k) (fun k=>k)]at h1;have h2:=h1.1;rw [List.nil_append,List.map_id']at h2;exact h2
theorem wU {a b:List Af} (ha:a.length≤2000000) (hb:b.length≤2000000):Vd a b=some (less a b):=by unfold Vd Uy IW;rw [Np (by omega) (by omega),Aa,AN (by omega),bF (fun k=>b.contains k) (fun k _=>by simp only [mR,yB hb,Aa])];rfl
structure EO (t:Ad) (n:Af) (x:Au):Prop where
 at_:Am t.ah (BS (fun y:Au=>y.ab==n) t.ah)=some x
 name:x.ab=n
 c0:1≤x.bh
 c1:x.bh≤(t.aq.length:Int)-1
def C3 (r:AL) (c:Int):Af:=(r.ar[c.toNat]?).getD []
def BJ (t:Ad) (n:Af) (c:Int) (r:AL):Af:=head t n++ [47]++C3 r c++ [47]++C3 r 0
structure KS (t:Ad) (r:AL):Prop where
 len:r.ar.length=t.aq.length
 small:Small r.ar
theorem x5 {t:Ad} {l:List Ab} (h: ∀w∈l,GY w): ∀r∈rows t l,KS t r:=by intro r hr;obtain⟨w,hw,rfl⟩:=List.mem_map.1 hr;obtain⟨h1,h2⟩:=List.mem_filter.1 hw;have h3:Cy t w=true:=h2;unfold Cy Bo at h3;simp only [Ae,beq_iff_eq]at h3;exact⟨by have:=h3.1.1;omega,o5 (h w h1)⟩
theorem Wt {t:Ad} {r:AL} (hr:KS t r) {c:Int} (h0:0≤c) (h1:c≤(t.aq.length:Int)-1):Am r.ar c=some (C3 r c)∧(C3 r c).length≤2000000:=by
 obtain⟨y,e,hm,e2⟩:=LV (xs:=r.ar) h0 (by have:=hr.len;omega);have hv:C3 r c=y:=by simp [C3,e2]
 rw [hv];exact⟨e,hr.small.each y hm⟩
theorem cP {t:Ad} {n:Af} {x:Au} {r:AL} (ht:t.ab.length≤2000000) (hn:n.length≤2000000) (hx:EO t n x) (hr:KS t r):Nc t x r=some (BJ t n x.bh r):=by
 obtain⟨g1,l1⟩:=Wt hr (c:=x.bh) (by have:=hx.c0;omega) hx.c1;obtain⟨g2,l2⟩:=Wt hr (c:=0) (by omega) (by have:=hx.c0;have:=hx.c1;omega);have e:=hx.name;subst e;unfold Nc BJ;rw [AN (by simp only [head,As,Ap,List.length_nil];omega),AN (by simp only [head,As,Ap,List.length_nil];omega),AN (by simp only [head,As,Ap,List.length_nil];omega),g1,Aa,
  AN (by simp only [head,As,Ap,List.length_nil];omega),AN (by simp only [head,As,Ap,List.length_nil];omega),g2,Aa,
  AN (by simp only [head,As,Ap,List.length_nil];omega)]
 rfl
theorem cK {t:Ad} {n:Af} {x:Au} {r:AL} (hS:Du t) (hn:n.length≤2000000) (hx:EO t n x) (hr:KS t r):Lu t n r=some (BJ t n x.bh r):=by
 obtain⟨g1,l1⟩:=Wt hr (c:=x.bh) (by have:=hx.c0;omega) hx.c1;obtain⟨g2,l2⟩:=Wt hr (c:=0) (by omega) (by have:=hx.c0;have:=hx.c1;omega);have ht:=hS.name;have hi:M3 t n=some x:=by unfold M3;rw [WG hS,Aa,hx.at_];rfl
 unfold Lu BJ;rw [xW ht hn,Aa,hi,Aa,g1,Aa,AN (by simp only [head,As,Ap,List.length_nil];omega),AN (by simp only [head,As,Ap,List.length_nil];omega),g2,Aa,AN (by simp only [head,As,Ap,List.length_nil];omega)]
def wanted (t:Ad) (n:Af) (x:Au) (l:List Ab):List Af:=(rows t l).map (BJ t n x.bh)
theorem So (t:Ad) (l:List Ab):(rows t l).length≤l.length:=by unfold rows;rw [List.length_map];exact List.length_filter_le _ _
theorem zCR {t:Ad} {n:Af} {x:Au} {l:List Ab} (hS:Du t) (hn:n.length≤2000000) (hx:EO t n x) (hl:l.length≤2000000) (h: ∀w∈l,GY w):Vb t n l=some (wanted t n x l):=by
 have Cb:=x5 (t:=t) h;have JJ:=So t l;unfold Vb;rw [sK hS.name hl h,Aa];have h1:=Fw (xs:=rows t l) (body:=fun s:List Af × Int=>QV t n (rows t l) s.1 s.2) (fun i (o:List Af)=>(o,i)) (fun o r=>o++ [BJ t n x.bh r]) (fun o=>some o) (fun i o=>o.length=i)
  (fun i hi o hI=>by
   have hI:o.length=i:=hI;have hw:=AX hi (by omega);refine⟨?_,by show List.length _=_;rw [As,AF];omega⟩;show QV t n (rows t l) o i=_;unfold QV;have hq:((o.length:Int)+(([BJ t n x.bh (rows t l)[i]]:List Af).length:Int))*16≤140737488355328∧(o.length:Int)+(([BJ t n x.bh (rows t l)[i]]:List Af).length:Int)≤140737488355328:=by rw [AF];omega
   rw [if_pos (by simpa using hi),AK hi,Aa,L6 hS,Aa,hx.at_,Aa,cP hS.name hn hx (Cb _ (List.getElem_mem hi)),Aa,AN hq,hw])
  (fun o _=>by show QV t n (rows t l) o (rows t l).length=_;unfold QV;rw [if_neg (by simp)]) (s:= []) rfl
 rw [cF]at h1;exact h1.1
theorem zEf {t:Ad} {n:Af} {x:Au} {l:List Ab} (hS:Du t) (ht:t.ab.length=1) (hn:n.length≤2000000) (hx:EO t n x) (hl:l.length≤2000000) (h: ∀w∈l,GY w):UL t n l=some (wanted t n x l):=by
 have Cb:=x5 (t:=t) h;have JJ:=So t l;unfold UL;rw [vZ ht hl h,Aa];have h1:=Fw (xs:=rows t l) (body:=fun s:Int × List Af=>QH t n (rows t l) s.1 s.2) (fun i (o:List Af)=>(i,o)) (fun o r=>o++ [BJ t n x.bh r]) (fun o=>some o) (fun i o=>o.length=i)
  (fun i hi o hI=>by
   have hI:o.length=i:=hI;have hw:=AX hi (by omega);refine⟨?_,by show List.length _=_;rw [As,AF];omega⟩;show QH t n (rows t l) i o=_;unfold QH;have hq:((o.length:Int)+(([BJ t n x.bh (rows t l)[i]]:List Af).length:Int))*16≤140737488355328∧(o.length:Int)+(([BJ t n x.bh (rows t l)[i]]:List Af).length:Int)≤140737488355328:=by rw [AF];omega
   rw [if_pos (by simpa using hi),AK hi,Aa,cK hS hn hx (Cb _ (List.getElem_mem hi)),Aa,AN hq,hw])
  (fun o _=>by show QH t n (rows t l) (rows t l).length o=_;unfold QH;rw [if_neg (by simp)]) (s:= []) rfl
 rw [cF]at h1;exact h1.1
end Go.Proofs.YtfdfahjmonlbiaaGreatDoor
end

/- Parts of a proof, joined: QF3, QF4, QF5, QF6, QR, OZ, NA, ND, NE, N5, NLA, NLB, NLC, N6, N7, N8, N9, N10, N11, N12, N13, N14, N15, N16, PK, NK, NP, NQ, NX. -/
import Derived.Test.YtbmbkgalkfmjdaaGreatDoorK8
set_option linter.unusedVariables false
set_option linter.unusedSimpArgs false
section
namespace Go.Proofs.YtbmbkgalkfmjdaaGreatDoor
open Go.RowKit
set_option maxRecDepth 100000
set_option maxHeartbeats 4000000
noncomputable def zkh:FS:=mkF 104 [.v (.st 3), .v (.l (.st 0))] (.v (.l (.st 4))) (fun x=>zdb x.1 x.2.1) [zj1] [.sp [.i .i64, .l (.st 4)], .inl] (fun _ _=>by kernel_rfl) (fun _ _=>by kernel_rfl)
noncomputable def zg6:FS:=mkF 108 [.v (.st 3), .v .s, .v (.st 4)] (.v .s) (fun x=>zaQ x.1 x.2.1 x.2.2.1) [zgr,zin] [] (fun _ _=>by kernel_rfl) (fun _ _=>by kernel_rfl)
noncomputable def zhg:FS:=mkF 176 [.v (.st 3), .v .s, .v (.l (.st 0))] (.v (.l .s)) (fun x=>zcl x.1 x.2.1 x.2.2.1) [zkh,zg6] [.sp [.i .i64, .l .s]] (fun _ _=>by kernel_rfl) (fun _ _=>by kernel_rfl)
noncomputable def zfg:FS:=mkH 246 [.v (.l .s), .fn [.s] .b] (.v (.l .s)) (fun x=>zdM x.1 (fun y=>x.2.1.φ (y,()))) fun x r hp h=>zg5 (f:=246) (t:=zAT 202 1 false (.fld (.idx (.var 5) (.var 4)) 0 1 false) [] (.str (ByteArray.mk #[]))) (by kernel_rfl) (by kernel_rfl) (zx6 (av:=(zgb tab.av .s)) (fun x=>⟨zjM _ x,zeS (by kernel_rfl) x,(fun e=>nomatch e),fun _=>rfl⟩) (by decide) (fun a b c d j ys x tl hj=>by simp [AV.nth,hj,zgb,tAv]) (fun a b c d j ys x hj=>by simp [AV.nth,hj,zgb,tAv]) h (fun i hi=>zcU.ok x i hp hi) (fun y b hb=>hp.2.1 (y,()) b hb))
noncomputable def zoX:FS:=mkF 247 [.v .s, .rf (.l .s)] (.v .b) (fun x=>zhq x.1 x.2.1) [zc6] [] (fun _ _=>by kernel_rfl) (fun _ _=>by kernel_rfl)
noncomputable def znR:FS:=mkP zoX fun _=>by kernel_rfl
noncomputable def zlM:FS:=mkF 175 [.v (.l .s), .v (.l .s)] (.v (.l .s)) (fun x=>zfe x.1 x.2.1) [zdw,zfg,znR] [] (fun _ _=>by kernel_rfl) (fun _ _=>by kernel_rfl)
noncomputable def ziQ:FS:=mkF 156 [.v (.st 3), .v .s, .v (.l (.st 0))] (.v (.l .s)) (fun x=>zct x.1 x.2.1 x.2.2.1) [zdv,zhg,zlM] [] (fun _ _=>by kernel_rfl) (fun _ _=>by kernel_rfl)
noncomputable def zj8:FS:=mkF 90 [.v (.st 3), .v .s, .v (.l (.st 0))] (.v (.l .s)) (fun x=>zen x.1 x.2.1 x.2.2.1) [zhg,zdv,zlM] [] (fun _ _=>by kernel_rfl) (fun _ _=>by kernel_rfl)
noncomputable def zj3:FS:=mkF 72 [.v (.st 3), .v .s, .v (.i .i64), .v (.l (.st 0))] (.v .b) (fun x=>zb7 x.1 x.2.1 x.2.2.1 x.2.2.2.1) [zdv,ziQ,zj8] [] (fun _ _=>by kernel_rfl) (fun _ _=>by kernel_rfl)
noncomputable def zjJ:FS:=mkF 147 [.v (.st 3), .v (.st 8)] (.v .b) (fun x=>zbS x.1 x.2.1) [zhr] [] (fun _ _=>by kernel_rfl) (fun _ _=>by kernel_rfl)
noncomputable def zjE:FS:=mkF 153 [.v (.i .i64), .v (.st 0), .rf (.l (.st 11))] (.tu (.cons (.tu .nil) (.cons (.bo (.l (.st 11))) .nil))) (fun x=>zaD x.1 x.2.1 x.2.2.1) [] [] (fun _ _=>by kernel_rfl) (fun _ _=>by kernel_rfl)
noncomputable def zre:FS:=mkF 154 [.v (.i .i64)] (.v .b) (fun x=>ziB x.1) [] [] (fun _ _=>by kernel_rfl) (fun _ _=>by kernel_rfl)
noncomputable def zrh:FS:=mkF 155 [.v (.i .i64)] (.v .b) (fun x=>zeh x.1) [] [] (fun _ _=>by kernel_rfl) (fun _ _=>by kernel_rfl)
noncomputable def zks:FS:=mkF 70 [.v (.st 3), .v (.st 8)] (.v (.l (.st 11))) (fun x=>zco x.1 x.2.1) [zrh,zjE,zre,zg6,zf3] [.sp [.s, .s, .b, .l (.st 11)], .pt, .pt, .sp [.i .i64, .l (.st 11)], .inl, .sp [.s], .pt, .pt] (fun _ _=>by kernel_rfl) (fun _ _=>by kernel_rfl)
noncomputable def zcj:FS:=mkF 303 [.v (.l (.st 0)), .v .s, .fn [.st 0, .s] (.i .i64)] (.tu (.cons (.v (.i .i64)) (.cons (.v .b) .nil))) (fun x=>zaE x.1 x.2.1 (fun y0 y1=>x.2.2.1.φ (y0,y1,()))) [] [.sp [.i .i64, .i .i64]] (fun _ _=>by kernel_rfl) (fun _ _=>by kernel_rfl)
noncomputable def zmh:FS:=mkF 322 [.v .s] (.v .b) (fun x=>zcV x.1) [] [] (fun _ _=>by kernel_rfl) (fun _ _=>by kernel_rfl)
noncomputable def zky:FS:=mkF 305 [.v .s, .v .s] (.v (.i .i64)) (fun x=>zdd x.1 x.2.1) [zmh] [] (fun _ _=>by kernel_rfl) (fun _ _=>by kernel_rfl)
noncomputable def zne:FS:=mkF 304 [.v (.st 0), .v .s] (.v (.i .i64)) (fun x=>zcw x.1 x.2.1) [zky] [] (fun _ _=>by kernel_rfl) (fun _ _=>by kernel_rfl)
noncomputable def zml:FS:=mkP zne fun _=>by kernel_rfl
noncomputable def zhp:FS:=mkF 284 [.v (.l (.st 0)), .v .s] (.tu (.cons (.v (.i .i64)) (.cons (.v .b) .nil))) (fun x=>zb1 x.1 x.2.1) [zcj,zml] [] (fun _ _=>by kernel_rfl) (fun _ _=>by kernel_rfl)
noncomputable def zkJ:FS:=mkF 235 [.v (.l (.st 0)), .v (.st 0)] (.v (.l (.st 0))) (fun x=>zcZ x.1 x.2.1) [zhp,zey] [] (fun _ _=>by kernel_rfl) (fun _ _=>by kernel_rfl)
noncomputable def zrO:FS:=mkF 280 [.v .s, .v (.l (.st 0)), .v (.l (.st 12))] (.tu (.cons (.v .s) (.cons (.v .b) (.cons (.v .b) .nil)))) (fun x=>zgQ x.1 x.2.1 x.2.2.1) [zhp] [.sp [.i .i64]] (fun _ _=>by kernel_rfl) (fun _ _=>by kernel_rfl)
noncomputable def zk1:FS:=mkF 282 [.v .s] (.tu (.cons (.v (.i .i64)) (.cons (.v .b) .nil))) (fun x=>zeF x.1) [zrv] [] (fun _ _=>by kernel_rfl) (fun _ _=>by kernel_rfl)
noncomputable def zn0:FS:=mkF 281 [.v (.st 11), .v .s, .v .b] (.v .b) (fun x=>zeR x.1 x.2.1 x.2.2.1) [zk1,zbp] [] (fun _ _=>by kernel_rfl) (fun _ _=>by kernel_rfl)
noncomputable def zrz:FS:=mkF 233 [.v (.l (.st 11)), .v (.l (.st 12))] (.tu (.cons (.v (.i .i64)) (.cons (.v .s) (.cons (.v (.l (.st 0))) .nil)))) (fun x=>zir x.1 x.2.1) [zkJ,zrO,zn0,zk1,zrX] [.sp [.i .i64, .l (.st 0)], .inl] (fun _ _=>by kernel_rfl) (fun _ _=>by kernel_rfl)
noncomputable def zuB:FS:=mkF 234 [.v (.l (.st 0)), .v .s] (.v (.st 12)) (fun x=>zii x.1 x.2.1) [zhp] [] (fun _ _=>by kernel_rfl) (fun _ _=>by kernel_rfl)
noncomputable def zqY:FS:=mkF 151 [.v (.l (.st 0)), .v (.l (.st 11))] (.tu (.cons (.v (.l (.st 12))) (.cons (.v (.l (.st 0))) (.cons (.v .b) .nil)))) (fun x=>zh0 x.1 x.2.1) [zrz,zuB] [.sp [.l (.st 12)]] (fun _ _=>by kernel_rfl) (fun _ _=>by kernel_rfl)
noncomputable def zdL:FS:=mkH 236 [.v (.l (.st 0)), .fn [.st 0] .b] (.v (.l (.st 0))) (fun x=>zdM x.1 (fun y=>x.2.1.φ (y,()))) fun x r hp h=>zg5 (f:=236) (t:=zAT 232 3 true (.mk (.cons (.fld (.fld (.idx (.var 5) (.var 4)) 0 3 true) 0 1 false) (.cons (.fld (.fld (.idx (.var 5) (.var 4)) 0 3 true) 1 1 false) (.cons (.fld (.fld (.idx (.var 5) (.var 4)) 0 3 true) 2 1 false) .nil)))) [(.agg (.fld (.idx (.var 5) (.var 4)) 0 3 true) 3)] (.mk (.cons (.str (ByteArray.mk #[])) (.cons (.str (ByteArray.mk #[])) (.cons (.bool false) .nil))))) (by kernel_rfl) (by kernel_rfl) (zx6 (av:=(zgb tab.av (.st 0))) (fun x=>⟨zjM _ x,zeS (by kernel_rfl) x,fun _=>⟨_,rfl⟩,fun e=>nomatch e⟩) (by decide) (fun a b c d j ys x tl hj=>by simp [AV.nth,hj,zgb,tAv]) (fun a b c d j ys x hj=>by simp [AV.nth,hj,zgb,tAv]) h (fun i hi=>zbU.ok x i hp hi) (fun y b hb=>hp.2.1 (y,()) b hb))
noncomputable def zpk:FS:=mkF 237 [.v (.st 0)] (.v .b) (fun x=>zhl x.1) [] [] (fun _ _=>by kernel_rfl) (fun _ _=>by kernel_rfl)
noncomputable def znS:FS:=mkP zpk fun _=>by kernel_rfl
noncomputable def zrp:FS:=mkF 152 [.v (.l (.st 0)), .v (.l (.st 0))] (.tu (.cons (.v (.l (.st 0))) (.cons (.v .b) .nil))) (fun x=>zg0 x.1 x.2.1) [zeH,zdL,znS,zkJ] [.sp [.i .i64, .l (.st 0)]] (fun _ _=>by kernel_rfl) (fun _ _=>by kernel_rfl)
noncomputable def ztH:FS:=mkF 69 [.v (.l (.st 0)), .v (.l (.st 11))] (.tu (.cons (.v (.l (.st 0))) (.cons (.v .b) .nil))) (fun x=>zeU x.1 x.2.1) [zqY,zrp] [] (fun _ _=>by kernel_rfl) (fun _ _=>by kernel_rfl)
noncomputable def znT:FS:=mkF 71 [.v (.st 3), .v .s, .v (.l (.st 0))] (.v .b) (fun x=>zeV x.1 x.2.1 x.2.2.1) [zm0,znp] [] (fun _ _=>by kernel_rfl) (fun _ _=>by kernel_rfl)
end Go.Proofs.YtbmbkgalkfmjdaaGreatDoor
end
section
namespace Go.Proofs.YtbmbkgalkfmjdaaGreatDoor
open Go.RowKit
set_option maxRecDepth 100000
set_option maxHeartbeats 4000000
noncomputable def zeD:FS:=mkF 113 [.rf (.st 1), .v (.l (.i .i64))] (.tu (.cons (.v (.i .i64)) (.cons (.v (.st 1)) .nil))) (fun x=>zaP x.1 x.2.1) [zap] [] (fun _ _=>by kernel_rfl) (fun _ _=>by kernel_rfl)
noncomputable def zl2:FS:=mkF 124 [.rf (.st 1), .v (.st 3), .v (.l (.st 0))] (.tu (.cons (.v (.st 8)) (.cons (.v (.st 1)) .nil))) (fun x=>zdV x.1 x.2.1 x.2.2.1) [zlE,zfz,zap,zcb] [.pt, .pt] (fun _ _=>by kernel_rfl) (fun _ _=>by kernel_rfl)
noncomputable def zrU:FS:=mkF 66 [.v (.st 3), .v (.st 8)] (.v .b) (fun x=>zfb x.1 x.2.1) [zlN] [] (fun _ _=>by kernel_rfl) (fun _ _=>by kernel_rfl)
noncomputable def zrl:FS:=mkF 15 [.v (.st 3), .v (.st 8)] (.v .b) (fun x=>zfi x.1 x.2.1) [zhn,zrU] [] (fun _ _=>by kernel_rfl) (fun _ _=>by kernel_rfl)
end Go.Proofs.YtbmbkgalkfmjdaaGreatDoor
end
section
namespace Go.Proofs.YtbmbkgalkfmjdaaGreatDoor
open Go.RowKit
set_option maxRecDepth 100000
set_option maxHeartbeats 4000000
noncomputable def ziF:FS:=mkF 46 [.rf (.st 1), .v (.st 3)] (.tu (.cons (.v (.l (.st 0))) (.cons (.v (.st 1)) .nil))) (fun x=>zcg x.1 x.2.1) [zkT,zap,zbV,znD] [.inl] (fun _ _=>by kernel_rfl) (fun _ _=>by kernel_rfl)
noncomputable def zjy:FS:=mkF 125 [.rf (.st 1), .v (.st 3)] (.tu (.cons (.v (.st 4)) (.cons (.v (.st 1)) .nil))) (fun x=>zbQ x.1 x.2.1) [zfz,zap,zbV] [.inl] (fun _ _=>by kernel_rfl) (fun _ _=>by kernel_rfl)
noncomputable def zjB:FS:=mkF 47 [.rf (.st 1), .v (.st 3), .v (.l (.st 0))] (.tu (.cons (.v (.st 8)) (.cons (.v (.st 1)) .nil))) (fun x=>zcE x.1 x.2.1 x.2.2.1) [zl2,zap,zjy] [.inl] (fun _ _=>by kernel_rfl) (fun _ _=>by kernel_rfl)
noncomputable def ziC:FS:=mkF 49 [.rf (.st 1)] (.tu (.cons (.v (.st 3)) (.cons (.v (.st 1)) .nil))) (fun x=>zci x.1) [zhh,zap,zbV] [.inl] (fun _ _=>by kernel_rfl) (fun _ _=>by kernel_rfl)
noncomputable def zpg:FS:=mkF 7 [.v (.l (.i .u8))] (.tu (.cons (.v (.st 3)) (.cons (.v (.l (.st 0))) (.cons (.v (.st 8)) .nil)))) (fun x=>zfq x.1) [zhh,ziF,zjB,zcb,ziC] [.inl] (fun _ _=>by kernel_rfl) (fun _ _=>by kernel_rfl)
noncomputable def zrr:FS:=mkF 8 [.v (.st 3), .v (.i .i64)] (.tu (.cons (.v (.st 3)) (.cons (.v .s) (.cons (.v .b) .nil)))) (fun x=>zgY x.1 x.2.1) [zp0] [] (fun _ _=>by kernel_rfl) (fun _ _=>by kernel_rfl)
noncomputable def zqT:FS:=mkF 126 [.v (.i .i64)] (.tu (.cons (.v (.st 16)) (.cons (.v .b) .nil))) (fun x=>zf9 x.1) [zdZ] [] (fun _ _=>by kernel_rfl) (fun _ _=>by kernel_rfl)
noncomputable def zi1:FS:=mkF 128 [.rf (.st 1), .v (.st 16)] (.tu (.cons (.v (.st 17)) (.cons (.v (.st 1)) .nil))) (fun x=>zcu x.1 x.2.1) [zap,zeD] [.sp [.b], .inl] (fun _ _=>by kernel_rfl) (fun _ _=>by kernel_rfl)
noncomputable def zff:FS:=mkF 52 [.rf (.st 1), .v (.st 16), .v (.i .i64)] (.tu (.cons (.v (.l (.st 17))) (.cons (.v (.st 1)) .nil))) (fun x=>zby x.1 x.2.1 x.2.2.1) [zap,zi1] [.sp [.l (.st 17), .i .i64, .l (.i .u8), .i .i64, .i .u64]] (fun _ _=>by kernel_rfl) (fun _ _=>by kernel_rfl)
noncomputable def zrN:FS:=mkF 300 [.v (.st 14)] (.v .b) (fun x=>zlQ x.1) [zdZ] [] (fun _ _=>by kernel_rfl) (fun _ _=>by kernel_rfl)
noncomputable def zho:FS:=mkF 274 [.v (.st 14)] (.v .b) (fun x=>zed x.1) [zrN] [] (fun _ _=>by kernel_rfl) (fun _ _=>by kernel_rfl)
noncomputable def zpi:FS:=mkF 275 [.v (.l (.st 14))] (.v .b) (fun x=>zfs x.1) [zdZ,zho] [.sp [.i .i64]] (fun _ _=>by kernel_rfl) (fun _ _=>by kernel_rfl)
noncomputable def zo7:FS:=mkF 215 [.v (.st 16)] (.v .b) (fun x=>zft x.1) [zdZ,zho,zpi] [.sp [.i .i64]] (fun _ _=>by kernel_rfl) (fun _ _=>by kernel_rfl)
noncomputable def zs1:FS:=mkF 216 [.v (.st 16)] (.v (.st 16)) (fun x=>zhE x.1) [] [] (fun _ _=>by kernel_rfl) (fun _ _=>by kernel_rfl)
noncomputable def zrF:FS:=mkF 217 [.v (.st 16), .v (.st 17)] (.v .b) (fun x=>zgO x.1 x.2.1) [zdZ,zho] [] (fun _ _=>by kernel_rfl) (fun _ _=>by kernel_rfl)
noncomputable def znh:FS:=mkF 276 [.v (.st 16), .v (.st 14)] (.v (.i .i64)) (fun x=>zgh x.1 x.2.1) [] [] (fun _ _=>by kernel_rfl) (fun _ _=>by kernel_rfl)
noncomputable def zqS:FS:=mkF 277 [.v (.st 16)] (.v .b) (fun x=>zfS x.1) [znh] [.sp [.i .i64]] (fun _ _=>by kernel_rfl) (fun _ _=>by kernel_rfl)
noncomputable def ztY:FS:=mkF 218 [.v (.st 16), .v (.st 17)] (.tu (.cons (.v (.st 16)) (.cons (.v .b) .nil))) (fun x=>zib x.1 x.2.1) [znh,zqS] [.inl] (fun _ _=>by kernel_rfl) (fun _ _=>by kernel_rfl)
noncomputable def zoZ:FS:=mkF 127 [.v (.st 16), .v (.l (.st 17))] (.tu (.cons (.v (.st 16)) (.cons (.v (.l .b)) (.cons (.v .b) .nil)))) (fun x=>zfk x.1 x.2.1) [zo7,zs1,zrF,ztY] [.sp [.l .b, .i .i64, .i .i64, .i .i64, .i .i64, .l (.st 14), .l (.st 15)], .inl] (fun _ _=>by kernel_rfl) (fun _ _=>by kernel_rfl)
noncomputable def zg3:FS:=mkF 50 [.rf (.st 1)] (.tu (.cons (.v (.st 16)) (.cons (.v (.st 1)) .nil))) (fun x=>zck x.1) [zap,zqT,zff,zoZ,zcb,zeD] [.inl] (fun _ _=>by kernel_rfl) (fun _ _=>by kernel_rfl)
noncomputable def ziz:FS:=mkF 51 [.rf (.st 1)] (.tu (.cons (.v (.st 16)) (.cons (.v (.st 1)) .nil))) (fun x=>zch x.1) [zg3,zap,zeD] [.inl] (fun _ _=>by kernel_rfl) (fun _ _=>by kernel_rfl)
noncomputable def zlz:FS:=mkF 9 [.v (.l (.i .u8))] (.tu (.cons (.v (.st 16)) (.cons (.v (.l (.st 17))) .nil))) (fun x=>zdt x.1) [zg3,zff,zcb,zap,ziz] [.pt, .inl] (fun _ _=>by kernel_rfl) (fun _ _=>by kernel_rfl)
noncomputable def zqe:FS:=mkF 12 [.v (.i .i64)] (.tu (.cons (.v (.st 16)) (.cons (.v .b) .nil))) (fun x=>zf5 x.1) [zbp] [] (fun _ _=>by kernel_rfl) (fun _ _=>by kernel_rfl)
noncomputable def zhm:FS:=mkF 142 [.v (.st 14)] (.v .b) (fun x=>zee x.1) [zbp] [] (fun _ _=>by kernel_rfl) (fun _ _=>by kernel_rfl)
noncomputable def zd4:FS:=mkH 225 [.v (.l (.st 14)), .fn [.st 14] .b] (.v (.i .i64)) (fun x=>zbk x.1 (fun y=>x.2.1.φ (y,()))) fun x r hp h=>zg5 (f:=225) (t:=zw9 1) (by kernel_rfl) (by kernel_rfl) (ztA (av:=(zgb tab.av (.st 14))) (cn:=1) (fun _=>⟨_,rfl,rfl⟩) h (fun y b hb=>hp.2.1 (y,()) b hb))
noncomputable def zdo:FS:=mkH 143 [.v (.l (.st 14)), .fn [.st 14] .b] (.v .b) (fun x=>zaw x.1 (fun y=>x.2.1.φ (y,()))) fun x r hp h=>zg5 (f:=143) (t:=zw6 225) (by kernel_rfl) (by kernel_rfl) (zsK h fun r hr=>zd4.ok x r hp hr)
noncomputable def zmG:FS:=mkF 144 [.v (.st 14)] (.v .b) (fun x=>zge x.1) [zhm] [] (fun _ _=>by kernel_rfl) (fun _ _=>by kernel_rfl)
noncomputable def zl7:FS:=mkP zmG fun _=>by kernel_rfl
noncomputable def zdH:FS:=mkH 224 [.v (.l (.st 15)), .fn [.st 15] .b] (.v (.i .i64)) (fun x=>zbk x.1 (fun y=>x.2.1.φ (y,()))) fun x r hp h=>zg5 (f:=224) (t:=zw9 2) (by kernel_rfl) (by kernel_rfl) (ztA (av:=(zgb tab.av (.st 15))) (cn:=2) (fun _=>⟨_,rfl,rfl⟩) h (fun y b hb=>hp.2.1 (y,()) b hb))
noncomputable def zbt:FS:=mkH 140 [.v (.l (.st 15)), .fn [.st 15] .b] (.v .b) (fun x=>zaw x.1 (fun y=>x.2.1.φ (y,()))) fun x r hp h=>zg5 (f:=140) (t:=zw6 224) (by kernel_rfl) (by kernel_rfl) (zsK h fun r hr=>zdH.ok x r hp hr)
noncomputable def zmZ:FS:=mkF 145 [.v (.st 15), .rf (.st 16)] (.v .b) (fun x=>zes x.1 x.2.1) [zbp] [] (fun _ _=>by kernel_rfl) (fun _ _=>by kernel_rfl)
noncomputable def zmD:FS:=mkP zmZ fun _=>by kernel_rfl
noncomputable def zjZ:FS:=mkF 64 [.v (.st 16)] (.v .b) (fun x=>zeg x.1) [zbp,zhm,zdo,zl7,zbt,zmD] [] (fun _ _=>by kernel_rfl) (fun _ _=>by kernel_rfl)
noncomputable def ziw:FS:=mkF 136 [.v (.st 16), .v (.st 17)] (.v .b) (fun x=>zce x.1 x.2.1) [zbp,zhm] [] (fun _ _=>by kernel_rfl) (fun _ _=>by kernel_rfl)
noncomputable def zl5:FS:=mkF 61 [.v (.st 16), .v (.st 17)] (.v .b) (fun x=>zd2 x.1 x.2.1) [zjZ,ziw] [] (fun _ _=>by kernel_rfl) (fun _ _=>by kernel_rfl)
noncomputable def zeG:FS:=mkH 137 [.v (.l (.st 14))] (.v (.l (.st 14))) (fun x=>zbl x.1) fun x r hp h=>zg5 (f:=137) (t:=zqj 8 1) (by kernel_rfl) (by kernel_rfl) (zkP (bytes:=8) (sz:=1) (av:=(zgb tab.av (.st 14))) (fun x=>⟨zjM _ x,zeS (by kernel_rfl) x⟩) h)
end Go.Proofs.YtbmbkgalkfmjdaaGreatDoor
end
section
namespace Go.Proofs.YtbmbkgalkfmjdaaGreatDoor
open Go.RowKit
set_option maxRecDepth 100000
set_option maxHeartbeats 4000000
noncomputable def zeo:FS:=mkH 138 [.v (.l (.st 15))] (.v (.l (.st 15))) (fun x=>za6 x.1) fun x r hp h=>zg5 (f:=138) (t:=zqj 16 2) (by kernel_rfl) (by kernel_rfl) (zkP (bytes:=16) (sz:=2) (av:=(zgb tab.av (.st 15))) (fun x=>⟨zjM _ x,zeS (by kernel_rfl) x⟩) h)
noncomputable def zpb:FS:=mkF 62 [.v (.st 16)] (.v (.st 16)) (fun x=>zfp x.1) [zeG,zeo] [] (fun _ _=>by kernel_rfl) (fun _ _=>by kernel_rfl)
noncomputable def zhQ:FS:=mkF 139 [.v (.st 14), .v (.i .i64)] (.v (.st 18)) (fun x=>zc0 x.1 x.2.1) [] [] (fun _ _=>by kernel_rfl) (fun _ _=>by kernel_rfl)
noncomputable def zj7:FS:=mkF 141 [.v (.st 15), .rr (.st 16), .rf (.i .i64)] (.v .b) (fun x=>zc2 x.1 x.2.1 x.2.2.1) [] [] (fun _ _=>by kernel_rfl) (fun _ _=>by kernel_rfl)
noncomputable def zji:FS:=mkP zj7 fun _=>by kernel_rfl
noncomputable def zly:FS:=mkF 63 [.rf (.st 16), .v (.st 17)] (.tu (.cons (.v .b) (.cons (.v (.st 16)) .nil))) (fun x=>zds x.1 x.2.1) [zhQ,zbt,zji] [.inl] (fun _ _=>by kernel_rfl) (fun _ _=>by kernel_rfl)
noncomputable def zo8:FS:=mkF 13 [.v (.st 16), .v (.st 17)] (.tu (.cons (.v (.st 16)) (.cons (.v .b) (.cons (.v .b) .nil)))) (fun x=>zfl x.1 x.2.1) [zl5,zpb,zly] [] (fun _ _=>by kernel_rfl) (fun _ _=>by kernel_rfl)
noncomputable def zkD:FS:=mkF 65 [.v (.st 16), .v (.i .i64)] (.v .b) (fun x=>zda x.1 x.2.1) [zhQ] [] (fun _ _=>by kernel_rfl) (fun _ _=>by kernel_rfl)
noncomputable def zq6:FS:=mkF 14 [.v (.st 16), .v (.i .i64)] (.tu (.cons (.v (.i .i64)) (.cons (.v .b) (.cons (.v .b) .nil)))) (fun x=>zfV x.1 x.2.1) [zjZ,zbp,zkD] [] (fun _ _=>by kernel_rfl) (fun _ _=>by kernel_rfl)
noncomputable def zrt:FS:=mkF 67 [.v (.st 3), .v (.st 8)] (.v .b) (fun x=>zgX x.1 x.2.1) [zjR,zjJ] [] (fun _ _=>by kernel_rfl) (fun _ _=>by kernel_rfl)
noncomputable def ztV:FS:=mkF 16 [.v (.st 3), .v (.l (.st 0)), .v (.st 8)] (.tu (.cons (.v (.l (.st 0))) (.cons (.v .b) (.cons (.v .b) .nil)))) (fun x=>zif x.1 x.2.1 x.2.2.1) [zrt,znp,zks,ztH] [] (fun _ _=>by kernel_rfl) (fun _ _=>by kernel_rfl)
noncomputable def zrT:FS:=mkF 17 [.v (.st 3), .v .s, .v (.i .i64), .v (.l (.st 0))] (.tu (.cons (.v .b) (.cons (.v .b) .nil))) (fun x=>zg1 x.1 x.2.1 x.2.2.1 x.2.2.2.1) [znT,zbp,zj3] [] (fun _ _=>by kernel_rfl) (fun _ _=>by kernel_rfl)
noncomputable def zkS:FS:=mkF 3 [.v (.l (.i .u8)), .v (.l (.i .u8))] (.v .b) (fun x=>zf1 x.1 x.2.1) [zpg,zrr,zlz,zuS,zhn,zqe,zrT,zo8,zq6,zrl,ztV] [.sp [.l (.st 0), .i .i64, .i .i64, .i .i64, .i .i64, .l (.st 14), .l (.st 15)], .inl, .sp [.i .i64, .i .i64, .i .i64, .l (.st 14), .l (.st 15)], .pt] (fun _ _=>by kernel_rfl) (fun _ _=>by kernel_rfl)
end Go.Proofs.YtbmbkgalkfmjdaaGreatDoor
end
section
namespace Go.Proofs.YtbmbkgalkfmjdaaGreatDoor
open Go.RowKit
set_option maxRecDepth 100000
theorem zpz (a0:List Int) (a1:List Int) (r:Bool) (h:zf1 a0 a1=some r):Rts Tryz.prog sgs 3 [.sl (a0.map zDk), .sl (a1.map zDk)] (.bool r):=zkS.ok (a0,a1,()) r (by simp [zkS,mkF,zxT,zEz]) h
end Go.Proofs.YtbmbkgalkfmjdaaGreatDoor
end
section
namespace Go.Proofs.YtbmbkgalkfmjdaaGreatDoor
open Go.ChangeShapes Go.WideShapes Go.ChangeAt Go.RowKit
theorem zku {H:Type} {P:Program} {t:TypeId} {ts:List TypeId} {d:DataW H} {r:List (DataW H)} {n:Nat} (h:(DataW.weightsEach P (t::ts) (d::r)).all (· ≤n)=true):(d.weights P t).all (· ≤n)=true∧(DataW.weightsEach P ts r).all (· ≤n)=true:=by
 rw [DataW.weightsEach,List.all_append,Bool.and_eq_true]at h
 exact h
theorem zBI {w:World} {p:Option Addr} {n c:Nat} {xs:List AV} {f:List Nat} (h:Rd w [.slice p n c] [.sl xs] f):n=xs.length:=by
 cases h<;>first|rfl|(symm;assumption)
theorem zAp {w:World} {v:Value} {xs:List AV} {f:List Nat} (h:Rd w [v] [.sl xs] f):v.cells.toList= [v]:=by
 cases h<;>rfl
theorem zpU {H:Type} {P:Program} {enc:TypeId × Value→H} {w:World} {spare:Nat→Bool} {held:Bool} {t e:TypeId} {v:Value} {d:DataW H} {p:List MemPlace} {xs:List AV} {f:List Nat} (ht:P.underlying t=some (.slice e)) (hb:P.bytesOf e=1) (h:DataW.Trod enc P w 0 spare held t v d p) (hr:Rd w [v] [.sl xs] f) (hw:(d.weights P t).all (· ≤reachBytes)=true):xs.length≤reachBytes:=by
 have hc:=zAp hr
 obtain⟨m,hm⟩:=h
 rcases DataW.trod_slice ht hm with⟨h1,_⟩|⟨a,len,cap,elems,rest,n,_,h1,h2,_,_,_,h3,_⟩
 ·rw [hc]at h1
  obtain rfl:=(List.cons.inj h1).1
  rw [←zBI hr];omega
 ·rw [hc]at h1
  obtain rfl:=(List.cons.inj h1).1
  rw [←zBI hr]
  have:d= .slice (elems.map (·.1)) (rest.map (·.1)):=congrArg Prod.fst h2
  subst this
  rw [DataW.weights,ht]at hw
  dsimp only at hw
  rw [List.all_cons,Bool.and_eq_true,decide_eq_true_eq,hb,List.length_map]at hw
  omega
end Go.Proofs.YtbmbkgalkfmjdaaGreatDoor
end
section
namespace Go.Proofs.YtbmbkgalkfmjdaaGreatDoor
open Go.RowKit
theorem zam {α:Type} {xs:List α} {i:Nat} (h:i<xs.length):getI xs (i:Int)=some xs[i]:=by simp [getI,h]
theorem zgK {α:Type} {xs:List α} {i:Int} (h0:0≤i) (h:i<xs.length): ∃x,getI xs i=some x∧x∈xs∧xs[i.toNat]?=some x:=by
 have hi:i.toNat<xs.length:=by omega
 exact⟨xs[i.toNat],by simp [getI,h0,hi],List.getElem_mem hi,by simp [hi]⟩
theorem zwT {α:Type} {xs:List α} {i:Int} {x:α} (h:getI xs i=some x):x∈xs:=by
 obtain⟨h1,h2,h3⟩:=zBx h
 exact List.mem_of_getElem? h3
theorem zd5 {q n:Nat} (h:q<n) (hn:n≤9223372036854775807):IntKind.i64.wrap ((q:Int)+1)=((q+1:Nat):Int):=by rw [zaJ (by omega) (by omega)];simp
theorem zai {α:Type} {p:Prop} {k:Option α} (h:p):req p k=k:=by simp [req,h]
def goL {α σ β:Type} (step:α→σ→Option (σ ⊕ Option β)) (fin:σ→Option β):List α→σ→Option β
 | [],s=>fin s
 |x::xs,s=>match step x s with
  |none=>none
  |some (.inl s')=>goL step fin xs s'
  |some (.inr o)=>o
def zrI {σ τ β:Type} (f:σ→τ):Option (σ ⊕ Option β)→Option (τ ⊕ Option β)
 |none=>none
 |some (.inl s)=>some (.inl (f s))
 |some (.inr o)=>some (.inr o)
theorem zyY {α σ τ β:Type} {xs:List α} {body:τ→Option (τ ⊕ Option β)} (emb:Int→σ→τ) (step:α→σ→Option (σ ⊕ Option β)) (fin:σ→Option β) (q0:Nat)
  (hs: ∀(i:Nat) (hi:i<xs.length) (s:σ),q0≤i→body (emb i s)=zrI (emb ((i+1:Nat):Int)) (step xs[i] s)) (he: ∀s,body (emb xs.length s)=some (.inr (fin s))) (s:σ) (h0:q0≤xs.length):zat body (emb q0 s)=goL step fin (xs.drop q0) s:=by
 have key: ∀(n q:Nat) (s:σ),q0≤q→q+n=xs.length→zat body (emb q s)=goL step fin (xs.drop q) s:=by
  intro n
  induction n with
  |zero=>
   intro q s _ hq
   have:q=xs.length:=by omega
   subst this
   rw [zdc,he s]
   simp [goL]
  |succ n ih=>
   intro q s h0 hq
   have hlt:q<xs.length:=by omega
   rw [zdc,hs q hlt s h0,List.drop_eq_getElem_cons hlt]
   rcases hst:step xs[q] s with _|s'|o
   ·simp [goL,hst,zrI]
   ·simp only [goL,hst,zrI];exact ih (q+1) s' (by omega) (by omega)
   ·simp [goL,hst,zrI]
 exact key (xs.length-q0) q0 s (Nat.le_refl _) (by omega)
theorem zkA {α σ τ β:Type} {xs:List α} {body:τ→Option (τ ⊕ Option β)} (emb:Int→σ→τ) (step:α→σ→Option (σ ⊕ Option β)) (fin:σ→Option β)
  (hs: ∀(i:Nat) (hi:i<xs.length) (s:σ),body (emb i s)=zrI (emb ((i+1:Nat):Int)) (step xs[i] s)) (he: ∀s,body (emb xs.length s)=some (.inr (fin s))) (s:σ):zat body (emb 0 s)=goL step fin xs s:=by
 have:=zyY emb step fin 0 (fun i hi s _=>hs i hi s) he s (by omega)
 simpa using this
theorem zsF {α σ β:Type} {step:α→σ→Option (σ ⊕ Option β)} {fin:σ→Option β} {xs:List α} (p:α→Bool) (b:β) (h: ∀x∈xs,∀s,step x s=some (if p x=true then .inl s else .inr (some b))) (s:σ):goL step fin xs s=if xs.all p=true then fin s else some b:=by
 induction xs with
 |nil=>simp [goL]
 |cons x xs ih=>
  simp only [goL,h x (by simp) s]
  cases hp:p x with
  |true=>simp [hp,ih fun y hy=>h y (by simp [hy])]
  |false=>simp [hp]
theorem zAj {α σ β:Type} {step:α→σ→Option (σ ⊕ Option β)} {fin:σ→Option β} {xs:List α} (f:σ→α→σ) (I:σ→Prop) (hI: ∀x∈xs,∀s,I s→I (f s x)) (h: ∀x∈xs,∀s,I s→step x s=some (.inl (f s x))) {s:σ} (hs:I s):goL step fin xs s=fin (xs.foldl f s):=by
 induction xs generalizing s with
 |nil=>simp [goL]
 |cons x xs ih=>
  simp only [goL,h x (by simp) s hs,List.foldl_cons]
  exact ih (fun y hy=>hI y (by simp [hy])) (fun y hy=>h y (by simp [hy])) (hI x (by simp) s hs)
theorem zdx {α σ τ β:Type} {xs:List α} {body:τ→Option (τ ⊕ Option β)} (emb:Int→σ→τ) (f:σ→α→σ) (fin:σ→Option β) (I:Nat→σ→Prop)
  (hs: ∀(i:Nat) (hi:i<xs.length) (s:σ),I i s→body (emb i s)=some (.inl (emb ((i+1:Nat):Int) (f s xs[i])))∧I (i+1) (f s xs[i])) (he: ∀s,I xs.length s→body (emb xs.length s)=some (.inr (fin s))) {s:σ} (h0:I 0 s):zat body (emb 0 s)=fin (xs.foldl f s)∧I xs.length (xs.foldl f s):=by
 have key: ∀(n q:Nat) (s:σ),q+n=xs.length→I q s→zat body (emb q s)=fin ((xs.drop q).foldl f s)∧I xs.length ((xs.drop q).foldl f s):=by
  intro n
  induction n with
  |zero=>
   intro q s hq hI
   have:q=xs.length:=by omega
   subst this
   rw [zdc,he s hI]
   simp [hI]
  |succ n ih=>
   intro q s hq hI
   have hlt:q<xs.length:=by omega
   obtain⟨h1,h2⟩:=hs q hlt s hI
   rw [zdc,h1,List.drop_eq_getElem_cons hlt,List.foldl_cons]
   exact ih (q+1) _ (by omega) h2
 have:=key xs.length 0 s (by omega) h0
 simpa using this
theorem znQ {α:Type} {xs:List α} {p:α→Option Bool} (q:α→Bool) (hp: ∀x∈xs,p x=some (q x)) (hn:xs.length≤9223372036854775806):zaw xs p=some (xs.any q):=by
 have key: ∀(l:List α) (i:Int),0≤i→(∀x∈l,p x=some (q x))→ ∃r,zrb p l i=some r∧decide (r≥0)=l.any q:=by
  intro l
  induction l with
  |nil=>intro i _ _;exact⟨-1,rfl,by simp⟩
  |cons x l ih=>
   intro i hi h
   simp only [zrb,h x (by simp),Option.bind_some]
   cases hq:q x with
   |true=>exact⟨i,by simp,by simp [hq,hi]⟩
   |false=>
    obtain⟨r,h1,h2⟩:=ih (i+1) (by omega) fun y hy=>h y (by simp [hy])
    exact⟨r,by simp [h1],by simp [hq,h2]⟩
 obtain⟨r,h1,h2⟩:=key xs 0 (by omega) hp
 simp [zaw,zbk,zai hn,h1,h2]
theorem zlh {α:Type} {b:Nat} {xs:List α} (h:(xs.length:Int)*b≤140737488355328) (h2:(xs.length:Int)≤140737488355328):zjH b xs=some xs:=zai ⟨h,h2⟩
theorem ziY {β:Type} {n:Nat} {body:Int→Option (Int ⊕ Option β)} (p:Nat→Bool) (b:β) (fin:Option β)
  (hs: ∀i:Nat,i<n→body i=some (if p i=true then .inl ((i+1:Nat):Int)else .inr (some b))) (he:body n=some (.inr fin)):zat body 0=if(List.range n).all p=true then fin else some b:=by
 have h1:=zkA (xs:=List.range n) (body:=body) (fun i (_:Unit)=>i) (fun i _=>some (if p i=true then .inl ()else .inr (some b))) (fun _=>fin)
  (fun i hi s=>by
   rw [List.length_range]at hi
   rw [hs i hi,List.getElem_range]
   cases p i<;>simp [zrI]) (fun s=>by simpa using he) ()
 rw [zsF p b fun x _ s=>rfl]at h1
 exact h1
def zhw {α:Type} (p:α→Bool) (l:List α):Int:=match l.findIdx? p with|some i=>(i:Int)|none=> -1
theorem zpt {α:Type} (p:α→Bool):zhw p []= -1:=rfl
theorem ziZ {α:Type} (p:α→Bool) (x:α) (l:List α):zhw p (x::l)=if p x=true then 0 else if zhw p l= -1 then-1 else zhw p l+1:=by
 unfold zhw
 rw [List.findIdx?_cons]
 cases p x with
 |true=>simp
 |false=>
  cases h:l.findIdx? p with
  |none=>simp
  |some i=>simp<;>omega
theorem zpX {α:Type} (p:α→Bool) (l:List α): -1≤zhw p l:=by
 unfold zhw
 split<;>omega
theorem zjb {α:Type} (p:α→Bool) (l:List α):decide (zhw p l≥0)=l.any p:=by
 induction l with
 |nil=>simp [zpt]
 |cons x l ih=>
  have h1:=zpX p l
  rw [ziZ,List.any_cons,←ih]
  cases p x with
  |true=>simp
  |false=>
   by_cases h:zhw p l= -1
   ·simp [h]
   ·have:zhw p l≥0:=by omega
    simp [h,this];try omega
theorem zv9 {α:Type} {p:α→Bool} {l:List α} (h:zhw p l≥0): ∃x,getI l (zhw p l)=some x∧p x=true∧x∈l:=by
 induction l with
 |nil=>simp [zpt]at h
 |cons y l ih=>
  rw [ziZ]at h ⊢
  cases hy:p y with
  |true=>exact⟨y,by simp [getI],hy,by simp⟩
  |false=>
   have h1:=zpX p l
   by_cases hm:zhw p l= -1
   ·rw [hy,hm]at h;simp at h
   ·have h0:zhw p l≥0:=by omega
    obtain⟨x,e1,e2,e3⟩:=ih h0
    obtain⟨_,e4,e5⟩:=zBx e1
    refine⟨x, ?_,e2,by simp [e3]⟩
    simp only [Bool.false_eq_true,if_false,hm]
    unfold getI
    rw [if_pos (by omega),show(zhw p l+1).toNat=(zhw p l).toNat+1 by omega]
    simpa using e5
theorem zsP {α:Type} {xs:List α} {body:Int→Option (Int ⊕ Option Int)} (p:α→Bool) (hs: ∀(i:Nat) (hi:i<xs.length),body i=some (if p xs[i]=true then .inr (some (i:Int))else .inl ((i+1:Nat):Int))) (he:body xs.length=some (.inr (some (-1)))):zat body 0=some (zhw p xs):=by
 have key: ∀(n q:Nat),q+n=xs.length→zat body q=some (if zhw p (xs.drop q)= -1 then-1 else q+zhw p (xs.drop q)):=by
  intro n
  induction n with
  |zero=>
   intro q hq
   have:q=xs.length:=by omega
   subst this
   rw [zdc,he]
   simp [zpt]
  |succ n ih=>
   intro q hq
   have hlt:q<xs.length:=by omega
   rw [zdc,hs q hlt,List.drop_eq_getElem_cons hlt,ziZ]
   cases p xs[q]with
   |true=>simp
   |false=>
    simp only [Bool.false_eq_true,if_false]
    rw [ih (q+1) (by omega)]
    have h1:=zpX p (xs.drop (q+1))
    congr 1
    by_cases hm:zhw p (xs.drop (q+1))= -1
    ·simp [hm]
    ·have h2: ¬(zhw p (xs.drop (q+1))+1= -1):=by omega
     simp only [hm,if_false,h2]
     omega
 have h:=key xs.length 0 (by omega)
 rw [List.drop_zero]at h
 rw [show((0:Nat):Int)=0 from rfl]at h
 rw [h]
 have h1:=zpX p xs
 by_cases hm:zhw p xs= -1
 ·simp [hm]
 ·simp [hm]
theorem zu2 {α:Type} {xs:List α} {p:α→Option Bool} (q:α→Bool) (hp: ∀x∈xs,p x=some (q x)) (hn:xs.length≤9223372036854775806):zbk xs p=some (zhw q xs):=by
 have key: ∀(l:List α) (i:Int),(∀x∈l,p x=some (q x))→zrb p l i=some (if zhw q l= -1 then-1 else i+zhw q l):=by
  intro l
  induction l with
  |nil=>intro i _;simp [zrb,zpt]
  |cons x l ih=>
   intro i h
   simp only [zrb,h x (by simp),Option.bind_some,ziZ]
   cases q x with
   |true=>simp
   |false=>
    simp only [Bool.false_eq_true,if_false]
    rw [ih (i+1) fun y hy=>h y (by simp [hy])]
    have h1:=zpX q l
    congr 1
    by_cases hm:zhw q l= -1
    ·simp [hm]
    ·have h2: ¬(zhw q l+1= -1):=by omega
     simp only [hm,if_false,h2]
     omega
 unfold zbk
 rw [zai hn,key xs 0 hp]
 by_cases hm:zhw q xs= -1
 ·simp [hm]
 ·simp [hm]
theorem zFy {α:Type} {b:Bool} {A B:Option α} {y:Option α} (ha:b=true→A=y) (hb:b=false→B=y):(if b=true then A else B)=y:=by
 cases b with
 |true=>simpa using ha rfl
 |false=>simpa using hb rfl
theorem zFa {α:Type} {b:Bool} {A B y:Option α} (h:b=false) (hb:B=y):(if b=true then A else B)=y:=by rw [if_neg (by simp [h])];exact hb
theorem zl0 {α β:Type} {o:Option α} {x:α} {f:α→Option β} (h:o=some x):o.bind f=f x:=by rw [h];rfl
end Go.Proofs.YtbmbkgalkfmjdaaGreatDoor
end
section
namespace Go.Proofs.YtbmbkgalkfmjdaaGreatDoor
open Go.RowKit
def zb3 {α:Type} (o:Option α) (Q:α→Prop):Prop:= ∃x,o=some x∧Q x
section
variable {α β σ:Type} {Q:β→Prop}
theorem zb3.bind {o:Option α} {P:α→Prop} {f:α→Option β} (h:zb3 o P) (hf: ∀x,P x→zb3 (f x) Q):zb3 (o.bind f) Q:=by
 obtain⟨x,rfl,hx⟩:=h
 exact hf x hx
theorem zb3.ret {x:β} (h:Q x):zb3 (some x) Q:=⟨x,rfl,h⟩
theorem zb3.ite {b:Bool} {A B:Option β} (ha:b=true→zb3 A Q) (hb:b=false→zb3 B Q):zb3 (if b=true then A else B) Q:=by
 cases b with
 |true=>simpa using ha rfl
 |false=>simpa using hb rfl
theorem zb3.req {p:Prop} [Decidable p] {k:Option β} (hp:p) (hk:zb3 k Q):zb3 (req p k) Q:=by rw [zai hp];exact hk
theorem zb3.mono {o:Option β} {P:β→Prop} (h:zb3 o P) (hPQ: ∀x,P x→Q x):zb3 o Q:=by
 obtain⟨x,hx,h⟩:=h
 exact⟨x,hx,hPQ x h⟩
theorem zb3.getI {xs:List β} {i:Int} (h0:0≤i) (h:i<xs.length) (hq: ∀x,x∈xs→Q x):zb3 (getI xs i) Q:=by
 obtain⟨x,h1,h2,_⟩:=zgK h0 h
 exact⟨x,h1,hq x h2⟩
theorem zhI {body:σ→Option (σ ⊕ Option β)} (I:Nat→σ→Prop) (h: ∀n s,I n s→zb3 (body s) fun o=>match o with| .inl s'=> ∃m,m<n∧I m s'| .inr q=>zb3 q Q): ∀{n:Nat} {s:σ},I n s→zb3 (zat body s) Q:=by
 intro n
 induction n using Nat.strongRecOn with
 |_ n ih=>
  intro s hI
  obtain⟨o,ho,h2⟩:=h n s hI
  rw [zdc,ho]
  match o,h2 with
  | .inl s',⟨m,hm,hI'⟩=>exact ih m hm hI'
  | .inr q,hq=>exact hq
end
structure zgz where
 holdsQ:List Int→Prop
 bytesQ: ∀l,holdsQ l→ ∀b∈l,0≤b∧b≤255
instance codeBytes:Inhabited zgz:=⟨⟨fun l=> ∀b∈l,0≤b∧b≤255,fun _ h=>h⟩⟩
def okC [Inhabited zgz] (c:zaf) (k:Int):Prop:=(default:zgz).holdsQ c.fcode∧0≤c.fat∧c.fat≤k
theorem okC.up [Inhabited zgz] {c:zaf} {i j:Int} (h:okC c i) (hij:i≤j):okC c j:=⟨h.1,h.2.1,by have:=h.2.2;omega⟩
theorem okC.start [Inhabited zgz] {code:List Int} (h:(default:zgz).holdsQ code):okC ⟨code,0,0⟩ 0:=⟨h,by simp,by simp⟩
theorem zBG (a:Int):0≤IntKind.i64.wrap (IntKind.u64.wrap ((BitVec.ofInt (IntKind.bits .u64) a&&&BitVec.ofInt (IntKind.bits .u64) 255).toNat:Int))∧IntKind.i64.wrap (IntKind.u64.wrap ((BitVec.ofInt (IntKind.bits .u64) a&&&BitVec.ofInt (IntKind.bits .u64) 255).toNat:Int))≤255:=by
 have h:(BitVec.ofInt (IntKind.bits .u64) a&&&BitVec.ofInt (IntKind.bits .u64) 255).toNat≤255:=by
  rw [BitVec.toNat_and]
  exact Nat.le_trans Nat.and_le_right (by decide)
 generalize (BitVec.ofInt (IntKind.bits .u64) a&&&BitVec.ofInt (IntKind.bits .u64) 255).toNat=m at h ⊢
 have e:IntKind.u64.wrap (m:Int)=m:=by simp [IntKind.wrap,IntKind.bits,IntKind.signed];omega
 rw [e,zaJ (by omega) (by omega)]
 omega
theorem zzU [Inhabited zgz] {c:zaf} {k:Int} (h:okC c k) (hk:k≤4611686018427387904):zb3 (zcD c) fun p=>(0≤p.1∧p.1≤255)∧okC p.2 (k+1):=by
 obtain⟨hb,h0,h1⟩:=h
 have w:IntKind.i64.wrap (c.fat+1)=c.fat+1:=zaJ (by omega) (by omega)
 unfold zcD
 refine .ite (fun hlt=> ?_) fun hlt=> ?_
 ·simp only [decide_eq_true_eq]at hlt
  refine zb3.bind (P:=fun y=>0≤y∧y≤255) (.getI h0 hlt ((default:zgz).bytesQ _ hb)) fun y hy=> ?_
  have wy:IntKind.i64.wrap y=y:=zaJ (by omega) (by omega)
  refine .ite (fun _=> .ret ⟨by dsimp only;rw [wy];exact hy,hb,by dsimp only;omega,by dsimp only;omega⟩) fun _=> .ret ⟨zBG _,hb,by dsimp only;omega,by dsimp only;omega⟩
 ·refine .ite (fun _=> .ret ⟨by simp,hb,by dsimp only;omega,by dsimp only;omega⟩) fun _=> .ret ⟨zBG _,hb,by dsimp only;omega,by dsimp only;omega⟩
theorem zbz [Inhabited zgz] {c:zaf} {k:Int} (n:Int) (h:okC c k) (hk:k≤4611686018427387000):zb3 (zac c n) fun p=>(0≤p.1∧(1≤n→p.1<n)∧p.1≤65535)∧okC p.2 (k+2):=by
 have tm: ∀x:Int,0≤x→1<n→0≤x.tmod n∧x.tmod n<n∧x.tmod n≤x:=fun x hx hn=>by
  rw [Int.tmod_eq_emod_of_nonneg hx]
  exact⟨Int.emod_nonneg _ (by omega),Int.emod_lt_of_pos _ (by omega),by
   have:=Int.emod_add_mul_ediv x n
   have h2:0≤n*(x/n):=Int.mul_nonneg (by omega) (Int.ediv_nonneg hx (by omega))
   omega⟩
 unfold zac
 refine .ite (fun hn=> .ret ⟨⟨by simp,fun h1=>by dsimp only;omega,by simp⟩,h.up (by omega)⟩) fun hn=> ?_
 simp only [decide_eq_false_iff_not]at hn
 refine(zzU h (by omega)).bind fun p ⟨hp,hc⟩=> ?_
 refine .ite (fun _=> ?_) fun _=> ?_
 ·refine(zzU hc (by omega)).bind fun q ⟨hq,hd⟩=> .req (by omega) (.ret ?_)
  have w1:IntKind.i64.wrap (p.1*256)=p.1*256:=zaJ (by omega) (by omega)
  have w2:IntKind.i64.wrap (p.1*256+q.1)=p.1*256+q.1:=zaJ (by omega) (by omega)
  have:=tm (p.1*256+q.1) (by omega) (by omega)
  dsimp only
  rw [w1,w2]
  exact⟨⟨this.1,fun _=>this.2.1,by omega⟩,hd.up (by omega)⟩
 ·have:=tm p.1 hp.1 (by omega)
  exact .req (by omega) (.ret ⟨⟨this.1,fun _=>this.2.1,by dsimp only;omega⟩,hc.up (by omega)⟩)
theorem zk3 [Inhabited zgz] {c:zaf} {k:Int} (l:List Int) (hl:l≠ []) (h:okC c k) (hk:k≤4611686018427387000):zb3 (zaP c l) fun p=>p.1∈l∧okC p.2 (k+2):=by
 unfold zaP
 have hpos:0<l.length:=List.length_pos_iff.2 hl
 refine(zbz l.length h hk).bind fun p ⟨hp,hc⟩=> ?_
 exact zb3.bind (P:=fun y=>y∈l) (.getI hp.1 (hp.2.1 (by omega)) fun x hx=>hx) fun y hy=> .ret ⟨hy,hc⟩
theorem zlJ [Inhabited zgz] {c:zaf} {k:Int} (n:Int) (h:okC c k) (hk:k≤4611686018427387000):zb3 (zaB c n) fun p=>okC p.2 (k+2):=by
 unfold zaB
 exact(zbz n h hk).bind fun p ⟨_,hc⟩=> .ret hc
end Go.Proofs.YtbmbkgalkfmjdaaGreatDoor
end
section
namespace Go.Proofs.YtbmbkgalkfmjdaaGreatDoor
open Go.RowKit
set_option maxRecDepth 100000
theorem zvd {α β:Type} (f:α→β) (l:List α) (o:List β):l.foldl (fun o x=>o++ [f x]) o=o++l.map f:=by
 induction l generalizing o with
 |nil=>simp
 |cons x l ih=>rw [List.foldl_cons,ih];simp
end Go.Proofs.YtbmbkgalkfmjdaaGreatDoor
end
section
namespace Go.Proofs.YtbmbkgalkfmjdaaGreatDoor
open Go.RowKit
set_option maxRecDepth 100000
abbrev Str:=List UInt8
def inB (a b c:Int):Bool:=decide (a≥b)&&decide (a≤c)
theorem za3 {a b c:Int}:inB a b c=true↔b≤a∧a≤c:=by simp [inB]
@[simp] theorem zmO (a b c:Int):zay a b c=some (inB a b c):=rfl
@[simp] theorem zfX (a b c:Int):zao a b c=some (inB a b c):=rfl
def ze2 (b:UInt8):Bool:=(decide ((b.toNat:Int)≥97)&&decide ((b.toNat:Int)≤122))||(decide ((b.toNat:Int)≥48)&&decide ((b.toNat:Int)≤57))
def zhU (s more:Str):Bool:=s.all fun b=>ze2 b||more.contains b
theorem zD4 {a b:UInt8}:((a.toNat:Int)==(b.toNat:Int))=(a==b):=by
 rw [Bool.eq_iff_iff]
 simp only [beq_iff_eq]
 constructor
 ·intro h;exact UInt8.toNat_inj.1 (by omega)
 ·rintro rfl;rfl
theorem zuY {α:Type} (xs:List α) (p:α→Bool) (q:Nat→Bool) (h: ∀(i:Nat) (hi:i<xs.length),q i=p xs[i]):(List.range xs.length).all q=xs.all p:=by
 rw [Bool.eq_iff_iff]
 simp only [List.all_eq_true,List.mem_range]
 constructor
 ·intro hq x hx
  obtain⟨i,hi,rfl⟩:=List.getElem_of_mem hx
  rw [←h i hi];exact hq i hi
 ·intro hp i hi
  rw [h i hi];exact hp _ (List.getElem_mem hi)
theorem zmM {α β:Type} {xs:List α} {body:Int→Option (Int ⊕ Option β)} (p:α→Bool) (b:β) (fin:Option β)
  (hs: ∀(i:Nat) (hi:i<xs.length),body i=some (if p xs[i]=true then .inl ((i+1:Nat):Int)else .inr (some b))) (he:body xs.length=some (.inr fin)):zat body 0=if xs.all p=true then fin else some b:=by
 rw [ziY (n:=xs.length) (fun i=>match xs[i]? with|some x=>p x|none=>true) b fin (fun i hi=>by rw [hs i hi];simp [hi]) he,
  zuY xs p _ fun i hi=>by simp [hi]]
theorem zyQ {s more:Str} (h1:s.length≤2000000) (h2:more.length≤2000000):zej s more=some (zhU s more):=by
 unfold zej
 rw [zmM (xs:=s) (fun b=>ze2 b||more.contains b) false (some true) ?_ (by simp [zgv])]
 ·unfold zhU
  cases(s.all fun b=>ze2 b||more.contains b)<;>rfl
 ·intro i hi
  have hin:zat (fun t:Bool × Int=>zdB more i s[i] t.1 t.2) (ze2 s[i],0)=some (if(ze2 s[i]||more.contains s[i])=true then .inl ((i+1:Nat):Int)else .inr (some false)):=by
   have hl:=zkA (xs:=more) (body:=fun t:Bool × Int=>zdB more i s[i] t.1 t.2) (fun k (ok:Bool)=>(ok,k)) (fun b ok=>some (.inl (ok||s[i]==b))) (fun ok=>zgN i ok)
    (fun k hk ok=>by
     simp only [zdB,Int.ofNat_lt,hk,decide_true,if_true,zam hk,Option.bind_some,zd5 hk (by omega:more.length≤_),zD4,zrI]
     cases ok<;>simp) (fun ok=>by simp [zdB]) (ze2 s[i])
   rw [zAj (fun ok b=>ok||s[i]==b) (fun _=>True) (fun _ _ _ _=>trivial) (fun _ _ _ _=>rfl) trivial]at hl
   have hf: ∀(l:Str) (ok:Bool),l.foldl (fun ok b=>ok||s[i]==b) ok=(ok||l.contains s[i]):=by
    intro l
    induction l with
    |nil=>intro ok;simp
    |cons c l ih=>intro ok;rw [List.foldl_cons,ih,List.contains_cons,Bool.or_assoc]
   rw [hl,hf]
   unfold zgN
   rw [zd5 hi (by omega)]
   cases(ze2 s[i]||more.contains s[i])<;>rfl
  simp only [zgv,Int.ofNat_lt,hi,decide_true,if_true,zam hi,Option.bind_some]
  exact hin
theorem zsZ (l:Str) (c:UInt8):decide (Lib.indexByte l c<0)= !l.contains c:=by
 induction l with
 |nil=>rfl
 |cons b l ih=>
  unfold Lib.indexByte
  have hge:=Lib.indexByte_ge l c
  rw [List.contains_cons]
  by_cases hb:b=c
  ·subst hb;simp
  ·have h1:(b==c)=false:=by simpa using hb
   have h2:(c==b)=false:=by simpa using fun h=>hb h.symm
   rw [h1,h2]
   simp only [Bool.false_eq_true,if_false,Bool.false_or]
   rw [←ih]
   by_cases hm:Lib.indexByte l c= -1
   ·simp [hm]
   ·have h3:(Lib.indexByte l c== -1)=false:=by simpa using hm
    rw [h3]
    simp only [Bool.false_eq_true,if_false]
    rw [decide_eq_decide]
    omega
theorem znY {s more:Str} (h1:s.length≤2000000):zdC s more=some (zhU s more):=by
 unfold zdC
 rw [zmM (xs:=s) (fun b=>ze2 b||more.contains b) false (some true) ?_ (by simp [zfT])]
 ·unfold zhU
  cases(s.all fun b=>ze2 b||more.contains b)<;>rfl
 ·intro i hi
  have hu:((s[i].toNat:Int)).toNat.toUInt8=s[i]:=by simp
  simp only [zfT,Int.ofNat_lt,hi,decide_true,if_true,zam hi,Option.bind_some,zeK,zfF,zbf,hu,zsZ,zd5 hi (by omega:s.length≤_)]
  rw [show((decide ((s[i].toNat:Int)≥97)&&decide ((s[i].toNat:Int)≤122))||(decide ((s[i].toNat:Int)≥48)&&decide ((s[i].toNat:Int)≤57)))=ze2 s[i]from rfl]
  cases ze2 s[i]<;>cases more.contains s[i]<;>rfl
def goodKey (s:Str):Bool:=inB s.length 1 12&&zhU s [46,47]
def zgf (s:Str):Bool:=decide ((s.length:Int)≤24)&&zhU s [46,45,44,95]
theorem zEp {s:Str} (h:s.length≤2000000):zfa s=some (goodKey s):=by
 simp only [zfa,zfX,Option.bind_some,znY h,goodKey]
 cases inB s.length 1 12<;>simp
theorem zDH {s:Str} (h:s.length≤2000000):zgS s=some (zgf s):=by
 simp only [zgS,Option.bind_some,znY h,zgf]
 by_cases hl:(s.length:Int)≤24<;>simp [hl]
def zkM (v:Str) (gone:Bool):Bool:=zgf v&&(!gone||v== [])
theorem zyL {v:Str} {gone:Bool} (h:v.length≤2000000):zfZ v gone=some (zkM v gone):=by
 simp only [zfZ,zDH h,Option.bind_some,zkM,bne]
 cases zgf v<;>cases gone<;>cases(v== [])<;>rfl
def zie (ks:List Str) (i:Nat):Bool:=i==0||Op.bytesLess ((ks[i-1]?).getD []) ((ks[i]?).getD [])
def znz (ks:List Str):Bool:=(List.range ks.length).all (zie ks)
theorem ztI: ∀(a b:Str),(Op.bytesLess a b||a==b)= !Op.bytesLess b a
 | [], []=>rfl
 | [],_::_=>rfl
 |_::_, []=>rfl
 |x::a,y::b=>by
  have ih:=ztI a b
  simp only [Op.bytesLess]
  rcases Nat.lt_trichotomy x.toNat y.toNat with h|h|h
  ·have h1:x<y:=UInt8.lt_iff_toNat_lt.2 h
   have h2: ¬y<x:=fun h'=>by have:=UInt8.lt_iff_toNat_lt.1 h';omega
   have h3: ¬y=x:=fun h'=>by subst h';omega
   simp [h1,h2,h3]
  ·have h0:x=y:=UInt8.toNat_inj.1 h
   subst h0
   have h1: ¬x<x:=fun h'=>by have:=UInt8.lt_iff_toNat_lt.1 h';omega
   rw [show((x::a)==(x::b))=(a==b) by simp]
   simp only [h1,decide_false,Bool.false_or,beq_self_eq_true,Bool.true_and]
   exact ih
  ·have h1: ¬x<y:=fun h'=>by have:=UInt8.lt_iff_toNat_lt.1 h';omega
   have h2:y<x:=UInt8.lt_iff_toNat_lt.2 h
   have h3: ¬x=y:=fun h'=>by subst h';omega
   simp [h1,h2,h3]
theorem zvR {i:Nat} (h0:0<i) (h:i≤2000000):IntKind.i64.wrap ((i:Int)-1)=((i-1:Nat):Int):=by
 rw [zaJ (by omega) (by omega)];omega
theorem zC0 {α:Type} (xs:List α) (p:α→Bool) (q r:Nat→Bool) (h: ∀(i:Nat) (hi:i<xs.length),r i=(p xs[i]&&q i)):(List.range xs.length).all r=(xs.all p&&(List.range xs.length).all q):=by
 rw [←zuY xs p (fun i=>match xs[i]? with|some x=>p x|none=>true) fun i hi=>by simp [hi]]
 rw [Bool.eq_iff_iff]
 simp only [Bool.and_eq_true,List.all_eq_true,List.mem_range]
 constructor
 ·intro hr
  exact⟨fun i hi=>by have:=hr i hi;rw [h i hi,Bool.and_eq_true]at this;simpa [hi]using this.1,fun i hi=>by have:=hr i hi;rw [h i hi,Bool.and_eq_true]at this;exact this.2⟩
 ·rintro⟨h1,h2⟩ i hi
  rw [h i hi,Bool.and_eq_true]
  exact⟨by have:=h1 i hi;simpa [hi]using this,h2 i hi⟩
theorem zvr {ks:List Str} (h:ks.length≤2000000) (hk: ∀k∈ks,k.length≤2000000):zfu ks=some (ks.all goodKey&&znz ks):=by
 unfold zfu znz
 rw [ziY (n:=ks.length) (fun i=>goodKey ((ks[i]?).getD [])&&zie ks i) false (some true) ?_ (by simp [zfA]),zC0 ks goodKey (zie ks) _ fun i hi=>by simp [hi]]
 ·cases(ks.all goodKey&&(List.range ks.length).all (zie ks))<;>rfl
 ·intro i hi
  simp only [zfA,Int.ofNat_lt,hi,decide_true,if_true,zam hi,Option.bind_some,zEp (hk _ (List.getElem_mem hi)),zd5 hi (by omega:ks.length≤_),List.getElem?_eq_getElem hi,Option.getD_some,zie]
  by_cases h0:i=0
  ·subst h0
   cases goodKey ks[0]<;>simp
  ·have hp:(i:Int)>0:=by omega
   have hi1:i-1<ks.length:=by omega
   have hb:(i==0)=false:=by simpa using h0
   simp only [hp,decide_true,if_true,zvR (Nat.pos_of_ne_zero h0) (by omega:i≤2000000),zam hi1,Option.bind_some,ztI,List.getElem?_eq_getElem hi1,Option.getD_some,hb,Bool.false_or]
   cases goodKey ks[i]<;>cases Op.bytesLess ks[i-1] ks[i]<;>rfl
theorem zvV {l:List zaa} (h:l.length≤2000000):zfo l=some (l.map (·.fKey)):=by
 have h1:=zdx (xs:=l) (body:=fun s:Int × List Str=>zcd l s.1 s.2) (fun i (o:List Str)=>(i,o)) (fun o w=>o++ [w.fKey]) (fun o=>some o) (fun q o=>o.length=q)
  (fun i hi o hI=>by
   refine⟨?_,by simp [hI]⟩
   show zcd l i o=_
   unfold zcd
   have hr:((o.length:Int)+(([l[i].fKey]:List Str).length:Int))*16≤140737488355328∧(o.length:Int)+(([l[i].fKey]:List Str).length:Int)≤140737488355328:=by
    rw [List.length_singleton,hI];omega
   rw [if_pos (by simpa using hi),zam hi,Option.bind_some,zai hr,zd5 hi (by omega)]) (fun o _=>by
   show zcd l l.length o=_
   unfold zcd
   rw [if_neg (by simp)]) (s:= []) rfl
 have hf: ∀(l:List zaa) (o:List Str),l.foldl (fun o w=>o++ [w.fKey]) o=o++l.map (·.fKey):=by
  intro l
  induction l with
  |nil=>intro o;simp
  |cons w l ih=>intro o;rw [List.foldl_cons,ih];simp
 have h2:=h1.1
 rw [hf,List.nil_append]at h2
 unfold zfo
 exact h2
def zhc (w:zaa):Bool:=goodKey w.fKey&&zkM w.fVal w.fGone
def zeO (l:List zaa):Bool:=decide ((l.length:Int)≤24)&&(l.all zhc&&znz (l.map (·.fKey)))
def zmR (l:List zaa):Prop:=l.length≤2000000∧ ∀w∈l,w.fKey.length≤2000000∧w.fVal.length≤2000000
theorem zzy {l:List zaa} (h:zmR l):zeN l=some (zeO l):=by
 have e1:zaw l (fun y0_=>zdP y0_)=some (l.any fun w=> !zkM w.fVal w.fGone):=znQ _ (fun w hw=>by simp [zdP,zyL (h.2 w hw).2]) (by have:=h.1;omega)
 have e2:=zvr (ks:=l.map (·.fKey)) (by simpa using h.1) (by simp only [List.mem_map];rintro k ⟨w,hw,rfl⟩;exact(h.2 w hw).1)
 simp only [zeN,zvV h.1,e1,e2,Option.bind_some,zeO,←List.not_all_eq_any_not]
 have e3:l.all zhc=((l.map (·.fKey)).all goodKey&&l.all fun w=>zkM w.fVal w.fGone):=by
  rw [Bool.eq_iff_iff]
  simp only [List.all_eq_true,Bool.and_eq_true,zhc,List.mem_map]
  constructor
  ·intro h;exact⟨by rintro k ⟨w,hw,rfl⟩;exact(h w hw).1,fun w hw=>(h w hw).2⟩
  ·rintro⟨h1,h2⟩ w hw;exact⟨h1 _ ⟨w,hw,rfl⟩,h2 w hw⟩
 rw [e3]
 generalize (l.map (·.fKey)).all goodKey=b1
 generalize znz (l.map (·.fKey))=b2
 generalize (l.all fun w=>zkM w.fVal w.fGone)=b3
 by_cases hl:(l.length:Int)≤24<;>cases b1<;>cases b2<;>cases b3<;>simp [hl]
def zbT (l:List zaa):Bool:=zeO l&&l.all fun w=> !w.fGone
theorem zyF {l:List zaa} (h:zmR l):zeY l=some (zbT l):=by
 have e1:zaw l (fun y0_=>zf7 y0_)=some (l.any fun w=> !!w.fGone):=znQ _ (fun w hw=>by simp [zf7]) (by have:=h.1;omega)
 simp only [zeY,zzy h,e1,Option.bind_some,zbT,←List.not_all_eq_any_not]
 cases zeO l<;>simp
end Go.Proofs.YtbmbkgalkfmjdaaGreatDoor
end
section
namespace Go.Proofs.YtbmbkgalkfmjdaaGreatDoor
open Go.RowKit
def zcn (c:zaG):Bool:=inB c.fOff (-5) 5
@[simp] theorem zoH (c:zaG):zed c=some (zcn c):=rfl
@[simp] theorem zoE (c:zaG):zee c=some (zcn c):=rfl
def zeI (ver:Int) (l:za1):Bool:=inB l.fVer 0 ver&&inB l.fUntil 0 1020
def ze9 (r:zah):Bool:=inB r.fNow 0 1000&&zcn r.fMaster&&(r.fClocks.all zcn&&inB r.fClocks.length 1 3)&&inB r.fVer 0 20&&((r.fLeases.length:Int)==r.fClocks.length)&&r.fLeases.all (zeI r.fVer)
structure zjk (r:zah):Prop where
 now0:0≤r.fNow
 now1:r.fNow≤1000
 m0: -5≤r.fMaster.fOff
 m1:r.fMaster.fOff≤5
 cl: ∀c∈r.fClocks, -5≤c.fOff∧c.fOff≤5
 n0:1≤r.fClocks.length
 n1:r.fClocks.length≤3
 v0:0≤r.fVer
 v1:r.fVer≤20
 len:r.fLeases.length=r.fClocks.length
 ls: ∀l∈r.fLeases,0≤l.fVer∧l.fVer≤r.fVer∧0≤l.fUntil∧l.fUntil≤1020
theorem zhA {r:zah}:ze9 r=true↔zjk r:=by
 simp only [ze9,zcn,zeI,Bool.and_eq_true,za3,List.all_eq_true,beq_iff_eq]
 constructor
 ·rintro⟨⟨⟨⟨⟨a,b⟩,c,d⟩,e⟩,f⟩,g⟩
  exact⟨a.1,a.2,b.1,b.2,c,by omega,by omega,e.1,e.2,by omega,fun l hl=>⟨(g l hl).1.1,(g l hl).1.2,(g l hl).2.1,(g l hl).2.2⟩⟩
 ·intro h
  exact⟨⟨⟨⟨⟨⟨h.now0,h.now1⟩,h.m0,h.m1⟩,h.cl,by have:=h.n0;omega,by have:=h.n1;omega⟩,h.v0,h.v1⟩,by have:=h.len;omega⟩,fun l hl=>⟨⟨(h.ls l hl).1,(h.ls l hl).2.1⟩,(h.ls l hl).2.2⟩⟩
theorem zzb {cs:List zaG} (h:cs.length≤2000000):zfs cs=some (cs.all zcn&&inB cs.length 1 3):=by
 have h1:=zkA (xs:=cs) (body:=fun s:Int=>zdU cs s) (fun i (_:Unit)=>i) (fun x _=>some (if zcn x=true then .inl ()else .inr (some false))) (fun _=>zfC cs)
  (fun i hi s=>by simp only [zdU];simp [hi,zam hi,zd5 hi (by omega:cs.length≤_)];cases zcn cs[i]<;>simp [zrI]) (fun s=>by simp [zdU]) ()
 rw [zsF zcn false fun x _ s=>rfl]at h1
 unfold zfs
 rw [h1]
 simp only [zfC,zmO,Option.bind_some]
 cases cs.all zcn<;>simp
theorem zyf {r:zah} (h:r.fLeases.length≤2000000):zat (fun s:Int=>zcR r s) 0=some (r.fLeases.all (zeI r.fVer)):=by
 have h1:=zkA (xs:=r.fLeases) (body:=fun s:Int=>zcR r s) (fun i (_:Unit)=>i) (fun x _=>some (if zeI r.fVer x=true then .inl ()else .inr (some false))) (fun _=>some true)
  (fun i hi s=>by simp only [zcR,zeI];simp [hi,zam hi,zd5 hi (by omega:r.fLeases.length≤_)];cases inB r.fLeases[i].fVer 0 r.fVer<;>cases inB r.fLeases[i].fUntil 0 1020<;>simp [zrI]) (fun s=>by simp [zcR]) ()
 rw [zsF (zeI r.fVer) false fun x _ s=>rfl]at h1
 rw [h1]
 cases r.fLeases.all (zeI r.fVer)<;>simp
theorem zuZ {r:zah} (h1:r.fClocks.length≤2000000) (h2:r.fLeases.length≤2000000):zft r=some (ze9 r):=by
 simp only [zft,zmO,zoH,zzb h1,Option.bind_some,zyf h2,ze9,bne]
 generalize r.fLeases.all (zeI r.fVer)=b1
 generalize ((r.fLeases.length:Int)==r.fClocks.length)=b2
 generalize inB r.fVer 0 20=b3
 generalize (r.fClocks.all zcn&&inB r.fClocks.length 1 3)=b4
 cases inB r.fNow 0 1000<;>cases zcn r.fMaster<;>cases b4<;>cases b3<;>cases b2<;>simp
theorem zoC {r:zah} (h1:r.fClocks.length≤2000000) (h2:r.fLeases.length≤2000000):zeg r=some (ze9 r):=by
 have e1:zaw r.fClocks (fun y0=>zge y0)=some (r.fClocks.any fun c=> !zcn c):=znQ _ (fun x _=>rfl) (by omega)
 have e2:zaw r.fLeases (fun y0=>zes y0 r)=some (r.fLeases.any fun l=> !zeI r.fVer l):=znQ _ (fun x _=>by
  simp only [zes,zfX,Option.bind_some,zeI]
  cases inB x.fVer 0 r.fVer<;>simp) (by omega)
 simp only [zeg,zfX,zoE,Option.bind_some,e1,e2,ze9,←List.not_all_eq_any_not]
 generalize r.fLeases.all (zeI r.fVer)=b1
 generalize ((r.fLeases.length:Int)==r.fClocks.length)=b2
 generalize inB r.fVer 0 20=b3
 generalize r.fClocks.all zcn=b4
 generalize inB r.fClocks.length 1 3=b5
 cases inB r.fNow 0 1000<;>cases zcn r.fMaster<;>cases b5<;>cases b4<;>cases b3<;>cases b2<;>simp
def zij (r:zah) (a:zal):Bool:=
 if(a.fKind==1)=true then a.fWho==0&&inB a.fBy 1 50
 else if(a.fKind==2)=true then inB a.fWho 0 r.fClocks.length&&zcn ⟨a.fBy⟩
 else if(a.fKind==3)=true then inB a.fWho 0 (IntKind.i64.wrap ((r.fClocks.length:Int)-1))&&a.fBy==0
 else if(a.fKind==4)=true then a.fWho==0&&a.fBy==0
 else false
theorem zyy (r:zah) (a:zal):zgO r a=some (zij r a):=by
 simp only [zgO,zij,zmO,zoH,Option.bind_some]
 repeat' split
 all_goals simp_all
theorem zyV (r:zah) (a:zal):zce r a=some (zij r a):=by
 simp only [zce,zij,zfX,zoE,Option.bind_some]
 repeat' split
 all_goals simp_all
def zrd (r:zah):Int:=r.fNow+r.fMaster.fOff-5
def zll (r:zah):Bool:=decide (r.fVer<20)&&r.fLeases.all fun l=> !(l.fVer !=r.fVer&&decide (l.fUntil≥zrd r))
def doN (r:zah) (a:zal):zah × Bool:=
 if a.fKind=1 then(if r.fNow+a.fBy≤1000 then(⟨r.fNow+a.fBy,r.fMaster,r.fClocks,r.fVer,r.fLeases⟩,true)else(r,false))
 else if a.fKind=2 then(if a.fWho=0 then(⟨r.fNow,⟨a.fBy⟩,r.fClocks,r.fVer,r.fLeases⟩,true)else(⟨r.fNow,r.fMaster,r.fClocks.set (a.fWho-1).toNat ⟨a.fBy⟩,r.fVer,r.fLeases⟩,true))
 else if a.fKind=3 then(if 0≤zrd r then(⟨r.fNow,r.fMaster,r.fClocks,r.fVer,r.fLeases.set a.fWho.toNat ⟨r.fVer,zrd r+20⟩⟩,true)else(r,false))
 else(if zll r=true then(⟨r.fNow,r.fMaster,r.fClocks,r.fVer+1,r.fLeases⟩,true)else(r,false))
theorem zid {r:zah} {a:zal} (hg:zjk r) (h:zij r a=true):(a.fKind=1∧a.fWho=0∧1≤a.fBy∧a.fBy≤50)∨(a.fKind=2∧0≤a.fWho∧a.fWho≤r.fClocks.length∧ -5≤a.fBy∧a.fBy≤5)∨(a.fKind=3∧0≤a.fWho∧a.fWho≤(r.fClocks.length:Int)-1)∨a.fKind=4:=by
 have w:=zaJ (n:=(r.fClocks.length:Int)-1) (by have:=hg.n0;omega) (by have:=hg.n1;omega)
 unfold zij at h
 rw [w]at h
 simp only [beq_iff_eq,zcn]at h
 split at h
 ·simp [za3]at h;omega
 ·split at h
  ·simp [za3]at h;omega
  ·split at h
   ·simp [za3]at h;omega
   ·split at h
    ·omega
    ·cases h
theorem zE2 {r:zah} (hg:zjk r):IntKind.i64.wrap ((IntKind.i64.wrap (r.fNow+r.fMaster.fOff))-5)=zrd r:=by
 have:=hg.now0;have:=hg.now1;have:=hg.m0;have:=hg.m1
 rw [zaJ (n:=r.fNow+r.fMaster.fOff) (by omega) (by omega),zaJ (by omega) (by omega)];rfl
theorem zCk {r:zah} (hg:zjk r):zfS r=some (zll r):=by
 have hn:r.fLeases.length≤9223372036854775807:=by have:=hg.len;have:=hg.n1;omega
 have h1:=zkA (xs:=r.fLeases) (body:=fun s:Int=>zeu r s) (fun i (_:Unit)=>i) (fun l _=>some (if(!(l.fVer !=r.fVer&&decide (l.fUntil≥zrd r)))=true then .inl ()else .inr (some false))) (fun _=>zgk r)
  (fun i hi s=>by
   simp only [zeu,zgh,zE2 hg,Option.bind_some,bne];simp only [hi,zam hi,zd5 hi hn,Int.ofNat_lt,decide_true,if_true,Option.bind_some]
   by_cases hv:r.fLeases[i].fVer=r.fVer<;>by_cases hu:r.fLeases[i].fUntil≥zrd r<;>simp [zrI,hv,hu]) (fun s=>by simp [zeu]) ()
 rw [zsF (fun l:za1=>(!(l.fVer !=r.fVer&&decide (l.fUntil≥zrd r)))) false fun x _ s=>rfl]at h1
 unfold zfS
 rw [h1]
 unfold zll zgk
 cases(r.fLeases.all fun l=> !(l.fVer !=r.fVer&&decide (l.fUntil≥zrd r)))<;>simp
theorem zD8 {r:zah} {a:zal} (hg:zjk r) (h:zij r a=true):zib r a=some (doN r a):=by
 have:=hg.now0;have:=hg.now1;have:=hg.m0;have:=hg.m1;have:=hg.n1;have:=hg.v0;have:=hg.v1;have hl:=hg.len
 unfold zib doN
 rcases zid hg h with⟨hk,h1,h2,h3⟩|⟨hk,h1,h2,h3,h4⟩|⟨hk,h1,h2⟩|hk
 ·have w:=zaJ (n:=r.fNow+a.fBy) (by omega) (by omega)
  simp only [hk,w]
  by_cases hc:r.fNow+a.fBy≤1000
  ·have: ¬r.fNow+a.fBy>1000:=by omega
   simp [hc,this]
  ·have:r.fNow+a.fBy>1000:=by omega
   simp [hc,this]
 ·simp only [hk]
  by_cases hw:a.fWho=0
  ·simp [hw]
  ·have w:=zaJ (n:=a.fWho-1) (by omega) (by omega)
   obtain⟨x,hx,_,_⟩:=zgK (xs:=r.fClocks) (i:=a.fWho-1) (by omega) (by omega)
   simp [hw,w,hx]
 ·obtain⟨x,hx,_,_⟩:=zgK (xs:=r.fLeases) (i:=a.fWho) (by omega) (by omega)
  simp only [hk,zgh,zE2 hg,Option.bind_some,hx]
  by_cases hc:0≤zrd r
  ·have hc': ¬zrd r<0:=by omega
   have w:=zaJ (n:=zrd r+20) (by omega) (by unfold zrd;omega)
   simp [hc,hc',w]
  ·have hc':zrd r<0:=by omega
   simp [hc,hc']
 ·have w:=zaJ (n:=r.fVer+1) (by omega) (by omega)
  simp only [hk,zCk hg,Option.bind_some,w]
  cases zll r<;>simp
theorem zEe {r:zah} {a:zal} (hg:zjk r) (h:zij r a=true):zds r a=some ((doN r a).2,(doN r a).1):=by
 have:=hg.now0;have:=hg.now1;have:=hg.m0;have:=hg.m1;have:=hg.n1;have:=hg.v0;have:=hg.v1;have hl:=hg.len
 unfold zds doN
 simp only [zc0,Option.bind_some,zE2 hg]
 rcases zid hg h with⟨hk,h1,h2,h3⟩|⟨hk,h1,h2,h3,h4⟩|⟨hk,h1,h2⟩|hk
 ·have w:=zaJ (n:=r.fNow+a.fBy) (by omega) (by omega)
  simp only [hk,w]
  by_cases hc:r.fNow+a.fBy≤1000
  ·simp [hc]
  ·simp [hc]
 ·simp only [hk]
  by_cases hw:a.fWho=0
  ·simp [hw]
  ·have w:=zaJ (n:=a.fWho-1) (by omega) (by omega)
   obtain⟨x,hx,_,_⟩:=zgK (xs:=r.fClocks) (i:=a.fWho-1) (by omega) (by omega)
   simp [hw,w,hx]
 ·obtain⟨x,hx,_,_⟩:=zgK (xs:=r.fLeases) (i:=a.fWho) (by omega) (by omega)
  simp only [hk,hx]
  by_cases hc:0≤zrd r
  ·have w:=zaJ (n:=zrd r+20) (by omega) (by unfold zrd;omega)
   simp [hc,w]
  ·simp [hc]
 ·have w:=zaJ (n:=r.fVer+1) (by omega) (by omega)
  have e:zaw r.fLeases (fun y0=>zc2 y0 r (zrd r))=some (r.fLeases.any fun l=> !!(l.fVer !=r.fVer&&decide (l.fUntil≥zrd r))):=znQ _ (fun x _=>by simp [zc2]) (by omega)
  simp only [hk,e,Option.bind_some,w,zll,←List.not_all_eq_any_not]
  by_cases hx:(r.fLeases.all fun l=> !(l.fVer !=r.fVer&&decide (l.fUntil≥zrd r)))=true<;>by_cases hv:r.fVer<20<;>simp only [hx,hv]<;>simp
def noR:zah:=⟨0,⟨0⟩, [],0, []⟩
def zC4 (r:zah) (a:zal):zah × Bool × Bool:=if ze9 r&&zij r a then((doN r a).1,(doN r a).2,true)else(noR,false,false)
theorem zFl {r:zah} (h1:r.fClocks.length≤2000000) (h2:r.fLeases.length≤2000000):zhE r=some r:=by
 unfold zhE
 rw [zai (by simp;omega),zai (by simp;omega)]
theorem zDG {r:zah} (h1:r.fClocks.length≤2000000) (h2:r.fLeases.length≤2000000):zfp r=some r:=by
 unfold zfp zbl za6
 rw [zlh (by omega) (by omega),zlh (by omega) (by omega)];rfl
theorem zv6 {r:zah} (a:zal) (h1:r.fClocks.length≤2000000) (h2:r.fLeases.length≤2000000):zd2 r a=some (ze9 r&&zij r a):=by
 simp only [zd2,zoC h1 h2,Option.bind_some,zyV]
 cases ze9 r<;>simp
theorem zAg {r:zah} (a:zal) (h1:r.fClocks.length≤2000000) (h2:r.fLeases.length≤2000000):zfl r a=some (zC4 r a):=by
 simp only [zfl,zv6 a h1 h2,Option.bind_some,zC4,zDG h1 h2]
 cases hg:ze9 r<;>cases ha:zij r a<;>simp [noR]
 rw [zEe (zhA.1 hg) ha];rfl
def sound (r:zah):Bool:=r.fLeases.all fun l=> !(decide (l.fVer<r.fVer-1)&&decide (l.fUntil≥r.fNow))
theorem zkY {r:zah}:sound r=true↔ ∀l∈r.fLeases,l.fVer<r.fVer-1→l.fUntil<r.fNow:=by
 simp only [sound,List.all_eq_true,Bool.not_eq_true',Bool.and_eq_false_iff,decide_eq_false_iff_not]
 exact⟨fun h l hl hv=>by have:=h l hl;omega,fun h l hl=>by have:=h l hl;omega⟩
theorem zym {r:zah} {a:zal} (hg:zjk r) (h:zij r a=true):zjk (doN r a).1∧r.fNow≤(doN r a).1.fNow∧r.fVer≤(doN r a).1.fVer∧(sound r=true→sound (doN r a).1=true):=by
 have same:zjk r∧r.fNow≤r.fNow∧r.fVer≤r.fVer∧(sound r=true→sound r=true):=⟨hg,Int.le_refl _,Int.le_refl _,id⟩
 obtain⟨now0,now1,m0,m1,cl,n0,n1,v0,v1,len,ls⟩:=hg
 have hg:zjk r:=⟨now0,now1,m0,m1,cl,n0,n1,v0,v1,len,ls⟩
 unfold doN
 rcases zid hg h with⟨hk,h1,h2,h3⟩|⟨hk,h1,h2,h3,h4⟩|⟨hk,h1,h2⟩|hk
 ·rw [if_pos hk]
  split
  ·refine⟨⟨by dsimp only;omega,‹_›,m0,m1,cl,n0,n1,v0,v1,len,ls⟩,by dsimp only;omega,Int.le_refl _,fun hs=> ?_⟩
   rw [zkY]at hs ⊢
   intro l hl hv
   have:=hs l hl hv
   show l.fUntil<r.fNow+a.fBy
   omega
  ·exact same
 ·rw [if_neg (by omega),if_pos hk]
  split
  ·exact⟨⟨now0,now1,h3,h4,cl,n0,n1,v0,v1,len,ls⟩,Int.le_refl _,Int.le_refl _,id⟩
  ·refine⟨⟨now0,now1,m0,m1,fun c hc=> ?_,by simpa using n0,by simpa using n1,v0,v1,by simpa using len,ls⟩,Int.le_refl _,Int.le_refl _,id⟩
   rcases List.mem_or_eq_of_mem_set hc with hc|rfl
   ·exact cl c hc
   ·exact⟨h3,h4⟩
 ·rw [if_neg (by omega),if_neg (by omega),if_pos hk]
  split
  ·rename_i hlow
   have hle:zrd r≤1000:=by unfold zrd;omega
   refine⟨⟨now0,now1,m0,m1,cl,n0,n1,v0,v1,by simpa using len,fun l hl=> ?_⟩,Int.le_refl _,Int.le_refl _,fun hs=> ?_⟩
   ·rcases List.mem_or_eq_of_mem_set hl with hl|rfl
    ·exact ls l hl
    ·exact⟨v0,Int.le_refl _,by dsimp only;omega,by dsimp only;omega⟩
   ·rw [zkY]at hs ⊢
    intro l hl hv
    rcases List.mem_or_eq_of_mem_set hl with hl|rfl
    ·exact hs l hl hv
    ·dsimp only at hv;omega
  ·exact same
 ·rw [if_neg (by omega),if_neg (by omega),if_neg (by omega)]
  split
  ·rename_i hr
   simp only [zll,Bool.and_eq_true,decide_eq_true_eq,List.all_eq_true,Bool.not_eq_true',Bool.and_eq_false_iff,bne_eq_false_iff_eq,decide_eq_false_iff_not]at hr
   refine⟨⟨now0,now1,m0,m1,cl,n0,n1,by dsimp only;omega,by dsimp only;omega,len,fun l hl=> ?_⟩,Int.le_refl _,by dsimp only;omega,fun _=> ?_⟩
   ·have:=ls l hl;dsimp only;omega
   ·rw [zkY]
    intro l hl hv
    dsimp only at hv ⊢
    have:=hr.2 l hl
    unfold zrd at this
    omega
  ·exact same
end Go.Proofs.YtbmbkgalkfmjdaaGreatDoor
end
section
namespace Go.Proofs.YtbmbkgalkfmjdaaGreatDoor
open Go.RowKit
set_option maxRecDepth 100000
def zpp (n:Nat):zah:=⟨0,⟨0⟩,List.replicate n ⟨0⟩,0,List.replicate n ⟨0,0⟩⟩
theorem zD2 (n:Nat) (h1:1≤n) (h2:n≤3):zf9 n=some (zpp n,true):=by
 unfold zf9
 have:inB (n:Int) 1 3=true:=by rw [za3];omega
 simp only [zmO,Option.bind_some,this]
 simp only [Bool.not_true,Bool.false_eq_true,if_false]
 rw [zai (by omega),zai (by omega)];simp [zpp]
theorem zDy (n:Nat) (h1:1≤n) (h2:n≤3):zf5 n=some (zpp n,true):=by
 unfold zf5
 have:inB (n:Int) 1 3=true:=by rw [za3];omega
 simp only [zfX,Option.bind_some,this]
 simp only [Bool.not_true,Bool.false_eq_true,if_false]
 rw [zai (by omega),zai (by omega)];simp [zpp]
theorem zt5 {n:Nat} (h1:1≤n) (h2:n≤3):zjk (zpp n):=
 ⟨by simp [zpp],by simp [zpp],by simp [zpp],by simp [zpp],fun c hc=>by simp only [zpp,List.mem_replicate]at hc;simp [hc.2],by simpa [zpp]using h1,by simpa [zpp]using h2,by simp [zpp],by simp [zpp],by simp [zpp],
  fun l hl=>by simp only [zpp,List.mem_replicate]at hl;simp [hl.2,zpp]⟩
theorem zxK (n:Nat):sound (zpp n)=true:=by
 rw [zkY]
 intro l hl hv
 simp only [zpp,List.mem_replicate]at hl hv
 simp [hl.2]at hv
theorem zvU {c:zaf} {k:Int} (r:zah) (h:okC c k) (hk:k≤4611686018427380000) (hr:r.fClocks.length≤1000):zb3 (zcu c r) fun p=>okC p.2 (k+6):=by
 have key: ∀(v:Int × zaf) (b:Bool),okC v.2 (k+2)→zb3 (zcT r v b) fun p=>okC p.2 (k+6):=by
  intro v b hv
  unfold zcT
  refine .ite (fun _=> ?_) fun _=> .ite (fun _=> ?_) fun _=> .ite (fun _=> .ite (fun _=> ?_) fun _=> .ret (hv.up (by omega))) fun _=> .ite (fun _=> ?_) fun _=> .ret (hv.up (by omega))
  ·exact(zk3 _ (by simp) hv (by omega)).bind fun p ⟨_,hp⟩=> .ret (hp.up (by omega))
  ·exact(zbz _ hv (by omega)).bind fun p ⟨_,hp⟩=>(zbz _ hp (by omega)).bind fun q ⟨_,hq⟩=> .ret (hq.up (by omega))
  ·exact(zbz _ hv (by omega)).bind fun p ⟨_,hp⟩=> .ret (hp.up (by omega))
  ·exact(zbz _ hv (by omega)).bind fun p ⟨_,hp⟩=> .ret (hp.up (by omega))
 unfold zcu
 refine(zbz 8 h (by omega)).bind fun p ⟨_,hp⟩=> ?_
 cases(p.1==0)with
 |true=>exact key p true hp
 |false=>
  cases(p.1==1)with
  |true=>exact key p true hp
  |false=>exact key p _ hp
theorem zoI {c:zaf} {k:Int} (r:zah) (n:Nat) (hn:n≤40) (h:okC c k) (hk:k≤4611686018427370000) (hr:r.fClocks.length≤1000):zb3 (zby c r n) fun p=>p.1.length≤n∧okC p.2 (k+500):=by
 unfold zby
 rw [zaJ (by omega) (by omega)]
 refine(zbz _ h (by omega)).bind fun p ⟨hp,hc⟩=> ?_
 have hp2:=hp.2.1 (by omega)
 refine zhI (fun m s=>s.2.1=(m:Int)∧(m:Int)+s.1.length≤n∧okC ⟨s.2.2.1,s.2.2.2.1,s.2.2.2.2⟩ (k+2+6*s.1.length)) ?_ (n:=p.1.toNat) ⟨by dsimp only;omega,by simp;omega,by simpa using hc⟩
 rintro m ⟨l,j,c1,c2,c3⟩ ⟨h1,h2,h3⟩
 dsimp only at h1 h2 h3 ⊢
 subst h1
 unfold zeq
 refine .ite (fun hm=> ?_) fun _=> .ret (.ret ⟨by dsimp only;omega,h3.up (by omega)⟩)
 simp only [decide_eq_true_eq]at hm
 refine(zvU r h3 (by omega) hr).bind fun q hq=> .req (by simp;omega) (.ret ⟨m-1,by omega, ?_,by simp;omega,hq.up (by simp;omega)⟩)
 dsimp only
 rw [zaJ (by omega) (by omega)];omega
def zy8 (s:zah × List Bool) (a:zal):zah × List Bool:=if zij s.1 a=true then((doN s.1 a).1,s.2++ [(doN s.1 a).2])else(s.1,s.2++ [false])
def zA6 (r:zah) (l:List zal):zah × List Bool:=l.foldl zy8 (r, [])
def zBs (r:zah) (q:Nat) (s:zah × List Bool):Prop:=zjk s.1∧s.2.length=q∧(sound r=true→sound s.1=true)
theorem zCD {r:zah} {q:Nat} {s:zah × List Bool} (a:zal) (h:zBs r q s):zBs r (q+1) (zy8 s a):=by
 obtain⟨h1,h2,h3⟩:=h
 unfold zy8
 split
 ·rename_i hg
  have:=zym h1 hg
  exact⟨this.1,by simp [h2],fun hs=>this.2.2.2 (h3 hs)⟩
 ·exact⟨h1,by simp [h2],h3⟩
theorem zCc {r:zah} {l:List zal} (hg:zjk r) (hl:l.length≤40):zfk r l=some ((zA6 r l).1,(zA6 r l).2,true)∧zBs r l.length (zA6 r l):=by
 have b1:r.fClocks.length≤2000000:=by have:=hg.n1;omega
 have b2:r.fLeases.length≤2000000:=by have:=hg.n1;have:=hg.len;omega
 have hl': ¬((l.length:Int)>40):=by omega
 simp only [zfk,zuZ b1 b2,zhA.2 hg,Option.bind_some,zFl b1 b2,Bool.not_true,hl',decide_false,Bool.or_self,Bool.false_eq_true,if_false]
 have h1:=zdx (xs:=l) (body:=fun s:List Bool × Int × Int × Int × Int × List zaG × List za1=>zdS l s.1 s.2.1 s.2.2.1 s.2.2.2.1 s.2.2.2.2.1 s.2.2.2.2.2.1 s.2.2.2.2.2.2)
  (fun i (s:zah × List Bool)=>(s.2,i,s.1.fNow,s.1.fMaster.fOff,s.1.fVer,s.1.fClocks,s.1.fLeases)) zy8 (fun s=>some (s.1,s.2,true)) (zBs r)
  (fun i hi s hI=>by
   refine⟨?_,zCD l[i] hI⟩
   have hlen:=hI.2.1
   simp only [zdS,Int.ofNat_lt,hi,decide_true,if_true,zam hi,Option.bind_some,zyy,zd5 hi (by omega:l.length≤_)]
   rw [show(⟨s.1.fNow,⟨s.1.fMaster.fOff⟩,s.1.fClocks,s.1.fVer,s.1.fLeases⟩:zah)=s.1 from rfl]
   unfold zy8
   split
   ·rename_i ha
    rw [zD8 hI.1 ha,Option.bind_some,zai (by rw [List.length_singleton];omega)]
   ·rename_i ha
    rw [zai (by rw [List.length_singleton];omega)]
    simp only [Bool.not_eq_true]at ha
    rw [ha])
  (fun s _=>by simp [zdS]) (s:=(r, [])) ⟨hg,rfl,id⟩
 exact h1
def Sh (r:zah):Prop:=1≤r.fClocks.length∧r.fClocks.length≤3∧1≤r.fLeases.length∧r.fLeases.length≤4
theorem zjk.sh {r:zah} (h:zjk r):Sh r:=⟨h.n0,h.n1,by have:=h.n0;have:=h.len;omega,by have:=h.n1;have:=h.len;omega⟩
theorem zwe {c:zaf} {k:Int} (h:okC c k) (hk:k≤4611686018427300000):zb3 (zck c) fun p=>(Sh p.1∧0≤p.1.fVer∧p.1.fVer≤20∧p.1.fLeases.length≤3)∧okC p.2 (k+1000):=by
 unfold zck
 refine(zbz 3 h (by omega)).bind fun p ⟨hp,hc⟩=> ?_
 have hp2:=hp.2.1 (by omega)
 obtain⟨m,hm⟩:=Int.eq_ofNat_of_zero_le (a:=1+p.1) (by omega)
 rw [zaJ (by omega) (by omega),hm,zD2 m (by omega) (by omega),Option.bind_some]
 have hgN:=zt5 (n:=m) (by omega) (by omega)
 refine(zoI (zpp m) 20 (by omega) hc (by omega) (by have:=hgN.n1;omega)).bind fun q ⟨hq,hd⟩=> ?_
 obtain⟨hp1,hpI⟩:=zCc hgN (l:=q.1) (by omega)
 rw [hp1,Option.bind_some]
 generalize zA6 (zpp m) q.1=w at hpI
 have hsh:=hpI.1.sh
 refine(zlJ 4 hd (by omega)).bind fun u hu=> .ite (fun _=> ?_) fun _=> .ret ⟨⟨hsh,hpI.1.v0,hpI.1.v1,by have:=hpI.1.len;have:=hpI.1.n1;dsimp only;omega⟩,hu.up (by omega)⟩
 refine(zbz _ hu (by omega)).bind fun i ⟨hi,he⟩=> ?_
 refine zb3.bind (P:=fun _=>True) (.getI hi.1 (hi.2.1 (by have:=hsh.2.2.1;show(1:Int)≤(w.1.fLeases.length:Int);omega)) fun _ _=>trivial) fun y _=> ?_
 refine(zk3 _ (by simp) he (by omega)).bind fun t ⟨_,hf⟩=>(zbz _ hf (by omega)).bind fun z ⟨_,hz⟩=> .ret ⟨⟨⟨hsh.1,hsh.2.1,by simpa using hsh.2.2.1,by simpa using hsh.2.2.2⟩,hpI.1.v0,hpI.1.v1,by have:=hpI.1.len;have:=hpI.1.n1;simp;omega⟩,hz.up (by omega)⟩
theorem zCe {c:zaf} {k:Int} (h:okC c k) (hk:k≤4611686018427200000):zb3 (zch c) fun p=>Sh p.1∧okC p.2 (k+2000):=by
 unfold zch
 refine(zwe h (by omega)).bind fun p ⟨⟨hs,_,_,hl3⟩,hc⟩=>(zbz 14 hc (by omega)).bind fun q ⟨_,hd⟩=> ?_
 refine .ite (fun _=> ?_) fun _=> .ite (fun _=> ?_) fun _=> .ite (fun _=> ?_) fun _=> .ite (fun _=> ?_) fun _=> .ite (fun _=> ?_) fun _=> .ret ⟨hs,hd.up (by omega)⟩
 ·exact(zk3 _ (by simp) hd (by omega)).bind fun t ⟨_,ht⟩=> .ret ⟨hs,ht.up (by omega)⟩
 ·exact(zk3 _ (by simp) hd (by omega)).bind fun t ⟨_,ht⟩=> .ret ⟨hs,ht.up (by omega)⟩
 ·refine(zk3 _ (by simp) hd (by omega)).bind fun t ⟨_,ht⟩=>zb3.bind (P:=fun _=>True) (.getI (by omega) (by have:=hs.1;omega) fun _ _=>trivial) fun y _=> .ret ⟨⟨by simpa using hs.1,by simpa using hs.2.1,hs.2.2⟩,ht.up (by omega)⟩
 ·exact .req (by simp;omega) (.ret ⟨⟨hs.1,hs.2.1,by simp,by simpa using hl3⟩,hd.up (by omega)⟩)
 ·refine(zbz 25 hd (by omega)).bind fun u ⟨_,hu⟩=>(zk3 _ (by simp) hu (by omega)).bind fun t ⟨_,ht⟩=>zb3.bind (P:=fun _=>True) (.getI (by omega) (by have:=hs.2.2.1;omega) fun _ _=>trivial) fun y _=> .ret ⟨⟨hs.1,hs.2.1,by simpa using hs.2.2.1,by simpa using hs.2.2.2⟩,ht.up (by omega)⟩
theorem zvn {code:List Int} (h: ∀b∈code,0≤b∧b≤255):zb3 (zdt code) fun p=>Sh p.1∧p.2.length≤41:=by
 have key: ∀(a:List Int) (b c d e f:Int) (g:List zaG) (i:List za1),okC ⟨a,b,c⟩ 10000→Sh ⟨d,⟨e⟩,g,f,i⟩→zb3 (zcF a b c d e f g i) fun p=>Sh p.1∧p.2.length≤41:=by
  intro a b c d e f g i hc hs
  unfold zcF
  refine(zoI _ 40 (by omega) hc (by omega) (by have:=hs.2.1;dsimp only at this ⊢;omega)).bind fun p ⟨hp,hd⟩=>(zlJ 8 hd (by omega)).bind fun u hu=> .ite (fun _=> ?_) fun _=> .ret ⟨hs,by dsimp only;omega⟩
  refine(zbz 6 hu (by omega)).bind fun x ⟨_,hx⟩=>(zbz 5 hx (by omega)).bind fun y ⟨_,hy⟩=>(zbz 5 hy (by omega)).bind fun z ⟨_,hz⟩=> .req (by simp;omega) (.ret ⟨hs,by simp;omega⟩)
 unfold zdt
 refine(zwe (.start h) (by omega)).bind fun p ⟨⟨hs,_⟩,hc⟩=>(zlJ 12 hc (by omega)).bind fun q hq=> .ite (fun _=> ?_) fun _=>key _ _ _ _ _ _ _ _ (hq.up (by omega)) hs
 exact(zCe hq (by omega)).bind fun t ⟨ht,hd⟩=>key _ _ _ _ _ _ _ _ (hd.up (by omega)) ht
end Go.Proofs.YtbmbkgalkfmjdaaGreatDoor
end
section
namespace Go.Proofs.YtbmbkgalkfmjdaaGreatDoor
open Go.RowKit
set_option maxRecDepth 100000
theorem Sh.b1 {r:zah} (h:Sh r):r.fClocks.length≤2000000:=by have:=h.2.1;omega
theorem Sh.b2 {r:zah} (h:Sh r):r.fLeases.length≤2000000:=by have:=h.2.2.2;omega
def zn6 (r:zah) (i:Int):Bool:=match r.fClocks[i.toNat]?,r.fLeases[i.toNat]? with
 |some c,some l=>decide (r.fNow+c.fOff+5<l.fUntil)
 |_,_=>false
end Go.Proofs.YtbmbkgalkfmjdaaGreatDoor
end
section
namespace Go.Proofs.YtbmbkgalkfmjdaaGreatDoor
open Go.RowKit
set_option maxRecDepth 100000
def small (b:UInt8):Bool:= !(decide ((b.toNat:Int)<97)||decide ((b.toNat:Int)>122))
def za8 (s:Str) (n:Int):Bool:=s.all small&&inB s.length 1 n
theorem znP {s:Str} {n:Int} (h:s.length≤2000000):zcJ s n=some (za8 s n):=by
 unfold zcJ
 rw [zmM (xs:=s) small false (ze5 s n) (fun i hi=>by
  simp only [ze3,Int.ofNat_lt,hi,decide_true,if_true,zam hi,Option.bind_some,zd5 hi (by omega:s.length≤_)]
  rw [show(decide ((s[i].toNat:Int)<97)||decide ((s[i].toNat:Int)>122))= !small s[i] by simp [small]]
  cases small s[i]<;>rfl) (by simp [ze3])]
 unfold ze5 za8 inB
 cases s.all small<;>simp
theorem zod {s:Str} {n:Int} (h:s.length≤2000000):zcI s n=some (za8 s n):=by
 unfold zcI
 rw [zmM (xs:=s) small false (ze6 s n) (fun i hi=>by
  simp only [ze7,Int.ofNat_lt,hi,decide_true,if_true,zam hi,Option.bind_some,zd5 hi (by omega:s.length≤_)]
  rw [show(decide ((s[i].toNat:Int)<97)||decide ((s[i].toNat:Int)>122))= !small s[i] by simp [small]]
  cases small s[i]<;>rfl) (by simp [ze7])]
 simp only [ze6,zfX,Option.bind_some,za8]
 cases s.all small<;>simp
theorem zDD {xs:List Str} {s:Str} (h:xs.length≤2000000):zg4 xs s=some (zhw (· ==s) xs):=by
 unfold zg4
 refine zsP (· ==s) (fun i hi=> ?_) (by simp [zhP])
 simp only [zhP,Int.ofNat_lt,hi,decide_true,if_true,zam hi,Option.bind_some,zd5 hi (by omega:xs.length≤_)]
 cases xs[i]==s<;>rfl
theorem zAh {xs:List Str} {s:Str} (h:xs.length≤2000000):zbo xs s=some (zhw (· ==s) xs):=by
 unfold zbo
 refine zsP (· ==s) (fun i hi=> ?_) (by simp [zbL])
 simp only [zbL,Int.ofNat_lt,hi,decide_true,if_true,zam hi,Option.bind_some,zd5 hi (by omega:xs.length≤_)]
 rw [show(s==xs[i])=(xs[i]==s)from BEq.comm]
 cases xs[i]==s<;>rfl
theorem zzL (xs:List Str) (s:Str):(xs.any fun x=>x==s)=xs.contains s:=by
 rw [List.contains_eq_any_beq]
 congr 1
 funext x
 exact BEq.comm
theorem zBD {xs:List Str} {s:Str} (h:xs.length≤2000000):zaL xs s=some (xs.contains s):=by
 simp only [zaL,zAh h,Option.bind_some,zjb,zzL]
def ztR (cs:List Str) (i:Nat):Bool:=za8 ((cs[i]?).getD []) 3&& !(cs.take i).contains ((cs[i]?).getD [])
def zlT (cs:List Str):Bool:=(List.range cs.length).all (ztR cs)
def zl3 (t:zab) (i:Nat):Bool:=
 let x:=(t.fIdxs[i]?).getD ⟨[],0,0⟩
 za8 x.fName 1&&inB x.fCol 1 ((t.fCols.length:Int)-1)&&inB x.fStage 0 3&&(i==0||Op.bytesLess ((t.fIdxs[i-1]?).getD ⟨[],0,0⟩).fName x.fName)
def zad (t:zab):Bool:=za8 t.fName 1&&(zlT t.fCols&&inB t.fCols.length 2 4)&&decide ((t.fIdxs.length:Int)≤3)&&(List.range t.fIdxs.length).all (zl3 t)
structure zcH (t:zab):Prop where
 name:t.fName.length≤2000000
 cols:t.fCols.length≤2000000
 col: ∀c∈t.fCols,c.length≤2000000
 idxs:t.fIdxs.length≤2000000
 idx: ∀x∈t.fIdxs,x.fName.length≤2000000
theorem zCz {α:Type} (xs:List α) (i:Nat):zez xs 0 i=xs.take i:=by simp [zez]
theorem zCS {cs:List Str} (h:cs.length≤2000000) (hc: ∀c∈cs,c.length≤2000000):zgZ cs=some (zlT cs&&inB cs.length 2 4):=by
 unfold zgZ
 rw [ziY (n:=cs.length) (ztR cs) false (zgG cs) ?_ (by simp [zgI])]
 ·simp only [zgG,zmO,Option.bind_some,zlT]
  cases(List.range cs.length).all (ztR cs)<;>simp
 ·intro i hi
  unfold zgI ztR
  rw [if_pos (by simpa using hi),zam hi,Option.bind_some,znP (hc _ (List.getElem_mem hi)),Option.bind_some,zai (by omega),zCz,zDD (by rw [List.length_take];omega),Option.bind_some,zjb,zzL,zd5 hi (by omega)]
  simp only [List.getElem?_eq_getElem hi,Option.getD_some]
  cases za8 cs[i] 3<;>cases(cs.take i).contains cs[i]<;>rfl
theorem zs9 {t:zab} (h:zcH t):zbm t=some (zad t):=by
 have hw:=zaJ (n:=(t.fCols.length:Int)-1) (by omega) (by have:=h.cols;omega)
 have hn:=h.idxs
 have hl:zat (fun s:Int=>zdR t s) 0=some ((List.range t.fIdxs.length).all (zl3 t)):=by
  rw [ziY (n:=t.fIdxs.length) (zl3 t) false (some true) ?_ (by simp [zdR])]
  ·cases(List.range t.fIdxs.length).all (zl3 t)<;>rfl
  ·intro i hi
   unfold zl3
   simp only [zdR,Int.ofNat_lt,hi,decide_true,if_true,zam hi,Option.bind_some,znP (h.idx _ (List.getElem_mem hi)),zmO,hw,zd5 hi (by omega:t.fIdxs.length≤_),List.getElem?_eq_getElem hi,Option.getD_some]
   by_cases h0:i=0
   ·subst h0
    cases za8 t.fIdxs[0].fName 1<;>cases inB t.fIdxs[0].fCol 1 ((t.fCols.length:Int)-1)<;>cases inB t.fIdxs[0].fStage 0 3<;>rfl
   ·have hp:(i:Int)>0:=by omega
    have hi1:i-1<t.fIdxs.length:=by omega
    have hb:(i==0)=false:=by simpa using h0
    simp only [hp,decide_true,if_true,zvR (Nat.pos_of_ne_zero h0) (by omega:i≤2000000),zam hi1,Option.bind_some,List.getElem?_eq_getElem hi1,Option.getD_some,hb,Bool.false_or]
    cases za8 t.fIdxs[i].fName 1<;>cases inB t.fIdxs[i].fCol 1 ((t.fCols.length:Int)-1)<;>cases inB t.fIdxs[i].fStage 0 3<;>cases Op.bytesLess t.fIdxs[i-1].fName t.fIdxs[i].fName<;>rfl
 unfold zbm zad
 rw [znP h.name,Option.bind_some,zCS h.cols h.col,hl]
 by_cases hk:(t.fIdxs.length:Int)≤3
 ·have hk': ¬(t.fIdxs.length:Int)>3:=by omega
  simp only [hk,hk',decide_true,decide_false,Bool.or_false,Bool.and_true]
  cases za8 t.fName 1<;>cases(zlT t.fCols&&inB t.fCols.length 2 4)<;>simp
 ·have hk':(t.fIdxs.length:Int)>3:=by omega
  simp only [hk,hk',decide_true,decide_false,Bool.or_true,Bool.and_false,Bool.false_and]
  cases za8 t.fName 1<;>simp
theorem zwr {t:zab} (h:zcH t):zd9 t=some (zad t):=by
 have hw:=zaJ (n:=(t.fCols.length:Int)-1) (by omega) (by have:=h.cols;omega)
 have hn:=h.idxs
 have hm:=h.cols
 have hl:zat (fun s:Int=>zdW t s) 0=some ((List.range t.fIdxs.length).all (zl3 t)):=by
  rw [ziY (n:=t.fIdxs.length) (zl3 t) false (some true) ?_ (by simp [zdW])]
  ·cases(List.range t.fIdxs.length).all (zl3 t)<;>rfl
  ·intro i hi
   unfold zl3
   simp only [zdW,zfc,Int.ofNat_lt,hi,decide_true,if_true,zam hi,Option.bind_some,zod (h.idx _ (List.getElem_mem hi)),zfX,hw,zd5 hi (by omega:t.fIdxs.length≤_),List.getElem?_eq_getElem hi,Option.getD_some]
   by_cases h0:i=0
   ·subst h0
    cases za8 t.fIdxs[0].fName 1<;>cases inB t.fIdxs[0].fCol 1 ((t.fCols.length:Int)-1)<;>cases inB t.fIdxs[0].fStage 0 3<;>rfl
   ·have hp:(i:Int)>0:=by omega
    have hi1:i-1<t.fIdxs.length:=by omega
    have hb:(i==0)=false:=by simpa using h0
    simp only [hp,decide_true,if_true,zvR (Nat.pos_of_ne_zero h0) (by omega:i≤2000000),zam hi1,Option.bind_some,List.getElem?_eq_getElem hi1,Option.getD_some,hb,Bool.false_or,ztI]
    cases za8 t.fIdxs[i].fName 1<;>cases inB t.fIdxs[i].fCol 1 ((t.fCols.length:Int)-1)<;>cases inB t.fIdxs[i].fStage 0 3<;>cases Op.bytesLess t.fIdxs[i-1].fName t.fIdxs[i].fName<;>rfl
 have hc:zat (fun s:Int=>zd3 t s) 0=some (zlT t.fCols&&(List.range t.fIdxs.length).all (zl3 t)):=by
  rw [ziY (n:=t.fCols.length) (ztR t.fCols) false (zfy t) ?_ (by simp [zd3])]
  ·unfold zfy zlT
   rw [hl]
   cases(List.range t.fCols.length).all (ztR t.fCols)<;>simp
  ·intro i hi
   unfold zd3 ztR
   rw [if_pos (by simpa using hi),zam hi,Option.bind_some,zod (h.col _ (List.getElem_mem hi)),Option.bind_some,zai (by omega),zCz,zBD (by rw [List.length_take];omega),Option.bind_some,zd5 hi (by omega)]
   simp only [List.getElem?_eq_getElem hi,Option.getD_some]
   cases za8 t.fCols[i] 3<;>cases(t.fCols.take i).contains t.fCols[i]<;>rfl
 unfold zd9 zad
 rw [zod h.name,Option.bind_some,zfX,Option.bind_some,hc]
 by_cases hk:(t.fIdxs.length:Int)≤3
 ·have hk': ¬(t.fIdxs.length:Int)>3:=by omega
  simp only [hk,hk',decide_true,decide_false,Bool.or_false,Bool.and_true]
  cases za8 t.fName 1<;>cases zlT t.fCols<;>cases inB t.fCols.length 2 4<;>simp
 ·have hk':(t.fIdxs.length:Int)>3:=by omega
  simp only [hk,hk',decide_true,decide_false,Bool.or_true,Bool.and_false,Bool.false_and]
  cases za8 t.fName 1<;>simp
theorem zwC {t:zab} {s:Str} (h:zcH t):zbn t s=some (zhw (fun x:zbs=>x.fName==s) t.fIdxs):=by
 have hn:=h.idxs
 unfold zbn
 refine zsP (fun x:zbs=>x.fName==s) (fun i hi=> ?_) (by simp [zhk])
 simp only [zhk,Int.ofNat_lt,hi,decide_true,if_true,zam hi,Option.bind_some,zd5 hi (by omega:t.fIdxs.length≤_)]
 cases t.fIdxs[i].fName==s<;>rfl
theorem zwj {t:zab} {s:Str} (h:zcH t):zbw t s=some (zhw (fun x:zbs=>x.fName==s) t.fIdxs):=by
 have hn:=h.idxs
 have e:zbk t.fIdxs (fun y0_=>zdI y0_ s)=some (zhw (fun x:zbs=>x.fName==s) t.fIdxs):=zu2 (fun x:zbs=>x.fName==s) (fun x _=>rfl) (by omega)
 simp only [zbw,e,Option.bind_some]
end Go.Proofs.YtbmbkgalkfmjdaaGreatDoor
end
section
namespace Go.Proofs.YtbmbkgalkfmjdaaGreatDoor
open Go.RowKit
set_option maxRecDepth 100000
def za4 (c:UInt8):Str→List Str
 | []=> [[]]
 |b::s=>if b=c then []::za4 c s else(match za4 c s with| []=> [[b]]|x::xs=>(b::x)::xs)
theorem zpF (c:UInt8) (s:Str):za4 c s≠ []:=by
 cases s with
 |nil=>simp [za4]
 |cons b s=>simp only [za4];split;simp;split<;>simp
theorem zdO {c:UInt8}: ∀{s:Str},(∀b∈s,b≠c)→za4 c s= [s]
 | [],_=>rfl
 |b::s,h=>by
  have e:=zdO (c:=c) (s:=s) fun x hx=>h x (List.mem_cons_of_mem _ hx)
  simp only [za4,if_neg (h b (by simp)),e]
theorem zha {c:UInt8}: ∀{p q:Str},(∀b∈p,b≠c)→za4 c (p++c::q)=p::za4 c q
 | [],q,_=>by simp [za4]
 |b::p,q,h=>by
  have e:=zha (c:=c) (p:=p) (q:=q) fun x hx=>h x (List.mem_cons_of_mem _ hx)
  simp only [List.cons_append,za4,if_neg (h b (by simp)),e]
theorem zle (c:UInt8) (s:Str):(za4 c s).length=s.count c+1:=by
 induction s with
 |nil=>rfl
 |cons b s ih=>
  simp only [za4]
  by_cases h:b=c
  ·subst h;simp [ih]
  ·rw [if_neg h,List.count_cons_of_ne h]
   cases hs:za4 c s with
   |nil=>exact absurd hs (zpF c s)
   |cons x xs=>rw [hs]at ih;simpa using ih
theorem zC2 {α:Type} (xs:List α) (i j:Nat):zez xs (i:Int) (j:Int)=(xs.take j).drop i:=by simp [zez]
def zEP (c:UInt8) (s:Str) (t:List Str × Nat) (i:Nat):List Str × Nat:=if(s[i]?).getD 0=c then(t.1++ [(s.take i).drop t.2],i+1)else t
theorem zwx {s:Str} {c:UInt8} (h:s.length≤2000000):zdl s c.toNat=some (za4 c s):=by
 have h1:=zdx (xs:=List.range s.length) (body:=fun t:List Str × Int × Int=>zcL s c.toNat t.1 t.2.1 t.2.2) (fun i (t:List Str × Nat)=>(t.1,(t.2:Int),i)) (zEP c s) (fun t=>zgw s t.2 t.1)
  (fun i t=>t.2≤i∧(∀b∈(s.take i).drop t.2,b≠c)∧t.1++za4 c (s.drop t.2)=za4 c s∧t.1.length≤i)
  (fun i hi t hI=>by
   rw [List.length_range]at hi
   obtain⟨I1,I2,I3,I4⟩:=hI
   have hw:=zd5 hi (by omega:s.length≤_)
   rw [List.getElem_range]
   constructor
   ·show zcL s c.toNat t.1 t.2 i=_
    unfold zcL zEP
    rw [if_pos (by simpa using hi),zam hi,Option.bind_some,zD4,hw,zC2,List.getElem?_eq_getElem hi,Option.getD_some]
    by_cases hc:s[i]=c
    ·have hr:((t.1.length:Int)+(([(s.take i).drop t.2]:List Str).length:Int))*16≤140737488355328∧(t.1.length:Int)+(([(s.take i).drop t.2]:List Str).length:Int)≤140737488355328:=by
      rw [List.length_singleton];omega
     rw [if_pos (by simpa using hc),zai (by omega),zai hr,if_pos hc]
    ·rw [if_neg (by simpa using hc),if_neg hc]
   ·unfold zEP
    rw [List.getElem?_eq_getElem hi,Option.getD_some]
    have htk:s.take (i+1)=s.take i++ [s[i]]:=by rw [List.take_succ_eq_append_getElem hi]
    have hd:(s.take (i+1)).drop t.2=(s.take i).drop t.2++ [s[i]]:=by
     rw [htk,List.drop_append_of_le_length (by rw [List.length_take];omega)]
    by_cases hc:s[i]=c
    ·rw [if_pos hc]
     refine⟨Nat.le_refl _,by simp, ?_,by simp;omega⟩
     have e:s.drop t.2=(s.take i).drop t.2++c::s.drop (i+1):=by
      have e0:s.drop t.2=(s.take i).drop t.2++s.drop i:=by
       conv=>lhs;rw [←List.take_append_drop i s]
       rw [List.drop_append_of_le_length (by rw [List.length_take];omega)]
      rw [e0,List.drop_eq_getElem_cons hi,hc]
     rw [e,zha I2]at I3
     simpa using I3
    ·rw [if_neg hc]
     refine⟨by omega, ?_,I3,by omega⟩
     rw [hd]
     intro b hb
     rcases List.mem_append.1 hb with hb|hb
     ·exact I2 b hb
     ·simp at hb;subst hb;exact hc)
  (fun t hI=>by
   show zcL s c.toNat t.1 t.2 ((List.range s.length).length:Nat)=_
   unfold zcL
   rw [if_neg (by simp)]) (s:=([],0)) ⟨Nat.le_refl _,by simp,by simp,by simp⟩
 generalize (List.range s.length).foldl (zEP c s) ([],0)=t at h1
 rw [List.length_range]at h1
 obtain⟨h2,I1,I2,I3,I4⟩:=h1
 unfold zdl
 refine Eq.trans h2 ?_
 unfold zgw
 have hw:zez s (t.2:Int) (s.length:Int)=s.drop t.2:=by rw [zC2,List.take_length]
 have hr:((t.1.length:Int)+(([s.drop t.2]:List Str).length:Int))*16≤140737488355328∧(t.1.length:Int)+(([s.drop t.2]:List Str).length:Int)≤140737488355328:=by
  rw [List.length_singleton];omega
 rw [hw,zai (by omega),zai hr,←I3]
 rw [List.take_length]at I2
 rw [zdO I2]
theorem zgg (l:Str) (c:UInt8):(Lib.indexByte l c= -1∧ ∀b∈l,b≠c)∨ ∃p q:Str,l=p++c::q∧(∀b∈p,b≠c)∧Lib.indexByte l c=p.length:=by
 induction l with
 |nil=>exact .inl ⟨rfl,by simp⟩
 |cons b l ih=>
  unfold Lib.indexByte
  by_cases hb:b=c
  ·subst hb
   exact .inr ⟨[],l,by simp,by simp,by simp⟩
  ·have h1:(b==c)=false:=by simpa using hb
   rw [h1]
   simp only [Bool.false_eq_true,if_false]
   rcases ih with⟨e,h⟩|⟨p,q,rfl,h,e⟩
   ·refine .inl ⟨by simp [e],fun x hx=> ?_⟩
    rcases List.mem_cons.1 hx with rfl|hx
    ·exact hb
    ·exact h x hx
   ·refine .inr ⟨b::p,q,by simp,fun x hx=> ?_, ?_⟩
    ·rcases List.mem_cons.1 hx with rfl|hx
     ·exact hb
     ·exact h x hx
    ·rw [e]
     have:((p.length:Int)== -1)=false:=by rw [beq_eq_false_iff_ne];omega
     rw [this]
     simp
theorem zss {c:UInt8} {s:Str} (h: ∀b∈s,b≠c):s.count c=0:=List.count_eq_zero.2 fun hc=>h c hc rfl
theorem zBt {c:UInt8} {p q:Str} (h: ∀b∈p,b≠c):(p++c::q).count c=q.count c+1:=by
 rw [List.count_append,zss h,List.count_cons_self];omega
theorem ztW {α:Type} {a:List α} {i:Nat} (x:α) (h:i<a.length):(a.set i x).take (i+1)=a.take i++ [x]:=by
 rw [List.take_succ_eq_append_getElem (by simpa using h),List.getElem_set_self,List.take_set,List.set_eq_of_length_le (by rw [List.length_take];omega)]
theorem zEd {a b:Int} (h: ¬a<b):(bif decide (a<b)then a else b)=b:=by simp [h]
theorem zAx {s:Str} {c:UInt8} (h:s.length≤2000000):zeM s [c]=some (za4 c s):=by
 have hcl:s.count c≤s.length:=List.count_le_length
 have hw1:IntKind.i64.wrap ((s.count c:Int)+1)=(s.count c:Int)+1:=zaJ (by omega) (by omega)
 have hw2:IntKind.i64.wrap ((s.length:Int)+1)=(s.length:Int)+1:=zaJ (by omega) (by omega)
 have hbif:(bif decide ((s.length:Int)+1<(s.count c:Int)+1)then(s.length:Int)+1 else(s.count c:Int)+1)=(s.count c:Int)+1:=zEd (by omega)
 have hw3:IntKind.i64.wrap ((s.count c:Int)+1-1)=(s.count c:Int):=by rw [zaJ (by omega) (by omega)];omega
 have key: ∀(n:Nat) (r:Str) (a:List Str) (i:Nat),r.count c=n→r.length≤s.length→a.length=s.count c+1→i+n=s.count c→a.take i++za4 c r=za4 c s→
   zat (fun t:Str × Int × List Str=>zbI s [c] 0 ((s.count c:Int)+1) t.1 t.2.1 t.2.2) (r,(i:Int),a)=some (za4 c s):=by
  intro n
  induction n with
  |zero=>
   intro r a i hr hl ha hi hI
   have hr0: ∀b∈r,b≠c:=fun b hb e=>by subst e;exact List.count_eq_zero.1 hr hb
   have hia:i<a.length:=by omega
   have hwi:=zd5 hia (by omega)
   have hb:zbI s [c] 0 ((s.count c:Int)+1) r i a=some (.inr (some (za4 c s))):=by
    unfold zbI
    rw [hw2,hbif,hw3,if_neg (by simp;omega)]
    unfold zeC
    rw [zam hia,Option.bind_some,hwi,Int.toNat_natCast,zai (by rw [List.length_set];omega),zCz,ztW r hia,←hI,zdO hr0]
   rw [zdc]
   dsimp only
   rw [hb]
  |succ n ih=>
   intro r a i hr hl ha hi hI
   rcases zgg r c with⟨_,h0⟩|⟨p,q,rfl,hp,hx⟩
   ·rw [zss h0]at hr;omega
   ·rw [zBt hp]at hr
    have hia:i<a.length:=by omega
    have hwi:=zd5 hia (by omega)
    simp only [List.length_append,List.length_cons]at hl
    have hv0:IntKind.i64.wrap ((p.length:Int)+0)=(p.length:Int):=by rw [zaJ (by omega) (by omega)];omega
    have hv1:IntKind.i64.wrap ((p.length:Int)+(([c]:Str).length:Int))=((p.length+1:Nat):Int):=by rw [List.length_singleton,zaJ (by omega) (by omega)];omega
    have hb:zbI s [c] 0 ((s.count c:Int)+1) (p++c::q) i a=some (.inl (q,((i+1:Nat):Int),a.set i p)):=by
     unfold zbI
     have hidx:zf2 (p++c::q) [c]=some (p.length:Int):=by simp [zf2,zaT,hx]
     rw [hw2,hbif,hw3,if_pos (by simp;omega),hidx,Option.bind_some,if_neg (by simp),hv0,zai (by rw [List.length_append];omega),zam hia,Option.bind_some,hv1,zai (by rw [List.length_append,List.length_cons];omega),hwi,Int.toNat_natCast,zC2,zCz,List.take_length]
     have e1:(p++c::q).drop (p.length+1)=q:=by simp
     have e2:(p++c::q).take p.length=p:=by simp
     rw [e1,e2]
    rw [zdc]
    dsimp only
    rw [hb]
    refine ih q (a.set i p) (i+1) (by omega) (by omega) (by simpa using ha) (by omega) ?_
    rw [ztW p hia,←hI,zha hp]
    simp
 have hc1:zfR s [c]=some ((s.count c:Nat):Int):=rfl
 have hz:(((-1:Int))==0)=false:=rfl
 have hne:(([c]:Str)==([]:Str))=false:=rfl
 unfold zeM zf8
 rw [hz,hne,if_neg (by simp),if_neg (by simp),if_pos (by simp),hc1,Option.bind_some,hw1]
 unfold zeJ
 rw [hw2,hbif,zai (by omega)]
 exact zl0 (key (s.count c) s (List.replicate ((s.count c:Int)+1).toNat []) 0 rfl (Nat.le_refl _) (by simp) (by omega) (by simp))
end Go.Proofs.YtbmbkgalkfmjdaaGreatDoor
end
section
namespace Go.Proofs.YtbmbkgalkfmjdaaGreatDoor
open Go.RowKit
set_option maxRecDepth 100000
def field (s:Str):Bool:=inB s.length 1 3&&zhU s []
theorem ztB {s:Str} (h:s.length≤2000000):zdD s=some (field s):=by
 simp only [zdD,zmO,Option.bind_some,zyQ h (more:= []) (by decide),field]
 cases inB s.length 1 3<;>simp
theorem zpn {s:Str} (h:s.length≤2000000):zei s=some (field s):=by
 simp only [zei,zfX,Option.bind_some,znY h,field]
 cases inB s.length 1 3<;>simp
theorem zx8 (sep x y:Str) (r:List Str):Lib.join (x::(r++ [y])) sep=Lib.join (x::r) sep++sep++y:=by
 rw [Lib.join_cons,Lib.join_cons]
 simp [Lib.joinTail]
theorem zyJ {xs:List Str} {sep:Str} {i:Nat} (hi:i<xs.length):Lib.join (xs.take (i+1)) sep=if i=0 then xs[i]else Lib.join (xs.take i) sep++sep++xs[i]:=by
 rw [List.take_succ_eq_append_getElem hi]
 cases xs with
 |nil=>simp at hi
 |cons x xs=>
  cases i with
  |zero=>simp [Lib.join_cons,Lib.joinTail]
  |succ i=>
   rw [List.take_succ_cons,List.cons_append,zx8,if_neg (by omega)]
def zdN:List Str→Nat
 | []=>0
 |x::xs=>x.length+zdN xs
theorem ztL (xs:List Str) (sep:Str):(Lib.join xs sep).length≤zdN xs+xs.length*sep.length:=by
 cases xs with
 |nil=>simp [Lib.join_nil]
 |cons x xs=>
  rw [Lib.join_cons,List.length_append]
  have: ∀r:List Str,(Lib.joinTail sep r).length=zdN r+r.length*sep.length:=by
   intro r
   induction r with
   |nil=>simp [Lib.joinTail,zdN]
   |cons y r ih=>
    have e:Lib.joinTail sep (y::r)=sep++y++Lib.joinTail sep r:=by simp [Lib.joinTail]
    rw [e,List.length_append,List.length_append,ih,zdN,List.length_cons,Nat.succ_mul]
    omega
  rw [this,zdN,List.length_cons,Nat.succ_mul]
  omega
theorem zvX (xs:List Str) (i:Nat):zdN (xs.take i)≤zdN xs:=by
 induction xs generalizing i with
 |nil=>simp [zdN]
 |cons x xs ih=>
  cases i with
  |zero=>simp [zdN]
  |succ i=>simp only [List.take_succ_cons,zdN];have:=ih i;omega
theorem zsf {xs:List Str} {i:Nat} (hi:i<xs.length):xs[i].length≤zdN xs:=by
 induction xs generalizing i with
 |nil=>simp at hi
 |cons x xs ih=>
  cases i with
  |zero=>simp [zdN]
  |succ i=>simp only [List.getElem_cons_succ,zdN];have:=ih (i:=i) (by simpa using hi);omega
def Small (xs:List Str):Prop:=xs.length≤2000000∧zdN xs≤2000000
theorem zC3 {xs:List Str} {c:UInt8} (h:Small xs):ziE xs [c]=some (Lib.join xs [c]):=by
 obtain⟨h1,h2⟩:=h
 have hl:=zdx (xs:=List.range xs.length) (body:=fun s:Str × Int=>zcO xs [c] s.1 s.2) (fun i (o:Str)=>(o,i)) (fun o i=>if i=0 then(xs[i]?).getD []else o++ [c]++(xs[i]?).getD []) (fun o=>some o) (fun i o=>o=Lib.join (xs.take i) [c])
  (fun i hi o hI=>by
   rw [List.length_range]at hi
   rw [List.getElem_range]
   have hI:o=Lib.join (xs.take i) [c]:=hI
   have hlen:o.length≤1010000000:=by
    have e1:=ztL (xs.take i) [c]
    have e2:=zvX xs i
    rw [List.length_take,List.length_singleton,Nat.mul_one]at e1
    rw [hI];omega
   have hg:=zsf hi
   have hw:=zd5 hi (by omega:xs.length≤_)
   rw [List.getElem?_eq_getElem hi,Option.getD_some]
   refine⟨?_,by show _=_;rw [zyJ hi,hI]⟩
   show zcO xs [c] o i=_
   unfold zcO
   rw [if_pos (by simpa using hi),zam hi,Option.bind_some,hw]
   by_cases h0:i=0
   ·subst h0
    have ho:o= []:=by rw [hI];rfl
    subst ho
    rw [if_neg (by simp),zai (by simp;omega),if_pos rfl];rfl
   ·rw [if_pos (by simp;omega),zai (by rw [List.length_singleton];omega),zai (by rw [List.length_append,List.length_singleton];omega),if_neg h0])
  (fun o _=>by
   show zcO xs [c] o ((List.range xs.length).length:Nat)=_
   unfold zcO
   rw [if_neg (by simp)]) (s:= []) (by simp [Lib.join_nil])
 generalize (List.range xs.length).foldl (fun o i=>if i=0 then(xs[i]?).getD []else o++ [c]++(xs[i]?).getD []) []=o at hl
 obtain⟨h3,h4⟩:=hl
 have h4:o=Lib.join (xs.take (List.range xs.length).length) [c]:=h4
 rw [List.length_range,List.take_length]at h4
 subst h4
 exact h3
theorem zCg {xs:List Str} {c:UInt8} (h:Small xs):zg2 xs [c]=some (Lib.join xs [c]):=by
 obtain⟨h1,h2⟩:=h
 have:=ztL xs [c]
 rw [List.length_singleton,Nat.mul_one]at this
 exact zai ⟨by omega,by omega⟩
end Go.Proofs.YtbmbkgalkfmjdaaGreatDoor
end
section
namespace Go.Proofs.YtbmbkgalkfmjdaaGreatDoor
open Go.RowKit
set_option maxRecDepth 100000
theorem Small.each {xs:List Str} (h:Small xs): ∀x∈xs,x.length≤2000000:=by
 intro x hx
 obtain⟨i,hi,rfl⟩:=List.getElem_of_mem hx
 exact Nat.le_trans (zsf hi) h.2
def zaq (t:zab) (r:zbE):Bool:=((r.fVals.length:Int)==t.fCols.length)&&r.fVals.all field
theorem zi4 {t:zab} {r:zbE} (h:Small r.fVals):zcG t r=some (zaq t r):=by
 have h1:=h.1
 unfold zcG
 rw [zmM (xs:=r.fVals) field false (zgy t r) (fun i hi=>by
  simp only [zgx,Int.ofNat_lt,hi,decide_true,if_true,zam hi,Option.bind_some,ztB (h.each _ (List.getElem_mem hi)),zd5 hi (by omega:r.fVals.length≤_)]
  cases field r.fVals[i]<;>rfl) (by simp [zgx])]
 unfold zgy zaq
 cases r.fVals.all field<;>simp
theorem ziM {t:zab} {r:zbE} (h:Small r.fVals):za5 t r=some (zaq t r):=by
 have e:zaw r.fVals (fun y0_=>zc5 y0_)=some (r.fVals.any fun s=> !field s):=znQ _ (fun s hs=>by simp [zc5,zpn (h.each s hs)]) (by have:=h.1;omega)
 simp only [za5,e,Option.bind_some,zaq,←List.not_all_eq_any_not]
 cases((r.fVals.length:Int)==t.fCols.length)<;>simp
def zea (t:zab) (r:zbE):zaa:=⟨t.fName++ [47]++(r.fVals.head?).getD [],Lib.join r.fVals.tail [44],false⟩
theorem zFh {α:Type} (xs:List α):zez xs 1 (xs.length:Int)=xs.tail:=by simp [zez]
theorem Small.tail {xs:List Str} (h:Small xs):Small xs.tail:=by
 cases xs with
 |nil=>exact h
 |cons x xs=>exact⟨by have:=h.1;simp at this ⊢;omega,by have:=h.2;simp only [zdN,List.tail_cons]at this ⊢;omega⟩
theorem zqU {t:zab} {r:zbE} (ht:t.fName.length≤2000000) (h:Small r.fVals) (hn:r.fVals≠ []):zbh t r=some (zea t r):=by
 obtain⟨x,xs,hx⟩:=List.exists_cons_of_ne_nil hn
 have hx1:x.length≤2000000:=h.each x (by simp [hx])
 unfold zbh zea
 rw [zai (by rw [List.length_singleton];omega),zFh,zC3 h.tail,hx]
 rw [show getI (x::xs) 0=some x from rfl,Option.bind_some,zai (by rw [List.length_append,List.length_singleton];omega),zai (by simp only [List.length_cons];omega),Option.bind_some]
 rfl
theorem zp2 {t:zab} {r:zbE} (ht:t.fName.length≤2000000) (h:Small r.fVals) (hn:r.fVals≠ []):zaO t r=some (zea t r):=by
 obtain⟨x,xs,hx⟩:=List.exists_cons_of_ne_nil hn
 have hx1:x.length≤2000000:=h.each x (by simp [hx])
 unfold zaO zea
 rw [zai (by rw [List.length_singleton];omega),zFh,zCg h.tail,hx]
 rw [show getI (x::xs) 0=some x from rfl,Option.bind_some,zai (by rw [List.length_append,List.length_singleton];omega),zai (by simp only [List.length_cons];omega),Option.bind_some]
 rfl
theorem zoB (c:UInt8) (s:Str):zdN (za4 c s)≤s.length:=by
 induction s with
 |nil=>simp [za4,zdN]
 |cons b s ih=>
  simp only [za4]
  split
  ·simp only [zdN,List.length_nil,List.length_cons];omega
  ·cases hs:za4 c s with
   |nil=>exact absurd hs (zpF c s)
   |cons x xs=>rw [hs]at ih;simp only [zdN,List.length_cons]at ih ⊢;omega
theorem zvH {c:UInt8} {s:Str} (h:s.length≤1000000):Small (za4 c s):=by
 have h1:=zle c s
 have h2:s.count c≤s.length:=List.count_le_length
 have h3:=zoB c s
 exact⟨by omega,by omega⟩
theorem zEh {s p:Str} (hs:s.length≤2000000):zcY s p=some (if p.isPrefixOf s=true then(s.drop p.length,true)else(s,false)):=by
 have e:zbg s p=some (p.isPrefixOf s):=by
  unfold zbg
  by_cases hl:p.length≤s.length
  ·rw [if_pos (by simpa using hl),zai (by omega),zCz]
   congr 1
   rw [Bool.eq_iff_iff,beq_iff_eq,List.isPrefixOf_iff_prefix,List.prefix_iff_eq_take]
   exact eq_comm
  ·rw [if_neg (by simpa using hl)]
   congr 1
   symm
   rw [←Bool.not_eq_true,List.isPrefixOf_iff_prefix]
   intro h
   exact hl h.length_le
 unfold zcY zb2
 rw [e,Option.bind_some]
 cases hp:p.isPrefixOf s with
 |false=>simp
 |true=>
  have hl:=(List.isPrefixOf_iff_prefix.1 hp).length_le
  simp only [Bool.not_true,Bool.false_eq_true,if_false,if_true]
  rw [zai (by omega),zC2,List.take_length]
  rfl
end Go.Proofs.YtbmbkgalkfmjdaaGreatDoor
end
section
namespace Go.Proofs.YtbmbkgalkfmjdaaGreatDoor
open Go.RowKit
set_option maxRecDepth 100000
def zpR (a b:zaa):Bool:=a.fKey==b.fKey&&(a.fVal==b.fVal&&(a.fGone==b.fGone))
theorem zxE (a b:zaa):zpR a b=zpR b a:=by
 unfold zpR
 rw [show(a.fKey==b.fKey)=(b.fKey==a.fKey)from BEq.comm,show(a.fVal==b.fVal)=(b.fVal==a.fVal)from BEq.comm,show(a.fGone==b.fGone)=(b.fGone==a.fGone)from BEq.comm]
theorem zyN {a b:zaa} (h:zpR a b=true):a.fKey=b.fKey:=by
 unfold zpR at h
 simp only [Bool.and_eq_true,beq_iff_eq]at h
 exact h.1
def zd1 (w:zaa):zbE:=⟨w.fKey.drop 2::za4 44 w.fVal⟩
def zbj (t:zab) (w:zaa):Bool:=zaq t (zd1 w)&&zpR (zea t (zd1 w)) w
def zkR (w:zaa):Prop:=w.fKey.length≤1000∧w.fVal.length≤1000
theorem zmj {w:zaa} (h:zkR w):Small (zd1 w).fVals:=by
 have h1:=zle 44 w.fVal
 have h2:w.fVal.count 44≤w.fVal.length:=List.count_le_length
 have h3:=zoB 44 w.fVal
 obtain⟨k,v⟩:=h
 refine⟨?_, ?_⟩
 ·show(w.fKey.drop 2::za4 44 w.fVal).length≤_
  rw [List.length_cons];omega
 ·show zdN (w.fKey.drop 2::za4 44 w.fVal)≤_
  rw [zdN,List.length_drop];omega
theorem zyT {t:zab} {w:zaa} (h:zaq t (zd1 w)=true):3≤w.fKey.length:=by
 unfold zaq zd1 at h
 simp only [Bool.and_eq_true,List.all_cons,field,za3,List.length_drop]at h
 omega
theorem zCA {t:zab} {w:zaa} (ht:t.fName.length≤2000000) (h:zkR w): ∃r,zgR t w=some (r,zbj t w)∧(zbj t w=true→r=zd1 w):=by
 have hs:=zmj h
 have hsp:=zle 44 w.fVal
 have hct:w.fVal.count 44≤w.fVal.length:=List.count_le_length
 obtain⟨hk,hv⟩:=h
 unfold zgR
 by_cases h3:w.fKey.length<3
 ·rw [if_pos (by simp;omega)]
  have:zbj t w=false:=by
   unfold zbj
   cases hg:zaq t (zd1 w)with
   |false=>rfl
   |true=>have:=zyT hg;omega
  exact⟨_,by rw [this],by rw [this];intro h;cases h⟩
 ·have hw:zez w.fKey 2 (w.fKey.length:Int)=w.fKey.drop 2:=by
   have:=zC2 w.fKey 2 w.fKey.length
   rw [List.take_length]at this
   exact this
  have hsplit:zdl w.fVal 44=some (za4 44 w.fVal):=zwx (c:=44) (by omega)
  have hr:(([w.fKey.drop 2]:List Str).length+(za4 44 w.fVal).length:Int)*16≤140737488355328∧(([w.fKey.drop 2]:List Str).length:Int)+(za4 44 w.fVal).length≤140737488355328:=by
   rw [List.length_singleton];omega
  rw [if_neg (by simp;omega),zai (by omega),hsplit,Option.bind_some,hw,zai hr]
  rw [show(⟨[w.fKey.drop 2]++za4 44 w.fVal⟩:zbE)=zd1 w from rfl,zi4 hs,Option.bind_some]
  unfold zbj
  cases hg:zaq t (zd1 w)with
  |false=>exact⟨_,by rw [if_neg (by simp)];rfl,by simp⟩
  |true=>
   rw [if_pos rfl,zqU ht hs (by simp [zd1]),Option.bind_some]
   exact⟨zd1 w,by rw [Bool.true_and];rfl,fun _=>rfl⟩
theorem zDd {t:zab} {w:zaa} (ht:t.fName.length=1) (h:zkR w): ∃r,zc1 t w=some (r,zbj t w)∧(zbj t w=true→r=zd1 w):=by
 have hs:=zmj h
 have hsp:=zle 44 w.fVal
 have hct:w.fVal.count 44≤w.fVal.length:=List.count_le_length
 obtain⟨hk,hv⟩:=h
 unfold zc1
 have hsplit:zeM w.fVal [44]=some (za4 44 w.fVal):=zAx (by omega)
 rw [zai (by rw [List.length_singleton];omega),zEh (by omega),Option.bind_some,hsplit,Option.bind_some]
 have hr: ∀x:Str,(([x]:List Str).length+(za4 44 w.fVal).length:Int)*16≤140737488355328∧(([x]:List Str).length:Int)+(za4 44 w.fVal).length≤140737488355328:=by
  intro x;rw [List.length_singleton];omega
 rw [zai (hr _)]
 cases hp:(t.fName++ [47]).isPrefixOf w.fKey with
 |false=>
  have hno:zbj t w=false:=by
   unfold zbj
   cases hw:zpR (zea t (zd1 w)) w with
   |false=>simp
   |true=>
    have hkey:=zyN hw
    rw [←Bool.not_eq_true,List.isPrefixOf_iff_prefix]at hp
    exact absurd ⟨_,hkey⟩ hp
  rw [hno]
  exact⟨_,by rw [if_neg (by simp)],by simp⟩
 |true=>
  have hl:(t.fName++ [47]).length=2:=by rw [List.length_append,ht];rfl
  simp only [if_true,hl]
  rw [show(⟨[w.fKey.drop 2]++za4 44 w.fVal⟩:zbE)=zd1 w from rfl,ziM hs,Option.bind_some]
  unfold zbj
  cases hg:zaq t (zd1 w)with
  |false=>exact⟨_,by rw [if_neg (by simp)];rfl,by simp⟩
  |true=>
   rw [if_pos rfl,zp2 (by omega) hs (by simp [zd1]),Option.bind_some]
   rw [show(w.fKey==(zea t (zd1 w)).fKey&&(w.fVal==(zea t (zd1 w)).fVal&&w.fGone==(zea t (zd1 w)).fGone))=zpR w (zea t (zd1 w))from rfl,zxE]
   cases zpR (zea t (zd1 w)) w with
   |false=>exact⟨_,by rw [if_pos (by simp)];rfl,by simp⟩
   |true=>exact⟨_,by rw [if_neg (by simp)];rfl,fun _=>rfl⟩
end Go.Proofs.YtbmbkgalkfmjdaaGreatDoor
end
section
namespace Go.Proofs.YtbmbkgalkfmjdaaGreatDoor
open Go.RowKit
set_option maxRecDepth 100000
theorem ziW {α β:Type} (p:α→Bool) (f:α→β) (l:List α) (o:List β):l.foldl (fun o x=>if p x=true then o++ [f x]else o) o=o++(l.filter p).map f:=by
 induction l generalizing o with
 |nil=>simp
 |cons x l ih=>
  rw [List.foldl_cons,ih,List.filter_cons]
  cases p x<;>simp
def rows (t:zab) (l:List zaa):List zbE:=(l.filter (zbj t)).map zd1
theorem ztt {t:zab} {l:List zaa} (ht:t.fName.length≤2000000) (hl:l.length≤2000000) (h: ∀w∈l,zkR w):zdi t l=some (rows t l):=by
 have h1:=zdx (xs:=l) (body:=fun s:List zbE × Int=>zcK t l s.1 s.2) (fun i (o:List zbE)=>(o,i)) (fun o w=>if zbj t w=true then o++ [zd1 w]else o) (fun o=>some o) (fun i o=>o.length≤i)
  (fun i hi o hI=>by
   have hI:o.length≤i:=hI
   obtain⟨r,e,hr⟩:=zCA ht (h _ (List.getElem_mem hi))
   have hw:=zd5 hi (by omega:l.length≤_)
   refine⟨?_,by
    show List.length (if zbj t l[i]=true then o++ [zd1 l[i]]else o)≤i+1
    split
    ·rw [List.length_append,List.length_singleton];omega
    ·omega⟩
   show zcK t l o i=_
   unfold zcK
   rw [if_pos (by simpa using hi),zam hi,Option.bind_some,e,Option.bind_some,hw]
   cases hb:zbj t l[i]with
   |false=>rfl
   |true=>
    have hq:((o.length:Int)+(([r]:List zbE).length:Int))*24≤140737488355328∧(o.length:Int)+(([r]:List zbE).length:Int)≤140737488355328:=by
     rw [List.length_singleton];omega
    rw [if_pos rfl,zai hq,if_pos rfl,hr hb])
  (fun o _=>by
   show zcK t l o l.length=_
   unfold zcK
   rw [if_neg (by simp)]) (s:= []) (by simp)
 rw [ziW]at h1
 exact h1.1
theorem zAL {t:zab} {l:List zaa} (ht:t.fName.length=1) (hl:l.length≤2000000) (h: ∀w∈l,zkR w):zdb t l=some (rows t l):=by
 have h1:=zdx (xs:=l) (body:=fun s:Int × List zbE=>za9 t l s.1 s.2) (fun i (o:List zbE)=>(i,o)) (fun o w=>if zbj t w=true then o++ [zd1 w]else o) (fun o=>some o) (fun i o=>o.length≤i)
  (fun i hi o hI=>by
   have hI:o.length≤i:=hI
   obtain⟨r,e,hr⟩:=zDd ht (h _ (List.getElem_mem hi))
   have hw:=zd5 hi (by omega:l.length≤_)
   refine⟨?_,by
    show List.length (if zbj t l[i]=true then o++ [zd1 l[i]]else o)≤i+1
    split
    ·rw [List.length_append,List.length_singleton];omega
    ·omega⟩
   show za9 t l i o=_
   unfold za9
   rw [if_pos (by simpa using hi),zam hi,Option.bind_some,e,Option.bind_some,hw]
   cases hb:zbj t l[i]with
   |false=>rfl
   |true=>
    have hq:((o.length:Int)+(([r]:List zbE).length:Int))*24≤140737488355328∧(o.length:Int)+(([r]:List zbE).length:Int)≤140737488355328:=by
     rw [List.length_singleton];omega
    rw [if_pos rfl,zai hq,if_pos rfl,hr hb])
  (fun o _=>by
   show za9 t l l.length o=_
   unfold za9
   rw [if_neg (by simp)]) (s:= []) (by simp)
 rw [ziW]at h1
 exact h1.1
def head (t:zab) (n:Str):Str:=t.fName++ [46]++n
def zbO (t:zab) (n:Str) (k:Str):Bool:=match za4 47 k with
 | [x,y,z]=>x==head t n&&field y&&field z
 |_=>false
theorem zAD {t:zab} {n k:Str} (ht:t.fName.length≤2000000) (hn:n.length≤2000000) (hk:k.length≤1000000): ∃a b,zfD t n k=some (a,b,zbO t n k):=by
 have hsm:=zvH (c:=47) hk
 have he:zdl k 47=some (za4 47 k):=zwx (c:=47) (by omega)
 unfold zfD zbO
 rw [he,Option.bind_some]
 generalize za4 47 k=ps at hsm
 match ps,hsm with
 | [],_=>exact⟨_,_,by rw [if_pos (by simp)]⟩
 | [_],_=>exact⟨_,_,by rw [if_pos (by simp)]⟩
 | [_,_],_=>exact⟨_,_,by rw [if_pos (by simp)]⟩
 |_::_::_::_::l,_=>exact⟨_,_,by rw [if_pos (by simp;omega)]⟩
 | [x,y,z],hsm=>
  have hy:=hsm.each y (by simp)
  have hz:=hsm.each z (by simp)
  dsimp only
  rw [if_neg (by simp),show getI [x,y,z] 0=some x from rfl,Option.bind_some,zai (by rw [List.length_singleton];omega),zai (by rw [List.length_append,List.length_singleton];omega)]
  rw [show(t.fName++ [46]++n)=head t n from rfl]
  by_cases hx:x=head t n
  ·rw [if_neg (by simp [hx]),show getI [x,y,z] 1=some y from rfl,Option.bind_some,ztB hy,Option.bind_some]
   have hx2:(x==head t n)=true:=by simpa using hx
   rw [hx2]
   cases field y with
   |false=>exact⟨_,_,by rw [if_neg (by simp)];rfl⟩
   |true=>
    rw [if_pos rfl,show getI [x,y,z] 2=some z from rfl,Option.bind_some,ztB hz,Option.bind_some]
    cases field z with
    |false=>exact⟨_,_,by rw [if_pos (by simp)];rfl⟩
    |true=>exact⟨_,_,by rw [if_neg (by simp)];rfl⟩
  ·have hx2:(x==head t n)=false:=by simpa using hx
   rw [hx2]
   exact⟨_,_,by rw [if_pos (by simpa [bne]using hx2)];rfl⟩
end Go.Proofs.YtbmbkgalkfmjdaaGreatDoor
end
section
namespace Go.Proofs.YtbmbkgalkfmjdaaGreatDoor
open Go.RowKit
set_option maxRecDepth 100000
theorem zxr {c:UInt8} {s x y:Str} {r:List Str} (h:za4 c s=x::y::r): ∃q,s=x++c::q:=by
 rcases zgg s c with⟨_,h0⟩|⟨p,q,rfl,hp,_⟩
 ·rw [zdO h0]at h;simp at h
 ·rw [zha hp]at h
  obtain⟨rfl,_⟩:=List.cons.inj h
  exact⟨q,rfl⟩
theorem zB2 {x:Str} {c:UInt8} (hx:x.length≤2000000):(zeQ x [c]=some (x, [],false)∧ ∀b∈x,b≠c)∨ ∃p q,x=p++c::q∧(∀b∈p,b≠c)∧zeQ x [c]=some (p,q,true):=by
 have hi:zaT x [c]=some (Lib.indexByte x c):=rfl
 rcases zgg x c with⟨e,h0⟩|⟨p,q,rfl,hp,e⟩
 ·refine .inl ⟨?_,h0⟩
  unfold zeQ zb4
  rw [hi,Option.bind_some,e,if_neg (by simp)]
  rfl
 ·refine .inr ⟨p,q,rfl,hp, ?_⟩
  rw [List.length_append,List.length_cons]at hx
  have hw:IntKind.i64.wrap ((p.length:Int)+(([c]:Str).length:Int))=((p.length+1:Nat):Int):=by rw [List.length_singleton,zaJ (by omega) (by omega)];omega
  unfold zeQ zb4
  rw [hi,Option.bind_some,e,if_pos (by simp),zai (by rw [List.length_append,List.length_cons];omega),hw,zai (by rw [List.length_append,List.length_cons];omega),zCz,zC2,List.take_length]
  have e1:(p++c::q).drop (p.length+1)=q:=by simp
  have e2:(p++c::q).take p.length=p:=by simp
  rw [e1,e2]
  rfl
theorem zBo {s:Str} (h:(47:UInt8)∈s):field s=false:=by
 unfold field zhU
 have:(s.all fun b=>ze2 b||([]:Str).contains b)=false:=by
  rw [List.all_eq_false]
  exact⟨47,h,by decide⟩
 rw [this,Bool.and_false]
theorem zzd {t:zab} {n:Str} (ht:t.fName.length≤2000000) (hn:n.length≤2000000):zb8 t n=some (head t n++ [47]):=by
 unfold zb8 head
 rw [zai (by rw [List.length_singleton];omega),zai (by rw [List.length_append,List.length_singleton];omega),zai (by rw [List.length_append,List.length_append,List.length_singleton,List.length_singleton];omega)]
theorem zAY {t:zab} {n k:Str} (ht:t.fName.length≤2000000) (hn:n.length≤2000000) (hk:k.length≤1000000) (hh: ∀b∈head t n,b≠47): ∃a b,zcf t n k=some (a,b,zbO t n k):=by
 unfold zcf
 rw [zzd ht hn,Option.bind_some,zEh (by omega),Option.bind_some]
 cases hp:(head t n++ [47]).isPrefixOf k with
 |false=>
  have hno:zbO t n k=false:=by
   unfold zbO
   split
   ·rename_i x y z hs
    cases hx:x==head t n with
    |false=>simp
    |true=>
     obtain⟨q,hq⟩:=zxr hs
     rw [←Bool.not_eq_true,List.isPrefixOf_iff_prefix]at hp
     refine absurd ⟨q, ?_⟩ hp
     rw [hq,(by simpa using hx:x=head t n)]
     simp
   ·rfl
  rw [hno]
  simp only [Bool.false_eq_true,if_false]
  rcases zB2 (x:=k) (c:=47) (by omega)with⟨e,_⟩|⟨p,q,_,_,e⟩
  ·rw [e];exact⟨_,_,rfl⟩
  ·rw [e];exact⟨_,_,rfl⟩
 |true=>
  obtain⟨rest,hrest⟩:=List.isPrefixOf_iff_prefix.1 hp
  have hk2:k=head t n++47::rest:=by rw [←hrest];simp
  have hd:k.drop (head t n++ [47]).length=rest:=by rw [←hrest,List.drop_left]
  have hsp:za4 47 k=head t n::za4 47 rest:=by rw [hk2,zha hh]
  have hlen:rest.length≤1000000:=by
   have:k.length=(head t n).length+(rest.length+1):=by rw [hk2,List.length_append,List.length_cons]
   omega
  simp only [if_true,hd]
  unfold zbO
  rw [hsp]
  rcases zB2 (x:=rest) (c:=47) (by omega)with⟨e,h0⟩|⟨p,q,rfl,hp2,e⟩
  ·rw [e,zdO h0]
   exact⟨_,_,rfl⟩
  ·rw [e,zha hp2,Option.bind_some]
   rw [List.length_append,List.length_cons]at hlen
   simp only [if_true]
   rw [zpn (s:=p) (by omega),Option.bind_some]
   rcases zgg q 47 with⟨_,h0⟩|⟨p3,q3,rfl,hp3,_⟩
   ·rw [zdO h0]
    dsimp only
    rw [beq_self_eq_true,Bool.true_and]
    cases field p with
    |false=>exact⟨_,_,rfl⟩
    |true=>
     rw [if_pos rfl,zpn (s:=q) (by omega),Option.bind_some]
     cases field q with
     |false=>exact⟨_,_,rfl⟩
     |true=>exact⟨_,_,rfl⟩
   ·have hf:field (p3++47::q3)=false:=zBo (by simp)
    rw [zha hp3]
    cases hq:za4 47 q3 with
    |nil=>exact absurd hq (zpF _ _)
    |cons x xs=>
     dsimp only
     cases field p with
     |false=>exact⟨_,_,rfl⟩
     |true=>
      rw [if_pos rfl,zpn (by rw [List.length_append,List.length_cons]at hlen ⊢;omega),Option.bind_some,hf]
      exact⟨_,_,rfl⟩
end Go.Proofs.YtbmbkgalkfmjdaaGreatDoor
end
section
namespace Go.Proofs.YtbmbkgalkfmjdaaGreatDoor
open Go.RowKit
set_option maxRecDepth 100000
def zdA (t:zab) (n:Str) (l:List zaa):List Str:=(l.filter fun w=>zbO t n w.fKey).map (·.fKey)
theorem zxC {t:zab} {n:Str} {l:List zaa} (ht:t.fName.length≤2000000) (hn:n.length≤2000000) (hl:l.length≤2000000) (h: ∀w∈l,zkR w):zcN t n l=some (zdA t n l):=by
 have h1:=zdx (xs:=l) (body:=fun s:List Str × Int=>zb0 t n l s.1 s.2) (fun i (o:List Str)=>(o,i)) (fun o w=>if zbO t n w.fKey=true then o++ [w.fKey]else o) (fun o=>some o) (fun i o=>o.length≤i)
  (fun i hi o hI=>by
   have hI:o.length≤i:=hI
   have htw:=h _ (List.getElem_mem hi)
   obtain⟨a,b,e⟩:=zAD (t:=t) (n:=n) (k:=l[i].fKey) ht hn (by have:=htw.1;omega)
   have hw:=zd5 hi (by omega:l.length≤_)
   refine⟨?_,by
    show List.length (if zbO t n l[i].fKey=true then o++ [l[i].fKey]else o)≤i+1
    split
    ·rw [List.length_append,List.length_singleton];omega
    ·omega⟩
   show zb0 t n l o i=_
   unfold zb0
   rw [if_pos (by simpa using hi),zam hi,Option.bind_some,e,Option.bind_some,hw]
   cases hb:zbO t n l[i].fKey with
   |false=>rfl
   |true=>
    have hq:((o.length:Int)+(([l[i].fKey]:List Str).length:Int))*16≤140737488355328∧(o.length:Int)+(([l[i].fKey]:List Str).length:Int)≤140737488355328:=by
     rw [List.length_singleton];omega
    rw [if_pos rfl,zai hq,if_pos rfl])
  (fun o _=>by
   show zb0 t n l o l.length=_
   unfold zb0
   rw [if_neg (by simp)]) (s:= []) (by simp)
 rw [ziW (fun w:zaa=>zbO t n w.fKey) (fun w=>w.fKey)]at h1
 exact h1.1
theorem zxv {t:zab} {n:Str} {l:List zaa} (ht:t.fName.length≤2000000) (hn:n.length≤2000000) (hh: ∀b∈head t n,b≠47) (hl:l.length≤2000000) (h: ∀w∈l,zkR w):zbe t n l=some (zdA t n l):=by
 have h1:=zdx (xs:=l) (body:=fun s:Int × List Str=>zaY t n l s.1 s.2) (fun i (o:List Str)=>(i,o)) (fun o w=>if zbO t n w.fKey=true then o++ [w.fKey]else o) (fun o=>some o) (fun i o=>o.length≤i)
  (fun i hi o hI=>by
   have hI:o.length≤i:=hI
   have htw:=h _ (List.getElem_mem hi)
   obtain⟨a,b,e⟩:=zAY (t:=t) (n:=n) (k:=l[i].fKey) ht hn (by have:=htw.1;omega) hh
   have hw:=zd5 hi (by omega:l.length≤_)
   refine⟨?_,by
    show List.length (if zbO t n l[i].fKey=true then o++ [l[i].fKey]else o)≤i+1
    split
    ·rw [List.length_append,List.length_singleton];omega
    ·omega⟩
   show zaY t n l i o=_
   unfold zaY
   rw [if_pos (by simpa using hi),zam hi,Option.bind_some,e,Option.bind_some,hw]
   cases hb:zbO t n l[i].fKey with
   |false=>rfl
   |true=>
    have hq:((o.length:Int)+(([l[i].fKey]:List Str).length:Int))*16≤140737488355328∧(o.length:Int)+(([l[i].fKey]:List Str).length:Int)≤140737488355328:=by
     rw [List.length_singleton];omega
    rw [if_pos rfl,zai hq,if_pos rfl])
  (fun o _=>by
   show zaY t n l l.length o=_
   unfold zaY
   rw [if_neg (by simp)]) (s:= []) (by simp)
 rw [ziW (fun w:zaa=>zbO t n w.fKey) (fun w=>w.fKey)]at h1
 exact h1.1
def less (a b:List Str):List Str:=a.filter fun k=> !b.contains k
theorem zzW {a b:List Str} (ha:a.length≤2000000) (hb:b.length≤2000000):ziy a b=some (less a b):=by
 have h1:=zdx (xs:=a) (body:=fun s:List Str × Int=>zcM a b s.1 s.2) (fun i (o:List Str)=>(o,i)) (fun o k=>if(!b.contains k)=true then o++ [k]else o) (fun o=>some o) (fun i o=>o.length≤i)
  (fun i hi o hI=>by
   have hI:o.length≤i:=hI
   have hw:=zd5 hi (by omega:a.length≤_)
   have hx:decide (zhw (fun x=>x==a[i]) b<0)= !b.contains a[i]:=by
    rw [←zzL,←zjb,←decide_not]
    rw [decide_eq_decide];omega
   refine⟨?_,by
    show List.length (if(!b.contains a[i])=true then o++ [a[i]]else o)≤i+1
    split
    ·rw [List.length_append,List.length_singleton];omega
    ·omega⟩
   show zcM a b o i=_
   unfold zcM
   rw [if_pos (by simpa using hi),zam hi,Option.bind_some,zDD hb,Option.bind_some,hw,hx]
   cases hc:b.contains a[i]with
   |true=>rfl
   |false=>
    have hq:((o.length:Int)+(([a[i]]:List Str).length:Int))*16≤140737488355328∧(o.length:Int)+(([a[i]]:List Str).length:Int)≤140737488355328:=by
     rw [List.length_singleton];omega
    rw [if_pos (by rfl),zai hq,if_pos (by rfl)])
  (fun o _=>by
   show zcM a b o a.length=_
   unfold zcM
   rw [if_neg (by simp)]) (s:= []) (by simp)
 rw [ziW (fun k:Str=> !b.contains k) (fun k=>k)]at h1
 have h2:=h1.1
 rw [List.nil_append,List.map_id']at h2
 exact h2
theorem zy4 {a b:List Str} (ha:a.length≤2000000) (hb:b.length≤2000000):zfe a b=some (less a b):=by
 unfold zfe zaX zdM
 rw [zlh (by omega) (by omega),Option.bind_some,zai (by omega),zn1 (fun k=>b.contains k) (fun k _=>by simp only [zhq,zBD hb,Option.bind_some])]
 rfl
end Go.Proofs.YtbmbkgalkfmjdaaGreatDoor
end
section
namespace Go.Proofs.YtbmbkgalkfmjdaaGreatDoor
open Go.RowKit
set_option maxRecDepth 100000
structure zht (t:zab) (n:Str) (x:zbs):Prop where
 at_:getI t.fIdxs (zhw (fun y:zbs=>y.fName==n) t.fIdxs)=some x
 name:x.fName=n
 c0:1≤x.fCol
 c1:x.fCol≤(t.fCols.length:Int)-1
def zeB (r:zbE) (c:Int):Str:=(r.fVals[c.toNat]?).getD []
def zdn (t:zab) (n:Str) (c:Int) (r:zbE):Str:=head t n++ [47]++zeB r c++ [47]++zeB r 0
structure zrW (t:zab) (r:zbE):Prop where
 len:r.fVals.length=t.fCols.length
 small:Small r.fVals
theorem zzr {t:zab} {l:List zaa} (h: ∀w∈l,zkR w): ∀r∈rows t l,zrW t r:=by
 intro r hr
 obtain⟨w,hw,rfl⟩:=List.mem_map.1 hr
 obtain⟨h1,h2⟩:=List.mem_filter.1 hw
 have h3:zbj t w=true:=h2
 unfold zbj zaq at h3
 simp only [Bool.and_eq_true,beq_iff_eq]at h3
 exact⟨by have:=h3.1.1;omega,zmj (h w h1)⟩
theorem zp3 {t:zab} {r:zbE} (hr:zrW t r) {c:Int} (h0:0≤c) (h1:c≤(t.fCols.length:Int)-1):getI r.fVals c=some (zeB r c)∧(zeB r c).length≤2000000:=by
 obtain⟨y,e,hm,e2⟩:=zgK (xs:=r.fVals) h0 (by have:=hr.len;omega)
 have hv:zeB r c=y:=by simp [zeB,e2]
 rw [hv]
 exact⟨e,hr.small.each y hm⟩
theorem zwF {t:zab} {n:Str} {x:zbs} {r:zbE} (ht:t.fName.length≤2000000) (hn:n.length≤2000000) (hx:zht t n x) (hr:zrW t r):zbA t x r=some (zdn t n x.fCol r):=by
 obtain⟨g1,l1⟩:=zp3 hr (c:=x.fCol) (by have:=hx.c0;omega) hx.c1
 obtain⟨g2,l2⟩:=zp3 hr (c:=0) (by omega) (by have:=hx.c0;have:=hx.c1;omega)
 have e:=hx.name
 subst e
 unfold zbA zdn
 rw [zai (by simp only [head,List.length_append,List.length_cons,List.length_nil];omega),zai (by simp only [head,List.length_append,List.length_cons,List.length_nil];omega),zai (by simp only [head,List.length_append,List.length_cons,List.length_nil];omega),g1,Option.bind_some,
  zai (by simp only [head,List.length_append,List.length_cons,List.length_nil];omega),zai (by simp only [head,List.length_append,List.length_cons,List.length_nil];omega),g2,Option.bind_some,
  zai (by simp only [head,List.length_append,List.length_cons,List.length_nil];omega)]
 rfl
theorem ztu {t:zab} {n:Str} {x:zbs} {r:zbE} (hS:zcH t) (hn:n.length≤2000000) (hx:zht t n x) (hr:zrW t r):zaQ t n r=some (zdn t n x.fCol r):=by
 obtain⟨g1,l1⟩:=zp3 hr (c:=x.fCol) (by have:=hx.c0;omega) hx.c1
 obtain⟨g2,l2⟩:=zp3 hr (c:=0) (by omega) (by have:=hx.c0;have:=hx.c1;omega)
 have ht:=hS.name
 have hi:zbR t n=some x:=by
  unfold zbR
  rw [zwj hS,Option.bind_some,hx.at_];rfl
 unfold zaQ zdn
 rw [zzd ht hn,Option.bind_some,hi,Option.bind_some,g1,Option.bind_some,zai (by simp only [head,List.length_append,List.length_cons,List.length_nil];omega),zai (by simp only [head,List.length_append,List.length_cons,List.length_nil];omega),g2,Option.bind_some,zai (by simp only [head,List.length_append,List.length_cons,List.length_nil];omega)]
def wanted (t:zab) (n:Str) (x:zbs) (l:List zaa):List Str:=(rows t l).map (zdn t n x.fCol)
theorem rows_len (t:zab) (l:List zaa):(rows t l).length≤l.length:=by
 unfold rows
 rw [List.length_map]
 exact List.length_filter_le _ _
theorem zyH {t:zab} {n:Str} {x:zbs} {l:List zaa} (hS:zcH t) (hn:n.length≤2000000) (hx:zht t n x) (hl:l.length≤2000000) (h: ∀w∈l,zkR w):zfr t n l=some (wanted t n x l):=by
 have hin:=zzr (t:=t) h
 have hrl:=rows_len t l
 unfold zfr
 rw [ztt hS.name hl h,Option.bind_some]
 have h1:=zdx (xs:=rows t l) (body:=fun s:List Str × Int=>zcc t n (rows t l) s.1 s.2) (fun i (o:List Str)=>(o,i)) (fun o r=>o++ [zdn t n x.fCol r]) (fun o=>some o) (fun i o=>o.length=i)
  (fun i hi o hI=>by
   have hI:o.length=i:=hI
   have hw:=zd5 hi (by omega)
   refine⟨?_,by show List.length _=_;rw [List.length_append,List.length_singleton];omega⟩
   show zcc t n (rows t l) o i=_
   unfold zcc
   have hq:((o.length:Int)+(([zdn t n x.fCol (rows t l)[i]]:List Str).length:Int))*16≤140737488355328∧(o.length:Int)+(([zdn t n x.fCol (rows t l)[i]]:List Str).length:Int)≤140737488355328:=by
    rw [List.length_singleton];omega
   rw [if_pos (by simpa using hi),zam hi,Option.bind_some,zwC hS,Option.bind_some,hx.at_,Option.bind_some,zwF hS.name hn hx (hin _ (List.getElem_mem hi)),Option.bind_some,zai hq,hw])
  (fun o _=>by
   show zcc t n (rows t l) o (rows t l).length=_
   unfold zcc
   rw [if_neg (by simp)]) (s:= []) rfl
 rw [zvd]at h1
 exact h1.1
theorem zyX {t:zab} {n:Str} {x:zbs} {l:List zaa} (hS:zcH t) (ht:t.fName.length=1) (hn:n.length≤2000000) (hx:zht t n x) (hl:l.length≤2000000) (h: ∀w∈l,zkR w):zcl t n l=some (wanted t n x l):=by
 have hin:=zzr (t:=t) h
 have hrl:=rows_len t l
 unfold zcl
 rw [zAL ht hl h,Option.bind_some]
 have h1:=zdx (xs:=rows t l) (body:=fun s:Int × List Str=>zba t n (rows t l) s.1 s.2) (fun i (o:List Str)=>(i,o)) (fun o r=>o++ [zdn t n x.fCol r]) (fun o=>some o) (fun i o=>o.length=i)
  (fun i hi o hI=>by
   have hI:o.length=i:=hI
   have hw:=zd5 hi (by omega)
   refine⟨?_,by show List.length _=_;rw [List.length_append,List.length_singleton];omega⟩
   show zba t n (rows t l) i o=_
   unfold zba
   have hq:((o.length:Int)+(([zdn t n x.fCol (rows t l)[i]]:List Str).length:Int))*16≤140737488355328∧(o.length:Int)+(([zdn t n x.fCol (rows t l)[i]]:List Str).length:Int)≤140737488355328:=by
    rw [List.length_singleton];omega
   rw [if_pos (by simpa using hi),zam hi,Option.bind_some,ztu hS hn hx (hin _ (List.getElem_mem hi)),Option.bind_some,zai hq,hw])
  (fun o _=>by
   show zba t n (rows t l) (rows t l).length o=_
   unfold zba
   rw [if_neg (by simp)]) (s:= []) rfl
 rw [zvd]at h1
 exact h1.1
end Go.Proofs.YtbmbkgalkfmjdaaGreatDoor
end
section
namespace Go.Proofs.YtbmbkgalkfmjdaaGreatDoor
open Go.RowKit
set_option maxRecDepth 100000
def holds (t:zab) (n:Str) (x:zbs) (lv:Int) (l:List zaa):Bool:=
 if lv==0 then((zdA t n l).length:Int)==0
 else(((less (zdA t n l) (wanted t n x l)).length:Int)==0)&&((lv==1)||(((less (wanted t n x l) (zdA t n l)).length:Int)==0))
theorem zqx (t:zab) (n:Str) (l:List zaa):(zdA t n l).length≤l.length:=by
 unfold zdA;rw [List.length_map];exact List.length_filter_le _ _
theorem zsh (t:zab) (n:Str) (x:zbs) (l:List zaa):(wanted t n x l).length≤l.length:=by
 unfold wanted;rw [List.length_map];exact rows_len t l
theorem zEO {t:zab} {n:Str} {x:zbs} {lv:Int} {l:List zaa} (hS:zcH t) (ht:t.fName.length≤2000000) (hn:n.length≤2000000) (hx:zht t n x) (hl:l.length≤2000000) (h: ∀w∈l,zkR w) (ha:zhT t n l=some true):zhO t n lv l=some (holds t n x lv l):=by
 have hE:=zxC ht hn hl h
 have hW:=zyH hS hn hx hl h
 have e1:=zqx t n l
 have e2:=zsh t n x l
 have h1:=zzW (a:=zdA t n l) (b:=wanted t n x l) (by omega) (by omega)
 have h2:=zzW (a:=wanted t n x l) (b:=zdA t n l) (by omega) (by omega)
 unfold zhO holds
 by_cases h0:(lv==0)=true
 ·rw [if_pos h0,if_pos h0,hE,Option.bind_some]
 ·rw [if_neg h0,if_neg h0]
  unfold zjX zlD
  rw [ha,hE,hW]
  simp only [Option.bind_some,h1,h2,Bool.not_true,Bool.false_eq_true,if_false]
theorem zAI {t:zab} {n:Str} {x:zbs} {lv:Int} {l:List zaa} (hS:zcH t) (ht:t.fName.length=1) (hn:n.length≤2000000) (hh: ∀b∈head t n,b≠47) (hx:zht t n x) (hl:l.length≤2000000) (h: ∀w∈l,zkR w):zb7 t n lv l=some (holds t n x lv l):=by
 have hE:=zxv (t:=t) (by omega) hn hh hl h
 have hW:=zyX hS ht hn hx hl h
 have e1:=zqx t n l
 have e2:=zsh t n x l
 have h1:=zy4 (a:=zdA t n l) (b:=wanted t n x l) (by omega) (by omega)
 have h2:=zy4 (a:=wanted t n x l) (b:=zdA t n l) (by omega) (by omega)
 unfold zb7 holds
 by_cases h0:(lv==0)=true
 ·rw [if_pos h0,if_pos h0,hE,Option.bind_some]
 ·rw [if_neg h0,if_neg h0]
  unfold zct zen
  rw [hE,hW]
  simp only [Option.bind_some,h1,h2]
  by_cases h3:(lv==1)=true
  ·rw [if_pos h3,h3,Bool.true_or,Bool.and_true]
  ·rw [if_neg h3,Bool.eq_false_iff.2 h3,Bool.false_or]
   by_cases h4:(((less (zdA t n l) (wanted t n x l)).length:Int)==0)=true
   ·rw [if_pos h4,h4,Bool.true_and]
   ·rw [if_neg h4,Bool.eq_false_iff.2 h4,Bool.false_and]
end Go.Proofs.YtbmbkgalkfmjdaaGreatDoor
end
section
namespace Go.Proofs.YtbmbkgalkfmjdaaGreatDoor
open Go.RowKit
set_option maxRecDepth 100000
def znE (t:zab) (n:Str):Bool:=zad t&&decide (zhw (fun x:zbs=>x.fName==n) t.fIdxs≥0)
def ztT (t:zab) (n:Str) (l:List zaa):Bool:=znE t n&&zbT l
theorem zz8 {t:zab} {n:Str} (hS:zcH t):zeX t n=some (znE t n):=by
 unfold zeX znE
 rw [zwr hS,Option.bind_some,zwj hS,Option.bind_some]
 cases zad t<;>simp
theorem zAt {t:zab} {n:Str} {l:List zaa} (hS:zcH t) (hW:zmR l):zeV t n l=some (ztT t n l):=by
 unfold zeV ztT
 rw [zz8 hS,Option.bind_some,zyF hW,Option.bind_some]
 cases znE t n<;>simp
theorem zCQ {l:List zaa} (h:zbT l=true): ∀w∈l,zkR w:=by
 intro w hw
 unfold zbT zeO at h
 simp only [Bool.and_eq_true]at h
 have h1:=List.all_eq_true.1 h.1.2.1 w hw
 unfold zhc goodKey zkM zgf at h1
 simp only [Bool.and_eq_true,decide_eq_true_eq]at h1
 have h2:=za3.1 h1.1.1
 have h3:=h1.2.1.1
 exact⟨by omega,by omega⟩
theorem zgE {s:Str} {k:Int} (h:za8 s k=true):(s.length:Int)≤k∧ ∀b∈s,b≠47:=by
 unfold za8 at h
 simp only [Bool.and_eq_true]at h
 refine⟨(za3.1 h.2).2,fun b hb e=> ?_⟩
 have h1:=List.all_eq_true.1 h.1 b hb
 subst e
 exact absurd h1 (by decide)
theorem zgJ {s:Str} (h:za8 s 1=true):s.length=1:=by
 unfold za8 at h
 simp only [Bool.and_eq_true]at h
 have:=za3.1 h.2
 omega
theorem zfd {t:zab} (h:zad t=true):za8 t.fName 1=true:=by
 unfold zad at h
 simp only [Bool.and_eq_true]at h
 exact h.1.1.1
theorem zdT {t:zab} (h:zad t=true) {x:zbs} (hx:x∈t.fIdxs):za8 x.fName 1=true∧inB x.fCol 1 ((t.fCols.length:Int)-1)=true:=by
 unfold zad at h
 simp only [Bool.and_eq_true]at h
 obtain⟨i,hi,rfl⟩:=List.mem_iff_getElem.1 hx
 have h1:=List.all_eq_true.1 h.2 i (List.mem_range.2 hi)
 unfold zl3 at h1
 simp only [Bool.and_eq_true,List.getElem?_eq_getElem hi,Option.getD_some]at h1
 exact⟨h1.1.1.1,h1.1.1.2⟩
theorem zBP {t:zab} {n:Str} (h:znE t n=true): ∃x,zht t n x∧t.fName.length=1∧n.length=1∧ ∀b∈head t n,b≠47:=by
 unfold znE at h
 simp only [Bool.and_eq_true,decide_eq_true_eq]at h
 obtain⟨x,h1,h2,h3⟩:=zv9 h.2
 have h4:=zdT h.1 h3
 have h5:=za3.1 h4.2
 have h6:x.fName=n:=by simpa using h2
 have h7:=zfd h.1
 have h8:=h6▸h4.1
 refine⟨x,⟨h1,h6,h5.1,h5.2⟩,zgJ h7,zgJ h8,fun b hb=> ?_⟩
 unfold head at hb
 simp only [List.mem_append,List.mem_singleton]at hb
 rcases hb with(hb|hb)|hb
 ·exact(zgE h7).2 b hb
 ·subst hb;decide
 ·exact(zgE h8).2 b hb
end Go.Proofs.YtbmbkgalkfmjdaaGreatDoor
end
section
namespace Go.Proofs.YtbmbkgalkfmjdaaGreatDoor
open Go.RowKit
abbrev bl (a b:List UInt8):Bool:=Op.bytesLess a b
theorem zhN: ∀a:List UInt8,bl a a=false
 | []=>rfl
 |x::a=>by
  have h: ¬x<x:=fun h=>by have:=UInt8.lt_iff_toNat_lt.1 h;omega
  show Op.bytesLess (x::a) (x::a)=false
  simp only [Op.bytesLess,h,decide_false,Bool.false_or,beq_self_eq_true,Bool.true_and]
  exact zhN a
theorem zvP (x y:UInt8) (a b:List UInt8):bl (x::a) (y::b)=true↔x.toNat<y.toNat∨x=y∧bl a b=true:=by
 show Op.bytesLess (x::a) (y::b)=true↔_
 simp only [Op.bytesLess,Bool.or_eq_true,decide_eq_true_eq,Bool.and_eq_true,beq_iff_eq,UInt8.lt_iff_toNat_lt]
theorem zfn: ∀{a b c:List UInt8},bl a b=true→bl b c=true→bl a c=true
 | [],_, [],_,h=>by rename_i b _;cases b<;>cases h
 | [],_,_::_,_,_=>rfl
 |_::_, [],_,h,_=>by cases h
 |_::_,_::_, [],_,h=>by cases h
 |x::a,y::b,z::c,h1,h2=>by
  rw [zvP]at*
  rcases h1 with h1|⟨rfl,h1⟩<;>rcases h2 with h2|⟨rfl,h2⟩
  ·exact .inl (by omega)
  ·exact .inl h1
  ·exact .inl h2
  ·exact .inr ⟨rfl,zfn h1 h2⟩
theorem zBY: ∀a b:List UInt8,bl a b=true∨a=b∨bl b a=true
 | [], []=> .inr (.inl rfl)
 | [],_::_=> .inl rfl
 |_::_, []=> .inr (.inr rfl)
 |x::a,y::b=>by
  rw [zvP,zvP]
  rcases Nat.lt_trichotomy x.toNat y.toNat with h|h|h
  ·exact .inl (.inl h)
  ·have h0:x=y:=UInt8.toNat_inj.1 h
   subst h0
   rcases zBY a b with h1|h1|h1
   ·exact .inl (.inr ⟨rfl,h1⟩)
   ·exact .inr (.inl (by rw [h1]))
   ·exact .inr (.inr (.inr ⟨rfl,h1⟩))
  ·exact .inr (.inr (.inl h))
theorem zpq {a b:List UInt8} (h:bl a b=true):bl b a=false:=by
 cases h2:bl b a with
 |false=>rfl
 |true=>have:=zfn h h2;rw [zhN]at this;cases this
theorem zkp {a b:List UInt8} (h:bl a b=true):a≠b:=by
 rintro rfl;rw [zhN]at h;cases h
theorem zkv {a b:List UInt8} (h:bl a b=false) (hn:a≠b):bl b a=true:=by
 rcases zBY a b with h1|h1|h1
 ·rw [h]at h1;cases h1
 ·exact absurd h1 hn
 ·exact h1
section
variable {α:Type} (key:α→List UInt8)
def zow (l:List α):Prop:=l.Pairwise fun a b=>bl (key a) (key b)=true
def zgA (x:α):List α→List α
 | []=> [x]
 |y::l=>if bl (key x) (key y)=true then x::y::l else if key x=key y then x::l else y::zgA x l
variable {key}
theorem zow.nodupKey {l:List α} (h:zow key l) {a b:α} (ha:a∈l) (hb:b∈l) (e:key a=key b):a=b:=by
 induction l with
 |nil=>cases ha
 |cons y l ih=>
  have h1:=List.pairwise_cons.1 h
  rcases List.mem_cons.1 ha with q1|q1<;>rcases List.mem_cons.1 hb with q2|q2
  ·rw [q1,q2]
  ·exact absurd (q1▸e) (zkp (h1.1 _ q2))
  ·exact absurd (q2▸e.symm) (zkp (h1.1 _ q1))
  ·exact ih h1.2 q1 q2
theorem zny {x:α}: ∀{l:List α},zow key l→ ∀y,y∈zgA key x l↔y=x∨y∈l∧key y≠key x
 | [],_,y=>by simp [zgA]
 |z::l,h,y=>by
  have h1:=List.pairwise_cons.1 h
  unfold zgA
  split
  ·rename_i hb
   constructor
   ·intro hy
    rcases List.mem_cons.1 hy with rfl|hy
    ·exact .inl rfl
    ·refine .inr ⟨hy, ?_⟩
     rcases List.mem_cons.1 hy with rfl|hy
     ·exact(zkp hb).symm
     ·exact(zkp (zfn hb (h1.1 _ hy))).symm
   ·rintro(rfl|⟨hy,_⟩)
    ·simp
    ·exact List.mem_cons_of_mem _ hy
  ·rename_i hb
   split
   ·rename_i he
    constructor
    ·intro hy
     rcases List.mem_cons.1 hy with rfl|hy
     ·exact .inl rfl
     ·exact .inr ⟨List.mem_cons_of_mem _ hy,fun e=>zkp (h1.1 _ hy) (by rw [e,he])⟩
    ·rintro(rfl|⟨hy,hn⟩)
     ·simp
     ·rcases List.mem_cons.1 hy with rfl|hy
      ·exact absurd he.symm hn
      ·exact List.mem_cons_of_mem _ hy
   ·rename_i he
    rw [List.mem_cons,zny h1.2]
    constructor
    ·rintro(rfl|rfl|⟨hy,hn⟩)
     ·exact .inr ⟨by simp,fun e=>he e.symm⟩
     ·exact .inl rfl
     ·exact .inr ⟨List.mem_cons_of_mem _ hy,hn⟩
    ·rintro(rfl|⟨hy,hn⟩)
     ·exact .inr (.inl rfl)
     ·rcases List.mem_cons.1 hy with rfl|hy
      ·exact .inl rfl
      ·exact .inr (.inr ⟨hy,hn⟩)
theorem zkd {x:α}: ∀{l:List α},zow key l→zow key (zgA key x l)
 | [],_=>by simp [zgA,zow]
 |z::l,h=>by
  have h1:=List.pairwise_cons.1 h
  unfold zgA
  split
  ·rename_i hb
   refine List.pairwise_cons.2 ⟨fun y hy=> ?_,h⟩
   rcases List.mem_cons.1 hy with rfl|hy
   ·exact hb
   ·exact zfn hb (h1.1 _ hy)
  ·rename_i hb
   split
   ·rename_i he
    exact List.pairwise_cons.2 ⟨fun y hy=>by rw [he];exact h1.1 _ hy,h1.2⟩
   ·rename_i he
    refine List.pairwise_cons.2 ⟨fun y hy=> ?_,zkd h1.2⟩
    rcases(zny h1.2 y).1 hy with rfl|⟨hy,_⟩
    ·exact zkv (by simpa using hb) he
    ·exact h1.1 _ hy
theorem zow.ext: ∀{a b:List α},zow key a→zow key b→(∀x,x∈a↔x∈b)→a=b
 | [], [],_,_,_=>rfl
 | [],y::b,_,_,h=>absurd ((h y).2 (by simp)) (by simp)
 |x::a, [],_,_,h=>absurd ((h x).1 (by simp)) (by simp)
 |x::a,y::b,ha,hb,h=>by
  have h1:=List.pairwise_cons.1 ha
  have h2:=List.pairwise_cons.1 hb
  have e:x=y:=by
   rcases List.mem_cons.1 ((h x).1 (by simp))with e|hx
   ·exact e
   ·rcases List.mem_cons.1 ((h y).2 (by simp))with e|hy
    ·exact e.symm
    ·have:=zfn (h1.1 _ hy) (h2.1 _ hx)
     rw [zhN]at this;cases this
  subst e
  rw [zow.ext h1.2 h2.2 fun z=> ?_]
  constructor
  ·intro hz
   rcases List.mem_cons.1 ((h z).1 (List.mem_cons_of_mem _ hz))with rfl|hz2
   ·have:=h1.1 _ hz;rw [zhN]at this;cases this
   ·exact hz2
  ·intro hz
   rcases List.mem_cons.1 ((h z).2 (List.mem_cons_of_mem _ hz))with rfl|hz2
   ·have:=h2.1 _ hz;rw [zhN]at this;cases this
   ·exact hz2
theorem zow.filter {l:List α} (h:zow key l) (p:α→Bool):zow key (l.filter p):=List.Pairwise.filter p h
theorem zow.sub {a b:List α} (h:zow key b) (hs:a.Sublist b):zow key a:=List.Pairwise.sublist hs h
theorem zw3 {x:α}: ∀(l:List α),(zgA key x l).length≤l.length+1
 | []=>by simp [zgA]
 |y::l=>by
  unfold zgA
  have:=zw3 (x:=x) l
  split
  ·simp
  ·split
   ·simp
   ·simp only [List.length_cons];omega
end
end Go.Proofs.YtbmbkgalkfmjdaaGreatDoor
end
section
namespace Go.Proofs.YtbmbkgalkfmjdaaGreatDoor
open Go.RowKit
set_option maxRecDepth 100000
def ziI {α:Type} (r:α→α→Bool):List α→Bool
 | []=>true
 | [_]=>true
 |x::y::l=>r x y&&ziI r (y::l)
theorem znd {α:Type} {r:α→α→Bool} (ht: ∀a b c,r a b=true→r b c=true→r a c=true): ∀{l:List α},ziI r l=true↔l.Pairwise fun a b=>r a b=true
 | []=>by simp [ziI]
 | [_]=>by simp [ziI]
 |x::y::l=>by
  rw [ziI,Bool.and_eq_true,znd ht]
  constructor
  ·rintro⟨h1,h2⟩
   refine List.pairwise_cons.2 ⟨fun z hz=> ?_,h2⟩
   rcases List.mem_cons.1 hz with rfl|hz
   ·exact h1
   ·exact ht _ _ _ h1 ((List.pairwise_cons.1 h2).1 z hz)
  ·intro h
   have h:=List.pairwise_cons.1 h
   exact⟨h.1 y (by simp),h.2⟩
theorem zvQ {α:Type} {r:α→α→Bool} {l:List α} {q:Nat} (h:q+1<l.length):ziI r (l.drop q)=(r l[q] l[q+1]&&ziI r (l.drop (q+1))):=by
 rw [List.drop_eq_getElem_cons (show q<l.length by omega),List.drop_eq_getElem_cons h,ziI]
def zhu {α:Type} (lt:α→Bool) (l:List α):Nat:=(l.takeWhile lt).length
theorem zom {α:Type} (lt:α→Bool): ∀l:List α,zhu lt l≤l.length
 | []=>by simp [zhu]
 |x::l=>by
  have:=zom lt l
  unfold zhu at this ⊢
  rw [List.takeWhile_cons]
  split<;>simp<;>omega
theorem zvO {α:Type} {lt:α→Bool}: ∀{l:List α} {i:Nat} (h:i<zhu lt l),lt (l[i]'(Nat.lt_of_lt_of_le h (zom lt l)))=true
 |x::l,i,h=>by
  unfold zhu at h
  rw [List.takeWhile_cons]at h
  split at h
  ·rename_i hx
   cases i with
   |zero=>exact hx
   |succ i=>exact zvO (l:=l) (i:=i) (by unfold zhu;simpa using h)
  ·simp at h
theorem zzp {α:Type} {lt:α→Bool}: ∀{l:List α} (h:zhu lt l<l.length),lt l[zhu lt l]=false
 |x::l,h=>by
  by_cases hx:lt x=true
  ·have e:zhu lt (x::l)=zhu lt l+1:=by unfold zhu;rw [List.takeWhile_cons,if_pos hx];rfl
   have:=zzp (l:=l) (lt:=lt) (by rw [e]at h;simpa using h)
   simp only [e,List.getElem_cons_succ]
   exact this
  ·have e:zhu lt (x::l)=0:=by unfold zhu;rw [List.takeWhile_cons,if_neg hx];rfl
   simp only [e,List.getElem_cons_zero]
   simpa using hx
theorem zCy {α β:Type} {xs:List α} {body:Int × Int→Option ((Int × Int) ⊕ Option β)} {fin:Int→Option β} (lt:α→Bool) (hm: ∀i j (hj:j<xs.length) (hi:i≤j),lt xs[j]=true→lt xs[i]=true)
  (hs: ∀i j:Nat,i<j→j≤xs.length→(h:(i+j)/2<xs.length)→body ((i:Int),(j:Int))=some (.inl (if lt xs[(i+j)/2]=true then((((i+j)/2+1:Nat):Int),(j:Int))else((i:Int),(((i+j)/2:Nat):Int)))))
  (he: ∀i:Nat,i≤xs.length→body ((i:Int),(i:Int))=some (.inr (fin i))):zat body (0,(xs.length:Int))=fin (zhu lt xs):=by
 have key: ∀n i j:Nat,j-i≤n→i≤zhu lt xs→zhu lt xs≤j→j≤xs.length→zat body ((i:Int),(j:Int))=fin (zhu lt xs):=by
  intro n
  induction n with
  |zero=>
   intro i j h1 h2 h3 h4
   have:i=j:=by omega
   subst this
   have:i=zhu lt xs:=by omega
   rw [zdc,he i h4,this]
  |succ n ih=>
   intro i j h1 h2 h3 h4
   by_cases hij:i=j
   ·subst hij
    have:i=zhu lt xs:=by omega
    rw [zdc,he i h4,this]
   ·have hlt:(i+j)/2<xs.length:=by omega
    rw [zdc,hs i j (by omega) h4 hlt]
    by_cases hc:lt xs[(i+j)/2]=true
    ·rw [if_pos hc]
     refine ih _ _ (by omega) ?_ h3 h4
     by_cases hp:(i+j)/2<zhu lt xs
     ·omega
     ·have h5:zhu lt xs<xs.length:=by omega
      have:=zzp h5
      rw [hm _ _ hlt (by omega) hc]at this
      cases this
    ·rw [if_neg hc]
     refine ih _ _ (by omega) h2 ?_ (by omega)
     by_cases hp:(i+j)/2<zhu lt xs
     ·exact absurd (zvO hp) hc
     ·omega
 exact key xs.length 0 xs.length (by omega) (by omega) (zom lt xs) (Nat.le_refl _)
theorem zwz {α:Type} {key:α→List UInt8} {x:α}: ∀{l:List α},zow key l→zgA key x l=(match l[zhu (fun y=>bl (key y) (key x)) l]? with
  |some y=>if key y=key x then l.set (zhu (fun y=>bl (key y) (key x)) l) x else l.take (zhu (fun y=>bl (key y) (key x)) l)++ [x]++l.drop (zhu (fun y=>bl (key y) (key x)) l)
  |none=>l.take (zhu (fun y=>bl (key y) (key x)) l)++ [x]++l.drop (zhu (fun y=>bl (key y) (key x)) l))
 | [],_=>by simp [zgA,zhu]
 |y::l,h=>by
  have h1:=List.pairwise_cons.1 h
  unfold zgA
  by_cases hb:bl (key x) (key y)=true
  ·have e:zhu (fun z=>bl (key z) (key x)) (y::l)=0:=by unfold zhu;rw [List.takeWhile_cons,if_neg (by rw [zpq hb];simp)];rfl
   rw [if_pos hb,e]
   simp [(zkp hb).symm]
  ·rw [if_neg hb]
   by_cases hk:key x=key y
   ·have e:zhu (fun z=>bl (key z) (key x)) (y::l)=0:=by unfold zhu;rw [List.takeWhile_cons,if_neg (by rw [hk,zhN];simp)];rfl
    rw [if_pos hk,e]
    simp [hk]
   ·have hyx:=zkv (by simpa using hb) hk
    have e:zhu (fun z=>bl (key z) (key x)) (y::l)=zhu (fun z=>bl (key z) (key x)) l+1:=by unfold zhu;rw [List.takeWhile_cons,if_pos hyx];rfl
    rw [if_neg hk,e,zwz h1.2]
    simp only [List.getElem?_cons_succ]
    split
    ·split<;>simp
    ·simp
end Go.Proofs.YtbmbkgalkfmjdaaGreatDoor
end
section
namespace Go.Proofs.YtbmbkgalkfmjdaaGreatDoor
open Go.RowKit
set_option maxRecDepth 100000
def zCh (a b:Str):Int:=if bl a b=true then-1 else if a=b then 0 else 1
@[simp] theorem zA8 (a:Str):zcV a=some false:=by simp [zcV]
@[simp] theorem zFz (a b:Str):zdd a b=some (zCh a b):=by
 unfold zdd zCh
 simp only [zA8,Option.bind_some,Bool.false_eq_true,if_false]
 by_cases h:bl a b=true
 ·have:Op.bytesLess a b=true:=h
  simp [this]
 ·have h1:Op.bytesLess a b=false:=by simpa using h
  by_cases he:a=b
  ·subst he;simp [h1]
  ·simp [h1,he]
theorem zCw {a b:Str}:decide (zCh a b<0)=bl a b:=by
 unfold zCh
 cases h:bl a b with
 |true=>simp
 |false=>by_cases he:a=b<;>simp [he]
theorem zDf {a b:Str}:(zCh a b==0)=decide (a=b):=by
 unfold zCh
 cases h:bl a b with
 |true=>simp [zkp h]
 |false=>by_cases he:a=b<;>simp [he]
theorem zEn {i j:Nat} (h:i≤j) (hj:j≤2000000):IntKind.i64.wrap (Int.fdiv (IntKind.u64.wrap (IntKind.i64.wrap ((i:Int)+(j:Int)))) (2^(min ((1:Int)).toNat (IntKind.bits .u64))))=(((i+j)/2:Nat):Int):=by
 have e1:IntKind.i64.wrap ((i:Int)+(j:Int))=((i+j:Nat):Int):=by rw [zaJ (by omega) (by omega)];simp
 have e2:IntKind.u64.wrap ((i+j:Nat):Int)=((i+j:Nat):Int):=by
  simp only [IntKind.wrap,IntKind.bits,IntKind.signed]
  simp
  omega
 have e3:(2:Int)^(min ((1:Int)).toNat (IntKind.bits .u64))=((2:Nat):Int):=rfl
 rw [e1,e2,e3,Int.fdiv_eq_ediv_of_nonneg _ (by omega),←Int.natCast_ediv,zaJ (by omega) (by omega)]
theorem zDv {i:Nat} (h:i≤2000000):IntKind.i64.wrap ((i:Int)+1)=((i+1:Nat):Int):=by rw [zaJ (by omega) (by omega)];simp
abbrev zfB (l:List zaa):Prop:=zow (fun w:zaa=>w.fKey) l
abbrev zhx (l:List zaa) (k:Str):Nat:=zhu (fun w:zaa=>bl w.fKey k) l
theorem zEs {l:List zaa} {k:Str} (hl:l.length≤2000000) (hr:zfB l):zb1 l k=some (((zhx l k:Nat):Int),(match l[zhx l k]? with|some w=>decide (w.fKey=k)|none=>false)):=by
 unfold zb1 zaE
 have hc: ∀w:zaa,zcw w k=some (zCh w.fKey k):=fun w=>by simp [zcw]
 have h:=zCy (xs:=l) (body:=fun s:Int × Int=>zag l k (fun y0_ y1_=>zcw y0_ y1_) s.1 s.2) (fin:=fun i=>zaA l k (fun y0_ y1_=>zcw y0_ y1_) i) (fun w:zaa=>bl w.fKey k)
  (fun i j hj hi h=>by
   rcases Nat.lt_or_ge i j with hij|hij
   ·exact zfn ((List.pairwise_iff_getElem.1 hr) i j (by omega) hj hij) h
   ·have:i=j:=by omega
    subst this;exact h)
  (fun i j hij hj hmid=>by
   show zag l k _ (i:Int) (j:Int)=_
   unfold zag
   rw [if_pos (by simpa using hij),zEn (by omega) (by omega),zam hmid,Option.bind_some]
   simp only [hc,Option.bind_some,zCw,zDv (show(i+j)/2≤2000000 by omega)]
   cases bl l[(i+j)/2].fKey k<;>rfl)
  (fun i hi=>by
   show zag l k _ (i:Int) (i:Int)=_
   unfold zag
   rw [if_neg (by simp)])
 rw [h]
 unfold zaA
 show Option.bind (if decide (((zhx l k:Nat):Int)<l.length)=true then _ else _) _=_
 by_cases hp:zhx l k<l.length
 ·rw [if_pos (by simpa using hp),zam hp,Option.bind_some]
  simp only [hc,Option.bind_some,zDf,List.getElem?_eq_getElem hp]
 ·rw [if_neg (by simpa using hp),List.getElem?_eq_none (by omega)]
  rfl
theorem zoj {l:List zaa} {w:zaa} (hl:l.length≤2000000) (hr:zfB l):zcZ l w=some (zgA (fun w:zaa=>w.fKey) w l):=by
 unfold zcZ
 rw [zEs hl hr,Option.bind_some,zwz hr]
 show(if(match l[zhx l w.fKey]? with|some w'=>decide (w'.fKey=w.fKey)|none=>false)=true then _ else _)=_
 have hle:zhx l w.fKey≤l.length:=zom _ _
 have hI:zpu l ((zhx l w.fKey:Nat):Int) [w]=some (l.take (zhx l w.fKey)++ [w]++l.drop (zhx l w.fKey)):=zai ⟨by omega,by omega,by simp,by simp only [List.length_singleton];omega⟩
 by_cases hp:zhx l w.fKey<l.length
 ·rw [List.getElem?_eq_getElem hp]
  by_cases hk:(l[zhx l w.fKey]).fKey=w.fKey
  ·simp only [hk,decide_true,if_true,zam hp,Option.bind_some]
   rfl
  ·simp only [hk,decide_false,Bool.false_eq_true,if_false]
   rw [hI];rfl
 ·rw [List.getElem?_eq_none (by omega)]
  simp only [Bool.false_eq_true,if_false]
  rw [hI];rfl
theorem zms (ks:List Str):znz ks=ziI bl ks:=by
 have key: ∀n q,q+n+1=ks.length→(List.range' (q+1) n).all (zie ks)=ziI bl (ks.drop q):=by
  intro n
  induction n with
  |zero=>
   intro q hq
   rw [List.drop_eq_getElem_cons (show q<ks.length by omega),List.drop_eq_nil_of_le (show ks.length≤q+1 by omega)]
   rfl
  |succ n ih=>
   intro q hq
   rw [List.range'_succ,List.all_cons,ih (q+1) (by omega),zvQ (show q+1<ks.length by omega)]
   congr 1
   unfold zie
   have hb:(q+1==0)=false:=rfl
   rw [hb,Bool.false_or,Nat.add_sub_cancel,List.getElem?_eq_getElem (show q<ks.length by omega),List.getElem?_eq_getElem (show q+1<ks.length by omega)]
   rfl
 cases ks with
 |nil=>rfl
 |cons k l=>
  unfold znz
  rw [List.length_cons,List.range_eq_range',List.range'_succ,List.all_cons]
  have:=key l.length 0 (by simp)
  rw [List.drop_zero]at this
  rw [Nat.zero_add]at this
  rw [show 0+1=1 from rfl,this]
  rfl
theorem zk4 {α β:Type} (f:α→β) (r:β→β→Bool): ∀l:List α,ziI r (l.map f)=ziI (fun a b=>r (f a) (f b)) l
 | []=>rfl
 | [_]=>rfl
 |x::y::l=>by
  have:=zk4 f r (y::l)
  simp only [List.map_cons,ziI]at this ⊢
  rw [this]
theorem zpV {l:List zaa} (h:zeO l=true):zfB l:=by
 unfold zeO at h
 simp only [Bool.and_eq_true]at h
 have h1:=h.2.2
 rw [zms,zk4]at h1
 exact(znd (r:=fun a b:zaa=>bl a.fKey b.fKey) fun a b c p q=>zfn p q).1 h1
end Go.Proofs.YtbmbkgalkfmjdaaGreatDoor
end
section
namespace Go.Proofs.YtbmbkgalkfmjdaaGreatDoor
open Go.RowKit
set_option maxRecDepth 100000
theorem zte {t:zab} (h:zad t=true):zow (fun x:zbs=>x.fName) t.fIdxs:=by
 unfold zad at h
 simp only [Bool.and_eq_true]at h
 have h1:=h.2
 have h2:znz (t.fIdxs.map (·.fName))=true:=by
  unfold znz
  rw [List.length_map,List.all_eq_true]
  intro i hi
  have h3:=List.all_eq_true.1 h1 i hi
  unfold zl3 at h3
  simp only [Bool.and_eq_true]at h3
  have hi':i<t.fIdxs.length:=List.mem_range.1 hi
  have e: ∀j:Nat,(((t.fIdxs.map (·.fName))[j]?).getD [])=((t.fIdxs[j]?).getD ⟨[],0,0⟩).fName:=by
   intro j
   rw [List.getElem?_map]
   cases t.fIdxs[j]?<;>rfl
  unfold zie
  rw [e,e]
  exact h3.2
 rw [zms,zk4]at h2
 exact(znd (r:=fun a b:zbs=>bl a.fName b.fName) fun a b c p q=>zfn p q).1 h2
theorem zsQ {t:zab} {x:zbs} (h:zad t=true) (hx:x∈t.fIdxs):zht t x.fName x:=by
 have h1:zhw (fun y:zbs=>y.fName==x.fName) t.fIdxs≥0:=by
  have:=zjb (fun y:zbs=>y.fName==x.fName) t.fIdxs
  rw [show(t.fIdxs.any fun y=>y.fName==x.fName)=true from List.any_eq_true.2 ⟨x,hx,by simp⟩]at this
  exact of_decide_eq_true this
 obtain⟨y,h2,h3,h4⟩:=zv9 h1
 have h5:y=x:=(zte h).nodupKey h4 hx (by simpa using h3)
 subst h5
 have h6:=za3.1 (zdT h hx).2
 exact⟨h2,rfl,h6.1,h6.2⟩
theorem zgT {t:zab} (h:zad t=true):2≤t.fCols.length∧t.fCols.length≤4∧t.fIdxs.length≤3:=by
 unfold zad at h
 simp only [Bool.and_eq_true,decide_eq_true_eq]at h
 have h1:=za3.1 h.1.1.2.2
 have h2:=h.1.2
 omega
theorem zox {t:zab} {r:zbE} (hs:Small r.fVals) (h:zaq t r=true):zrW t r:=by
 unfold zaq at h
 simp only [Bool.and_eq_true,beq_iff_eq]at h
 exact⟨by have:=h.1;omega,hs⟩
theorem zsW {t:zab} {r:zbE} (hc:1≤t.fCols.length) (h:zrW t r):getI r.fVals 0=some (zeB r 0):=(zp3 h (by omega) (by omega)).1
theorem zqF {t:zab} {r:zbE} (hc:1≤t.fCols.length) (h:zrW t r):r.fVals≠ []:=by
 intro e
 have:=h.len
 rw [e]at this
 simp at this
 omega
def zjW (a:zaj):Prop:=Small a.fOld.fVals∧Small a.fNew.fVals
def zdm (t:zab) (a:zaj):Bool:=
 if a.fKind=1 then(a.fOld.fVals.length:Int)==0&&zaq t a.fNew else
 if a.fKind=2 then zaq t a.fOld&&(a.fNew.fVals.length:Int)==0 else
 if a.fKind=3 then zaq t a.fOld&&(zaq t a.fNew&&zeB a.fOld 0==zeB a.fNew 0)else false
theorem zxx {t:zab} {a:zaj} (hc:1≤t.fCols.length) (h:zjW a):zfb t a=some (zdm t a):=by
 unfold zfb zdm
 by_cases h1:a.fKind=1
 ·rw [if_pos (by simpa using h1),if_pos h1,zi4 h.2,Option.bind_some]
  cases((a.fOld.fVals.length:Int)==0)<;>simp
 rw [if_neg (by simpa using h1),if_neg h1]
 by_cases h2:a.fKind=2
 ·rw [if_pos (by simpa using h2),if_pos h2,zi4 h.1,Option.bind_some]
  cases((a.fNew.fVals.length:Int)==0)<;>simp
 rw [if_neg (by simpa using h2),if_neg h2]
 by_cases h3:a.fKind=3
 ·rw [if_pos (by simpa using h3),if_pos h3,zi4 h.1,zi4 h.2,Option.bind_some,Option.bind_some]
  cases e1:zaq t a.fOld with
  |false=>simp
  |true=>
   cases e2:zaq t a.fNew with
   |false=>simp
   |true=>simp [zsW hc (zox h.1 e1),zsW hc (zox h.2 e2)]
 rw [if_neg (by simpa using h3),if_neg h3]
theorem zw7 {t:zab} {a:zaj} (hc:1≤t.fCols.length) (h:zjW a):zbS t a=some (zdm t a):=by
 unfold zbS zdm
 by_cases h1:a.fKind=1
 ·rw [if_pos (by simpa using h1),if_pos h1,ziM h.2,Option.bind_some]
  cases((a.fOld.fVals.length:Int)==0)<;>simp
 rw [if_neg (by simpa using h1),if_neg h1]
 by_cases h2:a.fKind=2
 ·rw [if_pos (by simpa using h2),if_pos h2,ziM h.1,Option.bind_some]
 rw [if_neg (by simpa using h2),if_neg h2]
 by_cases h3:a.fKind=3
 ·rw [if_pos (by simpa using h3),if_pos h3,ziM h.1,ziM h.2,Option.bind_some,Option.bind_some]
  cases e1:zaq t a.fOld with
  |false=>simp
  |true=>
   cases e2:zaq t a.fNew with
   |false=>simp
   |true=>simp [zsW hc (zox h.1 e1),zsW hc (zox h.2 e2)]
 rw [if_neg (by simpa using h3),if_neg h3]
structure zC9 (t:zab) (a:zaj):Prop where
 old:a.fKind≠1→zrW t a.fOld
 new:a.fKind≠2→zrW t a.fNew
 kind:a.fKind=1∨a.fKind=2∨a.fKind=3
 same:a.fKind=3→zeB a.fOld 0=zeB a.fNew 0
theorem zD5 {t:zab} {a:zaj} (h:zjW a) (hg:zdm t a=true):zC9 t a:=by
 unfold zdm at hg
 by_cases h1:a.fKind=1
 ·rw [if_pos h1,Bool.and_eq_true]at hg
  exact⟨fun k=>absurd h1 k,fun _=>zox h.2 hg.2, .inl h1,fun k=>by omega⟩
 rw [if_neg h1]at hg
 by_cases h2:a.fKind=2
 ·rw [if_pos h2,Bool.and_eq_true]at hg
  exact⟨fun _=>zox h.1 hg.1,fun k=>absurd h2 k, .inr (.inl h2),fun k=>by omega⟩
 rw [if_neg h2]at hg
 by_cases h3:a.fKind=3
 ·rw [if_pos h3,Bool.and_eq_true,Bool.and_eq_true,beq_iff_eq]at hg
  exact⟨fun _=>zox h.1 hg.1,fun _=>zox h.2 hg.2.1, .inr (.inr h3),fun _=>hg.2.2⟩
 rw [if_neg h3]at hg
 cases hg
def zsq (t:zab) (a:zaj) (x:zbs):Str:=if a.fKind=1 then []else zdn t x.fName x.fCol a.fOld
def zpM (t:zab) (a:zaj) (x:zbs):Str:=if a.fKind=2 then []else zdn t x.fName x.fCol a.fNew
def zoA (k n:Str) (x:zbs):List DOp:=if k≠ []∧k≠n∧x.fStage≥1 then [⟨3,k, [],0⟩]else []
def zs0 (n:Str) (x:zbs):List DOp:=if n≠ []∧x.fStage≥2 then [⟨2,n, [],0⟩]else []
def zh9 (t:zab) (a:zaj) (x:zbs):List DOp:=zoA (zsq t a x) (zpM t a x) x++zs0 (zpM t a x) x
def zjP (t:zab) (a:zaj):List DOp:=
 if a.fKind=1 then [⟨6,(zea t a.fNew).fKey, [],0⟩,⟨2,(zea t a.fNew).fKey,(zea t a.fNew).fVal,0⟩]else
 if a.fKind=2 then [⟨7,(zea t a.fOld).fKey,(zea t a.fOld).fVal,0⟩,⟨3,(zea t a.fOld).fKey, [],0⟩]else
 [⟨7,(zea t a.fOld).fKey,(zea t a.fOld).fVal,0⟩,⟨2,(zea t a.fOld).fKey,(zea t a.fNew).fVal,0⟩]
def ziP (t:zab) (a:zaj):List DOp:=t.fIdxs.foldl (fun o x=>o++zh9 t a x) (zjP t a)
theorem zA9 (k n:Str) (x:zbs):(zoA k n x).length≤1:=by unfold zoA;split<;>simp
theorem zCM (n:Str) (x:zbs):(zs0 n x).length≤1:=by unfold zs0;split<;>simp
theorem zsu (t:zab) (a:zaj) (x:zbs):(zh9 t a x).length≤2:=by
 unfold zh9
 have:=zA9 (zsq t a x) (zpM t a x) x
 have:=zCM (zpM t a x) x
 rw [List.length_append];omega
theorem zql (t:zab) (a:zaj):(zjP t a).length=2:=by unfold zjP;split<;>(try split)<;>rfl
theorem zCn {o p:List DOp} (h:o.length≤5000000) (hn:p.length≤5000000):((o.length:Int)+(p.length:Int))*48≤140737488355328∧(o.length:Int)+(p.length:Int)≤140737488355328:=by omega
theorem zDm {t:zab} {a:zaj} (hc:1≤t.fCols.length) (ht:t.fName.length≤2000000) (ha:zC9 t a):zio t a=some (zjP t a):=by
 unfold zio zjP
 by_cases h1:a.fKind=1
 ·have hr:=ha.new (by omega)
  rw [if_pos (by simpa using h1),if_pos h1,zqU ht hr.small (zqF hc hr)];rfl
 have hr:=ha.old h1
 rw [if_neg (by simpa using h1),if_neg h1,zqU ht hr.small (zqF hc hr),Option.bind_some]
 by_cases h2:a.fKind=2
 ·rw [if_pos (by simpa using h2),if_pos h2]
 have hr:=ha.new h2
 rw [if_neg (by simpa using h2),if_neg h2,zqU ht hr.small (zqF hc hr)];rfl
theorem zu9 {k:Int} {w:zaa} {o:List DOp} (h:o.length≤5000000):zaD k w o=some ((),o++ [⟨k,w.fKey,w.fVal,0⟩]):=by
 unfold zaD
 rw [zai (zCn h (by simp))]
theorem zDR {t:zab} {a:zaj} (hS:zcH t) (hg:zad t=true) (ha:zC9 t a):zco t a=some (ziP t a):=by
 have hc:=zgT hg
 have hl:=zql t a
 have h7: ∀(i:Int) (x:zbs) (n:Str) (o:List DOp),o.length≤100→zbd i x n o=some (.inl (IntKind.i64.wrap (i+1),o++zs0 n x)):=by
  intro i x n o ho
  unfold zbd zs0 zeh
  by_cases h1:n= []
  ·rw [if_neg (by simp [h1]),if_neg (by simp [h1]),List.append_nil]
  rw [if_pos (by simpa using h1),Option.bind_some]
  by_cases h2:x.fStage≥2
  ·rw [if_pos (by simpa using h2),if_pos ⟨h1,h2⟩,zu9 (by omega)];rfl
  ·rw [if_neg (by simpa using h2),if_neg (fun h=>h2 h.2),List.append_nil]
 have h6: ∀(i:Int) (x:zbs) (k n:Str) (o:List DOp),o.length≤99→zaW i o x k n=some (.inl (IntKind.i64.wrap (i+1),o++(zoA k n x++zs0 n x))):=by
  intro i x k n o ho
  unfold zaW zoA ziB
  by_cases h1:k= []
  ·rw [if_neg (by simp [h1]),if_neg (by simp [h1]),h7 _ _ _ _ (by omega)];rfl
  rw [if_pos (by simpa using h1)]
  by_cases h2:k=n
  ·rw [if_neg (by simp [h2]),if_neg (by simp [h2]),h7 _ _ _ _ (by omega)];rfl
  rw [if_pos (by simpa using h2),Option.bind_some]
  by_cases h3:x.fStage≥1
  ·rw [if_pos (by simpa using h3),if_pos ⟨h1,h2,h3⟩,zu9 (by omega),Option.bind_some,h7 _ _ _ _ (by rw [List.length_append,List.length_singleton];omega),List.append_assoc]
  ·rw [if_neg (by simpa using h3),if_neg (fun h=>h3 h.2.2),h7 _ _ _ _ (by omega)];rfl
 have hloop: ∀o:List DOp,o.length=2→zbc t a o=some (t.fIdxs.foldl (fun o x=>o++zh9 t a x) o):=by
  intro o ho
  unfold zbc
  exact(zdx (xs:=t.fIdxs) (body:=fun s:Int × List DOp=>zbb t a s.1 s.2) (fun i (o:List DOp)=>(i,o)) (fun o x=>o++zh9 t a x) (fun o=>some o) (fun i o=>o.length≤2+2*i)
   (fun i hi o hI=>by
    have hI:o.length≤2+2*i:=hI
    have hw:=zd5 hi (by omega)
    have hk:=zsu t a t.fIdxs[i]
    have hm:=List.getElem_mem hi
    have hx:=zsQ hg hm
    refine⟨?_,by show List.length _≤_;rw [List.length_append];omega⟩
    show zbb t a i o=_
    unfold zbb
    rw [if_pos (by simpa using hi),zam hi,Option.bind_some]
    have e1:(if(a.fKind !=1)=true then(zaQ t t.fIdxs[i].fName a.fOld).bind fun v20=>some (Sum.inl v20)else some (Sum.inl ([]:List UInt8)):Option (List UInt8 ⊕ Option ((Int × List DOp) ⊕ Option (List DOp))))=some (.inl (zsq t a t.fIdxs[i])):=by
     unfold zsq
     by_cases h1:a.fKind=1
     ·rw [if_neg (by simp [h1]),if_pos h1]
     ·rw [if_pos (by simpa using h1),if_neg h1,ztu hS (hS.idx _ hm) hx (ha.old h1)];rfl
    rw [e1]
    show zdE t a i o t.fIdxs[i] (zsq t a t.fIdxs[i])=_
    unfold zdE
    have e2: ∀k,(if(a.fKind !=2)=true then(zaQ t t.fIdxs[i].fName a.fNew).bind fun v19=>zaW i o t.fIdxs[i] k v19 else zaW i o t.fIdxs[i] k ([]:List UInt8))=zaW i o t.fIdxs[i] k (zpM t a t.fIdxs[i]):=by
     intro k
     unfold zpM
     by_cases h1:a.fKind=2
     ·rw [if_neg (by simp [h1]),if_pos h1]
     ·rw [if_pos (by simpa using h1),if_neg h1,ztu hS (hS.idx _ hm) hx (ha.new h1)];rfl
    rw [e2,h6 _ _ _ _ _ (by omega),hw]
    rfl)
   (fun o _=>by
    show zbb t a t.fIdxs.length o=_
    unfold zbb
    rw [if_neg (by simp)]) (s:=o) (by omega)).1
 have hn:t.fName.length≤2000000:=hS.name
 unfold zco ziP zjP
 rcases ha.kind with h1|h1|h1
 ·have hr:=ha.new (by omega)
  rw [if_neg (by simp [h1]),if_pos h1]
  show zaV t a [] [] false []=_
  unfold zaV
  rw [if_pos (by simp [h1]),zp2 hn hr.small (zqF (by omega) hr),Option.bind_some]
  unfold zbJ
  rw [if_pos (by simp [h1]),zu9 (by simp),Option.bind_some,zu9 (by simp),Option.bind_some,hloop _ (by simp)]
  rfl
 ·have hr:=ha.old (by omega)
  rw [if_pos (by simp [h1]),if_neg (by omega),if_pos h1,zp2 hn hr.small (zqF (by omega) hr),Option.bind_some,zu9 (by simp),Option.bind_some]
  show zaV t a (zea t a.fOld).fKey (zea t a.fOld).fVal (zea t a.fOld).fGone _=_
  unfold zaV
  rw [if_neg (by simp [h1])]
  unfold zbJ
  rw [if_neg (by simp [h1]),if_pos (by simp [h1]),zu9 (by simp),Option.bind_some,hloop _ (by simp)]
  rfl
 ·have hr:=ha.old (by omega)
  have hr2:=ha.new (by omega)
  have hk:(zea t a.fOld).fKey=(zea t a.fNew).fKey:=by
   have:=ha.same h1
   unfold zeB at this
   unfold zea
   rw [List.head?_eq_getElem?,List.head?_eq_getElem?]
   exact congrArg (fun z=>t.fName++ [47]++z) this
  rw [if_pos (by simp [h1]),if_neg (by omega),if_neg (by omega),zp2 hn hr.small (zqF (by omega) hr),Option.bind_some,zu9 (by simp),Option.bind_some]
  show zaV t a (zea t a.fOld).fKey (zea t a.fOld).fVal (zea t a.fOld).fGone _=_
  unfold zaV
  rw [if_pos (by simp [h1]),zp2 hn hr2.small (zqF (by omega) hr2),Option.bind_some]
  unfold zbJ
  rw [if_neg (by simp [h1]),if_neg (by simp [h1]),if_pos (by simp [h1]),zu9 (by simp),Option.bind_some,hloop _ (by simp),hk]
  rfl
end Go.Proofs.YtbmbkgalkfmjdaaGreatDoor
end
section
namespace Go.Proofs.YtbmbkgalkfmjdaaGreatDoor
open Go.RowKit
set_option maxRecDepth 100000
theorem zdg {σ α:Type} {body:σ→Option (σ ⊕ Option α)} {s:σ} {o:Option α} (h:body s=some (.inr o)):zat body s=o:=by rw [zdc,h]
theorem zeb {σ α:Type} {body:σ→Option (σ ⊕ Option α)} {s s':σ} (h:body s=some (.inl s')):zat body s=zat body s':=by rw [zdc,h]
end Go.Proofs.YtbmbkgalkfmjdaaGreatDoor
end

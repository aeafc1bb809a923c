/- Parts of a proof, joined: QF4, QF5, QR, NA, NE, NX, QE, N5, N6, N7, N8, N9, N10, N11, N12, N13, N14, N15, N16, N17, N18, N19, N20. -/
import Derived.Test.YtgobcjbjogkpjaaGreatDoorW8
set_option linter.unusedVariables false
set_option linter.unusedSimpArgs false
section
namespace Go.Proofs.YtgobcjbjogkpjaaGreatDoor
open Go.RowKit
set_option maxRecDepth 100000
set_option maxHeartbeats 4000000
noncomputable def zmT:FS:=mkF 87 [.v (.st 2), .v (.st 7)] (.v (.l (.st 10))) (fun x=>zek x.1 x.2.1) [zk2,zma,ztC,zfX,zdv] [.sp [.s, .s, .b, .l (.st 10)], .pt, .pt, .sp [.i .i64, .l (.st 10)], .inl, .sp [.s], .pt, .pt]
noncomputable def zcV:FS:=mkF 353 [.v (.l (.st 0)), .v .s, .fn [.st 0, .s] (.i .i64)] (.tu (.cons (.v (.i .i64)) (.cons (.v .b) .nil))) (fun x=>zaF x.1 x.2.1 (fun y0 y1=>x.2.2.1.φ (y0,y1,()))) [] [.sp [.i .i64, .i .i64]]
noncomputable def zol:FS:=mkF 372 [.v .s] (.v .b) (fun x=>zdQ x.1) [] []
noncomputable def zmY:FS:=mkF 355 [.v .s, .v .s] (.v (.i .i64)) (fun x=>zef x.1 x.2.1) [zol] []
noncomputable def zpf:FS:=mkF 354 [.v (.st 0), .v .s] (.v (.i .i64)) (fun x=>zda x.1 x.2.1) [zmY] []
noncomputable def zop:FS:=mkP zpf fun _=>by kernel_rfl
noncomputable def zjC:FS:=mkF 328 [.v (.l (.st 0)), .v .s] (.tu (.cons (.v (.i .i64)) (.cons (.v .b) .nil))) (fun x=>zcw x.1 x.2.1) [zcV,zop] []
noncomputable def zm6:FS:=mkF 271 [.v (.l (.st 0)), .v (.st 0)] (.v (.l (.st 0))) (fun x=>zdU x.1 x.2.1) [zjC,zfT] []
noncomputable def zuj:FS:=mkF 324 [.v .s, .v (.l (.st 0)), .v (.l (.st 11))] (.tu (.cons (.v .s) (.cons (.v .b) (.cons (.v .b) .nil)))) (fun x=>ziC x.1 x.2.1 x.2.2.1) [zjC] [.sp [.i .i64]]
noncomputable def znf:FS:=mkF 326 [.v .s] (.tu (.cons (.v (.i .i64)) (.cons (.v .b) .nil))) (fun x=>zf0 x.1) [ztW] []
noncomputable def zpZ:FS:=mkF 325 [.v (.st 10), .v .s, .v .b] (.v .b) (fun x=>zgl x.1 x.2.1 x.2.2.1) [znf,zcl] []
noncomputable def zt2:FS:=mkF 269 [.v (.l (.st 10)), .v (.l (.st 11))] (.tu (.cons (.v (.i .i64)) (.cons (.v .s) (.cons (.v (.l (.st 0))) .nil)))) (fun x=>zk8 x.1 x.2.1) [zm6,zuj,zpZ,znf,zur] [.sp [.i .i64, .l (.st 0)], .inl]
noncomputable def zxE:FS:=mkF 270 [.v (.l (.st 0)), .v .s] (.v (.st 11)) (fun x=>zkU x.1 x.2.1) [zjC] []
noncomputable def ztj:FS:=mkF 184 [.v (.l (.st 0)), .v (.l (.st 10))] (.tu (.cons (.v (.l (.st 11))) (.cons (.v (.l (.st 0))) (.cons (.v .b) .nil)))) (fun x=>zkD x.1 x.2.1) [zt2,zxE] [.sp [.l (.st 11)]]
noncomputable def zeV:FS:=mkH 272 [.v (.l (.st 0)), .fn [.st 0] .b] (.v (.l (.st 0))) (fun x=>zcu x.1 (fun y=>x.2.1.φ (y,()))) fun x r hp h=>zho (f:=272) (t:=zEJ 268 3 true (.mk (.cons (.fld (.fld (.idx (.var 5) (.var 4)) 0 3 true) 0 1 false) (.cons (.fld (.fld (.idx (.var 5) (.var 4)) 0 3 true) 1 1 false) (.cons (.fld (.fld (.idx (.var 5) (.var 4)) 0 3 true) 2 1 false) .nil)))) [(.agg (.fld (.idx (.var 5) (.var 4)) 0 3 true) 3)] (.mk (.cons (.str (ByteArray.mk #[])) (.cons (.str (ByteArray.mk #[])) (.cons (.bool false) .nil))))) (by kernel_rfl) (by kernel_rfl) (zBn (av:=(zg6 tab.av (.st 0))) (fun x=>⟨zle _ x,zha (by kernel_rfl) x,fun _=>⟨_,rfl⟩,fun e=>nomatch e⟩) (by decide) (fun a b c d j ys x tl hj=>by simp [AV.nth,hj,zg6,tAv]) (fun a b c d j ys x hj=>by simp [AV.nth,hj,zg6,tAv]) h (fun i hi=>zci.ok x i hp hi) (fun y b hb=>hp.2.1 (y,()) b hb))
noncomputable def zrn:FS:=mkF 273 [.v (.st 0)] (.v .b) (fun x=>zjs x.1) [] []
noncomputable def zpQ:FS:=mkP zrn fun _=>by kernel_rfl
noncomputable def ztN:FS:=mkF 185 [.v (.l (.st 0)), .v (.l (.st 0))] (.tu (.cons (.v (.l (.st 0))) (.cons (.v .b) .nil))) (fun x=>zi1 x.1 x.2.1) [zby,zeV,zpQ,zm6] [.sp [.i .i64, .l (.st 0)]]
noncomputable def zpx:FS:=mkF 86 [.v (.l (.st 0)), .v (.l (.st 10))] (.tu (.cons (.v (.l (.st 0))) (.cons (.v .b) .nil))) (fun x=>zhK x.1 x.2.1) [ztj,ztN] []
noncomputable def zkC:FS:=mkF 106 [.v (.st 3), .v (.st 8)] (.tu (.cons (.v (.st 3)) (.cons (.v .b) .nil))) (fun x=>zcF x.1 x.2.1) [zmt,zcl,zdo,zmT,zpx] []
noncomputable def zl7:FS:=mkF 206 [.v (.l (.i .i64))] (.v (.i .i64)) (fun x=>zdt x.1) [] [.sp [.i .i64, .i .i64]]
noncomputable def zlN:FS:=mkF 207 [.v (.l (.i .i64))] (.v (.i .i64)) (fun x=>zdw x.1) [] [.sp [.i .i64, .i .i64]]
noncomputable def zl1:FS:=mkF 113 [.v (.st 3)] (.v .b) (fun x=>zdq x.1) [zl7,zlN] []
noncomputable def zou:FS:=mkF 115 [.v (.st 3)] (.v (.i .i64)) (fun x=>ze9 x.1) [zdo,zdV] [.sp [.i .i64, .i .i64], .inl]
noncomputable def zh5:FS:=mkF 365 [.v .s, .v .s] (.v .b) (fun x=>zbv x.1 x.2.1) [] []
noncomputable def zh3:FS:=mkF 341 [.v .s, .v .s] (.tu (.cons (.v .s) (.cons (.v .b) .nil))) (fun x=>zcy x.1 x.2.1) [zh5] []
noncomputable def zkz:FS:=mkF 286 [.v .s, .v .s] (.tu (.cons (.v .s) (.cons (.v .b) .nil))) (fun x=>zdS x.1 x.2.1) [zh3] []
noncomputable def zkJ:FS:=mkF 360 [.v .s, .v .s] (.tu (.cons (.v .s) (.cons (.v .s) (.cons (.v .b) .nil)))) (fun x=>zcz x.1 x.2.1) [zfL] []
noncomputable def zwB:FS:=mkF 333 [.v .s, .v .s] (.tu (.cons (.v .s) (.cons (.v .s) (.cons (.v .b) .nil)))) (fun x=>zgi x.1 x.2.1) [zkJ] []
noncomputable def zk6:FS:=mkF 276 [.v (.st 2), .v .s, .v .s] (.tu (.cons (.v .s) (.cons (.v .s) (.cons (.v .b) .nil)))) (fun x=>zcR x.1 x.2.1 x.2.2.1) [zh9,zkz,zwB,zn1] []
noncomputable def zc7:FS:=mkF 189 [.v (.st 2), .v .s, .v (.l (.st 0))] (.v (.l .s)) (fun x=>zbg x.1 x.2.1 x.2.2.1) [zk6] [.sp [.i .i64, .l .s], .inl]
noncomputable def zsP:FS:=mkF 368 [.v .s, .v .s] (.v (.i .i64)) (fun x=>zhA x.1 x.2.1) [zfL] []
noncomputable def zoO:FS:=mkF 342 [.v .s, .v .s, .v (.i .i64), .v (.i .i64)] (.v (.l .s)) (fun x=>zhM x.1 x.2.1 x.2.2.1 x.2.2.2.1) [zqi,zsP,zs1] [.pt, .sp [.s, .i .i64, .l .s]]
noncomputable def ztd:FS:=mkF 287 [.v .s, .v .s] (.v (.l .s)) (fun x=>zgf x.1 x.2.1) [zoO] []
noncomputable def zmw:FS:=mkF 201 [.v (.st 2), .v (.st 0)] (.tu (.cons (.v (.st 6)) (.cons (.v .b) .nil))) (fun x=>zdY x.1 x.2.1) [zkz,ztd,zjG,zdv] []
noncomputable def zi7:FS:=mkF 103 [.v (.st 2), .v (.l (.st 0))] (.v (.l (.st 6))) (fun x=>zcT x.1 x.2.1) [zmw] [.sp [.i .i64, .l (.st 6)], .inl]
noncomputable def zjl:FS:=mkF 278 [.v (.st 2), .v .s, .v (.l (.st 0))] (.v (.l .s)) (fun x=>zcW x.1 x.2.1 x.2.2.1) [zi7,zfX] [.sp [.i .i64, .l .s]]
noncomputable def zgH:FS:=mkH 334 [.v (.l .s), .fn [.s] .b] (.v (.l .s)) (fun x=>zcu x.1 (fun y=>x.2.1.φ (y,()))) fun x r hp h=>zho (f:=334) (t:=zEJ 262 1 false (.fld (.idx (.var 5) (.var 4)) 0 1 false) [] (.str (ByteArray.mk #[]))) (by kernel_rfl) (by kernel_rfl) (zBn (av:=(zg6 tab.av .s)) (fun x=>⟨zle _ x,zha (by kernel_rfl) x,(fun e=>nomatch e),fun _=>rfl⟩) (by decide) (fun a b c d j ys x tl hj=>by simp [AV.nth,hj,zg6,tAv]) (fun a b c d j ys x hj=>by simp [AV.nth,hj,zg6,tAv]) h (fun i hi=>zdN.ok x i hp hi) (fun y b hb=>hp.2.1 (y,()) b hb))
noncomputable def zra:FS:=mkF 335 [.v .s, .rf (.l .s)] (.v .b) (fun x=>zjD x.1 x.2.1) [zd3] []
noncomputable def zpO:FS:=mkP zra fun _=>by kernel_rfl
noncomputable def znZ:FS:=mkF 277 [.v (.l .s), .v (.l .s)] (.v (.l .s)) (fun x=>zgF x.1 x.2.1) [zeG,zgH,zpO] []
noncomputable def zlu:FS:=mkF 190 [.v (.st 2), .v .s, .v (.l (.st 0))] (.v (.l .s)) (fun x=>zc8 x.1 x.2.1 x.2.2.1) [zc7,zjl,znZ] []
noncomputable def zmB:FS:=mkF 191 [.v (.st 2), .v .s, .v (.l (.st 0))] (.v (.l .s)) (fun x=>zfG x.1 x.2.1 x.2.2.1) [zjl,zc7,znZ] []
noncomputable def zmy:FS:=mkF 90 [.v (.st 2), .v .s, .v (.i .i64), .v (.l (.st 0))] (.v .b) (fun x=>zdW x.1 x.2.1 x.2.2.1 x.2.2.2.1) [zc7,zlu,zmB] []
noncomputable def znd:FS:=mkF 111 [.v (.st 3)] (.v .b) (fun x=>zcY x.1) [zou,zmy] []
noncomputable def zoU:FS:=mkF 109 [.v (.st 3), .v (.st 8)] (.v .b) (fun x=>zfM x.1 x.2.1) [zkC,zl1,znd] []
noncomputable def zm2:FS:=mkF 252 [.v (.st 5), .v (.st 8)] (.tu (.cons (.v (.st 5)) (.cons (.v .b) .nil))) (fun x=>zaZ x.1 x.2.1) [zmH,zoU,zkC,zdo,zdV,zk2] [.inl]
noncomputable def zkl:FS:=mkF 254 [.v (.st 5)] (.v (.i .i64)) (fun x=>zbd x.1) [zdo,zdV,zk2] [.sp [.i .i64, .i .i64], .inl]
noncomputable def zmu:FS:=mkF 318 [.v (.st 2), .v .s, .v (.st 6)] (.v (.l (.st 10))) (fun x=>zdX x.1 x.2.1 x.2.2.1) [zdv,zfX] []
noncomputable def znN:FS:=mkF 256 [.v (.st 2), .v .s, .v (.l (.st 0))] (.v (.l (.st 12))) (fun x=>zdl x.1 x.2.1 x.2.2.1) [zi7,zdv,zmu] [.sp [.i .i64, .l (.st 12)]]
noncomputable def zgv:FS:=mkH 316 [.v (.l (.st 12))] (.v (.l (.st 12))) (fun x=>zbK x.1) fun x r hp h=>zho (f:=316) (t:=zyJ 40 2) (by kernel_rfl) (by kernel_rfl) (zAK (bytes:=40) (sz:=2) (av:=(zg6 tab.av (.st 12))) (fun x=>zle _ x) h)
noncomputable def zfE:FS:=mkH 349 [.v (.l (.st 12)), .fn [.st 12] .b] (.v (.i .i64)) (fun x=>za4 x.1 (fun y=>x.2.1.φ (y,()))) fun x r hp h=>zho (f:=349) (t:=zAl 2) (by kernel_rfl) (by kernel_rfl) (zwu (av:=(zg6 tab.av (.st 12))) (cn:=2) (fun _=>⟨_,rfl,rfl⟩) h (fun y b hb=>hp.2.1 (y,()) b hb))
noncomputable def zfs:FS:=mkH 315 [.v (.l (.st 12)), .fn [.st 12] .b] (.v (.l (.st 12))) (fun x=>zcu x.1 (fun y=>x.2.1.φ (y,()))) fun x r hp h=>zho (f:=315) (t:=zCD 349 2 (.mk (.cons (.fld (.fld (.idx (.var 5) (.var 4)) 0 2 true) 0 1 false) (.cons (.fld (.fld (.idx (.var 5) (.var 4)) 0 2 true) 1 1 false) .nil))) [(.agg (.fld (.idx (.var 5) (.var 4)) 0 2 true) 2)] (.mk (.cons (.str (ByteArray.mk #[])) (.cons (.lst .nil) .nil)))) (by kernel_rfl) (by kernel_rfl) (zEh (av:=(zg6 tab.av (.st 12))) (fun x=>⟨zle _ x,_,rfl⟩) (by decide) (fun a b c d j ys x tl hj=>by simp [AV.nth,hj,zg6,tAv]) (fun a b c d j ys x hj=>by simp [AV.nth,hj,zg6,tAv]) h (fun i hi=>zfE.ok x i hp hi) (fun y b hb=>hp.2.1 (y,()) b hb))
noncomputable def zt6:FS:=mkF 317 [.v (.st 12), .rf (.st 4)] (.v .b) (fun x=>ziU x.1 x.2.1) [] []
noncomputable def zsa:FS:=mkP zt6 fun _=>by kernel_rfl
noncomputable def zwV:FS:=mkF 255 [.v (.l (.st 12)), .v (.l (.st 0)), .v (.st 4), .v (.i .i64)] (.tu (.cons (.v (.l (.st 0))) (.cons (.v (.st 4)) .nil))) (fun x=>zeY x.1 x.2.1 x.2.2.1 x.2.2.2.1) [zgv,zfs,zsa,zby,zpx] [.sp [.l (.st 0), .i .i64, .s]]
noncomputable def zmE:FS:=mkF 257 [.v (.st 2), .v .s, .v (.l (.st 0))] (.v (.l (.st 12))) (fun x=>zcb x.1 x.2.1 x.2.2.1) [zc7] [.sp [.i .i64, .l (.st 12)]]
noncomputable def zpa:FS:=mkF 168 [.v (.st 5), .v (.st 9)] (.tu (.cons (.v (.st 5)) (.cons (.v .b) .nil))) (fun x=>zbQ x.1 x.2.1) [zm2,zmH,zkl,znN,zwV,zmE] [.inl]
noncomputable def zsq:FS:=mkF 70 [.v (.st 5), .v (.st 9)] (.tu (.cons (.v (.st 5)) (.cons (.v .b) (.cons (.v .b) .nil)))) (fun x=>zeL x.1 x.2.1) [zoP,zpa] []
noncomputable def zmq:FS:=mkF 306 [.v (.l .s), .v (.l .s)] (.v .b) (fun x=>zfm x.1 x.2.1) [] [.sp [.i .i64]]
noncomputable def zxi:FS:=mkF 348 [.v (.st 1), .v (.st 1)] (.v .b) (fun x=>zkR x.1 x.2.1) [] []
noncomputable def zv3:FS:=mkF 307 [.v (.l (.st 1)), .v (.l (.st 1))] (.v .b) (fun x=>zj4 x.1 x.2.1) [zxi] [.sp [.i .i64]]
noncomputable def ztF:FS:=mkF 237 [.v (.st 2), .v (.st 2)] (.v .b) (fun x=>ziX x.1 x.2.1) [zmq,zv3] []
noncomputable def zsY:FS:=mkF 151 [.v (.l (.st 2)), .v (.l (.st 2))] (.v .b) (fun x=>zhf x.1 x.2.1) [ztF] [.sp [.i .i64]]
noncomputable def zvR:FS:=mkF 152 [.v (.l (.i .i64)), .v (.l (.i .i64))] (.v .b) (fun x=>zjR x.1 x.2.1) [] [.sp [.i .i64]]
noncomputable def zuq:FS:=mkF 238 [.v (.st 0), .v (.st 0)] (.v .b) (fun x=>ziM x.1 x.2.1) [] []
noncomputable def zr0:FS:=mkF 153 [.v (.l (.st 0)), .v (.l (.st 0))] (.v .b) (fun x=>zhX x.1 x.2.1) [zuq] [.sp [.i .i64]]
noncomputable def zt4:FS:=mkF 57 [.v (.st 3), .v (.st 3)] (.v .b) (fun x=>zi4 x.1 x.2.1) [zsY,zvR,zr0] []
noncomputable def zwH:FS:=mkF 169 [.v (.st 4), .v (.st 4)] (.v .b) (fun x=>zhl x.1 x.2.1) [] []
noncomputable def zvy:FS:=mkF 71 [.v (.st 5), .v (.st 5)] (.v .b) (fun x=>ze8 x.1 x.2.1) [zt4,zwH] []
noncomputable def zyh:FS:=mkF 308 [.v (.st 6), .v (.st 6)] (.v .b) (fun x=>zjn x.1 x.2.1) [zmq] []
noncomputable def zte:FS:=mkF 239 [.v (.st 7), .v (.st 7)] (.v .b) (fun x=>zhe x.1 x.2.1) [zyh] []
noncomputable def zp1:FS:=mkF 154 [.v (.st 8), .v (.st 8)] (.v .b) (fun x=>zgk x.1 x.2.1) [zte] []
noncomputable def zrs:FS:=mkF 72 [.v (.st 9), .v (.st 9)] (.v .b) (fun x=>zgS x.1 x.2.1) [zp1] []
noncomputable def zcZ:FS:=mkF 240 [.v (.i .i64)] (.v .s) (fun x=>zaN x.1) [] [.sp [.i .i64, .s]]
noncomputable def zk1:FS:=mkF 158 [.v (.l .s), .v (.i .i64)] (.tu (.cons (.v (.i .i64)) (.cons (.v (.l .s)) .nil))) (fun x=>zfI x.1 x.2.1) [zcZ] [.sp [.i .i64, .i .i64, .l .s]]
noncomputable def zsG:FS:=mkF 241 [.v (.l (.st 1)), .v (.i .i64)] (.tu (.cons (.v (.i .i64)) (.cons (.v (.l (.st 1))) .nil))) (fun x=>zkx x.1 x.2.1) [zcZ] [.sp [.i .i64, .i .i64, .l (.st 1)]]
noncomputable def zqq:FS:=mkF 155 [.v (.l (.st 2)), .v (.i .i64)] (.tu (.cons (.v (.i .i64)) (.cons (.v (.l (.st 2))) .nil))) (fun x=>zix x.1 x.2.1) [zcZ,zk1,zsG] [.sp [.i .i64, .i .i64, .l (.st 2)]]
noncomputable def ztw:FS:=mkF 156 [.v (.l (.i .i64)), .v (.i .i64)] (.tu (.cons (.v (.i .i64)) (.cons (.v (.l (.i .i64))) .nil))) (fun x=>zki x.1 x.2.1) [] [.sp [.i .i64, .i .i64, .l (.i .i64)]]
noncomputable def zqm:FS:=mkF 157 [.v (.l (.st 0)), .v (.i .i64)] (.tu (.cons (.v (.i .i64)) (.cons (.v (.l (.st 0))) .nil))) (fun x=>zil x.1 x.2.1) [zcZ] [.sp [.i .i64, .i .i64, .l (.st 0)]]
noncomputable def zrp:FS:=mkF 60 [.v (.st 3), .v (.i .i64)] (.tu (.cons (.v (.i .i64)) (.cons (.v (.st 3)) .nil))) (fun x=>zgO x.1 x.2.1) [zqq,ztw,zqm] []
noncomputable def zsA:FS:=mkF 73 [.v (.st 5), .v (.i .i64)] (.tu (.cons (.v (.i .i64)) (.cons (.v (.st 5)) .nil))) (fun x=>zf5 x.1 x.2.1) [zrp] []
noncomputable def ztX:FS:=mkF 319 [.v (.st 6), .v (.i .i64)] (.tu (.cons (.v (.i .i64)) (.cons (.v (.st 6)) .nil))) (fun x=>zgD x.1 x.2.1) [zk1] []
noncomputable def zpU:FS:=mkF 258 [.v (.st 7), .v (.i .i64)] (.tu (.cons (.v (.i .i64)) (.cons (.v (.st 7)) .nil))) (fun x=>zgo x.1 x.2.1) [ztX] []
noncomputable def zos:FS:=mkF 170 [.v (.st 8), .v (.i .i64)] (.tu (.cons (.v (.i .i64)) (.cons (.v (.st 8)) .nil))) (fun x=>ze6 x.1 x.2.1) [zpU] []
noncomputable def zpo:FS:=mkF 74 [.v (.st 9), .v (.i .i64)] (.tu (.cons (.v (.i .i64)) (.cons (.v (.st 9)) .nil))) (fun x=>zfO x.1 x.2.1) [zos] []
noncomputable def zo8:FS:=mkF 242 [.v (.l .s), .v (.i .i64)] (.v (.i .i64)) (fun x=>zhJ x.1 x.2.1) [zcZ] [.sp [.i .i64, .i .i64]]
noncomputable def zsV:FS:=mkF 243 [.v (.l (.st 1)), .v (.i .i64)] (.v (.i .i64)) (fun x=>zkG x.1 x.2.1) [zcZ] [.sp [.i .i64, .i .i64]]
noncomputable def zqd:FS:=mkF 159 [.v (.l (.st 2)), .v (.i .i64)] (.v (.i .i64)) (fun x=>zid x.1 x.2.1) [zcZ,zo8,zsV] [.sp [.i .i64, .i .i64]]
noncomputable def ztl:FS:=mkF 160 [.v (.l (.i .i64)), .v (.i .i64)] (.v (.i .i64)) (fun x=>zkF x.1 x.2.1) [] [.sp [.i .i64, .i .i64]]
noncomputable def zqy:FS:=mkF 161 [.v (.l (.st 0)), .v (.i .i64)] (.v (.i .i64)) (fun x=>ziy x.1 x.2.1) [zcZ] [.sp [.i .i64, .i .i64]]
noncomputable def zrg:FS:=mkF 63 [.v (.st 3), .v (.i .i64)] (.v (.i .i64)) (fun x=>zgR x.1 x.2.1) [zqd,ztl,zqy] []
noncomputable def zsp:FS:=mkF 75 [.v (.st 5), .v (.i .i64)] (.v (.i .i64)) (fun x=>zf7 x.1 x.2.1) [zrg] []
noncomputable def zia:FS:=mkF 11 [.v (.st 5), .v (.st 9)] (.v .b) (fun x=>zd0 x.1 x.2.1) [zv8,zre,zwA,zrb,zsQ,zsq,zvy,zrs,zsA,zpo,zsp] []
theorem zmC (a0:zaJ) (a1:zaw) (r:Bool) (h:zd0 a0 a1=some r):Rts Tryz.prog sgs 11 [zBR a0,zrV a1] (.bool r):=zia.ok (a0,a1,()) r (by simp [zia,mkF,zAa,zIv]) h
theorem zac {α:Type} {xs:List α} {i:Nat} (h:i<xs.length):zaD xs (i:Int)=some xs[i]:=by simp [zaD,h]
theorem znc {α:Type} {xs:List α} {i:Int} (h0:0≤i) (h:i<xs.length): ∃x,zaD xs i=some x∧x∈xs∧xs[i.toNat]?=some x:=by
 have hi:i.toNat<xs.length:=by omega
 exact⟨xs[i.toNat],by simp [zaD,h0,hi],List.getElem_mem hi,by simp [hi]⟩
theorem zz1 {α:Type} {xs:List α} {i:Int} {x:α} (h:zaD xs i=some x):x∈xs:=by
 obtain⟨h1,h2,h3⟩:=zFs h
 exact List.mem_of_getElem? h3
theorem zaW {q n:Nat} (h:q<n) (hn:n≤9223372036854775807):IntKind.i64.wrap ((q:Int)+1)=((q+1:Nat):Int):=by rw [zaI (by omega) (by omega)];simp
theorem zae {α:Type} {p:Prop} {k:Option α} (h:p):req p k=k:=by simp [req,h]
def goL {α σ β:Type} (step:α→σ→Option (σ ⊕ Option β)) (fin:σ→Option β):List α→σ→Option β
 | [],s=>fin s
 |x::xs,s=>match step x s with
  |none=>none
  |some (.inl s')=>goL step fin xs s'
  |some (.inr o)=>o
def zws {σ τ β:Type} (f:σ→τ):Option (σ ⊕ Option β)→Option (τ ⊕ Option β)
 |none=>none
 |some (.inl s)=>some (.inl (f s))
 |some (.inr o)=>some (.inr o)
theorem zCr {α σ τ β:Type} {xs:List α} {body:τ→Option (τ ⊕ Option β)} (emb:Int→σ→τ) (step:α→σ→Option (σ ⊕ Option β)) (fin:σ→Option β) (q0:Nat)
  (hs: ∀(i:Nat) (hi:i<xs.length) (s:σ),q0≤i→body (emb i s)=zws (emb ((i+1:Nat):Int)) (step xs[i] s)) (he: ∀s,body (emb xs.length s)=some (.inr (fin s))) (s:σ) (h0:q0≤xs.length):zak body (emb q0 s)=goL step fin (xs.drop q0) s:=by
 have key: ∀(n q:Nat) (s:σ),q0≤q→q+n=xs.length→zak body (emb q s)=goL step fin (xs.drop q) s:=by
  intro n
  induction n with
  |zero=>
   intro q s _ hq
   have:q=xs.length:=by omega
   subst this
   rw [zbL,he s]
   simp [goL]
  |succ n ih=>
   intro q s h0 hq
   have hlt:q<xs.length:=by omega
   rw [zbL,hs q hlt s h0,List.drop_eq_getElem_cons hlt]
   rcases hst:step xs[q] s with _|s'|o
   ·simp [goL,hst,zws]
   ·simp only [goL,hst,zws];exact ih (q+1) s' (by omega) (by omega)
   ·simp [goL,hst,zws]
 exact key (xs.length-q0) q0 s (Nat.le_refl _) (by omega)
theorem zo4 {α σ τ β:Type} {xs:List α} {body:τ→Option (τ ⊕ Option β)} (emb:Int→σ→τ) (step:α→σ→Option (σ ⊕ Option β)) (fin:σ→Option β)
  (hs: ∀(i:Nat) (hi:i<xs.length) (s:σ),body (emb i s)=zws (emb ((i+1:Nat):Int)) (step xs[i] s)) (he: ∀s,body (emb xs.length s)=some (.inr (fin s))) (s:σ):zak body (emb 0 s)=goL step fin xs s:=by
 have:=zCr emb step fin 0 (fun i hi s _=>hs i hi s) he s (by omega)
 simpa using this
theorem zyn {α σ β:Type} {step:α→σ→Option (σ ⊕ Option β)} {fin:σ→Option β} {xs:List α} (p:α→Bool) (b:β) (h: ∀x∈xs,∀s,step x s=some (if p x=true then .inl s else .inr (some b))) (s:σ):goL step fin xs s=if xs.all p=true then fin s else some b:=by
 induction xs with
 |nil=>simp [goL]
 |cons x xs ih=>
  simp only [goL,h x (by simp) s]
  cases hp:p x with
  |true=>simp [hp,ih fun y hy=>h y (by simp [hy])]
  |false=>simp [hp]
theorem zD2 {α σ β:Type} {step:α→σ→Option (σ ⊕ Option β)} {fin:σ→Option β} {xs:List α} (f:σ→α→σ) (I:σ→Prop) (hI: ∀x∈xs,∀s,I s→I (f s x)) (h: ∀x∈xs,∀s,I s→step x s=some (.inl (f s x))) {s:σ} (hs:I s):goL step fin xs s=fin (xs.foldl f s):=by
 induction xs generalizing s with
 |nil=>simp [goL]
 |cons x xs ih=>
  simp only [goL,h x (by simp) s hs,List.foldl_cons]
  exact ih (fun y hy=>hI y (by simp [hy])) (fun y hy=>h y (by simp [hy])) (hI x (by simp) s hs)
theorem zb7 {α σ τ β:Type} {xs:List α} {body:τ→Option (τ ⊕ Option β)} (emb:Int→σ→τ) (f:σ→α→σ) (fin:σ→Option β) (I:Nat→σ→Prop)
  (hs: ∀(i:Nat) (hi:i<xs.length) (s:σ),I i s→body (emb i s)=some (.inl (emb ((i+1:Nat):Int) (f s xs[i])))∧I (i+1) (f s xs[i])) (he: ∀s,I xs.length s→body (emb xs.length s)=some (.inr (fin s))) {s:σ} (h0:I 0 s):zak body (emb 0 s)=fin (xs.foldl f s)∧I xs.length (xs.foldl f s):=by
 have key: ∀(n q:Nat) (s:σ),q+n=xs.length→I q s→zak body (emb q s)=fin ((xs.drop q).foldl f s)∧I xs.length ((xs.drop q).foldl f s):=by
  intro n
  induction n with
  |zero=>
   intro q s hq hI
   have:q=xs.length:=by omega
   subst this
   rw [zbL,he s hI]
   simp [hI]
  |succ n ih=>
   intro q s hq hI
   have hlt:q<xs.length:=by omega
   obtain⟨h1,h2⟩:=hs q hlt s hI
   rw [zbL,h1,List.drop_eq_getElem_cons hlt,List.foldl_cons]
   exact ih (q+1) _ (by omega) h2
 have:=key xs.length 0 s (by omega) h0
 simpa using this
theorem zr4 {α:Type} {xs:List α} {p:α→Option Bool} (q:α→Bool) (hp: ∀x∈xs,p x=some (q x)) (hn:xs.length≤9223372036854775806):za3 xs p=some (xs.any q):=by
 have key: ∀(l:List α) (i:Int),0≤i→(∀x∈l,p x=some (q x))→ ∃r,zqH p l i=some r∧decide (r≥0)=l.any q:=by
  intro l
  induction l with
  |nil=>intro i _ _;exact⟨-1,rfl,by simp⟩
  |cons x l ih=>
   intro i hi h
   simp only [zqH,h x (by simp),yqob]
   cases hq:q x with
   |true=>exact⟨i,by simp,by simp [hq,hi]⟩
   |false=>
    obtain⟨r,h1,h2⟩:=ih (i+1) (by omega) fun y hy=>h y (by simp [hy])
    exact⟨r,by simp [h1],by simp [hq,h2]⟩
 obtain⟨r,h1,h2⟩:=key xs 0 (by omega) hp
 simp [za3,za4,zae hn,h1,h2]
theorem zkW {α:Type} {b:Nat} {xs:List α} (h:(xs.length:Int)*b≤140737488355328) (h2:(xs.length:Int)≤140737488355328):znb b xs=some xs:=zae ⟨h,h2⟩
theorem zjh {β:Type} {n:Nat} {body:Int→Option (Int ⊕ Option β)} (p:Nat→Bool) (b:β) (fin:Option β)
  (hs: ∀i:Nat,i<n→body i=some (if p i=true then .inl ((i+1:Nat):Int)else .inr (some b))) (he:body n=some (.inr fin)):zak body 0=if(List.range n).all p=true then fin else some b:=by
 have h1:=zo4 (xs:=List.range n) (body:=body) (fun i (_:Unit)=>i) (fun i _=>some (if p i=true then .inl ()else .inr (some b))) (fun _=>fin)
  (fun i hi s=>by
   rw [List.length_range]at hi
   rw [hs i hi,List.getElem_range]
   cases p i<;>simp [zws]) (fun s=>by simpa using he) ()
 rw [zyn p b fun x _ s=>rfl]at h1
 exact h1
def zjy {α:Type} (p:α→Bool) (l:List α):Int:=match l.findIdx? p with|some i=>(i:Int)|none=> -1
theorem zrz {α:Type} (p:α→Bool):zjy p []= -1:=rfl
theorem zpk {α:Type} (p:α→Bool) (x:α) (l:List α):zjy p (x::l)=if p x=true then 0 else if zjy p l= -1 then-1 else zjy p l+1:=by
 unfold zjy
 rw [List.findIdx?_cons]
 cases p x with
 |true=>simp
 |false=>
  cases h:l.findIdx? p with
  |none=>simp
  |some i=>simp<;>omega
theorem zr5 {α:Type} (p:α→Bool) (l:List α): -1≤zjy p l:=by
 unfold zjy
 split<;>omega
theorem zni {α:Type} (p:α→Bool) (l:List α):decide (zjy p l≥0)=l.any p:=by
 induction l with
 |nil=>simp [zrz]
 |cons x l ih=>
  have h1:=zr5 p l
  rw [zpk,List.any_cons,←ih]
  cases p x with
  |true=>simp
  |false=>
   by_cases h:zjy p l= -1
   ·simp [h]
   ·have:zjy p l≥0:=by omega
    simp [h,this];try omega
theorem zzd {α:Type} {p:α→Bool} {l:List α} (h:zjy p l≥0): ∃x,zaD l (zjy p l)=some x∧p x=true∧x∈l:=by
 induction l with
 |nil=>simp [zrz]at h
 |cons y l ih=>
  rw [zpk]at h ⊢
  cases hy:p y with
  |true=>exact⟨y,by simp [zaD],hy,by simp⟩
  |false=>
   have h1:=zr5 p l
   by_cases hm:zjy p l= -1
   ·rw [hy,hm]at h;simp at h
   ·have h0:zjy p l≥0:=by omega
    obtain⟨x,e1,e2,e3⟩:=ih h0
    obtain⟨_,e4,e5⟩:=zFs e1
    refine⟨x, ?_,e2,by simp [e3]⟩
    simp only [yqft,if_false,hm]
    unfold zaD
    rw [if_pos (by omega),show(zjy p l+1).toNat=(zjy p l).toNat+1 by omega]
    simpa using e5
theorem zvx {α:Type} {xs:List α} {body:Int→Option (Int ⊕ Option Int)} (p:α→Bool) (hs: ∀(i:Nat) (hi:i<xs.length),body i=some (if p xs[i]=true then .inr (some (i:Int))else .inl ((i+1:Nat):Int))) (he:body xs.length=some (.inr (some (-1)))):zak body 0=some (zjy p xs):=by
 have key: ∀(n q:Nat),q+n=xs.length→zak body q=some (if zjy p (xs.drop q)= -1 then-1 else q+zjy p (xs.drop q)):=by
  intro n
  induction n with
  |zero=>
   intro q hq
   have:q=xs.length:=by omega
   subst this
   rw [zbL,he]
   simp [zrz]
  |succ n ih=>
   intro q hq
   have hlt:q<xs.length:=by omega
   rw [zbL,hs q hlt,List.drop_eq_getElem_cons hlt,zpk]
   cases p xs[q]with
   |true=>simp
   |false=>
    simp only [yqft,if_false]
    rw [ih (q+1) (by omega)]
    have h1:=zr5 p (xs.drop (q+1))
    congr 1
    by_cases hm:zjy p (xs.drop (q+1))= -1
    ·simp [hm]
    ·have h2: ¬(zjy p (xs.drop (q+1))+1= -1):=by omega
     simp only [hm,if_false,h2]
     omega
 have h:=key xs.length 0 (by omega)
 rw [List.drop_zero]at h
 rw [show((0:Nat):Int)=0 from rfl]at h
 rw [h]
 have h1:=zr5 p xs
 by_cases hm:zjy p xs= -1
 ·simp [hm]
 ·simp [hm]
theorem zx6 {α:Type} {xs:List α} {p:α→Option Bool} (q:α→Bool) (hp: ∀x∈xs,p x=some (q x)) (hn:xs.length≤9223372036854775806):za4 xs p=some (zjy q xs):=by
 have key: ∀(l:List α) (i:Int),(∀x∈l,p x=some (q x))→zqH p l i=some (if zjy q l= -1 then-1 else i+zjy q l):=by
  intro l
  induction l with
  |nil=>intro i _;simp [zqH,zrz]
  |cons x l ih=>
   intro i h
   simp only [zqH,h x (by simp),yqob,zpk]
   cases q x with
   |true=>simp
   |false=>
    simp only [yqft,if_false]
    rw [ih (i+1) fun y hy=>h y (by simp [hy])]
    have h1:=zr5 q l
    congr 1
    by_cases hm:zjy q l= -1
    ·simp [hm]
    ·have h2: ¬(zjy q l+1= -1):=by omega
     simp only [hm,if_false,h2]
     omega
 unfold za4
 rw [zae hn,key xs 0 hp]
 by_cases hm:zjy q xs= -1
 ·simp [hm]
 ·simp [hm]
theorem zGh {α β:Type} {o:Option α} {x:α} {f:α→Option β} (h:o=some x):o.bind f=f x:=by rw [h];rfl
theorem zpz {α β:Type} (f:α→β) (l:List α) (o:List β):l.foldl (fun o x=>o++ [f x]) o=o++l.map f:=by
 induction l generalizing o with
 |nil=>simp
 |cons x l ih=>rw [List.foldl_cons,ih];simp
theorem zx0 {α:Type} {xs:List α} {d:α} {body:Int × List α→Option ((Int × List α) ⊕ Option (List α))}
  (hs: ∀(i:Nat) (hi:i<xs.length) (v:List α),v.length=xs.length→body ((i:Int),v)=some (.inl (((i+1:Nat):Int),v.set i xs[i])))
  (he: ∀v,body ((xs.length:Int),v)=some (.inr (some v))):zak body (0,List.replicate xs.length d)=some xs:=by
 have h1:=zb7 (xs:=xs) (body:=body) (fun i (o:List α)=>(i,o++List.replicate (xs.length-i.toNat) d)) (fun(o:List α) x=>o++ [x]) (fun o=>some o) (fun i o=>o.length=i)
  (fun i hi o ho=>by
   refine⟨?_,by simp [ho]⟩
   rw [show((i:Int)).toNat=i from rfl,hs i hi _ (by simp [ho];omega)]
   congr 3
   obtain⟨k,hk⟩: ∃k,xs.length-i=k+1:=⟨xs.length-i-1,by omega⟩
   have h2:xs.length-(((i+1:Nat):Int)).toNat=k:=by rw [show(((i+1:Nat):Int)).toNat=i+1 from rfl];omega
   rw [h2,hk,List.replicate_succ]
   subst ho
   simp [List.set_append])
  (fun o ho=>by
   show body ((xs.length:Int),o++List.replicate (xs.length-((xs.length:Int)).toNat) d)=_
   rw [show((xs.length:Int)).toNat=xs.length from rfl,Nat.sub_self,List.replicate_zero,List.append_nil]
   exact he o) (s:=([]:List α)) rfl
 have h3:=h1.1
 rw [show(fun(o:List α) x=>o++ [x])=(fun o x=>o++ [id x])from rfl,zpz,List.map_id,List.nil_append]at h3
 exact h3
theorem zyj {n:Nat} {body:Int→Option (Int ⊕ Option Bool)} (hs: ∀i:Nat,i<n→body i=some (.inl ((i+1:Nat):Int))) (he:body n=some (.inr (some true))):zak body 0=some true:=by
 have h:=zjh (n:=n) (body:=body) (fun _=>true) false (some true) (fun i hi=>by rw [hs i hi,if_pos rfl]) he
 rw [h,if_pos (by simp)]
theorem zgI {a:Int} {n:Nat} (h0:0≤a) (h1:a≤1048576) (hn:n≤9223372036854775807):IntKind.i64.wrap (a-(n:Int))=a-n:=zaI (by omega) (by omega)
theorem zaO {σ α:Type} {body:σ→Option (σ ⊕ Option α)} {s:σ} {o:Option α} (h:body s=some (.inr o)):zak body s=o:=by rw [zbL,h]
theorem za8 {σ α:Type} {body:σ→Option (σ ⊕ Option α)} {s s':σ} (h:body s=some (.inl s')):zak body s=zak body s':=by rw [zbL,h]
theorem szL {α:Type} {xs:List α} {body:Int × Int→Option ((Int × Int) ⊕ Option Int)} (tot:α→Nat) {a:Int} (h0:0≤a) (h1:a≤1048576)
  (hs: ∀x∈xs,∀b:Int,0≤b→b≤1048576→ ∃v,v≤b∧(0≤v→(tot x:Int)=b-v)∧ ∀i:Nat,xs[i]?=some x→body (b,(i:Int))=some (if v<0 then .inr (some (-1))else .inl (v,((i+1:Nat):Int))))
  (he: ∀b,body (b,(xs.length:Int))=some (.inr (some b))): ∃v,zak body (a,0)=some v∧v≤a∧(0≤v→((xs.map tot).sum:Int)=a-v):=by
 have key: ∀(n q:Nat) (a:Int),q+n=xs.length→0≤a→a≤1048576→ ∃v,zak body (a,(q:Int))=some v∧v≤a∧(0≤v→(((xs.drop q).map tot).sum:Int)=a-v):=by
  intro n
  induction n with
  |zero=>
   intro q a hq h0 h1
   refine⟨a, ?_,by omega,fun _=> ?_⟩
   ·rw [zbL,show(q:Int)=(xs.length:Int) by omega,he]
   ·rw [List.drop_eq_nil_of_le (by omega)];simp
  |succ n ih=>
   intro q a hq h0 h1
   have hlt:q<xs.length:=by omega
   obtain⟨v,e1,e2,e3⟩:=hs xs[q] (List.getElem_mem hlt) a h0 h1
   rw [zbL,e3 q (List.getElem?_eq_getElem hlt)]
   by_cases hv:v<0
   ·rw [if_pos hv]
    exact⟨-1,rfl,by omega,by omega⟩
   ·rw [if_neg hv]
    obtain⟨u,f1,f2,f3⟩:=ih (q+1) v (by omega) (by omega) (by omega)
    refine⟨u,f1,by omega,fun hu=> ?_⟩
    have g1:=f3 hu
    have g2:=e2 (by omega)
    rw [List.drop_eq_getElem_cons hlt,List.map_cons,List.sum_cons]
    omega
 have:=key xs.length 0 a (by omega) h0 h1
 simpa using this
theorem zhR {α:Type} {tot:α→Nat}: ∀{xs:List α} {x:α},x∈xs→tot x≤(xs.map tot).sum
 |y::xs,x,h=>by
  rw [List.map_cons,List.sum_cons]
  rcases yqmc.1 h with rfl|h
  ·omega
  ·have:=zhR (tot:=tot) h;omega
theorem zsE {α:Type} {cnt:α→Nat} {mb:Int × Int × List α→Option ((Int × Int × List α) ⊕ Option (Int × List α))} {hb:List α→Int × Int→Option ((Int × Int) ⊕ Option Int)} (B:Int) {xs:List α} {k:Int} (h0:0≤k) (hB:k+((xs.map cnt).sum:Nat)≤B)
  (hs: ∀x∈xs,∀k:Int,0≤k→k+cnt x≤B→ ∃y,(∀(i:Nat) (v:List α),v[i]?=some x→i<xs.length→mb (k,(i:Int),v)=some (.inl (k+cnt x,((i+1:Nat):Int),v.set i y)))∧ ∀(i:Nat) (ys:List α),ys[i]?=some y→i<xs.length→hb ys (k,(i:Int))=some (.inl (k+cnt x,((i+1:Nat):Int))))
  (he: ∀k v,v.length=xs.length→mb (k,(xs.length:Int),v)=some (.inr (some (k,v)))) (hh: ∀k ys,ys.length=xs.length→hb ys (k,(xs.length:Int))=some (.inr (some k))):
  ∃ys,ys.length=xs.length∧zak mb (k,0,xs)=some (k+((xs.map cnt).sum:Nat),ys)∧zak (hb ys) (k,0)=some (k+((xs.map cnt).sum:Nat)):=by
 have key: ∀(suf pre:List α) (k:Int),pre.length+suf.length=xs.length→(∀x∈suf,x∈xs)→0≤k→k+((suf.map cnt).sum:Nat)≤B→
   ∃suf':List α,suf'.length=suf.length∧zak mb (k,(pre.length:Int),pre++suf)=some (k+((suf.map cnt).sum:Nat),pre++suf')∧zak (hb (pre++suf')) (k,(pre.length:Int))=some (k+((suf.map cnt).sum:Nat)):=by
  intro suf
  induction suf with
  |nil=>
   intro pre k hl _ _ _
   have hl':(pre.length:Int)=(xs.length:Int):=by simp at hl;omega
   have hl2:pre.length=xs.length:=by omega
   refine⟨[],rfl, ?_, ?_⟩
   ·rw [zbL,hl',he _ _ (by simpa using hl2)];simp
   ·rw [zbL,hl',hh _ _ (by simpa using hl2)];simp
  |cons x t ih=>
   intro pre k hl hm h0 hb'
   rw [List.map_cons,List.sum_cons]at hb' ⊢
   obtain⟨y,e1,e2⟩:=hs x (hm x (by simp)) k h0 (by omega)
   rw [yqlc]at hl
   obtain⟨t',f1,f2,f3⟩:=ih (pre++ [y]) (k+cnt x) (by simp;omega) (fun z hz=>hm z (by simp [hz])) (by omega) (by omega)
   have ea:pre++y::t'=pre++ [y]++t':=by simp
   have eb:(pre++x::t).set pre.length y=pre++ [y]++t:=by simp
   have ec:(((pre++ [y]).length:Nat):Int)=((pre.length+1:Nat):Int):=by simp
   refine⟨y::t',by simp [f1], ?_, ?_⟩
   ·rw [zbL,e1 pre.length _ (by simp) (by omega),eb]
    show zak mb (k+cnt x,((pre.length+1:Nat):Int),pre++ [y]++t)=_
    rw [←ec,f2,ea]
    congr 2
    omega
   ·rw [zbL,e2 pre.length _ (by simp) (by omega),ea]
    show zak (hb (pre++ [y]++t')) (k+cnt x,((pre.length+1:Nat):Int))=_
    rw [←ec,f3]
    congr 1
    omega
 have:=key xs [] k (by simp) (fun _ h=>h) h0 hB
 simpa using this
theorem zoL {α:Type} (xs:List α) (n:Nat):(xs.map fun _=>n).sum=n*xs.length:=by
 induction xs with
 |nil=>simp
 |cons x xs ih=>rw [List.map_cons,List.sum_cons,ih,yqlc,Nat.mul_add];omega
theorem zee {α:Type} {xs:List α} {i:Nat} {x:α} (h:xs[i]?=some x):zaD xs (i:Int)=some x:=by simp [zaD,h]
noncomputable def mt (n:Int):yqS:=(zaN n).getD []
theorem zfC {n:Int} (h:n≤4611686018427387904):zaN n=some (mt n):=by
 have key: ∃t,zaN n=some t:=by
  unfold zaN
  by_cases h0:n≤0
  ·rw [if_pos (by simpa using h0)];exact⟨_,rfl⟩
  ·rw [if_neg (by simpa using h0)]
   have go: ∀(f:Nat) (n:Int) (s:yqS),n.toNat≤f→0≤n→n+s.length≤4611686018427387905→ ∃t,zak (fun s:Int × yqS=>zbO s.1 s.2) (n,s)=some t:=by
    intro f
    have stop: ∀(n:Int) (s:yqS),¬n>0→s.length≤4611686018427387905→zak (fun s:Int × yqS=>zbO s.1 s.2) (n,s)=some ([109]++s):=fun n s hz hs=>by
     refine zaO (?_:zbO n s=_)
     unfold zbO
     rw [if_neg (by simpa using hz)]
     unfold zkQ
     rw [zae (by rw [yqls];omega)]
    induction f with
    |zero=>
     intro n s hf hn hs
     exact⟨_,stop n s (by omega) (by omega)⟩
    |succ f ih=>
     intro n s hf hn hs
     by_cases hz:n>0
     ·have hd:Int.tdiv n 10<n∧0≤Int.tdiv n 10:=by
       rw [Int.tdiv_eq_ediv_of_nonneg hn];omega
      obtain⟨t,ht⟩:=ih (Int.tdiv n 10) ([(IntKind.u8.wrap (IntKind.i64.wrap ((48:Int)+(Int.tmod n 10))))].map (fun n=>UInt8.ofNat n.toNat)++s) (by omega) (by omega) (by simp only [yqla,List.length_map,yqls];omega)
      have e:zbO n s=some (.inl (Int.tdiv n 10, [(IntKind.u8.wrap (IntKind.i64.wrap ((48:Int)+(Int.tmod n 10))))].map (fun n=>UInt8.ofNat n.toNat)++s)):=by
       unfold zbO
       rw [if_pos (by simpa using hz),zae (by simp),zae (by rw [List.length_map,yqls];omega),zaI (n:=Int.tdiv n 10) (by omega) (by omega)]
      exact⟨t,(za8 (body:=fun s:Int × yqS=>zbO s.1 s.2) e).trans ht⟩
     ·exact⟨_,stop n s hz (by omega)⟩
   exact go n.toNat n [] (Nat.le_refl _) (by omega) (by simp;omega)
 obtain⟨t,ht⟩:=key
 rw [mt,ht];rfl
def zbz (l:List (yqS)):Nat:=l.length+(l.map (fun x:yqS=>x.length)).sum
theorem zuD {xs:List (yqS)} (h:zbz xs≤2000000):zfo xs=some xs:=by
 have hl:xs.length≤2000000:=by unfold zbz at h;omega
 have hx: ∀x∈xs,x.length≤2000000:=fun x hx=>by have:=zhR (tot:=(fun x:yqS=>x.length)) hx;unfold zbz at h;omega
 unfold zfo
 rw [zae (by omega)]
 exact zx0 (fun i hi v hv=>by
  show zdO xs i v=_
  unfold zdO
  rw [if_pos (by simpa using hi),zac hi,yqob,zac (by omega),yqob,zaW hi (by omega)];rfl) (fun v=>by
  show zdO xs _ v=_
  unfold zdO
  rw [if_neg (by simp)])
theorem zuZ {xs:List (yqS)} (h:zbz xs≤2000000):zfm xs xs=some true:=by
 have hl:xs.length≤2000000:=by unfold zbz at h;omega
 have hx: ∀x∈xs,x.length≤2000000:=fun x hx=>by have:=zhR (tot:=(fun x:yqS=>x.length)) hx;unfold zbz at h;omega
 unfold zfm
 rw [if_neg (by simp)]
 exact zyj (n:=xs.length) (fun i hi=>by
  show zdM xs xs i=_
  unfold zdM
  rw [if_pos (by simpa using hi),zac hi,yqob,yqob,if_neg (by simp),zaW hi (by omega)]) (by
  show zdM xs xs _=_
  unfold zdM
  rw [if_neg (by simp)])
theorem zuQ {xs:List (yqS)} {a:Int} (h0:0≤a) (h1:a≤1048576) (h:(okL zro) xs): ∃v,zff xs a=some v∧v≤a∧(0≤v→(zbz xs:Int)=a-v):=by
 have hl:xs.length≤9223372036854775807:=h.1
 unfold zff zbz
 rw [zgI h0 h1 hl]
 by_cases h2:a-(xs.length:Int)<0
 ·rw [if_pos (by simpa using h2)];exact⟨-1,rfl,by omega,by omega⟩
 ·rw [if_neg (by simpa using h2)]
  obtain⟨v,e1,e2,e3⟩:=szL (xs:=xs) (body:=fun s:Int × Int=>zcP xs s.1 s.2) (fun x:yqS=>x.length) (a:=a-xs.length) (by omega) (by omega) (fun x hx b hb0 hb1=>by
   refine⟨b-(x.length:Int),by omega,fun _=>by show(x.length:Int)=_;omega,fun i hi=> ?_⟩
   have hi':=(List.getElem?_eq_some_iff.1 hi).1
   show zcP xs b i=_
   unfold zcP
   rw [if_pos (by simpa using hi'),zee hi,yqob,zgI hb0 hb1 (h.2 _ hx),zaW hi' (by omega)]
   by_cases h3:b-(x.length:Int)<0
   ·rw [if_pos (by simpa using h3),if_pos h3]
   ·rw [if_neg (by simpa using h3),if_neg h3]) (fun b=>by
   show zcP xs b _=_
   unfold zcP
   rw [if_neg (by simp)])
  exact⟨v,e1,by omega,fun hv=>by have:=e3 hv;omega⟩
def zcJ (l:List (yqS)):Nat:=(l.map fun x=>1).sum
theorem zph (l:List (yqS)):zcJ l≤64*zbz l:=by
 unfold zcJ zbz
 rw [zoL];omega
set_option maxHeartbeats 1000000 in
theorem zqO {xs:List (yqS)} {k:Int} (h0:0≤k) (hk:k+(zcJ xs:Nat)≤4611686018427387904) (h:zbz xs≤2000000): ∃ys,ys.length=xs.length∧zfI xs k=some (k+(zcJ xs:Nat),ys)∧zhJ ys k=some (k+(zcJ xs:Nat)):=by
 have hl:xs.length≤2000000:=by unfold zbz at h;omega
 refine zsE (cnt:=fun x:(yqS)=>1) (mb:=fun s:Int × Int × List (yqS)=>zb5 s.1 s.2.1 s.2.2) (hb:=fun ys s=>zca ys s.1 s.2) 4611686018427387904 h0 hk (fun x hx k h0 hB=> ?_) (fun k v hv=> ?_) (fun k ys hy=> ?_)
 ·have hB:k+((1:Nat):Int)≤4611686018427387904:=hB
  have fin:k+1=k+(((1:Nat)):Int):=by omega
  refine⟨?y,fun i v hv hi=> ?_,fun i ys hy hi=> ?_⟩
  rotate_left
  ·have hi':=(List.getElem?_eq_some_iff.1 hv).1
   show zb5 k i v=_
   unfold zb5
   rw [if_pos (by simpa using hi')]
   simp only [zee hv,zaW hi (by omega:xs.length≤_),Int.toNat_natCast,List.set_set,yqob,(show IntKind.i64.wrap (k+1)=k+1 from zaI (by omega) (by omega)),zfC (n:=k) (by omega)]
   rw [fin]
  ·have hi':=(List.getElem?_eq_some_iff.1 hy).1
   show zca ys k i=_
   unfold zca
   rw [if_pos (by simpa using hi')]
   simp only [zee hy,zaW hi (by omega:xs.length≤_),bne_self_eq_false,yqft,if_false,yqob,(show IntKind.i64.wrap (k+1)=k+1 from zaI (by omega) (by omega)),zfC (n:=k) (by omega)]
   rw [fin]
 ·show zb5 k _ v=_
  unfold zb5
  rw [if_neg (by simp [hv])]
 ·show zca ys k _=_
  unfold zca
  rw [if_neg (by simp [hy])]
def zjx (x:zbh):Nat:=x.ab.length
theorem zIb {x:zbh} (h:zjx x≤2000000):zmG x=some x:=rfl
theorem zHM {x:zbh} (h:zjx x≤2000000):zkR x x=some true:=by
 unfold zkR
 simp []
theorem zIc {x:zbh} {a:Int} (h0:0≤a) (h1:a≤1048576) (h:zCY x): ∃v,zkV x a=some v∧v≤a∧(0≤v→(zjx x:Int)=a-v):=by
 unfold zkV zjx
 rw [zgI (a:=a) (by omega) (by omega) h.1]
 by_cases q0:a-(x.ab.length:Int)<0
 ·rw [if_pos (by simpa using q0)];exact⟨-1,rfl,by omega,by omega⟩
 rw [if_neg (by simpa using q0)]
 exact⟨(a-(x.ab.length:Int)),rfl,by omega,fun _=>by omega⟩
def ze5 (l:List zbh):Nat:=l.length+(l.map zjx).sum
theorem zGt {xs:List zbh} (h:ze5 xs≤2000000):zjP xs=some xs:=by
 have hl:xs.length≤2000000:=by unfold ze5 at h;omega
 have hx: ∀x∈xs,zjx x≤2000000:=fun x hx=>by have:=zhR (tot:=zjx) hx;unfold ze5 at h;omega
 unfold zjP
 rw [zae (by omega)]
 exact zx0 (fun i hi v hv=>by
  show zfr xs i v=_
  unfold zfr
  rw [if_pos (by simpa using hi),zac hi,yqob,zIb (hx _ (List.getElem_mem hi)),yqob,zac (by omega),yqob,zaW hi (by omega)];rfl) (fun v=>by
  show zfr xs _ v=_
  unfold zfr
  rw [if_neg (by simp)])
theorem zHl {xs:List zbh} (h:ze5 xs≤2000000):zj4 xs xs=some true:=by
 have hl:xs.length≤2000000:=by unfold ze5 at h;omega
 have hx: ∀x∈xs,zjx x≤2000000:=fun x hx=>by have:=zhR (tot:=zjx) hx;unfold ze5 at h;omega
 unfold zj4
 rw [if_neg (by simp)]
 exact zyj (n:=xs.length) (fun i hi=>by
  show zfl xs xs i=_
  unfold zfl
  rw [if_pos (by simpa using hi),zac hi,yqob,yqob,zHM (hx _ (List.getElem_mem hi)),yqob,if_neg (by simp),zaW hi (by omega)]) (by
  show zfl xs xs _=_
  unfold zfl
  rw [if_neg (by simp)])
theorem zGa {xs:List zbh} {a:Int} (h0:0≤a) (h1:a≤1048576) (h:(okL zCY) xs): ∃v,zjO xs a=some v∧v≤a∧(0≤v→(ze5 xs:Int)=a-v):=by
 have hl:xs.length≤9223372036854775807:=h.1
 unfold zjO ze5
 rw [zgI h0 h1 hl]
 by_cases h2:a-(xs.length:Int)<0
 ·rw [if_pos (by simpa using h2)];exact⟨-1,rfl,by omega,by omega⟩
 ·rw [if_neg (by simpa using h2)]
  obtain⟨v,e1,e2,e3⟩:=szL (xs:=xs) (body:=fun s:Int × Int=>zd6 xs s.1 s.2) zjx (a:=a-xs.length) (by omega) (by omega) (fun x hx b hb0 hb1=>by
   obtain⟨r,e1,e2,e3⟩:=zIc (x:=x) hb0 hb1 (h.2 _ hx)
   refine⟨r,e2,e3,fun i hi=> ?_⟩
   have hi':=(List.getElem?_eq_some_iff.1 hi).1
   show zd6 xs b i=_
   unfold zd6
   rw [if_pos (by simpa using hi'),zee hi,yqob,e1,yqob,zaW hi' (by omega)]
   by_cases h3:r<0
   ·rw [if_pos (by simpa using h3),if_pos h3]
   ·rw [if_neg (by simpa using h3),if_neg h3]) (fun b=>by
   show zd6 xs b _=_
   unfold zd6
   rw [if_neg (by simp)])
  exact⟨v,e1,by omega,fun hv=>by have:=e3 hv;omega⟩
def ziP (l:List zbh):Nat:=(l.map fun x=>3).sum
theorem zAT (l:List zbh):ziP l≤64*ze5 l:=by
 unfold ziP ze5
 rw [zoL];omega
set_option maxHeartbeats 1000000 in
theorem zDT {xs:List zbh} {k:Int} (h0:0≤k) (hk:k+(ziP xs:Nat)≤4611686018427387904) (h:ze5 xs≤2000000): ∃ys,ys.length=xs.length∧zkx xs k=some (k+(ziP xs:Nat),ys)∧zkG ys k=some (k+(ziP xs:Nat)):=by
 have hl:xs.length≤2000000:=by unfold ze5 at h;omega
 refine zsE (cnt:=fun x:zbh=>3) (mb:=fun s:Int × Int × List zbh=>zc9 s.1 s.2.1 s.2.2) (hb:=fun ys s=>zdc ys s.1 s.2) 4611686018427387904 h0 hk (fun x hx k h0 hB=> ?_) (fun k v hv=> ?_) (fun k ys hy=> ?_)
 ·have hB:k+((3:Nat):Int)≤4611686018427387904:=hB
  have fin:k+1+1+1=k+(((3:Nat)):Int):=by omega
  refine⟨?y,fun i v hv hi=> ?_,fun i ys hy hi=> ?_⟩
  rotate_left
  ·have hi':=(List.getElem?_eq_some_iff.1 hv).1
   show zc9 k i v=_
   unfold zc9
   rw [if_pos (by simpa using hi')]
   simp only [zee hv,zaW hi (by omega:xs.length≤_),Int.toNat_natCast,List.set_set,yqob,(show IntKind.i64.wrap (k+1)=k+1 from zaI (by omega) (by omega)),(show IntKind.i64.wrap (k+1+1)=k+1+1 from zaI (by omega) (by omega)),(show IntKind.i64.wrap (k+1+1+1)=k+1+1+1 from zaI (by omega) (by omega)),zfC (n:=k) (by omega)]
   rw [fin]
  ·have hi':=(List.getElem?_eq_some_iff.1 hy).1
   show zdc ys k i=_
   unfold zdc
   rw [if_pos (by simpa using hi')]
   simp only [zee hy,zaW hi (by omega:xs.length≤_),bne_self_eq_false,yqft,if_false,yqob,(show IntKind.i64.wrap (k+1)=k+1 from zaI (by omega) (by omega)),(show IntKind.i64.wrap (k+1+1)=k+1+1 from zaI (by omega) (by omega)),(show IntKind.i64.wrap (k+1+1+1)=k+1+1+1 from zaI (by omega) (by omega)),zfC (n:=k) (by omega)]
   rw [fin]
 ·show zc9 k _ v=_
  unfold zc9
  rw [if_neg (by simp [hv])]
 ·show zdc ys k _=_
  unfold zdc
  rw [if_neg (by simp [hy])]
def zbn (x:zab):Nat:=x.ab.length+zbz x.ao+ze5 x.af
theorem zEP {x:zab} (h:zbn x≤2000000):ziG x=some x:=by
 unfold ziG
 simp only [zuD (xs:=x.ao) (by unfold zbn at h;omega),zGt (xs:=x.af) (by unfold zbn at h;omega),yqob]
theorem zFo {x:zab} (h:zbn x≤2000000):ziX x x=some true:=by
 unfold ziX
 simp [zuZ (xs:=x.ao) (by unfold zbn at h;omega),zHl (xs:=x.af) (by unfold zbn at h;omega)]
theorem zE6 {x:zab} {a:Int} (h0:0≤a) (h1:a≤1048576) (h:zsB x): ∃v,zi2 x a=some v∧v≤a∧(0≤v→(zbn x:Int)=a-v):=by
 unfold zi2 zbn
 rw [zgI (a:=a) (by omega) (by omega) h.1]
 by_cases q0:a-(x.ab.length:Int)<0
 ·rw [if_pos (by simpa using q0)];exact⟨-1,rfl,by omega,by omega⟩
 rw [if_neg (by simpa using q0)]
 obtain⟨b1,e1,g1,r1⟩:=zuQ (xs:=x.ao) (a:=(a-(x.ab.length:Int))) (by omega) (by omega) h.2.1
 rw [e1,yqob]
 by_cases q1:b1<0
 ·rw [if_pos (by simpa using q1)];exact⟨-1,rfl,by omega,by omega⟩
 rw [if_neg (by simpa using q1)]
 have s1:=r1 (by omega)
 obtain⟨b2,e2,g2,r2⟩:=zGa (xs:=x.af) (a:=b1) (by omega) (by omega) h.2.2
 rw [e2,yqob]
 by_cases q2:b2<0
 ·rw [if_pos (by simpa using q2)];exact⟨-1,rfl,by omega,by omega⟩
 rw [if_neg (by simpa using q2)]
 have s2:=r2 (by omega)
 exact⟨b2,rfl,by omega,fun _=>by omega⟩
def zbT (l:List zab):Nat:=l.length+(l.map zbn).sum
theorem zDd {xs:List zab} (h:zbT xs≤2000000):zhF xs=some xs:=by
 have hl:xs.length≤2000000:=by unfold zbT at h;omega
 have hx: ∀x∈xs,zbn x≤2000000:=fun x hx=>by have:=zhR (tot:=zbn) hx;unfold zbT at h;omega
 unfold zhF
 rw [zae (by omega)]
 exact zx0 (fun i hi v hv=>by
  show zen xs i v=_
  unfold zen
  rw [if_pos (by simpa using hi),zac hi,yqob,zEP (hx _ (List.getElem_mem hi)),yqob,zac (by omega),yqob,zaW hi (by omega)];rfl) (fun v=>by
  show zen xs _ v=_
  unfold zen
  rw [if_neg (by simp)])
theorem zDr {xs:List zab} (h:zbT xs≤2000000):zhf xs xs=some true:=by
 have hl:xs.length≤2000000:=by unfold zbT at h;omega
 have hx: ∀x∈xs,zbn x≤2000000:=fun x hx=>by have:=zhR (tot:=zbn) hx;unfold zbT at h;omega
 unfold zhf
 rw [if_neg (by simp)]
 exact zyj (n:=xs.length) (fun i hi=>by
  show zet xs xs i=_
  unfold zet
  rw [if_pos (by simpa using hi),zac hi,yqob,yqob,zFo (hx _ (List.getElem_mem hi)),yqob,if_neg (by simp),zaW hi (by omega)]) (by
  show zet xs xs _=_
  unfold zet
  rw [if_neg (by simp)])
theorem zDi {xs:List zab} {a:Int} (h0:0≤a) (h1:a≤1048576) (h:(okL zsB) xs): ∃v,zhn xs a=some v∧v≤a∧(0≤v→(zbT xs:Int)=a-v):=by
 have hl:xs.length≤9223372036854775807:=h.1
 unfold zhn zbT
 rw [zgI h0 h1 hl]
 by_cases h2:a-(xs.length:Int)<0
 ·rw [if_pos (by simpa using h2)];exact⟨-1,rfl,by omega,by omega⟩
 ·rw [if_neg (by simpa using h2)]
  obtain⟨v,e1,e2,e3⟩:=szL (xs:=xs) (body:=fun s:Int × Int=>zde xs s.1 s.2) zbn (a:=a-xs.length) (by omega) (by omega) (fun x hx b hb0 hb1=>by
   obtain⟨r,e1,e2,e3⟩:=zE6 (x:=x) hb0 hb1 (h.2 _ hx)
   refine⟨r,e2,e3,fun i hi=> ?_⟩
   have hi':=(List.getElem?_eq_some_iff.1 hi).1
   show zde xs b i=_
   unfold zde
   rw [if_pos (by simpa using hi'),zee hi,yqob,e1,yqob,zaW hi' (by omega)]
   by_cases h3:r<0
   ·rw [if_pos (by simpa using h3),if_pos h3]
   ·rw [if_neg (by simpa using h3),if_neg h3]) (fun b=>by
   show zde xs b _=_
   unfold zde
   rw [if_neg (by simp)])
  exact⟨v,e1,by omega,fun hv=>by have:=e3 hv;omega⟩
def zgm (l:List zab):Nat:=(l.map fun x=>1+zcJ x.ao+ziP x.af).sum
theorem zxD (l:List zab):zgm l≤64*zbT l:=by
 unfold zgm zbT
 induction l with
 |nil=>simp
 |cons x l ih=>
  rw [List.map_cons,List.sum_cons,yqlc,List.map_cons,List.sum_cons]
  have h0:=zph x.ao
  have h1:=zAT x.af
  unfold zbn at*
  omega
set_option maxHeartbeats 1000000 in
theorem zyx {xs:List zab} {k:Int} (h0:0≤k) (hk:k+(zgm xs:Nat)≤4611686018427387904) (h:zbT xs≤2000000): ∃ys,ys.length=xs.length∧zix xs k=some (k+(zgm xs:Nat),ys)∧zid ys k=some (k+(zgm xs:Nat)):=by
 have hl:xs.length≤2000000:=by unfold zbT at h;omega
 refine zsE (cnt:=fun x:zab=>1+zcJ x.ao+ziP x.af) (mb:=fun s:Int × Int × List zab=>zcr s.1 s.2.1 s.2.2) (hb:=fun ys s=>zcq ys s.1 s.2) 4611686018427387904 h0 hk (fun x hx k h0 hB=> ?_) (fun k v hv=> ?_) (fun k ys hy=> ?_)
 ·have hB:k+((1+zcJ x.ao+ziP x.af:Nat):Int)≤4611686018427387904:=hB
  obtain⟨r0, -,m0,g0⟩:=zqO (xs:=x.ao) (k:=k+1) (by omega) (by omega) (by have:=zhR (tot:=zbn) hx;unfold zbT at h;have e_:zbz x.ao≤zbn x:=(by unfold zbn;omega);omega)
  obtain⟨r1, -,m1,g1⟩:=zDT (xs:=x.af) (k:=k+1+((zcJ x.ao:Nat):Int)) (by omega) (by omega) (by have:=zhR (tot:=zbn) hx;unfold zbT at h;have e_:ze5 x.af≤zbn x:=(by unfold zbn;omega);omega)
  have fin:k+1+((zcJ x.ao:Nat):Int)+((ziP x.af:Nat):Int)=k+(((1+zcJ x.ao+ziP x.af:Nat)):Int):=by omega
  refine⟨?y,fun i v hv hi=> ?_,fun i ys hy hi=> ?_⟩
  rotate_left
  ·have hi':=(List.getElem?_eq_some_iff.1 hv).1
   show zcr k i v=_
   unfold zcr
   rw [if_pos (by simpa using hi')]
   simp only [zee hv,zaW hi (by omega:xs.length≤_),Int.toNat_natCast,List.set_set,yqob,(show IntKind.i64.wrap (k+1)=k+1 from zaI (by omega) (by omega)),zfC (n:=k) (by omega),m0,m1]
   rw [fin]
  ·have hi':=(List.getElem?_eq_some_iff.1 hy).1
   show zcq ys k i=_
   unfold zcq
   rw [if_pos (by simpa using hi')]
   simp only [zee hy,zaW hi (by omega:xs.length≤_),bne_self_eq_false,yqft,if_false,yqob,(show IntKind.i64.wrap (k+1)=k+1 from zaI (by omega) (by omega)),zfC (n:=k) (by omega),g0,g1]
   rw [if_neg (by simp;omega),if_neg (by simp;omega),fin]
 ·show zcr k _ v=_
  unfold zcr
  rw [if_neg (by simp [hv])]
 ·show zcq ys k _=_
  unfold zcq
  rw [if_neg (by simp [hy])]
def zfK (l:List Int):Nat:=l.length
theorem zGL {xs:List Int} (h:zfK xs≤2000000):zj1 xs=some xs:=by
 have hl:xs.length≤2000000:=by unfold zfK at h;omega
 unfold zj1
 rw [zae (by omega)]
 exact zx0 (fun i hi v hv=>by
  show zfn xs i v=_
  unfold zfn
  rw [if_pos (by simpa using hi),zac hi,yqob,zac (by omega),yqob,zaW hi (by omega)];rfl) (fun v=>by
  show zfn xs _ v=_
  unfold zfn
  rw [if_neg (by simp)])
theorem zGr {xs:List Int} (h:zfK xs≤2000000):zjR xs xs=some true:=by
 have hl:xs.length≤2000000:=by unfold zfK at h;omega
 unfold zjR
 rw [if_neg (by simp)]
 exact zyj (n:=xs.length) (fun i hi=>by
  show zft xs xs i=_
  unfold zft
  rw [if_pos (by simpa using hi),zac hi,yqob,yqob,if_neg (by simp),zaW hi (by omega)]) (by
  show zft xs xs _=_
  unfold zft
  rw [if_neg (by simp)])
theorem zHn {xs:List Int} {a:Int} (h0:0≤a) (h1:a≤1048576) (h:(okL zo5) xs): ∃v,zjU xs a=some v∧v≤a∧(0≤v→(zfK xs:Int)=a-v):=by
 have hl:xs.length≤9223372036854775807:=h.1
 unfold zjU zfK
 rw [zgI h0 h1 hl]
 by_cases h2:a-(xs.length:Int)<0
 ·rw [if_pos (by simpa using h2)];exact⟨-1,rfl,by omega,by omega⟩
 ·rw [if_neg (by simpa using h2)]
  exact⟨_,rfl,by omega,fun _=>by omega⟩
def zkO (l:List Int):Nat:=(l.map fun x=>1).sum
theorem zAX (l:List Int):zkO l≤64*zfK l:=by
 unfold zkO zfK
 rw [zoL];omega
set_option maxHeartbeats 1000000 in
theorem zBo {xs:List Int} {k:Int} (h0:0≤k) (hk:k+(zkO xs:Nat)≤4611686018427387904) (h:zfK xs≤2000000): ∃ys,ys.length=xs.length∧zki xs k=some (k+(zkO xs:Nat),ys)∧zkF ys k=some (k+(zkO xs:Nat)):=by
 have hl:xs.length≤2000000:=by unfold zfK at h;omega
 refine zsE (cnt:=fun x:Int=>1) (mb:=fun s:Int × Int × List Int=>zc5 s.1 s.2.1 s.2.2) (hb:=fun ys s=>zdf ys s.1 s.2) 4611686018427387904 h0 hk (fun x hx k h0 hB=> ?_) (fun k v hv=> ?_) (fun k ys hy=> ?_)
 ·have hB:k+((1:Nat):Int)≤4611686018427387904:=hB
  have fin:k+1=k+(((1:Nat)):Int):=by omega
  refine⟨?y,fun i v hv hi=> ?_,fun i ys hy hi=> ?_⟩
  rotate_left
  ·have hi':=(List.getElem?_eq_some_iff.1 hv).1
   show zc5 k i v=_
   unfold zc5
   rw [if_pos (by simpa using hi')]
   simp only [zee hv,zaW hi (by omega:xs.length≤_),Int.toNat_natCast,List.set_set,yqob,(show IntKind.i64.wrap (k+1)=k+1 from zaI (by omega) (by omega))]
   rw [fin]
  ·have hi':=(List.getElem?_eq_some_iff.1 hy).1
   show zdf ys k i=_
   unfold zdf
   rw [if_pos (by simpa using hi')]
   simp only [zee hy,zaW hi (by omega:xs.length≤_),bne_self_eq_false,yqft,if_false,yqob,(show IntKind.i64.wrap (k+1)=k+1 from zaI (by omega) (by omega))]
   rw [fin]
 ·show zc5 k _ v=_
  unfold zc5
  rw [if_neg (by simp [hv])]
 ·show zdf ys k _=_
  unfold zdf
  rw [if_neg (by simp [hy])]
def zel (x:zaa):Nat:=x.ae.length+x.az.length
theorem zEQ {x:zaa} (h:zel x≤2000000):zli x=some x:=rfl
theorem zEu {x:zaa} (h:zel x≤2000000):ziM x x=some true:=by
 unfold ziM
 simp []
theorem zEy {x:zaa} {a:Int} (h0:0≤a) (h1:a≤1048576) (h:zse x): ∃v,ziN x a=some v∧v≤a∧(0≤v→(zel x:Int)=a-v):=by
 unfold ziN zel
 rw [zgI (a:=a) (by omega) (by omega) h.1]
 by_cases q0:a-(x.ae.length:Int)<0
 ·rw [if_pos (by simpa using q0)];exact⟨-1,rfl,by omega,by omega⟩
 rw [if_neg (by simpa using q0)]
 rw [zgI (a:=(a-(x.ae.length:Int))) (by omega) (by omega) h.2.1]
 by_cases q1:(a-(x.ae.length:Int))-(x.az.length:Int)<0
 ·rw [if_pos (by simpa using q1)];exact⟨-1,rfl,by omega,by omega⟩
 rw [if_neg (by simpa using q1)]
 exact⟨((a-(x.ae.length:Int))-(x.az.length:Int)),rfl,by omega,fun _=>by omega⟩
def zbR (l:List zaa):Nat:=l.length+(l.map zel).sum
theorem zBD {xs:List zaa} (h:zbR xs≤2000000):zhv xs=some xs:=by
 have hl:xs.length≤2000000:=by unfold zbR at h;omega
 have hx: ∀x∈xs,zel x≤2000000:=fun x hx=>by have:=zhR (tot:=zel) hx;unfold zbR at h;omega
 unfold zhv
 rw [zae (by omega)]
 exact zx0 (fun i hi v hv=>by
  show zeg xs i v=_
  unfold zeg
  rw [if_pos (by simpa using hi),zac hi,yqob,zEQ (hx _ (List.getElem_mem hi)),yqob,zac (by omega),yqob,zaW hi (by omega)];rfl) (fun v=>by
  show zeg xs _ v=_
  unfold zeg
  rw [if_neg (by simp)])
theorem zBO {xs:List zaa} (h:zbR xs≤2000000):zhX xs xs=some true:=by
 have hl:xs.length≤2000000:=by unfold zbR at h;omega
 have hx: ∀x∈xs,zel x≤2000000:=fun x hx=>by have:=zhR (tot:=zel) hx;unfold zbR at h;omega
 unfold zhX
 rw [if_neg (by simp)]
 exact zyj (n:=xs.length) (fun i hi=>by
  show zer xs xs i=_
  unfold zer
  rw [if_pos (by simpa using hi),zac hi,yqob,yqob,zEu (hx _ (List.getElem_mem hi)),yqob,if_neg (by simp),zaW hi (by omega)]) (by
  show zer xs xs _=_
  unfold zer
  rw [if_neg (by simp)])
theorem zDc {xs:List zaa} {a:Int} (h0:0≤a) (h1:a≤1048576) (h:(okL zse) xs): ∃v,zhu xs a=some v∧v≤a∧(0≤v→(zbR xs:Int)=a-v):=by
 have hl:xs.length≤9223372036854775807:=h.1
 unfold zhu zbR
 rw [zgI h0 h1 hl]
 by_cases h2:a-(xs.length:Int)<0
 ·rw [if_pos (by simpa using h2)];exact⟨-1,rfl,by omega,by omega⟩
 ·rw [if_neg (by simpa using h2)]
  obtain⟨v,e1,e2,e3⟩:=szL (xs:=xs) (body:=fun s:Int × Int=>zdg xs s.1 s.2) zel (a:=a-xs.length) (by omega) (by omega) (fun x hx b hb0 hb1=>by
   obtain⟨r,e1,e2,e3⟩:=zEy (x:=x) hb0 hb1 (h.2 _ hx)
   refine⟨r,e2,e3,fun i hi=> ?_⟩
   have hi':=(List.getElem?_eq_some_iff.1 hi).1
   show zdg xs b i=_
   unfold zdg
   rw [if_pos (by simpa using hi'),zee hi,yqob,e1,yqob,zaW hi' (by omega)]
   by_cases h3:r<0
   ·rw [if_pos (by simpa using h3),if_pos h3]
   ·rw [if_neg (by simpa using h3),if_neg h3]) (fun b=>by
   show zdg xs b _=_
   unfold zdg
   rw [if_neg (by simp)])
  exact⟨v,e1,by omega,fun hv=>by have:=e3 hv;omega⟩
def zir (l:List zaa):Nat:=(l.map fun x=>3).sum
theorem zwT (l:List zaa):zir l≤64*zbR l:=by
 unfold zir zbR
 rw [zoL];omega
set_option maxHeartbeats 1000000 in
theorem zyS {xs:List zaa} {k:Int} (h0:0≤k) (hk:k+(zir xs:Nat)≤4611686018427387904) (h:zbR xs≤2000000): ∃ys,ys.length=xs.length∧zil xs k=some (k+(zir xs:Nat),ys)∧ziy ys k=some (k+(zir xs:Nat)):=by
 have hl:xs.length≤2000000:=by unfold zbR at h;omega
 refine zsE (cnt:=fun x:zaa=>3) (mb:=fun s:Int × Int × List zaa=>zco s.1 s.2.1 s.2.2) (hb:=fun ys s=>zcp ys s.1 s.2) 4611686018427387904 h0 hk (fun x hx k h0 hB=> ?_) (fun k v hv=> ?_) (fun k ys hy=> ?_)
 ·have hB:k+((3:Nat):Int)≤4611686018427387904:=hB
  have fin:k+1+1+1=k+(((3:Nat)):Int):=by omega
  refine⟨?y,fun i v hv hi=> ?_,fun i ys hy hi=> ?_⟩
  rotate_left
  ·have hi':=(List.getElem?_eq_some_iff.1 hv).1
   show zco k i v=_
   unfold zco
   rw [if_pos (by simpa using hi')]
   simp only [zee hv,zaW hi (by omega:xs.length≤_),Int.toNat_natCast,List.set_set,yqob,(show IntKind.i64.wrap (k+1)=k+1 from zaI (by omega) (by omega)),(show IntKind.i64.wrap (k+1+1)=k+1+1 from zaI (by omega) (by omega)),(show IntKind.i64.wrap (k+1+1+1)=k+1+1+1 from zaI (by omega) (by omega)),zfC (n:=k) (by omega),zfC (n:=k+1) (by omega)]
   rw [fin]
  ·have hi':=(List.getElem?_eq_some_iff.1 hy).1
   show zcp ys k i=_
   unfold zcp
   rw [if_pos (by simpa using hi')]
   simp only [zee hy,zaW hi (by omega:xs.length≤_),bne_self_eq_false,yqft,if_false,yqob,(show IntKind.i64.wrap (k+1)=k+1 from zaI (by omega) (by omega)),(show IntKind.i64.wrap (k+1+1)=k+1+1 from zaI (by omega) (by omega)),(show IntKind.i64.wrap (k+1+1+1)=k+1+1+1 from zaI (by omega) (by omega)),zfC (n:=k) (by omega),zfC (n:=k+1) (by omega)]
   rw [fin]
 ·show zco k _ v=_
  unfold zco
  rw [if_neg (by simp [hv])]
 ·show zcp ys k _=_
  unfold zcp
  rw [if_neg (by simp [hy])]
def zbJ (x:zai):Nat:=x.ab.length+zbT x.ak+zfK x.bm+zbR x.ay
theorem zEV {x:zai} (h:zbJ x≤2000000):ziF x=some x:=by
 unfold ziF
 simp only [zDd (xs:=x.ak) (by unfold zbJ at h;omega),zGL (xs:=x.bm) (by unfold zbJ at h;omega),zBD (xs:=x.ay) (by unfold zbJ at h;omega),yqob]
theorem zEb {x:zai} (h:zbJ x≤2000000):zi4 x x=some true:=by
 unfold zi4
 simp [zDr (xs:=x.ak) (by unfold zbJ at h;omega),zGr (xs:=x.bm) (by unfold zbJ at h;omega),zBO (xs:=x.ay) (by unfold zbJ at h;omega)]
theorem zEn {x:zai} {a:Int} (h0:0≤a) (h1:a≤1048576) (h:zyQ x): ∃v,zi0 x a=some v∧v≤a∧(0≤v→(zbJ x:Int)=a-v):=by
 unfold zi0 zbJ
 rw [zgI (a:=a) (by omega) (by omega) h.1]
 by_cases q0:a-(x.ab.length:Int)<0
 ·rw [if_pos (by simpa using q0)];exact⟨-1,rfl,by omega,by omega⟩
 rw [if_neg (by simpa using q0)]
 obtain⟨b1,e1,g1,r1⟩:=zDi (xs:=x.ak) (a:=(a-(x.ab.length:Int))) (by omega) (by omega) h.2.1
 rw [e1,yqob]
 by_cases q1:b1<0
 ·rw [if_pos (by simpa using q1)];exact⟨-1,rfl,by omega,by omega⟩
 rw [if_neg (by simpa using q1)]
 have s1:=r1 (by omega)
 obtain⟨b2,e2,g2,r2⟩:=zHn (xs:=x.bm) (a:=b1) (by omega) (by omega) h.2.2.1
 rw [e2,yqob]
 by_cases q2:b2<0
 ·rw [if_pos (by simpa using q2)];exact⟨-1,rfl,by omega,by omega⟩
 rw [if_neg (by simpa using q2)]
 have s2:=r2 (by omega)
 obtain⟨b3,e3,g3,r3⟩:=zDc (xs:=x.ay) (a:=b2) (by omega) (by omega) h.2.2.2
 rw [e3,yqob]
 by_cases q3:b3<0
 ·rw [if_pos (by simpa using q3)];exact⟨-1,rfl,by omega,by omega⟩
 rw [if_neg (by simpa using q3)]
 have s3:=r3 (by omega)
 exact⟨b3,rfl,by omega,fun _=>by omega⟩
def zfi (x:zai):Nat:=zgm x.ak+zkO x.bm+zir x.ay
theorem zyX (x:zai):zfi x≤64*zbJ x:=by
 have h0:=zxD x.ak
 have h1:=zAX x.bm
 have h2:=zwT x.ay
 unfold zfi zbJ
 omega
theorem zAv {x:zai} {k:Int} (h0:0≤k) (hk:k+(zfi x:Nat)≤4611686018427387904) (h:zbJ x≤2000000): ∃r0:List zab,∃r1:List Int,∃r2:List zaa,zgO x k=some (k+(zfi x:Nat),⟨x.ab,r0,r1,r2⟩)∧zgR ⟨x.ab,r0,r1,r2⟩ k=some (k+(zfi x:Nat)):=by
 obtain⟨r0, -,m0,g0⟩:=zyx (xs:=x.ak) (k:=k) (by omega) (by unfold zfi at hk;omega) (by unfold zbJ at h;omega)
 obtain⟨r1, -,m1,g1⟩:=zBo (xs:=x.bm) (k:=k+((zgm x.ak:Nat):Int)) (by omega) (by unfold zfi at hk;omega) (by unfold zbJ at h;omega)
 obtain⟨r2, -,m2,g2⟩:=zyS (xs:=x.ay) (k:=k+((zgm x.ak:Nat):Int)+((zkO x.bm:Nat):Int)) (by omega) (by unfold zfi at hk;omega) (by unfold zbJ at h;omega)
 have fin:k+((zgm x.ak:Nat):Int)+((zkO x.bm:Nat):Int)+((zir x.ay:Nat):Int)=k+(zfi x:Nat):=by unfold zfi;omega
 refine⟨r0,r1,r2, ?_, ?_⟩
 ·unfold zgO
  simp only [m0,m1,m2,yqob]
  rw [fin]
 ·unfold zgR
  simp only [g0,g1,g2,yqob]
  rw [if_neg (by simp;omega)]
  rw [if_neg (by simp;omega)]
  rw [if_neg (by simp;omega)]
  rw [fin]
def zkY (x:zaK):Nat:=x.aq.length
theorem zCi {x:zaK} (h:zkY x≤2000000):zjX x=some x:=rfl
theorem zCo {x:zaK} (h:zkY x≤2000000):zhl x x=some true:=by
 unfold zhl
 simp []
theorem zCU {x:zaK} {a:Int} (h0:0≤a) (h1:a≤1048576) (h:zzT x): ∃v,zhi x a=some v∧v≤a∧(0≤v→(zkY x:Int)=a-v):=by
 unfold zhi zkY
 rw [zgI (a:=a) (by omega) (by omega) h.1]
 by_cases q0:a-(x.aq.length:Int)<0
 ·rw [if_pos (by simpa using q0)];exact⟨-1,rfl,by omega,by omega⟩
 rw [if_neg (by simpa using q0)]
 exact⟨(a-(x.aq.length:Int)),rfl,by omega,fun _=>by omega⟩
def zcd (x:zaJ):Nat:=zbJ x.ah+zkY x.c8+zkY x.bf
theorem zGI {x:zaJ} (h:zcd x≤2000000):ze1 x=some x:=by
 unfold ze1
 simp only [zEV (x:=x.ah) (by unfold zcd at h;omega),zCi (x:=x.c8) (by unfold zcd at h;omega),zCi (x:=x.bf) (by unfold zcd at h;omega),yqob]
theorem zBz {x:zaJ} (h:zcd x≤2000000):ze8 x x=some true:=by
 unfold ze8
 simp [zEb (x:=x.ah) (by unfold zcd at h;omega),zCo (x:=x.c8) (by unfold zcd at h;omega),zCo (x:=x.bf) (by unfold zcd at h;omega)]
theorem zGN {x:zaJ} {a:Int} (h0:0≤a) (h1:a≤1048576) (h:zCG x): ∃v,zkc x a=some v∧v≤a∧(0≤v→(zcd x:Int)=a-v):=by
 unfold zkc zcd
 obtain⟨b0,e0,g0,r0⟩:=zEn (x:=x.ah) (a:=a) (by omega) (by omega) h.1
 rw [e0,yqob]
 by_cases q0:b0<0
 ·rw [if_pos (by simpa using q0)];exact⟨-1,rfl,by omega,by omega⟩
 rw [if_neg (by simpa using q0)]
 have s0:=r0 (by omega)
 obtain⟨b1,e1,g1,r1⟩:=zCU (x:=x.c8) (a:=b0) (by omega) (by omega) h.2.1
 rw [e1,yqob]
 by_cases q1:b1<0
 ·rw [if_pos (by simpa using q1)];exact⟨-1,rfl,by omega,by omega⟩
 rw [if_neg (by simpa using q1)]
 have s1:=r1 (by omega)
 obtain⟨b2,e2,g2,r2⟩:=zCU (x:=x.bf) (a:=b1) (by omega) (by omega) h.2.2
 rw [e2,yqob]
 by_cases q2:b2<0
 ·rw [if_pos (by simpa using q2)];exact⟨-1,rfl,by omega,by omega⟩
 rw [if_neg (by simpa using q2)]
 have s2:=r2 (by omega)
 exact⟨b2,rfl,by omega,fun _=>by omega⟩
def zhh (x:zaJ):Nat:=zfi x.ah
theorem zu4 (x:zaJ):zhh x≤64*zcd x:=by
 have h0:=zyX x.ah
 unfold zhh zcd
 omega
theorem zwM {x:zaJ} {k:Int} (h0:0≤k) (hk:k+(zhh x:Nat)≤4611686018427387904) (h:zcd x≤2000000): ∃r0:List zab,∃r1:List Int,∃r2:List zaa,zf5 x k=some (k+(zhh x:Nat),⟨⟨x.ah.ab,r0,r1,r2⟩,x.c8,x.bf⟩)∧zf7 ⟨⟨x.ah.ab,r0,r1,r2⟩,x.c8,x.bf⟩ k=some (k+(zhh x:Nat)):=by
 obtain⟨r0,r1,r2,m0,g0⟩:=zAv (x:=x.ah) (k:=k) (by omega) (by unfold zhh at hk;omega) (by unfold zcd at h;omega)
 have fin:k+((zfi x.ah:Nat):Int)=k+(zhh x:Nat):=by unfold zhh;omega
 refine⟨r0,r1,r2, ?_, ?_⟩
 ·unfold zf5
  simp only [m0,yqob]
  rw [fin]
 ·unfold zf7
  simp only [g0,yqob]
  rw [if_neg (by simp;omega)]
  rw [fin]
def zik (x:zch):Nat:=zbz x.au
theorem zFQ {x:zch} (h:zik x≤2000000):zjj x=some x:=by
 unfold zjj
 simp only [zuD (xs:=x.au) (by unfold zik at h;omega),yqob]
theorem zFR {x:zch} (h:zik x≤2000000):zjn x x=some true:=by
 unfold zjn
 simp [zuZ (xs:=x.au) (by unfold zik at h;omega)]
theorem zF1 {x:zch} {a:Int} (h0:0≤a) (h1:a≤1048576) (h:zEk x): ∃v,zjm x a=some v∧v≤a∧(0≤v→(zik x:Int)=a-v):=by
 unfold zjm zik
 obtain⟨b0,e0,g0,r0⟩:=zuQ (xs:=x.au) (a:=a) (by omega) (by omega) h
 rw [e0,yqob]
 by_cases q0:b0<0
 ·rw [if_pos (by simpa using q0)];exact⟨-1,rfl,by omega,by omega⟩
 rw [if_neg (by simpa using q0)]
 have s0:=r0 (by omega)
 exact⟨b0,rfl,by omega,fun _=>by omega⟩
def zjq (x:zch):Nat:=zcJ x.au
theorem zxg (x:zch):zjq x≤64*zik x:=by
 have h0:=zph x.au
 unfold zjq zik
 omega
theorem zz9 {x:zch} {k:Int} (h0:0≤k) (hk:k+(zjq x:Nat)≤4611686018427387904) (h:zik x≤2000000): ∃r0:List (yqS),zgD x k=some (k+(zjq x:Nat),⟨r0⟩):=by
 obtain⟨r0, -,m0,g0⟩:=zqO (xs:=x.au) (k:=k) (by omega) (by unfold zjq at hk;omega) (by unfold zik at h;omega)
 have fin:k+((zcJ x.au:Nat):Int)=k+(zjq x:Nat):=by unfold zjq;omega
 refine⟨r0, ?_⟩
 ·unfold zgD
  simp only [m0,yqob]
  rw [fin]
def zcG (x:zao):Nat:=zik x.bg+zik x.bh
theorem zBj {x:zao} (h:zcG x≤2000000):zhj x=some x:=by
 unfold zhj
 simp only [zFQ (x:=x.bg) (by unfold zcG at h;omega),zFQ (x:=x.bh) (by unfold zcG at h;omega),yqob]
theorem zCp {x:zao} (h:zcG x≤2000000):zhe x x=some true:=by
 unfold zhe
 simp [zFR (x:=x.bg) (by unfold zcG at h;omega),zFR (x:=x.bh) (by unfold zcG at h;omega)]
theorem zBC {x:zao} {a:Int} (h0:0≤a) (h1:a≤1048576) (h:zvB x): ∃v,zhw x a=some v∧v≤a∧(0≤v→(zcG x:Int)=a-v):=by
 unfold zhw zcG
 obtain⟨b1,e1,g1,r1⟩:=zF1 (x:=x.bg) (a:=a) (by omega) (by omega) h.2.1
 rw [e1,yqob]
 by_cases q1:b1<0
 ·rw [if_pos (by simpa using q1)];exact⟨-1,rfl,by omega,by omega⟩
 rw [if_neg (by simpa using q1)]
 have s1:=r1 (by omega)
 obtain⟨b2,e2,g2,r2⟩:=zF1 (x:=x.bh) (a:=b1) (by omega) (by omega) h.2.2
 rw [e2,yqob]
 by_cases q2:b2<0
 ·rw [if_pos (by simpa using q2)];exact⟨-1,rfl,by omega,by omega⟩
 rw [if_neg (by simpa using q2)]
 have s2:=r2 (by omega)
 exact⟨b2,rfl,by omega,fun _=>by omega⟩
def zfx (x:zao):Nat:=zjq x.bg+zjq x.bh
theorem zwY (x:zao):zfx x≤64*zcG x:=by
 have h0:=zxg x.bg
 have h1:=zxg x.bh
 unfold zfx zcG
 omega
theorem zyz {x:zao} {k:Int} (h0:0≤k) (hk:k+(zfx x:Nat)≤4611686018427387904) (h:zcG x≤2000000): ∃r0:List (yqS),∃r1:List (yqS),zgo x k=some (k+(zfx x:Nat),⟨x.aj,⟨r0⟩,⟨r1⟩⟩):=by
 obtain⟨r0,m0⟩:=zz9 (x:=x.bg) (k:=k) (by omega) (by unfold zfx at hk;omega) (by unfold zcG at h;omega)
 obtain⟨r1,m1⟩:=zz9 (x:=x.bh) (k:=k+((zjq x.bg:Nat):Int)) (by omega) (by unfold zfx at hk;omega) (by unfold zcG at h;omega)
 have fin:k+((zjq x.bg:Nat):Int)+((zjq x.bh:Nat):Int)=k+(zfx x:Nat):=by unfold zfx;omega
 refine⟨r0,r1, ?_⟩
 ·unfold zgo
  simp only [m0,m1,yqob]
  rw [fin]
def zb6 (x:zax):Nat:=zcG x.aw
theorem zyH {x:zax} (h:zb6 x≤2000000):zgs x=some x:=by
 unfold zgs
 simp only [zBj (x:=x.aw) (by unfold zb6 at h;omega),yqob]
theorem zyy {x:zax} (h:zb6 x≤2000000):zgk x x=some true:=by
 unfold zgk
 simp [zCp (x:=x.aw) (by unfold zb6 at h;omega)]
theorem zyt {x:zax} {a:Int} (h0:0≤a) (h1:a≤1048576) (h:zqn x): ∃v,zgp x a=some v∧v≤a∧(0≤v→(zb6 x:Int)=a-v):=by
 unfold zgp zb6
 obtain⟨b2,e2,g2,r2⟩:=zBC (x:=x.aw) (a:=a) (by omega) (by omega) h.2.2
 rw [e2,yqob]
 by_cases q2:b2<0
 ·rw [if_pos (by simpa using q2)];exact⟨-1,rfl,by omega,by omega⟩
 rw [if_neg (by simpa using q2)]
 have s2:=r2 (by omega)
 exact⟨b2,rfl,by omega,fun _=>by omega⟩
def zem (x:zax):Nat:=zfx x.aw
theorem ztJ (x:zax):zem x≤64*zb6 x:=by
 have h0:=zwY x.aw
 unfold zem zb6
 omega
theorem zwm {x:zax} {k:Int} (h0:0≤k) (hk:k+(zem x:Nat)≤4611686018427387904) (h:zb6 x≤2000000): ∃r0:List (yqS),∃r1:List (yqS),ze6 x k=some (k+(zem x:Nat),⟨x.ax,x.bb,⟨x.aw.aj,⟨r0⟩,⟨r1⟩⟩⟩):=by
 obtain⟨r0,r1,m0⟩:=zyz (x:=x.aw) (k:=k) (by omega) (by unfold zem at hk;omega) (by unfold zb6 at h;omega)
 have fin:k+((zfx x.aw:Nat):Int)=k+(zem x:Nat):=by unfold zem;omega
 refine⟨r0,r1, ?_⟩
 ·unfold ze6
  simp only [m0,yqob]
  rw [fin]
def zdj (x:zaw):Nat:=zb6 x.aw
theorem zA5 {x:zaw} (h:zdj x≤2000000):zdi x=some x:=by
 unfold zdi
 simp only [zyH (x:=x.aw) (by unfold zdj at h;omega),yqob]
theorem zAg {x:zaw} (h:zdj x≤2000000):zgS x x=some true:=by
 unfold zgS
 simp [zyy (x:=x.aw) (by unfold zdj at h;omega)]
theorem zAG {x:zaw} {a:Int} (h0:0≤a) (h1:a≤1048576) (h:zsX x): ∃v,zgN x a=some v∧v≤a∧(0≤v→(zdj x:Int)=a-v):=by
 unfold zgN zdj
 obtain⟨b2,e2,g2,r2⟩:=zyt (x:=x.aw) (a:=a) (by omega) (by omega) h.2.2
 rw [e2,yqob]
 by_cases q2:b2<0
 ·rw [if_pos (by simpa using q2)];exact⟨-1,rfl,by omega,by omega⟩
 rw [if_neg (by simpa using q2)]
 have s2:=r2 (by omega)
 exact⟨b2,rfl,by omega,fun _=>by omega⟩
def zga (x:zaw):Nat:=zem x.aw
theorem zww (x:zaw):zga x≤64*zdj x:=by
 have h0:=ztJ x.aw
 unfold zga zdj
 omega
theorem zyk {x:zaw} {k:Int} (h0:0≤k) (hk:k+(zga x:Nat)≤4611686018427387904) (h:zdj x≤2000000): ∃r0:List (yqS),∃r1:List (yqS),zfO x k=some (k+(zga x:Nat),⟨x.aj,x.bt,⟨x.aw.ax,x.aw.bb,⟨x.aw.aw.aj,⟨r0⟩,⟨r1⟩⟩⟩⟩):=by
 obtain⟨r0,r1,m0⟩:=zwm (x:=x.aw) (k:=k) (by omega) (by unfold zga at hk;omega) (by unfold zdj at h;omega)
 have fin:k+((zem x.aw:Nat):Int)=k+(zga x:Nat):=by unfold zga;omega
 refine⟨r0,r1, ?_⟩
 ·unfold zfO
  simp only [m0,yqob]
  rw [fin]
abbrev Str:=yqS
def inB (a b c:Int):Bool:=decide (a≥b)&&decide (a≤c)
theorem zaY {a b c:Int}:inB a b c=true↔b≤a∧a≤c:=by simp [inB]
@[simp] theorem zmM (a b c:Int):zbw a b c=some (inB a b c):=rfl
@[simp] theorem ziK (a b c:Int):zba a b c=some (inB a b c):=rfl
def zgu (b:UInt8):Bool:=(decide ((b.toNat:Int)≥97)&&decide ((b.toNat:Int)≤122))||(decide ((b.toNat:Int)≥48)&&decide ((b.toNat:Int)≤57))
def zkt (s more:Str):Bool:=s.all fun b=>zgu b||more.contains b
theorem zHV {a b:UInt8}:((a.toNat:Int)==(b.toNat:Int))=(a==b):=by
 rw [Bool.eq_iff_iff]
 simp only [beq_iff_eq]
 constructor
 ·intro h;exact UInt8.toNat_inj.1 (by omega)
 ·rintro rfl;rfl
theorem zx3 {α:Type} (xs:List α) (p:α→Bool) (q:Nat→Bool) (h: ∀(i:Nat) (hi:i<xs.length),q i=p xs[i]):(List.range xs.length).all q=xs.all p:=by
 rw [Bool.eq_iff_iff]
 simp only [yqal,List.mem_range]
 constructor
 ·intro hq x hx
  obtain⟨i,hi,rfl⟩:=List.getElem_of_mem hx
  rw [←h i hi];exact hq i hi
 ·intro hp i hi
  rw [h i hi];exact hp _ (List.getElem_mem hi)
theorem zjL {α β:Type} {xs:List α} {body:Int→Option (Int ⊕ Option β)} (p:α→Bool) (b:β) (fin:Option β)
  (hs: ∀(i:Nat) (hi:i<xs.length),body i=some (if p xs[i]=true then .inl ((i+1:Nat):Int)else .inr (some b))) (he:body xs.length=some (.inr fin)):zak body 0=if xs.all p=true then fin else some b:=by
 rw [zjh (n:=xs.length) (fun i=>match xs[i]? with|some x=>p x|none=>true) b fin (fun i hi=>by rw [hs i hi];simp [hi]) he,
  zx3 xs p _ fun i hi=>by simp [hi]]
theorem zsk {s more:Str} (h1:s.length≤2000000) (h2:more.length≤2000000):zfy s more=some (zkt s more):=by
 unfold zfy
 rw [zjL (xs:=s) (fun b=>zgu b||more.contains b) false (some true) ?_ (by simp [zif])]
 ·unfold zkt
  cases(s.all fun b=>zgu b||more.contains b)<;>rfl
 ·intro i hi
  have hin:zak (fun t:Bool × Int=>zeJ more i s[i] t.1 t.2) (zgu s[i],0)=some (if(zgu s[i]||more.contains s[i])=true then .inl ((i+1:Nat):Int)else .inr (some false)):=by
   have hl:=zo4 (xs:=more) (body:=fun t:Bool × Int=>zeJ more i s[i] t.1 t.2) (fun k (ok:Bool)=>(ok,k)) (fun b ok=>some (.inl (ok||s[i]==b))) (fun ok=>ziz i ok)
    (fun k hk ok=>by
     simp only [zeJ,Int.ofNat_lt,hk,decide_true,if_true,zac hk,yqob,zaW hk (by omega:more.length≤_),zHV,zws]
     cases ok<;>simp) (fun ok=>by simp [zeJ]) (zgu s[i])
   rw [zD2 (fun ok b=>ok||s[i]==b) (fun _=>True) (fun _ _ _ _=>trivial) (fun _ _ _ _=>rfl) trivial]at hl
   have hf: ∀(l:Str) (ok:Bool),l.foldl (fun ok b=>ok||s[i]==b) ok=(ok||l.contains s[i]):=by
    intro l
    induction l with
    |nil=>intro ok;simp
    |cons c l ih=>intro ok;rw [List.foldl_cons,ih,List.contains_cons,Bool.or_assoc]
   rw [hl,hf]
   unfold ziz
   rw [zaW hi (by omega)]
   cases(zgu s[i]||more.contains s[i])<;>rfl
  simp only [zif,Int.ofNat_lt,hi,decide_true,if_true,zac hi,yqob]
  exact hin
theorem zvP (l:Str) (c:UInt8):decide (Lib.indexByte l c<0)= !l.contains c:=by
 induction l with
 |nil=>rfl
 |cons b l ih=>
  unfold Lib.indexByte
  have hge:=Lib.indexByte_ge l c
  rw [List.contains_cons]
  by_cases hb:b=c
  ·subst hb;simp
  ·have h1:(b==c)=false:=by simpa using hb
   have h2:(c==b)=false:=by simpa using fun h=>hb h.symm
   rw [h1,h2]
   simp only [yqft,if_false,Bool.false_or]
   rw [←ih]
   by_cases hm:Lib.indexByte l c= -1
   ·simp [hm]
   ·have h3:(Lib.indexByte l c== -1)=false:=by simpa using hm
    rw [h3]
    simp only [yqft,if_false]
    rw [decide_eq_decide]
    omega
theorem zpX {s more:Str} (h1:s.length≤2000000):zeK s more=some (zkt s more):=by
 unfold zeK
 rw [zjL (xs:=s) (fun b=>zgu b||more.contains b) false (some true) ?_ (by simp [zhm])]
 ·unfold zkt
  cases(s.all fun b=>zgu b||more.contains b)<;>rfl
 ·intro i hi
  have hu:((s[i].toNat:Int)).toNat.toUInt8=s[i]:=by simp
  simp only [zhm,Int.ofNat_lt,hi,decide_true,if_true,zac hi,yqob,zgb,zg7,zbu,hu,zvP,zaW hi (by omega:s.length≤_)]
  rw [show((decide ((s[i].toNat:Int)≥97)&&decide ((s[i].toNat:Int)≤122))||(decide ((s[i].toNat:Int)≥48)&&decide ((s[i].toNat:Int)≤57)))=zgu s[i]from rfl]
  cases zgu s[i]<;>cases more.contains s[i]<;>rfl
def goodKey (s:Str):Bool:=inB s.length 1 12&&zkt s [46,47]
def zge (s:Str):Bool:=decide ((s.length:Int)≤24)&&zkt s [46,45,44,95]
theorem zBy {s:Str} (h:s.length≤2000000):zhc s=some (goodKey s):=by
 simp only [zhc,zmM,yqob,zsk h (more:= [46,47]) (by decide),goodKey]
 cases inB s.length 1 12<;>simp
theorem zFX {s:Str} (h:s.length≤2000000):zgC s=some (goodKey s):=by
 simp only [zgC,ziK,yqob,zpX h,goodKey]
 cases inB s.length 1 12<;>simp
theorem zDH {s:Str} (h:s.length≤2000000):zjb s=some (zge s):=by
 simp only [zjb,yqob,zsk h (more:= [46,45,44,95]) (by decide),zge]
 by_cases hl:(s.length:Int)≤24<;>simp [hl]
theorem zHG {s:Str} (h:s.length≤2000000):ziI s=some (zge s):=by
 simp only [ziI,yqob,zpX h,zge]
 by_cases hl:(s.length:Int)≤24<;>simp [hl]
def zkX (v:Str) (zyI:Bool):Bool:=zge v&&(!zyI||v== [])
theorem zB7 {v:Str} {zyI:Bool} (h:v.length≤2000000):zhx v zyI=some (zkX v zyI):=by
 simp only [zhx,zHG h,yqob,zkX,bne]
 cases zge v<;>cases zyI<;>cases(v== [])<;>rfl
theorem zFu {k v:Str} {zyI:Bool} (hk:k.length≤2000000) (hv:v.length≤2000000):ziE k v zyI=some (goodKey k&&zkX v zyI):=by
 simp only [ziE,zBy hk,zDH hv,yqob,zkX]
 cases goodKey k<;>simp
def zgL (ks:List Str) (i:Nat):Bool:=i==0||Op.bytesLess ((ks[i-1]?).getD []) ((ks[i]?).getD [])
def zn8 (ks:List Str):Bool:=(List.range ks.length).all (zgL ks)
theorem zrI: ∀(a b:Str),(Op.bytesLess a b||a==b)= !Op.bytesLess b a
 | [], []=>rfl
 | [],_::_=>rfl
 |_::_, []=>rfl
 |x::a,y::b=>by
  have ih:=zrI a b
  simp only [Op.bytesLess]
  rcases Nat.lt_trichotomy x.toNat y.toNat with h|h|h
  ·have h1:x<y:=UInt8.lt_iff_toNat_lt.2 h
   have h2: ¬y<x:=fun h'=>by have:=UInt8.lt_iff_toNat_lt.1 h';omega
   have h3: ¬y=x:=fun h'=>by subst h';omega
   simp [h1,h2,h3]
  ·have h0:x=y:=UInt8.toNat_inj.1 h
   subst h0
   have h1: ¬x<x:=fun h'=>by have:=UInt8.lt_iff_toNat_lt.1 h';omega
   rw [show((x::a)==(x::b))=(a==b) by simp]
   simp only [h1,decide_false,Bool.false_or,beq_self_eq_true,Bool.true_and]
   exact ih
  ·have h1: ¬x<y:=fun h'=>by have:=UInt8.lt_iff_toNat_lt.1 h';omega
   have h2:y<x:=UInt8.lt_iff_toNat_lt.2 h
   have h3: ¬x=y:=fun h'=>by subst h';omega
   simp [h1,h2,h3]
theorem zwv {i:Nat} (h0:0<i) (h:i≤2000000):IntKind.i64.wrap ((i:Int)-1)=((i-1:Nat):Int):=by
 rw [zaI (by omega) (by omega)];omega
theorem zDa {α:Type} (xs:List α) (p:α→Bool) (q r:Nat→Bool) (h: ∀(i:Nat) (hi:i<xs.length),r i=(p xs[i]&&q i)):(List.range xs.length).all r=(xs.all p&&(List.range xs.length).all q):=by
 rw [←zx3 xs p (fun i=>match xs[i]? with|some x=>p x|none=>true) fun i hi=>by simp [hi]]
 rw [Bool.eq_iff_iff]
 simp only [yqba,yqal,List.mem_range]
 constructor
 ·intro hr
  exact⟨fun i hi=>by have:=hr i hi;rw [h i hi,yqba]at this;simpa [hi]using this.1,fun i hi=>by have:=hr i hi;rw [h i hi,yqba]at this;exact this.2⟩
 ·rintro⟨h1,h2⟩ i hi
  rw [h i hi,yqba]
  exact⟨by have:=h1 i hi;simpa [hi]using this,h2 i hi⟩
theorem zyA {ks:List Str} (h:ks.length≤2000000) (hk: ∀k∈ks,k.length≤2000000):zgX ks=some (ks.all goodKey&&zn8 ks):=by
 unfold zgX zn8
 rw [zjh (n:=ks.length) (fun i=>goodKey ((ks[i]?).getD [])&&zgL ks i) false (some true) ?_ (by simp [zg1]),zDa ks goodKey (zgL ks) _ fun i hi=>by simp [hi]]
 ·cases(ks.all goodKey&&(List.range ks.length).all (zgL ks))<;>rfl
 ·intro i hi
  simp only [zg1,Int.ofNat_lt,hi,decide_true,if_true,zac hi,yqob,zFX (hk _ (List.getElem_mem hi)),zaW hi (by omega:ks.length≤_),List.getElem?_eq_getElem hi,Option.getD_some,zgL]
  by_cases h0:i=0
  ·subst h0
   cases goodKey ks[0]<;>simp
  ·have hp:(i:Int)>0:=by omega
   have hi1:i-1<ks.length:=by omega
   have hb:(i==0)=false:=by simpa using h0
   simp only [hp,decide_true,if_true,zwv (Nat.pos_of_ne_zero h0) (by omega:i≤2000000),zac hi1,yqob,zrI,List.getElem?_eq_getElem hi1,Option.getD_some,hb,Bool.false_or]
   cases goodKey ks[i]<;>cases Op.bytesLess ks[i-1] ks[i]<;>rfl
theorem zy1 {l:List zaa} (h:l.length≤2000000):zgU l=some (l.map (·.ae)):=by
 have h1:=zb7 (xs:=l) (body:=fun s:Int × List Str=>zcQ l s.1 s.2) (fun i (o:List Str)=>(i,o)) (fun o w=>o++ [w.ae]) (fun o=>some o) (fun q o=>o.length=q)
  (fun i hi o hI=>by
   refine⟨?_,by simp [hI]⟩
   show zcQ l i o=_
   unfold zcQ
   have hr:((o.length:Int)+(([l[i].ae]:List Str).length:Int))*16≤140737488355328∧(o.length:Int)+(([l[i].ae]:List Str).length:Int)≤140737488355328:=by
    rw [yqls,hI];omega
   rw [if_pos (by simpa using hi),zac hi,yqob,zae hr,zaW hi (by omega)]) (fun o _=>by
   show zcQ l l.length o=_
   unfold zcQ
   rw [if_neg (by simp)]) (s:= []) rfl
 have hf: ∀(l:List zaa) (o:List Str),l.foldl (fun o w=>o++ [w.ae]) o=o++l.map (·.ae):=by
  intro l
  induction l with
  |nil=>intro o;simp
  |cons w l ih=>intro o;rw [List.foldl_cons,ih];simp
 have h2:=h1.1
 rw [hf,List.nil_append]at h2
 unfold zgU
 exact h2
def zg4 (w:zaa):Bool:=goodKey w.ae&&zkX w.az w.bd
def zeF (l:List zaa):Bool:=decide ((l.length:Int)≤24)&&(l.all zg4&&zn8 (l.map (·.ae)))
def zr6 (l:List zaa):Prop:=l.length≤2000000∧ ∀w∈l,w.ae.length≤2000000∧w.az.length≤2000000
theorem zC6 {l:List zaa} (h:zr6 l):zgg l=some (zeF l):=by
 have e1:za3 l (fun y0_=>ze0 y0_)=some (l.any fun w=> !zkX w.az w.bd):=zr4 _ (fun w hw=>by simp [ze0,zB7 (h.2 w hw).2]) (by have:=h.1;omega)
 have e2:=zyA (ks:=l.map (·.ae)) (by simpa using h.1) (by simp only [List.mem_map];rintro k ⟨w,hw,rfl⟩;exact(h.2 w hw).1)
 simp only [zgg,zy1 h.1,e1,e2,yqob,zeF,←List.not_all_eq_any_not]
 have e3:l.all zg4=((l.map (·.ae)).all goodKey&&l.all fun w=>zkX w.az w.bd):=by
  rw [Bool.eq_iff_iff]
  simp only [yqal,yqba,zg4,List.mem_map]
  constructor
  ·intro h;exact⟨by rintro k ⟨w,hw,rfl⟩;exact(h w hw).1,fun w hw=>(h w hw).2⟩
  ·rintro⟨h1,h2⟩ w hw;exact⟨h1 _ ⟨w,hw,rfl⟩,h2 w hw⟩
 rw [e3]
 generalize (l.map (·.ae)).all goodKey=b1
 generalize zn8 (l.map (·.ae))=b2
 generalize (l.all fun w=>zkX w.az w.bd)=b3
 by_cases hl:(l.length:Int)≤24<;>cases b1<;>cases b2<;>cases b3<;>simp [hl]
theorem zDk {l:List zaa} (h:zr6 l):zhq l=some (zeF l):=by
 unfold zhq
 have hn:=h.1
 rw [zjh (n:=l.length) (fun i=>zg4 ((l[i]?).getD ⟨[], [],false⟩)&&zgL (l.map (·.ae)) i) false (zhg l) ?_ (by simp [zh1]),zDa l zg4 (zgL (l.map (·.ae))) _ fun i hi=>by simp [hi]]
 ·unfold zhg zeF zn8
  rw [List.length_map]
  cases(l.all zg4&&(List.range l.length).all (zgL (l.map (·.ae))))<;>simp
 ·intro i hi
  have hm:=h.2 _ (List.getElem_mem hi)
  simp only [zh1,Int.ofNat_lt,hi,decide_true,if_true,zac hi,yqob,zFu hm.1 hm.2,zaW hi (by omega:l.length≤_),List.getElem?_eq_getElem hi,Option.getD_some,zgL,List.getElem?_map,Option.map_some]
  rw [show(goodKey l[i].ae&&zkX l[i].az l[i].bd)=zg4 l[i]from rfl]
  by_cases h0:i=0
  ·subst h0
   cases zg4 l[0]<;>simp
  ·have hp:(i:Int)>0:=by omega
   have hi1:i-1<l.length:=by omega
   have hb:(i==0)=false:=by simpa using h0
   simp only [hp,decide_true,if_true,zwv (Nat.pos_of_ne_zero h0) (by omega:i≤2000000),zac hi1,yqob,List.getElem?_eq_getElem hi1,Option.map_some,Option.getD_some,hb,Bool.false_or]
   cases zg4 l[i]<;>cases Op.bytesLess l[i-1].ae l[i].ae<;>rfl
def zaP (l:List zaa):Bool:=zeF l&&l.all fun w=> !w.bd
theorem zGy {l:List zaa} (h:zr6 l):zj9 l=some (zaP l):=by
 have e1:za3 l (fun y0_=>zhL y0_)=some (l.any fun w=> !!w.bd):=zr4 _ (fun w hw=>by simp [zhL]) (by have:=h.1;omega)
 simp only [zj9,zC6 h,e1,yqob,zaP,←List.not_all_eq_any_not]
 cases zeF l<;>simp
theorem zsS {l:List zaa} (h:zr6 l):zdr l=some (zaP l):=by
 have hn:=h.1
 unfold zdr
 rw [zjL (xs:=l) (fun w=> !w.bd) false (zjw l) (fun i hi=>by
  simp only [zjv,Int.ofNat_lt,hi,decide_true,if_true,zac hi,yqob,zaW hi (by omega:l.length≤_)]
  cases l[i].bd<;>rfl) (by simp [zjv])]
 simp only [zjw,zDk h,yqob,zaP]
 cases(l.all fun w=> !w.bd)<;>simp
def small (b:UInt8):Bool:= !(decide ((b.toNat:Int)<97)||decide ((b.toNat:Int)>122))
def zbB (s:Str) (n:Int):Bool:=s.all small&&inB s.length 1 n
theorem zpN {s:Str} {n:Int} (h:s.length≤2000000):zdC s n=some (zbB s n):=by
 unfold zdC
 rw [zjL (xs:=s) small false (zgx s n) (fun i hi=>by
  simp only [zgw,Int.ofNat_lt,hi,decide_true,if_true,zac hi,yqob,zaW hi (by omega:s.length≤_)]
  rw [show(decide ((s[i].toNat:Int)<97)||decide ((s[i].toNat:Int)>122))= !small s[i] by simp [small]]
  cases small s[i]<;>rfl) (by simp [zgw])]
 unfold zgx zbB inB
 cases s.all small<;>simp
theorem zqe {s:Str} {n:Int} (h:s.length≤2000000):zdB s n=some (zbB s n):=by
 unfold zdB
 rw [zjL (xs:=s) small false (zgy s n) (fun i hi=>by
  simp only [zgz,Int.ofNat_lt,hi,decide_true,if_true,zac hi,yqob,zaW hi (by omega:s.length≤_)]
  rw [show(decide ((s[i].toNat:Int)<97)||decide ((s[i].toNat:Int)>122))= !small s[i] by simp [small]]
  cases small s[i]<;>rfl) (by simp [zgz])]
 simp only [zgy,ziK,yqob,zbB]
 cases s.all small<;>simp
theorem zHC {xs:List Str} {s:Str} (h:xs.length≤2000000):zi8 xs s=some (zjy (· ==s) xs):=by
 unfold zi8
 refine zvx (· ==s) (fun i hi=> ?_) (by simp [zkq])
 simp only [zkq,Int.ofNat_lt,hi,decide_true,if_true,zac hi,yqob,zaW hi (by omega:xs.length≤_)]
 cases xs[i]==s<;>rfl
theorem zD0 {xs:List Str} {s:Str} (h:xs.length≤2000000):zbE xs s=some (zjy (· ==s) xs):=by
 unfold zbE
 refine zvx (· ==s) (fun i hi=> ?_) (by simp [zce])
 simp only [zce,Int.ofNat_lt,hi,decide_true,if_true,zac hi,yqob,zaW hi (by omega:xs.length≤_)]
 rw [show(s==xs[i])=(xs[i]==s)from BEq.comm]
 cases xs[i]==s<;>rfl
theorem zDs (xs:List Str) (s:Str):(xs.any fun x=>x==s)=xs.contains s:=by
 rw [List.contains_eq_any_beq]
 congr 1
 funext x
 exact BEq.comm
theorem zFA {xs:List Str} {s:Str} (h:xs.length≤2000000):zaS xs s=some (xs.contains s):=by
 simp only [zaS,zD0 h,yqob,zni,zDs]
def zwQ (cs:List Str) (i:Nat):Bool:=zbB ((cs[i]?).getD []) 3&& !(cs.take i).contains ((cs[i]?).getD [])
def zqR (cs:List Str):Bool:=(List.range cs.length).all (zwQ cs)
def zpI (t:zab) (i:Nat):Bool:=
 let x:=(t.af[i]?).getD ⟨[],0,0⟩
 zbB x.ab 1&&inB x.bj 1 ((t.ao.length:Int)-1)&&inB x.al 0 3&&(i==0||Op.bytesLess ((t.af[i-1]?).getD ⟨[],0,0⟩).ab x.ab)
def zah (t:zab):Bool:=zbB t.ab 1&&(zqR t.ao&&inB t.ao.length 2 4)&&decide ((t.af.length:Int)≤3)&&(List.range t.af.length).all (zpI t)
structure zdT (t:zab):Prop where
 name:t.ab.length≤2000000
 ic:t.ao.length≤2000000
 mf: ∀c∈t.ao,c.length≤2000000
 idxs:t.af.length≤2000000
 idx: ∀x∈t.af,x.ab.length≤2000000
theorem zGB {α:Type} (xs:List α) (i:Nat):zg2 xs 0 i=xs.take i:=by simp [zg2]
theorem zGX {cs:List Str} (h:cs.length≤2000000) (hc: ∀c∈cs,c.length≤2000000):ziY cs=some (zqR cs&&inB cs.length 2 4):=by
 unfold ziY
 rw [zjh (n:=cs.length) (zwQ cs) false (zip cs) ?_ (by simp [zis])]
 ·simp only [zip,zmM,yqob,zqR]
  cases(List.range cs.length).all (zwQ cs)<;>simp
 ·intro i hi
  unfold zis zwQ
  rw [if_pos (by simpa using hi),zac hi,yqob,zpN (hc _ (List.getElem_mem hi)),yqob,zae (by omega),zGB,zHC (by rw [List.length_take];omega),yqob,zni,zDs,zaW hi (by omega)]
  simp only [List.getElem?_eq_getElem hi,Option.getD_some]
  cases zbB cs[i] 3<;>cases(cs.take i).contains cs[i]<;>rfl
theorem zo3 {t:zab} (h:zdT t):zcx t=some (zah t):=by
 have hw:=zaI (n:=(t.ao.length:Int)-1) (by omega) (by have:=h.ic;omega)
 have hn:=h.idxs
 have hl:zak (fun s:Int=>ze3 t s) 0=some ((List.range t.af.length).all (zpI t)):=by
  rw [zjh (n:=t.af.length) (zpI t) false (some true) ?_ (by simp [ze3])]
  ·cases(List.range t.af.length).all (zpI t)<;>rfl
  ·intro i hi
   unfold zpI
   simp only [ze3,Int.ofNat_lt,hi,decide_true,if_true,zac hi,yqob,zpN (h.idx _ (List.getElem_mem hi)),zmM,hw,zaW hi (by omega:t.af.length≤_),List.getElem?_eq_getElem hi,Option.getD_some]
   by_cases h0:i=0
   ·subst h0
    cases zbB t.af[0].ab 1<;>cases inB t.af[0].bj 1 ((t.ao.length:Int)-1)<;>cases inB t.af[0].al 0 3<;>rfl
   ·have hp:(i:Int)>0:=by omega
    have hi1:i-1<t.af.length:=by omega
    have hb:(i==0)=false:=by simpa using h0
    simp only [hp,decide_true,if_true,zwv (Nat.pos_of_ne_zero h0) (by omega:i≤2000000),zac hi1,yqob,List.getElem?_eq_getElem hi1,Option.getD_some,hb,Bool.false_or]
    cases zbB t.af[i].ab 1<;>cases inB t.af[i].bj 1 ((t.ao.length:Int)-1)<;>cases inB t.af[i].al 0 3<;>cases Op.bytesLess t.af[i-1].ab t.af[i].ab<;>rfl
 unfold zcx zah
 rw [zpN h.name,yqob,zGX h.ic h.mf,hl]
 by_cases hk:(t.af.length:Int)≤3
 ·have hk': ¬(t.af.length:Int)>3:=by omega
  simp only [hk,hk',decide_true,decide_false,Bool.or_false,Bool.and_true]
  cases zbB t.ab 1<;>cases(zqR t.ao&&inB t.ao.length 2 4)<;>simp
 ·have hk':(t.af.length:Int)>3:=by omega
  simp only [hk,hk',decide_true,decide_false,Bool.or_true,Bool.and_false,Bool.false_and]
  cases zbB t.ab 1<;>simp
theorem zEs {t:zab} (h:zdT t):zgK t=some (zah t):=by
 have hw:=zaI (n:=(t.ao.length:Int)-1) (by omega) (by have:=h.ic;omega)
 have hn:=h.idxs
 have hm:=h.ic
 have hl:zak (fun s:Int=>ze7 t s) 0=some ((List.range t.af.length).all (zpI t)):=by
  rw [zjh (n:=t.af.length) (zpI t) false (some true) ?_ (by simp [ze7])]
  ·cases(List.range t.af.length).all (zpI t)<;>rfl
  ·intro i hi
   unfold zpI
   simp only [ze7,zlb,Int.ofNat_lt,hi,decide_true,if_true,zac hi,yqob,zqe (h.idx _ (List.getElem_mem hi)),ziK,hw,zaW hi (by omega:t.af.length≤_),List.getElem?_eq_getElem hi,Option.getD_some]
   by_cases h0:i=0
   ·subst h0
    cases zbB t.af[0].ab 1<;>cases inB t.af[0].bj 1 ((t.ao.length:Int)-1)<;>cases inB t.af[0].al 0 3<;>rfl
   ·have hp:(i:Int)>0:=by omega
    have hi1:i-1<t.af.length:=by omega
    have hb:(i==0)=false:=by simpa using h0
    simp only [hp,decide_true,if_true,zwv (Nat.pos_of_ne_zero h0) (by omega:i≤2000000),zac hi1,yqob,List.getElem?_eq_getElem hi1,Option.getD_some,hb,Bool.false_or,zrI]
    cases zbB t.af[i].ab 1<;>cases inB t.af[i].bj 1 ((t.ao.length:Int)-1)<;>cases inB t.af[i].al 0 3<;>cases Op.bytesLess t.af[i-1].ab t.af[i].ab<;>rfl
 have hc:zak (fun s:Int=>zfd t s) 0=some (zqR t.ao&&(List.range t.af.length).all (zpI t)):=by
  rw [zjh (n:=t.ao.length) (zwQ t.ao) false (zg0 t) ?_ (by simp [zfd])]
  ·unfold zg0 zqR
   rw [hl]
   cases(List.range t.ao.length).all (zwQ t.ao)<;>simp
  ·intro i hi
   unfold zfd zwQ
   rw [if_pos (by simpa using hi),zac hi,yqob,zqe (h.mf _ (List.getElem_mem hi)),yqob,zae (by omega),zGB,zFA (by rw [List.length_take];omega),yqob,zaW hi (by omega)]
   simp only [List.getElem?_eq_getElem hi,Option.getD_some]
   cases zbB t.ao[i] 3<;>cases(t.ao.take i).contains t.ao[i]<;>rfl
 unfold zgK zah
 rw [zqe h.name,yqob,ziK,yqob,hc]
 by_cases hk:(t.af.length:Int)≤3
 ·have hk': ¬(t.af.length:Int)>3:=by omega
  simp only [hk,hk',decide_true,decide_false,Bool.or_false,Bool.and_true]
  cases zbB t.ab 1<;>cases zqR t.ao<;>cases inB t.ao.length 2 4<;>simp
 ·have hk':(t.af.length:Int)>3:=by omega
  simp only [hk,hk',decide_true,decide_false,Bool.or_true,Bool.and_false,Bool.false_and]
  cases zbB t.ab 1<;>simp
theorem zo6 {t:zab} {s:Str} (h:zdT t):zbm t s=some (zjy (fun x:zbh=>x.ab==s) t.af):=by
 have hn:=h.idxs
 unfold zbm
 refine zvx (fun x:zbh=>x.ab==s) (fun i hi=> ?_) (by simp [zjr])
 simp only [zjr,Int.ofNat_lt,hi,decide_true,if_true,zac hi,yqob,zaW hi (by omega:t.af.length≤_)]
 cases t.af[i].ab==s<;>rfl
theorem zxa {t:zab} {s:Str} (h:zdT t):zbU t s=some (zjy (fun x:zbh=>x.ab==s) t.af):=by
 have hn:=h.idxs
 have e:za4 t.af (fun y0_=>zeT y0_ s)=some (zjy (fun x:zbh=>x.ab==s) t.af):=zx6 (fun x:zbh=>x.ab==s) (fun x _=>rfl) (by omega)
 simp only [zbU,e,yqob]
def zbj (c:UInt8):Str→List Str
 | []=> [[]]
 |b::s=>if b=c then []::zbj c s else(match zbj c s with| []=> [[b]]|x::xs=>(b::x)::xs)
theorem zrM (c:UInt8) (s:Str):zbj c s≠ []:=by
 cases s with
 |nil=>simp [zbj]
 |cons b s=>simp only [zbj];split;simp;split<;>simp
theorem zeZ {c:UInt8}: ∀{s:Str},(∀b∈s,b≠c)→zbj c s= [s]
 | [],_=>rfl
 |b::s,h=>by
  have e:=zeZ (c:=c) (s:=s) fun x hx=>h x (List.mem_cons_of_mem _ hx)
  simp only [zbj,if_neg (h b (by simp)),e]
theorem zje {c:UInt8}: ∀{p q:Str},(∀b∈p,b≠c)→zbj c (p++c::q)=p::zbj c q
 | [],q,_=>by simp [zbj]
 |b::p,q,h=>by
  have e:=zje (c:=c) (p:=p) (q:=q) fun x hx=>h x (List.mem_cons_of_mem _ hx)
  simp only [List.cons_append,zbj,if_neg (h b (by simp)),e]
theorem znv (c:UInt8) (s:Str):(zbj c s).length=s.count c+1:=by
 induction s with
 |nil=>rfl
 |cons b s ih=>
  simp only [zbj]
  by_cases h:b=c
  ·subst h;simp [ih]
  ·rw [if_neg h,List.count_cons_of_ne h]
   cases hs:zbj c s with
   |nil=>exact absurd hs (zrM c s)
   |cons x xs=>rw [hs]at ih;simpa using ih
theorem zG5 {α:Type} (xs:List α) (i j:Nat):zg2 xs (i:Int) (j:Int)=(xs.take j).drop i:=by simp [zg2]
def zIL (c:UInt8) (s:Str) (t:List Str × Nat) (i:Nat):List Str × Nat:=if(s[i]?).getD 0=c then(t.1++ [(s.take i).drop t.2],i+1)else t
theorem zzx {s:Str} {c:UInt8} (h:s.length≤2000000):zex s c.toNat=some (zbj c s):=by
 have h1:=zb7 (xs:=List.range s.length) (body:=fun t:List Str × Int × Int=>zdE s c.toNat t.1 t.2.1 t.2.2) (fun i (t:List Str × Nat)=>(t.1,(t.2:Int),i)) (zIL c s) (fun t=>zig s t.2 t.1)
  (fun i t=>t.2≤i∧(∀b∈(s.take i).drop t.2,b≠c)∧t.1++zbj c (s.drop t.2)=zbj c s∧t.1.length≤i)
  (fun i hi t hI=>by
   rw [List.length_range]at hi
   obtain⟨I1,I2,I3,I4⟩:=hI
   have hw:=zaW hi (by omega:s.length≤_)
   rw [List.getElem_range]
   constructor
   ·show zdE s c.toNat t.1 t.2 i=_
    unfold zdE zIL
    rw [if_pos (by simpa using hi),zac hi,yqob,zHV,hw,zG5,List.getElem?_eq_getElem hi,Option.getD_some]
    by_cases hc:s[i]=c
    ·have hr:((t.1.length:Int)+(([(s.take i).drop t.2]:List Str).length:Int))*16≤140737488355328∧(t.1.length:Int)+(([(s.take i).drop t.2]:List Str).length:Int)≤140737488355328:=by
      rw [yqls];omega
     rw [if_pos (by simpa using hc),zae (by omega),zae hr,if_pos hc]
    ·rw [if_neg (by simpa using hc),if_neg hc]
   ·unfold zIL
    rw [List.getElem?_eq_getElem hi,Option.getD_some]
    have htk:s.take (i+1)=s.take i++ [s[i]]:=by rw [List.take_succ_eq_append_getElem hi]
    have hd:(s.take (i+1)).drop t.2=(s.take i).drop t.2++ [s[i]]:=by
     rw [htk,List.drop_append_of_le_length (by rw [List.length_take];omega)]
    by_cases hc:s[i]=c
    ·rw [if_pos hc]
     refine⟨Nat.le_refl _,by simp, ?_,by simp;omega⟩
     have e:s.drop t.2=(s.take i).drop t.2++c::s.drop (i+1):=by
      have e0:s.drop t.2=(s.take i).drop t.2++s.drop i:=by
       conv=>lhs;rw [←List.take_append_drop i s]
       rw [List.drop_append_of_le_length (by rw [List.length_take];omega)]
      rw [e0,List.drop_eq_getElem_cons hi,hc]
     rw [e,zje I2]at I3
     simpa using I3
    ·rw [if_neg hc]
     refine⟨by omega, ?_,I3,by omega⟩
     rw [hd]
     intro b hb
     rcases yqma.1 hb with hb|hb
     ·exact I2 b hb
     ·simp at hb;subst hb;exact hc)
  (fun t hI=>by
   show zdE s c.toNat t.1 t.2 ((List.range s.length).length:Nat)=_
   unfold zdE
   rw [if_neg (by simp)]) (s:=([],0)) ⟨Nat.le_refl _,by simp,by simp,by simp⟩
 generalize (List.range s.length).foldl (zIL c s) ([],0)=t at h1
 rw [List.length_range]at h1
 obtain⟨h2,I1,I2,I3,I4⟩:=h1
 unfold zex
 refine Eq.trans h2 ?_
 unfold zig
 have hw:zg2 s (t.2:Int) (s.length:Int)=s.drop t.2:=by rw [zG5,List.take_length]
 have hr:((t.1.length:Int)+(([s.drop t.2]:List Str).length:Int))*16≤140737488355328∧(t.1.length:Int)+(([s.drop t.2]:List Str).length:Int)≤140737488355328:=by
  rw [yqls];omega
 rw [hw,zae (by omega),zae hr,←I3]
 rw [List.take_length]at I2
 rw [zeZ I2]
theorem zhY (l:Str) (c:UInt8):(Lib.indexByte l c= -1∧ ∀b∈l,b≠c)∨ ∃p q:Str,l=p++c::q∧(∀b∈p,b≠c)∧Lib.indexByte l c=p.length:=by
 induction l with
 |nil=>exact .inl ⟨rfl,by simp⟩
 |cons b l ih=>
  unfold Lib.indexByte
  by_cases hb:b=c
  ·subst hb
   exact .inr ⟨[],l,by simp,by simp,by simp⟩
  ·have h1:(b==c)=false:=by simpa using hb
   rw [h1]
   simp only [yqft,if_false]
   rcases ih with⟨e,h⟩|⟨p,q,rfl,h,e⟩
   ·refine .inl ⟨by simp [e],fun x hx=> ?_⟩
    rcases yqmc.1 hx with rfl|hx
    ·exact hb
    ·exact h x hx
   ·refine .inr ⟨b::p,q,by simp,fun x hx=> ?_, ?_⟩
    ·rcases yqmc.1 hx with rfl|hx
     ·exact hb
     ·exact h x hx
    ·rw [e]
     have:((p.length:Int)== -1)=false:=by rw [beq_eq_false_iff_ne];omega
     rw [this]
     simp
theorem zu5 {c:UInt8} {s:Str} (h: ∀b∈s,b≠c):s.count c=0:=List.count_eq_zero.2 fun hc=>h c hc rfl
theorem zFn {c:UInt8} {p q:Str} (h: ∀b∈p,b≠c):(p++c::q).count c=q.count c+1:=by
 rw [List.count_append,zu5 h,List.count_cons_self];omega
theorem zwW {α:Type} {a:List α} {i:Nat} (x:α) (h:i<a.length):(a.set i x).take (i+1)=a.take i++ [x]:=by
 rw [List.take_succ_eq_append_getElem (by simpa using h),List.getElem_set_self,List.take_set,List.set_eq_of_length_le (by rw [List.length_take];omega)]
theorem zH4 {a b:Int} (h: ¬a<b):(bif decide (a<b)then a else b)=b:=by simp [h]
theorem zEi {s:Str} {c:UInt8} (h:s.length≤2000000):zgf s [c]=some (zbj c s):=by
 have hcl:s.count c≤s.length:=List.count_le_length
 have hw1:IntKind.i64.wrap ((s.count c:Int)+1)=(s.count c:Int)+1:=zaI (by omega) (by omega)
 have hw2:IntKind.i64.wrap ((s.length:Int)+1)=(s.length:Int)+1:=zaI (by omega) (by omega)
 have hbif:(bif decide ((s.length:Int)+1<(s.count c:Int)+1)then(s.length:Int)+1 else(s.count c:Int)+1)=(s.count c:Int)+1:=zH4 (by omega)
 have hw3:IntKind.i64.wrap ((s.count c:Int)+1-1)=(s.count c:Int):=by rw [zaI (by omega) (by omega)];omega
 have key: ∀(n:Nat) (r:Str) (a:List Str) (i:Nat),r.count c=n→r.length≤s.length→a.length=s.count c+1→i+n=s.count c→a.take i++zbj c r=zbj c s→
   zak (fun t:Str × Int × List Str=>zb8 s [c] 0 ((s.count c:Int)+1) t.1 t.2.1 t.2.2) (r,(i:Int),a)=some (zbj c s):=by
  intro n
  induction n with
  |zero=>
   intro r a i hr hl ha hi hI
   have hr0: ∀b∈r,b≠c:=fun b hb e=>by subst e;exact List.count_eq_zero.1 hr hb
   have hia:i<a.length:=by omega
   have hwi:=zaW hia (by omega)
   have hb:zb8 s [c] 0 ((s.count c:Int)+1) r i a=some (.inr (some (zbj c s))):=by
    unfold zb8
    rw [hw2,hbif,hw3,if_neg (by simp;omega)]
    unfold zfZ
    rw [zac hia,yqob,hwi,Int.toNat_natCast,zae (by rw [List.length_set];omega),zGB,zwW r hia,←hI,zeZ hr0]
   rw [zbL]
   dsimp only
   rw [hb]
  |succ n ih=>
   intro r a i hr hl ha hi hI
   rcases zhY r c with⟨_,h0⟩|⟨p,q,rfl,hp,hx⟩
   ·rw [zu5 h0]at hr;omega
   ·rw [zFn hp]at hr
    have hia:i<a.length:=by omega
    have hwi:=zaW hia (by omega)
    simp only [yqla,yqlc]at hl
    have hv0:IntKind.i64.wrap ((p.length:Int)+0)=(p.length:Int):=by rw [zaI (by omega) (by omega)];omega
    have hv1:IntKind.i64.wrap ((p.length:Int)+(([c]:Str).length:Int))=((p.length+1:Nat):Int):=by rw [yqls,zaI (by omega) (by omega)];omega
    have hb:zb8 s [c] 0 ((s.count c:Int)+1) (p++c::q) i a=some (.inl (q,((i+1:Nat):Int),a.set i p)):=by
     unfold zb8
     have hidx:zhA (p++c::q) [c]=some (p.length:Int):=by simp [zhA,za6,hx]
     rw [hw2,hbif,hw3,if_pos (by simp;omega),hidx,yqob,if_neg (by simp),hv0,zae (by rw [yqla];omega),zac hia,yqob,hv1,zae (by rw [yqla,yqlc];omega),hwi,Int.toNat_natCast,zG5,zGB,List.take_length]
     have e1:(p++c::q).drop (p.length+1)=q:=by simp
     have e2:(p++c::q).take p.length=p:=by simp
     rw [e1,e2]
    rw [zbL]
    dsimp only
    rw [hb]
    refine ih q (a.set i p) (i+1) (by omega) (by omega) (by simpa using ha) (by omega) ?_
    rw [zwW p hia,←hI,zje hp]
    simp
 have hc1:zhk s [c]=some ((s.count c:Nat):Int):=rfl
 have hz:(((-1:Int))==0)=false:=rfl
 have hne:(([c]:Str)==([]:Str))=false:=rfl
 unfold zgf zhM
 rw [hz,hne,if_neg (by simp),if_neg (by simp),if_pos (by simp),hc1,yqob,hw1]
 unfold zf8
 rw [hw2,hbif,zae (by omega)]
 exact zGh (key (s.count c) s (List.replicate ((s.count c:Int)+1).toNat []) 0 rfl (Nat.le_refl _) (by simp) (by omega) (by simp))
def field (s:Str):Bool:=inB s.length 1 3&&zkt s []
theorem zwx {s:Str} (h:s.length≤2000000):zeN s=some (field s):=by
 simp only [zeN,zmM,yqob,zsk h (more:= []) (by decide),field]
 cases inB s.length 1 3<;>simp
theorem zrt {s:Str} (h:s.length≤2000000):zfw s=some (field s):=by
 simp only [zfw,ziK,yqob,zpX h,field]
 cases inB s.length 1 3<;>simp
theorem zBp (sep x y:Str) (r:List Str):Lib.join (x::(r++ [y])) sep=Lib.join (x::r) sep++sep++y:=by
 rw [Lib.join_cons,Lib.join_cons]
 simp [Lib.joinTail]
theorem zB5 {xs:List Str} {sep:Str} {i:Nat} (hi:i<xs.length):Lib.join (xs.take (i+1)) sep=if i=0 then xs[i]else Lib.join (xs.take i) sep++sep++xs[i]:=by
 rw [List.take_succ_eq_append_getElem hi]
 cases xs with
 |nil=>simp at hi
 |cons x xs=>
  cases i with
  |zero=>simp [Lib.join_cons,Lib.joinTail]
  |succ i=>
   rw [List.take_succ_cons,List.cons_append,zBp,if_neg (by omega)]
def zeR:List Str→Nat
 | []=>0
 |x::xs=>x.length+zeR xs
theorem zwF (xs:List Str) (sep:Str):(Lib.join xs sep).length≤zeR xs+xs.length*sep.length:=by
 cases xs with
 |nil=>simp [Lib.join_nil]
 |cons x xs=>
  rw [Lib.join_cons,yqla]
  have: ∀r:List Str,(Lib.joinTail sep r).length=zeR r+r.length*sep.length:=by
   intro r
   induction r with
   |nil=>simp [Lib.joinTail,zeR]
   |cons y r ih=>
    have e:Lib.joinTail sep (y::r)=sep++y++Lib.joinTail sep r:=by simp [Lib.joinTail]
    rw [e,yqla,yqla,ih,zeR,yqlc,Nat.succ_mul]
    omega
  rw [this,zeR,yqlc,Nat.succ_mul]
  omega
theorem zy3 (xs:List Str) (i:Nat):zeR (xs.take i)≤zeR xs:=by
 induction xs generalizing i with
 |nil=>simp [zeR]
 |cons x xs ih=>
  cases i with
  |zero=>simp [zeR]
  |succ i=>simp only [List.take_succ_cons,zeR];have:=ih i;omega
theorem zuR {xs:List Str} {i:Nat} (hi:i<xs.length):xs[i].length≤zeR xs:=by
 induction xs generalizing i with
 |nil=>simp at hi
 |cons x xs ih=>
  cases i with
  |zero=>simp [zeR]
  |succ i=>simp only [List.getElem_cons_succ,zeR];have:=ih (i:=i) (by simpa using hi);omega
def Small (xs:List Str):Prop:=xs.length≤2000000∧zeR xs≤2000000
theorem zG6 {xs:List Str} {c:UInt8} (h:Small xs):zlk xs [c]=some (Lib.join xs [c]):=by
 obtain⟨h1,h2⟩:=h
 have hl:=zb7 (xs:=List.range xs.length) (body:=fun s:Str × Int=>zdI xs [c] s.1 s.2) (fun i (o:Str)=>(o,i)) (fun o i=>if i=0 then(xs[i]?).getD []else o++ [c]++(xs[i]?).getD []) (fun o=>some o) (fun i o=>o=Lib.join (xs.take i) [c])
  (fun i hi o hI=>by
   rw [List.length_range]at hi
   rw [List.getElem_range]
   have hI:o=Lib.join (xs.take i) [c]:=hI
   have hlen:o.length≤1010000000:=by
    have e1:=zwF (xs.take i) [c]
    have e2:=zy3 xs i
    rw [List.length_take,yqls,Nat.mul_one]at e1
    rw [hI];omega
   have hg:=zuR hi
   have hw:=zaW hi (by omega:xs.length≤_)
   rw [List.getElem?_eq_getElem hi,Option.getD_some]
   refine⟨?_,by show _=_;rw [zB5 hi,hI]⟩
   show zdI xs [c] o i=_
   unfold zdI
   rw [if_pos (by simpa using hi),zac hi,yqob,hw]
   by_cases h0:i=0
   ·subst h0
    have ho:o= []:=by rw [hI];rfl
    subst ho
    rw [if_neg (by simp),zae (by simp;omega),if_pos rfl];rfl
   ·rw [if_pos (by simp;omega),zae (by rw [yqls];omega),zae (by rw [yqla,yqls];omega),if_neg h0])
  (fun o _=>by
   show zdI xs [c] o ((List.range xs.length).length:Nat)=_
   unfold zdI
   rw [if_neg (by simp)]) (s:= []) (by simp [Lib.join_nil])
 generalize (List.range xs.length).foldl (fun o i=>if i=0 then(xs[i]?).getD []else o++ [c]++(xs[i]?).getD []) []=o at hl
 obtain⟨h3,h4⟩:=hl
 have h4:o=Lib.join (xs.take (List.range xs.length).length) [c]:=h4
 rw [List.length_range,List.take_length]at h4
 subst h4
 exact h3
theorem zGb {xs:List Str} {c:UInt8} (h:Small xs):zi6 xs [c]=some (Lib.join xs [c]):=by
 obtain⟨h1,h2⟩:=h
 have:=zwF xs [c]
 rw [yqls,Nat.mul_one]at this
 exact zae ⟨by omega,by omega⟩
theorem Small.each {xs:List Str} (h:Small xs): ∀x∈xs,x.length≤2000000:=by
 intro x hx
 obtain⟨i,hi,rfl⟩:=List.getElem_of_mem hx
 exact Nat.le_trans (zuR hi) h.2
def zaq (t:zab) (r:zch):Bool:=((r.au.length:Int)==t.ao.length)&&r.au.all field
theorem zlF {t:zab} {r:zch} (h:Small r.au):zdA t r=some (zaq t r):=by
 have h1:=h.1
 unfold zdA
 rw [zjL (xs:=r.au) field false (zii t r) (fun i hi=>by
  simp only [zih,Int.ofNat_lt,hi,decide_true,if_true,zac hi,yqob,zwx (h.each _ (List.getElem_mem hi)),zaW hi (by omega:r.au.length≤_)]
  cases field r.au[i]<;>rfl) (by simp [zih])]
 unfold zii zaq
 cases r.au.all field<;>simp
theorem zlr {t:zab} {r:zch} (h:Small r.au):zbk t r=some (zaq t r):=by
 have e:za3 r.au (fun y0_=>zd1 y0_)=some (r.au.any fun s=> !field s):=zr4 _ (fun s hs=>by simp [zd1,zrt (h.each s hs)]) (by have:=h.1;omega)
 simp only [zbk,e,yqob,zaq,←List.not_all_eq_any_not]
 cases((r.au.length:Int)==t.ao.length)<;>simp
def zfv (t:zab) (r:zch):zaa:=⟨t.ab++ [47]++(r.au.head?).getD [],Lib.join r.au.tail [44],false⟩
theorem zI8 {α:Type} (xs:List α):zg2 xs 1 (xs.length:Int)=xs.tail:=by simp [zg2]
theorem Small.tail {xs:List Str} (h:Small xs):Small xs.tail:=by
 cases xs with
 |nil=>exact h
 |cons x xs=>exact⟨by have:=h.1;simp at this ⊢;omega,by have:=h.2;simp only [zeR,List.tail_cons]at this ⊢;omega⟩
theorem zoC {t:zab} {r:zch} (ht:t.ab.length≤2000000) (h:Small r.au) (hn:r.au≠ []):zbV t r=some (zfv t r):=by
 obtain⟨x,xs,hx⟩:=List.exists_cons_of_ne_nil hn
 have hx1:x.length≤2000000:=h.each x (by simp [hx])
 unfold zbV zfv
 rw [zae (by rw [yqls];omega),zI8,zG6 h.tail,hx]
 rw [show zaD (x::xs) 0=some x from rfl,yqob,zae (by rw [yqla,yqls];omega),zae (by simp only [yqlc];omega),yqob]
 rfl
theorem zoh {t:zab} {r:zch} (ht:t.ab.length≤2000000) (h:Small r.au) (hn:r.au≠ []):za0 t r=some (zfv t r):=by
 obtain⟨x,xs,hx⟩:=List.exists_cons_of_ne_nil hn
 have hx1:x.length≤2000000:=h.each x (by simp [hx])
 unfold za0 zfv
 rw [zae (by rw [yqls];omega),zI8,zGb h.tail,hx]
 rw [show zaD (x::xs) 0=some x from rfl,yqob,zae (by rw [yqla,yqls];omega),zae (by simp only [yqlc];omega),yqob]
 rfl
theorem zqI (c:UInt8) (s:Str):zeR (zbj c s)≤s.length:=by
 induction s with
 |nil=>simp [zbj,zeR]
 |cons b s ih=>
  simp only [zbj]
  split
  ·simp only [zeR,List.length_nil,yqlc];omega
  ·cases hs:zbj c s with
   |nil=>exact absurd hs (zrM c s)
   |cons x xs=>rw [hs]at ih;simp only [zeR,yqlc]at ih ⊢;omega
theorem zyM {c:UInt8} {s:Str} (h:s.length≤1000000):Small (zbj c s):=by
 have h1:=znv c s
 have h2:s.count c≤s.length:=List.count_le_length
 have h3:=zqI c s
 exact⟨by omega,by omega⟩
theorem zH7 {s p:Str} (hs:s.length≤2000000):zdS s p=some (if p.isPrefixOf s=true then(s.drop p.length,true)else(s,false)):=by
 have e:zbv s p=some (p.isPrefixOf s):=by
  unfold zbv
  by_cases hl:p.length≤s.length
  ·rw [if_pos (by simpa using hl),zae (by omega),zGB]
   congr 1
   rw [Bool.eq_iff_iff,beq_iff_eq,List.isPrefixOf_iff_prefix,List.prefix_iff_eq_take]
   exact eq_comm
  ·rw [if_neg (by simpa using hl)]
   congr 1
   symm
   rw [←Bool.not_eq_true,List.isPrefixOf_iff_prefix]
   intro h
   exact hl h.length_le
 unfold zdS zcy
 rw [e,yqob]
 cases hp:p.isPrefixOf s with
 |false=>simp
 |true=>
  have hl:=(List.isPrefixOf_iff_prefix.1 hp).length_le
  simp only [Bool.not_true,yqft,if_false,if_true]
  rw [zae (by omega),zG5,List.take_length]
  rfl
def zrW (a b:zaa):Bool:=a.ae==b.ae&&(a.az==b.az&&(a.bd==b.bd))
theorem zAQ (a b:zaa):zrW a b=zrW b a:=by
 unfold zrW
 rw [show(a.ae==b.ae)=(b.ae==a.ae)from BEq.comm,show(a.az==b.az)=(b.az==a.az)from BEq.comm,show(a.bd==b.bd)=(b.bd==a.bd)from BEq.comm]
theorem zCa {a b:zaa} (h:zrW a b=true):a.ae=b.ae:=by
 unfold zrW at h
 simp only [yqba,beq_iff_eq]at h
 exact h.1
def zeW (w:zaa):zch:=⟨w.ae.drop 2::zbj 44 w.az⟩
def zbl (t:zab) (w:zaa):Bool:=zaq t (zeW w)&&zrW (zfv t (zeW w)) w
def znO (w:zaa):Prop:=w.ae.length≤1000∧w.az.length≤1000
theorem zoo {w:zaa} (h:znO w):Small (zeW w).au:=by
 have h1:=znv 44 w.az
 have h2:w.az.count 44≤w.az.length:=List.count_le_length
 have h3:=zqI 44 w.az
 obtain⟨k,v⟩:=h
 refine⟨?_, ?_⟩
 ·show(w.ae.drop 2::zbj 44 w.az).length≤_
  rw [yqlc];omega
 ·show zeR (w.ae.drop 2::zbj 44 w.az)≤_
  rw [zeR,List.length_drop];omega
theorem zCg {t:zab} {w:zaa} (h:zaq t (zeW w)=true):3≤w.ae.length:=by
 unfold zaq zeW at h
 simp only [yqba,List.all_cons,field,zaY,List.length_drop]at h
 omega
theorem zGD {t:zab} {w:zaa} (ht:t.ab.length≤2000000) (h:znO w): ∃r,ziD t w=some (r,zbl t w)∧(zbl t w=true→r=zeW w):=by
 have hs:=zoo h
 have hsp:=znv 44 w.az
 have hct:w.az.count 44≤w.az.length:=List.count_le_length
 obtain⟨hk,hv⟩:=h
 unfold ziD
 by_cases h3:w.ae.length<3
 ·rw [if_pos (by simp;omega)]
  have:zbl t w=false:=by
   unfold zbl
   cases hg:zaq t (zeW w)with
   |false=>rfl
   |true=>have:=zCg hg;omega
  exact⟨_,by rw [this],by rw [this];intro h;cases h⟩
 ·have hw:zg2 w.ae 2 (w.ae.length:Int)=w.ae.drop 2:=by
   have:=zG5 w.ae 2 w.ae.length
   rw [List.take_length]at this
   exact this
  have hsplit:zex w.az 44=some (zbj 44 w.az):=zzx (c:=44) (by omega)
  have hr:(([w.ae.drop 2]:List Str).length+(zbj 44 w.az).length:Int)*16≤140737488355328∧(([w.ae.drop 2]:List Str).length:Int)+(zbj 44 w.az).length≤140737488355328:=by
   rw [yqls];omega
  rw [if_neg (by simp;omega),zae (by omega),hsplit,yqob,hw,zae hr]
  rw [show(⟨[w.ae.drop 2]++zbj 44 w.az⟩:zch)=zeW w from rfl,zlF hs,yqob]
  unfold zbl
  cases hg:zaq t (zeW w)with
  |false=>exact⟨_,by rw [if_neg (by simp)];rfl,by simp⟩
  |true=>
   rw [if_pos rfl,zoC ht hs (by simp [zeW]),yqob]
   exact⟨zeW w,by rw [Bool.true_and];rfl,fun _=>rfl⟩
theorem zHg {t:zab} {w:zaa} (ht:t.ab.length=1) (h:znO w): ∃r,zdY t w=some (r,zbl t w)∧(zbl t w=true→r=zeW w):=by
 have hs:=zoo h
 have hsp:=znv 44 w.az
 have hct:w.az.count 44≤w.az.length:=List.count_le_length
 obtain⟨hk,hv⟩:=h
 unfold zdY
 have hsplit:zgf w.az [44]=some (zbj 44 w.az):=zEi (by omega)
 rw [zae (by rw [yqls];omega),zH7 (by omega),yqob,hsplit,yqob]
 have hr: ∀x:Str,(([x]:List Str).length+(zbj 44 w.az).length:Int)*16≤140737488355328∧(([x]:List Str).length:Int)+(zbj 44 w.az).length≤140737488355328:=by
  intro x;rw [yqls];omega
 rw [zae (hr _)]
 cases hp:(t.ab++ [47]).isPrefixOf w.ae with
 |false=>
  have hno:zbl t w=false:=by
   unfold zbl
   cases hw:zrW (zfv t (zeW w)) w with
   |false=>simp
   |true=>
    have hkey:=zCa hw
    rw [←Bool.not_eq_true,List.isPrefixOf_iff_prefix]at hp
    exact absurd ⟨_,hkey⟩ hp
  rw [hno]
  exact⟨_,by rw [if_neg (by simp)],by simp⟩
 |true=>
  have hl:(t.ab++ [47]).length=2:=by rw [yqla,ht];rfl
  simp only [if_true,hl]
  rw [show(⟨[w.ae.drop 2]++zbj 44 w.az⟩:zch)=zeW w from rfl,zlr hs,yqob]
  unfold zbl
  cases hg:zaq t (zeW w)with
  |false=>exact⟨_,by rw [if_neg (by simp)];rfl,by simp⟩
  |true=>
   rw [if_pos rfl,zoh (by omega) hs (by simp [zeW]),yqob]
   rw [show(w.ae==(zfv t (zeW w)).ae&&(w.az==(zfv t (zeW w)).az&&w.bd==(zfv t (zeW w)).bd))=zrW w (zfv t (zeW w))from rfl,zAQ]
   cases zrW (zfv t (zeW w)) w with
   |false=>exact⟨_,by rw [if_pos (by simp)];rfl,by simp⟩
   |true=>exact⟨_,by rw [if_neg (by simp)];rfl,fun _=>rfl⟩
theorem zkf {α β:Type} (p:α→Bool) (f:α→β) (l:List α) (o:List β):l.foldl (fun o x=>if p x=true then o++ [f x]else o) o=o++(l.filter p).map f:=by
 induction l generalizing o with
 |nil=>simp
 |cons x l ih=>
  rw [List.foldl_cons,ih,List.filter_cons]
  cases p x<;>simp
def rows (t:zab) (l:List zaa):List zch:=(l.filter (zbl t)).map zeW
theorem zwj {t:zab} {l:List zaa} (ht:t.ab.length≤2000000) (hl:l.length≤2000000) (h: ∀w∈l,znO w):zfu t l=some (rows t l):=by
 have h1:=zb7 (xs:=l) (body:=fun s:List zch × Int=>zdD t l s.1 s.2) (fun i (o:List zch)=>(o,i)) (fun o w=>if zbl t w=true then o++ [zeW w]else o) (fun o=>some o) (fun i o=>o.length≤i)
  (fun i hi o hI=>by
   have hI:o.length≤i:=hI
   obtain⟨r,e,hr⟩:=zGD ht (h _ (List.getElem_mem hi))
   have hw:=zaW hi (by omega:l.length≤_)
   refine⟨?_,by
    show List.length (if zbl t l[i]=true then o++ [zeW l[i]]else o)≤i+1
    split
    ·rw [yqla,yqls];omega
    ·omega⟩
   show zdD t l o i=_
   unfold zdD
   rw [if_pos (by simpa using hi),zac hi,yqob,e,yqob,hw]
   cases hb:zbl t l[i]with
   |false=>rfl
   |true=>
    have hq:((o.length:Int)+(([r]:List zch).length:Int))*24≤140737488355328∧(o.length:Int)+(([r]:List zch).length:Int)≤140737488355328:=by
     rw [yqls];omega
    rw [if_pos rfl,zae hq,if_pos rfl,hr hb])
  (fun o _=>by
   show zdD t l o l.length=_
   unfold zdD
   rw [if_neg (by simp)]) (s:= []) (by simp)
 rw [zkf]at h1
 exact h1.1
theorem zzw {t:zab} {l:List zaa} (ht:t.ab.length=1) (hl:l.length≤2000000) (h: ∀w∈l,znO w):zcT t l=some (rows t l):=by
 have h1:=zb7 (xs:=l) (body:=fun s:Int × List zch=>zbo t l s.1 s.2) (fun i (o:List zch)=>(i,o)) (fun o w=>if zbl t w=true then o++ [zeW w]else o) (fun o=>some o) (fun i o=>o.length≤i)
  (fun i hi o hI=>by
   have hI:o.length≤i:=hI
   obtain⟨r,e,hr⟩:=zHg ht (h _ (List.getElem_mem hi))
   have hw:=zaW hi (by omega:l.length≤_)
   refine⟨?_,by
    show List.length (if zbl t l[i]=true then o++ [zeW l[i]]else o)≤i+1
    split
    ·rw [yqla,yqls];omega
    ·omega⟩
   show zbo t l i o=_
   unfold zbo
   rw [if_pos (by simpa using hi),zac hi,yqob,e,yqob,hw]
   cases hb:zbl t l[i]with
   |false=>rfl
   |true=>
    have hq:((o.length:Int)+(([r]:List zch).length:Int))*24≤140737488355328∧(o.length:Int)+(([r]:List zch).length:Int)≤140737488355328:=by
     rw [yqls];omega
    rw [if_pos rfl,zae hq,if_pos rfl,hr hb])
  (fun o _=>by
   show zbo t l l.length o=_
   unfold zbo
   rw [if_neg (by simp)]) (s:= []) (by simp)
 rw [zkf]at h1
 exact h1.1
def head (t:zab) (n:Str):Str:=t.ab++ [46]++n
def zcf (t:zab) (n k:Str):Bool:=match zbj 47 k with
 | [x,y,z]=>x==head t n&&field y&&field z
 |_=>false
theorem zEr {t:zab} {n k:Str} (ht:t.ab.length≤2000000) (hn:n.length≤2000000) (hk:k.length≤1000000): ∃a b,zfa t n k=some (a,b,zcf t n k):=by
 have hsm:=zyM (c:=47) hk
 have he:zex k 47=some (zbj 47 k):=zzx (c:=47) (by omega)
 unfold zfa zcf
 rw [he,yqob]
 generalize zbj 47 k=ps at hsm
 match ps,hsm with
 | [],_=>exact⟨_,_,by rw [if_pos (by simp)]⟩
 | [_],_=>exact⟨_,_,by rw [if_pos (by simp)]⟩
 | [_,_],_=>exact⟨_,_,by rw [if_pos (by simp)]⟩
 |_::_::_::_::l,_=>exact⟨_,_,by rw [if_pos (by simp;omega)]⟩
 | [x,y,z],hsm=>
  have hy:=hsm.each y (by simp)
  have hz:=hsm.each z (by simp)
  dsimp only
  rw [if_neg (by simp),show zaD [x,y,z] 0=some x from rfl,yqob,zae (by rw [yqls];omega),zae (by rw [yqla,yqls];omega)]
  rw [show(t.ab++ [46]++n)=head t n from rfl]
  by_cases hx:x=head t n
  ·rw [if_neg (by simp [hx]),show zaD [x,y,z] 1=some y from rfl,yqob,zwx hy,yqob]
   have hx2:(x==head t n)=true:=by simpa using hx
   rw [hx2]
   cases field y with
   |false=>exact⟨_,_,by rw [if_neg (by simp)];rfl⟩
   |true=>
    rw [if_pos rfl,show zaD [x,y,z] 2=some z from rfl,yqob,zwx hz,yqob]
    cases field z with
    |false=>exact⟨_,_,by rw [if_pos (by simp)];rfl⟩
    |true=>exact⟨_,_,by rw [if_neg (by simp)];rfl⟩
  ·have hx2:(x==head t n)=false:=by simpa using hx
   rw [hx2]
   exact⟨_,_,by rw [if_pos (by simpa [bne]using hx2)];rfl⟩
theorem zAD {c:UInt8} {s x y:Str} {r:List Str} (h:zbj c s=x::y::r): ∃q,s=x++c::q:=by
 rcases zhY s c with⟨_,h0⟩|⟨p,q,rfl,hp,_⟩
 ·rw [zeZ h0]at h;simp at h
 ·rw [zje hp]at h
  obtain⟨rfl,_⟩:=List.cons.inj h
  exact⟨q,rfl⟩
theorem zF0 {x:Str} {c:UInt8} (hx:x.length≤2000000):(zgi x [c]=some (x, [],false)∧ ∀b∈x,b≠c)∨ ∃p q,x=p++c::q∧(∀b∈p,b≠c)∧zgi x [c]=some (p,q,true):=by
 have hi:za6 x [c]=some (Lib.indexByte x c):=rfl
 rcases zhY x c with⟨e,h0⟩|⟨p,q,rfl,hp,e⟩
 ·refine .inl ⟨?_,h0⟩
  unfold zgi zcz
  rw [hi,yqob,e,if_neg (by simp)]
  rfl
 ·refine .inr ⟨p,q,rfl,hp, ?_⟩
  rw [yqla,yqlc]at hx
  have hw:IntKind.i64.wrap ((p.length:Int)+(([c]:Str).length:Int))=((p.length+1:Nat):Int):=by rw [yqls,zaI (by omega) (by omega)];omega
  unfold zgi zcz
  rw [hi,yqob,e,if_pos (by simp),zae (by rw [yqla,yqlc];omega),hw,zae (by rw [yqla,yqlc];omega),zGB,zG5,List.take_length]
  have e1:(p++c::q).drop (p.length+1)=q:=by simp
  have e2:(p++c::q).take p.length=p:=by simp
  rw [e1,e2]
  rfl
theorem zFj {s:Str} (h:(47:UInt8)∈s):field s=false:=by
 unfold field zkt
 have:(s.all fun b=>zgu b||([]:Str).contains b)=false:=by
  rw [List.all_eq_false]
  exact⟨47,h,by decide⟩
 rw [this,Bool.and_false]
theorem zCI {t:zab} {n:Str} (ht:t.ab.length≤2000000) (hn:n.length≤2000000):zcC t n=some (head t n++ [47]):=by
 unfold zcC head
 rw [zae (by rw [yqls];omega),zae (by rw [yqla,yqls];omega),zae (by rw [yqla,yqla,yqls,yqls];omega)]
theorem zEM {t:zab} {n k:Str} (ht:t.ab.length≤2000000) (hn:n.length≤2000000) (hk:k.length≤1000000) (hh: ∀b∈head t n,b≠47): ∃a b,zcR t n k=some (a,b,zcf t n k):=by
 unfold zcR
 rw [zCI ht hn,yqob,zH7 (by omega),yqob]
 cases hp:(head t n++ [47]).isPrefixOf k with
 |false=>
  have hno:zcf t n k=false:=by
   unfold zcf
   split
   ·rename_i x y z hs
    cases hx:x==head t n with
    |false=>simp
    |true=>
     obtain⟨q,hq⟩:=zAD hs
     rw [←Bool.not_eq_true,List.isPrefixOf_iff_prefix]at hp
     refine absurd ⟨q, ?_⟩ hp
     rw [hq,(by simpa using hx:x=head t n)]
     simp
   ·rfl
  rw [hno]
  simp only [yqft,if_false]
  rcases zF0 (x:=k) (c:=47) (by omega)with⟨e,_⟩|⟨p,q,_,_,e⟩
  ·rw [e];exact⟨_,_,rfl⟩
  ·rw [e];exact⟨_,_,rfl⟩
 |true=>
  obtain⟨rest,hrest⟩:=List.isPrefixOf_iff_prefix.1 hp
  have hk2:k=head t n++47::rest:=by rw [←hrest];simp
  have hd:k.drop (head t n++ [47]).length=rest:=by rw [←hrest,List.drop_left]
  have hsp:zbj 47 k=head t n::zbj 47 rest:=by rw [hk2,zje hh]
  have hlen:rest.length≤1000000:=by
   have:k.length=(head t n).length+(rest.length+1):=by rw [hk2,yqla,yqlc]
   omega
  simp only [if_true,hd]
  unfold zcf
  rw [hsp]
  rcases zF0 (x:=rest) (c:=47) (by omega)with⟨e,h0⟩|⟨p,q,rfl,hp2,e⟩
  ·rw [e,zeZ h0]
   exact⟨_,_,rfl⟩
  ·rw [e,zje hp2,yqob]
   rw [yqla,yqlc]at hlen
   simp only [if_true]
   rw [zrt (s:=p) (by omega),yqob]
   rcases zhY q 47 with⟨_,h0⟩|⟨p3,q3,rfl,hp3,_⟩
   ·rw [zeZ h0]
    dsimp only
    rw [beq_self_eq_true,Bool.true_and]
    cases field p with
    |false=>exact⟨_,_,rfl⟩
    |true=>
     rw [if_pos rfl,zrt (s:=q) (by omega),yqob]
     cases field q with
     |false=>exact⟨_,_,rfl⟩
     |true=>exact⟨_,_,rfl⟩
   ·have hf:field (p3++47::q3)=false:=zFj (by simp)
    rw [zje hp3]
    cases hq:zbj 47 q3 with
    |nil=>exact absurd hq (zrM _ _)
    |cons x xs=>
     dsimp only
     cases field p with
     |false=>exact⟨_,_,rfl⟩
     |true=>
      rw [if_pos rfl,zrt (by rw [yqla,yqlc]at hlen ⊢;omega),yqob,hf]
      exact⟨_,_,rfl⟩
def zaG (t:zab) (n:Str) (l:List zaa):List Str:=(l.filter fun w=>zcf t n w.ae).map (·.ae)
theorem zqf {t:zab} {n:Str} {l:List zaa} (ht:t.ab.length≤2000000) (hn:n.length≤2000000) (hl:l.length≤2000000) (h: ∀w∈l,znO w):zcL t n l=some (zaG t n l):=by
 have h1:=zb7 (xs:=l) (body:=fun s:List Str × Int=>zct t n l s.1 s.2) (fun i (o:List Str)=>(o,i)) (fun o w=>if zcf t n w.ae=true then o++ [w.ae]else o) (fun o=>some o) (fun i o=>o.length≤i)
  (fun i hi o hI=>by
   have hI:o.length≤i:=hI
   have htw:=h _ (List.getElem_mem hi)
   obtain⟨a,b,e⟩:=zEr (t:=t) (n:=n) (k:=l[i].ae) ht hn (by have:=htw.1;omega)
   have hw:=zaW hi (by omega:l.length≤_)
   refine⟨?_,by
    show List.length (if zcf t n l[i].ae=true then o++ [l[i].ae]else o)≤i+1
    split
    ·rw [yqla,yqls];omega
    ·omega⟩
   show zct t n l o i=_
   unfold zct
   rw [if_pos (by simpa using hi),zac hi,yqob,e,yqob,hw]
   cases hb:zcf t n l[i].ae with
   |false=>rfl
   |true=>
    have hq:((o.length:Int)+(([l[i].ae]:List Str).length:Int))*16≤140737488355328∧(o.length:Int)+(([l[i].ae]:List Str).length:Int)≤140737488355328:=by
     rw [yqls];omega
    rw [if_pos rfl,zae hq,if_pos rfl])
  (fun o _=>by
   show zct t n l o l.length=_
   unfold zct
   rw [if_neg (by simp)]) (s:= []) (by simp)
 rw [zkf (fun w:zaa=>zcf t n w.ae) (fun w=>w.ae)]at h1
 exact h1.1
theorem zuN {t:zab} {n:Str} {l:List zaa} (ht:t.ab.length≤2000000) (hn:n.length≤2000000) (hh: ∀b∈head t n,b≠47) (hl:l.length≤2000000) (h: ∀w∈l,znO w):zbg t n l=some (zaG t n l):=by
 have h1:=zb7 (xs:=l) (body:=fun s:Int × List Str=>zbf t n l s.1 s.2) (fun i (o:List Str)=>(i,o)) (fun o w=>if zcf t n w.ae=true then o++ [w.ae]else o) (fun o=>some o) (fun i o=>o.length≤i)
  (fun i hi o hI=>by
   have hI:o.length≤i:=hI
   have htw:=h _ (List.getElem_mem hi)
   obtain⟨a,b,e⟩:=zEM (t:=t) (n:=n) (k:=l[i].ae) ht hn (by have:=htw.1;omega) hh
   have hw:=zaW hi (by omega:l.length≤_)
   refine⟨?_,by
    show List.length (if zcf t n l[i].ae=true then o++ [l[i].ae]else o)≤i+1
    split
    ·rw [yqla,yqls];omega
    ·omega⟩
   show zbf t n l i o=_
   unfold zbf
   rw [if_pos (by simpa using hi),zac hi,yqob,e,yqob,hw]
   cases hb:zcf t n l[i].ae with
   |false=>rfl
   |true=>
    have hq:((o.length:Int)+(([l[i].ae]:List Str).length:Int))*16≤140737488355328∧(o.length:Int)+(([l[i].ae]:List Str).length:Int)≤140737488355328:=by
     rw [yqls];omega
    rw [if_pos rfl,zae hq,if_pos rfl])
  (fun o _=>by
   show zbf t n l l.length o=_
   unfold zbf
   rw [if_neg (by simp)]) (s:= []) (by simp)
 rw [zkf (fun w:zaa=>zcf t n w.ae) (fun w=>w.ae)]at h1
 exact h1.1
def less (a b:List Str):List Str:=a.filter fun k=> !b.contains k
theorem zDE {a b:List Str} (ha:a.length≤2000000) (hb:b.length≤2000000):ziW a b=some (less a b):=by
 have h1:=zb7 (xs:=a) (body:=fun s:List Str × Int=>zdH a b s.1 s.2) (fun i (o:List Str)=>(o,i)) (fun o k=>if(!b.contains k)=true then o++ [k]else o) (fun o=>some o) (fun i o=>o.length≤i)
  (fun i hi o hI=>by
   have hI:o.length≤i:=hI
   have hw:=zaW hi (by omega:a.length≤_)
   have hx:decide (zjy (fun x=>x==a[i]) b<0)= !b.contains a[i]:=by
    rw [←zDs,←zni,←decide_not]
    rw [decide_eq_decide];omega
   refine⟨?_,by
    show List.length (if(!b.contains a[i])=true then o++ [a[i]]else o)≤i+1
    split
    ·rw [yqla,yqls];omega
    ·omega⟩
   show zdH a b o i=_
   unfold zdH
   rw [if_pos (by simpa using hi),zac hi,yqob,zHC hb,yqob,hw,hx]
   cases hc:b.contains a[i]with
   |true=>rfl
   |false=>
    have hq:((o.length:Int)+(([a[i]]:List Str).length:Int))*16≤140737488355328∧(o.length:Int)+(([a[i]]:List Str).length:Int)≤140737488355328:=by
     rw [yqls];omega
    rw [if_pos (by rfl),zae hq,if_pos (by rfl)])
  (fun o _=>by
   show zdH a b o a.length=_
   unfold zdH
   rw [if_neg (by simp)]) (s:= []) (by simp)
 rw [zkf (fun k:Str=> !b.contains k) (fun k=>k)]at h1
 have h2:=h1.1
 rw [List.nil_append,List.map_id']at h2
 exact h2
theorem zCz {a b:List Str} (ha:a.length≤2000000) (hb:b.length≤2000000):zgF a b=some (less a b):=by
 unfold zgF zbe zcu
 rw [zkW (by omega) (by omega),yqob,zae (by omega),zns (fun k=>b.contains k) (fun k _=>by simp only [zjD,zFA hb,yqob])]
 rfl
structure zf2 (t:zab) (n:Str) (x:zbh):Prop where
 at_:zaD t.af (zjy (fun y:zbh=>y.ab==n) t.af)=some x
 name:x.ab=n
 c0:1≤x.bj
 c1:x.bj≤(t.ao.length:Int)-1
def zfY (r:zch) (c:Int):Str:=(r.au[c.toNat]?).getD []
def zeq (t:zab) (n:Str) (c:Int) (r:zch):Str:=head t n++ [47]++zfY r c++ [47]++zfY r 0
structure zun (t:zab) (r:zch):Prop where
 len:r.au.length=t.ao.length
 small:Small r.au
theorem zC0 {t:zab} {l:List zaa} (h: ∀w∈l,znO w): ∀r∈rows t l,zun t r:=by
 intro r hr
 obtain⟨w,hw,rfl⟩:=List.mem_map.1 hr
 obtain⟨h1,h2⟩:=List.mem_filter.1 hw
 have h3:zbl t w=true:=h2
 unfold zbl zaq at h3
 simp only [yqba,beq_iff_eq]at h3
 exact⟨by have:=h3.1.1;omega,zoo (h w h1)⟩
theorem zsb {t:zab} {r:zch} (hr:zun t r) {c:Int} (h0:0≤c) (h1:c≤(t.ao.length:Int)-1):zaD r.au c=some (zfY r c)∧(zfY r c).length≤2000000:=by
 obtain⟨y,e,hm,e2⟩:=znc (xs:=r.au) h0 (by have:=hr.len;omega)
 have hv:zfY r c=y:=by simp [zfY,e2]
 rw [hv]
 exact⟨e,hr.small.each y hm⟩
theorem zrA {t:zab} {n:Str} {x:zbh} {r:zch} (ht:t.ab.length≤2000000) (hn:n.length≤2000000) (hx:zf2 t n x) (hr:zun t r):zc0 t x r=some (zeq t n x.bj r):=by
 obtain⟨g1,l1⟩:=zsb hr (c:=x.bj) (by have:=hx.c0;omega) hx.c1
 obtain⟨g2,l2⟩:=zsb hr (c:=0) (by omega) (by have:=hx.c0;have:=hx.c1;omega)
 have e:=hx.name
 subst e
 unfold zc0 zeq
 rw [zae (by simp only [head,yqla,yqlc,List.length_nil];omega),zae (by simp only [head,yqla,yqlc,List.length_nil];omega),zae (by simp only [head,yqla,yqlc,List.length_nil];omega),g1,yqob,
  zae (by simp only [head,yqla,yqlc,List.length_nil];omega),zae (by simp only [head,yqla,yqlc,List.length_nil];omega),g2,yqob,
  zae (by simp only [head,yqla,yqlc,List.length_nil];omega)]
 rfl
theorem zrD {t:zab} {n:Str} {x:zbh} {r:zch} (hS:zdT t) (hn:n.length≤2000000) (hx:zf2 t n x) (hr:zun t r):za1 t n r=some (zeq t n x.bj r):=by
 obtain⟨g1,l1⟩:=zsb hr (c:=x.bj) (by have:=hx.c0;omega) hx.c1
 obtain⟨g2,l2⟩:=zsb hr (c:=0) (by omega) (by have:=hx.c0;have:=hx.c1;omega)
 have ht:=hS.name
 have hi:zbM t n=some x:=by
  unfold zbM
  rw [zxa hS,yqob,hx.at_];rfl
 unfold za1 zeq
 rw [zCI ht hn,yqob,hi,yqob,g1,yqob,zae (by simp only [head,yqla,yqlc,List.length_nil];omega),zae (by simp only [head,yqla,yqlc,List.length_nil];omega),g2,yqob,zae (by simp only [head,yqla,yqlc,List.length_nil];omega)]
def wanted (t:zab) (n:Str) (x:zbh) (l:List zaa):List Str:=(rows t l).map (zeq t n x.bj)
theorem znB (t:zab) (l:List zaa):(rows t l).length≤l.length:=by
 unfold rows
 rw [List.length_map]
 exact List.length_filter_le _ _
theorem zB0 {t:zab} {n:Str} {x:zbh} {l:List zaa} (hS:zdT t) (hn:n.length≤2000000) (hx:zf2 t n x) (hl:l.length≤2000000) (h: ∀w∈l,znO w):zfp t n l=some (wanted t n x l):=by
 have hin:=zC0 (t:=t) h
 have hrl:=znB t l
 unfold zfp
 rw [zwj hS.name hl h,yqob]
 have h1:=zb7 (xs:=rows t l) (body:=fun s:List Str × Int=>zcO t n (rows t l) s.1 s.2) (fun i (o:List Str)=>(o,i)) (fun o r=>o++ [zeq t n x.bj r]) (fun o=>some o) (fun i o=>o.length=i)
  (fun i hi o hI=>by
   have hI:o.length=i:=hI
   have hw:=zaW hi (by omega)
   refine⟨?_,by show List.length _=_;rw [yqla,yqls];omega⟩
   show zcO t n (rows t l) o i=_
   unfold zcO
   have hq:((o.length:Int)+(([zeq t n x.bj (rows t l)[i]]:List Str).length:Int))*16≤140737488355328∧(o.length:Int)+(([zeq t n x.bj (rows t l)[i]]:List Str).length:Int)≤140737488355328:=by
    rw [yqls];omega
   rw [if_pos (by simpa using hi),zac hi,yqob,zo6 hS,yqob,hx.at_,yqob,zrA hS.name hn hx (hin _ (List.getElem_mem hi)),yqob,zae hq,hw])
  (fun o _=>by
   show zcO t n (rows t l) o (rows t l).length=_
   unfold zcO
   rw [if_neg (by simp)]) (s:= []) rfl
 rw [zpz]at h1
 exact h1.1
theorem zCn {t:zab} {n:Str} {x:zbh} {l:List zaa} (hS:zdT t) (ht:t.ab.length=1) (hn:n.length≤2000000) (hx:zf2 t n x) (hl:l.length≤2000000) (h: ∀w∈l,znO w):zcW t n l=some (wanted t n x l):=by
 have hin:=zC0 (t:=t) h
 have hrl:=znB t l
 unfold zcW
 rw [zzw ht hl h,yqob]
 have h1:=zb7 (xs:=rows t l) (body:=fun s:Int × List Str=>zbp t n (rows t l) s.1 s.2) (fun i (o:List Str)=>(i,o)) (fun o r=>o++ [zeq t n x.bj r]) (fun o=>some o) (fun i o=>o.length=i)
  (fun i hi o hI=>by
   have hI:o.length=i:=hI
   have hw:=zaW hi (by omega)
   refine⟨?_,by show List.length _=_;rw [yqla,yqls];omega⟩
   show zbp t n (rows t l) i o=_
   unfold zbp
   have hq:((o.length:Int)+(([zeq t n x.bj (rows t l)[i]]:List Str).length:Int))*16≤140737488355328∧(o.length:Int)+(([zeq t n x.bj (rows t l)[i]]:List Str).length:Int)≤140737488355328:=by
    rw [yqls];omega
   rw [if_pos (by simpa using hi),zac hi,yqob,zrD hS hn hx (hin _ (List.getElem_mem hi)),yqob,zae hq,hw])
  (fun o _=>by
   show zbp t n (rows t l) (rows t l).length o=_
   unfold zbp
   rw [if_neg (by simp)]) (s:= []) rfl
 rw [zpz]at h1
 exact h1.1
def holds (t:zab) (n:Str) (x:zbh) (lv:Int) (l:List zaa):Bool:=
 if lv==0 then((zaG t n l).length:Int)==0
 else(((less (zaG t n l) (wanted t n x l)).length:Int)==0)&&((lv==1)||(((less (wanted t n x l) (zaG t n l)).length:Int)==0))
theorem zky (t:zab) (n:Str) (l:List zaa):(zaG t n l).length≤l.length:=by
 unfold zaG;rw [List.length_map];exact List.length_filter_le _ _
theorem zuU (t:zab) (n:Str) (x:zbh) (l:List zaa):(wanted t n x l).length≤l.length:=by
 unfold wanted;rw [List.length_map];exact znB t l
theorem zE9 {t:zab} {n:Str} {x:zbh} {lv:Int} {l:List zaa} (hS:zdT t) (ht:t.ab.length≤2000000) (hn:n.length≤2000000) (hx:zf2 t n x) (hl:l.length≤2000000) (h: ∀w∈l,znO w) (ha:zdP t n l=some true):zhp t n lv l=some (holds t n x lv l):=by
 have hE:=zqf ht hn hl h
 have hW:=zB0 hS hn hx hl h
 have e1:=zky t n l
 have e2:=zuU t n x l
 have h1:=zDE (a:=zaG t n l) (b:=wanted t n x l) (by omega) (by omega)
 have h2:=zDE (a:=wanted t n x l) (b:=zaG t n l) (by omega) (by omega)
 unfold zhp holds
 by_cases h0:(lv==0)=true
 ·rw [if_pos h0,if_pos h0,hE,yqob]
 ·rw [if_neg h0,if_neg h0]
  unfold zjB zk3
  rw [ha,hE,hW]
  simp only [yqob,h1,h2,Bool.not_true,yqft,if_false]
theorem zEx {t:zab} {n:Str} {x:zbh} {lv:Int} {l:List zaa} (hS:zdT t) (ht:t.ab.length=1) (hn:n.length≤2000000) (hh: ∀b∈head t n,b≠47) (hx:zf2 t n x) (hl:l.length≤2000000) (h: ∀w∈l,znO w):zdW t n lv l=some (holds t n x lv l):=by
 have hE:=zuN (t:=t) (by omega) hn hh hl h
 have hW:=zCn hS ht hn hx hl h
 have e1:=zky t n l
 have e2:=zuU t n x l
 have h1:=zCz (a:=zaG t n l) (b:=wanted t n x l) (by omega) (by omega)
 have h2:=zCz (a:=wanted t n x l) (b:=zaG t n l) (by omega) (by omega)
 unfold zdW holds
 by_cases h0:(lv==0)=true
 ·rw [if_pos h0,if_pos h0,hE,yqob]
 ·rw [if_neg h0,if_neg h0]
  unfold zc8 zfG
  rw [hE,hW]
  simp only [yqob,h1,h2]
  by_cases h3:(lv==1)=true
  ·rw [if_pos h3,h3,Bool.true_or,Bool.and_true]
  ·rw [if_neg h3,Bool.eq_false_iff.2 h3,Bool.false_or]
   by_cases h4:(((less (zaG t n l) (wanted t n x l)).length:Int)==0)=true
   ·rw [if_pos h4,h4,Bool.true_and]
   ·rw [if_neg h4,Bool.eq_false_iff.2 h4,Bool.false_and]
def zoc (t:zab) (n:Str):Bool:=zah t&&decide (zjy (fun x:zbh=>x.ab==n) t.af≥0)
def zGf (t:zab) (n:Str) (l:List zaa):Bool:=zoc t n&&zaP l
theorem zHk {t:zab} {n:Str} (hS:zdT t):zj8 t n=some (zoc t n):=by
 unfold zj8 zoc
 rw [zEs hS,yqob,zxa hS,yqob]
 cases zah t<;>simp
theorem zD8 {t:zab} {n:Str} {l:List zaa} (hS:zdT t) (hW:zr6 l):zdP t n l=some (zGf t n l):=by
 unfold zdP zGf zoc
 rw [zo3 hS,yqob,zo6 hS,yqob,zsS hW,yqob]
 cases zah t<;>cases decide (zjy (fun x:zbh=>x.ab==n) t.af≥0)<;>simp
theorem zGU {l:List zaa} (h:zaP l=true): ∀w∈l,znO w:=by
 intro w hw
 unfold zaP zeF at h
 simp only [yqba]at h
 have h1:=yqal.1 h.1.2.1 w hw
 unfold zg4 goodKey zkX zge at h1
 simp only [yqba,decide_eq_true_eq]at h1
 have h2:=zaY.1 h1.1.1
 have h3:=h1.2.1.1
 exact⟨by omega,by omega⟩
theorem zkA {s:Str} {k:Int} (h:zbB s k=true):(s.length:Int)≤k∧ ∀b∈s,b≠47:=by
 unfold zbB at h
 simp only [yqba]at h
 refine⟨(zaY.1 h.2).2,fun b hb e=> ?_⟩
 have h1:=yqal.1 h.1 b hb
 subst e
 exact absurd h1 (by decide)
theorem zit {s:Str} (h:zbB s 1=true):s.length=1:=by
 unfold zbB at h
 simp only [yqba]at h
 have:=zaY.1 h.2
 omega
theorem zhE {t:zab} (h:zah t=true):zbB t.ab 1=true:=by
 unfold zah at h
 simp only [yqba]at h
 exact h.1.1.1
theorem zeB {t:zab} (h:zah t=true) {x:zbh} (hx:x∈t.af):zbB x.ab 1=true∧inB x.bj 1 ((t.ao.length:Int)-1)=true:=by
 unfold zah at h
 simp only [yqba]at h
 obtain⟨i,hi,rfl⟩:=List.mem_iff_getElem.1 hx
 have h1:=yqal.1 h.2 i (List.mem_range.2 hi)
 unfold zpI at h1
 simp only [yqba,List.getElem?_eq_getElem hi,Option.getD_some]at h1
 exact⟨h1.1.1.1,h1.1.1.2⟩
theorem zCy {t:zab} {n:Str} (h:zoc t n=true): ∃x,zf2 t n x∧t.ab.length=1∧n.length=1∧ ∀b∈head t n,b≠47:=by
 unfold zoc at h
 simp only [yqba,decide_eq_true_eq]at h
 obtain⟨x,h1,h2,h3⟩:=zzd h.2
 have h4:=zeB h.1 h3
 have h5:=zaY.1 h4.2
 have h6:x.ab=n:=by simpa using h2
 have h7:=zhE h.1
 have h8:=h6▸h4.1
 refine⟨x,⟨h1,h6,h5.1,h5.2⟩,zit h7,zit h8,fun b hb=> ?_⟩
 unfold head at hb
 simp only [yqma,List.mem_singleton]at hb
 rcases hb with(hb|hb)|hb
 ·exact(zkA h7).2 b hb
 ·subst hb;decide
 ·exact(zkA h8).2 b hb
structure zJK (t:zab):Prop where
 name:t.ab.length≤9223372036854775807
 ic:t.ao.length≤9223372036854775807
 mf: ∀c∈t.ao,c.length≤9223372036854775807
 idxs:t.af.length≤9223372036854775807
 idx: ∀x∈t.af,x.ab.length≤9223372036854775807
def zIn (st:List Int):Int:=if st.contains 3 then 2 else if st.contains 0 then 0 else 1
theorem zCO {xs:List Int} {k:Int} (h:xs.length≤2000000):zji xs k=some (xs.contains k):=by
 have key: ∀(n q:Nat),q+n=xs.length→zak (fun s:Int=>zeM xs k s) (q:Int)=some ((xs.drop q).contains k):=by
  intro n
  induction n with
  |zero=>
   intro q hq
   have:q=xs.length:=by omega
   subst this
   rw [zbL]
   have e:zeM xs k xs.length=some (.inr (some false)):=by
    unfold zeM
    rw [if_neg (by simp)]
   rw [e]
   simp
  |succ n ih=>
   intro q hq
   have hlt:q<xs.length:=by omega
   have ih2:=ih (q+1) (by omega)
   rw [zbL,List.drop_eq_getElem_cons hlt,List.contains_cons]
   have e:zeM xs k q=some (if(xs[q]==k)=true then .inr (some true)else .inl ((q+1:Nat):Int)):=by
    unfold zeM
    rw [if_pos (by simpa using hlt),zac hlt,yqob,zaW hlt (by omega)]
    cases(xs[q]==k)<;>rfl
   rw [e]
   by_cases h1:(xs[q]==k)=true
   ·have h2:xs[q]=k:=by simpa using h1
    rw [if_pos h1];simp [h2]
   ·have h2:(k==xs[q])=false:=by
     rw [Bool.eq_false_iff];intro h3;exact h1 (by simp at h3 ⊢;omega)
    rw [if_neg h1,h2,Bool.false_or];exact ih2
 have:=key xs.length 0 (by omega)
 unfold zji
 simpa using this
theorem zGl {s:zai} {st:List Int} (hn:st.length=s.bm.length) (hl:st.length≤2000000) (hs: ∀(i:Nat) (hi:i<st.length),∃tb,zam s i=some tb∧zaz s tb=some st[i]):ze9 s=some (zIn st):=by
 have key: ∀(n q:Nat) (v:Int),q+n=st.length→zak (fun x:Int × Int=>zbS s x.1 x.2) (v,(q:Int))=some (if(st.drop q).contains 3 then 2 else if(st.drop q).contains 0 then 0 else v):=by
  intro n
  induction n with
  |zero=>
   intro q v hq
   have:q=st.length:=by omega
   subst this
   have e:zbS s v st.length=some (.inr (some v)):=by
    unfold zbS
    rw [if_neg (by simp [hn])]
   rw [zbL]
   dsimp only
   rw [e]
   simp
  |succ n ih=>
   intro q v hq
   have hlt:q<st.length:=by omega
   obtain⟨tb,e1,e2⟩:=hs q hlt
   have e:zbS s v q=some (if(st[q]==3)=true then .inr (some 2)else if(st[q]==0)=true then .inl (0,((q+1:Nat):Int))else .inl (v,((q+1:Nat):Int))):=by
    unfold zbS
    rw [if_pos (by simp;omega),e1,yqob,e2,yqob,zaW hlt (by omega)]
    cases(st[q]==3)<;>cases(st[q]==0)<;>rfl
   rw [zbL,List.drop_eq_getElem_cons hlt,List.contains_cons,List.contains_cons]
   dsimp only
   rw [e]
   by_cases h1:st[q]=3
   ·simp [h1]
   ·have i0:=ih (q+1) 0 (by omega)
    have iv:=ih (q+1) v (by omega)
    have h1a:(st[q]==3)=false:=by simpa using h1
    have h1b:((3:Int)==st[q])=false:=by simp;omega
    rw [h1a,h1b,Bool.false_or]
    by_cases h2:st[q]=0
    ·simp only [h2,beq_self_eq_true,Bool.true_or,if_true,yqft,if_false]
     rw [i0];split<;>(try split)<;>rfl
    ·have h2a:(st[q]==0)=false:=by simpa using h2
     have h2b:((0:Int)==st[q])=false:=by simp;omega
     rw [h2a,h2b,Bool.false_or]
     exact iv
 have:=key st.length 0 1 (by omega)
 unfold ze9
 simpa [zIn]using this
theorem zxm {s:zai} {st:List Int} (hn:st.length=s.bm.length) (hl:st.length≤2000000) (hs: ∀(i:Nat) (hi:i<st.length),∃y tb k x,zaD s.bm i=some y∧zaD s.ak y=some tb∧zbm tb s.ab=some k∧zaD tb.af k=some x∧x.al=st[i]):zbY s=some st:=by
 unfold zbY
 have h1:=zb7 (xs:=st) (body:=fun x:List Int × Int=>zcI s x.1 x.2) (fun i (o:List Int)=>(o,i)) (fun(o:List Int) x=>o++ [x]) (fun o=>some o) (fun i o=>o.length=i)
  (fun i hi o ho=>by
   refine⟨?_,by simp [ho]⟩
   obtain⟨y,tb,k,x,e1,e2,e3,e4,e5⟩:=hs i hi
   show zcI s o i=_
   unfold zcI
   have hq:((((o).length:Int)+(([x.al]:List Int).length:Int))*8≤140737488355328∧((o).length:Int)+(([x.al]:List Int).length:Int)≤140737488355328):=by rw [yqls];omega
   rw [if_pos (by simp;omega),e1,yqob,e2,yqob,e3,yqob,e4,yqob,zae hq,zaW hi (by omega),e5])
  (fun o ho=>by
   show zcI s o st.length=_
   unfold zcI
   rw [if_neg (by simp [hn])]) (s:=([]:List Int)) rfl
 have h3:=h1.1
 rw [show(fun(o:List Int) x=>o++ [x])=(fun o x=>o++ [id x])from rfl,zpz,List.map_id,List.nil_append]at h3
 exact h3
theorem zG8 {s:zai} {st:List Int} (hn:st.length=s.bm.length) (hl:st.length≤2000000) (hs: ∀(i:Nat) (hi:i<st.length),∃y tb k x,zaD s.bm i=some y∧zaD s.ak y=some tb∧zbm tb s.ab=some k∧zaD tb.af k=some x∧x.al=st[i]):ziZ s=some (zIn st):=by
 unfold ziZ zIn
 rw [zxm hn hl hs,yqob,zCO hl,yqob,zCO hl,yqob]
 split<;>(try split)<;>rfl
end Go.Proofs.YtgobcjbjogkpjaaGreatDoor
end

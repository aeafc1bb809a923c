/- Parts of a proof, joined: QF1, QF2, QF3, QF4, QR, NA, NE, N5, N6, N7, N8, N9, N10, N11, N12, N13, N14, N15, N16, PK, NK, NP, NQ, NX, NS, NT, NPN, NPT, NPU, NV, NU, NH, NM, NN, NPV. -/
import Derived.Test.YtollgpkegmbpmaaGreatDoorT7
set_option linter.unusedVariables false
set_option linter.unusedSimpArgs false
section
namespace Go.Proofs.YtollgpkegmbpmaaGreatDoor
open Go.RowKit
set_option maxRecDepth 100000
set_option maxHeartbeats 4000000
set_option maxHeartbeats 1000000
noncomputable def lL:FS:=Ge 288 [.v .s, .v (.i .u8)] (.v (.i .i64)) (fun x=>Rk x.1 x.2.1) fun x r _ h=>lK x.1 x.2.1 r h
noncomputable def nB:FS:=Ge 231 [.v .s, .v (.i .i64), .v (.i .i64)] (.tu (.cons (.v (.i .i64)) (.cons (.v .b) .nil))) (fun x=>RP x.1 x.2.1 x.2.2.1) fun x r _ h=>mX x.1 x.2.1 x.2.2.1 r h
noncomputable def nQ:FS:=Ge 183 [.v (.i .i64)] (.v .s) (fun x=>RY x.1) fun x r _ h=>nN x.1 r h
noncomputable def lI:FS:=Ge 228 [.v (.l (.st 0)), .v (.i .i64), .v (.l (.st 0))] (.v (.l (.st 0))) (fun x=>SN x.1 x.2.1 x.2.2.1) fun x r hp h=>wW (t:=47) (it:=3) (el:=74) (K:=3) (by kernel_rfl) (fun _=>by kernel_rfl) sW h
noncomputable def qI:FS:=AP 18 [.v (.l (.i .u8)), .v (.l (.i .u8))] (.v .b) (fun x=>Wm x.1 x.2.1) [] []
noncomputable def lS:FS:=AP 155 [.rf (.st 1)] (.tu (.cons (.v (.i .i64)) (.cons (.v (.st 1)) .nil))) (fun x=>Pe x.1) [] [.inl]
noncomputable def Kc:FS:=AP 71 [.rf (.st 1), .v (.i .i64)] (.tu (.cons (.v (.i .i64)) (.cons (.v (.st 1)) .nil))) (fun x=>FT x.1 x.2.1) [lS] [.inl]
noncomputable def RH:FS:=AP 106 [.rf (.st 1), .v (.l .s)] (.tu (.cons (.v .s) (.cons (.v (.st 1)) .nil))) (fun x=>Kd x.1 x.2.1) [Kc] []
noncomputable def mB:FS:=AP 142 [.rf (.st 1)] (.tu (.cons (.v .s) (.cons (.v (.st 1)) .nil))) (fun x=>RF x.1) [RH] []
noncomputable def YY:FS:=AP 95 [.rf (.st 1)] (.tu (.cons (.v .s) (.cons (.v (.st 1)) .nil))) (fun x=>Pc x.1) [RH] []
noncomputable def YR:FS:=AP 157 [.rf (.st 1), .v (.l (.i .i64))] (.tu (.cons (.v (.i .i64)) (.cons (.v (.st 1)) .nil))) (fun x=>Ln x.1 x.2.1) [Kc] []
noncomputable def YZ:FS:=AP 156 [.rf (.st 1)] (.tu (.cons (.v (.st 2)) (.cons (.v (.st 1)) .nil))) (fun x=>Pd x.1) [Kc,mB,YY,YR] [.inl, .pt, .inl]
noncomputable def Pg:FS:=AP 64 [.rf (.st 1), .v (.i .i64)] (.tu (.cons (.v .b) (.cons (.v (.st 1)) .nil))) (fun x=>I8 x.1 x.2.1) [Kc] []
noncomputable def YX:FS:=AP 72 [.rf (.st 1)] (.tu (.cons (.v (.l (.st 2))) (.cons (.v (.st 1)) .nil))) (fun x=>Pb x.1) [Kc,YZ,Pg] [.sp [.l (.st 2), .i .i64, .l (.i .u8), .i .i64, .i .u64], .inl, .inl]
noncomputable def lP:FS:=AP 73 [.rf (.st 1)] (.tu (.cons (.v (.l (.st 2))) (.cons (.v (.st 1)) .nil))) (fun x=>Rn x.1) [YX,Kc,YR,YZ] [.inl, .sp [.l (.i .u8), .i .i64, .i .u64, .l (.st 2)]]
noncomputable def Y0:FS:=AP 74 [.rf (.st 1)] (.tu (.cons (.v (.l (.st 0))) (.cons (.v (.st 1)) .nil))) (fun x=>Mx x.1) [Pg,RH] [.sp [.l (.st 0), .i .i64, .l (.i .u8), .i .i64, .i .u64], .inl, .inl, .inl]
noncomputable def lQ:FS:=AP 19 [.v (.l (.i .u8))] (.tu (.cons (.v (.l (.st 0))) (.cons (.v (.l (.l (.st 2)))) .nil))) (fun x=>Rr x.1) [Kc,Pg,lP,Y0,YX] [.sp [.l (.l (.st 2)), .i .i64, .l (.i .u8), .i .i64, .i .u64], .inl]
noncomputable def mV:FS:=AP 168 [.v (.l (.st 0))] (.v (.l .s)) (fun x=>Ry x.1) [] [.sp [.i .i64, .l .s]]
noncomputable def VO:FS:=AP 107 [.v (.i .i64), .v (.i .i64), .v (.i .i64)] (.v .b) (fun x=>LA x.1 x.2.1 x.2.2.1) [] []
noncomputable def lU:FS:=AP 252 [.v (.i .u8)] (.v .b) (fun x=>Vs x.1) [] []
noncomputable def mA:FS:=AP 253 [.v .s, .v (.i .u8)] (.v (.i .i64)) (fun x=>Vw x.1 x.2.1) [lL] []
noncomputable def Zh:FS:=AP 202 [.v .s, .v .s] (.v .b) (fun x=>Pl x.1 x.2.1) [lU,mA] [.sp [.i .i64]]
noncomputable def Zc:FS:=AP 174 [.v .s] (.v .b) (fun x=>Pn x.1) [VO,Zh] []
noncomputable def mQ:FS:=AP 167 [.v (.l .s)] (.v .b) (fun x=>Rz x.1) [Zc] [.sp [.i .i64]]
noncomputable def YM:FS:=Ge 226 [.v (.l (.st 0)), .fn [.st 0] .b] (.v (.i .i64)) (fun x=>HU x.1 (fun y=>x.2.1.φ (y,()))) fun x r hp h=>Jo (f:=226) (t:=Tf 3) (by kernel_rfl) (by kernel_rfl) (eJ (av:=(Bv tab.av (.st 0))) (cn:=3) (fun _=>⟨_,rfl,rfl⟩) h (fun y b hb=>hp.2.1 (y,()) b hb))
noncomputable def YN:FS:=Ge 158 [.v (.l (.st 0)), .fn [.st 0] .b] (.v .b) (fun x=>Gg x.1 (fun y=>x.2.1.φ (y,()))) fun x r hp h=>Jo (f:=158) (t:=Qo 226) (by kernel_rfl) (by kernel_rfl) (Xd h fun r hr=>YM.ok x r hp hr)
noncomputable def Zb:FS:=AP 175 [.v .s] (.v .b) (fun x=>Pm x.1) [Zh] []
noncomputable def nS:FS:=AP 170 [.v .s, .v .b] (.v .b) (fun x=>R0 x.1 x.2.1) [Zb] []
noncomputable def mF:FS:=AP 169 [.v (.st 0)] (.v .b) (fun x=>Rl x.1) [nS] []
noncomputable def lR:FS:=Ms mF fun _=>by kernel_rfl
noncomputable def Y5:FS:=AP 85 [.v (.l (.st 0))] (.v .b) (fun x=>O8 x.1) [mV,mQ,YN,lR] []
noncomputable def mM:FS:=AP 159 [.v (.st 0)] (.v .b) (fun x=>R3 x.1) [] []
noncomputable def mJ:FS:=Ms mM fun _=>by kernel_rfl
noncomputable def VP:FS:=AP 75 [.v (.l (.st 0))] (.v .b) (fun x=>MM x.1) [Y5,YN,mJ] []
noncomputable def lH:FS:=Ge 160 [.v (.l (.l (.st 2))), .fn [.l (.st 2)] .b] (.v (.i .i64)) (fun x=>HU x.1 (fun y=>x.2.1.φ (y,()))) fun x r hp h=>Jo (f:=160) (t:=XE) (by kernel_rfl) (by kernel_rfl) (tQ (av:=(Bv tab.av (.l (.st 2)))) (fun _=>rfl) h (fun y b hb=>hp.2.1 (y,()) b hb))
noncomputable def lD:FS:=Ge 76 [.v (.l (.l (.st 2))), .fn [.l (.st 2)] .b] (.v .b) (fun x=>Gg x.1 (fun y=>x.2.1.φ (y,()))) fun x r hp h=>Jo (f:=76) (t:=Qo 160) (by kernel_rfl) (by kernel_rfl) (Xd h fun r hr=>lH.ok x r hp hr)
noncomputable def lG:FS:=Ge 173 [.v (.l (.st 2)), .fn [.st 2] .b] (.v (.i .i64)) (fun x=>HU x.1 (fun y=>x.2.1.φ (y,()))) fun x r hp h=>Jo (f:=173) (t:=Tf 4) (by kernel_rfl) (by kernel_rfl) (eJ (av:=(Bv tab.av (.st 2))) (cn:=4) (fun _=>⟨_,rfl,rfl⟩) h (fun y b hb=>hp.2.1 (y,()) b hb))
noncomputable def lJ:FS:=Ge 88 [.v (.l (.st 2)), .fn [.st 2] .b] (.v .b) (fun x=>Gg x.1 (fun y=>x.2.1.φ (y,()))) fun x r hp h=>Jo (f:=88) (t:=Qo 173) (by kernel_rfl) (by kernel_rfl) (Xd h fun r hr=>lG.ok x r hp hr)
noncomputable def nU:FS:=AP 176 [.v (.i .i64)] (.v .b) (fun x=>VR x.1) [] []
noncomputable def pL:FS:=AP 177 [.v (.i .i64)] (.v .b) (fun x=>R7 x.1) [] []
noncomputable def pF:FS:=AP 90 [.v (.st 2)] (.v .b) (fun x=>Sc x.1) [VO,Zc,Zb,nU,pL] []
noncomputable def mS:FS:=AP 89 [.v (.st 2)] (.v .b) (fun x=>Rv x.1) [pF] []
noncomputable def mL:FS:=Ms mS fun _=>by kernel_rfl
noncomputable def Zf:FS:=AP 31 [.v (.l (.st 2))] (.v .b) (fun x=>Pp x.1) [lJ,mL] []
noncomputable def lY:FS:=AP 77 [.v (.l (.st 2))] (.v .b) (fun x=>RG x.1) [Zf] []
noncomputable def mE:FS:=Ms lY fun _=>by kernel_rfl
noncomputable def YO:FS:=Ge 78 [.v (.l (.st 0))] (.v (.l (.st 0))) (fun x=>MA x.1) fun x r hp h=>Jo (f:=78) (t:=Xy 40 3) (by kernel_rfl) (by kernel_rfl) (tE (bytes:=40) (sz:=3) (av:=(Bv tab.av (.st 0))) (fun x=>⟨S5 _ x,Sn (by kernel_rfl) x⟩) h)
noncomputable def lF:FS:=AP 267 [.v (.l (.st 0)), .v .s, .fn [.st 0, .s] (.i .i64)] (.tu (.cons (.v (.i .i64)) (.cons (.v .b) .nil))) (fun x=>Vq x.1 x.2.1 (fun y0 y1=>x.2.2.1.φ (y0,y1,()))) [] [.sp [.i .i64, .i .i64]]
noncomputable def mC:FS:=AP 206 [.v .s] (.v .b) (fun x=>Ph x.1) [] []
noncomputable def lT:FS:=AP 115 [.v .s, .v .s] (.v (.i .i64)) (fun x=>Rp x.1 x.2.1) [mC] []
noncomputable def lZ:FS:=AP 268 [.v (.st 0), .v .s] (.v (.i .i64)) (fun x=>MI x.1 x.2.1) [lT] []
noncomputable def mD:FS:=Ms lZ fun _=>by kernel_rfl
noncomputable def VH:FS:=AP 227 [.v (.l (.st 0)), .v .s] (.tu (.cons (.v (.i .i64)) (.cons (.v .b) .nil))) (fun x=>Ka x.1 x.2.1) [lF,mD] []
noncomputable def Zj:FS:=AP 162 [.v (.l (.st 0)), .v (.st 0)] (.v (.l (.st 0))) (fun x=>Lq x.1 x.2.1) [VH,lI] []
noncomputable def nM:FS:=AP 180 [.v .s, .v (.l (.st 0)), .v (.l (.st 3))] (.tu (.cons (.v .s) (.cons (.v .b) (.cons (.v .b) .nil)))) (fun x=>RW x.1 x.2.1 x.2.2.1) [VH] [.sp [.i .i64]]
noncomputable def Zl:FS:=AP 182 [.v .s] (.tu (.cons (.v (.i .i64)) (.cons (.v .b) .nil))) (fun x=>Pk x.1) [nB] []
noncomputable def zip:FS:=AP 181 [.v (.st 2), .v .s, .v .b] (.v .b) (fun x=>RB x.1 x.2.1 x.2.2.1) [Zl,VO] []
noncomputable def nD:FS:=AP 92 [.v (.l (.st 2)), .v (.l (.st 3))] (.tu (.cons (.v (.i .i64)) (.cons (.v .s) (.cons (.v (.l (.st 0))) .nil)))) (fun x=>VA x.1 x.2.1) [Zj,nM,zip,Zl,nQ] [.sp [.i .i64, .l (.st 0)], .inl]
noncomputable def oF:FS:=AP 161 [.v (.l (.st 0)), .v .s] (.v (.st 3)) (fun x=>R6 x.1 x.2.1) [VH] []
noncomputable def Zk:FS:=AP 79 [.v (.l (.st 0)), .v (.l (.st 2))] (.tu (.cons (.v (.l (.st 3))) (.cons (.v (.l (.st 0))) (.cons (.v .b) .nil)))) (fun x=>RU x.1 x.2.1) [nD,oF] [.sp [.l (.st 3)]]
noncomputable def lE:FS:=Ge 163 [.v (.l (.st 0)), .fn [.st 0] .b] (.v (.l (.st 0))) (fun x=>Pr x.1 (fun y=>x.2.1.φ (y,()))) fun x r hp h=>Jo (f:=163) (t:=XS 226 3 true (.mk (.cons (.fld (.fld (.idx (.var 5) (.var 4)) 0 3 true) 0 1 false) (.cons (.fld (.fld (.idx (.var 5) (.var 4)) 0 3 true) 1 1 false) (.cons (.fld (.fld (.idx (.var 5) (.var 4)) 0 3 true) 2 1 false) .nil)))) [(.agg (.fld (.idx (.var 5) (.var 4)) 0 3 true) 3)] (.mk (.cons (.str (ByteArray.mk #[])) (.cons (.str (ByteArray.mk #[])) (.cons (.bool false) .nil))))) (by kernel_rfl) (by kernel_rfl) (vA (av:=(Bv tab.av (.st 0))) (fun x=>⟨S5 _ x,Sn (by kernel_rfl) x,fun _=>⟨_,rfl⟩,fun e=>nomatch e⟩) (by decide) (fun a b c d j ys x tl hj=>by simp [AV.nth,hj,Bv,O6]) (fun a b c d j ys x hj=>by simp [AV.nth,hj,Bv,O6]) h (fun i hi=>YM.ok x i hp hi) (fun y b hb=>hp.2.1 (y,()) b hb))
noncomputable def mT:FS:=AP 164 [.v (.st 0)] (.v .b) (fun x=>Rw x.1) [] []
noncomputable def mK:FS:=Ms mT fun _=>by kernel_rfl
noncomputable def Y8:FS:=AP 80 [.v (.l (.st 0)), .v (.l (.st 0))] (.tu (.cons (.v (.l (.st 0))) (.cons (.v .b) .nil))) (fun x=>Lu x.1 x.2.1) [YO,lE,mK,Zj] [.sp [.i .i64, .l (.st 0)]]
noncomputable def mH:FS:=AP 20 [.v (.l (.st 0)), .v (.l (.l (.st 2)))] (.tu (.cons (.v (.l (.st 0))) (.cons (.v (.l .b)) (.cons (.v .b) .nil)))) (fun x=>RA x.1 x.2.1) [VP,lD,mE,YO,Zk,Y8] [.sp [.i .i64, .l (.st 0), .l .b], .inl]
noncomputable def Sg:FS:=AP 116 [.v (.i .i64), .v (.i .i64), .v (.i .i64)] (.v .b) (fun x=>Ly x.1 x.2.1 x.2.2.1) [] []
noncomputable def Zd:FS:=AP 207 [.v .s, .v .s] (.v .b) (fun x=>Po x.1 x.2.1) [] [.sp [.i .i64], .sp [.b, .i .i64]]
noncomputable def Zy:FS:=AP 186 [.v .s] (.v .b) (fun x=>PC x.1) [Sg,Zd] []
noncomputable def ZA:FS:=AP 187 [.v .s] (.v .b) (fun x=>Ps x.1) [Zd] []
noncomputable def nK:FS:=AP 172 [.v .s, .v .s, .v .b] (.v .b) (fun x=>RX x.1 x.2.1 x.2.2.1) [Zy,ZA] []
noncomputable def Zi:FS:=AP 87 [.v (.l (.st 0))] (.v .b) (fun x=>Pj x.1) [nK] [.sp [.i .i64]]
noncomputable def Zq:FS:=AP 81 [.v (.l (.st 0))] (.v .b) (fun x=>Lz x.1) [Zi] [.sp [.i .i64]]
noncomputable def o9:FS:=AP 165 [.v (.st 2)] (.v .b) (fun x=>Si x.1) [Zy,ZA,Sg] [.pt, .inl]
noncomputable def oB:FS:=AP 82 [.v (.l (.st 2))] (.v .b) (fun x=>Sb x.1) [o9] [.sp [.i .i64]]
noncomputable def mP:FS:=AP 188 [.v (.l (.st 0)), .v (.l (.st 3)), .v .s] (.tu (.cons (.v .s) (.cons (.v .b) (.cons (.v .b) .nil)))) (fun x=>R2 x.1 x.2.1 x.2.2.1) [] [.sp [.i .i64], .sp [.i .i64]]
noncomputable def oS:FS:=AP 244 [.v .s] (.v (.i .i64)) (fun x=>Pu x.1) [Sg] [.sp [.i .i64, .i .i64]]
noncomputable def Zz:FS:=AP 190 [.v .s] (.tu (.cons (.v (.i .i64)) (.cons (.v .b) .nil))) (fun x=>PD x.1) [oS] [.pt]
noncomputable def nJ:FS:=AP 189 [.v (.st 2), .v .s, .v .b] (.v .b) (fun x=>RQ x.1 x.2.1 x.2.2.1) [Zz,Sg] []
noncomputable def Zo:FS:=AP 138 [.v (.l (.st 0)), .v (.st 0)] (.v (.l (.st 0))) (fun x=>Ke x.1 x.2.1) [] [.sp [.i .i64]]
theorem ZD: ∀(n:Nat) (xs:HP tab.car [.v (.i .i64)]) (y:Fx tab.car (.v .s)),Gw tab [.v (.i .i64)] xs→((fun x=>Lr n x.1):HP tab.car [.v (.i .i64)]→Option (Fx tab.car (.v .s))) xs=some y→tab.Rt 245 (EC tab [.v (.i .i64)] xs) (EK tab (.v .s) y)
 |0,_,_,_,h=>nomatch h
 |n+1,xs,y,hp,h=>fS (ps:= [.v (.i .i64)]) (r:=(.v .s)) [Ge 245 [.v (.i .i64)] (.v .s) (fun x=>Lr n x.1) (ZD n)] [] (φ:=(fun x=>Lr (n+1) x.1)) (fun _ _=>by kernel_rfl) (fun _ _=>by kernel_rfl) xs y hp h
noncomputable def oG:FS:=Ge 245 [.v (.i .i64)] (.v .s) (fun x=>R8 x.1) (ZD QC)
noncomputable def oN:FS:=AP 191 [.v (.i .i64)] (.v .s) (fun x=>Pt x.1) [oG] []
noncomputable def nZ:FS:=AP 97 [.v (.l (.st 2)), .v (.l (.st 3))] (.tu (.cons (.v (.i .i64)) (.cons (.v .s) (.cons (.v (.l (.st 0))) .nil)))) (fun x=>VS x.1 x.2.1) [mP,nJ,Zo,Zz,oN] [.sp [.l (.st 0), .i .i64], .inl, .inl]
noncomputable def oA:FS:=AP 166 [.v (.l (.st 0)), .v .s] (.v (.st 3)) (fun x=>Sa x.1 x.2.1) [] [.sp [.i .i64]]
noncomputable def nI:FS:=AP 83 [.v (.l (.st 0)), .v (.l (.st 2))] (.tu (.cons (.v (.l (.st 3))) (.cons (.v (.l (.st 0))) (.cons (.v .b) .nil)))) (fun x=>VB x.1 x.2.1) [nZ,oA] [.sp [.l (.st 3)]]
noncomputable def Y3:FS:=AP 84 [.v (.l (.st 0)), .v (.l (.st 0))] (.v (.l (.st 0))) (fun x=>Kb x.1 x.2.1) [Zo] [.sp [.i .i64, .l (.st 0)], .sp [.l (.st 0), .i .i64], .inl]
noncomputable def mI:FS:=AP 21 [.v (.l (.st 0)), .v (.l (.l (.st 2)))] (.tu (.cons (.v (.l (.st 0))) (.cons (.v (.l .b)) (.cons (.v .b) .nil)))) (fun x=>Rx x.1 x.2.1) [Zq,nI,Y3,oB] [.sp [.i .i64], .sp [.l .b, .i .i64, .l (.st 0)], .inl]
noncomputable def lW:FS:=AP 22 [.v (.l (.st 0)), .v (.l (.st 0))] (.v .b) (fun x=>Ll x.1 x.2.1) [] [.sp [.i .i64]]
noncomputable def mU:FS:=AP 23 [.v (.l .b), .v (.l .b)] (.v .b) (fun x=>RD x.1 x.2.1) [] [.sp [.i .i64]]
noncomputable def mO:FS:=AP 24 [.v (.l (.st 0)), .v (.l (.st 2))] (.tu (.cons (.v (.l (.st 3))) (.cons (.v (.l (.st 0))) (.cons (.v .b) (.cons (.v .b) .nil))))) (fun x=>R1 x.1 x.2.1) [VP,Zf,Zk] []
noncomputable def nH:FS:=AP 25 [.v (.l (.st 0)), .v (.l (.st 0))] (.tu (.cons (.v (.l (.st 0))) (.cons (.v .b) .nil))) (fun x=>MN x.1 x.2.1) [VP,Y5,Y8] []
noncomputable def lV:FS:=AP 229 [.rf (.st 1), .v .s] (.tu (.cons (.v (.st 0)) (.cons (.v (.st 1)) .nil))) (fun x=>Rq x.1 x.2.1) [Pg,YY] []
noncomputable def lO:FS:=AP 171 [.rf (.st 1)] (.tu (.cons (.v (.l (.st 0))) (.cons (.v (.st 1)) .nil))) (fun x=>Rm x.1) [Pg,lV] [.sp [.l (.st 0), .i .i64, .l (.i .u8), .i .i64, .i .u64], .inl]
noncomputable def lM:FS:=AP 86 [.rf (.st 1)] (.tu (.cons (.v (.l (.st 0))) (.cons (.v (.st 1)) .nil))) (fun x=>Ru x.1) [lO,Kc,RH] [.inl]
noncomputable def lX:FS:=AP 26 [.v (.l (.i .u8))] (.tu (.cons (.v (.l (.st 0))) (.cons (.v (.l (.st 0))) .nil))) (fun x=>RM x.1) [Y0,lM] []
noncomputable def nG:FS:=AP 27 [.v (.l (.st 0)), .v (.l (.st 0))] (.tu (.cons (.v (.l (.st 0))) (.cons (.v .b) .nil))) (fun x=>RS x.1 x.2.1) [Zq,Zi,Y3] []
noncomputable def Za:FS:=AP 4 [.v (.l (.i .u8)), .v (.l (.i .u8))] (.v .b) (fun x=>RO x.1 x.2.1) [qI,lQ,mH,mI,lW,mU,lX,nH,nG,mO] [.pt, .sp [.l (.st 0), .i .i64], .inl]
theorem nO (a0 a1:List Int) (r:Bool) (h:RO a0 a1=some r):Cd Tryz.prog Cb 4 [.sl (a0.map NF), .sl (a1.map NF)] (.bool r):=Za.ok (a0,a1,()) r (by simp [Za,AP,Gw,QH]) h
theorem By {α:Type} {xs:List α} {i:Nat} (h:i<xs.length):getI xs (i:Int)=some xs[i]:=by simp [getI,h]
theorem S3 {α:Type} {xs:List α} {i:Int} (h0:0≤i) (h:i<xs.length): ∃x,getI xs i=some x∧x∈xs∧xs[i.toNat]?=some x:=by
 have hi:i.toNat<xs.length:=by omega
 exact⟨xs[i.toNat],by simp [getI,h0,hi],List.getElem_mem hi,by simp [hi]⟩
theorem C6 {q n:Nat} (h:q<n) (hn:n≤9223372036854775807):IntKind.i64.wrap ((q:Int)+1)=((q+1:Nat):Int):=by rw [B0 (by omega) (by omega)];simp
theorem B5 {α:Type} {p:Prop} {k:Option α} (h:p):req p k=k:=by simp [req,h]
def F3 {α σ β:Type} (step:α→σ→Option (σ ⊕ Option β)) (fin:σ→Option β):List α→σ→Option β
 | [],s=>fin s
 |x::xs,s=>match step x s with
  |none=>none
  |some (.inl s')=>F3 step fin xs s'
  |some (.inr o)=>o
def L2 {σ τ β:Type} (f:σ→τ):Option (σ ⊕ Option β)→Option (τ ⊕ Option β)
 |none=>none
 |some (.inl s)=>some (.inl (f s))
 |some (.inr o)=>some (.inr o)
theorem rS {α σ τ β:Type} {xs:List α} {body:τ→Option (τ ⊕ Option β)} (emb:Int→σ→τ) (step:α→σ→Option (σ ⊕ Option β)) (fin:σ→Option β) (q0:Nat)
  (hs: ∀(i:Nat) (hi:i<xs.length) (s:σ),q0≤i→body (emb i s)=L2 (emb ((i+1:Nat):Int)) (step xs[i] s)) (he: ∀s,body (emb xs.length s)=some (.inr (fin s))) (s:σ) (h0:q0≤xs.length):A5 body (emb q0 s)=F3 step fin (xs.drop q0) s:=by
 have key: ∀(n q:Nat) (s:σ),q0≤q→q+n=xs.length→A5 body (emb q s)=F3 step fin (xs.drop q) s:=by
  intro n
  induction n with
  |zero=>
   intro q s _ hq;have:q=xs.length:=by omega
   subst this;rw [Ip,he s];simp [F3]
  |succ n ih=>
   intro q s h0 hq;have Am:q<xs.length:=by omega
   rw [Ip,hs q Am s h0,List.drop_eq_getElem_cons Am];rcases Ev:step xs[q] s with _|s'|o
   ·simp [F3,Ev,L2]
   ·simp only [F3,Ev,L2];exact ih (q+1) s' (by omega) (by omega)
   ·simp [F3,Ev,L2]
 exact key (xs.length-q0) q0 s (Nat.le_refl _) (by omega)
theorem bT {α σ τ β:Type} {xs:List α} {body:τ→Option (τ ⊕ Option β)} (emb:Int→σ→τ) (step:α→σ→Option (σ ⊕ Option β)) (fin:σ→Option β)
  (hs: ∀(i:Nat) (hi:i<xs.length) (s:σ),body (emb i s)=L2 (emb ((i+1:Nat):Int)) (step xs[i] s)) (he: ∀s,body (emb xs.length s)=some (.inr (fin s))) (s:σ):A5 body (emb 0 s)=F3 step fin xs s:=by
 have:=rS emb step fin 0 (fun i hi s _=>hs i hi s) he s (by omega);simpa using this
theorem u9 {α σ β:Type} {step:α→σ→Option (σ ⊕ Option β)} {fin:σ→Option β} {xs:List α} (p:α→Bool) (b:β) (h: ∀x∈xs,∀s,step x s=some (if p x=true then .inl s else .inr (some b))) (s:σ):F3 step fin xs s=if xs.all p=true then fin s else some b:=by
 induction xs with
 |nil=>simp [F3]
 |cons x xs ih=>
  simp only [F3,h x (by simp) s];cases hp:p x with
  |true=>simp [hp,ih fun y hy=>h y (by simp [hy])]
  |false=>simp [hp]
theorem s7 {α σ β:Type} {step:α→σ→Option (σ ⊕ Option β)} {fin:σ→Option β} {xs:List α} (f:σ→α→σ) (I:σ→Prop) (hI: ∀x∈xs,∀s,I s→I (f s x)) (h: ∀x∈xs,∀s,I s→step x s=some (.inl (f s x))) {s:σ} (hs:I s):F3 step fin xs s=fin (xs.foldl f s):=by
 induction xs generalizing s with
 |nil=>simp [F3]
 |cons x xs ih=>simp only [F3,h x (by simp) s hs,List.foldl_cons];exact ih (fun y hy=>hI y (by simp [hy])) (fun y hy=>h y (by simp [hy])) (hI x (by simp) s hs)
theorem LG {α σ τ β:Type} {xs:List α} {body:τ→Option (τ ⊕ Option β)} (emb:Int→σ→τ) (f:σ→α→σ) (fin:σ→Option β) (I:Nat→σ→Prop)
  (hs: ∀(i:Nat) (hi:i<xs.length) (s:σ),I i s→body (emb i s)=some (.inl (emb ((i+1:Nat):Int) (f s xs[i])))∧I (i+1) (f s xs[i])) (he: ∀s,I xs.length s→body (emb xs.length s)=some (.inr (fin s))) {s:σ} (h0:I 0 s):A5 body (emb 0 s)=fin (xs.foldl f s)∧I xs.length (xs.foldl f s):=by
 have key: ∀(n q:Nat) (s:σ),q+n=xs.length→I q s→A5 body (emb q s)=fin ((xs.drop q).foldl f s)∧I xs.length ((xs.drop q).foldl f s):=by
  intro n
  induction n with
  |zero=>
   intro q s hq hI;have:q=xs.length:=by omega
   subst this;rw [Ip,he s hI];simp [hI]
  |succ n ih=>
   intro q s hq hI;have Am:q<xs.length:=by omega
   obtain⟨h1,h2⟩:=hs q Am s hI;rw [Ip,h1,List.drop_eq_getElem_cons Am,List.foldl_cons];exact ih (q+1) _ (by omega) h2
 have:=key xs.length 0 s (by omega) h0;simpa using this
theorem S0 {α:Type} {xs:List α} {p:α→Option Bool} (q:α→Bool) (hp: ∀x∈xs,p x=some (q x)) (hn:xs.length≤9223372036854775806):Gg xs p=some (xs.any q):=by
 have key: ∀(l:List α) (i:Int),0≤i→(∀x∈l,p x=some (q x))→ ∃r,EF p l i=some r∧decide (r≥0)=l.any q:=by
  intro l
  induction l with
  |nil=>intro i _ _;exact⟨-1,rfl,by simp⟩
  |cons x l ih=>
   intro i hi h;simp only [EF,h x (by simp),Ab];cases hq:q x with
   |true=>exact⟨i,by simp,by simp [hq,hi]⟩
   |false=>obtain⟨r,h1,h2⟩:=ih (i+1) (by omega) fun y hy=>h y (by simp [hy]);exact⟨r,by simp [h1],by simp [hq,h2]⟩
 obtain⟨r,h1,h2⟩:=key xs 0 (by omega) hp;simp [Gg,HU,B5 hn,h1,h2]
theorem W8 {α:Type} {b:Nat} {xs:List α} (h:(xs.length:Int)*b≤140737488355328) (h2:(xs.length:Int)≤140737488355328):Xn b xs=some xs:=B5 ⟨h,h2⟩
theorem WI {β:Type} {n:Nat} {body:Int→Option (Int ⊕ Option β)} (p:Nat→Bool) (b:β) (fin:Option β)
  (hs: ∀i:Nat,i<n→body i=some (if p i=true then .inl ((i+1:Nat):Int)else .inr (some b))) (he:body n=some (.inr fin)):A5 body 0=if(List.range n).all p=true then fin else some b:=by
 have h1:=bT (xs:=List.range n) (body:=body) (fun i (_:Unit)=>i) (fun i _=>some (if p i=true then .inl ()else .inr (some b))) (fun _=>fin)
  (fun i hi s=>by rw [List.length_range]at hi;rw [hs i hi,List.getElem_range];cases p i<;>simp [L2]) (fun s=>by simpa using he) ()
 rw [u9 p b fun x _ s=>rfl]at h1;exact h1
def gF {α:Type} (p:α→Bool) (l:List α):Int:=match l.findIdx? p with|some i=>(i:Int)|none=> -1
theorem X0 {α:Type} {b:Bool} {A B:Option α} {y:Option α} (ha:b=true→A=y) (hb:b=false→B=y):(if b=true then A else B)=y:=by
 cases b with
 |true=>simpa using ha rfl
 |false=>simpa using hb rfl
abbrev Aq:=Ah
def Dp (a b c:Int):Bool:=decide (a≥b)&&decide (a≤c)
theorem Ha {a b c:Int}:Dp a b c=true↔b≤a∧a≤c:=by simp [Dp]
@[simp] theorem Te (a b c:Int):Ly a b c=some (Dp a b c):=rfl
@[simp] theorem SI (a b c:Int):LA a b c=some (Dp a b c):=rfl
def D6 (b:UInt8):Bool:=(decide ((b.toNat:Int)≥97)&&decide ((b.toNat:Int)≤122))||(decide ((b.toNat:Int)≥48)&&decide ((b.toNat:Int)≤57))
def Jg (s more:Aq):Bool:=s.all fun b=>D6 b||more.contains b
theorem xC {a b:UInt8}:((a.toNat:Int)==(b.toNat:Int))=(a==b):=by
 rw [Bool.eq_iff_iff];simp only [beq_iff_eq];constructor
 ·intro h;exact UInt8.toNat_inj.1 (by omega)
 ·rintro rfl;rfl
theorem bV {α:Type} (xs:List α) (p:α→Bool) (q:Nat→Bool) (h: ∀(i:Nat) (hi:i<xs.length),q i=p xs[i]):(List.range xs.length).all q=xs.all p:=by
 rw [Bool.eq_iff_iff];simp only [AJ,List.mem_range];constructor
 ·intro hq x hx;obtain⟨i,hi,rfl⟩:=List.getElem_of_mem hx;rw [←h i hi];exact hq i hi
 ·intro hp i hi;rw [h i hi];exact hp _ (List.getElem_mem hi)
theorem LM {α β:Type} {xs:List α} {body:Int→Option (Int ⊕ Option β)} (p:α→Bool) (b:β) (fin:Option β)
  (hs: ∀(i:Nat) (hi:i<xs.length),body i=some (if p xs[i]=true then .inl ((i+1:Nat):Int)else .inr (some b))) (he:body xs.length=some (.inr fin)):A5 body 0=if xs.all p=true then fin else some b:=by
 rw [WI (n:=xs.length) (fun i=>match xs[i]? with|some x=>p x|none=>true) b fin (fun i hi=>by rw [hs i hi];simp [hi]) he,
  bV xs p _ fun i hi=>by simp [hi]]
theorem aX {s more:Aq} (h1:s.length≤2000000) (h2:more.length≤2000000):Po s more=some (Jg s more):=by
 unfold Po;rw [LM (xs:=s) (fun b=>D6 b||more.contains b) false (some true) ?_ (by simp [Vu])]
 ·unfold Jg;cases(s.all fun b=>D6 b||more.contains b)<;>rfl
 ·intro i hi;have BZ:A5 (fun t:Bool × Int=>O9 more i s[i] t.1 t.2) (D6 s[i],0)=some (if(D6 s[i]||more.contains s[i])=true then .inl ((i+1:Nat):Int)else .inr (some false)):=by
   have hl:=bT (xs:=more) (body:=fun t:Bool × Int=>O9 more i s[i] t.1 t.2) (fun k (ok:Bool)=>(ok,k)) (fun b ok=>some (.inl (ok||s[i]==b))) (fun ok=>Vv i ok)
    (fun k hk ok=>by simp only [O9,Int.ofNat_lt,hk,decide_true,if_true,By hk,Ab,C6 hk (by omega:more.length≤_),xC,L2];cases ok<;>simp) (fun ok=>by simp [O9]) (D6 s[i])
   rw [s7 (fun ok b=>ok||s[i]==b) (fun _=>True) (fun _ _ _ _=>trivial) (fun _ _ _ _=>rfl) trivial]at hl;have hf: ∀(l:Aq) (ok:Bool),l.foldl (fun ok b=>ok||s[i]==b) ok=(ok||l.contains s[i]):=by
    intro l
    induction l with
    |nil=>intro ok;simp
    |cons c l ih=>intro ok;rw [List.foldl_cons,ih,List.contains_cons,Bool.or_assoc]
   rw [hl,hf];unfold Vv;rw [C6 hi (by omega)];cases(D6 s[i]||more.contains s[i])<;>rfl
  simp only [Vu,Int.ofNat_lt,hi,decide_true,if_true,By hi,Ab];exact BZ
theorem n8 (l:Aq) (c:UInt8):decide (Lib.indexByte l c<0)= !l.contains c:=by
 induction l with
 |nil=>rfl
 |cons b l ih=>
  unfold Lib.indexByte;have IV:=Lib.indexByte_ge l c;rw [List.contains_cons];by_cases hb:b=c
  ·subst hb;simp
  ·have h1:(b==c)=false:=by simpa using hb
   have h2:(c==b)=false:=by simpa using fun h=>hb h.symm
   rw [h1,h2];simp only [AY,if_false,Bool.false_or];rw [←ih];by_cases hm:Lib.indexByte l c= -1
   ·simp [hm]
   ·have h3:(Lib.indexByte l c== -1)=false:=by simpa using hm
    rw [h3];simp only [AY,if_false];rw [decide_eq_decide];omega
theorem ZP {s more:Aq} (h1:s.length≤2000000):Pl s more=some (Jg s more):=by
 unfold Pl;rw [LM (xs:=s) (fun b=>D6 b||more.contains b) false (some true) ?_ (by simp [Vz])]
 ·unfold Jg;cases(s.all fun b=>D6 b||more.contains b)<;>rfl
 ·intro i hi;have hu:((s[i].toNat:Int)).toNat.toUInt8=s[i]:=by simp
  simp only [Vz,Int.ofNat_lt,hi,decide_true,if_true,By hi,Ab,Vs,Vw,Rk,hu,n8,C6 hi (by omega:s.length≤_)];rw [show((decide ((s[i].toNat:Int)≥97)&&decide ((s[i].toNat:Int)≤122))||(decide ((s[i].toNat:Int)≥48)&&decide ((s[i].toNat:Int)≤57)))=D6 s[i]from rfl];cases D6 s[i]<;>cases more.contains s[i]<;>rfl
def CJ (s:Aq):Bool:=Dp s.length 1 12&&Jg s [46,47]
def E9 (s:Aq):Bool:=decide ((s.length:Int)≤24)&&Jg s [46,45,44,95]
theorem eP {s:Aq} (h:s.length≤2000000):PC s=some (CJ s):=by simp only [PC,Te,Ab,aX h (more:= [46,47]) (by decide),CJ];cases Dp s.length 1 12<;>simp
theorem fI {s:Aq} (h:s.length≤2000000):Pn s=some (CJ s):=by simp only [Pn,SI,Ab,ZP h,CJ];cases Dp s.length 1 12<;>simp
theorem fM {s:Aq} (h:s.length≤2000000):Ps s=some (E9 s):=by simp only [Ps,Ab,aX h (more:= [46,45,44,95]) (by decide),E9];by_cases hl:(s.length:Int)≤24<;>simp [hl]
theorem eN {s:Aq} (h:s.length≤2000000):Pm s=some (E9 s):=by simp only [Pm,Ab,ZP h,E9];by_cases hl:(s.length:Int)≤24<;>simp [hl]
def Gq (v:Aq) (FY:Bool):Bool:=E9 v&&(!FY||v== [])
theorem rN {v:Aq} {FY:Bool} (h:v.length≤2000000):R0 v FY=some (Gq v FY):=by simp only [R0,eN h,Ab,Gq,bne];cases E9 v<;>cases FY<;>cases(v== [])<;>rfl
theorem uC {k v:Aq} {FY:Bool} (hk:k.length≤2000000) (hv:v.length≤2000000):RX k v FY=some (CJ k&&Gq v FY):=by simp only [RX,eP hk,fM hv,Ab,Gq];cases CJ k<;>simp
def Hb (ks:List Aq) (i:Nat):Bool:=i==0||Op.bytesLess ((ks[i-1]?).getD []) ((ks[i]?).getD [])
def H2 (ks:List Aq):Bool:=(List.range ks.length).all (Hb ks)
theorem cE: ∀(a b:Aq),(Op.bytesLess a b||a==b)= !Op.bytesLess b a
 | [], []=>rfl
 | [],_::_=>rfl
 |_::_, []=>rfl
 |x::a,y::b=>by
  have ih:=cE a b;simp only [Op.bytesLess];rcases Nat.lt_trichotomy x.toNat y.toNat with h|h|h
  ·have h1:x<y:=UInt8.lt_iff_toNat_lt.2 h;have h2: ¬y<x:=fun h'=>by have:=UInt8.lt_iff_toNat_lt.1 h';omega
   have h3: ¬y=x:=fun h'=>by subst h';omega
   simp [h1,h2,h3]
  ·have h0:x=y:=UInt8.toNat_inj.1 h;subst h0;have h1: ¬x<x:=fun h'=>by have:=UInt8.lt_iff_toNat_lt.1 h';omega
   rw [show((x::a)==(x::b))=(a==b) by simp];simp only [h1,decide_false,Bool.false_or,beq_self_eq_true,Bool.true_and];exact ih
  ·have h1: ¬x<y:=fun h'=>by have:=UInt8.lt_iff_toNat_lt.1 h';omega
   have h2:y<x:=UInt8.lt_iff_toNat_lt.2 h;have h3: ¬x=y:=fun h'=>by subst h';omega
   simp [h1,h2,h3]
theorem eK {i:Nat} (h0:0<i) (h:i≤2000000):IntKind.i64.wrap ((i:Int)-1)=((i-1:Nat):Int):=by rw [B0 (by omega) (by omega)];omega
theorem eI {α:Type} (xs:List α) (p:α→Bool) (q r:Nat→Bool) (h: ∀(i:Nat) (hi:i<xs.length),r i=(p xs[i]&&q i)):(List.range xs.length).all r=(xs.all p&&(List.range xs.length).all q):=by
 rw [←bV xs p (fun i=>match xs[i]? with|some x=>p x|none=>true) fun i hi=>by simp [hi]];rw [Bool.eq_iff_iff];simp only [Ad,AJ,List.mem_range];constructor
 ·intro hr;exact⟨fun i hi=>by have:=hr i hi;rw [h i hi,Ad]at this;simpa [hi]using this.1,fun i hi=>by have:=hr i hi;rw [h i hi,Ad]at this;exact this.2⟩
 ·rintro⟨h1,h2⟩ i hi;rw [h i hi,Ad];exact⟨by have:=h1 i hi;simpa [hi]using this,h2 i hi⟩
theorem pC {ks:List Aq} (h:ks.length≤2000000) (hk: ∀k∈ks,k.length≤2000000):Rz ks=some (ks.all CJ&&H2 ks):=by
 unfold Rz H2;rw [WI (n:=ks.length) (fun i=>CJ ((ks[i]?).getD [])&&Hb ks i) false (some true) ?_ (by simp [Vr]),eI ks CJ (Hb ks) _ fun i hi=>by simp [hi]]
 ·cases(ks.all CJ&&(List.range ks.length).all (Hb ks))<;>rfl
 ·intro i hi;simp only [Vr,Int.ofNat_lt,hi,decide_true,if_true,By hi,Ab,fI (hk _ (List.getElem_mem hi)),C6 hi (by omega:ks.length≤_),List.getElem?_eq_getElem hi,Option.getD_some,Hb];by_cases h0:i=0
  ·subst h0;cases CJ ks[0]<;>simp
  ·have hp:(i:Int)>0:=by omega
   have Ou:i-1<ks.length:=by omega
   have hb:(i==0)=false:=by simpa using h0
   simp only [hp,decide_true,if_true,eK (Nat.pos_of_ne_zero h0) (by omega:i≤2000000),By Ou,Ab,cE,List.getElem?_eq_getElem Ou,Option.getD_some,hb,Bool.false_or];cases CJ ks[i]<;>cases Op.bytesLess ks[i-1] ks[i]<;>rfl
theorem pP {l:List Aa} (h:l.length≤2000000):Ry l=some (l.map (·.ab)):=by
 have h1:=LG (xs:=l) (body:=fun s:Int × List Aq=>MG l s.1 s.2) (fun i (o:List Aq)=>(i,o)) (fun o w=>o++ [w.ab]) (fun o=>some o) (fun q o=>o.length=q)
  (fun i hi o hI=>by
   refine⟨?_,by simp [hI]⟩;show MG l i o=_;unfold MG;have hr:((o.length:Int)+(([l[i].ab]:List Aq).length:Int))*16≤140737488355328∧(o.length:Int)+(([l[i].ab]:List Aq).length:Int)≤140737488355328:=by rw [Bm,hI];omega
   rw [if_pos (by simpa using hi),By hi,Ab,B5 hr,C6 hi (by omega)]) (fun o _=>by
   show MG l l.length o=_;unfold MG;rw [if_neg (by simp)]) (s:= []) rfl
 have hf: ∀(l:List Aa) (o:List Aq),l.foldl (fun o w=>o++ [w.ab]) o=o++l.map (·.ab):=by
  intro l
  induction l with
  |nil=>intro o;simp
  |cons w l ih=>intro o;rw [List.foldl_cons,ih];simp
 have h2:=h1.1;rw [hf,List.nil_append]at h2;unfold Ry;exact h2
def CF (w:Aa):Bool:=CJ w.ab&&Gq w.al w.ar
def Ez (l:List Aa):Bool:=decide ((l.length:Int)≤24)&&(l.all CF&&H2 (l.map (·.ab)))
def EB (l:List Aa):Prop:=l.length≤2000000∧ ∀w∈l,w.ab.length≤2000000∧w.al.length≤2000000
theorem bO {l:List Aa} (h:EB l):O8 l=some (Ez l):=by
 have e1:Gg l (fun y0_=>Rl y0_)=some (l.any fun w=> !Gq w.al w.ar):=S0 _ (fun w hw=>by simp [Rl,rN (h.2 w hw).2]) (by have:=h.1;omega);have e2:=pC (ks:=l.map (·.ab)) (by simpa using h.1) (by simp only [List.mem_map];rintro k ⟨w,hw,rfl⟩;exact(h.2 w hw).1);simp only [O8,pP h.1,e1,e2,Ab,Ez,←List.not_all_eq_any_not];have e3:l.all CF=((l.map (·.ab)).all CJ&&l.all fun w=>Gq w.al w.ar):=by
  rw [Bool.eq_iff_iff];simp only [AJ,Ad,CF,List.mem_map];constructor
  ·intro h;exact⟨by rintro k ⟨w,hw,rfl⟩;exact(h w hw).1,fun w hw=>(h w hw).2⟩
  ·rintro⟨h1,h2⟩ w hw;exact⟨h1 _ ⟨w,hw,rfl⟩,h2 w hw⟩
 rw [e3];generalize (l.map (·.ab)).all CJ=b1;generalize H2 (l.map (·.ab))=b2;generalize (l.all fun w=>Gq w.al w.ar)=b3;by_cases hl:(l.length:Int)≤24<;>cases b1<;>cases b2<;>cases b3<;>simp [hl]
theorem bS {l:List Aa} (h:EB l):Pj l=some (Ez l):=by
 unfold Pj;have hn:=h.1;rw [WI (n:=l.length) (fun i=>CF ((l[i]?).getD ⟨[], [],false⟩)&&Hb (l.map (·.ab)) i) false (Vy l) ?_ (by simp [Vt]),eI l CF (Hb (l.map (·.ab))) _ fun i hi=>by simp [hi]]
 ·unfold Vy Ez H2;rw [List.length_map];cases(l.all CF&&(List.range l.length).all (Hb (l.map (·.ab))))<;>simp
 ·intro i hi;have hm:=h.2 _ (List.getElem_mem hi);simp only [Vt,Int.ofNat_lt,hi,decide_true,if_true,By hi,Ab,uC hm.1 hm.2,C6 hi (by omega:l.length≤_),List.getElem?_eq_getElem hi,Option.getD_some,Hb,List.getElem?_map,Option.map_some];rw [show(CJ l[i].ab&&Gq l[i].al l[i].ar)=CF l[i]from rfl];by_cases h0:i=0
  ·subst h0;cases CF l[0]<;>simp
  ·have hp:(i:Int)>0:=by omega
   have Ou:i-1<l.length:=by omega
   have hb:(i==0)=false:=by simpa using h0
   simp only [hp,decide_true,if_true,eK (Nat.pos_of_ne_zero h0) (by omega:i≤2000000),By Ou,Ab,List.getElem?_eq_getElem Ou,Option.map_some,Option.getD_some,hb,Bool.false_or];cases CF l[i]<;>cases Op.bytesLess l[i-1].ab l[i].ab<;>rfl
def CN (l:List Aa):Bool:=Ez l&&l.all fun w=> !w.ar
theorem Xh {l:List Aa} (h:EB l):MM l=some (CN l):=by have e1:Gg l (fun y0_=>R3 y0_)=some (l.any fun w=> !!w.ar):=S0 _ (fun w hw=>by simp [R3]) (by have:=h.1;omega);simp only [MM,bO h,e1,Ab,CN,←List.not_all_eq_any_not];cases Ez l<;>simp
theorem S2 {l:List Aa} (h:EB l):Lz l=some (CN l):=by
 have hn:=h.1;unfold Lz;rw [LM (xs:=l) (fun w=> !w.ar) false (VF l) (fun i hi=>by simp only [VE,Int.ofNat_lt,hi,decide_true,if_true,By hi,Ab,C6 hi (by omega:l.length≤_)];cases l[i].ar<;>rfl) (by simp [VE])]
 simp only [VF,bS h,Ab,CN];cases(l.all fun w=> !w.ar)<;>simp
def small (b:UInt8):Bool:= !(decide ((b.toNat:Int)<97)||decide ((b.toNat:Int)>122))
def GJ (s:Aq) (n:Int):Bool:=s.all small&&Dp s.length 1 n
def xS (cs:List Aq) (i:Nat):Bool:=GJ ((cs[i]?).getD []) 3&& !(cs.take i).contains ((cs[i]?).getD [])
def wB (cs:List Aq):Bool:=(List.range cs.length).all (xS cs)
def XN (t:BE) (i:Nat):Bool:=
 let x:=(t.bu[i]?).getD ⟨[],0,0⟩
 GJ x.ax 1&&Dp x.dh 1 ((t.ct.length:Int)-1)&&Dp x.c8 0 3&&(i==0||Op.bytesLess ((t.bu[i-1]?).getD ⟨[],0,0⟩).ax x.ax)
def Fj (t:BE):Bool:=GJ t.ax 1&&(wB t.ct&&Dp t.ct.length 2 4)&&decide ((t.bu.length:Int)≤3)&&(List.range t.bu.length).all (XN t)
structure zL (t:BE):Prop where
 name:t.ax.length≤2000000
 mc:t.ct.length≤2000000
 l8: ∀c∈t.ct,c.length≤2000000
 idxs:t.bu.length≤2000000
 idx: ∀x∈t.bu,x.ax.length≤2000000
theorem xV {α:Type} (xs:List α) (i:Nat):Ca xs 0 i=xs.take i:=by simp [Ca]
def Gp (c:UInt8):Aq→List Aq
 | []=> [[]]
 |b::s=>if b=c then []::Gp c s else(match Gp c s with| []=> [[b]]|x::xs=>(b::x)::xs)
theorem VT {c:UInt8}: ∀{s:Aq},(∀b∈s,b≠c)→Gp c s= [s]
 | [],_=>rfl
 |b::s,h=>by have e:=VT (c:=c) (s:=s) fun x hx=>h x (List.mem_cons_of_mem _ hx);simp only [Gp,if_neg (h b (by simp)),e]
theorem aL {c:UInt8}: ∀{p q:Aq},(∀b∈p,b≠c)→Gp c (p++c::q)=p::Gp c q
 | [],q,_=>by simp [Gp]
 |b::p,q,h=>by have e:=aL (c:=c) (p:=p) (q:=q) fun x hx=>h x (List.mem_cons_of_mem _ hx);simp only [List.cons_append,Gp,if_neg (h b (by simp)),e]
theorem xZ {α:Type} (xs:List α) (i j:Nat):Ca xs (i:Int) (j:Int)=(xs.take j).drop i:=by simp [Ca]
def field (s:Aq):Bool:=Dp s.length 1 3&&Jg s []
def Jt:List Aq→Nat
 | []=>0
 |x::xs=>x.length+Jt xs
theorem rC {xs:List Aq} {i:Nat} (hi:i<xs.length):xs[i].length≤Jt xs:=by
 induction xs generalizing i with
 |nil=>simp at hi
 |cons x xs ih=>
  cases i with
  |zero=>simp [Jt]
  |succ i=>simp only [List.getElem_cons_succ,Jt];have:=ih (i:=i) (by simpa using hi);omega
def Small (xs:List Aq):Prop:=xs.length≤2000000∧Jt xs≤2000000
theorem Small.each {xs:List Aq} (h:Small xs): ∀x∈xs,x.length≤2000000:=by intro x hx;obtain⟨i,hi,rfl⟩:=List.getElem_of_mem hx;exact Nat.le_trans (rC hi) h.2
def Fb (t:BE) (r:En):Bool:=((r.bp.length:Int)==t.ct.length)&&r.bp.all field
def Ia (t:BE) (r:En):Aa:=⟨t.ax++ [47]++(r.bp.head?).getD [],Lib.join r.bp.tail [44],false⟩
theorem gG {α:Type} (xs:List α):Ca xs 1 (xs.length:Int)=xs.tail:=by simp [Ca]
theorem Small.tail {xs:List Aq} (h:Small xs):Small xs.tail:=by
 cases xs with
 |nil=>exact h
 |cons x xs=>exact⟨by have:=h.1;simp at this ⊢;omega,by have:=h.2;simp only [Jt,List.tail_cons]at this ⊢;omega⟩
def w7 (a b:Aa):Bool:=a.ab==b.ab&&(a.al==b.al&&(a.ar==b.ar))
def XM (w:Aa):En:=⟨w.ab.drop 2::Gp 44 w.al⟩
def u6 (t:BE) (w:Aa):Bool:=Fb t (XM w)&&w7 (Ia t (XM w)) w
def XU (w:Aa):Prop:=w.ab.length≤1000∧w.al.length≤1000
theorem Z5 {α β:Type} (p:α→Bool) (f:α→β) (l:List α) (o:List β):l.foldl (fun o x=>if p x=true then o++ [f x]else o) o=o++(l.filter p).map f:=by
 induction l generalizing o with
 |nil=>simp
 |cons x l ih=>rw [List.foldl_cons,ih,List.filter_cons];cases p x<;>simp
def rows (t:BE) (l:List Aa):List En:=(l.filter (u6 t)).map XM
def head (t:BE) (n:Aq):Aq:=t.ax++ [46]++n
def Nf (t:BE) (n k:Aq):Bool:=match Gp 47 k with
 | [x,y,z]=>x==head t n&&field y&&field z
 |_=>false
def Xa (t:BE) (n:Aq) (l:List Aa):List Aq:=(l.filter fun w=>Nf t n w.ab).map (·.ab)
def gE (a b:List Aq):List Aq:=a.filter fun k=> !b.contains k
structure zI (t:BE) (n:Aq) (x:Dr):Prop where
 at_:getI t.bu (gF (fun y:Dr=>y.ax==n) t.bu)=some x
 name:x.ax=n
 c0:1≤x.dh
 c1:x.dh≤(t.ct.length:Int)-1
def EE (r:En) (c:Int):Aq:=(r.bp[c.toNat]?).getD []
def Hi (t:BE) (n:Aq) (c:Int) (r:En):Aq:=head t n++ [47]++EE r c++ [47]++EE r 0
structure gO (t:BE) (r:En):Prop where
 len:r.bp.length=t.ct.length
 small:Small r.bp
def wanted (t:BE) (n:Aq) (x:Dr) (l:List Aa):List Aq:=(rows t l).map (Hi t n x.dh)
def holds (t:BE) (n:Aq) (x:Dr) (lv:Int) (l:List Aa):Bool:=
 if lv==0 then((Xa t n l).length:Int)==0
 else(((gE (Xa t n l) (wanted t n x l)).length:Int)==0)&&((lv==1)||(((gE (wanted t n x l) (Xa t n l)).length:Int)==0))
def xT (t:BE) (n:Aq):Bool:=Fj t&&decide (gF (fun x:Dr=>x.ax==n) t.bu≥0)
def zQ (t:BE) (n:Aq) (l:List Aa):Bool:=xT t n&&CN l
theorem bI {t:BE} (h:Fj t=true):GJ t.ax 1=true:=by unfold Fj at h;simp only [Ad]at h;exact h.1.1.1
theorem MZ {t:BE} (h:Fj t=true) {x:Dr} (hx:x∈t.bu):GJ x.ax 1=true∧Dp x.dh 1 ((t.ct.length:Int)-1)=true:=by unfold Fj at h;simp only [Ad]at h;obtain⟨i,hi,rfl⟩:=List.mem_iff_getElem.1 hx;have h1:=AJ.1 h.2 i (List.mem_range.2 hi);unfold XN at h1;simp only [Ad,List.getElem?_eq_getElem hi,Option.getD_some]at h1;exact⟨h1.1.1.1,h1.1.1.2⟩
abbrev bl (a b:Ah):Bool:=Op.bytesLess a b
theorem LD: ∀a:Ah,bl a a=false
 | []=>rfl
 |x::a=>by
  have h: ¬x<x:=fun h=>by have:=UInt8.lt_iff_toNat_lt.1 h;omega
  show Op.bytesLess (x::a) (x::a)=false;simp only [Op.bytesLess,h,decide_false,Bool.false_or,beq_self_eq_true,Bool.true_and];exact LD a
theorem Xm (x y:UInt8) (a b:Ah):bl (x::a) (y::b)=true↔x.toNat<y.toNat∨x=y∧bl a b=true:=by show Op.bytesLess (x::a) (y::b)=true↔_;simp only [Op.bytesLess,Bool.or_eq_true,decide_eq_true_eq,Ad,beq_iff_eq,UInt8.lt_iff_toNat_lt]
theorem G8: ∀{a b c:Ah},bl a b=true→bl b c=true→bl a c=true
 | [],_, [],_,h=>by rename_i b _;cases b<;>cases h
 | [],_,_::_,_,_=>rfl
 |_::_, [],_,h,_=>by cases h
 |_::_,_::_, [],_,h=>by cases h
 |x::a,y::b,z::c,h1,h2=>by
  rw [Xm]at*;rcases h1 with h1|⟨rfl,h1⟩<;>rcases h2 with h2|⟨rfl,h2⟩
  ·exact .inl (by omega)
  ·exact .inl h1
  ·exact .inl h2
  ·exact .inr ⟨rfl,G8 h1 h2⟩
theorem fG: ∀a b:Ah,bl a b=true∨a=b∨bl b a=true
 | [], []=> .inr (.inl rfl)
 | [],_::_=> .inl rfl
 |_::_, []=> .inr (.inr rfl)
 |x::a,y::b=>by
  rw [Xm,Xm];rcases Nat.lt_trichotomy x.toNat y.toNat with h|h|h
  ·exact .inl (.inl h)
  ·have h0:x=y:=UInt8.toNat_inj.1 h;subst h0;rcases fG a b with h1|h1|h1
   ·exact .inl (.inr ⟨rfl,h1⟩)
   ·exact .inr (.inl (by rw [h1]))
   ·exact .inr (.inr (.inr ⟨rfl,h1⟩))
  ·exact .inr (.inr (.inl h))
theorem SJ {a b:Ah} (h:bl a b=true):bl b a=false:=by
 cases h2:bl b a with
 |false=>rfl
 |true=>have:=G8 h h2;rw [LD]at this;cases this
theorem GR {a b:Ah} (h:bl a b=true):a≠b:=by rintro rfl;rw [LD]at h;cases h
theorem PL {a b:Ah} (h:bl a b=false) (hn:a≠b):bl b a=true:=by
 rcases fG a b with h1|h1|h1
 ·rw [h]at h1;cases h1
 ·exact absurd h1 hn
 ·exact h1
section
variable {α:Type} (key:α→Ah)
def DW (l:List α):Prop:=l.Pairwise fun a b=>bl (key a) (key b)=true
def Br (x:α):List α→List α
 | []=> [x]
 |y::l=>if bl (key x) (key y)=true then x::y::l else if key x=key y then x::l else y::Br x l
variable {key}
theorem SU {x:α}: ∀{l:List α},DW key l→ ∀y,y∈Br key x l↔y=x∨y∈l∧key y≠key x
 | [],_,y=>by simp [Br]
 |z::l,h,y=>by
  have h1:=List.pairwise_cons.1 h;unfold Br;split
  ·rename_i hb;constructor
   ·intro hy;rcases Ae.1 hy with rfl|hy
    ·exact .inl rfl
    ·refine .inr ⟨hy, ?_⟩;rcases Ae.1 hy with rfl|hy
     ·exact(GR hb).symm
     ·exact(GR (G8 hb (h1.1 _ hy))).symm
   ·rintro(rfl|⟨hy,_⟩)
    ·simp
    ·exact List.mem_cons_of_mem _ hy
  ·rename_i hb;split
   ·rename_i he;constructor
    ·intro hy;rcases Ae.1 hy with rfl|hy
     ·exact .inl rfl
     ·exact .inr ⟨List.mem_cons_of_mem _ hy,fun e=>GR (h1.1 _ hy) (by rw [e,he])⟩
    ·rintro(rfl|⟨hy,hn⟩)
     ·simp
     ·rcases Ae.1 hy with rfl|hy
      ·exact absurd he.symm hn
      ·exact List.mem_cons_of_mem _ hy
   ·rename_i he;rw [Ae,SU h1.2];constructor
    ·rintro(rfl|rfl|⟨hy,hn⟩)
     ·exact .inr ⟨by simp,fun e=>he e.symm⟩
     ·exact .inl rfl
     ·exact .inr ⟨List.mem_cons_of_mem _ hy,hn⟩
    ·rintro(rfl|⟨hy,hn⟩)
     ·exact .inr (.inl rfl)
     ·rcases Ae.1 hy with rfl|hy
      ·exact .inl rfl
      ·exact .inr (.inr ⟨hy,hn⟩)
theorem SB {x:α}: ∀{l:List α},DW key l→DW key (Br key x l)
 | [],_=>by simp [Br,DW]
 |z::l,h=>by
  have h1:=List.pairwise_cons.1 h;unfold Br;split
  ·rename_i hb;refine List.pairwise_cons.2 ⟨fun y hy=> ?_,h⟩;rcases Ae.1 hy with rfl|hy
   ·exact hb
   ·exact G8 hb (h1.1 _ hy)
  ·rename_i hb;split
   ·rename_i he;exact List.pairwise_cons.2 ⟨fun y hy=>by rw [he];exact h1.1 _ hy,h1.2⟩
   ·rename_i he;refine List.pairwise_cons.2 ⟨fun y hy=> ?_,SB h1.2⟩;rcases(SU h1.2 y).1 hy with rfl|⟨hy,_⟩
    ·exact PL (by simpa using hb) he
    ·exact h1.1 _ hy
theorem DW.ext: ∀{a b:List α},DW key a→DW key b→(∀x,x∈a↔x∈b)→a=b
 | [], [],_,_,_=>rfl
 | [],y::b,_,_,h=>absurd ((h y).2 (by simp)) (by simp)
 |x::a, [],_,_,h=>absurd ((h x).1 (by simp)) (by simp)
 |x::a,y::b,ha,hb,h=>by
  have h1:=List.pairwise_cons.1 ha;have h2:=List.pairwise_cons.1 hb;have e:x=y:=by
   rcases Ae.1 ((h x).1 (by simp))with e|hx
   ·exact e
   ·rcases Ae.1 ((h y).2 (by simp))with e|hy
    ·exact e.symm
    ·have:=G8 (h1.1 _ hy) (h2.1 _ hx);rw [LD]at this;cases this
  subst e;rw [DW.ext h1.2 h2.2 fun z=> ?_];constructor
  ·intro hz;rcases Ae.1 ((h z).1 (List.mem_cons_of_mem _ hz))with rfl|O4
   ·have:=h1.1 _ hz;rw [LD]at this;cases this
   ·exact O4
  ·intro hz;rcases Ae.1 ((h z).2 (List.mem_cons_of_mem _ hz))with rfl|O4
   ·have:=h2.1 _ hz;rw [LD]at this;cases this
   ·exact O4
theorem DW.filter {l:List α} (h:DW key l) (p:α→Bool):DW key (l.filter p):=List.Pairwise.filter p h
theorem DW.sub {a b:List α} (h:DW key b) (hs:a.Sublist b):DW key a:=List.Pairwise.sublist hs h
theorem dK {x:α}: ∀(l:List α),(Br key x l).length≤l.length+1
 | []=>by simp [Br]
 |y::l=>by
  unfold Br;have:=dK (x:=x) l;split
  ·simp
  ·split
   ·simp
   ·simp only [AD];omega
end
def GM {α:Type} (r:α→α→Bool):List α→Bool
 | []=>true
 | [_]=>true
 |x::y::l=>r x y&&GM r (y::l)
theorem PR {α:Type} {r:α→α→Bool} (ht: ∀a b c,r a b=true→r b c=true→r a c=true): ∀{l:List α},GM r l=true↔l.Pairwise fun a b=>r a b=true
 | []=>by simp [GM]
 | [_]=>by simp [GM]
 |x::y::l=>by
  rw [GM,Ad,PR ht];constructor
  ·rintro⟨h1,h2⟩;refine List.pairwise_cons.2 ⟨fun z hz=> ?_,h2⟩;rcases Ae.1 hz with rfl|hz
   ·exact h1
   ·exact ht _ _ _ h1 ((List.pairwise_cons.1 h2).1 z hz)
  ·intro h;have h:=List.pairwise_cons.1 h;exact⟨h.1 y (by simp),h.2⟩
theorem pN {α:Type} {r:α→α→Bool} {l:List α} {q:Nat} (h:q+1<l.length):GM r (l.drop q)=(r l[q] l[q+1]&&GM r (l.drop (q+1))):=by rw [List.drop_eq_getElem_cons (show q<l.length by omega),List.drop_eq_getElem_cons h,GM]
def Bt {α:Type} (lt:α→Bool) (l:List α):Nat:=(l.takeWhile lt).length
theorem M6 {α:Type} (lt:α→Bool): ∀l:List α,Bt lt l≤l.length
 | []=>by simp [Bt]
 |x::l=>by have:=M6 lt l;unfold Bt at this ⊢;rw [List.takeWhile_cons];split<;>simp<;>omega
theorem Xl {α:Type} {lt:α→Bool}: ∀{l:List α} {i:Nat} (h:i<Bt lt l),lt (l[i]'(Nat.lt_of_lt_of_le h (M6 lt l)))=true
 |x::l,i,h=>by
  unfold Bt at h;rw [List.takeWhile_cons]at h;split at h
  ·rename_i hx;cases i with
   |zero=>exact hx
   |succ i=>exact Xl (l:=l) (i:=i) (by unfold Bt;simpa using h)
  ·simp at h
theorem eD {α:Type} {lt:α→Bool}: ∀{l:List α} (h:Bt lt l<l.length),lt l[Bt lt l]=false
 |x::l,h=>by
  by_cases hx:lt x=true
  ·have e:Bt lt (x::l)=Bt lt l+1:=by unfold Bt;rw [List.takeWhile_cons,if_pos hx];rfl
   have:=eD (l:=l) (lt:=lt) (by rw [e]at h;simpa using h);simp only [e,List.getElem_cons_succ];exact this
  ·have e:Bt lt (x::l)=0:=by unfold Bt;rw [List.takeWhile_cons,if_neg hx];rfl
   simp only [e,List.getElem_cons_zero];simpa using hx
theorem vL {α β:Type} {xs:List α} {body:Int × Int→Option ((Int × Int) ⊕ Option β)} {fin:Int→Option β} (lt:α→Bool) (hm: ∀i j (hj:j<xs.length) (hi:i≤j),lt xs[j]=true→lt xs[i]=true)
  (hs: ∀i j:Nat,i<j→j≤xs.length→(h:(i+j)/2<xs.length)→body ((i:Int),(j:Int))=some (.inl (if lt xs[(i+j)/2]=true then((((i+j)/2+1:Nat):Int),(j:Int))else((i:Int),(((i+j)/2:Nat):Int)))))
  (he: ∀i:Nat,i≤xs.length→body ((i:Int),(i:Int))=some (.inr (fin i))):A5 body (0,(xs.length:Int))=fin (Bt lt xs):=by
 have key: ∀n i j:Nat,j-i≤n→i≤Bt lt xs→Bt lt xs≤j→j≤xs.length→A5 body ((i:Int),(j:Int))=fin (Bt lt xs):=by
  intro n
  induction n with
  |zero=>
   intro i j h1 h2 h3 h4;have:i=j:=by omega
   subst this;have:i=Bt lt xs:=by omega
   rw [Ip,he i h4,this]
  |succ n ih=>
   intro i j h1 h2 h3 h4;by_cases KT:i=j
   ·subst KT;have:i=Bt lt xs:=by omega
    rw [Ip,he i h4,this]
   ·have Am:(i+j)/2<xs.length:=by omega
    rw [Ip,hs i j (by omega) h4 Am];by_cases hc:lt xs[(i+j)/2]=true
    ·rw [if_pos hc];refine ih _ _ (by omega) ?_ h3 h4;by_cases hp:(i+j)/2<Bt lt xs
     ·omega
     ·have h5:Bt lt xs<xs.length:=by omega
      have:=eD h5;rw [hm _ _ Am (by omega) hc]at this;cases this
    ·rw [if_neg hc];refine ih _ _ (by omega) h2 ?_ (by omega);by_cases hp:(i+j)/2<Bt lt xs
     ·exact absurd (Xl hp) hc
     ·omega
 exact key xs.length 0 xs.length (by omega) (by omega) (M6 lt xs) (Nat.le_refl _)
theorem cS {α:Type} {key:α→Ah} {x:α}: ∀{l:List α},DW key l→Br key x l=(match l[Bt (fun y=>bl (key y) (key x)) l]? with
  |some y=>if key y=key x then l.set (Bt (fun y=>bl (key y) (key x)) l) x else l.take (Bt (fun y=>bl (key y) (key x)) l)++ [x]++l.drop (Bt (fun y=>bl (key y) (key x)) l)
  |none=>l.take (Bt (fun y=>bl (key y) (key x)) l)++ [x]++l.drop (Bt (fun y=>bl (key y) (key x)) l))
 | [],_=>by simp [Br,Bt]
 |y::l,h=>by
  have h1:=List.pairwise_cons.1 h;unfold Br;by_cases hb:bl (key x) (key y)=true
  ·have e:Bt (fun z=>bl (key z) (key x)) (y::l)=0:=by unfold Bt;rw [List.takeWhile_cons,if_neg (by rw [SJ hb];simp)];rfl
   rw [if_pos hb,e];simp [(GR hb).symm]
  ·rw [if_neg hb];by_cases hk:key x=key y
   ·have e:Bt (fun z=>bl (key z) (key x)) (y::l)=0:=by unfold Bt;rw [List.takeWhile_cons,if_neg (by rw [hk,LD];simp)];rfl
    rw [if_pos hk,e];simp [hk]
   ·have FP:=PL (by simpa using hb) hk;have e:Bt (fun z=>bl (key z) (key x)) (y::l)=Bt (fun z=>bl (key z) (key x)) l+1:=by unfold Bt;rw [List.takeWhile_cons,if_pos FP];rfl
    rw [if_neg hk,e,cS h1.2];simp only [List.getElem?_cons_succ];split
    ·split<;>simp
    ·simp
def L6 (a b:Aq):Int:=if bl a b=true then-1 else if a=b then 0 else 1
@[simp] theorem tL (a:Aq):Ph a=some false:=by simp [Ph]
@[simp] theorem zK (a b:Aq):Rp a b=some (L6 a b):=by
 unfold Rp L6;simp only [tL,Ab,AY,if_false];by_cases h:bl a b=true
 ·have:Op.bytesLess a b=true:=h;simp [this]
 ·have h1:Op.bytesLess a b=false:=by simpa using h
  by_cases he:a=b
  ·subst he;simp [h1]
  ·simp [h1,he]
theorem vK {a b:Aq}:decide (L6 a b<0)=bl a b:=by
 unfold L6;cases h:bl a b with
 |true=>simp
 |false=>by_cases he:a=b<;>simp [he]
theorem wZ {a b:Aq}:(L6 a b==0)=decide (a=b):=by
 unfold L6;cases h:bl a b with
 |true=>simp [GR h]
 |false=>by_cases he:a=b<;>simp [he]
theorem vZ {i j:Nat} (h:i≤j) (hj:j≤2000000):IntKind.i64.wrap (Int.fdiv (IntKind.u64.wrap (IntKind.i64.wrap ((i:Int)+(j:Int)))) (2^(min ((1:Int)).toNat (IntKind.bits .u64))))=(((i+j)/2:Nat):Int):=by
 have e1:IntKind.i64.wrap ((i:Int)+(j:Int))=((i+j:Nat):Int):=by rw [B0 (by omega) (by omega)];simp
 have e2:IntKind.u64.wrap ((i+j:Nat):Int)=((i+j:Nat):Int):=by simp only [IntKind.wrap,IntKind.bits,IntKind.signed];simp;omega
 have e3:(2:Int)^(min ((1:Int)).toNat (IntKind.bits .u64))=((2:Nat):Int):=rfl;rw [e1,e2,e3,Int.fdiv_eq_ediv_of_nonneg _ (by omega),←Int.natCast_ediv,B0 (by omega) (by omega)]
theorem w5 {i:Nat} (h:i≤2000000):IntKind.i64.wrap ((i:Int)+1)=((i+1:Nat):Int):=by rw [B0 (by omega) (by omega)];simp
abbrev CS (l:List Aa):Prop:=DW (fun w:Aa=>w.ab) l
abbrev Fs (l:List Aa) (k:Aq):Nat:=Bt (fun w:Aa=>bl w.ab k) l
theorem gK {l:List Aa} {k:Aq} (hl:l.length≤2000000) (hr:CS l):Ka l k=some (((Fs l k:Nat):Int),(match l[Fs l k]? with|some w=>decide (w.ab=k)|none=>false)):=by
 unfold Ka Vq;have hc: ∀w:Aa,MI w k=some (L6 w.ab k):=fun w=>by simp [MI]
 have h:=vL (xs:=l) (body:=fun s:Int × Int=>Mz l k (fun y0_ y1_=>MI y0_ y1_) s.1 s.2) (fin:=fun i=>Vp l k (fun y0_ y1_=>MI y0_ y1_) i) (fun w:Aa=>bl w.ab k)
  (fun i j hj hi h=>by
   rcases Nat.lt_or_ge i j with KT|KT
   ·exact G8 ((List.pairwise_iff_getElem.1 hr) i j (by omega) hj KT) h
   ·have:i=j:=by omega
    subst this;exact h)
  (fun i j KT hj UF=>by show Mz l k _ (i:Int) (j:Int)=_;unfold Mz;rw [if_pos (by simpa using KT),vZ (by omega) (by omega),By UF,Ab];simp only [hc,Ab,vK,w5 (show(i+j)/2≤2000000 by omega)];cases bl l[(i+j)/2].ab k<;>rfl)
  (fun i hi=>by show Mz l k _ (i:Int) (i:Int)=_;unfold Mz;rw [if_neg (by simp)])
 rw [h];unfold Vp;show Option.bind (if decide (((Fs l k:Nat):Int)<l.length)=true then _ else _) _=_;by_cases hp:Fs l k<l.length
 ·rw [if_pos (by simpa using hp),By hp,Ab];simp only [hc,Ab,wZ,List.getElem?_eq_getElem hp]
 ·rw [if_neg (by simpa using hp),List.getElem?_eq_none (by omega)];rfl
theorem PG {l:List Aa} {w:Aa} (hl:l.length≤2000000) (hr:CS l):Lq l w=some (Br (fun w:Aa=>w.ab) w l):=by
 unfold Lq;rw [gK hl hr,Ab,cS hr];show(if(match l[Fs l w.ab]? with|some w'=>decide (w'.ab=w.ab)|none=>false)=true then _ else _)=_;have hle:Fs l w.ab≤l.length:=M6 _ _;have hI:SN l ((Fs l w.ab:Nat):Int) [w]=some (l.take (Fs l w.ab)++ [w]++l.drop (Fs l w.ab)):=B5 ⟨by omega,by omega,by simp,by simp only [Bm];omega⟩;by_cases hp:Fs l w.ab<l.length
 ·rw [List.getElem?_eq_getElem hp];by_cases hk:(l[Fs l w.ab]).ab=w.ab
  ·simp only [hk,decide_true,if_true,By hp,Ab];rfl
  ·simp only [hk,decide_false,AY,if_false];rw [hI];rfl
 ·rw [List.getElem?_eq_none (by omega)];simp only [AY,if_false];rw [hI];rfl
theorem Sf (ks:List Aq):H2 ks=GM bl ks:=by
 have key: ∀n q,q+n+1=ks.length→(List.range' (q+1) n).all (Hb ks)=GM bl (ks.drop q):=by
  intro n
  induction n with
  |zero=>intro q hq;rw [List.drop_eq_getElem_cons (show q<ks.length by omega),List.drop_eq_nil_of_le (show ks.length≤q+1 by omega)];rfl
  |succ n ih=>intro q hq;rw [List.range'_succ,List.all_cons,ih (q+1) (by omega),pN (show q+1<ks.length by omega)];congr 1;unfold Hb;have hb:(q+1==0)=false:=rfl;rw [hb,Bool.false_or,Nat.add_sub_cancel,List.getElem?_eq_getElem (show q<ks.length by omega),List.getElem?_eq_getElem (show q+1<ks.length by omega)];rfl
 cases ks with
 |nil=>rfl
 |cons k l=>unfold H2;rw [AD,List.range_eq_range',List.range'_succ,List.all_cons];have:=key l.length 0 (by simp);rw [List.drop_zero]at this;rw [Nat.zero_add]at this;rw [show 0+1=1 from rfl,this];rfl
theorem Pw {α β:Type} (f:α→β) (r:β→β→Bool): ∀l:List α,GM r (l.map f)=GM (fun a b=>r (f a) (f b)) l
 | []=>rfl
 | [_]=>rfl
 |x::y::l=>by have:=Pw f r (y::l);simp only [List.map_cons,GM]at this ⊢;rw [this]
theorem Y2 {l:List Aa} (h:Ez l=true):CS l:=by unfold Ez at h;simp only [Ad]at h;have h1:=h.2.2;rw [Sf,Pw]at h1;exact(PR (r:=fun a b:Aa=>bl a.ab b.ab) fun a b c p q=>G8 p q).1 h1
theorem uX {t:BE} (h:Fj t=true):DW (fun x:Dr=>x.ax) t.bu:=by
 unfold Fj at h;simp only [Ad]at h;have h1:=h.2;have h2:H2 (t.bu.map (·.ax))=true:=by
  unfold H2;rw [List.length_map,AJ];intro i hi;have h3:=AJ.1 h1 i hi;unfold XN at h3;simp only [Ad]at h3;have IX:i<t.bu.length:=List.mem_range.1 hi;have e: ∀j:Nat,(((t.bu.map (·.ax))[j]?).getD [])=((t.bu[j]?).getD ⟨[],0,0⟩).ax:=by intro j;rw [List.getElem?_map];cases t.bu[j]?<;>rfl
  unfold Hb;rw [e,e];exact h3.2
 rw [Sf,Pw]at h2;exact(PR (r:=fun a b:Dr=>bl a.ax b.ax) fun a b c p q=>G8 p q).1 h2
theorem sR {t:BE} (h:Fj t=true):2≤t.ct.length∧t.ct.length≤4∧t.bu.length≤3:=by unfold Fj at h;simp only [Ad,decide_eq_true_eq]at h;have h1:=Ha.1 h.1.1.2.2;have h2:=h.1.2;omega
def wM (a:EA):Prop:=Small a.db.bp∧Small a.dd.bp
structure zR (t:BE) (a:EA):Prop where
 old:a.ae≠1→gO t a.db
 new:a.ae≠2→gO t a.dd
 kind:a.ae=1∨a.ae=2∨a.ae=3
 same:a.ae=3→EE a.db 0=EE a.dd 0
def JC (t:BE) (a:EA) (x:Dr):Aq:=if a.ae=1 then []else Hi t x.ax x.dh a.db
def JA (t:BE) (a:EA) (x:Dr):Aq:=if a.ae=2 then []else Hi t x.ax x.dh a.dd
theorem Fl {σ α:Type} {body:σ→Option (σ ⊕ Option α)} {s:σ} {o:Option α} (h:body s=some (.inr o)):A5 body s=o:=by rw [Ip,h]
theorem Fk {σ α:Type} {body:σ→Option (σ ⊕ Option α)} {s s':σ} (h:body s=some (.inl s')):A5 body s=A5 body s':=by rw [Ip,h]
abbrev wk (w:Aa):Aq:=w.ab
theorem Sy {α β:Type} {xs:List α} {body:Int→Option (Int ⊕ Option β)} (p:α→Bool) (hit:α→Option β) (fin:Option β)
  (hs: ∀(i:Nat) (hi:i<xs.length),body i=some (if p xs[i]=true then .inr (hit xs[i])else .inl ((i+1:Nat):Int))) (he:body xs.length=some (.inr fin)):
  A5 body 0=match xs.find? p with|some x=>hit x|none=>fin:=by
 have key: ∀n q,q+n=xs.length→A5 body (q:Nat)=match(xs.drop q).find? p with|some x=>hit x|none=>fin:=by
  intro n
  induction n with
  |zero=>
   intro q hq;have:q=xs.length:=by omega
   subst this;rw [List.drop_length];exact Fl he
  |succ n ih=>
   intro q hq;have Am:q<xs.length:=by omega
   rw [List.drop_eq_getElem_cons Am,List.find?_cons];have h1:=hs q Am;cases hp:p xs[q]with
   |true=>rw [hp,if_pos rfl]at h1;exact Fl h1
   |false=>rw [hp,if_neg (by simp)]at h1;rw [Fk h1];exact ih (q+1) (by omega)
 have:=key xs.length 0 (by omega);rw [List.drop_zero]at this;exact this
def L3 (got:List A9) (k:Aq):Aq × Bool × Bool:=match got.find? (fun g=>g.ab==k)with|some g=>(g.al,g.c7,true)|none=>([],false,false)
def El (ws:List Aa) (got:List A9) (k:Aq):Aq × Bool × Bool:=match ws.find? (fun w=>w.ab==k)with|some w=>(w.al, !w.ar,true)|none=>L3 got k
def Fq (rows:List Aa) (k:Aq):A9:=match rows.find? (fun w=>w.ab==k)with|some w=>⟨k,w.al,true⟩|none=>⟨k, [],false⟩
theorem rP {ws:List Aa} {got:List A9} {k:Aq} (hw:ws.length≤2000000) (hg:got.length≤2000000):R2 ws got k=some (El ws got k):=by
 have h2:RJ got k=some (L3 got k):=by
  unfold RJ L3;rw [Sy (xs:=got) (body:=fun s:Int=>MJ got k s) (fun g=>g.ab==k) (fun g=>some (g.al,g.c7,true)) (some ([],false,false)) (fun i hi=>by
   show MJ got k i=_;unfold MJ;rw [if_pos (by simpa using hi),By hi,Ab,C6 hi (by omega)];split<;>rfl) (by
   show MJ got k got.length=_;unfold MJ;rw [if_neg (by simp)])]
  cases got.find? (fun g=>g.ab==k)<;>rfl
 unfold R2 El;rw [Sy (xs:=ws) (body:=fun s:Int=>MH ws got k s) (fun w=>w.ab==k) (fun w=>some (w.al, !w.ar,true)) (RJ got k) (fun i hi=>by
  show MH ws got k i=_;unfold MH;rw [if_pos (by simpa using hi),By hi,Ab,C6 hi (by omega)];split<;>rfl) (by
  show MH ws got k ws.length=_;unfold MH;rw [if_neg (by simp)]),h2]
 cases ws.find? (fun w=>w.ab==k)<;>rfl
theorem vE {rows:List Aa} {k:Aq} (hw:rows.length≤2000000):Sa rows k=some (Fq rows k):=by
 unfold Sa Fq;rw [Sy (xs:=rows) (body:=fun s:Int=>MC rows k s) (fun w=>w.ab==k) (fun w=>some ⟨k,w.al,true⟩) (Y4 k) (fun i hi=>by
  show MC rows k i=_;unfold MC;rw [if_pos (by simpa using hi),By hi,Ab,C6 hi (by omega)];split<;>rfl) (by
  show MC rows k rows.length=_;unfold MC;rw [if_neg (by simp)])]
 cases rows.find? (fun w=>w.ab==k)<;>rfl
theorem SE {α:Type} (lt:α→Bool) (x:α) (l:List α):Bt lt (x::l)=if lt x=true then Bt lt l+1 else 0:=by unfold Bt;rw [List.takeWhile_cons];split<;>rfl
theorem Wx {x:Aa} {l:List Aa} (h:CS (x::l)):(∀y∈l,bl x.ab y.ab=true)∧CS l:=by unfold CS DW at h;rw [List.pairwise_cons]at h;exact h
theorem rI {l:List Aa} {k:Aq} (h: ∀y∈l,bl k y.ab=true):l.find? (fun w=>w.ab==k)=none:=by rw [List.find?_eq_none];intro y hy;have:=GR (h y hy);simpa using fun e=>this e.symm
theorem ZO {k:Aq}: ∀{l:List Aa},CS l→l.find? (fun w=>w.ab==k)=match l[Fs l k]? with|some w=>if w.ab=k then some w else none|none=>none
 | [],_=>by simp
 |x::l,h=>by
  obtain⟨h1,h2⟩:=Wx h;have ih:=ZO (k:=k) h2;rw [Fs,SE,List.find?_cons];by_cases hb:bl x.ab k=true
  ·have A8:(x.ab==k)=false:=by simpa using GR hb
   rw [if_pos hb,A8,List.getElem?_cons_succ];exact ih
  ·rw [if_neg hb,List.getElem?_cons_zero];by_cases he:x.ab=k
   ·rw [show(x.ab==k)=true by simpa using he];simp [he]
   ·rw [show(x.ab==k)=false by simpa using he];simp only [he,if_false];have hk:bl k x.ab=true:=PL (by simpa using hb) he;exact rI fun y hy=>G8 hk (h1 y hy)
theorem eC {l:List Aa} {k:Aq} (hl:l.length≤2000000) (hr:CS l): ∃i:Int,(Ka l k=some (i,true)∧ ∃w,getI l i=some w∧l.find? (fun w=>w.ab==k)=some w)∨(Ka l k=some (i,false)∧l.find? (fun w=>w.ab==k)=none):=by
 refine⟨(Fs l k:Nat), ?_⟩;rw [gK hl hr,ZO hr];by_cases hp:Fs l k<l.length
 ·rw [List.getElem?_eq_getElem hp];by_cases hk:(l[Fs l k]).ab=k
  ·left;simp only [hk,decide_true,if_true];exact⟨trivial,_,By hp,rfl⟩
  ·right;simp only [hk,decide_false,if_false];exact⟨trivial,trivial⟩
 ·rw [List.getElem?_eq_none (by omega)];right;exact⟨rfl,rfl⟩
theorem qQ {ws:List Aa} {got:List A9} {k:Aq} (hw:ws.length≤2000000) (hg:got.length≤2000000) (hr:CS ws):RW k ws got=some (El ws got k):=by
 unfold RW El;obtain⟨i,⟨e,w,e2,e3⟩|⟨e,e3⟩⟩:=eC (k:=k) hw hr
 ·rw [e,e3,Ab,if_pos rfl,e2];rfl
 ·rw [e,e3,Ab,if_neg (by simp)];unfold L3;rw [Sy (xs:=got) (body:=fun s:Int=>MK k got s) (fun g=>g.ab==k) (fun g=>some (g.al,g.c7,true)) (some ([],false,false)) (fun i hi=>by
   show MK k got i=_;unfold MK;rw [if_pos (by simpa using hi),By hi,Ab,C6 hi (by omega)];split<;>rfl) (by
   show MK k got got.length=_;unfold MK;rw [if_neg (by simp)])]
  cases got.find? (fun g=>g.ab==k)<;>rfl
theorem uF {rows:List Aa} {k:Aq} (hw:rows.length≤2000000) (hr:CS rows):R6 rows k=some (Fq rows k):=by
 unfold R6 Fq;obtain⟨i,⟨e,w,e2,e3⟩|⟨e,e3⟩⟩:=eC (k:=k) hw hr
 ·rw [e,e3,Ab,if_neg (by simp),e2];rfl
 ·rw [e,e3,Ab,if_pos (by simp)]
def Dq (k:Aq) (w:Aa):Bool:=bl w.ab k||w.ab==k
def Ku (l:List Aa) (w:Aa) (q:Nat):List Aa:=
 match(if q=0 then none else l[q-1]?)with
 |some y=>if y.ab=w.ab then l.set (q-1) w else l.take q++ [w]++l.drop q
 |none=>l.take q++ [w]++l.drop q
theorem pW {w:Aq} {l:List Aa} (h: ∀y∈l,bl w y.ab=true):Bt (Dq w) l=0:=by
 cases l with
 |nil=>rfl
 |cons y l=>rw [SE,if_neg];have h1:=h y (by simp);have h2:=SJ h1;have h3:=GR h1;unfold Dq;rw [h2];simpa using fun e=>h3 e.symm
theorem cW {w:Aa}: ∀{l:List Aa},CS l→Ku l w (Bt (Dq w.ab) l)=Br wk w l
 | [],_=>by simp [Ku,Br,Bt]
 |x::l,h=>by
  obtain⟨h1,h2⟩:=Wx h;have ih:=cW (w:=w) h2;rw [SE,Br];by_cases ha:bl (wk w) (wk x)=true
  ·have hl:Dq w.ab x=false:=by
    have h3:=SJ ha;have h4:=GR ha;unfold Dq;rw [h3];simpa using fun e=>h4 e.symm
   rw [if_pos ha,hl,if_neg (by simp)];simp [Ku]
  rw [if_neg ha];by_cases he:wk w=wk x
  ·have hl:Dq w.ab x=true:=by unfold Dq;rw [show(x.ab==w.ab)=true by simpa using he.symm];simp
   have hz:Bt (Dq w.ab) l=0:=pW fun y hy=>by rw [show w.ab=x.ab from he];exact h1 y hy
   rw [if_pos he,hl,if_pos rfl,hz];simp [Ku,show x.ab=w.ab from he.symm]
  ·have hb:bl x.ab w.ab=true:=PL (by simpa using ha) he;have hl:Dq w.ab x=true:=by unfold Dq;rw [hb];rfl
   rw [if_neg he,hl,if_pos rfl,←ih];have hle:=M6 (Dq w.ab) l;generalize Bt (Dq w.ab) l=q at hle;unfold Ku;rw [if_neg (by omega),Nat.add_sub_cancel];cases q with
   |zero=>simp only [List.getElem?_cons_zero,if_true];rw [if_neg (fun e=>he e.symm)];simp
   |succ q=>
    rw [if_neg (by omega),Nat.add_sub_cancel,List.getElem?_cons_succ,List.getElem?_eq_getElem (by omega)];simp only;split
    ·simp
    ·simp
theorem eE {w:Aq}: ∀{l:List Aa},CS l→ ∀(j:Nat) (hj:j<l.length),Bt (Dq w) l≤j→Dq w l[j]=false
 | [],_,j,hj,_=>by simp at hj
 |x::l,h,j,hj,hq=>by
  obtain⟨h1,h2⟩:=Wx h;rw [SE]at hq;by_cases hx:Dq w x=true
  ·rw [if_pos hx]at hq;cases j with
   |zero=>omega
   |succ j=>exact eE h2 j (by simpa using hj) (by omega)
  ·have Cp:Dq w x=false:=by simpa using hx
   cases j with
   |zero=>exact Cp
   |succ j=>have hm:l[j]'(by simpa using hj)∈l:=List.getElem_mem _;have h3:=h1 _ hm;show Dq w (l[j]'(by simpa using hj))=false;unfold Dq at Cp ⊢;simp only [Bool.or_eq_false_iff,beq_eq_false_iff_ne]at Cp ⊢;have h4:bl w x.ab=true:=PL Cp.1 Cp.2;have h5:=G8 h4 h3;exact⟨SJ h5,fun e=>GR h5 e.symm⟩
theorem Xx {i:Nat} (h0:0<i) (h:i≤2000000):IntKind.i64.wrap ((i:Int)-1)=((i-1:Nat):Int):=by rw [B0 (by omega) (by omega)];omega
theorem M5 {l:List Aa} {w:Aa} (hl:l.length≤2000000) (hr:CS l):Ke l w=some (Br wk w l):=by
 have hk: ∀q:Nat,q≤l.length→RE l w (q:Int)=some (Ku l w q):=by
  intro q hq;have r1:0≤(q:Int)∧(q:Int)≤(l.length:Int)∧(l.length:Int)≤(l.length:Int):=by omega
  have Mp:(Ca l (q:Int) (l.length:Int))=l.drop q:=by rw [show(l.length:Int)=((l.length:Nat):Int)from rfl,xZ,List.take_length]
  have YD:(Ca l 0 (q:Int))=l.take q:=xV l q;have r2:((([]:List Aa).length:Int)+((l.drop q).length:Int))*40≤140737488355328∧(([]:List Aa).length:Int)+((l.drop q).length:Int)≤140737488355328:=by rw [List.length_nil,List.length_drop];omega
  have r3:0≤(0:Int)∧(0:Int)≤(q:Int)∧(q:Int)≤(l.length:Int):=by omega
  have r4:((([]:List Aa).length:Int)+((l.take q).length:Int))*40≤140737488355328∧(([]:List Aa).length:Int)+((l.take q).length:Int)≤140737488355328:=by rw [List.length_nil,List.length_take];omega
  have r5:(((l.take q).length:Int)+(([w]:List Aa).length:Int))*40≤140737488355328∧((l.take q).length:Int)+(([w]:List Aa).length:Int)≤140737488355328:=by rw [Bm,List.length_take];omega
  have r6:(((l.take q++ [w]).length:Int)+((l.drop q).length:Int))*40≤140737488355328∧((l.take q++ [w]).length:Int)+((l.drop q).length:Int)≤140737488355328:=by rw [AB,Bm,List.length_take,List.length_drop];omega
  have r7:((([]:List Aa).length:Int)+((l).length:Int))*40≤140737488355328∧(([]:List Aa).length:Int)+((l).length:Int)≤140737488355328:=by rw [List.length_nil];omega
  unfold RE Ku;by_cases h0:q=0
  ·subst h0;rw [if_neg (by simp),if_pos rfl];rw [B5 r1,Mp,B5 r2,B5 r3,YD,B5 r4,B5 r5,B5 r6]
  ·have F9:q-1<l.length:=by omega
   rw [if_pos (by simp;omega),if_neg h0,Xx (by omega) (by omega),By F9,Ab,List.getElem?_eq_getElem F9];simp only;by_cases he:(l[q-1]).ab=w.ab
   ·rw [if_pos (by simpa using he),if_pos he,B5 r7,Ab];rfl
   ·rw [if_neg (by simpa using he),if_neg he];rw [B5 r1,Mp,B5 r2,B5 r3,YD,B5 r4,B5 r5,B5 r6]
 have hle:=M6 (Dq w.ab) l;have key: ∀n j:Nat,j=Bt (Dq w.ab) l+n→j≤l.length→A5 (fun s:Int=>Lx l w s) (j:Int)=some (Ku l w (Bt (Dq w.ab) l)):=by
  intro n
  induction n with
  |zero=>
   intro j hj Ut;have Mi:j=Bt (Dq w.ab) l:=by omega
   refine(Fl ?_).trans (hk _ hle);show Lx l w (j:Int)=_;unfold Lx;by_cases h0:j=0
   ·rw [if_neg (by simp [h0]),Mi]
   ·have F9:j-1<l.length:=by omega
    have ht:=Xl (lt:=Dq w.ab) (l:=l) (i:=j-1) (by omega);rw [if_pos (by simp;omega),Xx (by omega) (by omega),By F9,Ab,if_neg,Mi];unfold Dq at ht;have ht:(bl l[j-1].ab w.ab||l[j-1].ab==w.ab)=true:=ht;show¬(!(bl l[j-1].ab w.ab||l[j-1].ab==w.ab))=true;rw [ht];simp
  |succ n ih=>
   intro j hj Ut;have F9:j-1<l.length:=by omega
   have ht:=eE (w:=w.ab) hr (j-1) F9 (by omega);have e:Lx l w (j:Int)=some (.inl ((j-1:Nat):Int)):=by unfold Lx;rw [if_pos (by simp;omega),Xx (by omega) (by omega),By F9,Ab,if_pos];have ht:(bl l[j-1].ab w.ab||l[j-1].ab==w.ab)=false:=ht;show(!(bl l[j-1].ab w.ab||l[j-1].ab==w.ab))=true;rw [ht];rfl
   rw [Fk (body:=fun s:Int=>Lx l w s) e];exact ih (j-1) (by omega) (by omega)
 unfold Ke;rw [key (l.length-Bt (Dq w.ab) l) l.length (by omega) (Nat.le_refl _),cW hr]
structure yB (o:Ap):Prop where
 key:CJ o.ab=true
 val:E9 o.al=true
 mb:o.cd=0
 kind:o.ae=2∨o.ae=3∨o.ae=6∨o.ae=7
 none:o.ae=3∨o.ae=6→o.al= []
theorem WA {s:Aq} (h:E9 s=true):s.length≤24:=by unfold E9 at h;simp only [Ad,decide_eq_true_eq]at h;omega
theorem aR {s:Aq} (h:CJ s=true):s.length≤12:=by unfold CJ at h;simp only [Ad]at h;have:=Ha.1 h.1;omega
structure B1 (n:Nat) (ws:List Aa):Prop where
 bk:CS ws
 len:ws.length≤n
 bm: ∀w∈ws,CF w=true
theorem Gj {n:Nat} {ws:List Aa} {w:Aa} (h:B1 n ws) (hw:CF w=true):B1 (n+1) (Br wk w ws):=by
 refine⟨SB h.bk,Nat.le_trans (dK _) (by have:=h.len;omega),fun y hy=> ?_⟩;rcases(SU (key:=wk) h.bk y).1 hy with rfl|hy
 ·exact hw
 ·exact h.bm y hy.1
theorem WE {w:Aa} (h:CF w=true):w.al.length≤24:=by unfold CF Gq at h;simp only [Ad]at h;exact WA h.2.1
theorem rE {w:Aa} (h:CF w=true):w.ab.length≤12:=by unfold CF at h;simp only [Ad]at h;exact aR h.1
theorem ZS {ws:List Aa} {got:List A9} {k:Aq} (hw: ∀w∈ws,CF w=true) (hg: ∀g∈got,g.al.length≤2000):(El ws got k).1.length≤2000:=by
 unfold El;cases e:ws.find? (fun w=>w.ab==k)with
 |some w=>have:=WE (hw w (List.mem_of_find?_eq_some e));show w.al.length≤2000;omega
 |none=>
  unfold L3;cases e2:got.find? (fun g=>g.ab==k)with
  |some g=>exact hg g (List.mem_of_find?_eq_some e2)
  |none=>simp
def mu (ops:List Ap) (got:List A9):Nat:=(ops.filter fun o=>got.all fun g=>g.ab !=o.ab).length
theorem wD {ops:List Ap} {got:List A9} {g:A9} {o:Ap} (ho:o∈ops) (hk:o.ab=g.ab) (hn: ∀x∈got,x.ab≠o.ab):mu ops (got++ [g])<mu ops got:=by
 unfold mu;have e:(fun o:Ap=>(got++ [g]).all fun x=>x.ab !=o.ab)=fun o=>(got.all fun x=>x.ab !=o.ab)&&(g.ab !=o.ab):=by funext x;rw [List.all_append];simp
 have e2:ops.filter (fun o:Ap=>(got++ [g]).all fun x=>x.ab !=o.ab)=(ops.filter fun o=>got.all fun x=>x.ab !=o.ab).filter fun o=>g.ab !=o.ab:=by rw [e,List.filter_filter];congr 1;funext x;rw [Bool.and_comm]
 rw [e2];have hm:o∈ops.filter fun o=>got.all fun x=>x.ab !=o.ab:=List.mem_filter.2 ⟨ho,AJ.2 fun x hx=>by simpa using hn x hx⟩;generalize ops.filter (fun o=>got.all fun x=>x.ab !=o.ab)=l at hm;have Am: ∀(l:List Ap),o∈l→(l.filter fun o=>g.ab !=o.ab).length<l.length:=by
  intro l
  induction l with
  |nil=>intro h;simp at h
  |cons y l ih=>
   intro h;rw [List.filter_cons];rcases Ae.1 h with rfl|h
   ·rw [if_neg (by simp [hk])];have:=List.length_filter_le (fun o:Ap=>g.ab !=o.ab) l;rw [AD];omega
   ·have:=ih h;split
    ·rw [AD,AD];omega
    ·rw [AD];omega
 exact Am l hm
theorem xB (ops:List Ap) (got:List A9):mu ops got≤ops.length:=List.length_filter_le _ _
structure Hd (rows:List Aa):Prop where
 bk:CS rows
 len:rows.length≤24
 bm: ∀w∈rows,CF w=true
theorem s6 {rows:List Aa} {k:Aq} (h:Hd rows):(Fq rows k).al.length≤2000∧(Fq rows k).ab=k:=by
 unfold Fq;cases e:rows.find? (fun w=>w.ab==k)with
 |some w=>have:=WE (h.bm w (List.mem_of_find?_eq_some e));exact⟨by show w.al.length≤2000;omega,rfl⟩
 |none=>exact⟨by simp,rfl⟩
def FZ (b:UInt8):Bool:=decide (48≤b.toNat)&&decide (b.toNat≤57)
theorem HW {b:UInt8}:FZ b=true↔48≤b.toNat∧b.toNat≤57:=by unfold FZ;simp
def Dx (a:Nat) (l:Aq):Nat:=l.foldl (fun a b=>a*10+(b.toNat-48)) a
theorem aU (a:Nat) (l:Aq) (b:UInt8):Dx a (l++ [b])=Dx a l*10+(b.toNat-48):=by unfold Dx;rw [List.foldl_append];rfl
theorem eL: ∀(l:Aq) (a:Nat),a≤Dx a l
 | [],a=>Nat.le_refl _
 |b::l,a=>by have:=eL l (a*10+(b.toNat-48));show a≤Dx (a*10+(b.toNat-48)) l;omega
theorem eF: ∀(l:Aq) (a:Nat),l.all FZ=true→Dx a l+1≤(a+1)*10^l.length
 | [],a,_=>by simp [Dx]
 |b::l,a,h=>by rw [List.all_cons,Ad,HW]at h;have ih:=eF l (a*10+(b.toNat-48)) h.2;show Dx (a*10+(b.toNat-48)) l+1≤(a+1)*10^(l.length+1);refine Nat.le_trans ih ?_;rw [Nat.pow_succ,Nat.mul_comm (10^l.length) 10,←Nat.mul_assoc];exact Nat.mul_le_mul_right _ (by omega)
def Dw (s:Aq):Bool:= !s.isEmpty&&(s.all FZ&&(s.length==1||s.head? !=some 48))
theorem bQ {t:Aq} {b:UInt8} (ht:t≠ []):Dw (t++ [b])=true↔Dw t=true∧t.head?≠some 48∧FZ b=true:=by
 obtain⟨c,r,rfl⟩:=List.exists_cons_of_ne_nil ht;unfold Dw;simp only [List.cons_append,List.isEmpty_cons,Bool.not_false,Bool.true_and,List.all_cons,List.all_append,List.all_nil,Bool.and_true,AD,AB,List.length_nil,List.head?_cons,Ad,Bool.or_eq_true,beq_iff_eq,bne_iff_ne,ne_eq,Ac];constructor
 ·rintro⟨⟨h1,h2,h3⟩,h4|h4⟩
  ·omega
  ·exact⟨⟨⟨h1,h2⟩, .inr h4⟩,h4,h3⟩
 ·rintro⟨⟨⟨h1,h2⟩,_⟩,h4,h3⟩;exact⟨⟨h1,h2,h3⟩, .inr h4⟩
theorem bY {d:Nat} (h:d<10):(UInt8.ofNat (48+d)).toNat=48+d:=by show(48+d) % 2^8=48+d;omega
theorem eS {b:UInt8} (h:FZ b=true):UInt8.ofNat (48+(b.toNat-48))=b:=by
 rw [HW]at h;apply UInt8.toNat_inj.1;show(48+(b.toNat-48)) % 2^8=b.toNat
 omega
theorem uW {s:Aq} (h:Dw s=true) (h0:s.head?≠some 48):1≤Dx 0 s:=by
 cases s with
 |nil=>simp [Dw]at h
 |cons c r=>
  have hc:FZ c=true:=by unfold Dw at h;simp only [List.all_cons,Ad]at h;exact h.2.1.1
  rw [HW]at hc;have A8:c.toNat≠48:=fun e=>h0 (by rw [List.head?_cons];congr 1;exact UInt8.toNat_inj.1 e);show 1≤Dx (0*10+(c.toNat-48)) r;have:=eL r (0*10+(c.toNat-48));omega
theorem Xc: ∀(n:Nat) (s:Aq),s.length=n→Dw s=true→Lib.decDigits (Dx 0 s)=s
 |0,s,hn,h=>by have:s= []:=List.eq_nil_of_length_eq_zero hn;subst this;simp [Dw]at h
 |n+1,s,hn,h=>by
  have A8:s≠ []:=fun e=>by rw [e]at hn;simp at hn
  have es:=(List.dropLast_concat_getLast A8).symm;generalize s.dropLast=t at es;generalize s.getLast A8=b at es;subst es;have hb:FZ b=true:=by unfold Dw at h;simp only [List.all_append,List.all_cons,List.all_nil,Bool.and_true,Ad]at h;exact h.2.1.2
  have GZ:=HW.1 hb;by_cases ht:t= []
  ·subst ht;rw [List.nil_append];rw [show Dx 0 [b]=b.toNat-48 from by simp [Dx],Lib.decDigits,dif_pos (by omega),eS hb]
  ·obtain⟨h1,h2,_⟩:=(bQ ht).1 h;have hp:=uW h1 h2;rw [aU,Lib.decDigits,dif_neg (by omega),show(Dx 0 t*10+(b.toNat-48))/10=Dx 0 t by omega,show(Dx 0 t*10+(b.toNat-48)) % 10=b.toNat-48 by omega,Xc n t (by simpa using hn) h1,eS hb]
theorem Qc (u:Nat):Dw (Lib.decDigits u)=true∧Dx 0 (Lib.decDigits u)=u∧(1≤u→(Lib.decDigits u).head?≠some 48):=by
 induction u using Nat.strongRecOn with
 |_ u ih=>
  by_cases h:u<10
  ·rw [Lib.decDigits,dif_pos h];have e:=bY h;have hd:FZ (UInt8.ofNat (48+u))=true:=HW.2 (by omega);refine⟨?_, ?_,fun h1 hc=> ?_⟩
   ·unfold Dw;simp only [List.isEmpty_cons,Bool.not_false,Bool.true_and,List.all_cons,List.all_nil,Bool.and_true,hd,Bm,beq_self_eq_true,Bool.true_or]
   ·show 0*10+((UInt8.ofNat (48+u)).toNat-48)=u;omega
   ·rw [List.head?_cons]at hc;have:=congrArg UInt8.toNat (Option.some.inj hc)
    rw [e]at this;have:48+u=48:=this;omega
  ·rw [Lib.decDigits,dif_neg h];obtain⟨i1,i2,i3⟩:=ih (u/10) (by omega);have hd:u % 10<10:=Nat.mod_lt _ (by omega);have e:=bY hd;have A8:Lib.decDigits (u/10)≠ []:=fun e=>by rw [e]at i1;simp [Dw]at i1
   have JE:=i3 (by omega);have Oq:(Lib.decDigits (u/10)++ [UInt8.ofNat (48+u % 10)]).head?=(Lib.decDigits (u/10)).head?:=by obtain⟨c,r,hc⟩:=List.exists_cons_of_ne_nil A8;rw [hc];rfl
   refine⟨(bQ A8).2 ⟨i1,JE,HW.2 (by omega)⟩, ?_,fun _=>by rw [Oq];exact JE⟩;rw [aU,i2,e];omega
theorem P8 {u:Nat} (h:u<1000000):(Lib.decDigits u).length≤6∧1≤(Lib.decDigits u).length:=by
 have key: ∀(k u:Nat),u<10^(k+1)→(Lib.decDigits u).length≤k+1:=by
  intro k
  induction k with
  |zero=>intro u hu;rw [Lib.decDigits,dif_pos (by simpa using hu)];simp
  |succ k ih=>
   intro u hu;by_cases h:u<10
   ·rw [Lib.decDigits,dif_pos h];simp
   ·rw [Lib.decDigits,dif_neg h,AB,Bm];have:=ih (u/10) (by rw [Nat.pow_succ]at hu;omega);omega
 refine⟨key 5 u (by simpa using h), ?_⟩;have:=(Qc u).1;unfold Dw at this;cases hd:Lib.decDigits u with
 |nil=>rw [hd]at this;simp at this
 |cons c r=>simp
theorem Zv: ∀(l:Aq) (a:Nat),l.all FZ=true→(a+1)*10^l.length≤1000000000000000000→Lib.parseUint10 a l= .ok (Dx a l)
 | [],a,_,_=>rfl
 |b::l,a,h,hl=>by
  rw [List.all_cons,Ad,HW]at h;have EG:(a*10+(b.toNat-48)+1)*10^l.length≤1000000000000000000:=by refine Nat.le_trans ?_ hl;rw [AD,Nat.pow_succ,Nat.mul_comm (10^l.length) 10,←Nat.mul_assoc];exact Nat.mul_le_mul_right _ (by omega)
  have hp:1≤10^l.length:=Nat.one_le_pow _ _ (by decide);have hb:a*10+(b.toNat-48)+1≤1000000000000000000:=by refine Nat.le_trans ?_ EG;exact Nat.le_mul_of_pos_right _ hp
  rw [Lib.parseUint10,if_pos h.1,if_neg (by omega),if_neg (by omega)];exact Zv l _ h.2 EG
theorem eA {u:Nat} (h:u<1000000):Lib.parseMag (Lib.decDigits u)= .ok u:=by
 obtain⟨d1,d2,_⟩:=Qc u;have hl:=(P8 h).1;have B2:(Lib.decDigits u).all FZ=true:=by unfold Dw at d1;simp only [Ad]at d1;exact d1.2.1
 have A8:Lib.decDigits u≠ []:=fun e=>by rw [e]at d1;simp [Dw]at d1
 unfold Lib.parseMag;rw [if_neg A8,Zv _ 0 B2,d2];have:10^(Lib.decDigits u).length≤10^6:=Nat.pow_le_pow_right (by decide) hl;rw [Nat.zero_add,Nat.one_mul];exact Nat.le_trans this (by decide)
theorem bP {u:Nat}: ∃c r,Lib.decDigits u=c::r∧48≤c.toNat∧c.toNat≤57:=by
 have d1:=(Qc u).1;cases hd:Lib.decDigits u with
 |nil=>rw [hd]at d1;simp [Dw]at d1
 |cons c r=>rw [hd]at d1;unfold Dw at d1;simp only [List.all_cons,Ad]at d1;exact⟨c,r,rfl,HW.1 d1.2.1.1⟩
theorem sC {n:Int} (h0: -1000000<n) (h1:n<1000000):Lib.atoiAll (Lib.itoa n)= .ok n:=by
 by_cases h:n<0
 ·have e:Lib.itoa n=45::Lib.decDigits n.natAbs:=by unfold Lib.itoa;rw [if_pos h]
  rw [e,Lib.atoiAll_minus,eA (by omega)];unfold Lib.signed;dsimp only;rw [if_neg (by omega)];congr 1;omega
 ·have e:Lib.itoa n=Lib.decDigits n.toNat:=by unfold Lib.itoa;rw [if_neg h]
  obtain⟨c,r,ec,c0,c1⟩:=bP (u:=n.toNat);have hm:=eA (u:=n.toNat) (by omega);rw [e];rw [ec]at hm ⊢;rw [Lib.atoiAll_plain c r (by omega) (by omega),hm];unfold Lib.signless;dsimp only;rw [if_neg (by omega)];congr 1;omega
def Ch (s:Aq):Int:=if(Dp s.length 1 6&&Dw s)=true then(Dx 0 s:Int)else-1
theorem cN (s:Aq): -1≤Ch s:=by unfold Ch;split<;>omega
theorem cQ {s:Aq} (h:s.length≤2000000):Pu s=some (Ch s):=by
 unfold Pu Ch;rw [Te,Ab];cases hb:Dp s.length 1 6 with
 |false=>rfl
 |true=>
  have h1:=Ha.1 hb;cases s with
  |nil=>simp at h1
  |cons c r=>
   rw [if_pos rfl,show getI (c::r) 0=some c from rfl,Ab,Bool.true_and];by_cases JE:(((c.toNat:Int)==48)&&decide (((c::r).length:Int)>1))=true
   ·rw [if_pos JE,if_neg];simp only [Ad,beq_iff_eq,decide_eq_true_eq]at JE;unfold Dw;have hc:c=48:=UInt8.toNat_inj.1 (by have:(48:UInt8).toNat=48:=rfl;omega);have hl: ¬(c::r).length=1:=by omega
    rw [beq_eq_false_iff_ne.2 hl,hc];simp
   ·rw [if_neg JE];have UL:Dw (c::r)=(c::r).all FZ:=by
     unfold Dw;have:((c::r).length==1||(c::r).head? !=some 48)=true:=by
      simp only [Ad,beq_iff_eq,decide_eq_true_eq]at JE;rw [Bool.or_eq_true];by_cases hl:(c::r).length=1
      ·exact .inl (by simpa using hl)
      ·right;rw [List.head?_cons,bne_iff_ne];intro e;have:=congrArg UInt8.toNat (Option.some.inj e)
       have h2:(48:UInt8).toNat=48:=rfl;apply JE;simp only [AD]at hl ⊢;exact⟨by omega,by omega⟩
     rw [this];simp
    rw [UL];generalize hS:c::r=s at h h1 hb;have key: ∀(n q v:Nat),q+n=s.length→v<10^q→A5 (fun s_:Int × Int=>J9 s s_.1 s_.2) ((v:Int),(q:Int))=some (if(s.drop q).all FZ=true then(Dx v (s.drop q):Int)else-1):=by
     intro n
     induction n with
     |zero=>intro q v hq _;rw [List.drop_eq_nil_of_le (show s.length≤q by omega)];refine Fl ?_;show J9 s v q=_;unfold J9;rw [if_neg (by rw [decide_eq_true_eq];omega)];rfl
     |succ n ih=>
      intro q v hq hv;have Am:q<s.length:=by omega
      rw [List.drop_eq_getElem_cons Am,List.all_cons];by_cases hd:FZ s[q]=true
      ·have QU:=HW.1 hd;have O1:v<1000000:=Nat.lt_of_lt_of_le hv (by
        have:10^q≤10^6:=Nat.pow_le_pow_right (by decide) (by omega);exact Nat.le_trans this (by decide))
       have w1:IntKind.i64.wrap ((10:Int)*v)=10*v:=B0 (by omega) (by omega);have w2:IntKind.u8.wrap (((s[q]).toNat:Int)-48)=((s[q]).toNat:Int)-48:=by show(((s[q]).toNat:Int)-48) % 256=_;omega
       have w3:IntKind.i64.wrap (((s[q]).toNat:Int)-48)=((s[q]).toNat:Int)-48:=B0 (by omega) (by omega);have w4:IntKind.i64.wrap ((10:Int)*v+(((s[q]).toNat:Int)-48))=((v*10+((s[q]).toNat-48):Nat):Int):=by rw [B0 (by omega) (by omega)];omega
       rw [hd,Bool.true_and];refine(Fk (?_:J9 s v q=some (.inl (((v*10+((s[q]).toNat-48):Nat):Int),((q+1:Nat):Int))))).trans (ih (q+1) _ (by omega) (by rw [Nat.pow_succ];omega));unfold J9;rw [if_pos (decide_eq_true (by omega)),By Am,Ab,if_neg (by simp;omega),w1,w2,w3,w4,C6 Am (by omega)]
      ·rw [Bool.eq_false_iff.2 hd,Bool.false_and,if_neg (by simp)];refine Fl ?_;show J9 s v q=_;unfold J9;rw [if_pos (decide_eq_true (by omega)),By Am,Ab,if_pos (by rw [Bool.or_eq_true,decide_eq_true_eq,decide_eq_true_eq];have QU:=fun h=>hd (HW.2 h);apply Classical.byContradiction;intro hc;rw [not_or]at hc;exact QU ⟨by omega,by omega⟩)]
    have:=key s.length 0 0 (by omega) (by simp);rw [List.drop_zero]at this;exact this
def Bu (s:Aq):Int × Bool:=if s.head?=some 45 then(if Ch s.tail<1 then(0,false)else(-Ch s.tail,true))else(if Ch s<0 then(0,false)else(Ch s,true))
theorem WQ (s:Aq):Ch s<1000000:=by
 unfold Ch;split
 ·rename_i h;rw [Ad]at h;have h1:=Ha.1 h.1;have B2:s.all FZ=true:=by
   have:=h.2;unfold Dw at this;simp only [Ad]at this;exact this.2.1
  have:=eF s 0 B2;have hp:10^s.length≤10^6:=Nat.pow_le_pow_right (by decide) (by omega);have:Dx 0 s+1≤1000000:=by refine Nat.le_trans this ?_;rw [Nat.zero_add,Nat.one_mul];exact Nat.le_trans hp (by decide)
  omega
 ·omega
theorem fA {s:Aq} (h:s.length≤2000000):PD s=some (Bu s):=by
 have j1: ∀(y:UInt8) (v:Aq),v.length≤2000000→RV y v=some (if((decide (Ch v<0))||(((y.toNat:Int)==45)&&(Ch v==0)))=true then(0,false)else if((y.toNat:Int)==45)=true then(-Ch v,true)else(Ch v,true)):=fun y v hv=>by
  have g1:=cN v;have g2:=WQ v;unfold RV;rw [cQ hv,Ab,B0 (n:=0-Ch v) (by omega) (by omega),Int.zero_sub];split
  ·rfl
  ·split<;>rfl
 unfold PD Bu;cases s with
 |nil=>rw [if_neg (by simp)];unfold Y1;rw [cQ (by simp),Ab];rfl
 |cons c r=>
  have hl:(c::r).length=r.length+1:=rfl;have hN:(if(c::r).head?=some 45 then(if Ch (c::r).tail<1 then((0:Int),false)else(-Ch (c::r).tail,true))else(if Ch (c::r)<0 then(0,false)else(Ch (c::r),true)))=if c=45 then(if Ch r<1 then((0:Int),false)else(-Ch r,true))else(if Ch (c::r)<0 then(0,false)else(Ch (c::r),true)):=by
   rw [List.head?_cons,List.tail_cons];by_cases h:c=45
   ·rw [if_pos (by rw [h]),if_pos h]
   ·rw [if_neg (fun e=>h (Option.some.inj e)),if_neg h]
  rw [hN,if_pos (by simp),show getI (c::r) 0=some c from rfl,Ab];by_cases hc:c=45
  ·subst hc;have g1:=cN r;have e45:(((45:UInt8).toNat:Int)==45)=true:=rfl;rw [if_pos e45,B5 (by omega),j1 _ _ (by rw [gG,List.length_tail];omega),gG,List.tail_cons,e45,Bool.true_and];by_cases hz:Ch r<1
   ·have hb:(decide (Ch r<0)||(Ch r==0))=true:=by rw [Bool.or_eq_true,decide_eq_true_eq,beq_iff_eq];omega
    rw [hb];simp [hz]
   ·have hb:(decide (Ch r<0)||(Ch r==0))=false:=by
     rw [Bool.or_eq_false_iff,decide_eq_false_iff_not,beq_eq_false_iff_ne];exact⟨by omega,by omega⟩
    rw [hb];simp [hz]
  ·have e45:((c.toNat:Int)==45)=false:=by
    rw [beq_eq_false_iff_ne];intro e;exact hc (UInt8.toNat_inj.1 (by have:(45:UInt8).toNat=45:=rfl;omega))
   rw [if_neg (by rw [e45];simp),j1 _ _ (by omega),e45,Bool.false_and,Bool.or_false,if_neg hc];by_cases hz:Ch (c::r)<0
   ·rw [if_pos hz,if_pos (decide_eq_true hz)]
   ·rw [if_neg hz,if_neg (by simpa using hz),if_neg (by simp)]
theorem aO {u:Nat} (h:u<1000000):Ch (Lib.decDigits u)=u:=by obtain⟨d1,d2,_⟩:=Qc u;obtain⟨l1,l2⟩:=P8 h;unfold Ch;rw [Ha.2 ⟨by omega,by omega⟩,d1,if_pos (by rfl),d2]
theorem rY {n:Int} (h0: -1000000<n) (h1:n<1000000):Bu (Lib.itoa n)=(n,true):=by
 unfold Bu;by_cases h:n<0
 ·have e:Lib.itoa n=45::Lib.decDigits n.natAbs:=by unfold Lib.itoa;rw [if_pos h]
  rw [e,List.head?_cons,if_pos rfl,List.tail_cons,aO (by omega),if_neg (by omega)];congr 1;omega
 ·have e:Lib.itoa n=Lib.decDigits n.toNat:=by unfold Lib.itoa;rw [if_neg h]
  obtain⟨c,r,ec,c0,c1⟩:=bP (u:=n.toNat);have hd:=aO (u:=n.toNat) (by omega);rw [e];rw [if_neg,hd,if_neg (by omega)]
  ·congr 1;omega
  ·rw [ec,List.head?_cons];intro hc;have:=congrArg UInt8.toNat (Option.some.inj hc)
   have h2:(45:UInt8).toNat=45:=rfl;omega
theorem bE {s:Aq} (h:0≤Ch s):Dw s=true∧Ch s=Dx 0 s:=by
 unfold Ch at h ⊢;split at h
 ·rename_i hc;rw [if_pos hc];rw [Ad]at hc;exact⟨hc.2,rfl⟩
 ·omega
theorem Wv {s:Aq} (h:(Bu s).2=true):s=Lib.itoa (Bu s).1∧ -1000000<(Bu s).1∧(Bu s).1<1000000:=by
 unfold Bu at h ⊢;split at h
 ·rename_i Ie;split at h
  ·cases h
  ·rename_i hz;rw [if_pos Ie,if_neg hz];dsimp only;obtain⟨n1,n2⟩:=bE (s:=s.tail) (by omega);have Am:=WQ s.tail;refine⟨?_,by omega,by omega⟩;unfold Lib.itoa;rw [if_pos (by omega)];have e:(-Ch s.tail).natAbs=Dx 0 s.tail:=by omega
   rw [e,Xc _ _ rfl n1];cases s with
   |nil=>simp at Ie
   |cons c r=>rw [List.head?_cons]at Ie;rw [List.tail_cons,Option.some.inj Ie]
 ·rename_i Ie;split at h
  ·cases h
  ·rename_i hz;rw [if_neg Ie,if_neg hz];dsimp only;obtain⟨n1,n2⟩:=bE (s:=s) (by omega);have Am:=WQ s;refine⟨?_,by omega,by omega⟩;unfold Lib.itoa;rw [if_neg (by omega)];have e:(Ch s).toNat=Dx 0 s:=by omega
   rw [e,Xc _ _ rfl n1]
theorem sF {s:Aq} {lo hi:Int} (h0: -1000000<lo) (h1:hi<1000000):H5 s lo hi=if(Bu s).2=true∧lo≤(Bu s).1∧(Bu s).1≤hi then Bu s else(0,false):=by
 by_cases h:(Bu s).2=true
 ·obtain⟨e,b0,b1⟩:=Wv h;have ha:=sC b0 b1;rw [←e]at ha;unfold H5;rw [ha];dsimp only;by_cases hb:lo≤(Bu s).1∧(Bu s).1≤hi
  ·rw [if_pos ⟨hb.1,hb.2,e.symm⟩,if_pos ⟨h,hb⟩];rw [←h]
  ·rw [if_neg (fun q=>hb ⟨q.1,q.2.1⟩),if_neg (fun q=>hb q.2)]
 ·rw [if_neg (fun q=>h q.1)];unfold H5;split
  ·rename_i n hn;split
   ·rename_i hq;exfalso;apply h;rw [←hq.2.2,rY (by omega) (by omega)]
   ·rfl
  ·rfl
theorem Wt: ∀(k f u:Nat),u<10^(k+1)→k<f→u<4611686018427387904→Lr f u=some (Lib.decDigits u)
 |k,0,u,_,h,_=>by omega
 |k,f+1,u,hu,hf,hb=>by
  rw [Lr];by_cases h:u<10
  ·rw [if_pos (decide_eq_true (by omega)),B5 (by simp),Lib.decDigits,dif_pos h];have w1:IntKind.i64.wrap ((48:Int)+u)=48+u:=B0 (by omega) (by omega);have w2:IntKind.u8.wrap ((48:Int)+u)=48+u:=by
    show((48:Int)+u) % 256=_;omega
   rw [w1,w2];have:((48:Int)+u).toNat=48+u:=by omega
   rw [List.map_cons,List.map_nil,this]
  ·have w0:IntKind.i64.wrap (Int.tdiv (u:Int) 10)=((u/10:Nat):Int):=by
    rw [show Int.tdiv (u:Int) 10=((u/10:Nat):Int)from rfl,B0 (by omega) (by omega)]
   have w1:IntKind.i64.wrap ((48:Int)+Int.tmod (u:Int) 10)=((48+u % 10:Nat):Int):=by rw [show Int.tmod (u:Int) 10=((u % 10:Nat):Int)from rfl,B0 (by omega) (by omega)];omega
   have w2:IntKind.u8.wrap ((48+u % 10:Nat):Int)=((48+u % 10:Nat):Int):=by show((48+u % 10:Nat):Int) % 256=_;omega
   obtain⟨k,rfl⟩: ∃j,k=j+1:=⟨k-1,by
    cases k with
    |zero=>simp at hu;omega
    |succ k=>rfl⟩
   have ih:=Wt k f (u/10) (by rw [Nat.pow_succ]at hu;omega) (by omega) (by omega);have hlen:(Lib.decDigits (u/10)).length≤100:=by
    have key: ∀(k u:Nat),u<10^(k+1)→(Lib.decDigits u).length≤k+1:=by
     intro k
     induction k with
     |zero=>intro u hu;rw [Lib.decDigits,dif_pos (by simpa using hu)];simp
     |succ k ih=>
      intro u hu;by_cases h:u<10
      ·rw [Lib.decDigits,dif_pos h];simp
      ·rw [Lib.decDigits,dif_neg h,AB,Bm];have:=ih (u/10) (by rw [Nat.pow_succ]at hu;omega);omega
    have:=key 19 (u/10) (Nat.lt_of_lt_of_le (show u/10<4611686018427387904 by omega) (by decide));omega
   rw [if_neg (by simp;omega),w0,ih,Ab,w1,w2,B5 (by simp),B5 (by simp;omega)]
   conv=>rhs;rw [Lib.decDigits,dif_neg h]
   rw [List.map_cons,List.map_nil,Int.toNat_natCast]
theorem dQ {n:Int} (h0: -2000000≤n) (h1:n≤2000000):Pt n=some (Lib.itoa n):=by
 have hf:=s5;unfold Pt R8 Lib.itoa;by_cases h:n<0
 ·have e:IntKind.i64.wrap (0-n)=((n.natAbs:Nat):Int):=by rw [B0 (by omega) (by omega)];omega
  have hd:=Wt 6 QC n.natAbs (by omega) (by omega) (by omega);have hl:(Lib.decDigits n.natAbs).length≤100:=by
   by_cases hs:n.natAbs<1000000
   ·have:=(P8 hs).1;omega
   ·rw [Lib.decDigits,dif_neg (by omega),AB,Bm];have:=(P8 (u:=n.natAbs/10) (by omega)).1;omega
  rw [if_pos (decide_eq_true h),if_pos h,e,hd,Ab,B5 (by simp;omega)];rfl
 ·have e:n=((n.toNat:Nat):Int):=by omega
  have hd:=Wt 6 QC n.toNat (by omega) (by omega) (by omega)
  rw [if_neg (by simpa using h),if_neg h]
  conv=>lhs;rw [e]
  rw [hd];rfl
theorem s4 {n:Int} (h0: -1000000<n) (h1:n<1000000):E9 (Lib.itoa n)=true:=by
 have dig: ∀u:Nat,u<1000000→(Lib.decDigits u).length≤6∧ ∀b∈Lib.decDigits u,(D6 b||([46,45,44,95]:Aq).contains b)=true:=fun u hu=>⟨(P8 hu).1,fun b hb=>by
  have:=(Qc u).1;unfold Dw at this;simp only [Ad]at this;have hd:=HW.1 (AJ.1 this.2.1 b hb);have:D6 b=true:=by unfold D6;rw [Bool.or_eq_true];right;rw [Ad,decide_eq_true_eq,decide_eq_true_eq];omega
  rw [this];rfl⟩
 unfold E9 Jg;rw [Ad,decide_eq_true_eq,AJ];unfold Lib.itoa;split
 ·obtain⟨d1,d2⟩:=dig n.natAbs (by omega);refine⟨by rw [AD];omega,fun b hb=> ?_⟩;rcases Ae.1 hb with rfl|hb
  ·decide
  ·exact d2 b hb
 ·obtain⟨d1,d2⟩:=dig n.toNat (by omega)
  exact⟨by omega,d2⟩
theorem bJ {s:Aq} (h:(Bu s).2=false):Bu s=(0,false):=by
 unfold Bu at h ⊢;split
 ·rename_i Ie;rw [if_pos Ie]at h;split
  ·rfl
  ·rename_i hz;rw [if_neg hz]at h;cases h
 ·rename_i Ie;rw [if_neg Ie]at h;split
  ·rfl
  ·rename_i hz;rw [if_neg hz]at h;cases h
theorem cH {s:Aq} (h:s.length≤2000000):Pk s=some (Bu s):=by
 unfold Pk RP;rw [B5 (by omega),sF (by omega) (by omega),Ab];cases hn:(Bu s).2 with
 |false=>rw [if_neg (by simp),bJ hn]
 |true=>obtain⟨_,b0,b1⟩:=Wv hn;rw [if_pos ⟨rfl,by omega,by omega⟩]
structure F0 (o:Ap):Prop where
 key:CJ o.ab=true
 val:E9 o.al=true
 lj: -9999≤o.cd
 ll:o.cd≤9999
def FQ (o:Ap) (val:Aq) (there:Bool):Bool:=
 if o.ae=4 then !there||((Bu val).2&&Dp ((Bu val).1+o.cd) (-999999) 999999)else
 if o.ae=5 then(there&&(Bu val).2)&&decide ((Bu val).1≥o.cd)else
 if o.ae=6 then !there else if o.ae=7 then there&&val==o.al else true
theorem aI (s:Aq): -1000000<(Bu s).1∧(Bu s).1<1000000:=by
 cases h:(Bu s).2 with
 |true=>exact(Wv h).2
 |false=>rw [bJ h];exact⟨by decide,by decide⟩
theorem tD {o:Ap} (h:F0 o) {val:Aq} {there:Bool} (hv:val.length≤2000):RB o val there=some (FQ o val there):=by
 obtain⟨r0,r1⟩:=aI val;have b0:=h.lj;have b1:=h.ll;unfold RB FQ;rw [cH (by omega),Ab,B0 (n:=(Bu val).1+o.cd) (by omega) (by omega),SI];by_cases k4:o.ae=4
 ·rw [if_pos (by simpa using k4),if_pos k4];cases(Bu val).2<;>cases there<;>rfl
 rw [if_neg (by simpa using k4),if_neg k4];by_cases k5:o.ae=5
 ·rw [if_pos (by simpa using k5),if_pos k5]
 rw [if_neg (by simpa using k5),if_neg k5];by_cases k6:o.ae=6
 ·rw [if_pos (by simpa using k6),if_pos k6]
 rw [if_neg (by simpa using k6),if_neg k6];by_cases k7:o.ae=7
 ·rw [if_pos (by simpa using k7),if_pos k7]
 rw [if_neg (by simpa using k7),if_neg k7]
theorem rF {o:Ap} (h:F0 o) {val:Aq} {there:Bool} (hv:val.length≤2000):RQ o val there=some (!FQ o val there):=by
 obtain⟨r0,r1⟩:=aI val;have b0:=h.lj;have b1:=h.ll;unfold RQ FQ;rw [fA (by omega),Ab,B0 (n:=(Bu val).1+o.cd) (by omega) (by omega),Te];by_cases k4:o.ae=4
 ·rw [if_pos (by simpa using k4),if_pos k4];cases(Bu val).2<;>cases there<;>simp
 rw [if_neg (by simpa using k4),if_neg k4];by_cases k5:o.ae=5
 ·rw [if_pos (by simpa using k5),if_pos k5];have e:decide ((Bu val).1<o.cd)= !decide ((Bu val).1≥o.cd):=by
   rw [←decide_not];exact decide_eq_decide.2 (by omega)
  rw [e];cases(Bu val).2<;>cases there<;>cases decide ((Bu val).1≥o.cd)<;>rfl
 rw [if_neg (by simpa using k5),if_neg k5];by_cases k6:o.ae=6
 ·rw [if_pos (by simpa using k6),if_pos k6,Bool.not_not]
 rw [if_neg (by simpa using k6),if_neg k6];by_cases k7:o.ae=7
 ·rw [if_pos (by simpa using k7),if_pos k7];cases there<;>simp [bne]
 rw [if_neg (by simpa using k7),if_neg k7];rfl
def CT (got:List A9):List Ap→List Aa→Int × Aq × List Aa
 | [],ws=>(3, [],ws)
 |o::l,ws=>
  if o.ae=2 then CT got l (Br wk ⟨o.ab,o.al,false⟩ ws)else
  if o.ae=3 then CT got l (Br wk ⟨o.ab, [],true⟩ ws)else
  if(El ws got o.ab).2.2=true then(if FQ o (El ws got o.ab).1 (El ws got o.ab).2.1=true then(if o.ae=4 then CT got l (Br wk ⟨o.ab,Lib.itoa ((Bu (El ws got o.ab).1).1+o.cd),false⟩ ws)else CT got l ws)else(2, [], []))
  else(1,o.ab, [])
def L0 (got:List A9):Prop:= ∀g∈got,g.al.length≤2000∧(g.c7=false→g.al= [])
theorem Wh {ws:List Aa} {got:List A9} {k:Aq} (hw: ∀w∈ws,CF w=true) (hg:L0 got) (h:(El ws got k).2.1=false):(El ws got k).1= []:=by
 unfold El at h ⊢;cases e:ws.find? (fun w=>w.ab==k)with
 |some w=>
  rw [e]at h;have KP:=hw w (List.mem_of_find?_eq_some e);unfold CF Gq at KP;simp only [Ad,Bool.or_eq_true,Bool.not_eq_true',beq_iff_eq]at KP;simp only [Bool.not_eq_false']at h;rcases KP.2.2 with q|q
  ·rw [h]at q;cases q
  ·exact q
 |none=>
  rw [e]at h;unfold L3 at h ⊢;cases e2:got.find? (fun g=>g.ab==k)with
  |some g=>rw [e2]at h;exact(hg g (List.mem_of_find?_eq_some e2)).2 h
  |none=>rfl
theorem XZ {o:Ap} {val:Aq} {there:Bool} (h:F0 o) (h4:o.ae=4) (hn:there=false→val= []) (hk:FQ o val there=true):CF ⟨o.ab,Lib.itoa ((Bu val).1+o.cd),false⟩=true:=by
 have b0:=h.lj;have b1:=h.ll;have hr: -1000000<(Bu val).1+o.cd∧(Bu val).1+o.cd<1000000:=by
  unfold FQ at hk;rw [if_pos h4]at hk;cases there with
  |false=>
   have:Bu val=(0,false):=by rw [hn rfl];rfl
   rw [this];exact⟨by dsimp only;omega,by dsimp only;omega⟩
  |true=>simp only [Bool.not_true,Bool.false_or,Ad]at hk;have:=Ha.1 hk.2;omega
 unfold CF Gq;rw [h.key,s4 hr.1 hr.2];rfl
theorem Z7 {o:Ap} {val:Aq} {there:Bool} (h:F0 o) (h4:o.ae=4) (hn:there=false→val= []) (hk:FQ o val there=true): -1000000<(Bu val).1+o.cd∧(Bu val).1+o.cd<1000000:=by
 have b0:=h.lj;have b1:=h.ll;unfold FQ at hk;rw [if_pos h4]at hk;cases there with
 |false=>
  have:Bu val=(0,false):=by rw [hn rfl];rfl
  rw [this];exact⟨by dsimp only;omega,by dsimp only;omega⟩
 |true=>simp only [Bool.not_true,Bool.false_or,Ad]at hk;have:=Ha.1 hk.2;omega
theorem Wc {o:Ap} (h:F0 o):CF ⟨o.ab,o.al,false⟩=true:=by unfold CF Gq;simp [h.key,h.val]
theorem V2 {o:Ap} (h:F0 o):CF ⟨o.ab, [],true⟩=true:=by unfold CF Gq;rw [h.key];rfl
theorem tY {ops:List Ap} {got:List A9} (hl:ops.length≤1000) (ho: ∀o∈ops,F0 o) (hg:got.length≤2000) (hv:L0 got):VA ops got=some (CT got ops []):=by
 have key: ∀(n q:Nat) (ws:List Aa),q+n=ops.length→B1 q ws→A5 (fun s:Int × List Aa=>Ei ops got s.1 s.2) ((q:Int),ws)=some (CT got (ops.drop q) ws):=by
  intro n
  induction n with
  |zero=>intro q ws hq hw;rw [List.drop_eq_nil_of_le (by omega),CT];refine Fl ?_;show Ei ops got q ws=_;unfold Ei;rw [if_neg (by simp;omega)]
  |succ n ih=>
   intro q ws hq hw;have Am:q<ops.length:=by omega
   have Au:=ho _ (List.getElem_mem Am);have Lg:=hw.len;have Ih:=C6 Am (by omega);rw [List.drop_eq_getElem_cons Am,CT];by_cases h2:(ops[q]).ae=2
   ·rw [if_pos h2];have e:Ei ops got q ws=some (.inl (((q+1:Nat):Int),Br wk ⟨(ops[q]).ab,(ops[q]).al,false⟩ ws)):=by
     unfold Ei;rw [if_pos (by simpa using Am),By Am,Ab,if_pos (by simpa using h2),PG (by omega) hw.bk,Ab,Ih]
    rw [Fk (body:=fun s:Int × List Aa=>Ei ops got s.1 s.2) e];exact ih (q+1) _ (by omega) (Gj hw (Wc Au))
   rw [if_neg h2];by_cases h3:(ops[q]).ae=3
   ·rw [if_pos h3];have e:Ei ops got q ws=some (.inl (((q+1:Nat):Int),Br wk ⟨(ops[q]).ab, [],true⟩ ws)):=by
     unfold Ei;rw [if_pos (by simpa using Am),By Am,Ab,if_neg (by simpa using h2),if_pos (by simpa using h3),PG (by omega) hw.bk,Ab,Ih]
    rw [Fk (body:=fun s:Int × List Aa=>Ei ops got s.1 s.2) e];exact ih (q+1) _ (by omega) (Gj hw (V2 Au))
   rw [if_neg h3];have B7:=ZS (k:=(ops[q]).ab) hw.bm fun g hg=>(hv g hg).1;have J1:(El ws got (ops[q]).ab).2.1=false→(El ws got (ops[q]).ab).1= []:=fun h=>Wh (k:=(ops[q]).ab) hw.bm hv h;have FB:=qQ (k:=(ops[q]).ab) (ws:=ws) (got:=got) (by omega) (by omega) hw.bk;generalize El ws got (ops[q]).ab=sd at B7 J1 FB;have hd:decide ((q:Int)<(ops.length:Int))=true:=decide_eq_true (by omega);have k2:((ops[q]).ae==2)=false:=by simpa using h2
   have k3:((ops[q]).ae==3)=false:=by simpa using h3
   have Ul:=tD Au (val:=sd.1) (there:=sd.2.1) B7;by_cases hs:sd.2.2=true
   ·rw [if_pos hs];by_cases hk:FQ ops[q] sd.1 sd.2.1=true
    ·rw [if_pos hk];by_cases h4:(ops[q]).ae=4
     ·rw [if_pos h4];have hr:=Z7 Au h4 J1 hk;have e:Ei ops got q ws=some (.inl (((q+1:Nat):Int),Br wk ⟨(ops[q]).ab,Lib.itoa ((Bu sd.1).1+(ops[q]).cd),false⟩ ws)):=by
       unfold Ei RY;simp only [hd,if_true,By Am,Ab,k2,k3,AY,if_false,FB,hs,Ul,hk,Bool.not_true,show((ops[q]).ae==4)=true from by simpa using h4,cH (show sd.1.length≤2000000 by omega),B0 (n:=(Bu sd.1).1+(ops[q]).cd) (by omega) (by omega),PG (show ws.length≤2000000 by omega) hw.bk,Ih]
      rw [Fk (body:=fun s:Int × List Aa=>Ei ops got s.1 s.2) e];exact ih (q+1) _ (by omega) (Gj hw (XZ Au h4 J1 hk))
     ·rw [if_neg h4];have e:Ei ops got q ws=some (.inl (((q+1:Nat):Int),ws)):=by
       unfold Ei;simp only [hd,if_true,By Am,Ab,k2,k3,AY,if_false,FB,hs,Ul,hk,Bool.not_true,show((ops[q]).ae==4)=false from by simpa using h4,Ih]
      rw [Fk (body:=fun s:Int × List Aa=>Ei ops got s.1 s.2) e];exact ih (q+1) _ (by omega) ⟨hw.bk,by omega,hw.bm⟩
    ·rw [if_neg hk];rw [Bool.not_eq_true]at hk;refine Fl ?_;show Ei ops got q ws=_;unfold Ei;simp only [hd,if_true,By Am,Ab,k2,k3,AY,if_false,FB,hs,Ul,hk,Bool.not_true,Bool.not_false]
   ·rw [if_neg hs];rw [Bool.not_eq_true]at hs;refine Fl ?_;show Ei ops got q ws=_;unfold Ei;simp only [hd,if_true,By Am,Ab,k2,k3,AY,if_false,FB,hs,Bool.not_false]
 exact key ops.length 0 [] (by omega) ⟨List.Pairwise.nil,Nat.le_refl _,by simp⟩
theorem sS {ops:List Ap} {got:List A9} (hl:ops.length≤1000) (ho: ∀o∈ops,F0 o) (hg:got.length≤2000) (hv:L0 got):VS ops got=some (CT got ops []):=by
 have key: ∀(n q:Nat) (ws:List Aa),q+n=ops.length→B1 q ws→A5 (fun s:List Aa × Int=>Ej ops got s.1 s.2) (ws,(q:Int))=some (CT got (ops.drop q) ws):=by
  intro n
  induction n with
  |zero=>intro q ws hq hw;rw [List.drop_eq_nil_of_le (by omega),CT];refine Fl ?_;show Ej ops got ws q=_;unfold Ej;rw [if_neg (by simp;omega)]
  |succ n ih=>
   intro q ws hq hw;have Am:q<ops.length:=by omega
   have Au:=ho _ (List.getElem_mem Am);have Lg:=hw.len;have Ih:=C6 Am (by omega);have B7:=ZS (k:=(ops[q]).ab) hw.bm fun g hg=>(hv g hg).1;have J1:(El ws got (ops[q]).ab).2.1=false→(El ws got (ops[q]).ab).1= []:=fun h=>Wh (k:=(ops[q]).ab) hw.bm hv h;have Ev:=rP (ws:=ws) (got:=got) (k:=(ops[q]).ab) (by omega) (by omega);rw [List.drop_eq_getElem_cons Am,CT];generalize El ws got (ops[q]).ab=sd at B7 J1 Ev;have Oo:=rF Au (val:=sd.1) (there:=sd.2.1) B7;have hd:decide ((q:Int)<(ops.length:Int))=true:=decide_eq_true (by omega);by_cases h2:(ops[q]).ae=2
   ·rw [if_pos h2];have k2:((ops[q]).ae==2)=true:=by simpa using h2
    have hk:FQ ops[q] sd.1 sd.2.1=true:=by unfold FQ;rw [h2];rfl
    have e:Ej ops got ws q=some (.inl (Br wk ⟨(ops[q]).ab,(ops[q]).al,false⟩ ws,((q+1:Nat):Int))):=by unfold Ej;simp only [hd,if_true,By Am,Ab,Ev,bne,k2,Bool.not_true,Bool.and_false,Bool.false_and,AY,if_false,Oo,hk,M5 (show ws.length≤2000000 by omega) hw.bk,Ih]
    rw [Fk (body:=fun s:List Aa × Int=>Ej ops got s.1 s.2) e];exact ih (q+1) _ (by omega) (Gj hw (Wc Au))
   rw [if_neg h2];have k2:((ops[q]).ae==2)=false:=by simpa using h2
   by_cases h3:(ops[q]).ae=3
   ·rw [if_pos h3];have k3:((ops[q]).ae==3)=true:=by simpa using h3
    have hk:FQ ops[q] sd.1 sd.2.1=true:=by unfold FQ;rw [h3];rfl
    have e:Ej ops got ws q=some (.inl (Br wk ⟨(ops[q]).ab, [],true⟩ ws,((q+1:Nat):Int))):=by unfold Ej;simp only [hd,if_true,By Am,Ab,Ev,bne,k2,k3,Bool.not_true,Bool.and_false,AY,if_false,Oo,hk,M5 (show ws.length≤2000000 by omega) hw.bk,Ih]
    rw [Fk (body:=fun s:List Aa × Int=>Ej ops got s.1 s.2) e];exact ih (q+1) _ (by omega) (Gj hw (V2 Au))
   rw [if_neg h3];have k3:((ops[q]).ae==3)=false:=by simpa using h3
   by_cases hs:sd.2.2=true
   ·rw [if_pos hs];by_cases hk:FQ ops[q] sd.1 sd.2.1=true
    ·rw [if_pos hk];by_cases h4:(ops[q]).ae=4
     ·rw [if_pos h4];have hr:=Z7 Au h4 J1 hk;have k4:((ops[q]).ae==4)=true:=by simpa using h4
      have b0:=Au.lj;have b1:=Au.ll;have e:Ej ops got ws q=some (.inl (Br wk ⟨(ops[q]).ab,Lib.itoa ((Bu sd.1).1+(ops[q]).cd),false⟩ ws,((q+1:Nat):Int))):=by
       unfold Ej;simp only [hd,if_true,By Am,Ab,Ev,bne,k2,k3,k4,hs,Bool.not_true,Bool.not_false,Bool.false_and,AY,if_false,Oo,hk,fA (show sd.1.length≤2000000 by omega)];cases ht:sd.2.1 with
       |false=>
        have hz:Bu sd.1=(0,false):=by rw [J1 ht];rfl
        rw [hz]at hr ⊢;dsimp only at hr ⊢;simp only [Bool.not_false,if_true,B0 (n:=(0:Int)+(ops[q]).cd) (by omega) (by omega),dQ (n:=(0:Int)+(ops[q]).cd) (by omega) (by omega),Ab,M5 (show ws.length≤2000000 by omega) hw.bk,Ih]
       |true=>simp only [Bool.not_true,AY,if_false,B0 (n:=(Bu sd.1).1+(ops[q]).cd) (by omega) (by omega),dQ (n:=(Bu sd.1).1+(ops[q]).cd) (by omega) (by omega),Ab,M5 (show ws.length≤2000000 by omega) hw.bk,Ih]
      rw [Fk (body:=fun s:List Aa × Int=>Ej ops got s.1 s.2) e];exact ih (q+1) _ (by omega) (Gj hw (XZ Au h4 J1 hk))
     ·rw [if_neg h4];have k4:((ops[q]).ae==4)=false:=by simpa using h4
      have e:Ej ops got ws q=some (.inl (ws,((q+1:Nat):Int))):=by unfold Ej;simp only [hd,if_true,By Am,Ab,Ev,bne,k2,k3,k4,hs,Bool.not_true,Bool.false_and,AY,if_false,Oo,hk,Ih]
      rw [Fk (body:=fun s:List Aa × Int=>Ej ops got s.1 s.2) e];exact ih (q+1) _ (by omega) ⟨hw.bk,by omega,hw.bm⟩
    ·rw [if_neg hk];rw [Bool.not_eq_true]at hk;refine Fl ?_;show Ej ops got ws q=_;unfold Ej;simp only [hd,if_true,By Am,Ab,Ev,bne,k2,k3,hs,Bool.not_true,Bool.not_false,Bool.false_and,AY,if_false,Oo,hk]
   ·rw [if_neg hs];rw [Bool.not_eq_true]at hs;refine Fl ?_;show Ej ops got ws q=_;unfold Ej;simp only [hd,if_true,By Am,Ab,Ev,bne,k2,k3,hs,Bool.not_false,Bool.and_self]
 exact key ops.length 0 [] (by omega) ⟨List.Pairwise.nil,Nat.le_refl _,by simp⟩
theorem Z6 {got:List A9} (hv:L0 got): ∀(l:List Ap) {n:Nat} {ws:List Aa},(∀o∈l,F0 o)→B1 n ws→B1 (n+l.length) (CT got l ws).2.2∧((CT got l ws).1=1→ ∃o∈l,o.ab=(CT got l ws).2.1∧ ∀g∈got,g.ab≠o.ab)
 | [],n,ws,_,hw=>⟨hw,fun h=>by simp [CT]at h⟩
 |o::l,n,ws,ho,hw=>by
  have Au:=ho o (by simp);have hl: ∀o∈l,F0 o:=fun x hx=>ho x (by simp [hx]);have up: ∀{w:List Aa},B1 (n+l.length) w→B1 (n+(o::l).length) w:=fun h=>⟨h.bk,by have:=h.len;rw [AD];omega,h.bm⟩
  have more: ∀{ws':List Aa},B1 (n+1) ws'→B1 (n+(o::l).length) (CT got l ws').2.2∧((CT got l ws').1=1→ ∃x∈o::l,x.ab=(CT got l ws').2.1∧ ∀g∈got,g.ab≠x.ab):=fun{ws'} kO=>by obtain⟨a,b⟩:=Z6 hv l hl kO;refine⟨⟨a.bk,by have:=a.len;rw [AD];omega,a.bm⟩,fun h=> ?_⟩;obtain⟨x,hx,h1,h2⟩:=b h;exact⟨x,by simp [hx],h1,h2⟩
  have Mp:B1 (n+1) ws:=⟨hw.bk,by have:=hw.len;omega,hw.bm⟩
  rw [CT];split
  ·exact more (Gj hw (Wc Au))
  ·split
   ·exact more (Gj hw (V2 Au))
   ·split
    ·split
     ·rename_i hk;split
      ·rename_i h4;exact more (Gj hw (XZ Au h4 (fun h=>Wh hw.bm hv h) hk))
      ·exact more Mp
     ·exact⟨⟨List.Pairwise.nil,by simp,by simp⟩,fun h=>by simp at h⟩
    ·rename_i hs;refine⟨⟨List.Pairwise.nil,by simp,by simp⟩,fun _=>⟨o,by simp,rfl,fun g hg e=> ?_⟩⟩;apply hs;unfold El;cases e1:ws.find? (fun w=>w.ab==o.ab)with
     |some w=>rfl
     |none=>
      unfold L3;cases e2:got.find? (fun g=>g.ab==o.ab)with
      |some g=>rfl
      |none=>rw [List.find?_eq_none]at e2;exact absurd (by simpa using e) (e2 g hg)
def Kw (rows:List Aa) (ops:List Ap):Nat→List A9→List A9 × List Aa × Bool
 |0,got=>(got, [],false)
 |n+1,got=>if(CT got ops []).1=1 then Kw rows ops n (got++ [Fq rows (CT got ops []).2.1])else(got,(CT got ops []).2.2,(CT got ops []).1==3)
theorem wR {rows:List Aa} {k:Aq} (h:Hd rows):(Fq rows k).c7=false→(Fq rows k).al= []:=by
 unfold Fq;cases e:rows.find? (fun w=>w.ab==k)with
 |some w=>intro h;cases h
 |none=>intro _;rfl
theorem bR {rows:List Aa} {ops:List Ap} (hl:ops.length≤8) (ho: ∀o∈ops,F0 o) (hr:Hd rows): ∀(n:Nat) (got:List A9),mu ops got<n→got.length+n≤1000→L0 got→
  A5 (fun s:List A9=>Lm rows ops s) got=some (Kw rows ops n got)∧A5 (fun s:List A9=>Lv rows ops s) got=some (Kw rows ops n got)∧B1 8 (Kw rows ops n got).2.1∧L0 (Kw rows ops n got).1∧(Kw rows ops n got).1.length≤1000
 |0,got,hm,_,_=>by omega
 |n+1,got,hm,hg,hv=>by
  have hi:=tY (got:=got) (by omega) ho (by omega) hv;have hs:=sS (got:=got) (by omega) ho (by omega) hv;obtain⟨ga,gb⟩:=Z6 hv ops (n:=0) (ws:= []) ho ⟨List.Pairwise.nil,Nat.le_refl _,by simp⟩;have Mo:=hr.len;rw [Kw];generalize CT got ops []=r at hi hs ga gb;by_cases h1:r.1=1
  ·rw [if_pos h1];obtain⟨o,jY,Au,K4⟩:=gb h1;obtain⟨t1,t2⟩:=s6 (k:=r.2.1) hr;have hq:(((got).length:Int)+(([Fq rows r.2.1]:List A9).length:Int))*40≤140737488355328∧((got).length:Int)+(([Fq rows r.2.1]:List A9).length:Int)≤140737488355328:=by
    rw [Bm];omega
   have ei:Lm rows ops got=some (.inl (got++ [Fq rows r.2.1])):=by unfold Lm;rw [hi,Ab,if_neg (by simp [h1]),uF (by omega) hr.bk,Ab,B5 hq]
   have es:Lv rows ops got=some (.inl (got++ [Fq rows r.2.1])):=by unfold Lv;rw [hs,Ab,if_neg (by simp [h1]),vE (by omega),Ab,B5 hq]
   rw [Fk (body:=fun s:List A9=>Lm rows ops s) ei,Fk (body:=fun s:List A9=>Lv rows ops s) es];refine bR hl ho hr n _ ?_ (by rw [AB,Bm];omega) fun g BY=> ?_
   ·have:=wD (g:=Fq rows r.2.1) jY (Au.trans t2.symm) K4;omega
   ·rcases Ag.1 BY with h|h
    ·exact hv g h
    ·rw [List.mem_singleton]at h;subst h;exact⟨t1,wR hr⟩
  ·rw [if_neg h1];refine⟨Fl ?_,Fl ?_,⟨ga.bk,by have:=ga.len;show r.2.2.length≤8;omega,ga.bm⟩,hv,by dsimp only;omega⟩
   ·show Lm rows ops got=_;unfold Lm;rw [hi,Ab,if_pos (by simpa using h1)]
   ·show Lv rows ops got=_;unfold Lv;rw [hs,Ab,if_pos (by simpa using h1)]
def DV (rows:List Aa) (ops:List Ap):List A9 × List Aa × Bool:=Kw rows ops 9 []
theorem PW {rows:List Aa} {ops:List Ap} (hl:ops.length≤8) (ho: ∀o∈ops,F0 o) (hr:Hd rows):RU rows ops=some (DV rows ops)∧VB rows ops=some (DV rows ops)∧B1 8 (DV rows ops).2.1∧L0 (DV rows ops).1∧(DV rows ops).1.length≤1000:=by have:=xB ops [];exact bR hl ho hr 9 [] (by omega) (by simp) fun g hg=>by simp at hg
structure zS (rows:List Aa) (ops:List Ap) (m:Nat) (r:List A9 × List Aa × Bool):Prop where
 ask:(CT r.1 ops []).1≠1
 ws:r.2.1=(CT r.1 ops []).2.2
 done:r.2.2=((CT r.1 ops []).1==3)
 len:r.1.length≤m
 nodup:(r.1.map (·.ab)).Nodup
 key: ∀g∈r.1,CJ g.ab=true
theorem aS {k:Nat}: ∀{xs:List Aq},(∀s∈xs,s.length≤k)→Jt xs≤k*xs.length
 | [],_=>by simp [Jt]
 |s::xs,h=>by have h1:=h s (by simp);have h2:=aS (k:=k) (xs:=xs) fun y hy=>h y (by simp [hy]);simp only [Jt,AD,Nat.mul_add,Nat.mul_one];omega
def Tt (s:Aq):Prop:= ∀b∈s,(D6 b||([46,47]:Aq).contains b)=true
theorem rT {s:Aq} (h:field s=true): ∀b∈s,D6 b=true:=by unfold field Jg at h;simp only [Ad]at h;intro b hb;have:=AJ.1 h.2 b hb;simpa using this
theorem VX {s:Aq} {k:Int} (h:GJ s k=true): ∀b∈s,D6 b=true:=by unfold GJ at h;simp only [Ad]at h;intro b hb;have:=AJ.1 h.1 b hb;unfold small at this;unfold D6;simp only [Bool.not_eq_true',Bool.or_eq_false_iff,decide_eq_false_iff_not]at this;simp only [Bool.or_eq_true,Ad,decide_eq_true_eq];left;omega
theorem Tt.app {s u:Aq} (h:Tt s) (k:Tt u):Tt (s++u):=fun b hb=>by
 rcases Ag.1 hb with hb|hb
 ·exact h b hb
 ·exact k b hb
theorem pY {t:BE} {r:En} (h:Fb t r=true): ∀x∈r.bp,∀b∈x,D6 b=true:=by unfold Fb at h;simp only [Ad]at h;exact fun x hx=>rT (AJ.1 h.2 x hx)
theorem Xg {t:BE} {r:En} (h:Fb t r=true) (c:Int): ∀b∈EE r c,D6 b=true:=by
 unfold EE;cases e:r.bp[c.toNat]? with
 |none=>simp
 |some s=>exact pY h s (List.mem_of_getElem? e)
theorem Gh {l:List Aa} (h:CN l=true):Hd l∧ ∀w∈l,w.ar=false:=by unfold CN at h;rw [Ad]at h;have hr:=Y2 h.1;have h1:=h.1;unfold Ez at h1;simp only [Ad,decide_eq_true_eq]at h1;exact⟨⟨hr,by omega,AJ.1 h1.2.1⟩,fun w hw=>by simpa using AJ.1 h.2 w hw⟩
theorem Se {l:List Aa} (hr:CS l) (hg: ∀w∈l,CF w=true) (hn: ∀w∈l,w.ar=false):CN l=decide ((l.length:Int)≤24):=by
 have h1:H2 (l.map (·.ab))=true:=by rw [Sf,Pw];exact(PR (r:=fun a b:Aa=>bl a.ab b.ab) fun a b c p q=>G8 p q).2 hr
 unfold CN Ez;rw [h1,AJ.2 hg,show(l.all fun w=> !w.ar)=true from AJ.2 fun w hw=>by rw [hn w hw];rfl];simp
theorem ML {l:List Aa} (hl:l.length≤2000000) (hg: ∀w∈l,CF w=true):EB l:=
 ⟨hl,fun w hw=>⟨by have:=rE (hg w hw);omega,by have:=WE (hg w hw);omega⟩⟩
def BB (rows ws:List Aa):List Aa:=(ws.foldl (fun o w=>Br wk w o) rows).filter fun w=> !w.ar
theorem Xq: ∀(ws:List Aa) {n:Nat} {rows:List Aa},B1 n rows→(∀w∈ws,CF w=true)→B1 (n+ws.length) (ws.foldl (fun o w=>Br wk w o) rows)
 | [],n,rows,h,_=>h
 |w::ws,n,rows,h,hw=>by have:=Xq ws (Gj h (hw w (by simp))) fun y hy=>hw y (by simp [hy]);exact⟨this.bk,by have:=this.len;rw [AD];rw [List.foldl_cons];omega,this.bm⟩
theorem aK {rows ws:List Aa} (hr:Hd rows) (hw:B1 8 ws):CS (BB rows ws)∧(BB rows ws).length≤32∧(∀w∈BB rows ws,CF w=true)∧ ∀w∈BB rows ws,w.ar=false:=by have h:=Xq ws (n:=24) (rows:=rows) ⟨hr.bk,hr.len,hr.bm⟩ hw.bm;have hl:=hw.len;unfold BB;refine⟨DW.filter h.bk _,Nat.le_trans (List.length_filter_le _ _) (by have:=h.len;omega),fun w hm=>h.bm w (List.mem_filter.1 hm).1,fun w hm=>by simpa using(List.mem_filter.1 hm).2⟩
theorem qO {rows ws:List Aa} (hr:Hd rows) (hw:B1 8 ws):Lu rows ws=some (if(BB rows ws).length>24 then([],false)else(BB rows ws,true)):=by
 have Mo:=hr.len;have Lg:=hw.len;have hc:MA rows=some rows:=W8 (by omega) (by omega);unfold Lu;rw [hc,Ab];have h1:=LG (xs:=ws) (body:=fun s:Int × List Aa=>HO ws s.1 s.2) (fun i (o:List Aa)=>(i,o)) (fun o w=>Br wk w o) (fun o=>Pa o) (fun i o=>B1 (24+i) o)
  (fun i hi o hI=>by have hI:B1 (24+i) o:=hI;have hol:=hI.len;refine⟨?_,Gj hI (hw.bm _ (List.getElem_mem hi))⟩;show HO ws i o=_;unfold HO;rw [if_pos (by simpa using hi),By hi,Ab,PG (by omega) hI.bk,Ab,C6 hi (by omega)])
  (fun o hI=>by show HO ws ws.length o=_;unfold HO;rw [if_neg (by simp)]) (s:=rows) ⟨hr.bk,hr.len,hr.bm⟩
 rw [h1.1];have hK:B1 (24+ws.length) (ws.foldl (fun o w=>Br wk w o) rows):=h1.2;have Et:=hK.len;unfold Pa Pr;rw [B5 (by omega),Wn (p:=fun y0_=>Rw y0_) (fun w:Aa=>w.ar) (fun w _=>rfl),Ab];show(if decide (((BB rows ws).length:Int)>24)=true then _ else _)=_;by_cases hq:(BB rows ws).length>24
 ·rw [if_pos (decide_eq_true (by omega)),if_pos hq]
 ·rw [if_neg (by rw [decide_eq_true_eq];omega),if_neg hq];rfl
theorem qG {rows ws:List Aa} (hr:Hd rows) (hw:B1 8 ws):Kb rows ws=some (BB rows ws):=by
 have Mo:=hr.len;have Lg:=hw.len;have hq:((([]:List Aa).length:Int)+((rows).length:Int))*40≤140737488355328∧(([]:List Aa).length:Int)+((rows).length:Int)≤140737488355328:=by rw [List.length_nil];omega
 unfold Kb;rw [B5 hq];have h1:=LG (xs:=ws) (body:=fun s:Int × List Aa=>HR ws s.1 s.2) (fun i (o:List Aa)=>(i,o)) (fun o w=>Br wk w o) (fun o=>Pf o) (fun i o=>B1 (24+i) o)
  (fun i hi o hI=>by have hI:B1 (24+i) o:=hI;have hol:=hI.len;refine⟨?_,Gj hI (hw.bm _ (List.getElem_mem hi))⟩;show HR ws i o=_;unfold HR;rw [if_pos (by simpa using hi),By hi,Ab,M5 (by omega) hI.bk,Ab,C6 hi (by omega)])
  (fun o hI=>by show HR ws ws.length o=_;unfold HR;rw [if_neg (by simp)]) (s:=rows) ⟨hr.bk,hr.len,hr.bm⟩
 rw [h1.1];have hK:B1 (24+ws.length) (ws.foldl (fun o w=>Br wk w o) rows):=h1.2;have Et:=hK.len;unfold BB;generalize ws.foldl (fun o w=>Br wk w o) rows=l at Et;unfold Pf;have h2:=LG (xs:=l) (body:=fun s:List Aa × Int=>HQ l s.1 s.2) (fun i (o:List Aa)=>(o,i)) (fun o w=>if(!w.ar)=true then o++ [id w]else o) (fun o=>some o) (fun i o=>o.length≤i)
  (fun i hi o hI=>by
   have hI:o.length≤i:=hI;have hr:(((o).length:Int)+(([l[i]]:List Aa).length:Int))*40≤140737488355328∧((o).length:Int)+(([l[i]]:List Aa).length:Int)≤140737488355328:=by rw [Bm];omega
   refine⟨?_,by show List.length _≤_;split;rw [AB,Bm];omega;omega⟩;show HQ l o i=_;unfold HQ;rw [if_pos (by simpa using hi),By hi,Ab,C6 hi (by omega)];cases(!(l[i]).ar)with
   |false=>rfl
   |true=>rw [if_pos rfl,B5 hr];rfl)
  (fun o _=>by show HQ l o l.length=_;unfold HQ;rw [if_neg (by simp)]) (s:= []) (Nat.le_refl _)
 refine h2.1.trans ?_;rw [Z5 (fun w:Aa=> !w.ar) id l []];simp
theorem Wj {c:UInt8}: ∀{p q:Aq},(∀b∈p,b≠c)→Gp c (p++ [c]++q)=p::Gp c q:=fun{p q} h=>by rw [List.append_assoc];exact aL h
theorem Nr {b:UInt8} (h:D6 b=true):b≠47∧b≠44∧b≠46:=by refine⟨?_, ?_, ?_⟩<;>(rintro rfl;revert h;decide)
theorem vC {t:BE} {n:Aq} (hg:Fj t=true) (hn:GJ n 1=true): ∀b∈head t n,b≠47:=by
 intro b hb;unfold head at hb;simp only [Ag,List.mem_singleton]at hb;rcases hb with(hb|hb)|hb
 ·exact(Nr (VX (bI hg) b hb)).1
 ·subst hb;decide
 ·exact(Nr (VX hn b hb)).1
theorem Sx {t:BE} {n:Aq} {c:Int} {r:En} (hg:Fj t=true) (hn:GJ n 1=true) (h:Fb t r=true):Gp 47 (Hi t n c r)= [head t n,EE r c,EE r 0]:=by unfold Hi;rw [show head t n++ [47]++EE r c++ [47]++EE r 0=head t n++ [47]++(EE r c++ [47]++EE r 0) by simp,Wj (vC hg hn),Wj fun b hb=>(Nr (Xg h c b hb)).1,VT fun b hb=>(Nr (Xg h 0 b hb)).1]
theorem sH (t:BE) (r:En):(Ia t r).ab=t.ax++ [47]++EE r 0:=by unfold Ia EE;rw [List.head?_eq_getElem?];rfl
theorem rR {t:BE} {r:En} (hg:Fj t=true) (h:Fb t r=true):Gp 47 (Ia t r).ab= [t.ax,EE r 0]:=by rw [sH,Wj fun b hb=>(Nr (VX (bI hg) b hb)).1,VT fun b hb=>(Nr (Xg h 0 b hb)).1]
theorem bK {t:BE} {r:En} {c:Int} (h:Fb t r=true) (h0:0≤c) (h1:c≤(t.ct.length:Int)-1):field (EE r c)=true:=by
 unfold Fb at h;simp only [Ad,beq_iff_eq]at h;have hl:c.toNat<r.bp.length:=by have:=h.1;omega
 unfold EE;rw [List.getElem?_eq_getElem hl];exact AJ.1 h.2 _ (List.getElem_mem hl)
theorem aW {t:BE} {n m:Aq} {c:Int} {r:En} (hg:Fj t=true) (hm:GJ m 1=true) (h:Fb t r=true) (h0:0≤c) (h1:c≤(t.ct.length:Int)-1):Nf t n (Hi t m c r)=decide (m=n):=by
 have hc:=sR hg;unfold Nf;rw [Sx hg hm h];simp only [bK h h0 h1,bK h (show(0:Int)≤0 by omega) (by omega),Bool.and_true];rw [Bool.eq_iff_iff];simp only [beq_iff_eq,decide_eq_true_eq];unfold head;constructor
 ·intro e;exact List.append_cancel_left e
 ·rintro rfl;rfl
theorem pA {t:BE} {n:Aq} {c:Int} {r r':En} (hg:Fj t=true) (hn:GJ n 1=true) (h:Fb t r=true) (h':Fb t r'=true):(Ia t r).ab≠Hi t n c r':=by intro e;have h1:=rR hg h;rw [e,Sx hg hn h']at h1;simp at h1
def Ti (t:BE) (a:EA):List Aa:=
 if a.ae=1 then [⟨(Ia t a.dd).ab,(Ia t a.dd).al,false⟩]else
 if a.ae=2 then [⟨(Ia t a.db).ab, [],true⟩]else [⟨(Ia t a.db).ab,(Ia t a.dd).al,false⟩]
def Qn (t:BE) (a:EA) (x:Dr):List Aa:=
 (if JC t a x≠ []∧JC t a x≠JA t a x∧x.c8≥1 then [⟨JC t a x, [],true⟩]else [])++(if JA t a x≠ []∧x.c8≥2 then [⟨JA t a x, [],false⟩]else [])
def Kr (t:BE) (a:EA):List Aa:=Ti t a++t.bu.flatMap (Qn t a)
def eR (t:BE) (a:EA) (st st':List Aa):Prop:=
 ∀y,y∈st'↔y.ar=false∧(y∈Kr t a∨y∈st∧ ∀w∈Kr t a,w.ab≠y.ab)
structure H9 (t:BE) (a:EA):Prop where
 tab:Fj t=true
 old:a.ae≠1→Fb t a.db=true
 new:a.ae≠2→Fb t a.dd=true
 kind:a.ae=1∨a.ae=2∨a.ae=3
 same:a.ae=3→EE a.db 0=EE a.dd 0
structure gC (t:BE) (a:EA) (n:Aq) (x:Dr):Prop extends H9 t a where
 idx:x∈t.bu
 name:x.ax=n
section
variable {t:BE} {a:EA} (A:H9 t a)
include A
theorem H9.gl (h:a.ae≠1) {y:Dr}:JC t a y=Hi t y.ax y.dh a.db:=by have _:=A;unfold JC;rw [if_neg h]
theorem H9.gi (h:a.ae≠2) {y:Dr}:JA t a y=Hi t y.ax y.dh a.dd:=by have _:=A;unfold JA;rw [if_neg h]
theorem H9.jd {y:Dr} {w:Aa} (hw:w∈Qn t a y):(w=⟨JC t a y, [],true⟩∧a.ae≠1∧JC t a y≠JA t a y∧y.c8≥1)∨(w=⟨JA t a y, [],false⟩∧a.ae≠2∧y.c8≥2):=by
 have _:=A;unfold Qn at hw;rcases Ag.1 hw with hw|hw
 ·split at hw
  ·rename_i h;rw [List.mem_singleton]at hw;refine .inl ⟨hw,fun k=> ?_,h.2.1,h.2.2⟩;apply h.1;unfold JC;rw [if_pos k]
  ·simp at hw
 ·split at hw
  ·rename_i h;rw [List.mem_singleton]at hw;refine .inr ⟨hw,fun k=> ?_,h.2⟩;apply h.1;unfold JA;rw [if_pos k]
  ·simp at hw
theorem H9.du {n:Aq} {y:Dr} (hy:y∈t.bu) {w:Aa} (hw:w∈Qn t a y): ∃r,Fb t r=true∧w.ab=Hi t y.ax y.dh r∧Nf t n w.ab=decide (y.ax=n):=by
 have hc:=Ha.1 (MZ A.tab hy).2;have hl:=(MZ A.tab hy).1;rcases A.jd hw with⟨rfl,h,_⟩|⟨rfl,h,_⟩
 ·refine⟨a.db,A.old h,A.gl h, ?_⟩;show Nf t n (JC t a y)=_;rw [A.gl h];exact aW A.tab hl (A.old h) (by omega) hc.2
 ·refine⟨a.dd,A.new h,A.gi h, ?_⟩;show Nf t n (JA t a y)=_;rw [A.gi h];exact aW A.tab hl (A.new h) (by omega) hc.2
theorem H9.gu {w:Aa} (hw:w∈Ti t a): ∃r,Fb t r=true∧w.ab=(Ia t r).ab:=by
 unfold Ti at hw;split at hw
 ·rename_i h;rw [List.mem_singleton]at hw;subst hw;exact⟨a.dd,A.new (by omega),rfl⟩
 ·rename_i h;split at hw
  ·rw [List.mem_singleton]at hw;subst hw;exact⟨a.db,A.old h,rfl⟩
  ·rw [List.mem_singleton]at hw;subst hw;exact⟨a.db,A.old h,rfl⟩
end
section
variable {t:BE} {a:EA} {n:Aq} {x:Dr} (A:gC t a n x)
include A
theorem gC.l8:1≤x.dh∧x.dh≤(t.ct.length:Int)-1:=Ha.1 (MZ A.tab A.idx).2
variable {st st':List Aa} (hB:eR t a st st')
include hB
end
abbrev Ng (l:List Aa):Prop:=l.Pairwise fun a b=>a.ab≠b.ab
theorem SW: ∀(l:List Aa) {s:List Aa},Ng l→CS s→ ∀y,y∈l.foldl (fun o w=>Br wk w o) s↔y∈l∨y∈s∧ ∀w∈l,w.ab≠y.ab
 | [],s,_,_,y=>by simp
 |x::l,s,hl,hs,y=>by
  unfold Ng at hl;rw [List.pairwise_cons]at hl;rw [List.foldl_cons,SW l hl.2 (SB hs),SU hs];constructor
  ·rintro(h|⟨h1|h1,h2⟩)
   ·exact .inl (by simp [h])
   ·exact .inl (by simp [h1])
   ·exact .inr ⟨h1.1,fun w hw=>by
     rcases Ae.1 hw with rfl|hw
     ·exact fun e=>h1.2 e.symm
     ·exact h2 w hw⟩
  ·rintro(h|⟨h1,h2⟩)
   ·rcases Ae.1 h with rfl|h
    ·exact .inr ⟨.inl rfl,fun w hw e=>hl.1 w hw e.symm⟩
    ·exact .inl h
   ·exact .inr ⟨.inr ⟨h1,fun e=>h2 x (by simp) e.symm⟩,fun w hw=>h2 w (by simp [hw])⟩
theorem qC {l:List Aa} (h:CS l):Ng l:=List.Pairwise.imp (fun h=>GR h) h
theorem Wu: ∀(l:List Aa) {s:List Aa},CS s→CS (l.foldl (fun o w=>Br wk w o) s)
 | [],_,h=>h
 |_::l,_,h=>Wu l (SB h)
theorem uM {t:BE} {m n:Aq} {c d:Int} {r q:En} (hg:Fj t=true) (hm:GJ m 1=true) (hn:GJ n 1=true) (h:Fb t r=true) (k:Fb t q=true) (A8:m≠n):Hi t m c r≠Hi t n d q:=by intro e;have h1:=Sx (c:=c) hg hm h;rw [e,Sx hg hn k]at h1;simp only [List.cons.injEq]at h1;have h2:=h1.1;unfold head at h2;exact A8 (List.append_cancel_left h2).symm
theorem H9.apart {t:BE} {a:EA} (A:H9 t a):Ng (Kr t a):=by
 unfold Ng Kr;rw [List.pairwise_append];refine⟨?_, ?_,fun w hw z hz e=> ?_⟩
 ·unfold Ti;split
  ·exact List.pairwise_singleton _ _
  ·split<;>exact List.pairwise_singleton _ _
 ·rw [List.pairwise_flatMap];refine⟨fun y hy=> ?_, ?_⟩
  ·unfold Qn;rw [List.pairwise_append];refine⟨?_, ?_,fun w hw z hz e=> ?_⟩
   ·split
    ·exact List.pairwise_singleton _ _
    ·exact List.Pairwise.nil
   ·split
    ·exact List.pairwise_singleton _ _
    ·exact List.Pairwise.nil
   ·split at hw
    ·rename_i h;rw [List.mem_singleton]at hw;split at hz
     ·rw [List.mem_singleton]at hz;rw [hw,hz]at e;exact h.2.1 e
     ·simp at hz
    ·simp at hw
  ·refine List.Pairwise.imp_of_mem (fun{y z} hy hz kU w hw u hu e=> ?_) (uX A.tab);obtain⟨r,h1,h2,_⟩:=A.du (n:= []) hy hw;obtain⟨q,k1,k2,_⟩:=A.du (n:= []) hz hu;rw [h2,k2]at e;exact uM A.tab (MZ A.tab hy).1 (MZ A.tab hz).1 h1 k1 (GR kU) e
 ·obtain⟨r,h1,h2⟩:=A.gu hw;obtain⟨y,hy,hz⟩:=List.mem_flatMap.1 hz;obtain⟨q,k1,k2,_⟩:=A.du (n:= []) hy hz;rw [h2,k2]at e;exact pA A.tab (MZ A.tab hy).1 h1 k1 e
theorem H9.behind {t:BE} {a:EA} (A:H9 t a) {st:List Aa} (hr:CS st):eR t a st (BB st ((Kr t a).foldl (fun o w=>Br wk w o) [])):=by
 have hw:CS ((Kr t a).foldl (fun o w=>Br wk w o) []):=Wu _ List.Pairwise.nil;have hm: ∀y,y∈(Kr t a).foldl (fun o w=>Br wk w o) []↔y∈Kr t a:=fun y=>by rw [SW _ A.apart List.Pairwise.nil];simp
 intro y;unfold BB;rw [List.mem_filter,SW _ (qC hw) hr,hm];constructor
 ·rintro⟨h|⟨h1,h2⟩,h3⟩
  ·exact⟨by simpa using h3, .inl h⟩
  ·exact⟨by simpa using h3, .inr ⟨h1,fun w hw=>h2 w ((hm w).2 hw)⟩⟩
 ·rintro⟨h3,h|⟨h1,h2⟩⟩
  ·exact⟨.inl h,by simpa using h3⟩
  ·exact⟨.inr ⟨h1,fun w hw=>h2 w ((hm w).1 hw)⟩,by simpa using h3⟩
def HY (o:Ap):Prop:=o.ab.length≤2000000∧o.al.length≤2000000
def Fp (o:Ap):Bool:=Dp o.ae 1 7&&(CJ o.ab&&(E9 o.al&&(((o.ae==2||o.ae==7)||o.al== [])&&(Dp o.cd (-9999) 9999&&((o.ae==4||o.ae==5)||o.cd==0)))))
theorem rX {o:Ap} (h:Fp o=true):F0 o:=by unfold Fp at h;simp only [Ad]at h;have:=Ha.1 h.2.2.2.2.1;exact⟨h.2.1,h.2.2.1,by omega,by omega⟩
theorem wV {o:Ap} (h:HY o):Sc o=some (Fp o):=by unfold Sc VR R7 Fp;rw [SI,Ab,fI h.1,Ab,eN h.2,Ab,SI];simp only [Ab];cases Dp o.ae 1 7<;>cases CJ o.ab<;>cases E9 o.al<;>cases(o.ae==2||o.ae==7)<;>cases(o.al== [])<;>cases Dp o.cd (-9999) 9999<;>rfl
theorem xJ {o:Ap} (h:HY o):Si o=some (Fp o):=by
 have e0:E9 ([]:Aq)=true:=by decide
 have b0:Dp 0 (-9999) 9999=true:=by decide
 unfold Si;rw [eP h.1,Ab];unfold Fp;cases hk:CJ o.ab with
 |false=>simp
 |true=>
  rw [if_neg (by simp)];have hj: ∀b,(b=true↔(o.ae=2∨o.ae=7))→RN o b=some (Fp o):=by
   intro b hb;unfold RN;rw [fM h.2,Te];simp only [Ab];cases b with
   |true=>
    have:=hb.1 rfl;have h1:Dp o.ae 1 7=true:=Ha.2 (by omega);have h2:(o.ae==2||o.ae==7)=true:=by simpa using this
    have h3:(o.ae==4||o.ae==5)=false:=by simp;omega
    rw [if_pos rfl];unfold Fp;rw [h1,h2,h3,hk];by_cases hB:o.cd=0
    ·rw [hB,b0];simp
    ·have:(o.cd==0)=false:=by simpa using hB
     rw [this];simp
   |false=>
    have Bx: ¬(o.ae=2∨o.ae=7):=fun x=>by simpa using hb.2 x
    rw [if_neg (by simp)];unfold Fp;have h2:(o.ae==2||o.ae==7)=false:=by simp;omega
    rw [h2,hk];by_cases hv:o.al= []
    ·rw [hv,e0];by_cases k4:o.ae=4
     ·rw [k4];simp [show Dp 4 1 7=true by decide]
     ·by_cases k5:o.ae=5
      ·rw [k5];simp [show Dp 5 1 7=true by decide]
      ·have h3:(o.ae==4||o.ae==5)=false:=by simp;omega
       have q4:(o.ae==4)=false:=by simpa using k4
       have q5:(o.ae==5)=false:=by simpa using k5
       rw [q4,q5];simp only [AY,if_false];by_cases hB:o.cd=0
       ·rw [hB,b0];have:(((o.ae==1)||(o.ae==3))||(o.ae==6))=Dp o.ae 1 7:=by
         rw [Bool.eq_iff_iff];simp only [Bool.or_eq_true,beq_iff_eq,Ha];omega
        rw [this];simp
       ·have:(o.cd==0)=false:=by simpa using hB
        rw [this];simp
    ·have OZ:(o.al== [])=false:=by simpa using hv
     rw [OZ];simp<;>(split<;>(try split)<;>simp_all)
  by_cases k2:o.ae=2
  ·rw [if_pos (by simpa using k2),hj _ (by simp [k2])];unfold Fp;rw [hk]
  ·rw [if_neg (by simpa using k2),hj _ (by simp [k2])];unfold Fp;rw [hk]
def E8 (l:List Ap):Bool:=decide ((l.length:Int)≤8)&&l.all Fp
def Io (l:List Ap):Prop:=l.length≤2000000∧ ∀o∈l,HY o
theorem PH {l:List Ap} (h:E8 l=true):l.length≤8∧ ∀o∈l,F0 o:=by unfold E8 at h;rw [Ad,decide_eq_true_eq,AJ]at h;exact⟨by omega,fun o ho=>rX (h.2 o ho)⟩
theorem aC {l:List Ap} (h:Io l):Pp l=some (E8 l):=by
 have e1:Gg l (fun y0_=>Rv y0_)=some (l.any fun o=> !Fp o):=S0 _ (fun o ho=>by unfold Rv;rw [wV (h.2 o ho)];rfl) (by have:=h.1;omega)
 unfold Pp E8;by_cases hl:(l.length:Int)≤8
 ·rw [if_pos (by simpa using hl),e1,Ab,←List.not_all_eq_any_not];simp [hl]
 ·rw [if_neg (by simpa using hl)];simp [hl]
theorem qB {l:List Ap} (h:Io l):Sb l=some (E8 l):=by
 have hn:=h.1;unfold Sb;rw [LM (xs:=l) (body:=fun s:Int=>MD l s) Fp false (VG l) (fun i hi=>by
  show MD l i=_;unfold MD;rw [if_pos (by simpa using hi),By hi,Ab,xJ (h.2 _ (List.getElem_mem hi)),Ab,C6 hi (by omega)];cases Fp l[i]<;>rfl) (by
  show MD l l.length=_;unfold MD;rw [if_neg (by simp)])]
 unfold VG E8;cases l.all Fp<;>simp
theorem Wr {n:Nat} {rows ws:List Aa} (hn:n≤1000) (hr:Hd rows) (hw:B1 n ws):CS (BB rows ws)∧(BB rows ws).length≤1024∧(∀w∈BB rows ws,CF w=true)∧ ∀w∈BB rows ws,w.ar=false:=by have h:=Xq ws (n:=24) (rows:=rows) ⟨hr.bk,hr.len,hr.bm⟩ hw.bm;have hl:=hw.len;unfold BB;refine⟨DW.filter h.bk _,Nat.le_trans (List.length_filter_le _ _) (by have:=h.len;omega),fun w hm=>h.bm w (List.mem_filter.1 hm).1,fun w hm=>by simpa using(List.mem_filter.1 hm).2⟩
theorem pD {n:Nat} {rows ws:List Aa} (hn:n≤1000) (hr:Hd rows) (hw:B1 n ws):Lu rows ws=some (if(BB rows ws).length>24 then([],false)else(BB rows ws,true)):=by
 have Mo:=hr.len;have Lg:=hw.len;have hc:MA rows=some rows:=W8 (by omega) (by omega);unfold Lu;rw [hc,Ab];have h1:=LG (xs:=ws) (body:=fun s:Int × List Aa=>HO ws s.1 s.2) (fun i (o:List Aa)=>(i,o)) (fun o w=>Br wk w o) (fun o=>Pa o) (fun i o=>B1 (24+i) o)
  (fun i hi o hI=>by have hI:B1 (24+i) o:=hI;have hol:=hI.len;refine⟨?_,Gj hI (hw.bm _ (List.getElem_mem hi))⟩;show HO ws i o=_;unfold HO;rw [if_pos (by simpa using hi),By hi,Ab,PG (by omega) hI.bk,Ab,C6 hi (by omega)])
  (fun o hI=>by show HO ws ws.length o=_;unfold HO;rw [if_neg (by simp)]) (s:=rows) ⟨hr.bk,hr.len,hr.bm⟩
 rw [h1.1];have hK:B1 (24+ws.length) (ws.foldl (fun o w=>Br wk w o) rows):=h1.2;have Et:=hK.len;unfold Pa Pr;rw [B5 (by omega),Wn (p:=fun y0_=>Rw y0_) (fun w:Aa=>w.ar) (fun w _=>rfl),Ab];show(if decide (((BB rows ws).length:Int)>24)=true then _ else _)=_;by_cases hq:(BB rows ws).length>24
 ·rw [if_pos (decide_eq_true (by omega)),if_pos hq]
 ·rw [if_neg (by rw [decide_eq_true_eq];omega),if_neg hq];rfl
theorem pQ {n:Nat} {rows ws:List Aa} (hn:n≤1000) (hr:Hd rows) (hw:B1 n ws):Kb rows ws=some (BB rows ws):=by
 have Mo:=hr.len;have Lg:=hw.len;have hq:((([]:List Aa).length:Int)+((rows).length:Int))*40≤140737488355328∧(([]:List Aa).length:Int)+((rows).length:Int)≤140737488355328:=by rw [List.length_nil];omega
 unfold Kb;rw [B5 hq];have h1:=LG (xs:=ws) (body:=fun s:Int × List Aa=>HR ws s.1 s.2) (fun i (o:List Aa)=>(i,o)) (fun o w=>Br wk w o) (fun o=>Pf o) (fun i o=>B1 (24+i) o)
  (fun i hi o hI=>by have hI:B1 (24+i) o:=hI;have hol:=hI.len;refine⟨?_,Gj hI (hw.bm _ (List.getElem_mem hi))⟩;show HR ws i o=_;unfold HR;rw [if_pos (by simpa using hi),By hi,Ab,M5 (by omega) hI.bk,Ab,C6 hi (by omega)])
  (fun o hI=>by show HR ws ws.length o=_;unfold HR;rw [if_neg (by simp)]) (s:=rows) ⟨hr.bk,hr.len,hr.bm⟩
 rw [h1.1];have hK:B1 (24+ws.length) (ws.foldl (fun o w=>Br wk w o) rows):=h1.2;have Et:=hK.len;unfold BB;generalize ws.foldl (fun o w=>Br wk w o) rows=l at Et;unfold Pf;have h2:=LG (xs:=l) (body:=fun s:List Aa × Int=>HQ l s.1 s.2) (fun i (o:List Aa)=>(o,i)) (fun o w=>if(!w.ar)=true then o++ [id w]else o) (fun o=>some o) (fun i o=>o.length≤i)
  (fun i hi o hI=>by
   have hI:o.length≤i:=hI;have hr:(((o).length:Int)+(([l[i]]:List Aa).length:Int))*40≤140737488355328∧((o).length:Int)+(([l[i]]:List Aa).length:Int)≤140737488355328:=by rw [Bm];omega
   refine⟨?_,by show List.length _≤_;split;rw [AB,Bm];omega;omega⟩;show HQ l o i=_;unfold HQ;rw [if_pos (by simpa using hi),By hi,Ab,C6 hi (by omega)];cases(!(l[i]).ar)with
   |false=>rfl
   |true=>rw [if_pos rfl,B5 hr];rfl)
  (fun o _=>by show HQ l o l.length=_;unfold HQ;rw [if_neg (by simp)]) (s:= []) (Nat.le_refl _)
 refine h2.1.trans ?_;rw [Z5 (fun w:Aa=> !w.ar) id l []];simp
theorem S6 {l:List Aa} (h:Ez l=true):B1 24 l:=by have hr:=Y2 h;unfold Ez at h;simp only [Ad,decide_eq_true_eq]at h;exact⟨hr,by omega,AJ.1 h.2.1⟩
theorem tP {l:List Aa} (h:CS l):Ng l:=List.Pairwise.imp (fun{a b} h=>GR h) h
theorem ZQ {rows ws:List Aa} (hr:CS rows) (hw:CS ws) (y:Aa):y∈BB rows ws↔(y∈ws∨y∈rows∧ ∀w∈ws,w.ab≠y.ab)∧y.ar=false:=by unfold BB;rw [List.mem_filter,SW ws (tP hw) hr y];simp
theorem pI {rows ws:List Aa} (hr:Hd rows) (hw:B1 24 ws):BB (BB rows ws) ws=BB rows ws:=by
 obtain⟨p1,p2,p3,p4⟩:=Wr (by omega) hr hw;refine DW.ext (key:=wk) ?_ p1 fun x=> ?_
 ·exact DW.filter (Wu ws p1) _
 ·rw [ZQ p1 hw.bk,ZQ hr.bk hw.bk];constructor
  ·rintro⟨h|⟨h,_⟩,g⟩
   ·exact⟨.inl h,g⟩
   ·exact h
  ·rintro⟨h|h,g⟩
   ·exact⟨.inl h,g⟩
   ·exact⟨.inr ⟨⟨.inr h,g⟩,h.2⟩,g⟩
def putV (a b:List Aa):List Aa × Bool:=if CN a=true∧Ez b=true∧(BB a b).length≤24 then(BB a b,true)else([],false)
theorem XB {a b:List Aa} (ha:EB a) (hb:EB b):MN a b=some (putV a b):=by
 unfold MN putV;rw [Xh ha,Ab];cases h1:CN a with
 |false=>simp
 |true=>
  rw [if_pos rfl,bO hb,Ab];cases h2:Ez b with
  |false=>simp
  |true=>
   rw [if_neg (by simp),pD (by omega) (Gh h1).1 (S6 h2),Ab];by_cases h3:(BB a b).length≤24
   ·rw [if_neg (by omega),if_pos ⟨rfl,rfl,h3⟩]
   ·rw [if_pos (by omega),if_neg (by simp;omega)]
theorem wF {a b:List Aa} (ha:EB a) (hb:EB b):RS a b=some (putV a b):=by
 unfold RS putV;rw [S2 ha,Ab];cases h1:CN a with
 |false=>simp
 |true=>
  rw [if_pos rfl,bS hb,Ab];cases h2:Ez b with
  |false=>simp
  |true=>
   have hw:=S6 h2;obtain⟨p1,p2,p3,p4⟩:=Wr (by omega) (Gh h1).1 hw;rw [if_pos rfl,pQ (by omega) (Gh h1).1 hw,Ab,S2 (ML (by omega) p3),Ab,Se p1 p3 p4];by_cases h3:(BB a b).length≤24
   ·rw [if_neg (by simp;omega),if_pos ⟨rfl,rfl,h3⟩,Ab]
   ·rw [if_pos (by simp;omega),if_neg (by simp;omega)]
theorem bB {a b:List Aa} (h:(putV a b).2=true):CN (putV a b).1=true∧Ez b=true∧CN a=true∧(putV a b).1=BB a b∧(BB a b).length≤24:=by
 unfold putV at h ⊢;split at h
 ·rename_i hc;rw [if_pos hc];obtain⟨p1,p2,p3,p4⟩:=Wr (by omega) (Gh hc.1).1 (S6 hc.2.1);refine⟨?_,hc.2.1,hc.1,rfl,hc.2.2⟩;show CN (BB a b)=true;rw [Se p1 p3 p4];have:=hc.2.2;simp;omega
 ·cases h
theorem oP {n:Nat} {l:List Aa} (hn:n≤24) (h:B1 n l):Ez l=true:=by
 have h1:H2 (l.map (·.ab))=true:=by rw [Sf,Pw];exact(PR (r:=fun a b:Aa=>bl a.ab b.ab) fun a b c p q=>G8 p q).2 h.bk
 have hl:=h.len;unfold Ez;rw [h1,AJ.2 h.bm];simp;omega
def Jv (rows:List Aa) (ops:List Ap):Bool:=(DV rows ops).2.2&&decide ((BB rows (DV rows ops).2.1).length≤24)
def Iy (rows:List Aa) (ops:List Ap):List Aa:=if Jv rows ops=true then BB rows (DV rows ops).2.1 else rows
def CE:List (List Ap)→List Aa→List Aa × List Bool
 | [],rows=>(rows, [])
 |ops::l,rows=>((CE l (Iy rows ops)).1,Jv rows ops::(CE l (Iy rows ops)).2)
theorem Sr {rows:List Aa} {ops:List Ap} (hl:E8 ops=true) (hg:CN rows=true):CN (Iy rows ops)=true:=by
 obtain⟨hr,_⟩:=Gh hg;obtain⟨h8,ho⟩:=PH hl;obtain⟨_,_,hw,_⟩:=PW h8 ho hr;obtain⟨p1,p2,p3,p4⟩:=aK hr hw;unfold Iy Jv;split
 ·rename_i h;rw [Ad,decide_eq_true_eq]at h;rw [Se p1 p3 p4];have:=h.2;simp;omega
 ·exact hg
def Ir (rows:List Aa) (l:List (List Ap)):List Aa × List Bool × Bool:=
 if CN rows=true∧l.length≤20∧l.all E8=true then((CE l rows).1,(CE l rows).2,true)else([], [],false)
theorem Nx {bs:List Bool} {b:Bool} (h:bs.length≤100):(((bs).length:Int)+(([b]:List Bool).length:Int))*1≤140737488355328∧((bs).length:Int)+(([b]:List Bool).length:Int)≤140737488355328:=by rw [Bm];omega
theorem sM {rows:List Aa} {l:List (List Ap)} (hr:EB rows) (hl:l.length≤2000000) (ho: ∀ops∈l,Io ops):RA rows l=some (Ir rows l):=by
 unfold RA Ir;rw [Xh hr,Ab];cases h1:CN rows with
 |false=>simp
 |true=>
  rw [if_pos rfl];by_cases h2:l.length≤20
  ·have e1:Gg l (fun y0_=>RG y0_)=some (l.any fun o=> !E8 o):=S0 _ (fun o hm=>by
    unfold RG;rw [aC (ho o hm)];rfl) (by omega)
   rw [if_neg (by simp;omega),e1,Ab,←List.not_all_eq_any_not];cases h3:l.all E8 with
   |false=>simp
   |true=>
    rw [if_neg (by simp),if_pos ⟨rfl,h2,rfl⟩];have Au:=Gh h1;have Mo:=Au.1.len;have hc:MA rows=some rows:=W8 (by omega) (by omega);rw [hc,Ab];rw [AJ]at h3;have key: ∀(n q:Nat) (rs:List Aa) (bs:List Bool),q+n=l.length→CN rs=true→bs.length=q→A5 (fun s:Int × List Aa × List Bool=>Lo l s.1 s.2.1 s.2.2) ((q:Int),rs,bs)=some ((CE (l.drop q) rs).1,bs++(CE (l.drop q) rs).2,true):=by
     intro n
     induction n with
     |zero=>intro q rs bs hq hg hb;rw [List.drop_eq_nil_of_le (by omega),CE];refine Fl ?_;show Lo l q rs bs=_;unfold Lo;rw [if_neg (by simp;omega)];simp
     |succ n ih=>
      intro q rs bs hq hg hb;have Am:q<l.length:=by omega
      have CA:=h3 _ (List.getElem_mem Am);obtain⟨h8,K5⟩:=PH CA;obtain⟨hR,_⟩:=Gh hg;obtain⟨ei,es,hw,_⟩:=PW h8 K5 hR;rw [List.drop_eq_getElem_cons Am,CE];have e:Lo l q rs bs=some (.inl (((q+1:Nat):Int),Iy rs l[q],bs++ [Jv rs l[q]])):=by
       unfold Lo;rw [if_pos (by simpa using Am),By Am,Ab,ei,Ab,qO hR hw,Ab,C6 Am (by omega)];unfold Iy Jv;cases hd:(DV rs l[q]).2.2 with
       |false=>simp only [Bool.false_and,AY,if_false];rw [B5 (Nx (by omega))]
       |true=>
        by_cases hn:(BB rs (DV rs l[q]).2.1).length≤24
        ·rw [if_neg (show¬(BB rs (DV rs l[q]).2.1).length>24 by omega)];simp only [Bool.and_self,if_true,decide_eq_true hn];rw [B5 (Nx (by omega))]
        ·rw [if_pos (show(BB rs (DV rs l[q]).2.1).length>24 by omega)];simp only [Bool.and_false,AY,if_false,decide_eq_false hn];rw [B5 (Nx (by omega))]
      rw [Fk (body:=fun s:Int × List Aa × List Bool=>Lo l s.1 s.2.1 s.2.2) e,ih (q+1) _ _ (by omega) (Sr CA hg) (by simp [hb])];simp
    have:=key l.length 0 rows [] (by omega) h1 rfl;simpa using this
  ·rw [if_pos (by simp;omega),if_neg (by simp;omega)]
theorem uB {rows:List Aa} {l:List (List Ap)} (hr:EB rows) (hl:l.length≤2000000) (ho: ∀ops∈l,Io ops):Rx rows l=some (Ir rows l):=by
 unfold Rx Ir;rw [S2 hr,Ab];cases h1:CN rows with
 |false=>simp
 |true=>
  by_cases h2:l.length≤20
  ·rw [if_neg (by simp;omega)];rw [LM (xs:=l) (body:=fun s:Int=>ME rows l s) E8 ([], [],false) (Vx rows l) (fun i hi=>by
    show ME rows l i=_;unfold ME;rw [if_pos (by simpa using hi),By hi,Ab,qB (ho _ (List.getElem_mem hi)),Ab,C6 hi (by omega)];cases E8 l[i]<;>rfl) (by
    show ME rows l l.length=_;unfold ME;rw [if_neg (by simp)])]
   cases h3:l.all E8 with
   |false=>simp
   |true=>
    rw [if_pos rfl,if_pos ⟨rfl,h2,rfl⟩];have Au:=Gh h1;have Mo:=Au.1.len;have UX:((([]:List Aa).length:Int)+((rows).length:Int))*40≤140737488355328∧(([]:List Aa).length:Int)+((rows).length:Int)≤140737488355328:=by rw [List.length_nil];omega
    unfold Vx;rw [B5 UX];rw [AJ]at h3;have key: ∀(n q:Nat) (rs:List Aa) (bs:List Bool),q+n=l.length→CN rs=true→bs.length=q→A5 (fun s:List Bool × Int × List Aa=>Lp l s.1 s.2.1 s.2.2) (bs,(q:Int),rs)=some ((CE (l.drop q) rs).1,bs++(CE (l.drop q) rs).2,true):=by
     intro n
     induction n with
     |zero=>intro q rs bs hq hg hb;rw [List.drop_eq_nil_of_le (by omega),CE];refine Fl ?_;show Lp l bs q rs=_;unfold Lp;rw [if_neg (by simp;omega)];simp
     |succ n ih=>
      intro q rs bs hq hg hb;have Am:q<l.length:=by omega
      have CA:=h3 _ (List.getElem_mem Am);obtain⟨h8,K5⟩:=PH CA;obtain⟨hR,_⟩:=Gh hg;obtain⟨ei,es,hw,_⟩:=PW h8 K5 hR;obtain⟨p1,p2,p3,p4⟩:=aK hR hw;rw [List.drop_eq_getElem_cons Am,CE];have e:Lp l bs q rs=some (.inl (bs++ [Jv rs l[q]],((q+1:Nat):Int),Iy rs l[q])):=by
       unfold Lp;rw [if_pos (by simpa using Am),By Am,Ab,es,Ab,qG hR hw,Ab,C6 Am (by omega)];unfold Iy Jv;cases hd:(DV rs l[q]).2.2 with
       |false=>simp only [Bool.false_and,AY,if_false];rw [B5 (Nx (by omega))]
       |true=>
        rw [if_pos rfl,S2 (ML (by omega) p3),Ab,Se p1 p3 p4];by_cases hn:(BB rs (DV rs l[q]).2.1).length≤24
        ·have e3:decide (((BB rs (DV rs l[q]).2.1).length:Int)≤24)=true:=by simp;omega
         rw [e3];simp only [Bool.and_self,if_true,decide_eq_true hn];rw [B5 (Nx (by omega))]
        ·have e3:decide (((BB rs (DV rs l[q]).2.1).length:Int)≤24)=false:=by simp;omega
         rw [e3];simp only [Bool.and_false,AY,if_false,decide_eq_false hn];rw [B5 (Nx (by omega))]
      rw [Fk (body:=fun s:List Bool × Int × List Aa=>Lp l s.1 s.2.1 s.2.2) e,ih (q+1) _ _ (by omega) (Sr CA hg) (by simp [hb])];simp
    have:=key l.length 0 rows [] (by omega) h1 rfl;simpa using this
  ·rw [if_pos (by simp;omega),if_neg (by simp;omega)]
end Go.Proofs.YtollgpkegmbpmaaGreatDoor
end

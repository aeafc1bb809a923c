/- Parts of a proof, joined: QR4, QR, LH, FFnExactHoldsAt, N19, N20, N21, N22, QE, LI, FFnExactIsHeld, FAll. -/
import Derived.Test.YtecngjbpbnfegaaGreatDoorK9
import Derived.Test.YtecngjbpbnfegaaGreatDoorRows
import Derived.WalkKit
import Derived.ProofKit
import Derived.OpenShut
import Derived.ShutString
import Derived.ChangeOld
import Derived.Below
import Derived.Lay
import Derived.MakeChecks
import Derived.LaidLaws
import Derived.Stop.Joined
import Derived.SevenTiedAt
import Derived.Test.YtecngjbpbnfegaaGreatDoorCards
import Derived.Test.YtecngjbpbnfegaaGreatDoorTie
section
namespace Go.Proofs.YtecngjbpbnfegaaGreatDoor
open Go.RowKit
set_option maxRecDepth 100000
set_option maxHeartbeats 4000000
def zf1:Tr:= .chk [] (.agg (.var 0) 3)<| .chk [] (.agg (.var 1) 1)<| .chk [] (.roomS (.fld (.var 0) 0 1 false) (.str (ByteArray.mk #[47])))<| .chk [] (.dfd (.sbin .add (.fld (.var 0) 0 1 false) (.str (ByteArray.mk #[47]))))<| .chk [] (.inb (.int .i64 (0)) (.fld (.var 1) 0 1 false) 1)<| .chk [] (.roomS (.sbin .add (.fld (.var 0) 0 1 false) (.str (ByteArray.mk #[47]))) (.fld (.idx (.fld (.var 1) 0 1 false) (.int .i64 (0))) 0 1 false))<| .chk [] (.dfd (.sbin .add (.sbin .add (.fld (.var 0) 0 1 false) (.str (ByteArray.mk #[47]))) (.fld (.idx (.fld (.var 1) 0 1 false) (.int .i64 (0))) 0 1 false)))<| .chk [] (.issl (.fld (.var 1) 0 1 false) 1)<| .chk [] (.win (.fld (.var 1) 0 1 false) (.int .i64 (1)) (.len (.fld (.var 1) 0 1 false)))<| .call [] (.inl 154) (.cons (.win (.fld (.var 1) 0 1 false) (.int .i64 (1)) (.len (.fld (.var 1) 0 1 false))) (.cons (.str (ByteArray.mk #[44])) .nil))<| .chk [] (.cells (.sbin .add (.sbin .add (.fld (.var 0) 0 1 false) (.str (ByteArray.mk #[47]))) (.fld (.idx (.fld (.var 1) 0 1 false) (.int .i64 (0))) 0 1 false)) 1)<| .chk [] (.cells (.var 2) 1)<| .ret (.mk (.cons (.sbin .add (.sbin .add (.fld (.var 0) 0 1 false) (.str (ByteArray.mk #[47]))) (.fld (.idx (.fld (.var 1) 0 1 false) (.int .i64 (0))) 0 1 false)) (.cons (.var 2) (.cons (.bool false) .nil))))
theorem ziM:zbj Tryz.prog sgs 145=some zf1:=by kernel_rfl
theorem ziI (a0:zab) (a1:zdN) (r:zag) (h:zca a0 a1=some r):Rts Tryz.prog sgs 145 [zae a0,zgh a1] (zar r):=by
 refine zah ziM (by kernel_rfl) ?_
 unfold Den zf1
 unfold zca at h
 refine zaa (by simp) ?_
 refine zaa (by simp) ?_
 obtain⟨q1,h⟩:=zfa h
 refine zaa (fun _=>zde (show _=AV.str (a0.fName)from by simp) (show _=AV.str (([47]:List UInt8))from by simp) (by simpa using q1)) ?_
 refine zaa (by simp) ?_
 obtain⟨y2,hy2,h⟩:=zaD h
 have hy2':=(zaG hy2).2.2
 try simp at hy2'
 refine zaa (fun _=>zaH (kk:= .i64) (f:=zal) (by simp) (by simp) hy2 (by simp)) ?_
 obtain⟨q3,h⟩:=zfa h
 refine zaa (fun _=>zde (show _=AV.str ((a0.fName++([47]:List UInt8)))from by simp) (show _=AV.str (y2)from by simp [hy2']) (by simpa using q3)) ?_
 refine zaa (by simp [hy2']) ?_
 refine zaa (fun _=>zi4 zal (show _=AV.sl (List.map zal a1.fVals)from by simp) (by simp)) ?_
 obtain⟨q5,h⟩:=zfa h
 refine zaa (fun _=>zwN (ka:= .i64) (kb:= .i64) (a:=1) (b:=(a1.fVals.length:Int)) (by simp) (by simp) (show _=AV.sl (List.map zal a1.fVals)from by simp) (by simpa using q5)) ?_
 refine zac zal h (fun x hx=>by simpa using zqk (zhh a1.fVals 1 (a1.fVals.length:Int)) ([44]:List UInt8) x hx) (fun v4 cv4 h=> ?_)
 refine zaa (by simp [hy2']) ?_
 refine zaa (by simp) ?_
 exact zad (av:=zar) h (by simp [hy2'])
def zgj:Tr:= .chk [] (.agg (.var 0) 3)<| .chk [] (.agg (.var 1) 3)<| .chk [] (.roomS (.fld (.var 0) 0 1 false) (.str (ByteArray.mk #[47])))<| .chk [] (.dfd (.sbin .add (.fld (.var 0) 0 1 false) (.str (ByteArray.mk #[47]))))<| .call [] (.inl 112) (.cons (.fld (.var 1) 0 1 false) (.cons (.sbin .add (.fld (.var 0) 0 1 false) (.str (ByteArray.mk #[47]))) .nil))<| .chk [] (.flat (.proj (.var 2) 0) 1 false)<| .call [] (.inl 143) (.cons (.fld (.var 1) 1 1 false) (.cons (.str (ByteArray.mk #[44])) .nil))<| .chk [] (.room (.lst (.cons (.proj (.var 2) 0) .nil)) (.var 3) 16)<| .chk [] (.flatS (.var 3) 1)<| .chk [] (.dfd (.not (.proj (.var 2) 1)))<| .call [((.not (.proj (.var 2) 1)),false)] (.inl 144) (.cons (.mk (.cons (.fld (.var 0) 0 1 false) (.cons (.fld (.var 0) 1 1 false) (.cons (.fld (.var 0) 2 1 false) .nil)))) (.cons (.mk (.cons (.app (.lst (.cons (.proj (.var 2) 0) .nil)) (.var 3)) .nil)) .nil))<| .chk [((.not (.proj (.var 2) 1)),false)] (.dfd (.not (.var 4)))<| .chk [] (.dfd (.not (.not (.proj (.var 2) 1))))<| .call [((.ite (.not (.proj (.var 2) 1)) (.bool true) (.not (.var 4))),false)] (.inl 145) (.cons (.mk (.cons (.fld (.var 0) 0 1 false) (.cons (.fld (.var 0) 1 1 false) (.cons (.fld (.var 0) 2 1 false) .nil)))) (.cons (.mk (.cons (.app (.lst (.cons (.proj (.var 2) 0) .nil)) (.var 3)) .nil)) .nil))<| .chk [((.ite (.not (.proj (.var 2) 1)) (.bool true) (.not (.var 4))),false)] (.kinds (.mk (.cons (.fld (.var 1) 0 1 false) (.cons (.fld (.var 1) 1 1 false) (.cons (.fld (.var 1) 2 1 false) .nil)))) [.str, .str, .bool])<| .chk [((.ite (.not (.proj (.var 2) 1)) (.bool true) (.not (.var 4))),false)] (.kinds (.var 5) [.str, .str, .bool])<| .chk [] (.dfd (.not (.ite (.not (.proj (.var 2) 1)) (.bool true) (.not (.var 4)))))<| .ite (.ite (.ite (.not (.proj (.var 2) 1)) (.bool true) (.not (.var 4))) (.bool true) (.not (.aeq (.mk (.cons (.fld (.var 1) 0 1 false) (.cons (.fld (.var 1) 1 1 false) (.cons (.fld (.var 1) 2 1 false) .nil)))) (.var 5)))) ( .ret (.tup (.cons (.mk (.cons (.lst .nil) .nil)) (.cons (.bool false) .nil)))) ( .ret (.tup (.cons (.mk (.cons (.app (.lst (.cons (.proj (.var 2) 0) .nil)) (.var 3)) .nil)) (.cons (.bool true) .nil))))
theorem zjo:zbj Tryz.prog sgs 136=some zgj:=by kernel_rfl
theorem zjk (a0:zab) (a1:zag) (r:zdN × Bool) (h:zcg a0 a1=some r):Rts Tryz.prog sgs 136 [zae a0,zar a1] (zeO r):=by
 refine zah zjo (by kernel_rfl) ?_
 unfold Den zgj
 unfold zcg at h
 refine zaa (by simp) ?_
 refine zaa (by simp) ?_
 obtain⟨q1,h⟩:=zfa h
 refine zaa (fun _=>zde (show _=AV.str (a0.fName)from by simp) (show _=AV.str (([47]:List UInt8))from by simp) (by simpa using q1)) ?_
 refine zaa (by simp) ?_
 refine zac zha h (fun x hx=>by simpa using zhH a1.fKey (a0.fName++([47]:List UInt8)) x hx) (fun v2 cv2 h=> ?_)
 refine zaa (by simp) ?_
 refine zac zbK h (fun x hx=>by simpa using zp5 a1.fVal ([44]:List UInt8) x hx) (fun v3 cv3 h=> ?_)
 obtain⟨q4,h⟩:=zfa h
 refine zaa (fun _=>zfU (show _=AV.sl (List.map zal ([v2.1]:List (List UInt8)))from by simp) (show _=AV.sl (List.map zal v3)from by simp) (by simpa using q4)) ?_
 refine zaa (fun _=>zfY zal (show _=AV.sl (List.map zal v3)from by simp) (by simp)) ?_
 refine zaa (by simp) ?_
 refine zav h (fun e5 h=> ?_) (fun e5 h=> ?_)
 ·refine zac avB h (fun x hx=>by simpa using zkK a0 (⟨([v2.1]++v3)⟩:zdN) x hx) (fun v6 cv6 h=> ?_)
  refine zaa (by simp) ?_
  refine zaa (by simp) ?_
  refine zav h (fun e7 h=> ?_) (fun e7 h=> ?_)
  ·refine zac zar h (fun x hx=>by simpa using ziI a0 (⟨([v2.1]++v3)⟩:zdN) x hx) (fun v8 cv8 h=> ?_)
   refine zaa (by simp) ?_
   refine zaa (by simp) ?_
   refine zaa (by simp [e5,e7]) ?_
   refine zam h (by simp [e5,e7]) (fun e9 h=> ?_) (fun e9 h=> ?_)
   ·exact zad (av:=zeO) h (by simp)
   ·exact zad (av:=zeO) h (by simp)
  ·refine zaJ (by simp [e5,e7]) ?_
   refine zaa (by simp [e5,e7]) ?_
   refine zaa (by simp [e5,e7]) ?_
   refine zaa (by simp [e5,e7]) ?_
   refine zdt (by simp [e5,e7]) ?_
   exact zad (av:=zeO) h (by simp)
 ·refine zaJ (by simp [e5]) ?_
  refine zaa (by simp [e5]) ?_
  refine zaa (by simp) ?_
  refine zaJ (by simp [e5]) ?_
  refine zaa (by simp [e5]) ?_
  refine zaa (by simp [e5]) ?_
  refine zaa (by simp [e5]) ?_
  refine zdt (by simp [e5]) ?_
  exact zad (av:=zeO) h (by simp)
def zgY:Tr:= .chk [] (.agg (.var 0) 3)<| .chk [] (.dfd (.len (.var 1)))<| .loop (.cons (.int .i64 (0)) (.cons (.lst .nil) .nil)) ( .chk [] (.dfd (.bin .lss (.var 2) (.len (.var 1))))<| .ite (.bin .lss (.var 2) (.len (.var 1))) ( .join ( .chk [] (.inb (.var 2) (.var 1) 3)<| .chk [] (.agg (.fld (.idx (.var 1) (.var 2)) 0 3 true) 3)<| .call [] (.inl 136) (.cons (.mk (.cons (.fld (.var 0) 0 1 false) (.cons (.fld (.var 0) 1 1 false) (.cons (.fld (.var 0) 2 1 false) .nil)))) (.cons (.mk (.cons (.fld (.fld (.idx (.var 1) (.var 2)) 0 3 true) 0 1 false) (.cons (.fld (.fld (.idx (.var 1) (.var 2)) 0 3 true) 1 1 false) (.cons (.fld (.fld (.idx (.var 1) (.var 2)) 0 3 true) 2 1 false) .nil)))) .nil))<| .ite (.proj (.var 4) 1) ( .chk [] (.agg (.mk (.cons (.fld (.proj (.var 4) 0) 0 1 false) .nil)) 1)<| .chk [] (.room (.var 3) (.lst (.cons (.mk (.cons (.fld (.proj (.var 4) 0) 0 1 false) .nil)) .nil)) 24)<| .chk [] (.issl (.lst (.cons (.mk (.cons (.fld (.proj (.var 4) 0) 0 1 false) .nil)) .nil)) 1)<| .jmp 0 (.cons (.app (.var 3) (.lst (.cons (.mk (.cons (.fld (.proj (.var 4) 0) 0 1 false) .nil)) .nil))) .nil)) ( .jmp 0 (.cons (.var 3) .nil))) ( .chk [] (.dfd (.bin .add (.var 2) (.int .i64 (1))))<| .jmp 0 (.cons (.bin .add (.var 2) (.int .i64 (1))) (.cons (.var 4) .nil)))) ( .jmp 1 (.cons (.var 3) .nil))) ( .ret (.var 2))
theorem zjI:zbj Tryz.prog sgs 119=some zgY:=by kernel_rfl
theorem zjX (a0:zab) (a1:List zag) (r:List zdN) (h:zdu a0 a1=some r):Rts Tryz.prog sgs 119 [zae a0, .sl (a1.map zar)] (.sl (r.map zgh)):=by
 refine zah zjI (by kernel_rfl) ?_
 unfold Den zgY
 unfold zdu at h
 refine zaa (by simp) ?_
 refine zaa (by simp) ?_
 refine zbB (fun s:Int × List zdN=> [.int .i64 s.1, .sl (s.2.map zgh)]) h (by simp) (fun W1 A1 s o1 h hn1 hf1 hk1=> ?_)
 obtain⟨v1,v2⟩:=s
 replace h:zaR a0 a1 v1 v2=some o1:=h
 unfold zaR at h
 refine zaa (by simp) ?_
 refine zam h (by simp) (fun e3 h=> ?_) (fun e3 h=> ?_)
 ·refine zic fun j4 hj4=> ?_
  obtain⟨y5,hy5,h⟩:=zaD h
  have hy5':=(zaG hy5).2.2
  refine zaa (fun _=>zaH (kk:= .i64) (f:=zar) (by simp) (by simp) hy5 (by simp)) ?_
  refine zaa (by simp [e3,hy5']) ?_
  refine zac zeO h (fun x hx=>by simpa [e3,hy5']using zjk a0 y5 x hx) (fun v6 cv6 h=> ?_)
  refine zam h (by simp) (fun e7 h=> ?_) (fun e7 h=> ?_)
  ·refine zaa (by simp) ?_
   obtain⟨q8,h⟩:=zfa h
   refine zaa (fun _=>zfU (show _=AV.sl (List.map zgh v2)from by simp) (show _=AV.sl (List.map zgh ([v6.1]:List zdN))from by simp) (by simpa using q8)) ?_
   refine zaa (fun _=>zi4 zgh (show _=AV.sl (List.map zgh ([v6.1]:List zdN))from by simp) (by simp)) ?_
   refine zaN hj4 rfl (vs:= [.sl ((v2++ [v6.1]).map zgh)]) (by simp) ?_
   refine zaa (by simp) ?_
   exact za4 (K:=fun s=>some (Sum.inl s)) (s:=((IntKind.i64.wrap (v1+1)),(v2++ [v6.1]))) hn1 h rfl (by simp)
  ·refine zaN hj4 rfl (vs:= [.sl (v2.map zgh)]) (by simp) ?_
   refine zaa (by simp) ?_
   exact za4 (K:=fun s=>some (Sum.inl s)) (s:=((IntKind.i64.wrap (v1+1)),v2)) hn1 h rfl (by simp)
 ·refine zaN hk1 rfl (vs:= [.sl (v2.map zgh)]) (by simp) ?_
  replace h:=(hf1 _ h)
  exact zad (av:=zu8) h (by simp)
def zgX:Tr:= .chk [] (.agg (.var 0) 3)<| .chk [] (.agg (.var 2) 1)<| .call [] (.inl 113) (.cons (.mk (.cons (.fld (.var 0) 0 1 false) (.cons (.fld (.var 0) 1 1 false) (.cons (.fld (.var 0) 2 1 false) .nil)))) (.cons (.var 1) .nil))<| .call [] (.inl 90) (.cons (.mk (.cons (.fld (.var 0) 0 1 false) (.cons (.fld (.var 0) 1 1 false) (.cons (.fld (.var 0) 2 1 false) .nil)))) (.cons (.var 1) .nil))<| .chk [] (.agg (.var 4) 3)<| .chk [] (.inb (.fld (.var 4) 1 1 false) (.fld (.var 2) 0 1 false) 1)<| .chk [] (.roomS (.var 3) (.fld (.idx (.fld (.var 2) 0 1 false) (.fld (.var 4) 1 1 false)) 0 1 false))<| .chk [] (.dfd (.sbin .add (.var 3) (.fld (.idx (.fld (.var 2) 0 1 false) (.fld (.var 4) 1 1 false)) 0 1 false)))<| .chk [] (.roomS (.sbin .add (.var 3) (.fld (.idx (.fld (.var 2) 0 1 false) (.fld (.var 4) 1 1 false)) 0 1 false)) (.str (ByteArray.mk #[47])))<| .chk [] (.dfd (.sbin .add (.sbin .add (.var 3) (.fld (.idx (.fld (.var 2) 0 1 false) (.fld (.var 4) 1 1 false)) 0 1 false)) (.str (ByteArray.mk #[47]))))<| .chk [] (.inb (.int .i64 (0)) (.fld (.var 2) 0 1 false) 1)<| .chk [] (.roomS (.sbin .add (.sbin .add (.var 3) (.fld (.idx (.fld (.var 2) 0 1 false) (.fld (.var 4) 1 1 false)) 0 1 false)) (.str (ByteArray.mk #[47]))) (.fld (.idx (.fld (.var 2) 0 1 false) (.int .i64 (0))) 0 1 false))<| .chk [] (.dfd (.sbin .add (.sbin .add (.sbin .add (.var 3) (.fld (.idx (.fld (.var 2) 0 1 false) (.fld (.var 4) 1 1 false)) 0 1 false)) (.str (ByteArray.mk #[47]))) (.fld (.idx (.fld (.var 2) 0 1 false) (.int .i64 (0))) 0 1 false)))<| .ret (.sbin .add (.sbin .add (.sbin .add (.var 3) (.fld (.idx (.fld (.var 2) 0 1 false) (.fld (.var 4) 1 1 false)) 0 1 false)) (.str (ByteArray.mk #[47]))) (.fld (.idx (.fld (.var 2) 0 1 false) (.int .i64 (0))) 0 1 false))
theorem zjz:zbj Tryz.prog sgs 120=some zgX:=by kernel_rfl
theorem zjG (a0:zab) (a1:List UInt8) (a2:zdN) (r:List UInt8) (h:zcw a0 a1 a2=some r):Rts Tryz.prog sgs 120 [zae a0, .str a1,zgh a2] (.str r):=by
 refine zah zjz (by kernel_rfl) ?_
 unfold Den zgX
 unfold zcw at h
 refine zaa (by simp) ?_
 refine zaa (by simp) ?_
 refine zac zal h (fun x hx=>by simpa using zgi a0 a1 x hx) (fun v1 cv1 h=> ?_)
 refine zac zbW h (fun x hx=>by simpa using zfR a0 a1 x hx) (fun v2 cv2 h=> ?_)
 refine zaa (by simp) ?_
 obtain⟨y3,hy3,h⟩:=zaD h
 have hy3':=(zaG hy3).2.2
 refine zaa (fun _=>zaH (kk:= .i64) (f:=zal) (by simp) (by simp) hy3 (by simp)) ?_
 obtain⟨q4,h⟩:=zfa h
 refine zaa (fun _=>zde (show _=AV.str (v1)from by simp) (show _=AV.str (y3)from by simp [hy3']) (by simpa using q4)) ?_
 refine zaa (by simp [hy3']) ?_
 obtain⟨q5,h⟩:=zfa h
 refine zaa (fun _=>zde (show _=AV.str ((v1++y3))from by simp [hy3']) (show _=AV.str (([47]:List UInt8))from by simp) (by simpa using q5)) ?_
 refine zaa (by simp [hy3']) ?_
 obtain⟨y6,hy6,h⟩:=zaD h
 have hy6':=(zaG hy6).2.2
 try simp at hy6'
 refine zaa (fun _=>zaH (kk:= .i64) (f:=zal) (by simp) (by simp) hy6 (by simp)) ?_
 obtain⟨q7,h⟩:=zfa h
 refine zaa (fun _=>zde (show _=AV.str (((v1++y3)++([47]:List UInt8)))from by simp [hy3',hy6']) (show _=AV.str (y6)from by simp [hy3',hy6']) (by simpa using q7)) ?_
 refine zaa (by simp [hy3',hy6']) ?_
 exact zad (av:=zal) h (by simp [hy3',hy6'])
def zgU:Tr:= .chk [] (.agg (.var 0) 3)<| .call [] (.inl 119) (.cons (.mk (.cons (.fld (.var 0) 0 1 false) (.cons (.fld (.var 0) 1 1 false) (.cons (.fld (.var 0) 2 1 false) .nil)))) (.cons (.var 2) .nil))<| .chk [] (.dfd (.len (.var 3)))<| .loop (.cons (.int .i64 (0)) (.cons (.lst .nil) .nil)) ( .chk [] (.dfd (.bin .lss (.var 4) (.len (.var 3))))<| .ite (.bin .lss (.var 4) (.len (.var 3))) ( .chk [] (.inb (.var 4) (.var 3) 1)<| .chk [] (.agg (.fld (.idx (.var 3) (.var 4)) 0 1 true) 1)<| .call [] (.inl 120) (.cons (.mk (.cons (.fld (.var 0) 0 1 false) (.cons (.fld (.var 0) 1 1 false) (.cons (.fld (.var 0) 2 1 false) .nil)))) (.cons (.var 1) (.cons (.mk (.cons (.fld (.fld (.idx (.var 3) (.var 4)) 0 1 true) 0 1 false) .nil)) .nil)))<| .chk [] (.flat (.var 6) 1 false)<| .chk [] (.room (.var 5) (.lst (.cons (.var 6) .nil)) 16)<| .chk [] (.flatS (.lst (.cons (.var 6) .nil)) 1)<| .chk [] (.dfd (.bin .add (.var 4) (.int .i64 (1))))<| .jmp 0 (.cons (.bin .add (.var 4) (.int .i64 (1))) (.cons (.app (.var 5) (.lst (.cons (.var 6) .nil))) .nil))) ( .jmp 1 (.cons (.var 5) .nil))) ( .ret (.var 4))
theorem zju:zbj Tryz.prog sgs 82=some zgU:=by kernel_rfl
theorem zhb (a0:zab) (a1:List UInt8) (a2:List zag) (r:List (List UInt8)) (h:zbZ a0 a1 a2=some r):Rts Tryz.prog sgs 82 [zae a0, .str a1, .sl (a2.map zar)] (.sl (r.map zal)):=by
 refine zah zju (by kernel_rfl) ?_
 unfold Den zgU
 unfold zbZ at h
 refine zaa (by simp) ?_
 refine zac zu8 h (fun x hx=>by simpa using zjX a0 a2 x hx) (fun v1 cv1 h=> ?_)
 refine zaa (by simp) ?_
 refine zbB (fun s:Int × List (List UInt8)=> [.int .i64 s.1, .sl (s.2.map zal)]) h (by simp) (fun W1 A1 s o1 h hn1 hf1 hk1=> ?_)
 obtain⟨v2,v3⟩:=s
 replace h:zaS a0 a1 v1 v2 v3=some o1:=h
 unfold zaS at h
 refine zaa (by simp) ?_
 refine zam h (by simp) (fun e4 h=> ?_) (fun e4 h=> ?_)
 ·obtain⟨y5,hy5,h⟩:=zaD h
  have hy5':=(zaG hy5).2.2
  refine zaa (fun _=>zaH (kk:= .i64) (f:=zgh) (by simp) (by simp) hy5 (by simp)) ?_
  refine zaa (by simp [e4,hy5']) ?_
  refine zac zal h (fun x hx=>by simpa [e4,hy5']using zjG a0 a1 y5 x hx) (fun v6 cv6 h=> ?_)
  refine zaa (by simp) ?_
  obtain⟨q7,h⟩:=zfa h
  refine zaa (fun _=>zfU (show _=AV.sl (List.map zal v3)from by simp) (show _=AV.sl (List.map zal ([v6]:List (List UInt8)))from by simp) (by simpa using q7)) ?_
  refine zaa (fun _=>zfY zal (show _=AV.sl (List.map zal ([v6]:List (List UInt8)))from by simp) (by simp)) ?_
  refine zaa (by simp) ?_
  exact za4 (K:=fun s=>some (Sum.inl s)) (s:=((IntKind.i64.wrap (v2+1)),(v3++ [v6]))) hn1 h rfl (by simp)
 ·refine zaN hk1 rfl (vs:= [.sl (v3.map zal)]) (by simp) ?_
  replace h:=(hf1 _ h)
  exact zad (av:=zbK) h (by simp)
def zfj:Tr:= .call [] (.inl 135) (.cons (.var 0) (.cons (.var 1) .nil))<| .chk [] (.dfd (.bin .eql (.var 2) (.int .i64 (-1))))<| .ite (.bin .eql (.var 2) (.int .i64 (-1))) ( .ret (.var 0)) ( .chk [] (.dfd (.bin .add (.var 2) (.int .i64 (1))))<| .loop (.cons (.var 2) (.cons (.bin .add (.var 2) (.int .i64 (1))) (.cons (.var 0) .nil))) ( .chk [] (.dfd (.len (.var 5)))<| .chk [] (.dfd (.bin .lss (.var 4) (.len (.var 5))))<| .ite (.bin .lss (.var 4) (.len (.var 5))) ( .join ( .chk [] (.inb (.var 4) (.var 5) 1)<| .call [] (.inr (.var 1)) (.cons (.fld (.idx (.var 5) (.var 4)) 0 1 false) .nil)<| .chk [] (.dfd (.not (.var 6)))<| .ite (.not (.var 6)) ( .chk [] (.inb (.var 3) (.var 5) 1)<| .chk [] (.flat (.fld (.idx (.var 5) (.var 4)) 0 1 false) 1 false)<| .chk [] (.flat (.fld (.idx (.var 5) (.var 3)) 0 1 false) 1 false)<| .chk [] (.dfd (.bin .add (.var 3) (.int .i64 (1))))<| .jmp 0 (.cons (.bin .add (.var 3) (.int .i64 (1))) (.cons (.set (.var 5) (.var 3) (.put (.idx (.var 5) (.var 3)) 0 (.fld (.idx (.var 5) (.var 4)) 0 1 false) false)) .nil))) ( .jmp 0 (.cons (.var 3) (.cons (.var 5) .nil)))) ( .chk [] (.dfd (.bin .add (.var 4) (.int .i64 (1))))<| .jmp 0 (.cons (.var 6) (.cons (.bin .add (.var 4) (.int .i64 (1))) (.cons (.var 7) .nil))))) ( .jmp 1 (.cons (.var 3) (.cons (.var 5) .nil)))) ( .chk [] (.win (.var 4) (.var 3) (.len (.var 4)))<| .chk [] (.win (.var 4) (.var 3) (.len (.var 4)))<| .chk [] (.dfd (.bin .sub (.len (.var 4)) (.var 3)))<| .chk [] (.win (.app (.win (.var 4) (.int .i64 (0)) (.var 3)) (.rep (.bin .sub (.len (.var 4)) (.var 3)) (.str (ByteArray.mk #[])))) (.int .i64 (0)) (.var 3))<| .ret (.win (.app (.win (.var 4) (.int .i64 (0)) (.var 3)) (.rep (.bin .sub (.len (.var 4)) (.var 3)) (.str (ByteArray.mk #[])))) (.int .i64 (0)) (.var 3))))
theorem zfh:zbj Tryz.prog sgs 116=some zfj:=by kernel_rfl
theorem zff (xs:List (List UInt8)) (p:(List UInt8)→Option Bool) (g:Nat) (caps:List AV) (r:List (List UInt8)) (h:zh0 xs p=some r) (hp: ∀x b,p x=some b→Rts Tryz.prog sgs (1000000+g) ((.str x)::caps) (.bool b)):Rts Tryz.prog sgs 116 [.sl (xs.map zal), .fn g caps] (.sl (r.map zal)):=zah zfh (by kernel_rfl) (zz2 (av:=zal) (fi:=135) (cn:=1) (g:=false) (X:=(.fld (.idx (.var 5) (.var 4)) 0 1 false)) (z:=(.str (ByteArray.mk #[]))) (ck:= []) (fun x=>⟨rfl,by simp,by simp,by simp⟩) (by decide) (fun a b c d j ys x tl hj=>by simp [AV.nth,hj]) (fun a b c d j ys x hj=>by simp [AV.nth,hj]) h (fun i hi=>zc4 xs p g caps i hi hp) hp)
def zi2:Tr:= .chk [] (.isref (.var 1) 0)<| .chk [] (.isref (.var 1) 1)<| .call [] (.inl 103) (.cons (.fld (.deref (.var 1)) 0 1 false) (.cons (.var 0) .nil))<| .ret (.var 2)
theorem zoB:zbj Tryz.prog sgs 118=some zi2:=by kernel_rfl
theorem zop (a0:List UInt8) (a1:List (List UInt8)) (r:Bool) (h:zex a0 a1=some r):Rts Tryz.prog sgs 118 [.str a0,zxB a1] (.bool r):=by
 refine zah zoB (by kernel_rfl) ?_
 unfold Den zi2
 unfold zex at h
 refine zaa (by simp) ?_
 refine zaa (by simp) ?_
 refine zac avB h (fun x hx=>by simpa using zdb a1 a0 x hx) (fun v1 cv1 h=> ?_)
 exact zad (av:=avB) h (by simp)
def zk8:Tr:= .chk [] (.cells (.var 1) 1)<| .call [] (.inl 117) (.cons (.var 0) .nil)<| .call [] (.inl 116) (.cons (.var 2) (.cons (.fn 118 (.cons (.ref (.mk (.cons (.var 1) .nil))) .nil)) .nil))<| .ret (.var 3)
theorem zrc:zbj Tryz.prog sgs 81=some zk8:=by kernel_rfl
theorem zkR (a0:List (List UInt8)) (a1:List (List UInt8)) (r:List (List UInt8)) (h:zez a0 a1=some r):Rts Tryz.prog sgs 81 [.sl (a0.map zal), .sl (a1.map zal)] (.sl (r.map zal)):=by
 refine zah zrc (by kernel_rfl) ?_
 unfold Den zk8
 unfold zez at h
 refine zaa (by simp) ?_
 refine zac zbK h (fun x hx=>by simpa using zdX a0 x hx) (fun v1 cv1 h=> ?_)
 refine zac zbK h (fun x hx=>by simpa using zff v1 (fun y0_=>zex y0_ a1) _ [zxB a1] x hx (fun y0_ b hb=>zg9 (zop y0_ a1 b hb) (by kernel_rfl))) (fun v2 cv2 h=> ?_)
 exact zad (av:=zbK) h (by simp)
def zfG:Tr:= .chk [] (.agg (.var 0) 3)<| .call [] (.inl 53) (.cons (.mk (.cons (.fld (.var 0) 0 1 false) (.cons (.fld (.var 0) 1 1 false) (.cons (.fld (.var 0) 2 1 false) .nil)))) (.cons (.var 1) (.cons (.var 2) .nil)))<| .call [] (.inl 82) (.cons (.mk (.cons (.fld (.var 0) 0 1 false) (.cons (.fld (.var 0) 1 1 false) (.cons (.fld (.var 0) 2 1 false) .nil)))) (.cons (.var 1) (.cons (.var 2) .nil)))<| .call [] (.inl 81) (.cons (.var 3) (.cons (.var 4) .nil))<| .ret (.var 5)
theorem zif:zbj Tryz.prog sgs 54=some zfG:=by kernel_rfl
theorem zfM (a0:zab) (a1:List UInt8) (a2:List zag) (r:List (List UInt8)) (h:zbP a0 a1 a2=some r):Rts Tryz.prog sgs 54 [zae a0, .str a1, .sl (a2.map zar)] (.sl (r.map zal)):=by
 refine zah zif (by kernel_rfl) ?_
 unfold Den zfG
 unfold zbP at h
 refine zaa (by simp) ?_
 refine zac zbK h (fun x hx=>by simpa using zdZ a0 a1 a2 x hx) (fun v1 cv1 h=> ?_)
 refine zac zbK h (fun x hx=>by simpa using zhb a0 a1 a2 x hx) (fun v2 cv2 h=> ?_)
 refine zac zbK h (fun x hx=>by simpa using zkR v1 v2 x hx) (fun v3 cv3 h=> ?_)
 exact zad (av:=zbK) h (by simp)
def zgl:Tr:= .chk [] (.agg (.var 0) 3)<| .call [] (.inl 82) (.cons (.mk (.cons (.fld (.var 0) 0 1 false) (.cons (.fld (.var 0) 1 1 false) (.cons (.fld (.var 0) 2 1 false) .nil)))) (.cons (.var 1) (.cons (.var 2) .nil)))<| .call [] (.inl 53) (.cons (.mk (.cons (.fld (.var 0) 0 1 false) (.cons (.fld (.var 0) 1 1 false) (.cons (.fld (.var 0) 2 1 false) .nil)))) (.cons (.var 1) (.cons (.var 2) .nil)))<| .call [] (.inl 81) (.cons (.var 3) (.cons (.var 4) .nil))<| .ret (.var 5)
theorem zjn:zbj Tryz.prog sgs 55=some zgl:=by kernel_rfl
theorem zji (a0:zab) (a1:List UInt8) (a2:List zag) (r:List (List UInt8)) (h:zc9 a0 a1 a2=some r):Rts Tryz.prog sgs 55 [zae a0, .str a1, .sl (a2.map zar)] (.sl (r.map zal)):=by
 refine zah zjn (by kernel_rfl) ?_
 unfold Den zgl
 unfold zc9 at h
 refine zaa (by simp) ?_
 refine zac zbK h (fun x hx=>by simpa using zhb a0 a1 a2 x hx) (fun v1 cv1 h=> ?_)
 refine zac zbK h (fun x hx=>by simpa using zdZ a0 a1 a2 x hx) (fun v2 cv2 h=> ?_)
 refine zac zbK h (fun x hx=>by simpa using zkR v1 v2 x hx) (fun v3 cv3 h=> ?_)
 exact zad (av:=zbK) h (by simp)
def zgr:Tr:= .chk [] (.agg (.var 0) 3)<| .chk [] (.dfd (.bin .eql (.var 2) (.int .i64 (0))))<| .ite (.bin .eql (.var 2) (.int .i64 (0))) ( .call [] (.inl 53) (.cons (.mk (.cons (.fld (.var 0) 0 1 false) (.cons (.fld (.var 0) 1 1 false) (.cons (.fld (.var 0) 2 1 false) .nil)))) (.cons (.var 1) (.cons (.var 3) .nil)))<| .chk [] (.dfd (.len (.var 4)))<| .ret (.bin .eql (.len (.var 4)) (.int .i64 (0)))) ( .chk [] (.dfd (.bin .eql (.var 2) (.int .i64 (1))))<| .ite (.bin .eql (.var 2) (.int .i64 (1))) ( .call [] (.inl 54) (.cons (.mk (.cons (.fld (.var 0) 0 1 false) (.cons (.fld (.var 0) 1 1 false) (.cons (.fld (.var 0) 2 1 false) .nil)))) (.cons (.var 1) (.cons (.var 3) .nil)))<| .chk [] (.dfd (.len (.var 4)))<| .ret (.bin .eql (.len (.var 4)) (.int .i64 (0)))) ( .call [] (.inl 54) (.cons (.mk (.cons (.fld (.var 0) 0 1 false) (.cons (.fld (.var 0) 1 1 false) (.cons (.fld (.var 0) 2 1 false) .nil)))) (.cons (.var 1) (.cons (.var 3) .nil)))<| .chk [] (.dfd (.len (.var 4)))<| .call [((.bin .eql (.len (.var 4)) (.int .i64 (0))),true)] (.inl 55) (.cons (.mk (.cons (.fld (.var 0) 0 1 false) (.cons (.fld (.var 0) 1 1 false) (.cons (.fld (.var 0) 2 1 false) .nil)))) (.cons (.var 1) (.cons (.var 3) .nil)))<| .chk [((.bin .eql (.len (.var 4)) (.int .i64 (0))),true)] (.dfd (.len (.var 5)))<| .chk [] (.dfd (.not (.bin .eql (.len (.var 4)) (.int .i64 (0)))))<| .ret (.ite (.bin .eql (.len (.var 4)) (.int .i64 (0))) (.bin .eql (.len (.var 5)) (.int .i64 (0))) (.bool false))))
theorem zjm:zbj Tryz.prog sgs 29=some zgr:=by kernel_rfl
theorem zgp (a0:zab) (a1:List UInt8) (a2:Int) (a3:List zag) (r:Bool) (h:zbE a0 a1 a2 a3=some r):Rts Tryz.prog sgs 29 [zae a0, .str a1, .int .i64 a2, .sl (a3.map zar)] (.bool r):=by
 refine zah zjm (by kernel_rfl) ?_
 unfold Den zgr
 unfold zbE at h
 refine zaa (by simp) ?_
 refine zaa (by simp) ?_
 refine zam h (by simp) (fun e1 h=> ?_) (fun e1 h=> ?_)
 ·refine zac zbK h (fun x hx=>by simpa using zdZ a0 a1 a3 x hx) (fun v2 cv2 h=> ?_)
  refine zaa (by simp) ?_
  exact zad (av:=avB) h (by simp)
 ·refine zaa (by simp) ?_
  refine zam h (by simp) (fun e3 h=> ?_) (fun e3 h=> ?_)
  ·refine zac zbK h (fun x hx=>by simpa using zfM a0 a1 a3 x hx) (fun v4 cv4 h=> ?_)
   refine zaa (by simp) ?_
   exact zad (av:=avB) h (by simp)
  ·refine zac zbK h (fun x hx=>by simpa using zfM a0 a1 a3 x hx) (fun v5 cv5 h=> ?_)
   refine zaa (by simp) ?_
   refine zav h (fun e6 h=> ?_) (fun e6 h=> ?_)
   ·refine zac zbK h (fun x hx=>by simpa using zji a0 a1 a3 x hx) (fun v7 cv7 h=> ?_)
    refine zaa (by simp) ?_
    refine zaa (by simp) ?_
    exact zad (av:=avB) h (by simp [e1,e3,e6])
   ·refine zaJ (by simp [e1,e3,e6]) ?_
    refine zaa (by simp [e1,e3,e6]) ?_
    refine zaa (by simp) ?_
    exact zad (av:=avB) h (by simp [e1,e3,e6])
def zg6:Tr:= .chk [] (.agg (.var 0) 4)<| .chk [] (.inb (.int .i64 (0)) (.fld (.var 0) 1 1 false) 3)<| .call [] (.inl 68) (.cons (.mk (.cons (.fld (.var 0) 0 1 false) (.cons (.fld (.var 0) 1 1 false) (.cons (.fld (.var 0) 2 1 false) (.cons (.fld (.var 0) 3 1 false) .nil))))) .nil)<| .call [] (.inl 29) (.cons (.fld (.idx (.fld (.var 0) 1 1 false) (.int .i64 (0))) 0 3 true) (.cons (.fld (.var 0) 0 1 false) (.cons (.var 1) (.cons (.fld (.var 0) 3 1 false) .nil))))<| .ret (.var 2)
theorem zkf:zbj Tryz.prog sgs 40=some zg6:=by kernel_rfl
theorem zjS (a0:zaB) (r:Bool) (h:zdn a0=some r):Rts Tryz.prog sgs 40 [zcS a0] (.bool r):=by
 refine zah zkf (by kernel_rfl) ?_
 unfold Den zg6
 unfold zdn at h
 refine zaa (by simp) ?_
 obtain⟨y1,hy1,h⟩:=zaD h
 have hy1':=(zaG hy1).2.2
 try simp at hy1'
 refine zaa (fun _=>zaH (kk:= .i64) (f:=zae) (by simp) (by simp) hy1 (by simp)) ?_
 refine zac zaw h (fun x hx=>by simpa using zlZ a0 x hx) (fun v2 cv2 h=> ?_)
 refine zac avB h (fun x hx=>by simpa [hy1']using zgp y1 a0.fName v2 a0.fStore x hx) (fun v3 cv3 h=> ?_)
 exact zad (av:=avB) h (by simp)
def zl7:Tr:= .chk [] (.agg (.var 0) 4)<| .call [] (.inl 39) (.cons (.mk (.cons (.fld (.var 0) 0 1 false) (.cons (.fld (.var 0) 1 1 false) (.cons (.fld (.var 0) 2 1 false) (.cons (.fld (.var 0) 3 1 false) .nil))))) .nil)<| .chk [] (.dfd (.not (.var 1)))<| .ite (.not (.var 1)) ( .ret (.tup (.cons (.bool false) (.cons (.bool false) .nil)))) ( .call [] (.inl 40) (.cons (.mk (.cons (.fld (.var 0) 0 1 false) (.cons (.fld (.var 0) 1 1 false) (.cons (.fld (.var 0) 2 1 false) (.cons (.fld (.var 0) 3 1 false) .nil))))) .nil)<| .ret (.tup (.cons (.var 2) (.cons (.bool true) .nil))))
theorem zrM:zbj Tryz.prog sgs 16=some zl7:=by kernel_rfl
theorem zsp (a0:zaB) (r:Bool × Bool) (h:zf5 a0=some r):Rts Tryz.prog sgs 16 [zcS a0] (zeB r):=by
 refine zah zrM (by kernel_rfl) ?_
 unfold Den zl7
 unfold zf5 at h
 refine zaa (by simp) ?_
 refine zac avB h (fun x hx=>by simpa using zob a0 x hx) (fun v1 cv1 h=> ?_)
 refine zaa (by simp) ?_
 refine zam h (by simp) (fun e2 h=> ?_) (fun e2 h=> ?_)
 ·exact zad (av:=zeB) h (by simp)
 ·refine zac avB h (fun x hx=>by simpa using zjS a0 x hx) (fun v3 cv3 h=> ?_)
  exact zad (av:=zeB) h (by simp)
def ziX:Tr:= .chk [] (.dfd (.len (.var 0)))<| .chk [] (.dfd (.len (.var 1)))<| .ite (.bin .neq (.len (.var 0)) (.len (.var 1))) ( .ret (.bool false)) ( .loop (.cons (.int .i64 (0)) .nil) ( .chk [] (.dfd (.len (.var 0)))<| .chk [] (.dfd (.bin .lss (.var 2) (.len (.var 0))))<| .ite (.bin .lss (.var 2) (.len (.var 0))) ( .chk [] (.inb (.var 2) (.var 0) 1)<| .chk [] (.inb (.var 2) (.var 1) 1)<| .chk [] (.dfd (.sbin .neq (.fld (.idx (.var 0) (.var 2)) 0 1 false) (.fld (.idx (.var 1) (.var 2)) 0 1 false)))<| .ite (.sbin .neq (.fld (.idx (.var 0) (.var 2)) 0 1 false) (.fld (.idx (.var 1) (.var 2)) 0 1 false)) ( .ret (.bool false)) ( .chk [] (.dfd (.bin .add (.var 2) (.int .i64 (1))))<| .jmp 0 (.cons (.bin .add (.var 2) (.int .i64 (1))) .nil))) ( .jmp 1 .nil)) ( .ret (.bool true)))
theorem zod:zbj Tryz.prog sgs 30=some ziX:=by kernel_rfl
theorem zow (a0:List (List UInt8)) (a1:List (List UInt8)) (r:Bool) (h:zcH a0 a1=some r):Rts Tryz.prog sgs 30 [.sl (a0.map zal), .sl (a1.map zal)] (.bool r):=by
 refine zah zod (by kernel_rfl) ?_
 unfold Den ziX
 unfold zcH at h
 refine zaa (by simp) ?_
 refine zaa (by simp) ?_
 refine zam h (by simp) (fun e1 h=> ?_) (fun e1 h=> ?_)
 ·have e1':=e1
  try simp only [decide_eq_true_eq,decide_eq_false_iff_not,ge_iff_le,gt_iff_lt,Int.ofNat_le,Int.ofNat_lt]at e1'
  exact zad (av:=avB) h (by simp)
 ·have e1':=e1
  try simp only [decide_eq_true_eq,decide_eq_false_iff_not,ge_iff_le,gt_iff_lt,Int.ofNat_le,Int.ofNat_lt]at e1'
  refine zbB (fun s:Int=> [.int .i64 s]) h (by simp) (fun W1 A1 v2 o1 h hn1 hf1 hk1=> ?_)
  replace h:zaP a0 a1 v2=some o1:=h
  unfold zaP at h
  refine zaa (by simp) ?_
  refine zaa (by simp) ?_
  refine zam h (by simp) (fun e3 h=> ?_) (fun e3 h=> ?_)
  ·obtain⟨y4,hy4,h⟩:=zaD h
   have hy4':=(zaG hy4).2.2
   refine zaa (fun _=>zaH (kk:= .i64) (f:=zal) (by simp) (by simp) hy4 (by simp)) ?_
   obtain⟨y5,hy5,h⟩:=zaD h
   have hy5':=(zaG hy5).2.2
   refine zaa (fun _=>zaH (kk:= .i64) (f:=zal) (by simp) (by simp) hy5 (by simp)) ?_
   refine zaa (by simp [e1,e1',e3,hy4',hy5']) ?_
   refine zam h (by simp [e1,e1',e3,hy4',hy5']) (fun e6 h=> ?_) (fun e6 h=> ?_)
   ·exact zad (av:=avB) (hf1 _ h) (by simp)
   ·refine zaa (by simp) ?_
    exact za4 (K:=fun s=>some (Sum.inl s)) (s:=(IntKind.i64.wrap (v2+1))) hn1 h rfl (by simp)
  ·refine zaN hk1 rfl (vs:= []) (by simp) ?_
   replace h:=(hf1 _ h)
   exact zad (av:=avB) h (by simp)
def znU:Tr:= .chk [] (.agg (.var 0) 3)<| .chk [] (.agg (.var 1) 3)<| .chk [] (.dfd (.sbin .neq (.fld (.var 0) 0 1 false) (.fld (.var 1) 0 1 false)))<| .ite (.sbin .neq (.fld (.var 0) 0 1 false) (.fld (.var 1) 0 1 false)) ( .ret (.bool false)) ( .chk [] (.dfd (.bin .neq (.fld (.var 0) 1 1 false) (.fld (.var 1) 1 1 false)))<| .ite (.bin .neq (.fld (.var 0) 1 1 false) (.fld (.var 1) 1 1 false)) ( .ret (.bool false)) ( .chk [] (.dfd (.bin .neq (.fld (.var 0) 2 1 false) (.fld (.var 1) 2 1 false)))<| .ite (.bin .neq (.fld (.var 0) 2 1 false) (.fld (.var 1) 2 1 false)) ( .ret (.bool false)) ( .ret (.bool true))))
theorem ztN:zbj Tryz.prog sgs 56=some znU:=by kernel_rfl
theorem ztA (a0:zb8) (a1:zb8) (r:Bool) (h:zeJ a0 a1=some r):Rts Tryz.prog sgs 56 [zbW a0,zbW a1] (.bool r):=by
 refine zah ztN (by kernel_rfl) ?_
 unfold Den znU
 unfold zeJ at h
 refine zaa (by simp) ?_
 refine zaa (by simp) ?_
 refine zaa (by simp) ?_
 refine zam h (by simp) (fun e1 h=> ?_) (fun e1 h=> ?_)
 ·exact zad (av:=avB) h (by simp)
 ·refine zaa (by simp) ?_
  refine zam h (by simp) (fun e2 h=> ?_) (fun e2 h=> ?_)
  ·exact zad (av:=avB) h (by simp)
  ·refine zaa (by simp) ?_
   refine zam h (by simp) (fun e3 h=> ?_) (fun e3 h=> ?_)
   ·exact zad (av:=avB) h (by simp)
   ·exact zad (av:=avB) h (by simp)
def zmT:Tr:= .chk [] (.dfd (.len (.var 0)))<| .chk [] (.dfd (.len (.var 1)))<| .ite (.bin .neq (.len (.var 0)) (.len (.var 1))) ( .ret (.bool false)) ( .loop (.cons (.int .i64 (0)) .nil) ( .chk [] (.dfd (.len (.var 0)))<| .chk [] (.dfd (.bin .lss (.var 2) (.len (.var 0))))<| .ite (.bin .lss (.var 2) (.len (.var 0))) ( .chk [] (.inb (.var 2) (.var 0) 3)<| .chk [] (.inb (.var 2) (.var 1) 3)<| .call [] (.inl 56) (.cons (.fld (.idx (.var 0) (.var 2)) 0 3 true) (.cons (.fld (.idx (.var 1) (.var 2)) 0 3 true) .nil))<| .chk [] (.dfd (.not (.var 3)))<| .ite (.not (.var 3)) ( .ret (.bool false)) ( .chk [] (.dfd (.bin .add (.var 2) (.int .i64 (1))))<| .jmp 0 (.cons (.bin .add (.var 2) (.int .i64 (1))) .nil))) ( .jmp 1 .nil)) ( .ret (.bool true)))
theorem zsm:zbj Tryz.prog sgs 31=some zmT:=by kernel_rfl
theorem zsH (a0:List zb8) (a1:List zb8) (r:Bool) (h:zel a0 a1=some r):Rts Tryz.prog sgs 31 [.sl (a0.map zbW), .sl (a1.map zbW)] (.bool r):=by
 refine zah zsm (by kernel_rfl) ?_
 unfold Den zmT
 unfold zel at h
 refine zaa (by simp) ?_
 refine zaa (by simp) ?_
 refine zam h (by simp) (fun e1 h=> ?_) (fun e1 h=> ?_)
 ·have e1':=e1
  try simp only [decide_eq_true_eq,decide_eq_false_iff_not,ge_iff_le,gt_iff_lt,Int.ofNat_le,Int.ofNat_lt]at e1'
  exact zad (av:=avB) h (by simp)
 ·have e1':=e1
  try simp only [decide_eq_true_eq,decide_eq_false_iff_not,ge_iff_le,gt_iff_lt,Int.ofNat_le,Int.ofNat_lt]at e1'
  refine zbB (fun s:Int=> [.int .i64 s]) h (by simp) (fun W1 A1 v2 o1 h hn1 hf1 hk1=> ?_)
  replace h:zbd a0 a1 v2=some o1:=h
  unfold zbd at h
  refine zaa (by simp) ?_
  refine zaa (by simp) ?_
  refine zam h (by simp) (fun e3 h=> ?_) (fun e3 h=> ?_)
  ·obtain⟨y4,hy4,h⟩:=zaD h
   have hy4':=(zaG hy4).2.2
   refine zaa (fun _=>zaH (kk:= .i64) (f:=zbW) (by simp) (by simp) hy4 (by simp)) ?_
   obtain⟨y5,hy5,h⟩:=zaD h
   have hy5':=(zaG hy5).2.2
   refine zaa (fun _=>zaH (kk:= .i64) (f:=zbW) (by simp) (by simp) hy5 (by simp)) ?_
   refine zac avB h (fun x hx=>by simpa [e1,e1',e3,hy4',hy5']using ztA y4 y5 x hx) (fun v6 cv6 h=> ?_)
   refine zaa (by simp) ?_
   refine zam h (by simp) (fun e7 h=> ?_) (fun e7 h=> ?_)
   ·exact zad (av:=avB) (hf1 _ h) (by simp)
   ·refine zaa (by simp) ?_
    exact za4 (K:=fun s=>some (Sum.inl s)) (s:=(IntKind.i64.wrap (v2+1))) hn1 h rfl (by simp)
  ·refine zaN hk1 rfl (vs:= []) (by simp) ?_
   replace h:=(hf1 _ h)
   exact zad (av:=avB) h (by simp)
def zll:Tr:= .chk [] (.agg (.var 0) 3)<| .chk [] (.agg (.var 1) 3)<| .chk [] (.dfd (.sbin .neq (.fld (.var 0) 0 1 false) (.fld (.var 1) 0 1 false)))<| .ite (.sbin .neq (.fld (.var 0) 0 1 false) (.fld (.var 1) 0 1 false)) ( .ret (.bool false)) ( .call [] (.inl 30) (.cons (.fld (.var 0) 1 1 false) (.cons (.fld (.var 1) 1 1 false) .nil))<| .chk [] (.dfd (.not (.var 2)))<| .ite (.not (.var 2)) ( .ret (.bool false)) ( .call [] (.inl 31) (.cons (.fld (.var 0) 2 1 false) (.cons (.fld (.var 1) 2 1 false) .nil))<| .chk [] (.dfd (.not (.var 3)))<| .ite (.not (.var 3)) ( .ret (.bool false)) ( .ret (.bool true))))
theorem zqL:zbj Tryz.prog sgs 11=some zll:=by kernel_rfl
theorem zlc (a0:zab) (a1:zab) (r:Bool) (h:zcT a0 a1=some r):Rts Tryz.prog sgs 11 [zae a0,zae a1] (.bool r):=by
 refine zah zqL (by kernel_rfl) ?_
 unfold Den zll
 unfold zcT at h
 refine zaa (by simp) ?_
 refine zaa (by simp) ?_
 refine zaa (by simp) ?_
 refine zam h (by simp) (fun e1 h=> ?_) (fun e1 h=> ?_)
 ·exact zad (av:=avB) h (by simp)
 ·refine zac avB h (fun x hx=>by simpa using zow a0.fCols a1.fCols x hx) (fun v2 cv2 h=> ?_)
  refine zaa (by simp) ?_
  refine zam h (by simp) (fun e3 h=> ?_) (fun e3 h=> ?_)
  ·exact zad (av:=avB) h (by simp)
  ·refine zac avB h (fun x hx=>by simpa using zsH a0.fIdxs a1.fIdxs x hx) (fun v4 cv4 h=> ?_)
   refine zaa (by simp) ?_
   refine zam h (by simp) (fun e5 h=> ?_) (fun e5 h=> ?_)
   ·exact zad (av:=avB) h (by simp)
   ·exact zad (av:=avB) h (by simp)
def zjT:Tr:= .chk [] (.dfd (.len (.var 0)))<| .chk [] (.dfd (.len (.var 1)))<| .ite (.bin .neq (.len (.var 0)) (.len (.var 1))) ( .ret (.bool false)) ( .loop (.cons (.int .i64 (0)) .nil) ( .chk [] (.dfd (.len (.var 0)))<| .chk [] (.dfd (.bin .lss (.var 2) (.len (.var 0))))<| .ite (.bin .lss (.var 2) (.len (.var 0))) ( .chk [] (.inb (.var 2) (.var 0) 3)<| .chk [] (.inb (.var 2) (.var 1) 3)<| .call [] (.inl 11) (.cons (.fld (.idx (.var 0) (.var 2)) 0 3 true) (.cons (.fld (.idx (.var 1) (.var 2)) 0 3 true) .nil))<| .chk [] (.dfd (.not (.var 3)))<| .ite (.not (.var 3)) ( .ret (.bool false)) ( .chk [] (.dfd (.bin .add (.var 2) (.int .i64 (1))))<| .jmp 0 (.cons (.bin .add (.var 2) (.int .i64 (1))) .nil))) ( .jmp 1 .nil)) ( .ret (.bool true)))
theorem zo4:zbj Tryz.prog sgs 41=some zjT:=by kernel_rfl
theorem zpC (a0:List zab) (a1:List zab) (r:Bool) (h:zeI a0 a1=some r):Rts Tryz.prog sgs 41 [.sl (a0.map zae), .sl (a1.map zae)] (.bool r):=by
 refine zah zo4 (by kernel_rfl) ?_
 unfold Den zjT
 unfold zeI at h
 refine zaa (by simp) ?_
 refine zaa (by simp) ?_
 refine zam h (by simp) (fun e1 h=> ?_) (fun e1 h=> ?_)
 ·have e1':=e1
  try simp only [decide_eq_true_eq,decide_eq_false_iff_not,ge_iff_le,gt_iff_lt,Int.ofNat_le,Int.ofNat_lt]at e1'
  exact zad (av:=avB) h (by simp)
 ·have e1':=e1
  try simp only [decide_eq_true_eq,decide_eq_false_iff_not,ge_iff_le,gt_iff_lt,Int.ofNat_le,Int.ofNat_lt]at e1'
  refine zbB (fun s:Int=> [.int .i64 s]) h (by simp) (fun W1 A1 v2 o1 h hn1 hf1 hk1=> ?_)
  replace h:zb4 a0 a1 v2=some o1:=h
  unfold zb4 at h
  refine zaa (by simp) ?_
  refine zaa (by simp) ?_
  refine zam h (by simp) (fun e3 h=> ?_) (fun e3 h=> ?_)
  ·obtain⟨y4,hy4,h⟩:=zaD h
   have hy4':=(zaG hy4).2.2
   refine zaa (fun _=>zaH (kk:= .i64) (f:=zae) (by simp) (by simp) hy4 (by simp)) ?_
   obtain⟨y5,hy5,h⟩:=zaD h
   have hy5':=(zaG hy5).2.2
   refine zaa (fun _=>zaH (kk:= .i64) (f:=zae) (by simp) (by simp) hy5 (by simp)) ?_
   refine zac avB h (fun x hx=>by simpa [e1,e1',e3,hy4',hy5']using zlc y4 y5 x hx) (fun v6 cv6 h=> ?_)
   refine zaa (by simp) ?_
   refine zam h (by simp) (fun e7 h=> ?_) (fun e7 h=> ?_)
   ·exact zad (av:=avB) (hf1 _ h) (by simp)
   ·refine zaa (by simp) ?_
    exact za4 (K:=fun s=>some (Sum.inl s)) (s:=(IntKind.i64.wrap (v2+1))) hn1 h rfl (by simp)
  ·refine zaN hk1 rfl (vs:= []) (by simp) ?_
   replace h:=(hf1 _ h)
   exact zad (av:=avB) h (by simp)
def zmb:Tr:= .chk [] (.dfd (.len (.var 0)))<| .chk [] (.dfd (.len (.var 1)))<| .ite (.bin .neq (.len (.var 0)) (.len (.var 1))) ( .ret (.bool false)) ( .loop (.cons (.int .i64 (0)) .nil) ( .chk [] (.dfd (.len (.var 0)))<| .chk [] (.dfd (.bin .lss (.var 2) (.len (.var 0))))<| .ite (.bin .lss (.var 2) (.len (.var 0))) ( .chk [] (.inb (.var 2) (.var 0) 1)<| .chk [] (.inb (.var 2) (.var 1) 1)<| .chk [] (.dfd (.bin .neq (.fld (.idx (.var 0) (.var 2)) 0 1 false) (.fld (.idx (.var 1) (.var 2)) 0 1 false)))<| .ite (.bin .neq (.fld (.idx (.var 0) (.var 2)) 0 1 false) (.fld (.idx (.var 1) (.var 2)) 0 1 false)) ( .ret (.bool false)) ( .chk [] (.dfd (.bin .add (.var 2) (.int .i64 (1))))<| .jmp 0 (.cons (.bin .add (.var 2) (.int .i64 (1))) .nil))) ( .jmp 1 .nil)) ( .ret (.bool true)))
theorem zrP:zbj Tryz.prog sgs 42=some zmb:=by kernel_rfl
theorem zsg (a0:List Int) (a1:List Int) (r:Bool) (h:zf3 a0 a1=some r):Rts Tryz.prog sgs 42 [.sl (a0.map zaw), .sl (a1.map zaw)] (.bool r):=by
 refine zah zrP (by kernel_rfl) ?_
 unfold Den zmb
 unfold zf3 at h
 refine zaa (by simp) ?_
 refine zaa (by simp) ?_
 refine zam h (by simp) (fun e1 h=> ?_) (fun e1 h=> ?_)
 ·have e1':=e1
  try simp only [decide_eq_true_eq,decide_eq_false_iff_not,ge_iff_le,gt_iff_lt,Int.ofNat_le,Int.ofNat_lt]at e1'
  exact zad (av:=avB) h (by simp)
 ·have e1':=e1
  try simp only [decide_eq_true_eq,decide_eq_false_iff_not,ge_iff_le,gt_iff_lt,Int.ofNat_le,Int.ofNat_lt]at e1'
  refine zbB (fun s:Int=> [.int .i64 s]) h (by simp) (fun W1 A1 v2 o1 h hn1 hf1 hk1=> ?_)
  replace h:zcD a0 a1 v2=some o1:=h
  unfold zcD at h
  refine zaa (by simp) ?_
  refine zaa (by simp) ?_
  refine zam h (by simp) (fun e3 h=> ?_) (fun e3 h=> ?_)
  ·obtain⟨y4,hy4,h⟩:=zaD h
   have hy4':=(zaG hy4).2.2
   refine zaa (fun _=>zaH (kk:= .i64) (f:=zaw) (by simp) (by simp) hy4 (by simp)) ?_
   obtain⟨y5,hy5,h⟩:=zaD h
   have hy5':=(zaG hy5).2.2
   refine zaa (fun _=>zaH (kk:= .i64) (f:=zaw) (by simp) (by simp) hy5 (by simp)) ?_
   refine zaa (by simp [e1,e1',e3,hy4',hy5']) ?_
   refine zam h (by simp [e1,e1',e3,hy4',hy5']) (fun e6 h=> ?_) (fun e6 h=> ?_)
   ·exact zad (av:=avB) (hf1 _ h) (by simp)
   ·refine zaa (by simp) ?_
    exact za4 (K:=fun s=>some (Sum.inl s)) (s:=(IntKind.i64.wrap (v2+1))) hn1 h rfl (by simp)
  ·refine zaN hk1 rfl (vs:= []) (by simp) ?_
   replace h:=(hf1 _ h)
   exact zad (av:=avB) h (by simp)
def zlk:Tr:= .chk [] (.agg (.var 0) 3)<| .chk [] (.agg (.var 1) 3)<| .chk [] (.dfd (.sbin .neq (.fld (.var 0) 0 1 false) (.fld (.var 1) 0 1 false)))<| .ite (.sbin .neq (.fld (.var 0) 0 1 false) (.fld (.var 1) 0 1 false)) ( .ret (.bool false)) ( .chk [] (.dfd (.sbin .neq (.fld (.var 0) 1 1 false) (.fld (.var 1) 1 1 false)))<| .ite (.sbin .neq (.fld (.var 0) 1 1 false) (.fld (.var 1) 1 1 false)) ( .ret (.bool false)) ( .chk [] (.dfd (.bbin .neq (.fld (.var 0) 2 1 false) (.fld (.var 1) 2 1 false)))<| .ite (.bbin .neq (.fld (.var 0) 2 1 false) (.fld (.var 1) 2 1 false)) ( .ret (.bool false)) ( .ret (.bool true))))
theorem zrb:zbj Tryz.prog sgs 32=some zlk:=by kernel_rfl
theorem zqj (a0:zag) (a1:zag) (r:Bool) (h:zdB a0 a1=some r):Rts Tryz.prog sgs 32 [zar a0,zar a1] (.bool r):=by
 refine zah zrb (by kernel_rfl) ?_
 unfold Den zlk
 unfold zdB at h
 refine zaa (by simp) ?_
 refine zaa (by simp) ?_
 refine zaa (by simp) ?_
 refine zam h (by simp) (fun e1 h=> ?_) (fun e1 h=> ?_)
 ·exact zad (av:=avB) h (by simp)
 ·refine zaa (by simp) ?_
  refine zam h (by simp) (fun e2 h=> ?_) (fun e2 h=> ?_)
  ·exact zad (av:=avB) h (by simp)
  ·refine zaa (by simp) ?_
   refine zam h (by simp) (fun e3 h=> ?_) (fun e3 h=> ?_)
   ·exact zad (av:=avB) h (by simp)
   ·exact zad (av:=avB) h (by simp)
def zjL:Tr:= .chk [] (.dfd (.len (.var 0)))<| .chk [] (.dfd (.len (.var 1)))<| .ite (.bin .neq (.len (.var 0)) (.len (.var 1))) ( .ret (.bool false)) ( .loop (.cons (.int .i64 (0)) .nil) ( .chk [] (.dfd (.len (.var 0)))<| .chk [] (.dfd (.bin .lss (.var 2) (.len (.var 0))))<| .ite (.bin .lss (.var 2) (.len (.var 0))) ( .chk [] (.inb (.var 2) (.var 0) 3)<| .chk [] (.inb (.var 2) (.var 1) 3)<| .call [] (.inl 32) (.cons (.fld (.idx (.var 0) (.var 2)) 0 3 true) (.cons (.fld (.idx (.var 1) (.var 2)) 0 3 true) .nil))<| .chk [] (.dfd (.not (.var 3)))<| .ite (.not (.var 3)) ( .ret (.bool false)) ( .chk [] (.dfd (.bin .add (.var 2) (.int .i64 (1))))<| .jmp 0 (.cons (.bin .add (.var 2) (.int .i64 (1))) .nil))) ( .jmp 1 .nil)) ( .ret (.bool true)))
theorem zpN:zbj Tryz.prog sgs 12=some zjL:=by kernel_rfl
theorem zjY (a0:List zag) (a1:List zag) (r:Bool) (h:zcu a0 a1=some r):Rts Tryz.prog sgs 12 [.sl (a0.map zar), .sl (a1.map zar)] (.bool r):=by
 refine zah zpN (by kernel_rfl) ?_
 unfold Den zjL
 unfold zcu at h
 refine zaa (by simp) ?_
 refine zaa (by simp) ?_
 refine zam h (by simp) (fun e1 h=> ?_) (fun e1 h=> ?_)
 ·have e1':=e1
  try simp only [decide_eq_true_eq,decide_eq_false_iff_not,ge_iff_le,gt_iff_lt,Int.ofNat_le,Int.ofNat_lt]at e1'
  exact zad (av:=avB) h (by simp)
 ·have e1':=e1
  try simp only [decide_eq_true_eq,decide_eq_false_iff_not,ge_iff_le,gt_iff_lt,Int.ofNat_le,Int.ofNat_lt]at e1'
  refine zbB (fun s:Int=> [.int .i64 s]) h (by simp) (fun W1 A1 v2 o1 h hn1 hf1 hk1=> ?_)
  replace h:zaX a0 a1 v2=some o1:=h
  unfold zaX at h
  refine zaa (by simp) ?_
  refine zaa (by simp) ?_
  refine zam h (by simp) (fun e3 h=> ?_) (fun e3 h=> ?_)
  ·obtain⟨y4,hy4,h⟩:=zaD h
   have hy4':=(zaG hy4).2.2
   refine zaa (fun _=>zaH (kk:= .i64) (f:=zar) (by simp) (by simp) hy4 (by simp)) ?_
   obtain⟨y5,hy5,h⟩:=zaD h
   have hy5':=(zaG hy5).2.2
   refine zaa (fun _=>zaH (kk:= .i64) (f:=zar) (by simp) (by simp) hy5 (by simp)) ?_
   refine zac avB h (fun x hx=>by simpa [e1,e1',e3,hy4',hy5']using zqj y4 y5 x hx) (fun v6 cv6 h=> ?_)
   refine zaa (by simp) ?_
   refine zam h (by simp) (fun e7 h=> ?_) (fun e7 h=> ?_)
   ·exact zad (av:=avB) (hf1 _ h) (by simp)
   ·refine zaa (by simp) ?_
    exact za4 (K:=fun s=>some (Sum.inl s)) (s:=(IntKind.i64.wrap (v2+1))) hn1 h rfl (by simp)
  ·refine zaN hk1 rfl (vs:= []) (by simp) ?_
   replace h:=(hf1 _ h)
   exact zad (av:=avB) h (by simp)
def zlh:Tr:= .chk [] (.agg (.var 0) 4)<| .chk [] (.agg (.var 1) 4)<| .chk [] (.dfd (.sbin .neq (.fld (.var 0) 0 1 false) (.fld (.var 1) 0 1 false)))<| .ite (.sbin .neq (.fld (.var 0) 0 1 false) (.fld (.var 1) 0 1 false)) ( .ret (.bool false)) ( .call [] (.inl 41) (.cons (.fld (.var 0) 1 1 false) (.cons (.fld (.var 1) 1 1 false) .nil))<| .chk [] (.dfd (.not (.var 2)))<| .ite (.not (.var 2)) ( .ret (.bool false)) ( .call [] (.inl 42) (.cons (.fld (.var 0) 2 1 false) (.cons (.fld (.var 1) 2 1 false) .nil))<| .chk [] (.dfd (.not (.var 3)))<| .ite (.not (.var 3)) ( .ret (.bool false)) ( .call [] (.inl 12) (.cons (.fld (.var 0) 3 1 false) (.cons (.fld (.var 1) 3 1 false) .nil))<| .chk [] (.dfd (.not (.var 4)))<| .ite (.not (.var 4)) ( .ret (.bool false)) ( .ret (.bool true)))))
theorem zqo:zbj Tryz.prog sgs 17=some zlh:=by kernel_rfl
theorem zqi (a0:zaB) (a1:zaB) (r:Bool) (h:zfk a0 a1=some r):Rts Tryz.prog sgs 17 [zcS a0,zcS a1] (.bool r):=by
 refine zah zqo (by kernel_rfl) ?_
 unfold Den zlh
 unfold zfk at h
 refine zaa (by simp) ?_
 refine zaa (by simp) ?_
 refine zaa (by simp) ?_
 refine zam h (by simp) (fun e1 h=> ?_) (fun e1 h=> ?_)
 ·exact zad (av:=avB) h (by simp)
 ·refine zac avB h (fun x hx=>by simpa using zpC a0.fWays a1.fWays x hx) (fun v2 cv2 h=> ?_)
  refine zaa (by simp) ?_
  refine zam h (by simp) (fun e3 h=> ?_) (fun e3 h=> ?_)
  ·exact zad (av:=avB) h (by simp)
  ·refine zac avB h (fun x hx=>by simpa using zsg a0.fAt a1.fAt x hx) (fun v4 cv4 h=> ?_)
   refine zaa (by simp) ?_
   refine zam h (by simp) (fun e5 h=> ?_) (fun e5 h=> ?_)
   ·exact zad (av:=avB) h (by simp)
   ·refine zac avB h (fun x hx=>by simpa using zjY a0.fStore a1.fStore x hx) (fun v6 cv6 h=> ?_)
    refine zaa (by simp) ?_
    refine zam h (by simp) (fun e7 h=> ?_) (fun e7 h=> ?_)
    ·exact zad (av:=avB) h (by simp)
    ·exact zad (av:=avB) h (by simp)
def zhk:Tr:= .chk [] (.agg (.var 0) 4)<| .call [] (.inl 13) (.cons (.mk (.cons (.fld (.var 0) 0 1 false) (.cons (.fld (.var 0) 1 1 false) (.cons (.fld (.var 0) 2 1 false) (.cons (.fld (.var 0) 3 1 false) .nil))))) (.cons (.int .i64 (1048576)) .nil))<| .chk [] (.dfd (.bin .lss (.var 1) (.int .i64 (0))))<| .ite (.bin .lss (.var 1) (.int .i64 (0))) ( .ret (.bool true)) ( .call [] (.inl 15) (.cons (.mk (.cons (.fld (.var 0) 0 1 false) (.cons (.fld (.var 0) 1 1 false) (.cons (.fld (.var 0) 2 1 false) (.cons (.fld (.var 0) 3 1 false) .nil))))) .nil)<| .call [] (.inl 14) (.cons (.mk (.cons (.fld (.var 2) 0 1 false) (.cons (.fld (.var 2) 1 1 false) (.cons (.fld (.var 2) 2 1 false) (.cons (.fld (.var 2) 3 1 false) .nil))))) .nil)<| .call [] (.inl 15) (.cons (.mk (.cons (.fld (.var 0) 0 1 false) (.cons (.fld (.var 0) 1 1 false) (.cons (.fld (.var 0) 2 1 false) (.cons (.fld (.var 0) 3 1 false) .nil))))) .nil)<| .call [] (.inl 16) (.cons (.mk (.cons (.fld (.var 4) 0 1 false) (.cons (.fld (.var 4) 1 1 false) (.cons (.fld (.var 4) 2 1 false) (.cons (.fld (.var 4) 3 1 false) .nil))))) .nil)<| .chk [] (.dfd (.bbin .neq (.proj (.var 5) 0) (.proj (.var 3) 0)))<| .chk [((.bbin .neq (.proj (.var 5) 0) (.proj (.var 3) 0)),false)] (.dfd (.bbin .neq (.proj (.var 5) 1) (.proj (.var 3) 1)))<| .chk [] (.dfd (.not (.bbin .neq (.proj (.var 5) 0) (.proj (.var 3) 0))))<| .ite (.ite (.bbin .neq (.proj (.var 5) 0) (.proj (.var 3) 0)) (.bool true) (.bbin .neq (.proj (.var 5) 1) (.proj (.var 3) 1))) ( .ret (.bool false)) ( .call [] (.inl 15) (.cons (.mk (.cons (.fld (.var 0) 0 1 false) (.cons (.fld (.var 0) 1 1 false) (.cons (.fld (.var 0) 2 1 false) (.cons (.fld (.var 0) 3 1 false) .nil))))) .nil)<| .call [] (.inl 17) (.cons (.mk (.cons (.fld (.var 4) 0 1 false) (.cons (.fld (.var 4) 1 1 false) (.cons (.fld (.var 4) 2 1 false) (.cons (.fld (.var 4) 3 1 false) .nil))))) (.cons (.mk (.cons (.fld (.var 6) 0 1 false) (.cons (.fld (.var 6) 1 1 false) (.cons (.fld (.var 6) 2 1 false) (.cons (.fld (.var 6) 3 1 false) .nil))))) .nil))<| .chk [] (.dfd (.not (.var 7)))<| .ite (.not (.var 7)) ( .ret (.bool false)) ( .ret (.bool true))))
theorem zkH:zbj Tryz.prog sgs 4=some zhk:=by kernel_rfl
theorem zkL (a0:zaB) (r:Bool) (h:zdM a0=some r):Rts Tryz.prog sgs 4 [zcS a0] (.bool r):=by
 refine zah zkH (by kernel_rfl) ?_
 unfold Den zhk
 unfold zdM at h
 refine zaa (by simp) ?_
 refine zac zaw h (fun x hx=>by simpa using zre a0 1048576 x hx) (fun v1 cv1 h=> ?_)
 refine zaa (by simp) ?_
 refine zam h (by simp) (fun e2 h=> ?_) (fun e2 h=> ?_)
 ·exact zad (av:=avB) h (by simp)
 ·refine zac zcS h (fun x hx=>by simpa using zh7 a0 x hx) (fun v3 cv3 h=> ?_)
  refine zac zeB h (fun x hx=>by simpa using zsC v3 x hx) (fun v4 cv4 h=> ?_)
  refine zac zcS h (fun x hx=>by simpa using zh7 a0 x hx) (fun v5 cv5 h=> ?_)
  refine zac zeB h (fun x hx=>by simpa using zsp v5 x hx) (fun v6 cv6 h=> ?_)
  refine zaa (by simp) ?_
  refine zaa (by simp) ?_
  refine zaa (by simp) ?_
  refine zam h (by simp [e2]) (fun e7 h=> ?_) (fun e7 h=> ?_)
  ·exact zad (av:=avB) h (by simp)
  ·refine zac zcS h (fun x hx=>by simpa using zh7 a0 x hx) (fun v8 cv8 h=> ?_)
   refine zac avB h (fun x hx=>by simpa using zqi v5 v8 x hx) (fun v9 cv9 h=> ?_)
   refine zaa (by simp) ?_
   refine zam h (by simp) (fun e10 h=> ?_) (fun e10 h=> ?_)
   ·exact zad (av:=avB) h (by simp)
   ·exact zad (av:=avB) h (by simp)
def zlr:Tr:= .chk [] (.agg (.var 0) 3)<| .call [] (.inl 21) (.cons (.mk (.cons (.fld (.var 0) 0 1 false) (.cons (.fld (.var 0) 1 1 false) (.cons (.fld (.var 0) 2 1 false) .nil)))) (.cons (.var 1) (.cons (.var 3) .nil)))<| .chk [] (.dfd (.not (.var 4)))<| .call [((.not (.var 4)),false)] (.inl 22) (.cons (.var 2) (.cons (.int .i64 (0)) (.cons (.int .i64 (2)) .nil)))<| .chk [((.not (.var 4)),false)] (.dfd (.not (.var 5)))<| .chk [] (.dfd (.not (.not (.var 4))))<| .ite (.ite (.not (.var 4)) (.bool true) (.not (.var 5))) ( .ret (.tup (.cons (.bool false) (.cons (.bool false) .nil)))) ( .call [] (.inl 23) (.cons (.mk (.cons (.fld (.var 0) 0 1 false) (.cons (.fld (.var 0) 1 1 false) (.cons (.fld (.var 0) 2 1 false) .nil)))) (.cons (.var 1) (.cons (.var 2) (.cons (.var 3) .nil))))<| .ret (.tup (.cons (.var 6) (.cons (.bool true) .nil))))
theorem zqQ:zbj Tryz.prog sgs 7=some zlr:=by kernel_rfl
theorem zrd (a0:zab) (a1:List UInt8) (a2:Int) (a3:List zag) (r:Bool × Bool) (h:zfr a0 a1 a2 a3=some r):Rts Tryz.prog sgs 7 [zae a0, .str a1, .int .i64 a2, .sl (a3.map zar)] (zeB r):=by
 refine zah zqQ (by kernel_rfl) ?_
 unfold Den zlr
 unfold zfr at h
 refine zaa (by simp) ?_
 refine zac avB h (fun x hx=>by simpa using zhP a0 a1 a3 x hx) (fun v1 cv1 h=> ?_)
 refine zaa (by simp) ?_
 refine zav h (fun e2 h=> ?_) (fun e2 h=> ?_)
 ·refine zac avB h (fun x hx=>by simpa using zed a2 0 2 x hx) (fun v3 cv3 h=> ?_)
  refine zaa (by simp) ?_
  refine zaa (by simp) ?_
  refine zam h (by simp [e2]) (fun e4 h=> ?_) (fun e4 h=> ?_)
  ·exact zad (av:=zeB) h (by simp)
  ·refine zac avB h (fun x hx=>by simpa using zjJ a0 a1 a2 a3 x hx) (fun v5 cv5 h=> ?_)
   exact zad (av:=zeB) h (by simp)
 ·refine zaJ (by simp [e2]) ?_
  refine zaa (by simp [e2]) ?_
  refine zaa (by simp) ?_
  refine zdt (by simp [e2]) ?_
  exact zad (av:=zeB) h (by simp)
def ziu:Tr:= .chk [] (.agg (.var 0) 3)<| .call [] (.inl 51) (.cons (.mk (.cons (.fld (.var 0) 0 1 false) (.cons (.fld (.var 0) 1 1 false) (.cons (.fld (.var 0) 2 1 false) .nil)))) (.cons (.var 1) .nil))<| .call [((.var 3),true)] (.inl 52) (.cons (.var 2) .nil)<| .chk [] (.dfd (.not (.var 3)))<| .ret (.ite (.var 3) (.var 4) (.bool false))
theorem zm9:zbj Tryz.prog sgs 27=some ziu:=by kernel_rfl
theorem znG (a0:zab) (a1:List UInt8) (a2:List zag) (r:Bool) (h:zdT a0 a1 a2=some r):Rts Tryz.prog sgs 27 [zae a0, .str a1, .sl (a2.map zar)] (.bool r):=by
 refine zah zm9 (by kernel_rfl) ?_
 unfold Den ziu
 unfold zdT at h
 refine zaa (by simp) ?_
 refine zac avB h (fun x hx=>by simpa using zmZ a0 a1 x hx) (fun v1 cv1 h=> ?_)
 refine zav h (fun e2 h=> ?_) (fun e2 h=> ?_)
 ·refine zac avB h (fun x hx=>by simpa using zmx a2 x hx) (fun v3 cv3 h=> ?_)
  refine zaa (by simp) ?_
  exact zad (av:=avB) h (by simp [e2])
 ·refine zaJ (by simp [e2]) ?_
  refine zaa (by simp) ?_
  exact zad (av:=avB) h (by simp [e2])
def zk2:Tr:= .chk [] (.agg (.var 0) 3)<| .call [] (.inl 27) (.cons (.mk (.cons (.fld (.var 0) 0 1 false) (.cons (.fld (.var 0) 1 1 false) (.cons (.fld (.var 0) 2 1 false) .nil)))) (.cons (.var 1) (.cons (.var 3) .nil)))<| .chk [] (.dfd (.not (.var 4)))<| .call [((.not (.var 4)),false)] (.inl 28) (.cons (.var 2) (.cons (.int .i64 (0)) (.cons (.int .i64 (2)) .nil)))<| .chk [((.not (.var 4)),false)] (.dfd (.not (.var 5)))<| .chk [] (.dfd (.not (.not (.var 4))))<| .ite (.ite (.not (.var 4)) (.bool true) (.not (.var 5))) ( .ret (.tup (.cons (.bool false) (.cons (.bool false) .nil)))) ( .call [] (.inl 29) (.cons (.mk (.cons (.fld (.var 0) 0 1 false) (.cons (.fld (.var 0) 1 1 false) (.cons (.fld (.var 0) 2 1 false) .nil)))) (.cons (.var 1) (.cons (.var 2) (.cons (.var 3) .nil))))<| .ret (.tup (.cons (.var 6) (.cons (.bool true) .nil))))
theorem zqJ:zbj Tryz.prog sgs 10=some zk2:=by kernel_rfl
theorem zqI (a0:zab) (a1:List UInt8) (a2:Int) (a3:List zag) (r:Bool × Bool) (h:zfp a0 a1 a2 a3=some r):Rts Tryz.prog sgs 10 [zae a0, .str a1, .int .i64 a2, .sl (a3.map zar)] (zeB r):=by
 refine zah zqJ (by kernel_rfl) ?_
 unfold Den zk2
 unfold zfp at h
 refine zaa (by simp) ?_
 refine zac avB h (fun x hx=>by simpa using znG a0 a1 a3 x hx) (fun v1 cv1 h=> ?_)
 refine zaa (by simp) ?_
 refine zav h (fun e2 h=> ?_) (fun e2 h=> ?_)
 ·refine zac avB h (fun x hx=>by simpa using zct a2 0 2 x hx) (fun v3 cv3 h=> ?_)
  refine zaa (by simp) ?_
  refine zaa (by simp) ?_
  refine zam h (by simp [e2]) (fun e4 h=> ?_) (fun e4 h=> ?_)
  ·exact zad (av:=zeB) h (by simp)
  ·refine zac avB h (fun x hx=>by simpa using zgp a0 a1 a2 a3 x hx) (fun v5 cv5 h=> ?_)
   exact zad (av:=zeB) h (by simp)
 ·refine zaJ (by simp [e2]) ?_
  refine zaa (by simp [e2]) ?_
  refine zaa (by simp) ?_
  refine zdt (by simp [e2]) ?_
  exact zad (av:=zeB) h (by simp)
def zg8:Tr:= .chk [] (.agg (.var 0) 3)<| .chk [] (.dfd (.slen (.var 1)))<| .ite (.bin .gtr (.slen (.var 1)) (.int .i64 (1048576))) ( .ret (.bool true)) ( .call [] (.inl 5) (.cons (.mk (.cons (.fld (.var 0) 0 1 false) (.cons (.fld (.var 0) 1 1 false) (.cons (.fld (.var 0) 2 1 false) .nil)))) (.cons (.int .i64 (1048576)) .nil))<| .chk [] (.dfd (.bin .lss (.var 4) (.int .i64 (0))))<| .ite (.bin .lss (.var 4) (.int .i64 (0))) ( .ret (.bool true)) ( .call [] (.inl 6) (.cons (.var 3) (.cons (.var 4) .nil))<| .chk [] (.dfd (.bin .lss (.var 5) (.int .i64 (0))))<| .ite (.bin .lss (.var 5) (.int .i64 (0))) ( .ret (.bool true)) ( .call [] (.inl 8) (.cons (.mk (.cons (.fld (.var 0) 0 1 false) (.cons (.fld (.var 0) 1 1 false) (.cons (.fld (.var 0) 2 1 false) .nil)))) .nil)<| .call [] (.inl 9) (.cons (.var 3) .nil)<| .call [] (.inl 7) (.cons (.mk (.cons (.fld (.var 6) 0 1 false) (.cons (.fld (.var 6) 1 1 false) (.cons (.fld (.var 6) 2 1 false) .nil)))) (.cons (.var 1) (.cons (.var 2) (.cons (.var 7) .nil))))<| .call [] (.inl 8) (.cons (.mk (.cons (.fld (.var 0) 0 1 false) (.cons (.fld (.var 0) 1 1 false) (.cons (.fld (.var 0) 2 1 false) .nil)))) .nil)<| .call [] (.inl 9) (.cons (.var 3) .nil)<| .call [] (.inl 10) (.cons (.mk (.cons (.fld (.var 9) 0 1 false) (.cons (.fld (.var 9) 1 1 false) (.cons (.fld (.var 9) 2 1 false) .nil)))) (.cons (.var 1) (.cons (.var 2) (.cons (.var 10) .nil))))<| .chk [] (.dfd (.bbin .neq (.proj (.var 11) 0) (.proj (.var 8) 0)))<| .chk [((.bbin .neq (.proj (.var 11) 0) (.proj (.var 8) 0)),false)] (.dfd (.bbin .neq (.proj (.var 11) 1) (.proj (.var 8) 1)))<| .chk [] (.dfd (.not (.bbin .neq (.proj (.var 11) 0) (.proj (.var 8) 0))))<| .ite (.ite (.bbin .neq (.proj (.var 11) 0) (.proj (.var 8) 0)) (.bool true) (.bbin .neq (.proj (.var 11) 1) (.proj (.var 8) 1))) ( .ret (.bool false)) ( .call [] (.inl 8) (.cons (.mk (.cons (.fld (.var 0) 0 1 false) (.cons (.fld (.var 0) 1 1 false) (.cons (.fld (.var 0) 2 1 false) .nil)))) .nil)<| .call [] (.inl 11) (.cons (.mk (.cons (.fld (.var 9) 0 1 false) (.cons (.fld (.var 9) 1 1 false) (.cons (.fld (.var 9) 2 1 false) .nil)))) (.cons (.mk (.cons (.fld (.var 12) 0 1 false) (.cons (.fld (.var 12) 1 1 false) (.cons (.fld (.var 12) 2 1 false) .nil)))) .nil))<| .chk [] (.dfd (.not (.var 13)))<| .ite (.not (.var 13)) ( .ret (.bool false)) ( .call [] (.inl 9) (.cons (.var 3) .nil)<| .call [] (.inl 12) (.cons (.var 10) (.cons (.var 14) .nil))<| .chk [] (.dfd (.not (.var 15)))<| .ite (.not (.var 15)) ( .ret (.bool false)) ( .ret (.bool true)))))))
theorem zj8:zbj Tryz.prog sgs 3=some zg8:=by kernel_rfl
theorem zjD (a0:zab) (a1:List UInt8) (a2:Int) (a3:List zag) (r:Bool) (h:zbV a0 a1 a2 a3=some r):Rts Tryz.prog sgs 3 [zae a0, .str a1, .int .i64 a2, .sl (a3.map zar)] (.bool r):=by
 refine zah zj8 (by kernel_rfl) ?_
 unfold Den zg8
 unfold zbV at h
 refine zaa (by simp) ?_
 refine zaa (by simp) ?_
 refine zam h (by simp) (fun e1 h=> ?_) (fun e1 h=> ?_)
 ·exact zad (av:=avB) h (by simp)
 ·refine zac zaw h (fun x hx=>by simpa using zli a0 1048576 x hx) (fun v2 cv2 h=> ?_)
  refine zaa (by simp) ?_
  refine zam h (by simp) (fun e3 h=> ?_) (fun e3 h=> ?_)
  ·exact zad (av:=avB) h (by simp)
  ·refine zac zaw h (fun x hx=>by simpa using zjw a3 v2 x hx) (fun v4 cv4 h=> ?_)
   refine zaa (by simp) ?_
   refine zam h (by simp) (fun e5 h=> ?_) (fun e5 h=> ?_)
   ·exact zad (av:=avB) h (by simp)
   ·refine zac zae h (fun x hx=>by simpa using zgJ a0 x hx) (fun v6 cv6 h=> ?_)
    refine zac zmp h (fun x hx=>by simpa using zf7 a3 x hx) (fun v7 cv7 h=> ?_)
    refine zac zeB h (fun x hx=>by simpa using zrd v6 a1 a2 v7 x hx) (fun v8 cv8 h=> ?_)
    refine zac zae h (fun x hx=>by simpa using zgJ a0 x hx) (fun v9 cv9 h=> ?_)
    refine zac zmp h (fun x hx=>by simpa using zf7 a3 x hx) (fun v10 cv10 h=> ?_)
    refine zac zeB h (fun x hx=>by simpa using zqI v9 a1 a2 v10 x hx) (fun v11 cv11 h=> ?_)
    refine zaa (by simp) ?_
    refine zaa (by simp) ?_
    refine zaa (by simp) ?_
    refine zam h (by simp [e1,e3,e5]) (fun e12 h=> ?_) (fun e12 h=> ?_)
    ·exact zad (av:=avB) h (by simp)
    ·refine zac zae h (fun x hx=>by simpa using zgJ a0 x hx) (fun v13 cv13 h=> ?_)
     refine zac avB h (fun x hx=>by simpa using zlc v9 v13 x hx) (fun v14 cv14 h=> ?_)
     refine zaa (by simp) ?_
     refine zam h (by simp) (fun e15 h=> ?_) (fun e15 h=> ?_)
     ·exact zad (av:=avB) h (by simp)
     ·refine zac zmp h (fun x hx=>by simpa using zf7 a3 x hx) (fun v16 cv16 h=> ?_)
      refine zac avB h (fun x hx=>by simpa using zjY v10 v16 x hx) (fun v17 cv17 h=> ?_)
      refine zaa (by simp) ?_
      refine zam h (by simp) (fun e18 h=> ?_) (fun e18 h=> ?_)
      ·exact zad (av:=avB) h (by simp)
      ·exact zad (av:=avB) h (by simp)
end Go.Proofs.YtecngjbpbnfegaaGreatDoor
end
section
end
section
namespace Go.Proofs.YtecngjbpbnfegaaGreatDoor
theorem zj9 (t:zab) (n:List UInt8) (lv:Int) (l:List zag) (kt:znF t) (_:zpo n) (_:zqu lv) (kl:okL znm l):zbV t n lv l=some true:=
 zmv ⟨kt.1,kt.2.1.1,kt.2.1.2,kt.2.2.1,fun x hx=>(kt.2.2.2 x hx).1⟩ kl.1 fun x hx=>⟨(kl.2 x hx).1,(kl.2 x hx).2.1⟩
end Go.Proofs.YtecngjbpbnfegaaGreatDoor
end
section
namespace Go.Proofs.YtecngjbpbnfegaaGreatDoor.fnExactHoldsAtDone
open Go.ChangeShapes Go.WideShapes Go.ChangeAt Go.RowKit
open Go.Proofs.YtecngjbpbnfegaaGreatDoor
set_option linter.unusedVariables false
theorem own:ownKnob Tryz.prog.godebug=none:=by kernel_rfl
theorem zng:laidOutB Tryz.prog=true:=by kernel_rfl
theorem sig:sgs 3=some {modes:= [.ro, .ro, .ro, .ro],res:= [false]}:=by kernel_rfl
set_option maxRecDepth 100000 in
theorem zwd (os:Os) (started:os.Started) (H:Type) (enc:TypeId × Value→H):
  ReturnsInHanded {} Tryz.checked os 3 .any (fun w args=>(Rows.fnExactHoldsAtSpec.pre enc Tryz.prog Tryz.f3 [] false w args∧laidMetH Tryz.prog Rows.fnExactHoldsAtRow.laid w)∧sizedMet enc Tryz.prog Tryz.f3 (OpenSpec.ofChange Rows.fnExactHoldsAtSpec) false w args)
   (Rows.fnExactHoldsAtSpec.post enc Tryz.prog Tryz.f3 false true false false):=by
 refine returnsInHanded_of_change_and (C:=Tryz.checked) (X:=fun w _=>laidMetH Tryz.prog Rows.fnExactHoldsAtRow.laid w) (fun _ _ _ hh h=>h.of_heap hh) own started (by kernel_rfl) Tryz.func3
  (ChangeSpec.witness_shaped (enc:=enc) (C:=Tryz.checked) (os:=os) (X:=fun w _=>laidMetH Tryz.prog Rows.fnExactHoldsAtRow.laid w) false (World.laidAll Tryz.prog os Rows.fnExactHoldsAtRow.laid) #[.agg #[.string ByteArray.empty, .slice none 0 0, .slice none 0 0], .string ByteArray.empty, .int .i64 0, .slice none 0 0] 8 (World.laidAll_os _ _ _)
   (World.shaped_of_ZipB (by kernel_rfl) (by kernel_rfl)) (by kernel_rfl) (by kernel_rfl) (by kernel_rfl)
   (by rw [MakeChecks.laidMetH_plain _ _ _ (by kernel_rfl)];exact laidMet_laidAll _ (by kernel_rfl) (by kernel_rfl))) ?_
 intro W base args ds gs before hval0 hW _ _ hL _
 have hval: ∀(j:Nat) t v,Tryz.f3.params[j]?=some t→args[j]?=some v→Value.okWide Tryz.prog W .any base t v:=hval0
 have hW':=hW
 obtain⟨p,q,hA0,hV,rfl,hfz,hnd⟩:=hW
 have hA:DataW.TrodAll enc Tryz.prog W 0 (fun _=>true) true Tryz.f3.params.toList args.toList ds p:=hA0
 rw [Tryz.params3]at hA hval
 obtain⟨v0,vs0,d0,ds0,p0,q0,hargs,rfl,rfl,h0,r0⟩:=trodAll_cons hA
 obtain⟨v1,vs1,d1,ds1,p1,q1,rfl,rfl,rfl,h1,r1⟩:=trodAll_cons r0
 obtain⟨v2,vs2,d2,ds2,p2,q2,rfl,rfl,rfl,h2,r2⟩:=trodAll_cons r1
 obtain⟨v3,vs3,d3,ds3,p3,q3,rfl,rfl,rfl,h3,r3⟩:=trodAll_cons r2
 obtain⟨rfl,rfl,rfl⟩:=trodAll_nil r3
 obtain rfl:args= #[v0,v1,v2,v3]:=by cases args;simp_all
 obtain⟨rfl,rfl⟩:=trodVars_none hV
 obtain⟨_,f0,a0,x0,k0,e0⟩:=zrC op0 Tryz.underlying25 (hval 0 25 v0 rfl rfl) h0
 rw [e0]at a0
 obtain⟨_,f1,a1,x1,k1,e1⟩:=zvj op1 Tryz.underlying9 (hval 1 9 v1 rfl rfl) h1
 obtain rfl:=(List.cons.inj e1).1
 obtain⟨_,f2,a2,x2,k2,e2⟩:=zzU op5 Tryz.underlying3 (hval 2 3 v2 rfl rfl) h2
 obtain rfl:=(List.cons.inj e2).1
 obtain⟨_,f3,a3,x3,k3,e3⟩:=zxa op6 Tryz.underlying26 (hval 3 26 v3 rfl rfl) h3
 obtain rfl:=(List.cons.inj e3).1
 have m0:=h0
 have lt0: ∀x∈p0,x.block<W.heap.size:=by obtain⟨m,hm⟩:=m0;exact DataW.trod_lt m _ _ _ hm
 have m1:=h1
 have lt1: ∀x∈p1,x.block<W.heap.size:=by obtain⟨m,hm⟩:=m1;exact DataW.trod_lt m _ _ _ hm
 have m2:=h2
 have lt2: ∀x∈p2,x.block<W.heap.size:=by obtain⟨m,hm⟩:=m2;exact DataW.trod_lt m _ _ _ hm
 have m3:=h3
 have lt3: ∀x∈p3,x.block<W.heap.size:=by obtain⟨m,hm⟩:=m3;exact DataW.trod_lt m _ _ _ hm
 clear hA0 hval0
 refine(zvd (zjD x0 x1 x2 x3 true (zj9 x0 x1 x2 x3 k0 k1 k2 k3)) (by decide) sig (by simp) (by kernel_rfl) Tryz.func3 (t:=4) rfl (vs:= [v0,v1,v2,v3]) (w:=W) (by
  rw [Tryz.params3]
  exact zka a0 (zka a1 (zka a2 (zka a3 zuU))))).mono fun e W' ⟨he,bel⟩=> ?_
 subst he
 exact⟨_,rfl,_,_,_, [],_, [],hW',trodAll_mk1 (shut_bool Tryz.underlying4 _),(trodAll_cons_mk (Below.trod zng (by kernel_rfl) (of_decide_eq_true (by kernel_rfl)) m0 bel lt0) (trodAll_cons_mk (Below.trod zng (by kernel_rfl) (of_decide_eq_true (by kernel_rfl)) m1 bel lt1) (trodAll_cons_mk (Below.trod zng (by kernel_rfl) (of_decide_eq_true (by kernel_rfl)) m2 bel lt2) (trodAll_cons_mk (Below.trod zng (by kernel_rfl) (of_decide_eq_true (by kernel_rfl)) m3 bel lt3) trodAll_mk0)))),rfl,bel.frame _,fun h=>by cases h⟩
set_option maxHeartbeats 20000000 in
theorem zzA:joinedFacts Tryz.prog 3 Tryz.f3 Rows.fnExactHoldsAtSpec Rows.fnExactHoldsAtRow=true:=by
 unfold joinedFacts
 repeat' with_reducible refine zzf ?_ ?_
 all_goals decide+kernel
theorem zxg:Tryz.prog.funcNamed "loop.example/g00850/laws.FnExactHoldsAt" =some 3:=by kernel_rfl
theorem zBt:Rows.fnExactHoldsAtRow.holds Tryz.pinned (OpenSpec.ofChange Rows.fnExactHoldsAtSpec):=
 OpenClaim.holds_of_wide 3 Tryz.f3 rfl rfl rfl rfl rfl rfl rfl ⟨rfl,rfl,rfl,rfl,rfl⟩ rfl rfl rfl rfl rfl zxg Tryz.func3 zzA
  (of_decide_eq_true (by kernel_rfl)) (by unfold Func.isWrapper;first|(rw [if_pos (by decide+kernel)];kernel_rfl)|(rw [if_neg (by decide+kernel)];exact⟨rfl,rfl⟩))
  (fun os started H enc _=>zwd os started H enc)
theorem cwf:Rows.fnExactHoldsAtRow.wfByText (OpenSpec.ofChange Rows.fnExactHoldsAtSpec)=true:=by decide+kernel
theorem zzo:Tryz.prog.mainIs=some (true, "a3a94ab8df6772c8b15cae68c3748e595f2fd691d55f8b88b9160008fa0fcd76".toList):=by kernel_rfl
theorem zxj:false=Tryz.prog.looks []:=by kernel_rfl
theorem zzq:false=Rows.fnExactHoldsAtRow.goesBy Tryz.prog:=by kernel_rfl
theorem zw6:([25,9,3,26].all fun u=> !Tryz.prog.wantsStandIn u)=true:=by kernel_rfl
theorem card:Rows.FnExactHoldsAtCardSaid:=
 Claim7.holds_tied_plain_at .later [] [.data, .pinned] true (true, "a3a94ab8df6772c8b15cae68c3748e595f2fd691d55f8b88b9160008fa0fcd76") false zBt (fun _ h=>by cases h) cwf (fun _ h=>by cases h) fnExactHoldsAt_row_tie rfl ⟨rfl,rfl⟩ zzo rfl
  (fun f fn hf hfn=>by
   obtain rfl:f=3:=Option.some.inj (zxg.symm.trans hf)|>.symm
   obtain rfl:fn=Tryz.f3:=(Option.some.inj (Tryz.func3.symm.trans hfn)).symm
   exact⟨zxj,fun j t ht=>by
    rw [Tryz.params3]at ht
    have hm:t∈ [25,9,3,26]:=by simpa [or_assoc]using Array.mem_of_getElem? ht
    exact(show Tryz.prog.wantsStandIn t=false by simpa using List.all_eq_true.1 zw6 t hm)⟩)
  zzq
end Go.Proofs.YtecngjbpbnfegaaGreatDoor.fnExactHoldsAtDone
namespace Go.Proofs.YtecngjbpbnfegaaGreatDoor
theorem fnExactHoldsAtProved:Rows.FnExactHoldsAtCardSaid:=fnExactHoldsAtDone.card
#print axioms fnExactHoldsAtProved
end Go.Proofs.YtecngjbpbnfegaaGreatDoor
end
section
namespace Go.Proofs.YtecngjbpbnfegaaGreatDoor
open Go.RowKit
set_option maxRecDepth 100000
def zBc (st:List Int):Int:=if st.contains 3 then 2 else if st.contains 0 then 0 else 1
theorem zv8 {xs:List Int} {k:Int} (h:xs.length≤2000000):zfN xs k=some (xs.contains k):=by
 have key: ∀(n q:Nat),q+n=xs.length→za8 (fun s:Int=>zcv xs k s) (q:Int)=some ((xs.drop q).contains k):=by
  intro n
  induction n with
  |zero=>
   intro q hq
   have:q=xs.length:=by omega
   subst this
   rw [zda]
   have e:zcv xs k xs.length=some (.inr (some false)):=by
    unfold zcv
    rw [if_neg (by simp)]
   rw [e]
   simp
  |succ n ih=>
   intro q hq
   have hlt:q<xs.length:=by omega
   have ih2:=ih (q+1) (by omega)
   rw [zda,List.drop_eq_getElem_cons hlt,List.contains_cons]
   have e:zcv xs k q=some (if(xs[q]==k)=true then .inr (some true)else .inl ((q+1:Nat):Int)):=by
    unfold zcv
    rw [if_pos (by simpa using hlt),zai hlt,Option.bind_some,zbT hlt (by omega)]
    cases(xs[q]==k)<;>rfl
   rw [e]
   by_cases h1:(xs[q]==k)=true
   ·have h2:xs[q]=k:=by simpa using h1
    rw [if_pos h1];simp [h2]
   ·have h2:(k==xs[q])=false:=by
     rw [Bool.eq_false_iff];intro h3;exact h1 (by simp at h3 ⊢;omega)
    rw [if_neg h1,h2,Bool.false_or];exact ih2
 have:=key xs.length 0 (by omega)
 unfold zfN
 simpa using this
theorem zzE {s:zaB} {st:List Int} (hn:st.length=s.fAt.length) (hl:st.length≤2000000) (hs: ∀(i:Nat) (hi:i<st.length),∃tb,zcL s i=some tb∧zbh s tb=some st[i]):zc6 s=some (zBc st):=by
 have key: ∀(n q:Nat) (v:Int),q+n=st.length→za8 (fun x:Int × Int=>za3 s x.1 x.2) (v,(q:Int))=some (if(st.drop q).contains 3 then 2 else if(st.drop q).contains 0 then 0 else v):=by
  intro n
  induction n with
  |zero=>
   intro q v hq
   have:q=st.length:=by omega
   subst this
   have e:za3 s v st.length=some (.inr (some v)):=by
    unfold za3
    rw [if_neg (by simp [hn])]
   rw [zda]
   dsimp only
   rw [e]
   simp
  |succ n ih=>
   intro q v hq
   have hlt:q<st.length:=by omega
   obtain⟨tb,e1,e2⟩:=hs q hlt
   have e:za3 s v q=some (if(st[q]==3)=true then .inr (some 2)else if(st[q]==0)=true then .inl (0,((q+1:Nat):Int))else .inl (v,((q+1:Nat):Int))):=by
    unfold za3
    rw [if_pos (by simp;omega),e1,Option.bind_some,e2,Option.bind_some,zbT hlt (by omega)]
    cases(st[q]==3)<;>cases(st[q]==0)<;>rfl
   rw [zda,List.drop_eq_getElem_cons hlt,List.contains_cons,List.contains_cons]
   dsimp only
   rw [e]
   by_cases h1:st[q]=3
   ·simp [h1]
   ·have i0:=ih (q+1) 0 (by omega)
    have iv:=ih (q+1) v (by omega)
    have h1a:(st[q]==3)=false:=by simpa using h1
    have h1b:((3:Int)==st[q])=false:=by simp;omega
    rw [h1a,h1b,Bool.false_or]
    by_cases h2:st[q]=0
    ·simp only [h2,beq_self_eq_true,Bool.true_or,if_true,Bool.false_eq_true,if_false]
     rw [i0];split<;>(try split)<;>rfl
    ·have h2a:(st[q]==0)=false:=by simpa using h2
     have h2b:((0:Int)==st[q])=false:=by simp;omega
     rw [h2a,h2b,Bool.false_or]
     exact iv
 have:=key st.length 0 1 (by omega)
 unfold zc6
 simpa [zBc]using this
end Go.Proofs.YtecngjbpbnfegaaGreatDoor
end
section
namespace Go.Proofs.YtecngjbpbnfegaaGreatDoor
open Go.RowKit
set_option maxRecDepth 100000
theorem zwQ {s:zaB} {st:List Int} (hn:st.length=s.fAt.length) (hl:st.length≤2000000) (hs: ∀(i:Nat) (hi:i<st.length),∃y tb k x,zbF s.fAt i=some y∧zbF s.fWays y=some tb∧zbk tb s.fName=some k∧zbF tb.fIdxs k=some x∧x.fStage=st[i]):zes s=some st:=by
 unfold zes
 have h1:=zd0 (xs:=st) (body:=fun x:List Int × Int=>zbt s x.1 x.2) (fun i (o:List Int)=>(o,i)) (fun(o:List Int) x=>o++ [x]) (fun o=>some o) (fun i o=>o.length=i)
  (fun i hi o ho=>by
   refine⟨?_,by simp [ho]⟩
   obtain⟨y,tb,k,x,e1,e2,e3,e4,e5⟩:=hs i hi
   show zbt s o i=_
   unfold zbt
   have hq:((((o).length:Int)+(([x.fStage]:List Int).length:Int))*8≤140737488355328∧((o).length:Int)+(([x.fStage]:List Int).length:Int)≤140737488355328):=by rw [List.length_singleton];omega
   rw [if_pos (by simp;omega),e1,Option.bind_some,e2,Option.bind_some,e3,Option.bind_some,e4,Option.bind_some,zaq hq,zbT hi (by omega),e5])
  (fun o ho=>by
   show zbt s o st.length=_
   unfold zbt
   rw [if_neg (by simp [hn])]) (s:=([]:List Int)) rfl
 have h3:=h1.1
 rw [show(fun(o:List Int) x=>o++ [x])=(fun o x=>o++ [id x])from rfl,zmC,List.map_id,List.nil_append]at h3
 exact h3
theorem zzy {s:zaB} {st:List Int} (hn:st.length=s.fAt.length) (hl:st.length≤2000000) (hs: ∀(i:Nat) (hi:i<st.length),∃y tb k x,zbF s.fAt i=some y∧zbF s.fWays y=some tb∧zbk tb s.fName=some k∧zbF tb.fIdxs k=some x∧x.fStage=st[i]):zfi s=some (zBc st):=by
 unfold zfi zBc
 rw [zwQ hn hl hs,Option.bind_some,zv8 hl,Option.bind_some,zv8 hl,Option.bind_some]
 split<;>(try split)<;>rfl
end Go.Proofs.YtecngjbpbnfegaaGreatDoor
end
section
namespace Go.Proofs.YtecngjbpbnfegaaGreatDoor
open Go.RowKit
set_option maxRecDepth 100000
theorem zua {α:Type} {xs:List α} {i:Int} {x:α} (h:zbF xs i=some x):0≤i∧xs[i.toNat]?=some x∧i<xs.length:=by
 unfold zbF at h
 split at h
 ·rename_i h0
  have:=(List.getElem?_eq_some_iff.1 h).1
  exact⟨h0,h,by omega⟩
 ·cases h
def zmS (t:zab) (k c:Int):zab:=⟨t.fName,t.fCols,t.fIdxs.set k.toNat {((t.fIdxs[k.toNat]?).getD ⟨[],0,0⟩)with fStage:=c}⟩
def zgm (a b:Int):Int:=if a<b then a+1 else a-1
def zoA:Nat→Int→Int→List Int
 |0,_,_=> []
 |f+1,a,b=>if a=b then []else zgm a b::zoA f (zgm a b) b
def way (t:zab) (k a b:Int):List zab:=t::(zoA 3 a b).map (zmS t k)
theorem zu7: ∀(f:Nat) {a b:Int},0≤a→a≤3→0≤b→b≤3→ ∀c∈zoA f a b,0≤c∧c≤3
 |0,_,_,_,_,_,_,c,hc=>by simp [zoA]at hc
 |f+1,a,b,h1,h2,h3,h4,c,hc=>by
  unfold zoA at hc
  split at hc
  ·simp at hc
  ·have hn:0≤zgm a b∧zgm a b≤3:=by unfold zgm;split<;>omega
   rcases List.mem_cons.1 hc with rfl|hc
   ·exact hn
   ·exact zu7 f hn.1 hn.2 h3 h4 c hc
theorem zxh: ∀(f:Nat) (a b:Int),(zoA f a b).length≤f
 |0,_,_=>by simp [zoA]
 |f+1,a,b=>by
  unfold zoA
  split
  ·simp
  ·have:=zxh f (zgm a b) b
   simp;omega
theorem zsP {t:zab} {k b:Int} {body:Int × List zab→Option ((Int × List zab) ⊕ Option (List zab))} (hb0:0≤b) (hb3:b≤3)
  (hs: ∀a o,0≤a→a≤3→a≠b→o.length≤100→body (a,o)=some (.inl (zgm a b,o++ [zmS t k (zgm a b)]))) (he: ∀o,body (b,o)=some (.inr (some o))):
  ∀(f:Nat) (a:Int) (o:List zab),0≤a→a≤3→(a-b).natAbs≤f→o.length+f≤100→za8 body (a,o)=some (o++(zoA f a b).map (zmS t k))
 |0,a,o,_,_,hf,_=>by
  have:a=b:=by omega
  subst this
  rw [zda,he];simp [zoA]
 |f+1,a,o,h0,h3,hf,ho=>by
  by_cases hab:a=b
  ·subst hab
   rw [zda,he];simp [zoA]
  ·rw [zda,hs a o h0 h3 hab (by omega)]
   have hn:0≤zgm a b∧zgm a b≤3∧(zgm a b-b).natAbs≤f:=by unfold zgm;split<;>omega
   have:=zsP hb0 hb3 hs he f (zgm a b) (o++ [zmS t k (zgm a b)]) hn.1 hn.2.1 hn.2.2 (by simp;omega)
   simp only [this,zoA,if_neg hab,List.map_cons,List.append_assoc,List.singleton_append]
theorem zyV {t:zab} (h:zcB t):ze6 t=some t:=by
 unfold ze6
 have h1:=h.cols
 have h2:=h.idxs
 rw [zaq (by simp;omega),zaq (by simp;omega)]
theorem zwO {t:zab} (h:zcB t):zdi t=some t:=by
 unfold zdi za7 zbM
 have h1:=h.cols
 have h2:=h.idxs
 rw [zr1 (by omega) (by omega),Option.bind_some,zr1 (by omega) (by omega),Option.bind_some]
theorem zy9 {t:zab} {n:Str} {x:zb8} {c:Int} (h:zcB t) (hx:zhI t n x):zeY t n c=some (zmS t (zhg (fun y:zb8=>y.fName==n) t.fIdxs) c):=by
 unfold zeY zmS
 rw [zyV h,Option.bind_some,zpY h,Option.bind_some,hx.at_,Option.bind_some,(zua hx.at_).2.1]
 rfl
theorem zy3 {t:zab} {n:Str} {x:zb8} {c:Int} (h:zcB t) (hx:zhI t n x):zbn t n c=some (zmS t (zhg (fun y:zb8=>y.fName==n) t.fIdxs) c):=by
 unfold zbn zmS
 rw [zwO h,Option.bind_some,ztP h,Option.bind_some,hx.at_,Option.bind_some,(zua hx.at_).2.1]
 rfl
theorem zAv {t:zab} {n:Str} {x:zb8} {b:Int} (h:zcB t) (hx:zhI t n x) (h0:0≤x.fStage) (h3:x.fStage≤3) (hb0:0≤b) (hb3:b≤3):zf6 t n b=some (way t (zhg (fun y:zb8=>y.fName==n) t.fIdxs) x.fStage b):=by
 unfold zf6
 rw [zyV h,Option.bind_some,zpY h,Option.bind_some,hx.at_,Option.bind_some]
 refine(zsP (t:=t) (k:=zhg (fun y:zb8=>y.fName==n) t.fIdxs) hb0 hb3 ?_ ?_ 3 x.fStage [t] h0 h3 (by omega) (by simp)).trans (by simp [way])
 ·intro a o ha0 ha3 hab ho
  show zcJ t n b a o=_
  unfold zcJ
  rw [if_pos (by simpa using hab)]
  have w1:IntKind.i64.wrap (a+1)=a+1:=zdc (by omega) (by omega)
  have w2:IntKind.i64.wrap (a-1)=a-1:=zdc (by omega) (by omega)
  by_cases hlt:a<b
  ·rw [if_pos (by simpa using hlt),w1,zy9 h hx,Option.bind_some,zaq (by simp;omega)]
   simp [zgm,hlt]
  ·rw [if_neg (by simpa using hlt),w2,zy9 h hx,Option.bind_some,zaq (by simp;omega)]
   simp [zgm,hlt]
 ·intro o
  show zcJ t n b b o=_
  unfold zcJ
  rw [if_neg (by simp)]
theorem zAO {t:zab} {n:Str} {x:zb8} {b:Int} (h:zcB t) (hx:zhI t n x) (h0:0≤x.fStage) (h3:x.fStage≤3) (hb0:0≤b) (hb3:b≤3):zcM t n b=some (way t (zhg (fun y:zb8=>y.fName==n) t.fIdxs) x.fStage b):=by
 unfold zcM zbl
 rw [ztP h,Option.bind_some,hx.at_,Option.bind_some,Option.bind_some,zwO h,Option.bind_some]
 refine(zsP (t:=t) (k:=zhg (fun y:zb8=>y.fName==n) t.fIdxs) hb0 hb3 ?_ ?_ 3 x.fStage [t] h0 h3 (by omega) (by simp)).trans (by simp [way])
 ·intro a o ha0 ha3 hab ho
  show zba t n b a o=_
  unfold zba
  rw [if_pos (by simpa using hab)]
  have w1:IntKind.i64.wrap (a+1)=a+1:=zdc (by omega) (by omega)
  have w2:IntKind.i64.wrap (a-1)=a-1:=zdc (by omega) (by omega)
  by_cases hlt:a<b
  ·rw [if_pos (by simpa using hlt),w1,zy3 h hx,Option.bind_some,zaq (by simp;omega)]
   simp [zgm,hlt]
  ·rw [if_neg (by simpa using hlt),w2,zy3 h hx,Option.bind_some,zaq (by simp;omega)]
   simp [zgm,hlt]
 ·intro o
  show zba t n b b o=_
  unfold zba
  rw [if_neg (by simp)]
theorem ziv {α β:Type} {xs ys:List α} (hl:xs.length=ys.length) {body:Int→Option (Int ⊕ Option β)} (p:α→α→Bool) (b:β) (fin:Option β)
  (hs: ∀(i:Nat) (hi:i<xs.length) (hj:i<ys.length),body i=some (if p xs[i] ys[i]=true then .inl ((i+1:Nat):Int)else .inr (some b))) (he:body xs.length=some (.inr fin)):za8 body 0=if((xs.zip ys).all fun z=>p z.1 z.2)=true then fin else some b:=by
 have hz:(xs.zip ys).length=xs.length:=by simp [hl]
 have h1:=zmz (xs:=xs.zip ys) (body:=body) (fun i (_:Unit)=>i) (fun z _=>some (if p z.1 z.2=true then .inl ()else .inr (some b))) (fun _=>fin)
  (fun i hi s=>by
   have hi1:i<xs.length:=by omega
   have hi2:i<ys.length:=by omega
   rw [hs i hi1 hi2,List.getElem_zip]
   cases p xs[i] ys[i]<;>simp [zsA]) (fun s=>by rw [hz];exact he) ()
 rw [zux (fun z:α × α=>p z.1 z.2) b fun x _ s=>rfl]at h1
 exact h1
theorem zlV {α γ:Type} {p:α→α→Bool} {f:α→γ} (h: ∀x y,p x y=true↔f x=f y): ∀{xs ys:List α},xs.length=ys.length→(((xs.zip ys).all fun z=>p z.1 z.2)=true↔xs.map f=ys.map f)
 | [], [],_=>by simp
 | [],_::_,h=>by simp at h
 |_::_, [],h=>by simp at h
 |x::xs,y::ys,hl=>by
  have:=zlV h (xs:=xs) (ys:=ys) (by simpa using hl)
  simp only [List.zip_cons_cons,List.all_cons,Bool.and_eq_true,List.map_cons,List.cons.injEq,this,h]
def nc (x:zb8):Str × Int:=(x.fName,x.fCol)
theorem zw8 {x y:zb8} (h1:nc x=nc y) (h2:x.fStage=y.fStage):x=y:=by
 cases x;cases y
 simp [nc]at h1 h2
 simp [h1,h2]
theorem zr3: ∀{xs ys:List zb8},xs.map nc=ys.map nc→xs.map (·.fStage)=ys.map (·.fStage)→xs=ys
 | [], [],_,_=>rfl
 | [],_::_,h,_=>by simp at h
 |_::_, [],h,_=>by simp at h
 |x::xs,y::ys,h1,h2=>by
  simp only [List.map_cons,List.cons.injEq]at h1 h2
  rw [zw8 h1.1 h2.1,zr3 h1.2 h2.2]
theorem zo6 {a b:zab} (h1:a.fName=b.fName) (h2:a.fCols=b.fCols) (h3:a.fIdxs=b.fIdxs):a=b:=by
 cases a;cases b;simp at h1 h2 h3;simp [h1,h2,h3]
theorem zvM {a b:zab} (ha:zcB a): ∃r,zdp a b=some r∧(r=true↔a.fName=b.fName∧a.fCols=b.fCols∧a.fIdxs.map nc=b.fIdxs.map nc):=by
 unfold zdp
 by_cases h0:(((a.fName !=b.fName)||((a.fCols.length:Int) !=(b.fCols.length:Int)))||((a.fIdxs.length:Int) !=(b.fIdxs.length:Int)))=true
 ·rw [if_pos h0]
  refine⟨_,rfl,by simp, ?_⟩
  rintro⟨h1,h2,h3⟩
  have h4:=congrArg List.length h3
  simp only [List.length_map]at h4
  rw [h1,h2,h4]at h0
  simp at h0
 ·rw [if_neg h0]
  simp only [Bool.or_eq_true,bne_iff_ne,ne_eq,not_or,Decidable.not_not,Int.natCast_inj]at h0
  obtain⟨⟨h1,h2⟩,h3⟩:=h0
  have hc:=ha.cols
  have hi:=ha.idxs
  rw [ziv (xs:=a.fCols) (ys:=b.fCols) h2 (fun x y=>x==y) false (zbv a b) ?_ ?_]
  ·have hk:zbv a b=some ((a.fIdxs.zip b.fIdxs).all fun z=>nc z.1==nc z.2):=by
    unfold zbv
    rw [ziv (xs:=a.fIdxs) (ys:=b.fIdxs) h3 (fun x y=>nc x==nc y) false (some true) ?_ ?_]
    ·cases((a.fIdxs.zip b.fIdxs).all fun z=>nc z.1==nc z.2)<;>rfl
    ·intro i hi1 hj1
     show zbs a b i=_
     unfold zbs
     rw [if_pos (by simpa using hi1),zai hi1,Option.bind_some,zai hj1,Option.bind_some,zbT hi1 (by omega)]
     by_cases hq:nc a.fIdxs[i]=nc b.fIdxs[i]
     ·have hq2:=hq
      simp only [nc,Prod.mk.injEq]at hq2
      rw [if_neg (by simp [hq2.1,hq2.2]),if_pos (by simpa using hq)]
     ·have hq2:=hq
      simp only [nc,Prod.mk.injEq,not_and]at hq2
      rw [if_pos (by simp only [Bool.or_eq_true,bne_iff_ne,ne_eq];by_cases hz:a.fIdxs[i].fName=b.fIdxs[i].fName;exact .inr (hq2 hz);exact .inl hz),if_neg (by simpa using hq)]
    ·show zbs a b a.fIdxs.length=_
     unfold zbs
     rw [if_neg (by simp)]
   have z1:=zlV (p:=fun x y:Str=>x==y) (f:=id) (by simp) h2
   have z2:=zlV (p:=fun x y:zb8=>nc x==nc y) (f:=nc) (by simp) h3
   rw [List.map_id,List.map_id]at z1
   rw [hk]
   by_cases hz:((a.fCols.zip b.fCols).all fun z=>z.1==z.2)=true
   ·rw [if_pos hz]
    exact⟨_,rfl,by rw [z2];exact⟨fun h=>⟨h1,z1.1 hz,h⟩,fun h=>h.2.2⟩⟩
   ·rw [if_neg hz]
    exact⟨_,rfl,by simp,fun h=>absurd (z1.2 h.2.1) hz⟩
  ·intro i hi1 hj1
   show zbq a b i=_
   unfold zbq
   rw [if_pos (by simpa using hi1),zai hi1,Option.bind_some,zai hj1,Option.bind_some,zbT hi1 (by omega)]
   by_cases hq:a.fCols[i]=b.fCols[i]
   ·rw [if_neg (by simp [hq]),if_pos (by simpa using hq)]
   ·rw [if_pos (by simpa using hq),if_neg (by simpa using hq)]
  ·show zbq a b a.fCols.length=_
   unfold zbq
   rw [if_neg (by simp)]
structure zyO (t:zab):Prop where
 len:t.fIdxs.length≤3
 stg: ∀x∈t.fIdxs,0≤x.fStage∧x.fStage≤3
theorem zuW: ∀(l:List (zb8 × zb8)) (s:Int),0≤s→(l.foldl (fun s z=>s+((z.1.fStage-z.2.fStage).natAbs:Int)) s=0↔s=0∧ ∀z∈l,z.1.fStage=z.2.fStage)
 | [],s,_=>by simp
 |z::l,s,h=>by
  rw [List.foldl_cons,zuW l _ (by omega)]
  constructor
  ·rintro⟨h1,h2⟩
   exact⟨by omega,fun y hy=>by
    rcases List.mem_cons.1 hy with rfl|hy
    ·omega
    ·exact h2 y hy⟩
  ·rintro⟨h1,h2⟩
   have:=h2 z (by simp)
   exact⟨by omega,fun y hy=>h2 y (by simp [hy])⟩
theorem ztt: ∀{xs ys:List zb8},xs.length=ys.length→((∀z∈xs.zip ys,z.1.fStage=z.2.fStage)↔xs.map (·.fStage)=ys.map (·.fStage))
 | [], [],_=>by simp
 | [],_::_,h=>by simp at h
 |_::_, [],h=>by simp at h
 |x::xs,y::ys,hl=>by
  have:=ztt (xs:=xs) (ys:=ys) (by simpa using hl)
  simp only [List.zip_cons_cons,List.forall_mem_cons,this,List.map_cons,List.cons.injEq]
theorem zAE (d:Int) (h1: -3≤d) (h2:d≤3):zf8 d (IntKind.i64.wrap (0-d))=some (d.natAbs:Int):=by
 rw [zdc (by omega) (by omega)]
 unfold zf8
 by_cases h:d>0-d
 ·rw [if_pos (by simpa using h)];congr 1;omega
 ·rw [if_neg (by simpa using h)];congr 1;omega
theorem zBM {a b:zab} (ha:zyO a) (hb:zyO b) (hl:a.fIdxs.length=b.fIdxs.length): ∃v,zf0 a b=some v∧(v=0↔a.fIdxs.map (·.fStage)=b.fIdxs.map (·.fStage)):=by
 unfold zf0
 have h3:=ha.len
 have hz:(a.fIdxs.zip b.fIdxs).length=a.fIdxs.length:=by simp [hl]
 have h1:=zd0 (xs:=a.fIdxs.zip b.fIdxs) (body:=fun s:Int × Int=>zcd a b s.1 s.2) (fun i (s:Int)=>(s,i)) (fun(s:Int) z=>s+((z.1.fStage-z.2.fStage).natAbs:Int)) (fun s=>some s) (fun i s=>0≤s∧s≤3*(i:Int))
  (fun i hi s hs=>by
   have hi1:i<a.fIdxs.length:=by omega
   have hi2:i<b.fIdxs.length:=by omega
   have ga:=ha.stg a.fIdxs[i] (List.getElem_mem hi1)
   have gb:=hb.stg b.fIdxs[i] (List.getElem_mem hi2)
   rw [List.getElem_zip]
   refine⟨?_, ?_, ?_⟩
   ·show zcd a b s i=_
    unfold zcd
    rw [if_pos (by simpa using hi1),zai hi1,Option.bind_some,zai hi2,Option.bind_some,zdc (n:=a.fIdxs[i].fStage-b.fIdxs[i].fStage) (by omega) (by omega),zAE _ (by omega) (by omega),Option.bind_some,zbT hi1 (by omega),zdc (by omega) (by omega)]
   ·dsimp only;omega
   ·dsimp only;push_cast;omega)
  (fun s hs=>by
   show zcd a b s ((a.fIdxs.zip b.fIdxs).length:Int)=_
   unfold zcd
   rw [hz,if_neg (by simp)]) (s:=0) ⟨by omega,by omega⟩
 refine⟨_,h1.1, ?_⟩
 rw [zuW _ _ (by omega),←ztt hl]
 simp
def eqT (a b:zab):Bool:=a.fName==b.fName&&(a.fCols==b.fCols&&(a.fIdxs.map nc==b.fIdxs.map nc&&a.fIdxs.map (·.fStage)==b.fIdxs.map (·.fStage)))
theorem zm5 {a b:zab}:eqT a b=true↔a=b:=by
 unfold eqT
 simp only [Bool.and_eq_true,beq_iff_eq]
 constructor
 ·rintro⟨h1,h2,h3,h4⟩;exact zo6 h1 h2 (zr3 h3 h4)
 ·rintro rfl;simp
theorem zys {a b:zab} (ha:zcB a):zbx a b=some (eqT a b):=by
 have key: ∃r,zbx a b=some r∧(r=true↔a=b):=by
  unfold zbx
  by_cases h1:(a.fName==b.fName)=true
  ·rw [if_pos h1]
   have h1':a.fName=b.fName:=by simpa using h1
   have e1: ∃r,za5 a.fCols b.fCols=some r∧(r=true↔a.fCols=b.fCols):=by
    unfold za5
    by_cases h2:((a.fCols.length:Int) !=(b.fCols.length:Int))=true
    ·rw [if_pos h2]
     exact⟨_,rfl,by simp,fun h=>by rw [h]at h2;simp at h2⟩
    ·rw [if_neg h2]
     have h2':a.fCols.length=b.fCols.length:=by
      have:(a.fCols.length:Int)=b.fCols.length:=by simpa using h2
      omega
     rw [ziv (xs:=a.fCols) (ys:=b.fCols) h2' (fun x y=>x==y) false (some true) ?_ ?_]
     ·have z1:=zlV (p:=fun x y:Str=>x==y) (f:=id) (by simp) h2'
      rw [List.map_id,List.map_id]at z1
      rw [←z1]
      cases hz:((a.fCols.zip b.fCols).all fun z=>z.1==z.2)<;>exact⟨_,rfl,by simp⟩
     ·intro i hi1 hj1
      show zau a.fCols b.fCols i=_
      unfold zau
      have:=ha.cols
      rw [if_pos (by simpa using hi1),zai hi1,Option.bind_some,zai hj1,Option.bind_some,zbT hi1 (by omega)]
      by_cases hq:a.fCols[i]=b.fCols[i]
      ·rw [if_neg (by simp [hq]),if_pos (by simpa using hq)]
      ·rw [if_pos (by simpa using hq),if_neg (by simpa using hq)]
     ·show zau a.fCols b.fCols a.fCols.length=_
      unfold zau
      rw [if_neg (by simp)]
   obtain⟨r1,e1,f1⟩:=e1
   rw [e1,Option.bind_some]
   by_cases h2:r1=true
   ·rw [if_pos h2]
    have h2':=f1.1 h2
    have e2: ∃r,zaL a.fIdxs b.fIdxs=some r∧(r=true↔a.fIdxs=b.fIdxs):=by
     unfold zaL
     by_cases h3:((a.fIdxs.length:Int) !=(b.fIdxs.length:Int))=true
     ·rw [if_pos h3]
      exact⟨_,rfl,by simp,fun h=>by rw [h]at h3;simp at h3⟩
     ·rw [if_neg h3]
      have h3':a.fIdxs.length=b.fIdxs.length:=by
       have:(a.fIdxs.length:Int)=b.fIdxs.length:=by simpa using h3
       omega
      rw [ziv (xs:=a.fIdxs) (ys:=b.fIdxs) h3' (fun x y=>x.fName==y.fName&&(x.fCol==y.fCol&&(x.fStage==y.fStage))) false (some true) ?_ ?_]
      ·have z1:=zlV (p:=fun x y:zb8=>x.fName==y.fName&&(x.fCol==y.fCol&&(x.fStage==y.fStage))) (f:=id) (fun x y=>by
        simp only [Bool.and_eq_true,beq_iff_eq,id]
        constructor
        ·rintro⟨k1,k2,k3⟩;exact zw8 (by simp [nc,k1,k2]) k3
        ·rintro rfl;simp) h3'
       rw [List.map_id,List.map_id]at z1
       rw [←z1]
       cases((a.fIdxs.zip b.fIdxs).all fun z=>z.1.fName==z.2.fName&&(z.1.fCol==z.2.fCol&&(z.1.fStage==z.2.fStage)))<;>exact⟨_,rfl,by simp⟩
      ·intro i hi1 hj1
       show zap a.fIdxs b.fIdxs i=_
       unfold zap
       have:=ha.idxs
       rw [if_pos (by simpa using hi1),zai hi1,Option.bind_some,zai hj1,Option.bind_some,zbT hi1 (by omega)]
       cases(a.fIdxs[i].fName==b.fIdxs[i].fName&&(a.fIdxs[i].fCol==b.fIdxs[i].fCol&&(a.fIdxs[i].fStage==b.fIdxs[i].fStage)))<;>rfl
      ·show zap a.fIdxs b.fIdxs a.fIdxs.length=_
       unfold zap
       rw [if_neg (by simp)]
    obtain⟨r2,e2,f2⟩:=e2
    rw [e2,Option.bind_some]
    exact⟨_,rfl,by rw [f2];exact⟨fun h=>zo6 h1' h2' h,fun h=>by rw [h]⟩⟩
   ·rw [if_neg h2]
    exact⟨_,rfl,by simp,fun h=>absurd (f1.2 (by rw [h])) h2⟩
  ·rw [if_neg h1]
   exact⟨_,rfl,by simp,fun h=>by rw [h]at h1;simp at h1⟩
 obtain⟨r,e,f⟩:=key
 rw [e];congr 1
 rw [Bool.eq_iff_iff,f,zm5]
end Go.Proofs.YtecngjbpbnfegaaGreatDoor
end
section
namespace Go.Proofs.YtecngjbpbnfegaaGreatDoor
open Go.RowKit
set_option maxRecDepth 100000
structure zsV (s:zaB):Prop where
 name:s.fName.length≤2000000
 ways:s.fWays.length≤2000000
 way: ∀t∈s.fWays,zcB t
 at_:s.fAt.length≤2000000
 store:zlx s.fStore
theorem zww {t:zab} (h:zbc t=true):zyO t:=by
 unfold zbc at h
 simp only [Bool.and_eq_true,decide_eq_true_eq]at h
 refine⟨by omega,fun x hx=> ?_⟩
 obtain⟨i,hi,rfl⟩:=List.mem_iff_getElem.1 hx
 have h1:=List.all_eq_true.1 h.2 i (List.mem_range.2 hi)
 unfold zov at h1
 simp only [Bool.and_eq_true,List.getElem?_eq_getElem hi,Option.getD_some]at h1
 exact zee.1 h1.1.2
theorem zuK {α γ:Type} (f:α→γ): ∀(l:List α) (k:Nat) (d y:α),f y=f ((l[k]?).getD d)→(l.set k y).map f=l.map f
 | [],k,d,y,_=>rfl
 |x::l,0,d,y,h=>by
  simp only [List.getElem?_cons_zero,Option.getD_some]at h
  simp [h]
 |x::l,k+1,d,y,h=>by
  simp only [List.getElem?_cons_succ]at h
  simp [zuK f l k d y h]
theorem zo9 (t:zab) (k c:Int):(zmS t k c).fIdxs.map (·.fName)=t.fIdxs.map (·.fName):=zuK _ _ _ ⟨[],0,0⟩ _ rfl
theorem zxo {t:zab} {k c:Int} (h:zyO t) (h0:0≤c) (h3:c≤3):zyO (zmS t k c):=by
 refine⟨by unfold zmS;simpa using h.len,fun x hx=> ?_⟩
 rcases List.mem_or_eq_of_mem_set hx with hx|rfl
 ·exact h.stg x hx
 ·exact⟨h0,h3⟩
theorem zuk {t:zab} {k c:Int} (h:zcB t):zcB (zmS t k c):=by
 refine⟨h.name,h.cols,h.col,by unfold zmS;simpa using h.idxs,fun x hx=> ?_⟩
 have h1:x.fName∈(zmS t k c).fIdxs.map (·.fName):=List.mem_map.2 ⟨x,hx,rfl⟩
 rw [zo9]at h1
 obtain⟨y,hy,e⟩:=List.mem_map.1 h1
 rw [←e];exact h.idx y hy
theorem zzO {t:zab} {k a b:Int} (hS:zcB t) (h:zyO t) (ha0:0≤a) (ha3:a≤3) (hb0:0≤b) (hb3:b≤3): ∀w∈way t k a b,w.fIdxs.map (·.fName)=t.fIdxs.map (·.fName)∧zyO w∧zcB w:=by
 intro w hw
 rcases List.mem_cons.1 hw with rfl|hw
 ·exact⟨rfl,h,hS⟩
 ·obtain⟨c,hc,rfl⟩:=List.mem_map.1 hw
  have:=zu7 3 ha0 ha3 hb0 hb3 c hc
  exact⟨zo9 t k c,zxo h this.1 this.2,zuk hS⟩
theorem zwr {xs ys:List zb8} {n:Str} (h:xs.map (·.fName)=ys.map (·.fName)):decide (zhg (fun x:zb8=>x.fName==n) xs≥0)=decide (zhg (fun x:zb8=>x.fName==n) ys≥0):=by
 rw [zmh,zmh]
 have e: ∀l:List zb8,(l.any fun x=>x.fName==n)=(l.map (·.fName)).any (· ==n):=fun l=>by rw [List.any_map];rfl
 rw [e,e,h]
def noT:zab:=⟨[], [], []⟩
def zem (s:zaB):zab:=(s.fWays[0]?).getD noT
def zmR (s:zaB):zab:=(s.fWays[s.fWays.length-1]?).getD noT
def kOf (t:zab) (n:Str):Int:=zhg (fun y:zb8=>y.fName==n) t.fIdxs
def zsR (t:zab) (n:Str):Int:=((t.fIdxs[(kOf t n).toNat]?).getD ⟨[],0,0⟩).fStage
def zhu (s:zaB):List zab:=way (zem s) (kOf (zem s) s.fName) (zsR (zem s) s.fName) (zsR (zmR s) s.fName)
theorem zyF {t:zab} {n:Str} {x:zb8} (h:zhI t n x):zsR t n=x.fStage:=by
 unfold zsR kOf
 rw [(zua h.at_).2.1];rfl
theorem zp1 {s:zaB} (h:1≤s.fWays.length):zbF s.fWays 0=some (zem s)∧zem s∈s.fWays:=by
 have h0:0<s.fWays.length:=by omega
 have e:zem s=s.fWays[0]:=by unfold zem;rw [List.getElem?_eq_getElem h0];rfl
 rw [e]
 exact⟨zai h0,List.getElem_mem h0⟩
theorem zuV {s:zaB} (h:1≤s.fWays.length) (h4:s.fWays.length≤4):zbF s.fWays (IntKind.i64.wrap ((s.fWays.length:Int)-1))=some (zmR s)∧zmR s∈s.fWays:=by
 have h0:s.fWays.length-1<s.fWays.length:=by omega
 have e:zmR s=s.fWays[s.fWays.length-1]:=by unfold zmR;rw [List.getElem?_eq_getElem h0];rfl
 have w:IntKind.i64.wrap ((s.fWays.length:Int)-1)=((s.fWays.length-1:Nat):Int):=by rw [zdc (by omega) (by omega)];omega
 rw [e,w]
 exact⟨zai h0,List.getElem_mem h0⟩
theorem zpO {t:zab} {n:Str} (h:zm3 t n=true): ∃x,zhI t n x∧zsR t n=x.fStage∧0≤x.fStage∧x.fStage≤3∧zbc t=true:=by
 obtain⟨x,hx,_⟩:=zxf h
 have hg:zbc t=true:=by
  unfold zm3 at h
  simp only [Bool.and_eq_true]at h
  exact h.1
 have:=(zww hg).stg x (zyj hx.at_)
 exact⟨x,hx,zyF hx,this.1,this.2,hg⟩
theorem zzF {s:zaB} (hS:zsV s) (h1:1≤s.fWays.length) (h4:s.fWays.length≤4): ∃sw,zdx s=some sw∧(sw=true↔(∀t∈s.fWays,zm3 t s.fName=true)∧s.fWays=zhu s):=by
 unfold zdx
 obtain⟨e0,m0⟩:=zp1 h1
 obtain⟨e1,m1⟩:=zuV h1 h4
 have S0:=hS.way _ m0
 have S1:=hS.way _ m1
 rw [zms,Option.bind_some,if_pos (zee.2 ⟨by omega,by omega⟩),e0,Option.bind_some,zoO S0,Option.bind_some]
 have no: ∀{t:zab},t∈s.fWays→zm3 t s.fName≠true→(false=true↔(∀t∈s.fWays,zm3 t s.fName=true)∧s.fWays=zhu s):=fun ht hn=>⟨by simp,fun h=>absurd (h.1 _ ht) hn⟩
 by_cases g0:zbc (zem s)=true
 ·rw [if_pos g0,zpY S0,Option.bind_some]
  by_cases k0:zhg (fun x:zb8=>x.fName==s.fName) (zem s).fIdxs<0
  ·rw [if_pos (by simpa using k0)]
   exact⟨_,rfl,no m0 (by unfold zm3;intro hq;rw [Bool.and_eq_true,decide_eq_true_eq]at hq;omega)⟩
  ·rw [if_neg (by simpa using k0),e1,Option.bind_some,zoO S1,Option.bind_some]
   by_cases g1:zbc (zmR s)=true
   ·rw [if_pos g1,zpY S1,Option.bind_some]
    by_cases k1:zhg (fun x:zb8=>x.fName==s.fName) (zmR s).fIdxs<0
    ·rw [if_pos (by simpa using k1)]
     exact⟨_,rfl,no m1 (by unfold zm3;intro hq;rw [Bool.and_eq_true,decide_eq_true_eq]at hq;omega)⟩
    ·rw [if_neg (by simpa using k1),Option.bind_some]
     have H0:zm3 (zem s) s.fName=true:=by unfold zm3;simp only [Bool.and_eq_true,decide_eq_true_eq];exact⟨g0,by omega⟩
     have H1:zm3 (zmR s) s.fName=true:=by unfold zm3;simp only [Bool.and_eq_true,decide_eq_true_eq];exact⟨g1,by omega⟩
     obtain⟨x,hx,sx,x0,x3,_⟩:=zpO H0
     obtain⟨y,hy,sy,y0,y3,_⟩:=zpO H1
     rw [hy.at_,Option.bind_some,zAv S0 hx x0 x3 y0 y3,Option.bind_some]
     have hW:way (zem s) (zhg (fun y:zb8=>y.fName==s.fName) (zem s).fIdxs) x.fStage y.fStage=zhu s:=by unfold zhu kOf;rw [sx,sy]
     rw [hW]
     have hM:=zzO (t:=zem s) (k:=kOf (zem s) s.fName) (a:=zsR (zem s) s.fName) (b:=zsR (zmR s) s.fName) S0 (zww g0) (by omega) (by omega) (by omega) (by omega)
     have hM: ∀w∈zhu s,w.fIdxs.map (·.fName)=(zem s).fIdxs.map (·.fName)∧zyO w∧zcB w:=hM
     by_cases hl:((zhu s).length:Int) !=(s.fWays.length:Int)
     ·rw [if_pos hl]
      exact⟨_,rfl,by simp,fun h=>by rw [←h.2]at hl;simp at hl⟩
     ·rw [if_neg hl]
      have hl':(zhu s).length=s.fWays.length:=by
       have:((zhu s).length:Int)=(s.fWays.length:Int):=by simpa using hl
       omega
      rw [ziv (xs:=zhu s) (ys:=s.fWays) hl' (fun w y=>zbc y&&eqT w y) false (some true) ?_ ?_]
      ·have z1:=zlV (p:=eqT) (f:=id) (fun x y=>zm5) hl'
       rw [List.map_id,List.map_id]at z1
       have z2:((zhu s).zip s.fWays).all (fun z=>zbc z.2)=s.fWays.all zbc:=by
        have:=List.map_snd_zip (l₁:=zhu s) (l₂:=s.fWays) (by omega)
        conv=>rhs;rw [←this]
        rw [List.all_map];rfl
       have z3:(((zhu s).zip s.fWays).all fun z=>zbc z.2&&eqT z.1 z.2)=(s.fWays.all zbc&&((zhu s).zip s.fWays).all fun z=>eqT z.1 z.2):=by
        rw [←z2]
        rw [Bool.eq_iff_iff]
        simp only [List.all_eq_true,Bool.and_eq_true]
        exact⟨fun h=>⟨fun z hz=>(h z hz).1,fun z hz=>(h z hz).2⟩,fun h z hz=>⟨h.1 z hz,h.2 z hz⟩⟩
       have key:(((zhu s).zip s.fWays).all fun z=>zbc z.2&&eqT z.1 z.2)=true↔(∀t∈s.fWays,zm3 t s.fName=true)∧s.fWays=zhu s:=by
        rw [z3,Bool.and_eq_true,z1]
        constructor
        ·rintro⟨a1,a2⟩
         refine⟨fun t ht=> ?_,a2.symm⟩
         have q1:=List.all_eq_true.1 a1 t ht
         rw [←a2]at ht
         have q2:=zwr (n:=s.fName) (hM t ht).1
         unfold zm3 at H0 ⊢
         simp only [Bool.and_eq_true]at H0 ⊢
         exact⟨q1,by rw [q2];exact H0.2⟩
        ·rintro⟨a1,a2⟩
         exact⟨List.all_eq_true.2 fun t ht=>by have:=a1 t ht;unfold zm3 at this;simp only [Bool.and_eq_true]at this;exact this.1,a2.symm⟩
       by_cases hz:(((zhu s).zip s.fWays).all fun z=>zbc z.2&&eqT z.1 z.2)=true
       ·rw [if_pos hz];exact⟨_,rfl,fun _=>key.1 hz,fun _=>rfl⟩
       ·rw [if_neg hz];exact⟨_,rfl,by simp,fun h=>absurd (key.2 h) hz⟩
      ·intro i hi hj
       show zck s (zhu s) i=_
       unfold zck
       have Sj:=hS.way _ (List.getElem_mem hj)
       obtain⟨_,Ti,Si⟩:=hM _ (List.getElem_mem hi)
       rw [if_pos (by simpa using hi),zai hj,Option.bind_some,zoO Sj,Option.bind_some]
       by_cases gj:zbc s.fWays[i]=true
       ·rw [if_pos gj,zai hi,Option.bind_some]
        obtain⟨r,er,fr⟩:=zvM (a:=(zhu s)[i]) (b:=s.fWays[i]) Si
        rw [er,Option.bind_some]
        by_cases hr:r=true
        ·rw [if_pos hr]
         obtain⟨c1,c2,c3⟩:=fr.1 hr
         have c4:=congrArg List.length c3
         simp only [List.length_map]at c4
         obtain⟨v,ev,fv⟩:=zBM Ti (zww gj) c4
         rw [ev,Option.bind_some,zbT hi (by omega)]
         by_cases hv:v=0
         ·have:=zm5.2 (zo6 c1 c2 (zr3 c3 (fv.1 hv)))
          rw [if_neg (by simp [hv]),if_pos (by rw [gj,this];rfl)]
         ·rw [if_pos (by simpa using hv),if_neg (by
           simp only [Bool.and_eq_true,not_and]
           intro _ h
           rw [zm5.1 h]at fv
           exact hv (fv.2 rfl))]
        ·rw [if_neg hr,if_neg (by
          simp only [Bool.and_eq_true,not_and]
          intro _ h
          rw [zm5.1 h]at fr
          exact hr (fr.2 ⟨rfl,rfl,rfl⟩))]
       ·rw [if_neg gj,if_neg (by simp [gj])]
      ·show zck s (zhu s) (zhu s).length=_
       unfold zck
       rw [if_neg (by simp)]
   ·rw [if_neg g1]
    exact⟨_,rfl,no m1 (by unfold zm3;simp [g1])⟩
 ·rw [if_neg g0]
  exact⟨_,rfl,no m0 (by unfold zm3;simp [g0])⟩
theorem zzk {xs:List Int} {a b:Int} (h:xs.length≤2000000):zg0 xs a b=some (xs.all fun y=>inB y a b):=by
 unfold zg0
 have h1:=zmz (xs:=xs) (body:=fun s:Int=>zcx xs a b s) (fun i (_:Unit)=>i) (fun y _=>some (if inB y a b=true then .inl ()else .inr (some false))) (fun _=>some true)
  (fun i hi s=>by
   show zcx xs a b i=_
   unfold zcx
   rw [if_pos (by simpa using hi),zai hi,Option.bind_some,zms,Option.bind_some,zbT hi (by omega)]
   cases inB xs[i] a b<;>simp [zsA]) (fun s=>by
   show zcx xs a b xs.length=_
   unfold zcx
   rw [if_neg (by simp)]) ()
 rw [zux (fun y=>inB y a b) false fun x _ s=>rfl]at h1
 refine h1.trans ?_
 cases(xs.all fun y=>inB y a b)<;>rfl
def zAw (s:zaB):Prop:=1≤s.fWays.length∧s.fWays.length≤4∧(∀t∈s.fWays,zm3 t s.fName=true)∧s.fWays=zhu s∧inB s.fAt.length 1 3=true∧(∀y∈s.fAt,0≤y∧y≤(s.fWays.length:Int)-1)∧zhv s.fStore=true
theorem zzd {s:zaB}:(s.fAt.all fun y=>inB y 0 ((s.fWays.length:Int)-1))=true↔ ∀y∈s.fAt,0≤y∧y≤(s.fWays.length:Int)-1:=by
 rw [List.all_eq_true]
 exact⟨fun h y hy=>zee.1 (h y hy),fun h y hy=>zee.2 (h y hy)⟩
theorem zzR {s:zaB} (hS:zsV s): ∃g,zeu s=some g∧(g=true↔zAw s):=by
 unfold zeu
 by_cases h:1≤s.fWays.length∧s.fWays.length≤4
 ·obtain⟨sw,e,f⟩:=zzF hS h.1 h.2
  rw [e,Option.bind_some]
  have w:IntKind.i64.wrap ((s.fWays.length:Int)-1)=(s.fWays.length:Int)-1:=zdc (by omega) (by omega)
  by_cases hw:sw=true
  ·rw [if_pos hw,zms,Option.bind_some]
   by_cases h2:inB s.fAt.length 1 3=true
   ·rw [if_pos h2,w,zzk hS.at_,Option.bind_some]
    by_cases h3:(s.fAt.all fun y=>inB y 0 ((s.fWays.length:Int)-1))=true
    ·rw [if_pos h3,zwp hS.store,Option.bind_some]
     exact⟨_,rfl,fun h5=>⟨h.1,h.2,(f.1 hw).1,(f.1 hw).2,h2,zzd.1 h3,h5⟩,fun h5=>h5.2.2.2.2.2.2⟩
    ·rw [if_neg h3];exact⟨_,rfl,by simp,fun h5=>absurd (zzd.2 h5.2.2.2.2.2.1) h3⟩
   ·rw [if_neg h2];exact⟨_,rfl,by simp,fun h5=>absurd h5.2.2.2.2.1 h2⟩
  ·rw [if_neg hw];exact⟨_,rfl,by simp,fun h5=>absurd (f.2 ⟨h5.2.2.1,h5.2.2.2.1⟩) hw⟩
 ·have e:zdx s=some false:=by
   unfold zdx
   rw [zms,Option.bind_some,if_neg (by rw [zee];omega)]
  rw [e,Option.bind_some,if_neg (by simp)]
  exact⟨_,rfl,by simp,fun h5=>absurd ⟨h5.1,h5.2.1⟩ h⟩
theorem zw9 {xs ys:List zab} (h: ∀t∈xs,zcB t) (hl:xs.length≤2000000): ∃r,zak xs ys (fun a b=>zbx a b)=some r∧(r=true↔xs=ys):=by
 unfold zak
 by_cases h3:((xs.length:Int) !=(ys.length:Int))=true
 ·rw [if_pos h3]
  exact⟨_,rfl,by simp,fun h=>by rw [h]at h3;simp at h3⟩
 ·rw [if_neg h3]
  have h3':xs.length=ys.length:=by
   have:(xs.length:Int)=ys.length:=by simpa using h3
   omega
  rw [ziv (xs:=xs) (ys:=ys) h3' eqT false (some true) ?_ ?_]
  ·have z1:=zlV (p:=eqT) (f:=id) (fun x y=>zm5) h3'
   rw [List.map_id,List.map_id]at z1
   rw [←z1]
   cases((xs.zip ys).all fun z=>eqT z.1 z.2)<;>exact⟨_,rfl,by simp⟩
  ·intro i hi1 hj1
   show zaf xs ys (fun a b=>zbx a b) i=_
   unfold zaf
   rw [if_pos (by simpa using hi1),zai hi1,Option.bind_some,zai hj1,Option.bind_some,zbT hi1 (by omega)]
   dsimp only
   rw [zys (h _ (List.getElem_mem hi1)),Option.bind_some]
   cases eqT xs[i] ys[i]<;>rfl
  ·show zaf xs ys (fun a b=>zbx a b) xs.length=_
   unfold zaf
   rw [if_neg (by simp)]
theorem zve {s:zaB} {t:zab} {x:zb8} (h:zcB t) (hx:zhI t s.fName x):zbh s t=some x.fStage:=by
 unfold zbh zbl
 rw [ztP h,Option.bind_some,hx.at_,Option.bind_some,Option.bind_some]
theorem zz1 {s:zaB} (hS:zsV s): ∃g,zeq s=some g∧(g=true↔zAw s):=by
 unfold zeq
 rw [zhs,Option.bind_some]
 by_cases hb:inB s.fWays.length 1 4=true
 ·have h:=zee.1 hb
  rw [if_pos hb,zhs,Option.bind_some]
  by_cases h2:inB s.fAt.length 1 3=true
  ·rw [if_pos h2,zxD hS.store,Option.bind_some]
   by_cases h3:zhv s.fStore=true
   ·rw [if_neg (by simp [h3]),zpb (fun t=> !zm3 t s.fName) (fun t ht=>by unfold zdo;rw [zw4 (hS.way t ht),Option.bind_some]) (by omega),Option.bind_some]
    by_cases h4:(s.fWays.any fun t=> !zm3 t s.fName)=true
    ·rw [if_pos h4]
     refine⟨_,rfl,by simp,fun h5=> ?_⟩
     obtain⟨t,ht,hn⟩:=List.any_eq_true.1 h4
     rw [h5.2.2.1 t ht]at hn
     simp at hn
    ·have hA: ∀t∈s.fWays,zm3 t s.fName=true:=fun t ht=>by
      cases hq:zm3 t s.fName with
      |true=>rfl
      |false=>exact absurd (List.any_eq_true.2 ⟨t,ht,by simp [hq]⟩) h4
     have w:IntKind.i64.wrap ((s.fWays.length:Int)-1)=(s.fWays.length:Int)-1:=zdc (by omega) (by omega)
     have hat:=hS.at_
     rw [if_neg h4,zpb (fun y=> !inB y 0 ((s.fWays.length:Int)-1)) (fun y hy=>by unfold zds;rw [w,zhs,Option.bind_some]) (by omega),Option.bind_some]
     by_cases h5:(s.fAt.any fun y=> !inB y 0 ((s.fWays.length:Int)-1))=true
     ·rw [if_pos h5]
      refine⟨_,rfl,by simp,fun h6=> ?_⟩
      obtain⟨y,hy,hn⟩:=List.any_eq_true.1 h5
      rw [zee.2 (h6.2.2.2.2.2.1 y hy)]at hn
      simp at hn
     ·have hB: ∀y∈s.fAt,0≤y∧y≤(s.fWays.length:Int)-1:=fun y hy=>by
       cases hq:inB y 0 ((s.fWays.length:Int)-1)with
       |true=>exact zee.1 hq
       |false=>exact absurd (List.any_eq_true.2 ⟨y,hy,by simp [hq]⟩) h5
      obtain⟨e0,m0⟩:=zp1 (s:=s) (by omega)
      obtain⟨e1,m1⟩:=zuV (s:=s) (by omega) (by omega)
      obtain⟨x,hx,sx,x0,x3,_⟩:=zpO (hA _ m0)
      obtain⟨y,hy,sy,y0,y3,_⟩:=zpO (hA _ m1)
      rw [if_neg h5,e0,Option.bind_some,e1,Option.bind_some,zve (hS.way _ m1) hy,Option.bind_some,zAO (hS.way _ m0) hx x0 x3 y0 y3,Option.bind_some]
      have hW:way (zem s) (zhg (fun y:zb8=>y.fName==s.fName) (zem s).fIdxs) x.fStage y.fStage=zhu s:=by unfold zhu kOf;rw [sx,sy]
      rw [hW]
      obtain⟨r,er,fr⟩:=zw9 (xs:=s.fWays) (ys:=zhu s) hS.way hS.ways
      rw [er,Option.bind_some]
      exact⟨_,rfl,fun hr=>⟨by omega,by omega,hA,fr.1 hr,h2,hB,h3⟩,fun h6=>fr.2 h6.2.2.2.1⟩
   ·rw [if_pos (by simp [h3])];exact⟨_,rfl,by simp,fun h5=>absurd h5.2.2.2.2.2.2 h3⟩
  ·rw [if_neg h2];exact⟨_,rfl,by simp,fun h5=>absurd h5.2.2.2.2.1 h2⟩
 ·rw [if_neg hb];exact⟨_,rfl,by simp,fun h5=>absurd (zee.2 ⟨by have:=h5.1;omega,by have:=h5.2.1;omega⟩) hb⟩
theorem zt3 {s:zaB} (hS:zsV s): ∃r,zfV s=some r∧zf5 s=some r:=by
 obtain⟨g1,e1,f1⟩:=zzR hS
 obtain⟨g2,e2,f2⟩:=zz1 hS
 have hg:g1=g2:=by rw [Bool.eq_iff_iff,f1,f2]
 subst hg
 unfold zfV zf5
 rw [e1,e2,Option.bind_some,Option.bind_some]
 by_cases h:g1=true
 ·rw [if_neg (by simp [h]),if_neg (by simp [h])]
  obtain⟨h1,h4,hA,_,h3,hB,hR⟩:=f1.1 h
  have h3:=zee.1 h3
  obtain⟨e0,m0⟩:=zp1 (s:=s) h1
  obtain⟨x,hx,k1,k2,k3⟩:=zxf (hA _ m0)
  have hT:=zxw hR
  have hW:=hS.store
  have hst: ∀y∈s.fAt,∃tb x,zbF s.fWays y=some tb∧tb∈s.fWays∧zhI tb s.fName x∧zsR tb s.fName=x.fStage:=fun y hy=>by
   obtain⟨tb,q1,q2,_⟩:=zxA (hB y hy).1 (by have:=(hB y hy).2;omega:y<s.fWays.length)
   obtain⟨x,q3,q4,_⟩:=zpO (hA tb q2)
   exact⟨tb,x,q1,q2,q3,q4⟩
  let st:List Int:=s.fAt.map fun y=>zsR ((zbF s.fWays y).getD noT) s.fName
  have hn:st.length=s.fAt.length:=by simp [st]
  have hl:st.length≤2000000:=by have:=hS.at_;omega
  have n1:=zzy (s:=s) (st:=st) hn hl fun i hi=>by
   have hi':i<s.fAt.length:=by omega
   obtain⟨tb,x,q1,q2,q3,q4⟩:=hst _ (List.getElem_mem hi')
   refine⟨s.fAt[i],tb,_,x,zai hi',q1,zpY (hS.way _ q2),q3.at_, ?_⟩
   simp only [st,List.getElem_map,q1,Option.getD_some,q4]
  have n2:=zzE (s:=s) (st:=st) hn hl fun i hi=>by
   have hi':i<s.fAt.length:=by omega
   obtain⟨tb,x,q1,q2,q3,q4⟩:=hst _ (List.getElem_mem hi')
   refine⟨tb, ?_, ?_⟩
   ·unfold zcL
    rw [zai hi',Option.bind_some,q1,Option.bind_some]
   ·rw [zve (hS.way _ q2) q3]
    simp only [st,List.getElem_map,q1,Option.getD_some,q4]
  unfold zgO zdn
  have S0:=hS.way _ m0
  have hnm:=hS.name
  have hask:zb9 (zem s) s.fName s.fStore=some true:=by
   rw [zsz S0 hW];unfold zt6;rw [hA _ m0,hR];rfl
  rw [e0,Option.bind_some,Option.bind_some,n1,n2,Option.bind_some,Option.bind_some,zuJ S0 (by omega) hnm hx hW.1 hT hask,zuS S0 k1 hnm k3 hx hW.1 hT]
  exact⟨_,rfl,rfl⟩
 ·rw [if_pos (by simpa using h),if_pos (by simpa using h)];exact⟨_,rfl,rfl⟩
end Go.Proofs.YtecngjbpbnfegaaGreatDoor
end
section
namespace Go.Proofs.YtecngjbpbnfegaaGreatDoor
open Go.RowKit
set_option maxRecDepth 100000
def zhw (n:Nat) (l:List (List UInt8)):Prop:=l.length≤n∧ ∀x∈l,x.length≤n
theorem zvL {xs:List (List UInt8)} {n:Nat} (hn:n≤2000000) (h:zhw n xs):zcI xs=some xs:=by
 have hl:xs.length≤n:=h.1
 unfold zcI
 rw [zaq (by omega)]
 exact znT (fun i hi v hv=>by
  show zaM xs i v=_
  unfold zaM
  rw [if_pos (by simpa using hi),zai hi,Option.bind_some,zai (by omega),Option.bind_some,zbT hi (by omega)];rfl) (fun v=>by
  show zaM xs _ v=_
  unfold zaM
  rw [if_neg (by simp)])
theorem zvy {xs:List (List UInt8)} {n:Nat} (hn:n≤9223372036854775807) (h:zhw n xs):zcH xs xs=some true:=by
 have hl:xs.length≤n:=h.1
 unfold zcH
 rw [if_neg (by simp)]
 exact znX (n:=xs.length) (fun i hi=>by
  show zaP xs xs i=_
  unfold zaP
  rw [if_pos (by simpa using hi),zai hi,Option.bind_some,Option.bind_some,if_neg (by simp),zbT hi (by omega)]) (by
  show zaP xs xs _=_
  unfold zaP
  rw [if_neg (by simp)])
theorem zvO {xs:List (List UInt8)} {a:Int} (h0:0≤a) (h1:a≤1048576) (h:zhw 9223372036854775807 xs): ∃v,zcG xs a=some v∧v≤a∧(0≤v→zhw 2000000 xs):=by
 have hl:xs.length≤9223372036854775807:=h.1
 unfold zcG
 rw [zcR h0 h1 hl]
 by_cases h2:a-(xs.length:Int)<0
 ·rw [if_pos (by simpa using h2)];exact⟨-1,rfl,by omega,by omega⟩
 ·rw [if_neg (by simpa using h2)]
  obtain⟨v,e1,e2,e3⟩:=zzQ (xs:=xs) (body:=fun s:Int × Int=>zay xs s.1 s.2) (fun x=>x.length≤2000000) (a:=a-xs.length) (by omega) (by omega) (fun i hi b hb0 hb1=>by
   refine⟨b-(xs[i].length:Int),by omega,fun h=>by show xs[i].length≤2000000;omega, ?_⟩
   show zay xs b i=_
   unfold zay
   rw [if_pos (by simpa using hi),zai hi,Option.bind_some,zcR hb0 hb1 (h.2 _ (List.getElem_mem hi)),zbT hi (by omega)]
   by_cases h3:b-(xs[i].length:Int)<0
   ·rw [if_pos (by simpa using h3),if_pos h3]
   ·rw [if_neg (by simpa using h3),if_neg h3]) (fun b=>by
   show zay xs b _=_
   unfold zay
   rw [if_neg (by simp)])
  exact⟨v,e1,by omega,fun hv=>⟨by omega,e3 hv⟩⟩
theorem zqV {xs:List (List UInt8)} (h:okL zpo xs):zhw 9223372036854775807 xs:=⟨h.1,fun x hx=>(h.2 x hx)⟩
def zpS (n:Nat) (x:zb8):Prop:=x.fName.length≤n
theorem zA0 {x:zb8} {n:Nat} (hn:n≤2000000) (h:zpS n x):zg4 x=some x:=rfl
theorem zAt {x:zb8} {n:Nat} (hn:n≤9223372036854775807) (h:zpS n x):zeJ x x=some true:=by
 unfold zeJ
 simp []
theorem zAl {x:zb8} {a:Int} (h0:0≤a) (h1:a≤1048576) (h:zpS 9223372036854775807 x): ∃v,zeR x a=some v∧v≤a∧(0≤v→zpS 2000000 x):=by
 unfold zeR
 rw [zcR (a:=a) h0 h1 h]
 by_cases q:a-(x.fName.length:Int)<0
 ·rw [if_pos (by simpa using q)];exact⟨-1,rfl,by omega,by omega⟩
 rw [if_neg (by simpa using q)]
 obtain⟨b0,hb⟩: ∃b0,b0=a-(x.fName.length:Int):=⟨_,rfl⟩
 rw [←hb]
 have g0:b0≤a∧x.fName.length≤2000000:=⟨by omega,by omega⟩
 replace h0:0≤b0:=by omega
 replace h1:b0≤1048576:=by omega
 clear hb q
 exact⟨b0,rfl,by omega,fun _=>g0.2⟩
theorem zvk {x:zb8} (h:zwt x):zpS 9223372036854775807 x:=h.1
def znC (n:Nat) (l:List zb8):Prop:=l.length≤n∧ ∀x∈l,zpS n x
theorem zzZ {xs:List zb8} {n:Nat} (hn:n≤2000000) (h:znC n xs):zd7 xs=some xs:=by
 have hl:xs.length≤n:=h.1
 unfold zd7
 rw [zaq (by omega)]
 exact znT (fun i hi v hv=>by
  show zbf xs i v=_
  unfold zbf
  rw [if_pos (by simpa using hi),zai hi,Option.bind_some,zA0 hn (h.2 _ (List.getElem_mem hi)),Option.bind_some,zai (by omega),Option.bind_some,zbT hi (by omega)];rfl) (fun v=>by
  show zbf xs _ v=_
  unfold zbf
  rw [if_neg (by simp)])
theorem zzG {xs:List zb8} {n:Nat} (hn:n≤9223372036854775807) (h:znC n xs):zel xs xs=some true:=by
 have hl:xs.length≤n:=h.1
 unfold zel
 rw [if_neg (by simp)]
 exact znX (n:=xs.length) (fun i hi=>by
  show zbd xs xs i=_
  unfold zbd
  rw [if_pos (by simpa using hi),zai hi,Option.bind_some,Option.bind_some,zAt hn (h.2 _ (List.getElem_mem hi)),Option.bind_some,if_neg (by simp),zbT hi (by omega)]) (by
  show zbd xs xs _=_
  unfold zbd
  rw [if_neg (by simp)])
theorem zzj {xs:List zb8} {a:Int} (h0:0≤a) (h1:a≤1048576) (h:znC 9223372036854775807 xs): ∃v,zeb xs a=some v∧v≤a∧(0≤v→znC 2000000 xs):=by
 have hl:xs.length≤9223372036854775807:=h.1
 unfold zeb
 rw [zcR h0 h1 hl]
 by_cases h2:a-(xs.length:Int)<0
 ·rw [if_pos (by simpa using h2)];exact⟨-1,rfl,by omega,by omega⟩
 ·rw [if_neg (by simpa using h2)]
  obtain⟨v,e1,e2,e3⟩:=zzQ (xs:=xs) (body:=fun s:Int × Int=>zaF xs s.1 s.2) (fun x=>zpS 2000000 x) (a:=a-xs.length) (by omega) (by omega) (fun i hi b hb0 hb1=>by
   obtain⟨r,e1,e2,e3⟩:=zAl (x:=xs[i]) hb0 hb1 (h.2 _ (List.getElem_mem hi))
   refine⟨r,e2,e3, ?_⟩
   show zaF xs b i=_
   unfold zaF
   rw [if_pos (by simpa using hi),zai hi,Option.bind_some,e1,Option.bind_some,zbT hi (by omega)]
   by_cases h3:r<0
   ·rw [if_pos (by simpa using h3),if_pos h3]
   ·rw [if_neg (by simpa using h3),if_neg h3]) (fun b=>by
   show zaF xs b _=_
   unfold zaF
   rw [if_neg (by simp)])
  exact⟨v,e1,by omega,fun hv=>⟨by omega,e3 hv⟩⟩
theorem zub {xs:List zb8} (h:okL zwt xs):znC 9223372036854775807 xs:=⟨h.1,fun x hx=>zvk (h.2 x hx)⟩
def zhV (n:Nat) (x:zab):Prop:=x.fName.length≤n∧zhw n x.fCols∧znC n x.fIdxs
theorem zx3 {x:zab} {n:Nat} (hn:n≤2000000) (h:zhV n x):zb3 x=some x:=by
 unfold zb3
 simp only [zvL hn h.2.1,zzZ hn h.2.2,Option.bind_some]
theorem zyk {x:zab} {n:Nat} (hn:n≤9223372036854775807) (h:zhV n x):zcT x x=some true:=by
 unfold zcT
 simp [zvy hn h.2.1,zzG hn h.2.2]
theorem zyz {x:zab} {a:Int} (h0:0≤a) (h1:a≤1048576) (h:zhV 9223372036854775807 x): ∃v,zcs x a=some v∧v≤a∧(0≤v→zhV 2000000 x):=by
 unfold zcs
 rw [zcR (a:=a) h0 h1 h.1]
 by_cases q:a-(x.fName.length:Int)<0
 ·rw [if_pos (by simpa using q)];exact⟨-1,rfl,by omega,by omega⟩
 rw [if_neg (by simpa using q)]
 obtain⟨b0,hb⟩: ∃b0,b0=a-(x.fName.length:Int):=⟨_,rfl⟩
 rw [←hb]
 have g0:b0≤a∧x.fName.length≤2000000:=⟨by omega,by omega⟩
 replace h0:0≤b0:=by omega
 replace h1:b0≤1048576:=by omega
 clear hb q
 obtain⟨b1,e,g1,r1⟩:=zvO (xs:=x.fCols) h0 h1 h.2.1
 rw [e,Option.bind_some]
 by_cases q:b1<0
 ·rw [if_pos (by simpa using q)];exact⟨-1,rfl,by omega,by omega⟩
 rw [if_neg (by simpa using q)]
 replace h0:0≤b1:=by omega
 replace h1:b1≤1048576:=by omega
 replace r1:=r1 h0
 clear e q
 obtain⟨b2,e,g2,r2⟩:=zzj (xs:=x.fIdxs) h0 h1 h.2.2
 rw [e,Option.bind_some]
 by_cases q:b2<0
 ·rw [if_pos (by simpa using q)];exact⟨-1,rfl,by omega,by omega⟩
 rw [if_neg (by simpa using q)]
 replace h0:0≤b2:=by omega
 replace h1:b2≤1048576:=by omega
 replace r2:=r2 h0
 clear e q
 exact⟨b2,rfl,by omega,fun _=>⟨g0.2,r1,r2⟩⟩
theorem zs8 {x:zab} (h:znF x):zhV 9223372036854775807 x:=⟨h.1,zqV h.2.1,zub h.2.2⟩
def ziJ (n:Nat) (x:zag):Prop:=x.fKey.length≤n∧x.fVal.length≤n
theorem zxS {x:zag} {n:Nat} (hn:n≤2000000) (h:ziJ n x):zfd x=some x:=rfl
theorem zyq {x:zag} {n:Nat} (hn:n≤9223372036854775807) (h:ziJ n x):zdB x x=some true:=by
 unfold zdB
 simp []
theorem zx1 {x:zag} {a:Int} (h0:0≤a) (h1:a≤1048576) (h:ziJ 9223372036854775807 x): ∃v,zdC x a=some v∧v≤a∧(0≤v→ziJ 2000000 x):=by
 unfold zdC
 rw [zcR (a:=a) h0 h1 h.1]
 by_cases q:a-(x.fKey.length:Int)<0
 ·rw [if_pos (by simpa using q)];exact⟨-1,rfl,by omega,by omega⟩
 rw [if_neg (by simpa using q)]
 obtain⟨b0,hb⟩: ∃b0,b0=a-(x.fKey.length:Int):=⟨_,rfl⟩
 rw [←hb]
 have g0:b0≤a∧x.fKey.length≤2000000:=⟨by omega,by omega⟩
 replace h0:0≤b0:=by omega
 replace h1:b0≤1048576:=by omega
 clear hb q
 rw [zcR (a:=b0) h0 h1 h.2]
 by_cases q:b0-(x.fVal.length:Int)<0
 ·rw [if_pos (by simpa using q)];exact⟨-1,rfl,by omega,by omega⟩
 rw [if_neg (by simpa using q)]
 obtain⟨b1,hb⟩: ∃b1,b1=b0-(x.fVal.length:Int):=⟨_,rfl⟩
 rw [←hb]
 have g1:b1≤b0∧x.fVal.length≤2000000:=⟨by omega,by omega⟩
 replace h0:0≤b1:=by omega
 replace h1:b1≤1048576:=by omega
 clear hb q
 exact⟨b1,rfl,by omega,fun _=>⟨g0.2,g1.2⟩⟩
theorem ztD {x:zag} (h:znm x):ziJ 9223372036854775807 x:=⟨h.1,h.2.1⟩
def ziE (n:Nat) (l:List zag):Prop:=l.length≤n∧ ∀x∈l,ziJ n x
theorem zwz {xs:List zag} {n:Nat} (hn:n≤2000000) (h:ziE n xs):zbI xs=some xs:=by
 have hl:xs.length≤n:=h.1
 unfold zbI
 rw [zaq (by omega)]
 exact znT (fun i hi v hv=>by
  show zaW xs i v=_
  unfold zaW
  rw [if_pos (by simpa using hi),zai hi,Option.bind_some,zxS hn (h.2 _ (List.getElem_mem hi)),Option.bind_some,zai (by omega),Option.bind_some,zbT hi (by omega)];rfl) (fun v=>by
  show zaW xs _ v=_
  unfold zaW
  rw [if_neg (by simp)])
theorem zwD {xs:List zag} {n:Nat} (hn:n≤9223372036854775807) (h:ziE n xs):zcu xs xs=some true:=by
 have hl:xs.length≤n:=h.1
 unfold zcu
 rw [if_neg (by simp)]
 exact znX (n:=xs.length) (fun i hi=>by
  show zaX xs xs i=_
  unfold zaX
  rw [if_pos (by simpa using hi),zai hi,Option.bind_some,Option.bind_some,zyq hn (h.2 _ (List.getElem_mem hi)),Option.bind_some,if_neg (by simp),zbT hi (by omega)]) (by
  show zaX xs xs _=_
  unfold zaX
  rw [if_neg (by simp)])
theorem zwH {xs:List zag} {a:Int} (h0:0≤a) (h1:a≤1048576) (h:ziE 9223372036854775807 xs): ∃v,zb5 xs a=some v∧v≤a∧(0≤v→ziE 2000000 xs):=by
 have hl:xs.length≤9223372036854775807:=h.1
 unfold zb5
 rw [zcR h0 h1 hl]
 by_cases h2:a-(xs.length:Int)<0
 ·rw [if_pos (by simpa using h2)];exact⟨-1,rfl,by omega,by omega⟩
 ·rw [if_neg (by simpa using h2)]
  obtain⟨v,e1,e2,e3⟩:=zzQ (xs:=xs) (body:=fun s:Int × Int=>zaE xs s.1 s.2) (fun x=>ziJ 2000000 x) (a:=a-xs.length) (by omega) (by omega) (fun i hi b hb0 hb1=>by
   obtain⟨r,e1,e2,e3⟩:=zx1 (x:=xs[i]) hb0 hb1 (h.2 _ (List.getElem_mem hi))
   refine⟨r,e2,e3, ?_⟩
   show zaE xs b i=_
   unfold zaE
   rw [if_pos (by simpa using hi),zai hi,Option.bind_some,e1,Option.bind_some,zbT hi (by omega)]
   by_cases h3:r<0
   ·rw [if_pos (by simpa using h3),if_pos h3]
   ·rw [if_neg (by simpa using h3),if_neg h3]) (fun b=>by
   show zaE xs b _=_
   unfold zaE
   rw [if_neg (by simp)])
  exact⟨v,e1,by omega,fun hv=>⟨by omega,e3 hv⟩⟩
theorem zrK {xs:List zag} (h:okL znm xs):ziE 9223372036854775807 xs:=⟨h.1,fun x hx=>ztD (h.2 x hx)⟩
def zir (n:Nat) (l:List zab):Prop:=l.length≤n∧ ∀x∈l,zhV n x
theorem zwl {xs:List zab} {n:Nat} (hn:n≤2000000) (h:zir n xs):zeN xs=some xs:=by
 have hl:xs.length≤n:=h.1
 unfold zeN
 rw [zaq (by omega)]
 exact znT (fun i hi v hv=>by
  show zb7 xs i v=_
  unfold zb7
  rw [if_pos (by simpa using hi),zai hi,Option.bind_some,zx3 hn (h.2 _ (List.getElem_mem hi)),Option.bind_some,zai (by omega),Option.bind_some,zbT hi (by omega)];rfl) (fun v=>by
  show zb7 xs _ v=_
  unfold zb7
  rw [if_neg (by simp)])
theorem zv0 {xs:List zab} {n:Nat} (hn:n≤9223372036854775807) (h:zir n xs):zeI xs xs=some true:=by
 have hl:xs.length≤n:=h.1
 unfold zeI
 rw [if_neg (by simp)]
 exact znX (n:=xs.length) (fun i hi=>by
  show zb4 xs xs i=_
  unfold zb4
  rw [if_pos (by simpa using hi),zai hi,Option.bind_some,Option.bind_some,zyk hn (h.2 _ (List.getElem_mem hi)),Option.bind_some,if_neg (by simp),zbT hi (by omega)]) (by
  show zb4 xs xs _=_
  unfold zb4
  rw [if_neg (by simp)])
theorem zv3 {xs:List zab} {a:Int} (h0:0≤a) (h1:a≤1048576) (h:zir 9223372036854775807 xs): ∃v,zeV xs a=some v∧v≤a∧(0≤v→zir 2000000 xs):=by
 have hl:xs.length≤9223372036854775807:=h.1
 unfold zeV
 rw [zcR h0 h1 hl]
 by_cases h2:a-(xs.length:Int)<0
 ·rw [if_pos (by simpa using h2)];exact⟨-1,rfl,by omega,by omega⟩
 ·rw [if_neg (by simpa using h2)]
  obtain⟨v,e1,e2,e3⟩:=zzQ (xs:=xs) (body:=fun s:Int × Int=>zbC xs s.1 s.2) (fun x=>zhV 2000000 x) (a:=a-xs.length) (by omega) (by omega) (fun i hi b hb0 hb1=>by
   obtain⟨r,e1,e2,e3⟩:=zyz (x:=xs[i]) hb0 hb1 (h.2 _ (List.getElem_mem hi))
   refine⟨r,e2,e3, ?_⟩
   show zbC xs b i=_
   unfold zbC
   rw [if_pos (by simpa using hi),zai hi,Option.bind_some,e1,Option.bind_some,zbT hi (by omega)]
   by_cases h3:r<0
   ·rw [if_pos (by simpa using h3),if_pos h3]
   ·rw [if_neg (by simpa using h3),if_neg h3]) (fun b=>by
   show zbC xs b _=_
   unfold zbC
   rw [if_neg (by simp)])
  exact⟨v,e1,by omega,fun hv=>⟨by omega,e3 hv⟩⟩
theorem zr8 {xs:List zab} (h:okL znF xs):zir 9223372036854775807 xs:=⟨h.1,fun x hx=>zs8 (h.2 x hx)⟩
def znt (n:Nat) (l:List Int):Prop:=l.length≤n
theorem zz3 {xs:List Int} {n:Nat} (hn:n≤2000000) (h:znt n xs):zf4 xs=some xs:=by
 have hl:xs.length≤n:=h
 unfold zf4
 rw [zaq (by omega)]
 exact znT (fun i hi v hv=>by
  show zcE xs i v=_
  unfold zcE
  rw [if_pos (by simpa using hi),zai hi,Option.bind_some,zai (by omega),Option.bind_some,zbT hi (by omega)];rfl) (fun v=>by
  show zcE xs _ v=_
  unfold zcE
  rw [if_neg (by simp)])
theorem zzw {xs:List Int} {n:Nat} (hn:n≤9223372036854775807) (h:znt n xs):zf3 xs xs=some true:=by
 have hl:xs.length≤n:=h
 unfold zf3
 rw [if_neg (by simp)]
 exact znX (n:=xs.length) (fun i hi=>by
  show zcD xs xs i=_
  unfold zcD
  rw [if_pos (by simpa using hi),zai hi,Option.bind_some,Option.bind_some,if_neg (by simp),zbT hi (by omega)]) (by
  show zcD xs xs _=_
  unfold zcD
  rw [if_neg (by simp)])
theorem zzI {xs:List Int} {a:Int} (h0:0≤a) (h1:a≤1048576) (h:znt 9223372036854775807 xs): ∃v,zfZ xs a=some v∧v≤a∧(0≤v→znt 2000000 xs):=by
 have hl:xs.length≤9223372036854775807:=h
 unfold zfZ
 rw [zcR h0 h1 hl]
 by_cases h2:a-(xs.length:Int)<0
 ·rw [if_pos (by simpa using h2)];exact⟨-1,rfl,by omega,by omega⟩
 ·rw [if_neg (by simpa using h2)]
  exact⟨_,rfl,by omega,fun _=>by show xs.length≤2000000;omega⟩
theorem zt0 {xs:List Int} (h:okL zqu xs):znt 9223372036854775807 xs:=h.1
def zkk (n:Nat) (x:zaB):Prop:=x.fName.length≤n∧zir n x.fWays∧znt n x.fAt∧ziE n x.fStore
theorem zxT {x:zaB} {n:Nat} (hn:n≤2000000) (h:zkk n x):zdy x=some x:=by
 unfold zdy
 simp only [zwl hn h.2.1,zz3 hn h.2.2.1,zwz hn h.2.2.2,Option.bind_some]
theorem zxV {x:zaB} {n:Nat} (hn:n≤9223372036854775807) (h:zkk n x):zfk x x=some true:=by
 unfold zfk
 simp [zv0 hn h.2.1,zzw hn h.2.2.1,zwD hn h.2.2.2]
theorem zya {x:zaB} {a:Int} (h0:0≤a) (h1:a≤1048576) (h:zkk 9223372036854775807 x): ∃v,zfe x a=some v∧v≤a∧(0≤v→zkk 2000000 x):=by
 unfold zfe
 rw [zcR (a:=a) h0 h1 h.1]
 by_cases q:a-(x.fName.length:Int)<0
 ·rw [if_pos (by simpa using q)];exact⟨-1,rfl,by omega,by omega⟩
 rw [if_neg (by simpa using q)]
 obtain⟨b0,hb⟩: ∃b0,b0=a-(x.fName.length:Int):=⟨_,rfl⟩
 rw [←hb]
 have g0:b0≤a∧x.fName.length≤2000000:=⟨by omega,by omega⟩
 replace h0:0≤b0:=by omega
 replace h1:b0≤1048576:=by omega
 clear hb q
 obtain⟨b1,e,g1,r1⟩:=zv3 (xs:=x.fWays) h0 h1 h.2.1
 rw [e,Option.bind_some]
 by_cases q:b1<0
 ·rw [if_pos (by simpa using q)];exact⟨-1,rfl,by omega,by omega⟩
 rw [if_neg (by simpa using q)]
 replace h0:0≤b1:=by omega
 replace h1:b1≤1048576:=by omega
 replace r1:=r1 h0
 clear e q
 obtain⟨b2,e,g2,r2⟩:=zzI (xs:=x.fAt) h0 h1 h.2.2.1
 rw [e,Option.bind_some]
 by_cases q:b2<0
 ·rw [if_pos (by simpa using q)];exact⟨-1,rfl,by omega,by omega⟩
 rw [if_neg (by simpa using q)]
 replace h0:0≤b2:=by omega
 replace h1:b2≤1048576:=by omega
 replace r2:=r2 h0
 clear e q
 obtain⟨b3,e,g3,r3⟩:=zwH (xs:=x.fStore) h0 h1 h.2.2.2
 rw [e,Option.bind_some]
 by_cases q:b3<0
 ·rw [if_pos (by simpa using q)];exact⟨-1,rfl,by omega,by omega⟩
 rw [if_neg (by simpa using q)]
 replace h0:0≤b3:=by omega
 replace h1:b3≤1048576:=by omega
 replace r3:=r3 h0
 clear e q
 exact⟨b3,rfl,by omega,fun _=>⟨g0.2,r1,r2,r3⟩⟩
theorem ztb {x:zaB} (h:ztZ x):zkk 9223372036854775807 x:=⟨h.1,zr8 h.2.1,zt0 h.2.2.1,zrK h.2.2.2⟩
end Go.Proofs.YtecngjbpbnfegaaGreatDoor
end
section
namespace Go.Proofs.YtecngjbpbnfegaaGreatDoor
theorem zwh {t:zab} (h:zhV 2000000 t):zcB t:=⟨h.1,h.2.1.1,h.2.1.2,h.2.2.1,fun x hx=>h.2.2.2 x hx⟩
theorem zxx {s:zaB} (h:zkk 2000000 s):zsV s:=⟨h.1,h.2.1.1,fun t ht=>zwh (h.2.1.2 t ht),h.2.2.1,h.2.2.2.1,h.2.2.2.2⟩
theorem zkP (x:zaB) (h:ztZ x):zdM x=some true:=by
 unfold zdM
 obtain⟨v,e,_,f⟩:=zya (x:=x) (a:=1048576) (by omega) (by omega) (ztb h)
 rw [e,Option.bind_some]
 by_cases hv:v<0
 ·rw [if_pos (by simpa using hv)]
 ·rw [if_neg (by simpa using hv)]
  have hl:=f (by omega)
  obtain⟨r,e1,e2⟩:=zt3 (zxx hl)
  simp only [zxT (by omega) hl,e1,e2,Option.bind_some]
  rw [if_neg (by simp),zxV (by omega) hl,Option.bind_some,if_neg (by simp)]
end Go.Proofs.YtecngjbpbnfegaaGreatDoor
end
section
namespace Go.Proofs.YtecngjbpbnfegaaGreatDoor.fnExactIsHeldDone
open Go.ChangeShapes Go.WideShapes Go.ChangeAt Go.RowKit
open Go.Proofs.YtecngjbpbnfegaaGreatDoor
set_option linter.unusedVariables false
theorem own:ownKnob Tryz.prog.godebug=none:=by kernel_rfl
theorem zng:laidOutB Tryz.prog=true:=by kernel_rfl
theorem sig:sgs 4=some {modes:= [.ro],res:= [false]}:=by kernel_rfl
set_option maxRecDepth 100000 in
theorem zwd (os:Os) (started:os.Started) (H:Type) (enc:TypeId × Value→H):
  ReturnsInHanded {} Tryz.checked os 4 .any (fun w args=>(Rows.fnExactIsHeldSpec.pre enc Tryz.prog Tryz.f4 [] false w args∧laidMetH Tryz.prog Rows.fnExactIsHeldRow.laid w)∧sizedMet enc Tryz.prog Tryz.f4 (OpenSpec.ofChange Rows.fnExactIsHeldSpec) false w args)
   (Rows.fnExactIsHeldSpec.post enc Tryz.prog Tryz.f4 false true false false):=by
 refine returnsInHanded_of_change_and (C:=Tryz.checked) (X:=fun w _=>laidMetH Tryz.prog Rows.fnExactIsHeldRow.laid w) (fun _ _ _ hh h=>h.of_heap hh) own started (by kernel_rfl) Tryz.func4
  (ChangeSpec.witness_shaped (enc:=enc) (C:=Tryz.checked) (os:=os) (X:=fun w _=>laidMetH Tryz.prog Rows.fnExactIsHeldRow.laid w) false (World.laidAll Tryz.prog os Rows.fnExactIsHeldRow.laid) #[.agg #[.string ByteArray.empty, .slice none 0 0, .slice none 0 0, .slice none 0 0]] 8 (World.laidAll_os _ _ _)
   (World.shaped_of_ZipB (by kernel_rfl) (by kernel_rfl)) (by kernel_rfl) (by kernel_rfl) (by kernel_rfl)
   (by rw [MakeChecks.laidMetH_plain _ _ _ (by kernel_rfl)];exact laidMet_laidAll _ (by kernel_rfl) (by kernel_rfl))) ?_
 intro W base args ds gs before hval0 hW _ _ hL _
 have hval: ∀(j:Nat) t v,Tryz.f4.params[j]?=some t→args[j]?=some v→Value.okWide Tryz.prog W .any base t v:=hval0
 have hW':=hW
 obtain⟨p,q,hA0,hV,rfl,hfz,hnd⟩:=hW
 have hA:DataW.TrodAll enc Tryz.prog W 0 (fun _=>true) true Tryz.f4.params.toList args.toList ds p:=hA0
 rw [Tryz.params4]at hA hval
 obtain⟨v0,vs0,d0,ds0,p0,q0,hargs,rfl,rfl,h0,r0⟩:=trodAll_cons hA
 obtain⟨rfl,rfl,rfl⟩:=trodAll_nil r0
 obtain rfl:args= #[v0]:=by cases args;simp_all
 obtain⟨rfl,rfl⟩:=trodVars_none hV
 obtain⟨_,f0,a0,x0,k0,e0⟩:=zrC op9 Tryz.underlying43 (hval 0 43 v0 rfl rfl) h0
 rw [e0]at a0
 have m0:=h0
 have lt0: ∀x∈p0,x.block<W.heap.size:=by obtain⟨m,hm⟩:=m0;exact DataW.trod_lt m _ _ _ hm
 clear hA0 hval0
 refine(zvd (zkL x0 true (zkP x0 k0)) (by decide) sig (by simp) (by kernel_rfl) Tryz.func4 (t:=4) rfl (vs:= [v0]) (w:=W) (by
  rw [Tryz.params4]
  exact zka a0 zuU)).mono fun e W' ⟨he,bel⟩=> ?_
 subst he
 exact⟨_,rfl,_,_,_, [],_, [],hW',trodAll_mk1 (shut_bool Tryz.underlying4 _),(trodAll_cons_mk (Below.trod zng (by kernel_rfl) (of_decide_eq_true (by kernel_rfl)) m0 bel lt0) trodAll_mk0),rfl,bel.frame _,fun h=>by cases h⟩
set_option maxHeartbeats 20000000 in
theorem zzA:joinedFacts Tryz.prog 4 Tryz.f4 Rows.fnExactIsHeldSpec Rows.fnExactIsHeldRow=true:=by
 unfold joinedFacts
 repeat' with_reducible refine zzf ?_ ?_
 all_goals decide+kernel
theorem zxg:Tryz.prog.funcNamed "loop.example/g00850/laws.FnExactIsHeld" =some 4:=by kernel_rfl
theorem zBt:Rows.fnExactIsHeldRow.holds Tryz.pinned (OpenSpec.ofChange Rows.fnExactIsHeldSpec):=
 OpenClaim.holds_of_wide 4 Tryz.f4 rfl rfl rfl rfl rfl rfl rfl ⟨rfl,rfl,rfl,rfl,rfl⟩ rfl rfl rfl rfl rfl zxg Tryz.func4 zzA
  (of_decide_eq_true (by kernel_rfl)) (by unfold Func.isWrapper;first|(rw [if_pos (by decide+kernel)];kernel_rfl)|(rw [if_neg (by decide+kernel)];exact⟨rfl,rfl⟩))
  (fun os started H enc _=>zwd os started H enc)
theorem cwf:Rows.fnExactIsHeldRow.wfByText (OpenSpec.ofChange Rows.fnExactIsHeldSpec)=true:=by decide+kernel
theorem zzo:Tryz.prog.mainIs=some (true, "a3a94ab8df6772c8b15cae68c3748e595f2fd691d55f8b88b9160008fa0fcd76".toList):=by kernel_rfl
theorem zxj:false=Tryz.prog.looks []:=by kernel_rfl
theorem zzq:false=Rows.fnExactIsHeldRow.goesBy Tryz.prog:=by kernel_rfl
theorem zw6:([43].all fun u=> !Tryz.prog.wantsStandIn u)=true:=by kernel_rfl
theorem card:Rows.FnExactIsHeldCardSaid:=
 Claim7.holds_tied_plain_at .later [] [.data, .pinned] true (true, "a3a94ab8df6772c8b15cae68c3748e595f2fd691d55f8b88b9160008fa0fcd76") false zBt (fun _ h=>by cases h) cwf (fun _ h=>by cases h) fnExactIsHeld_row_tie rfl ⟨rfl,rfl⟩ zzo rfl
  (fun f fn hf hfn=>by
   obtain rfl:f=4:=Option.some.inj (zxg.symm.trans hf)|>.symm
   obtain rfl:fn=Tryz.f4:=(Option.some.inj (Tryz.func4.symm.trans hfn)).symm
   exact⟨zxj,fun j t ht=>by
    rw [Tryz.params4]at ht
    have hm:t∈ [43]:=by simpa [or_assoc]using Array.mem_of_getElem? ht
    exact(show Tryz.prog.wantsStandIn t=false by simpa using List.all_eq_true.1 zw6 t hm)⟩)
  zzq
end Go.Proofs.YtecngjbpbnfegaaGreatDoor.fnExactIsHeldDone
namespace Go.Proofs.YtecngjbpbnfegaaGreatDoor
theorem fnExactIsHeldProved:Rows.FnExactIsHeldCardSaid:=fnExactIsHeldDone.card
#print axioms fnExactIsHeldProved
end Go.Proofs.YtecngjbpbnfegaaGreatDoor
end
section
namespace Go.Proofs.YtecngjbpbnfegaaGreatDoor
end Go.Proofs.YtecngjbpbnfegaaGreatDoor
end

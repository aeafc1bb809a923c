/- Parts of a proof, joined: QR2, QR3. -/
import Derived.Test.YtecngjbpbnfegaaGreatDoorK8
section
namespace Go.Proofs.YtecngjbpbnfegaaGreatDoor
open Go.RowKit
set_option maxRecDepth 100000
set_option maxHeartbeats 4000000
def znL:Tr:= .chk [] (.dfd (.len (.var 0)))<| .loop (.cons (.int .i64 (0)) .nil) ( .chk [] (.dfd (.bin .lss (.var 2) (.len (.var 0))))<| .ite (.bin .lss (.var 2) (.len (.var 0))) ( .chk [] (.inb (.var 2) (.var 0) 1)<| .chk [] (.dfd (.bin .eql (.fld (.idx (.var 0) (.var 2)) 0 1 false) (.var 1)))<| .ite (.bin .eql (.fld (.idx (.var 0) (.var 2)) 0 1 false) (.var 1)) ( .ret (.bool true)) ( .chk [] (.dfd (.bin .add (.var 2) (.int .i64 (1))))<| .jmp 0 (.cons (.bin .add (.var 2) (.int .i64 (1))) .nil))) ( .jmp 1 .nil)) ( .ret (.bool false))
theorem ztk:zbj Tryz.prog sgs 87=some znL:=by kernel_rfl
theorem zn4 (a0:List Int) (a1:Int) (r:Bool) (h:zfN a0 a1=some r):Rts Tryz.prog sgs 87 [.sl (a0.map zaw), .int .i64 a1] (.bool r):=by
 refine zah ztk (by kernel_rfl) ?_
 unfold Den znL
 unfold zfN at h
 refine zaa (by simp) ?_
 refine zbB (fun s:Int=> [.int .i64 s]) h (by simp) (fun W1 A1 v1 o1 h hn1 hf1 hk1=> ?_)
 replace h:zcv a0 a1 v1=some o1:=h
 unfold zcv at h
 refine zaa (by simp) ?_
 refine zam h (by simp) (fun e2 h=> ?_) (fun e2 h=> ?_)
 ·obtain⟨y3,hy3,h⟩:=zaD h
  have hy3':=(zaG hy3).2.2
  refine zaa (fun _=>zaH (kk:= .i64) (f:=zaw) (by simp) (by simp) hy3 (by simp)) ?_
  refine zaa (by simp [e2,hy3']) ?_
  refine zam h (by simp [e2,hy3']) (fun e4 h=> ?_) (fun e4 h=> ?_)
  ·exact zad (av:=avB) (hf1 _ h) (by simp)
  ·refine zaa (by simp) ?_
   exact za4 (K:=fun s=>some (Sum.inl s)) (s:=(IntKind.i64.wrap (v1+1))) hn1 h rfl (by simp)
 ·refine zaN hk1 rfl (vs:= []) (by simp) ?_
  replace h:=(hf1 _ h)
  exact zad (av:=avB) h (by simp)
def zkU:Tr:= .chk [] (.agg (.var 0) 4)<| .call [] (.inl 86) (.cons (.mk (.cons (.fld (.var 0) 0 1 false) (.cons (.fld (.var 0) 1 1 false) (.cons (.fld (.var 0) 2 1 false) (.cons (.fld (.var 0) 3 1 false) .nil))))) .nil)<| .call [] (.inl 87) (.cons (.var 1) (.cons (.int .i64 (3)) .nil))<| .ite (.var 2) ( .ret (.int .i64 (2))) ( .call [] (.inl 87) (.cons (.var 1) (.cons (.int .i64 (0)) .nil))<| .ite (.var 3) ( .ret (.int .i64 (0))) ( .ret (.int .i64 (1))))
theorem zqW:zbj Tryz.prog sgs 59=some zkU:=by kernel_rfl
theorem zq2 (a0:zaB) (r:Int) (h:zfi a0=some r):Rts Tryz.prog sgs 59 [zcS a0] (.int .i64 r):=by
 refine zah zqW (by kernel_rfl) ?_
 unfold Den zkU
 unfold zfi at h
 refine zaa (by simp) ?_
 refine zac zuI h (fun x hx=>by simpa using zoj a0 x hx) (fun v1 cv1 h=> ?_)
 refine zac avB h (fun x hx=>by simpa using zn4 v1 3 x hx) (fun v2 cv2 h=> ?_)
 refine zam h (by simp) (fun e3 h=> ?_) (fun e3 h=> ?_)
 ·exact zad (av:=zaw) h (by simp)
 ·refine zac avB h (fun x hx=>by simpa using zn4 v1 0 x hx) (fun v4 cv4 h=> ?_)
  refine zam h (by simp) (fun e5 h=> ?_) (fun e5 h=> ?_)
  ·exact zad (av:=zaw) h (by simp)
  ·exact zad (av:=zaw) h (by simp)
def zlp:Tr:= .loop (.cons (.lst .nil) (.cons (.int .i64 (0)) (.cons (.int .i64 (0)) .nil))) ( .chk [] (.dfd (.slen (.var 0)))<| .chk [] (.dfd (.bin .lss (.var 4) (.slen (.var 0))))<| .ite (.bin .lss (.var 4) (.slen (.var 0))) ( .join ( .chk [] (.inbS (.var 4) (.var 0))<| .chk [] (.dfd (.bin .eql (.sidx (.var 0) (.var 4)) (.var 1)))<| .ite (.bin .eql (.sidx (.var 0) (.var 4)) (.var 1)) ( .chk [] (.winS (.var 0) (.var 3) (.var 4))<| .chk [] (.flat (.swin (.var 0) (.var 3) (.var 4)) 1 false)<| .chk [] (.room (.var 2) (.lst (.cons (.swin (.var 0) (.var 3) (.var 4)) .nil)) 16)<| .chk [] (.flatS (.lst (.cons (.swin (.var 0) (.var 3) (.var 4)) .nil)) 1)<| .chk [] (.dfd (.bin .add (.var 4) (.int .i64 (1))))<| .jmp 0 (.cons (.bin .add (.var 4) (.int .i64 (1))) (.cons (.app (.var 2) (.lst (.cons (.swin (.var 0) (.var 3) (.var 4)) .nil))) .nil))) ( .jmp 0 (.cons (.var 3) (.cons (.var 2) .nil)))) ( .chk [] (.dfd (.bin .add (.var 4) (.int .i64 (1))))<| .jmp 0 (.cons (.var 6) (.cons (.var 5) (.cons (.bin .add (.var 4) (.int .i64 (1))) .nil))))) ( .jmp 1 (.cons (.var 3) (.cons (.var 2) .nil)))) ( .chk [] (.winS (.var 0) (.var 2) (.slen (.var 0)))<| .chk [] (.flat (.swin (.var 0) (.var 2) (.slen (.var 0))) 1 false)<| .chk [] (.room (.var 3) (.lst (.cons (.swin (.var 0) (.var 2) (.slen (.var 0))) .nil)) 16)<| .chk [] (.flatS (.lst (.cons (.swin (.var 0) (.var 2) (.slen (.var 0))) .nil)) 1)<| .ret (.app (.var 3) (.lst (.cons (.swin (.var 0) (.var 2) (.slen (.var 0))) .nil))))
theorem zqn:zbj Tryz.prog sgs 98=some zlp:=by kernel_rfl
theorem zlg (a0:List UInt8) (a1:Int) (r:List (List UInt8)) (h:zcU a0 a1=some r):Rts Tryz.prog sgs 98 [.str a0, .int .u8 a1] (.sl (r.map zal)):=by
 refine zah zqn (by kernel_rfl) ?_
 unfold Den zlp
 unfold zcU at h
 refine zhR (fun s:List (List UInt8) × Int × Int=> [.sl (s.1.map zal), .int .i64 s.2.1, .int .i64 s.2.2]) (fun s:Int × List (List UInt8)=> [.int .i64 s.1, .sl (s.2.map zal)]) h (by simp) (K:=(fun s=>zcV a0 s.1 s.2)) (fun s h=> ?_) (fun W1 A1 s o1 h hn1 hf1 hk1=> ?_)
 ·obtain⟨v1,v2⟩:=s
  replace h:zcV a0 v1 v2=some r:=h
  unfold zcV at h
  obtain⟨q4,h⟩:=zfa h
  refine zaa (fun _=>zmo (ka:= .i64) (kb:= .i64) (a:=v1) (b:=(a0.length:Int)) (by simp) (by simp) (show _=AV.str (a0)from by simp) (by simpa using q4)) ?_
  refine zaa (by simp) ?_
  obtain⟨q3,h⟩:=zfa h
  refine zaa (fun _=>zfU (show _=AV.sl (List.map zal v2)from by simp) (show _=AV.sl (List.map zal ([(zhh a0 v1 (a0.length:Int))]:List (List UInt8)))from by simp) (by simpa using q3)) ?_
  refine zaa (fun _=>zfY zal (show _=AV.sl (List.map zal ([(zhh a0 v1 (a0.length:Int))]:List (List UInt8)))from by simp) (by simp)) ?_
  exact zad (av:=zbK) h (by simp)
 ·obtain⟨v5,v6,v7⟩:=s
  replace h:zb1 a0 a1 v5 v6 v7=some o1:=h
  unfold zb1 at h
  refine zaa (by simp) ?_
  refine zaa (by simp) ?_
  refine zam h (by simp) (fun e8 h=> ?_) (fun e8 h=> ?_)
  ·refine zic fun j9 hj9=> ?_
   obtain⟨y10,hy10,h⟩:=zaD h
   have hy10':=(zaG hy10).2.2
   refine zaa (fun _=>ziF (kk:= .i64) (by simp) (by simp) hy10) ?_
   refine zaa (by simp [e8,hy10']) ?_
   refine zam h (by simp [e8,hy10']) (fun e11 h=> ?_) (fun e11 h=> ?_)
   ·obtain⟨q13,h⟩:=zfa h
    refine zaa (fun _=>zmo (ka:= .i64) (kb:= .i64) (a:=v6) (b:=v7) (by simp) (by simp) (show _=AV.str (a0)from by simp) (by simpa using q13)) ?_
    refine zaa (by simp) ?_
    obtain⟨q12,h⟩:=zfa h
    refine zaa (fun _=>zfU (show _=AV.sl (List.map zal v5)from by simp) (show _=AV.sl (List.map zal ([(zhh a0 v6 v7)]:List (List UInt8)))from by simp) (by simpa using q12)) ?_
    refine zaa (fun _=>zfY zal (show _=AV.sl (List.map zal ([(zhh a0 v6 v7)]:List (List UInt8)))from by simp) (by simp)) ?_
    refine zaa (by simp) ?_
    refine zaN hj9 rfl (vs:= [.int .i64 (IntKind.i64.wrap (v7+1)), .sl ((v5++ [(zhh a0 v6 v7)]).map zal)]) (by simp) ?_
    refine zaa (by simp) ?_
    exact za4 (K:=fun s=>some (Sum.inl s)) (s:=((v5++ [(zhh a0 v6 v7)]),(IntKind.i64.wrap (v7+1)),(IntKind.i64.wrap (v7+1)))) hn1 h rfl (by simp)
   ·refine zaN hj9 rfl (vs:= [.int .i64 v6, .sl (v5.map zal)]) (by simp) ?_
    refine zaa (by simp) ?_
    exact za4 (K:=fun s=>some (Sum.inl s)) (s:=(v5,v6,(IntKind.i64.wrap (v7+1)))) hn1 h rfl (by simp)
  ·exact za4 (s:=(v6,v5)) hk1 (hf1 _ h) rfl (by simp)
def zkh:Tr:= .chk [] (.dfd (.slen (.var 0)))<| .call [] (.inl 22) (.cons (.slen (.var 0)) (.cons (.int .i64 (1)) (.cons (.int .i64 (3)) .nil)))<| .call [((.var 1),true)] (.inl 127) (.cons (.var 0) (.cons (.str (ByteArray.mk #[])) .nil))<| .chk [] (.dfd (.not (.var 1)))<| .ret (.ite (.var 1) (.var 2) (.bool false))
theorem zpF:zbj Tryz.prog sgs 99=some zkh:=by kernel_rfl
theorem zhJ (a0:List UInt8) (r:Bool) (h:zc7 a0=some r):Rts Tryz.prog sgs 99 [.str a0] (.bool r):=by
 refine zah zpF (by kernel_rfl) ?_
 unfold Den zkh
 unfold zc7 at h
 refine zaa (by simp) ?_
 refine zac avB h (fun x hx=>by simpa using zed (a0.length:Int) 1 3 x hx) (fun v1 cv1 h=> ?_)
 refine zav h (fun e2 h=> ?_) (fun e2 h=> ?_)
 ·refine zac avB h (fun x hx=>by simpa using zib a0 ([]:List UInt8) x hx) (fun v3 cv3 h=> ?_)
  refine zaa (by simp) ?_
  exact zad (av:=avB) h (by simp [e2])
 ·refine zaJ (by simp [e2]) ?_
  refine zaa (by simp) ?_
  exact zad (av:=avB) h (by simp [e2])
def zhK:Tr:= .chk [] (.agg (.var 0) 3)<| .call [] (.inl 98) (.cons (.var 2) (.cons (.int .u8 (47)) .nil))<| .chk [] (.dfd (.len (.var 3)))<| .chk [((.bin .neq (.len (.var 3)) (.int .i64 (3))),false)] (.inb (.int .i64 (0)) (.var 3) 1)<| .chk [((.bin .neq (.len (.var 3)) (.int .i64 (3))),false)] (.roomS (.fld (.var 0) 0 1 false) (.str (ByteArray.mk #[46])))<| .chk [((.bin .neq (.len (.var 3)) (.int .i64 (3))),false)] (.dfd (.sbin .add (.fld (.var 0) 0 1 false) (.str (ByteArray.mk #[46]))))<| .chk [((.bin .neq (.len (.var 3)) (.int .i64 (3))),false)] (.roomS (.sbin .add (.fld (.var 0) 0 1 false) (.str (ByteArray.mk #[46]))) (.var 1))<| .chk [((.bin .neq (.len (.var 3)) (.int .i64 (3))),false)] (.dfd (.sbin .add (.sbin .add (.fld (.var 0) 0 1 false) (.str (ByteArray.mk #[46]))) (.var 1)))<| .chk [((.bin .neq (.len (.var 3)) (.int .i64 (3))),false)] (.dfd (.sbin .neq (.fld (.idx (.var 3) (.int .i64 (0))) 0 1 false) (.sbin .add (.sbin .add (.fld (.var 0) 0 1 false) (.str (ByteArray.mk #[46]))) (.var 1))))<| .chk [] (.dfd (.not (.bin .neq (.len (.var 3)) (.int .i64 (3)))))<| .chk [((.ite (.bin .neq (.len (.var 3)) (.int .i64 (3))) (.bool true) (.sbin .neq (.fld (.idx (.var 3) (.int .i64 (0))) 0 1 false) (.sbin .add (.sbin .add (.fld (.var 0) 0 1 false) (.str (ByteArray.mk #[46]))) (.var 1)))),false)] (.inb (.int .i64 (1)) (.var 3) 1)<| .call [((.ite (.bin .neq (.len (.var 3)) (.int .i64 (3))) (.bool true) (.sbin .neq (.fld (.idx (.var 3) (.int .i64 (0))) 0 1 false) (.sbin .add (.sbin .add (.fld (.var 0) 0 1 false) (.str (ByteArray.mk #[46]))) (.var 1)))),false)] (.inl 99) (.cons (.fld (.idx (.var 3) (.int .i64 (1))) 0 1 false) .nil)<| .chk [((.ite (.bin .neq (.len (.var 3)) (.int .i64 (3))) (.bool true) (.sbin .neq (.fld (.idx (.var 3) (.int .i64 (0))) 0 1 false) (.sbin .add (.sbin .add (.fld (.var 0) 0 1 false) (.str (ByteArray.mk #[46]))) (.var 1)))),false)] (.dfd (.not (.var 4)))<| .chk [] (.dfd (.not (.ite (.bin .neq (.len (.var 3)) (.int .i64 (3))) (.bool true) (.sbin .neq (.fld (.idx (.var 3) (.int .i64 (0))) 0 1 false) (.sbin .add (.sbin .add (.fld (.var 0) 0 1 false) (.str (ByteArray.mk #[46]))) (.var 1))))))<| .chk [((.ite (.ite (.bin .neq (.len (.var 3)) (.int .i64 (3))) (.bool true) (.sbin .neq (.fld (.idx (.var 3) (.int .i64 (0))) 0 1 false) (.sbin .add (.sbin .add (.fld (.var 0) 0 1 false) (.str (ByteArray.mk #[46]))) (.var 1)))) (.bool true) (.not (.var 4))),false)] (.inb (.int .i64 (2)) (.var 3) 1)<| .call [((.ite (.ite (.bin .neq (.len (.var 3)) (.int .i64 (3))) (.bool true) (.sbin .neq (.fld (.idx (.var 3) (.int .i64 (0))) 0 1 false) (.sbin .add (.sbin .add (.fld (.var 0) 0 1 false) (.str (ByteArray.mk #[46]))) (.var 1)))) (.bool true) (.not (.var 4))),false)] (.inl 99) (.cons (.fld (.idx (.var 3) (.int .i64 (2))) 0 1 false) .nil)<| .chk [((.ite (.ite (.bin .neq (.len (.var 3)) (.int .i64 (3))) (.bool true) (.sbin .neq (.fld (.idx (.var 3) (.int .i64 (0))) 0 1 false) (.sbin .add (.sbin .add (.fld (.var 0) 0 1 false) (.str (ByteArray.mk #[46]))) (.var 1)))) (.bool true) (.not (.var 4))),false)] (.dfd (.not (.var 5)))<| .chk [] (.dfd (.not (.ite (.ite (.bin .neq (.len (.var 3)) (.int .i64 (3))) (.bool true) (.sbin .neq (.fld (.idx (.var 3) (.int .i64 (0))) 0 1 false) (.sbin .add (.sbin .add (.fld (.var 0) 0 1 false) (.str (ByteArray.mk #[46]))) (.var 1)))) (.bool true) (.not (.var 4)))))<| .ite (.ite (.ite (.ite (.bin .neq (.len (.var 3)) (.int .i64 (3))) (.bool true) (.sbin .neq (.fld (.idx (.var 3) (.int .i64 (0))) 0 1 false) (.sbin .add (.sbin .add (.fld (.var 0) 0 1 false) (.str (ByteArray.mk #[46]))) (.var 1)))) (.bool true) (.not (.var 4))) (.bool true) (.not (.var 5))) ( .ret (.tup (.cons (.str (ByteArray.mk #[])) (.cons (.str (ByteArray.mk #[])) (.cons (.bool false) .nil))))) ( .chk [] (.inb (.int .i64 (1)) (.var 3) 1)<| .chk [] (.inb (.int .i64 (2)) (.var 3) 1)<| .ret (.tup (.cons (.fld (.idx (.var 3) (.int .i64 (1))) 0 1 false) (.cons (.fld (.idx (.var 3) (.int .i64 (2))) 0 1 false) (.cons (.bool true) .nil)))))
theorem zlO:zbj Tryz.prog sgs 72=some zhK:=by kernel_rfl
theorem zlA (a0:zab) (a1:List UInt8) (a2:List UInt8) (r:List UInt8 × List UInt8 × Bool) (h:zc8 a0 a1 a2=some r):Rts Tryz.prog sgs 72 [zae a0, .str a1, .str a2] (zaI r):=by
 refine zah zlO (by kernel_rfl) ?_
 unfold Den zhK
 unfold zc8 at h
 refine zaa (by simp) ?_
 refine zac zbK h (fun x hx=>by simpa using zlg a2 47 x hx) (fun v1 cv1 h=> ?_)
 refine zaa (by simp) ?_
 refine zav h (fun e2 h=> ?_) (fun e2 h=> ?_)
 ·refine zaa (by simp [e2]) ?_
  refine zaa (by simp [e2]) ?_
  refine zaa (by simp [e2]) ?_
  refine zaa (by simp [e2]) ?_
  refine zaa (by simp [e2]) ?_
  refine zaa (by simp [e2]) ?_
  refine zaa (by simp) ?_
  refine zaa (by simp [e2]) ?_
  refine zaJ (by simp [e2]) ?_
  refine zaa (by simp [e2]) ?_
  refine zaa (by simp [e2]) ?_
  refine zaa (by simp [e2]) ?_
  refine zaJ (by simp [e2]) ?_
  refine zaa (by simp [e2]) ?_
  refine zaa (by simp [e2]) ?_
  refine zdt (by simp [e2]) ?_
  exact zad (av:=zaI) h (by simp)
 ·obtain⟨y3,hy3,h⟩:=zaD h
  have hy3':=(zaG hy3).2.2
  try simp at hy3'
  refine zaa (fun _=>zaH (kk:= .i64) (f:=zal) (by simp) (by simp) hy3 (by simp)) ?_
  obtain⟨q4,h⟩:=zfa h
  refine zaa (fun _=>zde (show _=AV.str (a0.fName)from by simp) (show _=AV.str (([46]:List UInt8))from by simp) (by simpa using q4)) ?_
  refine zaa (by simp) ?_
  obtain⟨q5,h⟩:=zfa h
  refine zaa (fun _=>zde (show _=AV.str ((a0.fName++([46]:List UInt8)))from by simp) (show _=AV.str (a1)from by simp) (by simpa using q5)) ?_
  refine zaa (by simp) ?_
  refine zaa (by simp [e2,hy3']) ?_
  refine zaa (by simp) ?_
  refine zav h (fun e6 h=> ?_) (fun e6 h=> ?_)
  ·have e6':=e6
   try simp only [List.append_assoc,List.cons_append,List.nil_append]at e6'
   refine zaa (by simp [e2,hy3',e6,e6']) ?_
   refine zaJ (by simp [e2,hy3',e6,e6']) ?_
   refine zaa (by simp [e2,hy3',e6,e6']) ?_
   refine zaa (by simp [e2,hy3',e6,e6']) ?_
   refine zaa (by simp [e2,hy3',e6,e6']) ?_
   refine zaJ (by simp [e2,hy3',e6,e6']) ?_
   refine zaa (by simp [e2,hy3',e6,e6']) ?_
   refine zaa (by simp [e2,hy3',e6,e6']) ?_
   refine zdt (by simp [e2,hy3',e6,e6']) ?_
   exact zad (av:=zaI) h (by simp)
  ·have e6':=e6
   try simp only [List.append_assoc,List.cons_append,List.nil_append]at e6'
   obtain⟨y7,hy7,h⟩:=zaD h
   have hy7':=(zaG hy7).2.2
   try simp at hy7'
   refine zaa (fun _=>zaH (kk:= .i64) (f:=zal) (by simp) (by simp) hy7 (by simp)) ?_
   refine zac avB h (fun x hx=>by simpa [e2,hy3',e6,e6',hy7']using zhJ y7 x hx) (fun v8 cv8 h=> ?_)
   refine zaa (by simp) ?_
   refine zaa (by simp [e2,hy3',e6,e6',hy7']) ?_
   refine zav h (fun e9 h=> ?_) (fun e9 h=> ?_)
   ·obtain⟨y10,hy10,h⟩:=zaD h
    have hy10':=(zaG hy10).2.2
    try simp at hy10'
    refine zaa (fun _=>zaH (kk:= .i64) (f:=zal) (by simp) (by simp) hy10 (by simp)) ?_
    refine zac avB h (fun x hx=>by simpa [e2,hy3',e6,e6',hy7',e9,hy10']using zhJ y10 x hx) (fun v11 cv11 h=> ?_)
    refine zaa (by simp) ?_
    refine zaa (by simp [e2,hy3',e6,e6',hy7',e9,hy10']) ?_
    refine zam h (by simp [e2,hy3',e6,e6',hy7',e9,hy10']) (fun e12 h=> ?_) (fun e12 h=> ?_)
    ·exact zad (av:=zaI) h (by simp)
    ·refine zaa (fun _=>zaH (kk:= .i64) (f:=zal) (by simp) (by simp) hy7 (by simp)) ?_
     refine zaa (fun _=>zaH (kk:= .i64) (f:=zal) (by simp) (by simp) hy10 (by simp)) ?_
     exact zad (av:=zaI) h (by simp [e2,hy3',e6,e6',hy7',e9,hy10',e12])
   ·refine zaa (by simp [e2,hy3',e6,e6',hy7',e9]) ?_
    refine zaJ (by simp [e2,hy3',e6,e6',hy7',e9]) ?_
    refine zaa (by simp [e2,hy3',e6,e6',hy7',e9]) ?_
    refine zaa (by simp [e2,hy3',e6,e6',hy7',e9]) ?_
    refine zdt (by simp [e2,hy3',e6,e6',hy7',e9]) ?_
    exact zad (av:=zaI) h (by simp)
def zin:Tr:= .chk [] (.agg (.var 0) 3)<| .chk [] (.dfd (.len (.var 2)))<| .loop (.cons (.lst .nil) (.cons (.int .i64 (0)) .nil)) ( .chk [] (.dfd (.bin .lss (.var 4) (.len (.var 2))))<| .ite (.bin .lss (.var 4) (.len (.var 2))) ( .join ( .chk [] (.inb (.var 4) (.var 2) 3)<| .chk [] (.agg (.fld (.idx (.var 2) (.var 4)) 0 3 true) 3)<| .call [] (.inl 72) (.cons (.mk (.cons (.fld (.var 0) 0 1 false) (.cons (.fld (.var 0) 1 1 false) (.cons (.fld (.var 0) 2 1 false) .nil)))) (.cons (.var 1) (.cons (.fld (.fld (.idx (.var 2) (.var 4)) 0 3 true) 0 1 false) .nil)))<| .ite (.proj (.var 5) 2) ( .chk [] (.flat (.fld (.fld (.idx (.var 2) (.var 4)) 0 3 true) 0 1 false) 1 false)<| .chk [] (.room (.var 3) (.lst (.cons (.fld (.fld (.idx (.var 2) (.var 4)) 0 3 true) 0 1 false) .nil)) 16)<| .chk [] (.flatS (.lst (.cons (.fld (.fld (.idx (.var 2) (.var 4)) 0 3 true) 0 1 false) .nil)) 1)<| .jmp 0 (.cons (.app (.var 3) (.lst (.cons (.fld (.fld (.idx (.var 2) (.var 4)) 0 3 true) 0 1 false) .nil))) .nil)) ( .jmp 0 (.cons (.var 3) .nil))) ( .chk [] (.dfd (.bin .add (.var 4) (.int .i64 (1))))<| .jmp 0 (.cons (.var 5) (.cons (.bin .add (.var 4) (.int .i64 (1))) .nil)))) ( .jmp 1 (.cons (.var 3) .nil))) ( .ret (.var 3))
theorem zns:zbj Tryz.prog sgs 47=some zin:=by kernel_rfl
theorem zgx (a0:zab) (a1:List UInt8) (a2:List zag) (r:List (List UInt8)) (h:zcZ a0 a1 a2=some r):Rts Tryz.prog sgs 47 [zae a0, .str a1, .sl (a2.map zar)] (.sl (r.map zal)):=by
 refine zah zns (by kernel_rfl) ?_
 unfold Den zin
 unfold zcZ at h
 refine zaa (by simp) ?_
 refine zaa (by simp) ?_
 refine zbB (fun s:List (List UInt8) × Int=> [.sl (s.1.map zal), .int .i64 s.2]) h (by simp) (fun W1 A1 s o1 h hn1 hf1 hk1=> ?_)
 obtain⟨v1,v2⟩:=s
 replace h:zbg a0 a1 a2 v1 v2=some o1:=h
 unfold zbg at h
 refine zaa (by simp) ?_
 refine zam h (by simp) (fun e3 h=> ?_) (fun e3 h=> ?_)
 ·refine zic fun j4 hj4=> ?_
  obtain⟨y5,hy5,h⟩:=zaD h
  have hy5':=(zaG hy5).2.2
  refine zaa (fun _=>zaH (kk:= .i64) (f:=zar) (by simp) (by simp) hy5 (by simp)) ?_
  refine zaa (by simp [e3,hy5']) ?_
  refine zac zaI h (fun x hx=>by simpa [e3,hy5']using zlA a0 a1 y5.fKey x hx) (fun v6 cv6 h=> ?_)
  refine zam h (by simp) (fun e7 h=> ?_) (fun e7 h=> ?_)
  ·refine zaa (by simp [e3,hy5',e7]) ?_
   obtain⟨q8,h⟩:=zfa h
   refine zaa (fun _=>zfU (show _=AV.sl (List.map zal v1)from by simp) (show _=AV.sl (List.map zal ([y5.fKey]:List (List UInt8)))from by simp [e3,hy5',e7]) (by simpa using q8)) ?_
   refine zaa (fun _=>zfY zal (show _=AV.sl (List.map zal ([y5.fKey]:List (List UInt8)))from by simp [e3,hy5',e7]) (by simp)) ?_
   refine zaN hj4 rfl (vs:= [.sl ((v1++ [y5.fKey]).map zal)]) (by simp [e3,hy5',e7]) ?_
   refine zaa (by simp) ?_
   exact za4 (K:=fun s=>some (Sum.inl s)) (s:=((v1++ [y5.fKey]),(IntKind.i64.wrap (v2+1)))) hn1 h rfl (by simp)
  ·refine zaN hj4 rfl (vs:= [.sl (v1.map zal)]) (by simp) ?_
   refine zaa (by simp) ?_
   exact za4 (K:=fun s=>some (Sum.inl s)) (s:=(v1,(IntKind.i64.wrap (v2+1)))) hn1 h rfl (by simp)
 ·refine zaN hk1 rfl (vs:= [.sl (v1.map zal)]) (by simp) ?_
  replace h:=(hf1 _ h)
  exact zad (av:=zbK) h (by simp)
def zjW:Tr:= .chk [] (.agg (.var 0) 3)<| .call [] (.inl 44) (.cons (.mk (.cons (.fld (.var 0) 0 1 false) (.cons (.fld (.var 0) 1 1 false) (.cons (.fld (.var 0) 2 1 false) .nil)))) .nil)<| .call [((.var 3),true)] (.inl 45) (.cons (.mk (.cons (.fld (.var 0) 0 1 false) (.cons (.fld (.var 0) 1 1 false) (.cons (.fld (.var 0) 2 1 false) .nil)))) (.cons (.var 1) .nil))<| .chk [((.var 3),true)] (.dfd (.bin .geq (.var 4) (.int .i64 (0))))<| .chk [] (.dfd (.not (.var 3)))<| .call [((.ite (.var 3) (.bin .geq (.var 4) (.int .i64 (0))) (.bool false)),true)] (.inl 46) (.cons (.var 2) .nil)<| .chk [] (.dfd (.not (.ite (.var 3) (.bin .geq (.var 4) (.int .i64 (0))) (.bool false))))<| .ret (.ite (.ite (.var 3) (.bin .geq (.var 4) (.int .i64 (0))) (.bool false)) (.var 5) (.bool false))
theorem zp7:zbj Tryz.prog sgs 21=some zjW:=by kernel_rfl
theorem zhP (a0:zab) (a1:List UInt8) (a2:List zag) (r:Bool) (h:zb9 a0 a1 a2=some r):Rts Tryz.prog sgs 21 [zae a0, .str a1, .sl (a2.map zar)] (.bool r):=by
 refine zah zp7 (by kernel_rfl) ?_
 unfold Den zjW
 unfold zb9 at h
 refine zaa (by simp) ?_
 refine zac avB h (fun x hx=>by simpa using zfv a0 x hx) (fun v1 cv1 h=> ?_)
 refine zav h (fun e2 h=> ?_) (fun e2 h=> ?_)
 ·refine zac zaw h (fun x hx=>by simpa using zdm a0 a1 x hx) (fun v3 cv3 h=> ?_)
  refine zaa (by simp) ?_
  refine zaa (by simp) ?_
  refine zav h (fun e4 h=> ?_) (fun e4 h=> ?_)
  ·refine zac avB h (fun x hx=>by simpa using zmV a2 x hx) (fun v5 cv5 h=> ?_)
   refine zaa (by simp [e2,e4]) ?_
   exact zad (av:=avB) h (by simp [e2,e4])
  ·refine zaJ (by simp [e2,e4]) ?_
   refine zaa (by simp [e2,e4]) ?_
   exact zad (av:=avB) h (by simp [e2,e4])
 ·refine zaJ (by simp [e2]) ?_
  refine zaa (by simp [e2]) ?_
  refine zaa (by simp) ?_
  refine zaJ (by simp [e2]) ?_
  refine zaa (by simp [e2]) ?_
  exact zad (av:=avB) h (by simp [e2])
def zle:Tr:= .chk [] (.agg (.var 0) 3)<| .chk [] (.agg (.var 1) 1)<| .chk [] (.dfd (.len (.fld (.var 1) 0 1 false)))<| .loop (.cons (.int .i64 (0)) .nil) ( .chk [] (.dfd (.bin .lss (.var 2) (.len (.fld (.var 1) 0 1 false))))<| .ite (.bin .lss (.var 2) (.len (.fld (.var 1) 0 1 false))) ( .chk [] (.inb (.var 2) (.fld (.var 1) 0 1 false) 1)<| .call [] (.inl 99) (.cons (.fld (.idx (.fld (.var 1) 0 1 false) (.var 2)) 0 1 false) .nil)<| .chk [] (.dfd (.not (.var 3)))<| .ite (.not (.var 3)) ( .ret (.bool false)) ( .chk [] (.dfd (.bin .add (.var 2) (.int .i64 (1))))<| .jmp 0 (.cons (.bin .add (.var 2) (.int .i64 (1))) .nil))) ( .jmp 1 .nil)) ( .chk [] (.dfd (.len (.fld (.var 1) 0 1 false)))<| .chk [] (.dfd (.len (.fld (.var 0) 1 1 false)))<| .ret (.bin .eql (.len (.fld (.var 1) 0 1 false)) (.len (.fld (.var 0) 1 1 false))))
theorem zrf:zbj Tryz.prog sgs 137=some zle:=by kernel_rfl
theorem zqZ (a0:zab) (a1:zdN) (r:Bool) (h:zfl a0 a1=some r):Rts Tryz.prog sgs 137 [zae a0,zgh a1] (.bool r):=by
 refine zah zrf (by kernel_rfl) ?_
 unfold Den zle
 unfold zfl at h
 refine zaa (by simp) ?_
 refine zaa (by simp) ?_
 refine zaa (by simp) ?_
 refine zhR (fun s:Int=> [.int .i64 s]) (fun s:Unit=> []) h (by simp) (K:=(fun s=>zcX a0 a1)) (fun s h=> ?_) (fun W1 A1 v1 o1 h hn1 hf1 hk1=> ?_)
 ·replace h:zcX a0 a1=some r:=h
  unfold zcX at h
  refine zaa (by simp) ?_
  refine zaa (by simp) ?_
  exact zad (av:=avB) h (by simp)
 ·replace h:zd1 a0 a1 v1=some o1:=h
  unfold zd1 at h
  refine zaa (by simp) ?_
  refine zam h (by simp) (fun e2 h=> ?_) (fun e2 h=> ?_)
  ·obtain⟨y3,hy3,h⟩:=zaD h
   have hy3':=(zaG hy3).2.2
   refine zaa (fun _=>zaH (kk:= .i64) (f:=zal) (by simp) (by simp) hy3 (by simp)) ?_
   refine zac avB h (fun x hx=>by simpa [e2,hy3']using zhJ y3 x hx) (fun v4 cv4 h=> ?_)
   refine zaa (by simp) ?_
   refine zam h (by simp) (fun e5 h=> ?_) (fun e5 h=> ?_)
   ·exact zad (av:=avB) (hf1 _ h) (by simp)
   ·refine zaa (by simp) ?_
    exact za4 (K:=fun s=>some (Sum.inl s)) (s:=(IntKind.i64.wrap (v1+1))) hn1 h rfl (by simp)
  ·exact za4 (s:=()) hk1 (hf1 _ h) rfl (by simp)
def zlw:Tr:= .chk [] (.dfd (.len (.var 0)))<| .loop (.cons (.str (ByteArray.mk #[])) (.cons (.int .i64 (0)) .nil)) ( .chk [] (.dfd (.bin .lss (.var 3) (.len (.var 0))))<| .ite (.bin .lss (.var 3) (.len (.var 0))) ( .chk [] (.inb (.var 3) (.var 0) 1)<| .join ( .chk [] (.dfd (.bin .gtr (.var 3) (.int .i64 (0))))<| .ite (.bin .gtr (.var 3) (.int .i64 (0))) ( .chk [] (.roomS (.var 2) (.var 1))<| .chk [] (.dfd (.sbin .add (.var 2) (.var 1)))<| .jmp 0 (.cons (.sbin .add (.var 2) (.var 1)) .nil)) ( .jmp 0 (.cons (.var 2) .nil))) ( .chk [] (.roomS (.var 4) (.fld (.idx (.var 0) (.var 3)) 0 1 false))<| .chk [] (.dfd (.sbin .add (.var 4) (.fld (.idx (.var 0) (.var 3)) 0 1 false)))<| .chk [] (.dfd (.bin .add (.var 3) (.int .i64 (1))))<| .jmp 0 (.cons (.sbin .add (.var 4) (.fld (.idx (.var 0) (.var 3)) 0 1 false)) (.cons (.bin .add (.var 3) (.int .i64 (1))) .nil)))) ( .jmp 1 (.cons (.var 2) .nil))) ( .ret (.var 2))
theorem zqz:zbj Tryz.prog sgs 146=some zlw:=by kernel_rfl
theorem zq3 (a0:List (List UInt8)) (a1:List UInt8) (r:List UInt8) (h:zgI a0 a1=some r):Rts Tryz.prog sgs 146 [.sl (a0.map zal), .str a1] (.str r):=by
 refine zah zqz (by kernel_rfl) ?_
 unfold Den zlw
 unfold zgI at h
 refine zaa (by simp) ?_
 refine zbB (fun s:List UInt8 × Int=> [.str s.1, .int .i64 s.2]) h (by simp) (fun W1 A1 s o1 h hn1 hf1 hk1=> ?_)
 obtain⟨v1,v2⟩:=s
 replace h:zbU a0 a1 v1 v2=some o1:=h
 unfold zbU at h
 refine zaa (by simp) ?_
 refine zam h (by simp) (fun e3 h=> ?_) (fun e3 h=> ?_)
 ·obtain⟨y4,hy4,h⟩:=zaD h
  have hy4':=(zaG hy4).2.2
  refine zaa (fun _=>zaH (kk:= .i64) (f:=zal) (by simp) (by simp) hy4 (by simp)) ?_
  refine zic fun j5 hj5=> ?_
  refine zaa (by simp) ?_
  refine zam h (by simp) (fun e6 h=> ?_) (fun e6 h=> ?_)
  ·obtain⟨q7,h⟩:=zfa h
   refine zaa (fun _=>zde (show _=AV.str (v1)from by simp) (show _=AV.str (a1)from by simp) (by simpa using q7)) ?_
   refine zaa (by simp) ?_
   refine zaN hj5 rfl (vs:= [.str (v1++a1)]) (by simp) ?_
   obtain⟨q8,h⟩:=zfa h
   refine zaa (fun _=>zde (show _=AV.str ((v1++a1))from by simp) (show _=AV.str (y4)from by simp [e3,hy4',e6]) (by simpa using q8)) ?_
   refine zaa (by simp [e3,hy4',e6]) ?_
   refine zaa (by simp) ?_
   exact za4 (K:=fun s=>some (Sum.inl s)) (s:=(((v1++a1)++y4),(IntKind.i64.wrap (v2+1)))) hn1 h rfl (by simp [e3,hy4',e6])
  ·refine zaN hj5 rfl (vs:= [.str v1]) (by simp) ?_
   obtain⟨q9,h⟩:=zfa h
   refine zaa (fun _=>zde (show _=AV.str (v1)from by simp) (show _=AV.str (y4)from by simp [e3,hy4',e6]) (by simpa using q9)) ?_
   refine zaa (by simp [e3,hy4',e6]) ?_
   refine zaa (by simp) ?_
   exact za4 (K:=fun s=>some (Sum.inl s)) (s:=((v1++y4),(IntKind.i64.wrap (v2+1)))) hn1 h rfl (by simp [e3,hy4',e6])
 ·refine zaN hk1 rfl (vs:= [.str v1]) (by simp) ?_
  replace h:=(hf1 _ h)
  exact zad (av:=zal) h (by simp)
def zjZ:Tr:= .chk [] (.agg (.var 0) 3)<| .chk [] (.agg (.var 1) 1)<| .chk [] (.roomS (.fld (.var 0) 0 1 false) (.str (ByteArray.mk #[47])))<| .chk [] (.dfd (.sbin .add (.fld (.var 0) 0 1 false) (.str (ByteArray.mk #[47]))))<| .chk [] (.inb (.int .i64 (0)) (.fld (.var 1) 0 1 false) 1)<| .chk [] (.roomS (.sbin .add (.fld (.var 0) 0 1 false) (.str (ByteArray.mk #[47]))) (.fld (.idx (.fld (.var 1) 0 1 false) (.int .i64 (0))) 0 1 false))<| .chk [] (.dfd (.sbin .add (.sbin .add (.fld (.var 0) 0 1 false) (.str (ByteArray.mk #[47]))) (.fld (.idx (.fld (.var 1) 0 1 false) (.int .i64 (0))) 0 1 false)))<| .chk [] (.issl (.fld (.var 1) 0 1 false) 1)<| .chk [] (.win (.fld (.var 1) 0 1 false) (.int .i64 (1)) (.len (.fld (.var 1) 0 1 false)))<| .call [] (.inl 146) (.cons (.win (.fld (.var 1) 0 1 false) (.int .i64 (1)) (.len (.fld (.var 1) 0 1 false))) (.cons (.str (ByteArray.mk #[44])) .nil))<| .chk [] (.cells (.sbin .add (.sbin .add (.fld (.var 0) 0 1 false) (.str (ByteArray.mk #[47]))) (.fld (.idx (.fld (.var 1) 0 1 false) (.int .i64 (0))) 0 1 false)) 1)<| .chk [] (.cells (.var 2) 1)<| .ret (.mk (.cons (.sbin .add (.sbin .add (.fld (.var 0) 0 1 false) (.str (ByteArray.mk #[47]))) (.fld (.idx (.fld (.var 1) 0 1 false) (.int .i64 (0))) 0 1 false)) (.cons (.var 2) (.cons (.bool false) .nil))))
theorem zpB:zbj Tryz.prog sgs 138=some zjZ:=by kernel_rfl
theorem zo2 (a0:zab) (a1:zdN) (r:zag) (h:zeS a0 a1=some r):Rts Tryz.prog sgs 138 [zae a0,zgh a1] (zar r):=by
 refine zah zpB (by kernel_rfl) ?_
 unfold Den zjZ
 unfold zeS at h
 refine zaa (by simp) ?_
 refine zaa (by simp) ?_
 obtain⟨q1,h⟩:=zfa h
 refine zaa (fun _=>zde (show _=AV.str (a0.fName)from by simp) (show _=AV.str (([47]:List UInt8))from by simp) (by simpa using q1)) ?_
 refine zaa (by simp) ?_
 obtain⟨y2,hy2,h⟩:=zaD h
 have hy2':=(zaG hy2).2.2
 try simp at hy2'
 refine zaa (fun _=>zaH (kk:= .i64) (f:=zal) (by simp) (by simp) hy2 (by simp)) ?_
 obtain⟨q3,h⟩:=zfa h
 refine zaa (fun _=>zde (show _=AV.str ((a0.fName++([47]:List UInt8)))from by simp) (show _=AV.str (y2)from by simp [hy2']) (by simpa using q3)) ?_
 refine zaa (by simp [hy2']) ?_
 refine zaa (fun _=>zi4 zal (show _=AV.sl (List.map zal a1.fVals)from by simp) (by simp)) ?_
 obtain⟨q5,h⟩:=zfa h
 refine zaa (fun _=>zwN (ka:= .i64) (kb:= .i64) (a:=1) (b:=(a1.fVals.length:Int)) (by simp) (by simp) (show _=AV.sl (List.map zal a1.fVals)from by simp) (by simpa using q5)) ?_
 refine zac zal h (fun x hx=>by simpa using zq3 (zhh a1.fVals 1 (a1.fVals.length:Int)) ([44]:List UInt8) x hx) (fun v4 cv4 h=> ?_)
 refine zaa (by simp [hy2']) ?_
 refine zaa (by simp) ?_
 exact zad (av:=zar) h (by simp [hy2'])
def zls:Tr:= .chk [] (.agg (.var 0) 3)<| .chk [] (.agg (.var 1) 3)<| .chk [] (.dfd (.slen (.fld (.var 1) 0 1 false)))<| .ite (.bin .lss (.slen (.fld (.var 1) 0 1 false)) (.int .i64 (3))) ( .ret (.tup (.cons (.mk (.cons (.lst .nil) .nil)) (.cons (.bool false) .nil)))) ( .chk [] (.winS (.fld (.var 1) 0 1 false) (.int .i64 (2)) (.slen (.fld (.var 1) 0 1 false)))<| .chk [] (.flat (.swin (.fld (.var 1) 0 1 false) (.int .i64 (2)) (.slen (.fld (.var 1) 0 1 false))) 1 false)<| .call [] (.inl 98) (.cons (.fld (.var 1) 1 1 false) (.cons (.int .u8 (44)) .nil))<| .chk [] (.room (.lst (.cons (.swin (.fld (.var 1) 0 1 false) (.int .i64 (2)) (.slen (.fld (.var 1) 0 1 false))) .nil)) (.var 2) 16)<| .chk [] (.flatS (.var 2) 1)<| .call [] (.inl 137) (.cons (.mk (.cons (.fld (.var 0) 0 1 false) (.cons (.fld (.var 0) 1 1 false) (.cons (.fld (.var 0) 2 1 false) .nil)))) (.cons (.mk (.cons (.app (.lst (.cons (.swin (.fld (.var 1) 0 1 false) (.int .i64 (2)) (.slen (.fld (.var 1) 0 1 false))) .nil)) (.var 2)) .nil)) .nil))<| .call [((.var 3),true)] (.inl 138) (.cons (.mk (.cons (.fld (.var 0) 0 1 false) (.cons (.fld (.var 0) 1 1 false) (.cons (.fld (.var 0) 2 1 false) .nil)))) (.cons (.mk (.cons (.app (.lst (.cons (.swin (.fld (.var 1) 0 1 false) (.int .i64 (2)) (.slen (.fld (.var 1) 0 1 false))) .nil)) (.var 2)) .nil)) .nil))<| .chk [((.var 3),true)] (.kinds (.var 4) [.str, .str, .bool])<| .chk [((.var 3),true)] (.kinds (.mk (.cons (.fld (.var 1) 0 1 false) (.cons (.fld (.var 1) 1 1 false) (.cons (.fld (.var 1) 2 1 false) .nil)))) [.str, .str, .bool])<| .chk [] (.dfd (.not (.var 3)))<| .ret (.tup (.cons (.mk (.cons (.app (.lst (.cons (.swin (.fld (.var 1) 0 1 false) (.int .i64 (2)) (.slen (.fld (.var 1) 0 1 false))) .nil)) (.var 2)) .nil)) (.cons (.ite (.var 3) (.aeq (.var 4) (.mk (.cons (.fld (.var 1) 0 1 false) (.cons (.fld (.var 1) 1 1 false) (.cons (.fld (.var 1) 2 1 false) .nil))))) (.bool false)) .nil))))
theorem zqO:zbj Tryz.prog sgs 128=some zls:=by kernel_rfl
theorem zqm (a0:zab) (a1:zag) (r:zdN × Bool) (h:zfq a0 a1=some r):Rts Tryz.prog sgs 128 [zae a0,zar a1] (zeO r):=by
 refine zah zqO (by kernel_rfl) ?_
 unfold Den zls
 unfold zfq at h
 refine zaa (by simp) ?_
 refine zaa (by simp) ?_
 refine zaa (by simp) ?_
 refine zam h (by simp) (fun e1 h=> ?_) (fun e1 h=> ?_)
 ·exact zad (av:=zeO) h (by simp)
 ·obtain⟨q7,h⟩:=zfa h
  refine zaa (fun _=>zmo (ka:= .i64) (kb:= .i64) (a:=2) (b:=(a1.fKey.length:Int)) (by simp) (by simp) (show _=AV.str (a1.fKey)from by simp) (by simpa using q7)) ?_
  refine zaa (by simp) ?_
  refine zac zbK h (fun x hx=>by simpa using zlg a1.fVal 44 x hx) (fun v2 cv2 h=> ?_)
  obtain⟨q3,h⟩:=zfa h
  refine zaa (fun _=>zfU (show _=AV.sl (List.map zal ([(zhh a1.fKey 2 (a1.fKey.length:Int))]:List (List UInt8)))from by simp) (show _=AV.sl (List.map zal v2)from by simp) (by simpa using q3)) ?_
  refine zaa (fun _=>zfY zal (show _=AV.sl (List.map zal v2)from by simp) (by simp)) ?_
  refine zac avB h (fun x hx=>by simpa using zqZ a0 (⟨([(zhh a1.fKey 2 (a1.fKey.length:Int))]++v2)⟩:zdN) x hx) (fun v4 cv4 h=> ?_)
  refine zav h (fun e5 h=> ?_) (fun e5 h=> ?_)
  ·refine zac zar h (fun x hx=>by simpa using zo2 a0 (⟨([(zhh a1.fKey 2 (a1.fKey.length:Int))]++v2)⟩:zdN) x hx) (fun v6 cv6 h=> ?_)
   refine zaa (by simp) ?_
   refine zaa (by simp) ?_
   refine zaa (by simp) ?_
   exact zad (av:=zeO) h (by simp [e1,e5])
  ·refine zaJ (by simp [e1,e5]) ?_
   refine zaa (by simp [e1,e5]) ?_
   refine zaa (by simp [e1,e5]) ?_
   refine zaa (by simp) ?_
   exact zad (av:=zeO) h (by simp [e1,e5])
def zlq:Tr:= .chk [] (.agg (.var 0) 3)<| .chk [] (.dfd (.len (.var 1)))<| .loop (.cons (.lst .nil) (.cons (.int .i64 (0)) .nil)) ( .chk [] (.dfd (.bin .lss (.var 3) (.len (.var 1))))<| .ite (.bin .lss (.var 3) (.len (.var 1))) ( .join ( .chk [] (.inb (.var 3) (.var 1) 3)<| .chk [] (.agg (.fld (.idx (.var 1) (.var 3)) 0 3 true) 3)<| .call [] (.inl 128) (.cons (.mk (.cons (.fld (.var 0) 0 1 false) (.cons (.fld (.var 0) 1 1 false) (.cons (.fld (.var 0) 2 1 false) .nil)))) (.cons (.mk (.cons (.fld (.fld (.idx (.var 1) (.var 3)) 0 3 true) 0 1 false) (.cons (.fld (.fld (.idx (.var 1) (.var 3)) 0 3 true) 1 1 false) (.cons (.fld (.fld (.idx (.var 1) (.var 3)) 0 3 true) 2 1 false) .nil)))) .nil))<| .ite (.proj (.var 4) 1) ( .chk [] (.agg (.mk (.cons (.fld (.proj (.var 4) 0) 0 1 false) .nil)) 1)<| .chk [] (.room (.var 2) (.lst (.cons (.mk (.cons (.fld (.proj (.var 4) 0) 0 1 false) .nil)) .nil)) 24)<| .chk [] (.issl (.lst (.cons (.mk (.cons (.fld (.proj (.var 4) 0) 0 1 false) .nil)) .nil)) 1)<| .jmp 0 (.cons (.app (.var 2) (.lst (.cons (.mk (.cons (.fld (.proj (.var 4) 0) 0 1 false) .nil)) .nil))) .nil)) ( .jmp 0 (.cons (.var 2) .nil))) ( .chk [] (.dfd (.bin .add (.var 3) (.int .i64 (1))))<| .jmp 0 (.cons (.var 4) (.cons (.bin .add (.var 3) (.int .i64 (1))) .nil)))) ( .jmp 1 (.cons (.var 2) .nil))) ( .ret (.var 2))
theorem zqC:zbj Tryz.prog sgs 100=some zlq:=by kernel_rfl
theorem zqw (a0:zab) (a1:List zag) (r:List zdN) (h:zgQ a0 a1=some r):Rts Tryz.prog sgs 100 [zae a0, .sl (a1.map zar)] (.sl (r.map zgh)):=by
 refine zah zqC (by kernel_rfl) ?_
 unfold Den zlq
 unfold zgQ at h
 refine zaa (by simp) ?_
 refine zaa (by simp) ?_
 refine zbB (fun s:List zdN × Int=> [.sl (s.1.map zgh), .int .i64 s.2]) h (by simp) (fun W1 A1 s o1 h hn1 hf1 hk1=> ?_)
 obtain⟨v1,v2⟩:=s
 replace h:zbS a0 a1 v1 v2=some o1:=h
 unfold zbS at h
 refine zaa (by simp) ?_
 refine zam h (by simp) (fun e3 h=> ?_) (fun e3 h=> ?_)
 ·refine zic fun j4 hj4=> ?_
  obtain⟨y5,hy5,h⟩:=zaD h
  have hy5':=(zaG hy5).2.2
  refine zaa (fun _=>zaH (kk:= .i64) (f:=zar) (by simp) (by simp) hy5 (by simp)) ?_
  refine zaa (by simp [e3,hy5']) ?_
  refine zac zeO h (fun x hx=>by simpa [e3,hy5']using zqm a0 y5 x hx) (fun v6 cv6 h=> ?_)
  refine zam h (by simp) (fun e7 h=> ?_) (fun e7 h=> ?_)
  ·refine zaa (by simp) ?_
   obtain⟨q8,h⟩:=zfa h
   refine zaa (fun _=>zfU (show _=AV.sl (List.map zgh v1)from by simp) (show _=AV.sl (List.map zgh ([v6.1]:List zdN))from by simp) (by simpa using q8)) ?_
   refine zaa (fun _=>zi4 zgh (show _=AV.sl (List.map zgh ([v6.1]:List zdN))from by simp) (by simp)) ?_
   refine zaN hj4 rfl (vs:= [.sl ((v1++ [v6.1]).map zgh)]) (by simp) ?_
   refine zaa (by simp) ?_
   exact za4 (K:=fun s=>some (Sum.inl s)) (s:=((v1++ [v6.1]),(IntKind.i64.wrap (v2+1)))) hn1 h rfl (by simp)
  ·refine zaN hj4 rfl (vs:= [.sl (v1.map zgh)]) (by simp) ?_
   refine zaa (by simp) ?_
   exact za4 (K:=fun s=>some (Sum.inl s)) (s:=(v1,(IntKind.i64.wrap (v2+1)))) hn1 h rfl (by simp)
 ·refine zaN hk1 rfl (vs:= [.sl (v1.map zgh)]) (by simp) ?_
  replace h:=(hf1 _ h)
  exact zad (av:=zu8) h (by simp)
def zj2:Tr:= .chk [] (.agg (.var 0) 3)<| .chk [] (.agg (.var 1) 3)<| .chk [] (.agg (.var 2) 1)<| .chk [] (.roomS (.fld (.var 0) 0 1 false) (.str (ByteArray.mk #[46])))<| .chk [] (.dfd (.sbin .add (.fld (.var 0) 0 1 false) (.str (ByteArray.mk #[46]))))<| .chk [] (.roomS (.sbin .add (.fld (.var 0) 0 1 false) (.str (ByteArray.mk #[46]))) (.fld (.var 1) 0 1 false))<| .chk [] (.dfd (.sbin .add (.sbin .add (.fld (.var 0) 0 1 false) (.str (ByteArray.mk #[46]))) (.fld (.var 1) 0 1 false)))<| .chk [] (.roomS (.sbin .add (.sbin .add (.fld (.var 0) 0 1 false) (.str (ByteArray.mk #[46]))) (.fld (.var 1) 0 1 false)) (.str (ByteArray.mk #[47])))<| .chk [] (.dfd (.sbin .add (.sbin .add (.sbin .add (.fld (.var 0) 0 1 false) (.str (ByteArray.mk #[46]))) (.fld (.var 1) 0 1 false)) (.str (ByteArray.mk #[47]))))<| .chk [] (.inb (.fld (.var 1) 1 1 false) (.fld (.var 2) 0 1 false) 1)<| .chk [] (.roomS (.sbin .add (.sbin .add (.sbin .add (.fld (.var 0) 0 1 false) (.str (ByteArray.mk #[46]))) (.fld (.var 1) 0 1 false)) (.str (ByteArray.mk #[47]))) (.fld (.idx (.fld (.var 2) 0 1 false) (.fld (.var 1) 1 1 false)) 0 1 false))<| .chk [] (.dfd (.sbin .add (.sbin .add (.sbin .add (.sbin .add (.fld (.var 0) 0 1 false) (.str (ByteArray.mk #[46]))) (.fld (.var 1) 0 1 false)) (.str (ByteArray.mk #[47]))) (.fld (.idx (.fld (.var 2) 0 1 false) (.fld (.var 1) 1 1 false)) 0 1 false)))<| .chk [] (.roomS (.sbin .add (.sbin .add (.sbin .add (.sbin .add (.fld (.var 0) 0 1 false) (.str (ByteArray.mk #[46]))) (.fld (.var 1) 0 1 false)) (.str (ByteArray.mk #[47]))) (.fld (.idx (.fld (.var 2) 0 1 false) (.fld (.var 1) 1 1 false)) 0 1 false)) (.str (ByteArray.mk #[47])))<| .chk [] (.dfd (.sbin .add (.sbin .add (.sbin .add (.sbin .add (.sbin .add (.fld (.var 0) 0 1 false) (.str (ByteArray.mk #[46]))) (.fld (.var 1) 0 1 false)) (.str (ByteArray.mk #[47]))) (.fld (.idx (.fld (.var 2) 0 1 false) (.fld (.var 1) 1 1 false)) 0 1 false)) (.str (ByteArray.mk #[47]))))<| .chk [] (.inb (.int .i64 (0)) (.fld (.var 2) 0 1 false) 1)<| .chk [] (.roomS (.sbin .add (.sbin .add (.sbin .add (.sbin .add (.sbin .add (.fld (.var 0) 0 1 false) (.str (ByteArray.mk #[46]))) (.fld (.var 1) 0 1 false)) (.str (ByteArray.mk #[47]))) (.fld (.idx (.fld (.var 2) 0 1 false) (.fld (.var 1) 1 1 false)) 0 1 false)) (.str (ByteArray.mk #[47]))) (.fld (.idx (.fld (.var 2) 0 1 false) (.int .i64 (0))) 0 1 false))<| .chk [] (.dfd (.sbin .add (.sbin .add (.sbin .add (.sbin .add (.sbin .add (.sbin .add (.fld (.var 0) 0 1 false) (.str (ByteArray.mk #[46]))) (.fld (.var 1) 0 1 false)) (.str (ByteArray.mk #[47]))) (.fld (.idx (.fld (.var 2) 0 1 false) (.fld (.var 1) 1 1 false)) 0 1 false)) (.str (ByteArray.mk #[47]))) (.fld (.idx (.fld (.var 2) 0 1 false) (.int .i64 (0))) 0 1 false)))<| .ret (.sbin .add (.sbin .add (.sbin .add (.sbin .add (.sbin .add (.sbin .add (.fld (.var 0) 0 1 false) (.str (ByteArray.mk #[46]))) (.fld (.var 1) 0 1 false)) (.str (ByteArray.mk #[47]))) (.fld (.idx (.fld (.var 2) 0 1 false) (.fld (.var 1) 1 1 false)) 0 1 false)) (.str (ByteArray.mk #[47]))) (.fld (.idx (.fld (.var 2) 0 1 false) (.int .i64 (0))) 0 1 false))
theorem zqe:zbj Tryz.prog sgs 101=some zj2:=by kernel_rfl
theorem zqc (a0:zab) (a1:zb8) (a2:zdN) (r:List UInt8) (h:zeL a0 a1 a2=some r):Rts Tryz.prog sgs 101 [zae a0,zbW a1,zgh a2] (.str r):=by
 refine zah zqe (by kernel_rfl) ?_
 unfold Den zj2
 unfold zeL at h
 refine zaa (by simp) ?_
 refine zaa (by simp) ?_
 refine zaa (by simp) ?_
 obtain⟨q1,h⟩:=zfa h
 refine zaa (fun _=>zde (show _=AV.str (a0.fName)from by simp) (show _=AV.str (([46]:List UInt8))from by simp) (by simpa using q1)) ?_
 refine zaa (by simp) ?_
 obtain⟨q2,h⟩:=zfa h
 refine zaa (fun _=>zde (show _=AV.str ((a0.fName++([46]:List UInt8)))from by simp) (show _=AV.str (a1.fName)from by simp) (by simpa using q2)) ?_
 refine zaa (by simp) ?_
 obtain⟨q3,h⟩:=zfa h
 refine zaa (fun _=>zde (show _=AV.str (((a0.fName++([46]:List UInt8))++a1.fName))from by simp) (show _=AV.str (([47]:List UInt8))from by simp) (by simpa using q3)) ?_
 refine zaa (by simp) ?_
 obtain⟨y4,hy4,h⟩:=zaD h
 have hy4':=(zaG hy4).2.2
 refine zaa (fun _=>zaH (kk:= .i64) (f:=zal) (by simp) (by simp) hy4 (by simp)) ?_
 obtain⟨q5,h⟩:=zfa h
 refine zaa (fun _=>zde (show _=AV.str ((((a0.fName++([46]:List UInt8))++a1.fName)++([47]:List UInt8)))from by simp) (show _=AV.str (y4)from by simp [hy4']) (by simpa using q5)) ?_
 refine zaa (by simp [hy4']) ?_
 obtain⟨q6,h⟩:=zfa h
 refine zaa (fun _=>zde (show _=AV.str (((((a0.fName++([46]:List UInt8))++a1.fName)++([47]:List UInt8))++y4))from by simp [hy4']) (show _=AV.str (([47]:List UInt8))from by simp) (by simpa using q6)) ?_
 refine zaa (by simp [hy4']) ?_
 obtain⟨y7,hy7,h⟩:=zaD h
 have hy7':=(zaG hy7).2.2
 try simp at hy7'
 refine zaa (fun _=>zaH (kk:= .i64) (f:=zal) (by simp) (by simp) hy7 (by simp)) ?_
 obtain⟨q8,h⟩:=zfa h
 refine zaa (fun _=>zde (show _=AV.str ((((((a0.fName++([46]:List UInt8))++a1.fName)++([47]:List UInt8))++y4)++([47]:List UInt8)))from by simp [hy4',hy7']) (show _=AV.str (y7)from by simp [hy4',hy7']) (by simpa using q8)) ?_
 refine zaa (by simp [hy4',hy7']) ?_
 exact zad (av:=zal) h (by simp [hy4',hy7'])
def zi7:Tr:= .chk [] (.agg (.var 0) 3)<| .call [] (.inl 100) (.cons (.mk (.cons (.fld (.var 0) 0 1 false) (.cons (.fld (.var 0) 1 1 false) (.cons (.fld (.var 0) 2 1 false) .nil)))) (.cons (.var 2) .nil))<| .chk [] (.dfd (.len (.var 3)))<| .loop (.cons (.lst .nil) (.cons (.int .i64 (0)) .nil)) ( .chk [] (.dfd (.bin .lss (.var 5) (.len (.var 3))))<| .ite (.bin .lss (.var 5) (.len (.var 3))) ( .chk [] (.inb (.var 5) (.var 3) 1)<| .chk [] (.agg (.fld (.idx (.var 3) (.var 5)) 0 1 true) 1)<| .call [] (.inl 45) (.cons (.mk (.cons (.fld (.var 0) 0 1 false) (.cons (.fld (.var 0) 1 1 false) (.cons (.fld (.var 0) 2 1 false) .nil)))) (.cons (.var 1) .nil))<| .chk [] (.inb (.var 6) (.fld (.var 0) 2 1 false) 3)<| .call [] (.inl 101) (.cons (.mk (.cons (.fld (.var 0) 0 1 false) (.cons (.fld (.var 0) 1 1 false) (.cons (.fld (.var 0) 2 1 false) .nil)))) (.cons (.fld (.idx (.fld (.var 0) 2 1 false) (.var 6)) 0 3 true) (.cons (.mk (.cons (.fld (.fld (.idx (.var 3) (.var 5)) 0 1 true) 0 1 false) .nil)) .nil)))<| .chk [] (.flat (.var 7) 1 false)<| .chk [] (.room (.var 4) (.lst (.cons (.var 7) .nil)) 16)<| .chk [] (.flatS (.lst (.cons (.var 7) .nil)) 1)<| .chk [] (.dfd (.bin .add (.var 5) (.int .i64 (1))))<| .jmp 0 (.cons (.app (.var 4) (.lst (.cons (.var 7) .nil))) (.cons (.bin .add (.var 5) (.int .i64 (1))) .nil))) ( .jmp 1 (.cons (.var 4) .nil))) ( .ret (.var 4))
theorem zor:zbj Tryz.prog sgs 74=some zi7:=by kernel_rfl
theorem zjb (a0:zab) (a1:List UInt8) (a2:List zag) (r:List (List UInt8)) (h:zdh a0 a1 a2=some r):Rts Tryz.prog sgs 74 [zae a0, .str a1, .sl (a2.map zar)] (.sl (r.map zal)):=by
 refine zah zor (by kernel_rfl) ?_
 unfold Den zi7
 unfold zdh at h
 refine zaa (by simp) ?_
 refine zac zu8 h (fun x hx=>by simpa using zqw a0 a2 x hx) (fun v1 cv1 h=> ?_)
 refine zaa (by simp) ?_
 refine zbB (fun s:List (List UInt8) × Int=> [.sl (s.1.map zal), .int .i64 s.2]) h (by simp) (fun W1 A1 s o1 h hn1 hf1 hk1=> ?_)
 obtain⟨v2,v3⟩:=s
 replace h:zbr a0 a1 v1 v2 v3=some o1:=h
 unfold zbr at h
 refine zaa (by simp) ?_
 refine zam h (by simp) (fun e4 h=> ?_) (fun e4 h=> ?_)
 ·obtain⟨y5,hy5,h⟩:=zaD h
  have hy5':=(zaG hy5).2.2
  refine zaa (fun _=>zaH (kk:= .i64) (f:=zgh) (by simp) (by simp) hy5 (by simp)) ?_
  refine zaa (by simp [e4,hy5']) ?_
  refine zac zaw h (fun x hx=>by simpa using zdm a0 a1 x hx) (fun v6 cv6 h=> ?_)
  obtain⟨y7,hy7,h⟩:=zaD h
  have hy7':=(zaG hy7).2.2
  refine zaa (fun _=>zaH (kk:= .i64) (f:=zbW) (by simp) (by simp) hy7 (by simp)) ?_
  refine zac zal h (fun x hx=>by simpa [e4,hy5',hy7']using zqc a0 y7 y5 x hx) (fun v8 cv8 h=> ?_)
  refine zaa (by simp) ?_
  obtain⟨q9,h⟩:=zfa h
  refine zaa (fun _=>zfU (show _=AV.sl (List.map zal v2)from by simp) (show _=AV.sl (List.map zal ([v8]:List (List UInt8)))from by simp) (by simpa using q9)) ?_
  refine zaa (fun _=>zfY zal (show _=AV.sl (List.map zal ([v8]:List (List UInt8)))from by simp) (by simp)) ?_
  refine zaa (by simp) ?_
  exact za4 (K:=fun s=>some (Sum.inl s)) (s:=((v2++ [v8]),(IntKind.i64.wrap (v3+1)))) hn1 h rfl (by simp)
 ·refine zaN hk1 rfl (vs:= [.sl (v2.map zal)]) (by simp) ?_
  replace h:=(hf1 _ h)
  exact zad (av:=zbK) h (by simp)
def zlu:Tr:= .chk [] (.dfd (.len (.var 0)))<| .loop (.cons (.lst .nil) (.cons (.int .i64 (0)) .nil)) ( .chk [] (.dfd (.bin .lss (.var 3) (.len (.var 0))))<| .ite (.bin .lss (.var 3) (.len (.var 0))) ( .join ( .chk [] (.inb (.var 3) (.var 0) 1)<| .call [] (.inl 96) (.cons (.var 1) (.cons (.fld (.idx (.var 0) (.var 3)) 0 1 false) .nil))<| .chk [] (.dfd (.bin .lss (.var 4) (.int .i64 (0))))<| .ite (.bin .lss (.var 4) (.int .i64 (0))) ( .chk [] (.flat (.fld (.idx (.var 0) (.var 3)) 0 1 false) 1 false)<| .chk [] (.room (.var 2) (.lst (.cons (.fld (.idx (.var 0) (.var 3)) 0 1 false) .nil)) 16)<| .chk [] (.flatS (.lst (.cons (.fld (.idx (.var 0) (.var 3)) 0 1 false) .nil)) 1)<| .jmp 0 (.cons (.app (.var 2) (.lst (.cons (.fld (.idx (.var 0) (.var 3)) 0 1 false) .nil))) .nil)) ( .jmp 0 (.cons (.var 2) .nil))) ( .chk [] (.dfd (.bin .add (.var 3) (.int .i64 (1))))<| .jmp 0 (.cons (.var 4) (.cons (.bin .add (.var 3) (.int .i64 (1))) .nil)))) ( .jmp 1 (.cons (.var 2) .nil))) ( .ret (.var 2))
theorem zqX:zbj Tryz.prog sgs 73=some zlu:=by kernel_rfl
theorem zkV (a0:List (List UInt8)) (a1:List (List UInt8)) (r:List (List UInt8)) (h:zfg a0 a1=some r):Rts Tryz.prog sgs 73 [.sl (a0.map zal), .sl (a1.map zal)] (.sl (r.map zal)):=by
 refine zah zqX (by kernel_rfl) ?_
 unfold Den zlu
 unfold zfg at h
 refine zaa (by simp) ?_
 refine zbB (fun s:List (List UInt8) × Int=> [.sl (s.1.map zal), .int .i64 s.2]) h (by simp) (fun W1 A1 s o1 h hn1 hf1 hk1=> ?_)
 obtain⟨v1,v2⟩:=s
 replace h:zbY a0 a1 v1 v2=some o1:=h
 unfold zbY at h
 refine zaa (by simp) ?_
 refine zam h (by simp) (fun e3 h=> ?_) (fun e3 h=> ?_)
 ·refine zic fun j4 hj4=> ?_
  obtain⟨y5,hy5,h⟩:=zaD h
  have hy5':=(zaG hy5).2.2
  refine zaa (fun _=>zaH (kk:= .i64) (f:=zal) (by simp) (by simp) hy5 (by simp)) ?_
  refine zac zaw h (fun x hx=>by simpa [e3,hy5']using znN a1 y5 x hx) (fun v6 cv6 h=> ?_)
  refine zaa (by simp) ?_
  refine zam h (by simp) (fun e7 h=> ?_) (fun e7 h=> ?_)
  ·refine zaa (by simp [e3,hy5',e7]) ?_
   obtain⟨q8,h⟩:=zfa h
   refine zaa (fun _=>zfU (show _=AV.sl (List.map zal v1)from by simp) (show _=AV.sl (List.map zal ([y5]:List (List UInt8)))from by simp [e3,hy5',e7]) (by simpa using q8)) ?_
   refine zaa (fun _=>zfY zal (show _=AV.sl (List.map zal ([y5]:List (List UInt8)))from by simp [e3,hy5',e7]) (by simp)) ?_
   refine zaN hj4 rfl (vs:= [.sl ((v1++ [y5]).map zal)]) (by simp [e3,hy5',e7]) ?_
   refine zaa (by simp) ?_
   exact za4 (K:=fun s=>some (Sum.inl s)) (s:=((v1++ [y5]),(IntKind.i64.wrap (v2+1)))) hn1 h rfl (by simp)
  ·refine zaN hj4 rfl (vs:= [.sl (v1.map zal)]) (by simp) ?_
   refine zaa (by simp) ?_
   exact za4 (K:=fun s=>some (Sum.inl s)) (s:=(v1,(IntKind.i64.wrap (v2+1)))) hn1 h rfl (by simp)
 ·refine zaN hk1 rfl (vs:= [.sl (v1.map zal)]) (by simp) ?_
  replace h:=(hf1 _ h)
  exact zad (av:=zbK) h (by simp)
def zjc:Tr:= .chk [] (.agg (.var 0) 3)<| .call [] (.inl 21) (.cons (.mk (.cons (.fld (.var 0) 0 1 false) (.cons (.fld (.var 0) 1 1 false) (.cons (.fld (.var 0) 2 1 false) .nil)))) (.cons (.var 1) (.cons (.var 2) .nil)))<| .chk [] (.dfd (.not (.var 3)))<| .ite (.not (.var 3)) ( .ret (.tup (.cons (.lst .nil) (.cons (.bool false) .nil)))) ( .call [] (.inl 47) (.cons (.mk (.cons (.fld (.var 0) 0 1 false) (.cons (.fld (.var 0) 1 1 false) (.cons (.fld (.var 0) 2 1 false) .nil)))) (.cons (.var 1) (.cons (.var 2) .nil)))<| .call [] (.inl 74) (.cons (.mk (.cons (.fld (.var 0) 0 1 false) (.cons (.fld (.var 0) 1 1 false) (.cons (.fld (.var 0) 2 1 false) .nil)))) (.cons (.var 1) (.cons (.var 2) .nil)))<| .call [] (.inl 73) (.cons (.var 4) (.cons (.var 5) .nil))<| .ret (.tup (.cons (.var 6) (.cons (.bool true) .nil))))
theorem zof:zbj Tryz.prog sgs 48=some zjc:=by kernel_rfl
theorem zog (a0:zab) (a1:List UInt8) (a2:List zag) (r:List (List UInt8) × Bool) (h:zfu a0 a1 a2=some r):Rts Tryz.prog sgs 48 [zae a0, .str a1, .sl (a2.map zar)] (zfH r):=by
 refine zah zof (by kernel_rfl) ?_
 unfold Den zjc
 unfold zfu at h
 refine zaa (by simp) ?_
 refine zac avB h (fun x hx=>by simpa using zhP a0 a1 a2 x hx) (fun v1 cv1 h=> ?_)
 refine zaa (by simp) ?_
 refine zam h (by simp) (fun e2 h=> ?_) (fun e2 h=> ?_)
 ·exact zad (av:=zfH) h (by simp)
 ·refine zac zbK h (fun x hx=>by simpa using zgx a0 a1 a2 x hx) (fun v3 cv3 h=> ?_)
  refine zac zbK h (fun x hx=>by simpa using zjb a0 a1 a2 x hx) (fun v4 cv4 h=> ?_)
  refine zac zbK h (fun x hx=>by simpa using zkV v3 v4 x hx) (fun v5 cv5 h=> ?_)
  exact zad (av:=zfH) h (by simp)
def zk4:Tr:= .chk [] (.agg (.var 0) 3)<| .call [] (.inl 21) (.cons (.mk (.cons (.fld (.var 0) 0 1 false) (.cons (.fld (.var 0) 1 1 false) (.cons (.fld (.var 0) 2 1 false) .nil)))) (.cons (.var 1) (.cons (.var 2) .nil)))<| .chk [] (.dfd (.not (.var 3)))<| .ite (.not (.var 3)) ( .ret (.tup (.cons (.lst .nil) (.cons (.bool false) .nil)))) ( .call [] (.inl 74) (.cons (.mk (.cons (.fld (.var 0) 0 1 false) (.cons (.fld (.var 0) 1 1 false) (.cons (.fld (.var 0) 2 1 false) .nil)))) (.cons (.var 1) (.cons (.var 2) .nil)))<| .call [] (.inl 47) (.cons (.mk (.cons (.fld (.var 0) 0 1 false) (.cons (.fld (.var 0) 1 1 false) (.cons (.fld (.var 0) 2 1 false) .nil)))) (.cons (.var 1) (.cons (.var 2) .nil)))<| .call [] (.inl 73) (.cons (.var 4) (.cons (.var 5) .nil))<| .ret (.tup (.cons (.var 6) (.cons (.bool true) .nil))))
theorem zqx:zbj Tryz.prog sgs 49=some zk4:=by kernel_rfl
theorem zqD (a0:zab) (a1:List UInt8) (a2:List zag) (r:List (List UInt8) × Bool) (h:zgR a0 a1 a2=some r):Rts Tryz.prog sgs 49 [zae a0, .str a1, .sl (a2.map zar)] (zfH r):=by
 refine zah zqx (by kernel_rfl) ?_
 unfold Den zk4
 unfold zgR at h
 refine zaa (by simp) ?_
 refine zac avB h (fun x hx=>by simpa using zhP a0 a1 a2 x hx) (fun v1 cv1 h=> ?_)
 refine zaa (by simp) ?_
 refine zam h (by simp) (fun e2 h=> ?_) (fun e2 h=> ?_)
 ·exact zad (av:=zfH) h (by simp)
 ·refine zac zbK h (fun x hx=>by simpa using zjb a0 a1 a2 x hx) (fun v3 cv3 h=> ?_)
  refine zac zbK h (fun x hx=>by simpa using zgx a0 a1 a2 x hx) (fun v4 cv4 h=> ?_)
  refine zac zbK h (fun x hx=>by simpa using zkV v3 v4 x hx) (fun v5 cv5 h=> ?_)
  exact zad (av:=zfH) h (by simp)
def zjR:Tr:= .chk [] (.agg (.var 0) 3)<| .chk [] (.dfd (.bin .eql (.var 2) (.int .i64 (0))))<| .ite (.bin .eql (.var 2) (.int .i64 (0))) ( .call [] (.inl 47) (.cons (.mk (.cons (.fld (.var 0) 0 1 false) (.cons (.fld (.var 0) 1 1 false) (.cons (.fld (.var 0) 2 1 false) .nil)))) (.cons (.var 1) (.cons (.var 3) .nil)))<| .chk [] (.dfd (.len (.var 4)))<| .ret (.bin .eql (.len (.var 4)) (.int .i64 (0)))) ( .call [] (.inl 48) (.cons (.mk (.cons (.fld (.var 0) 0 1 false) (.cons (.fld (.var 0) 1 1 false) (.cons (.fld (.var 0) 2 1 false) .nil)))) (.cons (.var 1) (.cons (.var 3) .nil)))<| .call [] (.inl 49) (.cons (.mk (.cons (.fld (.var 0) 0 1 false) (.cons (.fld (.var 0) 1 1 false) (.cons (.fld (.var 0) 2 1 false) .nil)))) (.cons (.var 1) (.cons (.var 3) .nil)))<| .chk [] (.dfd (.len (.proj (.var 4) 0)))<| .chk [((.bin .eql (.len (.proj (.var 4) 0)) (.int .i64 (0))),true)] (.dfd (.bin .eql (.var 2) (.int .i64 (1))))<| .chk [((.bin .eql (.var 2) (.int .i64 (1))),false),((.bin .eql (.len (.proj (.var 4) 0)) (.int .i64 (0))),true)] (.dfd (.len (.proj (.var 5) 0)))<| .chk [((.bin .eql (.len (.proj (.var 4) 0)) (.int .i64 (0))),true)] (.dfd (.not (.bin .eql (.var 2) (.int .i64 (1)))))<| .chk [] (.dfd (.not (.bin .eql (.len (.proj (.var 4) 0)) (.int .i64 (0)))))<| .ret (.ite (.bin .eql (.len (.proj (.var 4) 0)) (.int .i64 (0))) (.ite (.bin .eql (.var 2) (.int .i64 (1))) (.bool true) (.bin .eql (.len (.proj (.var 5) 0)) (.int .i64 (0)))) (.bool false)))
theorem zpu:zbj Tryz.prog sgs 23=some zjR:=by kernel_rfl
theorem zjJ (a0:zab) (a1:List UInt8) (a2:Int) (a3:List zag) (r:Bool) (h:zd3 a0 a1 a2 a3=some r):Rts Tryz.prog sgs 23 [zae a0, .str a1, .int .i64 a2, .sl (a3.map zar)] (.bool r):=by
 refine zah zpu (by kernel_rfl) ?_
 unfold Den zjR
 unfold zd3 at h
 refine zaa (by simp) ?_
 refine zaa (by simp) ?_
 refine zam h (by simp) (fun e1 h=> ?_) (fun e1 h=> ?_)
 ·refine zac zbK h (fun x hx=>by simpa using zgx a0 a1 a3 x hx) (fun v2 cv2 h=> ?_)
  refine zaa (by simp) ?_
  exact zad (av:=avB) h (by simp)
 ·refine zac zfH h (fun x hx=>by simpa using zog a0 a1 a3 x hx) (fun v3 cv3 h=> ?_)
  refine zac zfH h (fun x hx=>by simpa using zqD a0 a1 a3 x hx) (fun v4 cv4 h=> ?_)
  refine zaa (by simp) ?_
  refine zaa (by simp) ?_
  refine zaa (by simp) ?_
  refine zaa (by simp) ?_
  refine zaa (by simp) ?_
  exact zad (av:=avB) h (by simp [e1])
def zk7:Tr:= .chk [] (.agg (.var 0) 4)<| .chk [] (.inb (.int .i64 (0)) (.fld (.var 0) 1 1 false) 3)<| .call [] (.inl 59) (.cons (.mk (.cons (.fld (.var 0) 0 1 false) (.cons (.fld (.var 0) 1 1 false) (.cons (.fld (.var 0) 2 1 false) (.cons (.fld (.var 0) 3 1 false) .nil))))) .nil)<| .call [] (.inl 23) (.cons (.fld (.idx (.fld (.var 0) 1 1 false) (.int .i64 (0))) 0 3 true) (.cons (.fld (.var 0) 0 1 false) (.cons (.var 1) (.cons (.fld (.var 0) 3 1 false) .nil))))<| .ret (.var 2)
theorem zqr:zbj Tryz.prog sgs 36=some zk7:=by kernel_rfl
theorem zqy (a0:zaB) (r:Bool) (h:zgO a0=some r):Rts Tryz.prog sgs 36 [zcS a0] (.bool r):=by
 refine zah zqr (by kernel_rfl) ?_
 unfold Den zk7
 unfold zgO at h
 refine zaa (by simp) ?_
 obtain⟨y1,hy1,h⟩:=zaD h
 have hy1':=(zaG hy1).2.2
 try simp at hy1'
 refine zaa (fun _=>zaH (kk:= .i64) (f:=zae) (by simp) (by simp) hy1 (by simp)) ?_
 refine zac zaw h (fun x hx=>by simpa using zq2 a0 x hx) (fun v2 cv2 h=> ?_)
 refine zac avB h (fun x hx=>by simpa [hy1']using zjJ y1 a0.fName v2 a0.fStore x hx) (fun v3 cv3 h=> ?_)
 exact zad (av:=avB) h (by simp)
def zmM:Tr:= .chk [] (.agg (.var 0) 4)<| .call [] (.inl 35) (.cons (.mk (.cons (.fld (.var 0) 0 1 false) (.cons (.fld (.var 0) 1 1 false) (.cons (.fld (.var 0) 2 1 false) (.cons (.fld (.var 0) 3 1 false) .nil))))) .nil)<| .chk [] (.dfd (.not (.var 1)))<| .ite (.not (.var 1)) ( .ret (.tup (.cons (.bool false) (.cons (.bool false) .nil)))) ( .call [] (.inl 36) (.cons (.mk (.cons (.fld (.var 0) 0 1 false) (.cons (.fld (.var 0) 1 1 false) (.cons (.fld (.var 0) 2 1 false) (.cons (.fld (.var 0) 3 1 false) .nil))))) .nil)<| .ret (.tup (.cons (.var 2) (.cons (.bool true) .nil))))
theorem zrH:zbj Tryz.prog sgs 14=some zmM:=by kernel_rfl
theorem zsC (a0:zaB) (r:Bool × Bool) (h:zfV a0=some r):Rts Tryz.prog sgs 14 [zcS a0] (zeB r):=by
 refine zah zrH (by kernel_rfl) ?_
 unfold Den zmM
 unfold zfV at h
 refine zaa (by simp) ?_
 refine zac avB h (fun x hx=>by simpa using zot a0 x hx) (fun v1 cv1 h=> ?_)
 refine zaa (by simp) ?_
 refine zam h (by simp) (fun e2 h=> ?_) (fun e2 h=> ?_)
 ·exact zad (av:=zeB) h (by simp)
 ·refine zac avB h (fun x hx=>by simpa using zqy a0 x hx) (fun v3 cv3 h=> ?_)
  exact zad (av:=zeB) h (by simp)
def zmi:Tr:= .chk [] (.dfd (.bin .geq (.var 0) (.var 1)))<| .chk [((.bin .geq (.var 0) (.var 1)),true)] (.dfd (.bin .leq (.var 0) (.var 2)))<| .chk [] (.dfd (.not (.bin .geq (.var 0) (.var 1))))<| .ret (.ite (.bin .geq (.var 0) (.var 1)) (.bin .leq (.var 0) (.var 2)) (.bool false))
theorem zsU:zbj Tryz.prog sgs 28=some zmi:=by kernel_rfl
theorem zct (a0:Int) (a1:Int) (a2:Int) (r:Bool) (h:zby a0 a1 a2=some r):Rts Tryz.prog sgs 28 [.int .i64 a0, .int .i64 a1, .int .i64 a2] (.bool r):=by
 refine zah zsU (by kernel_rfl) ?_
 unfold Den zmi
 unfold zby at h
 refine zaa (by simp) ?_
 refine zaa (by simp) ?_
 refine zaa (by simp) ?_
 exact zad (av:=avB) h (by simp)
def ziZ:Tr:= .chk [] (.dfd (.len (.var 0)))<| .loop (.cons (.int .i64 (0)) (.cons (.lst .nil) .nil)) ( .chk [] (.dfd (.bin .lss (.var 1) (.len (.var 0))))<| .ite (.bin .lss (.var 1) (.len (.var 0))) ( .chk [] (.inb (.var 1) (.var 0) 3)<| .chk [] (.agg (.fld (.idx (.var 0) (.var 1)) 0 3 true) 3)<| .chk [] (.flat (.fld (.fld (.idx (.var 0) (.var 1)) 0 3 true) 0 1 false) 1 false)<| .chk [] (.room (.var 2) (.lst (.cons (.fld (.fld (.idx (.var 0) (.var 1)) 0 3 true) 0 1 false) .nil)) 16)<| .chk [] (.flatS (.lst (.cons (.fld (.fld (.idx (.var 0) (.var 1)) 0 3 true) 0 1 false) .nil)) 1)<| .chk [] (.dfd (.bin .add (.var 1) (.int .i64 (1))))<| .jmp 0 (.cons (.bin .add (.var 1) (.int .i64 (1))) (.cons (.app (.var 2) (.lst (.cons (.fld (.fld (.idx (.var 0) (.var 1)) 0 3 true) 0 1 false) .nil))) .nil))) ( .jmp 1 (.cons (.var 2) .nil))) ( .ret (.var 1))
theorem zok:zbj Tryz.prog sgs 108=some ziZ:=by kernel_rfl
theorem zoC (a0:List zag) (r:List (List UInt8)) (h:zev a0=some r):Rts Tryz.prog sgs 108 [.sl (a0.map zar)] (.sl (r.map zal)):=by
 refine zah zok (by kernel_rfl) ?_
 unfold Den ziZ
 unfold zev at h
 refine zaa (by simp) ?_
 refine zbB (fun s:Int × List (List UInt8)=> [.int .i64 s.1, .sl (s.2.map zal)]) h (by simp) (fun W1 A1 s o1 h hn1 hf1 hk1=> ?_)
 obtain⟨v1,v2⟩:=s
 replace h:zbu a0 v1 v2=some o1:=h
 unfold zbu at h
 refine zaa (by simp) ?_
 refine zam h (by simp) (fun e3 h=> ?_) (fun e3 h=> ?_)
 ·obtain⟨y4,hy4,h⟩:=zaD h
  have hy4':=(zaG hy4).2.2
  refine zaa (fun _=>zaH (kk:= .i64) (f:=zar) (by simp) (by simp) hy4 (by simp)) ?_
  refine zaa (by simp [e3,hy4']) ?_
  refine zaa (by simp [e3,hy4']) ?_
  obtain⟨q5,h⟩:=zfa h
  refine zaa (fun _=>zfU (show _=AV.sl (List.map zal v2)from by simp) (show _=AV.sl (List.map zal ([y4.fKey]:List (List UInt8)))from by simp [e3,hy4']) (by simpa using q5)) ?_
  refine zaa (fun _=>zfY zal (show _=AV.sl (List.map zal ([y4.fKey]:List (List UInt8)))from by simp [e3,hy4']) (by simp)) ?_
  refine zaa (by simp) ?_
  exact za4 (K:=fun s=>some (Sum.inl s)) (s:=((IntKind.i64.wrap (v1+1)),(v2++ [y4.fKey]))) hn1 h rfl (by simp [e3,hy4'])
 ·refine zaN hk1 rfl (vs:= [.sl (v2.map zal)]) (by simp) ?_
  replace h:=(hf1 _ h)
  exact zad (av:=zbK) h (by simp)
def zg5:Tr:= .chk [] (.dfd (.bin .geq (.var 0) (.int .u8 (97))))<| .chk [((.bin .geq (.var 0) (.int .u8 (97))),true)] (.dfd (.bin .leq (.var 0) (.int .u8 (122))))<| .chk [] (.dfd (.not (.bin .geq (.var 0) (.int .u8 (97)))))<| .chk [((.ite (.bin .geq (.var 0) (.int .u8 (97))) (.bin .leq (.var 0) (.int .u8 (122))) (.bool false)),false)] (.dfd (.bin .geq (.var 0) (.int .u8 (48))))<| .chk [((.bin .geq (.var 0) (.int .u8 (48))),true),((.ite (.bin .geq (.var 0) (.int .u8 (97))) (.bin .leq (.var 0) (.int .u8 (122))) (.bool false)),false)] (.dfd (.bin .leq (.var 0) (.int .u8 (57))))<| .chk [((.ite (.bin .geq (.var 0) (.int .u8 (97))) (.bin .leq (.var 0) (.int .u8 (122))) (.bool false)),false)] (.dfd (.not (.bin .geq (.var 0) (.int .u8 (48)))))<| .chk [] (.dfd (.not (.ite (.bin .geq (.var 0) (.int .u8 (97))) (.bin .leq (.var 0) (.int .u8 (122))) (.bool false))))<| .ret (.ite (.ite (.bin .geq (.var 0) (.int .u8 (97))) (.bin .leq (.var 0) (.int .u8 (122))) (.bool false)) (.bool true) (.ite (.bin .geq (.var 0) (.int .u8 (48))) (.bin .leq (.var 0) (.int .u8 (57))) (.bool false)))
theorem zjC:zbj Tryz.prog sgs 141=some zg5:=by kernel_rfl
theorem zjU (a0:Int) (r:Bool) (h:zdq a0=some r):Rts Tryz.prog sgs 141 [.int .u8 a0] (.bool r):=by
 refine zah zjC (by kernel_rfl) ?_
 unfold Den zg5
 unfold zdq at h
 refine zaa (by simp) ?_
 refine zaa (by simp) ?_
 refine zaa (by simp) ?_
 refine zaa (by simp) ?_
 refine zaa (by simp) ?_
 refine zaa (by simp) ?_
 refine zaa (by simp) ?_
 exact zad (av:=avB) h (by simp)
def zhF:Tr:= .call [] (.inl 147) (.cons (.var 0) (.cons (.var 1) .nil))<| .ret (.var 2)
theorem zl2:zbj Tryz.prog sgs 142=some zhF:=by kernel_rfl
theorem zlK (a0:List UInt8) (a1:Int) (r:Int) (h:zea a0 a1=some r):Rts Tryz.prog sgs 142 [.str a0, .int .u8 a1] (.int .i64 r):=by
 refine zah zl2 (by kernel_rfl) ?_
 unfold Den zhF
 unfold zea at h
 refine zac zaw h (fun x hx=>by simpa using zgb a0 a1 x hx) (fun v1 cv1 h=> ?_)
 exact zad (av:=zaw) h (by simp)
def zjM:Tr:= .chk [] (.dfd (.slen (.var 0)))<| .loop (.cons (.int .i64 (0)) .nil) ( .chk [] (.dfd (.bin .lss (.var 2) (.slen (.var 0))))<| .ite (.bin .lss (.var 2) (.slen (.var 0))) ( .chk [] (.inbS (.var 2) (.var 0))<| .call [] (.inl 141) (.cons (.sidx (.var 0) (.var 2)) .nil)<| .chk [] (.dfd (.not (.var 3)))<| .chk [((.not (.var 3)),true)] (.inbS (.var 2) (.var 0))<| .call [((.not (.var 3)),true)] (.inl 142) (.cons (.var 1) (.cons (.sidx (.var 0) (.var 2)) .nil))<| .chk [((.not (.var 3)),true)] (.dfd (.bin .lss (.var 4) (.int .i64 (0))))<| .chk [] (.dfd (.not (.not (.var 3))))<| .ite (.ite (.not (.var 3)) (.bin .lss (.var 4) (.int .i64 (0))) (.bool false)) ( .ret (.bool false)) ( .chk [] (.dfd (.bin .add (.var 2) (.int .i64 (1))))<| .jmp 0 (.cons (.bin .add (.var 2) (.int .i64 (1))) .nil))) ( .jmp 1 .nil)) ( .ret (.bool true))
theorem zpz:zbj Tryz.prog sgs 134=some zjM:=by kernel_rfl
theorem zhD (a0:List UInt8) (a1:List UInt8) (r:Bool) (h:zc5 a0 a1=some r):Rts Tryz.prog sgs 134 [.str a0, .str a1] (.bool r):=by
 refine zah zpz (by kernel_rfl) ?_
 unfold Den zjM
 unfold zc5 at h
 refine zaa (by simp) ?_
 refine zbB (fun s:Int=> [.int .i64 s]) h (by simp) (fun W1 A1 v1 o1 h hn1 hf1 hk1=> ?_)
 replace h:zdl a0 a1 v1=some o1:=h
 unfold zdl at h
 refine zaa (by simp) ?_
 refine zam h (by simp) (fun e2 h=> ?_) (fun e2 h=> ?_)
 ·obtain⟨y3,hy3,h⟩:=zaD h
  have hy3':=(zaG hy3).2.2
  refine zaa (fun _=>ziF (kk:= .i64) (by simp) (by simp) hy3) ?_
  refine zac avB h (fun x hx=>by simpa [e2,hy3']using zjU (y3.toNat:Int) x hx) (fun v4 cv4 h=> ?_)
  refine zaa (by simp) ?_
  refine zaa (fun _=>ziF (kk:= .i64) (by simp) (by simp) hy3) ?_
  refine zav h (fun e5 h=> ?_) (fun e5 h=> ?_)
  ·refine zaJ (by simp [e2,hy3',e5]) ?_
   refine zaa (by simp [e2,hy3',e5]) ?_
   refine zaa (by simp) ?_
   refine zAN (by simp [e2,hy3',e5]) ?_
   refine zaa (by simp) ?_
   exact za4 (K:=fun s=>some (Sum.inl s)) (s:=(IntKind.i64.wrap (v1+1))) hn1 h rfl (by simp)
  ·refine zac zaw h (fun x hx=>by simpa [e2,hy3',e5]using zlK a1 (y3.toNat:Int) x hx) (fun v6 cv6 h=> ?_)
   refine zaa (by simp) ?_
   refine zaa (by simp) ?_
   refine zam h (by simp [e2,hy3',e5]) (fun e7 h=> ?_) (fun e7 h=> ?_)
   ·exact zad (av:=avB) (hf1 _ h) (by simp)
   ·refine zaa (by simp) ?_
    exact za4 (K:=fun s=>some (Sum.inl s)) (s:=(IntKind.i64.wrap (v1+1))) hn1 h rfl (by simp)
 ·refine zaN hk1 rfl (vs:= []) (by simp) ?_
  replace h:=(hf1 _ h)
  exact zad (av:=avB) h (by simp)
def zla:Tr:= .chk [] (.dfd (.slen (.var 0)))<| .call [] (.inl 28) (.cons (.slen (.var 0)) (.cons (.int .i64 (1)) (.cons (.int .i64 (12)) .nil)))<| .call [((.var 1),true)] (.inl 134) (.cons (.var 0) (.cons (.str (ByteArray.mk #[46,47])) .nil))<| .chk [] (.dfd (.not (.var 1)))<| .ret (.ite (.var 1) (.var 2) (.bool false))
theorem zqR:zbj Tryz.prog sgs 130=some zla:=by kernel_rfl
theorem zqF (a0:List UInt8) (r:Bool) (h:zfs a0=some r):Rts Tryz.prog sgs 130 [.str a0] (.bool r):=by
 refine zah zqR (by kernel_rfl) ?_
 unfold Den zla
 unfold zfs at h
 refine zaa (by simp) ?_
 refine zac avB h (fun x hx=>by simpa using zct (a0.length:Int) 1 12 x hx) (fun v1 cv1 h=> ?_)
 refine zav h (fun e2 h=> ?_) (fun e2 h=> ?_)
 ·refine zac avB h (fun x hx=>by simpa using zhD a0 ([46,47]:List UInt8) x hx) (fun v3 cv3 h=> ?_)
  refine zaa (by simp) ?_
  exact zad (av:=avB) h (by simp [e2])
 ·refine zaJ (by simp [e2]) ?_
  refine zaa (by simp) ?_
  exact zad (av:=avB) h (by simp [e2])
def zi5:Tr:= .chk [] (.dfd (.len (.var 0)))<| .loop (.cons (.int .i64 (0)) .nil) ( .chk [] (.dfd (.bin .lss (.var 1) (.len (.var 0))))<| .ite (.bin .lss (.var 1) (.len (.var 0))) ( .chk [] (.inb (.var 1) (.var 0) 1)<| .call [] (.inl 130) (.cons (.fld (.idx (.var 0) (.var 1)) 0 1 false) .nil)<| .chk [] (.dfd (.not (.var 2)))<| .chk [((.not (.var 2)),false)] (.dfd (.bin .gtr (.var 1) (.int .i64 (0))))<| .chk [((.bin .gtr (.var 1) (.int .i64 (0))),true),((.not (.var 2)),false)] (.dfd (.bin .sub (.var 1) (.int .i64 (1))))<| .chk [((.bin .gtr (.var 1) (.int .i64 (0))),true),((.not (.var 2)),false)] (.inb (.bin .sub (.var 1) (.int .i64 (1))) (.var 0) 1)<| .chk [((.bin .gtr (.var 1) (.int .i64 (0))),true),((.not (.var 2)),false)] (.dfd (.sbin .leq (.fld (.idx (.var 0) (.var 1)) 0 1 false) (.fld (.idx (.var 0) (.bin .sub (.var 1) (.int .i64 (1)))) 0 1 false)))<| .chk [((.not (.var 2)),false)] (.dfd (.not (.bin .gtr (.var 1) (.int .i64 (0)))))<| .chk [] (.dfd (.not (.not (.var 2))))<| .ite (.ite (.not (.var 2)) (.bool true) (.ite (.bin .gtr (.var 1) (.int .i64 (0))) (.sbin .leq (.fld (.idx (.var 0) (.var 1)) 0 1 false) (.fld (.idx (.var 0) (.bin .sub (.var 1) (.int .i64 (1)))) 0 1 false)) (.bool false))) ( .ret (.bool false)) ( .chk [] (.dfd (.bin .add (.var 1) (.int .i64 (1))))<| .jmp 0 (.cons (.bin .add (.var 1) (.int .i64 (1))) .nil))) ( .jmp 1 .nil)) ( .ret (.bool true))
theorem zoz:zbj Tryz.prog sgs 107=some zi5:=by kernel_rfl
theorem zoy (a0:List (List UInt8)) (r:Bool) (h:zet a0=some r):Rts Tryz.prog sgs 107 [.sl (a0.map zal)] (.bool r):=by
 refine zah zoz (by kernel_rfl) ?_
 unfold Den zi5
 unfold zet at h
 refine zaa (by simp) ?_
 refine zbB (fun s:Int=> [.int .i64 s]) h (by simp) (fun W1 A1 v1 o1 h hn1 hf1 hk1=> ?_)
 replace h:zc0 a0 v1=some o1:=h
 unfold zc0 at h
 refine zaa (by simp) ?_
 refine zam h (by simp) (fun e2 h=> ?_) (fun e2 h=> ?_)
 ·obtain⟨y3,hy3,h⟩:=zaD h
  have hy3':=(zaG hy3).2.2
  refine zaa (fun _=>zaH (kk:= .i64) (f:=zal) (by simp) (by simp) hy3 (by simp)) ?_
  refine zac avB h (fun x hx=>by simpa [e2,hy3']using zqF y3 x hx) (fun v4 cv4 h=> ?_)
  refine zaa (by simp) ?_
  refine zaa (by simp) ?_
  refine zaa (by simp) ?_
  refine zav h (fun e5 h=> ?_) (fun e5 h=> ?_)
  ·refine zav h (fun e6 h=> ?_) (fun e6 h=> ?_)
   ·obtain⟨y7,hy7,h⟩:=zaD h
    have hy7':=(zaG hy7).2.2
    try simp at hy7'
    refine zaa (fun _=>zaH (kk:= .i64) (f:=zal) (by simp) (by simp) hy7 (by simp)) ?_
    refine zaa (by simp [e2,hy3',e5,e6,hy7']) ?_
    refine zaa (by simp) ?_
    refine zaa (by simp) ?_
    refine zam h (by simp [e2,hy3',e5,e6,hy7']) (fun e8 h=> ?_) (fun e8 h=> ?_)
    ·exact zad (av:=avB) (hf1 _ h) (by simp)
    ·refine zaa (by simp) ?_
     exact za4 (K:=fun s=>some (Sum.inl s)) (s:=(IntKind.i64.wrap (v1+1))) hn1 h rfl (by simp)
   ·refine zaa (by simp [e2,hy3',e5,e6]) ?_
    refine zaa (by simp [e2,hy3',e5,e6]) ?_
    refine zaa (by simp [e2,hy3',e5,e6]) ?_
    refine zaa (by simp) ?_
    refine zdt (by simp [e2,hy3',e5,e6]) ?_
    exact zad (av:=avB) (hf1 _ h) (by simp)
  ·refine zaa (by simp [e2,hy3',e5]) ?_
   refine zaa (by simp [e2,hy3',e5]) ?_
   refine zaa (by simp) ?_
   refine zaa (by simp) ?_
   refine zam h (by simp [e2,hy3',e5]) (fun e9 h=> ?_) (fun e9 h=> ?_)
   ·exact zad (av:=avB) (hf1 _ h) (by simp)
   ·refine zaa (by simp) ?_
    exact za4 (K:=fun s=>some (Sum.inl s)) (s:=(IntKind.i64.wrap (v1+1))) hn1 h rfl (by simp)
 ·refine zaN hk1 rfl (vs:= []) (by simp) ?_
  replace h:=(hf1 _ h)
  exact zad (av:=avB) h (by simp)
def zd8:Tr:= .chk [] (.dfd (.len (.var 0)))<| .loop (.cons (.int .i64 (0)) .nil) ( .chk [] (.dfd (.bin .lss (.var 2) (.len (.var 0))))<| .ite (.bin .lss (.var 2) (.len (.var 0))) ( .chk [] (.inb (.var 2) (.var 0) 3)<| .call [] (.inr (.var 1)) (.cons (.fld (.idx (.var 0) (.var 2)) 0 3 true) .nil)<| .ite (.var 3) ( .ret (.var 2)) ( .chk [] (.dfd (.bin .add (.var 2) (.int .i64 (1))))<| .jmp 0 (.cons (.bin .add (.var 2) (.int .i64 (1))) .nil))) ( .jmp 1 .nil)) ( .ret (.int .i64 (-1)))
theorem zef:zbj Tryz.prog sgs 111=some zd8:=by kernel_rfl
theorem zek (xs:List zag) (p:zag→Option Bool) (g:Nat) (caps:List AV) (r:Int) (h:zbw xs p=some r) (hp: ∀x b,p x=some b→Rts Tryz.prog sgs (1000000+g) ((zar x)::caps) (.bool b)):Rts Tryz.prog sgs 111 [.sl (xs.map zar), .fn g caps] (.int .i64 r):=zah zef (by kernel_rfl) (zut (av:=zar) (cn:=3) (fun _=>⟨_,rfl,rfl⟩) h hp)
def zdJ:Tr:= .call [] (.inl 111) (.cons (.var 0) (.cons (.var 1) .nil))<| .chk [] (.dfd (.bin .geq (.var 2) (.int .i64 (0))))<| .ret (.bin .geq (.var 2) (.int .i64 (0)))
theorem zdG:zbj Tryz.prog sgs 78=some zdJ:=by kernel_rfl
theorem zbL (xs:List zag) (p:zag→Option Bool) (g:Nat) (caps:List AV) (r:Bool) (h:zaZ xs p=some r) (hp: ∀x b,p x=some b→Rts Tryz.prog sgs (1000000+g) ((zar x)::caps) (.bool b)):Rts Tryz.prog sgs 78 [.sl (xs.map zar), .fn g caps] (.bool r):=zah zdG (by kernel_rfl) (zrY h fun r hr=>zek xs p g caps r hr hp)
def zk5:Tr:= .chk [] (.dfd (.slen (.var 0)))<| .call [((.bin .leq (.slen (.var 0)) (.int .i64 (24))),true)] (.inl 134) (.cons (.var 0) (.cons (.str (ByteArray.mk #[46,45,44,95])) .nil))<| .chk [] (.dfd (.not (.bin .leq (.slen (.var 0)) (.int .i64 (24)))))<| .ret (.ite (.bin .leq (.slen (.var 0)) (.int .i64 (24))) (.var 1) (.bool false))
theorem zq4:zbj Tryz.prog sgs 131=some zk5:=by kernel_rfl
theorem zqY (a0:List UInt8) (r:Bool) (h:zfm a0=some r):Rts Tryz.prog sgs 131 [.str a0] (.bool r):=by
 refine zah zq4 (by kernel_rfl) ?_
 unfold Den zk5
 unfold zfm at h
 refine zaa (by simp) ?_
 refine zav h (fun e1 h=> ?_) (fun e1 h=> ?_)
 ·refine zac avB h (fun x hx=>by simpa using zhD a0 ([46,45,44,95]:List UInt8) x hx) (fun v2 cv2 h=> ?_)
  refine zaa (by simp) ?_
  exact zad (av:=avB) h (by simp [e1])
 ·refine zaJ (by simp [e1]) ?_
  refine zaa (by simp) ?_
  exact zad (av:=avB) h (by simp [e1])
def zkb:Tr:= .call [] (.inl 131) (.cons (.var 0) .nil)<| .chk [((.var 1),true),((.var 2),true)] (.dfd (.sbin .neq (.var 0) (.str (ByteArray.mk #[]))))<| .chk [((.var 2),true)] (.dfd (.not (.var 1)))<| .chk [((.var 2),true)] (.dfd (.not (.ite (.var 1) (.sbin .neq (.var 0) (.str (ByteArray.mk #[]))) (.bool false))))<| .chk [] (.dfd (.not (.var 2)))<| .ret (.ite (.var 2) (.not (.ite (.var 1) (.sbin .neq (.var 0) (.str (ByteArray.mk #[]))) (.bool false))) (.bool false))
theorem zoV:zbj Tryz.prog sgs 110=some zkb:=by kernel_rfl
theorem zp0 (a0:List UInt8) (a1:Bool) (r:Bool) (h:zeU a0 a1=some r):Rts Tryz.prog sgs 110 [.str a0, .bool a1] (.bool r):=by
 refine zah zoV (by kernel_rfl) ?_
 unfold Den zkb
 unfold zeU at h
 refine zac avB h (fun x hx=>by simpa using zqY a0 x hx) (fun v1 cv1 h=> ?_)
 refine zaa (by simp) ?_
 refine zaa (by simp) ?_
 refine zaa (by simp) ?_
 refine zaa (by simp) ?_
 exact zad (av:=avB) h (by simp)
def zhG:Tr:= .chk [] (.agg (.var 0) 3)<| .call [] (.inl 110) (.cons (.fld (.var 0) 1 1 false) (.cons (.fld (.var 0) 2 1 false) .nil))<| .chk [] (.dfd (.not (.var 1)))<| .ret (.not (.var 1))
theorem zlY:zbj Tryz.prog sgs 109=some zhG:=by kernel_rfl
theorem zlz (a0:zag) (r:Bool) (h:zcp a0=some r):Rts Tryz.prog sgs 109 [zar a0] (.bool r):=by
 refine zah zlY (by kernel_rfl) ?_
 unfold Den zhG
 unfold zcp at h
 refine zaa (by simp) ?_
 refine zac avB h (fun x hx=>by simpa using zp0 a0.fVal a0.fGone x hx) (fun v1 cv1 h=> ?_)
 refine zaa (by simp) ?_
 exact zad (av:=avB) h (by simp)
def zij:Tr:= .chk [] (.dfd (.len (.var 0)))<| .call [((.bin .leq (.len (.var 0)) (.int .i64 (24))),true)] (.inl 108) (.cons (.var 0) .nil)<| .call [((.bin .leq (.len (.var 0)) (.int .i64 (24))),true)] (.inl 107) (.cons (.var 1) .nil)<| .chk [] (.dfd (.not (.bin .leq (.len (.var 0)) (.int .i64 (24)))))<| .call [((.ite (.bin .leq (.len (.var 0)) (.int .i64 (24))) (.var 2) (.bool false)),true)] (.inl 78) (.cons (.var 0) (.cons (.fn 109 .nil) .nil))<| .chk [((.ite (.bin .leq (.len (.var 0)) (.int .i64 (24))) (.var 2) (.bool false)),true)] (.dfd (.not (.var 3)))<| .chk [] (.dfd (.not (.ite (.bin .leq (.len (.var 0)) (.int .i64 (24))) (.var 2) (.bool false))))<| .ret (.ite (.ite (.bin .leq (.len (.var 0)) (.int .i64 (24))) (.var 2) (.bool false)) (.not (.var 3)) (.bool false))
theorem znc:zbj Tryz.prog sgs 77=some zij:=by kernel_rfl
theorem zna (a0:List zag) (r:Bool) (h:zd4 a0=some r):Rts Tryz.prog sgs 77 [.sl (a0.map zar)] (.bool r):=by
 refine zah znc (by kernel_rfl) ?_
 unfold Den zij
 unfold zd4 at h
 refine zaa (by simp) ?_
 refine zav h (fun e1 h=> ?_) (fun e1 h=> ?_)
 ·refine zac zbK h (fun x hx=>by simpa using zoC a0 x hx) (fun v2 cv2 h=> ?_)
  refine zac avB h (fun x hx=>by simpa using zoy v2 x hx) (fun v3 cv3 h=> ?_)
  refine zaa (by simp) ?_
  refine zav h (fun e4 h=> ?_) (fun e4 h=> ?_)
  ·refine zac avB h (fun x hx=>by simpa using zbL a0 (fun y0_=>zcp y0_) _ [] x hx (fun y0_ b hb=>zg9 (zlz y0_ b hb) (by kernel_rfl))) (fun v5 cv5 h=> ?_)
   refine zaa (by simp) ?_
   refine zaa (by simp [e1,e4]) ?_
   exact zad (av:=avB) h (by simp [e1,e4])
  ·refine zaJ (by simp [e1,e4]) ?_
   refine zaa (by simp [e1,e4]) ?_
   refine zaa (by simp [e1,e4]) ?_
   exact zad (av:=avB) h (by simp [e1,e4])
 ·refine zaJ (by simp [e1]) ?_
  refine zaJ (by simp [e1]) ?_
  refine zaa (by simp) ?_
  refine zaJ (by simp [e1]) ?_
  refine zaa (by simp [e1]) ?_
  refine zaa (by simp [e1]) ?_
  exact zad (av:=avB) h (by simp [e1])
def zjN:Tr:= .chk [] (.agg (.var 0) 3)<| .ret (.fld (.var 0) 2 1 false)
theorem zpd:zbj Tryz.prog sgs 79=some zjN:=by kernel_rfl
theorem zoR (a0:zag) (r:Bool) (h:zdP a0=some r):Rts Tryz.prog sgs 79 [zar a0] (.bool r):=by
 refine zah zpd (by kernel_rfl) ?_
 unfold Den zjN
 unfold zdP at h
 refine zaa (by simp) ?_
 exact zad (av:=avB) h (by simp)
def zmc:Tr:= .call [] (.inl 77) (.cons (.var 0) .nil)<| .call [((.var 1),true)] (.inl 78) (.cons (.var 0) (.cons (.fn 79 .nil) .nil))<| .chk [((.var 1),true)] (.dfd (.not (.var 2)))<| .chk [] (.dfd (.not (.var 1)))<| .ret (.ite (.var 1) (.not (.var 2)) (.bool false))
theorem zsM:zbj Tryz.prog sgs 52=some zmc:=by kernel_rfl
theorem zmx (a0:List zag) (r:Bool) (h:ze0 a0=some r):Rts Tryz.prog sgs 52 [.sl (a0.map zar)] (.bool r):=by
 refine zah zsM (by kernel_rfl) ?_
 unfold Den zmc
 unfold ze0 at h
 refine zac avB h (fun x hx=>by simpa using zna a0 x hx) (fun v1 cv1 h=> ?_)
 refine zav h (fun e2 h=> ?_) (fun e2 h=> ?_)
 ·refine zac avB h (fun x hx=>by simpa using zbL a0 (fun y0_=>zdP y0_) _ [] x hx (fun y0_ b hb=>zg9 (zoR y0_ b hb) (by kernel_rfl))) (fun v3 cv3 h=> ?_)
  refine zaa (by simp) ?_
  refine zaa (by simp) ?_
  exact zad (av:=avB) h (by simp [e2])
 ·refine zaJ (by simp [e2]) ?_
  refine zaa (by simp [e2]) ?_
  refine zaa (by simp) ?_
  exact zad (av:=avB) h (by simp [e2])
def zej:Tr:= .chk [] (.dfd (.len (.var 0)))<| .loop (.cons (.int .i64 (0)) .nil) ( .chk [] (.dfd (.bin .lss (.var 2) (.len (.var 0))))<| .ite (.bin .lss (.var 2) (.len (.var 0))) ( .chk [] (.inb (.var 2) (.var 0) 3)<| .call [] (.inr (.var 1)) (.cons (.fld (.idx (.var 0) (.var 2)) 0 3 true) .nil)<| .ite (.var 3) ( .ret (.var 2)) ( .chk [] (.dfd (.bin .add (.var 2) (.int .i64 (1))))<| .jmp 0 (.cons (.bin .add (.var 2) (.int .i64 (1))) .nil))) ( .jmp 1 .nil)) ( .ret (.int .i64 (-1)))
theorem zd6:zbj Tryz.prog sgs 88=some zej:=by kernel_rfl
theorem zeh (xs:List zab) (p:zab→Option Bool) (g:Nat) (caps:List AV) (r:Int) (h:zbw xs p=some r) (hp: ∀x b,p x=some b→Rts Tryz.prog sgs (1000000+g) ((zae x)::caps) (.bool b)):Rts Tryz.prog sgs 88 [.sl (xs.map zae), .fn g caps] (.int .i64 r):=zah zd6 (by kernel_rfl) (zut (av:=zae) (cn:=3) (fun _=>⟨_,rfl,rfl⟩) h hp)
def zdK:Tr:= .call [] (.inl 88) (.cons (.var 0) (.cons (.var 1) .nil))<| .chk [] (.dfd (.bin .geq (.var 2) (.int .i64 (0))))<| .ret (.bin .geq (.var 2) (.int .i64 (0)))
theorem zdL:zbj Tryz.prog sgs 60=some zdK:=by kernel_rfl
theorem zdH (xs:List zab) (p:zab→Option Bool) (g:Nat) (caps:List AV) (r:Bool) (h:zaZ xs p=some r) (hp: ∀x b,p x=some b→Rts Tryz.prog sgs (1000000+g) ((zae x)::caps) (.bool b)):Rts Tryz.prog sgs 60 [.sl (xs.map zae), .fn g caps] (.bool r):=zah zdL (by kernel_rfl) (zrY h fun r hr=>zeh xs p g caps r hr hp)
def zio:Tr:= .chk [] (.dfd (.slen (.var 0)))<| .loop (.cons (.int .i64 (0)) .nil) ( .chk [] (.dfd (.bin .lss (.var 2) (.slen (.var 0))))<| .ite (.bin .lss (.var 2) (.slen (.var 0))) ( .chk [] (.inbS (.var 2) (.var 0))<| .chk [] (.dfd (.bin .lss (.sidx (.var 0) (.var 2)) (.int .u8 (97))))<| .chk [((.bin .lss (.sidx (.var 0) (.var 2)) (.int .u8 (97))),false)] (.inbS (.var 2) (.var 0))<| .chk [((.bin .lss (.sidx (.var 0) (.var 2)) (.int .u8 (97))),false)] (.dfd (.bin .gtr (.sidx (.var 0) (.var 2)) (.int .u8 (122))))<| .chk [] (.dfd (.not (.bin .lss (.sidx (.var 0) (.var 2)) (.int .u8 (97)))))<| .ite (.ite (.bin .lss (.sidx (.var 0) (.var 2)) (.int .u8 (97))) (.bool true) (.bin .gtr (.sidx (.var 0) (.var 2)) (.int .u8 (122)))) ( .ret (.bool false)) ( .chk [] (.dfd (.bin .add (.var 2) (.int .i64 (1))))<| .jmp 0 (.cons (.bin .add (.var 2) (.int .i64 (1))) .nil))) ( .jmp 1 .nil)) ( .chk [] (.dfd (.slen (.var 0)))<| .call [] (.inl 28) (.cons (.slen (.var 0)) (.cons (.int .i64 (1)) (.cons (.var 1) .nil)))<| .ret (.var 2))
theorem znE:zbj Tryz.prog sgs 102=some zio:=by kernel_rfl
theorem zgF (a0:List UInt8) (a1:Int) (r:Bool) (h:zco a0 a1=some r):Rts Tryz.prog sgs 102 [.str a0, .int .i64 a1] (.bool r):=by
 refine zah znE (by kernel_rfl) ?_
 unfold Den zio
 unfold zco at h
 refine zaa (by simp) ?_
 refine zhR (fun s:Int=> [.int .i64 s]) (fun s:Unit=> []) h (by simp) (K:=(fun s=>zcb a0 a1)) (fun s h=> ?_) (fun W1 A1 v2 o1 h hn1 hf1 hk1=> ?_)
 ·replace h:zcb a0 a1=some r:=h
  unfold zcb at h
  refine zaa (by simp) ?_
  refine zac avB h (fun x hx=>by simpa using zct (a0.length:Int) 1 a1 x hx) (fun v1 cv1 h=> ?_)
  exact zad (av:=avB) h (by simp)
 ·replace h:zcK a0 a1 v2=some o1:=h
  unfold zcK at h
  refine zaa (by simp) ?_
  refine zam h (by simp) (fun e3 h=> ?_) (fun e3 h=> ?_)
  ·obtain⟨y4,hy4,h⟩:=zaD h
   have hy4':=(zaG hy4).2.2
   refine zaa (fun _=>ziF (kk:= .i64) (by simp) (by simp) hy4) ?_
   refine zaa (by simp [e3,hy4']) ?_
   refine zaa (fun _=>ziF (kk:= .i64) (by simp) (by simp) hy4) ?_
   refine zaa (by simp [e3,hy4']) ?_
   refine zaa (by simp [e3,hy4']) ?_
   refine zam h (by simp [e3,hy4']) (fun e5 h=> ?_) (fun e5 h=> ?_)
   ·exact zad (av:=avB) (hf1 _ h) (by simp)
   ·refine zaa (by simp) ?_
    exact za4 (K:=fun s=>some (Sum.inl s)) (s:=(IntKind.i64.wrap (v2+1))) hn1 h rfl (by simp)
  ·exact za4 (s:=()) hk1 (hf1 _ h) rfl (by simp)
def zdV:Tr:= .chk [] (.dfd (.len (.var 0)))<| .loop (.cons (.int .i64 (0)) .nil) ( .chk [] (.dfd (.bin .lss (.var 2) (.len (.var 0))))<| .ite (.bin .lss (.var 2) (.len (.var 0))) ( .chk [] (.inb (.var 2) (.var 0) 1)<| .chk [] (.dfd (.sbin .eql (.var 1) (.fld (.idx (.var 0) (.var 2)) 0 1 false)))<| .ite (.sbin .eql (.var 1) (.fld (.idx (.var 0) (.var 2)) 0 1 false)) ( .ret (.var 2)) ( .chk [] (.dfd (.bin .add (.var 2) (.int .i64 (1))))<| .jmp 0 (.cons (.bin .add (.var 2) (.int .i64 (1))) .nil))) ( .jmp 1 .nil)) ( .ret (.int .i64 (-1)))
theorem zgt:zbj Tryz.prog sgs 129=some zdV:=by kernel_rfl
theorem zgy (a0:List (List UInt8)) (a1:List UInt8) (r:Int) (h:za6 a0 a1=some r):Rts Tryz.prog sgs 129 [.sl (a0.map zal), .str a1] (.int .i64 r):=by
 refine zah zgt (by kernel_rfl) ?_
 unfold Den zdV
 unfold za6 at h
 refine zaa (by simp) ?_
 refine zbB (fun s:Int=> [.int .i64 s]) h (by simp) (fun W1 A1 v1 o1 h hn1 hf1 hk1=> ?_)
 replace h:zaT a0 a1 v1=some o1:=h
 unfold zaT at h
 refine zaa (by simp) ?_
 refine zam h (by simp) (fun e2 h=> ?_) (fun e2 h=> ?_)
 ·obtain⟨y3,hy3,h⟩:=zaD h
  have hy3':=(zaG hy3).2.2
  refine zaa (fun _=>zaH (kk:= .i64) (f:=zal) (by simp) (by simp) hy3 (by simp)) ?_
  refine zaa (by simp [e2,hy3']) ?_
  refine zam h (by simp [e2,hy3']) (fun e4 h=> ?_) (fun e4 h=> ?_)
  ·exact zad (av:=zaw) (hf1 _ h) (by simp)
  ·refine zaa (by simp) ?_
   exact za4 (K:=fun s=>some (Sum.inl s)) (s:=(IntKind.i64.wrap (v1+1))) hn1 h rfl (by simp)
 ·refine zaN hk1 rfl (vs:= []) (by simp) ?_
  replace h:=(hf1 _ h)
  exact zad (av:=zaw) h (by simp)
def zdd:Tr:= .call [] (.inl 129) (.cons (.var 0) (.cons (.var 1) .nil))<| .chk [] (.dfd (.bin .geq (.var 2) (.int .i64 (0))))<| .ret (.bin .geq (.var 2) (.int .i64 (0)))
theorem zfQ:zbj Tryz.prog sgs 103=some zdd:=by kernel_rfl
theorem zdb (a0:List (List UInt8)) (a1:List UInt8) (r:Bool) (h:zaA a0 a1=some r):Rts Tryz.prog sgs 103 [.sl (a0.map zal), .str a1] (.bool r):=by
 refine zah zfQ (by kernel_rfl) ?_
 unfold Den zdd
 unfold zaA at h
 refine zac zaw h (fun x hx=>by simpa using zgy a0 a1 x hx) (fun v1 cv1 h=> ?_)
 refine zaa (by simp) ?_
 exact zad (av:=avB) h (by simp)
end Go.Proofs.YtecngjbpbnfegaaGreatDoor
end
section
namespace Go.Proofs.YtecngjbpbnfegaaGreatDoor
open Go.RowKit
set_option maxRecDepth 100000
set_option maxHeartbeats 4000000
def zk0:Tr:= .call [] (.inl 28) (.cons (.var 0) (.cons (.int .i64 (0)) (.cons (.int .i64 (3)) .nil)))<| .ret (.var 1)
theorem zq7:zbj Tryz.prog sgs 104=some zk0:=by kernel_rfl
theorem zqB (a0:Int) (r:Bool) (h:zgP a0=some r):Rts Tryz.prog sgs 104 [.int .i64 a0] (.bool r):=by
 refine zah zq7 (by kernel_rfl) ?_
 unfold Den zk0
 unfold zgP at h
 refine zac avB h (fun x hx=>by simpa using zct a0 0 3 x hx) (fun v1 cv1 h=> ?_)
 exact zad (av:=avB) h (by simp)
def zi0:Tr:= .chk [] (.agg (.var 0) 3)<| .call [] (.inl 102) (.cons (.fld (.var 0) 0 1 false) (.cons (.int .i64 (1)) .nil))<| .chk [] (.dfd (.not (.var 1)))<| .chk [((.not (.var 1)),false)] (.dfd (.len (.fld (.var 0) 1 1 false)))<| .call [((.not (.var 1)),false)] (.inl 28) (.cons (.len (.fld (.var 0) 1 1 false)) (.cons (.int .i64 (2)) (.cons (.int .i64 (4)) .nil)))<| .chk [((.not (.var 1)),false)] (.dfd (.not (.var 2)))<| .chk [] (.dfd (.not (.not (.var 1))))<| .chk [((.ite (.not (.var 1)) (.bool true) (.not (.var 2))),false)] (.dfd (.len (.fld (.var 0) 2 1 false)))<| .chk [] (.dfd (.not (.ite (.not (.var 1)) (.bool true) (.not (.var 2)))))<| .ite (.ite (.ite (.not (.var 1)) (.bool true) (.not (.var 2))) (.bool true) (.bin .gtr (.len (.fld (.var 0) 2 1 false)) (.int .i64 (3)))) ( .ret (.bool false)) ( .chk [] (.dfd (.len (.fld (.var 0) 1 1 false)))<| .loop (.cons (.int .i64 (0)) .nil) ( .chk [] (.dfd (.bin .lss (.var 3) (.len (.fld (.var 0) 1 1 false))))<| .ite (.bin .lss (.var 3) (.len (.fld (.var 0) 1 1 false))) ( .chk [] (.inb (.var 3) (.fld (.var 0) 1 1 false) 1)<| .call [] (.inl 102) (.cons (.fld (.idx (.fld (.var 0) 1 1 false) (.var 3)) 0 1 false) (.cons (.int .i64 (3)) .nil))<| .chk [] (.dfd (.not (.var 4)))<| .chk [((.not (.var 4)),false)] (.issl (.fld (.var 0) 1 1 false) 1)<| .chk [((.not (.var 4)),false)] (.win (.fld (.var 0) 1 1 false) (.int .i64 (0)) (.var 3))<| .call [((.not (.var 4)),false)] (.inl 103) (.cons (.win (.fld (.var 0) 1 1 false) (.int .i64 (0)) (.var 3)) (.cons (.fld (.idx (.fld (.var 0) 1 1 false) (.var 3)) 0 1 false) .nil))<| .chk [] (.dfd (.not (.not (.var 4))))<| .ite (.ite (.not (.var 4)) (.bool true) (.var 5)) ( .ret (.bool false)) ( .chk [] (.dfd (.bin .add (.var 3) (.int .i64 (1))))<| .jmp 0 (.cons (.bin .add (.var 3) (.int .i64 (1))) .nil))) ( .jmp 1 .nil)) ( .chk [] (.dfd (.len (.fld (.var 0) 2 1 false)))<| .loop (.cons (.int .i64 (0)) .nil) ( .chk [] (.dfd (.bin .lss (.var 3) (.len (.fld (.var 0) 2 1 false))))<| .ite (.bin .lss (.var 3) (.len (.fld (.var 0) 2 1 false))) ( .chk [] (.inb (.var 3) (.fld (.var 0) 2 1 false) 3)<| .chk [] (.agg (.fld (.idx (.fld (.var 0) 2 1 false) (.var 3)) 0 3 true) 3)<| .call [] (.inl 102) (.cons (.fld (.fld (.idx (.fld (.var 0) 2 1 false) (.var 3)) 0 3 true) 0 1 false) (.cons (.int .i64 (1)) .nil))<| .chk [] (.dfd (.not (.var 4)))<| .chk [((.not (.var 4)),false)] (.dfd (.len (.fld (.var 0) 1 1 false)))<| .call [((.not (.var 4)),false)] (.inl 28) (.cons (.fld (.fld (.idx (.fld (.var 0) 2 1 false) (.var 3)) 0 3 true) 1 1 false) (.cons (.int .i64 (1)) (.cons (.bin .sub (.len (.fld (.var 0) 1 1 false)) (.int .i64 (1))) .nil)))<| .chk [((.not (.var 4)),false)] (.dfd (.not (.var 5)))<| .chk [] (.dfd (.not (.not (.var 4))))<| .call [((.ite (.not (.var 4)) (.bool true) (.not (.var 5))),false)] (.inl 104) (.cons (.fld (.fld (.idx (.fld (.var 0) 2 1 false) (.var 3)) 0 3 true) 2 1 false) .nil)<| .chk [((.ite (.not (.var 4)) (.bool true) (.not (.var 5))),false)] (.dfd (.not (.var 6)))<| .chk [] (.dfd (.not (.ite (.not (.var 4)) (.bool true) (.not (.var 5)))))<| .chk [((.ite (.ite (.not (.var 4)) (.bool true) (.not (.var 5))) (.bool true) (.not (.var 6))),false)] (.dfd (.bin .gtr (.var 3) (.int .i64 (0))))<| .chk [((.bin .gtr (.var 3) (.int .i64 (0))),true),((.ite (.ite (.not (.var 4)) (.bool true) (.not (.var 5))) (.bool true) (.not (.var 6))),false)] (.dfd (.bin .sub (.var 3) (.int .i64 (1))))<| .chk [((.bin .gtr (.var 3) (.int .i64 (0))),true),((.ite (.ite (.not (.var 4)) (.bool true) (.not (.var 5))) (.bool true) (.not (.var 6))),false)] (.inb (.bin .sub (.var 3) (.int .i64 (1))) (.fld (.var 0) 2 1 false) 3)<| .chk [((.bin .gtr (.var 3) (.int .i64 (0))),true),((.ite (.ite (.not (.var 4)) (.bool true) (.not (.var 5))) (.bool true) (.not (.var 6))),false)] (.dfd (.sbin .leq (.fld (.fld (.idx (.fld (.var 0) 2 1 false) (.var 3)) 0 3 true) 0 1 false) (.fld (.idx (.fld (.var 0) 2 1 false) (.bin .sub (.var 3) (.int .i64 (1)))) 0 1 false)))<| .chk [((.ite (.ite (.not (.var 4)) (.bool true) (.not (.var 5))) (.bool true) (.not (.var 6))),false)] (.dfd (.not (.bin .gtr (.var 3) (.int .i64 (0)))))<| .chk [] (.dfd (.not (.ite (.ite (.not (.var 4)) (.bool true) (.not (.var 5))) (.bool true) (.not (.var 6)))))<| .ite (.ite (.ite (.ite (.not (.var 4)) (.bool true) (.not (.var 5))) (.bool true) (.not (.var 6))) (.bool true) (.ite (.bin .gtr (.var 3) (.int .i64 (0))) (.sbin .leq (.fld (.fld (.idx (.fld (.var 0) 2 1 false) (.var 3)) 0 3 true) 0 1 false) (.fld (.idx (.fld (.var 0) 2 1 false) (.bin .sub (.var 3) (.int .i64 (1)))) 0 1 false)) (.bool false))) ( .ret (.bool false)) ( .chk [] (.dfd (.bin .add (.var 3) (.int .i64 (1))))<| .jmp 0 (.cons (.bin .add (.var 3) (.int .i64 (1))) .nil))) ( .jmp 1 .nil)) ( .ret (.bool true))))
theorem zoc:zbj Tryz.prog sgs 75=some zi0:=by kernel_rfl
theorem zou (a0:zab) (r:Bool) (h:zer a0=some r):Rts Tryz.prog sgs 75 [zae a0] (.bool r):=by
 refine zah zoc (by kernel_rfl) ?_
 unfold Den zi0
 unfold zer at h
 refine zaa (by simp) ?_
 refine zac avB h (fun x hx=>by simpa using zgF a0.fName 1 x hx) (fun v1 cv1 h=> ?_)
 refine zaa (by simp) ?_
 refine zaa (by simp) ?_
 refine zav h (fun e2 h=> ?_) (fun e2 h=> ?_)
 ·refine zac avB h (fun x hx=>by simpa using zct (a0.fCols.length:Int) 2 4 x hx) (fun v3 cv3 h=> ?_)
  refine zaa (by simp) ?_
  refine zaa (by simp) ?_
  refine zaa (by simp) ?_
  refine zaa (by simp [e2]) ?_
  refine zam h (by simp [e2]) (fun e4 h=> ?_) (fun e4 h=> ?_)
  ·exact zad (av:=avB) h (by simp)
  ·refine zaa (by simp) ?_
   refine zhR (fun s:Int=> [.int .i64 s]) (fun s:Unit=> []) h (by simp) (K:=(fun s=>zcm a0)) (fun s h=> ?_) (fun W1 A1 v18 o1 h hn1 hf1 hk1=> ?_)
   ·replace h:zcm a0=some r:=h
    unfold zcm at h
    refine zaa (by simp) ?_
    refine zbB (fun s:Int=> [.int .i64 s]) h (by simp) (fun W1 A1 v5 o1 h hn1 hf1 hk1=> ?_)
    replace h:zcj a0 v5=some o1:=h
    unfold zcj at h
    refine zaa (by simp) ?_
    refine zam h (by simp) (fun e6 h=> ?_) (fun e6 h=> ?_)
    ·obtain⟨y7,hy7,h⟩:=zaD h
     have hy7':=(zaG hy7).2.2
     refine zaa (fun _=>zaH (kk:= .i64) (f:=zbW) (by simp) (by simp) hy7 (by simp)) ?_
     refine zaa (by simp [e2,e4,e6,hy7']) ?_
     refine zac avB h (fun x hx=>by simpa [e2,e4,e6,hy7']using zgF y7.fName 1 x hx) (fun v8 cv8 h=> ?_)
     refine zaa (by simp) ?_
     refine zaa (by simp) ?_
     refine zav h (fun e9 h=> ?_) (fun e9 h=> ?_)
     ·refine zac avB h (fun x hx=>by simpa [e2,e4,e6,hy7',e9]using zct y7.fCol 1 (IntKind.i64.wrap ((a0.fCols.length:Int)-1)) x hx) (fun v10 cv10 h=> ?_)
      refine zaa (by simp) ?_
      refine zaa (by simp) ?_
      refine zav h (fun e11 h=> ?_) (fun e11 h=> ?_)
      ·refine zac avB h (fun x hx=>by simpa [e2,e4,e6,hy7',e9,e11]using zqB y7.fStage x hx) (fun v12 cv12 h=> ?_)
       refine zaa (by simp) ?_
       refine zaa (by simp [e2,e4,e6,hy7',e9,e11]) ?_
       refine zaa (by simp) ?_
       refine zaa (by simp) ?_
       refine zav h (fun e13 h=> ?_) (fun e13 h=> ?_)
       ·refine zav h (fun e14 h=> ?_) (fun e14 h=> ?_)
        ·obtain⟨y15,hy15,h⟩:=zaD h
         have hy15':=(zaG hy15).2.2
         try simp at hy15'
         refine zaa (fun _=>zaH (kk:= .i64) (f:=zbW) (by simp) (by simp) hy15 (by simp)) ?_
         refine zaa (by simp [e2,e4,e6,hy7',e9,e11,e13,e14,hy15']) ?_
         refine zaa (by simp) ?_
         refine zaa (by simp [e2,e4,e6,hy7',e9,e11,e13,e14,hy15']) ?_
         refine zam h (by simp [e2,e4,e6,hy7',e9,e11,e13,e14,hy15']) (fun e16 h=> ?_) (fun e16 h=> ?_)
         ·exact zad (av:=avB) (hf1 _ h) (by simp)
         ·refine zaa (by simp) ?_
          exact za4 (K:=fun s=>some (Sum.inl s)) (s:=(IntKind.i64.wrap (v5+1))) hn1 h rfl (by simp)
        ·refine zaa (by simp [e2,e4,e6,hy7',e9,e11,e13,e14]) ?_
         refine zaa (by simp [e2,e4,e6,hy7',e9,e11,e13,e14]) ?_
         refine zaa (by simp [e2,e4,e6,hy7',e9,e11,e13,e14]) ?_
         refine zaa (by simp [e2,e4,e6,hy7',e9,e11,e13,e14]) ?_
         refine zdt (by simp [e2,e4,e6,hy7',e9,e11,e13,e14]) ?_
         exact zad (av:=avB) (hf1 _ h) (by simp)
       ·refine zaa (by simp [e2,e4,e6,hy7',e9,e11,e13]) ?_
        refine zaa (by simp [e2,e4,e6,hy7',e9,e11,e13]) ?_
        refine zaa (by simp) ?_
        refine zaa (by simp [e2,e4,e6,hy7',e9,e11,e13]) ?_
        refine zam h (by simp [e2,e4,e6,hy7',e9,e11,e13]) (fun e17 h=> ?_) (fun e17 h=> ?_)
        ·exact zad (av:=avB) (hf1 _ h) (by simp)
        ·refine zaa (by simp) ?_
         exact za4 (K:=fun s=>some (Sum.inl s)) (s:=(IntKind.i64.wrap (v5+1))) hn1 h rfl (by simp)
      ·refine zaJ (by simp [e2,e4,e6,hy7',e9,e11]) ?_
       refine zaa (by simp [e2,e4,e6,hy7',e9,e11]) ?_
       refine zaa (by simp [e2,e4,e6,hy7',e9,e11]) ?_
       refine zaa (by simp [e2,e4,e6,hy7',e9,e11]) ?_
       refine zaa (by simp [e2,e4,e6,hy7',e9,e11]) ?_
       refine zaa (by simp [e2,e4,e6,hy7',e9,e11]) ?_
       refine zaa (by simp [e2,e4,e6,hy7',e9,e11]) ?_
       refine zaa (by simp [e2,e4,e6,hy7',e9,e11]) ?_
       refine zaa (by simp [e2,e4,e6,hy7',e9,e11]) ?_
       refine zdt (by simp [e2,e4,e6,hy7',e9,e11]) ?_
       exact zad (av:=avB) (hf1 _ h) (by simp)
     ·refine zaJ (by simp [e2,e4,e6,hy7',e9]) ?_
      refine zaa (by simp [e2,e4,e6,hy7',e9]) ?_
      refine zaa (by simp) ?_
      refine zaJ (by simp [e2,e4,e6,hy7',e9]) ?_
      refine zaa (by simp [e2,e4,e6,hy7',e9]) ?_
      refine zaa (by simp [e2,e4,e6,hy7',e9]) ?_
      refine zaa (by simp [e2,e4,e6,hy7',e9]) ?_
      refine zaa (by simp [e2,e4,e6,hy7',e9]) ?_
      refine zaa (by simp [e2,e4,e6,hy7',e9]) ?_
      refine zaa (by simp [e2,e4,e6,hy7',e9]) ?_
      refine zaa (by simp [e2,e4,e6,hy7',e9]) ?_
      refine zaa (by simp [e2,e4,e6,hy7',e9]) ?_
      refine zdt (by simp [e2,e4,e6,hy7',e9]) ?_
      exact zad (av:=avB) (hf1 _ h) (by simp)
    ·refine zaN hk1 rfl (vs:= []) (by simp) ?_
     replace h:=(hf1 _ h)
     exact zad (av:=avB) h (by simp)
   ·replace h:zcr a0 v18=some o1:=h
    unfold zcr at h
    refine zaa (by simp) ?_
    refine zam h (by simp) (fun e19 h=> ?_) (fun e19 h=> ?_)
    ·obtain⟨y20,hy20,h⟩:=zaD h
     have hy20':=(zaG hy20).2.2
     refine zaa (fun _=>zaH (kk:= .i64) (f:=zal) (by simp) (by simp) hy20 (by simp)) ?_
     refine zac avB h (fun x hx=>by simpa [e2,e4,e19,hy20']using zgF y20 3 x hx) (fun v21 cv21 h=> ?_)
     refine zaa (by simp) ?_
     refine zaa (fun _=>zi4 zal (show _=AV.sl (List.map zal a0.fCols)from by simp) (by simp)) ?_
     refine zav h (fun e22 h=> ?_) (fun e22 h=> ?_)
     ·obtain⟨q25,h⟩:=zfa h
      refine zaa (fun _=>zwN (ka:= .i64) (kb:= .i64) (a:=0) (b:=v18) (by simp) (by simp) (show _=AV.sl (List.map zal a0.fCols)from by simp) (by simpa using q25)) ?_
      refine zac avB h (fun x hx=>by simpa [e2,e4,e19,hy20',e22]using zdb (zhh a0.fCols 0 v18) y20 x hx) (fun v23 cv23 h=> ?_)
      refine zaa (by simp) ?_
      refine zam h (by simp [e2,e4,e19,hy20',e22]) (fun e24 h=> ?_) (fun e24 h=> ?_)
      ·exact zad (av:=avB) (hf1 _ h) (by simp)
      ·refine zaa (by simp) ?_
       exact za4 (K:=fun s=>some (Sum.inl s)) (s:=(IntKind.i64.wrap (v18+1))) hn1 h rfl (by simp)
     ·refine zaa (by simp [e2,e4,e19,hy20',e22]) ?_
      refine zaJ (by simp [e2,e4,e19,hy20',e22]) ?_
      refine zaa (by simp) ?_
      refine zdt (by simp [e2,e4,e19,hy20',e22]) ?_
      exact zad (av:=avB) (hf1 _ h) (by simp)
    ·exact za4 (s:=()) hk1 (hf1 _ h) rfl (by simp)
 ·refine zaJ (by simp [e2]) ?_
  refine zaa (by simp [e2]) ?_
  refine zaa (by simp) ?_
  refine zaa (by simp [e2]) ?_
  refine zaa (by simp [e2]) ?_
  refine zdt (by simp [e2]) ?_
  exact zad (av:=avB) h (by simp)
def zeM:Tr:= .chk [] (.dfd (.len (.var 0)))<| .loop (.cons (.int .i64 (0)) .nil) ( .chk [] (.dfd (.bin .lss (.var 2) (.len (.var 0))))<| .ite (.bin .lss (.var 2) (.len (.var 0))) ( .chk [] (.inb (.var 2) (.var 0) 3)<| .call [] (.inr (.var 1)) (.cons (.fld (.idx (.var 0) (.var 2)) 0 3 true) .nil)<| .ite (.var 3) ( .ret (.var 2)) ( .chk [] (.dfd (.bin .add (.var 2) (.int .i64 (1))))<| .jmp 0 (.cons (.bin .add (.var 2) (.int .i64 (1))) .nil))) ( .jmp 1 .nil)) ( .ret (.int .i64 (-1)))
theorem zeX:zbj Tryz.prog sgs 105=some zeM:=by kernel_rfl
theorem zeW (xs:List zb8) (p:zb8→Option Bool) (g:Nat) (caps:List AV) (r:Int) (h:zbw xs p=some r) (hp: ∀x b,p x=some b→Rts Tryz.prog sgs (1000000+g) ((zbW x)::caps) (.bool b)):Rts Tryz.prog sgs 105 [.sl (xs.map zbW), .fn g caps] (.int .i64 r):=zah zeX (by kernel_rfl) (zut (av:=zbW) (cn:=3) (fun _=>⟨_,rfl,rfl⟩) h hp)
def zfJ:Tr:= .chk [] (.agg (.var 0) 3)<| .chk [] (.isref (.var 1) 0)<| .chk [] (.isref (.var 1) 1)<| .chk [] (.dfd (.sbin .eql (.fld (.var 0) 0 1 false) (.fld (.deref (.var 1)) 0 1 false)))<| .ret (.sbin .eql (.fld (.var 0) 0 1 false) (.fld (.deref (.var 1)) 0 1 false))
theorem zig:zbj Tryz.prog sgs 106=some zfJ:=by kernel_rfl
theorem zim (a0:zb8) (a1:List UInt8) (r:Bool) (h:zbR a0 a1=some r):Rts Tryz.prog sgs 106 [zbW a0,zyQ a1] (.bool r):=by
 refine zah zig (by kernel_rfl) ?_
 unfold Den zfJ
 unfold zbR at h
 refine zaa (by simp) ?_
 refine zaa (by simp) ?_
 refine zaa (by simp) ?_
 refine zaa (by simp) ?_
 exact zad (av:=avB) h (by simp)
def zgn:Tr:= .chk [] (.agg (.var 0) 3)<| .chk [] (.cells (.var 1) 1)<| .call [] (.inl 105) (.cons (.fld (.var 0) 2 1 false) (.cons (.fn 106 (.cons (.ref (.mk (.cons (.var 1) .nil))) .nil)) .nil))<| .ret (.var 2)
theorem zjq:zbj Tryz.prog sgs 76=some zgn:=by kernel_rfl
theorem zeA (a0:zab) (a1:List UInt8) (r:Int) (h:zbi a0 a1=some r):Rts Tryz.prog sgs 76 [zae a0, .str a1] (.int .i64 r):=by
 refine zah zjq (by kernel_rfl) ?_
 unfold Den zgn
 unfold zbi at h
 refine zaa (by simp) ?_
 refine zaa (by simp) ?_
 refine zac zaw h (fun x hx=>by simpa using zeW a0.fIdxs (fun y0_=>zbR y0_ a1) _ [zyQ a1] x hx (fun y0_ b hb=>zg9 (zim y0_ a1 b hb) (by kernel_rfl))) (fun v1 cv1 h=> ?_)
 exact zad (av:=zaw) h (by simp)
def zmq:Tr:= .chk [] (.agg (.var 0) 3)<| .call [] (.inl 75) (.cons (.mk (.cons (.fld (.var 0) 0 1 false) (.cons (.fld (.var 0) 1 1 false) (.cons (.fld (.var 0) 2 1 false) .nil)))) .nil)<| .call [((.var 2),true)] (.inl 76) (.cons (.mk (.cons (.fld (.var 0) 0 1 false) (.cons (.fld (.var 0) 1 1 false) (.cons (.fld (.var 0) 2 1 false) .nil)))) (.cons (.var 1) .nil))<| .chk [((.var 2),true)] (.dfd (.bin .geq (.var 3) (.int .i64 (0))))<| .chk [] (.dfd (.not (.var 2)))<| .ret (.ite (.var 2) (.bin .geq (.var 3) (.int .i64 (0))) (.bool false))
theorem zr9:zbj Tryz.prog sgs 51=some zmq:=by kernel_rfl
theorem zmZ (a0:zab) (a1:List UInt8) (r:Bool) (h:ze4 a0 a1=some r):Rts Tryz.prog sgs 51 [zae a0, .str a1] (.bool r):=by
 refine zah zr9 (by kernel_rfl) ?_
 unfold Den zmq
 unfold ze4 at h
 refine zaa (by simp) ?_
 refine zac avB h (fun x hx=>by simpa using zou a0 x hx) (fun v1 cv1 h=> ?_)
 refine zav h (fun e2 h=> ?_) (fun e2 h=> ?_)
 ·refine zac zaw h (fun x hx=>by simpa using zeA a0 a1 x hx) (fun v3 cv3 h=> ?_)
  refine zaa (by simp) ?_
  refine zaa (by simp) ?_
  exact zad (av:=avB) h (by simp [e2])
 ·refine zaJ (by simp [e2]) ?_
  refine zaa (by simp [e2]) ?_
  refine zaa (by simp) ?_
  exact zad (av:=avB) h (by simp [e2])
def zh3:Tr:= .chk [] (.agg (.var 0) 3)<| .chk [] (.isref (.var 1) 0)<| .chk [] (.isref (.var 1) 1)<| .call [] (.inl 51) (.cons (.mk (.cons (.fld (.var 0) 0 1 false) (.cons (.fld (.var 0) 1 1 false) (.cons (.fld (.var 0) 2 1 false) .nil)))) (.cons (.fld (.deref (.var 1)) 0 1 false) .nil))<| .chk [] (.dfd (.not (.var 2)))<| .ret (.not (.var 2))
theorem zl5:zbj Tryz.prog sgs 61=some zh3:=by kernel_rfl
theorem zmn (a0:zab) (a1:zaB) (r:Bool) (h:zdo a0 a1=some r):Rts Tryz.prog sgs 61 [zae a0,zoK a1] (.bool r):=by
 refine zah zl5 (by kernel_rfl) ?_
 unfold Den zh3
 unfold zdo at h
 refine zaa (by simp) ?_
 refine zaa (by simp) ?_
 refine zaa (by simp) ?_
 refine zac avB h (fun x hx=>by simpa using zmZ a0 a1.fName x hx) (fun v1 cv1 h=> ?_)
 refine zaa (by simp) ?_
 exact zad (av:=avB) h (by simp)
def zhc:Tr:= .chk [] (.dfd (.len (.var 0)))<| .loop (.cons (.int .i64 (0)) .nil) ( .chk [] (.dfd (.bin .lss (.var 2) (.len (.var 0))))<| .ite (.bin .lss (.var 2) (.len (.var 0))) ( .chk [] (.inb (.var 2) (.var 0) 1)<| .call [] (.inr (.var 1)) (.cons (.fld (.idx (.var 0) (.var 2)) 0 1 false) .nil)<| .ite (.var 3) ( .ret (.var 2)) ( .chk [] (.dfd (.bin .add (.var 2) (.int .i64 (1))))<| .jmp 0 (.cons (.bin .add (.var 2) (.int .i64 (1))) .nil))) ( .jmp 1 .nil)) ( .ret (.int .i64 (-1)))
theorem zhi:zbj Tryz.prog sgs 89=some zhc:=by kernel_rfl
theorem zhj (xs:List Int) (p:Int→Option Bool) (g:Nat) (caps:List AV) (r:Int) (h:zbw xs p=some r) (hp: ∀x b,p x=some b→Rts Tryz.prog sgs (1000000+g) ((.int .i64 x)::caps) (.bool b)):Rts Tryz.prog sgs 89 [.sl (xs.map zaw), .fn g caps] (.int .i64 r):=zah zhi (by kernel_rfl) (zuR (av:=zaw) (fun _=>rfl) h hp)
def zf9:Tr:= .call [] (.inl 89) (.cons (.var 0) (.cons (.var 1) .nil))<| .chk [] (.dfd (.bin .geq (.var 2) (.int .i64 (0))))<| .ret (.bin .geq (.var 2) (.int .i64 (0)))
theorem zgd:zbj Tryz.prog sgs 62=some zf9:=by kernel_rfl
theorem zge (xs:List Int) (p:Int→Option Bool) (g:Nat) (caps:List AV) (r:Bool) (h:zaZ xs p=some r) (hp: ∀x b,p x=some b→Rts Tryz.prog sgs (1000000+g) ((.int .i64 x)::caps) (.bool b)):Rts Tryz.prog sgs 62 [.sl (xs.map zaw), .fn g caps] (.bool r):=zah zgd (by kernel_rfl) (zrY h fun r hr=>zhj xs p g caps r hr hp)
def zh4:Tr:= .chk [] (.isref (.var 1) 0)<| .chk [] (.isref (.var 1) 2)<| .chk [] (.dfd (.len (.fld (.deref (.var 1)) 1 1 false)))<| .call [] (.inl 28) (.cons (.var 0) (.cons (.int .i64 (0)) (.cons (.bin .sub (.len (.fld (.deref (.var 1)) 1 1 false)) (.int .i64 (1))) .nil)))<| .chk [] (.dfd (.not (.var 2)))<| .ret (.not (.var 2))
theorem zmQ:zbj Tryz.prog sgs 63=some zh4:=by kernel_rfl
theorem zl6 (a0:Int) (a1:zaB) (r:Bool) (h:zds a0 a1=some r):Rts Tryz.prog sgs 63 [.int .i64 a0,zoK a1] (.bool r):=by
 refine zah zmQ (by kernel_rfl) ?_
 unfold Den zh4
 unfold zds at h
 refine zaa (by simp) ?_
 refine zaa (by simp) ?_
 refine zaa (by simp) ?_
 refine zac avB h (fun x hx=>by simpa using zct a0 0 (IntKind.i64.wrap ((a1.fWays.length:Int)-1)) x hx) (fun v1 cv1 h=> ?_)
 refine zaa (by simp) ?_
 exact zad (av:=avB) h (by simp)
def zhW:Tr:= .chk [] (.agg (.var 0) 3)<| .call [] (.inl 76) (.cons (.mk (.cons (.fld (.var 0) 0 1 false) (.cons (.fld (.var 0) 1 1 false) (.cons (.fld (.var 0) 2 1 false) .nil)))) (.cons (.var 1) .nil))<| .chk [] (.inb (.var 2) (.fld (.var 0) 2 1 false) 3)<| .chk [] (.agg (.fld (.idx (.fld (.var 0) 2 1 false) (.var 2)) 0 3 true) 3)<| .ret (.mk (.cons (.fld (.fld (.idx (.fld (.var 0) 2 1 false) (.var 2)) 0 3 true) 0 1 false) (.cons (.fld (.fld (.idx (.fld (.var 0) 2 1 false) (.var 2)) 0 3 true) 1 1 false) (.cons (.fld (.fld (.idx (.fld (.var 0) 2 1 false) (.var 2)) 0 3 true) 2 1 false) .nil))))
theorem zmE:zbj Tryz.prog sgs 90=some zhW:=by kernel_rfl
theorem zfR (a0:zab) (a1:List UInt8) (r:zb8) (h:zbl a0 a1=some r):Rts Tryz.prog sgs 90 [zae a0, .str a1] (zbW r):=by
 refine zah zmE (by kernel_rfl) ?_
 unfold Den zhW
 unfold zbl at h
 refine zaa (by simp) ?_
 refine zac zaw h (fun x hx=>by simpa using zeA a0 a1 x hx) (fun v1 cv1 h=> ?_)
 obtain⟨y2,hy2,h⟩:=zaD h
 have hy2':=(zaG hy2).2.2
 refine zaa (fun _=>zaH (kk:= .i64) (f:=zbW) (by simp) (by simp) hy2 (by simp)) ?_
 refine zaa (by simp [hy2']) ?_
 exact zad (av:=zbW) h (by simp [hy2'])
def zgk:Tr:= .chk [] (.agg (.var 0) 4)<| .chk [] (.agg (.var 1) 3)<| .call [] (.inl 90) (.cons (.mk (.cons (.fld (.var 1) 0 1 false) (.cons (.fld (.var 1) 1 1 false) (.cons (.fld (.var 1) 2 1 false) .nil)))) (.cons (.fld (.var 0) 0 1 false) .nil))<| .chk [] (.agg (.var 2) 3)<| .ret (.fld (.var 2) 2 1 false)
theorem zjj:zbj Tryz.prog sgs 66=some zgk:=by kernel_rfl
theorem zgs (a0:zaB) (a1:zab) (r:Int) (h:zbh a0 a1=some r):Rts Tryz.prog sgs 66 [zcS a0,zae a1] (.int .i64 r):=by
 refine zah zjj (by kernel_rfl) ?_
 unfold Den zgk
 unfold zbh at h
 refine zaa (by simp) ?_
 refine zaa (by simp) ?_
 refine zac zbW h (fun x hx=>by simpa using zfR a1 a0.fName x hx) (fun v1 cv1 h=> ?_)
 refine zaa (by simp) ?_
 exact zad (av:=zaw) h (by simp)
def zgu:Tr:= .chk [] (.dfd (.len (.var 0)))<| .nilq [] (.var 0)<| .ite (.var 1) ( .ret (.lst .nil)) ( .chk [] (.room (.lst .nil) (.var 0) 16)<| .chk [] (.flatS (.var 0) 1)<| .ret (.app (.lst .nil) (.var 0)))
theorem zgw:zbj Tryz.prog sgs 117=some zgu:=by kernel_rfl
theorem zdX (xs:List (List UInt8)) (r:List (List UInt8)) (h:za7 xs=some r):Rts Tryz.prog sgs 117 [.sl (xs.map zal)] (.sl (r.map zal)):=zah zgw (by kernel_rfl) (ztE (bytes:=16) (sz:=1) (av:=zal) (by simp) h)
def zfx:Tr:= .chk [] (.dfd (.len (.var 0)))<| .nilq [] (.var 0)<| .ite (.var 1) ( .ret (.lst .nil)) ( .chk [] (.room (.lst .nil) (.var 0) 32)<| .chk [] (.flatS (.var 0) 3)<| .ret (.app (.lst .nil) (.var 0)))
theorem zfC:zbj Tryz.prog sgs 124=some zfx:=by kernel_rfl
theorem zfw (xs:List zb8) (r:List zb8) (h:zbM xs=some r):Rts Tryz.prog sgs 124 [.sl (xs.map zbW)] (.sl (r.map zbW)):=zah zfC (by kernel_rfl) (ztE (bytes:=32) (sz:=3) (av:=zbW) (by simp) h)
def zi6:Tr:= .chk [] (.agg (.var 0) 3)<| .call [] (.inl 117) (.cons (.fld (.var 0) 1 1 false) .nil)<| .call [] (.inl 124) (.cons (.fld (.var 0) 2 1 false) .nil)<| .chk [] (.cells (.fld (.var 0) 0 1 false) 1)<| .ret (.mk (.cons (.fld (.var 0) 0 1 false) (.cons (.var 1) (.cons (.var 2) .nil))))
theorem zos:zbj Tryz.prog sgs 91=some zi6:=by kernel_rfl
theorem zje (a0:zab) (r:zab) (h:zdi a0=some r):Rts Tryz.prog sgs 91 [zae a0] (zae r):=by
 refine zah zos (by kernel_rfl) ?_
 unfold Den zi6
 unfold zdi at h
 refine zaa (by simp) ?_
 refine zac zbK h (fun x hx=>by simpa using zdX a0.fCols x hx) (fun v1 cv1 h=> ?_)
 refine zac zwg h (fun x hx=>by simpa using zfw a0.fIdxs x hx) (fun v2 cv2 h=> ?_)
 refine zaa (by simp) ?_
 exact zad (av:=zae) h (by simp)
def zfP:Tr:= .chk [] (.agg (.var 0) 3)<| .call [] (.inl 91) (.cons (.mk (.cons (.fld (.var 0) 0 1 false) (.cons (.fld (.var 0) 1 1 false) (.cons (.fld (.var 0) 2 1 false) .nil)))) .nil)<| .call [] (.inl 76) (.cons (.mk (.cons (.fld (.var 0) 0 1 false) (.cons (.fld (.var 0) 1 1 false) (.cons (.fld (.var 0) 2 1 false) .nil)))) (.cons (.var 1) .nil))<| .chk [] (.inb (.var 4) (.fld (.var 3) 2 1 false) 3)<| .chk [] (.flat (.var 2) 1 false)<| .chk [] (.flat (.fld (.idx (.fld (.var 3) 2 1 false) (.var 4)) 2 1 false) 1 false)<| .ret (.mk (.cons (.fld (.var 3) 0 1 false) (.cons (.fld (.var 3) 1 1 false) (.cons (.set (.fld (.var 3) 2 1 false) (.var 4) (.put (.idx (.fld (.var 3) 2 1 false) (.var 4)) 2 (.var 2) true)) .nil))))
theorem zil:zbj Tryz.prog sgs 92=some zfP:=by kernel_rfl
theorem zfO (a0:zab) (a1:List UInt8) (a2:Int) (r:zab) (h:zbn a0 a1 a2=some r):Rts Tryz.prog sgs 92 [zae a0, .str a1, .int .i64 a2] (zae r):=by
 refine zah zil (by kernel_rfl) ?_
 unfold Den zfP
 unfold zbn at h
 refine zaa (by simp) ?_
 refine zac zae h (fun x hx=>by simpa using zje a0 x hx) (fun v1 cv1 h=> ?_)
 refine zac zaw h (fun x hx=>by simpa using zeA a0 a1 x hx) (fun v2 cv2 h=> ?_)
 obtain⟨y3,hy3,h⟩:=zaD h
 have hy3':=(zaG hy3).2.2
 refine zaa (fun _=>zaH (kk:= .i64) (f:=zbW) (by simp) (by simp) hy3 (by simp)) ?_
 refine zaa (by simp) ?_
 refine zaa (by simp [hy3']) ?_
 exact zad (av:=zae) h (by simp [hy3'])
def zhm:Tr:= .chk [] (.agg (.var 0) 3)<| .call [] (.inl 90) (.cons (.mk (.cons (.fld (.var 0) 0 1 false) (.cons (.fld (.var 0) 1 1 false) (.cons (.fld (.var 0) 2 1 false) .nil)))) (.cons (.var 1) .nil))<| .chk [] (.agg (.var 3) 3)<| .call [] (.inl 91) (.cons (.mk (.cons (.fld (.var 0) 0 1 false) (.cons (.fld (.var 0) 1 1 false) (.cons (.fld (.var 0) 2 1 false) .nil)))) .nil)<| .chk [] (.agg (.mk (.cons (.fld (.var 4) 0 1 false) (.cons (.fld (.var 4) 1 1 false) (.cons (.fld (.var 4) 2 1 false) .nil)))) 3)<| .loop (.cons (.fld (.var 3) 2 1 false) (.cons (.lst (.cons (.mk (.cons (.fld (.var 4) 0 1 false) (.cons (.fld (.var 4) 1 1 false) (.cons (.fld (.var 4) 2 1 false) .nil)))) .nil)) .nil)) ( .chk [] (.dfd (.bin .neq (.var 5) (.var 2)))<| .ite (.bin .neq (.var 5) (.var 2)) ( .join ( .chk [] (.dfd (.bin .lss (.var 5) (.var 2)))<| .ite (.bin .lss (.var 5) (.var 2)) ( .chk [] (.dfd (.bin .add (.var 5) (.int .i64 (1))))<| .jmp 0 (.cons (.bin .add (.var 5) (.int .i64 (1))) .nil)) ( .chk [] (.dfd (.bin .sub (.var 5) (.int .i64 (1))))<| .jmp 0 (.cons (.bin .sub (.var 5) (.int .i64 (1))) .nil))) ( .call [] (.inl 92) (.cons (.mk (.cons (.fld (.var 0) 0 1 false) (.cons (.fld (.var 0) 1 1 false) (.cons (.fld (.var 0) 2 1 false) .nil)))) (.cons (.var 1) (.cons (.var 7) .nil)))<| .chk [] (.agg (.mk (.cons (.fld (.var 8) 0 1 false) (.cons (.fld (.var 8) 1 1 false) (.cons (.fld (.var 8) 2 1 false) .nil)))) 3)<| .chk [] (.room (.var 6) (.lst (.cons (.mk (.cons (.fld (.var 8) 0 1 false) (.cons (.fld (.var 8) 1 1 false) (.cons (.fld (.var 8) 2 1 false) .nil)))) .nil)) 64)<| .chk [] (.issl (.lst (.cons (.mk (.cons (.fld (.var 8) 0 1 false) (.cons (.fld (.var 8) 1 1 false) (.cons (.fld (.var 8) 2 1 false) .nil)))) .nil)) 3)<| .jmp 0 (.cons (.var 7) (.cons (.app (.var 6) (.lst (.cons (.mk (.cons (.fld (.var 8) 0 1 false) (.cons (.fld (.var 8) 1 1 false) (.cons (.fld (.var 8) 2 1 false) .nil)))) .nil))) .nil)))) ( .jmp 1 (.cons (.var 6) .nil))) ( .ret (.var 5))
theorem zkG:zbj Tryz.prog sgs 65=some zhm:=by kernel_rfl
theorem zkJ (a0:zab) (a1:List UInt8) (a2:Int) (r:List zab) (h:zcM a0 a1 a2=some r):Rts Tryz.prog sgs 65 [zae a0, .str a1, .int .i64 a2] (.sl (r.map zae)):=by
 refine zah zkG (by kernel_rfl) ?_
 unfold Den zhm
 unfold zcM at h
 refine zaa (by simp) ?_
 refine zac zbW h (fun x hx=>by simpa using zfR a0 a1 x hx) (fun v1 cv1 h=> ?_)
 refine zaa (by simp) ?_
 refine zac zae h (fun x hx=>by simpa using zje a0 x hx) (fun v2 cv2 h=> ?_)
 refine zaa (by simp) ?_
 refine zbB (fun s:Int × List zab=> [.int .i64 s.1, .sl (s.2.map zae)]) h (by simp) (fun W1 A1 s o1 h hn1 hf1 hk1=> ?_)
 obtain⟨v3,v4⟩:=s
 replace h:zba a0 a1 a2 v3 v4=some o1:=h
 unfold zba at h
 refine zaa (by simp) ?_
 refine zam h (by simp) (fun e5 h=> ?_) (fun e5 h=> ?_)
 ·refine zic fun j6 hj6=> ?_
  refine zaa (by simp) ?_
  refine zam h (by simp) (fun e7 h=> ?_) (fun e7 h=> ?_)
  ·refine zaa (by simp) ?_
   refine zaN hj6 rfl (vs:= [.int .i64 (IntKind.i64.wrap (v3+1))]) (by simp) ?_
   refine zac zae h (fun x hx=>by simpa using zfO a0 a1 (IntKind.i64.wrap (v3+1)) x hx) (fun v8 cv8 h=> ?_)
   refine zaa (by simp) ?_
   obtain⟨q9,h⟩:=zfa h
   refine zaa (fun _=>zfU (show _=AV.sl (List.map zae v4)from by simp) (show _=AV.sl (List.map zae ([v8]:List zab))from by simp) (by simpa using q9)) ?_
   refine zaa (fun _=>zi4 zae (show _=AV.sl (List.map zae ([v8]:List zab))from by simp) (by simp)) ?_
   exact za4 (K:=fun s=>some (Sum.inl s)) (s:=((IntKind.i64.wrap (v3+1)),(v4++ [v8]))) hn1 h rfl (by simp)
  ·refine zaa (by simp) ?_
   refine zaN hj6 rfl (vs:= [.int .i64 (IntKind.i64.wrap (v3-1))]) (by simp) ?_
   refine zac zae h (fun x hx=>by simpa using zfO a0 a1 (IntKind.i64.wrap (v3-1)) x hx) (fun v10 cv10 h=> ?_)
   refine zaa (by simp) ?_
   obtain⟨q11,h⟩:=zfa h
   refine zaa (fun _=>zfU (show _=AV.sl (List.map zae v4)from by simp) (show _=AV.sl (List.map zae ([v10]:List zab))from by simp) (by simpa using q11)) ?_
   refine zaa (fun _=>zi4 zae (show _=AV.sl (List.map zae ([v10]:List zab))from by simp) (by simp)) ?_
   exact za4 (K:=fun s=>some (Sum.inl s)) (s:=((IntKind.i64.wrap (v3-1)),(v4++ [v10]))) hn1 h rfl (by simp)
 ·refine zaN hk1 rfl (vs:= [.sl (v4.map zae)]) (by simp) ?_
  replace h:=(hf1 _ h)
  exact zad (av:=zkB) h (by simp)
def zaO:Tr:= .chk [] (.dfd (.len (.var 0)))<| .chk [] (.dfd (.len (.var 1)))<| .ite (.bin .neq (.len (.var 0)) (.len (.var 1))) ( .ret (.bool false)) ( .chk [] (.dfd (.len (.var 0)))<| .loop (.cons (.int .i64 (0)) .nil) ( .chk [] (.dfd (.bin .lss (.var 3) (.len (.var 0))))<| .ite (.bin .lss (.var 3) (.len (.var 0))) ( .chk [] (.inb (.var 3) (.var 0) 3)<| .chk [] (.agg (.fld (.idx (.var 0) (.var 3)) 0 3 true) 3)<| .chk [] (.inb (.var 3) (.var 1) 3)<| .chk [] (.agg (.fld (.idx (.var 1) (.var 3)) 0 3 true) 3)<| .call [] (.inr (.var 2)) (.cons (.mk (.cons (.fld (.fld (.idx (.var 0) (.var 3)) 0 3 true) 0 1 false) (.cons (.fld (.fld (.idx (.var 0) (.var 3)) 0 3 true) 1 1 false) (.cons (.fld (.fld (.idx (.var 0) (.var 3)) 0 3 true) 2 1 false) .nil)))) (.cons (.mk (.cons (.fld (.fld (.idx (.var 1) (.var 3)) 0 3 true) 0 1 false) (.cons (.fld (.fld (.idx (.var 1) (.var 3)) 0 3 true) 1 1 false) (.cons (.fld (.fld (.idx (.var 1) (.var 3)) 0 3 true) 2 1 false) .nil)))) .nil))<| .chk [] (.dfd (.not (.var 4)))<| .ite (.not (.var 4)) ( .ret (.bool false)) ( .chk [] (.dfd (.bin .add (.var 3) (.int .i64 (1))))<| .jmp 0 (.cons (.bin .add (.var 3) (.int .i64 (1))) .nil))) ( .jmp 1 .nil)) ( .ret (.bool true)))
theorem zbO:zbj Tryz.prog sgs 64=some zaO:=by kernel_rfl
theorem zbN (a0:List zab) (a1:List zab) (a2:zab→zab→Option Bool) (g2:Nat) (c2:List AV) (r:Bool) (h:zak a0 a1 a2=some r) (hp2: ∀(y0_:zab) (y1_:zab) b,a2 y0_ y1_=some b→Rts Tryz.prog sgs (1000000+g2) ([zae y0_,zae y1_]++c2) (.bool b)):Rts Tryz.prog sgs 64 [.sl (a0.map zae), .sl (a1.map zae), .fn g2 c2] (.bool r):=by
 refine zah zbO (by kernel_rfl) ?_
 unfold Den zaO
 unfold zak at h
 refine zaa (by simp) ?_
 refine zaa (by simp) ?_
 refine zam h (by simp) (fun e1 h=> ?_) (fun e1 h=> ?_)
 ·have e1':=e1
  try simp only [decide_eq_true_eq,decide_eq_false_iff_not,ge_iff_le,gt_iff_lt,Int.ofNat_le,Int.ofNat_lt]at e1'
  exact zad (av:=avB) h (by simp)
 ·have e1':=e1
  try simp only [decide_eq_true_eq,decide_eq_false_iff_not,ge_iff_le,gt_iff_lt,Int.ofNat_le,Int.ofNat_lt]at e1'
  refine zaa (by simp) ?_
  refine zbB (fun s:Int=> [.int .i64 s]) h (by simp) (fun W1 A1 v2 o1 h hn1 hf1 hk1=> ?_)
  replace h:zaf a0 a1 a2 v2=some o1:=h
  unfold zaf at h
  refine zaa (by simp) ?_
  refine zam h (by simp) (fun e3 h=> ?_) (fun e3 h=> ?_)
  ·obtain⟨y4,hy4,h⟩:=zaD h
   have hy4':=(zaG hy4).2.2
   refine zaa (fun _=>zaH (kk:= .i64) (f:=zae) (by simp) (by simp) hy4 (by simp)) ?_
   refine zaa (by simp [e1,e1',e3,hy4']) ?_
   obtain⟨y5,hy5,h⟩:=zaD h
   have hy5':=(zaG hy5).2.2
   refine zaa (fun _=>zaH (kk:= .i64) (f:=zae) (by simp) (by simp) hy5 (by simp)) ?_
   refine zaa (by simp [e1,e1',e3,hy4',hy5']) ?_
   refine zzY (g:=g2) (caps:=c2) avB h (by simp) (fun x hx=>by simpa [e1,e1',e3,hy4',hy5']using hp2 y4 y5 x hx) (by simp) (fun v6 _ h=> ?_)
   refine zaa (by simp) ?_
   refine zam h (by simp) (fun e7 h=> ?_) (fun e7 h=> ?_)
   ·exact zad (av:=avB) (hf1 _ h) (by simp)
   ·refine zaa (by simp) ?_
    exact za4 (K:=fun s=>some (Sum.inl s)) (s:=(IntKind.i64.wrap (v2+1))) hn1 h rfl (by simp)
  ·refine zaN hk1 rfl (vs:= []) (by simp) ?_
   replace h:=(hf1 _ h)
   exact zad (av:=avB) h (by simp)
def zdS:Tr:= .chk [] (.dfd (.len (.var 0)))<| .chk [] (.dfd (.len (.var 1)))<| .ite (.bin .neq (.len (.var 0)) (.len (.var 1))) ( .ret (.bool false)) ( .chk [] (.dfd (.len (.var 0)))<| .loop (.cons (.int .i64 (0)) .nil) ( .chk [] (.dfd (.bin .lss (.var 2) (.len (.var 0))))<| .ite (.bin .lss (.var 2) (.len (.var 0))) ( .chk [] (.inb (.var 2) (.var 0) 1)<| .chk [] (.inb (.var 2) (.var 1) 1)<| .chk [] (.dfd (.sbin .neq (.fld (.idx (.var 0) (.var 2)) 0 1 false) (.fld (.idx (.var 1) (.var 2)) 0 1 false)))<| .ite (.sbin .neq (.fld (.idx (.var 0) (.var 2)) 0 1 false) (.fld (.idx (.var 1) (.var 2)) 0 1 false)) ( .ret (.bool false)) ( .chk [] (.dfd (.bin .add (.var 2) (.int .i64 (1))))<| .jmp 0 (.cons (.bin .add (.var 2) (.int .i64 (1))) .nil))) ( .jmp 1 .nil)) ( .ret (.bool true)))
theorem zgD:zbj Tryz.prog sgs 93=some zdS:=by kernel_rfl
theorem zgz (a0:List (List UInt8)) (a1:List (List UInt8)) (r:Bool) (h:za5 a0 a1=some r):Rts Tryz.prog sgs 93 [.sl (a0.map zal), .sl (a1.map zal)] (.bool r):=by
 refine zah zgD (by kernel_rfl) ?_
 unfold Den zdS
 unfold za5 at h
 refine zaa (by simp) ?_
 refine zaa (by simp) ?_
 refine zam h (by simp) (fun e1 h=> ?_) (fun e1 h=> ?_)
 ·have e1':=e1
  try simp only [decide_eq_true_eq,decide_eq_false_iff_not,ge_iff_le,gt_iff_lt,Int.ofNat_le,Int.ofNat_lt]at e1'
  exact zad (av:=avB) h (by simp)
 ·have e1':=e1
  try simp only [decide_eq_true_eq,decide_eq_false_iff_not,ge_iff_le,gt_iff_lt,Int.ofNat_le,Int.ofNat_lt]at e1'
  refine zaa (by simp) ?_
  refine zbB (fun s:Int=> [.int .i64 s]) h (by simp) (fun W1 A1 v2 o1 h hn1 hf1 hk1=> ?_)
  replace h:zau a0 a1 v2=some o1:=h
  unfold zau at h
  refine zaa (by simp) ?_
  refine zam h (by simp) (fun e3 h=> ?_) (fun e3 h=> ?_)
  ·obtain⟨y4,hy4,h⟩:=zaD h
   have hy4':=(zaG hy4).2.2
   refine zaa (fun _=>zaH (kk:= .i64) (f:=zal) (by simp) (by simp) hy4 (by simp)) ?_
   obtain⟨y5,hy5,h⟩:=zaD h
   have hy5':=(zaG hy5).2.2
   refine zaa (fun _=>zaH (kk:= .i64) (f:=zal) (by simp) (by simp) hy5 (by simp)) ?_
   refine zaa (by simp [e1,e1',e3,hy4',hy5']) ?_
   refine zam h (by simp [e1,e1',e3,hy4',hy5']) (fun e6 h=> ?_) (fun e6 h=> ?_)
   ·exact zad (av:=avB) (hf1 _ h) (by simp)
   ·refine zaa (by simp) ?_
    exact za4 (K:=fun s=>some (Sum.inl s)) (s:=(IntKind.i64.wrap (v2+1))) hn1 h rfl (by simp)
  ·refine zaN hk1 rfl (vs:= []) (by simp) ?_
   replace h:=(hf1 _ h)
   exact zad (av:=avB) h (by simp)
def zc2:Tr:= .chk [] (.dfd (.len (.var 0)))<| .chk [] (.dfd (.len (.var 1)))<| .ite (.bin .neq (.len (.var 0)) (.len (.var 1))) ( .ret (.bool false)) ( .chk [] (.dfd (.len (.var 0)))<| .loop (.cons (.int .i64 (0)) .nil) ( .chk [] (.dfd (.bin .lss (.var 2) (.len (.var 0))))<| .ite (.bin .lss (.var 2) (.len (.var 0))) ( .chk [] (.inb (.var 2) (.var 0) 3)<| .chk [] (.inb (.var 2) (.var 1) 3)<| .chk [] (.kinds (.fld (.idx (.var 0) (.var 2)) 0 3 true) [.str, .int .i64, .int .i64])<| .chk [] (.kinds (.fld (.idx (.var 1) (.var 2)) 0 3 true) [.str, .int .i64, .int .i64])<| .ite (.not (.aeq (.fld (.idx (.var 0) (.var 2)) 0 3 true) (.fld (.idx (.var 1) (.var 2)) 0 3 true))) ( .ret (.bool false)) ( .chk [] (.dfd (.bin .add (.var 2) (.int .i64 (1))))<| .jmp 0 (.cons (.bin .add (.var 2) (.int .i64 (1))) .nil))) ( .jmp 1 .nil)) ( .ret (.bool true)))
theorem zfE:zbj Tryz.prog sgs 94=some zc2:=by kernel_rfl
theorem zfF (a0:List zb8) (a1:List zb8) (r:Bool) (h:zaL a0 a1=some r):Rts Tryz.prog sgs 94 [.sl (a0.map zbW), .sl (a1.map zbW)] (.bool r):=by
 refine zah zfE (by kernel_rfl) ?_
 unfold Den zc2
 unfold zaL at h
 refine zaa (by simp) ?_
 refine zaa (by simp) ?_
 refine zam h (by simp) (fun e1 h=> ?_) (fun e1 h=> ?_)
 ·have e1':=e1
  try simp only [decide_eq_true_eq,decide_eq_false_iff_not,ge_iff_le,gt_iff_lt,Int.ofNat_le,Int.ofNat_lt]at e1'
  exact zad (av:=avB) h (by simp)
 ·have e1':=e1
  try simp only [decide_eq_true_eq,decide_eq_false_iff_not,ge_iff_le,gt_iff_lt,Int.ofNat_le,Int.ofNat_lt]at e1'
  refine zaa (by simp) ?_
  refine zbB (fun s:Int=> [.int .i64 s]) h (by simp) (fun W1 A1 v2 o1 h hn1 hf1 hk1=> ?_)
  replace h:zap a0 a1 v2=some o1:=h
  unfold zap at h
  refine zaa (by simp) ?_
  refine zam h (by simp) (fun e3 h=> ?_) (fun e3 h=> ?_)
  ·obtain⟨y4,hy4,h⟩:=zaD h
   have hy4':=(zaG hy4).2.2
   refine zaa (fun _=>zaH (kk:= .i64) (f:=zbW) (by simp) (by simp) hy4 (by simp)) ?_
   obtain⟨y5,hy5,h⟩:=zaD h
   have hy5':=(zaG hy5).2.2
   refine zaa (fun _=>zaH (kk:= .i64) (f:=zbW) (by simp) (by simp) hy5 (by simp)) ?_
   refine zaa (by simp [e1,e1',e3,hy4',hy5']) ?_
   refine zaa (by simp [e1,e1',e3,hy4',hy5']) ?_
   refine zam h (by simp [e1,e1',e3,hy4',hy5']) (fun e6 h=> ?_) (fun e6 h=> ?_)
   ·exact zad (av:=avB) (hf1 _ h) (by simp)
   ·refine zaa (by simp) ?_
    exact za4 (K:=fun s=>some (Sum.inl s)) (s:=(IntKind.i64.wrap (v2+1))) hn1 h rfl (by simp)
  ·refine zaN hk1 rfl (vs:= []) (by simp) ?_
   replace h:=(hf1 _ h)
   exact zad (av:=avB) h (by simp)
def zjg:Tr:= .chk [] (.agg (.var 0) 3)<| .chk [] (.agg (.var 1) 3)<| .chk [] (.dfd (.sbin .eql (.fld (.var 0) 0 1 false) (.fld (.var 1) 0 1 false)))<| .call [((.sbin .eql (.fld (.var 0) 0 1 false) (.fld (.var 1) 0 1 false)),true)] (.inl 93) (.cons (.fld (.var 0) 1 1 false) (.cons (.fld (.var 1) 1 1 false) .nil))<| .chk [] (.dfd (.not (.sbin .eql (.fld (.var 0) 0 1 false) (.fld (.var 1) 0 1 false))))<| .call [((.ite (.sbin .eql (.fld (.var 0) 0 1 false) (.fld (.var 1) 0 1 false)) (.var 2) (.bool false)),true)] (.inl 94) (.cons (.fld (.var 0) 2 1 false) (.cons (.fld (.var 1) 2 1 false) .nil))<| .chk [] (.dfd (.not (.ite (.sbin .eql (.fld (.var 0) 0 1 false) (.fld (.var 1) 0 1 false)) (.var 2) (.bool false))))<| .ret (.ite (.ite (.sbin .eql (.fld (.var 0) 0 1 false) (.fld (.var 1) 0 1 false)) (.var 2) (.bool false)) (.var 3) (.bool false))
theorem zn6:zbj Tryz.prog sgs 67=some zjg:=by kernel_rfl
theorem zoa (a0:zab) (a1:zab) (r:Bool) (h:zbx a0 a1=some r):Rts Tryz.prog sgs 67 [zae a0,zae a1] (.bool r):=by
 refine zah zn6 (by kernel_rfl) ?_
 unfold Den zjg
 unfold zbx at h
 refine zaa (by simp) ?_
 refine zaa (by simp) ?_
 refine zaa (by simp) ?_
 refine zav h (fun e1 h=> ?_) (fun e1 h=> ?_)
 ·refine zac avB h (fun x hx=>by simpa using zgz a0.fCols a1.fCols x hx) (fun v2 cv2 h=> ?_)
  refine zaa (by simp) ?_
  refine zav h (fun e3 h=> ?_) (fun e3 h=> ?_)
  ·refine zac avB h (fun x hx=>by simpa using zfF a0.fIdxs a1.fIdxs x hx) (fun v4 cv4 h=> ?_)
   refine zaa (by simp [e1,e3]) ?_
   exact zad (av:=avB) h (by simp [e1,e3])
  ·refine zaJ (by simp [e1,e3]) ?_
   refine zaa (by simp [e1,e3]) ?_
   exact zad (av:=avB) h (by simp [e1,e3])
 ·refine zaJ (by simp [e1]) ?_
  refine zaa (by simp) ?_
  refine zaJ (by simp [e1]) ?_
  refine zaa (by simp [e1]) ?_
  exact zad (av:=avB) h (by simp [e1])
def zi9:Tr:= .chk [] (.agg (.var 0) 4)<| .chk [] (.dfd (.len (.fld (.var 0) 1 1 false)))<| .call [] (.inl 28) (.cons (.len (.fld (.var 0) 1 1 false)) (.cons (.int .i64 (1)) (.cons (.int .i64 (4)) .nil)))<| .chk [] (.dfd (.not (.var 1)))<| .chk [((.not (.var 1)),false)] (.dfd (.len (.fld (.var 0) 2 1 false)))<| .call [((.not (.var 1)),false)] (.inl 28) (.cons (.len (.fld (.var 0) 2 1 false)) (.cons (.int .i64 (1)) (.cons (.int .i64 (3)) .nil)))<| .chk [((.not (.var 1)),false)] (.dfd (.not (.var 2)))<| .chk [] (.dfd (.not (.not (.var 1))))<| .call [((.ite (.not (.var 1)) (.bool true) (.not (.var 2))),false)] (.inl 52) (.cons (.fld (.var 0) 3 1 false) .nil)<| .chk [((.ite (.not (.var 1)) (.bool true) (.not (.var 2))),false)] (.dfd (.not (.var 3)))<| .chk [] (.dfd (.not (.ite (.not (.var 1)) (.bool true) (.not (.var 2)))))<| .ite (.ite (.ite (.not (.var 1)) (.bool true) (.not (.var 2))) (.bool true) (.not (.var 3))) ( .ret (.bool false)) ( .call [] (.inl 60) (.cons (.fld (.var 0) 1 1 false) (.cons (.fn 61 (.cons (.ref (.mk (.cons (.fld (.var 0) 0 1 false) (.cons (.fld (.var 0) 1 1 false) (.cons (.fld (.var 0) 2 1 false) (.cons (.fld (.var 0) 3 1 false) .nil)))))) .nil)) .nil))<| .ite (.var 4) ( .ret (.bool false)) ( .call [] (.inl 62) (.cons (.fld (.var 0) 2 1 false) (.cons (.fn 63 (.cons (.ref (.mk (.cons (.fld (.var 0) 0 1 false) (.cons (.fld (.var 0) 1 1 false) (.cons (.fld (.var 0) 2 1 false) (.cons (.fld (.var 0) 3 1 false) .nil)))))) .nil)) .nil))<| .ite (.var 5) ( .ret (.bool false)) ( .chk [] (.inb (.int .i64 (0)) (.fld (.var 0) 1 1 false) 3)<| .chk [] (.dfd (.len (.fld (.var 0) 1 1 false)))<| .chk [] (.inb (.bin .sub (.len (.fld (.var 0) 1 1 false)) (.int .i64 (1))) (.fld (.var 0) 1 1 false) 3)<| .call [] (.inl 66) (.cons (.mk (.cons (.fld (.var 0) 0 1 false) (.cons (.fld (.var 0) 1 1 false) (.cons (.fld (.var 0) 2 1 false) (.cons (.fld (.var 0) 3 1 false) .nil))))) (.cons (.fld (.idx (.fld (.var 0) 1 1 false) (.bin .sub (.len (.fld (.var 0) 1 1 false)) (.int .i64 (1)))) 0 3 true) .nil))<| .call [] (.inl 65) (.cons (.fld (.idx (.fld (.var 0) 1 1 false) (.int .i64 (0))) 0 3 true) (.cons (.fld (.var 0) 0 1 false) (.cons (.var 6) .nil)))<| .call [] (.inl 64) (.cons (.fld (.var 0) 1 1 false) (.cons (.var 7) (.cons (.fn 67 .nil) .nil)))<| .ret (.var 8))))
theorem zon:zbj Tryz.prog sgs 39=some zi9:=by kernel_rfl
theorem zob (a0:zaB) (r:Bool) (h:zeq a0=some r):Rts Tryz.prog sgs 39 [zcS a0] (.bool r):=by
 refine zah zon (by kernel_rfl) ?_
 unfold Den zi9
 unfold zeq at h
 refine zaa (by simp) ?_
 refine zaa (by simp) ?_
 refine zac avB h (fun x hx=>by simpa using zct (a0.fWays.length:Int) 1 4 x hx) (fun v1 cv1 h=> ?_)
 refine zaa (by simp) ?_
 refine zaa (by simp) ?_
 refine zav h (fun e2 h=> ?_) (fun e2 h=> ?_)
 ·refine zac avB h (fun x hx=>by simpa using zct (a0.fAt.length:Int) 1 3 x hx) (fun v3 cv3 h=> ?_)
  refine zaa (by simp) ?_
  refine zaa (by simp) ?_
  refine zav h (fun e4 h=> ?_) (fun e4 h=> ?_)
  ·refine zac avB h (fun x hx=>by simpa using zmx a0.fStore x hx) (fun v5 cv5 h=> ?_)
   refine zaa (by simp) ?_
   refine zaa (by simp [e2,e4]) ?_
   refine zam h (by simp [e2,e4]) (fun e6 h=> ?_) (fun e6 h=> ?_)
   ·exact zad (av:=avB) h (by simp)
   ·refine zac avB h (fun x hx=>by simpa using zdH a0.fWays (fun y0_=>zdo y0_ a0) _ [zoK a0] x hx (fun y0_ b hb=>zg9 (zmn y0_ a0 b hb) (by kernel_rfl))) (fun v7 cv7 h=> ?_)
    refine zam h (by simp) (fun e8 h=> ?_) (fun e8 h=> ?_)
    ·exact zad (av:=avB) h (by simp)
    ·refine zac avB h (fun x hx=>by simpa using zge a0.fAt (fun y0_=>zds y0_ a0) _ [zoK a0] x hx (fun y0_ b hb=>zg9 (zl6 y0_ a0 b hb) (by kernel_rfl))) (fun v9 cv9 h=> ?_)
     refine zam h (by simp) (fun e10 h=> ?_) (fun e10 h=> ?_)
     ·exact zad (av:=avB) h (by simp)
     ·obtain⟨y11,hy11,h⟩:=zaD h
      have hy11':=(zaG hy11).2.2
      try simp at hy11'
      refine zaa (fun _=>zaH (kk:= .i64) (f:=zae) (by simp) (by simp) hy11 (by simp)) ?_
      refine zaa (by simp) ?_
      obtain⟨y12,hy12,h⟩:=zaD h
      have hy12':=(zaG hy12).2.2
      try simp at hy12'
      refine zaa (fun _=>zaH (kk:= .i64) (f:=zae) (by simp) (by simp) hy12 (by simp)) ?_
      refine zac zaw h (fun x hx=>by simpa [e2,e4,e6,e8,e10,hy11',hy12']using zgs a0 y12 x hx) (fun v13 cv13 h=> ?_)
      refine zac zkB h (fun x hx=>by simpa [e2,e4,e6,e8,e10,hy11',hy12']using zkJ y11 a0.fName v13 x hx) (fun v14 cv14 h=> ?_)
      refine zac avB h (fun x hx=>by simpa using zbN a0.fWays v14 (fun y0_ y1_=>zbx y0_ y1_) _ [] x hx (fun y0_ y1_ b hb=>zg9 (zoa y0_ y1_ b hb) (by kernel_rfl))) (fun v15 cv15 h=> ?_)
      exact zad (av:=avB) h (by simp)
  ·refine zaJ (by simp [e2,e4]) ?_
   refine zaa (by simp [e2,e4]) ?_
   refine zaa (by simp [e2,e4]) ?_
   refine zdt (by simp [e2,e4]) ?_
   exact zad (av:=avB) h (by simp)
 ·refine zaJ (by simp [e2]) ?_
  refine zaa (by simp [e2]) ?_
  refine zaa (by simp) ?_
  refine zaJ (by simp [e2]) ?_
  refine zaa (by simp [e2]) ?_
  refine zaa (by simp [e2]) ?_
  refine zdt (by simp [e2]) ?_
  exact zad (av:=avB) h (by simp)
def zhl:Tr:= .chk [] (.agg (.var 0) 4)<| .chk [] (.inb (.var 1) (.fld (.var 0) 2 1 false) 1)<| .chk [] (.inb (.fld (.idx (.fld (.var 0) 2 1 false) (.var 1)) 0 1 false) (.fld (.var 0) 1 1 false) 3)<| .chk [] (.agg (.fld (.idx (.fld (.var 0) 1 1 false) (.fld (.idx (.fld (.var 0) 2 1 false) (.var 1)) 0 1 false)) 0 3 true) 3)<| .ret (.mk (.cons (.fld (.fld (.idx (.fld (.var 0) 1 1 false) (.fld (.idx (.fld (.var 0) 2 1 false) (.var 1)) 0 1 false)) 0 3 true) 0 1 false) (.cons (.fld (.fld (.idx (.fld (.var 0) 1 1 false) (.fld (.idx (.fld (.var 0) 2 1 false) (.var 1)) 0 1 false)) 0 3 true) 1 1 false) (.cons (.fld (.fld (.idx (.fld (.var 0) 1 1 false) (.fld (.idx (.fld (.var 0) 2 1 false) (.var 1)) 0 1 false)) 0 3 true) 2 1 false) .nil))))
theorem zkO:zbj Tryz.prog sgs 95=some zhl:=by kernel_rfl
theorem zkN (a0:zaB) (a1:Int) (r:zab) (h:zcL a0 a1=some r):Rts Tryz.prog sgs 95 [zcS a0, .int .i64 a1] (zae r):=by
 refine zah zkO (by kernel_rfl) ?_
 unfold Den zhl
 unfold zcL at h
 refine zaa (by simp) ?_
 obtain⟨y1,hy1,h⟩:=zaD h
 have hy1':=(zaG hy1).2.2
 refine zaa (fun _=>zaH (kk:= .i64) (f:=zaw) (by simp) (by simp) hy1 (by simp)) ?_
 obtain⟨y2,hy2,h⟩:=zaD h
 have hy2':=(zaG hy2).2.2
 refine zaa (fun _=>zaH (kk:= .i64) (f:=zae) (by simp [hy1']) (by simp) hy2 (by simp)) ?_
 refine zaa (by simp [hy1',hy2']) ?_
 exact zad (av:=zae) h (by simp [hy1',hy2'])
def zhM:Tr:= .chk [] (.agg (.var 0) 4)<| .chk [] (.dfd (.len (.fld (.var 0) 2 1 false)))<| .loop (.cons (.int .i64 (1)) (.cons (.int .i64 (0)) .nil)) ( .chk [] (.dfd (.bin .lss (.var 2) (.len (.fld (.var 0) 2 1 false))))<| .ite (.bin .lss (.var 2) (.len (.fld (.var 0) 2 1 false))) ( .join ( .call [] (.inl 95) (.cons (.mk (.cons (.fld (.var 0) 0 1 false) (.cons (.fld (.var 0) 1 1 false) (.cons (.fld (.var 0) 2 1 false) (.cons (.fld (.var 0) 3 1 false) .nil))))) (.cons (.var 2) .nil))<| .call [] (.inl 66) (.cons (.mk (.cons (.fld (.var 0) 0 1 false) (.cons (.fld (.var 0) 1 1 false) (.cons (.fld (.var 0) 2 1 false) (.cons (.fld (.var 0) 3 1 false) .nil))))) (.cons (.var 3) .nil))<| .chk [] (.dfd (.bin .eql (.var 4) (.int .i64 (3))))<| .ite (.bin .eql (.var 4) (.int .i64 (3))) ( .ret (.int .i64 (2))) ( .chk [] (.dfd (.bin .eql (.var 4) (.int .i64 (0))))<| .ite (.bin .eql (.var 4) (.int .i64 (0))) ( .jmp 0 (.cons (.int .i64 (0)) .nil)) ( .jmp 0 (.cons (.var 1) .nil)))) ( .chk [] (.dfd (.bin .add (.var 2) (.int .i64 (1))))<| .jmp 0 (.cons (.var 3) (.cons (.bin .add (.var 2) (.int .i64 (1))) .nil)))) ( .jmp 1 (.cons (.var 1) .nil))) ( .ret (.var 1))
theorem zlT:zbj Tryz.prog sgs 68=some zhM:=by kernel_rfl
theorem zlZ (a0:zaB) (r:Int) (h:zc6 a0=some r):Rts Tryz.prog sgs 68 [zcS a0] (.int .i64 r):=by
 refine zah zlT (by kernel_rfl) ?_
 unfold Den zhM
 unfold zc6 at h
 refine zaa (by simp) ?_
 refine zaa (by simp) ?_
 refine zbB (fun s:Int × Int=> [.int .i64 s.1, .int .i64 s.2]) h (by simp) (fun W1 A1 s o1 h hn1 hf1 hk1=> ?_)
 obtain⟨v1,v2⟩:=s
 replace h:za3 a0 v1 v2=some o1:=h
 unfold za3 at h
 refine zaa (by simp) ?_
 refine zam h (by simp) (fun e3 h=> ?_) (fun e3 h=> ?_)
 ·refine zic fun j4 hj4=> ?_
  refine zac zae h (fun x hx=>by simpa using zkN a0 v2 x hx) (fun v5 cv5 h=> ?_)
  refine zac zaw h (fun x hx=>by simpa using zgs a0 v5 x hx) (fun v6 cv6 h=> ?_)
  refine zaa (by simp) ?_
  refine zam h (by simp) (fun e7 h=> ?_) (fun e7 h=> ?_)
  ·exact zad (av:=zaw) (hf1 _ h) (by simp)
  ·refine zaa (by simp) ?_
   refine zam h (by simp) (fun e8 h=> ?_) (fun e8 h=> ?_)
   ·refine zaN hj4 rfl (vs:= [.int .i64 0]) (by simp) ?_
    refine zaa (by simp) ?_
    exact za4 (K:=fun s=>some (Sum.inl s)) (s:=(0,(IntKind.i64.wrap (v2+1)))) hn1 h rfl (by simp)
   ·refine zaN hj4 rfl (vs:= [.int .i64 v1]) (by simp) ?_
    refine zaa (by simp) ?_
    exact za4 (K:=fun s=>some (Sum.inl s)) (s:=(v1,(IntKind.i64.wrap (v2+1)))) hn1 h rfl (by simp)
 ·refine zaN hk1 rfl (vs:= [.int .i64 v1]) (by simp) ?_
  replace h:=(hf1 _ h)
  exact zad (av:=zaw) h (by simp)
def zgo:Tr:= .chk [] (.agg (.var 0) 3)<| .chk [] (.roomS (.fld (.var 0) 0 1 false) (.str (ByteArray.mk #[46])))<| .chk [] (.dfd (.sbin .add (.fld (.var 0) 0 1 false) (.str (ByteArray.mk #[46]))))<| .chk [] (.roomS (.sbin .add (.fld (.var 0) 0 1 false) (.str (ByteArray.mk #[46]))) (.var 1))<| .chk [] (.dfd (.sbin .add (.sbin .add (.fld (.var 0) 0 1 false) (.str (ByteArray.mk #[46]))) (.var 1)))<| .chk [] (.roomS (.sbin .add (.sbin .add (.fld (.var 0) 0 1 false) (.str (ByteArray.mk #[46]))) (.var 1)) (.str (ByteArray.mk #[47])))<| .chk [] (.dfd (.sbin .add (.sbin .add (.sbin .add (.fld (.var 0) 0 1 false) (.str (ByteArray.mk #[46]))) (.var 1)) (.str (ByteArray.mk #[47]))))<| .ret (.sbin .add (.sbin .add (.sbin .add (.fld (.var 0) 0 1 false) (.str (ByteArray.mk #[46]))) (.var 1)) (.str (ByteArray.mk #[47])))
theorem zjl:zbj Tryz.prog sgs 113=some zgo:=by kernel_rfl
theorem zgi (a0:zab) (a1:List UInt8) (r:List UInt8) (h:zbD a0 a1=some r):Rts Tryz.prog sgs 113 [zae a0, .str a1] (.str r):=by
 refine zah zjl (by kernel_rfl) ?_
 unfold Den zgo
 unfold zbD at h
 refine zaa (by simp) ?_
 obtain⟨q1,h⟩:=zfa h
 refine zaa (fun _=>zde (show _=AV.str (a0.fName)from by simp) (show _=AV.str (([46]:List UInt8))from by simp) (by simpa using q1)) ?_
 refine zaa (by simp) ?_
 obtain⟨q2,h⟩:=zfa h
 refine zaa (fun _=>zde (show _=AV.str ((a0.fName++([46]:List UInt8)))from by simp) (show _=AV.str (a1)from by simp) (by simpa using q2)) ?_
 refine zaa (by simp) ?_
 obtain⟨q3,h⟩:=zfa h
 refine zaa (fun _=>zde (show _=AV.str (((a0.fName++([46]:List UInt8))++a1))from by simp) (show _=AV.str (([47]:List UInt8))from by simp) (by simpa using q3)) ?_
 refine zaa (by simp) ?_
 exact zad (av:=zal) h (by simp)
def zdD:Tr:= .chk [] (.dfd (.slen (.var 0)))<| .chk [] (.dfd (.slen (.var 1)))<| .chk [((.bin .geq (.slen (.var 0)) (.slen (.var 1))),true)] (.dfd (.slen (.var 1)))<| .chk [((.bin .geq (.slen (.var 0)) (.slen (.var 1))),true)] (.winS (.var 0) (.int .i64 (0)) (.slen (.var 1)))<| .chk [((.bin .geq (.slen (.var 0)) (.slen (.var 1))),true)] (.dfd (.sbin .eql (.swin (.var 0) (.int .i64 (0)) (.slen (.var 1))) (.var 1)))<| .chk [] (.dfd (.not (.bin .geq (.slen (.var 0)) (.slen (.var 1)))))<| .ret (.ite (.bin .geq (.slen (.var 0)) (.slen (.var 1))) (.sbin .eql (.swin (.var 0) (.int .i64 (0)) (.slen (.var 1))) (.var 1)) (.bool false))
theorem zga:zbj Tryz.prog sgs 139=some zdD:=by kernel_rfl
theorem zgg (a0:List UInt8) (a1:List UInt8) (r:Bool) (h:za2 a0 a1=some r):Rts Tryz.prog sgs 139 [.str a0, .str a1] (.bool r):=by
 refine zah zga (by kernel_rfl) ?_
 unfold Den zdD
 unfold za2 at h
 refine zaa (by simp) ?_
 refine zaa (by simp) ?_
 refine zaa (by simp) ?_
 refine zav h (fun e1 h=> ?_) (fun e1 h=> ?_)
 ·have e1':=e1
  try simp only [decide_eq_true_eq,decide_eq_false_iff_not,ge_iff_le,gt_iff_lt,Int.ofNat_le,Int.ofNat_lt]at e1'
  obtain⟨q2,h⟩:=zfa h
  refine zaa (fun _=>zmo (ka:= .i64) (kb:= .i64) (a:=0) (b:=(a1.length:Int)) (by simp) (by simp) (show _=AV.str (a0)from by simp) (by simpa using q2)) ?_
  refine zaa (by simp) ?_
  refine zaa (by simp) ?_
  exact zad (av:=avB) h (by simp [e1,e1'])
 ·have e1':=e1
  try simp only [decide_eq_true_eq,decide_eq_false_iff_not,ge_iff_le,gt_iff_lt,Int.ofNat_le,Int.ofNat_lt]at e1'
  refine zaa (by simp [e1,e1']) ?_
  refine zaa (by simp [e1,e1']) ?_
  refine zaa (by simp) ?_
  exact zad (av:=avB) h (by simp [e1,e1'])
def zdE:Tr:= .call [] (.inl 139) (.cons (.var 0) (.cons (.var 1) .nil))<| .chk [] (.dfd (.not (.var 2)))<| .ite (.not (.var 2)) ( .ret (.tup (.cons (.var 0) (.cons (.bool false) .nil)))) ( .chk [] (.dfd (.slen (.var 1)))<| .chk [] (.winS (.var 0) (.slen (.var 1)) (.slen (.var 0)))<| .ret (.tup (.cons (.swin (.var 0) (.slen (.var 1)) (.slen (.var 0))) (.cons (.bool true) .nil))))
theorem zgc:zbj Tryz.prog sgs 132=some zdE:=by kernel_rfl
theorem zgf (a0:List UInt8) (a1:List UInt8) (r:List UInt8 × Bool) (h:zbp a0 a1=some r):Rts Tryz.prog sgs 132 [.str a0, .str a1] (zha r):=by
 refine zah zgc (by kernel_rfl) ?_
 unfold Den zdE
 unfold zbp at h
 refine zac avB h (fun x hx=>by simpa using zgg a0 a1 x hx) (fun v1 cv1 h=> ?_)
 refine zaa (by simp) ?_
 refine zam h (by simp) (fun e2 h=> ?_) (fun e2 h=> ?_)
 ·exact zad (av:=zha) h (by simp)
 ·refine zaa (by simp) ?_
  obtain⟨q3,h⟩:=zfa h
  refine zaa (fun _=>zmo (ka:= .i64) (kb:= .i64) (a:=(a1.length:Int)) (b:=(a0.length:Int)) (by simp) (by simp) (show _=AV.str (a0)from by simp) (by simpa using q3)) ?_
  exact zad (av:=zha) h (by simp)
def zhL:Tr:= .call [] (.inl 132) (.cons (.var 0) (.cons (.var 1) .nil))<| .ret (.tup (.cons (.proj (.var 2) 0) (.cons (.proj (.var 2) 1) .nil)))
theorem zlP:zbj Tryz.prog sgs 112=some zhL:=by kernel_rfl
theorem zhH (a0:List UInt8) (a1:List UInt8) (r:List UInt8 × Bool) (h:zcl a0 a1=some r):Rts Tryz.prog sgs 112 [.str a0, .str a1] (zha r):=by
 refine zah zlP (by kernel_rfl) ?_
 unfold Den zhL
 unfold zcl at h
 refine zac zha h (fun x hx=>by simpa using zgf a0 a1 x hx) (fun v1 cv1 h=> ?_)
 exact zad (av:=zha) h (by simp)
def ze7:Tr:= .call [] (.inl 140) (.cons (.var 0) (.cons (.var 1) .nil))<| .chk [] (.dfd (.bin .geq (.var 2) (.int .i64 (0))))<| .ite (.bin .geq (.var 2) (.int .i64 (0))) ( .chk [] (.winS (.var 0) (.int .i64 (0)) (.var 2))<| .chk [] (.dfd (.slen (.var 1)))<| .chk [] (.dfd (.bin .add (.var 2) (.slen (.var 1))))<| .chk [] (.winS (.var 0) (.bin .add (.var 2) (.slen (.var 1))) (.slen (.var 0)))<| .ret (.tup (.cons (.swin (.var 0) (.int .i64 (0)) (.var 2)) (.cons (.swin (.var 0) (.bin .add (.var 2) (.slen (.var 1))) (.slen (.var 0))) (.cons (.bool true) .nil))))) ( .ret (.tup (.cons (.var 0) (.cons (.str (ByteArray.mk #[])) (.cons (.bool false) .nil)))))
theorem zhT:zbj Tryz.prog sgs 133=some ze7:=by kernel_rfl
theorem zhS (a0:List UInt8) (a1:List UInt8) (r:List UInt8 × List UInt8 × Bool) (h:zbz a0 a1=some r):Rts Tryz.prog sgs 133 [.str a0, .str a1] (zaI r):=by
 refine zah zhT (by kernel_rfl) ?_
 unfold Den ze7
 unfold zbz at h
 refine zac zaw h (fun x hx=>by simpa using zeE a0 a1 x hx) (fun v1 cv1 h=> ?_)
 refine zaa (by simp) ?_
 refine zam h (by simp) (fun e2 h=> ?_) (fun e2 h=> ?_)
 ·obtain⟨q4,h⟩:=zfa h
  refine zaa (fun _=>zmo (ka:= .i64) (kb:= .i64) (a:=0) (b:=v1) (by simp) (by simp) (show _=AV.str (a0)from by simp) (by simpa using q4)) ?_
  refine zaa (by simp) ?_
  refine zaa (by simp) ?_
  obtain⟨q3,h⟩:=zfa h
  refine zaa (fun _=>zmo (ka:= .i64) (kb:= .i64) (a:=(IntKind.i64.wrap (v1+(a1.length:Int)))) (b:=(a0.length:Int)) (by simp) (by simp) (show _=AV.str (a0)from by simp) (by simpa using q3)) ?_
  exact zad (av:=zaI) h (by simp)
 ·exact zad (av:=zaI) h (by simp)
def zmr:Tr:= .call [] (.inl 133) (.cons (.var 0) (.cons (.var 1) .nil))<| .ret (.tup (.cons (.proj (.var 2) 0) (.cons (.proj (.var 2) 1) (.cons (.proj (.var 2) 2) .nil))))
theorem zrS:zbj Tryz.prog sgs 114=some zmr:=by kernel_rfl
theorem zsv (a0:List UInt8) (a1:List UInt8) (r:List UInt8 × List UInt8 × Bool) (h:zeg a0 a1=some r):Rts Tryz.prog sgs 114 [.str a0, .str a1] (zaI r):=by
 refine zah zrS (by kernel_rfl) ?_
 unfold Den zmr
 unfold zeg at h
 refine zac zaI h (fun x hx=>by simpa using zhS a0 a1 x hx) (fun v1 cv1 h=> ?_)
 exact zad (av:=zaI) h (by simp)
def zkY:Tr:= .chk [] (.dfd (.slen (.var 0)))<| .call [] (.inl 28) (.cons (.slen (.var 0)) (.cons (.int .i64 (1)) (.cons (.int .i64 (3)) .nil)))<| .call [((.var 1),true)] (.inl 134) (.cons (.var 0) (.cons (.str (ByteArray.mk #[])) .nil))<| .chk [] (.dfd (.not (.var 1)))<| .ret (.ite (.var 1) (.var 2) (.bool false))
theorem zq1:zbj Tryz.prog sgs 115=some zkY:=by kernel_rfl
theorem zia (a0:List UInt8) (r:Bool) (h:zdA a0=some r):Rts Tryz.prog sgs 115 [.str a0] (.bool r):=by
 refine zah zq1 (by kernel_rfl) ?_
 unfold Den zkY
 unfold zdA at h
 refine zaa (by simp) ?_
 refine zac avB h (fun x hx=>by simpa using zct (a0.length:Int) 1 3 x hx) (fun v1 cv1 h=> ?_)
 refine zav h (fun e2 h=> ?_) (fun e2 h=> ?_)
 ·refine zac avB h (fun x hx=>by simpa using zhD a0 ([]:List UInt8) x hx) (fun v3 cv3 h=> ?_)
  refine zaa (by simp) ?_
  exact zad (av:=avB) h (by simp [e2])
 ·refine zaJ (by simp [e2]) ?_
  refine zaa (by simp) ?_
  exact zad (av:=avB) h (by simp [e2])
def zfo:Tr:= .chk [] (.agg (.var 0) 3)<| .call [] (.inl 113) (.cons (.mk (.cons (.fld (.var 0) 0 1 false) (.cons (.fld (.var 0) 1 1 false) (.cons (.fld (.var 0) 2 1 false) .nil)))) (.cons (.var 1) .nil))<| .call [] (.inl 112) (.cons (.var 2) (.cons (.var 3) .nil))<| .call [] (.inl 114) (.cons (.proj (.var 4) 0) (.cons (.str (ByteArray.mk #[47])) .nil))<| .chk [] (.dfd (.not (.proj (.var 4) 1)))<| .chk [((.not (.proj (.var 4) 1)),false)] (.dfd (.not (.proj (.var 5) 2)))<| .chk [] (.dfd (.not (.not (.proj (.var 4) 1))))<| .call [((.ite (.not (.proj (.var 4) 1)) (.bool true) (.not (.proj (.var 5) 2))),false)] (.inl 115) (.cons (.proj (.var 5) 0) .nil)<| .chk [((.ite (.not (.proj (.var 4) 1)) (.bool true) (.not (.proj (.var 5) 2))),false)] (.dfd (.not (.var 6)))<| .chk [] (.dfd (.not (.ite (.not (.proj (.var 4) 1)) (.bool true) (.not (.proj (.var 5) 2)))))<| .call [((.ite (.ite (.not (.proj (.var 4) 1)) (.bool true) (.not (.proj (.var 5) 2))) (.bool true) (.not (.var 6))),false)] (.inl 115) (.cons (.proj (.var 5) 1) .nil)<| .chk [((.ite (.ite (.not (.proj (.var 4) 1)) (.bool true) (.not (.proj (.var 5) 2))) (.bool true) (.not (.var 6))),false)] (.dfd (.not (.var 7)))<| .chk [] (.dfd (.not (.ite (.ite (.not (.proj (.var 4) 1)) (.bool true) (.not (.proj (.var 5) 2))) (.bool true) (.not (.var 6)))))<| .ite (.ite (.ite (.ite (.not (.proj (.var 4) 1)) (.bool true) (.not (.proj (.var 5) 2))) (.bool true) (.not (.var 6))) (.bool true) (.not (.var 7))) ( .ret (.tup (.cons (.str (ByteArray.mk #[])) (.cons (.str (ByteArray.mk #[])) (.cons (.bool false) .nil))))) ( .ret (.tup (.cons (.proj (.var 5) 0) (.cons (.proj (.var 5) 1) (.cons (.bool true) .nil)))))
theorem zh9:zbj Tryz.prog sgs 80=some zfo:=by kernel_rfl
theorem zh8 (a0:zab) (a1:List UInt8) (a2:List UInt8) (r:List UInt8 × List UInt8 × Bool) (h:zbH a0 a1 a2=some r):Rts Tryz.prog sgs 80 [zae a0, .str a1, .str a2] (zaI r):=by
 refine zah zh9 (by kernel_rfl) ?_
 unfold Den zfo
 unfold zbH at h
 refine zaa (by simp) ?_
 refine zac zal h (fun x hx=>by simpa using zgi a0 a1 x hx) (fun v1 cv1 h=> ?_)
 refine zac zha h (fun x hx=>by simpa using zhH a2 v1 x hx) (fun v2 cv2 h=> ?_)
 refine zac zaI h (fun x hx=>by simpa using zsv v2.1 ([47]:List UInt8) x hx) (fun v3 cv3 h=> ?_)
 refine zaa (by simp) ?_
 refine zaa (by simp) ?_
 refine zaa (by simp) ?_
 refine zav h (fun e4 h=> ?_) (fun e4 h=> ?_)
 ·refine zav h (fun e5 h=> ?_) (fun e5 h=> ?_)
  ·refine zac avB h (fun x hx=>by simpa using zia v3.1 x hx) (fun v6 cv6 h=> ?_)
   refine zaa (by simp) ?_
   refine zaa (by simp [e4,e5]) ?_
   refine zav h (fun e7 h=> ?_) (fun e7 h=> ?_)
   ·refine zac avB h (fun x hx=>by simpa using zia v3.2.1 x hx) (fun v8 cv8 h=> ?_)
    refine zaa (by simp) ?_
    refine zaa (by simp [e4,e5,e7]) ?_
    refine zam h (by simp [e4,e5,e7]) (fun e9 h=> ?_) (fun e9 h=> ?_)
    ·exact zad (av:=zaI) h (by simp)
    ·exact zad (av:=zaI) h (by simp)
   ·refine zaJ (by simp [e4,e5,e7]) ?_
    refine zaa (by simp [e4,e5,e7]) ?_
    refine zaa (by simp [e4,e5,e7]) ?_
    refine zdt (by simp [e4,e5,e7]) ?_
    exact zad (av:=zaI) h (by simp)
  ·refine zaJ (by simp [e4,e5]) ?_
   refine zaa (by simp [e4,e5]) ?_
   refine zaa (by simp [e4,e5]) ?_
   refine zaJ (by simp [e4,e5]) ?_
   refine zaa (by simp [e4,e5]) ?_
   refine zaa (by simp [e4,e5]) ?_
   refine zdt (by simp [e4,e5]) ?_
   exact zad (av:=zaI) h (by simp)
 ·refine zaJ (by simp [e4]) ?_
  refine zaa (by simp [e4]) ?_
  refine zaa (by simp [e4]) ?_
  refine zaJ (by simp [e4]) ?_
  refine zaa (by simp [e4]) ?_
  refine zaa (by simp [e4]) ?_
  refine zdt (by simp [e4]) ?_
  exact zad (av:=zaI) h (by simp)
def zfI:Tr:= .chk [] (.agg (.var 0) 3)<| .chk [] (.dfd (.len (.var 2)))<| .loop (.cons (.int .i64 (0)) (.cons (.lst .nil) .nil)) ( .chk [] (.dfd (.bin .lss (.var 3) (.len (.var 2))))<| .ite (.bin .lss (.var 3) (.len (.var 2))) ( .join ( .chk [] (.inb (.var 3) (.var 2) 3)<| .chk [] (.agg (.fld (.idx (.var 2) (.var 3)) 0 3 true) 3)<| .call [] (.inl 80) (.cons (.mk (.cons (.fld (.var 0) 0 1 false) (.cons (.fld (.var 0) 1 1 false) (.cons (.fld (.var 0) 2 1 false) .nil)))) (.cons (.var 1) (.cons (.fld (.fld (.idx (.var 2) (.var 3)) 0 3 true) 0 1 false) .nil)))<| .ite (.proj (.var 5) 2) ( .chk [] (.flat (.fld (.fld (.idx (.var 2) (.var 3)) 0 3 true) 0 1 false) 1 false)<| .chk [] (.room (.var 4) (.lst (.cons (.fld (.fld (.idx (.var 2) (.var 3)) 0 3 true) 0 1 false) .nil)) 16)<| .chk [] (.flatS (.lst (.cons (.fld (.fld (.idx (.var 2) (.var 3)) 0 3 true) 0 1 false) .nil)) 1)<| .jmp 0 (.cons (.app (.var 4) (.lst (.cons (.fld (.fld (.idx (.var 2) (.var 3)) 0 3 true) 0 1 false) .nil))) .nil)) ( .jmp 0 (.cons (.var 4) .nil))) ( .chk [] (.dfd (.bin .add (.var 3) (.int .i64 (1))))<| .jmp 0 (.cons (.bin .add (.var 3) (.int .i64 (1))) (.cons (.var 5) .nil)))) ( .jmp 1 (.cons (.var 4) .nil))) ( .ret (.var 3))
theorem ziB:zbj Tryz.prog sgs 53=some zfI:=by kernel_rfl
theorem zdZ (a0:zab) (a1:List UInt8) (a2:List zag) (r:List (List UInt8)) (h:zbo a0 a1 a2=some r):Rts Tryz.prog sgs 53 [zae a0, .str a1, .sl (a2.map zar)] (.sl (r.map zal)):=by
 refine zah ziB (by kernel_rfl) ?_
 unfold Den zfI
 unfold zbo at h
 refine zaa (by simp) ?_
 refine zaa (by simp) ?_
 refine zbB (fun s:Int × List (List UInt8)=> [.int .i64 s.1, .sl (s.2.map zal)]) h (by simp) (fun W1 A1 s o1 h hn1 hf1 hk1=> ?_)
 obtain⟨v1,v2⟩:=s
 replace h:zaC a0 a1 a2 v1 v2=some o1:=h
 unfold zaC at h
 refine zaa (by simp) ?_
 refine zam h (by simp) (fun e3 h=> ?_) (fun e3 h=> ?_)
 ·refine zic fun j4 hj4=> ?_
  obtain⟨y5,hy5,h⟩:=zaD h
  have hy5':=(zaG hy5).2.2
  refine zaa (fun _=>zaH (kk:= .i64) (f:=zar) (by simp) (by simp) hy5 (by simp)) ?_
  refine zaa (by simp [e3,hy5']) ?_
  refine zac zaI h (fun x hx=>by simpa [e3,hy5']using zh8 a0 a1 y5.fKey x hx) (fun v6 cv6 h=> ?_)
  refine zam h (by simp) (fun e7 h=> ?_) (fun e7 h=> ?_)
  ·refine zaa (by simp [e3,hy5',e7]) ?_
   obtain⟨q8,h⟩:=zfa h
   refine zaa (fun _=>zfU (show _=AV.sl (List.map zal v2)from by simp) (show _=AV.sl (List.map zal ([y5.fKey]:List (List UInt8)))from by simp [e3,hy5',e7]) (by simpa using q8)) ?_
   refine zaa (fun _=>zfY zal (show _=AV.sl (List.map zal ([y5.fKey]:List (List UInt8)))from by simp [e3,hy5',e7]) (by simp)) ?_
   refine zaN hj4 rfl (vs:= [.sl ((v2++ [y5.fKey]).map zal)]) (by simp [e3,hy5',e7]) ?_
   refine zaa (by simp) ?_
   exact za4 (K:=fun s=>some (Sum.inl s)) (s:=((IntKind.i64.wrap (v1+1)),(v2++ [y5.fKey]))) hn1 h rfl (by simp)
  ·refine zaN hj4 rfl (vs:= [.sl (v2.map zal)]) (by simp) ?_
   refine zaa (by simp) ?_
   exact za4 (K:=fun s=>some (Sum.inl s)) (s:=((IntKind.i64.wrap (v1+1)),v2)) hn1 h rfl (by simp)
 ·refine zaN hk1 rfl (vs:= [.sl (v2.map zal)]) (by simp) ?_
  replace h:=(hf1 _ h)
  exact zad (av:=zbK) h (by simp)
def zjO:Tr:= .call [] (.inl 140) (.cons (.var 0) (.cons (.var 1) .nil))<| .ret (.var 2)
theorem zpH:zbj Tryz.prog sgs 159=some zjO:=by kernel_rfl
theorem zps (a0:List UInt8) (a1:List UInt8) (r:Int) (h:zeQ a0 a1=some r):Rts Tryz.prog sgs 159 [.str a0, .str a1] (.int .i64 r):=by
 refine zah zpH (by kernel_rfl) ?_
 unfold Den zjO
 unfold zeQ at h
 refine zac zaw h (fun x hx=>by simpa using zeE a0 a1 x hx) (fun v1 cv1 h=> ?_)
 exact zad (av:=zaw) h (by simp)
def zh2:Tr:= .chk [] (.dfd (.bin .eql (.var 3) (.int .i64 (0))))<| .ite (.bin .eql (.var 3) (.int .i64 (0))) ( .ret (.lst .nil)) ( .chk [] (.dfd (.sbin .eql (.var 1) (.str (ByteArray.mk #[]))))<| .ite (.sbin .eql (.var 1) (.str (ByteArray.mk #[]))) ( .call [] (.inl 157) (.cons (.var 0) (.cons (.var 3) .nil))<| .ret (.var 4)) ( .join ( .chk [] (.dfd (.bin .lss (.var 3) (.int .i64 (0))))<| .ite (.bin .lss (.var 3) (.int .i64 (0))) ( .call [] (.inl 158) (.cons (.var 0) (.cons (.var 1) .nil))<| .chk [] (.dfd (.bin .add (.var 4) (.int .i64 (1))))<| .jmp 0 (.cons (.bin .add (.var 4) (.int .i64 (1))) .nil)) ( .jmp 0 (.cons (.var 3) .nil))) ( .chk [] (.dfd (.slen (.var 0)))<| .chk [] (.dfd (.bin .lss (.bin .add (.slen (.var 0)) (.int .i64 (1))) (.var 4)))<| .chk [] (.mkroom (.ite (.bin .lss (.bin .add (.slen (.var 0)) (.int .i64 (1))) (.var 4)) (.bin .add (.slen (.var 0)) (.int .i64 (1))) (.var 4)) 16)<| .chk [] (.dfd (.bin .sub (.ite (.bin .lss (.bin .add (.slen (.var 0)) (.int .i64 (1))) (.var 4)) (.bin .add (.slen (.var 0)) (.int .i64 (1))) (.var 4)) (.int .i64 (1))))<| .loop (.cons (.var 0) (.cons (.int .i64 (0)) (.cons (.rep (.ite (.bin .lss (.bin .add (.slen (.var 0)) (.int .i64 (1))) (.var 4)) (.bin .add (.slen (.var 0)) (.int .i64 (1))) (.var 4)) (.str (ByteArray.mk #[]))) .nil))) ( .chk [] (.dfd (.bin .lss (.var 6) (.bin .sub (.ite (.bin .lss (.bin .add (.slen (.var 0)) (.int .i64 (1))) (.var 4)) (.bin .add (.slen (.var 0)) (.int .i64 (1))) (.var 4)) (.int .i64 (1)))))<| .ite (.bin .lss (.var 6) (.bin .sub (.ite (.bin .lss (.bin .add (.slen (.var 0)) (.int .i64 (1))) (.var 4)) (.bin .add (.slen (.var 0)) (.int .i64 (1))) (.var 4)) (.int .i64 (1)))) ( .call [] (.inl 159) (.cons (.var 5) (.cons (.var 1) .nil))<| .chk [] (.dfd (.bin .lss (.var 8) (.int .i64 (0))))<| .ite (.bin .lss (.var 8) (.int .i64 (0))) ( .jmp 1 (.cons (.var 5) (.cons (.var 6) (.cons (.var 7) .nil)))) ( .chk [] (.dfd (.bin .add (.var 8) (.var 2)))<| .chk [] (.winS (.var 5) (.int .i64 (0)) (.bin .add (.var 8) (.var 2)))<| .chk [] (.inb (.var 6) (.var 7) 1)<| .chk [] (.flat (.swin (.var 5) (.int .i64 (0)) (.bin .add (.var 8) (.var 2))) 1 false)<| .chk [] (.flat (.fld (.idx (.var 7) (.var 6)) 0 1 false) 1 false)<| .chk [] (.dfd (.slen (.var 1)))<| .chk [] (.dfd (.bin .add (.var 8) (.slen (.var 1))))<| .chk [] (.winS (.var 5) (.bin .add (.var 8) (.slen (.var 1))) (.slen (.var 5)))<| .chk [] (.dfd (.bin .add (.var 6) (.int .i64 (1))))<| .jmp 0 (.cons (.swin (.var 5) (.bin .add (.var 8) (.slen (.var 1))) (.slen (.var 5))) (.cons (.bin .add (.var 6) (.int .i64 (1))) (.cons (.set (.var 7) (.var 6) (.put (.idx (.var 7) (.var 6)) 0 (.swin (.var 5) (.int .i64 (0)) (.bin .add (.var 8) (.var 2))) false)) .nil))))) ( .jmp 1 (.cons (.var 5) (.cons (.var 6) (.cons (.var 7) .nil))))) ( .chk [] (.inb (.var 6) (.var 7) 1)<| .chk [] (.flat (.var 5) 1 false)<| .chk [] (.flat (.fld (.idx (.var 7) (.var 6)) 0 1 false) 1 false)<| .chk [] (.dfd (.bin .add (.var 6) (.int .i64 (1))))<| .chk [] (.issl (.set (.var 7) (.var 6) (.put (.idx (.var 7) (.var 6)) 0 (.var 5) false)) 1)<| .chk [] (.win (.set (.var 7) (.var 6) (.put (.idx (.var 7) (.var 6)) 0 (.var 5) false)) (.int .i64 (0)) (.bin .add (.var 6) (.int .i64 (1))))<| .ret (.win (.set (.var 7) (.var 6) (.put (.idx (.var 7) (.var 6)) 0 (.var 5) false)) (.int .i64 (0)) (.bin .add (.var 6) (.int .i64 (1))))))))
theorem zmW:zbj Tryz.prog sgs 151=some zh2:=by kernel_rfl
theorem zm1 (a0:List UInt8) (a1:List UInt8) (a2:Int) (a3:Int) (r:List (List UInt8)) (h:zeC a0 a1 a2 a3=some r):Rts Tryz.prog sgs 151 [.str a0, .str a1, .int .i64 a2, .int .i64 a3] (.sl (r.map zal)):=by
 refine zah zmW (by kernel_rfl) ?_
 unfold Den zh2
 unfold zeC at h
 refine zaa (by simp) ?_
 refine zam h (by simp) (fun e1 h=> ?_) (fun e1 h=> ?_)
 ·exact zad (av:=zbK) h (by simp)
 ·refine zaa (by simp) ?_
  refine zam h (by simp) (fun e2 h=> ?_) (fun e2 h=> ?_)
  ·refine zac zbK h (fun x hx=>by simpa using znA a0 a3 x hx) (fun v3 cv3 h=> ?_)
   exact zad (av:=zbK) h (by simp)
  ·refine zAy (emb:=(fun s:Int=> [.int .i64 s])) (K:=(fun s=>zbX a0 a1 a2 s)) (r:=r) (fun v5 h=> ?_) (fun j4 hj4=> ?_)
   ·replace h:zbX a0 a1 a2 v5=some r:=h
    unfold zbX at h
    refine zaa (by simp) ?_
    refine zaa (by simp) ?_
    obtain⟨q6,h⟩:=zfa h
    refine zaa (fun _=>zkp (kk:= .i64) (k:=(bif (decide ((IntKind.i64.wrap ((a0.length:Int)+1))<v5))then(IntKind.i64.wrap ((a0.length:Int)+1))else v5)) (by simp [e1,e2]) (by simpa using q6)) ?_
    refine zaa (by simp [e1,e2]) ?_
    refine zhR (fun s:List UInt8 × Int × List (List UInt8)=> [.str s.1, .int .i64 s.2.1, .sl (s.2.2.map zal)]) (fun s:List UInt8 × Int × List (List UInt8)=> [.str s.1, .int .i64 s.2.1, .sl (s.2.2.map zal)]) h (by simp [e1,e2]) (K:=(fun s=>zbQ s.1 s.2.1 s.2.2)) (fun s h=> ?_) (fun W1 A1 s o1 h hn1 hf1 hk1=> ?_)
    ·obtain⟨v7,v8,v9⟩:=s
     replace h:zbQ v7 v8 v9=some r:=h
     unfold zbQ at h
     obtain⟨y10,hy10,h⟩:=zaD h
     have hy10':=(zaG hy10).2.2
     refine zaa (fun _=>zaH (kk:= .i64) (f:=zal) (by simp) (by simp) hy10 (by simp)) ?_
     refine zaa (by simp) ?_
     refine zaa (by simp [e1,e2,hy10']) ?_
     refine zaa (by simp) ?_
     refine zaa (fun _=>zi4 zal (show _=AV.sl (List.map zal (v9.set (v8).toNat v7))from by simp [e1,e2,hy10']) (by simp)) ?_
     obtain⟨q11,h⟩:=zfa h
     refine zaa (fun _=>zwN (ka:= .i64) (kb:= .i64) (a:=0) (b:=(IntKind.i64.wrap (v8+1))) (by simp) (by simp) (show _=AV.sl (List.map zal (v9.set (v8).toNat v7))from by simp [e1,e2,hy10']) (by simpa using q11)) ?_
     exact zad (av:=zbK) h (by simp [e1,e2,hy10'])
    ·obtain⟨v12,v13,v14⟩:=s
     replace h:za9 a0 a1 a2 v5 v12 v13 v14=some o1:=h
     unfold za9 at h
     refine zaa (by simp [e1,e2]) ?_
     refine zam h (by simp [e1,e2]) (fun e15 h=> ?_) (fun e15 h=> ?_)
     ·have e15':=e15
      try simp only [decide_eq_true_eq,decide_eq_false_iff_not,ge_iff_le,gt_iff_lt,Int.ofNat_le,Int.ofNat_lt]at e15'
      refine zac zaw h (fun x hx=>by simpa using zps v12 a1 x hx) (fun v16 cv16 h=> ?_)
      refine zaa (by simp) ?_
      refine zam h (by simp) (fun e17 h=> ?_) (fun e17 h=> ?_)
      ·exact za4 (s:=(v12,v13,v14)) hk1 (hf1 _ h) rfl (by simp)
      ·refine zaa (by simp) ?_
       obtain⟨q20,h⟩:=zfa h
       refine zaa (fun _=>zmo (ka:= .i64) (kb:= .i64) (a:=0) (b:=(IntKind.i64.wrap (v16+a2))) (by simp) (by simp) (show _=AV.str (v12)from by simp) (by simpa using q20)) ?_
       obtain⟨y18,hy18,h⟩:=zaD h
       have hy18':=(zaG hy18).2.2
       refine zaa (fun _=>zaH (kk:= .i64) (f:=zal) (by simp) (by simp) hy18 (by simp)) ?_
       refine zaa (by simp) ?_
       refine zaa (by simp [e1,e2,e15,e15',e17,hy18']) ?_
       refine zaa (by simp) ?_
       refine zaa (by simp) ?_
       obtain⟨q19,h⟩:=zfa h
       refine zaa (fun _=>zmo (ka:= .i64) (kb:= .i64) (a:=(IntKind.i64.wrap (v16+(a1.length:Int)))) (b:=(v12.length:Int)) (by simp) (by simp) (show _=AV.str (v12)from by simp) (by simpa using q19)) ?_
       refine zaa (by simp) ?_
       exact za4 (K:=fun s=>some (Sum.inl s)) (s:=((zhh v12 (IntKind.i64.wrap (v16+(a1.length:Int))) (v12.length:Int)),(IntKind.i64.wrap (v13+1)),(v14.set (v13).toNat (zhh v12 0 (IntKind.i64.wrap (v16+a2)))))) hn1 h rfl (by simp [e1,e2,e15,e15',e17,hy18'])
     ·have e15':=e15
      try simp only [decide_eq_true_eq,decide_eq_false_iff_not,ge_iff_le,gt_iff_lt,Int.ofNat_le,Int.ofNat_lt]at e15'
      exact za4 (s:=(v12,v13,v14)) hk1 (hf1 _ h) rfl (by simp)
   ·refine zaa (by simp) ?_
    refine zam h (by simp) (fun e21 h=> ?_) (fun e21 h=> ?_)
    ·refine zac zaw h (fun x hx=>by simpa using zpV a0 a1 x hx) (fun v22 cv22 h=> ?_)
     refine zaa (by simp) ?_
     exact za4 (s:=(IntKind.i64.wrap (v22+1))) hj4 h rfl (by simp)
    ·exact za4 (s:=a3) hj4 h rfl (by simp)
def zjA:Tr:= .call [] (.inl 151) (.cons (.var 0) (.cons (.var 1) (.cons (.int .i64 (0)) (.cons (.int .i64 (-1)) .nil))))<| .ret (.var 2)
theorem zpr:zbj Tryz.prog sgs 143=some zjA:=by kernel_rfl
theorem zp5 (a0:List UInt8) (a1:List UInt8) (r:List (List UInt8)) (h:zdR a0 a1=some r):Rts Tryz.prog sgs 143 [.str a0, .str a1] (.sl (r.map zal)):=by
 refine zah zpr (by kernel_rfl) ?_
 unfold Den zjA
 unfold zdR at h
 refine zac zbK h (fun x hx=>by simpa using zm1 a0 a1 0 (-1) x hx) (fun v1 cv1 h=> ?_)
 exact zad (av:=zbK) h (by simp)
def zfA:Tr:= .chk [] (.dfd (.len (.var 0)))<| .loop (.cons (.int .i64 (0)) .nil) ( .chk [] (.dfd (.bin .lss (.var 2) (.len (.var 0))))<| .ite (.bin .lss (.var 2) (.len (.var 0))) ( .chk [] (.inb (.var 2) (.var 0) 1)<| .call [] (.inr (.var 1)) (.cons (.fld (.idx (.var 0) (.var 2)) 0 1 false) .nil)<| .ite (.var 3) ( .ret (.var 2)) ( .chk [] (.dfd (.bin .add (.var 2) (.int .i64 (1))))<| .jmp 0 (.cons (.bin .add (.var 2) (.int .i64 (1))) .nil))) ( .jmp 1 .nil)) ( .ret (.int .i64 (-1)))
theorem zfD:zbj Tryz.prog sgs 135=some zfA:=by kernel_rfl
theorem zc4 (xs:List (List UInt8)) (p:(List UInt8)→Option Bool) (g:Nat) (caps:List AV) (r:Int) (h:zbw xs p=some r) (hp: ∀x b,p x=some b→Rts Tryz.prog sgs (1000000+g) ((.str x)::caps) (.bool b)):Rts Tryz.prog sgs 135 [.sl (xs.map zal), .fn g caps] (.int .i64 r):=zah zfD (by kernel_rfl) (zuR (av:=zal) (fun _=>rfl) h hp)
def ze2:Tr:= .call [] (.inl 135) (.cons (.var 0) (.cons (.var 1) .nil))<| .chk [] (.dfd (.bin .geq (.var 2) (.int .i64 (0))))<| .ret (.bin .geq (.var 2) (.int .i64 (0)))
theorem ze1:zbj Tryz.prog sgs 152=some ze2:=by kernel_rfl
theorem ze5 (xs:List (List UInt8)) (p:(List UInt8)→Option Bool) (g:Nat) (caps:List AV) (r:Bool) (h:zaZ xs p=some r) (hp: ∀x b,p x=some b→Rts Tryz.prog sgs (1000000+g) ((.str x)::caps) (.bool b)):Rts Tryz.prog sgs 152 [.sl (xs.map zal), .fn g caps] (.bool r):=zah ze1 (by kernel_rfl) (zrY h fun r hr=>zc4 xs p g caps r hr hp)
def zgq:Tr:= .call [] (.inl 115) (.cons (.var 0) .nil)<| .chk [] (.dfd (.not (.var 1)))<| .ret (.not (.var 1))
theorem zjs:zbj Tryz.prog sgs 153=some zgq:=by kernel_rfl
theorem zjp (a0:List UInt8) (r:Bool) (h:zbG a0=some r):Rts Tryz.prog sgs 153 [.str a0] (.bool r):=by
 refine zah zjs (by kernel_rfl) ?_
 unfold Den zgq
 unfold zbG at h
 refine zac avB h (fun x hx=>by simpa using zia a0 x hx) (fun v1 cv1 h=> ?_)
 refine zaa (by simp) ?_
 exact zad (av:=avB) h (by simp)
def zho:Tr:= .chk [] (.agg (.var 0) 3)<| .chk [] (.agg (.var 1) 1)<| .chk [] (.dfd (.len (.fld (.var 1) 0 1 false)))<| .chk [] (.dfd (.len (.fld (.var 0) 1 1 false)))<| .call [((.bin .eql (.len (.fld (.var 1) 0 1 false)) (.len (.fld (.var 0) 1 1 false))),true)] (.inl 152) (.cons (.fld (.var 1) 0 1 false) (.cons (.fn 153 .nil) .nil))<| .chk [((.bin .eql (.len (.fld (.var 1) 0 1 false)) (.len (.fld (.var 0) 1 1 false))),true)] (.dfd (.not (.var 2)))<| .chk [] (.dfd (.not (.bin .eql (.len (.fld (.var 1) 0 1 false)) (.len (.fld (.var 0) 1 1 false)))))<| .ret (.ite (.bin .eql (.len (.fld (.var 1) 0 1 false)) (.len (.fld (.var 0) 1 1 false))) (.not (.var 2)) (.bool false))
theorem zkM:zbj Tryz.prog sgs 144=some zho:=by kernel_rfl
theorem zkK (a0:zab) (a1:zdN) (r:Bool) (h:zcP a0 a1=some r):Rts Tryz.prog sgs 144 [zae a0,zgh a1] (.bool r):=by
 refine zah zkM (by kernel_rfl) ?_
 unfold Den zho
 unfold zcP at h
 refine zaa (by simp) ?_
 refine zaa (by simp) ?_
 refine zaa (by simp) ?_
 refine zaa (by simp) ?_
 refine zav h (fun e1 h=> ?_) (fun e1 h=> ?_)
 ·have e1':=e1
  try simp only [decide_eq_true_eq,decide_eq_false_iff_not,ge_iff_le,gt_iff_lt,Int.ofNat_le,Int.ofNat_lt]at e1'
  refine zac avB h (fun x hx=>by simpa using ze5 a1.fVals (fun y0_=>zbG y0_) _ [] x hx (fun y0_ b hb=>zg9 (zjp y0_ b hb) (by kernel_rfl))) (fun v2 cv2 h=> ?_)
  refine zaa (by simp) ?_
  refine zaa (by simp) ?_
  exact zad (av:=avB) h (by simp [e1,e1'])
 ·have e1':=e1
  try simp only [decide_eq_true_eq,decide_eq_false_iff_not,ge_iff_le,gt_iff_lt,Int.ofNat_le,Int.ofNat_lt]at e1'
  refine zaJ (by simp [e1,e1']) ?_
  refine zaa (by simp [e1,e1']) ?_
  refine zaa (by simp) ?_
  exact zad (av:=avB) h (by simp [e1,e1'])
end Go.Proofs.YtecngjbpbnfegaaGreatDoor
end

/- Parts of a proof, joined: QR1. -/
import Derived.Test.YtecngjbpbnfegaaGreatDoorK7
section
namespace Go.Proofs.YtecngjbpbnfegaaGreatDoor
open Go.RowKit
set_option maxRecDepth 100000
set_option maxHeartbeats 4000000
def zja:Tr:= .chk [] (.dfd (.len (.var 0)))<| .chk [] (.dfd (.bin .sub (.var 1) (.len (.var 0))))<| .chk [] (.dfd (.bin .lss (.bin .sub (.var 1) (.len (.var 0))) (.int .i64 (0))))<| .ite (.bin .lss (.bin .sub (.var 1) (.len (.var 0))) (.int .i64 (0))) ( .ret (.int .i64 (-1))) ( .loop (.cons (.bin .sub (.var 1) (.len (.var 0))) (.cons (.int .i64 (0)) .nil)) ( .chk [] (.dfd (.len (.var 0)))<| .chk [] (.dfd (.bin .lss (.var 3) (.len (.var 0))))<| .ite (.bin .lss (.var 3) (.len (.var 0))) ( .chk [] (.inb (.var 3) (.var 0) 1)<| .chk [] (.dfd (.slen (.fld (.idx (.var 0) (.var 3)) 0 1 false)))<| .chk [] (.dfd (.bin .sub (.var 2) (.slen (.fld (.idx (.var 0) (.var 3)) 0 1 false))))<| .chk [] (.dfd (.bin .lss (.bin .sub (.var 2) (.slen (.fld (.idx (.var 0) (.var 3)) 0 1 false))) (.int .i64 (0))))<| .ite (.bin .lss (.bin .sub (.var 2) (.slen (.fld (.idx (.var 0) (.var 3)) 0 1 false))) (.int .i64 (0))) ( .ret (.int .i64 (-1))) ( .chk [] (.dfd (.bin .add (.var 3) (.int .i64 (1))))<| .jmp 0 (.cons (.bin .sub (.var 2) (.slen (.fld (.idx (.var 0) (.var 3)) 0 1 false))) (.cons (.bin .add (.var 3) (.int .i64 (1))) .nil)))) ( .jmp 1 (.cons (.var 2) .nil))) ( .ret (.var 2)))
theorem zox:zbj Tryz.prog sgs 18=some zja:=by kernel_rfl
theorem zn8 (a0:List (List UInt8)) (a1:Int) (r:Int) (h:zcG a0 a1=some r):Rts Tryz.prog sgs 18 [.sl (a0.map zal), .int .i64 a1] (.int .i64 r):=by
 refine zah zox (by kernel_rfl) ?_
 unfold Den zja
 unfold zcG at h
 refine zaa (by simp) ?_
 refine zaa (by simp) ?_
 refine zaa (by simp) ?_
 refine zam h (by simp) (fun e1 h=> ?_) (fun e1 h=> ?_)
 ·exact zad (av:=zaw) h (by simp)
 ·refine zbB (fun s:Int × Int=> [.int .i64 s.1, .int .i64 s.2]) h (by simp) (fun W1 A1 s o1 h hn1 hf1 hk1=> ?_)
  obtain⟨v2,v3⟩:=s
  replace h:zay a0 v2 v3=some o1:=h
  unfold zay at h
  refine zaa (by simp) ?_
  refine zaa (by simp) ?_
  refine zam h (by simp) (fun e4 h=> ?_) (fun e4 h=> ?_)
  ·obtain⟨y5,hy5,h⟩:=zaD h
   have hy5':=(zaG hy5).2.2
   refine zaa (fun _=>zaH (kk:= .i64) (f:=zal) (by simp) (by simp) hy5 (by simp)) ?_
   refine zaa (by simp [e1,e4,hy5']) ?_
   refine zaa (by simp [e1,e4,hy5']) ?_
   refine zaa (by simp [e1,e4,hy5']) ?_
   refine zam h (by simp [e1,e4,hy5']) (fun e6 h=> ?_) (fun e6 h=> ?_)
   ·exact zad (av:=zaw) (hf1 _ h) (by simp)
   ·refine zaa (by simp) ?_
    exact za4 (K:=fun s=>some (Sum.inl s)) (s:=((IntKind.i64.wrap (v2-(y5.length:Int))),(IntKind.i64.wrap (v3+1)))) hn1 h rfl (by simp [e1,e4,hy5',e6])
  ·refine zaN hk1 rfl (vs:= [.int .i64 v2]) (by simp) ?_
   replace h:=(hf1 _ h)
   exact zad (av:=zaw) h (by simp)
def znQ:Tr:= .chk [] (.agg (.var 0) 3)<| .chk [] (.dfd (.slen (.fld (.var 0) 0 1 false)))<| .chk [] (.dfd (.bin .sub (.var 1) (.slen (.fld (.var 0) 0 1 false))))<| .chk [] (.dfd (.bin .lss (.bin .sub (.var 1) (.slen (.fld (.var 0) 0 1 false))) (.int .i64 (0))))<| .ite (.bin .lss (.bin .sub (.var 1) (.slen (.fld (.var 0) 0 1 false))) (.int .i64 (0))) ( .ret (.int .i64 (-1))) ( .ret (.bin .sub (.var 1) (.slen (.fld (.var 0) 0 1 false))))
theorem zta:zbj Tryz.prog sgs 43=some znQ:=by kernel_rfl
theorem zsZ (a0:zb8) (a1:Int) (r:Int) (h:zeR a0 a1=some r):Rts Tryz.prog sgs 43 [zbW a0, .int .i64 a1] (.int .i64 r):=by
 refine zah zta (by kernel_rfl) ?_
 unfold Den znQ
 unfold zeR at h
 refine zaa (by simp) ?_
 refine zaa (by simp) ?_
 refine zaa (by simp) ?_
 refine zaa (by simp) ?_
 refine zam h (by simp) (fun e1 h=> ?_) (fun e1 h=> ?_)
 ·exact zad (av:=zaw) h (by simp)
 ·exact zad (av:=zaw) h (by simp)
def zma:Tr:= .chk [] (.dfd (.len (.var 0)))<| .chk [] (.dfd (.bin .sub (.var 1) (.len (.var 0))))<| .chk [] (.dfd (.bin .lss (.bin .sub (.var 1) (.len (.var 0))) (.int .i64 (0))))<| .ite (.bin .lss (.bin .sub (.var 1) (.len (.var 0))) (.int .i64 (0))) ( .ret (.int .i64 (-1))) ( .loop (.cons (.bin .sub (.var 1) (.len (.var 0))) (.cons (.int .i64 (0)) .nil)) ( .chk [] (.dfd (.len (.var 0)))<| .chk [] (.dfd (.bin .lss (.var 3) (.len (.var 0))))<| .ite (.bin .lss (.var 3) (.len (.var 0))) ( .chk [] (.inb (.var 3) (.var 0) 3)<| .call [] (.inl 43) (.cons (.fld (.idx (.var 0) (.var 3)) 0 3 true) (.cons (.var 2) .nil))<| .chk [] (.dfd (.bin .lss (.var 4) (.int .i64 (0))))<| .ite (.bin .lss (.var 4) (.int .i64 (0))) ( .ret (.int .i64 (-1))) ( .chk [] (.dfd (.bin .add (.var 3) (.int .i64 (1))))<| .jmp 0 (.cons (.var 4) (.cons (.bin .add (.var 3) (.int .i64 (1))) .nil)))) ( .jmp 1 (.cons (.var 2) .nil))) ( .ret (.var 2)))
theorem zr2:zbj Tryz.prog sgs 19=some zma:=by kernel_rfl
theorem zr5 (a0:List zb8) (a1:Int) (r:Int) (h:zeb a0 a1=some r):Rts Tryz.prog sgs 19 [.sl (a0.map zbW), .int .i64 a1] (.int .i64 r):=by
 refine zah zr2 (by kernel_rfl) ?_
 unfold Den zma
 unfold zeb at h
 refine zaa (by simp) ?_
 refine zaa (by simp) ?_
 refine zaa (by simp) ?_
 refine zam h (by simp) (fun e1 h=> ?_) (fun e1 h=> ?_)
 ·exact zad (av:=zaw) h (by simp)
 ·refine zbB (fun s:Int × Int=> [.int .i64 s.1, .int .i64 s.2]) h (by simp) (fun W1 A1 s o1 h hn1 hf1 hk1=> ?_)
  obtain⟨v2,v3⟩:=s
  replace h:zaF a0 v2 v3=some o1:=h
  unfold zaF at h
  refine zaa (by simp) ?_
  refine zaa (by simp) ?_
  refine zam h (by simp) (fun e4 h=> ?_) (fun e4 h=> ?_)
  ·obtain⟨y5,hy5,h⟩:=zaD h
   have hy5':=(zaG hy5).2.2
   refine zaa (fun _=>zaH (kk:= .i64) (f:=zbW) (by simp) (by simp) hy5 (by simp)) ?_
   refine zac zaw h (fun x hx=>by simpa [e1,e4,hy5']using zsZ y5 v2 x hx) (fun v6 cv6 h=> ?_)
   refine zaa (by simp) ?_
   refine zam h (by simp) (fun e7 h=> ?_) (fun e7 h=> ?_)
   ·exact zad (av:=zaw) (hf1 _ h) (by simp)
   ·refine zaa (by simp) ?_
    exact za4 (K:=fun s=>some (Sum.inl s)) (s:=(v6,(IntKind.i64.wrap (v3+1)))) hn1 h rfl (by simp)
  ·refine zaN hk1 rfl (vs:= [.int .i64 v2]) (by simp) ?_
   replace h:=(hf1 _ h)
   exact zad (av:=zaw) h (by simp)
def zlv:Tr:= .chk [] (.agg (.var 0) 3)<| .chk [] (.dfd (.slen (.fld (.var 0) 0 1 false)))<| .chk [] (.dfd (.bin .sub (.var 1) (.slen (.fld (.var 0) 0 1 false))))<| .chk [] (.dfd (.bin .lss (.bin .sub (.var 1) (.slen (.fld (.var 0) 0 1 false))) (.int .i64 (0))))<| .ite (.bin .lss (.bin .sub (.var 1) (.slen (.fld (.var 0) 0 1 false))) (.int .i64 (0))) ( .ret (.int .i64 (-1))) ( .call [] (.inl 18) (.cons (.fld (.var 0) 1 1 false) (.cons (.bin .sub (.var 1) (.slen (.fld (.var 0) 0 1 false))) .nil))<| .chk [] (.dfd (.bin .lss (.var 2) (.int .i64 (0))))<| .ite (.bin .lss (.var 2) (.int .i64 (0))) ( .ret (.int .i64 (-1))) ( .call [] (.inl 19) (.cons (.fld (.var 0) 2 1 false) (.cons (.var 2) .nil))<| .chk [] (.dfd (.bin .lss (.var 3) (.int .i64 (0))))<| .ite (.bin .lss (.var 3) (.int .i64 (0))) ( .ret (.int .i64 (-1))) ( .ret (.var 3))))
theorem zqv:zbj Tryz.prog sgs 5=some zlv:=by kernel_rfl
theorem zli (a0:zab) (a1:Int) (r:Int) (h:zcs a0 a1=some r):Rts Tryz.prog sgs 5 [zae a0, .int .i64 a1] (.int .i64 r):=by
 refine zah zqv (by kernel_rfl) ?_
 unfold Den zlv
 unfold zcs at h
 refine zaa (by simp) ?_
 refine zaa (by simp) ?_
 refine zaa (by simp) ?_
 refine zaa (by simp) ?_
 refine zam h (by simp) (fun e1 h=> ?_) (fun e1 h=> ?_)
 ·exact zad (av:=zaw) h (by simp)
 ·refine zac zaw h (fun x hx=>by simpa using zn8 a0.fCols (IntKind.i64.wrap (a1-(a0.fName.length:Int))) x hx) (fun v2 cv2 h=> ?_)
  refine zaa (by simp) ?_
  refine zam h (by simp) (fun e3 h=> ?_) (fun e3 h=> ?_)
  ·exact zad (av:=zaw) h (by simp)
  ·refine zac zaw h (fun x hx=>by simpa using zr5 a0.fIdxs v2 x hx) (fun v4 cv4 h=> ?_)
   refine zaa (by simp) ?_
   refine zam h (by simp) (fun e5 h=> ?_) (fun e5 h=> ?_)
   ·exact zad (av:=zaw) h (by simp)
   ·exact zad (av:=zaw) h (by simp)
def zjE:Tr:= .chk [] (.dfd (.len (.var 0)))<| .chk [] (.dfd (.bin .sub (.var 1) (.len (.var 0))))<| .chk [] (.dfd (.bin .lss (.bin .sub (.var 1) (.len (.var 0))) (.int .i64 (0))))<| .ite (.bin .lss (.bin .sub (.var 1) (.len (.var 0))) (.int .i64 (0))) ( .ret (.int .i64 (-1))) ( .loop (.cons (.bin .sub (.var 1) (.len (.var 0))) (.cons (.int .i64 (0)) .nil)) ( .chk [] (.dfd (.len (.var 0)))<| .chk [] (.dfd (.bin .lss (.var 3) (.len (.var 0))))<| .ite (.bin .lss (.var 3) (.len (.var 0))) ( .chk [] (.inb (.var 3) (.var 0) 3)<| .call [] (.inl 5) (.cons (.fld (.idx (.var 0) (.var 3)) 0 3 true) (.cons (.var 2) .nil))<| .chk [] (.dfd (.bin .lss (.var 4) (.int .i64 (0))))<| .ite (.bin .lss (.var 4) (.int .i64 (0))) ( .ret (.int .i64 (-1))) ( .chk [] (.dfd (.bin .add (.var 3) (.int .i64 (1))))<| .jmp 0 (.cons (.var 4) (.cons (.bin .add (.var 3) (.int .i64 (1))) .nil)))) ( .jmp 1 (.cons (.var 2) .nil))) ( .ret (.var 2)))
theorem zpf:zbj Tryz.prog sgs 33=some zjE:=by kernel_rfl
theorem zpl (a0:List zab) (a1:Int) (r:Int) (h:zeV a0 a1=some r):Rts Tryz.prog sgs 33 [.sl (a0.map zae), .int .i64 a1] (.int .i64 r):=by
 refine zah zpf (by kernel_rfl) ?_
 unfold Den zjE
 unfold zeV at h
 refine zaa (by simp) ?_
 refine zaa (by simp) ?_
 refine zaa (by simp) ?_
 refine zam h (by simp) (fun e1 h=> ?_) (fun e1 h=> ?_)
 ·exact zad (av:=zaw) h (by simp)
 ·refine zbB (fun s:Int × Int=> [.int .i64 s.1, .int .i64 s.2]) h (by simp) (fun W1 A1 s o1 h hn1 hf1 hk1=> ?_)
  obtain⟨v2,v3⟩:=s
  replace h:zbC a0 v2 v3=some o1:=h
  unfold zbC at h
  refine zaa (by simp) ?_
  refine zaa (by simp) ?_
  refine zam h (by simp) (fun e4 h=> ?_) (fun e4 h=> ?_)
  ·obtain⟨y5,hy5,h⟩:=zaD h
   have hy5':=(zaG hy5).2.2
   refine zaa (fun _=>zaH (kk:= .i64) (f:=zae) (by simp) (by simp) hy5 (by simp)) ?_
   refine zac zaw h (fun x hx=>by simpa [e1,e4,hy5']using zli y5 v2 x hx) (fun v6 cv6 h=> ?_)
   refine zaa (by simp) ?_
   refine zam h (by simp) (fun e7 h=> ?_) (fun e7 h=> ?_)
   ·exact zad (av:=zaw) (hf1 _ h) (by simp)
   ·refine zaa (by simp) ?_
    exact za4 (K:=fun s=>some (Sum.inl s)) (s:=(v6,(IntKind.i64.wrap (v3+1)))) hn1 h rfl (by simp)
  ·refine zaN hk1 rfl (vs:= [.int .i64 v2]) (by simp) ?_
   replace h:=(hf1 _ h)
   exact zad (av:=zaw) h (by simp)
def zl8:Tr:= .chk [] (.dfd (.len (.var 0)))<| .chk [] (.dfd (.bin .sub (.var 1) (.len (.var 0))))<| .chk [] (.dfd (.bin .lss (.bin .sub (.var 1) (.len (.var 0))) (.int .i64 (0))))<| .ite (.bin .lss (.bin .sub (.var 1) (.len (.var 0))) (.int .i64 (0))) ( .ret (.int .i64 (-1))) ( .ret (.bin .sub (.var 1) (.len (.var 0))))
theorem zsn:zbj Tryz.prog sgs 34=some zl8:=by kernel_rfl
theorem zrG (a0:List Int) (a1:Int) (r:Int) (h:zfZ a0 a1=some r):Rts Tryz.prog sgs 34 [.sl (a0.map zaw), .int .i64 a1] (.int .i64 r):=by
 refine zah zsn (by kernel_rfl) ?_
 unfold Den zl8
 unfold zfZ at h
 refine zaa (by simp) ?_
 refine zaa (by simp) ?_
 refine zaa (by simp) ?_
 refine zam h (by simp) (fun e1 h=> ?_) (fun e1 h=> ?_)
 ·exact zad (av:=zaw) h (by simp)
 ·exact zad (av:=zaw) h (by simp)
def zk1:Tr:= .chk [] (.agg (.var 0) 3)<| .chk [] (.dfd (.slen (.fld (.var 0) 0 1 false)))<| .chk [] (.dfd (.bin .sub (.var 1) (.slen (.fld (.var 0) 0 1 false))))<| .chk [] (.dfd (.bin .lss (.bin .sub (.var 1) (.slen (.fld (.var 0) 0 1 false))) (.int .i64 (0))))<| .ite (.bin .lss (.bin .sub (.var 1) (.slen (.fld (.var 0) 0 1 false))) (.int .i64 (0))) ( .ret (.int .i64 (-1))) ( .chk [] (.dfd (.slen (.fld (.var 0) 1 1 false)))<| .chk [] (.dfd (.bin .sub (.bin .sub (.var 1) (.slen (.fld (.var 0) 0 1 false))) (.slen (.fld (.var 0) 1 1 false))))<| .chk [] (.dfd (.bin .lss (.bin .sub (.bin .sub (.var 1) (.slen (.fld (.var 0) 0 1 false))) (.slen (.fld (.var 0) 1 1 false))) (.int .i64 (0))))<| .ite (.bin .lss (.bin .sub (.bin .sub (.var 1) (.slen (.fld (.var 0) 0 1 false))) (.slen (.fld (.var 0) 1 1 false))) (.int .i64 (0))) ( .ret (.int .i64 (-1))) ( .ret (.bin .sub (.bin .sub (.var 1) (.slen (.fld (.var 0) 0 1 false))) (.slen (.fld (.var 0) 1 1 false)))))
theorem zra:zbj Tryz.prog sgs 20=some zk1:=by kernel_rfl
theorem zqN (a0:zag) (a1:Int) (r:Int) (h:zdC a0 a1=some r):Rts Tryz.prog sgs 20 [zar a0, .int .i64 a1] (.int .i64 r):=by
 refine zah zra (by kernel_rfl) ?_
 unfold Den zk1
 unfold zdC at h
 refine zaa (by simp) ?_
 refine zaa (by simp) ?_
 refine zaa (by simp) ?_
 refine zaa (by simp) ?_
 refine zam h (by simp) (fun e1 h=> ?_) (fun e1 h=> ?_)
 ·exact zad (av:=zaw) h (by simp)
 ·refine zaa (by simp) ?_
  refine zaa (by simp) ?_
  refine zaa (by simp) ?_
  refine zam h (by simp) (fun e2 h=> ?_) (fun e2 h=> ?_)
  ·have e2':=e2
   try simp only [decide_eq_true_eq,decide_eq_false_iff_not,ge_iff_le,gt_iff_lt,Int.ofNat_le,Int.ofNat_lt]at e2'
   exact zad (av:=zaw) h (by simp)
  ·have e2':=e2
   try simp only [decide_eq_true_eq,decide_eq_false_iff_not,ge_iff_le,gt_iff_lt,Int.ofNat_le,Int.ofNat_lt]at e2'
   exact zad (av:=zaw) h (by simp)
def zkd:Tr:= .chk [] (.dfd (.len (.var 0)))<| .chk [] (.dfd (.bin .sub (.var 1) (.len (.var 0))))<| .chk [] (.dfd (.bin .lss (.bin .sub (.var 1) (.len (.var 0))) (.int .i64 (0))))<| .ite (.bin .lss (.bin .sub (.var 1) (.len (.var 0))) (.int .i64 (0))) ( .ret (.int .i64 (-1))) ( .loop (.cons (.bin .sub (.var 1) (.len (.var 0))) (.cons (.int .i64 (0)) .nil)) ( .chk [] (.dfd (.len (.var 0)))<| .chk [] (.dfd (.bin .lss (.var 3) (.len (.var 0))))<| .ite (.bin .lss (.var 3) (.len (.var 0))) ( .chk [] (.inb (.var 3) (.var 0) 3)<| .call [] (.inl 20) (.cons (.fld (.idx (.var 0) (.var 3)) 0 3 true) (.cons (.var 2) .nil))<| .chk [] (.dfd (.bin .lss (.var 4) (.int .i64 (0))))<| .ite (.bin .lss (.var 4) (.int .i64 (0))) ( .ret (.int .i64 (-1))) ( .chk [] (.dfd (.bin .add (.var 3) (.int .i64 (1))))<| .jmp 0 (.cons (.var 4) (.cons (.bin .add (.var 3) (.int .i64 (1))) .nil)))) ( .jmp 1 (.cons (.var 2) .nil))) ( .ret (.var 2)))
theorem zpA:zbj Tryz.prog sgs 6=some zkd:=by kernel_rfl
theorem zjw (a0:List zag) (a1:Int) (r:Int) (h:zb5 a0 a1=some r):Rts Tryz.prog sgs 6 [.sl (a0.map zar), .int .i64 a1] (.int .i64 r):=by
 refine zah zpA (by kernel_rfl) ?_
 unfold Den zkd
 unfold zb5 at h
 refine zaa (by simp) ?_
 refine zaa (by simp) ?_
 refine zaa (by simp) ?_
 refine zam h (by simp) (fun e1 h=> ?_) (fun e1 h=> ?_)
 ·exact zad (av:=zaw) h (by simp)
 ·refine zbB (fun s:Int × Int=> [.int .i64 s.1, .int .i64 s.2]) h (by simp) (fun W1 A1 s o1 h hn1 hf1 hk1=> ?_)
  obtain⟨v2,v3⟩:=s
  replace h:zaE a0 v2 v3=some o1:=h
  unfold zaE at h
  refine zaa (by simp) ?_
  refine zaa (by simp) ?_
  refine zam h (by simp) (fun e4 h=> ?_) (fun e4 h=> ?_)
  ·obtain⟨y5,hy5,h⟩:=zaD h
   have hy5':=(zaG hy5).2.2
   refine zaa (fun _=>zaH (kk:= .i64) (f:=zar) (by simp) (by simp) hy5 (by simp)) ?_
   refine zac zaw h (fun x hx=>by simpa [e1,e4,hy5']using zqN y5 v2 x hx) (fun v6 cv6 h=> ?_)
   refine zaa (by simp) ?_
   refine zam h (by simp) (fun e7 h=> ?_) (fun e7 h=> ?_)
   ·exact zad (av:=zaw) (hf1 _ h) (by simp)
   ·refine zaa (by simp) ?_
    exact za4 (K:=fun s=>some (Sum.inl s)) (s:=(v6,(IntKind.i64.wrap (v3+1)))) hn1 h rfl (by simp)
  ·refine zaN hk1 rfl (vs:= [.int .i64 v2]) (by simp) ?_
   replace h:=(hf1 _ h)
   exact zad (av:=zaw) h (by simp)
def zkS:Tr:= .chk [] (.agg (.var 0) 4)<| .chk [] (.dfd (.slen (.fld (.var 0) 0 1 false)))<| .chk [] (.dfd (.bin .sub (.var 1) (.slen (.fld (.var 0) 0 1 false))))<| .chk [] (.dfd (.bin .lss (.bin .sub (.var 1) (.slen (.fld (.var 0) 0 1 false))) (.int .i64 (0))))<| .ite (.bin .lss (.bin .sub (.var 1) (.slen (.fld (.var 0) 0 1 false))) (.int .i64 (0))) ( .ret (.int .i64 (-1))) ( .call [] (.inl 33) (.cons (.fld (.var 0) 1 1 false) (.cons (.bin .sub (.var 1) (.slen (.fld (.var 0) 0 1 false))) .nil))<| .chk [] (.dfd (.bin .lss (.var 2) (.int .i64 (0))))<| .ite (.bin .lss (.var 2) (.int .i64 (0))) ( .ret (.int .i64 (-1))) ( .call [] (.inl 34) (.cons (.fld (.var 0) 2 1 false) (.cons (.var 2) .nil))<| .chk [] (.dfd (.bin .lss (.var 3) (.int .i64 (0))))<| .ite (.bin .lss (.var 3) (.int .i64 (0))) ( .ret (.int .i64 (-1))) ( .call [] (.inl 6) (.cons (.fld (.var 0) 3 1 false) (.cons (.var 3) .nil))<| .chk [] (.dfd (.bin .lss (.var 4) (.int .i64 (0))))<| .ite (.bin .lss (.var 4) (.int .i64 (0))) ( .ret (.int .i64 (-1))) ( .ret (.var 4)))))
theorem zqs:zbj Tryz.prog sgs 13=some zkS:=by kernel_rfl
theorem zre (a0:zaB) (a1:Int) (r:Int) (h:zfe a0 a1=some r):Rts Tryz.prog sgs 13 [zcS a0, .int .i64 a1] (.int .i64 r):=by
 refine zah zqs (by kernel_rfl) ?_
 unfold Den zkS
 unfold zfe at h
 refine zaa (by simp) ?_
 refine zaa (by simp) ?_
 refine zaa (by simp) ?_
 refine zaa (by simp) ?_
 refine zam h (by simp) (fun e1 h=> ?_) (fun e1 h=> ?_)
 ·exact zad (av:=zaw) h (by simp)
 ·refine zac zaw h (fun x hx=>by simpa using zpl a0.fWays (IntKind.i64.wrap (a1-(a0.fName.length:Int))) x hx) (fun v2 cv2 h=> ?_)
  refine zaa (by simp) ?_
  refine zam h (by simp) (fun e3 h=> ?_) (fun e3 h=> ?_)
  ·exact zad (av:=zaw) h (by simp)
  ·refine zac zaw h (fun x hx=>by simpa using zrG a0.fAt v2 x hx) (fun v4 cv4 h=> ?_)
   refine zaa (by simp) ?_
   refine zam h (by simp) (fun e5 h=> ?_) (fun e5 h=> ?_)
   ·exact zad (av:=zaw) h (by simp)
   ·refine zac zaw h (fun x hx=>by simpa using zjw a0.fStore v4 x hx) (fun v6 cv6 h=> ?_)
    refine zaa (by simp) ?_
    refine zam h (by simp) (fun e7 h=> ?_) (fun e7 h=> ?_)
    ·exact zad (av:=zaw) h (by simp)
    ·exact zad (av:=zaw) h (by simp)
def zjf:Tr:= .chk [] (.dfd (.len (.var 0)))<| .chk [] (.mkroom (.len (.var 0)) 16)<| .loop (.cons (.int .i64 (0)) (.cons (.rep (.len (.var 0)) (.str (ByteArray.mk #[]))) .nil)) ( .chk [] (.dfd (.len (.var 0)))<| .chk [] (.dfd (.bin .lss (.var 1) (.len (.var 0))))<| .ite (.bin .lss (.var 1) (.len (.var 0))) ( .chk [] (.inb (.var 1) (.var 0) 1)<| .chk [] (.inb (.var 1) (.var 2) 1)<| .chk [] (.flat (.fld (.idx (.var 0) (.var 1)) 0 1 false) 1 false)<| .chk [] (.flat (.fld (.idx (.var 2) (.var 1)) 0 1 false) 1 false)<| .chk [] (.dfd (.bin .add (.var 1) (.int .i64 (1))))<| .jmp 0 (.cons (.bin .add (.var 1) (.int .i64 (1))) (.cons (.set (.var 2) (.var 1) (.put (.idx (.var 2) (.var 1)) 0 (.fld (.idx (.var 0) (.var 1)) 0 1 false) false)) .nil))) ( .jmp 1 (.cons (.var 2) .nil))) ( .ret (.var 1))
theorem zom:zbj Tryz.prog sgs 24=some zjf:=by kernel_rfl
theorem zoh (a0:List (List UInt8)) (r:List (List UInt8)) (h:zcI a0=some r):Rts Tryz.prog sgs 24 [.sl (a0.map zal)] (.sl (r.map zal)):=by
 refine zah zom (by kernel_rfl) ?_
 unfold Den zjf
 unfold zcI at h
 refine zaa (by simp) ?_
 obtain⟨q1,h⟩:=zfa h
 refine zaa (fun _=>zkp (kk:= .i64) (k:=(a0.length:Int)) (by simp) (by simpa using q1)) ?_
 refine zbB (fun s:Int × List (List UInt8)=> [.int .i64 s.1, .sl (s.2.map zal)]) h (by simp) (fun W1 A1 s o1 h hn1 hf1 hk1=> ?_)
 obtain⟨v2,v3⟩:=s
 replace h:zaM a0 v2 v3=some o1:=h
 unfold zaM at h
 refine zaa (by simp) ?_
 refine zaa (by simp) ?_
 refine zam h (by simp) (fun e4 h=> ?_) (fun e4 h=> ?_)
 ·obtain⟨y5,hy5,h⟩:=zaD h
  have hy5':=(zaG hy5).2.2
  refine zaa (fun _=>zaH (kk:= .i64) (f:=zal) (by simp) (by simp) hy5 (by simp)) ?_
  obtain⟨y6,hy6,h⟩:=zaD h
  have hy6':=(zaG hy6).2.2
  refine zaa (fun _=>zaH (kk:= .i64) (f:=zal) (by simp) (by simp) hy6 (by simp)) ?_
  refine zaa (by simp [e4,hy5',hy6']) ?_
  refine zaa (by simp [e4,hy5',hy6']) ?_
  refine zaa (by simp) ?_
  exact za4 (K:=fun s=>some (Sum.inl s)) (s:=((IntKind.i64.wrap (v2+1)),(v3.set (v2).toNat y5))) hn1 h rfl (by simp [e4,hy5',hy6'])
 ·refine zaN hk1 rfl (vs:= [.sl (v3.map zal)]) (by simp) ?_
  replace h:=(hf1 _ h)
  exact zad (av:=zbK) h (by simp)
def zn2:Tr:= .chk [] (.agg (.var 0) 3)<| .chk [] (.cells (.fld (.var 0) 0 1 false) 1)<| .chk [] (.cells (.fld (.var 0) 1 1 false) 1)<| .chk [] (.cells (.fld (.var 0) 2 1 false) 1)<| .ret (.mk (.cons (.fld (.var 0) 0 1 false) (.cons (.fld (.var 0) 1 1 false) (.cons (.fld (.var 0) 2 1 false) .nil))))
theorem zty:zbj Tryz.prog sgs 50=some zn2:=by kernel_rfl
theorem ztT (a0:zb8) (r:zb8) (h:zg4 a0=some r):Rts Tryz.prog sgs 50 [zbW a0] (zbW r):=by
 refine zah zty (by kernel_rfl) ?_
 unfold Den zn2
 unfold zg4 at h
 refine zaa (by simp) ?_
 refine zaa (by simp) ?_
 refine zaa (by simp) ?_
 refine zaa (by simp) ?_
 exact zad (av:=zbW) h (by simp)
def zmg:Tr:= .chk [] (.dfd (.len (.var 0)))<| .chk [] (.mkroom (.len (.var 0)) 32)<| .loop (.cons (.int .i64 (0)) (.cons (.rep (.len (.var 0)) (.mk (.cons (.str (ByteArray.mk #[])) (.cons (.int .i64 (0)) (.cons (.int .i64 (0)) .nil))))) .nil)) ( .chk [] (.dfd (.len (.var 0)))<| .chk [] (.dfd (.bin .lss (.var 1) (.len (.var 0))))<| .ite (.bin .lss (.var 1) (.len (.var 0))) ( .chk [] (.inb (.var 1) (.var 0) 3)<| .call [] (.inl 50) (.cons (.fld (.idx (.var 0) (.var 1)) 0 3 true) .nil)<| .chk [] (.inb (.var 1) (.var 2) 3)<| .chk [] (.flat (.var 3) 3 true)<| .chk [] (.flat (.fld (.idx (.var 2) (.var 1)) 0 3 true) 3 true)<| .chk [] (.dfd (.bin .add (.var 1) (.int .i64 (1))))<| .jmp 0 (.cons (.bin .add (.var 1) (.int .i64 (1))) (.cons (.set (.var 2) (.var 1) (.put (.idx (.var 2) (.var 1)) 0 (.var 3) true)) .nil))) ( .jmp 1 (.cons (.var 2) .nil))) ( .ret (.var 1))
theorem zrQ:zbj Tryz.prog sgs 25=some zmg:=by kernel_rfl
theorem zsF (a0:List zb8) (r:List zb8) (h:zd7 a0=some r):Rts Tryz.prog sgs 25 [.sl (a0.map zbW)] (.sl (r.map zbW)):=by
 refine zah zrQ (by kernel_rfl) ?_
 unfold Den zmg
 unfold zd7 at h
 refine zaa (by simp) ?_
 obtain⟨q1,h⟩:=zfa h
 refine zaa (fun _=>zkp (kk:= .i64) (k:=(a0.length:Int)) (by simp) (by simpa using q1)) ?_
 refine zbB (fun s:Int × List zb8=> [.int .i64 s.1, .sl (s.2.map zbW)]) h (by simp) (fun W1 A1 s o1 h hn1 hf1 hk1=> ?_)
 obtain⟨v2,v3⟩:=s
 replace h:zbf a0 v2 v3=some o1:=h
 unfold zbf at h
 refine zaa (by simp) ?_
 refine zaa (by simp) ?_
 refine zam h (by simp) (fun e4 h=> ?_) (fun e4 h=> ?_)
 ·obtain⟨y5,hy5,h⟩:=zaD h
  have hy5':=(zaG hy5).2.2
  refine zaa (fun _=>zaH (kk:= .i64) (f:=zbW) (by simp) (by simp) hy5 (by simp)) ?_
  refine zac zbW h (fun x hx=>by simpa [e4,hy5']using ztT y5 x hx) (fun v6 cv6 h=> ?_)
  obtain⟨y7,hy7,h⟩:=zaD h
  have hy7':=(zaG hy7).2.2
  refine zaa (fun _=>zaH (kk:= .i64) (f:=zbW) (by simp) (by simp) hy7 (by simp)) ?_
  refine zaa (by simp) ?_
  refine zaa (by simp [e4,hy5',hy7']) ?_
  refine zaa (by simp) ?_
  exact za4 (K:=fun s=>some (Sum.inl s)) (s:=((IntKind.i64.wrap (v2+1)),(v3.set (v2).toNat v6))) hn1 h rfl (by simp [e4,hy5',hy7'])
 ·refine zaN hk1 rfl (vs:= [.sl (v3.map zbW)]) (by simp) ?_
  replace h:=(hf1 _ h)
  exact zad (av:=zwg) h (by simp)
def zk6:Tr:= .chk [] (.agg (.var 0) 3)<| .chk [] (.cells (.fld (.var 0) 0 1 false) 1)<| .call [] (.inl 24) (.cons (.fld (.var 0) 1 1 false) .nil)<| .call [] (.inl 25) (.cons (.fld (.var 0) 2 1 false) .nil)<| .ret (.mk (.cons (.fld (.var 0) 0 1 false) (.cons (.var 1) (.cons (.var 2) .nil))))
theorem zq9:zbj Tryz.prog sgs 8=some zk6:=by kernel_rfl
theorem zgJ (a0:zab) (r:zab) (h:zb3 a0=some r):Rts Tryz.prog sgs 8 [zae a0] (zae r):=by
 refine zah zq9 (by kernel_rfl) ?_
 unfold Den zk6
 unfold zb3 at h
 refine zaa (by simp) ?_
 refine zaa (by simp) ?_
 refine zac zbK h (fun x hx=>by simpa using zoh a0.fCols x hx) (fun v1 cv1 h=> ?_)
 refine zac zwg h (fun x hx=>by simpa using zsF a0.fIdxs x hx) (fun v2 cv2 h=> ?_)
 exact zad (av:=zae) h (by simp)
def zj7:Tr:= .chk [] (.dfd (.len (.var 0)))<| .chk [] (.mkroom (.len (.var 0)) 64)<| .loop (.cons (.int .i64 (0)) (.cons (.rep (.len (.var 0)) (.mk (.cons (.str (ByteArray.mk #[])) (.cons (.lst .nil) (.cons (.lst .nil) .nil))))) .nil)) ( .chk [] (.dfd (.len (.var 0)))<| .chk [] (.dfd (.bin .lss (.var 1) (.len (.var 0))))<| .ite (.bin .lss (.var 1) (.len (.var 0))) ( .chk [] (.inb (.var 1) (.var 0) 3)<| .call [] (.inl 8) (.cons (.fld (.idx (.var 0) (.var 1)) 0 3 true) .nil)<| .chk [] (.inb (.var 1) (.var 2) 3)<| .chk [] (.agg (.mk (.cons (.fld (.var 3) 0 1 false) (.cons (.fld (.var 3) 1 1 false) (.cons (.fld (.var 3) 2 1 false) .nil)))) 3)<| .chk [] (.dfd (.bin .add (.var 1) (.int .i64 (1))))<| .jmp 0 (.cons (.bin .add (.var 1) (.int .i64 (1))) (.cons (.set (.var 2) (.var 1) (.put (.idx (.var 2) (.var 1)) 0 (.mk (.cons (.fld (.var 3) 0 1 false) (.cons (.fld (.var 3) 1 1 false) (.cons (.fld (.var 3) 2 1 false) .nil)))) true)) .nil))) ( .jmp 1 (.cons (.var 2) .nil))) ( .ret (.var 1))
theorem zo8:zbj Tryz.prog sgs 37=some zj7:=by kernel_rfl
theorem zpK (a0:List zab) (r:List zab) (h:zeN a0=some r):Rts Tryz.prog sgs 37 [.sl (a0.map zae)] (.sl (r.map zae)):=by
 refine zah zo8 (by kernel_rfl) ?_
 unfold Den zj7
 unfold zeN at h
 refine zaa (by simp) ?_
 obtain⟨q1,h⟩:=zfa h
 refine zaa (fun _=>zkp (kk:= .i64) (k:=(a0.length:Int)) (by simp) (by simpa using q1)) ?_
 refine zbB (fun s:Int × List zab=> [.int .i64 s.1, .sl (s.2.map zae)]) h (by simp) (fun W1 A1 s o1 h hn1 hf1 hk1=> ?_)
 obtain⟨v2,v3⟩:=s
 replace h:zb7 a0 v2 v3=some o1:=h
 unfold zb7 at h
 refine zaa (by simp) ?_
 refine zaa (by simp) ?_
 refine zam h (by simp) (fun e4 h=> ?_) (fun e4 h=> ?_)
 ·obtain⟨y5,hy5,h⟩:=zaD h
  have hy5':=(zaG hy5).2.2
  refine zaa (fun _=>zaH (kk:= .i64) (f:=zae) (by simp) (by simp) hy5 (by simp)) ?_
  refine zac zae h (fun x hx=>by simpa [e4,hy5']using zgJ y5 x hx) (fun v6 cv6 h=> ?_)
  obtain⟨y7,hy7,h⟩:=zaD h
  have hy7':=(zaG hy7).2.2
  refine zaa (fun _=>zaH (kk:= .i64) (f:=zae) (by simp) (by simp) hy7 (by simp)) ?_
  refine zaa (by simp) ?_
  refine zaa (by simp) ?_
  exact za4 (K:=fun s=>some (Sum.inl s)) (s:=((IntKind.i64.wrap (v2+1)),(v3.set (v2).toNat v6))) hn1 h rfl (by simp [e4,hy5',hy7'])
 ·refine zaN hk1 rfl (vs:= [.sl (v3.map zae)]) (by simp) ?_
  replace h:=(hf1 _ h)
  exact zad (av:=zkB) h (by simp)
def zmN:Tr:= .chk [] (.dfd (.len (.var 0)))<| .chk [] (.mkroom (.len (.var 0)) 8)<| .loop (.cons (.int .i64 (0)) (.cons (.rep (.len (.var 0)) (.int .i64 (0))) .nil)) ( .chk [] (.dfd (.len (.var 0)))<| .chk [] (.dfd (.bin .lss (.var 1) (.len (.var 0))))<| .ite (.bin .lss (.var 1) (.len (.var 0))) ( .chk [] (.inb (.var 1) (.var 0) 1)<| .chk [] (.inb (.var 1) (.var 2) 1)<| .chk [] (.flat (.fld (.idx (.var 0) (.var 1)) 0 1 false) 1 false)<| .chk [] (.flat (.fld (.idx (.var 2) (.var 1)) 0 1 false) 1 false)<| .chk [] (.dfd (.bin .add (.var 1) (.int .i64 (1))))<| .jmp 0 (.cons (.bin .add (.var 1) (.int .i64 (1))) (.cons (.set (.var 2) (.var 1) (.put (.idx (.var 2) (.var 1)) 0 (.fld (.idx (.var 0) (.var 1)) 0 1 false) false)) .nil))) ( .jmp 1 (.cons (.var 2) .nil))) ( .ret (.var 1))
theorem zsi:zbj Tryz.prog sgs 38=some zmN:=by kernel_rfl
theorem zsd (a0:List Int) (r:List Int) (h:zf4 a0=some r):Rts Tryz.prog sgs 38 [.sl (a0.map zaw)] (.sl (r.map zaw)):=by
 refine zah zsi (by kernel_rfl) ?_
 unfold Den zmN
 unfold zf4 at h
 refine zaa (by simp) ?_
 obtain⟨q1,h⟩:=zfa h
 refine zaa (fun _=>zkp (kk:= .i64) (k:=(a0.length:Int)) (by simp) (by simpa using q1)) ?_
 refine zbB (fun s:Int × List Int=> [.int .i64 s.1, .sl (s.2.map zaw)]) h (by simp) (fun W1 A1 s o1 h hn1 hf1 hk1=> ?_)
 obtain⟨v2,v3⟩:=s
 replace h:zcE a0 v2 v3=some o1:=h
 unfold zcE at h
 refine zaa (by simp) ?_
 refine zaa (by simp) ?_
 refine zam h (by simp) (fun e4 h=> ?_) (fun e4 h=> ?_)
 ·obtain⟨y5,hy5,h⟩:=zaD h
  have hy5':=(zaG hy5).2.2
  refine zaa (fun _=>zaH (kk:= .i64) (f:=zaw) (by simp) (by simp) hy5 (by simp)) ?_
  obtain⟨y6,hy6,h⟩:=zaD h
  have hy6':=(zaG hy6).2.2
  refine zaa (fun _=>zaH (kk:= .i64) (f:=zaw) (by simp) (by simp) hy6 (by simp)) ?_
  refine zaa (by simp [e4,hy5',hy6']) ?_
  refine zaa (by simp [e4,hy5',hy6']) ?_
  refine zaa (by simp) ?_
  exact za4 (K:=fun s=>some (Sum.inl s)) (s:=((IntKind.i64.wrap (v2+1)),(v3.set (v2).toNat y5))) hn1 h rfl (by simp [e4,hy5',hy6'])
 ·refine zaN hk1 rfl (vs:= [.sl (v3.map zaw)]) (by simp) ?_
  replace h:=(hf1 _ h)
  exact zad (av:=zuI) h (by simp)
def zkX:Tr:= .chk [] (.agg (.var 0) 3)<| .chk [] (.cells (.fld (.var 0) 0 1 false) 1)<| .chk [] (.cells (.fld (.var 0) 1 1 false) 1)<| .chk [] (.cells (.fld (.var 0) 2 1 false) 1)<| .ret (.mk (.cons (.fld (.var 0) 0 1 false) (.cons (.fld (.var 0) 1 1 false) (.cons (.fld (.var 0) 2 1 false) .nil))))
theorem zqP:zbj Tryz.prog sgs 26=some zkX:=by kernel_rfl
theorem zqU (a0:zag) (r:zag) (h:zfd a0=some r):Rts Tryz.prog sgs 26 [zar a0] (zar r):=by
 refine zah zqP (by kernel_rfl) ?_
 unfold Den zkX
 unfold zfd at h
 refine zaa (by simp) ?_
 refine zaa (by simp) ?_
 refine zaa (by simp) ?_
 refine zaa (by simp) ?_
 exact zad (av:=zar) h (by simp)
def zjB:Tr:= .chk [] (.dfd (.len (.var 0)))<| .chk [] (.mkroom (.len (.var 0)) 40)<| .loop (.cons (.int .i64 (0)) (.cons (.rep (.len (.var 0)) (.mk (.cons (.str (ByteArray.mk #[])) (.cons (.str (ByteArray.mk #[])) (.cons (.bool false) .nil))))) .nil)) ( .chk [] (.dfd (.len (.var 0)))<| .chk [] (.dfd (.bin .lss (.var 1) (.len (.var 0))))<| .ite (.bin .lss (.var 1) (.len (.var 0))) ( .chk [] (.inb (.var 1) (.var 0) 3)<| .call [] (.inl 26) (.cons (.fld (.idx (.var 0) (.var 1)) 0 3 true) .nil)<| .chk [] (.inb (.var 1) (.var 2) 3)<| .chk [] (.flat (.var 3) 3 true)<| .chk [] (.flat (.fld (.idx (.var 2) (.var 1)) 0 3 true) 3 true)<| .chk [] (.dfd (.bin .add (.var 1) (.int .i64 (1))))<| .jmp 0 (.cons (.bin .add (.var 1) (.int .i64 (1))) (.cons (.set (.var 2) (.var 1) (.put (.idx (.var 2) (.var 1)) 0 (.var 3) true)) .nil))) ( .jmp 1 (.cons (.var 2) .nil))) ( .ret (.var 1))
theorem zpR:zbj Tryz.prog sgs 9=some zjB:=by kernel_rfl
theorem zf7 (a0:List zag) (r:List zag) (h:zbI a0=some r):Rts Tryz.prog sgs 9 [.sl (a0.map zar)] (.sl (r.map zar)):=by
 refine zah zpR (by kernel_rfl) ?_
 unfold Den zjB
 unfold zbI at h
 refine zaa (by simp) ?_
 obtain⟨q1,h⟩:=zfa h
 refine zaa (fun _=>zkp (kk:= .i64) (k:=(a0.length:Int)) (by simp) (by simpa using q1)) ?_
 refine zbB (fun s:Int × List zag=> [.int .i64 s.1, .sl (s.2.map zar)]) h (by simp) (fun W1 A1 s o1 h hn1 hf1 hk1=> ?_)
 obtain⟨v2,v3⟩:=s
 replace h:zaW a0 v2 v3=some o1:=h
 unfold zaW at h
 refine zaa (by simp) ?_
 refine zaa (by simp) ?_
 refine zam h (by simp) (fun e4 h=> ?_) (fun e4 h=> ?_)
 ·obtain⟨y5,hy5,h⟩:=zaD h
  have hy5':=(zaG hy5).2.2
  refine zaa (fun _=>zaH (kk:= .i64) (f:=zar) (by simp) (by simp) hy5 (by simp)) ?_
  refine zac zar h (fun x hx=>by simpa [e4,hy5']using zqU y5 x hx) (fun v6 cv6 h=> ?_)
  obtain⟨y7,hy7,h⟩:=zaD h
  have hy7':=(zaG hy7).2.2
  refine zaa (fun _=>zaH (kk:= .i64) (f:=zar) (by simp) (by simp) hy7 (by simp)) ?_
  refine zaa (by simp) ?_
  refine zaa (by simp [e4,hy5',hy7']) ?_
  refine zaa (by simp) ?_
  exact za4 (K:=fun s=>some (Sum.inl s)) (s:=((IntKind.i64.wrap (v2+1)),(v3.set (v2).toNat v6))) hn1 h rfl (by simp [e4,hy5',hy7'])
 ·refine zaN hk1 rfl (vs:= [.sl (v3.map zar)]) (by simp) ?_
  replace h:=(hf1 _ h)
  exact zad (av:=zmp) h (by simp)
def zlt:Tr:= .chk [] (.agg (.var 0) 4)<| .chk [] (.cells (.fld (.var 0) 0 1 false) 1)<| .call [] (.inl 37) (.cons (.fld (.var 0) 1 1 false) .nil)<| .chk [] (.cells (.var 1) 1)<| .call [] (.inl 38) (.cons (.fld (.var 0) 2 1 false) .nil)<| .call [] (.inl 9) (.cons (.fld (.var 0) 3 1 false) .nil)<| .ret (.mk (.cons (.fld (.var 0) 0 1 false) (.cons (.var 1) (.cons (.var 2) (.cons (.var 3) .nil)))))
theorem zqG:zbj Tryz.prog sgs 15=some zlt:=by kernel_rfl
theorem zh7 (a0:zaB) (r:zaB) (h:zdy a0=some r):Rts Tryz.prog sgs 15 [zcS a0] (zcS r):=by
 refine zah zqG (by kernel_rfl) ?_
 unfold Den zlt
 unfold zdy at h
 refine zaa (by simp) ?_
 refine zaa (by simp) ?_
 refine zac zkB h (fun x hx=>by simpa using zpK a0.fWays x hx) (fun v1 cv1 h=> ?_)
 refine zaa (by simp) ?_
 refine zac zuI h (fun x hx=>by simpa using zsd a0.fAt x hx) (fun v2 cv2 h=> ?_)
 refine zac zmp h (fun x hx=>by simpa using zf7 a0.fStore x hx) (fun v3 cv3 h=> ?_)
 exact zad (av:=zcS) h (by simp)
def zpL:Tr:= .chk [] (.dfd (.bin .geq (.var 0) (.var 1)))<| .chk [((.bin .geq (.var 0) (.var 1)),true)] (.dfd (.bin .leq (.var 0) (.var 2)))<| .chk [] (.dfd (.not (.bin .geq (.var 0) (.var 1))))<| .ret (.ite (.bin .geq (.var 0) (.var 1)) (.bin .leq (.var 0) (.var 2)) (.bool false))
theorem zuf:zbj Tryz.prog sgs 22=some zpL:=by kernel_rfl
theorem zed (a0:Int) (a1:Int) (a2:Int) (r:Bool) (h:zcF a0 a1 a2=some r):Rts Tryz.prog sgs 22 [.int .i64 a0, .int .i64 a1, .int .i64 a2] (.bool r):=by
 refine zah zuf (by kernel_rfl) ?_
 unfold Den zpL
 unfold zcF at h
 refine zaa (by simp) ?_
 refine zaa (by simp) ?_
 refine zaa (by simp) ?_
 exact zad (av:=avB) h (by simp)
def zit:Tr:= .loop (.cons (.int .i64 (0)) .nil) ( .chk [] (.dfd (.slen (.var 0)))<| .chk [] (.dfd (.bin .lss (.var 2) (.slen (.var 0))))<| .ite (.bin .lss (.var 2) (.slen (.var 0))) ( .chk [] (.inbS (.var 2) (.var 0))<| .chk [] (.dfd (.bin .lss (.sidx (.var 0) (.var 2)) (.int .u8 (97))))<| .chk [((.bin .lss (.sidx (.var 0) (.var 2)) (.int .u8 (97))),false)] (.inbS (.var 2) (.var 0))<| .chk [((.bin .lss (.sidx (.var 0) (.var 2)) (.int .u8 (97))),false)] (.dfd (.bin .gtr (.sidx (.var 0) (.var 2)) (.int .u8 (122))))<| .chk [] (.dfd (.not (.bin .lss (.sidx (.var 0) (.var 2)) (.int .u8 (97)))))<| .ite (.ite (.bin .lss (.sidx (.var 0) (.var 2)) (.int .u8 (97))) (.bool true) (.bin .gtr (.sidx (.var 0) (.var 2)) (.int .u8 (122)))) ( .ret (.bool false)) ( .chk [] (.dfd (.bin .add (.var 2) (.int .i64 (1))))<| .jmp 0 (.cons (.bin .add (.var 2) (.int .i64 (1))) .nil))) ( .jmp 1 .nil)) ( .chk [] (.dfd (.slen (.var 0)))<| .chk [((.bin .geq (.slen (.var 0)) (.int .i64 (1))),true)] (.dfd (.slen (.var 0)))<| .chk [((.bin .geq (.slen (.var 0)) (.int .i64 (1))),true)] (.dfd (.bin .leq (.slen (.var 0)) (.var 1)))<| .chk [] (.dfd (.not (.bin .geq (.slen (.var 0)) (.int .i64 (1)))))<| .ret (.ite (.bin .geq (.slen (.var 0)) (.int .i64 (1))) (.bin .leq (.slen (.var 0)) (.var 1)) (.bool false)))
theorem znz:zbj Tryz.prog sgs 69=some zit:=by kernel_rfl
theorem zgA (a0:List UInt8) (a1:Int) (r:Bool) (h:zch a0 a1=some r):Rts Tryz.prog sgs 69 [.str a0, .int .i64 a1] (.bool r):=by
 refine zah znz (by kernel_rfl) ?_
 unfold Den zit
 unfold zch at h
 refine zhR (fun s:Int=> [.int .i64 s]) (fun s:Unit=> []) h (by simp) (K:=(fun s=>zcc a0 a1)) (fun s h=> ?_) (fun W1 A1 v1 o1 h hn1 hf1 hk1=> ?_)
 ·replace h:zcc a0 a1=some r:=h
  unfold zcc at h
  refine zaa (by simp) ?_
  refine zaa (by simp) ?_
  refine zaa (by simp) ?_
  refine zaa (by simp) ?_
  exact zad (av:=avB) h (by simp)
 ·replace h:zcN a0 a1 v1=some o1:=h
  unfold zcN at h
  refine zaa (by simp) ?_
  refine zaa (by simp) ?_
  refine zam h (by simp) (fun e2 h=> ?_) (fun e2 h=> ?_)
  ·obtain⟨y3,hy3,h⟩:=zaD h
   have hy3':=(zaG hy3).2.2
   refine zaa (fun _=>ziF (kk:= .i64) (by simp) (by simp) hy3) ?_
   refine zaa (by simp [e2,hy3']) ?_
   refine zaa (fun _=>ziF (kk:= .i64) (by simp) (by simp) hy3) ?_
   refine zaa (by simp [e2,hy3']) ?_
   refine zaa (by simp [e2,hy3']) ?_
   refine zam h (by simp [e2,hy3']) (fun e4 h=> ?_) (fun e4 h=> ?_)
   ·exact zad (av:=avB) (hf1 _ h) (by simp)
   ·refine zaa (by simp) ?_
    exact za4 (K:=fun s=>some (Sum.inl s)) (s:=(IntKind.i64.wrap (v1+1))) hn1 h rfl (by simp)
  ·exact za4 (s:=()) hk1 (hf1 _ h) rfl (by simp)
def znO:Tr:= .chk [] (.dfd (.len (.var 0)))<| .loop (.cons (.int .i64 (0)) .nil) ( .chk [] (.dfd (.bin .lss (.var 2) (.len (.var 0))))<| .ite (.bin .lss (.var 2) (.len (.var 0))) ( .chk [] (.inb (.var 2) (.var 0) 1)<| .chk [] (.dfd (.sbin .eql (.fld (.idx (.var 0) (.var 2)) 0 1 false) (.var 1)))<| .ite (.sbin .eql (.fld (.idx (.var 0) (.var 2)) 0 1 false) (.var 1)) ( .ret (.var 2)) ( .chk [] (.dfd (.bin .add (.var 2) (.int .i64 (1))))<| .jmp 0 (.cons (.bin .add (.var 2) (.int .i64 (1))) .nil))) ( .jmp 1 .nil)) ( .ret (.int .i64 (-1)))
theorem ztw:zbj Tryz.prog sgs 96=some znO:=by kernel_rfl
theorem znN (a0:List (List UInt8)) (a1:List UInt8) (r:Int) (h:zfK a0 a1=some r):Rts Tryz.prog sgs 96 [.sl (a0.map zal), .str a1] (.int .i64 r):=by
 refine zah ztw (by kernel_rfl) ?_
 unfold Den znO
 unfold zfK at h
 refine zaa (by simp) ?_
 refine zbB (fun s:Int=> [.int .i64 s]) h (by simp) (fun W1 A1 v1 o1 h hn1 hf1 hk1=> ?_)
 replace h:zeT a0 a1 v1=some o1:=h
 unfold zeT at h
 refine zaa (by simp) ?_
 refine zam h (by simp) (fun e2 h=> ?_) (fun e2 h=> ?_)
 ·obtain⟨y3,hy3,h⟩:=zaD h
  have hy3':=(zaG hy3).2.2
  refine zaa (fun _=>zaH (kk:= .i64) (f:=zal) (by simp) (by simp) hy3 (by simp)) ?_
  refine zaa (by simp [e2,hy3']) ?_
  refine zam h (by simp [e2,hy3']) (fun e4 h=> ?_) (fun e4 h=> ?_)
  ·exact zad (av:=zaw) (hf1 _ h) (by simp)
  ·refine zaa (by simp) ?_
   exact za4 (K:=fun s=>some (Sum.inl s)) (s:=(IntKind.i64.wrap (v1+1))) hn1 h rfl (by simp)
 ·refine zaN hk1 rfl (vs:= []) (by simp) ?_
  replace h:=(hf1 _ h)
  exact zad (av:=zaw) h (by simp)
def zlf:Tr:= .chk [] (.dfd (.len (.var 0)))<| .loop (.cons (.int .i64 (0)) .nil) ( .chk [] (.dfd (.bin .lss (.var 1) (.len (.var 0))))<| .ite (.bin .lss (.var 1) (.len (.var 0))) ( .chk [] (.inb (.var 1) (.var 0) 1)<| .call [] (.inl 69) (.cons (.fld (.idx (.var 0) (.var 1)) 0 1 false) (.cons (.int .i64 (3)) .nil))<| .chk [] (.dfd (.not (.var 2)))<| .chk [((.not (.var 2)),false)] (.issl (.var 0) 1)<| .chk [((.not (.var 2)),false)] (.win (.var 0) (.int .i64 (0)) (.var 1))<| .call [((.not (.var 2)),false)] (.inl 96) (.cons (.win (.var 0) (.int .i64 (0)) (.var 1)) (.cons (.fld (.idx (.var 0) (.var 1)) 0 1 false) .nil))<| .chk [((.not (.var 2)),false)] (.dfd (.bin .geq (.var 3) (.int .i64 (0))))<| .chk [] (.dfd (.not (.not (.var 2))))<| .ite (.ite (.not (.var 2)) (.bool true) (.bin .geq (.var 3) (.int .i64 (0)))) ( .ret (.bool false)) ( .chk [] (.dfd (.bin .add (.var 1) (.int .i64 (1))))<| .jmp 0 (.cons (.bin .add (.var 1) (.int .i64 (1))) .nil))) ( .jmp 1 .nil)) ( .chk [] (.dfd (.len (.var 0)))<| .call [] (.inl 22) (.cons (.len (.var 0)) (.cons (.int .i64 (2)) (.cons (.int .i64 (4)) .nil)))<| .ret (.var 1))
theorem zqH:zbj Tryz.prog sgs 70=some zlf:=by kernel_rfl
theorem zq6 (a0:List (List UInt8)) (r:Bool) (h:zfn a0=some r):Rts Tryz.prog sgs 70 [.sl (a0.map zal)] (.bool r):=by
 refine zah zqH (by kernel_rfl) ?_
 unfold Den zlf
 unfold zfn at h
 refine zaa (by simp) ?_
 refine zhR (fun s:Int=> [.int .i64 s]) (fun s:Unit=> []) h (by simp) (K:=(fun s=>zcW a0)) (fun s h=> ?_) (fun W1 A1 v2 o1 h hn1 hf1 hk1=> ?_)
 ·replace h:zcW a0=some r:=h
  unfold zcW at h
  refine zaa (by simp) ?_
  refine zac avB h (fun x hx=>by simpa using zed (a0.length:Int) 2 4 x hx) (fun v1 cv1 h=> ?_)
  exact zad (av:=avB) h (by simp)
 ·replace h:zdW a0 v2=some o1:=h
  unfold zdW at h
  refine zaa (by simp) ?_
  refine zam h (by simp) (fun e3 h=> ?_) (fun e3 h=> ?_)
  ·obtain⟨y4,hy4,h⟩:=zaD h
   have hy4':=(zaG hy4).2.2
   refine zaa (fun _=>zaH (kk:= .i64) (f:=zal) (by simp) (by simp) hy4 (by simp)) ?_
   refine zac avB h (fun x hx=>by simpa [e3,hy4']using zgA y4 3 x hx) (fun v5 cv5 h=> ?_)
   refine zaa (by simp) ?_
   refine zaa (fun _=>zi4 zal (show _=AV.sl (List.map zal a0)from by simp) (by simp)) ?_
   refine zav h (fun e6 h=> ?_) (fun e6 h=> ?_)
   ·obtain⟨q9,h⟩:=zfa h
    refine zaa (fun _=>zwN (ka:= .i64) (kb:= .i64) (a:=0) (b:=v2) (by simp) (by simp) (show _=AV.sl (List.map zal a0)from by simp) (by simpa using q9)) ?_
    refine zac zaw h (fun x hx=>by simpa [e3,hy4',e6]using znN (zhh a0 0 v2) y4 x hx) (fun v7 cv7 h=> ?_)
    refine zaa (by simp) ?_
    refine zaa (by simp) ?_
    refine zam h (by simp [e3,hy4',e6]) (fun e8 h=> ?_) (fun e8 h=> ?_)
    ·exact zad (av:=avB) (hf1 _ h) (by simp)
    ·refine zaa (by simp) ?_
     exact za4 (K:=fun s=>some (Sum.inl s)) (s:=(IntKind.i64.wrap (v2+1))) hn1 h rfl (by simp)
   ·refine zaa (by simp [e3,hy4',e6]) ?_
    refine zaJ (by simp [e3,hy4',e6]) ?_
    refine zaa (by simp [e3,hy4',e6]) ?_
    refine zaa (by simp) ?_
    refine zdt (by simp [e3,hy4',e6]) ?_
    exact zad (av:=avB) (hf1 _ h) (by simp)
  ·exact za4 (s:=()) hk1 (hf1 _ h) rfl (by simp)
def ziY:Tr:= .chk [] (.agg (.var 0) 3)<| .call [] (.inl 69) (.cons (.fld (.var 0) 0 1 false) (.cons (.int .i64 (1)) .nil))<| .chk [] (.dfd (.not (.var 1)))<| .call [((.not (.var 1)),false)] (.inl 70) (.cons (.fld (.var 0) 1 1 false) .nil)<| .chk [((.not (.var 1)),false)] (.dfd (.not (.var 2)))<| .chk [] (.dfd (.not (.not (.var 1))))<| .chk [((.ite (.not (.var 1)) (.bool true) (.not (.var 2))),false)] (.dfd (.len (.fld (.var 0) 2 1 false)))<| .chk [] (.dfd (.not (.ite (.not (.var 1)) (.bool true) (.not (.var 2)))))<| .ite (.ite (.ite (.not (.var 1)) (.bool true) (.not (.var 2))) (.bool true) (.bin .gtr (.len (.fld (.var 0) 2 1 false)) (.int .i64 (3)))) ( .ret (.bool false)) ( .chk [] (.dfd (.len (.fld (.var 0) 2 1 false)))<| .loop (.cons (.int .i64 (0)) .nil) ( .chk [] (.dfd (.bin .lss (.var 3) (.len (.fld (.var 0) 2 1 false))))<| .ite (.bin .lss (.var 3) (.len (.fld (.var 0) 2 1 false))) ( .chk [] (.inb (.var 3) (.fld (.var 0) 2 1 false) 3)<| .chk [] (.agg (.fld (.idx (.fld (.var 0) 2 1 false) (.var 3)) 0 3 true) 3)<| .call [] (.inl 69) (.cons (.fld (.fld (.idx (.fld (.var 0) 2 1 false) (.var 3)) 0 3 true) 0 1 false) (.cons (.int .i64 (1)) .nil))<| .chk [] (.dfd (.not (.var 4)))<| .chk [((.not (.var 4)),false)] (.dfd (.len (.fld (.var 0) 1 1 false)))<| .call [((.not (.var 4)),false)] (.inl 22) (.cons (.fld (.fld (.idx (.fld (.var 0) 2 1 false) (.var 3)) 0 3 true) 1 1 false) (.cons (.int .i64 (1)) (.cons (.bin .sub (.len (.fld (.var 0) 1 1 false)) (.int .i64 (1))) .nil)))<| .chk [((.not (.var 4)),false)] (.dfd (.not (.var 5)))<| .chk [] (.dfd (.not (.not (.var 4))))<| .call [((.ite (.not (.var 4)) (.bool true) (.not (.var 5))),false)] (.inl 22) (.cons (.fld (.fld (.idx (.fld (.var 0) 2 1 false) (.var 3)) 0 3 true) 2 1 false) (.cons (.int .i64 (0)) (.cons (.int .i64 (3)) .nil)))<| .chk [((.ite (.not (.var 4)) (.bool true) (.not (.var 5))),false)] (.dfd (.not (.var 6)))<| .chk [] (.dfd (.not (.ite (.not (.var 4)) (.bool true) (.not (.var 5)))))<| .chk [((.ite (.ite (.not (.var 4)) (.bool true) (.not (.var 5))) (.bool true) (.not (.var 6))),false)] (.dfd (.bin .gtr (.var 3) (.int .i64 (0))))<| .chk [((.bin .gtr (.var 3) (.int .i64 (0))),true),((.ite (.ite (.not (.var 4)) (.bool true) (.not (.var 5))) (.bool true) (.not (.var 6))),false)] (.dfd (.bin .sub (.var 3) (.int .i64 (1))))<| .chk [((.bin .gtr (.var 3) (.int .i64 (0))),true),((.ite (.ite (.not (.var 4)) (.bool true) (.not (.var 5))) (.bool true) (.not (.var 6))),false)] (.inb (.bin .sub (.var 3) (.int .i64 (1))) (.fld (.var 0) 2 1 false) 3)<| .chk [((.bin .gtr (.var 3) (.int .i64 (0))),true),((.ite (.ite (.not (.var 4)) (.bool true) (.not (.var 5))) (.bool true) (.not (.var 6))),false)] (.dfd (.sbin .geq (.fld (.idx (.fld (.var 0) 2 1 false) (.bin .sub (.var 3) (.int .i64 (1)))) 0 1 false) (.fld (.fld (.idx (.fld (.var 0) 2 1 false) (.var 3)) 0 3 true) 0 1 false)))<| .chk [((.ite (.ite (.not (.var 4)) (.bool true) (.not (.var 5))) (.bool true) (.not (.var 6))),false)] (.dfd (.not (.bin .gtr (.var 3) (.int .i64 (0)))))<| .chk [] (.dfd (.not (.ite (.ite (.not (.var 4)) (.bool true) (.not (.var 5))) (.bool true) (.not (.var 6)))))<| .ite (.ite (.ite (.ite (.not (.var 4)) (.bool true) (.not (.var 5))) (.bool true) (.not (.var 6))) (.bool true) (.ite (.bin .gtr (.var 3) (.int .i64 (0))) (.sbin .geq (.fld (.idx (.fld (.var 0) 2 1 false) (.bin .sub (.var 3) (.int .i64 (1)))) 0 1 false) (.fld (.fld (.idx (.fld (.var 0) 2 1 false) (.var 3)) 0 3 true) 0 1 false)) (.bool false))) ( .ret (.bool false)) ( .chk [] (.dfd (.bin .add (.var 3) (.int .i64 (1))))<| .jmp 0 (.cons (.bin .add (.var 3) (.int .i64 (1))) .nil))) ( .jmp 1 .nil)) ( .ret (.bool true)))
theorem zoe:zbj Tryz.prog sgs 44=some ziY:=by kernel_rfl
theorem zfv (a0:zab) (r:Bool) (h:zce a0=some r):Rts Tryz.prog sgs 44 [zae a0] (.bool r):=by
 refine zah zoe (by kernel_rfl) ?_
 unfold Den ziY
 unfold zce at h
 refine zaa (by simp) ?_
 refine zac avB h (fun x hx=>by simpa using zgA a0.fName 1 x hx) (fun v1 cv1 h=> ?_)
 refine zaa (by simp) ?_
 refine zav h (fun e2 h=> ?_) (fun e2 h=> ?_)
 ·refine zac avB h (fun x hx=>by simpa using zq6 a0.fCols x hx) (fun v3 cv3 h=> ?_)
  refine zaa (by simp) ?_
  refine zaa (by simp) ?_
  refine zaa (by simp) ?_
  refine zaa (by simp [e2]) ?_
  refine zam h (by simp [e2]) (fun e4 h=> ?_) (fun e4 h=> ?_)
  ·exact zad (av:=avB) h (by simp)
  ·refine zaa (by simp) ?_
   refine zbB (fun s:Int=> [.int .i64 s]) h (by simp) (fun W1 A1 v5 o1 h hn1 hf1 hk1=> ?_)
   replace h:zcq a0 v5=some o1:=h
   unfold zcq at h
   refine zaa (by simp) ?_
   refine zam h (by simp) (fun e6 h=> ?_) (fun e6 h=> ?_)
   ·obtain⟨y7,hy7,h⟩:=zaD h
    have hy7':=(zaG hy7).2.2
    refine zaa (fun _=>zaH (kk:= .i64) (f:=zbW) (by simp) (by simp) hy7 (by simp)) ?_
    refine zaa (by simp [e2,e4,e6,hy7']) ?_
    refine zac avB h (fun x hx=>by simpa [e2,e4,e6,hy7']using zgA y7.fName 1 x hx) (fun v8 cv8 h=> ?_)
    refine zaa (by simp) ?_
    refine zaa (by simp) ?_
    refine zav h (fun e9 h=> ?_) (fun e9 h=> ?_)
    ·refine zac avB h (fun x hx=>by simpa [e2,e4,e6,hy7',e9]using zed y7.fCol 1 (IntKind.i64.wrap ((a0.fCols.length:Int)-1)) x hx) (fun v10 cv10 h=> ?_)
     refine zaa (by simp) ?_
     refine zaa (by simp) ?_
     refine zav h (fun e11 h=> ?_) (fun e11 h=> ?_)
     ·refine zac avB h (fun x hx=>by simpa [e2,e4,e6,hy7',e9,e11]using zed y7.fStage 0 3 x hx) (fun v12 cv12 h=> ?_)
      refine zaa (by simp) ?_
      refine zaa (by simp [e2,e4,e6,hy7',e9,e11]) ?_
      refine zaa (by simp) ?_
      refine zaa (by simp) ?_
      refine zav h (fun e13 h=> ?_) (fun e13 h=> ?_)
      ·refine zav h (fun e14 h=> ?_) (fun e14 h=> ?_)
       ·obtain⟨y15,hy15,h⟩:=zaD h
        have hy15':=(zaG hy15).2.2
        try simp at hy15'
        refine zaa (fun _=>zaH (kk:= .i64) (f:=zbW) (by simp) (by simp) hy15 (by simp)) ?_
        refine zaa (by simp [e2,e4,e6,hy7',e9,e11,e13,e14,hy15']) ?_
        refine zaa (by simp) ?_
        refine zaa (by simp [e2,e4,e6,hy7',e9,e11,e13,e14,hy15']) ?_
        refine zam h (by simp [e2,e4,e6,hy7',e9,e11,e13,e14,hy15']) (fun e16 h=> ?_) (fun e16 h=> ?_)
        ·exact zad (av:=avB) (hf1 _ h) (by simp)
        ·refine zaa (by simp) ?_
         exact za4 (K:=fun s=>some (Sum.inl s)) (s:=(IntKind.i64.wrap (v5+1))) hn1 h rfl (by simp)
       ·refine zaa (by simp [e2,e4,e6,hy7',e9,e11,e13,e14]) ?_
        refine zaa (by simp [e2,e4,e6,hy7',e9,e11,e13,e14]) ?_
        refine zaa (by simp [e2,e4,e6,hy7',e9,e11,e13,e14]) ?_
        refine zaa (by simp [e2,e4,e6,hy7',e9,e11,e13,e14]) ?_
        refine zdt (by simp [e2,e4,e6,hy7',e9,e11,e13,e14]) ?_
        exact zad (av:=avB) (hf1 _ h) (by simp)
      ·refine zaa (by simp [e2,e4,e6,hy7',e9,e11,e13]) ?_
       refine zaa (by simp [e2,e4,e6,hy7',e9,e11,e13]) ?_
       refine zaa (by simp) ?_
       refine zaa (by simp [e2,e4,e6,hy7',e9,e11,e13]) ?_
       refine zam h (by simp [e2,e4,e6,hy7',e9,e11,e13]) (fun e17 h=> ?_) (fun e17 h=> ?_)
       ·exact zad (av:=avB) (hf1 _ h) (by simp)
       ·refine zaa (by simp) ?_
        exact za4 (K:=fun s=>some (Sum.inl s)) (s:=(IntKind.i64.wrap (v5+1))) hn1 h rfl (by simp)
     ·refine zaJ (by simp [e2,e4,e6,hy7',e9,e11]) ?_
      refine zaa (by simp [e2,e4,e6,hy7',e9,e11]) ?_
      refine zaa (by simp [e2,e4,e6,hy7',e9,e11]) ?_
      refine zaa (by simp [e2,e4,e6,hy7',e9,e11]) ?_
      refine zaa (by simp [e2,e4,e6,hy7',e9,e11]) ?_
      refine zaa (by simp [e2,e4,e6,hy7',e9,e11]) ?_
      refine zaa (by simp [e2,e4,e6,hy7',e9,e11]) ?_
      refine zaa (by simp [e2,e4,e6,hy7',e9,e11]) ?_
      refine zaa (by simp [e2,e4,e6,hy7',e9,e11]) ?_
      refine zdt (by simp [e2,e4,e6,hy7',e9,e11]) ?_
      exact zad (av:=avB) (hf1 _ h) (by simp)
    ·refine zaJ (by simp [e2,e4,e6,hy7',e9]) ?_
     refine zaa (by simp [e2,e4,e6,hy7',e9]) ?_
     refine zaa (by simp) ?_
     refine zaJ (by simp [e2,e4,e6,hy7',e9]) ?_
     refine zaa (by simp [e2,e4,e6,hy7',e9]) ?_
     refine zaa (by simp [e2,e4,e6,hy7',e9]) ?_
     refine zaa (by simp [e2,e4,e6,hy7',e9]) ?_
     refine zaa (by simp [e2,e4,e6,hy7',e9]) ?_
     refine zaa (by simp [e2,e4,e6,hy7',e9]) ?_
     refine zaa (by simp [e2,e4,e6,hy7',e9]) ?_
     refine zaa (by simp [e2,e4,e6,hy7',e9]) ?_
     refine zaa (by simp [e2,e4,e6,hy7',e9]) ?_
     refine zdt (by simp [e2,e4,e6,hy7',e9]) ?_
     exact zad (av:=avB) (hf1 _ h) (by simp)
   ·refine zaN hk1 rfl (vs:= []) (by simp) ?_
    replace h:=(hf1 _ h)
    exact zad (av:=avB) h (by simp)
 ·refine zaJ (by simp [e2]) ?_
  refine zaa (by simp [e2]) ?_
  refine zaa (by simp) ?_
  refine zaa (by simp [e2]) ?_
  refine zaa (by simp [e2]) ?_
  refine zdt (by simp [e2]) ?_
  exact zad (av:=avB) h (by simp)
def zmP:Tr:= .chk [] (.agg (.var 0) 3)<| .chk [] (.dfd (.len (.fld (.var 0) 2 1 false)))<| .loop (.cons (.int .i64 (0)) .nil) ( .chk [] (.dfd (.bin .lss (.var 2) (.len (.fld (.var 0) 2 1 false))))<| .ite (.bin .lss (.var 2) (.len (.fld (.var 0) 2 1 false))) ( .chk [] (.inb (.var 2) (.fld (.var 0) 2 1 false) 3)<| .chk [] (.agg (.fld (.idx (.fld (.var 0) 2 1 false) (.var 2)) 0 3 true) 3)<| .chk [] (.dfd (.sbin .eql (.fld (.fld (.idx (.fld (.var 0) 2 1 false) (.var 2)) 0 3 true) 0 1 false) (.var 1)))<| .ite (.sbin .eql (.fld (.fld (.idx (.fld (.var 0) 2 1 false) (.var 2)) 0 3 true) 0 1 false) (.var 1)) ( .ret (.var 2)) ( .chk [] (.dfd (.bin .add (.var 2) (.int .i64 (1))))<| .jmp 0 (.cons (.bin .add (.var 2) (.int .i64 (1))) .nil))) ( .jmp 1 .nil)) ( .ret (.int .i64 (-1)))
theorem zrX:zbj Tryz.prog sgs 45=some zmP:=by kernel_rfl
theorem zdm (a0:zab) (a1:List UInt8) (r:Int) (h:zbk a0 a1=some r):Rts Tryz.prog sgs 45 [zae a0, .str a1] (.int .i64 r):=by
 refine zah zrX (by kernel_rfl) ?_
 unfold Den zmP
 unfold zbk at h
 refine zaa (by simp) ?_
 refine zaa (by simp) ?_
 refine zbB (fun s:Int=> [.int .i64 s]) h (by simp) (fun W1 A1 v1 o1 h hn1 hf1 hk1=> ?_)
 replace h:zeo a0 a1 v1=some o1:=h
 unfold zeo at h
 refine zaa (by simp) ?_
 refine zam h (by simp) (fun e2 h=> ?_) (fun e2 h=> ?_)
 ·obtain⟨y3,hy3,h⟩:=zaD h
  have hy3':=(zaG hy3).2.2
  refine zaa (fun _=>zaH (kk:= .i64) (f:=zbW) (by simp) (by simp) hy3 (by simp)) ?_
  refine zaa (by simp [e2,hy3']) ?_
  refine zaa (by simp [e2,hy3']) ?_
  refine zam h (by simp [e2,hy3']) (fun e4 h=> ?_) (fun e4 h=> ?_)
  ·exact zad (av:=zaw) (hf1 _ h) (by simp)
  ·refine zaa (by simp) ?_
   exact za4 (K:=fun s=>some (Sum.inl s)) (s:=(IntKind.i64.wrap (v1+1))) hn1 h rfl (by simp)
 ·refine zaN hk1 rfl (vs:= []) (by simp) ?_
  replace h:=(hf1 _ h)
  exact zad (av:=zaw) h (by simp)
def zl3:Tr:= .chk [] (.agg (.var 0) 3)<| .chk [] (.room (.lst .nil) (.fld (.var 0) 1 1 false) 16)<| .chk [] (.flatS (.fld (.var 0) 1 1 false) 1)<| .chk [] (.room (.lst .nil) (.fld (.var 0) 2 1 false) 32)<| .chk [] (.flatS (.fld (.var 0) 2 1 false) 3)<| .chk [] (.cells (.fld (.var 0) 0 1 false) 1)<| .ret (.mk (.cons (.fld (.var 0) 0 1 false) (.cons (.app (.lst .nil) (.fld (.var 0) 1 1 false)) (.cons (.app (.lst .nil) (.fld (.var 0) 2 1 false)) .nil))))
theorem zsT:zbj Tryz.prog sgs 121=some zl3:=by kernel_rfl
theorem zmD (a0:zab) (r:zab) (h:ze6 a0=some r):Rts Tryz.prog sgs 121 [zae a0] (zae r):=by
 refine zah zsT (by kernel_rfl) ?_
 unfold Den zl3
 unfold ze6 at h
 refine zaa (by simp) ?_
 obtain⟨q1,h⟩:=zfa h
 refine zaa (fun _=>zfU (show _=AV.sl (List.map zal ([]:List (List UInt8)))from by simp) (show _=AV.sl (List.map zal a0.fCols)from by simp) (by simpa using q1)) ?_
 refine zaa (fun _=>zfY zal (show _=AV.sl (List.map zal a0.fCols)from by simp) (by simp)) ?_
 obtain⟨q2,h⟩:=zfa h
 refine zaa (fun _=>zfU (show _=AV.sl (List.map zbW ([]:List zb8))from by simp) (show _=AV.sl (List.map zbW a0.fIdxs)from by simp) (by simpa using q2)) ?_
 refine zaa (fun _=>zfY zbW (show _=AV.sl (List.map zbW a0.fIdxs)from by simp) (by simp)) ?_
 refine zaa (by simp) ?_
 exact zad (av:=zae) h (by simp)
def zmU:Tr:= .chk [] (.agg (.var 0) 3)<| .call [] (.inl 121) (.cons (.mk (.cons (.fld (.var 0) 0 1 false) (.cons (.fld (.var 0) 1 1 false) (.cons (.fld (.var 0) 2 1 false) .nil)))) .nil)<| .call [] (.inl 45) (.cons (.mk (.cons (.fld (.var 0) 0 1 false) (.cons (.fld (.var 0) 1 1 false) (.cons (.fld (.var 0) 2 1 false) .nil)))) (.cons (.var 1) .nil))<| .chk [] (.inb (.var 4) (.fld (.var 3) 2 1 false) 3)<| .chk [] (.flat (.var 2) 1 false)<| .chk [] (.flat (.fld (.idx (.fld (.var 3) 2 1 false) (.var 4)) 2 1 false) 1 false)<| .ret (.mk (.cons (.fld (.var 3) 0 1 false) (.cons (.fld (.var 3) 1 1 false) (.cons (.set (.fld (.var 3) 2 1 false) (.var 4) (.put (.idx (.fld (.var 3) 2 1 false) (.var 4)) 2 (.var 2) true)) .nil))))
theorem zsy:zbj Tryz.prog sgs 122=some zmU:=by kernel_rfl
theorem zml (a0:zab) (a1:List UInt8) (a2:Int) (r:zab) (h:zeY a0 a1 a2=some r):Rts Tryz.prog sgs 122 [zae a0, .str a1, .int .i64 a2] (zae r):=by
 refine zah zsy (by kernel_rfl) ?_
 unfold Den zmU
 unfold zeY at h
 refine zaa (by simp) ?_
 refine zac zae h (fun x hx=>by simpa using zmD a0 x hx) (fun v1 cv1 h=> ?_)
 refine zac zaw h (fun x hx=>by simpa using zdm a0 a1 x hx) (fun v2 cv2 h=> ?_)
 obtain⟨y3,hy3,h⟩:=zaD h
 have hy3':=(zaG hy3).2.2
 refine zaa (fun _=>zaH (kk:= .i64) (f:=zbW) (by simp) (by simp) hy3 (by simp)) ?_
 refine zaa (by simp) ?_
 refine zaa (by simp [hy3']) ?_
 exact zad (av:=zae) h (by simp [hy3'])
def zmd:Tr:= .chk [] (.agg (.var 0) 3)<| .call [] (.inl 121) (.cons (.mk (.cons (.fld (.var 0) 0 1 false) (.cons (.fld (.var 0) 1 1 false) (.cons (.fld (.var 0) 2 1 false) .nil)))) .nil)<| .chk [] (.agg (.mk (.cons (.fld (.var 3) 0 1 false) (.cons (.fld (.var 3) 1 1 false) (.cons (.fld (.var 3) 2 1 false) .nil)))) 3)<| .call [] (.inl 45) (.cons (.mk (.cons (.fld (.var 0) 0 1 false) (.cons (.fld (.var 0) 1 1 false) (.cons (.fld (.var 0) 2 1 false) .nil)))) (.cons (.var 1) .nil))<| .chk [] (.inb (.var 4) (.fld (.var 0) 2 1 false) 3)<| .loop (.cons (.fld (.idx (.fld (.var 0) 2 1 false) (.var 4)) 2 1 false) (.cons (.lst (.cons (.mk (.cons (.fld (.var 3) 0 1 false) (.cons (.fld (.var 3) 1 1 false) (.cons (.fld (.var 3) 2 1 false) .nil)))) .nil)) .nil)) ( .chk [] (.dfd (.bin .neq (.var 5) (.var 2)))<| .ite (.bin .neq (.var 5) (.var 2)) ( .join ( .chk [] (.dfd (.bin .lss (.var 5) (.var 2)))<| .ite (.bin .lss (.var 5) (.var 2)) ( .chk [] (.dfd (.bin .add (.var 5) (.int .i64 (1))))<| .jmp 0 (.cons (.bin .add (.var 5) (.int .i64 (1))) .nil)) ( .chk [] (.dfd (.bin .sub (.var 5) (.int .i64 (1))))<| .jmp 0 (.cons (.bin .sub (.var 5) (.int .i64 (1))) .nil))) ( .call [] (.inl 122) (.cons (.mk (.cons (.fld (.var 0) 0 1 false) (.cons (.fld (.var 0) 1 1 false) (.cons (.fld (.var 0) 2 1 false) .nil)))) (.cons (.var 1) (.cons (.var 7) .nil)))<| .chk [] (.agg (.mk (.cons (.fld (.var 8) 0 1 false) (.cons (.fld (.var 8) 1 1 false) (.cons (.fld (.var 8) 2 1 false) .nil)))) 3)<| .chk [] (.room (.var 6) (.lst (.cons (.mk (.cons (.fld (.var 8) 0 1 false) (.cons (.fld (.var 8) 1 1 false) (.cons (.fld (.var 8) 2 1 false) .nil)))) .nil)) 64)<| .chk [] (.issl (.lst (.cons (.mk (.cons (.fld (.var 8) 0 1 false) (.cons (.fld (.var 8) 1 1 false) (.cons (.fld (.var 8) 2 1 false) .nil)))) .nil)) 3)<| .jmp 0 (.cons (.var 7) (.cons (.app (.var 6) (.lst (.cons (.mk (.cons (.fld (.var 8) 0 1 false) (.cons (.fld (.var 8) 1 1 false) (.cons (.fld (.var 8) 2 1 false) .nil)))) .nil))) .nil)))) ( .jmp 1 (.cons (.var 6) .nil))) ( .ret (.var 5))
theorem zsQ:zbj Tryz.prog sgs 83=some zmd:=by kernel_rfl
theorem zss (a0:zab) (a1:List UInt8) (a2:Int) (r:List zab) (h:zf6 a0 a1 a2=some r):Rts Tryz.prog sgs 83 [zae a0, .str a1, .int .i64 a2] (.sl (r.map zae)):=by
 refine zah zsQ (by kernel_rfl) ?_
 unfold Den zmd
 unfold zf6 at h
 refine zaa (by simp) ?_
 refine zac zae h (fun x hx=>by simpa using zmD a0 x hx) (fun v1 cv1 h=> ?_)
 refine zaa (by simp) ?_
 refine zac zaw h (fun x hx=>by simpa using zdm a0 a1 x hx) (fun v2 cv2 h=> ?_)
 obtain⟨y3,hy3,h⟩:=zaD h
 have hy3':=(zaG hy3).2.2
 refine zaa (fun _=>zaH (kk:= .i64) (f:=zbW) (by simp) (by simp) hy3 (by simp)) ?_
 refine zbB (fun s:Int × List zab=> [.int .i64 s.1, .sl (s.2.map zae)]) h (by simp [hy3']) (fun W1 A1 s o1 h hn1 hf1 hk1=> ?_)
 obtain⟨v4,v5⟩:=s
 replace h:zcJ a0 a1 a2 v4 v5=some o1:=h
 unfold zcJ at h
 refine zaa (by simp) ?_
 refine zam h (by simp) (fun e6 h=> ?_) (fun e6 h=> ?_)
 ·refine zic fun j7 hj7=> ?_
  refine zaa (by simp) ?_
  refine zam h (by simp) (fun e8 h=> ?_) (fun e8 h=> ?_)
  ·refine zaa (by simp) ?_
   refine zaN hj7 rfl (vs:= [.int .i64 (IntKind.i64.wrap (v4+1))]) (by simp) ?_
   refine zac zae h (fun x hx=>by simpa using zml a0 a1 (IntKind.i64.wrap (v4+1)) x hx) (fun v9 cv9 h=> ?_)
   refine zaa (by simp) ?_
   obtain⟨q10,h⟩:=zfa h
   refine zaa (fun _=>zfU (show _=AV.sl (List.map zae v5)from by simp) (show _=AV.sl (List.map zae ([v9]:List zab))from by simp) (by simpa using q10)) ?_
   refine zaa (fun _=>zi4 zae (show _=AV.sl (List.map zae ([v9]:List zab))from by simp) (by simp)) ?_
   exact za4 (K:=fun s=>some (Sum.inl s)) (s:=((IntKind.i64.wrap (v4+1)),(v5++ [v9]))) hn1 h rfl (by simp)
  ·refine zaa (by simp) ?_
   refine zaN hj7 rfl (vs:= [.int .i64 (IntKind.i64.wrap (v4-1))]) (by simp) ?_
   refine zac zae h (fun x hx=>by simpa using zml a0 a1 (IntKind.i64.wrap (v4-1)) x hx) (fun v11 cv11 h=> ?_)
   refine zaa (by simp) ?_
   obtain⟨q12,h⟩:=zfa h
   refine zaa (fun _=>zfU (show _=AV.sl (List.map zae v5)from by simp) (show _=AV.sl (List.map zae ([v11]:List zab))from by simp) (by simpa using q12)) ?_
   refine zaa (fun _=>zi4 zae (show _=AV.sl (List.map zae ([v11]:List zab))from by simp) (by simp)) ?_
   exact za4 (K:=fun s=>some (Sum.inl s)) (s:=((IntKind.i64.wrap (v4-1)),(v5++ [v11]))) hn1 h rfl (by simp)
 ·refine zaN hk1 rfl (vs:= [.sl (v5.map zae)]) (by simp) ?_
  replace h:=(hf1 _ h)
  exact zad (av:=zkB) h (by simp)
def zhY:Tr:= .chk [] (.agg (.var 0) 3)<| .chk [] (.agg (.var 1) 3)<| .chk [] (.dfd (.sbin .neq (.fld (.var 0) 0 1 false) (.fld (.var 1) 0 1 false)))<| .chk [((.sbin .neq (.fld (.var 0) 0 1 false) (.fld (.var 1) 0 1 false)),false)] (.dfd (.len (.fld (.var 0) 1 1 false)))<| .chk [((.sbin .neq (.fld (.var 0) 0 1 false) (.fld (.var 1) 0 1 false)),false)] (.dfd (.len (.fld (.var 1) 1 1 false)))<| .chk [] (.dfd (.not (.sbin .neq (.fld (.var 0) 0 1 false) (.fld (.var 1) 0 1 false))))<| .chk [((.ite (.sbin .neq (.fld (.var 0) 0 1 false) (.fld (.var 1) 0 1 false)) (.bool true) (.bin .neq (.len (.fld (.var 0) 1 1 false)) (.len (.fld (.var 1) 1 1 false)))),false)] (.dfd (.len (.fld (.var 0) 2 1 false)))<| .chk [((.ite (.sbin .neq (.fld (.var 0) 0 1 false) (.fld (.var 1) 0 1 false)) (.bool true) (.bin .neq (.len (.fld (.var 0) 1 1 false)) (.len (.fld (.var 1) 1 1 false)))),false)] (.dfd (.len (.fld (.var 1) 2 1 false)))<| .chk [] (.dfd (.not (.ite (.sbin .neq (.fld (.var 0) 0 1 false) (.fld (.var 1) 0 1 false)) (.bool true) (.bin .neq (.len (.fld (.var 0) 1 1 false)) (.len (.fld (.var 1) 1 1 false))))))<| .ite (.ite (.ite (.sbin .neq (.fld (.var 0) 0 1 false) (.fld (.var 1) 0 1 false)) (.bool true) (.bin .neq (.len (.fld (.var 0) 1 1 false)) (.len (.fld (.var 1) 1 1 false)))) (.bool true) (.bin .neq (.len (.fld (.var 0) 2 1 false)) (.len (.fld (.var 1) 2 1 false)))) ( .ret (.bool false)) ( .chk [] (.dfd (.len (.fld (.var 0) 1 1 false)))<| .loop (.cons (.int .i64 (0)) .nil) ( .chk [] (.dfd (.bin .lss (.var 2) (.len (.fld (.var 0) 1 1 false))))<| .ite (.bin .lss (.var 2) (.len (.fld (.var 0) 1 1 false))) ( .chk [] (.inb (.var 2) (.fld (.var 0) 1 1 false) 1)<| .chk [] (.inb (.var 2) (.fld (.var 1) 1 1 false) 1)<| .chk [] (.dfd (.sbin .neq (.fld (.idx (.fld (.var 0) 1 1 false) (.var 2)) 0 1 false) (.fld (.idx (.fld (.var 1) 1 1 false) (.var 2)) 0 1 false)))<| .ite (.sbin .neq (.fld (.idx (.fld (.var 0) 1 1 false) (.var 2)) 0 1 false) (.fld (.idx (.fld (.var 1) 1 1 false) (.var 2)) 0 1 false)) ( .ret (.bool false)) ( .chk [] (.dfd (.bin .add (.var 2) (.int .i64 (1))))<| .jmp 0 (.cons (.bin .add (.var 2) (.int .i64 (1))) .nil))) ( .jmp 1 .nil)) ( .chk [] (.dfd (.len (.fld (.var 0) 2 1 false)))<| .loop (.cons (.int .i64 (0)) .nil) ( .chk [] (.dfd (.bin .lss (.var 2) (.len (.fld (.var 0) 2 1 false))))<| .ite (.bin .lss (.var 2) (.len (.fld (.var 0) 2 1 false))) ( .chk [] (.inb (.var 2) (.fld (.var 0) 2 1 false) 3)<| .chk [] (.inb (.var 2) (.fld (.var 1) 2 1 false) 3)<| .chk [] (.dfd (.sbin .neq (.fld (.idx (.fld (.var 0) 2 1 false) (.var 2)) 0 1 false) (.fld (.idx (.fld (.var 1) 2 1 false) (.var 2)) 0 1 false)))<| .chk [((.sbin .neq (.fld (.idx (.fld (.var 0) 2 1 false) (.var 2)) 0 1 false) (.fld (.idx (.fld (.var 1) 2 1 false) (.var 2)) 0 1 false)),false)] (.inb (.var 2) (.fld (.var 0) 2 1 false) 3)<| .chk [((.sbin .neq (.fld (.idx (.fld (.var 0) 2 1 false) (.var 2)) 0 1 false) (.fld (.idx (.fld (.var 1) 2 1 false) (.var 2)) 0 1 false)),false)] (.inb (.var 2) (.fld (.var 1) 2 1 false) 3)<| .chk [((.sbin .neq (.fld (.idx (.fld (.var 0) 2 1 false) (.var 2)) 0 1 false) (.fld (.idx (.fld (.var 1) 2 1 false) (.var 2)) 0 1 false)),false)] (.dfd (.bin .neq (.fld (.idx (.fld (.var 0) 2 1 false) (.var 2)) 1 1 false) (.fld (.idx (.fld (.var 1) 2 1 false) (.var 2)) 1 1 false)))<| .chk [] (.dfd (.not (.sbin .neq (.fld (.idx (.fld (.var 0) 2 1 false) (.var 2)) 0 1 false) (.fld (.idx (.fld (.var 1) 2 1 false) (.var 2)) 0 1 false))))<| .ite (.ite (.sbin .neq (.fld (.idx (.fld (.var 0) 2 1 false) (.var 2)) 0 1 false) (.fld (.idx (.fld (.var 1) 2 1 false) (.var 2)) 0 1 false)) (.bool true) (.bin .neq (.fld (.idx (.fld (.var 0) 2 1 false) (.var 2)) 1 1 false) (.fld (.idx (.fld (.var 1) 2 1 false) (.var 2)) 1 1 false))) ( .ret (.bool false)) ( .chk [] (.dfd (.bin .add (.var 2) (.int .i64 (1))))<| .jmp 0 (.cons (.bin .add (.var 2) (.int .i64 (1))) .nil))) ( .jmp 1 .nil)) ( .ret (.bool true))))
theorem zmG:zbj Tryz.prog sgs 84=some zhY:=by kernel_rfl
theorem zmt (a0:zab) (a1:zab) (r:Bool) (h:zdp a0 a1=some r):Rts Tryz.prog sgs 84 [zae a0,zae a1] (.bool r):=by
 refine zah zmG (by kernel_rfl) ?_
 unfold Den zhY
 unfold zdp at h
 refine zaa (by simp) ?_
 refine zaa (by simp) ?_
 refine zaa (by simp) ?_
 refine zaa (by simp) ?_
 refine zaa (by simp) ?_
 refine zaa (by simp) ?_
 refine zaa (by simp) ?_
 refine zaa (by simp) ?_
 refine zaa (by simp) ?_
 refine zam h (by simp) (fun e1 h=> ?_) (fun e1 h=> ?_)
 ·have e1':=e1
  try simp only [decide_eq_true_eq,decide_eq_false_iff_not,ge_iff_le,gt_iff_lt,Int.ofNat_le,Int.ofNat_lt]at e1'
  exact zad (av:=avB) h (by simp)
 ·have e1':=e1
  try simp only [decide_eq_true_eq,decide_eq_false_iff_not,ge_iff_le,gt_iff_lt,Int.ofNat_le,Int.ofNat_lt]at e1'
  refine zaa (by simp) ?_
  refine zhR (fun s:Int=> [.int .i64 s]) (fun s:Unit=> []) h (by simp) (K:=(fun s=>zbv a0 a1)) (fun s h=> ?_) (fun W1 A1 v7 o1 h hn1 hf1 hk1=> ?_)
  ·replace h:zbv a0 a1=some r:=h
   unfold zbv at h
   refine zaa (by simp) ?_
   refine zbB (fun s:Int=> [.int .i64 s]) h (by simp) (fun W1 A1 v2 o1 h hn1 hf1 hk1=> ?_)
   replace h:zbs a0 a1 v2=some o1:=h
   unfold zbs at h
   refine zaa (by simp) ?_
   refine zam h (by simp) (fun e3 h=> ?_) (fun e3 h=> ?_)
   ·obtain⟨y4,hy4,h⟩:=zaD h
    have hy4':=(zaG hy4).2.2
    refine zaa (fun _=>zaH (kk:= .i64) (f:=zbW) (by simp) (by simp) hy4 (by simp)) ?_
    obtain⟨y5,hy5,h⟩:=zaD h
    have hy5':=(zaG hy5).2.2
    refine zaa (fun _=>zaH (kk:= .i64) (f:=zbW) (by simp) (by simp) hy5 (by simp)) ?_
    refine zaa (by simp [e1,e1',e3,hy4',hy5']) ?_
    refine zaa (fun _=>zaH (kk:= .i64) (f:=zbW) (by simp) (by simp) hy4 (by simp)) ?_
    refine zaa (fun _=>zaH (kk:= .i64) (f:=zbW) (by simp) (by simp) hy5 (by simp)) ?_
    refine zaa (by simp [e1,e1',e3,hy4',hy5']) ?_
    refine zaa (by simp [e1,e1',e3,hy4',hy5']) ?_
    refine zam h (by simp [e1,e1',e3,hy4',hy5']) (fun e6 h=> ?_) (fun e6 h=> ?_)
    ·exact zad (av:=avB) (hf1 _ h) (by simp)
    ·refine zaa (by simp) ?_
     exact za4 (K:=fun s=>some (Sum.inl s)) (s:=(IntKind.i64.wrap (v2+1))) hn1 h rfl (by simp)
   ·refine zaN hk1 rfl (vs:= []) (by simp) ?_
    replace h:=(hf1 _ h)
    exact zad (av:=avB) h (by simp)
  ·replace h:zbq a0 a1 v7=some o1:=h
   unfold zbq at h
   refine zaa (by simp) ?_
   refine zam h (by simp) (fun e8 h=> ?_) (fun e8 h=> ?_)
   ·obtain⟨y9,hy9,h⟩:=zaD h
    have hy9':=(zaG hy9).2.2
    refine zaa (fun _=>zaH (kk:= .i64) (f:=zal) (by simp) (by simp) hy9 (by simp)) ?_
    obtain⟨y10,hy10,h⟩:=zaD h
    have hy10':=(zaG hy10).2.2
    refine zaa (fun _=>zaH (kk:= .i64) (f:=zal) (by simp) (by simp) hy10 (by simp)) ?_
    refine zaa (by simp [e1,e1',e8,hy9',hy10']) ?_
    refine zam h (by simp [e1,e1',e8,hy9',hy10']) (fun e11 h=> ?_) (fun e11 h=> ?_)
    ·exact zad (av:=avB) (hf1 _ h) (by simp)
    ·refine zaa (by simp) ?_
     exact za4 (K:=fun s=>some (Sum.inl s)) (s:=(IntKind.i64.wrap (v7+1))) hn1 h rfl (by simp)
   ·exact za4 (s:=()) hk1 (hf1 _ h) rfl (by simp)
def zmK:Tr:= .chk [] (.dfd (.bin .gtr (.var 0) (.var 1)))<| .ite (.bin .gtr (.var 0) (.var 1)) ( .ret (.var 0)) ( .ret (.var 1))
theorem zrN:zbj Tryz.prog sgs 123=some zmK:=by kernel_rfl
theorem zsw (a0:Int) (a1:Int) (r:Int) (h:zf8 a0 a1=some r):Rts Tryz.prog sgs 123 [.int .i64 a0, .int .i64 a1] (.int .i64 r):=by
 refine zah zrN (by kernel_rfl) ?_
 unfold Den zmK
 unfold zf8 at h
 refine zaa (by simp) ?_
 refine zam h (by simp) (fun e1 h=> ?_) (fun e1 h=> ?_)
 ·exact zad (av:=zaw) h (by simp)
 ·exact zad (av:=zaw) h (by simp)
def zmj:Tr:= .chk [] (.agg (.var 0) 3)<| .chk [] (.agg (.var 1) 3)<| .chk [] (.dfd (.len (.fld (.var 0) 2 1 false)))<| .loop (.cons (.int .i64 (0)) (.cons (.int .i64 (0)) .nil)) ( .chk [] (.dfd (.bin .lss (.var 3) (.len (.fld (.var 0) 2 1 false))))<| .ite (.bin .lss (.var 3) (.len (.fld (.var 0) 2 1 false))) ( .chk [] (.inb (.var 3) (.fld (.var 0) 2 1 false) 3)<| .chk [] (.inb (.var 3) (.fld (.var 1) 2 1 false) 3)<| .chk [] (.dfd (.bin .sub (.fld (.idx (.fld (.var 0) 2 1 false) (.var 3)) 2 1 false) (.fld (.idx (.fld (.var 1) 2 1 false) (.var 3)) 2 1 false)))<| .chk [] (.dfd (.neg (.bin .sub (.fld (.idx (.fld (.var 0) 2 1 false) (.var 3)) 2 1 false) (.fld (.idx (.fld (.var 1) 2 1 false) (.var 3)) 2 1 false))))<| .call [] (.inl 123) (.cons (.bin .sub (.fld (.idx (.fld (.var 0) 2 1 false) (.var 3)) 2 1 false) (.fld (.idx (.fld (.var 1) 2 1 false) (.var 3)) 2 1 false)) (.cons (.neg (.bin .sub (.fld (.idx (.fld (.var 0) 2 1 false) (.var 3)) 2 1 false) (.fld (.idx (.fld (.var 1) 2 1 false) (.var 3)) 2 1 false))) .nil))<| .chk [] (.dfd (.bin .add (.var 2) (.var 4)))<| .chk [] (.dfd (.bin .add (.var 3) (.int .i64 (1))))<| .jmp 0 (.cons (.bin .add (.var 2) (.var 4)) (.cons (.bin .add (.var 3) (.int .i64 (1))) .nil))) ( .jmp 1 (.cons (.var 2) .nil))) ( .ret (.var 2))
theorem zsf:zbj Tryz.prog sgs 85=some zmj:=by kernel_rfl
theorem zrE (a0:zab) (a1:zab) (r:Int) (h:zf0 a0 a1=some r):Rts Tryz.prog sgs 85 [zae a0,zae a1] (.int .i64 r):=by
 refine zah zsf (by kernel_rfl) ?_
 unfold Den zmj
 unfold zf0 at h
 refine zaa (by simp) ?_
 refine zaa (by simp) ?_
 refine zaa (by simp) ?_
 refine zbB (fun s:Int × Int=> [.int .i64 s.1, .int .i64 s.2]) h (by simp) (fun W1 A1 s o1 h hn1 hf1 hk1=> ?_)
 obtain⟨v1,v2⟩:=s
 replace h:zcd a0 a1 v1 v2=some o1:=h
 unfold zcd at h
 refine zaa (by simp) ?_
 refine zam h (by simp) (fun e3 h=> ?_) (fun e3 h=> ?_)
 ·obtain⟨y4,hy4,h⟩:=zaD h
  have hy4':=(zaG hy4).2.2
  refine zaa (fun _=>zaH (kk:= .i64) (f:=zbW) (by simp) (by simp) hy4 (by simp)) ?_
  obtain⟨y5,hy5,h⟩:=zaD h
  have hy5':=(zaG hy5).2.2
  refine zaa (fun _=>zaH (kk:= .i64) (f:=zbW) (by simp) (by simp) hy5 (by simp)) ?_
  refine zaa (by simp [e3,hy4',hy5']) ?_
  refine zaa (by simp [e3,hy4',hy5']) ?_
  refine zac zaw h (fun x hx=>by simpa [e3,hy4',hy5']using zsw (IntKind.i64.wrap (y4.fStage-y5.fStage)) (IntKind.i64.wrap (0-(IntKind.i64.wrap (y4.fStage-y5.fStage)))) x hx) (fun v6 cv6 h=> ?_)
  refine zaa (by simp) ?_
  refine zaa (by simp) ?_
  exact za4 (K:=fun s=>some (Sum.inl s)) (s:=((IntKind.i64.wrap (v1+v6)),(IntKind.i64.wrap (v2+1)))) hn1 h rfl (by simp)
 ·refine zaN hk1 rfl (vs:= [.int .i64 v1]) (by simp) ?_
  replace h:=(hf1 _ h)
  exact zad (av:=zaw) h (by simp)
def zkT:Tr:= .chk [] (.agg (.var 0) 4)<| .chk [] (.dfd (.len (.fld (.var 0) 1 1 false)))<| .call [] (.inl 22) (.cons (.len (.fld (.var 0) 1 1 false)) (.cons (.int .i64 (1)) (.cons (.int .i64 (4)) .nil)))<| .chk [] (.dfd (.not (.var 1)))<| .chk [((.not (.var 1)),false)] (.inb (.int .i64 (0)) (.fld (.var 0) 1 1 false) 3)<| .call [((.not (.var 1)),false)] (.inl 44) (.cons (.fld (.idx (.fld (.var 0) 1 1 false) (.int .i64 (0))) 0 3 true) .nil)<| .chk [((.not (.var 1)),false)] (.dfd (.not (.var 2)))<| .chk [] (.dfd (.not (.not (.var 1))))<| .chk [((.ite (.not (.var 1)) (.bool true) (.not (.var 2))),false)] (.inb (.int .i64 (0)) (.fld (.var 0) 1 1 false) 3)<| .call [((.ite (.not (.var 1)) (.bool true) (.not (.var 2))),false)] (.inl 45) (.cons (.fld (.idx (.fld (.var 0) 1 1 false) (.int .i64 (0))) 0 3 true) (.cons (.fld (.var 0) 0 1 false) .nil))<| .chk [((.ite (.not (.var 1)) (.bool true) (.not (.var 2))),false)] (.dfd (.bin .lss (.var 3) (.int .i64 (0))))<| .chk [] (.dfd (.not (.ite (.not (.var 1)) (.bool true) (.not (.var 2)))))<| .ite (.ite (.ite (.not (.var 1)) (.bool true) (.not (.var 2))) (.bool true) (.bin .lss (.var 3) (.int .i64 (0)))) ( .ret (.bool false)) ( .chk [] (.dfd (.len (.fld (.var 0) 1 1 false)))<| .chk [] (.inb (.bin .sub (.len (.fld (.var 0) 1 1 false)) (.int .i64 (1))) (.fld (.var 0) 1 1 false) 3)<| .chk [] (.agg (.fld (.idx (.fld (.var 0) 1 1 false) (.bin .sub (.len (.fld (.var 0) 1 1 false)) (.int .i64 (1)))) 0 3 true) 3)<| .call [] (.inl 44) (.cons (.mk (.cons (.fld (.fld (.idx (.fld (.var 0) 1 1 false) (.bin .sub (.len (.fld (.var 0) 1 1 false)) (.int .i64 (1)))) 0 3 true) 0 1 false) (.cons (.fld (.fld (.idx (.fld (.var 0) 1 1 false) (.bin .sub (.len (.fld (.var 0) 1 1 false)) (.int .i64 (1)))) 0 3 true) 1 1 false) (.cons (.fld (.fld (.idx (.fld (.var 0) 1 1 false) (.bin .sub (.len (.fld (.var 0) 1 1 false)) (.int .i64 (1)))) 0 3 true) 2 1 false) .nil)))) .nil)<| .chk [] (.dfd (.not (.var 4)))<| .call [((.not (.var 4)),false)] (.inl 45) (.cons (.mk (.cons (.fld (.fld (.idx (.fld (.var 0) 1 1 false) (.bin .sub (.len (.fld (.var 0) 1 1 false)) (.int .i64 (1)))) 0 3 true) 0 1 false) (.cons (.fld (.fld (.idx (.fld (.var 0) 1 1 false) (.bin .sub (.len (.fld (.var 0) 1 1 false)) (.int .i64 (1)))) 0 3 true) 1 1 false) (.cons (.fld (.fld (.idx (.fld (.var 0) 1 1 false) (.bin .sub (.len (.fld (.var 0) 1 1 false)) (.int .i64 (1)))) 0 3 true) 2 1 false) .nil)))) (.cons (.fld (.var 0) 0 1 false) .nil))<| .chk [((.not (.var 4)),false)] (.dfd (.bin .lss (.var 5) (.int .i64 (0))))<| .chk [] (.dfd (.not (.not (.var 4))))<| .ite (.ite (.not (.var 4)) (.bool true) (.bin .lss (.var 5) (.int .i64 (0)))) ( .ret (.bool false)) ( .chk [] (.inb (.int .i64 (0)) (.fld (.var 0) 1 1 false) 3)<| .call [] (.inl 45) (.cons (.mk (.cons (.fld (.fld (.idx (.fld (.var 0) 1 1 false) (.bin .sub (.len (.fld (.var 0) 1 1 false)) (.int .i64 (1)))) 0 3 true) 0 1 false) (.cons (.fld (.fld (.idx (.fld (.var 0) 1 1 false) (.bin .sub (.len (.fld (.var 0) 1 1 false)) (.int .i64 (1)))) 0 3 true) 1 1 false) (.cons (.fld (.fld (.idx (.fld (.var 0) 1 1 false) (.bin .sub (.len (.fld (.var 0) 1 1 false)) (.int .i64 (1)))) 0 3 true) 2 1 false) .nil)))) (.cons (.fld (.var 0) 0 1 false) .nil))<| .chk [] (.inb (.var 6) (.fld (.fld (.idx (.fld (.var 0) 1 1 false) (.bin .sub (.len (.fld (.var 0) 1 1 false)) (.int .i64 (1)))) 0 3 true) 2 1 false) 3)<| .call [] (.inl 83) (.cons (.fld (.idx (.fld (.var 0) 1 1 false) (.int .i64 (0))) 0 3 true) (.cons (.fld (.var 0) 0 1 false) (.cons (.fld (.idx (.fld (.fld (.idx (.fld (.var 0) 1 1 false) (.bin .sub (.len (.fld (.var 0) 1 1 false)) (.int .i64 (1)))) 0 3 true) 2 1 false) (.var 6)) 2 1 false) .nil)))<| .chk [] (.dfd (.len (.var 7)))<| .chk [] (.dfd (.len (.fld (.var 0) 1 1 false)))<| .ite (.bin .neq (.len (.var 7)) (.len (.fld (.var 0) 1 1 false))) ( .ret (.bool false)) ( .chk [] (.dfd (.len (.var 7)))<| .loop (.cons (.int .i64 (0)) .nil) ( .chk [] (.dfd (.bin .lss (.var 8) (.len (.var 7))))<| .ite (.bin .lss (.var 8) (.len (.var 7))) ( .chk [] (.inb (.var 8) (.fld (.var 0) 1 1 false) 3)<| .call [] (.inl 44) (.cons (.fld (.idx (.fld (.var 0) 1 1 false) (.var 8)) 0 3 true) .nil)<| .chk [] (.dfd (.not (.var 9)))<| .chk [((.not (.var 9)),false)] (.inb (.var 8) (.var 7) 3)<| .chk [((.not (.var 9)),false)] (.inb (.var 8) (.fld (.var 0) 1 1 false) 3)<| .call [((.not (.var 9)),false)] (.inl 84) (.cons (.fld (.idx (.var 7) (.var 8)) 0 3 true) (.cons (.fld (.idx (.fld (.var 0) 1 1 false) (.var 8)) 0 3 true) .nil))<| .chk [((.not (.var 9)),false)] (.dfd (.not (.var 10)))<| .chk [] (.dfd (.not (.not (.var 9))))<| .chk [((.ite (.not (.var 9)) (.bool true) (.not (.var 10))),false)] (.inb (.var 8) (.var 7) 3)<| .chk [((.ite (.not (.var 9)) (.bool true) (.not (.var 10))),false)] (.inb (.var 8) (.fld (.var 0) 1 1 false) 3)<| .call [((.ite (.not (.var 9)) (.bool true) (.not (.var 10))),false)] (.inl 85) (.cons (.fld (.idx (.var 7) (.var 8)) 0 3 true) (.cons (.fld (.idx (.fld (.var 0) 1 1 false) (.var 8)) 0 3 true) .nil))<| .chk [((.ite (.not (.var 9)) (.bool true) (.not (.var 10))),false)] (.dfd (.bin .neq (.var 11) (.int .i64 (0))))<| .chk [] (.dfd (.not (.ite (.not (.var 9)) (.bool true) (.not (.var 10)))))<| .ite (.ite (.ite (.not (.var 9)) (.bool true) (.not (.var 10))) (.bool true) (.bin .neq (.var 11) (.int .i64 (0)))) ( .ret (.bool false)) ( .chk [] (.dfd (.bin .add (.var 8) (.int .i64 (1))))<| .jmp 0 (.cons (.bin .add (.var 8) (.int .i64 (1))) .nil))) ( .jmp 1 .nil)) ( .ret (.bool true)))))
theorem zqM:zbj Tryz.prog sgs 57=some zkT:=by kernel_rfl
theorem zqE (a0:zaB) (r:Bool) (h:zdx a0=some r):Rts Tryz.prog sgs 57 [zcS a0] (.bool r):=by
 refine zah zqM (by kernel_rfl) ?_
 unfold Den zkT
 unfold zdx at h
 refine zaa (by simp) ?_
 refine zaa (by simp) ?_
 refine zac avB h (fun x hx=>by simpa using zed (a0.fWays.length:Int) 1 4 x hx) (fun v1 cv1 h=> ?_)
 refine zaa (by simp) ?_
 refine zav h (fun e2 h=> ?_) (fun e2 h=> ?_)
 ·obtain⟨y3,hy3,h⟩:=zaD h
  have hy3':=(zaG hy3).2.2
  try simp at hy3'
  refine zaa (fun _=>zaH (kk:= .i64) (f:=zae) (by simp) (by simp) hy3 (by simp)) ?_
  refine zac avB h (fun x hx=>by simpa [e2,hy3']using zfv y3 x hx) (fun v4 cv4 h=> ?_)
  refine zaa (by simp) ?_
  refine zaa (by simp) ?_
  refine zaa (fun _=>zaH (kk:= .i64) (f:=zae) (by simp) (by simp) hy3 (by simp)) ?_
  refine zav h (fun e5 h=> ?_) (fun e5 h=> ?_)
  ·refine zac zaw h (fun x hx=>by simpa [e2,hy3',e5]using zdm y3 a0.fName x hx) (fun v6 cv6 h=> ?_)
   refine zaa (by simp) ?_
   refine zaa (by simp [e2,hy3',e5]) ?_
   refine zam h (by simp [e2,hy3',e5]) (fun e7 h=> ?_) (fun e7 h=> ?_)
   ·exact zad (av:=avB) h (by simp)
   ·refine zaa (by simp) ?_
    obtain⟨y8,hy8,h⟩:=zaD h
    have hy8':=(zaG hy8).2.2
    try simp at hy8'
    refine zaa (fun _=>zaH (kk:= .i64) (f:=zae) (by simp) (by simp) hy8 (by simp)) ?_
    refine zaa (by simp [e2,hy3',e5,e7,hy8']) ?_
    refine zac avB h (fun x hx=>by simpa [e2,hy3',e5,e7,hy8']using zfv y8 x hx) (fun v9 cv9 h=> ?_)
    refine zaa (by simp) ?_
    refine zav h (fun e10 h=> ?_) (fun e10 h=> ?_)
    ·refine zac zaw h (fun x hx=>by simpa [e2,hy3',e5,e7,hy8',e10]using zdm y8 a0.fName x hx) (fun v11 cv11 h=> ?_)
     refine zaa (by simp) ?_
     refine zaa (by simp) ?_
     refine zam h (by simp [e2,hy3',e5,e7,hy8',e10]) (fun e12 h=> ?_) (fun e12 h=> ?_)
     ·exact zad (av:=avB) h (by simp)
     ·refine zaa (fun _=>zaH (kk:= .i64) (f:=zae) (by simp) (by simp) hy3 (by simp)) ?_
      refine zac zaw h (fun x hx=>by simpa [e2,hy3',e5,e7,hy8',e10,e12]using zdm y8 a0.fName x hx) (fun v13 cv13 h=> ?_)
      obtain⟨y14,hy14,h⟩:=zaD h
      have hy14':=(zaG hy14).2.2
      refine zaa (fun _=>zaH (kk:= .i64) (f:=zbW) (by simp) (by simp [e2,hy3',e5,e7,hy8',e10,e12]) hy14 (by simp)) ?_
      refine zac zkB h (fun x hx=>by simpa [e2,hy3',e5,e7,hy8',e10,e12,hy14']using zss y3 a0.fName y14.fStage x hx) (fun v15 cv15 h=> ?_)
      refine zaa (by simp) ?_
      refine zaa (by simp) ?_
      refine zam h (by simp) (fun e16 h=> ?_) (fun e16 h=> ?_)
      ·have e16':=e16
       try simp only [decide_eq_true_eq,decide_eq_false_iff_not,ge_iff_le,gt_iff_lt,Int.ofNat_le,Int.ofNat_lt]at e16'
       exact zad (av:=avB) h (by simp)
      ·have e16':=e16
       try simp only [decide_eq_true_eq,decide_eq_false_iff_not,ge_iff_le,gt_iff_lt,Int.ofNat_le,Int.ofNat_lt]at e16'
       refine zaa (by simp) ?_
       refine zbB (fun s:Int=> [.int .i64 s]) h (by simp) (fun W1 A1 v17 o1 h hn1 hf1 hk1=> ?_)
       replace h:zck a0 v15 v17=some o1:=h
       unfold zck at h
       refine zaa (by simp) ?_
       refine zam h (by simp) (fun e18 h=> ?_) (fun e18 h=> ?_)
       ·obtain⟨y19,hy19,h⟩:=zaD h
        have hy19':=(zaG hy19).2.2
        refine zaa (fun _=>zaH (kk:= .i64) (f:=zae) (by simp) (by simp) hy19 (by simp)) ?_
        refine zac avB h (fun x hx=>by simpa [e2,hy3',e5,e7,hy8',e10,e12,hy14',e16,e16',e18,hy19']using zfv y19 x hx) (fun v20 cv20 h=> ?_)
        refine zaa (by simp) ?_
        refine zav h (fun e21 h=> ?_) (fun e21 h=> ?_)
        ·obtain⟨y22,hy22,h⟩:=zaD h
         have hy22':=(zaG hy22).2.2
         refine zaa (fun _=>zaH (kk:= .i64) (f:=zae) (by simp) (by simp) hy22 (by simp)) ?_
         refine zaa (fun _=>zaH (kk:= .i64) (f:=zae) (by simp) (by simp) hy19 (by simp)) ?_
         refine zac avB h (fun x hx=>by simpa [e2,hy3',e5,e7,hy8',e10,e12,hy14',e16,e16',e18,hy19',e21,hy22']using zmt y22 y19 x hx) (fun v23 cv23 h=> ?_)
         refine zaa (by simp) ?_
         refine zaa (by simp) ?_
         refine zaa (fun _=>zaH (kk:= .i64) (f:=zae) (by simp) (by simp) hy22 (by simp)) ?_
         refine zaa (fun _=>zaH (kk:= .i64) (f:=zae) (by simp) (by simp) hy19 (by simp)) ?_
         refine zav h (fun e24 h=> ?_) (fun e24 h=> ?_)
         ·refine zac zaw h (fun x hx=>by simpa [e2,hy3',e5,e7,hy8',e10,e12,hy14',e16,e16',e18,hy19',e21,hy22',e24]using zrE y22 y19 x hx) (fun v25 cv25 h=> ?_)
          refine zaa (by simp) ?_
          refine zaa (by simp [e2,hy3',e5,e7,hy8',e10,e12,hy14',e16,e16',e18,hy19',e21,hy22',e24]) ?_
          refine zam h (by simp [e2,hy3',e5,e7,hy8',e10,e12,hy14',e16,e16',e18,hy19',e21,hy22',e24]) (fun e26 h=> ?_) (fun e26 h=> ?_)
          ·exact zad (av:=avB) (hf1 _ h) (by simp)
          ·refine zaa (by simp) ?_
           exact za4 (K:=fun s=>some (Sum.inl s)) (s:=(IntKind.i64.wrap (v17+1))) hn1 h rfl (by simp)
         ·refine zaJ (by simp [e2,hy3',e5,e7,hy8',e10,e12,hy14',e16,e16',e18,hy19',e21,hy22',e24]) ?_
          refine zaa (by simp [e2,hy3',e5,e7,hy8',e10,e12,hy14',e16,e16',e18,hy19',e21,hy22',e24]) ?_
          refine zaa (by simp [e2,hy3',e5,e7,hy8',e10,e12,hy14',e16,e16',e18,hy19',e21,hy22',e24]) ?_
          refine zdt (by simp [e2,hy3',e5,e7,hy8',e10,e12,hy14',e16,e16',e18,hy19',e21,hy22',e24]) ?_
          exact zad (av:=avB) (hf1 _ h) (by simp)
        ·refine zaa (by simp [e2,hy3',e5,e7,hy8',e10,e12,hy14',e16,e16',e18,hy19',e21]) ?_
         refine zaa (by simp [e2,hy3',e5,e7,hy8',e10,e12,hy14',e16,e16',e18,hy19',e21]) ?_
         refine zaJ (by simp [e2,hy3',e5,e7,hy8',e10,e12,hy14',e16,e16',e18,hy19',e21]) ?_
         refine zaa (by simp [e2,hy3',e5,e7,hy8',e10,e12,hy14',e16,e16',e18,hy19',e21]) ?_
         refine zaa (by simp) ?_
         refine zaa (by simp [e2,hy3',e5,e7,hy8',e10,e12,hy14',e16,e16',e18,hy19',e21]) ?_
         refine zaa (by simp [e2,hy3',e5,e7,hy8',e10,e12,hy14',e16,e16',e18,hy19',e21]) ?_
         refine zaJ (by simp [e2,hy3',e5,e7,hy8',e10,e12,hy14',e16,e16',e18,hy19',e21]) ?_
         refine zaa (by simp [e2,hy3',e5,e7,hy8',e10,e12,hy14',e16,e16',e18,hy19',e21]) ?_
         refine zaa (by simp [e2,hy3',e5,e7,hy8',e10,e12,hy14',e16,e16',e18,hy19',e21]) ?_
         refine zdt (by simp [e2,hy3',e5,e7,hy8',e10,e12,hy14',e16,e16',e18,hy19',e21]) ?_
         exact zad (av:=avB) (hf1 _ h) (by simp)
       ·refine zaN hk1 rfl (vs:= []) (by simp) ?_
        replace h:=(hf1 _ h)
        exact zad (av:=avB) h (by simp)
    ·refine zaJ (by simp [e2,hy3',e5,e7,hy8',e10]) ?_
     refine zaa (by simp [e2,hy3',e5,e7,hy8',e10]) ?_
     refine zaa (by simp) ?_
     refine zdt (by simp [e2,hy3',e5,e7,hy8',e10]) ?_
     exact zad (av:=avB) h (by simp)
  ·refine zaJ (by simp [e2,hy3',e5]) ?_
   refine zaa (by simp [e2,hy3',e5]) ?_
   refine zaa (by simp [e2,hy3',e5]) ?_
   refine zdt (by simp [e2,hy3',e5]) ?_
   exact zad (av:=avB) h (by simp)
 ·refine zaa (by simp [e2]) ?_
  refine zaJ (by simp [e2]) ?_
  refine zaa (by simp [e2]) ?_
  refine zaa (by simp) ?_
  refine zaa (by simp [e2]) ?_
  refine zaJ (by simp [e2]) ?_
  refine zaa (by simp [e2]) ?_
  refine zaa (by simp [e2]) ?_
  refine zdt (by simp [e2]) ?_
  exact zad (av:=avB) h (by simp)
def zn5:Tr:= .chk [] (.dfd (.len (.var 0)))<| .loop (.cons (.int .i64 (0)) .nil) ( .chk [] (.dfd (.bin .lss (.var 3) (.len (.var 0))))<| .ite (.bin .lss (.var 3) (.len (.var 0))) ( .chk [] (.inb (.var 3) (.var 0) 1)<| .call [] (.inl 22) (.cons (.fld (.idx (.var 0) (.var 3)) 0 1 false) (.cons (.var 1) (.cons (.var 2) .nil)))<| .chk [] (.dfd (.not (.var 4)))<| .ite (.not (.var 4)) ( .ret (.bool false)) ( .chk [] (.dfd (.bin .add (.var 3) (.int .i64 (1))))<| .jmp 0 (.cons (.bin .add (.var 3) (.int .i64 (1))) .nil))) ( .jmp 1 .nil)) ( .ret (.bool true))
theorem zsY:zbj Tryz.prog sgs 58=some zn5:=by kernel_rfl
theorem zsX (a0:List Int) (a1:Int) (a2:Int) (r:Bool) (h:zg0 a0 a1 a2=some r):Rts Tryz.prog sgs 58 [.sl (a0.map zaw), .int .i64 a1, .int .i64 a2] (.bool r):=by
 refine zah zsY (by kernel_rfl) ?_
 unfold Den zn5
 unfold zg0 at h
 refine zaa (by simp) ?_
 refine zbB (fun s:Int=> [.int .i64 s]) h (by simp) (fun W1 A1 v1 o1 h hn1 hf1 hk1=> ?_)
 replace h:zcx a0 a1 a2 v1=some o1:=h
 unfold zcx at h
 refine zaa (by simp) ?_
 refine zam h (by simp) (fun e2 h=> ?_) (fun e2 h=> ?_)
 ·obtain⟨y3,hy3,h⟩:=zaD h
  have hy3':=(zaG hy3).2.2
  refine zaa (fun _=>zaH (kk:= .i64) (f:=zaw) (by simp) (by simp) hy3 (by simp)) ?_
  refine zac avB h (fun x hx=>by simpa [e2,hy3']using zed y3 a1 a2 x hx) (fun v4 cv4 h=> ?_)
  refine zaa (by simp) ?_
  refine zam h (by simp) (fun e5 h=> ?_) (fun e5 h=> ?_)
  ·exact zad (av:=avB) (hf1 _ h) (by simp)
  ·refine zaa (by simp) ?_
   exact za4 (K:=fun s=>some (Sum.inl s)) (s:=(IntKind.i64.wrap (v1+1))) hn1 h rfl (by simp)
 ·refine zaN hk1 rfl (vs:= []) (by simp) ?_
  replace h:=(hf1 _ h)
  exact zad (av:=avB) h (by simp)
def zkZ:Tr:= .loop (.cons (.int .i64 (0)) .nil) ( .chk [] (.dfd (.slen (.var 0)))<| .chk [] (.dfd (.bin .lss (.var 2) (.slen (.var 0))))<| .ite (.bin .lss (.var 2) (.slen (.var 0))) ( .chk [] (.inbS (.var 2) (.var 0))<| .chk [] (.dfd (.bin .geq (.sidx (.var 0) (.var 2)) (.int .u8 (97))))<| .chk [((.bin .geq (.sidx (.var 0) (.var 2)) (.int .u8 (97))),true)] (.inbS (.var 2) (.var 0))<| .chk [((.bin .geq (.sidx (.var 0) (.var 2)) (.int .u8 (97))),true)] (.dfd (.bin .leq (.sidx (.var 0) (.var 2)) (.int .u8 (122))))<| .chk [] (.dfd (.not (.bin .geq (.sidx (.var 0) (.var 2)) (.int .u8 (97)))))<| .chk [((.ite (.bin .geq (.sidx (.var 0) (.var 2)) (.int .u8 (97))) (.bin .leq (.sidx (.var 0) (.var 2)) (.int .u8 (122))) (.bool false)),false)] (.inbS (.var 2) (.var 0))<| .chk [((.ite (.bin .geq (.sidx (.var 0) (.var 2)) (.int .u8 (97))) (.bin .leq (.sidx (.var 0) (.var 2)) (.int .u8 (122))) (.bool false)),false)] (.dfd (.bin .geq (.sidx (.var 0) (.var 2)) (.int .u8 (48))))<| .chk [((.bin .geq (.sidx (.var 0) (.var 2)) (.int .u8 (48))),true),((.ite (.bin .geq (.sidx (.var 0) (.var 2)) (.int .u8 (97))) (.bin .leq (.sidx (.var 0) (.var 2)) (.int .u8 (122))) (.bool false)),false)] (.inbS (.var 2) (.var 0))<| .chk [((.bin .geq (.sidx (.var 0) (.var 2)) (.int .u8 (48))),true),((.ite (.bin .geq (.sidx (.var 0) (.var 2)) (.int .u8 (97))) (.bin .leq (.sidx (.var 0) (.var 2)) (.int .u8 (122))) (.bool false)),false)] (.dfd (.bin .leq (.sidx (.var 0) (.var 2)) (.int .u8 (57))))<| .chk [((.ite (.bin .geq (.sidx (.var 0) (.var 2)) (.int .u8 (97))) (.bin .leq (.sidx (.var 0) (.var 2)) (.int .u8 (122))) (.bool false)),false)] (.dfd (.not (.bin .geq (.sidx (.var 0) (.var 2)) (.int .u8 (48)))))<| .chk [] (.dfd (.not (.ite (.bin .geq (.sidx (.var 0) (.var 2)) (.int .u8 (97))) (.bin .leq (.sidx (.var 0) (.var 2)) (.int .u8 (122))) (.bool false))))<| .loop (.cons (.ite (.ite (.bin .geq (.sidx (.var 0) (.var 2)) (.int .u8 (97))) (.bin .leq (.sidx (.var 0) (.var 2)) (.int .u8 (122))) (.bool false)) (.bool true) (.ite (.bin .geq (.sidx (.var 0) (.var 2)) (.int .u8 (48))) (.bin .leq (.sidx (.var 0) (.var 2)) (.int .u8 (57))) (.bool false))) (.cons (.int .i64 (0)) .nil)) ( .chk [] (.dfd (.slen (.var 1)))<| .chk [] (.dfd (.bin .lss (.var 4) (.slen (.var 1))))<| .ite (.bin .lss (.var 4) (.slen (.var 1))) ( .chk [((.var 3),false)] (.inbS (.var 2) (.var 0))<| .chk [((.var 3),false)] (.inbS (.var 4) (.var 1))<| .chk [((.var 3),false)] (.dfd (.bin .eql (.sidx (.var 0) (.var 2)) (.sidx (.var 1) (.var 4))))<| .chk [] (.dfd (.not (.var 3)))<| .chk [] (.dfd (.bin .add (.var 4) (.int .i64 (1))))<| .jmp 0 (.cons (.ite (.var 3) (.bool true) (.bin .eql (.sidx (.var 0) (.var 2)) (.sidx (.var 1) (.var 4)))) (.cons (.bin .add (.var 4) (.int .i64 (1))) .nil))) ( .jmp 1 (.cons (.var 3) .nil))) ( .chk [] (.dfd (.not (.var 3)))<| .ite (.not (.var 3)) ( .ret (.bool false)) ( .chk [] (.dfd (.bin .add (.var 2) (.int .i64 (1))))<| .jmp 0 (.cons (.bin .add (.var 2) (.int .i64 (1))) .nil)))) ( .jmp 1 .nil)) ( .ret (.bool true))
theorem zqK:zbj Tryz.prog sgs 127=some zkZ:=by kernel_rfl
theorem zib (a0:List UInt8) (a1:List UInt8) (r:Bool) (h:zdw a0 a1=some r):Rts Tryz.prog sgs 127 [.str a0, .str a1] (.bool r):=by
 refine zah zqK (by kernel_rfl) ?_
 unfold Den zkZ
 unfold zdw at h
 refine zbB (fun s:Int=> [.int .i64 s]) h (by simp) (fun W1 A1 v1 o1 h hn1 hf1 hk1=> ?_)
 replace h:zdO a0 a1 v1=some o1:=h
 unfold zdO at h
 refine zaa (by simp) ?_
 refine zaa (by simp) ?_
 refine zam h (by simp) (fun e2 h=> ?_) (fun e2 h=> ?_)
 ·obtain⟨y3,hy3,h⟩:=zaD h
  have hy3':=(zaG hy3).2.2
  refine zaa (fun _=>ziF (kk:= .i64) (by simp) (by simp) hy3) ?_
  refine zaa (by simp [e2,hy3']) ?_
  refine zaa (fun _=>ziF (kk:= .i64) (by simp) (by simp) hy3) ?_
  refine zaa (by simp [e2,hy3']) ?_
  refine zaa (by simp [e2,hy3']) ?_
  refine zaa (fun _=>ziF (kk:= .i64) (by simp) (by simp) hy3) ?_
  refine zaa (by simp [e2,hy3']) ?_
  refine zaa (fun _=>ziF (kk:= .i64) (by simp) (by simp) hy3) ?_
  refine zaa (by simp [e2,hy3']) ?_
  refine zaa (by simp [e2,hy3']) ?_
  refine zaa (by simp [e2,hy3']) ?_
  refine zhR (fun s:Bool × Int=> [.bool s.1, .int .i64 s.2]) (fun s:Bool=> [.bool s]) h (by simp [e2,hy3']) (K:=(fun s=>zcY v1 s)) (fun v4 h=> ?_) (fun W2 A2 s o2 h hn2 hf2 hk2=> ?_)
  ·replace h:zcY v1 v4=some o1:=h
   unfold zcY at h
   refine zaa (by simp) ?_
   refine zam h (by simp) (fun e5 h=> ?_) (fun e5 h=> ?_)
   ·exact zad (av:=avB) (hf1 _ h) (by simp)
   ·refine zaa (by simp) ?_
    exact za4 (K:=fun s=>some (Sum.inl s)) (s:=(IntKind.i64.wrap (v1+1))) hn1 h rfl (by simp)
  ·obtain⟨v6,v7⟩:=s
   replace h:zci a1 v1 y3 v6 v7=some o2:=h
   unfold zci at h
   refine zaa (by simp) ?_
   refine zaa (by simp) ?_
   refine zam h (by simp) (fun e8 h=> ?_) (fun e8 h=> ?_)
   ·refine zaa (fun _=>ziF (kk:= .i64) (by simp) (by simp) hy3) ?_
    refine zav h (fun e9 h=> ?_) (fun e9 h=> ?_)
    ·refine zaa (by simp [e2,hy3',e8,e9]) ?_
     refine zaa (by simp [e2,hy3',e8,e9]) ?_
     refine zaa (by simp) ?_
     refine zaa (by simp) ?_
     exact za4 (K:=fun s=>some (Sum.inl s)) (s:=(true,(IntKind.i64.wrap (v7+1)))) hn2 h rfl (by simp [e2,hy3',e8,e9])
    ·obtain⟨y10,hy10,h⟩:=zaD h
     have hy10':=(zaG hy10).2.2
     refine zaa (fun _=>ziF (kk:= .i64) (by simp) (by simp) hy10) ?_
     refine zaa (by simp [e2,hy3',e8,e9,hy10']) ?_
     refine zaa (by simp) ?_
     refine zaa (by simp) ?_
     exact za4 (K:=fun s=>some (Sum.inl s)) (s:=(((y3.toNat:Int)==(y10.toNat:Int)),(IntKind.i64.wrap (v7+1)))) hn2 h rfl (by simp [e2,hy3',e8,e9,hy10'])
   ·exact za4 (s:=v6) hk2 (hf2 _ h) rfl (by simp)
 ·refine zaN hk1 rfl (vs:= []) (by simp) ?_
  replace h:=(hf1 _ h)
  exact zad (av:=avB) h (by simp)
def znI:Tr:= .chk [] (.dfd (.slen (.var 0)))<| .call [] (.inl 22) (.cons (.slen (.var 0)) (.cons (.int .i64 (1)) (.cons (.int .i64 (12)) .nil)))<| .call [((.var 1),true)] (.inl 127) (.cons (.var 0) (.cons (.str (ByteArray.mk #[46,47])) .nil))<| .chk [] (.dfd (.not (.var 1)))<| .ret (.ite (.var 1) (.var 2) (.bool false))
theorem ztS:zbj Tryz.prog sgs 125=some znI:=by kernel_rfl
theorem zsW (a0:List UInt8) (r:Bool) (h:zgW a0=some r):Rts Tryz.prog sgs 125 [.str a0] (.bool r):=by
 refine zah ztS (by kernel_rfl) ?_
 unfold Den znI
 unfold zgW at h
 refine zaa (by simp) ?_
 refine zac avB h (fun x hx=>by simpa using zed (a0.length:Int) 1 12 x hx) (fun v1 cv1 h=> ?_)
 refine zav h (fun e2 h=> ?_) (fun e2 h=> ?_)
 ·refine zac avB h (fun x hx=>by simpa using zib a0 ([46,47]:List UInt8) x hx) (fun v3 cv3 h=> ?_)
  refine zaa (by simp) ?_
  exact zad (av:=avB) h (by simp [e2])
 ·refine zaJ (by simp [e2]) ?_
  refine zaa (by simp) ?_
  exact zad (av:=avB) h (by simp [e2])
def znM:Tr:= .chk [] (.dfd (.slen (.var 0)))<| .call [((.bin .leq (.slen (.var 0)) (.int .i64 (24))),true)] (.inl 127) (.cons (.var 0) (.cons (.str (ByteArray.mk #[46,45,44,95])) .nil))<| .chk [] (.dfd (.not (.bin .leq (.slen (.var 0)) (.int .i64 (24)))))<| .ret (.ite (.bin .leq (.slen (.var 0)) (.int .i64 (24))) (.var 1) (.bool false))
theorem ztK:zbj Tryz.prog sgs 126=some znM:=by kernel_rfl
theorem zs6 (a0:List UInt8) (r:Bool) (h:zg3 a0=some r):Rts Tryz.prog sgs 126 [.str a0] (.bool r):=by
 refine zah ztK (by kernel_rfl) ?_
 unfold Den znM
 unfold zg3 at h
 refine zaa (by simp) ?_
 refine zav h (fun e1 h=> ?_) (fun e1 h=> ?_)
 ·refine zac avB h (fun x hx=>by simpa using zib a0 ([46,45,44,95]:List UInt8) x hx) (fun v2 cv2 h=> ?_)
  refine zaa (by simp) ?_
  exact zad (av:=avB) h (by simp [e1])
 ·refine zaJ (by simp [e1]) ?_
  refine zaa (by simp) ?_
  exact zad (av:=avB) h (by simp [e1])
def zlo:Tr:= .call [] (.inl 125) (.cons (.var 0) .nil)<| .call [((.var 3),true)] (.inl 126) (.cons (.var 1) .nil)<| .chk [] (.dfd (.not (.var 3)))<| .chk [((.ite (.var 3) (.var 4) (.bool false)),true)] (.dfd (.not (.var 2)))<| .chk [((.not (.var 2)),false),((.ite (.var 3) (.var 4) (.bool false)),true)] (.dfd (.sbin .eql (.var 1) (.str (ByteArray.mk #[]))))<| .chk [((.ite (.var 3) (.var 4) (.bool false)),true)] (.dfd (.not (.not (.var 2))))<| .chk [] (.dfd (.not (.ite (.var 3) (.var 4) (.bool false))))<| .ret (.ite (.ite (.var 3) (.var 4) (.bool false)) (.ite (.not (.var 2)) (.bool true) (.sbin .eql (.var 1) (.str (ByteArray.mk #[])))) (.bool false))
theorem zqp:zbj Tryz.prog sgs 97=some zlo:=by kernel_rfl
theorem zqq (a0:List UInt8) (a1:List UInt8) (a2:Bool) (r:Bool) (h:zfc a0 a1 a2=some r):Rts Tryz.prog sgs 97 [.str a0, .str a1, .bool a2] (.bool r):=by
 refine zah zqp (by kernel_rfl) ?_
 unfold Den zlo
 unfold zfc at h
 refine zac avB h (fun x hx=>by simpa using zsW a0 x hx) (fun v1 cv1 h=> ?_)
 refine zav h (fun e2 h=> ?_) (fun e2 h=> ?_)
 ·refine zac avB h (fun x hx=>by simpa using zs6 a1 x hx) (fun v3 cv3 h=> ?_)
  refine zaa (by simp) ?_
  refine zaa (by simp) ?_
  refine zaa (by simp) ?_
  refine zaa (by simp) ?_
  refine zaa (by simp [e2]) ?_
  exact zad (av:=avB) h (by simp [e2])
 ·refine zaJ (by simp [e2]) ?_
  refine zaa (by simp) ?_
  refine zaa (by simp [e2]) ?_
  refine zaa (by simp [e2]) ?_
  refine zaa (by simp [e2]) ?_
  refine zaa (by simp [e2]) ?_
  exact zad (av:=avB) h (by simp [e2])
def zkg:Tr:= .chk [] (.dfd (.len (.var 0)))<| .loop (.cons (.int .i64 (0)) .nil) ( .chk [] (.dfd (.bin .lss (.var 1) (.len (.var 0))))<| .ite (.bin .lss (.var 1) (.len (.var 0))) ( .chk [] (.inb (.var 1) (.var 0) 3)<| .chk [] (.agg (.fld (.idx (.var 0) (.var 1)) 0 3 true) 3)<| .call [] (.inl 97) (.cons (.fld (.fld (.idx (.var 0) (.var 1)) 0 3 true) 0 1 false) (.cons (.fld (.fld (.idx (.var 0) (.var 1)) 0 3 true) 1 1 false) (.cons (.fld (.fld (.idx (.var 0) (.var 1)) 0 3 true) 2 1 false) .nil)))<| .chk [] (.dfd (.not (.var 2)))<| .chk [((.not (.var 2)),false)] (.dfd (.bin .gtr (.var 1) (.int .i64 (0))))<| .chk [((.bin .gtr (.var 1) (.int .i64 (0))),true),((.not (.var 2)),false)] (.dfd (.bin .sub (.var 1) (.int .i64 (1))))<| .chk [((.bin .gtr (.var 1) (.int .i64 (0))),true),((.not (.var 2)),false)] (.inb (.bin .sub (.var 1) (.int .i64 (1))) (.var 0) 3)<| .chk [((.bin .gtr (.var 1) (.int .i64 (0))),true),((.not (.var 2)),false)] (.dfd (.sbin .geq (.fld (.idx (.var 0) (.bin .sub (.var 1) (.int .i64 (1)))) 0 1 false) (.fld (.fld (.idx (.var 0) (.var 1)) 0 3 true) 0 1 false)))<| .chk [((.not (.var 2)),false)] (.dfd (.not (.bin .gtr (.var 1) (.int .i64 (0)))))<| .chk [] (.dfd (.not (.not (.var 2))))<| .ite (.ite (.not (.var 2)) (.bool true) (.ite (.bin .gtr (.var 1) (.int .i64 (0))) (.sbin .geq (.fld (.idx (.var 0) (.bin .sub (.var 1) (.int .i64 (1)))) 0 1 false) (.fld (.fld (.idx (.var 0) (.var 1)) 0 3 true) 0 1 false)) (.bool false))) ( .ret (.bool false)) ( .chk [] (.dfd (.bin .add (.var 1) (.int .i64 (1))))<| .jmp 0 (.cons (.bin .add (.var 1) (.int .i64 (1))) .nil))) ( .jmp 1 .nil)) ( .chk [] (.dfd (.len (.var 0)))<| .ret (.bin .leq (.len (.var 0)) (.int .i64 (24))))
theorem zpp:zbj Tryz.prog sgs 71=some zkg:=by kernel_rfl
theorem zpc (a0:List zag) (r:Bool) (h:zeK a0=some r):Rts Tryz.prog sgs 71 [.sl (a0.map zar)] (.bool r):=by
 refine zah zpp (by kernel_rfl) ?_
 unfold Den zkg
 unfold zeK at h
 refine zaa (by simp) ?_
 refine zhR (fun s:Int=> [.int .i64 s]) (fun s:Unit=> []) h (by simp) (K:=(fun s=>zcC a0)) (fun s h=> ?_) (fun W1 A1 v1 o1 h hn1 hf1 hk1=> ?_)
 ·replace h:zcC a0=some r:=h
  unfold zcC at h
  refine zaa (by simp) ?_
  exact zad (av:=avB) h (by simp)
 ·replace h:zdk a0 v1=some o1:=h
  unfold zdk at h
  refine zaa (by simp) ?_
  refine zam h (by simp) (fun e2 h=> ?_) (fun e2 h=> ?_)
  ·obtain⟨y3,hy3,h⟩:=zaD h
   have hy3':=(zaG hy3).2.2
   refine zaa (fun _=>zaH (kk:= .i64) (f:=zar) (by simp) (by simp) hy3 (by simp)) ?_
   refine zaa (by simp [e2,hy3']) ?_
   refine zac avB h (fun x hx=>by simpa [e2,hy3']using zqq y3.fKey y3.fVal y3.fGone x hx) (fun v4 cv4 h=> ?_)
   refine zaa (by simp) ?_
   refine zaa (by simp) ?_
   refine zaa (by simp) ?_
   refine zav h (fun e5 h=> ?_) (fun e5 h=> ?_)
   ·refine zav h (fun e6 h=> ?_) (fun e6 h=> ?_)
    ·obtain⟨y7,hy7,h⟩:=zaD h
     have hy7':=(zaG hy7).2.2
     try simp at hy7'
     refine zaa (fun _=>zaH (kk:= .i64) (f:=zar) (by simp) (by simp) hy7 (by simp)) ?_
     refine zaa (by simp [e2,hy3',e5,e6,hy7']) ?_
     refine zaa (by simp) ?_
     refine zaa (by simp) ?_
     refine zam h (by simp [e2,hy3',e5,e6,hy7']) (fun e8 h=> ?_) (fun e8 h=> ?_)
     ·exact zad (av:=avB) (hf1 _ h) (by simp)
     ·refine zaa (by simp) ?_
      exact za4 (K:=fun s=>some (Sum.inl s)) (s:=(IntKind.i64.wrap (v1+1))) hn1 h rfl (by simp)
    ·refine zaa (by simp [e2,hy3',e5,e6]) ?_
     refine zaa (by simp [e2,hy3',e5,e6]) ?_
     refine zaa (by simp [e2,hy3',e5,e6]) ?_
     refine zaa (by simp) ?_
     refine zdt (by simp [e2,hy3',e5,e6]) ?_
     exact zad (av:=avB) (hf1 _ h) (by simp)
   ·refine zaa (by simp [e2,hy3',e5]) ?_
    refine zaa (by simp [e2,hy3',e5]) ?_
    refine zaa (by simp) ?_
    refine zaa (by simp) ?_
    refine zam h (by simp [e2,hy3',e5]) (fun e9 h=> ?_) (fun e9 h=> ?_)
    ·exact zad (av:=avB) (hf1 _ h) (by simp)
    ·refine zaa (by simp) ?_
     exact za4 (K:=fun s=>some (Sum.inl s)) (s:=(IntKind.i64.wrap (v1+1))) hn1 h rfl (by simp)
  ·exact za4 (s:=()) hk1 (hf1 _ h) rfl (by simp)
def zmm:Tr:= .chk [] (.dfd (.len (.var 0)))<| .loop (.cons (.int .i64 (0)) .nil) ( .chk [] (.dfd (.bin .lss (.var 1) (.len (.var 0))))<| .ite (.bin .lss (.var 1) (.len (.var 0))) ( .chk [] (.inb (.var 1) (.var 0) 3)<| .chk [] (.agg (.fld (.idx (.var 0) (.var 1)) 0 3 true) 3)<| .ite (.fld (.fld (.idx (.var 0) (.var 1)) 0 3 true) 2 1 false) ( .ret (.bool false)) ( .chk [] (.dfd (.bin .add (.var 1) (.int .i64 (1))))<| .jmp 0 (.cons (.bin .add (.var 1) (.int .i64 (1))) .nil))) ( .jmp 1 .nil)) ( .call [] (.inl 71) (.cons (.var 0) .nil)<| .ret (.var 1))
theorem zsh:zbj Tryz.prog sgs 46=some zmm:=by kernel_rfl
theorem zmV (a0:List zag) (r:Bool) (h:zeZ a0=some r):Rts Tryz.prog sgs 46 [.sl (a0.map zar)] (.bool r):=by
 refine zah zsh (by kernel_rfl) ?_
 unfold Den zmm
 unfold zeZ at h
 refine zaa (by simp) ?_
 refine zhR (fun s:Int=> [.int .i64 s]) (fun s:Unit=> []) h (by simp) (K:=(fun s=>zdj a0)) (fun s h=> ?_) (fun W1 A1 v2 o1 h hn1 hf1 hk1=> ?_)
 ·replace h:zdj a0=some r:=h
  unfold zdj at h
  refine zac avB h (fun x hx=>by simpa using zpc a0 x hx) (fun v1 cv1 h=> ?_)
  exact zad (av:=avB) h (by simp)
 ·replace h:zew a0 v2=some o1:=h
  unfold zew at h
  refine zaa (by simp) ?_
  refine zam h (by simp) (fun e3 h=> ?_) (fun e3 h=> ?_)
  ·obtain⟨y4,hy4,h⟩:=zaD h
   have hy4':=(zaG hy4).2.2
   refine zaa (fun _=>zaH (kk:= .i64) (f:=zar) (by simp) (by simp) hy4 (by simp)) ?_
   refine zaa (by simp [e3,hy4']) ?_
   refine zam h (by simp [e3,hy4']) (fun e5 h=> ?_) (fun e5 h=> ?_)
   ·exact zad (av:=avB) (hf1 _ h) (by simp)
   ·refine zaa (by simp) ?_
    exact za4 (K:=fun s=>some (Sum.inl s)) (s:=(IntKind.i64.wrap (v2+1))) hn1 h rfl (by simp)
  ·exact za4 (s:=()) hk1 (hf1 _ h) rfl (by simp)
def zi1:Tr:= .chk [] (.agg (.var 0) 4)<| .call [] (.inl 57) (.cons (.mk (.cons (.fld (.var 0) 0 1 false) (.cons (.fld (.var 0) 1 1 false) (.cons (.fld (.var 0) 2 1 false) (.cons (.fld (.var 0) 3 1 false) .nil))))) .nil)<| .chk [((.var 1),true)] (.dfd (.len (.fld (.var 0) 2 1 false)))<| .call [((.var 1),true)] (.inl 22) (.cons (.len (.fld (.var 0) 2 1 false)) (.cons (.int .i64 (1)) (.cons (.int .i64 (3)) .nil)))<| .chk [] (.dfd (.not (.var 1)))<| .chk [((.ite (.var 1) (.var 2) (.bool false)),true)] (.dfd (.len (.fld (.var 0) 1 1 false)))<| .call [((.ite (.var 1) (.var 2) (.bool false)),true)] (.inl 58) (.cons (.fld (.var 0) 2 1 false) (.cons (.int .i64 (0)) (.cons (.bin .sub (.len (.fld (.var 0) 1 1 false)) (.int .i64 (1))) .nil)))<| .chk [] (.dfd (.not (.ite (.var 1) (.var 2) (.bool false))))<| .call [((.ite (.ite (.var 1) (.var 2) (.bool false)) (.var 3) (.bool false)),true)] (.inl 46) (.cons (.fld (.var 0) 3 1 false) .nil)<| .chk [] (.dfd (.not (.ite (.ite (.var 1) (.var 2) (.bool false)) (.var 3) (.bool false))))<| .ret (.ite (.ite (.ite (.var 1) (.var 2) (.bool false)) (.var 3) (.bool false)) (.var 4) (.bool false))
theorem zn9:zbj Tryz.prog sgs 35=some zi1:=by kernel_rfl
theorem zot (a0:zaB) (r:Bool) (h:zeu a0=some r):Rts Tryz.prog sgs 35 [zcS a0] (.bool r):=by
 refine zah zn9 (by kernel_rfl) ?_
 unfold Den zi1
 unfold zeu at h
 refine zaa (by simp) ?_
 refine zac avB h (fun x hx=>by simpa using zqE a0 x hx) (fun v1 cv1 h=> ?_)
 refine zaa (by simp) ?_
 refine zav h (fun e2 h=> ?_) (fun e2 h=> ?_)
 ·refine zac avB h (fun x hx=>by simpa using zed (a0.fAt.length:Int) 1 3 x hx) (fun v3 cv3 h=> ?_)
  refine zaa (by simp) ?_
  refine zaa (by simp) ?_
  refine zav h (fun e4 h=> ?_) (fun e4 h=> ?_)
  ·refine zac avB h (fun x hx=>by simpa using zsX a0.fAt 0 (IntKind.i64.wrap ((a0.fWays.length:Int)-1)) x hx) (fun v5 cv5 h=> ?_)
   refine zaa (by simp [e2,e4]) ?_
   refine zav h (fun e6 h=> ?_) (fun e6 h=> ?_)
   ·refine zac avB h (fun x hx=>by simpa using zmV a0.fStore x hx) (fun v7 cv7 h=> ?_)
    refine zaa (by simp [e2,e4,e6]) ?_
    exact zad (av:=avB) h (by simp [e2,e4,e6])
   ·refine zaJ (by simp [e2,e4,e6]) ?_
    refine zaa (by simp [e2,e4,e6]) ?_
    exact zad (av:=avB) h (by simp [e2,e4,e6])
  ·refine zaJ (by simp [e2,e4]) ?_
   refine zaa (by simp [e2,e4]) ?_
   refine zaJ (by simp [e2,e4]) ?_
   refine zaa (by simp [e2,e4]) ?_
   exact zad (av:=avB) h (by simp [e2,e4])
 ·refine zaJ (by simp [e2]) ?_
  refine zaa (by simp) ?_
  refine zaa (by simp [e2]) ?_
  refine zaJ (by simp [e2]) ?_
  refine zaa (by simp [e2]) ?_
  refine zaJ (by simp [e2]) ?_
  refine zaa (by simp [e2]) ?_
  exact zad (av:=avB) h (by simp [e2])
def zi8:Tr:= .chk [] (.agg (.var 0) 4)<| .chk [] (.dfd (.len (.fld (.var 0) 2 1 false)))<| .loop (.cons (.lst .nil) (.cons (.int .i64 (0)) .nil)) ( .chk [] (.dfd (.bin .lss (.var 2) (.len (.fld (.var 0) 2 1 false))))<| .ite (.bin .lss (.var 2) (.len (.fld (.var 0) 2 1 false))) ( .chk [] (.inb (.var 2) (.fld (.var 0) 2 1 false) 1)<| .chk [] (.inb (.fld (.idx (.fld (.var 0) 2 1 false) (.var 2)) 0 1 false) (.fld (.var 0) 1 1 false) 3)<| .chk [] (.inb (.fld (.idx (.fld (.var 0) 2 1 false) (.var 2)) 0 1 false) (.fld (.var 0) 1 1 false) 3)<| .call [] (.inl 45) (.cons (.fld (.idx (.fld (.var 0) 1 1 false) (.fld (.idx (.fld (.var 0) 2 1 false) (.var 2)) 0 1 false)) 0 3 true) (.cons (.fld (.var 0) 0 1 false) .nil))<| .chk [] (.inb (.var 3) (.fld (.idx (.fld (.var 0) 1 1 false) (.fld (.idx (.fld (.var 0) 2 1 false) (.var 2)) 0 1 false)) 2 1 false) 3)<| .chk [] (.flat (.fld (.idx (.fld (.idx (.fld (.var 0) 1 1 false) (.fld (.idx (.fld (.var 0) 2 1 false) (.var 2)) 0 1 false)) 2 1 false) (.var 3)) 2 1 false) 1 false)<| .chk [] (.room (.var 1) (.lst (.cons (.fld (.idx (.fld (.idx (.fld (.var 0) 1 1 false) (.fld (.idx (.fld (.var 0) 2 1 false) (.var 2)) 0 1 false)) 2 1 false) (.var 3)) 2 1 false) .nil)) 8)<| .chk [] (.flatS (.lst (.cons (.fld (.idx (.fld (.idx (.fld (.var 0) 1 1 false) (.fld (.idx (.fld (.var 0) 2 1 false) (.var 2)) 0 1 false)) 2 1 false) (.var 3)) 2 1 false) .nil)) 1)<| .chk [] (.dfd (.bin .add (.var 2) (.int .i64 (1))))<| .jmp 0 (.cons (.app (.var 1) (.lst (.cons (.fld (.idx (.fld (.idx (.fld (.var 0) 1 1 false) (.fld (.idx (.fld (.var 0) 2 1 false) (.var 2)) 0 1 false)) 2 1 false) (.var 3)) 2 1 false) .nil))) (.cons (.bin .add (.var 2) (.int .i64 (1))) .nil))) ( .jmp 1 (.cons (.var 1) .nil))) ( .ret (.var 1))
theorem zn7:zbj Tryz.prog sgs 86=some zi8:=by kernel_rfl
theorem zoj (a0:zaB) (r:List Int) (h:zes a0=some r):Rts Tryz.prog sgs 86 [zcS a0] (.sl (r.map zaw)):=by
 refine zah zn7 (by kernel_rfl) ?_
 unfold Den zi8
 unfold zes at h
 refine zaa (by simp) ?_
 refine zaa (by simp) ?_
 refine zbB (fun s:List Int × Int=> [.sl (s.1.map zaw), .int .i64 s.2]) h (by simp) (fun W1 A1 s o1 h hn1 hf1 hk1=> ?_)
 obtain⟨v1,v2⟩:=s
 replace h:zbt a0 v1 v2=some o1:=h
 unfold zbt at h
 refine zaa (by simp) ?_
 refine zam h (by simp) (fun e3 h=> ?_) (fun e3 h=> ?_)
 ·obtain⟨y4,hy4,h⟩:=zaD h
  have hy4':=(zaG hy4).2.2
  refine zaa (fun _=>zaH (kk:= .i64) (f:=zaw) (by simp) (by simp) hy4 (by simp)) ?_
  obtain⟨y5,hy5,h⟩:=zaD h
  have hy5':=(zaG hy5).2.2
  refine zaa (fun _=>zaH (kk:= .i64) (f:=zae) (by simp [e3,hy4']) (by simp) hy5 (by simp)) ?_
  refine zaa (fun _=>zaH (kk:= .i64) (f:=zae) (by simp [e3,hy4',hy5']) (by simp) hy5 (by simp)) ?_
  refine zac zaw h (fun x hx=>by simpa [e3,hy4',hy5']using zdm y5 a0.fName x hx) (fun v6 cv6 h=> ?_)
  obtain⟨y7,hy7,h⟩:=zaD h
  have hy7':=(zaG hy7).2.2
  refine zaa (fun _=>zaH (kk:= .i64) (f:=zbW) (by simp) (by simp [e3,hy4',hy5']) hy7 (by simp)) ?_
  refine zaa (by simp [e3,hy4',hy5',hy7']) ?_
  obtain⟨q8,h⟩:=zfa h
  refine zaa (fun _=>zfU (show _=AV.sl (List.map zaw v1)from by simp) (show _=AV.sl (List.map zaw ([y7.fStage]:List Int))from by simp [e3,hy4',hy5',hy7']) (by simpa using q8)) ?_
  refine zaa (fun _=>zfY zaw (show _=AV.sl (List.map zaw ([y7.fStage]:List Int))from by simp [e3,hy4',hy5',hy7']) (by simp)) ?_
  refine zaa (by simp) ?_
  exact za4 (K:=fun s=>some (Sum.inl s)) (s:=((v1++ [y7.fStage]),(IntKind.i64.wrap (v2+1)))) hn1 h rfl (by simp [e3,hy4',hy5',hy7'])
 ·refine zaN hk1 rfl (vs:= [.sl (v1.map zaw)]) (by simp) ?_
  replace h:=(hf1 _ h)
  exact zad (av:=zuI) h (by simp)
end Go.Proofs.YtecngjbpbnfegaaGreatDoor
end

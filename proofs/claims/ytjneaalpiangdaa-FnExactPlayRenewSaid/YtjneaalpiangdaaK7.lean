/- Parts of a proof, joined: DT1. -/
import Derived.Test.YtjneaalpiangdaaK6
/- Part DT1. Lease systems: the trees of its functions. -/
section
namespace Go.Proofs.Ytjneaalpiangdaa
open Go.RowKit
set_option maxRecDepth 100000
def T_laws_FnRenew : Tr :=
  .chk [] (.dfd (.len (.var 0))) <|
  .chk [] (.dfd (.len (.var 1))) <|
  .ite (.bin .gtr (.bin .add (.len (.var 0)) (.len (.var 1))) (.int .i64 (1048576))) (
   .ret (.bool true)) (
   .call [] (.inl 7) (.cons (.var 0) .nil) <|
   .chk [] (.agg (.proj (.var 2) 0) 5) <|
   .chk [] (.agg (.proj (.var 2) 1) 3) <|
   .call [] (.inl 8) (.cons (.mk (.cons (.fld (.proj (.var 2) 0) 0 1 false) (.cons (.fld (.proj (.var 2) 0) 1 1 false) (.cons (.fld (.proj (.var 2) 0) 2 1 false) (.cons (.fld (.proj (.var 2) 0) 3 1 false) (.cons (.fld (.proj (.var 2) 0) 4 1 false) .nil)))))) (.cons (.mk (.cons (.fld (.proj (.var 2) 1) 0 1 false) (.cons (.fld (.proj (.var 2) 1) 1 1 false) (.cons (.fld (.proj (.var 2) 1) 2 1 false) .nil)))) .nil)) <|
   .call [] (.inl 9) (.cons (.mk (.cons (.fld (.proj (.var 2) 0) 0 1 false) (.cons (.fld (.proj (.var 2) 0) 1 1 false) (.cons (.fld (.proj (.var 2) 0) 2 1 false) (.cons (.fld (.proj (.var 2) 0) 3 1 false) (.cons (.fld (.proj (.var 2) 0) 4 1 false) .nil)))))) (.cons (.mk (.cons (.fld (.proj (.var 2) 1) 0 1 false) (.cons (.fld (.proj (.var 2) 1) 1 1 false) (.cons (.fld (.proj (.var 2) 1) 2 1 false) .nil)))) .nil)) <|
   .call [] (.inl 10) (.cons (.mk (.cons (.fld (.proj (.var 2) 0) 0 1 false) (.cons (.fld (.proj (.var 2) 0) 1 1 false) (.cons (.fld (.proj (.var 2) 0) 2 1 false) (.cons (.fld (.proj (.var 2) 0) 3 1 false) (.cons (.fld (.proj (.var 2) 0) 4 1 false) .nil)))))) .nil) <|
   .call [] (.inl 11) (.cons (.mk (.cons (.fld (.proj (.var 2) 0) 0 1 false) (.cons (.fld (.proj (.var 2) 0) 1 1 false) (.cons (.fld (.proj (.var 2) 0) 2 1 false) (.cons (.fld (.proj (.var 2) 0) 3 1 false) (.cons (.fld (.proj (.var 2) 0) 4 1 false) .nil)))))) .nil) <|
   .call [] (.inl 12) (.cons (.var 1) .nil) <|
   .call [] (.inl 13) (.cons (.mk (.cons (.fld (.proj (.var 7) 0) 0 1 false) (.cons (.fld (.proj (.var 7) 0) 1 1 false) (.cons (.fld (.proj (.var 7) 0) 2 1 false) (.cons (.fld (.proj (.var 7) 0) 3 1 false) (.cons (.fld (.proj (.var 7) 0) 4 1 false) .nil)))))) (.cons (.proj (.var 7) 1) .nil)) <|
   .call [] (.inl 14) (.cons (.mk (.cons (.fld (.proj (.var 7) 0) 0 1 false) (.cons (.fld (.proj (.var 7) 0) 1 1 false) (.cons (.fld (.proj (.var 7) 0) 2 1 false) (.cons (.fld (.proj (.var 7) 0) 3 1 false) (.cons (.fld (.proj (.var 7) 0) 4 1 false) .nil)))))) (.cons (.proj (.var 7) 1) .nil)) <|
   .chk [] (.dfd (.bbin .neq (.proj (.var 3) 2) (.proj (.var 4) 2))) <|
   .chk [((.bbin .neq (.proj (.var 3) 2) (.proj (.var 4) 2)), false)] (.dfd (.bbin .neq (.proj (.var 3) 1) (.proj (.var 4) 1))) <|
   .chk [] (.dfd (.not (.bbin .neq (.proj (.var 3) 2) (.proj (.var 4) 2)))) <|
   .call [((.ite (.bbin .neq (.proj (.var 3) 2) (.proj (.var 4) 2)) (.bool true) (.bbin .neq (.proj (.var 3) 1) (.proj (.var 4) 1))), false)] (.inl 15) (.cons (.mk (.cons (.fld (.proj (.var 3) 0) 0 1 false) (.cons (.fld (.proj (.var 3) 0) 1 1 false) (.cons (.fld (.proj (.var 3) 0) 2 1 false) (.cons (.fld (.proj (.var 3) 0) 3 1 false) (.cons (.fld (.proj (.var 3) 0) 4 1 false) .nil)))))) (.cons (.mk (.cons (.fld (.proj (.var 4) 0) 0 1 false) (.cons (.fld (.proj (.var 4) 0) 1 1 false) (.cons (.fld (.proj (.var 4) 0) 2 1 false) (.cons (.fld (.proj (.var 4) 0) 3 1 false) (.cons (.fld (.proj (.var 4) 0) 4 1 false) .nil)))))) .nil)) <|
   .chk [((.ite (.bbin .neq (.proj (.var 3) 2) (.proj (.var 4) 2)) (.bool true) (.bbin .neq (.proj (.var 3) 1) (.proj (.var 4) 1))), false)] (.dfd (.not (.var 10))) <|
   .chk [] (.dfd (.not (.ite (.bbin .neq (.proj (.var 3) 2) (.proj (.var 4) 2)) (.bool true) (.bbin .neq (.proj (.var 3) 1) (.proj (.var 4) 1))))) <|
   .chk [((.ite (.ite (.bbin .neq (.proj (.var 3) 2) (.proj (.var 4) 2)) (.bool true) (.bbin .neq (.proj (.var 3) 1) (.proj (.var 4) 1))) (.bool true) (.not (.var 10))), false)] (.dfd (.bbin .neq (.proj (.var 5) 1) (.proj (.var 6) 1))) <|
   .chk [] (.dfd (.not (.ite (.ite (.bbin .neq (.proj (.var 3) 2) (.proj (.var 4) 2)) (.bool true) (.bbin .neq (.proj (.var 3) 1) (.proj (.var 4) 1))) (.bool true) (.not (.var 10))))) <|
   .chk [((.ite (.ite (.ite (.bbin .neq (.proj (.var 3) 2) (.proj (.var 4) 2)) (.bool true) (.bbin .neq (.proj (.var 3) 1) (.proj (.var 4) 1))) (.bool true) (.not (.var 10))) (.bool true) (.bbin .neq (.proj (.var 5) 1) (.proj (.var 6) 1))), false)] (.dfd (.bbin .neq (.proj (.var 5) 0) (.proj (.var 6) 0))) <|
   .chk [] (.dfd (.not (.ite (.ite (.ite (.bbin .neq (.proj (.var 3) 2) (.proj (.var 4) 2)) (.bool true) (.bbin .neq (.proj (.var 3) 1) (.proj (.var 4) 1))) (.bool true) (.not (.var 10))) (.bool true) (.bbin .neq (.proj (.var 5) 1) (.proj (.var 6) 1))))) <|
   .chk [((.ite (.ite (.ite (.ite (.bbin .neq (.proj (.var 3) 2) (.proj (.var 4) 2)) (.bool true) (.bbin .neq (.proj (.var 3) 1) (.proj (.var 4) 1))) (.bool true) (.not (.var 10))) (.bool true) (.bbin .neq (.proj (.var 5) 1) (.proj (.var 6) 1))) (.bool true) (.bbin .neq (.proj (.var 5) 0) (.proj (.var 6) 0))), false)] (.dfd (.bbin .neq (.proj (.var 8) 2) (.proj (.var 9) 2))) <|
   .chk [] (.dfd (.not (.ite (.ite (.ite (.ite (.bbin .neq (.proj (.var 3) 2) (.proj (.var 4) 2)) (.bool true) (.bbin .neq (.proj (.var 3) 1) (.proj (.var 4) 1))) (.bool true) (.not (.var 10))) (.bool true) (.bbin .neq (.proj (.var 5) 1) (.proj (.var 6) 1))) (.bool true) (.bbin .neq (.proj (.var 5) 0) (.proj (.var 6) 0))))) <|
   .chk [((.ite (.ite (.ite (.ite (.ite (.bbin .neq (.proj (.var 3) 2) (.proj (.var 4) 2)) (.bool true) (.bbin .neq (.proj (.var 3) 1) (.proj (.var 4) 1))) (.bool true) (.not (.var 10))) (.bool true) (.bbin .neq (.proj (.var 5) 1) (.proj (.var 6) 1))) (.bool true) (.bbin .neq (.proj (.var 5) 0) (.proj (.var 6) 0))) (.bool true) (.bbin .neq (.proj (.var 8) 2) (.proj (.var 9) 2))), false)] (.dfd (.bin .neq (.proj (.var 8) 0) (.proj (.var 9) 0))) <|
   .chk [] (.dfd (.not (.ite (.ite (.ite (.ite (.ite (.bbin .neq (.proj (.var 3) 2) (.proj (.var 4) 2)) (.bool true) (.bbin .neq (.proj (.var 3) 1) (.proj (.var 4) 1))) (.bool true) (.not (.var 10))) (.bool true) (.bbin .neq (.proj (.var 5) 1) (.proj (.var 6) 1))) (.bool true) (.bbin .neq (.proj (.var 5) 0) (.proj (.var 6) 0))) (.bool true) (.bbin .neq (.proj (.var 8) 2) (.proj (.var 9) 2))))) <|
   .chk [((.ite (.ite (.ite (.ite (.ite (.ite (.bbin .neq (.proj (.var 3) 2) (.proj (.var 4) 2)) (.bool true) (.bbin .neq (.proj (.var 3) 1) (.proj (.var 4) 1))) (.bool true) (.not (.var 10))) (.bool true) (.bbin .neq (.proj (.var 5) 1) (.proj (.var 6) 1))) (.bool true) (.bbin .neq (.proj (.var 5) 0) (.proj (.var 6) 0))) (.bool true) (.bbin .neq (.proj (.var 8) 2) (.proj (.var 9) 2))) (.bool true) (.bin .neq (.proj (.var 8) 0) (.proj (.var 9) 0))), false)] (.dfd (.bbin .neq (.proj (.var 8) 1) (.proj (.var 9) 1))) <|
   .chk [] (.dfd (.not (.ite (.ite (.ite (.ite (.ite (.ite (.bbin .neq (.proj (.var 3) 2) (.proj (.var 4) 2)) (.bool true) (.bbin .neq (.proj (.var 3) 1) (.proj (.var 4) 1))) (.bool true) (.not (.var 10))) (.bool true) (.bbin .neq (.proj (.var 5) 1) (.proj (.var 6) 1))) (.bool true) (.bbin .neq (.proj (.var 5) 0) (.proj (.var 6) 0))) (.bool true) (.bbin .neq (.proj (.var 8) 2) (.proj (.var 9) 2))) (.bool true) (.bin .neq (.proj (.var 8) 0) (.proj (.var 9) 0))))) <|
   .call [((.ite (.ite (.ite (.ite (.ite (.ite (.ite (.bbin .neq (.proj (.var 3) 2) (.proj (.var 4) 2)) (.bool true) (.bbin .neq (.proj (.var 3) 1) (.proj (.var 4) 1))) (.bool true) (.not (.var 10))) (.bool true) (.bbin .neq (.proj (.var 5) 1) (.proj (.var 6) 1))) (.bool true) (.bbin .neq (.proj (.var 5) 0) (.proj (.var 6) 0))) (.bool true) (.bbin .neq (.proj (.var 8) 2) (.proj (.var 9) 2))) (.bool true) (.bin .neq (.proj (.var 8) 0) (.proj (.var 9) 0))) (.bool true) (.bbin .neq (.proj (.var 8) 1) (.proj (.var 9) 1))), false)] (.inl 16) (.cons (.mk (.cons (.fld (.proj (.var 2) 0) 0 1 false) (.cons (.fld (.proj (.var 2) 0) 1 1 false) (.cons (.fld (.proj (.var 2) 0) 2 1 false) (.cons (.fld (.proj (.var 2) 0) 3 1 false) (.cons (.fld (.proj (.var 2) 0) 4 1 false) .nil)))))) .nil) <|
   .call [((.ite (.ite (.ite (.ite (.ite (.ite (.ite (.bbin .neq (.proj (.var 3) 2) (.proj (.var 4) 2)) (.bool true) (.bbin .neq (.proj (.var 3) 1) (.proj (.var 4) 1))) (.bool true) (.not (.var 10))) (.bool true) (.bbin .neq (.proj (.var 5) 1) (.proj (.var 6) 1))) (.bool true) (.bbin .neq (.proj (.var 5) 0) (.proj (.var 6) 0))) (.bool true) (.bbin .neq (.proj (.var 8) 2) (.proj (.var 9) 2))) (.bool true) (.bin .neq (.proj (.var 8) 0) (.proj (.var 9) 0))) (.bool true) (.bbin .neq (.proj (.var 8) 1) (.proj (.var 9) 1))), false)] (.inl 17) (.cons (.mk (.cons (.fld (.proj (.var 2) 0) 0 1 false) (.cons (.fld (.proj (.var 2) 0) 1 1 false) (.cons (.fld (.proj (.var 2) 0) 2 1 false) (.cons (.fld (.proj (.var 2) 0) 3 1 false) (.cons (.fld (.proj (.var 2) 0) 4 1 false) .nil)))))) .nil) <|
   .chk [((.ite (.ite (.ite (.ite (.ite (.ite (.ite (.bbin .neq (.proj (.var 3) 2) (.proj (.var 4) 2)) (.bool true) (.bbin .neq (.proj (.var 3) 1) (.proj (.var 4) 1))) (.bool true) (.not (.var 10))) (.bool true) (.bbin .neq (.proj (.var 5) 1) (.proj (.var 6) 1))) (.bool true) (.bbin .neq (.proj (.var 5) 0) (.proj (.var 6) 0))) (.bool true) (.bbin .neq (.proj (.var 8) 2) (.proj (.var 9) 2))) (.bool true) (.bin .neq (.proj (.var 8) 0) (.proj (.var 9) 0))) (.bool true) (.bbin .neq (.proj (.var 8) 1) (.proj (.var 9) 1))), false)] (.dfd (.bbin .neq (.var 11) (.var 12))) <|
   .chk [] (.dfd (.not (.ite (.ite (.ite (.ite (.ite (.ite (.ite (.bbin .neq (.proj (.var 3) 2) (.proj (.var 4) 2)) (.bool true) (.bbin .neq (.proj (.var 3) 1) (.proj (.var 4) 1))) (.bool true) (.not (.var 10))) (.bool true) (.bbin .neq (.proj (.var 5) 1) (.proj (.var 6) 1))) (.bool true) (.bbin .neq (.proj (.var 5) 0) (.proj (.var 6) 0))) (.bool true) (.bbin .neq (.proj (.var 8) 2) (.proj (.var 9) 2))) (.bool true) (.bin .neq (.proj (.var 8) 0) (.proj (.var 9) 0))) (.bool true) (.bbin .neq (.proj (.var 8) 1) (.proj (.var 9) 1))))) <|
   .call [((.ite (.ite (.ite (.ite (.ite (.ite (.ite (.ite (.bbin .neq (.proj (.var 3) 2) (.proj (.var 4) 2)) (.bool true) (.bbin .neq (.proj (.var 3) 1) (.proj (.var 4) 1))) (.bool true) (.not (.var 10))) (.bool true) (.bbin .neq (.proj (.var 5) 1) (.proj (.var 6) 1))) (.bool true) (.bbin .neq (.proj (.var 5) 0) (.proj (.var 6) 0))) (.bool true) (.bbin .neq (.proj (.var 8) 2) (.proj (.var 9) 2))) (.bool true) (.bin .neq (.proj (.var 8) 0) (.proj (.var 9) 0))) (.bool true) (.bbin .neq (.proj (.var 8) 1) (.proj (.var 9) 1))) (.bool true) (.bbin .neq (.var 11) (.var 12))), false)] (.inl 18) (.cons (.mk (.cons (.fld (.proj (.var 2) 0) 0 1 false) (.cons (.fld (.proj (.var 2) 0) 1 1 false) (.cons (.fld (.proj (.var 2) 0) 2 1 false) (.cons (.fld (.proj (.var 2) 0) 3 1 false) (.cons (.fld (.proj (.var 2) 0) 4 1 false) .nil)))))) (.cons (.mk (.cons (.fld (.proj (.var 2) 1) 0 1 false) (.cons (.fld (.proj (.var 2) 1) 1 1 false) (.cons (.fld (.proj (.var 2) 1) 2 1 false) .nil)))) .nil)) <|
   .chk [((.ite (.ite (.ite (.ite (.ite (.ite (.ite (.ite (.bbin .neq (.proj (.var 3) 2) (.proj (.var 4) 2)) (.bool true) (.bbin .neq (.proj (.var 3) 1) (.proj (.var 4) 1))) (.bool true) (.not (.var 10))) (.bool true) (.bbin .neq (.proj (.var 5) 1) (.proj (.var 6) 1))) (.bool true) (.bbin .neq (.proj (.var 5) 0) (.proj (.var 6) 0))) (.bool true) (.bbin .neq (.proj (.var 8) 2) (.proj (.var 9) 2))) (.bool true) (.bin .neq (.proj (.var 8) 0) (.proj (.var 9) 0))) (.bool true) (.bbin .neq (.proj (.var 8) 1) (.proj (.var 9) 1))) (.bool true) (.bbin .neq (.var 11) (.var 12))), false)] (.dfd (.bbin .neq (.var 13) (.proj (.var 3) 2))) <|
   .chk [] (.dfd (.not (.ite (.ite (.ite (.ite (.ite (.ite (.ite (.ite (.bbin .neq (.proj (.var 3) 2) (.proj (.var 4) 2)) (.bool true) (.bbin .neq (.proj (.var 3) 1) (.proj (.var 4) 1))) (.bool true) (.not (.var 10))) (.bool true) (.bbin .neq (.proj (.var 5) 1) (.proj (.var 6) 1))) (.bool true) (.bbin .neq (.proj (.var 5) 0) (.proj (.var 6) 0))) (.bool true) (.bbin .neq (.proj (.var 8) 2) (.proj (.var 9) 2))) (.bool true) (.bin .neq (.proj (.var 8) 0) (.proj (.var 9) 0))) (.bool true) (.bbin .neq (.proj (.var 8) 1) (.proj (.var 9) 1))) (.bool true) (.bbin .neq (.var 11) (.var 12))))) <|
   .ite (.ite (.ite (.ite (.ite (.ite (.ite (.ite (.ite (.ite (.bbin .neq (.proj (.var 3) 2) (.proj (.var 4) 2)) (.bool true) (.bbin .neq (.proj (.var 3) 1) (.proj (.var 4) 1))) (.bool true) (.not (.var 10))) (.bool true) (.bbin .neq (.proj (.var 5) 1) (.proj (.var 6) 1))) (.bool true) (.bbin .neq (.proj (.var 5) 0) (.proj (.var 6) 0))) (.bool true) (.bbin .neq (.proj (.var 8) 2) (.proj (.var 9) 2))) (.bool true) (.bin .neq (.proj (.var 8) 0) (.proj (.var 9) 0))) (.bool true) (.bbin .neq (.proj (.var 8) 1) (.proj (.var 9) 1))) (.bool true) (.bbin .neq (.var 11) (.var 12))) (.bool true) (.bbin .neq (.var 13) (.proj (.var 3) 2))) (
    .ret (.bool false)) (
    .join (
     .chk [] (.dfd (.not (.proj (.var 8) 2))) <|
     .ite (.ite (.proj (.var 8) 2) (.proj (.var 8) 1) (.bool false)) (
      .chk [] (.inb (.proj (.var 7) 1) (.fld (.proj (.var 7) 0) 2 1 false) 1) <|
      .call [] (.inl 19) (.cons (.fld (.idx (.fld (.proj (.var 7) 0) 2 1 false) (.proj (.var 7) 1)) 0 1 true) (.cons (.fld (.proj (.var 7) 0) 0 1 false) .nil)) <|
      .chk [] (.agg (.proj (.var 14) 0) 2) <|
      .chk [] (.dfd (.not (.proj (.var 14) 1))) <|
      .chk [((.not (.proj (.var 14) 1)), false)] (.inb (.proj (.var 7) 1) (.fld (.proj (.var 7) 0) 4 1 false) 2) <|
      .chk [((.not (.proj (.var 14) 1)), false)] (.dfd (.bin .geq (.fld (.proj (.var 14) 0) 1 1 false) (.fld (.idx (.fld (.proj (.var 7) 0) 4 1 false) (.proj (.var 7) 1)) 1 1 false))) <|
      .chk [] (.dfd (.not (.not (.proj (.var 14) 1)))) <|
      .ite (.ite (.not (.proj (.var 14) 1)) (.bool true) (.bin .geq (.fld (.proj (.var 14) 0) 1 1 false) (.fld (.idx (.fld (.proj (.var 7) 0) 4 1 false) (.proj (.var 7) 1)) 1 1 false))) (
       .ret (.bool false)) (
       .jmp 0 .nil)) (
      .jmp 0 .nil)) (
     .chk [] (.dfd (.not (.proj (.var 3) 2))) <|
     .ite (.not (.proj (.var 3) 2)) (
      .ret (.bool true)) (
      .call [] (.inl 10) (.cons (.mk (.cons (.fld (.proj (.var 3) 0) 0 1 false) (.cons (.fld (.proj (.var 3) 0) 1 1 false) (.cons (.fld (.proj (.var 3) 0) 2 1 false) (.cons (.fld (.proj (.var 3) 0) 3 1 false) (.cons (.fld (.proj (.var 3) 0) 4 1 false) .nil)))))) .nil) <|
      .chk [((.proj (.var 14) 1), true)] (.dfd (.not (.proj (.var 5) 0))) <|
      .chk [((.proj (.var 14) 1), true)] (.dfd (.not (.not (.proj (.var 5) 0)))) <|
      .chk [] (.dfd (.not (.proj (.var 14) 1))) <|
      .chk [((.ite (.proj (.var 14) 1) (.ite (.not (.proj (.var 5) 0)) (.bool true) (.proj (.var 14) 0)) (.bool false)), true)] (.dfd (.bin .geq (.fld (.proj (.var 3) 0) 0 1 false) (.fld (.proj (.var 2) 0) 0 1 false))) <|
      .chk [] (.dfd (.not (.ite (.proj (.var 14) 1) (.ite (.not (.proj (.var 5) 0)) (.bool true) (.proj (.var 14) 0)) (.bool false)))) <|
      .chk [((.ite (.ite (.proj (.var 14) 1) (.ite (.not (.proj (.var 5) 0)) (.bool true) (.proj (.var 14) 0)) (.bool false)) (.bin .geq (.fld (.proj (.var 3) 0) 0 1 false) (.fld (.proj (.var 2) 0) 0 1 false)) (.bool false)), true)] (.dfd (.bin .geq (.fld (.proj (.var 3) 0) 3 1 false) (.fld (.proj (.var 2) 0) 3 1 false))) <|
      .chk [] (.dfd (.not (.ite (.ite (.proj (.var 14) 1) (.ite (.not (.proj (.var 5) 0)) (.bool true) (.proj (.var 14) 0)) (.bool false)) (.bin .geq (.fld (.proj (.var 3) 0) 0 1 false) (.fld (.proj (.var 2) 0) 0 1 false)) (.bool false)))) <|
      .ret (.ite (.ite (.ite (.proj (.var 14) 1) (.ite (.not (.proj (.var 5) 0)) (.bool true) (.proj (.var 14) 0)) (.bool false)) (.bin .geq (.fld (.proj (.var 3) 0) 0 1 false) (.fld (.proj (.var 2) 0) 0 1 false)) (.bool false)) (.bin .geq (.fld (.proj (.var 3) 0) 3 1 false) (.fld (.proj (.var 2) 0) 3 1 false)) (.bool false))))))
theorem C_laws_FnRenew : comp Try.prog sgs 3 = some T_laws_FnRenew := by kernel_rfl
def T_laws_FnExactStepRenew : Tr :=
  .chk [] (.agg (.var 0) 5) <|
  .chk [] (.agg (.var 1) 3) <|
  .call [] (.inl 20) (.cons (.mk (.cons (.fld (.var 0) 0 1 false) (.cons (.fld (.var 0) 1 1 false) (.cons (.fld (.var 0) 2 1 false) (.cons (.fld (.var 0) 3 1 false) (.cons (.fld (.var 0) 4 1 false) .nil)))))) (.cons (.int .i64 (1048576)) .nil)) <|
  .chk [] (.dfd (.bin .lss (.var 2) (.int .i64 (0)))) <|
  .ite (.bin .lss (.var 2) (.int .i64 (0))) (
   .ret (.bool true)) (
   .call [] (.inl 21) (.cons (.mk (.cons (.fld (.var 0) 0 1 false) (.cons (.fld (.var 0) 1 1 false) (.cons (.fld (.var 0) 2 1 false) (.cons (.fld (.var 0) 3 1 false) (.cons (.fld (.var 0) 4 1 false) .nil)))))) .nil) <|
   .call [] (.inl 22) (.cons (.mk (.cons (.fld (.var 1) 0 1 false) (.cons (.fld (.var 1) 1 1 false) (.cons (.fld (.var 1) 2 1 false) .nil)))) .nil) <|
   .call [] (.inl 9) (.cons (.mk (.cons (.fld (.var 3) 0 1 false) (.cons (.fld (.var 3) 1 1 false) (.cons (.fld (.var 3) 2 1 false) (.cons (.fld (.var 3) 3 1 false) (.cons (.fld (.var 3) 4 1 false) .nil)))))) (.cons (.var 4) .nil)) <|
   .call [] (.inl 21) (.cons (.mk (.cons (.fld (.var 0) 0 1 false) (.cons (.fld (.var 0) 1 1 false) (.cons (.fld (.var 0) 2 1 false) (.cons (.fld (.var 0) 3 1 false) (.cons (.fld (.var 0) 4 1 false) .nil)))))) .nil) <|
   .call [] (.inl 22) (.cons (.mk (.cons (.fld (.var 1) 0 1 false) (.cons (.fld (.var 1) 1 1 false) (.cons (.fld (.var 1) 2 1 false) .nil)))) .nil) <|
   .call [] (.inl 8) (.cons (.mk (.cons (.fld (.var 6) 0 1 false) (.cons (.fld (.var 6) 1 1 false) (.cons (.fld (.var 6) 2 1 false) (.cons (.fld (.var 6) 3 1 false) (.cons (.fld (.var 6) 4 1 false) .nil)))))) (.cons (.var 7) .nil)) <|
   .call [] (.inl 23) (.cons (.mk (.cons (.fld (.proj (.var 8) 0) 0 1 false) (.cons (.fld (.proj (.var 8) 0) 1 1 false) (.cons (.fld (.proj (.var 8) 0) 2 1 false) (.cons (.fld (.proj (.var 8) 0) 3 1 false) (.cons (.fld (.proj (.var 8) 0) 4 1 false) .nil)))))) (.cons (.mk (.cons (.fld (.proj (.var 5) 0) 0 1 false) (.cons (.fld (.proj (.var 5) 0) 1 1 false) (.cons (.fld (.proj (.var 5) 0) 2 1 false) (.cons (.fld (.proj (.var 5) 0) 3 1 false) (.cons (.fld (.proj (.var 5) 0) 4 1 false) .nil)))))) .nil)) <|
   .chk [] (.dfd (.not (.var 9))) <|
   .chk [((.not (.var 9)), false)] (.dfd (.bbin .neq (.proj (.var 8) 1) (.proj (.var 5) 1))) <|
   .chk [] (.dfd (.not (.not (.var 9)))) <|
   .chk [((.ite (.not (.var 9)) (.bool true) (.bbin .neq (.proj (.var 8) 1) (.proj (.var 5) 1))), false)] (.dfd (.bbin .neq (.proj (.var 8) 2) (.proj (.var 5) 2))) <|
   .chk [] (.dfd (.not (.ite (.not (.var 9)) (.bool true) (.bbin .neq (.proj (.var 8) 1) (.proj (.var 5) 1))))) <|
   .ite (.ite (.ite (.not (.var 9)) (.bool true) (.bbin .neq (.proj (.var 8) 1) (.proj (.var 5) 1))) (.bool true) (.bbin .neq (.proj (.var 8) 2) (.proj (.var 5) 2))) (
    .ret (.bool false)) (
    .call [] (.inl 21) (.cons (.mk (.cons (.fld (.var 0) 0 1 false) (.cons (.fld (.var 0) 1 1 false) (.cons (.fld (.var 0) 2 1 false) (.cons (.fld (.var 0) 3 1 false) (.cons (.fld (.var 0) 4 1 false) .nil)))))) .nil) <|
    .call [] (.inl 23) (.cons (.mk (.cons (.fld (.var 6) 0 1 false) (.cons (.fld (.var 6) 1 1 false) (.cons (.fld (.var 6) 2 1 false) (.cons (.fld (.var 6) 3 1 false) (.cons (.fld (.var 6) 4 1 false) .nil)))))) (.cons (.mk (.cons (.fld (.var 10) 0 1 false) (.cons (.fld (.var 10) 1 1 false) (.cons (.fld (.var 10) 2 1 false) (.cons (.fld (.var 10) 3 1 false) (.cons (.fld (.var 10) 4 1 false) .nil)))))) .nil)) <|
    .chk [] (.dfd (.not (.var 11))) <|
    .ite (.not (.var 11)) (
     .ret (.bool false)) (
     .call [] (.inl 24) (.cons (.mk (.cons (.fld (.var 6) 0 1 false) (.cons (.fld (.var 6) 1 1 false) (.cons (.fld (.var 6) 2 1 false) (.cons (.fld (.var 6) 3 1 false) (.cons (.fld (.var 6) 4 1 false) .nil)))))) (.cons (.int .i64 (1)) .nil)) <|
     .chk [] (.dfd (.bin .lss (.proj (.var 12) 0) (.int .i64 (0)))) <|
     .call [((.bin .lss (.proj (.var 12) 0) (.int .i64 (0))), false)] (.inl 23) (.cons (.mk (.cons (.fld (.proj (.var 8) 0) 0 1 false) (.cons (.fld (.proj (.var 8) 0) 1 1 false) (.cons (.fld (.proj (.var 8) 0) 2 1 false) (.cons (.fld (.proj (.var 8) 0) 3 1 false) (.cons (.fld (.proj (.var 8) 0) 4 1 false) .nil)))))) (.cons (.mk (.cons (.fld (.proj (.var 5) 0) 0 1 false) (.cons (.fld (.proj (.var 5) 0) 1 1 false) (.cons (.fld (.proj (.var 5) 0) 2 1 false) (.cons (.fld (.proj (.var 5) 0) 3 1 false) (.cons (.fld (.proj (.var 5) 0) 4 1 false) .nil)))))) .nil)) <|
     .chk [((.bin .lss (.proj (.var 12) 0) (.int .i64 (0))), false)] (.dfd (.not (.var 13))) <|
     .chk [] (.dfd (.not (.bin .lss (.proj (.var 12) 0) (.int .i64 (0))))) <|
     .chk [((.ite (.bin .lss (.proj (.var 12) 0) (.int .i64 (0))) (.bool true) (.not (.var 13))), false)] (.dfd (.bbin .neq (.proj (.var 8) 1) (.proj (.var 5) 1))) <|
     .chk [] (.dfd (.not (.ite (.bin .lss (.proj (.var 12) 0) (.int .i64 (0))) (.bool true) (.not (.var 13))))) <|
     .chk [((.ite (.ite (.bin .lss (.proj (.var 12) 0) (.int .i64 (0))) (.bool true) (.not (.var 13))) (.bool true) (.bbin .neq (.proj (.var 8) 1) (.proj (.var 5) 1))), false)] (.dfd (.bbin .neq (.proj (.var 8) 2) (.proj (.var 5) 2))) <|
     .chk [] (.dfd (.not (.ite (.ite (.bin .lss (.proj (.var 12) 0) (.int .i64 (0))) (.bool true) (.not (.var 13))) (.bool true) (.bbin .neq (.proj (.var 8) 1) (.proj (.var 5) 1))))) <|
     .ite (.ite (.ite (.ite (.bin .lss (.proj (.var 12) 0) (.int .i64 (0))) (.bool true) (.not (.var 13))) (.bool true) (.bbin .neq (.proj (.var 8) 1) (.proj (.var 5) 1))) (.bool true) (.bbin .neq (.proj (.var 8) 2) (.proj (.var 5) 2))) (
      .ret (.bool false)) (
      .call [] (.inl 24) (.cons (.mk (.cons (.fld (.proj (.var 8) 0) 0 1 false) (.cons (.fld (.proj (.var 8) 0) 1 1 false) (.cons (.fld (.proj (.var 8) 0) 2 1 false) (.cons (.fld (.proj (.var 8) 0) 3 1 false) (.cons (.fld (.proj (.var 8) 0) 4 1 false) .nil)))))) (.cons (.int .i64 (1)) .nil)) <|
      .call [] (.inl 25) (.cons (.mk (.cons (.fld (.proj (.var 8) 0) 0 1 false) (.cons (.fld (.proj (.var 8) 0) 1 1 false) (.cons (.fld (.proj (.var 14) 1) 2 1 false) (.cons (.fld (.proj (.var 8) 0) 3 1 false) (.cons (.fld (.proj (.var 14) 1) 4 1 false) .nil)))))) (.cons (.int .i64 (1)) .nil)) <|
      .chk [] (.dfd (.bin .lss (.var 15) (.int .i64 (0)))) <|
      .ite (.bin .lss (.var 15) (.int .i64 (0))) (
       .ret (.bool false)) (
       .chk [] (.dfd (.bin .neq (.var 15) (.proj (.var 14) 0))) <|
       .ite (.bin .neq (.var 15) (.proj (.var 14) 0)) (
        .ret (.bool false)) (
        .call [] (.inl 21) (.cons (.mk (.cons (.fld (.var 0) 0 1 false) (.cons (.fld (.var 0) 1 1 false) (.cons (.fld (.var 0) 2 1 false) (.cons (.fld (.var 0) 3 1 false) (.cons (.fld (.var 0) 4 1 false) .nil)))))) .nil) <|
        .call [] (.inl 22) (.cons (.mk (.cons (.fld (.var 1) 0 1 false) (.cons (.fld (.var 1) 1 1 false) (.cons (.fld (.var 1) 2 1 false) .nil)))) .nil) <|
        .call [] (.inl 8) (.cons (.mk (.cons (.fld (.var 16) 0 1 false) (.cons (.fld (.var 16) 1 1 false) (.cons (.fld (.var 16) 2 1 false) (.cons (.fld (.var 16) 3 1 false) (.cons (.fld (.var 16) 4 1 false) .nil)))))) (.cons (.var 17) .nil)) <|
        .call [] (.inl 23) (.cons (.mk (.cons (.fld (.proj (.var 18) 0) 0 1 false) (.cons (.fld (.proj (.var 18) 0) 1 1 false) (.cons (.fld (.proj (.var 18) 0) 2 1 false) (.cons (.fld (.proj (.var 18) 0) 3 1 false) (.cons (.fld (.proj (.var 18) 0) 4 1 false) .nil)))))) (.cons (.mk (.cons (.fld (.proj (.var 5) 0) 0 1 false) (.cons (.fld (.proj (.var 5) 0) 1 1 false) (.cons (.fld (.proj (.var 5) 0) 2 1 false) (.cons (.fld (.proj (.var 5) 0) 3 1 false) (.cons (.fld (.proj (.var 5) 0) 4 1 false) .nil)))))) .nil)) <|
        .chk [] (.dfd (.not (.var 19))) <|
        .chk [((.not (.var 19)), false)] (.dfd (.bbin .neq (.proj (.var 18) 1) (.proj (.var 5) 1))) <|
        .chk [] (.dfd (.not (.not (.var 19)))) <|
        .chk [((.ite (.not (.var 19)) (.bool true) (.bbin .neq (.proj (.var 18) 1) (.proj (.var 5) 1))), false)] (.dfd (.bbin .neq (.proj (.var 18) 2) (.proj (.var 5) 2))) <|
        .chk [] (.dfd (.not (.ite (.not (.var 19)) (.bool true) (.bbin .neq (.proj (.var 18) 1) (.proj (.var 5) 1))))) <|
        .ite (.ite (.ite (.not (.var 19)) (.bool true) (.bbin .neq (.proj (.var 18) 1) (.proj (.var 5) 1))) (.bool true) (.bbin .neq (.proj (.var 18) 2) (.proj (.var 5) 2))) (
         .ret (.bool false)) (
         .call [] (.inl 25) (.cons (.mk (.cons (.fld (.proj (.var 8) 0) 0 1 false) (.cons (.fld (.proj (.var 8) 0) 1 1 false) (.cons (.fld (.proj (.var 14) 1) 2 1 false) (.cons (.fld (.proj (.var 8) 0) 3 1 false) (.cons (.fld (.proj (.var 14) 1) 4 1 false) .nil)))))) (.cons (.int .i64 (1)) .nil)) <|
         .chk [] (.dfd (.bin .lss (.var 20) (.int .i64 (0)))) <|
         .ite (.bin .lss (.var 20) (.int .i64 (0))) (
          .ret (.bool false)) (
          .chk [] (.dfd (.bin .neq (.var 20) (.proj (.var 14) 0))) <|
          .ite (.bin .neq (.var 20) (.proj (.var 14) 0)) (
           .ret (.bool false)) (
           .ret (.bool true))))))))))
theorem C_laws_FnExactStepRenew : comp Try.prog sgs 4 = some T_laws_FnExactStepRenew := by kernel_rfl
def T_laws_FnNear : Tr :=
  .chk [] (.dfd (.len (.var 0))) <|
  .chk [] (.dfd (.len (.var 1))) <|
  .ite (.bin .gtr (.bin .add (.len (.var 0)) (.len (.var 1))) (.int .i64 (1048576))) (
   .ret (.bool true)) (
   .call [] (.inl 26) (.cons (.var 0) .nil) <|
   .chk [] (.agg (.proj (.var 2) 0) 5) <|
   .call [] (.inl 27) (.cons (.mk (.cons (.fld (.proj (.var 2) 0) 0 1 false) (.cons (.fld (.proj (.var 2) 0) 1 1 false) (.cons (.fld (.proj (.var 2) 0) 2 1 false) (.cons (.fld (.proj (.var 2) 0) 3 1 false) (.cons (.fld (.proj (.var 2) 0) 4 1 false) .nil)))))) (.cons (.proj (.var 2) 1) .nil)) <|
   .call [] (.inl 28) (.cons (.mk (.cons (.fld (.proj (.var 2) 0) 0 1 false) (.cons (.fld (.proj (.var 2) 0) 1 1 false) (.cons (.fld (.proj (.var 2) 0) 2 1 false) (.cons (.fld (.proj (.var 2) 0) 3 1 false) (.cons (.fld (.proj (.var 2) 0) 4 1 false) .nil)))))) (.cons (.proj (.var 2) 1) .nil)) <|
   .call [] (.inl 29) (.cons (.mk (.cons (.fld (.proj (.var 2) 0) 0 1 false) (.cons (.fld (.proj (.var 2) 0) 1 1 false) (.cons (.fld (.proj (.var 2) 0) 2 1 false) (.cons (.fld (.proj (.var 2) 0) 3 1 false) (.cons (.fld (.proj (.var 2) 0) 4 1 false) .nil)))))) .nil) <|
   .call [] (.inl 30) (.cons (.mk (.cons (.fld (.proj (.var 2) 0) 0 1 false) (.cons (.fld (.proj (.var 2) 0) 1 1 false) (.cons (.fld (.proj (.var 2) 0) 2 1 false) (.cons (.fld (.proj (.var 2) 0) 3 1 false) (.cons (.fld (.proj (.var 2) 0) 4 1 false) .nil)))))) .nil) <|
   .chk [] (.dfd (.bbin .neq (.proj (.var 3) 2) (.proj (.var 4) 2))) <|
   .call [((.bbin .neq (.proj (.var 3) 2) (.proj (.var 4) 2)), false)] (.inl 31) (.cons (.proj (.var 3) 1) (.cons (.proj (.var 4) 1) .nil)) <|
   .chk [((.bbin .neq (.proj (.var 3) 2) (.proj (.var 4) 2)), false)] (.dfd (.not (.var 7))) <|
   .chk [] (.dfd (.not (.bbin .neq (.proj (.var 3) 2) (.proj (.var 4) 2)))) <|
   .call [((.ite (.bbin .neq (.proj (.var 3) 2) (.proj (.var 4) 2)) (.bool true) (.not (.var 7))), false)] (.inl 15) (.cons (.mk (.cons (.fld (.proj (.var 3) 0) 0 1 false) (.cons (.fld (.proj (.var 3) 0) 1 1 false) (.cons (.fld (.proj (.var 3) 0) 2 1 false) (.cons (.fld (.proj (.var 3) 0) 3 1 false) (.cons (.fld (.proj (.var 3) 0) 4 1 false) .nil)))))) (.cons (.mk (.cons (.fld (.proj (.var 4) 0) 0 1 false) (.cons (.fld (.proj (.var 4) 0) 1 1 false) (.cons (.fld (.proj (.var 4) 0) 2 1 false) (.cons (.fld (.proj (.var 4) 0) 3 1 false) (.cons (.fld (.proj (.var 4) 0) 4 1 false) .nil)))))) .nil)) <|
   .chk [((.ite (.bbin .neq (.proj (.var 3) 2) (.proj (.var 4) 2)) (.bool true) (.not (.var 7))), false)] (.dfd (.not (.var 8))) <|
   .chk [] (.dfd (.not (.ite (.bbin .neq (.proj (.var 3) 2) (.proj (.var 4) 2)) (.bool true) (.not (.var 7))))) <|
   .chk [((.ite (.ite (.bbin .neq (.proj (.var 3) 2) (.proj (.var 4) 2)) (.bool true) (.not (.var 7))) (.bool true) (.not (.var 8))), false)] (.dfd (.bbin .neq (.proj (.var 5) 1) (.proj (.var 6) 1))) <|
   .chk [] (.dfd (.not (.ite (.ite (.bbin .neq (.proj (.var 3) 2) (.proj (.var 4) 2)) (.bool true) (.not (.var 7))) (.bool true) (.not (.var 8))))) <|
   .chk [((.ite (.ite (.ite (.bbin .neq (.proj (.var 3) 2) (.proj (.var 4) 2)) (.bool true) (.not (.var 7))) (.bool true) (.not (.var 8))) (.bool true) (.bbin .neq (.proj (.var 5) 1) (.proj (.var 6) 1))), false)] (.dfd (.bbin .neq (.proj (.var 5) 0) (.proj (.var 6) 0))) <|
   .chk [] (.dfd (.not (.ite (.ite (.ite (.bbin .neq (.proj (.var 3) 2) (.proj (.var 4) 2)) (.bool true) (.not (.var 7))) (.bool true) (.not (.var 8))) (.bool true) (.bbin .neq (.proj (.var 5) 1) (.proj (.var 6) 1))))) <|
   .ite (.ite (.ite (.ite (.ite (.bbin .neq (.proj (.var 3) 2) (.proj (.var 4) 2)) (.bool true) (.not (.var 7))) (.bool true) (.not (.var 8))) (.bool true) (.bbin .neq (.proj (.var 5) 1) (.proj (.var 6) 1))) (.bool true) (.bbin .neq (.proj (.var 5) 0) (.proj (.var 6) 0))) (
    .ret (.bool false)) (
    .call [] (.inl 10) (.cons (.mk (.cons (.fld (.proj (.var 2) 0) 0 1 false) (.cons (.fld (.proj (.var 2) 0) 1 1 false) (.cons (.fld (.proj (.var 2) 0) 2 1 false) (.cons (.fld (.proj (.var 2) 0) 3 1 false) (.cons (.fld (.proj (.var 2) 0) 4 1 false) .nil)))))) .nil) <|
    .chk [((.proj (.var 5) 1), true)] (.dfd (.not (.proj (.var 9) 1))) <|
    .chk [((.proj (.var 9) 0), true), ((.not (.proj (.var 9) 1)), false), ((.proj (.var 5) 1), true)] (.dfd (.not (.proj (.var 5) 0))) <|
    .chk [((.not (.proj (.var 9) 1)), false), ((.proj (.var 5) 1), true)] (.dfd (.not (.proj (.var 9) 0))) <|
    .chk [((.proj (.var 5) 1), true)] (.dfd (.not (.not (.proj (.var 9) 1)))) <|
    .chk [] (.dfd (.not (.proj (.var 5) 1))) <|
    .ite (.ite (.proj (.var 5) 1) (.ite (.not (.proj (.var 9) 1)) (.bool true) (.ite (.proj (.var 9) 0) (.not (.proj (.var 5) 0)) (.bool false))) (.bool false)) (
     .ret (.bool false)) (
     .call [] (.inl 32) (.cons (.var 1) .nil) <|
     .call [] (.inl 33) (.cons (.var 10) .nil) <|
     .call [] (.inl 34) (.cons (.var 10) .nil) <|
     .chk [] (.dfd (.bbin .neq (.proj (.var 11) 1) (.proj (.var 12) 1))) <|
     .call [((.bbin .neq (.proj (.var 11) 1) (.proj (.var 12) 1)), false)] (.inl 15) (.cons (.mk (.cons (.fld (.proj (.var 11) 0) 0 1 false) (.cons (.fld (.proj (.var 11) 0) 1 1 false) (.cons (.fld (.proj (.var 11) 0) 2 1 false) (.cons (.fld (.proj (.var 11) 0) 3 1 false) (.cons (.fld (.proj (.var 11) 0) 4 1 false) .nil)))))) (.cons (.mk (.cons (.fld (.proj (.var 12) 0) 0 1 false) (.cons (.fld (.proj (.var 12) 0) 1 1 false) (.cons (.fld (.proj (.var 12) 0) 2 1 false) (.cons (.fld (.proj (.var 12) 0) 3 1 false) (.cons (.fld (.proj (.var 12) 0) 4 1 false) .nil)))))) .nil)) <|
     .chk [((.bbin .neq (.proj (.var 11) 1) (.proj (.var 12) 1)), false)] (.dfd (.not (.var 13))) <|
     .chk [] (.dfd (.not (.bbin .neq (.proj (.var 11) 1) (.proj (.var 12) 1)))) <|
     .ite (.ite (.bbin .neq (.proj (.var 11) 1) (.proj (.var 12) 1)) (.bool true) (.not (.var 13))) (
      .ret (.bool false)) (
      .chk [] (.dfd (.not (.proj (.var 11) 1))) <|
      .chk [((.not (.proj (.var 11) 1)), false)] (.dfd (.not (.proj (.var 3) 2))) <|
      .chk [] (.dfd (.not (.not (.proj (.var 11) 1)))) <|
      .ite (.ite (.not (.proj (.var 11) 1)) (.bool true) (.not (.proj (.var 3) 2))) (
       .ret (.bool true)) (
       .call [] (.inl 27) (.cons (.mk (.cons (.fld (.proj (.var 11) 0) 0 1 false) (.cons (.fld (.proj (.var 11) 0) 1 1 false) (.cons (.fld (.proj (.var 11) 0) 2 1 false) (.cons (.fld (.proj (.var 11) 0) 3 1 false) (.cons (.fld (.proj (.var 11) 0) 4 1 false) .nil)))))) (.cons (.proj (.var 2) 1) .nil)) <|
       .call [] (.inl 10) (.cons (.mk (.cons (.fld (.proj (.var 14) 0) 0 1 false) (.cons (.fld (.proj (.var 14) 0) 1 1 false) (.cons (.fld (.proj (.var 14) 0) 2 1 false) (.cons (.fld (.proj (.var 14) 0) 3 1 false) (.cons (.fld (.proj (.var 14) 0) 4 1 false) .nil)))))) .nil) <|
       .call [] (.inl 29) (.cons (.mk (.cons (.fld (.proj (.var 14) 0) 0 1 false) (.cons (.fld (.proj (.var 14) 0) 1 1 false) (.cons (.fld (.proj (.var 14) 0) 2 1 false) (.cons (.fld (.proj (.var 14) 0) 3 1 false) (.cons (.fld (.proj (.var 14) 0) 4 1 false) .nil)))))) .nil) <|
       .chk [] (.dfd (.not (.proj (.var 14) 2))) <|
       .chk [] (.dfd (.not (.ite (.proj (.var 14) 2) (.proj (.var 15) 1) (.bool false)))) <|
       .chk [] (.dfd (.not (.ite (.ite (.proj (.var 14) 2) (.proj (.var 15) 1) (.bool false)) (.proj (.var 16) 1) (.bool false)))) <|
       .chk [] (.dfd (.not (.ite (.ite (.ite (.proj (.var 14) 2) (.proj (.var 15) 1) (.bool false)) (.proj (.var 16) 1) (.bool false)) (.proj (.var 15) 0) (.bool false)))) <|
       .ret (.ite (.ite (.ite (.ite (.proj (.var 14) 2) (.proj (.var 15) 1) (.bool false)) (.proj (.var 16) 1) (.bool false)) (.proj (.var 15) 0) (.bool false)) (.proj (.var 16) 0) (.bool false)))))))
theorem C_laws_FnNear : comp Try.prog sgs 5 = some T_laws_FnNear := by kernel_rfl
def T_laws_FnExactPlayRenew : Tr :=
  .chk [] (.agg (.var 0) 5) <|
  .call [] (.inl 20) (.cons (.mk (.cons (.fld (.var 0) 0 1 false) (.cons (.fld (.var 0) 1 1 false) (.cons (.fld (.var 0) 2 1 false) (.cons (.fld (.var 0) 3 1 false) (.cons (.fld (.var 0) 4 1 false) .nil)))))) (.cons (.int .i64 (1048576)) .nil)) <|
  .chk [] (.dfd (.bin .lss (.var 2) (.int .i64 (0)))) <|
  .ite (.bin .lss (.var 2) (.int .i64 (0))) (
   .ret (.bool true)) (
   .call [] (.inl 35) (.cons (.var 1) (.cons (.var 2) .nil)) <|
   .chk [] (.dfd (.bin .lss (.var 3) (.int .i64 (0)))) <|
   .ite (.bin .lss (.var 3) (.int .i64 (0))) (
    .ret (.bool true)) (
    .call [] (.inl 21) (.cons (.mk (.cons (.fld (.var 0) 0 1 false) (.cons (.fld (.var 0) 1 1 false) (.cons (.fld (.var 0) 2 1 false) (.cons (.fld (.var 0) 3 1 false) (.cons (.fld (.var 0) 4 1 false) .nil)))))) .nil) <|
    .call [] (.inl 36) (.cons (.var 1) .nil) <|
    .call [] (.inl 28) (.cons (.mk (.cons (.fld (.var 4) 0 1 false) (.cons (.fld (.var 4) 1 1 false) (.cons (.fld (.var 4) 2 1 false) (.cons (.fld (.var 4) 3 1 false) (.cons (.fld (.var 4) 4 1 false) .nil)))))) (.cons (.var 5) .nil)) <|
    .call [] (.inl 21) (.cons (.mk (.cons (.fld (.var 0) 0 1 false) (.cons (.fld (.var 0) 1 1 false) (.cons (.fld (.var 0) 2 1 false) (.cons (.fld (.var 0) 3 1 false) (.cons (.fld (.var 0) 4 1 false) .nil)))))) .nil) <|
    .call [] (.inl 36) (.cons (.var 1) .nil) <|
    .call [] (.inl 27) (.cons (.mk (.cons (.fld (.var 7) 0 1 false) (.cons (.fld (.var 7) 1 1 false) (.cons (.fld (.var 7) 2 1 false) (.cons (.fld (.var 7) 3 1 false) (.cons (.fld (.var 7) 4 1 false) .nil)))))) (.cons (.var 8) .nil)) <|
    .call [] (.inl 23) (.cons (.mk (.cons (.fld (.proj (.var 9) 0) 0 1 false) (.cons (.fld (.proj (.var 9) 0) 1 1 false) (.cons (.fld (.proj (.var 9) 0) 2 1 false) (.cons (.fld (.proj (.var 9) 0) 3 1 false) (.cons (.fld (.proj (.var 9) 0) 4 1 false) .nil)))))) (.cons (.mk (.cons (.fld (.proj (.var 6) 0) 0 1 false) (.cons (.fld (.proj (.var 6) 0) 1 1 false) (.cons (.fld (.proj (.var 6) 0) 2 1 false) (.cons (.fld (.proj (.var 6) 0) 3 1 false) (.cons (.fld (.proj (.var 6) 0) 4 1 false) .nil)))))) .nil)) <|
    .chk [] (.dfd (.not (.var 10))) <|
    .call [((.not (.var 10)), false)] (.inl 37) (.cons (.proj (.var 9) 1) (.cons (.proj (.var 6) 1) .nil)) <|
    .chk [((.not (.var 10)), false)] (.dfd (.not (.var 11))) <|
    .chk [] (.dfd (.not (.not (.var 10)))) <|
    .chk [((.ite (.not (.var 10)) (.bool true) (.not (.var 11))), false)] (.dfd (.bbin .neq (.proj (.var 9) 2) (.proj (.var 6) 2))) <|
    .chk [] (.dfd (.not (.ite (.not (.var 10)) (.bool true) (.not (.var 11))))) <|
    .ite (.ite (.ite (.not (.var 10)) (.bool true) (.not (.var 11))) (.bool true) (.bbin .neq (.proj (.var 9) 2) (.proj (.var 6) 2))) (
     .ret (.bool false)) (
     .call [] (.inl 21) (.cons (.mk (.cons (.fld (.var 0) 0 1 false) (.cons (.fld (.var 0) 1 1 false) (.cons (.fld (.var 0) 2 1 false) (.cons (.fld (.var 0) 3 1 false) (.cons (.fld (.var 0) 4 1 false) .nil)))))) .nil) <|
     .call [] (.inl 23) (.cons (.mk (.cons (.fld (.var 7) 0 1 false) (.cons (.fld (.var 7) 1 1 false) (.cons (.fld (.var 7) 2 1 false) (.cons (.fld (.var 7) 3 1 false) (.cons (.fld (.var 7) 4 1 false) .nil)))))) (.cons (.mk (.cons (.fld (.var 12) 0 1 false) (.cons (.fld (.var 12) 1 1 false) (.cons (.fld (.var 12) 2 1 false) (.cons (.fld (.var 12) 3 1 false) (.cons (.fld (.var 12) 4 1 false) .nil)))))) .nil)) <|
     .chk [] (.dfd (.not (.var 13))) <|
     .ite (.not (.var 13)) (
      .ret (.bool false)) (
      .call [] (.inl 36) (.cons (.var 1) .nil) <|
      .call [] (.inl 38) (.cons (.var 8) (.cons (.var 14) .nil)) <|
      .chk [] (.dfd (.not (.var 15))) <|
      .ite (.not (.var 15)) (
       .ret (.bool false)) (
       .call [] (.inl 24) (.cons (.mk (.cons (.fld (.var 7) 0 1 false) (.cons (.fld (.var 7) 1 1 false) (.cons (.fld (.var 7) 2 1 false) (.cons (.fld (.var 7) 3 1 false) (.cons (.fld (.var 7) 4 1 false) .nil)))))) (.cons (.int .i64 (1)) .nil)) <|
       .call [] (.inl 39) (.cons (.var 8) (.cons (.proj (.var 16) 0) .nil)) <|
       .chk [] (.dfd (.bin .lss (.proj (.var 17) 0) (.int .i64 (0)))) <|
       .call [((.bin .lss (.proj (.var 17) 0) (.int .i64 (0))), false)] (.inl 23) (.cons (.mk (.cons (.fld (.proj (.var 9) 0) 0 1 false) (.cons (.fld (.proj (.var 9) 0) 1 1 false) (.cons (.fld (.proj (.var 9) 0) 2 1 false) (.cons (.fld (.proj (.var 9) 0) 3 1 false) (.cons (.fld (.proj (.var 9) 0) 4 1 false) .nil)))))) (.cons (.mk (.cons (.fld (.proj (.var 6) 0) 0 1 false) (.cons (.fld (.proj (.var 6) 0) 1 1 false) (.cons (.fld (.proj (.var 6) 0) 2 1 false) (.cons (.fld (.proj (.var 6) 0) 3 1 false) (.cons (.fld (.proj (.var 6) 0) 4 1 false) .nil)))))) .nil)) <|
       .chk [((.bin .lss (.proj (.var 17) 0) (.int .i64 (0))), false)] (.dfd (.not (.var 18))) <|
       .chk [] (.dfd (.not (.bin .lss (.proj (.var 17) 0) (.int .i64 (0))))) <|
       .call [((.ite (.bin .lss (.proj (.var 17) 0) (.int .i64 (0))) (.bool true) (.not (.var 18))), false)] (.inl 37) (.cons (.proj (.var 9) 1) (.cons (.proj (.var 6) 1) .nil)) <|
       .chk [((.ite (.bin .lss (.proj (.var 17) 0) (.int .i64 (0))) (.bool true) (.not (.var 18))), false)] (.dfd (.not (.var 19))) <|
       .chk [] (.dfd (.not (.ite (.bin .lss (.proj (.var 17) 0) (.int .i64 (0))) (.bool true) (.not (.var 18))))) <|
       .chk [((.ite (.ite (.bin .lss (.proj (.var 17) 0) (.int .i64 (0))) (.bool true) (.not (.var 18))) (.bool true) (.not (.var 19))), false)] (.dfd (.bbin .neq (.proj (.var 9) 2) (.proj (.var 6) 2))) <|
       .chk [] (.dfd (.not (.ite (.ite (.bin .lss (.proj (.var 17) 0) (.int .i64 (0))) (.bool true) (.not (.var 18))) (.bool true) (.not (.var 19))))) <|
       .ite (.ite (.ite (.ite (.bin .lss (.proj (.var 17) 0) (.int .i64 (0))) (.bool true) (.not (.var 18))) (.bool true) (.not (.var 19))) (.bool true) (.bbin .neq (.proj (.var 9) 2) (.proj (.var 6) 2))) (
        .ret (.bool false)) (
        .call [] (.inl 24) (.cons (.mk (.cons (.fld (.proj (.var 9) 0) 0 1 false) (.cons (.fld (.proj (.var 9) 0) 1 1 false) (.cons (.fld (.proj (.var 9) 0) 2 1 false) (.cons (.fld (.proj (.var 9) 0) 3 1 false) (.cons (.fld (.proj (.var 9) 0) 4 1 false) .nil)))))) (.cons (.int .i64 (1)) .nil)) <|
        .call [] (.inl 40) (.cons (.proj (.var 9) 1) (.cons (.proj (.var 20) 0) .nil)) <|
        .call [] (.inl 25) (.cons (.mk (.cons (.fld (.proj (.var 9) 0) 0 1 false) (.cons (.fld (.proj (.var 9) 0) 1 1 false) (.cons (.fld (.proj (.var 20) 1) 2 1 false) (.cons (.fld (.proj (.var 9) 0) 3 1 false) (.cons (.fld (.proj (.var 20) 1) 4 1 false) .nil)))))) (.cons (.int .i64 (1)) .nil)) <|
        .chk [] (.dfd (.bin .lss (.var 22) (.int .i64 (0)))) <|
        .ite (.bin .lss (.var 22) (.int .i64 (0))) (
         .ret (.bool false)) (
         .call [] (.inl 41) (.cons (.proj (.var 21) 1) (.cons (.var 22) .nil)) <|
         .chk [] (.dfd (.bin .lss (.var 23) (.int .i64 (0)))) <|
         .ite (.bin .lss (.var 23) (.int .i64 (0))) (
          .ret (.bool false)) (
          .chk [] (.dfd (.bin .neq (.var 23) (.proj (.var 21) 0))) <|
          .ite (.bin .neq (.var 23) (.proj (.var 21) 0)) (
           .ret (.bool false)) (
           .call [] (.inl 21) (.cons (.mk (.cons (.fld (.var 0) 0 1 false) (.cons (.fld (.var 0) 1 1 false) (.cons (.fld (.var 0) 2 1 false) (.cons (.fld (.var 0) 3 1 false) (.cons (.fld (.var 0) 4 1 false) .nil)))))) .nil) <|
           .call [] (.inl 36) (.cons (.var 1) .nil) <|
           .call [] (.inl 27) (.cons (.mk (.cons (.fld (.var 24) 0 1 false) (.cons (.fld (.var 24) 1 1 false) (.cons (.fld (.var 24) 2 1 false) (.cons (.fld (.var 24) 3 1 false) (.cons (.fld (.var 24) 4 1 false) .nil)))))) (.cons (.var 25) .nil)) <|
           .call [] (.inl 23) (.cons (.mk (.cons (.fld (.proj (.var 26) 0) 0 1 false) (.cons (.fld (.proj (.var 26) 0) 1 1 false) (.cons (.fld (.proj (.var 26) 0) 2 1 false) (.cons (.fld (.proj (.var 26) 0) 3 1 false) (.cons (.fld (.proj (.var 26) 0) 4 1 false) .nil)))))) (.cons (.mk (.cons (.fld (.proj (.var 6) 0) 0 1 false) (.cons (.fld (.proj (.var 6) 0) 1 1 false) (.cons (.fld (.proj (.var 6) 0) 2 1 false) (.cons (.fld (.proj (.var 6) 0) 3 1 false) (.cons (.fld (.proj (.var 6) 0) 4 1 false) .nil)))))) .nil)) <|
           .chk [] (.dfd (.not (.var 27))) <|
           .call [((.not (.var 27)), false)] (.inl 37) (.cons (.proj (.var 26) 1) (.cons (.proj (.var 6) 1) .nil)) <|
           .chk [((.not (.var 27)), false)] (.dfd (.not (.var 28))) <|
           .chk [] (.dfd (.not (.not (.var 27)))) <|
           .chk [((.ite (.not (.var 27)) (.bool true) (.not (.var 28))), false)] (.dfd (.bbin .neq (.proj (.var 26) 2) (.proj (.var 6) 2))) <|
           .chk [] (.dfd (.not (.ite (.not (.var 27)) (.bool true) (.not (.var 28))))) <|
           .ite (.ite (.ite (.not (.var 27)) (.bool true) (.not (.var 28))) (.bool true) (.bbin .neq (.proj (.var 26) 2) (.proj (.var 6) 2))) (
            .ret (.bool false)) (
            .call [] (.inl 25) (.cons (.mk (.cons (.fld (.proj (.var 9) 0) 0 1 false) (.cons (.fld (.proj (.var 9) 0) 1 1 false) (.cons (.fld (.proj (.var 20) 1) 2 1 false) (.cons (.fld (.proj (.var 9) 0) 3 1 false) (.cons (.fld (.proj (.var 20) 1) 4 1 false) .nil)))))) (.cons (.int .i64 (1)) .nil)) <|
            .chk [] (.dfd (.bin .lss (.var 29) (.int .i64 (0)))) <|
            .ite (.bin .lss (.var 29) (.int .i64 (0))) (
             .ret (.bool false)) (
             .call [] (.inl 41) (.cons (.proj (.var 21) 1) (.cons (.var 29) .nil)) <|
             .chk [] (.dfd (.bin .lss (.var 30) (.int .i64 (0)))) <|
             .ite (.bin .lss (.var 30) (.int .i64 (0))) (
              .ret (.bool false)) (
              .chk [] (.dfd (.bin .neq (.var 30) (.proj (.var 21) 0))) <|
              .ite (.bin .neq (.var 30) (.proj (.var 21) 0)) (
               .ret (.bool false)) (
               .ret (.bool true))))))))))))))
theorem C_laws_FnExactPlayRenew : comp Try.prog sgs 6 = some T_laws_FnExactPlayRenew := by kernel_rfl
def T_spec_DrawStepRenew : Tr :=
  .chk [] (.cells (.var 0) 1) <|
  .call [] (.inl 42) (.cons (.ref (.mk (.cons (.var 0) (.cons (.int .i64 (0)) (.cons (.int .u64 (0)) .nil))))) .nil) <|
  .call [] (.inl 43) (.cons (.ref (.mk (.cons (.fld (.proj (.var 1) 1) 0 1 false) (.cons (.fld (.proj (.var 1) 1) 1 1 false) (.cons (.fld (.proj (.var 1) 1) 2 1 false) .nil))))) (.cons (.mk (.cons (.fld (.proj (.var 1) 0) 0 1 false) (.cons (.fld (.proj (.var 1) 0) 1 1 false) (.cons (.fld (.proj (.var 1) 0) 2 1 false) (.cons (.fld (.proj (.var 1) 0) 3 1 false) (.cons (.fld (.proj (.var 1) 0) 4 1 false) .nil)))))) .nil)) <|
  .chk [] (.agg (.proj (.var 2) 0) 3) <|
  .join (
   .call [] (.inl 44) (.cons (.ref (.mk (.cons (.fld (.proj (.var 2) 1) 0 1 false) (.cons (.fld (.proj (.var 2) 1) 1 1 false) (.cons (.fld (.proj (.var 2) 1) 2 1 false) .nil))))) (.cons (.int .i64 (12)) .nil)) <|
   .chk [] (.dfd (.bin .eql (.proj (.var 3) 0) (.int .i64 (0)))) <|
   .ite (.bin .eql (.proj (.var 3) 0) (.int .i64 (0))) (
    .call [] (.inl 44) (.cons (.ref (.mk (.cons (.fld (.proj (.var 3) 1) 0 1 false) (.cons (.fld (.proj (.var 3) 1) 1 1 false) (.cons (.fld (.proj (.var 3) 1) 2 1 false) .nil))))) (.cons (.int .i64 (6)) .nil)) <|
    .chk [] (.cells (.proj (.var 4) 0) 1) <|
    .jmp 0 (.cons (.proj (.var 4) 0) (.cons (.fld (.proj (.var 2) 0) 1 1 false) (.cons (.fld (.proj (.var 2) 0) 2 1 false) .nil)))) (
    .chk [] (.dfd (.bin .eql (.proj (.var 3) 0) (.int .i64 (1)))) <|
    .ite (.bin .eql (.proj (.var 3) 0) (.int .i64 (1))) (
     .call [] (.inl 44) (.cons (.ref (.mk (.cons (.fld (.proj (.var 3) 1) 0 1 false) (.cons (.fld (.proj (.var 3) 1) 1 1 false) (.cons (.fld (.proj (.var 3) 1) 2 1 false) .nil))))) (.cons (.int .i64 (6)) .nil)) <|
     .chk [] (.dfd (.bin .sub (.proj (.var 4) 0) (.int .i64 (1)))) <|
     .chk [] (.cells (.bin .sub (.proj (.var 4) 0) (.int .i64 (1))) 1) <|
     .jmp 0 (.cons (.fld (.proj (.var 2) 0) 0 1 false) (.cons (.bin .sub (.proj (.var 4) 0) (.int .i64 (1))) (.cons (.fld (.proj (.var 2) 0) 2 1 false) .nil)))) (
     .chk [] (.dfd (.bin .eql (.proj (.var 3) 0) (.int .i64 (2)))) <|
     .ite (.bin .eql (.proj (.var 3) 0) (.int .i64 (2))) (
      .chk [] (.flat (.int .i64 (-6)) 1 false) <|
      .chk [] (.flat (.int .i64 (0)) 1 false) <|
      .chk [] (.flat (.int .i64 (50)) 1 false) <|
      .chk [] (.flat (.int .i64 (51)) 1 false) <|
      .call [] (.inl 45) (.cons (.ref (.mk (.cons (.fld (.proj (.var 3) 1) 0 1 false) (.cons (.fld (.proj (.var 3) 1) 1 1 false) (.cons (.fld (.proj (.var 3) 1) 2 1 false) .nil))))) (.cons (.lst (.cons (.int .i64 (-6)) (.cons (.int .i64 (0)) (.cons (.int .i64 (50)) (.cons (.int .i64 (51)) .nil))))) .nil)) <|
      .chk [] (.cells (.proj (.var 4) 0) 1) <|
      .jmp 0 (.cons (.fld (.proj (.var 2) 0) 0 1 false) (.cons (.fld (.proj (.var 2) 0) 1 1 false) (.cons (.proj (.var 4) 0) .nil)))) (
      .jmp 0 (.cons (.fld (.proj (.var 2) 0) 0 1 false) (.cons (.fld (.proj (.var 2) 0) 1 1 false) (.cons (.fld (.proj (.var 2) 0) 2 1 false) .nil))))))) (
   .ret (.tup (.cons (.mk (.cons (.fld (.proj (.var 1) 0) 0 1 false) (.cons (.fld (.proj (.var 1) 0) 1 1 false) (.cons (.fld (.proj (.var 1) 0) 2 1 false) (.cons (.fld (.proj (.var 1) 0) 3 1 false) (.cons (.fld (.proj (.var 1) 0) 4 1 false) .nil)))))) (.cons (.mk (.cons (.var 3) (.cons (.var 4) (.cons (.var 5) .nil)))) .nil))))
theorem C_spec_DrawStepRenew : comp Try.prog sgs 7 = some T_spec_DrawStepRenew := by kernel_rfl
def T_impl_StepRenew : Tr :=
  .chk [] (.agg (.var 0) 5) <|
  .chk [] (.agg (.var 1) 3) <|
  .call [] (.inl 18) (.cons (.mk (.cons (.fld (.var 0) 0 1 false) (.cons (.fld (.var 0) 1 1 false) (.cons (.fld (.var 0) 2 1 false) (.cons (.fld (.var 0) 3 1 false) (.cons (.fld (.var 0) 4 1 false) .nil)))))) (.cons (.mk (.cons (.fld (.var 1) 0 1 false) (.cons (.fld (.var 1) 1 1 false) (.cons (.fld (.var 1) 2 1 false) .nil)))) .nil)) <|
  .chk [] (.dfd (.not (.var 2))) <|
  .ite (.not (.var 2)) (
   .ret (.tup (.cons (.mk (.cons (.int .i64 (0)) (.cons (.int .i64 (0)) (.cons (.lst .nil) (.cons (.int .i64 (0)) (.cons (.lst .nil) .nil)))))) (.cons (.bool false) (.cons (.bool false) .nil))))) (
   .call [] (.inl 46) (.cons (.mk (.cons (.fld (.var 0) 0 1 false) (.cons (.fld (.var 0) 1 1 false) (.cons (.fld (.var 0) 2 1 false) (.cons (.fld (.var 0) 3 1 false) (.cons (.fld (.var 0) 4 1 false) .nil)))))) .nil) <|
   .call [] (.inl 47) (.cons (.ref (.mk (.cons (.fld (.var 3) 0 1 false) (.cons (.fld (.var 3) 1 1 false) (.cons (.fld (.var 3) 2 1 false) (.cons (.fld (.var 3) 3 1 false) (.cons (.fld (.var 3) 4 1 false) .nil))))))) (.cons (.mk (.cons (.fld (.var 1) 0 1 false) (.cons (.fld (.var 1) 1 1 false) (.cons (.fld (.var 1) 2 1 false) .nil)))) .nil)) <|
   .ret (.tup (.cons (.mk (.cons (.fld (.proj (.var 4) 1) 0 1 false) (.cons (.fld (.proj (.var 4) 1) 1 1 false) (.cons (.fld (.proj (.var 4) 1) 2 1 false) (.cons (.fld (.proj (.var 4) 1) 3 1 false) (.cons (.fld (.proj (.var 4) 1) 4 1 false) .nil)))))) (.cons (.proj (.var 4) 0) (.cons (.bool true) .nil)))))
theorem C_impl_StepRenew : comp Try.prog sgs 8 = some T_impl_StepRenew := by kernel_rfl
def T_spec_StepRenew : Tr :=
  .chk [] (.agg (.var 0) 5) <|
  .chk [] (.agg (.var 1) 3) <|
  .call [] (.inl 48) (.cons (.mk (.cons (.fld (.var 0) 0 1 false) (.cons (.fld (.var 0) 1 1 false) (.cons (.fld (.var 0) 2 1 false) (.cons (.fld (.var 0) 3 1 false) (.cons (.fld (.var 0) 4 1 false) .nil)))))) (.cons (.mk (.cons (.fld (.var 1) 0 1 false) (.cons (.fld (.var 1) 1 1 false) (.cons (.fld (.var 1) 2 1 false) .nil)))) .nil)) <|
  .chk [] (.dfd (.not (.var 2))) <|
  .ite (.not (.var 2)) (
   .ret (.tup (.cons (.mk (.cons (.int .i64 (0)) (.cons (.int .i64 (0)) (.cons (.lst .nil) (.cons (.int .i64 (0)) (.cons (.lst .nil) .nil)))))) (.cons (.bool false) (.cons (.bool false) .nil))))) (
   .call [] (.inl 50) (.cons (.mk (.cons (.fld (.var 0) 0 1 false) (.cons (.fld (.var 0) 1 1 false) (.cons (.fld (.var 0) 2 1 false) (.cons (.fld (.var 0) 3 1 false) (.cons (.fld (.var 0) 4 1 false) .nil)))))) .nil) <|
   .call [] (.inl 49) (.cons (.mk (.cons (.fld (.var 3) 0 1 false) (.cons (.fld (.var 3) 1 1 false) (.cons (.fld (.var 3) 2 1 false) (.cons (.fld (.var 3) 3 1 false) (.cons (.fld (.var 3) 4 1 false) .nil)))))) (.cons (.mk (.cons (.fld (.var 1) 0 1 false) (.cons (.fld (.var 1) 1 1 false) (.cons (.fld (.var 1) 2 1 false) .nil)))) .nil)) <|
   .ret (.tup (.cons (.mk (.cons (.fld (.proj (.var 4) 0) 0 1 false) (.cons (.fld (.proj (.var 4) 0) 1 1 false) (.cons (.fld (.proj (.var 4) 0) 2 1 false) (.cons (.fld (.proj (.var 4) 0) 3 1 false) (.cons (.fld (.proj (.var 4) 0) 4 1 false) .nil)))))) (.cons (.proj (.var 4) 1) (.cons (.bool true) .nil)))))
theorem C_spec_StepRenew : comp Try.prog sgs 9 = some T_spec_StepRenew := by kernel_rfl
def T_impl_SoundRenew : Tr :=
  .chk [] (.agg (.var 0) 5) <|
  .call [] (.inl 16) (.cons (.mk (.cons (.fld (.var 0) 0 1 false) (.cons (.fld (.var 0) 1 1 false) (.cons (.fld (.var 0) 2 1 false) (.cons (.fld (.var 0) 3 1 false) (.cons (.fld (.var 0) 4 1 false) .nil)))))) .nil) <|
  .chk [] (.dfd (.not (.var 1))) <|
  .ite (.not (.var 1)) (
   .ret (.tup (.cons (.bool false) (.cons (.bool false) .nil)))) (
   .call [] (.inl 51) (.cons (.fld (.var 0) 4 1 false) (.cons (.fn 52 (.cons (.ref (.mk (.cons (.fld (.var 0) 0 1 false) (.cons (.fld (.var 0) 1 1 false) (.cons (.fld (.var 0) 2 1 false) (.cons (.fld (.var 0) 3 1 false) (.cons (.fld (.var 0) 4 1 false) .nil))))))) .nil)) .nil)) <|
   .chk [] (.dfd (.not (.var 2))) <|
   .ret (.tup (.cons (.not (.var 2)) (.cons (.bool true) .nil))))
theorem C_impl_SoundRenew : comp Try.prog sgs 10 = some T_impl_SoundRenew := by kernel_rfl
def T_spec_SoundRenew : Tr :=
  .chk [] (.agg (.var 0) 5) <|
  .call [] (.inl 17) (.cons (.mk (.cons (.fld (.var 0) 0 1 false) (.cons (.fld (.var 0) 1 1 false) (.cons (.fld (.var 0) 2 1 false) (.cons (.fld (.var 0) 3 1 false) (.cons (.fld (.var 0) 4 1 false) .nil)))))) .nil) <|
  .chk [] (.dfd (.not (.var 1))) <|
  .ite (.not (.var 1)) (
   .ret (.tup (.cons (.bool false) (.cons (.bool false) .nil)))) (
   .chk [] (.dfd (.len (.fld (.var 0) 4 1 false))) <|
   .loop (.cons (.int .i64 (0)) .nil) (
    .chk [] (.dfd (.bin .lss (.var 2) (.len (.fld (.var 0) 4 1 false)))) <|
    .ite (.bin .lss (.var 2) (.len (.fld (.var 0) 4 1 false))) (
     .chk [] (.inb (.var 2) (.fld (.var 0) 4 1 false) 2) <|
     .chk [] (.agg (.fld (.idx (.fld (.var 0) 4 1 false) (.var 2)) 0 2 true) 2) <|
     .chk [] (.dfd (.bin .sub (.fld (.var 0) 3 1 false) (.int .i64 (1)))) <|
     .chk [] (.dfd (.bin .lss (.fld (.fld (.idx (.fld (.var 0) 4 1 false) (.var 2)) 0 2 true) 0 1 false) (.bin .sub (.fld (.var 0) 3 1 false) (.int .i64 (1))))) <|
     .chk [((.bin .lss (.fld (.fld (.idx (.fld (.var 0) 4 1 false) (.var 2)) 0 2 true) 0 1 false) (.bin .sub (.fld (.var 0) 3 1 false) (.int .i64 (1)))), true)] (.dfd (.bin .geq (.fld (.fld (.idx (.fld (.var 0) 4 1 false) (.var 2)) 0 2 true) 1 1 false) (.fld (.var 0) 0 1 false))) <|
     .chk [] (.dfd (.not (.bin .lss (.fld (.fld (.idx (.fld (.var 0) 4 1 false) (.var 2)) 0 2 true) 0 1 false) (.bin .sub (.fld (.var 0) 3 1 false) (.int .i64 (1)))))) <|
     .ite (.ite (.bin .lss (.fld (.fld (.idx (.fld (.var 0) 4 1 false) (.var 2)) 0 2 true) 0 1 false) (.bin .sub (.fld (.var 0) 3 1 false) (.int .i64 (1)))) (.bin .geq (.fld (.fld (.idx (.fld (.var 0) 4 1 false) (.var 2)) 0 2 true) 1 1 false) (.fld (.var 0) 0 1 false)) (.bool false)) (
      .ret (.tup (.cons (.bool false) (.cons (.bool true) .nil)))) (
      .chk [] (.dfd (.bin .add (.var 2) (.int .i64 (1)))) <|
      .jmp 0 (.cons (.bin .add (.var 2) (.int .i64 (1))) .nil))) (
     .jmp 1 .nil)) (
    .ret (.tup (.cons (.bool true) (.cons (.bool true) .nil)))))
theorem C_spec_SoundRenew : comp Try.prog sgs 11 = some T_spec_SoundRenew := by kernel_rfl
def T_spec_DrawUsableIn : Tr :=
  .chk [] (.cells (.var 0) 1) <|
  .call [] (.inl 42) (.cons (.ref (.mk (.cons (.var 0) (.cons (.int .i64 (0)) (.cons (.int .u64 (0)) .nil))))) .nil) <|
  .call [] (.inl 44) (.cons (.ref (.mk (.cons (.fld (.proj (.var 1) 1) 0 1 false) (.cons (.fld (.proj (.var 1) 1) 1 1 false) (.cons (.fld (.proj (.var 1) 1) 2 1 false) .nil))))) (.cons (.int .i64 (5)) .nil)) <|
  .chk [] (.dfd (.bin .sub (.proj (.var 2) 0) (.int .i64 (1)))) <|
  .ret (.tup (.cons (.mk (.cons (.fld (.proj (.var 1) 0) 0 1 false) (.cons (.fld (.proj (.var 1) 0) 1 1 false) (.cons (.fld (.proj (.var 1) 0) 2 1 false) (.cons (.fld (.proj (.var 1) 0) 3 1 false) (.cons (.fld (.proj (.var 1) 0) 4 1 false) .nil)))))) (.cons (.bin .sub (.proj (.var 2) 0) (.int .i64 (1))) .nil)))
theorem C_spec_DrawUsableIn : comp Try.prog sgs 12 = some T_spec_DrawUsableIn := by kernel_rfl
def T_impl_UsableIn : Tr :=
  .chk [] (.agg (.var 0) 5) <|
  .call [] (.inl 16) (.cons (.mk (.cons (.fld (.var 0) 0 1 false) (.cons (.fld (.var 0) 1 1 false) (.cons (.fld (.var 0) 2 1 false) (.cons (.fld (.var 0) 3 1 false) (.cons (.fld (.var 0) 4 1 false) .nil)))))) .nil) <|
  .chk [] (.dfd (.not (.var 2))) <|
  .chk [((.not (.var 2)), false)] (.dfd (.len (.fld (.var 0) 2 1 false))) <|
  .call [((.not (.var 2)), false)] (.inl 53) (.cons (.var 1) (.cons (.int .i64 (0)) (.cons (.bin .sub (.len (.fld (.var 0) 2 1 false)) (.int .i64 (1))) .nil))) <|
  .chk [((.not (.var 2)), false)] (.dfd (.not (.var 3))) <|
  .chk [] (.dfd (.not (.not (.var 2)))) <|
  .ite (.ite (.not (.var 2)) (.bool true) (.not (.var 3))) (
   .ret (.tup (.cons (.int .i64 (0)) (.cons (.bool false) (.cons (.bool false) .nil))))) (
   .chk [] (.inb (.var 1) (.fld (.var 0) 4 1 false) 2) <|
   .call [] (.inl 54) (.cons (.mk (.cons (.fld (.var 0) 0 1 false) (.cons (.fld (.var 0) 1 1 false) (.cons (.fld (.var 0) 2 1 false) (.cons (.fld (.var 0) 3 1 false) (.cons (.fld (.var 0) 4 1 false) .nil)))))) (.cons (.var 1) .nil)) <|
   .ret (.tup (.cons (.fld (.idx (.fld (.var 0) 4 1 false) (.var 1)) 0 1 false) (.cons (.var 4) (.cons (.bool true) .nil)))))
theorem C_impl_UsableIn : comp Try.prog sgs 13 = some T_impl_UsableIn := by kernel_rfl
def T_spec_UsableIn : Tr :=
  .chk [] (.agg (.var 0) 5) <|
  .call [] (.inl 17) (.cons (.mk (.cons (.fld (.var 0) 0 1 false) (.cons (.fld (.var 0) 1 1 false) (.cons (.fld (.var 0) 2 1 false) (.cons (.fld (.var 0) 3 1 false) (.cons (.fld (.var 0) 4 1 false) .nil)))))) .nil) <|
  .chk [] (.dfd (.not (.var 2))) <|
  .chk [((.not (.var 2)), false)] (.dfd (.len (.fld (.var 0) 2 1 false))) <|
  .call [((.not (.var 2)), false)] (.inl 55) (.cons (.var 1) (.cons (.int .i64 (0)) (.cons (.bin .sub (.len (.fld (.var 0) 2 1 false)) (.int .i64 (1))) .nil))) <|
  .chk [((.not (.var 2)), false)] (.dfd (.not (.var 3))) <|
  .chk [] (.dfd (.not (.not (.var 2)))) <|
  .ite (.ite (.not (.var 2)) (.bool true) (.not (.var 3))) (
   .ret (.tup (.cons (.int .i64 (0)) (.cons (.bool false) (.cons (.bool false) .nil))))) (
   .chk [] (.inb (.var 1) (.fld (.var 0) 4 1 false) 2) <|
   .call [] (.inl 56) (.cons (.mk (.cons (.fld (.var 0) 0 1 false) (.cons (.fld (.var 0) 1 1 false) (.cons (.fld (.var 0) 2 1 false) (.cons (.fld (.var 0) 3 1 false) (.cons (.fld (.var 0) 4 1 false) .nil)))))) (.cons (.var 1) .nil)) <|
   .ret (.tup (.cons (.fld (.idx (.fld (.var 0) 4 1 false) (.var 1)) 0 1 false) (.cons (.var 4) (.cons (.bool true) .nil)))))
theorem C_spec_UsableIn : comp Try.prog sgs 14 = some T_spec_UsableIn := by kernel_rfl
def T_laws_qSameR : Tr :=
  .chk [] (.agg (.var 0) 5) <|
  .chk [] (.agg (.var 1) 5) <|
  .chk [] (.dfd (.bin .neq (.fld (.var 0) 0 1 false) (.fld (.var 1) 0 1 false))) <|
  .chk [((.bin .neq (.fld (.var 0) 0 1 false) (.fld (.var 1) 0 1 false)), false)] (.kinds (.mk (.cons (.fld (.var 0) 1 1 false) .nil)) [.int .i64]) <|
  .chk [((.bin .neq (.fld (.var 0) 0 1 false) (.fld (.var 1) 0 1 false)), false)] (.kinds (.mk (.cons (.fld (.var 1) 1 1 false) .nil)) [.int .i64]) <|
  .chk [] (.dfd (.not (.bin .neq (.fld (.var 0) 0 1 false) (.fld (.var 1) 0 1 false)))) <|
  .chk [((.ite (.bin .neq (.fld (.var 0) 0 1 false) (.fld (.var 1) 0 1 false)) (.bool true) (.not (.aeq (.mk (.cons (.fld (.var 0) 1 1 false) .nil)) (.mk (.cons (.fld (.var 1) 1 1 false) .nil))))), false)] (.dfd (.bin .neq (.fld (.var 0) 3 1 false) (.fld (.var 1) 3 1 false))) <|
  .chk [] (.dfd (.not (.ite (.bin .neq (.fld (.var 0) 0 1 false) (.fld (.var 1) 0 1 false)) (.bool true) (.not (.aeq (.mk (.cons (.fld (.var 0) 1 1 false) .nil)) (.mk (.cons (.fld (.var 1) 1 1 false) .nil))))))) <|
  .chk [((.ite (.ite (.bin .neq (.fld (.var 0) 0 1 false) (.fld (.var 1) 0 1 false)) (.bool true) (.not (.aeq (.mk (.cons (.fld (.var 0) 1 1 false) .nil)) (.mk (.cons (.fld (.var 1) 1 1 false) .nil))))) (.bool true) (.bin .neq (.fld (.var 0) 3 1 false) (.fld (.var 1) 3 1 false))), false)] (.dfd (.len (.fld (.var 0) 2 1 false))) <|
  .chk [((.ite (.ite (.bin .neq (.fld (.var 0) 0 1 false) (.fld (.var 1) 0 1 false)) (.bool true) (.not (.aeq (.mk (.cons (.fld (.var 0) 1 1 false) .nil)) (.mk (.cons (.fld (.var 1) 1 1 false) .nil))))) (.bool true) (.bin .neq (.fld (.var 0) 3 1 false) (.fld (.var 1) 3 1 false))), false)] (.dfd (.len (.fld (.var 1) 2 1 false))) <|
  .chk [] (.dfd (.not (.ite (.ite (.bin .neq (.fld (.var 0) 0 1 false) (.fld (.var 1) 0 1 false)) (.bool true) (.not (.aeq (.mk (.cons (.fld (.var 0) 1 1 false) .nil)) (.mk (.cons (.fld (.var 1) 1 1 false) .nil))))) (.bool true) (.bin .neq (.fld (.var 0) 3 1 false) (.fld (.var 1) 3 1 false))))) <|
  .chk [((.ite (.ite (.ite (.bin .neq (.fld (.var 0) 0 1 false) (.fld (.var 1) 0 1 false)) (.bool true) (.not (.aeq (.mk (.cons (.fld (.var 0) 1 1 false) .nil)) (.mk (.cons (.fld (.var 1) 1 1 false) .nil))))) (.bool true) (.bin .neq (.fld (.var 0) 3 1 false) (.fld (.var 1) 3 1 false))) (.bool true) (.bin .neq (.len (.fld (.var 0) 2 1 false)) (.len (.fld (.var 1) 2 1 false)))), false)] (.dfd (.len (.fld (.var 0) 4 1 false))) <|
  .chk [((.ite (.ite (.ite (.bin .neq (.fld (.var 0) 0 1 false) (.fld (.var 1) 0 1 false)) (.bool true) (.not (.aeq (.mk (.cons (.fld (.var 0) 1 1 false) .nil)) (.mk (.cons (.fld (.var 1) 1 1 false) .nil))))) (.bool true) (.bin .neq (.fld (.var 0) 3 1 false) (.fld (.var 1) 3 1 false))) (.bool true) (.bin .neq (.len (.fld (.var 0) 2 1 false)) (.len (.fld (.var 1) 2 1 false)))), false)] (.dfd (.len (.fld (.var 1) 4 1 false))) <|
  .chk [] (.dfd (.not (.ite (.ite (.ite (.bin .neq (.fld (.var 0) 0 1 false) (.fld (.var 1) 0 1 false)) (.bool true) (.not (.aeq (.mk (.cons (.fld (.var 0) 1 1 false) .nil)) (.mk (.cons (.fld (.var 1) 1 1 false) .nil))))) (.bool true) (.bin .neq (.fld (.var 0) 3 1 false) (.fld (.var 1) 3 1 false))) (.bool true) (.bin .neq (.len (.fld (.var 0) 2 1 false)) (.len (.fld (.var 1) 2 1 false)))))) <|
  .ite (.ite (.ite (.ite (.ite (.bin .neq (.fld (.var 0) 0 1 false) (.fld (.var 1) 0 1 false)) (.bool true) (.not (.aeq (.mk (.cons (.fld (.var 0) 1 1 false) .nil)) (.mk (.cons (.fld (.var 1) 1 1 false) .nil))))) (.bool true) (.bin .neq (.fld (.var 0) 3 1 false) (.fld (.var 1) 3 1 false))) (.bool true) (.bin .neq (.len (.fld (.var 0) 2 1 false)) (.len (.fld (.var 1) 2 1 false)))) (.bool true) (.bin .neq (.len (.fld (.var 0) 4 1 false)) (.len (.fld (.var 1) 4 1 false)))) (
   .ret (.bool false)) (
   .chk [] (.dfd (.len (.fld (.var 0) 2 1 false))) <|
   .loop (.cons (.int .i64 (0)) .nil) (
    .chk [] (.dfd (.bin .lss (.var 2) (.len (.fld (.var 0) 2 1 false)))) <|
    .ite (.bin .lss (.var 2) (.len (.fld (.var 0) 2 1 false))) (
     .chk [] (.inb (.var 2) (.fld (.var 0) 2 1 false) 1) <|
     .chk [] (.inb (.var 2) (.fld (.var 1) 2 1 false) 1) <|
     .chk [] (.kinds (.fld (.idx (.fld (.var 0) 2 1 false) (.var 2)) 0 1 true) [.int .i64]) <|
     .chk [] (.kinds (.fld (.idx (.fld (.var 1) 2 1 false) (.var 2)) 0 1 true) [.int .i64]) <|
     .ite (.not (.aeq (.fld (.idx (.fld (.var 0) 2 1 false) (.var 2)) 0 1 true) (.fld (.idx (.fld (.var 1) 2 1 false) (.var 2)) 0 1 true))) (
      .ret (.bool false)) (
      .chk [] (.dfd (.bin .add (.var 2) (.int .i64 (1)))) <|
      .jmp 0 (.cons (.bin .add (.var 2) (.int .i64 (1))) .nil))) (
     .jmp 1 .nil)) (
    .chk [] (.dfd (.len (.fld (.var 0) 4 1 false))) <|
    .loop (.cons (.int .i64 (0)) .nil) (
     .chk [] (.dfd (.bin .lss (.var 2) (.len (.fld (.var 0) 4 1 false)))) <|
     .ite (.bin .lss (.var 2) (.len (.fld (.var 0) 4 1 false))) (
      .chk [] (.inb (.var 2) (.fld (.var 0) 4 1 false) 2) <|
      .chk [] (.inb (.var 2) (.fld (.var 1) 4 1 false) 2) <|
      .chk [] (.kinds (.fld (.idx (.fld (.var 0) 4 1 false) (.var 2)) 0 2 true) [.int .i64, .int .i64]) <|
      .chk [] (.kinds (.fld (.idx (.fld (.var 1) 4 1 false) (.var 2)) 0 2 true) [.int .i64, .int .i64]) <|
      .ite (.not (.aeq (.fld (.idx (.fld (.var 0) 4 1 false) (.var 2)) 0 2 true) (.fld (.idx (.fld (.var 1) 4 1 false) (.var 2)) 0 2 true))) (
       .ret (.bool false)) (
       .chk [] (.dfd (.bin .add (.var 2) (.int .i64 (1)))) <|
       .jmp 0 (.cons (.bin .add (.var 2) (.int .i64 (1))) .nil))) (
      .jmp 1 .nil)) (
     .ret (.bool true))))
theorem C_laws_qSameR : comp Try.prog sgs 15 = some T_laws_qSameR := by kernel_rfl
def T_impl_GoodRenew : Tr :=
  .chk [] (.agg (.var 0) 5) <|
  .call [] (.inl 53) (.cons (.fld (.var 0) 0 1 false) (.cons (.int .i64 (0)) (.cons (.int .i64 (1000)) .nil))) <|
  .call [((.var 1), true)] (.inl 57) (.cons (.mk (.cons (.fld (.var 0) 1 1 false) .nil)) .nil) <|
  .chk [] (.dfd (.not (.var 1))) <|
  .chk [((.ite (.var 1) (.var 2) (.bool false)), true)] (.dfd (.len (.fld (.var 0) 2 1 false))) <|
  .call [((.ite (.var 1) (.var 2) (.bool false)), true)] (.inl 53) (.cons (.len (.fld (.var 0) 2 1 false)) (.cons (.int .i64 (1)) (.cons (.int .i64 (3)) .nil))) <|
  .chk [] (.dfd (.not (.ite (.var 1) (.var 2) (.bool false)))) <|
  .call [((.ite (.ite (.var 1) (.var 2) (.bool false)) (.var 3) (.bool false)), true)] (.inl 53) (.cons (.fld (.var 0) 3 1 false) (.cons (.int .i64 (0)) (.cons (.int .i64 (20)) .nil))) <|
  .chk [] (.dfd (.not (.ite (.ite (.var 1) (.var 2) (.bool false)) (.var 3) (.bool false)))) <|
  .chk [((.ite (.ite (.ite (.var 1) (.var 2) (.bool false)) (.var 3) (.bool false)) (.var 4) (.bool false)), true)] (.dfd (.len (.fld (.var 0) 4 1 false))) <|
  .chk [((.ite (.ite (.ite (.var 1) (.var 2) (.bool false)) (.var 3) (.bool false)) (.var 4) (.bool false)), true)] (.dfd (.len (.fld (.var 0) 2 1 false))) <|
  .chk [] (.dfd (.not (.ite (.ite (.ite (.var 1) (.var 2) (.bool false)) (.var 3) (.bool false)) (.var 4) (.bool false)))) <|
  .call [((.ite (.ite (.ite (.ite (.var 1) (.var 2) (.bool false)) (.var 3) (.bool false)) (.var 4) (.bool false)) (.bin .eql (.len (.fld (.var 0) 4 1 false)) (.len (.fld (.var 0) 2 1 false))) (.bool false)), true)] (.inl 58) (.cons (.fld (.var 0) 2 1 false) (.cons (.fn 59 .nil) .nil)) <|
  .chk [((.ite (.ite (.ite (.ite (.var 1) (.var 2) (.bool false)) (.var 3) (.bool false)) (.var 4) (.bool false)) (.bin .eql (.len (.fld (.var 0) 4 1 false)) (.len (.fld (.var 0) 2 1 false))) (.bool false)), true)] (.dfd (.not (.var 5))) <|
  .chk [] (.dfd (.not (.ite (.ite (.ite (.ite (.var 1) (.var 2) (.bool false)) (.var 3) (.bool false)) (.var 4) (.bool false)) (.bin .eql (.len (.fld (.var 0) 4 1 false)) (.len (.fld (.var 0) 2 1 false))) (.bool false)))) <|
  .call [((.ite (.ite (.ite (.ite (.ite (.var 1) (.var 2) (.bool false)) (.var 3) (.bool false)) (.var 4) (.bool false)) (.bin .eql (.len (.fld (.var 0) 4 1 false)) (.len (.fld (.var 0) 2 1 false))) (.bool false)) (.not (.var 5)) (.bool false)), true)] (.inl 51) (.cons (.fld (.var 0) 4 1 false) (.cons (.fn 60 (.cons (.ref (.mk (.cons (.fld (.var 0) 0 1 false) (.cons (.fld (.var 0) 1 1 false) (.cons (.fld (.var 0) 2 1 false) (.cons (.fld (.var 0) 3 1 false) (.cons (.fld (.var 0) 4 1 false) .nil))))))) .nil)) .nil)) <|
  .chk [((.ite (.ite (.ite (.ite (.ite (.var 1) (.var 2) (.bool false)) (.var 3) (.bool false)) (.var 4) (.bool false)) (.bin .eql (.len (.fld (.var 0) 4 1 false)) (.len (.fld (.var 0) 2 1 false))) (.bool false)) (.not (.var 5)) (.bool false)), true)] (.dfd (.not (.var 6))) <|
  .chk [] (.dfd (.not (.ite (.ite (.ite (.ite (.ite (.var 1) (.var 2) (.bool false)) (.var 3) (.bool false)) (.var 4) (.bool false)) (.bin .eql (.len (.fld (.var 0) 4 1 false)) (.len (.fld (.var 0) 2 1 false))) (.bool false)) (.not (.var 5)) (.bool false)))) <|
  .ret (.ite (.ite (.ite (.ite (.ite (.ite (.var 1) (.var 2) (.bool false)) (.var 3) (.bool false)) (.var 4) (.bool false)) (.bin .eql (.len (.fld (.var 0) 4 1 false)) (.len (.fld (.var 0) 2 1 false))) (.bool false)) (.not (.var 5)) (.bool false)) (.not (.var 6)) (.bool false))
theorem C_impl_GoodRenew : comp Try.prog sgs 16 = some T_impl_GoodRenew := by kernel_rfl
def T_spec_GoodRenew : Tr :=
  .chk [] (.agg (.var 0) 5) <|
  .call [] (.inl 55) (.cons (.fld (.var 0) 0 1 false) (.cons (.int .i64 (0)) (.cons (.int .i64 (1000)) .nil))) <|
  .chk [] (.dfd (.not (.var 1))) <|
  .call [((.not (.var 1)), false)] (.inl 61) (.cons (.mk (.cons (.fld (.var 0) 1 1 false) .nil)) .nil) <|
  .chk [((.not (.var 1)), false)] (.dfd (.not (.var 2))) <|
  .chk [] (.dfd (.not (.not (.var 1)))) <|
  .call [((.ite (.not (.var 1)) (.bool true) (.not (.var 2))), false)] (.inl 62) (.cons (.fld (.var 0) 2 1 false) .nil) <|
  .chk [((.ite (.not (.var 1)) (.bool true) (.not (.var 2))), false)] (.dfd (.not (.var 3))) <|
  .chk [] (.dfd (.not (.ite (.not (.var 1)) (.bool true) (.not (.var 2))))) <|
  .call [((.ite (.ite (.not (.var 1)) (.bool true) (.not (.var 2))) (.bool true) (.not (.var 3))), false)] (.inl 55) (.cons (.fld (.var 0) 3 1 false) (.cons (.int .i64 (0)) (.cons (.int .i64 (20)) .nil))) <|
  .chk [((.ite (.ite (.not (.var 1)) (.bool true) (.not (.var 2))) (.bool true) (.not (.var 3))), false)] (.dfd (.not (.var 4))) <|
  .chk [] (.dfd (.not (.ite (.ite (.not (.var 1)) (.bool true) (.not (.var 2))) (.bool true) (.not (.var 3))))) <|
  .chk [((.ite (.ite (.ite (.not (.var 1)) (.bool true) (.not (.var 2))) (.bool true) (.not (.var 3))) (.bool true) (.not (.var 4))), false)] (.dfd (.len (.fld (.var 0) 4 1 false))) <|
  .chk [((.ite (.ite (.ite (.not (.var 1)) (.bool true) (.not (.var 2))) (.bool true) (.not (.var 3))) (.bool true) (.not (.var 4))), false)] (.dfd (.len (.fld (.var 0) 2 1 false))) <|
  .chk [] (.dfd (.not (.ite (.ite (.ite (.not (.var 1)) (.bool true) (.not (.var 2))) (.bool true) (.not (.var 3))) (.bool true) (.not (.var 4))))) <|
  .ite (.ite (.ite (.ite (.ite (.not (.var 1)) (.bool true) (.not (.var 2))) (.bool true) (.not (.var 3))) (.bool true) (.not (.var 4))) (.bool true) (.bin .neq (.len (.fld (.var 0) 4 1 false)) (.len (.fld (.var 0) 2 1 false)))) (
   .ret (.bool false)) (
   .chk [] (.dfd (.len (.fld (.var 0) 4 1 false))) <|
   .loop (.cons (.int .i64 (0)) .nil) (
    .chk [] (.dfd (.bin .lss (.var 5) (.len (.fld (.var 0) 4 1 false)))) <|
    .ite (.bin .lss (.var 5) (.len (.fld (.var 0) 4 1 false))) (
     .chk [] (.inb (.var 5) (.fld (.var 0) 4 1 false) 2) <|
     .chk [] (.agg (.fld (.idx (.fld (.var 0) 4 1 false) (.var 5)) 0 2 true) 2) <|
     .call [] (.inl 55) (.cons (.fld (.fld (.idx (.fld (.var 0) 4 1 false) (.var 5)) 0 2 true) 0 1 false) (.cons (.int .i64 (0)) (.cons (.fld (.var 0) 3 1 false) .nil))) <|
     .chk [] (.dfd (.not (.var 6))) <|
     .call [((.not (.var 6)), false)] (.inl 55) (.cons (.fld (.fld (.idx (.fld (.var 0) 4 1 false) (.var 5)) 0 2 true) 1 1 false) (.cons (.int .i64 (0)) (.cons (.int .i64 (1020)) .nil))) <|
     .chk [((.not (.var 6)), false)] (.dfd (.not (.var 7))) <|
     .chk [] (.dfd (.not (.not (.var 6)))) <|
     .ite (.ite (.not (.var 6)) (.bool true) (.not (.var 7))) (
      .ret (.bool false)) (
      .chk [] (.dfd (.bin .add (.var 5) (.int .i64 (1)))) <|
      .jmp 0 (.cons (.bin .add (.var 5) (.int .i64 (1))) .nil))) (
     .jmp 1 .nil)) (
    .ret (.bool true)))
theorem C_spec_GoodRenew : comp Try.prog sgs 17 = some T_spec_GoodRenew := by kernel_rfl
def T_impl_GoodRenewAct : Tr :=
  .chk [] (.agg (.var 0) 5) <|
  .chk [] (.agg (.var 1) 3) <|
  .call [] (.inl 16) (.cons (.mk (.cons (.fld (.var 0) 0 1 false) (.cons (.fld (.var 0) 1 1 false) (.cons (.fld (.var 0) 2 1 false) (.cons (.fld (.var 0) 3 1 false) (.cons (.fld (.var 0) 4 1 false) .nil)))))) .nil) <|
  .call [((.var 2), true)] (.inl 63) (.cons (.mk (.cons (.fld (.var 0) 0 1 false) (.cons (.fld (.var 0) 1 1 false) (.cons (.fld (.var 0) 2 1 false) (.cons (.fld (.var 0) 3 1 false) (.cons (.fld (.var 0) 4 1 false) .nil)))))) (.cons (.mk (.cons (.fld (.var 1) 0 1 false) (.cons (.fld (.var 1) 1 1 false) (.cons (.fld (.var 1) 2 1 false) .nil)))) .nil)) <|
  .chk [] (.dfd (.not (.var 2))) <|
  .ret (.ite (.var 2) (.var 3) (.bool false))
theorem C_impl_GoodRenewAct : comp Try.prog sgs 18 = some T_impl_GoodRenewAct := by kernel_rfl
def T_spec_SpanAt : Tr :=
  .chk [] (.agg (.var 0) 1) <|
  .call [] (.inl 64) (.cons (.mk (.cons (.fld (.var 0) 0 1 false) .nil)) .nil) <|
  .chk [] (.dfd (.not (.var 2))) <|
  .call [((.not (.var 2)), false)] (.inl 65) (.cons (.var 1) .nil) <|
  .chk [((.not (.var 2)), false)] (.dfd (.not (.var 3))) <|
  .chk [] (.dfd (.not (.not (.var 2)))) <|
  .ite (.ite (.not (.var 2)) (.bool true) (.not (.var 3))) (
   .ret (.tup (.cons (.mk (.cons (.int .i64 (0)) (.cons (.int .i64 (0)) .nil))) (.cons (.bool false) .nil)))) (
   .call [] (.inl 66) (.cons (.mk (.cons (.fld (.var 0) 0 1 false) .nil)) (.cons (.var 1) .nil)) <|
   .chk [] (.agg (.var 4) 2) <|
   .ret (.tup (.cons (.mk (.cons (.fld (.var 4) 0 1 false) (.cons (.fld (.var 4) 1 1 false) .nil))) (.cons (.bool true) .nil))))
theorem C_spec_SpanAt : comp Try.prog sgs 19 = some T_spec_SpanAt := by kernel_rfl
def T_laws_szRenew : Tr :=
  .chk [] (.agg (.var 0) 5) <|
  .call [] (.inl 67) (.cons (.fld (.var 0) 2 1 false) (.cons (.var 1) .nil)) <|
  .chk [] (.dfd (.bin .lss (.var 2) (.int .i64 (0)))) <|
  .ite (.bin .lss (.var 2) (.int .i64 (0))) (
   .ret (.int .i64 (-1))) (
   .call [] (.inl 68) (.cons (.fld (.var 0) 4 1 false) (.cons (.var 2) .nil)) <|
   .chk [] (.dfd (.bin .lss (.var 3) (.int .i64 (0)))) <|
   .ite (.bin .lss (.var 3) (.int .i64 (0))) (
    .ret (.int .i64 (-1))) (
    .ret (.var 3)))
theorem C_laws_szRenew : comp Try.prog sgs 20 = some T_laws_szRenew := by kernel_rfl
def T_laws_toRenew : Tr :=
  .chk [] (.agg (.var 0) 5) <|
  .chk [] (.cells (.fld (.var 0) 0 1 false) 1) <|
  .call [] (.inl 69) (.cons (.mk (.cons (.fld (.var 0) 1 1 false) .nil)) .nil) <|
  .chk [] (.agg (.var 1) 1) <|
  .call [] (.inl 70) (.cons (.fld (.var 0) 2 1 false) .nil) <|
  .chk [] (.cells (.fld (.var 0) 3 1 false) 1) <|
  .call [] (.inl 71) (.cons (.fld (.var 0) 4 1 false) .nil) <|
  .ret (.mk (.cons (.fld (.var 0) 0 1 false) (.cons (.fld (.var 1) 0 1 false) (.cons (.var 2) (.cons (.fld (.var 0) 3 1 false) (.cons (.var 3) .nil))))))
theorem C_laws_toRenew : comp Try.prog sgs 21 = some T_laws_toRenew := by kernel_rfl
def T_laws_toRenewAct : Tr :=
  .chk [] (.agg (.var 0) 3) <|
  .chk [] (.cells (.fld (.var 0) 0 1 false) 1) <|
  .chk [] (.cells (.fld (.var 0) 1 1 false) 1) <|
  .chk [] (.cells (.fld (.var 0) 2 1 false) 1) <|
  .ret (.mk (.cons (.fld (.var 0) 0 1 false) (.cons (.fld (.var 0) 1 1 false) (.cons (.fld (.var 0) 2 1 false) .nil))))
theorem C_laws_toRenewAct : comp Try.prog sgs 22 = some T_laws_toRenewAct := by kernel_rfl
def T_laws_eqRenew : Tr :=
  .chk [] (.agg (.var 0) 5) <|
  .chk [] (.agg (.var 1) 5) <|
  .chk [] (.dfd (.bin .neq (.fld (.var 0) 0 1 false) (.fld (.var 1) 0 1 false))) <|
  .ite (.bin .neq (.fld (.var 0) 0 1 false) (.fld (.var 1) 0 1 false)) (
   .ret (.bool false)) (
   .call [] (.inl 72) (.cons (.mk (.cons (.fld (.var 0) 1 1 false) .nil)) (.cons (.mk (.cons (.fld (.var 1) 1 1 false) .nil)) .nil)) <|
   .chk [] (.dfd (.not (.var 2))) <|
   .ite (.not (.var 2)) (
    .ret (.bool false)) (
    .call [] (.inl 73) (.cons (.fld (.var 0) 2 1 false) (.cons (.fld (.var 1) 2 1 false) .nil)) <|
    .chk [] (.dfd (.not (.var 3))) <|
    .ite (.not (.var 3)) (
     .ret (.bool false)) (
     .chk [] (.dfd (.bin .neq (.fld (.var 0) 3 1 false) (.fld (.var 1) 3 1 false))) <|
     .ite (.bin .neq (.fld (.var 0) 3 1 false) (.fld (.var 1) 3 1 false)) (
      .ret (.bool false)) (
      .call [] (.inl 74) (.cons (.fld (.var 0) 4 1 false) (.cons (.fld (.var 1) 4 1 false) .nil)) <|
      .chk [] (.dfd (.not (.var 4))) <|
      .ite (.not (.var 4)) (
       .ret (.bool false)) (
       .ret (.bool true))))))
theorem C_laws_eqRenew : comp Try.prog sgs 23 = some T_laws_eqRenew := by kernel_rfl
def T_laws_markRenew : Tr :=
  .call [] (.inl 75) (.cons (.fld (.var 0) 2 1 false) (.cons (.var 1) .nil)) <|
  .call [] (.inl 76) (.cons (.fld (.var 0) 4 1 false) (.cons (.proj (.var 2) 0) .nil)) <|
  .ret (.tup (.cons (.proj (.var 3) 0) (.cons (.mk (.cons (.fld (.var 0) 0 1 false) (.cons (.fld (.var 0) 1 1 false) (.cons (.proj (.var 2) 1) (.cons (.fld (.var 0) 3 1 false) (.cons (.proj (.var 3) 1) .nil)))))) .nil)))
theorem C_laws_markRenew : comp Try.prog sgs 24 = some T_laws_markRenew := by kernel_rfl
def T_laws_heldRenew : Tr :=
  .chk [] (.agg (.var 0) 5) <|
  .call [] (.inl 77) (.cons (.fld (.var 0) 2 1 false) (.cons (.var 1) .nil)) <|
  .chk [] (.dfd (.bin .lss (.var 2) (.int .i64 (0)))) <|
  .ite (.bin .lss (.var 2) (.int .i64 (0))) (
   .ret (.int .i64 (-1))) (
   .call [] (.inl 78) (.cons (.fld (.var 0) 4 1 false) (.cons (.var 2) .nil)) <|
   .chk [] (.dfd (.bin .lss (.var 3) (.int .i64 (0)))) <|
   .ite (.bin .lss (.var 3) (.int .i64 (0))) (
    .ret (.int .i64 (-1))) (
    .ret (.var 3)))
theorem C_laws_heldRenew : comp Try.prog sgs 25 = some T_laws_heldRenew := by kernel_rfl
def T_spec_DrawPlayRenew : Tr :=
  .chk [] (.cells (.var 0) 1) <|
  .call [] (.inl 79) (.cons (.ref (.mk (.cons (.var 0) (.cons (.int .i64 (0)) (.cons (.int .u64 (0)) .nil))))) .nil) <|
  .join (
   .call [] (.inl 80) (.cons (.ref (.mk (.cons (.fld (.proj (.var 1) 1) 0 1 false) (.cons (.fld (.proj (.var 1) 1) 1 1 false) (.cons (.fld (.proj (.var 1) 1) 2 1 false) .nil))))) (.cons (.int .i64 (12)) .nil)) <|
   .ite (.proj (.var 2) 0) (
    .call [] (.inl 42) (.cons (.ref (.mk (.cons (.fld (.proj (.var 2) 1) 0 1 false) (.cons (.fld (.proj (.var 2) 1) 1 1 false) (.cons (.fld (.proj (.var 2) 1) 2 1 false) .nil))))) .nil) <|
    .jmp 0 (.cons (.fld (.proj (.var 3) 1) 0 1 false) (.cons (.fld (.proj (.var 3) 1) 1 1 false) (.cons (.fld (.proj (.var 3) 1) 2 1 false) (.cons (.fld (.proj (.var 3) 0) 0 1 false) (.cons (.fld (.proj (.var 3) 0) 1 1 false) (.cons (.fld (.proj (.var 3) 0) 3 1 false) (.cons (.fld (.proj (.var 3) 0) 2 1 false) (.cons (.fld (.proj (.var 3) 0) 4 1 false) .nil))))))))) (
    .jmp 0 (.cons (.fld (.proj (.var 2) 1) 0 1 false) (.cons (.fld (.proj (.var 2) 1) 1 1 false) (.cons (.fld (.proj (.var 2) 1) 2 1 false) (.cons (.fld (.proj (.var 1) 0) 0 1 false) (.cons (.fld (.proj (.var 1) 0) 1 1 false) (.cons (.fld (.proj (.var 1) 0) 3 1 false) (.cons (.fld (.proj (.var 1) 0) 2 1 false) (.cons (.fld (.proj (.var 1) 0) 4 1 false) .nil)))))))))) (
   .call [] (.inl 81) (.cons (.ref (.mk (.cons (.var 2) (.cons (.var 3) (.cons (.var 4) .nil))))) (.cons (.mk (.cons (.var 5) (.cons (.var 6) (.cons (.var 8) (.cons (.var 7) (.cons (.var 9) .nil)))))) (.cons (.int .i64 (40)) .nil))) <|
   .join (
    .call [] (.inl 80) (.cons (.ref (.mk (.cons (.fld (.proj (.var 10) 1) 0 1 false) (.cons (.fld (.proj (.var 10) 1) 1 1 false) (.cons (.fld (.proj (.var 10) 1) 2 1 false) .nil))))) (.cons (.int .i64 (8)) .nil)) <|
    .ite (.proj (.var 11) 0) (
     .call [] (.inl 44) (.cons (.ref (.mk (.cons (.fld (.proj (.var 11) 1) 0 1 false) (.cons (.fld (.proj (.var 11) 1) 1 1 false) (.cons (.fld (.proj (.var 11) 1) 2 1 false) .nil))))) (.cons (.int .i64 (6)) .nil)) <|
     .call [] (.inl 44) (.cons (.ref (.mk (.cons (.fld (.proj (.var 12) 1) 0 1 false) (.cons (.fld (.proj (.var 12) 1) 1 1 false) (.cons (.fld (.proj (.var 12) 1) 2 1 false) .nil))))) (.cons (.int .i64 (5)) .nil)) <|
     .chk [] (.dfd (.bin .sub (.proj (.var 13) 0) (.int .i64 (1)))) <|
     .call [] (.inl 44) (.cons (.ref (.mk (.cons (.fld (.proj (.var 13) 1) 0 1 false) (.cons (.fld (.proj (.var 13) 1) 1 1 false) (.cons (.fld (.proj (.var 13) 1) 2 1 false) .nil))))) (.cons (.int .i64 (5)) .nil)) <|
     .chk [] (.cells (.proj (.var 12) 0) 1) <|
     .chk [] (.cells (.bin .sub (.proj (.var 13) 0) (.int .i64 (1))) 1) <|
     .chk [] (.cells (.proj (.var 14) 0) 1) <|
     .chk [] (.flat (.mk (.cons (.proj (.var 12) 0) (.cons (.bin .sub (.proj (.var 13) 0) (.int .i64 (1))) (.cons (.proj (.var 14) 0) .nil)))) 3 true) <|
     .chk [] (.room (.proj (.var 10) 0) (.lst (.cons (.mk (.cons (.proj (.var 12) 0) (.cons (.bin .sub (.proj (.var 13) 0) (.int .i64 (1))) (.cons (.proj (.var 14) 0) .nil)))) .nil)) 24) <|
     .chk [] (.flatS (.lst (.cons (.mk (.cons (.proj (.var 12) 0) (.cons (.bin .sub (.proj (.var 13) 0) (.int .i64 (1))) (.cons (.proj (.var 14) 0) .nil)))) .nil)) 3) <|
     .jmp 0 (.cons (.app (.proj (.var 10) 0) (.lst (.cons (.mk (.cons (.proj (.var 12) 0) (.cons (.bin .sub (.proj (.var 13) 0) (.int .i64 (1))) (.cons (.proj (.var 14) 0) .nil)))) .nil))) .nil)) (
     .jmp 0 (.cons (.proj (.var 10) 0) .nil))) (
    .ret (.tup (.cons (.mk (.cons (.var 5) (.cons (.var 6) (.cons (.var 8) (.cons (.var 7) (.cons (.var 9) .nil)))))) (.cons (.var 11) .nil)))))
theorem C_spec_DrawPlayRenew : comp Try.prog sgs 26 = some T_spec_DrawPlayRenew := by kernel_rfl
def T_impl_PlayRenew : Tr :=
  .chk [] (.agg (.var 0) 5) <|
  .call [] (.inl 16) (.cons (.mk (.cons (.fld (.var 0) 0 1 false) (.cons (.fld (.var 0) 1 1 false) (.cons (.fld (.var 0) 2 1 false) (.cons (.fld (.var 0) 3 1 false) (.cons (.fld (.var 0) 4 1 false) .nil)))))) .nil) <|
  .chk [] (.dfd (.not (.var 2))) <|
  .chk [((.not (.var 2)), false)] (.dfd (.len (.var 1))) <|
  .chk [] (.dfd (.not (.not (.var 2)))) <|
  .ite (.ite (.not (.var 2)) (.bool true) (.bin .gtr (.len (.var 1)) (.int .i64 (40)))) (
   .ret (.tup (.cons (.mk (.cons (.int .i64 (0)) (.cons (.int .i64 (0)) (.cons (.lst .nil) (.cons (.int .i64 (0)) (.cons (.lst .nil) .nil)))))) (.cons (.lst .nil) (.cons (.bool false) .nil))))) (
   .call [] (.inl 46) (.cons (.mk (.cons (.fld (.var 0) 0 1 false) (.cons (.fld (.var 0) 1 1 false) (.cons (.fld (.var 0) 2 1 false) (.cons (.fld (.var 0) 3 1 false) (.cons (.fld (.var 0) 4 1 false) .nil)))))) .nil) <|
   .chk [] (.dfd (.len (.var 1))) <|
   .loop (.cons (.int .i64 (0)) (.cons (.fld (.var 3) 0 1 false) (.cons (.fld (.var 3) 1 1 false) (.cons (.fld (.var 3) 3 1 false) (.cons (.fld (.var 3) 2 1 false) (.cons (.fld (.var 3) 4 1 false) (.cons (.lst .nil) .nil))))))) (
    .chk [] (.dfd (.bin .lss (.var 4) (.len (.var 1)))) <|
    .ite (.bin .lss (.var 4) (.len (.var 1))) (
     .join (
      .chk [] (.inb (.var 4) (.var 1) 3) <|
      .chk [] (.agg (.fld (.idx (.var 1) (.var 4)) 0 3 true) 3) <|
      .call [] (.inl 63) (.cons (.mk (.cons (.var 5) (.cons (.var 6) (.cons (.var 8) (.cons (.var 7) (.cons (.var 9) .nil)))))) (.cons (.mk (.cons (.fld (.fld (.idx (.var 1) (.var 4)) 0 3 true) 0 1 false) (.cons (.fld (.fld (.idx (.var 1) (.var 4)) 0 3 true) 1 1 false) (.cons (.fld (.fld (.idx (.var 1) (.var 4)) 0 3 true) 2 1 false) .nil)))) .nil)) <|
      .ite (.var 11) (
       .call [] (.inl 47) (.cons (.ref (.mk (.cons (.var 5) (.cons (.var 6) (.cons (.var 8) (.cons (.var 7) (.cons (.var 9) .nil))))))) (.cons (.mk (.cons (.fld (.fld (.idx (.var 1) (.var 4)) 0 3 true) 0 1 false) (.cons (.fld (.fld (.idx (.var 1) (.var 4)) 0 3 true) 1 1 false) (.cons (.fld (.fld (.idx (.var 1) (.var 4)) 0 3 true) 2 1 false) .nil)))) .nil)) <|
       .chk [] (.flat (.proj (.var 12) 0) 1 false) <|
       .chk [] (.room (.var 10) (.lst (.cons (.proj (.var 12) 0) .nil)) 1) <|
       .chk [] (.flatS (.lst (.cons (.proj (.var 12) 0) .nil)) 1) <|
       .jmp 0 (.cons (.int .i64 (0)) (.cons (.fld (.proj (.var 12) 1) 0 1 false) (.cons (.fld (.proj (.var 12) 1) 1 1 false) (.cons (.fld (.proj (.var 12) 1) 3 1 false) (.cons (.app (.var 10) (.lst (.cons (.proj (.var 12) 0) .nil))) (.cons (.fld (.proj (.var 12) 1) 2 1 false) (.cons (.fld (.proj (.var 12) 1) 4 1 false) .nil)))))))) (
       .chk [] (.flat (.bool false) 1 false) <|
       .chk [] (.room (.var 10) (.lst (.cons (.bool false) .nil)) 1) <|
       .chk [] (.flatS (.lst (.cons (.bool false) .nil)) 1) <|
       .jmp 0 (.cons (.int .i64 (0)) (.cons (.var 5) (.cons (.var 6) (.cons (.var 7) (.cons (.app (.var 10) (.lst (.cons (.bool false) .nil))) (.cons (.var 8) (.cons (.var 9) .nil))))))))) (
      .chk [] (.dfd (.bin .add (.var 4) (.int .i64 (1)))) <|
      .jmp 0 (.cons (.bin .add (.var 4) (.int .i64 (1))) (.cons (.var 12) (.cons (.var 13) (.cons (.var 14) (.cons (.var 16) (.cons (.var 17) (.cons (.var 15) .nil))))))))) (
     .jmp 1 (.cons (.var 5) (.cons (.var 6) (.cons (.var 7) (.cons (.var 8) (.cons (.var 9) (.cons (.var 10) .nil)))))))) (
    .ret (.tup (.cons (.mk (.cons (.var 4) (.cons (.var 5) (.cons (.var 7) (.cons (.var 6) (.cons (.var 8) .nil)))))) (.cons (.var 9) (.cons (.bool true) .nil))))))
theorem C_impl_PlayRenew : comp Try.prog sgs 27 = some T_impl_PlayRenew := by kernel_rfl
def T_spec_PlayRenew : Tr :=
  .chk [] (.agg (.var 0) 5) <|
  .call [] (.inl 17) (.cons (.mk (.cons (.fld (.var 0) 0 1 false) (.cons (.fld (.var 0) 1 1 false) (.cons (.fld (.var 0) 2 1 false) (.cons (.fld (.var 0) 3 1 false) (.cons (.fld (.var 0) 4 1 false) .nil)))))) .nil) <|
  .chk [] (.dfd (.not (.var 2))) <|
  .chk [((.not (.var 2)), false)] (.dfd (.len (.var 1))) <|
  .chk [] (.dfd (.not (.not (.var 2)))) <|
  .ite (.ite (.not (.var 2)) (.bool true) (.bin .gtr (.len (.var 1)) (.int .i64 (40)))) (
   .ret (.tup (.cons (.mk (.cons (.int .i64 (0)) (.cons (.int .i64 (0)) (.cons (.lst .nil) (.cons (.int .i64 (0)) (.cons (.lst .nil) .nil)))))) (.cons (.lst .nil) (.cons (.bool false) .nil))))) (
   .call [] (.inl 50) (.cons (.mk (.cons (.fld (.var 0) 0 1 false) (.cons (.fld (.var 0) 1 1 false) (.cons (.fld (.var 0) 2 1 false) (.cons (.fld (.var 0) 3 1 false) (.cons (.fld (.var 0) 4 1 false) .nil)))))) .nil) <|
   .chk [] (.dfd (.len (.var 1))) <|
   .loop (.cons (.lst .nil) (.cons (.int .i64 (0)) (.cons (.fld (.var 3) 0 1 false) (.cons (.fld (.var 3) 1 1 false) (.cons (.fld (.var 3) 3 1 false) (.cons (.fld (.var 3) 2 1 false) (.cons (.fld (.var 3) 4 1 false) .nil))))))) (
    .chk [] (.dfd (.bin .lss (.var 5) (.len (.var 1)))) <|
    .ite (.bin .lss (.var 5) (.len (.var 1))) (
     .chk [] (.inb (.var 5) (.var 1) 3) <|
     .chk [] (.agg (.fld (.idx (.var 1) (.var 5)) 0 3 true) 3) <|
     .call [] (.inl 82) (.cons (.mk (.cons (.var 6) (.cons (.var 7) (.cons (.var 9) (.cons (.var 8) (.cons (.var 10) .nil)))))) (.cons (.mk (.cons (.fld (.fld (.idx (.var 1) (.var 5)) 0 3 true) 0 1 false) (.cons (.fld (.fld (.idx (.var 1) (.var 5)) 0 3 true) 1 1 false) (.cons (.fld (.fld (.idx (.var 1) (.var 5)) 0 3 true) 2 1 false) .nil)))) .nil)) <|
     .join (
      .ite (.var 11) (
       .call [] (.inl 49) (.cons (.mk (.cons (.var 6) (.cons (.var 7) (.cons (.var 9) (.cons (.var 8) (.cons (.var 10) .nil)))))) (.cons (.mk (.cons (.fld (.fld (.idx (.var 1) (.var 5)) 0 3 true) 0 1 false) (.cons (.fld (.fld (.idx (.var 1) (.var 5)) 0 3 true) 1 1 false) (.cons (.fld (.fld (.idx (.var 1) (.var 5)) 0 3 true) 2 1 false) .nil)))) .nil)) <|
       .jmp 0 (.cons (.proj (.var 12) 1) (.cons (.fld (.proj (.var 12) 0) 0 1 false) (.cons (.fld (.proj (.var 12) 0) 1 1 false) (.cons (.fld (.proj (.var 12) 0) 3 1 false) (.cons (.fld (.proj (.var 12) 0) 2 1 false) (.cons (.fld (.proj (.var 12) 0) 4 1 false) .nil))))))) (
       .jmp 0 (.cons (.var 11) (.cons (.var 6) (.cons (.var 7) (.cons (.var 8) (.cons (.var 9) (.cons (.var 10) .nil)))))))) (
      .chk [] (.flat (.var 12) 1 false) <|
      .chk [] (.room (.var 4) (.lst (.cons (.var 12) .nil)) 1) <|
      .chk [] (.flatS (.lst (.cons (.var 12) .nil)) 1) <|
      .chk [] (.dfd (.bin .add (.var 5) (.int .i64 (1)))) <|
      .jmp 0 (.cons (.app (.var 4) (.lst (.cons (.var 12) .nil))) (.cons (.bin .add (.var 5) (.int .i64 (1))) (.cons (.var 13) (.cons (.var 14) (.cons (.var 15) (.cons (.var 16) (.cons (.var 17) .nil))))))))) (
     .jmp 1 (.cons (.var 6) (.cons (.var 7) (.cons (.var 8) (.cons (.var 9) (.cons (.var 10) (.cons (.var 4) .nil)))))))) (
    .ret (.tup (.cons (.mk (.cons (.var 4) (.cons (.var 5) (.cons (.var 7) (.cons (.var 6) (.cons (.var 8) .nil)))))) (.cons (.var 9) (.cons (.bool true) .nil))))))
theorem C_spec_PlayRenew : comp Try.prog sgs 28 = some T_spec_PlayRenew := by kernel_rfl
def T_impl_AreNear : Tr :=
  .chk [] (.agg (.var 0) 5) <|
  .call [] (.inl 16) (.cons (.mk (.cons (.fld (.var 0) 0 1 false) (.cons (.fld (.var 0) 1 1 false) (.cons (.fld (.var 0) 2 1 false) (.cons (.fld (.var 0) 3 1 false) (.cons (.fld (.var 0) 4 1 false) .nil)))))) .nil) <|
  .chk [] (.dfd (.not (.var 1))) <|
  .ite (.not (.var 1)) (
   .ret (.tup (.cons (.bool false) (.cons (.bool false) .nil)))) (
   .chk [] (.dfd (.len (.fld (.var 0) 4 1 false))) <|
   .loop (.cons (.int .i64 (0)) (.cons (.lst .nil) .nil)) (
    .chk [] (.dfd (.bin .lss (.var 2) (.len (.fld (.var 0) 4 1 false)))) <|
    .ite (.bin .lss (.var 2) (.len (.fld (.var 0) 4 1 false))) (
     .join (
      .chk [] (.inb (.var 2) (.fld (.var 0) 4 1 false) 2) <|
      .chk [] (.agg (.fld (.idx (.fld (.var 0) 4 1 false) (.var 2)) 0 2 true) 2) <|
      .call [] (.inl 54) (.cons (.mk (.cons (.fld (.var 0) 0 1 false) (.cons (.fld (.var 0) 1 1 false) (.cons (.fld (.var 0) 2 1 false) (.cons (.fld (.var 0) 3 1 false) (.cons (.fld (.var 0) 4 1 false) .nil)))))) (.cons (.var 2) .nil)) <|
      .ite (.var 4) (
       .chk [] (.flat (.fld (.fld (.idx (.fld (.var 0) 4 1 false) (.var 2)) 0 2 true) 0 1 false) 1 false) <|
       .chk [] (.room (.var 3) (.lst (.cons (.fld (.fld (.idx (.fld (.var 0) 4 1 false) (.var 2)) 0 2 true) 0 1 false) .nil)) 8) <|
       .chk [] (.flatS (.lst (.cons (.fld (.fld (.idx (.fld (.var 0) 4 1 false) (.var 2)) 0 2 true) 0 1 false) .nil)) 1) <|
       .jmp 0 (.cons (.app (.var 3) (.lst (.cons (.fld (.fld (.idx (.fld (.var 0) 4 1 false) (.var 2)) 0 2 true) 0 1 false) .nil))) .nil)) (
       .jmp 0 (.cons (.var 3) .nil))) (
      .chk [] (.dfd (.bin .add (.var 2) (.int .i64 (1)))) <|
      .jmp 0 (.cons (.bin .add (.var 2) (.int .i64 (1))) (.cons (.var 4) .nil)))) (
     .jmp 1 (.cons (.var 3) .nil))) (
    .chk [] (.dfd (.len (.var 2))) <|
    .call [((.bin .eql (.len (.var 2)) (.int .i64 (0))), false)] (.inl 83) (.cons (.var 2) .nil) <|
    .call [((.bin .eql (.len (.var 2)) (.int .i64 (0))), false)] (.inl 84) (.cons (.var 2) .nil) <|
    .chk [((.bin .eql (.len (.var 2)) (.int .i64 (0))), false)] (.dfd (.bin .sub (.var 3) (.var 4))) <|
    .chk [((.bin .eql (.len (.var 2)) (.int .i64 (0))), false)] (.dfd (.bin .leq (.bin .sub (.var 3) (.var 4)) (.int .i64 (1)))) <|
    .chk [] (.dfd (.not (.bin .eql (.len (.var 2)) (.int .i64 (0))))) <|
    .ret (.tup (.cons (.ite (.bin .eql (.len (.var 2)) (.int .i64 (0))) (.bool true) (.bin .leq (.bin .sub (.var 3) (.var 4)) (.int .i64 (1)))) (.cons (.bool true) .nil)))))
theorem C_impl_AreNear : comp Try.prog sgs 29 = some T_impl_AreNear := by kernel_rfl
def T_spec_AreNear : Tr :=
  .chk [] (.agg (.var 0) 5) <|
  .call [] (.inl 17) (.cons (.mk (.cons (.fld (.var 0) 0 1 false) (.cons (.fld (.var 0) 1 1 false) (.cons (.fld (.var 0) 2 1 false) (.cons (.fld (.var 0) 3 1 false) (.cons (.fld (.var 0) 4 1 false) .nil)))))) .nil) <|
  .chk [] (.dfd (.not (.var 1))) <|
  .ite (.not (.var 1)) (
   .ret (.tup (.cons (.bool false) (.cons (.bool false) .nil)))) (
   .chk [] (.dfd (.len (.fld (.var 0) 4 1 false))) <|
   .loop (.cons (.int .i64 (0)) .nil) (
    .chk [] (.dfd (.bin .lss (.var 2) (.len (.fld (.var 0) 4 1 false)))) <|
    .ite (.bin .lss (.var 2) (.len (.fld (.var 0) 4 1 false))) (
     .chk [] (.dfd (.len (.fld (.var 0) 4 1 false))) <|
     .loop (.cons (.int .i64 (0)) .nil) (
      .chk [] (.dfd (.bin .lss (.var 3) (.len (.fld (.var 0) 4 1 false)))) <|
      .ite (.bin .lss (.var 3) (.len (.fld (.var 0) 4 1 false))) (
       .call [] (.inl 56) (.cons (.mk (.cons (.fld (.var 0) 0 1 false) (.cons (.fld (.var 0) 1 1 false) (.cons (.fld (.var 0) 2 1 false) (.cons (.fld (.var 0) 3 1 false) (.cons (.fld (.var 0) 4 1 false) .nil)))))) (.cons (.var 2) .nil)) <|
       .call [((.var 4), true)] (.inl 56) (.cons (.mk (.cons (.fld (.var 0) 0 1 false) (.cons (.fld (.var 0) 1 1 false) (.cons (.fld (.var 0) 2 1 false) (.cons (.fld (.var 0) 3 1 false) (.cons (.fld (.var 0) 4 1 false) .nil)))))) (.cons (.var 3) .nil)) <|
       .chk [] (.dfd (.not (.var 4))) <|
       .chk [((.ite (.var 4) (.var 5) (.bool false)), true)] (.inb (.var 2) (.fld (.var 0) 4 1 false) 2) <|
       .chk [((.ite (.var 4) (.var 5) (.bool false)), true)] (.inb (.var 3) (.fld (.var 0) 4 1 false) 2) <|
       .chk [((.ite (.var 4) (.var 5) (.bool false)), true)] (.dfd (.bin .sub (.fld (.idx (.fld (.var 0) 4 1 false) (.var 2)) 0 1 false) (.fld (.idx (.fld (.var 0) 4 1 false) (.var 3)) 0 1 false))) <|
       .chk [((.ite (.var 4) (.var 5) (.bool false)), true)] (.dfd (.bin .gtr (.bin .sub (.fld (.idx (.fld (.var 0) 4 1 false) (.var 2)) 0 1 false) (.fld (.idx (.fld (.var 0) 4 1 false) (.var 3)) 0 1 false)) (.int .i64 (1)))) <|
       .chk [] (.dfd (.not (.ite (.var 4) (.var 5) (.bool false)))) <|
       .ite (.ite (.ite (.var 4) (.var 5) (.bool false)) (.bin .gtr (.bin .sub (.fld (.idx (.fld (.var 0) 4 1 false) (.var 2)) 0 1 false) (.fld (.idx (.fld (.var 0) 4 1 false) (.var 3)) 0 1 false)) (.int .i64 (1))) (.bool false)) (
        .ret (.tup (.cons (.bool false) (.cons (.bool true) .nil)))) (
        .chk [] (.dfd (.bin .add (.var 3) (.int .i64 (1)))) <|
        .jmp 0 (.cons (.bin .add (.var 3) (.int .i64 (1))) .nil))) (
       .jmp 1 .nil)) (
      .chk [] (.dfd (.bin .add (.var 2) (.int .i64 (1)))) <|
      .jmp 0 (.cons (.bin .add (.var 2) (.int .i64 (1))) .nil))) (
     .jmp 1 .nil)) (
    .ret (.tup (.cons (.bool true) (.cons (.bool true) .nil)))))
theorem C_spec_AreNear : comp Try.prog sgs 30 = some T_spec_AreNear := by kernel_rfl
def T_laws_qSameB : Tr :=
  .chk [] (.dfd (.len (.var 0))) <|
  .chk [] (.dfd (.len (.var 1))) <|
  .ite (.bin .neq (.len (.var 0)) (.len (.var 1))) (
   .ret (.bool false)) (
   .chk [] (.dfd (.len (.var 0))) <|
   .loop (.cons (.int .i64 (0)) .nil) (
    .chk [] (.dfd (.bin .lss (.var 2) (.len (.var 0)))) <|
    .ite (.bin .lss (.var 2) (.len (.var 0))) (
     .chk [] (.inb (.var 2) (.var 0) 1) <|
     .chk [] (.inb (.var 2) (.var 1) 1) <|
     .chk [] (.dfd (.bbin .neq (.fld (.idx (.var 0) (.var 2)) 0 1 false) (.fld (.idx (.var 1) (.var 2)) 0 1 false))) <|
     .ite (.bbin .neq (.fld (.idx (.var 0) (.var 2)) 0 1 false) (.fld (.idx (.var 1) (.var 2)) 0 1 false)) (
      .ret (.bool false)) (
      .chk [] (.dfd (.bin .add (.var 2) (.int .i64 (1)))) <|
      .jmp 0 (.cons (.bin .add (.var 2) (.int .i64 (1))) .nil))) (
     .jmp 1 .nil)) (
    .ret (.bool true)))
theorem C_laws_qSameB : comp Try.prog sgs 31 = some T_laws_qSameB := by kernel_rfl
def T_spec_DrawNewRenew : Tr :=
  .chk [] (.cells (.var 0) 1) <|
  .call [] (.inl 44) (.cons (.ref (.mk (.cons (.var 0) (.cons (.int .i64 (0)) (.cons (.int .u64 (0)) .nil))))) (.cons (.int .i64 (6)) .nil)) <|
  .chk [] (.dfd (.bin .sub (.proj (.var 1) 0) (.int .i64 (1)))) <|
  .ret (.bin .sub (.proj (.var 1) 0) (.int .i64 (1)))
theorem C_spec_DrawNewRenew : comp Try.prog sgs 32 = some T_spec_DrawNewRenew := by kernel_rfl
def T_impl_NewRenew : Tr :=
  .call [] (.inl 53) (.cons (.var 0) (.cons (.int .i64 (1)) (.cons (.int .i64 (3)) .nil))) <|
  .chk [] (.dfd (.not (.var 1))) <|
  .ite (.not (.var 1)) (
   .ret (.tup (.cons (.mk (.cons (.int .i64 (0)) (.cons (.int .i64 (0)) (.cons (.lst .nil) (.cons (.int .i64 (0)) (.cons (.lst .nil) .nil)))))) (.cons (.bool false) .nil)))) (
   .chk [] (.mkroom (.var 0) 8) <|
   .chk [] (.mkroom (.var 0) 16) <|
   .ret (.tup (.cons (.mk (.cons (.int .i64 (0)) (.cons (.int .i64 (0)) (.cons (.rep (.var 0) (.mk (.cons (.int .i64 (0)) .nil))) (.cons (.int .i64 (0)) (.cons (.rep (.var 0) (.mk (.cons (.int .i64 (0)) (.cons (.int .i64 (0)) .nil)))) .nil)))))) (.cons (.bool true) .nil))))
theorem C_impl_NewRenew : comp Try.prog sgs 33 = some T_impl_NewRenew := by kernel_rfl
def T_spec_NewRenew : Tr :=
  .call [] (.inl 55) (.cons (.var 0) (.cons (.int .i64 (1)) (.cons (.int .i64 (3)) .nil))) <|
  .chk [] (.dfd (.not (.var 1))) <|
  .ite (.not (.var 1)) (
   .ret (.tup (.cons (.mk (.cons (.int .i64 (0)) (.cons (.int .i64 (0)) (.cons (.lst .nil) (.cons (.int .i64 (0)) (.cons (.lst .nil) .nil)))))) (.cons (.bool false) .nil)))) (
   .chk [] (.mkroom (.var 0) 8) <|
   .chk [] (.mkroom (.var 0) 16) <|
   .ret (.tup (.cons (.mk (.cons (.int .i64 (0)) (.cons (.int .i64 (0)) (.cons (.rep (.var 0) (.mk (.cons (.int .i64 (0)) .nil))) (.cons (.int .i64 (0)) (.cons (.rep (.var 0) (.mk (.cons (.int .i64 (0)) (.cons (.int .i64 (0)) .nil)))) .nil)))))) (.cons (.bool true) .nil))))
theorem C_spec_NewRenew : comp Try.prog sgs 34 = some T_spec_NewRenew := by kernel_rfl
def T_laws_szRenewActS : Tr :=
  .chk [] (.dfd (.len (.var 0))) <|
  .chk [] (.dfd (.bin .sub (.var 1) (.len (.var 0)))) <|
  .chk [] (.dfd (.bin .lss (.bin .sub (.var 1) (.len (.var 0))) (.int .i64 (0)))) <|
  .ite (.bin .lss (.bin .sub (.var 1) (.len (.var 0))) (.int .i64 (0))) (
   .ret (.int .i64 (-1))) (
   .ret (.bin .sub (.var 1) (.len (.var 0))))
theorem C_laws_szRenewActS : comp Try.prog sgs 35 = some T_laws_szRenewActS := by kernel_rfl
def T_laws_toRenewActS : Tr :=
  .chk [] (.dfd (.len (.var 0))) <|
  .chk [] (.mkroom (.len (.var 0)) 24) <|
  .loop (.cons (.int .i64 (0)) (.cons (.rep (.len (.var 0)) (.mk (.cons (.int .i64 (0)) (.cons (.int .i64 (0)) (.cons (.int .i64 (0)) .nil))))) .nil)) (
   .chk [] (.dfd (.len (.var 0))) <|
   .chk [] (.dfd (.bin .lss (.var 1) (.len (.var 0)))) <|
   .ite (.bin .lss (.var 1) (.len (.var 0))) (
    .chk [] (.inb (.var 1) (.var 0) 3) <|
    .call [] (.inl 22) (.cons (.fld (.idx (.var 0) (.var 1)) 0 3 true) .nil) <|
    .chk [] (.inb (.var 1) (.var 2) 3) <|
    .chk [] (.flat (.var 3) 3 true) <|
    .chk [] (.flat (.fld (.idx (.var 2) (.var 1)) 0 3 true) 3 true) <|
    .chk [] (.dfd (.bin .add (.var 1) (.int .i64 (1)))) <|
    .jmp 0 (.cons (.bin .add (.var 1) (.int .i64 (1))) (.cons (.set (.var 2) (.var 1) (.put (.idx (.var 2) (.var 1)) 0 (.var 3) true)) .nil))) (
    .jmp 1 (.cons (.var 2) .nil))) (
   .ret (.var 1))
theorem C_laws_toRenewActS : comp Try.prog sgs 36 = some T_laws_toRenewActS := by kernel_rfl
def T_laws_eqBoolS : Tr :=
  .chk [] (.dfd (.len (.var 0))) <|
  .chk [] (.dfd (.len (.var 1))) <|
  .ite (.bin .neq (.len (.var 0)) (.len (.var 1))) (
   .ret (.bool false)) (
   .loop (.cons (.int .i64 (0)) .nil) (
    .chk [] (.dfd (.len (.var 0))) <|
    .chk [] (.dfd (.bin .lss (.var 2) (.len (.var 0)))) <|
    .ite (.bin .lss (.var 2) (.len (.var 0))) (
     .chk [] (.inb (.var 2) (.var 0) 1) <|
     .chk [] (.inb (.var 2) (.var 1) 1) <|
     .chk [] (.dfd (.bbin .neq (.fld (.idx (.var 0) (.var 2)) 0 1 false) (.fld (.idx (.var 1) (.var 2)) 0 1 false))) <|
     .ite (.bbin .neq (.fld (.idx (.var 0) (.var 2)) 0 1 false) (.fld (.idx (.var 1) (.var 2)) 0 1 false)) (
      .ret (.bool false)) (
      .chk [] (.dfd (.bin .add (.var 2) (.int .i64 (1)))) <|
      .jmp 0 (.cons (.bin .add (.var 2) (.int .i64 (1))) .nil))) (
     .jmp 1 .nil)) (
    .ret (.bool true)))
theorem C_laws_eqBoolS : comp Try.prog sgs 37 = some T_laws_eqBoolS := by kernel_rfl
def T_laws_eqRenewActS : Tr :=
  .chk [] (.dfd (.len (.var 0))) <|
  .chk [] (.dfd (.len (.var 1))) <|
  .ite (.bin .neq (.len (.var 0)) (.len (.var 1))) (
   .ret (.bool false)) (
   .loop (.cons (.int .i64 (0)) .nil) (
    .chk [] (.dfd (.len (.var 0))) <|
    .chk [] (.dfd (.bin .lss (.var 2) (.len (.var 0)))) <|
    .ite (.bin .lss (.var 2) (.len (.var 0))) (
     .chk [] (.inb (.var 2) (.var 0) 3) <|
     .chk [] (.inb (.var 2) (.var 1) 3) <|
     .call [] (.inl 85) (.cons (.fld (.idx (.var 0) (.var 2)) 0 3 true) (.cons (.fld (.idx (.var 1) (.var 2)) 0 3 true) .nil)) <|
     .chk [] (.dfd (.not (.var 3))) <|
     .ite (.not (.var 3)) (
      .ret (.bool false)) (
      .chk [] (.dfd (.bin .add (.var 2) (.int .i64 (1)))) <|
      .jmp 0 (.cons (.bin .add (.var 2) (.int .i64 (1))) .nil))) (
     .jmp 1 .nil)) (
    .ret (.bool true)))
theorem C_laws_eqRenewActS : comp Try.prog sgs 38 = some T_laws_eqRenewActS := by kernel_rfl
def T_laws_markRenewActS : Tr :=
  .loop (.cons (.var 1) (.cons (.int .i64 (0)) (.cons (.var 0) .nil))) (
   .chk [] (.dfd (.len (.var 4))) <|
   .chk [] (.dfd (.bin .lss (.var 3) (.len (.var 4)))) <|
   .ite (.bin .lss (.var 3) (.len (.var 4))) (
    .chk [] (.inb (.var 3) (.var 4) 3) <|
    .chk [] (.flat (.var 2) 1 false) <|
    .chk [] (.flat (.fld (.idx (.var 4) (.var 3)) 0 1 false) 1 false) <|
    .chk [] (.dfd (.bin .add (.var 2) (.int .i64 (1)))) <|
    .chk [] (.inb (.var 3) (.set (.var 4) (.var 3) (.put (.idx (.var 4) (.var 3)) 0 (.var 2) true)) 3) <|
    .chk [] (.flat (.bin .add (.var 2) (.int .i64 (1))) 1 false) <|
    .chk [] (.flat (.fld (.idx (.set (.var 4) (.var 3) (.put (.idx (.var 4) (.var 3)) 0 (.var 2) true)) (.var 3)) 1 1 false) 1 false) <|
    .chk [] (.dfd (.bin .add (.bin .add (.var 2) (.int .i64 (1))) (.int .i64 (1)))) <|
    .chk [] (.inb (.var 3) (.set (.set (.var 4) (.var 3) (.put (.idx (.var 4) (.var 3)) 0 (.var 2) true)) (.var 3) (.put (.idx (.set (.var 4) (.var 3) (.put (.idx (.var 4) (.var 3)) 0 (.var 2) true)) (.var 3)) 1 (.bin .add (.var 2) (.int .i64 (1))) true)) 3) <|
    .chk [] (.flat (.bin .add (.bin .add (.var 2) (.int .i64 (1))) (.int .i64 (1))) 1 false) <|
    .chk [] (.flat (.fld (.idx (.set (.set (.var 4) (.var 3) (.put (.idx (.var 4) (.var 3)) 0 (.var 2) true)) (.var 3) (.put (.idx (.set (.var 4) (.var 3) (.put (.idx (.var 4) (.var 3)) 0 (.var 2) true)) (.var 3)) 1 (.bin .add (.var 2) (.int .i64 (1))) true)) (.var 3)) 2 1 false) 1 false) <|
    .chk [] (.dfd (.bin .add (.bin .add (.bin .add (.var 2) (.int .i64 (1))) (.int .i64 (1))) (.int .i64 (1)))) <|
    .chk [] (.dfd (.bin .add (.var 3) (.int .i64 (1)))) <|
    .jmp 0 (.cons (.bin .add (.bin .add (.bin .add (.var 2) (.int .i64 (1))) (.int .i64 (1))) (.int .i64 (1))) (.cons (.bin .add (.var 3) (.int .i64 (1))) (.cons (.set (.set (.set (.var 4) (.var 3) (.put (.idx (.var 4) (.var 3)) 0 (.var 2) true)) (.var 3) (.put (.idx (.set (.var 4) (.var 3) (.put (.idx (.var 4) (.var 3)) 0 (.var 2) true)) (.var 3)) 1 (.bin .add (.var 2) (.int .i64 (1))) true)) (.var 3) (.put (.idx (.set (.set (.var 4) (.var 3) (.put (.idx (.var 4) (.var 3)) 0 (.var 2) true)) (.var 3) (.put (.idx (.set (.var 4) (.var 3) (.put (.idx (.var 4) (.var 3)) 0 (.var 2) true)) (.var 3)) 1 (.bin .add (.var 2) (.int .i64 (1))) true)) (.var 3)) 2 (.bin .add (.bin .add (.var 2) (.int .i64 (1))) (.int .i64 (1))) true)) .nil)))) (
    .jmp 1 (.cons (.var 2) (.cons (.var 4) .nil)))) (
   .ret (.tup (.cons (.var 2) (.cons (.var 3) .nil))))
theorem C_laws_markRenewActS : comp Try.prog sgs 39 = some T_laws_markRenewActS := by kernel_rfl
def T_laws_markBoolS : Tr :=
  .loop (.cons (.var 1) (.cons (.int .i64 (0)) (.cons (.var 0) .nil))) (
   .chk [] (.dfd (.len (.var 4))) <|
   .chk [] (.dfd (.bin .lss (.var 3) (.len (.var 4)))) <|
   .ite (.bin .lss (.var 3) (.len (.var 4))) (
    .chk [] (.nz (.int .i64 (3))) <|
    .chk [] (.dfd (.bin .rem (.var 2) (.int .i64 (3)))) <|
    .chk [] (.dfd (.bin .eql (.bin .rem (.var 2) (.int .i64 (3))) (.int .i64 (0)))) <|
    .chk [] (.inb (.var 3) (.var 4) 1) <|
    .chk [] (.flat (.bin .eql (.bin .rem (.var 2) (.int .i64 (3))) (.int .i64 (0))) 1 false) <|
    .chk [] (.flat (.fld (.idx (.var 4) (.var 3)) 0 1 false) 1 false) <|
    .chk [] (.dfd (.bin .add (.var 2) (.int .i64 (1)))) <|
    .chk [] (.dfd (.bin .add (.var 3) (.int .i64 (1)))) <|
    .jmp 0 (.cons (.bin .add (.var 2) (.int .i64 (1))) (.cons (.bin .add (.var 3) (.int .i64 (1))) (.cons (.set (.var 4) (.var 3) (.put (.idx (.var 4) (.var 3)) 0 (.bin .eql (.bin .rem (.var 2) (.int .i64 (3))) (.int .i64 (0))) false)) .nil)))) (
    .jmp 1 (.cons (.var 2) (.cons (.var 4) .nil)))) (
   .ret (.tup (.cons (.var 2) (.cons (.var 3) .nil))))
theorem C_laws_markBoolS : comp Try.prog sgs 40 = some T_laws_markBoolS := by kernel_rfl
def T_laws_heldBoolS : Tr :=
  .loop (.cons (.var 1) (.cons (.int .i64 (0)) .nil)) (
   .chk [] (.dfd (.len (.var 0))) <|
   .chk [] (.dfd (.bin .lss (.var 3) (.len (.var 0)))) <|
   .ite (.bin .lss (.var 3) (.len (.var 0))) (
    .chk [] (.inb (.var 3) (.var 0) 1) <|
    .chk [] (.nz (.int .i64 (3))) <|
    .chk [] (.dfd (.bin .rem (.var 2) (.int .i64 (3)))) <|
    .chk [] (.dfd (.bin .eql (.bin .rem (.var 2) (.int .i64 (3))) (.int .i64 (0)))) <|
    .chk [] (.dfd (.bbin .neq (.fld (.idx (.var 0) (.var 3)) 0 1 false) (.bin .eql (.bin .rem (.var 2) (.int .i64 (3))) (.int .i64 (0))))) <|
    .ite (.bbin .neq (.fld (.idx (.var 0) (.var 3)) 0 1 false) (.bin .eql (.bin .rem (.var 2) (.int .i64 (3))) (.int .i64 (0)))) (
     .ret (.int .i64 (-1))) (
     .chk [] (.dfd (.bin .add (.var 2) (.int .i64 (1)))) <|
     .chk [] (.dfd (.bin .add (.var 3) (.int .i64 (1)))) <|
     .jmp 0 (.cons (.bin .add (.var 2) (.int .i64 (1))) (.cons (.bin .add (.var 3) (.int .i64 (1))) .nil)))) (
    .jmp 1 (.cons (.var 2) .nil))) (
   .ret (.var 2))
theorem C_laws_heldBoolS : comp Try.prog sgs 41 = some T_laws_heldBoolS := by kernel_rfl
def T___spec_l1Cur__bentRenew : Tr :=
  .call [] (.inl 79) (.cons (.ref (.mk (.cons (.fld (.deref (.var 0)) 0 1 false) (.cons (.fld (.deref (.var 0)) 1 1 false) (.cons (.fld (.deref (.var 0)) 2 1 false) .nil))))) .nil) <|
  .join (
   .call [] (.inl 44) (.cons (.ref (.mk (.cons (.fld (.proj (.var 1) 1) 0 1 false) (.cons (.fld (.proj (.var 1) 1) 1 1 false) (.cons (.fld (.proj (.var 1) 1) 2 1 false) .nil))))) (.cons (.int .i64 (14)) .nil)) <|
   .chk [] (.dfd (.bin .eql (.proj (.var 2) 0) (.int .i64 (0)))) <|
   .ite (.bin .eql (.proj (.var 2) 0) (.int .i64 (0))) (
    .chk [] (.flat (.int .i64 (-1)) 1 false) <|
    .chk [] (.flat (.int .i64 (0)) 1 false) <|
    .chk [] (.flat (.int .i64 (999)) 1 false) <|
    .chk [] (.flat (.int .i64 (1000)) 1 false) <|
    .chk [] (.flat (.int .i64 (1001)) 1 false) <|
    .call [] (.inl 45) (.cons (.ref (.mk (.cons (.fld (.proj (.var 2) 1) 0 1 false) (.cons (.fld (.proj (.var 2) 1) 1 1 false) (.cons (.fld (.proj (.var 2) 1) 2 1 false) .nil))))) (.cons (.lst (.cons (.int .i64 (-1)) (.cons (.int .i64 (0)) (.cons (.int .i64 (999)) (.cons (.int .i64 (1000)) (.cons (.int .i64 (1001)) .nil)))))) .nil)) <|
    .chk [] (.cells (.proj (.var 3) 0) 1) <|
    .jmp 0 (.cons (.fld (.proj (.var 3) 1) 0 1 false) (.cons (.fld (.proj (.var 3) 1) 1 1 false) (.cons (.fld (.proj (.var 3) 1) 2 1 false) (.cons (.proj (.var 3) 0) (.cons (.fld (.proj (.var 1) 0) 3 1 false) (.cons (.fld (.proj (.var 1) 0) 2 1 false) (.cons (.fld (.proj (.var 1) 0) 4 1 false) .nil)))))))) (
    .chk [] (.dfd (.bin .eql (.proj (.var 2) 0) (.int .i64 (1)))) <|
    .ite (.bin .eql (.proj (.var 2) 0) (.int .i64 (1))) (
     .chk [] (.flat (.int .i64 (-1)) 1 false) <|
     .chk [] (.flat (.int .i64 (20)) 1 false) <|
     .chk [] (.flat (.int .i64 (21)) 1 false) <|
     .call [] (.inl 45) (.cons (.ref (.mk (.cons (.fld (.proj (.var 2) 1) 0 1 false) (.cons (.fld (.proj (.var 2) 1) 1 1 false) (.cons (.fld (.proj (.var 2) 1) 2 1 false) .nil))))) (.cons (.lst (.cons (.int .i64 (-1)) (.cons (.int .i64 (20)) (.cons (.int .i64 (21)) .nil)))) .nil)) <|
     .chk [] (.cells (.proj (.var 3) 0) 1) <|
     .jmp 0 (.cons (.fld (.proj (.var 3) 1) 0 1 false) (.cons (.fld (.proj (.var 3) 1) 1 1 false) (.cons (.fld (.proj (.var 3) 1) 2 1 false) (.cons (.fld (.proj (.var 1) 0) 0 1 false) (.cons (.proj (.var 3) 0) (.cons (.fld (.proj (.var 1) 0) 2 1 false) (.cons (.fld (.proj (.var 1) 0) 4 1 false) .nil)))))))) (
     .chk [] (.dfd (.bin .eql (.proj (.var 2) 0) (.int .i64 (2)))) <|
     .ite (.bin .eql (.proj (.var 2) 0) (.int .i64 (2))) (
      .chk [] (.flat (.int .i64 (-6)) 1 false) <|
      .chk [] (.flat (.int .i64 (6)) 1 false) <|
      .chk [] (.flat (.int .i64 (5)) 1 false) <|
      .call [] (.inl 45) (.cons (.ref (.mk (.cons (.fld (.proj (.var 2) 1) 0 1 false) (.cons (.fld (.proj (.var 2) 1) 1 1 false) (.cons (.fld (.proj (.var 2) 1) 2 1 false) .nil))))) (.cons (.lst (.cons (.int .i64 (-6)) (.cons (.int .i64 (6)) (.cons (.int .i64 (5)) .nil)))) .nil)) <|
      .chk [] (.inb (.int .i64 (0)) (.fld (.proj (.var 1) 0) 2 1 false) 1) <|
      .chk [] (.flat (.proj (.var 3) 0) 1 false) <|
      .chk [] (.flat (.fld (.idx (.fld (.proj (.var 1) 0) 2 1 false) (.int .i64 (0))) 0 1 false) 1 false) <|
      .jmp 0 (.cons (.fld (.proj (.var 3) 1) 0 1 false) (.cons (.fld (.proj (.var 3) 1) 1 1 false) (.cons (.fld (.proj (.var 3) 1) 2 1 false) (.cons (.fld (.proj (.var 1) 0) 0 1 false) (.cons (.fld (.proj (.var 1) 0) 3 1 false) (.cons (.set (.fld (.proj (.var 1) 0) 2 1 false) (.int .i64 (0)) (.put (.idx (.fld (.proj (.var 1) 0) 2 1 false) (.int .i64 (0))) 0 (.proj (.var 3) 0) true)) (.cons (.fld (.proj (.var 1) 0) 4 1 false) .nil)))))))) (
      .chk [] (.dfd (.bin .eql (.proj (.var 2) 0) (.int .i64 (3)))) <|
      .ite (.bin .eql (.proj (.var 2) 0) (.int .i64 (3))) (
       .chk [] (.flat (.mk (.cons (.int .i64 (0)) (.cons (.int .i64 (0)) .nil))) 2 true) <|
       .chk [] (.room (.fld (.proj (.var 1) 0) 4 1 false) (.lst (.cons (.mk (.cons (.int .i64 (0)) (.cons (.int .i64 (0)) .nil))) .nil)) 16) <|
       .chk [] (.flatS (.lst (.cons (.mk (.cons (.int .i64 (0)) (.cons (.int .i64 (0)) .nil))) .nil)) 2) <|
       .jmp 0 (.cons (.fld (.proj (.var 2) 1) 0 1 false) (.cons (.fld (.proj (.var 2) 1) 1 1 false) (.cons (.fld (.proj (.var 2) 1) 2 1 false) (.cons (.fld (.proj (.var 1) 0) 0 1 false) (.cons (.fld (.proj (.var 1) 0) 3 1 false) (.cons (.fld (.proj (.var 1) 0) 2 1 false) (.cons (.app (.fld (.proj (.var 1) 0) 4 1 false) (.lst (.cons (.mk (.cons (.int .i64 (0)) (.cons (.int .i64 (0)) .nil))) .nil))) .nil)))))))) (
       .chk [] (.dfd (.bin .eql (.proj (.var 2) 0) (.int .i64 (4)))) <|
       .ite (.bin .eql (.proj (.var 2) 0) (.int .i64 (4))) (
        .call [] (.inl 44) (.cons (.ref (.mk (.cons (.fld (.proj (.var 2) 1) 0 1 false) (.cons (.fld (.proj (.var 2) 1) 1 1 false) (.cons (.fld (.proj (.var 2) 1) 2 1 false) .nil))))) (.cons (.int .i64 (25)) .nil)) <|
        .chk [] (.dfd (.bin .sub (.proj (.var 3) 0) (.int .i64 (1)))) <|
        .chk [] (.flat (.int .i64 (-1)) 1 false) <|
        .chk [] (.flat (.int .i64 (1021)) 1 false) <|
        .call [] (.inl 45) (.cons (.ref (.mk (.cons (.fld (.proj (.var 3) 1) 0 1 false) (.cons (.fld (.proj (.var 3) 1) 1 1 false) (.cons (.fld (.proj (.var 3) 1) 2 1 false) .nil))))) (.cons (.lst (.cons (.int .i64 (-1)) (.cons (.int .i64 (1021)) .nil))) .nil)) <|
        .chk [] (.cells (.bin .sub (.proj (.var 3) 0) (.int .i64 (1))) 1) <|
        .chk [] (.cells (.proj (.var 4) 0) 1) <|
        .chk [] (.inb (.int .i64 (0)) (.fld (.proj (.var 1) 0) 4 1 false) 2) <|
        .chk [] (.flat (.mk (.cons (.bin .sub (.proj (.var 3) 0) (.int .i64 (1))) (.cons (.proj (.var 4) 0) .nil))) 2 true) <|
        .chk [] (.flat (.fld (.idx (.fld (.proj (.var 1) 0) 4 1 false) (.int .i64 (0))) 0 2 true) 2 true) <|
        .jmp 0 (.cons (.fld (.proj (.var 4) 1) 0 1 false) (.cons (.fld (.proj (.var 4) 1) 1 1 false) (.cons (.fld (.proj (.var 4) 1) 2 1 false) (.cons (.fld (.proj (.var 1) 0) 0 1 false) (.cons (.fld (.proj (.var 1) 0) 3 1 false) (.cons (.fld (.proj (.var 1) 0) 2 1 false) (.cons (.set (.fld (.proj (.var 1) 0) 4 1 false) (.int .i64 (0)) (.put (.idx (.fld (.proj (.var 1) 0) 4 1 false) (.int .i64 (0))) 0 (.mk (.cons (.bin .sub (.proj (.var 3) 0) (.int .i64 (1))) (.cons (.proj (.var 4) 0) .nil))) true)) .nil)))))))) (
        .jmp 0 (.cons (.fld (.proj (.var 2) 1) 0 1 false) (.cons (.fld (.proj (.var 2) 1) 1 1 false) (.cons (.fld (.proj (.var 2) 1) 2 1 false) (.cons (.fld (.proj (.var 1) 0) 0 1 false) (.cons (.fld (.proj (.var 1) 0) 3 1 false) (.cons (.fld (.proj (.var 1) 0) 2 1 false) (.cons (.fld (.proj (.var 1) 0) 4 1 false) .nil))))))))))))) (
   .ret (.tup (.cons (.mk (.cons (.var 5) (.cons (.fld (.proj (.var 1) 0) 1 1 false) (.cons (.var 7) (.cons (.var 6) (.cons (.var 8) .nil)))))) (.cons (.mk (.cons (.var 2) (.cons (.var 3) (.cons (.var 4) .nil)))) .nil))))
theorem C___spec_l1Cur__bentRenew : comp Try.prog sgs 42 = some T___spec_l1Cur__bentRenew := by kernel_rfl
def T___spec_l1Cur__renewAct : Tr :=
  .chk [] (.agg (.var 1) 5) <|
  .chk [] (.dfd (.len (.fld (.var 1) 2 1 false))) <|
  .call [] (.inl 44) (.cons (.ref (.mk (.cons (.fld (.deref (.var 0)) 0 1 false) (.cons (.fld (.deref (.var 0)) 1 1 false) (.cons (.fld (.deref (.var 0)) 2 1 false) .nil))))) (.cons (.int .i64 (8)) .nil)) <|
  .join (
   .chk [] (.dfd (.bin .eql (.proj (.var 2) 0) (.int .i64 (0)))) <|
   .ite (.bin .eql (.proj (.var 2) 0) (.int .i64 (0))) (
    .jmp 0 (.cons (.bin .eql (.proj (.var 2) 0) (.int .i64 (0))) .nil)) (
    .chk [] (.dfd (.bin .eql (.proj (.var 2) 0) (.int .i64 (1)))) <|
    .ite (.bin .eql (.proj (.var 2) 0) (.int .i64 (1))) (
     .jmp 0 (.cons (.bin .eql (.proj (.var 2) 0) (.int .i64 (1))) .nil)) (
     .chk [] (.dfd (.bin .eql (.proj (.var 2) 0) (.int .i64 (2)))) <|
     .jmp 0 (.cons (.bin .eql (.proj (.var 2) 0) (.int .i64 (2))) .nil)))) (
   .ite (.var 3) (
    .chk [] (.flat (.int .i64 (1)) 1 false) <|
    .chk [] (.flat (.int .i64 (2)) 1 false) <|
    .chk [] (.flat (.int .i64 (5)) 1 false) <|
    .chk [] (.flat (.int .i64 (9)) 1 false) <|
    .chk [] (.flat (.int .i64 (14)) 1 false) <|
    .chk [] (.flat (.int .i64 (30)) 1 false) <|
    .chk [] (.flat (.int .i64 (50)) 1 false) <|
    .call [] (.inl 45) (.cons (.ref (.mk (.cons (.fld (.proj (.var 2) 1) 0 1 false) (.cons (.fld (.proj (.var 2) 1) 1 1 false) (.cons (.fld (.proj (.var 2) 1) 2 1 false) .nil))))) (.cons (.lst (.cons (.int .i64 (1)) (.cons (.int .i64 (2)) (.cons (.int .i64 (5)) (.cons (.int .i64 (9)) (.cons (.int .i64 (14)) (.cons (.int .i64 (30)) (.cons (.int .i64 (50)) .nil)))))))) .nil)) <|
    .chk [] (.cells (.proj (.var 4) 0) 1) <|
    .ret (.tup (.cons (.mk (.cons (.int .i64 (1)) (.cons (.int .i64 (0)) (.cons (.proj (.var 4) 0) .nil)))) (.cons (.mk (.cons (.fld (.proj (.var 4) 1) 0 1 false) (.cons (.fld (.proj (.var 4) 1) 1 1 false) (.cons (.fld (.proj (.var 4) 1) 2 1 false) .nil)))) .nil)))) (
    .chk [] (.dfd (.bin .eql (.proj (.var 2) 0) (.int .i64 (3)))) <|
    .ite (.bin .eql (.proj (.var 2) 0) (.int .i64 (3))) (
     .call [] (.inl 44) (.cons (.ref (.mk (.cons (.fld (.proj (.var 2) 1) 0 1 false) (.cons (.fld (.proj (.var 2) 1) 1 1 false) (.cons (.fld (.proj (.var 2) 1) 2 1 false) .nil))))) (.cons (.bin .add (.len (.fld (.var 1) 2 1 false)) (.int .i64 (1))) .nil)) <|
     .call [] (.inl 44) (.cons (.ref (.mk (.cons (.fld (.proj (.var 4) 1) 0 1 false) (.cons (.fld (.proj (.var 4) 1) 1 1 false) (.cons (.fld (.proj (.var 4) 1) 2 1 false) .nil))))) (.cons (.int .i64 (11)) .nil)) <|
     .chk [] (.dfd (.bin .sub (.proj (.var 5) 0) (.int .i64 (5)))) <|
     .chk [] (.cells (.proj (.var 4) 0) 1) <|
     .chk [] (.cells (.bin .sub (.proj (.var 5) 0) (.int .i64 (5))) 1) <|
     .ret (.tup (.cons (.mk (.cons (.int .i64 (2)) (.cons (.proj (.var 4) 0) (.cons (.bin .sub (.proj (.var 5) 0) (.int .i64 (5))) .nil)))) (.cons (.mk (.cons (.fld (.proj (.var 5) 1) 0 1 false) (.cons (.fld (.proj (.var 5) 1) 1 1 false) (.cons (.fld (.proj (.var 5) 1) 2 1 false) .nil)))) .nil)))) (
     .join (
      .chk [] (.dfd (.bin .eql (.proj (.var 2) 0) (.int .i64 (4)))) <|
      .ite (.bin .eql (.proj (.var 2) 0) (.int .i64 (4))) (
       .jmp 0 (.cons (.bin .eql (.proj (.var 2) 0) (.int .i64 (4))) .nil)) (
       .chk [] (.dfd (.bin .eql (.proj (.var 2) 0) (.int .i64 (5)))) <|
       .jmp 0 (.cons (.bin .eql (.proj (.var 2) 0) (.int .i64 (5))) .nil))) (
      .ite (.var 4) (
       .call [] (.inl 44) (.cons (.ref (.mk (.cons (.fld (.proj (.var 2) 1) 0 1 false) (.cons (.fld (.proj (.var 2) 1) 1 1 false) (.cons (.fld (.proj (.var 2) 1) 2 1 false) .nil))))) (.cons (.len (.fld (.var 1) 2 1 false)) .nil)) <|
       .chk [] (.cells (.proj (.var 5) 0) 1) <|
       .ret (.tup (.cons (.mk (.cons (.int .i64 (3)) (.cons (.proj (.var 5) 0) (.cons (.int .i64 (0)) .nil)))) (.cons (.mk (.cons (.fld (.proj (.var 5) 1) 0 1 false) (.cons (.fld (.proj (.var 5) 1) 1 1 false) (.cons (.fld (.proj (.var 5) 1) 2 1 false) .nil)))) .nil)))) (
       .ret (.tup (.cons (.mk (.cons (.int .i64 (4)) (.cons (.int .i64 (0)) (.cons (.int .i64 (0)) .nil)))) (.cons (.mk (.cons (.fld (.proj (.var 2) 1) 0 1 false) (.cons (.fld (.proj (.var 2) 1) 1 1 false) (.cons (.fld (.proj (.var 2) 1) 2 1 false) .nil)))) .nil))))))))
theorem C___spec_l1Cur__renewAct : comp Try.prog sgs 43 = some T___spec_l1Cur__renewAct := by kernel_rfl
def T___spec_l1Cur__pick : Tr :=
  .chk [] (.dfd (.bin .leq (.var 1) (.int .i64 (1)))) <|
  .ite (.bin .leq (.var 1) (.int .i64 (1))) (
   .ret (.tup (.cons (.int .i64 (0)) (.cons (.mk (.cons (.fld (.deref (.var 0)) 0 1 false) (.cons (.fld (.deref (.var 0)) 1 1 false) (.cons (.fld (.deref (.var 0)) 2 1 false) .nil)))) .nil)))) (
   .call [] (.inl 86) (.cons (.ref (.mk (.cons (.fld (.deref (.var 0)) 0 1 false) (.cons (.fld (.deref (.var 0)) 1 1 false) (.cons (.fld (.deref (.var 0)) 2 1 false) .nil))))) .nil) <|
   .join (
    .chk [] (.dfd (.bin .gtr (.var 1) (.int .i64 (200)))) <|
    .ite (.bin .gtr (.var 1) (.int .i64 (200))) (
     .chk [] (.dfd (.bin .mul (.proj (.var 2) 0) (.int .i64 (256)))) <|
     .call [] (.inl 86) (.cons (.ref (.mk (.cons (.fld (.proj (.var 2) 1) 0 1 false) (.cons (.fld (.proj (.var 2) 1) 1 1 false) (.cons (.fld (.proj (.var 2) 1) 2 1 false) .nil))))) .nil) <|
     .chk [] (.dfd (.bin .add (.bin .mul (.proj (.var 2) 0) (.int .i64 (256))) (.proj (.var 3) 0))) <|
     .jmp 0 (.cons (.bin .add (.bin .mul (.proj (.var 2) 0) (.int .i64 (256))) (.proj (.var 3) 0)) (.cons (.fld (.proj (.var 3) 1) 0 1 false) (.cons (.fld (.proj (.var 3) 1) 1 1 false) (.cons (.fld (.proj (.var 3) 1) 2 1 false) .nil))))) (
     .jmp 0 (.cons (.proj (.var 2) 0) (.cons (.fld (.proj (.var 2) 1) 0 1 false) (.cons (.fld (.proj (.var 2) 1) 1 1 false) (.cons (.fld (.proj (.var 2) 1) 2 1 false) .nil)))))) (
    .chk [] (.nz (.var 1)) <|
    .chk [] (.dfd (.bin .rem (.var 3) (.var 1))) <|
    .ret (.tup (.cons (.bin .rem (.var 3) (.var 1)) (.cons (.mk (.cons (.var 4) (.cons (.var 5) (.cons (.var 6) .nil)))) .nil)))))
theorem C___spec_l1Cur__pick : comp Try.prog sgs 44 = some T___spec_l1Cur__pick := by kernel_rfl
def T___spec_l1Cur__among : Tr :=
  .chk [] (.dfd (.len (.var 1))) <|
  .call [] (.inl 44) (.cons (.ref (.mk (.cons (.fld (.deref (.var 0)) 0 1 false) (.cons (.fld (.deref (.var 0)) 1 1 false) (.cons (.fld (.deref (.var 0)) 2 1 false) .nil))))) (.cons (.len (.var 1)) .nil)) <|
  .chk [] (.inb (.proj (.var 2) 0) (.var 1) 1) <|
  .ret (.tup (.cons (.fld (.idx (.var 1) (.proj (.var 2) 0)) 0 1 false) (.cons (.mk (.cons (.fld (.proj (.var 2) 1) 0 1 false) (.cons (.fld (.proj (.var 2) 1) 1 1 false) (.cons (.fld (.proj (.var 2) 1) 2 1 false) .nil)))) .nil)))
theorem C___spec_l1Cur__among : comp Try.prog sgs 45 = some T___spec_l1Cur__among := by kernel_rfl
def T_impl_copyRenew : Tr :=
  .chk [] (.agg (.var 0) 5) <|
  .call [] (.inl 87) (.cons (.fld (.var 0) 2 1 false) .nil) <|
  .call [] (.inl 88) (.cons (.fld (.var 0) 4 1 false) .nil) <|
  .ret (.mk (.cons (.fld (.var 0) 0 1 false) (.cons (.fld (.var 0) 1 1 false) (.cons (.var 1) (.cons (.fld (.var 0) 3 1 false) (.cons (.var 2) .nil))))))
theorem C_impl_copyRenew : comp Try.prog sgs 46 = some T_impl_copyRenew := by kernel_rfl
def T___impl_Renew__step : Tr :=
  .chk [] (.agg (.var 1) 3) <|
  .call [] (.inl 89) (.cons (.mk (.cons (.fld (.deref (.var 0)) 1 1 false) .nil)) (.cons (.fld (.deref (.var 0)) 0 1 false) .nil)) <|
  .chk [] (.agg (.var 2) 2) <|
  .chk [] (.cells (.fld (.var 2) 0 1 false) 1) <|
  .join (
   .chk [] (.dfd (.bin .eql (.fld (.var 1) 0 1 false) (.int .i64 (1)))) <|
   .chk [((.bin .eql (.fld (.var 1) 0 1 false) (.int .i64 (1))), true)] (.dfd (.bin .add (.fld (.deref (.var 0)) 0 1 false) (.fld (.var 1) 2 1 false))) <|
   .chk [((.bin .eql (.fld (.var 1) 0 1 false) (.int .i64 (1))), true)] (.dfd (.bin .leq (.bin .add (.fld (.deref (.var 0)) 0 1 false) (.fld (.var 1) 2 1 false)) (.int .i64 (1000)))) <|
   .chk [] (.dfd (.not (.bin .eql (.fld (.var 1) 0 1 false) (.int .i64 (1))))) <|
   .ite (.ite (.bin .eql (.fld (.var 1) 0 1 false) (.int .i64 (1))) (.bin .leq (.bin .add (.fld (.deref (.var 0)) 0 1 false) (.fld (.var 1) 2 1 false)) (.int .i64 (1000))) (.bool false)) (
    .chk [] (.dfd (.bin .add (.fld (.deref (.var 0)) 0 1 false) (.fld (.var 1) 2 1 false))) <|
    .chk [] (.cells (.bin .add (.fld (.deref (.var 0)) 0 1 false) (.fld (.var 1) 2 1 false)) 1) <|
    .jmp 0 (.cons (.bin .add (.fld (.deref (.var 0)) 0 1 false) (.fld (.var 1) 2 1 false)) (.cons (.fld (.deref (.var 0)) 1 1 false) (.cons (.fld (.deref (.var 0)) 2 1 false) (.cons (.fld (.deref (.var 0)) 4 1 false) (.cons (.fld (.deref (.var 0)) 3 1 false) .nil)))))) (
    .chk [] (.dfd (.bin .eql (.fld (.var 1) 0 1 false) (.int .i64 (2)))) <|
    .chk [((.bin .eql (.fld (.var 1) 0 1 false) (.int .i64 (2))), true)] (.dfd (.bin .eql (.fld (.var 1) 1 1 false) (.int .i64 (0)))) <|
    .chk [] (.dfd (.not (.bin .eql (.fld (.var 1) 0 1 false) (.int .i64 (2))))) <|
    .ite (.ite (.bin .eql (.fld (.var 1) 0 1 false) (.int .i64 (2))) (.bin .eql (.fld (.var 1) 1 1 false) (.int .i64 (0))) (.bool false)) (
     .chk [] (.cells (.fld (.var 1) 2 1 false) 1) <|
     .jmp 0 (.cons (.fld (.deref (.var 0)) 0 1 false) (.cons (.fld (.var 1) 2 1 false) (.cons (.fld (.deref (.var 0)) 2 1 false) (.cons (.fld (.deref (.var 0)) 4 1 false) (.cons (.fld (.deref (.var 0)) 3 1 false) .nil)))))) (
     .chk [] (.dfd (.bin .eql (.fld (.var 1) 0 1 false) (.int .i64 (2)))) <|
     .ite (.bin .eql (.fld (.var 1) 0 1 false) (.int .i64 (2))) (
      .chk [] (.dfd (.bin .sub (.fld (.var 1) 1 1 false) (.int .i64 (1)))) <|
      .chk [] (.inb (.bin .sub (.fld (.var 1) 1 1 false) (.int .i64 (1))) (.fld (.deref (.var 0)) 2 1 false) 1) <|
      .chk [] (.flat (.fld (.var 1) 2 1 false) 1 false) <|
      .chk [] (.flat (.fld (.idx (.fld (.deref (.var 0)) 2 1 false) (.bin .sub (.fld (.var 1) 1 1 false) (.int .i64 (1)))) 0 1 false) 1 false) <|
      .jmp 0 (.cons (.fld (.deref (.var 0)) 0 1 false) (.cons (.fld (.deref (.var 0)) 1 1 false) (.cons (.set (.fld (.deref (.var 0)) 2 1 false) (.bin .sub (.fld (.var 1) 1 1 false) (.int .i64 (1))) (.put (.idx (.fld (.deref (.var 0)) 2 1 false) (.bin .sub (.fld (.var 1) 1 1 false) (.int .i64 (1)))) 0 (.fld (.var 1) 2 1 false) true)) (.cons (.fld (.deref (.var 0)) 4 1 false) (.cons (.fld (.deref (.var 0)) 3 1 false) .nil)))))) (
      .chk [] (.dfd (.bin .eql (.fld (.var 1) 0 1 false) (.int .i64 (3)))) <|
      .chk [((.bin .eql (.fld (.var 1) 0 1 false) (.int .i64 (3))), true)] (.dfd (.bin .geq (.fld (.var 2) 0 1 false) (.int .i64 (0)))) <|
      .chk [] (.dfd (.not (.bin .eql (.fld (.var 1) 0 1 false) (.int .i64 (3))))) <|
      .ite (.ite (.bin .eql (.fld (.var 1) 0 1 false) (.int .i64 (3))) (.bin .geq (.fld (.var 2) 0 1 false) (.int .i64 (0))) (.bool false)) (
       .chk [] (.dfd (.bin .add (.fld (.var 2) 0 1 false) (.int .i64 (20)))) <|
       .chk [] (.cells (.fld (.deref (.var 0)) 3 1 false) 1) <|
       .chk [] (.cells (.bin .add (.fld (.var 2) 0 1 false) (.int .i64 (20))) 1) <|
       .chk [] (.inb (.fld (.var 1) 1 1 false) (.fld (.deref (.var 0)) 4 1 false) 2) <|
       .chk [] (.flat (.mk (.cons (.fld (.deref (.var 0)) 3 1 false) (.cons (.bin .add (.fld (.var 2) 0 1 false) (.int .i64 (20))) .nil))) 2 true) <|
       .chk [] (.flat (.fld (.idx (.fld (.deref (.var 0)) 4 1 false) (.fld (.var 1) 1 1 false)) 0 2 true) 2 true) <|
       .jmp 0 (.cons (.fld (.deref (.var 0)) 0 1 false) (.cons (.fld (.deref (.var 0)) 1 1 false) (.cons (.fld (.deref (.var 0)) 2 1 false) (.cons (.set (.fld (.deref (.var 0)) 4 1 false) (.fld (.var 1) 1 1 false) (.put (.idx (.fld (.deref (.var 0)) 4 1 false) (.fld (.var 1) 1 1 false)) 0 (.mk (.cons (.fld (.deref (.var 0)) 3 1 false) (.cons (.bin .add (.fld (.var 2) 0 1 false) (.int .i64 (20))) .nil))) true)) (.cons (.fld (.deref (.var 0)) 3 1 false) .nil)))))) (
       .chk [] (.dfd (.bin .eql (.fld (.var 1) 0 1 false) (.int .i64 (4)))) <|
       .chk [((.bin .eql (.fld (.var 1) 0 1 false) (.int .i64 (4))), true)] (.dfd (.bin .lss (.fld (.deref (.var 0)) 3 1 false) (.int .i64 (20)))) <|
       .chk [] (.dfd (.not (.bin .eql (.fld (.var 1) 0 1 false) (.int .i64 (4))))) <|
       .call [((.ite (.bin .eql (.fld (.var 1) 0 1 false) (.int .i64 (4))) (.bin .lss (.fld (.deref (.var 0)) 3 1 false) (.int .i64 (20))) (.bool false)), true)] (.inl 51) (.cons (.fld (.deref (.var 0)) 4 1 false) (.cons (.fn 90 (.cons (.ref (.mk (.cons (.ref (.mk (.cons (.fld (.deref (.var 0)) 0 1 false) (.cons (.fld (.deref (.var 0)) 1 1 false) (.cons (.fld (.deref (.var 0)) 2 1 false) (.cons (.fld (.deref (.var 0)) 3 1 false) (.cons (.fld (.deref (.var 0)) 4 1 false) .nil))))))) .nil))) (.cons (.ref (.mk (.cons (.fld (.var 2) 0 1 false) .nil))) .nil))) .nil)) <|
       .chk [((.ite (.bin .eql (.fld (.var 1) 0 1 false) (.int .i64 (4))) (.bin .lss (.fld (.deref (.var 0)) 3 1 false) (.int .i64 (20))) (.bool false)), true)] (.dfd (.not (.var 3))) <|
       .chk [] (.dfd (.not (.ite (.bin .eql (.fld (.var 1) 0 1 false) (.int .i64 (4))) (.bin .lss (.fld (.deref (.var 0)) 3 1 false) (.int .i64 (20))) (.bool false)))) <|
       .ite (.ite (.ite (.bin .eql (.fld (.var 1) 0 1 false) (.int .i64 (4))) (.bin .lss (.fld (.deref (.var 0)) 3 1 false) (.int .i64 (20))) (.bool false)) (.not (.var 3)) (.bool false)) (
        .chk [] (.dfd (.bin .add (.fld (.deref (.var 0)) 3 1 false) (.int .i64 (1)))) <|
        .chk [] (.cells (.bin .add (.fld (.deref (.var 0)) 3 1 false) (.int .i64 (1))) 1) <|
        .jmp 0 (.cons (.fld (.deref (.var 0)) 0 1 false) (.cons (.fld (.deref (.var 0)) 1 1 false) (.cons (.fld (.deref (.var 0)) 2 1 false) (.cons (.fld (.deref (.var 0)) 4 1 false) (.cons (.bin .add (.fld (.deref (.var 0)) 3 1 false) (.int .i64 (1))) .nil)))))) (
        .ret (.tup (.cons (.bool false) (.cons (.mk (.cons (.fld (.deref (.var 0)) 0 1 false) (.cons (.fld (.deref (.var 0)) 1 1 false) (.cons (.fld (.deref (.var 0)) 2 1 false) (.cons (.fld (.deref (.var 0)) 3 1 false) (.cons (.fld (.deref (.var 0)) 4 1 false) .nil)))))) .nil))))))))) (
   .ret (.tup (.cons (.bool true) (.cons (.mk (.cons (.var 3) (.cons (.var 4) (.cons (.var 5) (.cons (.var 7) (.cons (.var 6) .nil)))))) .nil))))
theorem C___impl_Renew__step : comp Try.prog sgs 47 = some T___impl_Renew__step := by kernel_rfl
def T_spec_GoodRenewAct : Tr :=
  .chk [] (.agg (.var 0) 5) <|
  .chk [] (.agg (.var 1) 3) <|
  .call [] (.inl 17) (.cons (.mk (.cons (.fld (.var 0) 0 1 false) (.cons (.fld (.var 0) 1 1 false) (.cons (.fld (.var 0) 2 1 false) (.cons (.fld (.var 0) 3 1 false) (.cons (.fld (.var 0) 4 1 false) .nil)))))) .nil) <|
  .call [((.var 2), true)] (.inl 82) (.cons (.mk (.cons (.fld (.var 0) 0 1 false) (.cons (.fld (.var 0) 1 1 false) (.cons (.fld (.var 0) 2 1 false) (.cons (.fld (.var 0) 3 1 false) (.cons (.fld (.var 0) 4 1 false) .nil)))))) (.cons (.mk (.cons (.fld (.var 1) 0 1 false) (.cons (.fld (.var 1) 1 1 false) (.cons (.fld (.var 1) 2 1 false) .nil)))) .nil)) <|
  .chk [] (.dfd (.not (.var 2))) <|
  .ret (.ite (.var 2) (.var 3) (.bool false))
theorem C_spec_GoodRenewAct : comp Try.prog sgs 48 = some T_spec_GoodRenewAct := by kernel_rfl
def T_spec_l28Do : Tr :=
  .chk [] (.agg (.var 1) 3) <|
  .join (
   .chk [] (.dfd (.bin .eql (.fld (.var 1) 0 1 false) (.int .i64 (1)))) <|
   .ite (.bin .eql (.fld (.var 1) 0 1 false) (.int .i64 (1))) (
    .chk [] (.dfd (.bin .add (.fld (.var 0) 0 1 false) (.fld (.var 1) 2 1 false))) <|
    .chk [] (.dfd (.bin .gtr (.bin .add (.fld (.var 0) 0 1 false) (.fld (.var 1) 2 1 false)) (.int .i64 (1000)))) <|
    .ite (.bin .gtr (.bin .add (.fld (.var 0) 0 1 false) (.fld (.var 1) 2 1 false)) (.int .i64 (1000))) (
     .ret (.tup (.cons (.mk (.cons (.fld (.var 0) 0 1 false) (.cons (.fld (.var 0) 1 1 false) (.cons (.fld (.var 0) 2 1 false) (.cons (.fld (.var 0) 3 1 false) (.cons (.fld (.var 0) 4 1 false) .nil)))))) (.cons (.bool false) .nil)))) (
     .chk [] (.dfd (.bin .add (.fld (.var 0) 0 1 false) (.fld (.var 1) 2 1 false))) <|
     .chk [] (.cells (.bin .add (.fld (.var 0) 0 1 false) (.fld (.var 1) 2 1 false)) 1) <|
     .jmp 0 (.cons (.bin .add (.fld (.var 0) 0 1 false) (.fld (.var 1) 2 1 false)) (.cons (.fld (.var 0) 1 1 false) (.cons (.fld (.var 0) 2 1 false) (.cons (.fld (.var 0) 4 1 false) (.cons (.fld (.var 0) 3 1 false) .nil))))))) (
    .chk [] (.dfd (.bin .eql (.fld (.var 1) 0 1 false) (.int .i64 (2)))) <|
    .ite (.bin .eql (.fld (.var 1) 0 1 false) (.int .i64 (2))) (
     .chk [] (.dfd (.bin .eql (.fld (.var 1) 1 1 false) (.int .i64 (0)))) <|
     .ite (.bin .eql (.fld (.var 1) 1 1 false) (.int .i64 (0))) (
      .chk [] (.cells (.fld (.var 1) 2 1 false) 1) <|
      .jmp 0 (.cons (.fld (.var 0) 0 1 false) (.cons (.fld (.var 1) 2 1 false) (.cons (.fld (.var 0) 2 1 false) (.cons (.fld (.var 0) 4 1 false) (.cons (.fld (.var 0) 3 1 false) .nil)))))) (
      .chk [] (.dfd (.bin .sub (.fld (.var 1) 1 1 false) (.int .i64 (1)))) <|
      .chk [] (.inb (.bin .sub (.fld (.var 1) 1 1 false) (.int .i64 (1))) (.fld (.var 0) 2 1 false) 1) <|
      .chk [] (.flat (.fld (.var 1) 2 1 false) 1 false) <|
      .chk [] (.flat (.fld (.idx (.fld (.var 0) 2 1 false) (.bin .sub (.fld (.var 1) 1 1 false) (.int .i64 (1)))) 0 1 false) 1 false) <|
      .jmp 0 (.cons (.fld (.var 0) 0 1 false) (.cons (.fld (.var 0) 1 1 false) (.cons (.set (.fld (.var 0) 2 1 false) (.bin .sub (.fld (.var 1) 1 1 false) (.int .i64 (1))) (.put (.idx (.fld (.var 0) 2 1 false) (.bin .sub (.fld (.var 1) 1 1 false) (.int .i64 (1)))) 0 (.fld (.var 1) 2 1 false) true)) (.cons (.fld (.var 0) 4 1 false) (.cons (.fld (.var 0) 3 1 false) .nil))))))) (
     .chk [] (.dfd (.bin .eql (.fld (.var 1) 0 1 false) (.int .i64 (3)))) <|
     .ite (.bin .eql (.fld (.var 1) 0 1 false) (.int .i64 (3))) (
      .call [] (.inl 91) (.cons (.mk (.cons (.fld (.var 0) 0 1 false) (.cons (.fld (.var 0) 1 1 false) (.cons (.fld (.var 0) 2 1 false) (.cons (.fld (.var 0) 3 1 false) (.cons (.fld (.var 0) 4 1 false) .nil)))))) (.cons (.mk (.cons (.fld (.var 0) 1 1 false) .nil)) .nil)) <|
      .chk [] (.dfd (.bin .lss (.var 2) (.int .i64 (0)))) <|
      .ite (.bin .lss (.var 2) (.int .i64 (0))) (
       .ret (.tup (.cons (.mk (.cons (.fld (.var 0) 0 1 false) (.cons (.fld (.var 0) 1 1 false) (.cons (.fld (.var 0) 2 1 false) (.cons (.fld (.var 0) 3 1 false) (.cons (.fld (.var 0) 4 1 false) .nil)))))) (.cons (.bool false) .nil)))) (
       .chk [] (.dfd (.bin .add (.var 2) (.int .i64 (20)))) <|
       .chk [] (.cells (.fld (.var 0) 3 1 false) 1) <|
       .chk [] (.cells (.bin .add (.var 2) (.int .i64 (20))) 1) <|
       .chk [] (.inb (.fld (.var 1) 1 1 false) (.fld (.var 0) 4 1 false) 2) <|
       .chk [] (.flat (.mk (.cons (.fld (.var 0) 3 1 false) (.cons (.bin .add (.var 2) (.int .i64 (20))) .nil))) 2 true) <|
       .chk [] (.flat (.fld (.idx (.fld (.var 0) 4 1 false) (.fld (.var 1) 1 1 false)) 0 2 true) 2 true) <|
       .jmp 0 (.cons (.fld (.var 0) 0 1 false) (.cons (.fld (.var 0) 1 1 false) (.cons (.fld (.var 0) 2 1 false) (.cons (.set (.fld (.var 0) 4 1 false) (.fld (.var 1) 1 1 false) (.put (.idx (.fld (.var 0) 4 1 false) (.fld (.var 1) 1 1 false)) 0 (.mk (.cons (.fld (.var 0) 3 1 false) (.cons (.bin .add (.var 2) (.int .i64 (20))) .nil))) true)) (.cons (.fld (.var 0) 3 1 false) .nil))))))) (
      .call [] (.inl 92) (.cons (.mk (.cons (.fld (.var 0) 0 1 false) (.cons (.fld (.var 0) 1 1 false) (.cons (.fld (.var 0) 2 1 false) (.cons (.fld (.var 0) 3 1 false) (.cons (.fld (.var 0) 4 1 false) .nil)))))) .nil) <|
      .chk [] (.dfd (.not (.var 2))) <|
      .ite (.not (.var 2)) (
       .ret (.tup (.cons (.mk (.cons (.fld (.var 0) 0 1 false) (.cons (.fld (.var 0) 1 1 false) (.cons (.fld (.var 0) 2 1 false) (.cons (.fld (.var 0) 3 1 false) (.cons (.fld (.var 0) 4 1 false) .nil)))))) (.cons (.bool false) .nil)))) (
       .chk [] (.dfd (.bin .add (.fld (.var 0) 3 1 false) (.int .i64 (1)))) <|
       .chk [] (.cells (.bin .add (.fld (.var 0) 3 1 false) (.int .i64 (1))) 1) <|
       .jmp 0 (.cons (.fld (.var 0) 0 1 false) (.cons (.fld (.var 0) 1 1 false) (.cons (.fld (.var 0) 2 1 false) (.cons (.fld (.var 0) 4 1 false) (.cons (.bin .add (.fld (.var 0) 3 1 false) (.int .i64 (1))) .nil)))))))))) (
   .ret (.tup (.cons (.mk (.cons (.var 2) (.cons (.var 3) (.cons (.var 4) (.cons (.var 6) (.cons (.var 5) .nil)))))) (.cons (.bool true) .nil))))
theorem C_spec_l28Do : comp Try.prog sgs 49 = some T_spec_l28Do := by kernel_rfl
def T_spec_l28Own : Tr :=
  .chk [] (.agg (.var 0) 5) <|
  .chk [] (.room (.lst .nil) (.fld (.var 0) 2 1 false) 8) <|
  .chk [] (.flatS (.fld (.var 0) 2 1 false) 1) <|
  .chk [] (.room (.lst .nil) (.fld (.var 0) 4 1 false) 16) <|
  .chk [] (.flatS (.fld (.var 0) 4 1 false) 2) <|
  .ret (.mk (.cons (.fld (.var 0) 0 1 false) (.cons (.fld (.var 0) 1 1 false) (.cons (.app (.lst .nil) (.fld (.var 0) 2 1 false)) (.cons (.fld (.var 0) 3 1 false) (.cons (.app (.lst .nil) (.fld (.var 0) 4 1 false)) .nil))))))
theorem C_spec_l28Own : comp Try.prog sgs 50 = some T_spec_l28Own := by kernel_rfl
def T_slices_ContainsFunc___impl_VLease_impl_VLease_ : Tr :=
  .call [] (.inl 93) (.cons (.var 0) (.cons (.var 1) .nil)) <|
  .chk [] (.dfd (.bin .geq (.var 2) (.int .i64 (0)))) <|
  .ret (.bin .geq (.var 2) (.int .i64 (0)))
theorem C_slices_ContainsFunc___impl_VLease_impl_VLease_ : comp Try.prog sgs 51 = some T_slices_ContainsFunc___impl_VLease_impl_VLease_ := by kernel_rfl
def T_impl_SoundRenew_1 : Tr :=
  .chk [] (.agg (.var 0) 2) <|
  .chk [] (.isref (.var 1) 0) <|
  .chk [] (.isref (.var 1) 4) <|
  .chk [] (.dfd (.bin .sub (.fld (.deref (.var 1)) 3 1 false) (.int .i64 (1)))) <|
  .chk [] (.dfd (.bin .lss (.fld (.var 0) 0 1 false) (.bin .sub (.fld (.deref (.var 1)) 3 1 false) (.int .i64 (1))))) <|
  .chk [((.bin .lss (.fld (.var 0) 0 1 false) (.bin .sub (.fld (.deref (.var 1)) 3 1 false) (.int .i64 (1)))), true)] (.isref (.var 1) 0) <|
  .chk [((.bin .lss (.fld (.var 0) 0 1 false) (.bin .sub (.fld (.deref (.var 1)) 3 1 false) (.int .i64 (1)))), true)] (.isref (.var 1) 1) <|
  .chk [((.bin .lss (.fld (.var 0) 0 1 false) (.bin .sub (.fld (.deref (.var 1)) 3 1 false) (.int .i64 (1)))), true)] (.dfd (.bin .geq (.fld (.var 0) 1 1 false) (.fld (.deref (.var 1)) 0 1 false))) <|
  .chk [] (.dfd (.not (.bin .lss (.fld (.var 0) 0 1 false) (.bin .sub (.fld (.deref (.var 1)) 3 1 false) (.int .i64 (1)))))) <|
  .ret (.ite (.bin .lss (.fld (.var 0) 0 1 false) (.bin .sub (.fld (.deref (.var 1)) 3 1 false) (.int .i64 (1)))) (.bin .geq (.fld (.var 0) 1 1 false) (.fld (.deref (.var 1)) 0 1 false)) (.bool false))
theorem C_impl_SoundRenew_1 : comp Try.prog sgs 52 = some T_impl_SoundRenew_1 := by kernel_rfl
def T_impl_within : Tr :=
  .chk [] (.dfd (.bin .geq (.var 0) (.var 1))) <|
  .chk [((.bin .geq (.var 0) (.var 1)), true)] (.dfd (.bin .leq (.var 0) (.var 2))) <|
  .chk [] (.dfd (.not (.bin .geq (.var 0) (.var 1)))) <|
  .ret (.ite (.bin .geq (.var 0) (.var 1)) (.bin .leq (.var 0) (.var 2)) (.bool false))
theorem C_impl_within : comp Try.prog sgs 53 = some T_impl_within := by kernel_rfl
def T__impl_Renew__usable : Tr :=
  .chk [] (.agg (.var 0) 5) <|
  .chk [] (.inb (.var 1) (.fld (.var 0) 2 1 false) 1) <|
  .call [] (.inl 89) (.cons (.fld (.idx (.fld (.var 0) 2 1 false) (.var 1)) 0 1 true) (.cons (.fld (.var 0) 0 1 false) .nil)) <|
  .chk [] (.agg (.var 2) 2) <|
  .chk [] (.inb (.var 1) (.fld (.var 0) 4 1 false) 2) <|
  .chk [] (.dfd (.bin .lss (.fld (.var 2) 1 1 false) (.fld (.idx (.fld (.var 0) 4 1 false) (.var 1)) 1 1 false))) <|
  .ret (.bin .lss (.fld (.var 2) 1 1 false) (.fld (.idx (.fld (.var 0) 4 1 false) (.var 1)) 1 1 false))
theorem C__impl_Renew__usable : comp Try.prog sgs 54 = some T__impl_Renew__usable := by kernel_rfl
def T_spec_l1In : Tr :=
  .chk [] (.dfd (.bin .geq (.var 0) (.var 1))) <|
  .chk [((.bin .geq (.var 0) (.var 1)), true)] (.dfd (.bin .leq (.var 0) (.var 2))) <|
  .chk [] (.dfd (.not (.bin .geq (.var 0) (.var 1)))) <|
  .ret (.ite (.bin .geq (.var 0) (.var 1)) (.bin .leq (.var 0) (.var 2)) (.bool false))
theorem C_spec_l1In : comp Try.prog sgs 55 = some T_spec_l1In := by kernel_rfl
def T_spec_l28Usable : Tr :=
  .chk [] (.agg (.var 0) 5) <|
  .chk [] (.inb (.var 1) (.fld (.var 0) 2 1 false) 1) <|
  .call [] (.inl 94) (.cons (.mk (.cons (.fld (.var 0) 0 1 false) (.cons (.fld (.var 0) 1 1 false) (.cons (.fld (.var 0) 2 1 false) (.cons (.fld (.var 0) 3 1 false) (.cons (.fld (.var 0) 4 1 false) .nil)))))) (.cons (.fld (.idx (.fld (.var 0) 2 1 false) (.var 1)) 0 1 true) .nil)) <|
  .chk [] (.inb (.var 1) (.fld (.var 0) 4 1 false) 2) <|
  .chk [] (.dfd (.bin .lss (.var 2) (.fld (.idx (.fld (.var 0) 4 1 false) (.var 1)) 1 1 false))) <|
  .ret (.bin .lss (.var 2) (.fld (.idx (.fld (.var 0) 4 1 false) (.var 1)) 1 1 false))
theorem C_spec_l28Usable : comp Try.prog sgs 56 = some T_spec_l28Usable := by kernel_rfl
def T_impl_GoodClock : Tr :=
  .chk [] (.agg (.var 0) 1) <|
  .call [] (.inl 53) (.cons (.fld (.var 0) 0 1 false) (.cons (.int .i64 (-5)) (.cons (.int .i64 (5)) .nil))) <|
  .ret (.var 1)
theorem C_impl_GoodClock : comp Try.prog sgs 57 = some T_impl_GoodClock := by kernel_rfl
def T_slices_ContainsFunc___impl_Clock_impl_Clock_ : Tr :=
  .call [] (.inl 95) (.cons (.var 0) (.cons (.var 1) .nil)) <|
  .chk [] (.dfd (.bin .geq (.var 2) (.int .i64 (0)))) <|
  .ret (.bin .geq (.var 2) (.int .i64 (0)))
theorem C_slices_ContainsFunc___impl_Clock_impl_Clock_ : comp Try.prog sgs 58 = some T_slices_ContainsFunc___impl_Clock_impl_Clock_ := by kernel_rfl
def T_impl_GoodRenew_1 : Tr :=
  .chk [] (.agg (.var 0) 1) <|
  .call [] (.inl 57) (.cons (.mk (.cons (.fld (.var 0) 0 1 false) .nil)) .nil) <|
  .chk [] (.dfd (.not (.var 1))) <|
  .ret (.not (.var 1))
theorem C_impl_GoodRenew_1 : comp Try.prog sgs 59 = some T_impl_GoodRenew_1 := by kernel_rfl
def T_impl_GoodRenew_2 : Tr :=
  .chk [] (.agg (.var 0) 2) <|
  .chk [] (.isref (.var 1) 0) <|
  .chk [] (.isref (.var 1) 4) <|
  .call [] (.inl 53) (.cons (.fld (.var 0) 0 1 false) (.cons (.int .i64 (0)) (.cons (.fld (.deref (.var 1)) 3 1 false) .nil))) <|
  .chk [] (.dfd (.not (.var 2))) <|
  .call [((.not (.var 2)), false)] (.inl 53) (.cons (.fld (.var 0) 1 1 false) (.cons (.int .i64 (0)) (.cons (.int .i64 (1020)) .nil))) <|
  .chk [((.not (.var 2)), false)] (.dfd (.not (.var 3))) <|
  .chk [] (.dfd (.not (.not (.var 2)))) <|
  .ret (.ite (.not (.var 2)) (.bool true) (.not (.var 3)))
theorem C_impl_GoodRenew_2 : comp Try.prog sgs 60 = some T_impl_GoodRenew_2 := by kernel_rfl
def T_spec_GoodClock : Tr :=
  .chk [] (.agg (.var 0) 1) <|
  .call [] (.inl 64) (.cons (.mk (.cons (.fld (.var 0) 0 1 false) .nil)) .nil) <|
  .ret (.var 1)
theorem C_spec_GoodClock : comp Try.prog sgs 61 = some T_spec_GoodClock := by kernel_rfl
def T_spec_l28Clocks : Tr :=
  .chk [] (.dfd (.len (.var 0))) <|
  .loop (.cons (.int .i64 (0)) .nil) (
   .chk [] (.dfd (.bin .lss (.var 1) (.len (.var 0)))) <|
   .ite (.bin .lss (.var 1) (.len (.var 0))) (
    .chk [] (.inb (.var 1) (.var 0) 1) <|
    .chk [] (.agg (.fld (.idx (.var 0) (.var 1)) 0 1 true) 1) <|
    .call [] (.inl 61) (.cons (.mk (.cons (.fld (.fld (.idx (.var 0) (.var 1)) 0 1 true) 0 1 false) .nil)) .nil) <|
    .chk [] (.dfd (.not (.var 2))) <|
    .ite (.not (.var 2)) (
     .ret (.bool false)) (
     .chk [] (.dfd (.bin .add (.var 1) (.int .i64 (1)))) <|
     .jmp 0 (.cons (.bin .add (.var 1) (.int .i64 (1))) .nil))) (
    .jmp 1 .nil)) (
   .chk [] (.dfd (.len (.var 0))) <|
   .call [] (.inl 55) (.cons (.len (.var 0)) (.cons (.int .i64 (1)) (.cons (.int .i64 (3)) .nil))) <|
   .ret (.var 1))
theorem C_spec_l28Clocks : comp Try.prog sgs 62 = some T_spec_l28Clocks := by kernel_rfl
def T__impl_Renew__isRenewAct : Tr :=
  .chk [] (.agg (.var 0) 5) <|
  .chk [] (.agg (.var 1) 3) <|
  .chk [] (.dfd (.bin .eql (.fld (.var 1) 0 1 false) (.int .i64 (1)))) <|
  .ite (.bin .eql (.fld (.var 1) 0 1 false) (.int .i64 (1))) (
   .chk [] (.dfd (.bin .eql (.fld (.var 1) 1 1 false) (.int .i64 (0)))) <|
   .call [((.bin .eql (.fld (.var 1) 1 1 false) (.int .i64 (0))), true)] (.inl 53) (.cons (.fld (.var 1) 2 1 false) (.cons (.int .i64 (1)) (.cons (.int .i64 (50)) .nil))) <|
   .chk [] (.dfd (.not (.bin .eql (.fld (.var 1) 1 1 false) (.int .i64 (0))))) <|
   .ret (.ite (.bin .eql (.fld (.var 1) 1 1 false) (.int .i64 (0))) (.var 2) (.bool false))) (
   .chk [] (.dfd (.bin .eql (.fld (.var 1) 0 1 false) (.int .i64 (2)))) <|
   .ite (.bin .eql (.fld (.var 1) 0 1 false) (.int .i64 (2))) (
    .chk [] (.dfd (.len (.fld (.var 0) 2 1 false))) <|
    .call [] (.inl 53) (.cons (.fld (.var 1) 1 1 false) (.cons (.int .i64 (0)) (.cons (.len (.fld (.var 0) 2 1 false)) .nil))) <|
    .chk [((.var 2), true)] (.cells (.fld (.var 1) 2 1 false) 1) <|
    .call [((.var 2), true)] (.inl 57) (.cons (.mk (.cons (.fld (.var 1) 2 1 false) .nil)) .nil) <|
    .chk [] (.dfd (.not (.var 2))) <|
    .ret (.ite (.var 2) (.var 3) (.bool false))) (
    .chk [] (.dfd (.bin .eql (.fld (.var 1) 0 1 false) (.int .i64 (3)))) <|
    .ite (.bin .eql (.fld (.var 1) 0 1 false) (.int .i64 (3))) (
     .chk [] (.dfd (.len (.fld (.var 0) 2 1 false))) <|
     .call [] (.inl 53) (.cons (.fld (.var 1) 1 1 false) (.cons (.int .i64 (0)) (.cons (.bin .sub (.len (.fld (.var 0) 2 1 false)) (.int .i64 (1))) .nil))) <|
     .chk [((.var 2), true)] (.dfd (.bin .eql (.fld (.var 1) 2 1 false) (.int .i64 (0)))) <|
     .chk [] (.dfd (.not (.var 2))) <|
     .ret (.ite (.var 2) (.bin .eql (.fld (.var 1) 2 1 false) (.int .i64 (0))) (.bool false))) (
     .chk [] (.dfd (.bin .eql (.fld (.var 1) 0 1 false) (.int .i64 (4)))) <|
     .ite (.bin .eql (.fld (.var 1) 0 1 false) (.int .i64 (4))) (
      .chk [] (.dfd (.bin .eql (.fld (.var 1) 1 1 false) (.int .i64 (0)))) <|
      .chk [((.bin .eql (.fld (.var 1) 1 1 false) (.int .i64 (0))), true)] (.dfd (.bin .eql (.fld (.var 1) 2 1 false) (.int .i64 (0)))) <|
      .chk [] (.dfd (.not (.bin .eql (.fld (.var 1) 1 1 false) (.int .i64 (0))))) <|
      .ret (.ite (.bin .eql (.fld (.var 1) 1 1 false) (.int .i64 (0))) (.bin .eql (.fld (.var 1) 2 1 false) (.int .i64 (0))) (.bool false))) (
      .ret (.bool false)))))
theorem C__impl_Renew__isRenewAct : comp Try.prog sgs 63 = some T__impl_Renew__isRenewAct := by kernel_rfl
def T_spec_l2Clock : Tr :=
  .chk [] (.agg (.var 0) 1) <|
  .call [] (.inl 55) (.cons (.fld (.var 0) 0 1 false) (.cons (.int .i64 (-5)) (.cons (.int .i64 (5)) .nil))) <|
  .ret (.var 1)
theorem C_spec_l2Clock : comp Try.prog sgs 64 = some T_spec_l2Clock := by kernel_rfl
def T_spec_l2True : Tr :=
  .call [] (.inl 55) (.cons (.var 0) (.cons (.int .i64 (0)) (.cons (.int .i64 (100000)) .nil))) <|
  .ret (.var 1)
theorem C_spec_l2True : comp Try.prog sgs 65 = some T_spec_l2True := by kernel_rfl
def T_spec_l2At : Tr :=
  .chk [] (.agg (.var 0) 1) <|
  .chk [] (.dfd (.bin .add (.var 1) (.fld (.var 0) 0 1 false))) <|
  .chk [] (.dfd (.bin .sub (.bin .add (.var 1) (.fld (.var 0) 0 1 false)) (.int .i64 (5)))) <|
  .chk [] (.dfd (.bin .add (.var 1) (.fld (.var 0) 0 1 false))) <|
  .chk [] (.dfd (.bin .add (.bin .add (.var 1) (.fld (.var 0) 0 1 false)) (.int .i64 (5)))) <|
  .chk [] (.cells (.bin .sub (.bin .add (.var 1) (.fld (.var 0) 0 1 false)) (.int .i64 (5))) 1) <|
  .chk [] (.cells (.bin .add (.bin .add (.var 1) (.fld (.var 0) 0 1 false)) (.int .i64 (5))) 1) <|
  .ret (.mk (.cons (.bin .sub (.bin .add (.var 1) (.fld (.var 0) 0 1 false)) (.int .i64 (5))) (.cons (.bin .add (.bin .add (.var 1) (.fld (.var 0) 0 1 false)) (.int .i64 (5))) .nil)))
theorem C_spec_l2At : comp Try.prog sgs 66 = some T_spec_l2At := by kernel_rfl
def T_laws_szClockS : Tr :=
  .chk [] (.dfd (.len (.var 0))) <|
  .chk [] (.dfd (.bin .sub (.var 1) (.len (.var 0)))) <|
  .chk [] (.dfd (.bin .lss (.bin .sub (.var 1) (.len (.var 0))) (.int .i64 (0)))) <|
  .ite (.bin .lss (.bin .sub (.var 1) (.len (.var 0))) (.int .i64 (0))) (
   .ret (.int .i64 (-1))) (
   .ret (.bin .sub (.var 1) (.len (.var 0))))
theorem C_laws_szClockS : comp Try.prog sgs 67 = some T_laws_szClockS := by kernel_rfl
def T_laws_szVLeaseS : Tr :=
  .chk [] (.dfd (.len (.var 0))) <|
  .chk [] (.dfd (.bin .sub (.var 1) (.len (.var 0)))) <|
  .chk [] (.dfd (.bin .lss (.bin .sub (.var 1) (.len (.var 0))) (.int .i64 (0)))) <|
  .ite (.bin .lss (.bin .sub (.var 1) (.len (.var 0))) (.int .i64 (0))) (
   .ret (.int .i64 (-1))) (
   .ret (.bin .sub (.var 1) (.len (.var 0))))
theorem C_laws_szVLeaseS : comp Try.prog sgs 68 = some T_laws_szVLeaseS := by kernel_rfl
def T_laws_toClock : Tr :=
  .chk [] (.agg (.var 0) 1) <|
  .chk [] (.cells (.fld (.var 0) 0 1 false) 1) <|
  .ret (.mk (.cons (.fld (.var 0) 0 1 false) .nil))
theorem C_laws_toClock : comp Try.prog sgs 69 = some T_laws_toClock := by kernel_rfl
def T_laws_toClockS : Tr :=
  .chk [] (.dfd (.len (.var 0))) <|
  .chk [] (.mkroom (.len (.var 0)) 8) <|
  .loop (.cons (.int .i64 (0)) (.cons (.rep (.len (.var 0)) (.mk (.cons (.int .i64 (0)) .nil))) .nil)) (
   .chk [] (.dfd (.len (.var 0))) <|
   .chk [] (.dfd (.bin .lss (.var 1) (.len (.var 0)))) <|
   .ite (.bin .lss (.var 1) (.len (.var 0))) (
    .chk [] (.inb (.var 1) (.var 0) 1) <|
    .call [] (.inl 69) (.cons (.fld (.idx (.var 0) (.var 1)) 0 1 true) .nil) <|
    .chk [] (.inb (.var 1) (.var 2) 1) <|
    .chk [] (.flat (.var 3) 1 true) <|
    .chk [] (.flat (.fld (.idx (.var 2) (.var 1)) 0 1 true) 1 true) <|
    .chk [] (.dfd (.bin .add (.var 1) (.int .i64 (1)))) <|
    .jmp 0 (.cons (.bin .add (.var 1) (.int .i64 (1))) (.cons (.set (.var 2) (.var 1) (.put (.idx (.var 2) (.var 1)) 0 (.var 3) true)) .nil))) (
    .jmp 1 (.cons (.var 2) .nil))) (
   .ret (.var 1))
theorem C_laws_toClockS : comp Try.prog sgs 70 = some T_laws_toClockS := by kernel_rfl
def T_laws_toVLeaseS : Tr :=
  .chk [] (.dfd (.len (.var 0))) <|
  .chk [] (.mkroom (.len (.var 0)) 16) <|
  .loop (.cons (.int .i64 (0)) (.cons (.rep (.len (.var 0)) (.mk (.cons (.int .i64 (0)) (.cons (.int .i64 (0)) .nil)))) .nil)) (
   .chk [] (.dfd (.len (.var 0))) <|
   .chk [] (.dfd (.bin .lss (.var 1) (.len (.var 0)))) <|
   .ite (.bin .lss (.var 1) (.len (.var 0))) (
    .chk [] (.inb (.var 1) (.var 0) 2) <|
    .call [] (.inl 96) (.cons (.fld (.idx (.var 0) (.var 1)) 0 2 true) .nil) <|
    .chk [] (.inb (.var 1) (.var 2) 2) <|
    .chk [] (.flat (.var 3) 2 true) <|
    .chk [] (.flat (.fld (.idx (.var 2) (.var 1)) 0 2 true) 2 true) <|
    .chk [] (.dfd (.bin .add (.var 1) (.int .i64 (1)))) <|
    .jmp 0 (.cons (.bin .add (.var 1) (.int .i64 (1))) (.cons (.set (.var 2) (.var 1) (.put (.idx (.var 2) (.var 1)) 0 (.var 3) true)) .nil))) (
    .jmp 1 (.cons (.var 2) .nil))) (
   .ret (.var 1))
theorem C_laws_toVLeaseS : comp Try.prog sgs 71 = some T_laws_toVLeaseS := by kernel_rfl
def T_laws_eqClock : Tr :=
  .chk [] (.agg (.var 0) 1) <|
  .chk [] (.agg (.var 1) 1) <|
  .chk [] (.dfd (.bin .neq (.fld (.var 0) 0 1 false) (.fld (.var 1) 0 1 false))) <|
  .ite (.bin .neq (.fld (.var 0) 0 1 false) (.fld (.var 1) 0 1 false)) (
   .ret (.bool false)) (
   .ret (.bool true))
theorem C_laws_eqClock : comp Try.prog sgs 72 = some T_laws_eqClock := by kernel_rfl
def T_laws_eqClockS : Tr :=
  .chk [] (.dfd (.len (.var 0))) <|
  .chk [] (.dfd (.len (.var 1))) <|
  .ite (.bin .neq (.len (.var 0)) (.len (.var 1))) (
   .ret (.bool false)) (
   .loop (.cons (.int .i64 (0)) .nil) (
    .chk [] (.dfd (.len (.var 0))) <|
    .chk [] (.dfd (.bin .lss (.var 2) (.len (.var 0)))) <|
    .ite (.bin .lss (.var 2) (.len (.var 0))) (
     .chk [] (.inb (.var 2) (.var 0) 1) <|
     .chk [] (.inb (.var 2) (.var 1) 1) <|
     .call [] (.inl 72) (.cons (.fld (.idx (.var 0) (.var 2)) 0 1 true) (.cons (.fld (.idx (.var 1) (.var 2)) 0 1 true) .nil)) <|
     .chk [] (.dfd (.not (.var 3))) <|
     .ite (.not (.var 3)) (
      .ret (.bool false)) (
      .chk [] (.dfd (.bin .add (.var 2) (.int .i64 (1)))) <|
      .jmp 0 (.cons (.bin .add (.var 2) (.int .i64 (1))) .nil))) (
     .jmp 1 .nil)) (
    .ret (.bool true)))
theorem C_laws_eqClockS : comp Try.prog sgs 73 = some T_laws_eqClockS := by kernel_rfl
def T_laws_eqVLeaseS : Tr :=
  .chk [] (.dfd (.len (.var 0))) <|
  .chk [] (.dfd (.len (.var 1))) <|
  .ite (.bin .neq (.len (.var 0)) (.len (.var 1))) (
   .ret (.bool false)) (
   .loop (.cons (.int .i64 (0)) .nil) (
    .chk [] (.dfd (.len (.var 0))) <|
    .chk [] (.dfd (.bin .lss (.var 2) (.len (.var 0)))) <|
    .ite (.bin .lss (.var 2) (.len (.var 0))) (
     .chk [] (.inb (.var 2) (.var 0) 2) <|
     .chk [] (.inb (.var 2) (.var 1) 2) <|
     .call [] (.inl 97) (.cons (.fld (.idx (.var 0) (.var 2)) 0 2 true) (.cons (.fld (.idx (.var 1) (.var 2)) 0 2 true) .nil)) <|
     .chk [] (.dfd (.not (.var 3))) <|
     .ite (.not (.var 3)) (
      .ret (.bool false)) (
      .chk [] (.dfd (.bin .add (.var 2) (.int .i64 (1)))) <|
      .jmp 0 (.cons (.bin .add (.var 2) (.int .i64 (1))) .nil))) (
     .jmp 1 .nil)) (
    .ret (.bool true)))
theorem C_laws_eqVLeaseS : comp Try.prog sgs 74 = some T_laws_eqVLeaseS := by kernel_rfl
def T_laws_markClockS : Tr :=
  .loop (.cons (.var 1) (.cons (.int .i64 (0)) (.cons (.var 0) .nil))) (
   .chk [] (.dfd (.len (.var 4))) <|
   .chk [] (.dfd (.bin .lss (.var 3) (.len (.var 4)))) <|
   .ite (.bin .lss (.var 3) (.len (.var 4))) (
    .chk [] (.inb (.var 3) (.var 4) 1) <|
    .chk [] (.flat (.var 2) 1 false) <|
    .chk [] (.flat (.fld (.idx (.var 4) (.var 3)) 0 1 false) 1 false) <|
    .chk [] (.dfd (.bin .add (.var 2) (.int .i64 (1)))) <|
    .chk [] (.dfd (.bin .add (.var 3) (.int .i64 (1)))) <|
    .jmp 0 (.cons (.bin .add (.var 2) (.int .i64 (1))) (.cons (.bin .add (.var 3) (.int .i64 (1))) (.cons (.set (.var 4) (.var 3) (.put (.idx (.var 4) (.var 3)) 0 (.var 2) true)) .nil)))) (
    .jmp 1 (.cons (.var 2) (.cons (.var 4) .nil)))) (
   .ret (.tup (.cons (.var 2) (.cons (.var 3) .nil))))
theorem C_laws_markClockS : comp Try.prog sgs 75 = some T_laws_markClockS := by kernel_rfl
def T_laws_markVLeaseS : Tr :=
  .loop (.cons (.var 1) (.cons (.int .i64 (0)) (.cons (.var 0) .nil))) (
   .chk [] (.dfd (.len (.var 4))) <|
   .chk [] (.dfd (.bin .lss (.var 3) (.len (.var 4)))) <|
   .ite (.bin .lss (.var 3) (.len (.var 4))) (
    .chk [] (.inb (.var 3) (.var 4) 2) <|
    .chk [] (.flat (.var 2) 1 false) <|
    .chk [] (.flat (.fld (.idx (.var 4) (.var 3)) 0 1 false) 1 false) <|
    .chk [] (.dfd (.bin .add (.var 2) (.int .i64 (1)))) <|
    .chk [] (.inb (.var 3) (.set (.var 4) (.var 3) (.put (.idx (.var 4) (.var 3)) 0 (.var 2) true)) 2) <|
    .chk [] (.flat (.bin .add (.var 2) (.int .i64 (1))) 1 false) <|
    .chk [] (.flat (.fld (.idx (.set (.var 4) (.var 3) (.put (.idx (.var 4) (.var 3)) 0 (.var 2) true)) (.var 3)) 1 1 false) 1 false) <|
    .chk [] (.dfd (.bin .add (.bin .add (.var 2) (.int .i64 (1))) (.int .i64 (1)))) <|
    .chk [] (.dfd (.bin .add (.var 3) (.int .i64 (1)))) <|
    .jmp 0 (.cons (.bin .add (.bin .add (.var 2) (.int .i64 (1))) (.int .i64 (1))) (.cons (.bin .add (.var 3) (.int .i64 (1))) (.cons (.set (.set (.var 4) (.var 3) (.put (.idx (.var 4) (.var 3)) 0 (.var 2) true)) (.var 3) (.put (.idx (.set (.var 4) (.var 3) (.put (.idx (.var 4) (.var 3)) 0 (.var 2) true)) (.var 3)) 1 (.bin .add (.var 2) (.int .i64 (1))) true)) .nil)))) (
    .jmp 1 (.cons (.var 2) (.cons (.var 4) .nil)))) (
   .ret (.tup (.cons (.var 2) (.cons (.var 3) .nil))))
theorem C_laws_markVLeaseS : comp Try.prog sgs 76 = some T_laws_markVLeaseS := by kernel_rfl
def T_laws_heldClockS : Tr :=
  .loop (.cons (.var 1) (.cons (.int .i64 (0)) .nil)) (
   .chk [] (.dfd (.len (.var 0))) <|
   .chk [] (.dfd (.bin .lss (.var 3) (.len (.var 0)))) <|
   .ite (.bin .lss (.var 3) (.len (.var 0))) (
    .chk [] (.inb (.var 3) (.var 0) 1) <|
    .chk [] (.dfd (.bin .neq (.fld (.idx (.var 0) (.var 3)) 0 1 false) (.var 2))) <|
    .ite (.bin .neq (.fld (.idx (.var 0) (.var 3)) 0 1 false) (.var 2)) (
     .ret (.int .i64 (-1))) (
     .chk [] (.dfd (.bin .add (.var 2) (.int .i64 (1)))) <|
     .chk [] (.dfd (.bin .add (.var 3) (.int .i64 (1)))) <|
     .jmp 0 (.cons (.bin .add (.var 2) (.int .i64 (1))) (.cons (.bin .add (.var 3) (.int .i64 (1))) .nil)))) (
    .jmp 1 (.cons (.var 2) .nil))) (
   .ret (.var 2))
theorem C_laws_heldClockS : comp Try.prog sgs 77 = some T_laws_heldClockS := by kernel_rfl
def T_laws_heldVLeaseS : Tr :=
  .loop (.cons (.var 1) (.cons (.int .i64 (0)) .nil)) (
   .chk [] (.dfd (.len (.var 0))) <|
   .chk [] (.dfd (.bin .lss (.var 3) (.len (.var 0)))) <|
   .ite (.bin .lss (.var 3) (.len (.var 0))) (
    .chk [] (.inb (.var 3) (.var 0) 2) <|
    .chk [] (.dfd (.bin .neq (.fld (.idx (.var 0) (.var 3)) 0 1 false) (.var 2))) <|
    .ite (.bin .neq (.fld (.idx (.var 0) (.var 3)) 0 1 false) (.var 2)) (
     .ret (.int .i64 (-1))) (
     .chk [] (.dfd (.bin .add (.var 2) (.int .i64 (1)))) <|
     .chk [] (.inb (.var 3) (.var 0) 2) <|
     .chk [] (.dfd (.bin .neq (.fld (.idx (.var 0) (.var 3)) 1 1 false) (.bin .add (.var 2) (.int .i64 (1))))) <|
     .ite (.bin .neq (.fld (.idx (.var 0) (.var 3)) 1 1 false) (.bin .add (.var 2) (.int .i64 (1)))) (
      .ret (.int .i64 (-1))) (
      .chk [] (.dfd (.bin .add (.bin .add (.var 2) (.int .i64 (1))) (.int .i64 (1)))) <|
      .chk [] (.dfd (.bin .add (.var 3) (.int .i64 (1)))) <|
      .jmp 0 (.cons (.bin .add (.bin .add (.var 2) (.int .i64 (1))) (.int .i64 (1))) (.cons (.bin .add (.var 3) (.int .i64 (1))) .nil))))) (
    .jmp 1 (.cons (.var 2) .nil))) (
   .ret (.var 2))
theorem C_laws_heldVLeaseS : comp Try.prog sgs 78 = some T_laws_heldVLeaseS := by kernel_rfl
def T___spec_l1Cur__renew : Tr :=
  .call [] (.inl 44) (.cons (.ref (.mk (.cons (.fld (.deref (.var 0)) 0 1 false) (.cons (.fld (.deref (.var 0)) 1 1 false) (.cons (.fld (.deref (.var 0)) 2 1 false) .nil))))) (.cons (.int .i64 (3)) .nil)) <|
  .chk [] (.dfd (.bin .add (.int .i64 (1)) (.proj (.var 1) 0))) <|
  .call [] (.inl 34) (.cons (.bin .add (.int .i64 (1)) (.proj (.var 1) 0)) .nil) <|
  .call [] (.inl 81) (.cons (.ref (.mk (.cons (.fld (.proj (.var 1) 1) 0 1 false) (.cons (.fld (.proj (.var 1) 1) 1 1 false) (.cons (.fld (.proj (.var 1) 1) 2 1 false) .nil))))) (.cons (.mk (.cons (.fld (.proj (.var 2) 0) 0 1 false) (.cons (.fld (.proj (.var 2) 0) 1 1 false) (.cons (.fld (.proj (.var 2) 0) 2 1 false) (.cons (.fld (.proj (.var 2) 0) 3 1 false) (.cons (.fld (.proj (.var 2) 0) 4 1 false) .nil)))))) (.cons (.int .i64 (20)) .nil))) <|
  .call [] (.inl 28) (.cons (.mk (.cons (.fld (.proj (.var 2) 0) 0 1 false) (.cons (.fld (.proj (.var 2) 0) 1 1 false) (.cons (.fld (.proj (.var 2) 0) 2 1 false) (.cons (.fld (.proj (.var 2) 0) 3 1 false) (.cons (.fld (.proj (.var 2) 0) 4 1 false) .nil)))))) (.cons (.proj (.var 3) 0) .nil)) <|
  .join (
   .call [] (.inl 80) (.cons (.ref (.mk (.cons (.fld (.proj (.var 3) 1) 0 1 false) (.cons (.fld (.proj (.var 3) 1) 1 1 false) (.cons (.fld (.proj (.var 3) 1) 2 1 false) .nil))))) (.cons (.int .i64 (4)) .nil)) <|
   .ite (.proj (.var 5) 0) (
    .chk [] (.dfd (.len (.fld (.proj (.var 4) 0) 4 1 false))) <|
    .call [] (.inl 44) (.cons (.ref (.mk (.cons (.fld (.proj (.var 5) 1) 0 1 false) (.cons (.fld (.proj (.var 5) 1) 1 1 false) (.cons (.fld (.proj (.var 5) 1) 2 1 false) .nil))))) (.cons (.len (.fld (.proj (.var 4) 0) 4 1 false)) .nil)) <|
    .chk [] (.inb (.proj (.var 6) 0) (.fld (.proj (.var 4) 0) 4 1 false) 2) <|
    .chk [] (.dfd (.bin .add (.fld (.proj (.var 4) 0) 0 1 false) (.int .i64 (1)))) <|
    .chk [] (.dfd (.bin .add (.fld (.proj (.var 4) 0) 0 1 false) (.int .i64 (20)))) <|
    .chk [] (.flat (.int .i64 (0)) 1 false) <|
    .chk [] (.flat (.fld (.proj (.var 4) 0) 0 1 false) 1 false) <|
    .chk [] (.flat (.bin .add (.fld (.proj (.var 4) 0) 0 1 false) (.int .i64 (1))) 1 false) <|
    .chk [] (.flat (.bin .add (.fld (.proj (.var 4) 0) 0 1 false) (.int .i64 (20))) 1 false) <|
    .chk [] (.flat (.int .i64 (1020)) 1 false) <|
    .call [] (.inl 45) (.cons (.ref (.mk (.cons (.fld (.proj (.var 6) 1) 0 1 false) (.cons (.fld (.proj (.var 6) 1) 1 1 false) (.cons (.fld (.proj (.var 6) 1) 2 1 false) .nil))))) (.cons (.lst (.cons (.int .i64 (0)) (.cons (.fld (.proj (.var 4) 0) 0 1 false) (.cons (.bin .add (.fld (.proj (.var 4) 0) 0 1 false) (.int .i64 (1))) (.cons (.bin .add (.fld (.proj (.var 4) 0) 0 1 false) (.int .i64 (20))) (.cons (.int .i64 (1020)) .nil)))))) .nil)) <|
    .chk [] (.flat (.proj (.var 7) 0) 1 false) <|
    .chk [] (.flat (.fld (.idx (.fld (.proj (.var 4) 0) 4 1 false) (.proj (.var 6) 0)) 1 1 false) 1 false) <|
    .chk [] (.dfd (.bin .add (.fld (.proj (.var 4) 0) 3 1 false) (.int .i64 (1)))) <|
    .call [] (.inl 44) (.cons (.ref (.mk (.cons (.fld (.proj (.var 7) 1) 0 1 false) (.cons (.fld (.proj (.var 7) 1) 1 1 false) (.cons (.fld (.proj (.var 7) 1) 2 1 false) .nil))))) (.cons (.bin .add (.fld (.proj (.var 4) 0) 3 1 false) (.int .i64 (1))) .nil)) <|
    .chk [] (.flat (.proj (.var 8) 0) 1 false) <|
    .chk [] (.flat (.fld (.idx (.set (.fld (.proj (.var 4) 0) 4 1 false) (.proj (.var 6) 0) (.put (.idx (.fld (.proj (.var 4) 0) 4 1 false) (.proj (.var 6) 0)) 1 (.proj (.var 7) 0) true)) (.proj (.var 6) 0)) 0 1 false) 1 false) <|
    .jmp 0 (.cons (.fld (.proj (.var 8) 1) 0 1 false) (.cons (.fld (.proj (.var 8) 1) 1 1 false) (.cons (.fld (.proj (.var 8) 1) 2 1 false) (.cons (.set (.set (.fld (.proj (.var 4) 0) 4 1 false) (.proj (.var 6) 0) (.put (.idx (.fld (.proj (.var 4) 0) 4 1 false) (.proj (.var 6) 0)) 1 (.proj (.var 7) 0) true)) (.proj (.var 6) 0) (.put (.idx (.set (.fld (.proj (.var 4) 0) 4 1 false) (.proj (.var 6) 0) (.put (.idx (.fld (.proj (.var 4) 0) 4 1 false) (.proj (.var 6) 0)) 1 (.proj (.var 7) 0) true)) (.proj (.var 6) 0)) 0 (.proj (.var 8) 0) true)) .nil))))) (
    .jmp 0 (.cons (.fld (.proj (.var 5) 1) 0 1 false) (.cons (.fld (.proj (.var 5) 1) 1 1 false) (.cons (.fld (.proj (.var 5) 1) 2 1 false) (.cons (.fld (.proj (.var 4) 0) 4 1 false) .nil)))))) (
   .ret (.tup (.cons (.mk (.cons (.fld (.proj (.var 4) 0) 0 1 false) (.cons (.fld (.proj (.var 4) 0) 1 1 false) (.cons (.fld (.proj (.var 4) 0) 2 1 false) (.cons (.fld (.proj (.var 4) 0) 3 1 false) (.cons (.var 8) .nil)))))) (.cons (.mk (.cons (.var 5) (.cons (.var 6) (.cons (.var 7) .nil)))) .nil))))
theorem C___spec_l1Cur__renew : comp Try.prog sgs 79 = some T___spec_l1Cur__renew := by kernel_rfl
def T___spec_l1Cur__one : Tr :=
  .call [] (.inl 44) (.cons (.ref (.mk (.cons (.fld (.deref (.var 0)) 0 1 false) (.cons (.fld (.deref (.var 0)) 1 1 false) (.cons (.fld (.deref (.var 0)) 2 1 false) .nil))))) (.cons (.var 1) .nil)) <|
  .chk [] (.dfd (.bin .eql (.proj (.var 2) 0) (.int .i64 (0)))) <|
  .ret (.tup (.cons (.bin .eql (.proj (.var 2) 0) (.int .i64 (0))) (.cons (.mk (.cons (.fld (.proj (.var 2) 1) 0 1 false) (.cons (.fld (.proj (.var 2) 1) 1 1 false) (.cons (.fld (.proj (.var 2) 1) 2 1 false) .nil)))) .nil)))
theorem C___spec_l1Cur__one : comp Try.prog sgs 80 = some T___spec_l1Cur__one := by kernel_rfl
def T___spec_l1Cur__renewActs : Tr :=
  .chk [] (.agg (.var 1) 5) <|
  .chk [] (.dfd (.bin .add (.var 2) (.int .i64 (1)))) <|
  .call [] (.inl 44) (.cons (.ref (.mk (.cons (.fld (.deref (.var 0)) 0 1 false) (.cons (.fld (.deref (.var 0)) 1 1 false) (.cons (.fld (.deref (.var 0)) 2 1 false) .nil))))) (.cons (.bin .add (.var 2) (.int .i64 (1))) .nil)) <|
  .loop (.cons (.lst .nil) (.cons (.proj (.var 3) 0) (.cons (.fld (.proj (.var 3) 1) 0 1 false) (.cons (.fld (.proj (.var 3) 1) 1 1 false) (.cons (.fld (.proj (.var 3) 1) 2 1 false) .nil))))) (
   .chk [] (.dfd (.bin .gtr (.var 5) (.int .i64 (0)))) <|
   .ite (.bin .gtr (.var 5) (.int .i64 (0))) (
    .call [] (.inl 43) (.cons (.ref (.mk (.cons (.var 6) (.cons (.var 7) (.cons (.var 8) .nil))))) (.cons (.mk (.cons (.fld (.var 1) 0 1 false) (.cons (.fld (.var 1) 1 1 false) (.cons (.fld (.var 1) 2 1 false) (.cons (.fld (.var 1) 3 1 false) (.cons (.fld (.var 1) 4 1 false) .nil)))))) .nil)) <|
    .chk [] (.flat (.proj (.var 9) 0) 3 true) <|
    .chk [] (.room (.var 4) (.lst (.cons (.proj (.var 9) 0) .nil)) 24) <|
    .chk [] (.flatS (.lst (.cons (.proj (.var 9) 0) .nil)) 3) <|
    .chk [] (.dfd (.bin .sub (.var 5) (.int .i64 (1)))) <|
    .jmp 0 (.cons (.app (.var 4) (.lst (.cons (.proj (.var 9) 0) .nil))) (.cons (.bin .sub (.var 5) (.int .i64 (1))) (.cons (.fld (.proj (.var 9) 1) 0 1 false) (.cons (.fld (.proj (.var 9) 1) 1 1 false) (.cons (.fld (.proj (.var 9) 1) 2 1 false) .nil)))))) (
    .jmp 1 (.cons (.var 6) (.cons (.var 7) (.cons (.var 8) (.cons (.var 4) .nil)))))) (
   .ret (.tup (.cons (.var 7) (.cons (.mk (.cons (.var 4) (.cons (.var 5) (.cons (.var 6) .nil)))) .nil))))
theorem C___spec_l1Cur__renewActs : comp Try.prog sgs 81 = some T___spec_l1Cur__renewActs := by kernel_rfl
def T_spec_l28Good : Tr :=
  .chk [] (.agg (.var 0) 5) <|
  .chk [] (.agg (.var 1) 3) <|
  .chk [] (.dfd (.bin .eql (.fld (.var 1) 0 1 false) (.int .i64 (1)))) <|
  .ite (.bin .eql (.fld (.var 1) 0 1 false) (.int .i64 (1))) (
   .chk [] (.dfd (.bin .eql (.fld (.var 1) 1 1 false) (.int .i64 (0)))) <|
   .call [((.bin .eql (.fld (.var 1) 1 1 false) (.int .i64 (0))), true)] (.inl 55) (.cons (.fld (.var 1) 2 1 false) (.cons (.int .i64 (1)) (.cons (.int .i64 (50)) .nil))) <|
   .chk [] (.dfd (.not (.bin .eql (.fld (.var 1) 1 1 false) (.int .i64 (0))))) <|
   .ret (.ite (.bin .eql (.fld (.var 1) 1 1 false) (.int .i64 (0))) (.var 2) (.bool false))) (
   .chk [] (.dfd (.bin .eql (.fld (.var 1) 0 1 false) (.int .i64 (2)))) <|
   .ite (.bin .eql (.fld (.var 1) 0 1 false) (.int .i64 (2))) (
    .chk [] (.dfd (.len (.fld (.var 0) 2 1 false))) <|
    .call [] (.inl 55) (.cons (.fld (.var 1) 1 1 false) (.cons (.int .i64 (0)) (.cons (.len (.fld (.var 0) 2 1 false)) .nil))) <|
    .chk [((.var 2), true)] (.cells (.fld (.var 1) 2 1 false) 1) <|
    .call [((.var 2), true)] (.inl 61) (.cons (.mk (.cons (.fld (.var 1) 2 1 false) .nil)) .nil) <|
    .chk [] (.dfd (.not (.var 2))) <|
    .ret (.ite (.var 2) (.var 3) (.bool false))) (
    .chk [] (.dfd (.bin .eql (.fld (.var 1) 0 1 false) (.int .i64 (3)))) <|
    .ite (.bin .eql (.fld (.var 1) 0 1 false) (.int .i64 (3))) (
     .chk [] (.dfd (.len (.fld (.var 0) 2 1 false))) <|
     .call [] (.inl 55) (.cons (.fld (.var 1) 1 1 false) (.cons (.int .i64 (0)) (.cons (.bin .sub (.len (.fld (.var 0) 2 1 false)) (.int .i64 (1))) .nil))) <|
     .chk [((.var 2), true)] (.dfd (.bin .eql (.fld (.var 1) 2 1 false) (.int .i64 (0)))) <|
     .chk [] (.dfd (.not (.var 2))) <|
     .ret (.ite (.var 2) (.bin .eql (.fld (.var 1) 2 1 false) (.int .i64 (0))) (.bool false))) (
     .chk [] (.dfd (.bin .eql (.fld (.var 1) 0 1 false) (.int .i64 (4)))) <|
     .ite (.bin .eql (.fld (.var 1) 0 1 false) (.int .i64 (4))) (
      .chk [] (.dfd (.bin .eql (.fld (.var 1) 1 1 false) (.int .i64 (0)))) <|
      .chk [((.bin .eql (.fld (.var 1) 1 1 false) (.int .i64 (0))), true)] (.dfd (.bin .eql (.fld (.var 1) 2 1 false) (.int .i64 (0)))) <|
      .chk [] (.dfd (.not (.bin .eql (.fld (.var 1) 1 1 false) (.int .i64 (0))))) <|
      .ret (.ite (.bin .eql (.fld (.var 1) 1 1 false) (.int .i64 (0))) (.bin .eql (.fld (.var 1) 2 1 false) (.int .i64 (0))) (.bool false))) (
      .ret (.bool false)))))
theorem C_spec_l28Good : comp Try.prog sgs 82 = some T_spec_l28Good := by kernel_rfl
def T_slices_Max___int_int_ : Tr :=
  .chk [] (.dfd (.len (.var 0))) <|
  .ite (.bin .lss (.len (.var 0)) (.int .i64 (1))) (
   .stuck) (
   .chk [] (.inb (.int .i64 (0)) (.var 0) 1) <|
   .loop (.cons (.fld (.idx (.var 0) (.int .i64 (0))) 0 1 false) (.cons (.int .i64 (1)) .nil)) (
    .chk [] (.dfd (.len (.var 0))) <|
    .chk [] (.dfd (.bin .lss (.var 2) (.len (.var 0)))) <|
    .ite (.bin .lss (.var 2) (.len (.var 0))) (
     .chk [] (.inb (.var 2) (.var 0) 1) <|
     .chk [] (.dfd (.bin .gtr (.fld (.idx (.var 0) (.var 2)) 0 1 false) (.var 1))) <|
     .chk [] (.dfd (.bin .add (.var 2) (.int .i64 (1)))) <|
     .jmp 0 (.cons (.ite (.bin .gtr (.fld (.idx (.var 0) (.var 2)) 0 1 false) (.var 1)) (.fld (.idx (.var 0) (.var 2)) 0 1 false) (.var 1)) (.cons (.bin .add (.var 2) (.int .i64 (1))) .nil))) (
     .jmp 1 (.cons (.var 1) .nil))) (
    .ret (.var 1)))
theorem C_slices_Max___int_int_ : comp Try.prog sgs 83 = some T_slices_Max___int_int_ := by kernel_rfl
def T_slices_Min___int_int_ : Tr :=
  .chk [] (.dfd (.len (.var 0))) <|
  .ite (.bin .lss (.len (.var 0)) (.int .i64 (1))) (
   .stuck) (
   .chk [] (.inb (.int .i64 (0)) (.var 0) 1) <|
   .loop (.cons (.fld (.idx (.var 0) (.int .i64 (0))) 0 1 false) (.cons (.int .i64 (1)) .nil)) (
    .chk [] (.dfd (.len (.var 0))) <|
    .chk [] (.dfd (.bin .lss (.var 2) (.len (.var 0)))) <|
    .ite (.bin .lss (.var 2) (.len (.var 0))) (
     .chk [] (.inb (.var 2) (.var 0) 1) <|
     .chk [] (.dfd (.bin .lss (.fld (.idx (.var 0) (.var 2)) 0 1 false) (.var 1))) <|
     .chk [] (.dfd (.bin .add (.var 2) (.int .i64 (1)))) <|
     .jmp 0 (.cons (.ite (.bin .lss (.fld (.idx (.var 0) (.var 2)) 0 1 false) (.var 1)) (.fld (.idx (.var 0) (.var 2)) 0 1 false) (.var 1)) (.cons (.bin .add (.var 2) (.int .i64 (1))) .nil))) (
     .jmp 1 (.cons (.var 1) .nil))) (
    .ret (.var 1)))
theorem C_slices_Min___int_int_ : comp Try.prog sgs 84 = some T_slices_Min___int_int_ := by kernel_rfl
def T_laws_eqRenewAct : Tr :=
  .chk [] (.agg (.var 0) 3) <|
  .chk [] (.agg (.var 1) 3) <|
  .chk [] (.dfd (.bin .neq (.fld (.var 0) 0 1 false) (.fld (.var 1) 0 1 false))) <|
  .ite (.bin .neq (.fld (.var 0) 0 1 false) (.fld (.var 1) 0 1 false)) (
   .ret (.bool false)) (
   .chk [] (.dfd (.bin .neq (.fld (.var 0) 1 1 false) (.fld (.var 1) 1 1 false))) <|
   .ite (.bin .neq (.fld (.var 0) 1 1 false) (.fld (.var 1) 1 1 false)) (
    .ret (.bool false)) (
    .chk [] (.dfd (.bin .neq (.fld (.var 0) 2 1 false) (.fld (.var 1) 2 1 false))) <|
    .ite (.bin .neq (.fld (.var 0) 2 1 false) (.fld (.var 1) 2 1 false)) (
     .ret (.bool false)) (
     .ret (.bool true))))
theorem C_laws_eqRenewAct : comp Try.prog sgs 85 = some T_laws_eqRenewAct := by kernel_rfl
def T___spec_l1Cur__next : Tr :=
  .join (
   .chk [] (.dfd (.len (.fld (.deref (.var 0)) 0 1 false))) <|
   .chk [] (.dfd (.bin .lss (.fld (.deref (.var 0)) 1 1 false) (.len (.fld (.deref (.var 0)) 0 1 false)))) <|
   .ite (.bin .lss (.fld (.deref (.var 0)) 1 1 false) (.len (.fld (.deref (.var 0)) 0 1 false))) (
    .chk [] (.inb (.fld (.deref (.var 0)) 1 1 false) (.fld (.deref (.var 0)) 0 1 false) 1) <|
    .chk [] (.dfd (.conv .i64 (.fld (.idx (.fld (.deref (.var 0)) 0 1 false) (.fld (.deref (.var 0)) 1 1 false)) 0 1 false))) <|
    .jmp 0 (.cons (.conv .i64 (.fld (.idx (.fld (.deref (.var 0)) 0 1 false) (.fld (.deref (.var 0)) 1 1 false)) 0 1 false)) .nil)) (
    .jmp 0 (.cons (.int .i64 (0)) .nil))) (
   .chk [] (.dfd (.bin .add (.fld (.deref (.var 0)) 1 1 false) (.int .i64 (1)))) <|
   .chk [] (.cells (.bin .add (.fld (.deref (.var 0)) 1 1 false) (.int .i64 (1))) 1) <|
   .chk [] (.dfd (.bin .mul (.fld (.deref (.var 0)) 2 1 false) (.int .u64 (6364136223846793005)))) <|
   .chk [] (.dfd (.conv .u64 (.var 1))) <|
   .chk [] (.dfd (.bin .add (.bin .mul (.fld (.deref (.var 0)) 2 1 false) (.int .u64 (6364136223846793005))) (.conv .u64 (.var 1)))) <|
   .chk [] (.dfd (.bin .add (.bin .add (.bin .mul (.fld (.deref (.var 0)) 2 1 false) (.int .u64 (6364136223846793005))) (.conv .u64 (.var 1))) (.int .u64 (1442695040888963407)))) <|
   .chk [] (.cells (.bin .add (.bin .add (.bin .mul (.fld (.deref (.var 0)) 2 1 false) (.int .u64 (6364136223846793005))) (.conv .u64 (.var 1))) (.int .u64 (1442695040888963407))) 1) <|
   .chk [] (.dfd (.len (.fld (.deref (.var 0)) 0 1 false))) <|
   .chk [] (.dfd (.bin .leq (.bin .add (.fld (.deref (.var 0)) 1 1 false) (.int .i64 (1))) (.len (.fld (.deref (.var 0)) 0 1 false)))) <|
   .ite (.bin .leq (.bin .add (.fld (.deref (.var 0)) 1 1 false) (.int .i64 (1))) (.len (.fld (.deref (.var 0)) 0 1 false))) (
    .ret (.tup (.cons (.var 1) (.cons (.mk (.cons (.fld (.deref (.var 0)) 0 1 false) (.cons (.bin .add (.fld (.deref (.var 0)) 1 1 false) (.int .i64 (1))) (.cons (.bin .add (.bin .add (.bin .mul (.fld (.deref (.var 0)) 2 1 false) (.int .u64 (6364136223846793005))) (.conv .u64 (.var 1))) (.int .u64 (1442695040888963407))) .nil)))) .nil)))) (
    .chk [] (.nn (.int .u64 (40))) <|
    .chk [] (.dfd (.bin .shr (.bin .add (.bin .add (.bin .mul (.fld (.deref (.var 0)) 2 1 false) (.int .u64 (6364136223846793005))) (.conv .u64 (.var 1))) (.int .u64 (1442695040888963407))) (.int .u64 (40)))) <|
    .chk [] (.dfd (.bin .and (.bin .shr (.bin .add (.bin .add (.bin .mul (.fld (.deref (.var 0)) 2 1 false) (.int .u64 (6364136223846793005))) (.conv .u64 (.var 1))) (.int .u64 (1442695040888963407))) (.int .u64 (40))) (.int .u64 (255)))) <|
    .chk [] (.dfd (.conv .i64 (.bin .and (.bin .shr (.bin .add (.bin .add (.bin .mul (.fld (.deref (.var 0)) 2 1 false) (.int .u64 (6364136223846793005))) (.conv .u64 (.var 1))) (.int .u64 (1442695040888963407))) (.int .u64 (40))) (.int .u64 (255))))) <|
    .ret (.tup (.cons (.conv .i64 (.bin .and (.bin .shr (.bin .add (.bin .add (.bin .mul (.fld (.deref (.var 0)) 2 1 false) (.int .u64 (6364136223846793005))) (.conv .u64 (.var 1))) (.int .u64 (1442695040888963407))) (.int .u64 (40))) (.int .u64 (255)))) (.cons (.mk (.cons (.fld (.deref (.var 0)) 0 1 false) (.cons (.bin .add (.fld (.deref (.var 0)) 1 1 false) (.int .i64 (1))) (.cons (.bin .add (.bin .add (.bin .mul (.fld (.deref (.var 0)) 2 1 false) (.int .u64 (6364136223846793005))) (.conv .u64 (.var 1))) (.int .u64 (1442695040888963407))) .nil)))) .nil)))))
theorem C___spec_l1Cur__next : comp Try.prog sgs 86 = some T___spec_l1Cur__next := by kernel_rfl
def T_slices_Clone___impl_Clock_impl_Clock_ : Tr :=
  .chk [] (.dfd (.len (.var 0))) <|
  .nilq [] (.var 0) <|
  .ite (.var 1) (
   .ret (.lst .nil)) (
   .chk [] (.room (.lst .nil) (.var 0) 8) <|
   .chk [] (.flatS (.var 0) 1) <|
   .ret (.app (.lst .nil) (.var 0)))
theorem C_slices_Clone___impl_Clock_impl_Clock_ : comp Try.prog sgs 87 = some T_slices_Clone___impl_Clock_impl_Clock_ := by kernel_rfl
def T_slices_Clone___impl_VLease_impl_VLease_ : Tr :=
  .chk [] (.dfd (.len (.var 0))) <|
  .nilq [] (.var 0) <|
  .ite (.var 1) (
   .ret (.lst .nil)) (
   .chk [] (.room (.lst .nil) (.var 0) 16) <|
   .chk [] (.flatS (.var 0) 2) <|
   .ret (.app (.lst .nil) (.var 0)))
theorem C_slices_Clone___impl_VLease_impl_VLease_ : comp Try.prog sgs 88 = some T_slices_Clone___impl_VLease_impl_VLease_ := by kernel_rfl
def T__impl_Clock__span : Tr :=
  .chk [] (.agg (.var 0) 1) <|
  .chk [] (.dfd (.bin .add (.var 1) (.fld (.var 0) 0 1 false))) <|
  .chk [] (.dfd (.bin .sub (.bin .add (.var 1) (.fld (.var 0) 0 1 false)) (.int .i64 (5)))) <|
  .chk [] (.dfd (.bin .add (.var 1) (.fld (.var 0) 0 1 false))) <|
  .chk [] (.dfd (.bin .add (.bin .add (.var 1) (.fld (.var 0) 0 1 false)) (.int .i64 (5)))) <|
  .chk [] (.cells (.bin .sub (.bin .add (.var 1) (.fld (.var 0) 0 1 false)) (.int .i64 (5))) 1) <|
  .chk [] (.cells (.bin .add (.bin .add (.var 1) (.fld (.var 0) 0 1 false)) (.int .i64 (5))) 1) <|
  .ret (.mk (.cons (.bin .sub (.bin .add (.var 1) (.fld (.var 0) 0 1 false)) (.int .i64 (5))) (.cons (.bin .add (.bin .add (.var 1) (.fld (.var 0) 0 1 false)) (.int .i64 (5))) .nil)))
theorem C__impl_Clock__span : comp Try.prog sgs 89 = some T__impl_Clock__span := by kernel_rfl
def T___impl_Renew__step_1 : Tr :=
  .chk [] (.agg (.var 0) 2) <|
  .chk [] (.isref (.var 1) 0) <|
  .chk [] (.isref (.var 1) 1) <|
  .chk [] (.isref (.fld (.deref (.var 1)) 0 1 false) 0) <|
  .chk [] (.isref (.fld (.deref (.var 1)) 0 1 false) 4) <|
  .chk [] (.dfd (.bin .neq (.fld (.var 0) 0 1 false) (.fld (.deref (.fld (.deref (.var 1)) 0 1 false)) 3 1 false))) <|
  .chk [((.bin .neq (.fld (.var 0) 0 1 false) (.fld (.deref (.fld (.deref (.var 1)) 0 1 false)) 3 1 false)), true)] (.isref (.var 2) 0) <|
  .chk [((.bin .neq (.fld (.var 0) 0 1 false) (.fld (.deref (.fld (.deref (.var 1)) 0 1 false)) 3 1 false)), true)] (.isref (.var 2) 1) <|
  .chk [((.bin .neq (.fld (.var 0) 0 1 false) (.fld (.deref (.fld (.deref (.var 1)) 0 1 false)) 3 1 false)), true)] (.dfd (.bin .geq (.fld (.var 0) 1 1 false) (.fld (.deref (.var 2)) 0 1 false))) <|
  .chk [] (.dfd (.not (.bin .neq (.fld (.var 0) 0 1 false) (.fld (.deref (.fld (.deref (.var 1)) 0 1 false)) 3 1 false)))) <|
  .ret (.ite (.bin .neq (.fld (.var 0) 0 1 false) (.fld (.deref (.fld (.deref (.var 1)) 0 1 false)) 3 1 false)) (.bin .geq (.fld (.var 0) 1 1 false) (.fld (.deref (.var 2)) 0 1 false)) (.bool false))
theorem C___impl_Renew__step_1 : comp Try.prog sgs 90 = some T___impl_Renew__step_1 := by kernel_rfl
def T_spec_l28Low : Tr :=
  .chk [] (.agg (.var 0) 5) <|
  .chk [] (.agg (.var 1) 1) <|
  .chk [] (.dfd (.bin .add (.fld (.var 0) 0 1 false) (.fld (.var 1) 0 1 false))) <|
  .chk [] (.dfd (.bin .sub (.bin .add (.fld (.var 0) 0 1 false) (.fld (.var 1) 0 1 false)) (.int .i64 (5)))) <|
  .ret (.bin .sub (.bin .add (.fld (.var 0) 0 1 false) (.fld (.var 1) 0 1 false)) (.int .i64 (5)))
theorem C_spec_l28Low : comp Try.prog sgs 91 = some T_spec_l28Low := by kernel_rfl
def T_spec_l28Raise : Tr :=
  .chk [] (.agg (.var 0) 5) <|
  .chk [] (.dfd (.len (.fld (.var 0) 4 1 false))) <|
  .loop (.cons (.int .i64 (0)) .nil) (
   .chk [] (.dfd (.bin .lss (.var 1) (.len (.fld (.var 0) 4 1 false)))) <|
   .ite (.bin .lss (.var 1) (.len (.fld (.var 0) 4 1 false))) (
    .chk [] (.inb (.var 1) (.fld (.var 0) 4 1 false) 2) <|
    .chk [] (.agg (.fld (.idx (.fld (.var 0) 4 1 false) (.var 1)) 0 2 true) 2) <|
    .chk [] (.dfd (.bin .neq (.fld (.fld (.idx (.fld (.var 0) 4 1 false) (.var 1)) 0 2 true) 0 1 false) (.fld (.var 0) 3 1 false))) <|
    .call [((.bin .neq (.fld (.fld (.idx (.fld (.var 0) 4 1 false) (.var 1)) 0 2 true) 0 1 false) (.fld (.var 0) 3 1 false)), true)] (.inl 91) (.cons (.mk (.cons (.fld (.var 0) 0 1 false) (.cons (.fld (.var 0) 1 1 false) (.cons (.fld (.var 0) 2 1 false) (.cons (.fld (.var 0) 3 1 false) (.cons (.fld (.var 0) 4 1 false) .nil)))))) (.cons (.mk (.cons (.fld (.var 0) 1 1 false) .nil)) .nil)) <|
    .chk [((.bin .neq (.fld (.fld (.idx (.fld (.var 0) 4 1 false) (.var 1)) 0 2 true) 0 1 false) (.fld (.var 0) 3 1 false)), true)] (.dfd (.bin .geq (.fld (.fld (.idx (.fld (.var 0) 4 1 false) (.var 1)) 0 2 true) 1 1 false) (.var 2))) <|
    .chk [] (.dfd (.not (.bin .neq (.fld (.fld (.idx (.fld (.var 0) 4 1 false) (.var 1)) 0 2 true) 0 1 false) (.fld (.var 0) 3 1 false)))) <|
    .ite (.ite (.bin .neq (.fld (.fld (.idx (.fld (.var 0) 4 1 false) (.var 1)) 0 2 true) 0 1 false) (.fld (.var 0) 3 1 false)) (.bin .geq (.fld (.fld (.idx (.fld (.var 0) 4 1 false) (.var 1)) 0 2 true) 1 1 false) (.var 2)) (.bool false)) (
     .ret (.bool false)) (
     .chk [] (.dfd (.bin .add (.var 1) (.int .i64 (1)))) <|
     .jmp 0 (.cons (.bin .add (.var 1) (.int .i64 (1))) .nil))) (
    .jmp 1 .nil)) (
   .chk [] (.dfd (.bin .lss (.fld (.var 0) 3 1 false) (.int .i64 (20)))) <|
   .ret (.bin .lss (.fld (.var 0) 3 1 false) (.int .i64 (20))))
theorem C_spec_l28Raise : comp Try.prog sgs 92 = some T_spec_l28Raise := by kernel_rfl
def T_slices_IndexFunc___impl_VLease_impl_VLease_ : Tr :=
  .chk [] (.dfd (.len (.var 0))) <|
  .loop (.cons (.int .i64 (0)) .nil) (
   .chk [] (.dfd (.bin .lss (.var 2) (.len (.var 0)))) <|
   .ite (.bin .lss (.var 2) (.len (.var 0))) (
    .chk [] (.inb (.var 2) (.var 0) 2) <|
    .call [] (.inr (.var 1)) (.cons (.fld (.idx (.var 0) (.var 2)) 0 2 true) .nil) <|
    .ite (.var 3) (
     .ret (.var 2)) (
     .chk [] (.dfd (.bin .add (.var 2) (.int .i64 (1)))) <|
     .jmp 0 (.cons (.bin .add (.var 2) (.int .i64 (1))) .nil))) (
    .jmp 1 .nil)) (
   .ret (.int .i64 (-1)))
theorem C_slices_IndexFunc___impl_VLease_impl_VLease_ : comp Try.prog sgs 93 = some T_slices_IndexFunc___impl_VLease_impl_VLease_ := by kernel_rfl
def T_spec_l28High : Tr :=
  .chk [] (.agg (.var 0) 5) <|
  .chk [] (.agg (.var 1) 1) <|
  .chk [] (.dfd (.bin .add (.fld (.var 0) 0 1 false) (.fld (.var 1) 0 1 false))) <|
  .chk [] (.dfd (.bin .add (.bin .add (.fld (.var 0) 0 1 false) (.fld (.var 1) 0 1 false)) (.int .i64 (5)))) <|
  .ret (.bin .add (.bin .add (.fld (.var 0) 0 1 false) (.fld (.var 1) 0 1 false)) (.int .i64 (5)))
theorem C_spec_l28High : comp Try.prog sgs 94 = some T_spec_l28High := by kernel_rfl
def T_slices_IndexFunc___impl_Clock_impl_Clock_ : Tr :=
  .chk [] (.dfd (.len (.var 0))) <|
  .loop (.cons (.int .i64 (0)) .nil) (
   .chk [] (.dfd (.bin .lss (.var 2) (.len (.var 0)))) <|
   .ite (.bin .lss (.var 2) (.len (.var 0))) (
    .chk [] (.inb (.var 2) (.var 0) 1) <|
    .call [] (.inr (.var 1)) (.cons (.fld (.idx (.var 0) (.var 2)) 0 1 true) .nil) <|
    .ite (.var 3) (
     .ret (.var 2)) (
     .chk [] (.dfd (.bin .add (.var 2) (.int .i64 (1)))) <|
     .jmp 0 (.cons (.bin .add (.var 2) (.int .i64 (1))) .nil))) (
    .jmp 1 .nil)) (
   .ret (.int .i64 (-1)))
theorem C_slices_IndexFunc___impl_Clock_impl_Clock_ : comp Try.prog sgs 95 = some T_slices_IndexFunc___impl_Clock_impl_Clock_ := by kernel_rfl
def T_laws_toVLease : Tr :=
  .chk [] (.agg (.var 0) 2) <|
  .chk [] (.cells (.fld (.var 0) 0 1 false) 1) <|
  .chk [] (.cells (.fld (.var 0) 1 1 false) 1) <|
  .ret (.mk (.cons (.fld (.var 0) 0 1 false) (.cons (.fld (.var 0) 1 1 false) .nil)))
theorem C_laws_toVLease : comp Try.prog sgs 96 = some T_laws_toVLease := by kernel_rfl
def T_laws_eqVLease : Tr :=
  .chk [] (.agg (.var 0) 2) <|
  .chk [] (.agg (.var 1) 2) <|
  .chk [] (.dfd (.bin .neq (.fld (.var 0) 0 1 false) (.fld (.var 1) 0 1 false))) <|
  .ite (.bin .neq (.fld (.var 0) 0 1 false) (.fld (.var 1) 0 1 false)) (
   .ret (.bool false)) (
   .chk [] (.dfd (.bin .neq (.fld (.var 0) 1 1 false) (.fld (.var 1) 1 1 false))) <|
   .ite (.bin .neq (.fld (.var 0) 1 1 false) (.fld (.var 1) 1 1 false)) (
    .ret (.bool false)) (
    .ret (.bool true)))
theorem C_laws_eqVLease : comp Try.prog sgs 97 = some T_laws_eqVLease := by kernel_rfl
end Go.Proofs.Ytjneaalpiangdaa
end

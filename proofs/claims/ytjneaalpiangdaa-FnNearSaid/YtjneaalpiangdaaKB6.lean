/- Parts of a proof, joined: QR1. -/
import Derived.Test.YtjneaalpiangdaaKB5
/- Part QR1. Typed models: the functions give that, part 1. -/
section
namespace Go.Proofs.Ytjneaalpiangdaa
open Go.RowKit
set_option maxRecDepth 100000
set_option maxHeartbeats 4000000
def T___spec_l1Cur__next : Tr :=
  .join (
   .chk [] (.dfd (.len (.fld (.deref (.var 0)) 0 1 false))) <|
   .chk [] (.dfd (.bin .lss (.fld (.deref (.var 0)) 1 1 false) (.len (.fld (.deref (.var 0)) 0 1 false)))) <|
   .ite (.bin .lss (.fld (.deref (.var 0)) 1 1 false) (.len (.fld (.deref (.var 0)) 0 1 false))) (
    .chk [] (.inb (.fld (.deref (.var 0)) 1 1 false) (.fld (.deref (.var 0)) 0 1 false) 1) <|
    .chk [] (.dfd (.conv .i64 (.fld (.idx (.fld (.deref (.var 0)) 0 1 false) (.fld (.deref (.var 0)) 1 1 false)) 0 1 false))) <|
    .jmp 0 (.cons (.conv .i64 (.fld (.idx (.fld (.deref (.var 0)) 0 1 false) (.fld (.deref (.var 0)) 1 1 false)) 0 1 false)) .nil)) (
    .jmp 0 (.cons (.int .i64 (0)) .nil))) (
   .chk [] (.dfd (.bin .add (.fld (.deref (.var 0)) 1 1 false) (.int .i64 (1)))) <|
   .chk [] (.cells (.bin .add (.fld (.deref (.var 0)) 1 1 false) (.int .i64 (1))) 1) <|
   .chk [] (.dfd (.bin .mul (.fld (.deref (.var 0)) 2 1 false) (.int .u64 (6364136223846793005)))) <|
   .chk [] (.dfd (.conv .u64 (.var 1))) <|
   .chk [] (.dfd (.bin .add (.bin .mul (.fld (.deref (.var 0)) 2 1 false) (.int .u64 (6364136223846793005))) (.conv .u64 (.var 1)))) <|
   .chk [] (.dfd (.bin .add (.bin .add (.bin .mul (.fld (.deref (.var 0)) 2 1 false) (.int .u64 (6364136223846793005))) (.conv .u64 (.var 1))) (.int .u64 (1442695040888963407)))) <|
   .chk [] (.cells (.bin .add (.bin .add (.bin .mul (.fld (.deref (.var 0)) 2 1 false) (.int .u64 (6364136223846793005))) (.conv .u64 (.var 1))) (.int .u64 (1442695040888963407))) 1) <|
   .chk [] (.dfd (.len (.fld (.deref (.var 0)) 0 1 false))) <|
   .chk [] (.dfd (.bin .leq (.bin .add (.fld (.deref (.var 0)) 1 1 false) (.int .i64 (1))) (.len (.fld (.deref (.var 0)) 0 1 false)))) <|
   .ite (.bin .leq (.bin .add (.fld (.deref (.var 0)) 1 1 false) (.int .i64 (1))) (.len (.fld (.deref (.var 0)) 0 1 false))) (
    .ret (.tup (.cons (.var 1) (.cons (.mk (.cons (.fld (.deref (.var 0)) 0 1 false) (.cons (.bin .add (.fld (.deref (.var 0)) 1 1 false) (.int .i64 (1))) (.cons (.bin .add (.bin .add (.bin .mul (.fld (.deref (.var 0)) 2 1 false) (.int .u64 (6364136223846793005))) (.conv .u64 (.var 1))) (.int .u64 (1442695040888963407))) .nil)))) .nil)))) (
    .chk [] (.nn (.int .u64 (40))) <|
    .chk [] (.dfd (.bin .shr (.bin .add (.bin .add (.bin .mul (.fld (.deref (.var 0)) 2 1 false) (.int .u64 (6364136223846793005))) (.conv .u64 (.var 1))) (.int .u64 (1442695040888963407))) (.int .u64 (40)))) <|
    .chk [] (.dfd (.bin .and (.bin .shr (.bin .add (.bin .add (.bin .mul (.fld (.deref (.var 0)) 2 1 false) (.int .u64 (6364136223846793005))) (.conv .u64 (.var 1))) (.int .u64 (1442695040888963407))) (.int .u64 (40))) (.int .u64 (255)))) <|
    .chk [] (.dfd (.conv .i64 (.bin .and (.bin .shr (.bin .add (.bin .add (.bin .mul (.fld (.deref (.var 0)) 2 1 false) (.int .u64 (6364136223846793005))) (.conv .u64 (.var 1))) (.int .u64 (1442695040888963407))) (.int .u64 (40))) (.int .u64 (255))))) <|
    .ret (.tup (.cons (.conv .i64 (.bin .and (.bin .shr (.bin .add (.bin .add (.bin .mul (.fld (.deref (.var 0)) 2 1 false) (.int .u64 (6364136223846793005))) (.conv .u64 (.var 1))) (.int .u64 (1442695040888963407))) (.int .u64 (40))) (.int .u64 (255)))) (.cons (.mk (.cons (.fld (.deref (.var 0)) 0 1 false) (.cons (.bin .add (.fld (.deref (.var 0)) 1 1 false) (.int .i64 (1))) (.cons (.bin .add (.bin .add (.bin .mul (.fld (.deref (.var 0)) 2 1 false) (.int .u64 (6364136223846793005))) (.conv .u64 (.var 1))) (.int .u64 (1442695040888963407))) .nil)))) .nil)))))
theorem C___spec_l1Cur__next : comp Try.prog sgs 86 = some T___spec_l1Cur__next := by kernel_rfl
theorem R___spec_l1Cur__next (a0 : DL1Cur) (r : Int × DL1Cur) (h : m___spec_l1Cur__next a0 = some r) : Rts Try.prog sgs 86 [avRL1Cur a0] (avTI64L1CurZ2 r) := by
  refine rts_of C___spec_l1Cur__next (by kernel_rfl) ?_
  unfold Den T___spec_l1Cur__next
  unfold m___spec_l1Cur__next at h
  refine s_joinI fun j1 hj1 => ?_
  refine s_chk (by simp) ?_
  refine s_chk (by simp) ?_
  refine s_ite h (by simp) (fun e2 h => ?_) (fun e2 h => ?_)
  · obtain ⟨y3, hy3, h⟩ := bindE h
    have hy3' := (getIE hy3).2.2
    refine s_chk (fun _ => c_inb (kk := .i64) (f := avU8) (by simp) (by simp) hy3 (by simp)) ?_
    refine s_chk (by simp [e2, hy3']) ?_
    refine s_jmpI hj1 rfl (vs := [.int .i64 (IntKind.i64.wrap y3)]) (by simp [e2, hy3']) ?_
    refine s_chk (by simp) ?_
    refine s_chk (by simp) ?_
    refine s_chk (by simp) ?_
    refine s_chk (by simp) ?_
    refine s_chk (by simp) ?_
    refine s_chk (by simp) ?_
    refine s_chk (by simp) ?_
    refine s_chk (by simp) ?_
    refine s_chk (by simp) ?_
    refine s_ite h (by simp) (fun e4 h => ?_) (fun e4 h => ?_)
    · exact s_ret (av := avTI64L1CurZ2) h (by simp)
    · refine s_chk (fun _ => c_nn (kk := .u64) (n := 40) (by simp) (by simp)) ?_
      refine s_chk (by simp) ?_
      refine s_chk (by simp) ?_
      refine s_chk (by simp) ?_
      exact s_ret (av := avTI64L1CurZ2) h (by simp)
  · refine s_jmpI hj1 rfl (vs := [.int .i64 0]) (by simp) ?_
    refine s_chk (by simp) ?_
    refine s_chk (by simp) ?_
    refine s_chk (by simp) ?_
    refine s_chk (by simp) ?_
    refine s_chk (by simp) ?_
    refine s_chk (by simp) ?_
    refine s_chk (by simp) ?_
    refine s_chk (by simp) ?_
    refine s_chk (by simp) ?_
    refine s_ite h (by simp) (fun e5 h => ?_) (fun e5 h => ?_)
    · exact s_ret (av := avTI64L1CurZ2) h (by simp)
    · refine s_chk (fun _ => c_nn (kk := .u64) (n := 40) (by simp) (by simp)) ?_
      refine s_chk (by simp) ?_
      refine s_chk (by simp) ?_
      refine s_chk (by simp) ?_
      exact s_ret (av := avTI64L1CurZ2) h (by simp)
def T___spec_l1Cur__pick : Tr :=
  .chk [] (.dfd (.bin .leq (.var 1) (.int .i64 (1)))) <|
  .ite (.bin .leq (.var 1) (.int .i64 (1))) (
   .ret (.tup (.cons (.int .i64 (0)) (.cons (.mk (.cons (.fld (.deref (.var 0)) 0 1 false) (.cons (.fld (.deref (.var 0)) 1 1 false) (.cons (.fld (.deref (.var 0)) 2 1 false) .nil)))) .nil)))) (
   .call [] (.inl 86) (.cons (.ref (.mk (.cons (.fld (.deref (.var 0)) 0 1 false) (.cons (.fld (.deref (.var 0)) 1 1 false) (.cons (.fld (.deref (.var 0)) 2 1 false) .nil))))) .nil) <|
   .join (
    .chk [] (.dfd (.bin .gtr (.var 1) (.int .i64 (200)))) <|
    .ite (.bin .gtr (.var 1) (.int .i64 (200))) (
     .chk [] (.dfd (.bin .mul (.proj (.var 2) 0) (.int .i64 (256)))) <|
     .call [] (.inl 86) (.cons (.ref (.mk (.cons (.fld (.proj (.var 2) 1) 0 1 false) (.cons (.fld (.proj (.var 2) 1) 1 1 false) (.cons (.fld (.proj (.var 2) 1) 2 1 false) .nil))))) .nil) <|
     .chk [] (.dfd (.bin .add (.bin .mul (.proj (.var 2) 0) (.int .i64 (256))) (.proj (.var 3) 0))) <|
     .jmp 0 (.cons (.bin .add (.bin .mul (.proj (.var 2) 0) (.int .i64 (256))) (.proj (.var 3) 0)) (.cons (.fld (.proj (.var 3) 1) 0 1 false) (.cons (.fld (.proj (.var 3) 1) 1 1 false) (.cons (.fld (.proj (.var 3) 1) 2 1 false) .nil))))) (
     .jmp 0 (.cons (.proj (.var 2) 0) (.cons (.fld (.proj (.var 2) 1) 0 1 false) (.cons (.fld (.proj (.var 2) 1) 1 1 false) (.cons (.fld (.proj (.var 2) 1) 2 1 false) .nil)))))) (
    .chk [] (.nz (.var 1)) <|
    .chk [] (.dfd (.bin .rem (.var 3) (.var 1))) <|
    .ret (.tup (.cons (.bin .rem (.var 3) (.var 1)) (.cons (.mk (.cons (.var 4) (.cons (.var 5) (.cons (.var 6) .nil)))) .nil)))))
theorem C___spec_l1Cur__pick : comp Try.prog sgs 44 = some T___spec_l1Cur__pick := by kernel_rfl
theorem R___spec_l1Cur__pick (a0 : DL1Cur) (a1 : Int) (r : Int × DL1Cur) (h : m___spec_l1Cur__pick a0 a1 = some r) : Rts Try.prog sgs 44 [avRL1Cur a0, .int .i64 a1] (avTI64L1CurZ2 r) := by
  refine rts_of C___spec_l1Cur__pick (by kernel_rfl) ?_
  unfold Den T___spec_l1Cur__pick
  unfold m___spec_l1Cur__pick at h
  refine s_chk (by simp) ?_
  refine s_ite h (by simp) (fun e1 h => ?_) (fun e1 h => ?_)
  · exact s_ret (av := avTI64L1CurZ2) h (by simp)
  · refine s_call avTI64L1CurZ2 h (fun x hx => by simpa using R___spec_l1Cur__next a0 x hx) (fun v2 cv2 h => ?_)
    refine s_joinI fun j3 hj3 => ?_
    refine s_chk (by simp) ?_
    refine s_ite h (by simp) (fun e4 h => ?_) (fun e4 h => ?_)
    · refine s_chk (by simp) ?_
      refine s_call avTI64L1CurZ2 h (fun x hx => by simpa using R___spec_l1Cur__next v2.2 x hx) (fun v5 cv5 h => ?_)
      refine s_chk (by simp) ?_
      refine s_jmpI hj3 rfl (vs := [.int .i64 (IntKind.i64.wrap ((IntKind.i64.wrap (v2.1 * 256)) + v5.1)), .sl (v5.2.fcode.map avU8), .int .i64 v5.2.fat, .int .u64 v5.2.fseed]) (by simp) ?_
      obtain ⟨q6, h⟩ := reqE h
      refine s_chk (fun _ => c_nz (kk := .i64) (by simp) q6) ?_
      refine s_chk (by simp) ?_
      exact s_ret (av := avTI64L1CurZ2) h (by simp)
    · refine s_jmpI hj3 rfl (vs := [.int .i64 v2.1, .sl (v2.2.fcode.map avU8), .int .i64 v2.2.fat, .int .u64 v2.2.fseed]) (by simp) ?_
      obtain ⟨q7, h⟩ := reqE h
      refine s_chk (fun _ => c_nz (kk := .i64) (by simp) q7) ?_
      refine s_chk (by simp) ?_
      exact s_ret (av := avTI64L1CurZ2) h (by simp)
def T_spec_l1In : Tr :=
  .chk [] (.dfd (.bin .geq (.var 0) (.var 1))) <|
  .chk [((.bin .geq (.var 0) (.var 1)), true)] (.dfd (.bin .leq (.var 0) (.var 2))) <|
  .chk [] (.dfd (.not (.bin .geq (.var 0) (.var 1)))) <|
  .ret (.ite (.bin .geq (.var 0) (.var 1)) (.bin .leq (.var 0) (.var 2)) (.bool false))
theorem C_spec_l1In : comp Try.prog sgs 55 = some T_spec_l1In := by kernel_rfl
theorem R_spec_l1In (a0 : Int) (a1 : Int) (a2 : Int) (r : Bool) (h : m_spec_l1In a0 a1 a2 = some r) : Rts Try.prog sgs 55 [.int .i64 a0, .int .i64 a1, .int .i64 a2] (.bool r) := by
  refine rts_of C_spec_l1In (by kernel_rfl) ?_
  unfold Den T_spec_l1In
  unfold m_spec_l1In at h
  refine s_chk (by simp) ?_
  refine s_chk (by simp) ?_
  refine s_chk (by simp) ?_
  exact s_ret (av := avB) h (by simp)
def T_spec_NewRenew : Tr :=
  .call [] (.inl 55) (.cons (.var 0) (.cons (.int .i64 (1)) (.cons (.int .i64 (3)) .nil))) <|
  .chk [] (.dfd (.not (.var 1))) <|
  .ite (.not (.var 1)) (
   .ret (.tup (.cons (.mk (.cons (.int .i64 (0)) (.cons (.int .i64 (0)) (.cons (.lst .nil) (.cons (.int .i64 (0)) (.cons (.lst .nil) .nil)))))) (.cons (.bool false) .nil)))) (
   .chk [] (.mkroom (.var 0) 8) <|
   .chk [] (.mkroom (.var 0) 16) <|
   .ret (.tup (.cons (.mk (.cons (.int .i64 (0)) (.cons (.int .i64 (0)) (.cons (.rep (.var 0) (.mk (.cons (.int .i64 (0)) .nil))) (.cons (.int .i64 (0)) (.cons (.rep (.var 0) (.mk (.cons (.int .i64 (0)) (.cons (.int .i64 (0)) .nil)))) .nil)))))) (.cons (.bool true) .nil))))
theorem C_spec_NewRenew : comp Try.prog sgs 34 = some T_spec_NewRenew := by kernel_rfl
theorem R_spec_NewRenew (a0 : Int) (r : DRenew × Bool) (h : m_spec_NewRenew a0 = some r) : Rts Try.prog sgs 34 [.int .i64 a0] (avTRenewBZ2 r) := by
  refine rts_of C_spec_NewRenew (by kernel_rfl) ?_
  unfold Den T_spec_NewRenew
  unfold m_spec_NewRenew at h
  refine s_call avB h (fun x hx => by simpa using R_spec_l1In a0 1 3 x hx) (fun v1 cv1 h => ?_)
  refine s_chk (by simp) ?_
  refine s_ite h (by simp) (fun e2 h => ?_) (fun e2 h => ?_)
  · exact s_ret (av := avTRenewBZ2) h (by simp)
  · obtain ⟨q3, h⟩ := reqE h
    refine s_chk (fun _ => c_mkroom (kk := .i64) (k := a0) (by simp) (by simpa using q3)) ?_
    obtain ⟨q4, h⟩ := reqE h
    refine s_chk (fun _ => c_mkroom (kk := .i64) (k := a0) (by simp) (by simpa using q4)) ?_
    exact s_ret (av := avTRenewBZ2) h (by simp)
def T___spec_l1Cur__among : Tr :=
  .chk [] (.dfd (.len (.var 1))) <|
  .call [] (.inl 44) (.cons (.ref (.mk (.cons (.fld (.deref (.var 0)) 0 1 false) (.cons (.fld (.deref (.var 0)) 1 1 false) (.cons (.fld (.deref (.var 0)) 2 1 false) .nil))))) (.cons (.len (.var 1)) .nil)) <|
  .chk [] (.inb (.proj (.var 2) 0) (.var 1) 1) <|
  .ret (.tup (.cons (.fld (.idx (.var 1) (.proj (.var 2) 0)) 0 1 false) (.cons (.mk (.cons (.fld (.proj (.var 2) 1) 0 1 false) (.cons (.fld (.proj (.var 2) 1) 1 1 false) (.cons (.fld (.proj (.var 2) 1) 2 1 false) .nil)))) .nil)))
theorem C___spec_l1Cur__among : comp Try.prog sgs 45 = some T___spec_l1Cur__among := by kernel_rfl
theorem R___spec_l1Cur__among (a0 : DL1Cur) (a1 : List Int) (r : Int × DL1Cur) (h : m___spec_l1Cur__among a0 a1 = some r) : Rts Try.prog sgs 45 [avRL1Cur a0, .sl (a1.map avI64)] (avTI64L1CurZ2 r) := by
  refine rts_of C___spec_l1Cur__among (by kernel_rfl) ?_
  unfold Den T___spec_l1Cur__among
  unfold m___spec_l1Cur__among at h
  refine s_chk (by simp) ?_
  refine s_call avTI64L1CurZ2 h (fun x hx => by simpa using R___spec_l1Cur__pick a0 (a1.length : Int) x hx) (fun v1 cv1 h => ?_)
  obtain ⟨y2, hy2, h⟩ := bindE h
  have hy2' := (getIE hy2).2.2
  refine s_chk (fun _ => c_inb (kk := .i64) (f := avI64) (by simp) (by simp) hy2 (by simp)) ?_
  exact s_ret (av := avTI64L1CurZ2) h (by simp [hy2'])
def T___spec_l1Cur__renewAct : Tr :=
  .chk [] (.agg (.var 1) 5) <|
  .chk [] (.dfd (.len (.fld (.var 1) 2 1 false))) <|
  .call [] (.inl 44) (.cons (.ref (.mk (.cons (.fld (.deref (.var 0)) 0 1 false) (.cons (.fld (.deref (.var 0)) 1 1 false) (.cons (.fld (.deref (.var 0)) 2 1 false) .nil))))) (.cons (.int .i64 (8)) .nil)) <|
  .join (
   .chk [] (.dfd (.bin .eql (.proj (.var 2) 0) (.int .i64 (0)))) <|
   .ite (.bin .eql (.proj (.var 2) 0) (.int .i64 (0))) (
    .jmp 0 (.cons (.bin .eql (.proj (.var 2) 0) (.int .i64 (0))) .nil)) (
    .chk [] (.dfd (.bin .eql (.proj (.var 2) 0) (.int .i64 (1)))) <|
    .ite (.bin .eql (.proj (.var 2) 0) (.int .i64 (1))) (
     .jmp 0 (.cons (.bin .eql (.proj (.var 2) 0) (.int .i64 (1))) .nil)) (
     .chk [] (.dfd (.bin .eql (.proj (.var 2) 0) (.int .i64 (2)))) <|
     .jmp 0 (.cons (.bin .eql (.proj (.var 2) 0) (.int .i64 (2))) .nil)))) (
   .ite (.var 3) (
    .chk [] (.flat (.int .i64 (1)) 1 false) <|
    .chk [] (.flat (.int .i64 (2)) 1 false) <|
    .chk [] (.flat (.int .i64 (5)) 1 false) <|
    .chk [] (.flat (.int .i64 (9)) 1 false) <|
    .chk [] (.flat (.int .i64 (14)) 1 false) <|
    .chk [] (.flat (.int .i64 (30)) 1 false) <|
    .chk [] (.flat (.int .i64 (50)) 1 false) <|
    .call [] (.inl 45) (.cons (.ref (.mk (.cons (.fld (.proj (.var 2) 1) 0 1 false) (.cons (.fld (.proj (.var 2) 1) 1 1 false) (.cons (.fld (.proj (.var 2) 1) 2 1 false) .nil))))) (.cons (.lst (.cons (.int .i64 (1)) (.cons (.int .i64 (2)) (.cons (.int .i64 (5)) (.cons (.int .i64 (9)) (.cons (.int .i64 (14)) (.cons (.int .i64 (30)) (.cons (.int .i64 (50)) .nil)))))))) .nil)) <|
    .chk [] (.cells (.proj (.var 4) 0) 1) <|
    .ret (.tup (.cons (.mk (.cons (.int .i64 (1)) (.cons (.int .i64 (0)) (.cons (.proj (.var 4) 0) .nil)))) (.cons (.mk (.cons (.fld (.proj (.var 4) 1) 0 1 false) (.cons (.fld (.proj (.var 4) 1) 1 1 false) (.cons (.fld (.proj (.var 4) 1) 2 1 false) .nil)))) .nil)))) (
    .chk [] (.dfd (.bin .eql (.proj (.var 2) 0) (.int .i64 (3)))) <|
    .ite (.bin .eql (.proj (.var 2) 0) (.int .i64 (3))) (
     .call [] (.inl 44) (.cons (.ref (.mk (.cons (.fld (.proj (.var 2) 1) 0 1 false) (.cons (.fld (.proj (.var 2) 1) 1 1 false) (.cons (.fld (.proj (.var 2) 1) 2 1 false) .nil))))) (.cons (.bin .add (.len (.fld (.var 1) 2 1 false)) (.int .i64 (1))) .nil)) <|
     .call [] (.inl 44) (.cons (.ref (.mk (.cons (.fld (.proj (.var 4) 1) 0 1 false) (.cons (.fld (.proj (.var 4) 1) 1 1 false) (.cons (.fld (.proj (.var 4) 1) 2 1 false) .nil))))) (.cons (.int .i64 (11)) .nil)) <|
     .chk [] (.dfd (.bin .sub (.proj (.var 5) 0) (.int .i64 (5)))) <|
     .chk [] (.cells (.proj (.var 4) 0) 1) <|
     .chk [] (.cells (.bin .sub (.proj (.var 5) 0) (.int .i64 (5))) 1) <|
     .ret (.tup (.cons (.mk (.cons (.int .i64 (2)) (.cons (.proj (.var 4) 0) (.cons (.bin .sub (.proj (.var 5) 0) (.int .i64 (5))) .nil)))) (.cons (.mk (.cons (.fld (.proj (.var 5) 1) 0 1 false) (.cons (.fld (.proj (.var 5) 1) 1 1 false) (.cons (.fld (.proj (.var 5) 1) 2 1 false) .nil)))) .nil)))) (
     .join (
      .chk [] (.dfd (.bin .eql (.proj (.var 2) 0) (.int .i64 (4)))) <|
      .ite (.bin .eql (.proj (.var 2) 0) (.int .i64 (4))) (
       .jmp 0 (.cons (.bin .eql (.proj (.var 2) 0) (.int .i64 (4))) .nil)) (
       .chk [] (.dfd (.bin .eql (.proj (.var 2) 0) (.int .i64 (5)))) <|
       .jmp 0 (.cons (.bin .eql (.proj (.var 2) 0) (.int .i64 (5))) .nil))) (
      .ite (.var 4) (
       .call [] (.inl 44) (.cons (.ref (.mk (.cons (.fld (.proj (.var 2) 1) 0 1 false) (.cons (.fld (.proj (.var 2) 1) 1 1 false) (.cons (.fld (.proj (.var 2) 1) 2 1 false) .nil))))) (.cons (.len (.fld (.var 1) 2 1 false)) .nil)) <|
       .chk [] (.cells (.proj (.var 5) 0) 1) <|
       .ret (.tup (.cons (.mk (.cons (.int .i64 (3)) (.cons (.proj (.var 5) 0) (.cons (.int .i64 (0)) .nil)))) (.cons (.mk (.cons (.fld (.proj (.var 5) 1) 0 1 false) (.cons (.fld (.proj (.var 5) 1) 1 1 false) (.cons (.fld (.proj (.var 5) 1) 2 1 false) .nil)))) .nil)))) (
       .ret (.tup (.cons (.mk (.cons (.int .i64 (4)) (.cons (.int .i64 (0)) (.cons (.int .i64 (0)) .nil)))) (.cons (.mk (.cons (.fld (.proj (.var 2) 1) 0 1 false) (.cons (.fld (.proj (.var 2) 1) 1 1 false) (.cons (.fld (.proj (.var 2) 1) 2 1 false) .nil)))) .nil))))))))
theorem C___spec_l1Cur__renewAct : comp Try.prog sgs 43 = some T___spec_l1Cur__renewAct := by kernel_rfl
theorem R___spec_l1Cur__renewAct (a0 : DL1Cur) (a1 : DRenew) (r : DRenewAct × DL1Cur) (h : m___spec_l1Cur__renewAct a0 a1 = some r) : Rts Try.prog sgs 43 [avRL1Cur a0, avRenew a1] (avTRenewActL1CurZ2 r) := by
  refine rts_of C___spec_l1Cur__renewAct (by kernel_rfl) ?_
  unfold Den T___spec_l1Cur__renewAct
  unfold m___spec_l1Cur__renewAct at h
  refine s_chk (by simp) ?_
  refine s_chk (by simp) ?_
  refine s_call avTI64L1CurZ2 h (fun x hx => by simpa using R___spec_l1Cur__pick a0 8 x hx) (fun v1 cv1 h => ?_)
  refine s_join (emb := (fun s : Bool => [.bool s])) (K := (fun s => m___spec_l1Cur__renewAct_j1 a1 v1 s)) (r := r) (fun v3 h => ?_) (fun j2 hj2 => ?_)
  · replace h : m___spec_l1Cur__renewAct_j1 a1 v1 v3 = some r := h
    unfold m___spec_l1Cur__renewAct_j1 at h
    refine s_ite h (by simp) (fun e4 h => ?_) (fun e4 h => ?_)
    · refine s_chk (by simp) ?_
      refine s_chk (by simp) ?_
      refine s_chk (by simp) ?_
      refine s_chk (by simp) ?_
      refine s_chk (by simp) ?_
      refine s_chk (by simp) ?_
      refine s_chk (by simp) ?_
      refine s_call avTI64L1CurZ2 h (fun x hx => by simpa using R___spec_l1Cur__among v1.2 ([1, 2, 5, 9, 14, 30, 50] : List Int) x hx) (fun v5 cv5 h => ?_)
      refine s_chk (by simp) ?_
      exact s_ret (av := avTRenewActL1CurZ2) h (by simp)
    · refine s_chk (by simp) ?_
      refine s_ite h (by simp) (fun e6 h => ?_) (fun e6 h => ?_)
      · refine s_call avTI64L1CurZ2 h (fun x hx => by simpa using R___spec_l1Cur__pick v1.2 (IntKind.i64.wrap ((a1.fClocks.length : Int) + 1)) x hx) (fun v7 cv7 h => ?_)
        refine s_call avTI64L1CurZ2 h (fun x hx => by simpa using R___spec_l1Cur__pick v7.2 11 x hx) (fun v8 cv8 h => ?_)
        refine s_chk (by simp) ?_
        refine s_chk (by simp) ?_
        refine s_chk (by simp) ?_
        exact s_ret (av := avTRenewActL1CurZ2) h (by simp)
      · refine s_joinI fun j9 hj9 => ?_
        refine s_chk (by simp) ?_
        refine s_ite h (by simp) (fun e10 h => ?_) (fun e10 h => ?_)
        · refine s_jmpI hj9 rfl (vs := [.bool (v1.1 == 4)]) (by simp) ?_
          refine s_iteT (by simp [e4, e6, e10]) ?_
          refine s_call avTI64L1CurZ2 h (fun x hx => by simpa using R___spec_l1Cur__pick v1.2 (a1.fClocks.length : Int) x hx) (fun v11 cv11 h => ?_)
          refine s_chk (by simp) ?_
          exact s_ret (av := avTRenewActL1CurZ2) h (by simp)
        · refine s_chk (by simp) ?_
          refine s_jmpI hj9 rfl (vs := [.bool (v1.1 == 5)]) (by simp) ?_
          refine s_ite h (by simp) (fun e12 h => ?_) (fun e12 h => ?_)
          · refine s_call avTI64L1CurZ2 h (fun x hx => by simpa using R___spec_l1Cur__pick v1.2 (a1.fClocks.length : Int) x hx) (fun v13 cv13 h => ?_)
            refine s_chk (by simp) ?_
            exact s_ret (av := avTRenewActL1CurZ2) h (by simp)
          · exact s_ret (av := avTRenewActL1CurZ2) h (by simp)
  · refine s_chk (by simp) ?_
    refine s_ite h (by simp) (fun e14 h => ?_) (fun e14 h => ?_)
    · exact s_jmp (s := (v1.1 == 0)) hj2 h rfl (by simp)
    · refine s_chk (by simp) ?_
      refine s_ite h (by simp) (fun e15 h => ?_) (fun e15 h => ?_)
      · exact s_jmp (s := (v1.1 == 1)) hj2 h rfl (by simp)
      · refine s_chk (by simp) ?_
        exact s_jmp (s := (v1.1 == 2)) hj2 h rfl (by simp)
def T___spec_l1Cur__renewActs : Tr :=
  .chk [] (.agg (.var 1) 5) <|
  .chk [] (.dfd (.bin .add (.var 2) (.int .i64 (1)))) <|
  .call [] (.inl 44) (.cons (.ref (.mk (.cons (.fld (.deref (.var 0)) 0 1 false) (.cons (.fld (.deref (.var 0)) 1 1 false) (.cons (.fld (.deref (.var 0)) 2 1 false) .nil))))) (.cons (.bin .add (.var 2) (.int .i64 (1))) .nil)) <|
  .loop (.cons (.lst .nil) (.cons (.proj (.var 3) 0) (.cons (.fld (.proj (.var 3) 1) 0 1 false) (.cons (.fld (.proj (.var 3) 1) 1 1 false) (.cons (.fld (.proj (.var 3) 1) 2 1 false) .nil))))) (
   .chk [] (.dfd (.bin .gtr (.var 5) (.int .i64 (0)))) <|
   .ite (.bin .gtr (.var 5) (.int .i64 (0))) (
    .call [] (.inl 43) (.cons (.ref (.mk (.cons (.var 6) (.cons (.var 7) (.cons (.var 8) .nil))))) (.cons (.mk (.cons (.fld (.var 1) 0 1 false) (.cons (.fld (.var 1) 1 1 false) (.cons (.fld (.var 1) 2 1 false) (.cons (.fld (.var 1) 3 1 false) (.cons (.fld (.var 1) 4 1 false) .nil)))))) .nil)) <|
    .chk [] (.flat (.proj (.var 9) 0) 3 true) <|
    .chk [] (.room (.var 4) (.lst (.cons (.proj (.var 9) 0) .nil)) 24) <|
    .chk [] (.flatS (.lst (.cons (.proj (.var 9) 0) .nil)) 3) <|
    .chk [] (.dfd (.bin .sub (.var 5) (.int .i64 (1)))) <|
    .jmp 0 (.cons (.app (.var 4) (.lst (.cons (.proj (.var 9) 0) .nil))) (.cons (.bin .sub (.var 5) (.int .i64 (1))) (.cons (.fld (.proj (.var 9) 1) 0 1 false) (.cons (.fld (.proj (.var 9) 1) 1 1 false) (.cons (.fld (.proj (.var 9) 1) 2 1 false) .nil)))))) (
    .jmp 1 (.cons (.var 6) (.cons (.var 7) (.cons (.var 8) (.cons (.var 4) .nil)))))) (
   .ret (.tup (.cons (.var 7) (.cons (.mk (.cons (.var 4) (.cons (.var 5) (.cons (.var 6) .nil)))) .nil))))
theorem C___spec_l1Cur__renewActs : comp Try.prog sgs 81 = some T___spec_l1Cur__renewActs := by kernel_rfl
theorem R___spec_l1Cur__renewActs (a0 : DL1Cur) (a1 : DRenew) (a2 : Int) (r : List DRenewAct × DL1Cur) (h : m___spec_l1Cur__renewActs a0 a1 a2 = some r) : Rts Try.prog sgs 81 [avRL1Cur a0, avRenew a1, .int .i64 a2] (avTSRenewActL1CurZ2 r) := by
  refine rts_of C___spec_l1Cur__renewActs (by kernel_rfl) ?_
  unfold Den T___spec_l1Cur__renewActs
  unfold m___spec_l1Cur__renewActs at h
  refine s_chk (by simp) ?_
  refine s_chk (by simp) ?_
  refine s_call avTI64L1CurZ2 h (fun x hx => by simpa using R___spec_l1Cur__pick a0 (IntKind.i64.wrap (a2 + 1)) x hx) (fun v1 cv1 h => ?_)
  refine s_loop (fun s : List DRenewAct × Int × List Int × Int × Int => [.sl (s.1.map avRenewAct), .int .i64 s.2.1, .sl (s.2.2.1.map avU8), .int .i64 s.2.2.2.1, .int .u64 s.2.2.2.2]) h (by simp) (fun W1 A1 s o1 h hn1 hf1 hk1 => ?_)
  obtain ⟨v2, v3, v4, v5, v6⟩ := s
  replace h : m___spec_l1Cur__renewActs_b1 a1 v2 v3 v4 v5 v6 = some o1 := h
  unfold m___spec_l1Cur__renewActs_b1 at h
  refine s_chk (by simp) ?_
  refine s_ite h (by simp) (fun e7 h => ?_) (fun e7 h => ?_)
  · refine s_call avTRenewActL1CurZ2 h (fun x hx => by simpa using R___spec_l1Cur__renewAct (⟨v4, v5, v6⟩ : DL1Cur) a1 x hx) (fun v8 cv8 h => ?_)
    refine s_chk (by simp) ?_
    obtain ⟨q9, h⟩ := reqE h
    refine s_chk (fun _ => c_room (show _ = AV.sl (List.map avRenewAct v2) from by simp) (show _ = AV.sl (List.map avRenewAct ([v8.1] : List DRenewAct)) from by simp) (by simpa using q9)) ?_
    refine s_chk (fun _ => c_flatS avRenewAct (show _ = AV.sl (List.map avRenewAct ([v8.1] : List DRenewAct)) from by simp) (by simp)) ?_
    refine s_chk (by simp) ?_
    exact s_jmp (K := fun s => some (Sum.inl s)) (s := ((v2 ++ [v8.1]), (IntKind.i64.wrap (v3 - 1)), v8.2.fcode, v8.2.fat, v8.2.fseed)) hn1 h rfl (by simp)
  · refine s_jmpI hk1 rfl (vs := [.sl (v4.map avU8), .int .i64 v5, .int .u64 v6, .sl (v2.map avRenewAct)]) (by simp) ?_
    replace h := (hf1 _ h)
    exact s_ret (av := avTSRenewActL1CurZ2) h (by simp)
def T_spec_l2Clock : Tr :=
  .chk [] (.agg (.var 0) 1) <|
  .call [] (.inl 55) (.cons (.fld (.var 0) 0 1 false) (.cons (.int .i64 (-5)) (.cons (.int .i64 (5)) .nil))) <|
  .ret (.var 1)
theorem C_spec_l2Clock : comp Try.prog sgs 64 = some T_spec_l2Clock := by kernel_rfl
theorem R_spec_l2Clock (a0 : DClock) (r : Bool) (h : m_spec_l2Clock a0 = some r) : Rts Try.prog sgs 64 [avClock a0] (.bool r) := by
  refine rts_of C_spec_l2Clock (by kernel_rfl) ?_
  unfold Den T_spec_l2Clock
  unfold m_spec_l2Clock at h
  refine s_chk (by simp) ?_
  refine s_call avB h (fun x hx => by simpa using R_spec_l1In a0.fOff (-5) 5 x hx) (fun v1 cv1 h => ?_)
  exact s_ret (av := avB) h (by simp)
def T_spec_GoodClock : Tr :=
  .chk [] (.agg (.var 0) 1) <|
  .call [] (.inl 64) (.cons (.mk (.cons (.fld (.var 0) 0 1 false) .nil)) .nil) <|
  .ret (.var 1)
theorem C_spec_GoodClock : comp Try.prog sgs 61 = some T_spec_GoodClock := by kernel_rfl
theorem R_spec_GoodClock (a0 : DClock) (r : Bool) (h : m_spec_GoodClock a0 = some r) : Rts Try.prog sgs 61 [avClock a0] (.bool r) := by
  refine rts_of C_spec_GoodClock (by kernel_rfl) ?_
  unfold Den T_spec_GoodClock
  unfold m_spec_GoodClock at h
  refine s_chk (by simp) ?_
  refine s_call avB h (fun x hx => by simpa using R_spec_l2Clock a0 x hx) (fun v1 cv1 h => ?_)
  exact s_ret (av := avB) h (by simp)
def T_spec_l28Clocks : Tr :=
  .chk [] (.dfd (.len (.var 0))) <|
  .loop (.cons (.int .i64 (0)) .nil) (
   .chk [] (.dfd (.bin .lss (.var 1) (.len (.var 0)))) <|
   .ite (.bin .lss (.var 1) (.len (.var 0))) (
    .chk [] (.inb (.var 1) (.var 0) 1) <|
    .chk [] (.agg (.fld (.idx (.var 0) (.var 1)) 0 1 true) 1) <|
    .call [] (.inl 61) (.cons (.mk (.cons (.fld (.fld (.idx (.var 0) (.var 1)) 0 1 true) 0 1 false) .nil)) .nil) <|
    .chk [] (.dfd (.not (.var 2))) <|
    .ite (.not (.var 2)) (
     .ret (.bool false)) (
     .chk [] (.dfd (.bin .add (.var 1) (.int .i64 (1)))) <|
     .jmp 0 (.cons (.bin .add (.var 1) (.int .i64 (1))) .nil))) (
    .jmp 1 .nil)) (
   .chk [] (.dfd (.len (.var 0))) <|
   .call [] (.inl 55) (.cons (.len (.var 0)) (.cons (.int .i64 (1)) (.cons (.int .i64 (3)) .nil))) <|
   .ret (.var 1))
theorem C_spec_l28Clocks : comp Try.prog sgs 62 = some T_spec_l28Clocks := by kernel_rfl
theorem R_spec_l28Clocks (a0 : List DClock) (r : Bool) (h : m_spec_l28Clocks a0 = some r) : Rts Try.prog sgs 62 [.sl (a0.map avClock)] (.bool r) := by
  refine rts_of C_spec_l28Clocks (by kernel_rfl) ?_
  unfold Den T_spec_l28Clocks
  unfold m_spec_l28Clocks at h
  refine s_chk (by simp) ?_
  refine s_loopK (fun s : Int => [.int .i64 s]) (fun s : Unit => []) h (by simp) (K := (fun s => m_spec_l28Clocks_k1 a0)) (fun s h => ?_) (fun W1 A1 v2 o1 h hn1 hf1 hk1 => ?_)
  · replace h : m_spec_l28Clocks_k1 a0 = some r := h
    unfold m_spec_l28Clocks_k1 at h
    refine s_chk (by simp) ?_
    refine s_call avB h (fun x hx => by simpa using R_spec_l1In (a0.length : Int) 1 3 x hx) (fun v1 cv1 h => ?_)
    exact s_ret (av := avB) h (by simp)
  · replace h : m_spec_l28Clocks_b2 a0 v2 = some o1 := h
    unfold m_spec_l28Clocks_b2 at h
    refine s_chk (by simp) ?_
    refine s_ite h (by simp) (fun e3 h => ?_) (fun e3 h => ?_)
    · obtain ⟨y4, hy4, h⟩ := bindE h
      have hy4' := (getIE hy4).2.2
      refine s_chk (fun _ => c_inb (kk := .i64) (f := avClock) (by simp) (by simp) hy4 (by simp)) ?_
      refine s_chk (by simp [e3, hy4']) ?_
      refine s_call avB h (fun x hx => by simpa [e3, hy4'] using R_spec_GoodClock y4 x hx) (fun v5 cv5 h => ?_)
      refine s_chk (by simp) ?_
      refine s_ite h (by simp) (fun e6 h => ?_) (fun e6 h => ?_)
      · exact s_ret (av := avB) (hf1 _ h) (by simp)
      · refine s_chk (by simp) ?_
        exact s_jmp (K := fun s => some (Sum.inl s)) (s := (IntKind.i64.wrap (v2 + 1))) hn1 h rfl (by simp)
    · exact s_jmp (s := ()) hk1 (hf1 _ h) rfl (by simp)
def T_spec_GoodRenew : Tr :=
  .chk [] (.agg (.var 0) 5) <|
  .call [] (.inl 55) (.cons (.fld (.var 0) 0 1 false) (.cons (.int .i64 (0)) (.cons (.int .i64 (1000)) .nil))) <|
  .chk [] (.dfd (.not (.var 1))) <|
  .call [((.not (.var 1)), false)] (.inl 61) (.cons (.mk (.cons (.fld (.var 0) 1 1 false) .nil)) .nil) <|
  .chk [((.not (.var 1)), false)] (.dfd (.not (.var 2))) <|
  .chk [] (.dfd (.not (.not (.var 1)))) <|
  .call [((.ite (.not (.var 1)) (.bool true) (.not (.var 2))), false)] (.inl 62) (.cons (.fld (.var 0) 2 1 false) .nil) <|
  .chk [((.ite (.not (.var 1)) (.bool true) (.not (.var 2))), false)] (.dfd (.not (.var 3))) <|
  .chk [] (.dfd (.not (.ite (.not (.var 1)) (.bool true) (.not (.var 2))))) <|
  .call [((.ite (.ite (.not (.var 1)) (.bool true) (.not (.var 2))) (.bool true) (.not (.var 3))), false)] (.inl 55) (.cons (.fld (.var 0) 3 1 false) (.cons (.int .i64 (0)) (.cons (.int .i64 (20)) .nil))) <|
  .chk [((.ite (.ite (.not (.var 1)) (.bool true) (.not (.var 2))) (.bool true) (.not (.var 3))), false)] (.dfd (.not (.var 4))) <|
  .chk [] (.dfd (.not (.ite (.ite (.not (.var 1)) (.bool true) (.not (.var 2))) (.bool true) (.not (.var 3))))) <|
  .chk [((.ite (.ite (.ite (.not (.var 1)) (.bool true) (.not (.var 2))) (.bool true) (.not (.var 3))) (.bool true) (.not (.var 4))), false)] (.dfd (.len (.fld (.var 0) 4 1 false))) <|
  .chk [((.ite (.ite (.ite (.not (.var 1)) (.bool true) (.not (.var 2))) (.bool true) (.not (.var 3))) (.bool true) (.not (.var 4))), false)] (.dfd (.len (.fld (.var 0) 2 1 false))) <|
  .chk [] (.dfd (.not (.ite (.ite (.ite (.not (.var 1)) (.bool true) (.not (.var 2))) (.bool true) (.not (.var 3))) (.bool true) (.not (.var 4))))) <|
  .ite (.ite (.ite (.ite (.ite (.not (.var 1)) (.bool true) (.not (.var 2))) (.bool true) (.not (.var 3))) (.bool true) (.not (.var 4))) (.bool true) (.bin .neq (.len (.fld (.var 0) 4 1 false)) (.len (.fld (.var 0) 2 1 false)))) (
   .ret (.bool false)) (
   .chk [] (.dfd (.len (.fld (.var 0) 4 1 false))) <|
   .loop (.cons (.int .i64 (0)) .nil) (
    .chk [] (.dfd (.bin .lss (.var 5) (.len (.fld (.var 0) 4 1 false)))) <|
    .ite (.bin .lss (.var 5) (.len (.fld (.var 0) 4 1 false))) (
     .chk [] (.inb (.var 5) (.fld (.var 0) 4 1 false) 2) <|
     .chk [] (.agg (.fld (.idx (.fld (.var 0) 4 1 false) (.var 5)) 0 2 true) 2) <|
     .call [] (.inl 55) (.cons (.fld (.fld (.idx (.fld (.var 0) 4 1 false) (.var 5)) 0 2 true) 0 1 false) (.cons (.int .i64 (0)) (.cons (.fld (.var 0) 3 1 false) .nil))) <|
     .chk [] (.dfd (.not (.var 6))) <|
     .call [((.not (.var 6)), false)] (.inl 55) (.cons (.fld (.fld (.idx (.fld (.var 0) 4 1 false) (.var 5)) 0 2 true) 1 1 false) (.cons (.int .i64 (0)) (.cons (.int .i64 (1020)) .nil))) <|
     .chk [((.not (.var 6)), false)] (.dfd (.not (.var 7))) <|
     .chk [] (.dfd (.not (.not (.var 6)))) <|
     .ite (.ite (.not (.var 6)) (.bool true) (.not (.var 7))) (
      .ret (.bool false)) (
      .chk [] (.dfd (.bin .add (.var 5) (.int .i64 (1)))) <|
      .jmp 0 (.cons (.bin .add (.var 5) (.int .i64 (1))) .nil))) (
     .jmp 1 .nil)) (
    .ret (.bool true)))
theorem C_spec_GoodRenew : comp Try.prog sgs 17 = some T_spec_GoodRenew := by kernel_rfl
theorem R_spec_GoodRenew (a0 : DRenew) (r : Bool) (h : m_spec_GoodRenew a0 = some r) : Rts Try.prog sgs 17 [avRenew a0] (.bool r) := by
  refine rts_of C_spec_GoodRenew (by kernel_rfl) ?_
  unfold Den T_spec_GoodRenew
  unfold m_spec_GoodRenew at h
  refine s_chk (by simp) ?_
  refine s_call avB h (fun x hx => by simpa using R_spec_l1In a0.fNow 0 1000 x hx) (fun v1 cv1 h => ?_)
  refine s_chk (by simp) ?_
  refine s_split h (fun e2 h => ?_) (fun e2 h => ?_)
  · refine s_call avB h (fun x hx => by simpa using R_spec_GoodClock a0.fMaster x hx) (fun v3 cv3 h => ?_)
    refine s_chk (by simp) ?_
    refine s_chk (by simp) ?_
    refine s_split h (fun e4 h => ?_) (fun e4 h => ?_)
    · refine s_call avB h (fun x hx => by simpa using R_spec_l28Clocks a0.fClocks x hx) (fun v5 cv5 h => ?_)
      refine s_chk (by simp) ?_
      refine s_chk (by simp [e2, e4]) ?_
      refine s_split h (fun e6 h => ?_) (fun e6 h => ?_)
      · refine s_call avB h (fun x hx => by simpa using R_spec_l1In a0.fVer 0 20 x hx) (fun v7 cv7 h => ?_)
        refine s_chk (by simp) ?_
        refine s_chk (by simp [e2, e4, e6]) ?_
        refine s_chk (by simp) ?_
        refine s_chk (by simp) ?_
        refine s_chk (by simp [e2, e4, e6]) ?_
        refine s_ite h (by simp [e2, e4, e6]) (fun e8 h => ?_) (fun e8 h => ?_)
        · exact s_ret (av := avB) h (by simp)
        · refine s_chk (by simp) ?_
          refine s_loop (fun s : Int => [.int .i64 s]) h (by simp) (fun W1 A1 v9 o1 h hn1 hf1 hk1 => ?_)
          replace h : m_spec_GoodRenew_b1 a0 v9 = some o1 := h
          unfold m_spec_GoodRenew_b1 at h
          refine s_chk (by simp) ?_
          refine s_ite h (by simp) (fun e10 h => ?_) (fun e10 h => ?_)
          · obtain ⟨y11, hy11, h⟩ := bindE h
            have hy11' := (getIE hy11).2.2
            refine s_chk (fun _ => c_inb (kk := .i64) (f := avVLease) (by simp) (by simp) hy11 (by simp)) ?_
            refine s_chk (by simp [e2, e4, e6, e8, e10, hy11']) ?_
            refine s_call avB h (fun x hx => by simpa [e2, e4, e6, e8, e10, hy11'] using R_spec_l1In y11.fVer 0 a0.fVer x hx) (fun v12 cv12 h => ?_)
            refine s_chk (by simp) ?_
            refine s_split h (fun e13 h => ?_) (fun e13 h => ?_)
            · refine s_call avB h (fun x hx => by simpa [e2, e4, e6, e8, e10, hy11', e13] using R_spec_l1In y11.fUntil 0 1020 x hx) (fun v14 cv14 h => ?_)
              refine s_chk (by simp) ?_
              refine s_chk (by simp) ?_
              refine s_ite h (by simp [e2, e4, e6, e8, e10, hy11', e13]) (fun e15 h => ?_) (fun e15 h => ?_)
              · exact s_ret (av := avB) (hf1 _ h) (by simp)
              · refine s_chk (by simp) ?_
                exact s_jmp (K := fun s => some (Sum.inl s)) (s := (IntKind.i64.wrap (v9 + 1))) hn1 h rfl (by simp)
            · refine s_skip (by simp [e2, e4, e6, e8, e10, hy11', e13]) ?_
              refine s_chk (by simp [e2, e4, e6, e8, e10, hy11', e13]) ?_
              refine s_chk (by simp) ?_
              refine s_iteT (by simp [e2, e4, e6, e8, e10, hy11', e13]) ?_
              exact s_ret (av := avB) (hf1 _ h) (by simp)
          · refine s_jmpI hk1 rfl (vs := []) (by simp) ?_
            replace h := (hf1 _ h)
            exact s_ret (av := avB) h (by simp)
      · refine s_skip (by simp [e2, e4, e6]) ?_
        refine s_chk (by simp [e2, e4, e6]) ?_
        refine s_chk (by simp [e2, e4, e6]) ?_
        refine s_chk (by simp [e2, e4, e6]) ?_
        refine s_chk (by simp [e2, e4, e6]) ?_
        refine s_chk (by simp [e2, e4, e6]) ?_
        refine s_iteT (by simp [e2, e4, e6]) ?_
        exact s_ret (av := avB) h (by simp)
    · refine s_skip (by simp [e2, e4]) ?_
      refine s_chk (by simp [e2, e4]) ?_
      refine s_chk (by simp [e2, e4]) ?_
      refine s_skip (by simp [e2, e4]) ?_
      refine s_chk (by simp [e2, e4]) ?_
      refine s_chk (by simp [e2, e4]) ?_
      refine s_chk (by simp [e2, e4]) ?_
      refine s_chk (by simp [e2, e4]) ?_
      refine s_chk (by simp [e2, e4]) ?_
      refine s_iteT (by simp [e2, e4]) ?_
      exact s_ret (av := avB) h (by simp)
  · refine s_skip (by simp [e2]) ?_
    refine s_chk (by simp [e2]) ?_
    refine s_chk (by simp) ?_
    refine s_skip (by simp [e2]) ?_
    refine s_chk (by simp [e2]) ?_
    refine s_chk (by simp [e2]) ?_
    refine s_skip (by simp [e2]) ?_
    refine s_chk (by simp [e2]) ?_
    refine s_chk (by simp [e2]) ?_
    refine s_chk (by simp [e2]) ?_
    refine s_chk (by simp [e2]) ?_
    refine s_chk (by simp [e2]) ?_
    refine s_iteT (by simp [e2]) ?_
    exact s_ret (av := avB) h (by simp)
def T_spec_l28Own : Tr :=
  .chk [] (.agg (.var 0) 5) <|
  .chk [] (.room (.lst .nil) (.fld (.var 0) 2 1 false) 8) <|
  .chk [] (.flatS (.fld (.var 0) 2 1 false) 1) <|
  .chk [] (.room (.lst .nil) (.fld (.var 0) 4 1 false) 16) <|
  .chk [] (.flatS (.fld (.var 0) 4 1 false) 2) <|
  .ret (.mk (.cons (.fld (.var 0) 0 1 false) (.cons (.fld (.var 0) 1 1 false) (.cons (.app (.lst .nil) (.fld (.var 0) 2 1 false)) (.cons (.fld (.var 0) 3 1 false) (.cons (.app (.lst .nil) (.fld (.var 0) 4 1 false)) .nil))))))
theorem C_spec_l28Own : comp Try.prog sgs 50 = some T_spec_l28Own := by kernel_rfl
theorem R_spec_l28Own (a0 : DRenew) (r : DRenew) (h : m_spec_l28Own a0 = some r) : Rts Try.prog sgs 50 [avRenew a0] (avRenew r) := by
  refine rts_of C_spec_l28Own (by kernel_rfl) ?_
  unfold Den T_spec_l28Own
  unfold m_spec_l28Own at h
  refine s_chk (by simp) ?_
  obtain ⟨q1, h⟩ := reqE h
  refine s_chk (fun _ => c_room (show _ = AV.sl (List.map avClock ([] : List DClock)) from by simp) (show _ = AV.sl (List.map avClock a0.fClocks) from by simp) (by simpa using q1)) ?_
  refine s_chk (fun _ => c_flatS avClock (show _ = AV.sl (List.map avClock a0.fClocks) from by simp) (by simp)) ?_
  obtain ⟨q2, h⟩ := reqE h
  refine s_chk (fun _ => c_room (show _ = AV.sl (List.map avVLease ([] : List DVLease)) from by simp) (show _ = AV.sl (List.map avVLease a0.fLeases) from by simp) (by simpa using q2)) ?_
  refine s_chk (fun _ => c_flatS avVLease (show _ = AV.sl (List.map avVLease a0.fLeases) from by simp) (by simp)) ?_
  exact s_ret (av := avRenew) h (by simp)
def T_spec_l28Good : Tr :=
  .chk [] (.agg (.var 0) 5) <|
  .chk [] (.agg (.var 1) 3) <|
  .chk [] (.dfd (.bin .eql (.fld (.var 1) 0 1 false) (.int .i64 (1)))) <|
  .ite (.bin .eql (.fld (.var 1) 0 1 false) (.int .i64 (1))) (
   .chk [] (.dfd (.bin .eql (.fld (.var 1) 1 1 false) (.int .i64 (0)))) <|
   .call [((.bin .eql (.fld (.var 1) 1 1 false) (.int .i64 (0))), true)] (.inl 55) (.cons (.fld (.var 1) 2 1 false) (.cons (.int .i64 (1)) (.cons (.int .i64 (50)) .nil))) <|
   .chk [] (.dfd (.not (.bin .eql (.fld (.var 1) 1 1 false) (.int .i64 (0))))) <|
   .ret (.ite (.bin .eql (.fld (.var 1) 1 1 false) (.int .i64 (0))) (.var 2) (.bool false))) (
   .chk [] (.dfd (.bin .eql (.fld (.var 1) 0 1 false) (.int .i64 (2)))) <|
   .ite (.bin .eql (.fld (.var 1) 0 1 false) (.int .i64 (2))) (
    .chk [] (.dfd (.len (.fld (.var 0) 2 1 false))) <|
    .call [] (.inl 55) (.cons (.fld (.var 1) 1 1 false) (.cons (.int .i64 (0)) (.cons (.len (.fld (.var 0) 2 1 false)) .nil))) <|
    .chk [((.var 2), true)] (.cells (.fld (.var 1) 2 1 false) 1) <|
    .call [((.var 2), true)] (.inl 61) (.cons (.mk (.cons (.fld (.var 1) 2 1 false) .nil)) .nil) <|
    .chk [] (.dfd (.not (.var 2))) <|
    .ret (.ite (.var 2) (.var 3) (.bool false))) (
    .chk [] (.dfd (.bin .eql (.fld (.var 1) 0 1 false) (.int .i64 (3)))) <|
    .ite (.bin .eql (.fld (.var 1) 0 1 false) (.int .i64 (3))) (
     .chk [] (.dfd (.len (.fld (.var 0) 2 1 false))) <|
     .call [] (.inl 55) (.cons (.fld (.var 1) 1 1 false) (.cons (.int .i64 (0)) (.cons (.bin .sub (.len (.fld (.var 0) 2 1 false)) (.int .i64 (1))) .nil))) <|
     .chk [((.var 2), true)] (.dfd (.bin .eql (.fld (.var 1) 2 1 false) (.int .i64 (0)))) <|
     .chk [] (.dfd (.not (.var 2))) <|
     .ret (.ite (.var 2) (.bin .eql (.fld (.var 1) 2 1 false) (.int .i64 (0))) (.bool false))) (
     .chk [] (.dfd (.bin .eql (.fld (.var 1) 0 1 false) (.int .i64 (4)))) <|
     .ite (.bin .eql (.fld (.var 1) 0 1 false) (.int .i64 (4))) (
      .chk [] (.dfd (.bin .eql (.fld (.var 1) 1 1 false) (.int .i64 (0)))) <|
      .chk [((.bin .eql (.fld (.var 1) 1 1 false) (.int .i64 (0))), true)] (.dfd (.bin .eql (.fld (.var 1) 2 1 false) (.int .i64 (0)))) <|
      .chk [] (.dfd (.not (.bin .eql (.fld (.var 1) 1 1 false) (.int .i64 (0))))) <|
      .ret (.ite (.bin .eql (.fld (.var 1) 1 1 false) (.int .i64 (0))) (.bin .eql (.fld (.var 1) 2 1 false) (.int .i64 (0))) (.bool false))) (
      .ret (.bool false)))))
theorem C_spec_l28Good : comp Try.prog sgs 82 = some T_spec_l28Good := by kernel_rfl
theorem R_spec_l28Good (a0 : DRenew) (a1 : DRenewAct) (r : Bool) (h : m_spec_l28Good a0 a1 = some r) : Rts Try.prog sgs 82 [avRenew a0, avRenewAct a1] (.bool r) := by
  refine rts_of C_spec_l28Good (by kernel_rfl) ?_
  unfold Den T_spec_l28Good
  unfold m_spec_l28Good at h
  refine s_chk (by simp) ?_
  refine s_chk (by simp) ?_
  refine s_chk (by simp) ?_
  refine s_ite h (by simp) (fun e1 h => ?_) (fun e1 h => ?_)
  · refine s_chk (by simp) ?_
    refine s_split h (fun e2 h => ?_) (fun e2 h => ?_)
    · refine s_call avB h (fun x hx => by simpa using R_spec_l1In a1.fBy 1 50 x hx) (fun v3 cv3 h => ?_)
      refine s_chk (by simp) ?_
      exact s_ret (av := avB) h (by simp [e1, e2])
    · refine s_skip (by simp [e1, e2]) ?_
      refine s_chk (by simp) ?_
      exact s_ret (av := avB) h (by simp [e1, e2])
  · refine s_chk (by simp) ?_
    refine s_ite h (by simp) (fun e4 h => ?_) (fun e4 h => ?_)
    · refine s_chk (by simp) ?_
      refine s_call avB h (fun x hx => by simpa using R_spec_l1In a1.fWho 0 (a0.fClocks.length : Int) x hx) (fun v5 cv5 h => ?_)
      refine s_chk (by simp) ?_
      refine s_split h (fun e6 h => ?_) (fun e6 h => ?_)
      · refine s_call avB h (fun x hx => by simpa using R_spec_GoodClock (⟨a1.fBy⟩ : DClock) x hx) (fun v7 cv7 h => ?_)
        refine s_chk (by simp) ?_
        exact s_ret (av := avB) h (by simp [e1, e4, e6])
      · refine s_skip (by simp [e1, e4, e6]) ?_
        refine s_chk (by simp) ?_
        exact s_ret (av := avB) h (by simp [e1, e4, e6])
    · refine s_chk (by simp) ?_
      refine s_ite h (by simp) (fun e8 h => ?_) (fun e8 h => ?_)
      · refine s_chk (by simp) ?_
        refine s_call avB h (fun x hx => by simpa using R_spec_l1In a1.fWho 0 (IntKind.i64.wrap ((a0.fClocks.length : Int) - 1)) x hx) (fun v9 cv9 h => ?_)
        refine s_chk (by simp) ?_
        refine s_chk (by simp) ?_
        exact s_ret (av := avB) h (by simp [e1, e4, e8])
      · refine s_chk (by simp) ?_
        refine s_ite h (by simp) (fun e10 h => ?_) (fun e10 h => ?_)
        · refine s_chk (by simp) ?_
          refine s_chk (by simp) ?_
          refine s_chk (by simp) ?_
          exact s_ret (av := avB) h (by simp [e1, e4, e8, e10])
        · exact s_ret (av := avB) h (by simp)
def T_spec_l28Low : Tr :=
  .chk [] (.agg (.var 0) 5) <|
  .chk [] (.agg (.var 1) 1) <|
  .chk [] (.dfd (.bin .add (.fld (.var 0) 0 1 false) (.fld (.var 1) 0 1 false))) <|
  .chk [] (.dfd (.bin .sub (.bin .add (.fld (.var 0) 0 1 false) (.fld (.var 1) 0 1 false)) (.int .i64 (5)))) <|
  .ret (.bin .sub (.bin .add (.fld (.var 0) 0 1 false) (.fld (.var 1) 0 1 false)) (.int .i64 (5)))
theorem C_spec_l28Low : comp Try.prog sgs 91 = some T_spec_l28Low := by kernel_rfl
theorem R_spec_l28Low (a0 : DRenew) (a1 : DClock) (r : Int) (h : m_spec_l28Low a0 a1 = some r) : Rts Try.prog sgs 91 [avRenew a0, avClock a1] (.int .i64 r) := by
  refine rts_of C_spec_l28Low (by kernel_rfl) ?_
  unfold Den T_spec_l28Low
  unfold m_spec_l28Low at h
  refine s_chk (by simp) ?_
  refine s_chk (by simp) ?_
  refine s_chk (by simp) ?_
  refine s_chk (by simp) ?_
  exact s_ret (av := avI64) h (by simp)
def T_spec_l28Raise : Tr :=
  .chk [] (.agg (.var 0) 5) <|
  .chk [] (.dfd (.len (.fld (.var 0) 4 1 false))) <|
  .loop (.cons (.int .i64 (0)) .nil) (
   .chk [] (.dfd (.bin .lss (.var 1) (.len (.fld (.var 0) 4 1 false)))) <|
   .ite (.bin .lss (.var 1) (.len (.fld (.var 0) 4 1 false))) (
    .chk [] (.inb (.var 1) (.fld (.var 0) 4 1 false) 2) <|
    .chk [] (.agg (.fld (.idx (.fld (.var 0) 4 1 false) (.var 1)) 0 2 true) 2) <|
    .chk [] (.dfd (.bin .neq (.fld (.fld (.idx (.fld (.var 0) 4 1 false) (.var 1)) 0 2 true) 0 1 false) (.fld (.var 0) 3 1 false))) <|
    .call [((.bin .neq (.fld (.fld (.idx (.fld (.var 0) 4 1 false) (.var 1)) 0 2 true) 0 1 false) (.fld (.var 0) 3 1 false)), true)] (.inl 91) (.cons (.mk (.cons (.fld (.var 0) 0 1 false) (.cons (.fld (.var 0) 1 1 false) (.cons (.fld (.var 0) 2 1 false) (.cons (.fld (.var 0) 3 1 false) (.cons (.fld (.var 0) 4 1 false) .nil)))))) (.cons (.mk (.cons (.fld (.var 0) 1 1 false) .nil)) .nil)) <|
    .chk [((.bin .neq (.fld (.fld (.idx (.fld (.var 0) 4 1 false) (.var 1)) 0 2 true) 0 1 false) (.fld (.var 0) 3 1 false)), true)] (.dfd (.bin .geq (.fld (.fld (.idx (.fld (.var 0) 4 1 false) (.var 1)) 0 2 true) 1 1 false) (.var 2))) <|
    .chk [] (.dfd (.not (.bin .neq (.fld (.fld (.idx (.fld (.var 0) 4 1 false) (.var 1)) 0 2 true) 0 1 false) (.fld (.var 0) 3 1 false)))) <|
    .ite (.ite (.bin .neq (.fld (.fld (.idx (.fld (.var 0) 4 1 false) (.var 1)) 0 2 true) 0 1 false) (.fld (.var 0) 3 1 false)) (.bin .geq (.fld (.fld (.idx (.fld (.var 0) 4 1 false) (.var 1)) 0 2 true) 1 1 false) (.var 2)) (.bool false)) (
     .ret (.bool false)) (
     .chk [] (.dfd (.bin .add (.var 1) (.int .i64 (1)))) <|
     .jmp 0 (.cons (.bin .add (.var 1) (.int .i64 (1))) .nil))) (
    .jmp 1 .nil)) (
   .chk [] (.dfd (.bin .lss (.fld (.var 0) 3 1 false) (.int .i64 (20)))) <|
   .ret (.bin .lss (.fld (.var 0) 3 1 false) (.int .i64 (20))))
theorem C_spec_l28Raise : comp Try.prog sgs 92 = some T_spec_l28Raise := by kernel_rfl
theorem R_spec_l28Raise (a0 : DRenew) (r : Bool) (h : m_spec_l28Raise a0 = some r) : Rts Try.prog sgs 92 [avRenew a0] (.bool r) := by
  refine rts_of C_spec_l28Raise (by kernel_rfl) ?_
  unfold Den T_spec_l28Raise
  unfold m_spec_l28Raise at h
  refine s_chk (by simp) ?_
  refine s_chk (by simp) ?_
  refine s_loopK (fun s : Int => [.int .i64 s]) (fun s : Unit => []) h (by simp) (K := (fun s => m_spec_l28Raise_k1 a0)) (fun s h => ?_) (fun W1 A1 v1 o1 h hn1 hf1 hk1 => ?_)
  · replace h : m_spec_l28Raise_k1 a0 = some r := h
    unfold m_spec_l28Raise_k1 at h
    refine s_chk (by simp) ?_
    exact s_ret (av := avB) h (by simp)
  · replace h : m_spec_l28Raise_b2 a0 v1 = some o1 := h
    unfold m_spec_l28Raise_b2 at h
    refine s_chk (by simp) ?_
    refine s_ite h (by simp) (fun e2 h => ?_) (fun e2 h => ?_)
    · obtain ⟨y3, hy3, h⟩ := bindE h
      have hy3' := (getIE hy3).2.2
      refine s_chk (fun _ => c_inb (kk := .i64) (f := avVLease) (by simp) (by simp) hy3 (by simp)) ?_
      refine s_chk (by simp [e2, hy3']) ?_
      refine s_chk (by simp [e2, hy3']) ?_
      refine s_split h (fun e4 h => ?_) (fun e4 h => ?_)
      · refine s_call avI64 h (fun x hx => by simpa using R_spec_l28Low a0 a0.fMaster x hx) (fun v5 cv5 h => ?_)
        refine s_chk (by simp [e2, hy3', e4]) ?_
        refine s_chk (by simp [e2, hy3', e4]) ?_
        refine s_ite h (by simp [e2, hy3', e4]) (fun e6 h => ?_) (fun e6 h => ?_)
        · exact s_ret (av := avB) (hf1 _ h) (by simp)
        · refine s_chk (by simp) ?_
          exact s_jmp (K := fun s => some (Sum.inl s)) (s := (IntKind.i64.wrap (v1 + 1))) hn1 h rfl (by simp)
      · refine s_skip (by simp [e2, hy3', e4]) ?_
        refine s_chk (by simp [e2, hy3', e4]) ?_
        refine s_chk (by simp [e2, hy3', e4]) ?_
        refine s_iteF (by simp [e2, hy3', e4]) ?_
        refine s_chk (by simp) ?_
        exact s_jmp (K := fun s => some (Sum.inl s)) (s := (IntKind.i64.wrap (v1 + 1))) hn1 h rfl (by simp)
    · exact s_jmp (s := ()) hk1 (hf1 _ h) rfl (by simp)
def T_spec_l28Do : Tr :=
  .chk [] (.agg (.var 1) 3) <|
  .join (
   .chk [] (.dfd (.bin .eql (.fld (.var 1) 0 1 false) (.int .i64 (1)))) <|
   .ite (.bin .eql (.fld (.var 1) 0 1 false) (.int .i64 (1))) (
    .chk [] (.dfd (.bin .add (.fld (.var 0) 0 1 false) (.fld (.var 1) 2 1 false))) <|
    .chk [] (.dfd (.bin .gtr (.bin .add (.fld (.var 0) 0 1 false) (.fld (.var 1) 2 1 false)) (.int .i64 (1000)))) <|
    .ite (.bin .gtr (.bin .add (.fld (.var 0) 0 1 false) (.fld (.var 1) 2 1 false)) (.int .i64 (1000))) (
     .ret (.tup (.cons (.mk (.cons (.fld (.var 0) 0 1 false) (.cons (.fld (.var 0) 1 1 false) (.cons (.fld (.var 0) 2 1 false) (.cons (.fld (.var 0) 3 1 false) (.cons (.fld (.var 0) 4 1 false) .nil)))))) (.cons (.bool false) .nil)))) (
     .chk [] (.dfd (.bin .add (.fld (.var 0) 0 1 false) (.fld (.var 1) 2 1 false))) <|
     .chk [] (.cells (.bin .add (.fld (.var 0) 0 1 false) (.fld (.var 1) 2 1 false)) 1) <|
     .jmp 0 (.cons (.bin .add (.fld (.var 0) 0 1 false) (.fld (.var 1) 2 1 false)) (.cons (.fld (.var 0) 1 1 false) (.cons (.fld (.var 0) 2 1 false) (.cons (.fld (.var 0) 4 1 false) (.cons (.fld (.var 0) 3 1 false) .nil))))))) (
    .chk [] (.dfd (.bin .eql (.fld (.var 1) 0 1 false) (.int .i64 (2)))) <|
    .ite (.bin .eql (.fld (.var 1) 0 1 false) (.int .i64 (2))) (
     .chk [] (.dfd (.bin .eql (.fld (.var 1) 1 1 false) (.int .i64 (0)))) <|
     .ite (.bin .eql (.fld (.var 1) 1 1 false) (.int .i64 (0))) (
      .chk [] (.cells (.fld (.var 1) 2 1 false) 1) <|
      .jmp 0 (.cons (.fld (.var 0) 0 1 false) (.cons (.fld (.var 1) 2 1 false) (.cons (.fld (.var 0) 2 1 false) (.cons (.fld (.var 0) 4 1 false) (.cons (.fld (.var 0) 3 1 false) .nil)))))) (
      .chk [] (.dfd (.bin .sub (.fld (.var 1) 1 1 false) (.int .i64 (1)))) <|
      .chk [] (.inb (.bin .sub (.fld (.var 1) 1 1 false) (.int .i64 (1))) (.fld (.var 0) 2 1 false) 1) <|
      .chk [] (.flat (.fld (.var 1) 2 1 false) 1 false) <|
      .chk [] (.flat (.fld (.idx (.fld (.var 0) 2 1 false) (.bin .sub (.fld (.var 1) 1 1 false) (.int .i64 (1)))) 0 1 false) 1 false) <|
      .jmp 0 (.cons (.fld (.var 0) 0 1 false) (.cons (.fld (.var 0) 1 1 false) (.cons (.set (.fld (.var 0) 2 1 false) (.bin .sub (.fld (.var 1) 1 1 false) (.int .i64 (1))) (.put (.idx (.fld (.var 0) 2 1 false) (.bin .sub (.fld (.var 1) 1 1 false) (.int .i64 (1)))) 0 (.fld (.var 1) 2 1 false) true)) (.cons (.fld (.var 0) 4 1 false) (.cons (.fld (.var 0) 3 1 false) .nil))))))) (
     .chk [] (.dfd (.bin .eql (.fld (.var 1) 0 1 false) (.int .i64 (3)))) <|
     .ite (.bin .eql (.fld (.var 1) 0 1 false) (.int .i64 (3))) (
      .call [] (.inl 91) (.cons (.mk (.cons (.fld (.var 0) 0 1 false) (.cons (.fld (.var 0) 1 1 false) (.cons (.fld (.var 0) 2 1 false) (.cons (.fld (.var 0) 3 1 false) (.cons (.fld (.var 0) 4 1 false) .nil)))))) (.cons (.mk (.cons (.fld (.var 0) 1 1 false) .nil)) .nil)) <|
      .chk [] (.dfd (.bin .lss (.var 2) (.int .i64 (0)))) <|
      .ite (.bin .lss (.var 2) (.int .i64 (0))) (
       .ret (.tup (.cons (.mk (.cons (.fld (.var 0) 0 1 false) (.cons (.fld (.var 0) 1 1 false) (.cons (.fld (.var 0) 2 1 false) (.cons (.fld (.var 0) 3 1 false) (.cons (.fld (.var 0) 4 1 false) .nil)))))) (.cons (.bool false) .nil)))) (
       .chk [] (.dfd (.bin .add (.var 2) (.int .i64 (20)))) <|
       .chk [] (.cells (.fld (.var 0) 3 1 false) 1) <|
       .chk [] (.cells (.bin .add (.var 2) (.int .i64 (20))) 1) <|
       .chk [] (.inb (.fld (.var 1) 1 1 false) (.fld (.var 0) 4 1 false) 2) <|
       .chk [] (.flat (.mk (.cons (.fld (.var 0) 3 1 false) (.cons (.bin .add (.var 2) (.int .i64 (20))) .nil))) 2 true) <|
       .chk [] (.flat (.fld (.idx (.fld (.var 0) 4 1 false) (.fld (.var 1) 1 1 false)) 0 2 true) 2 true) <|
       .jmp 0 (.cons (.fld (.var 0) 0 1 false) (.cons (.fld (.var 0) 1 1 false) (.cons (.fld (.var 0) 2 1 false) (.cons (.set (.fld (.var 0) 4 1 false) (.fld (.var 1) 1 1 false) (.put (.idx (.fld (.var 0) 4 1 false) (.fld (.var 1) 1 1 false)) 0 (.mk (.cons (.fld (.var 0) 3 1 false) (.cons (.bin .add (.var 2) (.int .i64 (20))) .nil))) true)) (.cons (.fld (.var 0) 3 1 false) .nil))))))) (
      .call [] (.inl 92) (.cons (.mk (.cons (.fld (.var 0) 0 1 false) (.cons (.fld (.var 0) 1 1 false) (.cons (.fld (.var 0) 2 1 false) (.cons (.fld (.var 0) 3 1 false) (.cons (.fld (.var 0) 4 1 false) .nil)))))) .nil) <|
      .chk [] (.dfd (.not (.var 2))) <|
      .ite (.not (.var 2)) (
       .ret (.tup (.cons (.mk (.cons (.fld (.var 0) 0 1 false) (.cons (.fld (.var 0) 1 1 false) (.cons (.fld (.var 0) 2 1 false) (.cons (.fld (.var 0) 3 1 false) (.cons (.fld (.var 0) 4 1 false) .nil)))))) (.cons (.bool false) .nil)))) (
       .chk [] (.dfd (.bin .add (.fld (.var 0) 3 1 false) (.int .i64 (1)))) <|
       .chk [] (.cells (.bin .add (.fld (.var 0) 3 1 false) (.int .i64 (1))) 1) <|
       .jmp 0 (.cons (.fld (.var 0) 0 1 false) (.cons (.fld (.var 0) 1 1 false) (.cons (.fld (.var 0) 2 1 false) (.cons (.fld (.var 0) 4 1 false) (.cons (.bin .add (.fld (.var 0) 3 1 false) (.int .i64 (1))) .nil)))))))))) (
   .ret (.tup (.cons (.mk (.cons (.var 2) (.cons (.var 3) (.cons (.var 4) (.cons (.var 6) (.cons (.var 5) .nil)))))) (.cons (.bool true) .nil))))
theorem C_spec_l28Do : comp Try.prog sgs 49 = some T_spec_l28Do := by kernel_rfl
theorem R_spec_l28Do (a0 : DRenew) (a1 : DRenewAct) (r : DRenew × Bool) (h : m_spec_l28Do a0 a1 = some r) : Rts Try.prog sgs 49 [avRenew a0, avRenewAct a1] (avTRenewBZ2 r) := by
  refine rts_of C_spec_l28Do (by kernel_rfl) ?_
  unfold Den T_spec_l28Do
  unfold m_spec_l28Do at h
  refine s_chk (by simp) ?_
  refine s_joinI fun j1 hj1 => ?_
  refine s_chk (by simp) ?_
  refine s_ite h (by simp) (fun e2 h => ?_) (fun e2 h => ?_)
  · refine s_chk (by simp) ?_
    refine s_chk (by simp) ?_
    refine s_ite h (by simp) (fun e3 h => ?_) (fun e3 h => ?_)
    · exact s_ret (av := avTRenewBZ2) h (by simp)
    · refine s_chk (by simp) ?_
      refine s_chk (by simp) ?_
      refine s_jmpI hj1 rfl (vs := [.int .i64 (IntKind.i64.wrap (a0.fNow + a1.fBy)), .int .i64 a0.fMaster.fOff, .sl (a0.fClocks.map avClock), .sl (a0.fLeases.map avVLease), .int .i64 a0.fVer]) (by simp) ?_
      exact s_ret (av := avTRenewBZ2) h (by simp)
  · refine s_chk (by simp) ?_
    refine s_ite h (by simp) (fun e4 h => ?_) (fun e4 h => ?_)
    · refine s_chk (by simp) ?_
      refine s_ite h (by simp) (fun e5 h => ?_) (fun e5 h => ?_)
      · refine s_chk (by simp) ?_
        refine s_jmpI hj1 rfl (vs := [.int .i64 a0.fNow, .int .i64 a1.fBy, .sl (a0.fClocks.map avClock), .sl (a0.fLeases.map avVLease), .int .i64 a0.fVer]) (by simp) ?_
        exact s_ret (av := avTRenewBZ2) h (by simp)
      · refine s_chk (by simp) ?_
        obtain ⟨y6, hy6, h⟩ := bindE h
        have hy6' := (getIE hy6).2.2
        try simp at hy6'
        refine s_chk (fun _ => c_inb (kk := .i64) (f := avClock) (by simp) (by simp) hy6 (by simp)) ?_
        refine s_chk (by simp) ?_
        refine s_chk (by simp [e2, e4, e5, hy6']) ?_
        refine s_jmpI hj1 rfl (vs := [.int .i64 a0.fNow, .int .i64 a0.fMaster.fOff, .sl ((a0.fClocks.set ((IntKind.i64.wrap (a1.fWho - 1))).toNat { y6 with fOff := a1.fBy }).map avClock), .sl (a0.fLeases.map avVLease), .int .i64 a0.fVer]) (by simp [e2, e4, e5, hy6']) ?_
        exact s_ret (av := avTRenewBZ2) h (by simp)
    · refine s_chk (by simp) ?_
      refine s_ite h (by simp) (fun e7 h => ?_) (fun e7 h => ?_)
      · refine s_call avI64 h (fun x hx => by simpa using R_spec_l28Low a0 a0.fMaster x hx) (fun v8 cv8 h => ?_)
        refine s_chk (by simp) ?_
        refine s_ite h (by simp) (fun e9 h => ?_) (fun e9 h => ?_)
        · exact s_ret (av := avTRenewBZ2) h (by simp)
        · refine s_chk (by simp) ?_
          refine s_chk (by simp) ?_
          refine s_chk (by simp) ?_
          obtain ⟨y10, hy10, h⟩ := bindE h
          have hy10' := (getIE hy10).2.2
          refine s_chk (fun _ => c_inb (kk := .i64) (f := avVLease) (by simp) (by simp) hy10 (by simp)) ?_
          refine s_chk (by simp) ?_
          refine s_chk (by simp [e2, e4, e7, e9, hy10']) ?_
          refine s_jmpI hj1 rfl (vs := [.int .i64 a0.fNow, .int .i64 a0.fMaster.fOff, .sl (a0.fClocks.map avClock), .sl ((a0.fLeases.set (a1.fWho).toNat (⟨a0.fVer, (IntKind.i64.wrap (v8 + 20))⟩ : DVLease)).map avVLease), .int .i64 a0.fVer]) (by simp [e2, e4, e7, e9, hy10']) ?_
          exact s_ret (av := avTRenewBZ2) h (by simp)
      · refine s_call avB h (fun x hx => by simpa using R_spec_l28Raise a0 x hx) (fun v11 cv11 h => ?_)
        refine s_chk (by simp) ?_
        refine s_ite h (by simp) (fun e12 h => ?_) (fun e12 h => ?_)
        · exact s_ret (av := avTRenewBZ2) h (by simp)
        · refine s_chk (by simp) ?_
          refine s_chk (by simp) ?_
          refine s_jmpI hj1 rfl (vs := [.int .i64 a0.fNow, .int .i64 a0.fMaster.fOff, .sl (a0.fClocks.map avClock), .sl (a0.fLeases.map avVLease), .int .i64 (IntKind.i64.wrap (a0.fVer + 1))]) (by simp) ?_
          exact s_ret (av := avTRenewBZ2) h (by simp)
def T_spec_PlayRenew : Tr :=
  .chk [] (.agg (.var 0) 5) <|
  .call [] (.inl 17) (.cons (.mk (.cons (.fld (.var 0) 0 1 false) (.cons (.fld (.var 0) 1 1 false) (.cons (.fld (.var 0) 2 1 false) (.cons (.fld (.var 0) 3 1 false) (.cons (.fld (.var 0) 4 1 false) .nil)))))) .nil) <|
  .chk [] (.dfd (.not (.var 2))) <|
  .chk [((.not (.var 2)), false)] (.dfd (.len (.var 1))) <|
  .chk [] (.dfd (.not (.not (.var 2)))) <|
  .ite (.ite (.not (.var 2)) (.bool true) (.bin .gtr (.len (.var 1)) (.int .i64 (40)))) (
   .ret (.tup (.cons (.mk (.cons (.int .i64 (0)) (.cons (.int .i64 (0)) (.cons (.lst .nil) (.cons (.int .i64 (0)) (.cons (.lst .nil) .nil)))))) (.cons (.lst .nil) (.cons (.bool false) .nil))))) (
   .call [] (.inl 50) (.cons (.mk (.cons (.fld (.var 0) 0 1 false) (.cons (.fld (.var 0) 1 1 false) (.cons (.fld (.var 0) 2 1 false) (.cons (.fld (.var 0) 3 1 false) (.cons (.fld (.var 0) 4 1 false) .nil)))))) .nil) <|
   .chk [] (.dfd (.len (.var 1))) <|
   .loop (.cons (.lst .nil) (.cons (.int .i64 (0)) (.cons (.fld (.var 3) 0 1 false) (.cons (.fld (.var 3) 1 1 false) (.cons (.fld (.var 3) 3 1 false) (.cons (.fld (.var 3) 2 1 false) (.cons (.fld (.var 3) 4 1 false) .nil))))))) (
    .chk [] (.dfd (.bin .lss (.var 5) (.len (.var 1)))) <|
    .ite (.bin .lss (.var 5) (.len (.var 1))) (
     .chk [] (.inb (.var 5) (.var 1) 3) <|
     .chk [] (.agg (.fld (.idx (.var 1) (.var 5)) 0 3 true) 3) <|
     .call [] (.inl 82) (.cons (.mk (.cons (.var 6) (.cons (.var 7) (.cons (.var 9) (.cons (.var 8) (.cons (.var 10) .nil)))))) (.cons (.mk (.cons (.fld (.fld (.idx (.var 1) (.var 5)) 0 3 true) 0 1 false) (.cons (.fld (.fld (.idx (.var 1) (.var 5)) 0 3 true) 1 1 false) (.cons (.fld (.fld (.idx (.var 1) (.var 5)) 0 3 true) 2 1 false) .nil)))) .nil)) <|
     .join (
      .ite (.var 11) (
       .call [] (.inl 49) (.cons (.mk (.cons (.var 6) (.cons (.var 7) (.cons (.var 9) (.cons (.var 8) (.cons (.var 10) .nil)))))) (.cons (.mk (.cons (.fld (.fld (.idx (.var 1) (.var 5)) 0 3 true) 0 1 false) (.cons (.fld (.fld (.idx (.var 1) (.var 5)) 0 3 true) 1 1 false) (.cons (.fld (.fld (.idx (.var 1) (.var 5)) 0 3 true) 2 1 false) .nil)))) .nil)) <|
       .jmp 0 (.cons (.proj (.var 12) 1) (.cons (.fld (.proj (.var 12) 0) 0 1 false) (.cons (.fld (.proj (.var 12) 0) 1 1 false) (.cons (.fld (.proj (.var 12) 0) 3 1 false) (.cons (.fld (.proj (.var 12) 0) 2 1 false) (.cons (.fld (.proj (.var 12) 0) 4 1 false) .nil))))))) (
       .jmp 0 (.cons (.var 11) (.cons (.var 6) (.cons (.var 7) (.cons (.var 8) (.cons (.var 9) (.cons (.var 10) .nil)))))))) (
      .chk [] (.flat (.var 12) 1 false) <|
      .chk [] (.room (.var 4) (.lst (.cons (.var 12) .nil)) 1) <|
      .chk [] (.flatS (.lst (.cons (.var 12) .nil)) 1) <|
      .chk [] (.dfd (.bin .add (.var 5) (.int .i64 (1)))) <|
      .jmp 0 (.cons (.app (.var 4) (.lst (.cons (.var 12) .nil))) (.cons (.bin .add (.var 5) (.int .i64 (1))) (.cons (.var 13) (.cons (.var 14) (.cons (.var 15) (.cons (.var 16) (.cons (.var 17) .nil))))))))) (
     .jmp 1 (.cons (.var 6) (.cons (.var 7) (.cons (.var 8) (.cons (.var 9) (.cons (.var 10) (.cons (.var 4) .nil)))))))) (
    .ret (.tup (.cons (.mk (.cons (.var 4) (.cons (.var 5) (.cons (.var 7) (.cons (.var 6) (.cons (.var 8) .nil)))))) (.cons (.var 9) (.cons (.bool true) .nil))))))
theorem C_spec_PlayRenew : comp Try.prog sgs 28 = some T_spec_PlayRenew := by kernel_rfl
theorem R_spec_PlayRenew (a0 : DRenew) (a1 : List DRenewAct) (r : DRenew × List Bool × Bool) (h : m_spec_PlayRenew a0 a1 = some r) : Rts Try.prog sgs 28 [avRenew a0, .sl (a1.map avRenewAct)] (avTRenewSBBZ3 r) := by
  refine rts_of C_spec_PlayRenew (by kernel_rfl) ?_
  unfold Den T_spec_PlayRenew
  unfold m_spec_PlayRenew at h
  refine s_chk (by simp) ?_
  refine s_call avB h (fun x hx => by simpa using R_spec_GoodRenew a0 x hx) (fun v1 cv1 h => ?_)
  refine s_chk (by simp) ?_
  refine s_chk (by simp) ?_
  refine s_chk (by simp) ?_
  refine s_ite h (by simp) (fun e2 h => ?_) (fun e2 h => ?_)
  · exact s_ret (av := avTRenewSBBZ3) h (by simp)
  · refine s_call avRenew h (fun x hx => by simpa using R_spec_l28Own a0 x hx) (fun v3 cv3 h => ?_)
    refine s_chk (by simp) ?_
    refine s_loop (fun s : List Bool × Int × Int × Int × Int × List DClock × List DVLease => [.sl (s.1.map avB), .int .i64 s.2.1, .int .i64 s.2.2.1, .int .i64 s.2.2.2.1, .int .i64 s.2.2.2.2.1, .sl (s.2.2.2.2.2.1.map avClock), .sl (s.2.2.2.2.2.2.map avVLease)]) h (by simp) (fun W1 A1 s o1 h hn1 hf1 hk1 => ?_)
    obtain ⟨v4, v5, v6, v7, v8, v9, v10⟩ := s
    replace h : m_spec_PlayRenew_b1 a1 v4 v5 v6 v7 v8 v9 v10 = some o1 := h
    unfold m_spec_PlayRenew_b1 at h
    refine s_chk (by simp) ?_
    refine s_ite h (by simp) (fun e11 h => ?_) (fun e11 h => ?_)
    · obtain ⟨y12, hy12, h⟩ := bindE h
      have hy12' := (getIE hy12).2.2
      refine s_chk (fun _ => c_inb (kk := .i64) (f := avRenewAct) (by simp) (by simp) hy12 (by simp)) ?_
      refine s_chk (by simp [e2, e11, hy12']) ?_
      refine s_call avB h (fun x hx => by simpa [e2, e11, hy12'] using R_spec_l28Good (⟨v6, (⟨v7⟩ : DClock), v9, v8, v10⟩ : DRenew) y12 x hx) (fun v13 cv13 h => ?_)
      refine s_joinI fun j14 hj14 => ?_
      refine s_ite h (by simp) (fun e15 h => ?_) (fun e15 h => ?_)
      · refine s_call avTRenewBZ2 h (fun x hx => by simpa [e2, e11, hy12', e15] using R_spec_l28Do (⟨v6, (⟨v7⟩ : DClock), v9, v8, v10⟩ : DRenew) y12 x hx) (fun v16 cv16 h => ?_)
        refine s_jmpI hj14 rfl (vs := [.bool v16.2, .int .i64 v16.1.fNow, .int .i64 v16.1.fMaster.fOff, .int .i64 v16.1.fVer, .sl (v16.1.fClocks.map avClock), .sl (v16.1.fLeases.map avVLease)]) (by simp) ?_
        refine s_chk (by simp) ?_
        obtain ⟨q17, h⟩ := reqE h
        refine s_chk (fun _ => c_room (show _ = AV.sl (List.map avB v4) from by simp) (show _ = AV.sl (List.map avB ([v16.2] : List Bool)) from by simp) (by simpa using q17)) ?_
        refine s_chk (fun _ => c_flatS avB (show _ = AV.sl (List.map avB ([v16.2] : List Bool)) from by simp) (by simp)) ?_
        refine s_chk (by simp) ?_
        exact s_jmp (K := fun s => some (Sum.inl s)) (s := ((v4 ++ [v16.2]), (IntKind.i64.wrap (v5 + 1)), v16.1.fNow, v16.1.fMaster.fOff, v16.1.fVer, v16.1.fClocks, v16.1.fLeases)) hn1 h rfl (by simp)
      · refine s_jmpI hj14 rfl (vs := [.bool v13, .int .i64 v6, .int .i64 v7, .int .i64 v8, .sl (v9.map avClock), .sl (v10.map avVLease)]) (by simp) ?_
        refine s_chk (by simp) ?_
        obtain ⟨q18, h⟩ := reqE h
        refine s_chk (fun _ => c_room (show _ = AV.sl (List.map avB v4) from by simp) (show _ = AV.sl (List.map avB ([v13] : List Bool)) from by simp) (by simpa using q18)) ?_
        refine s_chk (fun _ => c_flatS avB (show _ = AV.sl (List.map avB ([v13] : List Bool)) from by simp) (by simp)) ?_
        refine s_chk (by simp) ?_
        exact s_jmp (K := fun s => some (Sum.inl s)) (s := ((v4 ++ [v13]), (IntKind.i64.wrap (v5 + 1)), v6, v7, v8, v9, v10)) hn1 h rfl (by simp)
    · refine s_jmpI hk1 rfl (vs := [.int .i64 v6, .int .i64 v7, .int .i64 v8, .sl (v9.map avClock), .sl (v10.map avVLease), .sl (v4.map avB)]) (by simp) ?_
      replace h := (hf1 _ h)
      exact s_ret (av := avTRenewSBBZ3) h (by simp)
def T___spec_l1Cur__one : Tr :=
  .call [] (.inl 44) (.cons (.ref (.mk (.cons (.fld (.deref (.var 0)) 0 1 false) (.cons (.fld (.deref (.var 0)) 1 1 false) (.cons (.fld (.deref (.var 0)) 2 1 false) .nil))))) (.cons (.var 1) .nil)) <|
  .chk [] (.dfd (.bin .eql (.proj (.var 2) 0) (.int .i64 (0)))) <|
  .ret (.tup (.cons (.bin .eql (.proj (.var 2) 0) (.int .i64 (0))) (.cons (.mk (.cons (.fld (.proj (.var 2) 1) 0 1 false) (.cons (.fld (.proj (.var 2) 1) 1 1 false) (.cons (.fld (.proj (.var 2) 1) 2 1 false) .nil)))) .nil)))
theorem C___spec_l1Cur__one : comp Try.prog sgs 80 = some T___spec_l1Cur__one := by kernel_rfl
theorem R___spec_l1Cur__one (a0 : DL1Cur) (a1 : Int) (r : Bool × DL1Cur) (h : m___spec_l1Cur__one a0 a1 = some r) : Rts Try.prog sgs 80 [avRL1Cur a0, .int .i64 a1] (avTBL1CurZ2 r) := by
  refine rts_of C___spec_l1Cur__one (by kernel_rfl) ?_
  unfold Den T___spec_l1Cur__one
  unfold m___spec_l1Cur__one at h
  refine s_call avTI64L1CurZ2 h (fun x hx => by simpa using R___spec_l1Cur__pick a0 a1 x hx) (fun v1 cv1 h => ?_)
  refine s_chk (by simp) ?_
  exact s_ret (av := avTBL1CurZ2) h (by simp)
def T___spec_l1Cur__renew : Tr :=
  .call [] (.inl 44) (.cons (.ref (.mk (.cons (.fld (.deref (.var 0)) 0 1 false) (.cons (.fld (.deref (.var 0)) 1 1 false) (.cons (.fld (.deref (.var 0)) 2 1 false) .nil))))) (.cons (.int .i64 (3)) .nil)) <|
  .chk [] (.dfd (.bin .add (.int .i64 (1)) (.proj (.var 1) 0))) <|
  .call [] (.inl 34) (.cons (.bin .add (.int .i64 (1)) (.proj (.var 1) 0)) .nil) <|
  .call [] (.inl 81) (.cons (.ref (.mk (.cons (.fld (.proj (.var 1) 1) 0 1 false) (.cons (.fld (.proj (.var 1) 1) 1 1 false) (.cons (.fld (.proj (.var 1) 1) 2 1 false) .nil))))) (.cons (.mk (.cons (.fld (.proj (.var 2) 0) 0 1 false) (.cons (.fld (.proj (.var 2) 0) 1 1 false) (.cons (.fld (.proj (.var 2) 0) 2 1 false) (.cons (.fld (.proj (.var 2) 0) 3 1 false) (.cons (.fld (.proj (.var 2) 0) 4 1 false) .nil)))))) (.cons (.int .i64 (20)) .nil))) <|
  .call [] (.inl 28) (.cons (.mk (.cons (.fld (.proj (.var 2) 0) 0 1 false) (.cons (.fld (.proj (.var 2) 0) 1 1 false) (.cons (.fld (.proj (.var 2) 0) 2 1 false) (.cons (.fld (.proj (.var 2) 0) 3 1 false) (.cons (.fld (.proj (.var 2) 0) 4 1 false) .nil)))))) (.cons (.proj (.var 3) 0) .nil)) <|
  .join (
   .call [] (.inl 80) (.cons (.ref (.mk (.cons (.fld (.proj (.var 3) 1) 0 1 false) (.cons (.fld (.proj (.var 3) 1) 1 1 false) (.cons (.fld (.proj (.var 3) 1) 2 1 false) .nil))))) (.cons (.int .i64 (4)) .nil)) <|
   .ite (.proj (.var 5) 0) (
    .chk [] (.dfd (.len (.fld (.proj (.var 4) 0) 4 1 false))) <|
    .call [] (.inl 44) (.cons (.ref (.mk (.cons (.fld (.proj (.var 5) 1) 0 1 false) (.cons (.fld (.proj (.var 5) 1) 1 1 false) (.cons (.fld (.proj (.var 5) 1) 2 1 false) .nil))))) (.cons (.len (.fld (.proj (.var 4) 0) 4 1 false)) .nil)) <|
    .chk [] (.inb (.proj (.var 6) 0) (.fld (.proj (.var 4) 0) 4 1 false) 2) <|
    .chk [] (.dfd (.bin .add (.fld (.proj (.var 4) 0) 0 1 false) (.int .i64 (1)))) <|
    .chk [] (.dfd (.bin .add (.fld (.proj (.var 4) 0) 0 1 false) (.int .i64 (20)))) <|
    .chk [] (.flat (.int .i64 (0)) 1 false) <|
    .chk [] (.flat (.fld (.proj (.var 4) 0) 0 1 false) 1 false) <|
    .chk [] (.flat (.bin .add (.fld (.proj (.var 4) 0) 0 1 false) (.int .i64 (1))) 1 false) <|
    .chk [] (.flat (.bin .add (.fld (.proj (.var 4) 0) 0 1 false) (.int .i64 (20))) 1 false) <|
    .chk [] (.flat (.int .i64 (1020)) 1 false) <|
    .call [] (.inl 45) (.cons (.ref (.mk (.cons (.fld (.proj (.var 6) 1) 0 1 false) (.cons (.fld (.proj (.var 6) 1) 1 1 false) (.cons (.fld (.proj (.var 6) 1) 2 1 false) .nil))))) (.cons (.lst (.cons (.int .i64 (0)) (.cons (.fld (.proj (.var 4) 0) 0 1 false) (.cons (.bin .add (.fld (.proj (.var 4) 0) 0 1 false) (.int .i64 (1))) (.cons (.bin .add (.fld (.proj (.var 4) 0) 0 1 false) (.int .i64 (20))) (.cons (.int .i64 (1020)) .nil)))))) .nil)) <|
    .chk [] (.flat (.proj (.var 7) 0) 1 false) <|
    .chk [] (.flat (.fld (.idx (.fld (.proj (.var 4) 0) 4 1 false) (.proj (.var 6) 0)) 1 1 false) 1 false) <|
    .chk [] (.dfd (.bin .add (.fld (.proj (.var 4) 0) 3 1 false) (.int .i64 (1)))) <|
    .call [] (.inl 44) (.cons (.ref (.mk (.cons (.fld (.proj (.var 7) 1) 0 1 false) (.cons (.fld (.proj (.var 7) 1) 1 1 false) (.cons (.fld (.proj (.var 7) 1) 2 1 false) .nil))))) (.cons (.bin .add (.fld (.proj (.var 4) 0) 3 1 false) (.int .i64 (1))) .nil)) <|
    .chk [] (.flat (.proj (.var 8) 0) 1 false) <|
    .chk [] (.flat (.fld (.idx (.set (.fld (.proj (.var 4) 0) 4 1 false) (.proj (.var 6) 0) (.put (.idx (.fld (.proj (.var 4) 0) 4 1 false) (.proj (.var 6) 0)) 1 (.proj (.var 7) 0) true)) (.proj (.var 6) 0)) 0 1 false) 1 false) <|
    .jmp 0 (.cons (.fld (.proj (.var 8) 1) 0 1 false) (.cons (.fld (.proj (.var 8) 1) 1 1 false) (.cons (.fld (.proj (.var 8) 1) 2 1 false) (.cons (.set (.set (.fld (.proj (.var 4) 0) 4 1 false) (.proj (.var 6) 0) (.put (.idx (.fld (.proj (.var 4) 0) 4 1 false) (.proj (.var 6) 0)) 1 (.proj (.var 7) 0) true)) (.proj (.var 6) 0) (.put (.idx (.set (.fld (.proj (.var 4) 0) 4 1 false) (.proj (.var 6) 0) (.put (.idx (.fld (.proj (.var 4) 0) 4 1 false) (.proj (.var 6) 0)) 1 (.proj (.var 7) 0) true)) (.proj (.var 6) 0)) 0 (.proj (.var 8) 0) true)) .nil))))) (
    .jmp 0 (.cons (.fld (.proj (.var 5) 1) 0 1 false) (.cons (.fld (.proj (.var 5) 1) 1 1 false) (.cons (.fld (.proj (.var 5) 1) 2 1 false) (.cons (.fld (.proj (.var 4) 0) 4 1 false) .nil)))))) (
   .ret (.tup (.cons (.mk (.cons (.fld (.proj (.var 4) 0) 0 1 false) (.cons (.fld (.proj (.var 4) 0) 1 1 false) (.cons (.fld (.proj (.var 4) 0) 2 1 false) (.cons (.fld (.proj (.var 4) 0) 3 1 false) (.cons (.var 8) .nil)))))) (.cons (.mk (.cons (.var 5) (.cons (.var 6) (.cons (.var 7) .nil)))) .nil))))
theorem C___spec_l1Cur__renew : comp Try.prog sgs 79 = some T___spec_l1Cur__renew := by kernel_rfl
theorem R___spec_l1Cur__renew (a0 : DL1Cur) (r : DRenew × DL1Cur) (h : m___spec_l1Cur__renew a0 = some r) : Rts Try.prog sgs 79 [avRL1Cur a0] (avTRenewL1CurZ2 r) := by
  refine rts_of C___spec_l1Cur__renew (by kernel_rfl) ?_
  unfold Den T___spec_l1Cur__renew
  unfold m___spec_l1Cur__renew at h
  refine s_call avTI64L1CurZ2 h (fun x hx => by simpa using R___spec_l1Cur__pick a0 3 x hx) (fun v1 cv1 h => ?_)
  refine s_chk (by simp) ?_
  refine s_call avTRenewBZ2 h (fun x hx => by simpa using R_spec_NewRenew (IntKind.i64.wrap ((1 : Int) + v1.1)) x hx) (fun v2 cv2 h => ?_)
  refine s_call avTSRenewActL1CurZ2 h (fun x hx => by simpa using R___spec_l1Cur__renewActs v1.2 v2.1 20 x hx) (fun v3 cv3 h => ?_)
  refine s_call avTRenewSBBZ3 h (fun x hx => by simpa using R_spec_PlayRenew v2.1 v3.1 x hx) (fun v4 cv4 h => ?_)
  refine s_joinI fun j5 hj5 => ?_
  refine s_call avTBL1CurZ2 h (fun x hx => by simpa using R___spec_l1Cur__one v3.2 4 x hx) (fun v6 cv6 h => ?_)
  refine s_ite h (by simp) (fun e7 h => ?_) (fun e7 h => ?_)
  · refine s_chk (by simp) ?_
    refine s_call avTI64L1CurZ2 h (fun x hx => by simpa using R___spec_l1Cur__pick v6.2 (v4.1.fLeases.length : Int) x hx) (fun v8 cv8 h => ?_)
    obtain ⟨y9, hy9, h⟩ := bindE h
    have hy9' := (getIE hy9).2.2
    refine s_chk (fun _ => c_inb (kk := .i64) (f := avVLease) (by simp) (by simp) hy9 (by simp)) ?_
    refine s_chk (by simp) ?_
    refine s_chk (by simp) ?_
    refine s_chk (by simp) ?_
    refine s_chk (by simp) ?_
    refine s_chk (by simp) ?_
    refine s_chk (by simp) ?_
    refine s_chk (by simp) ?_
    refine s_call avTI64L1CurZ2 h (fun x hx => by simpa using R___spec_l1Cur__among v8.2 ([0, v4.1.fNow, (IntKind.i64.wrap (v4.1.fNow + 1)), (IntKind.i64.wrap (v4.1.fNow + 20)), 1020] : List Int) x hx) (fun v10 cv10 h => ?_)
    refine s_chk (by simp) ?_
    refine s_chk (by simp [e7, hy9']) ?_
    refine s_chk (by simp) ?_
    refine s_call avTI64L1CurZ2 h (fun x hx => by simpa using R___spec_l1Cur__pick v10.2 (IntKind.i64.wrap (v4.1.fVer + 1)) x hx) (fun v11 cv11 h => ?_)
    refine s_chk (by simp) ?_
    refine s_chk (by simp [e7, hy9']) ?_
    refine s_jmpI hj5 rfl (vs := [.sl (v11.2.fcode.map avU8), .int .i64 v11.2.fat, .int .u64 v11.2.fseed, .sl (((v4.1.fLeases.set (v8.1).toNat { y9 with fUntil := v10.1 }).set (v8.1).toNat { { y9 with fUntil := v10.1 } with fVer := v11.1 }).map avVLease)]) (by simp [e7, hy9']) ?_
    exact s_ret (av := avTRenewL1CurZ2) h (by simp)
  · refine s_jmpI hj5 rfl (vs := [.sl (v6.2.fcode.map avU8), .int .i64 v6.2.fat, .int .u64 v6.2.fseed, .sl (v4.1.fLeases.map avVLease)]) (by simp) ?_
    exact s_ret (av := avTRenewL1CurZ2) h (by simp)
def T___spec_l1Cur__bentRenew : Tr :=
  .call [] (.inl 79) (.cons (.ref (.mk (.cons (.fld (.deref (.var 0)) 0 1 false) (.cons (.fld (.deref (.var 0)) 1 1 false) (.cons (.fld (.deref (.var 0)) 2 1 false) .nil))))) .nil) <|
  .join (
   .call [] (.inl 44) (.cons (.ref (.mk (.cons (.fld (.proj (.var 1) 1) 0 1 false) (.cons (.fld (.proj (.var 1) 1) 1 1 false) (.cons (.fld (.proj (.var 1) 1) 2 1 false) .nil))))) (.cons (.int .i64 (14)) .nil)) <|
   .chk [] (.dfd (.bin .eql (.proj (.var 2) 0) (.int .i64 (0)))) <|
   .ite (.bin .eql (.proj (.var 2) 0) (.int .i64 (0))) (
    .chk [] (.flat (.int .i64 (-1)) 1 false) <|
    .chk [] (.flat (.int .i64 (0)) 1 false) <|
    .chk [] (.flat (.int .i64 (999)) 1 false) <|
    .chk [] (.flat (.int .i64 (1000)) 1 false) <|
    .chk [] (.flat (.int .i64 (1001)) 1 false) <|
    .call [] (.inl 45) (.cons (.ref (.mk (.cons (.fld (.proj (.var 2) 1) 0 1 false) (.cons (.fld (.proj (.var 2) 1) 1 1 false) (.cons (.fld (.proj (.var 2) 1) 2 1 false) .nil))))) (.cons (.lst (.cons (.int .i64 (-1)) (.cons (.int .i64 (0)) (.cons (.int .i64 (999)) (.cons (.int .i64 (1000)) (.cons (.int .i64 (1001)) .nil)))))) .nil)) <|
    .chk [] (.cells (.proj (.var 3) 0) 1) <|
    .jmp 0 (.cons (.fld (.proj (.var 3) 1) 0 1 false) (.cons (.fld (.proj (.var 3) 1) 1 1 false) (.cons (.fld (.proj (.var 3) 1) 2 1 false) (.cons (.proj (.var 3) 0) (.cons (.fld (.proj (.var 1) 0) 3 1 false) (.cons (.fld (.proj (.var 1) 0) 2 1 false) (.cons (.fld (.proj (.var 1) 0) 4 1 false) .nil)))))))) (
    .chk [] (.dfd (.bin .eql (.proj (.var 2) 0) (.int .i64 (1)))) <|
    .ite (.bin .eql (.proj (.var 2) 0) (.int .i64 (1))) (
     .chk [] (.flat (.int .i64 (-1)) 1 false) <|
     .chk [] (.flat (.int .i64 (20)) 1 false) <|
     .chk [] (.flat (.int .i64 (21)) 1 false) <|
     .call [] (.inl 45) (.cons (.ref (.mk (.cons (.fld (.proj (.var 2) 1) 0 1 false) (.cons (.fld (.proj (.var 2) 1) 1 1 false) (.cons (.fld (.proj (.var 2) 1) 2 1 false) .nil))))) (.cons (.lst (.cons (.int .i64 (-1)) (.cons (.int .i64 (20)) (.cons (.int .i64 (21)) .nil)))) .nil)) <|
     .chk [] (.cells (.proj (.var 3) 0) 1) <|
     .jmp 0 (.cons (.fld (.proj (.var 3) 1) 0 1 false) (.cons (.fld (.proj (.var 3) 1) 1 1 false) (.cons (.fld (.proj (.var 3) 1) 2 1 false) (.cons (.fld (.proj (.var 1) 0) 0 1 false) (.cons (.proj (.var 3) 0) (.cons (.fld (.proj (.var 1) 0) 2 1 false) (.cons (.fld (.proj (.var 1) 0) 4 1 false) .nil)))))))) (
     .chk [] (.dfd (.bin .eql (.proj (.var 2) 0) (.int .i64 (2)))) <|
     .ite (.bin .eql (.proj (.var 2) 0) (.int .i64 (2))) (
      .chk [] (.flat (.int .i64 (-6)) 1 false) <|
      .chk [] (.flat (.int .i64 (6)) 1 false) <|
      .chk [] (.flat (.int .i64 (5)) 1 false) <|
      .call [] (.inl 45) (.cons (.ref (.mk (.cons (.fld (.proj (.var 2) 1) 0 1 false) (.cons (.fld (.proj (.var 2) 1) 1 1 false) (.cons (.fld (.proj (.var 2) 1) 2 1 false) .nil))))) (.cons (.lst (.cons (.int .i64 (-6)) (.cons (.int .i64 (6)) (.cons (.int .i64 (5)) .nil)))) .nil)) <|
      .chk [] (.inb (.int .i64 (0)) (.fld (.proj (.var 1) 0) 2 1 false) 1) <|
      .chk [] (.flat (.proj (.var 3) 0) 1 false) <|
      .chk [] (.flat (.fld (.idx (.fld (.proj (.var 1) 0) 2 1 false) (.int .i64 (0))) 0 1 false) 1 false) <|
      .jmp 0 (.cons (.fld (.proj (.var 3) 1) 0 1 false) (.cons (.fld (.proj (.var 3) 1) 1 1 false) (.cons (.fld (.proj (.var 3) 1) 2 1 false) (.cons (.fld (.proj (.var 1) 0) 0 1 false) (.cons (.fld (.proj (.var 1) 0) 3 1 false) (.cons (.set (.fld (.proj (.var 1) 0) 2 1 false) (.int .i64 (0)) (.put (.idx (.fld (.proj (.var 1) 0) 2 1 false) (.int .i64 (0))) 0 (.proj (.var 3) 0) true)) (.cons (.fld (.proj (.var 1) 0) 4 1 false) .nil)))))))) (
      .chk [] (.dfd (.bin .eql (.proj (.var 2) 0) (.int .i64 (3)))) <|
      .ite (.bin .eql (.proj (.var 2) 0) (.int .i64 (3))) (
       .chk [] (.flat (.mk (.cons (.int .i64 (0)) (.cons (.int .i64 (0)) .nil))) 2 true) <|
       .chk [] (.room (.fld (.proj (.var 1) 0) 4 1 false) (.lst (.cons (.mk (.cons (.int .i64 (0)) (.cons (.int .i64 (0)) .nil))) .nil)) 16) <|
       .chk [] (.flatS (.lst (.cons (.mk (.cons (.int .i64 (0)) (.cons (.int .i64 (0)) .nil))) .nil)) 2) <|
       .jmp 0 (.cons (.fld (.proj (.var 2) 1) 0 1 false) (.cons (.fld (.proj (.var 2) 1) 1 1 false) (.cons (.fld (.proj (.var 2) 1) 2 1 false) (.cons (.fld (.proj (.var 1) 0) 0 1 false) (.cons (.fld (.proj (.var 1) 0) 3 1 false) (.cons (.fld (.proj (.var 1) 0) 2 1 false) (.cons (.app (.fld (.proj (.var 1) 0) 4 1 false) (.lst (.cons (.mk (.cons (.int .i64 (0)) (.cons (.int .i64 (0)) .nil))) .nil))) .nil)))))))) (
       .chk [] (.dfd (.bin .eql (.proj (.var 2) 0) (.int .i64 (4)))) <|
       .ite (.bin .eql (.proj (.var 2) 0) (.int .i64 (4))) (
        .call [] (.inl 44) (.cons (.ref (.mk (.cons (.fld (.proj (.var 2) 1) 0 1 false) (.cons (.fld (.proj (.var 2) 1) 1 1 false) (.cons (.fld (.proj (.var 2) 1) 2 1 false) .nil))))) (.cons (.int .i64 (25)) .nil)) <|
        .chk [] (.dfd (.bin .sub (.proj (.var 3) 0) (.int .i64 (1)))) <|
        .chk [] (.flat (.int .i64 (-1)) 1 false) <|
        .chk [] (.flat (.int .i64 (1021)) 1 false) <|
        .call [] (.inl 45) (.cons (.ref (.mk (.cons (.fld (.proj (.var 3) 1) 0 1 false) (.cons (.fld (.proj (.var 3) 1) 1 1 false) (.cons (.fld (.proj (.var 3) 1) 2 1 false) .nil))))) (.cons (.lst (.cons (.int .i64 (-1)) (.cons (.int .i64 (1021)) .nil))) .nil)) <|
        .chk [] (.cells (.bin .sub (.proj (.var 3) 0) (.int .i64 (1))) 1) <|
        .chk [] (.cells (.proj (.var 4) 0) 1) <|
        .chk [] (.inb (.int .i64 (0)) (.fld (.proj (.var 1) 0) 4 1 false) 2) <|
        .chk [] (.flat (.mk (.cons (.bin .sub (.proj (.var 3) 0) (.int .i64 (1))) (.cons (.proj (.var 4) 0) .nil))) 2 true) <|
        .chk [] (.flat (.fld (.idx (.fld (.proj (.var 1) 0) 4 1 false) (.int .i64 (0))) 0 2 true) 2 true) <|
        .jmp 0 (.cons (.fld (.proj (.var 4) 1) 0 1 false) (.cons (.fld (.proj (.var 4) 1) 1 1 false) (.cons (.fld (.proj (.var 4) 1) 2 1 false) (.cons (.fld (.proj (.var 1) 0) 0 1 false) (.cons (.fld (.proj (.var 1) 0) 3 1 false) (.cons (.fld (.proj (.var 1) 0) 2 1 false) (.cons (.set (.fld (.proj (.var 1) 0) 4 1 false) (.int .i64 (0)) (.put (.idx (.fld (.proj (.var 1) 0) 4 1 false) (.int .i64 (0))) 0 (.mk (.cons (.bin .sub (.proj (.var 3) 0) (.int .i64 (1))) (.cons (.proj (.var 4) 0) .nil))) true)) .nil)))))))) (
        .jmp 0 (.cons (.fld (.proj (.var 2) 1) 0 1 false) (.cons (.fld (.proj (.var 2) 1) 1 1 false) (.cons (.fld (.proj (.var 2) 1) 2 1 false) (.cons (.fld (.proj (.var 1) 0) 0 1 false) (.cons (.fld (.proj (.var 1) 0) 3 1 false) (.cons (.fld (.proj (.var 1) 0) 2 1 false) (.cons (.fld (.proj (.var 1) 0) 4 1 false) .nil))))))))))))) (
   .ret (.tup (.cons (.mk (.cons (.var 5) (.cons (.fld (.proj (.var 1) 0) 1 1 false) (.cons (.var 7) (.cons (.var 6) (.cons (.var 8) .nil)))))) (.cons (.mk (.cons (.var 2) (.cons (.var 3) (.cons (.var 4) .nil)))) .nil))))
theorem C___spec_l1Cur__bentRenew : comp Try.prog sgs 42 = some T___spec_l1Cur__bentRenew := by kernel_rfl
theorem R___spec_l1Cur__bentRenew (a0 : DL1Cur) (r : DRenew × DL1Cur) (h : m___spec_l1Cur__bentRenew a0 = some r) : Rts Try.prog sgs 42 [avRL1Cur a0] (avTRenewL1CurZ2 r) := by
  refine rts_of C___spec_l1Cur__bentRenew (by kernel_rfl) ?_
  unfold Den T___spec_l1Cur__bentRenew
  unfold m___spec_l1Cur__bentRenew at h
  refine s_call avTRenewL1CurZ2 h (fun x hx => by simpa using R___spec_l1Cur__renew a0 x hx) (fun v1 cv1 h => ?_)
  refine s_joinI fun j2 hj2 => ?_
  refine s_call avTI64L1CurZ2 h (fun x hx => by simpa using R___spec_l1Cur__pick v1.2 14 x hx) (fun v3 cv3 h => ?_)
  refine s_chk (by simp) ?_
  refine s_ite h (by simp) (fun e4 h => ?_) (fun e4 h => ?_)
  · refine s_chk (by simp) ?_
    refine s_chk (by simp) ?_
    refine s_chk (by simp) ?_
    refine s_chk (by simp) ?_
    refine s_chk (by simp) ?_
    refine s_call avTI64L1CurZ2 h (fun x hx => by simpa using R___spec_l1Cur__among v3.2 ([(-1), 0, 999, 1000, 1001] : List Int) x hx) (fun v5 cv5 h => ?_)
    refine s_chk (by simp) ?_
    refine s_jmpI hj2 rfl (vs := [.sl (v5.2.fcode.map avU8), .int .i64 v5.2.fat, .int .u64 v5.2.fseed, .int .i64 v5.1, .int .i64 v1.1.fVer, .sl (v1.1.fClocks.map avClock), .sl (v1.1.fLeases.map avVLease)]) (by simp) ?_
    exact s_ret (av := avTRenewL1CurZ2) h (by simp)
  · refine s_chk (by simp) ?_
    refine s_ite h (by simp) (fun e6 h => ?_) (fun e6 h => ?_)
    · refine s_chk (by simp) ?_
      refine s_chk (by simp) ?_
      refine s_chk (by simp) ?_
      refine s_call avTI64L1CurZ2 h (fun x hx => by simpa using R___spec_l1Cur__among v3.2 ([(-1), 20, 21] : List Int) x hx) (fun v7 cv7 h => ?_)
      refine s_chk (by simp) ?_
      refine s_jmpI hj2 rfl (vs := [.sl (v7.2.fcode.map avU8), .int .i64 v7.2.fat, .int .u64 v7.2.fseed, .int .i64 v1.1.fNow, .int .i64 v7.1, .sl (v1.1.fClocks.map avClock), .sl (v1.1.fLeases.map avVLease)]) (by simp) ?_
      exact s_ret (av := avTRenewL1CurZ2) h (by simp)
    · refine s_chk (by simp) ?_
      refine s_ite h (by simp) (fun e8 h => ?_) (fun e8 h => ?_)
      · refine s_chk (by simp) ?_
        refine s_chk (by simp) ?_
        refine s_chk (by simp) ?_
        refine s_call avTI64L1CurZ2 h (fun x hx => by simpa using R___spec_l1Cur__among v3.2 ([(-6), 6, 5] : List Int) x hx) (fun v9 cv9 h => ?_)
        obtain ⟨y10, hy10, h⟩ := bindE h
        have hy10' := (getIE hy10).2.2
        try simp at hy10'
        refine s_chk (fun _ => c_inb (kk := .i64) (f := avClock) (by simp) (by simp) hy10 (by simp)) ?_
        refine s_chk (by simp) ?_
        refine s_chk (by simp [e4, e6, e8, hy10']) ?_
        refine s_jmpI hj2 rfl (vs := [.sl (v9.2.fcode.map avU8), .int .i64 v9.2.fat, .int .u64 v9.2.fseed, .int .i64 v1.1.fNow, .int .i64 v1.1.fVer, .sl ((v1.1.fClocks.set ((0 : Int)).toNat { y10 with fOff := v9.1 }).map avClock), .sl (v1.1.fLeases.map avVLease)]) (by simp [e4, e6, e8, hy10']) ?_
        exact s_ret (av := avTRenewL1CurZ2) h (by simp)
      · refine s_chk (by simp) ?_
        refine s_ite h (by simp) (fun e11 h => ?_) (fun e11 h => ?_)
        · refine s_chk (by simp) ?_
          obtain ⟨q12, h⟩ := reqE h
          refine s_chk (fun _ => c_room (show _ = AV.sl (List.map avVLease v1.1.fLeases) from by simp) (show _ = AV.sl (List.map avVLease ([(⟨0, 0⟩ : DVLease)] : List DVLease)) from by simp) (by simpa using q12)) ?_
          refine s_chk (fun _ => c_flatS avVLease (show _ = AV.sl (List.map avVLease ([(⟨0, 0⟩ : DVLease)] : List DVLease)) from by simp) (by simp)) ?_
          refine s_jmpI hj2 rfl (vs := [.sl (v3.2.fcode.map avU8), .int .i64 v3.2.fat, .int .u64 v3.2.fseed, .int .i64 v1.1.fNow, .int .i64 v1.1.fVer, .sl (v1.1.fClocks.map avClock), .sl ((v1.1.fLeases ++ [(⟨0, 0⟩ : DVLease)]).map avVLease)]) (by simp) ?_
          exact s_ret (av := avTRenewL1CurZ2) h (by simp)
        · refine s_chk (by simp) ?_
          refine s_ite h (by simp) (fun e13 h => ?_) (fun e13 h => ?_)
          · refine s_call avTI64L1CurZ2 h (fun x hx => by simpa using R___spec_l1Cur__pick v3.2 25 x hx) (fun v14 cv14 h => ?_)
            refine s_chk (by simp) ?_
            refine s_chk (by simp) ?_
            refine s_chk (by simp) ?_
            refine s_call avTI64L1CurZ2 h (fun x hx => by simpa using R___spec_l1Cur__among v14.2 ([(-1), 1021] : List Int) x hx) (fun v15 cv15 h => ?_)
            refine s_chk (by simp) ?_
            refine s_chk (by simp) ?_
            obtain ⟨y16, hy16, h⟩ := bindE h
            have hy16' := (getIE hy16).2.2
            try simp at hy16'
            refine s_chk (fun _ => c_inb (kk := .i64) (f := avVLease) (by simp) (by simp) hy16 (by simp)) ?_
            refine s_chk (by simp) ?_
            refine s_chk (by simp [e4, e6, e8, e11, e13, hy16']) ?_
            refine s_jmpI hj2 rfl (vs := [.sl (v15.2.fcode.map avU8), .int .i64 v15.2.fat, .int .u64 v15.2.fseed, .int .i64 v1.1.fNow, .int .i64 v1.1.fVer, .sl (v1.1.fClocks.map avClock), .sl ((v1.1.fLeases.set ((0 : Int)).toNat (⟨(IntKind.i64.wrap (v14.1 - 1)), v15.1⟩ : DVLease)).map avVLease)]) (by simp [e4, e6, e8, e11, e13, hy16']) ?_
            exact s_ret (av := avTRenewL1CurZ2) h (by simp)
          · refine s_jmpI hj2 rfl (vs := [.sl (v3.2.fcode.map avU8), .int .i64 v3.2.fat, .int .u64 v3.2.fseed, .int .i64 v1.1.fNow, .int .i64 v1.1.fVer, .sl (v1.1.fClocks.map avClock), .sl (v1.1.fLeases.map avVLease)]) (by simp) ?_
            exact s_ret (av := avTRenewL1CurZ2) h (by simp)
def T_spec_DrawStepRenew : Tr :=
  .chk [] (.cells (.var 0) 1) <|
  .call [] (.inl 42) (.cons (.ref (.mk (.cons (.var 0) (.cons (.int .i64 (0)) (.cons (.int .u64 (0)) .nil))))) .nil) <|
  .call [] (.inl 43) (.cons (.ref (.mk (.cons (.fld (.proj (.var 1) 1) 0 1 false) (.cons (.fld (.proj (.var 1) 1) 1 1 false) (.cons (.fld (.proj (.var 1) 1) 2 1 false) .nil))))) (.cons (.mk (.cons (.fld (.proj (.var 1) 0) 0 1 false) (.cons (.fld (.proj (.var 1) 0) 1 1 false) (.cons (.fld (.proj (.var 1) 0) 2 1 false) (.cons (.fld (.proj (.var 1) 0) 3 1 false) (.cons (.fld (.proj (.var 1) 0) 4 1 false) .nil)))))) .nil)) <|
  .chk [] (.agg (.proj (.var 2) 0) 3) <|
  .join (
   .call [] (.inl 44) (.cons (.ref (.mk (.cons (.fld (.proj (.var 2) 1) 0 1 false) (.cons (.fld (.proj (.var 2) 1) 1 1 false) (.cons (.fld (.proj (.var 2) 1) 2 1 false) .nil))))) (.cons (.int .i64 (12)) .nil)) <|
   .chk [] (.dfd (.bin .eql (.proj (.var 3) 0) (.int .i64 (0)))) <|
   .ite (.bin .eql (.proj (.var 3) 0) (.int .i64 (0))) (
    .call [] (.inl 44) (.cons (.ref (.mk (.cons (.fld (.proj (.var 3) 1) 0 1 false) (.cons (.fld (.proj (.var 3) 1) 1 1 false) (.cons (.fld (.proj (.var 3) 1) 2 1 false) .nil))))) (.cons (.int .i64 (6)) .nil)) <|
    .chk [] (.cells (.proj (.var 4) 0) 1) <|
    .jmp 0 (.cons (.proj (.var 4) 0) (.cons (.fld (.proj (.var 2) 0) 1 1 false) (.cons (.fld (.proj (.var 2) 0) 2 1 false) .nil)))) (
    .chk [] (.dfd (.bin .eql (.proj (.var 3) 0) (.int .i64 (1)))) <|
    .ite (.bin .eql (.proj (.var 3) 0) (.int .i64 (1))) (
     .call [] (.inl 44) (.cons (.ref (.mk (.cons (.fld (.proj (.var 3) 1) 0 1 false) (.cons (.fld (.proj (.var 3) 1) 1 1 false) (.cons (.fld (.proj (.var 3) 1) 2 1 false) .nil))))) (.cons (.int .i64 (6)) .nil)) <|
     .chk [] (.dfd (.bin .sub (.proj (.var 4) 0) (.int .i64 (1)))) <|
     .chk [] (.cells (.bin .sub (.proj (.var 4) 0) (.int .i64 (1))) 1) <|
     .jmp 0 (.cons (.fld (.proj (.var 2) 0) 0 1 false) (.cons (.bin .sub (.proj (.var 4) 0) (.int .i64 (1))) (.cons (.fld (.proj (.var 2) 0) 2 1 false) .nil)))) (
     .chk [] (.dfd (.bin .eql (.proj (.var 3) 0) (.int .i64 (2)))) <|
     .ite (.bin .eql (.proj (.var 3) 0) (.int .i64 (2))) (
      .chk [] (.flat (.int .i64 (-6)) 1 false) <|
      .chk [] (.flat (.int .i64 (0)) 1 false) <|
      .chk [] (.flat (.int .i64 (50)) 1 false) <|
      .chk [] (.flat (.int .i64 (51)) 1 false) <|
      .call [] (.inl 45) (.cons (.ref (.mk (.cons (.fld (.proj (.var 3) 1) 0 1 false) (.cons (.fld (.proj (.var 3) 1) 1 1 false) (.cons (.fld (.proj (.var 3) 1) 2 1 false) .nil))))) (.cons (.lst (.cons (.int .i64 (-6)) (.cons (.int .i64 (0)) (.cons (.int .i64 (50)) (.cons (.int .i64 (51)) .nil))))) .nil)) <|
      .chk [] (.cells (.proj (.var 4) 0) 1) <|
      .jmp 0 (.cons (.fld (.proj (.var 2) 0) 0 1 false) (.cons (.fld (.proj (.var 2) 0) 1 1 false) (.cons (.proj (.var 4) 0) .nil)))) (
      .jmp 0 (.cons (.fld (.proj (.var 2) 0) 0 1 false) (.cons (.fld (.proj (.var 2) 0) 1 1 false) (.cons (.fld (.proj (.var 2) 0) 2 1 false) .nil))))))) (
   .ret (.tup (.cons (.mk (.cons (.fld (.proj (.var 1) 0) 0 1 false) (.cons (.fld (.proj (.var 1) 0) 1 1 false) (.cons (.fld (.proj (.var 1) 0) 2 1 false) (.cons (.fld (.proj (.var 1) 0) 3 1 false) (.cons (.fld (.proj (.var 1) 0) 4 1 false) .nil)))))) (.cons (.mk (.cons (.var 3) (.cons (.var 4) (.cons (.var 5) .nil)))) .nil))))
theorem C_spec_DrawStepRenew : comp Try.prog sgs 7 = some T_spec_DrawStepRenew := by kernel_rfl
theorem R_spec_DrawStepRenew (a0 : List Int) (r : DRenew × DRenewAct) (h : m_spec_DrawStepRenew a0 = some r) : Rts Try.prog sgs 7 [.sl (a0.map avU8)] (avTRenewRenewActZ2 r) := by
  refine rts_of C_spec_DrawStepRenew (by kernel_rfl) ?_
  unfold Den T_spec_DrawStepRenew
  unfold m_spec_DrawStepRenew at h
  refine s_chk (by simp) ?_
  refine s_call avTRenewL1CurZ2 h (fun x hx => by simpa using R___spec_l1Cur__bentRenew (⟨a0, 0, 0⟩ : DL1Cur) x hx) (fun v1 cv1 h => ?_)
  refine s_call avTRenewActL1CurZ2 h (fun x hx => by simpa using R___spec_l1Cur__renewAct v1.2 v1.1 x hx) (fun v2 cv2 h => ?_)
  refine s_chk (by simp) ?_
  refine s_joinI fun j3 hj3 => ?_
  refine s_call avTI64L1CurZ2 h (fun x hx => by simpa using R___spec_l1Cur__pick v2.2 12 x hx) (fun v4 cv4 h => ?_)
  refine s_chk (by simp) ?_
  refine s_ite h (by simp) (fun e5 h => ?_) (fun e5 h => ?_)
  · refine s_call avTI64L1CurZ2 h (fun x hx => by simpa using R___spec_l1Cur__pick v4.2 6 x hx) (fun v6 cv6 h => ?_)
    refine s_chk (by simp) ?_
    refine s_jmpI hj3 rfl (vs := [.int .i64 v6.1, .int .i64 v2.1.fWho, .int .i64 v2.1.fBy]) (by simp) ?_
    exact s_ret (av := avTRenewRenewActZ2) h (by simp)
  · refine s_chk (by simp) ?_
    refine s_ite h (by simp) (fun e7 h => ?_) (fun e7 h => ?_)
    · refine s_call avTI64L1CurZ2 h (fun x hx => by simpa using R___spec_l1Cur__pick v4.2 6 x hx) (fun v8 cv8 h => ?_)
      refine s_chk (by simp) ?_
      refine s_chk (by simp) ?_
      refine s_jmpI hj3 rfl (vs := [.int .i64 v2.1.fKind, .int .i64 (IntKind.i64.wrap (v8.1 - 1)), .int .i64 v2.1.fBy]) (by simp) ?_
      exact s_ret (av := avTRenewRenewActZ2) h (by simp)
    · refine s_chk (by simp) ?_
      refine s_ite h (by simp) (fun e9 h => ?_) (fun e9 h => ?_)
      · refine s_chk (by simp) ?_
        refine s_chk (by simp) ?_
        refine s_chk (by simp) ?_
        refine s_chk (by simp) ?_
        refine s_call avTI64L1CurZ2 h (fun x hx => by simpa using R___spec_l1Cur__among v4.2 ([(-6), 0, 50, 51] : List Int) x hx) (fun v10 cv10 h => ?_)
        refine s_chk (by simp) ?_
        refine s_jmpI hj3 rfl (vs := [.int .i64 v2.1.fKind, .int .i64 v2.1.fWho, .int .i64 v10.1]) (by simp) ?_
        exact s_ret (av := avTRenewRenewActZ2) h (by simp)
      · refine s_jmpI hj3 rfl (vs := [.int .i64 v2.1.fKind, .int .i64 v2.1.fWho, .int .i64 v2.1.fBy]) (by simp) ?_
        exact s_ret (av := avTRenewRenewActZ2) h (by simp)
def T_impl_within : Tr :=
  .chk [] (.dfd (.bin .geq (.var 0) (.var 1))) <|
  .chk [((.bin .geq (.var 0) (.var 1)), true)] (.dfd (.bin .leq (.var 0) (.var 2))) <|
  .chk [] (.dfd (.not (.bin .geq (.var 0) (.var 1)))) <|
  .ret (.ite (.bin .geq (.var 0) (.var 1)) (.bin .leq (.var 0) (.var 2)) (.bool false))
theorem C_impl_within : comp Try.prog sgs 53 = some T_impl_within := by kernel_rfl
theorem R_impl_within (a0 : Int) (a1 : Int) (a2 : Int) (r : Bool) (h : m_impl_within a0 a1 a2 = some r) : Rts Try.prog sgs 53 [.int .i64 a0, .int .i64 a1, .int .i64 a2] (.bool r) := by
  refine rts_of C_impl_within (by kernel_rfl) ?_
  unfold Den T_impl_within
  unfold m_impl_within at h
  refine s_chk (by simp) ?_
  refine s_chk (by simp) ?_
  refine s_chk (by simp) ?_
  exact s_ret (av := avB) h (by simp)
def T_impl_GoodClock : Tr :=
  .chk [] (.agg (.var 0) 1) <|
  .call [] (.inl 53) (.cons (.fld (.var 0) 0 1 false) (.cons (.int .i64 (-5)) (.cons (.int .i64 (5)) .nil))) <|
  .ret (.var 1)
theorem C_impl_GoodClock : comp Try.prog sgs 57 = some T_impl_GoodClock := by kernel_rfl
theorem R_impl_GoodClock (a0 : DClock) (r : Bool) (h : m_impl_GoodClock a0 = some r) : Rts Try.prog sgs 57 [avClock a0] (.bool r) := by
  refine rts_of C_impl_GoodClock (by kernel_rfl) ?_
  unfold Den T_impl_GoodClock
  unfold m_impl_GoodClock at h
  refine s_chk (by simp) ?_
  refine s_call avB h (fun x hx => by simpa using R_impl_within a0.fOff (-5) 5 x hx) (fun v1 cv1 h => ?_)
  exact s_ret (av := avB) h (by simp)
def T_slices_IndexFunc___impl_Clock_impl_Clock_ : Tr :=
  .chk [] (.dfd (.len (.var 0))) <|
  .loop (.cons (.int .i64 (0)) .nil) (
   .chk [] (.dfd (.bin .lss (.var 2) (.len (.var 0)))) <|
   .ite (.bin .lss (.var 2) (.len (.var 0))) (
    .chk [] (.inb (.var 2) (.var 0) 1) <|
    .call [] (.inr (.var 1)) (.cons (.fld (.idx (.var 0) (.var 2)) 0 1 true) .nil) <|
    .ite (.var 3) (
     .ret (.var 2)) (
     .chk [] (.dfd (.bin .add (.var 2) (.int .i64 (1)))) <|
     .jmp 0 (.cons (.bin .add (.var 2) (.int .i64 (1))) .nil))) (
    .jmp 1 .nil)) (
   .ret (.int .i64 (-1)))
theorem C_slices_IndexFunc___impl_Clock_impl_Clock_ : comp Try.prog sgs 95 = some T_slices_IndexFunc___impl_Clock_impl_Clock_ := by kernel_rfl
theorem R_slices_IndexFunc___impl_Clock_impl_Clock_ (xs : List DClock) (p : DClock → Option Bool) (g : Nat) (caps : List AV) (r : Int) (h : m_IndexFunc xs p = some r) (hp : ∀ x b, p x = some b → Rts Try.prog sgs (1000000 + g) ((avClock x) :: caps) (.bool b)) : Rts Try.prog sgs 95 [.sl (xs.map avClock), .fn g caps] (.int .i64 r) := rts_of C_slices_IndexFunc___impl_Clock_impl_Clock_ (by kernel_rfl) (hof_idx (av := avClock) (cn := 1) (fun _ => ⟨_, rfl, rfl⟩) h hp)
def T_slices_ContainsFunc___impl_Clock_impl_Clock_ : Tr :=
  .call [] (.inl 95) (.cons (.var 0) (.cons (.var 1) .nil)) <|
  .chk [] (.dfd (.bin .geq (.var 2) (.int .i64 (0)))) <|
  .ret (.bin .geq (.var 2) (.int .i64 (0)))
theorem C_slices_ContainsFunc___impl_Clock_impl_Clock_ : comp Try.prog sgs 58 = some T_slices_ContainsFunc___impl_Clock_impl_Clock_ := by kernel_rfl
theorem R_slices_ContainsFunc___impl_Clock_impl_Clock_ (xs : List DClock) (p : DClock → Option Bool) (g : Nat) (caps : List AV) (r : Bool) (h : m_ContainsFunc xs p = some r) (hp : ∀ x b, p x = some b → Rts Try.prog sgs (1000000 + g) ((avClock x) :: caps) (.bool b)) : Rts Try.prog sgs 58 [.sl (xs.map avClock), .fn g caps] (.bool r) := rts_of C_slices_ContainsFunc___impl_Clock_impl_Clock_ (by kernel_rfl) (hof_has h fun r hr => R_slices_IndexFunc___impl_Clock_impl_Clock_ xs p g caps r hr hp)
def T_impl_GoodRenew_1 : Tr :=
  .chk [] (.agg (.var 0) 1) <|
  .call [] (.inl 57) (.cons (.mk (.cons (.fld (.var 0) 0 1 false) .nil)) .nil) <|
  .chk [] (.dfd (.not (.var 1))) <|
  .ret (.not (.var 1))
theorem C_impl_GoodRenew_1 : comp Try.prog sgs 59 = some T_impl_GoodRenew_1 := by kernel_rfl
theorem R_impl_GoodRenew_1 (a0 : DClock) (r : Bool) (h : m_impl_GoodRenew_1 a0 = some r) : Rts Try.prog sgs 59 [avClock a0] (.bool r) := by
  refine rts_of C_impl_GoodRenew_1 (by kernel_rfl) ?_
  unfold Den T_impl_GoodRenew_1
  unfold m_impl_GoodRenew_1 at h
  refine s_chk (by simp) ?_
  refine s_call avB h (fun x hx => by simpa using R_impl_GoodClock a0 x hx) (fun v1 cv1 h => ?_)
  refine s_chk (by simp) ?_
  exact s_ret (av := avB) h (by simp)
def T_slices_IndexFunc___impl_VLease_impl_VLease_ : Tr :=
  .chk [] (.dfd (.len (.var 0))) <|
  .loop (.cons (.int .i64 (0)) .nil) (
   .chk [] (.dfd (.bin .lss (.var 2) (.len (.var 0)))) <|
   .ite (.bin .lss (.var 2) (.len (.var 0))) (
    .chk [] (.inb (.var 2) (.var 0) 2) <|
    .call [] (.inr (.var 1)) (.cons (.fld (.idx (.var 0) (.var 2)) 0 2 true) .nil) <|
    .ite (.var 3) (
     .ret (.var 2)) (
     .chk [] (.dfd (.bin .add (.var 2) (.int .i64 (1)))) <|
     .jmp 0 (.cons (.bin .add (.var 2) (.int .i64 (1))) .nil))) (
    .jmp 1 .nil)) (
   .ret (.int .i64 (-1)))
theorem C_slices_IndexFunc___impl_VLease_impl_VLease_ : comp Try.prog sgs 93 = some T_slices_IndexFunc___impl_VLease_impl_VLease_ := by kernel_rfl
theorem R_slices_IndexFunc___impl_VLease_impl_VLease_ (xs : List DVLease) (p : DVLease → Option Bool) (g : Nat) (caps : List AV) (r : Int) (h : m_IndexFunc xs p = some r) (hp : ∀ x b, p x = some b → Rts Try.prog sgs (1000000 + g) ((avVLease x) :: caps) (.bool b)) : Rts Try.prog sgs 93 [.sl (xs.map avVLease), .fn g caps] (.int .i64 r) := rts_of C_slices_IndexFunc___impl_VLease_impl_VLease_ (by kernel_rfl) (hof_idx (av := avVLease) (cn := 2) (fun _ => ⟨_, rfl, rfl⟩) h hp)
def T_slices_ContainsFunc___impl_VLease_impl_VLease_ : Tr :=
  .call [] (.inl 93) (.cons (.var 0) (.cons (.var 1) .nil)) <|
  .chk [] (.dfd (.bin .geq (.var 2) (.int .i64 (0)))) <|
  .ret (.bin .geq (.var 2) (.int .i64 (0)))
theorem C_slices_ContainsFunc___impl_VLease_impl_VLease_ : comp Try.prog sgs 51 = some T_slices_ContainsFunc___impl_VLease_impl_VLease_ := by kernel_rfl
theorem R_slices_ContainsFunc___impl_VLease_impl_VLease_ (xs : List DVLease) (p : DVLease → Option Bool) (g : Nat) (caps : List AV) (r : Bool) (h : m_ContainsFunc xs p = some r) (hp : ∀ x b, p x = some b → Rts Try.prog sgs (1000000 + g) ((avVLease x) :: caps) (.bool b)) : Rts Try.prog sgs 51 [.sl (xs.map avVLease), .fn g caps] (.bool r) := rts_of C_slices_ContainsFunc___impl_VLease_impl_VLease_ (by kernel_rfl) (hof_has h fun r hr => R_slices_IndexFunc___impl_VLease_impl_VLease_ xs p g caps r hr hp)
def T_impl_GoodRenew_2 : Tr :=
  .chk [] (.agg (.var 0) 2) <|
  .chk [] (.isref (.var 1) 0) <|
  .chk [] (.isref (.var 1) 4) <|
  .call [] (.inl 53) (.cons (.fld (.var 0) 0 1 false) (.cons (.int .i64 (0)) (.cons (.fld (.deref (.var 1)) 3 1 false) .nil))) <|
  .chk [] (.dfd (.not (.var 2))) <|
  .call [((.not (.var 2)), false)] (.inl 53) (.cons (.fld (.var 0) 1 1 false) (.cons (.int .i64 (0)) (.cons (.int .i64 (1020)) .nil))) <|
  .chk [((.not (.var 2)), false)] (.dfd (.not (.var 3))) <|
  .chk [] (.dfd (.not (.not (.var 2)))) <|
  .ret (.ite (.not (.var 2)) (.bool true) (.not (.var 3)))
theorem C_impl_GoodRenew_2 : comp Try.prog sgs 60 = some T_impl_GoodRenew_2 := by kernel_rfl
theorem R_impl_GoodRenew_2 (a0 : DVLease) (a1 : DRenew) (r : Bool) (h : m_impl_GoodRenew_2 a0 a1 = some r) : Rts Try.prog sgs 60 [avVLease a0, avRRenew a1] (.bool r) := by
  refine rts_of C_impl_GoodRenew_2 (by kernel_rfl) ?_
  unfold Den T_impl_GoodRenew_2
  unfold m_impl_GoodRenew_2 at h
  refine s_chk (by simp) ?_
  refine s_chk (by simp) ?_
  refine s_chk (by simp) ?_
  refine s_call avB h (fun x hx => by simpa using R_impl_within a0.fVer 0 a1.fVer x hx) (fun v1 cv1 h => ?_)
  refine s_chk (by simp) ?_
  refine s_split h (fun e2 h => ?_) (fun e2 h => ?_)
  · refine s_call avB h (fun x hx => by simpa using R_impl_within a0.fUntil 0 1020 x hx) (fun v3 cv3 h => ?_)
    refine s_chk (by simp) ?_
    refine s_chk (by simp) ?_
    exact s_ret (av := avB) h (by simp [e2])
  · refine s_skip (by simp [e2]) ?_
    refine s_chk (by simp [e2]) ?_
    refine s_chk (by simp) ?_
    exact s_ret (av := avB) h (by simp [e2])
def T_impl_GoodRenew : Tr :=
  .chk [] (.agg (.var 0) 5) <|
  .call [] (.inl 53) (.cons (.fld (.var 0) 0 1 false) (.cons (.int .i64 (0)) (.cons (.int .i64 (1000)) .nil))) <|
  .call [((.var 1), true)] (.inl 57) (.cons (.mk (.cons (.fld (.var 0) 1 1 false) .nil)) .nil) <|
  .chk [] (.dfd (.not (.var 1))) <|
  .chk [((.ite (.var 1) (.var 2) (.bool false)), true)] (.dfd (.len (.fld (.var 0) 2 1 false))) <|
  .call [((.ite (.var 1) (.var 2) (.bool false)), true)] (.inl 53) (.cons (.len (.fld (.var 0) 2 1 false)) (.cons (.int .i64 (1)) (.cons (.int .i64 (3)) .nil))) <|
  .chk [] (.dfd (.not (.ite (.var 1) (.var 2) (.bool false)))) <|
  .call [((.ite (.ite (.var 1) (.var 2) (.bool false)) (.var 3) (.bool false)), true)] (.inl 53) (.cons (.fld (.var 0) 3 1 false) (.cons (.int .i64 (0)) (.cons (.int .i64 (20)) .nil))) <|
  .chk [] (.dfd (.not (.ite (.ite (.var 1) (.var 2) (.bool false)) (.var 3) (.bool false)))) <|
  .chk [((.ite (.ite (.ite (.var 1) (.var 2) (.bool false)) (.var 3) (.bool false)) (.var 4) (.bool false)), true)] (.dfd (.len (.fld (.var 0) 4 1 false))) <|
  .chk [((.ite (.ite (.ite (.var 1) (.var 2) (.bool false)) (.var 3) (.bool false)) (.var 4) (.bool false)), true)] (.dfd (.len (.fld (.var 0) 2 1 false))) <|
  .chk [] (.dfd (.not (.ite (.ite (.ite (.var 1) (.var 2) (.bool false)) (.var 3) (.bool false)) (.var 4) (.bool false)))) <|
  .call [((.ite (.ite (.ite (.ite (.var 1) (.var 2) (.bool false)) (.var 3) (.bool false)) (.var 4) (.bool false)) (.bin .eql (.len (.fld (.var 0) 4 1 false)) (.len (.fld (.var 0) 2 1 false))) (.bool false)), true)] (.inl 58) (.cons (.fld (.var 0) 2 1 false) (.cons (.fn 59 .nil) .nil)) <|
  .chk [((.ite (.ite (.ite (.ite (.var 1) (.var 2) (.bool false)) (.var 3) (.bool false)) (.var 4) (.bool false)) (.bin .eql (.len (.fld (.var 0) 4 1 false)) (.len (.fld (.var 0) 2 1 false))) (.bool false)), true)] (.dfd (.not (.var 5))) <|
  .chk [] (.dfd (.not (.ite (.ite (.ite (.ite (.var 1) (.var 2) (.bool false)) (.var 3) (.bool false)) (.var 4) (.bool false)) (.bin .eql (.len (.fld (.var 0) 4 1 false)) (.len (.fld (.var 0) 2 1 false))) (.bool false)))) <|
  .call [((.ite (.ite (.ite (.ite (.ite (.var 1) (.var 2) (.bool false)) (.var 3) (.bool false)) (.var 4) (.bool false)) (.bin .eql (.len (.fld (.var 0) 4 1 false)) (.len (.fld (.var 0) 2 1 false))) (.bool false)) (.not (.var 5)) (.bool false)), true)] (.inl 51) (.cons (.fld (.var 0) 4 1 false) (.cons (.fn 60 (.cons (.ref (.mk (.cons (.fld (.var 0) 0 1 false) (.cons (.fld (.var 0) 1 1 false) (.cons (.fld (.var 0) 2 1 false) (.cons (.fld (.var 0) 3 1 false) (.cons (.fld (.var 0) 4 1 false) .nil))))))) .nil)) .nil)) <|
  .chk [((.ite (.ite (.ite (.ite (.ite (.var 1) (.var 2) (.bool false)) (.var 3) (.bool false)) (.var 4) (.bool false)) (.bin .eql (.len (.fld (.var 0) 4 1 false)) (.len (.fld (.var 0) 2 1 false))) (.bool false)) (.not (.var 5)) (.bool false)), true)] (.dfd (.not (.var 6))) <|
  .chk [] (.dfd (.not (.ite (.ite (.ite (.ite (.ite (.var 1) (.var 2) (.bool false)) (.var 3) (.bool false)) (.var 4) (.bool false)) (.bin .eql (.len (.fld (.var 0) 4 1 false)) (.len (.fld (.var 0) 2 1 false))) (.bool false)) (.not (.var 5)) (.bool false)))) <|
  .ret (.ite (.ite (.ite (.ite (.ite (.ite (.var 1) (.var 2) (.bool false)) (.var 3) (.bool false)) (.var 4) (.bool false)) (.bin .eql (.len (.fld (.var 0) 4 1 false)) (.len (.fld (.var 0) 2 1 false))) (.bool false)) (.not (.var 5)) (.bool false)) (.not (.var 6)) (.bool false))
theorem C_impl_GoodRenew : comp Try.prog sgs 16 = some T_impl_GoodRenew := by kernel_rfl
theorem R_impl_GoodRenew (a0 : DRenew) (r : Bool) (h : m_impl_GoodRenew a0 = some r) : Rts Try.prog sgs 16 [avRenew a0] (.bool r) := by
  refine rts_of C_impl_GoodRenew (by kernel_rfl) ?_
  unfold Den T_impl_GoodRenew
  unfold m_impl_GoodRenew at h
  refine s_chk (by simp) ?_
  refine s_call avB h (fun x hx => by simpa using R_impl_within a0.fNow 0 1000 x hx) (fun v1 cv1 h => ?_)
  refine s_split h (fun e2 h => ?_) (fun e2 h => ?_)
  · refine s_call avB h (fun x hx => by simpa using R_impl_GoodClock a0.fMaster x hx) (fun v3 cv3 h => ?_)
    refine s_chk (by simp) ?_
    refine s_chk (by simp) ?_
    refine s_split h (fun e4 h => ?_) (fun e4 h => ?_)
    · refine s_call avB h (fun x hx => by simpa using R_impl_within (a0.fClocks.length : Int) 1 3 x hx) (fun v5 cv5 h => ?_)
      refine s_chk (by simp [e2, e4]) ?_
      refine s_split h (fun e6 h => ?_) (fun e6 h => ?_)
      · refine s_call avB h (fun x hx => by simpa using R_impl_within a0.fVer 0 20 x hx) (fun v7 cv7 h => ?_)
        refine s_chk (by simp [e2, e4, e6]) ?_
        refine s_chk (by simp) ?_
        refine s_chk (by simp) ?_
        refine s_chk (by simp [e2, e4, e6]) ?_
        refine s_split h (fun e8 h => ?_) (fun e8 h => ?_)
        · refine s_split h (fun e9 h => ?_) (fun e9 h => ?_)
          · refine s_call avB h (fun x hx => by simpa using R_slices_ContainsFunc___impl_Clock_impl_Clock_ a0.fClocks (fun y0 => m_impl_GoodRenew_1 y0) _ [] x hx (fun y0 b hb => rts_plain (R_impl_GoodRenew_1 y0 b hb) (by kernel_rfl))) (fun v10 cv10 h => ?_)
            refine s_chk (by simp) ?_
            refine s_chk (by simp [e2, e4, e6, e8, e9]) ?_
            refine s_split h (fun e11 h => ?_) (fun e11 h => ?_)
            · refine s_skip (by simp [e2, e4, e6, e8, e9, e11]) ?_
              refine s_chk (by simp [e2, e4, e6, e8, e9, e11]) ?_
              refine s_chk (by simp [e2, e4, e6, e8, e9, e11]) ?_
              exact s_ret (av := avB) h (by simp [e2, e4, e6, e8, e9, e11])
            · refine s_call avB h (fun x hx => by simpa using R_slices_ContainsFunc___impl_VLease_impl_VLease_ a0.fLeases (fun y0 => m_impl_GoodRenew_2 y0 a0) _ [avRRenew a0] x hx (fun y0 b hb => rts_plain (R_impl_GoodRenew_2 y0 a0 b hb) (by kernel_rfl))) (fun v12 cv12 h => ?_)
              refine s_chk (by simp) ?_
              refine s_chk (by simp [e2, e4, e6, e8, e9, e11]) ?_
              exact s_ret (av := avB) h (by simp [e2, e4, e6, e8, e9, e11])
          · refine s_skip (by simp [e2, e4, e6, e8, e9]) ?_
            refine s_chk (by simp [e2, e4, e6, e8, e9]) ?_
            refine s_chk (by simp [e2, e4, e6, e8, e9]) ?_
            refine s_skip (by simp [e2, e4, e6, e8, e9]) ?_
            refine s_chk (by simp [e2, e4, e6, e8, e9]) ?_
            refine s_chk (by simp [e2, e4, e6, e8, e9]) ?_
            exact s_ret (av := avB) h (by simp [e2, e4, e6, e8, e9])
        · refine s_skip (by simp [e2, e4, e6, e8]) ?_
          refine s_chk (by simp [e2, e4, e6, e8]) ?_
          refine s_chk (by simp [e2, e4, e6, e8]) ?_
          refine s_skip (by simp [e2, e4, e6, e8]) ?_
          refine s_chk (by simp [e2, e4, e6, e8]) ?_
          refine s_chk (by simp [e2, e4, e6, e8]) ?_
          exact s_ret (av := avB) h (by simp [e2, e4, e6, e8])
      · refine s_skip (by simp [e2, e4, e6]) ?_
        refine s_chk (by simp [e2, e4, e6]) ?_
        refine s_chk (by simp [e2, e4, e6]) ?_
        refine s_chk (by simp [e2, e4, e6]) ?_
        refine s_chk (by simp [e2, e4, e6]) ?_
        refine s_skip (by simp [e2, e4, e6]) ?_
        refine s_chk (by simp [e2, e4, e6]) ?_
        refine s_chk (by simp [e2, e4, e6]) ?_
        refine s_skip (by simp [e2, e4, e6]) ?_
        refine s_chk (by simp [e2, e4, e6]) ?_
        refine s_chk (by simp [e2, e4, e6]) ?_
        exact s_ret (av := avB) h (by simp [e2, e4, e6])
    · refine s_skip (by simp [e2, e4]) ?_
      refine s_chk (by simp [e2, e4]) ?_
      refine s_skip (by simp [e2, e4]) ?_
      refine s_chk (by simp [e2, e4]) ?_
      refine s_chk (by simp [e2, e4]) ?_
      refine s_chk (by simp [e2, e4]) ?_
      refine s_chk (by simp [e2, e4]) ?_
      refine s_skip (by simp [e2, e4]) ?_
      refine s_chk (by simp [e2, e4]) ?_
      refine s_chk (by simp [e2, e4]) ?_
      refine s_skip (by simp [e2, e4]) ?_
      refine s_chk (by simp [e2, e4]) ?_
      refine s_chk (by simp [e2, e4]) ?_
      exact s_ret (av := avB) h (by simp [e2, e4])
  · refine s_skip (by simp [e2]) ?_
    refine s_chk (by simp) ?_
    refine s_chk (by simp [e2]) ?_
    refine s_skip (by simp [e2]) ?_
    refine s_chk (by simp [e2]) ?_
    refine s_skip (by simp [e2]) ?_
    refine s_chk (by simp [e2]) ?_
    refine s_chk (by simp [e2]) ?_
    refine s_chk (by simp [e2]) ?_
    refine s_chk (by simp [e2]) ?_
    refine s_skip (by simp [e2]) ?_
    refine s_chk (by simp [e2]) ?_
    refine s_chk (by simp [e2]) ?_
    refine s_skip (by simp [e2]) ?_
    refine s_chk (by simp [e2]) ?_
    refine s_chk (by simp [e2]) ?_
    exact s_ret (av := avB) h (by simp [e2])
def T__impl_Renew__isRenewAct : Tr :=
  .chk [] (.agg (.var 0) 5) <|
  .chk [] (.agg (.var 1) 3) <|
  .chk [] (.dfd (.bin .eql (.fld (.var 1) 0 1 false) (.int .i64 (1)))) <|
  .ite (.bin .eql (.fld (.var 1) 0 1 false) (.int .i64 (1))) (
   .chk [] (.dfd (.bin .eql (.fld (.var 1) 1 1 false) (.int .i64 (0)))) <|
   .call [((.bin .eql (.fld (.var 1) 1 1 false) (.int .i64 (0))), true)] (.inl 53) (.cons (.fld (.var 1) 2 1 false) (.cons (.int .i64 (1)) (.cons (.int .i64 (50)) .nil))) <|
   .chk [] (.dfd (.not (.bin .eql (.fld (.var 1) 1 1 false) (.int .i64 (0))))) <|
   .ret (.ite (.bin .eql (.fld (.var 1) 1 1 false) (.int .i64 (0))) (.var 2) (.bool false))) (
   .chk [] (.dfd (.bin .eql (.fld (.var 1) 0 1 false) (.int .i64 (2)))) <|
   .ite (.bin .eql (.fld (.var 1) 0 1 false) (.int .i64 (2))) (
    .chk [] (.dfd (.len (.fld (.var 0) 2 1 false))) <|
    .call [] (.inl 53) (.cons (.fld (.var 1) 1 1 false) (.cons (.int .i64 (0)) (.cons (.len (.fld (.var 0) 2 1 false)) .nil))) <|
    .chk [((.var 2), true)] (.cells (.fld (.var 1) 2 1 false) 1) <|
    .call [((.var 2), true)] (.inl 57) (.cons (.mk (.cons (.fld (.var 1) 2 1 false) .nil)) .nil) <|
    .chk [] (.dfd (.not (.var 2))) <|
    .ret (.ite (.var 2) (.var 3) (.bool false))) (
    .chk [] (.dfd (.bin .eql (.fld (.var 1) 0 1 false) (.int .i64 (3)))) <|
    .ite (.bin .eql (.fld (.var 1) 0 1 false) (.int .i64 (3))) (
     .chk [] (.dfd (.len (.fld (.var 0) 2 1 false))) <|
     .call [] (.inl 53) (.cons (.fld (.var 1) 1 1 false) (.cons (.int .i64 (0)) (.cons (.bin .sub (.len (.fld (.var 0) 2 1 false)) (.int .i64 (1))) .nil))) <|
     .chk [((.var 2), true)] (.dfd (.bin .eql (.fld (.var 1) 2 1 false) (.int .i64 (0)))) <|
     .chk [] (.dfd (.not (.var 2))) <|
     .ret (.ite (.var 2) (.bin .eql (.fld (.var 1) 2 1 false) (.int .i64 (0))) (.bool false))) (
     .chk [] (.dfd (.bin .eql (.fld (.var 1) 0 1 false) (.int .i64 (4)))) <|
     .ite (.bin .eql (.fld (.var 1) 0 1 false) (.int .i64 (4))) (
      .chk [] (.dfd (.bin .eql (.fld (.var 1) 1 1 false) (.int .i64 (0)))) <|
      .chk [((.bin .eql (.fld (.var 1) 1 1 false) (.int .i64 (0))), true)] (.dfd (.bin .eql (.fld (.var 1) 2 1 false) (.int .i64 (0)))) <|
      .chk [] (.dfd (.not (.bin .eql (.fld (.var 1) 1 1 false) (.int .i64 (0))))) <|
      .ret (.ite (.bin .eql (.fld (.var 1) 1 1 false) (.int .i64 (0))) (.bin .eql (.fld (.var 1) 2 1 false) (.int .i64 (0))) (.bool false))) (
      .ret (.bool false)))))
theorem C__impl_Renew__isRenewAct : comp Try.prog sgs 63 = some T__impl_Renew__isRenewAct := by kernel_rfl
theorem R__impl_Renew__isRenewAct (a0 : DRenew) (a1 : DRenewAct) (r : Bool) (h : m__impl_Renew__isRenewAct a0 a1 = some r) : Rts Try.prog sgs 63 [avRenew a0, avRenewAct a1] (.bool r) := by
  refine rts_of C__impl_Renew__isRenewAct (by kernel_rfl) ?_
  unfold Den T__impl_Renew__isRenewAct
  unfold m__impl_Renew__isRenewAct at h
  refine s_chk (by simp) ?_
  refine s_chk (by simp) ?_
  refine s_chk (by simp) ?_
  refine s_ite h (by simp) (fun e1 h => ?_) (fun e1 h => ?_)
  · refine s_chk (by simp) ?_
    refine s_split h (fun e2 h => ?_) (fun e2 h => ?_)
    · refine s_call avB h (fun x hx => by simpa using R_impl_within a1.fBy 1 50 x hx) (fun v3 cv3 h => ?_)
      refine s_chk (by simp) ?_
      exact s_ret (av := avB) h (by simp [e1, e2])
    · refine s_skip (by simp [e1, e2]) ?_
      refine s_chk (by simp) ?_
      exact s_ret (av := avB) h (by simp [e1, e2])
  · refine s_chk (by simp) ?_
    refine s_ite h (by simp) (fun e4 h => ?_) (fun e4 h => ?_)
    · refine s_chk (by simp) ?_
      refine s_call avB h (fun x hx => by simpa using R_impl_within a1.fWho 0 (a0.fClocks.length : Int) x hx) (fun v5 cv5 h => ?_)
      refine s_chk (by simp) ?_
      refine s_split h (fun e6 h => ?_) (fun e6 h => ?_)
      · refine s_call avB h (fun x hx => by simpa using R_impl_GoodClock (⟨a1.fBy⟩ : DClock) x hx) (fun v7 cv7 h => ?_)
        refine s_chk (by simp) ?_
        exact s_ret (av := avB) h (by simp [e1, e4, e6])
      · refine s_skip (by simp [e1, e4, e6]) ?_
        refine s_chk (by simp) ?_
        exact s_ret (av := avB) h (by simp [e1, e4, e6])
    · refine s_chk (by simp) ?_
      refine s_ite h (by simp) (fun e8 h => ?_) (fun e8 h => ?_)
      · refine s_chk (by simp) ?_
        refine s_call avB h (fun x hx => by simpa using R_impl_within a1.fWho 0 (IntKind.i64.wrap ((a0.fClocks.length : Int) - 1)) x hx) (fun v9 cv9 h => ?_)
        refine s_chk (by simp) ?_
        refine s_chk (by simp) ?_
        exact s_ret (av := avB) h (by simp [e1, e4, e8])
      · refine s_chk (by simp) ?_
        refine s_ite h (by simp) (fun e10 h => ?_) (fun e10 h => ?_)
        · refine s_chk (by simp) ?_
          refine s_chk (by simp) ?_
          refine s_chk (by simp) ?_
          exact s_ret (av := avB) h (by simp [e1, e4, e8, e10])
        · exact s_ret (av := avB) h (by simp)
def T_impl_GoodRenewAct : Tr :=
  .chk [] (.agg (.var 0) 5) <|
  .chk [] (.agg (.var 1) 3) <|
  .call [] (.inl 16) (.cons (.mk (.cons (.fld (.var 0) 0 1 false) (.cons (.fld (.var 0) 1 1 false) (.cons (.fld (.var 0) 2 1 false) (.cons (.fld (.var 0) 3 1 false) (.cons (.fld (.var 0) 4 1 false) .nil)))))) .nil) <|
  .call [((.var 2), true)] (.inl 63) (.cons (.mk (.cons (.fld (.var 0) 0 1 false) (.cons (.fld (.var 0) 1 1 false) (.cons (.fld (.var 0) 2 1 false) (.cons (.fld (.var 0) 3 1 false) (.cons (.fld (.var 0) 4 1 false) .nil)))))) (.cons (.mk (.cons (.fld (.var 1) 0 1 false) (.cons (.fld (.var 1) 1 1 false) (.cons (.fld (.var 1) 2 1 false) .nil)))) .nil)) <|
  .chk [] (.dfd (.not (.var 2))) <|
  .ret (.ite (.var 2) (.var 3) (.bool false))
theorem C_impl_GoodRenewAct : comp Try.prog sgs 18 = some T_impl_GoodRenewAct := by kernel_rfl
theorem R_impl_GoodRenewAct (a0 : DRenew) (a1 : DRenewAct) (r : Bool) (h : m_impl_GoodRenewAct a0 a1 = some r) : Rts Try.prog sgs 18 [avRenew a0, avRenewAct a1] (.bool r) := by
  refine rts_of C_impl_GoodRenewAct (by kernel_rfl) ?_
  unfold Den T_impl_GoodRenewAct
  unfold m_impl_GoodRenewAct at h
  refine s_chk (by simp) ?_
  refine s_chk (by simp) ?_
  refine s_call avB h (fun x hx => by simpa using R_impl_GoodRenew a0 x hx) (fun v1 cv1 h => ?_)
  refine s_split h (fun e2 h => ?_) (fun e2 h => ?_)
  · refine s_call avB h (fun x hx => by simpa using R__impl_Renew__isRenewAct a0 a1 x hx) (fun v3 cv3 h => ?_)
    refine s_chk (by simp) ?_
    exact s_ret (av := avB) h (by simp [e2])
  · refine s_skip (by simp [e2]) ?_
    refine s_chk (by simp) ?_
    exact s_ret (av := avB) h (by simp [e2])
def T_slices_Clone___impl_Clock_impl_Clock_ : Tr :=
  .chk [] (.dfd (.len (.var 0))) <|
  .nilq [] (.var 0) <|
  .ite (.var 1) (
   .ret (.lst .nil)) (
   .chk [] (.room (.lst .nil) (.var 0) 8) <|
   .chk [] (.flatS (.var 0) 1) <|
   .ret (.app (.lst .nil) (.var 0)))
theorem C_slices_Clone___impl_Clock_impl_Clock_ : comp Try.prog sgs 87 = some T_slices_Clone___impl_Clock_impl_Clock_ := by kernel_rfl
theorem R_slices_Clone___impl_Clock_impl_Clock_ (xs : List DClock) (r : List DClock) (h : m_slices_Clone___impl_Clock_impl_Clock_ xs = some r) : Rts Try.prog sgs 87 [.sl (xs.map avClock)] (.sl (r.map avClock)) := rts_of C_slices_Clone___impl_Clock_impl_Clock_ (by kernel_rfl) (lib_clone (bytes := 8) (sz := 1) (av := avClock) (by simp) h)
def T_slices_Clone___impl_VLease_impl_VLease_ : Tr :=
  .chk [] (.dfd (.len (.var 0))) <|
  .nilq [] (.var 0) <|
  .ite (.var 1) (
   .ret (.lst .nil)) (
   .chk [] (.room (.lst .nil) (.var 0) 16) <|
   .chk [] (.flatS (.var 0) 2) <|
   .ret (.app (.lst .nil) (.var 0)))
theorem C_slices_Clone___impl_VLease_impl_VLease_ : comp Try.prog sgs 88 = some T_slices_Clone___impl_VLease_impl_VLease_ := by kernel_rfl
theorem R_slices_Clone___impl_VLease_impl_VLease_ (xs : List DVLease) (r : List DVLease) (h : m_slices_Clone___impl_VLease_impl_VLease_ xs = some r) : Rts Try.prog sgs 88 [.sl (xs.map avVLease)] (.sl (r.map avVLease)) := rts_of C_slices_Clone___impl_VLease_impl_VLease_ (by kernel_rfl) (lib_clone (bytes := 16) (sz := 2) (av := avVLease) (by simp) h)
def T_impl_copyRenew : Tr :=
  .chk [] (.agg (.var 0) 5) <|
  .call [] (.inl 87) (.cons (.fld (.var 0) 2 1 false) .nil) <|
  .call [] (.inl 88) (.cons (.fld (.var 0) 4 1 false) .nil) <|
  .ret (.mk (.cons (.fld (.var 0) 0 1 false) (.cons (.fld (.var 0) 1 1 false) (.cons (.var 1) (.cons (.fld (.var 0) 3 1 false) (.cons (.var 2) .nil))))))
theorem C_impl_copyRenew : comp Try.prog sgs 46 = some T_impl_copyRenew := by kernel_rfl
theorem R_impl_copyRenew (a0 : DRenew) (r : DRenew) (h : m_impl_copyRenew a0 = some r) : Rts Try.prog sgs 46 [avRenew a0] (avRenew r) := by
  refine rts_of C_impl_copyRenew (by kernel_rfl) ?_
  unfold Den T_impl_copyRenew
  unfold m_impl_copyRenew at h
  refine s_chk (by simp) ?_
  refine s_call avSClock h (fun x hx => by simpa using R_slices_Clone___impl_Clock_impl_Clock_ a0.fClocks x hx) (fun v1 cv1 h => ?_)
  refine s_call avSVLease h (fun x hx => by simpa using R_slices_Clone___impl_VLease_impl_VLease_ a0.fLeases x hx) (fun v2 cv2 h => ?_)
  exact s_ret (av := avRenew) h (by simp)
def T__impl_Clock__span : Tr :=
  .chk [] (.agg (.var 0) 1) <|
  .chk [] (.dfd (.bin .add (.var 1) (.fld (.var 0) 0 1 false))) <|
  .chk [] (.dfd (.bin .sub (.bin .add (.var 1) (.fld (.var 0) 0 1 false)) (.int .i64 (5)))) <|
  .chk [] (.dfd (.bin .add (.var 1) (.fld (.var 0) 0 1 false))) <|
  .chk [] (.dfd (.bin .add (.bin .add (.var 1) (.fld (.var 0) 0 1 false)) (.int .i64 (5)))) <|
  .chk [] (.cells (.bin .sub (.bin .add (.var 1) (.fld (.var 0) 0 1 false)) (.int .i64 (5))) 1) <|
  .chk [] (.cells (.bin .add (.bin .add (.var 1) (.fld (.var 0) 0 1 false)) (.int .i64 (5))) 1) <|
  .ret (.mk (.cons (.bin .sub (.bin .add (.var 1) (.fld (.var 0) 0 1 false)) (.int .i64 (5))) (.cons (.bin .add (.bin .add (.var 1) (.fld (.var 0) 0 1 false)) (.int .i64 (5))) .nil)))
theorem C__impl_Clock__span : comp Try.prog sgs 89 = some T__impl_Clock__span := by kernel_rfl
theorem R__impl_Clock__span (a0 : DClock) (a1 : Int) (r : DSpan) (h : m__impl_Clock__span a0 a1 = some r) : Rts Try.prog sgs 89 [avClock a0, .int .i64 a1] (avSpan r) := by
  refine rts_of C__impl_Clock__span (by kernel_rfl) ?_
  unfold Den T__impl_Clock__span
  unfold m__impl_Clock__span at h
  refine s_chk (by simp) ?_
  refine s_chk (by simp) ?_
  refine s_chk (by simp) ?_
  refine s_chk (by simp) ?_
  refine s_chk (by simp) ?_
  refine s_chk (by simp) ?_
  refine s_chk (by simp) ?_
  exact s_ret (av := avSpan) h (by simp)
def T___impl_Renew__step_1 : Tr :=
  .chk [] (.agg (.var 0) 2) <|
  .chk [] (.isref (.var 1) 0) <|
  .chk [] (.isref (.var 1) 1) <|
  .chk [] (.isref (.fld (.deref (.var 1)) 0 1 false) 0) <|
  .chk [] (.isref (.fld (.deref (.var 1)) 0 1 false) 4) <|
  .chk [] (.dfd (.bin .neq (.fld (.var 0) 0 1 false) (.fld (.deref (.fld (.deref (.var 1)) 0 1 false)) 3 1 false))) <|
  .chk [((.bin .neq (.fld (.var 0) 0 1 false) (.fld (.deref (.fld (.deref (.var 1)) 0 1 false)) 3 1 false)), true)] (.isref (.var 2) 0) <|
  .chk [((.bin .neq (.fld (.var 0) 0 1 false) (.fld (.deref (.fld (.deref (.var 1)) 0 1 false)) 3 1 false)), true)] (.isref (.var 2) 1) <|
  .chk [((.bin .neq (.fld (.var 0) 0 1 false) (.fld (.deref (.fld (.deref (.var 1)) 0 1 false)) 3 1 false)), true)] (.dfd (.bin .geq (.fld (.var 0) 1 1 false) (.fld (.deref (.var 2)) 0 1 false))) <|
  .chk [] (.dfd (.not (.bin .neq (.fld (.var 0) 0 1 false) (.fld (.deref (.fld (.deref (.var 1)) 0 1 false)) 3 1 false)))) <|
  .ret (.ite (.bin .neq (.fld (.var 0) 0 1 false) (.fld (.deref (.fld (.deref (.var 1)) 0 1 false)) 3 1 false)) (.bin .geq (.fld (.var 0) 1 1 false) (.fld (.deref (.var 2)) 0 1 false)) (.bool false))
theorem C___impl_Renew__step_1 : comp Try.prog sgs 90 = some T___impl_Renew__step_1 := by kernel_rfl
theorem R___impl_Renew__step_1 (a0 : DVLease) (a1 : DRenew) (a2 : Int) (r : Bool) (h : m___impl_Renew__step_1 a0 a1 a2 = some r) : Rts Try.prog sgs 90 [avVLease a0, avRRRenew a1, avRI64 a2] (.bool r) := by
  refine rts_of C___impl_Renew__step_1 (by kernel_rfl) ?_
  unfold Den T___impl_Renew__step_1
  unfold m___impl_Renew__step_1 at h
  refine s_chk (by simp) ?_
  refine s_chk (by simp) ?_
  refine s_chk (by simp) ?_
  refine s_chk (by simp) ?_
  refine s_chk (by simp) ?_
  refine s_chk (by simp) ?_
  refine s_chk (by simp) ?_
  refine s_chk (by simp) ?_
  refine s_chk (by simp) ?_
  refine s_chk (by simp) ?_
  exact s_ret (av := avB) h (by simp)
def T___impl_Renew__step : Tr :=
  .chk [] (.agg (.var 1) 3) <|
  .call [] (.inl 89) (.cons (.mk (.cons (.fld (.deref (.var 0)) 1 1 false) .nil)) (.cons (.fld (.deref (.var 0)) 0 1 false) .nil)) <|
  .chk [] (.agg (.var 2) 2) <|
  .chk [] (.cells (.fld (.var 2) 0 1 false) 1) <|
  .join (
   .chk [] (.dfd (.bin .eql (.fld (.var 1) 0 1 false) (.int .i64 (1)))) <|
   .chk [((.bin .eql (.fld (.var 1) 0 1 false) (.int .i64 (1))), true)] (.dfd (.bin .add (.fld (.deref (.var 0)) 0 1 false) (.fld (.var 1) 2 1 false))) <|
   .chk [((.bin .eql (.fld (.var 1) 0 1 false) (.int .i64 (1))), true)] (.dfd (.bin .leq (.bin .add (.fld (.deref (.var 0)) 0 1 false) (.fld (.var 1) 2 1 false)) (.int .i64 (1000)))) <|
   .chk [] (.dfd (.not (.bin .eql (.fld (.var 1) 0 1 false) (.int .i64 (1))))) <|
   .ite (.ite (.bin .eql (.fld (.var 1) 0 1 false) (.int .i64 (1))) (.bin .leq (.bin .add (.fld (.deref (.var 0)) 0 1 false) (.fld (.var 1) 2 1 false)) (.int .i64 (1000))) (.bool false)) (
    .chk [] (.dfd (.bin .add (.fld (.deref (.var 0)) 0 1 false) (.fld (.var 1) 2 1 false))) <|
    .chk [] (.cells (.bin .add (.fld (.deref (.var 0)) 0 1 false) (.fld (.var 1) 2 1 false)) 1) <|
    .jmp 0 (.cons (.bin .add (.fld (.deref (.var 0)) 0 1 false) (.fld (.var 1) 2 1 false)) (.cons (.fld (.deref (.var 0)) 1 1 false) (.cons (.fld (.deref (.var 0)) 2 1 false) (.cons (.fld (.deref (.var 0)) 4 1 false) (.cons (.fld (.deref (.var 0)) 3 1 false) .nil)))))) (
    .chk [] (.dfd (.bin .eql (.fld (.var 1) 0 1 false) (.int .i64 (2)))) <|
    .chk [((.bin .eql (.fld (.var 1) 0 1 false) (.int .i64 (2))), true)] (.dfd (.bin .eql (.fld (.var 1) 1 1 false) (.int .i64 (0)))) <|
    .chk [] (.dfd (.not (.bin .eql (.fld (.var 1) 0 1 false) (.int .i64 (2))))) <|
    .ite (.ite (.bin .eql (.fld (.var 1) 0 1 false) (.int .i64 (2))) (.bin .eql (.fld (.var 1) 1 1 false) (.int .i64 (0))) (.bool false)) (
     .chk [] (.cells (.fld (.var 1) 2 1 false) 1) <|
     .jmp 0 (.cons (.fld (.deref (.var 0)) 0 1 false) (.cons (.fld (.var 1) 2 1 false) (.cons (.fld (.deref (.var 0)) 2 1 false) (.cons (.fld (.deref (.var 0)) 4 1 false) (.cons (.fld (.deref (.var 0)) 3 1 false) .nil)))))) (
     .chk [] (.dfd (.bin .eql (.fld (.var 1) 0 1 false) (.int .i64 (2)))) <|
     .ite (.bin .eql (.fld (.var 1) 0 1 false) (.int .i64 (2))) (
      .chk [] (.dfd (.bin .sub (.fld (.var 1) 1 1 false) (.int .i64 (1)))) <|
      .chk [] (.inb (.bin .sub (.fld (.var 1) 1 1 false) (.int .i64 (1))) (.fld (.deref (.var 0)) 2 1 false) 1) <|
      .chk [] (.flat (.fld (.var 1) 2 1 false) 1 false) <|
      .chk [] (.flat (.fld (.idx (.fld (.deref (.var 0)) 2 1 false) (.bin .sub (.fld (.var 1) 1 1 false) (.int .i64 (1)))) 0 1 false) 1 false) <|
      .jmp 0 (.cons (.fld (.deref (.var 0)) 0 1 false) (.cons (.fld (.deref (.var 0)) 1 1 false) (.cons (.set (.fld (.deref (.var 0)) 2 1 false) (.bin .sub (.fld (.var 1) 1 1 false) (.int .i64 (1))) (.put (.idx (.fld (.deref (.var 0)) 2 1 false) (.bin .sub (.fld (.var 1) 1 1 false) (.int .i64 (1)))) 0 (.fld (.var 1) 2 1 false) true)) (.cons (.fld (.deref (.var 0)) 4 1 false) (.cons (.fld (.deref (.var 0)) 3 1 false) .nil)))))) (
      .chk [] (.dfd (.bin .eql (.fld (.var 1) 0 1 false) (.int .i64 (3)))) <|
      .chk [((.bin .eql (.fld (.var 1) 0 1 false) (.int .i64 (3))), true)] (.dfd (.bin .geq (.fld (.var 2) 0 1 false) (.int .i64 (0)))) <|
      .chk [] (.dfd (.not (.bin .eql (.fld (.var 1) 0 1 false) (.int .i64 (3))))) <|
      .ite (.ite (.bin .eql (.fld (.var 1) 0 1 false) (.int .i64 (3))) (.bin .geq (.fld (.var 2) 0 1 false) (.int .i64 (0))) (.bool false)) (
       .chk [] (.dfd (.bin .add (.fld (.var 2) 0 1 false) (.int .i64 (20)))) <|
       .chk [] (.cells (.fld (.deref (.var 0)) 3 1 false) 1) <|
       .chk [] (.cells (.bin .add (.fld (.var 2) 0 1 false) (.int .i64 (20))) 1) <|
       .chk [] (.inb (.fld (.var 1) 1 1 false) (.fld (.deref (.var 0)) 4 1 false) 2) <|
       .chk [] (.flat (.mk (.cons (.fld (.deref (.var 0)) 3 1 false) (.cons (.bin .add (.fld (.var 2) 0 1 false) (.int .i64 (20))) .nil))) 2 true) <|
       .chk [] (.flat (.fld (.idx (.fld (.deref (.var 0)) 4 1 false) (.fld (.var 1) 1 1 false)) 0 2 true) 2 true) <|
       .jmp 0 (.cons (.fld (.deref (.var 0)) 0 1 false) (.cons (.fld (.deref (.var 0)) 1 1 false) (.cons (.fld (.deref (.var 0)) 2 1 false) (.cons (.set (.fld (.deref (.var 0)) 4 1 false) (.fld (.var 1) 1 1 false) (.put (.idx (.fld (.deref (.var 0)) 4 1 false) (.fld (.var 1) 1 1 false)) 0 (.mk (.cons (.fld (.deref (.var 0)) 3 1 false) (.cons (.bin .add (.fld (.var 2) 0 1 false) (.int .i64 (20))) .nil))) true)) (.cons (.fld (.deref (.var 0)) 3 1 false) .nil)))))) (
       .chk [] (.dfd (.bin .eql (.fld (.var 1) 0 1 false) (.int .i64 (4)))) <|
       .chk [((.bin .eql (.fld (.var 1) 0 1 false) (.int .i64 (4))), true)] (.dfd (.bin .lss (.fld (.deref (.var 0)) 3 1 false) (.int .i64 (20)))) <|
       .chk [] (.dfd (.not (.bin .eql (.fld (.var 1) 0 1 false) (.int .i64 (4))))) <|
       .call [((.ite (.bin .eql (.fld (.var 1) 0 1 false) (.int .i64 (4))) (.bin .lss (.fld (.deref (.var 0)) 3 1 false) (.int .i64 (20))) (.bool false)), true)] (.inl 51) (.cons (.fld (.deref (.var 0)) 4 1 false) (.cons (.fn 90 (.cons (.ref (.mk (.cons (.ref (.mk (.cons (.fld (.deref (.var 0)) 0 1 false) (.cons (.fld (.deref (.var 0)) 1 1 false) (.cons (.fld (.deref (.var 0)) 2 1 false) (.cons (.fld (.deref (.var 0)) 3 1 false) (.cons (.fld (.deref (.var 0)) 4 1 false) .nil))))))) .nil))) (.cons (.ref (.mk (.cons (.fld (.var 2) 0 1 false) .nil))) .nil))) .nil)) <|
       .chk [((.ite (.bin .eql (.fld (.var 1) 0 1 false) (.int .i64 (4))) (.bin .lss (.fld (.deref (.var 0)) 3 1 false) (.int .i64 (20))) (.bool false)), true)] (.dfd (.not (.var 3))) <|
       .chk [] (.dfd (.not (.ite (.bin .eql (.fld (.var 1) 0 1 false) (.int .i64 (4))) (.bin .lss (.fld (.deref (.var 0)) 3 1 false) (.int .i64 (20))) (.bool false)))) <|
       .ite (.ite (.ite (.bin .eql (.fld (.var 1) 0 1 false) (.int .i64 (4))) (.bin .lss (.fld (.deref (.var 0)) 3 1 false) (.int .i64 (20))) (.bool false)) (.not (.var 3)) (.bool false)) (
        .chk [] (.dfd (.bin .add (.fld (.deref (.var 0)) 3 1 false) (.int .i64 (1)))) <|
        .chk [] (.cells (.bin .add (.fld (.deref (.var 0)) 3 1 false) (.int .i64 (1))) 1) <|
        .jmp 0 (.cons (.fld (.deref (.var 0)) 0 1 false) (.cons (.fld (.deref (.var 0)) 1 1 false) (.cons (.fld (.deref (.var 0)) 2 1 false) (.cons (.fld (.deref (.var 0)) 4 1 false) (.cons (.bin .add (.fld (.deref (.var 0)) 3 1 false) (.int .i64 (1))) .nil)))))) (
        .ret (.tup (.cons (.bool false) (.cons (.mk (.cons (.fld (.deref (.var 0)) 0 1 false) (.cons (.fld (.deref (.var 0)) 1 1 false) (.cons (.fld (.deref (.var 0)) 2 1 false) (.cons (.fld (.deref (.var 0)) 3 1 false) (.cons (.fld (.deref (.var 0)) 4 1 false) .nil)))))) .nil))))))))) (
   .ret (.tup (.cons (.bool true) (.cons (.mk (.cons (.var 3) (.cons (.var 4) (.cons (.var 5) (.cons (.var 7) (.cons (.var 6) .nil)))))) .nil))))
theorem C___impl_Renew__step : comp Try.prog sgs 47 = some T___impl_Renew__step := by kernel_rfl
theorem R___impl_Renew__step (a0 : DRenew) (a1 : DRenewAct) (r : Bool × DRenew) (h : m___impl_Renew__step a0 a1 = some r) : Rts Try.prog sgs 47 [avRRenew a0, avRenewAct a1] (avTBRenewZ2 r) := by
  refine rts_of C___impl_Renew__step (by kernel_rfl) ?_
  unfold Den T___impl_Renew__step
  unfold m___impl_Renew__step at h
  refine s_chk (by simp) ?_
  refine s_call avSpan h (fun x hx => by simpa using R__impl_Clock__span a0.fMaster a0.fNow x hx) (fun v1 cv1 h => ?_)
  refine s_chk (by simp) ?_
  refine s_chk (by simp) ?_
  refine s_joinI fun j2 hj2 => ?_
  refine s_chk (by simp) ?_
  refine s_chk (by simp) ?_
  refine s_chk (by simp) ?_
  refine s_chk (by simp) ?_
  refine s_ite h (by simp) (fun e3 h => ?_) (fun e3 h => ?_)
  · refine s_chk (by simp) ?_
    refine s_chk (by simp) ?_
    refine s_jmpI hj2 rfl (vs := [.int .i64 (IntKind.i64.wrap (a0.fNow + a1.fBy)), .int .i64 a0.fMaster.fOff, .sl (a0.fClocks.map avClock), .sl (a0.fLeases.map avVLease), .int .i64 a0.fVer]) (by simp) ?_
    exact s_ret (av := avTBRenewZ2) h (by simp)
  · refine s_chk (by simp) ?_
    refine s_chk (by simp) ?_
    refine s_chk (by simp) ?_
    refine s_ite h (by simp [e3]) (fun e4 h => ?_) (fun e4 h => ?_)
    · refine s_chk (by simp) ?_
      refine s_jmpI hj2 rfl (vs := [.int .i64 a0.fNow, .int .i64 a1.fBy, .sl (a0.fClocks.map avClock), .sl (a0.fLeases.map avVLease), .int .i64 a0.fVer]) (by simp) ?_
      exact s_ret (av := avTBRenewZ2) h (by simp)
    · refine s_chk (by simp) ?_
      refine s_ite h (by simp) (fun e5 h => ?_) (fun e5 h => ?_)
      · refine s_chk (by simp) ?_
        obtain ⟨y6, hy6, h⟩ := bindE h
        have hy6' := (getIE hy6).2.2
        try simp at hy6'
        refine s_chk (fun _ => c_inb (kk := .i64) (f := avClock) (by simp) (by simp) hy6 (by simp)) ?_
        refine s_chk (by simp) ?_
        refine s_chk (by simp [e3, e4, e5, hy6']) ?_
        refine s_jmpI hj2 rfl (vs := [.int .i64 a0.fNow, .int .i64 a0.fMaster.fOff, .sl ((a0.fClocks.set ((IntKind.i64.wrap (a1.fWho - 1))).toNat { y6 with fOff := a1.fBy }).map avClock), .sl (a0.fLeases.map avVLease), .int .i64 a0.fVer]) (by simp [e3, e4, e5, hy6']) ?_
        exact s_ret (av := avTBRenewZ2) h (by simp)
      · refine s_chk (by simp) ?_
        refine s_chk (by simp) ?_
        refine s_chk (by simp) ?_
        refine s_ite h (by simp [e3, e4, e5]) (fun e7 h => ?_) (fun e7 h => ?_)
        · refine s_chk (by simp) ?_
          refine s_chk (by simp) ?_
          refine s_chk (by simp) ?_
          obtain ⟨y8, hy8, h⟩ := bindE h
          have hy8' := (getIE hy8).2.2
          refine s_chk (fun _ => c_inb (kk := .i64) (f := avVLease) (by simp) (by simp) hy8 (by simp)) ?_
          refine s_chk (by simp) ?_
          refine s_chk (by simp [e3, e4, e5, e7, hy8']) ?_
          refine s_jmpI hj2 rfl (vs := [.int .i64 a0.fNow, .int .i64 a0.fMaster.fOff, .sl (a0.fClocks.map avClock), .sl ((a0.fLeases.set (a1.fWho).toNat (⟨a0.fVer, (IntKind.i64.wrap (v1.fLow + 20))⟩ : DVLease)).map avVLease), .int .i64 a0.fVer]) (by simp [e3, e4, e5, e7, hy8']) ?_
          exact s_ret (av := avTBRenewZ2) h (by simp)
        · refine s_chk (by simp) ?_
          refine s_chk (by simp) ?_
          refine s_chk (by simp) ?_
          refine s_split h (fun e9 h => ?_) (fun e9 h => ?_)
          · refine s_split h (fun e10 h => ?_) (fun e10 h => ?_)
            · refine s_call avB h (fun x hx => by simpa using R_slices_ContainsFunc___impl_VLease_impl_VLease_ a0.fLeases (fun y0 => m___impl_Renew__step_1 y0 a0 v1.fLow) _ [avRRRenew a0, avRI64 v1.fLow] x hx (fun y0 b hb => rts_plain (R___impl_Renew__step_1 y0 a0 v1.fLow b hb) (by kernel_rfl))) (fun v11 cv11 h => ?_)
              refine s_chk (by simp) ?_
              refine s_chk (by simp [e3, e4, e5, e7, e9, e10]) ?_
              refine s_ite h (by simp [e3, e4, e5, e7, e9, e10]) (fun e12 h => ?_) (fun e12 h => ?_)
              · refine s_chk (by simp) ?_
                refine s_chk (by simp) ?_
                refine s_jmpI hj2 rfl (vs := [.int .i64 a0.fNow, .int .i64 a0.fMaster.fOff, .sl (a0.fClocks.map avClock), .sl (a0.fLeases.map avVLease), .int .i64 (IntKind.i64.wrap (a0.fVer + 1))]) (by simp) ?_
                exact s_ret (av := avTBRenewZ2) h (by simp)
              · exact s_ret (av := avTBRenewZ2) h (by simp)
            · refine s_skip (by simp [e3, e4, e5, e7, e9, e10]) ?_
              refine s_chk (by simp [e3, e4, e5, e7, e9, e10]) ?_
              refine s_chk (by simp [e3, e4, e5, e7, e9, e10]) ?_
              refine s_iteF (by simp [e3, e4, e5, e7, e9, e10]) ?_
              exact s_ret (av := avTBRenewZ2) h (by simp)
          · refine s_skip (by simp [e3, e4, e5, e7, e9]) ?_
            refine s_chk (by simp [e3, e4, e5, e7, e9]) ?_
            refine s_chk (by simp [e3, e4, e5, e7, e9]) ?_
            refine s_iteF (by simp [e3, e4, e5, e7, e9]) ?_
            exact s_ret (av := avTBRenewZ2) h (by simp)
def T_impl_StepRenew : Tr :=
  .chk [] (.agg (.var 0) 5) <|
  .chk [] (.agg (.var 1) 3) <|
  .call [] (.inl 18) (.cons (.mk (.cons (.fld (.var 0) 0 1 false) (.cons (.fld (.var 0) 1 1 false) (.cons (.fld (.var 0) 2 1 false) (.cons (.fld (.var 0) 3 1 false) (.cons (.fld (.var 0) 4 1 false) .nil)))))) (.cons (.mk (.cons (.fld (.var 1) 0 1 false) (.cons (.fld (.var 1) 1 1 false) (.cons (.fld (.var 1) 2 1 false) .nil)))) .nil)) <|
  .chk [] (.dfd (.not (.var 2))) <|
  .ite (.not (.var 2)) (
   .ret (.tup (.cons (.mk (.cons (.int .i64 (0)) (.cons (.int .i64 (0)) (.cons (.lst .nil) (.cons (.int .i64 (0)) (.cons (.lst .nil) .nil)))))) (.cons (.bool false) (.cons (.bool false) .nil))))) (
   .call [] (.inl 46) (.cons (.mk (.cons (.fld (.var 0) 0 1 false) (.cons (.fld (.var 0) 1 1 false) (.cons (.fld (.var 0) 2 1 false) (.cons (.fld (.var 0) 3 1 false) (.cons (.fld (.var 0) 4 1 false) .nil)))))) .nil) <|
   .call [] (.inl 47) (.cons (.ref (.mk (.cons (.fld (.var 3) 0 1 false) (.cons (.fld (.var 3) 1 1 false) (.cons (.fld (.var 3) 2 1 false) (.cons (.fld (.var 3) 3 1 false) (.cons (.fld (.var 3) 4 1 false) .nil))))))) (.cons (.mk (.cons (.fld (.var 1) 0 1 false) (.cons (.fld (.var 1) 1 1 false) (.cons (.fld (.var 1) 2 1 false) .nil)))) .nil)) <|
   .ret (.tup (.cons (.mk (.cons (.fld (.proj (.var 4) 1) 0 1 false) (.cons (.fld (.proj (.var 4) 1) 1 1 false) (.cons (.fld (.proj (.var 4) 1) 2 1 false) (.cons (.fld (.proj (.var 4) 1) 3 1 false) (.cons (.fld (.proj (.var 4) 1) 4 1 false) .nil)))))) (.cons (.proj (.var 4) 0) (.cons (.bool true) .nil)))))
theorem C_impl_StepRenew : comp Try.prog sgs 8 = some T_impl_StepRenew := by kernel_rfl
theorem R_impl_StepRenew (a0 : DRenew) (a1 : DRenewAct) (r : DRenew × Bool × Bool) (h : m_impl_StepRenew a0 a1 = some r) : Rts Try.prog sgs 8 [avRenew a0, avRenewAct a1] (avTRenewBBZ3 r) := by
  refine rts_of C_impl_StepRenew (by kernel_rfl) ?_
  unfold Den T_impl_StepRenew
  unfold m_impl_StepRenew at h
  refine s_chk (by simp) ?_
  refine s_chk (by simp) ?_
  refine s_call avB h (fun x hx => by simpa using R_impl_GoodRenewAct a0 a1 x hx) (fun v1 cv1 h => ?_)
  refine s_chk (by simp) ?_
  refine s_ite h (by simp) (fun e2 h => ?_) (fun e2 h => ?_)
  · exact s_ret (av := avTRenewBBZ3) h (by simp)
  · refine s_call avRenew h (fun x hx => by simpa using R_impl_copyRenew a0 x hx) (fun v3 cv3 h => ?_)
    refine s_call avTBRenewZ2 h (fun x hx => by simpa using R___impl_Renew__step v3 a1 x hx) (fun v4 cv4 h => ?_)
    exact s_ret (av := avTRenewBBZ3) h (by simp)
def T_spec_GoodRenewAct : Tr :=
  .chk [] (.agg (.var 0) 5) <|
  .chk [] (.agg (.var 1) 3) <|
  .call [] (.inl 17) (.cons (.mk (.cons (.fld (.var 0) 0 1 false) (.cons (.fld (.var 0) 1 1 false) (.cons (.fld (.var 0) 2 1 false) (.cons (.fld (.var 0) 3 1 false) (.cons (.fld (.var 0) 4 1 false) .nil)))))) .nil) <|
  .call [((.var 2), true)] (.inl 82) (.cons (.mk (.cons (.fld (.var 0) 0 1 false) (.cons (.fld (.var 0) 1 1 false) (.cons (.fld (.var 0) 2 1 false) (.cons (.fld (.var 0) 3 1 false) (.cons (.fld (.var 0) 4 1 false) .nil)))))) (.cons (.mk (.cons (.fld (.var 1) 0 1 false) (.cons (.fld (.var 1) 1 1 false) (.cons (.fld (.var 1) 2 1 false) .nil)))) .nil)) <|
  .chk [] (.dfd (.not (.var 2))) <|
  .ret (.ite (.var 2) (.var 3) (.bool false))
theorem C_spec_GoodRenewAct : comp Try.prog sgs 48 = some T_spec_GoodRenewAct := by kernel_rfl
theorem R_spec_GoodRenewAct (a0 : DRenew) (a1 : DRenewAct) (r : Bool) (h : m_spec_GoodRenewAct a0 a1 = some r) : Rts Try.prog sgs 48 [avRenew a0, avRenewAct a1] (.bool r) := by
  refine rts_of C_spec_GoodRenewAct (by kernel_rfl) ?_
  unfold Den T_spec_GoodRenewAct
  unfold m_spec_GoodRenewAct at h
  refine s_chk (by simp) ?_
  refine s_chk (by simp) ?_
  refine s_call avB h (fun x hx => by simpa using R_spec_GoodRenew a0 x hx) (fun v1 cv1 h => ?_)
  refine s_split h (fun e2 h => ?_) (fun e2 h => ?_)
  · refine s_call avB h (fun x hx => by simpa using R_spec_l28Good a0 a1 x hx) (fun v3 cv3 h => ?_)
    refine s_chk (by simp) ?_
    exact s_ret (av := avB) h (by simp [e2])
  · refine s_skip (by simp [e2]) ?_
    refine s_chk (by simp) ?_
    exact s_ret (av := avB) h (by simp [e2])
def T_spec_StepRenew : Tr :=
  .chk [] (.agg (.var 0) 5) <|
  .chk [] (.agg (.var 1) 3) <|
  .call [] (.inl 48) (.cons (.mk (.cons (.fld (.var 0) 0 1 false) (.cons (.fld (.var 0) 1 1 false) (.cons (.fld (.var 0) 2 1 false) (.cons (.fld (.var 0) 3 1 false) (.cons (.fld (.var 0) 4 1 false) .nil)))))) (.cons (.mk (.cons (.fld (.var 1) 0 1 false) (.cons (.fld (.var 1) 1 1 false) (.cons (.fld (.var 1) 2 1 false) .nil)))) .nil)) <|
  .chk [] (.dfd (.not (.var 2))) <|
  .ite (.not (.var 2)) (
   .ret (.tup (.cons (.mk (.cons (.int .i64 (0)) (.cons (.int .i64 (0)) (.cons (.lst .nil) (.cons (.int .i64 (0)) (.cons (.lst .nil) .nil)))))) (.cons (.bool false) (.cons (.bool false) .nil))))) (
   .call [] (.inl 50) (.cons (.mk (.cons (.fld (.var 0) 0 1 false) (.cons (.fld (.var 0) 1 1 false) (.cons (.fld (.var 0) 2 1 false) (.cons (.fld (.var 0) 3 1 false) (.cons (.fld (.var 0) 4 1 false) .nil)))))) .nil) <|
   .call [] (.inl 49) (.cons (.mk (.cons (.fld (.var 3) 0 1 false) (.cons (.fld (.var 3) 1 1 false) (.cons (.fld (.var 3) 2 1 false) (.cons (.fld (.var 3) 3 1 false) (.cons (.fld (.var 3) 4 1 false) .nil)))))) (.cons (.mk (.cons (.fld (.var 1) 0 1 false) (.cons (.fld (.var 1) 1 1 false) (.cons (.fld (.var 1) 2 1 false) .nil)))) .nil)) <|
   .ret (.tup (.cons (.mk (.cons (.fld (.proj (.var 4) 0) 0 1 false) (.cons (.fld (.proj (.var 4) 0) 1 1 false) (.cons (.fld (.proj (.var 4) 0) 2 1 false) (.cons (.fld (.proj (.var 4) 0) 3 1 false) (.cons (.fld (.proj (.var 4) 0) 4 1 false) .nil)))))) (.cons (.proj (.var 4) 1) (.cons (.bool true) .nil)))))
theorem C_spec_StepRenew : comp Try.prog sgs 9 = some T_spec_StepRenew := by kernel_rfl
theorem R_spec_StepRenew (a0 : DRenew) (a1 : DRenewAct) (r : DRenew × Bool × Bool) (h : m_spec_StepRenew a0 a1 = some r) : Rts Try.prog sgs 9 [avRenew a0, avRenewAct a1] (avTRenewBBZ3 r) := by
  refine rts_of C_spec_StepRenew (by kernel_rfl) ?_
  unfold Den T_spec_StepRenew
  unfold m_spec_StepRenew at h
  refine s_chk (by simp) ?_
  refine s_chk (by simp) ?_
  refine s_call avB h (fun x hx => by simpa using R_spec_GoodRenewAct a0 a1 x hx) (fun v1 cv1 h => ?_)
  refine s_chk (by simp) ?_
  refine s_ite h (by simp) (fun e2 h => ?_) (fun e2 h => ?_)
  · exact s_ret (av := avTRenewBBZ3) h (by simp)
  · refine s_call avRenew h (fun x hx => by simpa using R_spec_l28Own a0 x hx) (fun v3 cv3 h => ?_)
    refine s_call avTRenewBZ2 h (fun x hx => by simpa using R_spec_l28Do v3 a1 x hx) (fun v4 cv4 h => ?_)
    exact s_ret (av := avTRenewBBZ3) h (by simp)
def T_impl_SoundRenew_1 : Tr :=
  .chk [] (.agg (.var 0) 2) <|
  .chk [] (.isref (.var 1) 0) <|
  .chk [] (.isref (.var 1) 4) <|
  .chk [] (.dfd (.bin .sub (.fld (.deref (.var 1)) 3 1 false) (.int .i64 (1)))) <|
  .chk [] (.dfd (.bin .lss (.fld (.var 0) 0 1 false) (.bin .sub (.fld (.deref (.var 1)) 3 1 false) (.int .i64 (1))))) <|
  .chk [((.bin .lss (.fld (.var 0) 0 1 false) (.bin .sub (.fld (.deref (.var 1)) 3 1 false) (.int .i64 (1)))), true)] (.isref (.var 1) 0) <|
  .chk [((.bin .lss (.fld (.var 0) 0 1 false) (.bin .sub (.fld (.deref (.var 1)) 3 1 false) (.int .i64 (1)))), true)] (.isref (.var 1) 1) <|
  .chk [((.bin .lss (.fld (.var 0) 0 1 false) (.bin .sub (.fld (.deref (.var 1)) 3 1 false) (.int .i64 (1)))), true)] (.dfd (.bin .geq (.fld (.var 0) 1 1 false) (.fld (.deref (.var 1)) 0 1 false))) <|
  .chk [] (.dfd (.not (.bin .lss (.fld (.var 0) 0 1 false) (.bin .sub (.fld (.deref (.var 1)) 3 1 false) (.int .i64 (1)))))) <|
  .ret (.ite (.bin .lss (.fld (.var 0) 0 1 false) (.bin .sub (.fld (.deref (.var 1)) 3 1 false) (.int .i64 (1)))) (.bin .geq (.fld (.var 0) 1 1 false) (.fld (.deref (.var 1)) 0 1 false)) (.bool false))
theorem C_impl_SoundRenew_1 : comp Try.prog sgs 52 = some T_impl_SoundRenew_1 := by kernel_rfl
theorem R_impl_SoundRenew_1 (a0 : DVLease) (a1 : DRenew) (r : Bool) (h : m_impl_SoundRenew_1 a0 a1 = some r) : Rts Try.prog sgs 52 [avVLease a0, avRRenew a1] (.bool r) := by
  refine rts_of C_impl_SoundRenew_1 (by kernel_rfl) ?_
  unfold Den T_impl_SoundRenew_1
  unfold m_impl_SoundRenew_1 at h
  refine s_chk (by simp) ?_
  refine s_chk (by simp) ?_
  refine s_chk (by simp) ?_
  refine s_chk (by simp) ?_
  refine s_chk (by simp) ?_
  refine s_chk (by simp) ?_
  refine s_chk (by simp) ?_
  refine s_chk (by simp) ?_
  refine s_chk (by simp) ?_
  exact s_ret (av := avB) h (by simp)
def T_impl_SoundRenew : Tr :=
  .chk [] (.agg (.var 0) 5) <|
  .call [] (.inl 16) (.cons (.mk (.cons (.fld (.var 0) 0 1 false) (.cons (.fld (.var 0) 1 1 false) (.cons (.fld (.var 0) 2 1 false) (.cons (.fld (.var 0) 3 1 false) (.cons (.fld (.var 0) 4 1 false) .nil)))))) .nil) <|
  .chk [] (.dfd (.not (.var 1))) <|
  .ite (.not (.var 1)) (
   .ret (.tup (.cons (.bool false) (.cons (.bool false) .nil)))) (
   .call [] (.inl 51) (.cons (.fld (.var 0) 4 1 false) (.cons (.fn 52 (.cons (.ref (.mk (.cons (.fld (.var 0) 0 1 false) (.cons (.fld (.var 0) 1 1 false) (.cons (.fld (.var 0) 2 1 false) (.cons (.fld (.var 0) 3 1 false) (.cons (.fld (.var 0) 4 1 false) .nil))))))) .nil)) .nil)) <|
   .chk [] (.dfd (.not (.var 2))) <|
   .ret (.tup (.cons (.not (.var 2)) (.cons (.bool true) .nil))))
theorem C_impl_SoundRenew : comp Try.prog sgs 10 = some T_impl_SoundRenew := by kernel_rfl
theorem R_impl_SoundRenew (a0 : DRenew) (r : Bool × Bool) (h : m_impl_SoundRenew a0 = some r) : Rts Try.prog sgs 10 [avRenew a0] (avTBBZ2 r) := by
  refine rts_of C_impl_SoundRenew (by kernel_rfl) ?_
  unfold Den T_impl_SoundRenew
  unfold m_impl_SoundRenew at h
  refine s_chk (by simp) ?_
  refine s_call avB h (fun x hx => by simpa using R_impl_GoodRenew a0 x hx) (fun v1 cv1 h => ?_)
  refine s_chk (by simp) ?_
  refine s_ite h (by simp) (fun e2 h => ?_) (fun e2 h => ?_)
  · exact s_ret (av := avTBBZ2) h (by simp)
  · refine s_call avB h (fun x hx => by simpa using R_slices_ContainsFunc___impl_VLease_impl_VLease_ a0.fLeases (fun y0 => m_impl_SoundRenew_1 y0 a0) _ [avRRenew a0] x hx (fun y0 b hb => rts_plain (R_impl_SoundRenew_1 y0 a0 b hb) (by kernel_rfl))) (fun v3 cv3 h => ?_)
    refine s_chk (by simp) ?_
    exact s_ret (av := avTBBZ2) h (by simp)
def T_spec_SoundRenew : Tr :=
  .chk [] (.agg (.var 0) 5) <|
  .call [] (.inl 17) (.cons (.mk (.cons (.fld (.var 0) 0 1 false) (.cons (.fld (.var 0) 1 1 false) (.cons (.fld (.var 0) 2 1 false) (.cons (.fld (.var 0) 3 1 false) (.cons (.fld (.var 0) 4 1 false) .nil)))))) .nil) <|
  .chk [] (.dfd (.not (.var 1))) <|
  .ite (.not (.var 1)) (
   .ret (.tup (.cons (.bool false) (.cons (.bool false) .nil)))) (
   .chk [] (.dfd (.len (.fld (.var 0) 4 1 false))) <|
   .loop (.cons (.int .i64 (0)) .nil) (
    .chk [] (.dfd (.bin .lss (.var 2) (.len (.fld (.var 0) 4 1 false)))) <|
    .ite (.bin .lss (.var 2) (.len (.fld (.var 0) 4 1 false))) (
     .chk [] (.inb (.var 2) (.fld (.var 0) 4 1 false) 2) <|
     .chk [] (.agg (.fld (.idx (.fld (.var 0) 4 1 false) (.var 2)) 0 2 true) 2) <|
     .chk [] (.dfd (.bin .sub (.fld (.var 0) 3 1 false) (.int .i64 (1)))) <|
     .chk [] (.dfd (.bin .lss (.fld (.fld (.idx (.fld (.var 0) 4 1 false) (.var 2)) 0 2 true) 0 1 false) (.bin .sub (.fld (.var 0) 3 1 false) (.int .i64 (1))))) <|
     .chk [((.bin .lss (.fld (.fld (.idx (.fld (.var 0) 4 1 false) (.var 2)) 0 2 true) 0 1 false) (.bin .sub (.fld (.var 0) 3 1 false) (.int .i64 (1)))), true)] (.dfd (.bin .geq (.fld (.fld (.idx (.fld (.var 0) 4 1 false) (.var 2)) 0 2 true) 1 1 false) (.fld (.var 0) 0 1 false))) <|
     .chk [] (.dfd (.not (.bin .lss (.fld (.fld (.idx (.fld (.var 0) 4 1 false) (.var 2)) 0 2 true) 0 1 false) (.bin .sub (.fld (.var 0) 3 1 false) (.int .i64 (1)))))) <|
     .ite (.ite (.bin .lss (.fld (.fld (.idx (.fld (.var 0) 4 1 false) (.var 2)) 0 2 true) 0 1 false) (.bin .sub (.fld (.var 0) 3 1 false) (.int .i64 (1)))) (.bin .geq (.fld (.fld (.idx (.fld (.var 0) 4 1 false) (.var 2)) 0 2 true) 1 1 false) (.fld (.var 0) 0 1 false)) (.bool false)) (
      .ret (.tup (.cons (.bool false) (.cons (.bool true) .nil)))) (
      .chk [] (.dfd (.bin .add (.var 2) (.int .i64 (1)))) <|
      .jmp 0 (.cons (.bin .add (.var 2) (.int .i64 (1))) .nil))) (
     .jmp 1 .nil)) (
    .ret (.tup (.cons (.bool true) (.cons (.bool true) .nil)))))
theorem C_spec_SoundRenew : comp Try.prog sgs 11 = some T_spec_SoundRenew := by kernel_rfl
theorem R_spec_SoundRenew (a0 : DRenew) (r : Bool × Bool) (h : m_spec_SoundRenew a0 = some r) : Rts Try.prog sgs 11 [avRenew a0] (avTBBZ2 r) := by
  refine rts_of C_spec_SoundRenew (by kernel_rfl) ?_
  unfold Den T_spec_SoundRenew
  unfold m_spec_SoundRenew at h
  refine s_chk (by simp) ?_
  refine s_call avB h (fun x hx => by simpa using R_spec_GoodRenew a0 x hx) (fun v1 cv1 h => ?_)
  refine s_chk (by simp) ?_
  refine s_ite h (by simp) (fun e2 h => ?_) (fun e2 h => ?_)
  · exact s_ret (av := avTBBZ2) h (by simp)
  · refine s_chk (by simp) ?_
    refine s_loop (fun s : Int => [.int .i64 s]) h (by simp) (fun W1 A1 v3 o1 h hn1 hf1 hk1 => ?_)
    replace h : m_spec_SoundRenew_b1 a0 v3 = some o1 := h
    unfold m_spec_SoundRenew_b1 at h
    refine s_chk (by simp) ?_
    refine s_ite h (by simp) (fun e4 h => ?_) (fun e4 h => ?_)
    · obtain ⟨y5, hy5, h⟩ := bindE h
      have hy5' := (getIE hy5).2.2
      refine s_chk (fun _ => c_inb (kk := .i64) (f := avVLease) (by simp) (by simp) hy5 (by simp)) ?_
      refine s_chk (by simp [e2, e4, hy5']) ?_
      refine s_chk (by simp) ?_
      refine s_chk (by simp [e2, e4, hy5']) ?_
      refine s_chk (by simp [e2, e4, hy5']) ?_
      refine s_chk (by simp [e2, e4, hy5']) ?_
      refine s_ite h (by simp [e2, e4, hy5']) (fun e6 h => ?_) (fun e6 h => ?_)
      · exact s_ret (av := avTBBZ2) (hf1 _ h) (by simp)
      · refine s_chk (by simp) ?_
        exact s_jmp (K := fun s => some (Sum.inl s)) (s := (IntKind.i64.wrap (v3 + 1))) hn1 h rfl (by simp)
    · refine s_jmpI hk1 rfl (vs := []) (by simp) ?_
      replace h := (hf1 _ h)
      exact s_ret (av := avTBBZ2) h (by simp)
def T_spec_DrawUsableIn : Tr :=
  .chk [] (.cells (.var 0) 1) <|
  .call [] (.inl 42) (.cons (.ref (.mk (.cons (.var 0) (.cons (.int .i64 (0)) (.cons (.int .u64 (0)) .nil))))) .nil) <|
  .call [] (.inl 44) (.cons (.ref (.mk (.cons (.fld (.proj (.var 1) 1) 0 1 false) (.cons (.fld (.proj (.var 1) 1) 1 1 false) (.cons (.fld (.proj (.var 1) 1) 2 1 false) .nil))))) (.cons (.int .i64 (5)) .nil)) <|
  .chk [] (.dfd (.bin .sub (.proj (.var 2) 0) (.int .i64 (1)))) <|
  .ret (.tup (.cons (.mk (.cons (.fld (.proj (.var 1) 0) 0 1 false) (.cons (.fld (.proj (.var 1) 0) 1 1 false) (.cons (.fld (.proj (.var 1) 0) 2 1 false) (.cons (.fld (.proj (.var 1) 0) 3 1 false) (.cons (.fld (.proj (.var 1) 0) 4 1 false) .nil)))))) (.cons (.bin .sub (.proj (.var 2) 0) (.int .i64 (1))) .nil)))
theorem C_spec_DrawUsableIn : comp Try.prog sgs 12 = some T_spec_DrawUsableIn := by kernel_rfl
theorem R_spec_DrawUsableIn (a0 : List Int) (r : DRenew × Int) (h : m_spec_DrawUsableIn a0 = some r) : Rts Try.prog sgs 12 [.sl (a0.map avU8)] (avTRenewI64Z2 r) := by
  refine rts_of C_spec_DrawUsableIn (by kernel_rfl) ?_
  unfold Den T_spec_DrawUsableIn
  unfold m_spec_DrawUsableIn at h
  refine s_chk (by simp) ?_
  refine s_call avTRenewL1CurZ2 h (fun x hx => by simpa using R___spec_l1Cur__bentRenew (⟨a0, 0, 0⟩ : DL1Cur) x hx) (fun v1 cv1 h => ?_)
  refine s_call avTI64L1CurZ2 h (fun x hx => by simpa using R___spec_l1Cur__pick v1.2 5 x hx) (fun v2 cv2 h => ?_)
  refine s_chk (by simp) ?_
  exact s_ret (av := avTRenewI64Z2) h (by simp)
def T__impl_Renew__usable : Tr :=
  .chk [] (.agg (.var 0) 5) <|
  .chk [] (.inb (.var 1) (.fld (.var 0) 2 1 false) 1) <|
  .call [] (.inl 89) (.cons (.fld (.idx (.fld (.var 0) 2 1 false) (.var 1)) 0 1 true) (.cons (.fld (.var 0) 0 1 false) .nil)) <|
  .chk [] (.agg (.var 2) 2) <|
  .chk [] (.inb (.var 1) (.fld (.var 0) 4 1 false) 2) <|
  .chk [] (.dfd (.bin .lss (.fld (.var 2) 1 1 false) (.fld (.idx (.fld (.var 0) 4 1 false) (.var 1)) 1 1 false))) <|
  .ret (.bin .lss (.fld (.var 2) 1 1 false) (.fld (.idx (.fld (.var 0) 4 1 false) (.var 1)) 1 1 false))
theorem C__impl_Renew__usable : comp Try.prog sgs 54 = some T__impl_Renew__usable := by kernel_rfl
theorem R__impl_Renew__usable (a0 : DRenew) (a1 : Int) (r : Bool) (h : m__impl_Renew__usable a0 a1 = some r) : Rts Try.prog sgs 54 [avRenew a0, .int .i64 a1] (.bool r) := by
  refine rts_of C__impl_Renew__usable (by kernel_rfl) ?_
  unfold Den T__impl_Renew__usable
  unfold m__impl_Renew__usable at h
  refine s_chk (by simp) ?_
  obtain ⟨y1, hy1, h⟩ := bindE h
  have hy1' := (getIE hy1).2.2
  refine s_chk (fun _ => c_inb (kk := .i64) (f := avClock) (by simp) (by simp) hy1 (by simp)) ?_
  refine s_call avSpan h (fun x hx => by simpa [hy1'] using R__impl_Clock__span y1 a0.fNow x hx) (fun v2 cv2 h => ?_)
  refine s_chk (by simp) ?_
  obtain ⟨y3, hy3, h⟩ := bindE h
  have hy3' := (getIE hy3).2.2
  refine s_chk (fun _ => c_inb (kk := .i64) (f := avVLease) (by simp) (by simp) hy3 (by simp)) ?_
  refine s_chk (by simp [hy1', hy3']) ?_
  exact s_ret (av := avB) h (by simp [hy1', hy3'])
def T_impl_UsableIn : Tr :=
  .chk [] (.agg (.var 0) 5) <|
  .call [] (.inl 16) (.cons (.mk (.cons (.fld (.var 0) 0 1 false) (.cons (.fld (.var 0) 1 1 false) (.cons (.fld (.var 0) 2 1 false) (.cons (.fld (.var 0) 3 1 false) (.cons (.fld (.var 0) 4 1 false) .nil)))))) .nil) <|
  .chk [] (.dfd (.not (.var 2))) <|
  .chk [((.not (.var 2)), false)] (.dfd (.len (.fld (.var 0) 2 1 false))) <|
  .call [((.not (.var 2)), false)] (.inl 53) (.cons (.var 1) (.cons (.int .i64 (0)) (.cons (.bin .sub (.len (.fld (.var 0) 2 1 false)) (.int .i64 (1))) .nil))) <|
  .chk [((.not (.var 2)), false)] (.dfd (.not (.var 3))) <|
  .chk [] (.dfd (.not (.not (.var 2)))) <|
  .ite (.ite (.not (.var 2)) (.bool true) (.not (.var 3))) (
   .ret (.tup (.cons (.int .i64 (0)) (.cons (.bool false) (.cons (.bool false) .nil))))) (
   .chk [] (.inb (.var 1) (.fld (.var 0) 4 1 false) 2) <|
   .call [] (.inl 54) (.cons (.mk (.cons (.fld (.var 0) 0 1 false) (.cons (.fld (.var 0) 1 1 false) (.cons (.fld (.var 0) 2 1 false) (.cons (.fld (.var 0) 3 1 false) (.cons (.fld (.var 0) 4 1 false) .nil)))))) (.cons (.var 1) .nil)) <|
   .ret (.tup (.cons (.fld (.idx (.fld (.var 0) 4 1 false) (.var 1)) 0 1 false) (.cons (.var 4) (.cons (.bool true) .nil)))))
theorem C_impl_UsableIn : comp Try.prog sgs 13 = some T_impl_UsableIn := by kernel_rfl
theorem R_impl_UsableIn (a0 : DRenew) (a1 : Int) (r : Int × Bool × Bool) (h : m_impl_UsableIn a0 a1 = some r) : Rts Try.prog sgs 13 [avRenew a0, .int .i64 a1] (avTI64BBZ3 r) := by
  refine rts_of C_impl_UsableIn (by kernel_rfl) ?_
  unfold Den T_impl_UsableIn
  unfold m_impl_UsableIn at h
  refine s_chk (by simp) ?_
  refine s_call avB h (fun x hx => by simpa using R_impl_GoodRenew a0 x hx) (fun v1 cv1 h => ?_)
  refine s_chk (by simp) ?_
  refine s_chk (by simp) ?_
  refine s_split h (fun e2 h => ?_) (fun e2 h => ?_)
  · refine s_call avB h (fun x hx => by simpa using R_impl_within a1 0 (IntKind.i64.wrap ((a0.fClocks.length : Int) - 1)) x hx) (fun v3 cv3 h => ?_)
    refine s_chk (by simp) ?_
    refine s_chk (by simp) ?_
    refine s_ite h (by simp [e2]) (fun e4 h => ?_) (fun e4 h => ?_)
    · exact s_ret (av := avTI64BBZ3) h (by simp)
    · obtain ⟨y5, hy5, h⟩ := bindE h
      have hy5' := (getIE hy5).2.2
      refine s_chk (fun _ => c_inb (kk := .i64) (f := avVLease) (by simp) (by simp) hy5 (by simp)) ?_
      refine s_call avB h (fun x hx => by simpa using R__impl_Renew__usable a0 a1 x hx) (fun v6 cv6 h => ?_)
      exact s_ret (av := avTI64BBZ3) h (by simp [e2, e4, hy5'])
  · refine s_skip (by simp [e2]) ?_
    refine s_chk (by simp [e2]) ?_
    refine s_chk (by simp) ?_
    refine s_iteT (by simp [e2]) ?_
    exact s_ret (av := avTI64BBZ3) h (by simp)
def T_spec_l28High : Tr :=
  .chk [] (.agg (.var 0) 5) <|
  .chk [] (.agg (.var 1) 1) <|
  .chk [] (.dfd (.bin .add (.fld (.var 0) 0 1 false) (.fld (.var 1) 0 1 false))) <|
  .chk [] (.dfd (.bin .add (.bin .add (.fld (.var 0) 0 1 false) (.fld (.var 1) 0 1 false)) (.int .i64 (5)))) <|
  .ret (.bin .add (.bin .add (.fld (.var 0) 0 1 false) (.fld (.var 1) 0 1 false)) (.int .i64 (5)))
theorem C_spec_l28High : comp Try.prog sgs 94 = some T_spec_l28High := by kernel_rfl
theorem R_spec_l28High (a0 : DRenew) (a1 : DClock) (r : Int) (h : m_spec_l28High a0 a1 = some r) : Rts Try.prog sgs 94 [avRenew a0, avClock a1] (.int .i64 r) := by
  refine rts_of C_spec_l28High (by kernel_rfl) ?_
  unfold Den T_spec_l28High
  unfold m_spec_l28High at h
  refine s_chk (by simp) ?_
  refine s_chk (by simp) ?_
  refine s_chk (by simp) ?_
  refine s_chk (by simp) ?_
  exact s_ret (av := avI64) h (by simp)
def T_spec_l28Usable : Tr :=
  .chk [] (.agg (.var 0) 5) <|
  .chk [] (.inb (.var 1) (.fld (.var 0) 2 1 false) 1) <|
  .call [] (.inl 94) (.cons (.mk (.cons (.fld (.var 0) 0 1 false) (.cons (.fld (.var 0) 1 1 false) (.cons (.fld (.var 0) 2 1 false) (.cons (.fld (.var 0) 3 1 false) (.cons (.fld (.var 0) 4 1 false) .nil)))))) (.cons (.fld (.idx (.fld (.var 0) 2 1 false) (.var 1)) 0 1 true) .nil)) <|
  .chk [] (.inb (.var 1) (.fld (.var 0) 4 1 false) 2) <|
  .chk [] (.dfd (.bin .lss (.var 2) (.fld (.idx (.fld (.var 0) 4 1 false) (.var 1)) 1 1 false))) <|
  .ret (.bin .lss (.var 2) (.fld (.idx (.fld (.var 0) 4 1 false) (.var 1)) 1 1 false))
theorem C_spec_l28Usable : comp Try.prog sgs 56 = some T_spec_l28Usable := by kernel_rfl
theorem R_spec_l28Usable (a0 : DRenew) (a1 : Int) (r : Bool) (h : m_spec_l28Usable a0 a1 = some r) : Rts Try.prog sgs 56 [avRenew a0, .int .i64 a1] (.bool r) := by
  refine rts_of C_spec_l28Usable (by kernel_rfl) ?_
  unfold Den T_spec_l28Usable
  unfold m_spec_l28Usable at h
  refine s_chk (by simp) ?_
  obtain ⟨y1, hy1, h⟩ := bindE h
  have hy1' := (getIE hy1).2.2
  refine s_chk (fun _ => c_inb (kk := .i64) (f := avClock) (by simp) (by simp) hy1 (by simp)) ?_
  refine s_call avI64 h (fun x hx => by simpa [hy1'] using R_spec_l28High a0 y1 x hx) (fun v2 cv2 h => ?_)
  obtain ⟨y3, hy3, h⟩ := bindE h
  have hy3' := (getIE hy3).2.2
  refine s_chk (fun _ => c_inb (kk := .i64) (f := avVLease) (by simp) (by simp) hy3 (by simp)) ?_
  refine s_chk (by simp [hy1', hy3']) ?_
  exact s_ret (av := avB) h (by simp [hy1', hy3'])
def T_spec_UsableIn : Tr :=
  .chk [] (.agg (.var 0) 5) <|
  .call [] (.inl 17) (.cons (.mk (.cons (.fld (.var 0) 0 1 false) (.cons (.fld (.var 0) 1 1 false) (.cons (.fld (.var 0) 2 1 false) (.cons (.fld (.var 0) 3 1 false) (.cons (.fld (.var 0) 4 1 false) .nil)))))) .nil) <|
  .chk [] (.dfd (.not (.var 2))) <|
  .chk [((.not (.var 2)), false)] (.dfd (.len (.fld (.var 0) 2 1 false))) <|
  .call [((.not (.var 2)), false)] (.inl 55) (.cons (.var 1) (.cons (.int .i64 (0)) (.cons (.bin .sub (.len (.fld (.var 0) 2 1 false)) (.int .i64 (1))) .nil))) <|
  .chk [((.not (.var 2)), false)] (.dfd (.not (.var 3))) <|
  .chk [] (.dfd (.not (.not (.var 2)))) <|
  .ite (.ite (.not (.var 2)) (.bool true) (.not (.var 3))) (
   .ret (.tup (.cons (.int .i64 (0)) (.cons (.bool false) (.cons (.bool false) .nil))))) (
   .chk [] (.inb (.var 1) (.fld (.var 0) 4 1 false) 2) <|
   .call [] (.inl 56) (.cons (.mk (.cons (.fld (.var 0) 0 1 false) (.cons (.fld (.var 0) 1 1 false) (.cons (.fld (.var 0) 2 1 false) (.cons (.fld (.var 0) 3 1 false) (.cons (.fld (.var 0) 4 1 false) .nil)))))) (.cons (.var 1) .nil)) <|
   .ret (.tup (.cons (.fld (.idx (.fld (.var 0) 4 1 false) (.var 1)) 0 1 false) (.cons (.var 4) (.cons (.bool true) .nil)))))
theorem C_spec_UsableIn : comp Try.prog sgs 14 = some T_spec_UsableIn := by kernel_rfl
theorem R_spec_UsableIn (a0 : DRenew) (a1 : Int) (r : Int × Bool × Bool) (h : m_spec_UsableIn a0 a1 = some r) : Rts Try.prog sgs 14 [avRenew a0, .int .i64 a1] (avTI64BBZ3 r) := by
  refine rts_of C_spec_UsableIn (by kernel_rfl) ?_
  unfold Den T_spec_UsableIn
  unfold m_spec_UsableIn at h
  refine s_chk (by simp) ?_
  refine s_call avB h (fun x hx => by simpa using R_spec_GoodRenew a0 x hx) (fun v1 cv1 h => ?_)
  refine s_chk (by simp) ?_
  refine s_chk (by simp) ?_
  refine s_split h (fun e2 h => ?_) (fun e2 h => ?_)
  · refine s_call avB h (fun x hx => by simpa using R_spec_l1In a1 0 (IntKind.i64.wrap ((a0.fClocks.length : Int) - 1)) x hx) (fun v3 cv3 h => ?_)
    refine s_chk (by simp) ?_
    refine s_chk (by simp) ?_
    refine s_ite h (by simp [e2]) (fun e4 h => ?_) (fun e4 h => ?_)
    · exact s_ret (av := avTI64BBZ3) h (by simp)
    · obtain ⟨y5, hy5, h⟩ := bindE h
      have hy5' := (getIE hy5).2.2
      refine s_chk (fun _ => c_inb (kk := .i64) (f := avVLease) (by simp) (by simp) hy5 (by simp)) ?_
      refine s_call avB h (fun x hx => by simpa using R_spec_l28Usable a0 a1 x hx) (fun v6 cv6 h => ?_)
      exact s_ret (av := avTI64BBZ3) h (by simp [e2, e4, hy5'])
  · refine s_skip (by simp [e2]) ?_
    refine s_chk (by simp [e2]) ?_
    refine s_chk (by simp) ?_
    refine s_iteT (by simp [e2]) ?_
    exact s_ret (av := avTI64BBZ3) h (by simp)
end Go.Proofs.Ytjneaalpiangdaa
end

/- Parts of a proof, joined: QR2, QR, L1x, FFnNear. -/
import Derived.Test.YtjneaalpiangdaaKB6
import Derived.Test.YtjneaalpiangdaaRows
import Derived.WalkKit
import Derived.ProofKit
import Derived.OpenShut
import Derived.ShutString
import Derived.ChangeOld
import Derived.Below
/- Part QR2. Typed models: the functions give that, part 2. -/
section
namespace Go.Proofs.Ytjneaalpiangdaa
open Go.RowKit
set_option maxRecDepth 100000
set_option maxHeartbeats 4000000
def T_laws_qSameR : Tr :=
  .chk [] (.agg (.var 0) 5) <|
  .chk [] (.agg (.var 1) 5) <|
  .chk [] (.dfd (.bin .neq (.fld (.var 0) 0 1 false) (.fld (.var 1) 0 1 false))) <|
  .chk [((.bin .neq (.fld (.var 0) 0 1 false) (.fld (.var 1) 0 1 false)), false)] (.kinds (.mk (.cons (.fld (.var 0) 1 1 false) .nil)) [.int .i64]) <|
  .chk [((.bin .neq (.fld (.var 0) 0 1 false) (.fld (.var 1) 0 1 false)), false)] (.kinds (.mk (.cons (.fld (.var 1) 1 1 false) .nil)) [.int .i64]) <|
  .chk [] (.dfd (.not (.bin .neq (.fld (.var 0) 0 1 false) (.fld (.var 1) 0 1 false)))) <|
  .chk [((.ite (.bin .neq (.fld (.var 0) 0 1 false) (.fld (.var 1) 0 1 false)) (.bool true) (.not (.aeq (.mk (.cons (.fld (.var 0) 1 1 false) .nil)) (.mk (.cons (.fld (.var 1) 1 1 false) .nil))))), false)] (.dfd (.bin .neq (.fld (.var 0) 3 1 false) (.fld (.var 1) 3 1 false))) <|
  .chk [] (.dfd (.not (.ite (.bin .neq (.fld (.var 0) 0 1 false) (.fld (.var 1) 0 1 false)) (.bool true) (.not (.aeq (.mk (.cons (.fld (.var 0) 1 1 false) .nil)) (.mk (.cons (.fld (.var 1) 1 1 false) .nil))))))) <|
  .chk [((.ite (.ite (.bin .neq (.fld (.var 0) 0 1 false) (.fld (.var 1) 0 1 false)) (.bool true) (.not (.aeq (.mk (.cons (.fld (.var 0) 1 1 false) .nil)) (.mk (.cons (.fld (.var 1) 1 1 false) .nil))))) (.bool true) (.bin .neq (.fld (.var 0) 3 1 false) (.fld (.var 1) 3 1 false))), false)] (.dfd (.len (.fld (.var 0) 2 1 false))) <|
  .chk [((.ite (.ite (.bin .neq (.fld (.var 0) 0 1 false) (.fld (.var 1) 0 1 false)) (.bool true) (.not (.aeq (.mk (.cons (.fld (.var 0) 1 1 false) .nil)) (.mk (.cons (.fld (.var 1) 1 1 false) .nil))))) (.bool true) (.bin .neq (.fld (.var 0) 3 1 false) (.fld (.var 1) 3 1 false))), false)] (.dfd (.len (.fld (.var 1) 2 1 false))) <|
  .chk [] (.dfd (.not (.ite (.ite (.bin .neq (.fld (.var 0) 0 1 false) (.fld (.var 1) 0 1 false)) (.bool true) (.not (.aeq (.mk (.cons (.fld (.var 0) 1 1 false) .nil)) (.mk (.cons (.fld (.var 1) 1 1 false) .nil))))) (.bool true) (.bin .neq (.fld (.var 0) 3 1 false) (.fld (.var 1) 3 1 false))))) <|
  .chk [((.ite (.ite (.ite (.bin .neq (.fld (.var 0) 0 1 false) (.fld (.var 1) 0 1 false)) (.bool true) (.not (.aeq (.mk (.cons (.fld (.var 0) 1 1 false) .nil)) (.mk (.cons (.fld (.var 1) 1 1 false) .nil))))) (.bool true) (.bin .neq (.fld (.var 0) 3 1 false) (.fld (.var 1) 3 1 false))) (.bool true) (.bin .neq (.len (.fld (.var 0) 2 1 false)) (.len (.fld (.var 1) 2 1 false)))), false)] (.dfd (.len (.fld (.var 0) 4 1 false))) <|
  .chk [((.ite (.ite (.ite (.bin .neq (.fld (.var 0) 0 1 false) (.fld (.var 1) 0 1 false)) (.bool true) (.not (.aeq (.mk (.cons (.fld (.var 0) 1 1 false) .nil)) (.mk (.cons (.fld (.var 1) 1 1 false) .nil))))) (.bool true) (.bin .neq (.fld (.var 0) 3 1 false) (.fld (.var 1) 3 1 false))) (.bool true) (.bin .neq (.len (.fld (.var 0) 2 1 false)) (.len (.fld (.var 1) 2 1 false)))), false)] (.dfd (.len (.fld (.var 1) 4 1 false))) <|
  .chk [] (.dfd (.not (.ite (.ite (.ite (.bin .neq (.fld (.var 0) 0 1 false) (.fld (.var 1) 0 1 false)) (.bool true) (.not (.aeq (.mk (.cons (.fld (.var 0) 1 1 false) .nil)) (.mk (.cons (.fld (.var 1) 1 1 false) .nil))))) (.bool true) (.bin .neq (.fld (.var 0) 3 1 false) (.fld (.var 1) 3 1 false))) (.bool true) (.bin .neq (.len (.fld (.var 0) 2 1 false)) (.len (.fld (.var 1) 2 1 false)))))) <|
  .ite (.ite (.ite (.ite (.ite (.bin .neq (.fld (.var 0) 0 1 false) (.fld (.var 1) 0 1 false)) (.bool true) (.not (.aeq (.mk (.cons (.fld (.var 0) 1 1 false) .nil)) (.mk (.cons (.fld (.var 1) 1 1 false) .nil))))) (.bool true) (.bin .neq (.fld (.var 0) 3 1 false) (.fld (.var 1) 3 1 false))) (.bool true) (.bin .neq (.len (.fld (.var 0) 2 1 false)) (.len (.fld (.var 1) 2 1 false)))) (.bool true) (.bin .neq (.len (.fld (.var 0) 4 1 false)) (.len (.fld (.var 1) 4 1 false)))) (
   .ret (.bool false)) (
   .chk [] (.dfd (.len (.fld (.var 0) 2 1 false))) <|
   .loop (.cons (.int .i64 (0)) .nil) (
    .chk [] (.dfd (.bin .lss (.var 2) (.len (.fld (.var 0) 2 1 false)))) <|
    .ite (.bin .lss (.var 2) (.len (.fld (.var 0) 2 1 false))) (
     .chk [] (.inb (.var 2) (.fld (.var 0) 2 1 false) 1) <|
     .chk [] (.inb (.var 2) (.fld (.var 1) 2 1 false) 1) <|
     .chk [] (.kinds (.fld (.idx (.fld (.var 0) 2 1 false) (.var 2)) 0 1 true) [.int .i64]) <|
     .chk [] (.kinds (.fld (.idx (.fld (.var 1) 2 1 false) (.var 2)) 0 1 true) [.int .i64]) <|
     .ite (.not (.aeq (.fld (.idx (.fld (.var 0) 2 1 false) (.var 2)) 0 1 true) (.fld (.idx (.fld (.var 1) 2 1 false) (.var 2)) 0 1 true))) (
      .ret (.bool false)) (
      .chk [] (.dfd (.bin .add (.var 2) (.int .i64 (1)))) <|
      .jmp 0 (.cons (.bin .add (.var 2) (.int .i64 (1))) .nil))) (
     .jmp 1 .nil)) (
    .chk [] (.dfd (.len (.fld (.var 0) 4 1 false))) <|
    .loop (.cons (.int .i64 (0)) .nil) (
     .chk [] (.dfd (.bin .lss (.var 2) (.len (.fld (.var 0) 4 1 false)))) <|
     .ite (.bin .lss (.var 2) (.len (.fld (.var 0) 4 1 false))) (
      .chk [] (.inb (.var 2) (.fld (.var 0) 4 1 false) 2) <|
      .chk [] (.inb (.var 2) (.fld (.var 1) 4 1 false) 2) <|
      .chk [] (.kinds (.fld (.idx (.fld (.var 0) 4 1 false) (.var 2)) 0 2 true) [.int .i64, .int .i64]) <|
      .chk [] (.kinds (.fld (.idx (.fld (.var 1) 4 1 false) (.var 2)) 0 2 true) [.int .i64, .int .i64]) <|
      .ite (.not (.aeq (.fld (.idx (.fld (.var 0) 4 1 false) (.var 2)) 0 2 true) (.fld (.idx (.fld (.var 1) 4 1 false) (.var 2)) 0 2 true))) (
       .ret (.bool false)) (
       .chk [] (.dfd (.bin .add (.var 2) (.int .i64 (1)))) <|
       .jmp 0 (.cons (.bin .add (.var 2) (.int .i64 (1))) .nil))) (
      .jmp 1 .nil)) (
     .ret (.bool true))))
theorem C_laws_qSameR : comp Try.prog sgs 15 = some T_laws_qSameR := by kernel_rfl
theorem R_laws_qSameR (a0 : DRenew) (a1 : DRenew) (r : Bool) (h : m_laws_qSameR a0 a1 = some r) : Rts Try.prog sgs 15 [avRenew a0, avRenew a1] (.bool r) := by
  refine rts_of C_laws_qSameR (by kernel_rfl) ?_
  unfold Den T_laws_qSameR
  unfold m_laws_qSameR at h
  refine s_chk (by simp) ?_
  refine s_chk (by simp) ?_
  refine s_chk (by simp) ?_
  refine s_chk (by simp) ?_
  refine s_chk (by simp) ?_
  refine s_chk (by simp) ?_
  refine s_chk (by simp) ?_
  refine s_chk (by simp) ?_
  refine s_chk (by simp) ?_
  refine s_chk (by simp) ?_
  refine s_chk (by simp) ?_
  refine s_chk (by simp) ?_
  refine s_chk (by simp) ?_
  refine s_chk (by simp) ?_
  refine s_ite h (by simp) (fun e1 h => ?_) (fun e1 h => ?_)
  · exact s_ret (av := avB) h (by simp)
  · refine s_chk (by simp) ?_
    refine s_loopK (fun s : Int => [.int .i64 s]) (fun s : Unit => []) h (by simp) (K := (fun s => m_laws_qSameR_k1 a0 a1)) (fun s h => ?_) (fun W1 A1 v7 o1 h hn1 hf1 hk1 => ?_)
    · replace h : m_laws_qSameR_k1 a0 a1 = some r := h
      unfold m_laws_qSameR_k1 at h
      refine s_chk (by simp) ?_
      refine s_loop (fun s : Int => [.int .i64 s]) h (by simp) (fun W1 A1 v2 o1 h hn1 hf1 hk1 => ?_)
      replace h : m_laws_qSameR_b2 a0 a1 v2 = some o1 := h
      unfold m_laws_qSameR_b2 at h
      refine s_chk (by simp) ?_
      refine s_ite h (by simp) (fun e3 h => ?_) (fun e3 h => ?_)
      · obtain ⟨y4, hy4, h⟩ := bindE h
        have hy4' := (getIE hy4).2.2
        refine s_chk (fun _ => c_inb (kk := .i64) (f := avVLease) (by simp) (by simp) hy4 (by simp)) ?_
        obtain ⟨y5, hy5, h⟩ := bindE h
        have hy5' := (getIE hy5).2.2
        refine s_chk (fun _ => c_inb (kk := .i64) (f := avVLease) (by simp) (by simp) hy5 (by simp)) ?_
        refine s_chk (by simp [e1, e3, hy4', hy5']) ?_
        refine s_chk (by simp [e1, e3, hy4', hy5']) ?_
        refine s_ite h (by simp [e1, e3, hy4', hy5']) (fun e6 h => ?_) (fun e6 h => ?_)
        · exact s_ret (av := avB) (hf1 _ h) (by simp)
        · refine s_chk (by simp) ?_
          exact s_jmp (K := fun s => some (Sum.inl s)) (s := (IntKind.i64.wrap (v2 + 1))) hn1 h rfl (by simp)
      · refine s_jmpI hk1 rfl (vs := []) (by simp) ?_
        replace h := (hf1 _ h)
        exact s_ret (av := avB) h (by simp)
    · replace h : m_laws_qSameR_b3 a0 a1 v7 = some o1 := h
      unfold m_laws_qSameR_b3 at h
      refine s_chk (by simp) ?_
      refine s_ite h (by simp) (fun e8 h => ?_) (fun e8 h => ?_)
      · obtain ⟨y9, hy9, h⟩ := bindE h
        have hy9' := (getIE hy9).2.2
        refine s_chk (fun _ => c_inb (kk := .i64) (f := avClock) (by simp) (by simp) hy9 (by simp)) ?_
        obtain ⟨y10, hy10, h⟩ := bindE h
        have hy10' := (getIE hy10).2.2
        refine s_chk (fun _ => c_inb (kk := .i64) (f := avClock) (by simp) (by simp) hy10 (by simp)) ?_
        refine s_chk (by simp [e1, e8, hy9', hy10']) ?_
        refine s_chk (by simp [e1, e8, hy9', hy10']) ?_
        refine s_ite h (by simp [e1, e8, hy9', hy10']) (fun e11 h => ?_) (fun e11 h => ?_)
        · exact s_ret (av := avB) (hf1 _ h) (by simp)
        · refine s_chk (by simp) ?_
          exact s_jmp (K := fun s => some (Sum.inl s)) (s := (IntKind.i64.wrap (v7 + 1))) hn1 h rfl (by simp)
      · exact s_jmp (s := ()) hk1 (hf1 _ h) rfl (by simp)
def T_spec_l2True : Tr :=
  .call [] (.inl 55) (.cons (.var 0) (.cons (.int .i64 (0)) (.cons (.int .i64 (100000)) .nil))) <|
  .ret (.var 1)
theorem C_spec_l2True : comp Try.prog sgs 65 = some T_spec_l2True := by kernel_rfl
theorem R_spec_l2True (a0 : Int) (r : Bool) (h : m_spec_l2True a0 = some r) : Rts Try.prog sgs 65 [.int .i64 a0] (.bool r) := by
  refine rts_of C_spec_l2True (by kernel_rfl) ?_
  unfold Den T_spec_l2True
  unfold m_spec_l2True at h
  refine s_call avB h (fun x hx => by simpa using R_spec_l1In a0 0 100000 x hx) (fun v1 cv1 h => ?_)
  exact s_ret (av := avB) h (by simp)
def T_spec_l2At : Tr :=
  .chk [] (.agg (.var 0) 1) <|
  .chk [] (.dfd (.bin .add (.var 1) (.fld (.var 0) 0 1 false))) <|
  .chk [] (.dfd (.bin .sub (.bin .add (.var 1) (.fld (.var 0) 0 1 false)) (.int .i64 (5)))) <|
  .chk [] (.dfd (.bin .add (.var 1) (.fld (.var 0) 0 1 false))) <|
  .chk [] (.dfd (.bin .add (.bin .add (.var 1) (.fld (.var 0) 0 1 false)) (.int .i64 (5)))) <|
  .chk [] (.cells (.bin .sub (.bin .add (.var 1) (.fld (.var 0) 0 1 false)) (.int .i64 (5))) 1) <|
  .chk [] (.cells (.bin .add (.bin .add (.var 1) (.fld (.var 0) 0 1 false)) (.int .i64 (5))) 1) <|
  .ret (.mk (.cons (.bin .sub (.bin .add (.var 1) (.fld (.var 0) 0 1 false)) (.int .i64 (5))) (.cons (.bin .add (.bin .add (.var 1) (.fld (.var 0) 0 1 false)) (.int .i64 (5))) .nil)))
theorem C_spec_l2At : comp Try.prog sgs 66 = some T_spec_l2At := by kernel_rfl
theorem R_spec_l2At (a0 : DClock) (a1 : Int) (r : DSpan) (h : m_spec_l2At a0 a1 = some r) : Rts Try.prog sgs 66 [avClock a0, .int .i64 a1] (avSpan r) := by
  refine rts_of C_spec_l2At (by kernel_rfl) ?_
  unfold Den T_spec_l2At
  unfold m_spec_l2At at h
  refine s_chk (by simp) ?_
  refine s_chk (by simp) ?_
  refine s_chk (by simp) ?_
  refine s_chk (by simp) ?_
  refine s_chk (by simp) ?_
  refine s_chk (by simp) ?_
  refine s_chk (by simp) ?_
  exact s_ret (av := avSpan) h (by simp)
def T_spec_SpanAt : Tr :=
  .chk [] (.agg (.var 0) 1) <|
  .call [] (.inl 64) (.cons (.mk (.cons (.fld (.var 0) 0 1 false) .nil)) .nil) <|
  .chk [] (.dfd (.not (.var 2))) <|
  .call [((.not (.var 2)), false)] (.inl 65) (.cons (.var 1) .nil) <|
  .chk [((.not (.var 2)), false)] (.dfd (.not (.var 3))) <|
  .chk [] (.dfd (.not (.not (.var 2)))) <|
  .ite (.ite (.not (.var 2)) (.bool true) (.not (.var 3))) (
   .ret (.tup (.cons (.mk (.cons (.int .i64 (0)) (.cons (.int .i64 (0)) .nil))) (.cons (.bool false) .nil)))) (
   .call [] (.inl 66) (.cons (.mk (.cons (.fld (.var 0) 0 1 false) .nil)) (.cons (.var 1) .nil)) <|
   .chk [] (.agg (.var 4) 2) <|
   .ret (.tup (.cons (.mk (.cons (.fld (.var 4) 0 1 false) (.cons (.fld (.var 4) 1 1 false) .nil))) (.cons (.bool true) .nil))))
theorem C_spec_SpanAt : comp Try.prog sgs 19 = some T_spec_SpanAt := by kernel_rfl
theorem R_spec_SpanAt (a0 : DClock) (a1 : Int) (r : DSpan × Bool) (h : m_spec_SpanAt a0 a1 = some r) : Rts Try.prog sgs 19 [avClock a0, .int .i64 a1] (avTSpanBZ2 r) := by
  refine rts_of C_spec_SpanAt (by kernel_rfl) ?_
  unfold Den T_spec_SpanAt
  unfold m_spec_SpanAt at h
  refine s_chk (by simp) ?_
  refine s_call avB h (fun x hx => by simpa using R_spec_l2Clock a0 x hx) (fun v1 cv1 h => ?_)
  refine s_chk (by simp) ?_
  refine s_split h (fun e2 h => ?_) (fun e2 h => ?_)
  · refine s_call avB h (fun x hx => by simpa using R_spec_l2True a1 x hx) (fun v3 cv3 h => ?_)
    refine s_chk (by simp) ?_
    refine s_chk (by simp) ?_
    refine s_ite h (by simp [e2]) (fun e4 h => ?_) (fun e4 h => ?_)
    · exact s_ret (av := avTSpanBZ2) h (by simp)
    · refine s_call avSpan h (fun x hx => by simpa using R_spec_l2At a0 a1 x hx) (fun v5 cv5 h => ?_)
      refine s_chk (by simp) ?_
      exact s_ret (av := avTSpanBZ2) h (by simp)
  · refine s_skip (by simp [e2]) ?_
    refine s_chk (by simp [e2]) ?_
    refine s_chk (by simp) ?_
    refine s_iteT (by simp [e2]) ?_
    exact s_ret (av := avTSpanBZ2) h (by simp)
def T_laws_FnRenew : Tr :=
  .chk [] (.dfd (.len (.var 0))) <|
  .chk [] (.dfd (.len (.var 1))) <|
  .ite (.bin .gtr (.bin .add (.len (.var 0)) (.len (.var 1))) (.int .i64 (1048576))) (
   .ret (.bool true)) (
   .call [] (.inl 7) (.cons (.var 0) .nil) <|
   .chk [] (.agg (.proj (.var 2) 0) 5) <|
   .chk [] (.agg (.proj (.var 2) 1) 3) <|
   .call [] (.inl 8) (.cons (.mk (.cons (.fld (.proj (.var 2) 0) 0 1 false) (.cons (.fld (.proj (.var 2) 0) 1 1 false) (.cons (.fld (.proj (.var 2) 0) 2 1 false) (.cons (.fld (.proj (.var 2) 0) 3 1 false) (.cons (.fld (.proj (.var 2) 0) 4 1 false) .nil)))))) (.cons (.mk (.cons (.fld (.proj (.var 2) 1) 0 1 false) (.cons (.fld (.proj (.var 2) 1) 1 1 false) (.cons (.fld (.proj (.var 2) 1) 2 1 false) .nil)))) .nil)) <|
   .call [] (.inl 9) (.cons (.mk (.cons (.fld (.proj (.var 2) 0) 0 1 false) (.cons (.fld (.proj (.var 2) 0) 1 1 false) (.cons (.fld (.proj (.var 2) 0) 2 1 false) (.cons (.fld (.proj (.var 2) 0) 3 1 false) (.cons (.fld (.proj (.var 2) 0) 4 1 false) .nil)))))) (.cons (.mk (.cons (.fld (.proj (.var 2) 1) 0 1 false) (.cons (.fld (.proj (.var 2) 1) 1 1 false) (.cons (.fld (.proj (.var 2) 1) 2 1 false) .nil)))) .nil)) <|
   .call [] (.inl 10) (.cons (.mk (.cons (.fld (.proj (.var 2) 0) 0 1 false) (.cons (.fld (.proj (.var 2) 0) 1 1 false) (.cons (.fld (.proj (.var 2) 0) 2 1 false) (.cons (.fld (.proj (.var 2) 0) 3 1 false) (.cons (.fld (.proj (.var 2) 0) 4 1 false) .nil)))))) .nil) <|
   .call [] (.inl 11) (.cons (.mk (.cons (.fld (.proj (.var 2) 0) 0 1 false) (.cons (.fld (.proj (.var 2) 0) 1 1 false) (.cons (.fld (.proj (.var 2) 0) 2 1 false) (.cons (.fld (.proj (.var 2) 0) 3 1 false) (.cons (.fld (.proj (.var 2) 0) 4 1 false) .nil)))))) .nil) <|
   .call [] (.inl 12) (.cons (.var 1) .nil) <|
   .call [] (.inl 13) (.cons (.mk (.cons (.fld (.proj (.var 7) 0) 0 1 false) (.cons (.fld (.proj (.var 7) 0) 1 1 false) (.cons (.fld (.proj (.var 7) 0) 2 1 false) (.cons (.fld (.proj (.var 7) 0) 3 1 false) (.cons (.fld (.proj (.var 7) 0) 4 1 false) .nil)))))) (.cons (.proj (.var 7) 1) .nil)) <|
   .call [] (.inl 14) (.cons (.mk (.cons (.fld (.proj (.var 7) 0) 0 1 false) (.cons (.fld (.proj (.var 7) 0) 1 1 false) (.cons (.fld (.proj (.var 7) 0) 2 1 false) (.cons (.fld (.proj (.var 7) 0) 3 1 false) (.cons (.fld (.proj (.var 7) 0) 4 1 false) .nil)))))) (.cons (.proj (.var 7) 1) .nil)) <|
   .chk [] (.dfd (.bbin .neq (.proj (.var 3) 2) (.proj (.var 4) 2))) <|
   .chk [((.bbin .neq (.proj (.var 3) 2) (.proj (.var 4) 2)), false)] (.dfd (.bbin .neq (.proj (.var 3) 1) (.proj (.var 4) 1))) <|
   .chk [] (.dfd (.not (.bbin .neq (.proj (.var 3) 2) (.proj (.var 4) 2)))) <|
   .call [((.ite (.bbin .neq (.proj (.var 3) 2) (.proj (.var 4) 2)) (.bool true) (.bbin .neq (.proj (.var 3) 1) (.proj (.var 4) 1))), false)] (.inl 15) (.cons (.mk (.cons (.fld (.proj (.var 3) 0) 0 1 false) (.cons (.fld (.proj (.var 3) 0) 1 1 false) (.cons (.fld (.proj (.var 3) 0) 2 1 false) (.cons (.fld (.proj (.var 3) 0) 3 1 false) (.cons (.fld (.proj (.var 3) 0) 4 1 false) .nil)))))) (.cons (.mk (.cons (.fld (.proj (.var 4) 0) 0 1 false) (.cons (.fld (.proj (.var 4) 0) 1 1 false) (.cons (.fld (.proj (.var 4) 0) 2 1 false) (.cons (.fld (.proj (.var 4) 0) 3 1 false) (.cons (.fld (.proj (.var 4) 0) 4 1 false) .nil)))))) .nil)) <|
   .chk [((.ite (.bbin .neq (.proj (.var 3) 2) (.proj (.var 4) 2)) (.bool true) (.bbin .neq (.proj (.var 3) 1) (.proj (.var 4) 1))), false)] (.dfd (.not (.var 10))) <|
   .chk [] (.dfd (.not (.ite (.bbin .neq (.proj (.var 3) 2) (.proj (.var 4) 2)) (.bool true) (.bbin .neq (.proj (.var 3) 1) (.proj (.var 4) 1))))) <|
   .chk [((.ite (.ite (.bbin .neq (.proj (.var 3) 2) (.proj (.var 4) 2)) (.bool true) (.bbin .neq (.proj (.var 3) 1) (.proj (.var 4) 1))) (.bool true) (.not (.var 10))), false)] (.dfd (.bbin .neq (.proj (.var 5) 1) (.proj (.var 6) 1))) <|
   .chk [] (.dfd (.not (.ite (.ite (.bbin .neq (.proj (.var 3) 2) (.proj (.var 4) 2)) (.bool true) (.bbin .neq (.proj (.var 3) 1) (.proj (.var 4) 1))) (.bool true) (.not (.var 10))))) <|
   .chk [((.ite (.ite (.ite (.bbin .neq (.proj (.var 3) 2) (.proj (.var 4) 2)) (.bool true) (.bbin .neq (.proj (.var 3) 1) (.proj (.var 4) 1))) (.bool true) (.not (.var 10))) (.bool true) (.bbin .neq (.proj (.var 5) 1) (.proj (.var 6) 1))), false)] (.dfd (.bbin .neq (.proj (.var 5) 0) (.proj (.var 6) 0))) <|
   .chk [] (.dfd (.not (.ite (.ite (.ite (.bbin .neq (.proj (.var 3) 2) (.proj (.var 4) 2)) (.bool true) (.bbin .neq (.proj (.var 3) 1) (.proj (.var 4) 1))) (.bool true) (.not (.var 10))) (.bool true) (.bbin .neq (.proj (.var 5) 1) (.proj (.var 6) 1))))) <|
   .chk [((.ite (.ite (.ite (.ite (.bbin .neq (.proj (.var 3) 2) (.proj (.var 4) 2)) (.bool true) (.bbin .neq (.proj (.var 3) 1) (.proj (.var 4) 1))) (.bool true) (.not (.var 10))) (.bool true) (.bbin .neq (.proj (.var 5) 1) (.proj (.var 6) 1))) (.bool true) (.bbin .neq (.proj (.var 5) 0) (.proj (.var 6) 0))), false)] (.dfd (.bbin .neq (.proj (.var 8) 2) (.proj (.var 9) 2))) <|
   .chk [] (.dfd (.not (.ite (.ite (.ite (.ite (.bbin .neq (.proj (.var 3) 2) (.proj (.var 4) 2)) (.bool true) (.bbin .neq (.proj (.var 3) 1) (.proj (.var 4) 1))) (.bool true) (.not (.var 10))) (.bool true) (.bbin .neq (.proj (.var 5) 1) (.proj (.var 6) 1))) (.bool true) (.bbin .neq (.proj (.var 5) 0) (.proj (.var 6) 0))))) <|
   .chk [((.ite (.ite (.ite (.ite (.ite (.bbin .neq (.proj (.var 3) 2) (.proj (.var 4) 2)) (.bool true) (.bbin .neq (.proj (.var 3) 1) (.proj (.var 4) 1))) (.bool true) (.not (.var 10))) (.bool true) (.bbin .neq (.proj (.var 5) 1) (.proj (.var 6) 1))) (.bool true) (.bbin .neq (.proj (.var 5) 0) (.proj (.var 6) 0))) (.bool true) (.bbin .neq (.proj (.var 8) 2) (.proj (.var 9) 2))), false)] (.dfd (.bin .neq (.proj (.var 8) 0) (.proj (.var 9) 0))) <|
   .chk [] (.dfd (.not (.ite (.ite (.ite (.ite (.ite (.bbin .neq (.proj (.var 3) 2) (.proj (.var 4) 2)) (.bool true) (.bbin .neq (.proj (.var 3) 1) (.proj (.var 4) 1))) (.bool true) (.not (.var 10))) (.bool true) (.bbin .neq (.proj (.var 5) 1) (.proj (.var 6) 1))) (.bool true) (.bbin .neq (.proj (.var 5) 0) (.proj (.var 6) 0))) (.bool true) (.bbin .neq (.proj (.var 8) 2) (.proj (.var 9) 2))))) <|
   .chk [((.ite (.ite (.ite (.ite (.ite (.ite (.bbin .neq (.proj (.var 3) 2) (.proj (.var 4) 2)) (.bool true) (.bbin .neq (.proj (.var 3) 1) (.proj (.var 4) 1))) (.bool true) (.not (.var 10))) (.bool true) (.bbin .neq (.proj (.var 5) 1) (.proj (.var 6) 1))) (.bool true) (.bbin .neq (.proj (.var 5) 0) (.proj (.var 6) 0))) (.bool true) (.bbin .neq (.proj (.var 8) 2) (.proj (.var 9) 2))) (.bool true) (.bin .neq (.proj (.var 8) 0) (.proj (.var 9) 0))), false)] (.dfd (.bbin .neq (.proj (.var 8) 1) (.proj (.var 9) 1))) <|
   .chk [] (.dfd (.not (.ite (.ite (.ite (.ite (.ite (.ite (.bbin .neq (.proj (.var 3) 2) (.proj (.var 4) 2)) (.bool true) (.bbin .neq (.proj (.var 3) 1) (.proj (.var 4) 1))) (.bool true) (.not (.var 10))) (.bool true) (.bbin .neq (.proj (.var 5) 1) (.proj (.var 6) 1))) (.bool true) (.bbin .neq (.proj (.var 5) 0) (.proj (.var 6) 0))) (.bool true) (.bbin .neq (.proj (.var 8) 2) (.proj (.var 9) 2))) (.bool true) (.bin .neq (.proj (.var 8) 0) (.proj (.var 9) 0))))) <|
   .call [((.ite (.ite (.ite (.ite (.ite (.ite (.ite (.bbin .neq (.proj (.var 3) 2) (.proj (.var 4) 2)) (.bool true) (.bbin .neq (.proj (.var 3) 1) (.proj (.var 4) 1))) (.bool true) (.not (.var 10))) (.bool true) (.bbin .neq (.proj (.var 5) 1) (.proj (.var 6) 1))) (.bool true) (.bbin .neq (.proj (.var 5) 0) (.proj (.var 6) 0))) (.bool true) (.bbin .neq (.proj (.var 8) 2) (.proj (.var 9) 2))) (.bool true) (.bin .neq (.proj (.var 8) 0) (.proj (.var 9) 0))) (.bool true) (.bbin .neq (.proj (.var 8) 1) (.proj (.var 9) 1))), false)] (.inl 16) (.cons (.mk (.cons (.fld (.proj (.var 2) 0) 0 1 false) (.cons (.fld (.proj (.var 2) 0) 1 1 false) (.cons (.fld (.proj (.var 2) 0) 2 1 false) (.cons (.fld (.proj (.var 2) 0) 3 1 false) (.cons (.fld (.proj (.var 2) 0) 4 1 false) .nil)))))) .nil) <|
   .call [((.ite (.ite (.ite (.ite (.ite (.ite (.ite (.bbin .neq (.proj (.var 3) 2) (.proj (.var 4) 2)) (.bool true) (.bbin .neq (.proj (.var 3) 1) (.proj (.var 4) 1))) (.bool true) (.not (.var 10))) (.bool true) (.bbin .neq (.proj (.var 5) 1) (.proj (.var 6) 1))) (.bool true) (.bbin .neq (.proj (.var 5) 0) (.proj (.var 6) 0))) (.bool true) (.bbin .neq (.proj (.var 8) 2) (.proj (.var 9) 2))) (.bool true) (.bin .neq (.proj (.var 8) 0) (.proj (.var 9) 0))) (.bool true) (.bbin .neq (.proj (.var 8) 1) (.proj (.var 9) 1))), false)] (.inl 17) (.cons (.mk (.cons (.fld (.proj (.var 2) 0) 0 1 false) (.cons (.fld (.proj (.var 2) 0) 1 1 false) (.cons (.fld (.proj (.var 2) 0) 2 1 false) (.cons (.fld (.proj (.var 2) 0) 3 1 false) (.cons (.fld (.proj (.var 2) 0) 4 1 false) .nil)))))) .nil) <|
   .chk [((.ite (.ite (.ite (.ite (.ite (.ite (.ite (.bbin .neq (.proj (.var 3) 2) (.proj (.var 4) 2)) (.bool true) (.bbin .neq (.proj (.var 3) 1) (.proj (.var 4) 1))) (.bool true) (.not (.var 10))) (.bool true) (.bbin .neq (.proj (.var 5) 1) (.proj (.var 6) 1))) (.bool true) (.bbin .neq (.proj (.var 5) 0) (.proj (.var 6) 0))) (.bool true) (.bbin .neq (.proj (.var 8) 2) (.proj (.var 9) 2))) (.bool true) (.bin .neq (.proj (.var 8) 0) (.proj (.var 9) 0))) (.bool true) (.bbin .neq (.proj (.var 8) 1) (.proj (.var 9) 1))), false)] (.dfd (.bbin .neq (.var 11) (.var 12))) <|
   .chk [] (.dfd (.not (.ite (.ite (.ite (.ite (.ite (.ite (.ite (.bbin .neq (.proj (.var 3) 2) (.proj (.var 4) 2)) (.bool true) (.bbin .neq (.proj (.var 3) 1) (.proj (.var 4) 1))) (.bool true) (.not (.var 10))) (.bool true) (.bbin .neq (.proj (.var 5) 1) (.proj (.var 6) 1))) (.bool true) (.bbin .neq (.proj (.var 5) 0) (.proj (.var 6) 0))) (.bool true) (.bbin .neq (.proj (.var 8) 2) (.proj (.var 9) 2))) (.bool true) (.bin .neq (.proj (.var 8) 0) (.proj (.var 9) 0))) (.bool true) (.bbin .neq (.proj (.var 8) 1) (.proj (.var 9) 1))))) <|
   .call [((.ite (.ite (.ite (.ite (.ite (.ite (.ite (.ite (.bbin .neq (.proj (.var 3) 2) (.proj (.var 4) 2)) (.bool true) (.bbin .neq (.proj (.var 3) 1) (.proj (.var 4) 1))) (.bool true) (.not (.var 10))) (.bool true) (.bbin .neq (.proj (.var 5) 1) (.proj (.var 6) 1))) (.bool true) (.bbin .neq (.proj (.var 5) 0) (.proj (.var 6) 0))) (.bool true) (.bbin .neq (.proj (.var 8) 2) (.proj (.var 9) 2))) (.bool true) (.bin .neq (.proj (.var 8) 0) (.proj (.var 9) 0))) (.bool true) (.bbin .neq (.proj (.var 8) 1) (.proj (.var 9) 1))) (.bool true) (.bbin .neq (.var 11) (.var 12))), false)] (.inl 18) (.cons (.mk (.cons (.fld (.proj (.var 2) 0) 0 1 false) (.cons (.fld (.proj (.var 2) 0) 1 1 false) (.cons (.fld (.proj (.var 2) 0) 2 1 false) (.cons (.fld (.proj (.var 2) 0) 3 1 false) (.cons (.fld (.proj (.var 2) 0) 4 1 false) .nil)))))) (.cons (.mk (.cons (.fld (.proj (.var 2) 1) 0 1 false) (.cons (.fld (.proj (.var 2) 1) 1 1 false) (.cons (.fld (.proj (.var 2) 1) 2 1 false) .nil)))) .nil)) <|
   .chk [((.ite (.ite (.ite (.ite (.ite (.ite (.ite (.ite (.bbin .neq (.proj (.var 3) 2) (.proj (.var 4) 2)) (.bool true) (.bbin .neq (.proj (.var 3) 1) (.proj (.var 4) 1))) (.bool true) (.not (.var 10))) (.bool true) (.bbin .neq (.proj (.var 5) 1) (.proj (.var 6) 1))) (.bool true) (.bbin .neq (.proj (.var 5) 0) (.proj (.var 6) 0))) (.bool true) (.bbin .neq (.proj (.var 8) 2) (.proj (.var 9) 2))) (.bool true) (.bin .neq (.proj (.var 8) 0) (.proj (.var 9) 0))) (.bool true) (.bbin .neq (.proj (.var 8) 1) (.proj (.var 9) 1))) (.bool true) (.bbin .neq (.var 11) (.var 12))), false)] (.dfd (.bbin .neq (.var 13) (.proj (.var 3) 2))) <|
   .chk [] (.dfd (.not (.ite (.ite (.ite (.ite (.ite (.ite (.ite (.ite (.bbin .neq (.proj (.var 3) 2) (.proj (.var 4) 2)) (.bool true) (.bbin .neq (.proj (.var 3) 1) (.proj (.var 4) 1))) (.bool true) (.not (.var 10))) (.bool true) (.bbin .neq (.proj (.var 5) 1) (.proj (.var 6) 1))) (.bool true) (.bbin .neq (.proj (.var 5) 0) (.proj (.var 6) 0))) (.bool true) (.bbin .neq (.proj (.var 8) 2) (.proj (.var 9) 2))) (.bool true) (.bin .neq (.proj (.var 8) 0) (.proj (.var 9) 0))) (.bool true) (.bbin .neq (.proj (.var 8) 1) (.proj (.var 9) 1))) (.bool true) (.bbin .neq (.var 11) (.var 12))))) <|
   .ite (.ite (.ite (.ite (.ite (.ite (.ite (.ite (.ite (.ite (.bbin .neq (.proj (.var 3) 2) (.proj (.var 4) 2)) (.bool true) (.bbin .neq (.proj (.var 3) 1) (.proj (.var 4) 1))) (.bool true) (.not (.var 10))) (.bool true) (.bbin .neq (.proj (.var 5) 1) (.proj (.var 6) 1))) (.bool true) (.bbin .neq (.proj (.var 5) 0) (.proj (.var 6) 0))) (.bool true) (.bbin .neq (.proj (.var 8) 2) (.proj (.var 9) 2))) (.bool true) (.bin .neq (.proj (.var 8) 0) (.proj (.var 9) 0))) (.bool true) (.bbin .neq (.proj (.var 8) 1) (.proj (.var 9) 1))) (.bool true) (.bbin .neq (.var 11) (.var 12))) (.bool true) (.bbin .neq (.var 13) (.proj (.var 3) 2))) (
    .ret (.bool false)) (
    .join (
     .chk [] (.dfd (.not (.proj (.var 8) 2))) <|
     .ite (.ite (.proj (.var 8) 2) (.proj (.var 8) 1) (.bool false)) (
      .chk [] (.inb (.proj (.var 7) 1) (.fld (.proj (.var 7) 0) 2 1 false) 1) <|
      .call [] (.inl 19) (.cons (.fld (.idx (.fld (.proj (.var 7) 0) 2 1 false) (.proj (.var 7) 1)) 0 1 true) (.cons (.fld (.proj (.var 7) 0) 0 1 false) .nil)) <|
      .chk [] (.agg (.proj (.var 14) 0) 2) <|
      .chk [] (.dfd (.not (.proj (.var 14) 1))) <|
      .chk [((.not (.proj (.var 14) 1)), false)] (.inb (.proj (.var 7) 1) (.fld (.proj (.var 7) 0) 4 1 false) 2) <|
      .chk [((.not (.proj (.var 14) 1)), false)] (.dfd (.bin .geq (.fld (.proj (.var 14) 0) 1 1 false) (.fld (.idx (.fld (.proj (.var 7) 0) 4 1 false) (.proj (.var 7) 1)) 1 1 false))) <|
      .chk [] (.dfd (.not (.not (.proj (.var 14) 1)))) <|
      .ite (.ite (.not (.proj (.var 14) 1)) (.bool true) (.bin .geq (.fld (.proj (.var 14) 0) 1 1 false) (.fld (.idx (.fld (.proj (.var 7) 0) 4 1 false) (.proj (.var 7) 1)) 1 1 false))) (
       .ret (.bool false)) (
       .jmp 0 .nil)) (
      .jmp 0 .nil)) (
     .chk [] (.dfd (.not (.proj (.var 3) 2))) <|
     .ite (.not (.proj (.var 3) 2)) (
      .ret (.bool true)) (
      .call [] (.inl 10) (.cons (.mk (.cons (.fld (.proj (.var 3) 0) 0 1 false) (.cons (.fld (.proj (.var 3) 0) 1 1 false) (.cons (.fld (.proj (.var 3) 0) 2 1 false) (.cons (.fld (.proj (.var 3) 0) 3 1 false) (.cons (.fld (.proj (.var 3) 0) 4 1 false) .nil)))))) .nil) <|
      .chk [((.proj (.var 14) 1), true)] (.dfd (.not (.proj (.var 5) 0))) <|
      .chk [((.proj (.var 14) 1), true)] (.dfd (.not (.not (.proj (.var 5) 0)))) <|
      .chk [] (.dfd (.not (.proj (.var 14) 1))) <|
      .chk [((.ite (.proj (.var 14) 1) (.ite (.not (.proj (.var 5) 0)) (.bool true) (.proj (.var 14) 0)) (.bool false)), true)] (.dfd (.bin .geq (.fld (.proj (.var 3) 0) 0 1 false) (.fld (.proj (.var 2) 0) 0 1 false))) <|
      .chk [] (.dfd (.not (.ite (.proj (.var 14) 1) (.ite (.not (.proj (.var 5) 0)) (.bool true) (.proj (.var 14) 0)) (.bool false)))) <|
      .chk [((.ite (.ite (.proj (.var 14) 1) (.ite (.not (.proj (.var 5) 0)) (.bool true) (.proj (.var 14) 0)) (.bool false)) (.bin .geq (.fld (.proj (.var 3) 0) 0 1 false) (.fld (.proj (.var 2) 0) 0 1 false)) (.bool false)), true)] (.dfd (.bin .geq (.fld (.proj (.var 3) 0) 3 1 false) (.fld (.proj (.var 2) 0) 3 1 false))) <|
      .chk [] (.dfd (.not (.ite (.ite (.proj (.var 14) 1) (.ite (.not (.proj (.var 5) 0)) (.bool true) (.proj (.var 14) 0)) (.bool false)) (.bin .geq (.fld (.proj (.var 3) 0) 0 1 false) (.fld (.proj (.var 2) 0) 0 1 false)) (.bool false)))) <|
      .ret (.ite (.ite (.ite (.proj (.var 14) 1) (.ite (.not (.proj (.var 5) 0)) (.bool true) (.proj (.var 14) 0)) (.bool false)) (.bin .geq (.fld (.proj (.var 3) 0) 0 1 false) (.fld (.proj (.var 2) 0) 0 1 false)) (.bool false)) (.bin .geq (.fld (.proj (.var 3) 0) 3 1 false) (.fld (.proj (.var 2) 0) 3 1 false)) (.bool false))))))
theorem C_laws_FnRenew : comp Try.prog sgs 3 = some T_laws_FnRenew := by kernel_rfl
theorem R_laws_FnRenew (a0 : List Int) (a1 : List Int) (r : Bool) (h : m_laws_FnRenew a0 a1 = some r) : Rts Try.prog sgs 3 [.sl (a0.map avU8), .sl (a1.map avU8)] (.bool r) := by
  refine rts_of C_laws_FnRenew (by kernel_rfl) ?_
  unfold Den T_laws_FnRenew
  unfold m_laws_FnRenew at h
  refine s_chk (by simp) ?_
  refine s_chk (by simp) ?_
  refine s_ite h (by simp) (fun e1 h => ?_) (fun e1 h => ?_)
  · exact s_ret (av := avB) h (by simp)
  · refine s_call avTRenewRenewActZ2 h (fun x hx => by simpa using R_spec_DrawStepRenew a0 x hx) (fun v2 cv2 h => ?_)
    refine s_chk (by simp) ?_
    refine s_chk (by simp) ?_
    refine s_call avTRenewBBZ3 h (fun x hx => by simpa using R_impl_StepRenew v2.1 v2.2 x hx) (fun v3 cv3 h => ?_)
    refine s_call avTRenewBBZ3 h (fun x hx => by simpa using R_spec_StepRenew v2.1 v2.2 x hx) (fun v4 cv4 h => ?_)
    refine s_call avTBBZ2 h (fun x hx => by simpa using R_impl_SoundRenew v2.1 x hx) (fun v5 cv5 h => ?_)
    refine s_call avTBBZ2 h (fun x hx => by simpa using R_spec_SoundRenew v2.1 x hx) (fun v6 cv6 h => ?_)
    refine s_call avTRenewI64Z2 h (fun x hx => by simpa using R_spec_DrawUsableIn a1 x hx) (fun v7 cv7 h => ?_)
    refine s_call avTI64BBZ3 h (fun x hx => by simpa using R_impl_UsableIn v7.1 v7.2 x hx) (fun v8 cv8 h => ?_)
    refine s_call avTI64BBZ3 h (fun x hx => by simpa using R_spec_UsableIn v7.1 v7.2 x hx) (fun v9 cv9 h => ?_)
    refine s_chk (by simp) ?_
    refine s_chk (by simp) ?_
    refine s_chk (by simp) ?_
    refine s_split h (fun e10 h => ?_) (fun e10 h => ?_)
    · refine s_skip (by simp [e1, e10]) ?_
      refine s_chk (by simp [e1, e10]) ?_
      refine s_chk (by simp [e1, e10]) ?_
      refine s_chk (by simp [e1, e10]) ?_
      refine s_chk (by simp [e1, e10]) ?_
      refine s_chk (by simp [e1, e10]) ?_
      refine s_chk (by simp [e1, e10]) ?_
      refine s_chk (by simp [e1, e10]) ?_
      refine s_chk (by simp [e1, e10]) ?_
      refine s_chk (by simp [e1, e10]) ?_
      refine s_chk (by simp [e1, e10]) ?_
      refine s_chk (by simp [e1, e10]) ?_
      refine s_chk (by simp [e1, e10]) ?_
      refine s_skip (by simp [e1, e10]) ?_
      refine s_skip (by simp [e1, e10]) ?_
      refine s_chk (by simp [e1, e10]) ?_
      refine s_chk (by simp [e1, e10]) ?_
      refine s_skip (by simp [e1, e10]) ?_
      refine s_chk (by simp [e1, e10]) ?_
      refine s_chk (by simp [e1, e10]) ?_
      refine s_iteT (by simp [e1, e10]) ?_
      exact s_ret (av := avB) h (by simp)
    · refine s_split h (fun e11 h => ?_) (fun e11 h => ?_)
      · refine s_skip (by simp [e1, e10, e11]) ?_
        refine s_chk (by simp [e1, e10, e11]) ?_
        refine s_chk (by simp [e1, e10, e11]) ?_
        refine s_chk (by simp [e1, e10, e11]) ?_
        refine s_chk (by simp [e1, e10, e11]) ?_
        refine s_chk (by simp [e1, e10, e11]) ?_
        refine s_chk (by simp [e1, e10, e11]) ?_
        refine s_chk (by simp [e1, e10, e11]) ?_
        refine s_chk (by simp [e1, e10, e11]) ?_
        refine s_chk (by simp [e1, e10, e11]) ?_
        refine s_chk (by simp [e1, e10, e11]) ?_
        refine s_chk (by simp [e1, e10, e11]) ?_
        refine s_chk (by simp [e1, e10, e11]) ?_
        refine s_skip (by simp [e1, e10, e11]) ?_
        refine s_skip (by simp [e1, e10, e11]) ?_
        refine s_chk (by simp [e1, e10, e11]) ?_
        refine s_chk (by simp [e1, e10, e11]) ?_
        refine s_skip (by simp [e1, e10, e11]) ?_
        refine s_chk (by simp [e1, e10, e11]) ?_
        refine s_chk (by simp [e1, e10, e11]) ?_
        refine s_iteT (by simp [e1, e10, e11]) ?_
        exact s_ret (av := avB) h (by simp)
      · refine s_call avB h (fun x hx => by simpa using R_laws_qSameR v3.1 v4.1 x hx) (fun v12 cv12 h => ?_)
        refine s_chk (by simp) ?_
        refine s_chk (by simp [e1, e10, e11]) ?_
        refine s_chk (by simp) ?_
        refine s_chk (by simp [e1, e10, e11]) ?_
        refine s_chk (by simp) ?_
        refine s_chk (by simp [e1, e10, e11]) ?_
        refine s_chk (by simp) ?_
        refine s_chk (by simp [e1, e10, e11]) ?_
        refine s_chk (by simp) ?_
        refine s_chk (by simp [e1, e10, e11]) ?_
        refine s_chk (by simp) ?_
        refine s_chk (by simp [e1, e10, e11]) ?_
        refine s_split h (fun e13 h => ?_) (fun e13 h => ?_)
        · refine s_split h (fun e14 h => ?_) (fun e14 h => ?_)
          · refine s_skip (by simp [e1, e10, e11, e13, e14]) ?_
            refine s_skip (by simp [e1, e10, e11, e13, e14]) ?_
            refine s_chk (by simp [e1, e10, e11, e13, e14]) ?_
            refine s_chk (by simp [e1, e10, e11, e13, e14]) ?_
            refine s_skip (by simp [e1, e10, e11, e13, e14]) ?_
            refine s_chk (by simp [e1, e10, e11, e13, e14]) ?_
            refine s_chk (by simp [e1, e10, e11, e13, e14]) ?_
            refine s_iteT (by simp [e1, e10, e11, e13, e14]) ?_
            exact s_ret (av := avB) h (by simp)
          · refine s_split h (fun e15 h => ?_) (fun e15 h => ?_)
            · refine s_skip (by simp [e1, e10, e11, e13, e14, e15]) ?_
              refine s_skip (by simp [e1, e10, e11, e13, e14, e15]) ?_
              refine s_chk (by simp [e1, e10, e11, e13, e14, e15]) ?_
              refine s_chk (by simp [e1, e10, e11, e13, e14, e15]) ?_
              refine s_skip (by simp [e1, e10, e11, e13, e14, e15]) ?_
              refine s_chk (by simp [e1, e10, e11, e13, e14, e15]) ?_
              refine s_chk (by simp [e1, e10, e11, e13, e14, e15]) ?_
              refine s_iteT (by simp [e1, e10, e11, e13, e14, e15]) ?_
              exact s_ret (av := avB) h (by simp)
            · refine s_split h (fun e16 h => ?_) (fun e16 h => ?_)
              · refine s_skip (by simp [e1, e10, e11, e13, e14, e15, e16]) ?_
                refine s_skip (by simp [e1, e10, e11, e13, e14, e15, e16]) ?_
                refine s_chk (by simp [e1, e10, e11, e13, e14, e15, e16]) ?_
                refine s_chk (by simp [e1, e10, e11, e13, e14, e15, e16]) ?_
                refine s_skip (by simp [e1, e10, e11, e13, e14, e15, e16]) ?_
                refine s_chk (by simp [e1, e10, e11, e13, e14, e15, e16]) ?_
                refine s_chk (by simp [e1, e10, e11, e13, e14, e15, e16]) ?_
                refine s_iteT (by simp [e1, e10, e11, e13, e14, e15, e16]) ?_
                exact s_ret (av := avB) h (by simp)
              · refine s_split h (fun e17 h => ?_) (fun e17 h => ?_)
                · refine s_skip (by simp [e1, e10, e11, e13, e14, e15, e16, e17]) ?_
                  refine s_skip (by simp [e1, e10, e11, e13, e14, e15, e16, e17]) ?_
                  refine s_chk (by simp [e1, e10, e11, e13, e14, e15, e16, e17]) ?_
                  refine s_chk (by simp [e1, e10, e11, e13, e14, e15, e16, e17]) ?_
                  refine s_skip (by simp [e1, e10, e11, e13, e14, e15, e16, e17]) ?_
                  refine s_chk (by simp [e1, e10, e11, e13, e14, e15, e16, e17]) ?_
                  refine s_chk (by simp [e1, e10, e11, e13, e14, e15, e16, e17]) ?_
                  refine s_iteT (by simp [e1, e10, e11, e13, e14, e15, e16, e17]) ?_
                  exact s_ret (av := avB) h (by simp)
                · refine s_split h (fun e18 h => ?_) (fun e18 h => ?_)
                  · refine s_skip (by simp [e1, e10, e11, e13, e14, e15, e16, e17, e18]) ?_
                    refine s_skip (by simp [e1, e10, e11, e13, e14, e15, e16, e17, e18]) ?_
                    refine s_chk (by simp [e1, e10, e11, e13, e14, e15, e16, e17, e18]) ?_
                    refine s_chk (by simp [e1, e10, e11, e13, e14, e15, e16, e17, e18]) ?_
                    refine s_skip (by simp [e1, e10, e11, e13, e14, e15, e16, e17, e18]) ?_
                    refine s_chk (by simp [e1, e10, e11, e13, e14, e15, e16, e17, e18]) ?_
                    refine s_chk (by simp [e1, e10, e11, e13, e14, e15, e16, e17, e18]) ?_
                    refine s_iteT (by simp [e1, e10, e11, e13, e14, e15, e16, e17, e18]) ?_
                    exact s_ret (av := avB) h (by simp)
                  · refine s_call avB h (fun x hx => by simpa using R_impl_GoodRenew v2.1 x hx) (fun v19 cv19 h => ?_)
                    refine s_call avB h (fun x hx => by simpa using R_spec_GoodRenew v2.1 x hx) (fun v20 cv20 h => ?_)
                    refine s_chk (by simp) ?_
                    refine s_chk (by simp [e1, e10, e11, e13, e14, e15, e16, e17, e18]) ?_
                    refine s_split h (fun e21 h => ?_) (fun e21 h => ?_)
                    · refine s_skip (by simp [e1, e10, e11, e13, e14, e15, e16, e17, e18, e21]) ?_
                      refine s_chk (by simp [e1, e10, e11, e13, e14, e15, e16, e17, e18, e21]) ?_
                      refine s_chk (by simp [e1, e10, e11, e13, e14, e15, e16, e17, e18, e21]) ?_
                      refine s_iteT (by simp [e1, e10, e11, e13, e14, e15, e16, e17, e18, e21]) ?_
                      exact s_ret (av := avB) h (by simp)
                    · refine s_call avB h (fun x hx => by simpa using R_impl_GoodRenewAct v2.1 v2.2 x hx) (fun v22 cv22 h => ?_)
                      refine s_chk (by simp) ?_
                      refine s_chk (by simp [e1, e10, e11, e13, e14, e15, e16, e17, e18, e21]) ?_
                      refine s_ite h (by simp [e1, e10, e11, e13, e14, e15, e16, e17, e18, e21]) (fun e23 h => ?_) (fun e23 h => ?_)
                      · exact s_ret (av := avB) h (by simp)
                      · refine s_joinI fun j24 hj24 => ?_
                        refine s_chk (by simp) ?_
                        refine s_ite h (by simp [e1, e10, e11, e13, e14, e15, e16, e17, e18, e21, e23]) (fun e25 h => ?_) (fun e25 h => ?_)
                        · obtain ⟨y26, hy26, h⟩ := bindE h
                          have hy26' := (getIE hy26).2.2
                          refine s_chk (fun _ => c_inb (kk := .i64) (f := avClock) (by simp) (by simp) hy26 (by simp)) ?_
                          refine s_call avTSpanBZ2 h (fun x hx => by simpa [e1, e10, e11, e13, e14, e15, e16, e17, e18, e21, e23, e25, hy26'] using R_spec_SpanAt y26 v7.1.fNow x hx) (fun v27 cv27 h => ?_)
                          refine s_chk (by simp) ?_
                          refine s_chk (by simp) ?_
                          refine s_split h (fun e28 h => ?_) (fun e28 h => ?_)
                          · obtain ⟨y29, hy29, h⟩ := bindE h
                            have hy29' := (getIE hy29).2.2
                            refine s_chk (fun _ => c_inb (kk := .i64) (f := avVLease) (by simp) (by simp) hy29 (by simp)) ?_
                            refine s_chk (by simp [e1, e10, e11, e13, e14, e15, e16, e17, e18, e21, e23, e25, hy26', e28, hy29']) ?_
                            refine s_chk (by simp) ?_
                            refine s_ite h (by simp [e1, e10, e11, e13, e14, e15, e16, e17, e18, e21, e23, e25, hy26', e28, hy29']) (fun e30 h => ?_) (fun e30 h => ?_)
                            · exact s_ret (av := avB) h (by simp)
                            · refine s_jmpI hj24 rfl (vs := []) (by simp) ?_
                              refine s_chk (by simp) ?_
                              refine s_ite h (by simp) (fun e31 h => ?_) (fun e31 h => ?_)
                              · exact s_ret (av := avB) h (by simp)
                              · refine s_call avTBBZ2 h (fun x hx => by simpa using R_impl_SoundRenew v3.1 x hx) (fun v32 cv32 h => ?_)
                                refine s_chk (by simp) ?_
                                refine s_chk (by simp) ?_
                                refine s_chk (by simp) ?_
                                refine s_chk (by simp) ?_
                                refine s_chk (by simp [e1, e10, e11, e13, e14, e15, e16, e17, e18, e21, e23, e25, hy26', e28, hy29', e30, e31]) ?_
                                refine s_chk (by simp) ?_
                                refine s_chk (by simp [e1, e10, e11, e13, e14, e15, e16, e17, e18, e21, e23, e25, hy26', e28, hy29', e30, e31]) ?_
                                exact s_ret (av := avB) h (by simp [e1, e10, e11, e13, e14, e15, e16, e17, e18, e21, e23, e25, hy26', e28, hy29', e30, e31])
                          · refine s_chk (by simp [e1, e10, e11, e13, e14, e15, e16, e17, e18, e21, e23, e25, hy26', e28]) ?_
                            refine s_chk (by simp [e1, e10, e11, e13, e14, e15, e16, e17, e18, e21, e23, e25, hy26', e28]) ?_
                            refine s_chk (by simp) ?_
                            refine s_iteT (by simp [e1, e10, e11, e13, e14, e15, e16, e17, e18, e21, e23, e25, hy26', e28]) ?_
                            exact s_ret (av := avB) h (by simp)
                        · refine s_jmpI hj24 rfl (vs := []) (by simp) ?_
                          refine s_chk (by simp) ?_
                          refine s_ite h (by simp) (fun e33 h => ?_) (fun e33 h => ?_)
                          · exact s_ret (av := avB) h (by simp)
                          · refine s_call avTBBZ2 h (fun x hx => by simpa using R_impl_SoundRenew v3.1 x hx) (fun v34 cv34 h => ?_)
                            refine s_chk (by simp) ?_
                            refine s_chk (by simp) ?_
                            refine s_chk (by simp) ?_
                            refine s_chk (by simp) ?_
                            refine s_chk (by simp [e1, e10, e11, e13, e14, e15, e16, e17, e18, e21, e23, e25, e33]) ?_
                            refine s_chk (by simp) ?_
                            refine s_chk (by simp [e1, e10, e11, e13, e14, e15, e16, e17, e18, e21, e23, e25, e33]) ?_
                            exact s_ret (av := avB) h (by simp [e1, e10, e11, e13, e14, e15, e16, e17, e18, e21, e23, e25, e33])
        · refine s_skip (by simp [e1, e10, e11, e13]) ?_
          refine s_skip (by simp [e1, e10, e11, e13]) ?_
          refine s_chk (by simp [e1, e10, e11, e13]) ?_
          refine s_chk (by simp [e1, e10, e11, e13]) ?_
          refine s_skip (by simp [e1, e10, e11, e13]) ?_
          refine s_chk (by simp [e1, e10, e11, e13]) ?_
          refine s_chk (by simp [e1, e10, e11, e13]) ?_
          refine s_iteT (by simp [e1, e10, e11, e13]) ?_
          exact s_ret (av := avB) h (by simp)
def T_laws_szClockS : Tr :=
  .chk [] (.dfd (.len (.var 0))) <|
  .chk [] (.dfd (.bin .sub (.var 1) (.len (.var 0)))) <|
  .chk [] (.dfd (.bin .lss (.bin .sub (.var 1) (.len (.var 0))) (.int .i64 (0)))) <|
  .ite (.bin .lss (.bin .sub (.var 1) (.len (.var 0))) (.int .i64 (0))) (
   .ret (.int .i64 (-1))) (
   .ret (.bin .sub (.var 1) (.len (.var 0))))
theorem C_laws_szClockS : comp Try.prog sgs 67 = some T_laws_szClockS := by kernel_rfl
theorem R_laws_szClockS (a0 : List DClock) (a1 : Int) (r : Int) (h : m_laws_szClockS a0 a1 = some r) : Rts Try.prog sgs 67 [.sl (a0.map avClock), .int .i64 a1] (.int .i64 r) := by
  refine rts_of C_laws_szClockS (by kernel_rfl) ?_
  unfold Den T_laws_szClockS
  unfold m_laws_szClockS at h
  refine s_chk (by simp) ?_
  refine s_chk (by simp) ?_
  refine s_chk (by simp) ?_
  refine s_ite h (by simp) (fun e1 h => ?_) (fun e1 h => ?_)
  · exact s_ret (av := avI64) h (by simp)
  · exact s_ret (av := avI64) h (by simp)
def T_laws_szVLeaseS : Tr :=
  .chk [] (.dfd (.len (.var 0))) <|
  .chk [] (.dfd (.bin .sub (.var 1) (.len (.var 0)))) <|
  .chk [] (.dfd (.bin .lss (.bin .sub (.var 1) (.len (.var 0))) (.int .i64 (0)))) <|
  .ite (.bin .lss (.bin .sub (.var 1) (.len (.var 0))) (.int .i64 (0))) (
   .ret (.int .i64 (-1))) (
   .ret (.bin .sub (.var 1) (.len (.var 0))))
theorem C_laws_szVLeaseS : comp Try.prog sgs 68 = some T_laws_szVLeaseS := by kernel_rfl
theorem R_laws_szVLeaseS (a0 : List DVLease) (a1 : Int) (r : Int) (h : m_laws_szVLeaseS a0 a1 = some r) : Rts Try.prog sgs 68 [.sl (a0.map avVLease), .int .i64 a1] (.int .i64 r) := by
  refine rts_of C_laws_szVLeaseS (by kernel_rfl) ?_
  unfold Den T_laws_szVLeaseS
  unfold m_laws_szVLeaseS at h
  refine s_chk (by simp) ?_
  refine s_chk (by simp) ?_
  refine s_chk (by simp) ?_
  refine s_ite h (by simp) (fun e1 h => ?_) (fun e1 h => ?_)
  · exact s_ret (av := avI64) h (by simp)
  · exact s_ret (av := avI64) h (by simp)
def T_laws_szRenew : Tr :=
  .chk [] (.agg (.var 0) 5) <|
  .call [] (.inl 67) (.cons (.fld (.var 0) 2 1 false) (.cons (.var 1) .nil)) <|
  .chk [] (.dfd (.bin .lss (.var 2) (.int .i64 (0)))) <|
  .ite (.bin .lss (.var 2) (.int .i64 (0))) (
   .ret (.int .i64 (-1))) (
   .call [] (.inl 68) (.cons (.fld (.var 0) 4 1 false) (.cons (.var 2) .nil)) <|
   .chk [] (.dfd (.bin .lss (.var 3) (.int .i64 (0)))) <|
   .ite (.bin .lss (.var 3) (.int .i64 (0))) (
    .ret (.int .i64 (-1))) (
    .ret (.var 3)))
theorem C_laws_szRenew : comp Try.prog sgs 20 = some T_laws_szRenew := by kernel_rfl
theorem R_laws_szRenew (a0 : DRenew) (a1 : Int) (r : Int) (h : m_laws_szRenew a0 a1 = some r) : Rts Try.prog sgs 20 [avRenew a0, .int .i64 a1] (.int .i64 r) := by
  refine rts_of C_laws_szRenew (by kernel_rfl) ?_
  unfold Den T_laws_szRenew
  unfold m_laws_szRenew at h
  refine s_chk (by simp) ?_
  refine s_call avI64 h (fun x hx => by simpa using R_laws_szClockS a0.fClocks a1 x hx) (fun v1 cv1 h => ?_)
  refine s_chk (by simp) ?_
  refine s_ite h (by simp) (fun e2 h => ?_) (fun e2 h => ?_)
  · exact s_ret (av := avI64) h (by simp)
  · refine s_call avI64 h (fun x hx => by simpa using R_laws_szVLeaseS a0.fLeases v1 x hx) (fun v3 cv3 h => ?_)
    refine s_chk (by simp) ?_
    refine s_ite h (by simp) (fun e4 h => ?_) (fun e4 h => ?_)
    · exact s_ret (av := avI64) h (by simp)
    · exact s_ret (av := avI64) h (by simp)
def T_laws_toClock : Tr :=
  .chk [] (.agg (.var 0) 1) <|
  .chk [] (.cells (.fld (.var 0) 0 1 false) 1) <|
  .ret (.mk (.cons (.fld (.var 0) 0 1 false) .nil))
theorem C_laws_toClock : comp Try.prog sgs 69 = some T_laws_toClock := by kernel_rfl
theorem R_laws_toClock (a0 : DClock) (r : DClock) (h : m_laws_toClock a0 = some r) : Rts Try.prog sgs 69 [avClock a0] (avClock r) := by
  refine rts_of C_laws_toClock (by kernel_rfl) ?_
  unfold Den T_laws_toClock
  unfold m_laws_toClock at h
  refine s_chk (by simp) ?_
  refine s_chk (by simp) ?_
  exact s_ret (av := avClock) h (by simp)
def T_laws_toClockS : Tr :=
  .chk [] (.dfd (.len (.var 0))) <|
  .chk [] (.mkroom (.len (.var 0)) 8) <|
  .loop (.cons (.int .i64 (0)) (.cons (.rep (.len (.var 0)) (.mk (.cons (.int .i64 (0)) .nil))) .nil)) (
   .chk [] (.dfd (.len (.var 0))) <|
   .chk [] (.dfd (.bin .lss (.var 1) (.len (.var 0)))) <|
   .ite (.bin .lss (.var 1) (.len (.var 0))) (
    .chk [] (.inb (.var 1) (.var 0) 1) <|
    .call [] (.inl 69) (.cons (.fld (.idx (.var 0) (.var 1)) 0 1 true) .nil) <|
    .chk [] (.inb (.var 1) (.var 2) 1) <|
    .chk [] (.flat (.var 3) 1 true) <|
    .chk [] (.flat (.fld (.idx (.var 2) (.var 1)) 0 1 true) 1 true) <|
    .chk [] (.dfd (.bin .add (.var 1) (.int .i64 (1)))) <|
    .jmp 0 (.cons (.bin .add (.var 1) (.int .i64 (1))) (.cons (.set (.var 2) (.var 1) (.put (.idx (.var 2) (.var 1)) 0 (.var 3) true)) .nil))) (
    .jmp 1 (.cons (.var 2) .nil))) (
   .ret (.var 1))
theorem C_laws_toClockS : comp Try.prog sgs 70 = some T_laws_toClockS := by kernel_rfl
theorem R_laws_toClockS (a0 : List DClock) (r : List DClock) (h : m_laws_toClockS a0 = some r) : Rts Try.prog sgs 70 [.sl (a0.map avClock)] (.sl (r.map avClock)) := by
  refine rts_of C_laws_toClockS (by kernel_rfl) ?_
  unfold Den T_laws_toClockS
  unfold m_laws_toClockS at h
  refine s_chk (by simp) ?_
  obtain ⟨q1, h⟩ := reqE h
  refine s_chk (fun _ => c_mkroom (kk := .i64) (k := (a0.length : Int)) (by simp) (by simpa using q1)) ?_
  refine s_loop (fun s : Int × List DClock => [.int .i64 s.1, .sl (s.2.map avClock)]) h (by simp) (fun W1 A1 s o1 h hn1 hf1 hk1 => ?_)
  obtain ⟨v2, v3⟩ := s
  replace h : m_laws_toClockS_b1 a0 v2 v3 = some o1 := h
  unfold m_laws_toClockS_b1 at h
  refine s_chk (by simp) ?_
  refine s_chk (by simp) ?_
  refine s_ite h (by simp) (fun e4 h => ?_) (fun e4 h => ?_)
  · obtain ⟨y5, hy5, h⟩ := bindE h
    have hy5' := (getIE hy5).2.2
    refine s_chk (fun _ => c_inb (kk := .i64) (f := avClock) (by simp) (by simp) hy5 (by simp)) ?_
    refine s_call avClock h (fun x hx => by simpa [e4, hy5'] using R_laws_toClock y5 x hx) (fun v6 cv6 h => ?_)
    obtain ⟨y7, hy7, h⟩ := bindE h
    have hy7' := (getIE hy7).2.2
    refine s_chk (fun _ => c_inb (kk := .i64) (f := avClock) (by simp) (by simp) hy7 (by simp)) ?_
    refine s_chk (by simp) ?_
    refine s_chk (by simp [e4, hy5', hy7']) ?_
    refine s_chk (by simp) ?_
    exact s_jmp (K := fun s => some (Sum.inl s)) (s := ((IntKind.i64.wrap (v2 + 1)), (v3.set (v2).toNat v6))) hn1 h rfl (by simp [e4, hy5', hy7'])
  · refine s_jmpI hk1 rfl (vs := [.sl (v3.map avClock)]) (by simp) ?_
    replace h := (hf1 _ h)
    exact s_ret (av := avSClock) h (by simp)
def T_laws_toVLease : Tr :=
  .chk [] (.agg (.var 0) 2) <|
  .chk [] (.cells (.fld (.var 0) 0 1 false) 1) <|
  .chk [] (.cells (.fld (.var 0) 1 1 false) 1) <|
  .ret (.mk (.cons (.fld (.var 0) 0 1 false) (.cons (.fld (.var 0) 1 1 false) .nil)))
theorem C_laws_toVLease : comp Try.prog sgs 96 = some T_laws_toVLease := by kernel_rfl
theorem R_laws_toVLease (a0 : DVLease) (r : DVLease) (h : m_laws_toVLease a0 = some r) : Rts Try.prog sgs 96 [avVLease a0] (avVLease r) := by
  refine rts_of C_laws_toVLease (by kernel_rfl) ?_
  unfold Den T_laws_toVLease
  unfold m_laws_toVLease at h
  refine s_chk (by simp) ?_
  refine s_chk (by simp) ?_
  refine s_chk (by simp) ?_
  exact s_ret (av := avVLease) h (by simp)
def T_laws_toVLeaseS : Tr :=
  .chk [] (.dfd (.len (.var 0))) <|
  .chk [] (.mkroom (.len (.var 0)) 16) <|
  .loop (.cons (.int .i64 (0)) (.cons (.rep (.len (.var 0)) (.mk (.cons (.int .i64 (0)) (.cons (.int .i64 (0)) .nil)))) .nil)) (
   .chk [] (.dfd (.len (.var 0))) <|
   .chk [] (.dfd (.bin .lss (.var 1) (.len (.var 0)))) <|
   .ite (.bin .lss (.var 1) (.len (.var 0))) (
    .chk [] (.inb (.var 1) (.var 0) 2) <|
    .call [] (.inl 96) (.cons (.fld (.idx (.var 0) (.var 1)) 0 2 true) .nil) <|
    .chk [] (.inb (.var 1) (.var 2) 2) <|
    .chk [] (.flat (.var 3) 2 true) <|
    .chk [] (.flat (.fld (.idx (.var 2) (.var 1)) 0 2 true) 2 true) <|
    .chk [] (.dfd (.bin .add (.var 1) (.int .i64 (1)))) <|
    .jmp 0 (.cons (.bin .add (.var 1) (.int .i64 (1))) (.cons (.set (.var 2) (.var 1) (.put (.idx (.var 2) (.var 1)) 0 (.var 3) true)) .nil))) (
    .jmp 1 (.cons (.var 2) .nil))) (
   .ret (.var 1))
theorem C_laws_toVLeaseS : comp Try.prog sgs 71 = some T_laws_toVLeaseS := by kernel_rfl
theorem R_laws_toVLeaseS (a0 : List DVLease) (r : List DVLease) (h : m_laws_toVLeaseS a0 = some r) : Rts Try.prog sgs 71 [.sl (a0.map avVLease)] (.sl (r.map avVLease)) := by
  refine rts_of C_laws_toVLeaseS (by kernel_rfl) ?_
  unfold Den T_laws_toVLeaseS
  unfold m_laws_toVLeaseS at h
  refine s_chk (by simp) ?_
  obtain ⟨q1, h⟩ := reqE h
  refine s_chk (fun _ => c_mkroom (kk := .i64) (k := (a0.length : Int)) (by simp) (by simpa using q1)) ?_
  refine s_loop (fun s : Int × List DVLease => [.int .i64 s.1, .sl (s.2.map avVLease)]) h (by simp) (fun W1 A1 s o1 h hn1 hf1 hk1 => ?_)
  obtain ⟨v2, v3⟩ := s
  replace h : m_laws_toVLeaseS_b1 a0 v2 v3 = some o1 := h
  unfold m_laws_toVLeaseS_b1 at h
  refine s_chk (by simp) ?_
  refine s_chk (by simp) ?_
  refine s_ite h (by simp) (fun e4 h => ?_) (fun e4 h => ?_)
  · obtain ⟨y5, hy5, h⟩ := bindE h
    have hy5' := (getIE hy5).2.2
    refine s_chk (fun _ => c_inb (kk := .i64) (f := avVLease) (by simp) (by simp) hy5 (by simp)) ?_
    refine s_call avVLease h (fun x hx => by simpa [e4, hy5'] using R_laws_toVLease y5 x hx) (fun v6 cv6 h => ?_)
    obtain ⟨y7, hy7, h⟩ := bindE h
    have hy7' := (getIE hy7).2.2
    refine s_chk (fun _ => c_inb (kk := .i64) (f := avVLease) (by simp) (by simp) hy7 (by simp)) ?_
    refine s_chk (by simp) ?_
    refine s_chk (by simp [e4, hy5', hy7']) ?_
    refine s_chk (by simp) ?_
    exact s_jmp (K := fun s => some (Sum.inl s)) (s := ((IntKind.i64.wrap (v2 + 1)), (v3.set (v2).toNat v6))) hn1 h rfl (by simp [e4, hy5', hy7'])
  · refine s_jmpI hk1 rfl (vs := [.sl (v3.map avVLease)]) (by simp) ?_
    replace h := (hf1 _ h)
    exact s_ret (av := avSVLease) h (by simp)
def T_laws_toRenew : Tr :=
  .chk [] (.agg (.var 0) 5) <|
  .chk [] (.cells (.fld (.var 0) 0 1 false) 1) <|
  .call [] (.inl 69) (.cons (.mk (.cons (.fld (.var 0) 1 1 false) .nil)) .nil) <|
  .chk [] (.agg (.var 1) 1) <|
  .call [] (.inl 70) (.cons (.fld (.var 0) 2 1 false) .nil) <|
  .chk [] (.cells (.fld (.var 0) 3 1 false) 1) <|
  .call [] (.inl 71) (.cons (.fld (.var 0) 4 1 false) .nil) <|
  .ret (.mk (.cons (.fld (.var 0) 0 1 false) (.cons (.fld (.var 1) 0 1 false) (.cons (.var 2) (.cons (.fld (.var 0) 3 1 false) (.cons (.var 3) .nil))))))
theorem C_laws_toRenew : comp Try.prog sgs 21 = some T_laws_toRenew := by kernel_rfl
theorem R_laws_toRenew (a0 : DRenew) (r : DRenew) (h : m_laws_toRenew a0 = some r) : Rts Try.prog sgs 21 [avRenew a0] (avRenew r) := by
  refine rts_of C_laws_toRenew (by kernel_rfl) ?_
  unfold Den T_laws_toRenew
  unfold m_laws_toRenew at h
  refine s_chk (by simp) ?_
  refine s_chk (by simp) ?_
  refine s_call avClock h (fun x hx => by simpa using R_laws_toClock a0.fMaster x hx) (fun v1 cv1 h => ?_)
  refine s_chk (by simp) ?_
  refine s_call avSClock h (fun x hx => by simpa using R_laws_toClockS a0.fClocks x hx) (fun v2 cv2 h => ?_)
  refine s_chk (by simp) ?_
  refine s_call avSVLease h (fun x hx => by simpa using R_laws_toVLeaseS a0.fLeases x hx) (fun v3 cv3 h => ?_)
  exact s_ret (av := avRenew) h (by simp)
def T_laws_toRenewAct : Tr :=
  .chk [] (.agg (.var 0) 3) <|
  .chk [] (.cells (.fld (.var 0) 0 1 false) 1) <|
  .chk [] (.cells (.fld (.var 0) 1 1 false) 1) <|
  .chk [] (.cells (.fld (.var 0) 2 1 false) 1) <|
  .ret (.mk (.cons (.fld (.var 0) 0 1 false) (.cons (.fld (.var 0) 1 1 false) (.cons (.fld (.var 0) 2 1 false) .nil))))
theorem C_laws_toRenewAct : comp Try.prog sgs 22 = some T_laws_toRenewAct := by kernel_rfl
theorem R_laws_toRenewAct (a0 : DRenewAct) (r : DRenewAct) (h : m_laws_toRenewAct a0 = some r) : Rts Try.prog sgs 22 [avRenewAct a0] (avRenewAct r) := by
  refine rts_of C_laws_toRenewAct (by kernel_rfl) ?_
  unfold Den T_laws_toRenewAct
  unfold m_laws_toRenewAct at h
  refine s_chk (by simp) ?_
  refine s_chk (by simp) ?_
  refine s_chk (by simp) ?_
  refine s_chk (by simp) ?_
  exact s_ret (av := avRenewAct) h (by simp)
def T_laws_eqClock : Tr :=
  .chk [] (.agg (.var 0) 1) <|
  .chk [] (.agg (.var 1) 1) <|
  .chk [] (.dfd (.bin .neq (.fld (.var 0) 0 1 false) (.fld (.var 1) 0 1 false))) <|
  .ite (.bin .neq (.fld (.var 0) 0 1 false) (.fld (.var 1) 0 1 false)) (
   .ret (.bool false)) (
   .ret (.bool true))
theorem C_laws_eqClock : comp Try.prog sgs 72 = some T_laws_eqClock := by kernel_rfl
theorem R_laws_eqClock (a0 : DClock) (a1 : DClock) (r : Bool) (h : m_laws_eqClock a0 a1 = some r) : Rts Try.prog sgs 72 [avClock a0, avClock a1] (.bool r) := by
  refine rts_of C_laws_eqClock (by kernel_rfl) ?_
  unfold Den T_laws_eqClock
  unfold m_laws_eqClock at h
  refine s_chk (by simp) ?_
  refine s_chk (by simp) ?_
  refine s_chk (by simp) ?_
  refine s_ite h (by simp) (fun e1 h => ?_) (fun e1 h => ?_)
  · exact s_ret (av := avB) h (by simp)
  · exact s_ret (av := avB) h (by simp)
def T_laws_eqClockS : Tr :=
  .chk [] (.dfd (.len (.var 0))) <|
  .chk [] (.dfd (.len (.var 1))) <|
  .ite (.bin .neq (.len (.var 0)) (.len (.var 1))) (
   .ret (.bool false)) (
   .loop (.cons (.int .i64 (0)) .nil) (
    .chk [] (.dfd (.len (.var 0))) <|
    .chk [] (.dfd (.bin .lss (.var 2) (.len (.var 0)))) <|
    .ite (.bin .lss (.var 2) (.len (.var 0))) (
     .chk [] (.inb (.var 2) (.var 0) 1) <|
     .chk [] (.inb (.var 2) (.var 1) 1) <|
     .call [] (.inl 72) (.cons (.fld (.idx (.var 0) (.var 2)) 0 1 true) (.cons (.fld (.idx (.var 1) (.var 2)) 0 1 true) .nil)) <|
     .chk [] (.dfd (.not (.var 3))) <|
     .ite (.not (.var 3)) (
      .ret (.bool false)) (
      .chk [] (.dfd (.bin .add (.var 2) (.int .i64 (1)))) <|
      .jmp 0 (.cons (.bin .add (.var 2) (.int .i64 (1))) .nil))) (
     .jmp 1 .nil)) (
    .ret (.bool true)))
theorem C_laws_eqClockS : comp Try.prog sgs 73 = some T_laws_eqClockS := by kernel_rfl
theorem R_laws_eqClockS (a0 : List DClock) (a1 : List DClock) (r : Bool) (h : m_laws_eqClockS a0 a1 = some r) : Rts Try.prog sgs 73 [.sl (a0.map avClock), .sl (a1.map avClock)] (.bool r) := by
  refine rts_of C_laws_eqClockS (by kernel_rfl) ?_
  unfold Den T_laws_eqClockS
  unfold m_laws_eqClockS at h
  refine s_chk (by simp) ?_
  refine s_chk (by simp) ?_
  refine s_ite h (by simp) (fun e1 h => ?_) (fun e1 h => ?_)
  · exact s_ret (av := avB) h (by simp)
  · refine s_loop (fun s : Int => [.int .i64 s]) h (by simp) (fun W1 A1 v2 o1 h hn1 hf1 hk1 => ?_)
    replace h : m_laws_eqClockS_b1 a0 a1 v2 = some o1 := h
    unfold m_laws_eqClockS_b1 at h
    refine s_chk (by simp) ?_
    refine s_chk (by simp) ?_
    refine s_ite h (by simp) (fun e3 h => ?_) (fun e3 h => ?_)
    · obtain ⟨y4, hy4, h⟩ := bindE h
      have hy4' := (getIE hy4).2.2
      refine s_chk (fun _ => c_inb (kk := .i64) (f := avClock) (by simp) (by simp) hy4 (by simp)) ?_
      obtain ⟨y5, hy5, h⟩ := bindE h
      have hy5' := (getIE hy5).2.2
      refine s_chk (fun _ => c_inb (kk := .i64) (f := avClock) (by simp) (by simp) hy5 (by simp)) ?_
      refine s_call avB h (fun x hx => by simpa [e1, e3, hy4', hy5'] using R_laws_eqClock y4 y5 x hx) (fun v6 cv6 h => ?_)
      refine s_chk (by simp) ?_
      refine s_ite h (by simp) (fun e7 h => ?_) (fun e7 h => ?_)
      · exact s_ret (av := avB) (hf1 _ h) (by simp)
      · refine s_chk (by simp) ?_
        exact s_jmp (K := fun s => some (Sum.inl s)) (s := (IntKind.i64.wrap (v2 + 1))) hn1 h rfl (by simp)
    · refine s_jmpI hk1 rfl (vs := []) (by simp) ?_
      replace h := (hf1 _ h)
      exact s_ret (av := avB) h (by simp)
def T_laws_eqVLease : Tr :=
  .chk [] (.agg (.var 0) 2) <|
  .chk [] (.agg (.var 1) 2) <|
  .chk [] (.dfd (.bin .neq (.fld (.var 0) 0 1 false) (.fld (.var 1) 0 1 false))) <|
  .ite (.bin .neq (.fld (.var 0) 0 1 false) (.fld (.var 1) 0 1 false)) (
   .ret (.bool false)) (
   .chk [] (.dfd (.bin .neq (.fld (.var 0) 1 1 false) (.fld (.var 1) 1 1 false))) <|
   .ite (.bin .neq (.fld (.var 0) 1 1 false) (.fld (.var 1) 1 1 false)) (
    .ret (.bool false)) (
    .ret (.bool true)))
theorem C_laws_eqVLease : comp Try.prog sgs 97 = some T_laws_eqVLease := by kernel_rfl
theorem R_laws_eqVLease (a0 : DVLease) (a1 : DVLease) (r : Bool) (h : m_laws_eqVLease a0 a1 = some r) : Rts Try.prog sgs 97 [avVLease a0, avVLease a1] (.bool r) := by
  refine rts_of C_laws_eqVLease (by kernel_rfl) ?_
  unfold Den T_laws_eqVLease
  unfold m_laws_eqVLease at h
  refine s_chk (by simp) ?_
  refine s_chk (by simp) ?_
  refine s_chk (by simp) ?_
  refine s_ite h (by simp) (fun e1 h => ?_) (fun e1 h => ?_)
  · exact s_ret (av := avB) h (by simp)
  · refine s_chk (by simp) ?_
    refine s_ite h (by simp) (fun e2 h => ?_) (fun e2 h => ?_)
    · exact s_ret (av := avB) h (by simp)
    · exact s_ret (av := avB) h (by simp)
def T_laws_eqVLeaseS : Tr :=
  .chk [] (.dfd (.len (.var 0))) <|
  .chk [] (.dfd (.len (.var 1))) <|
  .ite (.bin .neq (.len (.var 0)) (.len (.var 1))) (
   .ret (.bool false)) (
   .loop (.cons (.int .i64 (0)) .nil) (
    .chk [] (.dfd (.len (.var 0))) <|
    .chk [] (.dfd (.bin .lss (.var 2) (.len (.var 0)))) <|
    .ite (.bin .lss (.var 2) (.len (.var 0))) (
     .chk [] (.inb (.var 2) (.var 0) 2) <|
     .chk [] (.inb (.var 2) (.var 1) 2) <|
     .call [] (.inl 97) (.cons (.fld (.idx (.var 0) (.var 2)) 0 2 true) (.cons (.fld (.idx (.var 1) (.var 2)) 0 2 true) .nil)) <|
     .chk [] (.dfd (.not (.var 3))) <|
     .ite (.not (.var 3)) (
      .ret (.bool false)) (
      .chk [] (.dfd (.bin .add (.var 2) (.int .i64 (1)))) <|
      .jmp 0 (.cons (.bin .add (.var 2) (.int .i64 (1))) .nil))) (
     .jmp 1 .nil)) (
    .ret (.bool true)))
theorem C_laws_eqVLeaseS : comp Try.prog sgs 74 = some T_laws_eqVLeaseS := by kernel_rfl
theorem R_laws_eqVLeaseS (a0 : List DVLease) (a1 : List DVLease) (r : Bool) (h : m_laws_eqVLeaseS a0 a1 = some r) : Rts Try.prog sgs 74 [.sl (a0.map avVLease), .sl (a1.map avVLease)] (.bool r) := by
  refine rts_of C_laws_eqVLeaseS (by kernel_rfl) ?_
  unfold Den T_laws_eqVLeaseS
  unfold m_laws_eqVLeaseS at h
  refine s_chk (by simp) ?_
  refine s_chk (by simp) ?_
  refine s_ite h (by simp) (fun e1 h => ?_) (fun e1 h => ?_)
  · exact s_ret (av := avB) h (by simp)
  · refine s_loop (fun s : Int => [.int .i64 s]) h (by simp) (fun W1 A1 v2 o1 h hn1 hf1 hk1 => ?_)
    replace h : m_laws_eqVLeaseS_b1 a0 a1 v2 = some o1 := h
    unfold m_laws_eqVLeaseS_b1 at h
    refine s_chk (by simp) ?_
    refine s_chk (by simp) ?_
    refine s_ite h (by simp) (fun e3 h => ?_) (fun e3 h => ?_)
    · obtain ⟨y4, hy4, h⟩ := bindE h
      have hy4' := (getIE hy4).2.2
      refine s_chk (fun _ => c_inb (kk := .i64) (f := avVLease) (by simp) (by simp) hy4 (by simp)) ?_
      obtain ⟨y5, hy5, h⟩ := bindE h
      have hy5' := (getIE hy5).2.2
      refine s_chk (fun _ => c_inb (kk := .i64) (f := avVLease) (by simp) (by simp) hy5 (by simp)) ?_
      refine s_call avB h (fun x hx => by simpa [e1, e3, hy4', hy5'] using R_laws_eqVLease y4 y5 x hx) (fun v6 cv6 h => ?_)
      refine s_chk (by simp) ?_
      refine s_ite h (by simp) (fun e7 h => ?_) (fun e7 h => ?_)
      · exact s_ret (av := avB) (hf1 _ h) (by simp)
      · refine s_chk (by simp) ?_
        exact s_jmp (K := fun s => some (Sum.inl s)) (s := (IntKind.i64.wrap (v2 + 1))) hn1 h rfl (by simp)
    · refine s_jmpI hk1 rfl (vs := []) (by simp) ?_
      replace h := (hf1 _ h)
      exact s_ret (av := avB) h (by simp)
def T_laws_eqRenew : Tr :=
  .chk [] (.agg (.var 0) 5) <|
  .chk [] (.agg (.var 1) 5) <|
  .chk [] (.dfd (.bin .neq (.fld (.var 0) 0 1 false) (.fld (.var 1) 0 1 false))) <|
  .ite (.bin .neq (.fld (.var 0) 0 1 false) (.fld (.var 1) 0 1 false)) (
   .ret (.bool false)) (
   .call [] (.inl 72) (.cons (.mk (.cons (.fld (.var 0) 1 1 false) .nil)) (.cons (.mk (.cons (.fld (.var 1) 1 1 false) .nil)) .nil)) <|
   .chk [] (.dfd (.not (.var 2))) <|
   .ite (.not (.var 2)) (
    .ret (.bool false)) (
    .call [] (.inl 73) (.cons (.fld (.var 0) 2 1 false) (.cons (.fld (.var 1) 2 1 false) .nil)) <|
    .chk [] (.dfd (.not (.var 3))) <|
    .ite (.not (.var 3)) (
     .ret (.bool false)) (
     .chk [] (.dfd (.bin .neq (.fld (.var 0) 3 1 false) (.fld (.var 1) 3 1 false))) <|
     .ite (.bin .neq (.fld (.var 0) 3 1 false) (.fld (.var 1) 3 1 false)) (
      .ret (.bool false)) (
      .call [] (.inl 74) (.cons (.fld (.var 0) 4 1 false) (.cons (.fld (.var 1) 4 1 false) .nil)) <|
      .chk [] (.dfd (.not (.var 4))) <|
      .ite (.not (.var 4)) (
       .ret (.bool false)) (
       .ret (.bool true))))))
theorem C_laws_eqRenew : comp Try.prog sgs 23 = some T_laws_eqRenew := by kernel_rfl
theorem R_laws_eqRenew (a0 : DRenew) (a1 : DRenew) (r : Bool) (h : m_laws_eqRenew a0 a1 = some r) : Rts Try.prog sgs 23 [avRenew a0, avRenew a1] (.bool r) := by
  refine rts_of C_laws_eqRenew (by kernel_rfl) ?_
  unfold Den T_laws_eqRenew
  unfold m_laws_eqRenew at h
  refine s_chk (by simp) ?_
  refine s_chk (by simp) ?_
  refine s_chk (by simp) ?_
  refine s_ite h (by simp) (fun e1 h => ?_) (fun e1 h => ?_)
  · exact s_ret (av := avB) h (by simp)
  · refine s_call avB h (fun x hx => by simpa using R_laws_eqClock a0.fMaster a1.fMaster x hx) (fun v2 cv2 h => ?_)
    refine s_chk (by simp) ?_
    refine s_ite h (by simp) (fun e3 h => ?_) (fun e3 h => ?_)
    · exact s_ret (av := avB) h (by simp)
    · refine s_call avB h (fun x hx => by simpa using R_laws_eqClockS a0.fClocks a1.fClocks x hx) (fun v4 cv4 h => ?_)
      refine s_chk (by simp) ?_
      refine s_ite h (by simp) (fun e5 h => ?_) (fun e5 h => ?_)
      · exact s_ret (av := avB) h (by simp)
      · refine s_chk (by simp) ?_
        refine s_ite h (by simp) (fun e6 h => ?_) (fun e6 h => ?_)
        · exact s_ret (av := avB) h (by simp)
        · refine s_call avB h (fun x hx => by simpa using R_laws_eqVLeaseS a0.fLeases a1.fLeases x hx) (fun v7 cv7 h => ?_)
          refine s_chk (by simp) ?_
          refine s_ite h (by simp) (fun e8 h => ?_) (fun e8 h => ?_)
          · exact s_ret (av := avB) h (by simp)
          · exact s_ret (av := avB) h (by simp)
def T_laws_markClockS : Tr :=
  .loop (.cons (.var 1) (.cons (.int .i64 (0)) (.cons (.var 0) .nil))) (
   .chk [] (.dfd (.len (.var 4))) <|
   .chk [] (.dfd (.bin .lss (.var 3) (.len (.var 4)))) <|
   .ite (.bin .lss (.var 3) (.len (.var 4))) (
    .chk [] (.inb (.var 3) (.var 4) 1) <|
    .chk [] (.flat (.var 2) 1 false) <|
    .chk [] (.flat (.fld (.idx (.var 4) (.var 3)) 0 1 false) 1 false) <|
    .chk [] (.dfd (.bin .add (.var 2) (.int .i64 (1)))) <|
    .chk [] (.dfd (.bin .add (.var 3) (.int .i64 (1)))) <|
    .jmp 0 (.cons (.bin .add (.var 2) (.int .i64 (1))) (.cons (.bin .add (.var 3) (.int .i64 (1))) (.cons (.set (.var 4) (.var 3) (.put (.idx (.var 4) (.var 3)) 0 (.var 2) true)) .nil)))) (
    .jmp 1 (.cons (.var 2) (.cons (.var 4) .nil)))) (
   .ret (.tup (.cons (.var 2) (.cons (.var 3) .nil))))
theorem C_laws_markClockS : comp Try.prog sgs 75 = some T_laws_markClockS := by kernel_rfl
theorem R_laws_markClockS (a0 : List DClock) (a1 : Int) (r : Int × List DClock) (h : m_laws_markClockS a0 a1 = some r) : Rts Try.prog sgs 75 [.sl (a0.map avClock), .int .i64 a1] (avTI64SClockZ2 r) := by
  refine rts_of C_laws_markClockS (by kernel_rfl) ?_
  unfold Den T_laws_markClockS
  unfold m_laws_markClockS at h
  refine s_loop (fun s : Int × Int × List DClock => [.int .i64 s.1, .int .i64 s.2.1, .sl (s.2.2.map avClock)]) h (by simp) (fun W1 A1 s o1 h hn1 hf1 hk1 => ?_)
  obtain ⟨v1, v2, v3⟩ := s
  replace h : m_laws_markClockS_b1 v1 v2 v3 = some o1 := h
  unfold m_laws_markClockS_b1 at h
  refine s_chk (by simp) ?_
  refine s_chk (by simp) ?_
  refine s_ite h (by simp) (fun e4 h => ?_) (fun e4 h => ?_)
  · obtain ⟨y5, hy5, h⟩ := bindE h
    have hy5' := (getIE hy5).2.2
    refine s_chk (fun _ => c_inb (kk := .i64) (f := avClock) (by simp) (by simp) hy5 (by simp)) ?_
    refine s_chk (by simp) ?_
    refine s_chk (by simp [e4, hy5']) ?_
    refine s_chk (by simp) ?_
    refine s_chk (by simp) ?_
    exact s_jmp (K := fun s => some (Sum.inl s)) (s := ((IntKind.i64.wrap (v1 + 1)), (IntKind.i64.wrap (v2 + 1)), (v3.set (v2).toNat { y5 with fOff := v1 }))) hn1 h rfl (by simp [e4, hy5'])
  · refine s_jmpI hk1 rfl (vs := [.int .i64 v1, .sl (v3.map avClock)]) (by simp) ?_
    replace h := (hf1 _ h)
    exact s_ret (av := avTI64SClockZ2) h (by simp)
def T_laws_markVLeaseS : Tr :=
  .loop (.cons (.var 1) (.cons (.int .i64 (0)) (.cons (.var 0) .nil))) (
   .chk [] (.dfd (.len (.var 4))) <|
   .chk [] (.dfd (.bin .lss (.var 3) (.len (.var 4)))) <|
   .ite (.bin .lss (.var 3) (.len (.var 4))) (
    .chk [] (.inb (.var 3) (.var 4) 2) <|
    .chk [] (.flat (.var 2) 1 false) <|
    .chk [] (.flat (.fld (.idx (.var 4) (.var 3)) 0 1 false) 1 false) <|
    .chk [] (.dfd (.bin .add (.var 2) (.int .i64 (1)))) <|
    .chk [] (.inb (.var 3) (.set (.var 4) (.var 3) (.put (.idx (.var 4) (.var 3)) 0 (.var 2) true)) 2) <|
    .chk [] (.flat (.bin .add (.var 2) (.int .i64 (1))) 1 false) <|
    .chk [] (.flat (.fld (.idx (.set (.var 4) (.var 3) (.put (.idx (.var 4) (.var 3)) 0 (.var 2) true)) (.var 3)) 1 1 false) 1 false) <|
    .chk [] (.dfd (.bin .add (.bin .add (.var 2) (.int .i64 (1))) (.int .i64 (1)))) <|
    .chk [] (.dfd (.bin .add (.var 3) (.int .i64 (1)))) <|
    .jmp 0 (.cons (.bin .add (.bin .add (.var 2) (.int .i64 (1))) (.int .i64 (1))) (.cons (.bin .add (.var 3) (.int .i64 (1))) (.cons (.set (.set (.var 4) (.var 3) (.put (.idx (.var 4) (.var 3)) 0 (.var 2) true)) (.var 3) (.put (.idx (.set (.var 4) (.var 3) (.put (.idx (.var 4) (.var 3)) 0 (.var 2) true)) (.var 3)) 1 (.bin .add (.var 2) (.int .i64 (1))) true)) .nil)))) (
    .jmp 1 (.cons (.var 2) (.cons (.var 4) .nil)))) (
   .ret (.tup (.cons (.var 2) (.cons (.var 3) .nil))))
theorem C_laws_markVLeaseS : comp Try.prog sgs 76 = some T_laws_markVLeaseS := by kernel_rfl
theorem R_laws_markVLeaseS (a0 : List DVLease) (a1 : Int) (r : Int × List DVLease) (h : m_laws_markVLeaseS a0 a1 = some r) : Rts Try.prog sgs 76 [.sl (a0.map avVLease), .int .i64 a1] (avTI64SVLeaseZ2 r) := by
  refine rts_of C_laws_markVLeaseS (by kernel_rfl) ?_
  unfold Den T_laws_markVLeaseS
  unfold m_laws_markVLeaseS at h
  refine s_loop (fun s : Int × Int × List DVLease => [.int .i64 s.1, .int .i64 s.2.1, .sl (s.2.2.map avVLease)]) h (by simp) (fun W1 A1 s o1 h hn1 hf1 hk1 => ?_)
  obtain ⟨v1, v2, v3⟩ := s
  replace h : m_laws_markVLeaseS_b1 v1 v2 v3 = some o1 := h
  unfold m_laws_markVLeaseS_b1 at h
  refine s_chk (by simp) ?_
  refine s_chk (by simp) ?_
  refine s_ite h (by simp) (fun e4 h => ?_) (fun e4 h => ?_)
  · obtain ⟨y5, hy5, h⟩ := bindE h
    have hy5' := (getIE hy5).2.2
    refine s_chk (fun _ => c_inb (kk := .i64) (f := avVLease) (by simp) (by simp) hy5 (by simp)) ?_
    refine s_chk (by simp) ?_
    refine s_chk (by simp [e4, hy5']) ?_
    refine s_chk (by simp) ?_
    refine s_chk (fun _ => c_inb (kk := .i64) (f := avVLease) (by simp) (by simp [e4, hy5']) (getI_set hy5 { y5 with fVer := v1 }) (by simp)) ?_
    refine s_chk (by simp) ?_
    refine s_chk (by simp [e4, hy5']) ?_
    refine s_chk (by simp) ?_
    refine s_chk (by simp) ?_
    exact s_jmp (K := fun s => some (Sum.inl s)) (s := ((IntKind.i64.wrap ((IntKind.i64.wrap (v1 + 1)) + 1)), (IntKind.i64.wrap (v2 + 1)), ((v3.set (v2).toNat { y5 with fVer := v1 }).set (v2).toNat { { y5 with fVer := v1 } with fUntil := (IntKind.i64.wrap (v1 + 1)) }))) hn1 h rfl (by simp [e4, hy5'])
  · refine s_jmpI hk1 rfl (vs := [.int .i64 v1, .sl (v3.map avVLease)]) (by simp) ?_
    replace h := (hf1 _ h)
    exact s_ret (av := avTI64SVLeaseZ2) h (by simp)
def T_laws_markRenew : Tr :=
  .call [] (.inl 75) (.cons (.fld (.var 0) 2 1 false) (.cons (.var 1) .nil)) <|
  .call [] (.inl 76) (.cons (.fld (.var 0) 4 1 false) (.cons (.proj (.var 2) 0) .nil)) <|
  .ret (.tup (.cons (.proj (.var 3) 0) (.cons (.mk (.cons (.fld (.var 0) 0 1 false) (.cons (.fld (.var 0) 1 1 false) (.cons (.proj (.var 2) 1) (.cons (.fld (.var 0) 3 1 false) (.cons (.proj (.var 3) 1) .nil)))))) .nil)))
theorem C_laws_markRenew : comp Try.prog sgs 24 = some T_laws_markRenew := by kernel_rfl
theorem R_laws_markRenew (a0 : DRenew) (a1 : Int) (r : Int × DRenew) (h : m_laws_markRenew a0 a1 = some r) : Rts Try.prog sgs 24 [avRenew a0, .int .i64 a1] (avTI64RenewZ2 r) := by
  refine rts_of C_laws_markRenew (by kernel_rfl) ?_
  unfold Den T_laws_markRenew
  unfold m_laws_markRenew at h
  refine s_call avTI64SClockZ2 h (fun x hx => by simpa using R_laws_markClockS a0.fClocks a1 x hx) (fun v1 cv1 h => ?_)
  refine s_call avTI64SVLeaseZ2 h (fun x hx => by simpa using R_laws_markVLeaseS a0.fLeases v1.1 x hx) (fun v2 cv2 h => ?_)
  exact s_ret (av := avTI64RenewZ2) h (by simp)
def T_laws_heldClockS : Tr :=
  .loop (.cons (.var 1) (.cons (.int .i64 (0)) .nil)) (
   .chk [] (.dfd (.len (.var 0))) <|
   .chk [] (.dfd (.bin .lss (.var 3) (.len (.var 0)))) <|
   .ite (.bin .lss (.var 3) (.len (.var 0))) (
    .chk [] (.inb (.var 3) (.var 0) 1) <|
    .chk [] (.dfd (.bin .neq (.fld (.idx (.var 0) (.var 3)) 0 1 false) (.var 2))) <|
    .ite (.bin .neq (.fld (.idx (.var 0) (.var 3)) 0 1 false) (.var 2)) (
     .ret (.int .i64 (-1))) (
     .chk [] (.dfd (.bin .add (.var 2) (.int .i64 (1)))) <|
     .chk [] (.dfd (.bin .add (.var 3) (.int .i64 (1)))) <|
     .jmp 0 (.cons (.bin .add (.var 2) (.int .i64 (1))) (.cons (.bin .add (.var 3) (.int .i64 (1))) .nil)))) (
    .jmp 1 (.cons (.var 2) .nil))) (
   .ret (.var 2))
theorem C_laws_heldClockS : comp Try.prog sgs 77 = some T_laws_heldClockS := by kernel_rfl
theorem R_laws_heldClockS (a0 : List DClock) (a1 : Int) (r : Int) (h : m_laws_heldClockS a0 a1 = some r) : Rts Try.prog sgs 77 [.sl (a0.map avClock), .int .i64 a1] (.int .i64 r) := by
  refine rts_of C_laws_heldClockS (by kernel_rfl) ?_
  unfold Den T_laws_heldClockS
  unfold m_laws_heldClockS at h
  refine s_loop (fun s : Int × Int => [.int .i64 s.1, .int .i64 s.2]) h (by simp) (fun W1 A1 s o1 h hn1 hf1 hk1 => ?_)
  obtain ⟨v1, v2⟩ := s
  replace h : m_laws_heldClockS_b1 a0 v1 v2 = some o1 := h
  unfold m_laws_heldClockS_b1 at h
  refine s_chk (by simp) ?_
  refine s_chk (by simp) ?_
  refine s_ite h (by simp) (fun e3 h => ?_) (fun e3 h => ?_)
  · obtain ⟨y4, hy4, h⟩ := bindE h
    have hy4' := (getIE hy4).2.2
    refine s_chk (fun _ => c_inb (kk := .i64) (f := avClock) (by simp) (by simp) hy4 (by simp)) ?_
    refine s_chk (by simp [e3, hy4']) ?_
    refine s_ite h (by simp [e3, hy4']) (fun e5 h => ?_) (fun e5 h => ?_)
    · exact s_ret (av := avI64) (hf1 _ h) (by simp)
    · refine s_chk (by simp) ?_
      refine s_chk (by simp) ?_
      exact s_jmp (K := fun s => some (Sum.inl s)) (s := ((IntKind.i64.wrap (v1 + 1)), (IntKind.i64.wrap (v2 + 1)))) hn1 h rfl (by simp)
  · refine s_jmpI hk1 rfl (vs := [.int .i64 v1]) (by simp) ?_
    replace h := (hf1 _ h)
    exact s_ret (av := avI64) h (by simp)
def T_laws_heldVLeaseS : Tr :=
  .loop (.cons (.var 1) (.cons (.int .i64 (0)) .nil)) (
   .chk [] (.dfd (.len (.var 0))) <|
   .chk [] (.dfd (.bin .lss (.var 3) (.len (.var 0)))) <|
   .ite (.bin .lss (.var 3) (.len (.var 0))) (
    .chk [] (.inb (.var 3) (.var 0) 2) <|
    .chk [] (.dfd (.bin .neq (.fld (.idx (.var 0) (.var 3)) 0 1 false) (.var 2))) <|
    .ite (.bin .neq (.fld (.idx (.var 0) (.var 3)) 0 1 false) (.var 2)) (
     .ret (.int .i64 (-1))) (
     .chk [] (.dfd (.bin .add (.var 2) (.int .i64 (1)))) <|
     .chk [] (.inb (.var 3) (.var 0) 2) <|
     .chk [] (.dfd (.bin .neq (.fld (.idx (.var 0) (.var 3)) 1 1 false) (.bin .add (.var 2) (.int .i64 (1))))) <|
     .ite (.bin .neq (.fld (.idx (.var 0) (.var 3)) 1 1 false) (.bin .add (.var 2) (.int .i64 (1)))) (
      .ret (.int .i64 (-1))) (
      .chk [] (.dfd (.bin .add (.bin .add (.var 2) (.int .i64 (1))) (.int .i64 (1)))) <|
      .chk [] (.dfd (.bin .add (.var 3) (.int .i64 (1)))) <|
      .jmp 0 (.cons (.bin .add (.bin .add (.var 2) (.int .i64 (1))) (.int .i64 (1))) (.cons (.bin .add (.var 3) (.int .i64 (1))) .nil))))) (
    .jmp 1 (.cons (.var 2) .nil))) (
   .ret (.var 2))
theorem C_laws_heldVLeaseS : comp Try.prog sgs 78 = some T_laws_heldVLeaseS := by kernel_rfl
theorem R_laws_heldVLeaseS (a0 : List DVLease) (a1 : Int) (r : Int) (h : m_laws_heldVLeaseS a0 a1 = some r) : Rts Try.prog sgs 78 [.sl (a0.map avVLease), .int .i64 a1] (.int .i64 r) := by
  refine rts_of C_laws_heldVLeaseS (by kernel_rfl) ?_
  unfold Den T_laws_heldVLeaseS
  unfold m_laws_heldVLeaseS at h
  refine s_loop (fun s : Int × Int => [.int .i64 s.1, .int .i64 s.2]) h (by simp) (fun W1 A1 s o1 h hn1 hf1 hk1 => ?_)
  obtain ⟨v1, v2⟩ := s
  replace h : m_laws_heldVLeaseS_b1 a0 v1 v2 = some o1 := h
  unfold m_laws_heldVLeaseS_b1 at h
  refine s_chk (by simp) ?_
  refine s_chk (by simp) ?_
  refine s_ite h (by simp) (fun e3 h => ?_) (fun e3 h => ?_)
  · obtain ⟨y4, hy4, h⟩ := bindE h
    have hy4' := (getIE hy4).2.2
    refine s_chk (fun _ => c_inb (kk := .i64) (f := avVLease) (by simp) (by simp) hy4 (by simp)) ?_
    refine s_chk (by simp [e3, hy4']) ?_
    refine s_ite h (by simp [e3, hy4']) (fun e5 h => ?_) (fun e5 h => ?_)
    · exact s_ret (av := avI64) (hf1 _ h) (by simp)
    · refine s_chk (by simp) ?_
      refine s_chk (fun _ => c_inb (kk := .i64) (f := avVLease) (by simp) (by simp) hy4 (by simp)) ?_
      refine s_chk (by simp [e3, hy4', e5]) ?_
      refine s_ite h (by simp [e3, hy4', e5]) (fun e6 h => ?_) (fun e6 h => ?_)
      · exact s_ret (av := avI64) (hf1 _ h) (by simp)
      · refine s_chk (by simp) ?_
        refine s_chk (by simp) ?_
        exact s_jmp (K := fun s => some (Sum.inl s)) (s := ((IntKind.i64.wrap ((IntKind.i64.wrap (v1 + 1)) + 1)), (IntKind.i64.wrap (v2 + 1)))) hn1 h rfl (by simp)
  · refine s_jmpI hk1 rfl (vs := [.int .i64 v1]) (by simp) ?_
    replace h := (hf1 _ h)
    exact s_ret (av := avI64) h (by simp)
def T_laws_heldRenew : Tr :=
  .chk [] (.agg (.var 0) 5) <|
  .call [] (.inl 77) (.cons (.fld (.var 0) 2 1 false) (.cons (.var 1) .nil)) <|
  .chk [] (.dfd (.bin .lss (.var 2) (.int .i64 (0)))) <|
  .ite (.bin .lss (.var 2) (.int .i64 (0))) (
   .ret (.int .i64 (-1))) (
   .call [] (.inl 78) (.cons (.fld (.var 0) 4 1 false) (.cons (.var 2) .nil)) <|
   .chk [] (.dfd (.bin .lss (.var 3) (.int .i64 (0)))) <|
   .ite (.bin .lss (.var 3) (.int .i64 (0))) (
    .ret (.int .i64 (-1))) (
    .ret (.var 3)))
theorem C_laws_heldRenew : comp Try.prog sgs 25 = some T_laws_heldRenew := by kernel_rfl
theorem R_laws_heldRenew (a0 : DRenew) (a1 : Int) (r : Int) (h : m_laws_heldRenew a0 a1 = some r) : Rts Try.prog sgs 25 [avRenew a0, .int .i64 a1] (.int .i64 r) := by
  refine rts_of C_laws_heldRenew (by kernel_rfl) ?_
  unfold Den T_laws_heldRenew
  unfold m_laws_heldRenew at h
  refine s_chk (by simp) ?_
  refine s_call avI64 h (fun x hx => by simpa using R_laws_heldClockS a0.fClocks a1 x hx) (fun v1 cv1 h => ?_)
  refine s_chk (by simp) ?_
  refine s_ite h (by simp) (fun e2 h => ?_) (fun e2 h => ?_)
  · exact s_ret (av := avI64) h (by simp)
  · refine s_call avI64 h (fun x hx => by simpa using R_laws_heldVLeaseS a0.fLeases v1 x hx) (fun v3 cv3 h => ?_)
    refine s_chk (by simp) ?_
    refine s_ite h (by simp) (fun e4 h => ?_) (fun e4 h => ?_)
    · exact s_ret (av := avI64) h (by simp)
    · exact s_ret (av := avI64) h (by simp)
def T_laws_FnExactStepRenew : Tr :=
  .chk [] (.agg (.var 0) 5) <|
  .chk [] (.agg (.var 1) 3) <|
  .call [] (.inl 20) (.cons (.mk (.cons (.fld (.var 0) 0 1 false) (.cons (.fld (.var 0) 1 1 false) (.cons (.fld (.var 0) 2 1 false) (.cons (.fld (.var 0) 3 1 false) (.cons (.fld (.var 0) 4 1 false) .nil)))))) (.cons (.int .i64 (1048576)) .nil)) <|
  .chk [] (.dfd (.bin .lss (.var 2) (.int .i64 (0)))) <|
  .ite (.bin .lss (.var 2) (.int .i64 (0))) (
   .ret (.bool true)) (
   .call [] (.inl 21) (.cons (.mk (.cons (.fld (.var 0) 0 1 false) (.cons (.fld (.var 0) 1 1 false) (.cons (.fld (.var 0) 2 1 false) (.cons (.fld (.var 0) 3 1 false) (.cons (.fld (.var 0) 4 1 false) .nil)))))) .nil) <|
   .call [] (.inl 22) (.cons (.mk (.cons (.fld (.var 1) 0 1 false) (.cons (.fld (.var 1) 1 1 false) (.cons (.fld (.var 1) 2 1 false) .nil)))) .nil) <|
   .call [] (.inl 9) (.cons (.mk (.cons (.fld (.var 3) 0 1 false) (.cons (.fld (.var 3) 1 1 false) (.cons (.fld (.var 3) 2 1 false) (.cons (.fld (.var 3) 3 1 false) (.cons (.fld (.var 3) 4 1 false) .nil)))))) (.cons (.var 4) .nil)) <|
   .call [] (.inl 21) (.cons (.mk (.cons (.fld (.var 0) 0 1 false) (.cons (.fld (.var 0) 1 1 false) (.cons (.fld (.var 0) 2 1 false) (.cons (.fld (.var 0) 3 1 false) (.cons (.fld (.var 0) 4 1 false) .nil)))))) .nil) <|
   .call [] (.inl 22) (.cons (.mk (.cons (.fld (.var 1) 0 1 false) (.cons (.fld (.var 1) 1 1 false) (.cons (.fld (.var 1) 2 1 false) .nil)))) .nil) <|
   .call [] (.inl 8) (.cons (.mk (.cons (.fld (.var 6) 0 1 false) (.cons (.fld (.var 6) 1 1 false) (.cons (.fld (.var 6) 2 1 false) (.cons (.fld (.var 6) 3 1 false) (.cons (.fld (.var 6) 4 1 false) .nil)))))) (.cons (.var 7) .nil)) <|
   .call [] (.inl 23) (.cons (.mk (.cons (.fld (.proj (.var 8) 0) 0 1 false) (.cons (.fld (.proj (.var 8) 0) 1 1 false) (.cons (.fld (.proj (.var 8) 0) 2 1 false) (.cons (.fld (.proj (.var 8) 0) 3 1 false) (.cons (.fld (.proj (.var 8) 0) 4 1 false) .nil)))))) (.cons (.mk (.cons (.fld (.proj (.var 5) 0) 0 1 false) (.cons (.fld (.proj (.var 5) 0) 1 1 false) (.cons (.fld (.proj (.var 5) 0) 2 1 false) (.cons (.fld (.proj (.var 5) 0) 3 1 false) (.cons (.fld (.proj (.var 5) 0) 4 1 false) .nil)))))) .nil)) <|
   .chk [] (.dfd (.not (.var 9))) <|
   .chk [((.not (.var 9)), false)] (.dfd (.bbin .neq (.proj (.var 8) 1) (.proj (.var 5) 1))) <|
   .chk [] (.dfd (.not (.not (.var 9)))) <|
   .chk [((.ite (.not (.var 9)) (.bool true) (.bbin .neq (.proj (.var 8) 1) (.proj (.var 5) 1))), false)] (.dfd (.bbin .neq (.proj (.var 8) 2) (.proj (.var 5) 2))) <|
   .chk [] (.dfd (.not (.ite (.not (.var 9)) (.bool true) (.bbin .neq (.proj (.var 8) 1) (.proj (.var 5) 1))))) <|
   .ite (.ite (.ite (.not (.var 9)) (.bool true) (.bbin .neq (.proj (.var 8) 1) (.proj (.var 5) 1))) (.bool true) (.bbin .neq (.proj (.var 8) 2) (.proj (.var 5) 2))) (
    .ret (.bool false)) (
    .call [] (.inl 21) (.cons (.mk (.cons (.fld (.var 0) 0 1 false) (.cons (.fld (.var 0) 1 1 false) (.cons (.fld (.var 0) 2 1 false) (.cons (.fld (.var 0) 3 1 false) (.cons (.fld (.var 0) 4 1 false) .nil)))))) .nil) <|
    .call [] (.inl 23) (.cons (.mk (.cons (.fld (.var 6) 0 1 false) (.cons (.fld (.var 6) 1 1 false) (.cons (.fld (.var 6) 2 1 false) (.cons (.fld (.var 6) 3 1 false) (.cons (.fld (.var 6) 4 1 false) .nil)))))) (.cons (.mk (.cons (.fld (.var 10) 0 1 false) (.cons (.fld (.var 10) 1 1 false) (.cons (.fld (.var 10) 2 1 false) (.cons (.fld (.var 10) 3 1 false) (.cons (.fld (.var 10) 4 1 false) .nil)))))) .nil)) <|
    .chk [] (.dfd (.not (.var 11))) <|
    .ite (.not (.var 11)) (
     .ret (.bool false)) (
     .call [] (.inl 24) (.cons (.mk (.cons (.fld (.var 6) 0 1 false) (.cons (.fld (.var 6) 1 1 false) (.cons (.fld (.var 6) 2 1 false) (.cons (.fld (.var 6) 3 1 false) (.cons (.fld (.var 6) 4 1 false) .nil)))))) (.cons (.int .i64 (1)) .nil)) <|
     .chk [] (.dfd (.bin .lss (.proj (.var 12) 0) (.int .i64 (0)))) <|
     .call [((.bin .lss (.proj (.var 12) 0) (.int .i64 (0))), false)] (.inl 23) (.cons (.mk (.cons (.fld (.proj (.var 8) 0) 0 1 false) (.cons (.fld (.proj (.var 8) 0) 1 1 false) (.cons (.fld (.proj (.var 8) 0) 2 1 false) (.cons (.fld (.proj (.var 8) 0) 3 1 false) (.cons (.fld (.proj (.var 8) 0) 4 1 false) .nil)))))) (.cons (.mk (.cons (.fld (.proj (.var 5) 0) 0 1 false) (.cons (.fld (.proj (.var 5) 0) 1 1 false) (.cons (.fld (.proj (.var 5) 0) 2 1 false) (.cons (.fld (.proj (.var 5) 0) 3 1 false) (.cons (.fld (.proj (.var 5) 0) 4 1 false) .nil)))))) .nil)) <|
     .chk [((.bin .lss (.proj (.var 12) 0) (.int .i64 (0))), false)] (.dfd (.not (.var 13))) <|
     .chk [] (.dfd (.not (.bin .lss (.proj (.var 12) 0) (.int .i64 (0))))) <|
     .chk [((.ite (.bin .lss (.proj (.var 12) 0) (.int .i64 (0))) (.bool true) (.not (.var 13))), false)] (.dfd (.bbin .neq (.proj (.var 8) 1) (.proj (.var 5) 1))) <|
     .chk [] (.dfd (.not (.ite (.bin .lss (.proj (.var 12) 0) (.int .i64 (0))) (.bool true) (.not (.var 13))))) <|
     .chk [((.ite (.ite (.bin .lss (.proj (.var 12) 0) (.int .i64 (0))) (.bool true) (.not (.var 13))) (.bool true) (.bbin .neq (.proj (.var 8) 1) (.proj (.var 5) 1))), false)] (.dfd (.bbin .neq (.proj (.var 8) 2) (.proj (.var 5) 2))) <|
     .chk [] (.dfd (.not (.ite (.ite (.bin .lss (.proj (.var 12) 0) (.int .i64 (0))) (.bool true) (.not (.var 13))) (.bool true) (.bbin .neq (.proj (.var 8) 1) (.proj (.var 5) 1))))) <|
     .ite (.ite (.ite (.ite (.bin .lss (.proj (.var 12) 0) (.int .i64 (0))) (.bool true) (.not (.var 13))) (.bool true) (.bbin .neq (.proj (.var 8) 1) (.proj (.var 5) 1))) (.bool true) (.bbin .neq (.proj (.var 8) 2) (.proj (.var 5) 2))) (
      .ret (.bool false)) (
      .call [] (.inl 24) (.cons (.mk (.cons (.fld (.proj (.var 8) 0) 0 1 false) (.cons (.fld (.proj (.var 8) 0) 1 1 false) (.cons (.fld (.proj (.var 8) 0) 2 1 false) (.cons (.fld (.proj (.var 8) 0) 3 1 false) (.cons (.fld (.proj (.var 8) 0) 4 1 false) .nil)))))) (.cons (.int .i64 (1)) .nil)) <|
      .call [] (.inl 25) (.cons (.mk (.cons (.fld (.proj (.var 8) 0) 0 1 false) (.cons (.fld (.proj (.var 8) 0) 1 1 false) (.cons (.fld (.proj (.var 14) 1) 2 1 false) (.cons (.fld (.proj (.var 8) 0) 3 1 false) (.cons (.fld (.proj (.var 14) 1) 4 1 false) .nil)))))) (.cons (.int .i64 (1)) .nil)) <|
      .chk [] (.dfd (.bin .lss (.var 15) (.int .i64 (0)))) <|
      .ite (.bin .lss (.var 15) (.int .i64 (0))) (
       .ret (.bool false)) (
       .chk [] (.dfd (.bin .neq (.var 15) (.proj (.var 14) 0))) <|
       .ite (.bin .neq (.var 15) (.proj (.var 14) 0)) (
        .ret (.bool false)) (
        .call [] (.inl 21) (.cons (.mk (.cons (.fld (.var 0) 0 1 false) (.cons (.fld (.var 0) 1 1 false) (.cons (.fld (.var 0) 2 1 false) (.cons (.fld (.var 0) 3 1 false) (.cons (.fld (.var 0) 4 1 false) .nil)))))) .nil) <|
        .call [] (.inl 22) (.cons (.mk (.cons (.fld (.var 1) 0 1 false) (.cons (.fld (.var 1) 1 1 false) (.cons (.fld (.var 1) 2 1 false) .nil)))) .nil) <|
        .call [] (.inl 8) (.cons (.mk (.cons (.fld (.var 16) 0 1 false) (.cons (.fld (.var 16) 1 1 false) (.cons (.fld (.var 16) 2 1 false) (.cons (.fld (.var 16) 3 1 false) (.cons (.fld (.var 16) 4 1 false) .nil)))))) (.cons (.var 17) .nil)) <|
        .call [] (.inl 23) (.cons (.mk (.cons (.fld (.proj (.var 18) 0) 0 1 false) (.cons (.fld (.proj (.var 18) 0) 1 1 false) (.cons (.fld (.proj (.var 18) 0) 2 1 false) (.cons (.fld (.proj (.var 18) 0) 3 1 false) (.cons (.fld (.proj (.var 18) 0) 4 1 false) .nil)))))) (.cons (.mk (.cons (.fld (.proj (.var 5) 0) 0 1 false) (.cons (.fld (.proj (.var 5) 0) 1 1 false) (.cons (.fld (.proj (.var 5) 0) 2 1 false) (.cons (.fld (.proj (.var 5) 0) 3 1 false) (.cons (.fld (.proj (.var 5) 0) 4 1 false) .nil)))))) .nil)) <|
        .chk [] (.dfd (.not (.var 19))) <|
        .chk [((.not (.var 19)), false)] (.dfd (.bbin .neq (.proj (.var 18) 1) (.proj (.var 5) 1))) <|
        .chk [] (.dfd (.not (.not (.var 19)))) <|
        .chk [((.ite (.not (.var 19)) (.bool true) (.bbin .neq (.proj (.var 18) 1) (.proj (.var 5) 1))), false)] (.dfd (.bbin .neq (.proj (.var 18) 2) (.proj (.var 5) 2))) <|
        .chk [] (.dfd (.not (.ite (.not (.var 19)) (.bool true) (.bbin .neq (.proj (.var 18) 1) (.proj (.var 5) 1))))) <|
        .ite (.ite (.ite (.not (.var 19)) (.bool true) (.bbin .neq (.proj (.var 18) 1) (.proj (.var 5) 1))) (.bool true) (.bbin .neq (.proj (.var 18) 2) (.proj (.var 5) 2))) (
         .ret (.bool false)) (
         .call [] (.inl 25) (.cons (.mk (.cons (.fld (.proj (.var 8) 0) 0 1 false) (.cons (.fld (.proj (.var 8) 0) 1 1 false) (.cons (.fld (.proj (.var 14) 1) 2 1 false) (.cons (.fld (.proj (.var 8) 0) 3 1 false) (.cons (.fld (.proj (.var 14) 1) 4 1 false) .nil)))))) (.cons (.int .i64 (1)) .nil)) <|
         .chk [] (.dfd (.bin .lss (.var 20) (.int .i64 (0)))) <|
         .ite (.bin .lss (.var 20) (.int .i64 (0))) (
          .ret (.bool false)) (
          .chk [] (.dfd (.bin .neq (.var 20) (.proj (.var 14) 0))) <|
          .ite (.bin .neq (.var 20) (.proj (.var 14) 0)) (
           .ret (.bool false)) (
           .ret (.bool true))))))))))
theorem C_laws_FnExactStepRenew : comp Try.prog sgs 4 = some T_laws_FnExactStepRenew := by kernel_rfl
theorem R_laws_FnExactStepRenew (a0 : DRenew) (a1 : DRenewAct) (r : Bool) (h : m_laws_FnExactStepRenew a0 a1 = some r) : Rts Try.prog sgs 4 [avRenew a0, avRenewAct a1] (.bool r) := by
  refine rts_of C_laws_FnExactStepRenew (by kernel_rfl) ?_
  unfold Den T_laws_FnExactStepRenew
  unfold m_laws_FnExactStepRenew at h
  refine s_chk (by simp) ?_
  refine s_chk (by simp) ?_
  refine s_call avI64 h (fun x hx => by simpa using R_laws_szRenew a0 1048576 x hx) (fun v1 cv1 h => ?_)
  refine s_chk (by simp) ?_
  refine s_ite h (by simp) (fun e2 h => ?_) (fun e2 h => ?_)
  · exact s_ret (av := avB) h (by simp)
  · refine s_call avRenew h (fun x hx => by simpa using R_laws_toRenew a0 x hx) (fun v3 cv3 h => ?_)
    refine s_call avRenewAct h (fun x hx => by simpa using R_laws_toRenewAct a1 x hx) (fun v4 cv4 h => ?_)
    refine s_call avTRenewBBZ3 h (fun x hx => by simpa using R_spec_StepRenew v3 v4 x hx) (fun v5 cv5 h => ?_)
    refine s_call avRenew h (fun x hx => by simpa using R_laws_toRenew a0 x hx) (fun v6 cv6 h => ?_)
    refine s_call avRenewAct h (fun x hx => by simpa using R_laws_toRenewAct a1 x hx) (fun v7 cv7 h => ?_)
    refine s_call avTRenewBBZ3 h (fun x hx => by simpa using R_impl_StepRenew v6 v7 x hx) (fun v8 cv8 h => ?_)
    refine s_call avB h (fun x hx => by simpa using R_laws_eqRenew v8.1 v5.1 x hx) (fun v9 cv9 h => ?_)
    refine s_chk (by simp) ?_
    refine s_chk (by simp) ?_
    refine s_chk (by simp) ?_
    refine s_chk (by simp) ?_
    refine s_chk (by simp [e2]) ?_
    refine s_ite h (by simp [e2]) (fun e10 h => ?_) (fun e10 h => ?_)
    · exact s_ret (av := avB) h (by simp)
    · refine s_call avRenew h (fun x hx => by simpa using R_laws_toRenew a0 x hx) (fun v11 cv11 h => ?_)
      refine s_call avB h (fun x hx => by simpa using R_laws_eqRenew v6 v11 x hx) (fun v12 cv12 h => ?_)
      refine s_chk (by simp) ?_
      refine s_ite h (by simp) (fun e13 h => ?_) (fun e13 h => ?_)
      · exact s_ret (av := avB) h (by simp)
      · refine s_call avTI64RenewZ2 h (fun x hx => by simpa using R_laws_markRenew v6 1 x hx) (fun v14 cv14 h => ?_)
        refine s_chk (by simp) ?_
        refine s_split h (fun e15 h => ?_) (fun e15 h => ?_)
        · refine s_skip (by simp [e2, e10, e13, e15]) ?_
          refine s_chk (by simp [e2, e10, e13, e15]) ?_
          refine s_chk (by simp) ?_
          refine s_chk (by simp [e2, e10, e13, e15]) ?_
          refine s_chk (by simp [e2, e10, e13, e15]) ?_
          refine s_chk (by simp [e2, e10, e13, e15]) ?_
          refine s_chk (by simp [e2, e10, e13, e15]) ?_
          refine s_iteT (by simp [e2, e10, e13, e15]) ?_
          exact s_ret (av := avB) h (by simp)
        · refine s_call avB h (fun x hx => by simpa using R_laws_eqRenew v8.1 v5.1 x hx) (fun v16 cv16 h => ?_)
          refine s_chk (by simp) ?_
          refine s_chk (by simp) ?_
          refine s_chk (by simp) ?_
          refine s_chk (by simp [e2, e10, e13, e15]) ?_
          refine s_chk (by simp) ?_
          refine s_chk (by simp [e2, e10, e13, e15]) ?_
          refine s_ite h (by simp [e2, e10, e13, e15]) (fun e17 h => ?_) (fun e17 h => ?_)
          · exact s_ret (av := avB) h (by simp)
          · refine s_call avTI64RenewZ2 h (fun x hx => by simpa using R_laws_markRenew v8.1 1 x hx) (fun v18 cv18 h => ?_)
            refine s_call avI64 h (fun x hx => by simpa using R_laws_heldRenew (⟨v8.1.fNow, v8.1.fMaster, v18.2.fClocks, v8.1.fVer, v18.2.fLeases⟩ : DRenew) 1 x hx) (fun v19 cv19 h => ?_)
            refine s_chk (by simp) ?_
            refine s_ite h (by simp) (fun e20 h => ?_) (fun e20 h => ?_)
            · exact s_ret (av := avB) h (by simp)
            · refine s_chk (by simp) ?_
              refine s_ite h (by simp) (fun e21 h => ?_) (fun e21 h => ?_)
              · exact s_ret (av := avB) h (by simp)
              · refine s_call avRenew h (fun x hx => by simpa using R_laws_toRenew a0 x hx) (fun v22 cv22 h => ?_)
                refine s_call avRenewAct h (fun x hx => by simpa using R_laws_toRenewAct a1 x hx) (fun v23 cv23 h => ?_)
                refine s_call avTRenewBBZ3 h (fun x hx => by simpa using R_impl_StepRenew v22 v23 x hx) (fun v24 cv24 h => ?_)
                refine s_call avB h (fun x hx => by simpa using R_laws_eqRenew v24.1 v5.1 x hx) (fun v25 cv25 h => ?_)
                refine s_chk (by simp) ?_
                refine s_chk (by simp) ?_
                refine s_chk (by simp) ?_
                refine s_chk (by simp) ?_
                refine s_chk (by simp [e2, e10, e13, e15, e17, e20, e21]) ?_
                refine s_ite h (by simp [e2, e10, e13, e15, e17, e20, e21]) (fun e26 h => ?_) (fun e26 h => ?_)
                · exact s_ret (av := avB) h (by simp)
                · refine s_call avI64 h (fun x hx => by simpa using R_laws_heldRenew (⟨v8.1.fNow, v8.1.fMaster, v18.2.fClocks, v8.1.fVer, v18.2.fLeases⟩ : DRenew) 1 x hx) (fun v27 cv27 h => ?_)
                  refine s_chk (by simp) ?_
                  refine s_ite h (by simp) (fun e28 h => ?_) (fun e28 h => ?_)
                  · exact s_ret (av := avB) h (by simp)
                  · refine s_chk (by simp) ?_
                    refine s_ite h (by simp) (fun e29 h => ?_) (fun e29 h => ?_)
                    · exact s_ret (av := avB) h (by simp)
                    · exact s_ret (av := avB) h (by simp)
def T_spec_DrawPlayRenew : Tr :=
  .chk [] (.cells (.var 0) 1) <|
  .call [] (.inl 79) (.cons (.ref (.mk (.cons (.var 0) (.cons (.int .i64 (0)) (.cons (.int .u64 (0)) .nil))))) .nil) <|
  .join (
   .call [] (.inl 80) (.cons (.ref (.mk (.cons (.fld (.proj (.var 1) 1) 0 1 false) (.cons (.fld (.proj (.var 1) 1) 1 1 false) (.cons (.fld (.proj (.var 1) 1) 2 1 false) .nil))))) (.cons (.int .i64 (12)) .nil)) <|
   .ite (.proj (.var 2) 0) (
    .call [] (.inl 42) (.cons (.ref (.mk (.cons (.fld (.proj (.var 2) 1) 0 1 false) (.cons (.fld (.proj (.var 2) 1) 1 1 false) (.cons (.fld (.proj (.var 2) 1) 2 1 false) .nil))))) .nil) <|
    .jmp 0 (.cons (.fld (.proj (.var 3) 1) 0 1 false) (.cons (.fld (.proj (.var 3) 1) 1 1 false) (.cons (.fld (.proj (.var 3) 1) 2 1 false) (.cons (.fld (.proj (.var 3) 0) 0 1 false) (.cons (.fld (.proj (.var 3) 0) 1 1 false) (.cons (.fld (.proj (.var 3) 0) 3 1 false) (.cons (.fld (.proj (.var 3) 0) 2 1 false) (.cons (.fld (.proj (.var 3) 0) 4 1 false) .nil))))))))) (
    .jmp 0 (.cons (.fld (.proj (.var 2) 1) 0 1 false) (.cons (.fld (.proj (.var 2) 1) 1 1 false) (.cons (.fld (.proj (.var 2) 1) 2 1 false) (.cons (.fld (.proj (.var 1) 0) 0 1 false) (.cons (.fld (.proj (.var 1) 0) 1 1 false) (.cons (.fld (.proj (.var 1) 0) 3 1 false) (.cons (.fld (.proj (.var 1) 0) 2 1 false) (.cons (.fld (.proj (.var 1) 0) 4 1 false) .nil)))))))))) (
   .call [] (.inl 81) (.cons (.ref (.mk (.cons (.var 2) (.cons (.var 3) (.cons (.var 4) .nil))))) (.cons (.mk (.cons (.var 5) (.cons (.var 6) (.cons (.var 8) (.cons (.var 7) (.cons (.var 9) .nil)))))) (.cons (.int .i64 (40)) .nil))) <|
   .join (
    .call [] (.inl 80) (.cons (.ref (.mk (.cons (.fld (.proj (.var 10) 1) 0 1 false) (.cons (.fld (.proj (.var 10) 1) 1 1 false) (.cons (.fld (.proj (.var 10) 1) 2 1 false) .nil))))) (.cons (.int .i64 (8)) .nil)) <|
    .ite (.proj (.var 11) 0) (
     .call [] (.inl 44) (.cons (.ref (.mk (.cons (.fld (.proj (.var 11) 1) 0 1 false) (.cons (.fld (.proj (.var 11) 1) 1 1 false) (.cons (.fld (.proj (.var 11) 1) 2 1 false) .nil))))) (.cons (.int .i64 (6)) .nil)) <|
     .call [] (.inl 44) (.cons (.ref (.mk (.cons (.fld (.proj (.var 12) 1) 0 1 false) (.cons (.fld (.proj (.var 12) 1) 1 1 false) (.cons (.fld (.proj (.var 12) 1) 2 1 false) .nil))))) (.cons (.int .i64 (5)) .nil)) <|
     .chk [] (.dfd (.bin .sub (.proj (.var 13) 0) (.int .i64 (1)))) <|
     .call [] (.inl 44) (.cons (.ref (.mk (.cons (.fld (.proj (.var 13) 1) 0 1 false) (.cons (.fld (.proj (.var 13) 1) 1 1 false) (.cons (.fld (.proj (.var 13) 1) 2 1 false) .nil))))) (.cons (.int .i64 (5)) .nil)) <|
     .chk [] (.cells (.proj (.var 12) 0) 1) <|
     .chk [] (.cells (.bin .sub (.proj (.var 13) 0) (.int .i64 (1))) 1) <|
     .chk [] (.cells (.proj (.var 14) 0) 1) <|
     .chk [] (.flat (.mk (.cons (.proj (.var 12) 0) (.cons (.bin .sub (.proj (.var 13) 0) (.int .i64 (1))) (.cons (.proj (.var 14) 0) .nil)))) 3 true) <|
     .chk [] (.room (.proj (.var 10) 0) (.lst (.cons (.mk (.cons (.proj (.var 12) 0) (.cons (.bin .sub (.proj (.var 13) 0) (.int .i64 (1))) (.cons (.proj (.var 14) 0) .nil)))) .nil)) 24) <|
     .chk [] (.flatS (.lst (.cons (.mk (.cons (.proj (.var 12) 0) (.cons (.bin .sub (.proj (.var 13) 0) (.int .i64 (1))) (.cons (.proj (.var 14) 0) .nil)))) .nil)) 3) <|
     .jmp 0 (.cons (.app (.proj (.var 10) 0) (.lst (.cons (.mk (.cons (.proj (.var 12) 0) (.cons (.bin .sub (.proj (.var 13) 0) (.int .i64 (1))) (.cons (.proj (.var 14) 0) .nil)))) .nil))) .nil)) (
     .jmp 0 (.cons (.proj (.var 10) 0) .nil))) (
    .ret (.tup (.cons (.mk (.cons (.var 5) (.cons (.var 6) (.cons (.var 8) (.cons (.var 7) (.cons (.var 9) .nil)))))) (.cons (.var 11) .nil)))))
theorem C_spec_DrawPlayRenew : comp Try.prog sgs 26 = some T_spec_DrawPlayRenew := by kernel_rfl
theorem R_spec_DrawPlayRenew (a0 : List Int) (r : DRenew × List DRenewAct) (h : m_spec_DrawPlayRenew a0 = some r) : Rts Try.prog sgs 26 [.sl (a0.map avU8)] (avTRenewSRenewActZ2 r) := by
  refine rts_of C_spec_DrawPlayRenew (by kernel_rfl) ?_
  unfold Den T_spec_DrawPlayRenew
  unfold m_spec_DrawPlayRenew at h
  refine s_chk (by simp) ?_
  refine s_call avTRenewL1CurZ2 h (fun x hx => by simpa using R___spec_l1Cur__renew (⟨a0, 0, 0⟩ : DL1Cur) x hx) (fun v1 cv1 h => ?_)
  refine s_join (emb := (fun s : List Int × Int × Int × Int × Int × Int × List DClock × List DVLease => [.sl (s.1.map avU8), .int .i64 s.2.1, .int .u64 s.2.2.1, .int .i64 s.2.2.2.1, .int .i64 s.2.2.2.2.1, .int .i64 s.2.2.2.2.2.1, .sl (s.2.2.2.2.2.2.1.map avClock), .sl (s.2.2.2.2.2.2.2.map avVLease)])) (K := (fun s => m_spec_DrawPlayRenew_j1 s.1 s.2.1 s.2.2.1 s.2.2.2.1 s.2.2.2.2.1 s.2.2.2.2.2.1 s.2.2.2.2.2.2.1 s.2.2.2.2.2.2.2)) (r := r) (fun s h => ?_) (fun j2 hj2 => ?_)
  · obtain ⟨v3, v4, v5, v6, v7, v8, v9, v10⟩ := s
    replace h : m_spec_DrawPlayRenew_j1 v3 v4 v5 v6 v7 v8 v9 v10 = some r := h
    unfold m_spec_DrawPlayRenew_j1 at h
    refine s_call avTSRenewActL1CurZ2 h (fun x hx => by simpa using R___spec_l1Cur__renewActs (⟨v3, v4, v5⟩ : DL1Cur) (⟨v6, (⟨v7⟩ : DClock), v9, v8, v10⟩ : DRenew) 40 x hx) (fun v11 cv11 h => ?_)
    refine s_joinI fun j12 hj12 => ?_
    refine s_call avTBL1CurZ2 h (fun x hx => by simpa using R___spec_l1Cur__one v11.2 8 x hx) (fun v13 cv13 h => ?_)
    refine s_ite h (by simp) (fun e14 h => ?_) (fun e14 h => ?_)
    · refine s_call avTI64L1CurZ2 h (fun x hx => by simpa using R___spec_l1Cur__pick v13.2 6 x hx) (fun v15 cv15 h => ?_)
      refine s_call avTI64L1CurZ2 h (fun x hx => by simpa using R___spec_l1Cur__pick v15.2 5 x hx) (fun v16 cv16 h => ?_)
      refine s_chk (by simp) ?_
      refine s_call avTI64L1CurZ2 h (fun x hx => by simpa using R___spec_l1Cur__pick v16.2 5 x hx) (fun v17 cv17 h => ?_)
      refine s_chk (by simp) ?_
      refine s_chk (by simp) ?_
      refine s_chk (by simp) ?_
      refine s_chk (by simp) ?_
      obtain ⟨q18, h⟩ := reqE h
      refine s_chk (fun _ => c_room (show _ = AV.sl (List.map avRenewAct v11.1) from by simp) (show _ = AV.sl (List.map avRenewAct ([(⟨v15.1, (IntKind.i64.wrap (v16.1 - 1)), v17.1⟩ : DRenewAct)] : List DRenewAct)) from by simp) (by simpa using q18)) ?_
      refine s_chk (fun _ => c_flatS avRenewAct (show _ = AV.sl (List.map avRenewAct ([(⟨v15.1, (IntKind.i64.wrap (v16.1 - 1)), v17.1⟩ : DRenewAct)] : List DRenewAct)) from by simp) (by simp)) ?_
      refine s_jmpI hj12 rfl (vs := [.sl ((v11.1 ++ [(⟨v15.1, (IntKind.i64.wrap (v16.1 - 1)), v17.1⟩ : DRenewAct)]).map avRenewAct)]) (by simp) ?_
      exact s_ret (av := avTRenewSRenewActZ2) h (by simp)
    · refine s_jmpI hj12 rfl (vs := [.sl (v11.1.map avRenewAct)]) (by simp) ?_
      exact s_ret (av := avTRenewSRenewActZ2) h (by simp)
  · refine s_call avTBL1CurZ2 h (fun x hx => by simpa using R___spec_l1Cur__one v1.2 12 x hx) (fun v19 cv19 h => ?_)
    refine s_ite h (by simp) (fun e20 h => ?_) (fun e20 h => ?_)
    · refine s_call avTRenewL1CurZ2 h (fun x hx => by simpa using R___spec_l1Cur__bentRenew v19.2 x hx) (fun v21 cv21 h => ?_)
      exact s_jmp (s := (v21.2.fcode, v21.2.fat, v21.2.fseed, v21.1.fNow, v21.1.fMaster.fOff, v21.1.fVer, v21.1.fClocks, v21.1.fLeases)) hj2 h rfl (by simp)
    · exact s_jmp (s := (v19.2.fcode, v19.2.fat, v19.2.fseed, v1.1.fNow, v1.1.fMaster.fOff, v1.1.fVer, v1.1.fClocks, v1.1.fLeases)) hj2 h rfl (by simp)
def T_impl_PlayRenew : Tr :=
  .chk [] (.agg (.var 0) 5) <|
  .call [] (.inl 16) (.cons (.mk (.cons (.fld (.var 0) 0 1 false) (.cons (.fld (.var 0) 1 1 false) (.cons (.fld (.var 0) 2 1 false) (.cons (.fld (.var 0) 3 1 false) (.cons (.fld (.var 0) 4 1 false) .nil)))))) .nil) <|
  .chk [] (.dfd (.not (.var 2))) <|
  .chk [((.not (.var 2)), false)] (.dfd (.len (.var 1))) <|
  .chk [] (.dfd (.not (.not (.var 2)))) <|
  .ite (.ite (.not (.var 2)) (.bool true) (.bin .gtr (.len (.var 1)) (.int .i64 (40)))) (
   .ret (.tup (.cons (.mk (.cons (.int .i64 (0)) (.cons (.int .i64 (0)) (.cons (.lst .nil) (.cons (.int .i64 (0)) (.cons (.lst .nil) .nil)))))) (.cons (.lst .nil) (.cons (.bool false) .nil))))) (
   .call [] (.inl 46) (.cons (.mk (.cons (.fld (.var 0) 0 1 false) (.cons (.fld (.var 0) 1 1 false) (.cons (.fld (.var 0) 2 1 false) (.cons (.fld (.var 0) 3 1 false) (.cons (.fld (.var 0) 4 1 false) .nil)))))) .nil) <|
   .chk [] (.dfd (.len (.var 1))) <|
   .loop (.cons (.int .i64 (0)) (.cons (.fld (.var 3) 0 1 false) (.cons (.fld (.var 3) 1 1 false) (.cons (.fld (.var 3) 3 1 false) (.cons (.fld (.var 3) 2 1 false) (.cons (.fld (.var 3) 4 1 false) (.cons (.lst .nil) .nil))))))) (
    .chk [] (.dfd (.bin .lss (.var 4) (.len (.var 1)))) <|
    .ite (.bin .lss (.var 4) (.len (.var 1))) (
     .join (
      .chk [] (.inb (.var 4) (.var 1) 3) <|
      .chk [] (.agg (.fld (.idx (.var 1) (.var 4)) 0 3 true) 3) <|
      .call [] (.inl 63) (.cons (.mk (.cons (.var 5) (.cons (.var 6) (.cons (.var 8) (.cons (.var 7) (.cons (.var 9) .nil)))))) (.cons (.mk (.cons (.fld (.fld (.idx (.var 1) (.var 4)) 0 3 true) 0 1 false) (.cons (.fld (.fld (.idx (.var 1) (.var 4)) 0 3 true) 1 1 false) (.cons (.fld (.fld (.idx (.var 1) (.var 4)) 0 3 true) 2 1 false) .nil)))) .nil)) <|
      .ite (.var 11) (
       .call [] (.inl 47) (.cons (.ref (.mk (.cons (.var 5) (.cons (.var 6) (.cons (.var 8) (.cons (.var 7) (.cons (.var 9) .nil))))))) (.cons (.mk (.cons (.fld (.fld (.idx (.var 1) (.var 4)) 0 3 true) 0 1 false) (.cons (.fld (.fld (.idx (.var 1) (.var 4)) 0 3 true) 1 1 false) (.cons (.fld (.fld (.idx (.var 1) (.var 4)) 0 3 true) 2 1 false) .nil)))) .nil)) <|
       .chk [] (.flat (.proj (.var 12) 0) 1 false) <|
       .chk [] (.room (.var 10) (.lst (.cons (.proj (.var 12) 0) .nil)) 1) <|
       .chk [] (.flatS (.lst (.cons (.proj (.var 12) 0) .nil)) 1) <|
       .jmp 0 (.cons (.int .i64 (0)) (.cons (.fld (.proj (.var 12) 1) 0 1 false) (.cons (.fld (.proj (.var 12) 1) 1 1 false) (.cons (.fld (.proj (.var 12) 1) 3 1 false) (.cons (.app (.var 10) (.lst (.cons (.proj (.var 12) 0) .nil))) (.cons (.fld (.proj (.var 12) 1) 2 1 false) (.cons (.fld (.proj (.var 12) 1) 4 1 false) .nil)))))))) (
       .chk [] (.flat (.bool false) 1 false) <|
       .chk [] (.room (.var 10) (.lst (.cons (.bool false) .nil)) 1) <|
       .chk [] (.flatS (.lst (.cons (.bool false) .nil)) 1) <|
       .jmp 0 (.cons (.int .i64 (0)) (.cons (.var 5) (.cons (.var 6) (.cons (.var 7) (.cons (.app (.var 10) (.lst (.cons (.bool false) .nil))) (.cons (.var 8) (.cons (.var 9) .nil))))))))) (
      .chk [] (.dfd (.bin .add (.var 4) (.int .i64 (1)))) <|
      .jmp 0 (.cons (.bin .add (.var 4) (.int .i64 (1))) (.cons (.var 12) (.cons (.var 13) (.cons (.var 14) (.cons (.var 16) (.cons (.var 17) (.cons (.var 15) .nil))))))))) (
     .jmp 1 (.cons (.var 5) (.cons (.var 6) (.cons (.var 7) (.cons (.var 8) (.cons (.var 9) (.cons (.var 10) .nil)))))))) (
    .ret (.tup (.cons (.mk (.cons (.var 4) (.cons (.var 5) (.cons (.var 7) (.cons (.var 6) (.cons (.var 8) .nil)))))) (.cons (.var 9) (.cons (.bool true) .nil))))))
theorem C_impl_PlayRenew : comp Try.prog sgs 27 = some T_impl_PlayRenew := by kernel_rfl
theorem R_impl_PlayRenew (a0 : DRenew) (a1 : List DRenewAct) (r : DRenew × List Bool × Bool) (h : m_impl_PlayRenew a0 a1 = some r) : Rts Try.prog sgs 27 [avRenew a0, .sl (a1.map avRenewAct)] (avTRenewSBBZ3 r) := by
  refine rts_of C_impl_PlayRenew (by kernel_rfl) ?_
  unfold Den T_impl_PlayRenew
  unfold m_impl_PlayRenew at h
  refine s_chk (by simp) ?_
  refine s_call avB h (fun x hx => by simpa using R_impl_GoodRenew a0 x hx) (fun v1 cv1 h => ?_)
  refine s_chk (by simp) ?_
  refine s_chk (by simp) ?_
  refine s_chk (by simp) ?_
  refine s_ite h (by simp) (fun e2 h => ?_) (fun e2 h => ?_)
  · exact s_ret (av := avTRenewSBBZ3) h (by simp)
  · refine s_call avRenew h (fun x hx => by simpa using R_impl_copyRenew a0 x hx) (fun v3 cv3 h => ?_)
    refine s_chk (by simp) ?_
    refine s_loop (fun s : Int × Int × Int × Int × List DClock × List DVLease × List Bool => [.int .i64 s.1, .int .i64 s.2.1, .int .i64 s.2.2.1, .int .i64 s.2.2.2.1, .sl (s.2.2.2.2.1.map avClock), .sl (s.2.2.2.2.2.1.map avVLease), .sl (s.2.2.2.2.2.2.map avB)]) h (by simp) (fun W1 A1 s o1 h hn1 hf1 hk1 => ?_)
    obtain ⟨v4, v5, v6, v7, v8, v9, v10⟩ := s
    replace h : m_impl_PlayRenew_b1 a1 v4 v5 v6 v7 v8 v9 v10 = some o1 := h
    unfold m_impl_PlayRenew_b1 at h
    refine s_chk (by simp) ?_
    refine s_ite h (by simp) (fun e11 h => ?_) (fun e11 h => ?_)
    · refine s_joinI fun j12 hj12 => ?_
      obtain ⟨y13, hy13, h⟩ := bindE h
      have hy13' := (getIE hy13).2.2
      refine s_chk (fun _ => c_inb (kk := .i64) (f := avRenewAct) (by simp) (by simp) hy13 (by simp)) ?_
      refine s_chk (by simp [e2, e11, hy13']) ?_
      refine s_call avB h (fun x hx => by simpa [e2, e11, hy13'] using R__impl_Renew__isRenewAct (⟨v5, (⟨v6⟩ : DClock), v8, v7, v9⟩ : DRenew) y13 x hx) (fun v14 cv14 h => ?_)
      refine s_ite h (by simp) (fun e15 h => ?_) (fun e15 h => ?_)
      · refine s_call avTBRenewZ2 h (fun x hx => by simpa [e2, e11, hy13', e15] using R___impl_Renew__step (⟨v5, (⟨v6⟩ : DClock), v8, v7, v9⟩ : DRenew) y13 x hx) (fun v16 cv16 h => ?_)
        refine s_chk (by simp) ?_
        obtain ⟨q17, h⟩ := reqE h
        refine s_chk (fun _ => c_room (show _ = AV.sl (List.map avB v10) from by simp) (show _ = AV.sl (List.map avB ([v16.1] : List Bool)) from by simp) (by simpa using q17)) ?_
        refine s_chk (fun _ => c_flatS avB (show _ = AV.sl (List.map avB ([v16.1] : List Bool)) from by simp) (by simp)) ?_
        refine s_jmpI hj12 rfl (vs := [.int .i64 0, .int .i64 v16.2.fNow, .int .i64 v16.2.fMaster.fOff, .int .i64 v16.2.fVer, .sl ((v10 ++ [v16.1]).map avB), .sl (v16.2.fClocks.map avClock), .sl (v16.2.fLeases.map avVLease)]) (by simp) ?_
        refine s_chk (by simp) ?_
        exact s_jmp (K := fun s => some (Sum.inl s)) (s := ((IntKind.i64.wrap (v4 + 1)), v16.2.fNow, v16.2.fMaster.fOff, v16.2.fVer, v16.2.fClocks, v16.2.fLeases, (v10 ++ [v16.1]))) hn1 h rfl (by simp)
      · refine s_chk (by simp) ?_
        obtain ⟨q18, h⟩ := reqE h
        refine s_chk (fun _ => c_room (show _ = AV.sl (List.map avB v10) from by simp) (show _ = AV.sl (List.map avB ([false] : List Bool)) from by simp) (by simpa using q18)) ?_
        refine s_chk (fun _ => c_flatS avB (show _ = AV.sl (List.map avB ([false] : List Bool)) from by simp) (by simp)) ?_
        refine s_jmpI hj12 rfl (vs := [.int .i64 0, .int .i64 v5, .int .i64 v6, .int .i64 v7, .sl ((v10 ++ [false]).map avB), .sl (v8.map avClock), .sl (v9.map avVLease)]) (by simp) ?_
        refine s_chk (by simp) ?_
        exact s_jmp (K := fun s => some (Sum.inl s)) (s := ((IntKind.i64.wrap (v4 + 1)), v5, v6, v7, v8, v9, (v10 ++ [false]))) hn1 h rfl (by simp)
    · refine s_jmpI hk1 rfl (vs := [.int .i64 v5, .int .i64 v6, .int .i64 v7, .sl (v8.map avClock), .sl (v9.map avVLease), .sl (v10.map avB)]) (by simp) ?_
      replace h := (hf1 _ h)
      exact s_ret (av := avTRenewSBBZ3) h (by simp)
def T_slices_Max___int_int_ : Tr :=
  .chk [] (.dfd (.len (.var 0))) <|
  .ite (.bin .lss (.len (.var 0)) (.int .i64 (1))) (
   .stuck) (
   .chk [] (.inb (.int .i64 (0)) (.var 0) 1) <|
   .loop (.cons (.fld (.idx (.var 0) (.int .i64 (0))) 0 1 false) (.cons (.int .i64 (1)) .nil)) (
    .chk [] (.dfd (.len (.var 0))) <|
    .chk [] (.dfd (.bin .lss (.var 2) (.len (.var 0)))) <|
    .ite (.bin .lss (.var 2) (.len (.var 0))) (
     .chk [] (.inb (.var 2) (.var 0) 1) <|
     .chk [] (.dfd (.bin .gtr (.fld (.idx (.var 0) (.var 2)) 0 1 false) (.var 1))) <|
     .chk [] (.dfd (.bin .add (.var 2) (.int .i64 (1)))) <|
     .jmp 0 (.cons (.ite (.bin .gtr (.fld (.idx (.var 0) (.var 2)) 0 1 false) (.var 1)) (.fld (.idx (.var 0) (.var 2)) 0 1 false) (.var 1)) (.cons (.bin .add (.var 2) (.int .i64 (1))) .nil))) (
     .jmp 1 (.cons (.var 1) .nil))) (
    .ret (.var 1)))
theorem C_slices_Max___int_int_ : comp Try.prog sgs 83 = some T_slices_Max___int_int_ := by kernel_rfl
theorem R_slices_Max___int_int_ (a0 : List Int) (r : Int) (h : m_slices_Max___int_int_ a0 = some r) : Rts Try.prog sgs 83 [.sl (a0.map avI64)] (.int .i64 r) := by
  refine rts_of C_slices_Max___int_int_ (by kernel_rfl) ?_
  unfold Den T_slices_Max___int_int_
  unfold m_slices_Max___int_int_ at h
  refine s_chk (by simp) ?_
  refine s_ite h (by simp) (fun e1 h => ?_) (fun e1 h => ?_)
  · cases h
  · obtain ⟨y2, hy2, h⟩ := bindE h
    have hy2' := (getIE hy2).2.2
    try simp at hy2'
    refine s_chk (fun _ => c_inb (kk := .i64) (f := avI64) (by simp) (by simp) hy2 (by simp)) ?_
    refine s_loop (fun s : Int × Int => [.int .i64 s.1, .int .i64 s.2]) h (by simp [e1, hy2']) (fun W1 A1 s o1 h hn1 hf1 hk1 => ?_)
    obtain ⟨v3, v4⟩ := s
    replace h : m_slices_Max___int_int__b1 a0 v3 v4 = some o1 := h
    unfold m_slices_Max___int_int__b1 at h
    refine s_chk (by simp) ?_
    refine s_chk (by simp) ?_
    refine s_ite h (by simp) (fun e5 h => ?_) (fun e5 h => ?_)
    · obtain ⟨y6, hy6, h⟩ := bindE h
      have hy6' := (getIE hy6).2.2
      refine s_chk (fun _ => c_inb (kk := .i64) (f := avI64) (by simp) (by simp) hy6 (by simp)) ?_
      refine s_chk (by simp [e1, hy2', e5, hy6']) ?_
      refine s_chk (by simp) ?_
      exact s_jmp (K := fun s => some (Sum.inl s)) (s := ((bif (decide (y6 > v3)) then y6 else v3), (IntKind.i64.wrap (v4 + 1)))) hn1 h rfl (by simp [e1, hy2', e5, hy6'])
    · refine s_jmpI hk1 rfl (vs := [.int .i64 v3]) (by simp) ?_
      replace h := (hf1 _ h)
      exact s_ret (av := avI64) h (by simp)
def T_slices_Min___int_int_ : Tr :=
  .chk [] (.dfd (.len (.var 0))) <|
  .ite (.bin .lss (.len (.var 0)) (.int .i64 (1))) (
   .stuck) (
   .chk [] (.inb (.int .i64 (0)) (.var 0) 1) <|
   .loop (.cons (.fld (.idx (.var 0) (.int .i64 (0))) 0 1 false) (.cons (.int .i64 (1)) .nil)) (
    .chk [] (.dfd (.len (.var 0))) <|
    .chk [] (.dfd (.bin .lss (.var 2) (.len (.var 0)))) <|
    .ite (.bin .lss (.var 2) (.len (.var 0))) (
     .chk [] (.inb (.var 2) (.var 0) 1) <|
     .chk [] (.dfd (.bin .lss (.fld (.idx (.var 0) (.var 2)) 0 1 false) (.var 1))) <|
     .chk [] (.dfd (.bin .add (.var 2) (.int .i64 (1)))) <|
     .jmp 0 (.cons (.ite (.bin .lss (.fld (.idx (.var 0) (.var 2)) 0 1 false) (.var 1)) (.fld (.idx (.var 0) (.var 2)) 0 1 false) (.var 1)) (.cons (.bin .add (.var 2) (.int .i64 (1))) .nil))) (
     .jmp 1 (.cons (.var 1) .nil))) (
    .ret (.var 1)))
theorem C_slices_Min___int_int_ : comp Try.prog sgs 84 = some T_slices_Min___int_int_ := by kernel_rfl
theorem R_slices_Min___int_int_ (a0 : List Int) (r : Int) (h : m_slices_Min___int_int_ a0 = some r) : Rts Try.prog sgs 84 [.sl (a0.map avI64)] (.int .i64 r) := by
  refine rts_of C_slices_Min___int_int_ (by kernel_rfl) ?_
  unfold Den T_slices_Min___int_int_
  unfold m_slices_Min___int_int_ at h
  refine s_chk (by simp) ?_
  refine s_ite h (by simp) (fun e1 h => ?_) (fun e1 h => ?_)
  · cases h
  · obtain ⟨y2, hy2, h⟩ := bindE h
    have hy2' := (getIE hy2).2.2
    try simp at hy2'
    refine s_chk (fun _ => c_inb (kk := .i64) (f := avI64) (by simp) (by simp) hy2 (by simp)) ?_
    refine s_loop (fun s : Int × Int => [.int .i64 s.1, .int .i64 s.2]) h (by simp [e1, hy2']) (fun W1 A1 s o1 h hn1 hf1 hk1 => ?_)
    obtain ⟨v3, v4⟩ := s
    replace h : m_slices_Min___int_int__b1 a0 v3 v4 = some o1 := h
    unfold m_slices_Min___int_int__b1 at h
    refine s_chk (by simp) ?_
    refine s_chk (by simp) ?_
    refine s_ite h (by simp) (fun e5 h => ?_) (fun e5 h => ?_)
    · obtain ⟨y6, hy6, h⟩ := bindE h
      have hy6' := (getIE hy6).2.2
      refine s_chk (fun _ => c_inb (kk := .i64) (f := avI64) (by simp) (by simp) hy6 (by simp)) ?_
      refine s_chk (by simp [e1, hy2', e5, hy6']) ?_
      refine s_chk (by simp) ?_
      exact s_jmp (K := fun s => some (Sum.inl s)) (s := ((bif (decide (y6 < v3)) then y6 else v3), (IntKind.i64.wrap (v4 + 1)))) hn1 h rfl (by simp [e1, hy2', e5, hy6'])
    · refine s_jmpI hk1 rfl (vs := [.int .i64 v3]) (by simp) ?_
      replace h := (hf1 _ h)
      exact s_ret (av := avI64) h (by simp)
def T_impl_AreNear : Tr :=
  .chk [] (.agg (.var 0) 5) <|
  .call [] (.inl 16) (.cons (.mk (.cons (.fld (.var 0) 0 1 false) (.cons (.fld (.var 0) 1 1 false) (.cons (.fld (.var 0) 2 1 false) (.cons (.fld (.var 0) 3 1 false) (.cons (.fld (.var 0) 4 1 false) .nil)))))) .nil) <|
  .chk [] (.dfd (.not (.var 1))) <|
  .ite (.not (.var 1)) (
   .ret (.tup (.cons (.bool false) (.cons (.bool false) .nil)))) (
   .chk [] (.dfd (.len (.fld (.var 0) 4 1 false))) <|
   .loop (.cons (.int .i64 (0)) (.cons (.lst .nil) .nil)) (
    .chk [] (.dfd (.bin .lss (.var 2) (.len (.fld (.var 0) 4 1 false)))) <|
    .ite (.bin .lss (.var 2) (.len (.fld (.var 0) 4 1 false))) (
     .join (
      .chk [] (.inb (.var 2) (.fld (.var 0) 4 1 false) 2) <|
      .chk [] (.agg (.fld (.idx (.fld (.var 0) 4 1 false) (.var 2)) 0 2 true) 2) <|
      .call [] (.inl 54) (.cons (.mk (.cons (.fld (.var 0) 0 1 false) (.cons (.fld (.var 0) 1 1 false) (.cons (.fld (.var 0) 2 1 false) (.cons (.fld (.var 0) 3 1 false) (.cons (.fld (.var 0) 4 1 false) .nil)))))) (.cons (.var 2) .nil)) <|
      .ite (.var 4) (
       .chk [] (.flat (.fld (.fld (.idx (.fld (.var 0) 4 1 false) (.var 2)) 0 2 true) 0 1 false) 1 false) <|
       .chk [] (.room (.var 3) (.lst (.cons (.fld (.fld (.idx (.fld (.var 0) 4 1 false) (.var 2)) 0 2 true) 0 1 false) .nil)) 8) <|
       .chk [] (.flatS (.lst (.cons (.fld (.fld (.idx (.fld (.var 0) 4 1 false) (.var 2)) 0 2 true) 0 1 false) .nil)) 1) <|
       .jmp 0 (.cons (.app (.var 3) (.lst (.cons (.fld (.fld (.idx (.fld (.var 0) 4 1 false) (.var 2)) 0 2 true) 0 1 false) .nil))) .nil)) (
       .jmp 0 (.cons (.var 3) .nil))) (
      .chk [] (.dfd (.bin .add (.var 2) (.int .i64 (1)))) <|
      .jmp 0 (.cons (.bin .add (.var 2) (.int .i64 (1))) (.cons (.var 4) .nil)))) (
     .jmp 1 (.cons (.var 3) .nil))) (
    .chk [] (.dfd (.len (.var 2))) <|
    .call [((.bin .eql (.len (.var 2)) (.int .i64 (0))), false)] (.inl 83) (.cons (.var 2) .nil) <|
    .call [((.bin .eql (.len (.var 2)) (.int .i64 (0))), false)] (.inl 84) (.cons (.var 2) .nil) <|
    .chk [((.bin .eql (.len (.var 2)) (.int .i64 (0))), false)] (.dfd (.bin .sub (.var 3) (.var 4))) <|
    .chk [((.bin .eql (.len (.var 2)) (.int .i64 (0))), false)] (.dfd (.bin .leq (.bin .sub (.var 3) (.var 4)) (.int .i64 (1)))) <|
    .chk [] (.dfd (.not (.bin .eql (.len (.var 2)) (.int .i64 (0))))) <|
    .ret (.tup (.cons (.ite (.bin .eql (.len (.var 2)) (.int .i64 (0))) (.bool true) (.bin .leq (.bin .sub (.var 3) (.var 4)) (.int .i64 (1)))) (.cons (.bool true) .nil)))))
theorem C_impl_AreNear : comp Try.prog sgs 29 = some T_impl_AreNear := by kernel_rfl
theorem R_impl_AreNear (a0 : DRenew) (r : Bool × Bool) (h : m_impl_AreNear a0 = some r) : Rts Try.prog sgs 29 [avRenew a0] (avTBBZ2 r) := by
  refine rts_of C_impl_AreNear (by kernel_rfl) ?_
  unfold Den T_impl_AreNear
  unfold m_impl_AreNear at h
  refine s_chk (by simp) ?_
  refine s_call avB h (fun x hx => by simpa using R_impl_GoodRenew a0 x hx) (fun v1 cv1 h => ?_)
  refine s_chk (by simp) ?_
  refine s_ite h (by simp) (fun e2 h => ?_) (fun e2 h => ?_)
  · exact s_ret (av := avTBBZ2) h (by simp)
  · refine s_chk (by simp) ?_
    refine s_loopK (fun s : Int × List Int => [.int .i64 s.1, .sl (s.2.map avI64)]) (fun s : List Int => [.sl (s.map avI64)]) h (by simp) (K := (fun s => m_impl_AreNear_k1 s)) (fun v3 h => ?_) (fun W1 A1 s o1 h hn1 hf1 hk1 => ?_)
    · replace h : m_impl_AreNear_k1 v3 = some r := h
      unfold m_impl_AreNear_k1 at h
      refine s_chk (by simp) ?_
      refine s_split h (fun e4 h => ?_) (fun e4 h => ?_)
      · refine s_skip (by simp [e2, e4]) ?_
        refine s_skip (by simp [e2, e4]) ?_
        refine s_chk (by simp [e2, e4]) ?_
        refine s_chk (by simp [e2, e4]) ?_
        refine s_chk (by simp) ?_
        exact s_ret (av := avTBBZ2) h (by simp [e2, e4])
      · refine s_call avI64 h (fun x hx => by simpa using R_slices_Max___int_int_ v3 x hx) (fun v5 cv5 h => ?_)
        refine s_call avI64 h (fun x hx => by simpa using R_slices_Min___int_int_ v3 x hx) (fun v6 cv6 h => ?_)
        refine s_chk (by simp) ?_
        refine s_chk (by simp) ?_
        refine s_chk (by simp) ?_
        exact s_ret (av := avTBBZ2) h (by simp [e2, e4])
    · obtain ⟨v7, v8⟩ := s
      replace h : m_impl_AreNear_b2 a0 v7 v8 = some o1 := h
      unfold m_impl_AreNear_b2 at h
      refine s_chk (by simp) ?_
      refine s_ite h (by simp) (fun e9 h => ?_) (fun e9 h => ?_)
      · refine s_joinI fun j10 hj10 => ?_
        obtain ⟨y11, hy11, h⟩ := bindE h
        have hy11' := (getIE hy11).2.2
        refine s_chk (fun _ => c_inb (kk := .i64) (f := avVLease) (by simp) (by simp) hy11 (by simp)) ?_
        refine s_chk (by simp [e2, e9, hy11']) ?_
        refine s_call avB h (fun x hx => by simpa using R__impl_Renew__usable a0 v7 x hx) (fun v12 cv12 h => ?_)
        refine s_ite h (by simp) (fun e13 h => ?_) (fun e13 h => ?_)
        · refine s_chk (by simp [e2, e9, hy11', e13]) ?_
          obtain ⟨q14, h⟩ := reqE h
          refine s_chk (fun _ => c_room (show _ = AV.sl (List.map avI64 v8) from by simp) (show _ = AV.sl (List.map avI64 ([y11.fVer] : List Int)) from by simp [e2, e9, hy11', e13]) (by simpa using q14)) ?_
          refine s_chk (fun _ => c_flatS avI64 (show _ = AV.sl (List.map avI64 ([y11.fVer] : List Int)) from by simp [e2, e9, hy11', e13]) (by simp)) ?_
          refine s_jmpI hj10 rfl (vs := [.sl ((v8 ++ [y11.fVer]).map avI64)]) (by simp [e2, e9, hy11', e13]) ?_
          refine s_chk (by simp) ?_
          exact s_jmp (K := fun s => some (Sum.inl s)) (s := ((IntKind.i64.wrap (v7 + 1)), (v8 ++ [y11.fVer]))) hn1 h rfl (by simp)
        · refine s_jmpI hj10 rfl (vs := [.sl (v8.map avI64)]) (by simp) ?_
          refine s_chk (by simp) ?_
          exact s_jmp (K := fun s => some (Sum.inl s)) (s := ((IntKind.i64.wrap (v7 + 1)), v8)) hn1 h rfl (by simp)
      · exact s_jmp (s := v8) hk1 (hf1 _ h) rfl (by simp)
def T_spec_AreNear : Tr :=
  .chk [] (.agg (.var 0) 5) <|
  .call [] (.inl 17) (.cons (.mk (.cons (.fld (.var 0) 0 1 false) (.cons (.fld (.var 0) 1 1 false) (.cons (.fld (.var 0) 2 1 false) (.cons (.fld (.var 0) 3 1 false) (.cons (.fld (.var 0) 4 1 false) .nil)))))) .nil) <|
  .chk [] (.dfd (.not (.var 1))) <|
  .ite (.not (.var 1)) (
   .ret (.tup (.cons (.bool false) (.cons (.bool false) .nil)))) (
   .chk [] (.dfd (.len (.fld (.var 0) 4 1 false))) <|
   .loop (.cons (.int .i64 (0)) .nil) (
    .chk [] (.dfd (.bin .lss (.var 2) (.len (.fld (.var 0) 4 1 false)))) <|
    .ite (.bin .lss (.var 2) (.len (.fld (.var 0) 4 1 false))) (
     .chk [] (.dfd (.len (.fld (.var 0) 4 1 false))) <|
     .loop (.cons (.int .i64 (0)) .nil) (
      .chk [] (.dfd (.bin .lss (.var 3) (.len (.fld (.var 0) 4 1 false)))) <|
      .ite (.bin .lss (.var 3) (.len (.fld (.var 0) 4 1 false))) (
       .call [] (.inl 56) (.cons (.mk (.cons (.fld (.var 0) 0 1 false) (.cons (.fld (.var 0) 1 1 false) (.cons (.fld (.var 0) 2 1 false) (.cons (.fld (.var 0) 3 1 false) (.cons (.fld (.var 0) 4 1 false) .nil)))))) (.cons (.var 2) .nil)) <|
       .call [((.var 4), true)] (.inl 56) (.cons (.mk (.cons (.fld (.var 0) 0 1 false) (.cons (.fld (.var 0) 1 1 false) (.cons (.fld (.var 0) 2 1 false) (.cons (.fld (.var 0) 3 1 false) (.cons (.fld (.var 0) 4 1 false) .nil)))))) (.cons (.var 3) .nil)) <|
       .chk [] (.dfd (.not (.var 4))) <|
       .chk [((.ite (.var 4) (.var 5) (.bool false)), true)] (.inb (.var 2) (.fld (.var 0) 4 1 false) 2) <|
       .chk [((.ite (.var 4) (.var 5) (.bool false)), true)] (.inb (.var 3) (.fld (.var 0) 4 1 false) 2) <|
       .chk [((.ite (.var 4) (.var 5) (.bool false)), true)] (.dfd (.bin .sub (.fld (.idx (.fld (.var 0) 4 1 false) (.var 2)) 0 1 false) (.fld (.idx (.fld (.var 0) 4 1 false) (.var 3)) 0 1 false))) <|
       .chk [((.ite (.var 4) (.var 5) (.bool false)), true)] (.dfd (.bin .gtr (.bin .sub (.fld (.idx (.fld (.var 0) 4 1 false) (.var 2)) 0 1 false) (.fld (.idx (.fld (.var 0) 4 1 false) (.var 3)) 0 1 false)) (.int .i64 (1)))) <|
       .chk [] (.dfd (.not (.ite (.var 4) (.var 5) (.bool false)))) <|
       .ite (.ite (.ite (.var 4) (.var 5) (.bool false)) (.bin .gtr (.bin .sub (.fld (.idx (.fld (.var 0) 4 1 false) (.var 2)) 0 1 false) (.fld (.idx (.fld (.var 0) 4 1 false) (.var 3)) 0 1 false)) (.int .i64 (1))) (.bool false)) (
        .ret (.tup (.cons (.bool false) (.cons (.bool true) .nil)))) (
        .chk [] (.dfd (.bin .add (.var 3) (.int .i64 (1)))) <|
        .jmp 0 (.cons (.bin .add (.var 3) (.int .i64 (1))) .nil))) (
       .jmp 1 .nil)) (
      .chk [] (.dfd (.bin .add (.var 2) (.int .i64 (1)))) <|
      .jmp 0 (.cons (.bin .add (.var 2) (.int .i64 (1))) .nil))) (
     .jmp 1 .nil)) (
    .ret (.tup (.cons (.bool true) (.cons (.bool true) .nil)))))
theorem C_spec_AreNear : comp Try.prog sgs 30 = some T_spec_AreNear := by kernel_rfl
theorem R_spec_AreNear (a0 : DRenew) (r : Bool × Bool) (h : m_spec_AreNear a0 = some r) : Rts Try.prog sgs 30 [avRenew a0] (avTBBZ2 r) := by
  refine rts_of C_spec_AreNear (by kernel_rfl) ?_
  unfold Den T_spec_AreNear
  unfold m_spec_AreNear at h
  refine s_chk (by simp) ?_
  refine s_call avB h (fun x hx => by simpa using R_spec_GoodRenew a0 x hx) (fun v1 cv1 h => ?_)
  refine s_chk (by simp) ?_
  refine s_ite h (by simp) (fun e2 h => ?_) (fun e2 h => ?_)
  · exact s_ret (av := avTBBZ2) h (by simp)
  · refine s_chk (by simp) ?_
    refine s_loop (fun s : Int => [.int .i64 s]) h (by simp) (fun W1 A1 v3 o1 h hn1 hf1 hk1 => ?_)
    replace h : m_spec_AreNear_b1 a0 v3 = some o1 := h
    unfold m_spec_AreNear_b1 at h
    refine s_chk (by simp) ?_
    refine s_ite h (by simp) (fun e4 h => ?_) (fun e4 h => ?_)
    · refine s_chk (by simp) ?_
      refine s_loopK (fun s : Int => [.int .i64 s]) (fun s : Unit => []) h (by simp) (K := (fun s => m_spec_AreNear_k2 v3)) (fun s h => ?_) (fun W2 A2 v5 o2 h hn2 hf2 hk2 => ?_)
      · replace h : m_spec_AreNear_k2 v3 = some o1 := h
        unfold m_spec_AreNear_k2 at h
        refine s_chk (by simp) ?_
        exact s_jmp (K := fun s => some (Sum.inl s)) (s := (IntKind.i64.wrap (v3 + 1))) hn1 h rfl (by simp)
      · replace h : m_spec_AreNear_b3 a0 v3 v5 = some o2 := h
        unfold m_spec_AreNear_b3 at h
        refine s_chk (by simp) ?_
        refine s_ite h (by simp) (fun e6 h => ?_) (fun e6 h => ?_)
        · refine s_call avB h (fun x hx => by simpa using R_spec_l28Usable a0 v3 x hx) (fun v7 cv7 h => ?_)
          refine s_split h (fun e8 h => ?_) (fun e8 h => ?_)
          · refine s_call avB h (fun x hx => by simpa using R_spec_l28Usable a0 v5 x hx) (fun v9 cv9 h => ?_)
            refine s_chk (by simp) ?_
            refine s_split h (fun e10 h => ?_) (fun e10 h => ?_)
            · obtain ⟨y11, hy11, h⟩ := bindE h
              have hy11' := (getIE hy11).2.2
              refine s_chk (fun _ => c_inb (kk := .i64) (f := avVLease) (by simp) (by simp) hy11 (by simp)) ?_
              obtain ⟨y12, hy12, h⟩ := bindE h
              have hy12' := (getIE hy12).2.2
              refine s_chk (fun _ => c_inb (kk := .i64) (f := avVLease) (by simp) (by simp) hy12 (by simp)) ?_
              refine s_chk (by simp [e2, e4, e6, e8, e10, hy11', hy12']) ?_
              refine s_chk (by simp [e2, e4, e6, e8, e10, hy11', hy12']) ?_
              refine s_chk (by simp [e2, e4, e6, e8, e10, hy11', hy12']) ?_
              refine s_ite h (by simp [e2, e4, e6, e8, e10, hy11', hy12']) (fun e13 h => ?_) (fun e13 h => ?_)
              · exact s_ret (av := avTBBZ2) (hf1 _ (hf2 _ h)) (by simp)
              · refine s_chk (by simp) ?_
                exact s_jmp (K := fun s => some (Sum.inl s)) (s := (IntKind.i64.wrap (v5 + 1))) hn2 h rfl (by simp)
            · refine s_chk (by simp [e2, e4, e6, e8, e10]) ?_
              refine s_chk (by simp [e2, e4, e6, e8, e10]) ?_
              refine s_chk (by simp [e2, e4, e6, e8, e10]) ?_
              refine s_chk (by simp [e2, e4, e6, e8, e10]) ?_
              refine s_chk (by simp [e2, e4, e6, e8, e10]) ?_
              refine s_iteF (by simp [e2, e4, e6, e8, e10]) ?_
              refine s_chk (by simp) ?_
              exact s_jmp (K := fun s => some (Sum.inl s)) (s := (IntKind.i64.wrap (v5 + 1))) hn2 h rfl (by simp)
          · refine s_skip (by simp [e2, e4, e6, e8]) ?_
            refine s_chk (by simp) ?_
            refine s_chk (by simp [e2, e4, e6, e8]) ?_
            refine s_chk (by simp [e2, e4, e6, e8]) ?_
            refine s_chk (by simp [e2, e4, e6, e8]) ?_
            refine s_chk (by simp [e2, e4, e6, e8]) ?_
            refine s_chk (by simp [e2, e4, e6, e8]) ?_
            refine s_iteF (by simp [e2, e4, e6, e8]) ?_
            refine s_chk (by simp) ?_
            exact s_jmp (K := fun s => some (Sum.inl s)) (s := (IntKind.i64.wrap (v5 + 1))) hn2 h rfl (by simp)
        · exact s_jmp (s := ()) hk2 (hf2 _ h) rfl (by simp)
    · refine s_jmpI hk1 rfl (vs := []) (by simp) ?_
      replace h := (hf1 _ h)
      exact s_ret (av := avTBBZ2) h (by simp)
def T_laws_qSameB : Tr :=
  .chk [] (.dfd (.len (.var 0))) <|
  .chk [] (.dfd (.len (.var 1))) <|
  .ite (.bin .neq (.len (.var 0)) (.len (.var 1))) (
   .ret (.bool false)) (
   .chk [] (.dfd (.len (.var 0))) <|
   .loop (.cons (.int .i64 (0)) .nil) (
    .chk [] (.dfd (.bin .lss (.var 2) (.len (.var 0)))) <|
    .ite (.bin .lss (.var 2) (.len (.var 0))) (
     .chk [] (.inb (.var 2) (.var 0) 1) <|
     .chk [] (.inb (.var 2) (.var 1) 1) <|
     .chk [] (.dfd (.bbin .neq (.fld (.idx (.var 0) (.var 2)) 0 1 false) (.fld (.idx (.var 1) (.var 2)) 0 1 false))) <|
     .ite (.bbin .neq (.fld (.idx (.var 0) (.var 2)) 0 1 false) (.fld (.idx (.var 1) (.var 2)) 0 1 false)) (
      .ret (.bool false)) (
      .chk [] (.dfd (.bin .add (.var 2) (.int .i64 (1)))) <|
      .jmp 0 (.cons (.bin .add (.var 2) (.int .i64 (1))) .nil))) (
     .jmp 1 .nil)) (
    .ret (.bool true)))
theorem C_laws_qSameB : comp Try.prog sgs 31 = some T_laws_qSameB := by kernel_rfl
theorem R_laws_qSameB (a0 : List Bool) (a1 : List Bool) (r : Bool) (h : m_laws_qSameB a0 a1 = some r) : Rts Try.prog sgs 31 [.sl (a0.map avB), .sl (a1.map avB)] (.bool r) := by
  refine rts_of C_laws_qSameB (by kernel_rfl) ?_
  unfold Den T_laws_qSameB
  unfold m_laws_qSameB at h
  refine s_chk (by simp) ?_
  refine s_chk (by simp) ?_
  refine s_ite h (by simp) (fun e1 h => ?_) (fun e1 h => ?_)
  · exact s_ret (av := avB) h (by simp)
  · refine s_chk (by simp) ?_
    refine s_loop (fun s : Int => [.int .i64 s]) h (by simp) (fun W1 A1 v2 o1 h hn1 hf1 hk1 => ?_)
    replace h : m_laws_qSameB_b1 a0 a1 v2 = some o1 := h
    unfold m_laws_qSameB_b1 at h
    refine s_chk (by simp) ?_
    refine s_ite h (by simp) (fun e3 h => ?_) (fun e3 h => ?_)
    · obtain ⟨y4, hy4, h⟩ := bindE h
      have hy4' := (getIE hy4).2.2
      refine s_chk (fun _ => c_inb (kk := .i64) (f := avB) (by simp) (by simp) hy4 (by simp)) ?_
      obtain ⟨y5, hy5, h⟩ := bindE h
      have hy5' := (getIE hy5).2.2
      refine s_chk (fun _ => c_inb (kk := .i64) (f := avB) (by simp) (by simp) hy5 (by simp)) ?_
      refine s_chk (by simp [e1, e3, hy4', hy5']) ?_
      refine s_ite h (by simp [e1, e3, hy4', hy5']) (fun e6 h => ?_) (fun e6 h => ?_)
      · exact s_ret (av := avB) (hf1 _ h) (by simp)
      · refine s_chk (by simp) ?_
        exact s_jmp (K := fun s => some (Sum.inl s)) (s := (IntKind.i64.wrap (v2 + 1))) hn1 h rfl (by simp)
    · refine s_jmpI hk1 rfl (vs := []) (by simp) ?_
      replace h := (hf1 _ h)
      exact s_ret (av := avB) h (by simp)
def T_spec_DrawNewRenew : Tr :=
  .chk [] (.cells (.var 0) 1) <|
  .call [] (.inl 44) (.cons (.ref (.mk (.cons (.var 0) (.cons (.int .i64 (0)) (.cons (.int .u64 (0)) .nil))))) (.cons (.int .i64 (6)) .nil)) <|
  .chk [] (.dfd (.bin .sub (.proj (.var 1) 0) (.int .i64 (1)))) <|
  .ret (.bin .sub (.proj (.var 1) 0) (.int .i64 (1)))
theorem C_spec_DrawNewRenew : comp Try.prog sgs 32 = some T_spec_DrawNewRenew := by kernel_rfl
theorem R_spec_DrawNewRenew (a0 : List Int) (r : Int) (h : m_spec_DrawNewRenew a0 = some r) : Rts Try.prog sgs 32 [.sl (a0.map avU8)] (.int .i64 r) := by
  refine rts_of C_spec_DrawNewRenew (by kernel_rfl) ?_
  unfold Den T_spec_DrawNewRenew
  unfold m_spec_DrawNewRenew at h
  refine s_chk (by simp) ?_
  refine s_call avTI64L1CurZ2 h (fun x hx => by simpa using R___spec_l1Cur__pick (⟨a0, 0, 0⟩ : DL1Cur) 6 x hx) (fun v1 cv1 h => ?_)
  refine s_chk (by simp) ?_
  exact s_ret (av := avI64) h (by simp)
def T_impl_NewRenew : Tr :=
  .call [] (.inl 53) (.cons (.var 0) (.cons (.int .i64 (1)) (.cons (.int .i64 (3)) .nil))) <|
  .chk [] (.dfd (.not (.var 1))) <|
  .ite (.not (.var 1)) (
   .ret (.tup (.cons (.mk (.cons (.int .i64 (0)) (.cons (.int .i64 (0)) (.cons (.lst .nil) (.cons (.int .i64 (0)) (.cons (.lst .nil) .nil)))))) (.cons (.bool false) .nil)))) (
   .chk [] (.mkroom (.var 0) 8) <|
   .chk [] (.mkroom (.var 0) 16) <|
   .ret (.tup (.cons (.mk (.cons (.int .i64 (0)) (.cons (.int .i64 (0)) (.cons (.rep (.var 0) (.mk (.cons (.int .i64 (0)) .nil))) (.cons (.int .i64 (0)) (.cons (.rep (.var 0) (.mk (.cons (.int .i64 (0)) (.cons (.int .i64 (0)) .nil)))) .nil)))))) (.cons (.bool true) .nil))))
theorem C_impl_NewRenew : comp Try.prog sgs 33 = some T_impl_NewRenew := by kernel_rfl
theorem R_impl_NewRenew (a0 : Int) (r : DRenew × Bool) (h : m_impl_NewRenew a0 = some r) : Rts Try.prog sgs 33 [.int .i64 a0] (avTRenewBZ2 r) := by
  refine rts_of C_impl_NewRenew (by kernel_rfl) ?_
  unfold Den T_impl_NewRenew
  unfold m_impl_NewRenew at h
  refine s_call avB h (fun x hx => by simpa using R_impl_within a0 1 3 x hx) (fun v1 cv1 h => ?_)
  refine s_chk (by simp) ?_
  refine s_ite h (by simp) (fun e2 h => ?_) (fun e2 h => ?_)
  · exact s_ret (av := avTRenewBZ2) h (by simp)
  · obtain ⟨q3, h⟩ := reqE h
    refine s_chk (fun _ => c_mkroom (kk := .i64) (k := a0) (by simp) (by simpa using q3)) ?_
    obtain ⟨q4, h⟩ := reqE h
    refine s_chk (fun _ => c_mkroom (kk := .i64) (k := a0) (by simp) (by simpa using q4)) ?_
    exact s_ret (av := avTRenewBZ2) h (by simp)
def T_laws_FnNear : Tr :=
  .chk [] (.dfd (.len (.var 0))) <|
  .chk [] (.dfd (.len (.var 1))) <|
  .ite (.bin .gtr (.bin .add (.len (.var 0)) (.len (.var 1))) (.int .i64 (1048576))) (
   .ret (.bool true)) (
   .call [] (.inl 26) (.cons (.var 0) .nil) <|
   .chk [] (.agg (.proj (.var 2) 0) 5) <|
   .call [] (.inl 27) (.cons (.mk (.cons (.fld (.proj (.var 2) 0) 0 1 false) (.cons (.fld (.proj (.var 2) 0) 1 1 false) (.cons (.fld (.proj (.var 2) 0) 2 1 false) (.cons (.fld (.proj (.var 2) 0) 3 1 false) (.cons (.fld (.proj (.var 2) 0) 4 1 false) .nil)))))) (.cons (.proj (.var 2) 1) .nil)) <|
   .call [] (.inl 28) (.cons (.mk (.cons (.fld (.proj (.var 2) 0) 0 1 false) (.cons (.fld (.proj (.var 2) 0) 1 1 false) (.cons (.fld (.proj (.var 2) 0) 2 1 false) (.cons (.fld (.proj (.var 2) 0) 3 1 false) (.cons (.fld (.proj (.var 2) 0) 4 1 false) .nil)))))) (.cons (.proj (.var 2) 1) .nil)) <|
   .call [] (.inl 29) (.cons (.mk (.cons (.fld (.proj (.var 2) 0) 0 1 false) (.cons (.fld (.proj (.var 2) 0) 1 1 false) (.cons (.fld (.proj (.var 2) 0) 2 1 false) (.cons (.fld (.proj (.var 2) 0) 3 1 false) (.cons (.fld (.proj (.var 2) 0) 4 1 false) .nil)))))) .nil) <|
   .call [] (.inl 30) (.cons (.mk (.cons (.fld (.proj (.var 2) 0) 0 1 false) (.cons (.fld (.proj (.var 2) 0) 1 1 false) (.cons (.fld (.proj (.var 2) 0) 2 1 false) (.cons (.fld (.proj (.var 2) 0) 3 1 false) (.cons (.fld (.proj (.var 2) 0) 4 1 false) .nil)))))) .nil) <|
   .chk [] (.dfd (.bbin .neq (.proj (.var 3) 2) (.proj (.var 4) 2))) <|
   .call [((.bbin .neq (.proj (.var 3) 2) (.proj (.var 4) 2)), false)] (.inl 31) (.cons (.proj (.var 3) 1) (.cons (.proj (.var 4) 1) .nil)) <|
   .chk [((.bbin .neq (.proj (.var 3) 2) (.proj (.var 4) 2)), false)] (.dfd (.not (.var 7))) <|
   .chk [] (.dfd (.not (.bbin .neq (.proj (.var 3) 2) (.proj (.var 4) 2)))) <|
   .call [((.ite (.bbin .neq (.proj (.var 3) 2) (.proj (.var 4) 2)) (.bool true) (.not (.var 7))), false)] (.inl 15) (.cons (.mk (.cons (.fld (.proj (.var 3) 0) 0 1 false) (.cons (.fld (.proj (.var 3) 0) 1 1 false) (.cons (.fld (.proj (.var 3) 0) 2 1 false) (.cons (.fld (.proj (.var 3) 0) 3 1 false) (.cons (.fld (.proj (.var 3) 0) 4 1 false) .nil)))))) (.cons (.mk (.cons (.fld (.proj (.var 4) 0) 0 1 false) (.cons (.fld (.proj (.var 4) 0) 1 1 false) (.cons (.fld (.proj (.var 4) 0) 2 1 false) (.cons (.fld (.proj (.var 4) 0) 3 1 false) (.cons (.fld (.proj (.var 4) 0) 4 1 false) .nil)))))) .nil)) <|
   .chk [((.ite (.bbin .neq (.proj (.var 3) 2) (.proj (.var 4) 2)) (.bool true) (.not (.var 7))), false)] (.dfd (.not (.var 8))) <|
   .chk [] (.dfd (.not (.ite (.bbin .neq (.proj (.var 3) 2) (.proj (.var 4) 2)) (.bool true) (.not (.var 7))))) <|
   .chk [((.ite (.ite (.bbin .neq (.proj (.var 3) 2) (.proj (.var 4) 2)) (.bool true) (.not (.var 7))) (.bool true) (.not (.var 8))), false)] (.dfd (.bbin .neq (.proj (.var 5) 1) (.proj (.var 6) 1))) <|
   .chk [] (.dfd (.not (.ite (.ite (.bbin .neq (.proj (.var 3) 2) (.proj (.var 4) 2)) (.bool true) (.not (.var 7))) (.bool true) (.not (.var 8))))) <|
   .chk [((.ite (.ite (.ite (.bbin .neq (.proj (.var 3) 2) (.proj (.var 4) 2)) (.bool true) (.not (.var 7))) (.bool true) (.not (.var 8))) (.bool true) (.bbin .neq (.proj (.var 5) 1) (.proj (.var 6) 1))), false)] (.dfd (.bbin .neq (.proj (.var 5) 0) (.proj (.var 6) 0))) <|
   .chk [] (.dfd (.not (.ite (.ite (.ite (.bbin .neq (.proj (.var 3) 2) (.proj (.var 4) 2)) (.bool true) (.not (.var 7))) (.bool true) (.not (.var 8))) (.bool true) (.bbin .neq (.proj (.var 5) 1) (.proj (.var 6) 1))))) <|
   .ite (.ite (.ite (.ite (.ite (.bbin .neq (.proj (.var 3) 2) (.proj (.var 4) 2)) (.bool true) (.not (.var 7))) (.bool true) (.not (.var 8))) (.bool true) (.bbin .neq (.proj (.var 5) 1) (.proj (.var 6) 1))) (.bool true) (.bbin .neq (.proj (.var 5) 0) (.proj (.var 6) 0))) (
    .ret (.bool false)) (
    .call [] (.inl 10) (.cons (.mk (.cons (.fld (.proj (.var 2) 0) 0 1 false) (.cons (.fld (.proj (.var 2) 0) 1 1 false) (.cons (.fld (.proj (.var 2) 0) 2 1 false) (.cons (.fld (.proj (.var 2) 0) 3 1 false) (.cons (.fld (.proj (.var 2) 0) 4 1 false) .nil)))))) .nil) <|
    .chk [((.proj (.var 5) 1), true)] (.dfd (.not (.proj (.var 9) 1))) <|
    .chk [((.proj (.var 9) 0), true), ((.not (.proj (.var 9) 1)), false), ((.proj (.var 5) 1), true)] (.dfd (.not (.proj (.var 5) 0))) <|
    .chk [((.not (.proj (.var 9) 1)), false), ((.proj (.var 5) 1), true)] (.dfd (.not (.proj (.var 9) 0))) <|
    .chk [((.proj (.var 5) 1), true)] (.dfd (.not (.not (.proj (.var 9) 1)))) <|
    .chk [] (.dfd (.not (.proj (.var 5) 1))) <|
    .ite (.ite (.proj (.var 5) 1) (.ite (.not (.proj (.var 9) 1)) (.bool true) (.ite (.proj (.var 9) 0) (.not (.proj (.var 5) 0)) (.bool false))) (.bool false)) (
     .ret (.bool false)) (
     .call [] (.inl 32) (.cons (.var 1) .nil) <|
     .call [] (.inl 33) (.cons (.var 10) .nil) <|
     .call [] (.inl 34) (.cons (.var 10) .nil) <|
     .chk [] (.dfd (.bbin .neq (.proj (.var 11) 1) (.proj (.var 12) 1))) <|
     .call [((.bbin .neq (.proj (.var 11) 1) (.proj (.var 12) 1)), false)] (.inl 15) (.cons (.mk (.cons (.fld (.proj (.var 11) 0) 0 1 false) (.cons (.fld (.proj (.var 11) 0) 1 1 false) (.cons (.fld (.proj (.var 11) 0) 2 1 false) (.cons (.fld (.proj (.var 11) 0) 3 1 false) (.cons (.fld (.proj (.var 11) 0) 4 1 false) .nil)))))) (.cons (.mk (.cons (.fld (.proj (.var 12) 0) 0 1 false) (.cons (.fld (.proj (.var 12) 0) 1 1 false) (.cons (.fld (.proj (.var 12) 0) 2 1 false) (.cons (.fld (.proj (.var 12) 0) 3 1 false) (.cons (.fld (.proj (.var 12) 0) 4 1 false) .nil)))))) .nil)) <|
     .chk [((.bbin .neq (.proj (.var 11) 1) (.proj (.var 12) 1)), false)] (.dfd (.not (.var 13))) <|
     .chk [] (.dfd (.not (.bbin .neq (.proj (.var 11) 1) (.proj (.var 12) 1)))) <|
     .ite (.ite (.bbin .neq (.proj (.var 11) 1) (.proj (.var 12) 1)) (.bool true) (.not (.var 13))) (
      .ret (.bool false)) (
      .chk [] (.dfd (.not (.proj (.var 11) 1))) <|
      .chk [((.not (.proj (.var 11) 1)), false)] (.dfd (.not (.proj (.var 3) 2))) <|
      .chk [] (.dfd (.not (.not (.proj (.var 11) 1)))) <|
      .ite (.ite (.not (.proj (.var 11) 1)) (.bool true) (.not (.proj (.var 3) 2))) (
       .ret (.bool true)) (
       .call [] (.inl 27) (.cons (.mk (.cons (.fld (.proj (.var 11) 0) 0 1 false) (.cons (.fld (.proj (.var 11) 0) 1 1 false) (.cons (.fld (.proj (.var 11) 0) 2 1 false) (.cons (.fld (.proj (.var 11) 0) 3 1 false) (.cons (.fld (.proj (.var 11) 0) 4 1 false) .nil)))))) (.cons (.proj (.var 2) 1) .nil)) <|
       .call [] (.inl 10) (.cons (.mk (.cons (.fld (.proj (.var 14) 0) 0 1 false) (.cons (.fld (.proj (.var 14) 0) 1 1 false) (.cons (.fld (.proj (.var 14) 0) 2 1 false) (.cons (.fld (.proj (.var 14) 0) 3 1 false) (.cons (.fld (.proj (.var 14) 0) 4 1 false) .nil)))))) .nil) <|
       .call [] (.inl 29) (.cons (.mk (.cons (.fld (.proj (.var 14) 0) 0 1 false) (.cons (.fld (.proj (.var 14) 0) 1 1 false) (.cons (.fld (.proj (.var 14) 0) 2 1 false) (.cons (.fld (.proj (.var 14) 0) 3 1 false) (.cons (.fld (.proj (.var 14) 0) 4 1 false) .nil)))))) .nil) <|
       .chk [] (.dfd (.not (.proj (.var 14) 2))) <|
       .chk [] (.dfd (.not (.ite (.proj (.var 14) 2) (.proj (.var 15) 1) (.bool false)))) <|
       .chk [] (.dfd (.not (.ite (.ite (.proj (.var 14) 2) (.proj (.var 15) 1) (.bool false)) (.proj (.var 16) 1) (.bool false)))) <|
       .chk [] (.dfd (.not (.ite (.ite (.ite (.proj (.var 14) 2) (.proj (.var 15) 1) (.bool false)) (.proj (.var 16) 1) (.bool false)) (.proj (.var 15) 0) (.bool false)))) <|
       .ret (.ite (.ite (.ite (.ite (.proj (.var 14) 2) (.proj (.var 15) 1) (.bool false)) (.proj (.var 16) 1) (.bool false)) (.proj (.var 15) 0) (.bool false)) (.proj (.var 16) 0) (.bool false)))))))
theorem C_laws_FnNear : comp Try.prog sgs 5 = some T_laws_FnNear := by kernel_rfl
theorem R_laws_FnNear (a0 : List Int) (a1 : List Int) (r : Bool) (h : m_laws_FnNear a0 a1 = some r) : Rts Try.prog sgs 5 [.sl (a0.map avU8), .sl (a1.map avU8)] (.bool r) := by
  refine rts_of C_laws_FnNear (by kernel_rfl) ?_
  unfold Den T_laws_FnNear
  unfold m_laws_FnNear at h
  refine s_chk (by simp) ?_
  refine s_chk (by simp) ?_
  refine s_ite h (by simp) (fun e1 h => ?_) (fun e1 h => ?_)
  · exact s_ret (av := avB) h (by simp)
  · refine s_call avTRenewSRenewActZ2 h (fun x hx => by simpa using R_spec_DrawPlayRenew a0 x hx) (fun v2 cv2 h => ?_)
    refine s_chk (by simp) ?_
    refine s_call avTRenewSBBZ3 h (fun x hx => by simpa using R_impl_PlayRenew v2.1 v2.2 x hx) (fun v3 cv3 h => ?_)
    refine s_call avTRenewSBBZ3 h (fun x hx => by simpa using R_spec_PlayRenew v2.1 v2.2 x hx) (fun v4 cv4 h => ?_)
    refine s_call avTBBZ2 h (fun x hx => by simpa using R_impl_AreNear v2.1 x hx) (fun v5 cv5 h => ?_)
    refine s_call avTBBZ2 h (fun x hx => by simpa using R_spec_AreNear v2.1 x hx) (fun v6 cv6 h => ?_)
    refine s_chk (by simp) ?_
    refine s_split h (fun e7 h => ?_) (fun e7 h => ?_)
    · refine s_skip (by simp [e1, e7]) ?_
      refine s_chk (by simp [e1, e7]) ?_
      refine s_chk (by simp) ?_
      refine s_skip (by simp [e1, e7]) ?_
      refine s_chk (by simp [e1, e7]) ?_
      refine s_chk (by simp [e1, e7]) ?_
      refine s_chk (by simp [e1, e7]) ?_
      refine s_chk (by simp [e1, e7]) ?_
      refine s_chk (by simp [e1, e7]) ?_
      refine s_chk (by simp [e1, e7]) ?_
      refine s_iteT (by simp [e1, e7]) ?_
      exact s_ret (av := avB) h (by simp)
    · refine s_call avB h (fun x hx => by simpa using R_laws_qSameB v3.2.1 v4.2.1 x hx) (fun v8 cv8 h => ?_)
      refine s_chk (by simp) ?_
      refine s_chk (by simp) ?_
      refine s_split h (fun e9 h => ?_) (fun e9 h => ?_)
      · refine s_call avB h (fun x hx => by simpa using R_laws_qSameR v3.1 v4.1 x hx) (fun v10 cv10 h => ?_)
        refine s_chk (by simp) ?_
        refine s_chk (by simp [e1, e7, e9]) ?_
        refine s_chk (by simp) ?_
        refine s_chk (by simp [e1, e7, e9]) ?_
        refine s_chk (by simp) ?_
        refine s_chk (by simp [e1, e7, e9]) ?_
        refine s_ite h (by simp [e1, e7, e9]) (fun e11 h => ?_) (fun e11 h => ?_)
        · exact s_ret (av := avB) h (by simp)
        · refine s_call avTBBZ2 h (fun x hx => by simpa using R_impl_SoundRenew v2.1 x hx) (fun v12 cv12 h => ?_)
          refine s_chk (by simp) ?_
          refine s_chk (by simp) ?_
          refine s_chk (by simp) ?_
          refine s_chk (by simp) ?_
          refine s_chk (by simp) ?_
          refine s_ite h (by simp [e1, e7, e9, e11]) (fun e13 h => ?_) (fun e13 h => ?_)
          · exact s_ret (av := avB) h (by simp)
          · refine s_call avI64 h (fun x hx => by simpa using R_spec_DrawNewRenew a1 x hx) (fun v14 cv14 h => ?_)
            refine s_call avTRenewBZ2 h (fun x hx => by simpa using R_impl_NewRenew v14 x hx) (fun v15 cv15 h => ?_)
            refine s_call avTRenewBZ2 h (fun x hx => by simpa using R_spec_NewRenew v14 x hx) (fun v16 cv16 h => ?_)
            refine s_chk (by simp) ?_
            refine s_split h (fun e17 h => ?_) (fun e17 h => ?_)
            · refine s_skip (by simp [e1, e7, e9, e11, e13, e17]) ?_
              refine s_chk (by simp [e1, e7, e9, e11, e13, e17]) ?_
              refine s_chk (by simp) ?_
              refine s_iteT (by simp [e1, e7, e9, e11, e13, e17]) ?_
              exact s_ret (av := avB) h (by simp)
            · refine s_call avB h (fun x hx => by simpa using R_laws_qSameR v15.1 v16.1 x hx) (fun v18 cv18 h => ?_)
              refine s_chk (by simp) ?_
              refine s_chk (by simp) ?_
              refine s_ite h (by simp [e1, e7, e9, e11, e13, e17]) (fun e19 h => ?_) (fun e19 h => ?_)
              · exact s_ret (av := avB) h (by simp)
              · refine s_chk (by simp) ?_
                refine s_chk (by simp) ?_
                refine s_chk (by simp) ?_
                refine s_ite h (by simp [e1, e7, e9, e11, e13, e17, e19]) (fun e20 h => ?_) (fun e20 h => ?_)
                · exact s_ret (av := avB) h (by simp)
                · refine s_call avTRenewSBBZ3 h (fun x hx => by simpa using R_impl_PlayRenew v15.1 v2.2 x hx) (fun v21 cv21 h => ?_)
                  refine s_call avTBBZ2 h (fun x hx => by simpa using R_impl_SoundRenew v21.1 x hx) (fun v22 cv22 h => ?_)
                  refine s_call avTBBZ2 h (fun x hx => by simpa using R_impl_AreNear v21.1 x hx) (fun v23 cv23 h => ?_)
                  refine s_chk (by simp) ?_
                  refine s_chk (by simp [e1, e7, e9, e11, e13, e17, e19, e20]) ?_
                  refine s_chk (by simp [e1, e7, e9, e11, e13, e17, e19, e20]) ?_
                  refine s_chk (by simp [e1, e7, e9, e11, e13, e17, e19, e20]) ?_
                  exact s_ret (av := avB) h (by simp [e1, e7, e9, e11, e13, e17, e19, e20])
      · refine s_skip (by simp [e1, e7, e9]) ?_
        refine s_chk (by simp [e1, e7, e9]) ?_
        refine s_chk (by simp [e1, e7, e9]) ?_
        refine s_chk (by simp [e1, e7, e9]) ?_
        refine s_chk (by simp [e1, e7, e9]) ?_
        refine s_chk (by simp [e1, e7, e9]) ?_
        refine s_chk (by simp [e1, e7, e9]) ?_
        refine s_iteT (by simp [e1, e7, e9]) ?_
        exact s_ret (av := avB) h (by simp)
def T_laws_szRenewActS : Tr :=
  .chk [] (.dfd (.len (.var 0))) <|
  .chk [] (.dfd (.bin .sub (.var 1) (.len (.var 0)))) <|
  .chk [] (.dfd (.bin .lss (.bin .sub (.var 1) (.len (.var 0))) (.int .i64 (0)))) <|
  .ite (.bin .lss (.bin .sub (.var 1) (.len (.var 0))) (.int .i64 (0))) (
   .ret (.int .i64 (-1))) (
   .ret (.bin .sub (.var 1) (.len (.var 0))))
theorem C_laws_szRenewActS : comp Try.prog sgs 35 = some T_laws_szRenewActS := by kernel_rfl
theorem R_laws_szRenewActS (a0 : List DRenewAct) (a1 : Int) (r : Int) (h : m_laws_szRenewActS a0 a1 = some r) : Rts Try.prog sgs 35 [.sl (a0.map avRenewAct), .int .i64 a1] (.int .i64 r) := by
  refine rts_of C_laws_szRenewActS (by kernel_rfl) ?_
  unfold Den T_laws_szRenewActS
  unfold m_laws_szRenewActS at h
  refine s_chk (by simp) ?_
  refine s_chk (by simp) ?_
  refine s_chk (by simp) ?_
  refine s_ite h (by simp) (fun e1 h => ?_) (fun e1 h => ?_)
  · exact s_ret (av := avI64) h (by simp)
  · exact s_ret (av := avI64) h (by simp)
def T_laws_toRenewActS : Tr :=
  .chk [] (.dfd (.len (.var 0))) <|
  .chk [] (.mkroom (.len (.var 0)) 24) <|
  .loop (.cons (.int .i64 (0)) (.cons (.rep (.len (.var 0)) (.mk (.cons (.int .i64 (0)) (.cons (.int .i64 (0)) (.cons (.int .i64 (0)) .nil))))) .nil)) (
   .chk [] (.dfd (.len (.var 0))) <|
   .chk [] (.dfd (.bin .lss (.var 1) (.len (.var 0)))) <|
   .ite (.bin .lss (.var 1) (.len (.var 0))) (
    .chk [] (.inb (.var 1) (.var 0) 3) <|
    .call [] (.inl 22) (.cons (.fld (.idx (.var 0) (.var 1)) 0 3 true) .nil) <|
    .chk [] (.inb (.var 1) (.var 2) 3) <|
    .chk [] (.flat (.var 3) 3 true) <|
    .chk [] (.flat (.fld (.idx (.var 2) (.var 1)) 0 3 true) 3 true) <|
    .chk [] (.dfd (.bin .add (.var 1) (.int .i64 (1)))) <|
    .jmp 0 (.cons (.bin .add (.var 1) (.int .i64 (1))) (.cons (.set (.var 2) (.var 1) (.put (.idx (.var 2) (.var 1)) 0 (.var 3) true)) .nil))) (
    .jmp 1 (.cons (.var 2) .nil))) (
   .ret (.var 1))
theorem C_laws_toRenewActS : comp Try.prog sgs 36 = some T_laws_toRenewActS := by kernel_rfl
theorem R_laws_toRenewActS (a0 : List DRenewAct) (r : List DRenewAct) (h : m_laws_toRenewActS a0 = some r) : Rts Try.prog sgs 36 [.sl (a0.map avRenewAct)] (.sl (r.map avRenewAct)) := by
  refine rts_of C_laws_toRenewActS (by kernel_rfl) ?_
  unfold Den T_laws_toRenewActS
  unfold m_laws_toRenewActS at h
  refine s_chk (by simp) ?_
  obtain ⟨q1, h⟩ := reqE h
  refine s_chk (fun _ => c_mkroom (kk := .i64) (k := (a0.length : Int)) (by simp) (by simpa using q1)) ?_
  refine s_loop (fun s : Int × List DRenewAct => [.int .i64 s.1, .sl (s.2.map avRenewAct)]) h (by simp) (fun W1 A1 s o1 h hn1 hf1 hk1 => ?_)
  obtain ⟨v2, v3⟩ := s
  replace h : m_laws_toRenewActS_b1 a0 v2 v3 = some o1 := h
  unfold m_laws_toRenewActS_b1 at h
  refine s_chk (by simp) ?_
  refine s_chk (by simp) ?_
  refine s_ite h (by simp) (fun e4 h => ?_) (fun e4 h => ?_)
  · obtain ⟨y5, hy5, h⟩ := bindE h
    have hy5' := (getIE hy5).2.2
    refine s_chk (fun _ => c_inb (kk := .i64) (f := avRenewAct) (by simp) (by simp) hy5 (by simp)) ?_
    refine s_call avRenewAct h (fun x hx => by simpa [e4, hy5'] using R_laws_toRenewAct y5 x hx) (fun v6 cv6 h => ?_)
    obtain ⟨y7, hy7, h⟩ := bindE h
    have hy7' := (getIE hy7).2.2
    refine s_chk (fun _ => c_inb (kk := .i64) (f := avRenewAct) (by simp) (by simp) hy7 (by simp)) ?_
    refine s_chk (by simp) ?_
    refine s_chk (by simp [e4, hy5', hy7']) ?_
    refine s_chk (by simp) ?_
    exact s_jmp (K := fun s => some (Sum.inl s)) (s := ((IntKind.i64.wrap (v2 + 1)), (v3.set (v2).toNat v6))) hn1 h rfl (by simp [e4, hy5', hy7'])
  · refine s_jmpI hk1 rfl (vs := [.sl (v3.map avRenewAct)]) (by simp) ?_
    replace h := (hf1 _ h)
    exact s_ret (av := avSRenewAct) h (by simp)
def T_laws_eqBoolS : Tr :=
  .chk [] (.dfd (.len (.var 0))) <|
  .chk [] (.dfd (.len (.var 1))) <|
  .ite (.bin .neq (.len (.var 0)) (.len (.var 1))) (
   .ret (.bool false)) (
   .loop (.cons (.int .i64 (0)) .nil) (
    .chk [] (.dfd (.len (.var 0))) <|
    .chk [] (.dfd (.bin .lss (.var 2) (.len (.var 0)))) <|
    .ite (.bin .lss (.var 2) (.len (.var 0))) (
     .chk [] (.inb (.var 2) (.var 0) 1) <|
     .chk [] (.inb (.var 2) (.var 1) 1) <|
     .chk [] (.dfd (.bbin .neq (.fld (.idx (.var 0) (.var 2)) 0 1 false) (.fld (.idx (.var 1) (.var 2)) 0 1 false))) <|
     .ite (.bbin .neq (.fld (.idx (.var 0) (.var 2)) 0 1 false) (.fld (.idx (.var 1) (.var 2)) 0 1 false)) (
      .ret (.bool false)) (
      .chk [] (.dfd (.bin .add (.var 2) (.int .i64 (1)))) <|
      .jmp 0 (.cons (.bin .add (.var 2) (.int .i64 (1))) .nil))) (
     .jmp 1 .nil)) (
    .ret (.bool true)))
theorem C_laws_eqBoolS : comp Try.prog sgs 37 = some T_laws_eqBoolS := by kernel_rfl
theorem R_laws_eqBoolS (a0 : List Bool) (a1 : List Bool) (r : Bool) (h : m_laws_eqBoolS a0 a1 = some r) : Rts Try.prog sgs 37 [.sl (a0.map avB), .sl (a1.map avB)] (.bool r) := by
  refine rts_of C_laws_eqBoolS (by kernel_rfl) ?_
  unfold Den T_laws_eqBoolS
  unfold m_laws_eqBoolS at h
  refine s_chk (by simp) ?_
  refine s_chk (by simp) ?_
  refine s_ite h (by simp) (fun e1 h => ?_) (fun e1 h => ?_)
  · exact s_ret (av := avB) h (by simp)
  · refine s_loop (fun s : Int => [.int .i64 s]) h (by simp) (fun W1 A1 v2 o1 h hn1 hf1 hk1 => ?_)
    replace h : m_laws_eqBoolS_b1 a0 a1 v2 = some o1 := h
    unfold m_laws_eqBoolS_b1 at h
    refine s_chk (by simp) ?_
    refine s_chk (by simp) ?_
    refine s_ite h (by simp) (fun e3 h => ?_) (fun e3 h => ?_)
    · obtain ⟨y4, hy4, h⟩ := bindE h
      have hy4' := (getIE hy4).2.2
      refine s_chk (fun _ => c_inb (kk := .i64) (f := avB) (by simp) (by simp) hy4 (by simp)) ?_
      obtain ⟨y5, hy5, h⟩ := bindE h
      have hy5' := (getIE hy5).2.2
      refine s_chk (fun _ => c_inb (kk := .i64) (f := avB) (by simp) (by simp) hy5 (by simp)) ?_
      refine s_chk (by simp [e1, e3, hy4', hy5']) ?_
      refine s_ite h (by simp [e1, e3, hy4', hy5']) (fun e6 h => ?_) (fun e6 h => ?_)
      · exact s_ret (av := avB) (hf1 _ h) (by simp)
      · refine s_chk (by simp) ?_
        exact s_jmp (K := fun s => some (Sum.inl s)) (s := (IntKind.i64.wrap (v2 + 1))) hn1 h rfl (by simp)
    · refine s_jmpI hk1 rfl (vs := []) (by simp) ?_
      replace h := (hf1 _ h)
      exact s_ret (av := avB) h (by simp)
def T_laws_eqRenewAct : Tr :=
  .chk [] (.agg (.var 0) 3) <|
  .chk [] (.agg (.var 1) 3) <|
  .chk [] (.dfd (.bin .neq (.fld (.var 0) 0 1 false) (.fld (.var 1) 0 1 false))) <|
  .ite (.bin .neq (.fld (.var 0) 0 1 false) (.fld (.var 1) 0 1 false)) (
   .ret (.bool false)) (
   .chk [] (.dfd (.bin .neq (.fld (.var 0) 1 1 false) (.fld (.var 1) 1 1 false))) <|
   .ite (.bin .neq (.fld (.var 0) 1 1 false) (.fld (.var 1) 1 1 false)) (
    .ret (.bool false)) (
    .chk [] (.dfd (.bin .neq (.fld (.var 0) 2 1 false) (.fld (.var 1) 2 1 false))) <|
    .ite (.bin .neq (.fld (.var 0) 2 1 false) (.fld (.var 1) 2 1 false)) (
     .ret (.bool false)) (
     .ret (.bool true))))
theorem C_laws_eqRenewAct : comp Try.prog sgs 85 = some T_laws_eqRenewAct := by kernel_rfl
theorem R_laws_eqRenewAct (a0 : DRenewAct) (a1 : DRenewAct) (r : Bool) (h : m_laws_eqRenewAct a0 a1 = some r) : Rts Try.prog sgs 85 [avRenewAct a0, avRenewAct a1] (.bool r) := by
  refine rts_of C_laws_eqRenewAct (by kernel_rfl) ?_
  unfold Den T_laws_eqRenewAct
  unfold m_laws_eqRenewAct at h
  refine s_chk (by simp) ?_
  refine s_chk (by simp) ?_
  refine s_chk (by simp) ?_
  refine s_ite h (by simp) (fun e1 h => ?_) (fun e1 h => ?_)
  · exact s_ret (av := avB) h (by simp)
  · refine s_chk (by simp) ?_
    refine s_ite h (by simp) (fun e2 h => ?_) (fun e2 h => ?_)
    · exact s_ret (av := avB) h (by simp)
    · refine s_chk (by simp) ?_
      refine s_ite h (by simp) (fun e3 h => ?_) (fun e3 h => ?_)
      · exact s_ret (av := avB) h (by simp)
      · exact s_ret (av := avB) h (by simp)
def T_laws_eqRenewActS : Tr :=
  .chk [] (.dfd (.len (.var 0))) <|
  .chk [] (.dfd (.len (.var 1))) <|
  .ite (.bin .neq (.len (.var 0)) (.len (.var 1))) (
   .ret (.bool false)) (
   .loop (.cons (.int .i64 (0)) .nil) (
    .chk [] (.dfd (.len (.var 0))) <|
    .chk [] (.dfd (.bin .lss (.var 2) (.len (.var 0)))) <|
    .ite (.bin .lss (.var 2) (.len (.var 0))) (
     .chk [] (.inb (.var 2) (.var 0) 3) <|
     .chk [] (.inb (.var 2) (.var 1) 3) <|
     .call [] (.inl 85) (.cons (.fld (.idx (.var 0) (.var 2)) 0 3 true) (.cons (.fld (.idx (.var 1) (.var 2)) 0 3 true) .nil)) <|
     .chk [] (.dfd (.not (.var 3))) <|
     .ite (.not (.var 3)) (
      .ret (.bool false)) (
      .chk [] (.dfd (.bin .add (.var 2) (.int .i64 (1)))) <|
      .jmp 0 (.cons (.bin .add (.var 2) (.int .i64 (1))) .nil))) (
     .jmp 1 .nil)) (
    .ret (.bool true)))
theorem C_laws_eqRenewActS : comp Try.prog sgs 38 = some T_laws_eqRenewActS := by kernel_rfl
theorem R_laws_eqRenewActS (a0 : List DRenewAct) (a1 : List DRenewAct) (r : Bool) (h : m_laws_eqRenewActS a0 a1 = some r) : Rts Try.prog sgs 38 [.sl (a0.map avRenewAct), .sl (a1.map avRenewAct)] (.bool r) := by
  refine rts_of C_laws_eqRenewActS (by kernel_rfl) ?_
  unfold Den T_laws_eqRenewActS
  unfold m_laws_eqRenewActS at h
  refine s_chk (by simp) ?_
  refine s_chk (by simp) ?_
  refine s_ite h (by simp) (fun e1 h => ?_) (fun e1 h => ?_)
  · exact s_ret (av := avB) h (by simp)
  · refine s_loop (fun s : Int => [.int .i64 s]) h (by simp) (fun W1 A1 v2 o1 h hn1 hf1 hk1 => ?_)
    replace h : m_laws_eqRenewActS_b1 a0 a1 v2 = some o1 := h
    unfold m_laws_eqRenewActS_b1 at h
    refine s_chk (by simp) ?_
    refine s_chk (by simp) ?_
    refine s_ite h (by simp) (fun e3 h => ?_) (fun e3 h => ?_)
    · obtain ⟨y4, hy4, h⟩ := bindE h
      have hy4' := (getIE hy4).2.2
      refine s_chk (fun _ => c_inb (kk := .i64) (f := avRenewAct) (by simp) (by simp) hy4 (by simp)) ?_
      obtain ⟨y5, hy5, h⟩ := bindE h
      have hy5' := (getIE hy5).2.2
      refine s_chk (fun _ => c_inb (kk := .i64) (f := avRenewAct) (by simp) (by simp) hy5 (by simp)) ?_
      refine s_call avB h (fun x hx => by simpa [e1, e3, hy4', hy5'] using R_laws_eqRenewAct y4 y5 x hx) (fun v6 cv6 h => ?_)
      refine s_chk (by simp) ?_
      refine s_ite h (by simp) (fun e7 h => ?_) (fun e7 h => ?_)
      · exact s_ret (av := avB) (hf1 _ h) (by simp)
      · refine s_chk (by simp) ?_
        exact s_jmp (K := fun s => some (Sum.inl s)) (s := (IntKind.i64.wrap (v2 + 1))) hn1 h rfl (by simp)
    · refine s_jmpI hk1 rfl (vs := []) (by simp) ?_
      replace h := (hf1 _ h)
      exact s_ret (av := avB) h (by simp)
def T_laws_markRenewActS : Tr :=
  .loop (.cons (.var 1) (.cons (.int .i64 (0)) (.cons (.var 0) .nil))) (
   .chk [] (.dfd (.len (.var 4))) <|
   .chk [] (.dfd (.bin .lss (.var 3) (.len (.var 4)))) <|
   .ite (.bin .lss (.var 3) (.len (.var 4))) (
    .chk [] (.inb (.var 3) (.var 4) 3) <|
    .chk [] (.flat (.var 2) 1 false) <|
    .chk [] (.flat (.fld (.idx (.var 4) (.var 3)) 0 1 false) 1 false) <|
    .chk [] (.dfd (.bin .add (.var 2) (.int .i64 (1)))) <|
    .chk [] (.inb (.var 3) (.set (.var 4) (.var 3) (.put (.idx (.var 4) (.var 3)) 0 (.var 2) true)) 3) <|
    .chk [] (.flat (.bin .add (.var 2) (.int .i64 (1))) 1 false) <|
    .chk [] (.flat (.fld (.idx (.set (.var 4) (.var 3) (.put (.idx (.var 4) (.var 3)) 0 (.var 2) true)) (.var 3)) 1 1 false) 1 false) <|
    .chk [] (.dfd (.bin .add (.bin .add (.var 2) (.int .i64 (1))) (.int .i64 (1)))) <|
    .chk [] (.inb (.var 3) (.set (.set (.var 4) (.var 3) (.put (.idx (.var 4) (.var 3)) 0 (.var 2) true)) (.var 3) (.put (.idx (.set (.var 4) (.var 3) (.put (.idx (.var 4) (.var 3)) 0 (.var 2) true)) (.var 3)) 1 (.bin .add (.var 2) (.int .i64 (1))) true)) 3) <|
    .chk [] (.flat (.bin .add (.bin .add (.var 2) (.int .i64 (1))) (.int .i64 (1))) 1 false) <|
    .chk [] (.flat (.fld (.idx (.set (.set (.var 4) (.var 3) (.put (.idx (.var 4) (.var 3)) 0 (.var 2) true)) (.var 3) (.put (.idx (.set (.var 4) (.var 3) (.put (.idx (.var 4) (.var 3)) 0 (.var 2) true)) (.var 3)) 1 (.bin .add (.var 2) (.int .i64 (1))) true)) (.var 3)) 2 1 false) 1 false) <|
    .chk [] (.dfd (.bin .add (.bin .add (.bin .add (.var 2) (.int .i64 (1))) (.int .i64 (1))) (.int .i64 (1)))) <|
    .chk [] (.dfd (.bin .add (.var 3) (.int .i64 (1)))) <|
    .jmp 0 (.cons (.bin .add (.bin .add (.bin .add (.var 2) (.int .i64 (1))) (.int .i64 (1))) (.int .i64 (1))) (.cons (.bin .add (.var 3) (.int .i64 (1))) (.cons (.set (.set (.set (.var 4) (.var 3) (.put (.idx (.var 4) (.var 3)) 0 (.var 2) true)) (.var 3) (.put (.idx (.set (.var 4) (.var 3) (.put (.idx (.var 4) (.var 3)) 0 (.var 2) true)) (.var 3)) 1 (.bin .add (.var 2) (.int .i64 (1))) true)) (.var 3) (.put (.idx (.set (.set (.var 4) (.var 3) (.put (.idx (.var 4) (.var 3)) 0 (.var 2) true)) (.var 3) (.put (.idx (.set (.var 4) (.var 3) (.put (.idx (.var 4) (.var 3)) 0 (.var 2) true)) (.var 3)) 1 (.bin .add (.var 2) (.int .i64 (1))) true)) (.var 3)) 2 (.bin .add (.bin .add (.var 2) (.int .i64 (1))) (.int .i64 (1))) true)) .nil)))) (
    .jmp 1 (.cons (.var 2) (.cons (.var 4) .nil)))) (
   .ret (.tup (.cons (.var 2) (.cons (.var 3) .nil))))
theorem C_laws_markRenewActS : comp Try.prog sgs 39 = some T_laws_markRenewActS := by kernel_rfl
theorem R_laws_markRenewActS (a0 : List DRenewAct) (a1 : Int) (r : Int × List DRenewAct) (h : m_laws_markRenewActS a0 a1 = some r) : Rts Try.prog sgs 39 [.sl (a0.map avRenewAct), .int .i64 a1] (avTI64SRenewActZ2 r) := by
  refine rts_of C_laws_markRenewActS (by kernel_rfl) ?_
  unfold Den T_laws_markRenewActS
  unfold m_laws_markRenewActS at h
  refine s_loop (fun s : Int × Int × List DRenewAct => [.int .i64 s.1, .int .i64 s.2.1, .sl (s.2.2.map avRenewAct)]) h (by simp) (fun W1 A1 s o1 h hn1 hf1 hk1 => ?_)
  obtain ⟨v1, v2, v3⟩ := s
  replace h : m_laws_markRenewActS_b1 v1 v2 v3 = some o1 := h
  unfold m_laws_markRenewActS_b1 at h
  refine s_chk (by simp) ?_
  refine s_chk (by simp) ?_
  refine s_ite h (by simp) (fun e4 h => ?_) (fun e4 h => ?_)
  · obtain ⟨y5, hy5, h⟩ := bindE h
    have hy5' := (getIE hy5).2.2
    refine s_chk (fun _ => c_inb (kk := .i64) (f := avRenewAct) (by simp) (by simp) hy5 (by simp)) ?_
    refine s_chk (by simp) ?_
    refine s_chk (by simp [e4, hy5']) ?_
    refine s_chk (by simp) ?_
    refine s_chk (fun _ => c_inb (kk := .i64) (f := avRenewAct) (by simp) (by simp [e4, hy5']) (getI_set hy5 { y5 with fKind := v1 }) (by simp)) ?_
    refine s_chk (by simp) ?_
    refine s_chk (by simp [e4, hy5']) ?_
    refine s_chk (by simp) ?_
    refine s_chk (fun _ => c_inb (kk := .i64) (f := avRenewAct) (by simp) (by simp [e4, hy5']) (getI_set (getI_set hy5 { y5 with fKind := v1 }) { { y5 with fKind := v1 } with fWho := (IntKind.i64.wrap (v1 + 1)) }) (by simp)) ?_
    refine s_chk (by simp) ?_
    refine s_chk (by simp [e4, hy5']) ?_
    refine s_chk (by simp) ?_
    refine s_chk (by simp) ?_
    exact s_jmp (K := fun s => some (Sum.inl s)) (s := ((IntKind.i64.wrap ((IntKind.i64.wrap ((IntKind.i64.wrap (v1 + 1)) + 1)) + 1)), (IntKind.i64.wrap (v2 + 1)), (((v3.set (v2).toNat { y5 with fKind := v1 }).set (v2).toNat { { y5 with fKind := v1 } with fWho := (IntKind.i64.wrap (v1 + 1)) }).set (v2).toNat { { { y5 with fKind := v1 } with fWho := (IntKind.i64.wrap (v1 + 1)) } with fBy := (IntKind.i64.wrap ((IntKind.i64.wrap (v1 + 1)) + 1)) }))) hn1 h rfl (by simp [e4, hy5'])
  · refine s_jmpI hk1 rfl (vs := [.int .i64 v1, .sl (v3.map avRenewAct)]) (by simp) ?_
    replace h := (hf1 _ h)
    exact s_ret (av := avTI64SRenewActZ2) h (by simp)
def T_laws_markBoolS : Tr :=
  .loop (.cons (.var 1) (.cons (.int .i64 (0)) (.cons (.var 0) .nil))) (
   .chk [] (.dfd (.len (.var 4))) <|
   .chk [] (.dfd (.bin .lss (.var 3) (.len (.var 4)))) <|
   .ite (.bin .lss (.var 3) (.len (.var 4))) (
    .chk [] (.nz (.int .i64 (3))) <|
    .chk [] (.dfd (.bin .rem (.var 2) (.int .i64 (3)))) <|
    .chk [] (.dfd (.bin .eql (.bin .rem (.var 2) (.int .i64 (3))) (.int .i64 (0)))) <|
    .chk [] (.inb (.var 3) (.var 4) 1) <|
    .chk [] (.flat (.bin .eql (.bin .rem (.var 2) (.int .i64 (3))) (.int .i64 (0))) 1 false) <|
    .chk [] (.flat (.fld (.idx (.var 4) (.var 3)) 0 1 false) 1 false) <|
    .chk [] (.dfd (.bin .add (.var 2) (.int .i64 (1)))) <|
    .chk [] (.dfd (.bin .add (.var 3) (.int .i64 (1)))) <|
    .jmp 0 (.cons (.bin .add (.var 2) (.int .i64 (1))) (.cons (.bin .add (.var 3) (.int .i64 (1))) (.cons (.set (.var 4) (.var 3) (.put (.idx (.var 4) (.var 3)) 0 (.bin .eql (.bin .rem (.var 2) (.int .i64 (3))) (.int .i64 (0))) false)) .nil)))) (
    .jmp 1 (.cons (.var 2) (.cons (.var 4) .nil)))) (
   .ret (.tup (.cons (.var 2) (.cons (.var 3) .nil))))
theorem C_laws_markBoolS : comp Try.prog sgs 40 = some T_laws_markBoolS := by kernel_rfl
theorem R_laws_markBoolS (a0 : List Bool) (a1 : Int) (r : Int × List Bool) (h : m_laws_markBoolS a0 a1 = some r) : Rts Try.prog sgs 40 [.sl (a0.map avB), .int .i64 a1] (avTI64SBZ2 r) := by
  refine rts_of C_laws_markBoolS (by kernel_rfl) ?_
  unfold Den T_laws_markBoolS
  unfold m_laws_markBoolS at h
  refine s_loop (fun s : Int × Int × List Bool => [.int .i64 s.1, .int .i64 s.2.1, .sl (s.2.2.map avB)]) h (by simp) (fun W1 A1 s o1 h hn1 hf1 hk1 => ?_)
  obtain ⟨v1, v2, v3⟩ := s
  replace h : m_laws_markBoolS_b1 v1 v2 v3 = some o1 := h
  unfold m_laws_markBoolS_b1 at h
  refine s_chk (by simp) ?_
  refine s_chk (by simp) ?_
  refine s_ite h (by simp) (fun e4 h => ?_) (fun e4 h => ?_)
  · refine s_chk (fun _ => c_nz (kk := .i64) (n := 3) (by simp) (by simp)) ?_
    refine s_chk (by simp) ?_
    refine s_chk (by simp) ?_
    obtain ⟨y5, hy5, h⟩ := bindE h
    have hy5' := (getIE hy5).2.2
    refine s_chk (fun _ => c_inb (kk := .i64) (f := avB) (by simp) (by simp) hy5 (by simp)) ?_
    refine s_chk (by simp) ?_
    refine s_chk (by simp [e4, hy5']) ?_
    refine s_chk (by simp) ?_
    refine s_chk (by simp) ?_
    exact s_jmp (K := fun s => some (Sum.inl s)) (s := ((IntKind.i64.wrap (v1 + 1)), (IntKind.i64.wrap (v2 + 1)), (v3.set (v2).toNat ((Int.tmod v1 3) == 0)))) hn1 h rfl (by simp [e4, hy5'])
  · refine s_jmpI hk1 rfl (vs := [.int .i64 v1, .sl (v3.map avB)]) (by simp) ?_
    replace h := (hf1 _ h)
    exact s_ret (av := avTI64SBZ2) h (by simp)
def T_laws_heldBoolS : Tr :=
  .loop (.cons (.var 1) (.cons (.int .i64 (0)) .nil)) (
   .chk [] (.dfd (.len (.var 0))) <|
   .chk [] (.dfd (.bin .lss (.var 3) (.len (.var 0)))) <|
   .ite (.bin .lss (.var 3) (.len (.var 0))) (
    .chk [] (.inb (.var 3) (.var 0) 1) <|
    .chk [] (.nz (.int .i64 (3))) <|
    .chk [] (.dfd (.bin .rem (.var 2) (.int .i64 (3)))) <|
    .chk [] (.dfd (.bin .eql (.bin .rem (.var 2) (.int .i64 (3))) (.int .i64 (0)))) <|
    .chk [] (.dfd (.bbin .neq (.fld (.idx (.var 0) (.var 3)) 0 1 false) (.bin .eql (.bin .rem (.var 2) (.int .i64 (3))) (.int .i64 (0))))) <|
    .ite (.bbin .neq (.fld (.idx (.var 0) (.var 3)) 0 1 false) (.bin .eql (.bin .rem (.var 2) (.int .i64 (3))) (.int .i64 (0)))) (
     .ret (.int .i64 (-1))) (
     .chk [] (.dfd (.bin .add (.var 2) (.int .i64 (1)))) <|
     .chk [] (.dfd (.bin .add (.var 3) (.int .i64 (1)))) <|
     .jmp 0 (.cons (.bin .add (.var 2) (.int .i64 (1))) (.cons (.bin .add (.var 3) (.int .i64 (1))) .nil)))) (
    .jmp 1 (.cons (.var 2) .nil))) (
   .ret (.var 2))
theorem C_laws_heldBoolS : comp Try.prog sgs 41 = some T_laws_heldBoolS := by kernel_rfl
theorem R_laws_heldBoolS (a0 : List Bool) (a1 : Int) (r : Int) (h : m_laws_heldBoolS a0 a1 = some r) : Rts Try.prog sgs 41 [.sl (a0.map avB), .int .i64 a1] (.int .i64 r) := by
  refine rts_of C_laws_heldBoolS (by kernel_rfl) ?_
  unfold Den T_laws_heldBoolS
  unfold m_laws_heldBoolS at h
  refine s_loop (fun s : Int × Int => [.int .i64 s.1, .int .i64 s.2]) h (by simp) (fun W1 A1 s o1 h hn1 hf1 hk1 => ?_)
  obtain ⟨v1, v2⟩ := s
  replace h : m_laws_heldBoolS_b1 a0 v1 v2 = some o1 := h
  unfold m_laws_heldBoolS_b1 at h
  refine s_chk (by simp) ?_
  refine s_chk (by simp) ?_
  refine s_ite h (by simp) (fun e3 h => ?_) (fun e3 h => ?_)
  · obtain ⟨y4, hy4, h⟩ := bindE h
    have hy4' := (getIE hy4).2.2
    refine s_chk (fun _ => c_inb (kk := .i64) (f := avB) (by simp) (by simp) hy4 (by simp)) ?_
    refine s_chk (fun _ => c_nz (kk := .i64) (n := 3) (by simp) (by simp)) ?_
    refine s_chk (by simp) ?_
    refine s_chk (by simp) ?_
    refine s_chk (by simp [e3, hy4']) ?_
    refine s_ite h (by simp [e3, hy4']) (fun e5 h => ?_) (fun e5 h => ?_)
    · exact s_ret (av := avI64) (hf1 _ h) (by simp)
    · refine s_chk (by simp) ?_
      refine s_chk (by simp) ?_
      exact s_jmp (K := fun s => some (Sum.inl s)) (s := ((IntKind.i64.wrap (v1 + 1)), (IntKind.i64.wrap (v2 + 1)))) hn1 h rfl (by simp)
  · refine s_jmpI hk1 rfl (vs := [.int .i64 v1]) (by simp) ?_
    replace h := (hf1 _ h)
    exact s_ret (av := avI64) h (by simp)
def T_laws_FnExactPlayRenew : Tr :=
  .chk [] (.agg (.var 0) 5) <|
  .call [] (.inl 20) (.cons (.mk (.cons (.fld (.var 0) 0 1 false) (.cons (.fld (.var 0) 1 1 false) (.cons (.fld (.var 0) 2 1 false) (.cons (.fld (.var 0) 3 1 false) (.cons (.fld (.var 0) 4 1 false) .nil)))))) (.cons (.int .i64 (1048576)) .nil)) <|
  .chk [] (.dfd (.bin .lss (.var 2) (.int .i64 (0)))) <|
  .ite (.bin .lss (.var 2) (.int .i64 (0))) (
   .ret (.bool true)) (
   .call [] (.inl 35) (.cons (.var 1) (.cons (.var 2) .nil)) <|
   .chk [] (.dfd (.bin .lss (.var 3) (.int .i64 (0)))) <|
   .ite (.bin .lss (.var 3) (.int .i64 (0))) (
    .ret (.bool true)) (
    .call [] (.inl 21) (.cons (.mk (.cons (.fld (.var 0) 0 1 false) (.cons (.fld (.var 0) 1 1 false) (.cons (.fld (.var 0) 2 1 false) (.cons (.fld (.var 0) 3 1 false) (.cons (.fld (.var 0) 4 1 false) .nil)))))) .nil) <|
    .call [] (.inl 36) (.cons (.var 1) .nil) <|
    .call [] (.inl 28) (.cons (.mk (.cons (.fld (.var 4) 0 1 false) (.cons (.fld (.var 4) 1 1 false) (.cons (.fld (.var 4) 2 1 false) (.cons (.fld (.var 4) 3 1 false) (.cons (.fld (.var 4) 4 1 false) .nil)))))) (.cons (.var 5) .nil)) <|
    .call [] (.inl 21) (.cons (.mk (.cons (.fld (.var 0) 0 1 false) (.cons (.fld (.var 0) 1 1 false) (.cons (.fld (.var 0) 2 1 false) (.cons (.fld (.var 0) 3 1 false) (.cons (.fld (.var 0) 4 1 false) .nil)))))) .nil) <|
    .call [] (.inl 36) (.cons (.var 1) .nil) <|
    .call [] (.inl 27) (.cons (.mk (.cons (.fld (.var 7) 0 1 false) (.cons (.fld (.var 7) 1 1 false) (.cons (.fld (.var 7) 2 1 false) (.cons (.fld (.var 7) 3 1 false) (.cons (.fld (.var 7) 4 1 false) .nil)))))) (.cons (.var 8) .nil)) <|
    .call [] (.inl 23) (.cons (.mk (.cons (.fld (.proj (.var 9) 0) 0 1 false) (.cons (.fld (.proj (.var 9) 0) 1 1 false) (.cons (.fld (.proj (.var 9) 0) 2 1 false) (.cons (.fld (.proj (.var 9) 0) 3 1 false) (.cons (.fld (.proj (.var 9) 0) 4 1 false) .nil)))))) (.cons (.mk (.cons (.fld (.proj (.var 6) 0) 0 1 false) (.cons (.fld (.proj (.var 6) 0) 1 1 false) (.cons (.fld (.proj (.var 6) 0) 2 1 false) (.cons (.fld (.proj (.var 6) 0) 3 1 false) (.cons (.fld (.proj (.var 6) 0) 4 1 false) .nil)))))) .nil)) <|
    .chk [] (.dfd (.not (.var 10))) <|
    .call [((.not (.var 10)), false)] (.inl 37) (.cons (.proj (.var 9) 1) (.cons (.proj (.var 6) 1) .nil)) <|
    .chk [((.not (.var 10)), false)] (.dfd (.not (.var 11))) <|
    .chk [] (.dfd (.not (.not (.var 10)))) <|
    .chk [((.ite (.not (.var 10)) (.bool true) (.not (.var 11))), false)] (.dfd (.bbin .neq (.proj (.var 9) 2) (.proj (.var 6) 2))) <|
    .chk [] (.dfd (.not (.ite (.not (.var 10)) (.bool true) (.not (.var 11))))) <|
    .ite (.ite (.ite (.not (.var 10)) (.bool true) (.not (.var 11))) (.bool true) (.bbin .neq (.proj (.var 9) 2) (.proj (.var 6) 2))) (
     .ret (.bool false)) (
     .call [] (.inl 21) (.cons (.mk (.cons (.fld (.var 0) 0 1 false) (.cons (.fld (.var 0) 1 1 false) (.cons (.fld (.var 0) 2 1 false) (.cons (.fld (.var 0) 3 1 false) (.cons (.fld (.var 0) 4 1 false) .nil)))))) .nil) <|
     .call [] (.inl 23) (.cons (.mk (.cons (.fld (.var 7) 0 1 false) (.cons (.fld (.var 7) 1 1 false) (.cons (.fld (.var 7) 2 1 false) (.cons (.fld (.var 7) 3 1 false) (.cons (.fld (.var 7) 4 1 false) .nil)))))) (.cons (.mk (.cons (.fld (.var 12) 0 1 false) (.cons (.fld (.var 12) 1 1 false) (.cons (.fld (.var 12) 2 1 false) (.cons (.fld (.var 12) 3 1 false) (.cons (.fld (.var 12) 4 1 false) .nil)))))) .nil)) <|
     .chk [] (.dfd (.not (.var 13))) <|
     .ite (.not (.var 13)) (
      .ret (.bool false)) (
      .call [] (.inl 36) (.cons (.var 1) .nil) <|
      .call [] (.inl 38) (.cons (.var 8) (.cons (.var 14) .nil)) <|
      .chk [] (.dfd (.not (.var 15))) <|
      .ite (.not (.var 15)) (
       .ret (.bool false)) (
       .call [] (.inl 24) (.cons (.mk (.cons (.fld (.var 7) 0 1 false) (.cons (.fld (.var 7) 1 1 false) (.cons (.fld (.var 7) 2 1 false) (.cons (.fld (.var 7) 3 1 false) (.cons (.fld (.var 7) 4 1 false) .nil)))))) (.cons (.int .i64 (1)) .nil)) <|
       .call [] (.inl 39) (.cons (.var 8) (.cons (.proj (.var 16) 0) .nil)) <|
       .chk [] (.dfd (.bin .lss (.proj (.var 17) 0) (.int .i64 (0)))) <|
       .call [((.bin .lss (.proj (.var 17) 0) (.int .i64 (0))), false)] (.inl 23) (.cons (.mk (.cons (.fld (.proj (.var 9) 0) 0 1 false) (.cons (.fld (.proj (.var 9) 0) 1 1 false) (.cons (.fld (.proj (.var 9) 0) 2 1 false) (.cons (.fld (.proj (.var 9) 0) 3 1 false) (.cons (.fld (.proj (.var 9) 0) 4 1 false) .nil)))))) (.cons (.mk (.cons (.fld (.proj (.var 6) 0) 0 1 false) (.cons (.fld (.proj (.var 6) 0) 1 1 false) (.cons (.fld (.proj (.var 6) 0) 2 1 false) (.cons (.fld (.proj (.var 6) 0) 3 1 false) (.cons (.fld (.proj (.var 6) 0) 4 1 false) .nil)))))) .nil)) <|
       .chk [((.bin .lss (.proj (.var 17) 0) (.int .i64 (0))), false)] (.dfd (.not (.var 18))) <|
       .chk [] (.dfd (.not (.bin .lss (.proj (.var 17) 0) (.int .i64 (0))))) <|
       .call [((.ite (.bin .lss (.proj (.var 17) 0) (.int .i64 (0))) (.bool true) (.not (.var 18))), false)] (.inl 37) (.cons (.proj (.var 9) 1) (.cons (.proj (.var 6) 1) .nil)) <|
       .chk [((.ite (.bin .lss (.proj (.var 17) 0) (.int .i64 (0))) (.bool true) (.not (.var 18))), false)] (.dfd (.not (.var 19))) <|
       .chk [] (.dfd (.not (.ite (.bin .lss (.proj (.var 17) 0) (.int .i64 (0))) (.bool true) (.not (.var 18))))) <|
       .chk [((.ite (.ite (.bin .lss (.proj (.var 17) 0) (.int .i64 (0))) (.bool true) (.not (.var 18))) (.bool true) (.not (.var 19))), false)] (.dfd (.bbin .neq (.proj (.var 9) 2) (.proj (.var 6) 2))) <|
       .chk [] (.dfd (.not (.ite (.ite (.bin .lss (.proj (.var 17) 0) (.int .i64 (0))) (.bool true) (.not (.var 18))) (.bool true) (.not (.var 19))))) <|
       .ite (.ite (.ite (.ite (.bin .lss (.proj (.var 17) 0) (.int .i64 (0))) (.bool true) (.not (.var 18))) (.bool true) (.not (.var 19))) (.bool true) (.bbin .neq (.proj (.var 9) 2) (.proj (.var 6) 2))) (
        .ret (.bool false)) (
        .call [] (.inl 24) (.cons (.mk (.cons (.fld (.proj (.var 9) 0) 0 1 false) (.cons (.fld (.proj (.var 9) 0) 1 1 false) (.cons (.fld (.proj (.var 9) 0) 2 1 false) (.cons (.fld (.proj (.var 9) 0) 3 1 false) (.cons (.fld (.proj (.var 9) 0) 4 1 false) .nil)))))) (.cons (.int .i64 (1)) .nil)) <|
        .call [] (.inl 40) (.cons (.proj (.var 9) 1) (.cons (.proj (.var 20) 0) .nil)) <|
        .call [] (.inl 25) (.cons (.mk (.cons (.fld (.proj (.var 9) 0) 0 1 false) (.cons (.fld (.proj (.var 9) 0) 1 1 false) (.cons (.fld (.proj (.var 20) 1) 2 1 false) (.cons (.fld (.proj (.var 9) 0) 3 1 false) (.cons (.fld (.proj (.var 20) 1) 4 1 false) .nil)))))) (.cons (.int .i64 (1)) .nil)) <|
        .chk [] (.dfd (.bin .lss (.var 22) (.int .i64 (0)))) <|
        .ite (.bin .lss (.var 22) (.int .i64 (0))) (
         .ret (.bool false)) (
         .call [] (.inl 41) (.cons (.proj (.var 21) 1) (.cons (.var 22) .nil)) <|
         .chk [] (.dfd (.bin .lss (.var 23) (.int .i64 (0)))) <|
         .ite (.bin .lss (.var 23) (.int .i64 (0))) (
          .ret (.bool false)) (
          .chk [] (.dfd (.bin .neq (.var 23) (.proj (.var 21) 0))) <|
          .ite (.bin .neq (.var 23) (.proj (.var 21) 0)) (
           .ret (.bool false)) (
           .call [] (.inl 21) (.cons (.mk (.cons (.fld (.var 0) 0 1 false) (.cons (.fld (.var 0) 1 1 false) (.cons (.fld (.var 0) 2 1 false) (.cons (.fld (.var 0) 3 1 false) (.cons (.fld (.var 0) 4 1 false) .nil)))))) .nil) <|
           .call [] (.inl 36) (.cons (.var 1) .nil) <|
           .call [] (.inl 27) (.cons (.mk (.cons (.fld (.var 24) 0 1 false) (.cons (.fld (.var 24) 1 1 false) (.cons (.fld (.var 24) 2 1 false) (.cons (.fld (.var 24) 3 1 false) (.cons (.fld (.var 24) 4 1 false) .nil)))))) (.cons (.var 25) .nil)) <|
           .call [] (.inl 23) (.cons (.mk (.cons (.fld (.proj (.var 26) 0) 0 1 false) (.cons (.fld (.proj (.var 26) 0) 1 1 false) (.cons (.fld (.proj (.var 26) 0) 2 1 false) (.cons (.fld (.proj (.var 26) 0) 3 1 false) (.cons (.fld (.proj (.var 26) 0) 4 1 false) .nil)))))) (.cons (.mk (.cons (.fld (.proj (.var 6) 0) 0 1 false) (.cons (.fld (.proj (.var 6) 0) 1 1 false) (.cons (.fld (.proj (.var 6) 0) 2 1 false) (.cons (.fld (.proj (.var 6) 0) 3 1 false) (.cons (.fld (.proj (.var 6) 0) 4 1 false) .nil)))))) .nil)) <|
           .chk [] (.dfd (.not (.var 27))) <|
           .call [((.not (.var 27)), false)] (.inl 37) (.cons (.proj (.var 26) 1) (.cons (.proj (.var 6) 1) .nil)) <|
           .chk [((.not (.var 27)), false)] (.dfd (.not (.var 28))) <|
           .chk [] (.dfd (.not (.not (.var 27)))) <|
           .chk [((.ite (.not (.var 27)) (.bool true) (.not (.var 28))), false)] (.dfd (.bbin .neq (.proj (.var 26) 2) (.proj (.var 6) 2))) <|
           .chk [] (.dfd (.not (.ite (.not (.var 27)) (.bool true) (.not (.var 28))))) <|
           .ite (.ite (.ite (.not (.var 27)) (.bool true) (.not (.var 28))) (.bool true) (.bbin .neq (.proj (.var 26) 2) (.proj (.var 6) 2))) (
            .ret (.bool false)) (
            .call [] (.inl 25) (.cons (.mk (.cons (.fld (.proj (.var 9) 0) 0 1 false) (.cons (.fld (.proj (.var 9) 0) 1 1 false) (.cons (.fld (.proj (.var 20) 1) 2 1 false) (.cons (.fld (.proj (.var 9) 0) 3 1 false) (.cons (.fld (.proj (.var 20) 1) 4 1 false) .nil)))))) (.cons (.int .i64 (1)) .nil)) <|
            .chk [] (.dfd (.bin .lss (.var 29) (.int .i64 (0)))) <|
            .ite (.bin .lss (.var 29) (.int .i64 (0))) (
             .ret (.bool false)) (
             .call [] (.inl 41) (.cons (.proj (.var 21) 1) (.cons (.var 29) .nil)) <|
             .chk [] (.dfd (.bin .lss (.var 30) (.int .i64 (0)))) <|
             .ite (.bin .lss (.var 30) (.int .i64 (0))) (
              .ret (.bool false)) (
              .chk [] (.dfd (.bin .neq (.var 30) (.proj (.var 21) 0))) <|
              .ite (.bin .neq (.var 30) (.proj (.var 21) 0)) (
               .ret (.bool false)) (
               .ret (.bool true))))))))))))))
theorem C_laws_FnExactPlayRenew : comp Try.prog sgs 6 = some T_laws_FnExactPlayRenew := by kernel_rfl
theorem R_laws_FnExactPlayRenew (a0 : DRenew) (a1 : List DRenewAct) (r : Bool) (h : m_laws_FnExactPlayRenew a0 a1 = some r) : Rts Try.prog sgs 6 [avRenew a0, .sl (a1.map avRenewAct)] (.bool r) := by
  refine rts_of C_laws_FnExactPlayRenew (by kernel_rfl) ?_
  unfold Den T_laws_FnExactPlayRenew
  unfold m_laws_FnExactPlayRenew at h
  refine s_chk (by simp) ?_
  refine s_call avI64 h (fun x hx => by simpa using R_laws_szRenew a0 1048576 x hx) (fun v1 cv1 h => ?_)
  refine s_chk (by simp) ?_
  refine s_ite h (by simp) (fun e2 h => ?_) (fun e2 h => ?_)
  · exact s_ret (av := avB) h (by simp)
  · refine s_call avI64 h (fun x hx => by simpa using R_laws_szRenewActS a1 v1 x hx) (fun v3 cv3 h => ?_)
    refine s_chk (by simp) ?_
    refine s_ite h (by simp) (fun e4 h => ?_) (fun e4 h => ?_)
    · exact s_ret (av := avB) h (by simp)
    · refine s_call avRenew h (fun x hx => by simpa using R_laws_toRenew a0 x hx) (fun v5 cv5 h => ?_)
      refine s_call avSRenewAct h (fun x hx => by simpa using R_laws_toRenewActS a1 x hx) (fun v6 cv6 h => ?_)
      refine s_call avTRenewSBBZ3 h (fun x hx => by simpa using R_spec_PlayRenew v5 v6 x hx) (fun v7 cv7 h => ?_)
      refine s_call avRenew h (fun x hx => by simpa using R_laws_toRenew a0 x hx) (fun v8 cv8 h => ?_)
      refine s_call avSRenewAct h (fun x hx => by simpa using R_laws_toRenewActS a1 x hx) (fun v9 cv9 h => ?_)
      refine s_call avTRenewSBBZ3 h (fun x hx => by simpa using R_impl_PlayRenew v8 v9 x hx) (fun v10 cv10 h => ?_)
      refine s_call avB h (fun x hx => by simpa using R_laws_eqRenew v10.1 v7.1 x hx) (fun v11 cv11 h => ?_)
      refine s_chk (by simp) ?_
      refine s_split h (fun e12 h => ?_) (fun e12 h => ?_)
      · refine s_call avB h (fun x hx => by simpa using R_laws_eqBoolS v10.2.1 v7.2.1 x hx) (fun v13 cv13 h => ?_)
        refine s_chk (by simp) ?_
        refine s_chk (by simp) ?_
        refine s_chk (by simp) ?_
        refine s_chk (by simp [e2, e4, e12]) ?_
        refine s_ite h (by simp [e2, e4, e12]) (fun e14 h => ?_) (fun e14 h => ?_)
        · exact s_ret (av := avB) h (by simp)
        · refine s_call avRenew h (fun x hx => by simpa using R_laws_toRenew a0 x hx) (fun v15 cv15 h => ?_)
          refine s_call avB h (fun x hx => by simpa using R_laws_eqRenew v8 v15 x hx) (fun v16 cv16 h => ?_)
          refine s_chk (by simp) ?_
          refine s_ite h (by simp) (fun e17 h => ?_) (fun e17 h => ?_)
          · exact s_ret (av := avB) h (by simp)
          · refine s_call avSRenewAct h (fun x hx => by simpa using R_laws_toRenewActS a1 x hx) (fun v18 cv18 h => ?_)
            refine s_call avB h (fun x hx => by simpa using R_laws_eqRenewActS v9 v18 x hx) (fun v19 cv19 h => ?_)
            refine s_chk (by simp) ?_
            refine s_ite h (by simp) (fun e20 h => ?_) (fun e20 h => ?_)
            · exact s_ret (av := avB) h (by simp)
            · refine s_call avTI64RenewZ2 h (fun x hx => by simpa using R_laws_markRenew v8 1 x hx) (fun v21 cv21 h => ?_)
              refine s_call avTI64SRenewActZ2 h (fun x hx => by simpa using R_laws_markRenewActS v9 v21.1 x hx) (fun v22 cv22 h => ?_)
              refine s_chk (by simp) ?_
              refine s_split h (fun e23 h => ?_) (fun e23 h => ?_)
              · refine s_skip (by simp [e2, e4, e12, e14, e17, e20, e23]) ?_
                refine s_chk (by simp [e2, e4, e12, e14, e17, e20, e23]) ?_
                refine s_chk (by simp) ?_
                refine s_skip (by simp [e2, e4, e12, e14, e17, e20, e23]) ?_
                refine s_chk (by simp [e2, e4, e12, e14, e17, e20, e23]) ?_
                refine s_chk (by simp [e2, e4, e12, e14, e17, e20, e23]) ?_
                refine s_chk (by simp [e2, e4, e12, e14, e17, e20, e23]) ?_
                refine s_chk (by simp [e2, e4, e12, e14, e17, e20, e23]) ?_
                refine s_iteT (by simp [e2, e4, e12, e14, e17, e20, e23]) ?_
                exact s_ret (av := avB) h (by simp)
              · refine s_call avB h (fun x hx => by simpa using R_laws_eqRenew v10.1 v7.1 x hx) (fun v24 cv24 h => ?_)
                refine s_chk (by simp) ?_
                refine s_chk (by simp) ?_
                refine s_split h (fun e25 h => ?_) (fun e25 h => ?_)
                · refine s_call avB h (fun x hx => by simpa using R_laws_eqBoolS v10.2.1 v7.2.1 x hx) (fun v26 cv26 h => ?_)
                  refine s_chk (by simp) ?_
                  refine s_chk (by simp [e2, e4, e12, e14, e17, e20, e23, e25]) ?_
                  refine s_chk (by simp) ?_
                  refine s_chk (by simp [e2, e4, e12, e14, e17, e20, e23, e25]) ?_
                  refine s_ite h (by simp [e2, e4, e12, e14, e17, e20, e23, e25]) (fun e27 h => ?_) (fun e27 h => ?_)
                  · exact s_ret (av := avB) h (by simp)
                  · refine s_call avTI64RenewZ2 h (fun x hx => by simpa using R_laws_markRenew v10.1 1 x hx) (fun v28 cv28 h => ?_)
                    refine s_call avTI64SBZ2 h (fun x hx => by simpa using R_laws_markBoolS v10.2.1 v28.1 x hx) (fun v29 cv29 h => ?_)
                    refine s_call avI64 h (fun x hx => by simpa using R_laws_heldRenew (⟨v10.1.fNow, v10.1.fMaster, v28.2.fClocks, v10.1.fVer, v28.2.fLeases⟩ : DRenew) 1 x hx) (fun v30 cv30 h => ?_)
                    refine s_chk (by simp) ?_
                    refine s_ite h (by simp) (fun e31 h => ?_) (fun e31 h => ?_)
                    · exact s_ret (av := avB) h (by simp)
                    · refine s_call avI64 h (fun x hx => by simpa using R_laws_heldBoolS v29.2 v30 x hx) (fun v32 cv32 h => ?_)
                      refine s_chk (by simp) ?_
                      refine s_ite h (by simp) (fun e33 h => ?_) (fun e33 h => ?_)
                      · exact s_ret (av := avB) h (by simp)
                      · refine s_chk (by simp) ?_
                        refine s_ite h (by simp) (fun e34 h => ?_) (fun e34 h => ?_)
                        · exact s_ret (av := avB) h (by simp)
                        · refine s_call avRenew h (fun x hx => by simpa using R_laws_toRenew a0 x hx) (fun v35 cv35 h => ?_)
                          refine s_call avSRenewAct h (fun x hx => by simpa using R_laws_toRenewActS a1 x hx) (fun v36 cv36 h => ?_)
                          refine s_call avTRenewSBBZ3 h (fun x hx => by simpa using R_impl_PlayRenew v35 v36 x hx) (fun v37 cv37 h => ?_)
                          refine s_call avB h (fun x hx => by simpa using R_laws_eqRenew v37.1 v7.1 x hx) (fun v38 cv38 h => ?_)
                          refine s_chk (by simp) ?_
                          refine s_split h (fun e39 h => ?_) (fun e39 h => ?_)
                          · refine s_call avB h (fun x hx => by simpa using R_laws_eqBoolS v37.2.1 v7.2.1 x hx) (fun v40 cv40 h => ?_)
                            refine s_chk (by simp) ?_
                            refine s_chk (by simp) ?_
                            refine s_chk (by simp) ?_
                            refine s_chk (by simp [e2, e4, e12, e14, e17, e20, e23, e25, e27, e31, e33, e34, e39]) ?_
                            refine s_ite h (by simp [e2, e4, e12, e14, e17, e20, e23, e25, e27, e31, e33, e34, e39]) (fun e41 h => ?_) (fun e41 h => ?_)
                            · exact s_ret (av := avB) h (by simp)
                            · refine s_call avI64 h (fun x hx => by simpa using R_laws_heldRenew (⟨v10.1.fNow, v10.1.fMaster, v28.2.fClocks, v10.1.fVer, v28.2.fLeases⟩ : DRenew) 1 x hx) (fun v42 cv42 h => ?_)
                              refine s_chk (by simp) ?_
                              refine s_ite h (by simp) (fun e43 h => ?_) (fun e43 h => ?_)
                              · exact s_ret (av := avB) h (by simp)
                              · refine s_call avI64 h (fun x hx => by simpa using R_laws_heldBoolS v29.2 v42 x hx) (fun v44 cv44 h => ?_)
                                refine s_chk (by simp) ?_
                                refine s_ite h (by simp) (fun e45 h => ?_) (fun e45 h => ?_)
                                · exact s_ret (av := avB) h (by simp)
                                · refine s_chk (by simp) ?_
                                  refine s_ite h (by simp) (fun e46 h => ?_) (fun e46 h => ?_)
                                  · exact s_ret (av := avB) h (by simp)
                                  · exact s_ret (av := avB) h (by simp)
                          · refine s_skip (by simp [e2, e4, e12, e14, e17, e20, e23, e25, e27, e31, e33, e34, e39]) ?_
                            refine s_chk (by simp [e2, e4, e12, e14, e17, e20, e23, e25, e27, e31, e33, e34, e39]) ?_
                            refine s_chk (by simp) ?_
                            refine s_chk (by simp [e2, e4, e12, e14, e17, e20, e23, e25, e27, e31, e33, e34, e39]) ?_
                            refine s_chk (by simp [e2, e4, e12, e14, e17, e20, e23, e25, e27, e31, e33, e34, e39]) ?_
                            refine s_iteT (by simp [e2, e4, e12, e14, e17, e20, e23, e25, e27, e31, e33, e34, e39]) ?_
                            exact s_ret (av := avB) h (by simp)
                · refine s_skip (by simp [e2, e4, e12, e14, e17, e20, e23, e25]) ?_
                  refine s_chk (by simp [e2, e4, e12, e14, e17, e20, e23, e25]) ?_
                  refine s_chk (by simp [e2, e4, e12, e14, e17, e20, e23, e25]) ?_
                  refine s_chk (by simp [e2, e4, e12, e14, e17, e20, e23, e25]) ?_
                  refine s_chk (by simp [e2, e4, e12, e14, e17, e20, e23, e25]) ?_
                  refine s_iteT (by simp [e2, e4, e12, e14, e17, e20, e23, e25]) ?_
                  exact s_ret (av := avB) h (by simp)
      · refine s_skip (by simp [e2, e4, e12]) ?_
        refine s_chk (by simp [e2, e4, e12]) ?_
        refine s_chk (by simp) ?_
        refine s_chk (by simp [e2, e4, e12]) ?_
        refine s_chk (by simp [e2, e4, e12]) ?_
        refine s_iteT (by simp [e2, e4, e12]) ?_
        exact s_ret (av := avB) h (by simp)
end Go.Proofs.Ytjneaalpiangdaa
end

/- Part QR. Typed models: all parts. -/
section

end

/- Part L1x. The laws FnRenew and FnNear, with what is known of their arguments. -/
section
namespace Go.Proofs.Ytjneaalpiangdaa
theorem law_FnRenew_ok (a b : List Int) (ha : okL okU8 a) (hb : okL okU8 b) : m_laws_FnRenew a b = some true := law_FnRenew ha.2 hb.2
theorem law_FnNear_ok (a b : List Int) (ha : okL okU8 a) (hb : okL okU8 b) : m_laws_FnNear a b = some true := law_FnNear ha.2 hb.2
end Go.Proofs.Ytjneaalpiangdaa
end

/- Part FFnNear. The law FnNear returns true at every input, and every argument reads afterwards as it read before. Condition: none beyond the given row. -/
section
namespace Go.Proofs.Ytjneaalpiangdaa.fnNearDone
open Go.ChangeShapes Go.WideShapes Go.ChangeAt Go.RowKit
open Go.Proofs.Ytjneaalpiangdaa
set_option linter.unusedVariables false
theorem own : ownKnob Try.prog.godebug = none := by kernel_rfl
theorem laidOut : laidOutB Try.prog = true := by kernel_rfl
theorem sig : sgs 5 = some ⟨[.ro, .ro], [false]⟩ := by kernel_rfl
set_option maxRecDepth 100000 in
theorem lifted (os : Os) (started : os.Started) (H : Type) (enc : TypeId × Value → H) :
    ReturnsInHanded {} Try.checked os 5 .any (Rows.fnNearSpec.pre6 enc Try.prog Try.f5 Rows.fnNearRow.domain false) (Rows.fnNearSpec.post enc Try.prog Try.f5 false true false false) := by
  refine returnsInHanded_of_change (C := Try.checked) own started (by kernel_rfl) Try.func5
    (ChangeSpec.witness6 (enc := enc) (C := Try.checked) false ⟨#[], #[.slice none 0 0, .slice none 0 0], []⟩ 8 (by kernel_rfl) (by kernel_rfl) (by kernel_rfl) (by kernel_rfl)) ?_
  intro W base args ds gs before hval0 hW hcnd _
  have hval : ∀ (j : Nat) t v, Try.f5.params[j]? = some t → args[j]? = some v → Value.okWide Try.prog W .any base t v := hval0
  have hW' := hW
  obtain ⟨p, q, hA0, hV, rfl, hfz, hnd⟩ := hW
  have hA : DataW.TrodAll enc Try.prog W 0 (fun _ => true) true Try.f5.params.toList args.toList ds p := hA0
  rw [Try.params5] at hA hval
  obtain ⟨v0, vs0, d0, ds0, p0, q0, hargs, rfl, rfl, h0, r0⟩ := trodAll_cons hA
  obtain ⟨v1, vs1, d1, ds1, p1, q1, rfl, rfl, rfl, h1, r1⟩ := trodAll_cons r0
  obtain ⟨rfl, rfl, rfl⟩ := trodAll_nil r1
  obtain rfl : args = #[v0, v1] := by cases args; simp_all
  obtain ⟨rfl, rfl⟩ := trodVars_none hV
  obtain ⟨_, f0, a0, x0, k0, e0⟩ := arg_slice op0 Try.underlying22 (hval 0 22 v0 rfl rfl) h0
  obtain rfl := (List.cons.inj e0).1
  obtain ⟨_, f1, a1, x1, k1, e1⟩ := arg_slice op0 Try.underlying22 (hval 1 22 v1 rfl rfl) h1
  obtain rfl := (List.cons.inj e1).1
  have m0 := h0
  have lt0 : ∀ x ∈ p0, x.block < W.heap.size := by obtain ⟨m, hm⟩ := m0; exact DataW.trod_lt m _ _ _ hm
  have m1 := h1
  have lt1 : ∀ x ∈ p1, x.block < W.heap.size := by obtain ⟨m, hm⟩ := m1; exact DataW.trod_lt m _ _ _ hm
  clear hA0 hval0
  refine (law_true (R_laws_FnNear x0 x1 true (law_FnNear_ok x0 x1 k0 k1)) (by decide) sig (by simp) (by kernel_rfl) Try.func5 (t := 4) rfl (vs := [v0, v1]) (w := W) (by
    rw [Try.params5]
    exact args_cons a0 (args_cons a1 args_nil))).mono fun e W' ⟨he, bel⟩ => ?_
  subst he
  exact ⟨_, rfl, _, _, _, [], _, [], hW', trodAll_mk1 (shut_bool Try.underlying4 _), (trodAll_cons_mk (Below.trod laidOut (by kernel_rfl) (of_decide_eq_true (by kernel_rfl)) m0 bel lt0) (trodAll_cons_mk (Below.trod laidOut (by kernel_rfl) (of_decide_eq_true (by kernel_rfl)) m1 bel lt1) trodAll_mk0)), rfl, bel.frame _, fun h => by cases h⟩

theorem over : Rows.fnNearRow.holds Try.pinned (OpenSpec.ofChange Rows.fnNearSpec) :=
  OpenClaim.holds_of_wide 5 Try.f5 rfl rfl rfl rfl rfl rfl rfl ⟨rfl, rfl, rfl, rfl, rfl⟩ rfl rfl rfl rfl rfl (by kernel_rfl) Try.func5 (by kernel_rfl)
    (of_decide_eq_true (by kernel_rfl)) (by unfold Func.isWrapper; first | (rw [if_pos (by decide +kernel)]; kernel_rfl) | (rw [if_neg (by decide +kernel)]; exact ⟨rfl, rfl⟩))
    (fun os started H enc _ => lifted os started H enc)
end Go.Proofs.Ytjneaalpiangdaa.fnNearDone
namespace Go.Proofs.Ytjneaalpiangdaa
/-- The statement. -/
theorem fnNearProved : Rows.FnNearSaid := fnNearDone.over
#print axioms fnNearProved
end Go.Proofs.Ytjneaalpiangdaa
end

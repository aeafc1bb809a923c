/-
  No cell of these rows narrows 'for every input' (looked for: loops, veiled, ifaces, maps, wideKeys, modest, calm, conditions, laid).
  DERIVED. THE GIVEN ROWS OF THIS SEAT. 4 by the template 'for every input the law returns true; each argument reads behind the call as it read before'; 0 by the template 'total and deterministic' (their statements: YtjneaalpiangdaaTotals.lean).
  GIVEN WITH THE SEED: the statements are not yours to turn. If you find one false, say at which input.
  Laid BY PROGRAM, IN A SANDBOX (cutbox-rows.mjs): the forced cells as the released guide's own fill.sh prints them over the translation 86b69fa599e2729f… (all of the seat's roots in one cut). By AI agents, Wed Nov 11 2026. No macro, syntax, notation, axiom, sorry.
-/
import Derived.Test.YtjneaalpiangdaaChecked
import GoSem.Claim
import GoSem.ClaimJoined
import GoSem.ClaimMapViews
import Derived.JoinedTies
import Derived.KernelRfl
namespace Go.Proofs.Ytjneaalpiangdaa
/- THE CELL 'sum', in the pinned program and in every row, IS THE sha256 OF THE DUMP (.gsa) THAT YtjneaalpiangdaaProg.lean LOADS. Nothing in Lean hashes anything: it is a label: what it is worth is what the hold of that sum in a sandbox is worth. -/
noncomputable def Try.pinned : Pinned := { name := "ytjneaalpiangdaa", sum := "86b69fa599e2729f0c8c827caab5dbe30c260844f05de321ffbb1889803f39cc", checked := Try.checked }
namespace Rows
def none {H : Type} : Left H := { results := [], args := [] }

/-- 'laws.FnRenew': WHATEVER THE INPUT: true; the input reads as it did. -/
def fnRenewSpec : ChangeSpec := { name := "fnRenew", fn := fun _ => fun
  | [d1, d2] => { results := [.lit (.bool true)], args := [d1, d2] }
  | _ => none }
def fnRenewRow : OpenClaim := { program := "ytjneaalpiangdaa", sum := "86b69fa599e2729f0c8c827caab5dbe30c260844f05de321ffbb1889803f39cc", func := "loop.example/g00850/laws.FnRenew", spec := "fnRenew", unfollowed := true, recurses := true, apart := false }
def FnRenewSaid : Prop := fnRenewRow.holds Try.pinned (OpenSpec.ofChange fnRenewSpec)

/-- ITS FALSE NEIGHBOUR: 'it returns false'. Refute it at one input. -/
def fnRenewWrong : ChangeSpec := { name := "fnRenew", fn := fun _ => fun
  | [d1, d2] => { results := [.lit (.bool false)], args := [d1, d2] }
  | _ => none }
def FnRenewWrongFalsely : Prop := fnRenewRow.holds Try.pinned (OpenSpec.ofChange fnRenewWrong)

/-- 'laws.FnExactStepRenew': WHATEVER THE INPUT: true; the input reads as it did. -/
def fnExactStepRenewSpec : ChangeSpec := { name := "fnExactStepRenew", fn := fun _ => fun
  | [d1, d2] => { results := [.lit (.bool true)], args := [d1, d2] }
  | _ => none }
def fnExactStepRenewRow : OpenClaim := { program := "ytjneaalpiangdaa", sum := "86b69fa599e2729f0c8c827caab5dbe30c260844f05de321ffbb1889803f39cc", func := "loop.example/g00850/laws.FnExactStepRenew", spec := "fnExactStepRenew", unfollowed := true, recurses := true, apart := false }
def FnExactStepRenewSaid : Prop := fnExactStepRenewRow.holds Try.pinned (OpenSpec.ofChange fnExactStepRenewSpec)

/-- ITS FALSE NEIGHBOUR: 'it returns false'. Refute it at one input. -/
def fnExactStepRenewWrong : ChangeSpec := { name := "fnExactStepRenew", fn := fun _ => fun
  | [d1, d2] => { results := [.lit (.bool false)], args := [d1, d2] }
  | _ => none }
def FnExactStepRenewWrongFalsely : Prop := fnExactStepRenewRow.holds Try.pinned (OpenSpec.ofChange fnExactStepRenewWrong)

/-- 'laws.FnNear': WHATEVER THE INPUT: true; the input reads as it did. -/
def fnNearSpec : ChangeSpec := { name := "fnNear", fn := fun _ => fun
  | [d1, d2] => { results := [.lit (.bool true)], args := [d1, d2] }
  | _ => none }
def fnNearRow : OpenClaim := { program := "ytjneaalpiangdaa", sum := "86b69fa599e2729f0c8c827caab5dbe30c260844f05de321ffbb1889803f39cc", func := "loop.example/g00850/laws.FnNear", spec := "fnNear", unfollowed := true, recurses := true, apart := false }
def FnNearSaid : Prop := fnNearRow.holds Try.pinned (OpenSpec.ofChange fnNearSpec)

/-- ITS FALSE NEIGHBOUR: 'it returns false'. Refute it at one input. -/
def fnNearWrong : ChangeSpec := { name := "fnNear", fn := fun _ => fun
  | [d1, d2] => { results := [.lit (.bool false)], args := [d1, d2] }
  | _ => none }
def FnNearWrongFalsely : Prop := fnNearRow.holds Try.pinned (OpenSpec.ofChange fnNearWrong)

/-- 'laws.FnExactPlayRenew': WHATEVER THE INPUT: true; the input reads as it did. -/
def fnExactPlayRenewSpec : ChangeSpec := { name := "fnExactPlayRenew", fn := fun _ => fun
  | [d1, d2] => { results := [.lit (.bool true)], args := [d1, d2] }
  | _ => none }
def fnExactPlayRenewRow : OpenClaim := { program := "ytjneaalpiangdaa", sum := "86b69fa599e2729f0c8c827caab5dbe30c260844f05de321ffbb1889803f39cc", func := "loop.example/g00850/laws.FnExactPlayRenew", spec := "fnExactPlayRenew", unfollowed := true, recurses := true, apart := false }
def FnExactPlayRenewSaid : Prop := fnExactPlayRenewRow.holds Try.pinned (OpenSpec.ofChange fnExactPlayRenewSpec)

/-- ITS FALSE NEIGHBOUR: 'it returns false'. Refute it at one input. -/
def fnExactPlayRenewWrong : ChangeSpec := { name := "fnExactPlayRenew", fn := fun _ => fun
  | [d1, d2] => { results := [.lit (.bool false)], args := [d1, d2] }
  | _ => none }
def FnExactPlayRenewWrongFalsely : Prop := fnExactPlayRenewRow.holds Try.pinned (OpenSpec.ofChange fnExactPlayRenewWrong)

/- THE SECOND FORM. 'bulk': how many values and letters a reading holds, each counted each time it is reached (what is shared counts as often as it is met; a slice's spare places count too). A statement '..UptoSaid' is the law's where the arguments, and the package variables that the reading takes, are together of bulk at most 1048576: NARROWER than '..Said'. Prove '..Said' where nothing that the law and all that it calls make is longer than what came in: it says more and counts as full. Else prove '..UptoSaid'. A law counts once. -/
mutual
def uptoBulk {H : Type} : DataW H → Nat
  | .lit (.string bytes) => bytes.length + 1
  | .lit _ => 1
  | .nil => 1
  | .ptr d => uptoBulk d + 1
  | .slice elems spare => uptoBulkAll elems + uptoBulkAll spare + 1
  | .agg parts => uptoBulkAll parts + 1
  | .iface _ d => uptoBulk d + 1
  | .map entries => uptoBulkEntries entries + 1
  | .held _ => 1
def uptoBulkAll {H : Type} : List (DataW H) → Nat
  | [] => 0
  | d :: r => uptoBulk d + uptoBulkAll r
def uptoBulkEntries {H : Type} : List (Lit × DataW H) → Nat
  | [] => 0
  | x :: r => uptoBulkEntry x + uptoBulkEntries r
def uptoBulkEntry {H : Type} : Lit × DataW H → Nat
  | (.string bytes, d) => bytes.length + uptoBulk d + 1
  | (_, d) => uptoBulk d + 1
 end
def uptoSmall : (H : Type) → List (DataW H) → Bool := fun _ ds => decide (uptoBulkAll ds ≤ 1048576)
def OpenSpec.upto (s : _root_.Go.ChangeSpec) : _root_.Go.OpenSpec := { _root_.Go.OpenSpec.ofChange s with cond := some uptoSmall }

/-- 'laws.FnRenew', WHERE WHAT IT READS IS OF BULK AT MOST 1048576: true; the input reads as it did. -/
def fnRenewUptoRow : OpenClaim := { program := "ytjneaalpiangdaa", sum := "86b69fa599e2729f0c8c827caab5dbe30c260844f05de321ffbb1889803f39cc", func := "loop.example/g00850/laws.FnRenew", spec := "fnRenew", unfollowed := true, recurses := true, apart := false, narrowed := true }
def FnRenewUptoSaid : Prop := fnRenewUptoRow.holds Try.pinned (OpenSpec.upto fnRenewSpec)

/-- 'laws.FnExactStepRenew', WHERE WHAT IT READS IS OF BULK AT MOST 1048576: true; the input reads as it did. -/
def fnExactStepRenewUptoRow : OpenClaim := { program := "ytjneaalpiangdaa", sum := "86b69fa599e2729f0c8c827caab5dbe30c260844f05de321ffbb1889803f39cc", func := "loop.example/g00850/laws.FnExactStepRenew", spec := "fnExactStepRenew", unfollowed := true, recurses := true, apart := false, narrowed := true }
def FnExactStepRenewUptoSaid : Prop := fnExactStepRenewUptoRow.holds Try.pinned (OpenSpec.upto fnExactStepRenewSpec)

/-- 'laws.FnNear', WHERE WHAT IT READS IS OF BULK AT MOST 1048576: true; the input reads as it did. -/
def fnNearUptoRow : OpenClaim := { program := "ytjneaalpiangdaa", sum := "86b69fa599e2729f0c8c827caab5dbe30c260844f05de321ffbb1889803f39cc", func := "loop.example/g00850/laws.FnNear", spec := "fnNear", unfollowed := true, recurses := true, apart := false, narrowed := true }
def FnNearUptoSaid : Prop := fnNearUptoRow.holds Try.pinned (OpenSpec.upto fnNearSpec)

/-- 'laws.FnExactPlayRenew', WHERE WHAT IT READS IS OF BULK AT MOST 1048576: true; the input reads as it did. -/
def fnExactPlayRenewUptoRow : OpenClaim := { program := "ytjneaalpiangdaa", sum := "86b69fa599e2729f0c8c827caab5dbe30c260844f05de321ffbb1889803f39cc", func := "loop.example/g00850/laws.FnExactPlayRenew", spec := "fnExactPlayRenew", unfollowed := true, recurses := true, apart := false, narrowed := true }
def FnExactPlayRenewUptoSaid : Prop := fnExactPlayRenewUptoRow.holds Try.pinned (OpenSpec.upto fnExactPlayRenewSpec)

end Rows
end Go.Proofs.Ytjneaalpiangdaa

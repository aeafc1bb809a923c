/-
  No cell of these rows narrows 'for every input' (looked for: loops, veiled, ifaces, maps, wideKeys, modest, calm, conditions, laid).
  DERIVED. THE GIVEN ROWS OF THIS SEAT. 4 by the template 'for every input the law returns true; each argument reads behind the call as it read before'; 0 by the template 'total and deterministic' (their statements: YtalagilebkaegaaGreatTotals.lean).
  GIVEN WITH THE SEED: the statements are not yours to turn. If you find one false, say at which input.
  Laid BY PROGRAM, IN A SANDBOX (cutbox-rows.mjs): the forced cells as the released guide's own fill.sh prints them over the translation 27970f50d028b830… (all of the seat's roots in one cut). By AI agents, Wed Nov 11 2026. No macro, syntax, notation, axiom, sorry.
-/
import Derived.Test.YtalagilebkaegaaGreatChecked
import GoSem.Claim
import GoSem.ClaimJoined
import GoSem.ClaimMapViews
import Derived.JoinedTies
import Derived.KernelRfl
namespace Go.Proofs.YtalagilebkaegaaGreat
/- THE CELL 'sum', in the pinned program and in every row, IS THE sha256 OF THE DUMP (.gsa) THAT YtalagilebkaegaaGreatProg.lean LOADS. Nothing in Lean hashes anything: it is a label: what it is worth is what the hold of that sum in a sandbox is worth. -/
noncomputable def Tryz.pinned : Pinned := { name := "ytalagilebkaegaagreat", sum := "27970f50d028b83085eacb0b286c951a4b2fd8a66db1e40aa7c9e50a7568a043", checked := Tryz.checked }
namespace Rows
def none {H : Type} : Left H := { results := [], args := [] }

/-- 'laws.FnDeal': WHATEVER THE INPUT: true; the input reads as it did. -/
def fnDealSpec : ChangeSpec := { name := "fnDeal", fn := fun _ => fun
  | [d1, d2] => { results := [.lit (.bool true)], args := [d1, d2] }
  | _ => none }
def fnDealRow : OpenClaim := { program := "ytalagilebkaegaagreat", sum := "27970f50d028b83085eacb0b286c951a4b2fd8a66db1e40aa7c9e50a7568a043", func := "loop.example/g00850/laws.FnDeal", spec := "fnDeal", inPlace := ["internal/bytealg.IndexByteString", "slices.overlaps[loop.example/g00850/impl.Cell]", "slices.overlaps[loop.example/g00850/impl.Told]", "slices.overlaps[loop.example/g00850/impl.Held]"], unfollowed := true, recurses := true, apart := false }
def FnDealSaid : Prop := fnDealRow.holds Tryz.pinned (OpenSpec.ofChange fnDealSpec)

/-- ITS FALSE NEIGHBOUR: 'it returns false'. Refute it at one input. -/
def fnDealWrong : ChangeSpec := { name := "fnDeal", fn := fun _ => fun
  | [d1, d2] => { results := [.lit (.bool false)], args := [d1, d2] }
  | _ => none }
def FnDealWrongFalsely : Prop := fnDealRow.holds Tryz.pinned (OpenSpec.ofChange fnDealWrong)

/-- 'laws.FnDealEnds': WHATEVER THE INPUT: true; the input reads as it did. -/
def fnDealEndsSpec : ChangeSpec := { name := "fnDealEnds", fn := fun _ => fun
  | [d1, d2] => { results := [.lit (.bool true)], args := [d1, d2] }
  | _ => none }
def fnDealEndsRow : OpenClaim := { program := "ytalagilebkaegaagreat", sum := "27970f50d028b83085eacb0b286c951a4b2fd8a66db1e40aa7c9e50a7568a043", func := "loop.example/g00850/laws.FnDealEnds", spec := "fnDealEnds", inPlace := ["internal/bytealg.IndexByteString", "slices.overlaps[loop.example/g00850/impl.Cell]", "slices.overlaps[loop.example/g00850/impl.Told]", "slices.overlaps[loop.example/g00850/impl.Held]"], unfollowed := true, recurses := true, apart := false }
def FnDealEndsSaid : Prop := fnDealEndsRow.holds Tryz.pinned (OpenSpec.ofChange fnDealEndsSpec)

/-- ITS FALSE NEIGHBOUR: 'it returns false'. Refute it at one input. -/
def fnDealEndsWrong : ChangeSpec := { name := "fnDealEnds", fn := fun _ => fun
  | [d1, d2] => { results := [.lit (.bool false)], args := [d1, d2] }
  | _ => none }
def FnDealEndsWrongFalsely : Prop := fnDealEndsRow.holds Tryz.pinned (OpenSpec.ofChange fnDealEndsWrong)

/-- 'laws.FnExactStepDeal': WHATEVER THE INPUT: true; the input reads as it did. -/
def fnExactStepDealSpec : ChangeSpec := { name := "fnExactStepDeal", fn := fun _ => fun
  | [d1, d2] => { results := [.lit (.bool true)], args := [d1, d2] }
  | _ => none }
def fnExactStepDealRow : OpenClaim := { program := "ytalagilebkaegaagreat", sum := "27970f50d028b83085eacb0b286c951a4b2fd8a66db1e40aa7c9e50a7568a043", func := "loop.example/g00850/laws.FnExactStepDeal", spec := "fnExactStepDeal", inPlace := ["internal/bytealg.IndexByteString", "slices.overlaps[loop.example/g00850/impl.Cell]", "slices.overlaps[loop.example/g00850/impl.Told]", "slices.overlaps[loop.example/g00850/impl.Held]"], unfollowed := true, recurses := true, apart := false }
def FnExactStepDealSaid : Prop := fnExactStepDealRow.holds Tryz.pinned (OpenSpec.ofChange fnExactStepDealSpec)

/-- ITS FALSE NEIGHBOUR: 'it returns false'. Refute it at one input. -/
def fnExactStepDealWrong : ChangeSpec := { name := "fnExactStepDeal", fn := fun _ => fun
  | [d1, d2] => { results := [.lit (.bool false)], args := [d1, d2] }
  | _ => none }
def FnExactStepDealWrongFalsely : Prop := fnExactStepDealRow.holds Tryz.pinned (OpenSpec.ofChange fnExactStepDealWrong)

/-- 'laws.FnExactPlayDeal': WHATEVER THE INPUT: true; the input reads as it did. -/
def fnExactPlayDealSpec : ChangeSpec := { name := "fnExactPlayDeal", fn := fun _ => fun
  | [d1, d2] => { results := [.lit (.bool true)], args := [d1, d2] }
  | _ => none }
def fnExactPlayDealRow : OpenClaim := { program := "ytalagilebkaegaagreat", sum := "27970f50d028b83085eacb0b286c951a4b2fd8a66db1e40aa7c9e50a7568a043", func := "loop.example/g00850/laws.FnExactPlayDeal", spec := "fnExactPlayDeal", inPlace := ["internal/bytealg.IndexByteString", "slices.overlaps[loop.example/g00850/impl.Cell]", "slices.overlaps[loop.example/g00850/impl.Told]", "slices.overlaps[loop.example/g00850/impl.Held]"], unfollowed := true, recurses := true, apart := false }
def FnExactPlayDealSaid : Prop := fnExactPlayDealRow.holds Tryz.pinned (OpenSpec.ofChange fnExactPlayDealSpec)

/-- ITS FALSE NEIGHBOUR: 'it returns false'. Refute it at one input. -/
def fnExactPlayDealWrong : ChangeSpec := { name := "fnExactPlayDeal", fn := fun _ => fun
  | [d1, d2] => { results := [.lit (.bool false)], args := [d1, d2] }
  | _ => none }
def FnExactPlayDealWrongFalsely : Prop := fnExactPlayDealRow.holds Tryz.pinned (OpenSpec.ofChange fnExactPlayDealWrong)

/- THE SECOND FORM. 'bulk': how many values and letters a reading holds, each counted each time it is reached (what is shared counts as often as it is met; a slice's spare places count too). A statement '..UptoSaid' is the law's where the arguments, and the package variables that the reading takes, are together of bulk at most 1048576: NARROWER than '..Said'. Prove '..Said' where nothing that the law and all that it calls make is longer than what came in: it says more and counts as full. Else prove '..UptoSaid'. A law counts once. -/
mutual
def uptoBulk {H : Type} : DataW H → Nat
  | .lit (.string bytes) => bytes.length + 1
  | .lit _ => 1
  | .nil => 1
  | .ptr d => uptoBulk d + 1
  | .slice elems spare => uptoBulkAll elems + uptoBulkAll spare + 1
  | .agg parts => uptoBulkAll parts + 1
  | .iface _ d => uptoBulk d + 1
  | .map entries => uptoBulkEntries entries + 1
  | .held _ => 1
def uptoBulkAll {H : Type} : List (DataW H) → Nat
  | [] => 0
  | d :: r => uptoBulk d + uptoBulkAll r
def uptoBulkEntries {H : Type} : List (Lit × DataW H) → Nat
  | [] => 0
  | x :: r => uptoBulkEntry x + uptoBulkEntries r
def uptoBulkEntry {H : Type} : Lit × DataW H → Nat
  | (.string bytes, d) => bytes.length + uptoBulk d + 1
  | (_, d) => uptoBulk d + 1
 end
def uptoSmall : (H : Type) → List (DataW H) → Bool := fun _ ds => decide (uptoBulkAll ds ≤ 1048576)
def OpenSpec.upto (s : _root_.Go.ChangeSpec) : _root_.Go.OpenSpec := { _root_.Go.OpenSpec.ofChange s with cond := some uptoSmall }

/-- 'laws.FnDeal', WHERE WHAT IT READS IS OF BULK AT MOST 1048576: true; the input reads as it did. -/
def fnDealUptoRow : OpenClaim := { program := "ytalagilebkaegaagreat", sum := "27970f50d028b83085eacb0b286c951a4b2fd8a66db1e40aa7c9e50a7568a043", func := "loop.example/g00850/laws.FnDeal", spec := "fnDeal", inPlace := ["internal/bytealg.IndexByteString", "slices.overlaps[loop.example/g00850/impl.Cell]", "slices.overlaps[loop.example/g00850/impl.Told]", "slices.overlaps[loop.example/g00850/impl.Held]"], unfollowed := true, recurses := true, apart := false, narrowed := true }
def FnDealUptoSaid : Prop := fnDealUptoRow.holds Tryz.pinned (OpenSpec.upto fnDealSpec)

/-- 'laws.FnDealEnds', WHERE WHAT IT READS IS OF BULK AT MOST 1048576: true; the input reads as it did. -/
def fnDealEndsUptoRow : OpenClaim := { program := "ytalagilebkaegaagreat", sum := "27970f50d028b83085eacb0b286c951a4b2fd8a66db1e40aa7c9e50a7568a043", func := "loop.example/g00850/laws.FnDealEnds", spec := "fnDealEnds", inPlace := ["internal/bytealg.IndexByteString", "slices.overlaps[loop.example/g00850/impl.Cell]", "slices.overlaps[loop.example/g00850/impl.Told]", "slices.overlaps[loop.example/g00850/impl.Held]"], unfollowed := true, recurses := true, apart := false, narrowed := true }
def FnDealEndsUptoSaid : Prop := fnDealEndsUptoRow.holds Tryz.pinned (OpenSpec.upto fnDealEndsSpec)

/-- 'laws.FnExactStepDeal', WHERE WHAT IT READS IS OF BULK AT MOST 1048576: true; the input reads as it did. -/
def fnExactStepDealUptoRow : OpenClaim := { program := "ytalagilebkaegaagreat", sum := "27970f50d028b83085eacb0b286c951a4b2fd8a66db1e40aa7c9e50a7568a043", func := "loop.example/g00850/laws.FnExactStepDeal", spec := "fnExactStepDeal", inPlace := ["internal/bytealg.IndexByteString", "slices.overlaps[loop.example/g00850/impl.Cell]", "slices.overlaps[loop.example/g00850/impl.Told]", "slices.overlaps[loop.example/g00850/impl.Held]"], unfollowed := true, recurses := true, apart := false, narrowed := true }
def FnExactStepDealUptoSaid : Prop := fnExactStepDealUptoRow.holds Tryz.pinned (OpenSpec.upto fnExactStepDealSpec)

/-- 'laws.FnExactPlayDeal', WHERE WHAT IT READS IS OF BULK AT MOST 1048576: true; the input reads as it did. -/
def fnExactPlayDealUptoRow : OpenClaim := { program := "ytalagilebkaegaagreat", sum := "27970f50d028b83085eacb0b286c951a4b2fd8a66db1e40aa7c9e50a7568a043", func := "loop.example/g00850/laws.FnExactPlayDeal", spec := "fnExactPlayDeal", inPlace := ["internal/bytealg.IndexByteString", "slices.overlaps[loop.example/g00850/impl.Cell]", "slices.overlaps[loop.example/g00850/impl.Told]", "slices.overlaps[loop.example/g00850/impl.Held]"], unfollowed := true, recurses := true, apart := false, narrowed := true }
def FnExactPlayDealUptoSaid : Prop := fnExactPlayDealUptoRow.holds Tryz.pinned (OpenSpec.upto fnExactPlayDealSpec)

end Rows
end Go.Proofs.YtalagilebkaegaaGreat

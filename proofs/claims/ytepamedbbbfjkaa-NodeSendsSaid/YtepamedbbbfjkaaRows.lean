/-
  No cell of these rows narrows 'for every input' (looked for: loops, veiled, ifaces, maps, wideKeys, modest, calm, conditions, laid).
  DERIVED. THE GIVEN ROWS OF THIS SEAT. 4 by the template 'for every input the law returns true; each argument reads behind the call as it read before'; 0 by the template 'total and deterministic' (their statements: YtepamedbbbfjkaaTotals.lean).
  GIVEN WITH THE SEED: the statements are not yours to turn. If you find one false, say at which input.
  Laid BY PROGRAM, IN A SANDBOX (cutbox-rows.mjs): the forced cells as the released guide's own fill.sh prints them over the translation 8a4e56788b05a903… (all of the seat's roots in one cut). By AI agents, Wed Nov 11 2026. No macro, syntax, notation, axiom, sorry.
-/
import Derived.Test.YtepamedbbbfjkaaChecked
import GoSem.Claim
import GoSem.ClaimJoined
import GoSem.ClaimMapViews
import Derived.JoinedTies
import Derived.KernelRfl
namespace Go.Proofs.Ytepamedbbbfjkaa
/- THE CELL 'sum', in the pinned program and in every row, IS THE sha256 OF THE DUMP (.gsa) THAT YtepamedbbbfjkaaProg.lean LOADS. Nothing in Lean hashes anything: it is a label: what it is worth is what the hold of that sum in a sandbox is worth. -/
noncomputable def Try.pinned : Pinned := { name := "ytepamedbbbfjkaa", sum := "8a4e56788b05a903be10e1cc80c3e708ec2873b7fe718955d256cbedd5509f26", checked := Try.checked }
namespace Rows
def none {H : Type} : Left H := { results := [], args := [] }

/-- 'hopmeshlaw53.NodeHears': WHATEVER THE INPUT: true; the input reads as it did. -/
def nodeHearsSpec : ChangeSpec := { name := "nodeHears", fn := fun _ => fun
  | [d1, d2, d3, d4, d5, d6] => { results := [.lit (.bool true)], args := [d1, d2, d3, d4, d5, d6] }
  | _ => none }
def nodeHearsRow : OpenClaim := { program := "ytepamedbbbfjkaa", sum := "8a4e56788b05a903be10e1cc80c3e708ec2873b7fe718955d256cbedd5509f26", func := "hopmesh/hopmeshlaw53.NodeHears", spec := "nodeHears", inPlace := ["slices.overlaps[hopmesh/api.Holding]", "slices.overlaps[int]"], unfollowed := true, recurses := true, plainKeys := false, apart := false }
def NodeHearsSaid : Prop := nodeHearsRow.holds Try.pinned (OpenSpec.ofChange nodeHearsSpec)

/-- ITS FALSE NEIGHBOUR: 'it returns false'. Refute it at one input. -/
def nodeHearsWrong : ChangeSpec := { name := "nodeHears", fn := fun _ => fun
  | [d1, d2, d3, d4, d5, d6] => { results := [.lit (.bool false)], args := [d1, d2, d3, d4, d5, d6] }
  | _ => none }
def NodeHearsWrongFalsely : Prop := nodeHearsRow.holds Try.pinned (OpenSpec.ofChange nodeHearsWrong)

/-- 'hopmeshlaw53.NodeHolds': WHATEVER THE INPUT: true; the input reads as it did. -/
def nodeHoldsSpec : ChangeSpec := { name := "nodeHolds", fn := fun _ => fun
  | [d1, d2, d3, d4] => { results := [.lit (.bool true)], args := [d1, d2, d3, d4] }
  | _ => none }
def nodeHoldsRow : OpenClaim := { program := "ytepamedbbbfjkaa", sum := "8a4e56788b05a903be10e1cc80c3e708ec2873b7fe718955d256cbedd5509f26", func := "hopmesh/hopmeshlaw53.NodeHolds", spec := "nodeHolds", inPlace := ["slices.overlaps[hopmesh/api.Holding]", "slices.overlaps[int]"], unfollowed := true, recurses := true, plainKeys := false, apart := false }
def NodeHoldsSaid : Prop := nodeHoldsRow.holds Try.pinned (OpenSpec.ofChange nodeHoldsSpec)

/-- ITS FALSE NEIGHBOUR: 'it returns false'. Refute it at one input. -/
def nodeHoldsWrong : ChangeSpec := { name := "nodeHolds", fn := fun _ => fun
  | [d1, d2, d3, d4] => { results := [.lit (.bool false)], args := [d1, d2, d3, d4] }
  | _ => none }
def NodeHoldsWrongFalsely : Prop := nodeHoldsRow.holds Try.pinned (OpenSpec.ofChange nodeHoldsWrong)

/-- 'hopmeshlaw53.NodeOnce': WHATEVER THE INPUT: true; the input reads as it did. -/
def nodeOnceSpec : ChangeSpec := { name := "nodeOnce", fn := fun _ => fun
  | [d1, d2, d3] => { results := [.lit (.bool true)], args := [d1, d2, d3] }
  | _ => none }
def nodeOnceRow : OpenClaim := { program := "ytepamedbbbfjkaa", sum := "8a4e56788b05a903be10e1cc80c3e708ec2873b7fe718955d256cbedd5509f26", func := "hopmesh/hopmeshlaw53.NodeOnce", spec := "nodeOnce", inPlace := ["slices.overlaps[hopmesh/api.Holding]", "slices.overlaps[int]"], unfollowed := true, recurses := true, plainKeys := false, apart := false }
def NodeOnceSaid : Prop := nodeOnceRow.holds Try.pinned (OpenSpec.ofChange nodeOnceSpec)

/-- ITS FALSE NEIGHBOUR: 'it returns false'. Refute it at one input. -/
def nodeOnceWrong : ChangeSpec := { name := "nodeOnce", fn := fun _ => fun
  | [d1, d2, d3] => { results := [.lit (.bool false)], args := [d1, d2, d3] }
  | _ => none }
def NodeOnceWrongFalsely : Prop := nodeOnceRow.holds Try.pinned (OpenSpec.ofChange nodeOnceWrong)

/-- 'hopmeshlaw53.NodeSends': WHATEVER THE INPUT: true; the input reads as it did. -/
def nodeSendsSpec : ChangeSpec := { name := "nodeSends", fn := fun _ => fun
  | [d1, d2, d3, d4, d5] => { results := [.lit (.bool true)], args := [d1, d2, d3, d4, d5] }
  | _ => none }
def nodeSendsRow : OpenClaim := { program := "ytepamedbbbfjkaa", sum := "8a4e56788b05a903be10e1cc80c3e708ec2873b7fe718955d256cbedd5509f26", func := "hopmesh/hopmeshlaw53.NodeSends", spec := "nodeSends", inPlace := ["slices.overlaps[hopmesh/api.Holding]", "slices.overlaps[int]"], unfollowed := true, recurses := true, plainKeys := false, apart := false }
def NodeSendsSaid : Prop := nodeSendsRow.holds Try.pinned (OpenSpec.ofChange nodeSendsSpec)

/-- ITS FALSE NEIGHBOUR: 'it returns false'. Refute it at one input. -/
def nodeSendsWrong : ChangeSpec := { name := "nodeSends", fn := fun _ => fun
  | [d1, d2, d3, d4, d5] => { results := [.lit (.bool false)], args := [d1, d2, d3, d4, d5] }
  | _ => none }
def NodeSendsWrongFalsely : Prop := nodeSendsRow.holds Try.pinned (OpenSpec.ofChange nodeSendsWrong)

/- THE SECOND FORM. 'bulk': how many values and letters a reading holds, each counted each time it is reached (what is shared counts as often as it is met; a slice's spare places count too). A statement '..UptoSaid' is the law's where the arguments, and the package variables that the reading takes, are together of bulk at most 1048576: NARROWER than '..Said'. Prove '..Said' where nothing that the law and all that it calls make is longer than what came in: it says more and counts as full. Else prove '..UptoSaid'. A law counts once. -/
mutual
def uptoBulk {H : Type} : DataW H → Nat
  | .lit (.string bytes) => bytes.length + 1
  | .lit _ => 1
  | .nil => 1
  | .ptr d => uptoBulk d + 1
  | .slice elems spare => uptoBulkAll elems + uptoBulkAll spare + 1
  | .agg parts => uptoBulkAll parts + 1
  | .iface _ d => uptoBulk d + 1
  | .map entries => uptoBulkEntries entries + 1
  | .held _ => 1
def uptoBulkAll {H : Type} : List (DataW H) → Nat
  | [] => 0
  | d :: r => uptoBulk d + uptoBulkAll r
def uptoBulkEntries {H : Type} : List (Lit × DataW H) → Nat
  | [] => 0
  | x :: r => uptoBulkEntry x + uptoBulkEntries r
def uptoBulkEntry {H : Type} : Lit × DataW H → Nat
  | (.string bytes, d) => bytes.length + uptoBulk d + 1
  | (_, d) => uptoBulk d + 1
 end
def uptoSmall : (H : Type) → List (DataW H) → Bool := fun _ ds => decide (uptoBulkAll ds ≤ 1048576)
def OpenSpec.upto (s : _root_.Go.ChangeSpec) : _root_.Go.OpenSpec := { _root_.Go.OpenSpec.ofChange s with cond := some uptoSmall }

/-- 'hopmeshlaw53.NodeHears', WHERE WHAT IT READS IS OF BULK AT MOST 1048576: true; the input reads as it did. -/
def nodeHearsUptoRow : OpenClaim := { program := "ytepamedbbbfjkaa", sum := "8a4e56788b05a903be10e1cc80c3e708ec2873b7fe718955d256cbedd5509f26", func := "hopmesh/hopmeshlaw53.NodeHears", spec := "nodeHears", inPlace := ["slices.overlaps[hopmesh/api.Holding]", "slices.overlaps[int]"], unfollowed := true, recurses := true, plainKeys := false, apart := false, narrowed := true }
def NodeHearsUptoSaid : Prop := nodeHearsUptoRow.holds Try.pinned (OpenSpec.upto nodeHearsSpec)

/-- 'hopmeshlaw53.NodeHolds', WHERE WHAT IT READS IS OF BULK AT MOST 1048576: true; the input reads as it did. -/
def nodeHoldsUptoRow : OpenClaim := { program := "ytepamedbbbfjkaa", sum := "8a4e56788b05a903be10e1cc80c3e708ec2873b7fe718955d256cbedd5509f26", func := "hopmesh/hopmeshlaw53.NodeHolds", spec := "nodeHolds", inPlace := ["slices.overlaps[hopmesh/api.Holding]", "slices.overlaps[int]"], unfollowed := true, recurses := true, plainKeys := false, apart := false, narrowed := true }
def NodeHoldsUptoSaid : Prop := nodeHoldsUptoRow.holds Try.pinned (OpenSpec.upto nodeHoldsSpec)

/-- 'hopmeshlaw53.NodeOnce', WHERE WHAT IT READS IS OF BULK AT MOST 1048576: true; the input reads as it did. -/
def nodeOnceUptoRow : OpenClaim := { program := "ytepamedbbbfjkaa", sum := "8a4e56788b05a903be10e1cc80c3e708ec2873b7fe718955d256cbedd5509f26", func := "hopmesh/hopmeshlaw53.NodeOnce", spec := "nodeOnce", inPlace := ["slices.overlaps[hopmesh/api.Holding]", "slices.overlaps[int]"], unfollowed := true, recurses := true, plainKeys := false, apart := false, narrowed := true }
def NodeOnceUptoSaid : Prop := nodeOnceUptoRow.holds Try.pinned (OpenSpec.upto nodeOnceSpec)

/-- 'hopmeshlaw53.NodeSends', WHERE WHAT IT READS IS OF BULK AT MOST 1048576: true; the input reads as it did. -/
def nodeSendsUptoRow : OpenClaim := { program := "ytepamedbbbfjkaa", sum := "8a4e56788b05a903be10e1cc80c3e708ec2873b7fe718955d256cbedd5509f26", func := "hopmesh/hopmeshlaw53.NodeSends", spec := "nodeSends", inPlace := ["slices.overlaps[hopmesh/api.Holding]", "slices.overlaps[int]"], unfollowed := true, recurses := true, plainKeys := false, apart := false, narrowed := true }
def NodeSendsUptoSaid : Prop := nodeSendsUptoRow.holds Try.pinned (OpenSpec.upto nodeSendsSpec)

end Rows
end Go.Proofs.Ytepamedbbbfjkaa

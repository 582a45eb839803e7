/-
  No cell of these rows narrows 'for every input' (looked for: loops, veiled, ifaces, maps, wideKeys, modest, calm, conditions, laid).
  DERIVED. THE GIVEN ROWS OF THIS SEAT. 6 by the template 'for every input the law returns true; each argument reads behind the call as it read before'; 0 by the template 'total and deterministic' (their statements: YtkdigdnacggknaaTotals.lean).
  GIVEN WITH THE SEED: the statements are not yours to turn. If you find one false, say at which input.
  Laid BY PROGRAM, IN A SANDBOX (cutbox-rows.mjs): the forced cells as the released guide's own fill.sh prints them over the translation aa91c1f5dd02bbcd… (all of the seat's roots in one cut). By AI agents, Wed Nov 11 2026. No macro, syntax, notation, axiom, sorry.
-/
import Derived.Test.YtkdigdnacggknaaChecked
import GoSem.Claim
import GoSem.ClaimJoined
import GoSem.ClaimMapViews
import Derived.JoinedTies
import Derived.KernelRfl
namespace Go.Proofs.Ytkdigdnacggknaa
/- THE CELL 'sum', in the pinned program and in every row, IS THE sha256 OF THE DUMP (.gsa) THAT YtkdigdnacggknaaProg.lean LOADS. Nothing in Lean hashes anything: it is a label: what it is worth is what the hold of that sum in a sandbox is worth. -/
noncomputable def Try.pinned : Pinned := { name := "ytkdigdnacggknaa", sum := "aa91c1f5dd02bbcd85af12817eb0e9a7cb0d1f33c2ca9c4b88e7c01f0d965d2a", checked := Try.checked }
namespace Rows
def none {H : Type} : Left H := { results := [], args := [] }

/-- 'hopmeshlaw56.MonitorLate': WHATEVER THE INPUT: true; the input reads as it did. -/
def monitorLateSpec : ChangeSpec := { name := "monitorLate", fn := fun _ => fun
  | [d1, d2] => { results := [.lit (.bool true)], args := [d1, d2] }
  | _ => none }
def monitorLateRow : OpenClaim := { program := "ytkdigdnacggknaa", sum := "aa91c1f5dd02bbcd85af12817eb0e9a7cb0d1f33c2ca9c4b88e7c01f0d965d2a", func := "hopmesh/hopmeshlaw56.MonitorLate", spec := "monitorLate", unfollowed := true, recurses := true, plainKeys := false, apart := false }
def MonitorLateSaid : Prop := monitorLateRow.holds Try.pinned (OpenSpec.ofChange monitorLateSpec)

/-- ITS FALSE NEIGHBOUR: 'it returns false'. Refute it at one input. -/
def monitorLateWrong : ChangeSpec := { name := "monitorLate", fn := fun _ => fun
  | [d1, d2] => { results := [.lit (.bool false)], args := [d1, d2] }
  | _ => none }
def MonitorLateWrongFalsely : Prop := monitorLateRow.holds Try.pinned (OpenSpec.ofChange monitorLateWrong)

/-- 'hopmeshlaw56.MonitorBreaches': WHATEVER THE INPUT: true; the input reads as it did. -/
def monitorBreachesSpec : ChangeSpec := { name := "monitorBreaches", fn := fun _ => fun
  | [d1, d2] => { results := [.lit (.bool true)], args := [d1, d2] }
  | _ => none }
def monitorBreachesRow : OpenClaim := { program := "ytkdigdnacggknaa", sum := "aa91c1f5dd02bbcd85af12817eb0e9a7cb0d1f33c2ca9c4b88e7c01f0d965d2a", func := "hopmesh/hopmeshlaw56.MonitorBreaches", spec := "monitorBreaches", unfollowed := true, recurses := true, plainKeys := false, apart := false }
def MonitorBreachesSaid : Prop := monitorBreachesRow.holds Try.pinned (OpenSpec.ofChange monitorBreachesSpec)

/-- ITS FALSE NEIGHBOUR: 'it returns false'. Refute it at one input. -/
def monitorBreachesWrong : ChangeSpec := { name := "monitorBreaches", fn := fun _ => fun
  | [d1, d2] => { results := [.lit (.bool false)], args := [d1, d2] }
  | _ => none }
def MonitorBreachesWrongFalsely : Prop := monitorBreachesRow.holds Try.pinned (OpenSpec.ofChange monitorBreachesWrong)

/-- 'hopmeshlaw56.MonitorServes': WHATEVER THE INPUT: true; the input reads as it did. -/
def monitorServesSpec : ChangeSpec := { name := "monitorServes", fn := fun _ => fun
  | [d1, d2, d3] => { results := [.lit (.bool true)], args := [d1, d2, d3] }
  | _ => none }
def monitorServesRow : OpenClaim := { program := "ytkdigdnacggknaa", sum := "aa91c1f5dd02bbcd85af12817eb0e9a7cb0d1f33c2ca9c4b88e7c01f0d965d2a", func := "hopmesh/hopmeshlaw56.MonitorServes", spec := "monitorServes", unfollowed := true, recurses := true, plainKeys := false, apart := false }
def MonitorServesSaid : Prop := monitorServesRow.holds Try.pinned (OpenSpec.ofChange monitorServesSpec)

/-- ITS FALSE NEIGHBOUR: 'it returns false'. Refute it at one input. -/
def monitorServesWrong : ChangeSpec := { name := "monitorServes", fn := fun _ => fun
  | [d1, d2, d3] => { results := [.lit (.bool false)], args := [d1, d2, d3] }
  | _ => none }
def MonitorServesWrongFalsely : Prop := monitorServesRow.holds Try.pinned (OpenSpec.ofChange monitorServesWrong)

/-- 'hopmeshlaw56.MonitorCounts': WHATEVER THE INPUT: true; the input reads as it did. -/
def monitorCountsSpec : ChangeSpec := { name := "monitorCounts", fn := fun _ => fun
  | [d1, d2] => { results := [.lit (.bool true)], args := [d1, d2] }
  | _ => none }
def monitorCountsRow : OpenClaim := { program := "ytkdigdnacggknaa", sum := "aa91c1f5dd02bbcd85af12817eb0e9a7cb0d1f33c2ca9c4b88e7c01f0d965d2a", func := "hopmesh/hopmeshlaw56.MonitorCounts", spec := "monitorCounts", unfollowed := true, recurses := true, plainKeys := false, apart := false }
def MonitorCountsSaid : Prop := monitorCountsRow.holds Try.pinned (OpenSpec.ofChange monitorCountsSpec)

/-- ITS FALSE NEIGHBOUR: 'it returns false'. Refute it at one input. -/
def monitorCountsWrong : ChangeSpec := { name := "monitorCounts", fn := fun _ => fun
  | [d1, d2] => { results := [.lit (.bool false)], args := [d1, d2] }
  | _ => none }
def MonitorCountsWrongFalsely : Prop := monitorCountsRow.holds Try.pinned (OpenSpec.ofChange monitorCountsWrong)

/-- 'hopmeshlaw56.MonitorLosses': WHATEVER THE INPUT: true; the input reads as it did. -/
def monitorLossesSpec : ChangeSpec := { name := "monitorLosses", fn := fun _ => fun
  | [d1, d2] => { results := [.lit (.bool true)], args := [d1, d2] }
  | _ => none }
def monitorLossesRow : OpenClaim := { program := "ytkdigdnacggknaa", sum := "aa91c1f5dd02bbcd85af12817eb0e9a7cb0d1f33c2ca9c4b88e7c01f0d965d2a", func := "hopmesh/hopmeshlaw56.MonitorLosses", spec := "monitorLosses", unfollowed := true, recurses := true, plainKeys := false, apart := false }
def MonitorLossesSaid : Prop := monitorLossesRow.holds Try.pinned (OpenSpec.ofChange monitorLossesSpec)

/-- ITS FALSE NEIGHBOUR: 'it returns false'. Refute it at one input. -/
def monitorLossesWrong : ChangeSpec := { name := "monitorLosses", fn := fun _ => fun
  | [d1, d2] => { results := [.lit (.bool false)], args := [d1, d2] }
  | _ => none }
def MonitorLossesWrongFalsely : Prop := monitorLossesRow.holds Try.pinned (OpenSpec.ofChange monitorLossesWrong)

/-- 'hopmeshlaw56.MonitorGrows': WHATEVER THE INPUT: true; the input reads as it did. -/
def monitorGrowsSpec : ChangeSpec := { name := "monitorGrows", fn := fun _ => fun
  | [d1, d2, d3] => { results := [.lit (.bool true)], args := [d1, d2, d3] }
  | _ => none }
def monitorGrowsRow : OpenClaim := { program := "ytkdigdnacggknaa", sum := "aa91c1f5dd02bbcd85af12817eb0e9a7cb0d1f33c2ca9c4b88e7c01f0d965d2a", func := "hopmesh/hopmeshlaw56.MonitorGrows", spec := "monitorGrows", unfollowed := true, recurses := true, plainKeys := false, apart := false }
def MonitorGrowsSaid : Prop := monitorGrowsRow.holds Try.pinned (OpenSpec.ofChange monitorGrowsSpec)

/-- ITS FALSE NEIGHBOUR: 'it returns false'. Refute it at one input. -/
def monitorGrowsWrong : ChangeSpec := { name := "monitorGrows", fn := fun _ => fun
  | [d1, d2, d3] => { results := [.lit (.bool false)], args := [d1, d2, d3] }
  | _ => none }
def MonitorGrowsWrongFalsely : Prop := monitorGrowsRow.holds Try.pinned (OpenSpec.ofChange monitorGrowsWrong)

/- THE SECOND FORM. 'bulk': how many values and letters a reading holds, each counted each time it is reached (what is shared counts as often as it is met; a slice's spare places count too). A statement '..UptoSaid' is the law's where the arguments, and the package variables that the reading takes, are together of bulk at most 1048576: NARROWER than '..Said'. Prove '..Said' where nothing that the law and all that it calls make is longer than what came in: it says more and counts as full. Else prove '..UptoSaid'. A law counts once. -/
mutual
def uptoBulk {H : Type} : DataW H → Nat
  | .lit (.string bytes) => bytes.length + 1
  | .lit _ => 1
  | .nil => 1
  | .ptr d => uptoBulk d + 1
  | .slice elems spare => uptoBulkAll elems + uptoBulkAll spare + 1
  | .agg parts => uptoBulkAll parts + 1
  | .iface _ d => uptoBulk d + 1
  | .map entries => uptoBulkEntries entries + 1
  | .held _ => 1
def uptoBulkAll {H : Type} : List (DataW H) → Nat
  | [] => 0
  | d :: r => uptoBulk d + uptoBulkAll r
def uptoBulkEntries {H : Type} : List (Lit × DataW H) → Nat
  | [] => 0
  | x :: r => uptoBulkEntry x + uptoBulkEntries r
def uptoBulkEntry {H : Type} : Lit × DataW H → Nat
  | (.string bytes, d) => bytes.length + uptoBulk d + 1
  | (_, d) => uptoBulk d + 1
 end
def uptoSmall : (H : Type) → List (DataW H) → Bool := fun _ ds => decide (uptoBulkAll ds ≤ 1048576)
def OpenSpec.upto (s : _root_.Go.ChangeSpec) : _root_.Go.OpenSpec := { _root_.Go.OpenSpec.ofChange s with cond := some uptoSmall }

/-- 'hopmeshlaw56.MonitorLate', WHERE WHAT IT READS IS OF BULK AT MOST 1048576: true; the input reads as it did. -/
def monitorLateUptoRow : OpenClaim := { program := "ytkdigdnacggknaa", sum := "aa91c1f5dd02bbcd85af12817eb0e9a7cb0d1f33c2ca9c4b88e7c01f0d965d2a", func := "hopmesh/hopmeshlaw56.MonitorLate", spec := "monitorLate", unfollowed := true, recurses := true, plainKeys := false, apart := false, narrowed := true }
def MonitorLateUptoSaid : Prop := monitorLateUptoRow.holds Try.pinned (OpenSpec.upto monitorLateSpec)

/-- 'hopmeshlaw56.MonitorBreaches', WHERE WHAT IT READS IS OF BULK AT MOST 1048576: true; the input reads as it did. -/
def monitorBreachesUptoRow : OpenClaim := { program := "ytkdigdnacggknaa", sum := "aa91c1f5dd02bbcd85af12817eb0e9a7cb0d1f33c2ca9c4b88e7c01f0d965d2a", func := "hopmesh/hopmeshlaw56.MonitorBreaches", spec := "monitorBreaches", unfollowed := true, recurses := true, plainKeys := false, apart := false, narrowed := true }
def MonitorBreachesUptoSaid : Prop := monitorBreachesUptoRow.holds Try.pinned (OpenSpec.upto monitorBreachesSpec)

/-- 'hopmeshlaw56.MonitorServes', WHERE WHAT IT READS IS OF BULK AT MOST 1048576: true; the input reads as it did. -/
def monitorServesUptoRow : OpenClaim := { program := "ytkdigdnacggknaa", sum := "aa91c1f5dd02bbcd85af12817eb0e9a7cb0d1f33c2ca9c4b88e7c01f0d965d2a", func := "hopmesh/hopmeshlaw56.MonitorServes", spec := "monitorServes", unfollowed := true, recurses := true, plainKeys := false, apart := false, narrowed := true }
def MonitorServesUptoSaid : Prop := monitorServesUptoRow.holds Try.pinned (OpenSpec.upto monitorServesSpec)

/-- 'hopmeshlaw56.MonitorCounts', WHERE WHAT IT READS IS OF BULK AT MOST 1048576: true; the input reads as it did. -/
def monitorCountsUptoRow : OpenClaim := { program := "ytkdigdnacggknaa", sum := "aa91c1f5dd02bbcd85af12817eb0e9a7cb0d1f33c2ca9c4b88e7c01f0d965d2a", func := "hopmesh/hopmeshlaw56.MonitorCounts", spec := "monitorCounts", unfollowed := true, recurses := true, plainKeys := false, apart := false, narrowed := true }
def MonitorCountsUptoSaid : Prop := monitorCountsUptoRow.holds Try.pinned (OpenSpec.upto monitorCountsSpec)

/-- 'hopmeshlaw56.MonitorLosses', WHERE WHAT IT READS IS OF BULK AT MOST 1048576: true; the input reads as it did. -/
def monitorLossesUptoRow : OpenClaim := { program := "ytkdigdnacggknaa", sum := "aa91c1f5dd02bbcd85af12817eb0e9a7cb0d1f33c2ca9c4b88e7c01f0d965d2a", func := "hopmesh/hopmeshlaw56.MonitorLosses", spec := "monitorLosses", unfollowed := true, recurses := true, plainKeys := false, apart := false, narrowed := true }
def MonitorLossesUptoSaid : Prop := monitorLossesUptoRow.holds Try.pinned (OpenSpec.upto monitorLossesSpec)

/-- 'hopmeshlaw56.MonitorGrows', WHERE WHAT IT READS IS OF BULK AT MOST 1048576: true; the input reads as it did. -/
def monitorGrowsUptoRow : OpenClaim := { program := "ytkdigdnacggknaa", sum := "aa91c1f5dd02bbcd85af12817eb0e9a7cb0d1f33c2ca9c4b88e7c01f0d965d2a", func := "hopmesh/hopmeshlaw56.MonitorGrows", spec := "monitorGrows", unfollowed := true, recurses := true, plainKeys := false, apart := false, narrowed := true }
def MonitorGrowsUptoSaid : Prop := monitorGrowsUptoRow.holds Try.pinned (OpenSpec.upto monitorGrowsSpec)

end Rows
end Go.Proofs.Ytkdigdnacggknaa

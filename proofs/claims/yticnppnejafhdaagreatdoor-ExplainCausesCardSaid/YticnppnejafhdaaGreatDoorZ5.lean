import Derived.Deep.CutBlock
import Derived.Test.YticnppnejafhdaaGreatDoorZ4
set_option linter.unusedVariables false
set_option linter.unusedSimpArgs false
/- Sizes and zero values of types. -/
namespace Go.Proofs.YticnppnejafhdaaGreatDoor
open Go.RowKit
open Nd Rc Mo
open Av
set_option maxRecDepth 100000
set_option linter.unusedSimpArgs false
theorem all_arr {α : Type} {l : List α} {p : α → Bool} {n : Nat} (h : n = l.length) : l.toArray.all p 0 n = l.all p := by subst h; simp
theorem loc_ss (a b : Nat) : (Loc.s a == Loc.s b) = (a == b) := by rw [Bool.eq_iff_iff, beq_iff_eq, beq_iff_eq, Loc.s.injEq]
theorem loc_sb (a b c : Nat) : (Loc.s a == Loc.b b c) = false := by rw [beq_eq_false_iff_ne]; exact fun h => by cases h
theorem loc_bs (a b c : Nat) : (Loc.b b c == Loc.s a) = false := by rw [beq_eq_false_iff_ne]; exact fun h => by cases h
theorem loc_bb (a b c d : Nat) : (Loc.b a b == Loc.b c d) = (a == c && b == d) := by rw [Bool.eq_iff_iff, Bool.and_eq_true, beq_iff_eq, beq_iff_eq, beq_iff_eq, Loc.b.injEq]
theorem arr_two {α : Type} (a b c : α) : ((#[a, b] : Array α) = #[c]) = False := eq_false fun h => by have := congrArg Array.size h; simp at this
theorem rg1 : List.range 1 = [0] := by decide
theorem rg2 : List.range 2 = [0, 1] := by decide
theorem rg3 : List.range 3 = [0, 1, 2] := by decide
theorem rg4 : List.range 4 = [0, 1, 2, 3] := by decide
theorem rg5 : List.range 5 = [0, 1, 2, 3, 4] := by decide
theorem rg6 : List.range 6 = [0, 1, 2, 3, 4, 5] := by decide
theorem rg7 : List.range 7 = [0, 1, 2, 3, 4, 5, 6] := by decide
theorem rg8 : List.range 8 = [0, 1, 2, 3, 4, 5, 6, 7] := by decide
theorem arr_one {α : Type} (a b : α) : ((#[a] : Array α) = #[b]) = (a = b) := by simp
theorem Tryz.sz3 : (Tryz.prog.info? 3).map (·.size) = some 1 := by kernel_rfl
theorem Tryz.zr3 : (Tryz.prog.info? 3).map (·.zero) = some (some (.int .i64 0)) := by kernel_rfl
theorem Tryz.pl3 (k : Nat) : (Tryz.prog.info? 3).map (fun t => (k, t.size)) = some (k, 1) := by
  have h := Tryz.sz3
  cases hi : Tryz.prog.info? 3 with
  | none => rw [hi] at h; cases h
  | some i => rw [hi] at h; simp only [Option.map_some, Option.some.injEq] at h ⊢; rw [h]
theorem Tryz.is3 : (Tryz.prog.info? 3).isSome = true := by kernel_rfl
theorem Tryz.by3 : (Tryz.prog.info? 3).map (fun j => decide (j.bytes ≤ 1000000)) = some true := by kernel_rfl
theorem Tryz.sz4 : (Tryz.prog.info? 4).map (·.size) = some 1 := by kernel_rfl
theorem Tryz.zr4 : (Tryz.prog.info? 4).map (·.zero) = some (some (.bool false)) := by kernel_rfl
theorem Tryz.pl4 (k : Nat) : (Tryz.prog.info? 4).map (fun t => (k, t.size)) = some (k, 1) := by
  have h := Tryz.sz4
  cases hi : Tryz.prog.info? 4 with
  | none => rw [hi] at h; cases h
  | some i => rw [hi] at h; simp only [Option.map_some, Option.some.injEq] at h ⊢; rw [h]
theorem Tryz.is4 : (Tryz.prog.info? 4).isSome = true := by kernel_rfl
theorem Tryz.by4 : (Tryz.prog.info? 4).map (fun j => decide (j.bytes ≤ 1000000)) = some true := by kernel_rfl
theorem Tryz.sz43 : (Tryz.prog.info? 43).map (·.size) = some 1 := by kernel_rfl
theorem Tryz.zr43 : (Tryz.prog.info? 43).map (·.zero) = some (some (.int .i64 0)) := by kernel_rfl
theorem Tryz.pl43 (k : Nat) : (Tryz.prog.info? 43).map (fun t => (k, t.size)) = some (k, 1) := by
  have h := Tryz.sz43
  cases hi : Tryz.prog.info? 43 with
  | none => rw [hi] at h; cases h
  | some i => rw [hi] at h; simp only [Option.map_some, Option.some.injEq] at h ⊢; rw [h]
theorem Tryz.is43 : (Tryz.prog.info? 43).isSome = true := by kernel_rfl
theorem Tryz.by43 : (Tryz.prog.info? 43).map (fun j => decide (j.bytes ≤ 1000000)) = some true := by kernel_rfl
theorem Tryz.sz35 : (Tryz.prog.info? 35).map (·.size) = some 3 := by kernel_rfl
theorem Tryz.zr35 : (Tryz.prog.info? 35).map (·.zero) = some (some (.agg #[.int .i64 0, .slice none 0 0, .slice none 0 0])) := by kernel_rfl
theorem Tryz.pl35 (k : Nat) : (Tryz.prog.info? 35).map (fun t => (k, t.size)) = some (k, 3) := by
  have h := Tryz.sz35
  cases hi : Tryz.prog.info? 35 with
  | none => rw [hi] at h; cases h
  | some i => rw [hi] at h; simp only [Option.map_some, Option.some.injEq] at h ⊢; rw [h]
theorem Tryz.is35 : (Tryz.prog.info? 35).isSome = true := by kernel_rfl
theorem Tryz.by35 : (Tryz.prog.info? 35).map (fun j => decide (j.bytes ≤ 1000000)) = some true := by kernel_rfl
theorem Tryz.sz33 : (Tryz.prog.info? 33).map (·.size) = some 2 := by kernel_rfl
theorem Tryz.zr33 : (Tryz.prog.info? 33).map (·.zero) = some (some (.agg #[.slice none 0 0, .slice none 0 0])) := by kernel_rfl
theorem Tryz.pl33 (k : Nat) : (Tryz.prog.info? 33).map (fun t => (k, t.size)) = some (k, 2) := by
  have h := Tryz.sz33
  cases hi : Tryz.prog.info? 33 with
  | none => rw [hi] at h; cases h
  | some i => rw [hi] at h; simp only [Option.map_some, Option.some.injEq] at h ⊢; rw [h]
theorem Tryz.is33 : (Tryz.prog.info? 33).isSome = true := by kernel_rfl
theorem Tryz.by33 : (Tryz.prog.info? 33).map (fun j => decide (j.bytes ≤ 1000000)) = some true := by kernel_rfl
theorem Tryz.sz28 : (Tryz.prog.info? 28).map (·.size) = some 6 := by kernel_rfl
theorem Tryz.zr28 : (Tryz.prog.info? 28).map (·.zero) = some (some (.agg #[.int .i64 0, .int .i64 0, .int .i64 0, .int .i64 0, .int .i64 0, .int .i64 0])) := by kernel_rfl
theorem Tryz.pl28 (k : Nat) : (Tryz.prog.info? 28).map (fun t => (k, t.size)) = some (k, 6) := by
  have h := Tryz.sz28
  cases hi : Tryz.prog.info? 28 with
  | none => rw [hi] at h; cases h
  | some i => rw [hi] at h; simp only [Option.map_some, Option.some.injEq] at h ⊢; rw [h]
theorem Tryz.is28 : (Tryz.prog.info? 28).isSome = true := by kernel_rfl
theorem Tryz.by28 : (Tryz.prog.info? 28).map (fun j => decide (j.bytes ≤ 1000000)) = some true := by kernel_rfl
theorem Tryz.sz39 : (Tryz.prog.info? 39).map (·.size) = some 3 := by kernel_rfl
theorem Tryz.zr39 : (Tryz.prog.info? 39).map (·.zero) = some (some (.agg #[.int .i64 0, .int .i64 0, .int .i64 0])) := by kernel_rfl
theorem Tryz.pl39 (k : Nat) : (Tryz.prog.info? 39).map (fun t => (k, t.size)) = some (k, 3) := by
  have h := Tryz.sz39
  cases hi : Tryz.prog.info? 39 with
  | none => rw [hi] at h; cases h
  | some i => rw [hi] at h; simp only [Option.map_some, Option.some.injEq] at h ⊢; rw [h]
theorem Tryz.is39 : (Tryz.prog.info? 39).isSome = true := by kernel_rfl
theorem Tryz.by39 : (Tryz.prog.info? 39).map (fun j => decide (j.bytes ≤ 1000000)) = some true := by kernel_rfl
theorem Tryz.sz57 : (Tryz.prog.info? 57).map (·.size) = some 5 := by kernel_rfl
theorem Tryz.zr57 : (Tryz.prog.info? 57).map (·.zero) = some (some (.agg #[.int .i64 0, .int .i64 0, .int .i64 0, .int .i64 0, .slice none 0 0])) := by kernel_rfl
theorem Tryz.pl57 (k : Nat) : (Tryz.prog.info? 57).map (fun t => (k, t.size)) = some (k, 5) := by
  have h := Tryz.sz57
  cases hi : Tryz.prog.info? 57 with
  | none => rw [hi] at h; cases h
  | some i => rw [hi] at h; simp only [Option.map_some, Option.some.injEq] at h ⊢; rw [h]
theorem Tryz.is57 : (Tryz.prog.info? 57).isSome = true := by kernel_rfl
theorem Tryz.by57 : (Tryz.prog.info? 57).map (fun j => decide (j.bytes ≤ 1000000)) = some true := by kernel_rfl
theorem Tryz.sz137 : (Tryz.prog.info? 137).map (·.size) = some 3 := by kernel_rfl
theorem Tryz.zr137 : (Tryz.prog.info? 137).map (·.zero) = some (some (.agg #[.int .i64 0, .int .i64 0, .int .i64 0])) := by kernel_rfl
theorem Tryz.pl137 (k : Nat) : (Tryz.prog.info? 137).map (fun t => (k, t.size)) = some (k, 3) := by
  have h := Tryz.sz137
  cases hi : Tryz.prog.info? 137 with
  | none => rw [hi] at h; cases h
  | some i => rw [hi] at h; simp only [Option.map_some, Option.some.injEq] at h ⊢; rw [h]
theorem Tryz.is137 : (Tryz.prog.info? 137).isSome = true := by kernel_rfl
theorem Tryz.by137 : (Tryz.prog.info? 137).map (fun j => decide (j.bytes ≤ 1000000)) = some true := by kernel_rfl
theorem Tryz.sz66 : (Tryz.prog.info? 66).map (·.size) = some 8 := by kernel_rfl
theorem Tryz.zr66 : (Tryz.prog.info? 66).map (·.zero) = some (some (.agg #[.int .i64 0, .int .i64 0, .int .i64 0, .int .i64 0, .int .i64 0, .int .i64 0, .int .i64 0, .int .i64 0])) := by kernel_rfl
theorem Tryz.pl66 (k : Nat) : (Tryz.prog.info? 66).map (fun t => (k, t.size)) = some (k, 8) := by
  have h := Tryz.sz66
  cases hi : Tryz.prog.info? 66 with
  | none => rw [hi] at h; cases h
  | some i => rw [hi] at h; simp only [Option.map_some, Option.some.injEq] at h ⊢; rw [h]
theorem Tryz.is66 : (Tryz.prog.info? 66).isSome = true := by kernel_rfl
theorem Tryz.by66 : (Tryz.prog.info? 66).map (fun j => decide (j.bytes ≤ 1000000)) = some true := by kernel_rfl
theorem Tryz.sz64 : (Tryz.prog.info? 64).map (·.size) = some 5 := by kernel_rfl
theorem Tryz.zr64 : (Tryz.prog.info? 64).map (·.zero) = some (some (.agg #[.int .i64 0, .int .i64 0, .int .i64 0, .int .i64 0, .int .i64 0])) := by kernel_rfl
theorem Tryz.pl64 (k : Nat) : (Tryz.prog.info? 64).map (fun t => (k, t.size)) = some (k, 5) := by
  have h := Tryz.sz64
  cases hi : Tryz.prog.info? 64 with
  | none => rw [hi] at h; cases h
  | some i => rw [hi] at h; simp only [Option.map_some, Option.some.injEq] at h ⊢; rw [h]
theorem Tryz.is64 : (Tryz.prog.info? 64).isSome = true := by kernel_rfl
theorem Tryz.by64 : (Tryz.prog.info? 64).map (fun j => decide (j.bytes ≤ 1000000)) = some true := by kernel_rfl
theorem Tryz.sz60 : (Tryz.prog.info? 60).map (·.size) = some 3 := by kernel_rfl
theorem Tryz.zr60 : (Tryz.prog.info? 60).map (·.zero) = some (some (.agg #[.int .i64 0, .int .i64 0, .int .i64 0])) := by kernel_rfl
theorem Tryz.pl60 (k : Nat) : (Tryz.prog.info? 60).map (fun t => (k, t.size)) = some (k, 3) := by
  have h := Tryz.sz60
  cases hi : Tryz.prog.info? 60 with
  | none => rw [hi] at h; cases h
  | some i => rw [hi] at h; simp only [Option.map_some, Option.some.injEq] at h ⊢; rw [h]
theorem Tryz.is60 : (Tryz.prog.info? 60).isSome = true := by kernel_rfl
theorem Tryz.by60 : (Tryz.prog.info? 60).map (fun j => decide (j.bytes ≤ 1000000)) = some true := by kernel_rfl
theorem Tryz.sz100 : (Tryz.prog.info? 100).map (·.size) = some 2 := by kernel_rfl
theorem Tryz.zr100 : (Tryz.prog.info? 100).map (·.zero) = some (some (.agg #[.int .i64 0, .int .i64 0])) := by kernel_rfl
theorem Tryz.pl100 (k : Nat) : (Tryz.prog.info? 100).map (fun t => (k, t.size)) = some (k, 2) := by
  have h := Tryz.sz100
  cases hi : Tryz.prog.info? 100 with
  | none => rw [hi] at h; cases h
  | some i => rw [hi] at h; simp only [Option.map_some, Option.some.injEq] at h ⊢; rw [h]
theorem Tryz.is100 : (Tryz.prog.info? 100).isSome = true := by kernel_rfl
theorem Tryz.by100 : (Tryz.prog.info? 100).map (fun j => decide (j.bytes ≤ 1000000)) = some true := by kernel_rfl
theorem Tryz.sz103 : (Tryz.prog.info? 103).map (·.size) = some 4 := by kernel_rfl
theorem Tryz.zr103 : (Tryz.prog.info? 103).map (·.zero) = some (some (.agg #[.int .i64 0, .int .i64 0, .int .i64 0, .int .i64 0])) := by kernel_rfl
theorem Tryz.pl103 (k : Nat) : (Tryz.prog.info? 103).map (fun t => (k, t.size)) = some (k, 4) := by
  have h := Tryz.sz103
  cases hi : Tryz.prog.info? 103 with
  | none => rw [hi] at h; cases h
  | some i => rw [hi] at h; simp only [Option.map_some, Option.some.injEq] at h ⊢; rw [h]
theorem Tryz.is103 : (Tryz.prog.info? 103).isSome = true := by kernel_rfl
theorem Tryz.by103 : (Tryz.prog.info? 103).map (fun j => decide (j.bytes ≤ 1000000)) = some true := by kernel_rfl
theorem Tryz.sz26 : (Tryz.prog.info? 26).map (·.size) = some 6 := by kernel_rfl
theorem Tryz.zr26 : (Tryz.prog.info? 26).map (·.zero) = some (some (.agg #[.int .i64 0, .slice none 0 0, .int .i64 0, .int .i64 0, .slice none 0 0, .slice none 0 0])) := by kernel_rfl
theorem Tryz.pl26 (k : Nat) : (Tryz.prog.info? 26).map (fun t => (k, t.size)) = some (k, 6) := by
  have h := Tryz.sz26
  cases hi : Tryz.prog.info? 26 with
  | none => rw [hi] at h; cases h
  | some i => rw [hi] at h; simp only [Option.map_some, Option.some.injEq] at h ⊢; rw [h]
theorem Tryz.is26 : (Tryz.prog.info? 26).isSome = true := by kernel_rfl
theorem Tryz.by26 : (Tryz.prog.info? 26).map (fun j => decide (j.bytes ≤ 1000000)) = some true := by kernel_rfl
theorem Tryz.sz120 : (Tryz.prog.info? 120).map (·.size) = some 1 := by kernel_rfl
theorem Tryz.zr120 : (Tryz.prog.info? 120).map (·.zero) = some (some (.slice none 0 0)) := by kernel_rfl
theorem Tryz.pl120 (k : Nat) : (Tryz.prog.info? 120).map (fun t => (k, t.size)) = some (k, 1) := by
  have h := Tryz.sz120
  cases hi : Tryz.prog.info? 120 with
  | none => rw [hi] at h; cases h
  | some i => rw [hi] at h; simp only [Option.map_some, Option.some.injEq] at h ⊢; rw [h]
theorem Tryz.is120 : (Tryz.prog.info? 120).isSome = true := by kernel_rfl
theorem Tryz.by120 : (Tryz.prog.info? 120).map (fun j => decide (j.bytes ≤ 1000000)) = some true := by kernel_rfl
theorem Tryz.sz117 : (Tryz.prog.info? 117).map (·.size) = some 1 := by kernel_rfl
theorem Tryz.zr117 : (Tryz.prog.info? 117).map (·.zero) = some (some (.slice none 0 0)) := by kernel_rfl
theorem Tryz.pl117 (k : Nat) : (Tryz.prog.info? 117).map (fun t => (k, t.size)) = some (k, 1) := by
  have h := Tryz.sz117
  cases hi : Tryz.prog.info? 117 with
  | none => rw [hi] at h; cases h
  | some i => rw [hi] at h; simp only [Option.map_some, Option.some.injEq] at h ⊢; rw [h]
theorem Tryz.is117 : (Tryz.prog.info? 117).isSome = true := by kernel_rfl
theorem Tryz.by117 : (Tryz.prog.info? 117).map (fun j => decide (j.bytes ≤ 1000000)) = some true := by kernel_rfl
theorem Tryz.sz30 : (Tryz.prog.info? 30).map (·.size) = some 1 := by kernel_rfl
theorem Tryz.zr30 : (Tryz.prog.info? 30).map (·.zero) = some (some (.slice none 0 0)) := by kernel_rfl
theorem Tryz.pl30 (k : Nat) : (Tryz.prog.info? 30).map (fun t => (k, t.size)) = some (k, 1) := by
  have h := Tryz.sz30
  cases hi : Tryz.prog.info? 30 with
  | none => rw [hi] at h; cases h
  | some i => rw [hi] at h; simp only [Option.map_some, Option.some.injEq] at h ⊢; rw [h]
theorem Tryz.is30 : (Tryz.prog.info? 30).isSome = true := by kernel_rfl
theorem Tryz.by30 : (Tryz.prog.info? 30).map (fun j => decide (j.bytes ≤ 1000000)) = some true := by kernel_rfl
theorem Tryz.sz31 : (Tryz.prog.info? 31).map (·.size) = some 1 := by kernel_rfl
theorem Tryz.zr31 : (Tryz.prog.info? 31).map (·.zero) = some (some (.slice none 0 0)) := by kernel_rfl
theorem Tryz.pl31 (k : Nat) : (Tryz.prog.info? 31).map (fun t => (k, t.size)) = some (k, 1) := by
  have h := Tryz.sz31
  cases hi : Tryz.prog.info? 31 with
  | none => rw [hi] at h; cases h
  | some i => rw [hi] at h; simp only [Option.map_some, Option.some.injEq] at h ⊢; rw [h]
theorem Tryz.is31 : (Tryz.prog.info? 31).isSome = true := by kernel_rfl
theorem Tryz.by31 : (Tryz.prog.info? 31).map (fun j => decide (j.bytes ≤ 1000000)) = some true := by kernel_rfl
theorem Tryz.sz40 : (Tryz.prog.info? 40).map (·.size) = some 1 := by kernel_rfl
theorem Tryz.zr40 : (Tryz.prog.info? 40).map (·.zero) = some (some (.slice none 0 0)) := by kernel_rfl
theorem Tryz.pl40 (k : Nat) : (Tryz.prog.info? 40).map (fun t => (k, t.size)) = some (k, 1) := by
  have h := Tryz.sz40
  cases hi : Tryz.prog.info? 40 with
  | none => rw [hi] at h; cases h
  | some i => rw [hi] at h; simp only [Option.map_some, Option.some.injEq] at h ⊢; rw [h]
theorem Tryz.is40 : (Tryz.prog.info? 40).isSome = true := by kernel_rfl
theorem Tryz.by40 : (Tryz.prog.info? 40).map (fun j => decide (j.bytes ≤ 1000000)) = some true := by kernel_rfl
theorem Tryz.sz23 : (Tryz.prog.info? 23).map (·.size) = some 1 := by kernel_rfl
theorem Tryz.zr23 : (Tryz.prog.info? 23).map (·.zero) = some (some (.slice none 0 0)) := by kernel_rfl
theorem Tryz.pl23 (k : Nat) : (Tryz.prog.info? 23).map (fun t => (k, t.size)) = some (k, 1) := by
  have h := Tryz.sz23
  cases hi : Tryz.prog.info? 23 with
  | none => rw [hi] at h; cases h
  | some i => rw [hi] at h; simp only [Option.map_some, Option.some.injEq] at h ⊢; rw [h]
theorem Tryz.is23 : (Tryz.prog.info? 23).isSome = true := by kernel_rfl
theorem Tryz.by23 : (Tryz.prog.info? 23).map (fun j => decide (j.bytes ≤ 1000000)) = some true := by kernel_rfl
theorem Tryz.sz24 : (Tryz.prog.info? 24).map (·.size) = some 1 := by kernel_rfl
theorem Tryz.zr24 : (Tryz.prog.info? 24).map (·.zero) = some (some (.slice none 0 0)) := by kernel_rfl
theorem Tryz.pl24 (k : Nat) : (Tryz.prog.info? 24).map (fun t => (k, t.size)) = some (k, 1) := by
  have h := Tryz.sz24
  cases hi : Tryz.prog.info? 24 with
  | none => rw [hi] at h; cases h
  | some i => rw [hi] at h; simp only [Option.map_some, Option.some.injEq] at h ⊢; rw [h]
theorem Tryz.is24 : (Tryz.prog.info? 24).isSome = true := by kernel_rfl
theorem Tryz.by24 : (Tryz.prog.info? 24).map (fun j => decide (j.bytes ≤ 1000000)) = some true := by kernel_rfl
theorem Tryz.sz22 : (Tryz.prog.info? 22).map (·.size) = some 1 := by kernel_rfl
theorem Tryz.zr22 : (Tryz.prog.info? 22).map (·.zero) = some (some (.slice none 0 0)) := by kernel_rfl
theorem Tryz.pl22 (k : Nat) : (Tryz.prog.info? 22).map (fun t => (k, t.size)) = some (k, 1) := by
  have h := Tryz.sz22
  cases hi : Tryz.prog.info? 22 with
  | none => rw [hi] at h; cases h
  | some i => rw [hi] at h; simp only [Option.map_some, Option.some.injEq] at h ⊢; rw [h]
theorem Tryz.is22 : (Tryz.prog.info? 22).isSome = true := by kernel_rfl
theorem Tryz.by22 : (Tryz.prog.info? 22).map (fun j => decide (j.bytes ≤ 1000000)) = some true := by kernel_rfl
theorem Tryz.sz141 : (Tryz.prog.info? 141).map (·.size) = some 1 := by kernel_rfl
theorem Tryz.zr141 : (Tryz.prog.info? 141).map (·.zero) = some (some (.int .u64 0)) := by kernel_rfl
theorem Tryz.pl141 (k : Nat) : (Tryz.prog.info? 141).map (fun t => (k, t.size)) = some (k, 1) := by
  have h := Tryz.sz141
  cases hi : Tryz.prog.info? 141 with
  | none => rw [hi] at h; cases h
  | some i => rw [hi] at h; simp only [Option.map_some, Option.some.injEq] at h ⊢; rw [h]
theorem Tryz.is141 : (Tryz.prog.info? 141).isSome = true := by kernel_rfl
theorem Tryz.by141 : (Tryz.prog.info? 141).map (fun j => decide (j.bytes ≤ 1000000)) = some true := by kernel_rfl
theorem Tryz.sz42 : (Tryz.prog.info? 42).map (·.size) = some 4 := by kernel_rfl
theorem Tryz.zr42 : (Tryz.prog.info? 42).map (·.zero) = some (some (.agg #[.int .i64 0, .int .i64 0, .int .i64 0, .slice none 0 0])) := by kernel_rfl
theorem Tryz.pl42 (k : Nat) : (Tryz.prog.info? 42).map (fun t => (k, t.size)) = some (k, 4) := by
  have h := Tryz.sz42
  cases hi : Tryz.prog.info? 42 with
  | none => rw [hi] at h; cases h
  | some i => rw [hi] at h; simp only [Option.map_some, Option.some.injEq] at h ⊢; rw [h]
theorem Tryz.is42 : (Tryz.prog.info? 42).isSome = true := by kernel_rfl
theorem Tryz.by42 : (Tryz.prog.info? 42).map (fun j => decide (j.bytes ≤ 1000000)) = some true := by kernel_rfl
theorem Tryz.sz29 : (Tryz.prog.info? 29).map (·.size) = some 1 := by kernel_rfl
theorem Tryz.zr29 : (Tryz.prog.info? 29).map (·.zero) = some (some (.slice none 0 0)) := by kernel_rfl
theorem Tryz.pl29 (k : Nat) : (Tryz.prog.info? 29).map (fun t => (k, t.size)) = some (k, 1) := by
  have h := Tryz.sz29
  cases hi : Tryz.prog.info? 29 with
  | none => rw [hi] at h; cases h
  | some i => rw [hi] at h; simp only [Option.map_some, Option.some.injEq] at h ⊢; rw [h]
theorem Tryz.is29 : (Tryz.prog.info? 29).isSome = true := by kernel_rfl
theorem Tryz.by29 : (Tryz.prog.info? 29).map (fun j => decide (j.bytes ≤ 1000000)) = some true := by kernel_rfl
theorem Tryz.sz83 : (Tryz.prog.info? 83).map (·.size) = some 1 := by kernel_rfl
theorem Tryz.zr83 : (Tryz.prog.info? 83).map (·.zero) = some (some (.slice none 0 0)) := by kernel_rfl
theorem Tryz.pl83 (k : Nat) : (Tryz.prog.info? 83).map (fun t => (k, t.size)) = some (k, 1) := by
  have h := Tryz.sz83
  cases hi : Tryz.prog.info? 83 with
  | none => rw [hi] at h; cases h
  | some i => rw [hi] at h; simp only [Option.map_some, Option.some.injEq] at h ⊢; rw [h]
theorem Tryz.is83 : (Tryz.prog.info? 83).isSome = true := by kernel_rfl
theorem Tryz.by83 : (Tryz.prog.info? 83).map (fun j => decide (j.bytes ≤ 1000000)) = some true := by kernel_rfl
theorem Tryz.sz67 : (Tryz.prog.info? 67).map (·.size) = some 1 := by kernel_rfl
theorem Tryz.zr67 : (Tryz.prog.info? 67).map (·.zero) = some (some (.nilFunc)) := by kernel_rfl
theorem Tryz.pl67 (k : Nat) : (Tryz.prog.info? 67).map (fun t => (k, t.size)) = some (k, 1) := by
  have h := Tryz.sz67
  cases hi : Tryz.prog.info? 67 with
  | none => rw [hi] at h; cases h
  | some i => rw [hi] at h; simp only [Option.map_some, Option.some.injEq] at h ⊢; rw [h]
theorem Tryz.is67 : (Tryz.prog.info? 67).isSome = true := by kernel_rfl
theorem Tryz.by67 : (Tryz.prog.info? 67).map (fun j => decide (j.bytes ≤ 1000000)) = some true := by kernel_rfl
theorem Tryz.sz20 : (Tryz.prog.info? 20).map (·.size) = some 1 := by kernel_rfl
theorem Tryz.zr20 : (Tryz.prog.info? 20).map (·.zero) = some (some (.nilIface)) := by kernel_rfl
theorem Tryz.pl20 (k : Nat) : (Tryz.prog.info? 20).map (fun t => (k, t.size)) = some (k, 1) := by
  have h := Tryz.sz20
  cases hi : Tryz.prog.info? 20 with
  | none => rw [hi] at h; cases h
  | some i => rw [hi] at h; simp only [Option.map_some, Option.some.injEq] at h ⊢; rw [h]
theorem Tryz.is20 : (Tryz.prog.info? 20).isSome = true := by kernel_rfl
theorem Tryz.by20 : (Tryz.prog.info? 20).map (fun j => decide (j.bytes ≤ 1000000)) = some true := by kernel_rfl
theorem Tryz.sz89 : (Tryz.prog.info? 89).map (·.size) = some 1 := by kernel_rfl
theorem Tryz.zr89 : (Tryz.prog.info? 89).map (·.zero) = some (some (.slice none 0 0)) := by kernel_rfl
theorem Tryz.pl89 (k : Nat) : (Tryz.prog.info? 89).map (fun t => (k, t.size)) = some (k, 1) := by
  have h := Tryz.sz89
  cases hi : Tryz.prog.info? 89 with
  | none => rw [hi] at h; cases h
  | some i => rw [hi] at h; simp only [Option.map_some, Option.some.injEq] at h ⊢; rw [h]
theorem Tryz.is89 : (Tryz.prog.info? 89).isSome = true := by kernel_rfl
theorem Tryz.by89 : (Tryz.prog.info? 89).map (fun j => decide (j.bytes ≤ 1000000)) = some true := by kernel_rfl
theorem Tryz.sz132 : (Tryz.prog.info? 132).map (·.size) = some 1 := by kernel_rfl
theorem Tryz.zr132 : (Tryz.prog.info? 132).map (·.zero) = some (some (.slice none 0 0)) := by kernel_rfl
theorem Tryz.pl132 (k : Nat) : (Tryz.prog.info? 132).map (fun t => (k, t.size)) = some (k, 1) := by
  have h := Tryz.sz132
  cases hi : Tryz.prog.info? 132 with
  | none => rw [hi] at h; cases h
  | some i => rw [hi] at h; simp only [Option.map_some, Option.some.injEq] at h ⊢; rw [h]
theorem Tryz.is132 : (Tryz.prog.info? 132).isSome = true := by kernel_rfl
theorem Tryz.by132 : (Tryz.prog.info? 132).map (fun j => decide (j.bytes ≤ 1000000)) = some true := by kernel_rfl
theorem Tryz.sz113 : (Tryz.prog.info? 113).map (·.size) = some 1 := by kernel_rfl
theorem Tryz.zr113 : (Tryz.prog.info? 113).map (·.zero) = some (some (.slice none 0 0)) := by kernel_rfl
theorem Tryz.pl113 (k : Nat) : (Tryz.prog.info? 113).map (fun t => (k, t.size)) = some (k, 1) := by
  have h := Tryz.sz113
  cases hi : Tryz.prog.info? 113 with
  | none => rw [hi] at h; cases h
  | some i => rw [hi] at h; simp only [Option.map_some, Option.some.injEq] at h ⊢; rw [h]
theorem Tryz.is113 : (Tryz.prog.info? 113).isSome = true := by kernel_rfl
theorem Tryz.by113 : (Tryz.prog.info? 113).map (fun j => decide (j.bytes ≤ 1000000)) = some true := by kernel_rfl
theorem Tryz.sz9 : (Tryz.prog.info? 9).map (·.size) = some 1 := by kernel_rfl
theorem Tryz.zr9 : (Tryz.prog.info? 9).map (·.zero) = some (some (.string ⟨#[]⟩)) := by kernel_rfl
theorem Tryz.pl9 (k : Nat) : (Tryz.prog.info? 9).map (fun t => (k, t.size)) = some (k, 1) := by
  have h := Tryz.sz9
  cases hi : Tryz.prog.info? 9 with
  | none => rw [hi] at h; cases h
  | some i => rw [hi] at h; simp only [Option.map_some, Option.some.injEq] at h ⊢; rw [h]
theorem Tryz.is9 : (Tryz.prog.info? 9).isSome = true := by kernel_rfl
theorem Tryz.by9 : (Tryz.prog.info? 9).map (fun j => decide (j.bytes ≤ 1000000)) = some true := by kernel_rfl
theorem Tryz.it39 : Av.intT Tryz.prog 8 39 = some 3 := by kernel_rfl
theorem Tryz.eg39 : Tryz.prog.eqGuardType Tryz.prog.depth 39 = false := by kernel_rfl
theorem Tryz.it137 : Av.intT Tryz.prog 8 137 = some 3 := by kernel_rfl
theorem Tryz.eg137 : Tryz.prog.eqGuardType Tryz.prog.depth 137 = false := by kernel_rfl
theorem Tryz.it66 : Av.intT Tryz.prog 8 66 = some 8 := by kernel_rfl
theorem Tryz.eg66 : Tryz.prog.eqGuardType Tryz.prog.depth 66 = false := by kernel_rfl
theorem Tryz.it28 : Av.intT Tryz.prog 8 28 = some 6 := by kernel_rfl
theorem Tryz.eg28 : Tryz.prog.eqGuardType Tryz.prog.depth 28 = false := by kernel_rfl
theorem Tryz.it60 : Av.intT Tryz.prog 8 60 = some 3 := by kernel_rfl
theorem Tryz.eg60 : Tryz.prog.eqGuardType Tryz.prog.depth 60 = false := by kernel_rfl
end Go.Proofs.YticnppnejafhdaaGreatDoor
/- Breaches: what the maps hold, plain. -/
namespace Go.Proofs.YticnppnejafhdaaGreatDoor
open Go.RowKit
open Nd Rc Mo
open Av
set_option maxRecDepth 100000
set_option linter.unusedSimpArgs false
open Go.Maps

theorem lkGo_lkB {nodes : Int} {pow : List (List Int)} : ∀ {p : Option Lk} {l : List Lk} {ms : List Int}, lkGo nodes pow p l ms = 0 → ∀ x ∈ l, lkB nodes x = true
  | _, [], _, _, x, hx => by cases hx
  | p, y :: l, ms, h, x, hx => by
    unfold lkGo at h
    split at h
    · rename_i h0
      rcases List.mem_cons.1 hx with rfl | hx
      · cases hb : lkB nodes x with
        | true => rfl
        | false => unfold lkE at h0; rw [if_pos hb] at h0; cases h0
      · exact lkGo_lkB h x hx
    · rename_i h0
      exact absurd h h0
theorem chkN_links {n : Net} (h : chkN n = 0) : n.nodes ≤ 32 ∧ ∀ x ∈ n.lk, 0 ≤ x.fr ∧ x.fr < 32 ∧ 0 ≤ x.tt ∧ x.tt < 32 ∧ 0 ≤ x.ls ∧ x.ls ≤ 7 := by
  unfold chkN at h
  split at h
  · cases h
  · rename_i h1
    split at h
    · rename_i h2; exact absurd h h2
    · split at h
      · cases h
      · split at h
        · cases h
        · split at h
          · cases h
          · refine ⟨by omega, fun x hx => ?_⟩
            have := lkGo_lkB h x hx
            simp only [lkB, Nd.inB, Bool.and_eq_true, decide_eq_true_eq] at this
            omega
def lossAt (l : List Lk) (a b : Int) : Option Int := (l.reverse.find? (fun x => x.fr == a && x.tt == b)).map Lk.ls
/-- The map holds the losses of the first k links. -/
def LossG (l : List Lk) (k : Nat) (G : Value → Option (DataW Unit)) : Prop := ∀ a b : Int, G (.agg #[.int .i64 a, .int .i64 b]) = (lossAt (l.take k) a b).map fun x => .lit (.int .i64 x)
theorem LossG.nil (l : List Lk) : LossG l 0 (fun _ => none) := fun a b => rfl
theorem LossG.succ {l : List Lk} {k : Nat} {G G' : Value → Option (DataW Unit)} {d : Lk} (h : LossG l k G) (hd : l[k]? = some d) (h1 : G' (.agg [.int .i64 d.fr, .int .i64 d.tt].toArray) = some (.lit (.int .i64 d.ls))) (h2 : ∀ y, y ≠ .agg [.int .i64 d.fr, .int .i64 d.tt].toArray → G' y = G y) : LossG l (k + 1) G' := fun a b => by
  have hT : l.take (k + 1) = l.take k ++ [d] := by rw [List.take_add_one, hd]; rfl
  unfold lossAt
  rw [hT, List.reverse_append, List.reverse_singleton, List.singleton_append]
  by_cases he : a = d.fr ∧ b = d.tt
  · obtain ⟨rfl, rfl⟩ := he
    rw [List.find?_cons_of_pos (by simp), h1]; rfl
  · rw [List.find?_cons_of_neg (by simp; intro e1 e2; exact he ⟨e1.symm, e2.symm⟩), h2 _ (fun e => he (by simpa using e))]
    exact h a b
def Us.key (u : Us) (a b c d : Int) : Bool := u.fl == a && u.fr == b && u.fm == c && u.tt == d
theorem key_iff {u : Us} {a b c d : Int} : u.key a b c d = true ↔ u.fl = a ∧ u.fr = b ∧ u.fm = c ∧ u.tt = d := by simp [Us.key, and_assoc]
def useAt (U : List Us) (a b c d : Int) : Option Us := U.find? fun u => u.key a b c d
def inUse (u : Us) (a : Att) : Bool := u.key a.cl a.f a.cf a.ct
structure UsesOK (lk : List Lk) (al : List Att) (k : Nat) (U : List Us) (G : Value → Option (DataW Unit)) : Prop where
  uniq : ∀ u ∈ U, U.find? (fun x => x.g == u.g) = some u
  keys : ∀ u ∈ U, useAt U u.fl u.fr u.fm u.tt = some u
  att : ∀ u ∈ U, u.al = (al.take k).filter (inUse u)
  cover : ∀ a ∈ al.take k, (useAt U a.cl a.f a.cf a.ct).isSome = true
  loss : ∀ a ∈ al.take k, (lossAt lk a.cf a.ct).isSome = true
  map : ∀ a b c d : Int, G (.agg #[.int .i64 a, .int .i64 b, .int .i64 c, .int .i64 d]) = (useAt U a b c d).map fun u => .lit (.int .i64 (u.g : Int))
def dropU (g : Nat) (U : List Us) : List Us := U.filter fun u => !(u.g == g)
theorem mem_dropU {g : Nat} {U : List Us} {u : Us} : u ∈ dropU g U ↔ u ∈ U ∧ u.g ≠ g := by simp [dropU]
theorem find_dropU {g : Nat} {U : List Us} {p : Us → Bool} {u : Us} (h : U.find? p = some u) (hg : u.g ≠ g) : (dropU g U).find? p = some u := by
  induction U with
  | nil => cases h
  | cons x U ih =>
    unfold dropU at ih ⊢
    cases hp : p x with
    | true =>
      rw [List.find?_cons_of_pos hp] at h
      cases h
      rw [List.filter_cons_of_pos (by simpa using hg), List.find?_cons_of_pos hp]
    | false =>
      rw [List.find?_cons_of_neg (by simp [hp])] at h
      by_cases hx : x.g = g
      · rw [List.filter_cons_of_neg (by simpa using hx)]; exact ih h
      · rw [List.filter_cons_of_pos (by simpa using hx), List.find?_cons_of_neg (by simp [hp])]; exact ih h
theorem find_dropU_none {g : Nat} {U : List Us} {p : Us → Bool} (h : U.find? p = none) : (dropU g U).find? p = none := by
  rw [List.find?_eq_none] at h ⊢
  exact fun x hx => h x (mem_dropU.1 hx).1
theorem takeSnoc {α : Type} {l : List α} {k : Nat} {d : α} (h : l[k]? = some d) : l.take (k + 1) = l.take k ++ [d] := by rw [List.take_add_one, h]; rfl
section
variable {lk : List Lk} {al : List Att} {k : Nat} {U : List Us} {G G' : Value → Option (DataW Unit)}
theorem UsesOK.nil : UsesOK lk al 0 [] (fun _ => none) := ⟨fun u h => (by cases h), fun u h => (by cases h), fun u h => (by cases h), fun a h => (by simp at h), fun a h => (by simp at h), fun _ _ _ _ => rfl⟩
/-- A use that has no attempts yet. -/
theorem UsesOK.new (h : UsesOK lk al k U G) {a b c d : Int} {g : Nat} (hn : useAt U a b c d = none) (hg : ∀ u ∈ U, u.g ≠ g) (h1 : G' (.agg [.int .i64 a, .int .i64 b, .int .i64 c, .int .i64 d].toArray) = some (.lit (.int .i64 (g : Int)))) (h2 : ∀ y, y ≠ .agg [.int .i64 a, .int .i64 b, .int .i64 c, .int .i64 d].toArray → G' y = G y) : UsesOK lk al k (⟨a, b, c, d, g, []⟩ :: U) G' := by
  have hk : ∀ a' b' c' d', (⟨a, b, c, d, g, []⟩ : Us).key a' b' c' d' = true ↔ a = a' ∧ b = b' ∧ c = c' ∧ d = d' := fun _ _ _ _ => key_iff
  have hself : (⟨a, b, c, d, g, []⟩ : Us).key a b c d = true := (hk _ _ _ _).2 ⟨rfl, rfl, rfl, rfl⟩
  have hat : ∀ a' b' c' d', useAt (⟨a, b, c, d, g, []⟩ :: U) a' b' c' d' = if a = a' ∧ b = b' ∧ c = c' ∧ d = d' then some ⟨a, b, c, d, g, []⟩ else useAt U a' b' c' d' := fun a' b' c' d' => by
    unfold useAt
    by_cases hc : a = a' ∧ b = b' ∧ c = c' ∧ d = d'
    · rw [if_pos hc, List.find?_cons_of_pos (p := fun u : Us => u.key a' b' c' d') ((hk _ _ _ _).2 hc)]
    · rw [if_neg hc, List.find?_cons_of_neg (p := fun u : Us => u.key a' b' c' d') (fun e => hc ((hk _ _ _ _).1 e))]
  refine ⟨fun u hu => ?_, fun u hu => ?_, fun u hu => ?_, fun x hx => ?_, h.loss, fun a' b' c' d' => ?_⟩
  · rcases List.mem_cons.1 hu with rfl | hu
    · rw [List.find?_cons_of_pos (by simp)]
    · rw [List.find?_cons_of_neg (by simpa using fun e => hg u hu e.symm)]; exact h.uniq u hu
  · rw [hat]
    rcases List.mem_cons.1 hu with rfl | hu
    · rw [if_pos ⟨rfl, rfl, rfl, rfl⟩]
    · have h3 := h.keys u hu
      by_cases hc : a = u.fl ∧ b = u.fr ∧ c = u.fm ∧ d = u.tt
      · obtain ⟨rfl, rfl, rfl, rfl⟩ := hc
        rw [h3] at hn; cases hn
      · rw [if_neg hc]; exact h3
  · rcases List.mem_cons.1 hu with rfl | hu
    · refine (List.filter_eq_nil_iff.2 fun x hx => ?_).symm
      intro e
      have h3 := h.cover x hx
      obtain ⟨rfl, rfl, rfl, rfl⟩ := (hk _ _ _ _).1 e
      rw [hn] at h3; cases h3
    · exact h.att u hu
  · rw [hat]
    split
    · rfl
    · exact h.cover x hx
  · rw [hat]
    by_cases hc : a = a' ∧ b = b' ∧ c = c' ∧ d = d'
    · obtain ⟨rfl, rfl, rfl, rfl⟩ := hc
      rw [if_pos ⟨rfl, rfl, rfl, rfl⟩]; exact h1
    · rw [if_neg hc, h2 _ (fun e => hc (by simpa using (show a' = a ∧ b' = b ∧ c' = c ∧ d' = d by simpa using e) |>.imp Eq.symm (fun h => h.imp Eq.symm (fun h => h.imp Eq.symm Eq.symm))))]
      exact h.map a' b' c' d'
/-- An attempt more. -/
theorem UsesOK.succ (h : UsesOK lk al k U G) {x : Att} {u : Us} (hx : al[k]? = some x) (hu : useAt U x.cl x.f x.cf x.ct = some u) (hl : (lossAt lk x.cf x.ct).isSome = true) : UsesOK lk al (k + 1) (⟨x.cl, x.f, x.cf, x.ct, u.g, u.al ++ [x]⟩ :: dropU u.g U) G := by
  have hT := takeSnoc hx
  have hu' : U.find? (fun u => u.key x.cl x.f x.cf x.ct) = some u := hu
  have hmem : u ∈ U := List.mem_of_find?_eq_some hu'
  have hkey : u.key x.cl x.f x.cf x.ct = true := List.find?_some (p := fun u : Us => u.key x.cl x.f x.cf x.ct) hu'
  obtain ⟨q1, q2, q3, q4⟩ := key_iff.1 hkey
  have hk : ∀ a' b' c' d', (⟨x.cl, x.f, x.cf, x.ct, u.g, u.al ++ [x]⟩ : Us).key a' b' c' d' = u.key a' b' c' d' := fun a' b' c' d' => by unfold Us.key; rw [q1, q2, q3, q4]
  -- others have other keys
  have hoth : ∀ v ∈ U, v.g ≠ u.g → v.key x.cl x.f x.cf x.ct = false := fun v hv hg => by
    cases hb : v.key x.cl x.f x.cf x.ct with
    | false => rfl
    | true =>
      obtain ⟨e1, e2, e3, e4⟩ := key_iff.1 hb
      have h3 := h.keys v hv
      rw [e1, e2, e3, e4, hu] at h3
      exact absurd (congrArg Us.g (Option.some.inj h3)).symm hg
  have hat : ∀ a' b' c' d', useAt (⟨x.cl, x.f, x.cf, x.ct, u.g, u.al ++ [x]⟩ :: dropU u.g U) a' b' c' d' = (useAt U a' b' c' d').map fun v => if v.g = u.g then ⟨x.cl, x.f, x.cf, x.ct, u.g, u.al ++ [x]⟩ else v := fun a' b' c' d' => by
    unfold useAt
    by_cases hc : u.key a' b' c' d' = true
    · obtain ⟨r1, r2, r3, r4⟩ := key_iff.1 hc
      have h3 := h.keys u hmem
      unfold useAt at h3
      rw [r1, r2, r3, r4] at h3
      rw [List.find?_cons_of_pos (p := fun u : Us => u.key a' b' c' d') ((hk _ _ _ _).trans hc), h3, Option.map_some, if_pos rfl]
    · rw [List.find?_cons_of_neg (p := fun u : Us => u.key a' b' c' d') (by rw [hk]; exact hc)]
      cases hf : U.find? (fun u => u.key a' b' c' d') with
      | none => rw [find_dropU_none hf]; rfl
      | some v =>
        have hv := List.mem_of_find?_eq_some hf
        have hvk : v.key a' b' c' d' = true := List.find?_some (p := fun u : Us => u.key a' b' c' d') hf
        have hg : v.g ≠ u.g := fun e => by
          have h3 := h.uniq v hv
          rw [e, h.uniq u hmem] at h3
          cases Option.some.inj h3
          exact hc hvk
        rw [find_dropU hf hg, Option.map_some, if_neg hg]
  refine ⟨fun v hv => ?_, fun v hv => ?_, fun v hv => ?_, fun y hy => ?_, fun y hy => ?_, fun a' b' c' d' => ?_⟩
  · rcases List.mem_cons.1 hv with rfl | hv
    · rw [List.find?_cons_of_pos (by simp)]
    · obtain ⟨h3, h4⟩ := mem_dropU.1 hv
      rw [List.find?_cons_of_neg (by simpa using fun e => h4 e.symm)]
      exact find_dropU (h.uniq v h3) h4
  · rw [hat]
    rcases List.mem_cons.1 hv with rfl | hv
    · show (useAt U x.cl x.f x.cf x.ct).map _ = _
      rw [hu, Option.map_some, if_pos rfl]
    · obtain ⟨h3, h4⟩ := mem_dropU.1 hv
      rw [h.keys v h3, Option.map_some, if_neg h4]
  · rw [hT, List.filter_append]
    rcases List.mem_cons.1 hv with rfl | hv
    · have h3 := h.att u hmem
      show u.al ++ [x] = _
      have e1 : (inUse ⟨x.cl, x.f, x.cf, x.ct, u.g, u.al ++ [x]⟩) = inUse u := by funext y; unfold inUse; rw [hk]
      rw [e1, List.filter_cons_of_pos (show inUse u x = true from hkey), List.filter_nil, ← h3]
    · obtain ⟨h3, h4⟩ := mem_dropU.1 hv
      rw [List.filter_cons_of_neg (by rw [show inUse v x = false from hoth v h3 h4]; decide), List.filter_nil, List.append_nil]
      exact h.att v h3
  · rw [hat, Option.isSome_map]
    rw [hT] at hy
    rcases List.mem_append.1 hy with hy | hy
    · exact h.cover y hy
    · simp only [List.mem_cons, List.not_mem_nil, or_false] at hy
      subst hy
      rw [hu]; rfl
  · rw [hT] at hy
    rcases List.mem_append.1 hy with hy | hy
    · exact h.loss y hy
    · simp only [List.mem_cons, List.not_mem_nil, or_false] at hy
      subst hy
      exact hl
  · rw [hat, h.map, Option.map_map]
    congr 1
    funext v
    show _ = DataW.lit (Lit.int .i64 ((if v.g = u.g then _ else v : Us).g : Int))
    split
    · rename_i e; rw [e]
    · rfl
theorem UsesOK.at (h : UsesOK lk al k U G) {a b c d : Int} {g : Nat} (hg : G (.agg [.int .i64 a, .int .i64 b, .int .i64 c, .int .i64 d].toArray) = some (.lit (.int .i64 (g : Int)))) : ∃ u ∈ U, u.g = g ∧ useAt U a b c d = some u := by
  have h1 := h.map a b c d
  rw [show (#[.int .i64 a, .int .i64 b, .int .i64 c, .int .i64 d] : Array Value) = [.int .i64 a, .int .i64 b, .int .i64 c, .int .i64 d].toArray from rfl, hg] at h1
  cases hu : useAt U a b c d with
  | none => rw [hu] at h1; cases h1
  | some u =>
    rw [hu] at h1
    simp only [Option.map_some, Option.some.injEq, DataW.lit.injEq, Lit.int.injEq, true_and] at h1
    exact ⟨u, List.mem_of_find?_eq_some hu, by omega, rfl⟩
theorem UsesOK.no (h : UsesOK lk al k U G) {a b c d : Int} (hg : G (.agg [.int .i64 a, .int .i64 b, .int .i64 c, .int .i64 d].toArray) = none) : useAt U a b c d = none := by
  have h1 := h.map a b c d
  rw [show (#[.int .i64 a, .int .i64 b, .int .i64 c, .int .i64 d] : Array Value) = [.int .i64 a, .int .i64 b, .int .i64 c, .int .i64 d].toArray from rfl, hg] at h1
  cases hu : useAt U a b c d with
  | none => rfl
  | some u => rw [hu] at h1; cases h1
theorem UsesOK.look (h : UsesOK lk al k U G) {u : Us} (hu : u ∈ U) : Av.look (dynBox U) (u.g + 1000000) = some u.row := by rw [look_dyn, h.uniq u hu]; rfl
theorem UsesOK.own (h : UsesOK lk al k U G) {u : Us} (hu : u ∈ U) (T : TypeId) : lookL (dynOwn T U) (.b (u.g + 1000000) 1) = some (T, 8) := by rw [lookL_dyn_b, h.uniq u hu]; rfl
end
theorem useAt_head (a b c d : Int) (g : Nat) (al : List Att) (U : List Us) : useAt (⟨a, b, c, d, g, al⟩ :: U) a b c d = some ⟨a, b, c, d, g, al⟩ := by
  unfold useAt
  rw [List.find?_cons_of_pos (p := fun u : Us => u.key a b c d) (key_iff.2 ⟨rfl, rfl, rfl, rfl⟩)]
theorem LossG.some {l : List Lk} {G : Value → Option (DataW Unit)} (h : LossG l l.length G) {a b : Int} {x : DataW Unit} (hg : G (.agg [.int .i64 a, .int .i64 b].toArray) = some x) : (lossAt l a b).isSome = true := by
  have h1 := h a b
  rw [List.take_length, show (#[.int .i64 a, .int .i64 b] : Array Value) = [.int .i64 a, .int .i64 b].toArray from rfl, hg] at h1
  cases hl : lossAt l a b with
  | none => rw [hl] at h1; cases h1
  | some y => rfl
theorem LossG.no {l : List Lk} {G : Value → Option (DataW Unit)} (h : LossG l l.length G) {a b : Int} (hg : G (.agg [.int .i64 a, .int .i64 b].toArray) = none) : lossAt l a b = none := by
  have h1 := h a b
  rw [List.take_length, show (#[.int .i64 a, .int .i64 b] : Array Value) = [.int .i64 a, .int .i64 b].toArray from rfl, hg] at h1
  cases hl : lossAt l a b with
  | none => rfl
  | some y => rw [hl] at h1; cases h1
theorem LossG.at {l : List Lk} {G : Value → Option (DataW Unit)} (h : LossG l l.length G) {a b x : Int} (hg : G (.agg [.int .i64 a, .int .i64 b].toArray) = .some (.lit (.int .i64 x))) : lossAt l a b = .some x := by
  have h1 := h a b
  rw [List.take_length, show (#[.int .i64 a, .int .i64 b] : Array Value) = [.int .i64 a, .int .i64 b].toArray from rfl, hg] at h1
  cases hl : lossAt l a b with
  | none => rw [hl] at h1; cases h1
  | some y => rw [hl] at h1; simp only [Option.map_some, Option.some.injEq, DataW.lit.injEq, Lit.int.injEq, true_and] at h1; rw [h1]
theorem dynBox_cons (u : Us) (U : List Us) : dynBox (u :: U) = (u.g + 1000000, u.row) :: dynBox U := rfl
theorem dynOwn_cons (T : TypeId) (u : Us) (U : List Us) : dynOwn T (u :: U) = (.b (u.g + 1000000) 1, (T, 8)) :: dynOwn T U := rfl
theorem filter_dyn_b {T : TypeId} {U : List Us} {g : Nat} : List.filter (fun x => !x.1 == Av.Loc.b (g + 1000000) 1) (dynOwn T U) = dynOwn T (dropU g U) := by
  unfold dynOwn dropU
  rw [List.filter_map]
  refine congrArg (List.map _) (List.filter_congr fun u _ => ?_)
  rw [Function.comp_apply]
  dsimp only
  have e : (u.g + 1000000 == g + 1000000) = (u.g == g) := by rw [Bool.eq_iff_iff, beq_iff_eq, beq_iff_eq]; omega
  rw [loc_bb, e, show (1 == 1) = true from rfl, Bool.and_true]
theorem keepL_dyn_b {T : TypeId} {U : List Us} {g : Nat} : Av.keepL (dynOwn T U) (g + 1000000) 1 1 = dynOwn T (dropU g U) := by
  unfold dynOwn dropU Av.keepL
  rw [List.filter_map]
  refine congrArg (List.map _) (List.filter_congr fun u _ => ?_)
  rw [Function.comp_apply]
  have hh : Av.hitB (g + 1000000) 1 1 (.b (u.g + 1000000) 1) = (u.g == g) := by
    unfold Av.hitB
    dsimp only
    rw [Bool.eq_iff_iff]
    simp
  rw [hh]
theorem dropU_idem {U : List Us} {g : Nat} : dropU g (dropU g U) = dropU g U := by
  unfold dropU
  rw [List.filter_filter]
  exact List.filter_congr fun u _ => by rw [Bool.and_self]

theorem lookBig {α : Type} {j g : Nat} {x : α} {l : List (Nat × α)} (h : j < 1000000) : Av.look ((j, x) :: l) (g + 1000000) = Av.look l (g + 1000000) := by rw [Av.look_cons, if_neg (by omega)]
theorem keepL_nil {k o n : Nat} : Av.keepL [] k o n = [] := rfl
theorem keepL_cons_s {t k o n : Nat} {x : TypeId × Nat} {l : List (Av.Loc × (TypeId × Nat))} : Av.keepL ((.s t, x) :: l) k o n = (.s t, x) :: Av.keepL l k o n := rfl
theorem keepL_cons_b {j off k o n : Nat} {x : TypeId × Nat} {l : List (Av.Loc × (TypeId × Nat))} : Av.keepL ((.b j off, x) :: l) k o n = if (decide (j = k) && (decide (o ≤ off) && decide (off < o + n))) = true then Av.keepL l k o n else (.b j off, x) :: Av.keepL l k o n := by
  unfold Av.keepL
  by_cases h : (decide (j = k) && (decide (o ≤ off) && decide (off < o + n))) = true
  · rw [if_pos h, List.filter_cons_of_neg (by show ¬ (!(_ : Bool)) = true; rw [show Av.hitB k o n (.b j off) = true from h]; decide)]
  · rw [if_neg h, List.filter_cons_of_pos (by show (!(_ : Bool)) = true; rw [show Av.hitB k o n (.b j off) = false from (Bool.not_eq_true _).mp h]; rfl)]
theorem attsGo_all {slots : Int} : ∀ {l : List Att} {p : Option Att} {S : List Int} {x : Int}, attsGo slots p S x l = true → ∀ a ∈ l, attB a slots = true
  | [], _, _, _, _, a, ha => by cases ha
  | y :: l, p, S, x, h, a, ha => by
    unfold attsGo at h
    split at h
    · cases h
    · rename_i h0
      have hy : attB y slots = true := by
        cases hb : attB y slots with
        | true => rfl
        | false => exact absurd (by simp [hb]) h0
      rcases List.mem_cons.1 ha with rfl | ha
      · exact hy
      · split at h
        · split at h
          · cases h
          · exact attsGo_all h a ha
        · exact attsGo_all h a ha
theorem dynBox_ren {U : List Us} {k g : Nat} (hk : k < 1000000) : (dynBox U).map (fun x => (if x.1 = k then g else x.1, x.2)) = dynBox U := by
  unfold dynBox
  rw [List.map_map]
  refine List.map_congr_left fun u _ => ?_
  rw [Function.comp_apply]
  dsimp only
  rw [if_neg (by omega)]
theorem dropU_self {a b c d : Int} {g : Nat} {al : List Att} {U : List Us} : dropU g (⟨a, b, c, d, g, al⟩ :: U) = dropU g U := List.filter_cons_of_neg (by simp)
section
variable {lk : List Lk} {al : List Att} {k : Nat} {U : List Us} {G G' : Value → Option (DataW Unit)}
theorem UsesOK.lookD (h : UsesOK lk al k U G) {g : Nat} {v : Us} (hv : v ∈ dropU g U) : Av.look (dynBox (dropU g U)) (v.g + 1000000) = some v.row := by
  obtain ⟨h1, h2⟩ := mem_dropU.1 hv
  rw [look_dyn, find_dropU (h.uniq v h1) h2]; rfl
theorem UsesOK.ownD (h : UsesOK lk al k U G) {g : Nat} {v : Us} (hv : v ∈ dropU g U) (T : TypeId) : lookL (dynOwn T (dropU g U)) (.b (v.g + 1000000) 1) = some (T, 8) := by
  obtain ⟨h1, h2⟩ := mem_dropU.1 hv
  rw [lookL_dyn_b, find_dropU (h.uniq v h1) h2]; rfl
theorem lookL_other {α : Type} {g g' : Nat} (hg : g' ≠ g) {x : α} {l : List (Av.Loc × α)} : Av.lookL ((.b (g + 1000000) 1, x) :: l) (.b (g' + 1000000) 1) = Av.lookL l (.b (g' + 1000000) 1) := by
  rw [Av.lookL_cons, if_neg (by simp; omega)]
theorem lookL_sb {α : Type} {t j off : Nat} {x : α} {l : List (Av.Loc × α)} : Av.lookL ((.s t, x) :: l) (.b j off) = Av.lookL l (.b j off) := by
  rw [Av.lookL_cons, if_neg (by simp)]
theorem avAt_of {σ σ' : Av.St} {k off : Nat} {cs : List PV} (h : Av.look σ'.box k = some cs) (h' : Av.look σ.box k = some cs) : σ'.avAt (.b k off) = σ.avAt (.b k off) := by
  show ((Av.look σ'.box k).bind (·[off]?)).map PV.av = ((Av.look σ.box k).bind (·[off]?)).map PV.av
  rw [h, h']
theorem look_other {α : Type} {g g' : Nat} (hg : g' ≠ g) {x : α} {l : List (Nat × α)} : Av.look ((g + 1000000, x) :: l) (g' + 1000000) = Av.look l (g' + 1000000) := by
  rw [Av.look_cons, if_neg (by omega)]
end
theorem zero_of {T : TypeId} {z : Value} (h : (Tryz.prog.info? T).map (·.zero) = some (some z)) (w : World) : (zeroValue T).run Tryz.prog w = .ok z w := by
  cases hi : Tryz.prog.info? T with
  | none => rw [hi] at h; cases h
  | some i =>
    rw [hi] at h
    simp only [Option.map_some, Option.some.injEq] at h
    simp only [zeroValue, typeInfo, program, Sem.run_bind, Sem.run, Sem.run_pure, Result.andThen_ok, hi, h]
theorem Tryz.ptrType : Tryz.prog.underlying 105 = some (.pointer (Tryz.prog.pointee 105)) := by kernel_rfl
theorem lookL_dyn_none {T : TypeId} {U : List Us} {k off : Nat} (hk : k < 1000000) : lookL (dynOwn T U) (.b k off) = none := by
  induction U with
  | nil => rfl
  | cons u U ih =>
    unfold dynOwn at ih ⊢
    rw [List.map_cons, Av.lookL_cons, if_neg (by simp; intro e; omega), ih]
theorem Tryz.zrPtr : (Tryz.prog.info? 105).map (·.zero) = some (some (.pointer none)) := by kernel_rfl
theorem loss_one {v : Value} {d : DataW Unit} {ps : List MemPlace} (h : plainElem Tryz.prog 3 v = some (d, ps)) : ∃ x : Int, v = .int .i64 x ∧ d = .lit (.int .i64 x) := by
  obtain ⟨x, rfl, h2, _⟩ := plainElem_int_inv Tryz.underlying3 h
  exact ⟨x, rfl, by cases h2; rfl⟩
theorem good_atts {r : Rec} (h : good r = true) : ∀ a ∈ r.al, 0 ≤ a.s ∧ a.s < 4096 ∧ 0 ≤ a.f ∧ a.f < 1048576 ∧ 0 ≤ a.cf ∧ a.cf < 32 ∧ 0 ≤ a.ct ∧ a.ct < 32 ∧ 0 ≤ a.cl ∧ a.cl < 256 ∧ 1 ≤ a.o ∧ a.o ≤ 4 := by
  simp only [good, Bool.and_eq_true, decide_eq_true_eq] at h
  intro a ha
  have := attsGo_all h.2.2.2.2.1 a ha
  simp only [attB, belowB, Bool.and_eq_true, decide_eq_true_eq] at this
  omega
end Go.Proofs.YticnppnejafhdaaGreatDoor
/- Owned rows of structs: what the record layer's text DecP holds of them. -/
namespace Go.Proofs.YticnppnejafhdaaGreatDoor
open Go.RowKit
open Rc
theorem Blk.new' {w : World} {g : Nat} (t : TypeId) (cs : List Value) (h : g = w.heap.size) : Blk (w.alloc (.cells cs.toArray t)) g t cs := by rw [h]; exact Blk.new w t cs
theorem own_kept {w w' : World} {base : Nat} {e : TypeId} {size : Nat} {v : Value} {n : Nat} {xs : List Value} (h : w.ownsRow base e size v n xs) (hk : ∀ g cs, v.ownBlock = some g → Blk w g e cs → Blk w' g e cs) : w'.ownsRow base e size v n xs := by
  refine ⟨h.1, ?_⟩
  rcases h.2 with h0 | ⟨g, cap, cur, hv, hg, hh, h1, h2, h3, h4⟩
  · exact .inl h0
  · refine .inr ⟨g, cap, cur, hv, hg, ?_, h1, h2, h3, h4⟩
    have := hk g cur.toList (by rw [hv]; rfl) (by unfold Blk; simpa using hh)
    unfold Blk at this
    simpa using this
theorem Blk.grown_ {w w' : World} {g : Nat} {t : TypeId} {cs : List Value} {row : Option Nat} (h : Blk w g t cs) (hg : w.grownBy w' row) (hne : some g ≠ row) : Blk w' g t cs := (hg.block g h.lt hne).trans h
theorem Blk.news {w : World} {g : Nat} {t : TypeId} {cs : List Value} (h : Blk w g t cs) : ∀ j u, cs[j]? = some u → w.cell? ((⟨g, 0, none⟩ : Addr).add j) = some u := fun j u hu => by
  have e : (⟨g, 0, none⟩ : Addr).add j = ⟨g, j, none⟩ := by
    unfold Addr.add
    split
    · rename_i h; subst h; rfl
    · simp
  rw [e]; exact (h.row j).trans hu
theorem ints_one {l : List Int} : ∀ u ∈ l.map (Value.int .i64), u.oneCell' = true := fun u hu => by
  obtain ⟨z, _, rfl⟩ := List.mem_map.1 hu
  rfl

theorem own_form {w : World} {base : Nat} {e : TypeId} {size : Nat} {v : Value} {n : Nat} {xs : List Value} (h : w.ownsRow base e size v n xs) : ∃ A c, v = .slice A n c := by
  rcases h.2 with ⟨rfl, h0⟩ | ⟨g, cap, cur, rfl, _⟩
  · exact ⟨none, 0, by rw [h0]⟩
  · exact ⟨_, _, rfl⟩
def flatA (l : List Rc.Att) : List Value := l.flatMap Rc.Att.row
theorem row_len_A (a : Rc.Att) : a.row.length = 8 := rfl
theorem own_liesA {w : World} {base : Nat} {v : Value} {l : List Att} (h : w.ownsRow base 66 8 v l.length (flatA l)) : ∃ A c, v = .slice A l.length c ∧ LiesA w w.heap.size A l := by
  obtain ⟨A, c, e, h1, _⟩ := own_lies (f := Att.row) row_len_A h
  exact ⟨A, c, e, h1⟩
theorem own_A {w : World} {base n c : Nat} {A : Option Addr} {l : List Att} (h : w.ownsRow base 66 8 (.slice A n c) l.length (flatA l)) : LiesA w w.heap.size A l := by
  obtain ⟨A', c', e, h1⟩ := own_liesA h
  injection e with e _ _
  subst e
  exact h1
end Go.Proofs.YticnppnejafhdaaGreatDoor
/- Walk: Attempts of package record. -/
namespace Go.Proofs.YticnppnejafhdaaGreatDoor
open Go.RowKit
open Rc
theorem Tryz.infoAtt : (Tryz.prog.info? 66).map (fun i => (i.zero, i.size, i.bytes)) = some (some (.agg #[.int .i64 0, .int .i64 0, .int .i64 0, .int .i64 0, .int .i64 0, .int .i64 0, .int .i64 0, .int .i64 0]), 8, 64) := by kernel_rfl
/-- The attempts of a frame. -/
def ofFrame (l : List Att) (flow frame : Int) : List Att := l.filter fun a => a.cl == flow && a.f == frame

theorem own_weak {w : World} {base base' : Nat} {e : TypeId} {size : Nat} {v : Value} {n : Nat} {xs : List Value} (h : w.ownsRow base e size v n xs) (hb : base' ≤ base) : w.ownsRow base' e size v n xs := by
  obtain ⟨h1, h2⟩ := h
  refine ⟨h1, ?_⟩
  rcases h2 with h2 | ⟨g, cap, cur, e1, e2, e3⟩
  · exact Or.inl h2
  · exact Or.inr ⟨g, cap, cur, e1, Nat.le_trans hb e2, e3⟩
theorem own_type {w : World} {base : Nat} {e t : TypeId} {size : Nat} {v : Value} {n : Nat} {xs cs : List Value} {g : Nat} (h : w.ownsRow base e size v n xs) (hg : some g = v.ownBlock) (hb : Blk w g t cs) : t = e := by
  obtain ⟨h1, h2⟩ := h
  rcases h2 with ⟨rfl, _⟩ | ⟨g', cap, cur, rfl, e2, e3, _⟩
  · cases hg
  · simp only [Value.ownBlock, Option.some.injEq] at hg
    subst hg
    unfold Blk at hb
    rw [e3] at hb
    injection hb with hb
    injection hb with _ hb
    exact hb.symm

set_option maxRecDepth 100000 in
set_option maxHeartbeats 8000000 in
theorem attempts2_any (r : Rec) (A D : Option Addr) (ca cd : Nat) (flow frame : Int) (w : World) (hA : LiesA w w.heap.size A r.al) (hla : r.al.length ≤ 1000000) :
    Calls Tryz.prog 73 #[.agg #[.int .i64 r.slots, .slice A r.al.length ca, .slice D r.dl.length cd], .int .i64 flow, .int .i64 frame] w fun e w' => Below w.heap.size w w' ∧ ∃ va, e = .returned va ∧ w'.ownsRow w.heap.size 66 8 va (ofFrame r.al flow frame).length (flatA (ofFrame r.al flow frame)) := by
  obtain ⟨slots, al, dl⟩ := r
  dsimp only at *
  obtain ⟨na, hna⟩ : ∃ n, n = al.length := ⟨_, rfl⟩
  obtain ⟨nd, hnd⟩ : ∃ n, n = dl.length := ⟨_, rfl⟩
  rw [← hna, ← hnd]
  rw [← hna] at hla
  have HA := Lib.hid hna
  clear hna hnd
  obtain ⟨F, hF⟩ : ∃ F, F = ofFrame al flow frame := ⟨_, rfl⟩
  rw [← hF]
  have HF := Lib.hid hF
  clear hF
  obtain ⟨i0, hi, hz0, hz1, hz2⟩ := info_parts Tryz.infoAtt
  go_enter Tryz.func73, Tryz.ntmps73
  go_wp2_with fail
  generalize hW0 : World.alloc _ _ = W0
  have bR : Blk W0 w.heap.size 35 [.int .i64 slots, .slice A na ca, .slice D nd cd] := by rw [← hW0]; exact Blk.new' _ [.int .i64 slots, .slice A na ca, .slice D nd cd] rfl
  have hb0 : Below w.heap.size w W0 := by rw [← hW0]; exact (Below.refl _ _).alloc (Nat.le_refl _) _
  clear hW0
  obtain ⟨N, hN⟩ : ∃ N, N = w.heap.size := ⟨_, rfl⟩
  rw [← hN] at bR hb0 ⊢
  have hA' : LiesA w N A al := by rw [hN]; exact hA
  have HN := Lib.hid hN
  clear hN hA
  go_loopw [7, 14] (fun s7 i wr => ∃ (k : Nat) (acc : List Att) (va : Value), va = s7 ∧ k ≤ na ∧ i = .int .i64 k ∧ acc.length ≤ k ∧ wr.ownsRow (N + 1) 66 8 va acc.length (flatA acc) ∧ Below N w wr ∧ N + 1 ≤ wr.heap.size ∧ Hid (F = acc ++ ofFrame (al.drop k) flow frame)) (fun _ i _ => na - (intOf i).toNat)
  case atStart => exact ⟨0, [], _, rfl, Nat.zero_le _, rfl, Nat.le_refl _, World.ownsRow_nil _ _ _ _, hb0, bR.lt, Lib.hid (by rw [HF.out]; simp)⟩
  case round =>
    obtain ⟨k, acc, va, rfl, hk, rfl, hal, hown, hb, hMw, hst⟩ := hrel
    by_cases hlt : k < na
    · obtain ⟨a, ha⟩ := get_of_lt (l := al) (k := k) (by rw [← HA.out]; exact hlt)
      obtain ⟨b, off, rfl, hbB, hcs⟩ := (hA'.below hb).at_ ha
      obtain ⟨c0, c1, c2, c3, c4, c5, c6, c7⟩ := hcs k a ha
      have hd := Lib.hid (drop_of_get ha)
      have hvl : ∀ g, va.ownBlock = some g → N + 1 ≤ g ∧ g < wr.heap.size := hown.lt
      have HV := Lib.hid hvl
      clear hcs ha hvl
      go_upto_region 5 with fail
      generalize hW1 : wr.alloc _ = W1
      have ba : Blk W1 wr.heap.size 66 [.int .i64 a.s, .int .i64 a.f, .int .i64 a.cs, .int .i64 a.co, .int .i64 a.cf, .int .i64 a.ct, .int .i64 a.cl, .int .i64 a.o] := by rw [← hW1]; exact Blk.new' _ [.int .i64 a.s, .int .i64 a.f, .int .i64 a.cs, .int .i64 a.co, .int .i64 a.cf, .int .i64 a.ct, .int .i64 a.cl, .int .i64 a.o] rfl
      have hb1 : Below N w W1 := by rw [← hW1]; exact hb.alloc (by omega) _
      have hsz : wr.heap.size + 1 ≤ W1.heap.size := by rw [← hW1]; simp
      have hown1 : W1.ownsRow (N + 1) 66 8 va acc.length (flatA acc) := by rw [← hW1]; exact hown.alloc _
      have ca := ba.row
      unfold Row at ca
      clear hW1 c0 c1 c2 c3 c4 c5 c6 c7 hown
      by_cases hm : a.cl = flow ∧ a.f = frame
      · obtain ⟨h1, h2⟩ := hm
        have e1 : (a.cl == flow) = true := by simp [h1]
        have e2 : (a.f == frame) = true := by simp [h2]
        have hst' : Hid (F = (acc ++ [a]) ++ ofFrame (al.drop (k + 1)) flow frame) := Lib.hid (by rw [hst.out, hd.out]; simp [ofFrame, h1, h2])
        have HO := Lib.hid hown1
        clear hown1 hst h1 h2
        go_wp2_with (at_builtin; refine wpList_append_own_at _ rfl (.tmp 29) (.tmp 31) 30 rfl (N + 1) 66 i0 (.agg #[.int .i64 0, .int .i64 0, .int .i64 0, .int .i64 0, .int .i64 0, .int .i64 0, .int .i64 0, .int .i64 0]) 8 64 Tryz.underlying30 hi hz0 hz1 hz2 rfl (by decide) va acc.length (flatA acc) rfl (HO.out.alloc _) ⟨W1.heap.size, 0, none⟩ 1 1 [.int .i64 a.s, .int .i64 a.f, .int .i64 a.cs, .int .i64 a.co, .int .i64 a.cf, .int .i64 a.ct, .int .i64 a.cl, .int .i64 a.o] rfl rfl ?e0 ?e1 ?e2 ?e3 ?e4 ?_)
        case e0 => exact (Blk.new' 66 [.int .i64 a.s, .int .i64 a.f, .int .i64 a.cs, .int .i64 a.co, .int .i64 a.cf, .int .i64 a.ct, .int .i64 a.cl, .int .i64 a.o] rfl).news
        case e1 => exact ints_one (l := [a.s, a.f, a.cs, a.co, a.cf, a.ct, a.cl, a.o])
        case e2 => unfold maxLen; omega
        case e3 => omega
        case e4 => simp; omega
        intro v3 w3 ho3 hg3 hnil3 hat3
        clear hnil3 hat3
        have hb3 : Below N w w3 := (hb1.alloc (by omega) _).grown hg3 (by simp; omega) (by intro g hg; have := HV.out g hg; omega)
        have hz3 : N + 1 ≤ w3.heap.size := by have := hg3.size; simp at this; omega
        have O3 : w3.ownsRow (N + 1) 66 8 v3 (acc ++ [a]).length (flatA (acc ++ [a])) := by simpa [flatA, Att.row] using ho3
        obtain ⟨A3, c3, hv3⟩ := own_form ho3
        clear ho3 hg3 HO
        subst hv3
        go_wp2_with fail
        go_roundw
        case rel => exact ⟨k + 1, acc ++ [a], _, rfl, by omega, by go_num, by simp; omega, O3, hb3, hz3, hst'⟩
        case measure => simp [intOf]; omega
      · have hst' : Hid (F = acc ++ ofFrame (al.drop (k + 1)) flow frame) := Lib.hid (by
          rw [hst.out, hd.out]
          have : (a.cl == flow && a.f == frame) = false := by
            rw [Bool.eq_false_iff]
            intro h
            simp at h
            exact hm h
          simp only [ofFrame, List.filter_cons, this, Bool.false_eq_true, if_false])
        clear hst
        by_cases h1 : a.cl = flow
        · have h2 : ¬ a.f = frame := fun h => hm ⟨h1, h⟩
          have e1 : (a.cl == flow) = true := by simp [h1]
          have e2 : (a.f == frame) = false := by simp [h2]
          go_wp2_with fail
          go_roundw
          case rel => exact ⟨k + 1, acc, _, rfl, by omega, by go_num, by omega, hown1, hb1, by omega, hst'⟩
          case measure => simp [intOf]; omega
        · have e1 : (a.cl == flow) = false := by simp [h1]
          go_wp2_with fail
          go_roundw
          case rel => exact ⟨k + 1, acc, _, rfl, by omega, by go_num, by omega, hown1, hb1, by omega, hst'⟩
          case measure => simp [intOf]; omega
    · have hst' : Hid (F = acc) := Lib.hid (by rw [hst.out, List.drop_of_length_le (by rw [← HA.out]; omega)]; simp [ofFrame])
      obtain ⟨A3, c3, hv3⟩ := own_form hown
      have HO := Lib.hid hown
      clear hst hown
      subst hv3
      go_wp2_with fail
      go_ret
      exact ⟨by rw [← HN.out]; exact hb, _, rfl, by rw [hst'.out, ← HN.out]; exact own_weak HO.out (by omega)⟩

end Go.Proofs.YticnppnejafhdaaGreatDoor
/- Walk: Losses of package record, with its closure. -/
namespace Go.Proofs.YticnppnejafhdaaGreatDoor
open Go.RowKit
open Rc

def flush (run : List Int) (out : List (List Int)) : List (List Int) := if run.length = 0 then out else out ++ [run]

/-- The runs of attempts of a link that are not acknowledged. -/
def lossGo (fr to_ : Int) : List Att → List Int → List (List Int) → List (List Int)
  | [], run, out => flush run out
  | a :: l, run, out => if ¬ a.cf = fr ∨ ¬ a.ct = to_ then lossGo fr to_ l run out else if a.o = 1 then lossGo fr to_ l [] (flush run out) else lossGo fr to_ l (run ++ [a.s]) out

def lossP (l : List Att) (flow frame fr to_ : Int) : List (List Int) := lossGo fr to_ (ofFrame l flow frame) [] []

/-- The values vs are slices that own the runs out, each in a block below R. -/
def Runs (w : World) (B R : Nat) (vs : List Value) (out : List (List Int)) : Prop :=
  vs.length = out.length ∧ ∀ (i : Nat) (v : Value) (l : List Int), vs[i]? = some v → out[i]? = some l → w.ownsRow B 3 1 v l.length (l.map (Value.int .i64)) ∧ ∀ g, v.ownBlock = some g → g < R

theorem Runs.kept {w w' : World} {B R R' : Nat} {vs : List Value} {out : List (List Int)} (h : Runs w B R vs out) (hR : R ≤ R') (hk : ∀ g cs, B ≤ g → g < R → Blk w g 3 cs → Blk w' g 3 cs) : Runs w' B R' vs out :=
  ⟨h.1, fun i v l hv hl => by
    obtain ⟨h1, h2⟩ := h.2 i v l hv hl
    exact ⟨own_kept h1 fun g cs hg hb => hk g cs (h1.lt g hg).1 (h2 g hg) hb, fun g hg => Nat.lt_of_lt_of_le (h2 g hg) hR⟩⟩
theorem Runs.nil (w : World) (B R : Nat) : Runs w B R [] [] := ⟨rfl, fun i v l hv => by simp at hv⟩
theorem Runs.snoc {w : World} {B R : Nat} {vs : List Value} {out : List (List Int)} {v : Value} {l : List Int} (h : Runs w B R vs out) (h1 : w.ownsRow B 3 1 v l.length (l.map (Value.int .i64))) (h2 : ∀ g, v.ownBlock = some g → g < R) : Runs w B R (vs ++ [v]) (out ++ [l]) := by
  refine ⟨by simp [h.1], fun i u m hu hm => ?_⟩
  by_cases hi : i < vs.length
  · rw [List.getElem?_append_left hi] at hu
    rw [List.getElem?_append_left (by rw [← h.1]; exact hi)] at hm
    exact h.2 i u m hu hm
  · rw [List.getElem?_append_right (by omega)] at hu
    rw [List.getElem?_append_right (by rw [← h.1]; omega)] at hm
    rw [← h.1] at hm
    cases hj : i - vs.length with
    | zero =>
      rw [hj] at hu hm
      simp at hu hm
      subst hu hm
      exact ⟨h1, h2⟩
    | succ j =>
      rw [hj] at hu
      simp at hu

theorem Tryz.infoInts : (Tryz.prog.info? 24).map (fun i => (i.zero, i.size, i.bytes)) = some (some (.slice none 0 0), 1, 24) := by kernel_rfl

def endVs (n : Nat) (vr : Value) (vs : List Value) : List Value := if n = 0 then vs else vs ++ [vr]

/-- The closure ends a run: gr is the run's variable, go_ the result's. -/
theorem end_any (gr go_ B n c : Nat) (A : Option Addr) (vo : Value) (vs : List Value) (w : World) (hr : Blk w gr 24 [.slice A n c]) (ho : Blk w go_ 22 [vo]) (hne : gr ≠ go_) (hgr : gr < B) (hgo : go_ < B) (hown : w.ownsRow B 24 1 vo vs.length vs) (hvs : vs.length ≤ 1000000) (hB : B ≤ w.heap.size) :
    Calls Tryz.prog 95 #[.pointer (some ⟨gr, 0, none⟩), .pointer (some ⟨go_, 0, none⟩)] w fun e w' => e = .returned (.tuple #[]) ∧ ∃ vo', Blk w' gr 24 [.slice none 0 0] ∧ Blk w' go_ 22 [vo'] ∧ w'.ownsRow B 24 1 vo' (endVs n (.slice A n c) vs).length (endVs n (.slice A n c) vs) ∧
      (∀ g t cs, g ≠ gr → g ≠ go_ → some g ≠ vo.ownBlock → Blk w g t cs → Blk w' g t cs) ∧ (∀ N, N ≤ gr → N ≤ go_ → Below N w w') ∧ w.heap.size ≤ w'.heap.size := by
  obtain ⟨i0, hi, hz0, hz1, hz2⟩ := info_parts Tryz.infoInts
  have cr := hr.row 0
  have fr := hr.frozen 0
  have co := ho.row 0
  have fo := ho.frozen 0
  obtain ⟨Ao, cao, hvo⟩ := own_form hown
  have hvl : ∀ g, vo.ownBlock = some g → B ≤ g ∧ g < w.heap.size := hown.lt
  have HV := Lib.hid hvl
  clear hvl
  simp only [List.getElem?_cons_zero] at cr co
  cases n with
  | zero =>
    clear hvo
    have HO := Lib.hid hown
    clear hown
    go_enter Tryz.func95, Tryz.ntmps95
    go_wp2_with fail
    go_end0
    refine ⟨rfl, vo, hr.set_ 0 _, ho.far (p := ⟨gr, 0, none⟩) (by dsimp only; omega) _, ?_, fun g t cs h1 h2 h3 h => h.far (p := ⟨gr, 0, none⟩) h1 _, fun N h1 h2 => (Below.refl _ _).setCell (p := ⟨gr, 0, none⟩) h1 _, by simp [World.setCell]⟩
    show World.ownsRow _ _ _ _ _ vs.length vs
    exact own_kept HO.out fun g cs hg h => h.far (p := ⟨gr, 0, none⟩) (by have := (HO.out.lt g hg).1; dsimp only; omega) _
  | succ n =>
    have hpos : decide ((0 : Int) < ((n + 1 : Nat) : Int)) = true := by simp
    have HO := Lib.hid hown
    clear hown hvo
    go_enter Tryz.func95, Tryz.ntmps95
    go_wp2_with (at_builtin; refine wpList_append_own_at _ rfl (.tmp 5) (.tmp 7) 22 rfl B 24 i0 (.slice none 0 0) 1 24 Tryz.underlying22 hi hz0 hz1 hz2 rfl (by decide) vo vs.length vs rfl (HO.out.alloc _) ⟨w.heap.size, 0, none⟩ 1 1 [.slice A (n + 1) c] rfl rfl ?e0 ?e1 ?e2 ?e3 ?e4 ?_)
    case e0 => exact (Blk.new' 24 [.slice A (n + 1) c] rfl).news
    case e1 => intro u hu; simp at hu; subst hu; rfl
    case e2 => unfold maxLen; omega
    case e3 => omega
    case e4 => simp; omega
    intro v3 w3 ho3 hg3 hnil3 hat3
    clear hnil3 hat3
    have hbk : ∀ g t cs, g < B → Blk w g t cs → Blk w3 g t cs := fun g t cs h1 h => (h.alloc _).grown_ hg3 (by intro e; have := HV.out g e.symm; omega)
    have o3 := hbk _ _ _ hgo ho
    have r3 := hbk _ _ _ hgr hr
    have co3 := o3.row 0
    have fo3 := o3.frozen 0
    have cr3 := r3.row 0
    have fr3 := r3.frozen 0
    simp only [List.getElem?_cons_zero] at cr3 co3
    have hne' : ¬ go_ = gr := fun h => hne h.symm
    obtain ⟨A3, c3, hv3⟩ := own_form ho3
    have HO3 := Lib.hid ho3
    have hsz := hg3.size
    have HG := Lib.hid hg3
    clear ho3 hg3 cr fr co fo
    subst hv3
    go_wp2_with fail
    go_end0
    refine ⟨rfl, _, (r3.far (p := ⟨go_, 0, none⟩) hne _).set_ 0 _, (o3.set_ 0 _).far (p := ⟨gr, 0, none⟩) hne' _, ?_, fun g t cs h1 h2 h3 h => (((h.alloc _).grown_ HG.out h3).far (p := ⟨go_, 0, none⟩) h2 _).far (p := ⟨gr, 0, none⟩) h1 _, fun N h1 h2 => ?_, ?_⟩
    · have : endVs (n + 1) (.slice A (n + 1) c) vs = vs ++ [.slice A (n + 1) c] := by simp [endVs]
      rw [this]
      have h := HO3.out
      refine own_kept (by simpa using h) fun g cs hg h' => ?_
      have := (h.lt g hg).1
      exact (h'.far (p := ⟨go_, 0, none⟩) (by dsimp only; omega) _).far (p := ⟨gr, 0, none⟩) (by dsimp only; omega) _
    · exact ((((Below.refl _ _).alloc (by omega) _).grown HG.out (by simp; omega) (by intro g hg; have := HV.out g hg; omega)).setCell (p := ⟨go_, 0, none⟩) h2 _).setCell (p := ⟨gr, 0, none⟩) h1 _
    · simp [World.setCell] at hsz ⊢
      omega

set_option maxRecDepth 100000 in
set_option maxHeartbeats 8000000 in
theorem losses_any (r : Rec) (A D : Option Addr) (ca cd : Nat) (flow frame fr to_ : Int) (w : World) (hA : LiesA w w.heap.size A r.al) (hla : r.al.length ≤ 1000000) :
    Calls Tryz.prog 57 #[.agg #[.int .i64 r.slots, .slice A r.al.length ca, .slice D r.dl.length cd], .int .i64 flow, .int .i64 frame, .int .i64 fr, .int .i64 to_] w fun e w' => Below w.heap.size w w' ∧ ∃ vo vs, e = .returned vo ∧ w'.ownsRow w.heap.size 24 1 vo vs.length vs ∧ Runs w' w.heap.size w'.heap.size vs (lossP r.al flow frame fr to_) := by
  have hcon := fun W (h : Below w.heap.size w W) => attempts2_any r A D ca cd flow frame W ((hA.below h).more h.size) hla
  obtain ⟨slots, al, dl⟩ := r
  dsimp only at *
  obtain ⟨F, hF⟩ : ∃ F, F = ofFrame al flow frame := ⟨_, rfl⟩
  have hFl : F.length ≤ 1000000 := by rw [hF]; exact Nat.le_trans (List.length_filter_le _ _) hla
  obtain ⟨na, hna⟩ : ∃ n, n = al.length := ⟨_, rfl⟩
  obtain ⟨nd, hnd⟩ : ∃ n, n = dl.length := ⟨_, rfl⟩
  unfold lossP
  rw [← hF, ← hna, ← hnd] at hcon
  rw [← hF, ← hna, ← hnd]
  have Con := Lib.hid hcon
  clear hF hcon hna hnd hA
  obtain ⟨T, hT⟩ : ∃ T, T = lossGo fr to_ F [] [] := ⟨_, rfl⟩
  rw [← hT]
  have HT := Lib.hid hT
  clear hT
  obtain ⟨n, hn⟩ : ∃ n, n = F.length := ⟨_, rfl⟩
  rw [← hn] at hFl
  have HL := Lib.hid hn
  clear hn
  obtain ⟨i0, hi, hz0, hz1, hz2⟩ := info_parts Tryz.infoInt
  go_enter Tryz.func57, Tryz.ntmps57
  go_wp2_with fail
  generalize hW0 : World.alloc _ _ = W0
  have bR : Blk W0 w.heap.size 35 [.int .i64 slots, .slice A na ca, .slice D nd cd] := by rw [← hW0]; exact ((Blk.new' _ [.int .i64 slots, .slice A na ca, .slice D nd cd] rfl).alloc _).alloc _
  have bo : Blk W0 (w.heap.size + 1) 22 [.slice none 0 0] := by rw [← hW0]; exact (Blk.new' _ [.slice none 0 0] (by simp)).alloc _
  have br : Blk W0 (w.heap.size + 1 + 1) 24 [.slice none 0 0] := by rw [← hW0]; exact Blk.new' _ [.slice none 0 0] (by simp)
  have hb0 : Below w.heap.size w W0 := by rw [← hW0]; exact (((Below.refl _ _).alloc (Nat.le_refl _) _).alloc (by simp) _).alloc (by simp; omega) _
  have hz : W0.heap.size = w.heap.size + 1 + 1 + 1 := by rw [← hW0]; simp
  clear hW0
  refine (Con.out W0 hb0).mono ?_
  rintro e w1 ⟨hb1, va, rfl, hva⟩
  rw [hz] at hb1 hva
  obtain ⟨N, hN⟩ : ∃ N, N = w.heap.size := ⟨_, rfl⟩
  rw [← hN] at bR bo br hb0 hb1 hva ⊢
  have HN := Lib.hid hN
  replace bo := bo.below hb1 (by omega)
  replace br := br.below hb1 (by omega)
  replace hb0 := hb0.trans (hb1.mono (by omega))
  have hM : N + 1 + 1 + 1 ≤ w1.heap.size := by have := hb1.size; omega
  have hva1 : ∀ g, va.ownBlock = some g → N + 1 + 1 + 1 ≤ g ∧ g < w1.heap.size := hva.lt
  clear hb1 bR hN hz
  obtain ⟨M, hMe⟩ : ∃ M, M = w1.heap.size := ⟨_, rfl⟩
  rw [← hMe] at hM hva1
  have HM := Lib.hid hMe
  have HV1 := Lib.hid hva1
  clear hMe hva1
  rw [← HL.out] at hva
  obtain ⟨A1, cA, hv1⟩ := own_form hva
  have HVA := Lib.hid hva
  clear hva
  subst hv1
  go_wp2_with fail
  obtain ⟨Rel, hRel⟩ : ∃ Rel : Nat → World → Prop, Rel = fun k wr => ∃ (R : Nat) (run : List Int) (out : List (List Int)) (vs : List Value) (vr vo : Value), run.length ≤ k ∧ out.length ≤ k ∧ M ≤ R ∧ R ≤ wr.heap.size ∧ Blk wr (N + 1) 22 [vo] ∧ Blk wr (N + 1 + 1) 24 [vr] ∧
      wr.ownsRow (N + 1 + 1 + 1) 66 8 (.slice A1 n cA) n (flatA F) ∧ wr.ownsRow M 24 1 vo vs.length vs ∧ wr.ownsRow R 3 1 vr run.length (run.map (Value.int .i64)) ∧ Runs wr M R vs out ∧ Below N w wr ∧ Hid (T = lossGo fr to_ (F.drop k) run out) := ⟨_, rfl⟩
  have HRel := Lib.hid hRel
  clear hRel
  have hst0 : Rel 0 w1 := by
    rw [HRel.out]
    exact ⟨M, [], [], [], _, _, Nat.le_refl _, Nat.le_refl _, Nat.le_refl _, by rw [HM.out]; exact Nat.le_refl _, bo, br, HVA.out, World.ownsRow_nil _ _ _ _, World.ownsRow_nil _ _ _ _, Runs.nil _ _ _, hb0, Lib.hid (by rw [HT.out]; simp)⟩
  go_loopw [22] (fun i wr => ∃ (k : Nat), k ≤ n ∧ i = .int .i64 k ∧ Rel k wr) (fun i _ => n - (intOf i).toNat)
  case atStart => exact ⟨0, Nat.zero_le _, rfl, hst0⟩
  case round =>
    clear bo br HVA hb0
    obtain ⟨k, hk, rfl, hrel⟩ := hrel
    rw [HRel.out] at hrel
    obtain ⟨R, run, out, vs, vr, vo, hrl, hol, hMR, hRw, bo, br, hoa, hoo, hor, hrs, hb, hst⟩ := hrel
    clear hst0
    have hvl : vs.length = out.length := hrs.1
    by_cases hlt : k < n
    · obtain ⟨a, ha⟩ := get_of_lt (l := F) (k := k) (by rw [← HL.out]; exact hlt)
      have hoa2 := hoa
      rw [HL.out] at hoa2
      obtain ⟨A2, cB, he2, hl2, _⟩ := own_lies (f := Att.row) row_len_A hoa2
      injection he2 with he2 he3 he4
      clear he3 he4
      subst he2
      have hl2' : LiesA wr wr.heap.size A1 F := hl2
      obtain ⟨b, off, rfl, hbB, hcs⟩ := hl2'.at_ ha
      obtain ⟨c0, c1, c2, c3, c4, c5, c6, c7⟩ := hcs k a ha
      have hd := Lib.hid (drop_of_get ha)
      have HVO : Hid (∀ g, vo.ownBlock = some g → M ≤ g ∧ g < wr.heap.size) := Lib.hid hoo.lt
      have HVR : Hid (∀ g, vr.ownBlock = some g → R ≤ g ∧ g < wr.heap.size) := Lib.hid hor.lt
      clear hcs ha hl2 hl2' hoa2
      go_upto_region 8 with fail
      generalize hW1 : wr.alloc _ = W1
      have ba : Blk W1 wr.heap.size 66 [.int .i64 a.s, .int .i64 a.f, .int .i64 a.cs, .int .i64 a.co, .int .i64 a.cf, .int .i64 a.ct, .int .i64 a.cl, .int .i64 a.o] := by rw [← hW1]; exact Blk.new' _ [.int .i64 a.s, .int .i64 a.f, .int .i64 a.cs, .int .i64 a.co, .int .i64 a.cf, .int .i64 a.ct, .int .i64 a.cl, .int .i64 a.o] rfl
      have hb1 : Below N w W1 := by rw [← hW1]; exact hb.alloc (by omega) _
      have hsz : wr.heap.size + 1 ≤ W1.heap.size := by rw [← hW1]; simp
      have hoa1 : W1.ownsRow (N + 1 + 1 + 1) 66 8 (.slice (some ⟨b, off, none⟩) n cA) n (flatA F) := by rw [← hW1]; exact hoa.alloc _
      have hoo1 : W1.ownsRow M 24 1 vo vs.length vs := by rw [← hW1]; exact hoo.alloc _
      have hor1 : W1.ownsRow R 3 1 vr run.length (run.map (Value.int .i64)) := by rw [← hW1]; exact hor.alloc _
      have hrs1 : Runs W1 M R vs out := hrs.kept (Nat.le_refl _) fun g cs _ _ h => by rw [← hW1]; exact h.alloc _
      have bo1 : Blk W1 (N + 1) 22 [vo] := by rw [← hW1]; exact bo.alloc _
      have br1 : Blk W1 (N + 1 + 1) 24 [vr] := by rw [← hW1]; exact br.alloc _
      have ca := ba.row
      unfold Row at ca
      have HO1 := Lib.hid hoo1
      have HR1 := Lib.hid hor1
      have HA1 := Lib.hid hoa1
      have HRS := Lib.hid hrs1
      clear hW1 c0 c1 c2 c3 c4 c5 c6 c7 hoa hoo hor hrs bo br hoo1 hor1 hoa1 hrs1
      by_cases hskip : ¬ a.cf = fr ∨ ¬ a.ct = to_
      · have hst' : Hid (T = lossGo fr to_ (F.drop (k + 1)) run out) := Lib.hid (by rw [hst.out, hd.out]; simp only [lossGo]; rw [if_pos hskip])
        clear hst
        have hnew : Rel (k + 1) W1 := by
          rw [HRel.out]
          exact ⟨R, run, out, vs, vr, vo, by omega, by omega, hMR, by omega, bo1, br1, HA1.out, HO1.out, HR1.out, HRS.out, hb1, hst'⟩
        by_cases h1 : a.cf = fr
        · have h2 : ¬ a.ct = to_ := by rcases hskip with h | h; exact absurd h1 h; exact h
          go_wp2_with fail
          go_roundw
          case rel => exact ⟨k + 1, by omega, by go_num, hnew⟩
          case measure => simp [intOf]; omega
        · go_wp2_with fail
          go_roundw
          case rel => exact ⟨k + 1, by omega, by go_num, hnew⟩
          case measure => simp [intOf]; omega
      · have hs1 : a.cf = fr := Classical.byContradiction fun h => hskip (Or.inl h)
        have hs2 : a.ct = to_ := Classical.byContradiction fun h => hskip (Or.inr h)
        by_cases hack : a.o = 1
        · have hst' : Hid (T = lossGo fr to_ (F.drop (k + 1)) [] (flush run out)) := Lib.hid (by rw [hst.out, hd.out]; simp only [lossGo]; rw [if_neg hskip, if_pos hack])
          clear hst
          obtain ⟨Ar, cr, hvr⟩ := own_form HR1.out
          subst hvr
          have hend := end_any (N + 1 + 1) (N + 1) M run.length cr Ar vo vs W1 br1 bo1 (by omega) (by omega) (by omega) HO1.out (by omega) (by omega)
          have HE := Lib.hid hend
          clear hend
          go_wp2_with fail
          refine HE.out.mono ?_
          clear HE
          rintro e w2 ⟨rfl, vo2, br2, bo2, hoo2, hk2, hb2, hz2⟩
          have hb2' : Below N w w2 := hb1.trans (hb2 N (by omega) (by omega))
          have rs2 : Runs w2 M W1.heap.size (endVs run.length (.slice Ar run.length cr) vs) (flush run out) := by
            have h1 : Runs w2 M W1.heap.size vs out := HRS.out.kept (by omega) fun g cs hg1 hg2 h => hk2 g _ cs (by omega) (by omega) (by intro e; have := own_type HO1.out e h; revert this; decide) h
            by_cases h0 : run.length = 0
            · simp only [endVs, flush, h0, if_true]
              exact h1
            · simp only [endVs, flush, h0, if_false]
              refine h1.snoc (own_weak (own_kept HR1.out fun g cs hg h => hk2 g _ cs ?_ ?_ (by intro e; have := own_type HO1.out e h; revert this; decide) h) hMR) fun g hg => (HR1.out.lt g hg).2
              · have := (HR1.out.lt g hg).1; omega
              · have := (HR1.out.lt g hg).1; omega
          have oa2 : w2.ownsRow (N + 1 + 1 + 1) 66 8 (.slice (some ⟨b, off, none⟩) n cA) n (flatA F) := own_kept HA1.out fun g cs hg h => hk2 g _ cs (by have := (HA1.out.lt g hg).1; omega) (by have := (HA1.out.lt g hg).1; omega) (by intro e; have := own_type HO1.out e h; revert this; decide) h
          have OA2 := Lib.hid oa2
          have RS2 := Lib.hid rs2
          have OO2 := Lib.hid hoo2
          have hfl : (flush run out).length ≤ k + 1 := by
            unfold flush
            split
            · omega
            · simp; omega
          have hnew : Rel (k + 1) w2 := by
            rw [HRel.out]
            exact ⟨W1.heap.size, [], flush run out, endVs run.length (.slice Ar run.length cr) vs, _, vo2, by simp, hfl, by omega, hz2, bo2, br2, OA2.out, OO2.out, World.ownsRow_nil _ _ _ _, RS2.out, hb2', hst'⟩
          clear hk2 hb2 oa2 rs2 hoo2 HRS HO1 HR1 HA1
          go_wp2_with fail
          go_roundw
          case rel => exact ⟨k + 1, by omega, by go_num, hnew⟩
          case measure => simp [intOf]; omega
        · have hst' : Hid (T = lossGo fr to_ (F.drop (k + 1)) (run ++ [a.s]) out) := Lib.hid (by rw [hst.out, hd.out]; simp only [lossGo]; rw [if_neg hskip, if_neg hack])
          clear hst
          have co1 := bo1.row 0
          have cr1 := br1.row 0
          have fr1 := br1.frozen 0
          simp only [List.getElem?_cons_zero] at co1 cr1
          go_wp2_with (at_builtin; refine wpList_append_own_at _ rfl (.tmp 26) (.tmp 29) 24 rfl R 3 i0 (.int .i64 0) 1 8 Tryz.underlying24 hi hz0 hz1 hz2 rfl (by decide) vr run.length (run.map (Value.int .i64)) rfl (HR1.out.alloc _) ⟨W1.heap.size, 0, none⟩ 1 1 [.int .i64 a.s] rfl rfl ?e0 ?e1 ?e2 ?e3 ?e4 ?_)
          case e0 => exact (Blk.new' 3 [.int .i64 a.s] rfl).news
          case e1 => exact ints_one (l := [a.s])
          case e2 => unfold maxLen; omega
          case e3 => omega
          case e4 => simp; omega
          intro v3 w3 ho3 hg3 hnil3 hat3
          clear hnil3 hat3
          have hkp : ∀ g t cs, g < R ∨ t ≠ 3 → Blk W1 g t cs → Blk w3 g t cs := fun g t cs h1 h => (h.alloc _).grown_ hg3 (by
            intro e
            rcases h1 with h1 | h1
            · have := HVR.out g e.symm; omega
            · exact h1 (own_type HR1.out e h))
          have bo3 := hkp _ _ _ (Or.inl (by omega)) bo1
          have br3 := hkp _ _ _ (Or.inl (by omega)) br1
          have oa3 := own_kept HA1.out fun g cs _ h => hkp g _ cs (Or.inr (by decide)) h
          have oo3 := own_kept HO1.out fun g cs _ h => hkp g _ cs (Or.inr (by decide)) h
          have rs3 := HRS.out.kept (Nat.le_refl _) fun g cs _ h1 h => hkp g _ cs (Or.inl h1) h
          have hb3 : Below N w w3 := (hb1.alloc (by omega) _).grown hg3 (by simp; omega) (by intro g hg; have := HVR.out g hg; omega)
          have hz3 : R ≤ w3.heap.size := by have := hg3.size; simp at this; omega
          have cr3 := br3.row 0
          have fr3 := br3.frozen 0
          simp only [List.getElem?_cons_zero] at cr3
          obtain ⟨A3, c3, hv3⟩ := own_form ho3
          have O4 : (w3.setCell ⟨N + 1 + 1, 0, none⟩ v3).ownsRow R 3 1 v3 (run ++ [a.s]).length ((run ++ [a.s]).map (Value.int .i64)) := own_kept (w := w3) (by simpa using ho3) fun g cs hg h => h.far (p := ⟨N + 1 + 1, 0, none⟩) (by have := (ho3.lt g hg).1; dsimp only; omega) _
          have OA4 : (w3.setCell ⟨N + 1 + 1, 0, none⟩ v3).ownsRow _ _ _ _ _ _ := own_kept oa3 fun g cs hg h => h.far (p := ⟨N + 1 + 1, 0, none⟩) (by have := (oa3.lt g hg).1; dsimp only; omega) _
          have OO4 : (w3.setCell ⟨N + 1 + 1, 0, none⟩ v3).ownsRow _ _ _ _ _ _ := own_kept oo3 fun g cs hg h => h.far (p := ⟨N + 1 + 1, 0, none⟩) (by have := (oo3.lt g hg).1; dsimp only; omega) _
          have RS4 : Runs (w3.setCell ⟨N + 1 + 1, 0, none⟩ v3) _ _ _ _ := rs3.kept (Nat.le_refl _) fun g cs hg _ h => h.far (p := ⟨N + 1 + 1, 0, none⟩) (by dsimp only; omega) _
          have BR4 := br3.set_ 0 v3
          have BO4 := bo3.far (p := ⟨N + 1 + 1, 0, none⟩) (by dsimp only; omega) v3
          have hb4 : Below N w (w3.setCell ⟨N + 1 + 1, 0, none⟩ v3) := hb3.setCell (p := ⟨N + 1 + 1, 0, none⟩) (by dsimp only; omega) _
          have hz4 : R ≤ (w3.setCell ⟨N + 1 + 1, 0, none⟩ v3).heap.size := by simp [World.setCell]; omega
          have h4 := Lib.hid (And.intro O4 (And.intro OA4 (And.intro OO4 RS4)))
          clear O4 OA4 OO4 RS4 oa3 oo3 rs3 ho3 hg3 hkp HRS HO1 HR1 HA1 bo1 br1 co1 cr1 fr1
          have hnew : Rel (k + 1) (w3.setCell ⟨N + 1 + 1, 0, none⟩ v3) := by
            rw [HRel.out]
            exact ⟨R, run ++ [a.s], out, vs, _, vo, by simp; omega, by omega, hMR, hz4, BO4, BR4, h4.out.2.1, h4.out.2.2.1, h4.out.1, h4.out.2.2.2, hb4, hst'⟩
          subst hv3
          go_wp2_with fail
          go_roundw
          case rel => exact ⟨k + 1, by omega, by go_num, hnew⟩
          case measure => simp [intOf]; omega
    · have hst' : Hid (T = flush run out) := Lib.hid (by rw [hst.out, List.drop_of_length_le (by rw [← HL.out]; omega)]; rfl)
      clear hst
      obtain ⟨Ar, cr, hvr⟩ := own_form hor
      have HR1 := Lib.hid hor
      have HRS := Lib.hid hrs
      have HO1 := Lib.hid hoo
      subst hvr
      have hend := end_any (N + 1 + 1) (N + 1) M run.length cr Ar vo vs wr br bo (by omega) (by omega) (by omega) HO1.out (by omega) (by omega)
      have HE := Lib.hid hend
      clear hend hor hrs hoo hoa
      go_wp2_with fail
      refine HE.out.mono ?_
      clear HE
      rintro e w2 ⟨rfl, vo2, br2, bo2, hoo2, hk2, hb2, hz2⟩
      have hb2' : Below N w w2 := hb.trans (hb2 N (by omega) (by omega))
      have rs2 : Runs w2 M w2.heap.size (endVs run.length (.slice Ar run.length cr) vs) (flush run out) := by
        have h1 : Runs w2 M w2.heap.size vs out := HRS.out.kept (by omega) fun g cs hg1 hg2 h => hk2 g _ cs (by omega) (by omega) (by intro e; have := own_type HO1.out e h; revert this; decide) h
        by_cases h0 : run.length = 0
        · simp only [endVs, flush, h0, if_true]
          exact h1
        · simp only [endVs, flush, h0, if_false]
          refine h1.snoc (own_weak (own_kept HR1.out fun g cs hg h => hk2 g _ cs ?_ ?_ (by intro e; have := own_type HO1.out e h; revert this; decide) h) hMR) fun g hg => (by have := (HR1.out.lt g hg).2; omega)
          · have := (HR1.out.lt g hg).1; omega
          · have := (HR1.out.lt g hg).1; omega
      have co2 := bo2.row 0
      simp only [List.getElem?_cons_zero] at co2
      obtain ⟨A3, c3, hv3⟩ := own_form hoo2
      have fin := Lib.hid (And.intro hoo2 rs2)
      clear rs2 hoo2 hk2 HR1 HO1 HRS
      subst hv3
      go_wp2_with fail
      go_ret
      refine ⟨by rw [← HN.out]; exact hb2', _, _, rfl, own_weak fin.out.1 (by rw [← HN.out]; omega), ?_⟩
      rw [hst'.out]
      obtain ⟨r1, r2⟩ := fin.out.2
      exact ⟨r1, fun i v l h1 h2 => ⟨own_weak (r2 i v l h1 h2).1 (by rw [← HN.out]; omega), (r2 i v l h1 h2).2⟩⟩

end Go.Proofs.YticnppnejafhdaaGreatDoor
/- Losses of package record and of the reference, lifted: runs of slots. -/
namespace Go.Proofs.YticnppnejafhdaaGreatDoor
open Go.RowKit
open Nd Rc Mo
open Av
set_option maxRecDepth 100000

def runPv (l : List Int) : List PV := [.sl 1 (l.map fun x => [ip x])]
theorem fresh_none {R : Reader} {w w' : World} {m m' : Nat} {p : Addr} {v : Value} (h : fresh R w w' none m p = some v) : fresh R w w' none m' p = some v := by
  unfold fresh at h ⊢
  split at h
  · rename_i hb; rw [if_pos hb]; exact h
  · rename_i hb
    rw [if_neg hb, if_neg (by rintro ⟨h4, _⟩; cases h4)]
    split at h
    · cases h
    · exact h
theorem flatten_ints : ∀ l : List Int, (l.map fun x => [Value.int .i64 x]).flatten = l.map (Value.int .i64)
  | [] => rfl
  | a :: l => by rw [List.map_cons, List.flatten_cons, flatten_ints l, List.map_cons]; rfl
theorem rep_runs {R : Reader} {w w' : World} {t : TypeId} {vo : Value} {vs : List Value} {out : List (List Int)} {N : Nat} (h : w'.ownsRow w.heap.size t 1 vo vs.length vs) (hr : Runs w' w.heap.size N vs out) : RepP (fresh R w w' none 0) (.sl 1 (out.map runPv)) vo := by
  obtain ⟨hlen, hget⟩ := hr
  have hsz : ∀ (k : Nat) (row : List PV), (out.map runPv)[k]? = some row → row.length = 1 := fun k row hk => by
    rw [List.getElem?_map] at hk
    cases hx : out[k]? with
    | none => rw [hx] at hk; cases hk
    | some l => rw [hx] at hk; simp only [Option.map_some, Option.some.injEq] at hk; subst hk; rfl
  have hz : ∀ (k : Nat) (row : List PV) (j : Nat) (p : PV), (out.map runPv)[k]? = some row → row[j]? = some p → ∃ x, vs[k * 1 + j]? = some x ∧ RepP (fresh R w w' none 0) p x := fun k row j p hk hj => by
    rw [List.getElem?_map] at hk
    cases hx : out[k]? with
    | none => rw [hx] at hk; cases hk
    | some l =>
      rw [hx] at hk
      simp only [Option.map_some, Option.some.injEq] at hk
      subst hk
      cases j with
      | succ j => simp [runPv] at hj
      | zero =>
        simp only [runPv, List.getElem?_cons_zero, Option.some.injEq] at hj
        subst hj
        obtain ⟨v, hv⟩ := get_of_lt (l := vs) (k := k) (by rw [hlen]; exact (List.getElem?_eq_some_iff.1 hx).1)
        refine ⟨v, by simpa using hv, ?_⟩
        obtain ⟨h1, _⟩ := hget k v l hv hx
        have h2 : w'.ownsRow w.heap.size 3 1 v (l.map fun x => [Value.int .i64 x]).length (l.map fun x => [Value.int .i64 x]).flatten := by
          rw [List.length_map, show (l.map fun x => [Value.int .i64 x]).flatten = l.map (Value.int .i64) from flatten_ints l]
          exact h1
        obtain ⟨_, _, h3⟩ := owns_rep (R := R) (by decide) h2 (fun row hr => by obtain ⟨x, _, rfl⟩ := List.mem_map.1 hr; rfl) (fun row hr x hx => by obtain ⟨y, _, rfl⟩ := List.mem_map.1 hr; simp only [List.mem_cons, List.not_mem_nil, or_false] at hx; subst hx; rfl)
        have h4 := (h3 none (.inl rfl)).mono (fun p v => fresh_none (m' := 0))
        rw [List.map_map] at h4
        exact h4
  obtain ⟨_, h2⟩ := h
  rcases h2 with ⟨rfl, hn⟩ | ⟨g, cap, cur, rfl, hb, hg, hnc, hcm, hcs, htake⟩
  · have h0 : out = [] := List.eq_nil_of_length_eq_zero (by omega)
    subst h0
    exact .sl 1 [] none 0 (fun _ _ => undef) (fun k row hk => by cases hk) (.inl rfl) (fun k row j p hk => by cases hk) (Nat.le_refl _)
  · have := rep_mk (R := fresh R w w' none 0) (A := some ⟨g, 0, none⟩) (cap := cap) (zs := vs) hsz hz (.inr ⟨g, 0, rfl, fun i x hx hi => by
      unfold fresh
      rw [if_neg (by dsimp only; omega), if_neg (by rintro ⟨h4, _⟩; cases h4), Nat.zero_add, cell_of_row w' g i cur t (0, 0) hg]
      rw [← htake, List.getElem?_take] at hx
      split at hx
      · rw [← Array.getElem?_toList]; exact hx
      · cases hx⟩) (by rw [List.length_map, ← hlen]; exact hnc)
    rw [List.length_map, ← hlen] at this
    exact this
theorem losses_ok (r : Rec) (fl fr a b : Int) (hla : r.al.length ≤ 1000000) : FnOK Tryz.prog 57 [.agg r.pv, iv fl, iv fr, iv a, iv b] ⟨.sl 1 ((lossP r.al fl fr a b).map runPv), none⟩ := fn_of ⟨Tryz.f57, _, Tryz.func57, by kernel_rfl, rfl⟩ fun w R hR us hus => by
  cases hus with | cons h0 _ hus =>
  cases hus with | cons h1 _ hus =>
  cases hus with | cons h2 _ hus =>
  cases hus with | cons h3 _ hus =>
  cases hus with | cons h4 _ hus =>
  cases hus
  obtain ⟨A, D, ca, cd, rfl, hA, hD⟩ := rec_rep hR h0
  rw [h1, h2, h3, h4]
  refine (losses_any r A D ca cd fl fr a b w hA hla).mono ?_
  rintro e w' ⟨hb, vo, vs, rfl, hown, hruns⟩
  exact ⟨_, rfl, hb, rfl, rep_runs hown hruns⟩
end Go.Proofs.YticnppnejafhdaaGreatDoor
/- The runs of losses, plain: what they are in the list of a link's attempts. -/
namespace Go.Proofs.YticnppnejafhdaaGreatDoor
open Rc
namespace Rc

def nonA (a : Att) : Bool := !(a.o == 1)
def linkB (fr to_ : Int) (a : Att) : Bool := a.cf == fr && a.ct == to_
/-- The runs of those that were not acknowledged. -/
def runsOf : List Att → List (List Int)
  | [] => []
  | a :: l => if a.o = 1 then runsOf l else (a.s :: (l.takeWhile nonA).map Att.s) :: runsOf (l.dropWhile nonA)
termination_by l => l.length
decreasing_by
  · simp
  · have := (List.dropWhile_sublist (l := l) nonA).length_le
    simp; omega

theorem runsOf_nil : runsOf [] = [] := by rw [runsOf]
theorem runsOf_acked {a : Att} {l : List Att} (h : a.o = 1) : runsOf (a :: l) = runsOf l := by rw [runsOf, if_pos h]
theorem runsOf_lost {a : Att} {l : List Att} (h : ¬ a.o = 1) : runsOf (a :: l) = (a.s :: (l.takeWhile nonA).map Att.s) :: runsOf (l.dropWhile nonA) := by rw [runsOf, if_neg h]

/-- Losses over the link's attempts alone. -/
def lossL : List Att → List Int → List (List Int) → List (List Int)
  | [], run, out => flush run out
  | a :: l, run, out => if a.o = 1 then lossL l [] (flush run out) else lossL l (run ++ [a.s]) out

theorem lossGo_lossL (fr to_ : Int) : ∀ (F : List Att) (run : List Int) (out : List (List Int)), lossGo fr to_ F run out = lossL (F.filter (linkB fr to_)) run out
  | [], run, out => rfl
  | a :: F, run, out => by
    simp only [lossGo]
    by_cases h : ¬ a.cf = fr ∨ ¬ a.ct = to_
    · have hb : linkB fr to_ a = false := by
        unfold linkB
        rw [Bool.and_eq_false_iff]
        rcases h with h | h
        · exact .inl (by simpa using h)
        · exact .inr (by simpa using h)
      rw [if_pos h, lossGo_lossL fr to_ F, List.filter_cons, hb]
      simp
    · have hb : linkB fr to_ a = true := by
        unfold linkB
        have h1 : a.cf = fr := Classical.byContradiction fun hh => h (.inl hh)
        have h2 : a.ct = to_ := Classical.byContradiction fun hh => h (.inr hh)
        simp [h1, h2]
      rw [if_neg h, List.filter_cons, hb, if_pos rfl]
      simp only [lossL]
      rw [lossGo_lossL fr to_ F, lossGo_lossL fr to_ F]

theorem lossL_runs : ∀ (l : List Att) (run : List Int) (out : List (List Int)), lossL l run out = if run.length = 0 then out ++ runsOf l else out ++ (run ++ (l.takeWhile nonA).map Att.s) :: runsOf (l.dropWhile nonA)
  | [], run, out => by
    simp only [lossL, flush, runsOf_nil, List.append_nil, List.takeWhile_nil, List.map_nil, List.dropWhile_nil]
  | a :: l, run, out => by
    simp only [lossL]
    by_cases ho : a.o = 1
    · have hn : nonA a = false := by simp [nonA, ho]
      rw [if_pos ho, lossL_runs l]
      simp only [List.length_nil, if_true, flush, runsOf_acked ho, List.takeWhile_cons, List.dropWhile_cons, hn, Bool.false_eq_true, if_false, List.map_nil, List.append_nil]
      split
      · rfl
      · simp
    · have hn : nonA a = true := by simp [nonA, ho]
      rw [if_neg ho, lossL_runs l, if_neg (by simp)]
      simp only [runsOf_lost ho, List.takeWhile_cons, List.dropWhile_cons, hn, if_true, List.map_cons]
      by_cases h0 : run.length = 0
      · have : run = [] := List.eq_nil_of_length_eq_zero h0
        subst this
        simp
      · rw [if_neg h0]
        simp

theorem lossP_runs (al : List Att) (flow frame fr to_ : Int) : lossP al flow frame fr to_ = runsOf ((ofFrame al flow frame).filter (linkB fr to_)) := by
  unfold lossP
  rw [lossGo_lossL, lossL_runs]
  simp

theorem runsOf_len : ∀ (n : Nat) (l : List Att), l.length ≤ n → (runsOf l).length ≤ l.length
  | _, [], _ => by simp [runsOf_nil]
  | 0, a :: l, h => by simp at h
  | n + 1, a :: l, h => by
    by_cases ho : a.o = 1
    · rw [runsOf_acked ho]
      have := runsOf_len n l (by simpa using h)
      simp; omega
    · rw [runsOf_lost ho]
      have h1 := (List.dropWhile_sublist (l := l) nonA).length_le
      have := runsOf_len n (l.dropWhile nonA) (by simp at h; omega)
      simp; omega

/-! ### what the law's loops meet -/
end Rc
end Go.Proofs.YticnppnejafhdaaGreatDoor
/- Explanations, and what the layer computes with them: plain. -/
namespace Go.Proofs.YticnppnejafhdaaGreatDoor
open Go.RowKit
open Nd Rc Mo
open Av
structure Br where
  fl : Int
  fr : Int
  fm : Int
  tt : Int
  sl : List Int
deriving DecidableEq
def Br.pv (b : Br) : List PV := [ip b.fl, ip b.fr, ip b.fm, ip b.tt, .sl 1 (b.sl.map fun x => [ip x])]
structure Ex where
  lt : Lt
  ca : List Br
deriving DecidableEq
def Ex.pv (x : Ex) : List PV := [ip x.lt.fl, ip x.lt.fr, ip x.lt.sl, .sl 5 (x.ca.map Br.pv)]
def lt0 : Lt := ⟨0, 0, 0⟩
def ex0 : Ex := ⟨lt0, []⟩

/-- The fault of a flow among some nodes. -/
def faultN (nodes : Int) (f : Fl) : Int :=
  if f.id < 0 ∨ 255 < f.id ∨ f.fr < 0 ∨ nodes ≤ f.fr ∨ f.tn < 0 ∨ nodes ≤ f.tn ∨ f.pe < 1 ∨ 512 < f.pe ∨ f.ph < 0 ∨ f.pe ≤ f.ph ∨ f.dl < 1 ∨ f.pe < f.dl then 2 else if f.fr = f.tn then 1 else 0
def chkF1 (nodes : Int) (f : Fl) : Int × Int := if nodes < 2 ∨ 32 < nodes then (-1, 2) else if faultN nodes f = 0 then (-1, 0) else (0, faultN nodes f)
theorem fault_of_N {nodes : Int} {f : Fl} (hn : nodes ≤ 32) (h : faultN nodes f = 0) : fault f = 0 ∧ 0 ≤ f.fr ∧ f.fr < nodes ∧ 0 ≤ f.tn ∧ f.tn < nodes ∧ f.fr ≠ f.tn := by
  unfold faultN at h
  split at h
  · cases h
  · rename_i hb
    split at h
    · cases h
    · rename_i hne
      refine ⟨?_, by omega, by omega, by omega, by omega, hne⟩
      unfold fault
      rw [if_pos, if_neg hne]
      simp only [boundsB, Nd.inB, Bool.and_eq_true, decide_eq_true_eq]
      omega
def basicB (n : Net) (f : Fl) (r : Rec) : Bool := decide (chkN n = 0) && good r && decide ((chkF1 n.nodes f).2 = 0)
theorem basicB_inv {n : Net} {f : Fl} {r : Rec} (h : basicB n f r = true) : chkN n = 0 ∧ good r = true ∧ (2 ≤ n.nodes ∧ n.nodes ≤ 32) ∧ faultN n.nodes f = 0 ∧ fault f = 0 := by
  unfold basicB at h
  rw [Bool.and_eq_true, Bool.and_eq_true, decide_eq_true_eq, decide_eq_true_eq] at h
  obtain ⟨⟨h1, h2⟩, h3⟩ := h
  have hn : 2 ≤ n.nodes ∧ n.nodes ≤ 32 := by
    unfold chkN at h1
    split at h1
    · cases h1
    · omega
  unfold chkF1 at h3
  split at h3
  · cases h3
  · split at h3
    · rename_i h4
      exact ⟨h1, h2, hn, h4, (fault_of_N hn.2 h4).1⟩
    · rename_i h4
      exact absurd h3 h4

def lkP (a b : Int) (l : Lk) : Bool := l.fr == a && l.tt == b
/-- The place of a link, or -1. -/
def idxL (n : Net) (a b : Int) : Int := idxP (lkP a b) n.lk 0
def heardB (n : Net) (s : Int) : Bool := decide (n.thr * (n.noise + 0) ≤ s * 1000)
/-- Is there a usable link? -/
def goodL (n : Net) (a b : Int) : Bool := decide (0 ≤ idxL n a b) && (decide (0 ≤ idxL n b a) && (heardB n (n.mg.getD (idxL n a b).toNat 0) && heardB n (n.mg.getD (idxL n b a).toNat 0)))
def outN (n : Net) (x : Int) : Bool := decide (x < 0) || decide (n.nodes ≤ x)
def dupAt (p : List Int) (i : Nat) : Bool := (p.take i).any fun y => p.getD i 0 == y
def dupB (p : List Int) : Bool := (List.range p.length).any (dupAt p)
def gapAt (n : Net) (p : List Int) (i : Nat) : Bool := !goodL n (p.getD i 0) (p.getD (i + 1) 0)
def gapB (n : Net) (p : List Int) : Bool := (List.range (p.length - 1)).any (gapAt n p)
/-- The fault of a route. -/
def routeE (n : Net) (a b : Int) (p : List Int) : Int :=
  if p.length < 2 then 9 else if 9 < p.length then 8 else if p.any (outN n) = true then 2 else if p.getD 0 0 ≠ a ∨ p.getD (p.length - 1) 0 ≠ b then 11
  else if dupB p = true then 6 else if gapB n p = true then 17 else 0

/-- The attempts of a frame on a link. -/
def onLk (al : List Att) (fl fr a b : Int) : List Att := (ofFrame al fl fr).filter fun x => x.cf == a && x.ct == b
def failB (lo hi : Int) (a : Att) : Bool := !(a.o == 1) && (decide (lo ≤ a.s) && decide (a.s ≤ hi))
/-- The causes that begin at the first k attempts. -/
def causeAt (f : Fl) (fr a b lo hi : Int) (need : Nat) (l : List Att) (i : Nat) : List Br := if ((l.drop i).take need).all (failB lo hi) = true then [⟨f.id, fr, a, b, ((l.drop i).take need).map Att.s⟩] else []
def causesK (f : Fl) (fr a b lo hi : Int) (need : Nat) (l : List Att) (k : Nat) : List Br := (List.range k).flatMap (causeAt f fr a b lo hi need l)
def lossL (n : Net) (a b : Int) : Int := (n.lk.getD (idxL n a b).toNat ⟨0, 0, 0⟩).ls
def causesX (n : Net) (f : Fl) (r : Rec) (fr a b : Int) : List Br :=
  causesK f fr a b (rel f fr) (rel f fr + f.dl - 1) ((lossL n a b).toNat + 1) (onLk r.al f.id fr a b) ((onLk r.al f.id fr a b).length - (lossL n a b).toNat)
theorem causesK_succ (f : Fl) (fr a b lo hi : Int) (need : Nat) (l : List Att) (k : Nat) : causesK f fr a b lo hi need l (k + 1) = causesK f fr a b lo hi need l k ++ causeAt f fr a b lo hi need l k := by
  unfold causesK
  rw [List.range_succ, List.flatMap_append]
  simp
theorem causesK_len (f : Fl) (fr a b lo hi : Int) (need : Nat) (l : List Att) (k : Nat) : (causesK f fr a b lo hi need l k).length ≤ k := by
  induction k with
  | zero => exact Nat.le_refl _
  | succ k ih =>
    rw [causesK_succ, List.length_append]
    have : (causeAt f fr a b lo hi need l k).length ≤ 1 := by unfold causeAt; split <;> simp
    omega
def causesR (n : Net) (f : Fl) (r : Rec) (fr a b : Int) : List Br × Int :=
  if basicB n f r = false then ([], 1) else if fr < 0 ∨ 1048576 ≤ fr then ([], 2) else if idxL n a b < 0 then ([], 7) else (causesX n f r fr a b, 0)

/-- The late frame of a case. -/
def lateX (n : Net) (f : Fl) (ps : List (List Int)) (r : Rec) (fr : Int) : Lt × Int :=
  if basicB n f r = false ∨ ps.length < 1 ∨ 2 < ps.length then (lt0, 1) else if ps.any (fun p => !(routeE n f.fr f.tn p == 0)) = true then (lt0, 1)
  else match (late [f] r).1.find? (fun x => x.fr == fr) with
    | none => (lt0, 12)
    | some x => (x, 0)
/-- The first cause on a route, from its k-th link on. -/
def firstC (n : Net) (f : Fl) (r : Rec) (fr : Int) : List Int → Option Br
  | a :: b :: p => match (causesX n f r fr a b).head? with
    | some c => some c
    | none => firstC n f r fr (b :: p)
  | _ => none
def findX (n : Net) (f : Fl) (ps : List (List Int)) (r : Rec) (fr : Int) : Ex × Int :=
  if (lateX n f ps r fr).2 ≠ 0 then (ex0, (lateX n f ps r fr).2) else if ps.any (fun p => (firstC n f r fr p).isNone) = true then (ex0, 7) else (⟨(lateX n f ps r fr).1, ps.filterMap (firstC n f r fr)⟩, 0)
def onB : List Int → Int → Int → Bool
  | a :: b :: p, x, y => (a == x && b == y) || onB (b :: p) x y
  | _, _, _ => false
def okC (n : Net) (f : Fl) (r : Rec) (fr : Int) (p : List Int) (c : Br) : Bool := onB p c.fm c.tt && (causesX n f r fr c.fm c.tt).contains c
def checkX (n : Net) (f : Fl) (ps : List (List Int)) (r : Rec) (x : Ex) : Int :=
  if (lateX n f ps r x.lt.fr).2 ≠ 0 then (lateX n f ps r x.lt.fr).2 else if (lateX n f ps r x.lt.fr).1 ≠ x.lt ∨ x.ca.length ≠ ps.length then 20
  else if (List.zip ps x.ca).all (fun q => okC n f r x.lt.fr q.1 q.2) = true then 0 else 20
end Go.Proofs.YticnppnejafhdaaGreatDoor
/- Breaches, sorted: plain. -/
namespace Go.Proofs.YticnppnejafhdaaGreatDoor
open Go.RowKit
open Nd Rc Mo
open Av
set_option maxRecDepth 100000
set_option linter.unusedSimpArgs false
open Go.Maps
def Br.key (b : Br) : List Int := [b.fl, b.fr, b.fm, b.tt, b.sl.headD 0]
def lexB : List Int → List Int → Bool
  | x :: l, y :: m => if x = y then lexB l m else decide (x < y)
  | _, _ => false
theorem lexB_irrefl : ∀ l : List Int, lexB l l = false
  | [] => rfl
  | x :: l => by unfold lexB; rw [if_pos rfl]; exact lexB_irrefl l
theorem lexB_trans : ∀ {l m k : List Int}, lexB l m = true → lexB m k = true → lexB l k = true
  | [], _, _, h, _ => by simp [lexB] at h
  | _ :: _, [], _, h, _ => by simp [lexB] at h
  | _ :: _, _ :: _, [], _, h => by simp [lexB] at h
  | x :: l, y :: m, z :: k, h1, h2 => by
    unfold lexB at h1 h2 ⊢
    by_cases e1 : x = y
    · subst e1
      rw [if_pos rfl] at h1
      by_cases e2 : x = z
      · subst e2; rw [if_pos rfl] at h2 ⊢; exact lexB_trans h1 h2
      · rw [if_neg e2] at h2 ⊢; exact h2
    · rw [if_neg e1] at h1
      have h1 := of_decide_eq_true h1
      by_cases e2 : y = z
      · subst e2; rw [if_neg e1]; exact decide_eq_true h1
      · rw [if_neg e2] at h2
        have h2 := of_decide_eq_true h2
        rw [if_neg (by omega)]; exact decide_eq_true (by omega)
theorem lexB_total : ∀ {l m : List Int}, l.length = m.length → lexB l m = false → l ≠ m → lexB m l = true
  | [], [], _, _, h => absurd rfl h
  | [], _ :: _, h, _, _ => by cases h
  | _ :: _, [], h, _, _ => by cases h
  | x :: l, y :: m, hl, h, hn => by
    unfold lexB at h ⊢
    by_cases e : x = y
    · subst e
      rw [if_pos rfl] at h ⊢
      exact lexB_total (by simpa using hl) h (fun e => hn (by rw [e]))
    · rw [if_neg e] at h
      have h := of_decide_eq_false h
      rw [if_neg (fun e' => e e'.symm)]
      exact decide_eq_true (by omega)
def Br.lt (a b : Br) : Bool := lexB a.key b.key
theorem Br.lt_irrefl (a : Br) : a.lt a = false := lexB_irrefl _
theorem Br.lt_trans {a b c : Br} (h1 : a.lt b = true) (h2 : b.lt c = true) : a.lt c = true := lexB_trans h1 h2
theorem Br.lt_total {a b : Br} (h : a.lt b = false) (hn : a.key ≠ b.key) : b.lt a = true := lexB_total rfl h hn
def insB (l : List Br) (b : Br) : List Br := l.takeWhile (·.lt b) ++ b :: l.dropWhile (·.lt b)
def sortB (l : List Br) : List Br := l.foldl insB []
theorem insB_perm (l : List Br) (b : Br) : (insB l b).Perm (b :: l) := by
  unfold insB
  refine List.perm_middle.trans (List.Perm.cons _ ?_)
  rw [List.takeWhile_append_dropWhile]
theorem foldl_insB_perm : ∀ (l m : List Br), (l.foldl insB m).Perm (m ++ l)
  | [], m => by rw [List.append_nil]; exact List.Perm.refl _
  | b :: l, m => by
    rw [List.foldl_cons]
    refine (foldl_insB_perm l (insB m b)).trans ?_
    refine ((insB_perm m b).append_right l).trans ?_
    exact List.perm_middle.symm
theorem sortB_perm (l : List Br) : (sortB l).Perm l := by simpa [sortB] using foldl_insB_perm l []
def BrSorted (l : List Br) : Prop := l.Pairwise fun a b => a.lt b = true
theorem insB_sorted {l : List Br} {b : Br} (h : BrSorted l) (hk : ∀ x ∈ l, x.key ≠ b.key) : BrSorted (insB l b) := by
  induction l with
  | nil => exact List.pairwise_singleton _ _
  | cons x l ih =>
    obtain ⟨h1, h2⟩ := List.pairwise_cons.1 h
    unfold insB
    by_cases hx : x.lt b = true
    · rw [List.takeWhile_cons_of_pos (p := fun y : Br => y.lt b) hx, List.dropWhile_cons_of_pos (p := fun y : Br => y.lt b) hx, List.cons_append]
      refine List.pairwise_cons.2 ⟨fun y hy => ?_, ih h2 (fun y hy => hk y (List.mem_cons_of_mem _ hy))⟩
      rcases List.mem_cons.1 ((insB_perm l b).mem_iff.1 hy) with rfl | hy
      · exact hx
      · exact h1 y hy
    · rw [List.takeWhile_cons_of_neg (p := fun y : Br => y.lt b) hx, List.dropWhile_cons_of_neg (p := fun y : Br => y.lt b) hx, List.nil_append]
      have hb : b.lt x = true := Br.lt_total (Bool.eq_false_iff.2 hx) (hk x List.mem_cons_self)
      refine List.pairwise_cons.2 ⟨fun y hy => ?_, h⟩
      rcases List.mem_cons.1 hy with rfl | hy
      · exact hb
      · exact Br.lt_trans hb (h1 y hy)
theorem foldl_insB_sorted : ∀ (l m : List Br), BrSorted m → ((m ++ l).map Br.key).Nodup → BrSorted (l.foldl insB m)
  | [], m, h, _ => h
  | b :: l, m, h, hn => by
    rw [List.foldl_cons]
    refine foldl_insB_sorted l (insB m b) (insB_sorted h fun x hx e => ?_) ?_
    · rw [List.map_append, List.map_cons] at hn
      exact (List.nodup_append.1 hn).2.2 _ (List.mem_map_of_mem hx) _ List.mem_cons_self e
    · have : ((insB m b) ++ l).Perm (m ++ b :: l) := ((insB_perm m b).append_right l).trans List.perm_middle.symm
      exact (this.map Br.key).nodup_iff.2 hn
theorem sortB_sorted {l : List Br} (h : (l.map Br.key).Nodup) : BrSorted (sortB l) := foldl_insB_sorted l [] List.Pairwise.nil (by simpa using h)
theorem sortB_eq {l m s : List Br} (hn : (l.map Br.key).Nodup) (hm : l.Perm m) (hs : s.Perm m) (h : s.Pairwise fun a b => b.lt a = false) : s = sortB l := by
  have hp : s.Perm (sortB l) := hs.trans (hm.symm.trans (sortB_perm l).symm)
  have hk : (s.map Br.key).Nodup := ((hs.trans hm.symm).map Br.key).nodup_iff.2 hn
  have hso : BrSorted (sortB l) := sortB_sorted hn
  refine List.Perm.eq_of_pairwise (le := fun a b => b.lt a = false) (fun a b ha hb h1 h2 => ?_) h (hso.imp fun {a b} hab => ?_) hp
  · by_cases e : a.key = b.key
    · have hb' : b ∈ s := hp.mem_iff.2 hb
      refine Classical.byContradiction fun hne => ?_
      have : ∀ {l : List Br}, (l.map Br.key).Nodup → ∀ {a b}, a ∈ l → b ∈ l → a.key = b.key → a = b := by
        intro l
        induction l with
        | nil => intro _ a b ha; cases ha
        | cons x l ih =>
          intro hn a b ha hb e
          rw [List.map_cons, List.nodup_cons] at hn
          rcases List.mem_cons.1 ha with e1 | ha1
          · rcases List.mem_cons.1 hb with e2 | hb1
            · rw [e1, e2]
            · exact absurd (by rw [← e1, e]; exact List.mem_map_of_mem hb1) hn.1
          · rcases List.mem_cons.1 hb with e2 | hb1
            · exact absurd (by rw [← e2, ← e]; exact List.mem_map_of_mem ha1) hn.1
            · exact ih hn.2 ha1 hb1 e
      exact hne (this hk ha hb' e)
    · have := Br.lt_total h2 e
      rw [h1] at this; cases this
  · cases hc : b.lt a with
    | false => rfl
    | true =>
      have := Br.lt_trans hab hc
      rw [Br.lt_irrefl] at this; cases this
/-- A use of a link for a frame. -/
structure UK where
  fl : Int
  fr : Int
  fm : Int
  tt : Int
deriving DecidableEq
def Us.k (u : Us) : UK := ⟨u.fl, u.fr, u.fm, u.tt⟩
def attK (a : Att) : UK := ⟨a.cl, a.f, a.cf, a.ct⟩
def UK.val (k : UK) : Value := .agg [.int .i64 k.fl, .int .i64 k.fr, .int .i64 k.fm, .int .i64 k.tt].toArray
def inK (k : UK) (a : Att) : Bool := k.fl == a.cl && k.fr == a.f && k.fm == a.cf && k.tt == a.ct
theorem inK_iff {k : UK} {a : Att} : inK k a = true ↔ attK a = k := by
  obtain ⟨x, y, z, t⟩ := k
  simp only [inK, attK, Bool.and_eq_true, beq_iff_eq, UK.mk.injEq, and_assoc]
  constructor
  · rintro ⟨rfl, rfl, rfl, rfl⟩; exact ⟨rfl, rfl, rfl, rfl⟩
  · rintro ⟨rfl, rfl, rfl, rfl⟩; exact ⟨rfl, rfl, rfl, rfl⟩
theorem inUse_k (u : Us) : inUse u = inK u.k := rfl
theorem UK.val_inj {k m : UK} (h : k.val = m.val) : k = m := by
  obtain ⟨a, b, c, d⟩ := k
  obtain ⟨a', b', c', d'⟩ := m
  simpa [UK.val] using h
theorem lossP_k (al : List Att) (k : UK) : lossP al k.fl k.fr k.fm k.tt = runsOf (al.filter (inK k)) := by
  rw [lossP_runs]
  unfold ofFrame
  rw [List.filter_filter]
  congr 1
  refine List.filter_congr fun a _ => ?_
  unfold inK linkB
  rw [Bool.eq_iff_iff]
  simp only [Bool.and_eq_true, beq_iff_eq]
  constructor
  · rintro ⟨⟨h1, h2⟩, h3, h4⟩; exact ⟨⟨⟨h3.symm, h4.symm⟩, h1.symm⟩, h2.symm⟩
  · rintro ⟨⟨⟨h3, h4⟩, h1⟩, h2⟩; exact ⟨⟨h1.symm, h2.symm⟩, h3.symm, h4.symm⟩
theorem lossP_part (al : List Att) (k : UK) : lossP (al.filter (inK k)) k.fl k.fr k.fm k.tt = lossP al k.fl k.fr k.fm k.tt := by
  rw [lossP_k, lossP_k, List.filter_filter]
  congr 1
  exact List.filter_congr fun a _ => by rw [Bool.and_self]
theorem runsOf_len : ∀ (n : Nat) (l : List Att), l.length ≤ n → (runsOf l).length ≤ l.length
  | _, [], _ => by rw [runsOf_nil]; exact Nat.le_refl _
  | 0, _ :: _, h => by cases h
  | n + 1, a :: l, h => by
    have h : l.length ≤ n := Nat.le_of_succ_le_succ h
    by_cases ho : a.o = 1
    · rw [runsOf_acked ho]
      have := runsOf_len n l h
      rw [List.length_cons]; omega
    · rw [runsOf_lost ho, List.length_cons, List.length_cons]
      have h1 := (List.dropWhile_sublist nonA (l := l)).length_le
      have := runsOf_len n _ (Nat.le_trans h1 h)
      omega
theorem runsOf_mem : ∀ (n : Nat) (l : List Att), l.length ≤ n → ∀ x ∈ runsOf l, x ≠ [] ∧ x.length ≤ l.length
  | _, [], _, x, hx => by rw [runsOf_nil] at hx; cases hx
  | 0, _ :: _, h, _, _ => by cases h
  | n + 1, a :: l, h, x, hx => by
    have h : l.length ≤ n := Nat.le_of_succ_le_succ h
    by_cases ho : a.o = 1
    · rw [runsOf_acked ho] at hx
      have := runsOf_mem n l h x hx
      rw [List.length_cons]; exact ⟨this.1, by omega⟩
    · rw [runsOf_lost ho] at hx
      rcases List.mem_cons.1 hx with rfl | hx
      · refine ⟨by simp, ?_⟩
        have h1 := (List.takeWhile_sublist nonA (l := l)).length_le
        rw [List.length_cons, List.length_map, List.length_cons]; omega
      · have h1 := (List.dropWhile_sublist nonA (l := l)).length_le
        have := runsOf_mem n _ (Nat.le_trans h1 h) x hx
        rw [List.length_cons]; exact ⟨this.1, by omega⟩
def lossOf (lk : List Lk) (a b : Int) : Int := (lossAt lk a b).getD 0
def overs (m : Int) (k : UK) (runs : List (List Int)) : List Br := (runs.filter fun x => decide (m < (x.length : Int))).map fun x => ⟨k.fl, k.fr, k.fm, k.tt, x.take (m + 1).toNat⟩
/-- The breaches of a use. -/
def brK (lk : List Lk) (al : List Att) (k : UK) : List Br := overs (lossOf lk k.fm k.tt) k (lossP al k.fl k.fr k.fm k.tt)
def brs (lk : List Lk) (al : List Att) (V : List UK) : List Br := V.flatMap (brK lk al)
def firstK (al : List Att) : List UK := (al.map attK).eraseDups
/-- All breaches, each use at its first attempt. -/
def brAll (lk : List Lk) (al : List Att) : List Br := brs lk al (firstK al)
theorem overs_len (m : Int) (k : UK) (l : List (List Int)) : (overs m k l).length ≤ l.length := by
  unfold overs
  rw [List.length_map]; exact List.length_filter_le _ _
theorem brK_len (lk : List Lk) (al : List Att) (k : UK) : (brK lk al k).length ≤ (al.filter (inK k)).length := by
  unfold brK
  refine Nat.le_trans (overs_len _ _ _) ?_
  rw [lossP_k]
  exact runsOf_len _ _ (Nat.le_refl _)
theorem len_split {α : Type} (p : α → Bool) : ∀ l : List α, l.length = (l.filter p).length + (l.filter fun a => !p a).length
  | [] => rfl
  | a :: l => by
    have := len_split p l
    cases h : p a with
    | true => rw [List.filter_cons_of_pos h, List.filter_cons_of_neg (by rw [h]; decide), List.length_cons, List.length_cons]; omega
    | false => rw [List.filter_cons_of_neg (by rw [h]; decide), List.filter_cons_of_pos (by rw [h]; rfl), List.length_cons, List.length_cons]; omega
theorem sum_inK : ∀ (V : List UK), V.Nodup → ∀ al : List Att, (V.map fun k => (al.filter (inK k)).length).sum ≤ al.length
  | [], _, _ => Nat.zero_le _
  | k :: V, h, al => by
    obtain ⟨h1, h2⟩ := List.nodup_cons.1 h
    rw [List.map_cons, List.sum_cons]
    have e : (V.map fun m => (al.filter (inK m)).length) = V.map fun m => ((al.filter fun a => !inK k a).filter (inK m)).length := by
      refine List.map_congr_left fun m hm => ?_
      rw [List.filter_filter]
      congr 1
      refine List.filter_congr fun a _ => ?_
      cases hb : inK m a with
      | false => rfl
      | true =>
        have : inK k a = false := by
          refine Bool.eq_false_iff.2 fun hk => ?_
          have e1 := inK_iff.1 hb
          have e2 := inK_iff.1 hk
          exact h1 (by rw [← e2, e1]; exact hm)
        rw [this]; rfl
    have h3 := sum_inK V h2 (al.filter fun a => !inK k a)
    have h4 : al.length = (al.filter (inK k)).length + (al.filter fun a => !inK k a).length := len_split _ _
    rw [e]; omega
theorem brs_len {lk : List Lk} {al : List Att} {V : List UK} (h : V.Nodup) : (brs lk al V).length ≤ al.length := by
  unfold brs
  rw [List.length_flatMap]
  refine Nat.le_trans ?_ (sum_inK V h al)
  clear h
  induction V with
  | nil => exact Nat.le_refl _
  | cons k V ih =>
    rw [List.map_cons, List.sum_cons, List.map_cons, List.sum_cons]
    exact Nat.add_le_add (brK_len lk al k) ih
theorem brs_snoc (lk : List Lk) (al : List Att) (V : List UK) (k : UK) : brs lk al (V ++ [k]) = brs lk al V ++ brK lk al k := by
  unfold brs
  rw [List.flatMap_append, List.flatMap_singleton]
theorem eraseDups_nodup {α : Type} [BEq α] [LawfulBEq α] : ∀ (n : Nat) (l : List α), l.length ≤ n → l.eraseDups.Nodup
  | _, [], _ => by simp [List.eraseDups_nil]
  | 0, _ :: _, h => by cases h
  | n + 1, a :: l, h => by
    rw [List.eraseDups_cons, List.nodup_cons]
    refine ⟨fun hm => ?_, eraseDups_nodup n _ (Nat.le_trans (List.length_filter_le _ _) (Nat.le_of_succ_le_succ h))⟩
    rw [List.mem_eraseDups, List.mem_filter] at hm
    simp at hm
theorem firstK_nodup (al : List Att) : (firstK al).Nodup := eraseDups_nodup _ _ (Nat.le_refl _)
theorem mem_firstK {al : List Att} {k : UK} : k ∈ firstK al ↔ ∃ a ∈ al, attK a = k := by
  unfold firstK
  rw [List.mem_eraseDups, List.mem_map]
theorem brs_perm {lk : List Lk} {al : List Att} {V : List UK} (h : V.Nodup) (hm : ∀ k, k ∈ V ↔ ∃ a ∈ al, attK a = k) : (brAll lk al).Perm (brs lk al V) :=
  ((List.perm_ext_iff_of_nodup (firstK_nodup al) h).2 fun k => by rw [mem_firstK, hm]).flatMap_right _
theorem overs_snoc {m : Int} {k : UK} {runs : List (List Int)} {j : Nat} {x : List Int} (hx : runs[j]? = some x) : overs m k (runs.take (j + 1)) = if m < (x.length : Int) then overs m k (runs.take j) ++ [⟨k.fl, k.fr, k.fm, k.tt, x.take (m + 1).toNat⟩] else overs m k (runs.take j) := by
  have hT : runs.take (j + 1) = runs.take j ++ [x] := by rw [List.take_add_one, hx]; rfl
  unfold overs
  rw [hT, List.filter_append]
  by_cases h : m < (x.length : Int)
  · rw [if_pos h, List.filter_cons_of_pos (by simpa using h), List.filter_nil, List.map_append]; rfl
  · rw [if_neg h, List.filter_cons_of_neg (by simpa using h), List.filter_nil, List.append_nil]
/-- The uses, all of them with attempts. -/
def UsesFull (lk : List Lk) (al : List Att) (k : Nat) (U : List Us) (G : Value → Option (DataW Unit)) : Prop := UsesOK lk al k U G ∧ ∀ u ∈ U, u.al ≠ []
theorem UsesFull.nil {lk : List Lk} {al : List Att} : UsesFull lk al 0 [] (fun _ => none) := ⟨UsesOK.nil, fun u hu => by cases hu⟩
theorem UsesFull.snoc {lk : List Lk} {al : List Att} {k : Nat} {U : List Us} {G : Value → Option (DataW Unit)} {a b c d : Int} {g : Nat} {l : List Att} {x : Att} (h : UsesOK lk al k (⟨a, b, c, d, g, l ++ [x]⟩ :: dropU g U) G) (hf : ∀ u ∈ U, u.al ≠ []) : UsesFull lk al k (⟨a, b, c, d, g, l ++ [x]⟩ :: dropU g U) G :=
  ⟨h, fun u hu => by
    rcases List.mem_cons.1 hu with rfl | hu
    · simp
    · exact hf u (mem_dropU.1 hu).1⟩
/-- The keys of the map. -/
theorem UsesFull.keys_iff {lk : List Lk} {al : List Att} {U : List Us} {G : Value → Option (DataW Unit)} (h : UsesFull lk al al.length U G) (k : UK) : (G k.val).isSome = true ↔ ∃ a ∈ al, attK a = k := by
  have h1 : G k.val = _ := h.1.map k.fl k.fr k.fm k.tt
  rw [h1, Option.isSome_map]
  constructor
  · intro hs
    obtain ⟨u, hu⟩ := Option.isSome_iff_exists.1 hs
    have hm : u ∈ U := List.mem_of_find?_eq_some hu
    have hk : u.key k.fl k.fr k.fm k.tt = true := List.find?_some (p := fun u : Us => u.key k.fl k.fr k.fm k.tt) hu
    have hne := h.2 u hm
    have ha := h.1.att u hm
    rw [List.take_length] at ha
    cases hl : u.al with
    | nil => exact absurd hl hne
    | cons a l =>
      have : a ∈ al.filter (inUse u) := by rw [← ha, hl]; exact List.mem_cons_self
      obtain ⟨m1, m2⟩ := List.mem_filter.1 this
      refine ⟨a, m1, ?_⟩
      rw [inUse_k, inK_iff] at m2
      rw [m2]
      obtain ⟨q1, q2, q3, q4⟩ := key_iff.1 hk
      obtain ⟨x, y, z, t⟩ := k
      simp only [Us.k, UK.mk.injEq]
      exact ⟨q1, q2, q3, q4⟩
  · rintro ⟨a, ha, rfl⟩
    exact h.1.cover a (by rw [List.take_length]; exact ha)
theorem UsesFull.val {lk : List Lk} {al : List Att} {U : List Us} {G : Value → Option (DataW Unit)} (h : UsesFull lk al al.length U G) {k : UK} {g : Nat} (hg : G k.val = some (.lit (.int .i64 (g : Int)))) : ∃ u ∈ U, u.g = g ∧ u.k = k ∧ u.al = al.filter (inK k) := by
  obtain ⟨u, hu, hg, hat⟩ := h.1.at hg
  have hk : u.key k.fl k.fr k.fm k.tt = true := List.find?_some (p := fun u : Us => u.key k.fl k.fr k.fm k.tt) hat
  obtain ⟨q1, q2, q3, q4⟩ := key_iff.1 hk
  have e : u.k = k := by
    obtain ⟨x, y, z, t⟩ := k
    simp only [Us.k, UK.mk.injEq]
    exact ⟨q1, q2, q3, q4⟩
  refine ⟨u, hu, hg, e, ?_⟩
  have ha := h.1.att u hu
  rw [List.take_length, inUse_k, e] at ha
  exact ha
/-- What Breaches computes. -/
def breachesP (n : Net) (r : Rec) : List Br × Int := if chkN n ≠ 0 ∨ good r = false then ([], 1) else if r.al.any (fun a => (lossAt n.lk a.cf a.ct).isNone) then ([], 7) else (sortB (brAll n.lk r.al), 0)
end Go.Proofs.YticnppnejafhdaaGreatDoor
/- Breaches: what the end of the walk needs. -/
namespace Go.Proofs.YticnppnejafhdaaGreatDoor
open Go.RowKit
open Nd Rc Mo
open Av
set_option maxRecDepth 100000
set_option linter.unusedSimpArgs false
open Go.Maps
theorem fnOK_args {P : Program} {f : FuncId} {args args' : List AV} {res : FRes} (h : FnOK P f args' res) (ha : ∀ R us, RepAL R args us → RepAL R args' us) : FnOK P f args res := ⟨h.1, fun w R hR us hus => h.2 w R hR us (ha R us hus)⟩
/-- The losses of a record that has attempts alone. -/
theorem lossesN_ok (s : Int) (al : List Att) (fl fr a b : Int) (hla : al.length ≤ 1000000) : FnOK Tryz.prog 57 [.agg [ip s, .sl 8 (al.map Att.pv), .v (.slice none 0 0)], iv fl, iv fr, iv a, iv b] ⟨.sl 1 ((lossP al fl fr a b).map runPv), none⟩ :=
  fnOK_args (losses_ok ⟨s, al, []⟩ fl fr a b hla) fun R us hus => by
    cases hus with | cons h0 hx hus =>
    refine .cons ?_ hx hus
    obtain ⟨vs, e, hv⟩ := h0
    refine ⟨vs, e, ?_⟩
    cases hv with | cons g0 hv =>
    cases hv with | cons g1 hv =>
    cases hv with | cons g2 hv =>
    cases hv
    refine .cons g0 (.cons g1 (.cons ?_ .nil))
    cases g2
    exact .sl 3 [] none 0 (fun _ _ => undef) (fun k row hk => by cases hk) (.inl rfl) (fun k row j p hk => by cases hk) (Nat.le_refl _)
theorem lossAt_mem {l : List Lk} {a b x : Int} (h : lossAt l a b = some x) : ∃ y ∈ l, y.ls = x := by
  unfold lossAt at h
  cases hf : l.reverse.find? (fun x => x.fr == a && x.tt == b) with
  | none => rw [hf] at h; cases h
  | some y =>
    rw [hf] at h
    exact ⟨y, List.mem_reverse.1 (List.mem_of_find?_eq_some hf), Option.some.inj h⟩
/-- The entry to which the loop has come; the frame holds it otherwise then. -/
theorem hand_entry_ext {P : Program} {n d : Nat} {σ : St} {o : Oper} {K : St → Prop} {it : Operand} {r : Nat} {xs : List Value} {v : Value} {E : Ext} (ho : o.op = .entry it) (hd : o.dst = some d) (hdn : d < n) (hm : evo (Av.look σ.slot) it = some (.v (.pointer (some ⟨r, 0, none⟩)))) (hE : ∀ w, σ.ext.holds w → (Instr.entry (.pointer (some ⟨r, 0, none⟩))).run P w = .ok (.tuple #[.agg xs.toArray, v]) w)
    (hx1 : ∀ x ∈ xs, x.oneCell' = true) (hv1 : v.oneCell' = true) (hT : ∀ w, (∀ b, σ.ext.all b → b < w.heap.size) → σ.ext.holds w → Turn σ.ext w w E) (h : K (({ σ with ext := E } : St).put d (.tup [.g (xs.map PV.v), .c (.v v)]))) : Hand P n σ o K := by
  refine hand_value hd hdn fun F γ a w _ hr => ?_
  have e1 := eval_raw hr hm
  refine ⟨.tup [.g (xs.map PV.v), .c (.v v)], .tuple #[.agg xs.toArray, v], w, E, ?_, hT w (fun b hb => (hr.extf b hb).2.1) hr.exth, ⟨[_, _], rfl, .cons (.g (rep_of_ints hx1)) (.cons (.c (.v _ hv1)) .nil)⟩, (fun k hk => by cases hk), h⟩
  have hen := hE w hr.exth
  simp [execOp, ho, e1, hen]
theorem Turn.stepped {P : Program} {k : TypeId} {R : MReader} {b r n cnt : Nat} {G : Value → Option (DataW Unit)} {S : Value → Prop} {key v : Value} {w : World} (h : (stepE P k R b r n G S cnt key v).holds w) : Turn (stepE P k R b r n G S cnt key v) w w (rangeE P k R b r n G S cnt) := Turn.same h.1 (fun _ h => h) (fun _ h => .inr h)
/-- A slot that holds a box's address points into the box. -/
theorem awp_ref {P : Program} {F : Fr} {σ : St} {c : Code} {Q : AX → St → Prop} (t g : Nat) (ht : t < F.n) (hs : Av.look σ.slot t = some (.v (.pointer (some ⟨g, 0, none⟩)))) (hb : (Av.look σ.box (g + 1000000)).isSome = true) (h : AWp P F c Q (σ.put t (.ref (g + 1000000) 0))) : AWp P F c Q σ :=
  awp_slot t _ ht (fun γ a w hr => ⟨by
    rw [hr.val hs]
    show _ = Value.pointer _
    rw [hr.dyn _ hb (by omega)]
    simp, fun k hk => by simp [AV.refs] at hk; subst hk; exact hb⟩) h
theorem runs_of_len {al : List Att} {k : UK} {j : Nat} {x : List Int} (hx : (lossP al k.fl k.fr k.fm k.tt)[j]? = some x) : x.length ≤ al.length := by
  rw [lossP_k] at hx
  exact Nat.le_trans (runsOf_mem _ _ (Nat.le_refl _) x (List.mem_of_getElem? hx)).2 (List.length_filter_le _ _)
theorem overs_len_al {al : List Att} {V : List UK} {lk : List Lk} {k : UK} {m : Int} {j : Nat} (hV : V.Nodup) (hk : k ∉ V) : (brs lk al V ++ overs m k ((lossP al k.fl k.fr k.fm k.tt).take j)).length ≤ al.length := by
  have h1 : (brs lk al V).length + (lossP al k.fl k.fr k.fm k.tt).length ≤ al.length := by
    have h2 := sum_inK (k :: V) (List.nodup_cons.2 ⟨hk, hV⟩) al
    have h3 : (brs lk al V).length ≤ (V.map fun k => (al.filter (inK k)).length).sum := by
      unfold brs
      rw [List.length_flatMap]
      clear h2 hk hV
      induction V with
      | nil => exact Nat.le_refl _
      | cons k V ih =>
        rw [List.map_cons, List.sum_cons, List.map_cons, List.sum_cons]
        exact Nat.add_le_add (brK_len lk al k) ih
    have h4 : (lossP al k.fl k.fr k.fm k.tt).length ≤ (al.filter (inK k)).length := by
      rw [lossP_k]; exact runsOf_len _ _ (Nat.le_refl _)
    rw [List.map_cons, List.sum_cons] at h2
    omega
  have h5 := overs_len m k ((lossP al k.fl k.fr k.fm k.tt).take j)
  have h6 : ((lossP al k.fl k.fr k.fm k.tt).take j).length ≤ (lossP al k.fl k.fr k.fm k.tt).length := by rw [List.length_take]; omega
  rw [List.length_append]; omega
end Go.Proofs.YticnppnejafhdaaGreatDoor
/- Plain: the breaches of a record that is right have different keys. -/
namespace Go.Proofs.YticnppnejafhdaaGreatDoor
open Nd Rc Mo
theorem cmpI_le {x y : Int} (h : cmpI x y ≤ 0) : x ≤ y := by
  unfold cmpI at h; split at h
  · omega
  · split at h <;> omega
theorem cmpA_slot {p a : Att} (h : cmpA p a < 0) : p.s ≤ a.s := by
  unfold cmpA orI at h
  split at h
  · rename_i h0
    exact cmpI_le (by rw [h0]; exact Int.le_refl _)
  · exact cmpI_le (by omega)
/-- A slot has a sender once; slots do not descend. -/
def Apart (x y : Att) : Prop := x.s < y.s ∨ (x.s = y.s ∧ x.cf ≠ y.cf)
theorem attsGo_pw (slots : Int) : ∀ (l : List Att) (p : Option Att) (S : List Int) (t : Int), attsGo slots p S t l = true → (∀ q, p = some q → q.s = t) → (p = none → S = []) →
    (∀ y ∈ l, (p.isSome = true → t ≤ y.s) ∧ (y.s = t → y.cf ∉ S)) ∧ l.Pairwise Apart
  | [], _, _, _, _, _, _ => ⟨fun y hy => (by cases hy), List.Pairwise.nil⟩
  | a :: l, p, S, t, h, hp, hS => by
    unfold attsGo at h
    split at h
    · cases h
    rename_i hb
    have hb2 : prevBad p a = false := by
      cases hq : prevBad p a with
      | false => rfl
      | true => rw [hq] at hb; simp at hb
    have hle : p.isSome = true → t ≤ a.s := fun hs => by
      cases p with
      | none => cases hs
      | some q =>
        rw [← hp q rfl]
        have : decide (0 ≤ cmpA q a) = false := hb2
        exact cmpA_slot (by have := of_decide_eq_false this; omega)
    split at h
    · rename_i ha
      split at h
      · cases h
      rename_i hn
      obtain ⟨h1, h2⟩ := attsGo_pw slots l (some a) (a.cf :: S) t h (fun q hq => by cases hq; exact ha) (fun hq => by cases hq)
      refine ⟨fun y hy => ?_, List.pairwise_cons.2 ⟨fun y hy => ?_, h2⟩⟩
      · rcases List.mem_cons.1 hy with rfl | hy
        · exact ⟨fun _ => by omega, fun _ => hn⟩
        · exact ⟨fun _ => (h1 y hy).1 rfl, fun e hm => (h1 y hy).2 e (List.mem_cons_of_mem _ hm)⟩
      · have h3 := (h1 y hy).1 rfl
        by_cases e : y.s = t
        · exact .inr ⟨by omega, fun e2 => (h1 y hy).2 e (by rw [e2]; exact List.mem_cons_self)⟩
        · exact .inl (by omega)
    · rename_i ha
      obtain ⟨h1, h2⟩ := attsGo_pw slots l (some a) [a.cf] a.s h (fun q hq => by cases hq; rfl) (fun hq => by cases hq)
      refine ⟨fun y hy => ?_, List.pairwise_cons.2 ⟨fun y hy => ?_, h2⟩⟩
      · have hge : a.s ≤ y.s := by
          rcases List.mem_cons.1 hy with rfl | hy
          · exact Int.le_refl _
          · exact (h1 y hy).1 rfl
        cases hp2 : p with
        | none => exact ⟨fun h => (by cases h), fun _ => by rw [hS hp2]; exact List.not_mem_nil⟩
        | some q =>
          have := hle (by rw [hp2]; rfl)
          exact ⟨fun _ => by omega, fun e => by omega⟩
      · have h3 := (h1 y hy).1 rfl
        by_cases e : y.s = a.s
        · exact .inr ⟨by omega, fun e2 => (h1 y hy).2 e (by rw [e2]; exact List.mem_cons_self)⟩
        · exact .inl (by omega)
theorem good_apart {r : Rec} (h : good r = true) : r.al.Pairwise Apart := by
  unfold good at h
  simp only [Bool.and_eq_true] at h
  exact (attsGo_pw _ _ _ _ _ h.2.2.2.2.1 (fun q hq => by cases hq) (fun _ => rfl)).2
/-- The attempts of one use ascend. -/
theorem use_asc {al : List Att} (h : al.Pairwise Apart) (k : UK) : (al.filter (inK k)).Pairwise fun x y => x.s < y.s := by
  refine (h.filter (inK k)).imp_of_mem fun {a b} ha hb hab => ?_
  have h1 := inK_iff.1 (List.mem_filter.1 ha).2
  have h2 := inK_iff.1 (List.mem_filter.1 hb).2
  rcases hab with hab | ⟨_, hne⟩
  · exact hab
  · exact absurd (by rw [show a.cf = (attK a).fm from rfl, show b.cf = (attK b).fm from rfl, h1, h2]) hne
theorem runs_heads : ∀ (n : Nat) (l : List Att), l.length ≤ n → l.Pairwise (fun x y => x.s < y.s) → (∀ x ∈ runsOf l, x ≠ [] ∧ ∃ a ∈ l, x.headD 0 = a.s) ∧ (runsOf l).Pairwise fun x y => x.headD 0 < y.headD 0
  | _, [], _, _ => by rw [runsOf_nil]; exact ⟨fun x hx => (by cases hx), List.Pairwise.nil⟩
  | 0, _ :: _, h, _ => by cases h
  | n + 1, a :: l, h, hp => by
    have h : l.length ≤ n := Nat.le_of_succ_le_succ h
    obtain ⟨hp1, hp2⟩ := List.pairwise_cons.1 hp
    by_cases ho : a.o = 1
    · rw [runsOf_acked ho]
      obtain ⟨h1, h2⟩ := runs_heads n l h hp2
      exact ⟨fun x hx => ⟨(h1 x hx).1, by obtain ⟨b, hb, e⟩ := (h1 x hx).2; exact ⟨b, List.mem_cons_of_mem _ hb, e⟩⟩, h2⟩
    · rw [runsOf_lost ho]
      have hs := List.dropWhile_sublist nonA (l := l)
      obtain ⟨h1, h2⟩ := runs_heads n (l.dropWhile nonA) (Nat.le_trans hs.length_le h) (hp2.sublist hs)
      refine ⟨fun x hx => ?_, List.pairwise_cons.2 ⟨fun x hx => ?_, h2⟩⟩
      · rcases List.mem_cons.1 hx with rfl | hx
        · exact ⟨by simp, a, List.mem_cons_self, rfl⟩
        · obtain ⟨q1, b, hb, e⟩ := h1 x hx
          exact ⟨q1, b, List.mem_cons_of_mem _ (hs.subset hb), e⟩
      · obtain ⟨_, b, hb, e⟩ := h1 x hx
        rw [e]
        exact hp1 b (hs.subset hb)
theorem head_take {x : List Int} {m : Int} (hm : 0 ≤ m) : (x.take (m + 1).toNat).headD 0 = x.headD 0 := by
  obtain ⟨j, hj⟩ : ∃ j, (m + 1).toNat = j + 1 := ⟨m.toNat, by omega⟩
  rw [hj]
  cases x <;> rfl
theorem brK_keys {lk : List Lk} {al : List Att} (hl : ∀ a b, 0 ≤ lossOf lk a b) (h : al.Pairwise Apart) (k : UK) : ((brK lk al k).map Br.key).Nodup := by
  unfold brK overs
  rw [lossP_k, List.map_map]
  have h1 := (runs_heads _ _ (Nat.le_refl _) (use_asc h k)).2.filter (fun x => decide (lossOf lk k.fm k.tt < (x.length : Int)))
  refine List.pairwise_map.2 (h1.imp fun {x y} hxy e => ?_)
  simp only [Function.comp, Br.key, List.cons.injEq, head_take (hl _ _), true_and, and_true] at e
  omega
theorem key_use {lk : List Lk} {al : List Att} {k : UK} {z : List Int} (h : z ∈ (brK lk al k).map Br.key) : z.take 4 = [k.fl, k.fr, k.fm, k.tt] := by
  obtain ⟨b, hb, rfl⟩ := List.mem_map.1 h
  unfold brK overs at hb
  obtain ⟨x, _, rfl⟩ := List.mem_map.1 hb
  rfl
theorem brs_keys {lk : List Lk} {al : List Att} (hl : ∀ a b, 0 ≤ lossOf lk a b) (h : al.Pairwise Apart) : ∀ (V : List UK), V.Nodup → ((brs lk al V).map Br.key).Nodup
  | [], _ => List.nodup_nil
  | k :: V, hV => by
    obtain ⟨h1, h2⟩ := List.nodup_cons.1 hV
    have e : brs lk al (k :: V) = brK lk al k ++ brs lk al V := by unfold brs; rw [List.flatMap_cons]
    rw [e, List.map_append]
    refine List.nodup_append.2 ⟨brK_keys hl h k, brs_keys hl h V h2, fun z hz z' hz' ez => ?_⟩
    subst ez
    have q1 := key_use hz
    obtain ⟨b, hb, eb⟩ := List.mem_map.1 hz'
    unfold brs at hb
    obtain ⟨k', hk', hb⟩ := List.mem_flatMap.1 hb
    have q2 := key_use (List.mem_map.2 ⟨b, hb, eb⟩)
    rw [q1] at q2
    simp only [List.cons.injEq, and_true] at q2
    have : k = k' := by
      obtain ⟨x, y, z, t⟩ := k
      obtain ⟨x', y', z', t'⟩ := k'
      obtain ⟨rfl, rfl, rfl, rfl⟩ := q2
      rfl
    exact h1 (this ▸ hk')
theorem brAll_keys {lk : List Lk} {r : Rec} (hl : ∀ a b, 0 ≤ lossOf lk a b) (h : good r = true) : ((brAll lk r.al).map Br.key).Nodup := brs_keys hl (good_apart h) _ (firstK_nodup _)
theorem lossOf_nn {lk : List Lk} (h : ∀ l ∈ lk, 0 ≤ l.ls) (a b : Int) : 0 ≤ lossOf lk a b := by
  unfold lossOf
  cases hl : lossAt lk a b with
  | none => exact Int.le_refl _
  | some x =>
    obtain ⟨y, hy, rfl⟩ := lossAt_mem hl
    exact h y hy
theorem brs_ne {lk : List Lk} {al : List Att} {V : List UK} (h : ∀ l ∈ lk, 0 ≤ l.ls) : ∀ b ∈ brs lk al V, b.sl ≠ [] := by
  intro b hb
  unfold brs at hb
  obtain ⟨k, _, hb⟩ := List.mem_flatMap.1 hb
  unfold brK overs at hb
  obtain ⟨x, hx, rfl⟩ := List.mem_map.1 hb
  have h1 : lossOf lk k.fm k.tt < (x.length : Int) := of_decide_eq_true (List.mem_filter.1 hx).2
  have h2 := lossOf_nn h k.fm k.tt
  intro h3
  have h4 := congrArg List.length h3
  rw [List.length_take] at h4
  simp only [List.length_nil] at h4
  omega
end Go.Proofs.YticnppnejafhdaaGreatDoor
/- Plain: what MonitorLosses looks for in each breach. -/
namespace Go.Proofs.YticnppnejafhdaaGreatDoor
open Nd Rc Mo
/-- Links ascend. -/
def LkApart (x y : Lk) : Prop := x.fr < y.fr ∨ (x.fr = y.fr ∧ x.tt < y.tt)
theorem prev_lk {q l : Lk} (h : prevBadL (some q) l = false) : LkApart q l := by
  unfold prevBadL at h
  simp only [Bool.or_eq_false_iff, Bool.and_eq_false_iff, decide_eq_false_iff_not, beq_eq_false_iff_ne] at h
  unfold LkApart
  omega
theorem lkGo_pw {nodes : Int} {pow : List (List Int)} : ∀ {p : Option Lk} {l : List Lk} {ms : List Int}, lkGo nodes pow p l ms = 0 → (∀ q, p = some q → ∀ x ∈ l, LkApart q x) ∧ l.Pairwise LkApart
  | _, [], _, _ => ⟨fun _ _ x hx => (by cases hx), List.Pairwise.nil⟩
  | p, y :: l, ms, h => by
    unfold lkGo at h
    split at h
    · rename_i h0
      obtain ⟨h1, h2⟩ := lkGo_pw h
      have hp : ∀ q, p = some q → LkApart q y := fun q hq => by
        subst hq
        refine prev_lk ?_
        cases hb : prevBadL (some q) y with
        | false => rfl
        | true =>
          unfold lkE at h0
          rw [hb] at h0
          split at h0 <;> simp at h0
      refine ⟨fun q hq x hx => ?_, List.pairwise_cons.2 ⟨h1 y rfl, h2⟩⟩
      rcases List.mem_cons.1 hx with rfl | hx
      · exact hp q hq
      · have a := hp q hq
        have b := h1 y rfl x hx
        unfold LkApart at *
        omega
    · rename_i h0; exact absurd h h0
theorem chkN_pw {n : Net} (h : chkN n = 0) : n.lk.Pairwise LkApart := by
  unfold chkN at h
  split at h
  · cases h
  · split at h
    · rename_i h2; exact absurd h h2
    · split at h
      · cases h
      · split at h
        · cases h
        · split at h
          · cases h
          · exact (lkGo_pw h).2
theorem lk_uniq {l : List Lk} (h : l.Pairwise LkApart) {x y : Lk} (hx : x ∈ l) (hy : y ∈ l) (h1 : x.fr = y.fr) (h2 : x.tt = y.tt) : x = y := by
  induction l with
  | nil => cases hx
  | cons z l ih =>
    obtain ⟨q1, q2⟩ := List.pairwise_cons.1 h
    rcases List.mem_cons.1 hx with ex | hx
    · rcases List.mem_cons.1 hy with ey | hy
      · rw [ex, ey]
      · have := q1 y hy; unfold LkApart at this; rw [← ex] at this; omega
    · rcases List.mem_cons.1 hy with ey | hy
      · have := q1 x hx; unfold LkApart at this; rw [← ey] at this; omega
      · exact ih q2 hx hy
theorem lossAt_at {l : List Lk} {a b x : Int} (h : lossAt l a b = some x) : ∃ y ∈ l, y.ls = x ∧ y.fr = a ∧ y.tt = b := by
  unfold lossAt at h
  cases hf : l.reverse.find? (fun x => x.fr == a && x.tt == b) with
  | none => rw [hf] at h; cases h
  | some y =>
    rw [hf] at h
    simp only [Option.map_some, Option.some.injEq] at h
    have h1 := List.find?_some hf
    simp only [Bool.and_eq_true, beq_iff_eq] at h1
    exact ⟨y, List.mem_reverse.1 (List.mem_of_find?_eq_some hf), h, h1.1, h1.2⟩
def ownL (al : List Att) (b : Br) : List Att := (ofFrame al b.fl b.fr).filter fun a => a.cf == b.fm && a.ct == b.tt
theorem ownL_k (al : List Att) (k : UK) (x : List Int) : ownL al ⟨k.fl, k.fr, k.fm, k.tt, x⟩ = al.filter (inK k) := by
  unfold ownL ofFrame
  rw [List.filter_filter]
  refine List.filter_congr fun a _ => ?_
  unfold inK
  rw [Bool.eq_iff_iff]
  simp only [Bool.and_eq_true, beq_iff_eq]
  constructor
  · rintro ⟨⟨h1, h2⟩, h3, h4⟩; exact ⟨⟨⟨h3.symm, h4.symm⟩, h1.symm⟩, h2.symm⟩
  · rintro ⟨⟨⟨h3, h4⟩, h1⟩, h2⟩; exact ⟨⟨h1.symm, h2.symm⟩, h3.symm, h4.symm⟩
theorem asc_get {l : List Att} (h : l.Pairwise fun x y => x.s < y.s) {i j : Nat} {a b : Att} (hij : i < j) (ha : l[i]? = some a) (hb : l[j]? = some b) : a.s < b.s := by
  obtain ⟨h1, rfl⟩ := List.getElem?_eq_some_iff.1 ha
  obtain ⟨h2, rfl⟩ := List.getElem?_eq_some_iff.1 hb
  exact List.pairwise_iff_getElem.1 h i j h1 h2 hij
end Go.Proofs.YticnppnejafhdaaGreatDoor
/- Plain facts about late frames and routes. -/
namespace Go.Proofs.YticnppnejafhdaaGreatDoor
open Go.RowKit
open Nd Rc Mo
open Av
theorem find_idx {α : Type} (p : α → Bool) : ∀ (l : List α) (k : Int), (l.find? p = none ∧ idxP p l k = -1) ∨ ∃ (i : Nat) (x : α), l[i]? = some x ∧ l.find? p = some x ∧ idxP p l k = k + (i : Int) ∧ p x = true
  | [], _ => .inl ⟨rfl, rfl⟩
  | a :: l, k => by
    by_cases h : p a = true
    · exact .inr ⟨0, a, rfl, by rw [List.find?_cons_of_pos h], by rw [idxP, if_pos h]; simp, h⟩
    · rcases find_idx p l (k + 1) with ⟨h1, h2⟩ | ⟨i, x, h1, h2, h3, h4⟩
      · exact .inl ⟨by rw [List.find?_cons_of_neg (by simpa using h), h1], by rw [idxP, if_neg h, h2]⟩
      · exact .inr ⟨i + 1, x, by simpa using h1, by rw [List.find?_cons_of_neg (by simpa using h), h2], by rw [idxP, if_neg h, h3]; push_cast; omega, h4⟩
theorem right_invX {fs : List Fl} {r : Rec} (h : right fs r = true) : (∀ f ∈ fs, fault f = 0) ∧ fs.length ≤ 1000000 ∧ good r = true ∧ r.slots ≤ 4096 := by
  simp only [right, Bool.and_eq_true, decide_eq_true_eq] at h
  obtain ⟨h1, _, h3⟩ := chkF_ok h.1
  have h4 : r.slots ≤ 4096 := by
    have := h.2
    simp only [good, Bool.and_eq_true, decide_eq_true_eq] at this
    omega
  exact ⟨h1, by omega, h.2, h4⟩
theorem late_boundX (fs : List Fl) (r : Rec) : (late fs r).1.length ≤ 1000000 := by
  unfold late
  split
  · rename_i h
    simp only [right, Bool.and_eq_true, decide_eq_true_eq] at h
    obtain ⟨h1, _, h3⟩ := chkF_ok h.1
    have h4 : r.slots ≤ 4096 := by
      have := h.2
      simp only [good, Bool.and_eq_true, decide_eq_true_eq] at this
      omega
    have := late_len h4 fs h1
    dsimp only
    omega
  · exact Nat.zero_le _
theorem late_memX {f : Fl} {r : Rec} {x : Lt} (hx : x ∈ (late [f] r).1) : x.fl = f.id ∧ 0 ≤ x.fr ∧ x.fr < 1048576 := by
  unfold late at hx
  split at hx
  · rename_i h
    obtain ⟨h1, _, _, h4⟩ := right_invX h
    obtain ⟨g, hg, hx1⟩ := List.mem_flatMap.1 hx
    obtain rfl : g = f := by simpa using hg
    obtain ⟨n, hn, hx2⟩ := List.mem_flatMap.1 hx1
    clear hx
    have hx := hx2
    have hc := complete_bounds (h1 _ hg) h4
    have hn' := List.mem_range.1 hn
    unfold lateN at hx
    split at hx
    · cases hx
    · obtain rfl := List.mem_singleton.1 hx
      refine ⟨rfl, ?_, ?_⟩
      · show (0 : Int) ≤ (n : Int); omega
      · show (n : Int) < 1048576; omega
  · cases hx
structure LateOK (n : Net) (f : Fl) (ps : List (List Int)) (r : Rec) (fr : Int) : Prop where
  base : basicB n f r = true
  l1 : 1 ≤ ps.length
  l2 : ps.length ≤ 2
  rt : ∀ p ∈ ps, routeE n f.fr f.tn p = 0
  fr0 : 0 ≤ fr
  fr1 : fr < 1048576
  mem : (lateX n f ps r fr).1 ∈ (late [f] r).1
  id : (lateX n f ps r fr).1.fl = f.id
  num : (lateX n f ps r fr).1.fr = fr
theorem lateX_ok {n : Net} {f : Fl} {ps : List (List Int)} {r : Rec} {fr : Int} (h : (lateX n f ps r fr).2 = 0) : LateOK n f ps r fr := by
  have key : ∀ x : Lt × Int, x = lateX n f ps r fr → x.2 = 0 → LateOK n f ps r fr := by
    intro x hx h0
    unfold lateX at hx
    split at hx
    · subst hx; cases h0
    rename_i h1
    split at hx
    · subst hx; cases h0
    rename_i h2
    split at hx
    · subst hx; cases h0
    rename_i y hy
    have hL : lateX n f ps r fr = (y, 0) := by unfold lateX; rw [if_neg h1, if_neg h2, hy]
    have hmem := List.mem_of_find?_eq_some hy
    have hfr : y.fr = fr := by have := List.find?_some hy; simpa using this
    have hq := late_memX hmem
    have hps : ¬ (ps.length < 1) ∧ ¬ (2 < ps.length) := ⟨fun h => h1 (.inr (.inl h)), fun h => h1 (.inr (.inr h))⟩
    refine ⟨?_, by omega, by omega, fun p hp => ?_, by omega, by omega, by rw [hL]; exact hmem, by rw [hL]; exact hq.1, by rw [hL]; exact hfr⟩
    · cases hb : basicB n f r with
      | true => rfl
      | false => exact absurd (.inl hb) h1
    · refine Classical.byContradiction fun hne => h2 (List.any_eq_true.2 ⟨p, hp, ?_⟩)
      simpa using hne
  exact key _ rfl h
theorem route_inv {n : Net} {a b : Int} {p : List Int} (h : routeE n a b p = 0) : 2 ≤ p.length ∧ p.length ≤ 9 ∧ ∀ (i : Nat) (x y : Int), p[i]? = some x → p[i + 1]? = some y → 0 ≤ idxL n x y := by
  unfold routeE at h
  split at h
  · cases h
  rename_i h1
  split at h
  · cases h
  rename_i h2
  split at h
  · cases h
  split at h
  · cases h
  split at h
  · cases h
  split at h
  · cases h
  rename_i h6
  refine ⟨by omega, by omega, fun i x y hx hy => ?_⟩
  have hi := (List.getElem?_eq_some_iff.1 hy).1
  have hg : gapAt n p i = false := by
    cases hq : gapAt n p i with
    | false => rfl
    | true => exact absurd (List.any_eq_true.2 ⟨i, List.mem_range.2 (by omega), hq⟩) h6
  unfold gapAt goodL at hg
  rw [List.getD_eq_getElem?_getD, List.getD_eq_getElem?_getD, hx, hy] at hg
  simp only [Option.getD_some, Bool.not_eq_false', Bool.and_eq_true, decide_eq_true_eq] at hg
  exact hg.1
end Go.Proofs.YticnppnejafhdaaGreatDoor
/- Plain facts about what a check of an explanation asks. -/
namespace Go.Proofs.YticnppnejafhdaaGreatDoor
open Go.RowKit
open Nd Rc Mo
open Av

theorem att_len (al : List Att) (fl fr a b : Int) : (onLk al fl fr a b).length ≤ al.length := by
  unfold onLk ofFrame
  exact Nat.le_trans (List.length_filter_le _ _) (List.length_filter_le _ _)

theorem onB_iff {x y : Int} : ∀ {p : List Int}, onB p x y = true ↔ ∃ i : Nat, p[i]? = some x ∧ p[i + 1]? = some y
  | [] => by simp [onB]
  | [a] => by simp [onB]
  | a :: b :: p => by
    rw [onB, Bool.or_eq_true, Bool.and_eq_true, beq_iff_eq, beq_iff_eq, onB_iff]
    constructor
    · rintro (⟨rfl, rfl⟩ | ⟨i, h1, h2⟩)
      · exact ⟨0, rfl, rfl⟩
      · exact ⟨i + 1, h1, h2⟩
    · rintro ⟨i, h1, h2⟩
      cases i with
      | zero => simp at h1 h2; exact .inl ⟨h1, h2⟩
      | succ i => exact .inr ⟨i, by simpa using h1, by simpa using h2⟩
theorem dup_lt {p : List Int} (h : dupB p = false) {i j : Nat} {x : Int} (hi : p[i]? = some x) (hj : p[j]? = some x) : ¬ j < i := by
  intro hlt
  have : dupB p = true := by
    refine List.any_eq_true.2 ⟨i, List.mem_range.2 (List.getElem?_eq_some_iff.1 hi).1, ?_⟩
    unfold dupAt
    refine List.any_eq_true.2 ⟨x, List.mem_of_getElem? (i := j) (by rw [List.getElem?_take_of_lt hlt, hj]), ?_⟩
    rw [List.getD_eq_getElem?_getD, hi]
    simp
  rw [h] at this
  cases this
theorem route_dup {n : Net} {a b : Int} {p : List Int} (h : routeE n a b p = 0) : dupB p = false := by
  cases hq : dupB p with
  | false => rfl
  | true =>
    exfalso
    unfold routeE at h
    rw [if_pos hq] at h
    split at h
    · cases h
    split at h
    · cases h
    split at h
    · cases h
    split at h
    · cases h
    cases h
theorem onB_at {n : Net} {a b : Int} {p : List Int} (h : routeE n a b p = 0) {i : Nat} {x y : Int} (hi : p[i]? = some x) : onB p x y = true ↔ p[i + 1]? = some y := by
  rw [onB_iff]
  constructor
  · rintro ⟨j, h1, h2⟩
    have g1 := dup_lt (route_dup h) hi h1
    have g2 := dup_lt (route_dup h) h1 hi
    obtain rfl : j = i := by omega
    exact h2
  · exact fun h2 => ⟨i, hi, h2⟩
theorem mem_causesX {n : Net} {f : Fl} {r : Rec} {fr a b : Int} {y : Br} (h : y ∈ causesX n f r fr a b) : y = ⟨f.id, fr, a, b, y.sl⟩ := by
  unfold causesX causesK at h
  obtain ⟨i, _, h⟩ := List.mem_flatMap.1 h
  unfold causeAt at h
  split at h
  · rw [List.mem_singleton.1 h]
  · cases h
theorem causesX_len {n : Net} {f : Fl} {r : Rec} {fr a b : Int} : (causesX n f r fr a b).length ≤ r.al.length := by
  unfold causesX
  refine Nat.le_trans (causesK_len _ _ _ _ _ _ _ _ _) ?_
  have := att_len r.al f.id fr a b
  omega
theorem contains_X {n : Net} {f : Fl} {r : Rec} {fr : Int} {c : Br} : (causesX n f r fr c.fm c.tt).contains c = (c.fl == f.id && (c.fr == fr && (causesX n f r fr c.fm c.tt).any fun y => decide (y.sl = c.sl))) := by
  rw [Bool.eq_iff_iff, List.contains_iff_mem, Bool.and_eq_true, Bool.and_eq_true, beq_iff_eq, beq_iff_eq, List.any_eq_true]
  constructor
  · intro h
    have h1 := mem_causesX h
    refine ⟨by rw [h1], by rw [h1], c, h, by simp⟩
  · rintro ⟨h1, h2, y, hy, h3⟩
    have h4 := mem_causesX hy
    have h5 : y = c := by
      rw [h4, ← h1, ← h2, of_decide_eq_true h3]
    rw [← h5, h5] at hy
    exact hy
theorem zip_all {α β : Type} {q : α × β → Bool} {l : List α} {m : List β} (h : ∀ (j : Nat) x y, l[j]? = some x → m[j]? = some y → q (x, y) = true) : (List.zip l m).all q = true := by
  rw [List.all_eq_true]
  rintro ⟨x, y⟩ hz
  obtain ⟨j, hj⟩ := List.mem_iff_getElem?.1 hz
  rw [List.getElem?_zip_eq_some] at hj
  exact h j x y hj.1 hj.2
theorem zip_not {α β : Type} {q : α × β → Bool} {l : List α} {m : List β} {j : Nat} {x : α} {y : β} (hx : l[j]? = some x) (hy : m[j]? = some y) (h : q (x, y) = false) : (List.zip l m).all q = false := by
  rw [Bool.eq_false_iff]
  intro h2
  have : (x, y) ∈ List.zip l m := List.mem_of_getElem? (i := j) (List.getElem?_zip_eq_some.2 ⟨hx, hy⟩)
  rw [List.all_eq_true] at h2
  rw [h2 _ this] at h
  cases h

theorem sl_len {n : Net} {f : Fl} {r : Rec} {fr a b : Int} {y : Br} (h : y ∈ causesX n f r fr a b) : y.sl.length ≤ r.al.length := by
  have hl := att_len r.al f.id fr a b
  unfold causesX causesK at h
  obtain ⟨i, _, h⟩ := List.mem_flatMap.1 h
  unfold causeAt at h
  split at h
  · rw [List.mem_singleton.1 h]
    simp only [List.length_map, List.length_take, List.length_drop]
    omega
  · cases h
end Go.Proofs.YticnppnejafhdaaGreatDoor

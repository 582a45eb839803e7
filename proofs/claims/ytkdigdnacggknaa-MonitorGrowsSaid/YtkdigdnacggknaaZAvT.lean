import Derived.Test.YtkdigdnacggknaaZAvX
import Derived.Test.YtkdigdnacggknaaZMor1
import Derived.Test.YtkdigdnacggknaaZSor
/- Abstract data: records, flows, late frames. -/
namespace Go.Proofs.Ytkdigdnacggknaa
open Go.RowKit
open Nd Rc Mo
open Av
set_option maxRecDepth 100000
set_option linter.unusedSimpArgs false

abbrev iv (n : Int) : AV := .v (.int .i64 n)
abbrev ip (n : Int) : PV := .v (.int .i64 n)
abbrev bv (b : Bool) : AV := .v (.bool b)
def Rc.Att.pv (a : Att) : List PV := [ip a.s, ip a.f, ip a.cs, ip a.co, ip a.cf, ip a.ct, ip a.cl, ip a.o]
def Rc.Dlv.pv (d : Dlv) : List PV := [ip d.fl, ip d.fr, ip d.sl]
def Nd.Fl.pv (f : Fl) : List PV := [ip f.id, ip f.fr, ip f.tn, ip f.pe, ip f.ph, ip f.dl]
def Mo.Lt.pv (x : Lt) : List PV := [ip x.fl, ip x.fr, ip x.sl]
def Rc.Rec.pv (r : Rec) : List PV := [ip r.slots, .sl 8 (r.al.map Att.pv), .sl 3 (r.dl.map Dlv.pv)]
theorem map_pv {α : Type} {f : α → List PV} {g : α → List Value} (h : ∀ x, f x = (g x).map PV.v) (l : List α) : l.map f = (l.map g).map fun row => row.map PV.v := by
  rw [List.map_map]
  exact List.map_congr_left fun x _ => h x
theorem att_pv (l : List Att) : l.map Att.pv = (l.map Att.row).map fun row => row.map PV.v := map_pv (f := Att.pv) (g := Att.row) (fun _ => rfl) l
theorem dlv_pv (l : List Dlv) : l.map Dlv.pv = (l.map Dlv.row).map fun row => row.map PV.v := map_pv (f := Dlv.pv) (g := Dlv.row) (fun _ => rfl) l
theorem fl_pv (l : List Fl) : l.map Fl.pv = (l.map Fl.row).map fun row => row.map PV.v := map_pv (f := Fl.pv) (g := Fl.row) (fun _ => rfl) l
theorem lt_pv (l : List Lt) : l.map Lt.pv = (l.map Lt.row).map fun row => row.map PV.v := map_pv (f := Lt.pv) (g := Lt.row) (fun _ => rfl) l
theorem rec_rep {w : World} {R : Reader} {bx : Nat → Nat} {r : Rec} {u : Value} (hR : ∀ p v, R p = some v → w.cell? p = some v) (h : RepA R bx (.agg r.pv) u) :
    ∃ A D ca cd, u = .agg #[.int .i64 r.slots, .slice A r.al.length ca, .slice D r.dl.length cd] ∧ LiesA w w.heap.size A r.al ∧ LiesD w w.heap.size D r.dl := by
  obtain ⟨us, rfl, h⟩ := h
  cases h with
  | cons h1 h =>
    cases h with
    | cons h2 h =>
      cases h with
      | cons h3 h =>
        cases h
        cases h1
        rw [att_pv] at h2
        rw [dlv_pv] at h3
        obtain ⟨A, ca, rfl, hA⟩ := lies_of_rep hR (by decide) h2
        obtain ⟨D, cd, rfl, hD⟩ := lies_of_rep hR (by decide) h3
        rw [List.length_map, List.length_map]
        exact ⟨A, D, ca, cd, rfl, hA, hD⟩
theorem fls_rep {w : World} {R : Reader} {bx : Nat → Nat} {fs : List Fl} {u : Value} (hR : ∀ p v, R p = some v → w.cell? p = some v) (h : RepA R bx (.sl 6 (fs.map Fl.pv)) u) :
    ∃ A c, u = .slice A fs.length c ∧ Lies w w.heap.size 6 A (fs.map Fl.row) := by
  have h' : RepP R (.sl 6 (fs.map Fl.pv)) u := h
  rw [fl_pv] at h'
  obtain ⟨A, c, rfl, hA⟩ := lies_of_rep hR (by decide) h'
  rw [List.length_map]
  exact ⟨A, c, rfl, hA⟩
theorem fl_rep {R : Reader} {bx : Nat → Nat} {f : Fl} {u : Value} (h : RepA R bx (.agg f.pv) u) : u = .agg #[.int .i64 f.id, .int .i64 f.fr, .int .i64 f.tn, .int .i64 f.pe, .int .i64 f.ph, .int .i64 f.dl] := by
  obtain ⟨us, rfl, h⟩ := h
  rw [show f.pv = [.int .i64 f.id, .int .i64 f.fr, .int .i64 f.tn, .int .i64 f.pe, .int .i64 f.ph, .int .i64 f.dl].map PV.v from rfl] at h
  rw [rep_vs h]
/-- A result that is a value, or values. -/
theorem res_v {R : Reader} {w w' : World} {x : Value} : ResRep R w w' ⟨.v x, none⟩ x := ⟨rfl, rfl⟩
theorem res_vv {R : Reader} {w w' : World} {x y : Value} (hx : x.oneCell' = true) (hy : y.oneCell' = true) : ResRep R w w' ⟨.tup [.c (.v x), .c (.v y)], none⟩ (.tuple #[x, y]) := ⟨rfl, [x, y], rfl, .cons (.c (.v x hx)) (.cons (.c (.v y hy)) .nil)⟩
theorem res_rows {R : Reader} {w w' : World} {e : TypeId} {sz : Nat} {v : Value} {xs : List (List Value)} {n : Int} (hs : 0 < sz) (h : w'.ownsRow w.heap.size e sz v xs.length xs.flatten) (hl : ∀ row ∈ xs, row.length = sz) (h1 : ∀ row ∈ xs, ∀ x ∈ row, x.oneCell' = true) :
    ResRep R w w' ⟨.tup [.c (.sl sz (xs.map fun row => row.map PV.v)), .c (ip n)], none⟩ (.tuple #[v, .int .i64 n]) := by
  obtain ⟨q, _, h2⟩ := owns_rep (R := R) hs h hl h1
  have h3 := h2 none (.inl rfl)
  refine ⟨rfl, [v, .int .i64 n], rfl, .cons (.c (h3.mono fun p y hp => ?_)) (.cons (.c (.v _ rfl)) .nil)⟩
  unfold fresh at hp ⊢
  split at hp
  · rename_i hb; rw [if_pos hb]; exact hp
  · rename_i hb
    rw [if_neg hb, if_neg (by rintro ⟨h4, _⟩; cases h4)]
    split at hp
    · cases hp
    · exact hp
theorem rows_one {xs : List (List Int)} : ∀ row ∈ xs.map (fun r => r.map (Value.int .i64)), ∀ x ∈ row, x.oneCell' = true := by
  intro row hr x hx
  obtain ⟨r, _, rfl⟩ := List.mem_map.1 hr
  obtain ⟨y, _, rfl⟩ := List.mem_map.1 hx
  rfl
end Go.Proofs.Ytkdigdnacggknaa
/- Sizes and zero values of types. -/
namespace Go.Proofs.Ytkdigdnacggknaa
open Go.RowKit
open Nd Rc Mo
open Av
set_option maxRecDepth 100000
set_option linter.unusedSimpArgs false
theorem all_arr {α : Type} {l : List α} {p : α → Bool} {n : Nat} (h : n = l.length) : l.toArray.all p 0 n = l.all p := by subst h; simp
theorem loc_ss (a b : Nat) : (Loc.s a == Loc.s b) = (a == b) := by rw [Bool.eq_iff_iff, beq_iff_eq, beq_iff_eq, Loc.s.injEq]
theorem loc_sb (a b c : Nat) : (Loc.s a == Loc.b b c) = false := by rw [beq_eq_false_iff_ne]; exact fun h => by cases h
theorem loc_bs (a b c : Nat) : (Loc.b b c == Loc.s a) = false := by rw [beq_eq_false_iff_ne]; exact fun h => by cases h
theorem loc_bb (a b c d : Nat) : (Loc.b a b == Loc.b c d) = (a == c && b == d) := by rw [Bool.eq_iff_iff, Bool.and_eq_true, beq_iff_eq, beq_iff_eq, beq_iff_eq, Loc.b.injEq]
theorem arr_two {α : Type} (a b c : α) : ((#[a, b] : Array α) = #[c]) = False := eq_false fun h => by have := congrArg Array.size h; simp at this
theorem rg1 : List.range 1 = [0] := by decide
theorem rg2 : List.range 2 = [0, 1] := by decide
theorem rg3 : List.range 3 = [0, 1, 2] := by decide
theorem rg4 : List.range 4 = [0, 1, 2, 3] := by decide
theorem rg5 : List.range 5 = [0, 1, 2, 3, 4] := by decide
theorem rg6 : List.range 6 = [0, 1, 2, 3, 4, 5] := by decide
theorem rg7 : List.range 7 = [0, 1, 2, 3, 4, 5, 6] := by decide
theorem rg8 : List.range 8 = [0, 1, 2, 3, 4, 5, 6, 7] := by decide
theorem arr_one {α : Type} (a b : α) : ((#[a] : Array α) = #[b]) = (a = b) := by simp
theorem Try.sz3 : (Try.prog.info? 3).map (·.size) = some 1 := by kernel_rfl
theorem Try.zr3 : (Try.prog.info? 3).map (·.zero) = some (some (.int .i64 0)) := by kernel_rfl
theorem Try.pl3 (k : Nat) : (Try.prog.info? 3).map (fun t => (k, t.size)) = some (k, 1) := by
  have h := Try.sz3
  cases hi : Try.prog.info? 3 with
  | none => rw [hi] at h; cases h
  | some i => rw [hi] at h; simp only [Option.map_some, Option.some.injEq] at h ⊢; rw [h]
theorem Try.is3 : (Try.prog.info? 3).isSome = true := by kernel_rfl
theorem Try.by3 : (Try.prog.info? 3).map (fun j => decide (j.bytes ≤ 1000000)) = some true := by kernel_rfl
theorem Try.sz4 : (Try.prog.info? 4).map (·.size) = some 1 := by kernel_rfl
theorem Try.zr4 : (Try.prog.info? 4).map (·.zero) = some (some (.bool false)) := by kernel_rfl
theorem Try.pl4 (k : Nat) : (Try.prog.info? 4).map (fun t => (k, t.size)) = some (k, 1) := by
  have h := Try.sz4
  cases hi : Try.prog.info? 4 with
  | none => rw [hi] at h; cases h
  | some i => rw [hi] at h; simp only [Option.map_some, Option.some.injEq] at h ⊢; rw [h]
theorem Try.is4 : (Try.prog.info? 4).isSome = true := by kernel_rfl
theorem Try.by4 : (Try.prog.info? 4).map (fun j => decide (j.bytes ≤ 1000000)) = some true := by kernel_rfl
theorem Try.sz32 : (Try.prog.info? 32).map (·.size) = some 1 := by kernel_rfl
theorem Try.zr32 : (Try.prog.info? 32).map (·.zero) = some (some (.int .i64 0)) := by kernel_rfl
theorem Try.pl32 (k : Nat) : (Try.prog.info? 32).map (fun t => (k, t.size)) = some (k, 1) := by
  have h := Try.sz32
  cases hi : Try.prog.info? 32 with
  | none => rw [hi] at h; cases h
  | some i => rw [hi] at h; simp only [Option.map_some, Option.some.injEq] at h ⊢; rw [h]
theorem Try.is32 : (Try.prog.info? 32).isSome = true := by kernel_rfl
theorem Try.by32 : (Try.prog.info? 32).map (fun j => decide (j.bytes ≤ 1000000)) = some true := by kernel_rfl
theorem Try.sz28 : (Try.prog.info? 28).map (·.size) = some 3 := by kernel_rfl
theorem Try.zr28 : (Try.prog.info? 28).map (·.zero) = some (some (.agg #[.int .i64 0, .slice none 0 0, .slice none 0 0])) := by kernel_rfl
theorem Try.pl28 (k : Nat) : (Try.prog.info? 28).map (fun t => (k, t.size)) = some (k, 3) := by
  have h := Try.sz28
  cases hi : Try.prog.info? 28 with
  | none => rw [hi] at h; cases h
  | some i => rw [hi] at h; simp only [Option.map_some, Option.some.injEq] at h ⊢; rw [h]
theorem Try.is28 : (Try.prog.info? 28).isSome = true := by kernel_rfl
theorem Try.by28 : (Try.prog.info? 28).map (fun j => decide (j.bytes ≤ 1000000)) = some true := by kernel_rfl
theorem Try.sz26 : (Try.prog.info? 26).map (·.size) = some 2 := by kernel_rfl
theorem Try.zr26 : (Try.prog.info? 26).map (·.zero) = some (some (.agg #[.slice none 0 0, .slice none 0 0])) := by kernel_rfl
theorem Try.pl26 (k : Nat) : (Try.prog.info? 26).map (fun t => (k, t.size)) = some (k, 2) := by
  have h := Try.sz26
  cases hi : Try.prog.info? 26 with
  | none => rw [hi] at h; cases h
  | some i => rw [hi] at h; simp only [Option.map_some, Option.some.injEq] at h ⊢; rw [h]
theorem Try.is26 : (Try.prog.info? 26).isSome = true := by kernel_rfl
theorem Try.by26 : (Try.prog.info? 26).map (fun j => decide (j.bytes ≤ 1000000)) = some true := by kernel_rfl
theorem Try.sz37 : (Try.prog.info? 37).map (·.size) = some 6 := by kernel_rfl
theorem Try.zr37 : (Try.prog.info? 37).map (·.zero) = some (some (.agg #[.int .i64 0, .int .i64 0, .int .i64 0, .int .i64 0, .int .i64 0, .int .i64 0])) := by kernel_rfl
theorem Try.pl37 (k : Nat) : (Try.prog.info? 37).map (fun t => (k, t.size)) = some (k, 6) := by
  have h := Try.sz37
  cases hi : Try.prog.info? 37 with
  | none => rw [hi] at h; cases h
  | some i => rw [hi] at h; simp only [Option.map_some, Option.some.injEq] at h ⊢; rw [h]
theorem Try.is37 : (Try.prog.info? 37).isSome = true := by kernel_rfl
theorem Try.by37 : (Try.prog.info? 37).map (fun j => decide (j.bytes ≤ 1000000)) = some true := by kernel_rfl
theorem Try.sz68 : (Try.prog.info? 68).map (·.size) = some 3 := by kernel_rfl
theorem Try.zr68 : (Try.prog.info? 68).map (·.zero) = some (some (.agg #[.int .i64 0, .int .i64 0, .int .i64 0])) := by kernel_rfl
theorem Try.pl68 (k : Nat) : (Try.prog.info? 68).map (fun t => (k, t.size)) = some (k, 3) := by
  have h := Try.sz68
  cases hi : Try.prog.info? 68 with
  | none => rw [hi] at h; cases h
  | some i => rw [hi] at h; simp only [Option.map_some, Option.some.injEq] at h ⊢; rw [h]
theorem Try.is68 : (Try.prog.info? 68).isSome = true := by kernel_rfl
theorem Try.by68 : (Try.prog.info? 68).map (fun j => decide (j.bytes ≤ 1000000)) = some true := by kernel_rfl
theorem Try.sz57 : (Try.prog.info? 57).map (·.size) = some 6 := by kernel_rfl
theorem Try.zr57 : (Try.prog.info? 57).map (·.zero) = some (some (.agg #[.int .i64 0, .int .i64 0, .int .i64 0, .int .i64 0, .int .i64 0, .int .i64 0])) := by kernel_rfl
theorem Try.pl57 (k : Nat) : (Try.prog.info? 57).map (fun t => (k, t.size)) = some (k, 6) := by
  have h := Try.sz57
  cases hi : Try.prog.info? 57 with
  | none => rw [hi] at h; cases h
  | some i => rw [hi] at h; simp only [Option.map_some, Option.some.injEq] at h ⊢; rw [h]
theorem Try.is57 : (Try.prog.info? 57).isSome = true := by kernel_rfl
theorem Try.by57 : (Try.prog.info? 57).map (fun j => decide (j.bytes ≤ 1000000)) = some true := by kernel_rfl
theorem Try.sz70 : (Try.prog.info? 70).map (·.size) = some 5 := by kernel_rfl
theorem Try.zr70 : (Try.prog.info? 70).map (·.zero) = some (some (.agg #[.int .i64 0, .int .i64 0, .int .i64 0, .int .i64 0, .slice none 0 0])) := by kernel_rfl
theorem Try.pl70 (k : Nat) : (Try.prog.info? 70).map (fun t => (k, t.size)) = some (k, 5) := by
  have h := Try.sz70
  cases hi : Try.prog.info? 70 with
  | none => rw [hi] at h; cases h
  | some i => rw [hi] at h; simp only [Option.map_some, Option.some.injEq] at h ⊢; rw [h]
theorem Try.is70 : (Try.prog.info? 70).isSome = true := by kernel_rfl
theorem Try.by70 : (Try.prog.info? 70).map (fun j => decide (j.bytes ≤ 1000000)) = some true := by kernel_rfl
theorem Try.sz54 : (Try.prog.info? 54).map (·.size) = some 3 := by kernel_rfl
theorem Try.zr54 : (Try.prog.info? 54).map (·.zero) = some (some (.agg #[.int .i64 0, .int .i64 0, .int .i64 0])) := by kernel_rfl
theorem Try.pl54 (k : Nat) : (Try.prog.info? 54).map (fun t => (k, t.size)) = some (k, 3) := by
  have h := Try.sz54
  cases hi : Try.prog.info? 54 with
  | none => rw [hi] at h; cases h
  | some i => rw [hi] at h; simp only [Option.map_some, Option.some.injEq] at h ⊢; rw [h]
theorem Try.is54 : (Try.prog.info? 54).isSome = true := by kernel_rfl
theorem Try.by54 : (Try.prog.info? 54).map (fun j => decide (j.bytes ≤ 1000000)) = some true := by kernel_rfl
theorem Try.sz66 : (Try.prog.info? 66).map (·.size) = some 8 := by kernel_rfl
theorem Try.zr66 : (Try.prog.info? 66).map (·.zero) = some (some (.agg #[.int .i64 0, .int .i64 0, .int .i64 0, .int .i64 0, .int .i64 0, .int .i64 0, .int .i64 0, .int .i64 0])) := by kernel_rfl
theorem Try.pl66 (k : Nat) : (Try.prog.info? 66).map (fun t => (k, t.size)) = some (k, 8) := by
  have h := Try.sz66
  cases hi : Try.prog.info? 66 with
  | none => rw [hi] at h; cases h
  | some i => rw [hi] at h; simp only [Option.map_some, Option.some.injEq] at h ⊢; rw [h]
theorem Try.is66 : (Try.prog.info? 66).isSome = true := by kernel_rfl
theorem Try.by66 : (Try.prog.info? 66).map (fun j => decide (j.bytes ≤ 1000000)) = some true := by kernel_rfl
theorem Try.sz64 : (Try.prog.info? 64).map (·.size) = some 5 := by kernel_rfl
theorem Try.zr64 : (Try.prog.info? 64).map (·.zero) = some (some (.agg #[.int .i64 0, .int .i64 0, .int .i64 0, .int .i64 0, .int .i64 0])) := by kernel_rfl
theorem Try.pl64 (k : Nat) : (Try.prog.info? 64).map (fun t => (k, t.size)) = some (k, 5) := by
  have h := Try.sz64
  cases hi : Try.prog.info? 64 with
  | none => rw [hi] at h; cases h
  | some i => rw [hi] at h; simp only [Option.map_some, Option.some.injEq] at h ⊢; rw [h]
theorem Try.is64 : (Try.prog.info? 64).isSome = true := by kernel_rfl
theorem Try.by64 : (Try.prog.info? 64).map (fun j => decide (j.bytes ≤ 1000000)) = some true := by kernel_rfl
theorem Try.sz73 : (Try.prog.info? 73).map (·.size) = some 3 := by kernel_rfl
theorem Try.zr73 : (Try.prog.info? 73).map (·.zero) = some (some (.agg #[.int .i64 0, .int .i64 0, .int .i64 0])) := by kernel_rfl
theorem Try.pl73 (k : Nat) : (Try.prog.info? 73).map (fun t => (k, t.size)) = some (k, 3) := by
  have h := Try.sz73
  cases hi : Try.prog.info? 73 with
  | none => rw [hi] at h; cases h
  | some i => rw [hi] at h; simp only [Option.map_some, Option.some.injEq] at h ⊢; rw [h]
theorem Try.is73 : (Try.prog.info? 73).isSome = true := by kernel_rfl
theorem Try.by73 : (Try.prog.info? 73).map (fun j => decide (j.bytes ≤ 1000000)) = some true := by kernel_rfl
theorem Try.sz102 : (Try.prog.info? 102).map (·.size) = some 2 := by kernel_rfl
theorem Try.zr102 : (Try.prog.info? 102).map (·.zero) = some (some (.agg #[.int .i64 0, .int .i64 0])) := by kernel_rfl
theorem Try.pl102 (k : Nat) : (Try.prog.info? 102).map (fun t => (k, t.size)) = some (k, 2) := by
  have h := Try.sz102
  cases hi : Try.prog.info? 102 with
  | none => rw [hi] at h; cases h
  | some i => rw [hi] at h; simp only [Option.map_some, Option.some.injEq] at h ⊢; rw [h]
theorem Try.is102 : (Try.prog.info? 102).isSome = true := by kernel_rfl
theorem Try.by102 : (Try.prog.info? 102).map (fun j => decide (j.bytes ≤ 1000000)) = some true := by kernel_rfl
theorem Try.sz105 : (Try.prog.info? 105).map (·.size) = some 4 := by kernel_rfl
theorem Try.zr105 : (Try.prog.info? 105).map (·.zero) = some (some (.agg #[.int .i64 0, .int .i64 0, .int .i64 0, .int .i64 0])) := by kernel_rfl
theorem Try.pl105 (k : Nat) : (Try.prog.info? 105).map (fun t => (k, t.size)) = some (k, 4) := by
  have h := Try.sz105
  cases hi : Try.prog.info? 105 with
  | none => rw [hi] at h; cases h
  | some i => rw [hi] at h; simp only [Option.map_some, Option.some.injEq] at h ⊢; rw [h]
theorem Try.is105 : (Try.prog.info? 105).isSome = true := by kernel_rfl
theorem Try.by105 : (Try.prog.info? 105).map (fun j => decide (j.bytes ≤ 1000000)) = some true := by kernel_rfl
theorem Try.sz44 : (Try.prog.info? 44).map (·.size) = some 6 := by kernel_rfl
theorem Try.zr44 : (Try.prog.info? 44).map (·.zero) = some (some (.agg #[.int .i64 0, .slice none 0 0, .int .i64 0, .int .i64 0, .slice none 0 0, .slice none 0 0])) := by kernel_rfl
theorem Try.pl44 (k : Nat) : (Try.prog.info? 44).map (fun t => (k, t.size)) = some (k, 6) := by
  have h := Try.sz44
  cases hi : Try.prog.info? 44 with
  | none => rw [hi] at h; cases h
  | some i => rw [hi] at h; simp only [Option.map_some, Option.some.injEq] at h ⊢; rw [h]
theorem Try.is44 : (Try.prog.info? 44).isSome = true := by kernel_rfl
theorem Try.by44 : (Try.prog.info? 44).map (fun j => decide (j.bytes ≤ 1000000)) = some true := by kernel_rfl
theorem Try.sz22 : (Try.prog.info? 22).map (·.size) = some 1 := by kernel_rfl
theorem Try.zr22 : (Try.prog.info? 22).map (·.zero) = some (some (.slice none 0 0)) := by kernel_rfl
theorem Try.pl22 (k : Nat) : (Try.prog.info? 22).map (fun t => (k, t.size)) = some (k, 1) := by
  have h := Try.sz22
  cases hi : Try.prog.info? 22 with
  | none => rw [hi] at h; cases h
  | some i => rw [hi] at h; simp only [Option.map_some, Option.some.injEq] at h ⊢; rw [h]
theorem Try.is22 : (Try.prog.info? 22).isSome = true := by kernel_rfl
theorem Try.by22 : (Try.prog.info? 22).map (fun j => decide (j.bytes ≤ 1000000)) = some true := by kernel_rfl
theorem Try.sz31 : (Try.prog.info? 31).map (·.size) = some 1 := by kernel_rfl
theorem Try.zr31 : (Try.prog.info? 31).map (·.zero) = some (some (.slice none 0 0)) := by kernel_rfl
theorem Try.pl31 (k : Nat) : (Try.prog.info? 31).map (fun t => (k, t.size)) = some (k, 1) := by
  have h := Try.sz31
  cases hi : Try.prog.info? 31 with
  | none => rw [hi] at h; cases h
  | some i => rw [hi] at h; simp only [Option.map_some, Option.some.injEq] at h ⊢; rw [h]
theorem Try.is31 : (Try.prog.info? 31).isSome = true := by kernel_rfl
theorem Try.by31 : (Try.prog.info? 31).map (fun j => decide (j.bytes ≤ 1000000)) = some true := by kernel_rfl
theorem Try.sz23 : (Try.prog.info? 23).map (·.size) = some 1 := by kernel_rfl
theorem Try.zr23 : (Try.prog.info? 23).map (·.zero) = some (some (.slice none 0 0)) := by kernel_rfl
theorem Try.pl23 (k : Nat) : (Try.prog.info? 23).map (fun t => (k, t.size)) = some (k, 1) := by
  have h := Try.sz23
  cases hi : Try.prog.info? 23 with
  | none => rw [hi] at h; cases h
  | some i => rw [hi] at h; simp only [Option.map_some, Option.some.injEq] at h ⊢; rw [h]
theorem Try.is23 : (Try.prog.info? 23).isSome = true := by kernel_rfl
theorem Try.by23 : (Try.prog.info? 23).map (fun j => decide (j.bytes ≤ 1000000)) = some true := by kernel_rfl
theorem Try.sz24 : (Try.prog.info? 24).map (·.size) = some 1 := by kernel_rfl
theorem Try.zr24 : (Try.prog.info? 24).map (·.zero) = some (some (.slice none 0 0)) := by kernel_rfl
theorem Try.pl24 (k : Nat) : (Try.prog.info? 24).map (fun t => (k, t.size)) = some (k, 1) := by
  have h := Try.sz24
  cases hi : Try.prog.info? 24 with
  | none => rw [hi] at h; cases h
  | some i => rw [hi] at h; simp only [Option.map_some, Option.some.injEq] at h ⊢; rw [h]
theorem Try.is24 : (Try.prog.info? 24).isSome = true := by kernel_rfl
theorem Try.by24 : (Try.prog.info? 24).map (fun j => decide (j.bytes ≤ 1000000)) = some true := by kernel_rfl
theorem Try.sz46 : (Try.prog.info? 46).map (·.size) = some 1 := by kernel_rfl
theorem Try.zr46 : (Try.prog.info? 46).map (·.zero) = some (some (.slice none 0 0)) := by kernel_rfl
theorem Try.pl46 (k : Nat) : (Try.prog.info? 46).map (fun t => (k, t.size)) = some (k, 1) := by
  have h := Try.sz46
  cases hi : Try.prog.info? 46 with
  | none => rw [hi] at h; cases h
  | some i => rw [hi] at h; simp only [Option.map_some, Option.some.injEq] at h ⊢; rw [h]
theorem Try.is46 : (Try.prog.info? 46).isSome = true := by kernel_rfl
theorem Try.by46 : (Try.prog.info? 46).map (fun j => decide (j.bytes ≤ 1000000)) = some true := by kernel_rfl
theorem Try.sz41 : (Try.prog.info? 41).map (·.size) = some 1 := by kernel_rfl
theorem Try.zr41 : (Try.prog.info? 41).map (·.zero) = some (some (.slice none 0 0)) := by kernel_rfl
theorem Try.pl41 (k : Nat) : (Try.prog.info? 41).map (fun t => (k, t.size)) = some (k, 1) := by
  have h := Try.sz41
  cases hi : Try.prog.info? 41 with
  | none => rw [hi] at h; cases h
  | some i => rw [hi] at h; simp only [Option.map_some, Option.some.injEq] at h ⊢; rw [h]
theorem Try.is41 : (Try.prog.info? 41).isSome = true := by kernel_rfl
theorem Try.by41 : (Try.prog.info? 41).map (fun j => decide (j.bytes ≤ 1000000)) = some true := by kernel_rfl
theorem Try.sz42 : (Try.prog.info? 42).map (·.size) = some 1 := by kernel_rfl
theorem Try.zr42 : (Try.prog.info? 42).map (·.zero) = some (some (.slice none 0 0)) := by kernel_rfl
theorem Try.pl42 (k : Nat) : (Try.prog.info? 42).map (fun t => (k, t.size)) = some (k, 1) := by
  have h := Try.sz42
  cases hi : Try.prog.info? 42 with
  | none => rw [hi] at h; cases h
  | some i => rw [hi] at h; simp only [Option.map_some, Option.some.injEq] at h ⊢; rw [h]
theorem Try.is42 : (Try.prog.info? 42).isSome = true := by kernel_rfl
theorem Try.by42 : (Try.prog.info? 42).map (fun j => decide (j.bytes ≤ 1000000)) = some true := by kernel_rfl
theorem Try.sz40 : (Try.prog.info? 40).map (·.size) = some 1 := by kernel_rfl
theorem Try.zr40 : (Try.prog.info? 40).map (·.zero) = some (some (.slice none 0 0)) := by kernel_rfl
theorem Try.pl40 (k : Nat) : (Try.prog.info? 40).map (fun t => (k, t.size)) = some (k, 1) := by
  have h := Try.sz40
  cases hi : Try.prog.info? 40 with
  | none => rw [hi] at h; cases h
  | some i => rw [hi] at h; simp only [Option.map_some, Option.some.injEq] at h ⊢; rw [h]
theorem Try.is40 : (Try.prog.info? 40).isSome = true := by kernel_rfl
theorem Try.by40 : (Try.prog.info? 40).map (fun j => decide (j.bytes ≤ 1000000)) = some true := by kernel_rfl
theorem Try.it68 : Av.intT Try.prog 8 68 = some 3 := by kernel_rfl
theorem Try.eg68 : Try.prog.eqGuardType Try.prog.depth 68 = false := by kernel_rfl
theorem Try.it54 : Av.intT Try.prog 8 54 = some 3 := by kernel_rfl
theorem Try.eg54 : Try.prog.eqGuardType Try.prog.depth 54 = false := by kernel_rfl
theorem Try.it66 : Av.intT Try.prog 8 66 = some 8 := by kernel_rfl
theorem Try.eg66 : Try.prog.eqGuardType Try.prog.depth 66 = false := by kernel_rfl
theorem Try.it57 : Av.intT Try.prog 8 57 = some 6 := by kernel_rfl
theorem Try.eg57 : Try.prog.eqGuardType Try.prog.depth 57 = false := by kernel_rfl
theorem Try.it37 : Av.intT Try.prog 8 37 = some 6 := by kernel_rfl
theorem Try.eg37 : Try.prog.eqGuardType Try.prog.depth 37 = false := by kernel_rfl
theorem Try.it73 : Av.intT Try.prog 8 73 = some 3 := by kernel_rfl
theorem Try.eg73 : Try.prog.eqGuardType Try.prog.depth 73 = false := by kernel_rfl
end Go.Proofs.Ytkdigdnacggknaa
/- Contracts that were proved over memory, lifted: flows, records, the monitor. -/
namespace Go.Proofs.Ytkdigdnacggknaa
open Go.RowKit
open Nd Rc Mo
open Av
set_option maxRecDepth 100000
set_option linter.unusedSimpArgs false

theorem late_ok (fs : List Fl) (r : Rec) (hf : fs.length ≤ 1000000) (hla : r.al.length ≤ 1000000) (hld : r.dl.length ≤ 1000000) : FnOK Try.prog 11 [.sl 6 (fs.map Fl.pv), .agg r.pv] ⟨.tup [.c (.sl 3 ((late fs r).1.map Lt.pv)), .c (ip (late fs r).2)], none⟩ := fn_of ⟨Try.f11, _, Try.func11, by kernel_rfl, rfl⟩ fun w R hR us hus => by
  cases hus with | cons h0 _ hus =>
  cases hus with | cons h1 _ hus =>
  cases hus
  obtain ⟨F, cf, rfl, hF⟩ := fls_rep hR h0
  obtain ⟨A, D, ca, cd, rfl, hA, hD⟩ := rec_rep hR h1
  refine (late_any fs r F A D cf ca cd w hF hf hA hD hla hld).mono ?_
  rintro e w' ⟨hb, v, rfl, hown⟩
  refine ⟨_, rfl, hb, ?_⟩
  rw [lt_pv]
  rw [List.flatMap_def, ← List.length_map (f := Lt.row)] at hown
  exact res_rows (by decide) hown (fun row hr => by obtain ⟨x, _, rfl⟩ := List.mem_map.1 hr; rfl) (fun row hr x hx => by obtain ⟨y, _, rfl⟩ := List.mem_map.1 hr; simp only [Lt.row, List.mem_cons, List.not_mem_nil, or_false] at hx; rcases hx with rfl | rfl | rfl <;> rfl)

theorem rlate_ok (fs : List Fl) (r : Rec) (hf : fs.length ≤ 1000000) (hla : r.al.length ≤ 1000000) (hld : r.dl.length ≤ 1000000) : FnOK Try.prog 14 [.sl 6 (fs.map Fl.pv), .agg r.pv] ⟨.tup [.c (.sl 3 ((late fs r).1.map Lt.pv)), .c (ip (late fs r).2)], none⟩ := fn_of ⟨Try.f14, _, Try.func14, by kernel_rfl, rfl⟩ fun w R hR us hus => by
  cases hus with | cons h0 _ hus =>
  cases hus with | cons h1 _ hus =>
  cases hus
  obtain ⟨F, cf, rfl, hF⟩ := fls_rep hR h0
  obtain ⟨A, D, ca, cd, rfl, hA, hD⟩ := rec_rep hR h1
  refine (rlate_any fs r F A D cf ca cd w hF hf hA hD hla hld).mono ?_
  rintro e w' ⟨hb, v, rfl, hown⟩
  refine ⟨_, rfl, hb, ?_⟩
  rw [lt_pv]
  rw [List.flatMap_def, ← List.length_map (f := Lt.row)] at hown
  exact res_rows (by decide) hown (fun row hr => by obtain ⟨x, _, rfl⟩ := List.mem_map.1 hr; rfl) (fun row hr x hx => by obtain ⟨y, _, rfl⟩ := List.mem_map.1 hr; simp only [Lt.row, List.mem_cons, List.not_mem_nil, or_false] at hx; rcases hx with rfl | rfl | rfl <;> rfl)

theorem stray_ok (fs : List Fl) (r : Rec) (hf : fs.length ≤ 1000000) (hla : r.al.length ≤ 1000000) (hld : r.dl.length ≤ 1000000) : FnOK Try.prog 25 [.sl 6 (fs.map Fl.pv), .agg r.pv] ⟨.tup [.c (.sl 8 ((stray fs r).1.map Att.pv)), .c (ip (stray fs r).2)], none⟩ := fn_of ⟨Try.f25, _, Try.func25, by kernel_rfl, rfl⟩ fun w R hR us hus => by
  cases hus with | cons h0 _ hus =>
  cases hus with | cons h1 _ hus =>
  cases hus
  obtain ⟨F, cf, rfl, hF⟩ := fls_rep hR h0
  obtain ⟨A, D, ca, cd, rfl, hA, hD⟩ := rec_rep hR h1
  refine (stray_any fs r F A D cf ca cd w hF hf hA hD hla hld).mono ?_
  rintro e w' ⟨hb, v, rfl, hown⟩
  refine ⟨_, rfl, hb, ?_⟩
  rw [att_pv]
  rw [List.flatMap_def, ← List.length_map (f := Att.row)] at hown
  exact res_rows (by decide) hown (fun row hr => by obtain ⟨x, _, rfl⟩ := List.mem_map.1 hr; rfl) (fun row hr x hx => by obtain ⟨y, _, rfl⟩ := List.mem_map.1 hr; simp only [Att.row, List.mem_cons, List.not_mem_nil, or_false] at hx; rcases hx with rfl | rfl | rfl | rfl | rfl | rfl | rfl | rfl <;> rfl)

theorem twice_ok (r : Rec) (hla : r.al.length ≤ 1000000) (hld : r.dl.length ≤ 1000000) : FnOK Try.prog 19 [.agg r.pv] ⟨.tup [.c (.sl 3 ((twice r).1.map Dlv.pv)), .c (ip (twice r).2)], none⟩ := fn_of ⟨Try.f19, _, Try.func19, by kernel_rfl, rfl⟩ fun w R hR us hus => by
  cases hus with | cons h0 _ hus =>
  cases hus
  obtain ⟨A, D, ca, cd, rfl, hA, hD⟩ := rec_rep hR h0
  refine (twice_any r A D ca cd w hA hD hla hld).mono ?_
  rintro e w' ⟨hb, v, rfl, hown⟩
  refine ⟨_, rfl, hb, ?_⟩
  rw [dlv_pv]
  rw [List.flatMap_def, ← List.length_map (f := Dlv.row)] at hown
  exact res_rows (by decide) hown (fun row hr => by obtain ⟨x, _, rfl⟩ := List.mem_map.1 hr; rfl) (fun row hr x hx => by obtain ⟨y, _, rfl⟩ := List.mem_map.1 hr; simp only [Dlv.row, List.mem_cons, List.not_mem_nil, or_false] at hx; rcases hx with rfl | rfl | rfl <;> rfl)

def Mo.Sv.pv (s : Sv) : List PV := [ip s.fr, ip s.late, ip s.least, ip s.most, ip s.att, ip s.lost]

theorem serve_ok (fs : List Fl) (r : Rec) (x : Int) (hf : fs.length ≤ 1000000) (hla : r.al.length ≤ 1000000) (hld : r.dl.length ≤ 1000000) : FnOK Try.prog 23 [.sl 6 (fs.map Fl.pv), .agg r.pv, iv x] ⟨.tup [.g (Mo.serve fs r x).1.pv, .c (ip (Mo.serve fs r x).2)], none⟩ := fn_of ⟨Try.f23, _, Try.func23, by kernel_rfl, rfl⟩ fun w R hR us hus => by
  cases hus with | cons h0 _ hus =>
  cases hus with | cons h1 _ hus =>
  cases hus with | cons h2 _ hus =>
  cases hus
  obtain ⟨F, cf, rfl, hF⟩ := fls_rep hR h0
  obtain ⟨A, D, ca, cd, rfl, hA, hD⟩ := rec_rep hR h1
  rw [h2]
  refine (serve_any fs r x F A D cf ca cd w hF hf hA hD hla hld).mono ?_
  rintro e w' ⟨hb, rfl⟩
  refine ⟨_, rfl, hb, rfl, _, rfl, .cons (.g ?_) (.cons (.c (.v _ rfl)) .nil)⟩
  exact .cons (.v _ rfl) (.cons (.v _ rfl) (.cons (.v _ rfl) (.cons (.v _ rfl) (.cons (.v _ rfl) (.cons (.v _ rfl) .nil)))))

theorem rfchk_ok (fs : List Fl) (r : Rec) (hf : fs.length ≤ 1000000) (hla : r.al.length ≤ 1000000) (hld : r.dl.length ≤ 1000000) : FnOK Try.prog 46 [.sl 6 (fs.map Fl.pv), .agg r.pv] ⟨iv (if right fs r = true then 0 else 1), none⟩ := fn_of ⟨Try.f46, _, Try.func46, by kernel_rfl, rfl⟩ fun w R hR us hus => by
  cases hus with | cons h0 _ hus =>
  cases hus with | cons h1 _ hus =>
  cases hus
  obtain ⟨F, cf, rfl, hF⟩ := fls_rep hR h0
  obtain ⟨A, D, ca, cd, rfl, hA, hD⟩ := rec_rep hR h1
  refine (rfchk_any fs r F A D cf ca cd w hF hf hA hD hla hld).mono ?_
  rintro e w' ⟨rfl, hb⟩
  exact ⟨_, rfl, hb, res_v⟩

theorem rcheck_ok (r : Rec) (hla : r.al.length ≤ 1000000) (hld : r.dl.length ≤ 1000000) : FnOK Try.prog 58 [.agg r.pv] ⟨iv (rcheckE r), none⟩ := fn_of ⟨Try.f58, _, Try.func58, by kernel_rfl, rfl⟩ fun w R hR us hus => by
  cases hus with | cons h0 _ hus =>
  cases hus
  obtain ⟨A, D, ca, cd, rfl, hA, hD⟩ := rec_rep hR h0
  refine (rcheck_any r A D ca cd w hA hD (by omega) (by omega)).mono ?_
  rintro e w' ⟨rfl, hb⟩
  exact ⟨_, rfl, hb, res_v⟩

theorem check_ok (r : Rec) (hla : r.al.length ≤ 1000000) (hld : r.dl.length ≤ 1000000) : FnOK Try.prog 50 [.agg r.pv] ⟨iv (checkE r), none⟩ := fn_of ⟨Try.f50, _, Try.func50, by kernel_rfl, rfl⟩ fun w R hR us hus => by
  cases hus with | cons h0 _ hus =>
  cases hus
  obtain ⟨A, D, ca, cd, rfl, hA, hD⟩ := rec_rep hR h0
  refine (check_any r A D ca cd w hA hD (by omega) (by omega)).mono ?_
  rintro e w' ⟨rfl, hb⟩
  exact ⟨_, rfl, hb, res_v⟩

theorem find_ok (fs : List Fl) (id : Int) (hf : fs.length ≤ 1000000) : FnOK Try.prog 36 [.sl 6 (fs.map Fl.pv), iv id] ⟨iv (findF fs id), none⟩ := fn_of ⟨Try.f36, _, Try.func36, by kernel_rfl, rfl⟩ fun w R hR us hus => by
  cases hus with | cons h0 _ hus =>
  cases hus with | cons h1 _ hus =>
  cases hus
  obtain ⟨F, cf, rfl, hF⟩ := fls_rep hR h0
  rw [h1]
  refine (find_any fs id F cf w hF hf).mono ?_
  rintro e w' ⟨rfl, hb⟩
  exact ⟨_, rfl, hb, res_v⟩

theorem rcurrent_ok (f : Fl) (s : Int) : FnOK Try.prog 65 [.agg f.pv, iv s] ⟨.tup [.c (ip (cur f s).1), .c (.v (.bool (cur f s).2))], none⟩ := fn_of ⟨Try.f65, _, Try.func65, by kernel_rfl, rfl⟩ fun w R hR us hus => by
  cases hus with | cons h0 _ hus =>
  cases hus with | cons h1 _ hus =>
  cases hus
  rw [fl_rep h0, h1]
  refine (rcurrent_any f s w).mono ?_
  rintro e w' ⟨rfl, hb⟩
  exact ⟨_, rfl, hb, res_vv rfl rfl⟩

theorem rrel_ok (f : Fl) (n : Int) (hf : fault f = 0) (h0n : 0 ≤ n) (h1n : n ≤ 1000000) : FnOK Try.prog 47 [.agg f.pv, iv n] ⟨iv (rel f n), none⟩ := fn_of ⟨Try.f47, _, Try.func47, by kernel_rfl, rfl⟩ fun w R hR us hus => by
  cases hus with | cons h0 _ hus =>
  cases hus with | cons h1 _ hus =>
  cases hus
  rw [fl_rep h0, h1]
  refine (rrel_any f n hf h0n h1n w).mono ?_
  rintro e w' ⟨rfl, hb⟩
  exact ⟨_, rfl, hb, res_v⟩

theorem window_ok (f : Fl) (n : Int) (hf : fault f = 0) (h0n : 0 ≤ n) (h1n : n ≤ 1000000) : FnOK Try.prog 37 [.agg f.pv, iv n] ⟨.tup [.c (ip (rel f n)), .c (ip (rel f n + f.pe - 1)), .c (ip 0)], none⟩ := fn_of ⟨Try.f37, _, Try.func37, by kernel_rfl, rfl⟩ fun w R hR us hus => by
  cases hus with | cons h0 _ hus =>
  cases hus with | cons h1 _ hus =>
  cases hus
  rw [fl_rep h0, h1]
  refine (Window_any f n hf h0n h1n w).mono ?_
  rintro e w' ⟨rfl, hb⟩
  exact ⟨_, rfl, hb, rfl, _, rfl, .cons (.c (.v _ rfl)) (.cons (.c (.v _ rfl)) (.cons (.c (.v _ rfl)) .nil))⟩
end Go.Proofs.Ytkdigdnacggknaa

import Derived.Laws.IdiomArrays
import Derived.Test.YtcloigoajohppaaGreatDoorZ7
set_option linter.unusedVariables false
set_option linter.unusedSimpArgs false
namespace Go.Proofs.YtcloigoajohppaaGreatDoor
open Go.RowKit
open Av
open Sc
set_option maxRecDepth 100000
set_option linter.unusedSimpArgs false
set_option linter.unusedVariables false

def setM (n : Nat) (M : List (List Int)) (p : Int × Int × Int) : List (List Int) := M.set (p.1 % n).toNat ((M.getD (p.1 % n).toNat []).set (p.2.1 % n).toNat (p.2.2 % 10))
def pwL (n : Nat) (p : Int × Int × Int) : Ln := (wPower, [p.1 % n, p.2.1 % n, p.2.2 % 10])
def zeroM (n : Nat) : List (List Int) := List.replicate n (List.replicate n 0)
def pwLines (n : Nat) (l : List (Int × Int × Int)) : List Ln := (wNetwork, [(n : Int), 1, 1000]) :: l.map (pwL n)
def pwEnd : List Ln := [(wSchedule, [1, 1]), (wSlots, [0])]
theorem pw_run {n : Nat} (hn : 1 ≤ n) : ∀ (l : List (Int × Int × Int)) (p : Ps) (x : Sn), At p x 1 false → x.net.nodes = (n : Int) → ∃ p', runL p (l.map (pwL n)) = some p' ∧ At p' (setPw x (l.foldl (setM n) x.net.power)) 1 false
  | [], p, x, h, _ => ⟨p, rfl, h⟩
  | d :: l, p, x, h, hx => by
    have h0 := Int.emod_nonneg d.1 (show (n : Int) ≠ 0 by omega)
    have h1 := Int.emod_nonneg d.2.1 (show (n : Int) ≠ 0 by omega)
    have g0 := Int.emod_lt_of_pos d.1 (show (0 : Int) < n by omega)
    have g1 := Int.emod_lt_of_pos d.2.1 (show (0 : Int) < n by omega)
    obtain ⟨p1, e1, a1⟩ := step_pw h (a := (d.1 % n).toNat) (b := (d.2.1 % n).toNat) (v := d.2.2 % 10) (by rw [hx]; omega) (by rw [hx]; omega)
    rw [Int.toNat_of_nonneg h0, Int.toNat_of_nonneg h1] at e1
    obtain ⟨p2, e2, a2⟩ := pw_run hn l p1 _ a1 hx
    exact ⟨p2, run_cons e1 e2, a2⟩
theorem pw_good {n : Nat} (hn : 1 ≤ n) (h5 : n ≤ 5) (l : List (Int × Int × Int)) : ∀ y ∈ pwLines n l ++ pwEnd, GoodL y := by
  obtain ⟨w1, w2, w3, w4, w5, w6, w7, w8, w9, w10, w11, w12, w13⟩ := good_word
  intro y hy
  rcases List.mem_append.1 hy with hy | hy
  · rcases List.mem_cons.1 hy with rfl | hy
    · refine ⟨w1, fun m hm => ?_⟩
      simp only [List.mem_cons, List.not_mem_nil, or_false] at hm
      rcases hm with rfl | rfl | rfl <;> omega
    · obtain ⟨d, _, rfl⟩ := List.mem_map.1 hy
      have h0 := Int.emod_nonneg d.1 (show (n : Int) ≠ 0 by omega)
      have h1 := Int.emod_nonneg d.2.1 (show (n : Int) ≠ 0 by omega)
      have g0 := Int.emod_lt_of_pos d.1 (show (0 : Int) < n by omega)
      have g1 := Int.emod_lt_of_pos d.2.1 (show (0 : Int) < n by omega)
      refine ⟨w2, fun m hm => ?_⟩
      have hm' : m ∈ [d.1 % (n : Int), d.2.1 % (n : Int), d.2.2 % 10] := hm
      simp only [List.mem_cons, List.not_mem_nil, or_false] at hm'
      rcases hm' with rfl | rfl | rfl <;> omega
  · unfold pwEnd at hy
    simp only [List.mem_cons, List.not_mem_nil, or_false] at hy
    rcases hy with rfl | rfl
    · refine ⟨w7, fun m hm => ?_⟩
      simp only [List.mem_cons, List.not_mem_nil, or_false] at hm
      rcases hm with rfl | rfl <;> omega
    · refine ⟨w13, fun m hm => ?_⟩
      simp only [List.mem_cons, List.not_mem_nil, or_false] at hm
      rcases hm with rfl; omega
theorem pw_parse {n : Nat} (hn : 1 ≤ n) (h5 : n ≤ 5) (l : List (Int × Int × Int)) (hs : (txt (pwLines n l ++ pwEnd)).length ≤ 65536) :
    ∃ x : Sn, parseP (mkB (txt (pwLines n l ++ pwEnd))) = (x, 0, 0) ∧ x.net.power = l.foldl (setM n) (zeroM n) := by
  have e0 : stepP psZ (some (wNetwork, [(n : Int), 1, 1000])) = (⟨⟨⟨⟨(n : Int), List.replicate (n : Int).toNat (List.replicate (n : Int).toNat 0), 1, 1000, [], []⟩, [], [], 0, 0, [], [], [], [], 0⟩, 0, true, false, false⟩, none⟩, 0) :=
    (step_kd .network rfl rfl).trans (if_neg (by omega))
  rw [Int.toNat_natCast] at e0
  have a0 : At ⟨⟨⟨⟨(n : Int), List.replicate n (List.replicate n 0), 1, 1000, [], []⟩, [], [], 0, 0, [], [], [], [], 0⟩, 0, true, false, false⟩, none⟩ ⟨⟨(n : Int), List.replicate n (List.replicate n 0), 1, 1000, [], []⟩, [], [], 0, 0, [], [], [], [], 0⟩ 0 false := ⟨rfl, rfl, Int.le_refl 0, rfl, rfl⟩
  obtain ⟨p1, r1, a1⟩ := pw_run hn l _ _ (a0.up (by decide)) rfl
  have e2 : stepP p1 (some (wSchedule, [1, 1])) = (⟨{ p1.R with rank := 5, x := { p1.R.x with len := 1, offs := 1 }, sched := true }, none⟩, 0) :=
    step_kd .schedule rfl (comes_at a1 (by decide) (by decide) (.inr (.inl ⟨rfl, rfl⟩)))
  have a2 : At ⟨{ p1.R with rank := 5, x := { p1.R.x with len := 1, offs := 1 }, sched := true }, none⟩ _ 5 true := ⟨rfl, a1.begun, Int.le_refl 5, rfl, a1.done⟩
  have e3 : stepP ⟨{ p1.R with rank := 5, x := { p1.R.x with len := 1, offs := 1 }, sched := true }, none⟩ (some (wSlots, [0])) = (⟨{ p1.R with rank := 10, x := { p1.R.x with len := 1, offs := 1, slots := 0 }, sched := true, done := true }, none⟩, 0) :=
    step_kd .slots rfl (comes_at a2 (by decide) (by decide) (.inr (.inr ⟨by decide, rfl⟩)))
  have hr : runL psZ (pwLines n l ++ pwEnd) = some ⟨{ p1.R with rank := 10, x := { p1.R.x with len := 1, offs := 1, slots := 0 }, sched := true, done := true }, none⟩ := run_then (run_cons e0 r1) (run_cons e2 (run_one e3))
  refine ⟨_, by rw [parse_txt (pw_good hn h5 l) hs hr, if_pos (by show (p1.R.begun && true && true) = true; rw [a1.begun]; rfl)], ?_⟩
  show p1.R.x.net.power = _
  rw [a1.x]
  rfl
def numS (k : Nat) : ByteArray := mkB [UInt8.ofNat (48 + k)]
theorem itoa_one {k : Nat} (h : k < 10) : Lib.itoa (k : Int) = [UInt8.ofNat (48 + k)] := by
  rw [Lib.itoa_nonneg, Lib.decDigits, dif_pos h]
theorem numS_size (k : Nat) : (numS k).size = 1 := rfl
theorem mk_append (a b : List UInt8) : mkB a ++ mkB b = mkB (a ++ b) := ext_list (by rw [mkB_list]; simp [mkB])
theorem pw_first {n : Nat} (h5 : n ≤ 5) : (⟨#[110, 101, 116, 119, 111, 114, 107, 32]⟩ ++ numS n) ++ ⟨#[32, 49, 32, 49, 48, 48, 48, 10]⟩ = mkB (txt (pwLines n [])) := by
  have e : txt (pwLines n []) = ([110, 101, 116, 119, 111, 114, 107, 32] ++ [UInt8.ofNat (48 + n)]) ++ [32, 49, 32, 49, 48, 48, 48, 10] := by
    show lineB wNetwork [(n : Int), 1, 1000] ++ [10] ++ [] = _
    unfold lineB
    rw [List.flatMap_cons, itoa_one (by omega)]
    have e1 : Lib.itoa 1 = [49] := itoa_one (k := 1) (by decide)
    have e2 : Lib.itoa 1000 = [49, 48, 48, 48] := by kernel_rfl
    rw [List.flatMap_cons, List.flatMap_cons, e1, e2]
    rfl
  rw [e, ← mk_append, ← mk_append]
  rfl
theorem lines_snoc (n : Nat) (l : List (Int × Int × Int)) (d : Int × Int × Int) : pwLines n (l ++ [d]) = pwLines n l ++ [pwL n d] := by
  unfold pwLines
  rw [List.map_append]
  rfl
theorem pw_next {n a b c : Nat} {d : Int × Int × Int} (l : List (Int × Int × Int)) (ha : d.1 % n = (a : Int)) (hb : d.2.1 % n = (b : Int)) (hc : d.2.2 % 10 = (c : Int)) (h1 : a < 10) (h2 : b < 10) (h3 : c < 10) :
    mkB (txt (pwLines n l)) ++ ((((((⟨#[112, 111, 119, 101, 114, 32]⟩ ++ numS a) ++ ⟨#[32]⟩) ++ numS b) ++ ⟨#[32]⟩) ++ numS c) ++ ⟨#[10]⟩) = mkB (txt (pwLines n (l ++ [d]))) := by
  have e : txt [pwL n d] = ((((([112, 111, 119, 101, 114, 32] ++ [UInt8.ofNat (48 + a)]) ++ [32]) ++ [UInt8.ofNat (48 + b)]) ++ [32]) ++ [UInt8.ofNat (48 + c)]) ++ [10] := by
    rw [txt_one]
    show lineB wPower [d.1 % (n : Int), d.2.1 % (n : Int), d.2.2 % 10] ++ [10] = _
    rw [ha, hb, hc]
    unfold lineB
    rw [List.flatMap_cons, List.flatMap_cons, List.flatMap_cons, itoa_one h1, itoa_one h2, itoa_one h3]
    rfl
  rw [lines_snoc, txt_append, e, ← mk_append, ← mk_append, ← mk_append, ← mk_append, ← mk_append, ← mk_append, ← mk_append]
  rfl
theorem pw_last (n : Nat) (l : List (Int × Int × Int)) : mkB (txt (pwLines n l)) ++ ⟨#[115, 99, 104, 101, 100, 117, 108, 101, 32, 49, 32, 49, 10, 115, 108, 111, 116, 115, 32, 48, 10]⟩ = mkB (txt (pwLines n l ++ pwEnd)) := by
  have e : txt pwEnd = [115, 99, 104, 101, 100, 117, 108, 101, 32, 49, 32, 49, 10, 115, 108, 111, 116, 115, 32, 48, 10] := by kernel_rfl
  rw [txt_append, e, ← mk_append]
  rfl
theorem pw_size {n : Nat} (hn : 1 ≤ n) (h5 : n ≤ 5) (l : List (Int × Int × Int)) : (txt (pwLines n l)).length ≤ 17 + 12 * l.length := by
  have hf : (txt (pwLines n [])).length = 17 := by
    have := congrArg ByteArray.size (pw_first h5)
    rw [mkB_size, ByteArray.size_append, ByteArray.size_append, numS_size] at this
    rw [← this]
    rfl
  have key : ∀ l : List (Int × Int × Int), (txt (l.map (pwL n))).length ≤ 12 * l.length := fun l => by
    induction l with
    | nil => exact Nat.zero_le _
    | cons d l ih =>
      have h0 := Int.emod_nonneg d.1 (show (n : Int) ≠ 0 by omega)
      have h1 := Int.emod_nonneg d.2.1 (show (n : Int) ≠ 0 by omega)
      have g0 := Int.emod_lt_of_pos d.1 (show (0 : Int) < n by omega)
      have g1 := Int.emod_lt_of_pos d.2.1 (show (0 : Int) < n by omega)
      have e0 : d.1 % (n : Int) = (((d.1 % (n : Int)).toNat : Nat) : Int) := by omega
      have e1 : d.2.1 % (n : Int) = (((d.2.1 % (n : Int)).toNat : Nat) : Int) := by omega
      have e2 : d.2.2 % 10 = (((d.2.2 % 10).toNat : Nat) : Int) := by omega
      rw [List.map_cons, txt_cons]
      have hl : (lineB (pwL n d).1 (pwL n d).2).length = 11 := by
        show (lineB wPower [d.1 % (n : Int), d.2.1 % (n : Int), d.2.2 % 10]).length = 11
        rw [e0, e1, e2]
        unfold lineB
        rw [List.flatMap_cons, List.flatMap_cons, List.flatMap_cons, itoa_one (by omega), itoa_one (by omega), itoa_one (by omega)]
        rfl
      rw [List.length_append, List.length_append, hl, List.length_cons]
      simp only [List.length_cons, List.length_nil]
      omega
  have e : txt (pwLines n l) = txt (pwLines n []) ++ txt (l.map (pwL n)) := by
    rw [← txt_append]
    rfl
  rw [e, List.length_append, hf]
  have := key l
  omega

/-! The table in memory -/
def tabX (g : Nat) (V : Value) (pz : List Pz) : List Ext := rawR 24 1 (some g) V (pz.map fun z => [z.V]) :: pz.map Pz.ext
theorem rep_tab {R : Reader} {w : World} {g : Nat} {V : Value} {pz : List Pz} (h : (exts (tabX g V pz)).holds w) (hr : (exts (tabX g V pz)).reads R) (hR : ∀ b, (exts (tabX g V pz)).foot b → ∀ j u, w.cell? ⟨b, j, none⟩ = some u → R ⟨b, j, none⟩ = some u) :
    RepP R (.sl 1 (rsR (pz.map (·.row)))) V := by
  have row : ∀ (i : Nat) {e : TypeId} {sz : Nat} {q : Option Nat} {V : Value} {xs : List Value} {rows : List (List PV)}, (tabX g V pz)[i]? = some (rowsE e sz q V xs rows) → True := fun _ _ _ _ _ _ _ _ => trivial
  have pw : ∀ a (z : Pz), pz[a]? = some z → RepP R (.sl 1 (z.row.map fun n => [ip n])) z.V := fun a z hz => by
    have hi : (tabX g V pz)[a + 1]? = some (rawR 3 1 (some z.g) z.V (z.row.map fun n => [.int .i64 n])) := by
      show (pz.map Pz.ext)[a]? = _
      rw [List.getElem?_map, hz]
      rfl
    have := rowsE_rep (exts_get h hi) (exts_reads hr hi) fun b hb j u hu => hR b (exts_foot hi hb) j u hu
    simpa [List.map_map, Function.comp_def] using this
  have hi : (tabX g V pz)[0]? = some (rawR 24 1 (some g) V (pz.map fun z => [z.V])) := rfl
  have h1 : RowsOK w 24 1 (some g) V (pz.map fun z => [z.V]).flatten ((pz.map fun z => [z.V]).map fun r => r.map PV.v).length := exts_get h hi
  have hl : ((pz.map fun z => [z.V]).map fun r => r.map PV.v).length = (rsR (pz.map (·.row))).length := by unfold rsR; simp
  rw [hl] at h1
  refine repP_rows h1 ⟨fun k row hk => ?_, fun k row j p hk hj => ?_⟩ fun b hb j u hu => hR b (exts_foot hi hb) j u hu
  · unfold rsR at hk
    rw [List.getElem?_map, List.getElem?_map] at hk
    cases hz : pz[k]? with
    | none => rw [hz] at hk; cases hk
    | some z => rw [hz] at hk; cases hk; rfl
  · unfold rsR at hk
    rw [List.getElem?_map, List.getElem?_map] at hk
    cases hz : pz[k]? with
    | none => rw [hz] at hk; cases hk
    | some z =>
      rw [hz] at hk
      cases hk
      have hrep : RepL R [PV.sl 1 (z.row.map fun n => [ip n])] [z.V] := .cons (pw k z hz) .nil
      obtain ⟨x, h1, h2⟩ := hrep.get hj
      exact ⟨x, flat_get (sz := 1) (fun r hr' => by obtain ⟨y, _, rfl⟩ := List.mem_map.1 hr'; rfl) (by rw [List.getElem?_map, hz]; rfl) h1, h2⟩
theorem awp_free {P : Program} {F : Fr} {C : World → Prop} {c : Code} {Q : AX → St → Prop} {σ : St} {l : List Ext} {t sz : Nat} {V : Value} {rows : List (List PV)} (hE : σ.ext = (laidE C).and (exts l)) (ht : t < F.n) (hs : Av.look σ.slot t = some (.v V))
    (hx : ∀ (R : Reader) (w : World), (exts l).holds w → (exts l).reads R → (∀ b, (exts l).foot b → ∀ j u, w.cell? ⟨b, j, none⟩ = some u → R ⟨b, j, none⟩ = some u) → RepP R (.sl sz rows) V)
    (h : AWp P F c Q (({ σ with ext := laidE C } : St).put t (.sl sz rows))) : AWp P F c Q σ := fun γ a w hr => by
  have hEh := hr.exth
  rw [hE] at hEh
  have htn : Turn σ.ext w w (laidE C) := by
    rw [hE]
    exact Turn.same trivial (fun b hb => hb.elim) (fun b hb => hb.elim) (fun w0 h => h.1) (fun R _ => trivial) (fun p hp => hp.elim)
  have hr2 := hr.turn htn
  have hle := hr.turn_le htn
  have hrd := σ.ext.rmono hle hr.extr
  rw [hE] at hrd
  have hcell : ∀ b, (exts l).foot b → ∀ j u, w.cell? ⟨b, j, none⟩ = some u → rdr F.R0 F.w0.heap.size { σ with ext := laidE C } γ w ⟨b, j, none⟩ = some u := fun b hb j u hu => by
    obtain ⟨g1, g2, g3, g4⟩ := hr.extf b (by rw [hE]; exact .inl (.inr hb))
    unfold rdr
    rw [if_neg (by show ¬ b < F.w0.heap.size; omega), if_neg, hu]
    rintro (⟨k, cs, hk, hkb⟩ | ⟨L, e, s, rs, h1, _, h3, _⟩ | hh)
    · exact g3 k (by rw [hk]; rfl) hkb.symm
    · exact g4 L (by rw [h1]; rfl) h3
    · rcases hh with hh | hh <;> exact hh.elim
  have hrep : RepA (rdr F.R0 F.w0.heap.size { σ with ext := laidE C } γ w) γ.bx (.sl sz rows) (a.tmps.getD t undef) := by
    rw [hr.val hs]
    exact hx _ w hEh.2.1 hrd.2 hcell
  have h3 := hr2.put ht hrep (fun k hk => by cases hk)
  rw [put_same (by rw [hr.size]; exact ht)] at h3
  exact h _ a w h3
end Go.Proofs.YtcloigoajohppaaGreatDoor
namespace Go.Proofs.YtcloigoajohppaaGreatDoor
open Go.RowKit
open Av
set_option maxRecDepth 100000
set_option linter.unusedSimpArgs false
theorem Tryz.sz48 : (Tryz.prog.info? 48).map (·.size) = some 3 := by kernel_rfl
theorem Tryz.zr48 : (Tryz.prog.info? 48).map (·.zero) = some (some (.agg #[.int .u8 0, .int .u8 0, .int .u8 0])) := by kernel_rfl
theorem Tryz.pl48 (k : Nat) : (Tryz.prog.info? 48).map (fun t => (k, t.size)) = some (k, 3) := by
  have h := Tryz.sz48
  cases hi : Tryz.prog.info? 48 with
  | none => rw [hi] at h; cases h
  | some i => rw [hi] at h; simp only [Option.map_some, Option.some.injEq] at h ⊢; rw [h]
theorem Tryz.is48 : (Tryz.prog.info? 48).isSome = true := by kernel_rfl
theorem Tryz.by48 : (Tryz.prog.info? 48).map (fun j => decide (j.bytes ≤ 1000000)) = some true := by kernel_rfl
theorem Tryz.sz45 : (Tryz.prog.info? 45).map (·.size) = some 1 := by kernel_rfl
theorem Tryz.zr45 : (Tryz.prog.info? 45).map (·.zero) = some (some (.slice none 0 0)) := by kernel_rfl
theorem Tryz.pl45 (k : Nat) : (Tryz.prog.info? 45).map (fun t => (k, t.size)) = some (k, 1) := by
  have h := Tryz.sz45
  cases hi : Tryz.prog.info? 45 with
  | none => rw [hi] at h; cases h
  | some i => rw [hi] at h; simp only [Option.map_some, Option.some.injEq] at h ⊢; rw [h]
theorem Tryz.is45 : (Tryz.prog.info? 45).isSome = true := by kernel_rfl
theorem Tryz.by45 : (Tryz.prog.info? 45).map (fun j => decide (j.bytes ≤ 1000000)) = some true := by kernel_rfl
theorem Tryz.sz47 : (Tryz.prog.info? 47).map (·.size) = some 1 := by kernel_rfl
theorem Tryz.zr47 : (Tryz.prog.info? 47).map (·.zero) = some (some (.nilFunc)) := by kernel_rfl
theorem Tryz.pl47 (k : Nat) : (Tryz.prog.info? 47).map (fun t => (k, t.size)) = some (k, 1) := by
  have h := Tryz.sz47
  cases hi : Tryz.prog.info? 47 with
  | none => rw [hi] at h; cases h
  | some i => rw [hi] at h; simp only [Option.map_some, Option.some.injEq] at h ⊢; rw [h]
theorem Tryz.is47 : (Tryz.prog.info? 47).isSome = true := by kernel_rfl
theorem Tryz.by47 : (Tryz.prog.info? 47).map (fun j => decide (j.bytes ≤ 1000000)) = some true := by kernel_rfl
theorem Tryz.sz50 : (Tryz.prog.info? 50).map (·.size) = some 1 := by kernel_rfl
theorem Tryz.zr50 : (Tryz.prog.info? 50).map (·.zero) = some (some (.nilFunc)) := by kernel_rfl
theorem Tryz.pl50 (k : Nat) : (Tryz.prog.info? 50).map (fun t => (k, t.size)) = some (k, 1) := by
  have h := Tryz.sz50
  cases hi : Tryz.prog.info? 50 with
  | none => rw [hi] at h; cases h
  | some i => rw [hi] at h; simp only [Option.map_some, Option.some.injEq] at h ⊢; rw [h]
theorem Tryz.is50 : (Tryz.prog.info? 50).isSome = true := by kernel_rfl
theorem Tryz.by50 : (Tryz.prog.info? 50).map (fun j => decide (j.bytes ≤ 1000000)) = some true := by kernel_rfl
end Go.Proofs.YtcloigoajohppaaGreatDoor
namespace Go.Proofs.YtcloigoajohppaaGreatDoor
open Go.RowKit
open Av
open Sc
set_option maxRecDepth 100000
set_option linter.unusedSimpArgs false
attribute [local go_sem] Av.guardB Av.sop Av.hopx Av.hop Av.hopCall Av.hopF Av.hopB Av.evo Av.evos Av.avCells Av.loadK Av.bound Av.abin Av.aun Av.partsC Av.lfill Av.placesB Av.setAt Av.stl Av.takes Av.src Av.bxOf Av.ownOf Av.St.res Av.St.put Av.St.addBox Av.St.putOwn Av.delL Av.delS Av.look Av.lookL Av.storeSt Av.stealSt Av.St.setBox Av.keepL Av.hitB Av.snap Av.snaps Av.snapCaps Av.AV.lit Av.AV.refs Av.capRefs Av.PV.av Av.CV.av Av.startSt Av.steals Av.athen Av.ablock Av.appK Av.AllS Av.AllO Av.AllR Av.keepS Av.St.avAt Av.RetOK Av.retAll Av.retOne Av.intsOf Av.ptrB TypeDesc.isRow List.range_zero Option.some.injEq exists_eq_left' exists_eq_left exists_eq' exists_and_left exists_and_right exists_const true_and and_true and_self false_and and_false or_false false_or or_true true_or if_true if_false Bool.false_eq_true List.zipIdx_cons List.zipIdx_nil List.map_cons List.map_nil List.filter_cons List.filter_nil List.contains_cons List.contains_nil List.drop_succ_cons List.drop_zero List.take_succ_cons List.take_zero List.take_nil List.drop_nil List.length_cons List.length_nil List.cons_append List.nil_append List.append_nil List.getElem?_cons_zero List.getElem?_cons_succ List.getElem?_nil Option.bind_some Option.bind_none Option.map_some Option.map_none Option.isNone_none Option.isNone_some Option.isSome_some Option.isSome_none Bool.and_true Bool.true_and Bool.and_false Bool.false_and Bool.or_false Bool.false_or Bool.not_true Bool.not_false beq_true beq_false Bool.true_beq Bool.false_beq Loc.s.injEq Loc.b.injEq decide_true decide_false beq_self_eq_true Nat.zero_add Nat.add_zero List.getElem?_toArray List.toList_toArray List.size_toArray Value.oneCell' List.all_cons List.all_nil Value.int.injEq AV.v.injEq AV.sl.injEq AV.agg.injEq AV.ref.injEq AV.ept.injEq AV.tup.injEq Value.bool.injEq PV.v.injEq PV.sl.injEq List.isEmpty_nil List.isEmpty_cons forall_const not_true_eq_false not_false_eq_true true_implies false_implies Value.string.injEq List.length_map List.getElem?_map Int.toNat_natCast Int.natCast_nonneg List.length_append Value.cells implies_true TypeDesc.struct.injEq TypeDesc.slice.injEq TypeDesc.array.injEq List.getElem?_toArray Prod.mk.injEq and_assoc exists_false List.cons.injEq Operand.tmp.injEq ite_self AV.fnv.injEq AV.clo.injEq ne_eq eq_self Tryz.sz3 Tryz.zr3 Tryz.by3 Tryz.pl3 Tryz.is3 Tryz.underlying3 Tryz.sz4 Tryz.zr4 Tryz.by4 Tryz.pl4 Tryz.is4 Tryz.underlying4 Tryz.sz9 Tryz.zr9 Tryz.by9 Tryz.pl9 Tryz.is9 Tryz.underlying9 Tryz.sz5 Tryz.zr5 Tryz.by5 Tryz.pl5 Tryz.is5 Tryz.underlying5 Tryz.sz56 Tryz.zr56 Tryz.by56 Tryz.pl56 Tryz.is56 Tryz.underlying56 Tryz.sz24 Tryz.zr24 Tryz.by24 Tryz.pl24 Tryz.is24 Tryz.underlying24 Tryz.sz26 Tryz.zr26 Tryz.by26 Tryz.pl26 Tryz.is26 Tryz.underlying26 Tryz.sz30 Tryz.zr30 Tryz.by30 Tryz.pl30 Tryz.is30 Tryz.underlying30 Tryz.sz35 Tryz.zr35 Tryz.by35 Tryz.pl35 Tryz.is35 Tryz.underlying35 Tryz.sz22 Tryz.zr22 Tryz.by22 Tryz.pl22 Tryz.is22 Tryz.underlying22 Tryz.sz46 Tryz.zr46 Tryz.by46 Tryz.pl46 Tryz.is46 Tryz.underlying46 Tryz.sz38 Tryz.zr38 Tryz.by38 Tryz.pl38 Tryz.is38 Tryz.underlying38 all_arr loc_ss loc_sb loc_bs loc_bb arr_two arr_one rg1 rg2 rg3 rg4 rg5 rg6 rg7 rg8 ResultVar.tmp.injEq Bool.not_true Bool.not_false undef Fn.func.injEq Av.extSt Av.RetX List.zipIdx List.getD_cons_zero List.getD_cons_succ Tryz.sz48 Tryz.zr48 Tryz.by48 Tryz.pl48 Tryz.is48 Tryz.underlying48 Tryz.sz45 Tryz.zr45 Tryz.by45 Tryz.pl45 Tryz.is45 Tryz.underlying45 Tryz.sz47 Tryz.zr47 Tryz.by47 Tryz.pl47 Tryz.is47 Tryz.underlying47 Tryz.sz50 Tryz.zr50 Tryz.by50 Tryz.pl50 Tryz.is50 Tryz.underlying50 Tryz.underlying5 Sc.rsR

set_option maxHeartbeats 2000000 in
theorem number_pok (k : Int) (j : Nat) (hk : k.tmod 10 = (j : Int)) (hj : j < 10) : FnOK Tryz.prog 16 [iv k] ⟨.v (.string (numS j)), none⟩ := by
 have h10 : ([[PV.v (.string ⟨#[48]⟩)], [PV.v (.string ⟨#[49]⟩)], [PV.v (.string ⟨#[50]⟩)], [PV.v (.string ⟨#[51]⟩)], [PV.v (.string ⟨#[52]⟩)], [PV.v (.string ⟨#[53]⟩)], [PV.v (.string ⟨#[54]⟩)], [PV.v (.string ⟨#[55]⟩)], [PV.v (.string ⟨#[56]⟩)], [PV.v (.string ⟨#[57]⟩)]] : List (List PV))[j]? = some [PV.v (.string (numS j))] := by
  match j, hj with
  | 0, _ => rfl
  | 1, _ => rfl
  | 2, _ => rfl
  | 3, _ => rfl
  | 4, _ => rfl
  | 5, _ => rfl
  | 6, _ => rfl
  | 7, _ => rfl
  | 8, _ => rfl
  | 9, _ => rfl
 have hj' : (j < 10) = True := eq_true hj
 refine fn_ok Tryz.func16 (by kernel_rfl) rfl (by rw [Tryz.ntmps16]; exact of_decide_eq_true rfl) (fun F hF => ?_)
 rw [Tryz.ntmps16] at hF
 rw [Tryz.results16]
 repeat (first
  | ((first | with_reducible refine sops_go ?_ | with_reducible refine sops_end ?_ | with_reducible refine awp_ret ?_); simp only [go_sem, simprocAttr, hF, hk, h10, hj', hj])
  | with_reducible refine awp_seq_k fun _ _ => ?_
  | (with_reducible refine awp_region [] ?_)
  | go_step)
 all_goals (try rfl)

set_option maxHeartbeats 2000000 in
theorem rows_pok (r : List Int) (hr : r.length ≤ 1000000) : FnOK Tryz.prog 18 [.sl 1 (r.map fun x => [ip x]), .sl 1 (r.map fun x => [ip x])] ⟨bv true, none⟩ := by
 have hd := eqI_ok r r hr
 rw [decide_eq_true rfl] at hd
 refine fn_ok Tryz.func18 (by kernel_rfl) rfl (by rw [Tryz.ntmps18]; exact of_decide_eq_true rfl) (fun F hF => ?_)
 rw [Tryz.ntmps18] at hF
 rw [Tryz.results18]
 repeat (first
  | ((first | with_reducible refine sops_go ?_ | with_reducible refine sops_end ?_); simp only [go_sem, simprocAttr, hF])
  | with_reducible refine awp_seq_k fun _ _ => ?_
  | (with_reducible refine awp_region [] ?_)
  | go_step)
 refine ⟨_, hd, ?_⟩
 simp only [go_sem, simprocAttr, hF]
 repeat (first
  | ((first | with_reducible refine sops_go ?_ | with_reducible refine sops_end ?_ | with_reducible refine awp_ret ?_); simp only [go_sem, simprocAttr, hF])
  | go_step)
 all_goals (try rfl)

set_option maxHeartbeats 2000000 in
theorem eqfM_ok (l : List (List Int)) (hl : l.length ≤ 1000000) (hy : ∀ r ∈ l, r.length ≤ 1000000) : FnOK Tryz.prog 17 [.sl 1 (rsR l), .sl 1 (rsR l), .fnv 18 []] ⟨bv true, none⟩ := by
 refine fn_ok Tryz.func17 (by kernel_rfl) rfl (by rw [Tryz.ntmps17]; exact of_decide_eq_true rfl) (fun F hF => ?_)
 rw [Tryz.ntmps17] at hF
 rw [Tryz.results17]
 have hal : ((l.length : Int) != (l.length : Int)) = false := bne_self_eq_false _
 repeat (first
  | ((first | with_reducible refine sops_go ?_ | with_reducible refine sops_end ?_ | with_reducible refine awp_if ?_ | with_reducible refine awp_skip ?_); simp only [go_sem, simprocAttr, hF, hal])
  | with_reducible (first | refine awp_seq_k fun _ _ => ?_ | refine awp_region [] ?_ | refine awp_block ?_)
  | go_step)
 refine awp_loop_by (ι := {k : Nat // k ≤ l.length}) (fun k σ => ⟨(17, iv (k.1 : Int)) :: keepS [0, 1, 2, 15, 16] σ.slot, σ.box, [], σ.ext⟩) (fun k => l.length - k.1) ⟨0, by omega⟩ (sub_mk ?_) (fun R hR k => ?_)
 · simp only [go_sem, simprocAttr, hF]
   repeat' (first | rfl | refine ⟨?_, ?_⟩)
 obtain ⟨k, hk⟩ := k
 dsimp only
 simp only [go_sem, simprocAttr, hF]
 by_cases hlt : k < l.length
 case neg =>
  have hd : decide ((k : Int) < (l.length : Int)) = false := decide_eq_false (by omega)
  repeat (first
   | ((first | with_reducible refine sops_go ?_ | with_reducible refine sops_end ?_ | with_reducible refine awp_if ?_ | with_reducible refine awp_ret ?_ | with_reducible refine awp_exit ?_); simp only [go_sem, simprocAttr, hF, hd])
   | with_reducible refine awp_seq_k fun _ _ => ?_
   | (with_reducible refine awp_region [] ?_)
   | go_step)
  all_goals (try rfl)
 obtain ⟨d, hdk⟩ := get_of_lt hlt
 have hd : decide ((k : Int) < (l.length : Int)) = true := decide_eq_true (by omega)
 have hw : IntKind.i64.wrap ((k : Int) + 1) = ((k + 1 : Nat) : Int) := by rw [IntKind.wrap_i64]; omega
 have hsd := rows_pok d (hy d (List.mem_of_getElem? hdk))
 repeat (first
  | ((first | with_reducible refine sops_go ?_ | with_reducible refine sops_end ?_ | with_reducible refine awp_if ?_ | with_reducible refine awp_skip ?_); simp only [go_sem, simprocAttr, hF, hd, hdk])
  | with_reducible (first | refine awp_seq_k fun _ _ => ?_ | refine awp_region [] ?_ | refine awp_block ?_)
  | go_step)
 refine ⟨_, hsd, ?_⟩
 simp only [go_sem, simprocAttr, hF]
 repeat (first
  | ((first | with_reducible refine sops_go ?_ | with_reducible refine sops_end ?_ | with_reducible refine awp_if ?_ | with_reducible refine awp_skip ?_); simp only [go_sem, simprocAttr, hF, hd, hdk])
  | (with_reducible refine awp_region [] ?_)
  | go_step)
 refine ⟨⟨k + 1, by omega⟩, by dsimp only; omega, hR _ _ (sub_mk ?_)⟩
 simp only [go_sem, simprocAttr, hF, hw]
end Go.Proofs.YtcloigoajohppaaGreatDoor
namespace Go.Proofs.YtcloigoajohppaaGreatDoor
open Go.RowKit
open Av
open Sc
set_option maxRecDepth 100000
set_option linter.unusedSimpArgs false
set_option linter.unusedVariables false

theorem addRt_mem {r : List Int} : ∀ {l : List Rq} {q : Rq}, q ∈ addRt r l → q ∈ l ∨ ∃ z ∈ l, q = { z with rs := z.rs ++ [r] } ∧ z.rs = lastRs l
  | [], q, h => by cases h
  | [z], q, h => by
    rw [show addRt r [z] = [{ z with rs := z.rs ++ [r] }] from rfl] at h
    exact .inr ⟨z, List.mem_cons_self, List.mem_singleton.1 h, rfl⟩
  | z :: y :: t, q, h => by
    rw [show addRt r (z :: y :: t) = z :: addRt r (y :: t) from rfl] at h
    rcases List.mem_cons.1 h with rfl | h
    · exact .inl List.mem_cons_self
    · rcases addRt_mem h with h | ⟨u, h1, h2, h3⟩
      · exact .inl (List.mem_cons_of_mem _ h)
      · exact .inr ⟨u, List.mem_cons_of_mem _ h1, h2, h3⟩
theorem addRt_len {r : List Int} : ∀ l : List Rq, (addRt r l).length = l.length
  | [] => rfl
  | [z] => rfl
  | z :: y :: t => by
    show (addRt r (y :: t)).length + 1 = _
    rw [addRt_len (y :: t)]
    rfl
structure Bnd (x : Sn) : Prop where
  p : x.net.power.length ≤ 1024
  pr : ∀ r ∈ x.net.power, r.length ≤ 1024
  m : x.net.margin.length ≤ 1024
  l : x.net.links.length ≤ 1024
  b : x.before.length ≤ 1024
  a : x.after.length ≤ 1024
  bq : ∀ q ∈ x.before, q.rs.length ≤ 1024 ∧ ∀ r ∈ q.rs, r.length ≤ 1024
  aq : ∀ q ∈ x.after, q.rs.length ≤ 1024 ∧ ∀ r ∈ q.rs, r.length ≤ 1024
  ce : x.cells.length ≤ 1024
  ch : x.changes.length ≤ 1024
  w : x.weak.length ≤ 1024
  o : x.outs.length ≤ 1024
  lm : x.net.margin.length = x.net.links.length
theorem Bnd.sm {x : Sn} (h : Bnd x) : SmX x :=
  ⟨fun r hr => by have := h.pr r hr; omega, by have := h.p; omega, by have := h.m; omega, by have := h.l; omega, by have := h.b; omega, by have := h.a; omega,
    fun q hq => ⟨by have := (h.bq q hq).1; omega, fun r hr => by have := (h.bq q hq).2 r hr; omega⟩, fun q hq => ⟨by have := (h.aq q hq).1; omega, fun r hr => by have := (h.aq q hq).2 r hr; omega⟩,
    by have := h.ce; omega, by have := h.ch; omega, by have := h.w; omega, by have := h.o; omega⟩
theorem snoc_len {α : Type} {l : List α} (h : ¬ 1024 ≤ l.length) (x : α) : (l ++ [x]).length ≤ 1024 := by
  rw [List.length_append]
  simp only [List.length_cons, List.length_nil]
  omega
theorem snoc_rq {l : List Rq} (h : ∀ q ∈ l, q.rs.length ≤ 1024 ∧ ∀ r ∈ q.rs, r.length ≤ 1024) (f : Fw) : ∀ q ∈ l ++ [⟨f, []⟩], q.rs.length ≤ 1024 ∧ ∀ r ∈ q.rs, r.length ≤ 1024 := fun q hq => by
  rcases List.mem_append.1 hq with hq | hq
  · exact h q hq
  · rw [List.mem_singleton.1 hq]
    exact ⟨Nat.zero_le _, fun r hr => by cases hr⟩
theorem rt_rq {l : List Rq} {r : List Int} (h : ∀ q ∈ l, q.rs.length ≤ 1024 ∧ ∀ r ∈ q.rs, r.length ≤ 1024) (hr : ¬ (1024 < r.length ∨ 1024 ≤ (lastRs l).length)) : ∀ q ∈ addRt r l, q.rs.length ≤ 1024 ∧ ∀ r ∈ q.rs, r.length ≤ 1024 := fun q hq => by
  rcases addRt_mem hq with hq | ⟨z, h1, rfl, h3⟩
  · exact h q hq
  · refine ⟨?_, fun s hs => ?_⟩
    · show (z.rs ++ [r]).length ≤ 1024
      rw [h3]
      exact snoc_len (fun h => hr (.inr h)) r
    · rcases List.mem_append.1 hs with hs | hs
      · exact (h z h1).2 s hs
      · rw [List.mem_singleton.1 hs]
        omega
theorem readP_bnd (k : Kd) (p : Ps) (l : List Int) (h : Bnd p.R.x) : Bnd (readP k p l).1.R.x := by
  cases k
  all_goals (rcases l with _ | ⟨a0, _ | ⟨a1, _ | ⟨a2, _ | ⟨a3, _ | ⟨a4, _ | ⟨a5, _ | ⟨a6, l⟩⟩⟩⟩⟩⟩⟩)
  all_goals first | exact h | (simp only [readP]; first | exact { h with } | (split <;> first | exact h | (rename_i hh; first
    | exact { h with p := (by show (List.replicate a0.toNat (List.replicate a0.toNat (0 : Int))).length ≤ 1024; rw [List.length_replicate]; omega), pr := (fun r hr => by rw [List.eq_of_mem_replicate hr, List.length_replicate]; omega) }
    | exact { h with p := (by show (List.set _ _ _).length ≤ 1024; rw [List.length_set]; exact h.p), pr := (fun r hr => by
        rcases List.mem_or_eq_of_mem_set hr with hr | rfl
        · exact h.pr r hr
        · rw [List.length_set, List.getD_eq_getElem?_getD]
          cases hq : p.R.x.net.power[a0.toNat]? with
          | none => exact Nat.zero_le _
          | some z => exact h.pr z (List.mem_of_getElem? hq)) }
    | exact { h with l := snoc_len hh _, m := (by show (p.R.x.net.margin ++ [a3]).length ≤ 1024; exact snoc_len (by rw [h.lm]; exact hh) _), lm := (by show (p.R.x.net.margin ++ [a3]).length = (p.R.x.net.links ++ [(⟨a0, a1, a2⟩ : Lk)]).length; rw [List.length_append, List.length_append, h.lm]; rfl) }
    | exact { h with b := snoc_len hh _, bq := snoc_rq h.bq _ }
    | exact { h with a := snoc_len hh _, aq := snoc_rq h.aq _ }
    | exact { h with ce := snoc_len hh _ }
    | exact { h with ch := snoc_len hh _ }
    | exact { h with w := snoc_len hh _ }
    | exact { h with o := snoc_len hh _ })))
theorem stepP_bnd (p : Ps) (o : Option Ln) (h : Bnd p.R.x) : Bnd (stepP p o).1.R.x := by
  cases o with
  | none => exact h
  | some x =>
    obtain ⟨w, l⟩ := x
    unfold stepP
    simp only
    split
    · unfold routeP
      split
      · exact h
      · split
        · exact h
        · rename_i hh
          exact { h with b := (by show (addRt l p.R.x.before).length ≤ 1024; rw [addRt_len]; exact h.b), bq := rt_rq h.bq hh }
      · split
        · exact h
        · rename_i hh
          exact { h with a := (by show (addRt l p.R.x.after).length ≤ 1024; rw [addRt_len]; exact h.a), aq := rt_rq h.aq hh }
    · split
      · exact h
      · split
        · exact h
        · split
          · exact h
          · exact readP_bnd _ _ _ h
theorem fold_bnd : ∀ (ps : List ByteArray) (k : Nat) (p : Ps), Bnd p.R.x → Bnd (foldP k p ps).1.R.x
  | [], _, _, h => h
  | s :: ps, k, p, h => by
    rw [foldP_cons]
    split
    · exact fold_bnd ps (k + 1) p h
    · split
      · exact fold_bnd ps (k + 1) _ (stepP_bnd p _ h)
      · exact h
theorem bndZ : Bnd snZ := ⟨Nat.zero_le _, (fun r h => by cases h), Nat.zero_le _, Nat.zero_le _, Nat.zero_le _, Nat.zero_le _, (fun r h => by cases h), (fun r h => by cases h), Nat.zero_le _, Nat.zero_le _, Nat.zero_le _, Nat.zero_le _, rfl⟩
theorem parse_bnd (T : ByteArray) : Bnd (parseP T).1 := by
  unfold parseP
  split
  · exact bndZ
  · simp only
    split
    · exact bndZ
    · split
      · exact fold_bnd _ _ _ bndZ
      · exact bndZ
end Go.Proofs.YtcloigoajohppaaGreatDoor
namespace Go.Proofs.YtcloigoajohppaaGreatDoor
open Go.RowKit
open Av
open Sc
set_option maxRecDepth 100000
set_option linter.unusedSimpArgs false
attribute [local go_sem] Av.guardB Av.sop Av.hopx Av.hop Av.hopCall Av.hopF Av.hopB Av.evo Av.evos Av.avCells Av.loadK Av.bound Av.abin Av.aun Av.partsC Av.lfill Av.placesB Av.setAt Av.stl Av.takes Av.src Av.bxOf Av.ownOf Av.St.res Av.St.put Av.St.addBox Av.St.putOwn Av.delL Av.delS Av.look Av.lookL Av.storeSt Av.stealSt Av.St.setBox Av.keepL Av.hitB Av.snap Av.snaps Av.snapCaps Av.AV.lit Av.AV.refs Av.capRefs Av.PV.av Av.CV.av Av.startSt Av.steals Av.athen Av.ablock Av.appK Av.AllS Av.AllO Av.AllR Av.keepS Av.St.avAt Av.RetOK Av.retAll Av.retOne Av.intsOf Av.ptrB TypeDesc.isRow List.range_zero Option.some.injEq exists_eq_left' exists_eq_left exists_eq' exists_and_left exists_and_right exists_const true_and and_true and_self false_and and_false or_false false_or or_true true_or if_true if_false Bool.false_eq_true List.zipIdx_cons List.zipIdx_nil List.map_cons List.map_nil List.filter_cons List.filter_nil List.contains_cons List.contains_nil List.drop_succ_cons List.drop_zero List.take_succ_cons List.take_zero List.take_nil List.drop_nil List.length_cons List.length_nil List.cons_append List.nil_append List.append_nil List.getElem?_cons_zero List.getElem?_cons_succ List.getElem?_nil Option.bind_some Option.bind_none Option.map_some Option.map_none Option.isNone_none Option.isNone_some Option.isSome_some Option.isSome_none Bool.and_true Bool.true_and Bool.and_false Bool.false_and Bool.or_false Bool.false_or Bool.not_true Bool.not_false beq_true beq_false Bool.true_beq Bool.false_beq Loc.s.injEq Loc.b.injEq decide_true decide_false beq_self_eq_true Nat.zero_add Nat.add_zero List.getElem?_toArray List.toList_toArray List.size_toArray Value.oneCell' List.all_cons List.all_nil Value.int.injEq AV.v.injEq AV.sl.injEq AV.agg.injEq AV.ref.injEq AV.ept.injEq AV.tup.injEq Value.bool.injEq PV.v.injEq PV.sl.injEq List.isEmpty_nil List.isEmpty_cons forall_const not_true_eq_false not_false_eq_true true_implies false_implies Value.string.injEq List.length_map List.getElem?_map Int.toNat_natCast Int.natCast_nonneg List.length_append Value.cells implies_true TypeDesc.struct.injEq TypeDesc.slice.injEq TypeDesc.array.injEq List.getElem?_toArray Prod.mk.injEq and_assoc exists_false List.cons.injEq Operand.tmp.injEq ite_self AV.fnv.injEq AV.clo.injEq ne_eq eq_self Tryz.sz3 Tryz.zr3 Tryz.by3 Tryz.pl3 Tryz.is3 Tryz.underlying3 Tryz.sz4 Tryz.zr4 Tryz.by4 Tryz.pl4 Tryz.is4 Tryz.underlying4 Tryz.sz9 Tryz.zr9 Tryz.by9 Tryz.pl9 Tryz.is9 Tryz.underlying9 Tryz.sz5 Tryz.zr5 Tryz.by5 Tryz.pl5 Tryz.is5 Tryz.underlying5 Tryz.sz56 Tryz.zr56 Tryz.by56 Tryz.pl56 Tryz.is56 Tryz.underlying56 Tryz.sz24 Tryz.zr24 Tryz.by24 Tryz.pl24 Tryz.is24 Tryz.underlying24 Tryz.sz26 Tryz.zr26 Tryz.by26 Tryz.pl26 Tryz.is26 Tryz.underlying26 Tryz.sz30 Tryz.zr30 Tryz.by30 Tryz.pl30 Tryz.is30 Tryz.underlying30 Tryz.sz35 Tryz.zr35 Tryz.by35 Tryz.pl35 Tryz.is35 Tryz.underlying35 Tryz.sz22 Tryz.zr22 Tryz.by22 Tryz.pl22 Tryz.is22 Tryz.underlying22 Tryz.sz46 Tryz.zr46 Tryz.by46 Tryz.pl46 Tryz.is46 Tryz.underlying46 Tryz.sz38 Tryz.zr38 Tryz.by38 Tryz.pl38 Tryz.is38 Tryz.underlying38 all_arr loc_ss loc_sb loc_bs loc_bb arr_two arr_one rg1 rg2 rg3 rg4 rg5 rg6 rg7 rg8 ResultVar.tmp.injEq Bool.not_true Bool.not_false undef Fn.func.injEq Av.extSt Av.RetX List.zipIdx List.getD_cons_zero List.getD_cons_succ Av.startStC Tryz.sz48 Tryz.zr48 Tryz.by48 Tryz.pl48 Tryz.is48 Tryz.underlying48 Tryz.sz45 Tryz.zr45 Tryz.by45 Tryz.pl45 Tryz.is45 Tryz.underlying45 Tryz.sz47 Tryz.zr47 Tryz.by47 Tryz.pl47 Tryz.is47 Tryz.underlying47 Tryz.sz50 Tryz.zr50 Tryz.by50 Tryz.pl50 Tryz.is50 Tryz.underlying50 Tryz.underlying5 Sc.Fw.pv Sc.Rq.pv Sc.Ce.pv Sc.Ch.pv Sc.Wk.pv Sc.Og.pv Sc.Lk.pv Sc.Nt.pv Sc.Sn.pv Sc.rsR

theorem flat_onW {α : Type} (n : Nat) (a : α) : (List.replicate n [a]).flatten = List.replicate n a := by
 induction n with
 | zero => rfl
 | succ n ih => rw [List.replicate_succ, List.replicate_succ, List.flatten_cons, ih]; rfl
theorem raw_new (e : TypeId) (n g : Nat) (V z : Value) : rowsE e 1 (some g) V (List.replicate n z) (List.replicate n [.v z]) = rawR e 1 (some g) V (List.replicate n [z]) := by
 unfold rawR
 rw [flat_onW, List.map_replicate]
 rfl
theorem pz_new (n g : Nat) (V : Value) : rowsE 3 1 (some g) V (List.replicate n (.int .i64 0)) (List.replicate n [.v (.int .i64 0)]) = Pz.ext ⟨List.replicate n 0, g, V⟩ := by
 rw [raw_new]
 unfold Pz.ext
 rw [List.map_replicate]
def hdrW (n : Nat) (ps : List Pz) : List (List Value) := (ps.reverse.map fun z => [z.V]) ++ List.replicate (n - ps.length) [.slice none 0 0]
theorem hdrW_len {n : Nat} {ps : List Pz} (h : ps.length ≤ n) : (hdrW n ps).length = n := by
 unfold hdrW
 rw [List.length_append, List.length_map, List.length_reverse, List.length_replicate]
 omega
theorem hdrW_one {n : Nat} {ps : List Pz} : ∀ r ∈ hdrW n ps, r.length = 1 := fun r hr => by
 rcases List.mem_append.1 hr with hr | hr
 · obtain ⟨z, _, rfl⟩ := List.mem_map.1 hr; rfl
 · rw [List.eq_of_mem_replicate hr]; rfl
theorem hdrW_get {n : Nat} {ps : List Pz} (h : ps.length < n) : (hdrW n ps)[ps.length]? = some [.slice none 0 0] := by
 unfold hdrW
 rw [List.getElem?_append_right (by rw [List.length_map, List.length_reverse]; exact Nat.le_refl _), List.length_map, List.length_reverse, Nat.sub_self, List.getElem?_replicate, if_pos (by omega)]
theorem hdrW_set {n : Nat} {ps : List Pz} (h : ps.length < n) (z : Pz) : (hdrW n ps).set ps.length [z.V] = hdrW n (z :: ps) := by
 unfold hdrW
 rw [List.set_append_right _ _ (by rw [List.length_map, List.length_reverse]; exact Nat.le_refl _), List.length_map, List.length_reverse, Nat.sub_self, List.reverse_cons, List.map_append, List.length_cons, List.append_assoc]
 obtain ⟨m, hm⟩ : ∃ m, n - ps.length = m + 1 := ⟨n - ps.length - 1, by omega⟩
 rw [hm, show n - (ps.length + 1) = m by omega, List.replicate_succ]
 rfl
theorem hdrW_full {n : Nat} {ps : List Pz} (h : ps.length = n) : hdrW n ps = ps.reverse.map fun z => [z.V] := by
 unfold hdrW
 rw [h, Nat.sub_self]
 simp
theorem tab_set {g a : Nat} {V : Value} {pz : List Pz} {z : Pz} (ha : pz[a]? = some z) (row : List Int) : (tabX g V pz).set (a + 1) (rawR 3 1 (some z.g) z.V (row.map fun n => [.int .i64 n])) = tabX g V (pz.set a { z with row := row }) := by
 have e1 : (pz.set a { z with row := row }).map (fun z => [z.V]) = pz.map fun z => [z.V] := by
  rw [List.map_set]
  refine List.ext_getElem? fun i => ?_
  rw [List.getElem?_set]
  by_cases hi : a = i
  · subst hi
    rw [if_pos rfl, if_pos (by rw [List.length_map]; exact (List.getElem?_eq_some_iff.1 ha).1), List.getElem?_map, ha]
    rfl
  · rw [if_neg hi]
 unfold tabX
 rw [e1, List.map_set]
 rfl
theorem set_row {pz : List Pz} {M : List (List Int)} {a b n : Nat} {z : Pz} {c : Int} {d : Int × Int × Int} (hM : pz.map (·.row) = M) (ha : pz[a]? = some z) (h1 : d.1 % n = (a : Int)) (h2 : d.2.1 % n = (b : Int)) (h3 : d.2.2 % 10 = c) : (pz.set a { z with row := z.row.set b c }).map (·.row) = setM n M d := by
 have hz : M.getD a [] = z.row := by rw [← hM, List.getD_eq_getElem?_getD, List.getElem?_map, ha]; rfl
 unfold setM
 rw [h1, h2, h3, Int.toNat_natCast, Int.toNat_natCast, hz, List.map_set, hM]
set_option maxHeartbeats 4000000 in
theorem lawPowers_ok (nd : Int) (hnd : 0 ≤ nd ∧ nd < 256) (ls : List (Int × Int × Int)) (hu : ∀ d ∈ ls, (0 ≤ d.1 ∧ d.1 < 256) ∧ (0 ≤ d.2.1 ∧ d.2.1 < 256) ∧ 0 ≤ d.2.2 ∧ d.2.2 < 256) : FnOKC Tryz.prog LC 6 [.v (.int .u8 nd), .sl 3 (ls.map fun d => [PV.v (.int .u8 d.1), PV.v (.int .u8 d.2.1), PV.v (.int .u8 d.2.2)])] ⟨bv true, none⟩ := by
 refine fn_okC (C := LC) Tryz.func6 (by kernel_rfl) rfl (by rw [Tryz.ntmps6]; exact of_decide_eq_true rfl) (fun F hF => ?_)
 rw [Tryz.ntmps6] at hF
 rw [Tryz.results6]
 repeat (first
  | ((refine hand_fnC (C := LC) LC.below rfl rfl (by decide) rfl rfl rfl awake_ok rfl ?_); simp only [go_sem, simprocAttr, hF])
  | ((first | with_reducible refine sops_go ?_ | with_reducible refine sops_end ?_ | with_reducible refine awp_if ?_); simp only [go_sem, simprocAttr, hF])
  | with_reducible refine awp_seq_k fun _ _ => ?_
  | (with_reducible refine awp_region (id := 0) [1000017, 1000024, 1000030, 1000032, 1000039, 1000040, 1000084, 1000085, 1000091, 1000096] ?_)
  | (with_reducible refine awp_region (id := 1) [1000017, 1000024, 1000030, 1000032, 1000039, 1000040, 1000084, 1000085, 1000091, 1000096] ?_)
  | go_step)
 by_cases hT : 12 < ls.length
 case pos =>
  have h1 : decide ((ls.length : Int) > 12) = true := decide_eq_true (by omega)
  try simp only [go_sem, simprocAttr, hF, h1]
  repeat (first
   | ((refine hand_fnC (C := LC) LC.below rfl rfl (by decide) rfl rfl rfl awake_ok rfl ?_); simp only [go_sem, simprocAttr, hF])
   | ((first | with_reducible refine sops_go ?_ | with_reducible refine sops_end ?_ | with_reducible refine awp_ret ?_); simp only [go_sem, simprocAttr, hF, h1])
   | with_reducible refine awp_seq_k fun _ _ => ?_
   | (with_reducible refine awp_region (id := 2) [1000017, 1000024, 1000030, 1000032, 1000039, 1000040, 1000084, 1000085, 1000091, 1000096] ?_)
   | go_step)
  all_goals (try rfl)
 have h1 : decide ((ls.length : Int) > 12) = false := decide_eq_false (by omega)
 obtain ⟨n, hn⟩ : ∃ n : Nat, IntKind.i64.wrap (1 + IntKind.i64.wrap (nd.tmod 5)) = (n : Int) ∧ 1 ≤ n ∧ n ≤ 5 := by
  rw [Int.tmod_eq_emod_of_nonneg hnd.1, IntKind.wrap_i64, IntKind.wrap_i64]
  exact ⟨(1 + nd % 5).toNat, by omega, by omega, by omega⟩
 obtain ⟨hw0, hn1, hn5⟩ := hn
 try simp only [go_sem, simprocAttr, hF, h1]
 repeat (first
  | ((refine hand_eqE (E' := (laidE LC).and (exts [])) (EqE.symm (EqE.nil_right _)) ?_; refine hand_makeInts (l := []) (E := laidE LC) (e := 24) (z := .slice none 0 0) rfl rfl (by decide) Tryz.underlying22 rfl rfl rfl rfl (by decide) rfl rfl rfl (by omega) (fun g cap => ?_)); simp only [go_sem, simprocAttr, hF])
  | ((first | with_reducible refine sops_go ?_ | with_reducible refine sops_end ?_ | with_reducible refine awp_skip ?_); simp only [go_sem, simprocAttr, hF, h1, hw0])
  | with_reducible refine awp_seq_k fun _ _ => ?_
  | (with_reducible refine awp_region (id := 3) [1000017, 1000024, 1000030, 1000032, 1000039, 1000040, 1000084, 1000085, 1000091, 1000096] ?_)
  | (with_reducible refine awp_region (id := 4) [1000017, 1000024, 1000030, 1000032, 1000039, 1000040, 1000084, 1000085, 1000091, 1000096] ?_)
  | (with_reducible refine awp_region (id := 5) [1000017, 1000024, 1000030, 1000032, 1000039, 1000040, 1000084, 1000085, 1000091, 1000096] ?_)
  | go_step)
 rw [raw_new]
 have eW0 : List.replicate n [Value.slice none 0 0] = hdrW n [] := rfl
 rw [eW0]
 generalize hV : Value.slice (some ⟨g, 0, none⟩) n cap = V
 clear hV
 have hrl0 : (hdrW n []).length = n := hdrW_len (Nat.zero_le _)
 repeat (first
  | ((refine hand_vLen (i := 0) rfl rfl (by decide) Tryz.underlying22 rfl rfl rfl ?_); simp only [go_sem, simprocAttr, hF, hrl0])
  | ((first | with_reducible refine sops_go ?_ | with_reducible refine sops_end ?_); simp only [go_sem, simprocAttr, hF, hrl0])
  | (with_reducible refine awp_block ?_)
  | go_step)
 refine awp_loop_by (ι := {kp : Nat × List Pz // kp.2.length = kp.1 ∧ kp.1 ≤ n ∧ ∀ z ∈ kp.2, z.row = List.replicate n 0}) (fun kp σ => ⟨(33, iv (kp.1.1 : Int)) :: (6, .v V) :: keepS [0, 1, 4, 5, 32] σ.slot, [], [], (laidE LC).and (exts (rawR 24 1 (some g) V (hdrW n kp.1.2) :: kp.1.2.map Pz.ext))⟩) (fun kp => n - kp.1.1) ⟨(0, []), rfl, Nat.zero_le _, fun z hz => by cases hz⟩ (sub_mk ?_) (fun R hR kp => ?_)
 · simp only [go_sem, simprocAttr, hF]
   repeat' (first | rfl | refine ⟨?_, ?_⟩)
 obtain ⟨⟨k, ps⟩, hkl, hkn, hrows⟩ := kp
 dsimp only at hkl hkn hrows ⊢
 simp only [go_sem, simprocAttr, hF]
 have hwk : IntKind.i64.wrap ((k : Int) + 1) = ((k + 1 : Nat) : Int) := by rw [IntKind.wrap_i64]; omega
 by_cases hlt : k < n
 case pos =>
  have hd : decide ((k : Int) < (n : Int)) = true := decide_eq_true (by omega)
  have hkr : k < (hdrW n ps).length := by rw [hdrW_len (by omega)]; exact hlt
  have hrow : (hdrW n ps)[k]? = some [.slice none 0 0] := by rw [← hkl]; exact hdrW_get (by omega)
  repeat (first
   | ((with_reducible refine sopsJ_go ?_); simp only [go_sem, simprocAttr, hF, hd, Av.sopJ])
   | ((with_reducible refine sopsJ_end ?_); simp only [go_sem, simprocAttr, hF, hd, Av.sopJ])
   | ((refine awp_regionJ (id := 8) [1000017, 1000024, 1000030, 1000032, 1000039, 1000040, 1000084, 1000085, 1000091, 1000096] ?_); simp only [go_sem, simprocAttr, hF, hd, Av.sopJ])
   | ((refine hand_makeInts (l := rawR 24 1 (some g) V (hdrW n ps) :: ps.map Pz.ext) (E := laidE LC) (e := 3) (z := .int .i64 0) rfl rfl (by decide) Tryz.underlying24 rfl rfl rfl rfl (by decide) rfl rfl rfl (by omega) (fun g2 cap2 => ?_)); simp only [go_sem, simprocAttr, hF, Av.sopJ])
   | ((refine hand_eqE (E' := (laidE LC).and (exts (rawR 24 1 (some g) V (hdrW n ps) :: (⟨List.replicate n 0, g2, .slice (some ⟨g2, 0, none⟩) n cap2⟩ :: ps : List Pz).map Pz.ext))) (by rw [pz_new]; exact EqE.congr (EqE.refl _) (EqE.perm (List.Perm.swap _ _ _))) ?_; refine hand_vIndex (i := 0) (j := k) rfl rfl (by decide) rfl rfl rfl rfl hkr Tryz.underlying22 Tryz.sz24 ?_); simp only [go_sem, simprocAttr, hF, Av.sopJ])
   | ((refine hand_vStore (i := 0) (k := k) (c := 0) (sz := 1) rfl rfl rfl rfl hdrW_one hrow (by decide) rfl rfl rfl rfl Tryz.sz24 ?_); simp only [go_sem, simprocAttr, hF, Av.sopJ])
   | ((first | with_reducible refine sops_go ?_ | with_reducible refine sops_end ?_ | with_reducible refine awp_if ?_ | with_reducible refine awp_skip ?_); simp only [go_sem, simprocAttr, hF, hd])
   | with_reducible refine awp_seq_k fun _ _ => ?_
   | (with_reducible refine awp_region (id := 6) [1000017, 1000024, 1000030, 1000032, 1000039, 1000040, 1000084, 1000085, 1000091, 1000096] ?_)
   | (with_reducible refine awp_region (id := 7) [1000017, 1000024, 1000030, 1000032, 1000039, 1000040, 1000084, 1000085, 1000091, 1000096] ?_)
   | (with_reducible refine awp_region (id := 9) [1000017, 1000024, 1000030, 1000032, 1000039, 1000040, 1000084, 1000085, 1000091, 1000096] ?_)
   | (with_reducible refine awp_block ?_)
   | go_step)
  refine ⟨⟨(k + 1, ⟨List.replicate n 0, g2, .slice (some ⟨g2, 0, none⟩) n cap2⟩ :: ps), by dsimp only [List.length_cons]; omega, hlt, fun z hz => (by rcases List.mem_cons.1 hz with rfl | hz; rfl; exact hrows z hz)⟩, by dsimp only; omega, hR _ _ (sub_mk ?_)⟩
  simp only [go_sem, simprocAttr, hF, hwk]
  have hset := hdrW_set (n := n) (ps := ps) (by omega) ⟨List.replicate n 0, g2, .slice (some ⟨g2, 0, none⟩) n cap2⟩
  rw [hkl] at hset
  rw [← hset]
  rfl
 have hd : decide ((k : Int) < (n : Int)) = false := decide_eq_false (by omega)
 have hkn' : k = n := by omega
 have hpl : ps.length = n := by omega
 refine awp_eqE (E' := (laidE LC).and (exts (tabX g V ps.reverse))) (by unfold tabX; rw [hdrW_full hpl]; exact EqE.congr (EqE.refl _) (EqE.perm (List.Perm.cons _ ((List.reverse_perm ps).symm.map _)))) ?_
 have hz0 : ps.reverse.map (·.row) = zeroM n := by
  unfold zeroM
  rw [← hpl]
  refine List.ext_getElem? fun i => ?_
  rw [List.getElem?_map, List.getElem?_replicate]
  by_cases hi : i < ps.length
  · obtain ⟨z, hz⟩ := get_of_lt (l := ps.reverse) (k := i) (by rw [List.length_reverse]; exact hi)
    rw [hz, if_pos hi, hpl]
    show some z.row = _
    rw [hrows z (List.mem_reverse.1 (List.mem_of_getElem? hz))]
  · rw [List.getElem?_eq_none (by rw [List.length_reverse]; omega), if_neg hi]
    rfl
 have hpr : ps.reverse.length = n := by rw [List.length_reverse]; exact hpl
 have hnum := number_pok (n : Int) n (by rw [Int.tmod_eq_emod_of_nonneg (by omega)]; omega) (by omega)
 have hfst := pw_first (n := n) hn5
 generalize hT0 : (⟨#[110, 101, 116, 119, 111, 114, 107, 32]⟩ ++ numS n ++ ⟨#[32, 49, 32, 49, 48, 48, 48, 10]⟩ : ByteArray) = T0 at hfst
 repeat (first
  | ((refine ⟨_, hnum, ?_⟩); simp only [go_sem, simprocAttr, hF, hT0, numS_size, ByteArray.size_append])
  | ((first | with_reducible refine sops_go ?_ | with_reducible refine sops_end ?_ | with_reducible refine awp_if ?_ | with_reducible refine awp_exit ?_); simp only [go_sem, simprocAttr, hF, hd, hT0, numS_size, ByteArray.size_append])
  | with_reducible refine awp_seq_k fun _ _ => ?_
  | (with_reducible refine awp_region (id := 6) [1000017, 1000024, 1000030, 1000032, 1000039, 1000040, 1000084, 1000085, 1000091, 1000096] ?_)
  | (with_reducible refine awp_region (id := 10) [1000017, 1000024, 1000030, 1000032, 1000039, 1000040, 1000084, 1000085, 1000091, 1000096] ?_)
  | (with_reducible refine awp_region (id := 11) [1000017, 1000024, 1000030, 1000032, 1000039, 1000040, 1000084, 1000085, 1000091, 1000096] ?_)
  | (with_reducible refine awp_region (id := 12) [1000017, 1000024, 1000030, 1000032, 1000039, 1000040, 1000084, 1000085, 1000091, 1000096] ?_)
  | (with_reducible refine awp_block ?_)
  | go_step)
 have hrs0 := hz0
 refine awp_loop_by (ι := {kp : Nat × List Pz // kp.1 ≤ ls.length ∧ kp.2.length = n ∧ (∀ z ∈ kp.2, z.row.length = n) ∧ kp.2.map (·.row) = (ls.take kp.1).foldl (setM n) (zeroM n)}) (fun kp σ => ⟨(49, iv (kp.1.1 : Int)) :: (9, .v (.string (mkB (txt (pwLines n (ls.take kp.1.1)))))) :: (6, .v V) :: keepS [0, 1, 4, 5, 8, 47, 48] σ.slot, [], [], (laidE LC).and (exts (tabX g V kp.1.2))⟩) (fun kp => ls.length - kp.1.1) ⟨(0, ps.reverse), Nat.zero_le _, hpr, (fun z hz => by rw [hrows z (List.mem_reverse.1 hz), List.length_replicate]), hz0⟩ (sub_mk ?_) (fun R2 hR2 kp => ?_)
 · simp only [go_sem, simprocAttr, hF]
   all_goals (first | rfl | (repeat' (first | rfl | refine ⟨?_, ?_⟩ | exact hfst)))
 obtain ⟨⟨m, pz⟩, hm, hpn, hpL, hpM⟩ := kp
 dsimp only at hm hpn hpL hpM ⊢
 simp only [go_sem, simprocAttr, hF]
 have hwm : IntKind.i64.wrap ((m : Int) + 1) = ((m + 1 : Nat) : Int) := by rw [IntKind.wrap_i64]; omega
 have hTl := pw_size hn1 hn5 (ls.take m)
 have hTm : (ls.take m).length ≤ 12 := by rw [List.length_take]; omega
 by_cases hlm : m < ls.length
 case neg =>
  have hd2 : decide ((m : Int) < (ls.length : Int)) = false := decide_eq_false (by omega)
  rw [List.take_of_length_le (by omega)] at hTl hpM hTm ⊢
  have hsz3 : (txt (pwLines n ls ++ pwEnd)).length ≤ 65536 := by
   rw [txt_append, List.length_append, show (txt pwEnd).length = 21 by kernel_rfl]
   omega
  obtain ⟨x, hx1, hx2⟩ := pw_parse hn1 hn5 ls hsz3
  have hpa := parse_okC (mkB (txt (pwLines n ls ++ pwEnd)))
  rw [hx1, ← pw_last] at hpa
  refine awp_free (t := 6) (sz := 1) (rows := rsR x.net.power) rfl (by rw [hF]; decide) rfl (fun Rr w h hr hRr => by rw [hx2, ← hpM]; exact rep_tab h hr hRr) ?_
  have hlen2 : ∀ r ∈ x.net.power, r.length ≤ 1000000 := fun r hr => by
   have hb := (parse_bnd (mkB (txt (pwLines n ls ++ pwEnd)))).pr r (by rw [hx1]; exact hr)
   omega
  have hlen3 : x.net.power.length ≤ 1000000 := by
   have hb := (parse_bnd (mkB (txt (pwLines n ls ++ pwEnd)))).p
   rw [hx1] at hb
   have hb' : x.net.power.length ≤ 1024 := hb
   omega
  have heq := eqfM_ok x.net.power hlen3 hlen2
  have hTz : ((mkB (txt (pwLines n ls))).size + 21 ≤ 9223372036854775807) = True := eq_true (by rw [mkB_size]; omega)
  generalize mkB (txt (pwLines n ls)) = T at hpa hTz
  unfold Sn.pv at hpa
  unfold rsR at heq
  simp only [go_sem, simprocAttr, hF]
  repeat (first
   | ((first | refine hand_fnC (C := LC) LC.below rfl rfl (by decide) rfl rfl rfl hpa rfl ?_ | refine ⟨_, heq, ?_⟩); simp only [go_sem, simprocAttr, hF, hd2, hTz, numS_size, ByteArray.size_append])
   | ((first | with_reducible refine sops_go ?_ | with_reducible refine sops_end ?_ | with_reducible refine awp_if ?_ | with_reducible refine awp_ret ?_ | with_reducible refine awp_exit ?_); simp only [go_sem, simprocAttr, hF, hd2, hTz, numS_size, ByteArray.size_append])
   | with_reducible refine awp_seq_k fun _ _ => ?_
   | (with_reducible refine awp_region (id := 13) [1000017, 1000024, 1000030, 1000032, 1000039, 1000040, 1000084, 1000085, 1000091, 1000096] ?_)
   | (with_reducible refine awp_region (id := 19) [1000017, 1000024, 1000030, 1000032, 1000039, 1000040, 1000084, 1000085, 1000091, 1000096] ?_)
   | (with_reducible refine awp_region (id := 20) [1000017, 1000024, 1000030, 1000032, 1000039, 1000040, 1000084, 1000085, 1000091, 1000096] ?_)
   | go_step)
  all_goals (try rfl)
 obtain ⟨d, hdk⟩ := get_of_lt hlm
 have hd2 : decide ((m : Int) < (ls.length : Int)) = true := decide_eq_true (by omega)
 obtain ⟨hu1, hu2, hu3⟩ := hu d (List.mem_of_getElem? hdk)
 have hw1 : IntKind.i64.wrap d.1 = d.1 := by rw [IntKind.wrap_i64]; omega
 have hw2 : IntKind.i64.wrap d.2.1 = d.2.1 := by rw [IntKind.wrap_i64]; omega
 have hw3 : IntKind.i64.wrap d.2.2 = d.2.2 := by rw [IntKind.wrap_i64]; omega
 have hz : ((n : Int) = 0) = False := eq_false (by omega)
 have h0 := Int.emod_nonneg d.1 (show (n : Int) ≠ 0 by omega)
 have h1' := Int.emod_nonneg d.2.1 (show (n : Int) ≠ 0 by omega)
 have g0 := Int.emod_lt_of_pos d.1 (show (0 : Int) < n by omega)
 have g1 := Int.emod_lt_of_pos d.2.1 (show (0 : Int) < n by omega)
 obtain ⟨a, ha⟩ : ∃ a : Nat, d.1 % (n : Int) = (a : Int) := ⟨(d.1 % (n : Int)).toNat, by omega⟩
 obtain ⟨b, hb⟩ : ∃ b : Nat, d.2.1 % (n : Int) = (b : Int) := ⟨(d.2.1 % (n : Int)).toNat, by omega⟩
 obtain ⟨c, hc⟩ : ∃ c : Nat, d.2.2 % 10 = (c : Int) := ⟨(d.2.2 % 10).toNat, by omega⟩
 have hc10 : c < 10 := by omega
 have ha' : d.1.tmod (n : Int) = (a : Int) := by rw [Int.tmod_eq_emod_of_nonneg (by omega)]; exact ha
 have hb' : d.2.1.tmod (n : Int) = (b : Int) := by rw [Int.tmod_eq_emod_of_nonneg (by omega)]; exact hb
 have hc' : d.2.2.tmod 10 = (c : Int) := by rw [Int.tmod_eq_emod_of_nonneg (by omega)]; exact hc
 have hna := number_pok (a : Int) a (by rw [Int.tmod_eq_emod_of_nonneg (by omega)]; omega) (by omega)
 have hnb := number_pok (b : Int) b (by rw [Int.tmod_eq_emod_of_nonneg (by omega)]; omega) (by omega)
 have hnc := number_pok d.2.2 c hc' hc10
 obtain ⟨z, hza⟩ := get_of_lt (l := pz) (k := a) (by omega)
 have hzn := hpL z (List.mem_of_getElem? hza)
 have hbz : b < z.row.length := by omega
 have honeW : ∀ r ∈ pz.map (fun z => [z.V]), r.length = 1 := fun r hr => by obtain ⟨y, _, rfl⟩ := List.mem_map.1 hr; rfl
 have hrowW : (pz.map fun z => [z.V])[a]? = some [z.V] := by rw [List.getElem?_map, hza]; rfl
 have halW : a < (pz.map fun z => [z.V]).length := by rw [List.length_map]; omega
 have hzl : (tabX g V pz)[a + 1]? = some (rawR 3 1 (some z.g) z.V (z.row.map fun n => [.int .i64 n])) := by
  show (pz.map Pz.ext)[a]? = _
  rw [List.getElem?_map, hza]
  rfl
 have honeZ : ∀ r ∈ z.row.map fun n => [Value.int .i64 n], r.length = 1 := fun r hr => by obtain ⟨y, _, rfl⟩ := List.mem_map.1 hr; rfl
 have hblZ : b < (z.row.map fun n => [Value.int .i64 n]).length := by rw [List.length_map]; exact hbz
 have hrowZ : (z.row.map fun n => [Value.int .i64 n])[b]? = some [.int .i64 z.row[b]] := by rw [List.getElem?_map, List.getElem?_eq_getElem hbz]; rfl
 have hTz : ((mkB (txt (pwLines n (ls.take m)))).size + 12 ≤ 9223372036854775807) = True := eq_true (by rw [mkB_size]; omega)
 have htk : ls.take (m + 1) = ls.take m ++ [d] := by rw [List.take_add_one, hdk]; rfl
 have hnx := pw_next (n := n) (ls.take m) ha hb hc (by omega) (by omega) hc10
 rw [← htk] at hnx
 have hset := tab_set (g := g) (V := V) hza (z.row.set b c)
 have hsr := set_row (n := n) hpM hza ha hb hc
 have hsM : (pz.set a { z with row := z.row.set b c }).map (·.row) = (ls.take (m + 1)).foldl (setM n) (zeroM n) := by rw [hsr, htk, List.foldl_append]; rfl
 have hsL : ∀ y ∈ pz.set a { z with row := z.row.set b c }, y.row.length = n := fun y hy => by
  rcases List.mem_or_eq_of_mem_set hy with hy | rfl
  · exact hpL y hy
  · show (z.row.set b c).length = n
    rw [List.length_set]
    exact hzn
 have e1 : (z.row.map fun n => [Value.int .i64 n]).set b ([Value.int .i64 z.row[b]].set 0 (.int .i64 c)) = (z.row.set b c).map fun n => [Value.int .i64 n] := by rw [List.map_set]; rfl
 repeat (first
  | ((with_reducible refine sopsJ_go ?_); simp only [go_sem, simprocAttr, hF, hd2, hdk, hw1, hw2, hw3, hz, ha', hb', hc', hTz, numS_size, ByteArray.size_append, Av.sopJ])
  | ((with_reducible refine sopsJ_end ?_); simp only [go_sem, simprocAttr, hF, hd2, hdk, hw1, hw2, hw3, hz, ha', hb', hc', hTz, numS_size, ByteArray.size_append, Av.sopJ])
  | (refine awp_floatJ (id := 17) [1000017, 1000024, 1000030, 1000032, 1000039, 1000040, 1000084, 1000085, 1000091, 1000096] 10 [] (by kernel_rfl) (by kernel_rfl) (by kernel_rfl) rfl rfl (fun bx0 hbx => ?_); (try dsimp only [Av.addWs, Av.addW, List.modify_succ_cons, List.modify_zero_cons, List.push_toArray, List.cons_append, List.nil_append, List.take_succ_cons, List.take_zero, List.take_nil, List.drop_succ_cons, List.drop_zero, List.drop_nil]))
  | ((with_reducible refine headW_go ?_); simp only [go_sem, simprocAttr, hF, hd2, hdk, hw1, hw2, hw3, hz, ha', hb', hc', hTz, numS_size, ByteArray.size_append, hbx])
  | ((with_reducible refine headW_end ?_); simp only [go_sem, simprocAttr, hF, hd2, hdk, hw1, hw2, hw3, hz, ha', hb', hc', hTz, numS_size, ByteArray.size_append, Av.sopJ])
  | ((first | refine ⟨_, hna, ?_⟩ | refine ⟨_, hnb, ?_⟩ | refine ⟨_, hnc, ?_⟩); simp only [go_sem, simprocAttr, hF, hd2, hdk, hw1, hw2, hw3, hz, ha', hb', hc', hTz, numS_size, ByteArray.size_append])
  | ((first | refine ⟨_, handq_vIndex (i := 0) (j := a) rfl rfl (by decide) rfl rfl rfl rfl halW Tryz.underlying22 Tryz.sz24, rfl, ?_⟩ | refine ⟨_, handq_vLoad (i := 0) (k := a) (c := 0) (sz := 1) (dd := .slice 3) rfl rfl (by decide) rfl rfl honeW hrowW rfl rfl Tryz.underlying24 rfl, rfl, ?_⟩ | refine ⟨_, handq_vIndex (i := a + 1) (j := b) rfl rfl (by decide) rfl hzl rfl rfl hblZ Tryz.underlying24 Tryz.sz3, rfl, ?_⟩); simp only [go_sem, simprocAttr, hF, hd2, hdk, hw1, hw2, hw3, hz, ha', hb', hc', hTz, numS_size, ByteArray.size_append, hbx])
  | ((refine hand_vStore (i := a + 1) (k := b) (c := 0) (sz := 1) rfl rfl rfl hzl honeZ hrowZ (by decide) rfl rfl rfl rfl Tryz.sz3 ?_); simp only [go_sem, simprocAttr, hF, hd2, hdk, hw1, hw2, hw3, hz, ha', hb', hc', hTz, numS_size, ByteArray.size_append, Av.sopJ])
  | ((first | with_reducible refine sops_go ?_ | with_reducible refine sops_end ?_ | with_reducible refine awp_if ?_ | with_reducible refine awp_skip ?_); simp only [go_sem, simprocAttr, hF, hd2, hdk, hw1, hw2, hw3, hz, ha', hb', hc', hTz, numS_size, ByteArray.size_append])
  | with_reducible refine awp_seq_k fun _ _ => ?_
  | (refine awp_draw' (id := 15) [1000017, 1000024, 1000030, 1000032, 1000039, 1000040, 1000084, 1000085, 1000091, 1000096] 12 (by kernel_rfl) (by kernel_rfl) rfl rfl (fun bx0 hbx => ?_); try dsimp only [List.take, List.drop])
  | (refine awp_draw' (id := 16) [1000017, 1000024, 1000030, 1000032, 1000039, 1000040, 1000084, 1000085, 1000091, 1000096] 19 (by kernel_rfl) (by kernel_rfl) rfl rfl (fun bx0 hbx => ?_); try dsimp only [List.take, List.drop])
  | (with_reducible refine awp_region (id := 13) [1000017, 1000024, 1000030, 1000032, 1000039, 1000040, 1000084, 1000085, 1000091, 1000096] ?_)
  | (with_reducible refine awp_region (id := 14) [1000017, 1000024, 1000030, 1000032, 1000039, 1000040, 1000084, 1000085, 1000091, 1000096] ?_)
  | (with_reducible refine awp_region (id := 18) [1000017, 1000024, 1000030, 1000032, 1000039, 1000040, 1000084, 1000085, 1000091, 1000096] ?_)
  | (with_reducible refine awp_block ?_)
  | go_step)
 refine ⟨⟨(m + 1, pz.set a { z with row := z.row.set b c }), by dsimp only; omega, by rw [List.length_set]; exact hpn, hsL, hsM⟩, by dsimp only; omega, hR2 _ _ (sub_mk ?_)⟩
 simp only [go_sem, simprocAttr, hF, hwm, hnx, e1, hset]
 try rfl
end Go.Proofs.YtcloigoajohppaaGreatDoor
namespace Go.Proofs.YtcloigoajohppaaGreatDoor
open Go.RowKit
open Av Sc
set_option maxRecDepth 100000
open Go.ChangeShapes Go.WideShapes Go.ChangeAt
def Ty.q8 : Ty := .int .u8
theorem Tryz.fitsQu8s : (Ty.slice .q8).fits Tryz.prog 56 = true := by kernel_rfl
theorem u8_wf {u : Int} (h : (Lit.int .u8 u).wf = true) : 0 ≤ u ∧ u < 256 := by
  unfold Lit.wf at h
  rw [Bool.and_eq_true] at h
  have h1 : (0 : Int) ≤ u := of_decide_eq_true h.1
  have h2 : u ≤ 255 := of_decide_eq_true h.2
  omega
theorem q8_of {w : World} (es : List Value) (_hl : es.length = Ty.q8.cells) (h : Ty.q8.holds w es) : ∃ a : Int, RepL (cellR w) [PV.v (.int .u8 a)] es ∧ (0 ≤ a ∧ a < 256) := by
  obtain ⟨n, rfl, h⟩ := h
  exact ⟨n, .cons (.v _ rfl) .nil, u8_wf h⟩
section
variable {H : Type} {enc : TypeId × Value → H} {W : World} {base : Nat} {spare : Nat → Bool} {held : Bool} {r : Reach} {b0 : Nat} {v : Value} {d : DataW H} {p : List MemPlace}
theorem open_u8s (hv : Value.okWide Tryz.prog W r b0 56 v) (h : DataW.Trod enc Tryz.prog W base spare held 56 v d p) : ∃ l : List Int, (∀ k ∈ l, 0 ≤ k ∧ k < 256) ∧ RepA (cellR W) (fun _ => 0) (.sl 1 (l.map fun k => [PV.v (.int .u8 k)])) v := by
  obtain ⟨a, len, cap, rfl⟩ := okWide_slice Tryz.underlying56 hv
  have hh := Ty.holds_trod (τ := .slice .q8) Tryz.fitsQu8s h
  obtain ⟨A, n, c, h1, hc, hm, hn, he⟩ := hh
  simp only [Value.cells, List.cons.injEq, and_true, Value.slice.injEq] at h1
  obtain ⟨rfl, rfl, rfl⟩ := h1
  obtain ⟨l, el, hr, hg⟩ := rep_of_sliceG (f := fun k => [PV.v (.int .u8 k)]) (e := Ty.q8) (by decide) hc hn q8_of he
  exact ⟨l, hg, hr⟩
end
end Go.Proofs.YtcloigoajohppaaGreatDoor
namespace Go.Proofs.YtcloigoajohppaaGreatDoor
open Go.RowKit
open Av Sc
set_option maxRecDepth 100000
open Go.ChangeShapes Go.WideShapes Go.ChangeAt Go.Deep
def Ty.q888 : Ty := .struct (.cons .q8 (.cons .q8 (.cons .q8 .nil)))
def p3pv (d : Int × Int × Int) : List PV := [PV.v (.int .u8 d.1), PV.v (.int .u8 d.2.1), PV.v (.int .u8 d.2.2)]
theorem q888_of {w : World} (es : List Value) (hl : es.length = Ty.q888.cells) (h : Ty.q888.holds w es) : ∃ d : Int × Int × Int, RepL (cellR w) (p3pv d) es ∧ ((0 ≤ d.1 ∧ d.1 < 256) ∧ (0 ≤ d.2.1 ∧ d.2.1 < 256) ∧ 0 ≤ d.2.2 ∧ d.2.2 < 256) := by
  match es, hl with
  | [c0, c1, c2], _ =>
    simp only [Ty.q888, Ty.q8, Ty.holds, Ty.cells, List.take, List.drop] at h
    obtain ⟨⟨n0, h0, g0⟩, ⟨n1, h1, g1⟩, ⟨n2, h2, g2⟩, _⟩ := h
    simp only [List.cons.injEq, and_true] at h0 h1 h2
    subst h0 h1 h2
    exact ⟨(n0, n1, n2), .cons (.v _ rfl) (.cons (.v _ rfl) (.cons (.v _ rfl) .nil)), u8_wf g0, u8_wf g1, u8_wf g2⟩
section
variable {H : Type} {enc : TypeId × Value → H} {W : World} {base : Nat} {spare : Nat → Bool} {held : Bool} {r : Reach} {b0 : Nat} {v : Value} {d : DataW H} {p : List MemPlace}
theorem arr_holds {n : Nat} {cs : List Value} {x : DataW H × List MemPlace} (hl : cs.length = 3) (h : DataW.trod enc Tryz.prog W base spare held n 48 cs = some x) : Ty.q888.holds W cs := by
  have c1 : Tryz.prog.cellsOf 5 = 1 := by kernel_rfl
  obtain ⟨xs, m, rfl, hx, hlen, hn, hel⟩ := DataW.trod_array Tryz.underlying48 h
  have h0 := hel 0 (by decide)
  have h1 := hel 1 (by decide)
  have h2 := hel 2 (by decide)
  rw [c1] at h0 h1 h2
  match xs, hn with
  | [y0, y1, y2], _ =>
    match cs, hl with
    | [u0, u1, u2], _ =>
      obtain ⟨k0, e0, _, w0⟩ := DataW.trod_int Tryz.underlying5 (show DataW.trod _ Tryz.prog W base spare held m 5 _ = some y0 from h0)
      obtain ⟨k1, e1, _, w1⟩ := DataW.trod_int Tryz.underlying5 (show DataW.trod _ Tryz.prog W base spare held m 5 _ = some y1 from h1)
      obtain ⟨k2, e2, _, w2⟩ := DataW.trod_int Tryz.underlying5 (show DataW.trod _ Tryz.prog W base spare held m 5 _ = some y2 from h2)
      simp at e0 e1 e2
      subst e0 e1 e2
      exact ⟨⟨k0, rfl, w0⟩, ⟨k1, rfl, w1⟩, ⟨k2, rfl, w2⟩, trivial⟩
theorem open_u8x3 (hv : Value.okWide Tryz.prog W r b0 45 v) (h : DataW.Trod enc Tryz.prog W base spare held 45 v d p) : ∃ l : List (Int × Int × Int), (∀ d ∈ l, (0 ≤ d.1 ∧ d.1 < 256) ∧ (0 ≤ d.2.1 ∧ d.2.1 < 256) ∧ 0 ≤ d.2.2 ∧ d.2.2 < 256) ∧ RepA (cellR W) (fun _ => 0) (.sl 3 (l.map p3pv)) v := by
  obtain ⟨a, len, cap, rfl⟩ := okWide_slice Tryz.underlying45 hv
  have hce : Tryz.prog.cellsOf 48 = 3 := by kernel_rfl
  obtain ⟨fuel, h⟩ := h
  have key : len ≤ cap ∧ (a = none → len = 0) ∧ ∀ a', a = some a' → ∀ i, i < len → ∃ es, es.length = Ty.q888.cells ∧ Ty.q888.holds W es ∧ ∀ j u, es[j]? = some u → W.cell? (a'.add (i * Ty.q888.cells + j)) = some u := by
    rcases open_slice Tryz.underlying45 h with ⟨h0, _⟩ | ⟨a', len', cap', m, n, D, Pl, h0, hb, hl, hm, hmm, _, hel⟩
    · simp only [Value.cells, List.cons.injEq, and_true, Value.slice.injEq] at h0
      obtain ⟨rfl, rfl, rfl⟩ := h0
      exact ⟨Nat.le_refl _, fun _ => rfl, fun a ha => by cases ha⟩
    · simp only [Value.cells, List.cons.injEq, and_true, Value.slice.injEq] at h0
      obtain ⟨rfl, rfl, rfl⟩ := h0
      refine ⟨hl, fun h0 => (by cases h0), fun a2 ha i hi => ?_⟩
      cases ha
      have him : i < m := by rw [hmm]; split <;> omega
      obtain ⟨cs', hc, ht⟩ := hel i him
      rw [hce] at hc
      obtain ⟨_, hlen, hat⟩ := World.cells?_some hc
      refine ⟨cs', hlen, arr_holds hlen ht, fun j v hv => ?_⟩
      have hj : j < 3 := by rw [← hlen]; exact (List.getElem?_eq_some_iff.1 hv).1
      have := hat j hj
      rw [add_add_] at this
      show W.cell? (a'.add (i * 3 + j)) = some v
      rw [this, hv]
  obtain ⟨l, el, hr, hg⟩ := rep_of_sliceG (f := p3pv) (e := Ty.q888) (by decide) key.1 key.2.1 q888_of key.2.2
  rw [← el]
  rw [← el] at hr
  exact ⟨l, hg, hr⟩
end
end Go.Proofs.YtcloigoajohppaaGreatDoor

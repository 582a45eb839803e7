import Derived.WideKeyPair
import Derived.Test.YtkdigdnacggknaaZAvT
import Derived.Test.YtkdigdnacggknaaZNet3
import Derived.Test.YtkdigdnacggknaaZAvJ
import Derived.Test.YtkdigdnacggknaaZMonM
/- Networks as abstract data; network.Check lifted. -/
namespace Go.Proofs.Ytkdigdnacggknaa
open Go.RowKit
open Nd Rc Mo
open Av
set_option maxRecDepth 100000

def Mo.Lk.pv (x : Lk) : List PV := [ip x.fr, ip x.tt, ip x.ls]
def irow_pv (x : Int) : List PV := [ip x]
def prow_pv (l : List Int) : List PV := [.sl 1 (l.map irow_pv)]
def Mo.Net.pv (n : Net) : List PV := [ip n.nodes, .sl 1 (n.pow.map prow_pv), ip n.noise, ip n.thr, .sl 3 (n.lk.map Lk.pv), .sl 1 (n.mg.map irow_pv)]
theorem ints_rep {w : World} {R : Reader} {l : List Int} {u : Value} (hR : ∀ p v, R p = some v → w.cell? p = some v) (h : RepP R (.sl 1 (l.map irow_pv)) u) : ∃ A c, u = .slice A l.length c ∧ LiesI w w.heap.size A l := by
  rw [map_pv (f := irow_pv) (g := irow) (fun _ => rfl)] at h
  obtain ⟨A, c, rfl, hA⟩ := lies_of_rep hR (by decide) h
  rw [List.length_map]
  exact ⟨A, c, rfl, hA⟩
theorem links_rep {w : World} {R : Reader} {l : List Lk} {u : Value} (hR : ∀ p v, R p = some v → w.cell? p = some v) (h : RepP R (.sl 3 (l.map Lk.pv)) u) : ∃ A c, u = .slice A l.length c ∧ Lies w w.heap.size 3 A (l.map Lk.row) := by
  rw [map_pv (f := Lk.pv) (g := Lk.row) (fun _ => rfl)] at h
  obtain ⟨A, c, rfl, hA⟩ := lies_of_rep hR (by decide) h
  rw [List.length_map]
  exact ⟨A, c, rfl, hA⟩
theorem prows {w : World} {B : Nat} : ∀ (pow : List (List Int)) (g : Nat → Value), (∀ k l, pow[k]? = some l → ∃ A c, g k = .slice A l.length c ∧ LiesI w B A l) → (∀ l ∈ pow, l.length ≤ 1000000) → ∃ pw : List PRow, pw.map PRow.l = pow ∧ (∀ k p, pw[k]? = some p → g k = .slice p.A p.l.length p.c) ∧ ∀ p ∈ pw, LiesI w B p.A p.l ∧ p.l.length ≤ 1000000
  | [], g, _, _ => ⟨[], rfl, fun k p h => by simp at h, fun p h => by cases h⟩
  | l :: pow, g, h, hl => by
    obtain ⟨A, c, h1, h2⟩ := h 0 l rfl
    obtain ⟨pw, h3, h4, h5⟩ := prows pow (fun k => g (k + 1)) (fun k l' hk => h (k + 1) l' (by simpa using hk)) (fun l' hl' => hl l' (List.mem_cons_of_mem _ hl'))
    refine ⟨⟨l, A, c⟩ :: pw, by rw [List.map_cons, h3], fun k p hk => ?_, fun p hp => ?_⟩
    · cases k with
      | zero => simp at hk; subst hk; exact h1
      | succ k => exact h4 k p (by simpa using hk)
    · rcases List.mem_cons.1 hp with rfl | hp
      · exact ⟨h2, hl l List.mem_cons_self⟩
      · exact h5 p hp
theorem pow_rep {w : World} {R : Reader} {pow : List (List Int)} {u : Value} (hR : ∀ p v, R p = some v → w.cell? p = some v) (hl : ∀ l ∈ pow, l.length ≤ 1000000) (h : RepP R (.sl 1 (pow.map prow_pv)) u) : ∃ A c pw, u = .slice A pow.length c ∧ pw.map PRow.l = pow ∧ LiesP w w.heap.size A pw := by
  generalize hrows : pow.map prow_pv = rows at h
  cases h with
  | sl _ _ A cap f hsz hA hf hc =>
    have hlen : rows.length = pow.length := by rw [← hrows]; simp
    have hget : ∀ k l, pow[k]? = some l → rows[k]? = some (prow_pv l) := fun k l hk => by rw [← hrows, List.getElem?_map, hk]; rfl
    obtain ⟨pw, h1, h2, h3⟩ := prows (w := w) (B := w.heap.size) pow (fun k => f k 0) (fun k l hk => ints_rep hR (hf k _ 0 _ (hget k l hk) rfl)) hl
    refine ⟨A, cap, pw, by rw [hlen], h1, fun hne => ?_, h3⟩
    rcases hA with h0 | ⟨b, off, rfl, hA⟩
    · exfalso
      apply hne
      rw [h0] at hlen
      have : pow = [] := List.eq_nil_of_length_eq_zero hlen.symm
      rw [this] at h1
      rw [List.map_eq_nil_iff.1 h1]; rfl
    · have hcell : ∀ (k : Nat) (row : List Value), (pw.map PRow.row)[k]? = some row → ∀ (j : Nat) (x : Value), row[j]? = some x → w.cell? ⟨b, off + k * 1 + j, none⟩ = some x := fun k row hk j x hj => by
        rw [List.getElem?_map] at hk
        obtain ⟨p, hp, rfl⟩ := Option.map_eq_some_iff.1 hk
        have hpl : pow[k]? = some p.l := by rw [← h1, List.getElem?_map, hp]; rfl
        cases j with
        | zero =>
          simp [PRow.row] at hj
          subst hj
          have := hA k _ 0 _ (hget k p.l hpl) rfl
          rw [h2 k p hp] at this
          exact hR _ _ this
        | succ j => simp [PRow.row] at hj
      refine ⟨b, off, rfl, ?_, hcell⟩
      cases hpw : pw with
      | nil => rw [hpw] at hne; exact absurd rfl hne
      | cons p pw' => exact Rel.cell_lt (hcell 0 p.row (by rw [hpw]; rfl) 0 _ rfl)
theorem net_rep {w : World} {R : Reader} {bx : Nat → Nat} {n : Net} {u : Value} (hR : ∀ p v, R p = some v → w.cell? p = some v) (hl : ∀ l ∈ n.pow, l.length ≤ 1000000) (h : RepA R bx (.agg n.pv) u) :
    ∃ P L G cp cl cg pw, u = .agg #[.int .i64 n.nodes, .slice P n.pow.length cp, .int .i64 n.noise, .int .i64 n.thr, .slice L n.lk.length cl, .slice G n.mg.length cg] ∧ pw.map PRow.l = n.pow ∧ LiesP w w.heap.size P pw ∧ Lies w w.heap.size 3 L (n.lk.map Lk.row) ∧ LiesI w w.heap.size G n.mg := by
  obtain ⟨us, rfl, h⟩ := h
  cases h with
  | cons h1 h =>
  cases h with
  | cons h2 h =>
  cases h with
  | cons h3 h =>
  cases h with
  | cons h4 h =>
  cases h with
  | cons h5 h =>
  cases h with
  | cons h6 h =>
    cases h
    cases h1
    cases h3
    cases h4
    obtain ⟨P, cp, pw, rfl, e1, e2⟩ := pow_rep hR hl h2
    obtain ⟨L, cl, rfl, e3⟩ := links_rep hR h5
    obtain ⟨G, cg, rfl, e4⟩ := ints_rep hR h6
    exact ⟨P, L, G, cp, cl, cg, pw, rfl, e1, e2, e3, e4⟩
theorem ncheck_ok (n : Net) (hp : n.pow.length ≤ 1000000) (hl : ∀ l ∈ n.pow, l.length ≤ 1000000) (hk : n.lk.length ≤ 1000000) (hg : n.mg.length ≤ 1000000) : FnOK Try.prog 49 [.agg n.pv] ⟨iv (chkN n), none⟩ := fn_of ⟨Try.f49, _, Try.func49, by kernel_rfl, rfl⟩ fun w R hR us hus => by
  cases hus with | cons h0 _ hus =>
  cases hus
  obtain ⟨P, L, G, cp, cl, cg, pw, rfl, e1, e2, e3, e4⟩ := net_rep hR hl h0
  have hlen : n.pow.length = pw.length := by rw [← e1, List.length_map]
  rw [hlen]
  refine (netCheck_any n.nodes n.noise n.thr pw n.lk n.mg P L G cp cl cg w e2 (by omega) e3 hk e4 hg).mono ?_
  rintro e w' ⟨rfl, hb⟩
  rw [e1]
  exact ⟨_, rfl, hb, res_v⟩
end Go.Proofs.Ytkdigdnacggknaa
/- Keys of the monitor's maps: uses of links, links. -/
namespace Go.Proofs.Ytkdigdnacggknaa
open Go.RowKit Go.WideMaps Go.Maps Go.ChangeShapes
open Go.Maps (Keyed)
set_option maxRecDepth 100000

theorem Try.useRow : (105 : TypeId) < Try.prog.types.size := of_decide_eq_true (by kernel_rfl)
theorem Try.useKeyed : Keyed Try.prog 105 := Keyed.of_law (deep_law_laid Try.kLaid (m := 2) (by omega) Try.useRow (by kernel_rfl) (by rw [Try.underlying105]))
theorem Try.useType : Try.prog.keyType 105 = true := by kernel_rfl
theorem Try.useCells : Try.prog.cellsOf 105 = 4 := by kernel_rfl
theorem Try.lCells : Try.prog.cellsOf 102 = 2 := by kernel_rfl
theorem Try.lArr : ArrKey Try.prog 102 3 2 := ⟨Try.underlying102, by kernel_rfl, by kernel_rfl, Try.lCells⟩
theorem Try.lRow : (102 : TypeId) < Try.prog.types.size := of_decide_eq_true (by kernel_rfl)
theorem Try.lKeyed : Keyed Try.prog 102 := Keyed.of_law (deep_law_laid Try.kLaid (m := 2) (by omega) Try.lRow (by kernel_rfl) Try.lArr.wide)
theorem keyOf_link {a b : Int} (ha : Num64 a) (hb : Num64 b) : ∃ kl, keyOf Try.prog 102 (.agg #[.int .i64 a, .int .i64 b]) = some kl := ⟨_, keyOf_pair Try.lArr Try.underlying3 Try.kTypes ha hb⟩
theorem keyOf_use {a b c d : Int} (ha : Num64 a) (hb : Num64 b) (hc : Num64 c) (hd : Num64 d) : ∃ kl, keyOf Try.prog 105 (.agg #[.int .i64 a, .int .i64 b, .int .i64 c, .int .i64 d]) = some kl := by
  obtain ⟨m, hm⟩ := Try.kTypes
  unfold keyOf
  simp only [Try.underlying105]
  rw [if_pos (by simp [Try.useType, Value.formed, Try.underlying105, Try.useCells]), hm]
  unfold Program.keyLits
  simp only [Try.underlying105, Value.cells, Try.useCells]
  have h64a : (Lit.int .i64 a).wf = true := ha
  have h64b : (Lit.int .i64 b).wf = true := hb
  have h64c : (Lit.int .i64 c).wf = true := hc
  have h64d : (Lit.int .i64 d).wf = true := hd
  cases m with
  | zero => exact absurd hm (by intro h; have := Try.useRow; rw [h] at this; revert this; decide)
  | succ m => simp [Program.keyLits, Try.underlying3, Try.kOne, h64a, h64b, h64c, h64d]
theorem keyLits_int {n : Nat} {x : Value} {ls : List Lit} (h : Try.prog.keyLits (n + 1) 3 [x] = some ls) : ∃ a : Int, x = .int .i64 a ∧ Num64 a := by
  unfold Program.keyLits at h
  rw [Try.underlying3] at h
  cases x with
  | int q a =>
    dsimp only at h
    split at h
    · rename_i hq
      obtain ⟨rfl, hw⟩ := hq
      exact ⟨a, rfl, hw⟩
    · cases h
  | _ => cases h
theorem keyOf_use_inv {key : Value} {kl : Lit} (h : keyOf Try.prog 105 key = some kl) : ∃ a b c d : Int, key = .agg #[.int .i64 a, .int .i64 b, .int .i64 c, .int .i64 d] ∧ Num64 a ∧ Num64 b ∧ Num64 c ∧ Num64 d := by
  obtain ⟨m, hm⟩ := Try.kTypes
  unfold keyOf at h
  simp only [Try.underlying105] at h
  split at h
  · rename_i hf
    rw [Bool.and_eq_true] at hf
    obtain ⟨_, hf⟩ := hf
    cases key with
    | agg cs =>
      simp only [Value.formed, Try.underlying105, Try.useCells, beq_iff_eq] at hf
      obtain ⟨l⟩ := cs
      match l, hf with
      | [x1, x2, x3, x4], _ =>
        rw [hm] at h
        cases m with
        | zero => exact absurd hm (by intro h; have := Try.useRow; rw [h] at this; revert this; decide)
        | succ m =>
          unfold Program.keyLits at h
          simp only [Try.underlying105, Value.cells, Try.useCells] at h
          simp only [Try.kOne, List.drop_succ_cons, List.drop_zero, List.take_succ_cons, List.take_zero, List.take_nil, List.mapM_cons, List.mapM_nil] at h
          cases e1 : Try.prog.keyLits (m + 2) 3 [x1] with
          | none => simp [e1] at h
          | some l1 =>
            cases e2 : Try.prog.keyLits (m + 2) 3 [x2] with
            | none => simp [e1, e2] at h
            | some l2 =>
              cases e3 : Try.prog.keyLits (m + 2) 3 [x3] with
              | none => simp [e1, e2, e3] at h
              | some l3 =>
                cases e4 : Try.prog.keyLits (m + 2) 3 [x4] with
                | none => simp [e1, e2, e3, e4] at h
                | some l4 =>
                  obtain ⟨a, rfl, ha⟩ := keyLits_int e1
                  obtain ⟨b, rfl, hb⟩ := keyLits_int e2
                  obtain ⟨c, rfl, hc⟩ := keyLits_int e3
                  obtain ⟨d, rfl, hd⟩ := keyLits_int e4
                  exact ⟨a, b, c, d, rfl, ha, hb, hc, hd⟩
    | tuple cs => simp [Value.formed] at hf
    | _ => simp [Value.formed, Try.underlying105] at hf
  · cases h
end Go.Proofs.Ytkdigdnacggknaa
/- The uses of links that a record has, each with a box of its own: as boxes and owned rows of an abstract state. -/
namespace Go.Proofs.Ytkdigdnacggknaa
open Go.RowKit
open Nd Rc Mo
open Av

/-- A use of a link for a frame; g: its record's block; al: the record's attempts. -/
structure Us where
  (fl fr fm tt : Int) (g : Nat) (al : List Att)
def Us.row (u : Us) : List PV := [ip 0, .sl 8 (u.al.map Att.pv), .v (.slice none 0 0)]
def dynBox (U : List Us) : List (Nat × List PV) := U.map fun u => (u.g + 1000000, u.row)
def dynOwn (T : TypeId) (U : List Us) : List (Av.Loc × (TypeId × Nat)) := U.map fun u => (.b (u.g + 1000000) 1, (T, 8))
theorem look_dyn_small {U : List Us} {d : Nat} (h : d < 1000000) : Av.look (dynBox U) d = none := by
  induction U with
  | nil => rfl
  | cons u U ih =>
    unfold dynBox at ih ⊢
    rw [List.map_cons, Av.look_cons, if_neg (by omega), ih]
theorem look_dyn {U : List Us} {g : Nat} : Av.look (dynBox U) (g + 1000000) = (U.find? fun u => u.g == g).map Us.row := by
  induction U with
  | nil => rfl
  | cons u U ih =>
    unfold dynBox at ih ⊢
    rw [List.map_cons, Av.look_cons]
    by_cases h : u.g = g
    · rw [if_pos (by omega), List.find?_cons_of_pos (by simpa using h)]; rfl
    · rw [if_neg (by omega), ih, List.find?_cons_of_neg (by simpa using h)]
theorem lookL_dyn_s {T : TypeId} {U : List Us} {t : Nat} : lookL (dynOwn T U) (.s t) = none := by
  induction U with
  | nil => rfl
  | cons u U ih =>
    unfold dynOwn at ih ⊢
    rw [List.map_cons, Av.lookL_cons, if_neg (by simp), ih]
theorem lookL_dyn_b {T : TypeId} {U : List Us} {g : Nat} : lookL (dynOwn T U) (.b (g + 1000000) 1) = (U.find? fun u => u.g == g).map fun _ => (T, 8) := by
  induction U with
  | nil => rfl
  | cons u U ih =>
    unfold dynOwn at ih ⊢
    rw [List.map_cons, Av.lookL_cons]
    by_cases h : u.g = g
    · rw [if_pos (by rw [h]), List.find?_cons_of_pos (by simpa using h)]; rfl
    · rw [if_neg (by simp; exact fun e => h (by omega)), ih, List.find?_cons_of_neg (by simpa using h)]
theorem filter_dyn_s {T : TypeId} {U : List Us} {t : Nat} : List.filter (fun x => !x.1 == Av.Loc.s t) (dynOwn T U) = dynOwn T U := by
  refine List.filter_eq_self.2 fun x hx => ?_
  obtain ⟨u, _, rfl⟩ := List.mem_map.1 hx
  rfl
theorem keepL_dyn {T : TypeId} {U : List Us} {k o n : Nat} (hk : k < 1000000) : Av.keepL (dynOwn T U) k o n = dynOwn T U := by
  refine List.filter_eq_self.2 fun x hx => ?_
  obtain ⟨u, _, rfl⟩ := List.mem_map.1 hx
  show (!(decide (u.g + 1000000 = k) && _)) = true
  rw [decide_eq_false (by omega)]; rfl
theorem dynBox_nil : dynBox [] = [] := rfl
theorem dynOwn_nil (T : TypeId) : dynOwn T [] = [] := rfl
theorem allS_dyn {f : Nat → Option (List PV)} {U : List Us} : Av.AllS f (dynBox U) ↔ ∀ u ∈ U, f (u.g + 1000000) = some u.row := by
  induction U with
  | nil => exact ⟨fun _ u h => (by cases h), fun _ => trivial⟩
  | cons u U ih =>
    unfold dynBox at ih ⊢
    rw [List.map_cons]
    show (_ ∧ _) ↔ _
    rw [ih]
    simp
theorem allO_dyn {σ σ' : Av.St} {T : TypeId} {U : List Us} : Av.AllO σ σ' (dynOwn T U) ↔ ∀ u ∈ U, Av.lookL σ.own (.b (u.g + 1000000) 1) = some (T, 8) ∧ σ'.avAt (.b (u.g + 1000000) 1) = σ.avAt (.b (u.g + 1000000) 1) := by
  induction U with
  | nil => exact ⟨fun _ u h => (by cases h), fun _ => trivial⟩
  | cons u U ih =>
    unfold dynOwn at ih ⊢
    rw [List.map_cons]
    show (_ ∧ _) ↔ _
    rw [ih]
    simp
end Go.Proofs.Ytkdigdnacggknaa

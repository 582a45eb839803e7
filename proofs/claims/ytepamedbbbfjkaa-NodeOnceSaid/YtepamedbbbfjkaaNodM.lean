/- Sets of pairs of numbers: a map[[2]int]bool that the call makes. -/
import Derived.Test.YtepamedbbbfjkaaNod1
import Derived.Maps.OwnOps
import Derived.Maps.Views
import Derived.WideKeyPair
import Derived.DeepKeys4
namespace Go.Proofs.Ytepamedbbbfjkaa
open Go.RowKit Go.WideMaps
open Go.Maps (Keyed)

theorem Try.mLaid : laidOutB Try.prog = true := by kernel_rfl
theorem Try.mCells : Try.prog.cellsOf 52 = 2 := by kernel_rfl
theorem Try.mArr : ArrKey Try.prog 52 3 2 := ⟨Try.underlying52, by kernel_rfl, by kernel_rfl, Try.mCells⟩
theorem Try.mRow : (52 : TypeId) < Try.prog.types.size := of_decide_eq_true (by kernel_rfl)
theorem Try.mKeyed : Keyed Try.prog 52 := Keyed.of_law (deep_law_laid Try.mLaid (m := 2) (by omega) Try.mRow (by kernel_rfl) Try.mArr.wide)
theorem Try.mTypes : ∃ m, Try.prog.types.size = m + 1 := ⟨Try.prog.types.size - 1, (Nat.succ_pred_eq_of_pos (Nat.lt_of_le_of_lt (Nat.zero_le _) Try.mRow)).symm⟩
theorem Try.mZero (w : World) : (zeroValue 4).run Try.prog w = .ok (.bool false) w := by kernel_rfl

/-- A number that an int holds. -/
def Num64 (a : Int) : Prop := (Lit.int .i64 a).wf = true
def pairKey (a b : Int) : Lit := .string (keyBytes [.int .i64 a, .int .i64 b])
theorem keyOf_nums {a b : Int} (ha : Num64 a) (hb : Num64 b) : keyOf Try.prog 52 (.agg #[.int .i64 a, .int .i64 b]) = some (pairKey a b) := keyOf_pair Try.mArr Try.underlying3 Try.mTypes ha hb
theorem pairKey_inj {a b c d : Int} (ha : Num64 a) (hb : Num64 b) (hc : Num64 c) (hd : Num64 d) (h : pairKey a b = pairKey c d) : a = c ∧ b = d := by
  have h1 := keyOf_nums ha hb
  have h2 := keyOf_nums hc hd
  rw [← h] at h2
  have := Try.mKeyed.inj h1 h2
  simpa using this

theorem plainElem_bool_inv {H : Type} {P : Program} {e : TypeId} (he : P.underlying e = some .bool) {v : Value} {z : DataW H × List MemPlace} (h : plainElem P e v = some z) : ∃ a, v = .bool a ∧ z = (.lit (.bool a), []) := by
  unfold plainElem at h
  rw [he] at h
  cases v <;> simp_all

/-- Block b is a map that holds true at the pairs of S and nothing else that is true. -/
def OwnsSet (w : World) (b n : Nat) (S : List (Int × Int)) : Prop :=
  ∃ D : DataW Unit, w.ownsMap Try.prog 52 (plainElem Try.prog 4) b n D ∧ Go.Maps.IsMap D ∧ (∀ p ∈ S, Num64 p.1 ∧ Num64 p.2) ∧ ∀ a c, Num64 a → Num64 c → D.atKey (pairKey a c) (.lit (.bool false)) = .lit (.bool (decide ((a, c) ∈ S)))

theorem OwnsSet.made (w : World) : OwnsSet (w.alloc (.map #[] 0)) w.heap.size 0 [] :=
  ⟨.map [], World.ownsMap_made w _ _ _, Go.Maps.isMap_empty, fun _ h => by simp at h, fun a c _ _ => by simp [DataW.atKey]⟩
theorem OwnsSet.kept {w w' : World} {b n : Nat} {S : List (Int × Int)} {row : Option Nat} (h : OwnsSet w b n S) (hg : w.grownBy w' row) (hne : some b ≠ row) : OwnsSet w' b n S := by
  obtain ⟨D, h1, h2⟩ := h
  exact ⟨D, h1.kept hg hne, h2⟩
theorem OwnsSet.below {w w' : World} {b n N : Nat} {S : List (Int × Int)} (h : OwnsSet w b n S) (hb : Below N w w') (hN : b < N) : OwnsSet w' b n S := by
  obtain ⟨D, ⟨es, clock, hb1, F, hs, hD⟩, h2⟩ := h
  exact ⟨D, ⟨es, clock, (hb.block b hN).trans hb1, F, hs, hD⟩, h2⟩
theorem OwnsSet.lt {w : World} {b n : Nat} {S : List (Int × Int)} (h : OwnsSet w b n S) : b < w.heap.size := by
  obtain ⟨D, h1, _⟩ := h
  exact h1.lt
theorem OwnsSet.look {w : World} {b n : Nat} {S : List (Int × Int)} (h : OwnsSet w b n S) {a c : Int} (ha : Num64 a) (hc : Num64 c) : (Instr.lookup 49 (.map (some b)) (.agg #[.int .i64 a, .int .i64 c]) false).run Try.prog w = .ok (.bool (decide ((a, c) ∈ S))) w := by
  obtain ⟨D, h1, _, _, h3⟩ := h
  obtain ⟨v, ps, hrun, hv⟩ := h1.lookup Try.mKeyed Try.underlying49 (Try.mZero w) (plainElem_bool Try.underlying4 false) (keyOf_nums ha hc)
  obtain ⟨x, rfl, hx⟩ := plainElem_bool_inv Try.underlying4 hv
  rw [h3 a c ha hc] at hx
  simp only [Prod.mk.injEq] at hx
  rw [hrun]
  simpa using hx.1.symm
theorem OwnsSet.put {w : World} {b n : Nat} {S : List (Int × Int)} (h : OwnsSet w b n S) (hn : n < maxLen) {a c : Int} (ha : Num64 a) (hc : Num64 c) :
    ∃ w', (Instr.mapUpdate 49 (.map (some b)) (.agg #[.int .i64 a, .int .i64 c]) (.bool true)).run Try.prog w = .ok () w' ∧ OwnsSet w' b (n + 1) ((a, c) :: S) ∧ w.grownBy w' (some b) := by
  obtain ⟨D, h1, h2, h4, h3⟩ := h
  obtain ⟨w', hrun, r1, r2⟩ := h1.update Try.mKeyed Try.underlying49 hn (keyOf_nums ha hc) (plainElem_bool (H := Unit) Try.underlying4 true)
  refine ⟨w', hrun, ⟨_, r1, h2.put _ _, ?_, ?_⟩, r2⟩
  · intro p hp
    rcases List.mem_cons.1 hp with rfl | hp
    · exact ⟨ha, hc⟩
    · exact h4 p hp
  · intro a' c' ha' hc'
    by_cases e : pairKey a' c' = pairKey a c
    · obtain ⟨e1, e2⟩ := pairKey_inj ha' hc' ha hc e
      subst e1 e2
      rw [Go.Maps.atKey_put_same h2 (by trivial)]
      simp
    · rw [Go.Maps.atKey_put_other e, h3 a' c' ha' hc']
      have hne : ¬ (a' = a ∧ c' = c) := fun ⟨e1, e2⟩ => e (by rw [e1, e2])
      simp [hne]
theorem OwnsSet.mono {w : World} {b n n' : Nat} {S : List (Int × Int)} (h : OwnsSet w b n S) (hn : n ≤ n') : OwnsSet w b n' S := by
  obtain ⟨D, h1, h2⟩ := h
  exact ⟨D, h1.mono hn, h2⟩
/-- A store into the map leaves every row of cells as it was. -/
theorem OwnsSet.cell {w w' : World} {b n : Nat} {S : List (Int × Int)} (h : OwnsSet w b n S) (hg : w.grownBy w' (some b)) {p : Addr} {u : Value} (hp : p.block < w.heap.size) (hc : w.cell? p = some u) : w'.cell? p = some u := by
  obtain ⟨D, ⟨es, clock, hb, _⟩, _⟩ := h
  have hne : p.block ≠ b := fun e => by
    subst e
    simp [World.cell?, hb] at hc
  have := hg.block p.block hp (fun e => hne (by injection e))
  unfold World.cell? at hc ⊢
  rw [this]
  exact hc
theorem OwnsSet.lies {w w' : World} {b n sz : Nat} {S : List (Int × Int)} {A : Option Addr} {xs : List (List Value)} (h : OwnsSet w b n S) (hg : w.grownBy w' (some b)) (hl : Lies w w.heap.size sz A xs) : Lies w' w'.heap.size sz A xs := by
  intro hne
  obtain ⟨bb, off, e, hb, hc⟩ := hl hne
  exact ⟨bb, off, e, Nat.lt_of_lt_of_le hb hg.size, fun k row hr j u hu => h.cell hg hb (hc k row hr j u hu)⟩
theorem Below.grown_map {M b : Nat} {w0 w w' : World} (h : Below M w0 w) (hg : w.grownBy w' (some b)) (hb : M ≤ b) (hw : M ≤ w.heap.size) : Below M w0 w' :=
  ⟨hg.os.trans h.os, hg.tape.trans h.tape, hg.output.trans h.output, Nat.le_trans h.size hg.size, fun i hi => (hg.block i (by omega) (fun e => by injection e; omega)).trans (h.block i hi)⟩
end Go.Proofs.Ytepamedbbbfjkaa

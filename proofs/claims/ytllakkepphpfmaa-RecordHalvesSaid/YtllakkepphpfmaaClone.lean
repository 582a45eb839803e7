/- Walks: Clone of package slices, at attempts and at deliveries; cp; Few. -/
import Derived.Test.YtllakkepphpfmaaAwake
import Derived.Test.YtllakkepphpfmaaRenc
import Derived.Lib.SliceRun
namespace Go.Proofs.Ytllakkepphpfmaa
open Go.RowKit
open Rc

theorem add_any (b off j : Nat) : (⟨b, off, none⟩ : Addr).add j = ⟨b, off + j, none⟩ := by
  unfold Addr.add
  split
  · rename_i h; subst h; simp
  · simp

/-- The cells of a slice of structs, one after the other. -/
theorem Lies.news {α : Type} {f : α → List Value} {sz : Nat} (hf : ∀ a, (f a).length = sz) (hz : 0 < sz) {w : World} {B : Nat} {ad : Addr} {l : List α} (h : Lies w B sz (some ad) (l.map f)) : ∀ j u, (l.flatMap f)[j]? = some u → w.cell? (ad.add j) = some u := by
  intro j u hu
  have hne : l.map f ≠ [] := by
    intro h0
    have : l = [] := by simpa using h0
    subst this
    simp at hu
  obtain ⟨b, off, e, _, hc⟩ := h hne
  injection e with e
  subst e
  have hlen : (l.flatMap f).length = l.length * sz := by
    clear hu hc hne h
    induction l with
    | nil => simp
    | cons x l ih => rw [List.flatMap_cons, List.length_append, hf, ih, List.length_cons, Nat.succ_mul]; omega
  have hj : j < l.length * sz := by rw [← hlen]; exact (List.getElem?_eq_some_iff.1 hu).1
  have hk : j / sz < l.length := Nat.div_lt_of_lt_mul (by rw [Nat.mul_comm]; exact hj)
  have hr : j % sz < sz := Nat.mod_lt _ hz
  obtain ⟨a, ha⟩ := get_of_lt hk
  have hg := flat_get f sz hf l (j / sz) (j % sz) a ha hr
  have e : j / sz * sz + j % sz = j := by rw [Nat.mul_comm]; exact Nat.div_add_mod j sz
  rw [e] at hg
  have := hc (j / sz) (f a) (by simp [ha]) (j % sz) u (by rw [← hg]; exact hu)
  rw [Nat.add_assoc, e] at this
  rw [add_any]
  exact this
theorem flat_len {α : Type} {f : α → List Value} {sz : Nat} (hf : ∀ a, (f a).length = sz) : ∀ l : List α, (l.flatMap f).length = l.length * sz
  | [] => by simp
  | x :: l => by rw [List.flatMap_cons, List.length_append, hf, flat_len hf l, List.length_cons, Nat.succ_mul]; omega
theorem flatA_one (l : List Att) : ∀ u ∈ flatA l, u.oneCell' = true := fun u hu => by
  obtain ⟨a, _, h⟩ := List.mem_flatMap.1 hu
  simp only [Att.row, List.mem_cons, List.not_mem_nil, or_false] at h
  rcases h with rfl | rfl | rfl | rfl | rfl | rfl | rfl | rfl <;> rfl
theorem flatD_one (l : List Dlv) : ∀ u ∈ flatD l, u.oneCell' = true := fun u hu => by
  obtain ⟨a, _, h⟩ := List.mem_flatMap.1 hu
  simp only [Dlv.row, List.mem_cons, List.not_mem_nil, or_false] at h
  rcases h with rfl | rfl | rfl <;> rfl

set_option maxRecDepth 100000 in
set_option maxHeartbeats 4000000 in
theorem cloneA_any (l : List Att) (A : Option Addr) (c : Nat) (w : World) (hA : LiesA w w.heap.size A l) (hl : l.length ≤ 1000000) (hnil : A = none → l = []) :
    Calls Try.prog 41 #[.slice A l.length c] w fun e w' => Below w.heap.size w w' ∧ ∃ v, e = .returned v ∧ w'.ownsRow w.heap.size 45 8 v l.length (flatA l) := by
  obtain ⟨i0, hi, hz0, hz1, hz2⟩ := info_parts Try.infoAtt
  have hsn := fun (W : World) (a : Option Addr) (n k : Nat) => Lib.run_eql_slice_nil (P := Try.prog) W 23 45 a n k 0 0 Try.underlying23
  cases A with
  | none =>
    have h0 := hnil rfl
    subst h0
    go_enter Try.func41, Try.ntmps41
    go_wp2_with fail
    go_ret
    exact ⟨Below.refl _ _, _, rfl, World.ownsRow_nil _ _ _ _⟩
  | some ad =>
    obtain ⟨n, hn⟩ : ∃ n, n = l.length := ⟨_, rfl⟩
    rw [← hn] at hl ⊢
    have hfl : Hid ((flatA l).length = n * 8) := Lib.hid (by rw [hn]; exact flat_len (f := Att.row) row_len_A l)
    have hnews : Hid (∀ (o : Obj) j u, (flatA l)[j]? = some u → (w.alloc o).cell? (ad.add j) = some u) := Lib.hid fun o => Lies.news (f := Att.row) row_len_A (by decide) (w := w.alloc o) (hA.below ((Below.refl _ _).alloc (Nat.le_refl _) _))
    have HN := Lib.hid hn
    clear hn hA hnil
    have hown : Hid ((w.alloc (.cells #[] 45)).ownsRow w.heap.size 45 8 (.slice (some ⟨w.heap.size, 0, none⟩) 0 0) 0 []) := Lib.hid ⟨rfl, .inr ⟨w.heap.size, 0, #[], rfl, Nat.le_refl _, heap_alloc_new w _, Nat.le_refl _, by unfold maxLen; omega, rfl, rfl⟩⟩
    go_enter Try.func41, Try.ntmps41
    go_wp2_with (at_builtin; refine wpList_append_own_at _ rfl (.tmp 5) (.tmp 6) 23 rfl w.heap.size 45 i0 (.agg #[.int .i64 0, .int .i64 0, .int .i64 0, .int .i64 0, .int .i64 0, .int .i64 0, .int .i64 0, .int .i64 0]) 8 64 Try.underlying23 hi hz0 hz1 hz2 rfl (by decide) (.slice (some ⟨w.heap.size, 0, none⟩) 0 0) 0 [] rfl hown.out ad n c (flatA l) rfl hfl.out (hnews.out _) (flatA_one l) ?e2 ?e3 ?e4 ?_)
    case e2 => unfold maxLen; omega
    case e3 => omega
    case e4 => simp
    intro v3 w3 ho3 hg3 hnil3 hat3
    have hb3 : Below w.heap.size w w3 := ((Below.refl _ _).alloc (Nat.le_refl _) _).grown hg3 (by simp) (by intro g hg; simp [Value.ownBlock] at hg; omega)
    have ho : w3.ownsRow w.heap.size 45 8 v3 n (flatA l) := by simpa using ho3
    clear hnil3 hat3 hg3 ho3
    go_wp2_with fail
    go_ret
    exact ⟨hb3, v3, rfl, ho⟩

set_option maxRecDepth 100000 in
set_option maxHeartbeats 4000000 in
theorem cloneD_any (l : List Dlv) (A : Option Addr) (c : Nat) (w : World) (hA : LiesD w w.heap.size A l) (hl : l.length ≤ 1000000) (hnil : A = none → l = []) :
    Calls Try.prog 42 #[.slice A l.length c] w fun e w' => Below w.heap.size w w' ∧ ∃ v, e = .returned v ∧ w'.ownsRow w.heap.size 62 3 v l.length (flatD l) := by
  obtain ⟨i0, hi, hz0, hz1, hz2⟩ := info_parts Try.infoDlv
  have hsn := fun (W : World) (a : Option Addr) (n k : Nat) => Lib.run_eql_slice_nil (P := Try.prog) W 24 62 a n k 0 0 Try.underlying24
  cases A with
  | none =>
    have h0 := hnil rfl
    subst h0
    go_enter Try.func42, Try.ntmps42
    go_wp2_with fail
    go_ret
    exact ⟨Below.refl _ _, _, rfl, World.ownsRow_nil _ _ _ _⟩
  | some ad =>
    obtain ⟨n, hn⟩ : ∃ n, n = l.length := ⟨_, rfl⟩
    rw [← hn] at hl ⊢
    have hfl : Hid ((flatD l).length = n * 3) := Lib.hid (by rw [hn]; exact flat_len (f := Dlv.row) row_len_D l)
    have hnews : Hid (∀ (o : Obj) j u, (flatD l)[j]? = some u → (w.alloc o).cell? (ad.add j) = some u) := Lib.hid fun o => Lies.news (f := Dlv.row) row_len_D (by decide) (w := w.alloc o) (hA.below ((Below.refl _ _).alloc (Nat.le_refl _) _))
    have HN := Lib.hid hn
    clear hn hA hnil
    have hown : Hid ((w.alloc (.cells #[] 62)).ownsRow w.heap.size 62 3 (.slice (some ⟨w.heap.size, 0, none⟩) 0 0) 0 []) := Lib.hid ⟨rfl, .inr ⟨w.heap.size, 0, #[], rfl, Nat.le_refl _, heap_alloc_new w _, Nat.le_refl _, by unfold maxLen; omega, rfl, rfl⟩⟩
    go_enter Try.func42, Try.ntmps42
    go_wp2_with (at_builtin; refine wpList_append_own_at _ rfl (.tmp 5) (.tmp 6) 24 rfl w.heap.size 62 i0 (.agg #[.int .i64 0, .int .i64 0, .int .i64 0]) 3 24 Try.underlying24 hi hz0 hz1 hz2 rfl (by decide) (.slice (some ⟨w.heap.size, 0, none⟩) 0 0) 0 [] rfl hown.out ad n c (flatD l) rfl hfl.out (hnews.out _) (flatD_one l) ?e2 ?e3 ?e4 ?_)
    case e2 => unfold maxLen; omega
    case e3 => omega
    case e4 => simp
    intro v3 w3 ho3 hg3 hnil3 hat3
    have hb3 : Below w.heap.size w w3 := ((Below.refl _ _).alloc (Nat.le_refl _) _).grown hg3 (by simp) (by intro g hg; simp [Value.ownBlock] at hg; omega)
    have ho : w3.ownsRow w.heap.size 62 3 v3 n (flatD l) := by simpa using ho3
    clear hnil3 hat3 hg3 ho3
    go_wp2_with fail
    go_ret
    exact ⟨hb3, v3, rfl, ho⟩

end Go.Proofs.Ytllakkepphpfmaa

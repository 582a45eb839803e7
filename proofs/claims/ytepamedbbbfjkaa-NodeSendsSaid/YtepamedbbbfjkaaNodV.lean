/- Walks: Clone of package slices, cp of the law, Few, Same of the reference. -/
import Derived.Test.YtepamedbbbfjkaaNodU
namespace Go.Proofs.Ytepamedbbbfjkaa
open Go.RowKit
open Nd
theorem Try.infoF : (Try.prog.info? 33).map (fun i => (i.zero, i.size, i.bytes)) = some (some (.agg #[.int .i64 0, .int .i64 0, .int .i64 0, .int .i64 0, .int .i64 0, .int .i64 0]), 6, 48) := by kernel_rfl
theorem oneF (h : Fl) : ∀ u, u ∈ h.row → u.oneCell' = true := fun u hu => by
  simp only [Fl.row, List.mem_cons, List.not_mem_nil, or_false] at hu
  rcases hu with rfl | rfl | rfl | rfl | rfl | rfl <;> rfl
theorem flatF_one (l : List Fl) : ∀ u ∈ l.flatMap Fl.row, u.oneCell' = true := fun u hu => by
  obtain ⟨a, _, h⟩ := List.mem_flatMap.1 hu
  exact oneF a u h

set_option maxRecDepth 100000 in
set_option maxHeartbeats 4000000 in
theorem cloneF_any (l : List Fl) (A : Option Addr) (c : Nat) (w : World) (hA : Lies w w.heap.size 6 A (l.map Fl.row)) (hl : l.length ≤ 1000000) (hnil : A = none → l = []) :
    Calls Try.prog 10 #[.slice A l.length c] w fun e w' => Below w.heap.size w w' ∧ ∃ v, e = .returned v ∧ w'.ownsRow w.heap.size 33 6 v l.length (l.flatMap Fl.row) := by
  obtain ⟨i0, hi, hz0, hz1, hz2⟩ := info_parts Try.infoF
  have hsn := fun (W : World) (a : Option Addr) (n k : Nat) => Lib.run_eql_slice_nil (P := Try.prog) W 22 33 a n k 0 0 Try.underlying22
  cases A with
  | none =>
    have h0 := hnil rfl
    subst h0
    go_enter Try.func10, Try.ntmps10
    go_wp2_with fail
    go_ret
    exact ⟨Below.refl _ _, _, rfl, World.ownsRow_nil _ _ _ _⟩
  | some ad =>
    obtain ⟨n, hn⟩ : ∃ n, n = l.length := ⟨_, rfl⟩
    rw [← hn] at hl ⊢
    have hfl : Hid ((l.flatMap Fl.row).length = n * 6) := Lib.hid (by rw [hn]; exact flat_len (f := Fl.row) Fl.row_len l)
    have hnews : Hid (∀ (o : Obj) j u, (l.flatMap Fl.row)[j]? = some u → (w.alloc o).cell? (ad.add j) = some u) := Lib.hid fun o => Lies.news (f := Fl.row) Fl.row_len (by decide) (w := w.alloc o) (Lies.below hA ((Below.refl _ _).alloc (Nat.le_refl _) _))
    have HN := Lib.hid hn
    clear hn hA hnil
    have hown : Hid ((w.alloc (.cells #[] 33)).ownsRow w.heap.size 33 6 (.slice (some ⟨w.heap.size, 0, none⟩) 0 0) 0 []) := Lib.hid ⟨rfl, .inr ⟨w.heap.size, 0, #[], rfl, Nat.le_refl _, heap_alloc_new w _, Nat.le_refl _, by unfold maxLen; omega, rfl, rfl⟩⟩
    go_enter Try.func10, Try.ntmps10
    go_wp2_with (at_builtin; refine wpList_append_own_at _ rfl (.tmp 5) (.tmp 6) 22 rfl w.heap.size 33 i0 (.agg #[.int .i64 0, .int .i64 0, .int .i64 0, .int .i64 0, .int .i64 0, .int .i64 0]) 6 48 Try.underlying22 hi hz0 hz1 hz2 rfl (by decide) (.slice (some ⟨w.heap.size, 0, none⟩) 0 0) 0 [] rfl hown.out ad n c (l.flatMap Fl.row) rfl hfl.out (hnews.out _) (flatF_one l) ?e2 ?e3 ?e4 ?_)
    case e2 => unfold maxLen; omega
    case e3 => omega
    case e4 => simp
    intro v3 w3 ho3 hg3 hnil3 hat3
    have hb3 : Below w.heap.size w w3 := ((Below.refl _ _).alloc (Nat.le_refl _) _).grown hg3 (by simp) (by intro g hg; simp [Value.ownBlock] at hg; omega)
    have ho : w3.ownsRow w.heap.size 33 6 v3 n (l.flatMap Fl.row) := by simpa using ho3
    clear hnil3 hat3 hg3 ho3
    go_wp2_with fail
    go_ret
    exact ⟨hb3, v3, rfl, ho⟩

set_option maxRecDepth 100000 in
set_option maxHeartbeats 4000000 in
theorem cloneH_any (l : List Ho) (A : Option Addr) (c : Nat) (w : World) (hA : Lies w w.heap.size 3 A (l.map Ho.row)) (hl : l.length ≤ 1000000) (hnil : A = none → l = []) :
    Calls Try.prog 33 #[.slice A l.length c] w fun e w' => Below w.heap.size w w' ∧ ∃ v, e = .returned v ∧ w'.ownsRow w.heap.size 45 3 v l.length (l.flatMap Ho.row) := by
  obtain ⟨i0, hi, hz0, hz1, hz2⟩ := info_parts Try.infoH
  have hsn := fun (W : World) (a : Option Addr) (n k : Nat) => Lib.run_eql_slice_nil (P := Try.prog) W 23 45 a n k 0 0 Try.underlying23
  cases A with
  | none =>
    have h0 := hnil rfl
    subst h0
    go_enter Try.func33, Try.ntmps33
    go_wp2_with fail
    go_ret
    exact ⟨Below.refl _ _, _, rfl, World.ownsRow_nil _ _ _ _⟩
  | some ad =>
    obtain ⟨n, hn⟩ : ∃ n, n = l.length := ⟨_, rfl⟩
    rw [← hn] at hl ⊢
    have hfl : Hid ((l.flatMap Ho.row).length = n * 3) := Lib.hid (by rw [hn]; exact flat_len (f := Ho.row) Ho.row_len l)
    have hnews : Hid (∀ (o : Obj) j u, (l.flatMap Ho.row)[j]? = some u → (w.alloc o).cell? (ad.add j) = some u) := Lib.hid fun o => Lies.news (f := Ho.row) Ho.row_len (by decide) (w := w.alloc o) (Lies.below hA ((Below.refl _ _).alloc (Nat.le_refl _) _))
    have HN := Lib.hid hn
    clear hn hA hnil
    have hown : Hid ((w.alloc (.cells #[] 45)).ownsRow w.heap.size 45 3 (.slice (some ⟨w.heap.size, 0, none⟩) 0 0) 0 []) := Lib.hid ⟨rfl, .inr ⟨w.heap.size, 0, #[], rfl, Nat.le_refl _, heap_alloc_new w _, Nat.le_refl _, by unfold maxLen; omega, rfl, rfl⟩⟩
    go_enter Try.func33, Try.ntmps33
    go_wp2_with (at_builtin; refine wpList_append_own_at _ rfl (.tmp 5) (.tmp 6) 23 rfl w.heap.size 45 i0 (.agg #[.int .i64 0, .int .i64 0, .slice none 0 0]) 3 40 Try.underlying23 hi hz0 hz1 hz2 rfl (by decide) (.slice (some ⟨w.heap.size, 0, none⟩) 0 0) 0 [] rfl hown.out ad n c (l.flatMap Ho.row) rfl hfl.out (hnews.out _) (flatH_one l) ?e2 ?e3 ?e4 ?_)
    case e2 => unfold maxLen; omega
    case e3 => omega
    case e4 => simp
    intro v3 w3 ho3 hg3 hnil3 hat3
    have hb3 : Below w.heap.size w w3 := ((Below.refl _ _).alloc (Nat.le_refl _) _).grown hg3 (by simp) (by intro g hg; simp [Value.ownBlock] at hg; omega)
    have ho : w3.ownsRow w.heap.size 45 3 v3 n (l.flatMap Ho.row) := by simpa using ho3
    clear hnil3 hat3 hg3 ho3
    go_wp2_with fail
    go_ret
    exact ⟨hb3, v3, rfl, ho⟩

set_option maxRecDepth 100000 in
set_option maxHeartbeats 4000000 in
theorem cloneI_any (l : List Int) (A : Option Addr) (c : Nat) (w : World) (hA : Lies w w.heap.size 1 A (l.map irow)) (hl : l.length ≤ 1000000) (hnil : A = none → l = []) :
    Calls Try.prog 34 #[.slice A l.length c] w fun e w' => Below w.heap.size w w' ∧ ∃ v, e = .returned v ∧ w'.ownsRow w.heap.size 3 1 v l.length (l.flatMap irow) := by
  obtain ⟨i0, hi, hz0, hz1, hz2⟩ := info_parts Try.infoI
  have hsn := fun (W : World) (a : Option Addr) (n k : Nat) => Lib.run_eql_slice_nil (P := Try.prog) W 43 3 a n k 0 0 Try.underlying43
  cases A with
  | none =>
    have h0 := hnil rfl
    subst h0
    go_enter Try.func34, Try.ntmps34
    go_wp2_with fail
    go_ret
    exact ⟨Below.refl _ _, _, rfl, World.ownsRow_nil _ _ _ _⟩
  | some ad =>
    obtain ⟨n, hn⟩ : ∃ n, n = l.length := ⟨_, rfl⟩
    rw [← hn] at hl ⊢
    have hfl : Hid ((l.flatMap irow).length = n * 1) := Lib.hid (by rw [hn]; exact flat_len (f := irow) irow_len l)
    have hnews : Hid (∀ (o : Obj) j u, (l.flatMap irow)[j]? = some u → (w.alloc o).cell? (ad.add j) = some u) := Lib.hid fun o => Lies.news (f := irow) irow_len (by decide) (w := w.alloc o) (Lies.below hA ((Below.refl _ _).alloc (Nat.le_refl _) _))
    have HN := Lib.hid hn
    clear hn hA hnil
    have hown : Hid ((w.alloc (.cells #[] 3)).ownsRow w.heap.size 3 1 (.slice (some ⟨w.heap.size, 0, none⟩) 0 0) 0 []) := Lib.hid ⟨rfl, .inr ⟨w.heap.size, 0, #[], rfl, Nat.le_refl _, heap_alloc_new w _, Nat.le_refl _, by unfold maxLen; omega, rfl, rfl⟩⟩
    go_enter Try.func34, Try.ntmps34
    go_wp2_with (at_builtin; refine wpList_append_own_at _ rfl (.tmp 5) (.tmp 6) 43 rfl w.heap.size 3 i0 (.int .i64 0) 1 8 Try.underlying43 hi hz0 hz1 hz2 rfl (by decide) (.slice (some ⟨w.heap.size, 0, none⟩) 0 0) 0 [] rfl hown.out ad n c (l.flatMap irow) rfl hfl.out (hnews.out _) (flatI_one l) ?e2 ?e3 ?e4 ?_)
    case e2 => unfold maxLen; omega
    case e3 => omega
    case e4 => simp
    intro v3 w3 ho3 hg3 hnil3 hat3
    have hb3 : Below w.heap.size w w3 := ((Below.refl _ _).alloc (Nat.le_refl _) _).grown hg3 (by simp) (by intro g hg; simp [Value.ownBlock] at hg; omega)
    have ho : w3.ownsRow w.heap.size 3 1 v3 n (l.flatMap irow) := by simpa using ho3
    clear hnil3 hat3 hg3 ho3
    go_wp2_with fail
    go_ret
    exact ⟨hb3, v3, rfl, ho⟩

theorem flat_set {α : Type} {f : α → List Value} {sz : Nat} (hf : ∀ a, (f a).length = sz) : ∀ (l : List α) (k j : Nat) (a b : α) (u : Value), l[k]? = some a → j < sz → f b = (f a).set j u → (l.flatMap f).set (k * sz + j) u = (l.set k b).flatMap f
  | [], k, j, a, b, u, h, _, _ => by simp at h
  | x :: l, 0, j, a, b, u, h, hj, hb => by
    simp at h
    subst h
    rw [List.set_cons_zero, List.flatMap_cons, List.flatMap_cons, Nat.zero_mul, Nat.zero_add, hb, List.set_append_left _ _ (by rw [hf]; exact hj)]
  | x :: l, k + 1, j, a, b, u, h, hj, hb => by
    have h' : l[k]? = some a := by simpa using h
    rw [List.set_cons_succ, List.flatMap_cons, List.flatMap_cons, List.set_append_right _ _ (by rw [hf, Nat.succ_mul]; omega), hf, show (k + 1) * sz + j - sz = k * sz + j by rw [Nat.succ_mul]; omega]
    rw [flat_set hf l k j a b u h' hj hb]
/-- What cp has done so far. -/
def CpRel (w : World) (l : List Ho) (k : Nat) (v : Value) (wr : World) : Prop :=
  Below w.heap.size w wr ∧ ∃ X : List Ho, X.length = l.length ∧ wr.ownsRow w.heap.size 45 3 v l.length (X.flatMap Ho.row) ∧ X.map Ho.d = l.map Ho.d ∧ (∀ i x, i < k → X[i]? = some x → OwnI wr w.heap.size x) ∧ (∀ i, k ≤ i → X[i]? = l[i]?)
theorem lies_nil {w : World} {B : Nat} {ak : List Int} (h : LiesI w B none ak) : ak = [] := by
  cases ak with
  | nil => rfl
  | cons y ys =>
    obtain ⟨_, _, e, _⟩ := h.at_ (k := 0) (x := y) rfl
    cases e

set_option maxRecDepth 100000 in
set_option maxHeartbeats 4000000 in
theorem cp_any (l : List Ho) (A : Option Addr) (c : Nat) (w : World) (hD : LiesH w w.heap.size A l) (hl : l.length ≤ 1000000) (hnil : A = none → l = []) :
    Calls Try.prog 11 #[.slice A l.length c] w fun e w' => Below w.heap.size w w' ∧ ∃ v l', e = .returned v ∧ OutH w' w.heap.size v l' ∧ l'.map Ho.d = l.map Ho.d := by
  have Con := Lib.hid (cloneH_any l A c w hD.1 hl hnil)
  obtain ⟨n, hn⟩ : ∃ n, n = l.length := ⟨_, rfl⟩
  rw [← hn] at hl Con ⊢
  have HN := Lib.hid hn
  have HD := Lib.hid (fun W (h : Below w.heap.size w W) => LiesH.later hD h)
  clear hn hD hnil
  go_enter Try.func11, Try.ntmps11
  go_wp2_with fail
  refine Con.out.mono ?_
  rintro e w2 ⟨hb2, v, rfl, ho2⟩
  rcases ho2.2 with ⟨hv, h0⟩ | ⟨g, cap, cur, hv, hgb, _, hnc, hcm, _⟩
  · subst hv h0
    have hl0 : l = [] := List.eq_nil_of_length_eq_zero HN.out.symm
    have HE : Hid (([] : List Ho).map Ho.d = l.map Ho.d) := Lib.hid (by rw [hl0])
    clear ho2 Con hl0
    go_wp2_with fail
    go_loop [8] (fun i => i = .int .i64 0) (fun _ => 0)
    case atStart => rfl
    case round =>
      obtain rfl := hrel
      go_wp2_with fail
      go_ret
      first | exact ⟨hb2, _, [], rfl, OutH.nil _ _, HE.out⟩ | exact ⟨hb2, _, rfl, [], OutH.nil _ _, HE.out⟩
  subst hv
  have HR0 : Hid (CpRel w l 0 (.slice (some ⟨g, 0, none⟩) n cap) w2) := Lib.hid ⟨hb2, l, rfl, by rw [← HN.out]; exact ho2, rfl, fun i x hi => by omega, fun i _ => rfl⟩
  have hcm' : cap ≤ 9223372036854775807 := by unfold maxLen at hcm; omega
  clear ho2 hb2 Con hcm
  go_wp2_with fail
  go_loopw [8] (fun i wr => ∃ (k : Nat), k ≤ n ∧ i = .int .i64 k ∧ Hid (CpRel w l k (.slice (some ⟨g, 0, none⟩) n cap) wr)) (fun i _ => n - (intOf i).toNat)
  case atStart => exact ⟨0, Nat.zero_le _, rfl, HR0⟩
  case round =>
    clear HR0
    obtain ⟨k, hk, rfl, HR⟩ := hrel
    obtain ⟨hb, X, hXl, hown, hmap, hlo, hhi⟩ := HR.out
    by_cases hlt : k < n
    case neg =>
      have hkn : k = n := by omega
      have HF : Hid (OutH wr w.heap.size (.slice (some ⟨g, 0, none⟩) n cap) X) := Lib.hid ⟨by rw [hXl]; exact hown, fun h hh => by
        obtain ⟨i, hi⟩ := List.getElem?_of_mem hh
        exact hlo i h (by have := (List.getElem?_eq_some_iff.1 hi).1; rw [hXl, ← HN.out] at this; omega) hi⟩
      have HM := Lib.hid hmap
      clear hown hmap hlo hhi HR hXl
      go_wp2_with fail
      go_ret
      exact ⟨hb, _, X, rfl, HF.out, HM.out⟩
    obtain ⟨a, ha⟩ := get_of_lt (l := l) (k := k) (by rw [← HN.out]; exact hlt)
    have hXa : X[k]? = some a := (hhi k (Nat.le_refl _)).trans ha
    have hcell : wr.cell? ⟨g, k * 3 + 2, none⟩ = some (.slice a.A a.ak.length a.c) := by
      rw [← HN.out] at hown
      rw [hown.cellAt _ (by omega), flat_get Ho.row 3 Ho.row_len X k 2 a hXa (by omega)]; rfl
    have hIn := (HD.out _ hb).inn ha
    have Con := Lib.hid (cloneI_any a.ak a.A a.c wr hIn.1 hIn.2 (fun h => lies_nil (by have := hIn.1; rwa [h] at this)))
    have HX := Lib.hid (And.intro hXl (And.intro hown (And.intro hmap (And.intro hlo hhi))))
    have HXa := Lib.hid hXa
    have HIn := Lib.hid hIn
    clear HR hXl hown hmap hlo hhi ha hXa hIn
    obtain ⟨q, hq⟩ : ∃ q, q = a.ak.length := ⟨_, rfl⟩
    rw [← hq] at hcell Con
    have HQ := Lib.hid hq
    clear hq
    go_wp2_with fail
    refine Con.out.mono ?_
    rintro e w3 ⟨hb3, v3, rfl, ho3⟩
    obtain ⟨A3, c3, hv3⟩ := own_form2 ho3
    subst hv3
    have hown3 := own_below HX.out.2.1 hb3 (Nat.le_refl _)
    rw [← HN.out] at hown3
    have hc3 : w3.cell? ⟨g, k * 3 + 2, none⟩ = some (.slice a.A a.ak.length a.c) := by
      rw [hown3.cellAt _ (by omega), flat_get Ho.row 3 Ho.row_len X k 2 a HXa.out (by omega)]; rfl
    have hf3 := hown3.frozenAt (k * 3 + 2)
    have hg3 : (Value.slice A3 q c3).ownBlock ≠ some g := by
      rcases own_apart ho3 hown3 (by decide) with h | h
      · rw [h]; simp
      · exact h
    have hgl : g < wr.heap.size := by
      have h1 := HX.out.2.1
      exact (h1.lt g rfl).2
    have hgb' : w.heap.size ≤ g := by
      have h1 := HX.out.2.1
      exact (h1.lt g rfl).1
    have hst := hown3.stored (k * 3 + 2) (.slice A3 q c3)
    rw [flat_set Ho.row_len X k 2 a ⟨a.fl, a.fr, a.ak, A3, c3⟩ (.slice A3 q c3) HXa.out (by omega) (by rw [HQ.out]; rfl)] at hst
    have HNX : Hid (CpRel w l (k + 1) (.slice (some ⟨g, 0, none⟩) n cap) (w3.setCell ⟨g, k * 3 + 2, none⟩ (.slice A3 q c3))) := Lib.hid (by
      refine ⟨(hb.trans (hb3.mono hb.size)).setCell (p := ⟨g, k * 3 + 2, none⟩) hgb' _, X.set k ⟨a.fl, a.fr, a.ak, A3, c3⟩, by rw [List.length_set]; exact HX.out.1, by rw [← HN.out]; exact hst.1, ?_, ?_, ?_⟩
      · rw [← HX.out.2.2.1]
        refine List.ext_getElem? fun i => ?_
        rw [List.getElem?_map, List.getElem?_map, List.getElem?_set]
        split
        · rename_i hik
          subst hik
          rw [HXa.out]
          split
          · rfl
          · rename_i h; exact absurd ((List.getElem?_eq_some_iff.1 HXa.out).1) h
        · rfl
      · intro i x hi hx
        by_cases hik : k = i
        · subst hik
          rw [List.getElem?_set_self ((List.getElem?_eq_some_iff.1 HXa.out).1)] at hx
          injection hx with hx
          subst hx
          refine ⟨?_, HIn.out.2⟩
          dsimp only
          rw [← HQ.out]
          exact own_setCell (own_base ho3 hb.size) hg3
        · rw [List.getElem?_set_ne hik] at hx
          have h1 := HX.out.2.2.2.1 i x (by omega) hx
          have h2 := own_apart h1.1 HX.out.2.1 (by decide)
          refine ⟨own_setCell (own_below h1.1 hb3 (Nat.le_refl _)) ?_, h1.2⟩
          rcases h2 with h2 | h2
          · rw [h2]; simp
          · exact h2
      · intro i hi
        rw [List.getElem?_set_ne (by omega)]
        exact HX.out.2.2.2.2 i (by omega))
    have hkn : k < n := hlt
    clear hst hg3 ho3 hown3 hb3 hcell HX HXa HIn Con hgl hgb'
    go_wp2_with fail
    go_roundw
    case rel => exact ⟨k + 1, by omega, by go_num, HNX⟩
    case measure => simp [intOf]; omega

set_option maxHeartbeats 1000000 in
theorem few_any (nf nd : Nat) (l : List Ho) (A F D : Option Addr) (c cf cd : Nat) (w : World) (hA : Lies w w.heap.size 3 A (l.map Ho.row)) (hI : ∀ h ∈ l, h.ak.length ≤ maxLen) (hl : l.length ≤ maxLen) (hf : nf ≤ maxLen) (hd : nd ≤ maxLen) :
    Calls Try.prog 8 #[.slice F nf cf, .slice A l.length c, .slice D nd cd] w fun e w' => e = .returned (.bool (decide (nf ≤ 20) && decide (l.length ≤ 20) && decide (nd ≤ 40) && l.all (fun h => decide (h.ak.length ≤ 40)))) ∧ w = w' := by
  obtain ⟨T, hT⟩ : ∃ T, T = (decide (nf ≤ 20) && decide (l.length ≤ 20) && decide (nd ≤ 40) && l.all (fun h => decide (h.ak.length ≤ 40))) := ⟨_, rfl⟩
  rw [← hT]
  obtain ⟨n, hn⟩ : ∃ n, n = l.length := ⟨_, rfl⟩
  rw [← hn] at hl hT ⊢
  unfold maxLen at *
  by_cases h1 : nf ≤ 20
  case neg =>
    have d1 : decide ((20 : Int) < (nf : Int)) = true := decide_eq_true (by omega)
    have HE : Hid (T = false) := Lib.hid (by rw [hT, decide_eq_false h1]; rfl)
    clear hT hA hI hn h1
    go_enter Try.func8, Try.ntmps8
    go_wp2_with fail
    go_ret
    exact ⟨ret_bool (by rw [HE.out]), rfl⟩
  have d1 : decide ((20 : Int) < (nf : Int)) = false := decide_eq_false (by omega)
  by_cases h2 : n ≤ 20
  case neg =>
    have d2 : decide ((20 : Int) < (n : Int)) = true := decide_eq_true (by omega)
    have HE : Hid (T = false) := Lib.hid (by rw [hT, decide_eq_false h2]; simp)
    clear hT hA hI hn h1 h2
    go_enter Try.func8, Try.ntmps8
    go_wp2_with fail
    go_ret
    exact ⟨ret_bool (by rw [HE.out]), rfl⟩
  have d2 : decide ((20 : Int) < (n : Int)) = false := decide_eq_false (by omega)
  by_cases h3 : nd ≤ 40
  case neg =>
    have d3 : decide ((40 : Int) < (nd : Int)) = true := decide_eq_true (by omega)
    have HE : Hid (T = false) := Lib.hid (by rw [hT, decide_eq_false h3]; simp)
    clear hT hA hI hn h1 h2 h3
    go_enter Try.func8, Try.ntmps8
    go_wp2_with fail
    go_ret
    exact ⟨ret_bool (by rw [HE.out]), rfl⟩
  have d3 : decide ((40 : Int) < (nd : Int)) = false := decide_eq_false (by omega)
  have HT : Hid (T = l.all (fun h => decide (h.ak.length ≤ 40))) := Lib.hid (by rw [hT, decide_eq_true h1, decide_eq_true h2, decide_eq_true h3]; rfl)
  have HN := Lib.hid hn
  have HI := Lib.hid hI
  clear hT hn h1 h3 hI
  go_enter Try.func8, Try.ntmps8
  go_wp2_with fail
  go_loop [7] (fun i => ∃ (k : Nat), k ≤ n ∧ i = .int .i64 k ∧ Hid (T = (l.drop k).all (fun h => decide (h.ak.length ≤ 40)))) (fun i => n - (intOf i).toNat)
  case atStart => exact ⟨0, Nat.zero_le _, rfl, Lib.hid (by rw [HT.out]; rfl)⟩
  case round =>
    obtain ⟨k, hk, rfl, hst⟩ := hrel
    by_cases hlt : k < n
    · obtain ⟨a, ha⟩ := get_of_lt (l := l) (k := k) (by rw [← HN.out]; exact hlt)
      obtain ⟨b, off, rfl, hbB, hcs⟩ := hA.at_ ha
      have c2 := hcs k a ha 2 _ rfl
      have hst' : Hid (T = (decide (a.ak.length ≤ 40) && (l.drop (k + 1)).all (fun h => decide (h.ak.length ≤ 40)))) := Lib.hid (by rw [hst.out, drop_of_get ha]; rfl)
      have hq := HI.out a (List.mem_of_getElem? ha)
      clear hcs ha hst
      by_cases h4 : a.ak.length ≤ 40
      · have hf := Lib.hid (hst'.out.trans (by rw [decide_eq_true h4]; rfl : _ = (l.drop (k + 1)).all (fun h => decide (h.ak.length ≤ 40))))
        have d4 : decide ((40 : Int) < (a.ak.length : Int)) = false := decide_eq_false (by omega)
        generalize a.ak.length = q at *
        clear hst' h4
        go_wp2_with fail
        go_round
        case rel => exact ⟨k + 1, by omega, by go_num, hf⟩
        case measure => simp [intOf]; omega
      · have hf : Hid (T = false) := Lib.hid (by rw [hst'.out, decide_eq_false h4]; rfl)
        have d4 : decide ((40 : Int) < (a.ak.length : Int)) = true := decide_eq_true (by omega)
        generalize a.ak.length = q at *
        clear hst' h4
        go_wp2_with fail
        go_ret
        exact ⟨ret_bool (by rw [hf.out]), rfl⟩
    · have hf : Hid (T = true) := Lib.hid (by rw [hst.out, List.drop_of_length_le (by rw [← HN.out]; omega)]; rfl)
      go_wp2_with fail
      go_ret
      exact ⟨ret_bool (by rw [hf.out]), rfl⟩

set_option maxRecDepth 100000 in
set_option maxHeartbeats 2000000 in
theorem same_eq (l1 l2 : List Ho) (A1 A2 : Option Addr) (c1 c2 : Nat) (w : World) (h1 : LiesH w w.heap.size A1 l1) (h2 : LiesH w w.heap.size A2 l2) (hl : l1.length ≤ 1000000) (he : l1.map Ho.d = l2.map Ho.d) :
    Calls Try.prog 13 #[.slice A1 l1.length c1, .slice A2 l2.length c2] w fun e w' => e = .returned (.bool true) ∧ Below w.heap.size w w' := by
  have hlen : l2.length = l1.length := by have := congrArg List.length he; simpa using this.symm
  rw [hlen]
  have HG : Hid (∀ (k : Nat) (a : Ho), l1[k]? = some a → ∃ b, l2[k]? = some b ∧ b.fl = a.fl ∧ b.fr = a.fr ∧ b.ak = a.ak) := Lib.hid (fun k a ha => by
    have h := congrArg (fun x => x[k]?) he
    simp only [List.getElem?_map, ha, Option.map_some] at h
    cases hb : l2[k]? with
    | none => rw [hb] at h; cases h
    | some b =>
      rw [hb] at h
      simp only [Option.map_some, Option.some.injEq, Ho.d, Hd.mk.injEq] at h
      exact ⟨b, rfl, h.1.symm, h.2.1.symm, h.2.2.symm⟩)
  have H1 := Lib.hid (fun W (h : Below w.heap.size w W) => LiesH.later h1 h)
  have H2 := Lib.hid (fun W (h : Below w.heap.size w W) => LiesH.later h2 h)
  obtain ⟨n, hn⟩ : ∃ n, n = l1.length := ⟨_, rfl⟩
  rw [← hn] at hl ⊢
  have HN := Lib.hid hn
  clear hn h1 h2 he hlen
  go_enter Try.func13, Try.ntmps13
  go_wp2_with fail
  go_loopw [5] (fun i wr => ∃ (k : Nat), k ≤ n ∧ i = .int .i64 k ∧ Below w.heap.size w wr) (fun i _ => n - (intOf i).toNat)
  case atStart => exact ⟨0, Nat.zero_le _, rfl, Below.refl _ _⟩
  case round =>
    obtain ⟨k, hk, rfl, hb⟩ := hrel
    by_cases hlt : k < n
    case neg =>
      go_wp2_with fail
      go_ret
      exact ⟨rfl, hb⟩
    obtain ⟨a, ha⟩ := get_of_lt (l := l1) (k := k) (by rw [← HN.out]; exact hlt)
    obtain ⟨b, hbk, e1, e2, e3⟩ := HG.out k a ha
    obtain ⟨b1, off1, rfl, hb1, hc1⟩ := (H1.out _ hb).1.at_ ha
    obtain ⟨b2, off2, rfl, hb2, hc2⟩ := (H2.out _ hb).1.at_ hbk
    have p0 := hc1 k a ha 0 _ rfl
    have p1 := hc1 k a ha 1 _ rfl
    have p2 := hc1 k a ha 2 _ rfl
    have q0 := hc2 k b hbk 0 _ rfl
    have q1 := hc2 k b hbk 1 _ rfl
    have q2 := hc2 k b hbk 2 _ rfl
    rw [e1] at q0
    rw [e2] at q1
    rw [e3] at q2
    simp only [Nat.add_zero] at p0 q0
    obtain ⟨q, hq⟩ : ∃ q, q = a.ak.length := ⟨_, rfl⟩
    have hI := (H1.out _ hb).inn ha
    have hqm : q ≤ 1000000 := by rw [hq]; exact hI.2
    obtain ⟨AA, hAA⟩ : ∃ AA, AA = a.A := ⟨_, rfl⟩
    obtain ⟨AB, hAB⟩ : ∃ AB, AB = b.A := ⟨_, rfl⟩
    rw [← hq, ← hAA] at p2
    rw [← hq, ← hAB] at q2
    have HIA : Hid (∀ W, Below w.heap.size w W → LiesI W W.heap.size AA a.ak) := Lib.hid (fun W h => by rw [hAA]; exact ((H1.out W h).inn ha).1)
    have HIB : Hid (∀ W, Below w.heap.size w W → LiesI W W.heap.size AB a.ak) := Lib.hid (fun W h => by rw [hAB, ← e3]; exact ((H2.out W h).inn hbk).1)
    have HP : Hid (∀ n, (wr.drewN n).cell? ⟨b1, off1 + k * 3 + 2, none⟩ = some (.slice AA q a.c) ∧ (wr.drewN n).cell? ⟨b2, off2 + k * 3 + 2, none⟩ = some (.slice AB q b.c)) := Lib.hid (fun _ => ⟨p2, q2⟩)
    have HQ := Lib.hid hq
    clear hc1 hc2 ha hbk e1 e2 e3 hI hq hAA hAB
    go_wp2_with fail
    go_quiet (fail)
    have hB := below_drewN hb nq
    have HP2 : Hid (∀ W, Below wr.heap.size wr W → W.cell? ⟨b1, off1 + k * 3 + 2, none⟩ = some (.slice AA q a.c) ∧ W.cell? ⟨b2, off2 + k * 3 + 2, none⟩ = some (.slice AB q b.c)) := Lib.hid (fun W h => ⟨(h.cell (p := ⟨b1, off1 + k * 3 + 2, none⟩) hb1).trans p2, (h.cell (p := ⟨b2, off2 + k * 3 + 2, none⟩) hb2).trans q2⟩)
    have hW : Below wr.heap.size wr (wr.drewN nq) := below_drewN (Below.refl _ _) nq
    clear p0 p1 q0 q1 HP
    go_wp2_with fail
    go_loopw [6] (fun i wi => ∃ (j : Nat), j ≤ q ∧ i = .int .i64 j ∧ Below wr.heap.size wr wi) (fun i _ => q - (intOf i).toNat)
    case atStart => exact ⟨0, Nat.zero_le _, rfl, hW⟩
    case round =>
      clear hW hB p2 q2
      obtain ⟨j, hj, rfl, hbi⟩ := hrel
      have hBi := hb.trans (hbi.mono hb.size)
      obtain ⟨p2, q2⟩ := HP2.out _ hbi
      by_cases hjq : j < q
      case neg =>
        go_wp2_with fail
        go_roundw
        case rel => exact ⟨k + 1, by omega, by go_num, hBi⟩
        case measure => simp [intOf]; omega
      obtain ⟨y, hy⟩ := get_of_lt (l := a.ak) (k := j) (by rw [← HQ.out]; exact hjq)
      obtain ⟨ib, ioff, rfl, _, hic⟩ := (HIA.out _ hBi).at_ hy
      obtain ⟨jb, joff, rfl, _, hjc⟩ := (HIB.out _ hBi).at_ hy
      have y1 := hic j y hy
      have y2 := hjc j y hy
      clear hic hjc hy
      go_wp2_with fail
      go_quiet (fail)
      have hb2' := below_drewN hbi nq
      go_wp2_with fail
      go_roundw
      case rel => exact ⟨j + 1, by omega, by go_num, hb2'⟩
      case measure => simp [intOf]; omega
end Go.Proofs.Ytepamedbbbfjkaa

/- Walks: check, Hear of package node and of its reference. -/
import Derived.Test.YtepamedbbbfjkaaNodS
import Derived.Test.YtepamedbbbfjkaaNod4
import Derived.Test.YtepamedbbbfjkaaNod5
namespace Go.Proofs.Ytepamedbbbfjkaa
open Go.RowKit
open Nd
theorem hdGo_up (fs : List Fl) : ∀ (l : List Hd) (p : Option Hd), hdGo fs p l = true → (∀ q, p = some q → ∀ a ∈ l, q.fl < a.fl) ∧ l.Pairwise (fun a b => a.fl < b.fl)
  | [], p, _ => ⟨fun _ _ a ha => (by cases ha), List.Pairwise.nil⟩
  | h :: l, p, hg => by
    simp only [hdGo, Bool.and_eq_true] at hg
    obtain ⟨⟨h1, _⟩, h2⟩ := hg
    obtain ⟨i1, i2⟩ := hdGo_up fs l (some h) h2
    have i3 := i1 h rfl
    refine ⟨fun q hq a ha => ?_, List.Pairwise.cons i3 i2⟩
    subst hq
    have h4 : q.fl < h.fl := by
      simp only [hdB, Bool.and_eq_true, decide_eq_true_eq] at h1
      exact h1.1.1.2
    rcases List.mem_cons.1 ha with rfl | ha
    · exact h4
    · have := i3 a ha; omega
theorem up_of {l : List Ho} (h : (l.map Ho.d).Pairwise (fun a b => a.fl < b.fl)) : UpH l := by
  rw [List.pairwise_map] at h
  intro i j a b hij ha hb
  obtain ⟨h1, e1⟩ := List.getElem?_eq_some_iff.1 ha
  obtain ⟨h2, e2⟩ := List.getElem?_eq_some_iff.1 hb
  have := (List.pairwise_iff_getElem.1 h) i j h1 h2 hij
  rw [e1, e2] at this
  exact this
theorem chkH_zero {fs : List Fl} {l : List Hd} (h : chkH fs l = 0) : (chkF fs).2 = 0 ∧ hdGo fs none l = true := by
  unfold chkH at h
  split at h
  · assumption
  · cases h
theorem chk_zero {fs : List Fl} {self slot : Int} {l : List Hd} (h : chk fs self slot l = 0) : chkH fs l = 0 ∧ 0 ≤ self ∧ self < 32 ∧ 0 ≤ slot ∧ slot ≤ 1073741824 := by
  unfold chk at h
  split at h
  · rename_i h1
    split at h
    · rename_i h2; exact ⟨h1, h2⟩
    · cases h
  · cases h
theorem chkH_cases (fs : List Fl) (l : List Hd) : chkH fs l = 0 ∨ chkH fs l = 1 := by unfold chkH; split <;> simp

set_option maxHeartbeats 1000000 in
theorem check_any (fs : List Fl) (l : List Ho) (A D : Option Addr) (c cd : Nat) (self slot : Int) (w : World) (hA : Lies w w.heap.size 6 A (fs.map Fl.row)) (hf : fs.length ≤ 1000000) (hD : LiesH w w.heap.size D l) (hl : l.length ≤ 1000000) :
    Calls Try.prog 28 #[.slice A fs.length c, .int .i64 self, .int .i64 slot, .slice D l.length cd] w fun e w' => e = .returned (.int .i64 (chk fs self slot (l.map Ho.d))) ∧ Below w.heap.size w w' := by
  have con := nCheck_any fs l A D c cd w hA hf hD hl
  obtain ⟨T, hT⟩ : ∃ T, T = chk fs self slot (l.map Ho.d) := ⟨_, rfl⟩
  rw [← hT]
  have HT : Hid (T = if chkH fs (l.map Ho.d) = 0 then (if 0 ≤ self ∧ self < 32 ∧ 0 ≤ slot ∧ slot ≤ 1073741824 then 0 else 2) else 1) := Lib.hid hT
  rcases chkH_cases fs (l.map Ho.d) with h | h
  · rw [h] at con HT
    have Con := Lib.hid con
    generalize fs.length = m at *
    generalize l.length = n at *
    clear con hT hA hD h
    go_enter Try.func28, Try.ntmps28
    go_wp2_with (go_at_call 15; (with_reducible refine Con.out.mono ?_); rintro e w2 ⟨rfl, hb2⟩)
    all_goals
      go_ret
      refine ⟨ret_int ?_, hb2⟩
      rw [HT.out, if_pos (by trivial)]
      try simp only [decide_eq_true_eq, Bool.not_eq_true', Bool.not_eq_false', decide_eq_false_iff_not] at *
      first
        | (rw [if_neg (by omega)]; done)
        | (rw [if_pos (by omega)]; done)
  · rw [h] at con HT
    have Con := Lib.hid con
    have HE : Hid (T = 1) := Lib.hid (by rw [HT.out]; rfl)
    generalize fs.length = m at *
    generalize l.length = n at *
    clear con hT hA hD h HT
    go_enter Try.func28, Try.ntmps28
    go_wp2_with (go_at_call 15; (with_reducible refine Con.out.mono ?_); rintro e w2 ⟨rfl, hb2⟩)
    go_ret
    exact ⟨ret_int (by rw [HE.out]), hb2⟩

set_option maxHeartbeats 1000000 in
theorem rcheck_any (fs : List Fl) (l : List Ho) (A D : Option Addr) (c cd : Nat) (self slot : Int) (w : World) (hA : Lies w w.heap.size 6 A (fs.map Fl.row)) (hf : fs.length ≤ 1000000) (hD : LiesH w w.heap.size D l) (hl : l.length ≤ 1000000) :
    Calls Try.prog 35 #[.slice A fs.length c, .int .i64 self, .int .i64 slot, .slice D l.length cd] w fun e w' => e = .returned (.int .i64 (chk fs self slot (l.map Ho.d))) ∧ Below w.heap.size w w' := by
  have con := rnCheck_any fs l A D c cd w hA hf hD hl
  obtain ⟨T, hT⟩ : ∃ T, T = chk fs self slot (l.map Ho.d) := ⟨_, rfl⟩
  rw [← hT]
  have HT : Hid (T = if chkH fs (l.map Ho.d) = 0 then (if 0 ≤ self ∧ self < 32 ∧ 0 ≤ slot ∧ slot ≤ 1073741824 then 0 else 2) else 1) := Lib.hid hT
  rcases chkH_cases fs (l.map Ho.d) with h | h
  · rw [h] at con HT
    have Con := Lib.hid con
    generalize fs.length = m at *
    generalize l.length = n at *
    clear con hT hA hD h
    go_enter Try.func35, Try.ntmps35
    go_wp2_with (go_at_call 63; (with_reducible refine Con.out.mono ?_); rintro e w2 ⟨rfl, hb2⟩)
    all_goals
      go_ret
      refine ⟨ret_int ?_, hb2⟩
      rw [HT.out, if_pos (by trivial)]
      try simp only [decide_eq_true_eq, Bool.not_eq_true', Bool.not_eq_false', decide_eq_false_iff_not] at *
      first
        | (rw [if_neg (by omega)]; done)
        | (rw [if_pos (by omega)]; done)
  · rw [h] at con HT
    have Con := Lib.hid con
    have HE : Hid (T = 1) := Lib.hid (by rw [HT.out]; rfl)
    generalize fs.length = m at *
    generalize l.length = n at *
    clear con hT hA hD h HT
    go_enter Try.func35, Try.ntmps35
    go_wp2_with (go_at_call 63; (with_reducible refine Con.out.mono ?_); rintro e w2 ⟨rfl, hb2⟩)
    go_ret
    exact ⟨ret_int (by rw [HE.out]), hb2⟩

set_option maxRecDepth 100000 in
set_option maxHeartbeats 1000000 in
theorem hear_any (fs : List Fl) (l : List Ho) (A D : Option Addr) (c cd : Nat) (self slot cs co cf ct cl frame : Int) (w : World) (hA : Lies w w.heap.size 6 A (fs.map Fl.row)) (hf : fs.length ≤ 1000000) (hD : LiesH w w.heap.size D l) (hl : l.length ≤ 10000) :
    Calls Try.prog 9 #[.slice A fs.length c, .int .i64 self, .int .i64 slot, .slice D l.length cd, .agg #[.int .i64 cs, .int .i64 co, .int .i64 cf, .int .i64 ct, .int .i64 cl], .int .i64 frame] w fun e w' => Below w.heap.size w w' ∧ ∃ v l', e = .returned (.tuple #[v, .bool (Nd.hear fs self slot (l.map Ho.d) cl frame).2.1, .int .i64 (Nd.hear fs self slot (l.map Ho.d) cl frame).2.2]) ∧ OutH w' w.heap.size v l' ∧ l'.map Ho.d = (Nd.hear fs self slot (l.map Ho.d) cl frame).1 := by
  obtain ⟨R, hR⟩ : ∃ R, R = Nd.hear fs self slot (l.map Ho.d) cl frame := ⟨_, rfl⟩
  rw [← hR]
  have HR := Lib.hid (hR.trans rfl : R = (if chk fs self slot (l.map Ho.d) = 0 then
    match fs[(findF fs cl).toNat]? with
    | none => (l.map Ho.d, false, 0)
    | some f =>
      if findF fs cl < 0 ∨ 0 ≤ findH (l.map Ho.d) cl then (l.map Ho.d, false, 0)
      else if (cur f slot).2 = true ∧ (cur f slot).1 = frame then (ins (l.map Ho.d) ⟨cl, frame, []⟩, f.tn == self, 0) else (l.map Ho.d, false, 0)
  else ([], false, chk fs self slot (l.map Ho.d))))
  have hb1 : Below w.heap.size w (w.alloc (.cells #[.int .i64 cs, .int .i64 co, .int .i64 cf, .int .i64 ct, .int .i64 cl] 25)) := (Below.refl _ _).alloc (Nat.le_refl _) _
  have rX := Row.new w [.int .i64 cs, .int .i64 co, .int .i64 cf, .int .i64 ct, .int .i64 cl] 25
  obtain ⟨W1, hW1⟩ : ∃ W1, W1 = w.alloc (.cells #[.int .i64 cs, .int .i64 co, .int .i64 cf, .int .i64 ct, .int .i64 cl] 25) := ⟨_, rfl⟩
  have rX' : Row W1 w.heap.size [.int .i64 cs, .int .i64 co, .int .i64 cf, .int .i64 ct, .int .i64 cl] := by rw [hW1]; exact rX
  rw [← hW1] at hb1
  obtain ⟨M, hM⟩ : ∃ M, M = W1.heap.size := ⟨_, rfl⟩
  have hwM : w.heap.size < M := by rw [hM, hW1]; simp
  have HW := Lib.hid (fun W (h : Below M W1 W) => (show Below w.heap.size w W ∧ Row W w.heap.size [.int .i64 cs, .int .i64 co, .int .i64 cf, .int .i64 ct, .int .i64 cl] ∧ M ≤ W.heap.size from ⟨hb1.trans (h.mono (Nat.le_of_lt hwM)), rX'.below h hwM, by rw [hM]; exact h.size⟩))
  have HA := Lib.hid (fun W (h : Below M W1 W) => Lies.later hA (HW.out W h).1)
  have HD := Lib.hid (fun W (h : Below M W1 W) => LiesH.later hD (HW.out W h).1)
  have HCk := Lib.hid (check_any fs l A D c cd self slot W1 (HA.out _ (Below.refl _ _)) hf (HD.out _ (Below.refl _ _)) (by omega))
  have HCo := Lib.hid (fun W h => copied_any l D cd W (HD.out W h) (by omega))
  have HFi := Lib.hid (fun W h => find_any fs cl A c W (HA.out W h) hf)
  have HUp := Lib.hid (fun (h : chk fs self slot (l.map Ho.d) = 0) (l' : List Ho) (e : l'.map Ho.d = l.map Ho.d) => up_of (l := l') (by rw [e]; exact (hdGo_up fs _ none (chkH_zero (chk_zero h).1).2).2))
  have HFh := Lib.hid (fun W h => hfind_any l cl D cd W (HD.out W h) (by omega))
  have HSp := Lib.hid (findF_bounds fs cl)
  have HMap : Hid (∀ l' : List Ho, l'.map Ho.d = l.map Ho.d → l'.length = l.length) := Lib.hid (fun l' e => by have := congrArg List.length e; simpa using this)
  clear hR hA hD rX rX' hb1
  obtain ⟨n, hn⟩ : ∃ n, n = l.length := ⟨_, rfl⟩
  obtain ⟨m, hm⟩ : ∃ m, m = fs.length := ⟨_, rfl⟩
  rw [← hn] at hl HCk HCo HMap HFh ⊢
  rw [← hm] at hf HCk HFi ⊢
  have HNf := Lib.hid hm
  have HM := Lib.hid hM
  have HW1 := Lib.hid hW1
  obtain ⟨K, hK⟩ : ∃ K, K = chk fs self slot (l.map Ho.d) := ⟨_, rfl⟩
  rw [← hK] at HR HCk HUp
  obtain ⟨LD, hLD⟩ : ∃ LD, LD = l.map Ho.d := ⟨_, rfl⟩
  rw [← hLD] at HR HCo HMap HUp HFh
  clear hn hm hM hW1 hK
  go_enter Try.func9, Try.ntmps9
  go_wp2_with fail
  rw [← HW1.out]
  refine HCk.out.mono ?_
  rintro e w2 ⟨rfl, hb2⟩
  rw [← HM.out] at hb2
  by_cases hK : K = 0
  case neg =>
    have HE : Hid (R = ([], false, K)) := Lib.hid (by rw [HR.out, if_neg hK])
    have hK' : (K != 0) = true := by simpa using hK
    clear hK HR
    go_wp2_with fail
    refine bodyPost_ret (results_tmp3 rfl _ _ _) rfl ?_
    exact ⟨(HW.out _ hb2).1, .slice none 0 0, [], by rw [HE.out]; rfl, OutH.nil _ _, by rw [HE.out]; rfl⟩
  subst hK
  have r2 := (HW.out _ hb2).2.1
  unfold Row at r2
  go_wp2_with fail
  refine (HCo.out _ hb2).mono ?_
  rintro e w3 ⟨hb3, v3, l3, rfl, ho3, hm3⟩
  have hB3 : Below M W1 w3 := hb2.trans (hb3.mono (HW.out _ hb2).2.2)
  have HO3 := Lib.hid (ho3.base (HW.out _ hb2).2.2)
  have HM3 := Lib.hid hm3
  obtain ⟨A3, c3, hv3⟩ := own_form2 ho3.1
  have hl3 : l3.length = n := HMap.out l3 hm3
  rw [hl3] at hv3
  subst hv3
  have HL3 := Lib.hid hl3
  clear r2 ho3 hm3 hl3 hb3 hb2
  have r3 := (HW.out _ hB3).2.1
  unfold Row at r3
  go_wp2_with fail
  refine (HFi.out _ hB3).mono ?_
  rintro e w4 ⟨rfl, hb4⟩
  have hB4 : Below M W1 w4 := hB3.trans (hb4.mono (HW.out _ hB3).2.2)
  have HO4 := Lib.hid (HO3.out.below hb4 (Nat.le_refl _))
  clear HO3 hb4
  clear r3 hB3
  have r4 := (HW.out _ hB4).2.1
  unfold Row at r4
  rcases HSp.out with hF | ⟨i, f, hfi, hid, hF⟩
  · have HE : Hid (R = (LD, false, 0)) := Lib.hid (by
      rw [HR.out, if_pos (by trivial)]
      split
      · rfl
      · rw [if_pos (.inl (by rw [hF]; decide))])
    rw [hF]
    clear HR
    go_wp2_with fail
    refine bodyPost_ret (results_tmp3 rfl _ _ _) rfl ?_
    exact ⟨(HW.out _ hB4).1, _, l3, by rw [HE.out]; rfl, HO4.out.base (Nat.le_of_lt hwM), by rw [HE.out, HM3.out]⟩
  have HR2 : Hid (R = if 0 ≤ findH LD cl then (LD, false, 0) else if (cur f slot).2 = true ∧ (cur f slot).1 = frame then (ins LD ⟨cl, frame, []⟩, f.tn == self, 0) else (LD, false, 0)) := Lib.hid (by
    rw [HR.out, if_pos (by trivial), hF]
    simp only [Int.toNat_natCast, hfi]
    by_cases h : 0 ≤ findH LD cl
    · rw [if_pos (.inr h), if_pos h]
    · rw [if_neg (by omega), if_neg h])
  rw [hF]
  have hneg : decide ((i : Int) < 0) = false := decide_eq_false (by omega)
  clear HR hid hF
  have him : i < m := by rw [HNf.out]; exact (List.getElem?_eq_some_iff.1 hfi).1
  go_wp2_with fail
  refine (HFh.out _ hB4).mono ?_
  rintro e w5 ⟨rfl, hb5⟩
  have hB5 : Below M W1 w5 := hB4.trans (hb5.mono (HW.out _ hB4).2.2)
  have HO5 := Lib.hid (HO4.out.below hb5 (Nat.le_refl _))
  clear HO4 r4 hb5 hB4
  have r5 := (HW.out _ hB5).2.1
  unfold Row at r5
  obtain ⟨G, hG⟩ : ∃ G, G = findH LD cl := ⟨_, rfl⟩
  rw [← hG] at HR2 ⊢
  clear hG
  by_cases hG0 : 0 ≤ G
  · have HE : Hid (R = (LD, false, 0)) := Lib.hid (by rw [HR2.out, if_pos hG0])
    clear HR2
    go_wp2_with fail
    refine bodyPost_ret (results_tmp3 rfl _ _ _) rfl ?_
    exact ⟨(HW.out _ hB5).1, _, l3, by rw [HE.out]; rfl, HO5.out.base (Nat.le_of_lt hwM), by rw [HE.out, HM3.out]⟩
  have hG1 : decide (0 ≤ G) = false := decide_eq_false hG0
  have HR3 : Hid (R = if (cur f slot).2 = true ∧ (cur f slot).1 = frame then (ins LD ⟨cl, frame, []⟩, f.tn == self, 0) else (LD, false, 0)) := Lib.hid (by rw [HR2.out, if_neg hG0])
  clear HR2 hG0
  obtain ⟨b, off, rfl, hbB, hcs⟩ := (HA.out _ hB5).at_ hfi
  have Hcs := Lib.hid (fun W (h : Below M W1 W) => ((HA.out W h).at_ hfi))
  have f0 := hcs i f hfi 0 _ rfl
  have f1 := hcs i f hfi 1 _ rfl
  have f2 := hcs i f hfi 2 _ rfl
  have f3 := hcs i f hfi 3 _ rfl
  have f4 := hcs i f hfi 4 _ rfl
  have f5 := hcs i f hfi 5 _ rfl
  simp only [Nat.add_zero] at f0 f1 f2 f3 f4 f5
  have f2c := f2
  have hbw : b < w.heap.size + 1 ∨ True := .inr trivial
  have con := fun W => current_any f slot W
  obtain ⟨⟨cn, cb⟩, hcur⟩ : ∃ X, cur f slot = X := ⟨_, rfl⟩
  rw [hcur] at con HR3
  dsimp only at con HR3
  have hbM : b < M := by
    obtain ⟨b', off', e, hb', _⟩ := (HA.out W1 (Below.refl _ _)).at_ hfi
    injection e with e
    injection e with e
    rw [e, HM.out]; exact hb'
  have Con := Lib.hid con
  clear con hcur hcs hbw
  go_wp2_with fail
  refine (Con.out _).mono ?_
  rintro e w6 ⟨rfl, hb6⟩
  have hB6 : Below M W1 w6 := hB5.trans (hb6.mono (HW.out _ hB5).2.2)
  have HO6 := Lib.hid (HO5.out.below hb6 (Nat.le_refl _))
  have t2 : w6.cell? ⟨b, off + i * 6 + 2, none⟩ = some (.int .i64 f.tn) := (hb6.cell (p := ⟨b, off + i * 6 + 2, none⟩) hbB).trans f2
  have r6 := (HW.out _ hB6).2.1
  clear r5 f0 f1 f2 f3 f4 f5 f2c hb6 Con
  cases cb with
  | false =>
    have HE : Hid (R = (LD, false, 0)) := Lib.hid (by rw [HR3.out, if_neg (by simp)])
    clear HR3
    go_wp2_with fail
    refine bodyPost_ret (results_tmp3 rfl _ _ _) rfl ?_
    exact ⟨(HW.out _ hB6).1, _, l3, by rw [HE.out]; rfl, HO6.out.base (Nat.le_of_lt hwM), by rw [HE.out, HM3.out]⟩
  | true =>
  by_cases hfr : cn = frame
  case neg =>
    have HE : Hid (R = (LD, false, 0)) := Lib.hid (by rw [HR3.out, if_neg (by simp [hfr])])
    have hfr' : (cn != frame) = true := by simpa using hfr
    clear HR3 hfr
    go_wp2_with fail
    refine bodyPost_ret (results_tmp3 rfl _ _ _) rfl ?_
    exact ⟨(HW.out _ hB6).1, _, l3, by rw [HE.out]; rfl, HO6.out.base (Nat.le_of_lt hwM), by rw [HE.out, HM3.out]⟩
  subst hfr
  have HE : Hid (R = (ins LD ⟨cl, cn, []⟩, f.tn == self, 0)) := Lib.hid (by rw [HR3.out, if_pos ⟨rfl, rfl⟩])
  have hfr' : (cn != cn) = false := by simp
  clear HR3
  go_wp2_with fail
  have hB6d : Below M W1 w6.drew := hB6.drew
  have xx : ∀ (x : ExtW M w6.drew) (i : Nat), x.val.cell? ⟨w.heap.size, i, none⟩ = _ := (Row.drew r6).ext hwM
  have x2 : ∀ (x : ExtW M w6.drew), x.val.cell? ⟨b, off + i * 6 + 2, none⟩ = some (.int .i64 f.tn) := fun x => (x.cell _ hbM).trans t2
  refine wp_region_rough (M) 16 [] #[false, false, false, false, false, false, false, false, false, false, false, false, false, false, false, false] (by kernel_rfl) rfl rfl ?_
  refine anyR_take0 0 _ (nth0) rfl (by kernel_rfl) (by kernel_rfl) (by kernel_rfl) (l' := #[true, false, false, false, false, false, false, false, false, false, false, false, false, false, false, false]) rfl rfl ?_; intro K hK; go_big_quiet_op; go_big_quiet_on
  refine anyR_take0 1 _ (nthS (nth0)) rfl (by kernel_rfl) (by kernel_rfl) (by kernel_rfl) (l' := #[true, true, false, false, false, false, false, false, false, false, false, false, false, false, false, false]) rfl rfl ?_; intro K hK; go_big_quiet_op; go_big_quiet_on
  refine anyR_take 2 _ (nthS (nthS (nth0))) rfl (by kernel_rfl) (by kernel_rfl) (by kernel_rfl) (by kernel_rfl) (l' := #[true, true, true, false, false, false, false, false, false, false, false, false, false, false, false, false]) rfl rfl ?_; intro K hK; go_big_quiet_op; go_big_quiet_on
  refine anyR_take0 3 _ (nthS (nthS (nthS (nth0)))) rfl (by kernel_rfl) (by kernel_rfl) (by kernel_rfl) (l' := #[true, true, true, true, false, false, false, false, false, false, false, false, false, false, false, false]) rfl rfl ?_; intro K hK; go_big_quiet_op; go_big_quiet_on
  refine anyR_take0 4 _ (nthS (nthS (nthS (nthS (nth0))))) rfl (by kernel_rfl) (by kernel_rfl) (by kernel_rfl) (l' := #[true, true, true, true, true, false, false, false, false, false, false, false, false, false, false, false]) rfl rfl ?_; intro K hK; go_big_quiet_op; go_big_quiet_on
  refine anyR_take0 6 _ (nthS (nthS (nthS (nthS (nthS (nthS (nth0))))))) rfl (by kernel_rfl) (by kernel_rfl) (by kernel_rfl) (l' := #[true, true, true, true, true, false, true, false, false, false, false, false, false, false, false, false]) rfl rfl ?_; intro K hK; go_big_quiet_op; go_big_quiet_on
  refine anyR_take0 7 _ (nthS (nthS (nthS (nthS (nthS (nthS (nthS (nth0)))))))) rfl (by kernel_rfl) (by kernel_rfl) (by kernel_rfl) (l' := #[true, true, true, true, true, false, true, true, false, false, false, false, false, false, false, false]) rfl rfl ?_; intro K hK; go_big_quiet_op; go_big_quiet_on
  refine anyR_take0 8 _ (nthS (nthS (nthS (nthS (nthS (nthS (nthS (nthS (nth0))))))))) rfl (by kernel_rfl) (by kernel_rfl) (by kernel_rfl) (l' := #[true, true, true, true, true, false, true, true, true, false, false, false, false, false, false, false]) rfl rfl ?_; intro K hK; go_big_quiet_op; go_big_quiet_on
  refine anyR_take0 9 _ (nthS (nthS (nthS (nthS (nthS (nthS (nthS (nthS (nthS (nth0)))))))))) rfl (by kernel_rfl) (by kernel_rfl) (by kernel_rfl) (l' := #[true, true, true, true, true, false, true, true, true, true, false, false, false, false, false, false]) rfl rfl ?_; intro K hK; go_big_quiet_op; go_big_quiet_on
  refine anyR_take 10 _ (nthS (nthS (nthS (nthS (nthS (nthS (nthS (nthS (nthS (nthS (nth0))))))))))) rfl (by kernel_rfl) (by kernel_rfl) (by kernel_rfl) (by kernel_rfl) (l' := #[true, true, true, true, true, false, true, true, true, true, true, false, false, false, false, false]) rfl rfl ?_; intro K hK; go_big_quiet_op; go_big_quiet_on
  refine anyR_take0 11 _ (nthS (nthS (nthS (nthS (nthS (nthS (nthS (nthS (nthS (nthS (nthS (nth0)))))))))))) rfl (by kernel_rfl) (by kernel_rfl) (by kernel_rfl) (l' := #[true, true, true, true, true, false, true, true, true, true, true, true, false, false, false, false]) rfl rfl ?_; intro K hK; go_big_quiet_op; go_big_quiet_on
  refine anyR_take0 12 _ (nthS (nthS (nthS (nthS (nthS (nthS (nthS (nthS (nthS (nthS (nthS (nthS (nth0))))))))))))) rfl (by kernel_rfl) (by kernel_rfl) (by kernel_rfl) (l' := #[true, true, true, true, true, false, true, true, true, true, true, true, true, false, false, false]) rfl rfl ?_; intro K hK; go_big_quiet_op; go_big_quiet_on
  refine anyR_one 5 _ (nthS (nthS (nthS (nthS (nthS (nth0)))))) (by kernel_rfl) (l' := #[true, true, true, true, true, true, true, true, true, true, true, true, true, false, false, false]) rfl ?_
  clear xx x2
  go_wp2_with fail
  refine (hadd_any l3 cl cn M (.slice A3 n c3) w6.drew (show OutH w6.drew M (.slice A3 n c3) l3 from HO6.out) (HUp.out (by trivial) l3 HM3.out) (by rw [HL3.out]; omega) (HW.out _ hB6d).2.2).mono ?_
  rintro e w7 ⟨hb7, v7, l7, rfl, ho7, hm7⟩
  obtain ⟨A7, c7, hv7⟩ := own_form2 ho7.1
  subst hv7
  go_wp2_with fail
  refine OneR_mk (hb7) ?_
  refine anyR_take0 13 _ (nthS (nthS (nthS (nthS (nthS (nthS (nthS (nthS (nthS (nthS (nthS (nthS (nthS (nth0)))))))))))))) rfl (by kernel_rfl) (by kernel_rfl) (by kernel_rfl) (l' := #[true, true, true, true, true, true, true, true, true, true, true, true, true, true, false, false]) rfl rfl ?_; intro K hK; go_big_quiet_op; go_big_quiet_on
  refine anyR_take0 14 _ (nthS (nthS (nthS (nthS (nthS (nthS (nthS (nthS (nthS (nthS (nthS (nthS (nthS (nthS (nth0))))))))))))))) rfl (by kernel_rfl) (by kernel_rfl) (by kernel_rfl) (l' := #[true, true, true, true, true, true, true, true, true, true, true, true, true, true, true, false]) rfl rfl ?_; intro K hK; go_big_quiet_op; go_big_quiet_on
  refine anyR_take0 15 _ (nthS (nthS (nthS (nthS (nthS (nthS (nthS (nthS (nthS (nthS (nthS (nthS (nthS (nthS (nthS (nth0)))))))))))))))) rfl (by kernel_rfl) (by kernel_rfl) (by kernel_rfl) (l' := #[true, true, true, true, true, true, true, true, true, true, true, true, true, true, true, true]) rfl rfl ?_; intro K hK; go_big_quiet_op; go_big_quiet_on
  refine anyR_end (by kernel_rfl) ?_
  have hB7 : Below M W1 w7 := hB6d.trans (hb7)
  have HO7 := Lib.hid ho7
  have HM7 := Lib.hid hm7
  clear ho7 hm7 hb7
  go_wp2_with fail
  refine bodyPost_ret (results_tmp3 rfl _ _ _) rfl ?_
  exact ⟨(HW.out _ hB7).1, _, l7, by rw [HE.out]; rfl, HO7.out.base (Nat.le_of_lt hwM), by rw [HM7.out, HM3.out, HE.out]⟩
end Go.Proofs.Ytepamedbbbfjkaa

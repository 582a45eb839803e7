/- Walks: Current, Find, Check of package flow and of its reference. -/
import Derived.Test.YtepamedbbbfjkaaNod1
import Derived.Shelf.Abstract
namespace Go.Proofs.Ytepamedbbbfjkaa
open Go.RowKit
open Nd

theorem Lies.at_ {α : Type} {f : α → List Value} {sz : Nat} {w : World} {B : Nat} {A : Option Addr} {l : List α} (h : Lies w B sz A (l.map f)) {k : Nat} {a : α} (ha : l[k]? = some a) :
    ∃ b off, A = some ⟨b, off, none⟩ ∧ b < B ∧ ∀ k a, l[k]? = some a → ∀ j u, (f a)[j]? = some u → w.cell? ⟨b, off + k * sz + j, none⟩ = some u := by
  have hne : l.map f ≠ [] := by
    intro h0
    have : l = [] := by simpa using h0
    subst this
    simp at ha
  obtain ⟨b, off, e, hb, hc⟩ := h hne
  exact ⟨b, off, e, hb, fun k a ha => hc k (f a) (by simp [ha])⟩

set_option maxRecDepth 100000 in
set_option maxHeartbeats 1000000 in
theorem indexF_any (p : Fl → Bool) (g : FuncId) (cb : Array Value) (l : List Fl) (A : Option Addr) (c : Nat) (w : World) (eg : ∀ args w, (callFunc g args).run Try.prog w = .ok (.enter g args) w)
    (hA : Lies w w.heap.size 6 A (l.map Fl.row)) (hl : l.length ≤ 1000000) (hp : ∀ W, Below w.heap.size w W → ∀ a, a ∈ l → Calls Try.prog g (#[.agg #[.int .i64 a.id, .int .i64 a.fr, .int .i64 a.tn, .int .i64 a.pe, .int .i64 a.ph, .int .i64 a.dl]] ++ cb) W fun e w' => e = .returned (.bool (p a)) ∧ Below W.heap.size W w') :
    Calls Try.prog 56 #[.slice A l.length c, .func (.func g) #[] cb] w fun e w' => e = .returned (.int .i64 (idxP p l 0)) ∧ Below w.heap.size w w' := by
  obtain ⟨n, hn⟩ : ∃ n, n = l.length := ⟨_, rfl⟩
  rw [← hn] at hl ⊢
  have HN := Lib.hid hn
  obtain ⟨T, hT⟩ : ∃ T, T = idxP p l 0 := ⟨_, rfl⟩
  rw [← hT]
  have HT := Lib.hid hT
  have HP := Lib.hid hp
  clear hn hT hp
  go_enter Try.func56, Try.ntmps56
  go_wp2_with fail
  go_loopw [8] (fun i wr => ∃ (k : Nat), k ≤ n ∧ i = .int .i64 k ∧ Below w.heap.size w wr ∧ Hid (T = idxP p (l.drop k) k)) (fun i _ => n - (intOf i).toNat)
  case atStart => exact ⟨0, Nat.zero_le _, rfl, Below.refl _ _, Lib.hid (by rw [HT.out]; rfl)⟩
  case round =>
    obtain ⟨k, hk, rfl, hb, hst⟩ := hrel
    by_cases hlt : k < n
    · obtain ⟨a, ha⟩ := get_of_lt (l := l) (k := k) (by rw [← HN.out]; exact hlt)
      obtain ⟨b, off, rfl, hbB, hcs⟩ := (Lies.below hA hb).at_ ha
      have c0 := hcs k a ha 0 _ rfl
      have c1 := hcs k a ha 1 _ rfl
      have c2 := hcs k a ha 2 _ rfl
      have c3 := hcs k a ha 3 _ rfl
      have c4 := hcs k a ha 4 _ rfl
      have c5 := hcs k a ha 5 _ rfl
      simp only [Nat.add_zero, Nat.mul_one] at c0 c1 c2 c3 c4 c5
      have hst' : Hid (T = if p a = true then (k : Int) else idxP p (l.drop (k + 1)) ((k : Int) + 1)) := Lib.hid (by rw [hst.out, drop_of_get ha]; rfl)
      have hcall := HP.out wr hb a (List.mem_of_getElem? ha)
      clear hcs ha hst
      cases hq : p a with
      | true =>
        rw [hq] at hcall
        have hf := Lib.hid (show T = (k : Int) by rw [hst'.out, if_pos hq])
        clear hst' hq
        go_wp2_with (go_at_fn g; refine hcall.mono ?_; rintro e w2 ⟨rfl, hb2⟩)
        go_ret
        exact ⟨ret_int (by rw [hf.out]), hb.trans (hb2.mono hb.size)⟩
      | false =>
        rw [hq] at hcall
        have hf := Lib.hid (show T = idxP p (l.drop (k + 1)) ((k + 1 : Nat) : Int) by rw [hst'.out, if_neg (by rw [hq]; decide)]; rfl)
        clear hst' hq
        go_wp2_with (go_at_fn g; refine hcall.mono ?_; rintro e w2 ⟨rfl, hb2⟩)
        go_roundw
        case rel => exact ⟨k + 1, by omega, by go_num, hb.trans (hb2.mono hb.size), hf⟩
        case measure => simp [intOf]; omega
    · have hf : Hid (T = -1) := Lib.hid (by rw [hst.out, List.drop_of_length_le (by rw [← HN.out]; omega)]; rfl)
      go_wp2_with fail
      go_ret
      exact ⟨ret_int (by rw [hf.out]), hb⟩

theorem find1_any (f : Fl) (id : Int) (g : Nat) (w : World) (hc : w.cell? ⟨g, 0, none⟩ = some (.int .i64 id)) (hg : g < w.heap.size) :
    Calls Try.prog 57 #[.agg #[.int .i64 f.id, .int .i64 f.fr, .int .i64 f.tn, .int .i64 f.pe, .int .i64 f.ph, .int .i64 f.dl], .pointer (some ⟨g, 0, none⟩)] w fun e w' => e = .returned (.bool (f.id == id)) ∧ Below w.heap.size w w' := by
  go_enter Try.func57, Try.ntmps57
  go_wp2_with fail
  go_ret
  exact ⟨rfl, (Below.refl _ _).alloc (Nat.le_refl _) _⟩

theorem find_any (l : List Fl) (id : Int) (A : Option Addr) (c : Nat) (w : World) (hA : Lies w w.heap.size 6 A (l.map Fl.row)) (hl : l.length ≤ 1000000) :
    Calls Try.prog 30 #[.slice A l.length c, .int .i64 id] w fun e w' => e = .returned (.int .i64 (findF l id)) ∧ Below w.heap.size w w' := by
  have hb1 : Below w.heap.size w (w.alloc (.cells #[.int .i64 id] 3)) := (Below.refl _ _).alloc (Nat.le_refl _) _
  have con := indexF_any (fun f => f.id == id) 57 #[.pointer (some ⟨w.heap.size, 0, none⟩)] l A c (w.alloc (.cells #[.int .i64 id] 3)) (enters_of Try.func57 (by kernel_rfl) rfl)
    ((hA.below hb1).more (by simp)) hl (fun W hb a _ => find1_any a id w.heap.size W ((hb.cell (p := ⟨w.heap.size, 0, none⟩) (by simp)).trans (by simp)) (by have := hb.size; simp at this; omega))
  have hT : idxP (fun f : Fl => f.id == id) l 0 = findF l id := rfl
  rw [hT] at con
  have Con := Lib.hid con
  clear con hA hT
  generalize findF l id = T at *
  generalize l.length = n at *
  go_enter Try.func30, Try.ntmps30
  go_wp2_with (go_at_call 56; (with_reducible refine Con.out.mono ?_); rintro e w2 ⟨rfl, hb2⟩)
  go_ret
  exact ⟨rfl, hb1.trans (hb2.mono (by simp))⟩

theorem cur_yes {f : Fl} {slot : Int} (h1 : fault f = 0) (h2 : f.ph ≤ slot) (h3 : slot ≤ 1099511627776) : cur f slot = ((slot - f.ph) / f.pe, true) := by
  unfold cur; rw [if_pos ⟨h1, h2, h3⟩]
theorem cur_no {f : Fl} {slot : Int} (h : ¬ (fault f = 0 ∧ f.ph ≤ slot ∧ slot ≤ 1099511627776)) : cur f slot = (0, false) := by
  unfold cur; rw [if_neg h]

set_option maxHeartbeats 1000000 in
theorem current_any (f : Fl) (slot : Int) (w : World) :
    Calls Try.prog 16 #[.agg #[.int .i64 f.id, .int .i64 f.fr, .int .i64 f.tn, .int .i64 f.pe, .int .i64 f.ph, .int .i64 f.dl], .int .i64 slot] w fun e w' => e = .returned (.tuple #[.int .i64 (cur f slot).1, .bool (cur f slot).2]) ∧ Below w.heap.size w w' := by
  have hno := @cur_no f slot
  have hyes := @cur_yes f slot
  have hz := @fault_zero f
  have con := fun W => alone_any f W
  generalize cur f slot = T at *
  generalize fault f = F at *
  obtain ⟨id, fr, tn, pe, ph, dl⟩ := f
  dsimp only at *
  have Con := Lib.hid con
  clear con
  by_cases hF : F = 0
  · subst hF
    by_cases h1 : ph ≤ slot
    · by_cases h2 : slot ≤ 1099511627776
      · rw [hyes rfl h1 h2]
        obtain ⟨_, _, _, hp, hq, _, _⟩ := hz rfl
        have hpe : pe ≠ 0 := by omega
        have hi1 : inB slot ph 1099511627776 = true := by simp [inB]; omega
        have hdv : (slot - ph).tdiv pe = (slot - ph) / pe := Int.tdiv_eq_ediv_of_nonneg (by omega)
        have hd0 : 0 ≤ (slot - ph) / pe := Int.ediv_nonneg (by omega) (by omega)
        have hd1 : (slot - ph) / pe ≤ slot - ph := Int.ediv_le_self _ (by omega)
        clear hno hyes hz
        dsimp only
        generalize (slot - ph) / pe = D at *
        go_enter Try.func16, Try.ntmps16
        go_wp2_with (first | (go_at_call 44; (with_reducible refine (Con.out _).mono ?_); rintro e w2 ⟨rfl, hb2⟩; have r2 := (Row.new w [.int .i64 id, .int .i64 fr, .int .i64 tn, .int .i64 pe, .int .i64 ph, .int .i64 dl] 33).below hb2 (by simp); unfold Row at r2) | (go_at_call 65; (with_reducible refine (in_any _ _ _ _).mono ?_); rintro e w' ⟨rfl, rfl⟩))
        go_ret2
        exact ⟨rfl, ((Below.refl _ _).alloc (Nat.le_refl _) _).trans (hb2.mono (by simp))⟩
      · rw [hno (by omega)]
        have hi1 : inB slot ph 1099511627776 = false := by simp [inB]; omega
        have h3 : 1099511627776 < slot := by omega
        clear hno hyes hz
        dsimp only
        go_enter Try.func16, Try.ntmps16
        go_wp2_with (first | (go_at_call 44; (with_reducible refine (Con.out _).mono ?_); rintro e w2 ⟨rfl, hb2⟩; have r2 := (Row.new w [.int .i64 id, .int .i64 fr, .int .i64 tn, .int .i64 pe, .int .i64 ph, .int .i64 dl] 33).below hb2 (by simp); unfold Row at r2) | (go_at_call 65; (with_reducible refine (in_any _ _ _ _).mono ?_); rintro e w' ⟨rfl, rfl⟩))
        go_ret2
        exact ⟨rfl, ((Below.refl _ _).alloc (Nat.le_refl _) _).trans (hb2.mono (by simp))⟩
    · rw [hno (by omega)]
      have hi1 : inB slot ph 1099511627776 = false := by simp [inB]; omega
      have h3 : slot < ph := by omega
      clear hno hyes hz
      dsimp only
      go_enter Try.func16, Try.ntmps16
      go_wp2_with (first | (go_at_call 44; (with_reducible refine (Con.out _).mono ?_); rintro e w2 ⟨rfl, hb2⟩; have r2 := (Row.new w [.int .i64 id, .int .i64 fr, .int .i64 tn, .int .i64 pe, .int .i64 ph, .int .i64 dl] 33).below hb2 (by simp); unfold Row at r2) | (go_at_call 65; (with_reducible refine (in_any _ _ _ _).mono ?_); rintro e w' ⟨rfl, rfl⟩))
      go_ret2
      exact ⟨rfl, ((Below.refl _ _).alloc (Nat.le_refl _) _).trans (hb2.mono (by simp))⟩
  · rw [hno (by omega)]
    have h3 : (F != 0) = true := by simpa using hF
    clear hno hyes hz
    dsimp only
    go_enter Try.func16, Try.ntmps16
    go_wp2_with (first | (go_at_call 44; (with_reducible refine (Con.out _).mono ?_); rintro e w2 ⟨rfl, hb2⟩; have r2 := (Row.new w [.int .i64 id, .int .i64 fr, .int .i64 tn, .int .i64 pe, .int .i64 ph, .int .i64 dl] 33).below hb2 (by simp); unfold Row at r2) | (go_at_call 65; (with_reducible refine (in_any _ _ _ _).mono ?_); rintro e w' ⟨rfl, rfl⟩))
    go_ret2
    exact ⟨rfl, ((Below.refl _ _).alloc (Nat.le_refl _) _).trans (hb2.mono (by simp))⟩

set_option maxHeartbeats 1000000 in
theorem rfault_any (f : Fl) (w : World) :
    Calls Try.prog 64 #[.int .i64 32, .agg #[.int .i64 f.id, .int .i64 f.fr, .int .i64 f.tn, .int .i64 f.pe, .int .i64 f.ph, .int .i64 f.dl]] w fun e w' => e = .returned (.int .i64 (fault f)) ∧ Below w.heap.size w w' := by
  obtain ⟨T, hT⟩ : ∃ T, T = fault f := ⟨_, rfl⟩
  rw [← hT]
  have HT := Lib.hid (fun R h => hT.trans (fault_eq f R h).symm)
  clear hT
  obtain ⟨id, fr, tn, pe, ph, dl⟩ := f
  dsimp only at HT
  have hbi : ∀ (x a b : Int), inB x a b = true ↔ a ≤ x ∧ x ≤ b := fun x a b => by simp [inB]
  have hbj : ∀ (x a b : Int), inB x a b = false ↔ ¬ (a ≤ x ∧ x ≤ b) := fun x a b => by rw [← hbi, Bool.not_eq_true]
  have HI := Lib.hid hbi
  have HJ := Lib.hid hbj
  clear hbi hbj
  by_cases hpe : 1 ≤ pe ∧ pe ≤ 512
  · have hw : IntKind.i64.wrap (pe - 1) = pe - 1 := by rw [IntKind.wrap_i64]; omega
    have hpi := (HI.out pe 1 512).2 hpe
    obtain ⟨hp1, hp2⟩ := hpe
    go_enter Try.func64, Try.ntmps64
    go_wp2_with (go_at_call 65; (with_reducible refine (in_any _ _ _ _).mono ?_); rintro e w' ⟨rfl, rfl⟩)
    all_goals
      go_ret
      refine ⟨ret_int (HT.out _ ?_).symm, by repeat (first | exact Below.refl _ _ | refine Below.alloc ?_ (by simp) _ )⟩
      try simp only [decide_eq_true_eq, Bool.not_eq_true', Bool.not_eq_false', decide_eq_false_iff_not, beq_iff_eq, beq_eq_false_iff_ne, ne_eq, HI.out, HJ.out] at *
      first
        | (rw [if_neg (by omega)]; done)
        | (rw [if_pos (by omega), if_pos (by omega)]; done)
        | (rw [if_pos (by omega), if_neg (by omega)]; done)
  · have hpi := (HJ.out pe 1 512).2 hpe
    go_enter Try.func64, Try.ntmps64
    go_wp2_with (go_at_call 65; (with_reducible refine (in_any _ _ _ _).mono ?_); rintro e w' ⟨rfl, rfl⟩)
    all_goals
      go_ret
      refine ⟨ret_int (HT.out _ ?_).symm, by repeat (first | exact Below.refl _ _ | refine Below.alloc ?_ (by simp) _ )⟩
      try simp only [decide_eq_true_eq, Bool.not_eq_true', Bool.not_eq_false', decide_eq_false_iff_not, beq_iff_eq, beq_eq_false_iff_ne, ne_eq, HI.out, HJ.out] at *
      first
        | (rw [if_neg (by omega)]; done)
        | (rw [if_pos (by omega), if_pos (by omega)]; done)
        | (rw [if_pos (by omega), if_neg (by omega)]; done)

set_option maxHeartbeats 1000000 in
theorem rcurrent_any (f : Fl) (slot : Int) (w : World) :
    Calls Try.prog 39 #[.agg #[.int .i64 f.id, .int .i64 f.fr, .int .i64 f.tn, .int .i64 f.pe, .int .i64 f.ph, .int .i64 f.dl], .int .i64 slot] w fun e w' => e = .returned (.tuple #[.int .i64 (cur f slot).1, .bool (cur f slot).2]) ∧ Below w.heap.size w w' := by
  have hno := @cur_no f slot
  have hyes := @cur_yes f slot
  have hz := @fault_zero f
  have con := fun W => rfault_any f W
  generalize cur f slot = T at *
  generalize fault f = F at *
  obtain ⟨id, fr, tn, pe, ph, dl⟩ := f
  dsimp only at *
  have Con := Lib.hid con
  clear con
  by_cases hF : F = 0
  · subst hF
    by_cases h1 : ph ≤ slot
    · by_cases h2 : slot ≤ 1099511627776
      · rw [hyes rfl h1 h2]
        obtain ⟨_, _, _, hp, hq, _, _⟩ := hz rfl
        have hpe : pe ≠ 0 := by omega
        have hi1 : inB slot ph 1099511627776 = true := by simp [inB]; omega
        have hdv : (slot - ph).tdiv pe = (slot - ph) / pe := Int.tdiv_eq_ediv_of_nonneg (by omega)
        have hd0 : 0 ≤ (slot - ph) / pe := Int.ediv_nonneg (by omega) (by omega)
        have hd1 : (slot - ph) / pe ≤ slot - ph := Int.ediv_le_self _ (by omega)
        clear hno hyes hz
        dsimp only
        generalize (slot - ph) / pe = D at *
        go_enter Try.func39, Try.ntmps39
        go_wp2_with (first | (go_at_call 64; (with_reducible refine (Con.out _).mono ?_); rintro e w2 ⟨rfl, hb2⟩; have r2 := (Row.new w [.int .i64 id, .int .i64 fr, .int .i64 tn, .int .i64 pe, .int .i64 ph, .int .i64 dl] 33).below hb2 (by simp); unfold Row at r2) | (go_at_call 65; (with_reducible refine (in_any _ _ _ _).mono ?_); rintro e w' ⟨rfl, rfl⟩))
        go_ret2
        exact ⟨rfl, ((Below.refl _ _).alloc (Nat.le_refl _) _).trans (hb2.mono (by simp))⟩
      · rw [hno (by omega)]
        have hi1 : inB slot ph 1099511627776 = false := by simp [inB]; omega
        have h3 : 1099511627776 < slot := by omega
        clear hno hyes hz
        dsimp only
        go_enter Try.func39, Try.ntmps39
        go_wp2_with (first | (go_at_call 64; (with_reducible refine (Con.out _).mono ?_); rintro e w2 ⟨rfl, hb2⟩; have r2 := (Row.new w [.int .i64 id, .int .i64 fr, .int .i64 tn, .int .i64 pe, .int .i64 ph, .int .i64 dl] 33).below hb2 (by simp); unfold Row at r2) | (go_at_call 65; (with_reducible refine (in_any _ _ _ _).mono ?_); rintro e w' ⟨rfl, rfl⟩))
        go_ret2
        exact ⟨rfl, ((Below.refl _ _).alloc (Nat.le_refl _) _).trans (hb2.mono (by simp))⟩
    · rw [hno (by omega)]
      have hi1 : inB slot ph 1099511627776 = false := by simp [inB]; omega
      have h3 : slot < ph := by omega
      clear hno hyes hz
      dsimp only
      go_enter Try.func39, Try.ntmps39
      go_wp2_with (first | (go_at_call 64; (with_reducible refine (Con.out _).mono ?_); rintro e w2 ⟨rfl, hb2⟩; have r2 := (Row.new w [.int .i64 id, .int .i64 fr, .int .i64 tn, .int .i64 pe, .int .i64 ph, .int .i64 dl] 33).below hb2 (by simp); unfold Row at r2) | (go_at_call 65; (with_reducible refine (in_any _ _ _ _).mono ?_); rintro e w' ⟨rfl, rfl⟩))
      go_ret2
      exact ⟨rfl, ((Below.refl _ _).alloc (Nat.le_refl _) _).trans (hb2.mono (by simp))⟩
  · rw [hno (by omega)]
    have h3 : (F != 0) = true := by simpa using hF
    clear hno hyes hz
    dsimp only
    go_enter Try.func39, Try.ntmps39
    go_wp2_with (first | (go_at_call 64; (with_reducible refine (Con.out _).mono ?_); rintro e w2 ⟨rfl, hb2⟩; have r2 := (Row.new w [.int .i64 id, .int .i64 fr, .int .i64 tn, .int .i64 pe, .int .i64 ph, .int .i64 dl] 33).below hb2 (by simp); unfold Row at r2) | (go_at_call 65; (with_reducible refine (in_any _ _ _ _).mono ?_); rintro e w' ⟨rfl, rfl⟩))
    go_ret2
    exact ⟨rfl, ((Below.refl _ _).alloc (Nat.le_refl _) _).trans (hb2.mono (by simp))⟩
end Go.Proofs.Ytepamedbbbfjkaa
